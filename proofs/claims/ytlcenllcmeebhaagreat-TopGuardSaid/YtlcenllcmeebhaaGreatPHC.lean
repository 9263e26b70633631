import Derived.Test.YtlcenllcmeebhaaGreatPHB
/-! What the statement leans on: texts joined and shortened by a program of mine. -/
set_option linter.unusedVariables false
set_option linter.unusedSimpArgs false
open Go renaming World->A2,Addr->Ab,Value->Ad,MapEntry->Av,TypeId->BN
open Go.Proofs.Tryz renaming prog->AC
open Eq renaming mpr->Ae
open List renaming getElem?_eq_getElem->B1,sublist_cons_self->B3,getD_eq_getElem?_getD->B4,getElem?_eq_some_iff->B5,replicate->BK,mem_append_right->BO,mem_cons_of_mem->Bp,append_nil->Bs,set_set->Bv,mem_map->Bx,range->Bz,mem_cons_self->C6,append_assoc->CN,mem_append_left->CO,sublist_append_left->CP,ext_getElem?->Cb,getElem?_set_self->DA,length_append->Dc,take_of_length_le->De,mem_cons->Dl,getElem?_set_ne->Dn,mem_of_getElem?->Do,getElem?_of_mem->Dv,length_take->E4,perm_append_comm->E9,take_append_of_le_length->EO,take_append_drop->EU,map_append->EW,range_succ->EY,filter_cons->F0,mem_range->FF,length_map->FS,length_cons->Ff,length_nil->Fs,getElem?_append_right->Fu,length_set->Fv,set_append_left->Fw,getElem?_map->Fx,drop_eq_nil_of_le->G1,drop_drop->GS,getElem?_take_of_lt->Ga,getElem_mem->HM,getElem?_append_left->HZ,nodup_cons->Hb,mem_append->Hq,filter_append->Hr,mem_filter->Ht,length_filter_le->Hy,find?_range_eq_some->I1,take_add_one->I2,getElem?_eq_none->IR,cons_append->In,take_length->J3
open And renaming intro->B2
open Go.IntKind renaming i64->BJ
open Nat renaming zero_add->BL,le_refl->C7,le_trans->DB,zero_le->E5,add_mul->E6,zero_mul->Gd,blt_eq->Gi,add_zero->H4,eq_of_beq_eq_true->H5,ne_of_beq_eq_false->H6,min_eq_left->JC
open Go.Instr renaming findNow->CH,sameNow->JD
open Bool renaming or_eq_true->CV,and_eq_true->CX,or_eq_false_iff->Da,not_eq_true'->Db,and_eq_false_iff->H7,false_eq_true->HB,true_eq_false->HE,not_eq_false'->HG,eq_iff_iff->JJ
namespace Go.Proofs.YtlcenllcmeebhaaGreat
set_option maxRecDepth 100000
open Go.RX
def Bw (Ls:List (Nat×List Ad)) (s:Option Ab×Nat×Nat) (xs:List Int):Prop:=
 (s=(none,0,0)/\xs=[]/\Ls=[])\/ ∃bs c rest,s=(some ⟨bs,0,none⟩,xs.length,c)/\Ls=[(bs,flat eI xs++rest)]/\(flat eI xs++rest).length=c*aG eI/\xs.length<=c
def okW (ws:List Int):Prop:= ∀x∈ws,0<=x/\x<18446744073709551616
def bG (ws:List Int) (pg wt:Int) (x:Int×Int×FT):Int×Int×FT:=
 if x.2.1= -1 then x
 else if(!ua (B (dJ ws (dY x.1 pg x.2.1))).toNat||zM ws (dY x.1 pg x.2.1) != 0)=true then(x.1,-1,wI x.2.1 11)
 else tookS x.1 pg wt x.2.1 x.2.2 (Hs (B (dJ ws (dY x.1 pg x.2.1))).toNat) (Fc (B (dJ ws (dY x.1 pg x.2.1))).toNat) (Jx (B (dJ ws (dY x.1 pg x.2.1))).toNat) (ES (B (dJ ws (dY x.1 pg x.2.1))).toNat)
theorem FP {ws:List Int} (h:okW ws) (i:Int):0<=dJ ws i/\dJ ws i<18446744073709551616:=by
 unfold dJ;split
 ·rename_i hi;rw[gF] at hi;rw[B4,B1 (by omega)];exact h _ (HM _)
 ·exact⟨by decide,by decide⟩
section
variable {D G:List Nat} {w0 w:A2} {L L0 Ls:List (Nat×List Ad)} {bk bm bw n c:Nat} {ca la fr pg wt lv:Int} {fd:FT} {s:Option Ab×Nat×Nat} {ws xs:List Int} {rest:List Ad}
theorem Qb (hb:bM w bk (lF fr pg wt lv fd s)) (a:lv≠ -1):aE AC 58 (.el (.agg sA)) [ag (ae bk)] w (λx w'=>x=(1,dY fr pg lv,0,0,())/\Ext w w'):=by
 refine aQ (C:=M1) (aT:=λ_=>[]) (Ae (PZ _ w _) ?_);have H:=At.start [] w;refine aK.go H λb c H=>⟨λ_=>rfl,λ_=>rfl,aj.kR H hb (by simp) rfl ⟨λ_=>rfl,λ_=>rfl,aj.kR H hb (by simp) rfl (an (by simp[a]) ?_)⟩⟩;refine⟨rfl,rfl,aj.kR H hb (by simp) rfl ⟨rfl,rfl,aj.kR H hb (by simp) rfl ⟨rfl,rfl,aj.kR H hb (by simp) rfl ⟨trivial,aC.all 0 H rfl rfl rfl λd H=>ao.go H λe H=>aj.at 0 H rfl rfl ⟨rfl,H.all⟩⟩⟩⟩⟩
theorem DM (H:At G w0 w ((bk,lF fr pg wt lv fd s)::(bm,iP bw n c ca la)::(bw,flat eW ws++rest)::(Ls++L0))) (r:Bw Ls s xs) (L:xs.length<=1000) (t:n=ws.length) (h0:0<n) (u:okW ws) (d:lv≠ -1) {K:Bool->A2->Prop}
 (k: ∀e g s',Bw g s' (xs++[fr])->At G w0 e ((bk,lF (bG ws pg wt (fr,lv,fd)).1 pg wt (bG ws pg wt (fr,lv,fd)).2.1 (bG ws pg wt (fr,lv,fd)).2.2 s')::(bm,iP bw n c (qo ws (dY fr pg lv) ca) la)::(bw,flat eW ws++rest)::(g++L0))->K ((bG ws pg wt (fr,lv,fd)).2.1== -1) e):
 aD AC 22 (.el (.one .bool)) [ag (ae bk),ag (ae bm)] w K:=by
 refine aD.go H λw1 H=>ai (C:=M1) (aT:=λ_=>[]) (Ae (P5 _ _ w1 K) ?_);refine⟨λ_=>rfl,λ_=>rfl,aj.bP 0 H rfl rfl (an rfl ⟨rfl,rfl,aj.bP 0 H rfl rfl (an (by simp[d]) ?_)⟩)⟩;refine⟨(1,dY fr pg lv,0,0,()),ah.of (s:= .el (.agg sA)) λw' h'=>Qb ((H.get (i:=0) rfl).ext h') d,?_⟩;refine WG H rfl 1 2 rfl rfl (by decide) t h0 (dY fr pg lv) 0 0 λe H=>?_;refine aK.go H λb M H=>aC.all 0 H rfl rfl rfl λN H=>⟨rfl,rfl,aj.bP 1 H rfl rfl ⟨rfl,rfl,aj.bP 1 H rfl rfl (aK.go H λh O H=>λz A=>?_)⟩⟩;have H:=H.ext A;dsimp only at H ⊢;generalize hv:dJ ws (dY fr pg lv)=v at H ⊢;generalize D:zM ws (dY fr pg lv)=er at H ⊢;have j:0<=v/\v<18446744073709551616:=by rw[<-hv];exact FP u _
 have H:At G w0 z ([(h,cellsOf eI fr)]++([(b,[ay v,.bool false,aa er]),(bk,lF fr pg wt lv fd s),(bm,iP bw n c (qo ws (dY fr pg lv) ca) la),(bw,flat eW ws++rest)]++(Ls++L0))):=H;have H:=H.perm (L':=(h,cellsOf eI fr)::(Ls++([(b,[ay v,.bool false,aa er]),(bk,lF fr pg wt lv fd s),(bm,iP bw n c (qo ws (dY fr pg lv) ca) la),(bw,flat eW ws++rest)]++L0))) (.cons _ (by
  rw[<-CN, <-CN];exact List.Perm.append_right _ E9))
 refine aJ.grow H r rfl rfl rfl (by omega) λbs m a P E F H=>⟨rfl,rfl,aC.fb 2 H rfl rfl rfl λQ H=>⟨rfl,aj.bP 1 H rfl rfl ?_⟩⟩;have I:U (B v)=v:=BD j.1 j.2;refine⟨I,aK.go H λR S H=>aC.all 0 H rfl rfl rfl λT H=>⟨λ_=>rfl,aj.bP 2 H rfl rfl ?_⟩⟩;have o:bG ws pg wt (fr,lv,fd)=if(!ua (B v).toNat||er != 0)=true then(fr,-1,wI lv 11) else tookS fr pg wt lv fd (Hs (B v).toNat) (Fc (B v).toNat) (Jx (B v).toNat) (ES (B v).toNat):=by
  unfold bG;simp only[hv,D];rw[au d]
 have p:Bw [(bs,flat eI (xs++[fr])++a)] (some ⟨bs,0,none⟩,xs.length+1,m) (xs++[fr]):= .inr ⟨bs,m,a,by rw[Dc];rfl,rfl,E,by rw[Dc];exact F⟩;have q: ∀{w:A2} {x y:Nat×List Ad} {l:List Ad},At G w0 w (x::(bs,flat eI (xs++[fr])++a)::y::(bk,l)::(bm,iP bw n c (qo ws (dY fr pg lv) ca) la)::(bw,flat eW ws++rest)::L0)->At G w0 w ((bk,l)::(bm,iP bw n c (qo ws (dY fr pg lv) ca) la)::(bw,flat eW ws++rest)::([(bs,flat eI (xs++[fr])++a)]++L0)):=λ{w x y l} H=>by
  have H:=H.sub (B3 _ _);have H:=H.sub (L':=[(bs,flat eI (xs++[fr])++a)]++([(bk,l),(bm,iP bw n c (qo ws (dY fr pg lv) ca) la),(bw,flat eW ws++rest)]++L0)) (.cons_cons _ (B3 _ _));refine H.perm ?_;refine List.Perm.trans (l₂:=[(bk,l),(bm,iP bw n c (qo ws (dY fr pg lv) ca) la),(bw,flat eW ws++rest)]++([(bs,flat eI (xs++[fr])++a)]++L0)) (.refl _) ?_;rw[<-CN, <-CN];exact List.Perm.append_right _ E9
 refine ab (λc1=>?_) (λc1=>aj.at 0 H rfl rfl ?_)
 ·rw[o,az c1] at k;exact pT H 3 rfl 0 0 0 11 λJ H=>ao.go H λf H=>k f _ _ p (q H)
 ·rw[o,au (by rw[c1];decide)] at k;refine Uq H 3 rfl _ _ _ _ λJ H=>⟨rfl,rfl,aj.bP 3 H rfl rfl (ao.go H λf H=>k f _ _ p (q H))⟩
theorem Ur (hb:bM w bk (lF fr pg wt lv fd s)):aE AC 24 (.bu [.agg sF,.one .bool]) [ag (ae bk)] w (λx w'=>x=(if lv= -1 then(fd,true,()) else((0,0,0,0,()),false,()))/\Ext w w'):=by
 obtain⟨f0,f1,f2,f3,f⟩:=fd;refine aQ (C:=M1) (aT:=λ_=>[]) (Ae (Un _ w _) ?_);have H:=At.start [] w;refine aK.go H λb g H=>⟨λ_=>rfl,λ_=>rfl,aj.kR H hb (by simp) rfl ⟨λ_=>rfl,λ_=>rfl,aj.kR H hb (by simp) rfl (ab (λc=>?_) (λc=>?_))⟩⟩
 ·have a:lv≠ -1:=by simpa using c
  rw[au a];exact aC.all 0 H rfl rfl rfl λd H=>ao.go H λe H=>aj.at 0 H rfl rfl ⟨rfl,H.all⟩
 ·have a:lv= -1:=by simpa using c
  rw[az a];refine⟨rfl,rfl,aj.kR (x:=(f0,f1,f2,f3,())) H hb (by simp) rfl ?_⟩;exact aC.all 0 H rfl rfl rfl λd H=>ao.go H λe H=>aj.at 0 H rfl rfl ⟨rfl,H.all⟩
def uw (f p t:Int):Bool:=decide (dY f p 3<0)||decide (t<0)||decide (t>7)
theorem Ix (H:aJ D G w0 w L) (f p t:Int) {K:Option Ab->A2->Prop} (hb:uw f p t=true-> ∀w1,aJ D G w0 w1 L->K none w1)
 (d:uw f p t=false-> ∀bk w1,aJ D G w0 w1 ((bk,lF f p t 3 (0,0,0,0,()) (none,0,0))::L)->K (ae bk) w1):
 aD AC 20 (.el (.one .ptr)) [aa f,aa p,aa t] w K:=by
 refine aD.go H λw1 H=>ai (C:=M1) (aT:=λ_=>[]) (Ae (Uk f p t w1 K) ?_);refine aK.go H λb e H=>⟨trivial,ab (λc=>ao.go H λa H=>hb c a (H.sub (B3 _ _))) (λc=>ao.go H λa H=>d c b a H)⟩
end
section
variable {D G:List Nat} {w0 w:A2}
theorem _root_.Go.RX.aJ.aaZ {e:El} {s:Option Ab×Nat×Nat} {xs ys:List e.T} {b U:Nat} {I:List Ad} {Ls L0:List (Nat×List Ad)} (H:aJ D G w0 w ((b,flat e ys++I)::(Ls++L0))) (d:ys≠[])
 (o:(s=(none,0,0)/\xs=[]/\Ls=[])\/ ∃bs c rest,s=(some ⟨bs,0,none⟩,xs.length,c)/\Ls=[(bs,flat e xs++rest)]/\(flat e xs++rest).length=c*aG e/\xs.length<=c)
 (V:gU e=true) {t:BN} {size bytes:Nat} {z:Array Ad} (q:size=aG e) (W:z.size=aG e) (hb:(xs.length+ys.length)*bytes<=140737488355328)
 {R:Option Ab×Nat×Nat->A2->Prop} (k: ∀bs c rest w',(flat e (xs++ys)++rest).length=c*aG e->(xs++ys).length<=c->aJ D G w0 w' ((bs,flat e (xs++ys)++rest)::L0)->R (some ⟨bs,0,none⟩,(xs++ys).length,c) w'):
 m7 w t size bytes z s (some ⟨b,0,none⟩,ys.length,U) R:=by
 subst q;have X:(vk 0 w).heap.size=0:=iz (E5 _);have Y:lD (vk 0 w) w e s xs:=by
  rcases o with ⟨rfl,rfl, _⟩|⟨bs,c,rest,rfl,rfl,h1,v⟩
  ·exact lD.nil _ _ _
  ·refine⟨rfl,v,.inr ⟨bs, _,rfl,by rw[X];exact E5 _,H.get (i:=1) rfl,h1,?_⟩⟩;rw[EO (by rw[aI];exact C7 _),De (by rw[aI];exact C7 _)]
 have Z:bM w b (flat e ys++I):=H.get (i:=0) rfl;refine lu (ys:=ys) Y (p_ (E5 _)) V rfl ?_ W hb λs' w' xy g J q K=>?_
 ·refine Z.qn (aI e ys) λj hj=>?_;rw[BL,HZ (by rw[aI];exact hj)]
 ·obtain⟨p,n,c⟩:=s';obtain⟨h1,v,L⟩:=xy;simp only at h1 v L K;have hyl:0<ys.length:=List.length_pos_iff.2 d;have hlen:(xs++ys).length=xs.length+ys.length:=by simp
  rcases L with ⟨_,M, _⟩|⟨bs,l,a1, _,a3,a4,a5⟩
  ·simp at M;exact absurd M.2 d
  ·subst a1;subst h1;have el:l=flat e (xs++ys)++l.drop ((xs++ys).length*aG e):=by rw[<-a5,EU]
   refine k bs c (l.drop ((xs++ys).length*aG e)) w' (by rw[<-el];exact a4) v ?_;rw[<-el];have hG': ∃C,Fr C w w'/\(∀y∈C,y∈Ls.map (·.1)):=by
    rcases o with ⟨rfl, _,rfl⟩|⟨bo,co,N,rfl,rfl, _, _⟩
    ·exact⟨[],⟨g.os,g.tape,g.output,q,λy d _=>J y d (λa E=>by cases E)⟩,λy d=>by cases d⟩
    ·exact⟨[bo],⟨g.os,g.tape,g.output,q,λy d hn=>J y d (λa E=>by cases E;simpa using hn)⟩,λy d=>by simpa using d⟩
   obtain⟨C,O,F⟩:=hG';have x:=H.nd;simp only[List.map_cons,EW,Hb,List.nodup_append,Hq] at x;have P: ∀y∈Ls.map (·.1),w0.heap.size<=y\/y∈G:=λy d=>by
    obtain⟨u,m,rfl⟩:=Bx.1 d;exact H.own u (Bp _ (CO _ m))
   have Q:bs∈Ls.map (·.1)\/w.heap.size<=bs:=by
    rcases K with ⟨a,f,A⟩|⟨a,f,A⟩|f
    ·cases f;rcases o with ⟨rfl, _, _⟩|⟨bo,co,N,rfl,rfl, _, _⟩
     ·cases A
     ·cases A;exact .inl (by simp)
    ·cases f;exact .inr A
    ·rcases o with ⟨rfl,rfl, _⟩|⟨bo,co,N,rfl,rfl, _, _⟩
     ·cases f
     ·have S:=congrArg (λz=>z.2.1) f;simp at S;exact absurd S d
   refine H.frame O (λy d=>P y (F y d)) (λr hr d=>?_) (λy d=>?_) (λy d=>?_) ?_
   ·obtain⟨u,m,f⟩:=Bx.1 (F r d);exact aJ.da (H.dp u (Bp _ (CO _ m))) (H.pM r hr).2 (λ_ _ _ hc=>by cases hc) f
   ·rcases Dl.1 d with rfl|d
    ·exact a3
    ·refine O.dp (λB=>?_) (H.dp y (Bp _ (BO _ d)));exact x.2.2.2 y.1 (F _ B) y.1 (Bx.2 ⟨y,d,rfl⟩) rfl
   ·rcases Dl.1 d with rfl|d
    ·rcases Q with h|h
     ·exact P _ h
     ·exact .inl (DB H.fr.size h)
    ·exact H.own y (Bp _ (BO _ d))
   ·refine Hb.2 ⟨λB=>?_,x.2.2.1⟩;rcases Q with h|h
    ·exact x.2.2.2 bs h bs B rfl
    ·obtain⟨u,m,f⟩:=Bx.1 B;have:=(H.dp u (Bp _ (BO _ m))).lt;simp only at f h;omega
end
abbrev mw (br n c:Nat):List Ad:=[.slice (ae br) n c]
def lN (gs:List GT) (i:Int):Option Nat:=if 0<=i/\i<gs.length/\gs.getD i.toNat zG≠zG then some i.toNat else none
def wJ (gs:List GT) (i:Int):GT:=match lN gs i with
 |some k=>gs.getD k zG
 |none=>zG
def gV (gs:List GT) (i g:Int) (b:Bool):Int:=match lN gs i with
 |none=>4
 |some k=>if((gs.getD k zG).2.2.1 != g||b&& !(gs.getD k zG).2.2.2.1)=true then 7 else if(gs.getD k zG).2.2.2.2.1=1000 then 3 else 0
def fD (x:GT) (n:Int):GT:=(x.1,x.2.1,x.2.2.1,x.2.2.2.1,x.2.2.2.2.1+n,())
def dX (gs:List GT) (i g:Int) (b:Bool):List GT:=if gV gs i g b=0 then gs.set i.toNat (fD (gs.getD i.toNat zG) 1) else gs
def mm (gs:List GT) (i g:Int):Int:=match lN gs i with
 |none=>4
 |some k=>if(gs.getD k zG).2.2.1≠g then 7 else if(gs.getD k zG).2.2.2.2.1=0 then 6 else 0
def eJ (gs:List GT) (i g:Int):List GT:=if mm gs i g=0 then gs.set i.toNat (fD (gs.getD i.toNat zG) (-1)) else gs
def qH (gs:List GT) (i o:Int):Int:=match lN gs i with
 |none=>4
 |some k=>if(gs.getD k zG).1≠o then 7 else if(gs.getD k zG).2.2.2.2.1>0 then 9 else 0
def kX (gs:List GT) (i o:Int):List GT:=if qH gs i o=0 then gs.set i.toNat zG else gs
def db (gs:List GT) (p:GT->Bool) (n:Nat):List Int:=((Bz n).filter λ(i:Nat)=>p (gs.getD i zG)).map λ(i:Nat)=>(i:Int)
def j9 (o q t:Int) (x:GT):Bool:=o==x.1&&(q==x.2.1&&t==x.2.2.1)
def e8 (x:GT):Bool:=decide (x=zG)
def oK (g:Int) (x:GT):Bool:= !e8 x&&(x.1==g||x.2.2.1==g)
def kY (gs:List GT) (o q t:Int):Int:=
 if(!gG o|| !gG t||o==t||decide (q<0)||decide (q>=65536))=true then 1
 else if db gs (j9 o q t) gs.length≠[] then 5 else if db gs e8 gs.length=[] then 3 else 0
def kh (gs:List GT) (o q t:Int):Int:=if kY gs o q t=0 then(db gs e8 gs.length).headD 0 else 0
def jQ (gs:List GT) (o q t:Int) (b:Bool):List GT:=if kY gs o q t=0 then gs.set (kh gs o q t).toNat (o,q,t,b,0,()) else gs
def cQ (gs:List GT) (g:Int):List GT:=gs.map λx=>if oK g x=true then zG else x
theorem Qc (x:GT):mC x.1 x.2.1 x.2.2.1 x.2.2.2.1 x.2.2.2.2.1=e8 x:=rfl
theorem rP (gs:List GT) (p:GT->Bool) (n:Nat):db gs p (n+1)=db gs p n++(if p (gs.getD n zG)=true then[(n:Int)] else[]):=by
 unfold db;rw[EY,Hr,EW];by_cases h:p (gs.getD n zG)=true
 ·rw[az h,F0,az h];rfl
 ·rw[au h,F0,au h];rfl
theorem qc {gs:List GT} {p:GT->Bool} {n:Nat} {x:Int}:x∈db gs p n<-> ∃i:Nat,i<n/\p (gs.getD i zG)=true/\x=(i:Int):=by
 unfold db;simp only[Bx,Ht,FF];constructor
 ·rintro⟨i,⟨h1,a⟩,rfl⟩;exact⟨i,h1,a,rfl⟩
 ·rintro⟨i,h1,a,rfl⟩;exact⟨i,⟨h1,a⟩,rfl⟩
theorem qd (gs:List GT) (p:GT->Bool) (n:Nat):(db gs p n).length<=n:=by
 unfold db;rw[FS];exact DB (Hy _ _) (by simp)
theorem lh {gs:List GT} {i:Int} {k:Nat} (h:lN gs i=some k):0<=i/\i<gs.length/\k=i.toNat/\gs[k]? =some (gs.getD k zG)/\gs.getD k zG≠zG:=by
 unfold lN at h;split at h
 ·rename_i c;cases h;refine⟨c.1,c.2.1,rfl,?_,c.2.2⟩;rw[B4,B1 (by omega)];rfl
 ·cases h
section
variable {D G:List Nat} {w0 w:A2} {L:List (Nat×List Ad)} {bg br c:Nat} {gs:List GT} {rest:List Ad}
theorem Ks (h:bM w bg (mw br gs.length c)) (h0:0<gs.length):aE AC 224 (.el (.one .bool)) [ag (ae bg)] w (λx w'=>x=true/\Ext w w'):=by
 refine ai (C:=G3) (aT:=λ_=>[]) (Ae (Kd _ w _) ?_);refine⟨λ_=>rfl,λ_=>rfl,(some ⟨br,0,none⟩,gs.length,c),λ_=>?_,λw1 h1=>⟨?_,h1⟩⟩
 ·rw[aR];exact h.lM rfl
 ·simp;exact h0
theorem pq (h:bM w bg (mw br gs.length c)) (h0:0<gs.length):ah AC 224 [ag (ae bg)] w (.bool true):=
 ah.of (s:= .el (.one .bool)) λw' h'=>Ks (h.ext h') h0
def BF (br:Nat) (gs:List GT) (i:Int):Option Ab:=(lN gs i).map λk=>⟨br,k*5,none⟩
def BG (gs:List GT) (i:Int):Int:=if(lN gs i).isSome then 0 else 4
theorem YY (h:bM w bg (mw br gs.length c)) (j:bM w br (flat eG gs++rest)) (h0:0<gs.length) (i:Int):
 aE AC 221 (.bu [.one .ptr,.one (.int .i64)]) [ag (ae bg),aa i] w (λx w'=>x=(BF br gs i,BG gs i,())/\Ext w w'):=by
 refine ai (C:=G3) (aT:=λ_=>[]) (Ae (YQ _ i w _) ?_);have f:cP w (ad (ae bg) 0) (.one .slice) (some ⟨br,0,none⟩,gs.length,c):=by rw[aR];exact h.lM rfl
 refine⟨_,pq h h0,an rfl ⟨λ_=>rfl,λ_=>rfl,(some ⟨br,0,none⟩,gs.length,c),λ_=>f,λ_=>rfl,λ_=>rfl,(some ⟨br,0,none⟩,gs.length,c),λ_=>f,?_⟩⟩;dsimp only;have g:(lN gs i=none)->(BF br gs i,BG gs i,())=((none,4,()):Option Ab×Int×Unit):=λe=>by
  unfold BF BG;rw[e];rfl
 by_cases b:0<=i/\i<gs.length
 ·have c1:(decide (i<0)||decide (i>=((gs.length:Nat):Int)))=false:=by
   rw[Da,decide_eq_false_iff_not,decide_eq_false_iff_not];omega
  have k:gs[i.toNat]? =some (gs.getD i.toNat zG):=by
   rw[B4,B1 (by omega)];rfl
  rw[c1];refine⟨λ_=>⟨rfl,b.1,b.2⟩,gs.getD i.toNat zG,λ_=>eh (e:=eG) j k,λ_=>trivial,?_⟩;rw[Qc];refine ab (λd=>λw1 h1=>⟨(g ?_).symm,h1⟩) (λd=>⟨rfl,rfl,aj.of _ f ⟨⟨rfl,b.1,b.2⟩,λw1 h1=>⟨?_,h1⟩⟩⟩)
  ·have d:gs.getD i.toNat zG=zG:=by simpa[e8] using d
   unfold lN;rw[au (λa=>a.2.2 d)]
  ·have d: ¬ gs.getD i.toNat zG=zG:=by simpa[e8] using d
   have e:lN gs i=some i.toNat:=by unfold lN;rw[az ⟨b.1,b.2,d⟩]
   unfold BF BG;rw[e,aR];simp
 ·have c1:(decide (i<0)||decide (i>=((gs.length:Nat):Int)))=true:=by
   rw[CV,decide_eq_true_eq,decide_eq_true_eq];omega
  rw[c1];refine⟨λa=>(by cases a),zG,λa=>(by cases a),λ_=>trivial,aF rfl λw1 h1=>⟨(g ?_).symm,h1⟩⟩;unfold lN;rw[au (λa=>b ⟨a.1,a.2.1⟩)]
theorem HT (h:bM w bg (mw br gs.length c)) (a:bM w br (flat eG gs++rest)) (h0:0<gs.length) (i:Int):
 ah AC 221 [ag (ae bg),aa i] w ((Sh.bu [.one .ptr,.one (.int .i64)]).gR (BF br gs i,BG gs i,())):=
 ah.of (s:= .bu [.one .ptr,.one (.int .i64)]) λw' h'=>YY (h.ext h') (a.ext h') h0 i
theorem Us {bc:Nat} {o q t:Int} (hc:bM w bc [aa o,aa q,aa t,.bool false,aa 0]) (x:GT):
 ah AC 226 [.agg ⟨[aa x.1,aa x.2.1,aa x.2.2.1,.bool x.2.2.2.1,aa x.2.2.2.2.1]⟩,ag (ae bc)] w (.bool (j9 o q t x)):=by
 refine ah.of (s:= .el (.one .bool)) λw' h'=>ai (C:=G3) (aT:=λ_=>[]) (Ae (PD _ _ _ _ _ _ w' _) ?_);have H:=At.start [] w';refine aK.go H λb a H=>aj.of (o,q,t,false,0,()) (dI ((hc.ext h').ext H.all) rfl) ⟨rfl,aj.bP 0 H rfl rfl ⟨rfl,aj.bP 0 H rfl rfl ⟨rfl,aj.bP 0 H rfl rfl (ao.go H λc H=>⟨?_,H.all⟩)⟩⟩⟩;unfold j9;simp
theorem Qd {bc:Nat} {g:Int} (hc:bM w bc [aa g]) (x:GT):
 ah AC 209 [.agg ⟨[aa x.1,aa x.2.1,aa x.2.2.1,.bool x.2.2.2.1,aa x.2.2.2.2.1]⟩,ag (ae bc)] w (.bool (oK g x)):=by
 refine ah.of (s:= .el (.one .bool)) λw' h'=>ai (C:=G3) (aT:=λ_=>[]) (Ae (Ke _ _ _ _ _ _ w' _) ?_);have H:=At.start [] w';refine aK.go H λb c H=>?_;have a:cP c (ae bc) (.one (.int .i64)) g:=dI ((hc.ext h').ext H.all) rfl;refine aj.at 0 H rfl (show _=some x from rfl) ⟨trivial,λ_=>rfl,aj.bP 0 H rfl rfl (aj.of g a ⟨λ_=>rfl,aj.bP 0 H rfl rfl (aj.of g a (ao.go H λd H=>⟨?_,H.all⟩))⟩)⟩;rfl
theorem Nz {j:Nat} {x:Nat×List Ad} (h:L[j]? =some x):L.set j x=L:=Cb λm=>by
 by_cases e:j=m
 ·subst e;rw[DA (B5.1 h).1,h]
 ·rw[Dn e]
end
end Go.Proofs.YtlcenllcmeebhaaGreat
namespace Go.Proofs.YtlcenllcmeebhaaGreat.Po
set_option maxRecDepth 100000
open Go.RX
abbrev sQ:List Sc:=[.int .i64,.int .i64,.int .i64,.bool,.bool]
abbrev eQ:El:= .agg sQ
abbrev PT:Type:=Int×Int×Int×Bool×Bool×Unit
def zP:PT:=(0,0,0,false,false,())
def gI (n:Int):Bool:=decide (n>=1)&&decide (n<=16)
noncomputable def R0:dj AC:={C3 with vi:=false}
theorem Qf (n:Int) (w:A2) (a:Bool->A2->Prop):(aN R0 (λ_=>[]) 212 [aa n] w a)=(
 ao w (a (decide (n>=1)&&decide (n<=16)))):=by kernel_rfl
theorem Qh (n:Int) (w:A2):aE AC 212 (.el (.one .bool)) [aa n] w (λx w'=>x=gI n/\Ext w w'):=by
 refine ai (C:=R0) (aT:=λ_=>[]) (Ae (Qf n w _) ?_);have H:=At.start [] w
 repeat' (first
  |exact Go.RX.aJ.all H
  |exact B2 (by first|rfl|decide+kernel) (Go.RX.aJ.all H)
  |refine B2 (by first|exact rfl|exact trivial|exact λ_=>rfl|exact λ_=>trivial|exact⟨rfl,by decide,by decide⟩|exact⟨by decide,by decide⟩|decide+kernel|exact λ_=>by decide|exact λ_=>⟨rfl,by decide,by decide⟩|(dsimp only[Ff,Fs];exact⟨rfl,by decide,by decide⟩)) ?_
  |refine aj.bP 0 H rfl rfl ?_
  |refine aj.bP 1 H rfl rfl ?_
  |refine aj.at 0 H rfl rfl ?_
  |refine aj.at 1 H rfl rfl ?_
  |refine aK.go H λb w1 H=>?_
  |refine aC.all 0 H rfl rfl rfl λw1 H=>?_
  |refine aC.all 1 H rfl rfl rfl λw1 H=>?_
  |refine aC.fb 0 H rfl rfl rfl λw1 H=>?_
  |refine aC.fb 1 H rfl rfl rfl λw1 H=>?_
  |refine aC.one 0 H rfl rfl rfl λw1 H=>?_
  |refine aC.one 1 H rfl rfl rfl λw1 H=>?_
  |with_reducible refine ao.go H λw1 H=>?_
  |refine j8 ?_
  |refine aF (by assumption) ?_
  |refine an (by assumption) ?_
  |refine ab (λc=>?_) (λc=>?_))
noncomputable def YZ:Entry AC where
 f:=212
 fn l:=match l with
  |[.int .i64 a]=>some (True,.bool (gI a))
  | _=>none
 ok args pre v h b w:=by
  split at h
  ·rename_i a;cases h;exact bW (Qh a w)
  ·cases h
noncomputable def R1:dj AC:={R0 with rX:=[YZ],quiet:=[211,213,229,245,231]}
theorem Qi (p:Option Ab) (w:A2) (a:Bool->A2->Prop):(aN R1 (λ_=>[]) 211 [ag p] w a)=(
 ((!p.isNone)=true->p.isSome=true)/\((!p.isNone)=true->p.isSome=true)/\aj w (some !p.isNone) (ad p 2560) aV λ(x:Int)=>ao w (a (!p.isNone&&decide (x>0)))):=by kernel_rfl
theorem NU (p:Option Ab) (g i:Int) (w:A2) (a:Option Ab->A2->Prop):(aN R1 (λ_=>[]) 213 [ag p,aa g,aa i] w a)=(
 ∃x,ah AC 211 [ag p] w (.bool x)/\((!!x)=true->True)/\((!(!x|| !gI g||decide (i<0)))=true->p.isSome=true)/\((!(!x|| !gI g||decide (i<0)))=true->p.isSome=true)/\aj w (some !(!x|| !gI g||decide (i<0))) (ad p 2560) aV λ(b:Int)=>aL (!x|| !gI g||decide (i<0)||decide (i>=b)) (ao w (a none)) (p.isSome=true/\p.isSome=true/\((ad p 0).isSome=true/\0<=aY .i64 g 1/\aY .i64 g 1<(↑16:Int))/\((ad (ad p 0) ((aY .i64 g 1).toNat*160)).isSome=true/\0<=i/\i<(↑32:Int))/\(ad (ad (ad p 0)
 ((aY .i64 g 1).toNat*160)) (i.toNat*5)).isSome=true/\aj w none (ad (ad (ad p 0) ((aY .i64 g 1).toNat*160)) (i.toNat*5)) (.agg [.int .i64,.int .i64,.int .i64,.bool,.bool]) λ(x:Int×Int×Int×Bool×Bool×Unit)=>aL (x.1==0&&(x.2.1==0&&(x.2.2.1==0&&(x.2.2.2.1==false&&(x.2.2.2.2.1==false&&true))))) (ao w (a none)) (ao w λw1=>a (ad (ad (ad p 0) ((aY .i64 g 1).toNat*160)) (i.toNat*5)) w1))):=by kernel_rfl
def tJ:Nat->aZ:=(λ|2=>[(10,Go.RX.El.one (Go.RX.Sc.int BJ))]| _=>[])
theorem Qj (p:Option Ab) (g:Int) (w:A2) (a:Int->A2->Prop):(aN R1 tJ 245 [ag p,aa g] w a)=(
 cv p 2560 w λx=> ∃(I:Nat->Int×Unit->A2->Prop),(∃n, ∀w1,Ext w w1->I n (0,()) w1)/\ ∀(n:Nat) (s:Int×Unit) (w1:A2),I n s w1->aL (decide (s.1<x)) (∃(x:Option Ab),ah AC 213 [ag p,aa g,aa s.1] w1 (ag x)/\aL x.isNone (ao w1 (a s.1)) (∀b,Ext w1 b-> ∃(c:Nat),c<n/\I c (aB .i64 s.1 1,()) b)) (ao w1 (a (-1)))):=by kernel_rfl
theorem Y0 (p:Option Ab) (g r:Int) (w:A2) (a:Int->A2->Prop):(aN R1 (λ_=>[]) 229 [ag p,aa g,aa r] w a)=(
 ∃x,ah AC 211 [ag p] w (.bool x)/\aL (!x) (ao w (a 10)) (True/\((!!gI g)=true->True)/\aL (!gI g|| !gI r||g==r) (ao w (a 1)) (ao w (a 0)))):=by kernel_rfl
theorem Ut (p:Option Ab) (w:A2) (a:Int->A2->Prop):(aN R1 (λ_=>[]) 231 [ag p] w a)=(
 ∃x,ah AC 211 [ag p] w (.bool x)/\aL (!x) (ao w (a 10)) (ao w (a 4))):=by kernel_rfl
theorem Y1 (p:Option Ab) (g:Int) (x1 e f:Int) (h i:Bool) (w:A2) (d:Int×Int×Unit->A2->Prop):(aN R1 (λ_=>[]) 230 [ag p,aa g,.agg ⟨[aa x1,aa e,aa f,.bool h,.bool i]⟩] w d)=(
 aK w ⟨[aa x1,aa e,aa f,.bool h,.bool i]⟩ 217 λb a=> ∃(x:Int),ah AC 245 [ag p,aa g] a (aa x)/\aL (x== -1) (ao a (d (0,3,()))) (aj a none (ae b) (.agg [.int .i64,.int .i64,.int .i64,.bool,.bool]) λ(c:Int×Int×Int×Bool×Bool×Unit)=>p.isSome=true/\p.isSome=true/\((ad p 0).isSome=true/\0<=aY .i64 g 1/\aY .i64 g 1<(↑16:Int))/\((ad (ad p 0) ((aY .i64 g 1).toNat*160)).isSome=true/\0<=x/\x<(↑32:Int))/\aC a (ad (ad (ad p 0) ((aY .i64 g
 1).toNat*160)) (x.toNat*5)) [aa c.1,aa c.2.1,aa c.2.2.1,.bool c.2.2.2.1,.bool c.2.2.2.2.1] λa=>ao a (d (x,0,())))):=by kernel_rfl
theorem Qk (p:Option Ab) (g r:Int) (w:A2) (a:Int×Int×Unit->A2->Prop):(aN R1 (λ_=>[]) 185 [ag p,aa g,aa r] w a)=(
 ∃(x:Int),ah AC 229 [ag p,aa g,aa r] w (aa x)/\aL (x != 0) (ao w (a (0,x,()))) (aD AC 230 (.bu [.one (.int .i64),.one (.int .i64)]) [ag p,aa g,.agg ⟨[aa 1,aa r,aa 0,.bool false,.bool false]⟩] w λ(x:Int×Int×Unit) b=>ao b (a (x.1,x.2.1,())))):=by kernel_rfl
theorem Ql (p:Option Ab) (g r i:Int) (w:A2) (a:Int×Int×Unit->A2->Prop):(aN R1 (λ_=>[]) 186 [ag p,aa g,aa r,aa i] w a)=(
 ∃(x:Int),ah AC 229 [ag p,aa g,aa r] w (aa x)/\aL (x != 0) (ao w (a (0,x,()))) (∃(x:Option Ab),ah AC 213 [ag p,aa r,aa i] w (ag x)/\aL x.isNone (ao w (a (0,4,()))) (cv x 0 w λd=>aL (d==2) (ao w (a (0,6,()))) (cv x 1 w λe=>aL (e != g) (ao w (a (0,7,()))) (aD AC 230 (.bu [.one (.int .i64),.one (.int .i64)]) [ag p,aa g,.agg ⟨[aa 2,aa r,aa i,.bool false,.bool false]⟩] w λ(b:
 Int×Int×Unit) c=>aL (b.2.1==0) (x.isSome=true/\x.isSome=true/\aC c (ad x 0) [aa 2] λc=>x.isSome=true/\x.isSome=true/\aC c (ad x 2) [aa b.1] λc=>ao c (a (b.1,b.2.1,()))) (ao c (a (b.1,b.2.1,())))))))):=by kernel_rfl
theorem Qm (p:Option Ab) (g i:Int) (w:A2) (a:Int->A2->Prop):(aN R1 (λ_=>[]) 187 [ag p,aa g,aa i] w a)=(
 ∃(x:Option Ab),ah AC 213 [ag p,aa g,aa i] w (ag x)/\aL x.isNone (∃(x:Int),ah AC 231 [ag p] w (aa x)/\ao w (a x)) (cv x 0 w λc=>aL (c != 2) (ao w (a 6)) (cv x 1 w λd=>cv x 2 w λx=> ∃(b:Option Ab),ah AC 213 [ag p,aa d,aa x] w (ag b)/\b.isSome=true/\b.isSome=true/\aC w (ad b 3) [.bool true] λe=>ao e (a 0)))):=by kernel_rfl
def tK:Nat->aZ:=(λ|5=>[(5,Go.RX.El.one Go.RX.Sc.slice),(15,Go.RX.El.one (Go.RX.Sc.int BJ))]| _=>[])
theorem Qn (p:Option Ab) (g:Int) (w:A2) (e:Option Ab×Nat×Nat->A2->Prop):(aN R1 tK 232 [ag p,aa g] w e)=(
 ∃x,ah AC 211 [ag p] w (.bool x)/\aL (!x) (ao w (e (none,0,0))) (cv p 2560 w λx=> ∃(I:Nat->(Option Ab×Nat×Nat)×Int×Unit->A2->Prop),(∃n, ∀w1,Ext w w1->I n ((none,0,0),0,()) w1)/\ ∀(n:Nat) (s:(Option Ab×Nat×Nat)×Int×Unit) (w1:A2),I n s w1->aL (decide (s.2.1<x)) (∃(x:Option Ab),ah AC 213 [ag p,aa g,aa s.2.1] w1 (ag x)/\((!x.isNone)=true->x.isSome=true)/\((!x.isNone)=true->x.isSome=true)/\aj w1 (some !x.isNone) (ad x 3) oI λd=>
 ((!x.isNone&&d)=true->x.isSome=true)/\((!x.isNone&&d)=true->x.isSome=true)/\aj w1 (some (!x.isNone&&d)) (ad x 4) oI λh=>aL (!x.isNone&&d&& !h) (aK w1 ⟨[aa s.2.1]⟩ 3 λb f=> ∀w1,Ext f w1->m7 w1 3 1 8 ⟨[aa 0]⟩ (s.1.1,s.1.2.1,s.1.2.2) (some ⟨b,0,none⟩,1,1) λ(r:Option Ab×Nat×Nat) f=> ∀a,Ext f a-> ∃(c:Nat),c<n/\I c ((r.1,r.2.1,r.2.2),aB .i64 s.2.1 1,()) a) (∀a,Ext w1 a-> ∃(c:Nat),c<n/\I c ((s.1.1,s.1.2.1,s.1.2.2),aB .i64 s.2.1 1,()) a)) (ao w1 (e
 (s.1.1,s.1.2.1,s.1.2.2))))):=by kernel_rfl
theorem Qo (p:Option Ab) (g:Int) (w:A2) (c:Int×Bool×Unit->A2->Prop):(aN R1 (λ_=>[]) 188 [ag p,aa g] w c)=(
 aD AC 232 (.el iu) [ag p,aa g] w λx a=>aL ((↑x.2.1:Int)==0) (ao a (c (0,false,()))) ((x.1.isSome=true/\(0:Int)<=0/\0<(↑x.2.1:Int))/\aU a (ad x.1 0) λd=> ∃(b:Option Ab),ah AC 213 [ag p,aa g,aa d] a (ag b)/\b.isSome=true/\b.isSome=true/\aC a (ad b 3) [.bool false] λa=>(x.1.isSome=true/\(0:Int)<=0/\0<(↑x.2.1:Int))/\aU a (ad x.1 0) λx=>ao a (c (x,true,())))):=by kernel_rfl
theorem Kt (p:Option Ab) (g i:Int) (w:A2) (c:Int->A2->Prop):(aN R1 (λ_=>[]) 189 [ag p,aa g,aa i] w c)=(
 ∃(x:Option Ab),ah AC 213 [ag p,aa g,aa i] w (ag x)/\aL x.isNone (∃(x:Int),ah AC 231 [ag p] w (aa x)/\ao w (c x)) (cv x 0 w λd=>aL (d==2) (cv x 1 w λe=>cv x 2 w λf=> ∃(a:Option Ab),ah AC 213 [ag p,aa e,aa f] w (ag a)/\a.isSome=true/\a.isSome=true/\aC w (ad a 0) [aa 1] λb=>a.isSome=true/\a.isSome=true/\aC b (ad a 2) [aa 0] λb=>x.isSome=true/\aC b x [aa 0,.int .i64
 0,aa 0,.bool false,.bool false] λb=>ao b (c 0)) (x.isSome=true/\aC w x [aa 0,aa 0,aa 0,.bool false,.bool false] λb=>ao b (c 0)))):=by kernel_rfl
def tL:Nat->aZ:=(λ|5=>[(5,Go.RX.El.one (Go.RX.Sc.int BJ)),(22,Go.RX.El.one (Go.RX.Sc.int BJ))]|11=>[(5,Go.RX.El.one (Go.RX.Sc.int BJ)),(7,Go.RX.El.one (Go.RX.Sc.int BJ))]|14=>[(5,Go.RX.El.one (Go.RX.Sc.int BJ)),(41,Go.RX.El.one (Go.RX.Sc.int BJ))]| _=>[])
theorem Qq (p:Option Ab) (g:Int) (w:A2) (h:Int->A2->Prop):(aN R1 tL 170 [ag p,aa g] w h)=(
 ∃x,ah AC 211 [ag p] w (.bool x)/\((!!x)=true->True)/\aL (!x|| !gI g) (ao w (h 0)) (cv p 2560 w λx=> ∃(I:Nat->Int×Int×Unit->A2->Prop),(∃n, ∀w1,Ext w w1->I n (0,0,()) w1)/\ ∀(n:Nat) (s:Int×Int×Unit) (w1:A2),I n s w1->aL (decide (s.2.1<x)) (aD AC 189 (.el aV) [ag p,aa g,aa s.2.1] w1 λ(x:Int) e=>aL (x==0) (∀a,Ext e a-> ∃(b:Nat),b<n/\I b (aB .i64 s.1 1,aB .i64 s.2.1 1,()) a) (∀a,Ext e a-> ∃(b:Nat),b<n/\I b (s.1,aB .i64 s.2.1 1,
 ()) a)) (∃(I:Nat->Int×Int×Unit->A2->Prop),(∃n, ∀d,Ext w1 d->I n (s.1,1,()) d)/\ ∀(n:Nat) (s:Int×Int×Unit) (w1:A2),I n s w1->aL (decide (s.2.1<=16)) (cv p 2560 w1 λx=> ∃(f:Nat->Int×Int×Unit->A2->Prop),(∃n, ∀d,Ext w1 d->f n (s.1,0,()) d)/\ ∀(i:Nat) (c:Int×Int×Unit) (w1:A2),f i c w1->aL (decide (c.2.1<x)) (∃(x:Option Ab),ah AC 213 [ag p,aa s.2.1,aa c.2.1] w1 (ag x)/\((!x.isNone)=true->x.isSome=true)/\
 ((!x.isNone)=true->x.isSome=true)/\aj w1 (some !x.isNone) (ad x 1) aV λ(j:Int)=>aL (!x.isNone&&j==g) (x.isSome=true/\aC w1 x [aa 0,aa 0,aa 0,.bool false,.bool false] λe=> ∀a,Ext e a-> ∃(b:Nat),b<i/\f b (aB .i64 c.1 1,aB .i64 c.2.1 1,()) a) (∀a,Ext w1 a-> ∃(b:Nat),b<i/\f b (c.1,aB .i64 c.2.1 1,()) a)) (∀a,Ext w1 a-> ∃(b:Nat),b<n/\I b (c.1,aB .i64 s.2.1 1,()) a)) (ao w1 (h s.1))))):=by kernel_rfl
theorem Iy {ss:List Sc} {xs:List (kj ss)} {rest:List Ad} {k f:Nat} {x:kj ss} (a:xs[k]? =some x) (b:f<ss.length):(flat (.agg ss) xs++rest)[k*ss.length+f]? =(bj ss x)[f]? :=by
 induction xs generalizing k with
 |nil=>simp at a
 |cons y ys c=>
  cases k with
  |zero=>
   simp at a;have d:f<(bj ss y).length:=by rw[cC];exact b
   simp only[Gd,BL];show((bj ss y++flat (.agg ss) ys)++rest)[f]? = _
   grind
  |succ k=>
   show((bj ss y++flat (.agg ss) ys)++rest)[(k+1)*ss.length+f]? = _;rw[CN,Fu (by rw[cC,E6];omega),cC]
   grind
theorem AP {ss:List Sc} {xs:List (kj ss)} {rest:List Ad} {k f:Nat} {x y:kj ss} {v:Ad} (b:xs[k]? =some x) (c:f<ss.length) (d:bj ss y=(bj ss x).set f v):(flat (.agg ss) xs++rest).set (k*ss.length+f) v=flat (.agg ss) (xs.set k y)++rest:=by
 induction xs generalizing k with
 |nil=>simp at b
 |cons z a e=>
  cases k with
  |zero=>
   have g:f<(bj ss z).length:=by rw[cC];exact c
   simp only[Gd,BL];show((bj ss z++flat (.agg ss) a)++rest).set f v=(bj ss y++flat (.agg ss) a)++rest
   grind
  |succ k=>
   show((bj ss z++flat (.agg ss) a)++rest).set _ v=(bj ss z++flat _ _)++rest;rw[CN,List.set_append_right _ _ (by rw[cC,E6];omega),cC]
   grind
abbrev gJ (room:Int) (ps:List PT):List Ad:=flat eQ ps++[aa room]
def ix (g i:Int):Nat:=(g - 1).toNat*32+i.toNat
def r_ (room g i:Int):Bool:=gI g&&(decide (0<=i)&&decide (i<room))
def oE (room:Int) (ps:List PT) (g i:Int):Option Nat:=if r_ room g i=true/\ps.getD (ix g i) zP≠zP then some (ix g i) else none
structure okS (room:Int) (ps:List PT):Prop where
 len:ps.length=512
 lo:1<=room
 hi:room<=32
theorem nr {g:Int}:gI g=true<->1<=g/\g<=16:=by simp[gI]
theorem eV {room g i:Int}:r_ room g i=true<->(1<=g/\g<=16)/\0<=i/\i<room:=by simp[r_,nr]
theorem oS {room g i:Int} (h:r_ room g i=true) (a:room<=32):ix g i<512:=by grind[eV,ix]
theorem OA {room g i g' a:Int} (h:r_ room g i=true) (h':r_ room g' a=true) (b:room<=32) (e:ix g i=ix g' a):g=g'/\i=a:=by grind[eV,ix]
theorem okS.get {room:Int} {ps:List PT} (h:okS room ps) {k:Nat} (a:k<512):ps[k]? =some (ps.getD k zP):=by
 rw[B4,B1 (by rw[h.len];grind)];rfl
theorem okS.set {room:Int} {ps:List PT} (h:okS room ps) (k:Nat) (x:PT):okS room (ps.set k x):=⟨by rw[Fv];exact h.len,h.lo,h.hi⟩
theorem fv {room:Int} {ps:List PT} {g i:Int} {k:Nat} (h:oE room ps g i=some k):r_ room g i=true/\k=ix g i/\ps.getD k zP≠zP:=by grind[oE]
theorem pU {room:Int} {ps:List PT} (h:okS room ps):lI (gJ room ps) (0+2560) (.one (.int .i64))=some room:=by
 have:(gJ room ps)[2560]? =some (aa room):=by
  rw[Fu (by rw[aI,h.len];decide),aI,h.len];rfl
 show(match (gJ room ps)[0+2560]? with|some v=>(Sc.int _).proj v|none=>none)=some room;rw[this];rfl
theorem isZ (x:PT):(x.fst==0&&(x.snd.fst==0&&(x.snd.snd.fst==0&&(x.snd.snd.snd.fst==false&&(x.snd.snd.snd.snd.fst==false&&true)))))=decide (x=zP):=by
 obtain⟨a,b,c,d,e,u⟩:=x;rw[JJ];simp[zP]
theorem sa {room:Int} {ps:List PT} {k f:Nat} {x:PT} (a:ps[k]? =some x) (b:f<5) {s:Sc} {y:s.T} (c:(match (bj sQ x)[f]? with|some v=>s.proj v|none=>none)=some y):lI (gJ room ps) (k*5+f) (.one s)=some y:=by
 show(match (gJ room ps)[k*5+f]? with|some v=>s.proj v|none=>none)=some y;have:=Iy (ss:=sQ) (rest:=[aa room]) a b
 simp_all
section
variable {D G:List Nat} {w0 w:A2} {L:List (Nat×List Ad)}
theorem aC.sa (j:Nat) (H:aJ D G w0 w L) {bp k f:Nat} {room:Int} {ps:List PT} {x:PT} (y:PT) {v:Ad} {K:A2->Prop} (a:L[j]? =some (bp,gJ room ps)) (b:ps[k]? =some x) (c:f<5) (hv:v.oneCell'=true) (d:bj sQ y=(bj sQ x).set f v)
 (g: ∀w1,aJ D G w0 w1 (L.set j (bp,gJ room (ps.set k y)))->K w1):aC w (ad (some ⟨bp,k*5,none⟩) f) [v] K:=by
 refine aC.fb j H a hv ?_ λw1 h1=>g w1 ?_
 ·rw[Gi];have:(flat eQ ps).length=ps.length*5:=aI eQ ps
  grind
 ·have e:(gJ room ps).set _ v=gJ room _:=AP b c d
  grind
end
section
variable {w:A2} {bp:Nat} {room:Int} {ps:List PT}
theorem pv (h:bM w bp (gJ room ps)) (a:okS room ps):aE AC 211 (.el (.one .bool)) [ag (ae bp)] w (λx w'=>x=true/\Ext w w'):=by
 refine ai (Ae (Qi _ w _) ?_);refine⟨λ_=>rfl,λ_=>rfl,aj.kR (At.start [] w) h (by simp) (pU a) λw1 h1=>⟨?_,h1⟩⟩;have:=a.lo
 grind
def bP (bp:Nat) (room:Int) (ps:List PT) (g i:Int):Option Ab:=(oE room ps g i).map λk=>⟨bp,k*5,none⟩
theorem Ds (h:bM w bp (gJ room ps)) (a:okS room ps) (g i:Int):aE AC 213 (.el (.one .ptr)) [ag (ae bp),aa g,aa i] w (λx w'=>x=bP bp room ps g i/\Ext w w'):=by
 refine ai (C:=R1) (aT:=λ_=>[]) (Ae (NU _ g i w _) ?_);refine⟨true,ah.of (s:= .el (.one .bool)) λw' h'=>pv (h.ext h') a,λ_=>trivial,λ_=>rfl,λ_=>rfl,aj.kR (At.start [] w) h (by simp) (pU a) ?_⟩;have p:=a.lo;have d:=a.hi;refine ab (λc w1 h1=>⟨?_,h1⟩) (λc=>?_)
 ·have f: ¬ r_ room g i=true:=by
   rw[eV];intro j;have k:gI g=true:=nr.2 j.1;rw[k] at c;simp at c;omega
  unfold bP oE;rw[au (λhc=>f hc.1)];rfl
 ·have b:r_ room g i=true:=by
   grind[eV,nr,gI]
  have q:=eV.1 b;have l:=oS b d;have m:=a.get l;have es:aY .i64 g 1=g - 1:=bD (by omega) (by omega);rw[es];have n:ad (ad (ad (ae bp) 0) ((g - 1).toNat*160)) (i.toNat*5)=some ⟨bp,ix g i*5,none⟩:=by
   rw[aR,aR,aR];unfold ix;congr 2;omega
  have o:ad (ad (ae bp) 0) ((g - 1).toNat*160)=some ⟨bp,0+0+(g - 1).toNat*160,none⟩:=by rw[aR,aR]
  rw[n,o];refine⟨rfl,rfl,⟨rfl,by omega,by omega⟩,⟨rfl,by omega,by omega⟩,rfl,aj.of (ps.getD (ix g i) zP) ?_ ?_⟩
  ·have:=eh (e:=eQ) (rest:=[aa room]) h m;rw[aR,BL] at this;exact this
  ·rw[isZ];refine ab (λc2 w1 h1=>⟨?_,h1⟩) (λc2 w1 h1=>⟨?_,h1⟩)
   ·unfold bP oE
    grind
   ·unfold bP oE;rw[az ⟨b,of_decide_eq_false c2⟩];rfl
def ru (g r:Int):Int:=if !gI g|| !gI r||g==r then 1 else 0
theorem Y3 (h:bM w bp (gJ room ps)) (a:okS room ps) (g r:Int):aE AC 229 (.el (.one (.int .i64))) [ag (ae bp),aa g,aa r] w (λx w'=>x=ru g r/\Ext w w'):=by
 refine ai (C:=R1) (aT:=λ_=>[]) (Ae (Y0 _ g r w _) ?_);refine⟨true,ah.of (s:= .el (.one .bool)) λw' h'=>pv (h.ext h') a,an rfl ⟨trivial,λ_=>trivial,ab (λc w1 h1=>⟨?_,h1⟩) (λc w1 h1=>⟨?_,h1⟩)⟩⟩
 ·unfold ru;rw[az c]
 ·unfold ru;grind
theorem Uu (h:bM w bp (gJ room ps)) (a:okS room ps):aE AC 231 (.el (.one (.int .i64))) [ag (ae bp)] w (λx w'=>x=4/\Ext w w'):=by
 refine ai (C:=R1) (Ae (Ut _ w _) ?_);exact⟨true,ah.of λw' h'=>pv (h.ext h') a,an rfl λw1 h1=>⟨rfl,h1⟩⟩
def cx (room:Int) (ps:List PT) (g:Int):Int:=match (Bz room.toNat).find? λ(i:Nat)=>(oE room ps g i).isNone with
 |some i=>(i:Int)
 |none=> -1
theorem Qr (h:bM w bp (gJ room ps)) (b:okS room ps) (g:Int):aE AC 245 (.el (.one (.int .i64))) [ag (ae bp),aa g] w (λx w'=>x=cx room ps g/\Ext w w'):=by
 refine ai (C:=R1) (aT:=tJ) (Ae (Qj _ g w _) ?_);have l:=b.lo;have m:=b.hi;refine⟨rfl,rfl,aj.kR (At.start [] w) h (by simp) (pU b) ?_⟩;refine⟨λq s w'=> ∃i:Nat,s.1=i/\q+i=room.toNat/\(∀j:Nat,j<i->(oE room ps g j).isNone=false)/\Ext w w',⟨room.toNat,λw1 h1=>⟨0,rfl,rfl,λj e=>absurd e (by omega),h1⟩⟩,?_⟩;rintro q ⟨n,u⟩ w1 ⟨i,hi,o,k,d⟩;simp only at hi;subst hi;dsimp only;refine ab (λc=>?_) (λc f a=>⟨?_,d.trans a⟩)
 ·have p:i<room.toNat:=by simp at c;omega
  refine⟨_,ah.of (s:= .el (.one .ptr)) λw' h'=>Ds ((h.ext d).ext h') b g i,ab (λc2 f a=>⟨?_,d.trans a⟩) (λc2 f a=>⟨q - 1,by omega,i+1,by rw[ax (by omega) (by omega)];rfl,by omega,λj e=>?_,d.trans a⟩)⟩
  ·grind[oE,bP,Bz,I1,cx]
  ·rcases Nat.lt_or_ge j i with h1|h1
   ·exact k j h1
   ·obtain rfl:j=i:=by omega
    unfold bP at c2;simpa using c2
 ·have:(Bz room.toNat).find? (λ(i:Nat)=>(oE room ps g i).isNone)=none:=by
   grind
  unfold cx;rw[this]
theorem mO {room:Int} {ps:List PT} {g:Int} (a:gI g=true) (h:cx room ps g≠ -1):r_ room g (cx room ps g)=true/\oE room ps g (cx room ps g)=none:=by
 unfold cx at h ⊢;split
 ·rename_i hi;rw[I1] at hi;have:=FF.1 hi.2.1;exact⟨eV.2 ⟨nr.1 a,by omega⟩,by simp_all⟩
 grind
end
end Go.Proofs.YtlcenllcmeebhaaGreat.Po
namespace Go.Proofs.YtlcenllcmeebhaaGreat
set_option maxRecDepth 100000
open Go.RX
theorem zX {L Ls:List (Nat×List Ad)} {k:Nat} {x:Nat×List Ad} (h:L[k]? =some x):(L++Ls)[k]? =some x:=by
 grind
theorem Bw.len {Ls:List (Nat×List Ad)} {sl:Option Ab×Nat×Nat} {xs:List Int} (h:Bw Ls sl xs):sl.2.1=xs.length:=by
 rcases h with ⟨rfl,rfl,rfl⟩|⟨bs,c,rest,rfl, _⟩
 ·rfl
 ·rfl
theorem Bw.rd {D G:List Nat} {w0 w:A2} {L Ls:List (Nat×List Ad)} {sl:Option Ab×Nat×Nat} {xs:List Int} (h:Bw Ls sl xs) (H:aJ D G w0 w L) (a: ∀y∈Ls,y∈L) {i:Nat} {x:Int} (b:xs[i]? =some x):sl.1.isSome=true/\cP w (ad sl.1 (i*1)) (.one (.int .i64)) x:=by
 rcases h with ⟨rfl,rfl,rfl⟩|⟨bs,c,rest,rfl,rfl, _⟩
 ·grind
 ·exact⟨rfl,eh (H.dp _ (a _ C6)) b⟩
section
variable {D G:List Nat} {w0 w:A2} {L:List (Nat×List Ad)} {bg br c:Nat} {gs:List GT} {rest:List Ad}
theorem FQ {Ls:List (Nat×List Ad)} {a:Nat} {x:Int} {xs:List Int} {sl:Option Ab×Nat×Nat} (H:aJ D G w0 w ((a,[aa x])::(L++Ls))) (f:Bw Ls sl xs) (hb:xs.length<=900000) {t:BN}
 {R:Option Ab×Nat×Nat->A2->Prop} (k: ∀b d w',Bw b d (xs++[x])->aJ D G w0 w' (L++b)->R d w'):
 m7 w t 1 8 ⟨[aa 0]⟩ sl (some ⟨a,0,none⟩,1,1) R:=by
 refine aJ.aaZ (e:=eI) (H.perm (.cons _ E9)) (by simp) f rfl rfl rfl (by grind) λbs c rest w' g h i=>k _ _ w' (.inr ⟨bs,c,rest,rfl,rfl,g,h⟩) (i.perm ?_);simp
theorem Ku (H:aJ D G w0 w L) (j q:Nat) (h:L[j]? =some (bg,mw br gs.length c)) (r:L[q]? =some (br,flat eG gs++rest)) (h0:0<gs.length) (I:gs.length<=64) {K:Option Ab×Nat×Nat->A2->Prop}
 (k: ∀sl Ls a,Bw Ls sl (db gs e8 gs.length)->aJ D G w0 a (L++Ls)->K sl a):
 aD AC 208 (.el (.one .slice)) [ag (ae bg),.func (.func 210) #[] #[]] w K:=by
 refine aD.go H λw1 H=>ai (C:=G3) (aT:=qL) (Ae (Kf _ w1 K) ?_);have s: ∀{w:A2} {L1:List (Nat×List Ad)},aJ D G w0 w (L++L1)->bM w bg (mw br gs.length c)/\bM w br (flat eG gs++rest):=λ{w L1} H=>⟨H.get (zX h),H.get (zX r)⟩;refine⟨_,pq (H.get h) h0,an rfl ⟨rfl,rfl,aj.bP j H h rfl ?_⟩⟩;refine⟨λn v w'=> ∃(m:Nat) (Ls:List (Nat×List Ad)),v.2.1=(m:Int)/\n+m=gs.length/\Bw Ls v.1 (db gs e8 m)/\aJ D G w0 w' (L++Ls),⟨gs.length,λa t=>⟨0,[],rfl,rfl,.inl ⟨rfl,rfl,rfl⟩,by rw[Bs];exact H.ext t⟩⟩,?_⟩;clear H;rintro n ⟨sl,v,u⟩ a ⟨m,Ls,e,J,f,H⟩;dsimp only at e f ⊢;subst e;refine ab (λcc=>?_) (λcc=>?_)
 ·have l:m<gs.length:=by simpa using cc
  have o:gs[m]? =some (gs.getD m zG):=by
   grind
  have y:aB .i64 (m:Int) 1=((m+1:Nat):Int):=by rw[ax (by omega) (by omega)];omega
  have g:=rP gs e8 m;obtain⟨x,z⟩: ∃x,x=gs.getD m zG:=⟨_,rfl⟩;rw[<-z] at o g;rw[y];have M:=qd gs e8 m;refine⟨⟨rfl,by omega,by omega⟩,aj.of x (eh (e:=eG) (s H).2 o) (aK.go H λb p H=>aC.all 0 H rfl rfl rfl λN H=>aj.at 0 H rfl (show _=some x from rfl) ?_)⟩;refine⟨trivial,?_⟩;refine ab (λd=>aK.go H λO P H=>λA i=>?_) (λd=>λA i=>⟨n - 1,by omega,m+1,Ls,rfl,by omega,?_,?_⟩)
  ·have d:e8 x=true:=d;rw[az d] at g;have H:=H.ext i;have H:=H.sub (.cons_cons _ (B3 _ _));refine FQ H f (by omega) λB Q R E H=>λS F=>⟨n - 1,by omega,m+1,B,rfl,by omega,?_,H.ext F⟩;rw[g];exact E
  ·have d: ¬ e8 x=true:=by
    have d:e8 x=false:=d;rw[d];decide
   rw[g,au d,Bs];exact f
  ·exact(H.sub (B3 _ _)).ext i
 ·have l:m=gs.length:=by
   have: ¬ m<gs.length:=by simpa using cc
   omega
  subst l;exact ao.go H λp H=>k sl Ls p f H
theorem Kv (H:aJ D G w0 w L) (j y:Nat) (f:L[j]? =some (bg,mw br gs.length c)) (z:L[y]? =some (br,flat eG gs++rest)) (h0:0<gs.length) (O:gs.length<=64) {bc:Nat} {o q t:Int} (hc:(bc,[aa o,aa q,aa t,.bool false,aa 0])∈L) {K:Option Ab×Nat×Nat->A2->Prop}
 (k: ∀sl Ls a,Bw Ls sl (db gs (j9 o q t) gs.length)->aJ D G w0 a (L++Ls)->K sl a):
 aD AC 208 (.el (.one .slice)) [ag (ae bg),.func (.func 226) #[] #[ag (ae bc)]] w K:=by
 refine aD.go H λw1 H=>ai (C:=G3) (aT:=qM) (Ae (Kh _ _ w1 K) ?_);have A: ∀{w:A2} {L1:List (Nat×List Ad)},aJ D G w0 w (L++L1)->bM w bg (mw br gs.length c)/\bM w br (flat eG gs++rest):=λ{w L1} H=>⟨H.get (zX f),H.get (zX z)⟩;refine⟨_,pq (H.get f) h0,an rfl ⟨rfl,rfl,aj.bP j H f rfl ?_⟩⟩;refine⟨λn v w'=> ∃(m:Nat) (Ls:List (Nat×List Ad)),v.2.1=(m:Int)/\n+m=gs.length/\Bw Ls v.1 (db gs (j9 o q t) m)/\aJ D G w0 w' (L++Ls),⟨gs.length,λa B=>⟨0,[],rfl,rfl,.inl ⟨rfl,rfl,rfl⟩,by rw[Bs];exact H.ext B⟩⟩,?_⟩;clear H;rintro n ⟨sl,v,u⟩ a ⟨m,Ls,e,P,g,H⟩;dsimp only at e g ⊢;subst e;refine ab (λcc=>?_) (λcc=>?_)
 ·have l:m<gs.length:=by simpa using cc
  have p:gs[m]? =some (gs.getD m zG):=by
   grind
  have E:aB .i64 (m:Int) 1=((m+1:Nat):Int):=by rw[ax (by omega) (by omega)];omega
  have h:=rP gs (j9 o q t) m;obtain⟨x,F⟩: ∃x,x=gs.getD m zG:=⟨_,rfl⟩;rw[<-F] at p h;rw[E];have Q:=qd gs (j9 o q t) m;refine⟨⟨rfl,by omega,by omega⟩,aj.of x (eh (e:=eG) (A H).2 p) (aK.go H λb r H=>aC.all 0 H rfl rfl rfl λR H=>aj.at 0 H rfl (show _=some x from rfl) ?_)⟩;refine⟨_,Us (H.dp _ (Bp _ (CO _ hc))) x,?_⟩;refine ab (λd=>aK.go H λI S H=>λs i=>?_) (λd=>λs i=>⟨n - 1,by omega,m+1,Ls,rfl,by omega,?_,?_⟩)
  ·have d:(j9 o q t) x=true:=d;rw[az d] at h;have H:=H.ext i;have H:aJ D G w0 s ((I,[aa (m:Int)])::(L++Ls)):=H.sub (.cons_cons _ (B3 _ _));refine FQ H g (by omega) λJ T U M H=>λV N=>⟨n - 1,by omega,m+1,J,rfl,by omega,?_,H.ext N⟩;rw[h];exact M
  grind
  ·exact(H.sub (B3 _ _)).ext i
 ·have l:m=gs.length:=by
   have: ¬ m<gs.length:=by simpa using cc
   omega
  subst l;exact ao.go H λr H=>k sl Ls r g H
theorem Kw (H:aJ D G w0 w L) (j s:Nat) (f:L[j]? =some (bg,mw br gs.length c)) (t:L[s]? =some (br,flat eG gs++rest)) (h0:0<gs.length) (M:gs.length<=64) {bc:Nat} {g:Int} (hc:(bc,[aa g])∈L) {K:Option Ab×Nat×Nat->A2->Prop}
 (k: ∀sl Ls a,Bw Ls sl (db gs (oK g) gs.length)->aJ D G w0 a (L++Ls)->K sl a):
 aD AC 208 (.el (.one .slice)) [ag (ae bg),.func (.func 209) #[] #[ag (ae bc)]] w K:=by
 refine aD.go H λw1 H=>ai (C:=G3) (aT:=qN) (Ae (Ki _ _ w1 K) ?_);have y: ∀{w:A2} {L1:List (Nat×List Ad)},aJ D G w0 w (L++L1)->bM w bg (mw br gs.length c)/\bM w br (flat eG gs++rest):=λ{w L1} H=>⟨H.get (zX f),H.get (zX t)⟩;refine⟨_,pq (H.get f) h0,an rfl ⟨rfl,rfl,aj.bP j H f rfl ?_⟩⟩;refine⟨λn v w'=> ∃(m:Nat) (Ls:List (Nat×List Ad)),v.2.1=(m:Int)/\n+m=gs.length/\Bw Ls v.1 (db gs (oK g) m)/\aJ D G w0 w' (L++Ls),⟨gs.length,λa z=>⟨0,[],rfl,rfl,.inl ⟨rfl,rfl,rfl⟩,by rw[Bs];exact H.ext z⟩⟩,?_⟩;clear H;rintro n ⟨sl,v,u⟩ a ⟨m,Ls,e,N,h,H⟩;dsimp only at e h ⊢;subst e;refine ab (λcc=>?_) (λcc=>?_)
 ·have o:m<gs.length:=by simpa using cc
  have p:gs[m]? =some (gs.getD m zG):=by
   grind
  have A:aB .i64 (m:Int) 1=((m+1:Nat):Int):=by rw[ax (by omega) (by omega)];omega
  have i:=rP gs (oK g) m;obtain⟨x,B⟩: ∃x,x=gs.getD m zG:=⟨_,rfl⟩;rw[<-B] at p i;rw[A];have O:=qd gs (oK g) m;refine⟨⟨rfl,by omega,by omega⟩,aj.of x (eh (e:=eG) (y H).2 p) (aK.go H λb q H=>aC.all 0 H rfl rfl rfl λP H=>aj.at 0 H rfl (show _=some x from rfl) ?_)⟩;refine⟨_,Qd (H.dp _ (Bp _ (CO _ hc))) x,?_⟩;refine ab (λd=>aK.go H λE Q H=>λr l=>?_) (λd=>λr l=>⟨n - 1,by omega,m+1,Ls,rfl,by omega,?_,?_⟩)
  ·have d:(oK g) x=true:=d;rw[az d] at i;have H:=H.ext l;have H:aJ D G w0 r ((E,[aa (m:Int)])::(L++Ls)):=H.sub (.cons_cons _ (B3 _ _));refine FQ H h (by omega) λF R S I H=>λT J=>⟨n - 1,by omega,m+1,F,rfl,by omega,?_,H.ext J⟩;rw[i];exact I
  grind
  ·exact(H.sub (B3 _ _)).ext l
 ·have o:m=gs.length:=by
   have: ¬ m<gs.length:=by simpa using cc
   omega
  subst o;exact ao.go H λq H=>k sl Ls q h H
theorem BH (H:aJ D G w0 w L) (a:Nat) (b:L[a]? =some (br,flat eG gs++rest)) {k:Nat} {x:GT} (c:gs[k]? =some x) {f:Nat} (d:f<5) {s:Sc} {y:s.T} (e:(match (bj sG x)[f]? with|some v=>s.proj v|none=>none)=some y):cP w (ad (some ⟨br,k*5,none⟩) f) (.one s) y:=by
 rw[aR];refine dI (H.get b) ?_;have h:=Po.Iy (ss:=sG) (rest:=rest) c d;show(match (flat eG gs++rest)[k*5+f]? with|some v=>s.proj v|none=>none)=some y
 simp_all
theorem aan (H:aJ D G w0 w L) (a:Nat) (c:L[a]? =some (br,flat eG gs++rest)) {k:Nat} {x:GT} (b:gs[k]? =some x) {f:Nat} (d:f<5) {v:Ad} (hv:v.oneCell'=true) (y:GT) (e:bj sG y=(bj sG x).set f v) {K:A2->Prop} (kk: ∀w1,aJ D G w0 w1 (L.set a (br,flat eG (gs.set k y)++rest))->K w1):aC w (ad (some ⟨br,k*5,none⟩) f) [v] K:=by
 have g:=(B5.1 b).1;refine aC.fb a H c hv ?_ λw1 h1=>kk w1 ?_
 ·rw[Gi,Dc,aI];show k*5+f<gs.length*5+rest.length;omega
 ·have h:=Po.AP (rest:=rest) b d e
  grind
theorem Y4 (h:bM w bg (mw br gs.length c)) (d:bM w br (flat eG gs++rest)) (h0:0<gs.length) (i:Int):
 aE AC 176 (.bu [eG,.one .bool]) [ag (ae bg),aa i] w (λx w'=>x=(wJ gs i,(lN gs i).isSome,())/\Ext w w'):=by
 refine aQ (C:=G3) (aT:=λ_=>[]) (Ae (YR _ i w _) ?_);have H:=At.start [] w;refine aK.go H λb f H=>?_;have a:=H.all;refine⟨_,HT (h.ext a) (d.ext a) h0 i,?_⟩;unfold BG BF wJ;cases g:lN gs i with
 |none=>exact aF rfl (aC.all 0 H rfl rfl rfl λj H=>ao.go H λl H=>aj.at 0 H rfl (show _=some zG from rfl) ⟨rfl,H.all⟩)
 |some k=>
  obtain⟨_, _, _,m, _⟩:=lh g;have n:cP f (some ⟨br,k*5,none⟩) eG (gs.getD k zG):=by
   have:=eh (e:=eG) (d.ext a) m;rw[aR,BL] at this;exact this
  refine an rfl ⟨rfl,aj.of _ n (aC.all 0 H rfl rfl rfl λj H=>ao.go H λl H=>aj.at 0 H rfl (show _=some (gs.getD k zG) from rfl) ⟨rfl,H.all⟩)⟩
theorem Qs (H:aJ D G w0 w L) (j f:Nat) (p:L[j]? =some (bg,mw br gs.length c)) (l:L[f]? =some (br,flat eG gs++rest)) (h0:0<gs.length) (r: ∀x∈gs,0<=x.2.2.2.2.1/\x.2.2.2.2.1<=1000) (i g:Int) (b:Bool) {K:Int->A2->Prop}
 (k: ∀a,aJ D G w0 a (L.set f (br,flat eG (dX gs i g b)++rest))->K (gV gs i g b) a):
 aD AC 181 (.el (.one (.int .i64))) [ag (ae bg),aa i,aa g,.bool b] w K:=by
 refine aD.go H λw1 H=>ai (C:=G3) (aT:=λ_=>[]) (Ae (PE _ i g b w1 K) ?_);refine⟨_,HT (H.get p) (H.get l) h0 i,?_⟩;have same:gV gs i g b≠0-> ∀{a},aJ D G w0 a L->aJ D G w0 a (L.set f (br,flat eG (dX gs i g b)++rest)):=λh a H=>by
  unfold dX;rw[au h,Nz l];exact H
 have e:gV gs i g b=match lN gs i with
  |none=>4
  |some k=>if((gs.getD k zG).2.2.1 != g||b&& !(gs.getD k zG).2.2.2.1)=true then 7 else if(gs.getD k zG).2.2.2.2.1=1000 then 3 else 0:=rfl
 unfold BG BF;cases n:lN gs i with
 |none=>
  rw[n] at e;dsimp only at e;rw[e] at k same;exact aF rfl (ao.go H λa H=>k a (same (by decide) H))
 |some q=>
  obtain⟨v,y,s,m, _⟩:=lh n;rw[n] at e;dsimp only at e;obtain⟨x,o⟩: ∃x,x=gs.getD q zG:=⟨_,rfl⟩;rw[<-o] at e m;refine an rfl ⟨rfl,rfl,aj.of x.2.2.1 (BH H f l m (by decide) rfl) ⟨λ_=>rfl,λ_=>rfl,aj.of x.2.2.2.1 (BH H f l m (by decide) rfl) (ab (λd=>ao.go H λa H=>?_) (λd=>?_))⟩⟩
  ·rw[az d] at e;rw[e] at k same;exact k a (same (by decide) H)
  ·rw[au (by rw[d];decide)] at e;refine⟨rfl,rfl,aj.of x.2.2.2.2.1 (BH H f l m (by decide) rfl) (ab (λd2=>ao.go H λa H=>?_) (λd2=>?_))⟩
   ·grind
   ·rw[au (by simpa using d2)] at e;have hb:=r x (Do m);refine⟨rfl,rfl,aj.of x.2.2.2.2.1 (BH H f l m (by decide) rfl) ⟨rfl,rfl,?_⟩⟩;rw[ax (by omega) (by omega)];refine aan H f l m (by decide) rfl (fD x 1) rfl λa H=>ao.go H λt H=>?_;have u:dX gs i g b=gs.set q (fD x 1):=by
     unfold dX;rw[az e, <-s, <-o]
    rw[e,u] at k;exact k t H
end
section
variable {D G:List Nat} {w0 w:A2} {L:List (Nat×List Ad)} {bg br c:Nat} {gs:List GT} {rest:List Ad}
theorem Qt (H:aJ D G w0 w L) (j e:Nat) (o:L[j]? =some (bg,mw br gs.length c)) (f:L[e]? =some (br,flat eG gs++rest)) (h0:0<gs.length) (p: ∀x∈gs,0<=x.2.2.2.2.1/\x.2.2.2.2.1<=1000) (i g:Int) {K:Int->A2->Prop}
 (k: ∀a,aJ D G w0 a (L.set e (br,flat eG (eJ gs i g)++rest))->K (mm gs i g) a):
 aD AC 182 (.el (.one (.int .i64))) [ag (ae bg),aa i,aa g] w K:=by
 refine aD.go H λw1 H=>ai (C:=G3) (aT:=λ_=>[]) (Ae (PF _ i g w1 K) ?_);refine⟨_,HT (H.get o) (H.get f) h0 i,?_⟩;have same:mm gs i g≠0-> ∀{a},aJ D G w0 a L->aJ D G w0 a (L.set e (br,flat eG (eJ gs i g)++rest)):=λh a H=>by
  unfold eJ;rw[au h,Nz f];exact H
 have b:mm gs i g=match lN gs i with
  |none=>4
  |some k=>if(gs.getD k zG).2.2.1≠g then 7 else if(gs.getD k zG).2.2.2.2.1=0 then 6 else 0:=rfl
 unfold BG BF;cases m:lN gs i with
 |none=>
  rw[m] at b;dsimp only at b;rw[b] at k same;exact aF rfl (ao.go H λa H=>k a (same (by decide) H))
 |some q=>
  obtain⟨u,v,r,l, _⟩:=lh m;rw[m] at b;dsimp only at b;obtain⟨x,n⟩: ∃x,x=gs.getD q zG:=⟨_,rfl⟩;rw[<-n] at b l;refine an rfl ⟨rfl,rfl,aj.of x.2.2.1 (BH H e f l (by decide) rfl) (ab (λd=>ao.go H λa H=>?_) (λd=>?_))⟩
  grind
  ·rw[au (by simpa using d)] at b;refine⟨rfl,rfl,aj.of x.2.2.2.2.1 (BH H e f l (by decide) rfl) (ab (λd2=>ao.go H λa H=>?_) (λd2=>?_))⟩
   grind
   ·rw[au (by simpa using d2)] at b;have hb:=p x (Do l);refine⟨rfl,rfl,aj.of x.2.2.2.2.1 (BH H e f l (by decide) rfl) ⟨rfl,rfl,?_⟩⟩;rw[bD (by omega) (by omega)];refine aan H e f l (by decide) rfl (fD x (-1)) rfl λa H=>ao.go H λs H=>?_;have t:eJ gs i g=gs.set q (fD x (-1)):=by
     unfold eJ;rw[az b, <-r, <-n]
    rw[b,t] at k;exact k s H
theorem Gu (H:aJ D G w0 w L) (j f:Nat) (n:L[j]? =some (bg,mw br gs.length c)) (g:L[f]? =some (br,flat eG gs++rest)) (h0:0<gs.length) (i o:Int) {K:Int->A2->Prop}
 (k: ∀a,aJ D G w0 a (L.set f (br,flat eG (kX gs i o)++rest))->K (qH gs i o) a):
 aD AC 184 (.el (.one (.int .i64))) [ag (ae bg),aa i,aa o] w K:=by
 refine aD.go H λw1 H=>ai (C:=G3) (aT:=λ_=>[]) (Ae (Gr _ i o w1 K) ?_);refine⟨_,HT (H.get n) (H.get g) h0 i,?_⟩;have same:qH gs i o≠0-> ∀{a},aJ D G w0 a L->aJ D G w0 a (L.set f (br,flat eG (kX gs i o)++rest)):=λh a H=>by
  unfold kX;rw[au h,Nz g];exact H
 have b:qH gs i o=match lN gs i with
  |none=>4
  |some k=>if(gs.getD k zG).1≠o then 7 else if(gs.getD k zG).2.2.2.2.1>0 then 9 else 0:=rfl
 unfold BG BF;cases m:lN gs i with
 |none=>
  rw[m] at b;dsimp only at b;rw[b] at k same;exact aF rfl (ao.go H λa H=>k a (same (by decide) H))
 |some q=>
  obtain⟨y,z,p,l, _⟩:=lh m;rw[m] at b;dsimp only at b;obtain⟨x,r⟩: ∃x,x=gs.getD q zG:=⟨_,rfl⟩;rw[<-r] at b l;refine an rfl ⟨rfl,rfl,aj.of x.1 (BH H f g l (by decide) rfl) (ab (λd=>ao.go H λa H=>?_) (λd=>?_))⟩
  grind
  ·rw[au (by simpa using d)] at b;refine⟨rfl,rfl,aj.of x.2.2.2.2.1 (BH H f g l (by decide) rfl) (ab (λd2=>ao.go H λa H=>?_) (λd2=>?_))⟩
   grind
   ·rw[au (by simpa using d2)] at b;refine⟨rfl,?_⟩;have s:q<gs.length:=(B5.1 l).1;have t:(some (⟨br,q*5,none⟩:Ab))=ad (ae br) (q*5):=by rw[aR,BL]
    show aC w1 (some (⟨br,q*5,none⟩:Ab)) _ _;rw[t];refine aC.flat (e:=eG) f H zG g rfl rfl s λa H=>ao.go H λu H=>?_;have v:kX gs i o=gs.set q zG:=by
     unfold kX;rw[az b, <-p]
    rw[b,v] at k;exact k u H
theorem Ky (H:aJ D G w0 w L) (j m:Nat) (s:L[j]? =some (bg,mw br gs.length c)) (p:L[m]? =some (br,flat eG gs++rest)) (h0:0<gs.length) (E:gs.length<=64) (o q t:Int) (b:Bool) {K:Int×Int×Unit->A2->Prop}
 (k: ∀f,aJ D G w0 f (L.set m (br,flat eG (jQ gs o q t b)++rest))->K (kh gs o q t,kY gs o q t,()) f):
 aD AC 180 (.bu [.one (.int .i64),.one (.int .i64)]) [ag (ae bg),aa o,aa q,aa t,.bool b] w K:=by
 refine aD.go H λw1 H=>ai (C:=G3) (aT:=λ_=>[]) (Ae (Kj _ o q t b w1 K) ?_);have same:kY gs o q t≠0-> ∀{f},aJ D G w0 f L->aJ D G w0 f (L.set m (br,flat eG (jQ gs o q t b)++rest)):=λh f H=>by
  unfold jQ;rw[au h,Nz p];exact H
 have v:kY gs o q t≠0->kh gs o q t=0:=λh=>au h;refine⟨_,pq (H.get s) h0,an rfl ⟨trivial,λ_=>trivial,ab (λd=>ao.go H λf H=>?_) (λd=>?_)⟩⟩
 ·have a:kY gs o q t=1:=az d;rw[v (by rw[a];decide),a] at k;rw[a] at same;exact k f (same (by decide) H)
 have a:kY gs o q t=if db gs (j9 o q t) gs.length≠[] then 5 else if db gs e8 gs.length=[] then 3 else 0:=au (by rw[d];decide);refine aK.go H λbc f H=>aC.all 0 H rfl rfl rfl λV H=>Kv H (j+1) (m+1) s p h0 E (bc:=bc) (C6) λsl Ls W n H=>?_;obtain⟨sp,sn,sc⟩:=sl;have A:sn=(db gs (j9 o q t) gs.length).length:=n.len;subst A;have H:=H.sub (CP _ Ls);refine ab (λd1=>ao.go H λF H=>?_) (λd1=>?_)
 ·have d1:db gs (j9 o q t) gs.length≠[]:=by
   intro e;rw[e] at d1;simp at d1
  rw[az d1] at a;rw[v (by rw[a];decide),a] at k;rw[a] at same;exact k F (same (by decide) (H.sub (B3 _ _)))
 have d1: ¬ db gs (j9 o q t) gs.length≠[]:=by
  simp_all
 rw[au d1] at a;refine Ku H (j+1) (m+1) s p h0 E λsl Ls F n H=>?_;obtain⟨sp,sn,sc⟩:=sl;have A:sn=(db gs e8 gs.length).length:=n.len;subst A;refine ab (λd2=>ao.go H λI H=>?_) (λd2=>?_)
 ·have d2:db gs e8 gs.length=[]:=by
   have:(db gs e8 gs.length).length=0:=by simpa using d2
   exact List.length_eq_zero_iff.1 this
  rw[az d2] at a;rw[v (by rw[a];decide),a] at k;rw[a] at same;exact k I (same (by decide) (H.sub ((CP L Ls).trans (B3 _ _))))
 have d2: ¬ db gs e8 gs.length=[]:=by
  intro e;rw[e] at d2;simp at d2
 rw[au d2] at a;have J:jQ gs o q t b=gs.set (kh gs o q t).toNat (o,q,t,b,0,()):=az a;have M:kh gs o q t=(db gs e8 gs.length).headD 0:=az a;rw[J,a] at k;obtain⟨z,l,u⟩: ∃z l,db gs e8 gs.length=z::l:=List.exists_cons_of_ne_nil d2;have N:kh gs o q t=z:=by rw[M,u];rfl
 rw[N] at k;obtain⟨r,O, _,P⟩:=qc.1 (by rw[u];exact C6:z∈db gs e8 gs.length);subst P;rw[u] at n;have X:(db gs e8 gs.length).length=l.length+1:=by rw[u];rfl
 have Q: ∀{w:A2} {g:Nat×List Ad},aJ D G w0 w (g::(L++Ls))->sp.isSome=true/\cP w (ad sp 0) (.one (.int .i64)) (r:Int):=λ{w g} H=>by
  have h:=n.rd H (λy B=>Bp _ (BO _ B)) (i:=0) (x:=(r:Int)) rfl;exact⟨h.1,h.2⟩
 have R:(L++Ls)[j]? =some (bg,mw br gs.length c):=zX s;have S:(L++Ls)[m]? =some (br,flat eG gs++rest):=zX p;refine⟨rfl,aC.fb 0 H rfl rfl rfl λI H=>?_⟩;refine⟨rfl,rfl,aj.bP (j+1) H R rfl ⟨by grind,aj.of _ (Q H).2 (aj.at 0 H rfl (show _=some (o,q,t,b,0,()) from rfl) ⟨⟨rfl,by omega,by show(r:Int)<((gs.length:Nat):Int);omega⟩,?_⟩)⟩⟩;refine aC.flat (e:=eG) (m+1) H (o,q,t,b,0,()) S rfl rfl O λT H=>?_;have H:aJ D G w0 T ((bc,[aa o,aa q,aa t,.bool b,aa 0])::((L++Ls).set m (br,flat eG (gs.set r (o,q,t,b,0,()))++rest))):=H;rw[Fw _ _ (B5.1 p).1] at H;have h:=n.rd H (λy B=>Bp _ (BO _ B)) (i:=0) (x:=(r:Int)) rfl;refine⟨by grind,aj.of _ h.2 (ao.go H λU H=>k U (H.sub ((CP _ Ls).trans (B3 _ _))))⟩
theorem Qu (H:aJ D G w0 w L) (j b:Nat) (A:L[j]? =some (bg,mw br gs.length c)) (q:L[b]? =some (br,flat eG gs++rest)) (h0:0<gs.length) (B:gs.length<=64) (R:j≠b) (g:Int) {K:Int->A2->Prop}
 (k: ∀n r,aJ D G w0 r (L.set b (br,flat eG (cQ gs g)++rest))->K n r):
 aD AC 169 (.el (.one (.int .i64))) [ag (ae bg),aa g] w K:=by
 refine aD.go H λw1 H=>ai (C:=G3) (aT:=tI) (Ae (PG _ g w1 K) ?_);refine aK.go H λbc r H=>Kw H (j+1) (b+1) A q h0 B (bc:=bc) (C6) λsl Ls E s H=>?_;have H:aJ D G w0 E ((bc,[aa g])::(L++Ls)):=H;have H:aJ D G w0 E (L++Ls):=H.sub (B3 _ _);obtain⟨sp,sn,sc⟩:=sl;have S:sn=(db gs (oK g) gs.length).length:=s.len;subst S;obtain⟨l,f⟩: ∃l,l=db gs (oK g) gs.length:=⟨_,rfl⟩;have hll:l.length<=64:=by rw[f];exact DB (qd _ _ _) B
 have F: ∀z∈l, ∃i:Nat,i<gs.length/\oK g (gs.getD i zG)=true/\z=(i:Int):=λz I=>by rw[f] at I;exact qc.1 I
 have T: ∀i:Nat,i<gs.length->oK g (gs.getD i zG)=true->(i:Int)∈l:=λi h1 t=>by rw[f];exact qc.2 ⟨i,h1,t,rfl⟩
 rw[<-f] at s ⊢;clear f;have U:=(B5.1 q).1;have J: ∀X:Nat×List Ad,((L++Ls).set b X)=L.set b X++Ls:=λX=>Fw _ _ U;refine⟨λn v w'=> ∃(m:Nat) (a:List GT),v.1=(m:Int)/\n+m=l.length/\a.length=gs.length/\(∀i:Nat,i<gs.length->a.getD i zG=if(i:Int)∈l.take m then zG else gs.getD i zG)/\aJ D G w0 w' ((L++Ls).set b (br,flat eG a++rest)),⟨l.length,λV W=>⟨0,gs,rfl,rfl,rfl,λi hi=>by simp,by rw[Nz (zX q)];exact H.ext W⟩⟩,?_⟩;clear H;rintro n ⟨v,u⟩ V ⟨m,a,e,hn,M,x,H⟩;dsimp only at e ⊢;subst e;refine ab (λcc=>?_) (λcc=>ao.go H λN H=>k _ N ?_)
 ·have O:m<l.length:=by simpa using cc
  have o:=B1 O;obtain⟨z,Y⟩: ∃z,z=l[m]:=⟨_,rfl⟩;rw[<-Y] at o;obtain⟨d,z1,z2,rfl⟩:=F z (Do o);have Z:l.take (m+1)=l.take m++[(d:Int)]:=by rw[I2,o];rfl
  have P:=s.rd H (λy hy=>by rw[J];exact BO _ hy) o;have hmb:((L++Ls).set b (br,flat eG a++rest))[j]? =some (bg,mw br a.length c):=by
   rw[M,Dn (λe=>R e.symm)];exact zX A
  have hwb:((L++Ls).set b (br,flat eG a++rest))[b]? =some (br,flat eG a++rest):=by
   rw[DA (by rw[Dc];omega)]
  refine⟨⟨P.1,by omega,by omega⟩,aj.of _ P.2 ⟨rfl,rfl,aj.bP j H hmb rfl ⟨⟨rfl,by omega,by show(d:Int)<((a.length:Nat):Int);omega⟩,?_⟩⟩⟩;refine aC.flat (e:=eG) b H zG hwb rfl rfl (by omega:d<a.length) λN H=>λw6 Q=>⟨n - 1,by omega,m+1,a.set d zG,by rw[ax (by omega) (by omega)];omega,by omega,by rw[Fv];exact M,λi hi=>?_,?_⟩
  ·rw[Z];by_cases ei:i=d
   ·subst ei;rw[az (by simp)];rw[B4,DA (by omega)];rfl
   ·have:(a.set d zG).getD i zG=a.getD i zG:=by
     grind
    rw[this,x i hi];by_cases p:(i:Int)∈l.take m
    ·rw[az p,az (CO _ p)]
    ·rw[au p,au (λh=>?_)];rcases Hq.1 h with h|h
     ·exact p h
     ·have:(i:Int)=d:=by simpa using h
      omega
  ·rw[Bv] at H;exact H.ext Q
 ·have O: ¬ m<l.length:=by simpa using cc
  rw[De (by omega)] at x;have e:a=cQ gs g:=Cb λi=>by
   unfold cQ;rw[Fx];by_cases hi:i<gs.length
   ·have h1:=x i hi;have t:a[i]? =some (a.getD i zG):=by rw[B4,B1 (by omega)];rfl
    have h3:gs[i]? =some (gs.getD i zG):=by rw[B4,B1 hi];rfl
    rw[t,h3,h1];show _=some (if oK g (gs.getD i zG)=true then zG else gs.getD i zG);by_cases c:oK g (gs.getD i zG)=true
    ·rw[az c,az (T i hi c)]
    ·rw[au c,au (λh=>?_)];obtain⟨i', _,h5,Q⟩:=F _ h;have:i'=i:=by omega
     subst this;exact c h5
   ·rw[IR (by omega),IR (by omega)];rfl
  subst e;rw[J] at H;exact H.sub (CP _ _)
theorem Uv (H:aJ D G w0 w L) (n:Nat) (c:1<=n/\n<=64) {K:Option Ab×Int×Unit->A2->Prop}
 (k: ∀bg br a,aJ D G w0 a ((bg,mw br (BK n zG).length n)::(br,flat eG (BK n zG)++[])::L)->K (some ⟨bg,0,none⟩,0,()) a):
 aD AC 73 (.bu [.one .ptr,.one (.int .i64)]) [aa (n:Int)] w K:=by
 refine aD.go H λw1 H=>ai (C:=G3) (Ae (Ue _ w1 K) ?_);refine an (by grind) ?_;refine E7.go H rfl (by omega) (Int.le_refl _) (by omega) (by omega) λb a H=>aK.go H λd f H=>ao.go H λg H=>?_;have e:(BK ((n:Nat):Int).toNat [aa 0,aa 0,aa 0,.bool false,aa 0]).flatten=flat eG (BK n zG)++[]:=by
  rw[Bs,gq];rfl
 grind
end
end Go.Proofs.YtlcenllcmeebhaaGreat
namespace Go.Proofs.YtlcenllcmeebhaaGreat.Po
set_option maxRecDepth 100000
open Go.RX
def gp (ps:List PT) (g i:Int):PT:=ps.getD (ix g i) zP
def dP (room:Int) (ps:List PT) (g:Int) (x:PT):(Int×Int)×List PT:=if cx room ps g= -1 then((0,3),ps) else((cx room ps g,0),ps.set (ix g (cx room ps g)) x)
def iS (room:Int) (ps:List PT) (g r:Int):(Int×Int)×List PT:=if ru g r=0 then dP room ps g (1,r,0,false,false,()) else((0,ru g r),ps)
def g_ (room:Int) (ps:List PT) (g r i:Int):(Int×Int)×List PT:=
 if ru g r=0 then
  match oE room ps r i with
  |none=>((0,4),ps)
  |some k=>
   if(ps.getD k zP).1=2 then((0,6),ps) else if(ps.getD k zP).2.1≠g then((0,7),ps) else
    if cx room ps g= -1 then((0,3),ps) else
     ((cx room ps g,0),(ps.set (ix g (cx room ps g)) (2,r,i,false,false,())).set k (2,(ps.getD k zP).2.1,cx room ps g,(ps.getD k zP).2.2.2))
 else((0,ru g r),ps)
def kZ (room:Int) (ps:List PT) (g i:Int):Int×List PT:=
 match oE room ps g i with
 |none=>(4,ps)
 |some k=>if(ps.getD k zP).1=2 then
   let y:=gp ps (ps.getD k zP).2.1 (ps.getD k zP).2.2.1
   (0,ps.set (ix (ps.getD k zP).2.1 (ps.getD k zP).2.2.1) (y.1,y.2.1,y.2.2.1,true,y.2.2.2.2))
  else(6,ps)
def vo (ps:List PT) (g:Int) (i:Nat):Bool:=gI g&&((gp ps g i).2.2.2.1&& !(gp ps g i).2.2.2.2.1)
def oT (room:Int) (ps:List PT) (g:Int):List Int:=((Bz room.toNat).filter (vo ps g)).map λi=>((i:Nat):Int)
def gM (room:Int) (ps:List PT) (g:Int):(Int×Bool)×List PT:=
 match oT room ps g with
 |[]=>((0,false),ps)
 |i:: _=>((i,true),ps.set (ix g i) ((gp ps g i).1,(gp ps g i).2.1,(gp ps g i).2.2.1,false,(gp ps g i).2.2.2.2))
def eK (room:Int) (ps:List PT) (g i:Int):Int×List PT:=
 match oE room ps g i with
 |none=>(4,ps)
 |some k=>if(ps.getD k zP).1=2 then
   let y:=gp ps (ps.getD k zP).2.1 (ps.getD k zP).2.2.1
   (0,(ps.set (ix (ps.getD k zP).2.1 (ps.getD k zP).2.2.1) (1,y.2.1,0,y.2.2.2)).set k zP)
  else(0,ps.set k zP)
def h_ (room:Int) (ps:List PT) (g:Int):Nat->Int×List PT
 |0=>(0,ps)
 |i+1=>((h_ room ps g i).1+(if(eK room (h_ room ps g i).2 g i).1=0 then 1 else 0),(eK room (h_ room ps g i).2 g i).2)
def oU (room g:Int) (s:Int×List PT) (k i:Int):Int×List PT:=
 match oE room s.2 k i with
 |none=>s
 |some x=>if(s.2.getD x zP).2.1=g then(s.1+1,s.2.set x zP) else s
def mD (room g:Int) (s:Int×List PT) (k:Int):Nat->Int×List PT
 |0=>s
 |i+1=>oU room g (mD room g s k i) k i
def ki (room g:Int) (s:Int×List PT):Nat->Int×List PT
 |0=>s
 |k+1=>mD room g (ki room g s k) ((k:Int)+1) room.toNat
def cH (room:Int) (ps:List PT) (g:Int):Int×List PT:=if gI g then ki room g (h_ room ps g room.toNat) 16 else(0,ps)
structure lA (room:Int) (ps:List PT):Prop extends okS room ps where
 inv: ∀g i,r_ room g i=true->gp ps g i=zP\/((gp ps g i).1=1/\(1<=(gp ps g i).2.1/\(gp ps g i).2.1<=16)/\(gp ps g i).2.1≠g/\(gp ps g i).2.2.1=0)\/
  ((gp ps g i).1=2/\(gp ps g i).2.1≠g/\r_ room (gp ps g i).2.1 (gp ps g i).2.2.1=true/\(gp ps (gp ps g i).2.1 (gp ps g i).2.2.1).1=2/\(gp ps (gp ps g i).2.1 (gp ps g i).2.2.1).2.1=g/\(gp ps (gp ps g i).2.1 (gp ps g i).2.2.1).2.2.1=i)
theorem Aa {ps:List PT} {k:Nat} (h:k<ps.length) (x:PT):(ps.set k x).getD k zP=x:=by grind
theorem pI {ps:List PT} {k j:Nat} (h:k≠j) (x:PT):(ps.set k x).getD j zP=ps.getD j zP:=by grind
theorem iW {room:Int} {ps:List PT} (b:okS room ps) {g i g' a:Int} (h:r_ room g i=true) (h':r_ room g' a=true) (x:PT):gp (ps.set (ix g i) x) g' a=if g'=g/\a=i then x else gp ps g' a:=by
 by_cases e:g'=g/\a=i
 ·rw[az e,e.1,e.2];exact Aa (by rw[b.len];exact oS h b.hi) x
 ·rw[au e];exact pI (λc=>e (by have:=OA h h' b.hi;grind)) x
theorem uG {room:Int} {ps:List PT} {g i:Int} (h:r_ room g i=true):oE room ps g i=if gp ps g i=zP then none else some (ix g i):=by grind[oE,gp]
theorem pV {g r:Int}:ru g r=0<->gI g=true/\gI r=true/\g≠r:=by grind[ru]
section
variable {D G:List Nat} {w0 w:A2} {L:List (Nat×List Ad)} {bp:Nat} {room:Int} {ps:List PT}
theorem Ft (H:aJ D G w0 w L) (j:Nat) (a:L[j]? =some (bp,gJ room ps)) (b:okS room ps) (g i:Int) {r:Option Nat} (c:oE room ps g i=r):ah AC 213 [ag (ae bp),aa g,aa i] w (ag (r.map λk=>⟨bp,k*5,none⟩)):=by
 subst c;exact ah.of λw' h'=>Ds ((H.get a).ext h') b g i
theorem WH (H:aJ D G w0 w L) (j:Nat) (a:L[j]? =some (bp,gJ room ps)) (b:okS room ps) (g i:Int):ah AC 229 [ag (ae bp),aa g,aa i] w (aa (ru g i)):=
 ah.of λw' h'=>Y3 ((H.get a).ext h') b g i
theorem OB (H:aJ D G w0 w L) (j:Nat) (a:L[j]? =some (bp,gJ room ps)) (b:okS room ps):ah AC 231 [ag (ae bp)] w (aa 4):=
 ah.of λw' h'=>Uu ((H.get a).ext h') b
theorem Uw (H:aJ D G w0 w L) (j:Nat) (a:L[j]? =some (bp,gJ room ps)) (b:okS room ps):ah AC 211 [ag (ae bp)] w (.bool true):=
 ah.of λw' h'=>pv ((H.get a).ext h') b
theorem kx {j:Nat} {x y:Nat×List Ad} (h:L[j]? =some x):(L.set j y)[j]? =some y:=by grind
theorem OC (H:aJ D G w0 w L) (j:Nat) (r:L[j]? =some (bp,gJ room ps)) (i:okS room ps) (g:Int) (t:gI g=true) (x:PT) {K:Int×Int×Unit->A2->Prop}
 (k: ∀l,aJ D G w0 l (L.set j (bp,gJ room (dP room ps g x).2))->K ((dP room ps g x).1.1,(dP room ps g x).1.2,()) l):
 aD AC 230 (.bu [.one (.int .i64),.one (.int .i64)]) [ag (ae bp),aa g,.agg ⟨bj sQ x⟩] w K:=by
 obtain⟨x1,a,d,f,h,m⟩:=x;refine aD.go H λw1 H=>ai (C:=R1) (aT:=λ_=>[]) (Ae (Y1 _ g x1 a d f h w1 K) ?_);have u:=i.hi;refine aK.go H λb l H=>?_;have o:((b,bj sQ (x1,a,d,f,h,()))::L)[j+1]? =some (bp,gJ room ps):=r;refine⟨cx room ps g,ah.of (s:= .el (.one (.int .i64))) λw' h'=>Qr ((H.get o).ext h') i g,ab (λc=>?_) (λc=>?_)⟩
 ·have e:cx room ps g= -1:=by simpa using c
  have n:dP room ps g (x1,a,d,f,h,m)=((0,3),ps):=az e;rw[n] at k;refine ao.go H λp H=>k p ?_;have v:L.set j (bp,gJ room ps)=L:=Cb (by grind);rw[v];exact H.sub (B3 _ _)
 ·have e:cx room ps g≠ -1:=by simpa using c
  have n:dP room ps g (x1,a,d,f,h,m)=((cx room ps g,0),ps.set (ix g (cx room ps g)) (x1,a,d,f,h,m)):=au e;rw[n] at k;have q:=(mO t e).1;have E:=eV.1 q;have y:=oS q u;have es:aY .i64 g 1=g - 1:=bD (by omega) (by omega);rw[es];have z:ad (ad (ad (ae bp) 0) ((g - 1).toNat*160)) ((cx room ps g).toNat*5)=ad (ae bp) (ix g (cx room ps g)*aG eQ):=by
   rw[aR,aR,aR,aR];unfold ix;congr 2;show _=0+ _*5;omega
  have A:ad (ad (ae bp) 0) ((g - 1).toNat*160)=some ⟨bp,0+0+(g - 1).toNat*160,none⟩:=by rw[aR,aR]
  rw[z,A];refine aj.at 0 H rfl (x:=(x1,a,d,f,h,())) rfl ⟨rfl,rfl,⟨rfl,by omega,by omega⟩,⟨rfl,by omega,by omega⟩,?_⟩;refine aC.flat (j+1) H (x1,a,d,f,h,()) o rfl rfl (by rw[i.len];exact y) λp H=>ao.go H λB H=>k B ?_;exact H.sub (B3 _ _)
theorem lj {j:Nat} {x:Nat×List Ad} (h:L[j]? =some x):L.set j x=L:=Cb (by grind)
theorem Qv (H:aJ D G w0 w L) (j:Nat) (a:L[j]? =some (bp,gJ room ps)) (h:okS room ps) (g r:Int) {K:Int×Int×Unit->A2->Prop}
 (k: ∀b,aJ D G w0 b (L.set j (bp,gJ room (iS room ps g r).2))->K ((iS room ps g r).1.1,(iS room ps g r).1.2,()) b):
 aD AC 185 (.bu [.one (.int .i64),.one (.int .i64)]) [ag (ae bp),aa g,aa r] w K:=by
 refine aD.go H λw1 H=>ai (C:=R1) (Ae (Qk _ g r w1 K) ?_);refine⟨_,WH H j a h g r,ab (λc=>?_) (λc=>?_)⟩
 ·have e:=by simpa using c
  have d:iS room ps g r=((0,ru g r),ps):=au e;rw[d] at k;refine ao.go H λf H=>k f ?_;rw[lj a];exact H
 ·have e:ru g r=0:=by simpa using c
  have d:iS room ps g r=dP room ps g _:=az e;rw[d] at k;exact OC H j a h g (pV.1 e).1 (1,r,0,false,false,()) λb H=>ao.go H λf H=>k f H
theorem Qw (H:aJ D G w0 w L) (j:Nat) (a:L[j]? =some (bp,gJ room ps)) (b:okS room ps) (g r i:Int) {K:Int×Int×Unit->A2->Prop}
 (k: ∀h,aJ D G w0 h (L.set j (bp,gJ room (g_ room ps g r i).2))->K ((g_ room ps g r i).1.1,(g_ room ps g r i).1.2,()) h):
 aD AC 186 (.bu [.one (.int .i64),.one (.int .i64)]) [ag (ae bp),aa g,aa r,aa i] w K:=by
 refine aD.go H λw1 H=>ai (C:=R1) (aT:=λ_=>[]) (Ae (Ql _ g r i w1 K) ?_);have l: ∀v:Int×Int,g_ room ps g r i=(v,ps)->ao w1 λw1=>K (v.1,v.2,()) w1:=λv e=>by
  rw[e] at k;refine ao.go H λf H=>k f ?_;rw[lj a];exact H
 refine⟨_,WH H j a b g r,ab (λc=>?_) (λc=>?_)⟩
 ·have e: ¬ ru g r=0:=by simpa using c
  exact l (0,ru g r) (au e)
 have e:ru g r=0:=by simpa using c
 obtain⟨p,I,B⟩:=pV.1 e;have hb:g_ room ps g r i= _:=az e;refine⟨_,Ft H j a b r i rfl,?_⟩;cases m:oE room ps r i with
 |none=>
  rw[m] at hb;exact aF rfl (l (0,4) hb)
 |some kk=>
  rw[m] at hb;obtain⟨q,s,J⟩:=fv m;have t:kk<512:=by rw[s];exact oS q b.hi
  have u:=b.get t;refine an rfl ⟨rfl,rfl,aj.bP j H a (sa u (by decide) rfl) (ab (λc1=>?_) (λc1=>?_))⟩
  ·exact l (0,6) (hb.trans (az (by simpa using c1)))
  refine⟨rfl,rfl,aj.bP j H a (sa u (by decide) rfl) (ab (λc2=>?_) (λc2=>?_))⟩
  grind
  have y:=hb.trans ((au (by simpa using c1)).trans (au (by simpa using c2)));refine OC H j a b g p (2,r,i,false,false,()) λh H=>?_;by_cases d:cx room ps g= -1
  ·have n:dP room ps g (2,r,i,false,false,())=((0,3),ps):=az d;rw[n] at H ⊢;have o:g_ room ps g r i=((0,3),ps):=y.trans (az d);rw[o] at k;exact an rfl (ao.go H λf H=>k f H)
  ·have n:dP room ps g (2,r,i,false,false,())=((cx room ps g,0),ps.set (ix g (cx room ps g)) (2,r,i,false,false,())):=au d;rw[n] at H ⊢;have E:ix g (cx room ps g)≠kk:=λz=>by
    rw[s] at z;exact B (OA (mO p d).1 q b.hi z).1
   have o:g_ room ps g r i=((cx room ps g,0), _):=y.trans (au d);rw[o] at k;have A:=(b.set (ix g (cx room ps g)) (2,r,i,false,false,())).get t;rw[pI E] at A;refine aF rfl ⟨rfl,rfl,?_⟩;refine aC.sa j H (2,(ps.getD kk zP).2.1,(ps.getD kk zP).2.2.1,(ps.getD kk zP).2.2.2.1,(ps.getD kk zP).2.2.2.2.1,()) (kx a) A (by decide) rfl rfl λf H=>⟨rfl,rfl,?_⟩;rw[Bv] at H;refine aC.sa j H (x:=(2,(ps.getD kk zP).2.1,(ps.getD kk zP).2.2.1,(ps.getD kk zP).2.2.2.1,(ps.getD kk zP).2.2.2.2.1,())) (2,(ps.getD kk zP).2.1,cx room ps g,(ps.getD kk zP).2.2.2.1,(ps.getD kk zP).2.2.2.2.1,()) (kx a) (by grind) (by decide) rfl rfl λM H=>ao.go H λF H=>k F ?_;rw[Bv,Bv] at H;exact H
end
theorem lA.nz {room:Int} {ps:List PT} (f:lA room ps) {g i:Int} {k:Nat} (h:oE room ps g i=some k) (a:(ps.getD k zP).1=2):
 (ps.getD k zP).2.1≠g/\r_ room (ps.getD k zP).2.1 (ps.getD k zP).2.2.1=true/\oE room ps (ps.getD k zP).2.1 (ps.getD k zP).2.2.1=some (ix (ps.getD k zP).2.1 (ps.getD k zP).2.2.1):=by
 obtain⟨j,l,b⟩:=fv h;subst l;have m:ps.getD (ix g i) zP=gp ps g i:=rfl;rw[m] at a b ⊢;rcases f.inv g i j with e|e|⟨_,n,c,d,p⟩
 ·exact absurd e b
 ·rw[e.1] at a;exact absurd a (by decide)
 ·refine⟨n,c,?_⟩;rw[uG c,au];intro o;rw[o] at d;exact absurd d (by decide)
theorem zc {room:Int} {ps:List PT} {g i:Int} {k:Nat} (a:oE room ps g i=some k):kZ room ps g i=if(ps.getD k zP).1=2 then(0,ps.set (ix (ps.getD k zP).2.1 (ps.getD k zP).2.2.1) ((gp ps (ps.getD k zP).2.1 (ps.getD k zP).2.2.1).1,(gp ps (ps.getD k zP).2.1 (ps.getD k zP).2.2.1).2.1,(gp ps (ps.getD k zP).2.1 (ps.getD k zP).2.2.1).2.2.1,true,(gp ps (ps.getD k zP).2.1 (ps.getD k zP).2.2.1).2.2.2.2)) else(6,ps):=by
 unfold kZ;rw[a]
theorem pC {room:Int} {ps:List PT} {g i:Int} {k:Nat} (a:oE room ps g i=some k):eK room ps g i=if(ps.getD k zP).1=2 then(0,(ps.set (ix (ps.getD k zP).2.1 (ps.getD k zP).2.2.1) (1,(gp ps (ps.getD k zP).2.1 (ps.getD k zP).2.2.1).2.1,0,(gp ps (ps.getD k zP).2.1 (ps.getD k zP).2.2.1).2.2.2)).set k zP) else(0,ps.set k zP):=by
 unfold eK;rw[a]
theorem Gv {room:Int} {ps:List PT} {g i:Int} (a:oE room ps g i=none):kZ room ps g i=(4,ps):=by unfold kZ;rw[a]
theorem vO {room:Int} {ps:List PT} {g i:Int} (a:oE room ps g i=none):eK room ps g i=(4,ps):=by unfold eK;rw[a]
section
variable {D G:List Nat} {w0 w:A2} {L:List (Nat×List Ad)} {bp:Nat} {room:Int} {ps:List PT}
theorem Qx (H:aJ D G w0 w L) (j:Nat) (a:L[j]? =some (bp,gJ room ps)) (f:lA room ps) (g i:Int) {K:Int->A2->Prop}
 (k: ∀h,aJ D G w0 h (L.set j (bp,gJ room (kZ room ps g i).2))->K (kZ room ps g i).1 h):
 aD AC 187 (.el (.one (.int .i64))) [ag (ae bp),aa g,aa i] w K:=by
 refine aD.go H λw1 H=>ai (C:=R1) (aT:=λ_=>[]) (Ae (Qm _ g i w1 K) ?_);have b:=f.tookS;have l: ∀v:Int,kZ room ps g i=(v,ps)->ao w1 λw1=>K v w1:=λv e=>by
  rw[e] at k;refine ao.go H λm H=>k m ?_;rw[lj a];exact H
 refine⟨_,Ft H j a b g i rfl,?_⟩;cases c:oE room ps g i with
 |none=>exact aF rfl ⟨4,OB H j a b,l 4 (by unfold kZ;rw[c])⟩
 |some kk=>
  obtain⟨o,p,y⟩:=fv c;have q:kk<512:=by rw[p];exact oS o b.hi
  have d:=b.get q;have hb:=zc c;refine an rfl ⟨rfl,rfl,aj.bP j H a (sa d (by decide) rfl) (ab (λc1=>?_) (λc1=>?_))⟩
  ·exact l 6 (hb.trans (au (by simpa using c1)))
  have n:(ps.getD kk zP).1=2:=by simpa using c1
  rw[hb,az n] at k;obtain⟨z,r,s⟩:=f.nz c n;have t:=oS r b.hi;have u:=b.get t;refine⟨rfl,rfl,aj.bP j H a (sa d (by decide) rfl) ⟨rfl,rfl,aj.bP j H a (sa d (by decide) rfl) ⟨_,Ft H j a b _ _ s,rfl,rfl,?_⟩⟩⟩;exact aC.sa j H (_, _, _,true, _,()) a u (by decide) rfl rfl λm H=>ao.go H λx H=>k x H
theorem aC.port (j:Nat) (H:aJ D G w0 w L) (a:L[j]? =some (bp,gJ room ps)) {k:Nat} (b:k<ps.length) (y:PT) {vs:List Ad} (hv:vs=bj sQ y) {K:A2->Prop}
 (c: ∀w1,aJ D G w0 w1 (L.set j (bp,gJ room (ps.set k y)))->K w1):aC w (some ⟨bp,k*5,none⟩) vs K:=by
 have:=aC.flat j H (e:=eQ) (rest:=[aa room]) (i:=k) y a hv rfl b c;rw[aR,BL] at this;exact this
theorem AQ (H:aJ D G w0 w L) (j:Nat) (a:L[j]? =some (bp,gJ room ps)) (m:lA room ps) (g i:Int) {K:Int->A2->Prop}
 (k: ∀n,aJ D G w0 n (L.set j (bp,gJ room (eK room ps g i).2))->K (eK room ps g i).1 n):
 aD AC 189 (.el (.one (.int .i64))) [ag (ae bp),aa g,aa i] w K:=by
 refine aD.go H λw1 H=>ai (C:=R1) (aT:=λ_=>[]) (Ae (Kt _ g i w1 K) ?_);have b:=m.tookS;refine⟨_,Ft H j a b g i rfl,?_⟩;cases c:oE room ps g i with
 |none=>
  have e:eK room ps g i=(4,ps):=by unfold eK;rw[c]
  rw[e] at k;refine aF rfl ⟨4,OB H j a b,ao.go H λo H=>k o ?_⟩;rw[lj a];exact H
 |some kk=>
  obtain⟨s,t,A⟩:=fv c;have d:kk<512:=by rw[t];exact oS s b.hi
  have f:=b.get d;have hb:=pC c;refine an rfl ⟨rfl,rfl,aj.bP j H a (sa f (by decide) rfl) (ab (λc1=>?_) (λc1=>?_))⟩
  ·have p:(ps.getD kk zP).1=2:=by simpa using c1
   rw[hb,az p] at k;obtain⟨B,u,v⟩:=m.nz c p;have h:=oS u b.hi;have q:=b.get h;refine⟨rfl,rfl,aj.bP j H a (sa f (by decide) rfl) ⟨rfl,rfl,aj.bP j H a (sa f (by decide) rfl) ⟨_,Ft H j a b _ _ v,rfl,rfl,?_⟩⟩⟩;obtain⟨y,r⟩: ∃y,y=gp ps (ps.getD kk zP).2.1 (ps.getD kk zP).2.2.1:=⟨_,rfl⟩;rw[<-r] at k;have q:ps[ix (ps.getD kk zP).2.1 (ps.getD kk zP).2.2.1]? =some y:=by rw[r];exact b.get h
   refine aC.sa j H (1,y.2.1,y.2.2.1,y.2.2.2.1,y.2.2.2.2.1,()) a q (by decide) rfl rfl λo H=>⟨rfl,rfl,?_⟩;refine aC.sa j H (x:=(1,y.2.1,y.2.2.1,y.2.2.2.1,y.2.2.2.2.1,())) (1,y.2.1,0,y.2.2.2.1,y.2.2.2.2.1,()) (kx a) (by rw[DA (by rw[b.len];exact h)]) (by decide) rfl rfl λE H=>⟨rfl,?_⟩;rw[Bv,Bv] at H;refine aC.port j H (kx a) (by rw[Fv,b.len];exact d) zP rfl λz H=>ao.go H λl H=>k l ?_;rw[Bv] at H;exact H
  ·rw[hb,au (by simpa using c1)] at k;exact⟨rfl,aC.port j H a (by rw[b.len];exact d) zP rfl λz H=>ao.go H λl H=>k l H⟩
end
section
variable {room:Int} {ps:List PT}
theorem lA.Ye (b:lA room ps) {g i:Int} (h:r_ room g i=true) (l:(gp ps g i).1≠2) {y:PT} (d:y=zP\/(y.1=1/\(1<=y.2.1/\y.2.1<=16)/\y.2.1≠g/\y.2.2.1=0)):lA room (ps.set (ix g i) y) where
 tookS:=b.tookS.set _ _
 inv g' a h':=by
  by_cases e:g'=g/\a=i
  ·have f:gp (ps.set (ix g i) y) g' a=y:=(iW b.tookS h h' y).trans (az e);rw[f,e.1];rcases d with d|d
   ·exact .inl d
   ·exact .inr (.inl d)
  ·have f:gp (ps.set (ix g i) y) g' a=gp ps g' a:=(iW b.tookS h h' y).trans (au e);rw[f];rcases b.inv g' a h' with z|z|⟨m,n,k,j,o,p⟩
   ·exact .inl z
   ·exact .inr (.inl z)
   ·have q: ¬ ((gp ps g' a).2.1=g/\(gp ps g' a).2.2.1=i):=λc=>by rw[c.1,c.2] at j;exact l j
    have r:gp (ps.set (ix g i) y) (gp ps g' a).2.1 (gp ps g' a).2.2.1=gp ps (gp ps g' a).2.1 (gp ps g' a).2.2.1:=(iW b.tookS h k y).trans (au q);rw[r];exact .inr (.inr ⟨m,n,k,j,o,p⟩)
theorem lA.sy (c:lA room ps) {g i:Int} (h:r_ room g i=true) (k:gp ps g i≠zP) {y:PT} (h1:y.1=(gp ps g i).1) (l:y.2.1=(gp ps g i).2.1) (m:y.2.2.1=(gp ps g i).2.2.1):lA room (ps.set (ix g i) y) where
 tookS:=c.tookS.set _ _
 inv g' d h':=by
  have key: ∀a b,r_ room a b=true->(gp (ps.set (ix g i) y) a b).1=(gp ps a b).1/\(gp (ps.set (ix g i) y) a b).2.1=(gp ps a b).2.1/\(gp (ps.set (ix g i) y) a b).2.2.1=(gp ps a b).2.2.1:=λa b f=>by
   by_cases e:a=g/\b=i
   ·rw[(iW c.tookS h f y).trans (az e),e.1,e.2];exact⟨h1,l,m⟩
   ·rw[(iW c.tookS h f y).trans (au e)];exact⟨rfl,rfl,rfl⟩
  obtain⟨n,o,p⟩:=key g' d h';rw[n,o,p];rcases c.inv g' d h' with z|z|⟨q,r,j,s,t,u⟩
  ·refine .inl ?_;by_cases e:g'=g/\d=i
   ·rw[e.1,e.2] at z;exact absurd z k
   ·rw[(iW c.tookS h h' y).trans (au e)];exact z
  ·exact .inr (.inl z)
  ·obtain⟨v,w,x⟩:=key _ _ j;rw[v,w,x];exact .inr (.inr ⟨q,r,j,s,t,u⟩)
theorem lA.dP (b:lA room ps) {g:Int} (c:gI g=true) {y:PT} (d:y.1=1/\(1<=y.2.1/\y.2.1<=16)/\y.2.1≠g/\y.2.2.1=0):lA room (dP room ps g y).2:=by
 unfold Go.Proofs.YtlcenllcmeebhaaGreat.Po.dP;split
 ·exact b
 ·rename_i f;obtain⟨h1,a⟩:=mO c f;rw[uG h1] at a;have h:gp ps g (cx room ps g)=zP:=by
   by_cases e:gp ps g (cx room ps g)=zP
   ·exact e
   ·rw[au e] at a;cases a
  exact b.Ye h1 (by rw[h];decide) (.inr d)
theorem lA.iS (a:lA room ps) (g r:Int):lA room (iS room ps g r).2:=by
 unfold Go.Proofs.YtlcenllcmeebhaaGreat.Po.iS;split
 ·rename_i e;obtain⟨h1,b,c⟩:=pV.1 e;exact a.dP h1 ⟨rfl,nr.1 b,λe=>c e.symm,rfl⟩
 ·exact a
theorem lA.g_ (f:lA room ps) (g r i:Int):lA room (g_ room ps g r i).2:=by
 unfold Go.Proofs.YtlcenllcmeebhaaGreat.Po.g_;split
 ·rename_i e;obtain⟨h1,G,n⟩:=pV.1 e;split
  ·exact f
  ·rename_i k y;split
   ·exact f
   ·split
    ·exact f
    ·split
     ·exact f
     ·rename_i t h A;obtain⟨l,o⟩:=mO h1 A;rw[uG l] at o;have u:gp ps g (cx room ps g)=zP:=by
       by_cases e:gp ps g (cx room ps g)=zP
       ·exact e
       ·rw[au e] at o;cases o
      obtain⟨p1,p2,p3⟩:=fv y;subst p2;have B:ps.getD (ix r i) zP=gp ps r i:=rfl;rw[B] at t h p3 ⊢;have h:(gp ps r i).2.1=g:=Classical.byContradiction h;generalize cx room ps g=j at l u;have p:=f.tookS;have key: ∀a b,r_ room a b=true->gp ((ps.set (ix g j) (2,r,i,false,false,())).set (ix r i) (2,(gp ps r i).2.1,j,(gp ps r i).2.2.2)) a b=if a=r/\b=i then(2,(gp ps r i).2.1,j,(gp ps r i).2.2.2) else if a=g/\b=j then(2,r,i,false,false,()) else gp ps a b:=λa b v=>by
       rw[iW (p.set _ _) p1 v,iW p l v]
      show lA room ((ps.set (ix g j) (2,r,i,false,false,())).set (ix r i) (2,(gp ps r i).2.1,j,(gp ps r i).2.2.2));have w:=(p.set (ix g j) (2,r,i,false,false,())).set (ix r i) (2,(gp ps r i).2.1,j,(gp ps r i).2.2.2);generalize (ps.set (ix g j) (2,r,i,false,false,())).set (ix r i) (2,(gp ps r i).2.1,j,(gp ps r i).2.2.2)=X at key w ⊢;refine⟨w,λg' d h'=>?_⟩;rw[key g' d h'];by_cases q:g'=r/\d=i
      ·rw[az q];obtain⟨rfl,rfl⟩:=q;refine .inr (.inr ⟨rfl,by rw[h];exact n,by rw[h];exact l,?_⟩);show(gp _ (gp ps g' d).2.1 j).1=2/\(gp _ (gp ps g' d).2.1 j).2.1=g'/\(gp _ (gp ps g' d).2.1 j).2.2.1=d;rw[h,key g j l,au (λc=>n c.1),az ⟨rfl,rfl⟩];exact⟨rfl,rfl,rfl⟩
      ·rw[au q];by_cases s:g'=g/\d=j
       ·rw[az s];obtain⟨rfl,rfl⟩:=s;refine .inr (.inr ⟨rfl,λc=>n c.symm,p1,?_⟩);show(gp _ r i).1=2/\(gp _ r i).2.1=g'/\(gp _ r i).2.2.1=d;rw[key r i p1,az ⟨rfl,rfl⟩];exact⟨rfl,h,rfl⟩
       ·rw[au s];rcases f.inv g' d h' with z|z|⟨C,D,x,m,E,F⟩
        ·exact .inl z
        ·exact .inr (.inl z)
        ·rw[key _ _ x,au,au]
         ·exact .inr (.inr ⟨C,D,x,m,E,F⟩)
         ·intro c;rw[c.1,c.2,u] at m;exact absurd m (by decide)
         ·intro c;rw[c.1,c.2] at m;exact t m
 ·exact f
theorem lA.kZ (a:lA room ps) (g i:Int):lA room (kZ room ps g i).2:=by
 cases b:oE room ps g i with
 |none=>rw[Gv b];exact a
 |some k=>
  rw[zc b];split
  ·rename_i c;obtain⟨_,d,e⟩:=a.nz b c;obtain⟨_, _,f⟩:=fv e;exact a.sy d f rfl rfl rfl
  ·exact a
theorem s6 {g x:Int} (h:x∈oT room ps g):r_ room g x=true/\(gp ps g x).2.2.2.1=true/\(gp ps g x).2.2.2.2.1=false:=by
 unfold oT at h;rw[Bx] at h;obtain⟨j,b,rfl⟩:=h;rw[Ht] at b;have:=FF.1 b.1;have a:=b.2;unfold vo at a;simp only[CX,Db] at a;exact⟨eV.2 ⟨nr.1 a.1,by omega,by omega⟩,a.2.1,a.2.2⟩
theorem IA {g x:Int} (h:x∈oT room ps g):gp ps g x≠zP:=λe=>by
 have:=(s6 h).2.1;rw[e] at this;cases this
theorem lA.gM (a:lA room ps) (g:Int):lA room (gM room ps g).2:=by
 unfold Go.Proofs.YtlcenllcmeebhaaGreat.Po.gM;cases c:oT room ps g with
 |nil=>exact a
 |cons x l=>
  have b:x∈oT room ps g:=by rw[c];exact C6
  exact a.sy (s6 b).1 (IA b) rfl rfl rfl
theorem lA.eK (d:lA room ps) (g i:Int):lA room (eK room ps g i).2:=by
 cases l:oE room ps g i with
 |none=>rw[vO l];exact d
 |some k=>
  rw[pC l];obtain⟨p1,p2,p3⟩:=fv l;have p:=d.tookS;split
  ·rename_i e;obtain⟨q,m, _⟩:=d.nz l e;subst p2;have y:ps.getD (ix g i) zP=gp ps g i:=rfl;rw[y] at e q m p3 ⊢;have hi:=d.inv g i p1;rcases hi with z|z|⟨_, _, _,c4,c5,c6⟩
   ·exact absurd z p3
   ·rw[z.1] at e;exact absurd e (by decide)
   obtain⟨r,t⟩: ∃r,r=(gp ps g i).2.1:=⟨_,rfl⟩;obtain⟨j,u⟩: ∃j,j=(gp ps g i).2.2.1:=⟨_,rfl⟩;rw[<-t] at q c4 c5 c6 m ⊢;rw[<-u] at c4 c5 c6 m ⊢;have key: ∀a b,r_ room a b=true->gp ((ps.set (ix r j) (1,(gp ps r j).2.1,0,(gp ps r j).2.2.2)).set (ix g i) zP) a b=if a=g/\b=i then zP else if a=r/\b=j then(1,(gp ps r j).2.1,0,(gp ps r j).2.2.2) else gp ps a b:=λa b v=>by
    rw[iW (p.set _ _) p1 v,iW p m v]
   show lA room ((ps.set (ix r j) (1,(gp ps r j).2.1,0,(gp ps r j).2.2.2)).set (ix g i) zP);have w:=(p.set (ix r j) (1,(gp ps r j).2.1,0,(gp ps r j).2.2.2)).set (ix g i) zP;generalize (ps.set (ix r j) (1,(gp ps r j).2.1,0,(gp ps r j).2.2.2)).set (ix g i) zP=X at key w ⊢;refine⟨w,λg' n h'=>?_⟩;rw[key g' n h'];by_cases s:g'=g/\n=i
   ·rw[az s];exact .inl rfl
   ·rw[au s];by_cases o:g'=r/\n=j
    ·rw[az o];refine .inr (.inl ⟨rfl,?_,?_,rfl⟩)
     ·show 1<=(gp ps r j).2.1/\(gp ps r j).2.1<=16;rw[c5];exact(eV.1 p1).1
     ·show(gp ps r j).2.1≠g';rw[c5,o.1];exact λc=>q c.symm
    ·rw[au o];rcases d.inv g' n h' with z|z|⟨A,B,x,C,f,h⟩
     ·exact .inl z
     ·exact .inr (.inl z)
     ·rw[key _ _ x,au,au]
      ·exact .inr (.inr ⟨A,B,x,C,f,h⟩)
      ·intro c;rw[c.1,c.2] at f h;exact s ⟨by rw[<-f,c5],by rw[<-h,c6]⟩
      ·intro c;rw[c.1,c.2] at f h;exact o ⟨by rw[<-f, <-t],by rw[<-h, <-u]⟩
  ·rename_i e;subst p2;exact d.Ye p1 e (.inl rfl)
end
section
variable {D G:List Nat} {w0 w:A2} {L:List (Nat×List Ad)} {bp:Nat} {room:Int} {ps:List PT}
def Aq (ps:List PT) (g:Int) (i:Nat):List Int:=((Bz i).filter (vo ps g)).map λi=>((i:Nat):Int)
theorem Gw (g:Int) (i:Nat):Aq ps g (i+1)=Aq ps g i++(if vo ps g i then[((i:Nat):Int)] else[]):=by grind[Aq,EY]
theorem Kz (g:Int) (i:Nat):(Aq ps g i).length<=i:=by grind[Aq]
theorem Gx {g:Int} {i:Nat} (hi:(i:Int)<room) (a:oE room ps g i=none):vo ps g i=false:=by
 grind[vo,r_,uG,zP]
theorem Gy {g:Int} {i:Nat} {k:Nat} (a:oE room ps g i=some k):vo ps g i=((ps.getD k zP).2.2.2.1&& !(ps.getD k zP).2.2.2.2.1):=by
 obtain⟨h1,b, _⟩:=fv a;unfold vo;rw[nr.2 (eV.1 h1).1,b];rfl
theorem Qy (hb:bM w bp (gJ room ps)) (f:okS room ps) (g:Int):aE AC 232 (.el (.one .slice)) [ag (ae bp),aa g] w (λr w'=>lD w w' eI r (oT room ps g)/\Ext w w'):=by
 refine ai (C:=R1) (aT:=tK) (Ae (Qn _ g w _) ?_);have A:=f.lo;have B:=f.hi;refine⟨true,ah.of (s:= .el (.one .bool)) λw' h'=>pv (hb.ext h') f,an rfl ⟨rfl,rfl,aj.kR (At.start [] w) hb (by simp) (pU f) ?_⟩⟩;refine⟨λq s w'=> ∃i:Nat,s.2.1=i/\q+i=room.toNat/\At [] w w' []/\lD w w' eI s.1 (Aq ps g i),⟨room.toNat,λw1 h1=>⟨0,rfl,rfl,(At.start [] w).ext h1,lD.start w w1 eI⟩⟩,?_⟩;rintro q ⟨⟨sp,sn,sc⟩,D,u⟩ w1 ⟨i,hi,E,H,j⟩;simp only at hi j;subst hi;dsimp only;refine ab (λc=>?_) (λc=>?_)
 ·have F:i<room.toNat:=by simp at c;omega
  have a:=Gw (ps:=ps) g i;have G:=Kz (ps:=ps) g i;refine⟨_,ah.of (s:= .el (.one .ptr)) λw' h'=>Ds ((H.fa hb (by simp)).ext h') f g i,?_⟩;unfold bP;cases k:oE room ps g i with
  |none=>
   rw[Gx (by omega) k] at a;rw[au (by decide),Bs] at a;refine⟨λh=>by simp at h,λh=>by simp at h,false,λh=>by simp at h,λh=>by simp at h,λh=>by simp at h,false,λh=>by simp at h,an rfl λl d=>⟨q - 1,by omega,i+1,by rw[ax (by omega) (by omega)];rfl,by omega,H.ext d,by rw[a];exact j.ext d⟩⟩
  |some kk=>
   obtain⟨p,t,I⟩:=fv k;have v:kk<512:=by rw[t];exact oS p f.hi
   have n:=f.get v;rw[Gy k] at a;refine⟨λ_=>rfl,λ_=>rfl,aj.kR H hb (by simp) (sa n (by decide) rfl) ⟨λ_=>rfl,λ_=>rfl,aj.kR H hb (by simp) (sa n (by decide) rfl) (ab (λc2=>?_) (λc2=>?_))⟩⟩
   ·have c3:((ps.getD kk zP).2.2.2.1&& !(ps.getD kk zP).2.2.2.2.1)=true:=by simpa using c2
    rw[az c3] at a;have m:=At.start [] w1;refine aK.go m λb l m=>λJ x=>?_;refine At.aaV (e:=eI) (i:=0) H j (m.ext x) (i:Int) rfl rfl rfl rfl rfl (by omega) λs' K y z L o=>⟨q - 1,by omega,i+1,by rw[ax (by omega) (by omega)];rfl,by omega,y.ext o,?_⟩;rw[a];exact z.ext o
   ·have c3: ¬ ((ps.getD kk zP).2.2.2.1&& !(ps.getD kk zP).2.2.2.2.1)=true:=by simpa using c2
    rw[au c3,Bs] at a;exact λl d=>⟨q - 1,by omega,i+1,by rw[ax (by omega) (by omega)];rfl,by omega,H.ext d,by rw[a];exact j.ext d⟩
 ·have hi:i=room.toNat:=by simp at c;omega
  subst hi;exact λl d=>⟨j.ext d,(H.ext d).all⟩
theorem Qz (H:aJ D G w0 w L) (j:Nat) (b:L[j]? =some (bp,gJ room ps)) (c:okS room ps) (g:Int) {K:Option Ab×Nat×Nat->A2->Prop}
 (k: ∀r rows a,aJ D G w0 a (L++rows)->n5 eI rows r (oT room ps g)->K r a):aD AC 232 (.el (.one .slice)) [ag (ae bp),aa g] w K:=
 aD.X_ H (λw1 H=>Qy (H.get b) c g) k
theorem zd {rows:List (Nat×List Ad)} {r:Option Ab×Nat×Nat} {x:Int} {l:List Int} (a:n5 eI rows r (x::l)) (H:aJ D G w0 w L) (b: ∀y∈rows,y∈L):r.1.isSome=true/\cP w (ad r.1 0) (.one (.int .i64)) x:=by
 have:=a.sl H b 0
 grind
theorem QA (H:aJ D G w0 w L) (j:Nat) (f:L[j]? =some (bp,gJ room ps)) (c:okS room ps) (g:Int) {K:Int×Bool×Unit->A2->Prop}
 (k: ∀h,aJ D G w0 h (L.set j (bp,gJ room (gM room ps g).2))->K ((gM room ps g).1.1,(gM room ps g).1.2,()) h):
 aD AC 188 (.bu [.one (.int .i64),.one .bool]) [ag (ae bp),aa g] w K:=by
 refine aD.go H λw1 H=>ai (C:=R1) (aT:=λ_=>[]) (Ae (Qo _ g w1 K) ?_);refine Qz H j f c g λr rows h H d=>?_;have q:j<L.length:=(B5.1 f).1;have m:(L++rows)[j]? =some (bp,gJ room ps):=by grind
 have a:=d.1;cases b:oT room ps g with
 |nil=>
  rw[b] at a;have e:gM room ps g=((0,false),ps):=by unfold gM;rw[b]
  rw[e] at k;refine aF (by rw[a];rfl) (ao.go H λn H=>k n ?_);rw[lj f];exact H.sub (CP _ _)
 |cons x l=>
  have o:x∈oT room ps g:=by rw[b];exact C6
  rw[b] at a d;have e:gM room ps g=((x,true),ps.set (ix g x) ((gp ps g x).1,(gp ps g x).2.1,(gp ps g x).2.2.1,false,(gp ps g x).2.2.2.2)):=by unfold gM;rw[b]
  rw[e] at k;obtain⟨p1, _, _⟩:=s6 o;have s:oE room ps g x=some (ix g x):=by rw[uG p1,au (IA o)]
  have t:=oS p1 c.hi;have u:ps[ix g x]? =some (gp ps g x):=c.get t;have h0:=zd d H (λy i=>BO _ i);have p:(x::l).length=l.length+1:=rfl;refine an (by rw[a,p];simp;omega) ⟨⟨h0.1,by omega,by rw[a,p];omega⟩,aj.of x h0.2 ⟨_,Ft H j m c g x s,rfl,rfl,?_⟩⟩;refine aC.sa j H ((gp ps g x).1,(gp ps g x).2.1,(gp ps g x).2.2.1,false,(gp ps g x).2.2.2.2.1,()) m u (by decide) rfl rfl λn H=>?_;rw[Fw _ _ q] at H;have h1:=zd d H (λy i=>BO _ i);refine⟨by grind,aj.of x h1.2 (ao.go H λv H=>k v (H.sub (CP _ _)))⟩
theorem s7 (a:lA room ps) (g:Int): ∀i,lA room (h_ room ps g i).2
 |0=>a
 |i+1=>(s7 a g i).eK g i
theorem DN (g:Int): ∀i:Nat,0<=(h_ room ps g i).1/\(h_ room ps g i).1<=i
 |0=>by simp[h_]
 |i+1=>by
  have:=DN g i;simp[h_];omega
theorem KA (d:lA room ps) {g i j:Int} (hi:r_ room g i=true) (b:r_ room g j=true):gp (eK room ps g i).2 g j=if j=i then zP else gp ps g j:=by
 cases a:oE room ps g i with
 |none=>
  rw[vO a];rw[uG hi] at a
  grind
 |some=>
  rw[pC a];obtain⟨p1,p2,p3⟩:=fv a;have c:=d.tookS;split
  ·rename_i e;obtain⟨h,f, _⟩:=d.nz a e;subst p2;rw[iW (c.set _ _) p1 b,iW c f b]
   grind
  ·subst p2;rw[iW c p1 b]
   grind
theorem DO (b:lA room ps) {g:Int} (a:gI g=true): ∀(n:Nat),(n:Int)<=room-> ∀j,0<=j->j<(n:Int)->gp (h_ room ps g n).2 g j=zP
 |n+1,f,j,h0,h1=>by
  have c:r_ room g n=true:=eV.2 ⟨nr.1 a,by omega⟩;have d:r_ room g j=true:=eV.2 ⟨nr.1 a,by omega⟩;simp[h_];rw[KA (s7 b g n) c d];by_cases e:j=n
  ·grind
  ·rw[au e];exact DO b a n (by omega) j h0 (by omega)
def vp (room:Int) (ps:List PT) (g:Int):Prop:=lA room ps/\ ∀i,r_ room g i=true->gp ps g i=zP
theorem QB {g:Int} (h:vp room ps g) {k i:Int} (hi:r_ room k i=true) (d:(gp ps k i).2.1=g):(gp ps k i).1≠2:=by
 intro b;rcases h.1.inv k i hi with z|z|⟨_, _,c,a, _⟩
 ·rw[z] at b;exact absurd b (by decide)
 grind
 ·rw[d] at c a;rw[h.2 _ c] at a;exact absurd a (by decide)
theorem Gz {g:Int} {s:Int×List PT} (h:vp room s.2 g) (k i:Int):vp room (oU room g s k i).2 g:=by
 unfold oU;split
 ·grind
 ·rename_i b;split
  ·rename_i c;obtain⟨p1,p2,p3⟩:=fv b;subst p2;refine⟨h.1.Ye p1 (QB h p1 c) (.inl rfl),λj a=>?_⟩;rw[iW h.1.tookS p1 a];split
   ·rfl
   ·exact h.2 j a
  grind
theorem rQ {g:Int} {s:Int×List PT} (h:vp room s.2 g) (k:Int): ∀i,vp room (mD room g s k i).2 g
 |0=>h
 |i+1=>Gz (rQ h k i) k i
theorem rR {g:Int} {s:Int×List PT} (h:vp room s.2 g): ∀k,vp room (ki room g s k).2 g
 |0=>h
 |k+1=>rQ (rR h k) _ _
theorem QC {g:Int} (s:Int×List PT) (k i:Int):s.1<=(oU room g s k i).1/\(oU room g s k i).1<=s.1+1:=by grind[oU]
theorem yJ {g:Int} (s:Int×List PT) (k:Int): ∀i:Nat,s.1<=(mD room g s k i).1/\(mD room g s k i).1<=s.1+i
 |0=>by simp[mD]
 |i+1=>by
  have h1:=yJ (g:=g) s k i;have a:=QC (g:=g) (room:=room) (mD room g s k i) k i;simp[mD];omega
theorem DP {g:Int} (s:Int×List PT): ∀k:Nat,s.1<=(ki room g s k).1/\(ki room g s k).1<=s.1+k*room.toNat
 |0=>by simp[ki]
 |k+1=>by
  have h1:=DP (g:=g) s k;have a:=yJ (g:=g) (room:=room);simp[ki]
  grind
theorem ze (a:lA room ps) {g:Int} (b:gI g=true):vp room (h_ room ps g room.toNat).2 g:=by
 exact⟨s7 a g _,by grind[DO,eV]⟩
theorem QD (a:lA room ps) (g:Int):lA room (cH room ps g).2:=by
 unfold cH;split
 ·rename_i b;exact(rR (ze a b) _).1
 grind
theorem QE (H:aJ D G w0 w L) (j:Nat) (d:L[j]? =some (bp,gJ room ps)) (x:lA room ps) (g:Int) {K:Int->A2->Prop}
 (k: ∀I,aJ D G w0 I (L.set j (bp,gJ room (cH room ps g).2))->K (cH room ps g).1 I):
 aD AC 170 (.el (.one (.int .i64))) [ag (ae bp),aa g] w K:=by
 refine aD.go H λw1 H=>ai (C:=R1) (aT:=tL) (Ae (Qq _ g w1 K) ?_);have t:=x.tookS;have SK:=t.lo;have R:=t.hi;refine⟨true,Uw H j d t,λ_=>trivial,ab (λc=>?_) (λc=>?_)⟩
 ·have v:gI g=false:=by simpa using c
  have e:cH room ps g=(0,ps):=by unfold cH;rw[v];rfl
  rw[e] at k;refine ao.go H λy H=>k y ?_;rw[lj d];exact H
 have v:gI g=true:=by simpa using c
 have e:cH room ps g=ki room g (h_ room ps g room.toNat) 16:=by unfold cH;rw[az v]
 rw[e] at k;refine⟨rfl,rfl,aj.bP j H d (pU t) ?_⟩;refine⟨λq s w'=> ∃i:Nat,s.2.1=i/\q+i=room.toNat/\s.1=(h_ room ps g i).1/\aJ D G w0 w' (L.set j (bp,gJ room (h_ room ps g i).2)),⟨room.toNat,λy S=>⟨0,rfl,rfl,rfl,by rw[show(h_ room ps g 0).2=ps from rfl,lj d];exact H.ext S⟩⟩,?_⟩;clear H;rintro q ⟨a,T,u⟩ y ⟨i,hi,hq,l,H⟩;simp only at hi l;subst hi;subst l;dsimp only;have U:=DN (room:=room) (ps:=ps) g i;refine ab (λc1=>?_) (λc1=>?_)
 ·have V:i<room.toNat:=by simp at c1;omega
  have W:=s7 x g i;refine AQ H j (kx d) W g i λJ H=>?_;rw[Bv] at H;have n:aB .i64 (i:Int) 1=((i+1:Nat):Int):=by rw[ax (by omega) (by omega)];rfl
  refine ab (λc2 o p=>⟨q - 1,by omega,i+1,n,by omega,?_,H.ext p⟩) (λc2 o p=>⟨q - 1,by omega,i+1,n,by omega,?_,H.ext p⟩)
  ·have c3:(eK room (h_ room ps g i).2 g i).1=0:=by simpa using c2
   simp only[h_];rw[az c3,ax (by omega) (by omega)]
  ·have c3: ¬ (eK room (h_ room ps g i).2 g i).1=0:=by simpa using c2
   simp only[h_];rw[au c3,Int.add_zero]
 have hi:i=room.toNat:=by simp at c1;omega
 subst hi;have M:=ze x v;generalize h_ room ps g room.toNat=f at H k M U;refine⟨λq s w'=> ∃m:Nat,s.2.1=(m:Int)+1/\q+m=16/\s.1=(ki room g f m).1/\aJ D G w0 w' (L.set j (bp,gJ room (ki room g f m).2)),⟨16,λJ X=>⟨0,rfl,rfl,rfl,H.ext X⟩⟩,?_⟩;clear H;rintro Y ⟨a,m',u2⟩ J ⟨m,N,VY,l,H⟩;simp only at N l;subst N;subst l;dsimp only;have O:=rR M m;have hlA:=DP (room:=room) (g:=g) f m;have acu:(m:Int)*(room.toNat:Int)<=16*32:=Int.mul_le_mul (by omega) (by omega) (by omega) (by omega);refine ab (λc2=>?_) (λc2=>?_)
 ·have P:m<16:=by simp at c2;omega
  refine⟨rfl,rfl,aj.bP j H (kx d) (pU O.1.tookS) ?_⟩;refine⟨λq s w'=> ∃i:Nat,s.2.1=i/\q+i=room.toNat/\s.1=(mD room g (ki room g f m) ((m:Int)+1) i).1/\aJ D G w0 w' (L.set j (bp,gJ room (mD room g (ki room g f m) ((m:Int)+1) i).2)),⟨room.toNat,λo p=>⟨0,rfl,rfl,rfl,H.ext p⟩⟩,?_⟩;clear H;rintro z ⟨a,T,u3⟩ o ⟨i,hi,hq3,l,H⟩;simp only at hi l;subst hi;subst l;dsimp only;have Z:=rQ O ((m:Int)+1) i;have hlR:=yJ (room:=room) (g:=g) (ki room g f m) ((m:Int)+1) i;refine ab (λc3=>?_) (λc3=>?_)
  ·have V:i<room.toNat:=by simp at c3;omega
   have n:aB .i64 (i:Int) 1=((i+1:Nat):Int):=by rw[ax (by omega) (by omega)];rfl
   have A:=Z.1.tookS;have er:mD room g (ki room g f m) ((m:Int)+1) (i+1)=oU room g (mD room g (ki room g f m) ((m:Int)+1) i) ((m:Int)+1) i:=rfl;generalize mD room g (ki room g f m) ((m:Int)+1) i=b at*
   refine⟨_,Ft H j (kx d) A ((m:Int)+1) i rfl,?_⟩;cases B:oE room b.2 ((m:Int)+1) i with
   |none=>
    have E:oU room g b ((m:Int)+1) i=b:=by unfold oU;rw[B]
    rw[E] at er;exact⟨λh=>by simp at h,λh=>by simp at h,(0:Int),λh=>by simp at h,an rfl λF r=>⟨z - 1,by omega,i+1,n,by omega,by rw[er],by rw[er];exact H.ext r⟩⟩
   |some kk=>
    obtain⟨lC,sg,ZD⟩:=fv B;have Q:kk<512:=by rw[sg];exact oS lC R
    have CU:=A.get Q;have E:oU room g b ((m:Int)+1) i=if(b.2.getD kk zP).2.1=g then(b.1+1,b.2.set kk zP) else b:=by unfold oU;rw[B]
    rw[E] at er;refine⟨λ_=>rfl,λ_=>rfl,aj.bP j H (kx d) (sa CU (by decide) rfl) (ab (λc4=>?_) (λc4=>?_))⟩
    ·have c5:(b.2.getD kk zP).2.1=g:=by simpa using c4
     rw[az c5] at er;refine⟨rfl,aC.port j H (kx d) (by rw[A.len];exact Q) zP rfl λF H w7 h7=>⟨z - 1,by omega,i+1,n,by omega,?_,?_⟩⟩
     ·rw[er,ax (by omega) (by omega)]
     ·rw[er];rw[Bv] at H;exact H.ext h7
    ·have c5: ¬ (b.2.getD kk zP).2.1=g:=by simpa using c4
     rw[au c5] at er;exact λF r=>⟨z - 1,by omega,i+1,n,by omega,by rw[er],by rw[er];exact H.ext r⟩
  ·have hi:i=room.toNat:=by simp at c3;omega
   subst hi;exact λF r=>⟨Y - 1,by omega,m+1,by rw[ax (by omega) (by omega)];omega,by omega,rfl,H.ext r⟩
 ·have P:m=16:=by simp at c2;omega
  subst P;exact ao.go H λo H=>k o H
end
def Ed (room:Int) (ps:List PT) (u v:Int):Prop:= ∃i,r_ room u i=true/\gp ps u i≠zP/\(gp ps u i).2.1=v
inductive Lk (room:Int) (ps:List PT) (a:Int):Int->Prop
 |refl:Lk room ps a a
 |fwd {u v:Int}:Lk room ps a u->Ed room ps u v->Lk room ps a v
 |bwd {u v:Int}:Lk room ps a v->Ed room ps u v->Lk room ps a u
def tv (bs:List Bool) (v:Int):Bool:=bs.getD v.toNat false
def JA (bs:List Bool):List Ad:=bs.map Value.bool
theorem NV {bs:List Bool} {v:Int} (h:v.toNat<bs.length):lI (JA bs) (0+v.toNat*1) (.one .bool)=some (tv bs v):=by
 have:(JA bs)[0+v.toNat*1]? =some (.bool (tv bs v)):=by
  unfold JA tv;rw[BL,Nat.mul_one,Fx,B1 h,B4,B1 h];rfl
 show(match (JA bs)[0+v.toNat*1]? with|some v=>Sc.bool.proj v|none=>none)= _;rw[this];rfl
theorem FR {bs:List Bool} {u v:Int} (b:0<=u) (a:u.toNat<bs.length) (hv:0<=v):tv (bs.set u.toNat true) v=if v=u then true else tv bs v:=by
 unfold tv;by_cases e:v=u
 ·subst e;rw[az rfl];simp[B4,a]
 ·rw[au e];have:u.toNat≠v.toNat:=by omega
  simp[B4,Dn this]
def Hv (bs:List Bool):Nat:=bs.countP (! ·)
theorem w_ {bs:List Bool} {k:Nat} (a:k<bs.length):Hv (bs.set k true)+(if bs.getD k false=false then 1 else 0)=Hv bs:=by
 unfold Hv;rw[List.countP_set a];have e:bs.getD k false=bs[k]:=by rw[B4,B1 a];rfl
 rw[e];cases h:bs[k] with
 |true=>simp
 |false=>
  have:0<bs.countP (! ·):=List.countP_pos_iff.2 ⟨bs[k],HM a,by rw[h];rfl⟩;simp;omega
theorem rS {bs:List Bool} {k:Nat} (a:k<bs.length):Hv (bs.set k true)<=Hv bs:=by have:=w_ a;omega
section
variable {D G:List Nat} {w0 w:A2} {L:List (Nat×List Ad)} {bp:Nat} {room:Int} {ps:List PT}
theorem NW (j:Nat) (H:aJ D G w0 w L) {b:Nat} {bs:List Bool} {v:Int} (a:L[j]? =some (b,JA bs)) (d:v.toNat<bs.length) {K:A2->Prop}
 (c: ∀w1,aJ D G w0 w1 (L.set j (b,JA (bs.set v.toNat true)))->K w1):aC w (ad (ae b) (v.toNat*1)) [.bool true] K:=by
 refine aC.fb j H a rfl ?_ λw1 h1=>c w1 ?_
 ·rw[Gi];unfold JA;rw[FS];omega
 ·have e:(JA bs).set (0+v.toNat*1) (.bool true)=JA (bs.set v.toNat true):=by unfold JA;rw[List.map_set,BL,Nat.mul_one]
  rw[e] at h1;exact h1
end
end Go.Proofs.YtlcenllcmeebhaaGreat.Po
namespace Go.Proofs.YtlcenllcmeebhaaGreat
set_option maxRecDepth 100000
open Go.RX
open Po (tv JA NV FR Hv w_ rS NW)
inductive Rc (E:Int->Int->Prop) (a:Int):Int->Prop
 |refl:Rc E a a
 |step {u v:Int}:Rc E a u->E u v->Rc E a v
structure Dfs (E:Int->Int->Prop) (n:Int) (bs Xo:List Bool):Prop where
 len:Xo.length=17
 mono: ∀v,0<=v->tv bs v=true->tv Xo v=true
 Fa:tv Xo n=true
 snd: ∀v,0<=v->tv Xo v=true->tv bs v=true\/Rc E n v
 cls: ∀u v,0<=u->tv Xo u=true->tv bs u=false->E u v->tv Xo v=true
 Hv:Hv Xo<=Hv bs
structure Lp (E:Int->Int->Prop) (n:Int) (bs cs:List Bool):Prop where
 len:cs.length=17
 mono: ∀v,0<=v->tv bs v=true->tv cs v=true
 Fa:tv cs n=true
 snd: ∀v,0<=v->tv cs v=true->tv bs v=true\/Rc E n v
 cls: ∀u v,0<=u->u≠n->tv cs u=true->tv bs u=false->E u v->tv cs v=true
 Hv:Hv cs+(if tv bs n=false then 1 else 0)<=Hv bs
open Po (tv JA NV FR Hv w_ rS NW)
def nY (gs:List GT):Prop:= ∀x∈gs,(x=zG\/((1<=x.1/\x.1<=16)/\(1<=x.2.2.1/\x.2.2.1<=16)/\x.1≠x.2.2.1/\0<=x.2.1/\x.2.1<65536))/\0<=x.2.2.2.2.1/\x.2.2.2.2.1<=1000
theorem OD {g:Int}:gG g=true<->1<=g/\g<=16:=by unfold gG;simp
section
variable {w0:A2} {bg br c:Nat} {gs:List GT} {rest:List Ad}
end
theorem nY.set {gs:List GT} (h:nY gs) (i:Nat) {x:GT} (b:(x=zG\/((1<=x.1/\x.1<=16)/\(1<=x.2.2.1/\x.2.2.1<=16)/\x.1≠x.2.2.1/\0<=x.2.1/\x.2.1<65536))/\0<=x.2.2.2.2.1/\x.2.2.2.2.1<=1000):nY (gs.set i x):=λy a=>by
 rcases List.mem_or_eq_of_mem_set a with a|rfl
 ·exact h y a
 ·exact b
theorem NX:((zG:GT)=zG\/((1<=zG.1/\zG.1<=16)/\(1<=zG.2.2.1/\zG.2.2.1<=16)/\zG.1≠zG.2.2.1/\0<=zG.2.1/\zG.2.1<65536))/\0<=zG.2.2.2.2.1/\zG.2.2.2.2.1<=1000:=⟨.inl rfl,by decide,by decide⟩
theorem nY.rev {gs:List GT} (h:nY gs) (i o:Int):nY (kX gs i o):=by
 unfold kX;split
 ·exact h.set _ NX
 ·exact h
theorem nY.at {gs:List GT} (h:nY gs) {i:Int} {k:Nat} (a:lN gs i=some k):((1<=(gs.getD k zG).1/\(gs.getD k zG).1<=16)/\(1<=(gs.getD k zG).2.2.1/\(gs.getD k zG).2.2.1<=16)/\(gs.getD k zG).1≠(gs.getD k zG).2.2.1/\0<=(gs.getD k zG).2.1/\(gs.getD k zG).2.1<65536)/\0<=(gs.getD k zG).2.2.2.2.1/\(gs.getD k zG).2.2.2.2.1<=1000:=by
 obtain⟨_, _, _,b,c⟩:=lh a;obtain⟨h1,d⟩:=h _ (Do b);exact⟨h1.resolve_left c,d⟩
theorem nY.take {gs:List GT} (h:nY gs) (i g:Int) (b:Bool):nY (dX gs i g b):=by
 unfold dX;split
 ·rename_i a;unfold gV at a;cases c:lN gs i with
  |none=>rw[c] at a;cases a
  |some k=>
   rw[c] at a;dsimp only at a;obtain⟨h1,e⟩:=h.at c;obtain⟨_, _,d, _⟩:=lh c;subst d;split at a
   ·cases a
   ·split at a
    ·cases a
    ·rename_i f;refine h.set _ ⟨.inr h1,?_,?_⟩
     ·show 0<=(gs.getD i.toNat zG).2.2.2.2.1+1;omega
     ·show(gs.getD i.toNat zG).2.2.2.2.1+1<=1000;omega
 ·exact h
theorem nY.back {gs:List GT} (h:nY gs) (i g:Int):nY (eJ gs i g):=by
 unfold eJ;split
 ·rename_i a;unfold mm at a;cases b:lN gs i with
  |none=>rw[b] at a;cases a
  |some k=>
   rw[b] at a;dsimp only at a;obtain⟨h1,d⟩:=h.at b;obtain⟨_, _,c, _⟩:=lh b;subst c;split at a
   ·cases a
   ·split at a
    ·cases a
    ·rename_i e;refine h.set _ ⟨.inr h1,?_,?_⟩
     ·show 0<=(gs.getD i.toNat zG).2.2.2.2.1+ -1;omega
     ·show(gs.getD i.toNat zG).2.2.2.2.1+ -1<=1000;omega
 ·exact h
theorem nY.off {gs:List GT} (h:nY gs) (o q t:Int) (b:Bool):nY (jQ gs o q t b):=by
 unfold jQ;split
 ·rename_i a;unfold kY at a;split at a
  ·cases a
  ·rename_i hc;have hc:gG o=true/\gG t=true/\o≠t/\0<=q/\q<65536:=by
    simp only[CV,Db,beq_iff_eq,decide_eq_true_eq,not_or] at hc;obtain⟨⟨⟨⟨h1,c⟩,d⟩,f⟩,g⟩:=hc;exact⟨by simpa using h1,by simpa using c,d,by omega,by omega⟩
   have a1:=OD.1 hc.1;have e:=OD.1 hc.2.1;exact h.set _ ⟨.inr ⟨a1,e,hc.2.2⟩,Int.le_refl 0,(by decide:(0:Int)<=1000)⟩
 ·exact h
theorem nY.drop {gs:List GT} (h:nY gs) (g:Int):nY (cQ gs g):=λy a=>by
 unfold cQ at a;obtain⟨x,b,rfl⟩:=Bx.1 a;split
 ·exact NX
 ·exact h x b
theorem nY.new (n:Nat):nY (BK n zG):=λy a=>by
 rw[List.eq_of_mem_replicate a];exact NX
theorem nY.use {gs:List GT} (h:nY gs): ∀x∈gs,0<=x.2.2.2.2.1/\x.2.2.2.2.1<=1000:=λx a=>(h x a).2
noncomputable def H0:dj AC:={C3 with vi:=false,quiet:=[119,120]}
theorem KB (w:A2) (u:Option Nat->A2->Prop):(aN H0 (λ_=>[]) 163 [] w u)=(
 ∀w1,Ext w w1-> ∀c,Ext (w1.alloc (Obj.map ⟨[]⟩ 0)) c-> ∃(r:Nat), ∃(es:Array Av), ∃(a:Nat),some w1.heap.size=some r/\bE c r es a/\gS c r .i64 1 (.agg {toList:=[.string {data:=⟨[99,114,101,97,116,101]⟩},aa 0]}) es a λb=> ∀d,Ext b d-> ∃(r:Nat), ∃(es:Array Av), ∃(a:Nat),some w1.heap.size=some r/\bE d r es a/\gS d r .i64 2 (.agg {toList:=[.string {data:=⟨[100,101,115,116,114,111,121]⟩},aa 1]}) es a λb=> ∀e,Ext b e-> ∃(r:Nat), ∃(es:
 Array Av), ∃(a:Nat),some w1.heap.size=some r/\bE e r es a/\gS e r .i64 3 (.agg {toList:=[.string {data:=⟨[100,111,110,97,116,101]⟩},aa 2]}) es a λb=> ∀f,Ext b f-> ∃(r:Nat), ∃(es:Array Av), ∃(a:Nat),some w1.heap.size=some r/\bE f r es a/\gS f r .i64 4 (.agg {toList:=[.string {data:=⟨[114,101,99,108,97,105,109]⟩},aa 1]}) es a λb=> ∀g,Ext b g-> ∃(r:Nat), ∃(es:Array Av), ∃(a:Nat),some w1.heap.size=some r/\bE g r es a/\
 gS g r .i64 5 (.agg {toList:=[.string {data:=⟨[112,114,111,116,101,99,116]⟩},aa 2]}) es a λb=> ∀h,Ext b h-> ∃(r:Nat), ∃(es:Array Av), ∃(a:Nat),some w1.heap.size=some r/\bE h r es a/\gS h r .i64 6 (.agg {toList:=[.string {data:=⟨[108,111,97,100]⟩},aa 1]}) es a λb=> ∀i,Ext b i-> ∃(r:Nat), ∃(es:Array Av), ∃(a:Nat),some w1.heap.size=some r/\bE i r es a/\gS i r .i64 7 (.agg {toList:=[.string {data:=⟨[115,116,111,114,101]⟩},.int .i64
 2]}) es a λb=> ∀j,Ext b j-> ∃(r:Nat), ∃(es:Array Av), ∃(a:Nat),some w1.heap.size=some r/\bE j r es a/\gS j r .i64 8 (.agg {toList:=[.string {data:=⟨[111,102,102,101,114]⟩},aa 3]}) es a λb=> ∀k,Ext b k-> ∃(r:Nat), ∃(es:Array Av), ∃(a:Nat),some w1.heap.size=some r/\bE k r es a/\gS k r .i64 9 (.agg {toList:=[.string {data:=⟨[116,97,107,101]⟩},aa 3]}) es a λb=> ∀l,Ext b l-> ∃(r:Nat), ∃(es:Array Av), ∃(a:Nat),
 some w1.heap.size=some r/\bE l r es a/\gS l r .i64 10 (.agg {toList:=[.string {data:=⟨[98,97,99,107]⟩},aa 1]}) es a λb=> ∀m,Ext b m-> ∃(r:Nat), ∃(es:Array Av), ∃(a:Nat),some w1.heap.size=some r/\bE m r es a/\gS m r .i64 11 (.agg {toList:=[.string {data:=⟨[114,101,118,111,107,101]⟩},aa 1]}) es a λb=> ∀n,Ext b n-> ∃(r:Nat), ∃(es:Array Av), ∃(a:Nat),some w1.heap.size=some r/\bE n r es a/\gS n r .i64 12 (.agg {toList:=[.string
 {data:=⟨[111,112,101,110]⟩},aa 1]}) es a λb=> ∀o,Ext b o-> ∃(r:Nat), ∃(es:Array Av), ∃(a:Nat),some w1.heap.size=some r/\bE o r es a/\gS o r .i64 13 (.agg {toList:=[.string {data:=⟨[98,105,110,100]⟩},aa 2]}) es a λb=> ∀p,Ext b p-> ∃(r:Nat), ∃(es:Array Av), ∃(a:Nat),some w1.heap.size=some r/\bE p r es a/\gS p r .i64 14 (.agg {toList:=[.string {data:=⟨[115,101,110,100]⟩},aa 1]}) es a λb=> ∀q,Ext b q-> ∃(r
 :Nat), ∃(es:Array Av), ∃(a:Nat),some w1.heap.size=some r/\bE q r es a/\gS q r .i64 15 (.agg {toList:=[.string {data:=⟨[112,111,108,108]⟩},aa 0]}) es a λb=> ∀s,Ext b s-> ∃(r:Nat), ∃(es:Array Av), ∃(a:Nat),some w1.heap.size=some r/\bE s r es a/\gS s r .i64 16 (.agg {toList:=[.string {data:=⟨[99,108,111,115,101]⟩},aa 1]}) es a λb=> ∀t,Ext b t-> ∃(r:Nat), ∃(es:Array Av), ∃(a:Nat),some w1.heap.size=some r/\bE t r es
 a/\gS t r .i64 17 (.agg {toList:=[.string {data:=⟨[115,119,101,101,112]⟩},aa 0]}) es a λb=>ao b (u (some w1.heap.size))):=by kernel_rfl
theorem QF (k:Int) (w:A2) (d:Int->A2->Prop):(aN H0 (λ_=>[]) 119 [aa k] w d)=(
 aD AC 163 (.el Ns) [] w λx a=> ∃(c:ByteArray×Int×Unit), ∃(b:Bool),mg a x .i64 k (.agg {toList:=[.string {data:=⟨[]⟩},aa 0]}) (.agg ⟨[.string c.1,aa c.2.1]⟩) b/\aK a {toList:=[.string {data:=⟨[]⟩},aa 0]} 242 λe a=>aC a (ae e) [.string c.1,aa c.2.1] λa=>aL (!b) (ao a (d (-1))) (true=true/\aU a (ad (ae e) 1) λx=>ao a (d x))):=by kernel_rfl
theorem EE (k:Int) (w:A2) (a:Bool->A2->Prop):(aN H0 (λ_=>[]) 77 [aa k] w a)=(
 ao w (a (k==1||k==2||k==17))):=by kernel_rfl
theorem KC (k a b c:Int) (w:A2) (e:Int×Int×Int×Unit->A2->Prop):(bQ H0 (λ_=>[]) 120 [.agg ⟨[aa k,ay a,ay b,ay c]⟩] w e)=(
 aK w ⟨[aa k,ay a,ay b,ay c]⟩ 31 λb d=>aK d ⟨[ay 0,ay 0,ay 0]⟩ 222 λf d=>true=true/\cB d (ad (ae b) 1) λx=>true=true/\cB d (ad (ae b) 2) λg=>true=true/\cB d (ad (ae b) 3) λh=>aC d (ae f) [ay x,ay g,ay h] λd=>ao d λw1=>aj w1 none (ae f) (.agg [.int .u64,.int .u64,.int .u64]) λ(x:Int×Int×Int×Unit)=>e (x.1,x.2.1,x.2.2.1,()) w1):=by kernel_rfl
def qO:Nat->aZ:=(λ|5=>[(13,Go.RX.El.one (Go.RX.Sc.int BJ))]| _=>[])
theorem KE (k a b c:Int) (w:A2) (f:Bool->A2->Prop):(aN H0 qO 76 [.agg ⟨[aa k,ay a,ay b,ay c]⟩] w f)=(
 aK w ⟨[aa k,ay a,ay b,ay c]⟩ 31 λb d=>true=true/\aU d (ad (ae b) 0) λx=> ∃(g:Int),ah AC 119 [aa x] d (aa g)/\aL (g== -1) (ao d (f false)) (aj d none (ae b) wG λ(x:Int×Int×Int×Int×Unit)=> ∃(e:Int×Int×Int×Unit),ah AC 120 [.agg ⟨[aa x.1,ay x.2.1,ay x.2.2.1,ay x.2.2.2.1]⟩] d (.agg ⟨[ay e.1,ay e.2.1,ay e.2.2.1]⟩)/\ ∃(I:Nat->Int×Unit->A2->Prop),(∃n, ∀w1,Ext d w1->I n (0,()) w1)/\
 ∀(n:Nat) (s:Int×Unit) (w1:A2),I n s w1->aL (decide (s.1<3)) ((0<=s.1/\s.1<(↑3:Int))/\aL (decide (s.1>=g)&&JH [e.1,e.2.1,e.2.2.1] s.1 != 0) (ao w1 (f false)) (∀h,Ext w1 h-> ∃(i:Nat),i<n/\I i (aB .i64 s.1 1,()) h)) (ao w1 (f true)))):=by kernel_rfl
theorem gz {D G:List Nat} {w0 w:A2} {L:List (Nat×List Ad)} {M:List (Nat×Obj)} {r:Nat} {l:List Av} {c:Nat} (H:cM D G w0 w L ((r,.map ⟨l⟩ c)::M)) {n:Int} {val:Ad} {K:A2->Prop} (g:CH (.int .i64) (aa n) l 0=some none)
 (k: ∀a,cM D G w0 a L ((r,.map ⟨l++[{key:=aa n,val,born:=c}]⟩ (c+1))::M)->K a):
 ∀w1,Ext w w1-> ∃r' b d,some r=some r'/\bE w1 r' b d/\gS w1 r' .i64 n val b d K:=λw1 h=>by
 have f:=H.ext h;refine⟨r,⟨l⟩,c,rfl,f.get (i:=0) rfl,?_⟩;unfold gS;rw[g];have e:Array.push _ _=⟨l++[{key:=aa n,val,born:=c}]⟩:=List.push_toArray _ _;rw[e];exact k _ (f.put (i:=0) rfl trivial)
theorem _root_.Go.RX.cM.WI {D G:List Nat} {w0 w:A2} {L:List (Nat×List Ad)} {M:List (Nat×Obj)} {r:Nat} {l l':List Av} {c:Nat} (H:cM D G w0 w L ((r,.map ⟨l⟩ c)::M)) (e:l=l'):cM D G w0 w L ((r,.map ⟨l'⟩ c)::M):=by
 grind
def gA (k:Int) (s:ByteArray) (n:Int) (b:Nat):Av:={key:=aa k,val:= .agg ⟨[.string s,aa n]⟩,born:=b}
def eM:Array Av:=⟨[gA 1 ⟨⟨[99,114,101,97,116,101]⟩⟩ 0 0,gA 2 ⟨⟨[100,101,115,116,114,111,121]⟩⟩ 1 1,gA 3 ⟨⟨[100,111,110,97,116,101]⟩⟩ 2 2,gA 4 ⟨⟨[114,101,99,108,97,105,109]⟩⟩ 1 3,gA 5 ⟨⟨[112,114,111,116,101,99,116]⟩⟩ 2 4,gA 6 ⟨⟨[108,111,97,100]⟩⟩ 1 5,gA 7 ⟨⟨[115,116,111,114,101]⟩⟩ 2 6,gA 8 ⟨⟨[111,102,102,101,114]⟩⟩ 3 7,gA 9 ⟨⟨[116,97,107,101]⟩⟩ 3 8,gA 10 ⟨⟨[98,97,99,107]⟩⟩ 1 9,gA 11 ⟨⟨[114,101,118,111,107,101]⟩⟩ 1 10,gA 12 ⟨⟨[111,112,101,110]⟩⟩ 1 11,gA 13 ⟨⟨[98,105,110,100]⟩⟩ 2 12,gA 14 ⟨⟨[115,101,110,100]⟩⟩ 1 13,gA 15 ⟨⟨[112,111,108,108]⟩⟩ 0 14,gA 16 ⟨⟨[99,108,111,115,101]⟩⟩ 1 15,gA 17 ⟨⟨[115,119,101,101,112]⟩⟩ 0 16]⟩
def jR (k:Int):Int:=if 1<=k/\k<=17 then([0,1,2,1,2,1,2,3,3,1,1,1,2,1,0,1,0]:List Int).getD (k - 1).toNat 0 else -1
def iw (k a b c:Int):Bool:=decide (jR k>=0)&&((decide (jR k>0)||a==0)&&((decide (jR k>1)||b==0)&&(decide (jR k>2)||c==0)))
def ux (k:Int):Bool:=k==1||k==2||k==17
section
variable {D G:List Nat} {w0 w:A2} {L:List (Nat×List Ad)} {M:List (Nat×Obj)}
theorem KF (H:cM D G w0 w L M) {K:Option Nat->A2->Prop} (k: ∀r a,cM D G w0 a L ((r,.map eM 17)::M)->K (some r) a):aD AC 163 (.el (.one .map)) [] w K:=by
 refine λw1 h1=>ai (C:=H0) (aT:=λ_=>[]) (Ae (KB w1 K) ?_);have H:=H.ext h1;intro b c;have H:=(H.ext c).alloc (o:= .map #[] 0) trivial;refine gz H (by kernel_rfl) λf H=>?_;refine gz H (by kernel_rfl) λg H=>?_;refine gz H (by kernel_rfl) λh H=>?_;refine gz H (by kernel_rfl) λi H=>?_;refine gz H (by kernel_rfl) λj H=>?_;refine gz H (by kernel_rfl) λl H=>?_;refine gz H (by kernel_rfl) λm H=>?_;refine gz H (by kernel_rfl) λn H=>?_;refine gz H (by kernel_rfl) λp H=>?_;refine gz H (by kernel_rfl) λq H=>?_;refine gz H (by kernel_rfl) λs H=>?_;refine gz H (by kernel_rfl) λt H=>?_;refine gz H (by kernel_rfl) λu H=>?_;refine gz H (by kernel_rfl) λv H=>?_;refine gz H (by kernel_rfl) λx H=>?_;refine gz H (by kernel_rfl) λy H=>?_;refine gz H (by kernel_rfl) λz H=>?_;exact λd e=>k b.heap.size d ((H.ext e).WI (by kernel_rfl))
theorem GB {r:Nat} (h:bE w r eM 17) (k:Int): ∃(x:ByteArray×Int×Unit) (b:Bool),mg w (some r) .i64 k (.agg ⟨[.string ⟨⟨[]⟩⟩,aa 0]⟩) (.agg ⟨[.string x.1,aa x.2.1]⟩) b/\(b=false->jR k= -1)/\(b=true->x.2.1=jR k):=by
 by_cases c:1<=k/\k<=17
 ·have:k=1\/k=2\/k=3\/k=4\/k=5\/k=6\/k=7\/k=8\/k=9\/k=10\/k=11\/k=12\/k=13\/k=14\/k=15\/k=16\/k=17:=by omega
  rcases this with rfl|rfl|rfl|rfl|rfl|rfl|rfl|rfl|rfl|rfl|rfl|rfl|rfl|rfl|rfl|rfl|rfl
  ·exact⟨(⟨⟨[99,114,101,97,116,101]⟩⟩,0,()),true,⟨r,eM,17,rfl,h,rfl,rfl⟩,λh=>(by cases h),λ_=>rfl⟩
  ·exact⟨(⟨⟨[100,101,115,116,114,111,121]⟩⟩,1,()),true,⟨r,eM,17,rfl,h,rfl,rfl⟩,λh=>(by cases h),λ_=>rfl⟩
  ·exact⟨(⟨⟨[100,111,110,97,116,101]⟩⟩,2,()),true,⟨r,eM,17,rfl,h,rfl,rfl⟩,λh=>(by cases h),λ_=>rfl⟩
  ·exact⟨(⟨⟨[114,101,99,108,97,105,109]⟩⟩,1,()),true,⟨r,eM,17,rfl,h,rfl,rfl⟩,λh=>(by cases h),λ_=>rfl⟩
  ·exact⟨(⟨⟨[112,114,111,116,101,99,116]⟩⟩,2,()),true,⟨r,eM,17,rfl,h,rfl,rfl⟩,λh=>(by cases h),λ_=>rfl⟩
  ·exact⟨(⟨⟨[108,111,97,100]⟩⟩,1,()),true,⟨r,eM,17,rfl,h,rfl,rfl⟩,λh=>(by cases h),λ_=>rfl⟩
  ·exact⟨(⟨⟨[115,116,111,114,101]⟩⟩,2,()),true,⟨r,eM,17,rfl,h,rfl,rfl⟩,λh=>(by cases h),λ_=>rfl⟩
  ·exact⟨(⟨⟨[111,102,102,101,114]⟩⟩,3,()),true,⟨r,eM,17,rfl,h,rfl,rfl⟩,λh=>(by cases h),λ_=>rfl⟩
  ·exact⟨(⟨⟨[116,97,107,101]⟩⟩,3,()),true,⟨r,eM,17,rfl,h,rfl,rfl⟩,λh=>(by cases h),λ_=>rfl⟩
  ·exact⟨(⟨⟨[98,97,99,107]⟩⟩,1,()),true,⟨r,eM,17,rfl,h,rfl,rfl⟩,λh=>(by cases h),λ_=>rfl⟩
  ·exact⟨(⟨⟨[114,101,118,111,107,101]⟩⟩,1,()),true,⟨r,eM,17,rfl,h,rfl,rfl⟩,λh=>(by cases h),λ_=>rfl⟩
  ·exact⟨(⟨⟨[111,112,101,110]⟩⟩,1,()),true,⟨r,eM,17,rfl,h,rfl,rfl⟩,λh=>(by cases h),λ_=>rfl⟩
  ·exact⟨(⟨⟨[98,105,110,100]⟩⟩,2,()),true,⟨r,eM,17,rfl,h,rfl,rfl⟩,λh=>(by cases h),λ_=>rfl⟩
  ·exact⟨(⟨⟨[115,101,110,100]⟩⟩,1,()),true,⟨r,eM,17,rfl,h,rfl,rfl⟩,λh=>(by cases h),λ_=>rfl⟩
  ·exact⟨(⟨⟨[112,111,108,108]⟩⟩,0,()),true,⟨r,eM,17,rfl,h,rfl,rfl⟩,λh=>(by cases h),λ_=>rfl⟩
  ·exact⟨(⟨⟨[99,108,111,115,101]⟩⟩,1,()),true,⟨r,eM,17,rfl,h,rfl,rfl⟩,λh=>(by cases h),λ_=>rfl⟩
  ·exact⟨(⟨⟨[115,119,101,101,112]⟩⟩,0,()),true,⟨r,eM,17,rfl,h,rfl,rfl⟩,λh=>(by cases h),λ_=>rfl⟩
 ·have d: ∀(l:List Av) (i:Nat),(∀e∈l, ∃j:Int,e.key=aa j/\j≠k)->CH (.int .i64) (aa k) l i=some none:=by
   intro l
   induction l with
   |nil=>intro i _;rfl
   |cons e l g=>
    intro i a;obtain⟨j,h1,m⟩:=a e C6;unfold CH;rw[h1];have:JD (.int .i64) (aa k) (aa j)=some false:=by
     show(if BJ=BJ then some (k==j) else none)=some false
     grind
    grind
  have f:CH (.int .i64) (aa k) eM.toList 0=some none:=d _ 0 λe a=>by
   have a:e∈[gA 1 ⟨⟨[99,114,101,97,116,101]⟩⟩ 0 0,gA 2 ⟨⟨[100,101,115,116,114,111,121]⟩⟩ 1 1,gA 3 ⟨⟨[100,111,110,97,116,101]⟩⟩ 2 2,gA 4 ⟨⟨[114,101,99,108,97,105,109]⟩⟩ 1 3,gA 5 ⟨⟨[112,114,111,116,101,99,116]⟩⟩ 2 4,gA 6 ⟨⟨[108,111,97,100]⟩⟩ 1 5,gA 7 ⟨⟨[115,116,111,114,101]⟩⟩ 2 6,gA 8 ⟨⟨[111,102,102,101,114]⟩⟩ 3 7,gA 9 ⟨⟨[116,97,107,101]⟩⟩ 3 8,gA 10 ⟨⟨[98,97,99,107]⟩⟩ 1 9,gA 11 ⟨⟨[114,101,118,111,107,101]⟩⟩ 1 10,gA 12 ⟨⟨[111,112,101,110]⟩⟩ 1 11,gA 13 ⟨⟨[98,105,110,100]⟩⟩ 2 12,gA 14 ⟨⟨[115,101,110,100]⟩⟩ 1 13,gA 15 ⟨⟨[112,111,108,108]⟩⟩ 0 14,gA 16 ⟨⟨[99,108,111,115,101]⟩⟩ 1 15,gA 17 ⟨⟨[115,119,101,101,112]⟩⟩ 0 16]:=a;simp only[Dl,List.not_mem_nil,or_false] at a;rcases a with rfl|rfl|rfl|rfl|rfl|rfl|rfl|rfl|rfl|rfl|rfl|rfl|rfl|rfl|rfl|rfl|rfl
   all_goals exact⟨_,rfl,by omega⟩
  refine⟨(⟨⟨[]⟩⟩,0,()),false,⟨r,eM,17,rfl,h,?_⟩,λ_=>au c,λh=>by cases h⟩;rw[f];exact⟨rfl,rfl⟩
theorem QG (k:Int) (w:A2):aE AC 119 (.el (.one (.int .i64))) [aa k] w (λx w'=>x=jR k/\Ext w w'):=by
 refine ai (C:=H0) (aT:=λ_=>[]) (Ae (QF k w _) ?_);refine KF (cM.start [] w) λr d H=>?_;obtain⟨x,b,a,h0,h1⟩:=GB (H.get (i:=0) rfl) k;have H:=H.base;refine⟨x,b,a,aK.go H λe f H=>aC.all 0 H rfl rfl rfl λg H=>?_⟩;cases b with
 |false=>exact aF rfl (ao.go H λc H=>⟨(h0 rfl).symm,H.all⟩)
 |true=>exact an rfl ⟨rfl,aj.bP 0 H rfl rfl (ao.go H λc H=>⟨h1 rfl,H.all⟩)⟩
theorem Ux (k:Int):ah AC 119 [aa k] w (aa (jR k)):=ah.of λw' _=>QG k w'
theorem QH (k a b c:Int):ah AC 120 [.agg ⟨[aa k,ay a,ay b,ay c]⟩] w (Sh.gR (.el (.agg [.int .u64,.int .u64,.int .u64])) (a,b,c,())):=by
 refine ah.of λw' _=>aQ (C:=H0) (aT:=λ_=>[]) (Ae (KC k a b c w' _) ?_);have H:=At.start [] w';refine aK.go H λd e H=>aK.go H λf g H=>⟨rfl,aj.bP 1 H rfl rfl ⟨rfl,aj.bP 1 H rfl rfl ⟨rfl,aj.bP 1 H rfl rfl (aC.all 0 H rfl rfl rfl λh H=>ao.go H λi H=>aj.at 0 H rfl (rfl) ⟨rfl,H.all⟩)⟩⟩⟩
theorem KG (k a b c:Int) (w:A2):aE AC 76 (.el (.one .bool)) [.agg ⟨[aa k,ay a,ay b,ay c]⟩] w (λx w'=>x=iw k a b c/\Ext w w'):=by
 refine ai (C:=H0) (aT:=qO) (Ae (KE k a b c w _) ?_);have H:=At.start [] w;have t:jR k= -1\/0<=jR k:=by
  unfold jR;split
  ·rename_i h;right;have:k=1\/k=2\/k=3\/k=4\/k=5\/k=6\/k=7\/k=8\/k=9\/k=10\/k=11\/k=12\/k=13\/k=14\/k=15\/k=16\/k=17:=by omega
   rcases this with rfl|rfl|rfl|rfl|rfl|rfl|rfl|rfl|rfl|rfl|rfl|rfl|rfl|rfl|rfl|rfl|rfl<;>decide
  ·exact .inl rfl
 refine aK.go H λB D H=>⟨rfl,aj.bP 0 H rfl rfl ⟨_,Ux k,ab (λd=>ao.go H λl H=>⟨?_,H.all⟩) (λd=>aj.at 0 H rfl (show _=some (k,a,b,c,()) from rfl) ⟨(a,b,c,()),QH k a b c,?_⟩)⟩⟩
 ·have d:jR k= -1:=by simpa using d
  unfold iw;rw[d];rfl
 have d: ¬ jR k= -1:=by simpa using d
 unfold iw;obtain⟨n,y⟩: ∃n,n=jR k:=⟨_,rfl⟩;rw[<-y] at d t ⊢;refine⟨λq v w'=> ∃i:Nat,v.1=(i:Int)/\q+i=3/\(0<i-> ¬ (n<=0/\a≠0))/\(1<i-> ¬ (n<=1/\b≠0))/\(2<i-> ¬ (n<=2/\c≠0))/\Ext w w',⟨3,λl p=>⟨0,rfl,rfl,λh=>by omega,λh=>by omega,λh=>by omega,(H.ext p).all⟩⟩,?_⟩;rintro q ⟨v,u⟩ l ⟨i,e,E,h1,z,p,m⟩;dsimp only at e ⊢;subst e;refine ab (λcc=>⟨⟨by omega,by simpa using cc⟩,?_⟩) (λcc=>λf g=>⟨?_,m.trans g⟩)
 ·have hi:i<3:=by
   have:(i:Int)<3:=by simpa using cc
   omega
  have A:(¬ (n<=(i:Int)/\JH [a,b,c] (i:Int)≠0))-> ∀f,Ext l f-> ∃r,r<q/\ ∃j:Nat,aB .i64 (i:Int) 1=(j:Int)/\r+j=3/\(0<j-> ¬ (n<=0/\a≠0))/\(1<j-> ¬ (n<=1/\b≠0))/\(2<j-> ¬ (n<=2/\c≠0))/\Ext w f:=λo f g=>by
   refine⟨q - 1,by omega,i+1,by rw[ax (by omega) (by omega)];omega,by omega,?_,?_,?_,m.trans g⟩
   ·intro _;by_cases e:i=0
    ·subst e;exact o
    ·exact h1 (by omega)
   ·intro _;by_cases e:i=1
    ·subst e;exact o
    ·exact z (by omega)
   ·intro _;have e:i=2:=by omega
    subst e;exact o
  refine ab (λd1=>λf g=>⟨?_,m.trans g⟩) (λd1=>A ?_)
  ·have d1:n<=(i:Int)/\JH [a,b,c] (i:Int)≠0:=by
    simpa using d1
   have:i=0\/i=1\/i=2:=by omega
   symm;rw[Bool.eq_false_iff];intro s;simp only[CX,CV,decide_eq_true_eq,beq_iff_eq] at s;obtain⟨_,F,G,I⟩:=s;rcases this with rfl|rfl|rfl
   ·have d2:n<=0/\a≠0:=d1;omega
   ·have d2:n<=1/\b≠0:=d1;omega
   ·have d2:n<=2/\c≠0:=d1;omega
  grind
 grind
theorem DQ (k a b c:Int):ah AC 76 [.agg ⟨[aa k,ay a,ay b,ay c]⟩] w (.bool (iw k a b c)):=ah.of λw' _=>KG k a b c w'
theorem EF (k:Int) (w:A2):aE AC 77 (.el (.one .bool)) [aa k] w (λx w'=>x=ux k/\Ext w w'):=
 ai (Ae (EE k w _) λw1 h1=>⟨rfl,h1⟩)
theorem GC (k:Int):ah AC 77 [aa k] w (.bool (ux k)):=ah.of λw' _=>EF k w'
end
end Go.Proofs.YtlcenllcmeebhaaGreat
namespace Go.RX
set_option maxRecDepth 100000
open Go.ChangeShapes Go.WideShapes Go.RowKit
variable {H:Type} {enc:BN×Ad->H} {P:Program} {w:A2} {base:Nat} {spare:Nat->Bool} {held:Bool}
def yl (P:Program) (g:BN->Option (List Sc)):Nat->List Field->Option (List Sc)
 | _,[]=>some []
 |off,f::r=>match g f.type with
  |some a=>if f.offset=off/\P.cellsOf f.type=a.length then match yl P g (off+a.length) r with
    |some b=>some (a++b)
    |none=>none
   else none
  |none=>none
def rG (P:Program):Nat->BN->Option (List Sc)
 |0, _=>none
 |d+1,t=>match P.underlying t with
  |some (.int k)=>some [.int k]
  |some .bool=>some [.bool]
  |some (.struct fs)=>match yl P (rG P d) 0 fs.toList with
   |some a=>if P.cellsOf t=a.length then some a else none
   |none=>none
  |some (.array n e)=>match rG P d e with
   |some a=>if P.cellsOf e=a.length/\P.cellsOf t=n*a.length then some (BK n a).flatten else none
   |none=>none
  | _=>none
def abT:(s:Sc)->s.T->Prop
 | .int k,x=>(Lit.int k x).wf=true
 | _, _=>True
def n6:(l:List Sc)->kj l->Prop
 |[], _=>True
 |s::r,x=>abT s x.1/\n6 r x.2
theorem rT: ∀(a b:List Sc) (x:kj a) (y:kj b),n6 a x->n6 b y-> ∃z:kj (a++b),bj (a++b) z=bj a x++bj b y/\n6 (a++b) z
 |[],b, _,y, _,c=>⟨y,rfl,c⟩
 |s::r,b,x,y,d,c=>by
  obtain⟨z,h1,e⟩:=rT r b x.2 y d.2 c;exact⟨(x.1,z),by simp only[In,bj,h1],d.1,e⟩
theorem IB {g:BN->Option (List Sc)} {m:Nat} (e: ∀t ss cs y,g t=some ss->DataW.trod enc P w base spare held m t cs=some y-> ∃x:kj ss,cs=bj ss x/\n6 ss x)
 {cs:List Ad} {fs:Array Field} {xs:List (DataW H×List MemPlace)} (j:xs.length=fs.size)
 (k: ∀(i:Nat) (f:Field),fs[i]? =some f->DataW.trod enc P w base spare held m f.type ((cs.drop f.offset).take (P.cellsOf f.type))=xs[i]?):
 ∀(l:List Field) (i off:Nat) (ss:List Sc),fs.toList.drop i=l->yl P g off l=some ss->cs.length=off+ss.length-> ∃x:kj ss,cs.drop off=bj ss x/\n6 ss x
 |[],i,off,ss, _,h,d=>by
  simp only[yl,Option.some.injEq] at h;subst h;refine⟨(),?_,trivial⟩;rw[G1 (by simp at d;omega)];rfl
 |f::r,i,off,ss,c,h,d=>by
  simp only[yl] at h;split at h
  ·rename_i a o;split at h
   ·rename_i hc;split at h
    ·rename_i b hb;cases h;have hi:i<fs.toList.length:=by
      apply Nat.lt_of_not_le;intro p;rw[G1 p] at c;cases c
     have q:fs[i]? =some f:=by
      have:=congrArg (·[0]?) c;simp only[List.getElem?_drop,H4,List.getElem?_cons_zero] at this;simpa using this
     have n:=k i f q;have s: ∃y,xs[i]? =some y:=⟨_,B1 (by rw[j];simpa using hi)⟩;obtain⟨y,v⟩:=s;rw[v,hc.1,hc.2] at n;obtain⟨x,A,B⟩:=e _ _ _ _ o n;have C:fs.toList.drop (i+1)=r:=by
      have:=congrArg (List.drop 1) c;simpa[GS] using this
     obtain⟨z,D,E⟩:=IB e j k r (i+1) (off+a.length) b C hb (by rw[d];simp;omega);obtain⟨u,F,G⟩:=rT a b x z B E;refine⟨u,?_,G⟩;rw[F, <-A, <-D, <-GS];exact(EU _ _).symm
    ·cases h
   ·cases h
  ·cases h
theorem AR {a:List Sc} {cs:List Ad}: ∀(n off:Nat),(∀i,i<n-> ∃x:kj a,(cs.drop (off+i*a.length)).take a.length=bj a x/\n6 a x)->cs.length=off+n*a.length->
 ∃x:kj (BK n a).flatten,cs.drop off=bj _ x/\n6 _ x
 |0,off, _,b=>by
  refine⟨(),?_,trivial⟩;rw[G1 (by omega)];rfl
 |n+1,off,h,b=>by
  obtain⟨x,c,d⟩:=h 0 (by omega);obtain⟨z,e,f⟩:=AR (a:=a) (cs:=cs) n (off+a.length) (λi hi=>by
   have:=h (i+1) (by omega);rw[show off+(i+1)*a.length=off+a.length+i*a.length by rw[E6];omega] at this;exact this) (by rw[b,E6];omega)
  obtain⟨u,g,j⟩:=rT a (BK n a).flatten x z d f;refine⟨u,?_,j⟩;show _=bj (a++(BK n a).flatten) u;rw[g, <-c, <-e,Gd,H4, <-GS];exact(EU _ _).symm
theorem uP: ∀(d m:Nat) (t:BN) (ss:List Sc) (cs:List Ad) (y:DataW H×List MemPlace),rG P d t=some ss->DataW.trod enc P w base spare held m t cs=some y-> ∃x:kj ss,cs=bj ss x/\n6 ss x
 |0, _, _, _, _, _,h, _=>by simp[rG] at h
 |d+1,m,t,ss,cs,y,h,g=>by
  simp only[rG] at h;split at h
  ·rename_i k c;cases h;obtain⟨n,rfl, _,r⟩:=DataW.trod_int c g;exact⟨(n,()),rfl,r,trivial⟩
  ·rename_i c;cases h;obtain⟨b,rfl, _⟩:=DataW.trod_bool c g;exact⟨(b,()),rfl,trivial,trivial⟩
  ·rename_i fs c;split at h
   ·rename_i a j;split at h
    ·rename_i hc;cases h;obtain⟨xs,n, _, _,l,p,o⟩:=DataW.trod_struct c g;obtain⟨x,h1,f⟩:=IB (λt ss cs y h1 f=>uP d n t ss cs y h1 f) p o fs.toList 0 0 _ rfl j (by rw[l,hc];omega);exact⟨x,by simpa using h1,f⟩
    ·cases h
   ·cases h
  ·rename_i n e c;split at h
   ·rename_i a j;split at h
    ·rename_i hc;cases h;obtain⟨xs,k, _, _,l,p,o⟩:=DataW.trod_array c g;obtain⟨x,h1,f⟩:=AR (a:=a) (cs:=cs) n 0 (λi hi=>by
      have q:=o i hi;have s:xs[i]? =some xs[i]:=B1 (by omega);rw[s,hc.1] at q;rw[BL];exact uP d k e a _ _ j q) (by rw[l,hc.2];omega)
     exact⟨x,by simpa using h1,f⟩
    ·cases h
   ·cases h
  ·cases h
theorem wP {t e:BN} {a:Option Ab} {n c:Nat} {p:DataW H} {ps:List MemPlace} (d:Nat) {ss:List Sc} (q:P.underlying t=some (.slice e)) (r:rG P d e=some ss) (hc:P.cellsOf e=ss.length)
 (h:DataW.Trod enc P w base spare held t (.slice a n c) p ps): ∃xs:List (kj ss),n=xs.length/\n<=maxLen/\Sl w (.agg ss) a xs/\ ∀x∈xs,n6 ss x:=by
 obtain⟨F,s⟩:=h;rcases Deep.open_slice q s with ⟨fq, _⟩|⟨x,len,cap,m,k,D,G,fq, _,I,J,u, _,l⟩
 ·simp[Value.cells] at fq;obtain⟨rfl,rfl,rfl⟩:=fq;exact⟨[],rfl,E5 _,λi x l=>by simp at l,λx l=>by simp at l⟩
 ·simp[Value.cells] at fq;obtain⟨rfl,rfl,rfl⟩:=fq;have K:n<=m:=by rw[u];split<;>omega
  have v: ∀i,i<n-> ∃y:kj ss,(∀j,j<ss.length->w.cell? ((x.add (i*ss.length)).add j)=(bj ss y)[j]?)/\n6 ss y:=by
   intro i hi;obtain⟨L,h1,g⟩:=l i (by omega);obtain⟨y,A,B⟩:=uP d _ _ _ _ _ r g;obtain⟨_,C,mE⟩:=World.cells?_some h1;rw[hc] at h1 C mE;refine⟨y,λj o=>?_,B⟩;rw[<-A];exact mE j o
  have: ∀k,k<=n-> ∃xs:List (kj ss),xs.length=k/\(∀i y,xs[i]? =some y->(∀j,j<ss.length->w.cell? ((x.add (i*ss.length)).add j)=(bj ss y)[j]?)/\n6 ss y):=by
   intro k
   induction k with
   |zero=>intro _;exact⟨[],rfl,λi y b=>by simp at b⟩
   |succ k E=>
    intro M;obtain⟨xs,h1,g⟩:=E (by omega);obtain⟨y,b⟩:=v k (by omega);refine⟨xs++[y],by simp[h1],λi z f=>?_⟩;by_cases hi:i<xs.length
    ·rw[HZ hi] at f;exact g i z f
    ·rw[Fu (by omega)] at f;have:i - xs.length=0:=by
      have:=(B5.1 f).1;simp at this;omega
     rw[this] at f;simp at f;subst f;rw[show i=k by omega];exact b
  obtain⟨xs,h1,g⟩:=this n (C7 n);refine⟨xs,h1.symm,by omega,λi y b=>⟨rfl,x.add (i*ss.length),rfl,λj o=>(g i y b).1 j o⟩,λy b=>?_⟩;obtain⟨i,hi⟩:=Dv b;exact(g i y hi).2
theorem wQ {t e:BN} {k:IntKind} {a:Option Ab} {n c:Nat} {g:DataW H} {ps:List MemPlace} (j:P.underlying t=some (.slice e)) (l:P.underlying e=some (.int k)) (hc:P.cellsOf e=1)
 (h:DataW.Trod enc P w base spare held t (.slice a n c) g ps): ∃xs:List Int,n=xs.length/\n<=maxLen/\Sl w (.one (.int k)) a xs/\ ∀x∈xs,(Lit.int k x).wf=true:=by
 obtain⟨xs,h1,m,o,p⟩:=wP (ss:=[.int k]) 1 j (by simp[rG,l]) hc h;refine⟨xs.map (·.1),by simp[h1],m,λi x d=>?_,λx d=>?_⟩
 ·rw[Fx] at d;cases f:xs[i]? with
  |none=>rw[f] at d;cases d
  |some y=>
   rw[f] at d;simp only[Option.map_some,Option.some.injEq] at d;subst d;obtain⟨q,r⟩:=o i y f;refine⟨q,?_⟩;obtain⟨b,hb,mE⟩:=r;refine⟨b,hb,?_⟩;have:=mE 0 (by simp);simpa[Addr.add,bj] using this
 ·obtain⟨y,f,rfl⟩:=Bx.1 d;exact(p y f).1
end Go.RX
namespace Go.Proofs.YtlcenllcmeebhaaGreat
set_option maxRecDepth 100000
open Go.RX
section
variable {w0 w:A2} {L:List (Nat×List Ad)}
def lG (ws:List Int) (f p t:Int):Nat->Int×Int×FT
 |0=>(f,3,(0,0,0,0,()))
 |k+1=>bG ws p t (lG ws f p t k)
def m_ (ws:List Int) (f p t:Int):FT:=if uw f p t then(0,0,0,1,()) else(lG ws f p t 4).2.2
theorem AS {ws:List Int} {p t:Int} {x:Int×Int×FT} (h:x.2.1= -1):bG ws p t x=x:=az h
theorem IC {fr pg wt lv:Int} {fd:FT} {ep:Bool} {er:Int} {el:Bool} {ef:Int} (a:0<=lv/\lv<=3):(tookS fr pg wt lv fd ep er el ef).2.1= -1\/((tookS fr pg wt lv fd ep er el ef).2.1=lv - 1/\0<lv):=by
 unfold tookS;split
 ·exact .inl rfl
 ·split
  ·rename_i h;rw[CX,decide_eq_true_eq] at h;exact .inr ⟨bD (by omega) (by omega),by omega⟩
  ·split
   ·exact .inl rfl
   ·split<;>exact .inl rfl
theorem WJ (ws:List Int) (f p t:Int): ∀k:Nat,(lG ws f p t k).2.1= -1\/((lG ws f p t k).2.1=3 - (k:Int)/\k<=3)
 |0=> .inr ⟨rfl,by decide⟩
 |k+1=>by
  rcases WJ ws f p t k with h|⟨h,a⟩
  ·left;show(bG ws p t (lG ws f p t k)).2.1= -1;rw[AS h];exact h
  ·show(bG ws p t (lG ws f p t k)).2.1= -1\/((bG ws p t (lG ws f p t k)).2.1=3 - ((k+1:Nat):Int)/\k+1<=3);generalize lG ws f p t k=x at h;unfold bG;rw[au (by omega)];split
   ·exact .inl rfl
   ·rcases IC (fr:=x.1) (pg:=p) (wt:=t) (lv:=x.2.1) (fd:=x.2.2) (by omega) with e|⟨e,b⟩
    ·exact .inl (e ..)
    ·exact .inr ⟨by rw[e];omega,by omega⟩
theorem xd {ws:List Int} {f p t:Int} {k:Nat} (h:(lG ws f p t k).2.1= -1): ∀j,lG ws f p t (k+j)=lG ws f p t k
 |0=>rfl
 |j+1=>by
  show bG ws p t (lG ws f p t (k+j))= _;rw[xd h j,AS h]
end
theorem set_perm {α:Type} (a:α): ∀(L:List α) (j:Nat),j<L.length->(L.set j a).Perm (a::L.eraseIdx j)
 |[], _,h=>by simp at h
 |x::L,0, _=>by simp
 |x::L,j+1,h=>by
  rw[List.set_cons_succ,List.eraseIdx_cons_succ];exact((set_perm a L j (by simpa using h)).cons x).trans (.swap a x _)
theorem nv {α:Type} {L:List α} {j:Nat} {a:α} (b:L[j]? =some a):L.set j a=L:=by
 apply Cb;intro n;by_cases e:j=n
 ·subst e;rw[DA (B5.1 b).1,b]
 ·rw[Dn e]
theorem Y5 {α:Type} {L:List α} {j c:Nat} {a b:α} (d:L[j]? =some a) (hb:L[c]? =some b) (h:j≠c): ∃f,L.Perm (a::b::f)/\ ∀a',(L.set j a').Perm (a'::b::f):=by
 have g:j<L.length:=(B5.1 d).1;have k:b∈L.eraseIdx j:=by
  rw[List.mem_eraseIdx_iff_getElem?];exact⟨c,λe=>h e.symm,hb⟩
 obtain⟨i,hi⟩:=Dv k;have l:i<(L.eraseIdx j).length:=(B5.1 hi).1;have p2:(L.eraseIdx j).Perm (b::(L.eraseIdx j).eraseIdx i):=by
  have:=set_perm b (L.eraseIdx j) i l;rwa[nv hi] at this
 refine⟨(L.eraseIdx j).eraseIdx i,?_,λa'=>(set_perm a' L j g).trans (p2.cons a')⟩;have:=(set_perm a L j g).trans (p2.cons a);rwa[nv d] at this
section
variable {w0 w:A2} {L:List (Nat×List Ad)}
end
end Go.Proofs.YtlcenllcmeebhaaGreat
namespace Go.Proofs.YtlcenllcmeebhaaGreat.D
set_option maxRecDepth 100000
open Go.RX
noncomputable def D0:dj AC:={C3 with vi:=true}
theorem QI (a:Int) (w:A2) (k:Option Ab×Nat×Nat->A2->Prop):(aN D0 (λ_=>[]) 246 [aa a] w k)=(
 ∀w1,Ext w w1->aK (w1.alloc (Obj.map ⟨[]⟩ 0)) ⟨[aa 1,aa 2,aa 3,aa 4]⟩ 3 λb c=> ∀e,Ext c e-> ∃(r:Nat), ∃(es:Array Av), ∃(d:Nat),some w1.heap.size=some r/\bE e r es d/\gS e r .i64 0 (.slice (ae b) 4 4) es d λc=>aK c ⟨[aa 0,aa 2,aa 3,aa 4]⟩ 3 λb c=> ∀f,Ext c f-> ∃(r:Nat), ∃(es:Array Av), ∃(d:Nat),some w1.heap.size=some r/\bE f r es d/\gS f r .i64 1 (.slice (ae b) 4 4) es d λc=>aK c ⟨[aa 5,.int
 .i64 0]⟩ 3 λb c=> ∀g,Ext c g-> ∃(r:Nat), ∃(es:Array Av), ∃(d:Nat),some w1.heap.size=some r/\bE g r es d/\gS g r .i64 2 (.slice (ae b) 2 2) es d λc=>aK c ⟨[aa 5,aa 0]⟩ 3 λb c=> ∀h,Ext c h-> ∃(r:Nat), ∃(es:Array Av), ∃(d:Nat),some w1.heap.size=some r/\bE h r es d/\gS h r .i64 3 (.slice (ae b) 2 2) es d λc=>aK c ⟨[aa 5,aa 0,aa 4]⟩ 3 λb c=> ∀i,Ext c i-> ∃(r:Nat), ∃(es:Array Av), ∃(d:Nat),some
 w1.heap.size=some r/\bE i r es d/\gS i r .i64 4 (.slice (ae b) 3 3) es d λc=>aK c ⟨[aa 0]⟩ 3 λb c=> ∀j,Ext c j-> ∃(r:Nat), ∃(es:Array Av), ∃(d:Nat),some w1.heap.size=some r/\bE j r es d/\gS j r .i64 5 (.slice (ae b) 1 1) es d λc=> ∃(x:Option Ab×Nat×Nat),jP c (some w1.heap.size) .i64 a (.slice none 0 0) (.slice x.1 x.2.1 x.2.2)/\ao c (k (x.1,x.2.1,x.2.2))):=by kernel_rfl
def zf:Nat->aZ:=(λ|2=>[(10,Go.RX.El.one (Go.RX.Sc.int BJ))]| _=>[])
theorem Y6 (a b:Int) (w:A2) (Post:Bool->A2->Prop):(aN D0 zf 234 [aa a,aa b] w Post)=(
 aD AC 246 (.el (.one .slice)) [aa a] w λx f=> ∀(c:Int),c=(↑x.2.1:Int)-> ∃(I:Nat->Int×Unit->A2->Prop),(∃n, ∀w1,Ext f w1->I n (0,()) w1)/\ ∀(n:Nat) (s:Int×Unit) (w1:A2),I n s w1->aL (decide (s.1<c)) ((x.1.isSome=true/\0<=s.1/\s.1<(↑x.2.1:Int))/\aj w1 none (ad x.1 (Int.toNat s.1*1)) (.one (.int .i64)) λ(x:Int)=>aL (x==b) (ao w1 λw1=>Post true w1) (∀(x:Int),x=aB .i64 s.1 1-> ∀d,Ext w1 d-> ∃(e:Nat),e<n/\I e (x,()) d)) (ao w1 λw1=>Post false w1)):=by
 kernel_rfl
theorem wZ {w:A2} {r:Nat} {k:IntKind} {n:Int} {val:Ad} {es:Array Av} {a:Nat} {K:A2->Prop} (h:CH (.int k) (.int k n) es.toList 0=some none)
 (b:K (w.putObj r (.map (es.push {key:= .int k n,val,born:=a}) (a+1)))):gS w r k n val es a K:=by grind[gS]
theorem mP {w0 a e:A2} {r:Nat} {es:Array Av} {c:Nat} {l:List Ad} {t:BN} {n:Int} {bs:List (Nat×List Ad)} {val:Ad} {K:A2->Prop}
 (o:Ext w0 a) (p:w0.heap.size<=r) (q:bE a r es c) (hb: ∀x∈bs,bM a x.1 x.2/\x.1≠r) (g:Ext (a.alloc (.cells ⟨l⟩ t)) e)
 (s:CH (.int .i64) (aa n) es.toList 0=some none)
 (k: ∀d,Ext w0 d->bE d r (es.push {key:=aa n,val,born:=c}) (c+1)->(∀x∈(a.heap.size,l)::bs,bM d x.1 x.2/\x.1≠r)->K d):
 ∃r' h i,some r=some r'/\bE e r' h i/\gS e r' .i64 n val h i K:=by
 have j:=q;have u:=(Array.getElem?_eq_some_iff.1 j).1;have f:=(Ext.alloc a _).trans g;have m:=f.obj j;refine⟨r,es,c,rfl,m,wZ s (k _ ((o.trans f).putObj p _) ?_ ?_)⟩
 ·exact jV (Array.getElem?_eq_some_iff.1 m).1
 ·intro x b;rcases Dl.1 b with rfl|b
  ·have:a.heap.size≠r:=by omega
   exact⟨((bM.new a l t).ext g).putObj this _,this⟩
  ·exact⟨((hb x b).1.ext f).putObj (hb x b).2 _,(hb x b).2⟩
def fV (a:Int):List Int:=if a=0 then[1,2,3,4] else if a=1 then[0,2,3,4] else if a=2 then[5,0] else if a=3 then[5,0] else if a=4 then[5,0,4] else if a=5 then[0] else[]
theorem QJ (a:Int) (w:A2):aE AC 246 (.el (.one .slice)) [aa a] w (λr w'=>Sl w' eI r.1 (fV a)/\r.2.1=(fV a).length/\Ext w w'):=by
 refine ai (C:=D0) (aT:=λ_=>[]) (Ae (QI a w _) ?_);intro w1 h1 j p Z B;have m0:bE j w1.heap.size #[] 0:=p.obj (eO w1 _);have step: ∀{W:A2} {bs:List (Nat×List Ad)} {r:Nat},(∀x∈bs,bM W x.1 x.2/\x.1≠r)-> ∀{q:A2},Ext W q-> ∀x∈bs,bM q x.1 x.2/\x.1≠r:=
  λh _ e x c=>⟨(h x c).1.ext e,(h x c).2⟩
 refine mP (bs:=[]) ((h1.iV _).trans p) h1.size m0 (λx c=>by cases c) B rfl λW0 E0 M0 B0 s k w5 D=>?_;refine mP (E0.trans k) h1.size (k.obj M0) (step B0 k) D rfl λW1 E1 M1 E t l w7 F=>?_;refine mP (E1.trans l) h1.size (l.obj M1) (step E l) F rfl λW2 E2 M2 G u m w9 H=>?_;refine mP (E2.trans m) h1.size (m.obj M2) (step G m) H rfl λW3 E3 M3 I v n mv J=>?_;refine mP (E3.trans n) h1.size (n.obj M3) (step I n) J rfl λW4 K L M y o Jy N=>?_;refine mP (K.trans o) h1.size (o.obj L) (step M o) N rfl λf O b d=>?_;have P:=(d (j.heap.size,[aa 1,aa 2,aa 3,aa 4]) (by simp)).1;have Q:=(d (s.heap.size,[aa 0,aa 2,aa 3,aa 4]) (by simp)).1;have R:=(d (t.heap.size,[aa 5,aa 0]) (by simp)).1;have S:=(d (u.heap.size,[aa 5,aa 0]) (by simp)).1;have T:=(d (v.heap.size,[aa 5,aa 0,aa 4]) (by simp)).1;have U:=(d (y.heap.size,[aa 0]) (by simp)).1;have fin: ∀(x:Option Ab×Nat×Nat),jP f (some w1.heap.size) .i64 a (.slice none 0 0) (.slice x.1 x.2.1 x.2.2)->Sl f eI x.1 (fV a)->x.2.1=(fV a).length->
  ∃x:Option Ab×Nat×Nat,jP f (some w1.heap.size) .i64 a (.slice none 0 0) (.slice x.1 x.2.1 x.2.2)/\ ∀g,Ext f g->Sl g eI (x.1,x.2.1,x.2.2).1 (fV a)/\(x.1,x.2.1,x.2.2).2.1=(fV a).length/\Ext w g:=
  λx V X Y=>⟨x,V,λg z=>⟨X.ext z,Y,O.trans z⟩⟩
 by_cases c0:a=0
 ·subst c0;exact fin (some ⟨j.heap.size,0,none⟩,4,4) ⟨_, _, _,rfl,b,rfl⟩ (Sl.jC P rfl) rfl
 by_cases c1:a=1
 ·subst c1;exact fin (some ⟨s.heap.size,0,none⟩,4,4) ⟨_, _, _,rfl,b,rfl⟩ (Sl.jC Q rfl) rfl
 by_cases c2:a=2
 ·subst c2;exact fin (some ⟨t.heap.size,0,none⟩,2,2) ⟨_, _, _,rfl,b,rfl⟩ (Sl.jC R rfl) rfl
 by_cases c3:a=3
 ·subst c3;exact fin (some ⟨u.heap.size,0,none⟩,2,2) ⟨_, _, _,rfl,b,rfl⟩ (Sl.jC S rfl) rfl
 by_cases c4:a=4
 ·subst c4;exact fin (some ⟨v.heap.size,0,none⟩,3,3) ⟨_, _, _,rfl,b,rfl⟩ (Sl.jC T rfl) rfl
 by_cases c5:a=5
 ·subst c5;exact fin (some ⟨y.heap.size,0,none⟩,1,1) ⟨_, _, _,rfl,b,rfl⟩ (Sl.jC U rfl) rfl
 have A:fV a=[]:=by
  unfold fV;rw[au c0,au c1,au c2,au c3,au c4,au c5]
 refine fin (none,0,0) ⟨_, _, _,rfl,b,?_⟩ (by rw[A];intro i x c;simp at c) (by rw[A];rfl);have d0:(a==0)=false:=by simp[c0]
 have d1:(a==1)=false:=by simp[c1]
 have d2:(a==2)=false:=by simp[c2]
 have d3:(a==3)=false:=by simp[c3]
 have d4:(a==4)=false:=by simp[c4]
 have d5:(a==5)=false:=by simp[c5]
 simp only[Array.toList_push,List.nil_append,In,CH,JD,if_true,BL,d0,d1,d2,d3,d4,d5]
theorem KH (a:Int):(fV a).length<=4:=by grind[fV]
theorem Y7 (a b:Int) (w:A2):aE AC 234 (.el (.one .bool)) [aa a,aa b] w (λx w'=>x=decide (b∈fV a)/\Ext w w'):=by
 refine ai (C:=D0) (aT:=zf) (Ae (Y6 a b w _) ?_);intro w1 h1;refine(QJ a w1).mono ?_;rintro⟨p,n,c⟩ q ⟨f,t,g⟩ x1 l;dsimp only at l t f;subst l;have B:=KH a;refine⟨λk s w'=>Ext q w'/\ ∃i:Nat,s.1=i/\k+i=n/\ ∀j,j<i->(fV a)[j]? ≠some b,⟨n,λv d=>⟨d,0,rfl,rfl,λj m=>absurd m (by omega)⟩⟩,?_⟩;rintro k ⟨D,u⟩ v ⟨d,i,hi,E,m⟩;simp only at hi;subst hi;dsimp only;refine ab (λh=>?_) (λh=>λo e=>⟨?_,((h1.trans g).trans d).trans e⟩)
 ·simp only[decide_eq_true_eq] at h;have y:i<(fV a).length:=by omega
  have r:=(f.ext d) i _ (B1 y);refine⟨⟨r.1,by omega,by omega⟩, _,r.2,ab (λz o e=>⟨?_,((h1.trans g).trans d).trans e⟩) (λz x A o e=>⟨k - 1,by omega,d.trans e,i+1,by rw[A,ax (by omega) (by omega)];rfl,by omega,?_⟩)⟩
  grind
  grind
 ·grind[decide_eq_false_iff_not,fV,Dv]
noncomputable def Yf:Entry AC where
 f:=234
 fn l:=match l with
  |[.int .i64 a,.int .i64 b]=>some (True,.bool (decide (b∈fV a)))
  | _=>none
 ok args pre v h c w:=by
  split at h
  ·rename_i a b;cases h;exact bW (Y7 a b w)
  ·cases h
noncomputable def D1:dj AC:={D0 with rX:=[sK,vj,Fm,Fo,Yf]}
abbrev vP (c:Bool->A2->Prop) (a:A2) (b:Nat):Prop:=
 aj a none (ae b) dO λ(x:Int×Int×Int×Int×Unit)=>true=true/\aU a (ad (ae b) 0) λd=>ao a λw1=>c (x.1==d&&(x.2.1==0&&(x.2.2.1==0&&(x.2.2.2.1==0&&true)))) w1
abbrev vQ (c:Bool->A2->Prop) (a:A2) (b:Nat):Prop:=
 true=true/\aU a (ad (ae b) 1) λx=>(decide (x>0)=true->true=true)/\aj a (some (decide (x>0))) (ad (ae b) 3) aV λ(d:Int)=>ao a (c (decide (x>0)&&d==0))
abbrev vR (b:Bool->A2->Prop) (c:Int) (a:A2) (d:Nat):Prop:=
 aL (c==5) (true=true/\aU a (ad (ae d) 2) λx=>ao a (b (x==0))) (ao a (b false))
abbrev vS (d:Bool->A2->Prop) (b:Int) (a:A2) (c:Nat):Prop:=
 aL (b==2) (true=true/\aU a (ad (ae c) 1) λx=>((x==0)=true->true=true)/\aj a (some (x==0)) (ad (ae c) 3) aV λ(e:Int)=>ao a (d (x==0&&e==0))) (aL (b==3) (aL (b==3) (vQ d a c) (vR d b a c)) (aL (b==4) (vQ d a c) (vR d b a c)))
theorem yF (k o r e:Int) (w:A2) (f:Bool->A2->Prop):(aN D1 (λ_=>[]) 233 [.agg ⟨[aa k,aa o,aa r,aa e]⟩] w f)=(
 aK w ⟨[aa k,aa o,aa r,aa e]⟩ 52 λb a=>true=true/\aU a (ad (ae b) 1) λx=>((!decide (x<0))=true->true=true)/\aj a (some !decide (x<0)) (ad (ae b) 1) aV λ(c:Int)=>((!(decide (x<0)||decide (c>16)))=true->true=true)/\aj a (some !(decide (x<0)||decide (c>16))) (ad (ae b) 2) aV λ(d:Int)=>((!(decide (x<0)||decide (c>16)||decide (d<0)))=true->true=true)/\aj a (some !(decide (x<0)||decide (c>16)||decide (d<0))) (ad (ae b) 2) aV λ(g:Int)=>
 ((!(decide (x<0)||decide (c>16)||decide (d<0)||decide (g>65535)))=true->true=true)/\aj a (some !(decide (x<0)||decide (c>16)||decide (d<0)||decide (g>65535))) (ad (ae b) 3) aV λ(h:Int)=>((!(decide (x<0)||decide (c>16)||decide (d<0)||decide (g>65535)||decide (h<0)))=true->true=true)/\aj a (some !(decide (x<0)||decide (c>16)||decide (d<0)||decide (g>65535)||decide (h<0))) (ad (ae b) 3) aV λ(i:Int)=>aL (decide (x<0)||decide (c>16)||decide (d<0)||
 decide (g>65535)||decide (h<0)||decide (i>4294967295)) (ao a (f false)) (true=true/\aU a (ad (ae b) 0) λx=>aL (x==0) (aL (x==0) (vP f a b) (vS f x a b)) (aL (x==1) (vP f a b) (vS f x a b)))):=by kernel_rfl
def jD (k o r e:Int):Prop:=(0<=o/\o<=16/\0<=r/\r<=65535/\0<=e/\e<=4294967295)/\(((k=0\/k=1)/\o=0/\r=0/\e=0)\/(k=2/\o=0/\e=0)\/((k=3\/k=4)/\0<o/\e=0)\/(k=5/\r=0))
instance (k o r e:Int):Decidable (jD k o r e):=by unfold jD;infer_instance
def dR (k o r e:Int):Bool:=decide (jD k o r e)
theorem KI {k o r e:Int} {b:Bool} (h:b=true<->jD k o r e):b=dR k o r e:=by
 unfold dR;rw[JJ,decide_eq_true_eq];exact h
theorem yG (k o r e:Int) (w:A2):aE AC 233 (.el (.one .bool)) [.agg ⟨[aa k,aa o,aa r,aa e]⟩] w (λb w'=>b=dR k o r e/\Ext w w'):=by
 refine ai (C:=D1) (aT:=λ_=>[]) (Ae (yF k o r e w _) ?_);have H:=At.start [] w
 repeat' (first
  |exact Go.RX.aJ.all H
  |exact B2 (by first|rfl|decide+kernel) (Go.RX.aJ.all H)
  |refine B2 (by first|exact rfl|exact trivial|exact λ_=>rfl|exact λ_=>trivial|exact⟨rfl,by decide,by decide⟩|exact⟨by decide,by decide⟩|decide+kernel|exact λ_=>by decide|exact λ_=>⟨rfl,by decide,by decide⟩|(dsimp only[Ff,Fs];exact⟨rfl,by decide,by decide⟩)) ?_
  |refine aj.bP 0 H rfl rfl ?_
  |refine aj.at 0 H rfl rfl ?_
  |refine aK.go H λb w1 H=>?_
  |refine aC.all 0 H rfl rfl rfl λw1 H=>?_
  |refine aC.fb 0 H rfl rfl rfl λw1 H=>?_
  |refine aC.one 0 H rfl rfl rfl λw1 H=>?_
  |with_reducible refine ao.go H λw1 H=>?_
  |refine j8 ?_
  |refine aF (by assumption) ?_
  |refine an (by assumption) ?_
  |refine ab (λc=>?_) (λc=>?_))
 all_goals
  refine B2 (KI ?_) H.all;simp only[CV,Da,CX,H7,beq_iff_eq,beq_eq_false_iff_ne,bne_iff_ne,bne_eq_false_iff_eq,decide_eq_true_eq,decide_eq_false_iff_not,HB,HE,Db,HG,and_true,true_and,and_false,false_and,or_true,true_or,or_false,false_or,ne_eq,not_true_eq_false,not_false_eq_true,false_iff,iff_false,true_iff,iff_true] at*
  unfold jD;omega
noncomputable def uF:Entry AC where
 f:=233
 fn l:=match l with
  |[.agg ⟨[.int .i64 k,.int .i64 o,.int .i64 r,.int .i64 e]⟩]=>some (True,.bool (dR k o r e))
  | _=>none
 ok args pre v h a w:=by
  split at h
  ·rename_i k o r e;cases h;exact bW (yG k o r e w)
  ·cases h
noncomputable def D2:dj AC:={D0 with rX:=[sK,vj,Fm,Fo,Yf,uF]}
abbrev zg (d:(Int×Int×Int×Int×Unit)×Int×Unit->A2->Prop) (a:A2) (e:Nat) (b:Nat):Prop:=
 aj a none (ae e) dO λ(x:Int×Int×Int×Int×Unit)=>True/\aL (!dR x.1 x.2.1 x.2.2.1 x.2.2.2.1) (aC a (ae b) [aa 0,aa 0,aa 0,aa 0] λc=>ao c λw1=>aj w1 none (ae b) dO λ(x:Int×Int×Int×Int×Unit)=>d ((x.1,x.2.1,x.2.2.1,x.2.2.2.1,()),1,()) w1) (aj a none (ae e) dO λ(x:Int×Int×Int×Int×Unit)=>aC a (ae b) [aa x.1,aa x.2.1,aa x.2.2.1,aa x.2.2.2.1] λc=>ao c λw1=>aj w1 none (ae b) dO λ(x:Int×Int×Int×Int×
 Unit)=>d ((x.1,x.2.1,x.2.2.1,x.2.2.2.1,()),0,()) w1)
theorem Uy (k o r e x y:Int) (w:A2) (d:(Int×Int×Int×Int×Unit)×Int×Unit->A2->Prop):(bQ D2 (λ_=>[]) 192 [.agg ⟨[aa k,aa o,aa r,aa e]⟩,aa x,aa y] w d)=(
 aK w ⟨[aa k,aa o,aa r,aa e]⟩ 52 λb a=>aK a ⟨[aa 0,aa 0,aa 0,aa 0]⟩ 52 λc a=>aj a none (ae b) dO λ(f:Int×Int×Int×Int×Unit)=>True/\aL (!dR f.1 f.2.1 f.2.2.1 f.2.2.2.1) (aC a (ae c) [aa 0,aa 0,aa 0,aa 0] λa=>ao a λw1=>aj w1 none (ae c) dO λ(x:Int×Int×Int×Int×Unit)=>d ((x.1,x.2.1,x.2.2.1,x.2.2.2.1,()),11,()) w1) (true=true/\aU a (ad (ae b) 2) λg=>aL (decide (g>0)) (aC a
 (ae c) [aa 0,aa 0,aa 0,aa 0] λa=>ao a λw1=>aj w1 none (ae c) dO λ(x:Int×Int×Int×Int×Unit)=>d ((x.1,x.2.1,x.2.2.1,x.2.2.2.1,()),9,()) w1) (true=true/\aU a (ad (ae b) 0) λh=>True/\aL (!decide (x∈fV h)) (aC a (ae c) [aa 0,aa 0,aa 0,aa 0] λa=>ao a λw1=>aj w1 none (ae c) dO λ(x:Int×Int×Int×Int×Unit)=>d ((x.1,x.2.1,x.2.2.1,x.2.2.2.1,()),6,()) w1) (aL (x==5) (true=true/\aU a (ad (ae
 b) 1) λi=>aK a ⟨[aa 0,aa 0,aa 0,aa 0]⟩ 52 λb a=>aC a (ae b) [aa x,aa i,aa 0,aa 0] λa=>zg d a b c) (aK a ⟨[aa 0,aa 0,aa 0,aa 0]⟩ 52 λb a=>aC a (ae b) [aa x,aa y,aa 0,aa 0] λa=>zg d a b c))))):=by kernel_rfl
theorem Y8 (k o r e x:Int) (w:A2) (d:(Int×Int×Int×Int×Unit)×Int×Unit->A2->Prop):(bQ D2 (λ_=>[]) 228 [.agg ⟨[aa k,aa o,aa r,aa e]⟩,aa x] w d)=(
 aK w ⟨[aa k,aa o,aa r,aa e]⟩ 52 λb a=>aK a ⟨[aa 0,aa 0,aa 0,aa 0]⟩ 52 λc a=>aj a none (ae b) dO λ(g:Int×Int×Int×Int×Unit)=>True/\aL (!dR g.1 g.2.1 g.2.2.1 g.2.2.2.1) (aC a (ae c) [aa 0,aa 0,aa 0,aa 0] λa=>ao a λw1=>aj w1 none (ae c) dO λ(x:Int×Int×Int×Int×Unit)=>d ((x.1,x.2.1,x.2.2.1,x.2.2.2.1,()),11,()) w1) (true=true/\aU a (ad (ae b) 0) λf=>((f != 2)=true->true=
 true)/\aj a (some (f != 2)) (ad (ae b) 0) aV λ(i:Int)=>((f != 2&&i != 3)=true->true=true)/\aj a (some (f != 2&&i != 3)) (ad (ae b) 0) aV λ(l:Int)=>aL (f != 2&&i != 3&&l != 4) (aC a (ae c) [aa 0,aa 0,aa 0,aa 0] λa=>ao a λw1=>aj w1 none (ae c) dO λ(x:Int×Int×Int×Int×Unit)=>d ((x.1,x.2.1,x.2.2.1,x.2.2.2.1,()),6,()) w1) (true=true/\aU a (ad (ae b) 2) λm=> ∀(h:Int),h=aY .i64 65535 m->((!decide (x>h))=true->
 true=true)/\aj a (some !decide (x>h)) (ad (ae b) 2) aV λ(n:Int)=>aL (decide (x>h)||decide (x<aY .i64 0 n)) (aC a (ae c) [aa 0,aa 0,aa 0,aa 0] λa=>ao a λw1=>aj w1 none (ae c) dO λ(x:Int×Int×Int×Int×Unit)=>d ((x.1,x.2.1,x.2.2.1,x.2.2.2.1,()),2,()) w1) (true=true/\aU a (ad (ae b) 2) λp=> ∀(j:Int),j=aB .i64 p x->true=true/\aC a (ad (ae b) 2) [aa j] λa=>aj a none (ae b) dO λ(x:Int×Int×Int×Int×Unit)=>
 aC a (ae c) [aa x.1,aa x.2.1,aa x.2.2.1,aa x.2.2.2.1] λa=>ao a λw1=>aj w1 none (ae c) dO λ(x:Int×Int×Int×Int×Unit)=>d ((x.1,x.2.1,x.2.2.1,x.2.2.2.1,()),0,()) w1)))):=by kernel_rfl
def gN (k o r e x y:Int):Int:=if dR k o r e=false then 11 else if r>0 then 9 else if x∈fV k then(if dR x (if x=5 then o else y) 0 0=false then 1 else 0) else 6
def mF (k o r e x y:Int):Int:=if gN k o r e x y=0 then x else 0
def kV (k o r e x y:Int):Int:=if gN k o r e x y=0 then(if x=5 then o else y) else 0
theorem Uz (k o r e x y:Int) (w:A2):aE AC 192 (.bu [(.agg [.int .i64,.int .i64,.int .i64,.int .i64]),.one (.int .i64)]) [.agg ⟨[aa k,aa o,aa r,aa e]⟩,aa x,aa y] w
 (λv w'=>v=((mF k o r e x y,kV k o r e x y,(0:Int),(0:Int),()),gN k o r e x y,())/\Ext w w'):=by
 refine aQ (C:=D2) (aT:=λ_=>[]) (Ae (Uy k o r e x y w _) ?_);have H:=At.start [] w
 repeat' (first
  |exact Go.RX.aJ.all H
  |exact B2 (by first|rfl|decide+kernel) (Go.RX.aJ.all H)
  |refine B2 (by grind) ?_
  |refine aj.bP 0 H rfl rfl ?_
  |refine aj.bP 1 H rfl rfl ?_
  |refine aj.bP 2 H rfl rfl ?_
  |refine aj.at 0 H rfl rfl ?_
  |refine aj.at 1 H rfl rfl ?_
  |refine aj.at 2 H rfl rfl ?_
  |refine aK.go H λb w1 H=>?_
  |refine aC.all 0 H rfl rfl rfl λw1 H=>?_
  |refine aC.all 1 H rfl rfl rfl λw1 H=>?_
  |refine aC.all 2 H rfl rfl rfl λw1 H=>?_
  |refine aC.fb 0 H rfl rfl rfl λw1 H=>?_
  |refine aC.fb 1 H rfl rfl rfl λw1 H=>?_
  |refine aC.fb 2 H rfl rfl rfl λw1 H=>?_
  |refine aC.one 0 H rfl rfl rfl λw1 H=>?_
  |refine aC.one 1 H rfl rfl rfl λw1 H=>?_
  |refine aC.one 2 H rfl rfl rfl λw1 H=>?_
  |with_reducible refine ao.go H λw1 H=>?_
  |refine j8 ?_
  |refine aF (by assumption) ?_
  |refine an (by assumption) ?_
  |refine ab (λc=>?_) (λc=>?_))
 all_goals
  refine B2 ?_ H.all;simp only[CV,Da,CX,H7,beq_iff_eq,beq_eq_false_iff_ne,bne_iff_ne,bne_eq_false_iff_eq,decide_eq_true_eq,decide_eq_false_iff_not,HB,HE,Db,HG,and_true,true_and,and_false,false_and,or_true,true_or,or_false,false_or,ne_eq,not_true_eq_false,not_false_eq_true,false_iff,iff_false,true_iff,iff_true] at*
  first
   |(simp[mF,kV,gN, *];done)
   |(subst_vars;simp[mF,kV,gN, *])
def wK (k o r e x:Int):Int:=if dR k o r e=false then 11 else if k=2\/k=3\/k=4 then(if r+x<0\/r+x>65535 then 2 else 0) else 6
def qt (k o r e x:Int):Int×Int×Int×Int×Unit:=if wK k o r e x=0 then(k,o,r+x,e,()) else(0,0,0,0,())
theorem Y9 (k o r e x:Int) (l: -9223372036854775808<=x/\x<9223372036854775808) (w:A2):aE AC 228 (.bu [(.agg [.int .i64,.int .i64,.int .i64,.int .i64]),.one (.int .i64)]) [.agg ⟨[aa k,aa o,aa r,aa e]⟩,aa x] w
 (λv w'=>v=(qt k o r e x,wK k o r e x,())/\Ext w w'):=by
 refine aQ (C:=D2) (aT:=λ_=>[]) (Ae (Y8 k o r e x w _) ?_);have H:=At.start [] w
 repeat' (first
  |exact Go.RX.aJ.all H
  |exact B2 (by first|rfl|decide+kernel) (Go.RX.aJ.all H)
  |refine B2 (by first|exact rfl|exact trivial|exact λ_=>rfl|exact λ_=>trivial|exact⟨rfl,by decide,by decide⟩|exact⟨by decide,by decide⟩|decide+kernel|exact λ_=>by decide|exact λ_=>⟨rfl,by decide,by decide⟩|(dsimp only[Ff,Fs];exact⟨rfl,by decide,by decide⟩)) ?_
  |refine aj.bP 0 H rfl rfl ?_
  |refine aj.bP 1 H rfl rfl ?_
  |refine aj.bP 2 H rfl rfl ?_
  |refine aj.at 0 H rfl rfl ?_
  |refine aj.at 1 H rfl rfl ?_
  |refine aj.at 2 H rfl rfl ?_
  |refine aK.go H λb w1 H=>?_
  |refine aC.all 0 H rfl rfl rfl λw1 H=>?_
  |refine aC.all 1 H rfl rfl rfl λw1 H=>?_
  |refine aC.all 2 H rfl rfl rfl λw1 H=>?_
  |refine aC.fb 0 H rfl rfl rfl λw1 H=>?_
  |refine aC.fb 1 H rfl rfl rfl λw1 H=>?_
  |refine aC.fb 2 H rfl rfl rfl λw1 H=>?_
  |refine aC.one 0 H rfl rfl rfl λw1 H=>?_
  |refine aC.one 1 H rfl rfl rfl λw1 H=>?_
  |refine aC.one 2 H rfl rfl rfl λw1 H=>?_
  |with_reducible refine ao.go H λw1 H=>?_
  |refine j8 ?_
  |refine aF (by assumption) ?_
  |refine an (by assumption) ?_
  |refine ab (λc=>?_) (λc=>?_))
 all_goals
  refine B2 ?_ H.all;simp only[CV,Da,CX,H7,beq_iff_eq,beq_eq_false_iff_ne,bne_iff_ne,bne_eq_false_iff_eq,decide_eq_true_eq,decide_eq_false_iff_not,HB,HE,Db,HG,and_true,true_and,and_false,false_and,or_true,true_or,or_false,false_or,ne_eq,not_true_eq_false,not_false_eq_true,false_iff,iff_false,true_iff,iff_true] at*
 ·simp[qt,wK, *]
 ·have a: ¬ (k=2\/k=3\/k=4):=by omega
  simp[qt,wK, *]
 all_goals
  have d:dR k o r e=true:=by assumption
  have g:jD k o r e:=of_decide_eq_true d;unfold jD at g;have h:aY .i64 65535 r=65535 - r:=bD (by omega) (by omega);have i:aY .i64 0 r=0 - r:=bD (by omega) (by omega);simp only[h,i] at*
  have a:k=2\/k=3\/k=4:=by omega
 ·have f:r+x<0\/r+x>65535:=by omega
  simp[qt,wK, *]
 ·have f: ¬ (r+x<0\/r+x>65535):=by omega
  have j:aB .i64 r x=r+x:=ax (by omega) (by omega);have:wK k o r e x=0:=by unfold wK;rw[au (by rw[d];decide),az a,au f]
  unfold qt;rw[this,az rfl,j]
theorem HQ {x:Int} (h:0<=x) (h':x<18446744073709551616):(B x).toNat=x.toNat:=by
 have:=BD h h';unfold U at this;omega
theorem dS (x:Int):aw .u64 x=U (B x):=YG x
def fE (N:Nat):Int:=((N / 4294967296 % 4294967296:Nat):Int)
theorem abU {x:Int} (h:0<=x) (h':x<4294967296):aw .i64 x=x:=gm (by omega) (by omega)
theorem cE (N:Nat):aw .i64 (fE N)=fE N:=abU (by unfold fE;omega) (by unfold fE;omega)
noncomputable def aa0:Entry AC where
 f:=192
 fn l:=match l with
  |[.agg ⟨[.int .i64 k,.int .i64 o,.int .i64 r,.int .i64 e]⟩,.int .i64 x,.int .i64 y]=>some (True,.tuple ⟨[.agg ⟨[.int .i64 (mF k o r e x y),.int .i64 (kV k o r e x y),.int .i64 0,.int .i64 0]⟩,.int .i64 (gN k o r e x y)]⟩)
  | _=>none
 ok args pre v h a w:=by
  split at h
  ·rename_i k o r e x y;cases h;exact bW (Uz k o r e x y w)
  ·cases h
noncomputable def abV:Entry AC where
 f:=228
 fn l:=match l with
  |[.agg ⟨[.int .i64 k,.int .i64 o,.int .i64 r,.int .i64 e]⟩,.int .i64 x]=>some ((-9223372036854775808<=x/\x<9223372036854775808),.tuple ⟨[.agg ⟨[.int .i64 (qt k o r e x).1,.int .i64 (qt k o r e x).2.1,.int .i64 (qt k o r e x).2.2.1,.int .i64 (qt k o r e x).2.2.2.1]⟩,.int .i64 (wK k o r e x)]⟩)
  | _=>none
 ok args pre v h a w:=by
  split at h
  ·rename_i k o r e x;cases h;exact bW (Y9 k o r e x a w)
  ·cases h
noncomputable def D3:dj AC:={D0 with vi:=false,rX:=[sK,vj,Fm,Fo,Yf,uF,aa0,abV]}
noncomputable def E0:dj AC:={D3 with sh:=[(104,.el (.one (.zF 146 2))),(65,.el (.one (.zF 146 2)))],quiet:=[105,207,62]}
noncomputable def E1:dj AC:={E0 with cl:=[(201,.zF 105 1)]}
noncomputable def E2:dj AC:={E0 with cl:=[(201,.zF 207 1)]}
abbrev aap:Sh:= .el (.one (.zF 146 2))
theorem Y_ (p:Option Ab) (w:A2) (a:Int->A2->Prop):(aN E0 (λ_=>[]) 62 [ag p] w a)=(
 aL p.isNone (ao w (a 0)) (fC p 0 w λx=>ao w (a (↑x.2.1:Int)))):=by kernel_rfl
theorem Y' (k o r e:Int) (c:Option Ab) (w:A2) (d:Bool->A2->Prop):(aN E0 (λ_=>[]) 105 [.agg ⟨[aa k,aa o,aa r,aa e]⟩,ag c] w d)=(
 aK w ⟨[aa k,aa o,aa r,aa e]⟩ 52 λb a=>true=true/\aU a (ad (ae b) 0) λx=>aU a c λf=>ao a (d (x==f))):=by kernel_rfl
theorem KJ (k o r e:Int) (c:Option Ab) (w:A2) (d:Bool->A2->Prop):(aN E0 (λ_=>[]) 207 [.agg ⟨[aa k,aa o,aa r,aa e]⟩,ag c] w d)=(
 aK w ⟨[aa k,aa o,aa r,aa e]⟩ 52 λb a=>true=true/\aU a (ad (ae b) 1) λx=>aU a c λf=>ao a (d (x==f))):=by kernel_rfl
theorem aa1 (p:Option Ab) (k:Int) (w:A2) (c:Option Ab×Option Ab×Unit->A2->Prop):(aN E0 (λ_=>[]) 65 [ag p,aa k] w c)=(
 aK w ⟨[aa k]⟩ 3 λb a=>aD AC 104 (.el (.one (.zF 146 2))) [ag p,.func (.func 105) ⟨[]⟩ {toList:=[ag (ae b)]}] a λx a=>ao a (c (x.1,x.2.1,()))):=by kernel_rfl
theorem UA (p c:Option Ab) (w:A2) (d:Option Ab×Option Ab×Unit->A2->Prop):(aN E0 (λ_=>[]) 104 [ag p,.func (.func 105) #[] #[ag c]] w d)=(
 aK w ⟨[ag p]⟩ 36 λb a=>aK a {toList:=[.func (.func 105) ⟨[]⟩ ⟨[ag c]⟩]} 201 λe a=>ao a (d (some ⟨b,0,none⟩,some ⟨e,0,none⟩,()))):=by kernel_rfl
theorem QK (p c:Option Ab) (w:A2) (d:Option Ab×Option Ab×Unit->A2->Prop):(aN E0 (λ_=>[]) 104 [ag p,.func (.func 207) #[] #[ag c]] w d)=(
 aK w ⟨[ag p]⟩ 36 λb a=>aK a {toList:=[.func (.func 207) ⟨[]⟩ ⟨[ag c]⟩]} 201 λe a=>ao a (d (some ⟨b,0,none⟩,some ⟨e,0,none⟩,()))):=by kernel_rfl
def tM:Nat->aZ:=(λ|2=>[(13,Go.RX.El.one (Go.RX.Sc.int BJ))]| _=>[])
theorem QL (y:Nat) (p c:Option Ab) (w:A2) (f:Unit->A2->Prop):(aN E1 tM 146 [.func (.yield y) #[] #[],ag p,ag c] w f)=(
 fR w p λx=>aL x.isNone (ao w (f ())) (fR w p λx=>fC x 0 w λx=> ∃(I:Nat->Int×Unit->A2->Prop),(∃n, ∀w1,Ext w w1->I n (0,()) w1)/\ ∀(n:Nat) (s:Int×Unit) (w1:A2),I n s w1->aL (decide (s.1<(↑x.2.1:Int))) ((x.1.isSome=true/\0<=s.1/\s.1<(↑x.2.1:Int))/\aj w1 none (ad x.1 (Int.toNat s.1*4)) dO λ(x:Int×Int×Int×Int×Unit)=>aK w1 ⟨[aa 0,aa 0,aa 0,aa 0]⟩ 52 λb a=>aC a (ae b) [aa x.1,aa x.2.1,aa x.2.2.1,aa x.2.2.2.1] λa=>aj
 a none c (.one (.zF 105 1)) λx=>aj a none (ae b) dO λ(g:Int×Int×Int×Int×Unit)=> ∃h,ah AC 105 [.agg ⟨[aa g.1,aa g.2.1,aa g.2.2.1,aa g.2.2.2.1]⟩,ag x.1] a (.bool h)/\aL h (∀w1,Ext a w1->ma AC y [aa s.1] w1 λ(b:Bool) a=>aL (!b) (ao a (f ())) (∀d,Ext a d-> ∃(e:Nat),e<n/\I e (aB .i64 s.1 1,()) d)) (∀d,Ext a d-> ∃(e:Nat),e<n/\I e (aB .i64 s.1 1,()) d)) (ao w1 (f ())))):=by kernel_rfl
def qP:Nat->aZ:=(λ|2=>[(13,Go.RX.El.one (Go.RX.Sc.int BJ))]| _=>[])
theorem KK (y:Nat) (p c:Option Ab) (w:A2) (f:Unit->A2->Prop):(aN E2 qP 146 [.func (.yield y) #[] #[],ag p,ag c] w f)=(
 fR w p λx=>aL x.isNone (ao w (f ())) (fR w p λx=>fC x 0 w λx=> ∃(I:Nat->Int×Unit->A2->Prop),(∃n, ∀w1,Ext w w1->I n (0,()) w1)/\ ∀(n:Nat) (s:Int×Unit) (w1:A2),I n s w1->aL (decide (s.1<(↑x.2.1:Int))) ((x.1.isSome=true/\0<=s.1/\s.1<(↑x.2.1:Int))/\aj w1 none (ad x.1 (Int.toNat s.1*4)) dO λ(x:Int×Int×Int×Int×Unit)=>aK w1 ⟨[aa 0,aa 0,aa 0,aa 0]⟩ 52 λb a=>aC a (ae b) [aa x.1,aa x.2.1,aa x.2.2.1,aa x.2.2.2.1] λa=>aj
 a none c (.one (.zF 207 1)) λx=>aj a none (ae b) dO λ(g:Int×Int×Int×Int×Unit)=> ∃h,ah AC 207 [.agg ⟨[aa g.1,aa g.2.1,aa g.2.2.1,aa g.2.2.2.1]⟩,ag x.1] a (.bool h)/\aL h (∀w1,Ext a w1->ma AC y [aa s.1] w1 λ(b:Bool) a=>aL (!b) (ao a (f ())) (∀d,Ext a d-> ∃(e:Nat),e<n/\I e (aB .i64 s.1 1,()) d)) (∀d,Ext a d-> ∃(e:Nat),e<n/\I e (aB .i64 s.1 1,()) d)) (ao w1 (f ())))):=by kernel_rfl
theorem QM (k o r e:Int) (c d:Option Ab) (w:A2) (i:(Int×Int×Int×Int×Unit)×Int×Unit->A2->Prop):(bQ E0 (λ_=>[]) 191 [.agg ⟨[aa k,aa o,aa r,aa e]⟩,ag c,ag d] w i)=(
 aK w ⟨[aa k,aa o,aa r,aa e]⟩ 52 λb a=>aK a ⟨[aa 0,aa 0,aa 0,aa 0]⟩ 52 λj a=>aj a none (ae b) dO λ(x:Int×Int×Int×Int×Unit)=>aU a c λg=>aU a d λh=>True/\aC a (ae j) [aa (mF x.1 x.2.1 x.2.2.1 x.2.2.2.1 g h),aa (kV x.1 x.2.1 x.2.2.1 x.2.2.2.1 g h),aa 0,aa 0] λa=>ao a λw1=>aj w1 none (ae j) dO λ(f:Int×Int×Int×Int×Unit)=>i ((f.1,f.2.1,f.2.2.1,f.2.2.2.1,()),gN x.1 x.2.1
 x.2.2.1 x.2.2.2.1 g h,()) w1):=by kernel_rfl
theorem UB (k o r e:Int) (c:Option Ab) (w:A2) (g:(Int×Int×Int×Int×Unit)×Int×Unit->A2->Prop):(bQ E0 (λ_=>[]) 227 [.agg ⟨[aa k,aa o,aa r,aa e]⟩,ag c] w g)=(
 aK w ⟨[aa k,aa o,aa r,aa e]⟩ 52 λb a=>aK a ⟨[aa 0,aa 0,aa 0,aa 0]⟩ 52 λh a=>aj a none (ae b) dO λ(x:Int×Int×Int×Int×Unit)=>aU a c λd=>(-9223372036854775808<=d/\d<9223372036854775808)/\aC a (ae h) [aa (qt x.1 x.2.1 x.2.2.1 x.2.2.2.1 d).1,aa (qt x.1 x.2.1 x.2.2.1 x.2.2.2.1 d).2.1,aa (qt x.1 x.2.1 x.2.2.1 x.2.2.2.1 d).2.2.1,aa (qt x.1 x.2.1 x.2.2.1 x.2.2.2.1 d).2.2.2.1] λa=>ao a λw1=>aj w1 none (ae h) dO λ
 (f:Int×Int×Int×Int×Unit)=>g ((f.1,f.2.1,f.2.2.1,f.2.2.2.1,()),wK x.1 x.2.1 x.2.2.1 x.2.2.2.1 d,()) w1):=by kernel_rfl
theorem KL (p:Option Ab) (f:Int) (c d:Option Ab) (w:A2) (e:Int->A2->Prop):(aN E0 (λ_=>[]) 190 [ag p,aa f,.func (.func 191) #[] #[ag c,ag d]] w e)=(
 ∃(x:Int),ah AC 62 [ag p] w (aa x)/\aL (x==0) (ao w (e 10)) (((!decide (f<0))=true->p.isSome=true)/\((!decide (f<0))=true->p.isSome=true)/\aj w (some !decide (f<0)) (ad p 0) iu λx=>aL (decide (f<0)||decide (f>=(↑x.2.1:Int))) (ao w (e 2)) (fC p 0 w λx=>(x.1.isSome=true/\0<=f/\f<(↑x.2.1:Int))/\aj w none (ad x.1 (f.toNat*4)) dO λ(x:Int×Int×Int×Int×Unit)=>aD AC 191 (.bu [.agg [.int .i64,.int .i64,.int .i64,.int .i64],.one (.int .i64)]) [.agg ⟨[aa x.1,.int .i64
 x.2.1,aa x.2.2.1,aa x.2.2.2.1]⟩,ag c,ag d] w λ(x:(Int×Int×Int×Int×Unit)×Int×Unit) a=>aK a ⟨[aa 0,aa 0,aa 0,aa 0]⟩ 52 λb a=>aC a (ae b) [aa x.1.1,aa x.1.2.1,aa x.1.2.2.1,aa x.1.2.2.2.1] λa=>aL (x.2.1==0) (fC p 0 a λh=>aj a none (ae b) dO λ(g:Int×Int×Int×Int×Unit)=>(h.1.isSome=true/\0<=f/\f<(↑h.2.1:Int))/\aC a (ad h.1 (f.toNat*4)) [aa g.1,aa g.2.1,aa g.2.2.1,aa g.2.2.2.1]
 λa=>ao a (e x.2.1)) (ao a (e x.2.1))))):=by kernel_rfl
theorem GD (p:Option Ab) (f:Int) (c:Option Ab) (w:A2) (d:Int->A2->Prop):(aN E0 (λ_=>[]) 190 [ag p,aa f,.func (.func 227) #[] #[ag c]] w d)=(
 ∃(x:Int),ah AC 62 [ag p] w (aa x)/\aL (x==0) (ao w (d 10)) (((!decide (f<0))=true->p.isSome=true)/\((!decide (f<0))=true->p.isSome=true)/\aj w (some !decide (f<0)) (ad p 0) iu λx=>aL (decide (f<0)||decide (f>=(↑x.2.1:Int))) (ao w (d 2)) (fC p 0 w λx=>(x.1.isSome=true/\0<=f/\f<(↑x.2.1:Int))/\aj w none (ad x.1 (f.toNat*4)) dO λ(x:Int×Int×Int×Int×Unit)=>aD AC 227 (.bu [.agg [.int .i64,.int .i64,.int .i64,.int .i64],.one (.int .i64)]) [.agg ⟨[aa x.1,.int .i64
 x.2.1,aa x.2.2.1,aa x.2.2.2.1]⟩,ag c] w λ(x:(Int×Int×Int×Int×Unit)×Int×Unit) a=>aK a ⟨[aa 0,aa 0,aa 0,aa 0]⟩ 52 λb a=>aC a (ae b) [aa x.1.1,aa x.1.2.1,aa x.1.2.2.1,aa x.1.2.2.2.1] λa=>aL (x.2.1==0) (fC p 0 a λg=>aj a none (ae b) dO λ(e:Int×Int×Int×Int×Unit)=>(g.1.isSome=true/\0<=f/\f<(↑g.2.1:Int))/\aC a (ad g.1 (f.toNat*4)) [aa e.1,aa e.2.1,aa e.2.2.1,aa e.2.2.2.1] λa=>ao
 a (d x.2.1)) (ao a (d x.2.1))))):=by kernel_rfl
theorem UC (p:Option Ab) (f k o:Int) (w:A2) (c:Int->A2->Prop):(aN E0 (λ_=>[]) 138 [ag p,aa f,aa k,aa o] w c)=(
 aK w ⟨[aa k]⟩ 3 λb a=>aK a ⟨[aa o]⟩ 3 λd a=>aD AC 190 (.el aV) [ag p,aa f,.func (.func 191) ⟨[]⟩ {toList:=[ag (ae b),ag (ae d)]}] a λ(x:Int) a=>ao a (c x)):=by kernel_rfl
theorem UD (p:Option Ab) (f x:Int) (w:A2) (c:Int->A2->Prop):(aN E0 (λ_=>[]) 183 [ag p,aa f,aa x] w c)=(
 aK w ⟨[aa x]⟩ 3 λb a=>aD AC 190 (.el aV) [ag p,aa f,.func (.func 227) ⟨[]⟩ {toList:=[ag (ae b)]}] a λ(x:Int) a=>ao a (c x)):=by kernel_rfl
theorem UE (p:Option Ab) (f:Int) (w:A2) (a:Int->A2->Prop):(aN E0 (λ_=>[]) 79 [ag p,aa f] w a)=(
 aD AC 138 (.el aV) [ag p,aa f,aa 0,aa 0] w λ(x:Int) b=>ao b (a x)):=by kernel_rfl
theorem Za (p:Option Ab) (f:Int) (w:A2) (c:(Int×Int×Int×Int×Unit)×Bool×Unit->A2->Prop):(bQ E0 (λ_=>[]) 25 [ag p,aa f] w c)=(
 aK w ⟨[aa 0,aa 0,aa 0,aa 0]⟩ 52 λb a=> ∃(x:Int),((!decide (f<0))=true->ah AC 62 [ag p] a (aa x))/\aL (decide (f<0)||decide (f>=x)) (aC a (ae b) [aa 0,aa 0,aa 0,aa 0] λa=>ao a λw1=>aj w1 none (ae b) dO λ(x:Int×Int×Int×Int×Unit)=>c ((x.1,x.2.1,x.2.2.1,x.2.2.2.1,()),false,()) w1) (fC p 0 a λx=>(x.1.isSome=true/\0<=f/\f<(↑x.2.1:Int))/\aj a none (ad x.1 (f.toNat*4)) dO λ(x:Int×Int×Int×Int×Unit)
 =>aC a (ae b) [aa x.1,aa x.2.1,aa x.2.2.1,aa x.2.2.2.1] λa=>ao a λw1=>aj w1 none (ae b) dO λ(x:Int×Int×Int×Int×Unit)=>c ((x.1,x.2.1,x.2.2.1,x.2.2.2.1,()),true,()) w1)):=by kernel_rfl
theorem Cc (n:Int) (w:A2) (a:Option Ab×Int×Unit->A2->Prop):(aN E0 (λ_=>[]) 72 [aa n] w a)=(
 aL (decide (n<1)||decide (n>4096)) (ao w (a (none,1,()))) (E7 w 32 4 n n ⟨[aa 0,aa 0,aa 0,aa 0]⟩ 52 λb c=>aK c {toList:=[.slice (ae b) n.toNat n.toNat]} 137 λb c=>ao c (a (some ⟨b,0,none⟩,0,())))):=by kernel_rfl
theorem UF (p:Option Ab) (w:A2) (a:Option Ab->A2->Prop):(aN E0 (λ_=>[]) 54 [ag p] w a)=(
 ∃(x:Int),ah AC 62 [ag p] w (aa x)/\aL (x==0) (ao w (a none)) (fC p 0 w λx=> ∀w1,Ext w w1->m7 w1 52 4 32 ⟨[aa 0,aa 0,aa 0,aa 0]⟩ (none,0,0) (x.1,x.2.1,x.2.2) λ(r:Option Ab×Nat×Nat) c=>aK c ⟨[.slice r.1 r.2.1 r.2.2]⟩ 137 λb c=>ao c (a (ae b)))):=by kernel_rfl
def tN:Nat->aZ:=(λ|3=>[(9,.one (.int .i64))]| _=>[])
theorem QN (p:Option Ab) (k:Int) (w:A2) (d:Int->A2->Prop):(bQ E0 tN 30 [ag p,aa k] w d)=(
 aK w ⟨[aa 0]⟩ 3 λb c=>aC c (ae b) [aa 0] λc=>aD AC 65 (.el (.one (.zF 146 2))) [ag p,aa k] c λx c=>zz AC 146 (λ(y:Nat)=>[.func (Fn.yield y) ⟨[]⟩ ⟨[]⟩,ag x.1,ag x.2.1]) ⟨[9]⟩ c (λ(x:Int×Unit)=>[aa x.1]) (λ(l:Nat) (rec:Loop) (x:Int×Unit) e (R:Bool->A2->Prop)=>CQ l rec [aa x.1].length 1 e (Bu l rec e λa=>aU a (ae b) λx=>aC a (ae b) [aa (aB .i64 x 1)] λc=>
 rY l rec none c R)) λ(r:Nat) (rec:Loop) f=>dv (r+1) rec f (λa=>aU a (ae b) λx=>rZ [r] a λw1=>d x w1) (λ(id:Nat) a=>Decidable.rec (λ(h:id=0->False)=>False) (λ(h:id=0)=>aU a (ae b) λx=>rZ [r] a λw1=>d x w1) (match h:id.beq 0 with|true=>isTrue (H5 h)|false=>isFalse (H6 h))) λa=>rZ [r] a λw1=>d 0 w1):=by kernel_rfl
def tO:Nat->aZ:=(λ|4=>[(10,.one (.int .i64))]| _=>[])
theorem QO (p:Option Ab) (k:Int) (w:A2) (d:Option Ab×Nat×Nat->A2->Prop):(bQ E0 tO 166 [ag p,aa k] w d)=(
 aK w ⟨[aa k]⟩ 3 λb a=>aK a ⟨[.slice none 0 0]⟩ 39 λe a=>aD AC 104 (.el (.one (.zF 146 2))) [ag p,.func (.func 207) ⟨[]⟩ {toList:=[ag (ae b)]}] a λx a=>zz AC 146 (λ(y:Nat)=>[.func (Fn.yield y) ⟨[]⟩ ⟨[]⟩,ag x.1,ag x.2.1]) ⟨[10]⟩ a (λ(x:Int×Unit)=>[aa x.1]) (λ(l:Nat) (rec:Loop) (x:Int×Unit) g (R:Bool->A2->Prop)=>CQ l rec [aa x.1].length 1 g (Bu l rec g λc=>sw c (ae e) λf=>aK c ⟨[aa x.1]⟩
 3 λb a=> ∀w1,Ext a w1->m7 w1 3 1 8 ⟨[aa 0]⟩ (f.1,f.2.1,f.2.2) (some ⟨b,0,none⟩,1,1) λ(r:Option Ab×Nat×Nat) a=>aC a (ae e) [.slice r.1 r.2.1 r.2.2] λa=>rY l rec none a R)) λ(r:Nat) (rec:Loop) i=>dv (r+1) rec i (λc=>sw c (ae e) λx=>rZ [r] c λw1=>d (x.1,x.2.1,x.2.2) w1) (λ(id:Nat) c=>Decidable.rec (λ(h:id=0->False)=>False) (λ(h:id=0)=>sw c (ae e) λx=>rZ [r] c λw1=>d (x.1,
 x.2.1,x.2.2) w1) (match h:id.beq 0 with|true=>isTrue (H5 h)|false=>isFalse (H6 h))) λc=>rZ [r] c λw1=>d (none,0,0) w1):=by kernel_rfl
def vT:Nat->aZ:=(λ|5=>[(15,.one (.int .i64))]| _=>[])
theorem UG (p:Option Ab) (k o:Int) (w:A2) (g:Int×Int×Unit->A2->Prop):(bQ E0 vT 172 [ag p,aa k,aa o] w g)=(
 aK w ⟨[ag p]⟩ 36 λb a=>aK a ⟨[aa k]⟩ 3 λn a=>aK a ⟨[aa o]⟩ 3 λq a=>aK a ⟨[aa 0]⟩ 3 λd a=>aK a ⟨[aa 0]⟩ 46 λe a=>fR a (ae b) λx=> ∃(i:Int),ah AC 62 [ag x] a (aa i)/\aL (i==0) (aC a (ae d) [aa 0] λa=>aC a (ae e) [aa 10] λa=>ao a λw1=>aU w1 (ae d) λx=>aU w1 (ae e) λf=>
 g (x,f,()) w1) (fR a (ae b) λx=>aD AC 65 (.el (.one (.zF 146 2))) [ag x,aa 0] a λx a=>zz AC 146 (λ(y:Nat)=>[.func (Fn.yield y) ⟨[]⟩ ⟨[]⟩,ag x.1,ag x.2.1]) ⟨[15]⟩ a (λ(x:Int×Unit)=>[aa x.1]) (λ(l:Nat) (rec:Loop) (x:Int×Unit) j (R:Bool->A2->Prop)=>CQ l rec [aa x.1].length 1 j (Bu l rec j λc=>fR c (ae b) λf=>aU c (ae n) λs=>aj c none
 (ae q) aV λ(t:Int)=>aD AC 138 (.el aV) [ag f,aa x.1,aa s,aa t] c λ(m:Int) a=>aL (m != 0) (aC a (ae d) [aa 0] λa=>aC a (ae e) [aa m] λa=>rY l rec (some Code.ret) a R) (aC a (ae d) [aa x.1] λa=>aC a (ae e) [aa 0] λa=>rY l rec (some Code.ret) a R))) λ(r:Nat) (rec:Loop) u=>dv (r+1) rec u (λc=>aC c (ae d) [aa 0]
 λa=>aC a (ae e) [aa 12] λa=>rZ [r] a λw1=>aU w1 (ae d) λx=>aU w1 (ae e) λf=>g (x,f,()) w1) (λ(id:Nat) c=>Decidable.rec (λ(h:id=0->False)=>False) (λ(h:id=0)=>aC c (ae d) [aa 0] λa=>aC a (ae e) [aa 12] λa=>rZ [r] a λw1=>aU w1 (ae d) λx=>aj w1 none (ae e) aV
 λ(f:Int)=>g (x,f,()) w1) (match h:id.beq 0 with|true=>isTrue (H5 h)|false=>isFalse (H6 h))) λc=>rZ [r] c λw1=>aU w1 (ae d) λx=>aU w1 (ae e) λf=>g (x,f,()) w1)):=by kernel_rfl
abbrev sD:List Sc:=[.int .i64,.int .i64,.int .i64,.int .i64]
abbrev eD:El:= .agg sD
abbrev DT:Type:=Int×Int×Int×Int×Unit
def zD:DT:=(0,0,0,0,())
theorem rH {w:A2} {bp n c:Nat} {a:Option Ab} (h:bM w bp [.slice a n c]):aE AC 62 (.el (.one (.int .i64))) [ag (ae bp)] w (λx w'=>x=(n:Int)/\Ext w w'):=by
 refine ai (Ae (Y_ _ w _) ?_);have H:=At.start [] w;refine an rfl ⟨rfl,rfl,aj.kR H h (by simp) rfl ?_⟩
 grind
theorem Zb {w:A2} {kc:Nat} {v:Int} (h:bM w kc [aa v]) (d:DT):aE AC 105 (.el (.one .bool)) [.agg ⟨bj sD d⟩,ag (ae kc)] w (λx w'=>x=(d.1==v)/\Ext w w'):=by
 obtain⟨k,o,r,e,u⟩:=d;refine ai (C:=E0) (aT:=λ_=>[]) (Ae (Y' k o r e _ w _) ?_);have H:=At.start [] w
 repeat' (first
  |refine aj.fa H h (by simp) rfl ?_
  |exact Go.RX.aJ.all H
  |simp
  |refine aj.at 0 H rfl rfl ?_
  |refine aK.go H λb w1 H=>?_
  |with_reducible refine ao.go H λw1 H=>?_
  |refine j8 ?_
  )
theorem KM {w:A2} {kc:Nat} {v:Int} (h:bM w kc [aa v]) (d:DT):aE AC 207 (.el (.one .bool)) [.agg ⟨bj sD d⟩,ag (ae kc)] w (λx w'=>x=(d.2.1==v)/\Ext w w'):=by
 obtain⟨k,o,r,e,u⟩:=d;refine ai (C:=E0) (aT:=λ_=>[]) (Ae (KJ k o r e _ w _) ?_);have H:=At.start [] w
 repeat' (first
  |refine aj.fa H h (by simp) rfl ?_
  |exact Go.RX.aJ.all H
  |simp
  |refine aj.at 0 H rfl rfl ?_
  |refine aK.go H λb w1 H=>?_
  |with_reducible refine ao.go H λw1 H=>?_
  |refine j8 ?_
  )
section
variable {D G:List Nat} {w0 w:A2} {L:List (Nat×List Ad)}
theorem sL (H:aJ D G w0 w L) (p:Option Ab) (k:Int) {K:Option Ab×Option Ab×Unit->A2->Prop}
 (b: ∀pc ic kc w1,aJ D G w0 w1 ((ic,[.func (.func 105) #[] #[ag (ae kc)]])::(pc,[ag p])::(kc,[aa k])::L)->K (some ⟨pc,0,none⟩,some ⟨ic,0,none⟩,()) w1):
 aD AC 65 aap [ag p,aa k] w K:=by
 refine aD.go H λw1 H=>ai (Ae (aa1 p k w1 K) ?_);refine aK.go H λkc c H=>aD.go H λa H=>ai (Ae (UA p _ a _) ?_);refine aK.go H λpc d H=>aK.go H λic e H=>ao.go H λf H=>ao.go H λH=>?_
 grind
theorem UH (H:aJ D G w0 w L) (p c:Option Ab) {K:Option Ab×Option Ab×Unit->A2->Prop}
 (a: ∀pc ic w1,aJ D G w0 w1 ((ic,[.func (.func 207) #[] #[ag c]])::(pc,[ag p])::L)->K (some ⟨pc,0,none⟩,some ⟨ic,0,none⟩,()) w1):
 aD AC 104 aap [ag p,.func (.func 207) #[] #[ag c]] w K:=by
 refine aD.go H λw1 H=>ai (Ae (QK p c w1 K) ?_);refine aK.go H λpc b H=>aK.go H λic d H=>ao.go H λH=>?_
 grind
end
def OE (fn:FuncId) (pc ic kc bp bf c:Nat) (v:Int) (ds:List DT) (rest:List Ad) (w:A2):Prop:=
 bM w pc [ag (ae bp)]/\bM w ic [.func (.func fn) #[] #[ag (ae kc)]]/\bM w kc [aa v]/\bM w bp [.slice (ae bf) ds.length c]/\bM w bf (flat eD ds++rest)
theorem DR {pc ic kc bp bf c:Nat} {v:Int} {ds:List DT} {rest:List Ad} (L:ds.length<=4096):
 Tx AC 146 (λy=>[.func (.yield y) #[] #[],ag (ae pc),ag (ae ic)]) ds.length
  (λi=>match ds[i]? with
   |some d=>if d.1=v then some [aa (i:Nat)] else none
   |none=>none) (OE 105 pc ic kc bp bf c v ds rest):=by
 intro y w J z a A m M B h0;have key:aE AC 146 (pL E1 146) [.func (.yield y) #[] #[],ag (ae pc),ag (ae ic)] w (λ_ w'=>J ds.length w'\/z w'):=by
  refine ai (C:=E1) (aT:=tM) (Ae (QL y _ _ w _) ?_);obtain⟨s1,s2,s3,o,p⟩:=m 0 w h0;refine aj.of _ (s1.lM rfl) (an rfl (aj.of _ (s1.lM rfl) ⟨rfl,rfl,aj.of (some ⟨bf,0,none⟩,ds.length,c) (by rw[aR];exact o.lM rfl) ?_⟩));refine⟨λn s w'=> ∃i:Nat,s.1=i/\n+i=ds.length/\J i w',⟨ds.length,λw1 h1=>⟨0,rfl,rfl,a _ _ _ h0 h1⟩⟩,?_⟩;rintro n ⟨N,u⟩ w1 ⟨i,hi,O,f⟩;simp only at hi;subst hi;dsimp only;refine ab (λc=>?_) (λc=>?_)
  ·have q:i<ds.length:=by simp only[decide_eq_true_eq] at c;omega
   obtain⟨s1,s2,s3,o,p⟩:=m i w1 f;have h:ds[i]? =some ds[i]:=B1 q;refine⟨⟨rfl,by omega,by omega⟩,aj.of ds[i] (eh p h) ?_⟩;have H:=At.start [] w1;have next: ∀w',J (i+1) w'-> ∀g,Ext w' g-> ∃r,r<n/\ ∃j:Nat,aB .i64 (i:Nat) 1=j/\r+j=ds.length/\J j g:=λw' k g l=>
    ⟨n - 1,by omega,i+1,by rw[ax (by omega) (by omega)];rfl,by omega,a _ _ _ k l⟩
   generalize D:ds[i]=d;rw[D] at h;refine aK.go H λb t H=>aC.all 0 H rfl rfl rfl λt H=>aj.of (some ⟨kc,0,none⟩,()) ((H.fa s2 (by simp)).lM rfl) (aj.at 0 H rfl rfl ?_);have E:=a _ _ _ f H.all;refine⟨d.1==v,ah.of (s:= .el (.one .bool)) λw' h'=>Zb ((H.fa s3 (by simp)).ext h') d,ab (λc=>λg l=>?_) (λc=>?_)⟩
   ·refine B i _ q (by simp only[h];rw[az (by simpa using c)]) g _ (a _ _ _ E l) (λw' k=>?_) (λw' F=>?_)
    ·exact an rfl (next w' k)
    ·exact aF rfl λP G=> .inr (A _ _ F G)
   ·exact next _ (by grind)
  ·have:i=ds.length:=by simp only[decide_eq_false_iff_not] at c;omega
   subst this;exact λt I=> .inl (a _ _ _ f I)
 exact Calls.mono key λe w' ⟨x,K,f⟩=>⟨_,K,f⟩
theorem QP {pc ic kc bp bf c:Nat} {v:Int} {ds:List DT} {rest:List Ad} (L:ds.length<=4096):
 Tx AC 146 (λy=>[.func (.yield y) #[] #[],ag (ae pc),ag (ae ic)]) ds.length
  (λi=>match ds[i]? with
   |some d=>if d.2.1=v then some [aa (i:Nat)] else none
   |none=>none) (OE 207 pc ic kc bp bf c v ds rest):=by
 intro y w J z a A m M B h0;have key:aE AC 146 (pL E2 146) [.func (.yield y) #[] #[],ag (ae pc),ag (ae ic)] w (λ_ w'=>J ds.length w'\/z w'):=by
  refine ai (C:=E2) (aT:=qP) (Ae (KK y _ _ w _) ?_);obtain⟨s1,s2,s3,o,p⟩:=m 0 w h0;refine aj.of _ (s1.lM rfl) (an rfl (aj.of _ (s1.lM rfl) ⟨rfl,rfl,aj.of (some ⟨bf,0,none⟩,ds.length,c) (by rw[aR];exact o.lM rfl) ?_⟩));refine⟨λn s w'=> ∃i:Nat,s.1=i/\n+i=ds.length/\J i w',⟨ds.length,λw1 h1=>⟨0,rfl,rfl,a _ _ _ h0 h1⟩⟩,?_⟩;rintro n ⟨N,u⟩ w1 ⟨i,hi,O,f⟩;simp only at hi;subst hi;dsimp only;refine ab (λc=>?_) (λc=>?_)
  ·have q:i<ds.length:=by simp only[decide_eq_true_eq] at c;omega
   obtain⟨s1,s2,s3,o,p⟩:=m i w1 f;have h:ds[i]? =some ds[i]:=B1 q;refine⟨⟨rfl,by omega,by omega⟩,aj.of ds[i] (eh p h) ?_⟩;have H:=At.start [] w1;have next: ∀w',J (i+1) w'-> ∀g,Ext w' g-> ∃r,r<n/\ ∃j:Nat,aB .i64 (i:Nat) 1=j/\r+j=ds.length/\J j g:=λw' k g l=>
    ⟨n - 1,by omega,i+1,by rw[ax (by omega) (by omega)];rfl,by omega,a _ _ _ k l⟩
   generalize D:ds[i]=d;rw[D] at h;refine aK.go H λb t H=>aC.all 0 H rfl rfl rfl λt H=>aj.of (some ⟨kc,0,none⟩,()) ((H.fa s2 (by simp)).lM rfl) (aj.at 0 H rfl rfl ?_);have E:=a _ _ _ f H.all;refine⟨d.2.1==v,ah.of (s:= .el (.one .bool)) λw' h'=>KM ((H.fa s3 (by simp)).ext h') d,ab (λc=>λg l=>?_) (λc=>?_)⟩
   ·refine B i _ q (by simp only[h];rw[az (by simpa using c)]) g _ (a _ _ _ E l) (λw' k=>?_) (λw' F=>?_)
    ·exact an rfl (next w' k)
    ·exact aF rfl λP G=> .inr (A _ _ F G)
   ·exact next _ (by grind)
  ·have:i=ds.length:=by grind
   subst this;exact λt I=> .inl (a _ _ _ f I)
 exact Calls.mono key λe w' ⟨x,K,f⟩=>⟨_,K,f⟩
def aP (k o:Int) (d:DT):DT×Int:=((mF d.1 d.2.1 d.2.2.1 d.2.2.2.1 k o,kV d.1 d.2.1 d.2.2.1 d.2.2.2.1 k o,0,0,()),gN d.1 d.2.1 d.2.2.1 d.2.2.2.1 k o)
def gX (x:Int) (d:DT):DT×Int:=(qt d.1 d.2.1 d.2.2.1 d.2.2.2.1 x,wK d.1 d.2.1 d.2.2.1 d.2.2.2.1 x)
def vd (ds:List DT) (f:Int) (g:DT->DT×Int):Int:=if ds.length=0 then 10 else if f<0\/f>=ds.length then 2 else(g (ds.getD f.toNat zD)).2
def dF (ds:List DT) (f:Int) (g:DT->DT×Int):List DT:=if f<0\/f>=ds.length then ds else if(g (ds.getD f.toNat zD)).2=0 then ds.set f.toNat (g (ds.getD f.toNat zD)).1 else ds
theorem AT {ds:List DT} (h:ds.length=0) (f:Int) (g:DT->DT×Int):vd ds f g=10:=az h
theorem AU {ds:List DT} (h:ds.length=0) (f:Int) (g:DT->DT×Int):dF ds f g=ds:=az (by omega)
theorem ID {ds:List DT} (h:ds.length≠0) {f:Int} (h1:f<0\/f>=ds.length) (g:DT->DT×Int):vd ds f g=2:=by grind[vd]
theorem xe {ds:List DT} {f:Int} (h1:f<0\/f>=ds.length) (g:DT->DT×Int):dF ds f g=ds:=az h1
theorem ym {ds:List DT} {f:Int} (h1:0<=f/\f<ds.length) (g:DT->DT×Int):vd ds f g=(g (ds.getD f.toNat zD)).2:=by grind[vd]
theorem o_ {ds:List DT} {f:Int} (h1:0<=f/\f<ds.length) (g:DT->DT×Int):dF ds f g=if(g (ds.getD f.toNat zD)).2=0 then ds.set f.toNat (g (ds.getD f.toNat zD)).1 else ds:=by grind[dF]
theorem iY (ds:List DT) (f:Int) (g:DT->DT×Int):(dF ds f g).length=ds.length:=by grind[dF]
theorem QQ {w:A2} {kc oc:Nat} {k o:Int} (f:bM w kc [aa k]) (g:bM w oc [aa o]) (d:DT):aE AC 191 (.bu [eD,.one (.int .i64)]) [.agg ⟨bj sD d⟩,ag (ae kc),ag (ae oc)] w
 (λv w'=>v=((aP k o d).1,(aP k o d).2,())/\Ext w w'):=by
 obtain⟨a,b,c,e,u⟩:=d;refine aQ (C:=E0) (aT:=λ_=>[]) (Ae (QM a b c e _ _ w _) ?_);have H:=At.start [] w
 repeat' (first
  |refine aj.fa H f (by simp) rfl ?_
  |refine aj.fa H g (by simp) rfl ?_
  |exact Go.RX.aJ.all H
  |exact B2 (by first|rfl|decide+kernel) (Go.RX.aJ.all H)
  |refine B2 (by simp) ?_
  |refine aj.bP 0 H rfl rfl ?_
  |refine aj.bP 1 H rfl rfl ?_
  |refine aj.at 0 H rfl rfl ?_
  |refine aj.at 1 H rfl rfl ?_
  |refine aK.go H λb w1 H=>?_
  |refine aC.all 0 H rfl rfl rfl λw1 H=>?_
  |refine aC.all 1 H rfl rfl rfl λw1 H=>?_
  |refine aC.fb 0 H rfl rfl rfl λw1 H=>?_
  |with_reducible refine ao.go H λw1 H=>?_
  |refine j8 ?_
  |refine aF (by assumption) ?_
  |refine an (by assumption) ?_
  )
theorem UI {w:A2} {kc:Nat} {k:Int} (f:bM w kc [aa k]) (hi: -9223372036854775808<=k/\k<9223372036854775808) (d:DT):aE AC 227 (.bu [eD,.one (.int .i64)]) [.agg ⟨bj sD d⟩,ag (ae kc)] w
 (λv w'=>v=((gX k d).1,(gX k d).2,())/\Ext w w'):=by
 obtain⟨a,b,c,e,u⟩:=d;refine aQ (C:=E0) (aT:=λ_=>[]) (Ae (UB a b c e _ w _) ?_);have H:=At.start [] w
 repeat' (first
  |refine aj.fa H f (by simp) rfl ?_
  |refine B2 hi ?_
  |exact Go.RX.aJ.all H
  |exact B2 (by first|rfl|decide+kernel) (Go.RX.aJ.all H)
  |refine aj.bP 0 H rfl rfl ?_
  |refine aj.bP 1 H rfl rfl ?_
  |refine aj.at 0 H rfl rfl ?_
  |refine aj.at 1 H rfl rfl ?_
  |refine aK.go H λb w1 H=>?_
  |refine aC.all 0 H rfl rfl rfl λw1 H=>?_
  |refine aC.all 1 H rfl rfl rfl λw1 H=>?_
  |with_reducible refine ao.go H λw1 H=>?_
  |refine j8 ?_
  |refine aF (by assumption) ?_
  |refine an (by assumption) ?_
  )
theorem GF {w:A2} {bp bf c kc oc:Nat} {k o:Int} {ds:List DT} {rest:List Ad} (a:bM w bp [.slice (ae bf) ds.length c]) (q:bM w bf (flat eD ds++rest)) (r:bp≠bf) (B:ds.length<=4096) (t:bM w kc [aa k]) (u:bM w oc [aa o]) (v:kc≠bf) (x:oc≠bf) (f:Int):
 aE AC 190 (.el (.one (.int .i64))) [ag (ae bp),aa f,.func (.func 191) #[] #[ag (ae kc),ag (ae oc)]] w
  (λe w'=>e=vd ds f (aP k o)/\bM w' bf (flat eD (dF ds f (aP k o))++rest)/\Fr [bf] w w'):=by
 refine ai (C:=E0) (aT:=λ_=>[]) (Ae (KL _ f _ _ w _) ?_);have H:=At.rE q;have g:bp∉[bf]:=by simpa using r
 refine⟨(ds.length:Int),ah.of (s:= .el (.one (.int .i64))) λw' h=>rH (a.ext h),ab (λc0=>ao.go H λw1 H=>?_) (λc0=>⟨λ_=>rfl,λ_=>rfl,aj.kR H a g rfl (ab (λc1=>ao.go H λw1 H=>?_) (λc1=>?_))⟩)⟩
 ·have h0:ds.length=0:=by simp only[beq_iff_eq] at c0;omega
  exact⟨(AT h0 f _).symm,by rw[AU h0];exact H.get (i:=0) rfl,H.fr⟩
 ·have h0:ds.length≠0:=by simp only[beq_eq_false_iff_ne,ne_eq] at c0;omega
  have h1:f<0\/f>=ds.length:=by simpa using c1
  exact⟨(ID h0 h1 _).symm,by rw[xe h1];exact H.get (i:=0) rfl,H.fr⟩
 ·have h1:0<=f/\f<ds.length:=by grind
  have n:f.toNat<ds.length:=by omega
  have p:ds[f.toNat]? =some ds[f.toNat]:=B1 n;have y:ds.getD f.toNat zD=ds[f.toNat]:=by rw[B4,p];rfl
  have j:=ym h1 (aP k o);have l:=o_ h1 (aP k o);rw[y] at j l;generalize D:ds[f.toNat]=d at*
  refine⟨rfl,rfl,aj.kR H a g rfl ⟨⟨rfl,h1.1,h1.2⟩,aj.of d (eh (H.get (i:=0) rfl) p) ?_⟩⟩;refine aD.val H (s:= .bu [eD,.one (.int .i64)]) (((aP k o) d).1,((aP k o) d).2,()) (λw1 H=>QQ (H.fa t (by simpa using v)) (H.fa u (by simpa using x)) d) λw1 H=>?_;refine aK.go H λb z H=>aC.all 0 H rfl rfl rfl λz H=>ab (λc2=>⟨rfl,rfl,aj.kR H a g rfl (aj.at 0 H rfl rfl ⟨⟨rfl,h1.1,h1.2⟩,?_⟩)⟩) (λc2=>ao.go H λA H=>?_)
  ·have m:((aP k o) d).2=0:=by simpa using c2
   refine aC.flat (e:=eD) 1 H (xs:=ds) (rest:=rest) ((aP k o) d).1 rfl rfl rfl n λA H=>ao.go H λE H=>?_;exact⟨j.symm,by rw[l,az m];exact H.get (i:=1) rfl,H.fr⟩
  ·have m: ¬ ((aP k o) d).2=0:=by simpa using c2
   exact⟨j.symm,by rw[l,au m];exact H.get (i:=1) rfl,H.fr⟩
theorem GG {w:A2} {bp bf c kc:Nat} {k:Int} {ds:List DT} {rest:List Ad} (a:bM w bp [.slice (ae bf) ds.length c]) (p:bM w bf (flat eD ds++rest)) (q:bp≠bf) (y:ds.length<=4096) (r:bM w kc [aa k]) (t:kc≠bf) (hi: -9223372036854775808<=k/\k<9223372036854775808) (f:Int):
 aE AC 190 (.el (.one (.int .i64))) [ag (ae bp),aa f,.func (.func 227) #[] #[ag (ae kc)]] w
  (λe w'=>e=vd ds f (gX k)/\bM w' bf (flat eD (dF ds f (gX k))++rest)/\Fr [bf] w w'):=by
 refine ai (C:=E0) (aT:=λ_=>[]) (Ae (GD _ f _ w _) ?_);have H:=At.rE p;have g:bp∉[bf]:=by simpa using q
 refine⟨(ds.length:Int),ah.of (s:= .el (.one (.int .i64))) λw' h=>rH (a.ext h),ab (λc0=>ao.go H λw1 H=>?_) (λc0=>⟨λ_=>rfl,λ_=>rfl,aj.kR H a g rfl (ab (λc1=>ao.go H λw1 H=>?_) (λc1=>?_))⟩)⟩
 ·have h0:ds.length=0:=by simp only[beq_iff_eq] at c0;omega
  exact⟨(AT h0 f _).symm,by rw[AU h0];exact H.get (i:=0) rfl,H.fr⟩
 ·have h0:ds.length≠0:=by simp only[beq_eq_false_iff_ne,ne_eq] at c0;omega
  have h1:f<0\/f>=ds.length:=by simpa using c1
  exact⟨(ID h0 h1 _).symm,by rw[xe h1];exact H.get (i:=0) rfl,H.fr⟩
 ·have h1:0<=f/\f<ds.length:=by grind
  have n:f.toNat<ds.length:=by omega
  have o:ds[f.toNat]? =some ds[f.toNat]:=B1 n;have u:ds.getD f.toNat zD=ds[f.toNat]:=by rw[B4,o];rfl
  have j:=ym h1 (gX k);have l:=o_ h1 (gX k);rw[u] at j l;generalize z:ds[f.toNat]=d at*
  refine⟨rfl,rfl,aj.kR H a g rfl ⟨⟨rfl,h1.1,h1.2⟩,aj.of d (eh (H.get (i:=0) rfl) o) ?_⟩⟩;refine aD.val H (s:= .bu [eD,.one (.int .i64)]) (((gX k) d).1,((gX k) d).2,()) (λw1 H=>UI (H.fa r (by simpa using t)) hi d) λw1 H=>?_;refine aK.go H λb v H=>aC.all 0 H rfl rfl rfl λv H=>ab (λc2=>⟨rfl,rfl,aj.kR H a g rfl (aj.at 0 H rfl rfl ⟨⟨rfl,h1.1,h1.2⟩,?_⟩)⟩) (λc2=>ao.go H λx H=>?_)
  ·have m:((gX k) d).2=0:=by simpa using c2
   refine aC.flat (e:=eD) 1 H (xs:=ds) (rest:=rest) ((gX k) d).1 rfl rfl rfl n λx H=>ao.go H λA H=>?_;exact⟨j.symm,by rw[l,az m];exact H.get (i:=1) rfl,H.fr⟩
  ·have m: ¬ ((gX k) d).2=0:=by simpa using c2
   exact⟨j.symm,by rw[l,au m];exact H.get (i:=1) rfl,H.fr⟩
theorem Cd {w:A2} {bp bf c:Nat} {ds:List DT} {rest:List Ad} (a:bM w bp [.slice (ae bf) ds.length c]) (b:bM w bf (flat eD ds++rest)) (d:bp≠bf) (g:ds.length<=4096) (f k o:Int):
 aE AC 138 (.el (.one (.int .i64))) [ag (ae bp),aa f,aa k,aa o] w (λe w'=>e=vd ds f (aP k o)/\bM w' bf (flat eD (dF ds f (aP k o))++rest)/\Fr [bf] w w'):=by
 refine ai (Ae (UC _ f k o w _) ?_);have H:=At.rE b;have h:bp∉[bf]:=by simpa
 refine aK.go H λkc w1 H=>aK.go H λoc m H=>?_;refine aD.C_ H 2 rfl (λl H=>GF (H.fa a h) (H.get (i:=2) rfl) d g (H.get (i:=1) rfl) (H.get (i:=0) rfl) (H.ne (i:=1) (j:=2) rfl rfl (by decide)) (H.ne (i:=0) (j:=2) rfl rfl (by decide)) f) λl H=>ao.go H λn H=>?_;exact⟨rfl,H.get (i:=2) rfl,H.fr⟩
theorem UJ {w:A2} {bp bf c:Nat} {ds:List DT} {rest:List Ad} (a:bM w bp [.slice (ae bf) ds.length c]) (b:bM w bf (flat eD ds++rest)) (d:bp≠bf) (g:ds.length<=4096) (f x:Int) (hi: -9223372036854775808<=x/\x<9223372036854775808):
 aE AC 183 (.el (.one (.int .i64))) [ag (ae bp),aa f,aa x] w (λe w'=>e=vd ds f (gX x)/\bM w' bf (flat eD (dF ds f (gX x))++rest)/\Fr [bf] w w'):=by
 refine ai (Ae (UD _ f x w _) ?_);have H:=At.rE b;have h:bp∉[bf]:=by grind
 refine aK.go H λkc w1 H=>?_;refine aD.C_ H 1 rfl (λk H=>GG (H.fa a h) (H.get (i:=1) rfl) d g (H.get (i:=0) rfl) (H.ne (i:=0) (j:=1) rfl rfl (by decide)) hi f) λk H=>ao.go H λl H=>?_;exact⟨rfl,H.get (i:=1) rfl,H.fr⟩
theorem UK {w:A2} {bp bf c:Nat} {ds:List DT} {rest:List Ad} (a:bM w bp [.slice (ae bf) ds.length c]) (b:bM w bf (flat eD ds++rest)) (d:bp≠bf) (g:ds.length<=4096) (f:Int):
 aE AC 79 (.el (.one (.int .i64))) [ag (ae bp),aa f] w (λe w'=>e=vd ds f (aP 0 0)/\bM w' bf (flat eD (dF ds f (aP 0 0))++rest)/\Fr [bf] w w'):=by
 refine ai (Ae (UE _ f w _) ?_);have H:=At.rE b;have h:bp∉[bf]:=by grind
 refine aD.C_ H 0 rfl (λj H=>Cd (H.fa a h) (H.get (i:=0) rfl) d g f 0 0) λj H=>ao.go H λk H=>?_;exact⟨rfl,H.get (i:=0) rfl,H.fr⟩
def qp (ds:List DT) (f:Int):DT:=if f<0\/f>=ds.length then zD else ds.getD f.toNat zD
def By (ds:List DT) (f:Int):Bool:= !(decide (f<0\/f>=ds.length))
theorem OF {w:A2} {bp bf c:Nat} {ds:List DT} {rest:List Ad} (e:bM w bp [.slice (ae bf) ds.length c]) (i:bM w bf (flat eD ds++rest)) (f:Int):
 aE AC 25 (.bu [eD,.one .bool]) [ag (ae bp),aa f] w (λv w'=>v=(qp ds f,By ds f,())/\Ext w w'):=by
 refine aQ (C:=E0) (aT:=λ_=>[]) (Ae (Za _ f w _) ?_);have H:=At.start [] w;refine aK.go H λb w1 H=>⟨(ds.length:Int),λ_=>ah.of (s:= .el (.one (.int .i64))) λw' h=>rH ((H.fa e (by simp)).ext h),ab (λc1=>?_) (λc1=>?_)⟩
 ·have h1:f<0\/f>=ds.length:=by simpa using c1
  have a:qp ds f=zD:=az h1;have d:By ds f=false:=by unfold By;simp[h1]
  rw[a,d]
  repeat' (first
   |exact Go.RX.aJ.all H
   |exact B2 (by first|rfl|decide+kernel) (Go.RX.aJ.all H)
   |refine aj.bP 0 H rfl rfl ?_
   |refine aj.at 0 H rfl rfl ?_
   |refine aK.go H λb w1 H=>?_
   |refine aC.all 0 H rfl rfl rfl λw1 H=>?_
   |refine aC.fb 0 H rfl rfl rfl λw1 H=>?_
   |refine aC.one 0 H rfl rfl rfl λw1 H=>?_
   |with_reducible refine ao.go H λw1 H=>?_
   |refine j8 ?_
   |refine aF (by assumption) ?_
   |refine an (by assumption) ?_
   |refine ab (λc=>?_) (λc=>?_))
 ·have h1: ¬ (f<0\/f>=ds.length):=by
   grind
  have j:f.toNat<ds.length:=by omega
  have g:ds[f.toNat]? =some ds[f.toNat]:=B1 j;have k:ds.getD f.toNat zD=ds[f.toNat]:=by rw[B4,g];rfl
  have a:qp ds f=ds[f.toNat]:=by unfold qp;rw[au h1,k]
  have d:By ds f=true:=by unfold By;simp[h1]
  rw[a,d];refine⟨rfl,rfl,aj.kR H e (by simp) rfl ⟨by grind,aj.of ds[f.toNat] (eh (H.fa i (by simp)) g) ?_⟩⟩
  repeat' (first
   |exact Go.RX.aJ.all H
   |exact B2 (by first|rfl|decide+kernel) (Go.RX.aJ.all H)
   |grind
   |refine aj.bP 0 H rfl rfl ?_
   |refine aj.at 0 H rfl rfl ?_
   |refine aK.go H λb w1 H=>?_
   |refine aC.all 0 H rfl rfl rfl λw1 H=>?_
   |refine aC.fb 0 H rfl rfl rfl λw1 H=>?_
   |refine aC.one 0 H rfl rfl rfl λw1 H=>?_
   |with_reducible refine ao.go H λw1 H=>?_
   |refine j8 ?_
   |refine aF (by assumption) ?_
   |refine an (by assumption) ?_
   |refine ab (λc=>?_) (λc=>?_))
section
variable {D G:List Nat} {w0 w:A2} {L:List (Nat×List Ad)}
theorem UL (n:Nat):(BK n [aa 0,aa 0,aa 0,aa 0]).flatten=flat eD (BK n zD)++[]:=by
 rw[Bs,gq];rfl
theorem Ce (H:aJ D G w0 w L) (n:Int) {K:Option Ab×Int×Unit->A2->Prop} (hb:n<1\/n>4096-> ∀w1,aJ D G w0 w1 L->K (none,1,()) w1)
 (b:1<=n->n<=4096-> ∀bp bf w1,aJ D G w0 w1 ((bp,[.slice (ae bf) n.toNat n.toNat])::(bf,flat eD (BK n.toNat zD)++[])::L)->K (some ⟨bp,0,none⟩,0,()) w1):
 aD AC 72 (.bu [.one .ptr,.one (.int .i64)]) [aa n] w K:=by
 refine aD.go H λw1 H=>ai (C:=E0) (aT:=λ_=>[]) (Ae (Cc n w1 K) ?_);refine ab (λc=>ao.go H λa H=>hb (by simpa using c) a H) (λc=>?_);have h1:1<=n/\n<=4096:=by simp only[Da,decide_eq_false_iff_not] at c;omega
 refine E7.go H rfl (by omega) (by omega) (by omega) (by omega) λbf a H=>?_;rw[UL] at H;exact aK.go H λbp e H=>ao.go H λd H=>b h1.1 h1.2 bp bf d H
theorem UM (H:aJ D G w0 w L) {bp bf n c:Nat} {ds:List DT} {rest:List Ad} (g:bM w bp [.slice (ae bf) n c]) (j:bM w bf (flat eD ds++rest)) (i:n=ds.length) (h0:0<n) (m:n<=4096) {K:Option Ab->A2->Prop}
 (k: ∀a b d f w1,aJ D G w0 w1 ((a,[.slice (ae b) n d])::(b,flat eD ds++f)::L)->K (ae a) w1):
 aE AC 54 (.el (.one .ptr)) [ag (ae bp)] w K:=by
 refine ai (C:=E0) (aT:=λ_=>[]) (Ae (UF _ w K) ?_);refine⟨(n:Int),ah.of (s:= .el (.one (.int .i64))) λw' h=>rH (g.ext h),ab (λc0=>?_) (λc0=>⟨rfl,rfl,aj.of (some ⟨bf,0,none⟩,n,c) (by rw[aR];exact g.lM rfl) λw1 h1=>?_⟩)⟩
 ·simp only[beq_iff_eq] at c0;omega
 ·refine m7.copy (H.ext h1) (e:=eD) (ys:=ds) (j.ext h1) ?_ i (by intro e;subst e;simp at i;omega) rfl rfl rfl (by omega) λb d f o H=>aK.go H λa p H=>ao.go H λl H=>k a b d f l H;rw[EO (by rw[aI];exact C7 _),De (by rw[aI];exact C7 _)]
end
def cA (ds:List DT) (v:Int):Nat:=ds.countP λd=>d.1==v
def gB (ds:List DT) (v:Int):List Nat:=(Bz ds.length).filter λi=>match ds[i]? with
 |some d=>d.2.1==v
 |none=>false
theorem DU {ds:List DT} {v:Int} {i:Nat} {d:DT} (h:ds[i]? =some d):cA (ds.take (i+1)) v=cA (ds.take i) v+(if d.1=v then 1 else 0):=by
 unfold cA;rw[I2,h,List.countP_append];congr 1;simp
theorem pW {ds:List DT} {i:Nat} {v:Int} {M9:DT->Int} {x:List Ad} (h:(match ds[i]? with
 |some d=>if M9 d=v then some [aa (i:Nat)] else none
 |none=>none)=some x): ∃d,ds[i]? =some d/\M9 d=v/\x=[aa (i:Nat)]:=by
 split at h
 ·rename_i d a;split at h
  ·rename_i b;cases h;exact⟨d,a,b,rfl⟩
  ·cases h
 ·cases h
theorem Cf {ds:List DT} {i:Nat} {v:Int} {M9:DT->Int} (hi:i<ds.length) (h:(match ds[i]? with
 |some d=>if M9 d=v then some [aa (i:Nat)] else none
 |none=>none)=none): ∃d,ds[i]? =some d/\M9 d≠v:=by
 rw[B1 hi] at h;refine⟨ds[i],B1 hi,?_⟩;intro a;simp only[a,if_true] at h;cases h
theorem QR {w:A2} {bp bf n c:Nat} {ds:List DT} {rest:List Ad} (m:bM w bp [.slice (ae bf) n c]) (o:bM w bf (flat eD ds++rest)) (p:n=ds.length) (q:n<=4096) (v:Int):
 aE AC 30 (.el (.one (.int .i64))) [ag (ae bp),aa v] w (λx w'=>x=(cA ds v:Int)/\Ext w w'):=by
 subst p;refine aQ (C:=E0) (aT:=tN) (Ae (QN _ v w _) ?_);have H:=At.start [] w;refine aK.go H λb w1 H=>aC.all 0 H rfl rfl rfl λA H=>sL H _ v λpc ic kc B H=>?_;refine zz.go H (DR (v:=v) (pc:=pc) (ic:=ic) (kc:=kc) (bp:=bp) (bf:=bf) (c:=c) (rest:=rest) q)
  (λi=>[(ic,[.func (.func 105) #[] #[ag (ae kc)]]),(pc,[ag (ae bp)]),(kc,[aa v]),(b,[aa (cA (ds.take i) v:Nat)])])
  (λ_ _=>False) rfl ?_ ?_ ?_ ?_ ?_ ?_
 ·exact λD i w' H=>⟨H.get (i:=1) rfl,H.get (i:=0) rfl,H.get (i:=2) rfl,H.fa m (by simp),H.fa o (by simp)⟩
 ·intro i hi a;obtain⟨d,f,g⟩:=Cf hi a;simp only[DU f,au g,H4]
 ·intro i x hi a;obtain⟨d,f,g,rfl⟩:=pW a;exact⟨((i:Nat),()),rfl⟩
 ·intro i x hi a r l rec k R h h1 _;obtain⟨d,f,g,E⟩:=pW a;refine CQ.go h rfl (Bu.go h λwb H s=>aj.at 3 H rfl rfl (aC.all 3 H rfl rfl rfl λt H=>rY.next s H λu y=>h1 u ?_));have F:cA (ds.take i) v<=4096:=DB List.countP_le_length (by rw[E4];omega);have e:aB .i64 ((cA (ds.take i) v:Nat):Int) 1=((cA (ds.take (i+1)) v:Nat):Int):=by
   rw[DU f,az g,ax (by omega) (by omega)];rfl
  rw[<-e];exact y
 ·intro r rec k h;refine dv.none h λt H=>aj.at 3 H rfl rfl (rZ.go H λG H=>?_);exact⟨by rw[J3],H.all⟩
 ·exact λj L' r rec k z _=>z.elim
theorem DV {ds:List DT} {v:Int} {i:Nat} {d:DT} (h:ds[i]? =some d):gB (ds.take (i+1)) v=gB (ds.take i) v++(if d.2.1=v then[i] else[]):=by
 have hi:i<ds.length:=(B5.1 h).1;unfold gB;rw[E4,E4,JC (by omega),JC (by omega),EY,Hr];congr 1
 ·apply List.filter_congr;intro j a;have b:j<i:=by simpa using a
  rw[Ga (by omega),Ga b]
 ·simp only[F0,List.filter_nil,Ga (Nat.lt_succ_self i),h,beq_iff_eq]
theorem QS {w:A2} {bp bf n c:Nat} {ds:List DT} {rest:List Ad} (y:bM w bp [.slice (ae bf) n c]) (z:bM w bf (flat eD ds++rest)) (A:n=ds.length) (B:n<=4096) (v:Int):
 aE AC 166 (.el (.one .slice)) [ag (ae bp),aa v] w (λr w'=>lD w w' eI r ((gB ds v).map λi=>((i:Nat):Int))/\Ext w w'):=by
 subst A;refine aQ (C:=E0) (aT:=tO) (Ae (QO _ v w _) ?_);have H:=At.start [] w;refine aK.go H λkc w1 H=>aK.go H λb W H=>UH H _ _ λpc ic X H=>?_
 let a:Nat->List Int:=λi=>(gB (ds.take i) v).map λi=>((i:Nat):Int)
 have D: ∀i,(a i).length<=4096:=λi=>by
  simp only[a,FS];refine DB (Hy _ _) ?_;simp only[List.length_range,E4];omega
 let g:Option Ab×Nat×Nat->List (Nat×List Ad):=λs=>[(ic,[.func (.func 207) #[] #[ag (ae kc)]]),(pc,[ag (ae bp)]),(b,[.slice s.1 s.2.1 s.2.2]),(kc,[aa v])]
 let Inv:Nat->List (Nat×List Ad)->Prop:=λi L'=> ∃s Ls,L'=Ls++g s/\((s=(none,0,0)/\a i=[]/\Ls=[])\/ ∃bs cs rs,s=(some ⟨bs,0,none⟩,(a i).length,cs)/\Ls=[(bs,flat eI (a i)++rs)]/\(flat eI (a i)++rs).length=cs*aG eI/\(a i).length<=cs)
 refine zz.inv H (QP (v:=v) (pc:=pc) (ic:=ic) (kc:=kc) (bp:=bp) (bf:=bf) (c:=c) (rest:=rest) B) Inv
  (λ_ _=>False) ⟨(none,0,0),[],rfl,.inl ⟨rfl,rfl,rfl⟩⟩ ?_ ?_ ?_ ?_ ?_ ?_
 ·rintro Y i w' L' ⟨s,Ls,rfl, _⟩ H;have H:=H.sub (List.sublist_append_right Ls (g s));exact⟨H.get (i:=1) rfl,H.get (i:=0) rfl,H.get (i:=3) rfl,H.fa y (by simp),H.fa z (by simp)⟩
 ·rintro i L' hi k ⟨s,Ls,rfl,f⟩;obtain⟨d,m,E⟩:=Cf (M9:=λd=>d.2.1) hi k;have e:a (i+1)=a i:=by simp only[a,DV m,au E,Bs]
  exact⟨s,Ls,rfl,by rw[e];exact f⟩
 ·intro i x hi k;obtain⟨d,m,f,rfl⟩:=pW (M9:=λd=>d.2.1) k;exact⟨((i:Nat),()),rfl⟩
 ·rintro i x L' hi k ⟨s,Ls,rfl,f⟩ r l rec p R o h1 _;obtain⟨d,m,F,G⟩:=pW (M9:=λd=>d.2.1) k;have q:x.1=((i:Nat):Int):=by
   have h:[aa x.1]=[aa (i:Nat)]:=G;simpa using h
  obtain⟨x1,u⟩:=x;simp only at q;subst q;have e:a (i+1)=a i++[((i:Nat):Int)]:=by simp only[a,DV m,az F,EW,List.map_cons,List.map_nil]
  have Z:=D i;have t:(a (i+1)).length=(a i).length+1:=by rw[e];simp
  refine CQ.go o rfl (Bu.go o λwb H I=>aj.of s ?_ (aK.go H λb2 J H=>λK L=>?_))
  ·exact(H.dp (b,[.slice s.1 s.2.1 s.2.2]) (BO _ (by simp[g]))).lM rfl
  ·refine aJ.grow (e:=eI) (x:=((i:Nat):Int)) (Ls:=Ls) (L0:=g s) (H.ext L) f rfl rfl rfl (by omega) λbs cs rs w7 M N H=>?_;refine aC.all 3 H rfl rfl rfl λw8 H=>rY.next I H λO P=>h1 _ O ⟨(some ⟨bs,0,none⟩,(a i).length+1,cs),[(bs,flat eI (a (i+1))++rs)],rfl,.inr ⟨bs,cs,rs,by rw[t],rfl,by rw[e];exact M,by rw[t];exact N⟩⟩ ?_
   rw[e];exact P
 ·rintro L' r rec p ⟨s,Ls,rfl,f⟩ o;refine dv.none o λJ H=>aj.of s ?_ (rZ.go H λK H=>?_)
  ·exact(H.dp (b,[.slice s.1 s.2.1 s.2.2]) (BO _ (by simp[g]))).lM rfl
  ·refine⟨?_,H.all⟩;have Q:a ds.length=(gB ds v).map λi=>((i:Nat):Int):=by simp only[a,J3]
   rw[<-Q];rcases f with ⟨rfl,S,rfl⟩|⟨bs,cs,rs,rfl,rfl,T,U⟩
   ·rw[S];exact lD.nil _ _ _
   ·refine⟨rfl,U,.inr ⟨bs, _,rfl,(H.own _ (CO _ (List.mem_singleton.2 rfl))).resolve_right (by simp),H.get (i:=0) rfl,T,?_⟩⟩;rw[EO (by rw[aI];exact C7 _),De (by rw[aI];exact C7 _)]
 ·exact λj L' r rec p V _=>V.elim
def iA (ds:List DT):Option Nat:=ds.findIdx? λd=>d.1==0
def fc (ds:List DT) (k o:Int):Int:=match iA ds with
 |none=>0
 |some f=>if vd ds f (aP k o)=0 then(f:Int) else 0
def dQ (ds:List DT) (k o:Int):Int:=if ds.length=0 then 10 else match iA ds with
 |none=>12
 |some f=>vd ds f (aP k o)
def dB (ds:List DT) (k o:Int):List DT:=match iA ds with
 |none=>ds
 |some f=>dF ds f (aP k o)
theorem uQ (ds:List DT) (k o:Int):(dB ds k o).length=ds.length:=by
 unfold dB;split
 ·rfl
 ·exact iY _ _ _
theorem KN {ds:List DT} (h: ∀(j:Nat) d,ds[j]? =some d->d.1≠0):iA ds=none:=by
 unfold iA;rw[List.findIdx?_eq_none_iff];intro d a;obtain⟨j,b⟩:=Dv a;simpa using h j d b
theorem KO {ds:List DT} {i:Nat} {d:DT} (hi:ds[i]? =some d) (a:d.1=0) (h: ∀(j:Nat) d,j<i->ds[j]? =some d->d.1≠0):iA ds=some i:=by
 unfold iA;have b:i<ds.length:=(B5.1 hi).1;rw[List.findIdx?_eq_some_iff_getElem];refine⟨b,?_,λj c=>?_⟩
 ·have e:ds[i]=d:=(B5.1 hi).2;rw[e];simpa using a
 ·have:=h j ds[j] c (B1 (by omega));simpa using this
theorem UN {w:A2} {bp bf n c:Nat} {ds:List DT} {rest:List Ad} (A:bM w bp [.slice (ae bf) n c]) (N:bM w bf (flat eD ds++rest)) (J:bp≠bf) (O:n=ds.length) (K:n<=4096) (k o:Int):
 aE AC 172 (.bu [.one (.int .i64),.one (.int .i64)]) [ag (ae bp),aa k,aa o] w
  (λv w'=>v=(fc ds k o,dQ ds k o,())/\bM w' bf (flat eD (dB ds k o)++rest)/\Fr [bf] w w'):=by
 subst O;refine aQ (C:=E0) (aT:=vT) (Ae (UG _ k o w _) ?_);have H:=At.rE N;have B:bp∉[bf]:=by simpa using J
 refine aK.go H λb w1 H=>aK.go H λP Y H=>aK.go H λQ Z H=>aK.go H λS w4 H=>aK.go H λU w5 H=>aj.at 4 H rfl rfl ?_;refine⟨(ds.length:Int),ah.of (s:= .el (.one (.int .i64))) λw' h=>rH ((H.fa A B).ext h),ab (λc0=>?_) (λc0=>aj.at 4 H rfl rfl ?_)⟩
 ·have h0:ds.length=0:=by simp only[beq_iff_eq] at c0;omega
  have a:ds=[]:=List.eq_nil_of_length_eq_zero h0;refine aC.all 1 H rfl rfl rfl λV H=>aC.all 0 H rfl rfl rfl λD H=>ao.go H λq H=>aj.at 1 H rfl rfl (aj.at 0 H rfl rfl ⟨?_,?_,H.fr⟩)
  ·subst a;rfl
  ·subst a;exact H.get (i:=5) rfl
 have h0:ds.length≠0:=by simp only[beq_eq_false_iff_ne,ne_eq] at c0;omega
 refine sL H _ 0 λpc ic kc V H=>?_
 let T:Int->Int->List DT->List (Nat×List Ad):=λx y l=>[(ic,[.func (.func 105) #[] #[ag (ae kc)]]),(pc,[ag (ae bp)]),(kc,[aa 0]),(U,[aa y]),(S,[aa x]),(Q,[aa o]),(P,[aa k]),(b,[ag (ae bp)]),(bf,flat eD l++rest)]
 refine zz.inv H (DR (v:=0) (pc:=pc) (ic:=ic) (kc:=kc) (bp:=bp) (bf:=bf) (c:=c) (rest:=rest) K)
  (λi L'=>L'=T 0 0 ds/\ ∀(j:Nat) d,j<i->ds[j]? =some d->d.1≠0)
  (λj L'=>j= .ret/\ ∃i:Nat,iA ds=some i/\L'=T (if vd ds i (aP k o)=0 then(i:Int) else 0) (vd ds i (aP k o)) (dF ds i (aP k o))) ⟨rfl,λj d g=>absurd g (by omega)⟩ ?_ ?_ ?_ ?_ ?_ ?_
 ·rintro D' i w' L' ⟨rfl, _⟩ H;exact⟨H.get (i:=1) rfl,H.get (i:=0) rfl,H.get (i:=2) rfl,H.fa A B,H.get (i:=8) rfl⟩
 ·rintro i L' hi p ⟨rfl,g⟩;obtain⟨d,a,t⟩:=Cf (M9:=λd=>d.1) hi p;refine⟨rfl,λj d' zH E=>?_⟩;by_cases e:j=i
  ·subst e;rw[a] at E;cases E;exact t
  ·exact g j d' (by omega) E
 ·intro i x hi p;obtain⟨d,a,t,rfl⟩:=pW (M9:=λd=>d.1) p;exact⟨((i:Nat),()),rfl⟩
 ·rintro i ⟨x1,u⟩ L' hi p ⟨rfl,g⟩ r l rec D R m _ L;obtain⟨d,a,t,W⟩:=pW (M9:=λd=>d.1) p;have X:x1=((i:Nat):Int):=by
   have h:[aa x1]=[aa (i:Nat)]:=W;simpa using h
  subst X;have f:=KO a t g;refine CQ.go m rfl (Bu.go m λwb H F=>aj.at 7 H rfl rfl (aj.at 6 H rfl rfl (aj.at 5 H rfl rfl ?_)));refine aD.C_ H 8 rfl (λq H=>Cd (F.2.1.dq H A B) (H.get (i:=8) rfl) J K _ k o) λq H=>ab (λc=>?_) (λc=>?_)
  ·have hc: ¬ vd ds (i:Nat) (aP k o)=0:=by simpa using c
   refine aC.all 4 H rfl rfl rfl λG H=>aC.all 3 H rfl rfl rfl λM H=>rY.left F H λz I=>L _ _ z ⟨rfl,i,f,?_⟩ I;rw[au hc];rfl
  ·have hc:vd ds (i:Nat) (aP k o)=0:=by simpa using c
   refine aC.all 4 H rfl rfl rfl λG H=>aC.all 3 H rfl rfl rfl λM H=>rY.left F H λz I=>L _ _ z ⟨rfl,i,f,?_⟩ I;rw[az hc,hc];rfl
 ·rintro L' r rec D ⟨rfl,g⟩ m;have f:iA ds=none:=KN λj d a=>g j d (B5.1 a).1 a;refine dv.none m λq H=>aC.all 4 H rfl rfl rfl λG H=>aC.all 3 H rfl rfl rfl λM H=>rZ.go H λz H=>aj.at 4 H rfl rfl (aj.at 3 H rfl rfl ⟨?_,?_,H.fr⟩)
  ·unfold fc dQ;rw[f,au h0]
  ·have:dB ds k o=ds:=by unfold dB;rw[f]
   rw[this];exact H.get (i:=8) rfl
 ·rintro j L' r rec D ⟨rfl,i,f,rfl⟩ m;refine dv.ret m λq H=>rZ.go H λG H=>aj.at 4 H rfl rfl (aj.at 3 H rfl rfl ⟨?_,?_,H.fr⟩)
  ·unfold fc dQ;rw[f,au h0]
  ·have:dB ds k o=dF ds i (aP k o):=by unfold dB;rw[f]
   rw[this];exact H.get (i:=8) rfl
end Go.Proofs.YtlcenllcmeebhaaGreat.D
