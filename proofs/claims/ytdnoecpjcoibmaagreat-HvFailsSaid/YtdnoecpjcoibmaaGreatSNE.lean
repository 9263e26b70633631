import Derived.Test.YtdnoecpjcoibmaaGreatSND
/-! What the statement leans on: texts joined and shortened by a program of mine. -/
set_option linter.unusedVariables false
set_option linter.unusedSimpArgs false
namespace Go.Proofs.YtdnoecpjcoibmaaGreat
set_option maxRecDepth 100000
open Go.RX D
def px:Nat->Int->Int
 |0,p=>p
 |l+1,p=>px l p / 16
theorem S_ {p:Int} (h:0<=p/\p<65536):px 4 p=0:=by simp only[px];omega
theorem nY (p:Int) (l:Nat):px l p=16*px (l+1) p+px l p % 16:=by simp only[px];omega
theorem eo (p:Int) (l:Nat):0<=px l p % 16/\px l p % 16<16:=by omega
theorem RV {p:Int} (h:0<=p/\p<65536) {l:Nat} (hl:l<=3):eZ p (l:Int)=px l p % 16:=by
 unfold eZ
 rw[if_pos (by omega)]
 congr 1
 rcases l with _| _| _| _|l
 ·show p / 1=p;omega
 ·rfl
 ·show p / 256=p / 16 / 16;omega
 ·show p / 4096=p / 16 / 16 / 16;omega
 ·omega
theorem oM {f p:Int} (hf:0<=f/\f<4096) (h:0<=p/\p<65536) {l:Nat} (hl:l<=3):dX f p (l:Int)=16*f+px l p % 16:=by
 unfold dX
 rw[RV h hl,if_neg (by omega)]
theorem m7:ee 0=zE:=by decide+kernel
theorem Fi:dy zE=false:=by decide
theorem Dd (v:Int):aM (ee v).1 (ee v).2.1 (ee v).2.2.1 (ee v).2.2.2.1=true:=by
 unfold ee wY yK yL wE
 cases h:nQ (B v).toNat with
 |false=>simp;decide
 |true=>
  unfold nQ at h
  simp only[Bool.and_eq_true] at h
  simpa using h.2
theorem uy {p:Bool} {r:Int} {l:Bool} {f:Int} (h:aM p r l f=true):ee (uH p r l f)=(p,r,l,f,()):=by
 have hb:=nv h
 unfold uH
 rw[if_pos h]
 obtain⟨h1,h2,h3,h4,h5⟩:=hb
 obtain⟨r,rfl⟩:=Int.eq_ofNat_of_zero_le h1
 obtain⟨f,rfl⟩:=Int.eq_ofNat_of_zero_le h3
 have key: ∀n:Nat,mq p (r:Int) l (f:Int)=(n:Int)->n<18446744073709551616->(n % 2==1)=p->n / 2 % 8=r->(n / 16 % 2==1)=l->n / 32 % 128=0->n / 4096 % 4096=f->n / 16777216 % 1099511627776=0->ee (mq p (r:Int) l (f:Int))=(p,(r:Int),l,(f:Int),()):=by
  intro n e hn e1 e2 e3 e4 e5 e6
  have hB:(B (mq p (r:Int) l (f:Int))).toNat=n:=by rw[e,DN (by omega) (by omega)];omega
  have ok:nQ n=true:=by
   unfold nQ
   rw[e4,e6,e1,e2,e3,e5,h]
   decide
  unfold ee wY yK yL wE
  rw[hB,ok,e1,e2,e3,e5]
  simp
 cases p with
 |false=>
  obtain⟨a,b,c⟩:=h5 rfl
  subst b
  have hr:r=0:=by omega
  have hf:f=0:=by omega
  subst hr;subst hf
  exact key 0 rfl (by decide) rfl rfl rfl rfl rfl rfl
 |true=>
  have hl:nB l<=1:=Aw l
  refine key (1+2*r+16*nB l+4096*f) ?_ (by omega) ?_ (by omega) ?_ (by omega) (by omega) (by omega)
  ·unfold mq
   have:nB true=1:=rfl
   rw[this];omega
  ·have:(1+2*r+16*nB l+4096*f) % 2=1:=by omega
   rw[this];rfl
  ·have:(1+2*r+16*nB l+4096*f) / 16 % 2=nB l:=by omega
   rw[this];cases l<;>rfl
theorem l_ (ws:List Int) (a:Int):aM (aC ws a).1 (aC ws a).2.1 (aC ws a).2.2.1 (aC ws a).2.2.2.1=true:=Dd _
theorem dA {f:Int} (h:0<=f/\f<4096):dy (bN f)=true:=by
 unfold dy bN fy aM
 simp
 omega
theorem De {f:Int} (h:0<=f/\f<4096):aM true 0 false f=true:=by
 unfold aM
 simp
 omega
theorem LQ {f:Int} (h:0<=f/\f<4096):ee (HY (bN f))=bN f:=uy (De h)
theorem jk {ws:List Int} {i:Int} (h:0<=i) (h':i<ws.length):uj ws i=true:=gX.2 ⟨h,h'⟩
theorem qK {ws:List Int} {a v:Int} (h:uj ws a=true):cZ (cH ws a v) a=v:=by
 have hi:=gX.1 h
 have h2:uj (cH ws a v) a=true:=gX.2 ⟨hi.1,by rw[cu];exact hi.2⟩
 unfold cZ
 rw[if_pos h2]
 unfold cH
 rw[if_pos h,List.getD_eq_getElem?_getD,List.getElem?_set_self (by omega)]
 rfl
theorem mw {ws:List Int} {a b v:Int} (h:a≠b):cZ (cH ws a v) b=cZ ws b:=by
 have e:uj (cH ws a v) b=uj ws b:=by unfold uj;rw[cu]
 unfold cZ
 rw[e]
 by_cases hb:uj ws b=true
 ·rw[if_pos hb,if_pos hb]
  unfold cH
  split
  ·rename_i ha
   have h1:=gX.1 ha
   have h2:=gX.1 hb
   rw[List.getD_eq_getElem?_getD,List.getD_eq_getElem?_getD,List.getElem?_set_ne (by omega)]
  ·rfl
 ·rw[if_neg hb,if_neg hb]
theorem qL {ws:List Int} {f:Int} {G:Int->Int} (hf:0<=f) (hl:16*f+16<=ws.length): ∀n:Nat,n<=16-> ∀b,cZ (ew ws f G n) b=if 16*f<=b/\b<16*f+(n:Int) then G (b - 16*f) else cZ ws b
 |0, _,b=>by rw[if_neg (by omega)];rfl
 |n+1,hn,b=>by
  rw[ew]
  by_cases e:16*f+(n:Int)=b
  ·subst e
   rw[qK (jk (by omega) (by rw[fV];omega)),if_pos (by omega)]
   congr 1;omega
  ·rw[mw e,qL hf hl n (by omega) b]
   by_cases h:16*f<=b/\b<16*f+(n:Int)
   ·rw[if_pos h,if_pos (by omega)]
   ·rw[if_neg h,if_neg (by omega)]
theorem A4 {ds:List DT} (h:0<aX ds 0): ∃i d,gE ds=some i/\i<ds.length/\ds[i]? =some d/\d.1=0:=by
 unfold aX at h
 rw[List.countP_pos_iff] at h
 obtain⟨a,ha,h0⟩:=h
 cases hf:gE ds with
 |none=>
  unfold gE at hf
  rw[List.findIdx?_eq_none_iff] at hf
  have:=hf a ha
  rw[this] at h0;cases h0
 |some i=>
  unfold gE at hf
  rw[List.findIdx?_eq_some_iff_getElem] at hf
  obtain⟨h1,h2, _⟩:=hf
  exact⟨i,ds[i],rfl,h1,List.getElem?_eq_getElem h1,by simpa using h2⟩
theorem yd {o:Int} (h:1<=o/\o<=16):aE 3 o zD=((3,o,0,0,()),0):=by
 have e:dV 0 0 0 0 3 o=0:=by
  unfold dV
  rw[if_neg (by decide),if_neg (by decide),if_pos (by decide),if_neg ?_]
  unfold bR fA
  simp
  omega
 unfold aE zD ig gj
 dsimp only
 rw[e]
 simp
theorem lz {ds:List DT} {o:Int} (h:0<aX ds 0) (hz: ∀d∈ds,d.1=0->d=zD) (ho:1<=o/\o<=16): ∃i:Nat,i<ds.length/\ds[i]? =some zD/\eO ds 3 o=(i:Int)/\dj ds 3 o=0/\c8 ds 3 o=ds.set i (3,o,0,0,()):=by
 obtain⟨i,d,h1,h2,h3,h4⟩:=A4 h
 have hd:d=zD:=hz d (List.mem_of_getElem? h3) h4
 subst hd
 have hg:ds.getD i zD=zD:=by rw[List.getD_eq_getElem?_getD,h3];rfl
 have e1:sP ds (i:Int) (aE 3 o)=0:=by
  rw[ve (by omega)]
  show(aE 3 o (ds.getD i zD)).2=0
  rw[hg,yd ho]
 have e2:fQ ds (i:Int) (aE 3 o)=ds.set i (3,o,0,0,()):=by
  rw[pS (by omega)]
  show(if(aE 3 o (ds.getD i zD)).2=0 then ds.set i (aE 3 o (ds.getD i zD)).1 else ds)= _
  rw[hg,yd ho,if_pos rfl]
 refine⟨i,h2,h3,?_,?_,?_⟩
 ·unfold eO;rw[h1];dsimp only;rw[if_pos e1]
 ·unfold dj;rw[if_neg (by omega),h1];exact e1
 ·unfold c8;rw[h1];exact e2
theorem nZ {ds:List DT} {i:Nat} {d d':DT} (h:ds[i]? =some d) (v:Int):aX (ds.set i d') v+(if d.1=v then 1 else 0)=aX ds v+(if d'.1=v then 1 else 0):=by
 have hi:i<ds.length:=(List.getElem?_eq_some_iff.1 h).1
 have e1:ds=ds.take i++d::ds.drop (i+1):=by
  have:=(List.take_append_drop i ds).symm
  rw[List.drop_eq_getElem_cons hi,(List.getElem?_eq_some_iff.1 h).2] at this
  exact this
 have e2:ds.set i d'=ds.take i++d'::ds.drop (i+1):=by rw[List.set_eq_take_append_cons_drop,if_pos hi]
 unfold aX
 rw[e2]
 conv=>rhs;rw[e1]
 simp only[List.countP_append,List.countP_cons]
 by_cases h1:d.1=v<;>by_cases h2:d'.1=v<;>simp[h1,h2]<;>omega
theorem A5 {o:Int} (h:1<=o/\o<=16):aE 5 0 (3,o,0,0,())=((5,o,0,0,()),0):=by
 have r1:bR 3 o 0 0=true:=by unfold bR fA;simp;omega
 have r2:bR 5 o 0 0=true:=by unfold bR fA;simp;omega
 have e:dV 3 o 0 0 5 0=0:=by
  unfold dV
  rw[r1,if_neg (by decide),if_neg (by decide),if_pos (by decide),if_pos rfl,r2,if_neg (by decide)]
 unfold aE ig gj
 dsimp only
 rw[e]
 simp
end Go.Proofs.YtdnoecpjcoibmaaGreat
namespace Go.Proofs.YtdnoecpjcoibmaaGreat
set_option maxRecDepth 100000
open Go.RX D
abbrev Gh:Type:=Int->Option (Int×Nat×Int)
def jS (g:Gh) (f:Int) (v:Option (Int×Nat×Int)):Gh:=fun x=>if x=f then v else g x
theorem a6 (g:Gh) (f:Int) (v:Option (Int×Nat×Int)):jS g f v f=v:=if_pos rfl
theorem aN {g:Gh} {f x:Int} (h:x≠f) (v:Option (Int×Nat×Int)):jS g f v x=g x:=if_neg h
def iW (l:Nat) (e:ET):Prop:=e.1=true->dy e=false->(l=0/\e.2.2.1=false)\/(l=1/\e.2.2.1=true/\e.2.2.2.1 % 16=0)
theorem Az (l:Nat):iW l zE:=fun h=>by cases h
theorem Uw (l:Nat) {e:ET} (h:dy e=true):iW l e:=fun _ h'=>by rw[h] at h';cases h'
structure Inv (g:Gh) (s:WD):Prop where
 len:16*s.2.length<=s.1.length
 le:s.2.length<=4096
 fz: ∀d∈s.2,d.1=0->d=zD
 kd: ∀{f o l x},g f=some (o,l,x)->0<=f/\f<s.2.length/\s.2[f.toNat]? =some (3,o,0,0,())/\1<=o/\o<=16/\l<=3
 inj: ∀{f f' v},g f=some v->g f'=some v->f=f'
 qc: ∀{f o l x i},g f=some (o,l,x)->0<=i->i<16->dy (aC s.1 (16*f+i))=true-> ∃m,l=m+1/\g (aC s.1 (16*f+i)).2.2.2.1=some (o,m,16*x+i)
 leaf: ∀{f o l x i},g f=some (o,l,x)->0<=i->i<16->iW l (aC s.1 (16*f+i))
 Ad: ∀{f o l x},g f=some (o,l,x)->l<3-> ∃f',g f'=some (o,l+1,x / 16)/\aC s.1 (16*f'+x % 16)=bN f
 wf: ∀{f o l x i},g f=some (o,l,x)->0<=i->i<16->(aC s.1 (16*f+i)).1=false->cZ s.1 (16*f+i)=0
 tb: ∀{n:Nat} {d},s.2[n]? =some d->d.1=3-> ∃v,g (n:Int)=some v
def c9 (g:Gh) (s:WD) (o p f:Int) (j:Nat):Prop:=g f=some (o,j,px (j+1) p)/\dy (aC s.1 (16*f+px j p % 16))=false
theorem fN {ws:List Int} {a v b:Int} (h:a≠b):aC (cH ws a v) b=aC ws b:=by unfold aC;rw[mw h]
theorem vz {ws:List Int} {a v:Int} (h:uj ws a=true):aC (cH ws a v) a=ee v:=by unfold aC;rw[qK h]
namespace Inv
variable {g:Gh} {s:WD}
theorem um (I:Inv g s) {f o:Int} {l:Nat} {x:Int} (h:g f=some (o,l,x)):0<=f/\f<4096/\16*f+16<=s.1.length:=by
 have:=I.kd h
 have:=I.len
 have:=I.le
 omega
theorem reach (I:Inv g s) {o r p:Int} (hr:g r=some (o,3,0)) (hp:0<=p/\p<65536): ∀(n:Nat) {f:Int} {j:Nat},j+n=3->g f=some (o,j,px (j+1) p)-> ∃a,cD s.1 p 3 r=a++cD s.1 p j f
 |0,f,j,hj,h=>by
  have:j=3:=by omega
  subst this
  rw[S_ hp] at h
  rw[I.inj h hr]
  exact⟨[],rfl⟩
 |n+1,f,j,hj,h=>by
  obtain⟨f',h1,h2⟩:=I.Ad h (by omega)
  have xd:g f'=some (o,j+1,px (j+1+1) p):=h1
  obtain⟨a,ha⟩:=I.reach hr hp n (by omega) xd
  obtain⟨b1,b2, _⟩:=I.um h1
  refine⟨a++[(f',((j+1:Nat):Int),dX f' p ((j+1:Nat):Int),())],?_⟩
  have ej:j+1<=3:=by omega
  have e:cD s.1 p (j+1) f'=(f',((j+1:Nat):Int),dX f' p ((j+1:Nat):Int),())::cD s.1 p j f:=by
   rw[cD]
   congr 1
   have e2:aC s.1 (dX f' p ((j+1:Nat):Int))=bN f:=by rw[oM ⟨b1,b2⟩ hp ej];exact h2
   obtain⟨c1,c2, _⟩:=I.um h
   rw[e2,if_pos (dA ⟨c1,c2⟩)]
   rfl
  rw[ha,e,List.append_assoc];rfl
theorem W_ {ws:List Int} {p f:Int} {j:Nat} (h:dy (aC ws (dX f p (j:Int)))=false):cD ws p j f=[(f,(j:Int),dX f p (j:Int),())]:=by
 cases j with
 |zero=>rfl
 |succ j=>rw[cD,h,if_neg (by decide)]
theorem j0 (I:Inv g s) {o r p:Int} (hr:g r=some (o,3,0)) (hp:0<=p/\p<65536) {f:Int} {j:Nat} (h:c9 g s o p f j):
 di s.1 r p=(f,(j:Int),16*f+px j p % 16,())/\cx s.1 r p=aC s.1 (16*f+px j p % 16):=by
 have hk:=I.kd h.1
 obtain⟨b1,b2, _⟩:=I.um h.1
 obtain⟨a,ha⟩:=I.reach hr hp (3 - j) (by omega) h.1
 have ea:=oM ⟨b1,b2⟩ hp hk.2.2.2.2.2
 have e1:di s.1 r p=(f,(j:Int),16*f+px j p % 16,()):=by
  unfold di
  rw[ha,W_ (by rw[ea];exact h.2),ea,List.getLastD_concat]
 exact⟨e1,by unfold cx;rw[e1]⟩
theorem JD (I:Inv g s) {o p:Int}: ∀(l:Nat) {f:Int},g f=some (o,l,px (l+1) p)-> ∃f' j,j<=l/\c9 g s o p f' j
 |l,f,h=>by
  cases ht:dy (aC s.1 (16*f+px l p % 16)) with
  |false=>exact⟨f,l,Nat.le_refl _,h,ht⟩
  |true=>
   obtain⟨m,rfl,hm⟩:=I.qc h (eo p l).1 (eo p l).2 ht
   rw[<-nY] at hm
   obtain⟨f',j,hj,he⟩:=I.JD m hm
   exact⟨f',j,by omega,he⟩
theorem jH (I:Inv g s) {o r p:Int} (hr:g r=some (o,3,0)) (hp:0<=p/\p<65536): ∃f j,j<=3/\c9 g s o p f j:=I.JD 3 (by rw[S_ hp];exact hr)
theorem grow (I:Inv g s) {f o x i:Int} {m:Nat} (hf:g f=some (o,m+1,x)) (Fb:0<=i) (hi1:i<16) (hn:dy (aC s.1 (16*f+i))=false) (hc:0<aX s.2 0) (G:Int->Int)
 (hG: ∀k,0<=k->k<16->dy (ee (G k))=false/\iW m (ee (G k))/\((ee (G k)).1=false->G k=0)):
 pq s o=0/\g (dL s o)=none/\0<=dL s o/\dL s o<s.2.length/\(dx (gM s o G) (16*f+i) (bN (dL s o))).2=s.2.set (dL s o).toNat (3,o,0,0,())/\s.2[(dL s o).toNat]? =some zD/\
 (∀b,b≠16*f+i->(b<16*dL s o\/16*dL s o+16<=b)->aC (dx (gM s o G) (16*f+i) (bN (dL s o))).1 b=aC s.1 b)/\
 (∀k,0<=k->k<16->aC (dx (gM s o G) (16*f+i) (bN (dL s o))).1 (16*dL s o+k)=ee (G k))/\
 aC (dx (gM s o G) (16*f+i) (bN (dL s o))).1 (16*f+i)=bN (dL s o)/\
 Inv (jS g (dL s o) (some (o,m,16*x+i))) (dx (gM s o G) (16*f+i) (bN (dL s o))):=by
 have hk:=I.kd hf
 obtain⟨n,wU,hn2,e1,e2,e3⟩:=lz hc I.fz ⟨hk.2.2.2.1,hk.2.2.2.2.1⟩
 have eF:dL s o=(n:Int):=e1
 have eE:pq s o=0:=e2
 have hlen:=I.len
 have hle:=I.le
 have hlen':16*(n:Int)+16<=s.1.length:=by omega
 obtain⟨W,hW⟩: ∃W,W=ew s.1 (n:Int) G 16:=⟨_,rfl⟩
 have Pg:W.length=s.1.length:=by rw[hW,fV]
 have HZ: ∀b,cZ W b=if 16*(n:Int)<=b/\b<16*(n:Int)+16 then G (b - 16*(n:Int)) else cZ s.1 b:=fun b=>by
  rw[hW];exact qL (by omega) hlen' 16 (Nat.le_refl _) b
 have eS:gM s o G=(W,s.2.set n (3,o,0,0,())):=by unfold gM;rw[if_pos eE,eF,e3,hW]
 clear hW
 have hfr:=I.um hf
 have gn:g (n:Int)=none:=by
  cases hg:g (n:Int) with
  |none=>rfl
  |some v=>
   obtain⟨a,b,c⟩:=v
   have:=(I.kd hg).2.2.1
   rw[show((n:Int)).toNat=n from rfl,hn2] at this
   cases this
 have hne: ∀{f':Int} {v},g f'=some v->f'≠(n:Int):=fun h e=>by rw[e,gn] at h;cases h
 have hfn:f≠(n:Int):=hne hf
 rw[eS,eF]
 have Qk:uj (W) (16*f+i)=true:=jk (by omega) (by rw[Pg];omega)
 have v0: ∀b,b≠16*f+i->cZ (cH (W) (16*f+i) (HY (bN (n:Int)))) b=if 16*(n:Int)<=b/\b<16*(n:Int)+16 then G (b - 16*(n:Int)) else cZ s.1 b:=fun b hb=>by
  rw[mw (fun e=>hb e.symm),HZ b]
 have w0: ∀b,b≠16*f+i->aC (cH (W) (16*f+i) (HY (bN (n:Int)))) b=if 16*(n:Int)<=b/\b<16*(n:Int)+16 then ee (G (b - 16*(n:Int))) else aC s.1 b:=fun b hb=>by
  unfold aC
  rw[v0 b hb]
  split<;>rfl
 have w1: ∀b,b≠16*f+i->(b<16*(n:Int)\/16*(n:Int)+16<=b)->aC (dx (W,s.2.set n (3,o,0,0,())) (16*f+i) (bN (n:Int))).1 b=aC s.1 b:=fun b hb h=>by
  show aC (cH _ _ _) b= _
  rw[w0 b hb,if_neg (by omega)]
 have w2: ∀k,0<=k->k<16->aC (dx (W,s.2.set n (3,o,0,0,())) (16*f+i) (bN (n:Int))).1 (16*(n:Int)+k)=ee (G k):=fun k h0 h1=>by
  show aC (cH _ _ _) _= _
  rw[w0 _ (by omega),if_pos (by omega)]
  congr 2;omega
 have w3:aC (dx (W,s.2.set n (3,o,0,0,())) (16*f+i) (bN (n:Int))).1 (16*f+i)=bN (n:Int):=by
  show aC (cH _ _ _) _= _
  rw[vz Qk,LQ (by omega)]
 refine⟨eE,gn,by omega,by omega,rfl,by rw[show((n:Int)).toNat=n from rfl];exact hn2,w1,w2,w3,?_⟩
 have old: ∀{f0 o0 x0 k:Int} {l0:Nat},g f0=some (o0,l0,x0)->0<=k->k<16->(16*f0+k=16*f+i/\f0=f/\k=i)\/aC (dx (W,s.2.set n (3,o,0,0,())) (16*f+i) (bN (n:Int))).1 (16*f0+k)=aC s.1 (16*f0+k):=fun{f0 o0 x0 k l0} h h0 h1=>by
  by_cases e:16*f0+k=16*f+i
  ·exact .inl ⟨e,by omega,by omega⟩
  ·have:=hne h
   exact .inr (w1 _ e (by omega))
 refine⟨?_,?_,?_,?_,?_,?_,?_,?_,?_,?_⟩
 ·show 16*(s.2.set n _).length<=(cH W _ _).length
  rw[cu,Pg,List.length_set];exact hlen
 ·show(s.2.set n _).length<=4096
  rw[List.length_set];exact hle
 ·intro d hd h0
  rcases List.mem_or_eq_of_mem_set hd with hd|rfl
  ·exact I.fz d hd h0
  ·cases h0
 ·intro f0 o0 l0 x0 h
  show _/\ _<((s.2.set n (3,o,0,0,())).length:Int)/\(s.2.set n (3,o,0,0,()))[f0.toNat]? = _/\ _
  rw[List.length_set]
  by_cases e:f0=(n:Int)
  ·subst e
   rw[a6] at h
   cases h
   refine⟨by omega,by omega,?_,hk.2.2.2.1,hk.2.2.2.2.1,by omega⟩
   rw[show((n:Int)).toNat=n from rfl,List.getElem?_set_self wU]
  ·rw[aN e] at h
   obtain⟨a1,a2,a3,a4⟩:=I.kd h
   refine⟨a1,a2,?_,a4⟩
   rw[List.getElem?_set_ne (by omega)];exact a3
 ·intro a b v ha hb
  by_cases e:a=(n:Int)<;>by_cases e':b=(n:Int)
  ·rw[e,e']
  ·subst e
   rw[a6] at ha
   rw[aN e'] at hb
   cases ha
   exfalso
   obtain⟨f',p1,p2⟩:=I.Ad hb (by omega)
   have ex:(16*x+i) / 16=x:=by omega
   have ei:(16*x+i) % 16=i:=by omega
   rw[ex] at p1;rw[ei] at p2
   rw[I.inj p1 hf, ] at p2
   rw[p2] at hn
   obtain⟨c1,c2, _⟩:=I.um hb
   rw[dA ⟨c1,c2⟩] at hn;cases hn
  ·subst e'
   rw[a6] at hb
   rw[aN e] at ha
   cases hb
   exfalso
   obtain⟨f',p1,p2⟩:=I.Ad ha (by omega)
   have ex:(16*x+i) / 16=x:=by omega
   have ei:(16*x+i) % 16=i:=by omega
   rw[ex] at p1;rw[ei] at p2
   rw[I.inj p1 hf, ] at p2
   rw[p2] at hn
   obtain⟨c1,c2, _⟩:=I.um ha
   rw[dA ⟨c1,c2⟩] at hn;cases hn
  ·rw[aN e] at ha
   rw[aN e'] at hb
   exact I.inj ha hb
 ·intro f0 o0 l0 x0 k h h0 h1 ht
  by_cases e:f0=(n:Int)
  ·subst e
   rw[w2 k h0 h1,(hG k h0 h1).1] at ht;cases ht
  ·rw[aN e] at h
   rcases old h h0 h1 with ⟨e1,rfl,rfl⟩|e1
   ·rw[e1,w3]
    rw[hf] at h;cases h
    exact⟨m,rfl,a6 _ _ _⟩
   ·rw[e1] at ht ⊢
    obtain⟨m',q1,q2⟩:=I.qc h h0 h1 ht
    exact⟨m',q1,by rw[aN (hne q2)];exact q2⟩
 ·intro f0 o0 l0 x0 k h h0 h1
  by_cases e:f0=(n:Int)
  ·subst e
   rw[a6] at h;cases h
   rw[w2 k h0 h1];exact(hG k h0 h1).2.1
  ·rw[aN e] at h
   rcases old h h0 h1 with ⟨e1,rfl,rfl⟩|e1
   ·rw[e1,w3];exact Uw _ (dA (by omega))
   ·rw[e1];exact I.leaf h h0 h1
 ·intro f0 o0 l0 x0 h hl
  by_cases e:f0=(n:Int)
  ·subst e
   rw[a6] at h;cases h
   have ex:(16*x+i) / 16=x:=by omega
   have ei:(16*x+i) % 16=i:=by omega
   exact⟨f,by rw[aN hfn,ex];exact hf,by rw[ei];exact w3⟩
  ·rw[aN e] at h
   obtain⟨f',p1,p2⟩:=I.Ad h hl
   refine⟨f',by rw[aN (hne p1)];exact p1,?_⟩
   rcases old p1 (by omega:0<=x0 % 16) (by omega) with ⟨e1,rfl,e3⟩|e1
   ·exfalso
    rw[e1] at p2;rw[p2] at hn
    obtain⟨c1,c2, _⟩:=I.um h
    rw[dA ⟨c1,c2⟩] at hn;cases hn
   ·rw[e1];exact p2
 ·intro f0 o0 l0 x0 k h h0 h1 hp
  by_cases e:f0=(n:Int)
  ·subst e
   rw[w2 k h0 h1] at hp
   show cZ (cH _ _ _) _=0
   rw[v0 _ (by omega),if_pos (by omega),show 16*(n:Int)+k - 16*(n:Int)=k from by omega]
   exact(hG k h0 h1).2.2 hp
  ·rw[aN e] at h
   rcases old h h0 h1 with ⟨e1,rfl,rfl⟩|e1
   ·rw[e1,w3] at hp;cases hp
   ·rw[e1] at hp
    have hb:16*f0+k≠16*f+i:=fun e2=>by
     rw[e2,w3] at e1
     rw[e2, <-e1] at hp;cases hp
    show cZ (cH _ _ _) _=0
    rw[v0 _ hb,if_neg (by omega)]
    exact I.wf h h0 h1 hp
 ·intro n' d hn' h3
  by_cases e:n'=n
  ·subst e;exact⟨_,a6 _ _ _⟩
  ·have h':(s.2.set n (3,o,0,0,()))[n']? =some d:=hn'
   rw[List.getElem?_set_ne (by omega)] at h'
   obtain⟨v,hv⟩:=I.tb h' h3
   exact⟨v,by rw[aN (by omega)];exact hv⟩
theorem OH (I:Inv g s) {f o x i v:Int} {l:Nat} (hf:g f=some (o,l,x)) (Fb:0<=i) (hi1:i<16) (hn:dy (aC s.1 (16*f+i))=false) (hv:dy (ee v)=false) (hl:iW l (ee v)) (Pf:(ee v).1=false->v=0):
 aC (cH s.1 (16*f+i) v) (16*f+i)=ee v/\Inv g (cH s.1 (16*f+i) v,s.2):=by
 have hfr:=I.um hf
 have Qk:uj s.1 (16*f+i)=true:=jk (by omega) (by omega)
 have w3:=vz (v:=v) Qk
 have old: ∀{f0 k:Int},0<=k->k<16->(16*f0+k=16*f+i/\f0=f/\k=i)\/aC (cH s.1 (16*f+i) v) (16*f0+k)=aC s.1 (16*f0+k):=fun{f0 k} h0 h1=>by
  by_cases e:16*f0+k=16*f+i
  ·exact .inl ⟨e,by omega,by omega⟩
  ·exact .inr (fN (fun e'=>e e'.symm))
 refine⟨w3,by show 16*s.2.length<=(cH _ _ _).length;rw[cu];exact I.len,I.le,I.fz,I.kd,I.inj,?_,?_,?_,?_,I.tb⟩
 ·intro f0 o0 l0 x0 k h h0 h1 ht
  rcases old (f0:=f0) h0 h1 with ⟨e1,rfl,rfl⟩|e1
  ·rw[w3,hv] at ht;cases ht
  ·have ht':dy (aC s.1 (16*f0+k))=true:=by rw[<-e1];exact ht
   show∃m,l0=m+1/\g (aC (cH s.1 (16*f+i) v) (16*f0+k)).2.2.2.1= _
   rw[e1]
   exact I.qc h h0 h1 ht'
 ·intro f0 o0 l0 x0 k h h0 h1
  show iW l0 (aC (cH s.1 (16*f+i) v) (16*f0+k))
  rcases old (f0:=f0) h0 h1 with ⟨e1,rfl,rfl⟩|e1
  ·rw[w3]
   rw[hf] at h;cases h;exact hl
  ·rw[e1];exact I.leaf h h0 h1
 ·intro f0 o0 l0 x0 h hl
  obtain⟨f',p1,p2⟩:=I.Ad h hl
  refine⟨f',p1,?_⟩
  show aC (cH s.1 (16*f+i) v) (16*f'+x0 % 16)= _
  rcases old (f0:=f') (by omega:0<=x0 % 16) (by omega) with ⟨e1,rfl,e3⟩|e1
  ·exfalso
   rw[e1] at p2;rw[p2] at hn
   obtain⟨c1,c2, _⟩:=I.um h
   rw[dA ⟨c1,c2⟩] at hn;cases hn
  ·rw[e1];exact p2
 ·intro f0 o0 l0 x0 k h h0 h1 hp
  show cZ (cH s.1 (16*f+i) v) (16*f0+k)=0
  have oy:(aC (cH s.1 (16*f+i) v) (16*f0+k)).1=false:=hp
  by_cases e:16*f0+k=16*f+i
  ·rw[e,w3] at oy
   rw[e,qK Qk];exact Pf oy
  ·rw[fN (fun e'=>e e'.symm)] at oy
   rw[mw (fun e'=>e e'.symm)];exact I.wf h h0 h1 oy
theorem prune (I:Inv g s) {f o x i f2:Int} {m:Nat} (hf:g f=some (o,m+1,x)) (Fb:0<=i) (hi1:i<16) (hg:g f2=some (o,m,16*x+i)) (he:aC s.1 (16*f+i)=bN f2) (hz: ∀k,0<=k->k<16->aC s.1 (16*f2+k)=zE):
 aC (cH s.1 (16*f+i) 0) (16*f+i)=zE/\fQ s.2 f2 (aE 5 0)=s.2.set f2.toNat (5,o,0,0,())/\Inv (jS g f2 none) (cH s.1 (16*f+i) 0,fQ s.2 f2 (aE 5 0)):=by
 have hfr:=I.um hf
 have hk:=I.kd hf
 have hk2:=I.kd hg
 have Qk:uj s.1 (16*f+i)=true:=jk (by omega) (by omega)
 have w3:aC (cH s.1 (16*f+i) 0) (16*f+i)=zE:=by rw[vz Qk];exact m7
 have hds:fQ s.2 f2 (aE 5 0)=s.2.set f2.toNat (5,o,0,0,()):=by
  rw[pS ⟨hk2.1,hk2.2.1⟩,List.getD_eq_getElem?_getD,hk2.2.2.1]
  show(if(aE 5 0 (3,o,0,0,())).2=0 then s.2.set f2.toNat (aE 5 0 (3,o,0,0,())).1 else _)= _
  rw[A5 ⟨hk.2.2.2.1,hk.2.2.2.2.1⟩,if_pos rfl]
 have Ql: ∀{f0 v},jS g f2 none f0=some v->f0≠f2/\g f0=some v:=fun{f0 v} h=>by
  by_cases e:f0=f2
  ·rw[e,a6] at h;cases h
  ·rw[aN e] at h;exact⟨e,h⟩
 have old: ∀{f0 k:Int},0<=k->k<16->(16*f0+k=16*f+i/\f0=f/\k=i)\/aC (cH s.1 (16*f+i) 0) (16*f0+k)=aC s.1 (16*f0+k):=fun{f0 k} h0 h1=>by
  by_cases e:16*f0+k=16*f+i
  ·exact .inl ⟨e,by omega,by omega⟩
  ·exact .inr (fN (fun e'=>e e'.symm))
 refine⟨w3,hds,?_⟩
 rw[hds]
 refine⟨?_,?_,?_,?_,?_,?_,?_,?_,?_,?_⟩
 ·show 16*(s.2.set _ _).length<=(cH _ _ _).length
  rw[cu,List.length_set];exact I.len
 ·show(s.2.set _ _).length<=4096
  rw[List.length_set];exact I.le
 ·intro d hd h0
  rcases List.mem_or_eq_of_mem_set hd with hd|rfl
  ·exact I.fz d hd h0
  ·cases h0
 ·intro f0 o0 l0 x0 h
  obtain⟨hne,h⟩:=Ql h
  show _/\ _<((s.2.set f2.toNat (5,o,0,0,())).length:Int)/\(s.2.set f2.toNat (5,o,0,0,()))[f0.toNat]? = _/\ _
  rw[List.length_set]
  obtain⟨a1,a2,a3,a4⟩:=I.kd h
  refine⟨a1,a2,?_,a4⟩
  rw[List.getElem?_set_ne (by omega)];exact a3
 ·intro a b v ha hb
  exact I.inj (Ql ha).2 (Ql hb).2
 ·intro f0 o0 l0 x0 k h h0 h1 ht
  obtain⟨hne,h⟩:=Ql h
  rcases old (f0:=f0) h0 h1 with ⟨e1,rfl,rfl⟩|e1
  ·rw[w3] at ht;cases ht
  ·have ht':dy (aC s.1 (16*f0+k))=true:=by rw[<-e1];exact ht
   show∃m,l0=m+1/\jS g f2 none (aC (cH s.1 (16*f+i) 0) (16*f0+k)).2.2.2.1= _
   rw[e1]
   obtain⟨m',q1,q2⟩:=I.qc h h0 h1 ht'
   refine⟨m',q1,?_⟩
   rw[aN]
   ·exact q2
   ·intro e
    rw[e,hg] at q2
    simp only[Option.some.injEq,Prod.mk.injEq] at q2
    obtain⟨a1,a2,a3⟩:=q2
    have ek:k=i:=by omega
    have ex:x0=x:=by omega
    subst ek;subst ex;subst a1;subst a2;subst q1
    have:=I.inj h hf
    subst this
    rw[w3] at e1
    rw[<-e1] at ht';cases ht'
 ·intro f0 o0 l0 x0 k h h0 h1
  obtain⟨hne,h⟩:=Ql h
  show iW l0 (aC (cH s.1 (16*f+i) 0) (16*f0+k))
  rcases old (f0:=f0) h0 h1 with ⟨e1,rfl,rfl⟩|e1
  ·rw[w3];exact Az _
  ·rw[e1];exact I.leaf h h0 h1
 ·intro f0 o0 l0 x0 h hl
  obtain⟨hne,h⟩:=Ql h
  obtain⟨f',p1,p2⟩:=I.Ad h hl
  have hf':f'≠f2:=fun e=>by
   rw[e,hz _ (by omega) (by omega)] at p2
   cases p2
  refine⟨f',by rw[aN hf'];exact p1,?_⟩
  show aC (cH s.1 (16*f+i) 0) (16*f'+x0 % 16)= _
  rcases old (f0:=f') (by omega:0<=x0 % 16) (by omega) with ⟨e1,rfl,e3⟩|e1
  ·exfalso
   rw[e1,he] at p2
   unfold bN at p2
   simp only[Prod.mk.injEq,and_true,true_and] at p2
   exact hne p2.symm
  ·rw[e1];exact p2
 ·intro f0 o0 l0 x0 k h h0 h1 hp
  obtain⟨hne,h⟩:=Ql h
  show cZ (cH s.1 (16*f+i) 0) (16*f0+k)=0
  have oy:(aC (cH s.1 (16*f+i) 0) (16*f0+k)).1=false:=hp
  by_cases e:16*f0+k=16*f+i
  ·rw[e,qK Qk]
  ·rw[fN (fun e'=>e e'.symm)] at oy
   rw[mw (fun e'=>e e'.symm)];exact I.wf h h0 h1 oy
 ·intro n' d hn' h3
  have h':(s.2.set f2.toNat (5,o,0,0,()))[n']? =some d:=hn'
  by_cases e:n'=f2.toNat
  ·subst e
   rw[List.getElem?_set_self (by omega)] at h'
   cases h'
   exact absurd (show(5:Int)=3 from h3) (by decide)
  ·rw[List.getElem?_set_ne (by omega)] at h'
   obtain⟨v,hv⟩:=I.tb h' h3
   exact⟨v,by rw[aN (by omega)];exact hv⟩
end Inv
end Go.Proofs.YtdnoecpjcoibmaaGreat
namespace Go.Proofs.YtdnoecpjcoibmaaGreat
set_option maxRecDepth 100000
open Go.RX D
def lM (p:Int) (j:Nat) (e:ET):Int×Int×Int×Unit:=if e.1=true then(if j=1 then e.2.2.2.1+p % 16 else e.2.2.2.1,e.2.1,0,()) else(0,0,4,())
theorem B9 (p:Int) (j:Nat) {e:ET} (h:e.1=false):lM p j e=(0,0,4,()):=by unfold lM;rw[h,if_neg (by decide)]
def kS (g g':Gh):Prop:= ∀o r x,g' r=some (o,3,x)<->g r=some (o,3,x)
theorem kS.refl (g:Gh):kS g g:=fun _ _ _=>Iff.rfl
theorem kS.trans {a b c:Gh} (h:kS a b) (k:kS b c):kS a c:=fun o r x=>(k o r x).trans (h o r x)
theorem kS.to {g g':Gh} {o r x:Int} (h:kS g g') (k:g r=some (o,3,x)):g' r=some (o,3,x):=(h _ _ _).2 k
def wQ (o:Int) (g g':Gh) (s s':WD):Prop:= ∀ ⦃f o' l x⦄,o'≠o->g f=some (o',l,x)->g' f=some (o',l,x)/\ ∀k,0<=k->k<16->aC s'.1 (16*f+k)=aC s.1 (16*f+k)
theorem wQ.refl (o:Int) (g:Gh) (s:WD):wQ o g g s s:=fun _ _ _ _ _ h=>⟨h,fun _ _ _=>rfl⟩
theorem wQ.trans {o:Int} {a b c:Gh} {s t u:WD} (h:wQ o a b s t) (k:wQ o b c t u):wQ o a c s u:=fun _ _ _ _ hn hf=>by
 obtain⟨h1,h2⟩:=h hn hf
 obtain⟨k1,k2⟩:=k hn h1
 exact⟨k1,fun i h0 h3=>(k2 i h0 h3).trans (h2 i h0 h3)⟩
def qw (P:Int->Int->Prop) (g g':Gh) (s s':WD):Prop:= ∀ ⦃o p f j⦄,¬ P o p->c9 g s o p f j-> ∃f' j',c9 g' s' o p f' j'/\lM p j' (aC s'.1 (16*f'+px j' p % 16))=lM p j (aC s.1 (16*f+px j p % 16))
theorem qw.refl (P:Int->Int->Prop) (g:Gh) (s:WD):qw P g g s s:=fun _ _ _ _ _ h=>⟨_, _,h,rfl⟩
theorem qw.trans {P:Int->Int->Prop} {a b c:Gh} {s t u:WD} (h:qw P a b s t) (k:qw P b c t u):qw P a c s u:=fun _ _ _ _ hp he=>by
 obtain⟨f1,j1,h1,h2⟩:=h hp he
 obtain⟨f2,j2,k1,k2⟩:=k hp h1
 exact⟨f2,j2,k1,k2.trans h2⟩
theorem qw.mono {P P':Int->Int->Prop} {a b:Gh} {s t:WD} (h:qw P a b s t) (hp: ∀o p,P o p->P' o p):qw P' a b s t:=fun _ _ _ _ hn he=>h (fun c=>hn (hp _ _ c)) he
def Qm:Int->Int->Prop:=fun _ _=>False
def mz (o:Int) (l:Nat) (p:Int):Int->Int->Prop:=fun o' q=>o'=o/\px l q=px l p
namespace Inv
variable {g:Gh} {s:WD}
theorem fB (I:Inv g s) {o r p:Int} (hr:g r=some (o,3,0)) (hp:0<=p/\p<65536) {f:Int} {j:Nat} (h:c9 g s o p f j):aV s r false p=lM p j (aC s.1 (16*f+px j p % 16)):=by
 obtain⟨e1,e2⟩:=I.j0 hr hp h
 unfold aV lM
 rw[if_neg (by decide),if_neg (by omega),e2,e1]
 unfold oF
 cases hb:(aC s.1 (16*f+px j p % 16)).1 with
 |false=>rw[if_neg (by decide),if_neg (by decide)]
 |true=>
  rw[if_pos rfl,if_pos rfl]
  by_cases hj:j=1
  ·subst hj;rfl
  ·rw[if_neg hj,if_neg (by show ¬ ((j:Int)=1);omega)]
theorem vA (I:Inv g s) {g':Gh} {s':WD} (I':Inv g' s') {P:Int->Int->Prop} (hk:qw P g g' s s') (hR:kS g g') {o r p:Int} (hr:g r=some (o,3,0)) (hp: ¬ P o p):aV s' r false p=aV s r false p:=by
 by_cases h:0<=p/\p<65536
 ·obtain⟨f,j, _,he⟩:=I.jH hr h
  obtain⟨f',j',h1,h2⟩:=hk hp he
  rw[I.fB hr h he,I'.fB (hR.to hr) h h1,h2]
 ·have e: ∀t:WD,aV t r false p=(0,0,2,()):=fun t=>by
   unfold aV
   rw[if_neg (by decide),if_pos (by omega)]
  rw[e,e]
theorem A6 (I:Inv g s) {f o x i:Int} {m:Nat} (hf:g f=some (o,m+1,x)) (Fb:0<=i) (hi1:i<16) (hn:dy (aC s.1 (16*f+i))=false) (hc:0<aX s.2 0) (G:Int->Int)
 (hG: ∀k,0<=k->k<16->dy (ee (G k))=false/\iW m (ee (G k))/\((ee (G k)).1=false->G k=0))
 (hsame: ∀p,0<=px m p % 16->px (m+1) p % 16=i->lM p m (ee (G (px m p % 16)))=lM p (m+1) (aC s.1 (16*f+i))):
 let n:=dL s o
 let s':=dx (gM s o G) (16*f+i) (bN n)
 let g':=jS g n (some (o,m,16*x+i))
 pq s o=0/\Inv g' s'/\kS g g'/\wQ o g g' s s'/\qw Qm g g' s s'/\s'.2=s.2.set n.toNat (3,o,0,0,())/\s.2[n.toNat]? =some zD/\
 (∀p,c9 g s o p f (m+1)->px (m+1) p % 16=i->c9 g' s' o p n m/\aC s'.1 (16*n+px m p % 16)=ee (G (px m p % 16)))/\0<=n/\n<4096:=by
 obtain⟨q0,q1,q2,q3,q4,q5,q6,q7,q8,q9⟩:=I.grow hf Fb hi1 hn hc G hG
 dsimp only
 have hne: ∀{f':Int} {v},g f'=some v->f'≠dL s o:=fun h e=>by rw[e,q1] at h;cases h
 have hit: ∀p,c9 g s o p f (m+1)->px (m+1) p % 16=i->c9 (jS g (dL s o) (some (o,m,16*x+i))) (dx (gM s o G) (16*f+i) (bN (dL s o))) o p (dL s o) m/\aC (dx (gM s o G) (16*f+i) (bN (dL s o))).1 (16*dL s o+px m p % 16)=ee (G (px m p % 16)):=fun p he hp=>by
  have e:=q7 (px m p % 16) (eo p m).1 (eo p m).2
  refine⟨⟨?_,by rw[e];exact(hG _ (eo p m).1 (eo p m).2).1⟩,e⟩
  rw[a6]
  have h1:=he.1
  rw[hf] at h1
  simp only[Option.some.injEq,Prod.mk.injEq,true_and] at h1
  rw[h1, <-hp, <-nY]
 refine⟨q0,q9,fun o' r' x'=>?_,fun ⦃f0 o' l x0⦄ ho h=>⟨?_,fun k h0 h1=>?_⟩,fun ⦃o' p f' j⦄ _ he=>?_,q4,q5,hit,q2,by have:=I.le;omega⟩
 ·by_cases e:r'=dL s o
  ·rw[e,a6,q1]
   refine⟨fun h=>?_,fun h=>by cases h⟩
   have:=(I.kd hf).2.2.2.2.2
   simp only[Option.some.injEq,Prod.mk.injEq] at h
   omega
  ·rw[aN e]
 ·rw[aN (hne h)];exact h
 ·have:=hne h
  refine q6 _ (fun e=>?_) (by omega)
  have:f0=f:=by omega
  subst this
  rw[hf] at h;cases h;exact ho rfl
 ·by_cases hh:f'=f/\px j p % 16=i
  ·obtain⟨rfl,hp⟩:=hh
   have h1:=he.1
   rw[hf] at h1
   simp only[Option.some.injEq,Prod.mk.injEq] at h1
   obtain⟨rfl,rfl,rfl⟩:=h1
   obtain⟨k1,k2⟩:=hit p he hp
   refine⟨_, _,k1,?_⟩
   rw[k2,hp]
   exact hsame p (eo p m).1 hp
  ·have e:aC (dx (gM s o G) (16*f+i) (bN (dL s o))).1 (16*f'+px j p % 16)=aC s.1 (16*f'+px j p % 16):=by
    have:=hne he.1
    have:=eo p j
    refine q6 _ (fun e=>hh ?_) (by omega)
    omega
   refine⟨f',j,⟨by rw[aN (hne he.1)];exact he.1,by rw[e];exact he.2⟩,by rw[e]⟩
theorem vB (I:Inv g s) {f o x i v:Int} {l:Nat} (hf:g f=some (o,l,x)) (Fb:0<=i) (hi1:i<16) (hn:dy (aC s.1 (16*f+i))=false) (hv:dy (ee v)=false) (hl:iW l (ee v)) (Pf:(ee v).1=false->v=0) {q:Int} (hq:c9 g s o q f l) (Zq:px l q % 16=i):
 Inv g (cH s.1 (16*f+i) v,s.2)/\wQ o g g s (cH s.1 (16*f+i) v,s.2)/\qw (mz o l q) g g s (cH s.1 (16*f+i) v,s.2)/\
 (∀p,px l p=px l q->c9 g (cH s.1 (16*f+i) v,s.2) o p f l/\c9 g s o p f l)/\aC (cH s.1 (16*f+i) v) (16*f+i)=ee v:=by
 obtain⟨e0,I'⟩:=I.OH hf Fb hi1 hn hv hl Pf
 have hx:=hq.1
 rw[hf] at hx
 simp only[Option.some.injEq,Prod.mk.injEq,true_and] at hx
 refine⟨I',fun ⦃f0 o' l0 x0⦄ ho h=>⟨h,fun k h0 h1=>?_⟩,fun ⦃o' p f' j⦄ hp he=>?_,fun p hp=>?_,e0⟩
 ·refine fN (fun e=>ho ?_)
  have:f0=f:=by omega
  subst this
  rw[hf] at h;cases h;rfl
 ·have e:aC (cH s.1 (16*f+i) v) (16*f'+px j p % 16)=aC s.1 (16*f'+px j p % 16):=by
   refine fN (fun e=>hp ?_)
   have h2:=eo p j
   have:f'=f:=by omega
   subst this
   have h1:=he.1
   rw[hf] at h1
   simp only[Option.some.injEq,Prod.mk.injEq] at h1
   obtain⟨rfl,rfl,h3⟩:=h1
   refine⟨rfl,?_⟩
   rw[nY p,nY q, <-h3, <-hx]
   omega
  exact⟨f',j,⟨he.1,by show dy (aC (cH s.1 (16*f+i) v) _)=false;rw[e];exact he.2⟩,by show lM p j (aC (cH s.1 (16*f+i) v) _)= _;rw[e]⟩
 ·have h1:px (l+1) p=px (l+1) q:=by simp only[px];rw[hp]
  have h2:px l p % 16=i:=by rw[hp];exact Zq
  refine⟨⟨by rw[h1];exact hq.1,?_⟩,⟨by rw[h1];exact hq.1,by rw[h2];exact hn⟩⟩
  show dy (aC (cH s.1 (16*f+i) v) (16*f+px l p % 16))=false
  rw[h2,e0];exact hv
theorem GX (I:Inv g s) {f o x i f2:Int} {m:Nat} (hf:g f=some (o,m+1,x)) (Fb:0<=i) (hi1:i<16) (hg:g f2=some (o,m,16*x+i)) (he:aC s.1 (16*f+i)=bN f2) (hz: ∀k,0<=k->k<16->aC s.1 (16*f2+k)=zE):
 let s':WD:=(cH s.1 (16*f+i) 0,fQ s.2 f2 (aE 5 0))
 let g':=jS g f2 none
 Inv g' s'/\kS g g'/\wQ o g g' s s'/\qw Qm g g' s s'/\s'.2=s.2.set f2.toNat (5,o,0,0,())/\s.2[f2.toNat]? =some (3,o,0,0,())/\(∀p,c9 g s o p f2 m->c9 g' s' o p f (m+1))/\aC s'.1 (16*f+i)=zE:=by
 obtain⟨q1,q2,q3⟩:=I.prune hf Fb hi1 hg he hz
 dsimp only
 have hfr:=I.um hg
 have lF:f≠f2:=fun e=>by
  subst e
  rw[hf] at hg
  simp at hg
 have nt:dy (aC s.1 (16*f+i))=true:=by rw[he];exact dA ⟨hfr.1,hfr.2.1⟩
 have hit: ∀p,c9 g s o p f2 m->c9 (jS g f2 none) (cH s.1 (16*f+i) 0,fQ s.2 f2 (aE 5 0)) o p f (m+1)/\px (m+1) p % 16=i:=fun p h=>by
  have h1:=h.1
  rw[hg] at h1
  simp only[Option.some.injEq,Prod.mk.injEq,true_and] at h1
  have h2:=nY p (m+1)
  have h3:=eo p (m+1)
  have e1:px (m+1+1) p=x:=by omega
  have e2:px (m+1) p % 16=i:=by omega
  refine⟨⟨by rw[aN lF,e1];exact hf,?_⟩,e2⟩
  show dy (aC (cH s.1 (16*f+i) 0) (16*f+px (m+1) p % 16))=false
  rw[e2,q1];exact Fi
 refine⟨q3,fun o' r' x'=>?_,fun ⦃f0 o' l x0⦄ ho h=>⟨?_,fun k h0 h1=>?_⟩,fun ⦃o' p f' j⦄ _ h=>?_,q2,(I.kd hg).2.2.1,fun p h=>(hit p h).1,q1⟩
 ·by_cases e:r'=f2
  ·subst e
   rw[a6,hg]
   refine⟨fun h=>(by cases h),fun h=>?_⟩
   simp only[Option.some.injEq,Prod.mk.injEq] at h
   have:=(I.kd hf).2.2.2.2.2
   omega
  ·rw[aN e]
 ·rw[aN]
  ·exact h
  ·intro e;subst e
   rw[hg] at h;cases h;exact ho rfl
 ·refine fN (fun e=>ho ?_)
  have:f0=f:=by omega
  subst this
  rw[hf] at h;cases h;rfl
 ·by_cases e:f'=f2
  ·subst e
   have h1:=h.1
   rw[hg] at h1
   simp only[Option.some.injEq,Prod.mk.injEq] at h1
   obtain⟨rfl,rfl,h1⟩:=h1
   obtain⟨k1,k2⟩:=hit p h
   refine⟨_, _,k1,?_⟩
   show lM p _ (aC (cH s.1 (16*f+i) 0) _)= _
   rw[k2,q1,hz _ (eo p m).1 (eo p m).2,B9 _ _ rfl,B9 _ _ rfl]
  ·have e1:aC (cH s.1 (16*f+i) 0) (16*f'+px j p % 16)=aC s.1 (16*f'+px j p % 16):=by
    refine fN (fun e=>?_)
    have h2:=h.2
    rw[<-e,nt] at h2;cases h2
   refine⟨f',j,⟨by rw[aN e];exact h.1,?_⟩,?_⟩
   ·show dy (aC (cH s.1 (16*f+i) 0) _)=false
    rw[e1];exact h.2
   ·show lM p j (aC (cH s.1 (16*f+i) 0) _)= _
    rw[e1]
end Inv
end Go.Proofs.YtdnoecpjcoibmaaGreat
namespace Go.Proofs.YtdnoecpjcoibmaaGreat
set_option maxRecDepth 100000
open Go.RX D
structure Kept (s s':WD):Prop where
 Ta: ∀{n:Nat} {d:DT},s.2[n]? =some d->d.1=4\/d.1=5->s'.2[n]? =some d
 Vf: ∀{n:Nat} {d:DT},s.2[n]? =some d->d.1=4\/d.1=5-> ∀k:Int,0<=k->k<16->cZ s'.1 (16*(n:Int)+k)=cZ s.1 (16*(n:Int)+k)
 nw: ∀{n:Nat} {d:DT},s'.2[n]? =some d->s.2[n]? =some d\/((d.1=3\/d.1=5)/\d.2.2=(0,0,())/\1<=d.2.1/\d.2.1<=16)
theorem Kept.ks {s s':WD} (K:Kept s s') {n:Nat} {d:DT} (h:s.2[n]? =some d) (h4:d.1=4):s'.2[n]? =some d:=K.Ta h (.inl h4)
theorem Kept.ws {s s':WD} (K:Kept s s') {n:Nat} {d:DT} (h:s.2[n]? =some d) (h4:d.1=4) (k:Int) (k0:0<=k) (k1:k<16):cZ s'.1 (16*(n:Int)+k)=cZ s.1 (16*(n:Int)+k):=K.Vf h (.inl h4) k k0 k1
theorem Kept.refl (s:WD):Kept s s:=⟨fun h _=>h,fun _ _ _ _ _=>rfl,fun h=> .inl h⟩
theorem Kept.trans {s t u:WD} (h:Kept s t) (k:Kept t u):Kept s u:=
 ⟨fun h1 h2=>k.Ta (h.Ta h1 h2) h2,fun h1 h2 i i0 i1=>(k.Vf (h.Ta h1 h2) h2 i i0 i1).trans (h.Vf h1 h2 i i0 i1),fun h1=>(k.nw h1).elim h.nw .inr⟩
theorem Kept.set {s:WD} {W:List Int} {n:Nat} {d0 d1:DT} (h0:s.2[n]? =some d0) (hk:d0.1≠4/\d0.1≠5) (h1:(d1.1=3\/d1.1=5)/\d1.2.2=(0,0,())/\1<=d1.2.1/\d1.2.1<=16) (hw: ∀{m:Nat} {d:DT},s.2[m]? =some d->d.1=4\/d.1=5-> ∀k:Int,0<=k->k<16->cZ W (16*(m:Int)+k)=cZ s.1 (16*(m:Int)+k)):Kept s (W,s.2.set n d1):=by
 have hn:n<s.2.length:=(List.getElem?_eq_some_iff.1 h0).1
 refine⟨fun{m d} hm h4=>?_,hw,fun{m d} hm=>?_⟩
 ·have e:n≠m:=fun e=>by subst e;rw[h0] at hm;cases hm;exact h4.elim hk.1 hk.2
  show(s.2.set n d1)[m]? = _
  rw[List.getElem?_set_ne e];exact hm
 ·have hm:(s.2.set n d1)[m]? =some d:=hm
  by_cases e:n=m
  ·subst e
   rw[List.getElem?_set_self hn] at hm
   cases hm
   exact .inr h1
  ·rw[List.getElem?_set_ne e] at hm
   exact .inl hm
def jB (s:WD) (f:Int):Prop:=0<=f/\ ∃d,s.2[f.toNat]? =some d/\d.1=5/\ ∀k:Int,0<=k->k<16->cZ s.1 (16*f+k)=0
theorem jB.kept {s s':WD} {f:Int} (h:jB s f) (K:Kept s s'):jB s' f:=by
 obtain⟨h0,d,h1,h2,h3⟩:=h
 refine⟨h0,d,K.Ta h1 (.inr h2),h2,fun k k0 k1=>?_⟩
 have:=K.Vf h1 (.inr h2) k k0 k1
 rw[show((f.toNat:Nat):Int)=f by omega] at this
 rw[this];exact h3 k k0 k1
theorem Inv.off {g:Gh} {s:WD} (I:Inv g s) {f o x i:Int} {l:Nat} (hf:g f=some (o,l,x)) (h0:0<=i) (h1:i<16) {n:Nat} {d:DT} (hd:s.2[n]? =some d) (h4:d.1=4\/d.1=5) {k:Int} (k0:0<=k) (k1:k<16):16*f+i≠16*(n:Int)+k:=by
 intro e
 have hk:=I.kd hf
 have e2:f.toNat=n:=by omega
 have h3:=hk.2.2.1
 rw[e2,hd] at h3
 cases h3
 exact absurd h4 (show ¬ ((3:Int)=4\/(3:Int)=5) by decide)
theorem Inv.zv {g:Gh} {s:WD} (I:Inv g s) {f o x i:Int} {l:Nat} (hf:g f=some (o,l,x)) (h0:0<=i) (h1:i<16) (v:Int):Kept s (cH s.1 (16*f+i) v,s.2):=
 ⟨fun h _=>h,fun{n d} hd h4 k k0 k1=>by show cZ (cH _ _ _) _= _;exact mw (I.off hf h0 h1 hd h4 k0 k1),fun h=> .inl h⟩
theorem Inv.ye {g:Gh} {s:WD} (I:Inv g s) {f o x i:Int} {m:Nat} (hf:g f=some (o,m+1,x)) (Fb:0<=i) (hi1:i<16) (hc:0<aX s.2 0) (G:Int->Int) (e:ET):Kept s (dx (gM s o G) (16*f+i) e):=by
 have hk:=I.kd hf
 obtain⟨n,wU,hn2,e1,e2,e3⟩:=lz hc I.fz ⟨hk.2.2.2.1,hk.2.2.2.2.1⟩
 have eF:dL s o=(n:Int):=e1
 have eE:pq s o=0:=e2
 have hlen:=I.len
 have hle:=I.le
 have hlen':16*(n:Int)+16<=s.1.length:=by omega
 have eS:gM s o G=(ew s.1 (n:Int) G 16,s.2.set n (3,o,0,0,())):=by unfold gM;rw[if_pos eE,eF,e3]
 obtain⟨W,hW⟩: ∃W,W=ew s.1 (n:Int) G 16:=⟨_,rfl⟩
 have HZ: ∀b,cZ W b=if 16*(n:Int)<=b/\b<16*(n:Int)+16 then G (b - 16*(n:Int)) else cZ s.1 b:=fun b=>by
  rw[hW];exact qL (by omega) hlen' 16 (Nat.le_refl _) b
 rw[<-hW] at eS
 clear hW
 have hS:dx (W,s.2.set n (3,o,0,0,())) (16*f+i) e=(cH W (16*f+i) (HY e),s.2.set n (3,o,0,0,())):=rfl
 rw[eS,hS]
 refine Kept.set hn2 (by decide) ⟨.inl rfl,rfl,hk.2.2.2.1,hk.2.2.2.2.1⟩ fun{m d} hd h4 k k0 k1=>?_
 have hne:n≠m:=fun e=>by subst e;rw[hn2] at hd;cases hd;exact absurd h4 (by decide)
 rw[mw (I.off hf Fb hi1 hd h4 k0 k1),HZ,if_neg (by omega)]
def xe (g:Gh) (s:WD):Prop:= ∀ ⦃f o l x i⦄,g f=some (o,l,x)->0<=i->i<16->(aC s.1 (16*f+i)).1=true->dy (aC s.1 (16*f+i))=false->l=0
theorem xe.Vg {g:Gh} {s s':WD} (h:xe g s) {f o x i:Int} {l:Nat} (hf:g f=some (o,l,x)) (h0:0<=i) (h1:i<16) (hw: ∀b,b≠16*f+i->aC s'.1 b=aC s.1 b)
 (he:(aC s'.1 (16*f+i)).1=true->dy (aC s'.1 (16*f+i))=false->l=0):xe g s':=fun f2 o2 l2 x2 k xg k0 k1 hp ht=>by
 by_cases e:16*f2+k=16*f+i
 ·have ef:f2=f:=by omega
  subst ef
  rw[hf] at xg
  cases xg
  rw[e] at hp ht
  exact he hp ht
 ·rw[hw _ e] at hp ht
  exact h xg k0 k1 hp ht
theorem xe.grow {g:Gh} {s s':WD} (h:xe g s) {f i F o x a:Int} {m:Nat} (hw: ∀b,b≠a->(b<16*F\/16*F+16<=b)->aC s'.1 b=aC s.1 b)
 (hF: ∀k,0<=k->k<16->(aC s'.1 (16*F+k)).1=true->m=0) (ha:dy (aC s'.1 a)=true):xe (jS g F (some (o,m,x))) s':=fun f2 o2 l2 x2 k xg k0 k1 hp ht=>by
 by_cases e:f2=F
 ·subst e
  rw[a6] at xg
  cases xg
  exact hF k k0 k1 hp
 ·rw[aN e] at xg
  by_cases e2:16*f2+k=a
  ·rw[e2,ha] at ht;cases ht
  ·rw[hw _ e2 (by omega)] at hp ht
   exact h xg k0 k1 hp ht
theorem xe.del {g:Gh} {s:WD} (h:xe g s) (F:Int):xe (jS g F none) s:=fun f2 o2 l2 x2 k xg k0 k1 hp ht=>by
 by_cases e:f2=F
 ·subst e
  rw[a6] at xg;cases xg
 ·rw[aN e] at xg
  exact h xg k0 k1 hp ht
def QS (P:Int->Int->Prop):Prop:= ∀o q q',P o q->P o q'->q=q'
theorem JE (l:Nat) (p:Int):px (l+1) p=px l (p / 16):=by
 induction l with
 |zero=>rfl
 |succ l ih=>rw[px,ih];rfl
theorem QS.lv {o p:Int} {lv:Nat} (h:QS (fun o' q=>o'=o/\px lv q=px lv p)):lv=0:=by
 cases lv with
 |zero=>rfl
 |succ l=>
  have hq:(16*(p / 16)+(p % 16+1) % 16) / 16=p / 16:=by omega
  have:=h o p (16*(p / 16)+(p % 16+1) % 16) ⟨rfl,rfl⟩ ⟨rfl,by rw[JE,JE,hq]⟩
  omega
structure qo (P:Int->Int->Prop) (o:Int) (g g':Gh) (s s':WD):Prop where
 inv:Inv g' s'
 root:kS g g'
 M_:wQ o g g' s s'
 Ap:qw P g g' s s'
 kk: ∀{n:Nat} {d:DT},s.2[n]? =some d->d.1=3\/d.1=5-> ∃d':DT,s'.2[n]? =some d'/\(d'.1=5\/(d'.1=3/\d.1=3))
 len:s'.1.length=s.1.length/\s'.2.length=s.2.length
 kp:Kept s s'
 lg:QS P->xe g s->xe g' s'
 gk: ∀{f:Int} {v:Int×Nat×Int},g f=some v->g' f=some v\/jB s' f
theorem qo.refl {g:Gh} {s:WD} (I:Inv g s) (P:Int->Int->Prop) (o:Int):qo P o g g s s:=
 ⟨I,.refl g,.refl o g s,.refl P g s,fun{n d} h k=>⟨d,h,k.elim (fun e=> .inr ⟨e,e⟩) .inl⟩,⟨rfl,rfl⟩,.refl s,fun _ h=>h,fun h=> .inl h⟩
theorem qo.trans {P:Int->Int->Prop} {o:Int} {a b c:Gh} {s t u:WD} (h:qo P o a b s t) (k:qo P o b c t u):qo P o a c s u where
 inv:=k.inv
 root:=h.root.trans k.root
 M_:=h.M_.trans k.M_
 Ap:=h.Ap.trans k.Ap
 kk:=fun{n d} hd hk=>by
  obtain⟨d1,h1,h2⟩:=h.kk hd hk
  obtain⟨d2,k1,k2⟩:=k.kk h1 (h2.elim .inr fun e=> .inl e.1)
  refine⟨d2,k1,?_⟩
  rcases k2 with e|⟨e1,e2⟩
  ·exact .inl e
  ·rcases h2 with e|⟨_,e3⟩
   ·rw[e2] at e;exact absurd e (by decide)
   ·exact .inr ⟨e1,e3⟩
 len:=⟨k.len.1.trans h.len.1,k.len.2.trans h.len.2⟩
 kp:=h.kp.trans k.kp
 lg:=fun o n=>k.lg o (h.lg o n)
 gk:=fun h1=>(h.gk h1).elim (fun e=>k.gk e) (fun e=> .inr (e.kept k.kp))
theorem qo.mono {P P':Int->Int->Prop} {o:Int} {a b:Gh} {s t:WD} (h:qo P o a b s t) (hp: ∀o p,P o p->P' o p):qo P' o a b s t:=⟨h.inv,h.root,h.M_,h.Ap.mono hp,h.kk,h.len,h.kp,fun o1 n=>h.lg (fun o q q' a b=>o1 o q q' (hp _ _ a) (hp _ _ b)) n,h.gk⟩
theorem Co {ds:List DT} {i:Nat} {d0 d1:DT} (h0:ds[i]? =some d0) (hk:d0.1=3\/d0.1=5->d1.1=5) {n:Nat} {d:DT} (h:ds[n]? =some d) (k:d.1=3\/d.1=5): ∃d':DT,(ds.set i d1)[n]? =some d'/\(d'.1=5\/(d'.1=3/\d.1=3)):=by
 have hi:i<ds.length:=(List.getElem?_eq_some_iff.1 h0).1
 by_cases e:i=n
 ·subst e
  rw[h0] at h;cases h
  exact⟨d1,List.getElem?_set_self hi,.inl (hk k)⟩
 ·exact⟨d,by rw[List.getElem?_set_ne e];exact h,k.elim (fun e=> .inr ⟨e,e⟩) .inl⟩
theorem uz (s:WD) (o:Int) (G:Int->Int) (i:Int) (e:ET):(dx (gM s o G) i e).1.length=s.1.length:=by
 unfold dx gM
 show(cH _ _ _).length= _
 rw[cu]
 split
 ·exact fV _ _ _ _
 ·rfl
def Ae (g:Gh) (s:WD) (e:Option Int):Prop:= ∀ ⦃f o l x⦄,g f=some (o,l,x)->l<3->some f≠e-> ∃k,0<=k/\k<16/\(aC s.1 (16*f+k)).1=true
theorem Ae.some {g:Gh} {s:WD} (h:Ae g s none) (f:Int):Ae g s (some f):=fun _ _ _ _ hg hl _=>h hg hl (by simp)
namespace Inv
variable {g:Gh} {s:WD}
theorem down {o p:Int} (hp:0<=p/\p<65536) (lv:Nat): ∀(n:Nat) {g:Gh} {s:WD} {f:Int},Inv g s->c9 g s o p f (lv+n)->(aC s.1 (16*f+px (lv+n) p % 16)).1=false->n<=aX s.2 0->
 ∃g' s' f',qF o p n (s,(f,((lv+n:Nat):Int),16*f+px (lv+n) p % 16,()))=(s',(f',(lv:Int),16*f'+px lv p % 16,()))/\qo Qm o g g' s s'/\c9 g' s' o p f' lv/\(aC s'.1 (16*f'+px lv p % 16)).1=false/\aX s'.2 0+n=aX s.2 0/\(Ae g s (some f)->Ae g' s' (some f'))
 |0,g,s,f,I,he,hz, _=>⟨g,s,f,rfl,.refl I _ _,he,hz,rfl,fun h=>h⟩
 |n+1,g,s,f,I,he,hz,hc=>by
  have hk:=I.kd he.1
  have hlv:lv+n<=3:=by have:=hk.2.2.2.2.2;omega
  have hi:=eo p (lv+n+1)
  obtain⟨q0,q1,q2,q3,q4,q5,q6,q7,q8,q9⟩:=I.A6 (m:=lv+n) he.1 hi.1 hi.2 he.2 (by omega) (fun _=>0) (fun k _ _=>by
   rw[m7];exact⟨Fi,Az _,fun _=>rfl⟩) (fun p' _ oy=>by
   rw[m7,B9 _ _ rfl,B9]
   exact hz)
  obtain⟨e1,e2⟩:=q7 p he rfl
  have hF:0<=dL s o/\dL s o<4096:=⟨q8,q9⟩
  have yX:=nZ (d':=(3,o,0,0,())) q6 0
  have Fa:aX (dx (gM s o fun _=>0) (16*f+px (lv+n+1) p % 16) (bN (dL s o))).2 0+1=aX s.2 0:=by
   rw[q5]
   simpa[zD] using yX
  obtain⟨_,u1, _, _, _, _,u2,u4,u3, _⟩:=I.grow (m:=lv+n) he.1 hi.1 hi.2 he.2 (by omega) (fun _=>0) (fun k _ _=>by
   rw[m7];exact⟨Fi,Az _,fun _=>rfl⟩)
  have hC:qo Qm o g (jS g (dL s o) (some (o,lv+n,16*px (lv+n+1+1) p+px (lv+n+1) p % 16))) s (dx (gM s o fun _=>0) (16*f+px (lv+n+1) p % 16) (bN (dL s o))):=
   ⟨q1,q2,q3,q4,fun{m d} hd hk=>by rw[q5];exact Co q6 (fun h=>by rcases h with h|h<;>exact absurd h (by decide)) hd hk,⟨uz _ _ _ _ _,by rw[q5,List.length_set]⟩,I.ye (m:=lv+n) he.1 hi.1 hi.2 (by omega) _ _,fun _ nl=>nl.grow (f:=f) (i:=0) u2 (fun k k0 k1 hp=>by rw[u4 k k0 k1,m7] at hp;cases hp) (by rw[u3];exact dA hF),fun{f0 v0} hg=> .inl (by
    rw[aN (fun e=>?_)]
    ·exact hg
    ·obtain⟨o0,l0,x0⟩:=v0
     have:=(I.kd hg).2.2.1
     rw[e,q6] at this
     cases this)⟩
  have hne:Ae g s (some f)->Ae (jS g (dL s o) (some (o,lv+n,16*px (lv+n+1+1) p+px (lv+n+1) p % 16))) (dx (gM s o fun _=>0) (16*f+px (lv+n+1) p % 16) (bN (dL s o))) (some (dL s o)):=fun h f0 o0 l0 x0 h0 DG hn0=>by
   have wU:f0≠dL s o:=fun e=>hn0 (by rw[e])
   rw[aN wU] at h0
   by_cases e:f0=f
   ·subst e
    exact⟨_,hi.1,hi.2,by rw[u3];rfl⟩
   ·obtain⟨k,k1,k2,k3⟩:=h h0 DG (by simpa using e)
    exact⟨k,k1,k2,by rw[u2 _ (by omega) (by omega)];exact k3⟩
  obtain⟨g',s',f',r1,r2,r3,r4,r5,r6⟩:=down hp lv n q1 e1 (by rw[e2,m7];rfl) (by omega)
  refine⟨g',s',f',?_,hC.trans r2,r3,r4,by omega,fun h=>r6 (hne h)⟩
  rw[<-r1]
  show qF o p n (dx (gM s o fun _=>0) (16*f+px (lv+(n+1)) p % 16) (bN (dL s o)),(dL s o,((lv+(n+1):Nat):Int) - 1,dX (dL s o) p (((lv+(n+1):Nat):Int) - 1),()))= _
  have el:((lv+(n+1):Nat):Int) - 1=((lv+n:Nat):Int):=by omega
  rw[el,oM hF hp hlv]
  rfl
end Inv
end Go.Proofs.YtdnoecpjcoibmaaGreat
namespace Go.Proofs.YtdnoecpjcoibmaaGreat
set_option maxRecDepth 100000
open Go.RX D
theorem PD {ds:List DT} (h:aX ds 0=0):gE ds=none:=by
 unfold aX at h
 unfold gE
 rw[List.findIdx?_eq_none_iff]
 intro d hd
 have:=List.countP_eq_zero.1 h d hd
 simpa using this
theorem yf {ds:List DT} {y o:Int} (h: ¬ dj ds y o=0):c8 ds y o=ds:=by
 unfold dj at h
 unfold c8
 cases hf:gE ds with
 |none=>rfl
 |some n=>
  have hl: ¬ ds.length=0:=fun e=>by
   have:ds=[]:=List.length_eq_zero_iff.1 e
   subst this
   cases hf
  rw[if_neg hl,hf] at h
  dsimp only at h ⊢
  by_cases hr:(n:Int)<0\/(n:Int)>=ds.length
  ·exact zn hr _
  ·rw[ve (by omega)] at h
   rw[pS (by omega),if_neg h]
theorem Eu {s:WD} {o:Int} {G:Int->Int} (h: ¬ pq s o=0):gM s o G=s:=by
 unfold gM
 rw[if_neg h,yf h]
theorem LR {s:WD} {o:Int} (h:aX s.2 0=0) (hl:0<s.2.length): ¬ pq s o=0:=by
 unfold pq dj
 rw[if_neg (by omega),PD h]
 show ¬ (12:Int)=0
 decide
theorem zw {p:Int} {j:Nat} {e:ET} (h:(lM p j e).2.2.1=0):e.1=true:=by
 cases he:e.1 with
 |true=>rfl
 |false=>
  rw[B9 p j he] at h
  exact absurd h (by decide)
theorem JF {ws:List Int} {f:Int} (hf:0<=f) (hl:16*f+16<=ws.length) {k:Nat} (hk:k<16):(gP ws (16*f) 16)[k]? =some (cZ ws (16*f+(k:Int))):=by
 have e:gP ws (16*f) 16=(ws.drop (16*f).toNat).take 16:=if_neg (by omega)
 rw[e,List.getElem?_take_of_lt hk,List.getElem?_drop]
 unfold cZ
 have hi:(16*f).toNat+k<ws.length:=by omega
 rw[if_pos (jk (by omega) (by omega)),List.getElem?_eq_getElem hi,List.getD_eq_getElem?_getD]
 have e2:(16*f+(k:Int)).toNat=(16*f).toNat+k:=by omega
 rw[e2,List.getElem?_eq_getElem hi]
 rfl
theorem A7 {ws:List Int} {f:Int} (hf:0<=f) (hl:16*f+16<=ws.length) (h:ud ws f=true) (k:Int) (h0:0<=k) (h1:k<16):cZ ws (16*f+k)=0:=by
 have hk:=JF hf hl (k:=k.toNat) (by omega)
 unfold ud at h
 rw[List.all_eq_true] at h
 have:=h _ (List.mem_of_getElem? hk)
 rw[show((k.toNat:Nat):Int)=k from by omega] at this
 simpa using this
theorem LU {ws:List Int} {f:Int} (hf:0<=f) (hl:16*f+16<=ws.length) (h:ud ws f=false): ∃k:Int,0<=k/\k<16/\cZ ws (16*f+k)≠0:=by
 unfold ud at h
 rw[List.all_eq_false] at h
 obtain⟨v,hv,tX⟩:=h
 obtain⟨k,hk⟩:=List.getElem?_of_mem hv
 have hlen:(gP ws (16*f) 16).length=16:=by
  have e:gP ws (16*f) 16=(ws.drop (16*f).toNat).take 16:=if_neg (by omega)
  rw[e,List.length_take,List.length_drop];omega
 have Xa:k<16:=by have:=(List.getElem?_eq_some_iff.1 hk).1;omega
 have:=JF hf hl Xa
 rw[hk] at this
 refine⟨(k:Int),by omega,by omega,fun e=>tX ?_⟩
 cases this
 simpa using e
def Ph (F:Nat->Int) (p:Int):Nat->Nat->List PT
 |j,0=>[(F j,(j:Int),16*F j+px j p % 16,())]
 |j,n+1=>(F j,(j:Int),16*F j+px j p % 16,())::Ph F p (j+1) n
structure Up (g:Gh) (s:WD) (o p:Int) (F:Nat->Int) (j:Nat):Prop where
 gh: ∀i,j<=i->i<=3->g (F i)=some (o,i,px (i+1) p)
 ld: ∀i,j<=i->i<3->aC s.1 (16*F (i+1)+px (i+1) p % 16)=bN (F i)
theorem LV (F:Nat->Int) (p:Int) (j n:Nat): ∃l,Ph F p j n=(F j,(j:Int),16*F j+px j p % 16,())::l:=by cases n<;>exact⟨_,rfl⟩
namespace Inv
theorem put {g:Gh} {s:WD} (I:Inv g s) {o r p:Int} (hr:g r=some (o,3,0)) (hp:0<=p/\p<65536) {lv:Nat} {e:ET} (Qn:e.1=true) (Ff:aM e.1 e.2.1 e.2.2.1 e.2.2.2.1=true) (U0:dy e=false) (hel:iW lv e) (h0:ke s r p lv=0):
 ∃g',qo (mz o lv p) o g g' s (qv s o r p lv e)/\(∀q,px lv q=px lv p-> ∃f,c9 g' (qv s o r p lv e) o q f lv/\aC (qv s o r p lv e).1 (16*f+px lv q % 16)=e)/\
  (∃f j,lv<=j/\c9 g s o p f j/\(aC s.1 (16*f+px j p % 16)).1=false/\aX (qv s o r p lv e).2 0+(j - lv)=aX s.2 0)/\(Ae g s none->Ae g' (qv s o r p lv e) none):=by
 obtain⟨f,j,hj,he⟩:=I.jH hr hp
 obtain⟨eX,eP⟩:=I.j0 hr hp he
 have Pj:=h0
 unfold ke at Pj
 rw[eX,eP] at Pj
 dsimp only at Pj
 by_cases c1:((aC s.1 (16*f+px j p % 16)).1||decide (((j:Nat):Int)<((lv:Nat):Int)))=true
 ·rw[if_pos c1] at Pj;exact absurd Pj (by decide)
 rw[if_neg c1] at Pj
 by_cases c2:(aX s.2 0:Int)<((j:Nat):Int) - ((lv:Nat):Int)
 ·rw[if_pos c2] at Pj;exact absurd Pj (by decide)
 simp only[Bool.or_eq_true,decide_eq_true_eq,not_or,Bool.not_eq_true] at c1
 obtain⟨n,rfl⟩: ∃n,j=lv+n:=⟨j - lv,by omega⟩
 obtain⟨g1,s1,f1,d1,C1,E1,z1,n1,x1⟩:=down hp lv n I he c1.1 (by omega)
 have hS:qv s o r p lv e=(cH s1.1 (16*f1+px lv p % 16) (HY e),s1.2):=by
  unfold qv
  rw[if_pos h0,eX]
  have en:(((lv+n:Nat):Int) - ((lv:Nat):Int)).toNat=n:=by omega
  dsimp only
  rw[en,d1]
  rfl
 rw[hS]
 have hv:ee (HY e)=e:=uy Ff
 have hi:=eo p lv
 obtain⟨I2,O2,K2,A2,e2⟩:=C1.inv.vB (v:=HY e) E1.1 hi.1 hi.2 E1.2 (by rw[hv];exact U0) (by rw[hv];exact hel) (fun h=>by rw[hv,Qn] at h;cases h) E1 rfl
 refine⟨g1,(C1.mono fun _ _ h=>h.elim).trans ⟨I2,.refl _,O2,K2,fun{m d} h k=>⟨d,h,k.elim (fun e=> .inr ⟨e,e⟩) .inl⟩,⟨cu _ _ _,rfl⟩,C1.inv.zv E1.1 hi.1 hi.2 _,fun o1 nl=>nl.Vg E1.1 hi.1 hi.2 (fun b hb=>fN (fun e=>hb e.symm)) fun _ _=>o1.lv,fun h=> .inl h⟩,fun q hq=>⟨f1,(A2 q hq).1,?_⟩,⟨f,lv+n,by omega,he,c1.1,?_⟩,fun h=>?_⟩
 ·show aC (cH s1.1 _ _) _= _
  rw[hq,e2,hv]
 ·show aX s1.2 0+ _= _
  omega
 ·intro f0 o0 l0 x0 h0 DG _
  by_cases ef:f0=f1
  ·subst ef
   exact⟨_,hi.1,hi.2,by show(aC (cH s1.1 _ _) _).1=true;rw[e2,hv];exact Qn⟩
  ·obtain⟨k,k1,k2,k3⟩:=x1 (h.some f) h0 DG (by simpa using ef)
   exact⟨k,k1,k2,by show(aC (cH s1.1 _ _) _).1=true;rw[fN (by omega)];exact k3⟩
end Inv
end Go.Proofs.YtdnoecpjcoibmaaGreat
namespace Go.Proofs.YtdnoecpjcoibmaaGreat
set_option maxRecDepth 100000
open Go.RX D
theorem RW (x y:PT) (l:List PT) (t:WD):ij (x::y::l) t=if ud t.1 x.1=true then ij (y::l) (cH t.1 y.2.2.1 0,fQ t.2 x.1 (aE 5 0)) else t:=rfl
theorem TG {ws:List Int} {a:Int} (h:cZ ws a=0):aC ws a=zE:=by unfold aC;rw[h];exact m7
theorem Up.ne {g:Gh} {s:WD} {o p:Int} {F:Nat->Int} {j:Nat} (U:Up g s o p F j) {a b:Nat} (ha:j<=a) (Zr:a<=3) (hb:j<=b) (Zs:b<=3) (h:a≠b):F a≠F b:=fun e=>by
 have h1:=U.gh a ha Zr
 rw[e,U.gh b hb Zs] at h1
 simp only[Option.some.injEq,Prod.mk.injEq,true_and] at h1
 exact h h1.1.symm
theorem j7 {r:Int} {l:Bool} {f:Int}:aM true r l f=true<->(0<=r/\r<=7/\0<=f/\f<4096/\(r>0\/l=false)):=by
 unfold aM
 cases l<;>simp<;>omega
theorem IZ {p:Bool} {r:Int} {l:Bool} {f:Int} (h:r≠0):dy (p,r,l,f,())=false:=by
 unfold dy fy
 simp[h]
namespace Inv
theorem split {g:Gh} {s:WD} (I:Inv g s) {o r p:Int} (hr:g r=some (o,3,0)) (hp:0<=p/\p<65536) {f:Int} {j:Nat} (he:c9 g s o p f j) (wI:(aC s.1 (16*f+px j p % 16)).1=true) (h0:kf s o r p=0):
 ∃g' f',qo Qm o g g' s (eY s o r p)/\c9 g' (eY s o r p) o p f' 0/\aX (eY s o r p).2 0+j=aX s.2 0/\(Ae g s none->Ae g' (eY s o r p) none):=by
 obtain⟨eX,eP⟩:=I.j0 hr hp he
 have hi:=eo p j
 rcases I.leaf he.1 hi.1 hi.2 wI he.2 with ⟨rfl, _⟩|⟨rfl,V8,P2⟩
 ·have hS:eY s o r p=s:=by unfold eY;rw[eX];exact if_pos rfl
  rw[hS]
  exact⟨g,f,.refl I _ _,he,rfl,fun h=>h⟩
 ·have hE:kf s o r p=pq s o:=by unfold kf;rw[eX];exact if_neg (by show ¬ ((1:Int)=0);decide)
  rw[hE] at h0
  have hS:eY s o r p=dx (gM s o (mJ (aC s.1 (16*f+px 1 p % 16)))) (16*f+px 1 p % 16) (bN (dL s o)):=by
   unfold eY;rw[eX,eP]
   rw[if_neg (by show ¬ ((1:Int)=0);decide),if_pos h0]
  have hk:=I.kd he.1
  have hc:0<aX s.2 0:=by
   rcases Nat.eq_zero_or_pos (aX s.2 0) with e|e
   ·exact absurd h0 (LR e (by omega))
   ·exact e
  have Ff:=l_ s.1 (16*f+px 1 p % 16)
  rw[hS]
  have Xb:=he.2
  generalize Na:aC s.1 (16*f+px 1 p % 16)=e at V8 P2 Ff wI Xb ⊢
  obtain⟨ep,er,el,ef,eu⟩:=e
  dsimp only at V8 P2 Ff wI
  subst V8;subst wI
  obtain⟨b1,b2,b3,b4,b5⟩:=j7.1 Ff
  have b5:er>0:=b5.elim id (fun h=>by cases h)
  have hG: ∀k:Int,0<=k->k<16->ee (mJ (true,er,true,ef,()) k)=(true,er,false,ef+k,()):=fun k k0 k1=>by
   show ee (uH true er false (ef+k))= _
   exact uy (j7.2 ⟨b1,b2,by omega,by omega,.inr rfl⟩)
  have X6: ∀k,0<=k->k<16->dy (ee (mJ (true,er,true,ef,()) k))=false/\iW 0 (ee (mJ (true,er,true,ef,()) k))/\((ee (mJ (true,er,true,ef,()) k)).1=false->mJ (true,er,true,ef,()) k=0):=fun k k0 k1=>by
   rw[hG k k0 k1]
   exact⟨IZ (by omega),fun _ _=> .inl ⟨rfl,rfl⟩,fun h=>by cases h⟩
  obtain⟨q0,q1,q2,q3,q4,q5,q6,q7,q8,q9⟩:=I.A6 (m:=0) he.1 hi.1 hi.2 he.2 hc (mJ (true,er,true,ef,())) X6 (fun p' hp0 oy=>by
   rw[hG _ (eo p' 0).1 (eo p' 0).2,Na];rfl)
  obtain⟨_,u1, _, _, _, _,u2,u4,u3, _⟩:=I.grow (m:=0) he.1 hi.1 hi.2 he.2 hc (mJ (true,er,true,ef,())) X6
  obtain⟨e1,e2⟩:=q7 p he rfl
  have yX:=nZ (d':=(3,o,0,0,())) q6 0
  refine⟨_,dL s o,⟨q1,q2,q3,q4,fun{m d} hd hk=>by rw[q5];exact Co q6 (fun h=>by rcases h with h|h<;>exact absurd h (by decide)) hd hk,⟨uz _ _ _ _ _,by rw[q5,List.length_set]⟩,I.ye (m:=0) he.1 hi.1 hi.2 hc _ _,fun _ nl=>nl.grow (f:=f) (i:=0) u2 (fun _ _ _ _=>rfl) (by rw[u3];exact dA ⟨q8,q9⟩),fun{f0 v0} hg=> .inl (by
   rw[aN (fun e=>?_)]
   ·exact hg
   ·obtain⟨o0,l0,x0⟩:=v0
    have:=(I.kd hg).2.2.1
    rw[e,q6] at this
    cases this)⟩,e1,?_,?_⟩
  ·rw[q5]
   simpa[zD] using yX
  ·intro h f0 o0 l0 x0 h0 DG _
   by_cases wU:f0=dL s o
   ·subst wU
    exact⟨0,by decide,by decide,by rw[u4 0 (by decide) (by decide),hG 0 (by decide) (by decide)]⟩
   ·rw[aN wU] at h0
    by_cases e:f0=f
    ·subst e
     exact⟨_,hi.1,hi.2,by rw[u3];rfl⟩
    ·obtain⟨k,k1,k2,k3⟩:=h h0 DG (by simp)
     exact⟨k,k1,k2,by rw[u2 _ (by omega) (by omega)];exact k3⟩
theorem thin {o p:Int} (hp:0<=p/\p<65536) {F:Nat->Int}: ∀(n:Nat) {j:Nat} {g:Gh} {s:WD},j+n=3->Inv g s->Up g s o p F j->
 ∃g',qo Qm o g g' s (ij (Ph F p j n) s)/\aX (ij (Ph F p j n) s).2 0=aX s.2 0/\(Ae g s (some (F j))->Ae g' (ij (Ph F p j n) s) none)
 |0,j,g,s,hj,I,U=>by
  refine⟨g,.refl I _ _,rfl,fun h f0 o0 l0 x0 h0 DG _=>h h0 DG (fun e=>?_)⟩
  have h3:=U.gh j (Nat.le_refl _) (by omega)
  cases e
  rw[h0] at h3
  simp only[Option.some.injEq,Prod.mk.injEq] at h3
  omega
 |n+1,j,g,s,hj,I,U=>by
  obtain⟨l',hl'⟩:=LV F p (j+1) n
  have PU:Ph F p j (n+1)=(F j,(j:Int),16*F j+px j p % 16,())::(F (j+1),((j+1:Nat):Int),16*F (j+1)+px (j+1) p % 16,())::l':=by rw[Ph,hl']
  have g0:=U.gh j (Nat.le_refl _) (by omega)
  have g1:=U.gh (j+1) (by omega) (by omega)
  have Mx:=U.ld j (Nat.le_refl _) (by omega)
  have hi:=eo p (j+1)
  have r0:=I.um g0
  rw[PU,RW]
  cases ha:ud s.1 (F j) with
  |false=>
   rw[if_neg (by decide)]
   refine⟨g,.refl I _ _,rfl,fun h f0 o0 l0 x0 h0 DG _=>?_⟩
   by_cases e:f0=F j
   ·subst e
    obtain⟨k,k0,k1,k2⟩:=LU r0.1 r0.2.2 ha
    refine⟨k,k0,k1,?_⟩
    cases hb:(aC s.1 (16*F j+k)).1 with
    |true=>rfl
    |false=>exact absurd (I.wf g0 k0 k1 hb) k2
   ·exact h h0 DG (by simpa using e)
  |true=>
   rw[if_pos rfl]
   dsimp only
   have Zt:g (F j)=some (o,j,16*px (j+1+1) p+px (j+1) p % 16):=by rw[<-nY];exact g0
   obtain⟨q1,q2,q3,q4,q5,q6,q7,q8⟩:=I.GX g1 hi.1 hi.2 Zt Mx (fun k k0 k1=>TG (A7 r0.1 r0.2.2 ha k k0 k1))
   dsimp only at q1 q2 q3 q4 q5 q6 q7 q8
   have C1:qo Qm o g (jS g (F j) none) s (cH s.1 (16*F (j+1)+px (j+1) p % 16) 0,fQ s.2 (F j) (aE 5 0)):=
    ⟨q1,q2,q3,q4,fun{m d} hd hk=>by rw[q5];exact Co q6 (fun _=>rfl) hd hk,⟨cu _ _ _,by rw[q5,List.length_set]⟩,by rw[q5];exact Kept.set q6 (show ¬ (3:Int)=4/\ ¬ (3:Int)=5 by decide) ⟨.inr rfl,rfl,(I.kd g1).2.2.2.1,(I.kd g1).2.2.2.2.1⟩ fun{m d} hd h4 k k0 k1=>by rw[mw (I.off g1 hi.1 hi.2 hd h4 k0 k1)],fun _ nl=>(nl.Vg (s':=(cH s.1 (16*F (j+1)+px (j+1) p % 16) 0,fQ s.2 (F j) (aE 5 0))) g1 hi.1 hi.2 (fun b hb=>fN (fun e=>hb e.symm)) fun hp _=>by rw[q8] at hp;cases hp).del _,fun{f0 v0} hg=>by
     by_cases e:f0=F j
     ·subst e
      have hne:=U.ne (a:=j) (b:=j+1) (by omega) (by omega) (by omega) (by omega) (by omega)
      refine .inr ⟨r0.1, _,by rw[q5];exact List.getElem?_set_self (List.getElem?_eq_some_iff.1 q6).1,rfl,fun k k0 k1=>?_⟩
      show cZ (cH s.1 _ _) _=0
      rw[mw (by omega)]
      exact A7 r0.1 r0.2.2 ha k k0 k1
     ·exact .inl (by rw[aN e];exact hg)⟩
   have U1:Up (jS g (F j) none) (cH s.1 (16*F (j+1)+px (j+1) p % 16) 0,fQ s.2 (F j) (aE 5 0)) o p F (j+1):=by
    refine⟨fun i h1 h2=>?_,fun i h1 h2=>?_⟩
    ·rw[aN (U.ne (by omega) h2 (Nat.le_refl _) (by omega) (by omega))]
     exact U.gh i (by omega) h2
    ·have hne:=U.ne (a:=i+1) (b:=j+1) (by omega) (by omega) (by omega) (by omega) (by omega)
     have hi2:=eo p (i+1)
     show aC (cH _ _ _) _= _
     rw[fN (by omega)]
     exact U.ld i (by omega) h2
   obtain⟨g',c1,c2,c3⟩:=thin hp n (by omega) q1 U1
   rw[hl'] at c1 c2 c3
   refine⟨g',C1.trans c1,c2.trans ?_,fun h=>c3 fun f0 o0 l0 x0 h0 DG hn0=>?_⟩
   ·have:=nZ (d':=(5,o,0,0,())) q6 0
    rw[q5]
    simpa using this
   ·have n1:f0≠F j:=fun e=>by rw[e,a6] at h0;cases h0
    have n2:f0≠F (j+1):=fun e=>hn0 (by rw[e])
    rw[aN n1] at h0
    obtain⟨k,k0,k1,k2⟩:=h h0 DG (by simpa using n1)
    exact⟨k,k0,k1,by show(aC (cH _ _ _) _).1=true;rw[fN (by omega)];exact k2⟩
end Inv
end Go.Proofs.YtdnoecpjcoibmaaGreat
namespace Go.Proofs.YtdnoecpjcoibmaaGreat
set_option maxRecDepth 100000
open Go.RX D
namespace Inv
variable {g:Gh} {s:WD}
theorem Xc (I:Inv g s) {o r p f0:Int} (hr:g r=some (o,3,0)) (hp:0<=p/\p<65536) (E:c9 g s o p f0 0):
 ∃F:Nat->Int,F 0=f0/\Up g s o p F 0/\(cD s.1 p 3 r).reverse=Ph F p 0 3:=by
 obtain⟨f1,a1,b1⟩:=I.Ad E.1 (by decide)
 obtain⟨f2,a2,b2⟩:=I.Ad a1 (by decide)
 obtain⟨f3,a3,b3⟩:=I.Ad a2 (by decide)
 have e3:f3=r:=by
  refine I.inj a3 ?_
  rw[hr]
  have:=S_ hp
  simp only[px] at this ⊢
  rw[this]
 subst e3
 have r0:=I.um E.1
 have r1:=I.um a1
 have r2:=I.um a2
 have r3:=I.um a3
 refine⟨fun i=>match i with|0=>f0|1=>f1|2=>f2| _=>f3,rfl,⟨fun i _ h=>?_,fun i _ h=>?_⟩,?_⟩
 ·rcases i with _| _| _| _|i
  ·exact E.1
  ·exact a1
  ·exact a2
  ·exact a3
  ·omega
 ·rcases i with _| _| _|i
  ·exact b1
  ·exact b2
  ·exact b3
  ·omega
 ·have q3:=oM ⟨r3.1,r3.2.1⟩ hp (l:=3) (by omega)
  have q2:=oM ⟨r2.1,r2.2.1⟩ hp (l:=2) (by omega)
  have q1:=oM ⟨r1.1,r1.2.1⟩ hp (l:=1) (by omega)
  have q0:=oM ⟨r0.1,r0.2.1⟩ hp (l:=0) (by omega)
  have t2:=dA ⟨r2.1,r2.2.1⟩
  have t1:=dA ⟨r1.1,r1.2.1⟩
  have t0:=dA ⟨r0.1,r0.2.1⟩
  have c3:aC s.1 (dX f3 p ((2+1:Nat):Int))=bN f2:=by rw[q3];exact b3
  have c2:aC s.1 (dX f2 p ((1+1:Nat):Int))=bN f1:=by rw[q2];exact b2
  have c1:aC s.1 (dX f1 p ((0+1:Nat):Int))=bN f0:=by rw[q1];exact b1
  have w0:cD s.1 p 0 f0=[(f0,0,dX f0 p 0,())]:=rfl
  have w1:cD s.1 p 1 f1=[(f1,((0+1:Nat):Int),dX f1 p ((0+1:Nat):Int),()),(f0,0,dX f0 p 0,())]:=by rw[cD,c1,if_pos t0];rfl
  have w2:cD s.1 p 2 f2=[(f2,((1+1:Nat):Int),dX f2 p ((1+1:Nat):Int),()),(f1,((0+1:Nat):Int),dX f1 p ((0+1:Nat):Int),()),(f0,0,dX f0 p 0,())]:=by
   rw[cD,c2,if_pos t1]
   show _::cD s.1 p 1 f1= _
   rw[w1]
  have w3:cD s.1 p 3 f3=[(f3,((2+1:Nat):Int),dX f3 p ((2+1:Nat):Int),()),(f2,((1+1:Nat):Int),dX f2 p ((1+1:Nat):Int),()),(f1,((0+1:Nat):Int),dX f1 p ((0+1:Nat):Int),()),(f0,0,dX f0 p 0,())]:=by
   rw[cD,c3,if_pos t2]
   show _::cD s.1 p 2 f2= _
   rw[w2]
  have Zu:dX f0 p 0=16*f0+px 0 p % 16:=q0
  have Zv:dX f1 p ((0+1:Nat):Int)=16*f1+px 1 p % 16:=q1
  have Zw:dX f2 p ((1+1:Nat):Int)=16*f2+px 2 p % 16:=q2
  have Zx:dX f3 p ((2+1:Nat):Int)=16*f3+px 3 p % 16:=q3
  rw[w3,Zu,Zv,Zw,Zx]
  rfl
theorem Ev {s:WD} {n:Nat} {d:DT} (h:s.2[n]? =some d) (k:d.1=3\/d.1=5): ∃d':DT,s.2[n]? =some d'/\(d'.1=5\/(d'.1=3/\d.1=3)):=⟨d,h,k.elim (fun e=> .inr ⟨e,e⟩) .inl⟩
theorem Ay (I:Inv g s) {o r p:Int} (hr:g r=some (o,3,0)) (hp:0<=p/\p<65536) (h0:yW s o r false p=0):
 ∃g',qo (mz o 0 p) o g g' s (lK s o r false p)/\aV (lK s o r false p) r false p=(0,0,4,())/\(aV s r false p).2.2.1=0/\
  (∃f j,j<=1/\c9 g s o p f j/\(aC s.1 (16*f+px j p % 16)).1=true/\aX (lK s o r false p).2 0+j=aX s.2 0)/\(Ae g s none->Ae g' (lK s o r false p) none):=by
 have hq:(aV s r false p).2.2.1=0:=by
  unfold yW at h0
  by_cases h:(aV s r false p).2.2.1=0
  ·exact h
  ·rw[if_neg h] at h0;exact h0
 have hs:kf s o r p=0:=by unfold yW at h0;rw[if_pos hq] at h0;exact h0
 obtain⟨f,j,hj,he⟩:=I.jH hr hp
 have Mw:=hq
 rw[I.fB hr hp he] at Mw
 have wI:=zw Mw
 have wF:j<=1:=by
  rcases I.leaf he.1 (eo p j).1 (eo p j).2 wI he.2 with h|h<;>omega
 obtain⟨g1,f0,C1,E1,c1,n1⟩:=I.split hr hp he wI hs
 have hU:lK s o r false p=ij (cD (eY s o r p).1 p 3 r).reverse (cH (eY s o r p).1 (di (eY s o r p).1 r p).2.2.1 0,(eY s o r p).2):=by
  unfold lK;rw[if_pos hq,if_pos hs]
 have yN:=C1.root.to hr
 have V9:=(C1.inv.j0 yN hp E1).1
 rw[hU,V9]
 generalize eY s o r p=t at*
 have hi:=eo p 0
 obtain⟨I2,O2,K2,A2,e2⟩:=C1.inv.vB (v:=0) E1.1 hi.1 hi.2 E1.2 (by rw[m7];exact Fi) (by rw[m7];exact Az _) (fun _=>rfl) E1 rfl
 obtain⟨F,hF,U,hW⟩:=C1.inv.Xc yN hp E1
 rw[hW]
 dsimp only
 have U2:Up g1 (cH t.1 (16*f0+px 0 p % 16) 0,t.2) o p F 0:=by
  refine⟨U.gh,fun i h1 h2=>?_⟩
  have hne:=U.ne (a:=i+1) (b:=0) (by omega) (by omega) (by omega) (by omega) (by omega)
  have hi2:=eo p (i+1)
  rw[hF] at hne
  show aC (cH _ _ _) _= _
  rw[fN (by omega)]
  exact U.ld i h1 h2
 obtain⟨g3,C3,c3,n3⟩:=thin hp 3 rfl I2 U2
 have C2:qo (mz o 0 p) o g1 g1 t (cH t.1 (16*f0+px 0 p % 16) 0,t.2):=⟨I2,.refl _,O2,K2,fun h k=>Ev h k,⟨cu _ _ _,rfl⟩,C1.inv.zv E1.1 hi.1 hi.2 _,fun _ nl=>nl.Vg E1.1 hi.1 hi.2 (fun b hb=>fN (fun e=>hb e.symm)) fun _ _=>rfl,fun h=> .inl h⟩
 refine⟨g3,((C1.mono fun _ _ h=>h.elim).trans C2).trans (C3.mono fun _ _ h=>h.elim),?_,hq,⟨f,j,wF,he,wI,?_⟩,fun h=>?_⟩
 ·obtain⟨f',j',h1,h2⟩:=C3.Ap (fun h=>h) (A2 p rfl).1
  rw[C3.inv.fB (C3.root.to yN) hp h1,h2]
  show lM p 0 (aC (cH t.1 _ _) _)= _
  rw[e2,m7];rfl
 ·show aX _ 0+j= _
  rw[c3];exact c1
 ·refine n3 fun f1 o1 l1 x1 h1 Mz wU=>?_
  rw[hF] at wU
  have hn2:f1≠f0:=fun e=>wU (by rw[e])
  obtain⟨k,k0,k1,k2⟩:=n1 h h1 Mz (by simp)
  exact⟨k,k0,k1,by show(aC (cH _ _ _) _).1=true;rw[fN (by omega)];exact k2⟩
theorem qJ (I:Inv g s) {o r p rt:Int} (hr:g r=some (o,3,0)) (h0:B8 s o r false p rt=0):
 (0<=p/\p<65536)/\ ∃g',qo (mz o 0 p) o g g' s (pJ s o r false p rt)/\(aV s r false p).2.2.1=0/\aV (pJ s o r false p rt) r false p=((aV s r false p).1,rt,0,())/\
  aX s.2 0<=aX (pJ s o r false p rt).2 0+1:=by
 have lF: ¬ (false=true):=by decide
 unfold B8 at h0
 rw[if_neg lF] at h0
 have hR:iT p 0 rt=0:=by
  by_cases h:iT p 0 rt=0
  ·exact h
  ·rw[if_neg h] at h0;exact h0
 rw[if_pos hR] at h0
 have V_:(0<=p/\p<65536)/\1<=rt/\rt<=7:=by
  unfold iT at hR
  by_cases h1:p<0\/p>=65536\/(0:Int)<0\/(0:Int)>=4096
  ·rw[if_pos h1] at hR;exact absurd hR (by decide)
  ·rw[if_neg h1] at hR
   by_cases h2:rt<1\/rt>7
   ·rw[if_pos h2] at hR;exact absurd hR (by decide)
   ·omega
 obtain⟨hp,sS⟩:=V_
 refine⟨hp,?_⟩
 obtain⟨f,j,hj,he⟩:=I.jH hr hp
 obtain⟨eX,eP⟩:=I.j0 hr hp he
 have hQ:=I.fB hr hp he
 by_cases c1:(cx s.1 r p).1=true
 ·rw[if_pos c1] at h0
  have hS:pJ s o r false p rt=(if((cx s.1 r p).2.2.1&&(cx s.1 r p).2.1==rt)=true then s
   else if kf s o r p=0 then dx (eY s o r p) (di (eY s o r p).1 r p).2.2.1 (true,rt,false,oF p (di s.1 r p) (cx s.1 r p),()) else eY s o r p):=by
   unfold pJ;rw[if_neg lF,if_pos hR,if_pos c1]
  rw[hS]
  have Qh:(aC s.1 (16*f+px j p % 16)).1=true:=by rw[<-eP];exact c1
  have Vh:aV s r false p=(oF p (di s.1 r p) (cx s.1 r p),(cx s.1 r p).2.1,0,()):=by
   unfold aV
   rw[if_neg lF,if_neg (by omega),if_pos c1]
  by_cases c2:((cx s.1 r p).2.2.1&&(cx s.1 r p).2.1==rt)=true
  ·rw[if_pos c2]
   refine⟨g,.refl I _ _,by rw[Vh],?_,by omega⟩
   rw[Vh]
   simp only[Bool.and_eq_true,beq_iff_eq] at c2
   rw[c2.2]
  ·rw[if_neg c2] at h0
   rw[if_neg c2,if_pos h0]
   obtain⟨g1,f0,C1,E1,d1,n1⟩:=I.split hr hp he Qh h0
   have yN:=C1.root.to hr
   have V9:=(C1.inv.j0 yN hp E1).1
   rw[V9]
   have hfr:0<=oF p (di s.1 r p) (cx s.1 r p)/\oF p (di s.1 r p) (cx s.1 r p)<4096:=by
    have Ff:=l_ s.1 (16*f+px j p % 16)
    have hlf:=I.leaf he.1 (eo p j).1 (eo p j).2 Qh he.2
    rw[eP,eX]
    generalize aC s.1 (16*f+px j p % 16)=e at*
    obtain⟨ep,er,el,ef,eu⟩:=e
    dsimp only at Qh Ff hlf
    subst Qh
    obtain⟨b1,b2,b3,b4,b5⟩:=j7.1 Ff
    unfold oF
    dsimp only
    rcases hlf with ⟨rfl, _⟩|⟨rfl, _,P2⟩
    ·rw[if_neg (by decide)];exact⟨b3,b4⟩
    ·rw[if_pos (by decide)];omega
   have wF:j<=1:=by
    rcases I.leaf he.1 (eo p j).1 (eo p j).2 Qh he.2 with h|h<;>omega
   have VV:(aV s r false p).1=oF p (di s.1 r p) (cx s.1 r p):=by rw[Vh]
   rw[VV]
   generalize oF p (di s.1 r p) (cx s.1 r p)=fr at*
   generalize eY s o r p=t at*
   have hv:ee (HY (true,rt,false,fr,()))=(true,rt,false,fr,()):=by
    show ee (uH true rt false fr)= _
    exact uy (j7.2 ⟨by omega,by omega,hfr.1,hfr.2,.inr rfl⟩)
   have hi:=eo p 0
   obtain⟨I2,O2,K2,A2,e2⟩:=C1.inv.vB (v:=HY (true,rt,false,fr,())) E1.1 hi.1 hi.2 E1.2 (by rw[hv];exact IZ (by omega)) (by rw[hv];exact fun _ _=> .inl ⟨rfl,rfl⟩) (fun h=>by rw[hv] at h;cases h) E1 rfl
   have C2:qo (mz o 0 p) o g1 g1 t (cH t.1 (16*f0+px 0 p % 16) (HY (true,rt,false,fr,())),t.2):=⟨I2,.refl _,O2,K2,fun h k=>Ev h k,⟨cu _ _ _,rfl⟩,C1.inv.zv E1.1 hi.1 hi.2 _,fun _ nl=>nl.Vg E1.1 hi.1 hi.2 (fun b hb=>fN (fun e=>hb e.symm)) fun _ _=>rfl,fun h=> .inl h⟩
   refine⟨g1,(C1.mono fun _ _ h=>h.elim).trans C2,by rw[Vh],?_,?_⟩
   ·show aV (cH t.1 (16*f0+px 0 p % 16) _,t.2) r false p= _
    rw[I2.fB yN hp (A2 p rfl).1]
    show lM p 0 (aC (cH t.1 _ _) _)= _
    rw[e2,hv];rfl
   ·show _<=aX t.2 0+1
    omega
 ·rw[if_neg c1] at h0;exact absurd h0 (by decide)
theorem map (I:Inv g s) {o r p f rt:Int} (hr:g r=some (o,3,0)) (h0:gO s r false p f rt=0):
 (0<=p/\p<65536)/\ ∃g',qo (mz o 0 p) o g g' s (iP s o r false p f rt)/\aV (iP s o r false p f rt) r false p=(f,rt,0,())/\1<=rt/\(aV s r false p).2.2.1=4/\
  (∃f0,c9 g' (iP s o r false p f rt) o p f0 0)/\
  (∃f0 j,c9 g s o p f0 j/\aX (iP s o r false p f rt).2 0+j=aX s.2 0)/\(Ae g s none->Ae g' (iP s o r false p f rt) none):=by
 have lF: ¬ (false=true):=by decide
 unfold gO at h0
 rw[if_neg lF] at h0
 have hR:iT p f rt=0:=by
  by_cases h:iT p f rt=0
  ·exact h
  ·rw[if_neg h] at h0;exact h0
 rw[if_pos hR] at h0
 have V_:(0<=p/\p<65536)/\(0<=f/\f<4096)/\1<=rt/\rt<=7:=by
  unfold iT at hR
  by_cases h1:p<0\/p>=65536\/f<0\/f>=4096
  ·rw[if_pos h1] at hR;exact absurd hR (by decide)
  ·rw[if_neg h1] at hR
   by_cases h2:rt<1\/rt>7
   ·rw[if_pos h2] at hR;exact absurd hR (by decide)
   ·omega
 obtain⟨hp,hfr,sS⟩:=V_
 have hS:iP s o r false p f rt=qv s o r p 0 (true,rt,false,f,()):=by unfold iP;rw[if_neg lF,if_pos hR]
 rw[hS]
 have H9:aM true rt false f=true:=j7.2 ⟨by omega,by omega,hfr.1,hfr.2,.inr rfl⟩
 obtain⟨g',C,A,⟨f1,j,hj,he,hz,hc⟩,hN⟩:=I.put hr hp (lv:=0) (e:=(true,rt,false,f,())) rfl H9 (IZ (by omega)) (fun _ _=> .inl ⟨rfl,rfl⟩) h0
 obtain⟨f2,E2,v2⟩:=A p rfl
 refine⟨hp,g',C,?_,sS.1,?_,⟨f2,E2⟩,⟨f1,j,he,hc⟩,hN⟩
 ·have h:=C.inv.fB (C.root.to hr) hp E2
  rw[v2] at h
  exact h
 ·rw[I.fB hr hp he,B9 _ _ hz]
end Inv
end Go.Proofs.YtdnoecpjcoibmaaGreat
namespace Go.Proofs.YtdnoecpjcoibmaaGreat
set_option maxRecDepth 100000
open Go.RX D
def fresh (n m:Nat):WD:=(List.replicate n 0,List.replicate m zD)
abbrev X7:Gh:=fun _=>none
theorem OI (m:Nat) (v:Int):aX (List.replicate m zD) v=if v=0 then m else 0:=by
 unfold aX
 rw[List.countP_replicate]
 by_cases h:v=0
 ·subst h;rfl
 ·rw[if_neg h,if_neg]
  show ¬ (((0:Int)==v)=true)
  simp;omega
theorem GY {n m:Nat} (h:16*m<=n) (hm:m<=4096):Inv X7 (fresh n m) where
 len:=by
  show 16*(List.replicate m zD).length<=(List.replicate n (0:Int)).length
  simpa using h
 le:=by
  show(List.replicate m zD).length<=4096
  simpa using hm
 fz:=fun d hd _=>List.eq_of_mem_replicate hd
 kd:=by intro f o l x h;cases h
 inj:=by intro f o l h;cases h
 qc:=by intro f o l x i h;cases h
 leaf:=by intro f o l x i h;cases h
 Ad:=by intro f o l x h;cases h
 wf:=by intro f o l x i h;cases h
 tb:=by
  intro k d hd h3
  have:d=zD:=List.eq_of_mem_replicate (List.mem_of_getElem? hd)
  subst this
  cases h3
namespace Inv
variable {g:Gh} {s:WD}
theorem born (I:Inv g s) {o:Int} (ho:1<=o/\o<=16) (hno: ∀f,g f≠some (o,3,0)) (hc:0<aX s.2 0):
 pq s o=0/\g (dL s o)=none/\0<=dL s o/\dL s o<s.2.length/\(gM s o fun _=>0).2=s.2.set (dL s o).toNat (3,o,0,0,())/\s.2[(dL s o).toNat]? =some zD/\
 (∀b,(b<16*dL s o\/16*dL s o+16<=b)->cZ (gM s o fun _=>0).1 b=cZ s.1 b)/\
 (∀k,0<=k->k<16->cZ (gM s o fun _=>0).1 (16*dL s o+k)=0)/\(gM s o fun _=>0).1.length=s.1.length/\
 Inv (jS g (dL s o) (some (o,3,0))) (gM s o fun _=>0):=by
 obtain⟨n,wU,hn2,e1,e2,e3⟩:=lz hc I.fz ho
 have eF:dL s o=(n:Int):=e1
 have eE:pq s o=0:=e2
 have hlen:=I.len
 have hle:=I.le
 have hlen':16*(n:Int)+16<=s.1.length:=by omega
 obtain⟨W,hW⟩: ∃W,W=ew s.1 (n:Int) (fun _=>0) 16:=⟨_,rfl⟩
 have Pg:W.length=s.1.length:=by rw[hW,fV]
 have HZ: ∀b,cZ W b=if 16*(n:Int)<=b/\b<16*(n:Int)+16 then 0 else cZ s.1 b:=fun b=>by
  rw[hW];exact qL (by omega) hlen' 16 (Nat.le_refl _) b
 have eS:gM s o (fun _=>0)=(W,s.2.set n (3,o,0,0,())):=by unfold gM;rw[if_pos eE,eF,e3,hW]
 clear hW
 have gn:g (n:Int)=none:=by
  cases hg:g (n:Int) with
  |none=>rfl
  |some v=>
   obtain⟨a,b,c⟩:=v
   have:=(I.kd hg).2.2.1
   rw[show((n:Int)).toNat=n from rfl,hn2] at this
   cases this
 have hne: ∀{f':Int} {v},g f'=some v->f'≠(n:Int):=fun h e=>by rw[e,gn] at h;cases h
 rw[eS,eF]
 have v1: ∀b,(b<16*(n:Int)\/16*(n:Int)+16<=b)->cZ W b=cZ s.1 b:=fun b h=>by rw[HZ b,if_neg (by omega)]
 have v2: ∀k,0<=k->k<16->cZ W (16*(n:Int)+k)=0:=fun k h0 h1=>by rw[HZ,if_pos (by omega)]
 have w1: ∀b,(b<16*(n:Int)\/16*(n:Int)+16<=b)->aC W b=aC s.1 b:=fun b h=>by unfold aC;rw[v1 b h]
 have w2: ∀k,0<=k->k<16->aC W (16*(n:Int)+k)=zE:=fun k h0 h1=>by unfold aC;rw[v2 k h0 h1];exact m7
 have old: ∀{f0 o0 x0 k:Int} {l0:Nat},g f0=some (o0,l0,x0)->0<=k->k<16->aC W (16*f0+k)=aC s.1 (16*f0+k):=fun{f0 o0 x0 k l0} h h0 h1=>by
  have:=hne h
  exact w1 _ (by omega)
 refine⟨eE,gn,by omega,by omega,rfl,by rw[show((n:Int)).toNat=n from rfl];exact hn2,v1,v2,Pg,?_⟩
 refine⟨?_,?_,?_,?_,?_,?_,?_,?_,?_,?_⟩
 ·show 16*(s.2.set n _).length<=W.length
  rw[Pg,List.length_set];exact hlen
 ·show(s.2.set n _).length<=4096
  rw[List.length_set];exact hle
 ·intro d hd h0
  rcases List.mem_or_eq_of_mem_set hd with hd|rfl
  ·exact I.fz d hd h0
  ·cases h0
 ·intro f0 o0 l0 x0 h
  show _/\ _<((s.2.set n (3,o,0,0,())).length:Int)/\(s.2.set n (3,o,0,0,()))[f0.toNat]? = _/\ _
  rw[List.length_set]
  by_cases e:f0=(n:Int)
  ·subst e
   rw[a6] at h
   cases h
   refine⟨by omega,by omega,?_,ho.1,ho.2,by omega⟩
   rw[show((n:Int)).toNat=n from rfl,List.getElem?_set_self wU]
  ·rw[aN e] at h
   obtain⟨a1,a2,a3,a4⟩:=I.kd h
   refine⟨a1,a2,?_,a4⟩
   rw[List.getElem?_set_ne (by omega)];exact a3
 ·intro a b v ha hb
  by_cases e:a=(n:Int)<;>by_cases e':b=(n:Int)
  ·rw[e,e']
  ·subst e
   rw[a6] at ha
   rw[aN e'] at hb
   cases ha
   exact absurd hb (hno b)
  ·subst e'
   rw[a6] at hb
   rw[aN e] at ha
   cases hb
   exact absurd ha (hno a)
  ·rw[aN e] at ha
   rw[aN e'] at hb
   exact I.inj ha hb
 ·intro f0 o0 l0 x0 k h h0 h1 ht
  by_cases e:f0=(n:Int)
  ·subst e
   have ht:dy (aC W (16*(n:Int)+k))=true:=ht
   rw[w2 k h0 h1,Fi] at ht;cases ht
  ·rw[aN e] at h
   have ht:dy (aC W (16*f0+k))=true:=ht
   show∃m,l0=m+1/\jS g n _ (aC W (16*f0+k)).2.2.2.1= _
   rw[old h h0 h1] at ht ⊢
   obtain⟨m',q1,q2⟩:=I.qc h h0 h1 ht
   exact⟨m',q1,by rw[aN (hne q2)];exact q2⟩
 ·intro f0 o0 l0 x0 k h h0 h1
  show iW l0 (aC W (16*f0+k))
  by_cases e:f0=(n:Int)
  ·subst e
   rw[w2 k h0 h1];exact Az _
  ·rw[aN e] at h
   rw[old h h0 h1];exact I.leaf h h0 h1
 ·intro f0 o0 l0 x0 h hl
  by_cases e:f0=(n:Int)
  ·subst e
   rw[a6] at h;cases h
   omega
  ·rw[aN e] at h
   obtain⟨f',p1,p2⟩:=I.Ad h hl
   refine⟨f',by rw[aN (hne p1)];exact p1,?_⟩
   show aC W _= _
   rw[old p1 (by omega) (by omega)];exact p2
 ·intro f0 o0 l0 x0 k h h0 h1 hp
  show cZ W (16*f0+k)=0
  by_cases e:f0=(n:Int)
  ·subst e;exact v2 k h0 h1
  ·rw[aN e] at h
   have hp:(aC W (16*f0+k)).1=false:=hp
   rw[old h h0 h1] at hp
   have:=hne h
   rw[v1 _ (by omega)]
   exact I.wf h h0 h1 hp
 ·intro n' d hn' h3
  by_cases e:n'=n
  ·subst e;exact⟨_,a6 _ _ _⟩
  ·have h':(s.2.set n (3,o,0,0,()))[n']? =some d:=hn'
   rw[List.getElem?_set_ne (by omega)] at h'
   obtain⟨v,hv⟩:=I.tb h' h3
   exact⟨v,by rw[aN (by omega)];exact hv⟩
end Inv
end Go.Proofs.YtdnoecpjcoibmaaGreat
namespace Go.Proofs.YtdnoecpjcoibmaaGreat
set_option maxRecDepth 100000
open Go.RX D
def Rt (g:Gh):Prop:= ∀f o x,g f=some (o,3,x)->x=0
theorem Rt.keep {g g':Gh} (h:Rt g) (k:kS g g'):Rt g':=fun f o x e=>h f o x ((k _ _ _).1 e)
def Wa:Nat->Int->Int
 |0,x=>x
 |n+1,x=>Wa n x / 16
theorem Ew {ws:List Int} {l:Nat} {f z:Int}:z∈(List.range 16).flatMap (mK ws l f)<-> ∃i:Nat,i<16/\ ∃m,l=m+1/\dy (aC ws (16*f+(i:Int)))=true/\z∈cz ws m (aC ws (16*f+(i:Int))).2.2.2.1:=by
 rw[List.mem_flatMap]
 constructor
 ·rintro⟨i,hi,h⟩
  rw[List.mem_range] at hi
  cases l with
  |zero=>cases h
  |succ m=>
   unfold mK at h
   dsimp only at h
   split at h
   ·rename_i ht
    exact⟨i,hi,m,rfl,ht,h⟩
   ·cases h
 ·rintro⟨i,hi,m,rfl,ht,h⟩
  refine⟨i,List.mem_range.2 hi,?_⟩
  unfold mK
  dsimp only
  rw[if_pos ht]
  exact h
theorem yg (x:Int): ∀l:List Int,(jg x l).Perm (x::l)
 |[]=> .refl _
 |y::l=>by
  rw[jg]
  split
  ·exact((yg x l).cons y).trans (.swap _ _ _)
  ·exact .refl _
theorem yh: ∀(l a:List Int),(l.foldl (fun a x=>jg x a) a).Perm (l++a)
 |[],a=> .refl _
 |x::l,a=>by
  rw[List.foldl_cons]
  exact(yh l (jg x a)).trans (((yg x a).append_left l).trans List.perm_middle)
theorem Df (l:List Int):(qG l).Perm l:=by
 unfold qG
 have:=yh l []
 rw[List.append_nil] at this
 exact(List.reverse_perm _).trans this
theorem LW (o:Int) (h:1<=o/\o<=16): ¬ (aE 5 0 (5,o,0,0,())).2=0:=by
 have r1:bR 5 o 0 0=true:=by unfold bR fA;simp;omega
 show ¬ dV 5 o 0 0 5 0=0
 unfold dV
 rw[r1,if_neg (by decide),if_neg (by decide),if_neg (by decide)]
 decide
theorem yj {o:Int} (ho:1<=o/\o<=16): ∀(l:List Int) (ds:List DT),(∀f∈l,0<=f/\(ds[f.toNat]? =some (3,o,0,0,())\/ds[f.toNat]? =some (5,o,0,0,())))->
 (l.foldl (fun ds f=>fQ ds f (aE 5 0)) ds).length=ds.length/\ ∀n:Nat,((n:Int)∈l->(l.foldl (fun ds f=>fQ ds f (aE 5 0)) ds)[n]? =some (5,o,0,0,()))/\((n:Int)∉l->(l.foldl (fun ds f=>fQ ds f (aE 5 0)) ds)[n]? =ds[n]?)
 |[],ds, _=>⟨rfl,fun n=>⟨fun h=>(by cases h),fun _=>rfl⟩⟩
 |f::l,ds,h=>by
  obtain⟨Sz,hf⟩:=h f List.mem_cons_self
  have hlt:f.toNat<ds.length:=by
   rcases hf with h|h<;>exact(List.getElem?_eq_some_iff.1 h).1
  have hst:(fQ ds f (aE 5 0)).length=ds.length/\(fQ ds f (aE 5 0))[f.toNat]? =some (5,o,0,0,())/\ ∀n:Nat,n≠f.toNat->(fQ ds f (aE 5 0))[n]? =ds[n]? :=by
   rw[pS ⟨Sz,by omega⟩,List.getD_eq_getElem?_getD]
   rcases hf with hf|hf
   ·rw[hf]
    show((if(aE 5 0 (3,o,0,0,())).2=0 then ds.set f.toNat (aE 5 0 (3,o,0,0,())).1 else ds).length= _)/\(if(aE 5 0 (3,o,0,0,())).2=0 then ds.set f.toNat (aE 5 0 (3,o,0,0,())).1 else ds)[f.toNat]? = _/\ ∀n:Nat,n≠f.toNat->(if(aE 5 0 (3,o,0,0,())).2=0 then ds.set f.toNat (aE 5 0 (3,o,0,0,())).1 else ds)[n]? = _
    rw[A5 ho,if_pos rfl]
    exact⟨List.length_set,List.getElem?_set_self hlt,fun n hn=>List.getElem?_set_ne (fun e=>hn e.symm)⟩
   ·rw[hf]
    show((if(aE 5 0 (5,o,0,0,())).2=0 then ds.set f.toNat (aE 5 0 (5,o,0,0,())).1 else ds).length= _)/\(if(aE 5 0 (5,o,0,0,())).2=0 then ds.set f.toNat (aE 5 0 (5,o,0,0,())).1 else ds)[f.toNat]? = _/\ ∀n:Nat,n≠f.toNat->(if(aE 5 0 (5,o,0,0,())).2=0 then ds.set f.toNat (aE 5 0 (5,o,0,0,())).1 else ds)[n]? = _
    rw[if_neg (LW o ho)]
    exact⟨rfl,hf,fun n hn=>rfl⟩
  rw[List.foldl_cons]
  obtain⟨e1,e2,e3⟩:=hst
  obtain⟨k1,k2⟩:=yj ho l (fQ ds f (aE 5 0)) (fun x hx=>by
   obtain⟨hx0,hx1⟩:=h x (List.mem_cons_of_mem _ hx)
   refine⟨hx0,?_⟩
   by_cases e:x.toNat=f.toNat
   ·rw[e];exact .inr e2
   ·rw[e3 _ e];exact hx1)
  refine⟨k1.trans e1,fun n=>⟨fun hm=>?_,fun hm=>?_⟩⟩
  ·by_cases hl:(n:Int)∈l
   ·exact(k2 n).1 hl
   ·rw[(k2 n).2 hl]
    have:(n:Int)=f:=(List.mem_cons.1 hm).resolve_right hl
    have e:n=f.toNat:=by omega
    rw[e];exact e2
  ·rw[(k2 n).2 (fun h=>hm (List.mem_cons_of_mem _ h)),e3 n (fun e=>hm (by
   have:(n:Int)=f:=by omega
   rw[this];exact List.mem_cons_self))]
def Fj (g:Gh) (o:Int):Gh:=fun f=>match g f with
 |some v=>if v.1=o then none else some v
 |none=>none
theorem cG {g:Gh} {o f:Int} {v:Int×Nat×Int}:Fj g o f=some v<->g f=some v/\v.1≠o:=by
 unfold Fj
 cases hg:g f with
 |none=>simp
 |some u=>
  dsimp only
  by_cases e:u.1=o
  ·rw[if_pos e]
   constructor
   ·intro h;cases h
   ·rintro⟨h,h2⟩;cases h;exact absurd e h2
  ·rw[if_neg e]
   constructor
   ·intro h;cases h;exact⟨rfl,e⟩
   ·rintro⟨h, _⟩;exact h
namespace Inv
variable {g:Gh} {s:WD}
theorem LX (I:Inv g s): ∀(l:Nat) {f o x:Int},g f=some (o,l,x)-> ∀z∈cz s.1 l f, ∃l' x' n,l'+n=l/\g z=some (o,l',x')/\Wa n x'=x:=by
 intro l
 induction l with
 |zero=>
  intro f o x hf z hz
  rw[cz,List.mem_singleton] at hz
  subst hz
  exact⟨0,x,0,rfl,hf,rfl⟩
 |succ l ih=>
  intro f o x hf z hz
  rw[jn] at hz
  rcases List.mem_cons.1 hz with rfl|hz
  ·exact⟨l+1,x,0,rfl,hf,rfl⟩
  ·obtain⟨i,hi,m,hm,ht,Qb⟩:=Ew.1 hz
   have:m=l:=by omega
   subst this
   obtain⟨m',h1,h2⟩:=I.qc hf (by omega) (by omega) ht
   have:m'=m:=by omega
   subst this
   obtain⟨l',x',n,q1,q2,q3⟩:=ih h2 z Qb
   refine⟨l',x',n+1,by omega,q2,?_⟩
   show Wa n x' / 16=x
   rw[q3];omega
theorem A8 (I:Inv g s) (hR:Rt g) {r o:Int} (hr:g r=some (o,3,0)): ∀(n:Nat) {l:Nat} {f x:Int},l+n=3->g f=some (o,l,x)-> ∀z∈cz s.1 l f,z∈cz s.1 3 r
 |0,l,f,x,hl,hf,z,hz=>by
  have:l=3:=by omega
  subst this
  have:x=0:=hR _ _ _ hf
  subst this
  rw[I.inj hf hr] at hz
  exact hz
 |n+1,l,f,x,hl,hf,z,hz=>by
  obtain⟨f',h1,h2⟩:=I.Ad hf (by omega)
  obtain⟨b1,b2, _⟩:=I.um hf
  refine I.A8 hR hr n (l:=l+1) (by omega) h1 z ?_
  rw[jn]
  refine List.mem_cons_of_mem _ (Ew.2 ⟨(x % 16).toNat,by omega,l,rfl,?_⟩)
  have e:(((x % 16).toNat:Nat):Int)=x % 16:=by omega
  rw[e,h2]
  exact⟨dA ⟨b1,b2⟩,hz⟩
theorem GZ (I:Inv g s) (hR:Rt g) {r o:Int} (hr:g r=some (o,3,0)) (z:Int):z∈cz s.1 3 r<-> ∃l x,g z=some (o,l,x):=by
 constructor
 ·intro h
  obtain⟨l',x',n, _,h2, _⟩:=I.LX 3 hr z h
  exact⟨l',x',h2⟩
 ·rintro⟨l,x,h⟩
  have hl:=(I.kd h).2.2.2.2.2
  exact I.A8 hR hr (3 - l) (by omega) h z (by rw[jn];exact List.mem_cons_self)
theorem dropped (I:Inv g s) (hR:Rt g) {r o:Int} (hr:g r=some (o,3,0)):
 Inv (Fj g o) (bV s r false)/\Rt (Fj g o)/\(bV s r false).1=s.1/\(bV s r false).2.length=s.2.length/\
  ∀n:Nat,((∃l x,g (n:Int)=some (o,l,x))->(bV s r false).2[n]? =some (5,o,0,0,()))/\((¬ ∃l x,g (n:Int)=some (o,l,x))->(bV s r false).2[n]? =s.2[n]?):=by
 have lF: ¬ (false=true):=by decide
 have hD:bV s r false=(s.1,(kR s r false).foldl (fun ds f=>fQ ds f (aE 5 0)) s.2):=if_neg lF
 have hA:kR s r false=qG (cz s.1 3 r):=if_neg lF
 have hm: ∀z,z∈kR s r false<-> ∃l x,g z=some (o,l,x):=fun z=>by
  rw[hA,(Df _).mem_iff];exact I.GZ hR hr z
 have ho:=(I.kd hr).2.2.2
 obtain⟨t1,t2⟩:=yj ⟨ho.1,ho.2.1⟩ (kR s r false) s.2 (fun f hf=>by
  obtain⟨l,x,h⟩:=(hm f).1 hf
  obtain⟨a1,a2,a3, _⟩:=I.kd h
  exact⟨a1,.inl a3⟩)
 rw[hD]
 generalize hds:(kR s r false).foldl (fun ds f=>fQ ds f (aE 5 0)) s.2=ds at t1 t2
 have hin: ∀n:Nat,(∃l x,g (n:Int)=some (o,l,x))->ds[n]? =some (5,o,0,0,()):=fun n h=>(t2 n).1 ((hm _).2 h)
 have hout: ∀n:Nat,(¬ ∃l x,g (n:Int)=some (o,l,x))->ds[n]? =s.2[n]? :=fun n h=>(t2 n).2 (fun hh=>h ((hm _).1 hh))
 refine⟨?_,fun f o' x h=>hR f o' x (cG.1 h).1,rfl,t1,fun n=>⟨hin n,hout n⟩⟩
 refine⟨?_,?_,?_,?_,?_,?_,?_,?_,?_,?_⟩
 ·show 16*ds.length<=s.1.length
  rw[t1];exact I.len
 ·show ds.length<=4096
  rw[t1];exact I.le
 ·intro d hd h0
  obtain⟨n,hn⟩:=List.getElem?_of_mem hd
  have hn:ds[n]? =some d:=hn
  by_cases h: ∃l x,g (n:Int)=some (o,l,x)
  ·rw[hin n h] at hn;cases hn;cases h0
  ·rw[hout n h] at hn
   exact I.fz d (List.mem_of_getElem? hn) h0
 ·intro f o' l x h
  obtain⟨h,hne⟩:=cG.1 h
  obtain⟨a1,a2,a3,a4⟩:=I.kd h
  show _/\f<(ds.length:Int)/\ds[f.toNat]? = _/\ _
  rw[t1]
  refine⟨a1,a2,?_,a4⟩
  rw[hout f.toNat ?_]
  ·exact a3
  ·rintro⟨l',x',h'⟩
   rw[show((f.toNat:Nat):Int)=f from by omega,h] at h'
   cases h'
   exact hne rfl
 ·intro a b v ha hb
  exact I.inj (cG.1 ha).1 (cG.1 hb).1
 ·intro f o' l x k h h0 h1 ht
  obtain⟨h,hne⟩:=cG.1 h
  obtain⟨m,q1,q2⟩:=I.qc h h0 h1 ht
  exact⟨m,q1,cG.2 ⟨q2,hne⟩⟩
 ·intro f o' l x k h h0 h1
  exact I.leaf (cG.1 h).1 h0 h1
 ·intro f o' l x h hl
  obtain⟨h,hne⟩:=cG.1 h
  obtain⟨f',p1,p2⟩:=I.Ad h hl
  exact⟨f',cG.2 ⟨p1,hne⟩,p2⟩
 ·intro f o' l x k h h0 h1 hp
  exact I.wf (cG.1 h).1 h0 h1 hp
 ·intro n d hn h3
  have hn:ds[n]? =some d:=hn
  by_cases h: ∃l x,g (n:Int)=some (o,l,x)
  ·rw[hin n h] at hn;cases hn;cases h3
  ·rw[hout n h] at hn
   obtain⟨v,hv⟩:=I.tb hn h3
   refine⟨v,cG.2 ⟨hv,fun e=>h ?_⟩⟩
   obtain⟨a,b,c⟩:=v
   have e:a=o:=e
   subst e
   exact⟨b,c,hv⟩
end Inv
end Go.Proofs.YtdnoecpjcoibmaaGreat
namespace Go.Proofs.YtdnoecpjcoibmaaGreat
set_option maxRecDepth 100000
open Go.RX D
theorem OJ {s:WD} {o r pg lv:Int} {e:ET} (h: ¬ ke s r pg lv=0):qv s o r pg lv e=s:=if_neg h
theorem Ex {s:WD} {o r:Int} {gone:Bool} {pg f rt:Int} (h: ¬ gO s r gone pg f rt=0):iP s o r gone pg f rt=s:=by
 unfold gO at h
 unfold iP
 cases gone with
 |true=>rw[if_pos rfl]
 |false=>
  have lF: ¬ (false=true):=by decide
  rw[if_neg lF] at h ⊢
  by_cases c:iT pg f rt=0
  ·rw[if_pos c] at h ⊢
   exact OJ h
  ·rw[if_neg c]
theorem OK {s:WD} {o r pg:Int} (h: ¬ kf s o r pg=0):eY s o r pg=s:=by
 unfold kf at h
 unfold eY
 by_cases c:(di s.1 r pg).2.1=0
 ·rw[if_pos c]
 ·rw[if_neg c] at h ⊢
  rw[if_neg h,Eu h]
theorem OL {s:WD} {o r:Int} {gone:Bool} {pg rt:Int} (h: ¬ B8 s o r gone pg rt=0):pJ s o r gone pg rt=s:=by
 unfold B8 at h
 unfold pJ
 cases gone with
 |true=>rw[if_pos rfl]
 |false=>
  have lF: ¬ (false=true):=by decide
  rw[if_neg lF] at h ⊢
  by_cases c:iT pg 0 rt=0
  ·rw[if_pos c] at h ⊢
   by_cases d:(cx s.1 r pg).1=true
   ·rw[if_pos d] at h ⊢
    by_cases e:((cx s.1 r pg).2.2.1&&(cx s.1 r pg).2.1==rt)=true
    ·rw[if_pos e]
    ·rw[if_neg e] at h ⊢
     rw[if_neg h,OK h]
   ·rw[if_neg d]
  ·rw[if_neg c]
namespace Inv
variable {g:Gh} {s:WD}
theorem uA (I:Inv g s) {o r p f rt:Int} (hr:g r=some (o,3,0)) (hp:0<=p/\p<65536) (hf:0<=f/\f<4096) (ht:1<=rt/\rt<=7) {f0:Int} {j:Nat} (he:c9 g s o p f0 j) (hz:(aC s.1 (16*f0+px j p % 16)).1=false) (hc:j<=aX s.2 0):gO s r false p f rt=0:=by
 obtain⟨e1,e2⟩:=I.j0 hr hp he
 have hR:iT p f rt=0:=by unfold iT;rw[if_neg (by omega),if_neg (by omega)]
 unfold gO
 rw[if_neg (by decide),if_pos hR]
 unfold ke
 rw[e1,e2,hz,if_neg ?_,if_neg ?_]
 ·show ¬ (aX s.2 0:Int)<(j:Int) - 0
  omega
 ·show ¬ (false||decide ((j:Int)<0))=true
  simp
theorem RY (I:Inv g s) {o:Int} (ho:1<=o/\o<=16) (hc:0<aX s.2 0):pq s o=0:=by
 obtain⟨n, _, _, _,e, _⟩:=lz hc I.fz ho
 exact e
end Inv
end Go.Proofs.YtdnoecpjcoibmaaGreat
namespace Go.Proofs.YtdnoecpjcoibmaaGreat
set_option maxRecDepth 100000
open Go.RX D
structure SM (Q:Sys) (D G:List Nat) (w0 w:World) (s:WD) (L0:List (Nat×List Value)) (M:List (Nat×Obj)):Prop where
 pos:0<s.1.length
 ID:0<s.2.length
 le:s.2.length<=4096
 Vd:okW s.1
 kn: ∃ca la,mP D G w0 w (Q.L ca la s L0) M
section
variable {Q:Sys} {D G:List Nat} {w0 w w1:World} {s:WD} {L0 L1:List (Nat×List Value)} {M M1:List (Nat×Obj)}
namespace SM
theorem ext (H:SM Q D G w0 w s L0 M) (h:Ext w w1):SM Q D G w0 w1 s L0 M:=by
 obtain⟨a,b,c,d,ca,la,k⟩:=H
 exact⟨a,b,c,d,ca,la,k.ext h⟩
theorem base (H:SM Q D G w0 w s L0 M):aU Q D G w0 w s L0:=by
 obtain⟨a,b,c,d,ca,la,k⟩:=H
 exact⟨a,b,c,d,ca,la,k.base⟩
theorem of (S:aU Q D G w0 w s L0):SM Q D G w0 w s L0 []:=by
 obtain⟨a,b,c,d,ca,la,k⟩:=S
 exact⟨a,b,c,d,ca,la,mP.of k⟩
theorem call (H:SM Q D G w0 w s L0 M): ∃G',aU Q [] G' w w s L0/\ ∀{w2:World} {s':WD} {L':List (Nat×List Value)},aU Q [] G' w w2 s' L'->SM Q D G w0 w2 s' L' M:=by
 obtain⟨a,b,c,d,ca,la,k⟩:=H
 refine⟨_,⟨a,b,c,d,ca,la,k.base.again⟩,fun{w2 s' L'} S=>?_⟩
 obtain⟨a',b',c',d',BL,Zy,k'⟩:=S
 exact⟨a',b',c',d',BL,Zy,k.join k'⟩
theorem perm (H:SM Q D G w0 w s L0 M) (h:L1.Perm L0):SM Q D G w0 w s L1 M:=by
 obtain⟨a,b,c,d,ca,la,k⟩:=H
 exact⟨a,b,c,d,ca,la,k.perm ((((h.cons _).cons _).cons _).cons _)⟩
theorem sub (H:SM Q D G w0 w s L0 M) (h:L1.Sublist L0):SM Q D G w0 w s L1 M:=by
 obtain⟨a,b,c,d,ca,la,k⟩:=H
 exact⟨a,b,c,d,ca,la,k.sub ((((h.cons_cons _).cons_cons _).cons_cons _).cons_cons _)⟩
theorem u5 (H:SM Q D G w0 w s L0 M) (h:M1.Perm M):SM Q D G w0 w s L0 M1:=by
 obtain⟨a,b,c,d,ca,la,k⟩:=H
 exact⟨a,b,c,d,ca,la,k.u5 h⟩
theorem Fh (H:SM Q D G w0 w s L0 M) (h:M1.Sublist M):SM Q D G w0 w s L0 M1:=by
 obtain⟨a,b,c,d,ca,la,k⟩:=H
 exact⟨a,b,c,d,ca,la,k.Fh h⟩
theorem get (H:SM Q D G w0 w s L0 M) {r:Nat} {o:Obj} (h:(r,o)∈M):w.heap[r]? =some o:=by
 obtain⟨a,b,c,d,ca,la,k⟩:=H
 exact(k.obj _ h).1
theorem put (H:SM Q D G w0 w s L0 M) {i r:Nat} {o:Obj} (h:M[i]? =some (r,o)) {o':Obj} (ho:lX o'):SM Q D G w0 (w.putObj r o') s L0 (M.set i (r,o')):=by
 obtain⟨a,b,c,d,ca,la,k⟩:=H
 exact⟨a,b,c,d,ca,la,k.put h ho⟩
theorem alloc (H:SM Q D G w0 w s L0 M) {o:Obj} (ho:lX o):SM Q D G w0 (w.alloc o) s L0 ((w.heap.size,o)::M):=by
 obtain⟨a,b,c,d,ca,la,k⟩:=H
 exact⟨a,b,c,d,ca,la,k.alloc ho⟩
theorem go (H:SM Q D G w0 w s L0 M) {P:Program} {f:FuncId} {sh:Sh} {args:List Value} {K:sh.T->World->Prop} (k: ∀w1,SM Q D G w0 w1 s L0 M->an P f sh args w1 K):az P f sh args w K:=fun _ h=>k _ (H.ext h)
theorem en (H:SM Q D G w0 w s L0 M) {K:World->Prop} (k: ∀w1,SM Q D G w0 w1 s L0 M->K w1):aj w K:=fun _ h=>k _ (H.ext h)
end SM
end
abbrev TK:Type:=Int×Int×Int
def uf (t:TK):Value×Value:=(.int .i64 t.1,.agg ⟨[.int .i64 t.2.1,.int .i64 t.2.2]⟩)
def oG (es:List MapEntry) (ck:Nat) (tk:List TK):Prop:=
 (∃p:List TK,p.Perm tk/\es.map (fun e=>(e.key,e.val))=p.map uf)/\(es.map (·.born)).Nodup/\(∀e∈es,e.born<ck)/\(tk.map (·.1)).Nodup
theorem oG.nil:oG [] 0 []:=⟨⟨[],List.Perm.nil,rfl⟩,List.nodup_nil,fun e he=>(by cases he),List.nodup_nil⟩
theorem oG.len {es:List MapEntry} {ck:Nat} {tk:List TK} (h:oG es ck tk):es.length=tk.length:=by
 obtain⟨⟨p,h1,h2⟩, _⟩:=h
 have:=congrArg List.length h2
 rw[List.length_map,List.length_map] at this
 rw[this,h1.length_eq]
theorem LY {es:List MapEntry} {p:List TK} (h:es.map (fun e=>(e.key,e.val))=p.map uf) (g:Int) (i0:Nat):
 Instr.findNow (.int .i64) (.int .i64 g) es i0=some (match p.findIdx? (fun t=>t.1==g) with
  |some i=>some (i0+i,(uf (p.getD i (0,0,0))).2)
  |none=>none):=by
 induction es generalizing p i0 with
 |nil=>
  cases p with
  |nil=>rfl
  |cons t p=>simp at h
 |cons e es ih=>
  cases p with
  |nil=>simp at h
  |cons t p=>
   simp only[List.map_cons,List.cons.injEq] at h
   obtain⟨h1,h2⟩:=h
   have hk:e.key= .int .i64 t.1:=congrArg (·.1) h1
   have hv:e.val=(uf t).2:=congrArg (·.2) h1
   unfold Instr.findNow
   rw[hk]
   have hs:Instr.sameNow (.int .i64) (.int .i64 g) (.int .i64 t.1)=some (g==t.1):=by
    show(if IntKind.i64=IntKind.i64 then some (g==t.1) else none)= _
    rw[if_pos rfl]
   rw[hs,List.findIdx?_cons]
   by_cases e1:t.1=g
   ·have e2:(g==t.1)=true:=by simp[e1]
    have e3:(t.1==g)=true:=by simp[e1]
    rw[e2,if_pos e3]
    dsimp only
    rw[hv]
    rfl
   ·have e2:(g==t.1)=false:=by simp;exact fun e=>e1 e.symm
    have e3: ¬ (t.1==g)=true:=by simp[e1]
    rw[e2,if_neg e3]
    dsimp only
    rw[ih h2 (i0+1)]
    cases p.findIdx? (fun t=>t.1==g) with
    |none=>rfl
    |some i=>
     show some (some (i0+1+i, _))=some (some (i0+(i+1), _))
     rw[show i0+1+i=i0+(i+1) by omega]
     rfl
def a9 (tk:List TK) (g:Int):Option (Int×Int):=(tk.find? fun t=>t.1==g).map (·.2)
theorem iD {tk:List TK} {g a b:Int} (hn:(tk.map (·.1)).Nodup):a9 tk g=some (a,b)<->(g,a,b)∈tk:=by
 unfold a9
 constructor
 ·intro h
  obtain⟨t,h1,h2⟩:=Option.map_eq_some_iff.1 h
  have h3:=List.find?_some h1
  have h4:=List.mem_of_find?_eq_some h1
  have:t.1=g:=by simpa using h3
  obtain⟨t1,t2⟩:=t
  simp only at this h2
  subst this;subst h2
  exact h4
 ·intro h
  cases hf:tk.find? fun t=>t.1==g with
  |none=>
   have:=List.find?_eq_none.1 hf _ h
   simp at this
  |some t=>
   have h3:=List.find?_some hf
   have h4:=List.mem_of_find?_eq_some hf
   have h5:t.1=g:=by simpa using h3
   obtain⟨i,hi⟩:=List.getElem?_of_mem h
   obtain⟨j,hj⟩:=List.getElem?_of_mem h4
   have hi1:(tk.map (·.1))[i]? =some g:=by rw[List.getElem?_map,hi];rfl
   have wF:(tk.map (·.1))[j]? =some g:=by rw[List.getElem?_map,hj];exact congrArg some h5
   have:=(List.getElem?_inj (by rw[List.length_map];exact(List.getElem?_eq_some_iff.1 hi).1) hn).1 (hi1.trans wF.symm)
   subst this
   rw[hi] at hj
   cases hj
   rfl
theorem oo {tk:List TK} {g:Int}:a9 tk g=none<-> ∀t∈tk,t.1≠g:=by
 unfold a9
 rw[Option.map_eq_none_iff,List.find?_eq_none]
 simp
theorem oq {α β:Type} (f:α->β): ∀(l:List α) (i:Nat),(l.eraseIdx i).map f=(l.map f).eraseIdx i
 |[],i=>by simp
 |a::l,0=>rfl
 |a::l,i+1=>by
  simp only[List.eraseIdx_cons_succ,List.map_cons]
  rw[oq f l i]
theorem oG.find {es:List MapEntry} {ck:Nat} {tk:List TK} (h:oG es ck tk) (g:Int): ∃r,Instr.findNow (.int .i64) (.int .i64 g) es 0=some r/\
 match a9 tk g with
 |some x=> ∃i,r=some (i,.agg ⟨[.int .i64 x.1,.int .i64 x.2]⟩)/\i<es.length/\oG (es.eraseIdx i) ck (tk.filter fun t=> !(t.1==g))
 |none=>r=none:=by
 obtain⟨⟨p,h1,h2⟩,h3,h4,h5⟩:=h
 refine⟨_,LY h2 g 0,?_⟩
 have Zz:(p.map (·.1)).Nodup:=(h1.map _).nodup_iff.2 h5
 cases hf:p.findIdx? (fun t=>t.1==g) with
 |none=>
  have:a9 tk g=none:=oo.2 fun t ht=>by
   have:=List.findIdx?_eq_none_iff.1 hf t (h1.mem_iff.2 ht)
   simpa using this
  rw[this]
 |some i=>
  rw[List.findIdx?_eq_some_iff_getElem] at hf
  obtain⟨hi,hg, _⟩:=hf
  have dn:p[i]? =some p[i]:=List.getElem?_eq_getElem hi
  have hgd:p.getD i (0,0,0)=p[i]:=by rw[List.getD_eq_getElem?_getD,dn];rfl
  obtain⟨t,ht⟩: ∃t,t=p[i]:=⟨_,rfl⟩
  rw[<-ht] at dn hgd hg
  have hg:t.1=g:=by simpa using hg
  have hm:(g,t.2.1,t.2.2)∈tk:=by
   have:=h1.mem_iff.1 (List.mem_of_getElem? dn)
   obtain⟨t1,t2,t3⟩:=t
   simp only at hg
   subst hg
   exact this
  rw[(iD h5).2 hm]
  have hlen:es.length=p.length:=by
   have:=congrArg List.length h2
   simpa using this
  refine⟨i,by dsimp only;rw[hgd,Nat.zero_add];rfl,by omega,⟨p.eraseIdx i,?_,?_⟩,?_,?_,?_⟩
  ·have e1:p.eraseIdx i=p.filter fun t=> !(t.1==g):=by
    have hsplit:p=p.take i++t::p.drop (i+1):=by
     conv=>lhs;rw[<-List.take_append_drop i p]
     rw[List.drop_eq_getElem_cons hi, <-ht]
    have jQ: ∀x∈p.take i++p.drop (i+1),x.1≠g:=by
     intro x hx e
     have wV:=Zz
     rw[hsplit,List.map_append,List.map_cons] at wV
     have z9:=(List.perm_middle (a:=t.1) (l₁:=(p.take i).map (·.1)) (l₂:=(p.drop (i+1)).map (·.1))).nodup_iff.1 wV
     have:=(List.nodup_cons.1 z9).1
     refine this ?_
     rw[hg, <-e, <-List.map_append]
     exact List.mem_map.2 ⟨x,hx,rfl⟩
    rw[List.eraseIdx_eq_take_drop_succ]
    conv=>rhs;rw[hsplit]
    rw[List.filter_append,List.filter_cons_of_neg (by simp[hg])]
    rw[List.filter_eq_self.2 (fun x hx=>by have:=jQ x (List.mem_append_left _ hx);simpa using this),List.filter_eq_self.2 (fun x hx=>by have:=jQ x (List.mem_append_right _ hx);simpa using this)]
   rw[e1]
   exact h1.filter _
  ·rw[oq,h2,oq]
  ·rw[oq]
   exact h3.sublist (List.eraseIdx_sublist _ _)
  ·exact fun e he=>h4 e (List.mem_of_mem_eraseIdx he)
  ·exact h5.sublist ((List.filter_sublist).map _)
theorem oG.push {es:List MapEntry} {ck:Nat} {tk:List TK} (h:oG es ck tk) {t:TK} (hn:a9 tk t.1=none) {X8:List TK} (hp:X8.Perm (t::tk)):oG (es++[{key:=(uf t).1,val:=(uf t).2,born:=ck}]) (ck+1) X8:=by
 obtain⟨⟨p,h1,h2⟩,h3,h4,h5⟩:=h
 refine⟨⟨p++[t],?_,?_⟩,?_,?_,?_⟩
 ·exact(List.perm_append_singleton _ _).trans ((h1.cons _).trans hp.symm)
 ·rw[List.map_append,h2,List.map_append];rfl
 ·rw[List.map_append]
  refine List.nodup_append.2 ⟨h3,by simp,fun x hx y hy e=>?_⟩
  obtain⟨e',he,rfl⟩:=List.mem_map.1 hx
  have hy:y=ck:=by simpa using hy
  have:=h4 e' he
  omega
 ·intro e he
  rcases List.mem_append.1 he with he|he
  ·have:=h4 e he;omega
  ·have:e={key:=(uf t).1,val:=(uf t).2,born:=ck}:=by simpa using he
   subst this
   exact Nat.lt_succ_self _
 ·refine(hp.map _).nodup_iff.2 (List.nodup_cons.2 ⟨fun hm=>?_,h5⟩)
  obtain⟨x,hx,e⟩:=List.mem_map.1 hm
  exact oo.1 hn x hx e
end Go.Proofs.YtdnoecpjcoibmaaGreat
namespace Go.Proofs.YtdnoecpjcoibmaaGreat
set_option maxRecDepth 100000
open Go.RX D
structure GV where
 root:Int
 tk:List TK
structure HS where
 s:WD
 g:Nat->Option GV
 gr:List GT
 po:List Po.PT
structure HX where
 hb:Nat
 gb:Nat
 rP:Nat
 pb:Nat
 c:Nat
 rest:List Value
structure GA where
 bg:Nat
 bt:Nat
 bm:Nat
 ck:Nat
 es:List MapEntry
def jh (A:Nat->GA) (g:Nat->Option GV) (i:Nat):Option Addr:=match g i with
 |some _=>some ⟨(A i).bg,0,none⟩
 |none=>none
def kC (A:Nat->GA) (g:Nat->Option GV):List Value:=(List.range 17).map fun i=> .pointer (jh A g i)
abbrev hcs (Q:Sys) (X:HX) (A:Nat->GA) (g:Nat->Option GV):List Value:=[.pointer (some ⟨Q.bm,0,none⟩),.pointer (some ⟨Q.bp,0,none⟩),.pointer (some ⟨X.gb,0,none⟩),.pointer (some ⟨X.pb,0,none⟩)]++kC A g
def fZ (Q:Sys) (A:Nat->GA) (i:Nat) (v:GV):List (Nat×List Value):=[((A i).bg,[.pointer (some ⟨(A i).bt,0,none⟩),.map (some (A i).bm)]),((A i).bt,mQ Q i v.root false)]
def aR (Q:Sys) (A:Nat->GA) (g:Nat->Option GV) (l:List Nat):List (Nat×List Value):=l.flatMap fun i=>match g i with
 |some v=>fZ Q A i v
 |none=>[]
def dW (A:Nat->GA) (g:Nat->Option GV) (l:List Nat):List (Nat×Obj):=l.flatMap fun i=>match g i with
 |some _=>[((A i).bm,Obj.map ⟨(A i).es⟩ (A i).ck)]
 |none=>[]
abbrev dF (Q:Sys) (X:HX) (A:Nat->GA) (h:HS) (L:List (Nat×List Value)):List (Nat×List Value):=
 (X.hb,hcs Q X A h.g)::(X.gb,j_ X.rP h.gr.length X.c)::(X.rP,flat eG h.gr++X.rest)::(X.pb,Po.fL 4 h.po)::L
structure zW (A:Nat->GA) (h:HS):Prop where
 dom: ∀{i v},h.g i=some v->1<=i/\i<=16
 mp: ∀{i v},h.g i=some v->oG (A i).es (A i).ck v.tk
 gl:h.gr.length=16
 pt:Po.jl 4 h.po
 gk:kJ h.gr
def bJ (Q:Sys) (X:HX) (D G:List Nat) (w0 w:World) (h:HS) (L:List (Nat×List Value)):Prop:=
 ∃A,zW A h/\SM Q D G w0 w h.s (dF Q X A h (aR Q A h.g (List.range 17)++L)) (dW A h.g (List.range 17))
theorem G1 {Q:Sys} {A:Nat->GA} {g:Nat->Option GV} {l:List Nat} {i:Nat} {v:GV} (hi:i∈l) (hv:g i=some v): ∀x∈fZ Q A i v,x∈aR Q A g l:=fun x hx=>by
 unfold aR
 exact List.mem_flatMap.2 ⟨i,hi,by rw[hv];exact hx⟩
theorem G5 {A:Nat->GA} {g:Nat->Option GV} {l:List Nat} {i:Nat} {v:GV} (hi:i∈l) (hv:g i=some v):((A i).bm,Obj.map ⟨(A i).es⟩ (A i).ck)∈dW A g l:=by
 unfold dW
 exact List.mem_flatMap.2 ⟨i,hi,by rw[hv];exact List.mem_singleton.2 rfl⟩
theorem sB {A:Nat->GA} {g:Nat->Option GV} {i:Nat} (hi:i<17):(kC A g)[i]? =some (.pointer (jh A g i)):=by
 unfold kC
 rw[List.getElem?_map,List.getElem?_range hi];rfl
def aD (g:Nat->Option GV) (v:Int):Bool:=decide (v>=1)&&decide (v<=16)&&(g v.toNat).isSome
def aT (g:Nat->Option GV) (v:Int):Int:=if aD g v=true then(match g v.toNat with|some x=>x.root|none=> -1) else -1
def dH (g:Nat->Option GV) (v p:Int):Int×Bool×Unit:=if aD g v=true then(match g v.toNat with
 |some x=>(match a9 x.tk p with|some y=>(y.1,true,())|none=>(0,false,()))
 |none=>(0,false,())) else(0,false,())
def cr (g:Nat->Option GV) (v a:Int):Int:=if a<1\/a>16\/a=v then 1 else if aD g a=true then 0 else 4
theorem dw {g:Nat->Option GV} {v:Int}:aD g v=true<->(1<=v/\v<=16)/\ ∃x,g v.toNat=some x:=by
 unfold aD
 simp only[Bool.and_eq_true,decide_eq_true_eq,Option.isSome_iff_exists]
section
variable {Q:Sys} {X:HX} {D G:List Nat} {w0 w:World} {s:WD} {L0:List (Nat×List Value)} {M:List (Nat×Obj)} {A:Nat->GA} {g:Nat->Option GV}
theorem aU.hcell (S:aU Q D G w0 w s L0) (hk:(X.hb,hcs Q X A g)∈L0) {v:Int} (hv:0<=v/\v<=16):cg w (af (af (some ⟨X.hb,0,none⟩) 4) (v.toNat*1)) (.one .ptr) (jh A g v.toNat):=by
 obtain⟨j,hj⟩:=List.getElem?_of_mem hk
 rw[aK,aK]
 refine bY (S.get hj) ?_
 show(match (hcs Q X A g)[0+4+v.toNat*1]? with|some v=>Sc.ptr.proj v|none=>none)= _
 have:(hcs Q X A g)[0+4+v.toNat*1]? =some (.pointer (jh A g v.toNat)):=by
  show([.pointer (some ⟨Q.bm,0,none⟩),.pointer (some ⟨Q.bp,0,none⟩),.pointer (some ⟨X.gb,0,none⟩),.pointer (some ⟨X.pb,0,none⟩)]++kC A g)[0+4+v.toNat*1]? = _
  rw[List.getElem?_append_right (by simp),List.length_cons,List.length_cons,List.length_cons,List.length_cons,List.length_nil]
  rw[show 0+4+v.toNat*1 - (0+1+1+1+1)=v.toNat by omega]
  exact sB (by omega)
 rw[this];rfl
theorem aU.fu (S:aU Q D G w0 w s L0) (hk:(X.hb,hcs Q X A g)∈L0) {n:Nat} {x:Option Addr} (h:[(some ⟨Q.bm,0,none⟩:Option Addr),some ⟨Q.bp,0,none⟩,some ⟨X.gb,0,none⟩,some ⟨X.pb,0,none⟩][n]? =some x):cg w (af (some ⟨X.hb,0,none⟩) n) (.one .ptr) x:=by
 obtain⟨j,hj⟩:=List.getElem?_of_mem hk
 rw[aK]
 refine bY (S.get hj) ?_
 rcases n with _| _| _| _|n
 ·cases h;rfl
 ·cases h;rfl
 ·cases h;rfl
 ·cases h;rfl
 ·simp at h
theorem jK (S:aU Q D G w0 w s L0) (hk:(X.hb,hcs Q X A g)∈L0):ah Tryz.prog 47 [.pointer (some ⟨X.hb,0,none⟩)] w (.bool true):=by
 refine ah.of (s:= .el (.one .bool)) fun w' h'=>ai (C:=V0) (aJ:=fun _=>[]) (Eq.mpr (xZ _ w' _) ?_)
 exact⟨fun _=>rfl,fun _=>rfl,ag.of _ ((S.ext h').fu hk (n:=0) rfl) fun w1 h1=>⟨rfl,h1⟩⟩
theorem n5 (S:aU Q D G w0 w s L0) (hk:(X.hb,hcs Q X A g)∈L0) (v:Int):ah Tryz.prog 16 [.pointer (some ⟨X.hb,0,none⟩),.int .i64 v] w (.bool (aD g v)):=by
 refine ah.of (s:= .el (.one .bool)) fun w' h'=>ai (C:=V0) (aJ:=fun _=>[]) (Eq.mpr (A0 _ v w' _) ?_)
 have S:=S.ext h'
 refine⟨_,jK S hk,fun _=>rfl,fun _=>rfl,fun c=>?_,?_⟩
 ·simp only[Bool.and_eq_true,decide_eq_true_eq] at c
  exact⟨rfl,by omega,by show v<((17:Nat):Int);omega⟩
 ·unfold aD
  by_cases hv:v>=1/\v<=16
  ·refine ag.of _ (S.hcell hk ⟨by omega,hv.2⟩) fun w1 h1=>⟨?_,h1⟩
   unfold jh
   cases g v.toNat<;>simp
  ·have c:(true&&decide (v>=1)&&decide (v<=16))=false:=by
    rw[Bool.and_eq_false_iff,Bool.true_and,decide_eq_false_iff_not,decide_eq_false_iff_not];omega
   rw[c]
   refine⟨none,fun h=>(by cases h),fun w1 h1=>⟨?_,h1⟩⟩
   rw[Bool.true_and] at c
   rw[c];rfl
theorem bI {a:Int} (h:0<=a/\a<9223372036854775808):ax .i64 a=a:=eT (by omega) h.2
theorem A9 (S:aU Q D G w0 w s L0) (hk:(X.hb,hcs Q X A g)∈L0) {a:Int} (ha:0<=a):ah Tryz.prog 148 [.pointer (some ⟨X.hb,0,none⟩),.int .u64 a] w (.bool (aD g a)):=by
 refine ah.of (s:= .el (.one .bool)) fun w' h'=>ai (C:=V0) (aJ:=fun _=>[]) (Eq.mpr (GJ _ a w' _) ?_)
 have S:=S.ext h'
 refine⟨aD g a,fun c=>?_,fun w1 h1=>⟨?_,h1⟩⟩
 ·have c:a<=16:=by simpa using c
  rw[bI ⟨ha,by omega⟩]
  exact n5 S hk a
 ·by_cases c:a<=16
  ·rw[decide_eq_true c];rfl
  ·rw[decide_eq_false c]
   unfold aD
   rw[decide_eq_false c];simp
theorem vC (S:aU Q D G w0 w s L0) (hk:(X.hb,hcs Q X A g)∈L0) (v:Int) {a:Int} (ha:0<=a):ah Tryz.prog 163 [.pointer (some ⟨X.hb,0,none⟩),.int .i64 v,.int .u64 a] w (.int .i64 (cr g v a)):=by
 refine ah.of (s:= .el (.one (.int .i64))) fun w' h'=>ai (C:=V0) (aJ:=fun _=>[]) (Eq.mpr (GK _ v a w' _) ?_)
 have S:=S.ext h'
 unfold cr
 by_cases c:a<1\/a>16\/a=v
 ·rw[if_pos c]
  refine ay ?_ fun w1 h1=>⟨rfl,h1⟩
  simp only[Bool.or_eq_true,decide_eq_true_eq,beq_iff_eq]
  rcases c with c|c|c
  ·exact .inl (.inl c)
  ·exact .inl (.inr c)
  ·by_cases c2:a>16
   ·exact .inl (.inr c2)
   ·exact .inr (by rw[bI ⟨ha,by omega⟩];exact c)
 ·rw[if_neg c]
  refine ak ?_ ⟨_,A9 S hk ha,?_⟩
  ·rw[bI ⟨ha,by omega⟩]
   simp only[Bool.or_eq_false_iff,decide_eq_false_iff_not,beq_eq_false_iff_ne]
   omega
  ·cases aD g a with
   |true=>exact ak rfl fun w1 h1=>⟨rfl,h1⟩
   |false=>exact ay rfl fun w1 h1=>⟨rfl,h1⟩
theorem Ey (S:aU Q D G w0 w s L0) (hk:(X.hb,hcs Q X A g)∈L0) (hg: ∀i v,g i=some v-> ∀x∈fZ Q A i v,x∈L0) (v:Int):ah Tryz.prog 32 [.pointer (some ⟨X.hb,0,none⟩),.int .i64 v] w (.int .i64 (aT g v)):=by
 refine ah.of (s:= .el (.one (.int .i64))) fun w' h'=>ai (C:=V0) (aJ:=fun _=>[]) (Eq.mpr (A1 _ v w' _) ?_)
 have S:=S.ext h'
 refine⟨_,n5 S hk v,?_⟩
 unfold aT
 cases hl:aD g v with
 |false=>exact ay rfl fun w1 h1=>⟨rfl,h1⟩
 |true=>
  obtain⟨hv,x,hx⟩:=dw.1 hl
  have hc:=S.hcell hk (v:=v) ⟨by omega,hv.2⟩
  have hp:jh A g v.toNat=some ⟨(A v.toNat).bg,0,none⟩:=by unfold jh;rw[hx]
  rw[hp] at hc
  obtain⟨j1,wF⟩:=List.getElem?_of_mem (hg _ _ hx _ List.mem_cons_self)
  obtain⟨j2,hj2⟩:=List.getElem?_of_mem (hg _ _ hx _ (List.mem_cons_of_mem _ List.mem_cons_self))
  refine ak rfl ⟨rfl,rfl,⟨rfl,by omega,by show v<((17:Nat):Int);omega⟩,ag.of _ hc ⟨rfl,rfl,S.bu j1 wF rfl ⟨_,S.root j2 hj2,fun w1 h1=>⟨?_,h1⟩⟩⟩⟩
  rw[hx,if_pos rfl];rfl
theorem k_ (H:SM Q D G w0 w s L0 M) (hk:(X.hb,hcs Q X A g)∈L0) (hg: ∀i v,g i=some v-> ∀x∈fZ Q A i v,x∈L0) (hm: ∀i v,g i=some v->((A i).bm,Obj.map ⟨(A i).es⟩ (A i).ck)∈M) (hr: ∀i v,g i=some v->oG (A i).es (A i).ck v.tk) (v p:Int):
 ah Tryz.prog 22 [.pointer (some ⟨X.hb,0,none⟩),.int .i64 v,.int .i64 p] w ((Sh.bq [.one (.int .i64),.one .bool]).gi (dH g v p)):=by
 refine ah.of (s:= .bq [.one (.int .i64),.one .bool]) fun w' h'=>ai (C:=V0) (aJ:=fun _=>[]) (Eq.mpr (x_ _ v p w' _) ?_)
 have H:=H.ext h'
 have S:=H.base
 refine⟨_,n5 S hk v,?_⟩
 unfold dH
 cases hl:aD g v with
 |false=>exact ay rfl fun w1 h1=>⟨rfl,h1⟩
 |true=>
  obtain⟨hv,x,hx⟩:=dw.1 hl
  have hc:=S.hcell hk (v:=v) ⟨by omega,hv.2⟩
  have hp:jh A g v.toNat=some ⟨(A v.toNat).bg,0,none⟩:=by unfold jh;rw[hx]
  rw[hp] at hc
  obtain⟨j1,wF⟩:=List.getElem?_of_mem (hg _ _ hx _ List.mem_cons_self)
  obtain⟨r,hf,BM⟩:=(hr _ _ hx).find p
  have hmo:bA w' (A v.toNat).bm ⟨(A v.toNat).es⟩ (A v.toNat).ck:=H.get (hm _ _ hx)
  refine ak rfl ⟨rfl,rfl,⟨rfl,by omega,by show v<((17:Nat):Int);omega⟩,ag.of _ hc ⟨rfl,rfl,S.bu j1 wF rfl ?_⟩⟩
  rw[hx,if_pos rfl]
  dsimp only
  have U7:Ext w' w':=Ext.refl _
  have H0:=At.start [] w'
  cases ht:a9 x.tk p with
  |none=>
   rw[ht] at BM
   refine⟨(0,0,()),false,⟨_, _, _,rfl,hmo,?_⟩,aA.go H0 fun b w2 H0=>av.all 0 H0 rfl rfl rfl fun w3 H0=>⟨rfl,ag.bP 0 H0 rfl rfl (aj.go H0 fun w4 H0=>⟨rfl,H0.all⟩)⟩⟩
   rw[hf,BM]
   exact⟨rfl,rfl⟩
  |some y=>
   rw[ht] at BM
   obtain⟨i,e, _⟩:=BM
   refine⟨(y.1,y.2,()),true,⟨_, _, _,rfl,hmo,?_⟩,aA.go H0 fun b w2 H0=>av.all 0 H0 rfl rfl rfl fun w3 H0=>⟨rfl,ag.bP 0 H0 rfl rfl (aj.go H0 fun w4 H0=>⟨rfl,H0.all⟩)⟩⟩
   rw[hf,e]
   exact⟨rfl,rfl⟩
end
end Go.Proofs.YtdnoecpjcoibmaaGreat
namespace Go.Proofs.YtdnoecpjcoibmaaGreat
set_option maxRecDepth 100000
open Go.RX D
section
variable {G:List Nat} {w0 w:World}
theorem LZ {bm bw n c:Nat} {ca la:Int} {ws:List Int} {rest:List Value} {L0:List (Nat×List Value)} (H:At G w0 w ((bm,hH bw n c ca la)::(bw,flat eW ws++rest)::L0)) (hn:n=ws.length) (h0:0<n) (hW:okW ws) (f p t:Int) {K:FT->World->Prop}
 (k: ∀BL w1,At G w0 w1 ((bm,hH bw n c BL la)::(bw,flat eW ws++rest)::L0)->K (uO ws f p t) w1):
 az Tryz.prog 213 (.el (.agg sF)) [.pointer (some ⟨bm,0,none⟩),.int .i64 f,.int .i64 p,.int .i64 t] w K:=by
 refine az.go H fun w1 H=>aL (C:=M1) (aJ:=tK) (Eq.mpr (NP _ f p t w1 K) ?_)
 refine aA.go H fun b w2 H=>NR H f p t (fun hb w3 H=>?_) fun hb bk w3 H=>?_
 ·have e:uO ws f p t=(0,0,0,1,()):=if_pos hb
  rw[e] at k
  exact ay rfl (av.all 0 H rfl rfl rfl fun w4 H=>aj.go H fun w5 H=>ag.at 0 H rfl rfl (k ca w5 (H.sub (List.sublist_cons_self _ _))))
 have e:uO ws f p t=(mj ws f p t 4).2.2:=if_neg (by rw[hb];decide)
 rw[e] at k
 refine ak rfl ⟨fun q _ w'=> ∃(i:Nat) (Ls:List (Nat×List Value)) (s:Option Addr×Nat×Nat) (xs:List Int) (BL:Int),q+i=4/\i<=3/\(mj ws f p t i).2.1≠ -1/\xs.length=i/\sO Ls s xs/\
  At G w0 w' ((bk,oI (mj ws f p t i).1 p t (mj ws f p t i).2.1 (mj ws f p t i).2.2 s)::(bm,hH bw n c BL la)::(bw,flat eW ws++rest)::(Ls++((b,[.int .i64 0,.int .i64 0,.int .i64 0,.int .i64 0])::L0))),⟨4,fun w4 h4=>⟨0,[],(none,0,0),[],ca,rfl,by decide,(show(3:Int)≠ -1 by decide),rfl,.inl ⟨rfl,rfl,rfl⟩,(H.ext h4).perm ?_⟩⟩,?_⟩
 ·exact .cons _ (List.perm_append_comm (l₁:=[(bm,hH bw n c ca la),(bw,flat eW ws++rest)]) (l₂:=[(b,[.int .i64 0,.int .i64 0,.int .i64 0,.int .i64 0])]) |>.append_right L0)
 clear H
 rintro q u w4 ⟨i,Ls,s,xs,BL,hq,Tb,hl,S9,hP,H⟩
 dsimp only
 refine KN H hP (by omega) hn h0 hW hl fun w5 wZ s' HT H=>?_
 have es:iZ ws p t ((mj ws f p t i).1,(mj ws f p t i).2.1,(mj ws f p t i).2.2)=mj ws f p t (i+1):=rfl
 rw[es] at H ⊢
 by_cases hd:(mj ws f p t (i+1)).2.1= -1
 ·have e4:mj ws f p t 4=mj ws f p t (i+1):=by
   have:=zk hd (4 - (i+1))
   rw[show i+1+(4 - (i+1))=4 by omega] at this
   exact this
  rw[e4] at k
  generalize mj ws f p t (i+1)=y at H hd k
  obtain⟨y0,y1,⟨y2,y3,y4,y5,yu⟩⟩:=y
  refine ak (by rw[hd];rfl) ⟨rfl,rfl,ag.bP (x:=(y2,y3,y4,y5,())) 0 H rfl rfl ?_⟩
  have H:=H.perm (L':=(b,[.int .i64 0,.int .i64 0,.int .i64 0,.int .i64 0])::((bk,oI y0 p t y1 (y2,y3,y4,y5,()) s')::(bm,hH bw n c (tW ws (dX (mj ws f p t i).1 p (mj ws f p t i).2.1) BL) la)::(bw,flat eW ws++rest)::(wZ++L0))) (by
   refine(List.perm_middle (l₁:=[(bk,oI y0 p t y1 (y2,y3,y4,y5,()) s'),(bm,hH bw n c (tW ws (dX (mj ws f p t i).1 p (mj ws f p t i).2.1) BL) la),(bw,flat eW ws++rest)]++wZ) (a:=(b,[.int .i64 0,.int .i64 0,.int .i64 0,.int .i64 0])) (l₂:=L0)).symm)
  refine av.all 0 H rfl rfl rfl fun w6 H=>aj.go H fun w7 H=>ag.at 0 H rfl rfl (k (tW ws (dX (mj ws f p t i).1 p (mj ws f p t i).2.1) BL) w7 ?_)
  have H:=(H.sub (List.sublist_cons_self _ _)).sub (List.sublist_cons_self _ _)
  exact H.sub (.cons_cons _ (.cons_cons _ (List.sublist_append_right _ _)))
 ·have hlv:=(PB ws f p t (i+1)).resolve_left hd
  refine ay (by simp[hd]) fun w6 h6=>⟨q - 1,by omega,i+1,wZ,s',xs++[(mj ws f p t i).1], _,by omega,hlv.2,hd,by rw[List.length_append,S9];rfl,HT,H.ext h6⟩
theorem G6 {bm bw n c:Nat} {ca la:Int} {ws:List Int} {rest:List Value} {L:List (Nat×List Value)} (H:At G w0 w L) (j jw:Nat) (hm:L[j]? =some (bm,hH bw n c ca la)) (hw:L[jw]? =some (bw,flat eW ws++rest)) (hj:j≠jw) (hn:n=ws.length) (h0:0<n) (hW:okW ws) (f p t:Int) {K:FT->World->Prop}
 (k: ∀BL w1,At G w0 w1 (L.set j (bm,hH bw n c BL la))->K (uO ws f p t) w1):
 az Tryz.prog 213 (.el (.agg sF)) [.pointer (some ⟨bm,0,none⟩),.int .i64 f,.int .i64 p,.int .i64 t] w K:=by
 obtain⟨L2,q1,q2⟩:=RF hm hw hj
 exact LZ (H.perm q1.symm) hn h0 hW f p t fun BL w1 H=>k BL w1 (H.perm (q2 _))
end
section
variable {D G:List Nat} {w0 w w':World} {L:List (Nat×List Value)}
theorem _root_.Go.RX.aF.Xd (H:aF D G w0 w L) (h:Ext w w') {e:El} {r:Option Addr×Nat×Nat} {xs:List e.T} (ho:iM w w' e r xs) (hx:xs≠[]):
 ∃b c rest,r=(some ⟨b,0,none⟩,xs.length,c)/\xs.length<=c/\aF D G w0 w' ((b,flat e xs++rest)::L):=by
 have h2:=ho.2.1
 obtain⟨b,c,rest,rfl,H2⟩:=H.got h ho hx
 exact⟨b,c,rest,rfl,h2,H2⟩
end
theorem Ez (ws:List Int) (h:0<ws.length):gP ws 0 (ws.length:Int)=ws:=by
 unfold gP
 rw[if_neg (by omega)]
 simp
section
variable {Q:Sys} {D G:List Nat} {w0 w:World} {s:WD} {L0:List (Nat×List Value)}
namespace aU
theorem I3 (S:aU Q D G w0 w s L0) (hc:Fe Q s) {K:Option Addr->World->Prop}
 (k: ∀bc bs cap rest ca la w2,s.1.length<=cap->aU Q D G w0 w2 s ((bc,hH bs s.1.length cap ca la)::(bs,flat eW s.1++rest)::L0)->K (some ⟨bc,0,none⟩) w2):
 az Tryz.prog 38 (.el (.one .ptr)) [.pointer (some ⟨Q.bm,0,none⟩)] w K:=by
 refine S.go fun w1 S=>ai (C:=N0) (aJ:=fun _=>[]) (Eq.mpr (LJ _ w1 K) ?_)
 have h0:=S.pos
 refine⟨_,S.M9,ak (by simp;intro e;rw[e] at h0;simp at h0) ?_⟩
 obtain⟨ca,la,hm⟩:=S.mem
 refine⟨rfl,ag.of ((some ⟨Q.bw,0,none⟩,s.1.length,Q.c),ca,la,()) (bY hm rfl) (S.al fun bc w2 S=>S.cC 0 rfl rfl rfl fun w3 S=>⟨_,S.M9,?_⟩)⟩
 refine S.go fun w4 S=>ai (C:=N0) (aJ:=fun _=>[]) (Eq.mpr (sx _ 0 _ w4 _) ?_)
 obtain⟨h1,h2,h3,h4,Qg,S8,H⟩:=S
 refine ak rfl ⟨rfl,rfl,ag.bP 0 H rfl rfl fun w5 h5=>(Cn ((H.ext h5).get (i:=1) rfl) rfl hc.1 hc.2 0 _).mono fun x w6 hx=>?_⟩
 obtain⟨ho,hx⟩:=hx
 rw[Ez s.1 h1] at ho
 obtain⟨bs,cap,rest,rfl,hcap,H6⟩:=(H.ext h5).Xd hx ho (fun e=>by rw[e] at h1;exact absurd h1 (by decide))
 refine aj.go H6 fun w7 H7=>?_
 have S:aU Q D G w0 w7 s ((bs,flat eW s.1++rest)::(bc,[.slice (some ⟨Q.bw,0,none⟩) s.1.length Q.c,.int .i64 ca,.int .i64 la])::L0):=
  ⟨h1,h2,h3,h4,Qg,S8,H7.perm (List.perm_middle (l₁:=[_, _, _, _]))⟩
 refine⟨rfl,rfl,?_⟩
 rw[aK]
 refine S.lR 1 rfl rfl rfl fun w8 S=>S.en fun w9 S=>k bc bs cap rest ca la w9 hcap (S.perm (.swap _ _ _))
theorem Ux (S:aU Q D G w0 w s L0) {K:Option Addr->World->Prop}
 (k: ∀pn kK c' rest' w2,aU Q D G w0 w2 s ((pn,[.slice (some ⟨kK,0,none⟩) s.2.length c'])::(kK,flat eD s.2++rest')::L0)->K (some ⟨pn,0,none⟩) w2):
 az Tryz.prog 55 (.el (.one .ptr)) [.pointer (some ⟨Q.bp,0,none⟩)] w K:=by
 refine S.go fun w1 S=>?_
 obtain⟨h1,h2,h3,h4,ca,la,H⟩:=S
 refine Ol H (H.get (i:=3) rfl) (H.get (i:=2) rfl) rfl h2 h3 fun pn kK c' rest' w2 H=>k pn kK c' rest' w2 ⟨h1,h2,h3,h4,ca,la,H.perm ?_⟩
 exact List.perm_append_comm (l₁:=[_, _, _, _]) (l₂:=[(pn, _),(kK, _)]) |>.append_right L0
theorem Vi (S:aU Q D G w0 w s L0) (f:Int):ah Tryz.prog 21 [.pointer (some ⟨Q.bp,0,none⟩),.int .i64 f] w ((Sh.bq [eD,.one .bool]).gi (oJ s.2 f,uI s.2 f,())):=by
 obtain⟨h1,h2,h3,h4,ca,la,H⟩:=S
 exact W6 H 3 2 rfl rfl rfl f
theorem B_ (S:aU Q D G w0 w s L0) (f:Int) {K:Int->World->Prop} (k: ∀w2,aU Q D G w0 w2 (s.1,fQ s.2 f (aE 0 0)) L0->K (sP s.2 f (aE 0 0)) w2):
 az Tryz.prog 81 (.el (.one (.int .i64))) [.pointer (some ⟨Q.bp,0,none⟩),.int .i64 f] w K:=by
 obtain⟨h1,h2,h3,h4,ca,la,H⟩:=S
 refine OA H 3 2 rfl rfl (by decide) rfl h2 h3 f fun w2 H=>k w2 ⟨h1,?_,?_,h4,ca,la,?_⟩
 ·show 0<(fQ s.2 f (aE 0 0)).length
  rw[gZ];exact h2
 ·show(fQ s.2 f (aE 0 0)).length<=4096
  rw[gZ];exact h3
 ·unfold Sys.L
  show aF D G w0 w2 (_:: _:: _::(Q.bp,[.slice _ (fQ s.2 f (aE 0 0)).length _]):: _)
  rw[gZ]
  exact H
theorem pref (S:aU Q D G w0 w s L0) (f x:Int) (hx: -9223372036854775808<=x/\x<9223372036854775808) {K:Int->World->Prop} (k: ∀w2,aU Q D G w0 w2 (s.1,fQ s.2 f (gN x)) L0->K (sP s.2 f (gN x)) w2):
 az Tryz.prog 167 (.el (.one (.int .i64))) [.pointer (some ⟨Q.bp,0,none⟩),.int .i64 f,.int .i64 x] w K:=by
 obtain⟨h1,h2,h3,h4,ca,la,H⟩:=S
 refine Oz H 3 2 rfl rfl (by decide) rfl h2 h3 f x hx fun w2 H=>k w2 ⟨h1,?_,?_,h4,ca,la,?_⟩
 ·show 0<(fQ s.2 f (gN x)).length
  rw[gZ];exact h2
 ·show(fQ s.2 f (gN x)).length<=4096
  rw[gZ];exact h3
 ·unfold Sys.L
  show aF D G w0 w2 (_:: _:: _::(Q.bp,[.slice _ (fQ s.2 f (gN x)).length _]):: _)
  rw[gZ]
  exact H
theorem owned (S:aU Q D G w0 w s L0) (v:Int) {K:Option Addr×Nat×Nat->World->Prop} (k: ∀r rows w2,aU Q D G w0 w2 s (L0++rows)->jy eI rows r ((fJ s.2 v).map fun i=>((i:Nat):Int))->K r w2):
 az Tryz.prog 149 (.el (.one .slice)) [.pointer (some ⟨Q.bp,0,none⟩),.int .i64 v] w K:=by
 obtain⟨h1,h2,h3,h4,ca,la,H⟩:=S
 exact LK H 3 2 rfl rfl rfl h3 v fun r rows w2 H hr=>k r rows w2 ⟨h1,h2,h3,h4,ca,la,H⟩ hr
theorem walk (S:aU Q [] G w0 w s L0) (f p t:Int) {K:FT->World->Prop} (k: ∀w1,aU Q [] G w0 w1 s L0->K (uO s.1 f p t) w1):
 az Tryz.prog 213 (.el (.agg sF)) [.pointer (some ⟨Q.bm,0,none⟩),.int .i64 f,.int .i64 p,.int .i64 t] w K:=by
 obtain⟨h1,h2,h3,h4,ca,la,H⟩:=S
 exact G6 H 0 1 rfl rfl (by decide) rfl h1 h4 f p t fun BL w1 H=>k w1 ⟨h1,h2,h3,h4,BL,la,H⟩
end aU
end
end Go.Proofs.YtdnoecpjcoibmaaGreat
namespace Go.Proofs.YtdnoecpjcoibmaaGreat
set_option maxRecDepth 100000
open Go.RX D
def cL (g:Nat->Option GV) (s:WD) (v p:Int):Int×Int×Int×Unit:=if aD g v=true then(match g v.toNat with
 |some x=>aV s x.root false p
 |none=>(0,0,4,())) else(0,0,4,())
def ja (s:WD) (f:Int):Int:=if uI s.2 f=false then 2 else if(oJ s.2 f).1≠5 then 6 else sP s.2 f (aE 0 0)
def iq (s:WD) (f:Int):WD:=if uI s.2 f=true/\(oJ s.2 f).1=5 then(s.1,fQ s.2 f (aE 0 0)) else s
section
variable {Q:Sys} {X:HX} {D G:List Nat} {w0 w:World} {s:WD} {L0:List (Nat×List Value)} {M:List (Nat×Obj)} {A:Nat->GA} {g:Nat->Option GV}
theorem ot (S:aU Q D G w0 w s L0) (hk:(X.hb,hcs Q X A g)∈L0) (hg: ∀i v,g i=some v-> ∀x∈fZ Q A i v,x∈L0) (v p:Int) {K:Int×Int×Int×Unit->World->Prop} (k: ∀w2,aU Q D G w0 w2 s L0->K (cL g s v p) w2):
 az Tryz.prog 15 (.bq [.one (.int .i64),.one (.int .i64),.one (.int .i64)]) [.pointer (some ⟨X.hb,0,none⟩),.int .i64 v,.int .i64 p] w K:=by
 refine S.go fun w1 S=>ai (C:=V0) (aJ:=fun _=>[]) (Eq.mpr (x9 _ v p w1 K) ?_)
 refine⟨_,jK S hk,ak rfl ⟨_,n5 S hk v,?_⟩⟩
 unfold cL at k
 cases hl:aD g v with
 |false=>
  rw[hl,if_neg (by decide)] at k
  exact ay rfl (S.en fun w2 S=>k w2 S)
 |true=>
  obtain⟨hv,x,hx⟩:=dw.1 hl
  rw[hl,if_pos rfl,hx] at k
  have hc:=S.hcell hk (v:=v) ⟨by omega,hv.2⟩
  have hp:jh A g v.toNat=some ⟨(A v.toNat).bg,0,none⟩:=by unfold jh;rw[hx]
  rw[hp] at hc
  obtain⟨j1,wF⟩:=List.getElem?_of_mem (hg _ _ hx _ List.mem_cons_self)
  obtain⟨j2,hj2⟩:=List.getElem?_of_mem (hg _ _ hx _ (List.mem_cons_of_mem _ List.mem_cons_self))
  refine ak rfl ⟨rfl,rfl,⟨rfl,by omega,by show v<((17:Nat):Int);omega⟩,ag.of _ hc ⟨rfl,rfl,S.bu j1 wF rfl (S.query j2 hj2 p fun w2 S=>S.en fun w3 S=>k w3 S)⟩⟩
theorem L3 (S:aU Q D G w0 w s L0) (hk:(X.hb,hcs Q X A g)∈L0) (f:Int) {K:Int->World->Prop} (k: ∀w2,aU Q D G w0 w2 (iq s f) L0->K (ja s f) w2):
 az Tryz.prog 37 (.el (.one (.int .i64))) [.pointer (some ⟨X.hb,0,none⟩),.int .i64 f] w K:=by
 refine S.go fun w1 S=>ai (C:=V0) (aJ:=fun _=>[]) (Eq.mpr (A3 _ f w1 K) ?_)
 refine⟨_,jK S hk,ak rfl ⟨rfl,rfl,ag.of _ (S.fu hk (n:=1) rfl) ⟨(oJ s.2 f,uI s.2 f,()),S.Vi f,S.al fun b w2 S=>S.cC 0 rfl rfl rfl fun w3 S=>?_⟩⟩⟩
 have hk': ∀x:Nat×List Value,(X.hb,hcs Q X A g)∈x::L0:=fun x=>List.mem_cons_of_mem _ hk
 cases ho:uI s.2 f with
 |false=>
  have e1:iq s f=s:=if_neg (fun h=>by rw[ho] at h;cases h.1)
  have e2:ja s f=2:=if_pos ho
  rw[e1,e2] at k
  exact ay rfl (S.en fun w4 S=>k w4 S.tail)
 |true=>
  have e3: ¬ uI s.2 f=false:=by rw[ho];decide
  refine ak rfl ⟨rfl,S.bu 0 rfl rfl ?_⟩
  by_cases hf:(oJ s.2 f).1=5
  ·have e1:iq s f=(s.1,fQ s.2 f (aE 0 0)):=if_pos ⟨ho,hf⟩
   have e2:ja s f=sP s.2 f (aE 0 0):=by
    unfold ja;rw[if_neg e3,if_neg (fun h=>h hf)]
   rw[e1,e2] at k
   exact ak (by simpa using hf) ⟨rfl,rfl,ag.of _ (S.fu (hk' _) (n:=1) rfl) (S.B_ f fun w4 S=>S.en fun w5 S=>k w5 S.tail)⟩
  ·have e1:iq s f=s:=if_neg (fun h=>hf h.2)
   have e2:ja s f=6:=by
    unfold ja;rw[if_neg e3,if_pos hf]
   rw[e1,e2] at k
   exact ay (by simpa using hf) (S.en fun w4 S=>k w4 S.tail)
theorem Dg (S:aU Q D G w0 w s L0) (hk:(X.hb,hcs Q X A g)∈L0) {K:Option Addr->World->Prop} (k: ∀pn kK c' rest' w2,aU Q D G w0 w2 s ((pn,[.slice (some ⟨kK,0,none⟩) s.2.length c'])::(kK,flat eD s.2++rest')::L0)->K (some ⟨pn,0,none⟩) w2):
 az Tryz.prog 19 (.el (.one .ptr)) [.pointer (some ⟨X.hb,0,none⟩)] w K:=by
 refine S.go fun w1 S=>ai (C:=V0) (aJ:=fun _=>[]) (Eq.mpr (v_ _ w1 K) ?_)
 exact⟨_,jK S hk,ak rfl ⟨rfl,rfl,ag.of _ (S.fu hk (n:=1) rfl) (S.Ux fun a b c d w2 S=>S.en fun w3 S=>k a b c d w3 S)⟩⟩
theorem Dh (S:aU Q D G w0 w s L0) (hk:(X.hb,hcs Q X A g)∈L0) {K:Option Addr->World->Prop} (k: ∀w2,aU Q D G w0 w2 s L0->K (some ⟨Q.bm,0,none⟩) w2):
 az Tryz.prog 26 (.el (.one .ptr)) [.pointer (some ⟨X.hb,0,none⟩)] w K:=by
 refine S.go fun w1 S=>ai (C:=V0) (aJ:=fun _=>[]) (Eq.mpr (we _ w1 K) ?_)
 exact⟨_,jK S hk,ak rfl ⟨rfl,rfl,ag.of _ (S.fu hk (n:=0) rfl) (S.en fun w3 S=>k w3 S)⟩⟩
end
structure MN (A:Nat->GA) (g:Nat->Option GV) (A':Nat->GA) (g':Nat->Option GV):Prop where
 bg: ∀i,(A' i).bg=(A i).bg
 bt: ∀i,(A' i).bt=(A i).bt
 bm: ∀i,(A' i).bm=(A i).bm
 rt: ∀i,(g' i).map GV.root=(g i).map GV.root
section
variable {A A':Nat->GA} {g g':Nat->Option GV} {Q:Sys} {X:HX}
theorem MN.some (h:MN A g A' g') (i:Nat):(∃v,g' i=some v)<-> ∃v,g i=some v:=by
 have:=h.rt i
 cases h1:g' i<;>cases h2:g i<;>rw[h1,h2] at this<;>simp at this<;>simp
theorem MN.ptr (h:MN A g A' g'):jh A' g'=jh A g:=by
 funext i
 have:=h.rt i
 have hb:=h.bg i
 unfold jh
 cases h1:g' i<;>cases h2:g i<;>rw[h1,h2] at this<;>simp at this<;>simp[hb]
theorem MN.cs (h:MN A g A' g'):hcs Q X A' g'=hcs Q X A g:=by
 unfold hcs kC
 rw[h.ptr]
theorem MN.rows (h:MN A g A' g') (l:List Nat):aR Q A' g' l=aR Q A g l:=by
 unfold aR
 congr 1
 funext i
 have:=h.rt i
 cases h1:g' i<;>cases h2:g i<;>rw[h1,h2] at this<;>simp at this
 ·dsimp only
  unfold fZ
  rw[h.bg i,h.bt i,h.bm i,this]
theorem j9 {i:Nat} {v:GV} (hi:i<17) (hv:g i=some v):(dW A g (List.range 17)).Perm (((A i).bm,Obj.map ⟨(A i).es⟩ (A i).ck)::dW A g ((List.range 17).erase i)):=by
 unfold dW
 refine(List.Perm.flatMap_right _ (List.perm_cons_erase (List.mem_range.2 hi))).trans ?_
 rw[List.flatMap_cons,hv]
 exact List.Perm.refl _
theorem tP {i:Nat} {v:GV} (hi:i<17) (hv:g i=some v):(aR Q A g (List.range 17)).Perm (fZ Q A i v++aR Q A g ((List.range 17).erase i)):=by
 unfold aR
 refine(List.Perm.flatMap_right _ (List.perm_cons_erase (List.mem_range.2 hi))).trans ?_
 rw[List.flatMap_cons,hv]
theorem wh {i:Nat} (hi:i<17) (hv:g i=none):(dW A g (List.range 17)).Perm (dW A g ((List.range 17).erase i)):=by
 unfold dW
 refine(List.Perm.flatMap_right _ (List.perm_cons_erase (List.mem_range.2 hi))).trans ?_
 rw[List.flatMap_cons,hv]
 exact List.Perm.refl _
theorem wj {i:Nat} (hi:i<17) (hv:g i=none):(aR Q A g (List.range 17)).Perm (aR Q A g ((List.range 17).erase i)):=by
 unfold aR
 refine(List.Perm.flatMap_right _ (List.perm_cons_erase (List.mem_range.2 hi))).trans ?_
 rw[List.flatMap_cons,hv]
 exact List.Perm.refl _
theorem jP {α β:Type} {f f':α->List β}: ∀{l:List α},(∀x∈l,f x=f' x)->l.flatMap f=l.flatMap f'
 |[], _=>rfl
 |x::l,h=>by
  rw[List.flatMap_cons,List.flatMap_cons,h x List.mem_cons_self,jP fun y hy=>h y (List.mem_cons_of_mem _ hy)]
theorem JG {i j:Nat} (h:j∈(List.range 17).erase i):j≠i:=fun e=>by
 subst e
 exact(List.nodup_range.not_mem_erase) h
theorem nJ {i:Nat} (h: ∀j,j≠i->A' j=A j/\g' j=g j):dW A' g' ((List.range 17).erase i)=dW A g ((List.range 17).erase i):=by
 unfold dW
 refine jP fun j hj=>?_
 obtain⟨h1,h2⟩:=h j (JG hj)
 rw[h1,h2]
theorem tR {i:Nat} (h: ∀j,j≠i->A' j=A j/\g' j=g j):aR Q A' g' ((List.range 17).erase i)=aR Q A g ((List.range 17).erase i):=by
 unfold aR
 refine jP fun j hj=>?_
 obtain⟨h1,h2⟩:=h j (JG hj)
 rw[h2]
 cases g j with
 |none=>rfl
 |some v=>dsimp only;unfold fZ;rw[h1]
end
def mL (A:Nat->GA) (i:Nat) (x:GA):Nat->GA:=fun j=>if j=i then x else A j
def aS (g:Nat->Option GV) (i:Nat) (x:Option GV):Nat->Option GV:=fun j=>if j=i then x else g j
theorem ou (A:Nat->GA) (i:Nat) (x:GA):mL A i x i=x:=if_pos rfl
theorem eJ (g:Nat->Option GV) (i:Nat) (x:Option GV):aS g i x i=x:=if_pos rfl
theorem yl (A:Nat->GA) (g:Nat->Option GV) (i:Nat) (x:GA) (y:Option GV): ∀j,j≠i->mL A i x j=A j/\aS g i y j=g j:=fun _ h=>⟨if_neg h,if_neg h⟩
theorem EA {A:Nat->GA} {g:Nat->Option GV} {i:Nat} {v:GV} (hv:g i=some v) (es:List MapEntry) (ck:Nat) (tk:List TK):MN A g (mL A i {A i with es:=es,ck:=ck}) (aS g i (some {v with tk:=tk})):=by
 refine⟨fun j=>?_,fun j=>?_,fun j=>?_,fun j=>?_⟩
 ·unfold mL;split
  ·rename_i e;subst e;rfl
  ·rfl
 ·unfold mL;split
  ·rename_i e;subst e;rfl
  ·rfl
 ·unfold mL;split
  ·rename_i e;subst e;rfl
  ·rfl
 ·unfold aS;split
  ·rename_i e;subst e;rw[hv];rfl
  ·rfl
theorem SM.JH {Q:Sys} {D G:List Nat} {w0 w:World} {s:WD} {L0:List (Nat×List Value)} {A:Nat->GA} {g:Nat->Option GV} (H:SM Q D G w0 w s L0 (dW A g (List.range 17))) {i:Nat} {v:GV} (hi:i<17) (hv:g i=some v) (es:List MapEntry) (ck:Nat) (tk:List TK):
 SM Q D G w0 (w.putObj (A i).bm (.map ⟨es⟩ ck)) s L0 (dW (mL A i {A i with es:=es,ck:=ck}) (aS g i (some {v with tk:=tk})) (List.range 17)):=by
 have H1:=(H.u5 (j9 hi hv).symm).put (i:=0) rfl (o':= .map ⟨es⟩ ck) trivial
 refine H1.u5 ((j9 hi (v:={v with tk:=tk}) (eJ _ _ _)).trans ?_)
 rw[nJ (yl A g i _ _),ou]
 exact List.Perm.refl _
end Go.Proofs.YtdnoecpjcoibmaaGreat
namespace Go.Proofs.YtdnoecpjcoibmaaGreat
set_option maxRecDepth 100000
open Go.RX D
section
variable {Q:Sys} {X:HX} {D G:List Nat} {w0 w:World} {s:WD} {L0:List (Nat×List Value)} {bg br bp c:Nat} {gs:List GT} {rest:List Value} {room:Int} {ps:List Po.PT}
namespace aU
theorem OM (S:aU Q D G w0 w s L0) (j jr:Nat) (hm:L0[j]? =some (bg,j_ br gs.length c)) (hw:L0[jr]? =some (br,flat eG gs++rest)) (h0:0<gs.length) (i o:Int) {K:Int->World->Prop}
 (k: ∀w2,aU Q D G w0 w2 s (L0.set jr (br,flat eG (jz gs i o)++rest))->K (oL gs i o) w2):
 az Tryz.prog 168 (.el (.one (.int .i64))) [.pointer (some ⟨bg,0,none⟩),.int .i64 i,.int .i64 o] w K:=by
 obtain⟨h1,h2,h3,h4,ca,la,HH⟩:=S
 exact CR HH (j+4) (jr+4) hm hw h0 i o fun w2 HH=>k w2 ⟨h1,h2,h3,h4,ca,la,HH⟩
theorem Uy (S:aU Q D G w0 w s L0) (j jr:Nat) (hm:L0[j]? =some (bg,j_ br gs.length c)) (hw:L0[jr]? =some (br,flat eG gs++rest)) (h0:0<gs.length) (hok: ∀x∈gs,0<=x.2.2.2.2.1/\x.2.2.2.2.1<=1000) (i g:Int) (b:Bool) {K:Int->World->Prop}
 (k: ∀w2,aU Q D G w0 w2 s (L0.set jr (br,flat eG (cT gs i g b)++rest))->K (e_ gs i g b) w2):
 az Tryz.prog 165 (.el (.one (.int .i64))) [.pointer (some ⟨bg,0,none⟩),.int .i64 i,.int .i64 g,.bool b] w K:=by
 obtain⟨h1,h2,h3,h4,ca,la,HH⟩:=S
 exact K3 HH (j+4) (jr+4) hm hw h0 hok i g b fun w2 HH=>k w2 ⟨h1,h2,h3,h4,ca,la,HH⟩
theorem PE (S:aU Q D G w0 w s L0) (j jr:Nat) (hm:L0[j]? =some (bg,j_ br gs.length c)) (hw:L0[jr]? =some (br,flat eG gs++rest)) (h0:0<gs.length) (hok: ∀x∈gs,0<=x.2.2.2.2.1/\x.2.2.2.2.1<=1000) (i g:Int) {K:Int->World->Prop}
 (k: ∀w2,aU Q D G w0 w2 s (L0.set jr (br,flat eG (dO gs i g)++rest))->K (kB gs i g) w2):
 az Tryz.prog 166 (.el (.one (.int .i64))) [.pointer (some ⟨bg,0,none⟩),.int .i64 i,.int .i64 g] w K:=by
 obtain⟨h1,h2,h3,h4,ca,la,HH⟩:=S
 exact K4 HH (j+4) (jr+4) hm hw h0 hok i g fun w2 HH=>k w2 ⟨h1,h2,h3,h4,ca,la,HH⟩
theorem RZ (S:aU Q D G w0 w s L0) (j jr:Nat) (hm:L0[j]? =some (bg,j_ br gs.length c)) (hw:L0[jr]? =some (br,flat eG gs++rest)) (h0:0<gs.length) (hl:gs.length<=64) (o q t:Int) (b:Bool) {K:Int×Int×Unit->World->Prop}
 (k: ∀w2,aU Q D G w0 w2 s (L0.set jr (br,flat eG (gR gs o q t b)++rest))->K (h_ gs o q t,iQ gs o q t,()) w2):
 az Tryz.prog 164 (.bq [.one (.int .i64),.one (.int .i64)]) [.pointer (some ⟨bg,0,none⟩),.int .i64 o,.int .i64 q,.int .i64 t,.bool b] w K:=by
 obtain⟨h1,h2,h3,h4,ca,la,HH⟩:=S
 exact F4 HH (j+4) (jr+4) hm hw h0 hl o q t b fun w2 HH=>k w2 ⟨h1,h2,h3,h4,ca,la,HH⟩
theorem Uz (S:aU Q D G w0 w s L0) (j jr:Nat) (hm:L0[j]? =some (bg,j_ br gs.length c)) (hw:L0[jr]? =some (br,flat eG gs++rest)) (h0:0<gs.length) (hl:gs.length<=64) (hj:j≠jr) (g:Int) {K:Int->World->Prop}
 (k: ∀n w2,aU Q D G w0 w2 s (L0.set jr (br,flat eG (cn gs g)++rest))->K n w2):
 az Tryz.prog 152 (.el (.one (.int .i64))) [.pointer (some ⟨bg,0,none⟩),.int .i64 g] w K:=by
 obtain⟨h1,h2,h3,h4,ca,la,HH⟩:=S
 exact K5 HH (j+4) (jr+4) hm hw h0 hl (by omega) g fun n w2 HH=>k n w2 ⟨h1,h2,h3,h4,ca,la,HH⟩
theorem TH (S:aU Q D G w0 w s L0) (j jr:Nat) (hm:L0[j]? =some (bg,j_ br gs.length c)) (hw:L0[jr]? =some (br,flat eG gs++rest)) (h0:0<gs.length) (i:Int):
 ah Tryz.prog 159 [.pointer (some ⟨bg,0,none⟩),.int .i64 i] w ((Sh.bq [eG,.one .bool]).gi (uc gs i,(jR gs i).isSome,())):=
 ah.of (s:= .bq [eG,.one .bool]) fun w' h'=>RE ((S.get hm).ext h') ((S.get hw).ext h') h0 i
theorem UA (S:aU Q D G w0 w s L0) (j:Nat) (hL:L0[j]? =some (bp,Po.fL room ps)) (hs:Po.okS room ps) (g r:Int) {K:Int×Int×Unit->World->Prop}
 (k: ∀w2,aU Q D G w0 w2 s (L0.set j (bp,Po.fL room (Po.gS room ps g r).2))->K ((Po.gS room ps g r).1.1,(Po.gS room ps g r).1.2,()) w2):
 az Tryz.prog 169 (.bq [.one (.int .i64),.one (.int .i64)]) [.pointer (some ⟨bp,0,none⟩),.int .i64 g,.int .i64 r] w K:=by
 obtain⟨h1,h2,h3,h4,ca,la,HH⟩:=S
 exact Po.K6 HH (j+4) hL hs g r fun w2 HH=>k w2 ⟨h1,h2,h3,h4,ca,la,HH⟩
theorem pbind (S:aU Q D G w0 w s L0) (j:Nat) (hL:L0[j]? =some (bp,Po.fL room ps)) (hs:Po.okS room ps) (g r i:Int) {K:Int×Int×Unit->World->Prop}
 (k: ∀w2,aU Q D G w0 w2 s (L0.set j (bp,Po.fL room (Po.gm room ps g r i).2))->K ((Po.gm room ps g r i).1.1,(Po.gm room ps g r i).1.2,()) w2):
 az Tryz.prog 170 (.bq [.one (.int .i64),.one (.int .i64)]) [.pointer (some ⟨bp,0,none⟩),.int .i64 g,.int .i64 r,.int .i64 i] w K:=by
 obtain⟨h1,h2,h3,h4,ca,la,HH⟩:=S
 exact Po.K7 HH (j+4) hL hs g r i fun w2 HH=>k w2 ⟨h1,h2,h3,h4,ca,la,HH⟩
theorem UB (S:aU Q D G w0 w s L0) (j:Nat) (hL:L0[j]? =some (bp,Po.fL room ps)) (hT:Po.jl room ps) (g i:Int) {K:Int->World->Prop}
 (k: ∀w2,aU Q D G w0 w2 s (L0.set j (bp,Po.fL room (Po.jA room ps g i).2))->K (Po.jA room ps g i).1 w2):
 az Tryz.prog 171 (.el (.one (.int .i64))) [.pointer (some ⟨bp,0,none⟩),.int .i64 g,.int .i64 i] w K:=by
 obtain⟨h1,h2,h3,h4,ca,la,HH⟩:=S
 exact Po.K8 HH (j+4) hL hT g i fun w2 HH=>k w2 ⟨h1,h2,h3,h4,ca,la,HH⟩
theorem R2 (S:aU Q D G w0 w s L0) (j:Nat) (hL:L0[j]? =some (bp,Po.fL room ps)) (hT:Po.jl room ps) (g i:Int) {K:Int->World->Prop}
 (k: ∀w2,aU Q D G w0 w2 s (L0.set j (bp,Po.fL room (Po.dP room ps g i).2))->K (Po.dP room ps g i).1 w2):
 az Tryz.prog 173 (.el (.one (.int .i64))) [.pointer (some ⟨bp,0,none⟩),.int .i64 g,.int .i64 i] w K:=by
 obtain⟨h1,h2,h3,h4,ca,la,HH⟩:=S
 exact Po.xR HH (j+4) hL hT g i fun w2 HH=>k w2 ⟨h1,h2,h3,h4,ca,la,HH⟩
theorem UC (S:aU Q D G w0 w s L0) (j:Nat) (hL:L0[j]? =some (bp,Po.fL room ps)) (hs:Po.okS room ps) (g:Int) {K:Int×Bool×Unit->World->Prop}
 (k: ∀w2,aU Q D G w0 w2 s (L0.set j (bp,Po.fL room (Po.fY room ps g).2))->K ((Po.fY room ps g).1.1,(Po.fY room ps g).1.2,()) w2):
 az Tryz.prog 172 (.bq [.one (.int .i64),.one .bool]) [.pointer (some ⟨bp,0,none⟩),.int .i64 g] w K:=by
 obtain⟨h1,h2,h3,h4,ca,la,HH⟩:=S
 exact Po.La HH (j+4) hL hs g fun w2 HH=>k w2 ⟨h1,h2,h3,h4,ca,la,HH⟩
theorem UD (S:aU Q D G w0 w s L0) (j:Nat) (hL:L0[j]? =some (bp,Po.fL room ps)) (hT:Po.jl room ps) (g:Int) {K:Int->World->Prop}
 (k: ∀w2,aU Q D G w0 w2 s (L0.set j (bp,Po.fL room (Po.bV room ps g).2))->K (Po.bV room ps g).1 w2):
 az Tryz.prog 153 (.el (.one (.int .i64))) [.pointer (some ⟨bp,0,none⟩),.int .i64 g] w K:=by
 obtain⟨h1,h2,h3,h4,ca,la,HH⟩:=S
 exact Po.Lf HH (j+4) hL hT g fun w2 HH=>k w2 ⟨h1,h2,h3,h4,ca,la,HH⟩
theorem res (S:aU Q D G w0 w s L0) {j b1:Nat} {x1 x2:Value} (hj:L0[j]? =some (b1,[x1,x2])) (v e:Int) {K:RS->World->Prop} (k: ∀w2,aU Q D G w0 w2 s (L0.set j (b1,[.int .u64 v,.int .i64 e]))->K (v,e,()) w2):
 av w (some ⟨b1,0,none⟩) [.int .u64 v,.int .i64 e] fun w2=>aj w2 fun w1=>ag w1 none (some ⟨b1,0,none⟩) (.agg gw) fun x=>K (x.1,x.2.1,()) w1:=by
 have hl:j<L0.length:=(List.getElem?_eq_some_iff.1 hj).1
 refine S.cC j hj rfl rfl fun w2 S=>S.en fun w3 S=>?_
 exact S.ld j (List.getElem?_set_self hl) (show _=some (v,e,()) from rfl) (k w3 S)
end aU
end
def kT (h:HS) (gr:List GT):HS:={h with gr:=gr}
def xD (h:HS) (po:List Po.PT):HS:={h with po:=po}
def bh (h:HS) (s:WD):HS:={h with s:=s}
abbrev fi (k a b c:Int):List Value:=[.int .i64 k,.int .u64 a,.int .u64 b,.int .u64 c]
theorem vD (gs:List GT) (i o:Int):(jz gs i o).length=gs.length:=by
 unfold jz;split
 ·rw[List.length_set]
 ·rfl
def zx (h:HS) (v a:Int):Int:=if a>=16 then 1 else oL h.gr a v
def fh (h:HS) (v a:Int):HS:=if a>=16 then h else kT h (jz h.gr a v)
section
variable {Q:Sys} {X:HX} {D G:List Nat} {w0 w:World} {h:HS} {L:List (Nat×List Value)} {K:RS->World->Prop}
theorem G7 (H:bJ Q X D G w0 w h L) (v k:Int) {a:Int} (b c:Int) (ha:0<=a) (kk: ∀w2,bJ Q X D G w0 w2 (fh h v a) L->K (0,zx h v a,()) w2):
 an Tryz.prog 100 (.el (.agg gw)) [.pointer (some ⟨X.hb,0,none⟩),.int .i64 v,.agg ⟨fi k a b c⟩] w K:=by
 obtain⟨A,W,H⟩:=H
 obtain⟨G',S,J⟩:=H.call
 refine aL (C:=V0) (aJ:=fun _=>[]) (Eq.mpr (Bw _ v k a b c w K) ?_)
 refine S.al fun ba w2 S=>S.al fun b1 w3 S=>⟨rfl,S.bu 1 rfl rfl ?_⟩
 unfold zx fh at kk
 refine aa (fun d=>⟨trivial,S.res (j:=0) rfl 0 1 fun w4 S=>?_⟩) (fun d=>?_)
 ·rw[if_pos (by simpa using d),if_pos (by simpa using d)] at kk
  exact kk w4 ⟨A,W,J (S.tail.tail)⟩
 ·have d: ¬ a>=16:=by simpa using d
  rw[if_neg d,if_neg d] at kk
  refine⟨rfl,rfl,ag.of _ (S.fu (X:=X) (A:=A) (g:=h.g) (by simp) (n:=2) rfl) ⟨rfl,S.bu 1 rfl rfl ?_⟩⟩
  rw[bI ⟨ha,by omega⟩]
  refine S.OM 3 4 rfl rfl (by rw[W.gl];decide) a v fun w4 S=>⟨trivial,S.res (j:=0) rfl 0 _ fun w5 S=>kk w5 ⟨A,⟨W.dom,W.mp,(vD _ _ _).trans W.gl,W.pt,W.gk.rev _ _⟩,J ?_⟩⟩
  have S:=S.tail.tail
  have e:(jz h.gr a v).length=h.gr.length:=vD _ _ _
  show aU Q [] G' w w5 h.s ((X.hb,hcs Q X A h.g)::(X.gb,j_ X.rP (jz h.gr a v).length X.c):: _)
  rw[e]
  exact S
end
end Go.Proofs.YtdnoecpjcoibmaaGreat
namespace Go.Proofs.YtdnoecpjcoibmaaGreat
set_option maxRecDepth 100000
open Go.RX D
def I4 (h:HS) (v a:Int):Int:=if a>=4 then 1 else(Po.jA 4 h.po v a).1
def jC (h:HS) (v a:Int):HS:=if a>=4 then h else xD h (Po.jA 4 h.po v a).2
def Cp (h:HS) (v a:Int):Int:=if a>=4 then 1 else(Po.dP 4 h.po v a).1
def gC (h:HS) (v a:Int):HS:=if a>=4 then h else xD h (Po.dP 4 h.po v a).2
def I5 (h:HS) (v:Int):Int:=if(Po.fY 4 h.po v).1.2=true then(Po.fY 4 h.po v).1.1+1 else 0
def I6 (h:HS) (v:Int):HS:=xD h (Po.fY 4 h.po v).2
def DR (h:HS) (v a:Int):Int×Int:=if cr h.g v a=0 then(Po.gS 4 h.po v a).1 else(0,cr h.g v a)
def jD (h:HS) (v a:Int):HS:=if cr h.g v a=0 then xD h (Po.gS 4 h.po v a).2 else h
def DU (h:HS) (v a b:Int):Int×Int:=if cr h.g v a=1\/b>=4 then(0,1) else if cr h.g v a=0 then(Po.gm 4 h.po v a b).1 else(0,cr h.g v a)
def jE (h:HS) (v a b:Int):HS:=if cr h.g v a=1\/b>=4 then h else if cr h.g v a=0 then xD h (Po.gm 4 h.po v a b).2 else h
theorem sC {g:Nat->Option GV} {v a:Int} (h:cr g v a≠1):1<=a/\a<=16:=by
 unfold cr at h
 split at h
 ·exact absurd rfl h
 ·omega
theorem cJ {a:Int} (h:0<=a/\a<18446744073709551616):ax .u64 a=a:=by
 unfold ax
 simp only[IntKind.wrap,IntKind.bits,IntKind.signed]
 simp
 omega
theorem L4 {ps:List Po.PT} {g:Int} (h:(Po.fY 4 ps g).1.2=true):0<=(Po.fY 4 ps g).1.1/\(Po.fY 4 ps g).1.1<4:=by
 unfold Po.fY at h ⊢
 cases hp:Po.mZ 4 ps g with
 |nil=>rw[hp] at h;cases h
 |cons i l=>
  have:=(Po.bZ.1 (Po.qS (ps:=ps) (g:=g) (x:=i) (room:=4) (by rw[hp];exact List.mem_cons_self)).1).2
  exact this
theorem ON {ps:List Po.PT} {g:Int} {x:Po.PT} (hg:Po.gI g=true):0<=(Po.dx 4 ps g x).1.1/\(Po.dx 4 ps g x).1.1<4:=by
 unfold Po.dx
 split
 ·exact⟨Int.le_refl _,(by decide:(0:Int)<4)⟩
 ·rename_i hh
  have:=(Po.bZ.1 (Po.k8 hg hh).1).2
  exact this
theorem L5 (ps:List Po.PT) (g r:Int):0<=(Po.gS 4 ps g r).1.1/\(Po.gS 4 ps g r).1.1<4:=by
 unfold Po.gS
 split
 ·rename_i hh
  exact ON (Po.nW.1 hh).1
 ·exact⟨Int.le_refl _,(by decide:(0:Int)<4)⟩
section
variable {Q:Sys} {X:HX} {D G:List Nat} {w0 w:World} {h:HS} {L:List (Nat×List Value)} {K:RS->World->Prop}
theorem OO (H:bJ Q X D G w0 w h L) (v k:Int) {a:Int} (b c:Int) (ha:0<=a) (kk: ∀w2,bJ Q X D G w0 w2 (jC h v a) L->K (0,I4 h v a,()) w2):
 an Tryz.prog 103 (.el (.agg gw)) [.pointer (some ⟨X.hb,0,none⟩),.int .i64 v,.agg ⟨fi k a b c⟩] w K:=by
 obtain⟨A,W,H⟩:=H
 obtain⟨G',S,J⟩:=H.call
 refine aL (C:=V0) (aJ:=fun _=>[]) (Eq.mpr (GU _ v k a b c w K) ?_)
 refine S.al fun ba w2 S=>S.al fun b1 w3 S=>⟨rfl,S.bu 1 rfl rfl ?_⟩
 unfold I4 jC at kk
 refine aa (fun d=>⟨trivial,S.res (j:=0) rfl 0 1 fun w4 S=>?_⟩) (fun d=>?_)
 ·rw[if_pos (by simpa using d),if_pos (by simpa using d)] at kk
  exact kk w4 ⟨A,W,J (S.tail.tail)⟩
 ·have d: ¬ a>=4:=by simpa using d
  rw[if_neg d,if_neg d] at kk
  refine⟨rfl,rfl,ag.of _ (S.fu (X:=X) (A:=A) (g:=h.g) (by simp) (n:=3) rfl) ⟨rfl,S.bu 1 rfl rfl ?_⟩⟩
  rw[bI ⟨ha,by omega⟩]
  exact S.UB 5 rfl W.pt v a fun w4 S=>⟨trivial,S.res (j:=0) rfl 0 _ fun w5 S=>kk w5 ⟨A,⟨W.dom,W.mp,W.gl,W.pt.jA v a,W.gk⟩,J (S.tail.tail)⟩⟩
theorem L9 (H:bJ Q X D G w0 w h L) (v k:Int) {a:Int} (b c:Int) (ha:0<=a) (kk: ∀w2,bJ Q X D G w0 w2 (gC h v a) L->K (0,Cp h v a,()) w2):
 an Tryz.prog 105 (.el (.agg gw)) [.pointer (some ⟨X.hb,0,none⟩),.int .i64 v,.agg ⟨fi k a b c⟩] w K:=by
 obtain⟨A,W,H⟩:=H
 obtain⟨G',S,J⟩:=H.call
 refine aL (C:=V0) (aJ:=fun _=>[]) (Eq.mpr (Dc _ v k a b c w K) ?_)
 refine S.al fun ba w2 S=>S.al fun b1 w3 S=>⟨rfl,S.bu 1 rfl rfl ?_⟩
 unfold Cp gC at kk
 refine aa (fun d=>⟨trivial,S.res (j:=0) rfl 0 1 fun w4 S=>?_⟩) (fun d=>?_)
 ·rw[if_pos (by simpa using d),if_pos (by simpa using d)] at kk
  exact kk w4 ⟨A,W,J (S.tail.tail)⟩
 ·have d: ¬ a>=4:=by simpa using d
  rw[if_neg d,if_neg d] at kk
  refine⟨rfl,rfl,ag.of _ (S.fu (X:=X) (A:=A) (g:=h.g) (by simp) (n:=3) rfl) ⟨rfl,S.bu 1 rfl rfl ?_⟩⟩
  rw[bI ⟨ha,by omega⟩]
  exact S.R2 5 rfl W.pt v a fun w4 S=>⟨trivial,S.res (j:=0) rfl 0 _ fun w5 S=>kk w5 ⟨A,⟨W.dom,W.mp,W.gl,W.pt.dP v a,W.gk⟩,J (S.tail.tail)⟩⟩
theorem OP (H:bJ Q X D G w0 w h L) (v k a b c:Int) (kk: ∀w2,bJ Q X D G w0 w2 (I6 h v) L->K (I5 h v,0,()) w2):
 an Tryz.prog 104 (.el (.agg gw)) [.pointer (some ⟨X.hb,0,none⟩),.int .i64 v,.agg ⟨fi k a b c⟩] w K:=by
 obtain⟨A,W,H⟩:=H
 obtain⟨G',S,J⟩:=H.call
 refine aL (C:=V0) (aJ:=fun _=>[]) (Eq.mpr (GW _ v k a b c w K) ?_)
 refine S.al fun ba w2 S=>S.al fun b1 w3 S=>⟨rfl,rfl,ag.of _ (S.fu (X:=X) (A:=A) (g:=h.g) (by simp) (n:=3) rfl) ?_⟩
 unfold I5 I6 at kk
 have hr:=fun h'=>L4 (ps:=h.po) (g:=v) h'
 refine S.UC 5 rfl W.pt.tookS v fun w4 S=>?_
 obtain⟨r,H9⟩: ∃r,r=Po.fY 4 h.po v:=⟨_,rfl⟩
 have Wb:=W.pt.fY v
 rw[<-H9] at hr kk S Wb ⊢
 refine aa (fun d=>S.res (j:=0) rfl 0 0 fun w5 S=>?_) (fun d=>?_)
 ·have d: ¬ r.1.2=true:=by simpa using d
  rw[if_neg d] at kk
  exact kk w5 ⟨A,⟨W.dom,W.mp,W.gl,Wb,W.gk⟩,J (S.tail.tail)⟩
 ·have d:r.1.2=true:=by simpa using d
  rw[if_pos d] at kk
  have:=hr d
  rw[ar (by omega) (by omega),cJ (by omega)]
  exact S.res (j:=0) rfl _ 0 fun w5 S=>kk w5 ⟨A,⟨W.dom,W.mp,W.gl,Wb,W.gk⟩,J (S.tail.tail)⟩
theorem OQ (H:bJ Q X D G w0 w h L) (v k:Int) {a:Int} (b c:Int) (ha:0<=a) (kk: ∀w2,bJ Q X D G w0 w2 (jD h v a) L->K ((DR h v a).1,(DR h v a).2,()) w2):
 an Tryz.prog 101 (.el (.agg gw)) [.pointer (some ⟨X.hb,0,none⟩),.int .i64 v,.agg ⟨fi k a b c⟩] w K:=by
 obtain⟨A,W,H⟩:=H
 obtain⟨G',S,J⟩:=H.call
 refine aL (C:=V0) (aJ:=fun _=>[]) (Eq.mpr (GQ _ v k a b c w K) ?_)
 refine S.al fun ba w2 S=>S.al fun b1 w3 S=>⟨rfl,S.bu 1 rfl rfl ⟨_,vC S (X:=X) (A:=A) (g:=h.g) (by simp) v ha,?_⟩⟩
 unfold DR jD at kk
 refine aa (fun d=>⟨trivial,S.res (j:=0) rfl 0 _ fun w4 S=>?_⟩) (fun d=>?_)
 ·have d: ¬ cr h.g v a=0:=by simpa using d
  rw[if_neg d,if_neg d] at kk
  exact kk w4 ⟨A,W,J (S.tail.tail)⟩
 ·have d:cr h.g v a=0:=by simpa using d
  rw[if_pos d,if_pos d] at kk
  have Pm:=sC (g:=h.g) (v:=v) (a:=a) (by rw[d];decide)
  refine⟨rfl,rfl,ag.of _ (S.fu (X:=X) (A:=A) (g:=h.g) (by simp) (n:=3) rfl) ⟨rfl,S.bu 1 rfl rfl ?_⟩⟩
  rw[bI ⟨ha,by omega⟩]
  have hr:=L5 h.po v a
  refine S.UA 5 rfl W.pt.tookS v a fun w4 S=>?_
  have e:ax .u64 (Po.gS 4 h.po v a).1.1=(Po.gS 4 h.po v a).1.1:=cJ (by omega)
  dsimp only
  rw[e]
  exact S.res (j:=0) rfl _ _ fun w5 S=>kk w5 ⟨A,⟨W.dom,W.mp,W.gl,W.pt.gS v a,W.gk⟩,J (S.tail.tail)⟩
theorem L_ (ps:List Po.PT) (g r i:Int):0<=(Po.gm 4 ps g r i).1.1/\(Po.gm 4 ps g r i).1.1<4:=by
 unfold Po.gm
 have z:(0:Int)<=0/\(0:Int)<4:=by decide
 split
 ·rename_i hh
  split
  ·exact z
  ·split
   ·exact z
   ·split
    ·exact z
    ·split
     ·exact z
     ·rename_i h2
      have:=(Po.bZ.1 (Po.k8 (Po.nW.1 hh).1 h2).1).2
      exact this
 ·exact z
theorem OR (H:bJ Q X D G w0 w h L) (v k:Int) {a b:Int} (c:Int) (ha:0<=a) (hb:0<=b) (kk: ∀w2,bJ Q X D G w0 w2 (jE h v a b) L->K ((DU h v a b).1,(DU h v a b).2,()) w2):
 an Tryz.prog 102 (.el (.agg gw)) [.pointer (some ⟨X.hb,0,none⟩),.int .i64 v,.agg ⟨fi k a b c⟩] w K:=by
 obtain⟨A,W,H⟩:=H
 obtain⟨G',S,J⟩:=H.call
 refine aL (C:=V0) (aJ:=fun _=>[]) (Eq.mpr (GR _ v k a b c w K) ?_)
 refine S.al fun ba w2 S=>S.al fun b1 w3 S=>⟨rfl,S.bu 1 rfl rfl ⟨_,vC S (X:=X) (A:=A) (g:=h.g) (by simp) v ha,fun _=>rfl,S.bu 1 rfl rfl ?_⟩⟩
 unfold DU jE at kk
 refine aa (fun d=>⟨trivial,S.res (j:=0) rfl 0 _ fun w4 S=>?_⟩) (fun d=>?_)
 ·have d:cr h.g v a=1\/b>=4:=by simpa using d
  rw[if_pos d,if_pos d] at kk
  exact kk w4 ⟨A,W,J (S.tail.tail)⟩
 have d: ¬ (cr h.g v a=1\/b>=4):=by
  intro e
  have:(cr h.g v a==1||decide (b>=4))=true:=by simpa using e
  rw[this] at d;cases d
 rw[if_neg d,if_neg d] at kk
 refine aa (fun d=>⟨trivial,S.res (j:=0) rfl 0 _ fun w4 S=>?_⟩) (fun d2=>?_)
 ·have d: ¬ cr h.g v a=0:=by simpa using d
  rw[if_neg d,if_neg d] at kk
  exact kk w4 ⟨A,W,J (S.tail.tail)⟩
 ·have d2:cr h.g v a=0:=by simpa using d2
  rw[if_pos d2,if_pos d2] at kk
  have Pm:=sC (g:=h.g) (v:=v) (a:=a) (by rw[d2];decide)
  have BC:b<4:=by omega
  refine⟨rfl,rfl,ag.of _ (S.fu (X:=X) (A:=A) (g:=h.g) (by simp) (n:=3) rfl) ⟨rfl,S.bu 1 rfl rfl ⟨rfl,S.bu 1 rfl rfl ?_⟩⟩⟩
  rw[bI ⟨ha,by omega⟩,bI ⟨hb,by omega⟩]
  have hr:=L_ h.po v a b
  refine S.pbind 5 rfl W.pt.tookS v a b fun w4 S=>?_
  have e:ax .u64 (Po.gm 4 h.po v a b).1.1=(Po.gm 4 h.po v a b).1.1:=cJ (by omega)
  dsimp only
  rw[e]
  exact S.res (j:=0) rfl _ _ fun w5 S=>kk w5 ⟨A,⟨W.dom,W.mp,W.gl,W.pt.gm v a b,W.gk⟩,J (S.tail.tail)⟩
end
end Go.Proofs.YtdnoecpjcoibmaaGreat
namespace Go.Proofs.YtdnoecpjcoibmaaGreat
set_option maxRecDepth 100000
open Go.RX D
theorem A_ (gs:List GT) (o q t:Int) (b:Bool):(gR gs o q t b).length=gs.length:=by
 unfold gR;split
 ·rw[List.length_set]
 ·rfl
theorem Ma {gs:List GT} (hl:gs.length=16) (o q t:Int):0<=h_ gs o q t/\h_ gs o q t<16:=by
 have z:(0:Int)<=0/\(0:Int)<16:=by decide
 unfold h_;split
 ·cases hs:cm gs dz gs.length with
  |nil=>exact z
  |cons x l=>
   obtain⟨i,hi, _,e⟩:=og.1 (by rw[hs];exact List.mem_cons_self:x∈cm gs dz gs.length)
   show 0<=x/\x<16
   omega
 ·exact z
def cI (h:HS) (v p:Int):Bool:=(dH h.g v p).2.1
def lS (h:HS) (v a b c:Int):Int:=
 if a>=65536 then 2 else if cr h.g v b=1\/c>1 then 1 else if(cL h.g h.s v a).2.2.1≠0\/cr h.g v b≠0 then 4 else if cI h v a=true then 7 else 0
def kD (h:HS) (v a b c:Int):Int×Int:=if lS h v a b c=0 then(h_ h.gr v a b,iQ h.gr v a b) else(0,lS h v a b c)
def fc (h:HS) (v a b c:Int):HS:=if lS h v a b c=0 then kT h (gR h.gr v a b (c==1)) else h
section
variable {Q:Sys} {X:HX} {D G:List Nat} {w0 w:World} {h:HS} {L:List (Nat×List Value)} {K:RS->World->Prop}
theorem a7 {A:Nat->GA} (W:zW A h) (T:List (Nat×List Value)): ∀i v,h.g i=some v-> ∀x∈fZ Q A i v,x∈T++dF Q X A h (aR Q A h.g (List.range 17)++L):=fun i v hv x hx=>by
 have:=W.dom hv
 exact List.mem_append_right _ (List.mem_cons_of_mem _ (List.mem_cons_of_mem _ (List.mem_cons_of_mem _ (List.mem_cons_of_mem _ (List.mem_append_left _ (G1 (List.mem_range.2 (by omega)) hv x hx))))))
theorem eK {A:Nat->GA} (W:zW A h): ∀i v,h.g i=some v->((A i).bm,Obj.map ⟨(A i).es⟩ (A i).ck)∈dW A h.g (List.range 17):=fun i v hv=>by
 have:=W.dom hv
 exact G5 (List.mem_range.2 (by omega)) hv
theorem Mb (H:bJ Q X D G w0 w h L) (v k:Int) {a b c:Int} (ha:0<=a) (hb:0<=b) (hc:0<=c) (kk: ∀w2,bJ Q X D G w0 w2 (fc h v a b c) L->K ((kD h v a b c).1,(kD h v a b c).2,()) w2):
 an Tryz.prog 97 (.el (.agg gw)) [.pointer (some ⟨X.hb,0,none⟩),.int .i64 v,.agg ⟨fi k a b c⟩] w K:=by
 obtain⟨A,W,H⟩:=H
 obtain⟨G',S,J⟩:=H.call
 refine aL (C:=V0) (aJ:=fun _=>[]) (Eq.mpr (Db _ v k a b c w K) ?_)
 refine S.al fun ba w2 S=>S.al fun b1 w3 S=>⟨rfl,S.bu 1 rfl rfl ⟨_,vC S (X:=X) (A:=A) (g:=h.g) (by simp) v hb,rfl,S.bu 1 rfl rfl ?_⟩⟩
 have bad:lS h v a b c≠0-> ∀{w2},bJ Q X D G w0 w2 h L->K (0,lS h v a b c,()) w2:=fun he w2 H=>by
  have e1:kD h v a b c=(0,lS h v a b c):=if_neg he
  have e2:fc h v a b c=h:=if_neg he
  rw[e1,e2] at kk
  exact kk w2 H
 have hE:lS h v a b c=if a>=65536 then 2 else if cr h.g v b=1\/c>1 then 1 else if(cL h.g h.s v a).2.2.1≠0\/cr h.g v b≠0 then 4 else if cI h v a=true then 7 else 0:=rfl
 refine aa (fun d=>⟨trivial,S.res (j:=0) rfl 0 _ fun w4 S=>?_⟩) (fun d=>⟨fun _=>rfl,S.bu 1 rfl rfl ?_⟩)
 ·rw[if_pos (by simpa using d)] at hE
  rw[hE] at bad
  exact bad (by decide) ⟨A,W,J S.tail.tail⟩
 have d: ¬ a>=65536:=by simpa using d
 rw[if_neg d] at hE
 have ea:ax .i64 a=a:=bI ⟨ha,by omega⟩
 refine aa (fun d=>⟨trivial,S.res (j:=0) rfl 0 _ fun w4 S=>?_⟩) (fun d2=>⟨rfl,S.bu 1 rfl rfl ?_⟩)
 ·rw[if_pos (by simpa using d)] at hE
  rw[hE] at bad
  exact bad (by decide) ⟨A,W,J S.tail.tail⟩
 have d2: ¬ (cr h.g v b=1\/c>1):=by
  intro e
  have:(cr h.g v b==1||decide (c>1))=true:=by simpa using e
  rw[this] at d2;cases d2
 rw[if_neg d2] at hE
 rw[ea]
 refine ot S (X:=X) (A:=A) (g:=h.g) (by simp) (a7 W [_, _]) v a fun w4 S=>?_
 refine aa (fun d=>⟨trivial,S.res (j:=0) rfl 0 _ fun w5 S=>?_⟩) (fun d3=>⟨rfl,S.bu 1 rfl rfl ?_⟩)
 ·rw[if_pos (by simpa using d)] at hE
  rw[hE] at bad
  exact bad (by decide) ⟨A,W,J S.tail.tail⟩
 have d3: ¬ ((cL h.g h.s v a).2.2.1≠0\/cr h.g v b≠0):=by
  intro e
  have:((cL h.g h.s v a).2.2.1 != 0||cr h.g v b != 0)=true:=by simpa using e
  rw[this] at d3;cases d3
 rw[if_neg d3] at hE
 rw[ea]
 refine⟨dH h.g v a,k_ (J S) (X:=X) (A:=A) (g:=h.g) (by simp) (a7 W [_, _]) (eK W) (fun i x hx=>W.mp hx) v a,?_⟩
 refine aa (fun d=>⟨trivial,S.res (j:=0) rfl 0 _ fun w5 S=>?_⟩) (fun d4=>?_)
 ·rw[if_pos (show cI h v a=true from d)] at hE
  rw[hE] at bad
  exact bad (by decide) ⟨A,W,J S.tail.tail⟩
 rw[if_neg (show ¬ cI h v a=true by unfold cI;rw[d4];decide)] at hE
 have e1:kD h v a b c=(h_ h.gr v a b,iQ h.gr v a b):=if_pos hE
 have e2:fc h v a b c=kT h (gR h.gr v a b (c==1)):=if_pos hE
 rw[e1,e2] at kk
 have BC:=sC (g:=h.g) (v:=v) (a:=b) (fun e=>d2 (.inl e))
 refine⟨rfl,rfl,ag.of _ (S.fu (X:=X) (A:=A) (g:=h.g) (by simp) (n:=2) rfl) ⟨rfl,S.bu 1 rfl rfl ⟨rfl,S.bu 1 rfl rfl ⟨rfl,S.bu 1 rfl rfl ?_⟩⟩⟩⟩
 rw[ea,bI ⟨hb,by omega⟩]
 have hr:=Ma W.gl v a b
 refine S.RZ 3 4 rfl rfl (by rw[W.gl];decide) (by rw[W.gl];decide) v a b (c==1) fun w5 S=>?_
 dsimp only
 rw[cJ (by omega)]
 refine S.res (j:=0) rfl _ _ fun w6 S=>kk w6 ⟨A,⟨W.dom,W.mp,(A_ _ _ _ _ _).trans W.gl,W.pt,W.gk.off _ _ _ _⟩,J ?_⟩
 have S:=S.tail.tail
 have e:(gR h.gr v a b (c==1)).length=h.gr.length:=A_ _ _ _ _ _
 show aU Q [] G' w w6 h.s ((X.hb,hcs Q X A h.g)::(X.gb,j_ X.rP (gR h.gr v a b (c==1)).length X.c):: _)
 rw[e]
 exact S
end
end Go.Proofs.YtdnoecpjcoibmaaGreat
namespace Go.Proofs.YtdnoecpjcoibmaaGreat
set_option maxRecDepth 100000
open Go.RX D
def gT (h:HS) (v a t:Int):Int×Int:=if a>=1048576 then(0,2) else(au .i64 (b_ .i64 16 (uO h.s.1 (aT h.g v) (a / 16) t).1) (a % 16),(uO h.s.1 (aT h.g v) (a / 16) t).2.2.2.1)
def m8 (h:HS) (v a:Int):Int×Int:=if(gT h v a 1).2≠0 then(0,(gT h v a 1).2) else(cZ h.s.1 (gT h v a 1).1,yM h.s.1 (gT h v a 1).1)
def ni (h:HS) (v a:Int):Int:=if(gT h v a 2).2≠0 then(gT h v a 2).2 else yM h.s.1 (gT h v a 2).1
def dS (h:HS) (v a b:Int):HS:=if(gT h v a 2).2≠0 then h else bh h (cH h.s.1 (gT h v a 2).1 b,h.s.2)
def bC (s:WD):Nat->WD×Nat
 |0=>(s,0)
 |n+1=>(iq (bC s n).1 (n:Int),(bC s n).2+if ja (bC s n).1 (n:Int)=0 then 1 else 0)
theorem G8 (s:WD) (f:Int):(iq s f).1=s.1/\(iq s f).2.length=s.2.length:=by
 unfold iq;split
 ·exact⟨rfl,gZ _ _ _⟩
 ·exact⟨rfl,rfl⟩
theorem lA (s:WD): ∀n,(bC s n).1.1=s.1/\(bC s n).1.2.length=s.2.length
 |0=>⟨rfl,rfl⟩
 |n+1=>by
  have h:=G8 (bC s n).1 (n:Int)
  have h2:=lA s n
  exact⟨h.1.trans h2.1,h.2.trans h2.2⟩
theorem ym (s:WD): ∀n,(bC s n).2<=n
 |0=>Nat.le_refl _
 |n+1=>by
  have:=ym s n
  show(bC s n).2+ _<=n+1
  split<;>omega
theorem UE {a:Int} (h:0<=a/\a<1048576):ax .i64 (py .u64 a 16)=a / 16:=by
 have e:py .u64 a 16=a / 16:=by
  show ax .u64 (a.tdiv 16)= _
  rw[Int.tdiv_eq_ediv_of_nonneg h.1]
  exact cJ (by omega)
 rw[e]
 exact bI (by omega)
theorem UF {a:Int} (h:0<=a):ax .i64 (dM a 16)=a % 16:=by
 have e:dM a 16=a % 16:=by
  unfold dM;exact Int.tmod_eq_emod_of_nonneg h
 rw[e]
 exact bI (by omega)
section
variable {Q:Sys} {X:HX} {D G:List Nat} {w0 w:World} {h:HS} {L:List (Nat×List Value)} {K:RS->World->Prop}
theorem Ba {G':List Nat} {X9:World} {A:Nat->GA} {s:WD} {L0:List (Nat×List Value)} (S:aU Q [] G' X9 w s L0) (hs:s=h.s) (hk:(X.hb,hcs Q X A h.g)∈L0) (hg: ∀i v,h.g i=some v-> ∀x∈fZ Q A i v,x∈L0) (v:Int) {a:Int} (ha:0<=a) (t:Int) {K:Int×Int×Unit->World->Prop}
 (kk: ∀w2,aU Q [] G' X9 w2 s L0->K ((gT h v a t).1,(gT h v a t).2,()) w2):
 az Tryz.prog 161 (.bq [.one (.int .i64),.one (.int .i64)]) [.pointer (some ⟨X.hb,0,none⟩),.int .i64 v,.int .u64 a,.int .i64 t] w K:=by
 subst hs
 refine S.go fun w1 S=>ai (C:=V0) (aJ:=fun _=>[]) (Eq.mpr (LO _ v a t w1 K) ?_)
 unfold gT at kk
 refine aa (fun d=>S.en fun w2 S=>?_) (fun d=>?_)
 ·rw[if_pos (by simpa using d)] at kk
  exact kk w2 S
 ·have d: ¬ a>=1048576:=by simpa using d
  rw[if_neg d] at kk
  rw[UE ⟨ha,by omega⟩,UF ha]
  refine⟨rfl,rfl,ag.of _ (S.fu (X:=X) (A:=A) (g:=h.g) hk (n:=0) rfl) ⟨_,Ey S hk hg v,?_,?_⟩⟩
  ·exact S.walk _ _ _ fun w2 S=>S.al fun b w3 S=>S.cC 0 rfl rfl rfl fun w4 S=>⟨rfl,S.bu 0 rfl rfl ⟨rfl,S.bu 0 rfl rfl (S.en fun w5 S=>kk w5 S.tail)⟩⟩
  ·exact S.al fun b w3 S=>S.walk _ _ _ fun w2 S=>S.cC 0 rfl rfl rfl fun w4 S=>⟨rfl,S.bu 0 rfl rfl ⟨rfl,S.bu 0 rfl rfl (S.en fun w5 S=>kk w5 S.tail)⟩⟩
theorem OS (H:bJ Q X D G w0 w h L) (v k:Int) {a:Int} (b c:Int) (ha:0<=a) (kk: ∀w2,bJ Q X D G w0 w2 h L->K ((m8 h v a).1,(m8 h v a).2,()) w2):
 an Tryz.prog 95 (.el (.agg gw)) [.pointer (some ⟨X.hb,0,none⟩),.int .i64 v,.agg ⟨fi k a b c⟩] w K:=by
 obtain⟨A,W,H⟩:=H
 obtain⟨G',S,J⟩:=H.call
 refine aL (C:=V0) (aJ:=fun _=>[]) (Eq.mpr (GN _ v k a b c w K) ?_)
 refine S.al fun ba w2 S=>S.al fun b1 w3 S=>⟨rfl,S.bu 1 rfl rfl (Ba (h:=h) (A:=A) S rfl (by simp) (a7 W [_, _]) v ha 1 fun w4 S=>?_)⟩
 unfold m8 at kk
 refine aa (fun d=>⟨trivial,S.res (j:=0) rfl 0 _ fun w5 S=>?_⟩) (fun d=>?_)
 ·rw[if_pos (by simpa using d)] at kk
  exact kk w5 ⟨A,W,J S.tail.tail⟩
 ·rw[if_neg (by simpa using d)] at kk
  exact⟨rfl,rfl,ag.of _ (S.fu (X:=X) (A:=A) (g:=h.g) (by simp) (n:=0) rfl) (S.load _ fun w5 S=>S.res (j:=0) rfl _ _ fun w6 S=>kk w6 ⟨A,W,J S.tail.tail⟩)⟩
theorem Me (H:bJ Q X D G w0 w h L) (v k:Int) {a b:Int} (c:Int) (ha:0<=a) (hb:0<=b/\b<18446744073709551616) (kk: ∀w2,bJ Q X D G w0 w2 (dS h v a b) L->K (0,ni h v a,()) w2):
 an Tryz.prog 96 (.el (.agg gw)) [.pointer (some ⟨X.hb,0,none⟩),.int .i64 v,.agg ⟨fi k a b c⟩] w K:=by
 obtain⟨A,W,H⟩:=H
 obtain⟨G',S,J⟩:=H.call
 refine aL (C:=V0) (aJ:=fun _=>[]) (Eq.mpr (Da _ v k a b c w K) ?_)
 refine S.al fun ba w2 S=>S.al fun b1 w3 S=>⟨rfl,S.bu 1 rfl rfl (Ba (h:=h) (A:=A) S rfl (by simp) (a7 W [_, _]) v ha 2 fun w4 S=>?_)⟩
 unfold dS ni at kk
 refine aa (fun d=>⟨trivial,S.res (j:=0) rfl 0 _ fun w5 S=>?_⟩) (fun d=>?_)
 ·rw[if_pos (by simpa using d),if_pos (by simpa using d)] at kk
  exact kk w5 ⟨A,W,J S.tail.tail⟩
 ·rw[if_neg (by simpa using d),if_neg (by simpa using d)] at kk
  exact⟨rfl,rfl,ag.of _ (S.fu (X:=X) (A:=A) (g:=h.g) (by simp) (n:=0) rfl) ⟨rfl,S.bu 1 rfl rfl (S.store _ b hb fun w5 S=>⟨trivial,S.res (j:=0) rfl 0 _ fun w6 S=>kk w6 ⟨A,⟨W.dom,W.mp,W.gl,W.pt,W.gk⟩,J S.tail.tail⟩⟩)⟩⟩
theorem Mf (H:bJ Q X D G w0 w h L) (v k a b c:Int) (kk: ∀w2,bJ Q X D G w0 w2 (bh h (bC h.s h.s.2.length).1) L->K (((bC h.s h.s.2.length).2:Int),0,()) w2):
 an Tryz.prog 91 (.el (.agg gw)) [.pointer (some ⟨X.hb,0,none⟩),.int .i64 v,.agg ⟨fi k a b c⟩] w K:=by
 obtain⟨A,W,H⟩:=H
 obtain⟨G',S,J⟩:=H.call
 refine aL (C:=V0) (aJ:=nN) (Eq.mpr (C' _ v k a b c w K) ?_)
 have hle:=S.le
 refine S.al fun ba w2 S=>S.al fun b1 w3 S=>⟨rfl,rfl,ag.of _ (S.fu (X:=X) (A:=A) (g:=h.g) (by simp) (n:=1) rfl) ⟨_,S.QN,?_⟩⟩
 refine⟨fun n u w'=> ∃m:Nat,u.1=((bC h.s m).2:Int)/\u.2.1=(m:Int)/\n+m=h.s.2.length/\aU Q [] G' w w' (bC h.s m).1 ((b1,[.int .u64 0,.int .i64 0])::(ba,fi k a b c)::dF Q X A h (aR Q A h.g (List.range 17)++L)),⟨h.s.2.length,fun w4 h4=>⟨0,rfl,rfl,rfl,S.ext h4⟩⟩,?_⟩
 clear S
 rintro n ⟨x,y,u⟩ w4 ⟨m,e1,e2,hn,S⟩
 dsimp only at e1 e2 ⊢
 subst e1;subst e2
 have hc:=ym h.s m
 refine aa (fun cc=>?_) (fun cc=>?_)
 ·have hm:m<h.s.2.length:=by simpa using cc
  refine L3 S (X:=X) (A:=A) (g:=h.g) (by simp) (m:Int) fun w5 S=>?_
  have e3:au .i64 (m:Int) 1=((m+1:Nat):Int):=by rw[ar (by omega) (by omega)];omega
  have e4:au .i64 ((bC h.s m).2:Int) 1=(((bC h.s m).2+1:Nat):Int):=by rw[ar (by omega) (by omega)];omega
  rw[e3,e4]
  refine aa (fun d=>fun w6 h6=>⟨n - 1,by omega,m+1,?_,rfl,by omega,S.ext h6⟩) (fun d=>fun w6 h6=>⟨n - 1,by omega,m+1,?_,rfl,by omega,S.ext h6⟩)
  ·have d:ja (bC h.s m).1 (m:Int)=0:=by simpa using d
   show _=(((bC h.s m).2+if ja (bC h.s m).1 (m:Int)=0 then 1 else 0:Nat):Int)
   rw[if_pos d]
  ·have d: ¬ ja (bC h.s m).1 (m:Int)=0:=by simpa using d
   show _=(((bC h.s m).2+if ja (bC h.s m).1 (m:Int)=0 then 1 else 0:Nat):Int)
   rw[if_neg d];rfl
 ·have hm:m=h.s.2.length:=by
   have: ¬ m<h.s.2.length:=by simpa using cc
   omega
  subst hm
  rw[cJ (by omega)]
  exact S.res (j:=0) rfl _ 0 fun w5 S=>kk w5 ⟨A,⟨W.dom,W.mp,W.gl,W.pt,W.gk⟩,J S.tail.tail⟩
end
end Go.Proofs.YtdnoecpjcoibmaaGreat
namespace Go.Proofs.YtdnoecpjcoibmaaGreat
set_option maxRecDepth 100000
open Go.RX D
theorem bG {g:Nat->Option GV} {v:Int} (hl:aD g v=true): ∃x,g v.toNat=some x/\aT g v=x.root/\((v.toNat:Nat):Int)=v/\1<=v/\v<=16:=by
 obtain⟨hv,x,hx⟩:=dw.1 hl
 refine⟨x,hx,?_,by omega,hv.1,hv.2⟩
 unfold aT
 rw[if_pos hl,hx]
theorem aU.qx {Q:Sys} {X:HX} {D G:List Nat} {w0 w:World} {s:WD} {L0:List (Nat×List Value)} {A:Nat->GA} {g:Nat->Option GV} (S:aU Q D G w0 w s L0) (hk:(X.hb,hcs Q X A g)∈L0) (hg: ∀i v,g i=some v-> ∀x∈fZ Q A i v,x∈L0) {v:Int} (hl:aD g v=true):
 cg w (af (af (some ⟨X.hb,0,none⟩) 4) (v.toNat*1)) (.one .ptr) (some ⟨(A v.toNat).bg,0,none⟩)/\cg w (af (some ⟨(A v.toNat).bg,0,none⟩) 0) (.one .ptr) (some ⟨(A v.toNat).bt,0,none⟩)/\cg w (af (some ⟨(A v.toNat).bg,0,none⟩) 1) (.one .map) (some (A v.toNat).bm)/\
  ∃j:Nat,L0[j]? =some ((A v.toNat).bt,mQ Q v (aT g v) false):=by
 obtain⟨x,hx,hr,hv,h1,h2⟩:=bG hl
 have hc:=S.hcell hk (v:=v) ⟨by omega,h2⟩
 have hp:jh A g v.toNat=some ⟨(A v.toNat).bg,0,none⟩:=by unfold jh;rw[hx]
 rw[hp] at hc
 obtain⟨j1,wF⟩:=List.getElem?_of_mem (hg _ _ hx _ List.mem_cons_self)
 obtain⟨j2,hj2⟩:=List.getElem?_of_mem (hg _ _ hx _ (List.mem_cons_of_mem _ List.mem_cons_self))
 refine⟨hc,?_,?_,j2,?_⟩
 ·rw[aK];exact bY (S.get wF) rfl
 ·rw[aK];exact bY (S.get wF) rfl
 ·rw[hr, <-hv]
  exact hj2
def oN (h:HS) (v a b:Int):Int:=
 if a>=65536 then 2 else if b<1\/b>7 then 7 else if cI h v a=true/\mR .u64 b 2>0/\(uc h.gr (dH h.g v a).1).2.2.2.1=false then 7 else B8 h.s v (aT h.g v) false a b
def ir (h:HS) (v a b:Int):HS:=
 if a>=65536 then h else if b<1\/b>7 then h else if cI h v a=true/\mR .u64 b 2>0/\(uc h.gr (dH h.g v a).1).2.2.2.1=false then h else bh h (pJ h.s v (aT h.g v) false a b)
section
variable {Q:Sys} {X:HX} {D G:List Nat} {w0 w:World} {h:HS} {L:List (Nat×List Value)} {K:RS->World->Prop}
theorem Di (H:bJ Q X D G w0 w h L) {v:Int} (hl:aD h.g v=true) (k:Int) {a b:Int} (c:Int) (ha:0<=a) (hb:0<=b) (kk: ∀w2,bJ Q X D G w0 w2 (ir h v a b) L->K (0,oN h v a b,()) w2):
 an Tryz.prog 94 (.el (.agg gw)) [.pointer (some ⟨X.hb,0,none⟩),.int .i64 v,.agg ⟨fi k a b c⟩] w K:=by
 obtain⟨A,W,H⟩:=H
 obtain⟨G',S,J⟩:=H.call
 obtain⟨x,hx,sS,hv,uo,tX⟩:=bG hl
 refine aL (C:=V0) (aJ:=fun _=>[]) (Eq.mpr (zS _ v k a b c w K) ?_)
 refine S.al fun ba w2 S=>S.al fun b1 w3 S=>⟨rfl,S.bu 1 rfl rfl ?_⟩
 unfold oN ir at kk
 refine aa (fun d=>⟨trivial,S.res (j:=0) rfl 0 _ fun w4 S=>?_⟩) (fun d=>⟨rfl,S.bu 1 rfl rfl ⟨fun _=>rfl,S.bu 1 rfl rfl ?_⟩⟩)
 ·rw[if_pos (by simpa using d),if_pos (by simpa using d)] at kk
  exact kk w4 ⟨A,W,J S.tail.tail⟩
 have d: ¬ a>=65536:=by simpa using d
 rw[if_neg d,if_neg d] at kk
 refine aa (fun d=>⟨trivial,S.res (j:=0) rfl 0 _ fun w4 S=>?_⟩) (fun d2=>?_)
 ·have d:b<1\/b>7:=by simpa using d
  rw[if_pos d,if_pos d] at kk
  exact kk w4 ⟨A,W,J S.tail.tail⟩
 have d2: ¬ (b<1\/b>7):=by
  intro e
  have:(decide (b<1)||decide (b>7))=true:=by simpa using e
  rw[this] at d2;cases d2
 rw[if_neg d2,if_neg d2] at kk
 have ea:ax .i64 a=a:=bI ⟨ha,by omega⟩
 have eb:ax .i64 b=b:=bI ⟨hb,by omega⟩
 have fin: ∀{w5:World} {T:List (Nat×List Value)} {q:Nat},aU Q [] G' w w5 h.s (T++((b1,[.int .u64 0,.int .i64 0])::(ba,fi k a b c)::dF Q X A h (aR Q A h.g (List.range 17)++L)))->T.length=q->(¬ (cI h v a=true/\mR .u64 b 2>0/\(uc h.gr (dH h.g v a).1).2.2.2.1=false))->
  az Tryz.prog 160 (.el (.one (.int .i64))) [.pointer (some ⟨(A v.toNat).bt,0,none⟩),.int .i64 a,.int .i64 b] w5 fun(x:Int) (w2:World)=>True/\av w2 (some ⟨b1,0,none⟩) [.int .u64 0,.int .i64 x] fun(w2:World)=>aj w2 fun(w1:World)=>ag w1 none (some ⟨b1,0,none⟩) (.agg gw) fun(x:Int×Int×Unit)=>K (x.1,x.2.1,()) w1:=by
  intro w5 T q S hq hn
  rw[if_neg hn,if_neg hn] at kk
  obtain⟨_, _, _,j,hj⟩:=S.qx (X:=X) (A:=A) (g:=h.g) (by simp) (fun i v hv x hx=>List.mem_append_right T (a7 W [_, _] i v hv x hx)) hl
  refine S.qJ j hj a b fun w6 S=>⟨trivial,S.res (j:=T.length) (by rw[List.getElem?_append_right (Nat.le_refl _),Nat.sub_self];rfl) 0 _ fun w7 S=>kk w7 ⟨A,⟨W.dom,W.mp,W.gl,W.pt,W.gk⟩,J ?_⟩⟩
  rw[List.set_append_right _ _ (Nat.le_refl _),Nat.sub_self] at S
  have S:=S.sub (List.sublist_append_right T _)
  exact S.tail.tail
 refine⟨rfl,S.bu 1 rfl rfl ⟨dH h.g v a,by rw[ea];exact k_ (J S) (X:=X) (A:=A) (g:=h.g) (by simp) (a7 W [_, _]) (eK W) (fun i x hx=>W.mp hx) v a,fun _=>rfl,S.bu 1 rfl rfl (aa (fun d3=>?_) (fun d3=>?_))⟩⟩
 ·have d3:cI h v a=true/\mR .u64 b 2>0:=by
   have:=d3
   rw[Bool.and_eq_true,decide_eq_true_eq] at this
   exact this
  refine⟨rfl,rfl,ag.of _ (S.fu (X:=X) (A:=A) (g:=h.g) (by simp) (n:=2) rfl) ⟨(uc h.gr (dH h.g v a).1,(jR h.gr (dH h.g v a).1).isSome,()),S.TH 3 4 rfl rfl (by rw[W.gl];decide) _,S.al fun b2 w4 S=>S.cC 0 rfl rfl rfl fun w5 S=>⟨rfl,S.bu 0 rfl rfl (aa (fun d4=>⟨trivial,S.res (j:=1) rfl 0 _ fun w6 S=>?_⟩) (fun d4=>?_))⟩⟩⟩
  ·have d4:(uc h.gr (dH h.g v a).1).2.2.2.1=false:=by simpa using d4
   rw[if_pos ⟨d3.1,d3.2,d4⟩,if_pos ⟨d3.1,d3.2,d4⟩] at kk
   exact kk w6 ⟨A,W,J S.tail.tail.tail⟩
  ·have d4:(uc h.gr (dH h.g v a).1).2.2.2.1=true:=by simpa using d4
   obtain⟨g1,g2, _, _⟩:=S.qx (X:=X) (A:=A) (g:=h.g) (by simp) (a7 W [_, _, _]) hl
   exact⟨rfl,rfl,⟨rfl,by omega,by show v<((17:Nat):Int);omega⟩,ag.of _ g1 ⟨rfl,rfl,ag.of _ g2 ⟨rfl,S.bu 2 rfl rfl ⟨rfl,S.bu 2 rfl rfl (by
    rw[ea,eb]
    exact fin (T:=[_]) S rfl (fun hh=>by rw[d4] at hh;cases hh.2.2))⟩⟩⟩⟩
 ·have d3: ¬ (cI h v a=true/\mR .u64 b 2>0):=by
   intro e
   have:((dH h.g v a).2.1&&decide (mR .u64 b 2>0))=true:=by rw[Bool.and_eq_true,decide_eq_true_eq];exact e
   rw[this] at d3;cases d3
  obtain⟨g1,g2, _, _⟩:=S.qx (X:=X) (A:=A) (g:=h.g) (by simp) (a7 W [_, _]) hl
  exact⟨rfl,rfl,⟨rfl,by omega,by show v<((17:Nat):Int);omega⟩,ag.of _ g1 ⟨rfl,rfl,ag.of _ g2 ⟨rfl,S.bu 1 rfl rfl ⟨rfl,S.bu 1 rfl rfl (by
   rw[ea,eb]
   exact fin (T:=[]) S rfl (fun hh=>d3 ⟨hh.1,hh.2.1⟩))⟩⟩⟩⟩
end
end Go.Proofs.YtdnoecpjcoibmaaGreat
namespace Go.Proofs.YtdnoecpjcoibmaaGreat
set_option maxRecDepth 100000
open Go.RX D
theorem G9 (s:WD) (r:Int) (gone:Bool) (p:Int):0<=(aV s r gone p).1/\(aV s r gone p).1<5000:=by
 have z:(0:Int)<=0/\(0:Int)<5000:=by decide
 unfold aV
 split
 ·exact z
 ·split
  ·exact z
  ·split
   ·have h:=Ek (B (cZ s.1 (di s.1 r p).2.2.1)).toNat
    have h:0<=(cx s.1 r p).2.2.2.1/\(cx s.1 r p).2.2.2.1<4096:=h
    show 0<=oF p (di s.1 r p) (cx s.1 r p)/\oF p (di s.1 r p) (cx s.1 r p)<5000
    unfold oF
    split<;>omega
   ·exact z
theorem Bb (g:Nat->Option GV) (s:WD) (v p:Int):0<=(cL g s v p).1/\(cL g s v p).1<5000:=by
 have z:(0:Int)<=0/\(0:Int)<5000:=by decide
 unfold cL
 split
 ·split
  ·exact G9 _ _ _ _
  ·exact z
 ·exact z
def uP (h:HS) (v a:Int):Int:=
 if a>=65536 then 2 else if(cL h.g h.s v a).2.2.1≠0 then(cL h.g h.s v a).2.2.1 else if cI h v a=true then 7 else if(oJ h.s.2 (cL h.g h.s v a).1).2.2.1>0 then 9 else 0
def Ca (h:HS) (v a:Int):Int×Int:=if uP h v a=0 then((cL h.g h.s v a).1,0) else(0,uP h v a)
def mM (h:HS) (v a:Int):HS:=if uP h v a=0 then bh h ((lK h.s v (aT h.g v) false a).1,fQ (lK h.s v (aT h.g v) false a).2 (cL h.g h.s v a).1 (aE 5 v)) else h
section
variable {Q:Sys} {X:HX} {D G:List Nat} {w0 w:World} {h:HS} {L:List (Nat×List Value)} {K:RS->World->Prop}
theorem Dj (H:bJ Q X D G w0 w h L) {v:Int} (hl:aD h.g v=true) (hF:Fe Q h.s) (H9:0<=aT h.g v/\aT h.g v<4096) (k:Int) {a:Int} (b c:Int) (ha:0<=a) (kk: ∀w2,bJ Q X D G w0 w2 (mM h v a) L->K ((Ca h v a).1,(Ca h v a).2,()) w2):
 an Tryz.prog 93 (.el (.agg gw)) [.pointer (some ⟨X.hb,0,none⟩),.int .i64 v,.agg ⟨fi k a b c⟩] w K:=by
 obtain⟨A,W,H⟩:=H
 obtain⟨G',S,J⟩:=H.call
 obtain⟨x,hx,sS,hv,uo,tX⟩:=bG hl
 refine aL (C:=V0) (aJ:=fun _=>[]) (Eq.mpr (zR _ v k a b c w K) ?_)
 have bad:uP h v a≠0-> ∀{w2},bJ Q X D G w0 w2 h L->K (0,uP h v a,()) w2:=fun he w2 H=>by
  have e1:Ca h v a=(0,uP h v a):=if_neg he
  have e2:mM h v a=h:=if_neg he
  rw[e1,e2] at kk
  exact kk w2 H
 have hE:uP h v a=if a>=65536 then 2 else if(cL h.g h.s v a).2.2.1≠0 then(cL h.g h.s v a).2.2.1 else if cI h v a=true then 7 else if(oJ h.s.2 (cL h.g h.s v a).1).2.2.1>0 then 9 else 0:=rfl
 refine S.al fun ba w2 S=>S.al fun b1 w3 S=>⟨rfl,S.bu 1 rfl rfl ?_⟩
 refine aa (fun d=>⟨trivial,S.res (j:=0) rfl 0 _ fun w4 S=>?_⟩) (fun d=>⟨rfl,S.bu 1 rfl rfl ?_⟩)
 ·rw[if_pos (by simpa using d)] at hE
  rw[hE] at bad
  exact bad (by decide) ⟨A,W,J S.tail.tail⟩
 have d: ¬ a>=65536:=by simpa using d
 rw[if_neg d] at hE
 have ea:ax .i64 a=a:=bI ⟨ha,by omega⟩
 rw[ea]
 refine ot S (X:=X) (A:=A) (g:=h.g) (by simp) (a7 W [_, _]) v a fun w4 S=>?_
 have hq:=Bb h.g h.s v a
 refine aa (fun d=>⟨trivial,S.res (j:=0) rfl 0 _ fun w5 S=>?_⟩) (fun d2=>?_)
 ·have d:(cL h.g h.s v a).2.2.1≠0:=by simpa using d
  rw[if_pos d] at hE
  rw[hE] at bad
  exact bad d ⟨A,W,J S.tail.tail⟩
 rw[if_neg (by simpa using d2)] at hE
 refine⟨dH h.g v a,k_ (J S) (X:=X) (A:=A) (g:=h.g) (by simp) (a7 W [_, _]) (eK W) (fun i x hx=>W.mp hx) v a,?_⟩
 refine aa (fun d=>⟨trivial,S.res (j:=0) rfl 0 _ fun w5 S=>?_⟩) (fun d3=>?_)
 ·rw[if_pos (show cI h v a=true from d)] at hE
  rw[hE] at bad
  exact bad (by decide) ⟨A,W,J S.tail.tail⟩
 rw[if_neg (show ¬ cI h v a=true by unfold cI;rw[d3];decide)] at hE
 refine⟨rfl,rfl,ag.of _ (S.fu (X:=X) (A:=A) (g:=h.g) (by simp) (n:=1) rfl) ⟨(oJ h.s.2 (cL h.g h.s v a).1,uI h.s.2 (cL h.g h.s v a).1,()),S.Vi _,S.al fun b2 w5 S=>S.cC 0 rfl rfl rfl fun w6 S=>⟨rfl,S.bu 0 rfl rfl ?_⟩⟩⟩
 refine aa (fun d=>⟨trivial,S.res (j:=1) rfl 0 _ fun w5 S=>?_⟩) (fun d4=>?_)
 ·rw[if_pos (by simpa using d)] at hE
  rw[hE] at bad
  exact bad (by decide) ⟨A,W,J S.tail.tail.tail⟩
 rw[if_neg (by simpa using d4)] at hE
 have e1:Ca h v a=((cL h.g h.s v a).1,0):=if_pos hE
 have e2:mM h v a=bh h _:=if_pos hE
 rw[e1,e2] at kk
 obtain⟨g1,g2, _,j,hj⟩:=S.qx (X:=X) (A:=A) (g:=h.g) (by simp) (a7 W [_, _, _]) hl
 refine⟨rfl,rfl,⟨rfl,by omega,by show v<((17:Nat):Int);omega⟩,ag.of _ g1 ⟨rfl,rfl,ag.of _ g2 (S.Ay hF j hj H9 a fun w7 S=>⟨rfl,rfl,ag.of _ (S.fu (X:=X) (A:=A) (g:=h.g) (by simp) (n:=1) rfl) (S.M8 _ 5 v fun w8 S=>?_)⟩)⟩⟩
 rw[cJ (by omega)]
 exact S.res (j:=1) rfl _ 0 fun w9 S=>kk w9 ⟨A,⟨W.dom,W.mp,W.gl,W.pt,W.gk⟩,J S.tail.tail.tail⟩
end
end Go.Proofs.YtdnoecpjcoibmaaGreat
namespace Go.Proofs.YtdnoecpjcoibmaaGreat
set_option maxRecDepth 100000
open Go.RX D
theorem Dk {ds:List DT} (hl:ds.length<=4096) (y o:Int):0<=eO ds y o/\eO ds y o<4096:=by
 have z:(0:Int)<=0/\(0:Int)<4096:=by decide
 unfold eO
 split
 ·exact z
 ·rename_i n hn
  unfold gE at hn
  rw[List.findIdx?_eq_some_iff_getElem] at hn
  obtain⟨h1, _⟩:=hn
  split
  ·exact⟨by omega,by omega⟩
  ·exact z
def gx (h:HS) (v:Int):WD:=(h.s.1,c8 h.s.2 4 v)
def gy (h:HS) (v:Int):Int:=eO h.s.2 4 v
def pK (h:HS) (v a b:Int):WD:=iP (gx h v) v (aT h.g v) false a (gy h v) b
def ju (h:HS) (v a b:Int):Int:=
 if a>=65536 then 2 else if b<1\/b>7 then 7 else if dj h.s.2 4 v≠0 then dj h.s.2 4 v else gO (gx h v) (aT h.g v) false a (gy h v) b
def rT (h:HS) (v a b:Int):Int×Int:=if ju h v a b=0 then(gy h v,0) else(0,ju h v a b)
def gQ (h:HS) (v a b:Int):HS:=
 if a>=65536 then h else if b<1\/b>7 then h else if dj h.s.2 4 v≠0 then bh h (gx h v)
 else if gO (gx h v) (aT h.g v) false a (gy h v) b≠0 then bh h ((pK h v a b).1,fQ (pK h v a b).2 (gy h v) (aE 0 0))
 else bh h (ew (pK h v a b).1 (gy h v) (fun _=>0) 16,(pK h v a b).2)
section
variable {Q:Sys} {X:HX} {D G:List Nat} {w0 w:World} {h:HS} {L:List (Nat×List Value)} {K:RS->World->Prop}
theorem G_ (H:bJ Q X D G w0 w h L) {v:Int} (hl:aD h.g v=true) (k:Int) {a b:Int} (c:Int) (ha:0<=a) (hb:0<=b) (kk: ∀w2,bJ Q X D G w0 w2 (gQ h v a b) L->K ((rT h v a b).1,(rT h v a b).2,()) w2):
 an Tryz.prog 92 (.el (.agg gw)) [.pointer (some ⟨X.hb,0,none⟩),.int .i64 v,.agg ⟨fi k a b c⟩] w K:=by
 obtain⟨A,W,H⟩:=H
 obtain⟨G',S,J⟩:=H.call
 obtain⟨x,hx,sS,hv,uo,tX⟩:=bG hl
 refine aL (C:=V0) (aJ:=mF) (Eq.mpr (Bv _ v k a b c w K) ?_)
 have hfr:=Dk S.le 4 v
 have wf: ∀s',zW A (bh h s'):=fun s'=>⟨W.dom,W.mp,W.gl,W.pt,W.gk⟩
 have bad: ∀e,e≠0->ju h v a b=e->rT h v a b=(0,e):=fun e he h1=>by
  unfold rT;rw[if_neg (by rw[h1];exact he),h1]
 refine S.al fun ba w2 S=>S.al fun b1 w3 S=>⟨rfl,S.bu 1 rfl rfl ?_⟩
 refine aa (fun d=>⟨trivial,S.res (j:=0) rfl 0 _ fun w4 S=>?_⟩) (fun d=>⟨rfl,S.bu 1 rfl rfl ⟨fun _=>rfl,S.bu 1 rfl rfl ?_⟩⟩)
 ·have d:a>=65536:=by simpa using d
  have e2:gQ h v a b=h:=if_pos d
  rw[bad 2 (by decide) (if_pos d),e2] at kk
  exact kk w4 ⟨A,W,J S.tail.tail⟩
 have d: ¬ a>=65536:=by simpa using d
 have ea:ax .i64 a=a:=bI ⟨ha,by omega⟩
 refine aa (fun d2=>⟨trivial,S.res (j:=0) rfl 0 _ fun w4 S=>?_⟩) (fun d2=>⟨rfl,rfl,?_⟩)
 ·have d2:b<1\/b>7:=by simpa using d2
  have e1:ju h v a b=7:=by unfold ju;rw[if_neg d,if_pos d2]
  have e2:gQ h v a b=h:=by unfold gQ;rw[if_neg d,if_pos d2]
  rw[bad 7 (by decide) e1,e2] at kk
  exact kk w4 ⟨A,W,J S.tail.tail⟩
 have d2: ¬ (b<1\/b>7):=by
  intro e
  have:(decide (b<1)||decide (b>7))=true:=by simpa using e
  rw[this] at d2;cases d2
 have eb:ax .i64 b=b:=bI ⟨hb,by omega⟩
 refine ag.of _ (S.fu (X:=X) (A:=A) (g:=h.g) (by simp) (n:=1) rfl) (S.take 4 v fun w4 S=>?_)
 refine aa (fun d3=>⟨trivial,S.res (j:=0) rfl 0 _ fun w5 S=>?_⟩) (fun d3=>?_)
 ·have d3:dj h.s.2 4 v≠0:=by simpa using d3
  have e1:ju h v a b=dj h.s.2 4 v:=by unfold ju;rw[if_neg d,if_neg d2,if_pos d3]
  have e2:gQ h v a b=bh h (gx h v):=by unfold gQ;rw[if_neg d,if_neg d2,if_pos d3]
  rw[bad _ d3 e1,e2] at kk
  exact kk w5 ⟨A,wf _,J S.tail.tail⟩
 have d3: ¬ dj h.s.2 4 v≠0:=by
  intro e
  have:(dj h.s.2 4 v != 0)=true:=by simpa using e
  rw[this] at d3;cases d3
 obtain⟨g1,g2, _,j,hj⟩:=S.qx (X:=X) (A:=A) (g:=h.g) (by simp) (a7 W [_, _]) hl
 refine⟨rfl,rfl,⟨rfl,by omega,by show v<((17:Nat):Int);omega⟩,ag.of _ g1 ⟨rfl,rfl,ag.of _ g2 ⟨rfl,S.bu 1 rfl rfl ⟨rfl,S.bu 1 rfl rfl ?_⟩⟩⟩⟩
 rw[ea,eb]
 refine S.map j hj a (gy h v) b fun w5 S=>?_
 have S:aU Q [] G' w w5 (pK h v a b) ((b1,[.int .u64 0,.int .i64 0])::(ba,fi k a b c)::dF Q X A h (aR Q A h.g (List.range 17)++L)):=S
 have hE:ju h v a b=gO (gx h v) (aT h.g v) false a (gy h v) b:=by unfold ju;rw[if_neg d,if_neg d2,if_neg d3]
 refine aa (fun d4=>⟨rfl,rfl,?_⟩) (fun d4=>?_)
 ·have d4: ¬ gO (h.s.1,c8 h.s.2 4 v) (aT h.g v) false a (gy h v) b=0:=by simpa using d4
  have d4:gO (gx h v) (aT h.g v) false a (gy h v) b≠0:=d4
  have e2:gQ h v a b=bh h ((pK h v a b).1,fQ (pK h v a b).2 (gy h v) (aE 0 0)):=by unfold gQ;rw[if_neg d,if_neg d2,if_neg d3,if_pos d4]
  rw[bad _ d4 hE,e2] at kk
  exact ag.of _ (S.fu (X:=X) (A:=A) (g:=h.g) (by simp) (n:=1) rfl) (S.B_ (gy h v) fun w6 S=>⟨trivial,S.res (j:=0) rfl 0 _ fun w7 S=>kk w7 ⟨A,wf _,J S.tail.tail⟩⟩)
 have d4: ¬ gO (gx h v) (aT h.g v) false a (gy h v) b≠0:=by
  intro e
  have:(gO (gx h v) (aT h.g v) false a (gy h v) b != 0)=true:=by simpa using e
  exact absurd (this.symm.trans d4) (by decide)
 have e1:rT h v a b=(gy h v,0):=by
  unfold rT;rw[hE,if_pos (by omega)]
 have e2:gQ h v a b=bh h (ew (pK h v a b).1 (gy h v) (fun _=>0) 16,(pK h v a b).2):=by unfold gQ;rw[if_neg d,if_neg d2,if_neg d3,if_neg d4]
 rw[e1,e2] at kk
 have hfr:0<=gy h v/\gy h v<4096:=hfr
 obtain⟨F,hF⟩: ∃F:Nat->List Int,F=fun i=>ew (pK h v a b).1 (gy h v) (fun _=>0) i:=⟨_,rfl⟩
 have F0:F 0=(pK h v a b).1:=by rw[hF];rfl
 have Fs: ∀i,F (i+1)=cH (F i) (16*gy h v+(i:Int)) 0:=fun i=>by rw[hF];rfl
 have kk: ∀w2,bJ Q X D G w0 w2 (bh h (F 16,(pK h v a b).2)) L->K (gy h v,0,()) w2:=by rw[hF];exact kk
 clear hF
 refine⟨fun n u w'=> ∃m:Nat,u.1=(m:Int)/\n+m=16/\aU Q [] G' w w' (F m,(pK h v a b).2) ((b1,[.int .u64 0,.int .i64 0])::(ba,fi k a b c)::dF Q X A h (aR Q A h.g (List.range 17)++L)),⟨16,fun w6 h6=>⟨0,rfl,rfl,by rw[F0];exact S.ext h6⟩⟩,?_⟩
 clear S g1 g2 hj
 rintro n ⟨u,u2⟩ w6 ⟨m,e,hn,S⟩
 dsimp only at e ⊢
 subst e
 have ZA:(eO h.s.2 4 v)=gy h v:=rfl
 rw[ZA]
 refine aa (fun cc=>?_) (fun cc=>?_)
 ·have hm:m<16:=by
   have:(m:Int)<16:=by simpa using cc
   omega
  have e5:au .i64 (b_ .i64 16 (gy h v)) (m:Int)=16*gy h v+(m:Int):=by rw[eA (by omega) (by omega),ar (by omega) (by omega)]
  rw[e5]
  refine⟨rfl,rfl,ag.of _ (S.fu (X:=X) (A:=A) (g:=h.g) (by simp) (n:=0) rfl) (S.store _ 0 (by decide) fun w7 S=>fun w8 h8=>⟨n - 1,by omega,m+1,by rw[ar (by omega) (by omega)];omega,by omega,?_⟩)⟩
  rw[Fs]
  exact S.ext h8
 ·have hm:m=16:=by
   have: ¬ (m:Int)<16:=by simpa using cc
   omega
  subst hm
  rw[cJ (by omega)]
  exact S.res (j:=0) rfl _ 0 fun w7 S=>kk w7 ⟨A,wf _,J S.tail.tail⟩
end
end Go.Proofs.YtdnoecpjcoibmaaGreat
namespace Go.Proofs.YtdnoecpjcoibmaaGreat
set_option maxRecDepth 100000
open Go.RX D
def cM (h:HS) (v p id f:Int):HS where
 s:=((lK h.s v (aT h.g v) false p).1,fQ (lK h.s v (aT h.g v) false p).2 f (gN (-1)))
 g:=aS h.g v.toNat (match h.g v.toNat with|some x=>some {x with tk:=x.tk.filter fun t=> !(t.1==p)}|none=>none)
 gr:=dO h.gr id v
 po:=h.po
theorem ov (gs:List GT) (i o:Int):(dO gs i o).length=gs.length:=by
 unfold dO;split
 ·rw[List.length_set]
 ·rfl
theorem JI {α:Type} {T L:List α} {k:Nat} {x:α} (h:L[k]? =some x):(T++L)[T.length+k]? =some x:=by
 rw[List.getElem?_append_right (by omega),show T.length+k - T.length=k by omega];exact h
section
variable {Q:Sys} {X:HX} {D G:List Nat} {w0 w:World} {h:HS} {L:List (Nat×List Value)}
theorem Bc {A:Nat->GA} (W:zW A h) {T:List (Nat×List Value)} (H:SM Q D G w0 w h.s (T++dF Q X A h (aR Q A h.g (List.range 17)++L)) (dW A h.g (List.range 17))) {v p id f:Int} (hl:aD h.g v=true) (hF:Fe Q h.s) (H9:0<=aT h.g v/\aT h.g v<4096)
 {x:GV} (hx:h.g v.toNat=some x) (ht:a9 x.tk p=some (id,f)) {K:Unit->World->Prop} (kk: ∀A' w2,(∀i,(A' i).bg=(A i).bg)->zW A' (cM h v p id f)->SM Q D G w0 w2 (cM h v p id f).s (T++dF Q X A' (cM h v p id f) (aR Q A' (cM h v p id f).g (List.range 17)++L)) (dW A' (cM h v p id f).g (List.range 17))->K () w2):
 az Tryz.prog 150 (.bq []) [.pointer (some ⟨X.hb,0,none⟩),.int .i64 v,.int .i64 p] w K:=by
 obtain⟨x',hx',sS,hv,uo,tX⟩:=bG hl
 rw[hx] at hx';cases hx'
 refine H.go fun w1 H=>ai (C:=V0) (aJ:=rM) (Eq.mpr (LP _ v p w1 K) ?_)
 obtain⟨G',S,J⟩:=H.call
 have mem: ∀{T':List (Nat×List Value)},(X.hb,hcs Q X A h.g)∈T'++(T++dF Q X A h (aR Q A h.g (List.range 17)++L)):=fun{T'}=>List.mem_append_right _ (List.mem_append_right _ List.mem_cons_self)
 have yY: ∀{T':List (Nat×List Value)}, ∀i v,h.g i=some v-> ∀x∈fZ Q A i v,x∈T'++(T++dF Q X A h (aR Q A h.g (List.range 17)++L)):=fun{T'} i v hv x hx=>List.mem_append_right _ (a7 W T i v hv x hx)
 obtain⟨g1,g2,g3, _⟩:=S.qx (X:=X) (A:=A) (g:=h.g) (mem (T':=[])) (yY (T':=[])) hl
 obtain⟨r,hf,BM⟩:=(W.mp hx).find p
 rw[ht] at BM
 obtain⟨i,e,hi,hM⟩:=BM
 have hmo:bA w1 (A v.toNat).bm ⟨(A v.toNat).es⟩ (A v.toNat).ck:=H.get (eK W _ _ hx)
 refine⟨rfl,rfl,⟨rfl,by omega,by show v<((17:Nat):Int);omega⟩,ag.of _ g1 ⟨rfl,rfl,ag.of _ g3 ⟨(id,f,()),⟨_, _, _,rfl,hmo,?_⟩,S.al fun b w2 S=>S.cC 0 rfl rfl rfl fun w3 S=>⟨rfl,rfl,?_⟩⟩⟩⟩
 ·rw[hf,e]
 obtain⟨_, _,g3, _⟩:=S.qx (X:=X) (A:=A) (g:=h.g) (mem (T':=[_])) (yY (T':=[_])) hl
 refine ag.of _ g3 fun w4 h4=>?_
 have H:=(J S).ext h4
 have hmo:bA w4 (A v.toNat).bm ⟨(A v.toNat).es⟩ (A v.toNat).ck:=H.get (eK W _ _ hx)
 refine⟨_, _, _,rfl,hmo,?_⟩
 unfold Ip
 rw[hf,e]
 dsimp only
 have Wc:(Array.eraseIdxIfInBounds (⟨(A v.toNat).es⟩:Array MapEntry) i)=⟨(A v.toNat).es.eraseIdx i⟩:=by
  apply Array.ext'
  rw[Array.toList_eraseIdxIfInBounds]
 rw[Wc]
 have Fk:v.toNat<17:=by omega
 have H:=H.JH Fk hx ((A v.toNat).es.eraseIdx i) (A v.toNat).ck (x.tk.filter fun t=> !(t.1==p))
 have Pn:=EA (A:=A) hx ((A v.toNat).es.eraseIdx i) (A v.toNat).ck (x.tk.filter fun t=> !(t.1==p))
 obtain⟨A',Tc⟩: ∃A',A'=mL A v.toNat {A v.toNat with es:=(A v.toNat).es.eraseIdx i,ck:=(A v.toNat).ck}:=⟨_,rfl⟩
 have hg':aS h.g v.toNat (some {x with tk:=x.tk.filter fun t=> !(t.1==p)})=(cM h v p id f).g:=by
  show _=aS h.g v.toNat (match h.g v.toNat with|some x=> _|none=>none)
  rw[hx]
 have hmp: ∀{i' v'},(cM h v p id f).g i'=some v'->oG (A' i').es (A' i').ck v'.tk:=fun{i' v'} hh=>by
  rw[<-hg'] at hh
  rw[Tc]
  unfold aS at hh
  unfold mL
  by_cases ei:i'=v.toNat
  ·rw[if_pos ei] at hh ⊢
   cases hh
   exact hM
  ·rw[if_neg ei] at hh ⊢
   exact W.mp hh
 have Td: ∀{i' v'},(cM h v p id f).g i'=some v'->1<=i'/\i'<=16:=fun{i' v'} hh=>by
  rw[<-hg'] at hh
  unfold aS at hh
  by_cases ei:i'=v.toNat
  ·omega
  ·rw[if_neg ei] at hh
   exact W.dom hh
 rw[<-Tc,hg'] at H Pn
 obtain⟨G2,S,J2⟩:=H.call
 obtain⟨_,g2, _,j,hj⟩:=S.qx (X:=X) (A:=A) (g:=h.g) (mem (T':=[_])) (yY (T':=[_])) hl
 refine⟨rfl,rfl,ag.of _ g2 (S.Ay hF j hj H9 p fun w5 S=>⟨rfl,rfl,ag.of _ (S.fu (X:=X) (A:=A) (g:=h.g) (mem (T':=[_])) (n:=1) rfl) ⟨rfl,S.bu 0 rfl rfl (S.pref f (-1) (by decide) fun w6 S=>⟨rfl,rfl,ag.of _ (S.fu (X:=X) (A:=A) (g:=h.g) (mem (T':=[_])) (n:=2) rfl) ⟨rfl,S.bu 0 rfl rfl ?_⟩⟩)⟩⟩)⟩
 refine S.PE (T.length+1+1) (T.length+2+1) (JI (T:= _::T) (k:=1) rfl) (JI (T:= _::T) (k:=2) rfl) (by rw[W.gl];decide) W.gk.use id v fun w7 S=>S.en fun w8 S=>kk A' w8 Pn.bg ⟨Td,hmp,(ov _ _ _).trans W.gl,W.pt,W.gk.back _ _⟩ (J2 ?_)
 have e1:dF Q X A' (cM h v p id f) (aR Q A' (cM h v p id f).g (List.range 17)++L)=(dF Q X A h (aR Q A h.g (List.range 17)++L)).set 2 (X.rP,flat eG (dO h.gr id v)++X.rest):=by
  show(X.hb,hcs Q X A' (cM h v p id f).g)::(X.gb,j_ X.rP (dO h.gr id v).length X.c)::(X.rP,flat eG (dO h.gr id v)++X.rest)::(X.pb,Po.fL 4 h.po)::(aR Q A' (cM h v p id f).g (List.range 17)++L)= _
  rw[Pn.cs,Pn.rows,ov]
  rfl
 have S:aU Q [] G2 _ w8 _ ((T++dF Q X A h (aR Q A h.g (List.range 17)++L)).set (T.length+2) (X.rP,flat eG (dO h.gr id v)++X.rest)):=S.tail
 rw[List.set_append_right _ _ (by omega),show T.length+2 - T.length=2 by omega, <-e1] at S
 exact S
end
end Go.Proofs.YtdnoecpjcoibmaaGreat
namespace Go.Proofs.YtdnoecpjcoibmaaGreat
set_option maxRecDepth 100000
open Go.RX D
def H_ (h:HS) (v p:Int):Int×Int:=match h.g v.toNat with
 |some x=>(a9 x.tk p).getD (0,0)
 |none=>(0,0)
def kU (h:HS) (v a:Int):Int:=if a>=65536 then 2 else if cI h v a=true then 0 else 4
def dU (h:HS) (v a:Int):HS:=if a>=65536 then h else if cI h v a=true then cM h v a (H_ h v a).1 (H_ h v a).2 else h
theorem qW {h:HS} {v p:Int} {x:GV} (hl:aD h.g v=true) (hx:h.g v.toNat=some x):cI h v p=true<->a9 x.tk p=some (H_ h v p):=by
 unfold cI dH H_
 rw[if_pos hl,hx]
 dsimp only
 cases a9 x.tk p<;>simp
section
variable {Q:Sys} {X:HX} {D G:List Nat} {w0 w:World} {h:HS} {L:List (Nat×List Value)} {K:RS->World->Prop}
theorem OT (H:bJ Q X D G w0 w h L) {v:Int} (hl:aD h.g v=true) (hF:Fe Q h.s) (H9:0<=aT h.g v/\aT h.g v<4096) (k:Int) {a:Int} (b c:Int) (ha:0<=a) (kk: ∀w2,bJ Q X D G w0 w2 (dU h v a) L->K (0,kU h v a,()) w2):
 an Tryz.prog 99 (.el (.agg gw)) [.pointer (some ⟨X.hb,0,none⟩),.int .i64 v,.agg ⟨fi k a b c⟩] w K:=by
 obtain⟨A,W,H⟩:=H
 obtain⟨G',S,J⟩:=H.call
 obtain⟨x,hx,sS,hv,uo,tX⟩:=bG hl
 refine aL (C:=V0) (aJ:=fun _=>[]) (Eq.mpr (GP _ v k a b c w K) ?_)
 unfold kU dU at kk
 refine S.al fun ba w2 S=>S.al fun b1 w3 S=>⟨rfl,S.bu 1 rfl rfl ?_⟩
 refine aa (fun d=>⟨trivial,S.res (j:=0) rfl 0 _ fun w4 S=>?_⟩) (fun d=>⟨rfl,S.bu 1 rfl rfl ?_⟩)
 ·rw[if_pos (by simpa using d),if_pos (by simpa using d)] at kk
  exact kk w4 ⟨A,W,J S.tail.tail⟩
 have d: ¬ a>=65536:=by simpa using d
 rw[if_neg d,if_neg d] at kk
 have ea:ax .i64 a=a:=bI ⟨ha,by omega⟩
 rw[ea]
 refine⟨dH h.g v a,k_ (J S) (X:=X) (A:=A) (g:=h.g) (by simp) (a7 W [_, _]) (eK W) (fun i x hx=>W.mp hx) v a,?_⟩
 refine aa (fun d2=>⟨trivial,S.res (j:=0) rfl 0 _ fun w4 S=>?_⟩) (fun d2=>⟨rfl,S.bu 1 rfl rfl ?_⟩)
 ·have d2: ¬ cI h v a=true:=by
   unfold cI
   simpa using d2
  rw[if_neg d2,if_neg d2] at kk
  exact kk w4 ⟨A,W,J S.tail.tail⟩
 ·have d2:cI h v a=true:=by
   unfold cI
   simpa using d2
  rw[if_pos d2,if_pos d2] at kk
  rw[ea]
  refine Bc W (T:=[_, _]) (J S) hl hF H9 hx ((qW hl hx).1 d2) fun A' w4 _ W' H=>?_
  obtain⟨G2,S,J2⟩:=H.call
  exact S.res (j:=0) rfl 0 0 fun w5 S=>kk w5 ⟨A',W',J2 S.tail.tail⟩
end
end Go.Proofs.YtdnoecpjcoibmaaGreat
namespace Go.Proofs.YtdnoecpjcoibmaaGreat
set_option maxRecDepth 100000
open Go.RX D
def ki (t:TK):List TK->List TK
 |[]=>[t]
 |u::l=>if u.1<t.1 then u::ki t l else t::u::l
theorem lB (t:TK): ∀l,(ki t l).Perm (t::l)
 |[]=>List.Perm.refl _
 |u::l=>by
  rw[ki]
  split
  ·exact((lB t l).cons u).trans (.swap _ _ _)
  ·exact List.Perm.refl _
def iY (h:HS) (a:Int):GT:=uc h.gr a
def iy (h:HS) (a:Int):Int×Int×Int×Unit:=cL h.g h.s (iY h a).1 (iY h a).2.1
def qp (c:Int):Int:=if c=1 then 3 else 1
def jv (h:HS) (v a b c:Int):Int:=
 if b>=65536 then 2 else if a>=16\/c>1 then 1 else if(jR h.gr a).isSome=false then 4
 else if(iY h a).2.2.1≠v\/(c=1/\(iY h a).2.2.2.1=false) then 7 else if(iy h a).2.2.1≠0 then 4 else if cI h (iY h a).1 (iY h a).2.1=true then 7
 else if e_ h.gr a v (c==1)≠0 then e_ h.gr a v (c==1) else gO h.s (aT h.g v) false b (iy h a).1 (qp c)
def fk (h:HS) (v a b c:Int):HS where
 s:=((iP h.s v (aT h.g v) false b (iy h a).1 (qp c)).1,fQ (iP h.s v (aT h.g v) false b (iy h a).1 (qp c)).2 (iy h a).1 (gN 1))
 g:=aS h.g v.toNat (match h.g v.toNat with|some x=>some {x with tk:=ki (b,a,(iy h a).1) x.tk}|none=>none)
 gr:=cT h.gr a v (c==1)
 po:=h.po
def xE (h:HS) (v a b c:Int):HS:={h with s:=iP h.s v (aT h.g v) false b (iy h a).1 (qp c),gr:=dO (cT h.gr a v (c==1)) a v}
def kE (h:HS) (v a b c:Int):Int:=
 if b>=65536 then 2 else if a>=16\/c>1 then 1 else if(jR h.gr a).isSome=false then 4
 else if(iY h a).2.2.1≠v\/(c=1/\(iY h a).2.2.2.1=false) then 7 else if(iy h a).2.2.1≠0 then 4 else if cI h (iY h a).1 (iY h a).2.1=true then 7 else e_ h.gr a v (c==1)
def gF (h:HS) (v a b c:Int):HS:=if kE h v a b c≠0 then h else if jv h v a b c=0 then fk h v a b c else xE h v a b c
theorem He (gs:List GT) (i g:Int) (b:Bool):(cT gs i g b).length=gs.length:=by
 unfold cT;split
 ·rw[List.length_set]
 ·rfl
end Go.Proofs.YtdnoecpjcoibmaaGreat
namespace Go.Proofs.YtdnoecpjcoibmaaGreat
set_option maxRecDepth 100000
open Go.RX D
section
variable {Q:Sys} {X:HX} {D G:List Nat} {w0 w:World} {h:HS} {L:List (Nat×List Value)} {K:RS->World->Prop}
theorem R3 {A:Nat->GA} (W:zW A h) {v a b c:Int} {x:GV} (hx:h.g v.toNat=some x) (hv:((v.toNat:Nat):Int)=v) (uo:1<=v) (tX:v<=16) (hn:a9 x.tk b=none) (yZ:(cT h.gr a v (c==1)).length=h.gr.length) {h1:HS} (BN:h1=kT h (cT h.gr a v (c==1)))
 {b2 b1 ba:Nat} {l2 l1 la:List Value} (Mz:l1=[.int .u64 0,.int .i64 0]) {lE:World}
 (H:SM Q D G w0 lE ((iP h.s v (aT h.g v) false b (iy h a).1 (qp c)).1,fQ (iP h.s v (aT h.g v) false b (iy h a).1 (qp c)).2 (iy h a).1 (gN 1)) ((b2,l2)::(b1,l1)::(ba,la)::dF Q X A h1 (aR Q A h.g (List.range 17)++L)) (dW A h.g (List.range 17)))
 (kk: ∀w2,bJ Q X D G w0 w2 (fk h v a b c) L->K (0,0,()) w2):
 ∃r es clock,some (A v.toNat).bm=some r/\bA lE r es clock/\gL lE r .i64 b (.agg ⟨[.int .i64 a,.int .i64 (iy h a).1]⟩) es clock fun w2=>
  av w2 (some ⟨b1,0,none⟩) [.int .u64 0,.int .i64 0] fun w2=>aj w2 fun w1=>ag w1 none (some ⟨b1,0,none⟩) (.agg [.int .u64,.int .i64]) fun x=>K (x.1,x.2.1,()) w1:=by
 subst Mz
 have hmo:bA lE (A v.toNat).bm ⟨(A v.toNat).es⟩ (A v.toNat).ck:=H.get (eK W _ _ hx)
 refine⟨_, _, _,rfl,hmo,?_⟩
 obtain⟨r,hf,BM⟩:=(W.mp hx).find b
 rw[hn] at BM
 have BM:r=none:=BM
 rw[BM] at hf
 unfold gL
 have hf':Instr.findNow (.int .i64) (.int .i64 b) ((⟨(A v.toNat).es⟩:Array MapEntry)).toList 0=some none:=hf
 rw[hf']
 dsimp only
 have Wc:(⟨(A v.toNat).es⟩:Array MapEntry).push {key:= .int .i64 b,val:= .agg ⟨[.int .i64 a,.int .i64 (iy h a).1]⟩,born:=(A v.toNat).ck}=⟨(A v.toNat).es++[{key:= .int .i64 b,val:= .agg ⟨[.int .i64 a,.int .i64 (iy h a).1]⟩,born:=(A v.toNat).ck}]⟩:=by
  apply Array.ext'
  rw[Array.toList_push]
 rw[Wc]
 have hM:=(W.mp hx).push (t:=(b,a,(iy h a).1)) hn (lB (b,a,(iy h a).1) x.tk)
 have Fk:v.toNat<17:=by omega
 have e3:({key:=(uf (b,a,(iy h a).1)).1,val:=(uf (b,a,(iy h a).1)).2,born:=(A v.toNat).ck}:MapEntry)={key:= .int .i64 b,val:= .agg ⟨[.int .i64 a,.int .i64 (iy h a).1]⟩,born:=(A v.toNat).ck}:=rfl
 rw[e3] at hM
 generalize (A v.toNat).es++[{key:= .int .i64 b,val:= .agg ⟨[.int .i64 a,.int .i64 (iy h a).1]⟩,born:=(A v.toNat).ck}]=es' at hM ⊢
 have H:=H.JH Fk hx es' ((A v.toNat).ck+1) (ki (b,a,(iy h a).1) x.tk)
 have Pn:=EA (A:=A) hx es' ((A v.toNat).ck+1) (ki (b,a,(iy h a).1) x.tk)
 obtain⟨A',Tc⟩: ∃A',A'=mL A v.toNat {A v.toNat with es:=es',ck:=(A v.toNat).ck+1}:=⟨_,rfl⟩
 have hg':aS h.g v.toNat (some {x with tk:=ki (b,a,(iy h a).1) x.tk})=(fk h v a b c).g:=by
  show _=aS h.g v.toNat (match h.g v.toNat with|some x=> _|none=>none)
  rw[hx]
 have hmp: ∀{i' v'},(fk h v a b c).g i'=some v'->oG (A' i').es (A' i').ck v'.tk:=fun{i' v'} hh=>by
  rw[<-hg'] at hh
  rw[Tc]
  unfold aS at hh
  unfold mL
  by_cases ei:i'=v.toNat
  ·rw[if_pos ei] at hh ⊢
   cases hh
   exact hM
  ·rw[if_neg ei] at hh ⊢
   exact W.mp hh
 have Td: ∀{i' v'},(fk h v a b c).g i'=some v'->1<=i'/\i'<=16:=fun{i' v'} hh=>by
  rw[<-hg'] at hh
  unfold aS at hh
  by_cases ei:i'=v.toNat
  ·omega
  ·rw[if_neg ei] at hh
   exact W.dom hh
 rw[<-Tc,hg'] at H Pn
 obtain⟨G2,S,J2⟩:=H.call
 refine S.res (j:=1) rfl 0 0 fun mh S=>kk mh ⟨A',⟨Td,hmp,yZ.trans W.gl,W.pt,W.gk.take _ _ _⟩,J2 ?_⟩
 have S:=S.tail.tail.tail
 rw[BN] at S
 show aU Q [] G2 _ mh _ ((X.hb,hcs Q X A' (fk h v a b c).g)::(X.gb,j_ X.rP (cT h.gr a v (c==1)).length X.c)::(X.rP,flat eG (cT h.gr a v (c==1))++X.rest)::(X.pb,Po.fL 4 h.po)::(aR Q A' (fk h v a b c).g (List.range 17)++L))
 rw[Pn.cs,Pn.rows]
 exact S
theorem EB {A:Nat->GA} (W:zW A h) {v a b c:Int} {x:GV} (hx:h.g v.toNat=some x) (hv:((v.toNat:Nat):Int)=v) (uo:1<=v) (tX:v<=16) (hl:aD h.g v=true)
 (hnew: ∀x,h.g v.toNat=some x->gO h.s (aT h.g v) false b (iy h a).1 (qp c)=0->a9 x.tk b=none)
 (yZ:(cT h.gr a v (c==1)).length=h.gr.length) {h1:HS} (BN:h1=kT h (cT h.gr a v (c==1))) (W1:zW A h1)
 {b2 b1 ba:Nat} {l2 la:List Value} {wa w7:World} {G':List Nat}
 (J: ∀{w2:World} {s':WD} {L':List (Nat×List Value)},aU Q [] G' wa w2 s' L'->SM Q D G w0 w2 s' L' (dW A h.g (List.range 17)))
 (S:aU Q [] G' wa w7 h.s ((b2,l2)::(b1,[.int .u64 0,.int .i64 0])::(ba,la)::dF Q X A h1 (aR Q A h.g (List.range 17)++L)))
 (hE:jv h v a b c=gO h.s (aT h.g v) false b (iy h a).1 (qp c)) (Fc:gF h v a b c=if jv h v a b c=0 then fk h v a b c else xE h v a b c)
 (kk: ∀w2,bJ Q X D G w0 w2 (gF h v a b c) L->K (0,jv h v a b c,()) w2):
 az Tryz.prog 156 (.el (.one (.int .i64))) [.pointer (some ⟨(A v.toNat).bt,0,none⟩),.int .i64 b,.int .i64 (iy h a).1,.int .i64 (qp c)] w7 fun(y:Int) (w2:World)=>
  aB (y != 0)
   ((some (⟨X.hb,0,none⟩:Addr)).isSome=true/\(some (⟨X.hb,0,none⟩:Addr)).isSome=true/\
    ag w2 none (af (some ⟨X.hb,0,none⟩) 2) (.one .ptr) fun(z:Option Addr)=>
     az Tryz.prog 166 (.el (.one (.int .i64))) [.pointer z,.int .i64 a,.int .i64 v] w2 fun(_:Int) (w2:World)=>
      True/\av w2 (some ⟨b1,0,none⟩) [.int .u64 0,.int .i64 y] fun(w2:World)=>aj w2 fun(w1:World)=>ag w1 none (some ⟨b1,0,none⟩) (.agg [.int .u64,.int .i64]) fun(x:Int×Int×Unit)=>K (x.1,x.2.1,()) w1)
   ((some (⟨X.hb,0,none⟩:Addr)).isSome=true/\(some (⟨X.hb,0,none⟩:Addr)).isSome=true/\
    ag w2 none (af (some ⟨X.hb,0,none⟩) 1) (.one .ptr) fun(z:Option Addr)=>
     az Tryz.prog 167 (.el (.one (.int .i64))) [.pointer z,.int .i64 (iy h a).1,.int .i64 1] w2 fun(_:Int) (w2:World)=>
      (some (⟨X.hb,0,none⟩:Addr)).isSome=true/\(some (⟨X.hb,0,none⟩:Addr)).isSome=true/\((af (some ⟨X.hb,0,none⟩) 4).isSome=true/\0<=v/\v<((17:Nat):Int))/\
       ag w2 none (af (af (some ⟨X.hb,0,none⟩) 4) (v.toNat*1)) (.one .ptr) fun(z1:Option Addr)=>
        z1.isSome=true/\z1.isSome=true/\
         ag w2 none (af z1 1) (.one .map) fun(z2:Option Nat)=>
          ∀(w1:World),Ext w2 w1-> ∃(r:Nat), ∃(es:Array MapEntry), ∃(clock:Nat),z2=some r/\bA w1 r es clock/\
           gL w1 r .i64 b (.agg ⟨[.int .i64 a,.int .i64 (iy h a).1]⟩) es clock fun(w2:World)=>
            av w2 (some ⟨b1,0,none⟩) [.int .u64 0,.int .i64 0] fun(w2:World)=>aj w2 fun(w1:World)=>ag w1 none (some ⟨b1,0,none⟩) (.agg [.int .u64,.int .i64]) fun(x:Int×Int×Unit)=>K (x.1,x.2.1,()) w1):=by
 have mem: ∀{T:List (Nat×List Value)},(X.hb,hcs Q X A h.g)∈T++dF Q X A h1 (aR Q A h.g (List.range 17)++L):=fun{T}=>List.mem_append_right T (by rw[BN];exact List.mem_cons_self)
 have yY: ∀{T:List (Nat×List Value)}, ∀i v,h.g i=some v-> ∀x∈fZ Q A i v,x∈T++dF Q X A h1 (aR Q A h.g (List.range 17)++L):=fun{T} i v hv x hx=>by
  have MO:h1.g=h.g:=by rw[BN];rfl
  have:=a7 (Q:=Q) (X:=X) (L:=L) W1 T i v (by rw[MO];exact hv) x hx
  rw[MO] at this
  exact this
 obtain⟨_, _, _,j,hj⟩:=S.qx (X:=X) (A:=A) (g:=h.g) (mem (T:=[_, _, _])) (yY (T:=[_, _, _])) hl
 refine S.map j hj b (iy h a).1 (qp c) fun w8 S=>?_
 refine aa (fun d8=>?_) (fun d8=>?_)
 ·have d8:gO h.s (aT h.g v) false b (iy h a).1 (qp c)≠0:=by
   intro e
   have:(gO h.s (aT h.g v) false b (iy h a).1 (qp c) != 0)=false:=by rw[e];rfl
   exact absurd (d8.symm.trans this) (by decide)
  have hh:gF h v a b c=xE h v a b c:=by rw[Fc,if_neg (by rw[hE];exact d8)]
  refine⟨rfl,rfl,ag.of _ (S.fu (X:=X) (A:=A) (g:=h.g) (mem (T:=[_, _, _])) (n:=2) rfl) (S.PE 4 5 rfl rfl (by rw[W1.gl];decide) W1.gk.use a v fun w9 S=>⟨trivial,S.res (j:=1) rfl 0 _ fun lE S=>?_⟩)⟩
  rw[hE,hh] at kk
  refine kk lE ⟨A,⟨W.dom,W.mp,(ov _ _ _).trans (yZ.trans W.gl),W.pt,(W.gk.take _ _ _).back _ _⟩,J ?_⟩
  have S:=S.tail.tail.tail
  rw[BN] at S
  show aU Q [] G' wa lE (iP h.s v (aT h.g v) false b (iy h a).1 (qp c)) ((X.hb,hcs Q X A h.g)::(X.gb,j_ X.rP (dO (cT h.gr a v (c==1)) a v).length X.c):: _)
  rw[ov]
  exact S
 ·have d8:gO h.s (aT h.g v) false b (iy h a).1 (qp c)=0:=by
   by_cases e:gO h.s (aT h.g v) false b (iy h a).1 (qp c)=0
   ·exact e
   ·have:(gO h.s (aT h.g v) false b (iy h a).1 (qp c) != 0)=true:=by simpa using e
    exact absurd (this.symm.trans d8) (by decide)
  have hh:gF h v a b c=fk h v a b c:=by rw[Fc,if_pos (by rw[hE];exact d8)]
  refine⟨rfl,rfl,ag.of _ (S.fu (X:=X) (A:=A) (g:=h.g) (mem (T:=[_, _, _])) (n:=1) rfl) (S.pref (iy h a).1 1 (by decide) fun w9 S=>⟨rfl,rfl,⟨rfl,by omega,by show v<((17:Nat):Int);omega⟩,?_⟩)⟩
  rw[hE,hh,d8] at kk
  have hn:=hnew x hx d8
  obtain⟨g1, _,g3, _⟩:=S.qx (X:=X) (A:=A) (g:=h.g) (mem (T:=[_, _, _])) (yY (T:=[_, _, _])) hl
  refine ag.of _ g1 ⟨rfl,rfl,ag.of _ g3 fun lE Ac=>?_⟩
  exact R3 W hx hv uo tX hn yZ BN rfl ((J S).ext Ac) kk
theorem OU (H:bJ Q X D G w0 w h L) {v:Int} (hl:aD h.g v=true) (k:Int) {a b c:Int} (ha:0<=a) (hb:0<=b) (hc:0<=c) (hnew: ∀x,h.g v.toNat=some x->gO h.s (aT h.g v) false b (iy h a).1 (qp c)=0->a9 x.tk b=none)
 (kk: ∀w2,bJ Q X D G w0 w2 (gF h v a b c) L->K (0,jv h v a b c,()) w2):
 an Tryz.prog 98 (.el (.agg gw)) [.pointer (some ⟨X.hb,0,none⟩),.int .i64 v,.agg ⟨fi k a b c⟩] w K:=by
 obtain⟨A,W,H⟩:=H
 obtain⟨G',S,J⟩:=H.call
 obtain⟨x,hx,sS,hv,uo,tX⟩:=bG hl
 refine aL (C:=V0) (aJ:=fun _=>[]) (Eq.mpr (GO _ v k a b c w K) ?_)
 have bad: ∀e,e≠0->kE h v a b c=e->jv h v a b c=e-> ∀{w2},bJ Q X D G w0 w2 h L->K (0,e,()) w2:=fun e he h1 h2 w2 H=>by
  have e2:gF h v a b c=h:=if_pos (by rw[h1];exact he)
  rw[h2,e2] at kk
  exact kk w2 H
 have hP:kE h v a b c=if b>=65536 then 2 else if a>=16\/c>1 then 1 else if(jR h.gr a).isSome=false then 4
  else if(iY h a).2.2.1≠v\/(c=1/\(iY h a).2.2.2.1=false) then 7 else if(iy h a).2.2.1≠0 then 4 else if cI h (iY h a).1 (iY h a).2.1=true then 7 else e_ h.gr a v (c==1):=rfl
 have hE:jv h v a b c=if b>=65536 then 2 else if a>=16\/c>1 then 1 else if(jR h.gr a).isSome=false then 4
  else if(iY h a).2.2.1≠v\/(c=1/\(iY h a).2.2.2.1=false) then 7 else if(iy h a).2.2.1≠0 then 4 else if cI h (iY h a).1 (iY h a).2.1=true then 7
  else if e_ h.gr a v (c==1)≠0 then e_ h.gr a v (c==1) else gO h.s (aT h.g v) false b (iy h a).1 (qp c):=rfl
 refine S.al fun ba w2 S=>S.al fun b1 w3 S=>⟨rfl,S.bu 1 rfl rfl ?_⟩
 refine aa (fun d=>⟨trivial,S.res (j:=0) rfl 0 _ fun w4 S=>?_⟩) (fun d=>⟨rfl,S.bu 1 rfl rfl ⟨fun _=>rfl,S.bu 1 rfl rfl ?_⟩⟩)
 ·have d:b>=65536:=by simpa using d
  rw[if_pos d] at hP hE
  exact bad 2 (by decide) hP hE ⟨A,W,J S.tail.tail⟩
 have d: ¬ b>=65536:=by simpa using d
 rw[if_neg d] at hP hE
 refine aa (fun d1=>⟨trivial,S.res (j:=0) rfl 0 _ fun w4 S=>?_⟩) (fun d1=>⟨rfl,S.bu 1 rfl rfl ⟨rfl,S.bu 1 rfl rfl ⟨rfl,S.bu 1 rfl rfl ⟨rfl,rfl,?_⟩⟩⟩⟩)
 ·have d1:a>=16\/c>1:=by simpa using d1
  rw[if_pos d1] at hP hE
  exact bad 1 (by decide) hP hE ⟨A,W,J S.tail.tail⟩
 have d1: ¬ (a>=16\/c>1):=by
  intro e
  have:(decide (a>=16)||decide (c>1))=true:=by simpa using e
  rw[this] at d1;cases d1
 rw[if_neg d1] at hP hE
 have ea:ax .i64 a=a:=bI ⟨ha,by omega⟩
 have eb:ax .i64 b=b:=bI ⟨hb,by omega⟩
 rw[ea,eb]
 refine ag.of _ (S.fu (X:=X) (A:=A) (g:=h.g) (by simp) (n:=2) rfl) ⟨(uc h.gr a,(jR h.gr a).isSome,()),S.TH 3 4 rfl rfl (by rw[W.gl];decide) a,S.al fun b2 w4 S=>S.cC 0 rfl rfl rfl fun w5 S=>?_⟩
 refine aa (fun d2=>⟨trivial,S.res (j:=1) rfl 0 _ fun w6 S=>?_⟩) (fun d2=>⟨rfl,S.bu 0 rfl rfl ⟨fun _=>rfl,S.bu 0 rfl rfl ?_⟩⟩)
 ·have d2:(jR h.gr a).isSome=false:=by simpa using d2
  rw[if_pos d2] at hP hE
  exact bad 4 (by decide) hP hE ⟨A,W,J S.tail.tail.tail⟩
 have d2: ¬ (jR h.gr a).isSome=false:=by
  have d2:(!(jR h.gr a).isSome)=false:=d2
  intro e;rw[e] at d2;cases d2
 rw[if_neg d2] at hP hE
 refine aa (fun d3=>⟨trivial,S.res (j:=1) rfl 0 _ fun w6 S=>?_⟩) (fun d3=>⟨rfl,S.bu 0 rfl rfl ⟨rfl,S.bu 0 rfl rfl ?_⟩⟩)
 ·have d3:(iY h a).2.2.1≠v\/(c=1/\(iY h a).2.2.2.1=false):=by
   have d3:((iY h a).2.2.1 != v||c==1&& !(iY h a).2.2.2.1)=true:=d3
   simpa using d3
  rw[if_pos d3] at hP hE
  exact bad 7 (by decide) hP hE ⟨A,W,J S.tail.tail.tail⟩
 have d3: ¬ ((iY h a).2.2.1≠v\/(c=1/\(iY h a).2.2.2.1=false)):=by
  intro e
  have:((iY h a).2.2.1 != v||c==1&& !(iY h a).2.2.2.1)=true:=by simpa using e
  exact absurd (this.symm.trans d3) (by decide)
 rw[if_neg d3] at hP hE
 refine ot S (X:=X) (A:=A) (g:=h.g) (by simp) (a7 W [_, _, _]) (iY h a).1 (iY h a).2.1 fun w6 S=>?_
 refine aa (fun d4=>⟨trivial,S.res (j:=1) rfl 0 _ fun w7 S=>?_⟩) (fun d4=>⟨rfl,S.bu 0 rfl rfl ⟨rfl,S.bu 0 rfl rfl ?_⟩⟩)
 ·have d4:(iy h a).2.2.1≠0:=by
   have d4:((iy h a).2.2.1 != 0)=true:=d4
   simpa using d4
  rw[if_pos d4] at hP hE
  exact bad 4 (by decide) hP hE ⟨A,W,J S.tail.tail.tail⟩
 have d4: ¬ (iy h a).2.2.1≠0:=by
  intro e
  have:((iy h a).2.2.1 != 0)=true:=by simpa using e
  exact absurd (this.symm.trans d4) (by decide)
 rw[if_neg d4] at hP hE
 refine⟨dH h.g (iY h a).1 (iY h a).2.1,k_ (J S) (X:=X) (A:=A) (g:=h.g) (by simp) (a7 W [_, _, _]) (eK W) (fun i x hx=>W.mp hx) _ _,?_⟩
 refine aa (fun d5=>⟨trivial,S.res (j:=1) rfl 0 _ fun w7 S=>?_⟩) (fun d5=>⟨rfl,rfl,?_⟩)
 ·have d5:cI h (iY h a).1 (iY h a).2.1=true:=d5
  rw[if_pos d5] at hP hE
  exact bad 7 (by decide) hP hE ⟨A,W,J S.tail.tail.tail⟩
 have d5: ¬ cI h (iY h a).1 (iY h a).2.1=true:=by
  have d5:cI h (iY h a).1 (iY h a).2.1=false:=d5
  rw[d5];decide
 rw[if_neg d5] at hP hE
 refine ag.of _ (S.fu (X:=X) (A:=A) (g:=h.g) (by simp) (n:=2) rfl) (S.Uy 4 5 rfl rfl (by rw[W.gl];decide) W.gk.use a v (c==1) fun w7 S=>?_)
 have yZ:(cT h.gr a v (c==1)).length=h.gr.length:=He _ _ _ _
 obtain⟨h1,BN⟩: ∃h1,h1=kT h (cT h.gr a v (c==1)):=⟨_,rfl⟩
 have MO:h1.g=h.g:=by rw[BN];rfl
 have PV:h1.s=h.s:=by rw[BN];rfl
 have W1:zW A h1:=by rw[BN];exact⟨W.dom,W.mp,yZ.trans W.gl,W.pt,W.gk.take _ _ _⟩
 have S:aU Q [] G' w w7 h.s ((b2,[.int .i64 (iY h a).1,.int .i64 (iY h a).2.1,.int .i64 (iY h a).2.2.1,.bool (iY h a).2.2.2.1,.int .i64 (iY h a).2.2.2.2.1])::(b1,[.int .u64 0,.int .i64 0])::(ba,fi k a b c)::dF Q X A h1 (aR Q A h.g (List.range 17)++L)):=by
  rw[BN]
  show aU Q [] G' w w7 h.s (_:: _:: _::(X.hb,hcs Q X A h.g)::(X.gb,j_ X.rP (cT h.gr a v (c==1)).length X.c):: _)
  rw[yZ]
  exact S
 refine aa (fun d6=>⟨trivial,S.res (j:=1) rfl 0 _ fun w8 S=>?_⟩) (fun d6=>?_)
 ·have d6:e_ h.gr a v (c==1)≠0:=by simpa using d6
  rw[if_pos d6] at hE
  have e1:cT h.gr a v (c==1)=h.gr:=if_neg d6
  have e2:h1=h:=by rw[BN,e1];rfl
  rw[e2] at S
  exact bad _ d6 hP hE ⟨A,W,J S.tail.tail.tail⟩
 have d6: ¬ e_ h.gr a v (c==1)≠0:=by
  intro e
  have:(e_ h.gr a v (c==1) != 0)=true:=by simpa using e
  exact absurd (this.symm.trans d6) (by decide)
 rw[if_neg d6] at hE
 have Fc:gF h v a b c=if jv h v a b c=0 then fk h v a b c else xE h v a b c:=if_neg (by rw[hP];exact d6)
 have mem: ∀{T:List (Nat×List Value)},(X.hb,hcs Q X A h.g)∈T++dF Q X A h1 (aR Q A h.g (List.range 17)++L):=fun{T}=>List.mem_append_right T (by rw[BN];exact List.mem_cons_self)
 have yY: ∀{T:List (Nat×List Value)}, ∀i v,h.g i=some v-> ∀x∈fZ Q A i v,x∈T++dF Q X A h1 (aR Q A h.g (List.range 17)++L):=fun{T} i v hv x hx=>by
  have:=a7 (Q:=Q) (X:=X) (L:=L) W1 T i v (by rw[MO];exact hv) x hx
  rw[MO] at this
  exact this
 have hq:=Bb h.g h.s (iY h a).1 (iY h a).2.1
 refine aa (fun d7=>⟨rfl,rfl,⟨rfl,by omega,by show v<((17:Nat):Int);omega⟩,?_⟩) (fun d7=>⟨rfl,rfl,⟨rfl,by omega,by show v<((17:Nat):Int);omega⟩,?_⟩)
 ·have hR:(PM .i64 1 2)=qp c:=by
   unfold qp
   rw[if_pos (by simpa using d7)];decide
  obtain⟨g1,g2,g3,j,hj⟩:=S.qx (X:=X) (A:=A) (g:=h.g) (mem (T:=[_, _, _])) (yY (T:=[_, _, _])) hl
  refine ag.of _ g1 ⟨rfl,rfl,ag.of _ g2 ?_⟩
  have T:=EB W hx hv uo tX hl hnew yZ BN W1 J S hE Fc kk
  rw[<-hR] at T
  exact T
 ·have hR:(1:Int)=qp c:=by
   unfold qp
   rw[if_neg (by simpa using d7)]
  obtain⟨g1,g2,g3,j,hj⟩:=S.qx (X:=X) (A:=A) (g:=h.g) (mem (T:=[_, _, _])) (yY (T:=[_, _, _])) hl
  refine ag.of _ g1 ⟨rfl,rfl,ag.of _ g2 ?_⟩
  have T:=EB W hx hv uo tX hl hnew yZ BN W1 J S hE Fc kk
  rw[<-hR] at T
  exact T
end
end Go.Proofs.YtdnoecpjcoibmaaGreat
namespace Go.Proofs.YtdnoecpjcoibmaaGreat
set_option maxRecDepth 100000
open Go.RX D
def wR (l:List Int):Int:=l.foldl (fun m x=>jb m x) 65536
theorem uB (a b:Int):jb a b<=a/\jb a b<=b/\(jb a b=a\/jb a b=b):=by
 unfold jb;split<;>omega
theorem vE: ∀(l:List Int) (m:Int),l.foldl (fun m x=>jb m x) m<=m/\(∀x∈l,l.foldl (fun m x=>jb m x) m<=x)/\(l.foldl (fun m x=>jb m x) m=m\/l.foldl (fun m x=>jb m x) m∈l)
 |[],m=>⟨Int.le_refl _,fun x hx=>(by cases hx),.inl rfl⟩
 |y::l,m=>by
  obtain⟨h1,h2,h3⟩:=vE l (jb m y)
  obtain⟨k1,k2,k3⟩:=uB m y
  rw[List.foldl_cons]
  refine⟨Int.le_trans h1 k1,fun x hx=>?_,?_⟩
  ·rcases List.mem_cons.1 hx with rfl|hx
   ·exact Int.le_trans h1 k2
   ·exact h2 x hx
  ·rcases h3 with h3|h3
   ·rcases k3 with k|k
    ·exact .inl (h3.trans k)
    ·exact .inr (List.mem_cons.2 (.inl (h3.trans k)))
   ·exact .inr (List.mem_cons_of_mem _ h3)
theorem Hf {l:List Int} {m:Int} (h1:m<=65536) (h2: ∀x∈l,m<=x) (h3:m=65536\/m∈l):m=wR l:=by
 obtain⟨k1,k2,k3⟩:=vE l 65536
 unfold wR
 rcases h3 with h3|h3
 ·rcases k3 with k3|k3
  ·omega
  ·have:=h2 _ k3;omega
 ·have:=k2 _ h3
  rcases k3 with k3|k3
  ·omega
  ·have:=h2 _ k3;omega
theorem Hg {es:List MapEntry} {e:MapEntry} (he:e∈es) (seen:Array Nat) (hs:seen.contains e.born=false):
 (es.filter fun x=> !(seen.push e.born).contains x.born).length<(es.filter fun x=> !seen.contains x.born).length:=by
 induction es with
 |nil=>cases he
 |cons y es ih=>
  have mono: ∀l:List MapEntry,(l.filter fun x=> !(seen.push e.born).contains x.born).length<=(l.filter fun x=> !seen.contains x.born).length:=fun l=>by
   rw[<-List.countP_eq_length_filter, <-List.countP_eq_length_filter]
   refine List.countP_mono_left fun x _ hx=>?_
   simp only[Array.contains_push,Bool.not_eq_true',Bool.or_eq_false_iff] at hx ⊢
   simp_all
  rcases List.mem_cons.1 he with rfl|he
  ·rw[List.filter_cons_of_neg (by simp),List.filter_cons_of_pos (by simpa using hs)]
   have:=mono es
   simp only[List.length_cons];omega
  ·have:=ih he
   rw[List.filter_cons,List.filter_cons]
   by_cases h1:(!(seen.push e.born).contains y.born)=true
   ·have h2:(!seen.contains y.born)=true:=by
     simp only[Array.contains_push,Bool.not_eq_true',Bool.or_eq_false_iff] at h1 ⊢
     simp_all
    rw[if_pos h1,if_pos h2]
    simp only[List.length_cons];omega
   ·rw[if_neg h1]
    split
    ·simp only[List.length_cons];omega
    ·exact this
section
variable {Q:Sys} {X:HX} {D G:List Nat} {w0 w:World} {s:WD} {L0:List (Nat×List Value)} {M:List (Nat×Obj)} {es:List MapEntry} {ck bm bg:Nat} {pt:Option Addr} {tk:List TK}
theorem Hh (H:SM Q D G w0 w s L0 M) (hr:(bg,[.pointer pt,.map (some bm)])∈L0) (hm:(bm,Obj.map ⟨es⟩ ck)∈M) (hM:oG es ck tk) {K:Int->World->Prop} (kk: ∀w2,SM Q D G w0 w2 s L0 M->K (wR (tk.map (·.1))) w2):
 az Tryz.prog 151 (.el (.one (.int .i64))) [.pointer (some ⟨bg,0,none⟩)] w K:=by
 obtain⟨⟨p,hp,he⟩,jQ,hlt, _⟩:=hM
 have hkey: ∀e∈es, ∃t∈tk,e.key= .int .i64 t.1:=fun e hee=>by
  have:(e.key,e.val)∈p.map uf:=by rw[<-he];exact List.mem_map.2 ⟨e,hee,rfl⟩
  obtain⟨t,ht,Wd⟩:=List.mem_map.1 this
  exact⟨t,hp.mem_iff.1 ht,(congrArg (·.1) Wd).symm⟩
 have hall: ∀t∈tk, ∃e∈es,e.key= .int .i64 t.1:=fun t ht=>by
  have:uf t∈es.map fun e=>(e.key,e.val):=by rw[he];exact List.mem_map.2 ⟨t,hp.mem_iff.2 ht,rfl⟩
  obtain⟨e,hee,Wd⟩:=List.mem_map.1 this
  exact⟨e,hee,congrArg (·.1) Wd⟩
 refine H.go fun w1 H=>ai (C:=V0) (aJ:=oZ) (Eq.mpr (GL _ w1 K) ?_)
 obtain⟨j,hj⟩:=List.getElem?_of_mem hr
 refine⟨rfl,rfl,H.base.bu j hj rfl fun w2 h2=>?_⟩
 have H:=H.ext h2
 have hmo:bA w2 bm ⟨es⟩ ck:=H.get hm
 refine⟨_, _, _,rfl,hmo,?_⟩
 have H:=H.alloc (o:= .mapIter (some bm) ck #[] ck) trivial
 obtain⟨b,hb⟩: ∃b,b=w2.heap.size:=⟨_,rfl⟩
 rw[<-hb] at H ⊢
 refine⟨fun n q w'=> ∃seen:Array Nat,SM Q D G w0 w' s L0 ((b,.mapIter (some bm) ck seen ck)::M)/\n=(es.filter fun x=> !seen.contains x.born).length/\q.1<=65536/\(∀e∈es, ∀x,e.key= .int .i64 x->seen.contains e.born=true->q.1<=x)/\(q.1=65536\/q.1∈tk.map (·.1)),⟨_,fun w3 h3=>⟨#[],H.ext h3,rfl,Int.le_refl _,fun e _ x _ hs=>(by simp at hs),.inl rfl⟩⟩,?_⟩
 clear H
 rintro n ⟨q,u⟩ w3 ⟨seen,H,hn,h1,h2,h3⟩
 dsimp only at h1 h2 h3 ⊢
 intro w4 h4
 have H:=H.ext h4
 refine⟨b,bm,ck,seen,ck,⟨es⟩,ck,rfl,H.get List.mem_cons_self,H.get (List.mem_cons_of_mem _ hm),Nat.le_refl _,hlt,fun hs w5 h5=>?_,fun e hee hs w5 h5=>?_⟩
 ·refine(H.ext h5).en fun w6 H=>?_
  have e1:q=wR (tk.map (·.1)):=Hf h1 (fun x hx=>by
   obtain⟨t,ht,rfl⟩:=List.mem_map.1 hx
   obtain⟨e,Qn,ZB⟩:=hall t ht
   exact h2 e Qn _ ZB (hs e Qn)) h3
  rw[e1]
  exact kk w6 (H.Fh (List.sublist_cons_self _ _))
 ·have hee:e∈es:=hee
  obtain⟨t,ht,hk⟩:=hkey e hee
  have H:=(H.ext h5).put (i:=0) rfl (o':= .mapIter (some bm) ck (seen.push e.born) ck) trivial
  refine⟨t.1,e.val,⟨b,bm,ck,seen,⟨es⟩,ck,e,rfl,H.get List.mem_cons_self,H.get (List.mem_cons_of_mem _ hm),hee,jQ,hk.symm,rfl⟩,fun w6 h6=>?_⟩
  refine⟨_,?_,seen.push e.born,H.ext h6,rfl,?_,?_,?_⟩
  ·rw[hn];exact Hg hee seen hs
  ·have:=uB q t.1;omega
  ·intro e' he' x hx hs'
   have X2:=uB q t.1
   by_cases h:seen.contains e'.born=true
   ·have:=h2 e' he' x hx h
    show jb q t.1<=x
    omega
   ·have hb':e'.born=e.born:=by
     rw[Array.contains_push] at hs'
     simp_all
    have Xe:e'=e:=by
     obtain⟨i,hi⟩:=List.getElem?_of_mem he'
     obtain⟨j,hj⟩:=List.getElem?_of_mem hee
     have hi1:(es.map (·.born))[i]? =some e.born:=by rw[List.getElem?_map,hi];exact congrArg some hb'
     have wF:(es.map (·.born))[j]? =some e.born:=by rw[List.getElem?_map,hj];rfl
     have:=(List.getElem?_inj (by rw[List.length_map];exact(List.getElem?_eq_some_iff.1 hi).1) jQ).1 (hi1.trans wF.symm)
     subst this
     rw[hi] at hj
     cases hj;rfl
    subst Xe
    rw[hk] at hx
    cases hx
    show jb q t.1<=t.1
    exact X2.2.1
  ·rcases(uB q t.1).2.2 with e1|e1
   ·show jb q t.1=65536\/ _
    rw[e1];exact h3
   ·show jb q t.1=65536\/jb q t.1∈ _
    rw[e1];exact .inr (List.mem_map.2 ⟨t,ht,rfl⟩)
end
end Go.Proofs.YtdnoecpjcoibmaaGreat
namespace Go.Proofs.YtdnoecpjcoibmaaGreat
set_option maxRecDepth 100000
open Go.RX D
def kV (g:Nat->Option GV):Option Nat:=((List.range 16).find? fun i=>(g (i+1)).isNone).map (· +1)
theorem wk {g:Nat->Option GV} {v:Nat}:kV g=some v<->(1<=v/\v<=16)/\g v=none/\ ∀u,1<=u->u<v->(g u).isSome:=by
 unfold kV
 rw[Option.map_eq_some_iff]
 constructor
 ·rintro⟨i,hi,rfl⟩
  rw[List.find?_range_eq_some] at hi
  obtain⟨h1,h2,h3⟩:=hi
  rw[List.mem_range] at h2
  refine⟨by omega,by simpa using h1,fun u u1 u2=>?_⟩
  have:=h3 (u - 1) (by omega)
  rw[show u - 1+1=u by omega] at this
  simpa using this
 ·rintro⟨h1,h2,h3⟩
  refine⟨v - 1,?_,by omega⟩
  rw[List.find?_range_eq_some]
  refine⟨by rw[show v - 1+1=v by omega,h2];rfl,List.mem_range.2 (by omega),fun j hj=>?_⟩
  have:=h3 (j+1) (by omega) (by omega)
  simpa using this
theorem Dl {g:Nat->Option GV}:kV g=none<-> ∀u,1<=u->u<=16->(g u).isSome:=by
 unfold kV
 rw[Option.map_eq_none_iff,List.find?_eq_none]
 constructor
 ·intro h u u1 u2
  have:=h (u - 1) (List.mem_range.2 (by omega))
  rw[show u - 1+1=u by omega] at this
  cases hg:g u with
  |none=>rw[hg] at this;exact absurd rfl this
  |some x=>rfl
 ·intro h i hi e
  have:=h (i+1) (by omega) (by have:=List.mem_range.1 hi;omega)
  rw[Option.isNone_iff_eq_none.1 e] at this
  cases this
def m9 (h:HS):Int:=match kV h.g with
 |none=>3
 |some v=>pq h.s (v:Int)
def DV (h:HS):Int:=match kV h.g with
 |none=>0
 |some v=>(v:Int)
def gU (h:HS):HS:=match kV h.g with
 |none=>h
 |some v=>if pq h.s (v:Int)=0 then{h with s:=gM h.s (v:Int) fun _=>0,g:=aS h.g v (some ⟨dL h.s (v:Int),[]⟩)} else h
theorem mb (A:Nat->GA) (g:Nat->Option GV):(kC A g).length=17:=by
 unfold kC;rw[List.length_map,List.length_range]
theorem EC (Q:Sys) (X:HX) (A:Nat->GA) (g:Nat->Option GV):(hcs Q X A g).length=21:=by
 unfold hcs;rw[List.length_append,mb];rfl
theorem ED {Q:Sys} {X:HX} {A A':Nat->GA} {g g':Nat->Option GV} {v:Nat} (hv:v<17) (h: ∀j,j≠v->A' j=A j/\g' j=g j):(hcs Q X A g).set (4+v*1) (.pointer (jh A' g' v))=hcs Q X A' g':=by
 have e:(kC A g).set v (.pointer (jh A' g' v))=kC A' g':=by
  apply List.ext_getElem?
  intro i
  by_cases hi:i<17
  ·rw[sB hi]
   by_cases e:v=i
   ·subst e
    rw[List.getElem?_set_self (by rw[mb];exact hi)]
   ·rw[List.getElem?_set_ne e,sB hi]
    obtain⟨h1,h2⟩:=h i (fun e'=>e e'.symm)
    unfold jh
    rw[h1,h2]
  ·rw[List.getElem?_eq_none (by rw[List.length_set,mb];omega),List.getElem?_eq_none (by rw[mb];omega)]
 unfold hcs
 rw[List.set_append_right _ _ (by show 4<=4+v*1;omega)]
 rw[<-e]
 show _++(kC A g).set (4+v*1 - 4) _= _
 rw[show 4+v*1 - 4=v by omega]
section
variable {Q:Sys} {X:HX} {D G:List Nat} {w0 w:World} {h:HS} {L:List (Nat×List Value)} {K:RS->World->Prop}
theorem UG {A:Nat->GA} (W:zW A h) {v:Nat} (hv:1<=v/\v<=16) (hn:h.g v=none) {s':WD} {r:Int} {bg bt bm b1 ba:Nat} {l1 la:List Value} {w7:World}
 (H:SM Q D G w0 w7 s' ((bg,[.pointer (some ⟨bt,0,none⟩),.map (some bm)])::(bt,mQ Q (v:Int) r false)::(b1,l1)::(ba,la)::(X.hb,(hcs Q X A h.g).set (4+v*1) (.pointer (some ⟨bg,0,none⟩)))::(X.gb,j_ X.rP h.gr.length X.c)::(X.rP,flat eG h.gr++X.rest)::(X.pb,Po.fL 4 h.po)::(aR Q A h.g (List.range 17)++L)) ((bm,.map #[] 0)::dW A h.g (List.range 17))):
 bJ Q X D G w0 w7 {h with s:=s',g:=aS h.g v (some ⟨r,[]⟩)} L:=by
 have Qo:=yl A h.g v ⟨bg,bt,bm,0,[]⟩ (some ⟨r,[]⟩)
 have We:jh (mL A v ⟨bg,bt,bm,0,[]⟩) (aS h.g v (some ⟨r,[]⟩)) v=some ⟨bg,0,none⟩:=by
  unfold jh;rw[eJ,ou]
 refine⟨mL A v ⟨bg,bt,bm,0,[]⟩,⟨fun{i x} hx=>?_,fun{i x} hx=>?_,W.gl,W.pt,W.gk⟩,?_⟩
 ·have hx:aS h.g v (some ⟨r,[]⟩) i=some x:=hx
  unfold aS at hx
  by_cases e:i=v
  ·omega
  ·rw[if_neg e] at hx;exact W.dom hx
 ·have hx:aS h.g v (some ⟨r,[]⟩) i=some x:=hx
  unfold aS at hx
  unfold mL
  by_cases e:i=v
  ·rw[if_pos e] at hx ⊢
   cases hx
   exact oG.nil
  ·rw[if_neg e] at hx ⊢
   exact W.mp hx
 ·have IF:=ED (Q:=Q) (X:=X) (by omega:v<17) Qo
  rw[We] at IF
  rw[IF] at H
  refine((H.sub ((((List.sublist_cons_self _ _).trans (List.sublist_cons_self _ _)).cons_cons _).cons_cons _)).perm ?_).u5 ?_
  ·have p1:(aR Q (mL A v ⟨bg,bt,bm,0,[]⟩) (aS h.g v (some ⟨r,[]⟩)) (List.range 17)).Perm ([(bg,[.pointer (some ⟨bt,0,none⟩),.map (some bm)]),(bt,mQ Q (v:Int) r false)]++aR Q A h.g (List.range 17)):=by
    have q1:=tP (Q:=Q) (A:=mL A v ⟨bg,bt,bm,0,[]⟩) (by omega:v<17) (eJ h.g v (some ⟨r,[]⟩))
    rw[tR Qo] at q1
    have q2:=(wj (Q:=Q) (A:=A) (by omega:v<17) hn).symm
    have e:fZ Q (mL A v ⟨bg,bt,bm,0,[]⟩) v ⟨r,[]⟩=[(bg,[.pointer (some ⟨bt,0,none⟩),.map (some bm)]),(bt,mQ Q (v:Int) r false)]:=by
     unfold fZ;rw[ou]
    rw[e] at q1
    exact q1.trans (q2.append_left _)
   refine(((((p1.append_right L).cons _).cons _).cons _).cons _).trans ?_
   exact(List.perm_append_comm (l₁:=[_, _, _, _]) (l₂:=[_, _])).append_right (aR Q A h.g (List.range 17)++L)
  ·have q1:=j9 (A:=mL A v ⟨bg,bt,bm,0,[]⟩) (by omega:v<17) (eJ h.g v (some ⟨r,[]⟩))
   rw[nJ Qo,ou] at q1
   exact q1.trans ((wh (A:=A) (by omega:v<17) hn).symm.cons _)
theorem Hi (H:bJ Q X D G w0 w h L) (hsz: ¬ (h.s.1.length:Int)<16*(h.s.2.length:Int)) (v k a b c:Int) (kk: ∀V w2,(m9 h=0->V=DV h)->bJ Q X D G w0 w2 (gU h) L->K (V,m9 h,()) w2):
 an Tryz.prog 89 (.el (.agg gw)) [.pointer (some ⟨X.hb,0,none⟩),.int .i64 v,.agg ⟨fi k a b c⟩] w K:=by
 obtain⟨A,W,H⟩:=H
 obtain⟨G',S,J⟩:=H.call
 refine aL (C:=V0) (aJ:=mE) (Eq.mpr (Bu _ v k a b c w K) ?_)
 refine S.al fun ba w2 S=>S.al fun b1 w3 S=>?_
 refine⟨fun n q w'=>(1<=q.1/\q.1<=17/\(n:Int)=17 - q.1)/\(∀u:Nat,1<=u->(u:Int)<q.1->(h.g u).isSome)/\aU Q [] G' w w' h.s ((b1,[.int .u64 0,.int .i64 0])::(ba,fi k a b c)::dF Q X A h (aR Q A h.g (List.range 17)++L)),⟨16,fun w4 h4=>⟨by decide,fun u u1 u2=>(by dsimp only at u2;omega),S.ext h4⟩⟩,?_⟩
 clear S
 rintro n ⟨q,u⟩ w4 ⟨⟨q1,q2,hq⟩,DW,S⟩
 dsimp only at q1 q2 hq DW ⊢
 obtain⟨i,hi⟩: ∃i:Nat,q=(i:Int):=⟨q.toNat,by omega⟩
 subst hi
 rw[show((i:Int)).toNat=i from rfl]
 refine aa (fun d=>?_) (fun d=>⟨trivial,S.res (j:=0) rfl 0 3 fun w5 S=>?_⟩)
 ·have d:(i:Int)<=16:=by simpa using d
  have hc:=S.hcell (X:=X) (A:=A) (g:=h.g) (List.mem_cons_of_mem _ (List.mem_cons_of_mem _ List.mem_cons_self)) (v:=(i:Int)) ⟨by omega,d⟩
  rw[show((i:Int)).toNat=i from rfl] at hc
  refine⟨rfl,rfl,⟨rfl,by omega,by show(i:Int)<((17:Nat):Int);omega⟩,ag.of _ hc ?_⟩
  unfold jh
  cases hg:h.g i with
  |some y=>
   refine ay rfl fun w5 h5=>⟨n - 1,by omega,⟨?_,?_,?_⟩,fun u u1 u2=>?_,S.ext h5⟩
   ·rw[ar (by omega) (by omega)];omega
   ·rw[ar (by omega) (by omega)];omega
   ·rw[ar (by omega) (by omega)];omega
   ·rw[ar (by omega) (by omega)] at u2
    by_cases e:u=i
    ·subst e;rw[hg];rfl
    ·exact DW u u1 (by omega)
  |none=>
   have hF:kV h.g=some i:=wk.2 ⟨by omega,hg,fun u u1 u2=>DW u u1 (by omega)⟩
   have cE:m9 h=pq h.s (i:Int):=by unfold m9;rw[hF]
   have cV:DV h=(i:Int):=by unfold DV;rw[hF]
   have cS:gU h=if pq h.s (i:Int)=0 then{h with s:=gM h.s (i:Int) fun _=>0,g:=aS h.g i (some ⟨dL h.s (i:Int),[]⟩)} else h:=by unfold gU;rw[hF]
   have eu:ax .u64 (i:Int)=(i:Int):=cJ ⟨by omega,by omega⟩
   rw[cE,cV,cS] at kk
   refine ak rfl ⟨rfl,rfl,ag.of _ (S.fu (X:=X) (A:=A) (g:=h.g) (by simp) (n:=0) rfl) ⟨rfl,rfl,ag.of _ (S.fu (X:=X) (A:=A) (g:=h.g) (by simp) (n:=1) rfl) ?_⟩⟩
   refine S.new (i:Int) (fun e=>absurd e hsz) (fun _ e1 w5 S=>?_) (fun _ e1 bt w5 S=>?_)
   ·rw[if_neg e1] at kk
    refine ak (by simpa using e1) (S.res (j:=0) rfl _ _ fun w6 S=>kk _ w6 (fun e=>absurd e e1) ⟨A,W,J ?_⟩)
    rw[Eu e1] at S
    exact S.tail.tail
   ·rw[if_pos e1,e1] at kk
    refine ay rfl fun w6 h6=>?_
    have H:=((J S).ext h6).alloc (o:= .map #[] 0) trivial
    obtain⟨bm,Pb⟩: ∃bm,bm=w6.heap.size:=⟨_,rfl⟩
    rw[<-Pb] at H ⊢
    obtain⟨G2,S,J2⟩:=H.call
    refine S.al fun bg w7 S=>⟨rfl,rfl,⟨rfl,by omega,by show(i:Int)<((17:Nat):Int);omega⟩,?_⟩
    rw[aK]
    refine S.lR 4 rfl rfl (by rw[Nat.blt_eq,EC];omega) fun w8 S=>S.res (j:=2) rfl _ _ fun w9 S=>kk _ w9 (fun _=>eu) (UG (bg:=bg) (bt:=bt) (bm:=bm) W (by omega) hg (J2 S))
 ·have d: ¬ (i:Int)<=16:=by simpa using d
  have hF:kV h.g=none:=Dl.2 fun u u1 u2=>DW u u1 (by omega)
  have cE:m9 h=3:=by unfold m9;rw[hF]
  have cS:gU h=h:=by unfold gU;rw[hF]
  rw[cE,cS] at kk
  exact kk _ w5 (fun e=>absurd e (by decide)) ⟨A,W,J S.tail.tail⟩
end
end Go.Proofs.YtdnoecpjcoibmaaGreat
namespace Go.Proofs.YtdnoecpjcoibmaaGreat
set_option maxRecDepth 100000
open Go.RX D
theorem EE (s:WD) (o:Int) (G:Int->Int):(gM s o G).1.length=s.1.length:=by
 unfold gM;dsimp only;split
 ·exact fV _ _ _ _
 ·rfl
theorem qX (s:WD) (o r p:Int):(eY s o r p).1.length=s.1.length:=by
 unfold eY;split
 ·rfl
 ·split
  ·exact uz _ _ _ _ _
  ·exact EE _ _ _
theorem yp: ∀(l:List PT) (s:WD),(ij l s).1.length=s.1.length
 |[],s=>rfl
 |[x],s=>rfl
 |x::y::l,s=>by
  rw[ij]
  split
  ·rw[yp (y::l)];exact cu _ _ _
  ·rfl
theorem qY (s:WD) (o r:Int) (gone:Bool) (p:Int):(lK s o r gone p).1.length=s.1.length:=by
 unfold lK;split
 ·split
  ·rw[yp]
   show(cH _ _ _).length= _
   rw[cu,qX]
  ·exact qX _ _ _ _
 ·rfl
def rS (h:HS) (v:Int):List TK:=match h.g v.toNat with|some x=>x.tk|none=>[]
def AA (v:Int) (h:HS):HS:=cM h v (wR ((rS h v).map (·.1))) (H_ h v (wR ((rS h v).map (·.1)))).1 (H_ h v (wR ((rS h v).map (·.1)))).2
def eR (v:Int):Nat->HS->HS
 |0,h=>h
 |n+1,h=>eR v n (AA v h)
def mA (ds:List DT) (v:Int):Bool:=(fJ ds v).any fun i=>decide ((oJ ds (i:Int)).2.2.1>0)
def rU (v:Int) (x:List DT×Int) (i:Nat):List DT×Int:=if(oJ x.1 (i:Int)).1=4 then(fQ x.1 (i:Int) (aE 5 v),x.2+1) else x
def y6 (ds:List DT) (v:Int):List DT×Int:=(fJ ds v).foldl (rU v) (ds,0)
def jF (h:HS) (v:Int):HS where
 s:=((bV h.s (aT h.g v) false).1,(y6 (bV h.s (aT h.g v) false).2 v).1)
 g:=aS h.g v.toNat none
 gr:=cn h.gr v
 po:=(Po.bV 4 h.po v).2
def Cb (h:HS) (a:Int):Int:=if aD h.g a=true then(if mA h.s.2 a=true then 9 else 0) else 4
def mT (h:HS) (a:Int):HS:=if aD h.g a=true then(if mA h.s.2 a=true then h else jF (eR a (rS h a).length h) a) else h
def QT (h:HS) (a:Int):Int:=if aD h.g a=true then(if mA h.s.2 a=true then 0 else(y6 (bV (eR a (rS h a).length h).s (aT (eR a (rS h a).length h).g a) false).2 a).2) else 0
theorem Hj (gs:List GT) (v:Int):(cn gs v).length=gs.length:=by unfold cn;rw[List.length_map]
theorem wo (h:HS) (v p id f w:Int):aD (cM h v p id f).g w=aD h.g w:=by
 unfold aD cM aS
 dsimp only
 by_cases e:w.toNat=v.toNat
 ·rw[e,if_pos rfl]
  cases h.g v.toNat<;>rfl
 ·rw[if_neg e]
theorem Dm (h:HS) (v p id f w:Int):aT (cM h v p id f).g w=aT h.g w:=by
 unfold aT
 rw[wo]
 unfold cM aS
 dsimp only
 by_cases e:w.toNat=v.toNat
 ·rw[e,if_pos rfl]
  cases h.g v.toNat<;>rfl
 ·rw[if_neg e]
theorem Bd {h:HS} {v p id f:Int}:rS (cM h v p id f) v=(rS h v).filter fun t=> !(t.1==p):=by
 unfold rS cM aS
 dsimp only
 rw[if_pos rfl]
 cases h.g v.toNat<;>rfl
section
variable {Q:Sys} {X:HX} {D G:List Nat} {w0 w:World} {h:HS} {L:List (Nat×List Value)} {K:RS->World->Prop}
theorem aU.TI {s:WD} {L0 rows:List (Nat×List Value)} (S:aU Q D G w0 w s L0) {e:El} {x:Option Addr×Nat×Nat} {l:List e.T} (hrow:jy e rows x l) (hm: ∀x∈rows,x∈L0):Sl w e x.1 l:=by
 obtain⟨g1,g2,g3,g4,ca,la,H⟩:=S
 exact hrow.sl H fun x hx=>List.mem_cons_of_mem _ (List.mem_cons_of_mem _ (List.mem_cons_of_mem _ (List.mem_cons_of_mem _ (hm x hx))))
theorem R4 {A:Nat->GA} {v:Nat} {x:GV} (hv:v<17) (hx:h.g v=some x) (T:List (Nat×List Value)):
 (fZ Q A v x++(T++dF Q X A h (aR Q A h.g ((List.range 17).erase v)++L))).Perm (T++dF Q X A h (aR Q A h.g (List.range 17)++L)):=by
 have p1:=(tP (Q:=Q) (A:=A) hv hx).symm
 have p2:=((((p1.append_right L).cons (X.pb,Po.fL 4 h.po)).cons (X.rP,flat eG h.gr++X.rest)).cons (X.gb,j_ X.rP h.gr.length X.c)).cons (X.hb,hcs Q X A h.g)
 refine List.Perm.trans ?_ (p2.append_left T)
 have e:T++dF Q X A h ((fZ Q A v x++aR Q A h.g ((List.range 17).erase v))++L)=(T++[(X.hb,hcs Q X A h.g),(X.gb,j_ X.rP h.gr.length X.c),(X.rP,flat eG h.gr++X.rest),(X.pb,Po.fL 4 h.po)])++(fZ Q A v x++(aR Q A h.g ((List.range 17).erase v)++L)):=by simp
 have e2:fZ Q A v x++(T++dF Q X A h (aR Q A h.g ((List.range 17).erase v)++L))=fZ Q A v x++((T++[(X.hb,hcs Q X A h.g),(X.gb,j_ X.rP h.gr.length X.c),(X.rP,flat eG h.gr++X.rest),(X.pb,Po.fL 4 h.po)])++(aR Q A h.g ((List.range 17).erase v)++L)):=by simp
 show List.Perm _ (T++dF Q X A h ((fZ Q A v x++aR Q A h.g ((List.range 17).erase v))++L))
 rw[e,e2]
 exact List.perm_append_comm_assoc _ _ _
end
end Go.Proofs.YtdnoecpjcoibmaaGreat
namespace Go.Proofs.YtdnoecpjcoibmaaGreat
set_option maxRecDepth 100000
open Go.RX D
theorem Be (ds:List DT) (v:Int):(fJ ds v).length<=ds.length:=by
 unfold fJ
 refine Nat.le_trans (List.length_filter_le _ _) ?_
 rw[List.length_range];exact Nat.le_refl _
section
variable {Q:Sys} {X:HX} {D G:List Nat} {w0 w:World} {h:HS} {L:List (Nat×List Value)} {K:RS->World->Prop}
theorem UH {A:Nat->GA} (W:zW A h) {v:Nat} {x:GV} (hv:v<17) (hx:h.g v=some x) {s':WD} {wG:List GT} {Ia:List Po.PT} (EY:wG.length=h.gr.length) (Pp:kJ wG) (ZC:Po.jl 4 Ia) {w7:World} {y1 y2 y3 y4:Nat×List Value}
 (H:SM Q D G w0 w7 s' (y1::y2::y3::y4::(X.hb,(hcs Q X A h.g).set (4+v*1) (.pointer none))::(X.gb,j_ X.rP h.gr.length X.c)::(X.rP,flat eG wG++X.rest)::(X.pb,Po.fL 4 Ia)::(aR Q A h.g ((List.range 17).erase v)++L)) (dW A h.g (List.range 17))):
 bJ Q X D G w0 w7 {s:=s',g:=aS h.g v none,gr:=wG,po:=Ia} L:=by
 have Qo: ∀j,j≠v->A j=A j/\aS h.g v none j=h.g j:=fun j hj=>⟨rfl,if_neg hj⟩
 have We:jh A (aS h.g v none) v=none:=by
  unfold jh;rw[eJ]
 refine⟨A,⟨fun{i x} hx=>?_,fun{i x} hx=>?_,EY.trans W.gl,ZC,Pp⟩,?_⟩
 ·have hx:aS h.g v none i=some x:=hx
  unfold aS at hx
  by_cases e:i=v
  ·rw[if_pos e] at hx;cases hx
  ·rw[if_neg e] at hx;exact W.dom hx
 ·have hx:aS h.g v none i=some x:=hx
  unfold aS at hx
  by_cases e:i=v
  ·rw[if_pos e] at hx;cases hx
  ·rw[if_neg e] at hx;exact W.mp hx
 ·have IF:=ED (Q:=Q) (X:=X) hv Qo
  rw[We] at IF
  rw[IF] at H
  have H:=((((H.sub (List.sublist_cons_self _ _)).sub (List.sublist_cons_self _ _)).sub (List.sublist_cons_self _ _)).sub (List.sublist_cons_self _ _))
  have H:=(H.u5 (j9 hv hx).symm).Fh (List.sublist_cons_self _ _)
  have q1:=wj (Q:=Q) (A:=A) hv (eJ h.g v none)
  rw[tR Qo] at q1
  have q2:=wh (A:=A) hv (eJ h.g v none)
  rw[nJ Qo] at q2
  refine(H.perm ?_).u5 q2
  show List.Perm ((X.hb,hcs Q X A (aS h.g v none))::(X.gb,j_ X.rP wG.length X.c)::(X.rP,flat eG wG++X.rest)::(X.pb,Po.fL 4 Ia)::(aR Q A (aS h.g v none) (List.range 17)++L)) _
  rw[EY]
  exact((((q1.append_right L).cons _).cons _).cons _).cons _
theorem Bf {l:List Int} (hl:l≠[]) (h: ∀x∈l,x<65536):wR l∈l:=by
 obtain⟨k1,k2,k3⟩:=vE l 65536
 rcases k3 with k3|k3
 ·obtain⟨x,l',rfl⟩:=List.exists_cons_of_ne_nil hl
  have:=k2 x List.mem_cons_self
  have:=h x List.mem_cons_self
  omega
 ·exact k3
theorem Dp (H:bJ Q X D G w0 w h L) (v k:Int) {a:Int} (b c:Int) (ha:0<=a) (hF:Fe Q h.s) (H9:aD h.g a=true->0<=aT h.g a/\aT h.g a<4096) (Qi: ∀t∈rS h a,t.1<65536)
 (kk: ∀w2,bJ Q X D G w0 w2 (mT h a) L->K (QT h a,Cb h a,()) w2):
 an Tryz.prog 90 (.el (.agg gw)) [.pointer (some ⟨X.hb,0,none⟩),.int .i64 v,.agg ⟨fi k a b c⟩] w K:=by
 obtain⟨A,W,H⟩:=H
 obtain⟨G',S,J⟩:=H.call
 refine aL (C:=V0) (aJ:=lD) (Eq.mpr (zQ _ v k a b c w K) ?_)
 unfold Cb QT mT at kk
 refine S.al fun ba w2 S=>S.al fun b1 w3 S=>⟨rfl,S.bu 1 rfl rfl ⟨_,A9 S (X:=X) (A:=A) (g:=h.g) (by simp) ha,?_⟩⟩
 cases hl:aD h.g a with
 |false=>
  rw[hl,if_neg (by decide),if_neg (by decide),if_neg (by decide)] at kk
  exact ay rfl ⟨trivial,S.res (j:=0) rfl 0 4 fun w4 S=>kk w4 ⟨A,W,J S.tail.tail⟩⟩
 |true=>
 rw[hl,if_pos rfl,if_pos rfl,if_pos rfl] at kk
 obtain⟨x,hx,sS,hv,uo,tX⟩:=bG hl
 have ea:ax .i64 a=a:=bI ⟨ha,by omega⟩
 refine ak rfl ⟨rfl,S.bu 1 rfl rfl ?_⟩
 rw[ea]
 refine⟨rfl,rfl,ag.of _ (S.fu (X:=X) (A:=A) (g:=h.g) (by simp) (n:=1) rfl) (S.owned a fun r rows w4 S hrow=>?_)⟩
 have hlen:(fJ h.s.2 a).length<=4096:=Nat.le_trans (Be _ _) S.le
 obtain⟨xp,xn,xc⟩:=r
 have S9:xn=(fJ h.s.2 a).length:=by have:=hrow.1;rw[List.length_map] at this;exact this
 subst S9
 refine⟨fun n q w'=> ∃m:Nat,q.1=(m:Int)/\n+m=(fJ h.s.2 a).length/\(∀i,i<m-> ∀f,(fJ h.s.2 a)[i]? =some f-> ¬ (oJ h.s.2 (f:Int)).2.2.1>0)/\aU Q [] G' w w' h.s (((b1,[.int .u64 0,.int .i64 0])::(ba,fi k a b c)::dF Q X A h (aR Q A h.g (List.range 17)++L))++rows),⟨(fJ h.s.2 a).length,fun w5 h5=>⟨0,rfl,rfl,fun i hi=>absurd hi (Nat.not_lt_zero i),S.ext h5⟩⟩,?_⟩
 clear S
 rintro n ⟨q,u⟩ w5 ⟨m,hq,hnm,hno,S⟩
 dsimp only at hq ⊢
 subst hq
 refine aa (fun cc=>?_) (fun cc=>?_)
 ·have hm:m<(fJ h.s.2 a).length:=by simpa using cc
  obtain⟨f,Qj⟩: ∃f,f=(fJ h.s.2 a)[m]:=⟨_,rfl⟩
  have hf:(fJ h.s.2 a)[m]? =some f:=by rw[Qj];exact List.getElem?_eq_getElem hm
  have xg:((fJ h.s.2 a).map fun i=>((i:Nat):Int))[m]? =some ((f:Nat):Int):=by rw[List.getElem?_map,hf];rfl
  have qf:=(S.TI hrow (fun x hx=>List.mem_append_right _ hx)) m _ xg
  refine⟨⟨qf.1,by omega,by omega⟩,ag.of _ qf.2 ⟨rfl,rfl,ag.of _ (S.fu (X:=X) (A:=A) (g:=h.g) (by simp) (n:=1) rfl) ⟨(oJ h.s.2 (f:Int),uI h.s.2 (f:Int),()),S.Vi (f:Int),S.al fun bd w6 S=>S.cC 0 rfl rfl rfl fun w7 S=>⟨rfl,S.bu 0 rfl rfl ?_⟩⟩⟩⟩
  refine aa (fun dd=>⟨trivial,S.res (j:=1) rfl 0 9 fun w8 S=>?_⟩) (fun dd=>fun w8 h8=>⟨n - 1,by omega,m+1,?_,by omega,fun i hi g hg=>?_,(S.ext h8).tail⟩)
  ·have dd:(oJ h.s.2 (f:Int)).2.2.1>0:=by simpa using dd
   have hb:mA h.s.2 a=true:=by
    unfold mA
    exact List.any_eq_true.2 ⟨f,List.mem_of_getElem? hf,by simpa using dd⟩
   rw[hb,if_pos rfl,if_pos rfl,if_pos rfl] at kk
   exact kk w8 ⟨A,W,J ((S.tail.sub (List.sublist_append_left _ _)).tail.tail)⟩
  ·rw[ar (by omega) (by omega)];omega
  ·by_cases e:i=m
   ·subst e
    rw[hf] at hg;cases hg
    simpa using dd
   ·exact hno i (by omega) g hg
 have hm: ¬ m<(fJ h.s.2 a).length:=by simpa using cc
 have hb: ¬ mA h.s.2 a=true:=by
  unfold mA
  rw[List.any_eq_true]
  rintro⟨f,hf,hd⟩
  obtain⟨i,hi⟩:=List.getElem?_of_mem hf
  have:i<(fJ h.s.2 a).length:=(List.getElem?_eq_some_iff.1 hi).1
  exact hno i (by omega) f hi (by simpa using hd)
 rw[if_neg hb,if_neg hb,if_neg hb] at kk
 have S:=S.sub (List.sublist_append_left _ rows)
 clear hno hnm hrow cc hm
 obtain⟨g1, _,g3, _⟩:=S.qx (X:=X) (A:=A) (g:=h.g) (by simp) (a7 W [_, _]) hl
 refine⟨rfl,rfl,⟨rfl,by omega,by show a<((17:Nat):Int);omega⟩,ag.of _ g1 ?_⟩
 refine⟨fun n _ w'=> ∃(B:Nat->GA) (h':HS),eR a n h'=eR a (rS h a).length h/\(rS h' a).length=n/\aD h'.g a=true/\aT h'.g a=aT h.g a/\Fe Q h'.s/\(∀t∈rS h' a,t.1<65536)/\(B a.toNat).bg=(A a.toNat).bg/\zW B h'/\SM Q D G w0 w' h'.s ([(b1,[.int .u64 0,.int .i64 0]),(ba,fi k a b c)]++dF Q X B h' (aR Q B h'.g (List.range 17)++L)) (dW B h'.g (List.range 17)),⟨(rS h a).length,fun w6 h6=>⟨A,h,rfl,rfl,hl,rfl,hF,Qi,rfl,W,(J S).ext h6⟩⟩,?_⟩
 clear S g1 g3 J H
 rintro n u w6 ⟨B,h',hg,hn,hl',hr',Sp,QU,TJ,W',H⟩
 obtain⟨x',hx',QV,SQ, _, _⟩:=bG hl'
 have Fk:a.toNat<17:=by omega
 have iK:rS h' a=x'.tk:=by unfold rS;rw[hx']
 rw[<-TJ]
 obtain⟨G2,S,J2⟩:=H.call
 have mem:(X.hb,hcs Q X B h'.g)∈[(b1,[.int .u64 0,.int .i64 0]),(ba,fi k a b c)]++dF Q X B h' (aR Q B h'.g (List.range 17)++L):=List.mem_append_right _ List.mem_cons_self
 obtain⟨_, _,g3, _⟩:=S.qx (X:=X) (A:=B) (g:=h'.g) mem (a7 W' _) hl'
 have hmo:bA w6 (B a.toNat).bm ⟨(B a.toNat).es⟩ (B a.toNat).ck:=H.get (eK W' _ _ hx')
 refine⟨rfl,rfl,ag.of _ g3 ⟨_,⟨_, _, _,rfl,hmo,rfl⟩,?_⟩⟩
 have hsz:(⟨(B a.toNat).es⟩:Array MapEntry).size=n:=by
  rw[<-hn,iK];exact(W'.mp hx').len
 rw[hsz]
 refine aa (fun cc=>?_) (fun cc=>?_)
 ·have cc:n>0:=by
   have:(n:Int)>0:=by simpa using cc
   omega
  have hrow:((B a.toNat).bg,[.pointer (some ⟨(B a.toNat).bt,0,none⟩),.map (some (B a.toNat).bm)])∈[(b1,[.int .u64 0,.int .i64 0]),(ba,fi k a b c)]++dF Q X B h' (aR Q B h'.g (List.range 17)++L):=a7 W' _ _ _ hx' _ List.mem_cons_self
  have hne:x'.tk.map (·.1)≠[]:=fun e=>by
   have:=congrArg List.length e
   rw[List.length_map, <-iK,hn] at this
   simp at this;omega
  have hmin:=Bf hne (fun y hy=>by
   obtain⟨t,ht,rfl⟩:=List.mem_map.1 hy
   exact QU t (by rw[iK];exact ht))
  refine Hh H hrow (eK W' _ _ hx') (W'.mp hx') fun w7 H=>?_
  obtain⟨p,hp⟩: ∃p,p=wR (x'.tk.map (·.1)):=⟨_,rfl⟩
  rw[<-hp] at hmin ⊢
  obtain⟨t,ht,Wf⟩:=List.mem_map.1 hmin
  have sL:a9 x'.tk p=some t.2:=(iD (a:=t.2.1) (b:=t.2.2) (W'.mp hx').2.2.2).2 (by rw[<-Wf];exact ht)
  have hX:H_ h' a p=t.2:=by unfold H_;rw[hx'];dsimp only;rw[sL];rfl
  have MO:AA a h'=cM h' a p t.2.1 t.2.2:=by
   unfold AA
   rw[iK, <-hp,hX]
  refine Bc W' (T:=[(b1,[.int .u64 0,.int .i64 0]),(ba,fi k a b c)]) H hl' Sp (by rw[hr'];exact H9 hl) hx' sL fun B' w8 hb W'' H=>fun w9 h9=>⟨n - 1,by omega,B',cM h' a p t.2.1 t.2.2,?_,?_,?_,?_,?_,?_,?_,W'',H.ext h9⟩
  ·rw[<-MO, <-hg]
   obtain⟨m,rfl⟩: ∃m,n=m+1:=⟨n - 1,by omega⟩
   rfl
  ·rw[Bd,iK]
   obtain⟨r,hf,BM⟩:=(W'.mp hx').find p
   rw[sL] at BM
   obtain⟨i, _,hi,hM⟩:=BM
   rw[<-hM.len,List.length_eraseIdx,if_pos hi]
   have:=(W'.mp hx').len
   rw[iK] at hn
   omega
  ·rw[wo];exact hl'
  ·rw[Dm];exact hr'
  ·have e:(cM h' a p t.2.1 t.2.2).s.1.length=h'.s.1.length:=qY _ _ _ _ _
   exact⟨by rw[e];exact Sp.1,by rw[e];exact Sp.2⟩
  ·intro t' ht'
   rw[Bd] at ht'
   exact QU t' (List.mem_filter.1 ht').1
  ·rw[hb,TJ]
 have hn0:n=0:=by
  have: ¬ (n:Int)>0:=by simpa using cc
  omega
 subst hn0
 have hg:h'=eR a (rS h a).length h:=hg
 rw[<-hg] at kk
 clear hg hsz cc g3 S J2 mem hmo hb QU hn Sp Qi
 have Xf:0<=x'.root/\x'.root<4096:=by rw[<-QV,hr'];exact H9 hl
 rw[QV] at kk
 have H:=H.perm (R4 Fk hx' _)
 obtain⟨G2,S,J2⟩:=H.call
 refine⟨rfl,rfl,ag.of _ (S.fu (X:=X) (A:=B) (g:=h'.g) (List.mem_of_getElem? (i:=4) rfl) (n:=2) rfl) (S.Uz 5 6 rfl rfl (by rw[W'.gl];decide) (by rw[W'.gl];decide) (by decide) a fun n2 w8 S=>⟨rfl,rfl,ag.of _ (S.fu (X:=X) (A:=B) (g:=h'.g) (List.mem_of_getElem? (i:=4) rfl) (n:=3) rfl) (S.UD 7 rfl W'.pt a fun w9 S=>⟨rfl,rfl,?_⟩)⟩)⟩
 refine S.bu 0 rfl rfl (S.drop 1 rfl Xf fun y tj lE S _=>?_)
 have S:=S.sub (List.sublist_append_left _ tj)
 refine⟨rfl,rfl,ag.of _ (S.fu (X:=X) (A:=B) (g:=h'.g) (List.mem_of_getElem? (i:=4) rfl) (n:=1) rfl) (S.owned a fun r2 I7 mh S hrow=>?_)⟩
 obtain⟨s1,PV⟩: ∃s1,s1=bV h'.s x'.root false:=⟨_,rfl⟩
 have U':jF h' a={s:=(s1.1,(y6 s1.2 a).1),g:=aS h'.g a.toNat none,gr:=cn h'.gr a,po:=(Po.bV 4 h'.po a).2}:=by
  unfold jF;rw[QV, <-PV]
 rw[<-PV] at S kk hrow
 rw[U'] at kk
 obtain⟨xp2,ZD,xc2⟩:=r2
 have Xg:ZD=(fJ s1.2 a).length:=by have:=hrow.1;rw[List.length_map] at this;exact this
 subst Xg
 have UI:(fJ s1.2 a).length<=4096:=Nat.le_trans (Be _ _) S.le
 obtain⟨l,DG⟩: ∃l,l=fJ s1.2 a:=⟨_,rfl⟩
 have hown:y6 s1.2 a=l.foldl (rU a) (s1.2,0):=by unfold y6;rw[DG]
 rw[<-DG] at hrow UI ⊢
 obtain⟨R,hR⟩: ∃R,R=y6 s1.2 a:=⟨_,rfl⟩
 rw[<-hR] at kk
 rw[<-hR] at hown
 obtain⟨RL,Wg⟩: ∃RL:List (Nat×List Value),RL=((B a.toNat).bg,[.pointer (some ⟨(B a.toNat).bt,0,none⟩),.map (some (B a.toNat).bm)])::((B a.toNat).bt,mQ Q ((a.toNat:Nat):Int) x'.root true)::(b1,[.int .u64 0,.int .i64 0])::(ba,fi k a b c)::(X.hb,hcs Q X B h'.g)::(X.gb,j_ X.rP h'.gr.length X.c)::(X.rP,flat eG (cn h'.gr a)++X.rest)::(X.pb,Po.fL 4 (Po.bV 4 h'.po a).2)::(aR Q B h'.g ((List.range 17).erase a.toNat)++L):=⟨_,rfl⟩
 have S:aU Q [] G2 w6 mh s1 (RL++I7):=by rw[Wg];exact S
 have TL: ∀{T:List (Nat×List Value)},(X.hb,hcs Q X B h'.g)∈RL++T:=fun{T}=>List.mem_append_left _ (by rw[Wg];exact List.mem_of_getElem? (i:=4) rfl)
 refine⟨fun n q w'=> ∃(m:Nat) (ds:List DT),q.2.1=(m:Int)/\n+m=l.length/\(0<=q.1/\q.1<=m)/\(l.drop m).foldl (rU a) (ds,q.1)=R/\aU Q [] G2 w6 w' (s1.1,ds) (RL++I7),⟨l.length,fun Ab h12=>⟨0,s1.2,rfl,rfl,⟨by decide,by decide⟩,hown.symm,S.ext h12⟩⟩,?_⟩
 clear S
 rintro n ⟨cnt,q,u⟩ Ab ⟨m,ds,hq,hnm,ZE,tn,S⟩
 dsimp only at hq ZE tn ⊢
 subst hq
 refine aa (fun cc=>?_) (fun cc=>?_)
 ·have hm:m<l.length:=by simpa using cc
  obtain⟨f,Qj⟩: ∃f,f=l[m]:=⟨_,rfl⟩
  have hf:l[m]? =some f:=by rw[Qj];exact List.getElem?_eq_getElem hm
  have xg:(l.map fun i=>((i:Nat):Int))[m]? =some ((f:Nat):Int):=by rw[List.getElem?_map,hf];rfl
  have qf:=(S.TI hrow (fun x hx=>List.mem_append_right _ hx)) m _ xg
  rw[List.drop_eq_getElem_cons hm, <-Qj,List.foldl_cons] at tn
  refine⟨⟨qf.1,by omega,by omega⟩,ag.of _ qf.2 ⟨rfl,rfl,ag.of _ (S.fu (X:=X) (A:=B) (g:=h'.g) TL (n:=1) rfl) ⟨(oJ ds (f:Int),uI ds (f:Int),()),S.Vi (f:Int),S.al fun bd E9 S=>S.cC 0 rfl rfl rfl fun E_ S=>⟨rfl,S.bu 0 rfl rfl ?_⟩⟩⟩⟩
  refine aa (fun dd=>⟨rfl,rfl,ag.of _ (S.fu (X:=X) (A:=B) (g:=h'.g) (List.mem_cons_of_mem _ TL) (n:=1) rfl) (S.M8 (f:Int) 5 a fun U9 S=>fun Sv Wh=>⟨n - 1,by omega,m+1, _,?_,by omega,?_,?_,(S.ext Wh).tail⟩)⟩) (fun dd=>fun Sv Wh=>⟨n - 1,by omega,m+1,ds,?_,by omega,?_,?_,(S.ext Wh).tail⟩)
  ·show au .i64 (m:Int) 1= _
   rw[ar (by omega) (by omega)];omega
  ·show 0<=au .i64 cnt 1/\au .i64 cnt 1<=((m+1:Nat):Int)
   rw[ar (by omega) (by omega)];omega
  ·show(l.drop (m+1)).foldl (rU a) (fQ ds (f:Int) (aE 5 a),au .i64 cnt 1)=R
   rw[ar (by omega) (by omega), <-tn]
   have d4:(oJ ds (f:Int)).1=4:=by simpa using dd
   rw[show rU a (ds,cnt) f=if(oJ ds (f:Int)).1=4 then(fQ ds (f:Int) (aE 5 a),cnt+1) else(ds,cnt) from rfl,if_pos d4]
  ·show au .i64 (m:Int) 1= _
   rw[ar (by omega) (by omega)];omega
  ·show 0<=cnt/\cnt<=((m+1:Nat):Int)
   omega
  ·show(l.drop (m+1)).foldl (rU a) (ds,cnt)=R
   rw[<-tn]
   have d4: ¬ (oJ ds (f:Int)).1=4:=by simpa using dd
   rw[show rU a (ds,cnt) f=if(oJ ds (f:Int)).1=4 then(fQ ds (f:Int) (aE 5 a),cnt+1) else(ds,cnt) from rfl,if_neg d4]
 have hm: ¬ m<l.length:=by simpa using cc
 rw[List.drop_of_length_le (by omega)] at tn
 have tn:(ds,cnt)=R:=tn
 rw[<-tn] at kk
 have S:=S.sub (List.sublist_append_left _ I7)
 rw[Wg] at S
 refine⟨rfl,rfl,⟨rfl,by omega,by show a<((17:Nat):Int);omega⟩,?_⟩
 rw[aK]
 refine S.lR 4 rfl rfl (by rw[Nat.blt_eq,EC];omega) fun E9 S=>S.res (j:=2) rfl _ _ fun E_ S=>?_
 rw[cJ ⟨by omega,by omega⟩]
 exact kk E_ (UH W' Fk hx' (Hj _ _) (W'.gk.drop _) (Po.Le W'.pt a) (J2 S))
end
end Go.Proofs.YtdnoecpjcoibmaaGreat
namespace Go.Proofs.YtdnoecpjcoibmaaGreat
set_option maxRecDepth 100000
open Go.RX D
def run (h:HS) (v k a b c:Int):HS×Int×Int:=match k.toNat with
 |1=>(gU h,DV h,m9 h)
 |2=>(mT h a,QT h a,Cb h a)
 |3=>(gQ h v a b,rT h v a b)
 |4=>(mM h v a,Ca h v a)
 |5=>(ir h v a b,0,oN h v a b)
 |6=>(h,m8 h v a)
 |7=>(dS h v a b,0,ni h v a)
 |8=>(fc h v a b c,kD h v a b c)
 |9=>(gF h v a b c,0,jv h v a b c)
 |10=>(dU h v a,0,kU h v a)
 |11=>(fh h v a,0,zx h v a)
 |12=>(jD h v a,DR h v a)
 |13=>(jE h v a b,DU h v a b)
 |14=>(jC h v a,0,I4 h v a)
 |15=>(I6 h v,I5 h v,0)
 |16=>(gC h v a,0,Cp h v a)
 | _=>(bh h (bC h.s h.s.2.length).1,((bC h.s h.s.2.length).2:Int),0)
def iu (h:HS) (v k a b c:Int):Int:=
 if(decide (v<0)||decide (v>16)|| !iB k a b c)=true then 1 else if(!(v==0)==qu k)=true then 7 else if(decide (v>0)&& !aD h.g v)=true then 4 else 0
def lH (h:HS) (v k a b c:Int):Int:=if iu h v k a b c=0 then(run h v k a b c).2.2 else iu h v k a b c
def qq (h:HS) (v k a b c:Int):Int:=if iu h v k a b c=0 then(if(run h v k a b c).2.2=0 then(run h v k a b c).2.1 else 0) else 0
def g_ (h:HS) (v k a b c:Int):HS:=if iu h v k a b c=0 then(run h v k a b c).1 else h
structure QW (Q:Sys) (h:HS):Prop where
 BO:Fe Q h.s
 sz:16*h.s.2.length<=h.s.1.length
 rr: ∀v,aD h.g v=true->0<=aT h.g v/\aT h.g v<4096
 pg: ∀v, ∀t∈rS h v,t.1<65536
 new: ∀v a b c, ∀x,h.g v.toNat=some x->aD h.g v=true->gO h.s (aT h.g v) false b (iy h a).1 (qp c)=0->a9 x.tk b=none
section
variable {Q:Sys} {X:HX} {D G:List Nat} {w0 w:World} {h:HS} {L T:List (Nat×List Value)}
theorem EF (A:Nat->GA) (h:HS):(dF Q X A h (aR Q A h.g (List.range 17)++(T++L))).Perm (T++dF Q X A h (aR Q A h.g (List.range 17)++L)):=by
 have e1:dF Q X A h (aR Q A h.g (List.range 17)++(T++L))=(dF Q X A h (aR Q A h.g (List.range 17)))++(T++L):=by simp
 have e2:T++dF Q X A h (aR Q A h.g (List.range 17)++L)=T++(dF Q X A h (aR Q A h.g (List.range 17))++L):=by simp
 rw[e1,e2]
 exact List.perm_append_comm_assoc _ _ _
theorem bJ.of {A:Nat->GA} (W:zW A h) (H:SM Q D G w0 w h.s (T++dF Q X A h (aR Q A h.g (List.range 17)++L)) (dW A h.g (List.range 17))):bJ Q X D G w0 w h (T++L):=
 ⟨A,W,H.perm (EF A h)⟩
theorem bJ.to (H:bJ Q X D G w0 w h (T++L)): ∃A,zW A h/\SM Q D G w0 w h.s (T++dF Q X A h (aR Q A h.g (List.range 17)++L)) (dW A h.g (List.range 17)):=by
 obtain⟨A,W,H⟩:=H
 exact⟨A,W,H.perm (EF A h).symm⟩
theorem bJ.ext {w1:World} (H:bJ Q X D G w0 w h L) (e:Ext w w1):bJ Q X D G w0 w1 h L:=by
 obtain⟨A,W,H⟩:=H
 exact⟨A,W,H.ext e⟩
def jT (k:Int):Nat:=([89,90,92,93,94,95,96,97,98,99,100,101,102,103,104,105,91]:List Nat).getD (k - 1).toNat 0
theorem hrun (H:bJ Q X D G w0 w h L) (R:QW Q h) {v k a b c:Int} (hk:1<=k/\k<=17) (hl:qu k=false->aD h.g v=true) (ha:0<=a/\a<18446744073709551616) (hb:0<=b/\b<18446744073709551616) (hc:0<=c/\c<18446744073709551616) {K:RS->World->Prop}
 (kk: ∀V w2,((run h v k a b c).2.2=0->V=(run h v k a b c).2.1)->bJ Q X D G w0 w2 (run h v k a b c).1 L->K (V,(run h v k a b c).2.2,()) w2):
 an Tryz.prog (jT k) (.el (.agg gw)) [.pointer (some ⟨X.hb,0,none⟩),.int .i64 v,.agg ⟨fi k a b c⟩] w K:=by
 have:k=1\/k=2\/k=3\/k=4\/k=5\/k=6\/k=7\/k=8\/k=9\/k=10\/k=11\/k=12\/k=13\/k=14\/k=15\/k=16\/k=17:=by omega
 rcases this with rfl|rfl|rfl|rfl|rfl|rfl|rfl|rfl|rfl|rfl|rfl|rfl|rfl|rfl|rfl|rfl|rfl
 ·exact Hi H (by have:=R.sz;omega) v 1 a b c fun V w2 hV H=>kk V w2 hV H
 ·exact Dp H v 2 b c ha.1 R.BO (R.rr a) (R.pg a) fun w2 H=>kk _ w2 (fun _=>rfl) H
 ·exact G_ H (hl rfl) 3 c ha.1 hb.1 fun w2 H=>kk _ w2 (fun _=>rfl) H
 ·exact Dj H (hl rfl) R.BO (R.rr v (hl rfl)) 4 b c ha.1 fun w2 H=>kk _ w2 (fun _=>rfl) H
 ·exact Di H (hl rfl) 5 c ha.1 hb.1 fun w2 H=>kk _ w2 (fun _=>rfl) H
 ·exact OS H v 6 b c ha.1 fun w2 H=>kk _ w2 (fun _=>rfl) H
 ·exact Me H v 7 c ha.1 hb fun w2 H=>kk _ w2 (fun _=>rfl) H
 ·exact Mb H v 8 ha.1 hb.1 hc.1 fun w2 H=>kk _ w2 (fun _=>rfl) H
 ·exact OU H (hl rfl) 9 ha.1 hb.1 hc.1 (fun x hx e=>R.new v a b c x hx (hl rfl) e) fun w2 H=>kk _ w2 (fun _=>rfl) H
 ·exact OT H (hl rfl) R.BO (R.rr v (hl rfl)) 10 b c ha.1 fun w2 H=>kk _ w2 (fun _=>rfl) H
 ·exact G7 H v 11 b c ha.1 fun w2 H=>kk _ w2 (fun _=>rfl) H
 ·exact OQ H v 12 b c ha.1 fun w2 H=>kk _ w2 (fun _=>rfl) H
 ·exact OR H v 13 c ha.1 hb.1 fun w2 H=>kk _ w2 (fun _=>rfl) H
 ·exact OO H v 14 b c ha.1 fun w2 H=>kk _ w2 (fun _=>rfl) H
 ·exact OP H v 15 a b c fun w2 H=>kk _ w2 (fun _=>rfl) H
 ·exact L9 H v 16 b c ha.1 fun w2 H=>kk _ w2 (fun _=>rfl) H
 ·exact Mf H v 17 a b c fun w2 H=>kk _ w2 (fun _=>rfl) H
end
end Go.Proofs.YtdnoecpjcoibmaaGreat
