import Derived.Test.YtdnoecpjcoibmaaGreatSNC
/-! What the statement leans on: texts joined and shortened by a program of mine. -/
set_option linter.unusedVariables false
set_option linter.unusedSimpArgs false
namespace Go.Proofs.YtdnoecpjcoibmaaGreat.D
set_option maxRecDepth 100000
open Go.RX
abbrev sD:List Sc:=[.int .i64,.int .i64,.int .i64,.int .i64]
abbrev eD:El:= .agg sD
abbrev DT:Type:=Int×Int×Int×Int×Unit
def zD:DT:=(0,0,0,0,())
theorem pR {w:World} {bp n c:Nat} {a:Option Addr} (h:aY w bp [.slice a n c]):an Tryz.prog 39 (.el (.one (.int .i64))) [.pointer (some ⟨bp,0,none⟩)] w (fun x w'=>x=(n:Int)/\Ext w w'):=by
 refine ai (C:=E0) (aJ:=fun _=>[]) (Eq.mpr (RM _ w _) ?_)
 have H:=At.start [] w
 refine ak rfl ⟨rfl,rfl,ag.jd H h (by simp) rfl ?_⟩
 repeat' (first
  |exact Go.RX.aF.all H
  |exact And.intro (by first|rfl|decide+kernel) (Go.RX.aF.all H)
  |refine And.intro (by first|exact rfl|exact trivial|exact fun _=>rfl|exact fun _=>trivial|exact⟨rfl,by decide,by decide⟩|exact⟨by decide,by decide⟩|decide+kernel|exact fun _=>by decide|exact fun _=>⟨rfl,by decide,by decide⟩|(dsimp only[List.length_cons,List.length_nil];exact⟨rfl,by decide,by decide⟩)) ?_
  |refine ag.bP 0 H rfl rfl ?_
  |refine ag.at 0 H rfl rfl ?_
  |refine aA.go H fun b w1 H=>?_
  |refine av.all 0 H rfl rfl rfl fun w1 H=>?_
  |refine av.dJ 0 H rfl rfl rfl fun w1 H=>?_
  |refine av.one 0 H rfl rfl rfl fun w1 H=>?_
  |with_reducible refine aj.go H fun w1 H=>?_
  |refine gf ?_
  |refine ay (by assumption) ?_
  |refine ak (by assumption) ?_
  |refine aa (fun c=>?_) (fun c=>?_))
theorem RP {w:World} {kc:Nat} {v:Int} (h:aY w kc [.int .i64 v]) (d:DT):an Tryz.prog 117 (.el (.one .bool)) [.agg ⟨aP sD d⟩,.pointer (some ⟨kc,0,none⟩)] w (fun x w'=>x=(d.1==v)/\Ext w w'):=by
 obtain⟨k,o,r,e,u⟩:=d
 refine ai (C:=E0) (aJ:=fun _=>[]) (Eq.mpr (RN k o r e _ w _) ?_)
 have H:=At.start [] w
 repeat' (first
  |refine ag.old H h (by simp) rfl ?_
  |exact Go.RX.aF.all H
  |exact And.intro (by first|rfl|decide+kernel) (Go.RX.aF.all H)
  |refine And.intro (by first|exact rfl|exact trivial|exact fun _=>rfl|exact fun _=>trivial|exact⟨rfl,by decide,by decide⟩|exact⟨by decide,by decide⟩|decide+kernel|exact fun _=>by decide|exact fun _=>⟨rfl,by decide,by decide⟩|(dsimp only[List.length_cons,List.length_nil];exact⟨rfl,by decide,by decide⟩)) ?_
  |refine ag.bP 0 H rfl rfl ?_
  |refine ag.at 0 H rfl rfl ?_
  |refine aA.go H fun b w1 H=>?_
  |refine av.all 0 H rfl rfl rfl fun w1 H=>?_
  |refine av.dJ 0 H rfl rfl rfl fun w1 H=>?_
  |refine av.one 0 H rfl rfl rfl fun w1 H=>?_
  |with_reducible refine aj.go H fun w1 H=>?_
  |refine gf ?_
  |refine ay (by assumption) ?_
  |refine ak (by assumption) ?_
  |refine aa (fun c=>?_) (fun c=>?_))
theorem Gm {w:World} {kc:Nat} {v:Int} (h:aY w kc [.int .i64 v]) (d:DT):an Tryz.prog 202 (.el (.one .bool)) [.agg ⟨aP sD d⟩,.pointer (some ⟨kc,0,none⟩)] w (fun x w'=>x=(d.2.1==v)/\Ext w w'):=by
 obtain⟨k,o,r,e,u⟩:=d
 refine ai (C:=E0) (aJ:=fun _=>[]) (Eq.mpr (Gg k o r e _ w _) ?_)
 have H:=At.start [] w
 repeat' (first
  |refine ag.old H h (by simp) rfl ?_
  |exact Go.RX.aF.all H
  |exact And.intro (by first|rfl|decide+kernel) (Go.RX.aF.all H)
  |refine And.intro (by first|exact rfl|exact trivial|exact fun _=>rfl|exact fun _=>trivial|exact⟨rfl,by decide,by decide⟩|exact⟨by decide,by decide⟩|decide+kernel|exact fun _=>by decide|exact fun _=>⟨rfl,by decide,by decide⟩|(dsimp only[List.length_cons,List.length_nil];exact⟨rfl,by decide,by decide⟩)) ?_
  |refine ag.bP 0 H rfl rfl ?_
  |refine ag.at 0 H rfl rfl ?_
  |refine aA.go H fun b w1 H=>?_
  |refine av.all 0 H rfl rfl rfl fun w1 H=>?_
  |refine av.dJ 0 H rfl rfl rfl fun w1 H=>?_
  |refine av.one 0 H rfl rfl rfl fun w1 H=>?_
  |with_reducible refine aj.go H fun w1 H=>?_
  |refine gf ?_
  |refine ay (by assumption) ?_
  |refine ak (by assumption) ?_
  |refine aa (fun c=>?_) (fun c=>?_))
section
variable {D G:List Nat} {w0 w:World} {L:List (Nat×List Value)}
theorem qD (H:aF D G w0 w L) (p:Option Addr) (k:Int) {K:Option Addr×Option Addr×Unit->World->Prop}
 (hk: ∀pc ic kc w1,aF D G w0 w1 ((ic,[.func (.func 117) #[] #[.pointer (some ⟨kc,0,none⟩)]])::(pc,[.pointer p])::(kc,[.int .i64 k])::L)->K (some ⟨pc,0,none⟩,some ⟨ic,0,none⟩,()) w1):
 az Tryz.prog 56 TD [.pointer p,.int .i64 k] w K:=by
 refine az.go H fun w1 H=>ai (C:=E0) (aJ:=fun _=>[]) (Eq.mpr (Uk p k w1 K) ?_)
 refine aA.go H fun kc w2 H=>az.go H fun w3 H=>ai (C:=E0) (aJ:=fun _=>[]) (Eq.mpr (N7 p _ w3 _) ?_)
 refine aA.go H fun pc w4 H=>aA.go H fun ic w5 H=>aj.go H fun w6 H=>aj.go H fun w7 H=>?_
 exact hk pc ic kc w7 H
theorem Of (H:aF D G w0 w L) (p c:Option Addr) {K:Option Addr×Option Addr×Unit->World->Prop}
 (hk: ∀pc ic w1,aF D G w0 w1 ((ic,[.func (.func 202) #[] #[.pointer c]])::(pc,[.pointer p])::L)->K (some ⟨pc,0,none⟩,some ⟨ic,0,none⟩,()) w1):
 az Tryz.prog 116 TD [.pointer p,.func (.func 202) #[] #[.pointer c]] w K:=by
 refine az.go H fun w1 H=>ai (C:=E0) (aJ:=fun _=>[]) (Eq.mpr (Lr p c w1 K) ?_)
 refine aA.go H fun pc w4 H=>aA.go H fun ic w5 H=>aj.go H fun w6 H=>?_
 exact hk pc ic w6 H
end
def Jy (fn:FuncId) (pc ic kc bp bf c:Nat) (v:Int) (ds:List DT) (rest:List Value) (w:World):Prop:=
 aY w pc [.pointer (some ⟨bp,0,none⟩)]/\aY w ic [.func (.func fn) #[] #[.pointer (some ⟨kc,0,none⟩)]]/\aY w kc [.int .i64 v]/\aY w bp [.slice (some ⟨bf,0,none⟩) ds.length c]/\aY w bf (flat eD ds++rest)
theorem AV {pc ic kc bp bf c:Nat} {v:Int} {ds:List DT} {rest:List Value} (hlen:ds.length<=4096):
 MZ Tryz.prog 178 (fun y=>[.func (.yield y) #[] #[],.pointer (some ⟨pc,0,none⟩),.pointer (some ⟨ic,0,none⟩)]) ds.length
  (fun i=>match ds[i]? with
   |some d=>if d.1=v then some [.int .i64 (i:Nat)] else none
   |none=>none) (Jy 117 pc ic kc bp bf c v ds rest):=by
 intro y w J Dn hJ hD hS uS lQ h0
 have key:an Tryz.prog 178 (rR E1 178) [.func (.yield y) #[] #[],.pointer (some ⟨pc,0,none⟩),.pointer (some ⟨ic,0,none⟩)] w (fun _ w'=>J ds.length w'\/Dn w'):=by
  refine ai (C:=E1) (aJ:=rF) (Eq.mpr (Lt y _ _ w _) ?_)
  obtain⟨s1,s2,s3,s4,s5⟩:=hS 0 w h0
  refine ag.of _ (s1.lG rfl) (ak rfl (ag.of _ (s1.lG rfl) ⟨rfl,rfl,ag.of (some ⟨bf,0,none⟩,ds.length,c) (by rw[aK];exact s4.lG rfl) ?_⟩))
  refine⟨fun n s w'=> ∃i:Nat,s.1=i/\n+i=ds.length/\J i w',⟨ds.length,fun w1 h1=>⟨0,rfl,rfl,hJ _ _ _ h0 h1⟩⟩,?_⟩
  rintro n ⟨i',u⟩ w1 ⟨i,hi,hn,hj⟩
  simp only at hi
  subst hi
  dsimp only
  refine aa (fun c=>?_) (fun c=>?_)
  ·have hlt:i<ds.length:=by simp only[decide_eq_true_eq] at c;omega
   obtain⟨s1,s2,s3,s4,s5⟩:=hS i w1 hj
   have dn:ds[i]? =some ds[i]:=List.getElem?_eq_getElem hlt
   refine⟨⟨rfl,by omega,by omega⟩,ag.of ds[i] (ff s5 dn) ?_⟩
   have H:=At.start [] w1
   have next: ∀w',J (i+1) w'-> ∀w3,Ext w' w3-> ∃n',n'<n/\ ∃j:Nat,au .i64 (i:Nat) 1=j/\n'+j=ds.length/\J j w3:=fun w' hj' w3 h3=>
    ⟨n - 1,by omega,i+1,by rw[ar (by omega) (by omega)];rfl,by omega,hJ _ _ _ hj' h3⟩
   generalize hd:ds[i]=d
   rw[hd] at dn
   refine aA.go H fun b w2 H=>av.all 0 H rfl rfl rfl fun w2 H=>ag.of (some ⟨kc,0,none⟩,()) ((H.old s2 (by simp)).lG rfl) (ag.at 0 H rfl rfl ?_)
   have hj2:=hJ _ _ _ hj H.all
   refine⟨d.1==v,ah.of (s:= .el (.one .bool)) fun w' h'=>RP ((H.old s3 (by simp)).ext h') d,aa (fun c=>fun w3 h3=>?_) (fun c=>?_)⟩
   ·refine lQ i _ hlt (by simp only[dn];rw[if_pos (by simpa using c)]) w3 _ (hJ _ _ _ hj2 h3) (fun w' hj'=>?_) (fun w' HW=>?_)
    ·exact ak rfl (next w' hj')
    ·exact ay rfl fun w4 h4=> .inr (hD _ _ HW h4)
   ·exact next _ (uS i hlt (by simp only[dn];rw[if_neg (by simpa using c)]) _ hj2)
  ·have:i=ds.length:=by simp only[decide_eq_false_iff_not] at c;omega
   subst this
   exact fun w2 h2=> .inl (hJ _ _ _ hj h2)
 exact Calls.mono key fun e w' ⟨x,he,hj⟩=>⟨_,he,hj⟩
theorem Lx {pc ic kc bp bf c:Nat} {v:Int} {ds:List DT} {rest:List Value} (hlen:ds.length<=4096):
 MZ Tryz.prog 178 (fun y=>[.func (.yield y) #[] #[],.pointer (some ⟨pc,0,none⟩),.pointer (some ⟨ic,0,none⟩)]) ds.length
  (fun i=>match ds[i]? with
   |some d=>if d.2.1=v then some [.int .i64 (i:Nat)] else none
   |none=>none) (Jy 202 pc ic kc bp bf c v ds rest):=by
 intro y w J Dn hJ hD hS uS lQ h0
 have key:an Tryz.prog 178 (rR E2 178) [.func (.yield y) #[] #[],.pointer (some ⟨pc,0,none⟩),.pointer (some ⟨ic,0,none⟩)] w (fun _ w'=>J ds.length w'\/Dn w'):=by
  refine ai (C:=E2) (aJ:=oT) (Eq.mpr (Gj y _ _ w _) ?_)
  obtain⟨s1,s2,s3,s4,s5⟩:=hS 0 w h0
  refine ag.of _ (s1.lG rfl) (ak rfl (ag.of _ (s1.lG rfl) ⟨rfl,rfl,ag.of (some ⟨bf,0,none⟩,ds.length,c) (by rw[aK];exact s4.lG rfl) ?_⟩))
  refine⟨fun n s w'=> ∃i:Nat,s.1=i/\n+i=ds.length/\J i w',⟨ds.length,fun w1 h1=>⟨0,rfl,rfl,hJ _ _ _ h0 h1⟩⟩,?_⟩
  rintro n ⟨i',u⟩ w1 ⟨i,hi,hn,hj⟩
  simp only at hi
  subst hi
  dsimp only
  refine aa (fun c=>?_) (fun c=>?_)
  ·have hlt:i<ds.length:=by simp only[decide_eq_true_eq] at c;omega
   obtain⟨s1,s2,s3,s4,s5⟩:=hS i w1 hj
   have dn:ds[i]? =some ds[i]:=List.getElem?_eq_getElem hlt
   refine⟨⟨rfl,by omega,by omega⟩,ag.of ds[i] (ff s5 dn) ?_⟩
   have H:=At.start [] w1
   have next: ∀w',J (i+1) w'-> ∀w3,Ext w' w3-> ∃n',n'<n/\ ∃j:Nat,au .i64 (i:Nat) 1=j/\n'+j=ds.length/\J j w3:=fun w' hj' w3 h3=>
    ⟨n - 1,by omega,i+1,by rw[ar (by omega) (by omega)];rfl,by omega,hJ _ _ _ hj' h3⟩
   generalize hd:ds[i]=d
   rw[hd] at dn
   refine aA.go H fun b w2 H=>av.all 0 H rfl rfl rfl fun w2 H=>ag.of (some ⟨kc,0,none⟩,()) ((H.old s2 (by simp)).lG rfl) (ag.at 0 H rfl rfl ?_)
   have hj2:=hJ _ _ _ hj H.all
   refine⟨d.2.1==v,ah.of (s:= .el (.one .bool)) fun w' h'=>Gm ((H.old s3 (by simp)).ext h') d,aa (fun c=>fun w3 h3=>?_) (fun c=>?_)⟩
   ·refine lQ i _ hlt (by simp only[dn];rw[if_pos (by simpa using c)]) w3 _ (hJ _ _ _ hj2 h3) (fun w' hj'=>?_) (fun w' HW=>?_)
    ·exact ak rfl (next w' hj')
    ·exact ay rfl fun w4 h4=> .inr (hD _ _ HW h4)
   ·exact next _ (uS i hlt (by simp only[dn];rw[if_neg (by simpa using c)]) _ hj2)
  ·have:i=ds.length:=by simp only[decide_eq_false_iff_not] at c;omega
   subst this
   exact fun w2 h2=> .inl (hJ _ _ _ hj h2)
 exact Calls.mono key fun e w' ⟨x,he,hj⟩=>⟨_,he,hj⟩
end Go.Proofs.YtdnoecpjcoibmaaGreat.D
namespace Go.Proofs.YtdnoecpjcoibmaaGreat.D
set_option maxRecDepth 100000
open Go.RX
def aE (k o:Int) (d:DT):DT×Int:=((ig d.1 d.2.1 d.2.2.1 d.2.2.2.1 k o,gj d.1 d.2.1 d.2.2.1 d.2.2.2.1 k o,0,0,()),dV d.1 d.2.1 d.2.2.1 d.2.2.2.1 k o)
def gN (x:Int) (d:DT):DT×Int:=(jf d.1 d.2.1 d.2.2.1 d.2.2.2.1 x,lJ d.1 d.2.1 d.2.2.1 d.2.2.2.1 x)
def sP (ds:List DT) (f:Int) (g:DT->DT×Int):Int:=if ds.length=0 then 10 else if f<0\/f>=ds.length then 2 else(g (ds.getD f.toNat zD)).2
def fQ (ds:List DT) (f:Int) (g:DT->DT×Int):List DT:=if f<0\/f>=ds.length then ds else if(g (ds.getD f.toNat zD)).2=0 then ds.set f.toNat (g (ds.getD f.toNat zD)).1 else ds
theorem xU {ds:List DT} (h:ds.length=0) (f:Int) (g:DT->DT×Int):sP ds f g=10:=if_pos h
theorem xV {ds:List DT} (h:ds.length=0) (f:Int) (g:DT->DT×Int):fQ ds f g=ds:=if_pos (by omega)
theorem Ej {ds:List DT} (h:ds.length≠0) {f:Int} (h1:f<0\/f>=ds.length) (g:DT->DT×Int):sP ds f g=2:=by unfold sP;rw[if_neg h,if_pos h1]
theorem zn {ds:List DT} {f:Int} (h1:f<0\/f>=ds.length) (g:DT->DT×Int):fQ ds f g=ds:=if_pos h1
theorem ve {ds:List DT} {f:Int} (h1:0<=f/\f<ds.length) (g:DT->DT×Int):sP ds f g=(g (ds.getD f.toNat zD)).2:=by unfold sP;rw[if_neg (by omega),if_neg (by omega)]
theorem pS {ds:List DT} {f:Int} (h1:0<=f/\f<ds.length) (g:DT->DT×Int):fQ ds f g=if(g (ds.getD f.toNat zD)).2=0 then ds.set f.toNat (g (ds.getD f.toNat zD)).1 else ds:=by unfold fQ;rw[if_neg (by omega)]
theorem gZ (ds:List DT) (f:Int) (g:DT->DT×Int):(fQ ds f g).length=ds.length:=by
 unfold fQ;split
 ·rfl
 ·split
  ·simp
  ·rfl
theorem Ly {w:World} {kc oc:Nat} {k o:Int} (hk:aY w kc [.int .i64 k]) (ho:aY w oc [.int .i64 o]) (d:DT):an Tryz.prog 198 (.bq [eD,.one (.int .i64)]) [.agg ⟨aP sD d⟩,.pointer (some ⟨kc,0,none⟩),.pointer (some ⟨oc,0,none⟩)] w
 (fun v w'=>v=((aE k o d).1,(aE k o d).2,())/\Ext w w'):=by
 obtain⟨a,b,c,e,u⟩:=d
 refine aL (C:=E0) (aJ:=fun _=>[]) (Eq.mpr (Lu a b c e _ _ w _) ?_)
 have H:=At.start [] w
 repeat' (first
  |refine ag.old H hk (by simp) rfl ?_
  |refine ag.old H ho (by simp) rfl ?_
  |exact Go.RX.aF.all H
  |exact And.intro (by first|rfl|decide+kernel) (Go.RX.aF.all H)
  |refine And.intro (by first|exact rfl|exact trivial|exact fun _=>rfl|exact fun _=>trivial|exact⟨rfl,by decide,by decide⟩|exact⟨by decide,by decide⟩|decide+kernel|exact fun _=>by decide|exact fun _=>⟨rfl,by decide,by decide⟩|(dsimp only[List.length_cons,List.length_nil];exact⟨rfl,by decide,by decide⟩)) ?_
  |refine ag.bP 0 H rfl rfl ?_
  |refine ag.bP 1 H rfl rfl ?_
  |refine ag.at 0 H rfl rfl ?_
  |refine ag.at 1 H rfl rfl ?_
  |refine aA.go H fun b w1 H=>?_
  |refine av.all 0 H rfl rfl rfl fun w1 H=>?_
  |refine av.all 1 H rfl rfl rfl fun w1 H=>?_
  |refine av.dJ 0 H rfl rfl rfl fun w1 H=>?_
  |refine av.dJ 1 H rfl rfl rfl fun w1 H=>?_
  |refine av.one 0 H rfl rfl rfl fun w1 H=>?_
  |refine av.one 1 H rfl rfl rfl fun w1 H=>?_
  |with_reducible refine aj.go H fun w1 H=>?_
  |refine gf ?_
  |refine ay (by assumption) ?_
  |refine ak (by assumption) ?_
  |refine aa (fun c=>?_) (fun c=>?_))
theorem Og {w:World} {kc:Nat} {k:Int} (hk:aY w kc [.int .i64 k]) (hi: -9223372036854775808<=k/\k<9223372036854775808) (d:DT):an Tryz.prog 215 (.bq [eD,.one (.int .i64)]) [.agg ⟨aP sD d⟩,.pointer (some ⟨kc,0,none⟩)] w
 (fun v w'=>v=((gN k d).1,(gN k d).2,())/\Ext w w'):=by
 obtain⟨a,b,c,e,u⟩:=d
 refine aL (C:=E0) (aJ:=fun _=>[]) (Eq.mpr (N8 a b c e _ w _) ?_)
 have H:=At.start [] w
 repeat' (first
  |refine ag.old H hk (by simp) rfl ?_
  |refine And.intro hi ?_
  |exact Go.RX.aF.all H
  |exact And.intro (by first|rfl|decide+kernel) (Go.RX.aF.all H)
  |refine And.intro (by first|exact rfl|exact trivial|exact fun _=>rfl|exact fun _=>trivial|exact⟨rfl,by decide,by decide⟩|exact⟨by decide,by decide⟩|decide+kernel|exact fun _=>by decide|exact fun _=>⟨rfl,by decide,by decide⟩|(dsimp only[List.length_cons,List.length_nil];exact⟨rfl,by decide,by decide⟩)) ?_
  |refine ag.bP 0 H rfl rfl ?_
  |refine ag.bP 1 H rfl rfl ?_
  |refine ag.at 0 H rfl rfl ?_
  |refine ag.at 1 H rfl rfl ?_
  |refine aA.go H fun b w1 H=>?_
  |refine av.all 0 H rfl rfl rfl fun w1 H=>?_
  |refine av.all 1 H rfl rfl rfl fun w1 H=>?_
  |refine av.dJ 0 H rfl rfl rfl fun w1 H=>?_
  |refine av.dJ 1 H rfl rfl rfl fun w1 H=>?_
  |refine av.one 0 H rfl rfl rfl fun w1 H=>?_
  |refine av.one 1 H rfl rfl rfl fun w1 H=>?_
  |with_reducible refine aj.go H fun w1 H=>?_
  |refine gf ?_
  |refine ay (by assumption) ?_
  |refine ak (by assumption) ?_
  |refine aa (fun c=>?_) (fun c=>?_))
theorem C7 {w:World} {bp bf c kc oc:Nat} {k o:Int} {ds:List DT} {rest:List Value} (hp:aY w bp [.slice (some ⟨bf,0,none⟩) ds.length c]) (hf:aY w bf (flat eD ds++rest)) (hne:bp≠bf) (hlen:ds.length<=4096) (hk:aY w kc [.int .i64 k]) (ho:aY w oc [.int .i64 o]) (VW:kc≠bf) (tU:oc≠bf) (f:Int):
 an Tryz.prog 197 (.el (.one (.int .i64))) [.pointer (some ⟨bp,0,none⟩),.int .i64 f,.func (.func 198) #[] #[.pointer (some ⟨kc,0,none⟩),.pointer (some ⟨oc,0,none⟩)]] w
  (fun e w'=>e=sP ds f (aE k o)/\aY w' bf (flat eD (fQ ds f (aE k o))++rest)/\Fr [bf] w w'):=by
 refine ai (C:=E0) (aJ:=fun _=>[]) (Eq.mpr (Gl _ f _ _ w _) ?_)
 have H:=At.pP hf
 have oy:bp∉[bf]:=by simpa using hne
 refine⟨(ds.length:Int),ah.of (s:= .el (.one (.int .i64))) fun w' h=>pR (hp.ext h),aa (fun c0=>aj.go H fun w1 H=>?_) (fun c0=>⟨fun _=>rfl,fun _=>rfl,ag.jd H hp oy rfl (aa (fun c1=>aj.go H fun w1 H=>?_) (fun c1=>?_))⟩)⟩
 ·have h0:ds.length=0:=by simp only[beq_iff_eq] at c0;omega
  exact⟨(xU h0 f _).symm,by rw[xV h0];exact H.get (i:=0) rfl,H.fr⟩
 ·have h0:ds.length≠0:=by simp only[beq_eq_false_iff_ne,ne_eq] at c0;omega
  have h1:f<0\/f>=ds.length:=by simpa using c1
  exact⟨(Ej h0 h1 _).symm,by rw[zn h1];exact H.get (i:=0) rfl,H.fr⟩
 ·have h0:ds.length≠0:=by simp only[beq_eq_false_iff_ne,ne_eq] at c0;omega
  have h1:0<=f/\f<ds.length:=by simp only[Bool.or_eq_false_iff,decide_eq_false_iff_not] at c1;omega
  have hlt:f.toNat<ds.length:=by omega
  have dn:ds[f.toNat]? =some ds[f.toNat]:=List.getElem?_eq_getElem hlt
  have hgd:ds.getD f.toNat zD=ds[f.toNat]:=by rw[List.getD_eq_getElem?_getD,dn];rfl
  have hE:=ve h1 (aE k o)
  have hL:=pS h1 (aE k o)
  rw[hgd] at hE hL
  generalize hd:ds[f.toNat]=d at*
  refine⟨rfl,rfl,ag.jd H hp oy rfl ⟨⟨rfl,h1.1,h1.2⟩,ag.of d (ff (H.get (i:=0) rfl) dn) ?_⟩⟩
  refine az.val H (s:= .bq [eD,.one (.int .i64)]) (((aE k o) d).1,((aE k o) d).2,()) (fun w1 H=>Ly (H.old hk (by simpa using VW)) (H.old ho (by simpa using tU)) d) fun w1 H=>?_
  refine aA.go H fun b w2 H=>av.all 0 H rfl rfl rfl fun w2 H=>aa (fun c2=>⟨rfl,rfl,ag.jd H hp oy rfl (ag.at 0 H rfl rfl ⟨⟨rfl,h1.1,h1.2⟩,?_⟩)⟩) (fun c2=>aj.go H fun w3 H=>?_)
  ·have Qd:((aE k o) d).2=0:=by simpa using c2
   refine av.flat (e:=eD) 1 H (xs:=ds) (rest:=rest) ((aE k o) d).1 rfl rfl rfl hlt fun w3 H=>aj.go H fun w4 H=>?_
   exact⟨hE.symm,by rw[hL,if_pos Qd];exact H.get (i:=1) rfl,H.fr⟩
  ·have Qd: ¬ ((aE k o) d).2=0:=by simpa using c2
   exact⟨hE.symm,by rw[hL,if_neg Qd];exact H.get (i:=1) rfl,H.fr⟩
theorem C8 {w:World} {bp bf c kc:Nat} {k:Int} {ds:List DT} {rest:List Value} (hp:aY w bp [.slice (some ⟨bf,0,none⟩) ds.length c]) (hf:aY w bf (flat eD ds++rest)) (hne:bp≠bf) (hlen:ds.length<=4096) (hk:aY w kc [.int .i64 k]) (VW:kc≠bf) (hi: -9223372036854775808<=k/\k<9223372036854775808) (f:Int):
 an Tryz.prog 197 (.el (.one (.int .i64))) [.pointer (some ⟨bp,0,none⟩),.int .i64 f,.func (.func 215) #[] #[.pointer (some ⟨kc,0,none⟩)]] w
  (fun e w'=>e=sP ds f (gN k)/\aY w' bf (flat eD (fQ ds f (gN k))++rest)/\Fr [bf] w w'):=by
 refine ai (C:=E0) (aJ:=fun _=>[]) (Eq.mpr (C6 _ f _ w _) ?_)
 have H:=At.pP hf
 have oy:bp∉[bf]:=by simpa using hne
 refine⟨(ds.length:Int),ah.of (s:= .el (.one (.int .i64))) fun w' h=>pR (hp.ext h),aa (fun c0=>aj.go H fun w1 H=>?_) (fun c0=>⟨fun _=>rfl,fun _=>rfl,ag.jd H hp oy rfl (aa (fun c1=>aj.go H fun w1 H=>?_) (fun c1=>?_))⟩)⟩
 ·have h0:ds.length=0:=by simp only[beq_iff_eq] at c0;omega
  exact⟨(xU h0 f _).symm,by rw[xV h0];exact H.get (i:=0) rfl,H.fr⟩
 ·have h0:ds.length≠0:=by simp only[beq_eq_false_iff_ne,ne_eq] at c0;omega
  have h1:f<0\/f>=ds.length:=by simpa using c1
  exact⟨(Ej h0 h1 _).symm,by rw[zn h1];exact H.get (i:=0) rfl,H.fr⟩
 ·have h0:ds.length≠0:=by simp only[beq_eq_false_iff_ne,ne_eq] at c0;omega
  have h1:0<=f/\f<ds.length:=by simp only[Bool.or_eq_false_iff,decide_eq_false_iff_not] at c1;omega
  have hlt:f.toNat<ds.length:=by omega
  have dn:ds[f.toNat]? =some ds[f.toNat]:=List.getElem?_eq_getElem hlt
  have hgd:ds.getD f.toNat zD=ds[f.toNat]:=by rw[List.getD_eq_getElem?_getD,dn];rfl
  have hE:=ve h1 (gN k)
  have hL:=pS h1 (gN k)
  rw[hgd] at hE hL
  generalize hd:ds[f.toNat]=d at*
  refine⟨rfl,rfl,ag.jd H hp oy rfl ⟨⟨rfl,h1.1,h1.2⟩,ag.of d (ff (H.get (i:=0) rfl) dn) ?_⟩⟩
  refine az.val H (s:= .bq [eD,.one (.int .i64)]) (((gN k) d).1,((gN k) d).2,()) (fun w1 H=>Og (H.old hk (by simpa using VW)) hi d) fun w1 H=>?_
  refine aA.go H fun b w2 H=>av.all 0 H rfl rfl rfl fun w2 H=>aa (fun c2=>⟨rfl,rfl,ag.jd H hp oy rfl (ag.at 0 H rfl rfl ⟨⟨rfl,h1.1,h1.2⟩,?_⟩)⟩) (fun c2=>aj.go H fun w3 H=>?_)
  ·have Qd:((gN k) d).2=0:=by simpa using c2
   refine av.flat (e:=eD) 1 H (xs:=ds) (rest:=rest) ((gN k) d).1 rfl rfl rfl hlt fun w3 H=>aj.go H fun w4 H=>?_
   exact⟨hE.symm,by rw[hL,if_pos Qd];exact H.get (i:=1) rfl,H.fr⟩
  ·have Qd: ¬ ((gN k) d).2=0:=by simpa using c2
   exact⟨hE.symm,by rw[hL,if_neg Qd];exact H.get (i:=1) rfl,H.fr⟩
theorem zo {w:World} {bp bf c:Nat} {ds:List DT} {rest:List Value} (hp:aY w bp [.slice (some ⟨bf,0,none⟩) ds.length c]) (hf:aY w bf (flat eD ds++rest)) (hne:bp≠bf) (hlen:ds.length<=4096) (f k o:Int):
 an Tryz.prog 146 (.el (.one (.int .i64))) [.pointer (some ⟨bp,0,none⟩),.int .i64 f,.int .i64 k,.int .i64 o] w (fun e w'=>e=sP ds f (aE k o)/\aY w' bf (flat eD (fQ ds f (aE k o))++rest)/\Fr [bf] w w'):=by
 refine ai (C:=E0) (aJ:=fun _=>[]) (Eq.mpr (N9 _ f k o w _) ?_)
 have H:=At.pP hf
 have oy:bp∉[bf]:=by simpa using hne
 refine aA.go H fun kc w1 H=>aA.go H fun oc w2 H=>?_
 refine az.Ao H 2 rfl (fun w3 H=>C7 (H.old hp oy) (H.get (i:=2) rfl) hne hlen (H.get (i:=1) rfl) (H.get (i:=0) rfl) (H.ne (i:=1) (j:=2) rfl rfl (by decide)) (H.ne (i:=0) (j:=2) rfl rfl (by decide)) f) fun w3 H=>aj.go H fun w4 H=>?_
 exact⟨rfl,H.get (i:=2) rfl,H.fr⟩
theorem Oh {w:World} {bp bf c:Nat} {ds:List DT} {rest:List Value} (hp:aY w bp [.slice (some ⟨bf,0,none⟩) ds.length c]) (hf:aY w bf (flat eD ds++rest)) (hne:bp≠bf) (hlen:ds.length<=4096) (f x:Int) (hi: -9223372036854775808<=x/\x<9223372036854775808):
 an Tryz.prog 167 (.el (.one (.int .i64))) [.pointer (some ⟨bp,0,none⟩),.int .i64 f,.int .i64 x] w (fun e w'=>e=sP ds f (gN x)/\aY w' bf (flat eD (fQ ds f (gN x))++rest)/\Fr [bf] w w'):=by
 refine ai (C:=E0) (aJ:=fun _=>[]) (Eq.mpr (N_ _ f x w _) ?_)
 have H:=At.pP hf
 have oy:bp∉[bf]:=by simpa using hne
 refine aA.go H fun kc w1 H=>?_
 refine az.Ao H 1 rfl (fun w3 H=>C8 (H.old hp oy) (H.get (i:=1) rfl) hne hlen (H.get (i:=0) rfl) (H.ne (i:=0) (j:=1) rfl rfl (by decide)) hi f) fun w3 H=>aj.go H fun w4 H=>?_
 exact⟨rfl,H.get (i:=1) rfl,H.fr⟩
theorem Oi {w:World} {bp bf c:Nat} {ds:List DT} {rest:List Value} (hp:aY w bp [.slice (some ⟨bf,0,none⟩) ds.length c]) (hf:aY w bf (flat eD ds++rest)) (hne:bp≠bf) (hlen:ds.length<=4096) (f:Int):
 an Tryz.prog 81 (.el (.one (.int .i64))) [.pointer (some ⟨bp,0,none⟩),.int .i64 f] w (fun e w'=>e=sP ds f (aE 0 0)/\aY w' bf (flat eD (fQ ds f (aE 0 0))++rest)/\Fr [bf] w w'):=by
 refine ai (C:=E0) (aJ:=fun _=>[]) (Eq.mpr (Oa _ f w _) ?_)
 have H:=At.pP hf
 have oy:bp∉[bf]:=by simpa using hne
 refine az.Ao H 0 rfl (fun w3 H=>zo (H.old hp oy) (H.get (i:=0) rfl) hne hlen f 0 0) fun w3 H=>aj.go H fun w4 H=>?_
 exact⟨rfl,H.get (i:=0) rfl,H.fr⟩
def oJ (ds:List DT) (f:Int):DT:=if f<0\/f>=ds.length then zD else ds.getD f.toNat zD
def uI (ds:List DT) (f:Int):Bool:= !(decide (f<0\/f>=ds.length))
theorem zb {w:World} {bp bf c:Nat} {ds:List DT} {rest:List Value} (hp:aY w bp [.slice (some ⟨bf,0,none⟩) ds.length c]) (hf:aY w bf (flat eD ds++rest)) (f:Int):
 an Tryz.prog 21 (.bq [eD,.one .bool]) [.pointer (some ⟨bp,0,none⟩),.int .i64 f] w (fun v w'=>v=(oJ ds f,uI ds f,())/\Ext w w'):=by
 refine aL (C:=E0) (aJ:=fun _=>[]) (Eq.mpr (RO _ f w _) ?_)
 have H:=At.start [] w
 refine aA.go H fun b w1 H=>⟨(ds.length:Int),fun _=>ah.of (s:= .el (.one (.int .i64))) fun w' h=>pR ((H.old hp (by simp)).ext h),aa (fun c1=>?_) (fun c1=>?_)⟩
 ·have h1:f<0\/f>=ds.length:=by simpa using c1
  have e1:oJ ds f=zD:=if_pos h1
  have e2:uI ds f=false:=by unfold uI;simp[h1]
  rw[e1,e2]
  repeat' (first
   |exact Go.RX.aF.all H
   |exact And.intro (by first|rfl|decide+kernel) (Go.RX.aF.all H)
   |refine And.intro (by first|exact rfl|exact trivial|exact fun _=>rfl|exact fun _=>trivial|exact⟨rfl,by decide,by decide⟩|exact⟨by decide,by decide⟩|decide+kernel|exact fun _=>by decide|exact fun _=>⟨rfl,by decide,by decide⟩|(dsimp only[List.length_cons,List.length_nil];exact⟨rfl,by decide,by decide⟩)) ?_
   |refine ag.bP 0 H rfl rfl ?_
   |refine ag.at 0 H rfl rfl ?_
   |refine aA.go H fun b w1 H=>?_
   |refine av.all 0 H rfl rfl rfl fun w1 H=>?_
   |refine av.dJ 0 H rfl rfl rfl fun w1 H=>?_
   |refine av.one 0 H rfl rfl rfl fun w1 H=>?_
   |with_reducible refine aj.go H fun w1 H=>?_
   |refine gf ?_
   |refine ay (by assumption) ?_
   |refine ak (by assumption) ?_
   |refine aa (fun c=>?_) (fun c=>?_))
 ·have h1: ¬ (f<0\/f>=ds.length):=by
   simp only[Bool.or_eq_false_iff,decide_eq_false_iff_not] at c1
   rintro(h|h)
   ·exact c1.1 h
   ·exact c1.2 h
  have hlt:f.toNat<ds.length:=by omega
  have dn:ds[f.toNat]? =some ds[f.toNat]:=List.getElem?_eq_getElem hlt
  have hgd:ds.getD f.toNat zD=ds[f.toNat]:=by rw[List.getD_eq_getElem?_getD,dn];rfl
  have e1:oJ ds f=ds[f.toNat]:=by unfold oJ;rw[if_neg h1,hgd]
  have e2:uI ds f=true:=by unfold uI;simp[h1]
  rw[e1,e2]
  refine⟨rfl,rfl,ag.jd H hp (by simp) rfl ⟨⟨rfl,Int.not_lt.1 (fun h=>h1 (.inl h)),Int.not_le.1 (fun h=>h1 (.inr h))⟩,ag.of ds[f.toNat] (ff (H.old hf (by simp)) dn) ?_⟩⟩
  repeat' (first
   |exact Go.RX.aF.all H
   |exact And.intro (by first|rfl|decide+kernel) (Go.RX.aF.all H)
   |refine And.intro (by first|exact rfl|exact trivial|exact fun _=>rfl|exact fun _=>trivial|exact⟨rfl,by decide,by decide⟩|exact⟨by decide,by decide⟩|decide+kernel|exact fun _=>by decide|exact fun _=>⟨rfl,by decide,by decide⟩|(dsimp only[List.length_cons,List.length_nil];exact⟨rfl,by decide,by decide⟩)) ?_
   |refine ag.bP 0 H rfl rfl ?_
   |refine ag.at 0 H rfl rfl ?_
   |refine aA.go H fun b w1 H=>?_
   |refine av.all 0 H rfl rfl rfl fun w1 H=>?_
   |refine av.dJ 0 H rfl rfl rfl fun w1 H=>?_
   |refine av.one 0 H rfl rfl rfl fun w1 H=>?_
   |with_reducible refine aj.go H fun w1 H=>?_
   |refine gf ?_
   |refine ay (by assumption) ?_
   |refine ak (by assumption) ?_
   |refine aa (fun c=>?_) (fun c=>?_))
end Go.Proofs.YtdnoecpjcoibmaaGreat.D
namespace Go.Proofs.YtdnoecpjcoibmaaGreat.D
set_option maxRecDepth 100000
open Go.RX
section
variable {D G:List Nat} {w0 w:World} {L:List (Nat×List Value)}
theorem Oj (n:Nat):(List.replicate n [Value.int .i64 0,Value.int .i64 0,Value.int .i64 0,Value.int .i64 0]).flatten=flat eD (List.replicate n zD)++[]:=by
 rw[List.append_nil,jO];rfl
theorem Ok (H:aF D G w0 w L) (n:Int) {K:Option Addr×Int×Unit->World->Prop} (hb:n<1\/n>4096-> ∀w1,aF D G w0 w1 L->K (none,1,()) w1)
 (hg:1<=n->n<=4096-> ∀bp bf w1,aF D G w0 w1 ((bp,[.slice (some ⟨bf,0,none⟩) n.toNat n.toNat])::(bf,flat eD (List.replicate n.toNat zD)++[])::L)->K (some ⟨bp,0,none⟩,0,()) w1):
 az Tryz.prog 44 (.bq [.one .ptr,.one (.int .i64)]) [.int .i64 n] w K:=by
 refine az.go H fun w1 H=>ai (C:=E0) (aJ:=fun _=>[]) (Eq.mpr (Oc n w1 K) ?_)
 refine aa (fun c=>aj.go H fun w2 H=>hb (by simpa using c) w2 H) (fun c=>?_)
 have h1:1<=n/\n<=4096:=by simp only[Bool.or_eq_false_iff,decide_eq_false_iff_not] at c;omega
 refine BF.go H rfl (by omega) (by omega) (by omega) (by omega) fun bf w2 H=>?_
 rw[Oj] at H
 exact aA.go H fun bp w3 H=>aj.go H fun w4 H=>hg h1.1 h1.2 bp bf w4 H
theorem Ol (H:aF D G w0 w L) {bp bf n c:Nat} {ds:List DT} {rest:List Value} (hp:aY w bp [.slice (some ⟨bf,0,none⟩) n c]) (hf:aY w bf (flat eD ds++rest)) (hn:n=ds.length) (h0:0<n) (hlen:n<=4096) {K:Option Addr->World->Prop}
 (hk: ∀pn kK c' rest' w1,aF D G w0 w1 ((pn,[.slice (some ⟨kK,0,none⟩) n c'])::(kK,flat eD ds++rest')::L)->K (some ⟨pn,0,none⟩) w1):
 an Tryz.prog 55 (.el (.one .ptr)) [.pointer (some ⟨bp,0,none⟩)] w K:=by
 refine ai (C:=E0) (aJ:=fun _=>[]) (Eq.mpr (Od _ w K) ?_)
 refine⟨(n:Int),ah.of (s:= .el (.one (.int .i64))) fun w' h=>pR (hp.ext h),aa (fun c0=>?_) (fun c0=>⟨rfl,rfl,ag.of (some ⟨bf,0,none⟩,n,c) (by rw[aK];exact hp.lG rfl) fun w1 h1=>?_⟩)⟩
 ·simp only[beq_iff_eq] at c0;omega
 ·refine tV.copy (H.ext h1) (e:=eD) (ys:=ds) (hf.ext h1) ?_ hn (by intro e;subst e;simp at hn;omega) rfl rfl rfl (by omega) fun kK c' rest' w2 H=>aA.go H fun pn w3 H=>aj.go H fun w4 H=>hk pn kK c' rest' w4 H
  rw[List.take_append_of_le_length (by rw[aG];exact Nat.le_refl _),List.take_of_length_le (by rw[aG];exact Nat.le_refl _)]
end
def aX (ds:List DT) (v:Int):Nat:=ds.countP fun d=>d.1==v
def fJ (ds:List DT) (v:Int):List Nat:=(List.range ds.length).filter fun i=>match ds[i]? with
 |some d=>d.2.1==v
 |none=>false
theorem AW {ds:List DT} {v:Int} {i:Nat} {d:DT} (h:ds[i]? =some d):aX (ds.take (i+1)) v=aX (ds.take i) v+(if d.1=v then 1 else 0):=by
 unfold aX
 rw[List.take_add_one,h,List.countP_append]
 congr 1
 simp
theorem nX {ds:List DT} {i:Nat} {v:Int} {Ii:DT->Int} {x:List Value} (h:(match ds[i]? with
 |some d=>if Ii d=v then some [Value.int .i64 (i:Nat)] else none
 |none=>none)=some x): ∃d,ds[i]? =some d/\Ii d=v/\x=[Value.int .i64 (i:Nat)]:=by
 split at h
 ·rename_i d hd
  split at h
  ·rename_i hs;cases h;exact⟨d,hd,hs,rfl⟩
  ·cases h
 ·cases h
theorem zq {ds:List DT} {i:Nat} {v:Int} {Ii:DT->Int} (hi:i<ds.length) (h:(match ds[i]? with
 |some d=>if Ii d=v then some [Value.int .i64 (i:Nat)] else none
 |none=>none)=none): ∃d,ds[i]? =some d/\Ii d≠v:=by
 rw[List.getElem?_eq_getElem hi] at h
 refine⟨ds[i],List.getElem?_eq_getElem hi,?_⟩
 intro hs
 simp only[hs,if_true] at h
 cases h
theorem AX {w:World} {bp bf n c:Nat} {ds:List DT} {rest:List Value} (hp:aY w bp [.slice (some ⟨bf,0,none⟩) n c]) (hf:aY w bf (flat eD ds++rest)) (hn:n=ds.length) (hlen:n<=4096) (v:Int):
 an Tryz.prog 20 (.el (.one (.int .i64))) [.pointer (some ⟨bp,0,none⟩),.int .i64 v] w (fun x w'=>x=(aX ds v:Int)/\Ext w w'):=by
 subst hn
 refine aL (C:=E0) (aJ:=rG) (Eq.mpr (Lv _ v w _) ?_)
 have H:=At.start [] w
 refine aA.go H fun b w1 H=>av.all 0 H rfl rfl rfl fun w2 H=>qD H _ v fun pc ic kc w3 H=>?_
 refine wD.go H (AV (v:=v) (pc:=pc) (ic:=ic) (kc:=kc) (bp:=bp) (bf:=bf) (c:=c) (rest:=rest) hlen)
  (fun i=>[(ic,[.func (.func 117) #[] #[.pointer (some ⟨kc,0,none⟩)]]),(pc,[.pointer (some ⟨bp,0,none⟩)]),(kc,[.int .i64 v]),(b,[.int .i64 (aX (ds.take i) v:Nat)])])
  (fun _ _=>False) rfl ?_ ?_ ?_ ?_ ?_ ?_
 ·exact fun D' i w' H=>⟨H.get (i:=1) rfl,H.get (i:=0) rfl,H.get (i:=2) rfl,H.old hp (by simp),H.old hf (by simp)⟩
 ·intro i hi hy
  obtain⟨d,hd,hs⟩:=zq hi hy
  simp only[AW hd,if_neg hs,Nat.add_zero]
 ·intro i x hi hy
  obtain⟨d,hd,hs,rfl⟩:=nX hy
  exact⟨((i:Nat),()),rfl⟩
 ·intro i x hi hy r l rec w4 R hr h1 _
  obtain⟨d,hd,hs,hx⟩:=nX hy
  refine Aa.go hr rfl (yI.go hr fun wb H hB=>ag.at 3 H rfl rfl (av.all 3 H rfl rfl rfl fun w5 H=>qg.next hB H fun w7 h7=>h1 w7 ?_))
  have hle:aX (ds.take i) v<=4096:=Nat.le_trans List.countP_le_length (by rw[List.length_take];omega)
  have e:au .i64 ((aX (ds.take i) v:Nat):Int) 1=((aX (ds.take (i+1)) v:Nat):Int):=by
   rw[AW hd,if_pos hs,ar (by omega) (by omega)];rfl
  rw[<-e]
  exact h7
 ·intro r rec w4 hr
  refine cO.none hr fun w5 H=>ag.at 3 H rfl rfl (qh.go H fun w6 H=>?_)
  exact⟨by rw[List.take_length],H.all⟩
 ·exact fun j L' r rec w4 hq _=>hq.elim
theorem AY {ds:List DT} {v:Int} {i:Nat} {d:DT} (h:ds[i]? =some d):fJ (ds.take (i+1)) v=fJ (ds.take i) v++(if d.2.1=v then[i] else[]):=by
 have hi:i<ds.length:=(List.getElem?_eq_some_iff.1 h).1
 unfold fJ
 rw[List.length_take,List.length_take,Nat.min_eq_left (by omega),Nat.min_eq_left (by omega),List.range_succ,List.filter_append]
 congr 1
 ·apply List.filter_congr
  intro j hj
  have hj':j<i:=by simpa using hj
  rw[List.getElem?_take_of_lt (by omega),List.getElem?_take_of_lt hj']
 ·simp only[List.filter_cons,List.filter_nil,List.getElem?_take_of_lt (Nat.lt_succ_self i),h,beq_iff_eq]
theorem Lz {w:World} {bp bf n c:Nat} {ds:List DT} {rest:List Value} (hp:aY w bp [.slice (some ⟨bf,0,none⟩) n c]) (hf:aY w bf (flat eD ds++rest)) (hn:n=ds.length) (hlen:n<=4096) (v:Int):
 an Tryz.prog 149 (.el (.one .slice)) [.pointer (some ⟨bp,0,none⟩),.int .i64 v] w (fun r w'=>iM w w' eI r ((fJ ds v).map fun i=>((i:Nat):Int))/\Ext w w'):=by
 subst hn
 refine aL (C:=E0) (aJ:=rH) (Eq.mpr (Lw _ v w _) ?_)
 have H:=At.start [] w
 refine aA.go H fun kc w1 H=>aA.go H fun b w2 H=>Of H _ _ fun pc ic w3 H=>?_
 let iL:Nat->List Int:=fun i=>(fJ (ds.take i) v).map fun i=>((i:Nat):Int)
 have Zf: ∀i,(iL i).length<=4096:=fun i=>by
  simp only[iL,List.length_map]
  refine Nat.le_trans (List.length_filter_le _ _) ?_
  simp only[List.length_range,List.length_take];omega
 let T0:Option Addr×Nat×Nat->List (Nat×List Value):=fun s=>[(ic,[.func (.func 202) #[] #[.pointer (some ⟨kc,0,none⟩)]]),(pc,[.pointer (some ⟨bp,0,none⟩)]),(b,[.slice s.1 s.2.1 s.2.2]),(kc,[.int .i64 v])]
 let Inv:Nat->List (Nat×List Value)->Prop:=fun i L'=> ∃s Ls,L'=Ls++T0 s/\((s=(none,0,0)/\iL i=[]/\Ls=[])\/ ∃bs cs rs,s=(some ⟨bs,0,none⟩,(iL i).length,cs)/\Ls=[(bs,flat eI (iL i)++rs)]/\(flat eI (iL i)++rs).length=cs*aI eI/\(iL i).length<=cs)
 refine wD.inv H (Lx (v:=v) (pc:=pc) (ic:=ic) (kc:=kc) (bp:=bp) (bf:=bf) (c:=c) (rest:=rest) hlen) Inv
  (fun _ _=>False) ⟨(none,0,0),[],rfl,.inl ⟨rfl,rfl,rfl⟩⟩ ?_ ?_ ?_ ?_ ?_ ?_
 ·rintro D' i w' L' ⟨s,Ls,rfl, _⟩ H
  have H:=H.sub (List.sublist_append_right Ls (T0 s))
  exact⟨H.get (i:=1) rfl,H.get (i:=0) rfl,H.get (i:=3) rfl,H.old hp (by simp),H.old hf (by simp)⟩
 ·rintro i L' hi hy ⟨s,Ls,rfl,hs⟩
  obtain⟨d,hd,hne⟩:=zq (Ii:=fun d=>d.2.1) hi hy
  have e:iL (i+1)=iL i:=by simp only[iL,AY hd,if_neg hne,List.append_nil]
  exact⟨s,Ls,rfl,by rw[e];exact hs⟩
 ·intro i x hi hy
  obtain⟨d,hd,hs,rfl⟩:=nX (Ii:=fun d=>d.2.1) hy
  exact⟨((i:Nat),()),rfl⟩
 ·rintro i x L' hi hy ⟨s,Ls,rfl,hs⟩ r l rec w4 R hr h1 _
  obtain⟨d,hd,hsel,hx⟩:=nX (Ii:=fun d=>d.2.1) hy
  have ex:x.1=((i:Nat):Int):=by
   have h:[Value.int .i64 x.1]=[Value.int .i64 (i:Nat)]:=hx
   simpa using h
  obtain⟨x1,u⟩:=x
  simp only at ex
  subst ex
  have e:iL (i+1)=iL i++[((i:Nat):Int)]:=by simp only[iL,AY hd,if_pos hsel,List.map_append,List.map_cons,List.map_nil]
  have hl:=Zf i
  have hl':(iL (i+1)).length=(iL i).length+1:=by rw[e];simp
  refine Aa.go hr rfl (yI.go hr fun wb H hB=>ag.of s ?_ (aA.go H fun b2 w5 H=>fun w6 h6=>?_))
  ·exact(H.cY (b,[.slice s.1 s.2.1 s.2.2]) (List.mem_append_right _ (by simp[T0]))).lG rfl
  ·refine aF.grow (e:=eI) (x:=((i:Nat):Int)) (Ls:=Ls) (L0:=T0 s) (H.ext h6) hs rfl rfl rfl (by omega) fun bs cs rs w7 k1 k2 H=>?_
   refine av.all 3 H rfl rfl rfl fun w8 H=>qg.next hB H fun w9 h9=>h1 _ w9 ⟨(some ⟨bs,0,none⟩,(iL i).length+1,cs),[(bs,flat eI (iL (i+1))++rs)],rfl,.inr ⟨bs,cs,rs,by rw[hl'],rfl,by rw[e];exact k1,by rw[hl'];exact k2⟩⟩ ?_
   rw[e];exact h9
 ·rintro L' r rec w4 ⟨s,Ls,rfl,hs⟩ hr
  refine cO.none hr fun w5 H=>ag.of s ?_ (qh.go H fun w6 H=>?_)
  ·exact(H.cY (b,[.slice s.1 s.2.1 s.2.2]) (List.mem_append_right _ (by simp[T0]))).lG rfl
  ·refine⟨?_,H.all⟩
   have eL:iL ds.length=(fJ ds v).map fun i=>((i:Nat):Int):=by simp only[iL,List.take_length]
   rw[<-eL]
   rcases hs with ⟨rfl,h2,rfl⟩|⟨bs,cs,rs,rfl,rfl,h3,h4⟩
   ·rw[h2];exact iM.nil _ _ _
   ·refine⟨rfl,h4,.inr ⟨bs, _,rfl,(H.own _ (List.mem_append_left _ (List.mem_singleton.2 rfl))).resolve_right (by simp),H.get (i:=0) rfl,h3,?_⟩⟩
    rw[List.take_append_of_le_length (by rw[aG];exact Nat.le_refl _),List.take_of_length_le (by rw[aG];exact Nat.le_refl _)]
 ·exact fun j L' r rec w4 hq _=>hq.elim
end Go.Proofs.YtdnoecpjcoibmaaGreat.D
namespace Go.Proofs.YtdnoecpjcoibmaaGreat.D
set_option maxRecDepth 100000
open Go.RX
def gE (ds:List DT):Option Nat:=ds.findIdx? fun d=>d.1==0
def eO (ds:List DT) (k o:Int):Int:=match gE ds with
 |none=>0
 |some f=>if sP ds f (aE k o)=0 then(f:Int) else 0
def dj (ds:List DT) (k o:Int):Int:=if ds.length=0 then 10 else match gE ds with
 |none=>12
 |some f=>sP ds f (aE k o)
def c8 (ds:List DT) (k o:Int):List DT:=match gE ds with
 |none=>ds
 |some f=>fQ ds f (aE k o)
theorem sw (ds:List DT) (k o:Int):(c8 ds k o).length=ds.length:=by
 unfold c8;split
 ·rfl
 ·exact gZ _ _ _
theorem Gn {ds:List DT} (h: ∀(j:Nat) d,ds[j]? =some d->d.1≠0):gE ds=none:=by
 unfold gE
 rw[List.findIdx?_eq_none_iff]
 intro d hd
 obtain⟨j,hj⟩:=List.getElem?_of_mem hd
 simpa using h j d hj
theorem Gp {ds:List DT} {i:Nat} {d:DT} (hi:ds[i]? =some d) (hd:d.1=0) (h: ∀(j:Nat) d,j<i->ds[j]? =some d->d.1≠0):gE ds=some i:=by
 unfold gE
 have hlt:i<ds.length:=(List.getElem?_eq_some_iff.1 hi).1
 rw[List.findIdx?_eq_some_iff_getElem]
 refine⟨hlt,?_,fun j hj=>?_⟩
 ·have e:ds[i]=d:=(List.getElem?_eq_some_iff.1 hi).2
  rw[e];simpa using hd
 ·have:=h j ds[j] hj (List.getElem?_eq_getElem (by omega))
  simpa using this
theorem Om {w:World} {bp bf n c:Nat} {ds:List DT} {rest:List Value} (hp:aY w bp [.slice (some ⟨bf,0,none⟩) n c]) (hf:aY w bf (flat eD ds++rest)) (hne:bp≠bf) (hn:n=ds.length) (hlen:n<=4096) (k o:Int):
 an Tryz.prog 155 (.bq [.one (.int .i64),.one (.int .i64)]) [.pointer (some ⟨bp,0,none⟩),.int .i64 k,.int .i64 o] w
  (fun v w'=>v=(eO ds k o,dj ds k o,())/\aY w' bf (flat eD (c8 ds k o)++rest)/\Fr [bf] w w'):=by
 subst hn
 refine aL (C:=E0) (aJ:=tM) (Eq.mpr (Oe _ k o w _) ?_)
 have H:=At.pP hf
 have oy:bp∉[bf]:=by simpa using hne
 refine aA.go H fun b w1 H=>aA.go H fun b1 w2 H=>aA.go H fun b2 w3 H=>aA.go H fun b3 w4 H=>aA.go H fun b4 w5 H=>ag.at 4 H rfl rfl ?_
 refine⟨(ds.length:Int),ah.of (s:= .el (.one (.int .i64))) fun w' h=>pR ((H.old hp oy).ext h),aa (fun c0=>?_) (fun c0=>ag.at 4 H rfl rfl ?_)⟩
 ·have h0:ds.length=0:=by simp only[beq_iff_eq] at c0;omega
  have hd:ds=[]:=List.eq_nil_of_length_eq_zero h0
  refine av.all 1 H rfl rfl rfl fun w6 H=>av.all 0 H rfl rfl rfl fun w7 H=>aj.go H fun w8 H=>ag.at 1 H rfl rfl (ag.at 0 H rfl rfl ⟨?_,?_,H.fr⟩)
  ·subst hd;rfl
  ·subst hd;exact H.get (i:=5) rfl
 have h0:ds.length≠0:=by simp only[beq_eq_false_iff_ne,ne_eq] at c0;omega
 refine qD H _ 0 fun pc ic kc w6 H=>?_
 let T:Int->Int->List DT->List (Nat×List Value):=fun x y l=>[(ic,[.func (.func 117) #[] #[.pointer (some ⟨kc,0,none⟩)]]),(pc,[.pointer (some ⟨bp,0,none⟩)]),(kc,[.int .i64 0]),(b4,[.int .i64 y]),(b3,[.int .i64 x]),(b2,[.int .i64 o]),(b1,[.int .i64 k]),(b,[.pointer (some ⟨bp,0,none⟩)]),(bf,flat eD l++rest)]
 refine wD.inv H (AV (v:=0) (pc:=pc) (ic:=ic) (kc:=kc) (bp:=bp) (bf:=bf) (c:=c) (rest:=rest) hlen)
  (fun i L'=>L'=T 0 0 ds/\ ∀(j:Nat) d,j<i->ds[j]? =some d->d.1≠0)
  (fun j L'=>j= .ret/\ ∃i:Nat,gE ds=some i/\L'=T (if sP ds i (aE k o)=0 then(i:Int) else 0) (sP ds i (aE k o)) (fQ ds i (aE k o))) ⟨rfl,fun j d hj=>absurd hj (by omega)⟩ ?_ ?_ ?_ ?_ ?_ ?_
 ·rintro D' i w' L' ⟨rfl, _⟩ H
  exact⟨H.get (i:=1) rfl,H.get (i:=0) rfl,H.get (i:=2) rfl,H.old hp oy,H.get (i:=8) rfl⟩
 ·rintro i L' hi hy ⟨rfl,hj⟩
  obtain⟨d,hd,hs⟩:=zq (Ii:=fun d=>d.1) hi hy
  refine⟨rfl,fun j d' hji HW=>?_⟩
  by_cases e:j=i
  ·subst e;rw[hd] at HW;cases HW;exact hs
  ·exact hj j d' (by omega) HW
 ·intro i x hi hy
  obtain⟨d,hd,hs,rfl⟩:=nX (Ii:=fun d=>d.1) hy
  exact⟨((i:Nat),()),rfl⟩
 ·rintro i ⟨x1,u⟩ L' hi hy ⟨rfl,hj⟩ r l rec w7 R hr _ h2
  obtain⟨d,hd,hs,hx⟩:=nX (Ii:=fun d=>d.1) hy
  have ex:x1=((i:Nat):Int):=by
   have h:[Value.int .i64 x1]=[Value.int .i64 (i:Nat)]:=hx
   simpa using h
  subst ex
  have hfr:=Gp hd hs hj
  refine Aa.go hr rfl (yI.go hr fun wb H hB=>ag.at 7 H rfl rfl (ag.at 6 H rfl rfl (ag.at 5 H rfl rfl ?_)))
  refine az.Ao H 8 rfl (fun w8 H=>zo (hB.2.1.keep H hp oy) (H.get (i:=8) rfl) hne hlen _ k o) fun w8 H=>aa (fun c=>?_) (fun c=>?_)
  ·have hc: ¬ sP ds (i:Nat) (aE k o)=0:=by simpa using c
   refine av.all 4 H rfl rfl rfl fun w9 H=>av.all 3 H rfl rfl rfl fun lE H=>qg.left hB H fun mh zU=>h2 _ _ mh ⟨rfl,i,hfr,?_⟩ zU
   rw[if_neg hc];rfl
  ·have hc:sP ds (i:Nat) (aE k o)=0:=by simpa using c
   refine av.all 4 H rfl rfl rfl fun w9 H=>av.all 3 H rfl rfl rfl fun lE H=>qg.left hB H fun mh zU=>h2 _ _ mh ⟨rfl,i,hfr,?_⟩ zU
   rw[if_pos hc,hc];rfl
 ·rintro L' r rec w7 ⟨rfl,hj⟩ hr
  have hfr:gE ds=none:=Gn fun j d hd=>hj j d (List.getElem?_eq_some_iff.1 hd).1 hd
  refine cO.none hr fun w8 H=>av.all 4 H rfl rfl rfl fun w9 H=>av.all 3 H rfl rfl rfl fun lE H=>qh.go H fun mh H=>ag.at 4 H rfl rfl (ag.at 3 H rfl rfl ⟨?_,?_,H.fr⟩)
  ·unfold eO dj;rw[hfr,if_neg h0]
  ·have:c8 ds k o=ds:=by unfold c8;rw[hfr]
   rw[this];exact H.get (i:=8) rfl
 ·rintro j L' r rec w7 ⟨rfl,i,hfr,rfl⟩ hr
  refine cO.ret hr fun w8 H=>qh.go H fun w9 H=>ag.at 4 H rfl rfl (ag.at 3 H rfl rfl ⟨?_,?_,H.fr⟩)
  ·unfold eO dj;rw[hfr,if_neg h0]
  ·have:c8 ds k o=fQ ds i (aE k o):=by unfold c8;rw[hfr]
   rw[this];exact H.get (i:=8) rfl
end Go.Proofs.YtdnoecpjcoibmaaGreat.D
namespace Go.Proofs.YtdnoecpjcoibmaaGreat
set_option maxRecDepth 100000
open Go.RX
abbrev TE:Sh:= .el (.one (.rN 221 2))
abbrev Cl:Sh:= .el (.one (.rN 258 3))
noncomputable def N0:dD Tryz.prog:={M0 with sh:=[(175,TE),(240,Cl)],quiet:=[30,243,39,20,106,75,206,108,242]}
theorem Gq (p:Option Addr) (w:World) (Post:Int->World->Prop):(aH N0 (fun _=>[]) 106 [.pointer p] w Post)=(
 ((!p.isNone)=true->p.isSome=true)/\((!p.isNone)=true->p.isSome=true)/\ag w (some !p.isNone) (af p 0) (.one .ptr) fun x=>aB (p.isNone||x.isNone) (aj w fun w1=>Post 10 w1) (p.isSome=true/\p.isSome=true/\ag w none (af p 4) (.one .bool) fun x=>aB x (aj w fun w1=>Post 6 w1) (aj w fun w1=>Post 0 w1))):=by kernel_rfl
theorem LA (p:Option Addr) (w:World) (Post:Int->World->Prop):(aH N0 (fun _=>[]) 75 [.pointer p] w Post)=(
 ∃(x:Int),ah Tryz.prog 106 [.pointer p] w (.int .i64 x)/\aB (x != 0) (aj w fun w1=>Post (-1) w1) (p.isSome=true/\p.isSome=true/\ag w none (af p 3) (.one (.int .i64)) fun(x:Int)=>aj w fun w1=>Post x w1)):=by kernel_rfl
theorem Gr (p f r:Int) (w:World) (Post:Int->World->Prop):(aH N0 (fun _=>[]) 206 [.int .i64 p,.int .i64 f,.int .i64 r] w Post)=(
 aB (decide (p<0)||decide (p>=65536)||decide (f<0)||decide (f>=4096)) (aj w fun w1=>Post 2 w1) (aB (decide (r<1)||decide (r>7)) (aj w fun w1=>Post 7 w1) (aj w fun w1=>Post 0 w1))):=by kernel_rfl
theorem Gs (f:Int) (w:World) (Post:(Bool×Int×Bool×Int×Unit)->World->Prop):(bM N0 (fun _=>[]) 242 [.int .i64 f] w Post)=(
 aA w ⟨[.bool false,.int .i64 0,.bool false,.int .i64 0]⟩ 180 fun b w2=>av w2 (some ⟨b,0,none⟩) [.bool true,.int .i64 0,.bool false,.int .i64 f] fun w2=>aj w2 fun w1=>ag w1 none (some ⟨b,0,none⟩) (.agg [.bool,.int .i64,.bool,.int .i64]) fun(x:Bool×Int×Bool×Int×Unit)=>Post (x.1,x.2.1,x.2.2.1,x.2.2.2.1,Unit.unit) w1):=by kernel_rfl
theorem Gt (p xf xl xw:Int) (ep:Bool) (er:Int) (el:Bool) (ef:Int) (w:World) (Post:Int->World->Prop):(aH N0 (fun _=>[]) 108 [.int .i64 p,.agg ⟨[.int .i64 xf,.int .i64 xl,.int .i64 xw]⟩,.agg ⟨[.bool ep,.int .i64 er,.bool el,.int .i64 ef]⟩] w Post)=(
 aA w ⟨[.int .i64 xf,.int .i64 xl,.int .i64 xw]⟩ 178 fun b w2=>aA w2 ⟨[.bool ep,.int .i64 er,.bool el,.int .i64 ef]⟩ 180 fun b_1 w2=>true=true/\ag w2 none (af (some ⟨b,0,none⟩) 1) (.one (.int .i64)) fun(x:Int)=>aB (x==1) (true=true/\ag w2 none (af (some ⟨b_1,0,none⟩) 3) (.one (.int .i64)) fun(x:Int)=>True/\fD 1≠0/\aj w2 fun w1=>Post (au .i64 x (dM p (fD 1))) w1) (true=true/\ag w2 none (af (some ⟨b_1,0,none⟩) 3) (.one (.int .i64)) fun(x:Int)=>aj w2 fun w1=>Post x w1)):=by kernel_rfl
theorem Jz (p:Option Addr) (i:Int) (w:World) (Post:(Bool×Int×Bool×Int×Unit)->World->Prop):(bM N0 (fun _=>[]) 176 [.pointer p,.int .i64 i] w Post)=(
 aA w ⟨[.bool false,.int .i64 0,.bool false,.int .i64 0]⟩ 180 fun b w2=>p.isSome=true/\p.isSome=true/\ag w2 none (af p 0) (.one .ptr) fun x=>az Tryz.prog 162 (.bq [.one (.int .u64),.one (.int .i64)]) [.pointer x,.int .i64 i] w2 fun(x:Int×Int×Unit) w2=>U (B x.1)=x.1/\aA w2 ⟨[.bool false,.int .i64 0,.bool false,.int .i64 0]⟩ 180 fun b_1 w2=>av w2 (some ⟨b_1,0,none⟩) [.bool (wY (B x.1).toNat),.int .i64 (yK (B x.1).toNat),.bool (yL (B x.1).toNat),.int .i64 (wE (B x.1).toNat)] fun w2=>ag w2 none (some ⟨b_1,0,none⟩) (.agg [.bool,.int .i64,
 .bool,.int .i64]) fun(x:Bool×Int×Bool×Int×Unit)=>av w2 (some ⟨b,0,none⟩) [.bool x.1,.int .i64 x.2.1,.bool x.2.2.1,.int .i64 x.2.2.2.1] fun w2=>aj w2 fun w1=>ag w1 none (some ⟨b,0,none⟩) (.agg [.bool,.int .i64,.bool,.int .i64]) fun(x:Bool×Int×Bool×Int×Unit)=>Post (x.1,x.2.1,x.2.2.1,x.2.2.2.1,Unit.unit) w1):=by kernel_rfl
theorem On (p:Option Addr) (i:Int) (ep:Bool) (er:Int) (el:Bool) (ef:Int) (w:World) (Post:Unit->World->Prop):(aH N0 (fun _=>[]) 212 [.pointer p,.int .i64 i,.agg ⟨[.bool ep,.int .i64 er,.bool el,.int .i64 ef]⟩] w Post)=(
 aA w ⟨[.bool ep,.int .i64 er,.bool el,.int .i64 ef]⟩ 180 fun b w2=>ag w2 none (some ⟨b,0,none⟩) (.agg [.bool,.int .i64,.bool,.int .i64]) fun(x:Bool×Int×Bool×Int×Unit)=>True/\p.isSome=true/\p.isSome=true/\ag w2 none (af p 0) (.one .ptr) fun x_1=>az Tryz.prog 157 (.el (.one (.int .i64))) [.pointer x_1,.int .i64 i,.int .u64 (uH x.1 x.2.1 x.2.2.1 x.2.2.2.1)] w2 fun(x:Int) w2=>aj w2 fun w1=>Post Unit.unit w1):=by kernel_rfl
theorem Oo (p:Option Addr) (pg:Int) (w:World) (Post:Option Addr×Option Addr×Unit->World->Prop):(aH N0 (fun _=>[]) 175 [.pointer p,.int .i64 pg] w Post)=(
 aA w ⟨[.pointer p]⟩ 110 fun b w2=>aA w2 ⟨[.int .i64 pg]⟩ 3 fun b_1 w2=>aj w2 fun w1=>Post (some ⟨b,0,none⟩,some ⟨b_1,0,none⟩,Unit.unit) w1):=by kernel_rfl
def rI:Nat->aQ:=(fun|2=>[(4,Go.RX.El.one (Go.RX.Sc.int Go.IntKind.i64)),(5,Go.RX.El.one (Go.RX.Sc.int Go.IntKind.i64))]| _=>[])
theorem LB (y:Nat) (p c:Option Addr) (w:World) (Post:Unit->World->Prop):(aH N0 rI 221 [.func (.yield y) #[] #[],.pointer p,.pointer c] w Post)=(
 ag w none p (.one .ptr) fun x=>x.isSome=true/\x.isSome=true/\ag w none (af x 3) (.one (.int .i64)) fun(x:Int)=> ∃(I:Nat->Int×Int×Unit->World->Prop),(∃n, ∀w1,Ext w w1->I n (x,3,Unit.unit) w1)/\ ∀(n:Nat) (s:Int×Int×Unit) (w1:World),I n s w1->aB (decide (s.2.1>=0)) (ag w1 none c (.one (.int .i64)) fun(x:Int)=>True/\aA w1 ⟨[.int .i64 0,.int .i64 0,.int .i64 0]⟩ 178 fun b w2=>av w2 (some ⟨b,0,none⟩) [.int .i64 s.1,.int .i64 s.2.1,.int .i64 (dX s.1 x s.2.1)] fun w2=>ag w2 none p (.one .ptr) fun x=>true=true/\ag w2 none
 (af (some ⟨b,0,none⟩) 2) (.one (.int .i64)) fun(x_1:Int)=>az Tryz.prog 176 (.el (.agg [.bool,.int .i64,.bool,.int .i64])) [.pointer x,.int .i64 x_1] w2 fun(x:Bool×Int×Bool×Int×Unit) w2=>aA w2 ⟨[.bool false,.int .i64 0,.bool false,.int .i64 0]⟩ 180 fun b_1 w2=>av w2 (some ⟨b_1,0,none⟩) [.bool x.1,.int .i64 x.2.1,.bool x.2.2.1,.int .i64 x.2.2.2.1] fun w2=>ag w2 none (some ⟨b,0,none⟩) (.agg [.int .i64,.int .i64,.int .i64]) fun(x:Int×Int×Int×Unit)=> ∀w1,Ext w2 w1->ko Tryz.prog y [.agg ⟨[.int .i64 x.1,.int .i64 x.2.1,.int .i64
 x.2.2.1]⟩] w1 fun(b:Bool) w2=>ag w2 (some !!b) (some ⟨b_1,0,none⟩) (.agg [.bool,.int .i64,.bool,.int .i64]) fun(x:Bool×Int×Bool×Int×Unit)=>((!!b)=true->True)/\aB (!b|| !fy x.1 x.2.1 x.2.2.1 x.2.2.2.1) (aj w2 fun w1=>Post Unit.unit w1) (true=true/\ag w2 none (af (some ⟨b_1,0,none⟩) 3) (.one (.int .i64)) fun(x:Int)=> ∀w3,Ext w2 w3-> ∃(n':Nat),n'<n/\I n' (x,bL .i64 s.2.1 1,Unit.unit) w3)) (aj w1 fun w1=>Post Unit.unit w1)):=by kernel_rfl
def rJ:Nat->aQ:=(fun|4=>[(6,.agg [.int .i64,.int .i64,.int .i64])]| _=>[])
theorem LC (p c:Option Addr) (w:World) (Post:Option Addr×Nat×Nat->World->Prop):(bM N0 rJ 174 [.func (.func 221) #[] #[.pointer p,.pointer c]] w Post)=(
 aA w ⟨[.slice none 0 0]⟩ 233 fun b w2=>wD Tryz.prog 221 (fun(y:Nat)=>[.func (Fn.yield y) ⟨[]⟩ ⟨[]⟩,.pointer p,.pointer c]) ⟨[6]⟩ w2 (fun(x:(Int×Int×Int×Unit)×Unit)=>[.agg ⟨[.int .i64 x.1.1,.int .i64 x.1.2.1,.int .i64 x.1.2.2.1]⟩]) (fun(l:Nat) (rec:Loop) (x:(Int×Int×Int×Unit)×Unit) w3 (R:Bool->World->Prop)=>Aa l rec [Value.agg ⟨[.int .i64 x.1.1,.int .i64 x.1.2.1,.int .i64 x.1.2.2.1]⟩].length 1 w3 (aA w3 ⟨[.int .i64 0,.int .i64 0,.int .i64 0]⟩ 178 fun b_1 w2=>av w2 (some ⟨b_1,0,none⟩) [.int .i64 x.1.1,.int .i64 x.1.2.1,.int .i64
 x.1.2.2.1] fun w2=>yI l rec w2 fun w5=>ag w5 none (some ⟨b,0,none⟩) (.one .slice) fun x=>ag w5 none (some ⟨b_1,0,none⟩) (.agg [.int .i64,.int .i64,.int .i64]) fun(x_1:Int×Int×Int×Unit)=>aA w5 ⟨[.int .i64 x_1.1,.int .i64 x_1.2.1,.int .i64 x_1.2.2.1]⟩ 178 fun b_2 w2=> ∀w1,Ext w2 w1->tV w1 178 3 24 ⟨[.int .i64 0,.int .i64 0,.int .i64 0]⟩ (x.1,x.2.1,x.2.2) (some ⟨b_2,0,none⟩,1,1) fun(r:Option Addr×Nat×Nat) w2=>av w2 (some ⟨b,0,none⟩) [.slice r.1 r.2.1 r.2.2] fun w2=>qg l rec none w2 R)) fun(r:Nat) (rec:Loop) w4=>cO (r+1) rec
 w4 (fun w5=>ag w5 none (some ⟨b,0,none⟩) (.one .slice) fun x=>qh [r] w5 fun w1=>Post (x.1,x.2.1,x.2.2) w1) (fun(id:Nat) w5=>Decidable.rec (fun(h:id=0->False)=>False) (fun(h:id=0)=>ag w5 none (some ⟨b,0,none⟩) (.one .slice) fun x=>qh [r] w5 fun w1=>Post (x.1,x.2.1,x.2.2) w1) (match h:id.beq 0 with|true=>isTrue (Nat.eq_of_beq_eq_true h)|false=>isFalse (Nat.ne_of_beq_eq_false h))) fun w5=>qh [r] w5 fun w1=>Post (none,0,0) w1):=by kernel_rfl
theorem Oq (p:Option Addr) (pg:Int) (w:World) (Post:(Int×Int×Int×Unit)×(Bool×Int×Bool×Int×Unit)×Unit->World->Prop):(bM N0 (fun _=>[]) 107 [.pointer p,.int .i64 pg] w Post)=(
 aA w ⟨[.int .i64 0,.int .i64 0,.int .i64 0]⟩ 178 fun b w2=>aA w2 ⟨[.bool false,.int .i64 0,.bool false,.int .i64 0]⟩ 180 fun b_1 w2=>az Tryz.prog 175 (.el (.one (.rN 221 2))) [.pointer p,.int .i64 pg] w2 fun x w2=>az Tryz.prog 174 (.el (.one .slice)) [.func (.func 221) ⟨[]⟩ ⟨[.pointer x.1,.pointer x.2.1]⟩] w2 fun x w2=>(x.1.isSome=true/\0<=bL .i64 (↑x.2.1:Int) 1/\bL .i64 (↑x.2.1:Int) 1<(↑x.2.1:Int))/\ag w2 none (af x.1 ((bL .i64 (↑x.2.1:Int) 1).toNat*3)) (.agg [.int .i64,.int .i64,.int .i64]) fun(x:Int×Int×Int×Unit)=>aA w2 ⟨[.int
 .i64 0,.int .i64 0,.int .i64 0]⟩ 178 fun b_2 w2=>av w2 (some ⟨b_2,0,none⟩) [.int .i64 x.1,.int .i64 x.2.1,.int .i64 x.2.2.1] fun w2=>ag w2 none (some ⟨b_2,0,none⟩) (.agg [.int .i64,.int .i64,.int .i64]) fun(x:Int×Int×Int×Unit)=>true=true/\ag w2 none (af (some ⟨b_2,0,none⟩) 2) (.one (.int .i64)) fun(x_1:Int)=>az Tryz.prog 176 (.el (.agg [.bool,.int .i64,.bool,.int .i64])) [.pointer p,.int .i64 x_1] w2 fun(x_2:Bool×Int×Bool×Int×Unit) w2=>cg w2 (some ⟨b_2,0,none⟩) (.agg [.int .i64,.int .i64,.int .i64]) x/\av w2 (some ⟨b,0,none⟩)
 [.int .i64 x.1,.int .i64 x.2.1,.int .i64 x.2.2.1] fun w2=>av w2 (some ⟨b_1,0,none⟩) [.bool x_2.1,.int .i64 x_2.2.1,.bool x_2.2.2.1,.int .i64 x_2.2.2.2.1] fun w2=>aj w2 fun w1=>ag w1 none (some ⟨b,0,none⟩) (.agg [.int .i64,.int .i64,.int .i64]) fun(x:Int×Int×Int×Unit)=>ag w1 none (some ⟨b_1,0,none⟩) (.agg [.bool,.int .i64,.bool,.int .i64]) fun(x_3:Bool×Int×Bool×Int×Unit)=>Post ((x.1,x.2.1,x.2.2.1,Unit.unit),(x_3.1,x_3.2.1,x_3.2.2.1,x_3.2.2.2.1,Unit.unit),Unit.unit) w1):=by kernel_rfl
def oU:Nat->aQ:=(fun|5=>[(24,Go.RX.El.one (Go.RX.Sc.int Go.IntKind.i64))]| _=>[])
theorem Gu (p:Option Addr) (w:World) (Post:Int×Int×Unit->World->Prop):(aH N0 oU 200 [.pointer p,.func (.func 201) #[] #[]] w Post)=(
 p.isSome=true/\p.isSome=true/\ag w none (af p 1) (.one .ptr) fun x=>p.isSome=true/\p.isSome=true/\ag w none (af p 2) (.one (.int .i64)) fun(x_1:Int)=>az Tryz.prog 155 (.bq [.one (.int .i64),.one (.int .i64)]) [.pointer x,.int .i64 3,.int .i64 x_1] w fun(x:Int×Int×Unit) w2=>aB (x.2.1 != 0) (aj w2 fun w1=>Post (0,x.2.1,Unit.unit) w1) (∃(I:Nat->Int×Unit->World->Prop),(∃n, ∀w1,Ext w2 w1->I n (0,Unit.unit) w1)/\ ∀(n:Nat) (s:Int×Unit) (w1:World),I n s w1->aB (decide (s.1<16)) (p.isSome=true/\p.isSome=true/\ag w1 none
 (af p 0) (.one .ptr) fun x_2=>az Tryz.prog 201 (.el (.one (.int .u64))) [.int .i64 s.1] w1 fun(x_3:Int) w2=>True/\True/\cg w2 (af p 0) (.one .ptr) x_2/\True/\True/\az Tryz.prog 157 (.el (.one (.int .i64))) [.pointer x_2,.int .i64 (au .i64 (b_ .i64 16 x.1) s.1),.int .u64 x_3] w2 fun(x:Int) w2=> ∀w3,Ext w2 w3-> ∃(n':Nat),n'<n/\I n' (au .i64 s.1 1,Unit.unit) w3) (aj w1 fun w1=>Post (x.1,0,Unit.unit) w1))):=by kernel_rfl
def oW:Nat->aQ:=(fun|5=>[(24,Go.RX.El.one (Go.RX.Sc.int Go.IntKind.i64))]| _=>[])
theorem Gv (p:Option Addr) (w:World) (Post:Int×Int×Unit->World->Prop):(aH N0 oW 200 [.pointer p,.func (.func 241) #[] #[]] w Post)=(
 p.isSome=true/\p.isSome=true/\ag w none (af p 1) (.one .ptr) fun x=>p.isSome=true/\p.isSome=true/\ag w none (af p 2) (.one (.int .i64)) fun(x_1:Int)=>az Tryz.prog 155 (.bq [.one (.int .i64),.one (.int .i64)]) [.pointer x,.int .i64 3,.int .i64 x_1] w fun(x:Int×Int×Unit) w2=>aB (x.2.1 != 0) (aj w2 fun w1=>Post (0,x.2.1,Unit.unit) w1) (∃(I:Nat->Int×Unit->World->Prop),(∃n, ∀w1,Ext w2 w1->I n (0,Unit.unit) w1)/\ ∀(n:Nat) (s:Int×Unit) (w1:World),I n s w1->aB (decide (s.1<16)) (p.isSome=true/\p.isSome=true/\ag w1 none
 (af p 0) (.one .ptr) fun x_2=>az Tryz.prog 241 (.el (.one (.int .u64))) [.int .i64 s.1] w1 fun(x_3:Int) w2=>True/\True/\cg w2 (af p 0) (.one .ptr) x_2/\True/\True/\az Tryz.prog 157 (.el (.one (.int .i64))) [.pointer x_2,.int .i64 (au .i64 (b_ .i64 16 x.1) s.1),.int .u64 x_3] w2 fun(x:Int) w2=> ∀w3,Ext w2 w3-> ∃(n':Nat),n'<n/\I n' (au .i64 s.1 1,Unit.unit) w3) (aj w1 fun w1=>Post (x.1,0,Unit.unit) w1))):=by kernel_rfl
def oX:Nat->aQ:=(fun|5=>[(24,Go.RX.El.one (Go.RX.Sc.int Go.IntKind.i64))]| _=>[])
theorem Gw (p e:Option Addr) (w:World) (Post:Int×Int×Unit->World->Prop):(aH N0 oX 200 [.pointer p,.func (.func 244) #[] #[.pointer e]] w Post)=(
 p.isSome=true/\p.isSome=true/\ag w none (af p 1) (.one .ptr) fun x=>p.isSome=true/\p.isSome=true/\ag w none (af p 2) (.one (.int .i64)) fun(x_1:Int)=>az Tryz.prog 155 (.bq [.one (.int .i64),.one (.int .i64)]) [.pointer x,.int .i64 3,.int .i64 x_1] w fun(x:Int×Int×Unit) w2=>aB (x.2.1 != 0) (aj w2 fun w1=>Post (0,x.2.1,Unit.unit) w1) (∃(I:Nat->Int×Unit->World->Prop),(∃n, ∀w1,Ext w2 w1->I n (0,Unit.unit) w1)/\ ∀(n:Nat) (s:Int×Unit) (w1:World),I n s w1->aB (decide (s.1<16)) (p.isSome=true/\p.isSome=true/\ag w1 none
 (af p 0) (.one .ptr) fun x_2=>az Tryz.prog 244 (.el (.one (.int .u64))) [.int .i64 s.1,.pointer e] w1 fun(x_3:Int) w2=>True/\True/\cg w2 (af p 0) (.one .ptr) x_2/\True/\True/\az Tryz.prog 157 (.el (.one (.int .i64))) [.pointer x_2,.int .i64 (au .i64 (b_ .i64 16 x.1) s.1),.int .u64 x_3] w2 fun(x:Int) w2=> ∀w3,Ext w2 w3-> ∃(n':Nat),n'<n/\I n' (au .i64 s.1 1,Unit.unit) w3) (aj w1 fun w1=>Post (x.1,0,Unit.unit) w1))):=by kernel_rfl
theorem LD (i:Int) (w:World) (Post:Int->World->Prop):(aH N0 (fun _=>[]) 201 [.int .i64 i] w Post)=(
 aj w fun w1=>Post 0 w1):=by kernel_rfl
theorem LF (i:Int) (w:World) (Post:Int->World->Prop):(aH N0 (fun _=>[]) 241 [.int .i64 i] w Post)=(
 aj w fun w1=>Post 0 w1):=by kernel_rfl
theorem C9 (i:Int) (e:Option Addr) (w:World) (Post:Int->World->Prop):(aH N0 (fun _=>[]) 244 [.int .i64 i,.pointer e] w Post)=(
 e.isSome=true/\ag w none (af e 1) (.one (.int .i64)) fun(x:Int)=>e.isSome=true/\ag w none (af e 3) (.one (.int .i64)) fun(x_1:Int)=>True/\aj w fun w1=>Post (uH true x false (au .i64 x_1 i)) w1):=by kernel_rfl
def tN:Nat->aQ:=(fun|6=>[]| _=>[])
theorem Ot (p:Option Addr) (pg lv:Int) (ep:Bool) (er:Int) (el:Bool) (ef:Int) (w:World) (Post:Int->World->Prop):(aH N0 tN 207 [.pointer p,.int .i64 pg,.int .i64 lv,.agg ⟨[.bool ep,.int .i64 er,.bool el,.int .i64 ef]⟩] w Post)=(
 aA w ⟨[.bool ep,.int .i64 er,.bool el,.int .i64 ef]⟩ 180 fun b w2=>az Tryz.prog 107 (.bq [.agg [.int .i64,.int .i64,.int .i64],.agg [.bool,.int .i64,.bool,.int .i64]]) [.pointer p,.int .i64 pg] w2 fun(x:(Int×Int×Int×Unit)×(Bool×Int×Bool×Int×Unit)×Unit) w2=>aA w2 ⟨[.int .i64 0,.int .i64 0,.int .i64 0]⟩ 178 fun b_1 w2=>aA w2 ⟨[.bool false,.int .i64 0,.bool false,.int .i64 0]⟩ 180 fun b_2 w2=>av w2 (some ⟨b_1,0,none⟩) [.int .i64 x.1.1,.int .i64 x.1.2.1,.int .i64 x.1.2.2.1] fun w2=>av w2 (some ⟨b_2,0,none⟩) [.bool x.2.1.1,.int .i64
 x.2.1.2.1,.bool x.2.1.2.2.1,.int .i64 x.2.1.2.2.2.1] fun w2=>true=true/\ag w2 none (af (some ⟨b_2,0,none⟩) 0) (.one .bool) fun x=>((!x)=true->true=true)/\ag w2 (some !x) (af (some ⟨b_1,0,none⟩) 1) (.one (.int .i64)) fun(x_1:Int)=>aB (x||decide (x_1<lv)) (aj w2 fun w1=>Post 5 w1) (p.isSome=true/\p.isSome=true/\ag w2 none (af p 1) (.one .ptr) fun x=> ∃(x_2:Int),ah Tryz.prog 20 [.pointer x,.int .i64 0] w2 (.int .i64 x_2)/\true=true/\ag w2 none (af (some ⟨b_1,0,none⟩) 1) (.one (.int .i64)) fun(x:Int)=>aB (decide (x_2<bL
 .i64 x lv)) (aj w2 fun w1=>Post 12 w1) (∃(I:Nat->Unit->World->Prop),(∃n, ∀w1,Ext w2 w1->I n Unit.unit w1)/\ ∀(n:Nat) (s:Unit) (w1:World),I n s w1->true=true/\ag w1 none (af (some ⟨b_1,0,none⟩) 1) (.one (.int .i64)) fun(x:Int)=>aB (decide (x>lv)) (az Tryz.prog 200 (.bq [.one (.int .i64),.one (.int .i64)]) [.pointer p,.func (.func 241) ⟨[]⟩ ⟨[]⟩] w1 fun(x:Int×Int×Unit) w2=>true=true/\ag w2 none (af (some ⟨b_1,0,none⟩) 2) (.one (.int .i64)) fun(x_3:Int)=> ∃(x_4:Bool×Int×Bool×Int×Unit),ah Tryz.prog 242 [.int .i64 x.1]
 w2 (.agg ⟨[.bool x_4.1,.int .i64 x_4.2.1,.bool x_4.2.2.1,.int .i64 x_4.2.2.2.1]⟩)/\az Tryz.prog 212 (.bq []) [.pointer p,.int .i64 x_3,.agg ⟨[.bool x_4.1,.int .i64 x_4.2.1,.bool x_4.2.2.1,.int .i64 x_4.2.2.2.1]⟩] w2 fun x_5 w2=>true=true/\ag w2 none (af (some ⟨b_1,0,none⟩) 1) (.one (.int .i64)) fun(x_6:Int)=>true=true/\ag w2 none (af (some ⟨b_1,0,none⟩) 1) (.one (.int .i64)) fun(x_7:Int)=>True/\av w2 (some ⟨b_1,0,none⟩) [.int .i64 x.1,.int .i64 (bL .i64 x_6 1),.int .i64 (dX x.1 pg (bL .i64 x_7 1))] fun w2=> ∀w3,Ext w2 w3-> ∃(n':Nat),n'
 <n/\I n' Unit.unit w3) (true=true/\ag w1 none (af (some ⟨b_1,0,none⟩) 2) (.one (.int .i64)) fun(x:Int)=>ag w1 none (some ⟨b,0,none⟩) (.agg [.bool,.int .i64,.bool,.int .i64]) fun(x_3:Bool×Int×Bool×Int×Unit)=>az Tryz.prog 212 (.bq []) [.pointer p,.int .i64 x,.agg ⟨[.bool x_3.1,.int .i64 x_3.2.1,.bool x_3.2.2.1,.int .i64 x_3.2.2.2.1]⟩] w1 fun x w2=>aj w2 fun w1=>Post 0 w1)))):=by kernel_rfl
theorem Ou (p:Option Addr) (pg f r:Int) (w:World) (Post:Int->World->Prop):(aH N0 (fun _=>[]) 156 [.pointer p,.int .i64 pg,.int .i64 f,.int .i64 r] w Post)=(
 ∃(x:Int),ah Tryz.prog 106 [.pointer p] w (.int .i64 x)/\aB (x != 0) (aj w fun w1=>Post x w1) (∃(x:Int),ah Tryz.prog 206 [.int .i64 pg,.int .i64 f,.int .i64 r] w (.int .i64 x)/\aB (x != 0) (aj w fun w1=>Post x w1) (az Tryz.prog 207 (.el (.one (.int .i64))) [.pointer p,.int .i64 pg,.int .i64 0,.agg ⟨[.bool true,.int .i64 r,.bool false,.int .i64 f]⟩] w fun(x:Int) w2=>aj w2 fun w1=>Post x w1))):=by kernel_rfl
theorem Gx (p:Option Addr) (pg:Int) (w:World) (Post:Int×Int×Int×Unit->World->Prop):(aH N0 (fun _=>[]) 51 [.pointer p,.int .i64 pg] w Post)=(
 ∃(x:Int),ah Tryz.prog 106 [.pointer p] w (.int .i64 x)/\aB (x != 0) (aj w fun w1=>Post (0,0,x,Unit.unit) w1) (aB (decide (pg<0)||decide (pg>=65536)) (aj w fun w1=>Post (0,0,2,Unit.unit) w1) (az Tryz.prog 107 (.bq [.agg [.int .i64,.int .i64,.int .i64],.agg [.bool,.int .i64,.bool,.int .i64]]) [.pointer p,.int .i64 pg] w fun(x:(Int×Int×Int×Unit)×(Bool×Int×Bool×Int×Unit)×Unit) w2=>aA w2 ⟨[.int .i64 0,.int .i64 0,.int .i64 0]⟩ 178 fun b w2=>aA w2 ⟨[.bool false,.int .i64 0,.bool false,.int .i64 0]⟩ 180 fun b_1 w2=>av w2 (some
 ⟨b,0,none⟩) [.int .i64 x.1.1,.int .i64 x.1.2.1,.int .i64 x.1.2.2.1] fun w2=>av w2 (some ⟨b_1,0,none⟩) [.bool x.2.1.1,.int .i64 x.2.1.2.1,.bool x.2.1.2.2.1,.int .i64 x.2.1.2.2.2.1] fun w2=>true=true/\ag w2 none (af (some ⟨b_1,0,none⟩) 0) (.one .bool) fun x=>aB (!x) (aj w2 fun w1=>Post (0,0,4,Unit.unit) w1) (ag w2 none (some ⟨b,0,none⟩) (.agg [.int .i64,.int .i64,.int .i64]) fun(x:Int×Int×Int×Unit)=>ag w2 none (some ⟨b_1,0,none⟩) (.agg [.bool,.int .i64,.bool,.int .i64]) fun(x_1:Bool×Int×Bool×Int×Unit)=> ∃(x_2:Int),ah
 Tryz.prog 108 [.int .i64 pg,.agg ⟨[.int .i64 x.1,.int .i64 x.2.1,.int .i64 x.2.2.1]⟩,.agg ⟨[.bool x_1.1,.int .i64 x_1.2.1,.bool x_1.2.2.1,.int .i64 x_1.2.2.2.1]⟩] w2 (.int .i64 x_2)/\true=true/\ag w2 none (af (some ⟨b_1,0,none⟩) 1) (.one (.int .i64)) fun(x:Int)=>aj w2 fun w1=>Post (x_2,x,0,Unit.unit) w1)))):=by kernel_rfl
theorem Gy (p:Option Addr) (pg:Int) (w:World) (Post:Int->World->Prop):(aH N0 (fun _=>[]) 209 [.pointer p,.int .i64 pg] w Post)=(
 az Tryz.prog 107 (.bq [.agg [.int .i64,.int .i64,.int .i64],.agg [.bool,.int .i64,.bool,.int .i64]]) [.pointer p,.int .i64 pg] w fun(x:(Int×Int×Int×Unit)×(Bool×Int×Bool×Int×Unit)×Unit) w2=>aA w2 ⟨[.int .i64 0,.int .i64 0,.int .i64 0]⟩ 178 fun b w2=>aA w2 ⟨[.bool false,.int .i64 0,.bool false,.int .i64 0]⟩ 180 fun b_1 w2=>av w2 (some ⟨b,0,none⟩) [.int .i64 x.1.1,.int .i64 x.1.2.1,.int .i64 x.1.2.2.1] fun w2=>av w2 (some ⟨b_1,0,none⟩) [.bool x.2.1.1,.int .i64 x.2.1.2.1,.bool x.2.1.2.2.1,.int .i64 x.2.1.2.2.2.1] fun w2=>true=true/\ag
 w2 none (af (some ⟨b,0,none⟩) 1) (.one (.int .i64)) fun(x:Int)=>aB (x==0) (aj w2 fun w1=>Post 0 w1) (az Tryz.prog 200 (.bq [.one (.int .i64),.one (.int .i64)]) [.pointer p,.func (.func 244) ⟨[]⟩ {toList:=[.pointer (some ⟨b_1,0,none⟩)]}] w2 fun(x:Int×Int×Unit) w2=>aB (x.2.1==0) (true=true/\ag w2 none (af (some ⟨b,0,none⟩) 2) (.one (.int .i64)) fun(x_1:Int)=> ∃(x_2:Bool×Int×Bool×Int×Unit),ah Tryz.prog 242 [.int .i64 x.1] w2 (.agg ⟨[.bool x_2.1,.int .i64 x_2.2.1,.bool x_2.2.2.1,.int .i64 x_2.2.2.2.1]⟩)/\az Tryz.prog 212 (.bq
 []) [.pointer p,.int .i64 x_1,.agg ⟨[.bool x_2.1,.int .i64 x_2.2.1,.bool x_2.2.2.1,.int .i64 x_2.2.2.2.1]⟩] w2 fun x_3 w2=>aj w2 fun w1=>Post x.2.1 w1) (aj w2 fun w1=>Post x.2.1 w1))):=by kernel_rfl
def rK:Nat->aQ:=(fun|1=>[(4,Go.RX.El.one (Go.RX.Sc.int Go.IntKind.i64))]|4=>[(26,Go.RX.El.one (Go.RX.Sc.int Go.IntKind.i64))]| _=>[])
theorem LG (p q:Option Addr) (n c:Nat) (w:World) (Post:Unit->World->Prop):(aH N0 rK 210 [.pointer p,.slice q n c] w Post)=(
 ∃(I:Nat->Int×Unit->World->Prop),(∃n_1, ∀w1,Ext w w1->I n_1 (bL .i64 (↑n:Int) 1,Unit.unit) w1)/\ ∀(n_1:Nat) (s:Int×Unit) (w1:World),I n_1 s w1->aB (decide (s.1>0)) (p.isSome=true/\p.isSome=true/\ag w1 none (af p 0) (.one .ptr) fun x=>(q.isSome=true/\0<=s.1/\s.1<(↑n:Int))/\(af q (Int.toNat s.1*3)).isSome=true/\ag w1 none (af (af q (Int.toNat s.1*3)) 0) (.one (.int .i64)) fun(x_1:Int)=>az Tryz.prog 29 (.el (.one .slice)) [.pointer x,.int .i64 (b_ .i64 16 x_1),.int .i64 16] w1 fun x w2=> ∃(oA:Nat->Int×Unit->
 World->Prop),(∃n, ∀w1,Ext w2 w1->oA n (0,Unit.unit) w1)/\ ∀(n_2:Nat) (s_1:Int×Unit) (w1:World),oA n_2 s_1 w1->aB (decide (s_1.1<(↑x.2.1:Int))) ((x.1.isSome=true/\0<=s_1.1/\s_1.1<(↑x.2.1:Int))/\ag w1 none (af x.1 (Int.toNat s_1.1*1)) (.one (.int .u64)) fun(x:Int)=>aB (x != 0) (aj w1 fun w1=>Post Unit.unit w1) (∀w3,Ext w1 w3-> ∃(n':Nat),n'<n_2/\oA n' (au .i64 s_1.1 1,Unit.unit) w3)) (p.isSome=true/\p.isSome=true/\ag w1 none (af p 0) (.one .ptr) fun x=>(q.isSome=true/\0<=bL .i64 s.1 1/\bL .i64 s.1 1<(↑n:Int))/\
 (af q ((bL .i64 s.1 1).toNat*3)).isSome=true/\ag w1 none (af (af q ((bL .i64 s.1 1).toNat*3)) 2) (.one (.int .i64)) fun(x_2:Int)=>az Tryz.prog 157 (.el (.one (.int .i64))) [.pointer x,.int .i64 x_2,.int .u64 0] w1 fun(x:Int) w2=>p.isSome=true/\p.isSome=true/\ag w2 none (af p 1) (.one .ptr) fun x=>(q.isSome=true/\0<=s.1/\s.1<(↑n:Int))/\(af q (Int.toNat s.1*3)).isSome=true/\ag w2 none (af (af q (Int.toNat s.1*3)) 0) (.one (.int .i64)) fun(x_3:Int)=>az Tryz.prog 146 (.el (.one (.int .i64))) [.pointer x,.int .i64 x_3,.int
 .i64 5,.int .i64 0] w2 fun(x:Int) w2=> ∀w3,Ext w2 w3-> ∃(n':Nat),n'<n_1/\I n' (bL .i64 s.1 1,Unit.unit) w3)) (aj w1 fun w1=>Post Unit.unit w1)):=by kernel_rfl
theorem Gz (p:Option Addr) (pg:Int) (w:World) (Post:Int×Int×Unit->World->Prop):(aH N0 (fun _=>[]) 158 [.pointer p,.int .i64 pg] w Post)=(
 az Tryz.prog 51 (.bq [.one (.int .i64),.one (.int .i64),.one (.int .i64)]) [.pointer p,.int .i64 pg] w fun(x:Int×Int×Int×Unit) w2=>aB (x.2.2.1 != 0) (aj w2 fun w1=>Post (0,x.2.2.1,Unit.unit) w1) (az Tryz.prog 209 (.el (.one (.int .i64))) [.pointer p,.int .i64 pg] w2 fun(x_1:Int) w2=>aB (x_1 != 0) (aj w2 fun w1=>Post (0,x_1,Unit.unit) w1) (az Tryz.prog 175 (.el (.one (.rN 221 2))) [.pointer p,.int .i64 pg] w2 fun x_2 w2=>az Tryz.prog 174 (.el (.one .slice)) [.func (.func 221) ⟨[]⟩ ⟨[.pointer x_2.1,.pointer x_2.2.1]⟩] w2 fun x_3 w2=>p.isSome=true/\
 p.isSome=true/\ag w2 none (af p 0) (.one .ptr) fun x_4=>(x_3.1.isSome=true/\0<=bL .i64 (↑x_3.2.1:Int) 1/\bL .i64 (↑x_3.2.1:Int) 1<(↑x_3.2.1:Int))/\(af x_3.1 ((bL .i64 (↑x_3.2.1:Int) 1).toNat*3)).isSome=true/\ag w2 none (af (af x_3.1 ((bL .i64 (↑x_3.2.1:Int) 1).toNat*3)) 2) (.one (.int .i64)) fun(x_5:Int)=>az Tryz.prog 157 (.el (.one (.int .i64))) [.pointer x_4,.int .i64 x_5,.int .u64 0] w2 fun(x_6:Int) w2=>az Tryz.prog 210 (.bq []) [.pointer p,.slice x_3.1 x_3.2.1 x_3.2.2] w2 fun x_7 w2=>aj w2 fun w1=>Post (x.1,0,
 Unit.unit) w1))):=by kernel_rfl
theorem LH (p:Option Addr) (pg r:Int) (w:World) (Post:Int->World->Prop):(aH N0 (fun _=>[]) 160 [.pointer p,.int .i64 pg,.int .i64 r] w Post)=(
 ∃(x:Int),ah Tryz.prog 106 [.pointer p] w (.int .i64 x)/\aB (x != 0) (aj w fun w1=>Post x w1) (∃(x:Int),ah Tryz.prog 206 [.int .i64 pg,.int .i64 0,.int .i64 r] w (.int .i64 x)/\aB (x != 0) (aj w fun w1=>Post x w1) (az Tryz.prog 107 (.bq [.agg [.int .i64,.int .i64,.int .i64],.agg [.bool,.int .i64,.bool,.int .i64]]) [.pointer p,.int .i64 pg] w fun(x:(Int×Int×Int×Unit)×(Bool×Int×Bool×Int×Unit)×Unit) w2=>aA w2 ⟨[.int .i64 0,.int .i64 0,.int .i64 0]⟩ 178 fun b w2=>aA w2 ⟨[.bool false,.int .i64 0,.bool false,.int .i64 0]⟩ 180 fun
 b_1 w2=>av w2 (some ⟨b,0,none⟩) [.int .i64 x.1.1,.int .i64 x.1.2.1,.int .i64 x.1.2.2.1] fun w2=>av w2 (some ⟨b_1,0,none⟩) [.bool x.2.1.1,.int .i64 x.2.1.2.1,.bool x.2.1.2.2.1,.int .i64 x.2.1.2.2.2.1] fun w2=>true=true/\ag w2 none (af (some ⟨b_1,0,none⟩) 0) (.one .bool) fun x=>aB (!x) (aj w2 fun w1=>Post 4 w1) (true=true/\ag w2 none (af (some ⟨b_1,0,none⟩) 2) (.one .bool) fun x=>(x=true->true=true)/\ag w2 (some x) (af (some ⟨b_1,0,none⟩) 1) (.one (.int .i64)) fun(x_1:Int)=>aB (x&&x_1==r) (aj w2 fun w1=>Post 0 w1) (ag w2 none
 (some ⟨b,0,none⟩) (.agg [.int .i64,.int .i64,.int .i64]) fun(x:Int×Int×Int×Unit)=>ag w2 none (some ⟨b_1,0,none⟩) (.agg [.bool,.int .i64,.bool,.int .i64]) fun(x_2:Bool×Int×Bool×Int×Unit)=> ∃(x_3:Int),ah Tryz.prog 108 [.int .i64 pg,.agg ⟨[.int .i64 x.1,.int .i64 x.2.1,.int .i64 x.2.2.1]⟩,.agg ⟨[.bool x_2.1,.int .i64 x_2.2.1,.bool x_2.2.2.1,.int .i64 x_2.2.2.2.1]⟩] w2 (.int .i64 x_3)/\az Tryz.prog 209 (.el (.one (.int .i64))) [.pointer p,.int .i64 pg] w2 fun(x:Int) w2=>aB (x != 0) (aj w2 fun w1=>Post x w1) (az Tryz.prog 107 (.bq [.agg
 [.int .i64,.int .i64,.int .i64],.agg [.bool,.int .i64,.bool,.int .i64]]) [.pointer p,.int .i64 pg] w2 fun(x:(Int×Int×Int×Unit)×(Bool×Int×Bool×Int×Unit)×Unit) w2=>av w2 (some ⟨b,0,none⟩) [.int .i64 x.1.1,.int .i64 x.1.2.1,.int .i64 x.1.2.2.1] fun w2=>true=true/\ag w2 none (af (some ⟨b,0,none⟩) 2) (.one (.int .i64)) fun(x:Int)=>az Tryz.prog 212 (.bq []) [.pointer p,.int .i64 x,.agg ⟨[.bool true,.int .i64 r,.bool false,.int .i64 x_3]⟩] w2 fun x w2=>aj w2 fun w1=>Post 0 w1)))))):=by kernel_rfl
theorem xW (p:Option Addr) (f lv:Int) (w:World) (Post:Option Addr×Option Addr×Option Addr×Unit->World->Prop):(aH N0 (fun _=>[]) 240 [.pointer p,.int .i64 f,.int .i64 lv] w Post)=(
 aA w ⟨[.pointer p]⟩ 110 fun b w2=>aA w2 ⟨[.int .i64 f]⟩ 3 fun b_1 w2=>aA w2 ⟨[.int .i64 lv]⟩ 3 fun b_2 w2=>aj w2 fun w1=>Post (some ⟨b_1,0,none⟩,some ⟨b,0,none⟩,some ⟨b_2,0,none⟩,Unit.unit) w1):=by kernel_rfl
def oY:Nat->aQ:=(fun|4=>[(6,.one (.int .i64))]| _=>[])
theorem GB (p c d:Option Addr) (w:World) (Post:Option Addr×Nat×Nat->World->Prop):(bM N0 oY 239 [.func (.func 258) #[] #[.pointer p,.pointer c,.pointer d]] w Post)=(
 aA w ⟨[.slice none 0 0]⟩ 27 fun b w2=>wD Tryz.prog 258 (fun(y:Nat)=>[.func (Fn.yield y) ⟨[]⟩ ⟨[]⟩,.pointer p,.pointer c,.pointer d]) ⟨[6]⟩ w2 (fun(x:Int×Unit)=>[.int .i64 x.1]) (fun(l:Nat) (rec:Loop) (x:Int×Unit) w3 (R:Bool->World->Prop)=>Aa l rec [Value.int .i64 x.1].length 1 w3 (yI l rec w3 fun w5=>ag w5 none (some ⟨b,0,none⟩) (.one .slice) fun x_1=>aA w5 ⟨[.int .i64 x.1]⟩ 3 fun b_1 w2=> ∀w1,Ext w2 w1->tV w1 3 1 8 ⟨[.int .i64 0]⟩ (x_1.1,x_1.2.1,x_1.2.2) (some ⟨b_1,0,none⟩,1,1) fun(r:Option Addr×Nat×Nat) w2=>av w2 (some ⟨b,0,
 none⟩) [.slice r.1 r.2.1 r.2.2] fun w2=>qg l rec none w2 R)) fun(r:Nat) (rec:Loop) w4=>cO (r+1) rec w4 (fun w5=>ag w5 none (some ⟨b,0,none⟩) (.one .slice) fun x=>qh [r] w5 fun w1=>Post (x.1,x.2.1,x.2.2) w1) (fun(id:Nat) w5=>Decidable.rec (fun(h:id=0->False)=>False) (fun(h:id=0)=>ag w5 none (some ⟨b,0,none⟩) (.one .slice) fun x=>qh [r] w5 fun w1=>Post (x.1,x.2.1,x.2.2) w1) (match h:id.beq 0 with|true=>isTrue (Nat.eq_of_beq_eq_true h)|false=>isFalse (Nat.ne_of_beq_eq_false h))) fun w5=>qh [r] w5 fun w1=>Post (none,0,0)
 w1):=by kernel_rfl
def tO:Nat->aQ:=(fun|5=>[(18,Go.RX.El.one (Go.RX.Sc.int Go.IntKind.i64))]|8=>[(5,Go.RX.El.one (Go.RX.Sc.int Go.IntKind.i64))]| _=>[])
theorem Ov (p:Option Addr) (w:World) (Post:Option Addr×Nat×Nat->World->Prop):(aH N0 tO 205 [.pointer p] w Post)=(
 ∃(x:Int),ah Tryz.prog 106 [.pointer p] w (.int .i64 x)/\aB (x != 0) (aj w fun w1=>Post (none,0,0) w1) (p.isSome=true/\p.isSome=true/\ag w none (af p 3) (.one (.int .i64)) fun(x:Int)=>az Tryz.prog 240 (.el (.one (.rN 258 3))) [.pointer p,.int .i64 x,.int .i64 3] w fun x w2=>az Tryz.prog 239 (.el (.one .slice)) [.func (.func 258) ⟨[]⟩ ⟨[.pointer x.1,.pointer x.2.1,.pointer x.2.2.1]⟩] w2 fun x w2=> ∃(I:Nat->Int×Unit->World->Prop),(∃n, ∀w1,Ext w2 w1->I n (0,Unit.unit) w1)/\ ∀(n:Nat) (s:Int×Unit) (w1:World),I n s w1->aB (decide (s.1
 <(↑x.2.1:Int))) (∃(oA:Nat->Int×Unit->World->Prop),(∃n, ∀cQ,Ext w1 cQ->oA n (s.1,Unit.unit) cQ)/\ ∀(n_1:Nat) (s_1:Int×Unit) (w1:World),oA n_1 s_1 w1->(decide (s_1.1>0)=true->x.1.isSome=true/\0<=bL .i64 s_1.1 1/\bL .i64 s_1.1 1<(↑x.2.1:Int))/\ag w1 (some (decide (s_1.1>0))) (af x.1 ((bL .i64 s_1.1 1).toNat*1)) (.one (.int .i64)) fun(x_1:Int)=>(decide (s_1.1>0)=true->x.1.isSome=true/\0<=s_1.1/\s_1.1<(↑x.2.1:Int))/\ag w1 (some (decide (s_1.1>0))) (af x.1 (Int.toNat s_1.1*1)) (.one (.int .i64)) fun(x_2:
 Int)=>aB (decide (s_1.1>0)&&decide (x_1>x_2)) ((x.1.isSome=true/\0<=s_1.1/\s_1.1<(↑x.2.1:Int))/\ag w1 none (af x.1 (Int.toNat s_1.1*1)) (.one (.int .i64)) fun(x_3:Int)=>(x.1.isSome=true/\0<=bL .i64 s_1.1 1/\bL .i64 s_1.1 1<(↑x.2.1:Int))/\ag w1 none (af x.1 ((bL .i64 s_1.1 1).toNat*1)) (.one (.int .i64)) fun(x_4:Int)=>(x.1.isSome=true/\0<=bL .i64 s_1.1 1/\bL .i64 s_1.1 1<(↑x.2.1:Int))/\av w1 (af x.1 ((bL .i64 s_1.1 1).toNat*1)) [.int .i64 x_3] fun w2=>(x.1.isSome=true/\0<=s_1.1/\s_1.1<(↑x.2.1:Int))/\av w2
 (af x.1 (Int.toNat s_1.1*1)) [.int .i64 x_4] fun w2=> ∀w3,Ext w2 w3-> ∃(n':Nat),n'<n_1/\oA n' (bL .i64 s_1.1 1,Unit.unit) w3) (∀w3,Ext w1 w3-> ∃(n':Nat),n'<n/\I n' (au .i64 s.1 1,Unit.unit) w3)) (aj w1 fun w1=>Post (x.1,x.2.1,x.2.2) w1))):=by kernel_rfl
def rL:Nat->aQ:=(fun|5=>[(13,Go.RX.El.one (Go.RX.Sc.int Go.IntKind.i64))]| _=>[])
theorem LI (p:Option Addr) (w:World) (Post:Option Addr×Nat×Nat->World->Prop):(aH N0 rL 154 [.pointer p] w Post)=(
 ∃(x:Int),ah Tryz.prog 106 [.pointer p] w (.int .i64 x)/\aB (x != 0) (aj w fun w1=>Post (none,0,0) w1) (az Tryz.prog 205 (.el (.one .slice)) [.pointer p] w fun x w2=> ∃(I:Nat->Int×Unit->World->Prop),(∃n, ∀w1,Ext w2 w1->I n (0,Unit.unit) w1)/\ ∀(n:Nat) (s:Int×Unit) (w1:World),I n s w1->aB (decide (s.1<(↑x.2.1:Int))) ((x.1.isSome=true/\0<=s.1/\s.1<(↑x.2.1:Int))/\ag w1 none (af x.1 (Int.toNat s.1*1)) (.one (.int .i64)) fun(x:Int)=>p.isSome=true/\p.isSome=true/\ag w1 none (af p 1) (.one .ptr) fun x_1=>az Tryz.prog 146
 (.el (.one (.int .i64))) [.pointer x_1,.int .i64 x,.int .i64 5,.int .i64 0] w1 fun(x:Int) w2=> ∀w3,Ext w2 w3-> ∃(n':Nat),n'<n/\I n' (au .i64 s.1 1,Unit.unit) w3) (p.isSome=true/\p.isSome=true/\av w1 (af p 4) [.bool true] fun w2=>aj w2 fun w1=>Post (x.1,x.2.1,x.2.2) w1))):=by kernel_rfl
theorem Ow (m p:Option Addr) (o:Int) (w:World) (Post:Option Addr×Int×Unit->World->Prop):(aH N0 (fun _=>[]) 147 [.pointer m,.pointer p,.int .i64 o] w Post)=(
 ∃(x:Int),ah Tryz.prog 30 [.pointer m] w (.int .i64 x)/\ ∃(x_1:Int),((!x==0)=true->ah Tryz.prog 39 [.pointer p] w (.int .i64 x_1))/\ ∃(x_2:Int),((!(x==0||x_1==0))=true->ah Tryz.prog 30 [.pointer m] w (.int .i64 x_2))/\ ∃(x_3:Int),((!(x==0||x_1==0))=true->ah Tryz.prog 39 [.pointer p] w (.int .i64 x_3))/\aB (x==0||x_1==0||decide (x_2<b_ .i64 16 x_3)) (aj w fun w1=>Post (none,1,Unit.unit) w1) (aA w ⟨[.pointer m,.pointer p,.int .i64 o,.int .i64 0,.bool false]⟩ 218 fun b w2=>az Tryz.prog 200 (.bq [.one (.int .i64),
 .one (.int .i64)]) [.pointer (some ⟨b,0,none⟩),.func (.func 201) ⟨[]⟩ ⟨[]⟩] w2 fun(x:Int×Int×Unit) w2=>aB (x.2.1 != 0) (aj w2 fun w1=>Post (none,x.2.1,Unit.unit) w1) (true=true/\true=true/\av w2 (af (some ⟨b,0,none⟩) 3) [.int .i64 x.1] fun w2=>aj w2 fun w1=>Post (some ⟨b,0,none⟩,0,Unit.unit) w1))):=by kernel_rfl
theorem sx (p:Option Addr) (i n:Int) (w:World) (Post:Option Addr×Nat×Nat->World->Prop):(aH N0 (fun _=>[]) 29 [.pointer p,.int .i64 i,.int .i64 n] w Post)=(
 aB p.isNone (aj w fun w1=>Post (none,0,0) w1) (p.isSome=true/\p.isSome=true/\ag w none (af p 0) (.agg [.slice]) fun x=>az Tryz.prog 74 (.el (.one .slice)) [.agg ⟨[.slice x.1.1 x.1.2.1 x.1.2.2]⟩,.int .i64 i,.int .i64 n] w fun x w2=>aj w2 fun w1=>Post (x.1,x.2.1,x.2.2) w1)):=by kernel_rfl
theorem Ox (p:Option Addr) (n c:Nat) (i k:Int) (w:World) (Post:Option Addr×Nat×Nat->World->Prop):(aH N0 (fun _=>[]) 74 [.agg ⟨[.slice p n c]⟩,.int .i64 i,.int .i64 k] w Post)=(
 aA w ⟨[.slice p n c]⟩ 148 fun b w2=>((!(decide (k<1)||decide (i<0)))=true->true=true)/\ag w2 (some !(decide (k<1)||decide (i<0))) (af (some ⟨b,0,none⟩) 0) (.one .slice) fun x=>((!(decide (k<1)||decide (i<0)||decide (i>(↑x.2.1:Int))))=true->true=true)/\ag w2 (some !(decide (k<1)||decide (i<0)||decide (i>(↑x.2.1:Int)))) (af (some ⟨b,0,none⟩) 0) (.one .slice) fun x_1=>aB (decide (k<1)||decide (i<0)||decide (i>(↑x.2.1:Int))||decide (k>bL .i64 (↑x_1.2.1:Int) i)) (aj w2 fun w1=>Post (none,0,0) w1) (BF w2 8
 1 k k ⟨[.int .u64 0]⟩ 29 fun b_1 w2=>true=true/\ag w2 none (af (some ⟨b,0,none⟩) 0) (.one .slice) fun x=>(0<=i/\i<=(↑x.2.1:Int)/\(↑x.2.1:Int)<=(↑x.2.2:Int)/\(↑x.2.2:Int)<=(↑x.2.2:Int))/\ ∀w1,Ext w2 w1->Vt w1 1 (some ⟨b_1,0,none⟩,k.toNat) (Decidable.rec (fun(h:(↑x.2.2:Int).toNat=i.toNat->False)=>af x.1 (i.toNat*1)) (fun(h:(↑x.2.2:Int).toNat=i.toNat)=>x.1) (instDecidableEqNat (↑x.2.2:Int).toNat i.toNat),(↑x.2.1:Int).toNat - i.toNat) fun(r:Int) w2=>aj w2 fun w1=>Post (some ⟨b_1,0,none⟩,k.toNat,k.toNat) w1)):=by
 kernel_rfl
theorem LJ (p:Option Addr) (w:World) (Post:Option Addr->World->Prop):(aH N0 (fun _=>[]) 38 [.pointer p] w Post)=(
 ∃(x:Int),ah Tryz.prog 30 [.pointer p] w (.int .i64 x)/\aB (x==0) (aj w fun w1=>Post none w1) (p.isSome=true/\ag w none p (.agg [.slice,.int .i64,.int .i64]) fun(x:(Option Addr×Nat×Nat)×Int×Int×Unit)=>aA w ⟨[.slice none 0 0,.int .i64 0,.int .i64 0]⟩ 150 fun b w2=>av w2 (some ⟨b,0,none⟩) [.slice x.1.1 x.1.2.1 x.1.2.2,.int .i64 x.2.1,.int .i64 x.2.2.1] fun w2=> ∃(x:Int),ah Tryz.prog 30 [.pointer p] w2 (.int .i64 x)/\az Tryz.prog 29 (.el (.one .slice)) [.pointer p,.int .i64 0,.int .i64 x] w2 fun x w2=>true=true/\(af (some ⟨b,0,
 none⟩) 0).isSome=true/\av w2 (af (af (some ⟨b,0,none⟩) 0) 0) [.slice x.1 x.2.1 x.2.2] fun w2=>aj w2 fun w1=>Post (some ⟨b,0,none⟩) w1)):=by kernel_rfl
end Go.Proofs.YtdnoecpjcoibmaaGreat
namespace Go.Proofs.YtdnoecpjcoibmaaGreat.D
set_option maxRecDepth 100000
open Go.RX
noncomputable def E3:dD Tryz.prog:={E0 with quiet:=[39,20,234,21]}
end Go.Proofs.YtdnoecpjcoibmaaGreat.D
namespace Go.Proofs.YtdnoecpjcoibmaaGreat.D
set_option maxRecDepth 100000
open Go.RX
section
variable {D G:List Nat} {w0 w:World} {L:List (Nat×List Value)}
theorem Oy (H:aF D G w0 w L) (i j:Nat) {bp bf n c:Nat} {ds:List DT} {rest:List Value} (hp:L[i]? =some (bp,[.slice (some ⟨bf,0,none⟩) n c])) (hf:L[j]? =some (bf,flat eD ds++rest)) (hij:i≠j) (hn:n=ds.length) (hpos:0<n) (hle:n<=4096) (f y o:Int) {K:Int->World->Prop}
 (k: ∀w2,aF D G w0 w2 (L.set j (bf,flat eD (fQ ds f (aE y o))++rest))->K (sP ds f (aE y o)) w2):az Tryz.prog 146 (.el (.one (.int .i64))) [.pointer (some ⟨bp,0,none⟩),.int .i64 f,.int .i64 y,.int .i64 o] w K:=by
 subst hn
 exact az.Ao H j hf (fun w1 H=>zo (H.get hp) (H.get hf) (H.ne hp hf hij) hle f y o) k
theorem Oz (H:aF D G w0 w L) (i j:Nat) {bp bf n c:Nat} {ds:List DT} {rest:List Value} (hp:L[i]? =some (bp,[.slice (some ⟨bf,0,none⟩) n c])) (hf:L[j]? =some (bf,flat eD ds++rest)) (hij:i≠j) (hn:n=ds.length) (hpos:0<n) (hle:n<=4096) (f x:Int) (hi: -9223372036854775808<=x/\x<9223372036854775808) {K:Int->World->Prop}
 (k: ∀w2,aF D G w0 w2 (L.set j (bf,flat eD (fQ ds f (gN x))++rest))->K (sP ds f (gN x)) w2):az Tryz.prog 167 (.el (.one (.int .i64))) [.pointer (some ⟨bp,0,none⟩),.int .i64 f,.int .i64 x] w K:=by
 subst hn
 exact az.Ao H j hf (fun w1 H=>Oh (H.get hp) (H.get hf) (H.ne hp hf hij) hle f x hi) k
theorem OA (H:aF D G w0 w L) (i j:Nat) {bp bf n c:Nat} {ds:List DT} {rest:List Value} (hp:L[i]? =some (bp,[.slice (some ⟨bf,0,none⟩) n c])) (hf:L[j]? =some (bf,flat eD ds++rest)) (hij:i≠j) (hn:n=ds.length) (hpos:0<n) (hle:n<=4096) (f:Int) {K:Int->World->Prop}
 (k: ∀w2,aF D G w0 w2 (L.set j (bf,flat eD (fQ ds f (aE 0 0))++rest))->K (sP ds f (aE 0 0)) w2):az Tryz.prog 81 (.el (.one (.int .i64))) [.pointer (some ⟨bp,0,none⟩),.int .i64 f] w K:=by
 subst hn
 exact az.Ao H j hf (fun w1 H=>Oi (H.get hp) (H.get hf) (H.ne hp hf hij) hle f) k
theorem OB (H:aF D G w0 w L) (i j:Nat) {bp bf n c:Nat} {ds:List DT} {rest:List Value} (hp:L[i]? =some (bp,[.slice (some ⟨bf,0,none⟩) n c])) (hf:L[j]? =some (bf,flat eD ds++rest)) (hij:i≠j) (hn:n=ds.length) (hpos:0<n) (hle:n<=4096) (y o:Int) {K:Int×Int×Unit->World->Prop}
 (k: ∀w2,aF D G w0 w2 (L.set j (bf,flat eD (c8 ds y o)++rest))->K (eO ds y o,dj ds y o,()) w2):az Tryz.prog 155 (.bq [.one (.int .i64),.one (.int .i64)]) [.pointer (some ⟨bp,0,none⟩),.int .i64 y,.int .i64 o] w K:=by
 subst hn
 exact az.Ao H j hf (fun w1 H=>Om (H.get hp) (H.get hf) (H.ne hp hf hij) rfl hle y o) k
theorem Ul (H:aF D G w0 w L) (i:Nat) {bp n c:Nat} {a:Option Addr} (hp:L[i]? =some (bp,[.slice a n c])):ah Tryz.prog 39 [.pointer (some ⟨bp,0,none⟩)] w (.int .i64 (n:Int)):=
 ah.of (s:= .el (.one (.int .i64))) fun w' h=>pR ((H.get hp).ext h)
theorem OC (H:aF D G w0 w L) (i j:Nat) {bp bf n c:Nat} {ds:List DT} {rest:List Value} (hp:L[i]? =some (bp,[.slice (some ⟨bf,0,none⟩) n c])) (hf:L[j]? =some (bf,flat eD ds++rest)) (hn:n=ds.length) (hle:n<=4096) (v:Int):
 ah Tryz.prog 20 [.pointer (some ⟨bp,0,none⟩),.int .i64 v] w (.int .i64 (aX ds v:Nat)):=
 ah.of (s:= .el (.one (.int .i64))) fun w' h=>AX ((H.get hp).ext h) ((H.get hf).ext h) hn hle v
theorem W6 (H:aF D G w0 w L) (i j:Nat) {bp bf n c:Nat} {ds:List DT} {rest:List Value} (hp:L[i]? =some (bp,[.slice (some ⟨bf,0,none⟩) n c])) (hf:L[j]? =some (bf,flat eD ds++rest)) (hn:n=ds.length) (f:Int):
 ah Tryz.prog 21 [.pointer (some ⟨bp,0,none⟩),.int .i64 f] w ((Sh.bq [eD,.one .bool]).gi (oJ ds f,uI ds f,())):=by
 subst hn
 exact ah.of (s:= .bq [eD,.one .bool]) fun w' h=>zb ((H.get hp).ext h) ((H.get hf).ext h) f
theorem LK (H:aF D G w0 w L) (i j:Nat) {bp bf n c:Nat} {ds:List DT} {rest:List Value} (hp:L[i]? =some (bp,[.slice (some ⟨bf,0,none⟩) n c])) (hf:L[j]? =some (bf,flat eD ds++rest)) (hn:n=ds.length) (hle:n<=4096) (v:Int) {K:Option Addr×Nat×Nat->World->Prop}
 (k: ∀r rows w2,aF D G w0 w2 (L++rows)->jy eI rows r ((fJ ds v).map fun i=>((i:Nat):Int))->K r w2):az Tryz.prog 149 (.el (.one .slice)) [.pointer (some ⟨bp,0,none⟩),.int .i64 v] w K:=
 az.QK H (fun w1 H=>Lz (H.get hp) (H.get hf) hn hle v) k
end
end Go.Proofs.YtdnoecpjcoibmaaGreat.D
namespace Go.Proofs.YtdnoecpjcoibmaaGreat
set_option maxRecDepth 100000
open Go.RX D
abbrev ET:Type:=Bool×Int×Bool×Int×Unit
abbrev PT:Type:=Int×Int×Int×Unit
abbrev Vc:List Sc:=[.bool,.int .i64,.bool,.int .i64]
abbrev ML:List Sc:=[.int .i64,.int .i64,.int .i64]
def zE:ET:=(false,0,false,0,())
def ee (v:Int):ET:=(wY (B v).toNat,yK (B v).toNat,yL (B v).toNat,wE (B v).toNat,())
def dy (e:ET):Bool:=fy e.1 e.2.1 e.2.2.1 e.2.2.2.1
def HY (e:ET):Int:=uH e.1 e.2.1 e.2.2.1 e.2.2.2.1
def bN (f:Int):ET:=(true,0,false,f,())
def aC (ws:List Int) (i:Int):ET:=ee (cZ ws i)
def cD (ws:List Int) (pg:Int):Nat->Int->List PT
 |0,f=>[(f,0,dX f pg 0,())]
 |l+1,f=>(f,((l+1:Nat):Int),dX f pg ((l+1:Nat):Int),())::if dy (aC ws (dX f pg ((l+1:Nat):Int)))=true then cD ws pg l (aC ws (dX f pg ((l+1:Nat):Int))).2.2.2.1 else[]
theorem ux (ws:List Int) (pg:Int) (l:Nat) (f:Int):cD ws pg l f≠[]:=by cases l<;>simp[cD]
theorem qU (ws:List Int) (pg:Int): ∀(l:Nat) (f:Int),(cD ws pg l f).length<=l+1
 |0,f=>by simp[cD]
 |l+1,f=>by
  rw[cD]
  split
  ·have:=qU ws pg l (aC ws (dX f pg ((l+1:Nat):Int))).2.2.2.1
   simp only[List.length_cons];omega
  ·simp
def di (ws:List Int) (r pg:Int):PT:=(cD ws pg 3 r).getLastD (0,0,0,())
def cx (ws:List Int) (r pg:Int):ET:=aC ws (di ws r pg).2.2.1
def ew (ws:List Int) (f:Int) (g:Int->Int):Nat->List Int
 |0=>ws
 |i+1=>cH (ew ws f g i) (16*f+(i:Int)) (g i)
theorem fV (ws:List Int) (f:Int) (g:Int->Int): ∀n,(ew ws f g n).length=ws.length
 |0=>rfl
 |n+1=>by rw[ew,cu,fV ws f g n]
abbrev WD:Type:=List Int×List DT
def dL (s:WD) (o:Int):Int:=eO s.2 3 o
def pq (s:WD) (o:Int):Int:=dj s.2 3 o
def gM (s:WD) (o:Int) (g:Int->Int):WD:=(if pq s o=0 then ew s.1 (dL s o) g 16 else s.1,c8 s.2 3 o)
def dx (s:WD) (i:Int) (e:ET):WD:=(cH s.1 i (HY e),s.2)
def qF (o pg:Int):Nat->WD×PT->WD×PT
 |0,x=>x
 |n+1,x=>qF o pg n (dx (gM x.1 o fun _=>0) x.2.2.2.1 (bN (dL x.1 o)),(dL x.1 o,x.2.2.1 - 1,dX (dL x.1 o) pg (x.2.2.1 - 1),()))
def ke (s:WD) (r pg lv:Int):Int:=
 if((cx s.1 r pg).1||decide ((di s.1 r pg).2.1<lv))=true then 5
 else if(aX s.2 0:Int)<(di s.1 r pg).2.1 - lv then 12 else 0
def qv (s:WD) (o r pg lv:Int) (e:ET):WD:=
 if ke s r pg lv=0 then dx (qF o pg ((di s.1 r pg).2.1 - lv).toNat (s,di s.1 r pg)).1 (qF o pg ((di s.1 r pg).2.1 - lv).toNat (s,di s.1 r pg)).2.2.2.1 e else s
def iT (pg f rt:Int):Int:=if pg<0\/pg>=65536\/f<0\/f>=4096 then 2 else if rt<1\/rt>7 then 7 else 0
def gO (s:WD) (r:Int) (gone:Bool) (pg f rt:Int):Int:=if gone=true then 6 else if iT pg f rt=0 then ke s r pg 0 else iT pg f rt
def iP (s:WD) (o r:Int) (gone:Bool) (pg f rt:Int):WD:=if gone=true then s else if iT pg f rt=0 then qv s o r pg 0 (true,rt,false,f,()) else s
def oF (pg:Int) (x:PT) (e:ET):Int:=if x.2.1=1 then e.2.2.2.1+pg % 16 else e.2.2.2.1
def aV (s:WD) (r:Int) (gone:Bool) (pg:Int):Int×Int×Int×Unit:=
 if gone=true then(0,0,6,()) else if pg<0\/pg>=65536 then(0,0,2,())
 else if(cx s.1 r pg).1=true then(oF pg (di s.1 r pg) (cx s.1 r pg),(cx s.1 r pg).2.1,0,()) else(0,0,4,())
def mJ (e:ET) (i:Int):Int:=HY (true,e.2.1,false,e.2.2.2.1+i,())
def kf (s:WD) (o r pg:Int):Int:=if(di s.1 r pg).2.1=0 then 0 else pq s o
def eY (s:WD) (o r pg:Int):WD:=
 if(di s.1 r pg).2.1=0 then s
 else if pq s o=0 then dx (gM s o (mJ (cx s.1 r pg))) (di s.1 r pg).2.2.1 (bN (dL s o)) else gM s o (mJ (cx s.1 r pg))
def gP (ws:List Int) (i n:Int):List Int:=if n<1\/i<0\/i>ws.length\/n>ws.length - i then[] else(ws.drop i.toNat).take n.toNat
def ud (ws:List Int) (f:Int):Bool:=(gP ws (16*f) 16).all fun v=>v==0
def ij:List PT->WD->WD
 |x::y::l,s=>if ud s.1 x.1=true then ij (y::l) (cH s.1 y.2.2.1 0,fQ s.2 x.1 (aE 5 0)) else s
 | _,s=>s
def yW (s:WD) (o r:Int) (gone:Bool) (pg:Int):Int:=if(aV s r gone pg).2.2.1=0 then kf s o r pg else(aV s r gone pg).2.2.1
def B7 (s:WD) (o r:Int) (gone:Bool) (pg:Int):Int:=if yW s o r gone pg=0 then(aV s r gone pg).1 else 0
def lK (s:WD) (o r:Int) (gone:Bool) (pg:Int):WD:=
 if(aV s r gone pg).2.2.1=0 then
  if kf s o r pg=0 then ij (cD (eY s o r pg).1 pg 3 r).reverse (cH (eY s o r pg).1 (di (eY s o r pg).1 r pg).2.2.1 0,(eY s o r pg).2)
  else eY s o r pg
 else s
def B8 (s:WD) (o r:Int) (gone:Bool) (pg rt:Int):Int:=
 if gone=true then 6 else if iT pg 0 rt=0 then(if(cx s.1 r pg).1=true then(if((cx s.1 r pg).2.2.1&&(cx s.1 r pg).2.1==rt)=true then 0 else kf s o r pg) else 4) else iT pg 0 rt
def pJ (s:WD) (o r:Int) (gone:Bool) (pg rt:Int):WD:=
 if gone=true then s else if iT pg 0 rt=0 then(if(cx s.1 r pg).1=true then(if((cx s.1 r pg).2.2.1&&(cx s.1 r pg).2.1==rt)=true then s
  else if kf s o r pg=0 then dx (eY s o r pg) (di (eY s o r pg).1 r pg).2.2.1 (true,rt,false,oF pg (di s.1 r pg) (cx s.1 r pg),()) else eY s o r pg) else s) else s
def cz (ws:List Int):Nat->Int->List Int
 |0,f=>[f]
 |l+1,f=>f::(List.range 16).flatMap fun(i:Nat)=>if dy (aC ws (16*f+(i:Int)))=true then cz ws l (aC ws (16*f+(i:Int))).2.2.2.1 else[]
def jg (x:Int):List Int->List Int
 |[]=>[x]
 |y::l=>if y>x then y::jg x l else x::y::l
def qG (l:List Int):List Int:=(l.foldl (fun a x=>jg x a) []).reverse
def kR (s:WD) (r:Int) (gone:Bool):List Int:=if gone=true then[] else qG (cz s.1 3 r)
def bV (s:WD) (r:Int) (gone:Bool):WD:=if gone=true then s else(s.1,(kR s r gone).foldl (fun ds f=>fQ ds f (aE 5 0)) s.2)
end Go.Proofs.YtdnoecpjcoibmaaGreat
namespace Go.Proofs.YtdnoecpjcoibmaaGreat
set_option maxRecDepth 100000
open Go.RX D
structure Sys where
 bm:Nat
 bw:Nat
 bf:Nat
 bp:Nat
 c:Nat
 cp:Nat
 rw:List Value
 rf:List Value
def Sys.L (Q:Sys) (ca la:Int) (s:WD) (L0:List (Nat×List Value)):List (Nat×List Value):=
 (Q.bm,hH Q.bw s.1.length Q.c ca la)::(Q.bw,flat eW s.1++Q.rw)::(Q.bf,flat eD s.2++Q.rf)::(Q.bp,[.slice (some ⟨Q.bf,0,none⟩) s.2.length Q.cp])::L0
structure aU (Q:Sys) (D G:List Nat) (w0 w:World) (s:WD) (L0:List (Nat×List Value)):Prop where
 pos:0<s.1.length
 ID:0<s.2.length
 le:s.2.length<=4096
 Vd:okW s.1
 kn: ∃ca la,aF D G w0 w (Q.L ca la s L0)
abbrev mQ (Q:Sys) (o r:Int) (gone:Bool):List Value:=[.pointer (some ⟨Q.bm,0,none⟩),.pointer (some ⟨Q.bp,0,none⟩),.int .i64 o,.int .i64 r,.bool gone]
theorem RQ {ws:List Int} (h:okW ws) (i v:Int) (hv:0<=v/\v<18446744073709551616):okW (cH ws i v):=by
 intro x hx
 unfold cH at hx
 split at hx
 ·rcases List.mem_or_eq_of_mem_set hx with hx|rfl
  ·exact h x hx
  ·exact hv
 ·exact h x hx
theorem JA (p:Bool) (r:Int) (l:Bool) (f:Int):0<=uH p r l f/\uH p r l f<18446744073709551616:=by
 unfold uH
 split
 ·rename_i h
  unfold mq
  cases p with
  |false=>
   unfold aM at h
   simp at h
   obtain⟨⟨h1,h2⟩,h3⟩:=h
   subst h1;subst h2;subst h3
   decide
  |true=>
   unfold aM at h
   simp at h
   have b1:(nB l:Int)<=1:=by cases l<;>decide
   have b0:0<=(nB l:Int):=by omega
   have e1:(nB true:Int)=1:=rfl
   rw[e1]
   omega
 ·exact⟨by decide,by decide⟩
theorem Ek (n:Nat):0<=wE n/\wE n<4096:=by
 unfold wE
 split<;>omega
section
variable {Q:Sys} {D G:List Nat} {w0 w w1:World} {s:WD} {L0 L1:List (Nat×List Value)}
namespace aU
theorem ext (S:aU Q D G w0 w s L0) (h:Ext w w1):aU Q D G w0 w1 s L0:=by
 obtain⟨h1,h2,h3,h4,ca,la,H⟩:=S
 exact⟨h1,h2,h3,h4,ca,la,H.ext h⟩
theorem al (S:aU Q D G w0 w s L0) {cs:List Value} {e:TypeId} {K:Nat->World->Prop} (k: ∀b w1,aU Q D G w0 w1 s ((b,cs)::L0)->K b w1):aA w ⟨cs⟩ e K:=by
 obtain⟨h1,h2,h3,h4,ca,la,H⟩:=S
 exact aA.go H fun b w1 H=>k b w1 ⟨h1,h2,h3,h4,ca,la,H.perm (List.perm_middle (l₁:=[_, _, _, _]))⟩
theorem en (S:aU Q D G w0 w s L0) {K:World->Prop} (k: ∀w1,aU Q D G w0 w1 s L0->K w1):aj w K:=fun _ h=>k _ (S.ext h)
theorem get (S:aU Q D G w0 w s L0) {i b:Nat} {l:List Value} (h:L0[i]? =some (b,l)):aY w b l:=by
 obtain⟨h1,h2,h3,h4,ca,la,H⟩:=S
 exact H.get (i:=i+4) h
theorem ld (i:Nat) (S:aU Q D G w0 w s L0) {g:Option Bool} {el:El} {K:el.T->Prop} {b o:Nat} {l:List Value} {x:el.T} (hL:L0[i]? =some (b,l)) (hv:lI l o el=some x) (k:K x):ag w g (some ⟨b,o,none⟩) el K:=
 .of x (bY (S.get hL) hv) k
theorem bu (i:Nat) (S:aU Q D G w0 w s L0) {g:Option Bool} {el:El} {K:el.T->Prop} {b o n:Nat} {l:List Value} {x:el.T} (hL:L0[i]? =some (b,l)) (hv:lI l (o+n) el=some x) (k:K x):ag w g (af (some ⟨b,o,none⟩) n) el K:=by
 rw[aK];exact .of x (bY (S.get hL) hv) k
theorem cC (i:Nat) (S:aU Q D G w0 w s L0) {b:Nat} {l vs:List Value} {K:World->Prop} (hL:L0[i]? =some (b,l)) (ho:vs.all (·.oneCell')=true) (hn:vs.length=l.length)
 (k: ∀w1,aU Q D G w0 w1 s (L0.set i (b,vs))->K w1):av w (some ⟨b,0,none⟩) vs K:=by
 obtain⟨h1,h2,h3,h4,ca,la,H⟩:=S
 exact av.all (i+4) H hL ho hn fun w1 H=>k w1 ⟨h1,h2,h3,h4,ca,la,H⟩
theorem Um (i:Nat) (S:aU Q D G w0 w s L0) {b o:Nat} {l:List Value} {x:Value} {K:World->Prop} (hL:L0[i]? =some (b,l)) (ho:x.oneCell'=true) (hn:Nat.blt o l.length=true)
 (k: ∀w1,aU Q D G w0 w1 s (L0.set i (b,l.set o x))->K w1):av w (some ⟨b,o,none⟩) [x] K:=by
 obtain⟨h1,h2,h3,h4,ca,la,H⟩:=S
 exact av.one (i+4) H hL ho hn fun w1 H=>k w1 ⟨h1,h2,h3,h4,ca,la,H⟩
theorem lR (i:Nat) (S:aU Q D G w0 w s L0) {b o n:Nat} {l:List Value} {x:Value} {K:World->Prop} (hL:L0[i]? =some (b,l)) (ho:x.oneCell'=true) (hn:Nat.blt (o+n) l.length=true)
 (k: ∀w1,aU Q D G w0 w1 s (L0.set i (b,l.set (o+n) x))->K w1):av w (af (some ⟨b,o,none⟩) n) [x] K:=by
 rw[aK];exact S.Um i hL ho hn k
theorem go (S:aU Q D G w0 w s L0) {P:Program} {f:FuncId} {sh:Sh} {args:List Value} {K:sh.T->World->Prop} (k: ∀w1,aU Q D G w0 w1 s L0->an P f sh args w1 K):az P f sh args w K:=fun _ h=>k _ (S.ext h)
theorem sub (S:aU Q D G w0 w s L0) (h:L1.Sublist L0):aU Q D G w0 w s L1:=by
 obtain⟨h1,h2,h3,h4,ca,la,H⟩:=S
 exact⟨h1,h2,h3,h4,ca,la,H.sub (((((h.cons_cons _).cons_cons _).cons_cons _).cons_cons _))⟩
theorem tail {x:Nat×List Value} (S:aU Q D G w0 w s (x::L0)):aU Q D G w0 w s L0:=S.sub (List.sublist_cons_self _ _)
theorem perm (S:aU Q D G w0 w s L0) (h:L1.Perm L0):aU Q D G w0 w s L1:=by
 obtain⟨h1,h2,h3,h4,ca,la,H⟩:=S
 exact⟨h1,h2,h3,h4,ca,la,H.perm ((((h.cons _).cons _).cons _).cons _)⟩
theorem mem (S:aU Q D G w0 w s L0): ∃ca la,aY w Q.bm (hH Q.bw s.1.length Q.c ca la):=by
 obtain⟨h1,h2,h3,h4,ca,la,H⟩:=S
 exact⟨ca,la,H.get (i:=0) rfl⟩
theorem load (S:aU Q D G w0 w s L0) (i:Int) {K:Int×Int×Unit->World->Prop} (k: ∀w2,aU Q D G w0 w2 s L0->K (cZ s.1 i,yM s.1 i,()) w2):
 az Tryz.prog 162 (.bq [.one (.int .u64),.one (.int .i64)]) [.pointer (some ⟨Q.bm,0,none⟩),.int .i64 i] w K:=by
 obtain⟨h1,h2,h3,h4,ca,la,H⟩:=S
 exact AQ H 0 1 rfl rfl (by decide) rfl h1 i fun w2 H=>k w2 ⟨h1,h2,h3,h4, _, _,H⟩
theorem store (S:aU Q D G w0 w s L0) (i v:Int) (hv:0<=v/\v<18446744073709551616) {K:Int->World->Prop} (k: ∀w2,aU Q D G w0 w2 (cH s.1 i v,s.2) L0->K (yM s.1 i) w2):
 az Tryz.prog 157 (.el (.one (.int .i64))) [.pointer (some ⟨Q.bm,0,none⟩),.int .i64 i,.int .u64 v] w K:=by
 obtain⟨h1,h2,h3,h4,ca,la,H⟩:=S
 refine FV H 0 1 rfl rfl (by decide) rfl h1 i v fun w2 H=>k w2 ⟨?_,h2,h3,RQ h4 i v hv,tW s.1 i ca,tW s.1 i la,?_⟩
 ·show 0<(cH s.1 i v).length
  rw[cu];exact h1
 ·unfold Sys.L
  show aF D G w0 w2 ((Q.bm,hH Q.bw (cH s.1 i v).length Q.c _ _):: _)
  rw[cu]
  exact H
theorem take (S:aU Q D G w0 w s L0) (y o:Int) {K:Int×Int×Unit->World->Prop} (k: ∀w2,aU Q D G w0 w2 (s.1,c8 s.2 y o) L0->K (eO s.2 y o,dj s.2 y o,()) w2):
 az Tryz.prog 155 (.bq [.one (.int .i64),.one (.int .i64)]) [.pointer (some ⟨Q.bp,0,none⟩),.int .i64 y,.int .i64 o] w K:=by
 obtain⟨h1,h2,h3,h4,ca,la,H⟩:=S
 refine OB H 3 2 rfl rfl (by decide) rfl h2 h3 y o fun w2 H=>k w2 ⟨h1,?_,?_,h4,ca,la,?_⟩
 ·show 0<(c8 s.2 y o).length
  rw[sw];exact h2
 ·show(c8 s.2 y o).length<=4096
  rw[sw];exact h3
 ·unfold Sys.L
  show aF D G w0 w2 (_:: _:: _::(Q.bp,[.slice _ (c8 s.2 y o).length _]):: _)
  rw[sw]
  exact H
theorem M8 (S:aU Q D G w0 w s L0) (f y o:Int) {K:Int->World->Prop} (k: ∀w2,aU Q D G w0 w2 (s.1,fQ s.2 f (aE y o)) L0->K (sP s.2 f (aE y o)) w2):
 az Tryz.prog 146 (.el (.one (.int .i64))) [.pointer (some ⟨Q.bp,0,none⟩),.int .i64 f,.int .i64 y,.int .i64 o] w K:=by
 obtain⟨h1,h2,h3,h4,ca,la,H⟩:=S
 refine Oy H 3 2 rfl rfl (by decide) rfl h2 h3 f y o fun w2 H=>k w2 ⟨h1,?_,?_,h4,ca,la,?_⟩
 ·show 0<(fQ s.2 f (aE y o)).length
  rw[gZ];exact h2
 ·show(fQ s.2 f (aE y o)).length<=4096
  rw[gZ];exact h3
 ·unfold Sys.L
  show aF D G w0 w2 (_:: _:: _::(Q.bp,[.slice _ (fQ s.2 f (aE y o)).length _]):: _)
  rw[gZ]
  exact H
theorem cnt (S:aU Q D G w0 w s L0) (v:Int):ah Tryz.prog 20 [.pointer (some ⟨Q.bp,0,none⟩),.int .i64 v] w (.int .i64 (aX s.2 v:Nat)):=by
 obtain⟨h1,h2,h3,h4,ca,la,H⟩:=S
 exact OC H 3 2 rfl rfl rfl h3 v
theorem M9 (S:aU Q D G w0 w s L0):ah Tryz.prog 30 [.pointer (some ⟨Q.bm,0,none⟩)] w (.int .i64 (s.1.length:Nat)):=by
 obtain⟨h1,h2,h3,h4,ca,la,H⟩:=S
 exact ah.of (s:= .el (.one (.int .i64))) fun w' h'=>uw ((H.get (i:=0) rfl).ext h')
theorem QN (S:aU Q D G w0 w s L0):ah Tryz.prog 39 [.pointer (some ⟨Q.bp,0,none⟩)] w (.int .i64 (s.2.length:Nat)):=by
 obtain⟨h1,h2,h3,h4,ca,la,H⟩:=S
 exact Ul H 3 rfl
end aU
end
end Go.Proofs.YtdnoecpjcoibmaaGreat
namespace Go.Proofs.YtdnoecpjcoibmaaGreat
set_option maxRecDepth 100000
open Go.RX D
def Zg (gone:Bool):Int:=if gone=true then 6 else 0
def Un (r:Int) (gone:Bool):Int:=if gone=true then -1 else r
theorem Em (pg f rt:Int) (w:World):ah Tryz.prog 206 [.int .i64 pg,.int .i64 f,.int .i64 rt] w (.int .i64 (iT pg f rt)):=by
 refine ah.of (s:= .el (.one (.int .i64))) fun w' _=>ai (C:=N0) (aJ:=fun _=>[]) (Eq.mpr (Gr _ _ _ w' _) ?_)
 unfold iT
 refine aa (fun c=>fun w1 h1=>⟨?_,h1⟩) (fun c=>aa (fun d=>fun w1 h1=>⟨?_,h1⟩) (fun d=>fun w1 h1=>⟨?_,h1⟩))
 ·simp at c;rw[if_pos (by omega)]
 ·simp at c d;rw[if_neg (by omega),if_pos (by omega)]
 ·simp at c d;rw[if_neg (by omega),if_neg (by omega)]
theorem En (f:Int) (w:World):ah Tryz.prog 242 [.int .i64 f] w (.agg ⟨[.bool true,.int .i64 0,.bool false,.int .i64 f]⟩):=by
 refine ah.of (s:= .el (.agg Vc)) (v:=bN f) fun w' _=>aL (C:=N0) (aJ:=fun _=>[]) (Eq.mpr (Gs f w' _) ?_)
 have H:=At.start [] w'
 exact aA.go H fun b w2 H=>av.all 0 H rfl rfl rfl fun w3 H=>aj.go H fun w4 H=>ag.at 0 H rfl rfl ⟨rfl,H.all⟩
theorem Eo {pg:Int} (hp:0<=pg) (x:PT) (e:ET) (he:0<=e.2.2.2.1/\e.2.2.2.1<4096) (w:World):ah Tryz.prog 108 [.int .i64 pg,.agg ⟨[.int .i64 x.1,.int .i64 x.2.1,.int .i64 x.2.2.1]⟩,.agg ⟨[.bool e.1,.int .i64 e.2.1,.bool e.2.2.1,.int .i64 e.2.2.2.1]⟩] w (.int .i64 (oF pg x e)):=by
 refine ah.of (s:= .el (.one (.int .i64))) fun w' _=>ai (C:=N0) (aJ:=fun _=>[]) (Eq.mpr (Gt pg x.1 x.2.1 x.2.2.1 e.1 e.2.1 e.2.2.1 e.2.2.2.1 w' _) ?_)
 have H:=At.start [] w'
 unfold oF
 refine aA.go H fun b w2 H=>aA.go H fun b1 w3 H=>⟨rfl,ag.bP 1 H rfl rfl (aa (fun c=>⟨rfl,ag.bP 0 H rfl rfl ⟨trivial,by decide,aj.go H fun w4 H=>⟨?_,H.all⟩⟩⟩) (fun c=>⟨rfl,ag.bP 0 H rfl rfl (aj.go H fun w4 H=>⟨?_,H.all⟩)⟩))⟩
 ·have c:x.2.1=1:=by simpa using c
  rw[if_pos c]
  have e1:dM pg (fD 1)=pg % 16:=by
   have:fD 1=16:=rfl
   rw[this];exact Int.tmod_eq_emod_of_nonneg hp
  rw[e1,ar (by omega) (by omega)]
 ·have c: ¬ x.2.1=1:=by simpa using c
  rw[if_neg c]
section
variable {Q:Sys} {D G:List Nat} {w0 w:World} {s:WD} {L0:List (Nat×List Value)} {bt:Nat} {o r:Int} {gone:Bool}
namespace aU
theorem state (S:aU Q D G w0 w s L0) (i:Nat) (ht:L0[i]? =some (bt,mQ Q o r gone)):ah Tryz.prog 106 [.pointer (some ⟨bt,0,none⟩)] w (.int .i64 (Zg gone)):=by
 have hb:=S.get ht
 refine ah.of (s:= .el (.one (.int .i64))) fun w' h'=>ai (C:=N0) (aJ:=fun _=>[]) (Eq.mpr (Gq _ w' _) ?_)
 have hb:=hb.ext h'
 refine⟨fun _=>rfl,fun _=>rfl,ag.of (some ⟨Q.bm,0,none⟩) (by rw[aK];exact hb.lG rfl) (ak rfl ⟨rfl,rfl,ag.of gone (by rw[aK];exact hb.lG rfl) ?_⟩)⟩
 cases gone with
 |true=>exact ay rfl fun w1 h1=>⟨rfl,h1⟩
 |false=>exact ak rfl fun w1 h1=>⟨rfl,h1⟩
theorem root (S:aU Q D G w0 w s L0) (i:Nat) (ht:L0[i]? =some (bt,mQ Q o r gone)):ah Tryz.prog 75 [.pointer (some ⟨bt,0,none⟩)] w (.int .i64 (Un r gone)):=by
 refine ah.of (s:= .el (.one (.int .i64))) fun w' h'=>ai (C:=N0) (aJ:=fun _=>[]) (Eq.mpr (LA _ w' _) ?_)
 have S:=S.ext h'
 refine⟨_,S.state i ht,?_⟩
 cases gone with
 |true=>exact ay rfl fun w1 h1=>⟨rfl,h1⟩
 |false=>exact ak rfl ⟨rfl,rfl,S.bu i ht rfl fun w1 h1=>⟨rfl,h1⟩⟩
theorem at_ (S:aU Q D G w0 w s L0) (k:Nat) (ht:L0[k]? =some (bt,mQ Q o r gone)) (i:Int) {K:ET->World->Prop} (c: ∀w2,aU Q D G w0 w2 s L0->K (aC s.1 i) w2):
 az Tryz.prog 176 (.el (.agg Vc)) [.pointer (some ⟨bt,0,none⟩),.int .i64 i] w K:=by
 refine S.go fun w1 S=>aL (C:=N0) (aJ:=fun _=>[]) (Eq.mpr (Jz _ i w1 K) ?_)
 refine S.al fun b w2 S=>⟨rfl,rfl,S.bu (k+1) ht rfl (S.load i fun w3 S=>⟨?_,S.al fun b1 w4 S=>S.cC 0 rfl rfl rfl fun w5 S=>S.ld 0 rfl rfl (S.cC 1 rfl rfl rfl fun w6 S=>S.en fun w7 S=>S.ld 1 rfl rfl (c w7 S.tail.tail))⟩)⟩
 have h:=Cj S.Vd i
 exact wN h.1 h.2
theorem lay (S:aU Q D G w0 w s L0) (k:Nat) (ht:L0[k]? =some (bt,mQ Q o r gone)) (i:Int) (e:ET) {K:Unit->World->Prop} (c: ∀w2,aU Q D G w0 w2 (dx s i e) L0->K () w2):
 az Tryz.prog 212 (.bq []) [.pointer (some ⟨bt,0,none⟩),.int .i64 i,.agg ⟨[.bool e.1,.int .i64 e.2.1,.bool e.2.2.1,.int .i64 e.2.2.2.1]⟩] w K:=by
 refine S.go fun w1 S=>ai (C:=N0) (aJ:=fun _=>[]) (Eq.mpr (On _ i e.1 e.2.1 e.2.2.1 e.2.2.2.1 w1 K) ?_)
 exact S.al fun b w2 S=>S.ld 0 rfl rfl ⟨trivial,rfl,rfl,S.bu (k+1) ht rfl (S.store i _ (JA _ _ _ _) fun w3 S=>S.en fun w4 S=>c w4 S.tail)⟩
end aU
theorem Cm {ds:List DT} {y o:Int} (h: ¬ dj ds y o=0):eO ds y o=0:=by
 unfold dj at h
 unfold eO
 cases hf:gE ds with
 |none=>rfl
 |some n=>
  have hl: ¬ ds.length=0:=fun e=>by
   have:ds=[]:=List.length_eq_zero_iff.1 e
   subst this
   cases hf
  rw[if_neg hl,hf] at h
  exact if_neg h
theorem sy (ds:List DT) (y o:Int) (h0:0<ds.length):0<=eO ds y o/\eO ds y o<ds.length:=by
 unfold eO
 cases hf:gE ds with
 |none=>exact⟨Int.le_refl 0,by show(0:Int)< _;omega⟩
 |some n=>
  unfold gE at hf
  rw[List.findIdx?_eq_some_iff_getElem] at hf
  have h1:=hf.1
  dsimp only
  split<;>omega
end
end Go.Proofs.YtdnoecpjcoibmaaGreat
namespace Go.Proofs.YtdnoecpjcoibmaaGreat
set_option maxRecDepth 100000
open Go.RX D
section
variable {Q:Sys} {D G:List Nat} {w0 w:World} {s:WD} {L0:List (Nat×List Value)} {bt:Nat} {o r:Int} {gone:Bool}
namespace aU
theorem Uo (S:aU Q D G w0 w s L0) (i:Nat) (ht:L0[i]? =some (bt,mQ Q o r gone)) {K:Int×Int×Unit->World->Prop} (k: ∀w2,aU Q D G w0 w2 (gM s o (fun _=>0)) L0->K (dL s o,pq s o,()) w2):
 az Tryz.prog 200 (.bq [.one (.int .i64),.one (.int .i64)]) [.pointer (some ⟨bt,0,none⟩),.func (.func 201) #[] #[]] w K:=by
 refine S.go fun w1 S=>ai (C:=N0) (aJ:=oU) (Eq.mpr (Gu _ w1 K) ?_)
 have hr:=sy s.2 3 o S.ID
 have hle:=S.le
 refine⟨rfl,rfl,S.bu i ht rfl ⟨rfl,rfl,S.bu i ht rfl (S.take 3 o fun w2 S=>?_)⟩⟩
 by_cases he:pq s o=0
 ·have hS:gM s o (fun _=>0)=(ew s.1 (dL s o) (fun _=>0) 16,c8 s.2 3 o):=by unfold gM;rw[if_pos he]
  rw[hS,he] at k
  have he':dj s.2 3 o=0:=he
  refine ak (by simp[he']) ⟨fun n v w'=> ∃m:Nat,n=16 - m/\m<=16/\v.1=(m:Int)/\aU Q D G w0 w' (ew s.1 (dL s o) (fun _=>0) m,c8 s.2 3 o) L0,⟨16,fun w3 h=>⟨0,rfl,by omega,rfl,S.ext h⟩⟩,?_⟩
  rintro n ⟨v,u⟩ w3 ⟨m,rfl,hm,e,S⟩
  dsimp only at e ⊢
  subst e
  refine aa (fun c=>⟨rfl,rfl,S.bu i ht rfl ?_⟩) (fun c=>S.en fun w4 S=>k w4 ?_)
  ·have c:m<16:=by simp at c;omega
   refine fun w4 h4=>ai (C:=N0) (aJ:=fun _=>[]) (Eq.mpr (LD _ w4 _) fun w5 h5=>?_)
   have S:=(S.ext h4).ext h5
   have S5:(0:Int)<=0/\(0:Int)<18446744073709551616:=by decide
   refine⟨trivial,trivial,by rw[aK];exact(S.get ht).lG rfl,trivial,trivial,?_⟩
   have e1:au .i64 (b_ .i64 16 (eO s.2 3 o)) (m:Int)=16*dL s o+(m:Int):=by
    have:dL s o=eO s.2 3 o:=rfl
    rw[eA (by omega) (by omega),ar (by omega) (by omega),this]
   rw[e1]
   refine S.store _ _ S5 fun w6 S=>fun w7 h7=>⟨16 - (m+1),by omega,m+1,rfl,by omega,?_,S.ext h7⟩
   rw[ar (by omega) (by omega)];omega
  ·have c: ¬ m<16:=by simp at c;omega
   have:m=16:=by omega
   subst this;exact S
 ·have hS:gM s o (fun _=>0)=(s.1,c8 s.2 3 o):=by unfold gM;rw[if_neg he]
  have hf:dL s o=0:=Cm he
  rw[hS,hf] at k
  have he': ¬ dj s.2 3 o=0:=he
  exact ay (by simp[he']) (S.en fun w3 S=>k w3 S)
theorem Uq (S:aU Q D G w0 w s L0) (i:Nat) (ht:L0[i]? =some (bt,mQ Q o r gone)) {K:Int×Int×Unit->World->Prop} (k: ∀w2,aU Q D G w0 w2 (gM s o (fun _=>0)) L0->K (dL s o,pq s o,()) w2):
 az Tryz.prog 200 (.bq [.one (.int .i64),.one (.int .i64)]) [.pointer (some ⟨bt,0,none⟩),.func (.func 241) #[] #[]] w K:=by
 refine S.go fun w1 S=>ai (C:=N0) (aJ:=oW) (Eq.mpr (Gv _ w1 K) ?_)
 have hr:=sy s.2 3 o S.ID
 have hle:=S.le
 refine⟨rfl,rfl,S.bu i ht rfl ⟨rfl,rfl,S.bu i ht rfl (S.take 3 o fun w2 S=>?_)⟩⟩
 by_cases he:pq s o=0
 ·have hS:gM s o (fun _=>0)=(ew s.1 (dL s o) (fun _=>0) 16,c8 s.2 3 o):=by unfold gM;rw[if_pos he]
  rw[hS,he] at k
  have he':dj s.2 3 o=0:=he
  refine ak (by simp[he']) ⟨fun n v w'=> ∃m:Nat,n=16 - m/\m<=16/\v.1=(m:Int)/\aU Q D G w0 w' (ew s.1 (dL s o) (fun _=>0) m,c8 s.2 3 o) L0,⟨16,fun w3 h=>⟨0,rfl,by omega,rfl,S.ext h⟩⟩,?_⟩
  rintro n ⟨v,u⟩ w3 ⟨m,rfl,hm,e,S⟩
  dsimp only at e ⊢
  subst e
  refine aa (fun c=>⟨rfl,rfl,S.bu i ht rfl ?_⟩) (fun c=>S.en fun w4 S=>k w4 ?_)
  ·have c:m<16:=by simp at c;omega
   refine fun w4 h4=>ai (C:=N0) (aJ:=fun _=>[]) (Eq.mpr (LF _ w4 _) fun w5 h5=>?_)
   have S:=(S.ext h4).ext h5
   have S5:(0:Int)<=0/\(0:Int)<18446744073709551616:=by decide
   refine⟨trivial,trivial,by rw[aK];exact(S.get ht).lG rfl,trivial,trivial,?_⟩
   have e1:au .i64 (b_ .i64 16 (eO s.2 3 o)) (m:Int)=16*dL s o+(m:Int):=by
    have:dL s o=eO s.2 3 o:=rfl
    rw[eA (by omega) (by omega),ar (by omega) (by omega),this]
   rw[e1]
   refine S.store _ _ S5 fun w6 S=>fun w7 h7=>⟨16 - (m+1),by omega,m+1,rfl,by omega,?_,S.ext h7⟩
   rw[ar (by omega) (by omega)];omega
  ·have c: ¬ m<16:=by simp at c;omega
   have:m=16:=by omega
   subst this;exact S
 ·have hS:gM s o (fun _=>0)=(s.1,c8 s.2 3 o):=by unfold gM;rw[if_neg he]
  have hf:dL s o=0:=Cm he
  rw[hS,hf] at k
  have he': ¬ dj s.2 3 o=0:=he
  exact ay (by simp[he']) (S.en fun w3 S=>k w3 S)
theorem Ur (S:aU Q D G w0 w s L0) (i:Nat) (ht:L0[i]? =some (bt,mQ Q o r gone)) (j:Nat) {be:Nat} {e:ET} (hb:L0[j]? =some (be,[.bool e.1,.int .i64 e.2.1,.bool e.2.2.1,.int .i64 e.2.2.2.1])) (PW:0<=e.2.2.2.1/\e.2.2.2.1<4096) {K:Int×Int×Unit->World->Prop} (k: ∀w2,aU Q D G w0 w2 (gM s o (mJ e)) L0->K (dL s o,pq s o,()) w2):
 az Tryz.prog 200 (.bq [.one (.int .i64),.one (.int .i64)]) [.pointer (some ⟨bt,0,none⟩),.func (.func 244) #[] #[.pointer (some ⟨be,0,none⟩)]] w K:=by
 refine S.go fun w1 S=>ai (C:=N0) (aJ:=oX) (Eq.mpr (Gw _ _ w1 K) ?_)
 have hr:=sy s.2 3 o S.ID
 have hle:=S.le
 refine⟨rfl,rfl,S.bu i ht rfl ⟨rfl,rfl,S.bu i ht rfl (S.take 3 o fun w2 S=>?_)⟩⟩
 by_cases he:pq s o=0
 ·have hS:gM s o (mJ e)=(ew s.1 (dL s o) (mJ e) 16,c8 s.2 3 o):=by unfold gM;rw[if_pos he]
  rw[hS,he] at k
  have he':dj s.2 3 o=0:=he
  refine ak (by simp[he']) ⟨fun n v w'=> ∃m:Nat,n=16 - m/\m<=16/\v.1=(m:Int)/\aU Q D G w0 w' (ew s.1 (dL s o) (mJ e) m,c8 s.2 3 o) L0,⟨16,fun w3 h=>⟨0,rfl,by omega,rfl,S.ext h⟩⟩,?_⟩
  rintro n ⟨v,u⟩ w3 ⟨m,rfl,hm,ev,S⟩
  dsimp only at ev ⊢
  subst ev
  refine aa (fun c=>⟨rfl,rfl,S.bu i ht rfl ?_⟩) (fun c=>S.en fun w4 S=>k w4 ?_)
  ·have c:m<16:=by simp at c;omega
   refine fun w4 h4=>ai (C:=N0) (aJ:=fun _=>[]) (Eq.mpr (C9 _ _ w4 _) ?_)
   have S:=S.ext h4
   refine⟨rfl,S.bu j hb rfl ⟨rfl,S.bu j hb rfl ⟨trivial,S.en fun w5 S=>?_⟩⟩⟩
   have eg:uH true e.2.1 false (au .i64 e.2.2.2.1 (m:Int))=mJ e (m:Int):=by
    rw[ar (by omega) (by omega)];rfl
   rw[eg]
   have S5:0<=mJ e (m:Int)/\mJ e (m:Int)<18446744073709551616:=JA _ _ _ _
   refine⟨trivial,trivial,by rw[aK];exact(S.get ht).lG rfl,trivial,trivial,?_⟩
   have e1:au .i64 (b_ .i64 16 (eO s.2 3 o)) (m:Int)=16*dL s o+(m:Int):=by
    have:dL s o=eO s.2 3 o:=rfl
    rw[eA (by omega) (by omega),ar (by omega) (by omega),this]
   rw[e1]
   refine S.store _ _ S5 fun w6 S=>fun w7 h7=>⟨16 - (m+1),by omega,m+1,rfl,by omega,?_,S.ext h7⟩
   rw[ar (by omega) (by omega)];omega
  ·have c: ¬ m<16:=by simp at c;omega
   have:m=16:=by omega
   subst this;exact S
 ·have hS:gM s o (mJ e)=(s.1,c8 s.2 3 o):=by unfold gM;rw[if_neg he]
  have hf:dL s o=0:=Cm he
  rw[hS,hf] at k
  have he': ¬ dj s.2 3 o=0:=he
  exact ay (by simp[he']) (S.en fun w3 S=>k w3 S)
end aU
end
end Go.Proofs.YtdnoecpjcoibmaaGreat
namespace Go.Proofs.YtdnoecpjcoibmaaGreat
set_option maxRecDepth 100000
open Go.RX D
section
variable {D G:List Nat} {w0 w:World} {L:List (Nat×List Value)}
def Qe (e:El) (b:Nat) (xs:List e.T) (Rg:List (Nat×List Value)):Prop:=
 (xs=[]/\Rg=[(b,[.slice none 0 0])])\/ ∃bs c rest,Rg=[(b,[.slice (some ⟨bs,0,none⟩) xs.length c]),(bs,flat e xs++rest)]/\(flat e xs++rest).length=c*aI e/\xs.length<=c
theorem Qe.head {e:El} {b:Nat} {xs:List e.T} {Rg:List (Nat×List Value)} (h:Qe e b xs Rg): ∃s:Option Addr×Nat×Nat,Rg[0]? =some (b,[.slice s.1 s.2.1 s.2.2]):=by
 rcases h with ⟨_,rfl⟩|⟨bs,c,rest,rfl, _⟩
 ·exact⟨(none,0,0),rfl⟩
 ·exact⟨(_, _, _),rfl⟩
theorem Qe.push {e:El} {b b2:Nat} {xs:List e.T} {x:e.T} {Rg Z:List (Nat×List Value)} {s:Option Addr×Nat×Nat} (hg:Qe e b xs Rg) (hs:Rg[0]? =some (b,[.slice s.1 s.2.1 s.2.2])) (H:aF D G w0 w ((b2,cellsOf e x)::(Rg++Z)))
 (hp:kz e=true) {t:TypeId} {size bytes:Nat} {z:Array Value} (hsz:size=aI e) (hz:z.size=aI e) (hb:(xs.length+1)*bytes<=140737488355328) {K:World->Prop}
 (k: ∀Ig w',Qe e b (xs++[x]) Ig->aF D G w0 w' (Ig++Z)->K w'):
 tV w t size bytes z (s.1,s.2.1,s.2.2) (some ⟨b2,0,none⟩,1,1) fun r w2=>av w2 (some ⟨b,0,none⟩) [.slice r.1 r.2.1 r.2.2] K:=by
 obtain⟨p,n,c⟩:=s
 rcases hg with ⟨rfl,rfl⟩|⟨bs,c',rest,rfl,h1,h2⟩
 ·cases hs
  refine aF.grow (Ls:=[]) (L0:=(b,[.slice none 0 0])::Z) (xs:=[]) H (.inl ⟨rfl,rfl,rfl⟩) hp hsz hz hb fun bs c rest w' g1 g2 H=>?_
  refine av.all 1 H rfl rfl rfl fun w2 H=>k [(b,[.slice (some ⟨bs,0,none⟩) 1 c]),(bs,flat e [x]++rest)] w2 (.inr ⟨bs,c,rest,rfl,g1,g2⟩) ?_
  exact H.perm (List.Perm.swap _ _ _)
 ·cases hs
  have H2:aF D G w0 w ((b2,cellsOf e x)::([(bs,flat e xs++rest)]++((b,[.slice (some ⟨bs,0,none⟩) xs.length c])::Z))):=H.perm (List.Perm.cons _ (List.Perm.swap _ _ _))
  refine aF.grow H2 (.inr ⟨bs,c,rest,rfl,rfl,h1,h2⟩) hp hsz hz hb fun VX c2 Ax w' g1 g2 H=>?_
  refine av.all 1 H rfl rfl rfl fun w2 H=>k [(b,[.slice (some ⟨VX,0,none⟩) (xs.length+1) c2]),(VX,flat e (xs++[x])++Ax)] w2 (.inr ⟨VX,c2,Ax,?_,g1,by simpa using g2⟩) ?_
  ·rw[List.length_append];rfl
  ·exact H.perm (List.Perm.swap _ _ _)
theorem uG.new {l:Nat} {rec:Loop} {w':World} {b:Nat} {cs:List Value} (h:uG D G w0 w L l rec) (H:At [] w w' [(b,cs)]):uG D G w0 w' ((b,cs)::L) l rec/\Ob l w w':=by
 have he:Ext w w':=H.all
 have hb:w.heap.size<=b:=by
  rcases H.own (b,cs) List.mem_cons_self with h|h
  ·exact h
  ·cases h
 exact⟨⟨h.1,h.2.1.more he hb (H.cY (b,cs) List.mem_cons_self),h.2.2.ext he⟩,Ob.r8 he⟩
theorem GC {bm bw n c:Nat} {ca la:Int} {ws:List Int} {rest:List Value} (H:aF D G w0 w L) (j:Nat) (hm:L[j]? =some (bm,hH bw n c ca la)) (hw:aY w0 bw (flat eW ws++rest)) (hG:bw∉G) (hn:n=ws.length) (h0:0<n) (i:Int) {K:Int×Int×Unit->World->Prop}
 (k: ∀w2,aF D G w0 w2 (L.set j (bm,hH bw n c (tW ws i ca) la))->K (cZ ws i,yM ws i,()) w2):
 az Tryz.prog 162 (.bq [.one (.int .u64),.one (.int .i64)]) [.pointer (some ⟨bm,0,none⟩),.int .i64 i] w K:=by
 refine az.go H fun w1 H=>ai (C:=M0) (aJ:=fun _=>[]) (Eq.mpr (AP _ i w1 K) ?_)
 refine vu H j hm hn h0 i (fun hi w2 H=>?_) (fun hi w2 H=>?_)
 ·unfold tW cZ yM at k
  rw[hi,if_pos rfl,if_pos rfl,if_pos rfl] at k
  have hi':=gX.1 hi
  refine ak rfl ⟨rfl,?_⟩
  rw[aK]
  have e:=TB (ws:=ws) (rest:=rest) (i:=i.toNat) (by omega)
  rw[Nat.mul_one] at e
  exact ag.old H hw hG e (aj.go H fun w3 H=>k w3 H)
 ·unfold tW cZ yM at k
  rw[hi,if_neg (by decide),if_neg (by decide),if_neg (by decide)] at k
  refine ay rfl (aj.go H fun w3 H=>k w3 ?_)
  rw[show L.set j (bm,hH bw n c ca la)=L from List.ext_getElem? fun m=>by
   by_cases e:j=m
   ·subst e;rw[List.getElem?_set_self (List.getElem?_eq_some_iff.1 hm).1,hm]
   ·rw[List.getElem?_set_ne e]]
  exact H
structure VY (Q:Sys) (ws:List Int) (w:World) (bt:Nat) (o r:Int) (gone:Bool):Prop where
 tb:aY w bt (mQ Q o r gone)
 wd:aY w Q.bw (flat eW ws++Q.rw)
 Zh:bt≠Q.bm
 Zi:Q.bw≠Q.bm
 Vd:okW ws
 pos:0<ws.length
abbrev Mc (Q:Sys) (n:Nat) (l:List Value):Prop:= ∃ca la,l=hH Q.bw n Q.c ca la
theorem JB {Q:Sys} {ws:List Int} {bt:Nat} {o r:Int} {gone:Bool} {D:List Nat} {L:List (Nat×List Value)} {ca la:Int} (R:VY Q ws w0 bt o r gone) (H:aF D [Q.bm] w0 w L) (j:Nat) (hm:L[j]? =some (Q.bm,hH Q.bw ws.length Q.c ca la)) (i:Int) {K:ET->World->Prop}
 (k: ∀ca w2,aF D [Q.bm] w0 w2 (L.set j (Q.bm,hH Q.bw ws.length Q.c ca la))->K (aC ws i) w2):
 az Tryz.prog 176 (.el (.agg Vc)) [.pointer (some ⟨bt,0,none⟩),.int .i64 i] w K:=by
 have t1:bt∉[Q.bm]:=by simpa using R.Zh
 have t2:Q.bw∉[Q.bm]:=by simpa using R.Zi
 refine az.go H fun w1 H=>aL (C:=N0) (aJ:=fun _=>[]) (Eq.mpr (Jz _ i w1 K) ?_)
 refine aA.go H fun b w2 H=>⟨rfl,rfl,ag.jd H R.tb t1 rfl (GC H (j+1) hm R.wd t2 rfl R.pos i fun w3 H=>⟨?_,aA.go H fun b1 w4 H=>av.all 0 H rfl rfl rfl fun w5 H=>ag.at 0 H rfl rfl (av.all 1 H rfl rfl rfl fun w6 H=>aj.go H fun w7 H=>ag.at 1 H rfl rfl (k (tW ws i ca) w7 (H.sub ?_)))⟩)⟩
 ·have h:=Cj R.Vd i
  exact wN h.1 h.2
 ·exact(List.sublist_cons_self _ _).trans (List.sublist_cons_self _ _)
end
end Go.Proofs.YtdnoecpjcoibmaaGreat
namespace Go.Proofs.YtdnoecpjcoibmaaGreat
set_option maxRecDepth 100000
open Go.RX D
abbrev Zj (x:PT×Unit):List Value:=[.agg ⟨[.int .i64 x.1.1,.int .i64 x.1.2.1,.int .i64 x.1.2.2.1]⟩]
abbrev Qf (x:PT):PT×Unit:=(x,())
def IE (ws:List Int) (pg:Int):Nat->Int->List PT
 |0, _=>[]
 |l+1,f=>if dy (aC ws (dX f pg ((l+1:Nat):Int)))=true then cD ws pg l (aC ws (dX f pg ((l+1:Nat):Int))).2.2.2.1 else[]
theorem GD (ws:List Int) (pg:Int): ∀(l:Nat) (f:Int),cD ws pg l f=(f,(l:Int),dX f pg (l:Int),())::IE ws pg l f
 |0, _=>rfl
 | _+1, _=>rfl
theorem LM {ws:List Int} {pg:Int} {l:Nat} {f:Int} (h:dy (aC ws (dX f pg (l:Int)))=false):IE ws pg l f=[]:=by
 cases l with
 |zero=>rfl
 |succ l=>rw[IE,h,if_neg (by decide)]
theorem RR {Q:Sys} {ws:List Int} {bt b c:Nat} {o r pg:Int} {gone:Bool} {N:Nat} (hok:okW ws) (hpos:0<ws.length):
 U6 Tryz.prog 221 (fun y=>[.func (.yield y) #[] #[],.pointer (some ⟨b,0,none⟩),.pointer (some ⟨c,0,none⟩)]) Zj N Q.bm (Mc Q ws.length)
  [(bt,mQ Q o r gone),(Q.bw,flat eW ws++Q.rw),(b,[.pointer (some ⟨bt,0,none⟩)]),(c,[.int .i64 pg])] ((cD ws pg 3 r).map Qf):=by
 intro y J K hY a X O w hN hX j
 refine Calls.mono (ai (C:=N0) (aJ:=rI) (Post:=fun _ w'=>J (a++(cD ws pg 3 r).map Qf) X O w') (Eq.mpr (LB y _ _ w _) ?_)) ?_
 rotate_left
 ·rintro e w' ⟨x,rfl,h⟩
  exact⟨_,rfl,h⟩
 have x1:=hX (bt,mQ Q o r gone) (by simp)
 have x2:=hX (Q.bw,flat eW ws++Q.rw) (by simp)
 have x3:=hX (b,[.pointer (some ⟨bt,0,none⟩)]) (by simp)
 have x4:=hX (c,[.int .i64 pg]) (by simp)
 refine ag.of (some ⟨bt,0,none⟩) ((K.cY j x3).2.lG rfl) ⟨rfl,rfl,ag.of r (by rw[aK];exact(K.cY j x1).2.lG rfl) ⟨fun n v w'=>(∃l:Nat,v.2.1=(l:Int)/\n=l+1/\l<=3/\ ∃pre,cD ws pg 3 r=pre++cD ws pg l v.1/\J (a++pre.map Qf) X O w')\/(v.2.1= -1/\J (a++(cD ws pg 3 r).map Qf) X O w'),
  ⟨4,fun w1 h1=> .inl ⟨3,rfl,rfl,Nat.le_refl _,[],rfl,by simpa using K.ext j h1⟩⟩,?_⟩⟩
 rintro n ⟨f,lv,u⟩ w1 (⟨l,e1,rfl,hl,pre,hx,j⟩|⟨e1,j⟩)
 ·dsimp only at e1 hx ⊢
  subst e1
  refine ay (by simp) (ag.of pg ((K.cY j x4).2.lG rfl) ⟨trivial,?_⟩)
  obtain⟨lm,⟨ca,la,rfl⟩,H⟩:=K.U7 j
  have R:VY Q ws w1 bt o r gone:=⟨(K.cY j x1).2,(K.cY j x2).2,(K.cY j x1).1,(K.cY j x2).1,hok,hpos⟩
  have hb:=K.cY j x3
  have Zk:b∉[Q.bm]:=by simpa using hb.1
  refine aA.go H fun b1 w2 H=>av.all 0 H rfl rfl rfl fun w3 H=>ag.old H hb.2 Zk rfl ⟨rfl,ag.bP 0 H rfl rfl (JB R H 1 rfl _ fun Qg w4 H=>aA.go H fun b2 w5 H=>av.all 0 H rfl rfl rfl fun w6 H=>ag.at 1 H rfl rfl fun w7 h7=>?_)⟩
  have H:=H.ext h7
  rw[GD ws pg l f] at hx
  have hlen:(a++pre.map Qf).length<N:=by
   rw[hx] at hN
   simp only[List.map_append,List.length_append,List.length_map,List.length_cons] at hN ⊢
   omega
  have j2:=K.qD (Y:=[(b2, _),(b1, _)]) j H ⟨_, _,rfl⟩
  refine hY _ (Qf (f,(l:Int),dX f pg (l:Int),())) _ _ w7 _ hlen j2 fun w8 j3=>?_
  have BC:=(K.cY j3 (x:=(b2, _)) (List.mem_cons_self)).2
  refine ag.of (aC ws (dX f pg (l:Int))) (bY BC rfl) ⟨fun _=>trivial,aa (fun cc w9 h9=>?_) (fun cc=>⟨rfl,ag.of (aC ws (dX f pg (l:Int))).2.2.2.1 (by rw[aK];exact BC.lG rfl) fun w9 h9=>?_⟩)⟩
  ·have ht:dy (aC ws (dX f pg (l:Int)))=false:=by simpa[dy] using cc
   have j4:=K.sub (K.ext j3 h9) (X':=X) (fun x h=>by simp[h]) (List.Sublist.refl _)
   rw[LM ht] at hx
   rw[hx]
   simpa using j4
  ·have ht:dy (aC ws (dX f pg (l:Int)))=true:=by simpa[dy] using cc
   have j4:=K.sub (K.ext j3 h9) (X':=X) (fun x h=>by simp[h]) (List.Sublist.refl _)
   rcases l with _|l
   ·refine⟨0,by omega,.inr ⟨rfl,?_⟩⟩
    rw[hx]
    simpa[IE] using j4
   ·refine⟨l+1,by omega,.inl ⟨l,?_,rfl,by omega,pre++[(f,((l+1:Nat):Int),dX f pg ((l+1:Nat):Int),())],?_,by simpa using j4⟩⟩
    ·show bL .i64 ((l+1:Nat):Int) 1=(l:Int)
     rw[bS (by omega) (by omega)];omega
    ·rw[hx,IE,if_pos ht,List.append_assoc];rfl
 ·dsimp only at e1 ⊢
  subst e1
  exact ak rfl fun w2 h2=>K.ext j h2
section
variable {Q:Sys} {D G:List Nat} {w0 w:World} {s:WD} {L0:List (Nat×List Value)} {bt:Nat} {o r:Int} {gone:Bool}
namespace aU
theorem way (S:aU Q D G w0 w s L0) (pg:Int) {K:Option Addr×Option Addr×Unit->World->Prop} (k: ∀b c w2,aU Q D G w0 w2 s ((c,[.int .i64 pg])::(b,[.pointer (some ⟨bt,0,none⟩)])::L0)->K (some ⟨b,0,none⟩,some ⟨c,0,none⟩,()) w2):
 az Tryz.prog 175 TE [.pointer (some ⟨bt,0,none⟩),.int .i64 pg] w K:=by
 refine S.go fun w1 S=>ai (C:=N0) (aJ:=fun _=>[]) (Eq.mpr (Oo _ pg w1 K) ?_)
 exact S.al fun b w2 S=>S.al fun c w3 S=>S.en fun w4 S=>k b c w4 S
theorem IA (S:aU Q D G w0 w s L0) (k0:Nat) (ht:L0[k0]? =some (bt,mQ Q o r gone)) {b c:Nat} {pg:Int} (hb:(b,[Value.pointer (some ⟨bt,0,none⟩)])∈L0) (hc:(c,[Value.int .i64 pg])∈L0)
 {K:Option Addr×Nat×Nat->World->Prop} (k: ∀bs cs rest w2,aU Q D G w0 w2 s ((bs,flat (.agg ML) (cD s.1 pg 3 r)++rest)::L0)->K (some ⟨bs,0,none⟩,(cD s.1 pg 3 r).length,cs) w2):
 az Tryz.prog 174 (.el (.one .slice)) [.func (.func 221) #[] #[.pointer (some ⟨b,0,none⟩),.pointer (some ⟨c,0,none⟩)]] w K:=by
 refine S.go fun w1 S=>aL (C:=N0) (aJ:=rJ) (Eq.mpr (LC _ _ w1 K) ?_)
 obtain⟨h1,h2,h3,h4,ca,la,H0⟩:=S
 have H:=H0.again
 refine aA.go H fun bl w2 H=>?_
 have hlen:(cD s.1 pg 3 r).length<=4:=qU s.1 pg 3 r
 refine wD.IA (N:=4) (bm:=Q.bm) (mc:=Mc Q s.1.length) (Su:=[(bl,[.slice none 0 0])]) (Lb:=(Q.bw,flat eW s.1++Q.rw)::(Q.bf,flat eD s.2++Q.rf)::(Q.bp,[.slice (some ⟨Q.bf,0,none⟩) s.2.length Q.cp])::L0) H ⟨_, _,rfl⟩
  (RR (o:=o) (r:=r) (gone:=gone) (bt:=bt) (pg:=pg) h4 h1) ?_ (by simpa using hlen) (fun xs Rg=>Qe (.agg ML) bl (xs.map (·.1)) Rg) (.inl ⟨rfl,rfl⟩) ?_ ?_
 ·intro x hx
  simp only[List.mem_cons,List.not_mem_nil,or_false] at hx
  rcases hx with rfl|rfl|rfl|rfl
  ·simp[List.mem_of_getElem? ht]
  ·simp
  ·simp[hb]
  ·simp[hc]
 ·intro b0 x Rg Z rr l rec w3 R hN hg hr hR
  refine Aa.go hr rfl ?_
  refine aA.go (At.start [] w3) fun b1 w4 H1=>av.all 0 H1 rfl rfl rfl fun w5 H1=>?_
  obtain⟨yN,Pa⟩:=uG.new hr H1
  obtain⟨sl,qf⟩:=hg.head
  refine yI.XR yN fun wb H hB SB=>ag.at 1 H (by rw[List.getElem?_cons_succ,List.getElem?_append_left (List.getElem?_eq_some_iff.1 qf).1];exact qf) rfl (ag.at 0 H rfl rfl (aA.go H fun b2 w6 H=>fun w7 h7=>?_))
  have H:=H.ext h7
  have H2:aF [] _ wb w7 ((b2,cellsOf (.agg ML) x.1)::(Rg++((b1,[.int .i64 x.1.1,.int .i64 x.1.2.1,.int .i64 x.1.2.2.1])::Z))):=H.perm (List.Perm.cons _ List.perm_middle)
  refine hg.push qf H2 rfl rfl rfl (by simp only[List.length_map];omega) fun Ig w8 hg' H3=>qg.gj hB (H3.sub (List.Sublist.append (List.Sublist.refl _) (List.sublist_cons_self _ _))) fun w9 VZ V3=>hR Ig w9 (by simpa using hg') VZ ((Pa.trans SB).trans V3)
 ·rintro rr rec w4 l' Rg ⟨Qg,S8,rfl⟩ hg hr
  refine cO.none hr fun w5 H=>?_
  have S4:((cD s.1 pg 3 r).map Qf).map (·.1)=cD s.1 pg 3 r:=by
   rw[List.map_map];exact List.map_id _
  rw[S4] at hg
  rcases hg with ⟨h, _⟩|⟨bs,cs,rest,rfl,g1,g2⟩
  ·exact absurd h (ux _ _ _ _)
  ·refine ag.at 0 H rfl rfl (qh.go H fun w6 H=>k bs cs rest w6 ⟨h1,h2,h3,h4,Qg,S8,H0.join (fun x hx=>hx) ?_⟩)
   refine(H.sub (List.sublist_cons_self _ _)).perm ?_
   exact List.perm_middle (l₁:=[_, _, _, _])
end aU
end
end Go.Proofs.YtdnoecpjcoibmaaGreat
namespace Go.Proofs.YtdnoecpjcoibmaaGreat
set_option maxRecDepth 100000
open Go.RX D
theorem zu (ws:List Int) (r pg:Int):(cD ws pg 3 r)[(cD ws pg 3 r).length - 1]? =some (di ws r pg):=by
 have hn:=ux ws pg 3 r
 unfold di
 rw[List.getLastD_eq_getLast?, <-List.getLast?_eq_getElem?,List.getLast?_eq_some_getLast hn]
 rfl
theorem ny (ws:List Int) (a:Int):0<=(aC ws a).2.2.2.1/\(aC ws a).2.2.2.1<4096:=Ek _
section
variable {Q:Sys} {D G:List Nat} {w0 w:World} {s:WD} {L0:List (Nat×List Value)} {bt:Nat} {o r:Int} {gone:Bool}
namespace aU
theorem end_ (S:aU Q D G w0 w s L0) (k0:Nat) (ht:L0[k0]? =some (bt,mQ Q o r gone)) (pg:Int) {K:PT×ET×Unit->World->Prop} (k: ∀w2,aU Q D G w0 w2 s L0->K (di s.1 r pg,cx s.1 r pg,()) w2):
 az Tryz.prog 107 (.bq [.agg ML,.agg Vc]) [.pointer (some ⟨bt,0,none⟩),.int .i64 pg] w K:=by
 refine S.go fun w1 S=>aL (C:=N0) (aJ:=fun _=>[]) (Eq.mpr (Oq _ pg w1 K) ?_)
 refine S.al fun b w2 S=>S.al fun b1 w3 S=>S.way pg fun bb bc w4 S=>S.IA (pg:=pg) (k0+4) ht (by simp) (by simp) fun bs cs rest w5 S=>?_
 have hlen:(cD s.1 pg 3 r).length<=4:=qU s.1 pg 3 r
 have hpos:0<(cD s.1 pg 3 r).length:=List.length_pos_iff.2 (ux s.1 pg 3 r)
 have e1:bL .i64 (((cD s.1 pg 3 r).length:Nat):Int) 1=(((cD s.1 pg 3 r).length - 1:Nat):Int):=by rw[bS (by omega) (by omega)];omega
 have hrd:=ff (S.get (i:=0) rfl) (zu s.1 r pg)
 dsimp only
 rw[e1]
 refine⟨⟨rfl,by omega,by omega⟩,ag.of (di s.1 r pg) hrd ?_⟩
 refine S.al fun b2 w6 S=>S.cC 0 rfl rfl rfl fun w7 S=>S.ld 0 rfl rfl ⟨rfl,S.bu 0 rfl rfl (S.at_ (k0+6) ht _ fun w8 S=>⟨bY (S.get (i:=0) rfl) rfl,S.cC 5 rfl rfl rfl fun w9 S=>S.cC 4 rfl rfl rfl fun lE S=>S.en fun mh S=>S.ld 5 rfl rfl (S.ld 4 rfl rfl (k mh S.tail.tail.tail.tail.tail.tail))⟩)⟩
theorem query (S:aU Q D G w0 w s L0) (k0:Nat) (ht:L0[k0]? =some (bt,mQ Q o r gone)) (pg:Int) {K:Int×Int×Int×Unit->World->Prop} (k: ∀w2,aU Q D G w0 w2 s L0->K (aV s r gone pg) w2):
 az Tryz.prog 51 (.bq [.one (.int .i64),.one (.int .i64),.one (.int .i64)]) [.pointer (some ⟨bt,0,none⟩),.int .i64 pg] w K:=by
 refine S.go fun w1 S=>ai (C:=N0) (aJ:=fun _=>[]) (Eq.mpr (Gx _ pg w1 K) ?_)
 refine⟨_,S.state k0 ht,?_⟩
 unfold aV at k
 cases gone with
 |true=>
  rw[if_pos rfl] at k
  exact ay rfl (S.en fun w2 S=>k w2 S)
 |false=>
  rw[if_neg (by decide)] at k
  refine ak rfl (aa (fun c=>S.en fun w2 S=>?_) (fun c=>?_))
  ·simp only[Bool.or_eq_true,decide_eq_true_eq] at c
   rw[if_pos c] at k
   exact k w2 S
  ·simp only[Bool.or_eq_false_iff,decide_eq_false_iff_not] at c
   rw[if_neg (by omega)] at k
   refine S.end_ k0 ht pg fun w2 S=>S.al fun b w3 S=>S.al fun b1 w4 S=>S.cC 1 rfl rfl rfl fun w5 S=>S.cC 0 rfl rfl rfl fun w6 S=>⟨rfl,S.bu 0 rfl rfl (aa (fun c2=>S.en fun w7 S=>?_) (fun c2=>S.ld 1 rfl rfl (S.ld 0 rfl rfl ⟨_,Eo (by omega) (di s.1 r pg) (cx s.1 r pg) (ny _ _) _,rfl,S.bu 0 rfl rfl (S.en fun w7 S=>?_)⟩)))⟩
   ·have c2:(cx s.1 r pg).1=false:=by simpa using c2
    rw[c2,if_neg (by decide)] at k
    exact k w7 S.tail.tail
   ·have c2:(cx s.1 r pg).1=true:=by simpa using c2
    rw[c2,if_pos rfl] at k
    exact k w7 S.tail.tail
theorem split (S:aU Q D G w0 w s L0) (k0:Nat) (ht:L0[k0]? =some (bt,mQ Q o r gone)) (pg:Int) {K:Int->World->Prop} (k: ∀w2,aU Q D G w0 w2 (eY s o r pg) L0->K (kf s o r pg) w2):
 az Tryz.prog 209 (.el (.one (.int .i64))) [.pointer (some ⟨bt,0,none⟩),.int .i64 pg] w K:=by
 refine S.go fun w1 S=>ai (C:=N0) (aJ:=fun _=>[]) (Eq.mpr (Gy _ pg w1 K) ?_)
 unfold eY kf at k
 refine S.end_ k0 ht pg fun w2 S=>S.al fun b w3 S=>S.al fun b1 w4 S=>S.cC 1 rfl rfl rfl fun w5 S=>S.cC 0 rfl rfl rfl fun w6 S=>⟨rfl,S.bu 1 rfl rfl (aa (fun c=>S.en fun w7 S=>?_) (fun c=>?_))⟩
 ·have c:(di s.1 r pg).2.1=0:=by simpa using c
  rw[if_pos c,if_pos c] at k
  exact k w7 S.tail.tail
 ·have c: ¬ (di s.1 r pg).2.1=0:=by simpa using c
  rw[if_neg c,if_neg c] at k
  refine S.Ur (k0+2) ht 0 (be:=b1) (e:=cx s.1 r pg) rfl (ny _ _) fun w7 S=>aa (fun c2=>⟨rfl,S.bu 1 rfl rfl ⟨bN (dL s o),En _ _,S.lay (k0+2) ht _ (bN (dL s o)) fun w8 S=>S.en fun w9 S=>?_⟩⟩) (fun c2=>S.en fun w8 S=>?_)
  ·have c2:pq s o=0:=by simpa using c2
   rw[if_pos c2] at k
   exact k w9 S.tail.tail
  ·have c2: ¬ pq s o=0:=by simpa using c2
   rw[if_neg c2] at k
   exact k w8 S.tail.tail
end aU
end
end Go.Proofs.YtdnoecpjcoibmaaGreat
namespace Go.Proofs.YtdnoecpjcoibmaaGreat
set_option maxRecDepth 100000
open Go.RX D
theorem Ep (ws:List Int) (pg:Int): ∀(l:Nat) (f:Int) (x:PT),x∈cD ws pg l f->0<=x.2.1/\x.2.1<=(l:Int)
 |0,f,x,h=>by
  rw[cD,List.mem_singleton] at h
  subst h
  exact⟨Int.le_refl _,Int.le_refl _⟩
 |l+1,f,x,h=>by
  rw[cD] at h
  rcases List.mem_cons.1 h with rfl|h
  ·exact⟨by show(0:Int)<=((l+1:Nat):Int);omega,Int.le_refl _⟩
  ·split at h
   ·have:=Ep ws pg l _ x h
    omega
   ·cases h
theorem OD (ws:List Int) (r pg:Int):0<=(di ws r pg).2.1/\(di ws r pg).2.1<=3:=by
 have:=Ep ws pg 3 r _ (List.mem_of_getElem? (zu ws r pg))
 omega
section
variable {Q:Sys} {D G:List Nat} {w0 w:World} {s:WD} {L0:List (Nat×List Value)} {bt:Nat} {o r:Int} {gone:Bool}
namespace aU
theorem put (S:aU Q D G w0 w s L0) (k0:Nat) (ht:L0[k0]? =some (bt,mQ Q o r gone)) (pg lv:Int) (hlv:0<=lv/\lv<=3) (e:ET) {K:Int->World->Prop} (k: ∀w2,aU Q D G w0 w2 (qv s o r pg lv e) L0->K (ke s r pg lv) w2):
 az Tryz.prog 207 (.el (.one (.int .i64))) [.pointer (some ⟨bt,0,none⟩),.int .i64 pg,.int .i64 lv,.agg ⟨[.bool e.1,.int .i64 e.2.1,.bool e.2.2.1,.int .i64 e.2.2.2.1]⟩] w K:=by
 refine S.go fun w1 S=>ai (C:=N0) (aJ:=tN) (Eq.mpr (Ot _ pg lv e.1 e.2.1 e.2.2.1 e.2.2.2.1 w1 K) ?_)
 have hx:=OD s.1 r pg
 unfold qv at k
 refine S.al fun b w2 S=>S.end_ (k0+1) ht pg fun w2 S=>S.al fun b1 w3 S=>S.al fun b2 w4 S=>S.cC 1 rfl rfl rfl fun w5 S=>S.cC 0 rfl rfl rfl fun w6 S=>⟨rfl,S.bu 0 rfl rfl ⟨fun _=>rfl,S.bu 1 rfl rfl ?_⟩⟩
 by_cases c1:((cx s.1 r pg).1||decide ((di s.1 r pg).2.1<lv))=true
 ·have e1:ke s r pg lv=5:=by unfold ke;rw[if_pos c1]
  rw[e1,if_neg (by decide)] at k
  exact ay c1 (S.en fun w7 S=>k w7 S.tail.tail.tail)
 have Qh:=c1
 simp only[Bool.or_eq_true,decide_eq_true_eq,not_or] at Qh
 refine ak (by simpa using c1) ⟨rfl,rfl,S.bu (k0+3) ht rfl ⟨_,S.cnt 0,rfl,S.bu 1 rfl rfl ?_⟩⟩
 have W7:bL .i64 (di s.1 r pg).2.1 lv=(di s.1 r pg).2.1 - lv:=bS (by omega) (by omega)
 dsimp only
 rw[W7]
 by_cases c2:(aX s.2 0:Int)<(di s.1 r pg).2.1 - lv
 ·have e1:ke s r pg lv=12:=by unfold ke;rw[if_neg c1,if_pos c2]
  rw[e1,if_neg (by decide)] at k
  exact ay (by simpa using c2) (S.en fun w7 S=>k w7 S.tail.tail.tail)
 have e1:ke s r pg lv=0:=by unfold ke;rw[if_neg c1,if_neg c2]
 rw[e1,if_pos rfl] at k
 obtain⟨n0,hn0⟩: ∃n0,n0=((di s.1 r pg).2.1 - lv).toNat:=⟨_,rfl⟩
 rw[<-hn0] at k
 obtain⟨z,hz⟩: ∃z,z=qF o pg n0 (s,di s.1 r pg):=⟨_,rfl⟩
 rw[<-hz] at k
 refine ak (by simpa using c2) ⟨fun n _ w'=> ∃t:WD, ∃x:PT,qF o pg n (t,x)=z/\x.2.1=lv+(n:Int)/\n<=3/\aU Q D G w0 w' t ((b2,[.bool (cx s.1 r pg).1,.int .i64 (cx s.1 r pg).2.1,.bool (cx s.1 r pg).2.2.1,.int .i64 (cx s.1 r pg).2.2.2.1])::(b1,[.int .i64 x.1,.int .i64 x.2.1,.int .i64 x.2.2.1])::(b,[.bool e.1,.int .i64 e.2.1,.bool e.2.2.1,.int .i64 e.2.2.2.1])::L0),
  ⟨n0,fun w7 h7=>⟨s,di s.1 r pg,hz.symm,by omega,by omega,S.ext h7⟩⟩,?_⟩
 rintro n u w7 ⟨t,x,hd,hl,hn,S⟩
 refine⟨rfl,S.bu 1 rfl rfl ?_⟩
 rcases n with _|n
 ·refine ak (by simp;omega) ⟨rfl,S.bu 1 rfl rfl (S.ld 2 rfl rfl (S.lay (k0+3) ht _ e fun w8 S=>S.en fun w9 S=>k w9 ?_))⟩
  have:z=(t,x):=hd.symm
  rw[this]
  exact S.tail.tail.tail
 ·refine ay (by simp;omega) (S.Uq (k0+3) ht fun w8 S=>⟨rfl,S.bu 1 rfl rfl ⟨bN (dL t o),En _ _,S.lay (k0+3) ht _ (bN (dL t o)) fun w9 S=>⟨rfl,S.bu 1 rfl rfl ⟨rfl,S.bu 1 rfl rfl ⟨trivial,S.cC 1 rfl rfl rfl fun lE S=>fun mh zU=>⟨n,by omega,dx (gM t o fun _=>0) x.2.2.1 (bN (dL t o)),(dL t o,x.2.1 - 1,dX (dL t o) pg (x.2.1 - 1),()),hd,by show x.2.1 - 1= _;omega,by omega,?_⟩⟩⟩⟩⟩⟩)
  have e2:bL .i64 x.2.1 1=x.2.1 - 1:=bS (by omega) (by omega)
  have S:=S.ext zU
  rw[e2] at S
  exact S
theorem map (S:aU Q D G w0 w s L0) (k0:Nat) (ht:L0[k0]? =some (bt,mQ Q o r gone)) (pg f rt:Int) {K:Int->World->Prop} (k: ∀w2,aU Q D G w0 w2 (iP s o r gone pg f rt) L0->K (gO s r gone pg f rt) w2):
 az Tryz.prog 156 (.el (.one (.int .i64))) [.pointer (some ⟨bt,0,none⟩),.int .i64 pg,.int .i64 f,.int .i64 rt] w K:=by
 refine S.go fun w1 S=>ai (C:=N0) (aJ:=fun _=>[]) (Eq.mpr (Ou _ pg f rt w1 K) ?_)
 unfold iP gO at k
 refine⟨_,S.state k0 ht,?_⟩
 cases gone with
 |true=>
  rw[if_pos rfl,if_pos rfl] at k
  exact ay rfl (S.en fun w2 S=>k w2 S)
 |false=>
  have lF: ¬ (false=true):=by decide
  rw[if_neg lF,if_neg lF] at k
  refine ak rfl ⟨_,Em _ _ _ _,aa (fun c=>S.en fun w2 S=>?_) (fun c=>S.put k0 ht pg 0 ⟨by decide,by decide⟩ (true,rt,false,f,()) fun w2 S=>S.en fun w3 S=>?_)⟩
  ·have c: ¬ iT pg f rt=0:=by simpa using c
   rw[if_neg c,if_neg c] at k
   exact k w2 S
  ·have c:iT pg f rt=0:=by simpa using c
   rw[if_pos c,if_pos c] at k
   exact k w3 S
end aU
end
end Go.Proofs.YtdnoecpjcoibmaaGreat
namespace Go.Proofs.YtdnoecpjcoibmaaGreat
set_option maxRecDepth 100000
open Go.RX D
theorem OE {p:Prop} {α:Type} (d:Decidable p) (hn: ¬ p) (a b:α):(Decidable.rec (fun _=>a) (fun _=>b) d:α)=a:=by
 cases d with
 |isFalse h=>rfl
 |isTrue h=>exact absurd h hn
theorem Er {ws:List Int} {i n:Int} (h: ¬ (n<1\/i<0\/i>ws.length\/n>ws.length - i)):(gP ws i n).length=n.toNat:=by
 unfold gP
 rw[if_neg h,List.length_take,List.length_drop]
 omega
section
variable {D G:List Nat} {w0 w:World} {L:List (Nat×List Value)}
theorem Cn {bw n c:Nat} {ws:List Int} {rest:List Value} (hw:aY w bw (flat eW ws++rest)) (hn:n=ws.length) (hc:n<=c) (hb:n<=1048576) (i k:Int):
 an Tryz.prog 74 (.el (.one .slice)) [.agg ⟨[.slice (some ⟨bw,0,none⟩) n c]⟩,.int .i64 i,.int .i64 k] w (fun r w'=>iM w w' eW r (gP ws i k)/\Ext w w'):=by
 refine ai (C:=N0) (aJ:=fun _=>[]) (Eq.mpr (Ox _ n c i k w _) ?_)
 have H:=At.start [] w
 refine aA.go H fun b w2 H=>⟨fun _=>rfl,ag.bP 0 H rfl rfl ⟨fun _=>rfl,ag.bP 0 H rfl rfl ?_⟩⟩
 by_cases t_:k<1\/i<0\/i>ws.length\/k>ws.length - i
 ·have e0:gP ws i k=[]:=if_pos t_
  rw[e0]
  refine ay ?_ (aj.go H fun w3 H=>⟨iM.nil w w3 eW,H.all⟩)
  dsimp only
  simp only[Bool.or_eq_true,decide_eq_true_eq]
  by_cases h1:k<1
  ·exact .inl (.inl (.inl h1))
  ·by_cases h2:i<0
   ·exact .inl (.inl (.inr h2))
   ·by_cases h3:i>(n:Int)
    ·exact .inl (.inr h3)
    ·refine .inr ?_
     rw[bS (by omega) (by omega)];omega
 ·have hg:1<=k/\0<=i/\i+k<=n:=by omega
  have e1:bL .i64 (n:Int) i=(n:Int) - i:=bS (by omega) (by omega)
  refine ak ?_ ?_
  ·dsimp only
   rw[e1]
   simp only[Bool.or_eq_false_iff,decide_eq_false_iff_not]
   omega
  refine BF.go H (z:=[.int .u64 0]) rfl (by omega) (Int.le_refl _) (by omega) (by omega) fun b1 w3 H=>⟨rfl,ag.bP 1 H rfl rfl ⟨by dsimp only;omega,fun w4 h4=>?_⟩⟩
  have H:=H.ext h4
  have U8:=hw.ext H.all
  dsimp only
  rw[OE _ (by show ¬ (((c:Nat):Int).toNat=i.toNat);omega)]
  have hlen:(gP ws i k).length=k.toNat:=Er t_
  have QA:gP ws i k=(ws.drop i.toNat).take k.toNat:=if_neg t_
  have hfl:(flat eW (gP ws i k)).length=k.toNat:=by rw[aG,hlen];exact Nat.mul_one _
  have hmin:Nat.min (((n:Nat):Int).toNat - i.toNat) k.toNat=k.toNat:=Nat.min_eq_right (by omega)
  have QO:(List.replicate k.toNat [Value.int .u64 0]).flatten.length=k.toNat:=by simp
  refine⟨flat eW (gP ws i k),?_,.inr (.inr ⟨?_,?_⟩),?_⟩
  ·show yG w4 (af (some ⟨bw,0,none⟩) (i.toNat*1)) (Nat.min (((n:Nat):Int).toNat - i.toNat) k.toNat*1) _
   rw[hmin,aK,Nat.mul_one,Nat.mul_one]
   refine U8.yG hfl fun j hj=>?_
   have e2:=DO ws
   have e3:=DO (gP ws i k)
   rw[Nat.zero_add,e2,e3,List.getElem?_append_left (by rw[List.length_map];omega),List.getElem?_map,List.getElem?_map,QA,List.getElem?_take_of_lt hj,List.getElem?_drop]
  ·rw[hfl]
   exact(H.get (i:=0) rfl).st (by rw[QO];omega)
  ·have:=kH eW (gP ws i k) rfl
   exact this
  ·have H5:=H.put 0 (b:=b1) (o:=0) rfl (flat eW (gP ws i k)) (by rw[hfl,QO];omega)
   have hd:List.drop k.toNat (List.replicate k.toNat [Value.int .u64 0]).flatten=[]:=List.drop_of_length_le (Nat.le_of_eq QO)
   rw[Nat.zero_add,hfl,hd,List.append_nil,List.take_zero,List.nil_append] at H5
   refine aj.go H5 fun w6 H6=>⟨?_,H6.all⟩
   have wT:w.heap.size<=b1:=by
    rcases H6.own (b1,flat eW (gP ws i k)) List.mem_cons_self with h|h
    ·exact h
    ·cases h
   refine⟨hlen.symm,by rw[hlen];exact Nat.le_refl _,.inr ⟨b1, _,rfl,wT,H6.get (i:=0) rfl,by rw[hfl];exact(Nat.mul_one _).symm,?_⟩⟩
   rw[hlen]
   exact List.take_of_length_le (by rw[hfl];exact Nat.le_of_eq (Nat.mul_one _).symm)
theorem GF {e:El} {xs:List e.T} {rest:List Value} {i:Nat} {x:e.T} (hx:xs[i]? =some x) {j:Nat} (hj:j<aI e):(flat e xs++rest)[i*aI e+j]? =(cellsOf e x)[j]? :=by
 have hi:i<xs.length:=(List.getElem?_eq_some_iff.1 hx).1
 have hl:i*aI e+j<(flat e xs).length:=by
  rw[aG]
  have:(i+1)*aI e<=xs.length*aI e:=Nat.mul_le_mul_right _ hi
  rw[Nat.add_mul] at this
  omega
 rw[List.getElem?_append_left hl]
 exact vp e xs i x hx j hj
end
section
variable {Q:Sys} {D G:List Nat} {w0 w:World} {s:WD} {L0:List (Nat×List Value)} {bt:Nat} {o r:Int} {gone:Bool}
abbrev Fe (Q:Sys) (s:WD):Prop:=s.1.length<=Q.c/\s.1.length<=1048576
namespace aU
theorem words (S:aU Q D G w0 w s L0) (hc:Fe Q s) (i n:Int) {K:Option Addr×Nat×Nat->World->Prop} (k: ∀x rows w2,aU Q D G w0 w2 s (L0++rows)->jy eW rows x (gP s.1 i n)->K x w2):
 az Tryz.prog 29 (.el (.one .slice)) [.pointer (some ⟨Q.bm,0,none⟩),.int .i64 i,.int .i64 n] w K:=by
 refine S.go fun w1 S=>ai (C:=N0) (aJ:=fun _=>[]) (Eq.mpr (sx _ i n w1 K) ?_)
 obtain⟨h1,h2,h3,h4,ca,la,H⟩:=S
 refine ak rfl ⟨rfl,rfl,ag.bP 0 H rfl rfl ?_⟩
 refine az.QK H (fun w2 H=>Cn (H.get (i:=1) rfl) rfl hc.1 hc.2 i n) fun x rows w2 H hr=>aj.go H fun w3 H=>k x rows w3 ⟨h1,h2,h3,h4,ca,la,H⟩ hr
theorem qV (S:aU Q D G w0 w s L0) {j bs:Nat} {l:List PT} {rest:List Value} (hb:L0[j]? =some (bs,flat (.agg ML) l++rest)) {i:Nat} {x:PT} (hx:l[i]? =some x) (q:Nat) {K:Int->Prop} {v:Int} (hq:q<3) (hv:(cellsOf (.agg ML) x)[q]? =some (.int .i64 v)) (k:K v):
 ag w none (af (af (some ⟨bs,0,none⟩) (i*3)) q) (.one (.int .i64)) K:=by
 rw[aK,aK,Nat.zero_add]
 refine ag.of v ((S.get hb).lG ?_) k
 have:=GF (e:= .agg ML) (rest:=rest) hx (j:=q) hq
 rw[show i*3+q=i*aI (.agg ML)+q from rfl,this,hv]
 rfl
end aU
end
end Go.Proofs.YtdnoecpjcoibmaaGreat
namespace Go.Proofs.YtdnoecpjcoibmaaGreat
set_option maxRecDepth 100000
open Go.RX D
theorem Us (x:PT) (t:WD):ij [x] t=t:=rfl
theorem Ut (x y:PT) (l:List PT) (t:WD):ij (x::y::l) t=if ud t.1 x.1=true then ij (y::l) (cH t.1 y.2.2.1 0,fQ t.2 x.1 (aE 5 0)) else t:=rfl
theorem GG {l:List PT} {q:Nat} {x y:PT} (hy:l[q]? =some y) (hx:l[q+1]? =some x):(l.take (q+2)).reverse=x::y::(l.take q).reverse/\(l.take (q+1)).reverse=y::(l.take q).reverse:=by
 have e1:l.take (q+1)=l.take q++[y]:=by rw[List.take_add_one,hy];rfl
 have e2:l.take (q+2)=l.take q++[y]++[x]:=by rw[List.take_add_one,hx,e1];rfl
 exact⟨by rw[e2];simp,by rw[e1];simp⟩
theorem Es {ws:List Int} (pg:Int): ∀(l:Nat) (f:Int),(0<=f/\f<4096)-> ∀x∈cD ws pg l f,0<=x.1/\x.1<4096
 |0,f,hf,x,h=>by
  rw[cD,List.mem_singleton] at h
  subst h;exact hf
 |l+1,f,hf,x,h=>by
  rw[cD] at h
  rcases List.mem_cons.1 h with rfl|h
  ·exact hf
  ·split at h
   ·exact Es pg l _ (ny _ _) x h
   ·cases h
section
variable {Q:Sys} {D G:List Nat} {w0 w:World} {s:WD} {L0:List (Nat×List Value)} {bt:Nat} {o r:Int} {gone:Bool}
namespace aU
theorem thin (S:aU Q D G w0 w s L0) (hc:Fe Q s) (k0:Nat) (ht:L0[k0]? =some (bt,mQ Q o r gone)) {j bs c:Nat} {l:List PT} {rest:List Value} (hb:L0[j]? =some (bs,flat (.agg ML) l++rest)) (hl:l.length<=4) (hf: ∀x∈l,0<=x.1/\x.1<4096)
 {K:Unit->World->Prop} (k: ∀w2,aU Q D G w0 w2 (ij l.reverse s) L0->K () w2):
 az Tryz.prog 210 (.bq []) [.pointer (some ⟨bt,0,none⟩),.slice (some ⟨bs,0,none⟩) l.length c] w K:=by
 refine S.go fun w1 S=>ai (C:=N0) (aJ:=rK) (Eq.mpr (LG _ _ _ c w1 K) ?_)
 obtain⟨z,hz⟩: ∃z,z=ij l.reverse s:=⟨_,rfl⟩
 rw[<-hz] at k
 refine⟨fun n v w'=> ∃t:WD,v.1+1=(n:Int)/\n<=l.length/\t.1.length=s.1.length/\ij (l.take n).reverse t=z/\aU Q D G w0 w' t L0,
  ⟨l.length,fun w2 h2=>⟨s,?_,Nat.le_refl _,rfl,by rw[List.take_length];exact hz.symm,S.ext h2⟩⟩,?_⟩
 ·show bL .i64 ((l.length:Nat):Int) 1+1= _
  rw[bS (by omega) (by omega)];omega
 rintro n ⟨v,u⟩ w2 ⟨t,e1,hn,hlen,hd,S⟩
 dsimp only at e1 ⊢
 rcases n with _| _|q
 ·refine ak (by simp;omega) (S.en fun w3 S=>k w3 ?_)
  rw[<-hd];exact S
 ·refine ak (by simp;omega) (S.en fun w3 S=>k w3 ?_)
  have:ij (l.take (0+1)).reverse t=t:=by
   cases l with
   |nil=>rfl
   |cons x l=>exact Us x t
  rw[<-hd,this];exact S
 ·obtain rfl:v=((q+1:Nat):Int):=by omega
  have hx:l[q+1]? =some l[q+1]:=List.getElem?_eq_getElem (by omega)
  have hy:l[q]? =some l[q]:=List.getElem?_eq_getElem (by omega)
  generalize l[q+1]=x at hx
  generalize l[q]=y at hy
  obtain⟨t2,t1⟩:=GG hy hx
  rw[t2,Ut, <-t1] at hd
  have hfx:=hf x (List.mem_of_getElem? hx)
  have em:b_ .i64 16 x.1=16*x.1:=eA (by omega) (by omega)
  have es:bL .i64 ((q+1:Nat):Int) 1=(q:Int):=by rw[bS (by omega) (by omega)];omega
  refine ay (by simp) ⟨rfl,rfl,S.bu k0 ht rfl ⟨⟨rfl,by omega,by omega⟩,rfl,S.qV hb hx 0 (by decide) rfl ?_⟩⟩
  rw[em]
  refine S.words ⟨by rw[hlen];exact hc.1,by rw[hlen];exact hc.2⟩ (16*x.1) 16 fun rr rows w3 S hr=>?_
  have Y5:(gP t.1 (16*x.1) 16).length<=16:=by
   by_cases t_:(16:Int)<1\/16*x.1<0\/16*x.1>t.1.length\/16>t.1.length - 16*x.1
   ·rw[show gP t.1 (16*x.1) 16=[] from if_pos t_];simp
   ·rw[Er t_];decide
  have hrl:rr.2.1=(gP t.1 (16*x.1) 16).length:=hr.1
  refine⟨fun n v w'=> ∃m:Nat,v.1=(m:Int)/\n+m=(gP t.1 (16*x.1) 16).length/\(∀i,i<m->(gP t.1 (16*x.1) 16)[i]? =some 0)/\aU Q D G w0 w' t (L0++rows),⟨(gP t.1 (16*x.1) 16).length,fun w4 h4=>⟨0,rfl,rfl,fun i hi=>by omega,S.ext h4⟩⟩,?_⟩
  rintro n ⟨v,u2⟩ w4 ⟨m,e1,hnm,X5,S⟩
  dsimp only at e1 ⊢
  subst e1
  rw[hrl]
  refine aa (fun cc=>?_) (fun cc=>?_)
  ·have hm:m<(gP t.1 (16*x.1) 16).length:=by simpa using cc
   have hv:=List.getElem?_eq_getElem hm
   generalize (gP t.1 (16*x.1) 16)[m]=v0 at hv
   obtain⟨g1,g2,g3,g4,ca,la,H⟩:=S
   have qf:=hr.sl H (fun x hx=>by
    show x∈ _:: _:: _:: _::(L0++rows)
    simp[hx]) m v0 hv
   have S:aU Q D G w0 w4 t (L0++rows):=⟨g1,g2,g3,g4,ca,la,H⟩
   refine⟨⟨qf.1,by omega,by omega⟩,ag.of v0 qf.2 (aa (fun c2=>S.en fun w5 S=>k w5 ?_) (fun c2=>fun w5 h5=>⟨n - 1,by omega,m+1,?_,by omega,fun i hi=>?_,S.ext h5⟩))⟩
   ·have c2: ¬ v0=0:=by simpa using c2
    have ha:ud t.1 x.1=false:=by
     unfold ud
     rw[List.all_eq_false]
     exact⟨v0,List.mem_of_getElem? hv,by simpa using c2⟩
    rw[ha,if_neg (by decide)] at hd
    rw[<-hd]
    exact S.sub (List.sublist_append_left _ _)
   ·rw[ar (by omega) (by omega)];omega
   ·have c2:v0=0:=by simpa using c2
    by_cases e:i=m
    ·subst e;rw[hv,c2]
    ·exact X5 i (by omega)
  ·have hm: ¬ m<(gP t.1 (16*x.1) 16).length:=by simpa using cc
   have ha:ud t.1 x.1=true:=by
    unfold ud
    rw[List.all_eq_true]
    intro v0 Pf
    obtain⟨i,hi⟩:=List.getElem?_of_mem Pf
    have:=X5 i (by have:=(List.getElem?_eq_some_iff.1 hi).1;omega)
    rw[hi] at this
    cases this;rfl
   rw[ha,if_pos rfl] at hd
   have S:=S.sub (List.sublist_append_left L0 rows)
   refine⟨rfl,rfl,S.bu k0 ht rfl ?_⟩
   rw[es]
   refine⟨⟨rfl,by omega,by omega⟩,rfl,S.qV hb hy 2 (by decide) rfl (S.store _ 0 ⟨by decide,by decide⟩ fun w5 S=>⟨rfl,rfl,S.bu k0 ht rfl ⟨⟨rfl,by omega,by omega⟩,rfl,S.qV hb hx 0 (by decide) rfl (S.M8 x.1 5 0 fun w6 S=>fun w7 h7=>⟨q+1,by omega, _,by show(q:Int)+1= _;omega,by omega,?_,hd,S.ext h7⟩)⟩⟩)⟩
   show(cH t.1 y.2.2.1 0).length=s.1.length
   rw[cu];exact hlen
theorem Ay (S:aU Q D G w0 w s L0) (hc:Fe Q s) (k0:Nat) (ht:L0[k0]? =some (bt,mQ Q o r gone)) (hr:0<=r/\r<4096) (pg:Int) {K:Int×Int×Unit->World->Prop} (k: ∀w2,aU Q D G w0 w2 (lK s o r gone pg) L0->K (B7 s o r gone pg,yW s o r gone pg,()) w2):
 az Tryz.prog 158 (.bq [.one (.int .i64),.one (.int .i64)]) [.pointer (some ⟨bt,0,none⟩),.int .i64 pg] w K:=by
 refine S.go fun w1 S=>ai (C:=N0) (aJ:=fun _=>[]) (Eq.mpr (Gz _ pg w1 K) ?_)
 refine S.query k0 ht pg fun w2 S=>aa (fun c=>S.en fun w3 S=>?_) (fun c=>?_)
 ·have c: ¬ (aV s r gone pg).2.2.1=0:=by simpa using c
  have e1:yW s o r gone pg=(aV s r gone pg).2.2.1:=if_neg c
  have e2:B7 s o r gone pg=0:=by unfold B7;rw[e1,if_neg c]
  have e3:lK s o r gone pg=s:=if_neg c
  rw[e1,e2,e3] at k
  exact k w3 S
 have c:(aV s r gone pg).2.2.1=0:=by simpa using c
 have e1:yW s o r gone pg=kf s o r pg:=if_pos c
 have e3:lK s o r gone pg=if kf s o r pg=0 then ij (cD (eY s o r pg).1 pg 3 r).reverse (cH (eY s o r pg).1 (di (eY s o r pg).1 r pg).2.2.1 0,(eY s o r pg).2) else eY s o r pg:=if_pos c
 refine S.split k0 ht pg fun w3 S=>aa (fun d=>S.en fun w4 S=>?_) (fun d=>?_)
 ·have d: ¬ kf s o r pg=0:=by simpa using d
  have e2:B7 s o r gone pg=0:=by unfold B7;rw[e1,if_neg d]
  rw[e1,e2,e3,if_neg d] at k
  exact k w4 S
 have d:kf s o r pg=0:=by simpa using d
 have e2:B7 s o r gone pg=(aV s r gone pg).1:=by unfold B7;rw[e1,if_pos d]
 rw[e2,e1,e3,if_pos d,d] at k
 have hlen:(eY s o r pg).1.length=s.1.length:=by
  unfold eY gM dx
  split
  ·rfl
  ·split
   ·show(cH _ _ _).length= _
    rw[cu,fV]
   ·rfl
 generalize eY s o r pg=t at*
 refine S.way pg fun bb bc w4 S=>S.IA (pg:=pg) (k0+2) ht (by simp) (by simp) fun bs cs rest w5 S=>⟨rfl,rfl,S.bu (k0+3) ht rfl ?_⟩
 have Zl:(cD t.1 pg 3 r).length<=4:=qU t.1 pg 3 r
 have hpos:0<(cD t.1 pg 3 r).length:=List.length_pos_iff.2 (ux t.1 pg 3 r)
 have es:bL .i64 (((cD t.1 pg 3 r).length:Nat):Int) 1=(((cD t.1 pg 3 r).length - 1:Nat):Int):=by rw[bS (by omega) (by omega)];omega
 dsimp only
 rw[es]
 refine⟨⟨rfl,by omega,by omega⟩,rfl,S.qV (j:=0) rfl (zu t.1 r pg) 2 (by decide) rfl (S.store _ 0 ⟨by decide,by decide⟩ fun w6 S=>S.thin ⟨by show(cH _ _ _).length<= _;rw[cu,hlen];exact hc.1,by show(cH _ _ _).length<= _;rw[cu,hlen];exact hc.2⟩ (k0+3) ht (j:=0) rfl Zl (Es pg 3 r hr) fun w7 S=>S.en fun w8 S=>k w8 S.tail.tail.tail)⟩
theorem qJ (S:aU Q D G w0 w s L0) (k0:Nat) (ht:L0[k0]? =some (bt,mQ Q o r gone)) (pg rt:Int) {K:Int->World->Prop} (k: ∀w2,aU Q D G w0 w2 (pJ s o r gone pg rt) L0->K (B8 s o r gone pg rt) w2):
 az Tryz.prog 160 (.el (.one (.int .i64))) [.pointer (some ⟨bt,0,none⟩),.int .i64 pg,.int .i64 rt] w K:=by
 refine S.go fun w1 S=>ai (C:=N0) (aJ:=fun _=>[]) (Eq.mpr (LH _ pg rt w1 K) ?_)
 unfold pJ B8 at k
 refine⟨_,S.state k0 ht,?_⟩
 cases gone with
 |true=>
  rw[if_pos rfl,if_pos rfl] at k
  exact ay rfl (S.en fun w2 S=>k w2 S)
 |false=>
  have lF: ¬ (false=true):=by decide
  rw[if_neg lF,if_neg lF] at k
  refine ak rfl ⟨_,Em _ _ _ _,aa (fun c=>S.en fun w2 S=>?_) (fun c=>?_)⟩
  ·have c: ¬ iT pg 0 rt=0:=by simpa using c
   rw[if_neg c,if_neg c] at k
   exact k w2 S
  have c:iT pg 0 rt=0:=by simpa using c
  rw[if_pos c,if_pos c] at k
  have Qi:0<=pg:=by
   unfold iT at c
   by_cases h:pg<0\/pg>=65536\/(0:Int)<0\/(0:Int)>=4096
   ·rw[if_pos h] at c;cases c
   ·omega
  refine S.end_ k0 ht pg fun w2 S=>S.al fun b w3 S=>S.al fun b1 w4 S=>S.cC 1 rfl rfl rfl fun w5 S=>S.cC 0 rfl rfl rfl fun w6 S=>⟨rfl,S.bu 0 rfl rfl (aa (fun d=>S.en fun w7 S=>?_) (fun d=>⟨rfl,S.bu 0 rfl rfl ⟨fun _=>rfl,S.bu 0 rfl rfl (aa (fun e=>S.en fun w7 S=>?_) (fun e=>?_))⟩⟩))⟩
  ·have d: ¬ (cx s.1 r pg).1=true:=by simpa using d
   rw[if_neg d,if_neg d] at k
   exact k w7 S.tail.tail
  ·have d:(cx s.1 r pg).1=true:=by simpa using d
   rw[if_pos d,if_pos d] at k
   have e:((cx s.1 r pg).2.2.1&&(cx s.1 r pg).2.1==rt)=true:=e
   rw[if_pos e,if_pos e] at k
   exact k w7 S.tail.tail
  have d:(cx s.1 r pg).1=true:=by simpa using d
  rw[if_pos d,if_pos d] at k
  have e: ¬ ((cx s.1 r pg).2.2.1&&(cx s.1 r pg).2.1==rt)=true:=by
   have e':((cx s.1 r pg).2.2.1&&(cx s.1 r pg).2.1==rt)=false:=e
   rw[e'];decide
  rw[if_neg e,if_neg e] at k
  refine S.ld 1 rfl rfl (S.ld 0 rfl rfl ⟨_,Eo Qi (di s.1 r pg) (cx s.1 r pg) (ny _ _) _,S.split (k0+2) ht pg fun w7 S=>aa (fun f=>S.en fun w8 S=>?_) (fun f=>S.end_ (k0+2) ht pg fun w8 S=>S.cC 1 rfl rfl rfl fun w9 S=>⟨rfl,S.bu 1 rfl rfl (S.lay (k0+2) ht _ (true,rt,false,oF pg (di s.1 r pg) (cx s.1 r pg),()) fun lE S=>S.en fun mh S=>?_)⟩)⟩)
  ·have f: ¬ kf s o r pg=0:=by simpa using f
   rw[if_neg f] at k
   exact k w8 S.tail.tail
  ·have f:kf s o r pg=0:=by simpa using f
   rw[if_pos f,f] at k
   exact k mh S.tail.tail
end aU
end
end Go.Proofs.YtdnoecpjcoibmaaGreat
namespace Go.Proofs.YtdnoecpjcoibmaaGreat
set_option maxRecDepth 100000
open Go.RX
noncomputable def N1:dD Tryz.prog:={N0 with cl:=[(39,.PL)]}
def nM:Nat->aQ:=(fun|3=>[(12,Go.RX.El.one (Go.RX.Sc.int Go.IntKind.i64))]|9=>[(34,.one (.int .i64))]| _=>[])
theorem C_ (y:Nat) (p c d:Option Addr) (w:World) (Post:Unit->World->Prop):(bM N1 nM 258 [.func (.yield y) #[] #[],.pointer p,.pointer c,.pointer d] w Post)=(
 aA w {toList:=[.func (Fn.yield y) ⟨[]⟩ ⟨[]⟩]} 39 fun b w2=>ag w2 none (some ⟨b,0,none⟩) (.one .PL) fun x=>ag w2 none p (.one (.int .i64)) fun(x_1:Int)=> ∀w1,Ext w2 w1->ko Tryz.prog x [.int .i64 x_1] w1 fun(b_1:Bool) w2=>aB (!b_1) (aj w2 fun w1=>Post Unit.unit w1) (∃(I:Nat->Int×Unit->List Nat->World->Prop),(∃n, ∀w1,Ext w2 w1->I n (0,Unit.unit) [] w1)/\ ∀(n:Nat) (s:Int×Unit) (D1:List Nat) (w1:World),I n s D1 w1->aB (decide (s.1<16)) (ag w1 none c (.one .ptr) fun x=>ag w1 none p (.one (.int .i64)) fun(x_2:Int)=>az
 Tryz.prog 176 (.el (.agg [.bool,.int .i64,.bool,.int .i64])) [.pointer x,.int .i64 (au .i64 (b_ .i64 16 x_2) s.1)] w1 fun(x:Bool×Int×Bool×Int×Unit) w2=>aA w2 ⟨[.bool false,.int .i64 0,.bool false,.int .i64 0]⟩ 180 fun b_2 w2=>av w2 (some ⟨b_2,0,none⟩) [.bool x.1,.int .i64 x.2.1,.bool x.2.2.1,.int .i64 x.2.2.2.1] fun w2=>ag w2 none d (.one (.int .i64)) fun(x:Int)=>ag w2 (some !x==0) (some ⟨b_2,0,none⟩) (.agg [.bool,.int .i64,.bool,.int .i64]) fun(x_3:Bool×Int×Bool×Int×Unit)=>((!x==0)=true->True)/\aB (x==0|| !fy x_3.1
 x_3.2.1 x_3.2.2.1 x_3.2.2.2.1) (∀w3,Ext w2 w3-> ∃(n':Nat),n'<n/\I n' (au .i64 s.1 1,Unit.unit) D1 w3) (ag w2 none c (.one .ptr) fun x=>true=true/\ag w2 none (af (some ⟨b_2,0,none⟩) 3) (.one (.int .i64)) fun(x_4:Int)=>ag w2 none d (.one (.int .i64)) fun(x_5:Int)=>az Tryz.prog 240 (.el (.one (.rN 258 3))) [.pointer x,.int .i64 x_4,.int .i64 (bL .i64 x_5 1)] w2 fun x w2=>wD Tryz.prog 258 (fun(y:Nat)=>[.func (Fn.yield y) ⟨[]⟩ ⟨[]⟩,.pointer x.1,.pointer x.2.1,.pointer x.2.2.1]) ⟨[34]⟩ w2 (fun(x:Int×Unit)=>[.int .i64 x.1]) (fun(l:Nat)
 (rec:Loop) (x:Int×Unit) w3 (R:Bool->World->Prop)=>Aa l rec [Value.int .i64 x.1].length 1 w3 (yI l rec w3 fun w5=>ag w5 none (some ⟨b,0,none⟩) (.one .PL) fun x_6=> ∀w1,Ext w5 w1->ko Tryz.prog x_6 [.int .i64 x.1] w1 fun(b:Bool) w2=>aB (!b) (qg l rec (some Code.ret) w2 R) (qg l rec none w2 R))) fun(r:Nat) (rec:Loop) w4=>cO (r+1) rec w4 (fun w5=> ∀w3,Ext w5 w3-> ∃(n':Nat),n'<n/\I n' (au .i64 s.1 1,Unit.unit) (r::D1) w3) (fun(id:Nat) w5=>Decidable.rec (fun(h:id=2->False)=>Decidable.rec (fun(h:id=1->False)=>
 Decidable.rec (fun(h:id=0->False)=>False) (fun(h:id=0)=>qh (r::D1) w5 fun w1=>Post Unit.unit w1) (match h:id.beq 0 with|true=>isTrue (Nat.eq_of_beq_eq_true h)|false=>isFalse (Nat.ne_of_beq_eq_false h))) (fun(h:id=1)=> ∀w3,Ext w5 w3-> ∃(n':Nat),n'<n/\I n' (au .i64 s.1 1,Unit.unit) (r::D1) w3) (match h:id.beq 1 with|true=>isTrue (Nat.eq_of_beq_eq_true h)|false=>isFalse (Nat.ne_of_beq_eq_false h))) (fun(h:id=2)=> ∀w3,Ext w5 w3-> ∃(n':Nat),n'<n/\I n' (au .i64 s.1 1,Unit.unit) (r::D1) w3)
 (match h:id.beq 2 with|true=>isTrue (Nat.eq_of_beq_eq_true h)|false=>isFalse (Nat.ne_of_beq_eq_false h))) fun w5=>qh (r::D1) w5 fun w1=>Post Unit.unit w1)) (XM D1 (aj w1 fun w1=>Post Unit.unit w1) fun(r:Nat) (D:List Nat)=>qh (r::D) w1 fun w1=>Post Unit.unit w1))):=by kernel_rfl
end Go.Proofs.YtdnoecpjcoibmaaGreat
namespace Go.Proofs.YtdnoecpjcoibmaaGreat
set_option maxRecDepth 100000
open Go.RX D
section
variable {T:Type} {bm:Nat} {mc:List Value->Prop} {J:List T->List (Nat×List Value)->List (Nat×Obj)->World->Prop} {a:List T} {X:List (Nat×List Value)} {O:List (Nat×Obj)} {w w':World}
theorem wD.Zm (K:JK bm mc J) {P:Program} {fid:FuncId} {args:Nat->List Value} {ps:Array Nat} {em:T->List Value} {Rd:Nat->Loop->T->World->(Bool->World->Prop)->Prop} {Af:Nat->Loop->World->Prop} {N:Nat} {X0:List (Nat×List Value)} {xs:List T}
 (j:J a X O w) (It:U6 P fid args em N bm mc X0 xs) (hX: ∀x∈X0,x∈X) (hN:a.length+xs.length<=N)
 (hbody: ∀b x X' O' l rec w3 (R:Bool->World->Prop),b.length<N->J b (X'++X) ((l,E7 rec)::O') w3->(∀w',J (b++[x]) (X'++X) ((l,E7 rec)::O') w'->R true w')->Rd l rec x w3 R)
 (VK: ∀r rec w4,J (a++xs) X ((r+1,E7 rec)::(r,.deferred (some []))::O) w4->Af r rec w4):wD P fid args ps w em Rd Af:=by
 intro w1 h1 rec _ _ hst PY lQ
 have uK:rec={rec with state:= .ready,pending:= .none}:=by rw[<-hst, <-PY]
 have sz:(w1.alloc (.deferred (some []))).heap.size=w1.heap.size+1:=jM _ _
 have j1:J a X ((w1.heap.size,.deferred (some []))::O) (w1.alloc (.deferred (some []))):=K.U5 (K.ext j h1) (fun _ _ _ e=>by cases e)
 have j2:=K.U5 (o:=E7 rec) j1 (DM rec _ _)
 rw[sz] at j2
 let Z:List (Nat×Obj):=(w1.heap.size+1,E7 rec)::(w1.heap.size,.deferred (some []))::O
 let J2:List T->List (Nat×List Value)->List (Nat×Obj)->World->Prop:=fun b X' O' w=>J b (X'++X) (O'++Z) w
 have K2:JK bm mc J2:=
  {step:=fun{a' X' O' w2 w3 l' Y} h hf hb hl hy hn=>by
    have:=K.step h hf hb hl hy hn
    show J a' ((Y++X')++X) (O'++Z) w3
    rw[List.append_assoc];exact this
   mem:=fun h=>K.mem h
   cY:=fun h hm=>K.cY h (List.mem_append_left _ hm)
   obj:=fun h hm=>K.obj h (List.mem_append_left _ hm)
   U5:=fun h ho=>K.U5 h ho
   Ss:=fun h ho=>K.Ss h ho
   sub:=fun h hx ho=>K.sub h (fun x hm=>by
    rcases List.mem_append.1 hm with hm|hm
    ·exact List.mem_append_left _ (hx x hm)
    ·exact List.mem_append_right _ hm) (ho.append_right Z)
   perm:=fun h ho=>K.perm h (ho.append_right Z)}
 have Y2:Yd P (w1.heap.size+1) em N J2:=fun b x X' O' w3 R hb h hR=>by
  refine lQ x w3 R ?_
  have hp:((w1.heap.size+1,E7 rec)::(O'++((w1.heap.size,.deferred (some []))::O))).Perm (O'++Z):=(List.perm_middle (l₁:=O') (a:=(w1.heap.size+1,E7 rec)) (l₂:=(w1.heap.size,.deferred (some []))::O)).symm
  exact hbody b x X' (O'++((w1.heap.size,.deferred (some []))::O)) _ rec w3 R hb (K.perm h hp) (fun w' h'=>hR w' (K.perm h' hp.symm))
 have hw:(w1.alloc (.deferred (some []))).alloc (.loop rec)=(w1.alloc (.deferred (some []))).alloc (E7 rec):=by
  show _=(w1.alloc (.deferred (some []))).alloc (.loop {rec with state:= .ready,pending:=none})
  rw[<-uK]
 rw[hw]
 have j3:J a (X++X) Z ((w1.alloc (.deferred (some []))).alloc (E7 rec)):=K.sub j2 (fun x hm=>by
  rcases List.mem_append.1 hm with hm|hm<;>exact hm) (List.Sublist.refl _)
 refine Calls.mono (It (w1.heap.size+1) J2 K2 Y2 a X [] _ hN hX j3) ?_
 rintro e w4 ⟨v,he,h⟩
 exact⟨v,he,VK _ _ _ (K.sub h (fun x hm=>List.mem_append_right _ hm) (List.Sublist.refl _))⟩
end
def mK (ws:List Int) (l:Nat) (f:Int) (i:Nat):List Int:=match l with
 |0=>[]
 |l+1=>if dy (aC ws (16*f+(i:Int)))=true then cz ws l (aC ws (16*f+(i:Int))).2.2.2.1 else[]
theorem jn (ws:List Int): ∀(l:Nat) (f:Int),cz ws l f=f::(List.range 16).flatMap (mK ws l f)
 |0,f=>by
  rw[cz]
  have:(List.range 16).flatMap (mK ws 0 f)=[]:=by
   rw[List.flatMap_eq_nil_iff]
   intro i _;rfl
  rw[this]
 |l+1,f=>rfl
theorem GH {m:Nat} (hm:m<16) (g:Nat->List Int): ∃z,(List.range 16).flatMap g=(List.range m).flatMap g++(g m++z):=by
 obtain⟨z,e⟩: ∃z,List.range 16=List.range (m+1)++z:=by
  refine⟨(List.range 16).drop (m+1),?_⟩
  conv=>lhs;rw[<-List.take_append_drop (m+1) (List.range 16)]
  rw[List.take_range,Nat.min_eq_left (by omega)]
 refine⟨z.flatMap g,?_⟩
 rw[e,List.flatMap_append,List.range_succ,List.flatMap_append,List.append_assoc]
 simp
abbrev Zn (x:Int×Unit):List Value:=[.int .i64 x.1]
abbrev MM (x:Int):Int×Unit:=(x,())
abbrev Ve (bt c1 c2 c3:Nat) (f:Int) (l:Nat):List (Nat×List Value):=[(c1,[.int .i64 f]),(c2,[.pointer (some ⟨bt,0,none⟩)]),(c3,[.int .i64 (l:Int)])]
theorem GI {D G:List Nat} {w0 w:World} {L:List (Nat×List Value)} (H:aF D G w0 w L) (p:Option Addr) (f lv:Int) {K:Option Addr×Option Addr×Option Addr×Unit->World->Prop}
 (k: ∀b b1 b2 w2,aF D G w0 w2 ((b2,[.int .i64 lv])::(b1,[.int .i64 f])::(b,[.pointer p])::L)->K (some ⟨b1,0,none⟩,some ⟨b,0,none⟩,some ⟨b2,0,none⟩,()) w2):
 az Tryz.prog 240 Cl [.pointer p,.int .i64 f,.int .i64 lv] w K:=
 az.go H fun w1 H=>ai (C:=N0) (aJ:=fun _=>[]) (Eq.mpr (xW p f lv w1 K) (aA.go H fun b w2 H=>aA.go H fun b1 w3 H=>aA.go H fun b2 w4 H=>aj.go H fun w5 H=>k b b1 b2 w5 H))
abbrev V4 (Q:Sys) (ws:List Int) (bt:Nat) (o r:Int) (gone:Bool) (N lv:Nat):Prop:= ∀(f:Int) (hf:0<=f/\f<4096) (c1 c2 c3:Nat),
 U6 Tryz.prog 258 (fun y=>[.func (.yield y) #[] #[],.pointer (some ⟨c1,0,none⟩),.pointer (some ⟨c2,0,none⟩),.pointer (some ⟨c3,0,none⟩)]) Zn N Q.bm (Mc Q ws.length)
  ((bt,mQ Q o r gone)::(Q.bw,flat eW ws++Q.rw)::Ve bt c1 c2 c3 f lv) ((cz ws lv f).map MM)
theorem v8 {Q:Sys} {ws:List Int} {bt:Nat} {o r:Int} {gone:Bool} {N:Nat} (hok:okW ws) (hpos:0<ws.length) (lv:Nat) (hlv:lv<=3) (ih: ∀l',lv=l'+1->V4 Q ws bt o r gone N l'):V4 Q ws bt o r gone N lv:=by
 intro f hf c1 c2 c3 y J K hY a X O w hN hX j
 refine Calls.mono (aL (C:=N1) (aJ:=nM) (Post:=fun _ w'=>J (a++(cz ws lv f).map MM) X O w') (Eq.mpr (C_ y _ _ _ w _) ?_)) ?_
 rotate_left
 ·rintro e w' ⟨x,rfl,h⟩
  exact⟨_,rfl,h⟩
 rw[jn] at hN ⊢
 simp only[List.map_cons,List.length_cons,List.length_map] at hN
 obtain⟨lm,⟨ca,la,rfl⟩,H⟩:=K.U7 j
 refine aA.go H fun b w2 H=>?_
 have j:=K.qD (Y:=[(b, _)]) j H ⟨_, _,rfl⟩
 have SC: ∀x∈(bt,mQ Q o r gone)::(Q.bw,flat eW ws++Q.rw)::Ve bt c1 c2 c3 f lv,x∈[(b,[Value.func (.yield y) #[] #[]])]++X:=fun x hx=>List.mem_append_right _ (hX x hx)
 have V5:(b,[Value.func (.yield y) #[] #[]])∈[(b,[Value.func (.yield y) #[] #[]])]++X:=List.mem_append_left _ (List.mem_singleton.2 rfl)
 have back: ∀{a':List (Int×Unit)} {w':World},J a' ([(b,[Value.func (.yield y) #[] #[]])]++X) O w'->J a' X O w':=fun h=>K.sub h (fun x hx=>List.mem_append_right _ hx) (List.Sublist.refl _)
 generalize [(b,[Value.func (.yield y) #[] #[]])]++X=X1 at j SC V5 back
 have x1:=SC (bt,mQ Q o r gone) (by simp)
 have x2:=SC (Q.bw,flat eW ws++Q.rw) (by simp)
 have x3:=SC (c1,[.int .i64 f]) (by simp)
 have x4:=SC (c2,[.pointer (some ⟨bt,0,none⟩)]) (by simp)
 have x5:=SC (c3,[.int .i64 (lv:Int)]) (by simp)
 refine ag.of y ((K.cY j V5).2.lG rfl) (ag.of f ((K.cY j x3).2.lG rfl) fun w3 h3=>hY a (MM f) X1 O w3 _ (by omega) (K.ext j h3) fun w4 j=>?_)
 refine ak rfl ⟨fun n v D1 w'=> ∃m:Nat,v.1=(m:Int)/\n+m=16/\J (a++MM f::((List.range m).flatMap (mK ws lv f)).map MM) X1 (D1.map (fun r=>(r,Obj.deferred (some [])))++O) w',⟨16,fun w5 h5=>⟨0,rfl,rfl,by simpa using K.ext j h5⟩⟩,?_⟩
 rintro n ⟨v,u⟩ D1 w5 ⟨m,e1,hnm,j⟩
 dsimp only at e1 ⊢
 subst e1
 refine aa (fun cc=>?_) (fun cc=>?_)
 ·have hm:m<16:=by simp at cc;omega
  obtain⟨z,hz⟩:=GH hm (mK ws lv f)
  have hlen:(a++MM f::((List.range m).flatMap (mK ws lv f)).map MM).length+((mK ws lv f m).map MM).length<=N:=by
   rw[hz] at hN
   simp only[List.length_append,List.length_cons,List.length_map] at hN ⊢
   omega
  have ia:(List.range (m+1)).flatMap (mK ws lv f)=(List.range m).flatMap (mK ws lv f)++mK ws lv f m:=by
   rw[List.range_succ,List.flatMap_append];simp
  have W8:au .i64 (b_ .i64 16 f) (m:Int)=16*f+(m:Int):=by rw[eA (by omega) (by omega),ar (by omega) (by omega)]
  have W9:au .i64 (m:Int) 1=((m+1:Nat):Int):=by rw[ar (by omega) (by omega)];omega
  refine ag.of (some ⟨bt,0,none⟩) ((K.cY j x4).2.lG rfl) (ag.of f ((K.cY j x3).2.lG rfl) ?_)
  rw[W8,W9]
  obtain⟨lm,⟨ca,la,rfl⟩,H⟩:=K.U7 j
  have R:VY Q ws w5 bt o r gone:=⟨(K.cY j x1).2,(K.cY j x2).2,(K.cY j x1).1,(K.cY j x2).1,hok,hpos⟩
  have b3:=K.cY j x5
  have b4:=K.cY j x4
  have n3:c3∉[Q.bm]:=by simpa using b3.1
  have n4:c2∉[Q.bm]:=by simpa using b4.1
  refine JB R H 0 rfl _ fun Qg w6 H=>aA.go H fun b2 w7 H=>av.all 0 H rfl rfl rfl fun w8 H=>ag.old H b3.2 n3 rfl (ag.at 0 H rfl rfl ⟨fun _=>trivial,aa (fun c=>fun w9 h9=>?_) (fun c=>?_)⟩)
  ·have j2:=K.sub (K.ext (K.qD (Y:=[(b2, _)]) j H ⟨_, _,rfl⟩) h9) (X':=X1) (fun x h=>List.mem_append_right _ h) (List.Sublist.refl _)
   refine⟨n - 1,by omega,m+1,rfl,by omega,?_⟩
   have hs:mK ws lv f m=[]:=by
    cases lv with
    |zero=>rfl
    |succ l=>
     have c:dy (aC ws (16*f+(m:Int)))=false:=by
      have h0:((((l+1:Nat):Int))==0)=false:=by simp;omega
      simp only[h0,Bool.false_or,Bool.not_eq_true'] at c
      exact c
     exact if_neg (by rw[c];decide)
   rw[ia,hs,List.append_nil];exact j2
  ·have c0: ¬ lv=0/\dy (aC ws (16*f+(m:Int)))=true:=by
    simp only[Bool.or_eq_false_iff,Bool.not_eq_false'] at c
    refine⟨fun e=>?_,c.2⟩
    subst e
    simp at c
   obtain⟨l,rfl⟩: ∃l,lv=l+1:=⟨lv - 1,by omega⟩
   have hs:mK ws (l+1) f m=cz ws l (aC ws (16*f+(m:Int))).2.2.2.1:=if_pos c0.2
   have Zo:bL .i64 ((l+1:Nat):Int) 1=(l:Int):=by rw[bS (by omega) (by omega)];omega
   refine ag.old H b4.2 n4 rfl ⟨rfl,ag.bP 0 H rfl rfl (ag.old H b3.2 n3 rfl ?_)⟩
   rw[Zo]
   refine GI H _ _ _ fun d d1 d2 w9 H=>?_
   have j2:=K.qD (Y:=[(d2, _),(d1, _),(d, _),(b2, _)]) j H ⟨_, _,rfl⟩
   rw[hs] at hlen ia
   refine wD.Zm K j2 (ih l rfl _ (ny _ _) d1 d d2) ?_ hlen ?_ ?_
   ·intro x hx
    simp only[Ve,List.mem_cons,List.not_mem_nil,or_false] at hx
    rcases hx with rfl|rfl|rfl|rfl|rfl
    ·exact List.mem_append_right _ x1
    ·exact List.mem_append_right _ x2
    ·simp
    ·simp
    ·simp
   ·intro b0 x X' O' l' rec lE R hb j hR
    refine Aa.P8 K j rfl (yI.P8 K j fun wb j=>ag.of y ((K.cY j (List.mem_append_right _ (List.mem_append_right _ V5))).2.lG rfl) fun mh zU=>hY b0 x _ _ mh _ hb (K.ext j zU) fun Ab j=>ak rfl (qg.P8 K j fun E9 j=>hR E9 j))
   ·intro r' rec lE j
    refine cO.P8 K j fun mh j=>fun Ab h12=>⟨n - 1,by omega,m+1,rfl,by omega,?_⟩
    have j3:=K.sub (K.ext j h12) (X':=X1) (fun x h=>List.mem_append_right _ h) (List.Sublist.refl _)
    rw[ia]
    simpa using j3
 ·have hm:m=16:=by simp at cc;omega
  subst hm
  cases D1 with
  |nil=>exact fun w6 h6=>back (K.ext j h6)
  |cons r' D1=>exact K.qh (r'::D1) j fun w6 j=>back j
theorem LN {Q:Sys} {ws:List Int} {bt:Nat} {o r:Int} {gone:Bool} {N:Nat} (hok:okW ws) (hpos:0<ws.length): ∀lv:Nat,lv<=3->V4 Q ws bt o r gone N lv:=by
 intro lv
 induction lv with
 |zero=>intro h;exact v8 hok hpos 0 h (fun l' e=>by omega)
 |succ lv ih=>
  intro h
  refine v8 hok hpos (lv+1) h (fun l' e=>?_)
  obtain rfl:lv=l':=by omega
  exact ih (by omega)
end Go.Proofs.YtdnoecpjcoibmaaGreat
namespace Go.Proofs.YtdnoecpjcoibmaaGreat
set_option maxRecDepth 100000
open Go.RX D
abbrev eN:El:= .one (.int .i64)
theorem v9 (ws:List Int): ∀(l:Nat) (f:Int),(cz ws l f).length<=(match l with|0=>1|1=>17|2=>273| _=>4369)\/3<l
 |0,f=> .inl (by simp[cz])
 |l+1,f=>by
  by_cases hl:3<l+1
  ·exact .inr hl
  refine .inl ?_
  have step: ∀(c:Nat) (is:List Nat),(∀i,(mK ws (l+1) f i).length<=c)->(is.flatMap (mK ws (l+1) f)).length<=is.length*c:=by
   intro c is h
   induction is with
   |nil=>simp
   |cons i is ih=>
    rw[List.flatMap_cons,List.length_append,List.length_cons,Nat.add_mul]
    have:=h i
    omega
  have sub: ∀(c:Nat),(∀g,(cz ws l g).length<=c)-> ∀i,(mK ws (l+1) f i).length<=c:=by
   intro c h i
   unfold mK
   dsimp only
   split
   ·exact h _
   ·exact Nat.zero_le _
  rw[jn,List.length_cons]
  have ih:=v9 ws l
  rcases l with _| _| _|l
  ·have:=step 1 (List.range 16) (sub 1 fun g=>by rcases ih g with h|h;exact h;omega)
   simp only[List.length_range] at this ⊢;omega
  ·have:=step 17 (List.range 16) (sub 17 fun g=>by rcases ih g with h|h;exact h;omega)
   simp only[List.length_range] at this ⊢;omega
  ·have:=step 273 (List.range 16) (sub 273 fun g=>by rcases ih g with h|h;exact h;omega)
   simp only[List.length_range] at this ⊢;omega
  ·omega
theorem nI (ws:List Int) (f:Int):(cz ws 3 f).length<=4369:=by
 rcases v9 ws 3 f with h|h
 ·exact h
 ·omega
theorem xX (ws:List Int) (l:Nat) (f:Int):cz ws l f≠[]:=by rw[jn];simp
theorem AZ (x:Int): ∀l:List Int,(jg x l).length=l.length+1
 |[]=>rfl
 |y::l=>by
  rw[jg]
  split
  ·rw[List.length_cons,AZ x l];rfl
  ·rfl
theorem vw: ∀(l a:List Int),(l.foldl (fun a x=>jg x a) a).length=a.length+l.length
 |[],a=>rfl
 |x::l,a=>by
  rw[List.foldl_cons,vw l,AZ,List.length_cons];omega
theorem xY (l:List Int):(qG l).length=l.length:=by unfold qG;rw[List.length_reverse,vw];simp
theorem RU (p z:List Int) (a c:Int):(p++a::z).set p.length c=p++c::z:=by simp
section
variable {Q:Sys} {D G:List Nat} {w0 w:World} {s:WD} {L0:List (Nat×List Value)} {bt:Nat} {o r:Int} {gone:Bool}
namespace aU
theorem under (S:aU Q D G w0 w s L0) (f lv:Int) {K:Option Addr×Option Addr×Option Addr×Unit->World->Prop} (k: ∀b b1 b2 w2,aU Q D G w0 w2 s ((b2,[.int .i64 lv])::(b1,[.int .i64 f])::(b,[.pointer (some ⟨bt,0,none⟩)])::L0)->K (some ⟨b1,0,none⟩,some ⟨b,0,none⟩,some ⟨b2,0,none⟩,()) w2):
 az Tryz.prog 240 Cl [.pointer (some ⟨bt,0,none⟩),.int .i64 f,.int .i64 lv] w K:=by
 refine S.go fun w1 S=>ai (C:=N0) (aJ:=fun _=>[]) (Eq.mpr (xW _ f lv w1 K) ?_)
 exact S.al fun b w2 S=>S.al fun b1 w3 S=>S.al fun b2 w4 S=>S.en fun w5 S=>k b b1 b2 w5 S
theorem Uu (S:aU Q D G w0 w s L0) (k0:Nat) (ht:L0[k0]? =some (bt,mQ Q o r gone)) {c1 c2 c3:Nat} {f:Int} (hf:0<=f/\f<4096) (h1:(c1,[Value.int .i64 f])∈L0) (h2:(c2,[Value.pointer (some ⟨bt,0,none⟩)])∈L0) (h3:(c3,[Value.int .i64 3])∈L0)
 {K:Option Addr×Nat×Nat->World->Prop} (k: ∀bs cs rest w2,aU Q D G w0 w2 s ((bs,flat eN (cz s.1 3 f)++rest)::L0)->K (some ⟨bs,0,none⟩,(cz s.1 3 f).length,cs) w2):
 az Tryz.prog 239 (.el (.one .slice)) [.func (.func 258) #[] #[.pointer (some ⟨c1,0,none⟩),.pointer (some ⟨c2,0,none⟩),.pointer (some ⟨c3,0,none⟩)]] w K:=by
 refine S.go fun w1 S=>aL (C:=N0) (aJ:=oY) (Eq.mpr (GB _ _ _ w1 K) ?_)
 obtain⟨g1,g2,g3,g4,ca,la,H0⟩:=S
 have H:=H0.again
 refine aA.go H fun bl w2 H=>?_
 have hlen:=nI s.1 f
 refine wD.IA (N:=4369) (bm:=Q.bm) (mc:=Mc Q s.1.length) (Su:=[(bl,[.slice none 0 0])]) (Lb:=(Q.bw,flat eW s.1++Q.rw)::(Q.bf,flat eD s.2++Q.rf)::(Q.bp,[.slice (some ⟨Q.bf,0,none⟩) s.2.length Q.cp])::L0) H ⟨_, _,rfl⟩
  (LN (o:=o) (r:=r) (gone:=gone) (bt:=bt) g4 g1 3 (Nat.le_refl _) f hf c1 c2 c3) ?_ (by simpa using hlen) (fun xs Rg=>Qe eN bl (xs.map (·.1)) Rg) (.inl ⟨rfl,rfl⟩) ?_ ?_
 ·intro x hx
  simp only[Ve,List.mem_cons,List.not_mem_nil,or_false] at hx
  rcases hx with rfl|rfl|rfl|rfl|rfl
  ·simp[List.mem_of_getElem? ht]
  ·simp
  ·simp[h1]
  ·simp[h2]
  ·exact List.mem_cons_of_mem _ (List.mem_cons_of_mem _ (List.mem_cons_of_mem _ h3))
 ·intro b0 x Rg Z rr l rec w3 R hN hg hr hR
  obtain⟨sl,qf⟩:=hg.head
  refine Aa.go hr rfl (yI.XR hr fun wb H hB SB=>ag.at 0 H (by rw[List.getElem?_append_left (List.getElem?_eq_some_iff.1 qf).1];exact qf) rfl (aA.go H fun b2 w6 H=>fun w7 h7=>?_))
  have H:=H.ext h7
  exact hg.push qf (x:=x.1) H rfl rfl rfl (by simp only[List.length_map];omega) fun Ig w8 hg' H3=>qg.gj hB H3 fun w9 VZ V3=>hR Ig w9 (by simpa using hg') VZ (SB.trans V3)
 ·rintro rr rec w4 l' Rg ⟨Qg,S8,rfl⟩ hg hr
  refine cO.none hr fun w5 H=>?_
  have S4:((cz s.1 3 f).map MM).map (·.1)=cz s.1 3 f:=by
   rw[List.map_map];exact List.map_id _
  rw[S4] at hg
  rcases hg with ⟨h, _⟩|⟨bs,cs,rest,rfl,q1,q2⟩
  ·exact absurd h (xX _ _ _)
  ·refine ag.at 0 H rfl rfl (qh.go H fun w6 H=>k bs cs rest w6 ⟨g1,g2,g3,g4,Qg,S8,H0.join (fun x hx=>hx) ?_⟩)
   refine(H.sub (List.sublist_cons_self _ _)).perm ?_
   exact List.perm_middle (l₁:=[_, _, _, _])
theorem DQ (S:aU Q D G w0 w s L0) {j bs:Nat} {xs:List Int} {rest:List Value} (hL:L0[j]? =some (bs,flat eN xs++rest)) {i:Nat} {x:Int} (hx:xs[i]? =some x):cg w (af (some ⟨bs,0,none⟩) (i*1)) eN x:=ff (e:=eN) (S.get hL) hx
theorem PC (S:aU Q D G w0 w s L0) (j:Nat) {bs:Nat} {xs:List Int} {rest:List Value} (hL:L0[j]? =some (bs,flat eN xs++rest)) {i:Nat} (hi:i<xs.length) (v:Int) {K:World->Prop} (k: ∀w1,aU Q D G w0 w1 s (L0.set j (bs,flat eN (xs.set i v)++rest))->K w1):av w (af (some ⟨bs,0,none⟩) (i*1)) [.int .i64 v] K:=by
 obtain⟨h1,h2,h3,h4,ca,la,H⟩:=S
 exact av.flat (e:=eN) (j+4) H v hL rfl rfl hi fun w1 H=>k w1 ⟨h1,h2,h3,h4,ca,la,H⟩
theorem all (S:aU Q D G w0 w s L0) (k0:Nat) (ht:L0[k0]? =some (bt,mQ Q o r gone)) (hr:0<=r/\r<4096) {K:Option Addr×Nat×Nat->World->Prop} (k: ∀x rows w2,aU Q D G w0 w2 s (L0++rows)->jy eN rows x (kR s r gone)->K x w2):
 az Tryz.prog 205 (.el (.one .slice)) [.pointer (some ⟨bt,0,none⟩)] w K:=by
 refine S.go fun w1 S=>ai (C:=N0) (aJ:=tO) (Eq.mpr (Ov _ w1 K) ?_)
 refine⟨_,S.state k0 ht,?_⟩
 cases gone with
 |true=>exact ay rfl (S.en fun w2 S=>k (none,0,0) [] w2 (by rw[List.append_nil];exact S) ⟨rfl,.inl ⟨rfl,rfl⟩⟩)
 |false=>
  refine ak rfl ⟨rfl,rfl,S.bu k0 ht rfl (S.under r 3 fun c2 c1 c3 w2 S=>S.Uu (k0+3) ht hr (by simp) (by simp) (by simp) fun bs cs rest w3 S=>?_)⟩
  have S:=S.perm (L1:=(bs,flat eN (cz s.1 3 r)++rest)::(L0++[(c3,[.int .i64 3]),(c1,[.int .i64 r]),(c2,[.pointer (some ⟨bt,0,none⟩)])])) (List.Perm.cons _ (by exact List.perm_append_comm (l₂:=[_, _, _])))
  have S:=S.sub (List.Sublist.cons_cons _ (List.sublist_append_left _ _))
  have hlen:=nI s.1 r
  have ha:kR s r false=qG (cz s.1 3 r):=if_neg (by decide)
  rw[ha] at k
  have hne:=xX s.1 3 r
  generalize cz s.1 3 r=l at*
  refine⟨fun n v w'=> ∃m:Nat,v.1=(m:Int)/\n+m=l.length/\aU Q D G w0 w' s ((bs,flat eN (((l.take m).foldl (fun a x=>jg x a) []).reverse++l.drop m)++rest)::L0),⟨l.length,fun w4 h4=>⟨0,rfl,rfl,by simpa using S.ext h4⟩⟩,?_⟩
  rintro n ⟨v,u⟩ w4 ⟨m,e1,hnm,S⟩
  dsimp only at e1 ⊢
  subst e1
  refine aa (fun cc=>?_) (fun cc=>?_)
  ·have hm:m<l.length:=by simpa using cc
   obtain⟨R,hR⟩: ∃R,R=(l.take m).foldl (fun a x=>jg x a) []:=⟨_,rfl⟩
   have V6:R.length=m:=by rw[hR,vw,List.length_take];simp;omega
   have hx:=List.getElem?_eq_getElem hm
   obtain⟨x,sK⟩: ∃x,x=l[m]:=⟨_,rfl⟩
   rw[<-sK] at hx
   have hd:l.drop m=x::l.drop (m+1):=by rw[List.drop_eq_getElem_cons hm,sK]
   have hnext:(l.take (m+1)).foldl (fun a x=>jg x a) []=jg x R:=by
    rw[List.take_add_one,hx,Option.toList_some,List.foldl_append, <-hR];rfl
   obtain⟨Z,hZ⟩: ∃Z,Z=l.drop (m+1):=⟨_,rfl⟩
   rw[<-hR,hd, <-hZ] at S
   refine⟨fun n1 v w'=> ∃A B:List Int,v.1=(A.length:Int)/\n1=A.length/\A.length+B.length=m/\B++jg x A=jg x R/\aU Q D G w0 w' s ((bs,flat eN (A.reverse++x::(B.reverse++Z))++rest)::L0),⟨m,fun w5 h5=>⟨R,[],by rw[V6],V6.symm,by simp[V6],rfl,by simpa using S.ext h5⟩⟩,?_⟩
   rintro n1 ⟨v,u2⟩ w5 ⟨A,B,e1,rfl,Zp,QR,S⟩
   dsimp only at e1 ⊢
   subst e1
   have hrow: ∀(C:List Int),C=jg x R-> ∀{w':World},aU Q D G w0 w' s ((bs,flat eN (C.reverse++Z)++rest)::L0)-> ∀w3,Ext w' w3-> ∃n',n'<n/\ ∃m':Nat,au .i64 (m:Int) 1=(m':Int)/\n'+m'=l.length/\aU Q D G w0 w3 s ((bs,flat eN (((l.take m').foldl (fun a x=>jg x a) []).reverse++l.drop m')++rest)::L0):=by
    intro C hC w' S w3 h3
    refine⟨n - 1,by omega,m+1,by rw[ar (by omega) (by omega)];omega,by omega,?_⟩
    rw[hnext, <-hC, <-hZ]
    exact S.ext h3
   cases A with
   |nil=>
    refine⟨fun h=>by simp at h,0,fun h=>by simp at h,fun h=>by simp at h,0,fun h=>by simp at h,ak rfl (hrow (B++jg x []) QR (w':=w5) ?_)⟩
    have e:(B++jg x []).reverse++Z=[].reverse++x::(B.reverse++Z):=by simp[jg]
    rw[e];exact S
   |cons y A=>
    have e:(y::A).reverse++x::(B.reverse++Z)=A.reverse++y::x::(B.reverse++Z):=by simp
    rw[e] at S
    simp only[List.length_cons] at Zp
    have es:bL .i64 (((y::A).length:Nat):Int) 1=(A.length:Int):=by rw[List.length_cons,bS (by omega) (by omega)];omega
    rw[es]
    have hy:(A.reverse++y::x::(B.reverse++Z))[A.length]? =some y:=by rw[List.getElem?_append_right (by simp)];simp
    have yJ:(A.reverse++y::x::(B.reverse++Z))[A.length+1]? =some x:=by rw[List.getElem?_append_right (by simp)];simp
    have Mz:A.length<(A.reverse++y::x::(B.reverse++Z)).length:=(List.getElem?_eq_some_iff.1 hy).1
    have s1:(A.reverse++y::x::(B.reverse++Z)).set A.length x=A.reverse++x::x::(B.reverse++Z):=by
     have:=RU A.reverse (x::(B.reverse++Z)) y x
     rwa[List.length_reverse] at this
    have s2:(A.reverse++x::x::(B.reverse++Z)).set (A.length+1) y=A.reverse++x::y::(B.reverse++Z):=by
     simp
    have HU:A.length+1<(A.reverse++x::x::(B.reverse++Z)).length:=by simp
    have t1:((A.length:Nat):Int).toNat=A.length:=rfl
    have t2:(((y::A).length:Nat):Int).toNat=A.length+1:=rfl
    rw[t1,t2]
    have g1:(some (⟨bs,0,none⟩:Addr)).isSome=true/\0<=(A.length:Int)/\(A.length:Int)<(l.length:Int):=⟨rfl,by omega,by omega⟩
    have g2:(some (⟨bs,0,none⟩:Addr)).isSome=true/\0<=(((y::A).length:Nat):Int)/\(((y::A).length:Nat):Int)<(l.length:Int):=⟨rfl,by omega,by rw[List.length_cons];omega⟩
    refine⟨fun _=>g1,ag.of y (S.DQ (j:=0) rfl hy) ⟨fun _=>g2,ag.of x (S.DQ (j:=0) rfl yJ) (aa (fun c=>⟨g2,ag.of x (S.DQ (j:=0) rfl yJ) ⟨g1,ag.of y (S.DQ (j:=0) rfl hy) ⟨g1,S.PC 0 rfl Mz x fun w6 S=>⟨g2,?_⟩⟩⟩⟩) (fun c=>hrow (B++jg x (y::A)) QR (w':=w5) ?_))⟩⟩
    ·rw[s1] at S
     refine S.PC 0 rfl HU y fun w7 S=>fun w8 h8=>⟨A.length,Nat.lt_succ_self _,A,B++[y],rfl,rfl,by simp;omega,?_,?_⟩
     ·have c2:y>x:=by simpa using c
      rw[<-QR,jg,if_pos c2,List.append_assoc];rfl
     ·rw[s2] at S
      have e2:A.reverse++x::((B++[y]).reverse++Z)=A.reverse++x::y::(B.reverse++Z):=by simp
      rw[e2];exact S.ext h8
    ·have c2: ¬ y>x:=by simpa using c
     have e2:(B++jg x (y::A)).reverse++Z=A.reverse++y::x::(B.reverse++Z):=by rw[jg,if_neg c2];simp
     rw[e2];exact S
  ·have hm: ¬ m<l.length:=by simpa using cc
   have e1:l.take m=l:=List.take_of_length_le (by omega)
   have e2:l.drop m=[]:=List.drop_of_length_le (by omega)
   rw[e1,e2,List.append_nil] at S
   refine S.en fun w5 S=>k (some ⟨bs,0,none⟩,l.length,cs) [(bs,flat eN (qG l)++rest)] w5 (S.perm (List.perm_append_singleton _ _)) ⟨(xY l).symm,.inr ⟨bs,rest,rfl,rfl⟩⟩
theorem drop (S:aU Q D G w0 w s L0) (k0:Nat) (ht:L0[k0]? =some (bt,mQ Q o r gone)) (hr:0<=r/\r<4096) {K:Option Addr×Nat×Nat->World->Prop} (k: ∀x rows w2,aU Q D G w0 w2 (bV s r gone) (L0.set k0 (bt,mQ Q o r true)++rows)->jy eN rows x (kR s r gone)->K x w2):
 az Tryz.prog 154 (.el (.one .slice)) [.pointer (some ⟨bt,0,none⟩)] w K:=by
 refine S.go fun w1 S=>ai (C:=N0) (aJ:=rL) (Eq.mpr (LI _ w1 K) ?_)
 refine⟨_,S.state k0 ht,?_⟩
 have V7:k0<L0.length:=(List.getElem?_eq_some_iff.1 ht).1
 cases gone with
 |true=>
  have e:L0.set k0 (bt,mQ Q o r true)=L0:=List.ext_getElem? fun q=>by
   by_cases e:k0=q
   ·subst e;rw[List.getElem?_set_self V7,ht]
   ·rw[List.getElem?_set_ne e]
  exact ay rfl (S.en fun w2 S=>k (none,0,0) [] w2 (by rw[List.append_nil,e];exact S) ⟨rfl,.inl ⟨rfl,rfl⟩⟩)
 |false=>
  refine ak rfl (S.all k0 ht hr fun x rows w2 S hrow=>?_)
  have hS:bV s r false=(s.1,(kR s r false).foldl (fun ds f=>fQ ds f (aE 5 0)) s.2):=if_neg (by decide)
  rw[hS] at k
  have hlen:(kR s r false).length<=4369:=by
   rw[show kR s r false=qG (cz s.1 3 r) from if_neg (by decide),xY]
   exact nI _ _
  generalize kR s r false=l at*
  obtain⟨xp,xn,xc⟩:=x
  have S9:xn=l.length:=hrow.1
  subst S9
  obtain⟨Ij,TF⟩: ∃Ij,Ij=l.foldl (fun ds f=>fQ ds f (aE 5 0)) s.2:=⟨_,rfl⟩
  rw[<-TF] at k
  have ht':(L0++rows)[k0]? =some (bt,mQ Q o r false):=by rw[List.getElem?_append_left V7];exact ht
  refine⟨fun n v w'=> ∃(m:Nat) (ds:List DT),v.1=(m:Int)/\n+m=l.length/\(l.drop m).foldl (fun ds f=>fQ ds f (aE 5 0)) ds=Ij/\aU Q D G w0 w' (s.1,ds) (L0++rows),⟨l.length,fun w3 h3=>⟨0,s.2,rfl,rfl,TF.symm,S.ext h3⟩⟩,?_⟩
  rintro n ⟨v,u⟩ w3 ⟨m,ds,e1,hnm,hd,S⟩
  dsimp only at e1 ⊢
  subst e1
  refine aa (fun cc=>?_) (fun cc=>?_)
  ·have hm:m<l.length:=by simpa using cc
   have hf:=List.getElem?_eq_getElem hm
   obtain⟨f,Qj⟩: ∃f,f=l[m]:=⟨_,rfl⟩
   rw[<-Qj] at hf
   rw[List.drop_eq_getElem_cons hm, <-Qj,List.foldl_cons] at hd
   obtain⟨g1,g2,g3,g4,ca,la,H⟩:=S
   have qf:=hrow.sl H (fun x hx=>by
    show x∈ _:: _:: _:: _::(L0++rows)
    simp[hx]) m f hf
   have S:aU Q D G w0 w3 (s.1,ds) (L0++rows):=⟨g1,g2,g3,g4,ca,la,H⟩
   refine⟨⟨qf.1,by omega,by omega⟩,ag.of f qf.2 ⟨rfl,rfl,S.bu k0 ht' rfl (S.M8 f 5 0 fun w4 S=>fun w5 h5=>⟨n - 1,by omega,m+1, _,?_,by omega,hd,S.ext h5⟩)⟩⟩
   rw[ar (by omega) (by omega)];omega
  ·have hm: ¬ m<l.length:=by simpa using cc
   rw[List.drop_of_length_le (by omega)] at hd
   have hd:ds=Ij:=hd
   subst hd
   refine⟨rfl,rfl,S.lR k0 ht' rfl rfl fun w4 S=>S.en fun w5 S=>k (xp,l.length,xc) rows w5 ?_ hrow⟩
   rw[List.set_append_left _ _ V7] at S
   exact S
theorem new (S:aU Q D G w0 w s L0) (o:Int) {K:Option Addr×Int×Unit->World->Prop}
 (k1:(s.1.length:Int)<16*(s.2.length:Int)-> ∀w2,aU Q D G w0 w2 s L0->K (none,1,()) w2)
 (k2: ¬ (s.1.length:Int)<16*(s.2.length:Int)-> ¬ pq s o=0-> ∀w2,aU Q D G w0 w2 (gM s o fun _=>0) L0->K (none,pq s o,()) w2)
 (k3: ¬ (s.1.length:Int)<16*(s.2.length:Int)->pq s o=0-> ∀b w2,aU Q D G w0 w2 (gM s o fun _=>0) ((b,mQ Q o (dL s o) false)::L0)->K (some ⟨b,0,none⟩,0,()) w2):
 az Tryz.prog 147 (.bq [.one .ptr,.one (.int .i64)]) [.pointer (some ⟨Q.bm,0,none⟩),.pointer (some ⟨Q.bp,0,none⟩),.int .i64 o] w K:=by
 refine S.go fun w1 S=>ai (C:=N0) (aJ:=fun _=>[]) (Eq.mpr (Ow _ _ o w1 K) ?_)
 have h1:=S.pos
 have h2:=S.ID
 have h3:=S.le
 have c1:(((s.1.length:Nat):Int)==0)=false:=by rw[beq_eq_false_iff_ne];omega
 have c2:(((s.2.length:Nat):Int)==0)=false:=by rw[beq_eq_false_iff_ne];omega
 have em:b_ .i64 16 ((s.2.length:Nat):Int)=16*(s.2.length:Int):=eA (by omega) (by omega)
 refine⟨_,S.M9, _,fun _=>S.QN, _,fun _=>S.M9, _,fun _=>S.QN,?_⟩
 rw[c1,c2,em]
 refine aa (fun c=>S.en fun w2 S=>k1 (by simpa using c) w2 S) (fun c=>S.al fun b w2 S=>S.Uo (r:=0) (gone:=false) 0 rfl fun w3 S=>aa (fun d=>S.en fun w4 S=>?_) (fun d=>⟨rfl,rfl,S.lR 0 rfl rfl rfl fun w4 S=>S.en fun w5 S=>k3 (by simpa using c) (by simpa using d) b w5 S⟩))
 exact k2 (by simpa using c) (by simpa using d) w4 S.tail
end aU
end
end Go.Proofs.YtdnoecpjcoibmaaGreat
namespace Go.Proofs.YtdnoecpjcoibmaaGreat
set_option maxRecDepth 100000
open Go.RX
abbrev gw:List Sc:=[.int .u64,.int .i64]
abbrev RS:Type:=Int×Int×Unit
noncomputable def B0:dD Tryz.prog:={N0 with quiet:=[]}
theorem OF (e:Int) (w:World) (Post:RS->World->Prop):(bM B0 (fun _=>[]) 48 [.int .i64 e] w Post)=(
 aA w ⟨[.int .u64 0,.int .i64 0]⟩ 35 fun b w2=>av w2 (some ⟨b,0,none⟩) [.int .u64 0,.int .i64 e] fun w2=>aj w2 fun w1=>ag w1 none (some ⟨b,0,none⟩) (.agg [.int .u64,.int .i64]) fun(x:Int×Int×Unit)=>Post (x.1,x.2.1,Unit.unit) w1):=by kernel_rfl
theorem OG (e:Int) (w:World):an Tryz.prog 48 (.el (.agg gw)) [.int .i64 e] w (fun x w'=>x=(0,e,())/\Ext w w'):=by
 refine aL (C:=B0) (aJ:=fun _=>[]) (Eq.mpr (OF e w _) ?_)
 have H:=At.start [] w
 exact aA.go H fun b w2 H=>av.all 0 H rfl rfl rfl fun w3 H=>aj.go H fun w4 H=>ag.at 0 H rfl (show _=some (0,e,()) from rfl) ⟨rfl,H.all⟩
noncomputable def Uv:Entry Tryz.prog where
 f:=48
 fn l:=match l with
  |[.int .i64 e]=>some (True,.agg ⟨[.int .u64 0,.int .i64 e]⟩)
  | _=>none
 ok args pre v h hp w:=by
  split at h
  ·rename_i e
   cases h
   exact aO (OG e w)
  ·cases h
end Go.Proofs.YtdnoecpjcoibmaaGreat
namespace Go.Proofs.YtdnoecpjcoibmaaGreat
set_option maxRecDepth 100000
open Go.RX
noncomputable def V0:dD Tryz.prog:={N0 with qc:=Uv::N0.qc,quiet:=[47,16,148,32,163,22,40,49,159,53,54,21,39,30,75]}
noncomputable def V1:dD Tryz.prog:={V0 with dyn:=some (.el (.agg gw))}
noncomputable def V2:dD Tryz.prog:={V0 with cl:=[(116,.rN 52 3)]}
theorem xZ (p:Option Addr) (w:World) (Post:Bool->World->Prop):(aH V0 (fun _=>[]) 47 [.pointer p] w Post)=(
 ((!p.isNone)=true->p.isSome=true)/\((!p.isNone)=true->p.isSome=true)/\ag w (some !p.isNone) (af p 0) (.one .ptr) fun x=>aj w fun w1=>Post (!p.isNone&& !x.isNone) w1):=by kernel_rfl
theorem A0 (p:Option Addr) (v:Int) (w:World) (Post:Bool->World->Prop):(aH V0 (fun _=>[]) 16 [.pointer p,.int .i64 v] w Post)=(
 ∃x,ah Tryz.prog 47 [.pointer p] w (.bool x)/\((x&&decide (v>=1)&&decide (v<=16))=true->p.isSome=true)/\((x&&decide (v>=1)&&decide (v<=16))=true->p.isSome=true)/\((x&&decide (v>=1)&&decide (v<=16))=true->(af p 4).isSome=true/\0<=v/\v<(↑17:Int))/\ag w (some (x&&decide (v>=1)&&decide (v<=16))) (af (af p 4) (v.toNat*1)) (.one .ptr) fun x_1=>aj w fun w1=>Post (x&&decide (v>=1)&&decide (v<=16)&& !x_1.isNone) w1):=by kernel_rfl
theorem GJ (p:Option Addr) (a:Int) (w:World) (Post:Bool->World->Prop):(aH V0 (fun _=>[]) 148 [.pointer p,.int .u64 a] w Post)=(
 ∃x,(decide (a<=16)=true->ah Tryz.prog 16 [.pointer p,.int .i64 (ax .i64 a)] w (.bool x))/\aj w fun w1=>Post (decide (a<=16)&&x) w1):=by kernel_rfl
theorem A1 (p:Option Addr) (v:Int) (w:World) (Post:Int->World->Prop):(aH V0 (fun _=>[]) 32 [.pointer p,.int .i64 v] w Post)=(
 ∃x,ah Tryz.prog 16 [.pointer p,.int .i64 v] w (.bool x)/\aB (!x) (aj w fun w1=>Post (-1) w1) (p.isSome=true/\p.isSome=true/\((af p 4).isSome=true/\0<=v/\v<(↑17:Int))/\ag w none (af (af p 4) (v.toNat*1)) (.one .ptr) fun x=>x.isSome=true/\x.isSome=true/\ag w none (af x 0) (.one .ptr) fun x=> ∃(x_1:Int),ah Tryz.prog 75 [.pointer x] w (.int .i64 x_1)/\aj w fun w1=>Post x_1 w1)):=by kernel_rfl
theorem x9 (p:Option Addr) (v g:Int) (w:World) (Post:Int×Int×Int×Unit->World->Prop):(aH V0 (fun _=>[]) 15 [.pointer p,.int .i64 v,.int .i64 g] w Post)=(
 ∃x,ah Tryz.prog 47 [.pointer p] w (.bool x)/\aB (!x) (aj w fun w1=>Post (0,0,10,Unit.unit) w1) (∃x,ah Tryz.prog 16 [.pointer p,.int .i64 v] w (.bool x)/\aB (!x) (aj w fun w1=>Post (0,0,4,Unit.unit) w1) (p.isSome=true/\p.isSome=true/\((af p 4).isSome=true/\0<=v/\v<(↑17:Int))/\ag w none (af (af p 4) (v.toNat*1)) (.one .ptr) fun x=>x.isSome=true/\x.isSome=true/\ag w none (af x 0) (.one .ptr) fun x=>az Tryz.prog 51 (.bq [.one (.int .i64),.one (.int .i64),.one (.int .i64)]) [.pointer x,.int .i64 g] w fun(x:Int×Int×Int
 ×Unit) w2=>aj w2 fun w1=>Post (x.1,x.2.1,x.2.2.1,Unit.unit) w1))):=by kernel_rfl
theorem x_ (p:Option Addr) (v g:Int) (w:World) (Post:Int×Bool×Unit->World->Prop):(aH V0 (fun _=>[]) 22 [.pointer p,.int .i64 v,.int .i64 g] w Post)=(
 ∃x,ah Tryz.prog 16 [.pointer p,.int .i64 v] w (.bool x)/\aB (!x) (aj w fun w1=>Post (0,false,Unit.unit) w1) (p.isSome=true/\p.isSome=true/\((af p 4).isSome=true/\0<=v/\v<(↑17:Int))/\ag w none (af (af p 4) (v.toNat*1)) (.one .ptr) fun x=>x.isSome=true/\x.isSome=true/\ag w none (af x 1) (.one .map) fun x=> ∃(x_1:Int×Int×Unit), ∃(b:Bool),lO w x .i64 g (.agg ⟨[.int .i64 0,.int .i64 0]⟩) (.agg ⟨[.int .i64 x_1.1,.int .i64 x_1.2.1]⟩) b/\aA w ⟨[.int .i64 0,.int .i64 0]⟩ 123 fun b_1 w2=>av w2 (some ⟨b_1,0,none⟩) [.int .i64
 x_1.1,.int .i64 x_1.2.1] fun w2=>true=true/\ag w2 none (af (some ⟨b_1,0,none⟩) 0) (.one (.int .i64)) fun(x:Int)=>aj w2 fun w1=>Post (x,b,Unit.unit) w1)):=by kernel_rfl
theorem v_ (p:Option Addr) (w:World) (Post:Option Addr->World->Prop):(aH V0 (fun _=>[]) 19 [.pointer p] w Post)=(
 ∃x,ah Tryz.prog 47 [.pointer p] w (.bool x)/\aB (!x) (aj w fun w1=>Post none w1) (p.isSome=true/\p.isSome=true/\ag w none (af p 1) (.one .ptr) fun x=>az Tryz.prog 55 (.el (.one .ptr)) [.pointer x] w fun x w2=>aj w2 fun w1=>Post x w1)):=by kernel_rfl
theorem we (p:Option Addr) (w:World) (Post:Option Addr->World->Prop):(aH V0 (fun _=>[]) 26 [.pointer p] w Post)=(
 ∃x,ah Tryz.prog 47 [.pointer p] w (.bool x)/\aB (!x) (aj w fun w1=>Post none w1) (p.isSome=true/\p.isSome=true/\ag w none (af p 0) (.one .ptr) fun x=>aj w fun w1=>Post x w1)):=by kernel_rfl
theorem A3 (p:Option Addr) (f:Int) (w:World) (Post:Int->World->Prop):(aH V0 (fun _=>[]) 37 [.pointer p,.int .i64 f] w Post)=(
 ∃x,ah Tryz.prog 47 [.pointer p] w (.bool x)/\aB (!x) (aj w fun w1=>Post 10 w1) (p.isSome=true/\p.isSome=true/\ag w none (af p 1) (.one .ptr) fun x=> ∃(x_1:(Int×Int×Int×Int×Unit)×Bool×Unit),ah Tryz.prog 21 [.pointer x,.int .i64 f] w (.tuple {toList:=[.agg ⟨[.int .i64 x_1.1.1,.int .i64 x_1.1.2.1,.int .i64 x_1.1.2.2.1,.int .i64 x_1.1.2.2.2.1]⟩,.bool x_1.2.1]})/\aA w ⟨[.int .i64 0,.int .i64 0,.int .i64 0,.int .i64 0]⟩ 53 fun b w2=>av w2 (some ⟨b,0,none⟩) [.int .i64 x_1.1.1,.int .i64 x_1.1.2.1,.int .i64 x_1.1.2.2.1,.int .i64
 x_1.1.2.2.2.1] fun w2=>aB (!x_1.2.1) (aj w2 fun w1=>Post 2 w1) (true=true/\ag w2 none (af (some ⟨b,0,none⟩) 0) (.one (.int .i64)) fun(x:Int)=>aB (x != 5) (aj w2 fun w1=>Post 6 w1) (p.isSome=true/\p.isSome=true/\ag w2 none (af p 1) (.one .ptr) fun x=>az Tryz.prog 81 (.el (.one (.int .i64))) [.pointer x,.int .i64 f] w2 fun(x:Int) w2=>aj w2 fun w1=>Post x w1)))):=by kernel_rfl
theorem GK (p:Option Addr) (v a:Int) (w:World) (Post:Int->World->Prop):(aH V0 (fun _=>[]) 163 [.pointer p,.int .i64 v,.int .u64 a] w Post)=(
 aB (decide (a<1)||decide (a>16)||ax .i64 a==v) (aj w fun w1=>Post 1 w1) (∃x,ah Tryz.prog 148 [.pointer p,.int .u64 a] w (.bool x)/\aB (!x) (aj w fun w1=>Post 4 w1) (aj w fun w1=>Post 0 w1))):=by kernel_rfl
theorem LO (p:Option Addr) (v a t:Int) (w:World) (Post:Int×Int×Unit->World->Prop):(aH V0 (fun _=>[]) 161 [.pointer p,.int .i64 v,.int .u64 a,.int .i64 t] w Post)=(
 aB (decide (a>=1048576)) (aj w fun w1=>Post (0,2,Unit.unit) w1) (p.isSome=true/\p.isSome=true/\ag w none (af p 0) (.one .ptr) fun x=> ∃(x_1:Int),ah Tryz.prog 32 [.pointer p,.int .i64 v] w (.int .i64 x_1)/\(az Tryz.prog 213 (.el (.agg [.int .i64,.int .i64,.int .i64,.int .i64])) [.pointer x,.int .i64 x_1,.int .i64 (ax .i64 (py .u64 a 16)),.int .i64 t] w fun(x:Int×Int×Int×Int×Unit) w2=>aA w2 ⟨[.int .i64 0,.int .i64 0,.int .i64 0,.int .i64 0]⟩ 266 fun b w2=>av w2 (some ⟨b,0,none⟩) [.int .i64 x.1,.int .i64 x.2.1,.int .i64 x.2.2.1,
 .int .i64 x.2.2.2.1] fun w2=>true=true/\ag w2 none (af (some ⟨b,0,none⟩) 0) (.one (.int .i64)) fun(x:Int)=>true=true/\ag w2 none (af (some ⟨b,0,none⟩) 3) (.one (.int .i64)) fun(x_2:Int)=>aj w2 fun w1=>Post (au .i64 (b_ .i64 16 x) (ax .i64 (dM a 16)),x_2,Unit.unit) w1)/\aA w ⟨[.int .i64 0,.int .i64 0,.int .i64 0,.int .i64 0]⟩ 266 fun b w2=>az Tryz.prog 213 (.el (.agg [.int .i64,.int .i64,.int .i64,.int .i64])) [.pointer x,.int .i64 x_1,.int .i64 (ax .i64 (py .u64 a 16)),.int .i64 t] w2 fun(x:Int×Int×Int×Int×Unit) w2=>av
 w2 (some ⟨b,0,none⟩) [.int .i64 x.1,.int .i64 x.2.1,.int .i64 x.2.2.1,.int .i64 x.2.2.2.1] fun w2=>true=true/\ag w2 none (af (some ⟨b,0,none⟩) 0) (.one (.int .i64)) fun(x:Int)=>true=true/\ag w2 none (af (some ⟨b,0,none⟩) 3) (.one (.int .i64)) fun(x_2:Int)=>aj w2 fun w1=>Post (au .i64 (b_ .i64 16 x) (ax .i64 (dM a 16)),x_2,Unit.unit) w1)):=by kernel_rfl
def oZ:Nat->aQ:=(fun|3=>[(3,Go.RX.El.one (Go.RX.Sc.int Go.IntKind.i64))]| _=>[])
theorem GL (p:Option Addr) (w:World) (Post:Int->World->Prop):(aH V0 oZ 151 [.pointer p] w Post)=(
 p.isSome=true/\p.isSome=true/\ag w none (af p 1) (.one .map) fun x=>XA w x fun b w2=> ∃(I:Nat->Int×Unit->World->Prop),(∃n, ∀w1,Ext w2 w1->I n (65536,Unit.unit) w1)/\ ∀(n:Nat) (s:Int×Unit) (w1:World),I n s w1->XB w1 (some ⟨b,0,none⟩) (fun w2=>aj w2 fun w1=>Post s.1 w1) fun(k v:Value) w2=> ∃(x:Int), ∃(v:Value),BR w2 (some ⟨b,0,none⟩) (.int .i64 x) v/\ ∀w3,Ext w2 w3-> ∃(n':Nat),n'<n/\I n' (jb s.1 x,Unit.unit) w3):=by kernel_rfl
def rM:Nat->aQ:=(fun _=>[])
theorem LP (p:Option Addr) (v g:Int) (w:World) (Post:Unit->World->Prop):(aH V0 rM 150 [.pointer p,.int .i64 v,.int .i64 g] w Post)=(
 p.isSome=true/\p.isSome=true/\((af p 4).isSome=true/\0<=v/\v<(↑17:Int))/\ag w none (af (af p 4) (v.toNat*1)) (.one .ptr) fun x=>x.isSome=true/\x.isSome=true/\ag w none (af x 1) (.one .map) fun x_1=> ∃(x_2:Int×Int×Unit),mm w x_1 .i64 g (.agg ⟨[.int .i64 0,.int .i64 0]⟩) (.agg ⟨[.int .i64 x_2.1,.int .i64 x_2.2.1]⟩)/\aA w ⟨[.int .i64 0,.int .i64 0]⟩ 123 fun b w2=>av w2 (some ⟨b,0,none⟩) [.int .i64 x_2.1,.int .i64 x_2.2.1] fun w2=>x.isSome=true/\x.isSome=true/\ag w2 none (af x 1) (.one .map) fun x_3=> ∀w1,Ext w2 w1-> ∃(r:
 Nat), ∃(es:Array MapEntry), ∃(clock:Nat),x_3=some r/\bA w1 r es clock/\Ip w1 r .i64 g es clock fun w2=>x.isSome=true/\x.isSome=true/\ag w2 none (af x 0) (.one .ptr) fun x=>az Tryz.prog 158 (.bq [.one (.int .i64),.one (.int .i64)]) [.pointer x,.int .i64 g] w2 fun(x:Int×Int×Unit) w2=>p.isSome=true/\p.isSome=true/\ag w2 none (af p 1) (.one .ptr) fun x=>true=true/\ag w2 none (af (some ⟨b,0,none⟩) 1) (.one (.int .i64)) fun(x_4:Int)=>az Tryz.prog 167 (.el (.one (.int .i64))) [.pointer x,.int .i64 x_4,.int .i64 (-1)] w2 fun(x:
 Int) w2=>p.isSome=true/\p.isSome=true/\ag w2 none (af p 2) (.one .ptr) fun x=>true=true/\ag w2 none (af (some ⟨b,0,none⟩) 0) (.one (.int .i64)) fun(x_5:Int)=>az Tryz.prog 166 (.el (.one (.int .i64))) [.pointer x,.int .i64 x_5,.int .i64 v] w2 fun(x:Int) w2=>aj w2 fun w1=>Post Unit.unit w1):=by kernel_rfl
theorem Et (n:Int) (w:World) (Post:Option Addr×Int×Unit->World->Prop):(aH V0 (fun _=>[]) 12 [.int .i64 n] w Post)=(
 aB (decide (n<4)||decide (n>4096)) (aj w fun w1=>Post (none,1,Unit.unit) w1) (aA w {toList:=[.pointer none,.pointer none,.pointer none,.pointer none,.pointer none,.pointer none,.pointer none,.pointer none,.pointer none,.pointer none,.pointer none,.pointer none,.pointer none,.pointer none,.pointer none,.pointer none,.pointer none,.pointer none,.pointer none,.pointer none,.pointer none]} 90 fun b w2=>az Tryz.prog 43 (.bq [.one .ptr,.one (.int .i64)]) [.int .i64 (b_ .i64 16 n)] w2 fun(x:Option Addr×Int×Unit) w2=>true=true/\true=true/\
 av w2 (af (some ⟨b,0,none⟩) 0) [.pointer x.1] fun w2=>az Tryz.prog 44 (.bq [.one .ptr,.one (.int .i64)]) [.int .i64 n] w2 fun(x:Option Addr×Int×Unit) w2=>true=true/\true=true/\av w2 (af (some ⟨b,0,none⟩) 1) [.pointer x.1] fun w2=>az Tryz.prog 45 (.bq [.one .ptr,.one (.int .i64)]) [.int .i64 16] w2 fun(x:Option Addr×Int×Unit) w2=>true=true/\true=true/\av w2 (af (some ⟨b,0,none⟩) 2) [.pointer x.1] fun w2=>az Tryz.prog 46 (.bq [.one .ptr,.one (.int .i64)]) [.int .i64 4] w2 fun(x:Option Addr×Int×Unit) w2=>true=true/\true=
 true/\av w2 (af (some ⟨b,0,none⟩) 3) [.pointer x.1] fun w2=>aj w2 fun w1=>Post (some ⟨b,0,none⟩,0,Unit.unit) w1)):=by kernel_rfl
theorem GM (w:World) (Post:Option Nat->World->Prop):(aH V0 (fun _=>[]) 50 [] w Post)=(
 ∀w1,Ext w w1-> ∀cQ,Ext (w1.alloc (Obj.map ⟨[]⟩ 0)) cQ-> ∃(r:Nat), ∃(es:Array MapEntry), ∃(clock:Nat),some w1.heap.size=some r/\bA cQ r es clock/\gL cQ r .i64 1 (.func (.func 89) ⟨[]⟩ ⟨[]⟩) es clock fun w2=> ∀pG,Ext w2 pG-> ∃(r:Nat), ∃(es:Array MapEntry), ∃(clock:Nat),some w1.heap.size=some r/\bA pG r es clock/\gL pG r .i64 2 (.func (.func 90) ⟨[]⟩ ⟨[]⟩) es clock fun w2=> ∀pH,Ext w2 pH-> ∃(r:Nat), ∃(es:Array MapEntry), ∃(clock:Nat),some w1.heap.size=some r/\bA pH r es clock/\gL pH r .i64 17 (.func (.func 91)
 ⟨[]⟩ ⟨[]⟩) es clock fun w2=> ∀pI,Ext w2 pI-> ∃(r:Nat), ∃(es:Array MapEntry), ∃(clock:Nat),some w1.heap.size=some r/\bA pI r es clock/\gL pI r .i64 3 (.func (.func 92) ⟨[]⟩ ⟨[]⟩) es clock fun w2=> ∀uM,Ext w2 uM-> ∃(r:Nat), ∃(es:Array MapEntry), ∃(clock:Nat),some w1.heap.size=some r/\bA uM r es clock/\gL uM r .i64 4 (.func (.func 93) ⟨[]⟩ ⟨[]⟩) es clock fun w2=> ∀uN,Ext w2 uN-> ∃(r:Nat), ∃(es:Array MapEntry), ∃(clock:Nat),some w1.heap.size=some r/\bA uN r es clock/\gL uN r .i64 5 (.func (.func 94) ⟨[]⟩ ⟨[]⟩) es
 clock fun w2=> ∀BY,Ext w2 BY-> ∃(r:Nat), ∃(es:Array MapEntry), ∃(clock:Nat),some w1.heap.size=some r/\bA BY r es clock/\gL BY r .i64 6 (.func (.func 95) ⟨[]⟩ ⟨[]⟩) es clock fun w2=> ∀BZ,Ext w2 BZ-> ∃(r:Nat), ∃(es:Array MapEntry), ∃(clock:Nat),some w1.heap.size=some r/\bA BZ r es clock/\gL BZ r .i64 7 (.func (.func 96) ⟨[]⟩ ⟨[]⟩) es clock fun w2=> ∀B6,Ext w2 B6-> ∃(r:Nat), ∃(es:Array MapEntry), ∃(clock:Nat),some w1.heap.size=some r/\bA B6 r es clock/\gL B6 r .i64 8 (.func (.func 97) ⟨[]⟩ ⟨[]⟩) es clock fun w2
 => ∀uT,Ext w2 uT-> ∃(r:Nat), ∃(es:Array MapEntry), ∃(clock:Nat),some w1.heap.size=some r/\bA uT r es clock/\gL uT r .i64 9 (.func (.func 98) ⟨[]⟩ ⟨[]⟩) es clock fun w2=> ∀uU,Ext w2 uU-> ∃(r:Nat), ∃(es:Array MapEntry), ∃(clock:Nat),some w1.heap.size=some r/\bA uU r es clock/\gL uU r .i64 10 (.func (.func 99) ⟨[]⟩ ⟨[]⟩) es clock fun w2=> ∀uV,Ext w2 uV-> ∃(r:Nat), ∃(es:Array MapEntry), ∃(clock:Nat),some w1.heap.size=some r/\bA uV r es clock/\gL uV r .i64 11 (.func (.func 100) ⟨[]⟩ ⟨[]⟩) es clock fun w2
 => ∀uW,Ext w2 uW-> ∃(r:Nat), ∃(es:Array MapEntry), ∃(clock:Nat),some w1.heap.size=some r/\bA uW r es clock/\gL uW r .i64 12 (.func (.func 101) ⟨[]⟩ ⟨[]⟩) es clock fun w2=> ∀uX,Ext w2 uX-> ∃(r:Nat), ∃(es:Array MapEntry), ∃(clock:Nat),some w1.heap.size=some r/\bA uX r es clock/\gL uX r .i64 13 (.func (.func 102) ⟨[]⟩ ⟨[]⟩) es clock fun w2=> ∀uY,Ext w2 uY-> ∃(r:Nat), ∃(es:Array MapEntry), ∃(clock:Nat),some w1.heap.size=some r/\bA uY r es clock/\gL uY r .i64 14 (.func (.func 103) ⟨[]⟩ ⟨[]⟩) es clock fun
 w2=> ∀uZ,Ext w2 uZ-> ∃(r:Nat), ∃(es:Array MapEntry), ∃(clock:Nat),some w1.heap.size=some r/\bA uZ r es clock/\gL uZ r .i64 15 (.func (.func 104) ⟨[]⟩ ⟨[]⟩) es clock fun w2=> ∀u0,Ext w2 u0-> ∃(r:Nat), ∃(es:Array MapEntry), ∃(clock:Nat),some w1.heap.size=some r/\bA u0 r es clock/\gL u0 r .i64 16 (.func (.func 105) ⟨[]⟩ ⟨[]⟩) es clock fun w2=>aj w2 fun IY=>Post (some w1.heap.size) IY):=by kernel_rfl
def mE:Nat->aQ:=(fun|2=>[(7,Go.RX.El.one (Go.RX.Sc.int Go.IntKind.i64))]| _=>[])
theorem Bu (p:Option Addr) (v k a b c:Int) (w:World) (Post:RS->World->Prop):(bM V0 mE 89 [.pointer p,.int .i64 v,.agg ⟨[.int .i64 k,.int .u64 a,.int .u64 b,.int .u64 c]⟩] w Post)=(
 aA w ⟨[.int .i64 k,.int .u64 a,.int .u64 b,.int .u64 c]⟩ 31 fun b w2=>aA w2 ⟨[.int .u64 0,.int .i64 0]⟩ 35 fun b w2=> ∃(I:Nat->Int×Unit->World->Prop),(∃n, ∀w1,Ext w2 w1->I n (1,Unit.unit) w1)/\ ∀(n:Nat) (s:Int×Unit) (w1:World),I n s w1->aB (decide (s.1<=16)) (p.isSome=true/\p.isSome=true/\((af p 4).isSome=true/\0<=s.1/\s.1<(↑17:Int))/\ag w1 none (af (af p 4) (Int.toNat s.1*1)) (.one .ptr) fun x=>aB (!x.isNone) (∀w3,Ext w1 w3-> ∃(n':Nat),n'<n/\I n' (au .i64 s.1 1,Unit.unit) w3) (p.isSome=true/\p.isSome=true/\ag
 w1 none (af p 0) (.one .ptr) fun x=>p.isSome=true/\p.isSome=true/\ag w1 none (af p 1) (.one .ptr) fun x_1=>az Tryz.prog 147 (.bq [.one .ptr,.one (.int .i64)]) [.pointer x,.pointer x_1,.int .i64 s.1] w1 fun(x:Option Addr×Int×Unit) w2=>aB (x.2.1==0) (∀w1,Ext w2 w1->aA (w1.alloc (Obj.map ⟨[]⟩ 0)) ⟨[.pointer x.1,.map (some w1.heap.size)]⟩ 113 fun b_1 w2=>p.isSome=true/\p.isSome=true/\((af p 4).isSome=true/\0<=s.1/\s.1<(↑17:Int))/\av w2 (af (af p 4) (Int.toNat s.1*1)) [.pointer (some ⟨b_1,0,none⟩)] fun w2=>av w2 (some ⟨b,0,
 none⟩) [.int .u64 (ax .u64 s.1),.int .i64 x.2.1] fun w2=>aj w2 fun w1=>ag w1 none (some ⟨b,0,none⟩) (.agg [.int .u64,.int .i64]) fun(x:Int×Int×Unit)=>Post (x.1,x.2.1,Unit.unit) w1) (av w2 (some ⟨b,0,none⟩) [.int .u64 (ax .u64 s.1),.int .i64 x.2.1] fun w2=>aj w2 fun w1=>ag w1 none (some ⟨b,0,none⟩) (.agg [.int .u64,.int .i64]) fun(x:Int×Int×Unit)=>Post (x.1,x.2.1,Unit.unit) w1))) (True/\av w1 (some ⟨b,0,none⟩) [.int .u64 0,.int .i64 3] fun w2=>aj w2 fun w1=>ag w1 none (some ⟨b,0,none⟩) (.agg [.int .u64,.int .i64]) fun(x:Int×
 Int×Unit)=>Post (x.1,x.2.1,Unit.unit) w1)):=by kernel_rfl
def lD:Nat->aQ:=(fun|5=>[(34,Go.RX.El.one (Go.RX.Sc.int Go.IntKind.i64))]|12=>[]|19=>[(13,Go.RX.El.one (Go.RX.Sc.int Go.IntKind.i64)),(93,Go.RX.El.one (Go.RX.Sc.int Go.IntKind.i64))]| _=>[])
theorem zQ (p:Option Addr) (v k a b c:Int) (w:World) (Post:RS->World->Prop):(bM V0 lD 90 [.pointer p,.int .i64 v,.agg ⟨[.int .i64 k,.int .u64 a,.int .u64 b,.int .u64 c]⟩] w Post)=(
 aA w ⟨[.int .i64 k,.int .u64 a,.int .u64 b,.int .u64 c]⟩ 31 fun b w2=>aA w2 ⟨[.int .u64 0,.int .i64 0]⟩ 35 fun b_1 w2=>true=true/\ag w2 none (af (some ⟨b,0,none⟩) 1) (.one (.int .u64)) fun(x:Int)=> ∃x_1,ah Tryz.prog 148 [.pointer p,.int .u64 x] w2 (.bool x_1)/\aB (!x_1) (True/\av w2 (some ⟨b_1,0,none⟩) [.int .u64 0,.int .i64 4] fun w2=>aj w2 fun w1=>ag w1 none (some ⟨b_1,0,none⟩) (.agg [.int .u64,.int .i64]) fun(x:Int×Int×Unit)=>Post (x.1,x.2.1,Unit.unit) w1) (true=true/\ag w2 none (af (some ⟨b,0,none⟩) 1) (.one (.int .u64)) fun
 (x:Int)=>p.isSome=true/\p.isSome=true/\ag w2 none (af p 1) (.one .ptr) fun x_2=>az Tryz.prog 149 (.el (.one .slice)) [.pointer x_2,.int .i64 (ax .i64 x)] w2 fun x_3 w2=> ∃(I:Nat->Int×Unit->World->Prop),(∃n, ∀w1,Ext w2 w1->I n (0,Unit.unit) w1)/\ ∀(n:Nat) (s:Int×Unit) (w1:World),I n s w1->aB (decide (s.1<(↑x_3.2.1:Int))) ((x_3.1.isSome=true/\0<=s.1/\s.1<(↑x_3.2.1:Int))/\ag w1 none (af x_3.1 (Int.toNat s.1*1)) (.one (.int .i64)) fun(x:Int)=>p.isSome=true/\p.isSome=true/\ag w1 none (af p 1) (.one .ptr) fun x_4=> ∃
 (x_5:(Int×Int×Int×Int×Unit)×Bool×Unit),ah Tryz.prog 21 [.pointer x_4,.int .i64 x] w1 (.tuple {toList:=[.agg ⟨[.int .i64 x_5.1.1,.int .i64 x_5.1.2.1,.int .i64 x_5.1.2.2.1,.int .i64 x_5.1.2.2.2.1]⟩,.bool x_5.2.1]})/\aA w1 ⟨[.int .i64 0,.int .i64 0,.int .i64 0,.int .i64 0]⟩ 53 fun b w2=>av w2 (some ⟨b,0,none⟩) [.int .i64 x_5.1.1,.int .i64 x_5.1.2.1,.int .i64 x_5.1.2.2.1,.int .i64 x_5.1.2.2.2.1] fun w2=>true=true/\ag w2 none (af (some ⟨b,0,none⟩) 2) (.one (.int .i64)) fun(x:Int)=>aB (decide (x>0)) (True/\av w2 (some ⟨b_1,0,none⟩)
 [.int .u64 0,.int .i64 9] fun w2=>aj w2 fun w1=>ag w1 none (some ⟨b_1,0,none⟩) (.agg [.int .u64,.int .i64]) fun(x:Int×Int×Unit)=>Post (x.1,x.2.1,Unit.unit) w1) (∀w3,Ext w2 w3-> ∃(n':Nat),n'<n/\I n' (au .i64 s.1 1,Unit.unit) w3)) (p.isSome=true/\p.isSome=true/\((af p 4).isSome=true/\0<=ax .i64 x/\ax .i64 x<(↑17:Int))/\ag w1 none (af (af p 4) ((ax .i64 x).toNat*1)) (.one .ptr) fun x_4=> ∃(I:Nat->Unit->World->Prop),(∃n, ∀cQ,Ext w1 cQ->I n Unit.unit cQ)/\ ∀(n:Nat) (s:Unit) (w1:World),I n s w1->x_4.isSome
 =true/\x_4.isSome=true/\ag w1 none (af x_4 1) (.one .map) fun x_5=> ∃n_1,MV w1 x_5 n_1/\aB (decide ((↑n_1:Int)>0)) (az Tryz.prog 151 (.el (.one (.int .i64))) [.pointer x_4] w1 fun(x_6:Int) w2=>az Tryz.prog 150 (.bq []) [.pointer p,.int .i64 (ax .i64 x),.int .i64 x_6] w2 fun x w2=> ∀w3,Ext w2 w3-> ∃(n':Nat),n'<n/\I n' Unit.unit w3) (p.isSome=true/\p.isSome=true/\ag w1 none (af p 2) (.one .ptr) fun x_6=>az Tryz.prog 152 (.el (.one (.int .i64))) [.pointer x_6,.int .i64 (ax .i64 x)] w1 fun(x_7:Int) w2=>p.isSome=true/\p.isSome=
 true/\ag w2 none (af p 3) (.one .ptr) fun x_8=>az Tryz.prog 153 (.el (.one (.int .i64))) [.pointer x_8,.int .i64 (ax .i64 x)] w2 fun(x_9:Int) w2=>x_4.isSome=true/\x_4.isSome=true/\ag w2 none (af x_4 0) (.one .ptr) fun x_10=>az Tryz.prog 154 (.el (.one .slice)) [.pointer x_10] w2 fun x_11 w2=>p.isSome=true/\p.isSome=true/\ag w2 none (af p 1) (.one .ptr) fun x_12=>az Tryz.prog 149 (.el (.one .slice)) [.pointer x_12,.int .i64 (ax .i64 x)] w2 fun x_13 w2=> ∃(I:Nat->Int×Int×Unit->World->Prop),(∃n, ∀w1,Ext w2 w1->I n (0,0,Unit.unit)
 w1)/\ ∀(n:Nat) (s:Int×Int×Unit) (w1:World),I n s w1->aB (decide (s.2.1<(↑x_13.2.1:Int))) ((x_13.1.isSome=true/\0<=s.2.1/\s.2.1<(↑x_13.2.1:Int))/\ag w1 none (af x_13.1 (Int.toNat s.2.1*1)) (.one (.int .i64)) fun(x_14:Int)=>p.isSome=true/\p.isSome=true/\ag w1 none (af p 1) (.one .ptr) fun x_15=> ∃(x_16:(Int×Int×Int×Int×Unit)×Bool×Unit),ah Tryz.prog 21 [.pointer x_15,.int .i64 x_14] w1 (.tuple {toList:=[.agg ⟨[.int .i64 x_16.1.1,.int .i64 x_16.1.2.1,.int .i64 x_16.1.2.2.1,.int .i64 x_16.1.2.2.2.1]⟩,.bool x_16.2.1]})/\
 aA w1 ⟨[.int .i64 0,.int .i64 0,.int .i64 0,.int .i64 0]⟩ 53 fun b w2=>av w2 (some ⟨b,0,none⟩) [.int .i64 x_16.1.1,.int .i64 x_16.1.2.1,.int .i64 x_16.1.2.2.1,.int .i64 x_16.1.2.2.2.1] fun w2=>true=true/\ag w2 none (af (some ⟨b,0,none⟩) 0) (.one (.int .i64)) fun(x_17:Int)=>aB (x_17==4) (p.isSome=true/\p.isSome=true/\ag w2 none (af p 1) (.one .ptr) fun x_18=>az Tryz.prog 146 (.el (.one (.int .i64))) [.pointer x_18,.int .i64 x_14,.int .i64 5,.int .i64 (ax .i64 x)] w2 fun(x:Int) w2=> ∀w3,Ext w2 w3-> ∃(n':Nat),n'<n/\I n' (au .i64 s.1
 1,au .i64 s.2.1 1,Unit.unit) w3) (∀w3,Ext w2 w3-> ∃(n':Nat),n'<n/\I n' (s.1,au .i64 s.2.1 1,Unit.unit) w3)) (p.isSome=true/\p.isSome=true/\((af p 4).isSome=true/\0<=ax .i64 x/\ax .i64 x<(↑17:Int))/\av w1 (af (af p 4) ((ax .i64 x).toNat*1)) [.pointer none] fun w2=>av w2 (some ⟨b_1,0,none⟩) [.int .u64 (ax .u64 s.1),.int .i64 0] fun w2=>aj w2 fun w1=>ag w1 none (some ⟨b_1,0,none⟩) (.agg [.int .u64,.int .i64]) fun(x:Int×Int×Unit)=>Post (x.1,x.2.1,Unit.unit) w1))))):=by kernel_rfl
def nN:Nat->aQ:=(fun|3=>[(7,Go.RX.El.one (Go.RX.Sc.int Go.IntKind.i64)),(14,Go.RX.El.one (Go.RX.Sc.int Go.IntKind.i64))]| _=>[])
theorem C' (p:Option Addr) (v k a b c:Int) (w:World) (Post:RS->World->Prop):(bM V0 nN 91 [.pointer p,.int .i64 v,.agg ⟨[.int .i64 k,.int .u64 a,.int .u64 b,.int .u64 c]⟩] w Post)=(
 aA w ⟨[.int .i64 k,.int .u64 a,.int .u64 b,.int .u64 c]⟩ 31 fun b w2=>aA w2 ⟨[.int .u64 0,.int .i64 0]⟩ 35 fun b w2=>p.isSome=true/\p.isSome=true/\ag w2 none (af p 1) (.one .ptr) fun x=> ∃(x_1:Int),ah Tryz.prog 39 [.pointer x] w2 (.int .i64 x_1)/\ ∃(I:Nat->Int×Int×Unit->World->Prop),(∃n, ∀w1,Ext w2 w1->I n (0,0,Unit.unit) w1)/\ ∀(n:Nat) (s:Int×Int×Unit) (w1:World),I n s w1->aB (decide (s.2.1<x_1)) (az Tryz.prog 37 (.el (.one (.int .i64))) [.pointer p,.int .i64 s.2.1] w1 fun(x:Int) w2=>aB (x==0) (∀w3,Ext w2 w3-> ∃(n':
 Nat),n'<n/\I n' (au .i64 s.1 1,au .i64 s.2.1 1,Unit.unit) w3) (∀w3,Ext w2 w3-> ∃(n':Nat),n'<n/\I n' (s.1,au .i64 s.2.1 1,Unit.unit) w3)) (av w1 (some ⟨b,0,none⟩) [.int .u64 (ax .u64 s.1),.int .i64 0] fun w2=>aj w2 fun w1=>ag w1 none (some ⟨b,0,none⟩) (.agg [.int .u64,.int .i64]) fun(x:Int×Int×Unit)=>Post (x.1,x.2.1,Unit.unit) w1)):=by kernel_rfl
def mF:Nat->aQ:=(fun|13=>[(66,Go.RX.El.one (Go.RX.Sc.int Go.IntKind.i64))]| _=>[])
theorem Bv (p:Option Addr) (v k a b c:Int) (w:World) (Post:RS->World->Prop):(bM V0 mF 92 [.pointer p,.int .i64 v,.agg ⟨[.int .i64 k,.int .u64 a,.int .u64 b,.int .u64 c]⟩] w Post)=(
 aA w ⟨[.int .i64 k,.int .u64 a,.int .u64 b,.int .u64 c]⟩ 31 fun b w2=>aA w2 ⟨[.int .u64 0,.int .i64 0]⟩ 35 fun b_1 w2=>true=true/\ag w2 none (af (some ⟨b,0,none⟩) 1) (.one (.int .u64)) fun(x:Int)=>aB (decide (x>=65536)) (True/\av w2 (some ⟨b_1,0,none⟩) [.int .u64 0,.int .i64 2] fun w2=>aj w2 fun w1=>ag w1 none (some ⟨b_1,0,none⟩) (.agg [.int .u64,.int .i64]) fun(x:Int×Int×Unit)=>Post (x.1,x.2.1,Unit.unit) w1) (true=true/\ag w2 none (af (some ⟨b,0,none⟩) 2) (.one (.int .u64)) fun(x:Int)=>((!decide (x<1))=true->true=true)/\
 ag w2 (some !decide (x<1)) (af (some ⟨b,0,none⟩) 2) (.one (.int .u64)) fun(x_1:Int)=>aB (decide (x<1)||decide (x_1>7)) (True/\av w2 (some ⟨b_1,0,none⟩) [.int .u64 0,.int .i64 7] fun w2=>aj w2 fun w1=>ag w1 none (some ⟨b_1,0,none⟩) (.agg [.int .u64,.int .i64]) fun(x:Int×Int×Unit)=>Post (x.1,x.2.1,Unit.unit) w1) (p.isSome=true/\p.isSome=true/\ag w2 none (af p 1) (.one .ptr) fun x=>az Tryz.prog 155 (.bq [.one (.int .i64),.one (.int .i64)]) [.pointer x,.int .i64 4,.int .i64 v] w2 fun(x:Int×Int×Unit) w2=>aB (x.2.1 != 0) (True/\
 av w2 (some ⟨b_1,0,none⟩) [.int .u64 0,.int .i64 x.2.1] fun w2=>aj w2 fun w1=>ag w1 none (some ⟨b_1,0,none⟩) (.agg [.int .u64,.int .i64]) fun(x:Int×Int×Unit)=>Post (x.1,x.2.1,Unit.unit) w1) (p.isSome=true/\p.isSome=true/\((af p 4).isSome=true/\0<=v/\v<(↑17:Int))/\ag w2 none (af (af p 4) (v.toNat*1)) (.one .ptr) fun x_2=>x_2.isSome=true/\x_2.isSome=true/\ag w2 none (af x_2 0) (.one .ptr) fun x_3=>true=true/\ag w2 none (af (some ⟨b,0,none⟩) 1) (.one (.int .u64)) fun(x_4:Int)=>true=true/\ag w2 none (af (some ⟨b,0,
 none⟩) 2) (.one (.int .u64)) fun(x_5:Int)=>az Tryz.prog 156 (.el (.one (.int .i64))) [.pointer x_3,.int .i64 (ax .i64 x_4),.int .i64 x.1,.int .i64 (ax .i64 x_5)] w2 fun(x_6:Int) w2=>aB (x_6 != 0) (p.isSome=true/\p.isSome=true/\ag w2 none (af p 1) (.one .ptr) fun x_7=>az Tryz.prog 81 (.el (.one (.int .i64))) [.pointer x_7,.int .i64 x.1] w2 fun(x:Int) w2=>True/\av w2 (some ⟨b_1,0,none⟩) [.int .u64 0,.int .i64 x_6] fun w2=>aj w2 fun w1=>ag w1 none (some ⟨b_1,0,none⟩) (.agg [.int .u64,.int .i64]) fun(x:Int×Int×Unit)=>Post (x.1,x.2.1,
 Unit.unit) w1) (∃(I:Nat->Int×Unit->World->Prop),(∃n, ∀w1,Ext w2 w1->I n (0,Unit.unit) w1)/\ ∀(n:Nat) (s:Int×Unit) (w1:World),I n s w1->aB (decide (s.1<16)) (p.isSome=true/\p.isSome=true/\ag w1 none (af p 0) (.one .ptr) fun x_7=>az Tryz.prog 157 (.el (.one (.int .i64))) [.pointer x_7,.int .i64 (au .i64 (b_ .i64 16 x.1) s.1),.int .u64 0] w1 fun(x:Int) w2=> ∀w3,Ext w2 w3-> ∃(n':Nat),n'<n/\I n' (au .i64 s.1 1,Unit.unit) w3) (av w1 (some ⟨b_1,0,none⟩) [.int .u64 (ax .u64 x.1),.int .i64 0] fun w2=>aj w2 fun w1=>ag w1 none
 (some ⟨b_1,0,none⟩) (.agg [.int .u64,.int .i64]) fun(x:Int×Int×Unit)=>Post (x.1,x.2.1,Unit.unit) w1)))))):=by kernel_rfl
theorem zR (p:Option Addr) (v k a b c:Int) (w:World) (Post:RS->World->Prop):(bM V0 (fun _=>[]) 93 [.pointer p,.int .i64 v,.agg ⟨[.int .i64 k,.int .u64 a,.int .u64 b,.int .u64 c]⟩] w Post)=(
 aA w ⟨[.int .i64 k,.int .u64 a,.int .u64 b,.int .u64 c]⟩ 31 fun b w2=>aA w2 ⟨[.int .u64 0,.int .i64 0]⟩ 35 fun b_1 w2=>true=true/\ag w2 none (af (some ⟨b,0,none⟩) 1) (.one (.int .u64)) fun(x:Int)=>aB (decide (x>=65536)) (True/\av w2 (some ⟨b_1,0,none⟩) [.int .u64 0,.int .i64 2] fun w2=>aj w2 fun w1=>ag w1 none (some ⟨b_1,0,none⟩) (.agg [.int .u64,.int .i64]) fun(x:Int×Int×Unit)=>Post (x.1,x.2.1,Unit.unit) w1) (true=true/\ag w2 none (af (some ⟨b,0,none⟩) 1) (.one (.int .u64)) fun(x:Int)=>az Tryz.prog 15 (.bq [.one (.int .i64),
 .one (.int .i64),.one (.int .i64)]) [.pointer p,.int .i64 v,.int .i64 (ax .i64 x)] w2 fun(x_1:Int×Int×Int×Unit) w2=>aB (x_1.2.2.1 != 0) (True/\av w2 (some ⟨b_1,0,none⟩) [.int .u64 0,.int .i64 x_1.2.2.1] fun w2=>aj w2 fun w1=>ag w1 none (some ⟨b_1,0,none⟩) (.agg [.int .u64,.int .i64]) fun(x:Int×Int×Unit)=>Post (x.1,x.2.1,Unit.unit) w1) (∃(x_2:Int×Bool×Unit),ah Tryz.prog 22 [.pointer p,.int .i64 v,.int .i64 (ax .i64 x)] w2 (.tuple ⟨[.int .i64 x_2.1,.bool x_2.2.1]⟩)/\aB x_2.2.1 (True/\av w2 (some ⟨b_1,0,none⟩) [.int .u64 0,.int
 .i64 7] fun w2=>aj w2 fun w1=>ag w1 none (some ⟨b_1,0,none⟩) (.agg [.int .u64,.int .i64]) fun(x:Int×Int×Unit)=>Post (x.1,x.2.1,Unit.unit) w1) (p.isSome=true/\p.isSome=true/\ag w2 none (af p 1) (.one .ptr) fun x_3=> ∃(x_4:(Int×Int×Int×Int×Unit)×Bool×Unit),ah Tryz.prog 21 [.pointer x_3,.int .i64 x_1.1] w2 (.tuple {toList:=[.agg ⟨[.int .i64 x_4.1.1,.int .i64 x_4.1.2.1,.int .i64 x_4.1.2.2.1,.int .i64 x_4.1.2.2.2.1]⟩,.bool x_4.2.1]})/\aA w2 ⟨[.int .i64 0,.int .i64 0,.int .i64 0,.int .i64 0]⟩ 53 fun b w2=>av w2 (some ⟨b,0,none⟩)
 [.int .i64 x_4.1.1,.int .i64 x_4.1.2.1,.int .i64 x_4.1.2.2.1,.int .i64 x_4.1.2.2.2.1] fun w2=>true=true/\ag w2 none (af (some ⟨b,0,none⟩) 2) (.one (.int .i64)) fun(x_5:Int)=>aB (decide (x_5>0)) (True/\av w2 (some ⟨b_1,0,none⟩) [.int .u64 0,.int .i64 9] fun w2=>aj w2 fun w1=>ag w1 none (some ⟨b_1,0,none⟩) (.agg [.int .u64,.int .i64]) fun(x:Int×Int×Unit)=>Post (x.1,x.2.1,Unit.unit) w1) (p.isSome=true/\p.isSome=true/\((af p 4).isSome=true/\0<=v/\v<(↑17:Int))/\ag w2 none (af (af p 4) (v.toNat*1)) (.one .ptr) fun x_6=>
 x_6.isSome=true/\x_6.isSome=true/\ag w2 none (af x_6 0) (.one .ptr) fun x_7=>az Tryz.prog 158 (.bq [.one (.int .i64),.one (.int .i64)]) [.pointer x_7,.int .i64 (ax .i64 x)] w2 fun(x:Int×Int×Unit) w2=>p.isSome=true/\p.isSome=true/\ag w2 none (af p 1) (.one .ptr) fun x=>az Tryz.prog 146 (.el (.one (.int .i64))) [.pointer x,.int .i64 x_1.1,.int .i64 5,.int .i64 v] w2 fun(x:Int) w2=>av w2 (some ⟨b_1,0,none⟩) [.int .u64 (ax .u64 x_1.1),.int .i64 0] fun w2=>aj w2 fun w1=>ag w1 none (some ⟨b_1,0,none⟩) (.agg [.int .u64,.int .i64]) fun(x
 :Int×Int×Unit)=>Post (x.1,x.2.1,Unit.unit) w1))))):=by kernel_rfl
theorem zS (p:Option Addr) (v k a b c:Int) (w:World) (Post:RS->World->Prop):(bM V0 (fun _=>[]) 94 [.pointer p,.int .i64 v,.agg ⟨[.int .i64 k,.int .u64 a,.int .u64 b,.int .u64 c]⟩] w Post)=(
 aA w ⟨[.int .i64 k,.int .u64 a,.int .u64 b,.int .u64 c]⟩ 31 fun b w2=>aA w2 ⟨[.int .u64 0,.int .i64 0]⟩ 35 fun b_1 w2=>true=true/\ag w2 none (af (some ⟨b,0,none⟩) 1) (.one (.int .u64)) fun(x:Int)=>aB (decide (x>=65536)) (True/\av w2 (some ⟨b_1,0,none⟩) [.int .u64 0,.int .i64 2] fun w2=>aj w2 fun w1=>ag w1 none (some ⟨b_1,0,none⟩) (.agg [.int .u64,.int .i64]) fun(x:Int×Int×Unit)=>Post (x.1,x.2.1,Unit.unit) w1) (true=true/\ag w2 none (af (some ⟨b,0,none⟩) 2) (.one (.int .u64)) fun(x:Int)=>((!decide (x<1))=true->true=true)/\
 ag w2 (some !decide (x<1)) (af (some ⟨b,0,none⟩) 2) (.one (.int .u64)) fun(x_1:Int)=>aB (decide (x<1)||decide (x_1>7)) (True/\av w2 (some ⟨b_1,0,none⟩) [.int .u64 0,.int .i64 7] fun w2=>aj w2 fun w1=>ag w1 none (some ⟨b_1,0,none⟩) (.agg [.int .u64,.int .i64]) fun(x:Int×Int×Unit)=>Post (x.1,x.2.1,Unit.unit) w1) (true=true/\ag w2 none (af (some ⟨b,0,none⟩) 1) (.one (.int .u64)) fun(x:Int)=> ∃(x_2:Int×Bool×Unit),ah Tryz.prog 22 [.pointer p,.int .i64 v,.int .i64 (ax .i64 x)] w2 (.tuple ⟨[.int .i64 x_2.1,.bool x_2.2.1]⟩)/\
 (x_2.2.1=true->true=true)/\ag w2 (some x_2.2.1) (af (some ⟨b,0,none⟩) 2) (.one (.int .u64)) fun(x:Int)=>aB (x_2.2.1&&decide (mR .u64 x 2>0)) (p.isSome=true/\p.isSome=true/\ag w2 none (af p 2) (.one .ptr) fun x=> ∃(x_3:(Int×Int×Int×Bool×Int×Unit)×Bool×Unit),ah Tryz.prog 159 [.pointer x,.int .i64 x_2.1] w2 (.tuple {toList:=[.agg ⟨[.int .i64 x_3.1.1,.int .i64 x_3.1.2.1,.int .i64 x_3.1.2.2.1,.bool x_3.1.2.2.2.1,.int .i64 x_3.1.2.2.2.2.1]⟩,.bool x_3.2.1]})/\aA w2 ⟨[.int .i64 0,.int .i64 0,.int .i64 0,.bool false,.int .i64 0]⟩
 185 fun b_2 w2=>av w2 (some ⟨b_2,0,none⟩) [.int .i64 x_3.1.1,.int .i64 x_3.1.2.1,.int .i64 x_3.1.2.2.1,.bool x_3.1.2.2.2.1,.int .i64 x_3.1.2.2.2.2.1] fun w2=>true=true/\ag w2 none (af (some ⟨b_2,0,none⟩) 3) (.one .bool) fun x=>aB (!x) (True/\av w2 (some ⟨b_1,0,none⟩) [.int .u64 0,.int .i64 7] fun w2=>aj w2 fun w1=>ag w1 none (some ⟨b_1,0,none⟩) (.agg [.int .u64,.int .i64]) fun(x:Int×Int×Unit)=>Post (x.1,x.2.1,Unit.unit) w1) (p.isSome=true/\p.isSome=true/\((af p 4).isSome=true/\0<=v/\v<(↑17:Int))/\ag w2 none (af (af p 4)
 (v.toNat*1)) (.one .ptr) fun x=>x.isSome=true/\x.isSome=true/\ag w2 none (af x 0) (.one .ptr) fun x=>true=true/\ag w2 none (af (some ⟨b,0,none⟩) 1) (.one (.int .u64)) fun(x_4:Int)=>true=true/\ag w2 none (af (some ⟨b,0,none⟩) 2) (.one (.int .u64)) fun(x_5:Int)=>az Tryz.prog 160 (.el (.one (.int .i64))) [.pointer x,.int .i64 (ax .i64 x_4),.int .i64 (ax .i64 x_5)] w2 fun(x:Int) w2=>True/\av w2 (some ⟨b_1,0,none⟩) [.int .u64 0,.int .i64 x] fun w2=>aj w2 fun w1=>ag w1 none (some ⟨b_1,0,none⟩) (.agg [.int .u64,.int .i64]) fun(x:
 Int×Int×Unit)=>Post (x.1,x.2.1,Unit.unit) w1)) (p.isSome=true/\p.isSome=true/\((af p 4).isSome=true/\0<=v/\v<(↑17:Int))/\ag w2 none (af (af p 4) (v.toNat*1)) (.one .ptr) fun x=>x.isSome=true/\x.isSome=true/\ag w2 none (af x 0) (.one .ptr) fun x=>true=true/\ag w2 none (af (some ⟨b,0,none⟩) 1) (.one (.int .u64)) fun(x_3:Int)=>true=true/\ag w2 none (af (some ⟨b,0,none⟩) 2) (.one (.int .u64)) fun(x_4:Int)=>az Tryz.prog 160 (.el (.one (.int .i64))) [.pointer x,.int .i64 (ax .i64 x_3),.int .i64 (ax .i64 x_4)] w2 fun(x
 :Int) w2=>True/\av w2 (some ⟨b_1,0,none⟩) [.int .u64 0,.int .i64 x] fun w2=>aj w2 fun w1=>ag w1 none (some ⟨b_1,0,none⟩) (.agg [.int .u64,.int .i64]) fun(x:Int×Int×Unit)=>Post (x.1,x.2.1,Unit.unit) w1)))):=by kernel_rfl
theorem GN (p:Option Addr) (v k a b c:Int) (w:World) (Post:RS->World->Prop):(bM V0 (fun _=>[]) 95 [.pointer p,.int .i64 v,.agg ⟨[.int .i64 k,.int .u64 a,.int .u64 b,.int .u64 c]⟩] w Post)=(
 aA w ⟨[.int .i64 k,.int .u64 a,.int .u64 b,.int .u64 c]⟩ 31 fun b w2=>aA w2 ⟨[.int .u64 0,.int .i64 0]⟩ 35 fun b_1 w2=>true=true/\ag w2 none (af (some ⟨b,0,none⟩) 1) (.one (.int .u64)) fun(x:Int)=>az Tryz.prog 161 (.bq [.one (.int .i64),.one (.int .i64)]) [.pointer p,.int .i64 v,.int .u64 x,.int .i64 1] w2 fun(x:Int×Int×Unit) w2=>aB (x.2.1 != 0) (True/\av w2 (some ⟨b_1,0,none⟩) [.int .u64 0,.int .i64 x.2.1] fun w2=>aj w2 fun w1=>ag w1 none (some ⟨b_1,0,none⟩) (.agg [.int .u64,.int .i64]) fun(x:Int×Int×Unit)=>Post (x.1,x.2.1,
 Unit.unit) w1) (p.isSome=true/\p.isSome=true/\ag w2 none (af p 0) (.one .ptr) fun x_1=>az Tryz.prog 162 (.bq [.one (.int .u64),.one (.int .i64)]) [.pointer x_1,.int .i64 x.1] w2 fun(x:Int×Int×Unit) w2=>av w2 (some ⟨b_1,0,none⟩) [.int .u64 x.1,.int .i64 x.2.1] fun w2=>aj w2 fun w1=>ag w1 none (some ⟨b_1,0,none⟩) (.agg [.int .u64,.int .i64]) fun(x:Int×Int×Unit)=>Post (x.1,x.2.1,Unit.unit) w1)):=by kernel_rfl
theorem Da (p:Option Addr) (v k a b c:Int) (w:World) (Post:RS->World->Prop):(bM V0 (fun _=>[]) 96 [.pointer p,.int .i64 v,.agg ⟨[.int .i64 k,.int .u64 a,.int .u64 b,.int .u64 c]⟩] w Post)=(
 aA w ⟨[.int .i64 k,.int .u64 a,.int .u64 b,.int .u64 c]⟩ 31 fun b w2=>aA w2 ⟨[.int .u64 0,.int .i64 0]⟩ 35 fun b_1 w2=>true=true/\ag w2 none (af (some ⟨b,0,none⟩) 1) (.one (.int .u64)) fun(x:Int)=>az Tryz.prog 161 (.bq [.one (.int .i64),.one (.int .i64)]) [.pointer p,.int .i64 v,.int .u64 x,.int .i64 2] w2 fun(x:Int×Int×Unit) w2=>aB (x.2.1 != 0) (True/\av w2 (some ⟨b_1,0,none⟩) [.int .u64 0,.int .i64 x.2.1] fun w2=>aj w2 fun w1=>ag w1 none (some ⟨b_1,0,none⟩) (.agg [.int .u64,.int .i64]) fun(x:Int×Int×Unit)=>Post (x.1,x.2.1,
 Unit.unit) w1) (p.isSome=true/\p.isSome=true/\ag w2 none (af p 0) (.one .ptr) fun x_1=>true=true/\ag w2 none (af (some ⟨b,0,none⟩) 2) (.one (.int .u64)) fun(x_2:Int)=>az Tryz.prog 157 (.el (.one (.int .i64))) [.pointer x_1,.int .i64 x.1,.int .u64 x_2] w2 fun(x:Int) w2=>True/\av w2 (some ⟨b_1,0,none⟩) [.int .u64 0,.int .i64 x] fun w2=>aj w2 fun w1=>ag w1 none (some ⟨b_1,0,none⟩) (.agg [.int .u64,.int .i64]) fun(x:Int×Int×Unit)=>Post (x.1,x.2.1,Unit.unit) w1)):=by kernel_rfl
theorem Db (p:Option Addr) (v k a b c:Int) (w:World) (Post:RS->World->Prop):(bM V0 (fun _=>[]) 97 [.pointer p,.int .i64 v,.agg ⟨[.int .i64 k,.int .u64 a,.int .u64 b,.int .u64 c]⟩] w Post)=(
 aA w ⟨[.int .i64 k,.int .u64 a,.int .u64 b,.int .u64 c]⟩ 31 fun b w2=>aA w2 ⟨[.int .u64 0,.int .i64 0]⟩ 35 fun b_1 w2=>true=true/\ag w2 none (af (some ⟨b,0,none⟩) 2) (.one (.int .u64)) fun(x:Int)=> ∃(x_1:Int),ah Tryz.prog 163 [.pointer p,.int .i64 v,.int .u64 x] w2 (.int .i64 x_1)/\true=true/\ag w2 none (af (some ⟨b,0,none⟩) 1) (.one (.int .u64)) fun(x:Int)=>aB (decide (x>=65536)) (True/\av w2 (some ⟨b_1,0,none⟩) [.int .u64 0,.int .i64 2] fun w2=>aj w2 fun w1=>ag w1 none (some ⟨b_1,0,none⟩) (.agg [.int .u64,.int .i64]) fun(x:
 Int×Int×Unit)=>Post (x.1,x.2.1,Unit.unit) w1) (((!x_1==1)=true->true=true)/\ag w2 (some !x_1==1) (af (some ⟨b,0,none⟩) 3) (.one (.int .u64)) fun(x:Int)=>aB (x_1==1||decide (x>1)) (True/\av w2 (some ⟨b_1,0,none⟩) [.int .u64 0,.int .i64 1] fun w2=>aj w2 fun w1=>ag w1 none (some ⟨b_1,0,none⟩) (.agg [.int .u64,.int .i64]) fun(x:Int×Int×Unit)=>Post (x.1,x.2.1,Unit.unit) w1) (true=true/\ag w2 none (af (some ⟨b,0,none⟩) 1) (.one (.int .u64)) fun(x:Int)=>az Tryz.prog 15 (.bq [.one (.int .i64),.one (.int .i64),.one (.int
 .i64)]) [.pointer p,.int .i64 v,.int .i64 (ax .i64 x)] w2 fun(x:Int×Int×Int×Unit) w2=>aB (x.2.2.1 != 0||x_1 != 0) (True/\av w2 (some ⟨b_1,0,none⟩) [.int .u64 0,.int .i64 4] fun w2=>aj w2 fun w1=>ag w1 none (some ⟨b_1,0,none⟩) (.agg [.int .u64,.int .i64]) fun(x:Int×Int×Unit)=>Post (x.1,x.2.1,Unit.unit) w1) (true=true/\ag w2 none (af (some ⟨b,0,none⟩) 1) (.one (.int .u64)) fun(x:Int)=> ∃(x_2:Int×Bool×Unit),ah Tryz.prog 22 [.pointer p,.int .i64 v,.int .i64 (ax .i64 x)] w2 (.tuple ⟨[.int .i64 x_2.1,.bool x_2.2.1]⟩)/\aB
 x_2.2.1 (True/\av w2 (some ⟨b_1,0,none⟩) [.int .u64 0,.int .i64 7] fun w2=>aj w2 fun w1=>ag w1 none (some ⟨b_1,0,none⟩) (.agg [.int .u64,.int .i64]) fun(x:Int×Int×Unit)=>Post (x.1,x.2.1,Unit.unit) w1) (p.isSome=true/\p.isSome=true/\ag w2 none (af p 2) (.one .ptr) fun x=>true=true/\ag w2 none (af (some ⟨b,0,none⟩) 1) (.one (.int .u64)) fun(x_3:Int)=>true=true/\ag w2 none (af (some ⟨b,0,none⟩) 2) (.one (.int .u64)) fun(x_4:Int)=>true=true/\ag w2 none (af (some ⟨b,0,none⟩) 3) (.one (.int .u64)) fun(x_5:Int)=>az Tryz.prog
 164 (.bq [.one (.int .i64),.one (.int .i64)]) [.pointer x,.int .i64 v,.int .i64 (ax .i64 x_3),.int .i64 (ax .i64 x_4),.bool (x_5==1)] w2 fun(x:Int×Int×Unit) w2=>av w2 (some ⟨b_1,0,none⟩) [.int .u64 (ax .u64 x.1),.int .i64 x.2.1] fun w2=>aj w2 fun w1=>ag w1 none (some ⟨b_1,0,none⟩) (.agg [.int .u64,.int .i64]) fun(x:Int×Int×Unit)=>Post (x.1,x.2.1,Unit.unit) w1))))):=by kernel_rfl
theorem GO (p:Option Addr) (v k a b c:Int) (w:World) (Post:RS->World->Prop):(bM V0 (fun _=>[]) 98 [.pointer p,.int .i64 v,.agg ⟨[.int .i64 k,.int .u64 a,.int .u64 b,.int .u64 c]⟩] w Post)=(
 aA w ⟨[.int .i64 k,.int .u64 a,.int .u64 b,.int .u64 c]⟩ 31 fun b w2=>aA w2 ⟨[.int .u64 0,.int .i64 0]⟩ 35 fun b_1 w2=>true=true/\ag w2 none (af (some ⟨b,0,none⟩) 2) (.one (.int .u64)) fun(x:Int)=>aB (decide (x>=65536)) (True/\av w2 (some ⟨b_1,0,none⟩) [.int .u64 0,.int .i64 2] fun w2=>aj w2 fun w1=>ag w1 none (some ⟨b_1,0,none⟩) (.agg [.int .u64,.int .i64]) fun(x:Int×Int×Unit)=>Post (x.1,x.2.1,Unit.unit) w1) (true=true/\ag w2 none (af (some ⟨b,0,none⟩) 1) (.one (.int .u64)) fun(x:Int)=>((!decide (x>=16))=true->true=true)/\
 ag w2 (some !decide (x>=16)) (af (some ⟨b,0,none⟩) 3) (.one (.int .u64)) fun(x_1:Int)=>aB (decide (x>=16)||decide (x_1>1)) (True/\av w2 (some ⟨b_1,0,none⟩) [.int .u64 0,.int .i64 1] fun w2=>aj w2 fun w1=>ag w1 none (some ⟨b_1,0,none⟩) (.agg [.int .u64,.int .i64]) fun(x:Int×Int×Unit)=>Post (x.1,x.2.1,Unit.unit) w1) (true=true/\ag w2 none (af (some ⟨b,0,none⟩) 1) (.one (.int .u64)) fun(x:Int)=>true=true/\ag w2 none (af (some ⟨b,0,none⟩) 2) (.one (.int .u64)) fun(x_2:Int)=>true=true/\ag w2 none (af (some ⟨b,0,none⟩) 3)
 (.one (.int .u64)) fun(x_3:Int)=>p.isSome=true/\p.isSome=true/\ag w2 none (af p 2) (.one .ptr) fun x_4=> ∃(x_5:(Int×Int×Int×Bool×Int×Unit)×Bool×Unit),ah Tryz.prog 159 [.pointer x_4,.int .i64 (ax .i64 x)] w2 (.tuple {toList:=[.agg ⟨[.int .i64 x_5.1.1,.int .i64 x_5.1.2.1,.int .i64 x_5.1.2.2.1,.bool x_5.1.2.2.2.1,.int .i64 x_5.1.2.2.2.2.1]⟩,.bool x_5.2.1]})/\aA w2 ⟨[.int .i64 0,.int .i64 0,.int .i64 0,.bool false,.int .i64 0]⟩ 185 fun b w2=>av w2 (some ⟨b,0,none⟩) [.int .i64 x_5.1.1,.int .i64 x_5.1.2.1,.int .i64 x_5.1.2.2.1,.bool
 x_5.1.2.2.2.1,.int .i64 x_5.1.2.2.2.2.1] fun w2=>aB (!x_5.2.1) (True/\av w2 (some ⟨b_1,0,none⟩) [.int .u64 0,.int .i64 4] fun w2=>aj w2 fun w1=>ag w1 none (some ⟨b_1,0,none⟩) (.agg [.int .u64,.int .i64]) fun(x:Int×Int×Unit)=>Post (x.1,x.2.1,Unit.unit) w1) (true=true/\ag w2 none (af (some ⟨b,0,none⟩) 2) (.one (.int .i64)) fun(x_6:Int)=>((!x_6 != v&&x_3==1)=true->true=true)/\ag w2 (some (!x_6 != v&&x_3==1)) (af (some ⟨b,0,none⟩) 3) (.one .bool) fun x_7=>aB (x_6 != v||x_3==1&& !x_7) (True/\av w2 (some ⟨b_1,0,none⟩) [.int
 .u64 0,.int .i64 7] fun w2=>aj w2 fun w1=>ag w1 none (some ⟨b_1,0,none⟩) (.agg [.int .u64,.int .i64]) fun(x:Int×Int×Unit)=>Post (x.1,x.2.1,Unit.unit) w1) (true=true/\ag w2 none (af (some ⟨b,0,none⟩) 0) (.one (.int .i64)) fun(x_8:Int)=>true=true/\ag w2 none (af (some ⟨b,0,none⟩) 1) (.one (.int .i64)) fun(x_9:Int)=>az Tryz.prog 15 (.bq [.one (.int .i64),.one (.int .i64),.one (.int .i64)]) [.pointer p,.int .i64 x_8,.int .i64 x_9] w2 fun(x_10:Int×Int×Int×Unit) w2=>aB (x_10.2.2.1 != 0) (True/\av w2 (some ⟨b_1,0,none⟩) [.int .u64
 0,.int .i64 4] fun w2=>aj w2 fun w1=>ag w1 none (some ⟨b_1,0,none⟩) (.agg [.int .u64,.int .i64]) fun(x:Int×Int×Unit)=>Post (x.1,x.2.1,Unit.unit) w1) (true=true/\ag w2 none (af (some ⟨b,0,none⟩) 0) (.one (.int .i64)) fun(x_11:Int)=>true=true/\ag w2 none (af (some ⟨b,0,none⟩) 1) (.one (.int .i64)) fun(x_12:Int)=> ∃(x_13:Int×Bool×Unit),ah Tryz.prog 22 [.pointer p,.int .i64 x_11,.int .i64 x_12] w2 (.tuple ⟨[.int .i64 x_13.1,.bool x_13.2.1]⟩)/\aB x_13.2.1 (True/\av w2 (some ⟨b_1,0,none⟩) [.int .u64 0,.int .i64 7] fun w2=>aj w2
 fun w1=>ag w1 none (some ⟨b_1,0,none⟩) (.agg [.int .u64,.int .i64]) fun(x:Int×Int×Unit)=>Post (x.1,x.2.1,Unit.unit) w1) (p.isSome=true/\p.isSome=true/\ag w2 none (af p 2) (.one .ptr) fun x_14=>az Tryz.prog 165 (.el (.one (.int .i64))) [.pointer x_14,.int .i64 (ax .i64 x),.int .i64 v,.bool (x_3==1)] w2 fun(x_15:Int) w2=>aB (x_15 != 0) (True/\av w2 (some ⟨b_1,0,none⟩) [.int .u64 0,.int .i64 x_15] fun w2=>aj w2 fun w1=>ag w1 none (some ⟨b_1,0,none⟩) (.agg [.int .u64,.int .i64]) fun(x:Int×Int×Unit)=>Post (x.1,x.2.1,Unit.unit) w1)
 (aB (x_3==1) (p.isSome=true/\p.isSome=true/\((af p 4).isSome=true/\0<=v/\v<(↑17:Int))/\ag w2 none (af (af p 4) (v.toNat*1)) (.one .ptr) fun x_16=>x_16.isSome=true/\x_16.isSome=true/\ag w2 none (af x_16 0) (.one .ptr) fun x_17=>az Tryz.prog 156 (.el (.one (.int .i64))) [.pointer x_17,.int .i64 (ax .i64 x_2),.int .i64 x_10.1,.int .i64 (PM .i64 1 2)] w2 fun(x_18:Int) w2=>aB (x_18 != 0) (p.isSome=true/\p.isSome=true/\ag w2 none (af p 2) (.one .ptr) fun x_19=>az Tryz.prog 166 (.el (.one (.int .i64))) [.pointer x_19,.int .i64
 (ax .i64 x),.int .i64 v] w2 fun(x:Int) w2=>True/\av w2 (some ⟨b_1,0,none⟩) [.int .u64 0,.int .i64 x_18] fun w2=>aj w2 fun w1=>ag w1 none (some ⟨b_1,0,none⟩) (.agg [.int .u64,.int .i64]) fun(x:Int×Int×Unit)=>Post (x.1,x.2.1,Unit.unit) w1) (p.isSome=true/\p.isSome=true/\ag w2 none (af p 1) (.one .ptr) fun x_19=>az Tryz.prog 167 (.el (.one (.int .i64))) [.pointer x_19,.int .i64 x_10.1,.int .i64 1] w2 fun(x_20:Int) w2=>p.isSome=true/\p.isSome=true/\((af p 4).isSome=true/\0<=v/\v<(↑17:Int))/\ag w2 none (af (af p 4)
 (v.toNat*1)) (.one .ptr) fun x_21=>x_21.isSome=true/\x_21.isSome=true/\ag w2 none (af x_21 1) (.one .map) fun x_22=> ∀w1,Ext w2 w1-> ∃(r:Nat), ∃(es:Array MapEntry), ∃(clock:Nat),x_22=some r/\bA w1 r es clock/\gL w1 r .i64 (ax .i64 x_2) (.agg ⟨[.int .i64 (ax .i64 x),.int .i64 x_10.1]⟩) es clock fun w2=>av w2 (some ⟨b_1,0,none⟩) [.int .u64 0,.int .i64 0] fun w2=>aj w2 fun w1=>ag w1 none (some ⟨b_1,0,none⟩) (.agg [.int .u64,.int .i64]) fun(x:Int×Int×Unit)=>Post (x.1,x.2.1,Unit.unit) w1)) (p.isSome=true/\p.isSome=true/\((af
 p 4).isSome=true/\0<=v/\v<(↑17:Int))/\ag w2 none (af (af p 4) (v.toNat*1)) (.one .ptr) fun x_16=>x_16.isSome=true/\x_16.isSome=true/\ag w2 none (af x_16 0) (.one .ptr) fun x_17=>az Tryz.prog 156 (.el (.one (.int .i64))) [.pointer x_17,.int .i64 (ax .i64 x_2),.int .i64 x_10.1,.int .i64 1] w2 fun(x_18:Int) w2=>aB (x_18 != 0) (p.isSome=true/\p.isSome=true/\ag w2 none (af p 2) (.one .ptr) fun x_19=>az Tryz.prog 166 (.el (.one (.int .i64))) [.pointer x_19,.int .i64 (ax .i64 x),.int .i64 v] w2 fun(x:Int) w2=>True/\av w2 (some ⟨b_1,
 0,none⟩) [.int .u64 0,.int .i64 x_18] fun w2=>aj w2 fun w1=>ag w1 none (some ⟨b_1,0,none⟩) (.agg [.int .u64,.int .i64]) fun(x:Int×Int×Unit)=>Post (x.1,x.2.1,Unit.unit) w1) (p.isSome=true/\p.isSome=true/\ag w2 none (af p 1) (.one .ptr) fun x_19=>az Tryz.prog 167 (.el (.one (.int .i64))) [.pointer x_19,.int .i64 x_10.1,.int .i64 1] w2 fun(x_20:Int) w2=>p.isSome=true/\p.isSome=true/\((af p 4).isSome=true/\0<=v/\v<(↑17:Int))/\ag w2 none (af (af p 4) (v.toNat*1)) (.one .ptr) fun x_21=>x_21.isSome=true/\x_21.isSome=true/\ag
 w2 none (af x_21 1) (.one .map) fun x_22=> ∀w1,Ext w2 w1-> ∃(r:Nat), ∃(es:Array MapEntry), ∃(clock:Nat),x_22=some r/\bA w1 r es clock/\gL w1 r .i64 (ax .i64 x_2) (.agg ⟨[.int .i64 (ax .i64 x),.int .i64 x_10.1]⟩) es clock fun w2=>av w2 (some ⟨b_1,0,none⟩) [.int .u64 0,.int .i64 0] fun w2=>aj w2 fun w1=>ag w1 none (some ⟨b_1,0,none⟩) (.agg [.int .u64,.int .i64]) fun(x:Int×Int×Unit)=>Post (x.1,x.2.1,Unit.unit) w1)))))))))):=by kernel_rfl
theorem GP (p:Option Addr) (v k a b c:Int) (w:World) (Post:RS->World->Prop):(bM V0 (fun _=>[]) 99 [.pointer p,.int .i64 v,.agg ⟨[.int .i64 k,.int .u64 a,.int .u64 b,.int .u64 c]⟩] w Post)=(
 aA w ⟨[.int .i64 k,.int .u64 a,.int .u64 b,.int .u64 c]⟩ 31 fun b w2=>aA w2 ⟨[.int .u64 0,.int .i64 0]⟩ 35 fun b_1 w2=>true=true/\ag w2 none (af (some ⟨b,0,none⟩) 1) (.one (.int .u64)) fun(x:Int)=>aB (decide (x>=65536)) (True/\av w2 (some ⟨b_1,0,none⟩) [.int .u64 0,.int .i64 2] fun w2=>aj w2 fun w1=>ag w1 none (some ⟨b_1,0,none⟩) (.agg [.int .u64,.int .i64]) fun(x:Int×Int×Unit)=>Post (x.1,x.2.1,Unit.unit) w1) (true=true/\ag w2 none (af (some ⟨b,0,none⟩) 1) (.one (.int .u64)) fun(x:Int)=> ∃(x_1:Int×Bool×Unit),ah
 Tryz.prog 22 [.pointer p,.int .i64 v,.int .i64 (ax .i64 x)] w2 (.tuple ⟨[.int .i64 x_1.1,.bool x_1.2.1]⟩)/\aB (!x_1.2.1) (True/\av w2 (some ⟨b_1,0,none⟩) [.int .u64 0,.int .i64 4] fun w2=>aj w2 fun w1=>ag w1 none (some ⟨b_1,0,none⟩) (.agg [.int .u64,.int .i64]) fun(x:Int×Int×Unit)=>Post (x.1,x.2.1,Unit.unit) w1) (true=true/\ag w2 none (af (some ⟨b,0,none⟩) 1) (.one (.int .u64)) fun(x:Int)=>az Tryz.prog 150 (.bq []) [.pointer p,.int .i64 v,.int .i64 (ax .i64 x)] w2 fun x w2=>av w2 (some ⟨b_1,0,none⟩) [.int .u64 0,.int .i64 0] fun w2=>
 aj w2 fun w1=>ag w1 none (some ⟨b_1,0,none⟩) (.agg [.int .u64,.int .i64]) fun(x:Int×Int×Unit)=>Post (x.1,x.2.1,Unit.unit) w1))):=by kernel_rfl
theorem Bw (p:Option Addr) (v k a b c:Int) (w:World) (Post:RS->World->Prop):(bM V0 (fun _=>[]) 100 [.pointer p,.int .i64 v,.agg ⟨[.int .i64 k,.int .u64 a,.int .u64 b,.int .u64 c]⟩] w Post)=(
 aA w ⟨[.int .i64 k,.int .u64 a,.int .u64 b,.int .u64 c]⟩ 31 fun b w2=>aA w2 ⟨[.int .u64 0,.int .i64 0]⟩ 35 fun b_1 w2=>true=true/\ag w2 none (af (some ⟨b,0,none⟩) 1) (.one (.int .u64)) fun(x:Int)=>aB (decide (x>=16)) (True/\av w2 (some ⟨b_1,0,none⟩) [.int .u64 0,.int .i64 1] fun w2=>aj w2 fun w1=>ag w1 none (some ⟨b_1,0,none⟩) (.agg [.int .u64,.int .i64]) fun(x:Int×Int×Unit)=>Post (x.1,x.2.1,Unit.unit) w1) (p.isSome=true/\p.isSome=true/\ag w2 none (af p 2) (.one .ptr) fun x=>true=true/\ag w2 none (af (some ⟨b,0,none⟩) 1)
 (.one (.int .u64)) fun(x_1:Int)=>az Tryz.prog 168 (.el (.one (.int .i64))) [.pointer x,.int .i64 (ax .i64 x_1),.int .i64 v] w2 fun(x:Int) w2=>True/\av w2 (some ⟨b_1,0,none⟩) [.int .u64 0,.int .i64 x] fun w2=>aj w2 fun w1=>ag w1 none (some ⟨b_1,0,none⟩) (.agg [.int .u64,.int .i64]) fun(x:Int×Int×Unit)=>Post (x.1,x.2.1,Unit.unit) w1)):=by kernel_rfl
theorem GQ (p:Option Addr) (v k a b c:Int) (w:World) (Post:RS->World->Prop):(bM V0 (fun _=>[]) 101 [.pointer p,.int .i64 v,.agg ⟨[.int .i64 k,.int .u64 a,.int .u64 b,.int .u64 c]⟩] w Post)=(
 aA w ⟨[.int .i64 k,.int .u64 a,.int .u64 b,.int .u64 c]⟩ 31 fun b w2=>aA w2 ⟨[.int .u64 0,.int .i64 0]⟩ 35 fun b_1 w2=>true=true/\ag w2 none (af (some ⟨b,0,none⟩) 1) (.one (.int .u64)) fun(x:Int)=> ∃(x_1:Int),ah Tryz.prog 163 [.pointer p,.int .i64 v,.int .u64 x] w2 (.int .i64 x_1)/\aB (x_1 != 0) (True/\av w2 (some ⟨b_1,0,none⟩) [.int .u64 0,.int .i64 x_1] fun w2=>aj w2 fun w1=>ag w1 none (some ⟨b_1,0,none⟩) (.agg [.int .u64,.int .i64]) fun(x:Int×Int×Unit)=>Post (x.1,x.2.1,Unit.unit) w1) (p.isSome=true/\p.isSome=true/\ag w2
 none (af p 3) (.one .ptr) fun x=>true=true/\ag w2 none (af (some ⟨b,0,none⟩) 1) (.one (.int .u64)) fun(x_2:Int)=>az Tryz.prog 169 (.bq [.one (.int .i64),.one (.int .i64)]) [.pointer x,.int .i64 v,.int .i64 (ax .i64 x_2)] w2 fun(x:Int×Int×Unit) w2=>av w2 (some ⟨b_1,0,none⟩) [.int .u64 (ax .u64 x.1),.int .i64 x.2.1] fun w2=>aj w2 fun w1=>ag w1 none (some ⟨b_1,0,none⟩) (.agg [.int .u64,.int .i64]) fun(x:Int×Int×Unit)=>Post (x.1,x.2.1,Unit.unit) w1)):=by kernel_rfl
theorem GR (p:Option Addr) (v k a b c:Int) (w:World) (Post:RS->World->Prop):(bM V0 (fun _=>[]) 102 [.pointer p,.int .i64 v,.agg ⟨[.int .i64 k,.int .u64 a,.int .u64 b,.int .u64 c]⟩] w Post)=(
 aA w ⟨[.int .i64 k,.int .u64 a,.int .u64 b,.int .u64 c]⟩ 31 fun b w2=>aA w2 ⟨[.int .u64 0,.int .i64 0]⟩ 35 fun b_1 w2=>true=true/\ag w2 none (af (some ⟨b,0,none⟩) 1) (.one (.int .u64)) fun(x:Int)=> ∃(x_1:Int),ah Tryz.prog 163 [.pointer p,.int .i64 v,.int .u64 x] w2 (.int .i64 x_1)/\((!x_1==1)=true->true=true)/\ag w2 (some !x_1==1) (af (some ⟨b,0,none⟩) 2) (.one (.int .u64)) fun(x:Int)=>aB (x_1==1||decide (x>=4)) (True/\av w2 (some ⟨b_1,0,none⟩) [.int .u64 0,.int .i64 1] fun w2=>aj w2 fun w1=>ag w1 none (some ⟨b_1,0,
 none⟩) (.agg [.int .u64,.int .i64]) fun(x:Int×Int×Unit)=>Post (x.1,x.2.1,Unit.unit) w1) (aB (x_1 != 0) (True/\av w2 (some ⟨b_1,0,none⟩) [.int .u64 0,.int .i64 x_1] fun w2=>aj w2 fun w1=>ag w1 none (some ⟨b_1,0,none⟩) (.agg [.int .u64,.int .i64]) fun(x:Int×Int×Unit)=>Post (x.1,x.2.1,Unit.unit) w1) (p.isSome=true/\p.isSome=true/\ag w2 none (af p 3) (.one .ptr) fun x=>true=true/\ag w2 none (af (some ⟨b,0,none⟩) 1) (.one (.int .u64)) fun(x_2:Int)=>true=true/\ag w2 none (af (some ⟨b,0,none⟩) 2) (.one (.int .u64)) fun(x_3:Int)
 =>az Tryz.prog 170 (.bq [.one (.int .i64),.one (.int .i64)]) [.pointer x,.int .i64 v,.int .i64 (ax .i64 x_2),.int .i64 (ax .i64 x_3)] w2 fun(x:Int×Int×Unit) w2=>av w2 (some ⟨b_1,0,none⟩) [.int .u64 (ax .u64 x.1),.int .i64 x.2.1] fun w2=>aj w2 fun w1=>ag w1 none (some ⟨b_1,0,none⟩) (.agg [.int .u64,.int .i64]) fun(x:Int×Int×Unit)=>Post (x.1,x.2.1,Unit.unit) w1))):=by kernel_rfl
theorem GU (p:Option Addr) (v k a b c:Int) (w:World) (Post:RS->World->Prop):(bM V0 (fun _=>[]) 103 [.pointer p,.int .i64 v,.agg ⟨[.int .i64 k,.int .u64 a,.int .u64 b,.int .u64 c]⟩] w Post)=(
 aA w ⟨[.int .i64 k,.int .u64 a,.int .u64 b,.int .u64 c]⟩ 31 fun b w2=>aA w2 ⟨[.int .u64 0,.int .i64 0]⟩ 35 fun b_1 w2=>true=true/\ag w2 none (af (some ⟨b,0,none⟩) 1) (.one (.int .u64)) fun(x:Int)=>aB (decide (x>=4)) (True/\av w2 (some ⟨b_1,0,none⟩) [.int .u64 0,.int .i64 1] fun w2=>aj w2 fun w1=>ag w1 none (some ⟨b_1,0,none⟩) (.agg [.int .u64,.int .i64]) fun(x:Int×Int×Unit)=>Post (x.1,x.2.1,Unit.unit) w1) (p.isSome=true/\p.isSome=true/\ag w2 none (af p 3) (.one .ptr) fun x=>true=true/\ag w2 none (af (some ⟨b,0,none⟩) 1)
 (.one (.int .u64)) fun(x_1:Int)=>az Tryz.prog 171 (.el (.one (.int .i64))) [.pointer x,.int .i64 v,.int .i64 (ax .i64 x_1)] w2 fun(x:Int) w2=>True/\av w2 (some ⟨b_1,0,none⟩) [.int .u64 0,.int .i64 x] fun w2=>aj w2 fun w1=>ag w1 none (some ⟨b_1,0,none⟩) (.agg [.int .u64,.int .i64]) fun(x:Int×Int×Unit)=>Post (x.1,x.2.1,Unit.unit) w1)):=by kernel_rfl
theorem GW (p:Option Addr) (v k a b c:Int) (w:World) (Post:RS->World->Prop):(bM V0 (fun _=>[]) 104 [.pointer p,.int .i64 v,.agg ⟨[.int .i64 k,.int .u64 a,.int .u64 b,.int .u64 c]⟩] w Post)=(
 aA w ⟨[.int .i64 k,.int .u64 a,.int .u64 b,.int .u64 c]⟩ 31 fun b w2=>aA w2 ⟨[.int .u64 0,.int .i64 0]⟩ 35 fun b w2=>p.isSome=true/\p.isSome=true/\ag w2 none (af p 3) (.one .ptr) fun x=>az Tryz.prog 172 (.bq [.one (.int .i64),.one .bool]) [.pointer x,.int .i64 v] w2 fun(x:Int×Bool×Unit) w2=>aB (!x.2.1) (av w2 (some ⟨b,0,none⟩) [.int .u64 0,.int .i64 0] fun w2=>aj w2 fun w1=>ag w1 none (some ⟨b,0,none⟩) (.agg [.int .u64,.int .i64]) fun(x:Int×Int×Unit)=>Post (x.1,x.2.1,Unit.unit) w1) (av w2 (some ⟨b,0,none⟩) [.int .u64 (ax .u64
 (au .i64 x.1 1)),.int .i64 0] fun w2=>aj w2 fun w1=>ag w1 none (some ⟨b,0,none⟩) (.agg [.int .u64,.int .i64]) fun(x:Int×Int×Unit)=>Post (x.1,x.2.1,Unit.unit) w1)):=by kernel_rfl
theorem Dc (p:Option Addr) (v k a b c:Int) (w:World) (Post:RS->World->Prop):(bM V0 (fun _=>[]) 105 [.pointer p,.int .i64 v,.agg ⟨[.int .i64 k,.int .u64 a,.int .u64 b,.int .u64 c]⟩] w Post)=(
 aA w ⟨[.int .i64 k,.int .u64 a,.int .u64 b,.int .u64 c]⟩ 31 fun b w2=>aA w2 ⟨[.int .u64 0,.int .i64 0]⟩ 35 fun b_1 w2=>true=true/\ag w2 none (af (some ⟨b,0,none⟩) 1) (.one (.int .u64)) fun(x:Int)=>aB (decide (x>=4)) (True/\av w2 (some ⟨b_1,0,none⟩) [.int .u64 0,.int .i64 1] fun w2=>aj w2 fun w1=>ag w1 none (some ⟨b_1,0,none⟩) (.agg [.int .u64,.int .i64]) fun(x:Int×Int×Unit)=>Post (x.1,x.2.1,Unit.unit) w1) (p.isSome=true/\p.isSome=true/\ag w2 none (af p 3) (.one .ptr) fun x=>true=true/\ag w2 none (af (some ⟨b,0,none⟩) 1)
 (.one (.int .u64)) fun(x_1:Int)=>az Tryz.prog 173 (.el (.one (.int .i64))) [.pointer x,.int .i64 v,.int .i64 (ax .i64 x_1)] w2 fun(x:Int) w2=>True/\av w2 (some ⟨b_1,0,none⟩) [.int .u64 0,.int .i64 x] fun w2=>aj w2 fun w1=>ag w1 none (some ⟨b_1,0,none⟩) (.agg [.int .u64,.int .i64]) fun(x:Int×Int×Unit)=>Post (x.1,x.2.1,Unit.unit) w1)):=by kernel_rfl
theorem JC (p:Option Addr) (v k a b c:Int) (w:World) (Post:RS->World->Prop):(bM V1 (fun _=>[]) 14 [.pointer p,.int .i64 v,.agg ⟨[.int .i64 k,.int .u64 a,.int .u64 b,.int .u64 c]⟩] w Post)=(
 aA w ⟨[.int .i64 k,.int .u64 a,.int .u64 b,.int .u64 c]⟩ 31 fun b w2=>aA w2 ⟨[.int .u64 0,.int .i64 0]⟩ 35 fun b_1 w2=> ∃x,ah Tryz.prog 47 [.pointer p] w2 (.bool x)/\aB (!x) (True/\av w2 (some ⟨b_1,0,none⟩) [.int .u64 0,.int .i64 10] fun w2=>aj w2 fun w1=>ag w1 none (some ⟨b_1,0,none⟩) (.agg [.int .u64,.int .i64]) fun(x:Int×Int×Unit)=>Post (x.1,x.2.1,Unit.unit) w1) (ag w2 (some !(decide (v<0)||decide (v>16))) (some ⟨b,0,none⟩) (.agg [.int .i64,.int .u64,.int .u64,.int .u64]) fun(x:Int×Int×Int×Int×Unit)=> ∃x_1,((!(decide (v<
 0)||decide (v>16)))=true->ah Tryz.prog 40 [.agg ⟨[.int .i64 x.1,.int .u64 x.2.1,.int .u64 x.2.2.1,.int .u64 x.2.2.2.1]⟩] w2 (.bool x_1))/\aB (decide (v<0)||decide (v>16)|| !x_1) (True/\av w2 (some ⟨b_1,0,none⟩) [.int .u64 0,.int .i64 1] fun w2=>aj w2 fun w1=>ag w1 none (some ⟨b_1,0,none⟩) (.agg [.int .u64,.int .i64]) fun(x:Int×Int×Unit)=>Post (x.1,x.2.1,Unit.unit) w1) (true=true/\ag w2 none (af (some ⟨b,0,none⟩) 0) (.one (.int .i64)) fun(x:Int)=> ∃x_2,ah Tryz.prog 49 [.int .i64 x] w2 (.bool x_2)/\aB (!(v==0)==x_2) (True/\
 av w2 (some ⟨b_1,0,none⟩) [.int .u64 0,.int .i64 7] fun w2=>aj w2 fun w1=>ag w1 none (some ⟨b_1,0,none⟩) (.agg [.int .u64,.int .i64]) fun(x:Int×Int×Unit)=>Post (x.1,x.2.1,Unit.unit) w1) (∃x,(decide (v>0)=true->ah Tryz.prog 16 [.pointer p,.int .i64 v] w2 (.bool x))/\aB (decide (v>0)&& !x) (True/\av w2 (some ⟨b_1,0,none⟩) [.int .u64 0,.int .i64 4] fun w2=>aj w2 fun w1=>ag w1 none (some ⟨b_1,0,none⟩) (.agg [.int .u64,.int .i64]) fun(x:Int×Int×Unit)=>Post (x.1,x.2.1,Unit.unit) w1) (true=true/\ag w2 none (af (some ⟨b,0,
 none⟩) 0) (.one (.int .i64)) fun(x:Int)=>ag w2 none (some ⟨b,0,none⟩) (.agg [.int .i64,.int .u64,.int .u64,.int .u64]) fun(x_3:Int×Int×Int×Int×Unit)=>(az Tryz.prog 50 (.el (.one .map)) [] w2 fun x_4 w2=>cg w2 (some ⟨b,0,none⟩) (.agg [.int .i64,.int .u64,.int .u64,.int .u64]) x_3/\cg w2 (af (some ⟨b,0,none⟩) 0) (.one (.int .i64)) x/\True/\ ∃(x_5:Value),mm w2 x_4 .i64 x Value.nilFunc x_5/\(BE Tryz.prog x_5 (.el (.agg [.int .u64,.int .i64])) [.pointer p,.int .i64 v,.agg ⟨[.int .i64 x_3.1,.int .u64 x_3.2.1,.int .u64 x_3.2.2.1,.int .u64
 x_3.2.2.2.1]⟩] w2 fun(x:Int×Int×Unit) w2=>aA w2 ⟨[.int .u64 0,.int .i64 0]⟩ 35 fun b w2=>av w2 (some ⟨b,0,none⟩) [.int .u64 x.1,.int .i64 x.2.1] fun w2=>true=true/\ag w2 none (af (some ⟨b,0,none⟩) 1) (.one (.int .i64)) fun(x:Int)=>aB (x != 0) (true=true/\ag w2 none (af (some ⟨b,0,none⟩) 1) (.one (.int .i64)) fun(x:Int)=>True/\av w2 (some ⟨b_1,0,none⟩) [.int .u64 0,.int .i64 x] fun w2=>aj w2 fun w1=>ag w1 none (some ⟨b_1,0,none⟩) (.agg [.int .u64,.int .i64]) fun(x:Int×Int×Unit)=>Post (x.1,x.2.1,Unit.unit) w1) (ag w2 none
 (some ⟨b,0,none⟩) (.agg [.int .u64,.int .i64]) fun(x:Int×Int×Unit)=>av w2 (some ⟨b_1,0,none⟩) [.int .u64 x.1,.int .i64 x.2.1] fun w2=>aj w2 fun w1=>ag w1 none (some ⟨b_1,0,none⟩) (.agg [.int .u64,.int .i64]) fun(x:Int×Int×Unit)=>Post (x.1,x.2.1,Unit.unit) w1))/\aA w2 ⟨[.int .u64 0,.int .i64 0]⟩ 35 fun b w2=>BE Tryz.prog x_5 (.el (.agg [.int .u64,.int .i64])) [.pointer p,.int .i64 v,.agg ⟨[.int .i64 x_3.1,.int .u64 x_3.2.1,.int .u64 x_3.2.2.1,.int .u64 x_3.2.2.2.1]⟩] w2 fun(x:Int×Int×Unit) w2=>av w2 (some ⟨b,0,none⟩) [.int .u64 x.1,
 .int .i64 x.2.1] fun w2=>true=true/\ag w2 none (af (some ⟨b,0,none⟩) 1) (.one (.int .i64)) fun(x:Int)=>aB (x != 0) (true=true/\ag w2 none (af (some ⟨b,0,none⟩) 1) (.one (.int .i64)) fun(x:Int)=>True/\av w2 (some ⟨b_1,0,none⟩) [.int .u64 0,.int .i64 x] fun w2=>aj w2 fun w1=>ag w1 none (some ⟨b_1,0,none⟩) (.agg [.int .u64,.int .i64]) fun(x:Int×Int×Unit)=>Post (x.1,x.2.1,Unit.unit) w1) (ag w2 none (some ⟨b,0,none⟩) (.agg [.int .u64,.int .i64]) fun(x:Int×Int×Unit)=>av w2 (some ⟨b_1,0,none⟩) [.int .u64 x.1,.int .i64 x.2.1] fun
 w2=>aj w2 fun w1=>ag w1 none (some ⟨b_1,0,none⟩) (.agg [.int .u64,.int .i64]) fun(x:Int×Int×Unit)=>Post (x.1,x.2.1,Unit.unit) w1))/\aA w2 ⟨[.int .u64 0,.int .i64 0]⟩ 35 fun b_2 w2=>az Tryz.prog 50 (.el (.one .map)) [] w2 fun x_4 w2=>cg w2 (some ⟨b,0,none⟩) (.agg [.int .i64,.int .u64,.int .u64,.int .u64]) x_3/\cg w2 (af (some ⟨b,0,none⟩) 0) (.one (.int .i64)) x/\True/\ ∃(x_5:Value),mm w2 x_4 .i64 x Value.nilFunc x_5/\BE Tryz.prog x_5 (.el (.agg [.int .u64,.int .i64])) [.pointer p,.int .i64 v,.agg ⟨[.int .i64 x_3.1,.int .u64 x_3.2.1,.int
 .u64 x_3.2.2.1,.int .u64 x_3.2.2.2.1]⟩] w2 fun(x:Int×Int×Unit) w2=>av w2 (some ⟨b_2,0,none⟩) [.int .u64 x.1,.int .i64 x.2.1] fun w2=>true=true/\ag w2 none (af (some ⟨b_2,0,none⟩) 1) (.one (.int .i64)) fun(x:Int)=>aB (x != 0) (true=true/\ag w2 none (af (some ⟨b_2,0,none⟩) 1) (.one (.int .i64)) fun(x:Int)=>True/\av w2 (some ⟨b_1,0,none⟩) [.int .u64 0,.int .i64 x] fun w2=>aj w2 fun w1=>ag w1 none (some ⟨b_1,0,none⟩) (.agg [.int .u64,.int .i64]) fun(x:Int×Int×Unit)=>Post (x.1,x.2.1,Unit.unit) w1) (ag w2 none (some ⟨b_2,0,
 none⟩) (.agg [.int .u64,.int .i64]) fun(x:Int×Int×Unit)=>av w2 (some ⟨b_1,0,none⟩) [.int .u64 x.1,.int .i64 x.2.1] fun w2=>aj w2 fun w1=>ag w1 none (some ⟨b_1,0,none⟩) (.agg [.int .u64,.int .i64]) fun(x:Int×Int×Unit)=>Post (x.1,x.2.1,Unit.unit) w1)))))):=by kernel_rfl
theorem wg (p:Option Addr) (a b:Int) (w:World) (Post:Bool->World->Prop):(aH V2 (fun _=>[]) 17 [.pointer p,.int .i64 a,.int .i64 b] w Post)=(
 aA w ⟨[.pointer p]⟩ 23 fun b_1 w2=>ag w2 none (some ⟨b_1,0,none⟩) (.one .ptr) fun x=> ∃x_1,ah Tryz.prog 47 [.pointer x] w2 (.bool x_1)/\aB (!x_1||decide (a<1)||decide (a>16)||decide (b<1)||decide (b>16)) (aj w2 fun w1=>Post false w1) (aA w2 {toList:=[.bool false,.bool false,.bool false,.bool false,.bool false,.bool false,.bool false,.bool false,.bool false,.bool false,.bool false,.bool false,.bool false,.bool false,.bool false,.bool false,.bool false]} 115 fun b_2 w2=>aA w2 ⟨[Value.nilFunc]⟩ 116 fun sN w2=>av w2 (some ⟨sN,0,
 none⟩) [.func (.func 52) ⟨[]⟩ {toList:=[.pointer (some ⟨b_2,0,none⟩),.pointer (some ⟨b_1,0,none⟩),.pointer (some ⟨sN,0,none⟩)]}] fun w2=>ag w2 none (some ⟨sN,0,none⟩) (.one (.rN 52 3)) fun x=>az Tryz.prog 52 (.bq []) [.int .i64 a,.pointer x.1,.pointer x.2.1,.pointer x.2.2.1] w2 fun x w2=>(true=true/\0<=b/\b<(↑17:Int))/\ag w2 none (af (some ⟨b_2,0,none⟩) (b.toNat*1)) (.one .bool) fun x=>aj w2 fun w1=>Post x w1)):=by kernel_rfl
def mG:Nat->aQ:=(fun|2=>[(5,Go.RX.El.one (Go.RX.Sc.int Go.IntKind.i64))]| _=>[])
theorem Bx (n:Int) (c d e:Option Addr) (w:World) (Post:Unit->World->Prop):(aH V2 mG 52 [.int .i64 n,.pointer c,.pointer d,.pointer e] w Post)=(
 (c.isSome=true/\0<=n/\n<(↑17:Int))/\av w (af c (n.toNat*1)) [.bool true] fun w2=> ∃(I:Nat->Int×Unit->World->Prop),(∃n, ∀w1,Ext w2 w1->I n (1,Unit.unit) w1)/\ ∀(n_1:Nat) (s:Int×Unit) (w1:World),I n_1 s w1->aB (decide (s.1<=16)) ((c.isSome=true/\0<=s.1/\s.1<(↑17:Int))/\ag w1 none (af c (Int.toNat s.1*1)) (.one .bool) fun x=>ag w1 (some !x) d (.one .ptr) fun x_1=>((!x)=true->x_1.isSome=true)/\((!x)=true->x_1.isSome=true)/\ag w1 (some !x) (af x_1 2) (.one .ptr) fun x_2=> ∃x_3,((!x)=true->ah Tryz.prog 53
 [.pointer x_2,.int .i64 n,.int .i64 s.1] w1 (.bool x_3))/\ag w1 (some (!x&& !x_3)) d (.one .ptr) fun x_4=>((!x&& !x_3)=true->x_4.isSome=true)/\((!x&& !x_3)=true->x_4.isSome=true)/\ag w1 (some (!x&& !x_3)) (af x_4 3) (.one .ptr) fun x_5=> ∃x_6,((!x&& !x_3)=true->ah Tryz.prog 54 [.pointer x_5,.int .i64 n,.int .i64 s.1] w1 (.bool x_6))/\aB (!x&&(x_3||x_6)) (ag w1 none e (.one (.rN 52 3)) fun x=>az Tryz.prog 52 (.bq []) [.int .i64 s.1,.pointer x.1,.pointer x.2.1,.pointer x.2.2.1] w1 fun x w2=> ∀w3,Ext w2 w3-> ∃(n':Nat),n'<n_1/\I n'
 (au .i64 s.1 1,Unit.unit) w3) (∀w3,Ext w1 w3-> ∃(n':Nat),n'<n_1/\I n' (au .i64 s.1 1,Unit.unit) w3)) (aj w1 fun w1=>Post Unit.unit w1)):=by kernel_rfl
end Go.Proofs.YtdnoecpjcoibmaaGreat
