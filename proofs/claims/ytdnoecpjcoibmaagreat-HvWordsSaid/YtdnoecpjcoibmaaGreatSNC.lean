import Derived.Test.YtdnoecpjcoibmaaGreatSNB
/-! What the statement leans on: texts joined and shortened by a program of mine. -/
set_option linter.unusedVariables false
set_option linter.unusedSimpArgs false
namespace Go.Proofs.YtdnoecpjcoibmaaGreat.Po
set_option maxRecDepth 100000
open Go.RX
noncomputable def R1:dD Tryz.prog:={R0 with qc:=[RA,NT],quiet:=[113,115,217,248,219,194,195]}
theorem KR (p:Option Addr) (w:World) (Post:Bool->World->Prop):(aH R1 (fun _=>[]) 113 [.pointer p] w Post)=(
 ((!p.isNone)=true->p.isSome=true)/\((!p.isNone)=true->p.isSome=true)/\ag w (some !p.isNone) (af p 2560) (.one (.int .i64)) fun(x:Int)=>aj w fun w1=>Post (!p.isNone&&decide (x>0)) w1):=by kernel_rfl
theorem IW (p:Option Addr) (g i:Int) (w:World) (Post:Option Addr->World->Prop):(aH R1 (fun _=>[]) 115 [.pointer p,.int .i64 g,.int .i64 i] w Post)=(
 ∃x,ah Tryz.prog 113 [.pointer p] w (.bool x)/\((!!x)=true->True)/\((!(!x|| !gI g||decide (i<0)))=true->p.isSome=true)/\((!(!x|| !gI g||decide (i<0)))=true->p.isSome=true)/\ag w (some !(!x|| !gI g||decide (i<0))) (af p 2560) (.one (.int .i64)) fun(x_1:Int)=>aB (!x|| !gI g||decide (i<0)||decide (i>=x_1)) (aj w fun w1=>Post none w1) (p.isSome=true/\p.isSome=true/\((af p 0).isSome=true/\0<=bL .i64 g 1/\bL .i64 g 1<(↑16:Int))/\((af (af p 0) ((bL .i64 g 1).toNat*160)).isSome=true/\0<=i/\i<(↑32:Int))/\
 (af (af (af p 0) ((bL .i64 g 1).toNat*160)) (i.toNat*5)).isSome=true/\ag w none (af (af (af p 0) ((bL .i64 g 1).toNat*160)) (i.toNat*5)) (.agg [.int .i64,.int .i64,.int .i64,.bool,.bool]) fun(x:Int×Int×Int×Bool×Bool×Unit)=>aB (x.1==0&&(x.2.1==0&&(x.2.2.1==0&&(x.2.2.2.1==false&&(x.2.2.2.2.1==false&&true))))) (aj w fun w1=>Post none w1) (aj w fun w1=>Post (af (af (af p 0) ((bL .i64 g 1).toNat*160)) (i.toNat*5)) w1))):=by kernel_rfl
def rC:Nat->aQ:=(fun|2=>[(10,Go.RX.El.one (Go.RX.Sc.int Go.IntKind.i64))]| _=>[])
theorem KS (p:Option Addr) (g:Int) (w:World) (Post:Int->World->Prop):(aH R1 rC 248 [.pointer p,.int .i64 g] w Post)=(
 p.isSome=true/\p.isSome=true/\ag w none (af p 2560) (.one (.int .i64)) fun(x:Int)=> ∃(I:Nat->Int×Unit->World->Prop),(∃n, ∀w1,Ext w w1->I n (0,Unit.unit) w1)/\ ∀(n:Nat) (s:Int×Unit) (w1:World),I n s w1->aB (decide (s.1<x)) (∃(x:Option Addr),ah Tryz.prog 115 [.pointer p,.int .i64 g,.int .i64 s.1] w1 (.pointer x)/\aB x.isNone (aj w1 fun w1=>Post s.1 w1) (∀w3,Ext w1 w3-> ∃(n':Nat),n'<n/\I n' (au .i64 s.1 1,Unit.unit) w3)) (aj w1 fun w1=>Post (-1) w1)):=by kernel_rfl
theorem RB (p:Option Addr) (g r:Int) (w:World) (Post:Int->World->Prop):(aH R1 (fun _=>[]) 217 [.pointer p,.int .i64 g,.int .i64 r] w Post)=(
 ∃x,ah Tryz.prog 113 [.pointer p] w (.bool x)/\aB (!x) (aj w fun w1=>Post 10 w1) (True/\((!!gI g)=true->True)/\aB (!gI g|| !gI r||g==r) (aj w fun w1=>Post 1 w1) (aj w fun w1=>Post 0 w1))):=by kernel_rfl
theorem NU (p:Option Addr) (w:World) (Post:Int->World->Prop):(aH R1 (fun _=>[]) 219 [.pointer p] w Post)=(
 ∃x,ah Tryz.prog 113 [.pointer p] w (.bool x)/\aB (!x) (aj w fun w1=>Post 10 w1) (aj w fun w1=>Post 4 w1)):=by kernel_rfl
theorem RC (p:Option Addr) (g:Int) (x1 x2 x3:Int) (x4 x5:Bool) (w:World) (Post:Int×Int×Unit->World->Prop):(aH R1 (fun _=>[]) 218 [.pointer p,.int .i64 g,.agg ⟨[.int .i64 x1,.int .i64 x2,.int .i64 x3,.bool x4,.bool x5]⟩] w Post)=(
 aA w ⟨[.int .i64 x1,.int .i64 x2,.int .i64 x3,.bool x4,.bool x5]⟩ 171 fun b w2=> ∃(x:Int),ah Tryz.prog 248 [.pointer p,.int .i64 g] w2 (.int .i64 x)/\aB (x== -1) (aj w2 fun w1=>Post (0,3,Unit.unit) w1) (ag w2 none (some ⟨b,0,none⟩) (.agg [.int .i64,.int .i64,.int .i64,.bool,.bool]) fun(x_1:Int×Int×Int×Bool×Bool×Unit)=>p.isSome=true/\p.isSome=true/\((af p 0).isSome=true/\0<=bL .i64 g 1/\bL .i64 g 1<(↑16:Int))/\((af (af p 0) ((bL .i64 g 1).toNat*160)).isSome=true/\0<=x/\x<(↑32:Int))/\av w2 (af (af (af p
 0) ((bL .i64 g 1).toNat*160)) (x.toNat*5)) [.int .i64 x_1.1,.int .i64 x_1.2.1,.int .i64 x_1.2.2.1,.bool x_1.2.2.2.1,.bool x_1.2.2.2.2.1] fun w2=>aj w2 fun w1=>Post (x,0,Unit.unit) w1)):=by kernel_rfl
theorem KT (p:Option Addr) (g r:Int) (w:World) (Post:Int×Int×Unit->World->Prop):(aH R1 (fun _=>[]) 169 [.pointer p,.int .i64 g,.int .i64 r] w Post)=(
 ∃(x:Int),ah Tryz.prog 217 [.pointer p,.int .i64 g,.int .i64 r] w (.int .i64 x)/\aB (x != 0) (aj w fun w1=>Post (0,x,Unit.unit) w1) (az Tryz.prog 218 (.bq [.one (.int .i64),.one (.int .i64)]) [.pointer p,.int .i64 g,.agg ⟨[.int .i64 1,.int .i64 r,.int .i64 0,.bool false,.bool false]⟩] w fun(x:Int×Int×Unit) w2=>aj w2 fun w1=>Post (x.1,x.2.1,Unit.unit) w1)):=by kernel_rfl
theorem KU (p:Option Addr) (g r i:Int) (w:World) (Post:Int×Int×Unit->World->Prop):(aH R1 (fun _=>[]) 170 [.pointer p,.int .i64 g,.int .i64 r,.int .i64 i] w Post)=(
 ∃(x:Int),ah Tryz.prog 217 [.pointer p,.int .i64 g,.int .i64 r] w (.int .i64 x)/\aB (x != 0) (aj w fun w1=>Post (0,x,Unit.unit) w1) (∃(x:Option Addr),ah Tryz.prog 115 [.pointer p,.int .i64 r,.int .i64 i] w (.pointer x)/\aB x.isNone (aj w fun w1=>Post (0,4,Unit.unit) w1) (x.isSome=true/\x.isSome=true/\ag w none (af x 0) (.one (.int .i64)) fun(x_1:Int)=>aB (x_1==2) (aj w fun w1=>Post (0,6,Unit.unit) w1) (x.isSome=true/\x.isSome=true/\ag w none (af x 1) (.one (.int .i64)) fun(x_2:Int)=>aB (x_2 != g) (aj w fun w1=>Post (0,
 7,Unit.unit) w1) (az Tryz.prog 218 (.bq [.one (.int .i64),.one (.int .i64)]) [.pointer p,.int .i64 g,.agg ⟨[.int .i64 2,.int .i64 r,.int .i64 i,.bool false,.bool false]⟩] w fun(x_3:Int×Int×Unit) w2=>aB (x_3.2.1==0) (x.isSome=true/\x.isSome=true/\av w2 (af x 0) [.int .i64 2] fun w2=>x.isSome=true/\x.isSome=true/\av w2 (af x 2) [.int .i64 x_3.1] fun w2=>aj w2 fun w1=>Post (x_3.1,x_3.2.1,Unit.unit) w1) (aj w2 fun w1=>Post (x_3.1,x_3.2.1,Unit.unit) w1)))))):=by kernel_rfl
theorem KV (p:Option Addr) (g i:Int) (w:World) (Post:Int->World->Prop):(aH R1 (fun _=>[]) 171 [.pointer p,.int .i64 g,.int .i64 i] w Post)=(
 ∃(x:Option Addr),ah Tryz.prog 115 [.pointer p,.int .i64 g,.int .i64 i] w (.pointer x)/\aB x.isNone (∃(x:Int),ah Tryz.prog 219 [.pointer p] w (.int .i64 x)/\aj w fun w1=>Post x w1) (x.isSome=true/\x.isSome=true/\ag w none (af x 0) (.one (.int .i64)) fun(x_1:Int)=>aB (x_1 != 2) (aj w fun w1=>Post 6 w1) (x.isSome=true/\x.isSome=true/\ag w none (af x 1) (.one (.int .i64)) fun(x_2:Int)=>x.isSome=true/\x.isSome=true/\ag w none (af x 2) (.one (.int .i64)) fun(x:Int)=> ∃(x_3:Option Addr),ah Tryz.prog 115 [.pointer p,.int
 .i64 x_2,.int .i64 x] w (.pointer x_3)/\x_3.isSome=true/\x_3.isSome=true/\av w (af x_3 3) [.bool true] fun w2=>aj w2 fun w1=>Post 0 w1))):=by kernel_rfl
def rD:Nat->aQ:=(fun|5=>[(5,Go.RX.El.one Go.RX.Sc.slice),(15,Go.RX.El.one (Go.RX.Sc.int Go.IntKind.i64))]| _=>[])
theorem KW (p:Option Addr) (g:Int) (w:World) (Post:Option Addr×Nat×Nat->World->Prop):(aH R1 rD 220 [.pointer p,.int .i64 g] w Post)=(
 ∃x,ah Tryz.prog 113 [.pointer p] w (.bool x)/\aB (!x) (aj w fun w1=>Post (none,0,0) w1) (p.isSome=true/\p.isSome=true/\ag w none (af p 2560) (.one (.int .i64)) fun(x:Int)=> ∃(I:Nat->(Option Addr×Nat×Nat)×Int×Unit->World->Prop),(∃n, ∀w1,Ext w w1->I n ((none,0,0),0,Unit.unit) w1)/\ ∀(n:Nat) (s:(Option Addr×Nat×Nat)×Int×Unit) (w1:World),I n s w1->aB (decide (s.2.1<x)) (∃(x:Option Addr),ah Tryz.prog 115 [.pointer p,.int .i64 g,.int .i64 s.2.1] w1 (.pointer x)/\((!x.isNone)=true->x.isSome=true)/\((!x.isNone)=
 true->x.isSome=true)/\ag w1 (some !x.isNone) (af x 3) (.one .bool) fun x_1=>((!x.isNone&&x_1)=true->x.isSome=true)/\((!x.isNone&&x_1)=true->x.isSome=true)/\ag w1 (some (!x.isNone&&x_1)) (af x 4) (.one .bool) fun x_2=>aB (!x.isNone&&x_1&& !x_2) (aA w1 ⟨[.int .i64 s.2.1]⟩ 3 fun b w2=> ∀w1,Ext w2 w1->tV w1 3 1 8 ⟨[.int .i64 0]⟩ (s.1.1,s.1.2.1,s.1.2.2) (some ⟨b,0,none⟩,1,1) fun(r:Option Addr×Nat×Nat) w2=> ∀w3,Ext w2 w3-> ∃(n':Nat),n'<n/\I n' ((r.1,r.2.1,r.2.2),au .i64 s.2.1 1,Unit.unit) w3) (∀w3,Ext w1 w3-> ∃(n':Nat),n'
 <n/\I n' ((s.1.1,s.1.2.1,s.1.2.2),au .i64 s.2.1 1,Unit.unit) w3)) (aj w1 fun w1=>Post (s.1.1,s.1.2.1,s.1.2.2) w1))):=by kernel_rfl
theorem KX (p:Option Addr) (g:Int) (w:World) (Post:Int×Bool×Unit->World->Prop):(aH R1 (fun _=>[]) 172 [.pointer p,.int .i64 g] w Post)=(
 az Tryz.prog 220 (.el (.one .slice)) [.pointer p,.int .i64 g] w fun x w2=>aB ((↑x.2.1:Int)==0) (aj w2 fun w1=>Post (0,false,Unit.unit) w1) ((x.1.isSome=true/\(0:Int)<=0/\0<(↑x.2.1:Int))/\ag w2 none (af x.1 0) (.one (.int .i64)) fun(x_1:Int)=> ∃(x_2:Option Addr),ah Tryz.prog 115 [.pointer p,.int .i64 g,.int .i64 x_1] w2 (.pointer x_2)/\x_2.isSome=true/\x_2.isSome=true/\av w2 (af x_2 3) [.bool false] fun w2=>(x.1.isSome=true/\(0:Int)<=0/\0<(↑x.2.1:Int))/\ag w2 none (af x.1 0) (.one (.int .i64)) fun(x:Int)=>aj w2 fun w1
 =>Post (x,true,Unit.unit) w1)):=by kernel_rfl
theorem FZ (p:Option Addr) (g i:Int) (w:World) (Post:Int->World->Prop):(aH R1 (fun _=>[]) 173 [.pointer p,.int .i64 g,.int .i64 i] w Post)=(
 ∃(x:Option Addr),ah Tryz.prog 115 [.pointer p,.int .i64 g,.int .i64 i] w (.pointer x)/\aB x.isNone (∃(x:Int),ah Tryz.prog 219 [.pointer p] w (.int .i64 x)/\aj w fun w1=>Post x w1) (x.isSome=true/\x.isSome=true/\ag w none (af x 0) (.one (.int .i64)) fun(x_1:Int)=>aB (x_1==2) (x.isSome=true/\x.isSome=true/\ag w none (af x 1) (.one (.int .i64)) fun(x_2:Int)=>x.isSome=true/\x.isSome=true/\ag w none (af x 2) (.one (.int .i64)) fun(x_3:Int)=> ∃(x_4:Option Addr),ah Tryz.prog 115 [.pointer p,.int .i64 x_2,.int .i64 x_3] w
 (.pointer x_4)/\x_4.isSome=true/\x_4.isSome=true/\av w (af x_4 0) [.int .i64 1] fun w2=>x_4.isSome=true/\x_4.isSome=true/\av w2 (af x_4 2) [.int .i64 0] fun w2=>x.isSome=true/\av w2 x [.int .i64 0,.int .i64 0,.int .i64 0,.bool false,.bool false] fun w2=>aj w2 fun w1=>Post 0 w1) (x.isSome=true/\av w x [.int .i64 0,.int .i64 0,.int .i64 0,.bool false,.bool false] fun w2=>aj w2 fun w1=>Post 0 w1))):=by kernel_rfl
def rE:Nat->aQ:=(fun|5=>[(5,Go.RX.El.one (Go.RX.Sc.int Go.IntKind.i64)),(22,Go.RX.El.one (Go.RX.Sc.int Go.IntKind.i64))]|11=>[(5,Go.RX.El.one (Go.RX.Sc.int Go.IntKind.i64)),(7,Go.RX.El.one (Go.RX.Sc.int Go.IntKind.i64))]|14=>[(5,Go.RX.El.one (Go.RX.Sc.int Go.IntKind.i64)),(41,Go.RX.El.one (Go.RX.Sc.int Go.IntKind.i64))]| _=>[])
theorem KY (p:Option Addr) (g:Int) (w:World) (Post:Int->World->Prop):(aH R1 rE 153 [.pointer p,.int .i64 g] w Post)=(
 ∃x,ah Tryz.prog 113 [.pointer p] w (.bool x)/\((!!x)=true->True)/\aB (!x|| !gI g) (aj w fun w1=>Post 0 w1) (p.isSome=true/\p.isSome=true/\ag w none (af p 2560) (.one (.int .i64)) fun(x:Int)=> ∃(I:Nat->Int×Int×Unit->World->Prop),(∃n, ∀w1,Ext w w1->I n (0,0,Unit.unit) w1)/\ ∀(n:Nat) (s:Int×Int×Unit) (w1:World),I n s w1->aB (decide (s.2.1<x)) (az Tryz.prog 173 (.el (.one (.int .i64))) [.pointer p,.int .i64 g,.int .i64 s.2.1] w1 fun(x:Int) w2=>aB (x==0) (∀w3,Ext w2 w3-> ∃(n':Nat),n'<n/\I n' (au .i64 s.1 1,au
 .i64 s.2.1 1,Unit.unit) w3) (∀w3,Ext w2 w3-> ∃(n':Nat),n'<n/\I n' (s.1,au .i64 s.2.1 1,Unit.unit) w3)) (∃(I:Nat->Int×Int×Unit->World->Prop),(∃n, ∀cQ,Ext w1 cQ->I n (s.1,1,Unit.unit) cQ)/\ ∀(n:Nat) (s:Int×Int×Unit) (w1:World),I n s w1->aB (decide (s.2.1<=16)) (p.isSome=true/\p.isSome=true/\ag w1 none (af p 2560) (.one (.int .i64)) fun(x:Int)=> ∃(oA:Nat->Int×Int×Unit->World->Prop),(∃n, ∀cQ,Ext w1 cQ->oA n (s.1,0,Unit.unit) cQ)/\ ∀(n_1:Nat) (s_1:Int×Int×Unit) (w1:World),oA n_1 s_1 w1->aB
 (decide (s_1.2.1<x)) (∃(x:Option Addr),ah Tryz.prog 115 [.pointer p,.int .i64 s.2.1,.int .i64 s_1.2.1] w1 (.pointer x)/\((!x.isNone)=true->x.isSome=true)/\((!x.isNone)=true->x.isSome=true)/\ag w1 (some !x.isNone) (af x 1) (.one (.int .i64)) fun(x_1:Int)=>aB (!x.isNone&&x_1==g) (x.isSome=true/\av w1 x [.int .i64 0,.int .i64 0,.int .i64 0,.bool false,.bool false] fun w2=> ∀w3,Ext w2 w3-> ∃(n':Nat),n'<n_1/\oA n' (au .i64 s_1.1 1,au .i64 s_1.2.1 1,Unit.unit) w3) (∀w3,Ext w1 w3-> ∃(n':Nat),n'<n_1/\oA n' (s_1.1,au .i64
 s_1.2.1 1,Unit.unit) w3)) (∀w3,Ext w1 w3-> ∃(n':Nat),n'<n/\I n' (s_1.1,au .i64 s.2.1 1,Unit.unit) w3)) (aj w1 fun w1=>Post s.1 w1)))):=by kernel_rfl
def nK:Nat->aQ:=(fun|6=>[(8,Go.RX.El.one Go.RX.Sc.bool)]|9=>[(8,Go.RX.El.one Go.RX.Sc.bool),(9,Go.RX.El.one (Go.RX.Sc.int Go.IntKind.i64))]|12=>[(8,Go.RX.El.one Go.RX.Sc.bool),(36,Go.RX.El.one (Go.RX.Sc.int Go.IntKind.i64))]| _=>[])
theorem CP (p:Option Addr) (a b:Int) (w:World) (Post:Bool->World->Prop):(aH R1 nK 54 [.pointer p,.int .i64 a,.int .i64 b] w Post)=(
 ∃x,ah Tryz.prog 113 [.pointer p] w (.bool x)/\((!!x)=true->True)/\((!(!x|| !gI a))=true->True)/\aB (!x|| !gI a|| !gI b) (aj w fun w1=>Post false w1) (aA w {toList:=[.bool false,.bool false,.bool false,.bool false,.bool false,.bool false,.bool false,.bool false,.bool false,.bool false,.bool false,.bool false,.bool false,.bool false,.bool false,.bool false,.bool false]} 115 fun b_1 w2=>(true=true/\0<=a/\a<(↑17:Int))/\av w2 (af (some ⟨b_1,0,none⟩) (a.toNat*1)) [.bool true] fun w2=> ∃(I:Nat->Bool×Unit->World->Prop),(∃n, ∀
 w1,Ext w2 w1->I n (true,Unit.unit) w1)/\ ∀(n:Nat) (s:Bool×Unit) (w1:World),I n s w1->aB s.1 (∃(oA:Nat->Bool×Int×Unit->World->Prop),(∃n, ∀cQ,Ext w1 cQ->oA n (false,1,Unit.unit) cQ)/\ ∀(n_1:Nat) (s:Bool×Int×Unit) (w1:World),oA n_1 s w1->aB (decide (s.2.1<=16)) (p.isSome=true/\p.isSome=true/\ag w1 none (af p 2560) (.one (.int .i64)) fun(x:Int)=> ∃(I:Nat->Bool×Int×Unit->World->Prop),(∃n, ∀cQ,Ext w1 cQ->I n (s.1,0,Unit.unit) cQ)/\ ∀(n:Nat) (s_1:Bool×Int×Unit) (w1:World),I n s_1 w1->aB (decide
 (s_1.2.1<x)) (∃(x:Option Addr),ah Tryz.prog 115 [.pointer p,.int .i64 s.2.1,.int .i64 s_1.2.1] w1 (.pointer x)/\((!x.isNone)=true->true=true/\0<=s.2.1/\s.2.1<(↑17:Int))/\ag w1 (some !x.isNone) (af (some ⟨b_1,0,none⟩) (Int.toNat s.2.1*1)) (.one .bool) fun x_1=>((!x.isNone)=true->x.isSome=true)/\((!x.isNone)=true->x.isSome=true)/\ag w1 (some !x.isNone) (af x 1) (.one (.int .i64)) fun(x_2:Int)=>((!x.isNone)=true->true=true/\0<=x_2/\x_2<(↑17:Int))/\ag w1 (some !x.isNone) (af (some ⟨b_1,0,none⟩) (x_2.toNat*1)) (.one .bool)
 fun x_3=>aB (!x.isNone&& !x_1==x_3) (x.isSome=true/\x.isSome=true/\ag w1 none (af x 1) (.one (.int .i64)) fun(x_4:Int)=>(true=true/\0<=s.2.1/\s.2.1<(↑17:Int))/\av w1 (af (some ⟨b_1,0,none⟩) (Int.toNat s.2.1*1)) [.bool true] fun w2=>cg w2 (af x 1) (.one (.int .i64)) x_4/\True/\True/\(true=true/\0<=x_4/\x_4<(↑17:Int))/\av w2 (af (some ⟨b_1,0,none⟩) (x_4.toNat*1)) [.bool true] fun w2=> ∀w3,Ext w2 w3-> ∃(n':Nat),n'<n/\I n' (true,au .i64 s_1.2.1 1,Unit.unit) w3) (∀w3,Ext w1 w3-> ∃(n':Nat),n'<n/\I n' (s_1.1,au
 .i64 s_1.2.1 1,Unit.unit) w3)) (∀w3,Ext w1 w3-> ∃(n':Nat),n'<n_1/\oA n' (s_1.1,au .i64 s.2.1 1,Unit.unit) w3)) (∀w3,Ext w1 w3-> ∃(n':Nat),n'<n/\I n' (s.1,Unit.unit) w3)) ((true=true/\0<=b/\b<(↑17:Int))/\ag w1 none (af (some ⟨b_1,0,none⟩) (b.toNat*1)) (.one .bool) fun x=>aj w1 fun w1=>Post x w1))):=by kernel_rfl
end Go.Proofs.YtdnoecpjcoibmaaGreat.Po
namespace Go.Proofs.YtdnoecpjcoibmaaGreat.Po
set_option maxRecDepth 100000
open Go.RX
theorem Eg {ss:List Sc} {xs:List (d_ ss)} {rest:List Value} {k f:Nat} {x:d_ ss} (hx:xs[k]? =some x) (hf:f<ss.length):(flat (.agg ss) xs++rest)[k*ss.length+f]? =(aP ss x)[f]? :=by
 induction xs generalizing k with
 |nil=>simp at hx
 |cons y ys ih=>
  cases k with
  |zero=>
   simp at hx
   subst hx
   have hl:f<(aP ss y).length:=by rw[bT];exact hf
   simp only[Nat.zero_mul,Nat.zero_add]
   show((aP ss y++flat (.agg ss) ys)++rest)[f]? = _
   rw[List.append_assoc,List.getElem?_append_left hl]
  |succ k=>
   have hx':ys[k]? =some x:=by simpa using hx
   show((aP ss y++flat (.agg ss) ys)++rest)[(k+1)*ss.length+f]? = _
   rw[List.append_assoc,List.getElem?_append_right (by rw[bT,Nat.add_mul];omega),bT,Nat.add_mul]
   rw[show k*ss.length+1*ss.length+f - ss.length=k*ss.length+f by omega]
   exact ih hx'
theorem xQ {ss:List Sc} {xs:List (d_ ss)} {rest:List Value} {k f:Nat} {x y:d_ ss} {v:Value} (hx:xs[k]? =some x) (hf:f<ss.length) (hy:aP ss y=(aP ss x).set f v):(flat (.agg ss) xs++rest).set (k*ss.length+f) v=flat (.agg ss) (xs.set k y)++rest:=by
 induction xs generalizing k with
 |nil=>simp at hx
 |cons z zs ih=>
  cases k with
  |zero=>
   simp at hx
   subst hx
   have hl:f<(aP ss z).length:=by rw[bT];exact hf
   simp only[Nat.zero_mul,Nat.zero_add]
   show((aP ss z++flat (.agg ss) zs)++rest).set f v=(aP ss y++flat (.agg ss) zs)++rest
   rw[List.append_assoc,List.set_append_left _ _ hl,hy,List.append_assoc]
  |succ k=>
   have hx':zs[k]? =some x:=by simpa using hx
   show((aP ss z++flat (.agg ss) zs)++rest).set ((k+1)*ss.length+f) v=(aP ss z++flat (.agg ss) (zs.set k y))++rest
   rw[List.append_assoc,List.set_append_right _ _ (by rw[bT,Nat.add_mul];omega),bT,Nat.add_mul]
   rw[show k*ss.length+1*ss.length+f - ss.length=k*ss.length+f by omega,ih hx',List.append_assoc]
abbrev fL (room:Int) (ps:List PT):List Value:=flat eQ ps++[.int .i64 room]
def ix (g i:Int):Nat:=(g - 1).toNat*32+i.toNat
def mO (room g i:Int):Bool:=gI g&&(decide (0<=i)&&decide (i<room))
def mH (room:Int) (ps:List PT) (g i:Int):Option Nat:=if mO room g i=true/\ps.getD (ix g i) zP≠zP then some (ix g i) else none
structure okS (room:Int) (ps:List PT):Prop where
 len:ps.length=512
 lo:1<=room
 hi:room<=32
theorem iU {g:Int}:gI g=true<->1<=g/\g<=16:=by unfold gI;simp
theorem bZ {room g i:Int}:mO room g i=true<->(1<=g/\g<=16)/\0<=i/\i<room:=by unfold mO;rw[Bool.and_eq_true,iU];simp
theorem mu {room g i:Int} (h:mO room g i=true) (hr:room<=32):ix g i<512:=by
 rw[bZ] at h;unfold ix;omega
theorem Jt {room g i g' i':Int} (h:mO room g i=true) (h':mO room g' i'=true) (hr:room<=32) (e:ix g i=ix g' i'):g=g'/\i=i':=by
 rw[bZ] at h h';unfold ix at e;omega
theorem okS.get {room:Int} {ps:List PT} (h:okS room ps) {k:Nat} (hk:k<512):ps[k]? =some (ps.getD k zP):=by
 rw[List.getD_eq_getElem?_getD,List.getElem?_eq_getElem (by rw[h.len];exact hk)];rfl
theorem okS.set {room:Int} {ps:List PT} (h:okS room ps) (k:Nat) (x:PT):okS room (ps.set k x):=⟨by rw[List.length_set];exact h.len,h.lo,h.hi⟩
theorem eB {room:Int} {ps:List PT} {g i:Int} {k:Nat} (h:mH room ps g i=some k):mO room g i=true/\k=ix g i/\ps.getD k zP≠zP:=by
 unfold mH at h
 split at h
 ·rename_i c;cases h;exact⟨c.1,rfl,c.2⟩
 ·cases h
theorem lW {room:Int} {ps:List PT} (h:okS room ps):lI (fL room ps) (0+2560) (.one (.int .i64))=some room:=by
 have:(fL room ps)[2560]? =some (.int .i64 room):=by
  show(flat eQ ps++[Value.int .i64 room])[2560]? = _
  rw[List.getElem?_append_right (by rw[aG,h.len];decide),aG,h.len];rfl
 show(match (fL room ps)[0+2560]? with|some v=>(Sc.int .i64).proj v|none=>none)=some room
 rw[Nat.zero_add,this];rfl
theorem YZ (x:PT):(x.fst==0&&(x.snd.fst==0&&(x.snd.snd.fst==0&&(x.snd.snd.snd.fst==false&&(x.snd.snd.snd.snd.fst==false&&true)))))=decide (x=zP):=by
 obtain⟨a,b,c,d,e,u⟩:=x
 rw[Bool.eq_iff_iff]
 simp[zP]
theorem wJ {room:Int} {ps:List PT} {k f:Nat} {x:PT} (hx:ps[k]? =some x) (hf:f<5) {s:Sc} {y:s.T} (hy:(match (aP sQ x)[f]? with|some v=>s.proj v|none=>none)=some y):lI (fL room ps) (k*5+f) (.one s)=some y:=by
 show(match (fL room ps)[k*5+f]? with|some v=>s.proj v|none=>none)=some y
 have:=Eg (ss:=sQ) (rest:=[.int .i64 room]) hx (f:=f) hf
 rw[show(fL room ps)[k*5+f]? =(aP sQ x)[f]? from this];exact hy
section
variable {D G:List Nat} {w0 w:World} {L:List (Nat×List Value)}
theorem av.wJ (j:Nat) (H:aF D G w0 w L) {bp k f:Nat} {room:Int} {ps:List PT} {x:PT} (y:PT) {v:Value} {K:World->Prop} (hL:L[j]? =some (bp,fL room ps)) (hx:ps[k]? =some x) (hf:f<5) (hv:v.oneCell'=true) (hy:aP sQ y=(aP sQ x).set f v)
 (hk: ∀w1,aF D G w0 w1 (L.set j (bp,fL room (ps.set k y)))->K w1):av w (af (some ⟨bp,k*5,none⟩) f) [v] K:=by
 refine av.dJ j H hL hv ?_ fun w1 h1=>hk w1 ?_
 ·rw[Nat.blt_eq]
  have hlt:k<ps.length:=(List.getElem?_eq_some_iff.1 hx).1
  have:(flat eQ ps).length=ps.length*5:=aG eQ ps
  rw[List.length_append,this]
  simp only[List.length_singleton]
  omega
 ·have e:(fL room ps).set (k*5+f) v=fL room (ps.set k y):=xQ (ss:=sQ) hx hf hy
  rw[e] at h1;exact h1
end
section
variable {w:World} {bp:Nat} {room:Int} {ps:List PT}
theorem k7 (h:aY w bp (fL room ps)) (hs:okS room ps):an Tryz.prog 113 (.el (.one .bool)) [.pointer (some ⟨bp,0,none⟩)] w (fun x w'=>x=true/\Ext w w'):=by
 refine ai (C:=R1) (aJ:=fun _=>[]) (Eq.mpr (KR _ w _) ?_)
 refine⟨fun _=>rfl,fun _=>rfl,ag.jd (At.start [] w) h (by simp) (lW hs) fun w1 h1=>⟨?_,h1⟩⟩
 have:=hs.lo
 simp;omega
def bP (bp:Nat) (room:Int) (ps:List PT) (g i:Int):Option Addr:=(mH room ps g i).map fun k=>⟨bp,k*5,none⟩
theorem xB (h:aY w bp (fL room ps)) (hs:okS room ps) (g i:Int):an Tryz.prog 115 (.el (.one .ptr)) [.pointer (some ⟨bp,0,none⟩),.int .i64 g,.int .i64 i] w (fun x w'=>x=bP bp room ps g i/\Ext w w'):=by
 refine ai (C:=R1) (aJ:=fun _=>[]) (Eq.mpr (IW _ g i w _) ?_)
 refine⟨true,ah.of (s:= .el (.one .bool)) fun w' h'=>k7 (h.ext h') hs,fun _=>trivial,fun _=>rfl,fun _=>rfl,ag.jd (At.start [] w) h (by simp) (lW hs) ?_⟩
 have hlo:=hs.lo
 have hhi:=hs.hi
 refine aa (fun c w1 h1=>⟨?_,h1⟩) (fun c=>?_)
 ·have hn: ¬ mO room g i=true:=by
   rw[bZ]
   intro hh
   have U_:gI g=true:=iU.2 hh.1
   rw[U_] at c
   simp at c
   omega
  unfold bP mH
  rw[if_neg (fun hc=>hn hc.1)];rfl
 ·have hin:mO room g i=true:=by
   rw[bZ, <-iU]
   cases U_:gI g with
   |false=>rw[U_] at c;simp at c
   |true=>rw[U_] at c;simp at c;exact⟨rfl,by omega,by omega⟩
  have WU:=bZ.1 hin
  have hk:=mu hin hhi
  have hx:=hs.get hk
  have es:bL .i64 g 1=g - 1:=bS (by omega) (by omega)
  rw[es]
  have ea:af (af (af (some ⟨bp,0,none⟩) 0) ((g - 1).toNat*160)) (i.toNat*5)=some ⟨bp,ix g i*5,none⟩:=by
   rw[aK,aK,aK]
   unfold ix
   congr 2
   omega
  have VM:af (af (some ⟨bp,0,none⟩) 0) ((g - 1).toNat*160)=some ⟨bp,0+0+(g - 1).toNat*160,none⟩:=by rw[aK,aK]
  rw[ea,VM]
  refine⟨rfl,rfl,⟨rfl,by omega,by omega⟩,⟨rfl,by omega,by omega⟩,rfl,ag.of (ps.getD (ix g i) zP) ?_ ?_⟩
  ·have:=ff (e:=eQ) (rest:=[.int .i64 room]) h hx
   rw[aK,Nat.zero_add] at this
   exact this
  ·rw[YZ]
   refine aa (fun c2 w1 h1=>⟨?_,h1⟩) (fun c2 w1 h1=>⟨?_,h1⟩)
   ·unfold bP mH
    rw[if_neg (fun hc=>hc.2 (of_decide_eq_true c2))];rfl
   ·unfold bP mH
    rw[if_pos ⟨hin,of_decide_eq_false c2⟩];rfl
def oD (g r:Int):Int:=if !gI g|| !gI r||g==r then 1 else 0
theorem RD (h:aY w bp (fL room ps)) (hs:okS room ps) (g r:Int):an Tryz.prog 217 (.el (.one (.int .i64))) [.pointer (some ⟨bp,0,none⟩),.int .i64 g,.int .i64 r] w (fun x w'=>x=oD g r/\Ext w w'):=by
 refine ai (C:=R1) (aJ:=fun _=>[]) (Eq.mpr (RB _ g r w _) ?_)
 refine⟨true,ah.of (s:= .el (.one .bool)) fun w' h'=>k7 (h.ext h') hs,ak rfl ⟨trivial,fun _=>trivial,aa (fun c w1 h1=>⟨?_,h1⟩) (fun c w1 h1=>⟨?_,h1⟩)⟩⟩
 ·unfold oD;rw[if_pos c]
 ·unfold oD;rw[if_neg (by rw[c];decide)]
theorem NV (h:aY w bp (fL room ps)) (hs:okS room ps):an Tryz.prog 219 (.el (.one (.int .i64))) [.pointer (some ⟨bp,0,none⟩)] w (fun x w'=>x=4/\Ext w w'):=by
 refine ai (C:=R1) (aJ:=fun _=>[]) (Eq.mpr (NU _ w _) ?_)
 exact⟨true,ah.of (s:= .el (.one .bool)) fun w' h'=>k7 (h.ext h') hs,ak rfl fun w1 h1=>⟨rfl,h1⟩⟩
def bO (room:Int) (ps:List PT) (g:Int):Int:=match (List.range room.toNat).find? fun(i:Nat)=>(mH room ps g i).isNone with
 |some i=>(i:Int)
 |none=> -1
theorem KZ (h:aY w bp (fL room ps)) (hs:okS room ps) (g:Int):an Tryz.prog 248 (.el (.one (.int .i64))) [.pointer (some ⟨bp,0,none⟩),.int .i64 g] w (fun x w'=>x=bO room ps g/\Ext w w'):=by
 refine ai (C:=R1) (aJ:=rC) (Eq.mpr (KS _ g w _) ?_)
 have hlo:=hs.lo
 have hhi:=hs.hi
 refine⟨rfl,rfl,ag.jd (At.start [] w) h (by simp) (lW hs) ?_⟩
 refine⟨fun q s w'=> ∃i:Nat,s.1=i/\q+i=room.toNat/\(∀j:Nat,j<i->(mH room ps g j).isNone=false)/\Ext w w',⟨room.toNat,fun w1 h1=>⟨0,rfl,rfl,fun j hj=>absurd hj (by omega),h1⟩⟩,?_⟩
 rintro q ⟨i',u⟩ w1 ⟨i,hi,hq,hf,hw⟩
 simp only at hi
 subst hi
 dsimp only
 refine aa (fun c=>?_) (fun c w2 h2=>⟨?_,hw.trans h2⟩)
 ·have hlt:i<room.toNat:=by simp at c;omega
  refine⟨_,ah.of (s:= .el (.one .ptr)) fun w' h'=>xB ((h.ext hw).ext h') hs g i,aa (fun c2 w2 h2=>⟨?_,hw.trans h2⟩) (fun c2 w2 h2=>⟨q - 1,by omega,i+1,by rw[ar (by omega) (by omega)];rfl,by omega,fun j hj=>?_,hw.trans h2⟩)⟩
  ·have hn:(mH room ps g i).isNone=true:=by unfold bP at c2;simpa using c2
   have:(List.range room.toNat).find? (fun(i:Nat)=>(mH room ps g i).isNone)=some i:=by
    rw[List.find?_range_eq_some]
    exact⟨hn,List.mem_range.2 hlt,fun j hj=>by rw[hf j hj];rfl⟩
   unfold bO;rw[this]
  ·rcases Nat.lt_or_ge j i with h1|h1
   ·exact hf j h1
   ·obtain rfl:j=i:=by omega
    unfold bP at c2;simpa using c2
 ·have:(List.range room.toNat).find? (fun(i:Nat)=>(mH room ps g i).isNone)=none:=by
   rw[List.find?_eq_none]
   intro j hj
   have hi:i=room.toNat:=by simp at c;omega
   rw[hf j (by rw[hi];exact List.mem_range.1 hj)];decide
  unfold bO;rw[this]
theorem k8 {room:Int} {ps:List PT} {g:Int} (hg:gI g=true) (h:bO room ps g≠ -1):mO room g (bO room ps g)=true/\mH room ps g (bO room ps g)=none:=by
 unfold bO at h ⊢
 split at h
 ·rename_i i hi
  rw[List.find?_range_eq_some] at hi
  have:=List.mem_range.1 hi.2.1
  exact⟨bZ.2 ⟨iU.1 hg,by omega,by omega⟩,by simpa using hi.1⟩
 ·exact absurd rfl h
end
end Go.Proofs.YtdnoecpjcoibmaaGreat.Po
namespace Go.Proofs.YtdnoecpjcoibmaaGreat
set_option maxRecDepth 100000
open Go.RX
theorem wP {L Ls:List (Nat×List Value)} {k:Nat} {x:Nat×List Value} (h:L[k]? =some x):(L++Ls)[k]? =some x:=by
 rw[List.getElem?_append_left (List.getElem?_eq_some_iff.1 h).1];exact h
theorem sO.len {Ls:List (Nat×List Value)} {sl:Option Addr×Nat×Nat} {xs:List Int} (h:sO Ls sl xs):sl.2.1=xs.length:=by
 rcases h with ⟨rfl,rfl,rfl⟩|⟨bs,c,rest,rfl,rfl, _, _⟩
 ·rfl
 ·rfl
theorem sO.rd {D G:List Nat} {w0 w:World} {L Ls:List (Nat×List Value)} {sl:Option Addr×Nat×Nat} {xs:List Int} (h:sO Ls sl xs) (H:aF D G w0 w L) (hm: ∀y∈Ls,y∈L) {i:Nat} {x:Int} (hx:xs[i]? =some x):sl.1.isSome=true/\cg w (af sl.1 (i*1)) (.one (.int .i64)) x:=by
 rcases h with ⟨rfl,rfl,rfl⟩|⟨bs,c,rest,rfl,rfl, _, _⟩
 ·simp at hx
 ·exact⟨rfl,ff (e:=eI) (H.cY _ (hm _ List.mem_cons_self)) hx⟩
section
variable {D G:List Nat} {w0 w:World} {L:List (Nat×List Value)} {bg br c:Nat} {gs:List GT} {rest:List Value}
theorem Ck {Ls:List (Nat×List Value)} {b2:Nat} {x:Int} {xs:List Int} {sl:Option Addr×Nat×Nat} (H:aF D G w0 w ((b2,[.int .i64 x])::(L++Ls))) (hs:sO Ls sl xs) (hb:xs.length<=900000) {t:TypeId}
 {R:Option Addr×Nat×Nat->World->Prop} (k: ∀wZ SW w',sO wZ SW (xs++[x])->aF D G w0 w' (L++wZ)->R SW w'):
 tV w t 1 8 ⟨[.int .i64 0]⟩ sl (some ⟨b2,0,none⟩,1,1) R:=by
 refine aF.Uh (e:=eI) (ys:=[x]) (ry:=[]) (Ls:=Ls) (L0:=L) (H.perm (.cons _ List.perm_append_comm)) (by simp) hs rfl rfl rfl (by simp only[List.length_singleton];omega) fun bs c rest w' q1 q2 H3=>k [(bs,flat eI (xs++[x])++rest)] (some ⟨bs,0,none⟩,(xs++[x]).length,c) w' (.inr ⟨bs,c,rest,rfl,rfl,q1,q2⟩) (H3.perm ?_)
 exact List.perm_append_comm
theorem F1 (H:aF D G w0 w L) (j jr:Nat) (hm:L[j]? =some (bg,j_ br gs.length c)) (hw:L[jr]? =some (br,flat eG gs++rest)) (h0:0<gs.length) (hl:gs.length<=64) {K:Option Addr×Nat×Nat->World->Prop}
 (k: ∀sl Ls w2,sO Ls sl (cm gs dz gs.length)->aF D G w0 w2 (L++Ls)->K sl w2):
 az Tryz.prog 203 (.el (.one .slice)) [.pointer (some ⟨bg,0,none⟩),.func (.func 112) #[] #[]] w K:=by
 refine az.go H fun w1 H=>ai (C:=G3) (aJ:=oO) (Eq.mpr (FB _ w1 K) ?_)
 have hg: ∀{w:World} {L1:List (Nat×List Value)},aF D G w0 w (L++L1)->aY w bg (j_ br gs.length c)/\aY w br (flat eG gs++rest):=fun{w L1} H=>⟨H.get (wP hm),H.get (wP hw)⟩
 refine⟨_,k6 (H.get hm) h0,ak rfl ⟨rfl,rfl,ag.bP j H hm rfl ?_⟩⟩
 refine⟨fun n v w'=> ∃(m:Nat) (Ls:List (Nat×List Value)),v.2.1=(m:Int)/\n+m=gs.length/\sO Ls v.1 (cm gs dz m)/\aF D G w0 w' (L++Ls),⟨gs.length,fun w2 h2=>⟨0,[],rfl,rfl,.inl ⟨rfl,rfl,rfl⟩,by rw[List.append_nil];exact H.ext h2⟩⟩,?_⟩
 clear H
 rintro n ⟨sl,v,u⟩ w2 ⟨m,Ls,e,hn,hP,H⟩
 dsimp only at e hP ⊢
 subst e
 refine aa (fun cc=>?_) (fun cc=>?_)
 ·have hm':m<gs.length:=by simpa using cc
  have hx:gs[m]? =some (gs.getD m zG):=by
   rw[List.getD_eq_getElem?_getD,List.getElem?_eq_getElem hm'];rfl
  have yU:au .i64 (m:Int) 1=((m+1:Nat):Int):=by rw[ar (by omega) (by omega)];omega
  have ia:=pZ gs dz m
  obtain⟨x,sK⟩: ∃x,x=gs.getD m zG:=⟨_,rfl⟩
  rw[<-sK] at hx ia
  rw[yU]
  have hlen:=oh gs dz m
  refine⟨⟨rfl,by omega,by omega⟩,ag.of x (ff (e:=eG) (hg H).2 hx) (aA.go H fun b w3 H=>av.all 0 H rfl rfl rfl fun w4 H=>ag.at 0 H rfl (show _=some x from rfl) ?_)⟩
  refine⟨trivial,?_⟩
  refine aa (fun d=>aA.go H fun b2 w5 H=>fun w6 h6=>?_) (fun d=>fun w6 h6=>⟨n - 1,by omega,m+1,Ls,rfl,by omega,?_,?_⟩)
  ·have d:dz x=true:=d
   rw[if_pos d] at ia
   have H:=H.ext h6
   have H:aF D G w0 w6 ((b2,[.int .i64 (m:Int)])::(L++Ls)):=H.sub (.cons_cons _ (List.sublist_cons_self _ _))
   refine Ck H hP (by omega) fun wZ SW w7 HT H=>fun w8 h8=>⟨n - 1,by omega,m+1,wZ,rfl,by omega,?_,H.ext h8⟩
   rw[ia];exact HT
  ·have d: ¬ dz x=true:=by
    have d:dz x=false:=d
    rw[d];decide
   rw[ia,if_neg d,List.append_nil];exact hP
  ·exact(H.sub (List.sublist_cons_self _ _)).ext h6
 ·have hm':m=gs.length:=by
   have: ¬ m<gs.length:=by simpa using cc
   omega
  subst hm'
  exact aj.go H fun w3 H=>k sl Ls w3 hP H
theorem F2 (H:aF D G w0 w L) (j jr:Nat) (hm:L[j]? =some (bg,j_ br gs.length c)) (hw:L[jr]? =some (br,flat eG gs++rest)) (h0:0<gs.length) (hl:gs.length<=64) {bc:Nat} {o q t:Int} (hc:(bc,[Value.int .i64 o,.int .i64 q,.int .i64 t,.bool false,.int .i64 0])∈L) {K:Option Addr×Nat×Nat->World->Prop}
 (k: ∀sl Ls w2,sO Ls sl (cm gs (gB o q t) gs.length)->aF D G w0 w2 (L++Ls)->K sl w2):
 az Tryz.prog 203 (.el (.one .slice)) [.pointer (some ⟨bg,0,none⟩),.func (.func 214) #[] #[.pointer (some ⟨bc,0,none⟩)]] w K:=by
 refine az.go H fun w1 H=>ai (C:=G3) (aJ:=oP) (Eq.mpr (FC _ _ w1 K) ?_)
 have hg: ∀{w:World} {L1:List (Nat×List Value)},aF D G w0 w (L++L1)->aY w bg (j_ br gs.length c)/\aY w br (flat eG gs++rest):=fun{w L1} H=>⟨H.get (wP hm),H.get (wP hw)⟩
 refine⟨_,k6 (H.get hm) h0,ak rfl ⟨rfl,rfl,ag.bP j H hm rfl ?_⟩⟩
 refine⟨fun n v w'=> ∃(m:Nat) (Ls:List (Nat×List Value)),v.2.1=(m:Int)/\n+m=gs.length/\sO Ls v.1 (cm gs (gB o q t) m)/\aF D G w0 w' (L++Ls),⟨gs.length,fun w2 h2=>⟨0,[],rfl,rfl,.inl ⟨rfl,rfl,rfl⟩,by rw[List.append_nil];exact H.ext h2⟩⟩,?_⟩
 clear H
 rintro n ⟨sl,v,u⟩ w2 ⟨m,Ls,e,hn,hP,H⟩
 dsimp only at e hP ⊢
 subst e
 refine aa (fun cc=>?_) (fun cc=>?_)
 ·have hm':m<gs.length:=by simpa using cc
  have hx:gs[m]? =some (gs.getD m zG):=by
   rw[List.getD_eq_getElem?_getD,List.getElem?_eq_getElem hm'];rfl
  have yU:au .i64 (m:Int) 1=((m+1:Nat):Int):=by rw[ar (by omega) (by omega)];omega
  have ia:=pZ gs (gB o q t) m
  obtain⟨x,sK⟩: ∃x,x=gs.getD m zG:=⟨_,rfl⟩
  rw[<-sK] at hx ia
  rw[yU]
  have hlen:=oh gs (gB o q t) m
  refine⟨⟨rfl,by omega,by omega⟩,ag.of x (ff (e:=eG) (hg H).2 hx) (aA.go H fun b w3 H=>av.all 0 H rfl rfl rfl fun w4 H=>ag.at 0 H rfl (show _=some x from rfl) ?_)⟩
  refine⟨_,NS (H.cY _ (List.mem_cons_of_mem _ (List.mem_append_left _ hc))) x,?_⟩
  refine aa (fun d=>aA.go H fun b2 w5 H=>fun w6 h6=>?_) (fun d=>fun w6 h6=>⟨n - 1,by omega,m+1,Ls,rfl,by omega,?_,?_⟩)
  ·have d:(gB o q t) x=true:=d
   rw[if_pos d] at ia
   have H:=H.ext h6
   have H:aF D G w0 w6 ((b2,[.int .i64 (m:Int)])::(L++Ls)):=H.sub (.cons_cons _ (List.sublist_cons_self _ _))
   refine Ck H hP (by omega) fun wZ SW w7 HT H=>fun w8 h8=>⟨n - 1,by omega,m+1,wZ,rfl,by omega,?_,H.ext h8⟩
   rw[ia];exact HT
  ·have d: ¬ (gB o q t) x=true:=by
    have d:(gB o q t) x=false:=d
    rw[d];decide
   rw[ia,if_neg d,List.append_nil];exact hP
  ·exact(H.sub (List.sublist_cons_self _ _)).ext h6
 ·have hm':m=gs.length:=by
   have: ¬ m<gs.length:=by simpa using cc
   omega
  subst hm'
  exact aj.go H fun w3 H=>k sl Ls w3 hP H
theorem F3 (H:aF D G w0 w L) (j jr:Nat) (hm:L[j]? =some (bg,j_ br gs.length c)) (hw:L[jr]? =some (br,flat eG gs++rest)) (h0:0<gs.length) (hl:gs.length<=64) {bc:Nat} {g:Int} (hc:(bc,[Value.int .i64 g])∈L) {K:Option Addr×Nat×Nat->World->Prop}
 (k: ∀sl Ls w2,sO Ls sl (cm gs (kM g) gs.length)->aF D G w0 w2 (L++Ls)->K sl w2):
 az Tryz.prog 203 (.el (.one .slice)) [.pointer (some ⟨bg,0,none⟩),.func (.func 204) #[] #[.pointer (some ⟨bc,0,none⟩)]] w K:=by
 refine az.go H fun w1 H=>ai (C:=G3) (aJ:=oQ) (Eq.mpr (FD _ _ w1 K) ?_)
 have hg: ∀{w:World} {L1:List (Nat×List Value)},aF D G w0 w (L++L1)->aY w bg (j_ br gs.length c)/\aY w br (flat eG gs++rest):=fun{w L1} H=>⟨H.get (wP hm),H.get (wP hw)⟩
 refine⟨_,k6 (H.get hm) h0,ak rfl ⟨rfl,rfl,ag.bP j H hm rfl ?_⟩⟩
 refine⟨fun n v w'=> ∃(m:Nat) (Ls:List (Nat×List Value)),v.2.1=(m:Int)/\n+m=gs.length/\sO Ls v.1 (cm gs (kM g) m)/\aF D G w0 w' (L++Ls),⟨gs.length,fun w2 h2=>⟨0,[],rfl,rfl,.inl ⟨rfl,rfl,rfl⟩,by rw[List.append_nil];exact H.ext h2⟩⟩,?_⟩
 clear H
 rintro n ⟨sl,v,u⟩ w2 ⟨m,Ls,e,hn,hP,H⟩
 dsimp only at e hP ⊢
 subst e
 refine aa (fun cc=>?_) (fun cc=>?_)
 ·have hm':m<gs.length:=by simpa using cc
  have hx:gs[m]? =some (gs.getD m zG):=by
   rw[List.getD_eq_getElem?_getD,List.getElem?_eq_getElem hm'];rfl
  have yU:au .i64 (m:Int) 1=((m+1:Nat):Int):=by rw[ar (by omega) (by omega)];omega
  have ia:=pZ gs (kM g) m
  obtain⟨x,sK⟩: ∃x,x=gs.getD m zG:=⟨_,rfl⟩
  rw[<-sK] at hx ia
  rw[yU]
  have hlen:=oh gs (kM g) m
  refine⟨⟨rfl,by omega,by omega⟩,ag.of x (ff (e:=eG) (hg H).2 hx) (aA.go H fun b w3 H=>av.all 0 H rfl rfl rfl fun w4 H=>ag.at 0 H rfl (show _=some x from rfl) ?_)⟩
  refine⟨_,KO (H.cY _ (List.mem_cons_of_mem _ (List.mem_append_left _ hc))) x,?_⟩
  refine aa (fun d=>aA.go H fun b2 w5 H=>fun w6 h6=>?_) (fun d=>fun w6 h6=>⟨n - 1,by omega,m+1,Ls,rfl,by omega,?_,?_⟩)
  ·have d:(kM g) x=true:=d
   rw[if_pos d] at ia
   have H:=H.ext h6
   have H:aF D G w0 w6 ((b2,[.int .i64 (m:Int)])::(L++Ls)):=H.sub (.cons_cons _ (List.sublist_cons_self _ _))
   refine Ck H hP (by omega) fun wZ SW w7 HT H=>fun w8 h8=>⟨n - 1,by omega,m+1,wZ,rfl,by omega,?_,H.ext h8⟩
   rw[ia];exact HT
  ·have d: ¬ (kM g) x=true:=by
    have d:(kM g) x=false:=d
    rw[d];decide
   rw[ia,if_neg d,List.append_nil];exact hP
  ·exact(H.sub (List.sublist_cons_self _ _)).ext h6
 ·have hm':m=gs.length:=by
   have: ¬ m<gs.length:=by simpa using cc
   omega
  subst hm'
  exact aj.go H fun w3 H=>k sl Ls w3 hP H
theorem yV (H:aF D G w0 w L) (jr:Nat) (hw:L[jr]? =some (br,flat eG gs++rest)) {k:Nat} {x:GT} (hx:gs[k]? =some x) {f:Nat} (hf:f<5) {s:Sc} {y:s.T} (hy:(match (aP sG x)[f]? with|some v=>s.proj v|none=>none)=some y):cg w (af (some ⟨br,k*5,none⟩) f) (.one s) y:=by
 rw[aK]
 refine bY (H.get hw) ?_
 have h:=Po.Eg (ss:=sG) (rest:=rest) hx hf
 show(match (flat eG gs++rest)[k*5+f]? with|some v=>s.proj v|none=>none)=some y
 have h:(flat eG gs++rest)[k*5+f]? =(aP sG x)[f]? :=h
 rw[h];exact hy
theorem TC (H:aF D G w0 w L) (jr:Nat) (hw:L[jr]? =some (br,flat eG gs++rest)) {k:Nat} {x:GT} (hx:gs[k]? =some x) {f:Nat} (hf:f<5) {v:Value} (hv:v.oneCell'=true) (y:GT) (hy:aP sG y=(aP sG x).set f v) {K:World->Prop} (kk: ∀w1,aF D G w0 w1 (L.set jr (br,flat eG (gs.set k y)++rest))->K w1):av w (af (some ⟨br,k*5,none⟩) f) [v] K:=by
 have hk:k<gs.length:=(List.getElem?_eq_some_iff.1 hx).1
 refine av.dJ jr H hw hv ?_ fun w1 h1=>kk w1 ?_
 ·rw[Nat.blt_eq,List.length_append,aG]
  show k*5+f<gs.length*5+rest.length
  omega
 ·have h:=Po.xQ (ss:=sG) (rest:=rest) (v:=v) hx hf hy
  have h:(flat eG gs++rest).set (k*5+f) v=flat eG (gs.set k y)++rest:=h
  rw[h] at h1;exact h1
theorem RE (h:aY w bg (j_ br gs.length c)) (hw:aY w br (flat eG gs++rest)) (h0:0<gs.length) (i:Int):
 an Tryz.prog 159 (.bq [eG,.one .bool]) [.pointer (some ⟨bg,0,none⟩),.int .i64 i] w (fun x w'=>x=(uc gs i,(jR gs i).isSome,())/\Ext w w'):=by
 refine aL (C:=G3) (aJ:=fun _=>[]) (Eq.mpr (Rr _ i w _) ?_)
 have H:=At.start [] w
 refine aA.go H fun b w2 H=>?_
 have e2:=H.all
 refine⟨_,DP (h.ext e2) (hw.ext e2) h0 i,?_⟩
 unfold yT yS uc
 cases ha:jR gs i with
 |none=>exact ay rfl (av.all 0 H rfl rfl rfl fun w3 H=>aj.go H fun w4 H=>ag.at 0 H rfl (show _=some zG from rfl) ⟨rfl,H.all⟩)
 |some k=>
  obtain⟨_, _, _,hx, _⟩:=jI ha
  have hr:cg w2 (some ⟨br,k*5,none⟩) eG (gs.getD k zG):=by
   have:=ff (e:=eG) (hw.ext e2) hx
   rw[aK,Nat.zero_add] at this
   exact this
  refine ak rfl ⟨rfl,ag.of _ hr (av.all 0 H rfl rfl rfl fun w3 H=>aj.go H fun w4 H=>ag.at 0 H rfl (show _=some (gs.getD k zG) from rfl) ⟨rfl,H.all⟩)⟩
theorem K3 (H:aF D G w0 w L) (j jr:Nat) (hm:L[j]? =some (bg,j_ br gs.length c)) (hw:L[jr]? =some (br,flat eG gs++rest)) (h0:0<gs.length) (hok: ∀x∈gs,0<=x.2.2.2.2.1/\x.2.2.2.2.1<=1000) (i g:Int) (b:Bool) {K:Int->World->Prop}
 (k: ∀w2,aF D G w0 w2 (L.set jr (br,flat eG (cT gs i g b)++rest))->K (e_ gs i g b) w2):
 az Tryz.prog 165 (.el (.one (.int .i64))) [.pointer (some ⟨bg,0,none⟩),.int .i64 i,.int .i64 g,.bool b] w K:=by
 refine az.go H fun w1 H=>ai (C:=G3) (aJ:=fun _=>[]) (Eq.mpr (Ke _ i g b w1 K) ?_)
 refine⟨_,DP (H.get hm) (H.get hw) h0 i,?_⟩
 have same:e_ gs i g b≠0-> ∀{w2},aF D G w0 w2 L->aF D G w0 w2 (L.set jr (br,flat eG (cT gs i g b)++rest)):=fun h w2 H=>by
  unfold cT
  rw[if_neg h,IC hw];exact H
 have hE:e_ gs i g b=match jR gs i with
  |none=>4
  |some k=>if((gs.getD k zG).2.2.1 != g||b&& !(gs.getD k zG).2.2.2.1)=true then 7 else if(gs.getD k zG).2.2.2.2.1=1000 then 3 else 0:=rfl
 unfold yT yS
 cases ha:jR gs i with
 |none=>
  rw[ha] at hE
  dsimp only at hE
  rw[hE] at k same
  exact ay rfl (aj.go H fun w2 H=>k w2 (same (by decide) H))
 |some q=>
  obtain⟨Fb,hi1,hq,hx, _⟩:=jI ha
  rw[ha] at hE
  dsimp only at hE
  obtain⟨x,sK⟩: ∃x,x=gs.getD q zG:=⟨_,rfl⟩
  rw[<-sK] at hE hx
  refine ak rfl ⟨rfl,rfl,ag.of x.2.2.1 (yV H jr hw hx (by decide) rfl) ⟨fun _=>rfl,fun _=>rfl,ag.of x.2.2.2.1 (yV H jr hw hx (by decide) rfl) (aa (fun d=>aj.go H fun w2 H=>?_) (fun d=>?_))⟩⟩
  ·rw[if_pos d] at hE
   rw[hE] at k same
   exact k w2 (same (by decide) H)
  ·rw[if_neg (by rw[d];decide)] at hE
   refine⟨rfl,rfl,ag.of x.2.2.2.2.1 (yV H jr hw hx (by decide) rfl) (aa (fun d2=>aj.go H fun w2 H=>?_) (fun d2=>?_))⟩
   ·rw[if_pos (by simpa using d2)] at hE
    rw[hE] at k same
    exact k w2 (same (by decide) H)
   ·rw[if_neg (by simpa using d2)] at hE
    have hb:=hok x (List.mem_of_getElem? hx)
    refine⟨rfl,rfl,ag.of x.2.2.2.2.1 (yV H jr hw hx (by decide) rfl) ⟨rfl,rfl,?_⟩⟩
    rw[ar (by omega) (by omega)]
    refine TC H jr hw hx (by decide) rfl (eV x 1) rfl fun w2 H=>aj.go H fun w3 H=>?_
    have hS:cT gs i g b=gs.set q (eV x 1):=by
     unfold cT
     rw[if_pos hE, <-hq, <-sK]
    rw[hE,hS] at k
    exact k w3 H
end
end Go.Proofs.YtdnoecpjcoibmaaGreat
namespace Go.Proofs.YtdnoecpjcoibmaaGreat
set_option maxRecDepth 100000
open Go.RX
section
variable {D G:List Nat} {w0 w:World} {L:List (Nat×List Value)} {bg br c:Nat} {gs:List GT} {rest:List Value}
theorem K4 (H:aF D G w0 w L) (j jr:Nat) (hm:L[j]? =some (bg,j_ br gs.length c)) (hw:L[jr]? =some (br,flat eG gs++rest)) (h0:0<gs.length) (hok: ∀x∈gs,0<=x.2.2.2.2.1/\x.2.2.2.2.1<=1000) (i g:Int) {K:Int->World->Prop}
 (k: ∀w2,aF D G w0 w2 (L.set jr (br,flat eG (dO gs i g)++rest))->K (kB gs i g) w2):
 az Tryz.prog 166 (.el (.one (.int .i64))) [.pointer (some ⟨bg,0,none⟩),.int .i64 i,.int .i64 g] w K:=by
 refine az.go H fun w1 H=>ai (C:=G3) (aJ:=fun _=>[]) (Eq.mpr (Kf _ i g w1 K) ?_)
 refine⟨_,DP (H.get hm) (H.get hw) h0 i,?_⟩
 have same:kB gs i g≠0-> ∀{w2},aF D G w0 w2 L->aF D G w0 w2 (L.set jr (br,flat eG (dO gs i g)++rest)):=fun h w2 H=>by
  unfold dO
  rw[if_neg h,IC hw];exact H
 have hE:kB gs i g=match jR gs i with
  |none=>4
  |some k=>if(gs.getD k zG).2.2.1≠g then 7 else if(gs.getD k zG).2.2.2.2.1=0 then 6 else 0:=rfl
 unfold yT yS
 cases ha:jR gs i with
 |none=>
  rw[ha] at hE
  dsimp only at hE
  rw[hE] at k same
  exact ay rfl (aj.go H fun w2 H=>k w2 (same (by decide) H))
 |some q=>
  obtain⟨Fb,hi1,hq,hx, _⟩:=jI ha
  rw[ha] at hE
  dsimp only at hE
  obtain⟨x,sK⟩: ∃x,x=gs.getD q zG:=⟨_,rfl⟩
  rw[<-sK] at hE hx
  refine ak rfl ⟨rfl,rfl,ag.of x.2.2.1 (yV H jr hw hx (by decide) rfl) (aa (fun d=>aj.go H fun w2 H=>?_) (fun d=>?_))⟩
  ·rw[if_pos (by simpa using d)] at hE
   rw[hE] at k same
   exact k w2 (same (by decide) H)
  ·rw[if_neg (by simpa using d)] at hE
   refine⟨rfl,rfl,ag.of x.2.2.2.2.1 (yV H jr hw hx (by decide) rfl) (aa (fun d2=>aj.go H fun w2 H=>?_) (fun d2=>?_))⟩
   ·rw[if_pos (by simpa using d2)] at hE
    rw[hE] at k same
    exact k w2 (same (by decide) H)
   ·rw[if_neg (by simpa using d2)] at hE
    have hb:=hok x (List.mem_of_getElem? hx)
    refine⟨rfl,rfl,ag.of x.2.2.2.2.1 (yV H jr hw hx (by decide) rfl) ⟨rfl,rfl,?_⟩⟩
    rw[bS (by omega) (by omega)]
    refine TC H jr hw hx (by decide) rfl (eV x (-1)) rfl fun w2 H=>aj.go H fun w3 H=>?_
    have hS:dO gs i g=gs.set q (eV x (-1)):=by
     unfold dO
     rw[if_pos hE, <-hq, <-sK]
    rw[hE,hS] at k
    exact k w3 H
theorem CR (H:aF D G w0 w L) (j jr:Nat) (hm:L[j]? =some (bg,j_ br gs.length c)) (hw:L[jr]? =some (br,flat eG gs++rest)) (h0:0<gs.length) (i o:Int) {K:Int->World->Prop}
 (k: ∀w2,aF D G w0 w2 (L.set jr (br,flat eG (jz gs i o)++rest))->K (oL gs i o) w2):
 az Tryz.prog 168 (.el (.one (.int .i64))) [.pointer (some ⟨bg,0,none⟩),.int .i64 i,.int .i64 o] w K:=by
 refine az.go H fun w1 H=>ai (C:=G3) (aJ:=fun _=>[]) (Eq.mpr (CH _ i o w1 K) ?_)
 refine⟨_,DP (H.get hm) (H.get hw) h0 i,?_⟩
 have same:oL gs i o≠0-> ∀{w2},aF D G w0 w2 L->aF D G w0 w2 (L.set jr (br,flat eG (jz gs i o)++rest)):=fun h w2 H=>by
  unfold jz
  rw[if_neg h,IC hw];exact H
 have hE:oL gs i o=match jR gs i with
  |none=>4
  |some k=>if(gs.getD k zG).1≠o then 7 else if(gs.getD k zG).2.2.2.2.1>0 then 9 else 0:=rfl
 unfold yT yS
 cases ha:jR gs i with
 |none=>
  rw[ha] at hE
  dsimp only at hE
  rw[hE] at k same
  exact ay rfl (aj.go H fun w2 H=>k w2 (same (by decide) H))
 |some q=>
  obtain⟨Fb,hi1,hq,hx, _⟩:=jI ha
  rw[ha] at hE
  dsimp only at hE
  obtain⟨x,sK⟩: ∃x,x=gs.getD q zG:=⟨_,rfl⟩
  rw[<-sK] at hE hx
  refine ak rfl ⟨rfl,rfl,ag.of x.1 (yV H jr hw hx (by decide) rfl) (aa (fun d=>aj.go H fun w2 H=>?_) (fun d=>?_))⟩
  ·rw[if_pos (by simpa using d)] at hE
   rw[hE] at k same
   exact k w2 (same (by decide) H)
  ·rw[if_neg (by simpa using d)] at hE
   refine⟨rfl,rfl,ag.of x.2.2.2.2.1 (yV H jr hw hx (by decide) rfl) (aa (fun d2=>aj.go H fun w2 H=>?_) (fun d2=>?_))⟩
   ·rw[if_pos (by simpa using d2)] at hE
    rw[hE] at k same
    exact k w2 (same (by decide) H)
   ·rw[if_neg (by simpa using d2)] at hE
    refine⟨rfl,?_⟩
    have Y1:q<gs.length:=(List.getElem?_eq_some_iff.1 hx).1
    have e0:(some (⟨br,q*5,none⟩:Addr))=af (some ⟨br,0,none⟩) (q*5):=by rw[aK,Nat.zero_add]
    show av w1 (some (⟨br,q*5,none⟩:Addr)) _ _
    rw[e0]
    refine av.flat (e:=eG) jr H zG hw rfl rfl Y1 fun w2 H=>aj.go H fun w3 H=>?_
    have hS:jz gs i o=gs.set q zG:=by
     unfold jz
     rw[if_pos hE, <-hq]
    rw[hE,hS] at k
    exact k w3 H
theorem F4 (H:aF D G w0 w L) (j jr:Nat) (hm:L[j]? =some (bg,j_ br gs.length c)) (hw:L[jr]? =some (br,flat eG gs++rest)) (h0:0<gs.length) (hl:gs.length<=64) (o q t:Int) (b:Bool) {K:Int×Int×Unit->World->Prop}
 (k: ∀w2,aF D G w0 w2 (L.set jr (br,flat eG (gR gs o q t b)++rest))->K (h_ gs o q t,iQ gs o q t,()) w2):
 az Tryz.prog 164 (.bq [.one (.int .i64),.one (.int .i64)]) [.pointer (some ⟨bg,0,none⟩),.int .i64 o,.int .i64 q,.int .i64 t,.bool b] w K:=by
 refine az.go H fun w1 H=>ai (C:=G3) (aJ:=fun _=>[]) (Eq.mpr (FE _ o q t b w1 K) ?_)
 have same:iQ gs o q t≠0-> ∀{w2},aF D G w0 w2 L->aF D G w0 w2 (L.set jr (br,flat eG (gR gs o q t b)++rest)):=fun h w2 H=>by
  unfold gR
  rw[if_neg h,IC hw];exact H
 have hI:iQ gs o q t≠0->h_ gs o q t=0:=fun h=>if_neg h
 refine⟨_,k6 (H.get hm) h0,ak rfl ⟨trivial,fun _=>trivial,aa (fun d=>aj.go H fun w2 H=>?_) (fun d=>?_)⟩⟩
 ·have hE:iQ gs o q t=1:=if_pos d
  rw[hI (by rw[hE];decide),hE] at k
  rw[hE] at same
  exact k w2 (same (by decide) H)
 have hE:iQ gs o q t=if cm gs (gB o q t) gs.length≠[] then 5 else if cm gs dz gs.length=[] then 3 else 0:=if_neg (by rw[d];decide)
 refine aA.go H fun bc w2 H=>av.all 0 H rfl rfl rfl fun w3 H=>F2 H (j+1) (jr+1) hm hw h0 hl (bc:=bc) (List.mem_cons_self) fun sl Ls w4 hP H=>?_
 obtain⟨sp,sn,sc⟩:=sl
 have e1:sn=(cm gs (gB o q t) gs.length).length:=hP.len
 subst e1
 have H:aF D G w0 w4 ((bc,[Value.int .i64 o,.int .i64 q,.int .i64 t,.bool false,.int .i64 0])::L):=H.sub (List.sublist_append_left _ Ls)
 refine aa (fun d1=>aj.go H fun w5 H=>?_) (fun d1=>?_)
 ·have d1:cm gs (gB o q t) gs.length≠[]:=by
   intro e;rw[e] at d1;simp at d1
  rw[if_pos d1] at hE
  rw[hI (by rw[hE];decide),hE] at k
  rw[hE] at same
  exact k w5 (same (by decide) (H.sub (List.sublist_cons_self _ _)))
 have d1: ¬ cm gs (gB o q t) gs.length≠[]:=by
  intro e
  have:=List.length_pos_iff.2 e
  rw[decide_eq_false_iff_not] at d1
  have d1: ¬ (((cm gs (gB o q t) gs.length).length:Nat):Int)>0:=d1
  omega
 rw[if_neg d1] at hE
 refine F1 H (j+1) (jr+1) hm hw h0 hl fun sl Ls w5 hP H=>?_
 obtain⟨sp,sn,sc⟩:=sl
 have e1:sn=(cm gs dz gs.length).length:=hP.len
 subst e1
 have H:aF D G w0 w5 ((bc,[Value.int .i64 o,.int .i64 q,.int .i64 t,.bool false,.int .i64 0])::(L++Ls)):=H
 refine aa (fun d2=>aj.go H fun w6 H=>?_) (fun d2=>?_)
 ·have d2:cm gs dz gs.length=[]:=by
   have:(cm gs dz gs.length).length=0:=by simpa using d2
   exact List.length_eq_zero_iff.1 this
  rw[if_pos d2] at hE
  rw[hI (by rw[hE];decide),hE] at k
  rw[hE] at same
  exact k w6 (same (by decide) (H.sub ((List.sublist_append_left L Ls).trans (List.sublist_cons_self _ _))))
 have d2: ¬ cm gs dz gs.length=[]:=by
  intro e;rw[e] at d2;simp at d2
 rw[if_neg d2] at hE
 have hS:gR gs o q t b=gs.set (h_ gs o q t).toNat (o,q,t,b,0,()):=if_pos hE
 have Y3:h_ gs o q t=(cm gs dz gs.length).headD 0:=if_pos hE
 rw[hS,hE] at k
 obtain⟨z,l,hz⟩: ∃z l,cm gs dz gs.length=z::l:=List.exists_cons_of_ne_nil d2
 have Y4:h_ gs o q t=z:=by rw[Y3,hz];rfl
 rw[Y4] at k
 obtain⟨zi,P9, _,Qb⟩:=og.1 (by rw[hz];exact List.mem_cons_self:z∈cm gs dz gs.length)
 subst Qb
 rw[hz] at hP
 have hlen:(cm gs dz gs.length).length=l.length+1:=by rw[hz];rfl
 have XV: ∀{w:World} {g:Nat×List Value},aF D G w0 w (g::(L++Ls))->sp.isSome=true/\cg w (af sp 0) (.one (.int .i64)) (zi:Int):=fun{w g} H=>by
  have h:=hP.rd H (fun y hy=>List.mem_cons_of_mem _ (List.mem_append_right _ hy)) (i:=0) (x:=(zi:Int)) rfl
  exact⟨h.1,h.2⟩
 have hm2:(L++Ls)[j]? =some (bg,j_ br gs.length c):=wP hm
 have sM:(L++Ls)[jr]? =some (br,flat eG gs++rest):=wP hw
 refine⟨rfl,av.dJ 0 H rfl rfl rfl fun w6 H=>?_⟩
 have H:aF D G w0 w6 ((bc,[Value.int .i64 o,.int .i64 q,.int .i64 t,.bool b,.int .i64 0])::(L++Ls)):=H
 refine⟨rfl,rfl,ag.bP (j+1) H hm2 rfl ⟨⟨(XV H).1,by decide,by show(0:Int)<(((cm gs dz gs.length).length:Nat):Int);rw[hlen];omega⟩,ag.of _ (XV H).2 (ag.at 0 H rfl (show _=some (o,q,t,b,0,()) from rfl) ⟨⟨rfl,by omega,by show(zi:Int)<((gs.length:Nat):Int);omega⟩,?_⟩)⟩⟩
 refine av.flat (e:=eG) (jr+1) H (o,q,t,b,0,()) sM rfl rfl P9 fun w7 H=>?_
 have H:aF D G w0 w7 ((bc,[Value.int .i64 o,.int .i64 q,.int .i64 t,.bool b,.int .i64 0])::((L++Ls).set jr (br,flat eG (gs.set zi (o,q,t,b,0,()))++rest))):=H
 rw[List.set_append_left _ _ (List.getElem?_eq_some_iff.1 hw).1] at H
 have h:=hP.rd H (fun y hy=>List.mem_cons_of_mem _ (List.mem_append_right _ hy)) (i:=0) (x:=(zi:Int)) rfl
 refine⟨⟨h.1,by decide,by show(0:Int)<(((cm gs dz gs.length).length:Nat):Int);rw[hlen];omega⟩,ag.of _ h.2 (aj.go H fun w8 H=>k w8 (H.sub ((List.sublist_append_left _ Ls).trans (List.sublist_cons_self _ _))))⟩
theorem K5 (H:aF D G w0 w L) (j jr:Nat) (hm:L[j]? =some (bg,j_ br gs.length c)) (hw:L[jr]? =some (br,flat eG gs++rest)) (h0:0<gs.length) (hl:gs.length<=64) (hj:j≠jr) (g:Int) {K:Int->World->Prop}
 (k: ∀n w2,aF D G w0 w2 (L.set jr (br,flat eG (cn gs g)++rest))->K n w2):
 az Tryz.prog 152 (.el (.one (.int .i64))) [.pointer (some ⟨bg,0,none⟩),.int .i64 g] w K:=by
 refine az.go H fun w1 H=>ai (C:=G3) (aJ:=rB) (Eq.mpr (Kg _ g w1 K) ?_)
 refine aA.go H fun bc w2 H=>F3 H (j+1) (jr+1) hm hw h0 hl (bc:=bc) (List.mem_cons_self) fun sl Ls w3 hP H=>?_
 have H:aF D G w0 w3 ((bc,[Value.int .i64 g])::(L++Ls)):=H
 have H:aF D G w0 w3 (L++Ls):=H.sub (List.sublist_cons_self _ _)
 obtain⟨sp,sn,sc⟩:=sl
 have e1:sn=(cm gs (kM g) gs.length).length:=hP.len
 subst e1
 obtain⟨l,hle⟩: ∃l,l=cm gs (kM g) gs.length:=⟨_,rfl⟩
 have Y5:l.length<=64:=by rw[hle];exact Nat.le_trans (oh _ _ _) hl
 have hmem: ∀z∈l, ∃i:Nat,i<gs.length/\kM g (gs.getD i zG)=true/\z=(i:Int):=fun z hz=>by rw[hle] at hz;exact og.1 hz
 have hall: ∀i:Nat,i<gs.length->kM g (gs.getD i zG)=true->(i:Int)∈l:=fun i h1 h2=>by rw[hle];exact og.2 ⟨i,h1,h2,rfl⟩
 rw[<-hle] at hP ⊢
 clear hle
 have Y6:=(List.getElem?_eq_some_iff.1 hw).1
 have M6: ∀X:Nat×List Value,((L++Ls).set jr X)=L.set jr X++Ls:=fun X=>List.set_append_left _ _ Y6
 refine⟨fun n v w'=> ∃(m:Nat) (hs:List GT),v.1=(m:Int)/\n+m=l.length/\hs.length=gs.length/\(∀i:Nat,i<gs.length->hs.getD i zG=if(i:Int)∈l.take m then zG else gs.getD i zG)/\aF D G w0 w' ((L++Ls).set jr (br,flat eG hs++rest)),⟨l.length,fun w4 h4=>⟨0,gs,rfl,rfl,rfl,fun i hi=>by simp,by rw[IC (wP hw)];exact H.ext h4⟩⟩,?_⟩
 clear H
 rintro n ⟨v,u⟩ w4 ⟨m,hs,e,hn,hlen,hG,H⟩
 dsimp only at e ⊢
 subst e
 refine aa (fun cc=>?_) (fun cc=>aj.go H fun w5 H=>k _ w5 ?_)
 ·have hm':m<l.length:=by simpa using cc
  have hx:=List.getElem?_eq_getElem hm'
  obtain⟨z,Y7⟩: ∃z,z=l[m]:=⟨_,rfl⟩
  rw[<-Y7] at hx
  obtain⟨zi,z1,z2,rfl⟩:=hmem z (List.mem_of_getElem? hx)
  have iK:l.take (m+1)=l.take m++[(zi:Int)]:=by rw[List.take_add_one,hx];rfl
  have hr:=hP.rd H (fun y hy=>by rw[M6];exact List.mem_append_right _ hy) hx
  have hmb:((L++Ls).set jr (br,flat eG hs++rest))[j]? =some (bg,j_ br hs.length c):=by
   rw[hlen,List.getElem?_set_ne (fun e=>hj e.symm)];exact wP hm
  have Y8:((L++Ls).set jr (br,flat eG hs++rest))[jr]? =some (br,flat eG hs++rest):=by
   rw[List.getElem?_set_self (by rw[List.length_append];omega)]
  refine⟨⟨hr.1,by omega,by omega⟩,ag.of _ hr.2 ⟨rfl,rfl,ag.bP j H hmb rfl ⟨⟨rfl,by omega,by show(zi:Int)<((hs.length:Nat):Int);omega⟩,?_⟩⟩⟩
  refine av.flat (e:=eG) jr H zG Y8 rfl rfl (by omega:zi<hs.length) fun w5 H=>fun w6 h6=>⟨n - 1,by omega,m+1,hs.set zi zG,by rw[ar (by omega) (by omega)];omega,by omega,by rw[List.length_set];exact hlen,fun i hi=>?_,?_⟩
  ·rw[iK]
   by_cases ei:i=zi
   ·subst ei
    rw[if_pos (by simp)]
    rw[List.getD_eq_getElem?_getD,List.getElem?_set_self (by omega)];rfl
   ·have:(hs.set zi zG).getD i zG=hs.getD i zG:=by
     rw[List.getD_eq_getElem?_getD,List.getElem?_set_ne (fun e=>ei e.symm), <-List.getD_eq_getElem?_getD]
    rw[this,hG i hi]
    by_cases em:(i:Int)∈l.take m
    ·rw[if_pos em,if_pos (List.mem_append_left _ em)]
    ·rw[if_neg em,if_neg (fun h=>?_)]
     rcases List.mem_append.1 h with h|h
     ·exact em h
     ·have:(i:Int)=zi:=by simpa using h
      omega
  ·rw[List.set_set] at H
   exact H.ext h6
 ·have hm': ¬ m<l.length:=by simpa using cc
  rw[List.take_of_length_le (by omega)] at hG
  have e:hs=cn gs g:=List.ext_getElem? fun i=>by
   unfold cn
   rw[List.getElem?_map]
   by_cases hi:i<gs.length
   ·have h1:=hG i hi
    have h2:hs[i]? =some (hs.getD i zG):=by rw[List.getD_eq_getElem?_getD,List.getElem?_eq_getElem (by omega)];rfl
    have h3:gs[i]? =some (gs.getD i zG):=by rw[List.getD_eq_getElem?_getD,List.getElem?_eq_getElem hi];rfl
    rw[h2,h3,h1]
    show _=some (if kM g (gs.getD i zG)=true then zG else gs.getD i zG)
    by_cases c:kM g (gs.getD i zG)=true
    ·rw[if_pos c,if_pos (hall i hi c)]
    ·rw[if_neg c,if_neg (fun h=>?_)]
     obtain⟨i', _,h5,h6⟩:=hmem _ h
     have:i'=i:=by omega
     subst this
     exact c h5
   ·rw[List.getElem?_eq_none (by omega),List.getElem?_eq_none (by omega)];rfl
  subst e
  rw[M6] at H
  exact H.sub (List.sublist_append_left _ _)
theorem NW (H:aF D G w0 w L) (n:Nat) (hn:1<=n/\n<=64) {K:Option Addr×Int×Unit->World->Prop}
 (k: ∀bg br w2,aF D G w0 w2 ((bg,j_ br (List.replicate n zG).length n)::(br,flat eG (List.replicate n zG)++[])::L)->K (some ⟨bg,0,none⟩,0,()) w2):
 az Tryz.prog 45 (.bq [.one .ptr,.one (.int .i64)]) [.int .i64 (n:Int)] w K:=by
 refine az.go H fun w1 H=>ai (C:=G3) (aJ:=fun _=>[]) (Eq.mpr (NB _ w1 K) ?_)
 refine ak (by rw[Bool.or_eq_false_iff,decide_eq_false_iff_not,decide_eq_false_iff_not];omega) ?_
 refine BF.go H rfl (by omega) (Int.le_refl _) (by omega) (by omega) fun b w2 H=>aA.go H fun b2 w3 H=>aj.go H fun w4 H=>?_
 have e:(List.replicate ((n:Nat):Int).toNat [Value.int .i64 0,.int .i64 0,.int .i64 0,.bool false,.int .i64 0]).flatten=flat eG (List.replicate n zG)++[]:=by
  rw[List.append_nil,Int.toNat_natCast,jO];rfl
 rw[e] at H
 have e2:(List.replicate n zG).length=n:=List.length_replicate
 refine k b2 b w4 ?_
 rw[e2]
 exact H
end
end Go.Proofs.YtdnoecpjcoibmaaGreat
namespace Go.Proofs.YtdnoecpjcoibmaaGreat.Po
set_option maxRecDepth 100000
open Go.RX
def gp (ps:List PT) (g i:Int):PT:=ps.getD (ix g i) zP
def dx (room:Int) (ps:List PT) (g:Int) (x:PT):(Int×Int)×List PT:=if bO room ps g= -1 then((0,3),ps) else((bO room ps g,0),ps.set (ix g (bO room ps g)) x)
def gS (room:Int) (ps:List PT) (g r:Int):(Int×Int)×List PT:=if oD g r=0 then dx room ps g (1,r,0,false,false,()) else((0,oD g r),ps)
def gm (room:Int) (ps:List PT) (g r i:Int):(Int×Int)×List PT:=
 if oD g r=0 then
  match mH room ps r i with
  |none=>((0,4),ps)
  |some k=>
   if(ps.getD k zP).1=2 then((0,6),ps) else if(ps.getD k zP).2.1≠g then((0,7),ps) else
    if bO room ps g= -1 then((0,3),ps) else
     ((bO room ps g,0),(ps.set (ix g (bO room ps g)) (2,r,i,false,false,())).set k (2,(ps.getD k zP).2.1,bO room ps g,(ps.getD k zP).2.2.2))
 else((0,oD g r),ps)
def jA (room:Int) (ps:List PT) (g i:Int):Int×List PT:=
 match mH room ps g i with
 |none=>(4,ps)
 |some k=>if(ps.getD k zP).1=2 then
   let y:=gp ps (ps.getD k zP).2.1 (ps.getD k zP).2.2.1
   (0,ps.set (ix (ps.getD k zP).2.1 (ps.getD k zP).2.2.1) (y.1,y.2.1,y.2.2.1,true,y.2.2.2.2))
  else(6,ps)
def qE (ps:List PT) (g:Int) (i:Nat):Bool:=gI g&&((gp ps g i).2.2.2.1&& !(gp ps g i).2.2.2.2.1)
def mZ (room:Int) (ps:List PT) (g:Int):List Int:=((List.range room.toNat).filter (qE ps g)).map fun i=>((i:Nat):Int)
def fY (room:Int) (ps:List PT) (g:Int):(Int×Bool)×List PT:=
 match mZ room ps g with
 |[]=>((0,false),ps)
 |i:: _=>((i,true),ps.set (ix g i) ((gp ps g i).1,(gp ps g i).2.1,(gp ps g i).2.2.1,false,(gp ps g i).2.2.2.2))
def dP (room:Int) (ps:List PT) (g i:Int):Int×List PT:=
 match mH room ps g i with
 |none=>(4,ps)
 |some k=>if(ps.getD k zP).1=2 then
   let y:=gp ps (ps.getD k zP).2.1 (ps.getD k zP).2.2.1
   (0,(ps.set (ix (ps.getD k zP).2.1 (ps.getD k zP).2.2.1) (1,y.2.1,0,y.2.2.2)).set k zP)
  else(0,ps.set k zP)
def gq (room:Int) (ps:List PT) (g:Int):Nat->Int×List PT
 |0=>(0,ps)
 |i+1=>((gq room ps g i).1+(if(dP room (gq room ps g i).2 g i).1=0 then 1 else 0),(dP room (gq room ps g i).2 g i).2)
def m5 (room g:Int) (s:Int×List PT) (k i:Int):Int×List PT:=
 match mH room s.2 k i with
 |none=>s
 |some x=>if(s.2.getD x zP).2.1=g then(s.1+1,s.2.set x zP) else s
def kQ (room g:Int) (s:Int×List PT) (k:Int):Nat->Int×List PT
 |0=>s
 |i+1=>m5 room g (kQ room g s k i) k i
def iR (room g:Int) (s:Int×List PT):Nat->Int×List PT
 |0=>s
 |k+1=>kQ room g (iR room g s k) ((k:Int)+1) room.toNat
def bV (room:Int) (ps:List PT) (g:Int):Int×List PT:=if gI g then iR room g (gq room ps g room.toNat) 16 else(0,ps)
structure jl (room:Int) (ps:List PT):Prop extends okS room ps where
 inv: ∀g i,mO room g i=true->gp ps g i=zP\/((gp ps g i).1=1/\(1<=(gp ps g i).2.1/\(gp ps g i).2.1<=16)/\(gp ps g i).2.1≠g/\(gp ps g i).2.2.1=0)\/
  ((gp ps g i).1=2/\(gp ps g i).2.1≠g/\mO room (gp ps g i).2.1 (gp ps g i).2.2.1=true/\(gp ps (gp ps g i).2.1 (gp ps g i).2.2.1).1=2/\(gp ps (gp ps g i).2.1 (gp ps g i).2.2.1).2.1=g/\(gp ps (gp ps g i).2.1 (gp ps g i).2.2.1).2.2.1=i)
theorem wS {ps:List PT} {k:Nat} (h:k<ps.length) (x:PT):(ps.set k x).getD k zP=x:=by simp[List.getD_eq_getElem?_getD,h]
theorem nL {ps:List PT} {k j:Nat} (h:k≠j) (x:PT):(ps.set k x).getD j zP=ps.getD j zP:=by simp[List.getD_eq_getElem?_getD,List.getElem?_set_ne h]
theorem gV {room:Int} {ps:List PT} (hs:okS room ps) {g i g' i':Int} (h:mO room g i=true) (h':mO room g' i'=true) (x:PT):gp (ps.set (ix g i) x) g' i'=if g'=g/\i'=i then x else gp ps g' i':=by
 unfold gp
 by_cases e:g'=g/\i'=i
 ·rw[if_pos e,e.1,e.2];exact wS (by rw[hs.len];exact mu h hs.hi) x
 ·rw[if_neg e];exact nL (fun e2=>e (by have:=Jt h h' hs.hi e2;exact⟨this.1.symm,this.2.symm⟩)) x
theorem pQ {room:Int} {ps:List PT} {g i:Int} (h:mO room g i=true):mH room ps g i=if gp ps g i=zP then none else some (ix g i):=by
 unfold mH gp
 by_cases e:ps.getD (ix g i) zP=zP
 ·rw[if_neg (fun c=>c.2 e),if_pos e]
 ·rw[if_pos ⟨h,e⟩,if_neg e]
theorem nW {g r:Int}:oD g r=0<->gI g=true/\gI r=true/\g≠r:=by
 unfold oD
 cases gI g<;>cases gI r<;>by_cases e:g=r<;>simp[e]
section
variable {D G:List Nat} {w0 w:World} {L:List (Nat×List Value)} {bp:Nat} {room:Int} {ps:List PT}
theorem BW (H:aF D G w0 w L) (j:Nat) (hL:L[j]? =some (bp,fL room ps)) (hs:okS room ps) (g i:Int) {r:Option Nat} (hx:mH room ps g i=r):ah Tryz.prog 115 [.pointer (some ⟨bp,0,none⟩),.int .i64 g,.int .i64 i] w (.pointer (r.map fun k=>⟨bp,k*5,none⟩)):=by
 subst hx
 exact ah.of (s:= .el (.one .ptr)) fun w' h'=>xB ((H.get hL).ext h') hs g i
theorem Pz (H:aF D G w0 w L) (j:Nat) (hL:L[j]? =some (bp,fL room ps)) (hs:okS room ps) (g i:Int):ah Tryz.prog 217 [.pointer (some ⟨bp,0,none⟩),.int .i64 g,.int .i64 i] w (.int .i64 (oD g i)):=
 ah.of (s:= .el (.one (.int .i64))) fun w' h'=>RD ((H.get hL).ext h') hs g i
theorem Ju (H:aF D G w0 w L) (j:Nat) (hL:L[j]? =some (bp,fL room ps)) (hs:okS room ps):ah Tryz.prog 219 [.pointer (some ⟨bp,0,none⟩)] w (.int .i64 4):=
 ah.of (s:= .el (.one (.int .i64))) fun w' h'=>NV ((H.get hL).ext h') hs
theorem NX (H:aF D G w0 w L) (j:Nat) (hL:L[j]? =some (bp,fL room ps)) (hs:okS room ps):ah Tryz.prog 113 [.pointer (some ⟨bp,0,none⟩)] w (.bool true):=
 ah.of (s:= .el (.one .bool)) fun w' h'=>k7 ((H.get hL).ext h') hs
theorem gY {j:Nat} {x y:Nat×List Value} (h:L[j]? =some x):(L.set j y)[j]? =some y:=by rw[List.getElem?_set_self (List.getElem?_eq_some_iff.1 h).1]
theorem Jv (H:aF D G w0 w L) (j:Nat) (hL:L[j]? =some (bp,fL room ps)) (hs:okS room ps) (g:Int) (hg:gI g=true) (x:PT) {K:Int×Int×Unit->World->Prop}
 (k: ∀w2,aF D G w0 w2 (L.set j (bp,fL room (dx room ps g x).2))->K ((dx room ps g x).1.1,(dx room ps g x).1.2,()) w2):
 az Tryz.prog 218 (.bq [.one (.int .i64),.one (.int .i64)]) [.pointer (some ⟨bp,0,none⟩),.int .i64 g,.agg ⟨aP sQ x⟩] w K:=by
 obtain⟨x1,x2,x3,x4,x5,xu⟩:=x
 refine az.go H fun w1 H=>ai (C:=R1) (aJ:=fun _=>[]) (Eq.mpr (RC _ g x1 x2 x3 x4 x5 w1 K) ?_)
 have hhi:=hs.hi
 refine aA.go H fun b w2 H=>?_
 have hL':((b,aP sQ (x1,x2,x3,x4,x5,()))::L)[j+1]? =some (bp,fL room ps):=hL
 refine⟨bO room ps g,ah.of (s:= .el (.one (.int .i64))) fun w' h'=>KZ ((H.get hL').ext h') hs g,aa (fun c=>?_) (fun c=>?_)⟩
 ·have e:bO room ps g= -1:=by simpa using c
  have e2:dx room ps g (x1,x2,x3,x4,x5,xu)=((0,3),ps):=if_pos e
  rw[e2] at k
  refine aj.go H fun w3 H=>k w3 ?_
  have e3:L.set j (bp,fL room ps)=L:=List.ext_getElem? fun m=>by
   by_cases hm:j=m
   ·subst hm;rw[gY hL,hL]
   ·rw[List.getElem?_set_ne hm]
  show aF D G w0 w3 (L.set j (bp,fL room ps))
  rw[e3];exact H.sub (List.sublist_cons_self _ _)
 ·have e:bO room ps g≠ -1:=by simpa using c
  have e2:dx room ps g (x1,x2,x3,x4,x5,xu)=((bO room ps g,0),ps.set (ix g (bO room ps g)) (x1,x2,x3,x4,x5,xu)):=if_neg e
  rw[e2] at k
  have hin:=(k8 hg e).1
  have WU:=bZ.1 hin
  have hk:=mu hin hhi
  have es:bL .i64 g 1=g - 1:=bS (by omega) (by omega)
  rw[es]
  have ea:af (af (af (some ⟨bp,0,none⟩) 0) ((g - 1).toNat*160)) ((bO room ps g).toNat*5)=af (some ⟨bp,0,none⟩) (ix g (bO room ps g)*aI eQ):=by
   rw[aK,aK,aK,aK]
   unfold ix
   congr 2
   show _=0+ _*5
   omega
  have VM:af (af (some ⟨bp,0,none⟩) 0) ((g - 1).toNat*160)=some ⟨bp,0+0+(g - 1).toNat*160,none⟩:=by rw[aK,aK]
  rw[ea,VM]
  refine ag.at 0 H rfl (x:=(x1,x2,x3,x4,x5,())) rfl ⟨rfl,rfl,⟨rfl,by omega,by omega⟩,⟨rfl,by omega,by omega⟩,?_⟩
  refine av.flat (j+1) H (x1,x2,x3,x4,x5,()) hL' rfl rfl (by rw[hs.len];exact hk) fun w3 H=>aj.go H fun w4 H=>k w4 ?_
  exact H.sub (List.sublist_cons_self _ _)
theorem jJ {j:Nat} {x:Nat×List Value} (h:L[j]? =some x):L.set j x=L:=List.ext_getElem? fun m=>by
 by_cases hm:j=m
 ·subst hm;rw[gY h,h]
 ·rw[List.getElem?_set_ne hm]
theorem K6 (H:aF D G w0 w L) (j:Nat) (hL:L[j]? =some (bp,fL room ps)) (hs:okS room ps) (g r:Int) {K:Int×Int×Unit->World->Prop}
 (k: ∀w2,aF D G w0 w2 (L.set j (bp,fL room (gS room ps g r).2))->K ((gS room ps g r).1.1,(gS room ps g r).1.2,()) w2):
 az Tryz.prog 169 (.bq [.one (.int .i64),.one (.int .i64)]) [.pointer (some ⟨bp,0,none⟩),.int .i64 g,.int .i64 r] w K:=by
 refine az.go H fun w1 H=>ai (C:=R1) (aJ:=fun _=>[]) (Eq.mpr (KT _ g r w1 K) ?_)
 refine⟨_,Pz H j hL hs g r,aa (fun c=>?_) (fun c=>?_)⟩
 ·have e: ¬ oD g r=0:=by simpa using c
  have e2:gS room ps g r=((0,oD g r),ps):=if_neg e
  rw[e2] at k
  refine aj.go H fun w3 H=>k w3 ?_
  rw[jJ hL];exact H
 ·have e:oD g r=0:=by simpa using c
  have e2:gS room ps g r=dx room ps g (1,r,0,false,false,()):=if_pos e
  rw[e2] at k
  exact Jv H j hL hs g (nW.1 e).1 (1,r,0,false,false,()) fun w2 H=>aj.go H fun w3 H=>k w3 H
theorem K7 (H:aF D G w0 w L) (j:Nat) (hL:L[j]? =some (bp,fL room ps)) (hs:okS room ps) (g r i:Int) {K:Int×Int×Unit->World->Prop}
 (k: ∀w2,aF D G w0 w2 (L.set j (bp,fL room (gm room ps g r i).2))->K ((gm room ps g r i).1.1,(gm room ps g r i).1.2,()) w2):
 az Tryz.prog 170 (.bq [.one (.int .i64),.one (.int .i64)]) [.pointer (some ⟨bp,0,none⟩),.int .i64 g,.int .i64 r,.int .i64 i] w K:=by
 refine az.go H fun w1 H=>ai (C:=R1) (aJ:=fun _=>[]) (Eq.mpr (KU _ g r i w1 K) ?_)
 have bad: ∀v:Int×Int,gm room ps g r i=(v,ps)->aj w1 fun w1=>K (v.1,v.2,()) w1:=fun v e=>by
  rw[e] at k
  refine aj.go H fun w3 H=>k w3 ?_
  rw[jJ hL];exact H
 refine⟨_,Pz H j hL hs g r,aa (fun c=>?_) (fun c=>?_)⟩
 ·have e: ¬ oD g r=0:=by simpa using c
  exact bad (0,oD g r) (if_neg e)
 have e:oD g r=0:=by simpa using c
 obtain⟨hg,hr,EY⟩:=nW.1 e
 have hb:gm room ps g r i= _:=if_pos e
 refine⟨_,BW H j hL hs r i rfl,?_⟩
 cases hx:mH room ps r i with
 |none=>
  rw[hx] at hb
  exact ay rfl (bad (0,4) hb)
 |some kk=>
  rw[hx] at hb
  obtain⟨hin,hkk,hnz⟩:=eB hx
  have uk:kk<512:=by rw[hkk];exact mu hin hs.hi
  have wK:=hs.get uk
  refine ak rfl ⟨rfl,rfl,ag.bP j H hL (wJ wK (by decide) rfl) (aa (fun c1=>?_) (fun c1=>?_))⟩
  ·exact bad (0,6) (hb.trans (if_pos (by simpa using c1)))
  refine⟨rfl,rfl,ag.bP j H hL (wJ wK (by decide) rfl) (aa (fun c2=>?_) (fun c2=>?_))⟩
  ·exact bad (0,7) (hb.trans ((if_neg (by simpa using c1)).trans (if_pos (by simpa using c2))))
  have BC:=hb.trans ((if_neg (by simpa using c1)).trans (if_neg (by simpa using c2)))
  refine Jv H j hL hs g hg (2,r,i,false,false,()) fun w2 H=>?_
  by_cases hp:bO room ps g= -1
  ·have e3:dx room ps g (2,r,i,false,false,())=((0,3),ps):=if_pos hp
   rw[e3] at H ⊢
   have e4:gm room ps g r i=((0,3),ps):=BC.trans (if_pos hp)
   rw[e4] at k
   exact ak rfl (aj.go H fun w3 H=>k w3 H)
  ·have e3:dx room ps g (2,r,i,false,false,())=((bO room ps g,0),ps.set (ix g (bO room ps g)) (2,r,i,false,false,())):=if_neg hp
   rw[e3] at H ⊢
   have hne:ix g (bO room ps g)≠kk:=fun e5=>by
    rw[hkk] at e5
    exact EY (Jt (k8 hg hp).1 hin hs.hi e5).1
   have e4:gm room ps g r i=((bO room ps g,0), _):=BC.trans (if_neg hp)
   rw[e4] at k
   have BX:=(hs.set (ix g (bO room ps g)) (2,r,i,false,false,())).get uk
   rw[nL hne] at BX
   refine ay rfl ⟨rfl,rfl,?_⟩
   refine av.wJ j H (2,(ps.getD kk zP).2.1,(ps.getD kk zP).2.2.1,(ps.getD kk zP).2.2.2.1,(ps.getD kk zP).2.2.2.2.1,()) (gY hL) BX (by decide) rfl rfl fun w3 H=>⟨rfl,rfl,?_⟩
   rw[List.set_set] at H
   refine av.wJ j H (x:=(2,(ps.getD kk zP).2.1,(ps.getD kk zP).2.2.1,(ps.getD kk zP).2.2.2.1,(ps.getD kk zP).2.2.2.2.1,())) (2,(ps.getD kk zP).2.1,bO room ps g,(ps.getD kk zP).2.2.2.1,(ps.getD kk zP).2.2.2.2.1,()) (gY hL) (by rw[List.getElem?_set_self (by rw[List.length_set,hs.len];exact uk)]) (by decide) rfl rfl fun w4 H=>aj.go H fun w5 H=>k w5 ?_
   rw[List.set_set,List.set_set] at H
   exact H
end
end Go.Proofs.YtdnoecpjcoibmaaGreat.Po
namespace Go.Proofs.YtdnoecpjcoibmaaGreat.Po
set_option maxRecDepth 100000
open Go.RX
theorem jl.nz {room:Int} {ps:List PT} (hT:jl room ps) {g i:Int} {k:Nat} (h:mH room ps g i=some k) (h2:(ps.getD k zP).1=2):
 (ps.getD k zP).2.1≠g/\mO room (ps.getD k zP).2.1 (ps.getD k zP).2.2.1=true/\mH room ps (ps.getD k zP).2.1 (ps.getD k zP).2.2.1=some (ix (ps.getD k zP).2.1 (ps.getD k zP).2.2.1):=by
 obtain⟨hin,hk,hz⟩:=eB h
 subst hk
 have e0:ps.getD (ix g i) zP=gp ps g i:=rfl
 rw[e0] at h2 hz ⊢
 rcases hT.inv g i hin with e|e|⟨_,e2,e3,e4,e5⟩
 ·exact absurd e hz
 ·rw[e.1] at h2;exact absurd h2 (by decide)
 ·refine⟨e2,e3,?_⟩
  rw[pQ e3,if_neg]
  intro e6
  rw[e6] at e4
  exact absurd e4 (by decide)
theorem vW {room:Int} {ps:List PT} {g i:Int} {k:Nat} (hx:mH room ps g i=some k):jA room ps g i=if(ps.getD k zP).1=2 then(0,ps.set (ix (ps.getD k zP).2.1 (ps.getD k zP).2.2.1) ((gp ps (ps.getD k zP).2.1 (ps.getD k zP).2.2.1).1,(gp ps (ps.getD k zP).2.1 (ps.getD k zP).2.2.1).2.1,(gp ps (ps.getD k zP).2.1 (ps.getD k zP).2.2.1).2.2.1,true,(gp ps (ps.getD k zP).2.1 (ps.getD k zP).2.2.1).2.2.2.2)) else(6,ps):=by
 unfold jA;rw[hx]
theorem nH {room:Int} {ps:List PT} {g i:Int} {k:Nat} (hx:mH room ps g i=some k):dP room ps g i=if(ps.getD k zP).1=2 then(0,(ps.set (ix (ps.getD k zP).2.1 (ps.getD k zP).2.2.1) (1,(gp ps (ps.getD k zP).2.1 (ps.getD k zP).2.2.1).2.1,0,(gp ps (ps.getD k zP).2.1 (ps.getD k zP).2.2.1).2.2.2)).set k zP) else(0,ps.set k zP):=by
 unfold dP;rw[hx]
theorem CS {room:Int} {ps:List PT} {g i:Int} (hx:mH room ps g i=none):jA room ps g i=(4,ps):=by unfold jA;rw[hx]
theorem tL {room:Int} {ps:List PT} {g i:Int} (hx:mH room ps g i=none):dP room ps g i=(4,ps):=by unfold dP;rw[hx]
section
variable {D G:List Nat} {w0 w:World} {L:List (Nat×List Value)} {bp:Nat} {room:Int} {ps:List PT}
theorem K8 (H:aF D G w0 w L) (j:Nat) (hL:L[j]? =some (bp,fL room ps)) (hT:jl room ps) (g i:Int) {K:Int->World->Prop}
 (k: ∀w2,aF D G w0 w2 (L.set j (bp,fL room (jA room ps g i).2))->K (jA room ps g i).1 w2):
 az Tryz.prog 171 (.el (.one (.int .i64))) [.pointer (some ⟨bp,0,none⟩),.int .i64 g,.int .i64 i] w K:=by
 refine az.go H fun w1 H=>ai (C:=R1) (aJ:=fun _=>[]) (Eq.mpr (KV _ g i w1 K) ?_)
 have hs:=hT.tookS
 have bad: ∀v:Int,jA room ps g i=(v,ps)->aj w1 fun w1=>K v w1:=fun v e=>by
  rw[e] at k
  refine aj.go H fun w3 H=>k w3 ?_
  rw[jJ hL];exact H
 refine⟨_,BW H j hL hs g i rfl,?_⟩
 cases hx:mH room ps g i with
 |none=>exact ay rfl ⟨4,Ju H j hL hs,bad 4 (by unfold jA;rw[hx])⟩
 |some kk=>
  obtain⟨hin,hkk,hnz⟩:=eB hx
  have uk:kk<512:=by rw[hkk];exact mu hin hs.hi
  have wK:=hs.get uk
  have hb:=vW hx
  refine ak rfl ⟨rfl,rfl,ag.bP j H hL (wJ wK (by decide) rfl) (aa (fun c1=>?_) (fun c1=>?_))⟩
  ·exact bad 6 (hb.trans (if_neg (by simpa using c1)))
  have h2:(ps.getD kk zP).1=2:=by simpa using c1
  rw[hb,if_pos h2] at k
  obtain⟨q1,q2,q3⟩:=hT.nz hx h2
  have hk2:=mu q2 hs.hi
  have BX:=hs.get hk2
  refine⟨rfl,rfl,ag.bP j H hL (wJ wK (by decide) rfl) ⟨rfl,rfl,ag.bP j H hL (wJ wK (by decide) rfl) ⟨_,BW H j hL hs _ _ q3,rfl,rfl,?_⟩⟩⟩
  exact av.wJ j H (_, _, _,true, _,()) hL BX (by decide) rfl rfl fun w3 H=>aj.go H fun w4 H=>k w4 H
theorem av.port (j:Nat) (H:aF D G w0 w L) (hL:L[j]? =some (bp,fL room ps)) {k:Nat} (hk:k<ps.length) (y:PT) {vs:List Value} (hv:vs=aP sQ y) {K:World->Prop}
 (hK: ∀w1,aF D G w0 w1 (L.set j (bp,fL room (ps.set k y)))->K w1):av w (some ⟨bp,k*5,none⟩) vs K:=by
 have:=av.flat j H (e:=eQ) (rest:=[.int .i64 room]) (i:=k) y hL hv rfl hk hK
 rw[aK,Nat.zero_add] at this
 exact this
theorem xR (H:aF D G w0 w L) (j:Nat) (hL:L[j]? =some (bp,fL room ps)) (hT:jl room ps) (g i:Int) {K:Int->World->Prop}
 (k: ∀w2,aF D G w0 w2 (L.set j (bp,fL room (dP room ps g i).2))->K (dP room ps g i).1 w2):
 az Tryz.prog 173 (.el (.one (.int .i64))) [.pointer (some ⟨bp,0,none⟩),.int .i64 g,.int .i64 i] w K:=by
 refine az.go H fun w1 H=>ai (C:=R1) (aJ:=fun _=>[]) (Eq.mpr (FZ _ g i w1 K) ?_)
 have hs:=hT.tookS
 refine⟨_,BW H j hL hs g i rfl,?_⟩
 cases hx:mH room ps g i with
 |none=>
  have e:dP room ps g i=(4,ps):=by unfold dP;rw[hx]
  rw[e] at k
  refine ay rfl ⟨4,Ju H j hL hs,aj.go H fun w3 H=>k w3 ?_⟩
  rw[jJ hL];exact H
 |some kk=>
  obtain⟨hin,hkk,hnz⟩:=eB hx
  have uk:kk<512:=by rw[hkk];exact mu hin hs.hi
  have wK:=hs.get uk
  have hb:=nH hx
  refine ak rfl ⟨rfl,rfl,ag.bP j H hL (wJ wK (by decide) rfl) (aa (fun c1=>?_) (fun c1=>?_))⟩
  ·have h2:(ps.getD kk zP).1=2:=by simpa using c1
   rw[hb,if_pos h2] at k
   obtain⟨q1,q2,q3⟩:=hT.nz hx h2
   have hk2:=mu q2 hs.hi
   have BX:=hs.get hk2
   refine⟨rfl,rfl,ag.bP j H hL (wJ wK (by decide) rfl) ⟨rfl,rfl,ag.bP j H hL (wJ wK (by decide) rfl) ⟨_,BW H j hL hs _ _ q3,rfl,rfl,?_⟩⟩⟩
   obtain⟨y,hy⟩: ∃y,y=gp ps (ps.getD kk zP).2.1 (ps.getD kk zP).2.2.1:=⟨_,rfl⟩
   rw[<-hy] at k
   have BX:ps[ix (ps.getD kk zP).2.1 (ps.getD kk zP).2.2.1]? =some y:=by rw[hy];exact hs.get hk2
   refine av.wJ j H (1,y.2.1,y.2.2.1,y.2.2.2.1,y.2.2.2.2.1,()) hL BX (by decide) rfl rfl fun w3 H=>⟨rfl,rfl,?_⟩
   refine av.wJ j H (x:=(1,y.2.1,y.2.2.1,y.2.2.2.1,y.2.2.2.2.1,())) (1,y.2.1,0,y.2.2.2.1,y.2.2.2.2.1,()) (gY hL) (by rw[List.getElem?_set_self (by rw[hs.len];exact hk2)]) (by decide) rfl rfl fun w4 H=>⟨rfl,?_⟩
   rw[List.set_set,List.set_set] at H
   refine av.port j H (gY hL) (by rw[List.length_set,hs.len];exact uk) zP rfl fun w5 H=>aj.go H fun w6 H=>k w6 ?_
   rw[List.set_set] at H
   exact H
  ·rw[hb,if_neg (by simpa using c1)] at k
   exact⟨rfl,av.port j H hL (by rw[hs.len];exact uk) zP rfl fun w5 H=>aj.go H fun w6 H=>k w6 H⟩
end
end Go.Proofs.YtdnoecpjcoibmaaGreat.Po
namespace Go.Proofs.YtdnoecpjcoibmaaGreat.Po
set_option maxRecDepth 100000
open Go.RX
section
variable {room:Int} {ps:List PT}
theorem jl.QL (hT:jl room ps) {g i:Int} (h:mO room g i=true) (h2:(gp ps g i).1≠2) {y:PT} (hy:y=zP\/(y.1=1/\(1<=y.2.1/\y.2.1<=16)/\y.2.1≠g/\y.2.2.1=0)):jl room (ps.set (ix g i) y) where
 tookS:=hT.tookS.set _ _
 inv g' i' h':=by
  by_cases e:g'=g/\i'=i
  ·have e1:gp (ps.set (ix g i) y) g' i'=y:=(gV hT.tookS h h' y).trans (if_pos e)
   rw[e1,e.1]
   rcases hy with hy|hy
   ·exact .inl hy
   ·exact .inr (.inl hy)
  ·have e1:gp (ps.set (ix g i) y) g' i'=gp ps g' i':=(gV hT.tookS h h' y).trans (if_neg e)
   rw[e1]
   rcases hT.inv g' i' h' with z|z|⟨b1,b2,b3,b4,b5,b6⟩
   ·exact .inl z
   ·exact .inr (.inl z)
   ·have hne: ¬ ((gp ps g' i').2.1=g/\(gp ps g' i').2.2.1=i):=fun c=>by rw[c.1,c.2] at b4;exact h2 b4
    have e2:gp (ps.set (ix g i) y) (gp ps g' i').2.1 (gp ps g' i').2.2.1=gp ps (gp ps g' i').2.1 (gp ps g' i').2.2.1:=(gV hT.tookS h b3 y).trans (if_neg hne)
    rw[e2]
    exact .inr (.inr ⟨b1,b2,b3,b4,b5,b6⟩)
theorem jl.qt (hT:jl room ps) {g i:Int} (h:mO room g i=true) (hz:gp ps g i≠zP) {y:PT} (h1:y.1=(gp ps g i).1) (h2:y.2.1=(gp ps g i).2.1) (h3:y.2.2.1=(gp ps g i).2.2.1):jl room (ps.set (ix g i) y) where
 tookS:=hT.tookS.set _ _
 inv g' i' h':=by
  have key: ∀a b,mO room a b=true->(gp (ps.set (ix g i) y) a b).1=(gp ps a b).1/\(gp (ps.set (ix g i) y) a b).2.1=(gp ps a b).2.1/\(gp (ps.set (ix g i) y) a b).2.2.1=(gp ps a b).2.2.1:=fun a b hab=>by
   by_cases e:a=g/\b=i
   ·rw[(gV hT.tookS h hab y).trans (if_pos e),e.1,e.2];exact⟨h1,h2,h3⟩
   ·rw[(gV hT.tookS h hab y).trans (if_neg e)];exact⟨rfl,rfl,rfl⟩
  obtain⟨k1,k2,k3⟩:=key g' i' h'
  rw[k1,k2,k3]
  rcases hT.inv g' i' h' with z|z|⟨b1,b2,b3,b4,b5,b6⟩
  ·refine .inl ?_
   by_cases e:g'=g/\i'=i
   ·rw[e.1,e.2] at z;exact absurd z hz
   ·rw[(gV hT.tookS h h' y).trans (if_neg e)];exact z
  ·exact .inr (.inl z)
  ·obtain⟨m1,m2,m3⟩:=key _ _ b3
   rw[m1,m2,m3]
   exact .inr (.inr ⟨b1,b2,b3,b4,b5,b6⟩)
theorem jl.dx (hT:jl room ps) {g:Int} (hg:gI g=true) {y:PT} (hy:y.1=1/\(1<=y.2.1/\y.2.1<=16)/\y.2.1≠g/\y.2.2.1=0):jl room (dx room ps g y).2:=by
 unfold Go.Proofs.YtdnoecpjcoibmaaGreat.Po.dx
 split
 ·exact hT
 ·rename_i hp
  obtain⟨h1,h2⟩:=k8 hg hp
  rw[pQ h1] at h2
  have hz:gp ps g (bO room ps g)=zP:=by
   by_cases e:gp ps g (bO room ps g)=zP
   ·exact e
   ·rw[if_neg e] at h2;cases h2
  exact hT.QL h1 (by rw[hz];decide) (.inr hy)
theorem jl.gS (hT:jl room ps) (g r:Int):jl room (gS room ps g r).2:=by
 unfold Go.Proofs.YtdnoecpjcoibmaaGreat.Po.gS
 split
 ·rename_i e
  obtain⟨h1,h2,h3⟩:=nW.1 e
  exact hT.dx h1 ⟨rfl,iU.1 h2,fun e=>h3 e.symm,rfl⟩
 ·exact hT
theorem jl.gm (hT:jl room ps) (g r i:Int):jl room (gm room ps g r i).2:=by
 unfold Go.Proofs.YtdnoecpjcoibmaaGreat.Po.gm
 split
 ·rename_i e
  obtain⟨h1,h2,h3⟩:=nW.1 e
  split
  ·exact hT
  ·rename_i k hx
   split
   ·exact hT
   ·split
    ·exact hT
    ·split
     ·exact hT
     ·rename_i n2 n3 hp
      obtain⟨q1,q2⟩:=k8 h1 hp
      rw[pQ q1] at q2
      have hz:gp ps g (bO room ps g)=zP:=by
       by_cases e:gp ps g (bO room ps g)=zP
       ·exact e
       ·rw[if_neg e] at q2;cases q2
      obtain⟨p1,p2,p3⟩:=eB hx
      subst p2
      have e0:ps.getD (ix r i) zP=gp ps r i:=rfl
      rw[e0] at n2 n3 p3 ⊢
      have n3:(gp ps r i).2.1=g:=Classical.byContradiction n3
      generalize bO room ps g=j at q1 hz
      have hs:=hT.tookS
      have key: ∀a b,mO room a b=true->gp ((ps.set (ix g j) (2,r,i,false,false,())).set (ix r i) (2,(gp ps r i).2.1,j,(gp ps r i).2.2.2)) a b=if a=r/\b=i then(2,(gp ps r i).2.1,j,(gp ps r i).2.2.2) else if a=g/\b=j then(2,r,i,false,false,()) else gp ps a b:=fun a b hab=>by
       rw[gV (hs.set _ _) p1 hab,gV hs q1 hab]
      show jl room ((ps.set (ix g j) (2,r,i,false,false,())).set (ix r i) (2,(gp ps r i).2.1,j,(gp ps r i).2.2.2))
      have SX:=(hs.set (ix g j) (2,r,i,false,false,())).set (ix r i) (2,(gp ps r i).2.1,j,(gp ps r i).2.2.2)
      generalize (ps.set (ix g j) (2,r,i,false,false,())).set (ix r i) (2,(gp ps r i).2.1,j,(gp ps r i).2.2.2)=X at key SX ⊢
      refine⟨SX,fun g' i' h'=>?_⟩
      rw[key g' i' h']
      by_cases e1:g'=r/\i'=i
      ·rw[if_pos e1]
       obtain⟨rfl,rfl⟩:=e1
       refine .inr (.inr ⟨rfl,by rw[n3];exact h3,by rw[n3];exact q1,?_⟩)
       show(gp _ (gp ps g' i').2.1 j).1=2/\(gp _ (gp ps g' i').2.1 j).2.1=g'/\(gp _ (gp ps g' i').2.1 j).2.2.1=i'
       rw[n3,key g j q1,if_neg (fun c=>h3 c.1),if_pos ⟨rfl,rfl⟩]
       exact⟨rfl,rfl,rfl⟩
      ·rw[if_neg e1]
       by_cases e2:g'=g/\i'=j
       ·rw[if_pos e2]
        obtain⟨rfl,rfl⟩:=e2
        refine .inr (.inr ⟨rfl,fun c=>h3 c.symm,p1,?_⟩)
        show(gp _ r i).1=2/\(gp _ r i).2.1=g'/\(gp _ r i).2.2.1=i'
        rw[key r i p1,if_pos ⟨rfl,rfl⟩]
        exact⟨rfl,n3,rfl⟩
       ·rw[if_neg e2]
        rcases hT.inv g' i' h' with z|z|⟨b1,b2,b3,b4,b5,b6⟩
        ·exact .inl z
        ·exact .inr (.inl z)
        ·rw[key _ _ b3,if_neg,if_neg]
         ·exact .inr (.inr ⟨b1,b2,b3,b4,b5,b6⟩)
         ·intro c;rw[c.1,c.2,hz] at b4;exact absurd b4 (by decide)
         ·intro c;rw[c.1,c.2] at b4;exact n2 b4
 ·exact hT
theorem jl.jA (hT:jl room ps) (g i:Int):jl room (jA room ps g i).2:=by
 cases hx:mH room ps g i with
 |none=>rw[CS hx];exact hT
 |some k=>
  rw[vW hx]
  split
  ·rename_i h2
   obtain⟨_,q2,q3⟩:=hT.nz hx h2
   obtain⟨_, _,hz⟩:=eB q3
   exact hT.qt q2 hz rfl rfl rfl
  ·exact hT
theorem qS {g x:Int} (h:x∈mZ room ps g):mO room g x=true/\(gp ps g x).2.2.2.1=true/\(gp ps g x).2.2.2.2.1=false:=by
 unfold mZ at h
 rw[List.mem_map] at h
 obtain⟨j,hj,rfl⟩:=h
 rw[List.mem_filter] at hj
 have:=List.mem_range.1 hj.1
 have h2:=hj.2
 unfold qE at h2
 simp only[Bool.and_eq_true,Bool.not_eq_true'] at h2
 exact⟨bZ.2 ⟨iU.1 h2.1,by omega,by omega⟩,h2.2.1,h2.2.2⟩
theorem Eh {g x:Int} (h:x∈mZ room ps g):gp ps g x≠zP:=fun e=>by
 have:=(qS h).2.1
 rw[e] at this
 cases this
theorem jl.fY (hT:jl room ps) (g:Int):jl room (fY room ps g).2:=by
 unfold Go.Proofs.YtdnoecpjcoibmaaGreat.Po.fY
 cases hp:mZ room ps g with
 |nil=>exact hT
 |cons x l=>
  have hm:x∈mZ room ps g:=by rw[hp];exact List.mem_cons_self
  exact hT.qt (qS hm).1 (Eh hm) rfl rfl rfl
theorem jl.dP (hT:jl room ps) (g i:Int):jl room (dP room ps g i).2:=by
 cases hx:mH room ps g i with
 |none=>rw[tL hx];exact hT
 |some k=>
  rw[nH hx]
  obtain⟨p1,p2,p3⟩:=eB hx
  have hs:=hT.tookS
  split
  ·rename_i h2
   obtain⟨r1,r2, _⟩:=hT.nz hx h2
   subst p2
   have e0:ps.getD (ix g i) zP=gp ps g i:=rfl
   rw[e0] at h2 r1 r2 p3 ⊢
   have hi:=hT.inv g i p1
   rcases hi with z|z|⟨_, _, _,c4,c5,c6⟩
   ·exact absurd z p3
   ·rw[z.1] at h2;exact absurd h2 (by decide)
   obtain⟨r,hr⟩: ∃r,r=(gp ps g i).2.1:=⟨_,rfl⟩
   obtain⟨j,hj⟩: ∃j,j=(gp ps g i).2.2.1:=⟨_,rfl⟩
   rw[<-hr] at r1 c4 c5 c6 r2 ⊢
   rw[<-hj] at c4 c5 c6 r2 ⊢
   have key: ∀a b,mO room a b=true->gp ((ps.set (ix r j) (1,(gp ps r j).2.1,0,(gp ps r j).2.2.2)).set (ix g i) zP) a b=if a=g/\b=i then zP else if a=r/\b=j then(1,(gp ps r j).2.1,0,(gp ps r j).2.2.2) else gp ps a b:=fun a b hab=>by
    rw[gV (hs.set _ _) p1 hab,gV hs r2 hab]
   show jl room ((ps.set (ix r j) (1,(gp ps r j).2.1,0,(gp ps r j).2.2.2)).set (ix g i) zP)
   have SX:=(hs.set (ix r j) (1,(gp ps r j).2.1,0,(gp ps r j).2.2.2)).set (ix g i) zP
   generalize (ps.set (ix r j) (1,(gp ps r j).2.1,0,(gp ps r j).2.2.2)).set (ix g i) zP=X at key SX ⊢
   refine⟨SX,fun g' i' h'=>?_⟩
   rw[key g' i' h']
   by_cases e1:g'=g/\i'=i
   ·rw[if_pos e1];exact .inl rfl
   ·rw[if_neg e1]
    by_cases e2:g'=r/\i'=j
    ·rw[if_pos e2]
     refine .inr (.inl ⟨rfl,?_,?_,rfl⟩)
     ·show 1<=(gp ps r j).2.1/\(gp ps r j).2.1<=16
      rw[c5];exact(bZ.1 p1).1
     ·show(gp ps r j).2.1≠g'
      rw[c5,e2.1];exact fun c=>r1 c.symm
    ·rw[if_neg e2]
     rcases hT.inv g' i' h' with z|z|⟨b1,b2,b3,b4,b5,b6⟩
     ·exact .inl z
     ·exact .inr (.inl z)
     ·rw[key _ _ b3,if_neg,if_neg]
      ·exact .inr (.inr ⟨b1,b2,b3,b4,b5,b6⟩)
      ·intro c
       rw[c.1,c.2] at b5 b6
       exact e1 ⟨by rw[<-b5,c5],by rw[<-b6,c6]⟩
      ·intro c
       rw[c.1,c.2] at b5 b6
       exact e2 ⟨by rw[<-b5, <-hr],by rw[<-b6, <-hj]⟩
  ·rename_i h2
   subst p2
   exact hT.QL p1 h2 (.inl rfl)
end
end Go.Proofs.YtdnoecpjcoibmaaGreat.Po
namespace Go.Proofs.YtdnoecpjcoibmaaGreat.Po
set_option maxRecDepth 100000
open Go.RX
section
variable {D G:List Nat} {w0 w:World} {L:List (Nat×List Value)} {bp:Nat} {room:Int} {ps:List PT}
def xC (ps:List PT) (g:Int) (i:Nat):List Int:=((List.range i).filter (qE ps g)).map fun i=>((i:Nat):Int)
theorem CT (g:Int) (i:Nat):xC ps g (i+1)=xC ps g i++(if qE ps g i then[((i:Nat):Int)] else[]):=by
 unfold xC
 rw[List.range_succ,List.filter_append,List.map_append]
 by_cases h:qE ps g i=true
 ·rw[if_pos h,List.filter_cons,if_pos h];rfl
 ·rw[if_neg h,List.filter_cons,if_neg h];rfl
theorem F5 (g:Int) (i:Nat):(xC ps g i).length<=i:=by
 unfold xC
 rw[List.length_map]
 exact Nat.le_trans (List.length_filter_le _ _) (by simp)
theorem CU {g:Int} {i:Nat} (hi:(i:Int)<room) (hx:mH room ps g i=none):qE ps g i=false:=by
 unfold qE
 cases hg:gI g with
 |false=>rfl
 |true=>
  have hin:mO room g i=true:=bZ.2 ⟨iU.1 hg,by omega,hi⟩
  rw[pQ hin] at hx
  by_cases e:gp ps g i=zP
  ·rw[e];rfl
  ·rw[if_neg e] at hx;cases hx
theorem CV {g:Int} {i:Nat} {k:Nat} (hx:mH room ps g i=some k):qE ps g i=((ps.getD k zP).2.2.2.1&& !(ps.getD k zP).2.2.2.2.1):=by
 obtain⟨h1,h2, _⟩:=eB hx
 unfold qE gp
 rw[iU.2 (bZ.1 h1).1,h2];rfl
theorem K9 (hb:aY w bp (fL room ps)) (hs:okS room ps) (g:Int):an Tryz.prog 220 (.el (.one .slice)) [.pointer (some ⟨bp,0,none⟩),.int .i64 g] w (fun r w'=>iM w w' eI r (mZ room ps g)/\Ext w w'):=by
 refine ai (C:=R1) (aJ:=rD) (Eq.mpr (KW _ g w _) ?_)
 have hlo:=hs.lo
 have hhi:=hs.hi
 refine⟨true,ah.of (s:= .el (.one .bool)) fun w' h'=>k7 (hb.ext h') hs,ak rfl ⟨rfl,rfl,ag.jd (At.start [] w) hb (by simp) (lW hs) ?_⟩⟩
 refine⟨fun q s w'=> ∃i:Nat,s.2.1=i/\q+i=room.toNat/\At [] w w' []/\iM w w' eI s.1 (xC ps g i),⟨room.toNat,fun w1 h1=>⟨0,rfl,rfl,(At.start [] w).ext h1,iM.start w w1 eI⟩⟩,?_⟩
 rintro q ⟨⟨sp,sn,sc⟩,i',u⟩ w1 ⟨i,hi,hq,H,ho⟩
 simp only at hi ho
 subst hi
 dsimp only
 refine aa (fun c=>?_) (fun c=>?_)
 ·have hlt:i<room.toNat:=by simp at c;omega
  have hn:=CT (ps:=ps) g i
  have hlen:=F5 (ps:=ps) g i
  refine⟨_,ah.of (s:= .el (.one .ptr)) fun w' h'=>xB ((H.old hb (by simp)).ext h') hs g i,?_⟩
  unfold bP
  cases hx:mH room ps g i with
  |none=>
   rw[CU (by omega) hx] at hn
   rw[if_neg (by decide),List.append_nil] at hn
   refine⟨fun h=>by simp at h,fun h=>by simp at h,false,fun h=>by simp at h,fun h=>by simp at h,fun h=>by simp at h,false,fun h=>by simp at h,ak rfl fun w2 h2=>⟨q - 1,by omega,i+1,by rw[ar (by omega) (by omega)];rfl,by omega,H.ext h2,by rw[hn];exact ho.ext h2⟩⟩
  |some kk=>
   obtain⟨hin,hkk,hnz⟩:=eB hx
   have uk:kk<512:=by rw[hkk];exact mu hin hs.hi
   have wK:=hs.get uk
   rw[CV hx] at hn
   refine⟨fun _=>rfl,fun _=>rfl,ag.jd H hb (by simp) (wJ wK (by decide) rfl) ⟨fun _=>rfl,fun _=>rfl,ag.jd H hb (by simp) (wJ wK (by decide) rfl) (aa (fun c2=>?_) (fun c2=>?_))⟩⟩
   ·have c3:((ps.getD kk zP).2.2.2.1&& !(ps.getD kk zP).2.2.2.2.1)=true:=by simpa using c2
    rw[if_pos c3] at hn
    have Hr:=At.start [] w1
    refine aA.go Hr fun b w2 Hr=>fun w3 h3=>?_
    refine At.Ua (e:=eI) (i:=0) H ho (Hr.ext h3) (i:Int) rfl rfl rfl rfl rfl (by omega) fun s' w4 H4 Y9 w5 h5=>⟨q - 1,by omega,i+1,by rw[ar (by omega) (by omega)];rfl,by omega,H4.ext h5,?_⟩
    rw[hn];exact Y9.ext h5
   ·have c3: ¬ ((ps.getD kk zP).2.2.2.1&& !(ps.getD kk zP).2.2.2.2.1)=true:=by simpa using c2
    rw[if_neg c3,List.append_nil] at hn
    exact fun w2 h2=>⟨q - 1,by omega,i+1,by rw[ar (by omega) (by omega)];rfl,by omega,H.ext h2,by rw[hn];exact ho.ext h2⟩
 ·have hi:i=room.toNat:=by simp at c;omega
  subst hi
  exact fun w2 h2=>⟨ho.ext h2,(H.ext h2).all⟩
theorem K_ (H:aF D G w0 w L) (j:Nat) (hL:L[j]? =some (bp,fL room ps)) (hs:okS room ps) (g:Int) {K:Option Addr×Nat×Nat->World->Prop}
 (k: ∀r rows w2,aF D G w0 w2 (L++rows)->jy eI rows r (mZ room ps g)->K r w2):az Tryz.prog 220 (.el (.one .slice)) [.pointer (some ⟨bp,0,none⟩),.int .i64 g] w K:=
 az.QK H (fun w1 H=>K9 (H.get hL) hs g) k
theorem vX {rows:List (Nat×List Value)} {r:Option Addr×Nat×Nat} {x:Int} {l:List Int} (hr:jy eI rows r (x::l)) (H:aF D G w0 w L) (hm: ∀y∈rows,y∈L):r.1.isSome=true/\cg w (af r.1 0) (.one (.int .i64)) x:=by
 have:=hr.sl H hm 0 x rfl
 simpa using this
theorem La (H:aF D G w0 w L) (j:Nat) (hL:L[j]? =some (bp,fL room ps)) (hs:okS room ps) (g:Int) {K:Int×Bool×Unit->World->Prop}
 (k: ∀w2,aF D G w0 w2 (L.set j (bp,fL room (fY room ps g).2))->K ((fY room ps g).1.1,(fY room ps g).1.2,()) w2):
 az Tryz.prog 172 (.bq [.one (.int .i64),.one .bool]) [.pointer (some ⟨bp,0,none⟩),.int .i64 g] w K:=by
 refine az.go H fun w1 H=>ai (C:=R1) (aJ:=fun _=>[]) (Eq.mpr (KX _ g w1 K) ?_)
 refine K_ H j hL hs g fun r rows w2 H hr=>?_
 have hj:j<L.length:=(List.getElem?_eq_some_iff.1 hL).1
 have XW:(L++rows)[j]? =some (bp,fL room ps):=by rw[List.getElem?_append_left hj];exact hL
 have hl:=hr.1
 cases hp:mZ room ps g with
 |nil=>
  rw[hp] at hl
  have e:fY room ps g=((0,false),ps):=by unfold fY;rw[hp]
  rw[e] at k
  refine ay (by rw[hl];rfl) (aj.go H fun w3 H=>k w3 ?_)
  rw[jJ hL];exact H.sub (List.sublist_append_left _ _)
 |cons x l=>
  have hm:x∈mZ room ps g:=by rw[hp];exact List.mem_cons_self
  rw[hp] at hl hr
  have e:fY room ps g=((x,true),ps.set (ix g x) ((gp ps g x).1,(gp ps g x).2.1,(gp ps g x).2.2.1,false,(gp ps g x).2.2.2.2)):=by unfold fY;rw[hp]
  rw[e] at k
  obtain⟨p1, _, _⟩:=qS hm
  have hx:mH room ps g x=some (ix g x):=by rw[pQ p1,if_neg (Eh hm)]
  have uk:=mu p1 hs.hi
  have wK:ps[ix g x]? =some (gp ps g x):=hs.get uk
  have h0:=vX hr H (fun y hy=>List.mem_append_right _ hy)
  have hlen:(x::l).length=l.length+1:=rfl
  refine ak (by rw[hl,hlen];simp;omega) ⟨⟨h0.1,by omega,by rw[hl,hlen];omega⟩,ag.of x h0.2 ⟨_,BW H j XW hs g x hx,rfl,rfl,?_⟩⟩
  refine av.wJ j H ((gp ps g x).1,(gp ps g x).2.1,(gp ps g x).2.2.1,false,(gp ps g x).2.2.2.2.1,()) XW wK (by decide) rfl rfl fun w3 H=>?_
  rw[List.set_append_left _ _ hj] at H
  have h1:=vX hr H (fun y hy=>List.mem_append_right _ hy)
  refine⟨⟨h1.1,by omega,by rw[hl,hlen];omega⟩,ag.of x h1.2 (aj.go H fun w4 H=>k w4 (H.sub (List.sublist_append_left _ _)))⟩
theorem qT (hT:jl room ps) (g:Int): ∀i,jl room (gq room ps g i).2
 |0=>hT
 |i+1=>(qT hT g i).dP g i
theorem AS (g:Int): ∀i:Nat,0<=(gq room ps g i).1/\(gq room ps g i).1<=i
 |0=>by simp[gq]
 |i+1=>by
  have:=AS g i
  simp only[gq]
  split<;>omega
theorem F6 (hT:jl room ps) {g i j:Int} (hi:mO room g i=true) (hj:mO room g j=true):gp (dP room ps g i).2 g j=if j=i then zP else gp ps g j:=by
 cases hx:mH room ps g i with
 |none=>
  rw[tL hx]
  rw[pQ hi] at hx
  by_cases e:gp ps g i=zP
  ·by_cases e2:j=i
   ·rw[if_pos e2,e2];exact e
   ·rw[if_neg e2]
  ·rw[if_neg e] at hx;cases hx
 |some k=>
  rw[nH hx]
  obtain⟨p1,p2,p3⟩:=eB hx
  have hs:=hT.tookS
  split
  ·rename_i h2
   obtain⟨r1,r2, _⟩:=hT.nz hx h2
   subst p2
   show gp ((ps.set _ _).set (ix g i) zP) g j= _
   rw[gV (hs.set _ _) p1 hj,gV hs r2 hj]
   by_cases e2:j=i
   ·rw[if_pos ⟨rfl,e2⟩,if_pos e2]
   ·rw[if_neg (fun c=>e2 c.2),if_neg (fun c=>r1 c.1.symm),if_neg e2]
  ·subst p2
   show gp (ps.set (ix g i) zP) g j= _
   rw[gV hs p1 hj]
   by_cases e2:j=i
   ·rw[if_pos ⟨rfl,e2⟩,if_pos e2]
   ·rw[if_neg (fun c=>e2 c.2),if_neg e2]
theorem AT (hT:jl room ps) {g:Int} (hg:gI g=true): ∀(n:Nat),(n:Int)<=room-> ∀j,0<=j->j<(n:Int)->gp (gq room ps g n).2 g j=zP
 |0, _,j,h0,h1=>by omega
 |n+1,hn,j,h0,h1=>by
  have hin:mO room g n=true:=bZ.2 ⟨iU.1 hg,by omega,by omega⟩
  have hj:mO room g j=true:=bZ.2 ⟨iU.1 hg,by omega,by omega⟩
  simp only[gq]
  rw[F6 (qT hT g n) hin hj]
  by_cases e:j=n
  ·rw[if_pos e]
  ·rw[if_neg e];exact AT hT hg n (by omega) j h0 (by omega)
def s_ (room:Int) (ps:List PT) (g:Int):Prop:=jl room ps/\ ∀i,mO room g i=true->gp ps g i=zP
theorem Lc {g:Int} (h:s_ room ps g) {k i:Int} (hi:mO room k i=true) (hz:(gp ps k i).2.1=g):(gp ps k i).1≠2:=by
 intro h2
 rcases h.1.inv k i hi with z|z|⟨_, _,b3,b4, _⟩
 ·rw[z] at h2;exact absurd h2 (by decide)
 ·rw[z.1] at h2;exact absurd h2 (by decide)
 ·rw[hz] at b3 b4
  rw[h.2 _ b3] at b4
  exact absurd b4 (by decide)
theorem CW {g:Int} {s:Int×List PT} (h:s_ room s.2 g) (k i:Int):s_ room (m5 room g s k i).2 g:=by
 unfold m5
 split
 ·exact h
 ·rename_i x hx
  split
  ·rename_i hg
   obtain⟨p1,p2,p3⟩:=eB hx
   subst p2
   refine⟨h.1.QL p1 (Lc h p1 hg) (.inl rfl),fun j hj=>?_⟩
   show gp (s.2.set (ix k i) zP) g j=zP
   rw[gV h.1.tookS p1 hj]
   split
   ·rfl
   ·exact h.2 j hj
  ·exact h
theorem p8 {g:Int} {s:Int×List PT} (h:s_ room s.2 g) (k:Int): ∀i,s_ room (kQ room g s k i).2 g
 |0=>h
 |i+1=>CW (p8 h k i) k i
theorem p9 {g:Int} {s:Int×List PT} (h:s_ room s.2 g): ∀k,s_ room (iR room g s k).2 g
 |0=>h
 |k+1=>p8 (p9 h k) _ _
theorem Ld {g:Int} (s:Int×List PT) (k i:Int):s.1<=(m5 room g s k i).1/\(m5 room g s k i).1<=s.1+1:=by
 unfold m5
 split
 ·omega
 ·split
  ·simp only;omega
  ·omega
theorem vv {g:Int} (s:Int×List PT) (k:Int): ∀i:Nat,s.1<=(kQ room g s k i).1/\(kQ room g s k i).1<=s.1+i
 |0=>by simp[kQ]
 |i+1=>by
  have h1:=vv (g:=g) s k i
  have h2:=Ld (g:=g) (room:=room) (kQ room g s k i) k i
  simp only[kQ]
  omega
theorem AU {g:Int} (s:Int×List PT): ∀k:Nat,s.1<=(iR room g s k).1/\(iR room g s k).1<=s.1+k*room.toNat
 |0=>by simp[iR]
 |k+1=>by
  have h1:=AU (g:=g) s k
  have h2:=vv (g:=g) (room:=room) (iR room g s k) ((k:Int)+1) room.toNat
  simp only[iR]
  have e:((k+1:Nat):Int)*(room.toNat:Int)=(k:Int)*(room.toNat:Int)+room.toNat:=by rw[Int.natCast_add,Int.add_mul];simp
  rw[e]
  omega
theorem vY (hT:jl room ps) {g:Int} (hg:gI g=true):s_ room (gq room ps g room.toNat).2 g:=by
 have hlo:=hT.tookS.lo
 exact⟨qT hT g _,fun i hi=>AT hT hg room.toNat (by omega) i (by rw[bZ] at hi;omega) (by rw[bZ] at hi;omega)⟩
theorem Le (hT:jl room ps) (g:Int):jl room (bV room ps g).2:=by
 unfold bV
 split
 ·rename_i hg
  exact(p9 (vY hT hg) 16).1
 ·exact hT
theorem Lf (H:aF D G w0 w L) (j:Nat) (hL:L[j]? =some (bp,fL room ps)) (hT:jl room ps) (g:Int) {K:Int->World->Prop}
 (k: ∀w2,aF D G w0 w2 (L.set j (bp,fL room (bV room ps g).2))->K (bV room ps g).1 w2):
 az Tryz.prog 153 (.el (.one (.int .i64))) [.pointer (some ⟨bp,0,none⟩),.int .i64 g] w K:=by
 refine az.go H fun w1 H=>ai (C:=R1) (aJ:=rE) (Eq.mpr (KY _ g w1 K) ?_)
 have hs:=hT.tookS
 have hlo:=hs.lo
 have hhi:=hs.hi
 refine⟨true,NX H j hL hs,fun _=>trivial,aa (fun c=>?_) (fun c=>?_)⟩
 ·have hg:gI g=false:=by simpa using c
  have e:bV room ps g=(0,ps):=by unfold bV;rw[hg];rfl
  rw[e] at k
  refine aj.go H fun w3 H=>k w3 ?_
  rw[jJ hL];exact H
 have hg:gI g=true:=by simpa using c
 have e:bV room ps g=iR room g (gq room ps g room.toNat) 16:=by unfold bV;rw[if_pos hg]
 rw[e] at k
 refine⟨rfl,rfl,ag.bP j H hL (lW hs) ?_⟩
 refine⟨fun q s w'=> ∃i:Nat,s.2.1=i/\q+i=room.toNat/\s.1=(gq room ps g i).1/\aF D G w0 w' (L.set j (bp,fL room (gq room ps g i).2)),⟨room.toNat,fun w3 h3=>⟨0,rfl,rfl,rfl,by rw[show(gq room ps g 0).2=ps from rfl,jJ hL];exact H.ext h3⟩⟩,?_⟩
 clear H
 rintro q ⟨a,i',u⟩ w3 ⟨i,hi,hq,ha,H⟩
 simp only at hi ha
 subst hi;subst ha
 dsimp only
 have Y_:=AS (room:=room) (ps:=ps) g i
 refine aa (fun c1=>?_) (fun c1=>?_)
 ·have hlt:i<room.toNat:=by simp at c1;omega
  have Za:=qT hT g i
  refine xR H j (gY hL) Za g i fun w4 H=>?_
  rw[List.set_set] at H
  have e5:au .i64 (i:Int) 1=((i+1:Nat):Int):=by rw[ar (by omega) (by omega)];rfl
  refine aa (fun c2 w5 h5=>⟨q - 1,by omega,i+1,e5,by omega,?_,H.ext h5⟩) (fun c2 w5 h5=>⟨q - 1,by omega,i+1,e5,by omega,?_,H.ext h5⟩)
  ·have c3:(dP room (gq room ps g i).2 g i).1=0:=by simpa using c2
   simp only[gq]
   rw[if_pos c3,ar (by omega) (by omega)]
  ·have c3: ¬ (dP room (gq room ps g i).2 g i).1=0:=by simpa using c2
   simp only[gq]
   rw[if_neg c3,Int.add_zero]
 have hi:i=room.toNat:=by simp at c1;omega
 subst hi
 have U':=vY hT hg
 generalize gq room ps g room.toNat=S0 at H k U' Y_
 refine⟨fun q s w'=> ∃m:Nat,s.2.1=(m:Int)+1/\q+m=16/\s.1=(iR room g S0 m).1/\aF D G w0 w' (L.set j (bp,fL room (iR room g S0 m).2)),⟨16,fun w4 h4=>⟨0,rfl,rfl,rfl,H.ext h4⟩⟩,?_⟩
 clear H
 rintro q2 ⟨a,m',u2⟩ w4 ⟨m,hm,Mw,ha,H⟩
 simp only at hm ha
 subst hm;subst ha
 dsimp only
 have XX:=p9 U' m
 have hlA:=AU (room:=room) (g:=g) S0 m
 have aad:(m:Int)*(room.toNat:Int)<=16*32:=Int.mul_le_mul (by omega) (by omega) (by omega) (by omega)
 refine aa (fun c2=>?_) (fun c2=>?_)
 ·have M7:m<16:=by simp at c2;omega
  refine⟨rfl,rfl,ag.bP j H (gY hL) (lW XX.1.tookS) ?_⟩
  refine⟨fun q s w'=> ∃i:Nat,s.2.1=i/\q+i=room.toNat/\s.1=(kQ room g (iR room g S0 m) ((m:Int)+1) i).1/\aF D G w0 w' (L.set j (bp,fL room (kQ room g (iR room g S0 m) ((m:Int)+1) i).2)),⟨room.toNat,fun w5 h5=>⟨0,rfl,rfl,rfl,H.ext h5⟩⟩,?_⟩
  clear H
  rintro q3 ⟨a,i',u3⟩ w5 ⟨i,hi,hq3,ha,H⟩
  simp only at hi ha
  subst hi;subst ha
  dsimp only
  have Zb:=p8 XX ((m:Int)+1) i
  have hlR:=vv (room:=room) (g:=g) (iR room g S0 m) ((m:Int)+1) i
  refine aa (fun c3=>?_) (fun c3=>?_)
  ·have hlt:i<room.toNat:=by simp at c3;omega
   have e5:au .i64 (i:Int) 1=((i+1:Nat):Int):=by rw[ar (by omega) (by omega)];rfl
   have VN:=Zb.1.tookS
   have er:kQ room g (iR room g S0 m) ((m:Int)+1) (i+1)=m5 room g (kQ room g (iR room g S0 m) ((m:Int)+1) i) ((m:Int)+1) i:=rfl
   generalize kQ room g (iR room g S0 m) ((m:Int)+1) i=S2 at*
   refine⟨_,BW H j (gY hL) VN ((m:Int)+1) i rfl,?_⟩
   cases hx:mH room S2.2 ((m:Int)+1) i with
   |none=>
    have ed:m5 room g S2 ((m:Int)+1) i=S2:=by unfold m5;rw[hx]
    rw[ed] at er
    exact⟨fun h=>by simp at h,fun h=>by simp at h,(0:Int),fun h=>by simp at h,ak rfl fun w6 h6=>⟨q3 - 1,by omega,i+1,e5,by omega,by rw[er],by rw[er];exact H.ext h6⟩⟩
   |some kk=>
    obtain⟨hin,hkk,hnz⟩:=eB hx
    have uk:kk<512:=by rw[hkk];exact mu hin hhi
    have wK:=VN.get uk
    have ed:m5 room g S2 ((m:Int)+1) i=if(S2.2.getD kk zP).2.1=g then(S2.1+1,S2.2.set kk zP) else S2:=by unfold m5;rw[hx]
    rw[ed] at er
    refine⟨fun _=>rfl,fun _=>rfl,ag.bP j H (gY hL) (wJ wK (by decide) rfl) (aa (fun c4=>?_) (fun c4=>?_))⟩
    ·have c5:(S2.2.getD kk zP).2.1=g:=by simpa using c4
     rw[if_pos c5] at er
     refine⟨rfl,av.port j H (gY hL) (by rw[VN.len];exact uk) zP rfl fun w6 H w7 h7=>⟨q3 - 1,by omega,i+1,e5,by omega,?_,?_⟩⟩
     ·rw[er,ar (by omega) (by omega)]
     ·rw[er];rw[List.set_set] at H;exact H.ext h7
    ·have c5: ¬ (S2.2.getD kk zP).2.1=g:=by simpa using c4
     rw[if_neg c5] at er
     exact fun w6 h6=>⟨q3 - 1,by omega,i+1,e5,by omega,by rw[er],by rw[er];exact H.ext h6⟩
  ·have hi:i=room.toNat:=by simp at c3;omega
   subst hi
   exact fun w6 h6=>⟨q2 - 1,by omega,m+1,by rw[ar (by omega) (by omega)];omega,by omega,rfl,H.ext h6⟩
 ·have M7:m=16:=by simp at c2;omega
  subst M7
  exact aj.go H fun w5 H=>k w5 H
end
end Go.Proofs.YtdnoecpjcoibmaaGreat.Po
namespace Go.Proofs.YtdnoecpjcoibmaaGreat.Po
set_option maxRecDepth 100000
open Go.RX
def Ed (room:Int) (ps:List PT) (u v:Int):Prop:= ∃i,mO room u i=true/\gp ps u i≠zP/\(gp ps u i).2.1=v
inductive Lk (room:Int) (ps:List PT) (a:Int):Int->Prop
 |refl:Lk room ps a a
 |fwd {u v:Int}:Lk room ps a u->Ed room ps u v->Lk room ps a v
 |bwd {u v:Int}:Lk room ps a v->Ed room ps u v->Lk room ps a u
open Classical in
noncomputable def ta (room:Int) (ps:List PT) (a b:Int):Bool:=gI a&&(gI b&&decide (Lk room ps a b))
theorem su {room:Int} {ps:List PT} {a b:Int}:ta room ps a b=true<->gI a=true/\gI b=true/\Lk room ps a b:=by
 unfold ta;simp
theorem Lk.inv {room:Int} {ps:List PT} {a v:Int} (h:Lk room ps a v) (S:Int->Prop) (ha:S a) (hS: ∀u v,Ed room ps u v->(S u<->S v)):S v:=by
 induction h with
 |refl=>exact ha
 |fwd _ e ih=>exact(hS _ _ e).1 ih
 |bwd _ e ih=>exact(hS _ _ e).2 ih
theorem Ed.um {room:Int} {ps:List PT} (hT:jl room ps) {u v:Int} (h:Ed room ps u v):(1<=u/\u<=16)/\(1<=v/\v<=16)/\u≠v:=by
 obtain⟨i,hi,hz,rfl⟩:=h
 refine⟨(bZ.1 hi).1,?_⟩
 rcases hT.inv u i hi with z|⟨_,z2,z3, _⟩|⟨_,z2,z3, _⟩
 ·exact absurd z hz
 ·exact⟨z2,fun e=>z3 e.symm⟩
 ·exact⟨(bZ.1 z3).1,fun e=>z2 e.symm⟩
def tv (bs:List Bool) (v:Int):Bool:=bs.getD v.toNat false
def w_ (bs:List Bool):List Value:=bs.map Value.bool
theorem m6 {bs:List Bool} {v:Int} (h:v.toNat<bs.length):lI (w_ bs) (0+v.toNat*1) (.one .bool)=some (tv bs v):=by
 have:(w_ bs)[0+v.toNat*1]? =some (.bool (tv bs v)):=by
  unfold w_ tv
  rw[Nat.zero_add,Nat.mul_one,List.getElem?_map,List.getElem?_eq_getElem h,List.getD_eq_getElem?_getD,List.getElem?_eq_getElem h];rfl
 show(match (w_ bs)[0+v.toNat*1]? with|some v=>Sc.bool.proj v|none=>none)= _
 rw[this];rfl
theorem iV {bs:List Bool} {u v:Int} (hu:0<=u) (hl:u.toNat<bs.length) (hv:0<=v):tv (bs.set u.toNat true) v=if v=u then true else tv bs v:=by
 unfold tv
 by_cases e:v=u
 ·subst e;rw[if_pos rfl];simp[List.getD_eq_getElem?_getD,hl]
 ·rw[if_neg e]
  have:u.toNat≠v.toNat:=by omega
  simp[List.getD_eq_getElem?_getD,List.getElem?_set_ne this]
def nR (bs:List Bool):Nat:=bs.countP (! ·)
theorem jj {bs:List Bool} {k:Nat} (hl:k<bs.length):nR (bs.set k true)+(if bs.getD k false=false then 1 else 0)=nR bs:=by
 unfold nR
 rw[List.countP_set hl]
 have e:bs.getD k false=bs[k]:=by rw[List.getD_eq_getElem?_getD,List.getElem?_eq_getElem hl];rfl
 rw[e]
 cases h:bs[k] with
 |true=>simp
 |false=>
  have:0<bs.countP (! ·):=List.countP_pos_iff.2 ⟨bs[k],List.getElem_mem hl,by rw[h];rfl⟩
  simp;omega
theorem p_ {bs:List Bool} {k:Nat} (hl:k<bs.length):nR (bs.set k true)<=nR bs:=by have:=jj hl;omega
def tc (room:Int) (ps:List PT) (a:Int) (bs:List Bool):Prop:=bs.length=17/\tv bs a=true/\ ∀v,0<=v->tv bs v=true->Lk room ps a v
theorem tc.set {room:Int} {ps:List PT} {a:Int} {bs:List Bool} (h:tc room ps a bs) (ha:0<=a) {u:Int} (hu:0<=u/\u<=16) (hl:Lk room ps a u):tc room ps a (bs.set u.toNat true):=by
 have Sx:u.toNat<bs.length:=by rw[h.1];omega
 refine⟨by rw[List.length_set];exact h.1,?_,fun v hv ht=>?_⟩
 ·rw[iV hu.1 Sx ha]
  split
  ·rfl
  ·exact h.2.1
 ·rw[iV hu.1 Sx hv] at ht
  split at ht
  ·rename_i e;rw[e];exact hl
  ·exact h.2.2 v hv ht
def EqAt (ps:List PT) (bs:List Bool) (g i:Int):Prop:=gp ps g i≠zP->tv bs g=tv bs (gp ps g i).2.1
theorem CX {room:Int} {ps:List PT} {a b:Int} {bs:List Bool} (hs:tc room ps a bs) (hc: ∀g i,mO room g i=true->EqAt ps bs g i) (hb:0<=b):tv bs b=true<->Lk room ps a b:=by
 refine⟨hs.2.2 b hb,fun h=>h.inv (fun v=>tv bs v=true) hs.2.1 ?_⟩
 rintro u v ⟨i,hi,hz,rfl⟩
 have:=hc u i hi hz
 show tv bs u=true<->tv bs (gp ps u i).2.1=true
 rw[this]
section
variable {D G:List Nat} {w0 w:World} {L:List (Nat×List Value)} {bp:Nat} {room:Int} {ps:List PT}
theorem td (j:Nat) (H:aF D G w0 w L) {b:Nat} {bs:List Bool} {v:Int} (hL:L[j]? =some (b,w_ bs)) (hl:v.toNat<bs.length) {K:World->Prop}
 (hK: ∀w1,aF D G w0 w1 (L.set j (b,w_ (bs.set v.toNat true)))->K w1):av w (af (some ⟨b,0,none⟩) (v.toNat*1)) [.bool true] K:=by
 refine av.dJ j H hL rfl ?_ fun w1 h1=>hK w1 ?_
 ·rw[Nat.blt_eq];unfold w_;rw[List.length_map];omega
 ·have e:(w_ bs).set (0+v.toNat*1) (.bool true)=w_ (bs.set v.toNat true):=by unfold w_;rw[List.map_set,Nat.zero_add,Nat.mul_one]
  rw[e] at h1;exact h1
theorem CY (hb:aY w bp (fL room ps)) (hT:jl room ps) (a b:Int):an Tryz.prog 54 (.el (.one .bool)) [.pointer (some ⟨bp,0,none⟩),.int .i64 a,.int .i64 b] w (fun x w'=>x=ta room ps a b/\Ext w w'):=by
 refine ai (C:=R1) (aJ:=nK) (Eq.mpr (CP _ a b w _) ?_)
 have hs:=hT.tookS
 have hlo:=hs.lo
 have hhi:=hs.hi
 refine⟨true,ah.of (s:= .el (.one .bool)) fun w' h'=>k7 (hb.ext h') hs,fun _=>trivial,fun _=>trivial,aa (fun c w1 h1=>⟨?_,h1⟩) (fun c=>?_)⟩
 ·unfold ta
  cases ha:gI a with
  |false=>rfl
  |true=>
   cases BC:gI b with
   |false=>rfl
   |true=>rw[ha,BC] at c;cases c
 have VO:gI a=true:=by
  cases ha:gI a with
  |false=>rw[ha] at c;cases c
  |true=>rfl
 have XY:gI b=true:=by
  cases BC:gI b with
  |false=>rw[VO,BC] at c;cases c
  |true=>rfl
 have ha:=iU.1 VO
 have hbr:=iU.1 XY
 have H:=At.start [] w
 refine aA.go H fun bb w2 H=>⟨⟨rfl,by omega,by omega⟩,?_⟩
 have H:At [] w w2 [(bb,w_ (List.replicate 17 false))]:=H
 refine td 0 H rfl (by rw[List.length_replicate];omega) fun w3 H=>?_
 have Fc:tc room ps a ((List.replicate 17 false).set a.toNat true):=by
  refine⟨by simp,?_,fun v hv ht=>?_⟩
  ·rw[iV (by omega) (by simp;omega) (by omega),if_pos rfl]
  ·rw[iV (by omega) (by simp;omega) hv] at ht
   split at ht
   ·rename_i e;rw[e];exact .refl
   ·unfold tv at ht
    rw[List.getD_eq_getElem?_getD,List.getElem?_replicate] at ht
    split at ht<;>cases ht
 have H:At [] w w3 [(bb,w_ ((List.replicate 17 false).set a.toNat true))]:=H
 generalize (List.replicate 17 false).set a.toNat true=bs at Fc H
 refine⟨fun n s w'=> ∃bs,tc room ps a bs/\n=nR bs+(if s.1=true then 1 else 0)/\(s.1=false-> ∀g i,mO room g i=true->EqAt ps bs g i)/\At [] w w' [(bb,w_ bs)],⟨nR bs+1,fun w4 h4=>⟨bs,Fc,rfl,(fun h=>by cases h),H.ext h4⟩⟩,?_⟩
 clear H Fc bs
 rintro n ⟨more,u⟩ w4 ⟨Sy,Fc,hn,XZ,H⟩
 simp only at hn XZ
 dsimp only
 cases more with
 |false=>
  refine ak rfl ⟨⟨rfl,by omega,by omega⟩,ag.bP 0 H rfl (m6 (by rw[Fc.1];omega)) (aj.go H fun w5 H=>⟨?_,H.all⟩)⟩
  have:=CX (b:=b) Fc (XZ rfl) (by omega)
  rw[Bool.eq_iff_iff,su,this]
  exact⟨fun h=>⟨VO,XY,h⟩,fun h=>h.2.2⟩
 |true=>
  rw[if_pos rfl] at hn
  refine ay rfl ?_
  refine⟨fun n1 s w'=> ∃(m:Nat) (bs:List Bool),s.2.1=(m:Int)+1/\n1+m=16/\tc room ps a bs/\(s.1=true->nR bs<nR Sy)/\(s.1=false->bs=Sy/\ ∀g i,mO room g i=true->g<=m->EqAt ps bs g i)/\At [] w w' [(bb,w_ bs)],
   ⟨16,fun w5 h5=>⟨0,Sy,rfl,rfl,Fc,(fun h=>by cases h),fun _=>⟨rfl,fun g i hi h0=>by have:=bZ.1 hi;omega⟩,H.ext h5⟩⟩,?_⟩
  clear H
  rintro n1 ⟨more,m',u⟩ w5 ⟨m,bs,hm,wU,hS,My,zV,H⟩
  simp only at hm My zV
  subst hm
  dsimp only
  refine aa (fun c1=>?_) (fun c1=>?_)
  ·have M7:m<16:=by simp at c1;omega
   refine⟨rfl,rfl,ag.jd H hb (by simp) (lW hs) ?_⟩
   refine⟨fun n2 s w'=> ∃(i:Nat) (bs:List Bool),s.2.1=i/\n2+i=room.toNat/\tc room ps a bs/\(s.1=true->nR bs<nR Sy)/\(s.1=false->bs=Sy/\(∀g i,mO room g i=true->g<=m->EqAt ps bs g i)/\ ∀j:Nat,j<i->EqAt ps bs ((m:Int)+1) j)/\At [] w w' [(bb,w_ bs)],
    ⟨room.toNat,fun w6 h6=>⟨0,bs,rfl,rfl,hS,My,fun h=>⟨(zV h).1,(zV h).2,fun j hj=>absurd hj (by omega)⟩,H.ext h6⟩⟩,?_⟩
   clear H hS My zV bs
   rintro n2 ⟨more,i',u⟩ w6 ⟨i,bs,hi,hn2,hS,My,zV,H⟩
   simp only at hi My zV
   subst hi
   dsimp only
   refine aa (fun c2=>?_) (fun c2=>?_)
   ·have hlt:i<room.toNat:=by simp at c2;omega
    have e5:au .i64 (i:Int) 1=((i+1:Nat):Int):=by rw[ar (by omega) (by omega)];rfl
    have WV:mO room ((m:Int)+1) i=true:=bZ.2 ⟨by omega,by omega,by omega⟩
    refine⟨_,ah.of (s:= .el (.one .ptr)) fun w' h'=>xB ((H.old hb (by simp)).ext h') hs ((m:Int)+1) i,?_⟩
    unfold bP
    cases hx:mH room ps ((m:Int)+1) i with
    |none=>
     have hz:gp ps ((m:Int)+1) i=zP:=by
      rw[pQ WV] at hx
      by_cases e:gp ps ((m:Int)+1) i=zP
      ·exact e
      ·rw[if_neg e] at hx;cases hx
     refine⟨fun h=>by simp at h,false,fun h=>by simp at h,fun h=>by simp at h,fun h=>by simp at h,(0:Int),fun h=>by simp at h,fun h=>by simp at h,false,fun h=>by simp at h,ak rfl fun w7 h7=>⟨n2 - 1,by omega,i+1,bs,e5,by omega,hS,My,fun h=>⟨(zV h).1,(zV h).2.1,fun j hj=>?_⟩,H.ext h7⟩⟩
     rcases Nat.lt_or_ge j i with h1|h1
     ·exact(zV h).2.2 j h1
     ·obtain rfl:j=i:=by omega
      exact fun c=>absurd hz c
    |some kk=>
     obtain⟨hin,hkk,hnz⟩:=eB hx
     have uk:kk<512:=by rw[hkk];exact mu hin hhi
     have wK:=hs.get uk
     have VP:ps.getD kk zP=gp ps ((m:Int)+1) i:=by rw[hkk];rfl
     have hE:Ed room ps ((m:Int)+1) (ps.getD kk zP).2.1:=⟨i,hin,by rw[<-VP];exact hnz,by rw[VP]⟩
     have hr:=hE.um hT
     refine⟨fun _=>⟨rfl,by omega,by omega⟩,ag.bP 0 H rfl (m6 (by rw[hS.1];omega)) ⟨fun _=>rfl,fun _=>rfl,ag.jd H hb (by simp) (wJ wK (by decide) rfl) ⟨fun _=>⟨rfl,by omega,by omega⟩,ag.bP 0 H rfl (m6 (by rw[hS.1];omega)) (aa (fun c3=>?_) (fun c3=>?_))⟩⟩⟩
     ·have hne:tv bs ((m:Int)+1)≠tv bs (ps.getD kk zP).2.1:=by simpa using c3
      have Mz:((m:Int)+1).toNat<bs.length:=by rw[hS.1];omega
      have HU:(ps.getD kk zP).2.1.toNat<(bs.set ((m:Int)+1).toNat true).length:=by rw[List.length_set,hS.1];omega
      have hlk:Lk room ps a ((m:Int)+1)/\Lk room ps a (ps.getD kk zP).2.1:=by
       cases ht:tv bs ((m:Int)+1) with
       |true=>
        have h1:=hS.2.2 _ (by omega) ht
        exact⟨h1,.fwd h1 hE⟩
       |false=>
        rw[ht] at hne
        have h1:=hS.2.2 (ps.getD kk zP).2.1 (by omega) (by cases hh:tv bs (ps.getD kk zP).2.1 with|true=>rfl|false=>rw[hh] at hne;exact absurd rfl hne)
        exact⟨.bwd h1 hE,h1⟩
      refine⟨rfl,rfl,ag.jd H hb (by simp) (wJ wK (by decide) rfl) ⟨⟨rfl,by omega,by omega⟩,td 0 H rfl Mz fun w7 H=>⟨?_,trivial,trivial,⟨rfl,by omega,by omega⟩,td 0 H rfl HU fun w8 H w9 h9=>⟨n2 - 1,by omega,i+1, _,e5,by omega,(hS.set (by omega) (u:=(m:Int)+1) (by omega) hlk.1).set (by omega) (u:=(ps.getD kk zP).2.1) (by omega) hlk.2,fun _=>?_,(fun h=>by cases h),H.ext h9⟩⟩⟩⟩
      ·show cg w7 (af (some ⟨bp,kk*5,none⟩) 1) _ _
       rw[aK];exact bY (H.old hb (by simp)) (wJ wK (by decide) rfl)
      ·have f1:=jj Mz
       have f2:=jj HU
       have hle:nR bs<=nR Sy:=by
        cases more with
        |true=>exact Nat.le_of_lt (My rfl)
        |false=>rw[(zV rfl).1];exact Nat.le_refl _
       have e7:(bs.set ((m:Int)+1).toNat true).getD (ps.getD kk zP).2.1.toNat false=tv bs (ps.getD kk zP).2.1:=by
        have:=iV (bs:=bs) (u:=(m:Int)+1) (v:=(ps.getD kk zP).2.1) (by omega) Mz (by omega)
        rw[if_neg (by omega)] at this
        exact this
       have e8:bs.getD ((m:Int)+1).toNat false=tv bs ((m:Int)+1):=rfl
       rw[e7] at f2
       rw[e8] at f1
       generalize tv bs (ps.getD kk zP).2.1=t1 at f2 hne
       generalize tv bs ((m:Int)+1)=t2 at f1 hne
       have h12:(t1=false/\t2=true)\/(t1=true/\t2=false):=by
        cases t1<;>cases t2<;>first|exact absurd rfl hne|exact .inl ⟨rfl,rfl⟩|exact .inr ⟨rfl,rfl⟩
       rcases h12 with ⟨rfl,rfl⟩|⟨rfl,rfl⟩
       ·rw[if_pos rfl] at f2
        rw[if_neg (by decide)] at f1
        omega
       ·rw[if_neg (by decide)] at f2
        rw[if_pos rfl] at f1
        omega
     ·have heq:tv bs ((m:Int)+1)=tv bs (ps.getD kk zP).2.1:=by simpa using c3
      refine fun w7 h7=>⟨n2 - 1,by omega,i+1,bs,e5,by omega,hS,My,fun h=>⟨(zV h).1,(zV h).2.1,fun j hj=>?_⟩,H.ext h7⟩
      rcases Nat.lt_or_ge j i with h1|h1
      ·exact(zV h).2.2 j h1
      ·obtain rfl:j=i:=by omega
       intro _
       rw[<-VP];exact heq
   ·have hi:i=room.toNat:=by simp at c2;omega
    refine fun w7 h7=>⟨n1 - 1,by omega,m+1,bs,by rw[ar (by omega) (by omega)];omega,by omega,hS,My,fun h=>⟨(zV h).1,fun g j hj hg=>?_⟩,H.ext h7⟩
    by_cases e:g<=m
    ·exact(zV h).2.1 g j hj e
    ·have e2:g=(m:Int)+1:=by omega
     subst e2
     have hj':=bZ.1 hj
     have:=(zV h).2.2 j.toNat (by omega)
     rwa[show((j.toNat:Nat):Int)=j by omega] at this
  ·have M7:m=16:=by simp at c1;omega
   refine fun w6 h6=>⟨nR bs+(if more=true then 1 else 0),?_,bs,hS,rfl,fun h g i hi=>(zV h).2 g i hi (by have:=bZ.1 hi;omega),H.ext h6⟩
   cases more with
   |true=>have:=My rfl;simp;omega
   |false=>rw[(zV rfl).1];simp;omega
end
end Go.Proofs.YtdnoecpjcoibmaaGreat.Po
namespace Go.Proofs.YtdnoecpjcoibmaaGreat
set_option maxRecDepth 100000
open Go.RX
open Po (tv w_ m6 iV nR jj p_ td)
inductive Rc (E:Int->Int->Prop) (a:Int):Int->Prop
 |refl:Rc E a a
 |step {u v:Int}:Rc E a u->E u v->Rc E a v
theorem Rc.head {E:Int->Int->Prop} {a b v:Int} (h:E a b) (k:Rc E b v):Rc E a v:=by
 induction k with
 |refl=>exact .step .refl h
 |step _ e ih=>exact .step ih e
theorem Rc.mono {E E':Int->Int->Prop} {a v:Int} (h:Rc E a v) (k: ∀u v,E u v->E' u v):Rc E' a v:=by
 induction h with
 |refl=>exact .refl
 |step _ e ih=>exact .step ih (k _ _ e)
theorem Rc.inv {E:Int->Int->Prop} {a v:Int} (h:Rc E a v) (S:Int->Prop) (ha:S a) (hS: ∀u v,S u->E u v->S v):S v:=by
 induction h with
 |refl=>exact ha
 |step _ e ih=>exact hS _ _ ih e
structure Pe (E:Int->Int->Prop) (n:Int) (bs bs':List Bool):Prop where
 len:bs'.length=17
 mono: ∀v,0<=v->tv bs v=true->tv bs' v=true
 hit:tv bs' n=true
 snd: ∀v,0<=v->tv bs' v=true->tv bs v=true\/Rc E n v
 cls: ∀u v,0<=u->tv bs' u=true->tv bs u=false->E u v->tv bs' v=true
 nR:nR bs'<=nR bs
theorem Pe.same {E:Int->Int->Prop} {n:Int} {bs:List Bool} (hl:bs.length=17) (h:tv bs n=true):Pe E n bs bs:=
 ⟨hl,fun _ _ h=>h,h,fun _ _ h=> .inl h,fun u v _ h1 h2=>(by rw[h1] at h2;cases h2),Nat.le_refl _⟩
structure Lp (E:Int->Int->Prop) (n:Int) (bs cs:List Bool):Prop where
 len:cs.length=17
 mono: ∀v,0<=v->tv bs v=true->tv cs v=true
 hit:tv cs n=true
 snd: ∀v,0<=v->tv cs v=true->tv bs v=true\/Rc E n v
 cls: ∀u v,0<=u->u≠n->tv cs u=true->tv bs u=false->E u v->tv cs v=true
 nR:nR cs+(if tv bs n=false then 1 else 0)<=nR bs
theorem Lp.init {E:Int->Int->Prop} {n:Int} {bs:List Bool} (hl:bs.length=17) (hn:0<=n/\n<=16):Lp E n bs (bs.set n.toNat true):=by
 have hk:n.toNat<bs.length:=by omega
 refine⟨by rw[List.length_set];exact hl,fun v hv h=>?_,?_,fun v hv h=>?_,fun u v hu hne h1 h2 _=>?_,Nat.le_of_eq (jj hk)⟩
 ·rw[iV hn.1 hk hv];split
  ·rfl
  ·exact h
 ·rw[iV hn.1 hk hn.1,if_pos rfl]
 ·rw[iV hn.1 hk hv] at h
  split at h
  ·rename_i e;subst e;exact .inr .refl
  ·exact .inl h
 ·rw[iV hn.1 hk hu,if_neg hne,h2] at h1
  cases h1
theorem Lp.call {E:Int->Int->Prop} {n m:Int} {bs cs cs':List Bool} (h:Lp E n bs cs) (he:E n m) (d:Pe E m cs cs') (hn:0<=n):Lp E n bs cs':=by
 refine⟨d.len,fun v hv h1=>d.mono v hv (h.mono v hv h1),d.mono n hn h.hit,fun v hv h1=>?_,fun u v hu hne h1 h2 h3=>?_,?_⟩
 ·rcases d.snd v hv h1 with h2|h2
  ·exact h.snd v hv h2
  ·exact .inr (.head he h2)
 ·cases hc:tv cs u with
  |true=>
   have h4:=h.cls u v hu hne hc h2 h3
   by_cases hv:0<=v
   ·exact d.mono v hv h4
   ·have e:tv cs' v=tv cs' 0:=by unfold tv;rw[show v.toNat=(0:Int).toNat by omega]
    have e2:tv cs v=tv cs 0:=by unfold tv;rw[show v.toNat=(0:Int).toNat by omega]
    rw[e];rw[e2] at h4
    exact d.mono 0 (Int.le_refl _) h4
  |false=>exact d.cls u v hu h1 hc h3
 ·have:=h.nR
  have:=d.nR
  omega
theorem Lp.done {E:Int->Int->Prop} {n:Int} {bs cs:List Bool} (h:Lp E n bs cs) (hall: ∀v,E n v->tv cs v=true):Pe E n bs cs:=
 ⟨h.len,h.mono,h.hit,h.snd,fun u v hu h1 h2 h3=>by
  by_cases e:u=n
  ·subst e;exact hall v h3
  ·exact h.cls u v hu e h1 h2 h3,by have:=h.nR;omega⟩
theorem Pe.iff {E:Int->Int->Prop} {a b:Int} {bs':List Bool} (d:Pe E a (List.replicate 17 false) bs') (hb:0<=b) (hE: ∀u v,E u v->0<=u):tv bs' b=true<->Rc E a b:=by
 have h0: ∀v,tv (List.replicate 17 false) v=false:=fun v=>by
  unfold tv
  rw[List.getD_eq_getElem?_getD,List.getElem?_replicate]
  split<;>rfl
 constructor
 ·intro h
  rcases d.snd b hb h with h1|h1
  ·rw[h0] at h1;cases h1
  ·exact h1
 ·intro h
  induction h with
  |refl=>exact d.hit
  |step _ e ih=>exact d.cls _ _ (hE _ _ e) (ih (hE _ _ e)) (h0 _) e
end Go.Proofs.YtdnoecpjcoibmaaGreat
namespace Go.Proofs.YtdnoecpjcoibmaaGreat
set_option maxRecDepth 100000
open Go.RX
open Po (tv w_ m6 iV nR jj p_ td)
def MK (gs:List GT) (u v:Int):Prop:= ∃x∈gs,x≠zG/\((x.1=u/\x.2.2.1=v)\/(x.1=v/\x.2.2.1=u))
def kJ (gs:List GT):Prop:= ∀x∈gs,(x=zG\/((1<=x.1/\x.1<=16)/\(1<=x.2.2.1/\x.2.2.1<=16)/\x.1≠x.2.2.1/\0<=x.2.1/\x.2.1<65536))/\0<=x.2.2.2.2.1/\x.2.2.2.2.1<=1000
open Classical in
noncomputable def tf (gs:List GT) (a b:Int):Bool:=gG a&&(gG b&&decide (Rc (MK gs) a b))
theorem lu {gs:List GT} {a b:Int}:tf gs a b=true<->gG a=true/\gG b=true/\Rc (MK gs) a b:=by
 unfold tf;simp
theorem NY {gs:List GT} (h:kJ gs) {u v:Int} (e:MK gs u v):(1<=u/\u<=16)/\(1<=v/\v<=16):=by
 obtain⟨x,hx,hz,hh⟩:=e
 rcases(h x hx).1 with h1|⟨h1,h2, _⟩
 ·exact absurd h1 hz
 ·rcases hh with ⟨rfl,rfl⟩|⟨rfl,rfl⟩
  ·exact⟨h1,h2⟩
  ·exact⟨h2,h1⟩
theorem ng {g:Int}:gG g=true<->1<=g/\g<=16:=by unfold gG;simp
section
variable {w0:World} {bg br c:Nat} {gs:List GT} {rest:List Value}
abbrev th (be bn bd bg:Nat) (bs:List Bool) (L:List (Nat×List Value)):List (Nat×List Value):=
 (be,[.func (.func 111) #[] #[.pointer (some ⟨bn,0,none⟩),.pointer (some ⟨bd,0,none⟩),.pointer (some ⟨be,0,none⟩)]])::(bn,w_ bs)::(bd,[.pointer (some ⟨bg,0,none⟩)])::L
theorem F7 (hok:kJ gs) (hl:gs.length<=64) {be bn bd:Nat} {L:List (Nat×List Value)} (hm:aY w0 bg (j_ br gs.length c)) (hw:aY w0 br (flat eG gs++rest)):
 ∀(q:Nat) (bs:List Bool),nR bs<=q->bs.length=17-> ∀{w:World} {n:Int},1<=n/\n<=16->At [] w0 w (th be bn bd bg bs L)-> ∀{K:Unit->World->Prop},(∀bs' w2,Pe (MK gs) n bs bs'->At [] w0 w2 (th be bn bd bg bs' L)->K () w2)->
 az Tryz.prog 111 (.bq []) [.int .i64 n,.pointer (some ⟨bn,0,none⟩),.pointer (some ⟨bd,0,none⟩),.pointer (some ⟨be,0,none⟩)] w K:=by
 intro q
 induction q with
 |zero=>
  intro bs hq hb w n hn H K k
  refine az.go H fun w1 H=>ai (C:=G4) (aJ:=iX) (Eq.mpr (tI n _ _ _ w1 K) ?_)
  have qn:n.toNat<bs.length:=by omega
  refine⟨⟨rfl,by omega,by show n<((17:Nat):Int);omega⟩,ag.bP 1 H rfl (m6 qn) ?_⟩
  have ht:tv bs n=true:=by
   cases h:tv bs n with
   |true=>rfl
   |false=>
    have:=jj (bs:=bs) qn
    have h:bs.getD n.toNat false=false:=h
    rw[h,if_pos rfl] at this
    omega
  exact ay ht (aj.go H fun w2 H=>k bs w2 (.same hb ht) H)
 |succ q ih=>
  intro bs hq hb w n hn H K k
  refine az.go H fun w1 H=>ai (C:=G4) (aJ:=iX) (Eq.mpr (tI n _ _ _ w1 K) ?_)
  have qn:n.toNat<bs.length:=by omega
  have wT:(some (⟨bn,0,none⟩:Addr)).isSome=true/\0<=n/\n<((17:Nat):Int):=⟨rfl,by omega,by omega⟩
  refine⟨wT,ag.bP 1 H rfl (m6 qn) ?_⟩
  cases ht:tv bs n with
  |true=>exact ay rfl (aj.go H fun w2 H=>k bs w2 (.same hb ht) H)
  |false=>
  refine ak rfl ⟨wT,td 1 H rfl qn fun w2 H=>ag.at 2 H rfl rfl ⟨rfl,rfl,ag.jd H hm (by simp) rfl ?_⟩⟩
  have L0:=Lp.init (E:=MK gs) hb ⟨by omega,hn.2⟩
  have Sz: ∀{cs},Lp (MK gs) n bs cs->nR cs<=q:=fun{cs} h=>by
   have:=h.nR
   rw[ht,if_pos rfl] at this
   omega
  refine⟨fun m v w'=> ∃(i:Nat) (cs:List Bool),v.1=(i:Int)/\m+i=gs.length/\Lp (MK gs) n bs cs/\(∀(k:Nat) (x:GT),k<i->gs[k]? =some x->x≠zG->(x.1=n->tv cs x.2.2.1=true)/\(x.2.2.1=n->tv cs x.1=true))/\At [] w0 w' (th be bn bd bg cs L),⟨gs.length,fun w3 h3=>⟨0, _,rfl,rfl,L0,fun k x hk=>absurd hk (Nat.not_lt_zero _),H.ext h3⟩⟩,?_⟩
  clear H
  rintro m ⟨v,u⟩ w3 ⟨i,cs,e,X2,hL,hall,H⟩
  dsimp only at e ⊢
  subst e
  refine aa (fun cc=>?_) (fun cc=>aj.go H fun w4 H=>k cs w4 (hL.done ?_) H)
  ·have hi:i<gs.length:=by simpa using cc
   have hx:gs[i]? =some (gs.getD i zG):=by
    rw[List.getD_eq_getElem?_getD,List.getElem?_eq_getElem hi];rfl
   obtain⟨x,sK⟩: ∃x,x=gs.getD i zG:=⟨_,rfl⟩
   rw[<-sK] at hx
   have VQ:=List.mem_of_getElem? hx
   have yU:au .i64 (i:Int) 1=((i+1:Nat):Int):=by rw[ar (by omega) (by omega)];omega
   rw[yU]
   have Qc: ∀{cs':List Bool} {w4:World},Lp (MK gs) n bs cs'->(∀v,0<=v->tv cs v=true->tv cs' v=true)->(x≠zG->(x.1=n->tv cs' x.2.2.1=true)/\(x.2.2.1=n->tv cs' x.1=true))->At [] w0 w4 (th be bn bd bg cs' L)-> ∀w5,Ext w4 w5-> ∃n',n'<m/\ ∃(i':Nat) (cs:List Bool),((i+1:Nat):Int)=(i':Int)/\n'+i'=gs.length/\Lp (MK gs) n bs cs/\(∀(k:Nat) (x:GT),k<i'->gs[k]? =some x->x≠zG->(x.1=n->tv cs x.2.2.1=true)/\(x.2.2.1=n->tv cs x.1=true))/\At [] w0 w5 (th be bn bd bg cs L):=by
    intro cs' w4 hL' hmo hx' H w5 h5
    refine⟨m - 1,by omega,i+1,cs',rfl,by omega,hL',fun k y hk hy hz=>?_,H.ext h5⟩
    have hr:1<=y.1/\1<=y.2.2.1:=by
     rcases(hok y (List.mem_of_getElem? hy)).1 with h1|⟨h1,h2, _⟩
     ·exact absurd h1 hz
     ·exact⟨h1.1,h2.1⟩
    by_cases ek:k=i
    ·subst ek
     rw[hx] at hy;cases hy
     exact hx' hz
    ·obtain⟨h1,h2⟩:=hall k y (by omega) hy hz
     exact⟨fun e=>hmo _ (by omega) (h1 e),fun e=>hmo _ (by omega) (h2 e)⟩
   refine⟨⟨rfl,by omega,by omega⟩,ag.of x (ff (e:=eG) (H.old hw (by simp)) hx) (aA.go H fun b w4 H=>av.all 0 H rfl rfl rfl fun w5 H=>ag.at 0 H rfl (show _=some x from rfl) ⟨trivial,?_⟩)⟩
   rw[AR]
   refine aa (fun d=>Qc hL (fun _ _ h=>h) (fun hz=>absurd (by simpa[dz] using d) hz) (H.sub (List.sublist_cons_self _ _))) (fun d=>?_)
   have hz:x≠zG:=by simpa[dz] using d
   obtain⟨r1,r2,SA⟩:(1<=x.1/\x.1<=16)/\(1<=x.2.2.1/\x.2.2.1<=16)/\x.1≠x.2.2.1:=by
    rcases(hok x VQ).1 with h1|⟨h1,h2,h3, _⟩
    ·exact absurd h1 hz
    ·exact⟨h1,h2,h3⟩
   refine⟨rfl,ag.bP 0 H rfl (show _=some x.1 from rfl) (aa (fun d1=>?_) (fun d1=>⟨rfl,ag.bP 0 H rfl (show _=some x.2.2.1 from rfl) (aa (fun d2=>?_) (fun d2=>?_))⟩))⟩
   ·have d1:x.1=n:=by simpa using d1
    refine ag.at 1 H rfl rfl ⟨rfl,ag.bP 0 H rfl (show _=some x.2.2.1 from rfl) ?_⟩
    have H:At [] w0 w5 (th be bn bd bg cs L):=H.sub (List.sublist_cons_self _ _)
    refine ih cs (Sz hL) hL.len r2 H fun cs' w6 hd H=>Qc (hL.call ⟨x,VQ,hz,.inl ⟨d1,rfl⟩⟩ hd (by omega)) hd.mono (fun _=>⟨fun _=>hd.hit,fun e=>absurd (d1.trans e.symm) SA⟩) H
   ·have d2:x.2.2.1=n:=by simpa using d2
    refine ag.at 1 H rfl rfl ⟨rfl,ag.bP 0 H rfl (show _=some x.1 from rfl) ?_⟩
    have H:At [] w0 w5 (th be bn bd bg cs L):=H.sub (List.sublist_cons_self _ _)
    refine ih cs (Sz hL) hL.len r1 H fun cs' w6 hd H=>Qc (hL.call ⟨x,VQ,hz,.inr ⟨rfl,d2⟩⟩ hd (by omega)) hd.mono (fun _=>⟨fun e=>absurd (e.trans d2.symm) SA,fun _=>hd.hit⟩) H
   ·have d1: ¬ x.1=n:=by simpa using d1
    have d2: ¬ x.2.2.1=n:=by simpa using d2
    exact Qc hL (fun _ _ h=>h) (fun _=>⟨fun e=>absurd e d1,fun e=>absurd e d2⟩) (H.sub (List.sublist_cons_self _ _))
  ·have hi: ¬ i<gs.length:=by simpa using cc
   rintro v ⟨x,hx,hz,hh⟩
   obtain⟨k,hk⟩:=List.getElem?_of_mem hx
   have hk2:=(List.getElem?_eq_some_iff.1 hk).1
   obtain⟨h1,h2⟩:=hall k x (by omega) hk hz
   rcases hh with ⟨e1,e2⟩|⟨e1,e2⟩
   ·rw[<-e2];exact h1 e1
   ·rw[<-e1];exact h2 e2
theorem CZ {w:World} (h:aY w bg (j_ br gs.length c)) (hw:aY w br (flat eG gs++rest)) (h0:0<gs.length) (hl:gs.length<=64) (hok:kJ gs) (a b:Int):
 an Tryz.prog 53 (.el (.one .bool)) [.pointer (some ⟨bg,0,none⟩),.int .i64 a,.int .i64 b] w (fun x w'=>x=tf gs a b/\Ext w w'):=by
 refine ai (C:=G4) (aJ:=fun _=>[]) (Eq.mpr (CI _ a b w _) ?_)
 have H:=At.start [] w
 refine aA.go H fun bd w2 H=>ag.at 0 H rfl rfl ⟨_,k6 (h.ext H.all) h0,fun _=>trivial,fun _=>trivial,aa (fun d=>aj.go H fun w3 H=>⟨?_,H.all⟩) (fun d=>?_)⟩
 ·unfold tf
  cases ha:gG a<;>cases hb:gG b<;>rw[ha,hb] at d<;>first|rfl|(cases d)
 have ha:gG a=true:=by
  cases ha:gG a with
  |true=>rfl
  |false=>rw[ha] at d;cases d
 have hb:gG b=true:=by
  cases hb:gG b with
  |true=>rfl
  |false=>rw[ha,hb] at d;cases d
 have Zc:=ng.1 ha
 have hb':=ng.1 hb
 refine aA.go H fun bn w3 H=>aA.go H fun be w4 H=>av.all 0 H rfl rfl rfl fun w5 H=>ag.at 0 H rfl rfl ?_
 have H:At [] w w5 (th be bn bd bg (List.replicate 17 false) []):=H
 refine F7 hok hl h hw (nR (List.replicate 17 false)) (List.replicate 17 false) (Nat.le_refl _) (by simp) Zc H fun bs' w6 hd H=>?_
 have VR:b.toNat<bs'.length:=by rw[hd.len];omega
 refine⟨⟨rfl,by omega,by show b<((17:Nat):Int);omega⟩,ag.bP 1 H rfl (m6 VR) (aj.go H fun w7 H=>⟨?_,H.all⟩)⟩
 have:=hd.iff (b:=b) (by omega) fun u v e=>by have:=NY hok e;omega
 rw[Bool.eq_iff_iff,lu,this]
 exact⟨fun h=>⟨ha,hb,h⟩,fun h=>h.2.2⟩
end
theorem kJ.set {gs:List GT} (h:kJ gs) (i:Nat) {x:GT} (hx:(x=zG\/((1<=x.1/\x.1<=16)/\(1<=x.2.2.1/\x.2.2.1<=16)/\x.1≠x.2.2.1/\0<=x.2.1/\x.2.1<65536))/\0<=x.2.2.2.2.1/\x.2.2.2.2.1<=1000):kJ (gs.set i x):=fun y hy=>by
 rcases List.mem_or_eq_of_mem_set hy with hy|rfl
 ·exact h y hy
 ·exact hx
theorem IX:((zG:GT)=zG\/((1<=zG.1/\zG.1<=16)/\(1<=zG.2.2.1/\zG.2.2.1<=16)/\zG.1≠zG.2.2.1/\0<=zG.2.1/\zG.2.1<65536))/\0<=zG.2.2.2.2.1/\zG.2.2.2.2.1<=1000:=⟨.inl rfl,by decide,by decide⟩
theorem kJ.rev {gs:List GT} (h:kJ gs) (i o:Int):kJ (jz gs i o):=by
 unfold jz;split
 ·exact h.set _ IX
 ·exact h
theorem kJ.at {gs:List GT} (h:kJ gs) {i:Int} {k:Nat} (hk:jR gs i=some k):((1<=(gs.getD k zG).1/\(gs.getD k zG).1<=16)/\(1<=(gs.getD k zG).2.2.1/\(gs.getD k zG).2.2.1<=16)/\(gs.getD k zG).1≠(gs.getD k zG).2.2.1/\0<=(gs.getD k zG).2.1/\(gs.getD k zG).2.1<65536)/\0<=(gs.getD k zG).2.2.2.2.1/\(gs.getD k zG).2.2.2.2.1<=1000:=by
 obtain⟨_, _, _,hx,hz⟩:=jI hk
 obtain⟨h1,h2⟩:=h _ (List.mem_of_getElem? hx)
 exact⟨h1.resolve_left hz,h2⟩
theorem kJ.take {gs:List GT} (h:kJ gs) (i g:Int) (b:Bool):kJ (cT gs i g b):=by
 unfold cT;split
 ·rename_i he
  unfold e_ at he
  cases ha:jR gs i with
  |none=>rw[ha] at he;cases he
  |some k=>
   rw[ha] at he
   dsimp only at he
   obtain⟨h1,h2⟩:=h.at ha
   obtain⟨_, _,hk, _⟩:=jI ha
   subst hk
   split at he
   ·cases he
   ·split at he
    ·cases he
    ·rename_i hu
     refine h.set _ ⟨.inr h1,?_,?_⟩
     ·show 0<=(gs.getD i.toNat zG).2.2.2.2.1+1;omega
     ·show(gs.getD i.toNat zG).2.2.2.2.1+1<=1000;omega
 ·exact h
theorem kJ.back {gs:List GT} (h:kJ gs) (i g:Int):kJ (dO gs i g):=by
 unfold dO;split
 ·rename_i he
  unfold kB at he
  cases ha:jR gs i with
  |none=>rw[ha] at he;cases he
  |some k=>
   rw[ha] at he
   dsimp only at he
   obtain⟨h1,h2⟩:=h.at ha
   obtain⟨_, _,hk, _⟩:=jI ha
   subst hk
   split at he
   ·cases he
   ·split at he
    ·cases he
    ·rename_i hu
     refine h.set _ ⟨.inr h1,?_,?_⟩
     ·show 0<=(gs.getD i.toNat zG).2.2.2.2.1+ -1;omega
     ·show(gs.getD i.toNat zG).2.2.2.2.1+ -1<=1000;omega
 ·exact h
theorem kJ.off {gs:List GT} (h:kJ gs) (o q t:Int) (b:Bool):kJ (gR gs o q t b):=by
 unfold gR;split
 ·rename_i he
  unfold iQ at he
  split at he
  ·cases he
  ·rename_i hc
   have hc:gG o=true/\gG t=true/\o≠t/\0<=q/\q<65536:=by
    simp only[Bool.or_eq_true,Bool.not_eq_true',beq_iff_eq,decide_eq_true_eq,not_or] at hc
    obtain⟨⟨⟨⟨h1,h2⟩,h3⟩,h4⟩,h5⟩:=hc
    exact⟨by simpa using h1,by simpa using h2,h3,by omega,by omega⟩
   have a1:=ng.1 hc.1
   have a2:=ng.1 hc.2.1
   exact h.set _ ⟨.inr ⟨a1,a2,hc.2.2⟩,Int.le_refl 0,(by decide:(0:Int)<=1000)⟩
 ·exact h
theorem kJ.drop {gs:List GT} (h:kJ gs) (g:Int):kJ (cn gs g):=fun y hy=>by
 unfold cn at hy
 obtain⟨x,hx,rfl⟩:=List.mem_map.1 hy
 split
 ·exact IX
 ·exact h x hx
theorem kJ.new (n:Nat):kJ (List.replicate n zG):=fun y hy=>by
 rw[List.eq_of_mem_replicate hy];exact IX
theorem kJ.use {gs:List GT} (h:kJ gs): ∀x∈gs,0<=x.2.2.2.2.1/\x.2.2.2.2.1<=1000:=fun x hx=>(h x hx).2
end Go.Proofs.YtdnoecpjcoibmaaGreat
namespace Go.Proofs.YtdnoecpjcoibmaaGreat
set_option maxRecDepth 100000
open Go.RX
noncomputable def H0:dD Tryz.prog:={C3 with sX:=false,quiet:=[82,83]}
theorem F8 (w:World) (Post:Option Nat->World->Prop):(aH H0 (fun _=>[]) 87 [] w Post)=(
 ∀w1,Ext w w1-> ∀cQ,Ext (w1.alloc (Obj.map ⟨[]⟩ 0)) cQ-> ∃(r:Nat), ∃(es:Array MapEntry), ∃(clock:Nat),some w1.heap.size=some r/\bA cQ r es clock/\gL cQ r .i64 1 (.agg {toList:=[.string {data:=⟨[99,114,101,97,116,101]⟩},.int .i64 0]}) es clock fun w2=> ∀pG,Ext w2 pG-> ∃(r:Nat), ∃(es:Array MapEntry), ∃(clock:Nat),some w1.heap.size=some r/\bA pG r es clock/\gL pG r .i64 2 (.agg {toList:=[.string {data:=⟨[100,101,115,116,114,111,121]⟩},.int .i64 1]}) es clock fun w2=> ∀pH,Ext w2 pH-> ∃(r:Nat), ∃(es:
 Array MapEntry), ∃(clock:Nat),some w1.heap.size=some r/\bA pH r es clock/\gL pH r .i64 3 (.agg {toList:=[.string {data:=⟨[100,111,110,97,116,101]⟩},.int .i64 2]}) es clock fun w2=> ∀pI,Ext w2 pI-> ∃(r:Nat), ∃(es:Array MapEntry), ∃(clock:Nat),some w1.heap.size=some r/\bA pI r es clock/\gL pI r .i64 4 (.agg {toList:=[.string {data:=⟨[114,101,99,108,97,105,109]⟩},.int .i64 1]}) es clock fun w2=> ∀uM,Ext w2 uM-> ∃(r:Nat), ∃(es:Array MapEntry), ∃(clock:Nat),some w1.heap.size=some r/\bA uM r es clock/\
 gL uM r .i64 5 (.agg {toList:=[.string {data:=⟨[112,114,111,116,101,99,116]⟩},.int .i64 2]}) es clock fun w2=> ∀uN,Ext w2 uN-> ∃(r:Nat), ∃(es:Array MapEntry), ∃(clock:Nat),some w1.heap.size=some r/\bA uN r es clock/\gL uN r .i64 6 (.agg {toList:=[.string {data:=⟨[108,111,97,100]⟩},.int .i64 1]}) es clock fun w2=> ∀BY,Ext w2 BY-> ∃(r:Nat), ∃(es:Array MapEntry), ∃(clock:Nat),some w1.heap.size=some r/\bA BY r es clock/\gL BY r .i64 7 (.agg {toList:=[.string {data:=⟨[115,116,111,114,101]⟩},.int .i64
 2]}) es clock fun w2=> ∀BZ,Ext w2 BZ-> ∃(r:Nat), ∃(es:Array MapEntry), ∃(clock:Nat),some w1.heap.size=some r/\bA BZ r es clock/\gL BZ r .i64 8 (.agg {toList:=[.string {data:=⟨[111,102,102,101,114]⟩},.int .i64 3]}) es clock fun w2=> ∀B6,Ext w2 B6-> ∃(r:Nat), ∃(es:Array MapEntry), ∃(clock:Nat),some w1.heap.size=some r/\bA B6 r es clock/\gL B6 r .i64 9 (.agg {toList:=[.string {data:=⟨[116,97,107,101]⟩},.int .i64 3]}) es clock fun w2=> ∀uT,Ext w2 uT-> ∃(r:Nat), ∃(es:Array MapEntry), ∃(clock:Nat),
 some w1.heap.size=some r/\bA uT r es clock/\gL uT r .i64 10 (.agg {toList:=[.string {data:=⟨[98,97,99,107]⟩},.int .i64 1]}) es clock fun w2=> ∀uU,Ext w2 uU-> ∃(r:Nat), ∃(es:Array MapEntry), ∃(clock:Nat),some w1.heap.size=some r/\bA uU r es clock/\gL uU r .i64 11 (.agg {toList:=[.string {data:=⟨[114,101,118,111,107,101]⟩},.int .i64 1]}) es clock fun w2=> ∀uV,Ext w2 uV-> ∃(r:Nat), ∃(es:Array MapEntry), ∃(clock:Nat),some w1.heap.size=some r/\bA uV r es clock/\gL uV r .i64 12 (.agg {toList:=
 [.string {data:=⟨[111,112,101,110]⟩},.int .i64 1]}) es clock fun w2=> ∀uW,Ext w2 uW-> ∃(r:Nat), ∃(es:Array MapEntry), ∃(clock:Nat),some w1.heap.size=some r/\bA uW r es clock/\gL uW r .i64 13 (.agg {toList:=[.string {data:=⟨[98,105,110,100]⟩},.int .i64 2]}) es clock fun w2=> ∀uX,Ext w2 uX-> ∃(r:Nat), ∃(es:Array MapEntry), ∃(clock:Nat),some w1.heap.size=some r/\bA uX r es clock/\gL uX r .i64 14 (.agg {toList:=[.string {data:=⟨[115,101,110,100]⟩},.int .i64 1]}) es clock fun w2=> ∀uY,Ext w2
 uY-> ∃(r:Nat), ∃(es:Array MapEntry), ∃(clock:Nat),some w1.heap.size=some r/\bA uY r es clock/\gL uY r .i64 15 (.agg {toList:=[.string {data:=⟨[112,111,108,108]⟩},.int .i64 0]}) es clock fun w2=> ∀uZ,Ext w2 uZ-> ∃(r:Nat), ∃(es:Array MapEntry), ∃(clock:Nat),some w1.heap.size=some r/\bA uZ r es clock/\gL uZ r .i64 16 (.agg {toList:=[.string {data:=⟨[99,108,111,115,101]⟩},.int .i64 1]}) es clock fun w2=> ∀u0,Ext w2 u0-> ∃(r:Nat), ∃(es:Array MapEntry), ∃(clock:Nat),some w1.heap.size=some r/\
 bA u0 r es clock/\gL u0 r .i64 17 (.agg {toList:=[.string {data:=⟨[115,119,101,101,112]⟩},.int .i64 0]}) es clock fun w2=>aj w2 fun IY=>Post (some w1.heap.size) IY):=by kernel_rfl
theorem Lg (k:Int) (w:World) (Post:Int->World->Prop):(aH H0 (fun _=>[]) 82 [.int .i64 k] w Post)=(
 az Tryz.prog 87 (.el (.one .map)) [] w fun x w2=> ∃(x_1:ByteArray×Int×Unit), ∃(b:Bool),lO w2 x .i64 k (.agg {toList:=[.string {data:=⟨[]⟩},.int .i64 0]}) (.agg ⟨[.string x_1.1,.int .i64 x_1.2.1]⟩) b/\aA w2 {toList:=[.string {data:=⟨[]⟩},.int .i64 0]} 163 fun b_1 w2=>av w2 (some ⟨b_1,0,none⟩) [.string x_1.1,.int .i64 x_1.2.1] fun w2=>aB (!b) (aj w2 fun w1=>Post (-1) w1) (true=true/\ag w2 none (af (some ⟨b_1,0,none⟩) 1) (.one (.int .i64)) fun(x:Int)=>aj w2 fun w1=>Post x w1)):=by kernel_rfl
theorem Bs (k:Int) (w:World) (Post:Bool->World->Prop):(aH H0 (fun _=>[]) 49 [.int .i64 k] w Post)=(
 aj w fun w1=>Post (k==1||k==2||k==17) w1):=by kernel_rfl
theorem F9 (k a b c:Int) (w:World) (Post:Int×Int×Int×Unit->World->Prop):(bM H0 (fun _=>[]) 83 [.agg ⟨[.int .i64 k,.int .u64 a,.int .u64 b,.int .u64 c]⟩] w Post)=(
 aA w ⟨[.int .i64 k,.int .u64 a,.int .u64 b,.int .u64 c]⟩ 31 fun b w2=>aA w2 ⟨[.int .u64 0,.int .u64 0,.int .u64 0]⟩ 155 fun b_1 w2=>true=true/\ag w2 none (af (some ⟨b,0,none⟩) 1) (.one (.int .u64)) fun(x:Int)=>true=true/\ag w2 none (af (some ⟨b,0,none⟩) 2) (.one (.int .u64)) fun(x_1:Int)=>true=true/\ag w2 none (af (some ⟨b,0,none⟩) 3) (.one (.int .u64)) fun(x_2:Int)=>av w2 (some ⟨b_1,0,none⟩) [.int .u64 x,.int .u64 x_1,.int .u64 x_2] fun w2=>aj w2 fun w1=>ag w1 none (some ⟨b_1,0,none⟩) (.agg [.int .u64,.int .u64,.int .u64]) fun
 (x:Int×Int×Int×Unit)=>Post (x.1,x.2.1,x.2.2.1,Unit.unit) w1):=by kernel_rfl
def oR:Nat->aQ:=(fun|5=>[(13,Go.RX.El.one (Go.RX.Sc.int Go.IntKind.i64))]| _=>[])
theorem F_ (k a b c:Int) (w:World) (Post:Bool->World->Prop):(aH H0 oR 40 [.agg ⟨[.int .i64 k,.int .u64 a,.int .u64 b,.int .u64 c]⟩] w Post)=(
 aA w ⟨[.int .i64 k,.int .u64 a,.int .u64 b,.int .u64 c]⟩ 31 fun b w2=>true=true/\ag w2 none (af (some ⟨b,0,none⟩) 0) (.one (.int .i64)) fun(x:Int)=> ∃(x_1:Int),ah Tryz.prog 82 [.int .i64 x] w2 (.int .i64 x_1)/\aB (x_1== -1) (aj w2 fun w1=>Post false w1) (ag w2 none (some ⟨b,0,none⟩) (.agg [.int .i64,.int .u64,.int .u64,.int .u64]) fun(x:Int×Int×Int×Int×Unit)=> ∃(x_2:Int×Int×Int×Unit),ah Tryz.prog 83 [.agg ⟨[.int .i64 x.1,.int .u64 x.2.1,.int .u64 x.2.2.1,.int .u64 x.2.2.2.1]⟩] w2 (.agg ⟨[.int .u64 x_2.1,.int .u64 x_2.2.1,
 .int .u64 x_2.2.2.1]⟩)/\ ∃(I:Nat->Int×Unit->World->Prop),(∃n, ∀w1,Ext w2 w1->I n (0,Unit.unit) w1)/\ ∀(n:Nat) (s:Int×Unit) (w1:World),I n s w1->aB (decide (s.1<3)) ((0<=s.1/\s.1<(↑3:Int))/\aB (decide (s.1>=x_1)&&BQ [x_2.1,x_2.2.1,x_2.2.2.1] s.1 != 0) (aj w1 fun w1=>Post false w1) (∀w3,Ext w1 w3-> ∃(n':Nat),n'<n/\I n' (au .i64 s.1 1,Unit.unit) w3)) (aj w1 fun w1=>Post true w1))):=by kernel_rfl
end Go.Proofs.YtdnoecpjcoibmaaGreat
namespace Go.RX
set_option maxRecDepth 100000
open Go.RowKit
def lX:Obj->Prop
 | .cells .. =>False
 | _=>True
theorem lX.ne {o:Obj} (h:lX o): ∀a t f,o≠ .cells a t f:=fun a t f e=>by subst e;exact h
structure mP (D G:List Nat) (w0 w:World) (L:List (Nat×List Value)) (M:List (Nat×Obj)):Prop where
 base:aF D G w0 w L
 obj: ∀x∈M,w.heap[x.1]? =some x.2/\lX x.2
 own: ∀x∈M,w0.heap.size<=x.1\/x.1∈G
 nd:(M.map (·.1)).Nodup
 nD: ∀x∈M,x.1∉D
namespace mP
variable {D G:List Nat} {w0 w w1:World} {L L':List (Nat×List Value)} {M M':List (Nat×Obj)}
theorem ext (H:mP D G w0 w L M) (h:Ext w w1):mP D G w0 w1 L M:=
 ⟨H.base.ext h,fun x hx=>⟨h.obj (H.obj x hx).1,(H.obj x hx).2⟩,H.own,H.nd,H.nD⟩
theorem start (G:List Nat) (w:World):mP [] G w w [] []:=⟨At.start G w,fun x hx=>(by cases hx),fun x hx=>(by cases hx),List.nodup_nil,fun x hx=>(by cases hx)⟩
theorem of (H:aF D G w0 w L):mP D G w0 w L []:=⟨H,fun x hx=>(by cases hx),fun x hx=>(by cases hx),List.nodup_nil,fun x hx=>(by cases hx)⟩
theorem sub (H:mP D G w0 w L M) (h:L'.Sublist L):mP D G w0 w L' M:=⟨H.base.sub h,H.obj,H.own,H.nd,H.nD⟩
theorem perm (H:mP D G w0 w L M) (h:L'.Perm L):mP D G w0 w L' M:=⟨H.base.perm h,H.obj,H.own,H.nd,H.nD⟩
theorem Fh (H:mP D G w0 w L M) (h:M'.Sublist M):mP D G w0 w L M':=⟨H.base,fun x hx=>H.obj x (h.subset hx),fun x hx=>H.own x (h.subset hx),(h.map _).nodup H.nd,fun x hx=>H.nD x (h.subset hx)⟩
theorem u5 (H:mP D G w0 w L M) (h:M'.Perm M):mP D G w0 w L M':=⟨H.base,fun x hx=>H.obj x (h.subset hx),fun x hx=>H.own x (h.subset hx),(h.map _).nodup_iff.2 H.nd,fun x hx=>H.nD x (h.subset hx)⟩
theorem get (H:mP D G w0 w L M) {i r:Nat} {o:Obj} (h:M[i]? =some (r,o)):w.heap[r]? =some o:=(H.obj (r,o) (List.mem_of_getElem? h)).1
theorem Jw (H:mP D G w0 w L M) {x:Nat×List Value} (hx:x∈L) {y:Nat×Obj} (hy:y∈M):x.1≠y.1:=
 aF.cU (H.base.cY x hx) (H.obj y hy).1 (H.obj y hy).2.ne
theorem join (H:mP D G w0 w L M) (K:At (L.map (·.1)) w w1 L'):mP D G w0 w1 L' M:=by
 refine⟨H.base.join (fun x hx=>hx) K,fun y hy=>⟨?_,(H.obj y hy).2⟩,H.own,H.nd,H.nD⟩
 have h1:=(H.obj y hy).1
 rw[K.fr.block y.1 (Array.getElem?_eq_some_iff.1 h1).1 (fun hm=>?_)]
 ·exact h1
 ·obtain⟨x,hx,e⟩:=List.mem_map.1 hm
  exact H.Jw hx hy e
theorem put (H:mP D G w0 w L M) {i r:Nat} {o:Obj} (h:M[i]? =some (r,o)) {o':Obj} (ho:lX o'):mP D G w0 (w.putObj r o') L (M.set i (r,o')):=by
 have hm:=List.mem_of_getElem? h
 obtain⟨h1,h2⟩:=H.obj _ hm
 have hlt:r<w.heap.size:=(Array.getElem?_eq_some_iff.1 h1).1
 have M6:(M.set i (r,o')).map (·.1)=M.map (·.1):=by
  apply List.ext_getElem?
  intro j
  rw[List.getElem?_map,List.getElem?_map]
  by_cases e:i=j
  ·subst e
   rw[List.getElem?_set_self (List.getElem?_eq_some_iff.1 h).1,h];rfl
  ·rw[List.getElem?_set_ne e]
 refine⟨⟨⟨H.base.fr.os,H.base.fr.tape,H.base.fr.output,by rw[putObj_size];exact H.base.fr.size,fun k hk hn=>?_⟩,fun x hx=>(H.base.cY x hx).putObj (H.Jw hx hm) _,H.base.own,H.base.nd,fun q hq=>⟨(H.base.qi q hq).1,?_⟩⟩,fun x hx=>?_,fun x hx=>?_,by rw[M6];exact H.nd,fun x hx=>?_⟩
 ·rw[fo (fun e=>?_)]
  ·exact H.base.fr.block k hk hn
  ·subst e
   rcases H.own _ hm with h3|h3
   ·simp only at h3;omega
   ·exact hn h3
 ·rw[fo (fun e=>H.nD _ hm (by rw[<-e];exact hq))]
  exact(H.base.qi q hq).2
 ·obtain⟨j,hj⟩:=List.getElem?_of_mem hx
  by_cases e:i=j
  ·subst e
   rw[List.getElem?_set_self (List.getElem?_eq_some_iff.1 h).1] at hj
   cases hj
   exact⟨iS hlt,ho⟩
  ·rw[List.getElem?_set_ne e] at hj
   have wX:=H.obj x (List.mem_of_getElem? hj)
   refine⟨?_,wX.2⟩
   rw[fo (fun e2=>?_)]
   ·exact wX.1
   ·have hi1:(M.map (·.1))[i]? =some r:=by rw[List.getElem?_map,h];rfl
    have wF:(M.map (·.1))[j]? =some r:=by rw[List.getElem?_map,hj];exact congrArg some e2
    have:=(List.getElem?_inj (by rw[List.length_map];exact(List.getElem?_eq_some_iff.1 h).1) H.nd).1 (hi1.trans wF.symm)
    exact e this
 ·rcases List.mem_or_eq_of_mem_set hx with hx|rfl
  ·exact H.own x hx
  ·exact H.own (r,o) hm
 ·rcases List.mem_or_eq_of_mem_set hx with hx|rfl
  ·exact H.nD x hx
  ·exact H.nD (r,o) hm
theorem alloc (H:mP D G w0 w L M) {o:Obj} (ho:lX o):mP D G w0 (w.alloc o) L ((w.heap.size,o)::M):=by
 have h1:=H.ext (Ext.alloc w o)
 have hn:(w.alloc o).heap[w.heap.size]? =some o:=by
  show(w.heap.push o)[w.heap.size]? =some o
  simp
 refine⟨h1.base,fun x hx=>?_,fun x hx=>?_,?_,fun x hx=>?_⟩
 ·rcases List.mem_cons.1 hx with rfl|hx
  ·exact⟨hn,ho⟩
  ·exact h1.obj x hx
 ·rcases List.mem_cons.1 hx with rfl|hx
  ·exact .inl H.base.fr.size
  ·exact H.own x hx
 ·refine List.nodup_cons.2 ⟨fun hm=>?_,H.nd⟩
  obtain⟨y,hy,e⟩:=List.mem_map.1 hm
  have:=(Array.getElem?_eq_some_iff.1 (H.obj y hy).1).1
  simp only at e
  omega
 ·rcases List.mem_cons.1 hx with rfl|hx
  ·intro hd
   have:=(Array.getElem?_eq_some_iff.1 (H.base.qi _ hd).2).1
   simp only at this
   omega
  ·exact H.nD x hx
theorem all (H:mP [] [] w0 w L M):Ext w0 w:=H.base.all
end mP
end Go.RX
namespace Go.Proofs.YtdnoecpjcoibmaaGreat
set_option maxRecDepth 100000
open Go.RX
theorem fS {D G:List Nat} {w0 w:World} {L:List (Nat×List Value)} {M:List (Nat×Obj)} {r:Nat} {l:List MapEntry} {c:Nat} (H:mP D G w0 w L ((r,.map ⟨l⟩ c)::M)) {n:Int} {val:Value} {K:World->Prop} (hf:Instr.findNow (.int .i64) (.int .i64 n) l 0=some none)
 (k: ∀w2,mP D G w0 w2 L ((r,.map ⟨l++[{key:= .int .i64 n,val,born:=c}]⟩ (c+1))::M)->K w2):
 ∀w1,Ext w w1-> ∃r' es' clock',some r=some r'/\bA w1 r' es' clock'/\gL w1 r' .i64 n val es' clock' K:=fun w1 h=>by
 have H1:=H.ext h
 refine⟨r,⟨l⟩,c,rfl,H1.get (i:=0) rfl,?_⟩
 unfold gL
 rw[show(Array.toList ⟨l⟩)=l from rfl,hf]
 have e:Array.push ⟨l⟩ {key:=Value.int .i64 n,val,born:=c}=⟨l++[{key:= .int .i64 n,val,born:=c}]⟩:=List.push_toArray _ _
 show K (w1.putObj r (.map (Array.push ⟨l⟩ {key:=Value.int .i64 n,val,born:=c}) (c+1)))
 rw[e]
 exact k _ (H1.put (i:=0) rfl trivial)
theorem _root_.Go.RX.mP.PA {D G:List Nat} {w0 w:World} {L:List (Nat×List Value)} {M:List (Nat×Obj)} {r:Nat} {l l':List MapEntry} {c:Nat} (H:mP D G w0 w L ((r,.map ⟨l⟩ c)::M)) (e:l=l'):mP D G w0 w L ((r,.map ⟨l'⟩ c)::M):=by
 subst e;exact H
def fT (k:Int) (s:ByteArray) (n:Int) (b:Nat):MapEntry:={key:= .int .i64 k,val:= .agg ⟨[.string s,.int .i64 n]⟩,born:=b}
def dR:Array MapEntry:=⟨[fT 1 ⟨⟨[99,114,101,97,116,101]⟩⟩ 0 0,fT 2 ⟨⟨[100,101,115,116,114,111,121]⟩⟩ 1 1,fT 3 ⟨⟨[100,111,110,97,116,101]⟩⟩ 2 2,fT 4 ⟨⟨[114,101,99,108,97,105,109]⟩⟩ 1 3,fT 5 ⟨⟨[112,114,111,116,101,99,116]⟩⟩ 2 4,fT 6 ⟨⟨[108,111,97,100]⟩⟩ 1 5,fT 7 ⟨⟨[115,116,111,114,101]⟩⟩ 2 6,fT 8 ⟨⟨[111,102,102,101,114]⟩⟩ 3 7,fT 9 ⟨⟨[116,97,107,101]⟩⟩ 3 8,fT 10 ⟨⟨[98,97,99,107]⟩⟩ 1 9,fT 11 ⟨⟨[114,101,118,111,107,101]⟩⟩ 1 10,fT 12 ⟨⟨[111,112,101,110]⟩⟩ 1 11,fT 13 ⟨⟨[98,105,110,100]⟩⟩ 2 12,fT 14 ⟨⟨[115,101,110,100]⟩⟩ 1 13,fT 15 ⟨⟨[112,111,108,108]⟩⟩ 0 14,fT 16 ⟨⟨[99,108,111,115,101]⟩⟩ 1 15,fT 17 ⟨⟨[115,119,101,101,112]⟩⟩ 0 16]⟩
def i_ (k:Int):Int:=if 1<=k/\k<=17 then([0,1,2,1,2,1,2,3,3,1,1,1,2,1,0,1,0]:List Int).getD (k - 1).toNat 0 else -1
def iB (k a b c:Int):Bool:=decide (i_ k>=0)&&((decide (i_ k>0)||a==0)&&((decide (i_ k>1)||b==0)&&(decide (i_ k>2)||c==0)))
def qu (k:Int):Bool:=k==1||k==2||k==17
section
variable {D G:List Nat} {w0 w:World} {L:List (Nat×List Value)} {M:List (Nat×Obj)}
theorem Ga (H:mP D G w0 w L M) {K:Option Nat->World->Prop} (k: ∀r w2,mP D G w0 w2 L ((r,.map dR 17)::M)->K (some r) w2):az Tryz.prog 87 (.el (.one .map)) [] w K:=by
 refine fun w1 h1=>ai (C:=H0) (aJ:=fun _=>[]) (Eq.mpr (F8 w1 K) ?_)
 have H:=H.ext h1
 intro wm hm
 have H:=(H.ext hm).alloc (o:= .map #[] 0) trivial
 refine fS H (by kernel_rfl) fun w3 H=>?_
 refine fS H (by kernel_rfl) fun w4 H=>?_
 refine fS H (by kernel_rfl) fun w5 H=>?_
 refine fS H (by kernel_rfl) fun w6 H=>?_
 refine fS H (by kernel_rfl) fun w7 H=>?_
 refine fS H (by kernel_rfl) fun w8 H=>?_
 refine fS H (by kernel_rfl) fun w9 H=>?_
 refine fS H (by kernel_rfl) fun lE H=>?_
 refine fS H (by kernel_rfl) fun mh H=>?_
 refine fS H (by kernel_rfl) fun Ab H=>?_
 refine fS H (by kernel_rfl) fun E9 H=>?_
 refine fS H (by kernel_rfl) fun E_ H=>?_
 refine fS H (by kernel_rfl) fun U9 H=>?_
 refine fS H (by kernel_rfl) fun Sv H=>?_
 refine fS H (by kernel_rfl) fun VS H=>?_
 refine fS H (by kernel_rfl) fun Va H=>?_
 refine fS H (by kernel_rfl) fun SY H=>?_
 exact fun SZ S3=>k wm.heap.size SZ ((H.ext S3).PA (by kernel_rfl))
theorem C4 {r:Nat} (h:bA w r dR 17) (k:Int): ∃(x:ByteArray×Int×Unit) (b:Bool),lO w (some r) .i64 k (.agg ⟨[.string ⟨⟨[]⟩⟩,.int .i64 0]⟩) (.agg ⟨[.string x.1,.int .i64 x.2.1]⟩) b/\(b=false->i_ k= -1)/\(b=true->x.2.1=i_ k):=by
 by_cases hk:1<=k/\k<=17
 ·have:k=1\/k=2\/k=3\/k=4\/k=5\/k=6\/k=7\/k=8\/k=9\/k=10\/k=11\/k=12\/k=13\/k=14\/k=15\/k=16\/k=17:=by omega
  rcases this with rfl|rfl|rfl|rfl|rfl|rfl|rfl|rfl|rfl|rfl|rfl|rfl|rfl|rfl|rfl|rfl|rfl
  ·exact⟨(⟨⟨[99,114,101,97,116,101]⟩⟩,0,()),true,⟨r,dR,17,rfl,h,rfl,rfl⟩,fun h=>(by cases h),fun _=>rfl⟩
  ·exact⟨(⟨⟨[100,101,115,116,114,111,121]⟩⟩,1,()),true,⟨r,dR,17,rfl,h,rfl,rfl⟩,fun h=>(by cases h),fun _=>rfl⟩
  ·exact⟨(⟨⟨[100,111,110,97,116,101]⟩⟩,2,()),true,⟨r,dR,17,rfl,h,rfl,rfl⟩,fun h=>(by cases h),fun _=>rfl⟩
  ·exact⟨(⟨⟨[114,101,99,108,97,105,109]⟩⟩,1,()),true,⟨r,dR,17,rfl,h,rfl,rfl⟩,fun h=>(by cases h),fun _=>rfl⟩
  ·exact⟨(⟨⟨[112,114,111,116,101,99,116]⟩⟩,2,()),true,⟨r,dR,17,rfl,h,rfl,rfl⟩,fun h=>(by cases h),fun _=>rfl⟩
  ·exact⟨(⟨⟨[108,111,97,100]⟩⟩,1,()),true,⟨r,dR,17,rfl,h,rfl,rfl⟩,fun h=>(by cases h),fun _=>rfl⟩
  ·exact⟨(⟨⟨[115,116,111,114,101]⟩⟩,2,()),true,⟨r,dR,17,rfl,h,rfl,rfl⟩,fun h=>(by cases h),fun _=>rfl⟩
  ·exact⟨(⟨⟨[111,102,102,101,114]⟩⟩,3,()),true,⟨r,dR,17,rfl,h,rfl,rfl⟩,fun h=>(by cases h),fun _=>rfl⟩
  ·exact⟨(⟨⟨[116,97,107,101]⟩⟩,3,()),true,⟨r,dR,17,rfl,h,rfl,rfl⟩,fun h=>(by cases h),fun _=>rfl⟩
  ·exact⟨(⟨⟨[98,97,99,107]⟩⟩,1,()),true,⟨r,dR,17,rfl,h,rfl,rfl⟩,fun h=>(by cases h),fun _=>rfl⟩
  ·exact⟨(⟨⟨[114,101,118,111,107,101]⟩⟩,1,()),true,⟨r,dR,17,rfl,h,rfl,rfl⟩,fun h=>(by cases h),fun _=>rfl⟩
  ·exact⟨(⟨⟨[111,112,101,110]⟩⟩,1,()),true,⟨r,dR,17,rfl,h,rfl,rfl⟩,fun h=>(by cases h),fun _=>rfl⟩
  ·exact⟨(⟨⟨[98,105,110,100]⟩⟩,2,()),true,⟨r,dR,17,rfl,h,rfl,rfl⟩,fun h=>(by cases h),fun _=>rfl⟩
  ·exact⟨(⟨⟨[115,101,110,100]⟩⟩,1,()),true,⟨r,dR,17,rfl,h,rfl,rfl⟩,fun h=>(by cases h),fun _=>rfl⟩
  ·exact⟨(⟨⟨[112,111,108,108]⟩⟩,0,()),true,⟨r,dR,17,rfl,h,rfl,rfl⟩,fun h=>(by cases h),fun _=>rfl⟩
  ·exact⟨(⟨⟨[99,108,111,115,101]⟩⟩,1,()),true,⟨r,dR,17,rfl,h,rfl,rfl⟩,fun h=>(by cases h),fun _=>rfl⟩
  ·exact⟨(⟨⟨[115,119,101,101,112]⟩⟩,0,()),true,⟨r,dR,17,rfl,h,rfl,rfl⟩,fun h=>(by cases h),fun _=>rfl⟩
 ·have hn: ∀(l:List MapEntry) (i:Nat),(∀e∈l, ∃j:Int,e.key= .int .i64 j/\j≠k)->Instr.findNow (.int .i64) (.int .i64 k) l i=some none:=by
   intro l
   induction l with
   |nil=>intro i _;rfl
   |cons e l ih=>
    intro i he
    obtain⟨j,h1,h2⟩:=he e List.mem_cons_self
    unfold Instr.findNow
    rw[h1]
    have:Instr.sameNow (.int .i64) (.int .i64 k) (.int .i64 j)=some false:=by
     show(if IntKind.i64=IntKind.i64 then some (k==j) else none)=some false
     have:(k==j)=false:=beq_eq_false_iff_ne.2 (fun e=>h2 e.symm)
     rw[if_pos rfl,this]
    rw[this]
    exact ih (i+1) fun e' he'=>he e' (List.mem_cons_of_mem _ he')
  have hf:Instr.findNow (.int .i64) (.int .i64 k) dR.toList 0=some none:=hn _ 0 fun e he=>by
   have he:e∈[fT 1 ⟨⟨[99,114,101,97,116,101]⟩⟩ 0 0,fT 2 ⟨⟨[100,101,115,116,114,111,121]⟩⟩ 1 1,fT 3 ⟨⟨[100,111,110,97,116,101]⟩⟩ 2 2,fT 4 ⟨⟨[114,101,99,108,97,105,109]⟩⟩ 1 3,fT 5 ⟨⟨[112,114,111,116,101,99,116]⟩⟩ 2 4,fT 6 ⟨⟨[108,111,97,100]⟩⟩ 1 5,fT 7 ⟨⟨[115,116,111,114,101]⟩⟩ 2 6,fT 8 ⟨⟨[111,102,102,101,114]⟩⟩ 3 7,fT 9 ⟨⟨[116,97,107,101]⟩⟩ 3 8,fT 10 ⟨⟨[98,97,99,107]⟩⟩ 1 9,fT 11 ⟨⟨[114,101,118,111,107,101]⟩⟩ 1 10,fT 12 ⟨⟨[111,112,101,110]⟩⟩ 1 11,fT 13 ⟨⟨[98,105,110,100]⟩⟩ 2 12,fT 14 ⟨⟨[115,101,110,100]⟩⟩ 1 13,fT 15 ⟨⟨[112,111,108,108]⟩⟩ 0 14,fT 16 ⟨⟨[99,108,111,115,101]⟩⟩ 1 15,fT 17 ⟨⟨[115,119,101,101,112]⟩⟩ 0 16]:=he
   simp only[List.mem_cons,List.not_mem_nil,or_false] at he
   rcases he with rfl|rfl|rfl|rfl|rfl|rfl|rfl|rfl|rfl|rfl|rfl|rfl|rfl|rfl|rfl|rfl|rfl
   all_goals exact⟨_,rfl,by omega⟩
  refine⟨(⟨⟨[]⟩⟩,0,()),false,⟨r,dR,17,rfl,h,?_⟩,fun _=>if_neg hk,fun h=>by cases h⟩
  rw[hf]
  exact⟨rfl,rfl⟩
theorem Lh (k:Int) (w:World):an Tryz.prog 82 (.el (.one (.int .i64))) [.int .i64 k] w (fun x w'=>x=i_ k/\Ext w w'):=by
 refine ai (C:=H0) (aJ:=fun _=>[]) (Eq.mpr (Lg k w _) ?_)
 refine Ga (mP.start [] w) fun r w2 H=>?_
 obtain⟨x,b,hl,h0,h1⟩:=C4 (H.get (i:=0) rfl) k
 have H:=H.base
 refine⟨x,b,hl,aA.go H fun b1 w3 H=>av.all 0 H rfl rfl rfl fun w4 H=>?_⟩
 cases b with
 |false=>exact ay rfl (aj.go H fun w5 H=>⟨(h0 rfl).symm,H.all⟩)
 |true=>exact ak rfl ⟨rfl,ag.bP 0 H rfl rfl (aj.go H fun w5 H=>⟨h1 rfl,H.all⟩)⟩
theorem NZ (k:Int):ah Tryz.prog 82 [.int .i64 k] w (.int .i64 (i_ k)):=ah.of (s:= .el (.one (.int .i64))) fun w' _=>Lh k w'
theorem Li (k a b c:Int):ah Tryz.prog 83 [.agg ⟨[.int .i64 k,.int .u64 a,.int .u64 b,.int .u64 c]⟩] w (Sh.gi (.el (.agg [.int .u64,.int .u64,.int .u64])) (a,b,c,())):=by
 refine ah.of (s:= .el (.agg [.int .u64,.int .u64,.int .u64])) fun w' _=>aL (C:=H0) (aJ:=fun _=>[]) (Eq.mpr (F9 k a b c w' _) ?_)
 have H:=At.start [] w'
 refine aA.go H fun b1 w2 H=>aA.go H fun b2 w3 H=>⟨rfl,ag.bP 1 H rfl rfl ⟨rfl,ag.bP 1 H rfl rfl ⟨rfl,ag.bP 1 H rfl rfl (av.all 0 H rfl rfl rfl fun w4 H=>aj.go H fun w5 H=>ag.at 0 H rfl (show _=some (a,b,c,()) from rfl) ⟨rfl,H.all⟩)⟩⟩⟩
theorem Gb (k a b c:Int) (w:World):an Tryz.prog 40 (.el (.one .bool)) [.agg ⟨[.int .i64 k,.int .u64 a,.int .u64 b,.int .u64 c]⟩] w (fun x w'=>x=iB k a b c/\Ext w w'):=by
 refine ai (C:=H0) (aJ:=oR) (Eq.mpr (F_ k a b c w _) ?_)
 have H:=At.start [] w
 have hA:i_ k= -1\/0<=i_ k:=by
  unfold i_
  split
  ·rename_i h
   right
   have:k=1\/k=2\/k=3\/k=4\/k=5\/k=6\/k=7\/k=8\/k=9\/k=10\/k=11\/k=12\/k=13\/k=14\/k=15\/k=16\/k=17:=by omega
   rcases this with rfl|rfl|rfl|rfl|rfl|rfl|rfl|rfl|rfl|rfl|rfl|rfl|rfl|rfl|rfl|rfl|rfl<;>decide
  ·exact .inl rfl
 refine aA.go H fun b1 w2 H=>⟨rfl,ag.bP 0 H rfl rfl ⟨_,NZ k,aa (fun d=>aj.go H fun w3 H=>⟨?_,H.all⟩) (fun d=>ag.at 0 H rfl (show _=some (k,a,b,c,()) from rfl) ⟨(a,b,c,()),Li k a b c,?_⟩)⟩⟩
 ·have d:i_ k= -1:=by simpa using d
  unfold iB;rw[d];rfl
 have d: ¬ i_ k= -1:=by simpa using d
 unfold iB
 obtain⟨n,hn⟩: ∃n,n=i_ k:=⟨_,rfl⟩
 rw[<-hn] at d hA ⊢
 refine⟨fun q v w'=> ∃i:Nat,v.1=(i:Int)/\q+i=3/\(0<i-> ¬ (n<=0/\a≠0))/\(1<i-> ¬ (n<=1/\b≠0))/\(2<i-> ¬ (n<=2/\c≠0))/\Ext w w',⟨3,fun w3 h3=>⟨0,rfl,rfl,fun h=>by omega,fun h=>by omega,fun h=>by omega,(H.ext h3).all⟩⟩,?_⟩
 rintro q ⟨v,u⟩ w3 ⟨i,e,hq,h1,h2,h3,hx⟩
 dsimp only at e ⊢
 subst e
 refine aa (fun cc=>⟨⟨by omega,by simpa using cc⟩,?_⟩) (fun cc=>fun w4 h4=>⟨?_,hx.trans h4⟩)
 ·have hi:i<3:=by
   have:(i:Int)<3:=by simpa using cc
   omega
  have nx:(¬ (n<=(i:Int)/\BQ [a,b,c] (i:Int)≠0))-> ∀w4,Ext w3 w4-> ∃q',q'<q/\ ∃j:Nat,au .i64 (i:Int) 1=(j:Int)/\q'+j=3/\(0<j-> ¬ (n<=0/\a≠0))/\(1<j-> ¬ (n<=1/\b≠0))/\(2<j-> ¬ (n<=2/\c≠0))/\Ext w w4:=fun hs w4 h4=>by
   refine⟨q - 1,by omega,i+1,by rw[ar (by omega) (by omega)];omega,by omega,?_,?_,?_,hx.trans h4⟩
   ·intro _
    by_cases e:i=0
    ·subst e;exact hs
    ·exact h1 (by omega)
   ·intro _
    by_cases e:i=1
    ·subst e;exact hs
    ·exact h2 (by omega)
   ·intro _
    have e:i=2:=by omega
    subst e;exact hs
  refine aa (fun d1=>fun w4 h4=>⟨?_,hx.trans h4⟩) (fun d1=>nx ?_)
  ·have d1:n<=(i:Int)/\BQ [a,b,c] (i:Int)≠0:=by
    simpa using d1
   have:i=0\/i=1\/i=2:=by omega
   symm
   rw[Bool.eq_false_iff]
   intro hh
   simp only[Bool.and_eq_true,Bool.or_eq_true,decide_eq_true_eq,beq_iff_eq] at hh
   obtain⟨_,q1,q2,q3⟩:=hh
   rcases this with rfl|rfl|rfl
   ·have d2:n<=0/\a≠0:=d1
    omega
   ·have d2:n<=1/\b≠0:=d1
    omega
   ·have d2:n<=2/\c≠0:=d1
    omega
  ·intro d2
   have:(decide ((i:Int)>=n)&&BQ [a,b,c] (i:Int) != 0)=true:=by
    simp only[Bool.and_eq_true,decide_eq_true_eq,bne_iff_ne];exact d2
   rw[this] at d1;cases d1
 ·have hi:i=3:=by
   have: ¬ (i:Int)<3:=by simpa using cc
   omega
  subst hi
  have h1:=h1 (by omega)
  have h2:=h2 (by omega)
  have h3:=h3 (by omega)
  symm
  simp only[Bool.and_eq_true,Bool.or_eq_true,decide_eq_true_eq,beq_iff_eq]
  omega
theorem Lj (k a b c:Int):ah Tryz.prog 40 [.agg ⟨[.int .i64 k,.int .u64 a,.int .u64 b,.int .u64 c]⟩] w (.bool (iB k a b c)):=ah.of (s:= .el (.one .bool)) fun w' _=>Gb k a b c w'
theorem Bt (k:Int) (w:World):an Tryz.prog 49 (.el (.one .bool)) [.int .i64 k] w (fun x w'=>x=qu k/\Ext w w'):=
 ai (C:=H0) (aJ:=fun _=>[]) (Eq.mpr (Bs k w _) fun w1 h1=>⟨rfl,h1⟩)
theorem C5 (k:Int):ah Tryz.prog 49 [.int .i64 k] w (.bool (qu k)):=ah.of (s:= .el (.one .bool)) fun w' _=>Bt k w'
end
end Go.Proofs.YtdnoecpjcoibmaaGreat
namespace Go.RX
set_option maxRecDepth 100000
open Go.ChangeShapes Go.WideShapes Go.RowKit
variable {H:Type} {enc:TypeId×Value->H} {P:Program} {w:World} {base:Nat} {spare:Nat->Bool} {held:Bool}
def vc (P:Program) (g:TypeId->Option (List Sc)):Nat->List Field->Option (List Sc)
 | _,[]=>some []
 |off,f::r=>match g f.type with
  |some a=>if f.offset=off/\P.cellsOf f.type=a.length then match vc P g (off+a.length) r with
    |some b=>some (a++b)
    |none=>none
   else none
  |none=>none
def nh (P:Program):Nat->TypeId->Option (List Sc)
 |0, _=>none
 |d+1,t=>match P.underlying t with
  |some (.int k)=>some [.int k]
  |some .bool=>some [.bool]
  |some (.struct fs)=>match vc P (nh P d) 0 fs.toList with
   |some a=>if P.cellsOf t=a.length then some a else none
   |none=>none
  |some (.array n e)=>match nh P d e with
   |some a=>if P.cellsOf e=a.length/\P.cellsOf t=n*a.length then some (List.replicate n a).flatten else none
   |none=>none
  | _=>none
def WW:(s:Sc)->s.T->Prop
 | .int k,x=>(Lit.int k x).wf=true
 | _, _=>True
def fF:(l:List Sc)->d_ l->Prop
 |[], _=>True
 |s::r,x=>WW s x.1/\fF r x.2
theorem qa: ∀(a b:List Sc) (x:d_ a) (y:d_ b),fF a x->fF b y-> ∃z:d_ (a++b),aP (a++b) z=aP a x++aP b y/\fF (a++b) z
 |[],b, _,y, _,hy=>⟨y,rfl,hy⟩
 |s::r,b,x,y,hx,hy=>by
  obtain⟨z,h1,h2⟩:=qa r b x.2 y hx.2 hy
  exact⟨(x.1,z),by simp only[List.cons_append,aP,h1],hx.1,h2⟩
theorem Ei {g:TypeId->Option (List Sc)} {m:Nat} (hg: ∀t ss cs y,g t=some ss->DataW.trod enc P w base spare held m t cs=some y-> ∃x:d_ ss,cs=aP ss x/\fF ss x)
 {cs:List Value} {fs:Array Field} {xs:List (DataW H×List MemPlace)} (hxs:xs.length=fs.size)
 (hf: ∀(i:Nat) (f:Field),fs[i]? =some f->DataW.trod enc P w base spare held m f.type ((cs.drop f.offset).take (P.cellsOf f.type))=xs[i]?):
 ∀(l:List Field) (i off:Nat) (ss:List Sc),fs.toList.drop i=l->vc P g off l=some ss->cs.length=off+ss.length-> ∃x:d_ ss,cs.drop off=aP ss x/\fF ss x
 |[],i,off,ss, _,h,hlen=>by
  simp only[vc,Option.some.injEq] at h
  subst h
  refine⟨(),?_,trivial⟩
  rw[List.drop_eq_nil_of_le (by simp at hlen;omega)];rfl
 |f::r,i,off,ss,hl,h,hlen=>by
  simp only[vc] at h
  split at h
  ·rename_i a ha
   split at h
   ·rename_i hc
    split at h
    ·rename_i b hb
     cases h
     have hi:i<fs.toList.length:=by
      apply Nat.lt_of_not_le;intro hle
      rw[List.drop_eq_nil_of_le hle] at hl;cases hl
     have Zd:fs[i]? =some f:=by
      have:=congrArg (·[0]?) hl
      simp only[List.getElem?_drop,Nat.add_zero,List.getElem?_cons_zero] at this
      simpa using this
     have X3:=hf i f Zd
     have VT: ∃y,xs[i]? =some y:=⟨_,List.getElem?_eq_getElem (by rw[hxs];simpa using hi)⟩
     obtain⟨y,hy⟩:=VT
     rw[hy,hc.1,hc.2] at X3
     obtain⟨x,hx1,wX⟩:=hg _ _ _ _ ha X3
     have Ze:fs.toList.drop (i+1)=r:=by
      have:=congrArg (List.drop 1) hl
      simpa[List.drop_drop] using this
     obtain⟨z,P9,Qb⟩:=Ei hg hxs hf r (i+1) (off+a.length) b Ze hb (by rw[hlen];simp;omega)
     obtain⟨u,VU,Sx⟩:=qa a b x z wX Qb
     refine⟨u,?_,Sx⟩
     rw[VU, <-hx1, <-P9, <-List.drop_drop]
     exact(List.take_append_drop _ _).symm
    ·cases h
   ·cases h
  ·cases h
theorem xS {a:List Sc} {cs:List Value}: ∀(n off:Nat),(∀i,i<n-> ∃x:d_ a,(cs.drop (off+i*a.length)).take a.length=aP a x/\fF a x)->cs.length=off+n*a.length->
 ∃x:d_ (List.replicate n a).flatten,cs.drop off=aP _ x/\fF _ x
 |0,off, _,hl=>by
  refine⟨(),?_,trivial⟩
  rw[List.drop_eq_nil_of_le (by omega)];rfl
 |n+1,off,h,hl=>by
  obtain⟨x,hx1,wX⟩:=h 0 (by omega)
  obtain⟨z,P9,Qb⟩:=xS (a:=a) (cs:=cs) n (off+a.length) (fun i hi=>by
   have:=h (i+1) (by omega)
   rw[show off+(i+1)*a.length=off+a.length+i*a.length by rw[Nat.add_mul];omega] at this
   exact this) (by rw[hl,Nat.add_mul];omega)
  obtain⟨u,VU,Sx⟩:=qa a (List.replicate n a).flatten x z wX Qb
  refine⟨u,?_,Sx⟩
  show _=aP (a++(List.replicate n a).flatten) u
  rw[VU, <-hx1, <-P9,Nat.zero_mul,Nat.add_zero, <-List.drop_drop]
  exact(List.take_append_drop _ _).symm
theorem om: ∀(d m:Nat) (t:TypeId) (ss:List Sc) (cs:List Value) (y:DataW H×List MemPlace),nh P d t=some ss->DataW.trod enc P w base spare held m t cs=some y-> ∃x:d_ ss,cs=aP ss x/\fF ss x
 |0, _, _, _, _, _,h, _=>by simp[nh] at h
 |d+1,m,t,ss,cs,y,h,ht=>by
  simp only[nh] at h
  split at h
  ·rename_i k hk
   cases h
   obtain⟨n,rfl, _,hw⟩:=DataW.trod_int hk ht
   exact⟨(n,()),rfl,hw,trivial⟩
  ·rename_i hk
   cases h
   obtain⟨b,rfl, _⟩:=DataW.trod_bool hk ht
   exact⟨(b,()),rfl,trivial,trivial⟩
  ·rename_i fs hk
   split at h
   ·rename_i a ha
    split at h
    ·rename_i hc
     cases h
     obtain⟨xs,n, _, _,hl,hlen,hf⟩:=DataW.trod_struct hk ht
     obtain⟨x,h1,h2⟩:=Ei (fun t ss cs y h1 h2=>om d n t ss cs y h1 h2) hlen hf fs.toList 0 0 _ rfl ha (by rw[hl,hc];omega)
     exact⟨x,by simpa using h1,h2⟩
    ·cases h
   ·cases h
  ·rename_i n e hk
   split at h
   ·rename_i a ha
    split at h
    ·rename_i hc
     cases h
     obtain⟨xs,k, _, _,hl,hlen,hf⟩:=DataW.trod_array hk ht
     obtain⟨x,h1,h2⟩:=xS (a:=a) (cs:=cs) n 0 (fun i hi=>by
      have h3:=hf i hi
      have VT:xs[i]? =some xs[i]:=List.getElem?_eq_getElem (by omega)
      rw[VT,hc.1] at h3
      rw[Nat.zero_add]
      exact om d k e a _ _ ha h3) (by rw[hl,hc.2];omega)
     exact⟨x,by simpa using h1,h2⟩
    ·cases h
   ·cases h
  ·cases h
theorem sv {r:Reach} {b0:Nat} {t:TypeId} {v:Value} {dd:DataW H} {ps:List MemPlace} (d:Nat) {ss:List Sc} (hf:nh P d t=some ss) (WX:(∃n e,P.underlying t=some (.array n e))\/ ∃fs,P.underlying t=some (.struct fs))
 (hv:Value.okWide P w r b0 t v) (h:DataW.Trod enc P w base spare held t v dd ps): ∃x:d_ ss,v= .agg ⟨aP ss x⟩/\fF ss x:=by
 obtain⟨fuel,ht⟩:=h
 have hc: ∃cs,v= .agg cs:=by
  unfold Value.okWide at hv
  rcases WX with ⟨n,e,h⟩|⟨fs,h⟩<;>(rw[h] at hv;obtain⟨cs,hcs, _⟩:=hv;exact⟨cs,hcs⟩)
 obtain⟨cs,rfl⟩:=hc
 obtain⟨x,h1,h2⟩:=om d _ _ _ _ _ hf ht
 refine⟨x,?_,h2⟩
 have:cs.toList=aP ss x:=h1
 rw[<-this]
theorem fm {t e:TypeId} {a:Option Addr} {n c:Nat} {dd:DataW H} {ps:List MemPlace} (d:Nat) {ss:List Sc} (ht:P.underlying t=some (.slice e)) (hf:nh P d e=some ss) (hc:P.cellsOf e=ss.length)
 (h:DataW.Trod enc P w base spare held t (.slice a n c) dd ps): ∃xs:List (d_ ss),n=xs.length/\n<=maxLen/\Sl w (.agg ss) a xs/\ ∀x∈xs,fF ss x:=by
 obtain⟨fuel,VV⟩:=h
 rcases Deep.open_slice ht VV with ⟨hcs, _⟩|⟨x,len,cap,m,k,D,Pl,hcs, _,hl,hm,S4, _,hx⟩
 ·simp[Value.cells] at hcs
  obtain⟨rfl,rfl,rfl⟩:=hcs
  exact⟨[],rfl,Nat.zero_le _,fun i x hx=>by simp at hx,fun x hx=>by simp at hx⟩
 ·simp[Value.cells] at hcs
  obtain⟨rfl,rfl,rfl⟩:=hcs
  have hlm:n<=m:=by rw[S4];split<;>omega
  have each: ∀i,i<n-> ∃y:d_ ss,(∀j,j<ss.length->w.cell? ((x.add (i*ss.length)).add j)=(aP ss y)[j]?)/\fF ss y:=by
   intro i hi
   obtain⟨cs',h1,h2⟩:=hx i (by omega)
   obtain⟨y,hy1,Vb⟩:=om d _ _ _ _ _ hf h2
   obtain⟨_,hlen,hcell⟩:=World.cells?_some h1
   rw[hc] at h1 hlen hcell
   refine⟨y,fun j hj=>?_,Vb⟩
   rw[<-hy1]
   exact hcell j hj
  have: ∀k,k<=n-> ∃xs:List (d_ ss),xs.length=k/\(∀i y,xs[i]? =some y->(∀j,j<ss.length->w.cell? ((x.add (i*ss.length)).add j)=(aP ss y)[j]?)/\fF ss y):=by
   intro k
   induction k with
   |zero=>intro _;exact⟨[],rfl,fun i y hy=>by simp at hy⟩
   |succ k ih=>
    intro hk
    obtain⟨xs,h1,h2⟩:=ih (by omega)
    obtain⟨y,hy⟩:=each k (by omega)
    refine⟨xs++[y],by simp[h1],fun i z hz=>?_⟩
    by_cases hi:i<xs.length
    ·rw[List.getElem?_append_left hi] at hz;exact h2 i z hz
    ·rw[List.getElem?_append_right (by omega)] at hz
     have:i - xs.length=0:=by
      have:=(List.getElem?_eq_some_iff.1 hz).1
      simp at this;omega
     rw[this] at hz
     simp at hz
     subst hz
     rw[show i=k by omega]
     exact hy
  obtain⟨xs,h1,h2⟩:=this n (Nat.le_refl n)
  refine⟨xs,h1.symm,by omega,fun i y hy=>⟨rfl,x.add (i*ss.length),rfl,fun j hj=>(h2 i y hy).1 j hj⟩,fun y hy=>?_⟩
  obtain⟨i,hi⟩:=List.getElem?_of_mem hy
  exact(h2 i y hi).2
theorem uh {t e:TypeId} {k:IntKind} {a:Option Addr} {n c:Nat} {dd:DataW H} {ps:List MemPlace} (ht:P.underlying t=some (.slice e)) (he:P.underlying e=some (.int k)) (hc:P.cellsOf e=1)
 (h:DataW.Trod enc P w base spare held t (.slice a n c) dd ps): ∃xs:List Int,n=xs.length/\n<=maxLen/\Sl w (.one (.int k)) a xs/\ ∀x∈xs,(Lit.int k x).wf=true:=by
 obtain⟨xs,h1,h2,h3,h4⟩:=fm (ss:=[.int k]) 1 ht (by simp[nh,he]) hc h
 refine⟨xs.map (·.1),by simp[h1],h2,fun i x hx=>?_,fun x hx=>?_⟩
 ·rw[List.getElem?_map] at hx
  cases hy:xs[i]? with
  |none=>rw[hy] at hx;cases hx
  |some y=>
   rw[hy] at hx
   simp only[Option.map_some,Option.some.injEq] at hx
   subst hx
   obtain⟨h5,h6⟩:=h3 i y hy
   refine⟨h5,?_⟩
   obtain⟨b,hb,hcell⟩:=h6
   refine⟨b,hb,?_⟩
   have:=hcell 0 (by simp)
   simpa[Addr.add,aP] using this
 ·obtain⟨y,hy,rfl⟩:=List.mem_map.1 hx
  exact(h4 y hy).1
end Go.RX
namespace Go.Proofs.YtdnoecpjcoibmaaGreat
set_option maxRecDepth 100000
open Go.RX
section
variable {w0 w:World} {L:List (Nat×List Value)}
def mj (ws:List Int) (f p t:Int):Nat->Int×Int×FT
 |0=>(f,3,(0,0,0,0,()))
 |k+1=>iZ ws p t (mj ws f p t k)
def uO (ws:List Int) (f p t:Int):FT:=if IB f p t then(0,0,0,1,()) else(mj ws f p t 4).2.2
theorem step_done {ws:List Int} {p t:Int} {x:Int×Int×FT} (h:x.2.1= -1):iZ ws p t x=x:=if_pos h
theorem N2 {fr pg wt lv:Int} {fd:FT} {ep:Bool} {er:Int} {el:Bool} {ef:Int} (hl:0<=lv/\lv<=3):(tookS fr pg wt lv fd ep er el ef).2.1= -1\/((tookS fr pg wt lv fd ep er el ef).2.1=lv - 1/\0<lv):=by
 unfold tookS
 split
 ·exact .inl rfl
 ·split
  ·rename_i h
   rw[Bool.and_eq_true,decide_eq_true_eq] at h
   exact .inr ⟨bS (by omega) (by omega),by omega⟩
  ·split
   ·exact .inl rfl
   ·split<;>exact .inl rfl
theorem PB (ws:List Int) (f p t:Int): ∀k:Nat,(mj ws f p t k).2.1= -1\/((mj ws f p t k).2.1=3 - (k:Int)/\k<=3)
 |0=> .inr ⟨rfl,by decide⟩
 |k+1=>by
  rcases PB ws f p t k with h|⟨h,hk⟩
  ·left
   show(iZ ws p t (mj ws f p t k)).2.1= -1
   rw[step_done h];exact h
  ·show(iZ ws p t (mj ws f p t k)).2.1= -1\/((iZ ws p t (mj ws f p t k)).2.1=3 - ((k+1:Nat):Int)/\k+1<=3)
   generalize mj ws f p t k=x at h
   unfold iZ
   rw[if_neg (by omega)]
   split
   ·exact .inl rfl
   ·rcases N2 (fr:=x.1) (pg:=p) (wt:=t) (lv:=x.2.1) (fd:=x.2.2) (by omega) with e|⟨e,e2⟩
    ·exact .inl (e ..)
    ·exact .inr ⟨by rw[e];omega,by omega⟩
theorem zk {ws:List Int} {f p t:Int} {k:Nat} (h:(mj ws f p t k).2.1= -1): ∀j,mj ws f p t (k+j)=mj ws f p t k
 |0=>rfl
 |j+1=>by
  show iZ ws p t (mj ws f p t (k+j))= _
  rw[zk h j,step_done h]
end
end Go.Proofs.YtdnoecpjcoibmaaGreat
namespace Go.Proofs.YtdnoecpjcoibmaaGreat
set_option maxRecDepth 100000
open Go.RX
theorem set_perm {α:Type} (a:α): ∀(L:List α) (j:Nat),j<L.length->(L.set j a).Perm (a::L.eraseIdx j)
 |[], _,h=>by simp at h
 |x::L,0, _=>by simp
 |x::L,j+1,h=>by
  rw[List.set_cons_succ,List.eraseIdx_cons_succ]
  exact((set_perm a L j (by simpa using h)).cons x).trans (.swap a x _)
theorem Jx {α:Type} {L:List α} {j:Nat} {a:α} (ha:L[j]? =some a):L.set j a=L:=by
 apply List.ext_getElem?
 intro n
 by_cases e:j=n
 ·subst e;rw[List.getElem?_set_self (List.getElem?_eq_some_iff.1 ha).1,ha]
 ·rw[List.getElem?_set_ne e]
theorem RF {α:Type} {L:List α} {j jw:Nat} {a b:α} (ha:L[j]? =some a) (hb:L[jw]? =some b) (hne:j≠jw): ∃L2,L.Perm (a::b::L2)/\ ∀a',(L.set j a').Perm (a'::b::L2):=by
 have hj:j<L.length:=(List.getElem?_eq_some_iff.1 ha).1
 have BC:b∈L.eraseIdx j:=by
  rw[List.mem_eraseIdx_iff_getElem?]
  exact⟨jw,fun e=>hne e.symm,hb⟩
 obtain⟨i,hi⟩:=List.getElem?_of_mem BC
 have hil:i<(L.eraseIdx j).length:=(List.getElem?_eq_some_iff.1 hi).1
 have p2:(L.eraseIdx j).Perm (b::(L.eraseIdx j).eraseIdx i):=by
  have:=set_perm b (L.eraseIdx j) i hil
  rwa[Jx hi] at this
 refine⟨(L.eraseIdx j).eraseIdx i,?_,fun a'=>(set_perm a' L j hj).trans (p2.cons a')⟩
 have:=(set_perm a L j hj).trans (p2.cons a)
 rwa[Jx ha] at this
section
variable {w0 w:World} {L:List (Nat×List Value)}
end
end Go.Proofs.YtdnoecpjcoibmaaGreat
namespace Go.Proofs.YtdnoecpjcoibmaaGreat.D
set_option maxRecDepth 100000
open Go.RX
noncomputable def D0:dD Tryz.prog:={C3 with sX:=true}
theorem Ll (a:Int) (w:World) (Post:Option Addr×Nat×Nat->World->Prop):(aH D0 (fun _=>[]) 257 [.int .i64 a] w Post)=(
 ∀w1,Ext w w1->aA (w1.alloc (Obj.map ⟨[]⟩ 0)) ⟨[.int .i64 1,.int .i64 2,.int .i64 3,.int .i64 4]⟩ 3 fun b w2=> ∀cQ,Ext w2 cQ-> ∃(r:Nat), ∃(es:Array MapEntry), ∃(clock:Nat),some w1.heap.size=some r/\bA cQ r es clock/\gL cQ r .i64 0 (.slice (some ⟨b,0,none⟩) 4 4) es clock fun w2=>aA w2 ⟨[.int .i64 0,.int .i64 2,.int .i64 3,.int .i64 4]⟩ 3 fun b w2=> ∀pG,Ext w2 pG-> ∃(r:Nat), ∃(es:Array MapEntry), ∃(clock:Nat),some w1.heap.size=some r/\bA pG r es clock/\gL pG r .i64 1 (.slice (some ⟨b,0,none⟩) 4 4) es clock fun w2=>aA w2
 ⟨[.int .i64 5,.int .i64 0]⟩ 3 fun b w2=> ∀pH,Ext w2 pH-> ∃(r:Nat), ∃(es:Array MapEntry), ∃(clock:Nat),some w1.heap.size=some r/\bA pH r es clock/\gL pH r .i64 2 (.slice (some ⟨b,0,none⟩) 2 2) es clock fun w2=>aA w2 ⟨[.int .i64 5,.int .i64 0]⟩ 3 fun b w2=> ∀pI,Ext w2 pI-> ∃(r:Nat), ∃(es:Array MapEntry), ∃(clock:Nat),some w1.heap.size=some r/\bA pI r es clock/\gL pI r .i64 3 (.slice (some ⟨b,0,none⟩) 2 2) es clock fun w2=>aA w2 ⟨[.int .i64 5,.int .i64 0,.int .i64 4]⟩ 3 fun b w2=> ∀uM,Ext w2 uM-> ∃(r:Nat), ∃(es:
 Array MapEntry), ∃(clock:Nat),some w1.heap.size=some r/\bA uM r es clock/\gL uM r .i64 4 (.slice (some ⟨b,0,none⟩) 3 3) es clock fun w2=>aA w2 ⟨[.int .i64 0]⟩ 3 fun b w2=> ∀uN,Ext w2 uN-> ∃(r:Nat), ∃(es:Array MapEntry), ∃(clock:Nat),some w1.heap.size=some r/\bA uN r es clock/\gL uN r .i64 5 (.slice (some ⟨b,0,none⟩) 1 1) es clock fun w2=> ∃(x:Option Addr×Nat×Nat),mm w2 (some w1.heap.size) .i64 a (.slice none 0 0) (.slice x.1 x.2.1 x.2.2)/\aj w2 fun w1=>Post (x.1,x.2.1,x.2.2) w1):=by kernel_rfl
def vZ:Nat->aQ:=(fun|2=>[(10,Go.RX.El.one (Go.RX.Sc.int Go.IntKind.i64))]| _=>[])
theorem RG (a b:Int) (w:World) (Post:Bool->World->Prop):(aH D0 vZ 238 [.int .i64 a,.int .i64 b] w Post)=(
 az Tryz.prog 257 (.el (.one .slice)) [.int .i64 a] w fun x w2=> ∀(x_1:Int),x_1=(↑x.2.1:Int)-> ∃(I:Nat->Int×Unit->World->Prop),(∃n, ∀w1,Ext w2 w1->I n (0,Unit.unit) w1)/\ ∀(n:Nat) (s:Int×Unit) (w1:World),I n s w1->aB (decide (s.1<x_1)) ((x.1.isSome=true/\0<=s.1/\s.1<(↑x.2.1:Int))/\ag w1 none (af x.1 (Int.toNat s.1*1)) (.one (.int .i64)) fun(x:Int)=>aB (x==b) (aj w1 fun w1=>Post true w1) (∀(x:Int),x=au .i64 s.1 1-> ∀w3,Ext w1 w3-> ∃(n':Nat),n'<n/\I n' (x,Unit.unit) w3)) (aj w1 fun w1=>Post false w1)):=by
 kernel_rfl
theorem Gc (a b:Int) (w:World) (Post:Bool->World->Prop):(aH D0 (fun _=>[]) 227 [.int .i64 a,.int .i64 b] w Post)=(
 aB (a==0) (aj w fun w1=>Post (decide (b>=1)&&decide (b<=4)) w1) (aB (a==1) (aj w fun w1=>Post (b==0||decide (b>=2)&&decide (b<=4)) w1) (aB (a==2) (aB (a==2) (aj w fun w1=>Post (b==5||b==0) w1) (aB (a==4) (aj w fun w1=>Post (b==5||b==0||b==4) w1) (aj w fun w1=>Post (b==0) w1))) (aB (a==3) (aj w fun w1=>Post (b==5||b==0) w1) (aB (a==4) (aj w fun w1=>Post (b==5||b==0||b==4) w1) (aj w fun w1=>Post (b==0) w1)))))):=by kernel_rfl
theorem Gd (n m:Int) (w:World) (Post:Bool->World->Prop):(aH D0 (fun _=>[]) 235 [.int .i64 n,.int .i64 m] w Post)=(
 aj w fun w1=>Post (decide (n>=0)&&decide (n<=m)) w1):=by kernel_rfl
theorem zj {w:World} {r:Nat} {k:IntKind} {n:Int} {val:Value} {es:Array MapEntry} {clock:Nat} {K:World->Prop} (h:Instr.findNow (.int k) (.int k n) es.toList 0=some none)
 (hk:K (w.putObj r (.map (es.push {key:= .int k n,val,born:=clock}) (clock+1)))):gL w r k n val es clock K:=by
 unfold gL
 rw[h];exact hk
theorem k9 {w0 wA wB:World} {r:Nat} {es:Array MapEntry} {clock:Nat} {l:List Value} {t:TypeId} {n:Int} {bs:List (Nat×List Value)} {val:Value} {K:World->Prop}
 (hE:Ext w0 wA) (hr:w0.heap.size<=r) (hm:bA wA r es clock) (hb: ∀x∈bs,aY wA x.1 x.2/\x.1≠r) (h2:Ext (wA.alloc (.cells ⟨l⟩ t)) wB)
 (hf:Instr.findNow (.int .i64) (.int .i64 n) es.toList 0=some none)
 (k: ∀w2,Ext w0 w2->bA w2 r (es.push {key:= .int .i64 n,val,born:=clock}) (clock+1)->(∀x∈(wA.heap.size,l)::bs,aY w2 x.1 x.2/\x.1≠r)->K w2):
 ∃r' es' clock',some r=some r'/\bA wB r' es' clock'/\gL wB r' .i64 n val es' clock' K:=by
 have hm':wA.heap[r]? =some (.map es clock):=hm
 have hlt:r<wA.heap.size:=(Array.getElem?_eq_some_iff.1 hm').1
 have e2:Ext wA wB:=(Ext.alloc wA _).trans h2
 have X4:wB.heap[r]? =some (.map es clock):=e2.obj hm'
 refine⟨r,es,clock,rfl,X4,zj hf (k _ ((hE.trans e2).putObj hr _) ?_ ?_)⟩
 ·exact iS (Array.getElem?_eq_some_iff.1 X4).1
 ·intro x hx
  rcases List.mem_cons.1 hx with rfl|hx
  ·have:wA.heap.size≠r:=by omega
   exact⟨((aY.new wA l t).ext h2).putObj this _,this⟩
  ·exact⟨((hb x hx).1.ext e2).putObj (hb x hx).2 _,(hb x hx).2⟩
def dG (a:Int):List Int:=if a=0 then[1,2,3,4] else if a=1 then[0,2,3,4] else if a=2 then[5,0] else if a=3 then[5,0] else if a=4 then[5,0,4] else if a=5 then[0] else[]
theorem Lm (a:Int) (w:World):an Tryz.prog 257 (.el (.one .slice)) [.int .i64 a] w (fun r w'=>Sl w' eI r.1 (dG a)/\r.2.1=(dG a).length/\Ext w w'):=by
 refine ai (C:=D0) (aJ:=fun _=>[]) (Eq.mpr (Ll a w _) ?_)
 intro w1 h1 w2 h2 w3 h3
 have m0:bA w2 w1.heap.size #[] 0:=h2.obj (fO w1 _)
 have step: ∀{W:World} {bs:List (Nat×List Value)} {r:Nat},(∀x∈bs,aY W x.1 x.2/\x.1≠r)-> ∀{W':World},Ext W W'-> ∀x∈bs,aY W' x.1 x.2/\x.1≠r:=
  fun h _ e x hx=>⟨(h x hx).1.ext e,(h x hx).2⟩
 refine k9 (bs:=[]) ((h1.cR _).trans h2) h1.size m0 (fun x hx=>by cases hx) h3 rfl fun W0 E0 M0 B0 w4 h4 w5 h5=>?_
 refine k9 (E0.trans h4) h1.size (h4.obj M0) (step B0 h4) h5 rfl fun W1 E1 M1 B1 w6 h6 w7 h7=>?_
 refine k9 (E1.trans h6) h1.size (h6.obj M1) (step B1 h6) h7 rfl fun W2 E2 M2 B2 w8 h8 w9 h9=>?_
 refine k9 (E2.trans h8) h1.size (h8.obj M2) (step B2 h8) h9 rfl fun W3 E3 M3 B3 lE Ac mh zU=>?_
 refine k9 (E3.trans Ac) h1.size (Ac.obj M3) (step B3 Ac) zU rfl fun W4 E4 M4 B4 Ab h12 E9 Pc=>?_
 refine k9 (E4.trans h12) h1.size (h12.obj M4) (step B4 h12) Pc rfl fun W5 E5 M5 B5=>?_
 have b0:=(B5 (w2.heap.size,[Value.int .i64 1,Value.int .i64 2,Value.int .i64 3,Value.int .i64 4]) (by simp)).1
 have b1:=(B5 (w4.heap.size,[Value.int .i64 0,Value.int .i64 2,Value.int .i64 3,Value.int .i64 4]) (by simp)).1
 have b2:=(B5 (w6.heap.size,[Value.int .i64 5,Value.int .i64 0]) (by simp)).1
 have b3:=(B5 (w8.heap.size,[Value.int .i64 5,Value.int .i64 0]) (by simp)).1
 have b4:=(B5 (lE.heap.size,[Value.int .i64 5,Value.int .i64 0,Value.int .i64 4]) (by simp)).1
 have b5:=(B5 (Ab.heap.size,[Value.int .i64 0]) (by simp)).1
 have fin: ∀(x:Option Addr×Nat×Nat),mm W5 (some w1.heap.size) .i64 a (.slice none 0 0) (.slice x.1 x.2.1 x.2.2)->Sl W5 eI x.1 (dG a)->x.2.1=(dG a).length->
  ∃x:Option Addr×Nat×Nat,mm W5 (some w1.heap.size) .i64 a (.slice none 0 0) (.slice x.1 x.2.1 x.2.2)/\ ∀E_,Ext W5 E_->Sl E_ eI (x.1,x.2.1,x.2.2).1 (dG a)/\(x.1,x.2.1,x.2.2).2.1=(dG a).length/\Ext w E_:=
  fun x hl hs hn=>⟨x,hl,fun E_ MA=>⟨hs.ext MA,hn,E5.trans MA⟩⟩
 by_cases c0:a=0
 ·subst c0
  exact fin (some ⟨w2.heap.size,0,none⟩,4,4) ⟨_, _, _,rfl,M5,rfl⟩ (Sl.iA b0 rfl) rfl
 by_cases c1:a=1
 ·subst c1
  exact fin (some ⟨w4.heap.size,0,none⟩,4,4) ⟨_, _, _,rfl,M5,rfl⟩ (Sl.iA b1 rfl) rfl
 by_cases c2:a=2
 ·subst c2
  exact fin (some ⟨w6.heap.size,0,none⟩,2,2) ⟨_, _, _,rfl,M5,rfl⟩ (Sl.iA b2 rfl) rfl
 by_cases c3:a=3
 ·subst c3
  exact fin (some ⟨w8.heap.size,0,none⟩,2,2) ⟨_, _, _,rfl,M5,rfl⟩ (Sl.iA b3 rfl) rfl
 by_cases c4:a=4
 ·subst c4
  exact fin (some ⟨lE.heap.size,0,none⟩,3,3) ⟨_, _, _,rfl,M5,rfl⟩ (Sl.iA b4 rfl) rfl
 by_cases c5:a=5
 ·subst c5
  exact fin (some ⟨Ab.heap.size,0,none⟩,1,1) ⟨_, _, _,rfl,M5,rfl⟩ (Sl.iA b5 rfl) rfl
 have hL:dG a=[]:=by
  unfold dG
  rw[if_neg c0,if_neg c1,if_neg c2,if_neg c3,if_neg c4,if_neg c5]
 refine fin (none,0,0) ⟨_, _, _,rfl,M5,?_⟩ (by rw[hL];intro i x hx;simp at hx) (by rw[hL];rfl)
 have d0:(a==0)=false:=by simp[c0]
 have d1:(a==1)=false:=by simp[c1]
 have d2:(a==2)=false:=by simp[c2]
 have d3:(a==3)=false:=by simp[c3]
 have d4:(a==4)=false:=by simp[c4]
 have d5:(a==5)=false:=by simp[c5]
 simp only[Array.toList_push,List.nil_append,List.cons_append,Instr.findNow,Instr.sameNow,if_true,Nat.zero_add,d0,d1,d2,d3,d4,d5]
theorem Ge (a:Int):(dG a).length<=4:=by
 unfold dG
 repeat (split; ·decide)
 decide
theorem RH (a b:Int) (w:World):an Tryz.prog 238 (.el (.one .bool)) [.int .i64 a,.int .i64 b] w (fun x w'=>x=decide (b∈dG a)/\Ext w w'):=by
 refine ai (C:=D0) (aJ:=vZ) (Eq.mpr (RG a b w _) ?_)
 intro w1 h1
 refine(Lm a w1).mono ?_
 rintro⟨p,n,c⟩ w2 ⟨hs,hn,h2⟩ x1 e1
 dsimp only at e1 hn hs
 subst e1
 have hl:=Ge a
 refine⟨fun k s w'=>Ext w2 w'/\ ∃i:Nat,s.1=i/\k+i=n/\ ∀j,j<i->(dG a)[j]? ≠some b,⟨n,fun w3 h3=>⟨h3,0,rfl,rfl,fun j hj=>absurd hj (by omega)⟩⟩,?_⟩
 rintro k ⟨i',u⟩ w3 ⟨h3,i,hi,hk,hj⟩
 simp only at hi
 subst hi
 dsimp only
 refine aa (fun h=>?_) (fun h=>fun w4 h4=>⟨?_,((h1.trans h2).trans h3).trans h4⟩)
 ·simp only[decide_eq_true_eq] at h
  have hil:i<(dG a).length:=by omega
  have r:=(hs.ext h3) i _ (List.getElem?_eq_getElem hil)
  refine⟨⟨r.1,by omega,by omega⟩, _,r.2,aa (fun he w4 h4=>⟨?_,((h1.trans h2).trans h3).trans h4⟩) (fun he x ex w4 h4=>⟨k - 1,by omega,h3.trans h4,i+1,by rw[ex,ar (by omega) (by omega)];rfl,by omega,?_⟩)⟩
  ·have:(dG a)[i]=b:=by simpa using he
   have hm:b∈dG a:=by rw[<-this];exact List.getElem_mem hil
   simp[hm]
  ·intro j hj'
   by_cases e:j=i
   ·subst e
    rw[List.getElem?_eq_getElem hil]
    intro hc
    simp only[Option.some.injEq] at hc
    simp[hc] at he
   ·exact hj j (by omega)
 ·simp only[decide_eq_false_iff_not] at h
  have: ¬ b∈dG a:=by
   intro hm
   obtain⟨j,wF⟩:=List.getElem?_of_mem hm
   have:=(List.getElem?_eq_some_iff.1 wF).1
   exact hj j (by omega) wF
  simp[this]
end Go.Proofs.YtdnoecpjcoibmaaGreat.D
namespace Go.Proofs.YtdnoecpjcoibmaaGreat.D
set_option maxRecDepth 100000
open Go.RX
noncomputable def QM:Entry Tryz.prog where
 f:=238
 fn l:=match l with
  |[.int .i64 a,.int .i64 b]=>some (True,.bool (decide (b∈dG a)))
  | _=>none
 ok args pre v h hp w:=by
  split at h
  ·rename_i a b
   cases h
   exact aO (RH a b w)
  ·cases h
def HV (a b:Int):Bool:=if a=0 then decide (b>=1)&&decide (b<=4) else if a=1 then b==0||decide (b>=2)&&decide (b<=4) else if a=2 then b==5||b==0 else if a=3 then b==5||b==0 else if a=4 then b==5||b==0||b==4 else b==0
theorem Gf (a b:Int) (w:World):an Tryz.prog 227 (.el (.one .bool)) [.int .i64 a,.int .i64 b] w (fun x w'=>x=HV a b/\Ext w w'):=by
 refine ai (C:=D0) (aJ:=fun _=>[]) (Eq.mpr (Gc a b w _) ?_)
 refine aa (fun h0 w1 h1=>⟨?_,h1⟩) (fun h0=>aa (fun h1 w1 k1=>⟨?_,k1⟩) (fun h1=>aa (fun h2=>aa (fun _ w1 k1=>⟨?_,k1⟩) (fun n2=>by rw[h2] at n2;cases n2)) (fun h2=>aa (fun h3 w1 k1=>⟨?_,k1⟩) (fun h3=>aa (fun h4 w1 k1=>⟨?_,k1⟩) (fun h4 w1 k1=>⟨?_,k1⟩)))))
 all_goals simp only[beq_iff_eq,beq_eq_false_iff_ne,ne_eq] at*
 ·unfold HV;rw[if_pos h0]
 ·unfold HV;rw[if_neg h0,if_pos h1]
 ·unfold HV;rw[if_neg h0,if_neg h1,if_pos h2]
 ·unfold HV;rw[if_neg h0,if_neg h1,if_neg h2,if_pos h3]
 ·unfold HV;rw[if_neg h0,if_neg h1,if_neg h2,if_neg h3,if_pos h4]
 ·unfold HV;rw[if_neg h0,if_neg h1,if_neg h2,if_neg h3,if_neg h4]
theorem Ln {a:Int} (b:Int) (h:0<=a/\a<=5):decide (b∈dG a)=HV a b:=by
 have:a=0\/a=1\/a=2\/a=3\/a=4\/a=5:=by omega
 rw[Bool.eq_iff_iff,decide_eq_true_eq]
 rcases this with rfl|rfl|rfl|rfl|rfl|rfl<;>simp[dG,HV]<;>omega
noncomputable def zl:Entry Tryz.prog where
 f:=227
 fn l:=match l with
  |[.int .i64 a,.int .i64 b]=>some (True,.bool (HV a b))
  | _=>none
 ok args pre v h hp w:=by
  split at h
  ·rename_i a b
   cases h
   exact aO (Gf a b w)
  ·cases h
noncomputable def zm:Entry Tryz.prog where
 f:=235
 fn l:=match l with
  |[.int .i64 n,.int .i64 m]=>some (True,.bool (decide (n>=0)&&decide (n<=m)))
  | _=>none
 ok args pre v h hp w:=by
  split at h
  ·rename_i n m
   cases h
   exact aO (x:=decide (n>=0)&&decide (n<=m)) (ai (C:=D0) (aJ:=fun _=>[]) (Eq.mpr (Gd n m w _) fun w1 h1=>⟨rfl,h1⟩))
  ·cases h
noncomputable def D1:dD Tryz.prog:={D0 with qc:=[qB,MJ,yP,yQ,sY,sZ,BU,BV,QM,zl,zm]}
theorem vr (k o r e:Int) (w:World) (Post:Bool->World->Prop):(aH D1 (fun _=>[]) 237 [.agg ⟨[.int .i64 k,.int .i64 o,.int .i64 r,.int .i64 e]⟩] w Post)=(
 aA w ⟨[.int .i64 k,.int .i64 o,.int .i64 r,.int .i64 e]⟩ 53 fun b w2=>true=true/\ag w2 none (af (some ⟨b,0,none⟩) 1) (.one (.int .i64)) fun(x:Int)=>((!decide (x<0))=true->true=true)/\ag w2 (some !decide (x<0)) (af (some ⟨b,0,none⟩) 1) (.one (.int .i64)) fun(x_1:Int)=>((!(decide (x<0)||decide (x_1>16)))=true->true=true)/\ag w2 (some !(decide (x<0)||decide (x_1>16))) (af (some ⟨b,0,none⟩) 2) (.one (.int .i64)) fun(x_2:Int)=>((!(decide (x<0)||decide (x_1>16)||decide (x_2<0)))=true->true=true)/\ag w2 (some
 !(decide (x<0)||decide (x_1>16)||decide (x_2<0))) (af (some ⟨b,0,none⟩) 2) (.one (.int .i64)) fun(x_3:Int)=>((!(decide (x<0)||decide (x_1>16)||decide (x_2<0)||decide (x_3>65535)))=true->true=true)/\ag w2 (some !(decide (x<0)||decide (x_1>16)||decide (x_2<0)||decide (x_3>65535))) (af (some ⟨b,0,none⟩) 3) (.one (.int .i64)) fun(x_4:Int)=>((!(decide (x<0)||decide (x_1>16)||decide (x_2<0)||decide (x_3>65535)||decide (x_4<0)))=true->true=true)/\ag w2 (some !(decide (x<0)||decide (x_1>16)||decide (x_2<
 0)||decide (x_3>65535)||decide (x_4<0))) (af (some ⟨b,0,none⟩) 3) (.one (.int .i64)) fun(x_5:Int)=>aB (decide (x<0)||decide (x_1>16)||decide (x_2<0)||decide (x_3>65535)||decide (x_4<0)||decide (x_5>4294967295)) (aj w2 fun w1=>Post false w1) (true=true/\ag w2 none (af (some ⟨b,0,none⟩) 0) (.one (.int .i64)) fun(x:Int)=>aB (x==0) (aB (x==0) (ag w2 none (some ⟨b,0,none⟩) (.agg [.int .i64,.int .i64,.int .i64,.int .i64]) fun(x:Int×Int×Int×Int×Unit)=>true=true/\ag w2 none (af (some ⟨b,0,none⟩) 0) (.one (.int
 .i64)) fun(x_6:Int)=>aj w2 fun w1=>Post (x.1==x_6&&(x.2.1==0&&(x.2.2.1==0&&(x.2.2.2.1==0&&true)))) w1) (aB (x==2) (true=true/\ag w2 none (af (some ⟨b,0,none⟩) 1) (.one (.int .i64)) fun(x:Int)=>((x==0)=true->true=true)/\ag w2 (some (x==0)) (af (some ⟨b,0,none⟩) 3) (.one (.int .i64)) fun(x_6:Int)=>aj w2 fun w1=>Post (x==0&&x_6==0) w1) (aB (x==3) (aB (x==3) (true=true/\ag w2 none (af (some ⟨b,0,none⟩) 1) (.one (.int .i64)) fun(x:Int)=>(decide (x>0)=true->true=true)/\ag w2 (some (decide (x>0)))
 (af (some ⟨b,0,none⟩) 3) (.one (.int .i64)) fun(x_6:Int)=>aj w2 fun w1=>Post (decide (x>0)&&x_6==0) w1) (aB (x==5) (true=true/\ag w2 none (af (some ⟨b,0,none⟩) 2) (.one (.int .i64)) fun(x:Int)=>aj w2 fun w1=>Post (x==0) w1) (aj w2 fun w1=>Post false w1))) (aB (x==4) (true=true/\ag w2 none (af (some ⟨b,0,none⟩) 1) (.one (.int .i64)) fun(x:Int)=>(decide (x>0)=true->true=true)/\ag w2 (some (decide (x>0))) (af (some ⟨b,0,none⟩) 3) (.one (.int .i64)) fun(x_6:Int)=>aj w2 fun w1=>Post (decide (x>0)&&x_6==0) w1)
 (aB (x==5) (true=true/\ag w2 none (af (some ⟨b,0,none⟩) 2) (.one (.int .i64)) fun(x:Int)=>aj w2 fun w1=>Post (x==0) w1) (aj w2 fun w1=>Post false w1)))))) (aB (x==1) (ag w2 none (some ⟨b,0,none⟩) (.agg [.int .i64,.int .i64,.int .i64,.int .i64]) fun(x:Int×Int×Int×Int×Unit)=>true=true/\ag w2 none (af (some ⟨b,0,none⟩) 0) (.one (.int .i64)) fun(x_6:Int)=>aj w2 fun w1=>Post (x.1==x_6&&(x.2.1==0&&(x.2.2.1==0&&(x.2.2.2.1==0&&true)))) w1) (aB (x==2) (true=true/\ag w2 none (af (some ⟨b,0,none⟩) 1) (.one (.int
 .i64)) fun(x:Int)=>((x==0)=true->true=true)/\ag w2 (some (x==0)) (af (some ⟨b,0,none⟩) 3) (.one (.int .i64)) fun(x_6:Int)=>aj w2 fun w1=>Post (x==0&&x_6==0) w1) (aB (x==3) (aB (x==3) (true=true/\ag w2 none (af (some ⟨b,0,none⟩) 1) (.one (.int .i64)) fun(x:Int)=>(decide (x>0)=true->true=true)/\ag w2 (some (decide (x>0))) (af (some ⟨b,0,none⟩) 3) (.one (.int .i64)) fun(x_6:Int)=>aj w2 fun w1=>Post (decide (x>0)&&x_6==0) w1) (aB (x==5) (true=true/\ag w2 none (af (some ⟨b,0,none⟩) 2) (.one (.int .i64))
 fun(x:Int)=>aj w2 fun w1=>Post (x==0) w1) (aj w2 fun w1=>Post false w1))) (aB (x==4) (true=true/\ag w2 none (af (some ⟨b,0,none⟩) 1) (.one (.int .i64)) fun(x:Int)=>(decide (x>0)=true->true=true)/\ag w2 (some (decide (x>0))) (af (some ⟨b,0,none⟩) 3) (.one (.int .i64)) fun(x_6:Int)=>aj w2 fun w1=>Post (decide (x>0)&&x_6==0) w1) (aB (x==5) (true=true/\ag w2 none (af (some ⟨b,0,none⟩) 2) (.one (.int .i64)) fun(x:Int)=>aj w2 fun w1=>Post (x==0) w1) (aj w2 fun w1=>Post false w1)))))))):=by kernel_rfl
theorem sk (k o r e:Int) (w:World) (Post:Bool->World->Prop):(aH D1 (fun _=>[]) 226 [.agg ⟨[.int .i64 k,.int .i64 o,.int .i64 r,.int .i64 e]⟩] w Post)=(
 aA w ⟨[.int .i64 k,.int .i64 o,.int .i64 r,.int .i64 e]⟩ 146 fun b w2=>true=true/\ag w2 none (af (some ⟨b,0,none⟩) 0) (.one (.int .i64)) fun(x:Int)=>True/\((!!(decide (x>=0)&&decide (x<=5)))=true->true=true)/\ag w2 (some !!(decide (x>=0)&&decide (x<=5))) (af (some ⟨b,0,none⟩) 1) (.one (.int .i64)) fun(x_1:Int)=>((!!(decide (x>=0)&&decide (x<=5)))=true->True)/\((!(!(decide (x>=0)&&decide (x<=5))|| !(decide (x_1>=0)&&decide (x_1<=16))))=true->true=true)/\ag w2 (some !(!(decide (x>=0)&&decide (x<=5))|| !(decide (x_1>=0)
 &&decide (x_1<=16)))) (af (some ⟨b,0,none⟩) 2) (.one (.int .i64)) fun(x_2:Int)=>((!(!(decide (x>=0)&&decide (x<=5))|| !(decide (x_1>=0)&&decide (x_1<=16))))=true->True)/\((!(!(decide (x>=0)&&decide (x<=5))|| !(decide (x_1>=0)&&decide (x_1<=16))|| !(decide (x_2>=0)&&decide (x_2<=65535))))=true->true=true)/\ag w2 (some !(!(decide (x>=0)&&decide (x<=5))|| !(decide (x_1>=0)&&decide (x_1<=16))|| !(decide (x_2>=0)&&decide (x_2<=65535)))) (af (some ⟨b,0,none⟩) 3) (.one (.int .i64)) fun(x_3:Int)=>((!(!(decide (x>=0)&&decide (x<=
 5))|| !(decide (x_1>=0)&&decide (x_1<=16))|| !(decide (x_2>=0)&&decide (x_2<=65535))))=true->True)/\aB (!(decide (x>=0)&&decide (x<=5))|| !(decide (x_1>=0)&&decide (x_1<=16))|| !(decide (x_2>=0)&&decide (x_2<=65535))|| !(decide (x_3>=0)&&decide (x_3<=4294967295))) (aj w2 fun w1=>Post false w1) (true=true/\ag w2 none (af (some ⟨b,0,none⟩) 0) (.one (.int .i64)) fun(x:Int)=>aB (x==0) (aB (x==0) (true=true/\ag w2 none (af (some ⟨b,0,none⟩) 1) (.one (.int .i64)) fun(x:Int)=>((x==0)=true->true=true)/\ag w2 (some (x==0))
 (af (some ⟨b,0,none⟩) 2) (.one (.int .i64)) fun(x_4:Int)=>((x==0&&x_4==0)=true->true=true)/\ag w2 (some (x==0&&x_4==0)) (af (some ⟨b,0,none⟩) 3) (.one (.int .i64)) fun(x_5:Int)=>aj w2 fun w1=>Post (x==0&&x_4==0&&x_5==0) w1) (aB (x==2) (true=true/\ag w2 none (af (some ⟨b,0,none⟩) 1) (.one (.int .i64)) fun(x:Int)=>((x==0)=true->true=true)/\ag w2 (some (x==0)) (af (some ⟨b,0,none⟩) 3) (.one (.int .i64)) fun(x_4:Int)=>aj w2 fun w1=>Post (x==0&&x_4==0) w1) (aB (x==3) (aB (x==3) (true=true/\ag
 w2 none (af (some ⟨b,0,none⟩) 1) (.one (.int .i64)) fun(x:Int)=>(decide (x>0)=true->true=true)/\ag w2 (some (decide (x>0))) (af (some ⟨b,0,none⟩) 3) (.one (.int .i64)) fun(x_4:Int)=>aj w2 fun w1=>Post (decide (x>0)&&x_4==0) w1) (true=true/\ag w2 none (af (some ⟨b,0,none⟩) 2) (.one (.int .i64)) fun(x:Int)=>aj w2 fun w1=>Post (x==0) w1)) (aB (x==4) (true=true/\ag w2 none (af (some ⟨b,0,none⟩) 1) (.one (.int .i64)) fun(x:Int)=>(decide (x>0)=true->true=true)/\ag w2 (some (decide (x>0))) (af (some ⟨b,0,none⟩) 3)
 (.one (.int .i64)) fun(x_4:Int)=>aj w2 fun w1=>Post (decide (x>0)&&x_4==0) w1) (true=true/\ag w2 none (af (some ⟨b,0,none⟩) 2) (.one (.int .i64)) fun(x:Int)=>aj w2 fun w1=>Post (x==0) w1))))) (aB (x==1) (true=true/\ag w2 none (af (some ⟨b,0,none⟩) 1) (.one (.int .i64)) fun(x:Int)=>((x==0)=true->true=true)/\ag w2 (some (x==0)) (af (some ⟨b,0,none⟩) 2) (.one (.int .i64)) fun(x_4:Int)=>((x==0&&x_4==0)=true->true=true)/\ag w2 (some (x==0&&x_4==0)) (af (some ⟨b,0,none⟩) 3) (.one (.int .i64)) fun(x_5:Int)
 =>aj w2 fun w1=>Post (x==0&&x_4==0&&x_5==0) w1) (aB (x==2) (true=true/\ag w2 none (af (some ⟨b,0,none⟩) 1) (.one (.int .i64)) fun(x:Int)=>((x==0)=true->true=true)/\ag w2 (some (x==0)) (af (some ⟨b,0,none⟩) 3) (.one (.int .i64)) fun(x_4:Int)=>aj w2 fun w1=>Post (x==0&&x_4==0) w1) (aB (x==3) (aB (x==3) (true=true/\ag w2 none (af (some ⟨b,0,none⟩) 1) (.one (.int .i64)) fun(x:Int)=>(decide (x>0)=true->true=true)/\ag w2 (some (decide (x>0))) (af (some ⟨b,0,none⟩) 3) (.one (.int .i64)) fun(x_4:Int)=>
 aj w2 fun w1=>Post (decide (x>0)&&x_4==0) w1) (true=true/\ag w2 none (af (some ⟨b,0,none⟩) 2) (.one (.int .i64)) fun(x:Int)=>aj w2 fun w1=>Post (x==0) w1)) (aB (x==4) (true=true/\ag w2 none (af (some ⟨b,0,none⟩) 1) (.one (.int .i64)) fun(x:Int)=>(decide (x>0)=true->true=true)/\ag w2 (some (decide (x>0))) (af (some ⟨b,0,none⟩) 3) (.one (.int .i64)) fun(x_4:Int)=>aj w2 fun w1=>Post (decide (x>0)&&x_4==0) w1) (true=true/\ag w2 none (af (some ⟨b,0,none⟩) 2) (.one (.int .i64)) fun(x:Int)=>aj w2 fun w1=>Post (x
 ==0) w1))))))):=by kernel_rfl
def fA (k o r e:Int):Prop:=(0<=o/\o<=16/\0<=r/\r<=65535/\0<=e/\e<=4294967295)/\(((k=0\/k=1)/\o=0/\r=0/\e=0)\/(k=2/\o=0/\e=0)\/((k=3\/k=4)/\0<o/\e=0)\/(k=5/\r=0))
instance (k o r e:Int):Decidable (fA k o r e):=by unfold fA;infer_instance
def bR (k o r e:Int):Bool:=decide (fA k o r e)
theorem xT {k o r e:Int} {b:Bool} (h:b=true<->fA k o r e):b=bR k o r e:=by
 unfold bR
 rw[Bool.eq_iff_iff,decide_eq_true_eq];exact h
theorem vt (k o r e:Int) (w:World):an Tryz.prog 237 (.el (.one .bool)) [.agg ⟨[.int .i64 k,.int .i64 o,.int .i64 r,.int .i64 e]⟩] w (fun b w'=>b=bR k o r e/\Ext w w'):=by
 refine ai (C:=D1) (aJ:=fun _=>[]) (Eq.mpr (vr k o r e w _) ?_)
 have H:=At.start [] w
 repeat' (first
  |exact Go.RX.aF.all H
  |exact And.intro (by first|rfl|decide+kernel) (Go.RX.aF.all H)
  |refine And.intro (by first|exact rfl|exact trivial|exact fun _=>rfl|exact fun _=>trivial|exact⟨rfl,by decide,by decide⟩|exact⟨by decide,by decide⟩|decide+kernel|exact fun _=>by decide|exact fun _=>⟨rfl,by decide,by decide⟩|(dsimp only[List.length_cons,List.length_nil];exact⟨rfl,by decide,by decide⟩)) ?_
  |refine ag.bP 0 H rfl rfl ?_
  |refine ag.at 0 H rfl rfl ?_
  |refine aA.go H fun b w1 H=>?_
  |refine av.all 0 H rfl rfl rfl fun w1 H=>?_
  |refine av.dJ 0 H rfl rfl rfl fun w1 H=>?_
  |refine av.one 0 H rfl rfl rfl fun w1 H=>?_
  |with_reducible refine aj.go H fun w1 H=>?_
  |refine gf ?_
  |refine ay (by assumption) ?_
  |refine ak (by assumption) ?_
  |refine aa (fun c=>?_) (fun c=>?_))
 all_goals
  refine And.intro (xT ?_) H.all
  simp only[Bool.or_eq_true,Bool.or_eq_false_iff,Bool.and_eq_true,Bool.and_eq_false_iff,beq_iff_eq,beq_eq_false_iff_ne,bne_iff_ne,bne_eq_false_iff_eq,decide_eq_true_eq,decide_eq_false_iff_not,Bool.false_eq_true,Bool.true_eq_false,Bool.not_eq_true',Bool.not_eq_false',and_true,true_and,and_false,false_and,or_true,true_or,or_false,false_or,ne_eq,not_true_eq_false,not_false_eq_true,false_iff,iff_false,true_iff,iff_true] at*
  unfold fA
  omega
theorem so (k o r e:Int) (w:World):an Tryz.prog 226 (.el (.one .bool)) [.agg ⟨[.int .i64 k,.int .i64 o,.int .i64 r,.int .i64 e]⟩] w (fun b w'=>b=bR k o r e/\Ext w w'):=by
 refine ai (C:=D1) (aJ:=fun _=>[]) (Eq.mpr (sk k o r e w _) ?_)
 have H:=At.start [] w
 repeat' (first
  |exact Go.RX.aF.all H
  |exact And.intro (by first|rfl|decide+kernel) (Go.RX.aF.all H)
  |refine And.intro (by first|exact rfl|exact trivial|exact fun _=>rfl|exact fun _=>trivial|exact⟨rfl,by decide,by decide⟩|exact⟨by decide,by decide⟩|decide+kernel|exact fun _=>by decide|exact fun _=>⟨rfl,by decide,by decide⟩|(dsimp only[List.length_cons,List.length_nil];exact⟨rfl,by decide,by decide⟩)) ?_
  |refine ag.bP 0 H rfl rfl ?_
  |refine ag.at 0 H rfl rfl ?_
  |refine aA.go H fun b w1 H=>?_
  |refine av.all 0 H rfl rfl rfl fun w1 H=>?_
  |refine av.dJ 0 H rfl rfl rfl fun w1 H=>?_
  |refine av.one 0 H rfl rfl rfl fun w1 H=>?_
  |with_reducible refine aj.go H fun w1 H=>?_
  |refine gf ?_
  |refine ay (by assumption) ?_
  |refine ak (by assumption) ?_
  |refine aa (fun c=>?_) (fun c=>?_))
 all_goals
  refine And.intro (xT ?_) H.all
  simp only[Bool.or_eq_true,Bool.or_eq_false_iff,Bool.and_eq_true,Bool.and_eq_false_iff,beq_iff_eq,beq_eq_false_iff_ne,bne_iff_ne,bne_eq_false_iff_eq,decide_eq_true_eq,decide_eq_false_iff_not,Bool.false_eq_true,Bool.true_eq_false,Bool.not_eq_true',Bool.not_eq_false',and_true,true_and,and_false,false_and,or_true,true_or,or_false,false_or,ne_eq,not_true_eq_false,not_false_eq_true,false_iff,iff_false,true_iff,iff_true] at*
  unfold fA
  omega
noncomputable def r_:Entry Tryz.prog where
 f:=237
 fn l:=match l with
  |[.agg ⟨[.int .i64 k,.int .i64 o,.int .i64 r,.int .i64 e]⟩]=>some (True,.bool (bR k o r e))
  | _=>none
 ok args pre v h hp w:=by
  split at h
  ·rename_i k o r e
   cases h
   exact aO (vt k o r e w)
  ·cases h
noncomputable def nU:Entry Tryz.prog where
 f:=226
 fn l:=match l with
  |[.agg ⟨[.int .i64 k,.int .i64 o,.int .i64 r,.int .i64 e]⟩]=>some (True,.bool (bR k o r e))
  | _=>none
 ok args pre v h hp w:=by
  split at h
  ·rename_i k o r e
   cases h
   exact aO (so k o r e w)
  ·cases h
noncomputable def D2:dD Tryz.prog:={D0 with qc:=[qB,MJ,yP,yQ,sY,sZ,BU,BV,QM,zl,zm,r_,nU]}
end Go.Proofs.YtdnoecpjcoibmaaGreat.D
namespace Go.Proofs.YtdnoecpjcoibmaaGreat.D
set_option maxRecDepth 100000
open Go.RX
theorem N3 (k o r e x y:Int) (w:World) (Post:(Int×Int×Int×Int×Unit)×Int×Unit->World->Prop):(bM D2 (fun _=>[]) 199 [.agg ⟨[.int .i64 k,.int .i64 o,.int .i64 r,.int .i64 e]⟩,.int .i64 x,.int .i64 y] w Post)=(
 aA w ⟨[.int .i64 k,.int .i64 o,.int .i64 r,.int .i64 e]⟩ 53 fun b w2=>aA w2 ⟨[.int .i64 0,.int .i64 0,.int .i64 0,.int .i64 0]⟩ 53 fun b_1 w2=>ag w2 none (some ⟨b,0,none⟩) (.agg [.int .i64,.int .i64,.int .i64,.int .i64]) fun(x_1:Int×Int×Int×Int×Unit)=>True/\aB (!bR x_1.1 x_1.2.1 x_1.2.2.1 x_1.2.2.2.1) (av w2 (some ⟨b_1,0,none⟩) [.int .i64 0,.int .i64 0,.int .i64 0,.int .i64 0] fun w2=>aj w2 fun w1=>ag w1 none (some ⟨b_1,0,none⟩) (.agg [.int .i64,.int .i64,.int .i64,.int .i64]) fun(x:Int×Int×Int×Int×Unit)=>Post ((x.1,x.2.1,
 x.2.2.1,x.2.2.2.1,Unit.unit),11,Unit.unit) w1) (true=true/\ag w2 none (af (some ⟨b,0,none⟩) 2) (.one (.int .i64)) fun(x_2:Int)=>aB (decide (x_2>0)) (av w2 (some ⟨b_1,0,none⟩) [.int .i64 0,.int .i64 0,.int .i64 0,.int .i64 0] fun w2=>aj w2 fun w1=>ag w1 none (some ⟨b_1,0,none⟩) (.agg [.int .i64,.int .i64,.int .i64,.int .i64]) fun(x:Int×Int×Int×Int×Unit)=>Post ((x.1,x.2.1,x.2.2.1,x.2.2.2.1,Unit.unit),9,Unit.unit) w1) (true=true/\ag w2 none (af (some ⟨b,0,none⟩) 0) (.one (.int .i64)) fun(x_3:Int)=>True/\aB (!decide (x∈
 dG x_3)) (av w2 (some ⟨b_1,0,none⟩) [.int .i64 0,.int .i64 0,.int .i64 0,.int .i64 0] fun w2=>aj w2 fun w1=>ag w1 none (some ⟨b_1,0,none⟩) (.agg [.int .i64,.int .i64,.int .i64,.int .i64]) fun(x:Int×Int×Int×Int×Unit)=>Post ((x.1,x.2.1,x.2.2.1,x.2.2.2.1,Unit.unit),6,Unit.unit) w1) (aB (x==5) (true=true/\ag w2 none (af (some ⟨b,0,none⟩) 1) (.one (.int .i64)) fun(x_4:Int)=>aA w2 ⟨[.int .i64 0,.int .i64 0,.int .i64 0,.int .i64 0]⟩ 53 fun b w2=>av w2 (some ⟨b,0,none⟩) [.int .i64 x,.int .i64 x_4,.int .i64 0,.int .i64 0] fun w2=>
 ag w2 none (some ⟨b,0,none⟩) (.agg [.int .i64,.int .i64,.int .i64,.int .i64]) fun(x:Int×Int×Int×Int×Unit)=>True/\aB (!bR x.1 x.2.1 x.2.2.1 x.2.2.2.1) (av w2 (some ⟨b_1,0,none⟩) [.int .i64 0,.int .i64 0,.int .i64 0,.int .i64 0] fun w2=>aj w2 fun w1=>ag w1 none (some ⟨b_1,0,none⟩) (.agg [.int .i64,.int .i64,.int .i64,.int .i64]) fun(x:Int×Int×Int×Int×Unit)=>Post ((x.1,x.2.1,x.2.2.1,x.2.2.2.1,Unit.unit),1,Unit.unit) w1) (ag w2 none (some ⟨b,0,none⟩) (.agg [.int .i64,.int .i64,.int .i64,.int .i64]) fun(x:Int×Int×Int×Int×
 Unit)=>av w2 (some ⟨b_1,0,none⟩) [.int .i64 x.1,.int .i64 x.2.1,.int .i64 x.2.2.1,.int .i64 x.2.2.2.1] fun w2=>aj w2 fun w1=>ag w1 none (some ⟨b_1,0,none⟩) (.agg [.int .i64,.int .i64,.int .i64,.int .i64]) fun(x:Int×Int×Int×Int×Unit)=>Post ((x.1,x.2.1,x.2.2.1,x.2.2.2.1,Unit.unit),0,Unit.unit) w1)) (aA w2 ⟨[.int .i64 0,.int .i64 0,.int .i64 0,.int .i64 0]⟩ 53 fun b w2=>av w2 (some ⟨b,0,none⟩) [.int .i64 x,.int .i64 y,.int .i64 0,.int .i64 0] fun w2=>ag w2 none (some ⟨b,0,none⟩) (.agg [.int .i64,.int .i64,.int .i64,.int .i64]) fun(x:
 Int×Int×Int×Int×Unit)=>True/\aB (!bR x.1 x.2.1 x.2.2.1 x.2.2.2.1) (av w2 (some ⟨b_1,0,none⟩) [.int .i64 0,.int .i64 0,.int .i64 0,.int .i64 0] fun w2=>aj w2 fun w1=>ag w1 none (some ⟨b_1,0,none⟩) (.agg [.int .i64,.int .i64,.int .i64,.int .i64]) fun(x:Int×Int×Int×Int×Unit)=>Post ((x.1,x.2.1,x.2.2.1,x.2.2.2.1,Unit.unit),1,Unit.unit) w1) (ag w2 none (some ⟨b,0,none⟩) (.agg [.int .i64,.int .i64,.int .i64,.int .i64]) fun(x:Int×Int×Int×Int×Unit)=>av w2 (some ⟨b_1,0,none⟩) [.int .i64 x.1,.int .i64 x.2.1,.int .i64 x.2.2.1,
 .int .i64 x.2.2.2.1] fun w2=>aj w2 fun w1=>ag w1 none (some ⟨b_1,0,none⟩) (.agg [.int .i64,.int .i64,.int .i64,.int .i64]) fun(x:Int×Int×Int×Int×Unit)=>Post ((x.1,x.2.1,x.2.2.1,x.2.2.2.1,Unit.unit),0,Unit.unit) w1)))))):=by kernel_rfl
theorem Lo (k o r e x y:Int) (w:World) (Post:(Int×Int×Int×Int×Unit)×Int×Unit->World->Prop):(bM D2 (fun _=>[]) 182 [.agg ⟨[.int .i64 k,.int .i64 o,.int .i64 r,.int .i64 e]⟩,.int .i64 x,.int .i64 y] w Post)=(
 aA w ⟨[.int .i64 k,.int .i64 o,.int .i64 r,.int .i64 e]⟩ 146 fun b w2=>aA w2 ⟨[.int .i64 0,.int .i64 0,.int .i64 0,.int .i64 0]⟩ 146 fun b_1 w2=>ag w2 none (some ⟨b,0,none⟩) (.agg [.int .i64,.int .i64,.int .i64,.int .i64]) fun(x_1:Int×Int×Int×Int×Unit)=>True/\aB (!bR x_1.1 x_1.2.1 x_1.2.2.1 x_1.2.2.2.1) (av w2 (some ⟨b_1,0,none⟩) [.int .i64 0,.int .i64 0,.int .i64 0,.int .i64 0] fun w2=>aj w2 fun w1=>ag w1 none (some ⟨b_1,0,none⟩) (.agg [.int .i64,.int .i64,.int .i64,.int .i64]) fun(x:Int×Int×Int×Int×Unit)=>Post ((x.1,x.2.1,
 x.2.2.1,x.2.2.2.1,Unit.unit),11,Unit.unit) w1) (true=true/\ag w2 none (af (some ⟨b,0,none⟩) 2) (.one (.int .i64)) fun(x_2:Int)=>aB (decide (x_2>0)) (av w2 (some ⟨b_1,0,none⟩) [.int .i64 0,.int .i64 0,.int .i64 0,.int .i64 0] fun w2=>aj w2 fun w1=>ag w1 none (some ⟨b_1,0,none⟩) (.agg [.int .i64,.int .i64,.int .i64,.int .i64]) fun(x:Int×Int×Int×Int×Unit)=>Post ((x.1,x.2.1,x.2.2.1,x.2.2.2.1,Unit.unit),9,Unit.unit) w1) (true=true/\ag w2 none (af (some ⟨b,0,none⟩) 0) (.one (.int .i64)) fun(x_3:Int)=>True/\aB (!HV x_3 x) (av
 w2 (some ⟨b_1,0,none⟩) [.int .i64 0,.int .i64 0,.int .i64 0,.int .i64 0] fun w2=>aj w2 fun w1=>ag w1 none (some ⟨b_1,0,none⟩) (.agg [.int .i64,.int .i64,.int .i64,.int .i64]) fun(x:Int×Int×Int×Int×Unit)=>Post ((x.1,x.2.1,x.2.2.1,x.2.2.2.1,Unit.unit),6,Unit.unit) w1) (aA w2 ⟨[.int .i64 0,.int .i64 0,.int .i64 0,.int .i64 0]⟩ 146 fun b_2 w2=>av w2 (some ⟨b_2,0,none⟩) [.int .i64 x,.int .i64 y,.int .i64 0,.int .i64 0] fun w2=>aB (x==5) (true=true/\ag w2 none (af (some ⟨b,0,none⟩) 1) (.one (.int .i64)) fun(x:Int)=>true=true/\av
 w2 (af (some ⟨b_2,0,none⟩) 1) [.int .i64 x] fun w2=>ag w2 none (some ⟨b_2,0,none⟩) (.agg [.int .i64,.int .i64,.int .i64,.int .i64]) fun(x:Int×Int×Int×Int×Unit)=>True/\aB (!bR x.1 x.2.1 x.2.2.1 x.2.2.2.1) (av w2 (some ⟨b_1,0,none⟩) [.int .i64 0,.int .i64 0,.int .i64 0,.int .i64 0] fun w2=>aj w2 fun w1=>ag w1 none (some ⟨b_1,0,none⟩) (.agg [.int .i64,.int .i64,.int .i64,.int .i64]) fun(x:Int×Int×Int×Int×Unit)=>Post ((x.1,x.2.1,x.2.2.1,x.2.2.2.1,Unit.unit),1,Unit.unit) w1) (ag w2 none (some ⟨b_2,0,none⟩) (.agg [.int .i64,.int
 .i64,.int .i64,.int .i64]) fun(x:Int×Int×Int×Int×Unit)=>av w2 (some ⟨b_1,0,none⟩) [.int .i64 x.1,.int .i64 x.2.1,.int .i64 x.2.2.1,.int .i64 x.2.2.2.1] fun w2=>aj w2 fun w1=>ag w1 none (some ⟨b_1,0,none⟩) (.agg [.int .i64,.int .i64,.int .i64,.int .i64]) fun(x:Int×Int×Int×Int×Unit)=>Post ((x.1,x.2.1,x.2.2.1,x.2.2.2.1,Unit.unit),0,Unit.unit) w1)) (ag w2 none (some ⟨b_2,0,none⟩) (.agg [.int .i64,.int .i64,.int .i64,.int .i64]) fun(x:Int×Int×Int×Int×Unit)=>True/\aB (!bR x.1 x.2.1 x.2.2.1 x.2.2.2.1) (av w2 (some ⟨b_1,0,
 none⟩) [.int .i64 0,.int .i64 0,.int .i64 0,.int .i64 0] fun w2=>aj w2 fun w1=>ag w1 none (some ⟨b_1,0,none⟩) (.agg [.int .i64,.int .i64,.int .i64,.int .i64]) fun(x:Int×Int×Int×Int×Unit)=>Post ((x.1,x.2.1,x.2.2.1,x.2.2.2.1,Unit.unit),1,Unit.unit) w1) (ag w2 none (some ⟨b_2,0,none⟩) (.agg [.int .i64,.int .i64,.int .i64,.int .i64]) fun(x:Int×Int×Int×Int×Unit)=>av w2 (some ⟨b_1,0,none⟩) [.int .i64 x.1,.int .i64 x.2.1,.int .i64 x.2.2.1,.int .i64 x.2.2.2.1] fun w2=>aj w2 fun w1=>ag w1 none (some ⟨b_1,0,none⟩) (.agg [.int .i64,.int
 .i64,.int .i64,.int .i64]) fun(x:Int×Int×Int×Int×Unit)=>Post ((x.1,x.2.1,x.2.2.1,x.2.2.2.1,Unit.unit),0,Unit.unit) w1)))))):=by kernel_rfl
theorem RI (k o r e x:Int) (w:World) (Post:(Int×Int×Int×Int×Unit)×Int×Unit->World->Prop):(bM D2 (fun _=>[]) 216 [.agg ⟨[.int .i64 k,.int .i64 o,.int .i64 r,.int .i64 e]⟩,.int .i64 x] w Post)=(
 aA w ⟨[.int .i64 k,.int .i64 o,.int .i64 r,.int .i64 e]⟩ 53 fun b w2=>aA w2 ⟨[.int .i64 0,.int .i64 0,.int .i64 0,.int .i64 0]⟩ 53 fun b_1 w2=>ag w2 none (some ⟨b,0,none⟩) (.agg [.int .i64,.int .i64,.int .i64,.int .i64]) fun(x_1:Int×Int×Int×Int×Unit)=>True/\aB (!bR x_1.1 x_1.2.1 x_1.2.2.1 x_1.2.2.2.1) (av w2 (some ⟨b_1,0,none⟩) [.int .i64 0,.int .i64 0,.int .i64 0,.int .i64 0] fun w2=>aj w2 fun w1=>ag w1 none (some ⟨b_1,0,none⟩) (.agg [.int .i64,.int .i64,.int .i64,.int .i64]) fun(x:Int×Int×Int×Int×Unit)=>Post ((x.1,x.2.1,
 x.2.2.1,x.2.2.2.1,Unit.unit),11,Unit.unit) w1) (true=true/\ag w2 none (af (some ⟨b,0,none⟩) 0) (.one (.int .i64)) fun(x_2:Int)=>((x_2 != 2)=true->true=true)/\ag w2 (some (x_2 != 2)) (af (some ⟨b,0,none⟩) 0) (.one (.int .i64)) fun(x_3:Int)=>((x_2 != 2&&x_3 != 3)=true->true=true)/\ag w2 (some (x_2 != 2&&x_3 != 3)) (af (some ⟨b,0,none⟩) 0) (.one (.int .i64)) fun(x_4:Int)=>aB (x_2 != 2&&x_3 != 3&&x_4 != 4) (av w2 (some ⟨b_1,0,none⟩) [.int .i64 0,.int .i64 0,.int .i64 0,.int .i64 0] fun w2=>aj w2 fun w1=>ag w1 none (some ⟨b_1,
 0,none⟩) (.agg [.int .i64,.int .i64,.int .i64,.int .i64]) fun(x:Int×Int×Int×Int×Unit)=>Post ((x.1,x.2.1,x.2.2.1,x.2.2.2.1,Unit.unit),6,Unit.unit) w1) (true=true/\ag w2 none (af (some ⟨b,0,none⟩) 2) (.one (.int .i64)) fun(x_5:Int)=> ∀(x_6:Int),x_6=bL .i64 65535 x_5->((!decide (x>x_6))=true->true=true)/\ag w2 (some !decide (x>x_6)) (af (some ⟨b,0,none⟩) 2) (.one (.int .i64)) fun(x_7:Int)=>aB (decide (x>x_6)||decide (x<bL .i64 0 x_7)) (av w2 (some ⟨b_1,0,none⟩) [.int .i64 0,.int .i64 0,.int .i64 0,.int .i64 0] fun w2
 =>aj w2 fun w1=>ag w1 none (some ⟨b_1,0,none⟩) (.agg [.int .i64,.int .i64,.int .i64,.int .i64]) fun(x:Int×Int×Int×Int×Unit)=>Post ((x.1,x.2.1,x.2.2.1,x.2.2.2.1,Unit.unit),2,Unit.unit) w1) (true=true/\ag w2 none (af (some ⟨b,0,none⟩) 2) (.one (.int .i64)) fun(x_8:Int)=> ∀(x_9:Int),x_9=au .i64 x_8 x->true=true/\av w2 (af (some ⟨b,0,none⟩) 2) [.int .i64 x_9] fun w2=>ag w2 none (some ⟨b,0,none⟩) (.agg [.int .i64,.int .i64,.int .i64,.int .i64]) fun(x:Int×Int×Int×Int×Unit)=>av w2 (some ⟨b_1,0,none⟩) [.int .i64 x.1,
 .int .i64 x.2.1,.int .i64 x.2.2.1,.int .i64 x.2.2.2.1] fun w2=>aj w2 fun w1=>ag w1 none (some ⟨b_1,0,none⟩) (.agg [.int .i64,.int .i64,.int .i64,.int .i64]) fun(x:Int×Int×Int×Int×Unit)=>Post ((x.1,x.2.1,x.2.2.1,x.2.2.2.1,Unit.unit),0,Unit.unit) w1)))):=by kernel_rfl
theorem N4 (k o r e x:Int) (w:World) (Post:(Int×Int×Int×Int×Unit)×Int×Unit->World->Prop):(bM D2 (fun _=>[]) 192 [.agg ⟨[.int .i64 k,.int .i64 o,.int .i64 r,.int .i64 e]⟩,.int .i64 x] w Post)=(
 aA w ⟨[.int .i64 k,.int .i64 o,.int .i64 r,.int .i64 e]⟩ 146 fun b w2=>aA w2 ⟨[.int .i64 0,.int .i64 0,.int .i64 0,.int .i64 0]⟩ 146 fun b_1 w2=>ag w2 none (some ⟨b,0,none⟩) (.agg [.int .i64,.int .i64,.int .i64,.int .i64]) fun(x_1:Int×Int×Int×Int×Unit)=>True/\aB (!bR x_1.1 x_1.2.1 x_1.2.2.1 x_1.2.2.2.1) (av w2 (some ⟨b_1,0,none⟩) [.int .i64 0,.int .i64 0,.int .i64 0,.int .i64 0] fun w2=>aj w2 fun w1=>ag w1 none (some ⟨b_1,0,none⟩) (.agg [.int .i64,.int .i64,.int .i64,.int .i64]) fun(x:Int×Int×Int×Int×Unit)=>Post ((x.1,x.2.1,
 x.2.2.1,x.2.2.2.1,Unit.unit),11,Unit.unit) w1) (true=true/\ag w2 none (af (some ⟨b,0,none⟩) 0) (.one (.int .i64)) fun(x_2:Int)=>((!decide (x_2<2))=true->true=true)/\ag w2 (some !decide (x_2<2)) (af (some ⟨b,0,none⟩) 0) (.one (.int .i64)) fun(x_3:Int)=>aB (decide (x_2<2)||decide (x_3>4)) (av w2 (some ⟨b_1,0,none⟩) [.int .i64 0,.int .i64 0,.int .i64 0,.int .i64 0] fun w2=>aj w2 fun w1=>ag w1 none (some ⟨b_1,0,none⟩) (.agg [.int .i64,.int .i64,.int .i64,.int .i64]) fun(x:Int×Int×Int×Int×Unit)=>Post ((x.1,x.2.1,x.2.2.1,
 x.2.2.2.1,Unit.unit),6,Unit.unit) w1) (((!(decide (x>65535)||decide (x< -65535)))=true->true=true)/\ag w2 (some !(decide (x>65535)||decide (x< -65535))) (af (some ⟨b,0,none⟩) 2) (.one (.int .i64)) fun(x_4:Int)=> ∀(x_5:Int),x_5=au .i64 x_4 x->((!(decide (x>65535)||decide (x< -65535)))=true->True)/\aB (decide (x>65535)||decide (x< -65535)|| !(decide (x_5>=0)&&decide (x_5<=65535))) (av w2 (some ⟨b_1,0,none⟩) [.int .i64 0,.int .i64 0,.int .i64 0,.int .i64 0] fun w2=>aj w2 fun w1=>ag w1 none (some ⟨b_1,0,none⟩) (.agg [.int
 .i64,.int .i64,.int .i64,.int .i64]) fun(x:Int×Int×Int×Int×Unit)=>Post ((x.1,x.2.1,x.2.2.1,x.2.2.2.1,Unit.unit),2,Unit.unit) w1) (true=true/\ag w2 none (af (some ⟨b,0,none⟩) 2) (.one (.int .i64)) fun(x_6:Int)=> ∀(x_7:Int),x_7=au .i64 x_6 x->true=true/\av w2 (af (some ⟨b,0,none⟩) 2) [.int .i64 x_7] fun w2=>ag w2 none (some ⟨b,0,none⟩) (.agg [.int .i64,.int .i64,.int .i64,.int .i64]) fun(x:Int×Int×Int×Int×Unit)=>av w2 (some ⟨b_1,0,none⟩) [.int .i64 x.1,.int .i64 x.2.1,.int .i64 x.2.2.1,.int .i64 x.2.2.2.1] fun w2=>
 aj w2 fun w1=>ag w1 none (some ⟨b_1,0,none⟩) (.agg [.int .i64,.int .i64,.int .i64,.int .i64]) fun(x:Int×Int×Int×Int×Unit)=>Post ((x.1,x.2.1,x.2.2.1,x.2.2.2.1,Unit.unit),0,Unit.unit) w1)))):=by kernel_rfl
def dV (k o r e x y:Int):Int:=if bR k o r e=false then 11 else if r>0 then 9 else if x∈dG k then(if bR x (if x=5 then o else y) 0 0=false then 1 else 0) else 6
def ig (k o r e x y:Int):Int:=if dV k o r e x y=0 then x else 0
def gj (k o r e x y:Int):Int:=if dV k o r e x y=0 then(if x=5 then o else y) else 0
theorem N5 (k o r e x y:Int) (w:World):an Tryz.prog 199 (.bq [(.agg [.int .i64,.int .i64,.int .i64,.int .i64]),.one (.int .i64)]) [.agg ⟨[.int .i64 k,.int .i64 o,.int .i64 r,.int .i64 e]⟩,.int .i64 x,.int .i64 y] w
 (fun v w'=>v=((ig k o r e x y,gj k o r e x y,(0:Int),(0:Int),()),dV k o r e x y,())/\Ext w w'):=by
 refine aL (C:=D2) (aJ:=fun _=>[]) (Eq.mpr (N3 k o r e x y w _) ?_)
 have H:=At.start [] w
 repeat' (first
  |exact Go.RX.aF.all H
  |exact And.intro (by first|rfl|decide+kernel) (Go.RX.aF.all H)
  |refine And.intro (by first|exact rfl|exact trivial|exact fun _=>rfl|exact fun _=>trivial|exact⟨rfl,by decide,by decide⟩|exact⟨by decide,by decide⟩|decide+kernel|exact fun _=>by decide|exact fun _=>⟨rfl,by decide,by decide⟩|(dsimp only[List.length_cons,List.length_nil];exact⟨rfl,by decide,by decide⟩)) ?_
  |refine ag.bP 0 H rfl rfl ?_
  |refine ag.bP 1 H rfl rfl ?_
  |refine ag.bP 2 H rfl rfl ?_
  |refine ag.at 0 H rfl rfl ?_
  |refine ag.at 1 H rfl rfl ?_
  |refine ag.at 2 H rfl rfl ?_
  |refine aA.go H fun b w1 H=>?_
  |refine av.all 0 H rfl rfl rfl fun w1 H=>?_
  |refine av.all 1 H rfl rfl rfl fun w1 H=>?_
  |refine av.all 2 H rfl rfl rfl fun w1 H=>?_
  |refine av.dJ 0 H rfl rfl rfl fun w1 H=>?_
  |refine av.dJ 1 H rfl rfl rfl fun w1 H=>?_
  |refine av.dJ 2 H rfl rfl rfl fun w1 H=>?_
  |refine av.one 0 H rfl rfl rfl fun w1 H=>?_
  |refine av.one 1 H rfl rfl rfl fun w1 H=>?_
  |refine av.one 2 H rfl rfl rfl fun w1 H=>?_
  |with_reducible refine aj.go H fun w1 H=>?_
  |refine gf ?_
  |refine ay (by assumption) ?_
  |refine ak (by assumption) ?_
  |refine aa (fun c=>?_) (fun c=>?_))
 all_goals
  refine And.intro ?_ H.all
  simp only[Bool.or_eq_true,Bool.or_eq_false_iff,Bool.and_eq_true,Bool.and_eq_false_iff,beq_iff_eq,beq_eq_false_iff_ne,bne_iff_ne,bne_eq_false_iff_eq,decide_eq_true_eq,decide_eq_false_iff_not,Bool.false_eq_true,Bool.true_eq_false,Bool.not_eq_true',Bool.not_eq_false',and_true,true_and,and_false,false_and,or_true,true_or,or_false,false_or,ne_eq,not_true_eq_false,not_false_eq_true,false_iff,iff_false,true_iff,iff_true] at*
  first
   |(simp[ig,gj,dV, *];done)
   |(subst_vars;simp[ig,gj,dV, *])
theorem Lq (k o r e x y:Int) (w:World):an Tryz.prog 182 (.bq [(.agg [.int .i64,.int .i64,.int .i64,.int .i64]),.one (.int .i64)]) [.agg ⟨[.int .i64 k,.int .i64 o,.int .i64 r,.int .i64 e]⟩,.int .i64 x,.int .i64 y] w
 (fun v w'=>v=((ig k o r e x y,gj k o r e x y,(0:Int),(0:Int),()),dV k o r e x y,())/\Ext w w'):=by
 refine aL (C:=D2) (aJ:=fun _=>[]) (Eq.mpr (Lo k o r e x y w _) ?_)
 have H:=At.start [] w
 repeat' (first
  |exact Go.RX.aF.all H
  |exact And.intro (by first|rfl|decide+kernel) (Go.RX.aF.all H)
  |refine And.intro (by first|exact rfl|exact trivial|exact fun _=>rfl|exact fun _=>trivial|exact⟨rfl,by decide,by decide⟩|exact⟨by decide,by decide⟩|decide+kernel|exact fun _=>by decide|exact fun _=>⟨rfl,by decide,by decide⟩|(dsimp only[List.length_cons,List.length_nil];exact⟨rfl,by decide,by decide⟩)) ?_
  |refine ag.bP 0 H rfl rfl ?_
  |refine ag.bP 1 H rfl rfl ?_
  |refine ag.bP 2 H rfl rfl ?_
  |refine ag.at 0 H rfl rfl ?_
  |refine ag.at 1 H rfl rfl ?_
  |refine ag.at 2 H rfl rfl ?_
  |refine aA.go H fun b w1 H=>?_
  |refine av.all 0 H rfl rfl rfl fun w1 H=>?_
  |refine av.all 1 H rfl rfl rfl fun w1 H=>?_
  |refine av.all 2 H rfl rfl rfl fun w1 H=>?_
  |refine av.dJ 0 H rfl rfl rfl fun w1 H=>?_
  |refine av.dJ 1 H rfl rfl rfl fun w1 H=>?_
  |refine av.dJ 2 H rfl rfl rfl fun w1 H=>?_
  |refine av.one 0 H rfl rfl rfl fun w1 H=>?_
  |refine av.one 1 H rfl rfl rfl fun w1 H=>?_
  |refine av.one 2 H rfl rfl rfl fun w1 H=>?_
  |with_reducible refine aj.go H fun w1 H=>?_
  |refine gf ?_
  |refine ay (by assumption) ?_
  |refine ak (by assumption) ?_
  |refine aa (fun c=>?_) (fun c=>?_))
 all_goals
  refine And.intro ?_ H.all
  simp only[Bool.or_eq_true,Bool.or_eq_false_iff,Bool.and_eq_true,Bool.and_eq_false_iff,beq_iff_eq,beq_eq_false_iff_ne,bne_iff_ne,bne_eq_false_iff_eq,decide_eq_true_eq,decide_eq_false_iff_not,Bool.false_eq_true,Bool.true_eq_false,Bool.not_eq_true',Bool.not_eq_false',and_true,true_and,and_false,false_and,or_true,true_or,or_false,false_or,ne_eq,not_true_eq_false,not_false_eq_true,false_iff,iff_false,true_iff,iff_true] at*
  have hk: ∀c,HV k x=c->bR k o r e=true->decide (x∈dG k)=c:=fun c h hr=>by
   have hp:fA k o r e:=of_decide_eq_true hr
   rw[<-h];exact Ln x (by unfold fA at hp;omega)
  first
   |(simp[ig,gj,dV, *];done)
   |(subst_vars;simp[ig,gj,dV, *];done)
   |(have hm:=hk _ (by assumption) (by assumption)
     simp only[Bool.or_eq_true,Bool.or_eq_false_iff,Bool.and_eq_true,Bool.and_eq_false_iff,beq_iff_eq,beq_eq_false_iff_ne,bne_iff_ne,bne_eq_false_iff_eq,decide_eq_true_eq,decide_eq_false_iff_not,Bool.false_eq_true,Bool.true_eq_false,Bool.not_eq_true',Bool.not_eq_false',and_true,true_and,and_false,false_and,or_true,true_or,or_false,false_or,ne_eq,not_true_eq_false,not_false_eq_true,false_iff,iff_false,true_iff,iff_true] at hm
     first
      |(simp[ig,gj,dV, *];done)
      |(subst_vars;simp[ig,gj,dV, *]))
end Go.Proofs.YtdnoecpjcoibmaaGreat.D
namespace Go.Proofs.YtdnoecpjcoibmaaGreat.D
set_option maxRecDepth 100000
open Go.RX
def lJ (k o r e x:Int):Int:=if bR k o r e=false then 11 else if k=2\/k=3\/k=4 then(if r+x<0\/r+x>65535 then 2 else 0) else 6
def jf (k o r e x:Int):Int×Int×Int×Int×Unit:=if lJ k o r e x=0 then(k,o,r+x,e,()) else(0,0,0,0,())
theorem RJ (k o r e x:Int) (hx: -9223372036854775808<=x/\x<9223372036854775808) (w:World):an Tryz.prog 216 (.bq [(.agg [.int .i64,.int .i64,.int .i64,.int .i64]),.one (.int .i64)]) [.agg ⟨[.int .i64 k,.int .i64 o,.int .i64 r,.int .i64 e]⟩,.int .i64 x] w
 (fun v w'=>v=(jf k o r e x,lJ k o r e x,())/\Ext w w'):=by
 refine aL (C:=D2) (aJ:=fun _=>[]) (Eq.mpr (RI k o r e x w _) ?_)
 have H:=At.start [] w
 repeat' (first
  |exact Go.RX.aF.all H
  |exact And.intro (by first|rfl|decide+kernel) (Go.RX.aF.all H)
  |refine And.intro (by first|exact rfl|exact trivial|exact fun _=>rfl|exact fun _=>trivial|exact⟨rfl,by decide,by decide⟩|exact⟨by decide,by decide⟩|decide+kernel|exact fun _=>by decide|exact fun _=>⟨rfl,by decide,by decide⟩|(dsimp only[List.length_cons,List.length_nil];exact⟨rfl,by decide,by decide⟩)) ?_
  |refine ag.bP 0 H rfl rfl ?_
  |refine ag.bP 1 H rfl rfl ?_
  |refine ag.bP 2 H rfl rfl ?_
  |refine ag.at 0 H rfl rfl ?_
  |refine ag.at 1 H rfl rfl ?_
  |refine ag.at 2 H rfl rfl ?_
  |refine aA.go H fun b w1 H=>?_
  |refine av.all 0 H rfl rfl rfl fun w1 H=>?_
  |refine av.all 1 H rfl rfl rfl fun w1 H=>?_
  |refine av.all 2 H rfl rfl rfl fun w1 H=>?_
  |refine av.dJ 0 H rfl rfl rfl fun w1 H=>?_
  |refine av.dJ 1 H rfl rfl rfl fun w1 H=>?_
  |refine av.dJ 2 H rfl rfl rfl fun w1 H=>?_
  |refine av.one 0 H rfl rfl rfl fun w1 H=>?_
  |refine av.one 1 H rfl rfl rfl fun w1 H=>?_
  |refine av.one 2 H rfl rfl rfl fun w1 H=>?_
  |with_reducible refine aj.go H fun w1 H=>?_
  |refine gf ?_
  |refine ay (by assumption) ?_
  |refine ak (by assumption) ?_
  |refine aa (fun c=>?_) (fun c=>?_))
 all_goals
  refine And.intro ?_ H.all
  simp only[Bool.or_eq_true,Bool.or_eq_false_iff,Bool.and_eq_true,Bool.and_eq_false_iff,beq_iff_eq,beq_eq_false_iff_ne,bne_iff_ne,bne_eq_false_iff_eq,decide_eq_true_eq,decide_eq_false_iff_not,Bool.false_eq_true,Bool.true_eq_false,Bool.not_eq_true',Bool.not_eq_false',and_true,true_and,and_false,false_and,or_true,true_or,or_false,false_or,ne_eq,not_true_eq_false,not_false_eq_true,false_iff,iff_false,true_iff,iff_true] at*
 ·simp[jf,lJ, *]
 ·have h2: ¬ (k=2\/k=3\/k=4):=by omega
  simp[jf,lJ, *]
 all_goals
  have hr:bR k o r e=true:=by assumption
  have hp:fA k o r e:=of_decide_eq_true hr
  unfold fA at hp
  have e1:bL .i64 65535 r=65535 - r:=bS (by omega) (by omega)
  have e2:bL .i64 0 r=0 - r:=bS (by omega) (by omega)
  simp only[e1,e2] at*
  have h2:k=2\/k=3\/k=4:=by omega
 ·have h3:r+x<0\/r+x>65535:=by omega
  simp[jf,lJ, *]
 ·have h3: ¬ (r+x<0\/r+x>65535):=by omega
  have e3:au .i64 r x=r+x:=ar (by omega) (by omega)
  have:lJ k o r e x=0:=by unfold lJ;rw[if_neg (by rw[hr];decide),if_pos h2,if_neg h3]
  unfold jf
  rw[this,if_pos rfl,e3]
theorem N6 (k o r e x:Int) (hx: -9223372036854775808<=x/\x<9223372036854775808) (w:World):an Tryz.prog 192 (.bq [(.agg [.int .i64,.int .i64,.int .i64,.int .i64]),.one (.int .i64)]) [.agg ⟨[.int .i64 k,.int .i64 o,.int .i64 r,.int .i64 e]⟩,.int .i64 x] w
 (fun v w'=>v=(jf k o r e x,lJ k o r e x,())/\Ext w w'):=by
 refine aL (C:=D2) (aJ:=fun _=>[]) (Eq.mpr (N4 k o r e x w _) ?_)
 have H:=At.start [] w
 repeat' (first
  |exact Go.RX.aF.all H
  |exact And.intro (by first|rfl|decide+kernel) (Go.RX.aF.all H)
  |refine And.intro (by first|exact rfl|exact trivial|exact fun _=>rfl|exact fun _=>trivial|exact⟨rfl,by decide,by decide⟩|exact⟨by decide,by decide⟩|decide+kernel|exact fun _=>by decide|exact fun _=>⟨rfl,by decide,by decide⟩|(dsimp only[List.length_cons,List.length_nil];exact⟨rfl,by decide,by decide⟩)) ?_
  |refine ag.bP 0 H rfl rfl ?_
  |refine ag.bP 1 H rfl rfl ?_
  |refine ag.bP 2 H rfl rfl ?_
  |refine ag.at 0 H rfl rfl ?_
  |refine ag.at 1 H rfl rfl ?_
  |refine ag.at 2 H rfl rfl ?_
  |refine aA.go H fun b w1 H=>?_
  |refine av.all 0 H rfl rfl rfl fun w1 H=>?_
  |refine av.all 1 H rfl rfl rfl fun w1 H=>?_
  |refine av.all 2 H rfl rfl rfl fun w1 H=>?_
  |refine av.dJ 0 H rfl rfl rfl fun w1 H=>?_
  |refine av.dJ 1 H rfl rfl rfl fun w1 H=>?_
  |refine av.dJ 2 H rfl rfl rfl fun w1 H=>?_
  |refine av.one 0 H rfl rfl rfl fun w1 H=>?_
  |refine av.one 1 H rfl rfl rfl fun w1 H=>?_
  |refine av.one 2 H rfl rfl rfl fun w1 H=>?_
  |with_reducible refine aj.go H fun w1 H=>?_
  |refine gf ?_
  |refine ay (by assumption) ?_
  |refine ak (by assumption) ?_
  |refine aa (fun c=>?_) (fun c=>?_))
 all_goals
  refine And.intro ?_ H.all
  simp only[Bool.or_eq_true,Bool.or_eq_false_iff,Bool.and_eq_true,Bool.and_eq_false_iff,beq_iff_eq,beq_eq_false_iff_ne,bne_iff_ne,bne_eq_false_iff_eq,decide_eq_true_eq,decide_eq_false_iff_not,Bool.false_eq_true,Bool.true_eq_false,Bool.not_eq_true',Bool.not_eq_false',and_true,true_and,and_false,false_and,or_true,true_or,or_false,false_or,ne_eq,not_true_eq_false,not_false_eq_true,false_iff,iff_false,true_iff,iff_true] at*
 ·simp[jf,lJ, *]
 all_goals
  have hr:bR k o r e=true:=by assumption
  have hp:fA k o r e:=of_decide_eq_true hr
  unfold fA at hp
 ·have h2: ¬ (k=2\/k=3\/k=4):=by omega
  simp[jf,lJ, *]
 ·have h2:k=2\/k=3\/k=4:=by omega
  have h3:r+x<0\/r+x>65535:=by
   by_cases h:x>65535\/x< -65535
   ·omega
   ·have e3:au .i64 r x=r+x:=ar (by omega) (by omega)
    simp only[e3] at*
    omega
  simp[jf,lJ, *]
 ·have h2:k=2\/k=3\/k=4:=by omega
  have e3:au .i64 r x=r+x:=ar (by omega) (by omega)
  simp only[e3] at*
  have h3: ¬ (r+x<0\/r+x>65535):=by omega
  have:lJ k o r e x=0:=by unfold lJ;rw[if_neg (by rw[hr];decide),if_pos h2,if_neg h3]
  unfold jf
  rw[this,if_pos rfl]
theorem DN {x:Int} (h:0<=x) (h':x<18446744073709551616):(B x).toNat=x.toNat:=by
 have:=wN h h'
 unfold U at this
 omega
theorem cJ (x:Int):ax .u64 x=U (B x):=r7 x
end Go.Proofs.YtdnoecpjcoibmaaGreat.D
namespace Go.Proofs.YtdnoecpjcoibmaaGreat.D
set_option maxRecDepth 100000
open Go.RX
def fE (N:Nat):Int:=((N / 4294967296 % 4294967296:Nat):Int)
theorem WY {x:Int} (h:0<=x) (h':x<4294967296):ax .i64 x=x:=eT (by omega) (by omega)
theorem cE (N:Nat):ax .i64 (fE N)=fE N:=WY (by unfold fE;omega) (by unfold fE;omega)
end Go.Proofs.YtdnoecpjcoibmaaGreat.D
namespace Go.Proofs.YtdnoecpjcoibmaaGreat.D
set_option maxRecDepth 100000
open Go.RX
noncomputable def Ui:Entry Tryz.prog where
 f:=199
 fn l:=match l with
  |[.agg ⟨[.int .i64 k,.int .i64 o,.int .i64 r,.int .i64 e]⟩,.int .i64 x,.int .i64 y]=>some (True,.tuple ⟨[.agg ⟨[.int .i64 (ig k o r e x y),.int .i64 (gj k o r e x y),.int .i64 0,.int .i64 0]⟩,.int .i64 (dV k o r e x y)]⟩)
  | _=>none
 ok args pre v h hp w:=by
  split at h
  ·rename_i k o r e x y
   cases h
   exact aO (N5 k o r e x y w)
  ·cases h
noncomputable def RK:Entry Tryz.prog where
 f:=182
 fn l:=match l with
  |[.agg ⟨[.int .i64 k,.int .i64 o,.int .i64 r,.int .i64 e]⟩,.int .i64 x,.int .i64 y]=>some (True,.tuple ⟨[.agg ⟨[.int .i64 (ig k o r e x y),.int .i64 (gj k o r e x y),.int .i64 0,.int .i64 0]⟩,.int .i64 (dV k o r e x y)]⟩)
  | _=>none
 ok args pre v h hp w:=by
  split at h
  ·rename_i k o r e x y
   cases h
   exact aO (Lq k o r e x y w)
  ·cases h
noncomputable def WZ:Entry Tryz.prog where
 f:=216
 fn l:=match l with
  |[.agg ⟨[.int .i64 k,.int .i64 o,.int .i64 r,.int .i64 e]⟩,.int .i64 x]=>some ((-9223372036854775808<=x/\x<9223372036854775808),.tuple ⟨[.agg ⟨[.int .i64 (jf k o r e x).1,.int .i64 (jf k o r e x).2.1,.int .i64 (jf k o r e x).2.2.1,.int .i64 (jf k o r e x).2.2.2.1]⟩,.int .i64 (lJ k o r e x)]⟩)
  | _=>none
 ok args pre v h hp w:=by
  split at h
  ·rename_i k o r e x
   cases h
   exact aO (RJ k o r e x hp w)
  ·cases h
noncomputable def Uj:Entry Tryz.prog where
 f:=192
 fn l:=match l with
  |[.agg ⟨[.int .i64 k,.int .i64 o,.int .i64 r,.int .i64 e]⟩,.int .i64 x]=>some ((-9223372036854775808<=x/\x<9223372036854775808),.tuple ⟨[.agg ⟨[.int .i64 (jf k o r e x).1,.int .i64 (jf k o r e x).2.1,.int .i64 (jf k o r e x).2.2.1,.int .i64 (jf k o r e x).2.2.2.1]⟩,.int .i64 (lJ k o r e x)]⟩)
  | _=>none
 ok args pre v h hp w:=by
  split at h
  ·rename_i k o r e x
   cases h
   exact aO (N6 k o r e x hp w)
  ·cases h
noncomputable def D3:dD Tryz.prog:={D0 with sX:=false,qc:=[qB,MJ,yP,yQ,sY,sZ,BU,BV,QM,zl,zm,r_,nU,Ui,RK,WZ,Uj]}
end Go.Proofs.YtdnoecpjcoibmaaGreat.D
namespace Go.Proofs.YtdnoecpjcoibmaaGreat.D
set_option maxRecDepth 100000
open Go.RX
noncomputable def E0:dD Tryz.prog:={D3 with sh:=[(116,.el (.one (.rN 178 2))),(56,.el (.one (.rN 178 2)))],quiet:=[117,202,39]}
noncomputable def E1:dD Tryz.prog:={E0 with cl:=[(190,.rN 117 1)]}
noncomputable def E2:dD Tryz.prog:={E0 with cl:=[(190,.rN 202 1)]}
abbrev TD:Sh:= .el (.one (.rN 178 2))
theorem RM (p:Option Addr) (w:World) (Post:Int->World->Prop):(aH E0 (fun _=>[]) 39 [.pointer p] w Post)=(
 aB p.isNone (aj w fun w1=>Post 0 w1) (p.isSome=true/\p.isSome=true/\ag w none (af p 0) (.one .slice) fun x=>aj w fun w1=>Post (↑x.2.1:Int) w1)):=by kernel_rfl
theorem RN (k o r e:Int) (c:Option Addr) (w:World) (Post:Bool->World->Prop):(aH E0 (fun _=>[]) 117 [.agg ⟨[.int .i64 k,.int .i64 o,.int .i64 r,.int .i64 e]⟩,.pointer c] w Post)=(
 aA w ⟨[.int .i64 k,.int .i64 o,.int .i64 r,.int .i64 e]⟩ 53 fun b w2=>true=true/\ag w2 none (af (some ⟨b,0,none⟩) 0) (.one (.int .i64)) fun(x:Int)=>ag w2 none c (.one (.int .i64)) fun(x_1:Int)=>aj w2 fun w1=>Post (x==x_1) w1):=by kernel_rfl
theorem Gg (k o r e:Int) (c:Option Addr) (w:World) (Post:Bool->World->Prop):(aH E0 (fun _=>[]) 202 [.agg ⟨[.int .i64 k,.int .i64 o,.int .i64 r,.int .i64 e]⟩,.pointer c] w Post)=(
 aA w ⟨[.int .i64 k,.int .i64 o,.int .i64 r,.int .i64 e]⟩ 53 fun b w2=>true=true/\ag w2 none (af (some ⟨b,0,none⟩) 1) (.one (.int .i64)) fun(x:Int)=>ag w2 none c (.one (.int .i64)) fun(x_1:Int)=>aj w2 fun w1=>Post (x==x_1) w1):=by kernel_rfl
theorem Uk (p:Option Addr) (k:Int) (w:World) (Post:Option Addr×Option Addr×Unit->World->Prop):(aH E0 (fun _=>[]) 56 [.pointer p,.int .i64 k] w Post)=(
 aA w ⟨[.int .i64 k]⟩ 3 fun b w2=>az Tryz.prog 116 (.el (.one (.rN 178 2))) [.pointer p,.func (.func 117) ⟨[]⟩ {toList:=[.pointer (some ⟨b,0,none⟩)]}] w2 fun x w2=>aj w2 fun w1=>Post (x.1,x.2.1,Unit.unit) w1):=by kernel_rfl
theorem N7 (p c:Option Addr) (w:World) (Post:Option Addr×Option Addr×Unit->World->Prop):(aH E0 (fun _=>[]) 116 [.pointer p,.func (.func 117) #[] #[.pointer c]] w Post)=(
 aA w ⟨[.pointer p]⟩ 49 fun b w2=>aA w2 {toList:=[.func (.func 117) ⟨[]⟩ ⟨[.pointer c]⟩]} 190 fun b_1 w2=>aj w2 fun w1=>Post (some ⟨b,0,none⟩,some ⟨b_1,0,none⟩,Unit.unit) w1):=by kernel_rfl
theorem Lr (p c:Option Addr) (w:World) (Post:Option Addr×Option Addr×Unit->World->Prop):(aH E0 (fun _=>[]) 116 [.pointer p,.func (.func 202) #[] #[.pointer c]] w Post)=(
 aA w ⟨[.pointer p]⟩ 49 fun b w2=>aA w2 {toList:=[.func (.func 202) ⟨[]⟩ ⟨[.pointer c]⟩]} 190 fun b_1 w2=>aj w2 fun w1=>Post (some ⟨b,0,none⟩,some ⟨b_1,0,none⟩,Unit.unit) w1):=by kernel_rfl
def rF:Nat->aQ:=(fun|2=>[(13,Go.RX.El.one (Go.RX.Sc.int Go.IntKind.i64))]| _=>[])
theorem Lt (y:Nat) (p c:Option Addr) (w:World) (Post:Unit->World->Prop):(aH E1 rF 178 [.func (.yield y) #[] #[],.pointer p,.pointer c] w Post)=(
 ag w none p (.one .ptr) fun x=>aB x.isNone (aj w fun w1=>Post Unit.unit w1) (ag w none p (.one .ptr) fun x=>x.isSome=true/\x.isSome=true/\ag w none (af x 0) (.one .slice) fun x=> ∃(I:Nat->Int×Unit->World->Prop),(∃n, ∀w1,Ext w w1->I n (0,Unit.unit) w1)/\ ∀(n:Nat) (s:Int×Unit) (w1:World),I n s w1->aB (decide (s.1<(↑x.2.1:Int))) ((x.1.isSome=true/\0<=s.1/\s.1<(↑x.2.1:Int))/\ag w1 none (af x.1 (Int.toNat s.1*4)) (.agg [.int .i64,.int .i64,.int .i64,.int .i64]) fun(x:Int×Int×Int×Int×Unit)=>aA w1 ⟨[.int .i64 0,.int
 .i64 0,.int .i64 0,.int .i64 0]⟩ 53 fun b w2=>av w2 (some ⟨b,0,none⟩) [.int .i64 x.1,.int .i64 x.2.1,.int .i64 x.2.2.1,.int .i64 x.2.2.2.1] fun w2=>ag w2 none c (.one (.rN 117 1)) fun x=>ag w2 none (some ⟨b,0,none⟩) (.agg [.int .i64,.int .i64,.int .i64,.int .i64]) fun(x_1:Int×Int×Int×Int×Unit)=> ∃x_2,ah Tryz.prog 117 [.agg ⟨[.int .i64 x_1.1,.int .i64 x_1.2.1,.int .i64 x_1.2.2.1,.int .i64 x_1.2.2.2.1]⟩,.pointer x.1] w2 (.bool x_2)/\aB x_2 (∀w1,Ext w2 w1->ko Tryz.prog y [.int .i64 s.1] w1 fun(b:Bool) w2=>aB (!b) (aj w2 fun w1=>Post
 Unit.unit w1) (∀w3,Ext w2 w3-> ∃(n':Nat),n'<n/\I n' (au .i64 s.1 1,Unit.unit) w3)) (∀w3,Ext w2 w3-> ∃(n':Nat),n'<n/\I n' (au .i64 s.1 1,Unit.unit) w3)) (aj w1 fun w1=>Post Unit.unit w1))):=by kernel_rfl
def oT:Nat->aQ:=(fun|2=>[(13,Go.RX.El.one (Go.RX.Sc.int Go.IntKind.i64))]| _=>[])
theorem Gj (y:Nat) (p c:Option Addr) (w:World) (Post:Unit->World->Prop):(aH E2 oT 178 [.func (.yield y) #[] #[],.pointer p,.pointer c] w Post)=(
 ag w none p (.one .ptr) fun x=>aB x.isNone (aj w fun w1=>Post Unit.unit w1) (ag w none p (.one .ptr) fun x=>x.isSome=true/\x.isSome=true/\ag w none (af x 0) (.one .slice) fun x=> ∃(I:Nat->Int×Unit->World->Prop),(∃n, ∀w1,Ext w w1->I n (0,Unit.unit) w1)/\ ∀(n:Nat) (s:Int×Unit) (w1:World),I n s w1->aB (decide (s.1<(↑x.2.1:Int))) ((x.1.isSome=true/\0<=s.1/\s.1<(↑x.2.1:Int))/\ag w1 none (af x.1 (Int.toNat s.1*4)) (.agg [.int .i64,.int .i64,.int .i64,.int .i64]) fun(x:Int×Int×Int×Int×Unit)=>aA w1 ⟨[.int .i64 0,.int
 .i64 0,.int .i64 0,.int .i64 0]⟩ 53 fun b w2=>av w2 (some ⟨b,0,none⟩) [.int .i64 x.1,.int .i64 x.2.1,.int .i64 x.2.2.1,.int .i64 x.2.2.2.1] fun w2=>ag w2 none c (.one (.rN 202 1)) fun x=>ag w2 none (some ⟨b,0,none⟩) (.agg [.int .i64,.int .i64,.int .i64,.int .i64]) fun(x_1:Int×Int×Int×Int×Unit)=> ∃x_2,ah Tryz.prog 202 [.agg ⟨[.int .i64 x_1.1,.int .i64 x_1.2.1,.int .i64 x_1.2.2.1,.int .i64 x_1.2.2.2.1]⟩,.pointer x.1] w2 (.bool x_2)/\aB x_2 (∀w1,Ext w2 w1->ko Tryz.prog y [.int .i64 s.1] w1 fun(b:Bool) w2=>aB (!b) (aj w2 fun w1=>Post
 Unit.unit w1) (∀w3,Ext w2 w3-> ∃(n':Nat),n'<n/\I n' (au .i64 s.1 1,Unit.unit) w3)) (∀w3,Ext w2 w3-> ∃(n':Nat),n'<n/\I n' (au .i64 s.1 1,Unit.unit) w3)) (aj w1 fun w1=>Post Unit.unit w1))):=by kernel_rfl
theorem Lu (k o r e:Int) (c d:Option Addr) (w:World) (Post:(Int×Int×Int×Int×Unit)×Int×Unit->World->Prop):(bM E0 (fun _=>[]) 198 [.agg ⟨[.int .i64 k,.int .i64 o,.int .i64 r,.int .i64 e]⟩,.pointer c,.pointer d] w Post)=(
 aA w ⟨[.int .i64 k,.int .i64 o,.int .i64 r,.int .i64 e]⟩ 53 fun b w2=>aA w2 ⟨[.int .i64 0,.int .i64 0,.int .i64 0,.int .i64 0]⟩ 53 fun b_1 w2=>ag w2 none (some ⟨b,0,none⟩) (.agg [.int .i64,.int .i64,.int .i64,.int .i64]) fun(x:Int×Int×Int×Int×Unit)=>ag w2 none c (.one (.int .i64)) fun(x_1:Int)=>ag w2 none d (.one (.int .i64)) fun(x_2:Int)=>True/\av w2 (some ⟨b_1,0,none⟩) [.int .i64 (ig x.1 x.2.1 x.2.2.1 x.2.2.2.1 x_1 x_2),.int .i64 (gj x.1 x.2.1 x.2.2.1 x.2.2.2.1 x_1 x_2),.int .i64 0,.int .i64 0] fun w2=>aj w2 fun w1=>ag w1 none
 (some ⟨b_1,0,none⟩) (.agg [.int .i64,.int .i64,.int .i64,.int .i64]) fun(x_3:Int×Int×Int×Int×Unit)=>Post ((x_3.1,x_3.2.1,x_3.2.2.1,x_3.2.2.2.1,Unit.unit),dV x.1 x.2.1 x.2.2.1 x.2.2.2.1 x_1 x_2,Unit.unit) w1):=by kernel_rfl
theorem N8 (k o r e:Int) (c:Option Addr) (w:World) (Post:(Int×Int×Int×Int×Unit)×Int×Unit->World->Prop):(bM E0 (fun _=>[]) 215 [.agg ⟨[.int .i64 k,.int .i64 o,.int .i64 r,.int .i64 e]⟩,.pointer c] w Post)=(
 aA w ⟨[.int .i64 k,.int .i64 o,.int .i64 r,.int .i64 e]⟩ 53 fun b w2=>aA w2 ⟨[.int .i64 0,.int .i64 0,.int .i64 0,.int .i64 0]⟩ 53 fun b_1 w2=>ag w2 none (some ⟨b,0,none⟩) (.agg [.int .i64,.int .i64,.int .i64,.int .i64]) fun(x:Int×Int×Int×Int×Unit)=>ag w2 none c (.one (.int .i64)) fun(x_1:Int)=>(-9223372036854775808<=x_1/\x_1<9223372036854775808)/\av w2 (some ⟨b_1,0,none⟩) [.int .i64 (jf x.1 x.2.1 x.2.2.1 x.2.2.2.1 x_1).1,.int .i64 (jf x.1 x.2.1 x.2.2.1 x.2.2.2.1 x_1).2.1,.int .i64 (jf x.1 x.2.1 x.2.2.1 x.2.2.2.1 x_1).2.2.1,.int .i64
 (jf x.1 x.2.1 x.2.2.1 x.2.2.2.1 x_1).2.2.2.1] fun w2=>aj w2 fun w1=>ag w1 none (some ⟨b_1,0,none⟩) (.agg [.int .i64,.int .i64,.int .i64,.int .i64]) fun(x_2:Int×Int×Int×Int×Unit)=>Post ((x_2.1,x_2.2.1,x_2.2.2.1,x_2.2.2.2.1,Unit.unit),lJ x.1 x.2.1 x.2.2.1 x.2.2.2.1 x_1,Unit.unit) w1):=by kernel_rfl
theorem Gl (p:Option Addr) (f:Int) (c d:Option Addr) (w:World) (Post:Int->World->Prop):(aH E0 (fun _=>[]) 197 [.pointer p,.int .i64 f,.func (.func 198) #[] #[.pointer c,.pointer d]] w Post)=(
 ∃(x:Int),ah Tryz.prog 39 [.pointer p] w (.int .i64 x)/\aB (x==0) (aj w fun w1=>Post 10 w1) (((!decide (f<0))=true->p.isSome=true)/\((!decide (f<0))=true->p.isSome=true)/\ag w (some !decide (f<0)) (af p 0) (.one .slice) fun x=>aB (decide (f<0)||decide (f>=(↑x.2.1:Int))) (aj w fun w1=>Post 2 w1) (p.isSome=true/\p.isSome=true/\ag w none (af p 0) (.one .slice) fun x=>(x.1.isSome=true/\0<=f/\f<(↑x.2.1:Int))/\ag w none (af x.1 (f.toNat*4)) (.agg [.int .i64,.int .i64,.int .i64,.int .i64]) fun(x:Int×Int×Int×Int×
 Unit)=>az Tryz.prog 198 (.bq [.agg [.int .i64,.int .i64,.int .i64,.int .i64],.one (.int .i64)]) [.agg ⟨[.int .i64 x.1,.int .i64 x.2.1,.int .i64 x.2.2.1,.int .i64 x.2.2.2.1]⟩,.pointer c,.pointer d] w fun(x:(Int×Int×Int×Int×Unit)×Int×Unit) w2=>aA w2 ⟨[.int .i64 0,.int .i64 0,.int .i64 0,.int .i64 0]⟩ 53 fun b w2=>av w2 (some ⟨b,0,none⟩) [.int .i64 x.1.1,.int .i64 x.1.2.1,.int .i64 x.1.2.2.1,.int .i64 x.1.2.2.2.1] fun w2=>aB (x.2.1==0) (p.isSome=true/\p.isSome=true/\ag w2 none (af p 0) (.one .slice) fun x_1=>ag w2 none (some ⟨b,0,
 none⟩) (.agg [.int .i64,.int .i64,.int .i64,.int .i64]) fun(x_2:Int×Int×Int×Int×Unit)=>(x_1.1.isSome=true/\0<=f/\f<(↑x_1.2.1:Int))/\av w2 (af x_1.1 (f.toNat*4)) [.int .i64 x_2.1,.int .i64 x_2.2.1,.int .i64 x_2.2.2.1,.int .i64 x_2.2.2.2.1] fun w2=>aj w2 fun w1=>Post x.2.1 w1) (aj w2 fun w1=>Post x.2.1 w1)))):=by kernel_rfl
theorem C6 (p:Option Addr) (f:Int) (c:Option Addr) (w:World) (Post:Int->World->Prop):(aH E0 (fun _=>[]) 197 [.pointer p,.int .i64 f,.func (.func 215) #[] #[.pointer c]] w Post)=(
 ∃(x:Int),ah Tryz.prog 39 [.pointer p] w (.int .i64 x)/\aB (x==0) (aj w fun w1=>Post 10 w1) (((!decide (f<0))=true->p.isSome=true)/\((!decide (f<0))=true->p.isSome=true)/\ag w (some !decide (f<0)) (af p 0) (.one .slice) fun x=>aB (decide (f<0)||decide (f>=(↑x.2.1:Int))) (aj w fun w1=>Post 2 w1) (p.isSome=true/\p.isSome=true/\ag w none (af p 0) (.one .slice) fun x=>(x.1.isSome=true/\0<=f/\f<(↑x.2.1:Int))/\ag w none (af x.1 (f.toNat*4)) (.agg [.int .i64,.int .i64,.int .i64,.int .i64]) fun(x:Int×Int×Int×Int×
 Unit)=>az Tryz.prog 215 (.bq [.agg [.int .i64,.int .i64,.int .i64,.int .i64],.one (.int .i64)]) [.agg ⟨[.int .i64 x.1,.int .i64 x.2.1,.int .i64 x.2.2.1,.int .i64 x.2.2.2.1]⟩,.pointer c] w fun(x:(Int×Int×Int×Int×Unit)×Int×Unit) w2=>aA w2 ⟨[.int .i64 0,.int .i64 0,.int .i64 0,.int .i64 0]⟩ 53 fun b w2=>av w2 (some ⟨b,0,none⟩) [.int .i64 x.1.1,.int .i64 x.1.2.1,.int .i64 x.1.2.2.1,.int .i64 x.1.2.2.2.1] fun w2=>aB (x.2.1==0) (p.isSome=true/\p.isSome=true/\ag w2 none (af p 0) (.one .slice) fun x_1=>ag w2 none (some ⟨b,0,none⟩) (.agg
 [.int .i64,.int .i64,.int .i64,.int .i64]) fun(x_2:Int×Int×Int×Int×Unit)=>(x_1.1.isSome=true/\0<=f/\f<(↑x_1.2.1:Int))/\av w2 (af x_1.1 (f.toNat*4)) [.int .i64 x_2.1,.int .i64 x_2.2.1,.int .i64 x_2.2.2.1,.int .i64 x_2.2.2.2.1] fun w2=>aj w2 fun w1=>Post x.2.1 w1) (aj w2 fun w1=>Post x.2.1 w1)))):=by kernel_rfl
theorem N9 (p:Option Addr) (f k o:Int) (w:World) (Post:Int->World->Prop):(aH E0 (fun _=>[]) 146 [.pointer p,.int .i64 f,.int .i64 k,.int .i64 o] w Post)=(
 aA w ⟨[.int .i64 k]⟩ 3 fun b w2=>aA w2 ⟨[.int .i64 o]⟩ 3 fun b_1 w2=>az Tryz.prog 197 (.el (.one (.int .i64))) [.pointer p,.int .i64 f,.func (.func 198) ⟨[]⟩ {toList:=[.pointer (some ⟨b,0,none⟩),.pointer (some ⟨b_1,0,none⟩)]}] w2 fun(x:Int) w2=>aj w2 fun w1=>Post x w1):=by kernel_rfl
theorem N_ (p:Option Addr) (f x:Int) (w:World) (Post:Int->World->Prop):(aH E0 (fun _=>[]) 167 [.pointer p,.int .i64 f,.int .i64 x] w Post)=(
 aA w ⟨[.int .i64 x]⟩ 3 fun b w2=>az Tryz.prog 197 (.el (.one (.int .i64))) [.pointer p,.int .i64 f,.func (.func 215) ⟨[]⟩ {toList:=[.pointer (some ⟨b,0,none⟩)]}] w2 fun(x:Int) w2=>aj w2 fun w1=>Post x w1):=by kernel_rfl
theorem Oa (p:Option Addr) (f:Int) (w:World) (Post:Int->World->Prop):(aH E0 (fun _=>[]) 81 [.pointer p,.int .i64 f] w Post)=(
 az Tryz.prog 146 (.el (.one (.int .i64))) [.pointer p,.int .i64 f,.int .i64 0,.int .i64 0] w fun(x:Int) w2=>aj w2 fun w1=>Post x w1):=by kernel_rfl
theorem RO (p:Option Addr) (f:Int) (w:World) (Post:(Int×Int×Int×Int×Unit)×Bool×Unit->World->Prop):(bM E0 (fun _=>[]) 21 [.pointer p,.int .i64 f] w Post)=(
 aA w ⟨[.int .i64 0,.int .i64 0,.int .i64 0,.int .i64 0]⟩ 53 fun b w2=> ∃(x:Int),((!decide (f<0))=true->ah Tryz.prog 39 [.pointer p] w2 (.int .i64 x))/\aB (decide (f<0)||decide (f>=x)) (av w2 (some ⟨b,0,none⟩) [.int .i64 0,.int .i64 0,.int .i64 0,.int .i64 0] fun w2=>aj w2 fun w1=>ag w1 none (some ⟨b,0,none⟩) (.agg [.int .i64,.int .i64,.int .i64,.int .i64]) fun(x:Int×Int×Int×Int×Unit)=>Post ((x.1,x.2.1,x.2.2.1,x.2.2.2.1,Unit.unit),false,Unit.unit) w1) (p.isSome=true/\p.isSome=true/\ag w2 none (af p 0) (.one .slice) fun x=>
 (x.1.isSome=true/\0<=f/\f<(↑x.2.1:Int))/\ag w2 none (af x.1 (f.toNat*4)) (.agg [.int .i64,.int .i64,.int .i64,.int .i64]) fun(x:Int×Int×Int×Int×Unit)=>av w2 (some ⟨b,0,none⟩) [.int .i64 x.1,.int .i64 x.2.1,.int .i64 x.2.2.1,.int .i64 x.2.2.2.1] fun w2=>aj w2 fun w1=>ag w1 none (some ⟨b,0,none⟩) (.agg [.int .i64,.int .i64,.int .i64,.int .i64]) fun(x:Int×Int×Int×Int×Unit)=>Post ((x.1,x.2.1,x.2.2.1,x.2.2.2.1,Unit.unit),true,Unit.unit) w1)):=by kernel_rfl
theorem Oc (n:Int) (w:World) (Post:Option Addr×Int×Unit->World->Prop):(aH E0 (fun _=>[]) 44 [.int .i64 n] w Post)=(
 aB (decide (n<1)||decide (n>4096)) (aj w fun w1=>Post (none,1,Unit.unit) w1) (BF w 32 4 n n ⟨[.int .i64 0,.int .i64 0,.int .i64 0,.int .i64 0]⟩ 53 fun b w2=>aA w2 {toList:=[.slice (some ⟨b,0,none⟩) n.toNat n.toNat]} 121 fun b w2=>aj w2 fun w1=>Post (some ⟨b,0,none⟩,0,Unit.unit) w1)):=by kernel_rfl
theorem Od (p:Option Addr) (w:World) (Post:Option Addr->World->Prop):(aH E0 (fun _=>[]) 55 [.pointer p] w Post)=(
 ∃(x:Int),ah Tryz.prog 39 [.pointer p] w (.int .i64 x)/\aB (x==0) (aj w fun w1=>Post none w1) (p.isSome=true/\p.isSome=true/\ag w none (af p 0) (.one .slice) fun x=> ∀w1,Ext w w1->tV w1 53 4 32 ⟨[.int .i64 0,.int .i64 0,.int .i64 0,.int .i64 0]⟩ (none,0,0) (x.1,x.2.1,x.2.2) fun(r:Option Addr×Nat×Nat) w2=>aA w2 ⟨[.slice r.1 r.2.1 r.2.2]⟩ 121 fun b w2=>aj w2 fun w1=>Post (some ⟨b,0,none⟩) w1)):=by kernel_rfl
def rG:Nat->aQ:=(fun|3=>[(9,.one (.int .i64))]| _=>[])
theorem Lv (p:Option Addr) (k:Int) (w:World) (Post:Int->World->Prop):(bM E0 rG 20 [.pointer p,.int .i64 k] w Post)=(
 aA w ⟨[.int .i64 0]⟩ 3 fun b w2=>av w2 (some ⟨b,0,none⟩) [.int .i64 0] fun w2=>az Tryz.prog 56 (.el (.one (.rN 178 2))) [.pointer p,.int .i64 k] w2 fun x w2=>wD Tryz.prog 178 (fun(y:Nat)=>[.func (Fn.yield y) ⟨[]⟩ ⟨[]⟩,.pointer x.1,.pointer x.2.1]) ⟨[9]⟩ w2 (fun(x:Int×Unit)=>[.int .i64 x.1]) (fun(l:Nat) (rec:Loop) (x:Int×Unit) w3 (R:Bool->World->Prop)=>Aa l rec [Value.int .i64 x.1].length 1 w3 (yI l rec w3 fun w5=>ag w5 none (some ⟨b,0,none⟩) (.one (.int .i64)) fun(x:Int)=>av w5 (some ⟨b,0,none⟩) [.int .i64 (au .i64 x 1)] fun w2=>
 qg l rec none w2 R)) fun(r:Nat) (rec:Loop) w4=>cO (r+1) rec w4 (fun w5=>ag w5 none (some ⟨b,0,none⟩) (.one (.int .i64)) fun(x:Int)=>qh [r] w5 fun w1=>Post x w1) (fun(id:Nat) w5=>Decidable.rec (fun(h:id=0->False)=>False) (fun(h:id=0)=>ag w5 none (some ⟨b,0,none⟩) (.one (.int .i64)) fun(x:Int)=>qh [r] w5 fun w1=>Post x w1) (match h:id.beq 0 with|true=>isTrue (Nat.eq_of_beq_eq_true h)|false=>isFalse (Nat.ne_of_beq_eq_false h))) fun w5=>qh [r] w5 fun w1=>Post 0 w1):=by kernel_rfl
def rH:Nat->aQ:=(fun|4=>[(10,.one (.int .i64))]| _=>[])
theorem Lw (p:Option Addr) (k:Int) (w:World) (Post:Option Addr×Nat×Nat->World->Prop):(bM E0 rH 149 [.pointer p,.int .i64 k] w Post)=(
 aA w ⟨[.int .i64 k]⟩ 3 fun b w2=>aA w2 ⟨[.slice none 0 0]⟩ 27 fun b_1 w2=>az Tryz.prog 116 (.el (.one (.rN 178 2))) [.pointer p,.func (.func 202) ⟨[]⟩ {toList:=[.pointer (some ⟨b,0,none⟩)]}] w2 fun x w2=>wD Tryz.prog 178 (fun(y:Nat)=>[.func (Fn.yield y) ⟨[]⟩ ⟨[]⟩,.pointer x.1,.pointer x.2.1]) ⟨[10]⟩ w2 (fun(x:Int×Unit)=>[.int .i64 x.1]) (fun(l:Nat) (rec:Loop) (x:Int×Unit) w3 (R:Bool->World->Prop)=>Aa l rec [Value.int .i64 x.1].length 1 w3 (yI l rec w3 fun w5=>ag w5 none (some ⟨b_1,0,none⟩) (.one .slice) fun x_1=>aA w5 ⟨[.int .i64 x.1]⟩
 3 fun b w2=> ∀w1,Ext w2 w1->tV w1 3 1 8 ⟨[.int .i64 0]⟩ (x_1.1,x_1.2.1,x_1.2.2) (some ⟨b,0,none⟩,1,1) fun(r:Option Addr×Nat×Nat) w2=>av w2 (some ⟨b_1,0,none⟩) [.slice r.1 r.2.1 r.2.2] fun w2=>qg l rec none w2 R)) fun(r:Nat) (rec:Loop) w4=>cO (r+1) rec w4 (fun w5=>ag w5 none (some ⟨b_1,0,none⟩) (.one .slice) fun x=>qh [r] w5 fun w1=>Post (x.1,x.2.1,x.2.2) w1) (fun(id:Nat) w5=>Decidable.rec (fun(h:id=0->False)=>False) (fun(h:id=0)=>ag w5 none (some ⟨b_1,0,none⟩) (.one .slice) fun x=>qh [r] w5 fun w1=>Post (x.1,
 x.2.1,x.2.2) w1) (match h:id.beq 0 with|true=>isTrue (Nat.eq_of_beq_eq_true h)|false=>isFalse (Nat.ne_of_beq_eq_false h))) fun w5=>qh [r] w5 fun w1=>Post (none,0,0) w1):=by kernel_rfl
def tM:Nat->aQ:=(fun|5=>[(15,.one (.int .i64))]| _=>[])
theorem Oe (p:Option Addr) (k o:Int) (w:World) (Post:Int×Int×Unit->World->Prop):(bM E0 tM 155 [.pointer p,.int .i64 k,.int .i64 o] w Post)=(
 aA w ⟨[.pointer p]⟩ 49 fun b w2=>aA w2 ⟨[.int .i64 k]⟩ 3 fun b_1 w2=>aA w2 ⟨[.int .i64 o]⟩ 3 fun b_2 w2=>aA w2 ⟨[.int .i64 0]⟩ 3 fun sN w2=>aA w2 ⟨[.int .i64 0]⟩ 24 fun BK w2=>ag w2 none (some ⟨b,0,none⟩) (.one .ptr) fun x=> ∃(x_1:Int),ah Tryz.prog 39 [.pointer x] w2 (.int .i64 x_1)/\aB (x_1==0) (av w2 (some ⟨sN,0,none⟩) [.int .i64 0] fun w2=>av w2 (some ⟨BK,0,none⟩) [.int .i64 10] fun w2=>aj w2 fun w1=>ag w1 none (some ⟨sN,0,none⟩) (.one (.int .i64)) fun(x:Int)=>ag w1 none (some ⟨BK,0,none⟩) (.one (.int .i64)) fun(x_2:Int)=>
 Post (x,x_2,Unit.unit) w1) (ag w2 none (some ⟨b,0,none⟩) (.one .ptr) fun x=>az Tryz.prog 56 (.el (.one (.rN 178 2))) [.pointer x,.int .i64 0] w2 fun x w2=>wD Tryz.prog 178 (fun(y:Nat)=>[.func (Fn.yield y) ⟨[]⟩ ⟨[]⟩,.pointer x.1,.pointer x.2.1]) ⟨[15]⟩ w2 (fun(x:Int×Unit)=>[.int .i64 x.1]) (fun(l:Nat) (rec:Loop) (x:Int×Unit) w3 (R:Bool->World->Prop)=>Aa l rec [Value.int .i64 x.1].length 1 w3 (yI l rec w3 fun w5=>ag w5 none (some ⟨b,0,none⟩) (.one .ptr) fun x_2=>ag w5 none (some ⟨b_1,0,none⟩) (.one (.int .i64)) fun(x_3:Int)=>ag w5 none
 (some ⟨b_2,0,none⟩) (.one (.int .i64)) fun(x_4:Int)=>az Tryz.prog 146 (.el (.one (.int .i64))) [.pointer x_2,.int .i64 x.1,.int .i64 x_3,.int .i64 x_4] w5 fun(x_5:Int) w2=>aB (x_5 != 0) (av w2 (some ⟨sN,0,none⟩) [.int .i64 0] fun w2=>av w2 (some ⟨BK,0,none⟩) [.int .i64 x_5] fun w2=>qg l rec (some Code.ret) w2 R) (av w2 (some ⟨sN,0,none⟩) [.int .i64 x.1] fun w2=>av w2 (some ⟨BK,0,none⟩) [.int .i64 0] fun w2=>qg l rec (some Code.ret) w2 R))) fun(r:Nat) (rec:Loop) w4=>cO (r+1) rec w4 (fun w5=>av w5 (some ⟨sN,0,none⟩) [.int .i64 0]
 fun w2=>av w2 (some ⟨BK,0,none⟩) [.int .i64 12] fun w2=>qh [r] w2 fun w1=>ag w1 none (some ⟨sN,0,none⟩) (.one (.int .i64)) fun(x:Int)=>ag w1 none (some ⟨BK,0,none⟩) (.one (.int .i64)) fun(x_2:Int)=>Post (x,x_2,Unit.unit) w1) (fun(id:Nat) w5=>Decidable.rec (fun(h:id=0->False)=>False) (fun(h:id=0)=>av w5 (some ⟨sN,0,none⟩) [.int .i64 0] fun w2=>av w2 (some ⟨BK,0,none⟩) [.int .i64 12] fun w2=>qh [r] w2 fun w1=>ag w1 none (some ⟨sN,0,none⟩) (.one (.int .i64)) fun(x:Int)=>ag w1 none (some ⟨BK,0,none⟩) (.one (.int .i64))
 fun(x_2:Int)=>Post (x,x_2,Unit.unit) w1) (match h:id.beq 0 with|true=>isTrue (Nat.eq_of_beq_eq_true h)|false=>isFalse (Nat.ne_of_beq_eq_false h))) fun w5=>qh [r] w5 fun w1=>ag w1 none (some ⟨sN,0,none⟩) (.one (.int .i64)) fun(x:Int)=>ag w1 none (some ⟨BK,0,none⟩) (.one (.int .i64)) fun(x_2:Int)=>Post (x,x_2,Unit.unit) w1)):=by kernel_rfl
end Go.Proofs.YtdnoecpjcoibmaaGreat.D
