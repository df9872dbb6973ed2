/- A part of the proof of ChooseWholeUpto: the law returns true for every input of its bounded bulk, and its arguments read as before. No condition beyond that bound. -/
import Derived.Laws.BitsAllLaws
import Derived.Test.YtjnpkbemmgkpiaaGreatChooseWholeUptoF
set_option linter.unusedSimpArgs false
set_option linter.unusedVariables false
set_option linter.unusedSectionVars false
set_option maxRecDepth 100000
noncomputable section
namespace Go.Rx
open Go.Proofs
def qtz:List UInt8:=[0,1,2,2,3,3,3,3,4,4,4,4,4,4,4,4,5,5,5,5,5,5,5,5,5,5,5,5,5,5,5,5,6,6,6,6,6,6,6,6,6,6,6,6,6,6,6,6,6,6,6,6,6,6,6,6,6,6,6,6,6,6,6,6,7,7,7,7,7,7,7,7,7,7,7,7,7,7,7,7,7,7,7,7,7,7,7,7,7,7,7,7,7,7,7,7,7,7,7,7,7,7,7,7,7,7,7,7,7,7,7,7,7,7,7,7,7,7,7,7,7,7,7,7,7,7,7,7,8,8,8,8,8,8,8,8,8,8,8,8,8,8,8,8,8,8,8,8,8,8,8,8,8,8,8,8,8,8,8,8,8,8,8,8,8,8,8,8,8,8,8,8,8,8,8,8,8,8,8,8,8,8,8,8,8,8,8,8,8,8,8,8,8,8,8,8,8,8,8,8,8,8,8,8,8,8,8,8,8,8,8,8,8,8,8,8,8,8,8,8,8,8,8,8,8,8,8,8,8,8,8,8,8,8,8,8,8,8,8,8,8,8,8,8,8,8,8,8,8,8,8,8,8,8,8,8]
noncomputable def qzU:Code:=Tryz.f35.body.getD .skip
theorem qVa:FnF Tryz.prog 35 Tryz.f35 qzU:=⟨qg,by kernel_rfl,by kernel_rfl,by kernel_rfl⟩
def qb9:TH:={ live:=[(0,[1]),(1,[1,7]),(2,[2]),(3,[1,3]),(4,[1,3,12]),(5,[1,3]),(6,[1,3,23]),(7,[2]),(8,[2])] }
def qhZ (N:Nat):List Ent:=[]
theorem qfs (N:Nat):qQ Tryz.prog (qhZ N):=trivial
abbrev V7:=qa
abbrev QK:=Unit⊕(Int×Bool)
def Z4 (f:V7):QK→Ex×TSt
 | .inl y=>(.ret,⟨0,24,[],[(2,.bc false)],[],false,[]⟩)
 | .inr y=>(.exit 0,⟨0,24,[],[(1,.p 10 [] 0),(3,xi y.1),(12,xb y.2)],[(10,.cell false (.tv qf f))],false,[]⟩)
def qoV (N:Nat):List (Nat×qz):=[]
abbrev ZT:=Int
def qe8:SP:=⟨0,24,[],[(1,.k (.p 10 [] 0)),(3,.x (.i .i64))],[(10,.cell false (.x qf))],false,[]⟩
def qo4 (f:V7) (v:ZT):TSt:=zH qe8 [dv qf f,dv (.i .i64) v]
def V2 (N:Nat) (o_4:qa) (v:ZT):Tree (ZT⊕QK):=
 .cond (decide (v < (((qa.F o_4).length:Nat):Int))) (
 .bind (zl (qa.F o_4) v) fun e1=>
 .cond (decide (((300:Int)) < (((qe.V (qc.C e1)).length:Nat):Int))) (
 .ret (.inr (.inl ()))) <|
 .chk (qw (v + 1)) <|
 .ret (.inl (v + 1))) <|
 .ret (.inr (.inr ((v,decide (v < (((qa.F o_4).length:Nat):Int))))))
def qfd (N n:Nat) (f:V7) (v:ZT):Option QK:=qV (V2 N f) some n v
theorem qo0 (N:Nat) (f:V7) (n:Nat) (v:ZT) (y:QK) (h:qfd N n f v=some y):LG Tryz.prog qb9 35 (qN qzU 4) (qo4 f v) (Z4 f y):=
 zr qg (E:=qhZ N) (L:=qK (qoV N)) (st:=Z4 f) (g:=some) (R:=Z4 f) (qfs N) (qn (by kernel_rfl) trivial) (rg0 (by kernel_rfl)) (fun v=>by kernel_rfl) (qZ (st:=Z4 f) fun y=>by rcases y with _ | _<;>rfl) (js0 rfl) n v y h
def qa5 (N:Nat) (o_4:qa) (s3_4:Int):Option QK:=qfd N N o_4 s3_4
def qe2 (N:Nat):qz:=smL qe8 [qf,(.i .i64)] QK (fun x=>qa5 N x.1 x.2.1) (csS cs1) fun x=>Z4 x.1
theorem qnA (N:Nat):jl Tryz.prog qb9 35 (qN qzU 4) (qe2 N):=zA fun x z h=>qo0 N x.1 N x.2.1 z h
def qtD (z:Bool):TV×THp:=(xb z,[])
def qbF (N:Nat) (a0:qa):Tree (Bool):=
 .cond (decide (((12:Int)) < (((qa.F a0).length:Nat):Int))) (
 .ret false) <|
 .bind (qa5 N a0 0) fun z1=>
 .sum z1 (fun z2=>
 .ret false) fun z2=>
 .ret true
def ZM (N:Nat) (a0:qa):Option (Bool):=(qbF N a0).run some
def qva (N:Nat):List (Nat×qz):=[(4,qe2 N)]
def qh1 (N:Nat):Ent:=smF ⟨35,[],[.x qf],[],[]⟩ [qf] (Bool) (fun x=>ZM N x.1) cs1 fun _=>qtD
theorem qsO (N:Nat):ze Tryz.prog (qh1 N):=
 zc (H:=qb9) (L:=qK (qva N)) (ts:=[qf]) (T:=fun x=>qbF N x.1) 0 qVa (qfs N) (qn (by kernel_rfl) ⟨qnA N,trivial⟩) (rg0 (by kernel_rfl)) fun x=>by kernel_rfl
noncomputable def qzh:Code:=Tryz.f11.body.getD .skip
theorem qTV:FnF Tryz.prog 11 Tryz.f11 qzh:=⟨qg,by kernel_rfl,by kernel_rfl,by kernel_rfl⟩
def qb1:TH:={ live:=[(0,[1]),(1,[1,8]),(2,[2]),(3,[1,3]),(4,[1,3,13]),(5,[1,3]),(6,[1,3,4]),(7,[1,3,23]),(8,[2]),(9,[2])] }
def qh2 (N:Nat):List Ent:=[qh1 N]
theorem qfX (N:Nat):qQ Tryz.prog (qh2 N):=⟨qsO N,trivial⟩
abbrev VH:=qb
abbrev QI:=Unit⊕(Int×Bool)
def ZY (f:VH):QI→Ex×TSt
 | .inl y=>(.ret,⟨0,24,[],[(2,.bc false)],[],false,[]⟩)
 | .inr y=>(.exit 0,⟨0,24,[],[(1,.p 10 [] 0),(3,xi y.1),(13,xb y.2)],[(10,.cell false (.tv qi f))],false,[]⟩)
def qpx (N:Nat):List (Nat×qz):=[]
abbrev Z2:=Int
def qeT:SP:=⟨0,24,[],[(1,.k (.p 10 [] 0)),(3,.x (.i .i64))],[(10,.cell false (.x qi))],false,[]⟩
def qpH (f:VH) (v:Z2):TSt:=zH qeT [dv qi f,dv (.i .i64) v]
def VJ (N:Nat) (o_4:qb) (v:Z2):Tree (Z2⊕QI):=
 .cond (decide (v < (((qb.R o_4).length:Nat):Int))) (
 .bind (zl (qb.R o_4) v) fun e1=>
 .bind (ZM N e1) fun r2=>
 .cond (!r2) (
 .ret (.inr (.inl ()))) <|
 .chk (qw (v + 1)) <|
 .ret (.inl (v + 1))) <|
 .ret (.inr (.inr ((v,decide (v < (((qb.R o_4).length:Nat):Int))))))
def qe_ (N n:Nat) (f:VH) (v:Z2):Option QI:=qV (VJ N f) some n v
theorem qpf (N:Nat) (f:VH) (n:Nat) (v:Z2) (y:QI) (h:qe_ N n f v=some y):LG Tryz.prog qb1 11 (qN qzh 4) (qpH f v) (ZY f y):=
 zr qg (E:=qh2 N) (L:=qK (qpx N)) (st:=ZY f) (g:=some) (R:=ZY f) (qfX N) (qn (by kernel_rfl) trivial) (rg0 (by kernel_rfl)) (fun v=>by kernel_rfl) (qZ (st:=ZY f) fun y=>by rcases y with _ | _<;>rfl) (js0 rfl) n v y h
def qbd (N:Nat) (o_4:qb) (s3_4:Int):Option QI:=qe_ N N o_4 s3_4
def qe0 (N:Nat):qz:=smL qeT [qi,(.i .i64)] QI (fun x=>qbd N x.1 x.2.1) (csS cs1) fun x=>ZY x.1
theorem qno (N:Nat):jl Tryz.prog qb1 11 (qN qzh 4) (qe0 N):=zA fun x z h=>qpf N x.1 N x.2.1 z h
def quC (z:Bool):TV×THp:=(xb z,[])
def qbV (N:Nat) (a0:qb):Tree (Bool):=
 .cond (decide (((14:Int)) < (((qb.R a0).length:Nat):Int))) (
 .ret false) <|
 .bind (qbd N a0 0) fun z1=>
 .sum z1 (fun z2=>
 .ret false) fun z2=>
 .ret true
def Wc (N:Nat) (a0:qb):Option (Bool):=(qbV N a0).run some
def qvT (N:Nat):List (Nat×qz):=[(4,qe0 N)]
def qh3 (N:Nat):Ent:=smF ⟨11,[],[.x qi],[],[]⟩ [qi] (Bool) (fun x=>Wc N x.1) cs1 fun _=>quC
theorem qs4 (N:Nat):ze Tryz.prog (qh3 N):=
 zc (H:=qb1) (L:=qK (qvT N)) (ts:=[qi]) (T:=fun x=>qbV N x.1) 0 qTV (qfX N) (qn (by kernel_rfl) ⟨qno N,trivial⟩) (rg0 (by kernel_rfl)) fun x=>by kernel_rfl
noncomputable def qTu:Code:=Tryz.f55.body.getD .skip
theorem qTL:FnF Tryz.prog 55 Tryz.f55 qTu:=⟨qg,by kernel_rfl,by kernel_rfl,by kernel_rfl⟩
def qLN:TH:={ live:=[(0,[1]),(1,[2])],dec:=[6,10,15,20] }
def qKq (N:Nat):List Ent:=[]
theorem qGj (N:Nat):qQ Tryz.prog (qKq N):=trivial
def qKY (z:Bool):TV×THp:=(xb z,[])
def qoI (a0:qd):Tree (Bool):=
 .cond (eqE qk a0 (qd.mk 0 0)) (
 .ret true) <|
 .cond (decide (((0:Int)) < (qd.N a0))) (
 .cond (decide ((qd.N a0)≤((1099511627776:Int)))) (
 .cond (decide (((0:Int))≤(qd.Rep a0))) (
 .ret (decide ((qd.Rep a0) < ((8:Int))))) <|
 .ret false) <|
 .ret false) <|
 .ret false
def VF (a0:qd):Option (Bool):=(qoI a0).run some
def qLP:List (Nat×qz):=[]
def Vw:Ent:=smF ⟨55,[],[.x qk],[],[]⟩ [qk] (Bool) (fun x=>VF x.1) cs1 fun _=>qKY
theorem VE:ze Tryz.prog (Vw):=
 zc (H:=qLN) (L:=qK (qLP)) (ts:=[qk]) (T:=fun x=>qoI x.1) 0 qTL (qGj 0) (qn (by kernel_rfl) trivial) (rg0 (by kernel_rfl)) fun x=>by kernel_rfl
noncomputable def qRy:Code:=Tryz.f148.body.getD .skip
theorem qQD:FnF Tryz.prog 148 Tryz.f148 qRy:=⟨qg,by kernel_rfl,by kernel_rfl,by kernel_rfl⟩
def qOC:TH:={ live:=[(0,[1]),(1,[2])],dec:=[7,12] }
def qOe (N:Nat):List Ent:=[Vw]
theorem qIK (N:Nat):qQ Tryz.prog (qOe N):=⟨VE,trivial⟩
def qOs (z:Bool):TV×THp:=(xb z,[])
def qrk (a0:qe):Tree (Bool):=
 .cond (!(eqE qk (qe.S a0) (qd.mk 0 0))) (
 .bind (VF (qe.S a0)) fun r1=>
 .cond r1 (
 .ret (decide ((((qe.V a0).length:Nat):Int)≤((200:Int))))) <|
 .ret false) <|
 .ret false
def qce (a0:qe):Option (Bool):=(qrk a0).run some
def qOS:List (Nat×qz):=[]
def qrU:Ent:=smF ⟨148,[],[.x qx],[],[]⟩ [qx] (Bool) (fun x=>qce x.1) cs1 fun _=>qOs
theorem qxN:ze Tryz.prog (qrU):=
 zc (H:=qOC) (L:=qK (qOS)) (ts:=[qx]) (T:=fun x=>qrk x.1) 0 qQD (qIK 0) (qn (by kernel_rfl) trivial) (rg0 (by kernel_rfl)) fun x=>by kernel_rfl
noncomputable def qSu:Code:=Tryz.f217.body.getD .skip
theorem qRp:FnF Tryz.prog 217 Tryz.f217 qSu:=⟨qg,by kernel_rfl,by kernel_rfl,by kernel_rfl⟩
def qBq:TH:={ live:=[(0,[0]),(1,[2])] }
def qCC (N:Nat):List Ent:=[]
theorem qxt (N:Nat):qQ Tryz.prog (qCC N):=trivial
def qAp (a0:Int) (z:Unit):TV×THp:=(xb (!decide (a0=a0)),[])
def qfS (a0:Int):Tree (Unit):=
 .ret ()
def qeo (a0:Int):Option (Unit):=(qfS a0).run some
def qBW:List (Nat×qz):=[]
def qng:Ent:=smF ⟨217,[],[.x (.i .i64)],[],[]⟩ [(.i .i64)] (Unit) (fun x=>qeo x.1) cs1 fun x=>qAp x.1
theorem qzR:ze Tryz.prog (qng):=
 zc (H:=qBq) (L:=qK (qBW)) (ts:=[(.i .i64)]) (T:=fun x=>qfS x.1) 0 qRp (qxt 0) (qn (by kernel_rfl) trivial) (rg0 (by kernel_rfl)) fun x=>by kernel_rfl
noncomputable def qSP:Code:=Tryz.f196.body.getD .skip
theorem qQg:FnF Tryz.prog 196 Tryz.f196 qSP:=⟨qg,by kernel_rfl,by kernel_rfl,by kernel_rfl⟩
def qwV:TH:={ live:=[(0,[0,1]),(1,[0,1,5]),(2,[0,1,5,6]),(3,[0,1,6,11]),(4,[12]),(5,[4]),(6,[4]),(7,[0,1,13]),(8,[4]),(9,[0,1,16]),(10,[4]),(11,[19]),(12,[4]),(13,[4])] }
def qxx (N:Nat):List Ent:=[qng]
theorem qsN (N:Nat):qQ Tryz.prog (qxx N):=⟨qzR,trivial⟩
def qxl (z:Int):TV×THp:=(xi z,[])
def qdB (a0:Int) (a1:Int):Tree (Int):=
 .bind (qeo a0) fun r1=>
 .bind (qeo a1) fun r2=>
 .cond (!decide (a0=a0)) (
 .cond (!decide (a1=a1)) (
 .ret 0) <|
 .ret (-1)) <|
 .cond (!decide (a1=a1)) (
 .ret 1) <|
 .cond (decide (a0 < a1)) (
 .ret (-1)) <|
 .cond (decide (a1 < a0)) (
 .ret 1) <|
 .ret 0
def WR (a0:Int) (a1:Int):Option (Int):=(qdB a0 a1).run some
def qwU:List (Nat×qz):=[]
def qjs:Ent:=smF ⟨196,[],[.x (.i .i64),.x (.i .i64)],[],[]⟩ [(.i .i64),(.i .i64)] (Int) (fun x=>WR x.1 x.2.1) cs1 fun _=>qxl
theorem quq:ze Tryz.prog (qjs):=
 zc (H:=qwV) (L:=qK (qwU)) (ts:=[(.i .i64),(.i .i64)]) (T:=fun x=>qdB x.1 x.2.1) 0 qQg (qsN 0) (qn (by kernel_rfl) trivial) (rg0 (by kernel_rfl)) fun x=>by kernel_rfl
noncomputable def quj:Code:=Tryz.f195.body.getD .skip
theorem qQG:FnF Tryz.prog 195 Tryz.f195 quj:=⟨qg,by kernel_rfl,by kernel_rfl,by kernel_rfl⟩
def qkP:TH:={ live:=[(0,[0]),(1,[0,3]),(2,[3,6,7,8]),(3,[3,6,7,8,9]),(4,[3,5,6,7,8]),(5,[3,5,6,7,8,14]),(6,[2]),(7,[3,6,7,8]),(8,[2])] }
def qtW (N:Nat):List Ent:=[]
theorem qo_ (N:Nat):qQ Tryz.prog (qtW N):=trivial
abbrev qbx:=List Int×Int
abbrev VS:=Int⊕(Int×Bool)
def W3 (f:qbx):VS→Ex×TSt
 | .inl y=>(.ret,⟨0,18,[],[(2,xi y)],[],false,[]⟩)
 | .inr y=>(.exit 0,⟨0,18,[],[(3,.ic .i64 0),(6,.tv (.sl 1 (.i .i64)) f.1),(7,xi f.2),(8,xi y.1),(9,xb y.2)],[],false,[]⟩)
def qCh (N:Nat):List (Nat×qz):=[]
abbrev Yj:=Int
def qna:SP:=⟨0,18,[],[(3,.k (.ic .i64 0)),(6,.x (.sl 1 (.i .i64))),(7,.x (.i .i64)),(8,.x (.i .i64))],[],false,[]⟩
def qBG (f:qbx) (v:Yj):TSt:=zH qna [dv (.sl 1 (.i .i64)) f.1,dv (.i .i64) f.2,dv (.i .i64) v]
def Js (N:Nat) (s6_3:List Int) (s7_3:Int) (v:Yj):Tree (Yj⊕VS):=
 .cond (decide (v < s7_3)) (
 .bind (zl s6_3 v) fun e1=>
 .cond (!decide (e1=((0:Int)))) (
 .ret (.inr (.inl e1))) <|
 .chk (qw (v + 1)) <|
 .ret (.inl (v + 1))) <|
 .ret (.inr (.inr ((v,decide (v < s7_3)))))
def qmO (N n:Nat) (f:qbx) (v:Yj):Option VS:=qV (Js N f.1 f.2) some n v
theorem qA4 (N:Nat) (f:qbx) (n:Nat) (v:Yj) (y:VS) (h:qmO N n f v=some y):LG Tryz.prog qkP 195 (qN quj 3) (qBG f v) (W3 f y):=
 zr qg (E:=qtW N) (L:=qK (qCh N)) (st:=W3 f) (g:=some) (R:=W3 f) (qo_ N) (qn (by kernel_rfl) trivial) (rg0 (by kernel_rfl)) (fun v=>by kernel_rfl) (qZ (st:=W3 f) fun y=>by rcases y with _ | _<;>rfl) (js0 rfl) n v y h
def qi5 (N:Nat) (s6_3:List Int) (s7_3:Int) (s8_3:Int):Option VS:=qmO N N (s6_3,s7_3) s8_3
def qm6 (N:Nat):qz:=smL qna [(.sl 1 (.i .i64)),(.i .i64),(.i .i64)] VS (fun x=>qi5 N x.1 x.2.1 x.2.2.1) (csS cs1) fun x=>W3 (x.1,x.2.1)
theorem qzf (N:Nat):jl Tryz.prog qkP 195 (qN quj 3) (qm6 N):=zA fun x z h=>qA4 N (x.1,x.2.1) N x.2.2.1 z h
def qJV (z:Int):TV×THp:=(xi z,[])
def qk3 (N:Nat) (a0:List Int):Tree (Int):=
 .bind (qi5 N a0 ((a0.length:Nat):Int) 0) fun z1=>
 .sum z1 (fun z2=>
 .ret z2) fun z2=>
 .ret 0
def qft (N:Nat) (a0:List Int):Option (Int):=(qk3 N a0).run some
def qJK (N:Nat):List (Nat×qz):=[(3,qm6 N)]
def qtZ (N:Nat):Ent:=smF ⟨195,[],[.x (.sl 1 (.i .i64))],[],[]⟩ [(.sl 1 (.i .i64))] (Int) (fun x=>qft N x.1) cs1 fun _=>qJV
theorem qF5 (N:Nat):ze Tryz.prog (qtZ N):=
 zc (H:=qkP) (L:=qK (qJK N)) (ts:=[(.sl 1 (.i .i64))]) (T:=fun x=>qk3 N x.1) 0 qQG (qo_ N) (qn (by kernel_rfl) ⟨qzf N,trivial⟩) (rg0 (by kernel_rfl)) fun x=>by kernel_rfl
noncomputable def qQ3:Code:=Tryz.f149.body.getD .skip
theorem qPH:FnF Tryz.prog 149 Tryz.f149 qQ3:=⟨qg,by kernel_rfl,by kernel_rfl,by kernel_rfl⟩
def qIN:TH:={ live:=[(0,[2,3]),(1,[4])],dec:=[8] }
def qJ2 (N:Nat):List Ent:=[qjs,qtZ N]
theorem qDg (N:Nat):qQ Tryz.prog (qJ2 N):=⟨quq,qF5 N,trivial⟩
def qIV (z:Bool):TV×THp:=(xb z,[])
def qkZ (N:Nat) (a0:qd) (a1:qd):Tree (Bool):=
 .cond (!(eqE qk a0 a1)) (
 .bind (WR (qd.N a0) (qd.N a1)) fun r1=>
 .bind (WR (qd.Rep a0) (qd.Rep a1)) fun r2=>
 .bind (qft N [r1,r2]) fun r3=>
 .ret (decide (r3 < ((0:Int))))) <|
 .ret false
def vF (N:Nat) (a0:qd) (a1:qd):Option (Bool):=(qkZ N a0 a1).run some
def qH1 (N:Nat):List (Nat×qz):=[]
def VD (N:Nat):Ent:=smF ⟨149,[],[.x qk,.x qk],[],[]⟩ [qk,qk] (Bool) (fun x=>vF N x.1 x.2.1) cs1 fun _=>qIV
theorem Xi (N:Nat):ze Tryz.prog (VD N):=
 zc (H:=qIN) (L:=qK (qH1 N)) (ts:=[qk,qk]) (T:=fun x=>qkZ N x.1 x.2.1) 0 qPH (qDg N) (qn (by kernel_rfl) trivial) (rg0 (by kernel_rfl)) fun x=>by kernel_rfl
noncomputable def qzu:Code:=Tryz.f92.body.getD .skip
theorem qUP:FnF Tryz.prog 92 Tryz.f92 qzu:=⟨qg,by kernel_rfl,by kernel_rfl,by kernel_rfl⟩
def qvX:TH:={ live:=[(0,[1]),(1,[1,21]),(2,[2]),(3,[1,23,24,25]),(4,[1,23,24,25,26]),(5,[1,3,4,23,24,25]),(6,[1,4,5,23,24,25]),(7,[1,23,24,25,74]),(8,[2]),(9,[1,23,24,25]),(10,[2])],dec:=[10,15,32,37,40,55,60,66] }
def qFg (N:Nat):List Ent:=[Vw,qrU,VD N]
theorem qxP (N:Nat):qQ Tryz.prog (qFg N):=⟨VE,qxN,Xi N,trivial⟩
abbrev qfn:=qa×List qc×Int
abbrev Ke:=Unit⊕(Int×Bool)
def qbW (f:qfn):Ke→Ex×TSt
 | .inl y=>(.ret,⟨0,76,[],[(2,.bc false)],[],false,[]⟩)
 | .inr y=>(.exit 0,⟨0,76,[],[(1,.p 10 [] 0),(23,.tv (.sl 4 qo) f.2.1),(24,xi f.2.2),(25,xi y.1),(26,xb y.2)],[(10,.cell false (.tv qf f.1))],false,[]⟩)
def qJO (N:Nat):List (Nat×qz):=[]
abbrev qct:=Int
def qtJ:SP:=⟨0,76,[],[(1,.k (.p 10 [] 0)),(23,.x (.sl 4 qo)),(24,.x (.i .i64)),(25,.x (.i .i64))],[(10,.cell false (.x qf))],false,[]⟩
def qJe (f:qfn) (v:qct):TSt:=zH qtJ [dv qf f.1,dv (.sl 4 qo) f.2.1,dv (.i .i64) f.2.2,dv (.i .i64) v]
def qgn (N:Nat) (o_4:qa) (s23_4:List qc) (s24_4:Int) (v:qct):Tree (qct⊕Ke):=
 .cond (decide (v < s24_4)) (
 .bind (zl s23_4 v) fun e1=>
 .cond (decide (v=((0:Int)))) (
 .cond (decide (((0:Int))≤(qc.No e1))) (
 .cond (decide (((8:Int))≤(qc.No e1))) (
 .ret (.inr (.inl ()))) <|
 .bind (qce (qc.C e1)) fun r2=>
 .cond (!r2) (
 .ret (.inr (.inl ()))) <|
 .bind (vF N (qa.qB o_4) (qe.S (qc.C e1))) fun r3=>
 .cond (!r3) (
 .ret (.inr (.inl ()))) <|
 .chk (qw (v + 1)) <|
 .ret (.inl (v + 1))) <|
 .cond (decide (((0:Int)) < v)) (
 .chk (qw (v - 1)) <|
 .bind (zl (qa.F o_4) (v - 1)) fun e2=>
 .cond (!(decide ((qc.No e2) < (qc.No e1)))) (
 .ret (.inr (.inl ()))) <|
 .cond (decide (((8:Int))≤(qc.No e1))) (
 .ret (.inr (.inl ()))) <|
 .bind (qce (qc.C e1)) fun r3=>
 .cond (!r3) (
 .ret (.inr (.inl ()))) <|
 .bind (vF N (qa.qB o_4) (qe.S (qc.C e1))) fun r4=>
 .cond (!r4) (
 .ret (.inr (.inl ()))) <|
 .chk (qw (v + 1)) <|
 .ret (.inl (v + 1))) <|
 .ret (.inr (.inl ()))) <|
 .cond (decide (((0:Int)) < v)) (
 .chk (qw (v - 1)) <|
 .bind (zl (qa.F o_4) (v - 1)) fun e2=>
 .cond (!(decide ((qc.No e2) < (qc.No e1)))) (
 .ret (.inr (.inl ()))) <|
 .cond (decide (((8:Int))≤(qc.No e1))) (
 .ret (.inr (.inl ()))) <|
 .bind (qce (qc.C e1)) fun r3=>
 .cond (!r3) (
 .ret (.inr (.inl ()))) <|
 .bind (vF N (qa.qB o_4) (qe.S (qc.C e1))) fun r4=>
 .cond (!r4) (
 .ret (.inr (.inl ()))) <|
 .chk (qw (v + 1)) <|
 .ret (.inl (v + 1))) <|
 .ret (.inr (.inl ()))) <|
 .ret (.inr (.inr ((v,decide (v < s24_4)))))
def qvS (N n:Nat) (f:qfn) (v:qct):Option Ke:=qV (qgn N f.1 f.2.1 f.2.2) some n v
theorem qHu (N:Nat) (f:qfn) (n:Nat) (v:qct) (y:Ke) (h:qvS N n f v=some y):LG Tryz.prog qvX 92 (qN qzu 4) (qJe f v) (qbW f y):=
 zr qg (E:=qFg N) (L:=qK (qJO N)) (st:=qbW f) (g:=some) (R:=qbW f) (qxP N) (qn (by kernel_rfl) trivial) (rg0 (by kernel_rfl)) (fun v=>by kernel_rfl) (qZ (st:=qbW f) fun y=>by rcases y with _ | _<;>rfl) (js0 rfl) n v y h
def qjK (N:Nat) (o_4:qa) (s23_4:List qc) (s24_4:Int) (s25_4:Int):Option Ke:=qvS N N (o_4,s23_4,s24_4) s25_4
def qua (N:Nat):qz:=smL qtJ [qf,(.sl 4 qo),(.i .i64),(.i .i64)] Ke (fun x=>qjK N x.1 x.2.1 x.2.2.1 x.2.2.2.1) (csS cs1) fun x=>qbW (x.1,x.2.1,x.2.2.1)
theorem qF7 (N:Nat):jl Tryz.prog qvX 92 (qN qzu 4) (qua N):=zA fun x z h=>qHu N (x.1,x.2.1,x.2.2.1) N x.2.2.2.1 z h
def qRQ (z:Bool):TV×THp:=(xb z,[])
def qvn (N:Nat) (a0:qa):Tree (Bool):=
 .bind (VF (qa.qB a0)) fun r1=>
 .cond (!r1) (
 .ret false) <|
 .cond (decide ((((qa.F a0).length:Nat):Int)=((0:Int)))) (
 .cond (eqE qk (qa.qB a0) (qd.mk 0 0)) (
 .ret false) <|
 .bind (qjK N a0 (qa.F a0) (((qa.F a0).length:Nat):Int) 0) fun z2=>
 .sum z2 (fun z3=>
 .ret false) fun z3=>
 .ret true) <|
 .bind (qjK N a0 (qa.F a0) (((qa.F a0).length:Nat):Int) 0) fun z2=>
 .sum z2 (fun z3=>
 .ret false) fun z3=>
 .ret true
def qgX (N:Nat) (a0:qa):Option (Bool):=(qvn N a0).run some
def qTl (N:Nat):List (Nat×qz):=[(4,qua N)]
def qmN (N:Nat):Ent:=smF ⟨92,[],[.x qf],[],[]⟩ [qf] (Bool) (fun x=>qgX N x.1) cs1 fun _=>qRQ
theorem qrh (N:Nat):ze Tryz.prog (qmN N):=
 zc (H:=qvX) (L:=qK (qTl N)) (ts:=[qf]) (T:=fun x=>qvn N x.1) 0 qUP (qxP N) (qn (by kernel_rfl) ⟨qF7 N,trivial⟩) (rg0 (by kernel_rfl)) fun x=>by kernel_rfl
noncomputable def qSh:Code:=Tryz.f113.body.getD .skip
theorem qQz:FnF Tryz.prog 113 Tryz.f113 qSh:=⟨qg,by kernel_rfl,by kernel_rfl,by kernel_rfl⟩
def qAU:TH:={ live:=[(0,[0,1]),(1,[4])] }
def qAh (N:Nat):List Ent:=[qBM]
theorem qxc (N:Nat):qQ Tryz.prog (qAh N):=⟨qM2,trivial⟩
def qBe (z:Int):TV×THp:=(xi z,[])
def qgt (a0:List UInt8) (a1:List UInt8):Tree (Int):=
 .bind (qT_ a0 a1) fun r1=>
 .ret r1
def qao (a0:List UInt8) (a1:List UInt8):Option (Int):=(qgt a0 a1).run some
def qBO:List (Nat×qz):=[]
def qbn:Ent:=smF ⟨113,[],[.x .bl,.x .bl],[],[]⟩ [.bl,.bl] (Int) (fun x=>qao x.1 x.2.1) cs1 fun _=>qBe
theorem qeM:ze Tryz.prog (qbn):=
 zc (H:=qAU) (L:=qK (qBO)) (ts:=[.bl,.bl]) (T:=fun x=>qgt x.1 x.2.1) 0 qQz (qxc 0) (qn (by kernel_rfl) trivial) (rg0 (by kernel_rfl)) fun x=>by kernel_rfl
noncomputable def qTX:Code:=Tryz.f93.body.getD .skip
theorem qTr:FnF Tryz.prog 93 Tryz.f93 qTX:=⟨qg,by kernel_rfl,by kernel_rfl,by kernel_rfl⟩
def qKP:TH:={ live:=[(0,[2,3]),(1,[4])],dec:=[8] }
def qLV (N:Nat):List Ent:=[qbn]
theorem qFp (N:Nat):qQ Tryz.prog (qLV N):=⟨qeM,trivial⟩
def qKH (z:Bool):TV×THp:=(xb z,[])
def qoK (a0:Vector UInt8 16) (a1:Vector UInt8 16):Tree (Bool):=
 .cond (!(eqE (.ba 16) a0 a1)) (
 .bind (qao a0.toList a1.toList) fun r1=>
 .ret (decide (r1 < ((0:Int))))) <|
 .ret false
def qig (a0:Vector UInt8 16) (a1:Vector UInt8 16):Option (Bool):=(qoK a0 a1).run some
def qKt:List (Nat×qz):=[]
def qod:Ent:=smF ⟨93,[],[.x (.ba 16),.x (.ba 16)],[],[]⟩ [(.ba 16),(.ba 16)] (Bool) (fun x=>qig x.1 x.2.1) cs1 fun _=>qKH
theorem qtQ:ze Tryz.prog (qod):=
 zc (H:=qKP) (L:=qK (qKt)) (ts:=[(.ba 16),(.ba 16)]) (T:=fun x=>qoK x.1 x.2.1) 0 qTr (qFp 0) (qn (by kernel_rfl) trivial) (rg0 (by kernel_rfl)) fun x=>by kernel_rfl
noncomputable def qzO:Code:=Tryz.f50.body.getD .skip
theorem qVX:FnF Tryz.prog 50 Tryz.f50 qzO:=⟨qg,by kernel_rfl,by kernel_rfl,by kernel_rfl⟩
def qrM:TH:={ live:=[(0,[1]),(1,[1,6,7,8]),(2,[1,6,7,8,9]),(3,[1,3,4,6,7,8]),(4,[1,6,7,8,32]),(5,[2]),(6,[1,6,7,8]),(7,[2])],dec:=[16,19] }
def qAr (N:Nat):List Ent:=[qmN N,qod]
theorem qvQ (N:Nat):qQ Tryz.prog (qAr N):=⟨qrh N,qtQ,trivial⟩
abbrev qej:=qb×List qa×Int
abbrev WG:=Unit⊕(Int×Bool)
def qaw (f:qej):WG→Ex×TSt
 | .inl y=>(.ret,⟨0,38,[],[(2,.bc false)],[],false,[]⟩)
 | .inr y=>(.exit 0,⟨0,38,[],[(1,.p 10 [] 0),(6,.tv (.sl 19 qf) f.2.1),(7,xi f.2.2),(8,xi y.1),(9,xb y.2)],[(10,.cell false (.tv qi f.1))],false,[]⟩)
def qGv (N:Nat):List (Nat×qz):=[]
abbrev qax:=Int
def qr5:SP:=⟨0,38,[],[(1,.k (.p 10 [] 0)),(6,.x (.sl 19 qf)),(7,.x (.i .i64)),(8,.x (.i .i64))],[(10,.cell false (.x qi))],false,[]⟩
def qF3 (f:qej) (v:qax):TSt:=zH qr5 [dv qi f.1,dv (.sl 19 qf) f.2.1,dv (.i .i64) f.2.2,dv (.i .i64) v]
def qem (N:Nat) (o_2:qb) (s6_2:List qa) (s7_2:Int) (v:qax):Tree (qax⊕WG):=
 .cond (decide (v < s7_2)) (
 .bind (zl s6_2 v) fun e1=>
 .bind (qgX N e1) fun r2=>
 .cond (!r2) (
 .ret (.inr (.inl ()))) <|
 .cond (decide (((0:Int)) < v)) (
 .chk (qw (v - 1)) <|
 .bind (zl (qb.R o_2) (v - 1)) fun e3=>
 .bind (qig (qa.ID e3) (qa.ID e1)) fun r4=>
 .cond (!r4) (
 .ret (.inr (.inl ()))) <|
 .chk (qw (v + 1)) <|
 .ret (.inl (v + 1))) <|
 .chk (qw (v + 1)) <|
 .ret (.inl (v + 1))) <|
 .ret (.inr (.inr ((v,decide (v < s7_2)))))
def qr7 (N n:Nat) (f:qej) (v:qax):Option WG:=qV (qem N f.1 f.2.1 f.2.2) some n v
theorem qGh (N:Nat) (f:qej) (n:Nat) (v:qax) (y:WG) (h:qr7 N n f v=some y):LG Tryz.prog qrM 50 (qN qzO 2) (qF3 f v) (qaw f y):=
 zr qg (E:=qAr N) (L:=qK (qGv N)) (st:=qaw f) (g:=some) (R:=qaw f) (qvQ N) (qn (by kernel_rfl) trivial) (rg0 (by kernel_rfl)) (fun v=>by kernel_rfl) (qZ (st:=qaw f) fun y=>by rcases y with _ | _<;>rfl) (js0 rfl) n v y h
def qnH (N:Nat) (o_2:qb) (s6_2:List qa) (s7_2:Int) (s8_2:Int):Option WG:=qr7 N N (o_2,s6_2,s7_2) s8_2
def qsA (N:Nat):qz:=smL qr5 [qi,(.sl 19 qf),(.i .i64),(.i .i64)] WG (fun x=>qnH N x.1 x.2.1 x.2.2.1 x.2.2.2.1) (csS cs1) fun x=>qaw (x.1,x.2.1,x.2.2.1)
theorem qDa (N:Nat):jl Tryz.prog qrM 50 (qN qzO 2) (qsA N):=zA fun x z h=>qGh N (x.1,x.2.1,x.2.2.1) N x.2.2.2.1 z h
def qNo (z:Bool):TV×THp:=(xb z,[])
def qru (N:Nat) (a0:qb):Tree (Bool):=
 .bind (qnH N a0 (qb.R a0) (((qb.R a0).length:Nat):Int) 0) fun z1=>
 .sum z1 (fun z2=>
 .ret false) fun z2=>
 .ret (decide ((((qb.R a0).length:Nat):Int)≤((10:Int))))
def We (N:Nat) (a0:qb):Option (Bool):=(qru N a0).run some
def qNM (N:Nat):List (Nat×qz):=[(2,qsA N)]
def KQ (N:Nat):Ent:=smF ⟨50,[],[.x qi],[],[]⟩ [qi] (Bool) (fun x=>We N x.1) cs1 fun _=>qNo
theorem qa0 (N:Nat):ze Tryz.prog (KQ N):=
 zc (H:=qrM) (L:=qK (qNM N)) (ts:=[qi]) (T:=fun x=>qru N x.1) 0 qVX (qvQ N) (qn (by kernel_rfl) ⟨qDa N,trivial⟩) (rg0 (by kernel_rfl)) fun x=>by kernel_rfl
noncomputable def qtb:Code:=Tryz.f197.body.getD .skip
theorem qP7:FnF Tryz.prog 197 Tryz.f197 qtb:=⟨qg,by kernel_rfl,by kernel_rfl,by kernel_rfl⟩
def qiW:TH:={ live:=[(0,[0]),(1,[0,3]),(2,[0,3]),(3,[0,3,7]),(4,[0,3]),(5,[0,3]),(6,[2])] }
def qr8 (N:Nat):List Ent:=[]
theorem qmT (N:Nat):qQ Tryz.prog (qr8 N):=trivial
abbrev qab:=Unit
abbrev Va:=Int×Int×Bool
def X5 (f:qab) (y:Va):Ex×TSt:=(.exit 0,⟨0,13,[],[(0,.tv (.i .u64) (y.1:Int)),(3,xi y.2.1),(7,xb y.2.2)],[],false,[]⟩)
def qyN (N:Nat):List (Nat×qz):=[]
abbrev Wi:=Int×Int
def qlo:SP:=⟨0,13,[],[(0,.x (.i .u64)),(3,.x (.i .i64))],[],false,[]⟩
def qyL (f:qab) (v:Wi):TSt:=zH qlo [dv (.i .u64) v.1,dv (.i .i64) v.2]
def qam (N:Nat) (v:Wi):Tree (Wi⊕Va):=
 .cond (decide (((0:Int)) < v.1)) (
 .chk (qw (v.2 + 1)) <|
 .chk (0≤(7:Int)) <|
 .ret (.inl (Zz v.1 7,v.2 + 1))) <|
 .ret (.inr (v.1,v.2,decide (((0:Int)) < v.1)))
def qlS (N n:Nat) (f:qab) (v:Wi):Option Va:=qV (qam N) some n v
theorem qzg (N:Nat) (f:qab) (n:Nat) (v:Wi) (y:Va) (h:qlS N n f v=some y):LG Tryz.prog qiW 197 (qN qtb 3) (qyL f v) (X5 f y):=
 zr qg (E:=qr8 N) (L:=qK (qyN N)) (st:=X5 f) (g:=some) (R:=X5 f) (qmT N) (qn (by kernel_rfl) trivial) (rg0 (by kernel_rfl)) (fun v=>by kernel_rfl) (qZ (st:=X5 f) fun y=>by rfl) (js0 rfl) n v y h
def qgW (N:Nat) (s0_3:Int) (s3_3:Int):Option Va:=qlS N N () (s0_3,s3_3)
def qlr (N:Nat):qz:=smL qlo [(.i .u64),(.i .i64)] Va (fun x=>qgW N x.1 x.2.1) cs1 fun x=>X5 ()
theorem qw5 (N:Nat):jl Tryz.prog qiW 197 (qN qtb 3) (qlr N):=zA fun x z h=>qzg N () N (x.1,x.2.1) z h
def qF0 (z:Int):TV×THp:=(xi z,[])
def qiV (N:Nat) (a0:Int):Tree (Int):=
 .chk (0≤(7:Int)) <|
 .bind (qgW N (Zz a0 7) 1) fun z1=>
 .ret z1.2.1
def qhv (N:Nat) (a0:Int):Option (Int):=(qiV N a0).run some
def qFZ (N:Nat):List (Nat×qz):=[(3,qlr N)]
def qr9 (N:Nat):Ent:=smF ⟨197,[],[.x (.i .u64)],[],[]⟩ [(.i .u64)] (Int) (fun x=>qhv N x.1) cs1 fun _=>qF0
theorem qDI (N:Nat):ze Tryz.prog (qr9 N):=
 zc (H:=qiW) (L:=qK (qFZ N)) (ts:=[(.i .u64)]) (T:=fun x=>qiV N x.1) 0 qP7 (qmT N) (qn (by kernel_rfl) ⟨qw5 N,trivial⟩) (rg0 (by kernel_rfl)) fun x=>by kernel_rfl
noncomputable def qt2:Code:=Tryz.f150.body.getD .skip
theorem qR1:FnF Tryz.prog 150 Tryz.f150 qt2:=⟨qg,by kernel_rfl,by kernel_rfl,by kernel_rfl⟩
def qqE:TH:={ live:=[(0,[0]),(1,[0,3]),(2,[0,3,4]),(3,[0,3,4,10,11]),(4,[0,3,4,10,11,12]),(5,[0,3,4,5,10,11]),(6,[0,3,4,10,11]),(7,[0,3,4,10,11]),(8,[4]),(9,[2])],esc:=true }
def qAw (N:Nat):List Ent:=[qr9 N]
theorem quZ (N:Nat):qQ Tryz.prog (qAw N):=⟨qDI N,trivial⟩
abbrev qee:=Int×Int×Nat×Int
abbrev WI:=List UInt8×Int×Bool
def qay (f:qee) (y:WI):Ex×TSt:=(.exit 0,⟨1,35,[],[(0,.tv (.i .u64) f.1),(3,xi f.2.1),(4,.v 100090 f.2.2.1),(10,xi f.2.2.2),(11,xi y.2.1),(12,xb y.2.2)],[(100090,.vec false 1 .bl (y.1:List UInt8))],false,[]⟩)
def qFD (N:Nat):List (Nat×qz):=[]
abbrev qaC:=List UInt8×Int
def qse:SP:=⟨1,35,[],[(0,.x (.i .u64)),(3,.x (.i .i64)),(4,.v 100090),(10,.x (.i .i64)),(11,.x (.i .i64))],[(100090,.vec false 1)],false,[]⟩
def qFH (f:qee) (v:qaC):TSt:=zH qse [dv .bl v.1,dv (.i .u64) f.1,dv (.i .i64) f.2.1,dv .nat f.2.2.1,dv (.i .i64) f.2.2.2,dv (.i .i64) v.2]
def qeu (N:Nat) (s0_4:Int) (s3_4:Int) (s4_4:Nat) (s10_4:Int) (v:qaC):Tree (qaC⊕WI):=
 .cond (decide (v.2 < s10_4)) (
 .chk (qw (s3_4 - 1)) <|
 .chk (qw ((s3_4 - 1) - v.2)) <|
 .chk (qw (((7:Int)) * v.2)) <|
 .chk (0≤(((7:Int)) * v.2)) <|
 let w1:Int:=Zz s0_4 (min (((7:Int)) * v.2).toNat 64)
 .chk (0≤((s3_4 - 1) - v.2)∧((s3_4 - 1) - v.2) < ((s4_4:Nat):Int)) <|
 .chk (qei v.1.length s4_4 (((s3_4 - 1) - v.2).toNat)) <|
 .chk (inB (uOr .u8 (IntKind.u8.wrap w1) 128)) <|
 .chk (qw (v.2 + 1)) <|
 .ret (.inl (v.1.set (((s3_4 - 1) - v.2).toNat) (UInt8.ofNat (uOr .u8 (IntKind.u8.wrap w1) 128).toNat),v.2 + 1))) <|
 .ret (.inr (v.1,v.2,decide (v.2 < s10_4)))
def qst (N n:Nat) (f:qee) (v:qaC):Option WI:=qV (qeu N f.1 f.2.1 f.2.2.1 f.2.2.2) some n v
theorem qFA (N:Nat) (f:qee) (n:Nat) (v:qaC) (y:WI) (h:qst N n f v=some y):LG Tryz.prog qqE 150 (qN qt2 4) (qFH f v) (qay f y):=
 zr qg (E:=qAw N) (L:=qK (qFD N)) (st:=qay f) (g:=some) (R:=qay f) (quZ N) (qn (by kernel_rfl) trivial) (rg0 (by kernel_rfl)) (fun v=>by kernel_rfl) (qZ (st:=qay f) fun y=>by rfl) (js0 rfl) n v y h
def qhz (N:Nat) (s0_4:Int) (s3_4:Int) (s4_4:Nat) (s10_4:Int) (o_4:List UInt8) (s11_4:Int):Option WI:=qst N N (s0_4,s3_4,s4_4,s10_4) (o_4,s11_4)
def qsj (N:Nat):qz:=smL qse [.bl,(.i .u64),(.i .i64),.nat,(.i .i64),(.i .i64)] WI (fun x=>qhz N x.2.1 x.2.2.1 x.2.2.2.1 x.2.2.2.2.1 x.1 x.2.2.2.2.2.1) cs1 fun x=>qay (x.2.1,x.2.2.1,x.2.2.2.1,x.2.2.2.2.1)
theorem qCY (N:Nat):jl Tryz.prog qqE 150 (qN qt2 4) (qsj N):=zA fun x z h=>qFA N (x.2.1,x.2.2.1,x.2.2.2.1,x.2.2.2.2.1) N (x.1,x.2.2.2.2.2.1) z h
def qOP (z:List UInt8×Nat):TV×THp:=(.v 100090 z.2,[(100090,.vec false 1 .bl (z.1:List UInt8))])
def qp5 (N:Nat) (a0:Int):Tree (List UInt8×Nat):=
 .bind (qhv N a0) fun r1=>
 .chk (qI3 r1 r1 1) <|
 .bind (qhz N a0 r1 (((List.replicate r1.toNat 0:List UInt8)).length) r1 ((List.replicate r1.toNat 0:List UInt8)) 0) fun z2=>
 .chk (qw (r1 - 1)) <|
 .chk (0≤(r1 - 1)∧(r1 - 1) < ((((List.replicate r1.toNat 0:List UInt8)).length:Nat):Int)) <|
 .bind (ZN z2.1 (((List.replicate r1.toNat 0:List UInt8)).length) ((r1 - 1).toNat)) fun e3=>
 let w4:Int:=qv8 .u8 ((e3.toNat:Nat):Int) 128
 .chk (0≤(r1 - 1)∧(r1 - 1) < ((((List.replicate r1.toNat 0:List UInt8)).length:Nat):Int)) <|
 .chk (qei z2.1.length (((List.replicate r1.toNat 0:List UInt8)).length) ((r1 - 1).toNat)) <|
 .chk (inB w4) <|
 .ret (z2.1.set ((r1 - 1).toNat) (UInt8.ofNat w4.toNat),((List.replicate r1.toNat 0:List UInt8)).length)
def Ve (N:Nat) (a0:Int):Option (List UInt8×Nat):=(qp5 N a0).run some
def qNB (N:Nat):List (Nat×qz):=[(4,qsj N)]
def qga (N:Nat):Ent:=smF ⟨150,[],[.x (.i .u64)],[],[]⟩ [(.i .u64)] (List UInt8×Nat) (fun x=>Ve N x.1) cs1 fun _=>qOP
theorem qhJ (N:Nat):ze Tryz.prog (qga N):=
 zc (H:=qqE) (L:=qK (qNB N)) (ts:=[(.i .u64)]) (T:=fun x=>qp5 N x.1) 0 qR1 (quZ N) (qn (by kernel_rfl) ⟨qCY N,trivial⟩) (rg0 (by kernel_rfl)) fun x=>by kernel_rfl
noncomputable def qUd:Code:=Tryz.f98.body.getD .skip
theorem qKb:FnF Tryz.prog 98 Tryz.f98 qUd:=⟨qg,by kernel_rfl,by kernel_rfl,by kernel_rfl⟩
def qK_:TH:={ live:=[(0,[1]),(1,[1,6]),(2,[2,3]),(3,[2,3])],fresh:=[15] }
def qLv (N:Nat):List Ent:=[Vw,qga N]
theorem qGA (N:Nat):qQ Tryz.prog (qLv N):=⟨VE,qhJ N,trivial⟩
def qLJ (z:List UInt8×Bool):TV×THp:=(.tup [.tv .bl (z.1:List UInt8),xb z.2],[])
def qnC (N:Nat) (a0:qd):Tree (List UInt8×Bool):=
 .bind (VF a0) fun r1=>
 .cond (!r1) (
 .ret ([],false)) <|
 .chk (0≤(3:Int)) <|
 let w2:Int:=qfx .u64 (IntKind.u64.wrap (qd.N a0)) 3
 let w3:Int:=uOr .u64 w2 (IntKind.u64.wrap (qd.Rep a0))
 .bind (Ve N w3) fun r4=>
 .chk (r4.1.length=r4.2) <|
 .ret (r4.1,true)
def qnk (N:Nat) (a0:qd):Option (List UInt8×Bool):=(qnC N a0).run some
def qLD (N:Nat):List (Nat×qz):=[]
def qym (N:Nat):Ent:=smF ⟨98,[],[.x qk],[],[]⟩ [qk] (List UInt8×Bool) (fun x=>qnk N x.1) cs1 fun _=>qLJ
theorem qJm (N:Nat):ze Tryz.prog (qym N):=
 zc (H:=qK_) (L:=qK (qLD N)) (ts:=[qk]) (T:=fun x=>qnC N x.1) 0 qKb (qGA N) (qn (by kernel_rfl) trivial) (rg0 (by kernel_rfl)) fun x=>by kernel_rfl
def qGn:TH:={ live:=[(0,[1]),(1,[1,6]),(2,[2,3]),(3,[2,3])],fresh:=[15],esc:=true }
def qF1 (N:Nat):List Ent:=[Vw,qga N]
theorem qBb (N:Nat):qQ Tryz.prog (qF1 N):=⟨VE,qhJ N,trivial⟩
def qGc:Unit⊕(List UInt8×Nat)→TV×THp
 | .inl z=>(.tup [.nils,.bc false],[])
 | .inr z=>(.tup [.v 100090 z.2,.bc true],[(100090,.vec false 1 .bl (z.1:List UInt8))])
def qi1 (N:Nat) (a0:qd):Tree (Unit⊕(List UInt8×Nat)):=
 .bind (VF a0) fun r1=>
 .cond (!r1) (
 .ret (.inl ())) <|
 .chk (0≤(3:Int)) <|
 let w2:Int:=qfx .u64 (IntKind.u64.wrap (qd.N a0)) 3
 let w3:Int:=uOr .u64 w2 (IntKind.u64.wrap (qd.Rep a0))
 .bind (Ve N w3) fun r4=>
 .ret (.inr ((r4.1,r4.2)))
def qd6 (N:Nat) (a0:qd):Option (Unit⊕(List UInt8×Nat)):=(qi1 N a0).run some
def qFr (N:Nat):List (Nat×qz):=[]
def qsi (N:Nat):Ent:=smF ⟨98,[],[.x qk],[],[]⟩ [qk] (Unit⊕(List UInt8×Nat)) (fun x=>qd6 N x.1) (csS cs1) fun _=>qGc
theorem qEc (N:Nat):ze Tryz.prog (qsi N):=
 zc (H:=qGn) (L:=qK (qFr N)) (ts:=[qk]) (T:=fun x=>qi1 N x.1) 0 qKb (qBb N) (qn (by kernel_rfl) trivial) (rg0 (by kernel_rfl)) fun x=>by kernel_rfl
noncomputable def qPw:Code:=Tryz.f100.body.getD .skip
theorem qSs:FnF Tryz.prog 100 Tryz.f100 qPw:=⟨qg,by kernel_rfl,by kernel_rfl,by kernel_rfl⟩
def qL5:TH:={ live:=[(0,[0]),(1,[2])],fresh:=[6] }
def qKC (N:Nat):List Ent:=[qga N]
theorem qFP (N:Nat):qQ Tryz.prog (qKC N):=⟨qhJ N,trivial⟩
def qLz (z:List UInt8):TV×THp:=(.tv .bl z,[])
def qn9 (N:Nat) (a0:List UInt8):Tree (List UInt8):=
 let w1:Int:=IntKind.u64.wrap ((a0.length:Nat):Int)
 .bind (Ve N w1) fun r2=>
 .chk (jG r2.1.length r2.2 ((r2.1++a0).length) 1) <|
 .chk ((r2.1++a0).length=(r2.1++a0).length) <|
 .ret (r2.1++a0)
def qit (N:Nat) (a0:List UInt8):Option (List UInt8):=(qn9 N a0).run some
def qKM (N:Nat):List (Nat×qz):=[]
def qyg (N:Nat):Ent:=smF ⟨100,[],[.x .s],[],[]⟩ [.s] (List UInt8) (fun x=>qit N x.1) cs1 fun _=>qLz
theorem qKi (N:Nat):ze Tryz.prog (qyg N):=
 zc (H:=qL5) (L:=qK (qKM N)) (ts:=[.s]) (T:=fun x=>qn9 N x.1) 0 qSs (qFP N) (qn (by kernel_rfl) trivial) (rg0 (by kernel_rfl)) fun x=>by kernel_rfl
noncomputable def qRT:Code:=Tryz.f151.body.getD .skip
theorem qSm:FnF Tryz.prog 151 Tryz.f151 qRT:=⟨qg,by kernel_rfl,by kernel_rfl,by kernel_rfl⟩
def qNT:TH:={ live:=[(0,[1]),(1,[1,8]),(2,[2,3]),(3,[1,4]),(4,[2,3])],fresh:=[12],nil:=[(3,[⟨.sl 4,45,.bl⟩])] }
def qNy (N:Nat):List Ent:=[qrU,qsi N,qyg N]
theorem qHM (N:Nat):qQ Tryz.prog (qNy N):=⟨qxN,qEc N,qKi N,trivial⟩
def qOy (z:List UInt8×Bool):TV×THp:=(.tup [.tv .bl (z.1:List UInt8),xb z.2],[])
def qrs (N:Nat) (a0:qe):Tree (List UInt8×Bool):=
 .bind (qce a0) fun r1=>
 .cond (!r1) (
 .ret ([],false)) <|
 .bind (qd6 N (qe.S a0)) fun r2=>
 .sum r2 (fun r3=>
 .bind (qit N (qe.V a0)) fun r4=>
 .chk (jG ((([]:List UInt8)).length) 0 (((([]:List UInt8))++r4).length) 1) <|
 .chk (((([]:List UInt8))++r4).length=((([]:List UInt8))++r4).length) <|
 .ret ((([]:List UInt8))++r4,true)) fun r3=>
 .bind (qit N (qe.V a0)) fun r4=>
 .chk (jG r3.1.length r3.2 ((r3.1++r4).length) 1) <|
 .chk ((r3.1++r4).length=(r3.1++r4).length) <|
 .ret (r3.1++r4,true)
def qqx (N:Nat) (a0:qe):Option (List UInt8×Bool):=(qrs N a0).run some
def qOa (N:Nat):List (Nat×qz):=[]
def qAW (N:Nat):Ent:=smF ⟨151,[],[.x qx],[],[]⟩ [qx] (List UInt8×Bool) (fun x=>qqx N x.1) cs1 fun _=>qOy
theorem qKy (N:Nat):ze Tryz.prog (qAW N):=
 zc (H:=qNT) (L:=qK (qOa N)) (ts:=[qx]) (T:=fun x=>qrs N x.1) 0 qSm (qHM N) (qn (by kernel_rfl) trivial) (rg0 (by kernel_rfl)) fun x=>by kernel_rfl
noncomputable def qlm:Code:=Tryz.f94.body.getD .skip
theorem qVq:FnF Tryz.prog 94 Tryz.f94 qlm:=⟨qg,by kernel_rfl,by kernel_rfl,by kernel_rfl⟩
def qdO:TH:={ live:=[(0,[1]),(1,[1,15]),(2,[2,3]),(3,[1,4]),(4,[4,22,23,24]),(5,[4,22,23,24,25]),(6,[4,6,22,23,24]),(7,[4,6,7,22,23,24]),(8,[4,6,22,23,24]),(9,[4,22,23,24,47,48,49]),(10,[4,22,23,24,47,48,49,50]),(11,[4,10,22,23,24,47,48,49]),(12,[4,10,11,22,23,24,47,48,49]),(13,[4,22,23,24,47,48,49]),(14,[4,22,23,24,47,48,49]),(15,[4,22,23,24]),(16,[2,3])],fresh:=[20],rd:=[(6,[6]),(11,[10])] }
def qoo (N:Nat):List Ent:=[KQ N,qga N,qym N,qAW N]
theorem qiM (N:Nat):qQ Tryz.prog (qoo N):=⟨qa0 N,qhJ N,qJm N,qKy N,trivial⟩
abbrev qbh:=List qa×Int×Int×List qc×Int
abbrev V0:=List UInt8×Nat×Int×Bool
def Yb (f:qbh) (y:V0):Ex×TSt:=(.exit 2,⟨0,70,[],[(4,.v 100090 y.2.1),(22,.tv (.sl 19 qf) f.1),(23,xi f.2.1),(24,xi f.2.2.1),(47,.tv (.sl 4 qo) f.2.2.2.1),(48,xi f.2.2.2.2),(49,xi y.2.2.1),(50,xb y.2.2.2)],[(100090,.vec false 1 .bl (y.1:List UInt8))],false,[]⟩)
def qAb (N:Nat):List (Nat×qz):=[]
abbrev W0:=List UInt8×Nat×Int
def qmu:SP:=⟨0,70,[],[(4,.v 100090),(22,.x (.sl 19 qf)),(23,.x (.i .i64)),(24,.x (.i .i64)),(47,.x (.sl 4 qo)),(48,.x (.i .i64)),(49,.x (.i .i64))],[(100090,.vec false 1)],false,[]⟩
def qCc (f:qbh) (v:W0):TSt:=zH qmu [dv .bl v.1,dv .nat v.2.1,dv (.sl 19 qf) f.1,dv (.i .i64) f.2.1,dv (.i .i64) f.2.2.1,dv (.sl 4 qo) f.2.2.2.1,dv (.i .i64) f.2.2.2.2,dv (.i .i64) v.2.2]
def qby (N:Nat) (s22_10:List qa) (s23_10:Int) (s24_10:Int) (s47_10:List qc) (s48_10:Int) (v:W0):Tree (W0⊕V0):=
 .cond (decide (v.2.2 < s48_10)) (
 .bind (zl s47_10 v.2.2) fun e1=>
 .bind (qqx N (qc.C e1)) fun r2=>
 .chk (inB (IntKind.u8.wrap (qc.No e1))) <|
 .chk (jG v.1.length v.2.1 ((v.1++[UInt8.ofNat (IntKind.u8.wrap (qc.No e1)).toNat]).length) 1) <|
 .chk (jG ((v.1++[UInt8.ofNat (IntKind.u8.wrap (qc.No e1)).toNat]).length) ((v.1++[UInt8.ofNat (IntKind.u8.wrap (qc.No e1)).toNat]).length) (((v.1++[UInt8.ofNat (IntKind.u8.wrap (qc.No e1)).toNat])++r2.1).length) 1) <|
 .chk (qw (v.2.2 + 1)) <|
 .ret (.inl ((v.1++[UInt8.ofNat (IntKind.u8.wrap (qc.No e1)).toNat])++r2.1,((v.1++[UInt8.ofNat (IntKind.u8.wrap (qc.No e1)).toNat])++r2.1).length,v.2.2 + 1))) <|
 .ret (.inr (v.1,v.2.1,v.2.2,decide (v.2.2 < s48_10)))
def qm8 (N n:Nat) (f:qbh) (v:W0):Option V0:=qV (qby N f.1 f.2.1 f.2.2.1 f.2.2.2.1 f.2.2.2.2) some n v
theorem qB3 (N:Nat) (f:qbh) (n:Nat) (v:W0) (y:V0) (h:qm8 N n f v=some y):LG Tryz.prog qdO 94 (qN (qN qlm 5) 10) (qCc f v) (Yb f y):=
 zr qg (E:=qoo N) (L:=qK (qAb N)) (st:=Yb f) (g:=some) (R:=Yb f) (qiM N) (qn (by kernel_rfl) trivial) (rg0 (by kernel_rfl)) (fun v=>by kernel_rfl) (qZ (st:=Yb f) fun y=>by rfl) (js0 rfl) n v y h
def qi2 (N:Nat) (s22_10:List qa) (s23_10:Int) (s24_10:Int) (s47_10:List qc) (s48_10:Int) (o_10:List UInt8) (s4_10:Nat) (s49_10:Int):Option V0:=qm8 N N (s22_10,s23_10,s24_10,s47_10,s48_10) (o_10,s4_10,s49_10)
def qm9 (N:Nat):qz:=smL qmu [.bl,.nat,(.sl 19 qf),(.i .i64),(.i .i64),(.sl 4 qo),(.i .i64),(.i .i64)] V0 (fun x=>qi2 N x.2.2.1 x.2.2.2.1 x.2.2.2.2.1 x.2.2.2.2.2.1 x.2.2.2.2.2.2.1 x.1 x.2.1 x.2.2.2.2.2.2.2.1) cs1 fun x=>Yb (x.2.2.1,x.2.2.2.1,x.2.2.2.2.1,x.2.2.2.2.2.1,x.2.2.2.2.2.2.1)
theorem qzn (N:Nat):jl Tryz.prog qdO 94 (qN (qN qlm 5) 10) (qm9 N):=zA fun x z h=>qB3 N (x.2.2.1,x.2.2.2.1,x.2.2.2.2.1,x.2.2.2.2.2.1,x.2.2.2.2.2.2.1) N (x.1,x.2.1,x.2.2.2.2.2.2.2.1) z h
abbrev qcZ:=List qa×Int
abbrev XU:=List UInt8×Nat×Int×Bool
def Kp (f:qcZ) (y:XU):Ex×TSt:=(.exit 0,⟨0,70,[],[(4,.v 100090 y.2.1),(22,.tv (.sl 19 qf) f.1),(23,xi f.2),(24,xi y.2.2.1),(25,xb y.2.2.2)],[(100090,.vec false 1 .bl (y.1:List UInt8))],false,[]⟩)
def qDl (N:Nat):List (Nat×qz):=[(10,qm9 N)]
abbrev Ku:=List UInt8×Nat×Int
def qpR:SP:=⟨0,70,[],[(4,.v 100090),(22,.x (.sl 19 qf)),(23,.x (.i .i64)),(24,.x (.i .i64))],[(100090,.vec false 1)],false,[]⟩
def qDz (f:qcZ) (v:Ku):TSt:=zH qpR [dv .bl v.1,dv .nat v.2.1,dv (.sl 19 qf) f.1,dv (.i .i64) f.2,dv (.i .i64) v.2.2]
def qc2 (N:Nat) (s22_5:List qa) (s23_5:Int) (v:Ku):Tree (Ku⊕XU):=
 .cond (decide (v.2.2 < s23_5)) (
 .bind (zl s22_5 v.2.2) fun e1=>
 .bind (qnk N (qa.qB e1)) fun r2=>
 .chk (jG v.1.length v.2.1 ((v.1++((qa.ID e1).toList)).length) 1) <|
 .chk (jG ((v.1++((qa.ID e1).toList)).length) ((v.1++((qa.ID e1).toList)).length) (((v.1++((qa.ID e1).toList))++r2.1).length) 1) <|
 let w3:Int:=IntKind.u64.wrap (((qa.F e1).length:Nat):Int)
 .bind (Ve N w3) fun r4=>
 .chk (r4.1.length=r4.2) <|
 .chk (jG (((v.1++((qa.ID e1).toList))++r2.1).length) (((v.1++((qa.ID e1).toList))++r2.1).length) ((((v.1++((qa.ID e1).toList))++r2.1)++r4.1).length) 1) <|
 .bind (qi2 N s22_5 s23_5 v.2.2 (qa.F e1) (((qa.F e1).length:Nat):Int) (((v.1++((qa.ID e1).toList))++r2.1)++r4.1) ((((v.1++((qa.ID e1).toList))++r2.1)++r4.1).length) 0) fun z5=>
 .chk (qw (v.2.2 + 1)) <|
 .ret (.inl (z5.1,z5.2.1,v.2.2 + 1))) <|
 .ret (.inr (v.1,v.2.1,v.2.2,decide (v.2.2 < s23_5)))
def qoX (N n:Nat) (f:qcZ) (v:Ku):Option XU:=qV (qc2 N f.1 f.2) some n v
theorem qDV (N:Nat) (f:qcZ) (n:Nat) (v:Ku) (y:XU) (h:qoX N n f v=some y):LG Tryz.prog qdO 94 (qN qlm 5) (qDz f v) (Kp f y):=
 zr qg (E:=qoo N) (L:=qK (qDl N)) (st:=Kp f) (g:=some) (R:=Kp f) (qiM N) (qn (by kernel_rfl) ⟨qzn N,trivial⟩) (rg0 (by kernel_rfl)) (fun v=>by kernel_rfl) (qZ (st:=Kp f) fun y=>by rfl) (js0 rfl) n v y h
def qlb (N:Nat) (s22_5:List qa) (s23_5:Int) (o_5:List UInt8) (s4_5:Nat) (s24_5:Int):Option XU:=qoX N N (s22_5,s23_5) (o_5,s4_5,s24_5)
def qpv (N:Nat):qz:=smL qpR [.bl,.nat,(.sl 19 qf),(.i .i64),(.i .i64)] XU (fun x=>qlb N x.2.2.1 x.2.2.2.1 x.1 x.2.1 x.2.2.2.2.1) cs1 fun x=>Kp (x.2.2.1,x.2.2.2.1)
theorem qCA (N:Nat):jl Tryz.prog qdO 94 (qN qlm 5) (qpv N):=zA fun x z h=>qDV N (x.2.2.1,x.2.2.2.1) N (x.1,x.2.1,x.2.2.2.2.1) z h
def qLR (z:List UInt8×Bool):TV×THp:=(.tup [.tv .bl (z.1:List UInt8),xb z.2],[])
def qn6 (N:Nat) (a0:qb):Tree (List UInt8×Bool):=
 .bind (We N a0) fun r1=>
 .cond (!r1) (
 .ret ([],false)) <|
 let w2:Int:=IntKind.u64.wrap (((qb.R a0).length:Nat):Int)
 .bind (Ve N w2) fun r3=>
 .bind (qlb N (qb.R a0) (((qb.R a0).length:Nat):Int) r3.1 r3.2 0) fun z4=>
 .chk (z4.1.length=z4.2.1) <|
 .ret (z4.1,true)
def qnb (N:Nat) (a0:qb):Option (List UInt8×Bool):=(qn6 N a0).run some
def qLx (N:Nat):List (Nat×qz):=[(5,qpv N)]
def qxC (N:Nat):Ent:=smF ⟨94,[],[.x qi],[],[]⟩ [qi] (List UInt8×Bool) (fun x=>qnb N x.1) cs1 fun _=>qLR
theorem qIy (N:Nat):ze Tryz.prog (qxC N):=
 zc (H:=qdO) (L:=qK (qLx N)) (ts:=[qi]) (T:=fun x=>qn6 N x.1) 0 qVq (qiM N) (qn (by kernel_rfl) ⟨qCA N,trivial⟩) (rg0 (by kernel_rfl)) fun x=>by kernel_rfl
noncomputable def qUF:Code:=Tryz.f51.body.getD .skip
theorem qVs:FnF Tryz.prog 51 Tryz.f51 qUF:=⟨qg,by kernel_rfl,by kernel_rfl,by kernel_rfl⟩
def qCN:TH:={ live:=[(0,[1,2]),(1,[2,3]),(2,[2])] }
def qCO (N:Nat):List Ent:=[qxC N,qvm N]
theorem qyE (N:Nat):qQ Tryz.prog (qCO N):=⟨qIy N,qrn N,trivial⟩
def qDm (z:Vector UInt8 32):TV×THp:=(.tv (.ba 32) z,[])
def qg8 (N:Nat) (a0:qb):Tree (Vector UInt8 32):=
 .bind (qnb N a0) fun r1=>
 .bind (ZZ N r1.1) fun r2=>
 .ret r2
def qbz (N:Nat) (a0:qb):Option (Vector UInt8 32):=(qg8 N a0).run some
def qC2 (N:Nat):List (Nat×qz):=[]
def qo6 (N:Nat):Ent:=smF ⟨51,[],[.x qi],[],[]⟩ [qi] (Vector UInt8 32) (fun x=>qbz N x.1) cs1 fun _=>qDm
theorem qAS (N:Nat):ze Tryz.prog (qo6 N):=
 zc (H:=qCN) (L:=qK (qC2 N)) (ts:=[qi]) (T:=fun x=>qg8 N x.1) 0 qVs (qyE N) (qn (by kernel_rfl) trivial) (rg0 (by kernel_rfl)) fun x=>by kernel_rfl
noncomputable def qVL:Code:=Tryz.f24.body.getD .skip
theorem qVM:FnF Tryz.prog 24 Tryz.f24 qVL:=⟨qg,by kernel_rfl,by kernel_rfl,by kernel_rfl⟩
def qV_:TH:={ live:=[(0,[0,2]),(1,[2])] }
def qVU (N:Nat):List Ent:=[qvm N]
theorem qOt (N:Nat):qQ Tryz.prog (qVU N):=⟨qrn N,trivial⟩
def qV1 (z:Vector UInt8 32):TV×THp:=(.tv (.ba 32) z,[])
def qp7 (N:Nat) (a0:List UInt8):Tree (Vector UInt8 32):=
 .chk (qmS (a0:List UInt8).length) <|
 .bind (ZZ N a0) fun r1=>
 .ret r1
def qav (N:Nat) (a0:List UInt8):Option (Vector UInt8 32):=(qp7 N a0).run some
def qV4 (N:Nat):List (Nat×qz):=[]
def qeB (N:Nat):Ent:=smF ⟨24,[],[.x .s],[],[]⟩ [.s] (Vector UInt8 32) (fun x=>qav N x.1) cs1 fun _=>qV1
theorem qeX (N:Nat):ze Tryz.prog (qeB N):=
 zc (H:=qV_) (L:=qK (qV4 N)) (ts:=[.s]) (T:=fun x=>qp7 N x.1) 0 qVM (qOt N) (qn (by kernel_rfl) trivial) (rg0 (by kernel_rfl)) fun x=>by kernel_rfl
noncomputable def qS1:Code:=Tryz.f198.body.getD .skip
theorem qSK:FnF Tryz.prog 198 Tryz.f198 qS1:=⟨qg,by kernel_rfl,by kernel_rfl,by kernel_rfl⟩
def qKB:TH:={ live:=[(0,[0,1]),(1,[4])] }
def qKS (N:Nat):List Ent:=[]
theorem qFG (N:Nat):qQ Tryz.prog (qKS N):=trivial
def qLp (z:Int):TV×THp:=(.tv (.i .u32) z,[])
def qn_ (a0:Int) (a1:Int):Tree (Int):=
 .chk (0≤(16:Int)) <|
 let w1:Int:=uOr .u32 (qfx .u32 (IntKind.u32.wrap a1) 16) (IntKind.u32.wrap a0)
 .ret w1
def qtj (a0:Int) (a1:Int):Option (Int):=(qn_ a0 a1).run some
def qKR:List (Nat×qz):=[]
def qx2:Ent:=smF ⟨198,[],[.x (.i .u16),.x (.i .u16)],[],[]⟩ [(.i .u16),(.i .u16)] (Int) (fun x=>qtj x.1 x.2.1) cs1 fun _=>qLp
theorem qII:ze Tryz.prog (qx2):=
 zc (H:=qKB) (L:=qK (qKR)) (ts:=[(.i .u16),(.i .u16)]) (T:=fun x=>qn_ x.1 x.2.1) 0 qSK (qFG 0) (qn (by kernel_rfl) trivial) (rg0 (by kernel_rfl)) fun x=>by kernel_rfl
noncomputable def qvP:Code:=Tryz.f152.body.getD .skip
theorem qRs:FnF Tryz.prog 152 Tryz.f152 qvP:=⟨qg,by kernel_rfl,by kernel_rfl,by kernel_rfl⟩
def qrL:TH:={ live:=[(0,[0]),(1,[0,3,4]),(2,[0,3,4,7,8]),(3,[0,3,4,7,8,9]),(4,[0,3,4,5,7,8]),(5,[0,3,4,7,8]),(6,[0,3,4,7,8]),(7,[0,3,4,7,8]),(8,[2])] }
def qCf (N:Nat):List Ent:=[qx2]
theorem quQ (N:Nat):qQ Tryz.prog (qCf N):=⟨qII,trivial⟩
abbrev qea:=List UInt8×Int
abbrev Wz:=Int×Int×Int×Bool
def qaz (f:qea) (y:Wz):Ex×TSt:=(.exit 0,⟨0,24,[],[(0,.tv .s f.1),(3,.tv (.i .u16) (y.1:Int)),(4,.tv (.i .u16) (y.2.1:Int)),(7,xi f.2),(8,xi y.2.2.1),(9,xb y.2.2.2)],[],false,[]⟩)
def qGH (N:Nat):List (Nat×qz):=[]
abbrev qaG:=Int×Int×Int
def qsx:SP:=⟨0,24,[],[(0,.x .s),(3,.x (.i .u16)),(4,.x (.i .u16)),(7,.x (.i .i64)),(8,.x (.i .i64))],[],false,[]⟩
def qFB (f:qea) (v:qaG):TSt:=zH qsx [dv .s f.1,dv (.i .u16) v.1,dv (.i .u16) v.2.1,dv (.i .i64) f.2,dv (.i .i64) v.2.2]
def qen (N:Nat) (s0_3:List UInt8) (s7_3:Int) (v:qaG):Tree (qaG⊕Wz):=
 .cond (decide (v.2.2 < s7_3)) (
 .bind (zl s0_3 v.2.2) fun e1=>
 let w2:Int:=IntKind.u16.wrap ((e1.toNat:Nat):Int)
 .chk (qw (v.2.2 + 1)) <|
 .ret (.inl (Ys .u16 v.1 w2,Ys .u16 v.2.1 (Ys .u16 v.1 w2),v.2.2 + 1))) <|
 .ret (.inr (v.1,v.2.1,v.2.2,decide (v.2.2 < s7_3)))
def qsk (N n:Nat) (f:qea) (v:qaG):Option Wz:=qV (qen N f.1 f.2) some n v
theorem qF4 (N:Nat) (f:qea) (n:Nat) (v:qaG) (y:Wz) (h:qsk N n f v=some y):LG Tryz.prog qrL 152 (qN qvP 3) (qFB f v) (qaz f y):=
 zr qg (E:=qCf N) (L:=qK (qGH N)) (st:=qaz f) (g:=some) (R:=qaz f) (quQ N) (qn (by kernel_rfl) trivial) (rg0 (by kernel_rfl)) (fun v=>by kernel_rfl) (qZ (st:=qaz f) fun y=>by rfl) (js0 rfl) n v y h
def qnP (N:Nat) (s0_3:List UInt8) (s7_3:Int) (s3_3:Int) (s4_3:Int) (s8_3:Int):Option Wz:=qsk N N (s0_3,s7_3) (s3_3,s4_3,s8_3)
def qsg (N:Nat):qz:=smL qsx [.s,(.i .u16),(.i .u16),(.i .i64),(.i .i64)] Wz (fun x=>qnP N x.1 x.2.2.2.1 x.2.1 x.2.2.1 x.2.2.2.2.1) cs1 fun x=>qaz (x.1,x.2.2.2.1)
theorem qD2 (N:Nat):jl Tryz.prog qrL 152 (qN qvP 3) (qsg N):=zA fun x z h=>qF4 N (x.1,x.2.2.2.1) N (x.2.1,x.2.2.1,x.2.2.2.2.1) z h
def qNE (z:Int):TV×THp:=(.tv (.i .u32) z,[])
def qpZ (N:Nat) (a0:List UInt8):Tree (Int):=
 .bind (qnP N a0 ((a0.length:Nat):Int) 0 0 0) fun z1=>
 .bind (qtj z1.1 z1.2.1) fun r2=>
 .ret r2
def qrG (N:Nat) (a0:List UInt8):Option (Int):=(qpZ N a0).run some
def qOU (N:Nat):List (Nat×qz):=[(3,qsg N)]
def qB7 (N:Nat):Ent:=smF ⟨152,[],[.x .s],[],[]⟩ [.s] (Int) (fun x=>qrG N x.1) cs1 fun _=>qNE
theorem qK6 (N:Nat):ze Tryz.prog (qB7 N):=
 zc (H:=qrL) (L:=qK (qOU N)) (ts:=[.s]) (T:=fun x=>qpZ N x.1) 0 qRs (quQ N) (qn (by kernel_rfl) ⟨qD2 N,trivial⟩) (rg0 (by kernel_rfl)) fun x=>by kernel_rfl
noncomputable def qUE:Code:=Tryz.f95.body.getD .skip
theorem qUo:FnF Tryz.prog 95 Tryz.f95 qUE:=⟨qg,by kernel_rfl,by kernel_rfl,by kernel_rfl⟩
def qN5:TH:={ live:=[(0,[0,2]),(1,[2])] }
def qNL (N:Nat):List Ent:=[qB7 N,qeB N]
theorem qIw (N:Nat):qQ Tryz.prog (qNL N):=⟨qK6 N,qeX N,trivial⟩
def qOJ (z:zm):TV×THp:=(.tv Qt z,[])
def qqh (N:Nat) (a0:List UInt8):Tree (zm):=
 .bind (qrG N a0) fun r1=>
 .bind (qav N a0) fun r2=>
 .ret (zm.mk r1 r2)
def qqs (N:Nat) (a0:List UInt8):Option (zm):=(qqh N a0).run some
def qPh (N:Nat):List (Nat×qz):=[]
def qBl (N:Nat):Ent:=smF ⟨95,[],[.x .s],[],[]⟩ [.s] (zm) (fun x=>qqs N x.1) cs1 fun _=>qOJ
theorem qKF (N:Nat):ze Tryz.prog (qBl N):=
 zc (H:=qN5) (L:=qK (qPh N)) (ts:=[.s]) (T:=fun x=>qqh N x.1) 0 qUo (qIw N) (qn (by kernel_rfl) trivial) (rg0 (by kernel_rfl)) fun x=>by kernel_rfl
noncomputable def qzk:Code:=Tryz.f52.body.getD .skip
theorem qTS:FnF Tryz.prog 52 Tryz.f52 qzk:=⟨qg,by kernel_rfl,by kernel_rfl,by kernel_rfl⟩
def qu6:TH:={ live:=[(0,[0]),(1,[0,6]),(2,[2]),(3,[0,3]),(4,[0,3,9]),(5,[0,3]),(6,[0,3]),(7,[2])],nil:=[(3,[⟨.sl 3,35,(.sl 33 Qt)⟩])] }
def qE7 (N:Nat):List Ent:=[qBl N]
theorem qx8 (N:Nat):qQ Tryz.prog (qE7 N):=⟨qKF N,trivial⟩
abbrev qgc:=Unit
abbrev Y5:=List zm×List UInt8×Bool
def qbP (f:qgc) (y:Y5):Ex×TSt:=(.exit 0,⟨0,19,[],[(0,.tv .s (y.2.1:List UInt8)),(3,.v 35 y.1.length),(9,xb y.2.2)],[(35,.vec false 33 (.sl 33 Qt) (y.1:List zm))],false,[]⟩)
def qJA (N:Nat):List (Nat×qz):=[]
abbrev qb_:=List zm×List UInt8
def qvF:SP:=⟨0,19,[],[(0,.x .s),(3,.vs 35)],[(35,.vec false 33)],false,[]⟩
def qHQ (f:qgc) (v:qb_):TSt:=zH qvF [dv (.sl 33 Qt) v.1,dv .s v.2]
def qfF (N:Nat) (v:qb_):Tree (qb_⊕Y5):=
 .cond (decide (((8:Int))≤((v.2.length:Nat):Int))) (
 .chk (0≤(0:Int)∧(0:Int)≤(8:Int)∧(8:Int)≤((v.2.length:Nat):Int)) <|
 .bind (qqs N ((v.2.take 8).drop 0)) fun r1=>
 .chk (jG v.1.length v.1.length ((v.1++[r1]).length) 36) <|
 .chk (0≤(8:Int)∧(8:Int)≤((v.2.length:Nat):Int)) <|
 .ret (.inl (v.1++[r1],v.2.drop 8))) <|
 .ret (.inr (v.1,v.2,decide (((8:Int))≤((v.2.length:Nat):Int))))
def qvb (N n:Nat) (f:qgc) (v:qb_):Option Y5:=qV (qfF N) some n v
theorem qHj (N:Nat) (f:qgc) (n:Nat) (v:qb_) (y:Y5) (h:qvb N n f v=some y):LG Tryz.prog qu6 52 (qN qzk 4) (qHQ f v) (qbP f y):=
 zr qg (E:=qE7 N) (L:=qK (qJA N)) (st:=qbP f) (g:=some) (R:=qbP f) (qx8 N) (qn (by kernel_rfl) trivial) (rg0 (by kernel_rfl)) (fun v=>by kernel_rfl) (qZ (st:=qbP f) fun y=>by rfl) (js0 rfl) n v y h
def qrD (N:Nat) (o_4:List zm) (s0_4:List UInt8):Option Y5:=qvb N N () (o_4,s0_4)
def qtH (N:Nat):qz:=smL qvF [(.sl 33 Qt),.s] Y5 (fun x=>qrD N x.1 x.2.1) cs1 fun x=>qbP ()
theorem qGi (N:Nat):jl Tryz.prog qu6 52 (qN qzk 4) (qtH N):=zA fun x z h=>qHj N () N (x.1,x.2.1) z h
def qPV (z:List zm):TV×THp:=(.tv (.sl 33 Qt) z,[])
def quU (N:Nat) (a0:List UInt8):Tree (List zm):=
 .cond (decide (((a0.length:Nat):Int) < ((24:Int)))) (
 .ret []) <|
 .bind (zY [(([]:List zm).length,0)] (qrD N [] a0)) fun z1=>
 .chk (z1.1.length=z1.1.length) <|
 .ret z1.1
def qv_ (N:Nat) (a0:List UInt8):Option (List zm):=(quU N a0).run some
def qTi (N:Nat):List (Nat×qz):=[(4,qtH N)]
def qFl (N:Nat):Ent:=smF ⟨52,[],[.x .s],[],[]⟩ [.s] (List zm) (fun x=>qv_ N x.1) cs1 fun _=>qPV
theorem qO8 (N:Nat):ze Tryz.prog (qFl N):=
 zc (H:=qu6) (L:=qK (qTi N)) (ts:=[.s]) (T:=fun x=>quU N x.1) 0 qTS (qx8 N) (qn (by kernel_rfl) ⟨qGi N,trivial⟩) (rg0 (by kernel_rfl)) fun x=>by kernel_rfl
noncomputable def qkq:Code:=Tryz.f21.body.getD .skip
theorem qUN:FnF Tryz.prog 21 Tryz.f21 qkq:=⟨qg,by kernel_rfl,by kernel_rfl,by kernel_rfl⟩
def qaS:TH:={ live:=[(0,[1,2]),(1,[1,2,13]),(2,[2,3]),(3,[1,2,4]),(4,[2,4,19,20,21]),(5,[2,4,19,20,21,22]),(6,[2,4,6,19,20,21]),(7,[2,4,6,7,19,20,21]),(8,[2,4,7,19,20,21,31,32,33]),(9,[2,4,7,19,20,21,31,32,33,34]),(10,[2,4,7,9,19,20,21,31,32,33]),(11,[2,4,7,9,10,19,20,21,31,32,33]),(12,[2,4,7,19,20,21,31,32,33]),(13,[2,4,7,19,20,21,31,32,33]),(14,[2,4,19,20,21]),(15,[2,4,19,20,21]),(16,[2,3])],nil:=[(0,[⟨.ob 20 [1],24,(.sl 19 qW)⟩]),(2,[⟨.ob 20 [1],24,(.sl 19 qW)⟩]),(3,[⟨.ob 40 [1],44,(.sl 19 qW)⟩]),(7,[⟨.ob 70 [2],75,(.sl 37 zg)⟩])] }
def qiE (N:Nat):List Ent:=[KQ N,qo6 N,qeB N,qFl N]
theorem qgy (N:Nat):qQ Tryz.prog (qiE N):=⟨qa0 N,qAS N,qeX N,qO8 N,trivial⟩
abbrev K7:=List qp×List qp×Vector UInt8 32×Vector UInt8 32×Vector UInt8 16×qd×List qa×Int×Int×List qc×Int
abbrev Vc:=List qv×Int×Bool
def Wf (f:K7) (y:Vc):Ex×TSt:=(.exit 2,⟨0,66,[],[(2,.p 20 [] 0),(4,.p 40 [] 0),(7,.p 70 [] 0),(19,.tv (.sl 19 qf) f.2.2.2.2.2.2.1),(20,xi f.2.2.2.2.2.2.2.1),(21,xi f.2.2.2.2.2.2.2.2.1),(31,.tv (.sl 4 qo) f.2.2.2.2.2.2.2.2.2.1),(32,xi f.2.2.2.2.2.2.2.2.2.2),(33,xi y.2.1),(34,xb y.2.2)],[(20,.cell false (.ag [.tv (.ba 32) f.2.2.1,.v 24 f.1.length])),(24,.vec false 19 (.sl 19 qW) f.1),(40,.cell false (.ag [.tv (.ba 32) f.2.2.2.1,.v 44 f.2.1.length])),(44,.vec false 19 (.sl 19 qW) f.2.1),(70,.cell false (.ag [.tv (.ba 16) f.2.2.2.2.1,.tv qk f.2.2.2.2.2.1,.v 75 y.1.length])),(75,.vec false 37 (.sl 37 zg) (y.1:List qv))],false,[]⟩)
def qyO (N:Nat):List (Nat×qz):=[]
abbrev Wa:=List qv×Int
def qk9:SP:=⟨0,66,[],[(2,.k (.p 20 [] 0)),(4,.k (.p 40 [] 0)),(7,.k (.p 70 [] 0)),(19,.x (.sl 19 qf)),(20,.x (.i .i64)),(21,.x (.i .i64)),(31,.x (.sl 4 qo)),(32,.x (.i .i64)),(33,.x (.i .i64))],[(20,.cell false (.ag [.x (.ba 32),.vs 24])),(24,.vec false 19),(40,.cell false (.ag [.x (.ba 32),.vs 44])),(44,.vec false 19),(70,.cell false (.ag [.x (.ba 16),.x qk,.vs 75])),(75,.vec false 37)],false,[]⟩
def qzZ (f:K7) (v:Wa):TSt:=zH qk9 [dv (.sl 19 qW) f.1,dv (.sl 19 qW) f.2.1,dv (.sl 37 zg) v.1,dv (.ba 32) f.2.2.1,dv (.ba 32) f.2.2.2.1,dv (.ba 16) f.2.2.2.2.1,dv qk f.2.2.2.2.2.1,dv (.sl 19 qf) f.2.2.2.2.2.2.1,dv (.i .i64) f.2.2.2.2.2.2.2.1,dv (.i .i64) f.2.2.2.2.2.2.2.2.1,dv (.sl 4 qo) f.2.2.2.2.2.2.2.2.2.1,dv (.i .i64) f.2.2.2.2.2.2.2.2.2.2,dv (.i .i64) v.2]
def K_ (N:Nat) (o_9:List qp) (o_9_2:List qp) (o_9_4:Vector UInt8 32) (o_9_5:Vector UInt8 32) (o_9_6:Vector UInt8 16) (o_9_7:qd) (s19_9:List qa) (s20_9:Int) (s21_9:Int) (s31_9:List qc) (s32_9:Int) (v:Wa):Tree (Wa⊕Vc):=
 .cond (decide (v.2 < s32_9)) (
 .bind (zl s31_9 v.2) fun e1=>
 .bind (qav N (qe.V (qc.C e1))) fun r2=>
 .bind (qv_ N (qe.V (qc.C e1))) fun r3=>
 .chk (jG v.1.length v.1.length ((v.1++[qv.mk (qc.No e1) (qe.S (qc.C e1)) (((qe.V (qc.C e1)).length:Nat):Int) r2 r3]).length) 88) <|
 .chk (qw (v.2 + 1)) <|
 .ret (.inl (v.1++[qv.mk (qc.No e1) (qe.S (qc.C e1)) (((qe.V (qc.C e1)).length:Nat):Int) r2 r3],v.2 + 1))) <|
 .ret (.inr (v.1,v.2,decide (v.2 < s32_9)))
def qkY (N n:Nat) (f:K7) (v:Wa):Option Vc:=qV (K_ N f.1 f.2.1 f.2.2.1 f.2.2.2.1 f.2.2.2.2.1 f.2.2.2.2.2.1 f.2.2.2.2.2.2.1 f.2.2.2.2.2.2.2.1 f.2.2.2.2.2.2.2.2.1 f.2.2.2.2.2.2.2.2.2.1 f.2.2.2.2.2.2.2.2.2.2) some n v
theorem qyz (N:Nat) (f:K7) (n:Nat) (v:Wa) (y:Vc) (h:qkY N n f v=some y):LG Tryz.prog qaS 21 (qN (qN qkq 5) 9) (qzZ f v) (Wf f y):=
 zr qg (E:=qiE N) (L:=qK (qyO N)) (st:=Wf f) (g:=some) (R:=Wf f) (qgy N) (qn (by kernel_rfl) trivial) (rg0 (by kernel_rfl)) (fun v=>by kernel_rfl) (qZ (st:=Wf f) fun y=>by rfl) (js0 rfl) n v y h
def qcS (N:Nat) (o_9:List qp) (o_9_2:List qp) (o_9_4:Vector UInt8 32) (o_9_5:Vector UInt8 32) (o_9_6:Vector UInt8 16) (o_9_7:qd) (s19_9:List qa) (s20_9:Int) (s21_9:Int) (s31_9:List qc) (s32_9:Int) (o_9_3:List qv) (s33_9:Int):Option Vc:=qkY N N (o_9,o_9_2,o_9_4,o_9_5,o_9_6,o_9_7,s19_9,s20_9,s21_9,s31_9,s32_9) (o_9_3,s33_9)
def qkO (N:Nat):qz:=smL qk9 [(.sl 19 qW),(.sl 19 qW),(.sl 37 zg),(.ba 32),(.ba 32),(.ba 16),qk,(.sl 19 qf),(.i .i64),(.i .i64),(.sl 4 qo),(.i .i64),(.i .i64)] Vc (fun x=>qcS N x.1 x.2.1 x.2.2.2.1 x.2.2.2.2.1 x.2.2.2.2.2.1 x.2.2.2.2.2.2.1 x.2.2.2.2.2.2.2.1 x.2.2.2.2.2.2.2.2.1 x.2.2.2.2.2.2.2.2.2.1 x.2.2.2.2.2.2.2.2.2.2.1 x.2.2.2.2.2.2.2.2.2.2.2.1 x.2.2.1 x.2.2.2.2.2.2.2.2.2.2.2.2.1) cs1 fun x=>Wf (x.1,x.2.1,x.2.2.2.1,x.2.2.2.2.1,x.2.2.2.2.2.1,x.2.2.2.2.2.2.1,x.2.2.2.2.2.2.2.1,x.2.2.2.2.2.2.2.2.1,x.2.2.2.2.2.2.2.2.2.1,x.2.2.2.2.2.2.2.2.2.2.1,x.2.2.2.2.2.2.2.2.2.2.2.1)
theorem qwE (N:Nat):jl Tryz.prog qaS 21 (qN (qN qkq 5) 9) (qkO N):=zA fun x z h=>qyz N (x.1,x.2.1,x.2.2.2.1,x.2.2.2.2.1,x.2.2.2.2.2.1,x.2.2.2.2.2.2.1,x.2.2.2.2.2.2.2.1,x.2.2.2.2.2.2.2.2.1,x.2.2.2.2.2.2.2.2.2.1,x.2.2.2.2.2.2.2.2.2.2.1,x.2.2.2.2.2.2.2.2.2.2.2.1) N (x.2.2.1,x.2.2.2.2.2.2.2.2.2.2.2.2.1) z h
abbrev KP:=List qp×Vector UInt8 32×Vector UInt8 32×List qa×Int
abbrev Vg:=List qp×Int×Bool
def Wg (f:KP) (y:Vg):Ex×TSt:=(.exit 0,⟨0,66,[],[(2,.p 20 [] 0),(4,.p 40 [] 0),(19,.tv (.sl 19 qf) f.2.2.2.1),(20,xi f.2.2.2.2),(21,xi y.2.1),(22,xb y.2.2)],[(20,.cell false (.ag [.tv (.ba 32) f.2.1,.v 24 f.1.length])),(24,.vec false 19 (.sl 19 qW) f.1),(40,.cell false (.ag [.tv (.ba 32) f.2.2.1,.v 44 y.1.length])),(44,.vec false 19 (.sl 19 qW) (y.1:List qp))],false,[]⟩)
def qyH (N:Nat):List (Nat×qz):=[(9,qkO N)]
abbrev X7:=List qp×Int
def qla:SP:=⟨0,66,[],[(2,.k (.p 20 [] 0)),(4,.k (.p 40 [] 0)),(19,.x (.sl 19 qf)),(20,.x (.i .i64)),(21,.x (.i .i64))],[(20,.cell false (.ag [.x (.ba 32),.vs 24])),(24,.vec false 19),(40,.cell false (.ag [.x (.ba 32),.vs 44])),(44,.vec false 19)],false,[]⟩
def qyq (f:KP) (v:X7):TSt:=zH qla [dv (.sl 19 qW) f.1,dv (.sl 19 qW) v.1,dv (.ba 32) f.2.1,dv (.ba 32) f.2.2.1,dv (.sl 19 qf) f.2.2.2.1,dv (.i .i64) f.2.2.2.2,dv (.i .i64) v.2]
def K3 (N:Nat) (o_5:List qp) (o_5_3:Vector UInt8 32) (o_5_4:Vector UInt8 32) (s19_5:List qa) (s20_5:Int) (v:X7):Tree (X7⊕Vg):=
 .cond (decide (v.2 < s20_5)) (
 .bind (zl s19_5 v.2) fun e1=>
 .bind (zY [(o_5.length,o_5.length),(v.1.length,v.1.length),(([]:List qv).length,0)] (qcS N o_5 v.1 o_5_3 o_5_4 (qa.ID e1) (qa.qB e1) s19_5 s20_5 v.2 (qa.F e1) (((qa.F e1).length:Nat):Int) [] 0)) fun z2=>
 .chk (z2.1.length=z2.1.length) <|
 .chk (jG v.1.length v.1.length ((v.1++[qp.mk (qa.ID e1) (qa.qB e1) z2.1]).length) 56) <|
 .chk (qw (v.2 + 1)) <|
 .ret (.inl (v.1++[qp.mk (qa.ID e1) (qa.qB e1) z2.1],v.2 + 1))) <|
 .ret (.inr (v.1,v.2,decide (v.2 < s20_5)))
def qlf (N n:Nat) (f:KP) (v:X7):Option Vg:=qV (K3 N f.1 f.2.1 f.2.2.1 f.2.2.2.1 f.2.2.2.2) some n v
theorem qy_ (N:Nat) (f:KP) (n:Nat) (v:X7) (y:Vg) (h:qlf N n f v=some y):LG Tryz.prog qaS 21 (qN qkq 5) (qyq f v) (Wg f y):=
 zr qg (E:=qiE N) (L:=qK (qyH N)) (st:=Wg f) (g:=some) (R:=Wg f) (qgy N) (qn (by kernel_rfl) ⟨qwE N,trivial⟩) (rg0 (by kernel_rfl)) (fun v=>by kernel_rfl) (qZ (st:=Wg f) fun y=>by rfl) (js0 rfl) n v y h
def qcV (N:Nat) (o_5:List qp) (o_5_3:Vector UInt8 32) (o_5_4:Vector UInt8 32) (s19_5:List qa) (s20_5:Int) (o_5_2:List qp) (s21_5:Int):Option Vg:=qlf N N (o_5,o_5_3,o_5_4,s19_5,s20_5) (o_5_2,s21_5)
def qk2 (N:Nat):qz:=smL qla [(.sl 19 qW),(.sl 19 qW),(.ba 32),(.ba 32),(.sl 19 qf),(.i .i64),(.i .i64)] Vg (fun x=>qcV N x.1 x.2.2.1 x.2.2.2.1 x.2.2.2.2.1 x.2.2.2.2.2.1 x.2.1 x.2.2.2.2.2.2.1) cs1 fun x=>Wg (x.1,x.2.2.1,x.2.2.2.1,x.2.2.2.2.1,x.2.2.2.2.2.1)
theorem qw4 (N:Nat):jl Tryz.prog qaS 21 (qN qkq 5) (qk2 N):=zA fun x z h=>qy_ N (x.1,x.2.2.1,x.2.2.2.1,x.2.2.2.2.1,x.2.2.2.2.2.1) N (x.2.1,x.2.2.2.2.2.2.1) z h
def qFV (z:qt×Bool):TV×THp:=(.tup [.tv qH (z.1:qt),xb z.2],[])
def qev (N:Nat) (a0:qb):Tree (qt×Bool):=
 .bind (We N a0) fun r1=>
 .cond (!r1) (
 .chk (0=0) <|
 .ret (qt.mk ((Vector.replicate 32 0)) [],false)) <|
 .bind (qbz N a0) fun r2=>
 .bind (zY [(([]:List qp).length,0),(([]:List qp).length,0)] (qcV N [] ((Vector.replicate 32 0)) r2 (qb.R a0) (((qb.R a0).length:Nat):Int) [] 0)) fun z3=>
 .chk (z3.1.length=z3.1.length) <|
 .ret (qt.mk r2 z3.1,true)
def Yo (N:Nat) (a0:qb):Option (qt×Bool):=(qev N a0).run some
def qF9 (N:Nat):List (Nat×qz):=[(5,qk2 N)]
def qsB (N:Nat):Ent:=smF ⟨21,[],[.x qi],[],[]⟩ [qi] (qt×Bool) (fun x=>Yo N x.1) cs1 fun _=>qFV
theorem qDJ (N:Nat):ze Tryz.prog (qsB N):=
 zc (H:=qaS) (L:=qK (qF9 N)) (ts:=[qi]) (T:=fun x=>qev N x.1) 0 qUN (qgy N) (qn (by kernel_rfl) ⟨qw4 N,trivial⟩) (rg0 (by kernel_rfl)) fun x=>by kernel_rfl
noncomputable def qS0:Code:=Tryz.f106.body.getD .skip
theorem qSD:FnF Tryz.prog 106 Tryz.f106 qS0:=⟨qg,by kernel_rfl,by kernel_rfl,by kernel_rfl⟩
def qw2:TH:={ live:=[(0,[0,1]),(1,[0,1,6]),(2,[0,1]),(3,[0,1]),(4,[0,1,16]),(5,[0]),(6,[4])],esc:=true,nil:=[(5,[⟨.sl 0,900001060,(.sl 19 qf)⟩])] }
def qxv (N:Nat):List Ent:=[]
theorem qsX (N:Nat):qQ Tryz.prog (qxv N):=trivial
def qwX:Unit⊕Unit→TV×THp
 | .inl z=>(.v 900001060 0,[(900001060,.vec false 19 (.sl 19 qf) ([]:List qa))])
 | .inr z=>(.nils,[])
def YM (a0:Int):Tree (Unit⊕Unit):=
 .cond (decide (a0 < ((0:Int)))) (
 .no) <|
 .chk (qw a0) <|
 .cond (decide (((0:Int)) < a0)) (
 .chk (0 < a0∧a0.toNat * 56≤zi) <|
 .ret (.inl ())) <|
 .ret (.inr ())
def VX (a0:Int):Option (Unit⊕Unit):=(YM a0).run some
def qwQ:List (Nat×qz):=[]
def qje:Ent:=smF ⟨106,[],[.k .nils,.x (.i .i64)],[],[]⟩ [(.i .i64)] (Unit⊕Unit) (fun x=>VX x.1) (csS cs1) fun _=>qwX
theorem qui:ze Tryz.prog (qje):=
 zc (H:=qw2) (L:=qK (qwQ)) (ts:=[(.i .i64)]) (T:=fun x=>YM x.1) 0 qSD (qsX 0) (qn (by kernel_rfl) trivial) (rg0 (by kernel_rfl)) fun x=>by kernel_rfl
noncomputable def qkm:Code:=Tryz.f60.body.getD .skip
theorem qUM:FnF Tryz.prog 60 Tryz.f60 qkm:=⟨qg,by kernel_rfl,by kernel_rfl,by kernel_rfl⟩
def J2:TH:={ live:=[(0,[0]),(1,[0,3]),(2,[0,3,9,10,11]),(3,[0,3,9,10,11,12]),(4,[0,3,5,9,10,11]),(5,[0,3,9,10,11]),(6,[0,3,9,10,11,20]),(7,[0,3,9,10,11]),(8,[0,3,9,10,11]),(9,[0,6]),(10,[6,25,26,27]),(11,[6,25,26,27,28]),(12,[6,8,25,26,27]),(13,[6,25,26,27]),(14,[6,25,26,27]),(15,[2])],raw:=[106],fresh:=[24],nil:=[(9,[⟨.sl 6,900001060,(.sl 19 qf)⟩])] }
def qbb (N:Nat):List Ent:=[qje]
theorem Kz (N:Nat):qQ Tryz.prog (qbb N):=⟨qui,trivial⟩
abbrev Vu:=List (List qa)×List (List qa)×Int
abbrev Qr:=Int×Int×Bool
def ZE (f:Vu) (y:Qr):Ex×TSt:=(.exit 0,⟨0,36,[],[(0,.tv (.sl 1 (.sl 19 qf)) f.1),(3,xi y.1),(9,.tv (.sl 1 (.sl 19 qf)) f.2.1),(10,xi f.2.2),(11,xi y.2.1),(12,xb y.2.2)],[],false,[]⟩)
def qox (N:Nat):List (Nat×qz):=[]
abbrev ZA:=Int×Int
def qd7:SP:=⟨0,36,[],[(0,.x (.sl 1 (.sl 19 qf))),(3,.x (.i .i64)),(9,.x (.sl 1 (.sl 19 qf))),(10,.x (.i .i64)),(11,.x (.i .i64))],[],false,[]⟩
def qnK (f:Vu) (v:ZA):TSt:=zH qd7 [dv (.sl 1 (.sl 19 qf)) f.1,dv (.i .i64) v.1,dv (.sl 1 (.sl 19 qf)) f.2.1,dv (.i .i64) f.2.2,dv (.i .i64) v.2]
def Vv (N:Nat) (s0_3:List (List qa)) (s9_3:List (List qa)) (s10_3:Int) (v:ZA):Tree (ZA⊕Qr):=
 .cond (decide (v.2 < s10_3)) (
 .bind (zl s9_3 v.2) fun e1=>
 .chk (qw (v.1 + ((e1.length:Nat):Int))) <|
 .cond (decide ((v.1 + ((e1.length:Nat):Int)) < 0)) (
 .no) <|
 .chk (qw (v.2 + 1)) <|
 .ret (.inl (v.1 + ((e1.length:Nat):Int),v.2 + 1))) <|
 .ret (.inr (v.1,v.2,decide (v.2 < s10_3)))
def qdN (N n:Nat) (f:Vu) (v:ZA):Option Qr:=qV (Vv N f.1 f.2.1 f.2.2) some n v
theorem qoc (N:Nat) (f:Vu) (n:Nat) (v:ZA) (y:Qr) (h:qdN N n f v=some y):LG Tryz.prog J2 60 (qN qkm 3) (qnK f v) (ZE f y):=
 zr qg (E:=qbb N) (L:=qK (qox N)) (st:=ZE f) (g:=some) (R:=ZE f) (Kz N) (qn (by kernel_rfl) trivial) (rg0 (by kernel_rfl)) (fun v=>by kernel_rfl) (qZ (st:=ZE f) fun y=>by rfl) (js0 rfl) n v y h
def K8 (N:Nat) (s0_3:List (List qa)) (s9_3:List (List qa)) (s10_3:Int) (s3_3:Int) (s11_3:Int):Option Qr:=qdN N N (s0_3,s9_3,s10_3) (s3_3,s11_3)
def qd3 (N:Nat):qz:=smL qd7 [(.sl 1 (.sl 19 qf)),(.i .i64),(.sl 1 (.sl 19 qf)),(.i .i64),(.i .i64)] Qr (fun x=>K8 N x.1 x.2.2.1 x.2.2.2.1 x.2.1 x.2.2.2.2.1) cs1 fun x=>ZE (x.1,x.2.2.1,x.2.2.2.1)
theorem qmh (N:Nat):jl Tryz.prog J2 60 (qN qkm 3) (qd3 N):=zA fun x z h=>qoc N (x.1,x.2.2.1,x.2.2.2.1) N (x.2.1,x.2.2.2.2.1) z h
abbrev JZ:=List (List qa)×Int
abbrev v_:=List qa×Int×Bool
def Zh (f:JZ) (y:v_):Ex×TSt:=(.exit 2,⟨0,36,[],[(6,.v 900001060 y.1.length),(25,.tv (.sl 1 (.sl 19 qf)) f.1),(26,xi f.2),(27,xi y.2.1),(28,xb y.2.2)],[(900001060,.vec false 19 (.sl 19 qf) (y.1:List qa))],false,[]⟩)
def qma (N:Nat):List (Nat×qz):=[]
abbrev Zf:=List qa×Int
def qdc:SP:=⟨0,36,[],[(6,.vs 900001060),(25,.x (.sl 1 (.sl 19 qf))),(26,.x (.i .i64)),(27,.x (.i .i64))],[(900001060,.vec false 19)],false,[]⟩
def ql9 (f:JZ) (v:Zf):TSt:=zH qdc [dv (.sl 19 qf) v.1,dv (.sl 1 (.sl 19 qf)) f.1,dv (.i .i64) f.2,dv (.i .i64) v.2]
def JQ (N:Nat) (s25_11:List (List qa)) (s26_11:Int) (v:Zf):Tree (Zf⊕v_):=
 .cond (decide (v.2 < s26_11)) (
 .bind (zl s25_11 v.2) fun e1=>
 .chk (jG v.1.length v.1.length ((v.1++e1).length) 56) <|
 .chk (qw (v.2 + 1)) <|
 .ret (.inl (v.1++e1,v.2 + 1))) <|
 .ret (.inr (v.1,v.2,decide (v.2 < s26_11)))
def qda (N n:Nat) (f:JZ) (v:Zf):Option v_:=qV (JQ N f.1 f.2) some n v
theorem qmn (N:Nat) (f:JZ) (n:Nat) (v:Zf) (y:v_) (h:qda N n f v=some y):LG Tryz.prog J2 60 (qN qkm 11) (ql9 f v) (Zh f y):=
 zr qg (E:=qbb N) (L:=qK (qma N)) (st:=Zh f) (g:=some) (R:=Zh f) (Kz N) (qn (by kernel_rfl) trivial) (rg0 (by kernel_rfl)) (fun v=>by kernel_rfl) (qZ (st:=Zh f) fun y=>by rfl) (js0 rfl) n v y h
def VZ (N:Nat) (s25_11:List (List qa)) (s26_11:Int) (o_11:List qa) (s27_11:Int):Option v_:=qda N N (s25_11,s26_11) (o_11,s27_11)
def qc_ (N:Nat):qz:=smL qdc [(.sl 19 qf),(.sl 1 (.sl 19 qf)),(.i .i64),(.i .i64)] v_ (fun x=>VZ N x.2.1 x.2.2.1 x.1 x.2.2.2.1) cs1 fun x=>Zh (x.2.1,x.2.2.1)
theorem qkV (N:Nat):jl Tryz.prog J2 60 (qN qkm 11) (qc_ N):=zA fun x z h=>qmn N (x.2.1,x.2.2.1) N (x.1,x.2.2.2.1) z h
def qsE (z:List qa):TV×THp:=(.tv (.sl 19 qf) z,[])
def qbc (N:Nat) (a0:List (List qa)):Tree (List qa):=
 .bind (K8 N a0 a0 ((a0.length:Nat):Int) 0 0) fun z1=>
 .bind (VX z1.1) fun r2=>
 .sum r2 (fun r3=>
 .bind (zY [(([]:List qa).length,0)] (VZ N a0 ((a0.length:Nat):Int) [] 0)) fun z4=>
 .chk (z4.1.length=z4.1.length) <|
 .ret z4.1) fun r3=>
 .bind (zY [(([]:List qa).length,0)] (VZ N a0 ((a0.length:Nat):Int) [] 0)) fun z4=>
 .chk (z4.1.length=z4.1.length) <|
 .ret z4.1
def YQ (N:Nat) (a0:List (List qa)):Option (List qa):=(qbc N a0).run some
def qsU (N:Nat):List (Nat×qz):=[(3,qd3 N),(11,qc_ N)]
def qgP (N:Nat):Ent:=smF ⟨60,[],[.x (.sl 1 (.sl 19 qf))],[],[]⟩ [(.sl 1 (.sl 19 qf))] (List qa) (fun x=>YQ N x.1) cs1 fun _=>qsE
theorem qqZ (N:Nat):ze Tryz.prog (qgP N):=
 zc (H:=J2) (L:=qK (qsU N)) (ts:=[(.sl 1 (.sl 19 qf))]) (T:=fun x=>qbc N x.1) 0 qUM (Kz N) (qn (by kernel_rfl) ⟨qmh N,qkV N,trivial⟩) (rg0 (by kernel_rfl)) fun x=>by kernel_rfl
noncomputable def qRf:Code:=Tryz.f107.body.getD .skip
theorem qtu:FnF Tryz.prog 107 Tryz.f107 qRf:=⟨qg,by kernel_rfl,by kernel_rfl,by kernel_rfl⟩
def qrO:TH:={ live:=[(0,[0]),(1,[0,4]),(2,[2]),(3,[2])],vecs:=[5] }
def qrB (N:Nat):List Ent:=[]
theorem qoA (N:Nat):qQ Tryz.prog (qrB N):=trivial
def qfT (a0:List qc) (z:Unit):TV×THp:=(.tv (.sl 4 qo) ((([]:List qc))++a0:List qc),[])
def KV (a0:List qc):Tree (Unit):=
 .chk (List.isEmpty a0=false) <|
 .chk (jG ((([]:List qc)).length) 0 (((([]:List qc))++a0).length) 40) <|
 .chk (((([]:List qc))++a0).length=((([]:List qc))++a0).length) <|
 .ret ()
def qbT (a0:List qc):Option (Unit):=(KV a0).run some
def qqu:List (Nat×qz):=[]
theorem qnB:YJ Tryz.prog ⟨107,[],[.x (.sl 4 qo)],[],[]⟩ [(.sl 4 qo)] (fun x=>KV x.1) (fun x=>qfT x.1):=
 Xz (H:=qrO) (L:=qK (qqu)) 0 qtu (qoA 0) (qn (by kernel_rfl) trivial) (rg0 (by kernel_rfl)) fun x=>by kernel_rfl
def qoy:TH:={ live:=[(0,[0]),(1,[0,4]),(2,[2]),(3,[2])],vecs:=[5] }
def qnW (N:Nat):List Ent:=[]
theorem qk6 (N:Nat):qQ Tryz.prog (qnW N):=trivial
def qoe (z:Unit):TV×THp:=(.tv (.sl 4 qo) ([]:List qc),[])
def qdT:Tree (Unit):=
 .chk (0=0) <|
 .chk (0=0) <|
 .ret ()
def qrp:Option (Unit):=(qdT).run some
def qos:List (Nat×qz):=[]
theorem qky:YJ Tryz.prog ⟨107,[],[.k (.es 0)],[],[]⟩ [] (fun x=>qdT) (fun _=>qoe):=
 Xz (H:=qoy) (L:=qK (qos)) 0 qtu (qk6 0) (qn (by kernel_rfl) trivial) (rg0 (by kernel_rfl)) fun x=>by kernel_rfl
def qnR:TH:={ live:=[(0,[0]),(1,[0,4]),(2,[2]),(3,[2])],vecs:=[5] }
def qol (N:Nat):List Ent:=[]
theorem qkC (N:Nat):qQ Tryz.prog (qol N):=trivial
def qoq (z:Unit):TV×THp:=(.tv (.sl 4 qo) ([]:List qc),[])
def qdL:Tree (Unit):=
 .ret ()
def qqt:Option (Unit):=(qdL).run some
def qor:List (Nat×qz):=[]
theorem qlx:YJ Tryz.prog ⟨107,[],[.k (.es 1)],[],[]⟩ [] (fun x=>qdL) (fun _=>qoq):=
 Xz (H:=qnR) (L:=qK (qor)) 0 qtu (qkC 0) (qn (by kernel_rfl) trivial) (rg0 (by kernel_rfl)) fun x=>by kernel_rfl
def qdQ (z:Unit):Unit:=()
def qoG (z:Unit):Unit:=()
def Zx (a0:List qc):Option (Unit):=
 bif a0.isEmpty then
  (qrp).bind fun z0=>(qqt).bind fun z1=>chk (qdQ z0=qoG z1) (some (qdQ z0))
 else qbT a0
def qe6:Ent:=smF ⟨107,[],[.x (.sl 4 qo)],[],[]⟩ [(.sl 4 qo)] (Unit) (fun x=>Zx x.1) cs1 fun x=>qfT x.1
theorem qot:ze Tryz.prog (qe6):=qd5 fun x z h l=>by
 obtain ⟨a0,_⟩:=x
 replace h:Zx a0=some z:=h
 unfold Zx at h
 rcases qim h with ⟨e,h2⟩ | ⟨_,h2⟩<;>clear h
 ·have e:=List.isEmpty_iff.1 e
  subst e
  obtain ⟨z0,c0,h2⟩:=bind_some h2
  obtain ⟨z1,c1,h2⟩:=bind_some h2
  obtain ⟨hE,h2⟩:=Yn h2
  obtain rfl:=Option.some.inj h2
  refine qif (t:=(.sl 4 qo)) (x:=[]) rfl (TV.ers []) (TV.ers []) (by exact qky (()) _ c0 l) ?_
  rw [hE]
  exact (by exact qlx (()) _ c1 l)
 ·exact qnB (a0,()) z h2 l
noncomputable def qUZ:Code:=Tryz.f61.body.getD .skip
theorem qVl:FnF Tryz.prog 61 Tryz.f61 qUZ:=⟨qg,by kernel_rfl,by kernel_rfl,by kernel_rfl⟩
def qOm:TH:={ live:=[(0,[1,2]),(1,[1,2]),(2,[2])],nil:=[(0,[⟨.ob 20 [2],25,(.sl 4 qo)⟩])] }
def qOq (N:Nat):List Ent:=[qe6]
theorem qI7 (N:Nat):qQ Tryz.prog (qOq N):=⟨qot,trivial⟩
def qNr (a0:qa) (z:Unit):TV×THp:=(.tv qf (qa.mk (qa.ID a0) (qa.qB a0) ((([]:List qc))++(qa.F a0))),[])
def qkd (a0:qa):Tree (Unit):=
 .bind (Zx (qa.F a0)) fun r1=>
 .ret ()
def qeO (a0:qa):Option (Unit):=(qkd a0).run some
def qNm:List (Nat×qz):=[]
def qq6:Ent:=smF ⟨61,[],[.x qf],[],[]⟩ [qf] (Unit) (fun x=>qeO x.1) cs1 fun x=>qNr x.1
theorem qxY:ze Tryz.prog (qq6):=
 zc (H:=qOm) (L:=qK (qNm)) (ts:=[qf]) (T:=fun x=>qkd x.1) 0 qVl (qI7 0) (qn (by kernel_rfl) trivial) (rg0 (by kernel_rfl)) fun x=>by kernel_rfl
noncomputable def qR6:Code:=Tryz.f219.body.getD .skip
theorem qSq:FnF Tryz.prog 219 Tryz.f219 qR6:=⟨qg,by kernel_rfl,by kernel_rfl,by kernel_rfl⟩
def qvJ:TH:={ live:=[(0,[2,3,4]),(1,[2,3,4,7]),(2,[6]),(3,[12]),(4,[6]),(5,[6])] }
def qt5 (N:Nat):List Ent:=[VD N]
theorem qqL (N:Nat):qQ Tryz.prog (qt5 N):=⟨Xi N,trivial⟩
def qux (z:Int):TV×THp:=(xi z,[])
def qbZ (N:Nat) (a0:qd) (a1:qd):Tree (Int):=
 .bind (vF N a0 a1) fun r1=>
 .cond r1 (
 .ret (-1)) <|
 .bind (vF N a1 a0) fun r2=>
 .cond r2 (
 .ret 1) <|
 .ret 0
def KY (N:Nat) (a0:qd) (a1:qd):Option (Int):=(qbZ N a0 a1).run some
def qtk (N:Nat):List (Nat×qz):=[]
def qhS (N:Nat):Ent:=smF ⟨219,[],[.x qk,.x qk,.fn 149 [] []],[],[]⟩ [qk,qk] (Int) (fun x=>KY N x.1 x.2.1) cs1 fun _=>qux
theorem qs9 (N:Nat):ze Tryz.prog (qhS N):=
 zc (H:=qvJ) (L:=qK (qtk N)) (ts:=[qk,qk]) (T:=fun x=>qbZ N x.1 x.2.1) 0 qSq (qqL N) (qn (by kernel_rfl) trivial) (rg0 (by kernel_rfl)) fun x=>by kernel_rfl
noncomputable def qP9:Code:=Tryz.f218.body.getD .skip
theorem qQ6:FnF Tryz.prog 218 Tryz.f218 qP9:=⟨qg,by kernel_rfl,by kernel_rfl,by kernel_rfl⟩
def qFq:TH:={ live:=[(0,[0,1]),(1,[2])] }
def qFM (N:Nat):List Ent:=[qhS N]
theorem qBT (N:Nat):qQ Tryz.prog (qFM N):=⟨qs9 N,trivial⟩
def qGt (a0:qe) (a1:qe) (z:Int):TV×THp:=(xi z,[(20,.cell false (.tv qx a0)),(30,.cell false (.tv qx a1))])
def qiv (N:Nat) (a0:qe) (a1:qe):Tree (Int):=
 .bind (KY N (qe.S a0) (qe.S a1)) fun r1=>
 .ret r1
def qhL (N:Nat) (a0:qe) (a1:qe):Option (Int):=(qiv N a0 a1).run some
def qFS (N:Nat):List (Nat×qz):=[]
def qsp (N:Nat):Ent:=smF ⟨218,[],[],[.k (.p 20 [] 0),.k (.p 30 [] 0)],[(20,.cell false (.x qx)),(30,.cell false (.x qx))]⟩ [qx,qx] (Int) (fun x=>qhL N x.1 x.2.1) cs1 fun x=>qGt x.1 x.2.1
theorem qEl (N:Nat):ze Tryz.prog (qsp N):=
 zc (H:=qFq) (L:=qK (qFS N)) (ts:=[qx,qx]) (T:=fun x=>qiv N x.1 x.2.1) 0 qQ6 (qBT N) (qn (by kernel_rfl) trivial) (rg0 (by kernel_rfl)) fun x=>by kernel_rfl
noncomputable def qRl:Code:=Tryz.f213.body.getD .skip
theorem qRk:FnF Tryz.prog 213 Tryz.f213 qRl:=⟨qg,by kernel_rfl,by kernel_rfl,by kernel_rfl⟩
def qO2:TH:={ live:=[(0,[2,3]),(1,[4])],dec:=[8] }
def qOv (N:Nat):List Ent:=[qbn]
theorem qG9 (N:Nat):qQ Tryz.prog (qOv N):=⟨qeM,trivial⟩
def qOZ (z:Bool):TV×THp:=(xb z,[])
def qrq (a0:Vector UInt8 32) (a1:Vector UInt8 32):Tree (Bool):=
 .cond (!(eqE (.ba 32) a0 a1)) (
 .bind (qao a0.toList a1.toList) fun r1=>
 .ret (decide (r1 < ((0:Int))))) <|
 .ret false
def qht (a0:Vector UInt8 32) (a1:Vector UInt8 32):Option (Bool):=(qrq a0 a1).run some
def qO7:List (Nat×qz):=[]
def qrN:Ent:=smF ⟨213,[],[.x (.ba 32),.x (.ba 32)],[],[]⟩ [(.ba 32),(.ba 32)] (Bool) (fun x=>qht x.1 x.2.1) cs1 fun _=>qOZ
theorem qxJ:ze Tryz.prog (qrN):=
 zc (H:=qO2) (L:=qK (qO7)) (ts:=[(.ba 32),(.ba 32)]) (T:=fun x=>qrq x.1 x.2.1) 0 qRk (qG9 0) (qn (by kernel_rfl) trivial) (rg0 (by kernel_rfl)) fun x=>by kernel_rfl
noncomputable def qTg:Code:=Tryz.f221.body.getD .skip
theorem qRc:FnF Tryz.prog 221 Tryz.f221 qTg:=⟨qg,by kernel_rfl,by kernel_rfl,by kernel_rfl⟩
def qsW:TH:={ live:=[(0,[2,3,4]),(1,[2,3,4,7]),(2,[6]),(3,[12]),(4,[6]),(5,[6])] }
def qsI (N:Nat):List Ent:=[qrN]
theorem qps (N:Nat):qQ Tryz.prog (qsI N):=⟨qxJ,trivial⟩
def qsJ (z:Int):TV×THp:=(xi z,[])
def qa9 (a0:Vector UInt8 32) (a1:Vector UInt8 32):Tree (Int):=
 .bind (qht a0 a1) fun r1=>
 .cond r1 (
 .ret (-1)) <|
 .bind (qht a1 a0) fun r2=>
 .cond r2 (
 .ret 1) <|
 .ret 0
def YU (a0:Vector UInt8 32) (a1:Vector UInt8 32):Option (Int):=(qa9 a0 a1).run some
def qs6:List (Nat×qz):=[]
def qgQ:Ent:=smF ⟨221,[],[.x (.ba 32),.x (.ba 32),.fn 213 [] []],[],[]⟩ [(.ba 32),(.ba 32)] (Int) (fun x=>YU x.1 x.2.1) cs1 fun _=>qsJ
theorem qpX:ze Tryz.prog (qgQ):=
 zc (H:=qsW) (L:=qK (qs6)) (ts:=[(.ba 32),(.ba 32)]) (T:=fun x=>qa9 x.1 x.2.1) 0 qRc (qps 0) (qn (by kernel_rfl) trivial) (rg0 (by kernel_rfl)) fun x=>by kernel_rfl
noncomputable def qRw:Code:=Tryz.f220.body.getD .skip
theorem qRv:FnF Tryz.prog 220 Tryz.f220 qRw:=⟨qg,by kernel_rfl,by kernel_rfl,by kernel_rfl⟩
def qGy:TH:={ live:=[(0,[0,1]),(1,[2])] }
def qFR (N:Nat):List Ent:=[qeB N,qgQ]
theorem qBX (N:Nat):qQ Tryz.prog (qFR N):=⟨qeX N,qpX,trivial⟩
def qFz (a0:qe) (a1:qe) (z:Int):TV×THp:=(xi z,[(20,.cell false (.tv qx a0)),(30,.cell false (.tv qx a1))])
def qiC (N:Nat) (a0:qe) (a1:qe):Tree (Int):=
 .bind (qav N (qe.V a0)) fun r1=>
 .bind (qav N (qe.V a1)) fun r2=>
 .bind (YU r1 r2) fun r3=>
 .ret r3
def qhN (N:Nat) (a0:qe) (a1:qe):Option (Int):=(qiC N a0 a1).run some
def qGD (N:Nat):List (Nat×qz):=[]
def qso (N:Nat):Ent:=smF ⟨220,[],[],[.k (.p 20 [] 0),.k (.p 30 [] 0)],[(20,.cell false (.x qx)),(30,.cell false (.x qx))]⟩ [qx,qx] (Int) (fun x=>qhN N x.1 x.2.1) cs1 fun x=>qFz x.1 x.2.1
theorem qCV (N:Nat):ze Tryz.prog (qso N):=
 zc (H:=qGy) (L:=qK (qGD N)) (ts:=[qx,qx]) (T:=fun x=>qiC N x.1 x.2.1) 0 qRv (qBX N) (qn (by kernel_rfl) trivial) (rg0 (by kernel_rfl)) fun x=>by kernel_rfl
noncomputable def qSC:Code:=Tryz.f227.body.getD .skip
theorem qPP:FnF Tryz.prog 227 Tryz.f227 qSC:=⟨qg,by kernel_rfl,by kernel_rfl,by kernel_rfl⟩
def qvx:TH:={ live:=[(0,[0]),(1,[2])] }
def quA (N:Nat):List Ent:=[]
theorem qrr (N:Nat):qQ Tryz.prog (quA N):=trivial
def qvg (a0:List UInt8) (z:Unit):TV×THp:=(xb (!decide (a0=a0)),[])
def qh6 (a0:List UInt8):Tree (Unit):=
 .ret ()
def KR (a0:List UInt8):Option (Unit):=(qh6 a0).run some
def qtO:List (Nat×qz):=[]
def qii:Ent:=smF ⟨227,[],[.x .s],[],[]⟩ [.s] (Unit) (fun x=>KR x.1) cs1 fun x=>qvg x.1
theorem qsS:ze Tryz.prog (qii):=
 zc (H:=qvx) (L:=qK (qtO)) (ts:=[.s]) (T:=fun x=>qh6 x.1) 0 qPP (qrr 0) (qn (by kernel_rfl) trivial) (rg0 (by kernel_rfl)) fun x=>by kernel_rfl
noncomputable def qRI:Code:=Tryz.f223.body.getD .skip
theorem qSo:FnF Tryz.prog 223 Tryz.f223 qRI:=⟨qg,by kernel_rfl,by kernel_rfl,by kernel_rfl⟩
def qrF:TH:={ live:=[(0,[0,1]),(1,[0,1,5]),(2,[0,1,5,6]),(3,[0,1,6,11]),(4,[12]),(5,[4]),(6,[4]),(7,[0,1,13]),(8,[4]),(9,[0,1,16]),(10,[4]),(11,[19]),(12,[4]),(13,[4])] }
def qqS (N:Nat):List Ent:=[qii]
theorem qof (N:Nat):qQ Tryz.prog (qqS N):=⟨qsS,trivial⟩
def qqK (z:Int):TV×THp:=(xi z,[])
def qac (a0:List UInt8) (a1:List UInt8):Tree (Int):=
 .bind (KR a0) fun r1=>
 .bind (KR a1) fun r2=>
 .cond (!decide (a0=a0)) (
 .cond (!decide (a1=a1)) (
 .ret 0) <|
 .ret (-1)) <|
 .cond (!decide (a1=a1)) (
 .ret 1) <|
 .cond (Op.bytesLess a0 a1) (
 .ret (-1)) <|
 .cond (!(Op.bytesLess a0 a1||decide (a0=a1))) (
 .ret 1) <|
 .ret 0
def W_ (a0:List UInt8) (a1:List UInt8):Option (Int):=(qac a0 a1).run some
def qrc:List (Nat×qz):=[]
def qge:Ent:=smF ⟨223,[],[.x .s,.x .s],[],[]⟩ [.s,.s] (Int) (fun x=>W_ x.1 x.2.1) cs1 fun _=>qqK
theorem qpa:ze Tryz.prog (qge):=
 zc (H:=qrF) (L:=qK (qrc)) (ts:=[.s,.s]) (T:=fun x=>qac x.1 x.2.1) 0 qSo (qof 0) (qn (by kernel_rfl) trivial) (rg0 (by kernel_rfl)) fun x=>by kernel_rfl
noncomputable def qQZ:Code:=Tryz.f222.body.getD .skip
theorem qQv:FnF Tryz.prog 222 Tryz.f222 qQZ:=⟨qg,by kernel_rfl,by kernel_rfl,by kernel_rfl⟩
def qGI:TH:={ live:=[(0,[0,1]),(1,[2])] }
def qFF (N:Nat):List Ent:=[qge]
theorem qAD (N:Nat):qQ Tryz.prog (qFF N):=⟨qpa,trivial⟩
def qFX (a0:qe) (a1:qe) (z:Int):TV×THp:=(xi z,[(20,.cell false (.tv qx a0)),(30,.cell false (.tv qx a1))])
def qiJ (a0:qe) (a1:qe):Tree (Int):=
 .bind (W_ (qe.V a0) (qe.V a1)) fun r1=>
 .ret r1
def qhC (a0:qe) (a1:qe):Option (Int):=(qiJ a0 a1).run some
def qFw:List (Nat×qz):=[]
def qsy:Ent:=smF ⟨222,[],[],[.k (.p 20 [] 0),.k (.p 30 [] 0)],[(20,.cell false (.x qx)),(30,.cell false (.x qx))]⟩ [qx,qx] (Int) (fun x=>qhC x.1 x.2.1) cs1 fun x=>qFX x.1 x.2.1
theorem qEh:ze Tryz.prog (qsy):=
 zc (H:=qGI) (L:=qK (qFw)) (ts:=[qx,qx]) (T:=fun x=>qiJ x.1 x.2.1) 0 qQv (qAD 0) (qn (by kernel_rfl) trivial) (rg0 (by kernel_rfl)) fun x=>by kernel_rfl
noncomputable def qfa:Code:=Tryz.f200.body.getD .skip
theorem qPJ:FnF Tryz.prog 200 Tryz.f200 qfa:=⟨qg,by kernel_rfl,by kernel_rfl,by kernel_rfl⟩
def qaW:TH:={ live:=[(0,[2,3]),(1,[5]),(2,[13,14]),(3,[13,14,15]),(4,[7,13,14]),(5,[8,13,14]),(6,[8,13,14,20]),(7,[4]),(8,[13,14]),(9,[4])] }
def qdJ (N:Nat):List Ent:=[qsp N,qso N,qsy]
theorem qas (N:Nat):qQ Tryz.prog (qdJ N):=⟨qEl N,qCV N,qEh,trivial⟩
abbrev zV:=qe×qe
abbrev z_:=Bool⊕Unit
def jd (f:zV):z_→Ex×TSt
 | .inl y=>(.ret,⟨0,24,[],[(4,xb y)],[],false,[]⟩)
 | .inr y=>(.exit 0,⟨0,24,[],[(13,.ag [.fn (.func 218) [] [.p 20 [] 0,.p 30 [] 0],.fn (.func 220) [] [.p 20 [] 0,.p 30 [] 0],.fn (.func 222) [] [.p 20 [] 0,.p 30 [] 0]]),(14,.ic .i64 3),(15,.bc false)],[(20,.cell false (.tv qx f.1)),(30,.cell false (.tv qx f.2))],false,[]⟩)
def qcP (N:Nat):List (Nat×qz):=[]
abbrev JI:=Unit
def qwI:SP:=⟨0,24,[],[(13,.ag [.fn 218 [] [.k (.p 20 [] 0),.k (.p 30 [] 0)],.fn 220 [] [.k (.p 20 [] 0),.k (.p 30 [] 0)],.fn 222 [] [.k (.p 20 [] 0),.k (.p 30 [] 0)]]),(14,.k (.ic .i64 3))],[(20,.cell false (.x qx)),(30,.cell false (.x qx))],false,[]⟩
def qjh (f:zV) (v:JI):TSt:=zH qwI [dv qx f.1,dv qx f.2]
def Xt (N:Nat) (o_3:qe) (o_3_2:qe) (v:JI):Tree (JI⊕z_):=
 .ret (.inr (.inr ()))
def qi_ (N n:Nat) (f:zV) (v:JI):Option z_:=qV (Xt N f.1 f.2) some n v
theorem qxi (N:Nat) (f:zV) (n:Nat) (v:JI) (y:z_) (h:qi_ N n f v=some y):LG Tryz.prog qaW 200 (qN qfa 3) (qjh f v) (jd f y):=
 zr qg (E:=qdJ N) (L:=qK (qcP N)) (st:=jd f) (g:=some) (R:=jd f) (qas N) (qn (by kernel_rfl) trivial) (rg0 (by kernel_rfl)) (fun v=>by kernel_rfl) (qZ (st:=jd f) fun y=>by rcases y with _ | _<;>rfl) (js0 rfl) n v y h
abbrev JA:=Unit
def qxq:SP:=⟨0,24,[],[(13,.ag [.fn 218 [] [.k (.p 20 [] 0),.k (.p 30 [] 0)],.fn 220 [] [.k (.p 20 [] 0),.k (.p 30 [] 0)],.fn 222 [] [.k (.p 20 [] 0),.k (.p 30 [] 0)]]),(14,.k (.ic .i64 2))],[(20,.cell false (.x qx)),(30,.cell false (.x qx))],false,[]⟩
def qjm (f:zV) (v:JA):TSt:=zH qxq [dv qx f.1,dv qx f.2]
abbrev qdz:=JI⊕z_
def JG (N:Nat) (o_3:qe) (o_3_2:qe) (v:JA):Tree (JA⊕qdz):=
 .chk (0≤(2:Int)∧(2:Int) < ((3:Nat):Int)) <|
 .bind (qhC o_3 o_3_2) fun r1=>
 .cond (!decide (r1=((0:Int)))) (
 .ret (.inr (.inr ((.inl (decide (r1 < ((0:Int))))))))) <|
 .ret (.inr (.inl ()))
def Xy (N n:Nat) (f:zV):qdz→Option z_
 | .inl w=>qi_ N n f w
 | .inr w=>some w
def qw7 (f:zV):qdz→Ex×TSt
 | .inl w=>(.normal,qjh f w)
 | .inr w=>jd f w
def qjb (N n:Nat) (f:zV) (v:JA):Option z_:=qV (JG N f.1 f.2) (Xy N n f) n v
theorem qxu (N:Nat) (f:zV) (n:Nat) (v:JA) (y:z_) (h:qjb N n f v=some y):LG Tryz.prog qaW 200 (qN qfa 3) (qjm f v) (jd f y):=
 zr qg (E:=qdJ N) (L:=qK (qcP N)) (st:=qw7 f) (g:=(Xy N n f)) (R:=jd f) (qas N) (qn (by kernel_rfl) trivial) (rg0 (by kernel_rfl)) (fun v=>by kernel_rfl) (fun w y h=>by
 rcases w with w | w
 ·exact qxi N f n w y h
 ·exact qZ (st:=jd f) (fun y=>by rcases y with _ | _<;>rfl) w y h
) (js0 rfl) n v y h
abbrev JH:=Unit
def qxh:SP:=⟨0,24,[],[(13,.ag [.fn 218 [] [.k (.p 20 [] 0),.k (.p 30 [] 0)],.fn 220 [] [.k (.p 20 [] 0),.k (.p 30 [] 0)],.fn 222 [] [.k (.p 20 [] 0),.k (.p 30 [] 0)]]),(14,.k (.ic .i64 1))],[(20,.cell false (.x qx)),(30,.cell false (.x qx))],false,[]⟩
def qjA (f:zV) (v:JH):TSt:=zH qxh [dv qx f.1,dv qx f.2]
abbrev qdy:=JA⊕z_
def JJ (N:Nat) (o_3:qe) (o_3_2:qe) (v:JH):Tree (JH⊕qdy):=
 .chk (0≤(1:Int)∧(1:Int) < ((3:Nat):Int)) <|
 .bind (qhN N o_3 o_3_2) fun r1=>
 .cond (!decide (r1=((0:Int)))) (
 .ret (.inr (.inr ((.inl (decide (r1 < ((0:Int))))))))) <|
 .ret (.inr (.inl ()))
def Xo (N n:Nat) (f:zV):qdy→Option z_
 | .inl w=>qjb N n f w
 | .inr w=>some w
def qwF (f:zV):qdy→Ex×TSt
 | .inl w=>(.normal,qjm f w)
 | .inr w=>jd f w
def qjc (N n:Nat) (f:zV) (v:JH):Option z_:=qV (JJ N f.1 f.2) (Xo N n f) n v
theorem qw9 (N:Nat) (f:zV) (n:Nat) (v:JH) (y:z_) (h:qjc N n f v=some y):LG Tryz.prog qaW 200 (qN qfa 3) (qjA f v) (jd f y):=
 zr qg (E:=qdJ N) (L:=qK (qcP N)) (st:=qwF f) (g:=(Xo N n f)) (R:=jd f) (qas N) (qn (by kernel_rfl) trivial) (rg0 (by kernel_rfl)) (fun v=>by kernel_rfl) (fun w y h=>by
 rcases w with w | w
 ·exact qxu N f n w y h
 ·exact qZ (st:=jd f) (fun y=>by rcases y with _ | _<;>rfl) w y h
) (js0 rfl) n v y h
abbrev Ki:=Unit
def qoN:SP:=⟨0,24,[],[(13,.ag [.fn 218 [] [.k (.p 20 [] 0),.k (.p 30 [] 0)],.fn 220 [] [.k (.p 20 [] 0),.k (.p 30 [] 0)],.fn 222 [] [.k (.p 20 [] 0),.k (.p 30 [] 0)]]),(14,.k (.ic .i64 0))],[(20,.cell false (.x qx)),(30,.cell false (.x qx))],false,[]⟩
def qCF (f:zV) (v:Ki):TSt:=zH qoN [dv qx f.1,dv qx f.2]
abbrev qgY:=JH⊕z_
def qc6 (N:Nat) (o_3:qe) (o_3_2:qe) (v:Ki):Tree (Ki⊕qgY):=
 .chk (0≤(0:Int)∧(0:Int) < ((3:Nat):Int)) <|
 .bind (qhL N o_3 o_3_2) fun r1=>
 .cond (!decide (r1=((0:Int)))) (
 .ret (.inr (.inr ((.inl (decide (r1 < ((0:Int))))))))) <|
 .ret (.inr (.inl ()))
def qg9 (N n:Nat) (f:zV):qgY→Option z_
 | .inl w=>qjc N n f w
 | .inr w=>some w
def qCR (f:zV):qgY→Ex×TSt
 | .inl w=>(.normal,qjA f w)
 | .inr w=>jd f w
def qpe (N n:Nat) (f:zV) (v:Ki):Option z_:=qV (qc6 N f.1 f.2) (qg9 N n f) n v
theorem qD4 (N:Nat) (f:zV) (n:Nat) (v:Ki) (y:z_) (h:qpe N n f v=some y):LG Tryz.prog qaW 200 (qN qfa 3) (qCF f v) (jd f y):=
 zr qg (E:=qdJ N) (L:=qK (qcP N)) (st:=qCR f) (g:=(qg9 N n f)) (R:=jd f) (qas N) (qn (by kernel_rfl) trivial) (rg0 (by kernel_rfl)) (fun v=>by kernel_rfl) (fun w y h=>by
 rcases w with w | w
 ·exact qw9 N f n w y h
 ·exact qZ (st:=jd f) (fun y=>by rcases y with _ | _<;>rfl) w y h
) (js0 rfl) n v y h
def qfV (N:Nat) (o_3:qe) (o_3_2:qe):Option z_:=qpe N N (o_3,o_3_2) ()
def qpj (N:Nat):qz:=smL qoN [qx,qx] z_ (fun x=>qfV N x.1 x.2.1) (csS cs1) fun x=>jd (x.1,x.2.1)
theorem qBV (N:Nat):jl Tryz.prog qaW 200 (qN qfa 3) (qpj N):=zA fun x z h=>qD4 N (x.1,x.2.1) N () z h
def qKL (z:Bool):TV×THp:=(xb z,[])
def qnL (N:Nat) (a0:qe) (a1:qe):Tree (Bool):=
 .bind (qfV N a0 a1) fun z1=>
 .sum z1 (fun z2=>
 .ret z2) fun z2=>
 .ret false
def qmq (N:Nat) (a0:qe) (a1:qe):Option (Bool):=(qnL N a0 a1).run some
def qKU (N:Nat):List (Nat×qz):=[(3,qpj N)]
def qxS (N:Nat):Ent:=smF ⟨200,[],[.x qx,.x qx],[],[]⟩ [qx,qx] (Bool) (fun x=>qmq N x.1 x.2.1) cs1 fun _=>qKL
theorem qJQ (N:Nat):ze Tryz.prog (qxS N):=
 zc (H:=qaW) (L:=qK (qKU N)) (ts:=[qx,qx]) (T:=fun x=>qnL N x.1 x.2.1) 0 qPJ (qas N) (qn (by kernel_rfl) ⟨qBV N,trivial⟩) (rg0 (by kernel_rfl)) fun x=>by kernel_rfl
noncomputable def qQP:Code:=Tryz.f158.body.getD .skip
theorem qQs:FnF Tryz.prog 158 Tryz.f158 qQP:=⟨qg,by kernel_rfl,by kernel_rfl,by kernel_rfl⟩
def qKx:TH:={ live:=[(0,[2,3,4]),(1,[2,3,4,7]),(2,[4]),(3,[4])] }
def qKG (N:Nat):List Ent:=[qxS N]
theorem qGC (N:Nat):qQ Tryz.prog (qKG N):=⟨qJQ N,trivial⟩
def qLr (z:qe):TV×THp:=(.tv qx z,[])
def qnJ (N:Nat) (a0:qe) (a1:qe):Tree (qe):=
 .bind (qmq N a0 a1) fun r1=>
 .cond r1 (
 .ret a1) <|
 .ret a0
def qmP (N:Nat) (a0:qe) (a1:qe):Option (qe):=(qnJ N a0 a1).run some
def qLa (N:Nat):List (Nat×qz):=[]
def qxK (N:Nat):Ent:=smF ⟨158,[],[.x qx,.x qx],[],[]⟩ [qx,qx] (qe) (fun x=>qmP N x.1 x.2.1) cs1 fun _=>qLr
theorem qJs (N:Nat):ze Tryz.prog (qxK N):=
 zc (H:=qKx) (L:=qK (qLa N)) (ts:=[qx,qx]) (T:=fun x=>qnJ N x.1 x.2.1) 0 qQs (qGC N) (qn (by kernel_rfl) trivial) (rg0 (by kernel_rfl)) fun x=>by kernel_rfl
noncomputable def qtT:Code:=Tryz.f108.body.getD .skip
theorem qRA:FnF Tryz.prog 108 Tryz.f108 qtT:=⟨qg,by kernel_rfl,by kernel_rfl,by kernel_rfl⟩
def qb2:TH:={ live:=[(0,[0,3]),(1,[0,9,10,11]),(2,[0,9,10,11,12]),(3,[0,5,9,10,11]),(4,[0,5,6,7,9,10,11]),(5,[0,5,6,9,10,11,22]),(6,[0,9,10,11]),(7,[0,9,10,11]),(8,[0,9,10,11])] }
def qic (N:Nat):List Ent:=[qxK N]
theorem qgv (N:Nat):qQ Tryz.prog (qic N):=⟨qJs N,trivial⟩
abbrev VT:=List qc×Int
abbrev QL:=Nat×List (Int×qe×Nat)×Int×Bool
def ZW (f:VT) (y:QL):Ex×TSt:=(.exit 0,⟨1,36,[250],[(0,.m 250),(9,.tv (.sl 4 qo) f.1),(10,xi f.2),(11,xi y.2.2.1),(12,xb y.2.2.2)],[(250,.map y.1 (.i .i64) qx (y.2.1:List (Int×qe×Nat)))],false,[]⟩)
def qpN (N:Nat):List (Nat×qz):=[]
abbrev Z5:=Nat×List (Int×qe×Nat)×Int
def qeR:SP:=⟨1,36,[250],[(0,.k (.m 250)),(9,.x (.sl 4 qo)),(10,.x (.i .i64)),(11,.x (.i .i64))],[(250,.map (.i .i64) qx)],false,[]⟩
def qpD (f:VT) (v:Z5):TSt:=zH qeR [dv .nat v.1,dv (K4 (.i .i64) qx) v.2.1,dv (.sl 4 qo) f.1,dv (.i .i64) f.2,dv (.i .i64) v.2.2]
def ZS (N:Nat) (s9_2:List qc) (s10_2:Int) (v:Z5):Tree (Z5⊕QL):=
 .cond (decide (v.2.2 < s10_2)) (
 .bind (zl s9_2 v.2.2) fun e1=>
 .opt (fnd (β:=qe) (.i .i64) (qc.No e1) v.2.1) (
 .chk (qw (v.2.2 + 1)) <|
 .ret (.inl ((Jc (.i .i64) (qc.No e1) (qc.C e1) v.1 v.2.1).1,(Jc (.i .i64) (qc.No e1) (qc.C e1) v.1 v.2.1).2,v.2.2 + 1))) fun e2=>
 .bind (qmP N e2.1 (qc.C e1)) fun r3=>
 .chk (qw (v.2.2 + 1)) <|
 .ret (.inl ((Jc (.i .i64) (qc.No e1) r3 v.1 v.2.1).1,(Jc (.i .i64) (qc.No e1) r3 v.1 v.2.1).2,v.2.2 + 1))) <|
 .ret (.inr (v.1,v.2.1,v.2.2,decide (v.2.2 < s10_2)))
def qe1 (N n:Nat) (f:VT) (v:Z5):Option QL:=qV (ZS N f.1 f.2) some n v
theorem qpu (N:Nat) (f:VT) (n:Nat) (v:Z5) (y:QL) (h:qe1 N n f v=some y):LG Tryz.prog qb2 108 (qN qtT 2) (qpD f v) (ZW f y):=
 zr qg (E:=qic N) (L:=qK (qpN N)) (st:=ZW f) (g:=some) (R:=ZW f) (qgv N) (qn (by kernel_rfl) trivial) (rg0 (by kernel_rfl)) (fun v=>by kernel_rfl) (qZ (st:=ZW f) fun y=>by rfl) (js0 rfl) n v y h
def qa6 (N:Nat) (s9_2:List qc) (s10_2:Int) (o_2:Nat) (o_2_2:List (Int×qe×Nat)) (s11_2:Int):Option QL:=qe1 N N (s9_2,s10_2) (o_2,o_2_2,s11_2)
def qfc (N:Nat):qz:=smL qeR [.nat,(K4 (.i .i64) qx),(.sl 4 qo),(.i .i64),(.i .i64)] QL (fun x=>qa6 N x.2.2.1 x.2.2.2.1 x.1 x.2.1 x.2.2.2.2.1) cs1 fun x=>ZW (x.2.2.1,x.2.2.2.1)
theorem qnq (N:Nat):jl Tryz.prog qb2 108 (qN qtT 2) (qfc N):=zA fun x z h=>qpu N (x.2.2.1,x.2.2.2.1) N (x.1,x.2.1,x.2.2.2.2.1) z h
def qt7 (z:Nat×List (Int×qe×Nat)):TV×THp:=(.tup [],[(250,.map z.1 (.i .i64) qx (z.2:List (Int×qe×Nat)))])
def qbE (N:Nat) (a0:Nat) (a1:List (Int×qe×Nat)) (a2:qa):Tree (Nat×List (Int×qe×Nat)):=
 .bind (qa6 N (qa.F a2) (((qa.F a2).length:Nat):Int) a0 a1 0) fun z1=>
 .ret (z1.1,z1.2.1)
def Wo (N:Nat) (a0:Nat) (a1:List (Int×qe×Nat)) (a2:qa):Option (Nat×List (Int×qe×Nat)):=(qbE N a0 a1 a2).run some
def qtC (N:Nat):List (Nat×qz):=[(2,qfc N)]
def qhO (N:Nat):Ent:=smF ⟨108,[],[.k (.m 250),.x qf],[],[(250,.map (.i .i64) qx)]⟩ [.nat,(K4 (.i .i64) qx),qf] (Nat×List (Int×qe×Nat)) (fun x=>Wo N x.1 x.2.1 x.2.2.1) cs1 fun _=>qt7
theorem qs7 (N:Nat):ze Tryz.prog (qhO N):=
 zc (H:=qb2) (L:=qK (qtC N)) (ts:=[.nat,(K4 (.i .i64) qx),qf]) (T:=fun x=>qbE N x.1 x.2.1 x.2.2.1) 0 qRA (qgv N) (qn (by kernel_rfl) ⟨qnq N,trivial⟩) (rg0 (by kernel_rfl)) fun x=>by kernel_rfl
noncomputable def qTb:Code:=Tryz.f109.body.getD .skip
theorem qQC:FnF Tryz.prog 109 Tryz.f109 qTb:=⟨qg,by kernel_rfl,by kernel_rfl,by kernel_rfl⟩
def qLq:TH:={ live:=[(0,[2,3,4]),(1,[2,3,4,7]),(2,[4]),(3,[4])] }
def qLO (N:Nat):List Ent:=[VD N]
theorem qGo (N:Nat):qQ Tryz.prog (qLO N):=⟨Xi N,trivial⟩
def qLF (z:qd):TV×THp:=(.tv qk z,[])
def qoF (N:Nat) (a0:qd) (a1:qd):Tree (qd):=
 .bind (vF N a0 a1) fun r1=>
 .cond r1 (
 .ret a1) <|
 .ret a0
def qm_ (N:Nat) (a0:qd) (a1:qd):Option (qd):=(qoF N a0 a1).run some
def qL6 (N:Nat):List (Nat×qz):=[]
def qya (N:Nat):Ent:=smF ⟨109,[],[.x qk,.x qk],[],[]⟩ [qk,qk] (qd) (fun x=>qm_ N x.1 x.2.1) cs1 fun _=>qLF
theorem qHn (N:Nat):ze Tryz.prog (qya N):=
 zc (H:=qLq) (L:=qK (qL6 N)) (ts:=[qk,qk]) (T:=fun x=>qoF N x.1 x.2.1) 0 qQC (qGo N) (qn (by kernel_rfl) trivial) (rg0 (by kernel_rfl)) fun x=>by kernel_rfl
noncomputable def qRa:Code:=Tryz.f110.body.getD .skip
theorem qSk:FnF Tryz.prog 110 Tryz.f110 qRa:=⟨qg,by kernel_rfl,by kernel_rfl,by kernel_rfl⟩
def qpC:TH:={ live:=[(0,[2,3]),(1,[4])],esc:=true }
def qpO (N:Nat):List Ent:=[]
theorem qmc (N:Nat):qQ Tryz.prog (qpO N):=trivial
def qo8 (a0:Nat) (a1:List (Int×qe×Nat)) (a2:qd) (z:Unit):TV×THp:=(.fn (.func 159) [] [.p 100020 [] 0,.p 100030 [] 0],[(250,.map a0 (.i .i64) qx a1),(100020,.cell false (.m 250)),(100030,.cell false (.tv qk a2))])
def qfe (a0:Nat) (a1:List (Int×qe×Nat)) (a2:qd):Tree (Unit):=
 .ret ()
def qgL (a0:Nat) (a1:List (Int×qe×Nat)) (a2:qd):Option (Unit):=(qfe a0 a1 a2).run some
def qpA:List (Nat×qz):=[]
def qe4:Ent:=smF ⟨110,[],[.k (.m 250),.x qk],[],[(250,.map (.i .i64) qx)]⟩ [.nat,(K4 (.i .i64) qx),qk] (Unit) (fun x=>qgL x.1 x.2.1 x.2.2.1) cs1 fun x=>qo8 x.1 x.2.1 x.2.2.1
theorem qnS:ze Tryz.prog (qe4):=
 zc (H:=qpC) (L:=qK (qpA)) (ts:=[.nat,(K4 (.i .i64) qx),qk]) (T:=fun x=>qfe x.1 x.2.1 x.2.2.1) 0 qSk (qmc 0) (qn (by kernel_rfl) trivial) (rg0 (by kernel_rfl)) fun x=>by kernel_rfl
def qte:TH:={ live:=[(0,[2,3,4]),(1,[2,3,4,23]),(2,[4,5]),(3,[2,3,4,6]),(4,[2,3,4,6]),(5,[2,3,4,6]),(6,[4,6,7]),(7,[4,7,43]),(8,[7,8]),(10,[4,5])],dec:=[12,17],fresh:=[43] }
def qvE (N:Nat):List Ent:=[]
theorem qqO (N:Nat):qQ Tryz.prog (qvE N):=trivial
def quV (a0:List qc) (a1:List qc) (a2:Nat) (a3:List (Int×qe×Nat)) (a4:Vector UInt8 16) (a5:qd) (a6:Vector UInt8 16) (a7:qd) (a8:qd) (a9:qc) (z:Unit):TV×THp:=(.bc true,[(40,.cell false (.ag [.tv (.ba 16) a4,.tv qk a5,.v 45 a0.length])),(45,.vec false 4 (.sl 4 qo) a0),(70,.cell false (.ag [.tv (.ba 16) a6,.tv qk a7,.v 75 ((a1++[a9]).length)])),(75,.vec false 4 (.sl 4 qo) (a1++[a9]:List qc)),(250,.map a2 (.i .i64) qx a3),(50080,.loop [44] 52 [(4,.p 40 [] 0),(7,.p 70 [] 0),(43,.fn (.func 159) [] [.p 100020 [] 0,.p 100030 [] 0])] 6200008 62 .ready none 50081),(50081,.dfr true),(100020,.cell false (.m 250)),(100030,.cell false (.tv qk a8))])
def qcs (a0:List qc) (a1:List qc) (a2:Nat) (a3:List (Int×qe×Nat)) (a4:Vector UInt8 16) (a5:qd) (a6:Vector UInt8 16) (a7:qd) (a8:qd) (a9:qc):Tree (Unit):=
 .chk (jG a1.length a1.length ((a1++[a9]).length) 40) <|
 .ret ()
def KW (a0:List qc) (a1:List qc) (a2:Nat) (a3:List (Int×qe×Nat)) (a4:Vector UInt8 16) (a5:qd) (a6:Vector UInt8 16) (a7:qd) (a8:qd) (a9:qc):Option (Unit):=(qcs a0 a1 a2 a3 a4 a5 a6 a7 a8 a9).run some
def qtv:List (Nat×qz):=[]
def qik:Ent:=smR 50080 [.x qo] [(40,.cell false (.ag [.x (.ba 16),.x qk,.vs 45])),(45,.vec false 4),(70,.cell false (.ag [.x (.ba 16),.x qk,.vs 75])),(75,.vec false 4),(250,.map (.i .i64) qx),(50080,.loop [44] 52 [(4,.k (.p 40 [] 0)),(7,.k (.p 70 [] 0)),(43,.fn 159 [] [.k (.p 100020 [] 0),.k (.p 100030 [] 0)])] 6200008 62 .ready none 50081),(50081,.dfr true),(100020,.cell false (.k (.m 250))),(100030,.cell false (.x qk))] [(.sl 4 qo),(.sl 4 qo),.nat,(K4 (.i .i64) qx),(.ba 16),qk,(.ba 16),qk,qk,qo] (Unit) (fun x=>KW x.1 x.2.1 x.2.2.1 x.2.2.2.1 x.2.2.2.2.1 x.2.2.2.2.2.1 x.2.2.2.2.2.2.1 x.2.2.2.2.2.2.2.1 x.2.2.2.2.2.2.2.2.1 x.2.2.2.2.2.2.2.2.2.1) cs1 fun x=>quV x.1 x.2.1 x.2.2.1 x.2.2.2.1 x.2.2.2.2.1 x.2.2.2.2.2.1 x.2.2.2.2.2.2.1 x.2.2.2.2.2.2.2.1 x.2.2.2.2.2.2.2.2.1 x.2.2.2.2.2.2.2.2.2.1
theorem qs8:ze Tryz.prog (qik):=
 qOM (H:=qte) (L:=qK (qtv)) (ts:=[(.sl 4 qo),(.sl 4 qo),.nat,(K4 (.i .i64) qx),(.ba 16),qk,(.ba 16),qk,qk,qo]) (T:=fun x=>qcs x.1 x.2.1 x.2.2.1 x.2.2.2.1 x.2.2.2.2.1 x.2.2.2.2.2.1 x.2.2.2.2.2.2.1 x.2.2.2.2.2.2.2.1 x.2.2.2.2.2.2.2.2.1 x.2.2.2.2.2.2.2.2.2.1) (K:=62) (cid:=6200008) 2 qg (qqO 0) (by kernel_rfl) (qn (by kernel_rfl) trivial) (rg0 (by kernel_rfl)) (rg0 (by kernel_rfl)) (fun x=>by kernel_rfl) fun x=>by kernel_rfl
noncomputable def qu_:Code:=Tryz.f159.body.getD .skip
theorem qRd:FnF Tryz.prog 159 Tryz.f159 qu_:=⟨qg,by kernel_rfl,by kernel_rfl,by kernel_rfl⟩
def Wt:TH:={ live:=[(0,[0,1,2,7]),(1,[0,1,2,7,8]),(2,[0,1,2,4,7]),(3,[0,1,2,4,5,6,7]),(4,[0,1,2,7,30]),(5,[0,1,2,7])],dec:=[17,23] }
def qdn (N:Nat):List Ent:=[VD N,qik]
theorem qbp (N:Nat):qQ Tryz.prog (qdn N):=⟨Xi N,qs8,trivial⟩
abbrev ZI:=List qc×Nat×List (Int×qe×Nat)×Vector UInt8 16×qd×Vector UInt8 16×qd×qd
abbrev vd:=List qc×Int×Bool
def Qh (f:ZI) (y:vd):Ex×TSt:=(.exit 0,⟨2,32,[40,45,70,75,250,50080,50081,100020,100030],[(0,.yl 50080),(1,.p 100020 [] 0),(2,.p 100030 [] 0),(7,xi y.2.1),(8,xb y.2.2)],[(40,.cell false (.ag [.tv (.ba 16) f.2.2.2.1,.tv qk f.2.2.2.2.1,.v 45 f.1.length])),(45,.vec false 4 (.sl 4 qo) f.1),(70,.cell false (.ag [.tv (.ba 16) f.2.2.2.2.2.1,.tv qk f.2.2.2.2.2.2.1,.v 75 y.1.length])),(75,.vec false 4 (.sl 4 qo) (y.1:List qc)),(250,.map f.2.1 (.i .i64) qx f.2.2.1),(50080,.loop [44] 52 [(4,.p 40 [] 0),(7,.p 70 [] 0),(43,.fn (.func 159) [] [.p 100020 [] 0,.p 100030 [] 0])] 6200008 62 .ready none 50081),(50081,.dfr true),(100020,.cell false (.m 250)),(100030,.cell false (.tv qk f.2.2.2.2.2.2.2))],false,[]⟩)
def qiP (N:Nat):List (Nat×qz):=[]
abbrev Qj:=List qc×Int
def qaO:SP:=⟨2,32,[40,45,70,75,250,50080,50081,100020,100030],[(0,.k (.yl 50080)),(1,.k (.p 100020 [] 0)),(2,.k (.p 100030 [] 0)),(7,.x (.i .i64))],[(40,.cell false (.ag [.x (.ba 16),.x qk,.vs 45])),(45,.vec false 4),(70,.cell false (.ag [.x (.ba 16),.x qk,.vs 75])),(75,.vec false 4),(250,.map (.i .i64) qx),(50080,.loop [44] 52 [(4,.k (.p 40 [] 0)),(7,.k (.p 70 [] 0)),(43,.fn 159 [] [.k (.p 100020 [] 0),.k (.p 100030 [] 0)])] 6200008 62 .ready none 50081),(50081,.dfr true),(100020,.cell false (.k (.m 250))),(100030,.cell false (.x qk))],false,[]⟩
def qiF (f:ZI) (v:Qj):TSt:=zH qaO [dv (.sl 4 qo) f.1,dv (.sl 4 qo) v.1,dv .nat f.2.1,dv (K4 (.i .i64) qx) f.2.2.1,dv (.ba 16) f.2.2.2.1,dv qk f.2.2.2.2.1,dv (.ba 16) f.2.2.2.2.2.1,dv qk f.2.2.2.2.2.2.1,dv qk f.2.2.2.2.2.2.2,dv (.i .i64) v.2]
def ZJ (N:Nat) (o_1:List qc) (o_1_3:Nat) (o_1_4:List (Int×qe×Nat)) (o_1_5:Vector UInt8 16) (o_1_6:qd) (o_1_7:Vector UInt8 16) (o_1_8:qd) (o_1_9:qd) (v:Qj):Tree (Qj⊕vd):=
 .cond (decide (v.2 < ((8:Int)))) (
 .opt (fnd (β:=qe) (.i .i64) v.2 o_1_4) (
 .chk (qw (v.2 + 1)) <|
 .ret (.inl (v.1,v.2 + 1))) fun e1=>
 .bind (vF N o_1_9 (qe.S e1.1)) fun r2=>
 .cond r2 (
 .bind (zY [(o_1.length,o_1.length),(v.1.length,v.1.length)] (KW o_1 v.1 o_1_3 o_1_4 o_1_5 o_1_6 o_1_7 o_1_8 o_1_9 (qc.mk v.2 e1.1))) fun r3=>
 .chk (qw (v.2 + 1)) <|
 .ret (.inl (v.1++[qc.mk v.2 e1.1],v.2 + 1))) <|
 .chk (qw (v.2 + 1)) <|
 .ret (.inl (v.1,v.2 + 1))) <|
 .ret (.inr (v.1,v.2,decide (v.2 < ((8:Int)))))
def qap (N n:Nat) (f:ZI) (v:Qj):Option vd:=qV (ZJ N f.1 f.2.1 f.2.2.1 f.2.2.2.1 f.2.2.2.2.1 f.2.2.2.2.2.1 f.2.2.2.2.2.2.1 f.2.2.2.2.2.2.2) some n v
theorem qiB (N:Nat) (f:ZI) (n:Nat) (v:Qj) (y:vd) (h:qap N n f v=some y):LG Tryz.prog Wt 159 (qN qu_ 1) (qiF f v) (Qh f y):=
 zr qg (E:=qdn N) (L:=qK (qiP N)) (st:=Qh f) (g:=some) (R:=Qh f) (qbp N) (qn (by kernel_rfl) trivial) (rg0 (by kernel_rfl)) (fun v=>by kernel_rfl) (qZ (st:=Qh f) fun y=>by rfl) (js0 rfl) n v y h
def Wb (N:Nat) (o_1:List qc) (o_1_3:Nat) (o_1_4:List (Int×qe×Nat)) (o_1_5:Vector UInt8 16) (o_1_6:qd) (o_1_7:Vector UInt8 16) (o_1_8:qd) (o_1_9:qd) (o_1_2:List qc) (s7_1:Int):Option vd:=qap N N (o_1,o_1_3,o_1_4,o_1_5,o_1_6,o_1_7,o_1_8,o_1_9) (o_1_2,s7_1)
def qaQ (N:Nat):qz:=smL qaO [(.sl 4 qo),(.sl 4 qo),.nat,(K4 (.i .i64) qx),(.ba 16),qk,(.ba 16),qk,qk,(.i .i64)] vd (fun x=>Wb N x.1 x.2.2.1 x.2.2.2.1 x.2.2.2.2.1 x.2.2.2.2.2.1 x.2.2.2.2.2.2.1 x.2.2.2.2.2.2.2.1 x.2.2.2.2.2.2.2.2.1 x.2.1 x.2.2.2.2.2.2.2.2.2.1) cs1 fun x=>Qh (x.1,x.2.2.1,x.2.2.2.1,x.2.2.2.2.1,x.2.2.2.2.2.1,x.2.2.2.2.2.2.1,x.2.2.2.2.2.2.2.1,x.2.2.2.2.2.2.2.2.1)
theorem qhY (N:Nat):jl Tryz.prog Wt 159 (qN qu_ 1) (qaQ N):=zA fun x z h=>qiB N (x.1,x.2.2.1,x.2.2.2.1,x.2.2.2.2.1,x.2.2.2.2.2.1,x.2.2.2.2.2.2.1,x.2.2.2.2.2.2.2.1,x.2.2.2.2.2.2.2.2.1) N (x.2.1,x.2.2.2.2.2.2.2.2.2.1) z h
def qmg (a0:List qc) (a2:Nat) (a3:List (Int×qe×Nat)) (a4:Vector UInt8 16) (a5:qd) (a6:Vector UInt8 16) (a7:qd) (a8:qd) (z:List qc):TV×THp:=(.tup [],[(40,.cell false (.ag [.tv (.ba 16) a4,.tv qk a5,.v 45 a0.length])),(45,.vec false 4 (.sl 4 qo) a0),(70,.cell false (.ag [.tv (.ba 16) a6,.tv qk a7,.v 75 z.length])),(75,.vec false 4 (.sl 4 qo) z),(250,.map a2 (.i .i64) qx a3),(50080,.loop [44] 52 [(4,.p 40 [] 0),(7,.p 70 [] 0),(43,.fn (.func 159) [] [.p 100020 [] 0,.p 100030 [] 0])] 6200008 62 .ready none 50081),(50081,.dfr true),(100020,.cell false (.m 250)),(100030,.cell false (.tv qk a8))])
def Ww (N:Nat) (a0:List qc) (a1:List qc) (a2:Nat) (a3:List (Int×qe×Nat)) (a4:Vector UInt8 16) (a5:qd) (a6:Vector UInt8 16) (a7:qd) (a8:qd):Tree (List qc):=
 .bind (zY [(a0.length,a0.length),(a1.length,a1.length)] (Wb N a0 a2 a3 a4 a5 a6 a7 a8 a1 0)) fun z1=>
 .ret z1.1
def VY (N:Nat) (a0:List qc) (a1:List qc) (a2:Nat) (a3:List (Int×qe×Nat)) (a4:Vector UInt8 16) (a5:qd) (a6:Vector UInt8 16) (a7:qd) (a8:qd):Option (List qc):=(Ww N a0 a1 a2 a3 a4 a5 a6 a7 a8).run some
def qlZ (N:Nat):List (Nat×qz):=[(1,qaQ N)]
def qdi (N:Nat):Ent:=smF ⟨159,[],[.k (.yl 50080)],[.k (.p 100020 [] 0),.k (.p 100030 [] 0)],[(40,.cell false (.ag [.x (.ba 16),.x qk,.vs 45])),(45,.vec false 4),(70,.cell false (.ag [.x (.ba 16),.x qk,.vs 75])),(75,.vec false 4),(250,.map (.i .i64) qx),(50080,.loop [44] 52 [(4,.k (.p 40 [] 0)),(7,.k (.p 70 [] 0)),(43,.fn 159 [] [.k (.p 100020 [] 0),.k (.p 100030 [] 0)])] 6200008 62 .ready none 50081),(50081,.dfr true),(100020,.cell false (.k (.m 250))),(100030,.cell false (.x qk))]⟩ [(.sl 4 qo),(.sl 4 qo),.nat,(K4 (.i .i64) qx),(.ba 16),qk,(.ba 16),qk,qk] (List qc) (fun x=>VY N x.1 x.2.1 x.2.2.1 x.2.2.2.1 x.2.2.2.2.1 x.2.2.2.2.2.1 x.2.2.2.2.2.2.1 x.2.2.2.2.2.2.2.1 x.2.2.2.2.2.2.2.2.1) cs1 fun x=>qmg x.1 x.2.2.1 x.2.2.2.1 x.2.2.2.2.1 x.2.2.2.2.2.1 x.2.2.2.2.2.2.1 x.2.2.2.2.2.2.2.1 x.2.2.2.2.2.2.2.2.1
theorem qkF (N:Nat):ze Tryz.prog (qdi N):=
 zc (H:=Wt) (L:=qK (qlZ N)) (ts:=[(.sl 4 qo),(.sl 4 qo),.nat,(K4 (.i .i64) qx),(.ba 16),qk,(.ba 16),qk,qk]) (T:=fun x=>Ww N x.1 x.2.1 x.2.2.1 x.2.2.2.1 x.2.2.2.2.1 x.2.2.2.2.2.1 x.2.2.2.2.2.2.1 x.2.2.2.2.2.2.2.1 x.2.2.2.2.2.2.2.2.1) 1 qRd (qbp N) (qn (by kernel_rfl) ⟨qhY N,trivial⟩) (rg0 (by kernel_rfl)) fun x=>by kernel_rfl
noncomputable def qUs:Code:=Tryz.f62.body.getD .skip
theorem qVI:FnF Tryz.prog 62 Tryz.f62 qUs:=⟨qg,by kernel_rfl,by kernel_rfl,by kernel_rfl⟩
def qNY:TH:={ live:=[(0,[2,3,4]),(1,[2,3,4,23]),(2,[4,5]),(3,[2,3,4,6]),(4,[2,3,4,6]),(5,[2,3,4,6]),(6,[4,6,7]),(7,[4,7,43]),(8,[7,8]),(10,[4,5])],dec:=[12,17],fresh:=[43],nil:=[(0,[⟨.ob 40 [2],45,(.sl 4 qo)⟩]),(2,[⟨.ob 40 [2],45,(.sl 4 qo)⟩]),(6,[⟨.ob 70 [2],75,(.sl 4 qo)⟩])] }
def qOc (N:Nat):List Ent:=[qmN N,qhO N,qya N,qe4,qdi N]
theorem qHf (N:Nat):qQ Tryz.prog (qOc N):=⟨qrh N,qs7 N,qHn N,qnS,qkF N,trivial⟩
def qNu (z:qa×Bool):TV×THp:=(.tup [.tv qf (z.1:qa),xb z.2],[])
def qrS (N:Nat) (a0:qa) (a1:qa):Tree (qa×Bool):=
 .bind (qgX N a0) fun r1=>
 .cond (!r1) (
 .chk (0=0) <|
 .ret (qa.mk ((Vector.replicate 16 0)) (qd.mk 0 0) [],false)) <|
 .bind (qgX N a1) fun r2=>
 .cond (!r2) (
 .chk (0=0) <|
 .ret (qa.mk ((Vector.replicate 16 0)) (qd.mk 0 0) [],false)) <|
 .cond (!(eqE (.ba 16) (qa.ID a0) (qa.ID a1))) (
 .chk (0=0) <|
 .ret (qa.mk ((Vector.replicate 16 0)) (qd.mk 0 0) [],false)) <|
 .bind (Wo N 0 [] a0) fun r3=>
 .bind (Wo N r3.1 r3.2 a1) fun r4=>
 .bind (qm_ N (qa.qB a0) (qa.qB a1)) fun r5=>
 .bind (qgL r4.1 r4.2 r5) fun r6=>
 .bind (zY [(([]:List qc).length,0),(([]:List qc).length,0)] (VY N [] [] r4.1 r4.2 ((Vector.replicate 16 0)) (qd.mk 0 0) (qa.ID a0) r5 r5)) fun r7=>
 .chk (r7.length=r7.length) <|
 .ret (qa.mk (qa.ID a0) r5 r7,true)
def qqk (N:Nat) (a0:qa) (a1:qa):Option (qa×Bool):=(qrS N a0 a1).run some
def qNA (N:Nat):List (Nat×qz):=[]
def qAB (N:Nat):Ent:=smF ⟨62,[],[.x qf,.x qf],[],[]⟩ [qf,qf] (qa×Bool) (fun x=>qqk N x.1 x.2.1) cs1 fun _=>qNu
theorem qLd (N:Nat):ze Tryz.prog (qAB N):=
 zc (H:=qNY) (L:=qK (qNA N)) (ts:=[qf,qf]) (T:=fun x=>qrS N x.1 x.2.1) 0 qVI (qHf N) (qn (by kernel_rfl) trivial) (rgs (by kernel_rfl)) fun x=>by kernel_rfl
noncomputable def qQo:Code:=Tryz.f169.body.getD .skip
theorem qPO:FnF Tryz.prog 169 Tryz.f169 qQo:=⟨qg,by kernel_rfl,by kernel_rfl,by kernel_rfl⟩
def qw1:TH:={ live:=[(0,[0,2]),(1,[0,2,4]),(2,[0]),(3,[0,2]),(4,[0,2,8]),(5,[0,2]),(6,[0,2]),(7,[0,2,14]),(8,[0,2]),(9,[0,2]),(10,[2])] }
def qw_ (N:Nat):List Ent:=[]
theorem qsV (N:Nat):qQ Tryz.prog (qw_ N):=trivial
def qwW (z:Int):TV×THp:=(xi z,[])
def qjf (a0:Int):Tree (Int):=
 .cond (decide (((4294967296:Int))≤a0)) (
 .chk (0≤(32:Int)) <|
 .cond (decide (65536≤(Zz a0 32))) (
 .chk (0≤(16:Int)) <|
 .cond (decide (256≤(Zz (Zz a0 32) 16))) (
 .chk (0≤(8:Int)) <|
 let w1:Int:=IntKind.u8.wrap (Zz (Zz (Zz a0 32) 16) 8)
 .bind (zl qtz w1) fun e2=>
 .chk (qw ((e2.toNat:Nat):Int)) <|
 .chk (qw (((56:Int)) + ((e2.toNat:Nat):Int))) <|
 .ret (((56:Int)) + ((e2.toNat:Nat):Int))) <|
 .bind (zl qtz (IntKind.u8.wrap (Zz (Zz a0 32) 16))) fun e1=>
 .chk (qw ((e1.toNat:Nat):Int)) <|
 .chk (qw (((48:Int)) + ((e1.toNat:Nat):Int))) <|
 .ret (((48:Int)) + ((e1.toNat:Nat):Int))) <|
 .cond (decide (256≤(Zz a0 32))) (
 .chk (0≤(8:Int)) <|
 .bind (zl qtz (IntKind.u8.wrap (Zz (Zz a0 32) 8))) fun e1=>
 .chk (qw ((e1.toNat:Nat):Int)) <|
 .chk (qw (((40:Int)) + ((e1.toNat:Nat):Int))) <|
 .ret (((40:Int)) + ((e1.toNat:Nat):Int))) <|
 .bind (zl qtz (IntKind.u8.wrap (Zz a0 32))) fun e1=>
 .chk (qw ((e1.toNat:Nat):Int)) <|
 .chk (qw (((32:Int)) + ((e1.toNat:Nat):Int))) <|
 .ret (((32:Int)) + ((e1.toNat:Nat):Int))) <|
 .cond (decide (((65536:Int))≤a0)) (
 .chk (0≤(16:Int)) <|
 .cond (decide (256≤(Zz a0 16))) (
 .chk (0≤(8:Int)) <|
 .bind (zl qtz (IntKind.u8.wrap (Zz (Zz a0 16) 8))) fun e1=>
 .chk (qw ((e1.toNat:Nat):Int)) <|
 .chk (qw (((24:Int)) + ((e1.toNat:Nat):Int))) <|
 .ret (((24:Int)) + ((e1.toNat:Nat):Int))) <|
 .bind (zl qtz (IntKind.u8.wrap (Zz a0 16))) fun e1=>
 .chk (qw ((e1.toNat:Nat):Int)) <|
 .chk (qw (((16:Int)) + ((e1.toNat:Nat):Int))) <|
 .ret (((16:Int)) + ((e1.toNat:Nat):Int))) <|
 .cond (decide (((256:Int))≤a0)) (
 .chk (0≤(8:Int)) <|
 .bind (zl qtz (IntKind.u8.wrap (Zz a0 8))) fun e1=>
 .chk (qw ((e1.toNat:Nat):Int)) <|
 .chk (qw (((8:Int)) + ((e1.toNat:Nat):Int))) <|
 .ret (((8:Int)) + ((e1.toNat:Nat):Int))) <|
 .bind (zl qtz (IntKind.u8.wrap a0)) fun e1=>
 .chk (qw ((e1.toNat:Nat):Int)) <|
 .chk (qw (((0:Int)) + ((e1.toNat:Nat):Int))) <|
 .ret (((0:Int)) + ((e1.toNat:Nat):Int))
def qnc (a0:Int):Option (Int):=(qjf a0).run some
def qwC:List (Nat×qz):=[]
def qjp:Ent:=smF ⟨169,[],[.x (.i .u64)],[],[]⟩ [(.i .u64)] (Int) (fun x=>qnc x.1) cs1 fun _=>qwW
theorem quY:ze Tryz.prog (qjp):=
 zc (H:=qw1) (L:=qK (qwC)) (ts:=[(.i .u64)]) (T:=fun x=>qjf x.1) 0 qPO (qsV 0) (qn (by kernel_rfl) trivial) (rg0 (by kernel_rfl)) fun x=>by kernel_rfl
noncomputable def qS6:Code:=Tryz.f112.body.getD .skip
theorem qQA:FnF Tryz.prog 112 Tryz.f112 qS6:=⟨qg,by kernel_rfl,by kernel_rfl,by kernel_rfl⟩
def qCr:TH:={ live:=[(0,[0]),(1,[2]),(2,[2])] }
def qBv (N:Nat):List Ent:=[qjp]
theorem qxb (N:Nat):qQ Tryz.prog (qBv N):=⟨quY,trivial⟩
def qAk (z:Int):TV×THp:=(xi z,[])
def qmp (a0:Int):Tree (Int):=
 .bind (qnc a0) fun r1=>
 .ret r1
def qef (a0:Int):Option (Int):=(qmp a0).run some
def qAL:List (Nat×qz):=[]
def qmM:Ent:=smF ⟨112,[],[.x (.i .u64)],[],[]⟩ [(.i .u64)] (Int) (fun x=>qef x.1) cs1 fun _=>qAk
theorem qzP:ze Tryz.prog (qmM):=
 zc (H:=qCr) (L:=qK (qAL)) (ts:=[(.i .u64)]) (T:=fun x=>qmp x.1) 0 qQA (qxb 0) (qn (by kernel_rfl) trivial) (rg0 (by kernel_rfl)) fun x=>by kernel_rfl
noncomputable def qTB:Code:=Tryz.f64.body.getD .skip
theorem qTm:FnF Tryz.prog 64 Tryz.f64 qTB:=⟨qg,by kernel_rfl,by kernel_rfl,by kernel_rfl⟩
def qC0:TH:={ live:=[(0,[2,3]),(1,[4])] }
def qCI (N:Nat):List Ent:=[qbn]
theorem qzt (N:Nat):qQ Tryz.prog (qCI N):=⟨qeM,trivial⟩
def qDo (z:Int):TV×THp:=(xi z,[])
def qpP (a0:Vector UInt8 16) (a1:Vector UInt8 16):Tree (Int):=
 .bind (qao a0.toList a1.toList) fun r1=>
 .ret r1
def qld (a0:Vector UInt8 16) (a1:Vector UInt8 16):Option (Int):=(qpP a0 a1).run some
def qCW:List (Nat×qz):=[]
def qpr:Ent:=smF ⟨64,[],[.x (.ba 16),.x (.ba 16)],[],[]⟩ [(.ba 16),(.ba 16)] (Int) (fun x=>qld x.1 x.2.1) cs1 fun _=>qDo
theorem qA8:ze Tryz.prog (qpr):=
 zc (H:=qC0) (L:=qK (qCW)) (ts:=[(.ba 16),(.ba 16)]) (T:=fun x=>qpP x.1 x.2.1) 0 qTm (qzt 0) (qn (by kernel_rfl) trivial) (rg0 (by kernel_rfl)) fun x=>by kernel_rfl
noncomputable def qhQ:Code:=Tryz.f160.body.getD .skip
theorem qRU:FnF Tryz.prog 160 Tryz.f160 qhQ:=⟨qg,by kernel_rfl,by kernel_rfl,by kernel_rfl⟩
def jP:TH:={ live:=[(0,[0,1,2,3,8]),(1,[0,1,2,3,8,14]),(2,[0,1,2,3,8]),(3,[0,1,2,3,8,9]),(4,[0,1,2,3,8,9,34]),(5,[0,1,2,3,8,9]),(6,[0,1,2,3,8,9])],dec:=[21] }
def ZO (N:Nat):List Ent:=[qpr]
theorem Zm (N:Nat):qQ Tryz.prog (ZO N):=⟨qA8,trivial⟩
abbrev vv:=Nat×Int×Int×Int
abbrev jf:=List (Vector UInt8 16)×Int×Bool
def jx (f:vv) (y:jf):Ex×TSt:=(.exit 2,⟨1,53,[75],[(0,.v 75 f.1),(1,xi f.2.1),(2,xi f.2.2.1),(3,.fn (.func 64) [] []),(8,xi f.2.2.2),(9,xi y.2.1),(34,xb y.2.2)],[(75,.vec false 16 (.sl 16 (.ba 16)) (y.1:List (Vector UInt8 16)))],false,[]⟩)
def qcR (N:Nat):List (Nat×qz):=[]
abbrev jA:=List (Vector UInt8 16)×Int
def VL:SP:=⟨1,53,[75],[(0,.v 75),(1,.x (.i .i64)),(2,.x (.i .i64)),(3,.fn 64 [] []),(8,.x (.i .i64)),(9,.x (.i .i64))],[(75,.vec false 16)],false,[]⟩
def qcM (f:vv) (v:jA):TSt:=zH VL [dv (.sl 16 (.ba 16)) v.1,dv .nat f.1,dv (.i .i64) f.2.1,dv (.i .i64) f.2.2.1,dv (.i .i64) f.2.2.2,dv (.i .i64) v.2]
def jD (N:Nat) (s0_4:Nat) (s1_4:Int) (s2_4:Int) (s8_4:Int) (v:jA):Tree (jA⊕jf):=
 .cond (decide (s1_4 < v.2)) (
 .chk (0≤v.2∧v.2 < ((s0_4:Nat):Int)) <|
 .bind (ZN v.1 s0_4 v.2.toNat) fun e1=>
 .chk (qw (v.2 - 1)) <|
 .chk (0≤(v.2 - 1)∧(v.2 - 1) < ((s0_4:Nat):Int)) <|
 .bind (ZN v.1 s0_4 ((v.2 - 1).toNat)) fun e2=>
 .bind (qld e1 e2) fun r3=>
 .cond (decide (r3 < ((0:Int)))) (
 .chk (qw (v.2 - 1)) <|
 .chk (qw (v.2 - 1)) <|
 .chk (0≤(v.2 - 1)∧(v.2 - 1) < ((s0_4:Nat):Int)) <|
 .bind (ZN v.1 s0_4 ((v.2 - 1).toNat)) fun e4=>
 .chk (0≤v.2∧v.2 < ((s0_4:Nat):Int)) <|
 .bind (ZN v.1 s0_4 v.2.toNat) fun e5=>
 .chk (0≤v.2∧v.2 < ((s0_4:Nat):Int)) <|
 .chk (qei v.1.length s0_4 v.2.toNat) <|
 .chk (0≤(v.2 - 1)∧(v.2 - 1) < ((s0_4:Nat):Int)) <|
 .chk (qei ((v.1.set v.2.toNat e4).length) s0_4 ((v.2 - 1).toNat)) <|
 .chk (qw (v.2 - 1)) <|
 .ret (.inl ((v.1.set v.2.toNat e4).set ((v.2 - 1).toNat) e5,v.2 - 1))) <|
 .ret (.inr (v.1,v.2,decide (r3 < ((0:Int)))))) <|
 .ret (.inr (v.1,v.2,false))
def V8 (N n:Nat) (f:vv) (v:jA):Option jf:=qV (jD N f.1 f.2.1 f.2.2.1 f.2.2.2) some n v
theorem qcJ (N:Nat) (f:vv) (n:Nat) (v:jA) (y:jf) (h:V8 N n f v=some y):LG Tryz.prog jP 160 (qN (qN qhQ 1) 4) (qcM f v) (jx f y):=
 zr qg (E:=ZO N) (L:=qK (qcR N)) (st:=jx f) (g:=some) (R:=jx f) (Zm N) (qn (by kernel_rfl) trivial) (rg0 (by kernel_rfl)) (fun v=>by kernel_rfl) (qZ (st:=jx f) fun y=>by rfl) (js0 rfl) n v y h
def XO (N:Nat) (s0_4:Nat) (s1_4:Int) (s2_4:Int) (s8_4:Int) (o_4:List (Vector UInt8 16)) (s9_4:Int):Option jf:=V8 N N (s0_4,s1_4,s2_4,s8_4) (o_4,s9_4)
def VV (N:Nat):qz:=smL VL [(.sl 16 (.ba 16)),.nat,(.i .i64),(.i .i64),(.i .i64),(.i .i64)] jf (fun x=>XO N x.2.1 x.2.2.1 x.2.2.2.1 x.2.2.2.2.1 x.1 x.2.2.2.2.2.1) cs1 fun x=>jx (x.2.1,x.2.2.1,x.2.2.2.1,x.2.2.2.2.1)
theorem qci (N:Nat):jl Tryz.prog jP 160 (qN (qN qhQ 1) 4) (VV N):=zA fun x z h=>qcJ N (x.2.1,x.2.2.1,x.2.2.2.1,x.2.2.2.2.1) N (x.1,x.2.2.2.2.2.1) z h
abbrev vu:=Nat×Int×Int
abbrev je:=List (Vector UInt8 16)×Int×Bool
def jF (f:vu) (y:je):Ex×TSt:=(.exit 0,⟨1,53,[75],[(0,.v 75 f.1),(1,xi f.2.1),(2,xi f.2.2),(3,.fn (.func 64) [] []),(8,xi y.2.1),(14,xb y.2.2)],[(75,.vec false 16 (.sl 16 (.ba 16)) (y.1:List (Vector UInt8 16)))],false,[]⟩)
def qc9 (N:Nat):List (Nat×qz):=[(4,VV N)]
abbrev jw:=List (Vector UInt8 16)×Int
def V4:SP:=⟨1,53,[75],[(0,.v 75),(1,.x (.i .i64)),(2,.x (.i .i64)),(3,.fn 64 [] []),(8,.x (.i .i64))],[(75,.vec false 16)],false,[]⟩
def qc3 (f:vu) (v:jw):TSt:=zH V4 [dv (.sl 16 (.ba 16)) v.1,dv .nat f.1,dv (.i .i64) f.2.1,dv (.i .i64) f.2.2,dv (.i .i64) v.2]
def zW (N:Nat) (s0_1:Nat) (s1_1:Int) (s2_1:Int) (v:jw):Tree (jw⊕je):=
 .cond (decide (v.2 < s2_1)) (
 .bind (XO N s0_1 s1_1 s2_1 v.2 v.1 v.2) fun z1=>
 .chk (qw (v.2 + 1)) <|
 .ret (.inl (z1.1,v.2 + 1))) <|
 .ret (.inr (v.1,v.2,decide (v.2 < s2_1)))
def VK (N n:Nat) (f:vu) (v:jw):Option je:=qV (zW N f.1 f.2.1 f.2.2) some n v
theorem qc1 (N:Nat) (f:vu) (n:Nat) (v:jw) (y:je) (h:VK N n f v=some y):LG Tryz.prog jP 160 (qN qhQ 1) (qc3 f v) (jF f y):=
 zr qg (E:=ZO N) (L:=qK (qc9 N)) (st:=jF f) (g:=some) (R:=jF f) (Zm N) (qn (by kernel_rfl) ⟨qci N,trivial⟩) (rg0 (by kernel_rfl)) (fun v=>by kernel_rfl) (qZ (st:=jF f) fun y=>by rfl) (js0 rfl) n v y h
def vU (N:Nat) (s0_1:Nat) (s1_1:Int) (s2_1:Int) (o_1:List (Vector UInt8 16)) (s8_1:Int):Option je:=VK N N (s0_1,s1_1,s2_1) (o_1,s8_1)
def V5 (N:Nat):qz:=smL V4 [(.sl 16 (.ba 16)),.nat,(.i .i64),(.i .i64),(.i .i64)] je (fun x=>vU N x.2.1 x.2.2.1 x.2.2.2.1 x.1 x.2.2.2.2.1) cs1 fun x=>jF (x.2.1,x.2.2.1,x.2.2.2.1)
theorem qbG (N:Nat):jl Tryz.prog jP 160 (qN qhQ 1) (V5 N):=zA fun x z h=>qc1 N (x.2.1,x.2.2.1,x.2.2.2.1) N (x.1,x.2.2.2.2.1) z h
def qeL (z:List (Vector UInt8 16)):TV×THp:=(.tup [],[(75,.vec false 16 (.sl 16 (.ba 16)) z)])
def Qb (N:Nat) (a0:List (Vector UInt8 16)) (a1:Int) (a2:Int):Tree (List (Vector UInt8 16)):=
 .chk (qw (a1 + 1)) <|
 .bind (vU N a0.length a1 a2 a0 (a1 + 1)) fun z1=>
 .ret z1.1
def jh (N:Nat) (a0:List (Vector UInt8 16)) (a1:Int) (a2:Int):Option (List (Vector UInt8 16)):=(Qb N a0 a1 a2).run some
def qeE (N:Nat):List (Nat×qz):=[(1,V5 N)]
def X4 (N:Nat):Ent:=smF ⟨160,[],[.vs 75,.x (.i .i64),.x (.i .i64),.fn 64 [] []],[],[(75,.vec false 16)]⟩ [(.sl 16 (.ba 16)),(.i .i64),(.i .i64)] (List (Vector UInt8 16)) (fun x=>jh N x.1 x.2.1 x.2.2.1) cs1 fun _=>qeL
theorem qdF (N:Nat):ze Tryz.prog (X4 N):=
 zc (H:=jP) (L:=qK (qeE N)) (ts:=[(.sl 16 (.ba 16)),(.i .i64),(.i .i64)]) (T:=fun x=>Qb N x.1 x.2.1 x.2.2.1) 0 qRU (Zm N) (qn (by kernel_rfl) ⟨qbG N,trivial⟩) (rg0 (by kernel_rfl)) fun x=>by kernel_rfl
noncomputable def qt0:Code:=Tryz.f111.body.getD .skip
theorem qQ9:FnF Tryz.prog 111 Tryz.f111 qt0:=⟨qg,by kernel_rfl,by kernel_rfl,by kernel_rfl⟩
def Xe:TH:={ live:=[(0,[0,1,2,3,4,10]),(1,[0,1,2,3,4,10,11]),(2,[0,1,2,3,4,10,11,12]),(3,[0,1,2,3,4,10,11,12,25]),(5,[0,1,2,3,4,10,11,12,32]),(7,[0,1,2,3,4,10,11,12,39]),(8,[0,1,2,3,4,10,11,12]),(9,[0,1,2,3,4,10,11,12]),(10,[0,1,2,3,4,10,11,12,13,14]),(11,[0,1,2,3,4,10,11,12,13,14,56]),(12,[0,1,2,3,4,10,11,12,13]),(13,[0,1,2,3,4,10,11,12,13]),(14,[0,1,2,3,4,10,11,12,13,14]),(15,[0,1,2,3,4,10,11,12,13,75]),(16,[0,1,2,3,4,10,11,12,13,80]),(17,[0,1,2,3,4,10,11,12,13,97]),(18,[0,2,3,4,10,11,15]),(19,[0,1,2,3,4,10,11]),(20,[0,1,2,3,4,12,16,17]),(21,[0,1,2,3,4,11,12,16]),(22,[0,1,2,3,4,11,12,16,18,19]),(23,[0,1,2,3,4,11,16,18,19,20]),(24,[0,1,2,3,4,11,16,18,19,20,125]),(25,[0,1,2,3,4,10,11,16]),(26,[0,2,3,4,10,11,16]),(27,[0,1,2,3,4,10,11]),(28,[0,1,2,3,4,10,11,16]),(29,[0,1,3,4,10,11,16]),(30,[0,1,2,3,4,10,11])],dec:=[69,72,83],raw:=[160] }
def qaR (N:Nat):List Ent:=[X4 N]
theorem Kr (N:Nat):qQ Tryz.prog (qaR N):=⟨qdF N,trivial⟩
abbrev QN:=List (Vector UInt8 16)×Int×Int×Int
abbrev jH:=List (Vector UInt8 16)
def vC (f:QN) (y:jH):Ex×TSt:=(.ret,⟨1,148,[75],[],[(75,.vec false 16 (.sl 16 (.ba 16)) y)],false,[]⟩)
def qgF (N:Nat):List (Nat×qz):=[]
abbrev vB:=Unit
def YE:SP:=⟨1,148,[75],[(0,.vs 75),(1,.x (.i .i64)),(2,.x (.i .i64)),(3,.x (.i .i64)),(4,.fn 64 [] []),(10,.k (.bc true)),(11,.k (.bc true))],[(75,.vec false 16)],false,[]⟩
def qgG (f:QN) (v:vB):TSt:=zH YE [dv (.sl 16 (.ba 16)) f.1,dv (.i .i64) f.2.1,dv (.i .i64) f.2.2.1,dv (.i .i64) f.2.2.2]
def QM (N:Nat) (o_2:List (Vector UInt8 16)) (s1_2:Int) (s2_2:Int) (s3_2:Int) (v:vB):Tree (vB⊕jH):=
 .chk (qw (s2_2 - s1_2)) <|
 .cond (decide ((s2_2 - s1_2)≤12)) (
 .bind (zY [(o_2.length,o_2.length)] (jh N o_2 s1_2 s2_2)) fun r1=>
 .ret (.inr r1)) <|
 .cond (decide (s3_2=((0:Int)))) (
 .chk (o_2.length=o_2.length) <|
 .no) <|
 .chk (o_2.length=o_2.length) <|
 .no
def YG (N n:Nat) (f:QN) (v:vB):Option jH:=qV (QM N f.1 f.2.1 f.2.2.1 f.2.2.2) some n v
theorem qgH (N:Nat) (f:QN) (n:Nat) (v:vB) (y:jH) (h:YG N n f v=some y):LG Tryz.prog Xe 111 (qN qt0 2) (qgG f v) (vC f y):=
 zr qg (E:=qaR N) (L:=qK (qgF N)) (st:=vC f) (g:=some) (R:=vC f) (Kr N) (qn (by kernel_rfl) trivial) (rg0 (by kernel_rfl)) (fun v=>by kernel_rfl) (qZ (st:=vC f) fun y=>by rfl) (js0 rfl) n v y h
def VB (N:Nat) (o_2:List (Vector UInt8 16)) (s1_2:Int) (s2_2:Int) (s3_2:Int):Option jH:=YG N N (o_2,s1_2,s2_2,s3_2) ()
def YF (N:Nat):qz:=smL YE [(.sl 16 (.ba 16)),(.i .i64),(.i .i64),(.i .i64)] jH (fun x=>VB N x.1 x.2.1 x.2.2.1 x.2.2.2.1) cs1 fun x=>vC (x.1,x.2.1,x.2.2.1,x.2.2.2.1)
theorem qfm (N:Nat):jl Tryz.prog Xe 111 (qN qt0 2) (YF N):=zA fun x z h=>qgH N (x.1,x.2.1,x.2.2.1,x.2.2.2.1) N () z h
def qix (z:List (Vector UInt8 16)):TV×THp:=(.tup [],[(75,.vec false 16 (.sl 16 (.ba 16)) z)])
def Xd (N:Nat) (a0:List (Vector UInt8 16)) (a1:Int) (a2:Int) (a3:Int):Tree (List (Vector UInt8 16)):=
 .bind (zY [(a0.length,a0.length)] (VB N a0 a1 a2 a3)) fun z1=>
 .ret z1
def Jx (N:Nat) (a0:List (Vector UInt8 16)) (a1:Int) (a2:Int) (a3:Int):Option (List (Vector UInt8 16)):=(Xd N a0 a1 a2 a3).run some
def qiw (N:Nat):List (Nat×qz):=[(2,YF N)]
def qaP (N:Nat):Ent:=smF ⟨111,[],[.vs 75,.x (.i .i64),.x (.i .i64),.x (.i .i64),.fn 64 [] []],[],[(75,.vec false 16)]⟩ [(.sl 16 (.ba 16)),(.i .i64),(.i .i64),(.i .i64)] (List (Vector UInt8 16)) (fun x=>Jx N x.1 x.2.1 x.2.2.1 x.2.2.2.1) cs1 fun _=>qix
theorem qia (N:Nat):ze Tryz.prog (qaP N):=
 zc (H:=Xe) (L:=qK (qiw N)) (ts:=[(.sl 16 (.ba 16)),(.i .i64),(.i .i64),(.i .i64)]) (T:=fun x=>Xd N x.1 x.2.1 x.2.2.1 x.2.2.2.1) 0 qQ9 (Kr N) (qn (by kernel_rfl) ⟨qfm N,trivial⟩) (rg0 (by kernel_rfl)) fun x=>by kernel_rfl
noncomputable def qVN:Code:=Tryz.f63.body.getD .skip
theorem qUh:FnF Tryz.prog 63 Tryz.f63 qVN:=⟨qg,by kernel_rfl,by kernel_rfl,by kernel_rfl⟩
def qqQ:TH:={ live:=[(0,[0,1,4])],raw:=[111] }
def qq4 (N:Nat):List Ent:=[qmM,qaP N]
theorem qou (N:Nat):qQ Tryz.prog (qq4 N):=⟨qzP,qia N,trivial⟩
def qrC (z:List (Vector UInt8 16)):TV×THp:=(.tup [],[(75,.vec false 16 (.sl 16 (.ba 16)) z)])
def KZ (N:Nat) (a0:List (Vector UInt8 16)):Tree (List (Vector UInt8 16)):=
 let w1:Int:=IntKind.u64.wrap ((a0.length:Nat):Int)
 .bind (qef w1) fun r2=>
 .bind (zY [(a0.length,a0.length)] (Jx N a0 0 ((a0.length:Nat):Int) r2)) fun r3=>
 .ret r3
def WZ (N:Nat) (a0:List (Vector UInt8 16)):Option (List (Vector UInt8 16)):=(KZ N a0).run some
def qp0 (N:Nat):List (Nat×qz):=[]
def qfH (N:Nat):Ent:=smF ⟨63,[],[.vs 75,.fn 64 [] []],[],[(75,.vec false 16)]⟩ [(.sl 16 (.ba 16))] (List (Vector UInt8 16)) (fun x=>WZ N x.1) cs1 fun _=>qrC
theorem qpT (N:Nat):ze Tryz.prog (qfH N):=
 zc (H:=qqQ) (L:=qK (qp0 N)) (ts:=[(.sl 16 (.ba 16))]) (T:=fun x=>KZ N x.1) 0 qUh (qou N) (qn (by kernel_rfl) trivial) (rg0 (by kernel_rfl)) fun x=>by kernel_rfl
noncomputable def qlR:Code:=Tryz.f25.body.getD .skip
theorem qUU:FnF Tryz.prog 25 Tryz.f25 qlR:=⟨qg,by kernel_rfl,by kernel_rfl,by kernel_rfl⟩
def qdS:TH:={ live:=[(0,[2,3,4]),(1,[2,3,4,22]),(2,[4,5]),(3,[2,3,4,6]),(4,[2,3,4,6,7]),(5,[4,6,7,30,31,32]),(6,[4,6,7,30,31,32,33]),(7,[4,6,7,9,30,31,32]),(8,[4,6,7,9,10,11,30,31,32]),(9,[4,6,7,9,10,30,31,32,44]),(10,[4,6,7,9,30,31,32]),(11,[4,6,7,30,31,32]),(12,[4,6,7,30,31,32]),(13,[4,6,7,30,31,32]),(14,[4,6,7,67]),(15,[4,5]),(16,[4,6,7]),(17,[4,6,7,12]),(18,[4,6,12,71,72,73]),(19,[4,6,12,71,72,73,74]),(20,[4,6,12,14,71,72,73]),(21,[4,6,12,71,72,73]),(22,[4,6,12,71,72,73]),(23,[4,5])],dec:=[18],raw:=[63],nil:=[(0,[⟨.ob 40 [0],43,(.sl 19 qf)⟩]),(2,[⟨.ob 40 [0],43,(.sl 19 qf)⟩]),(4,[⟨.sl 7,75,(.sl 16 (.ba 16))⟩]),(8,[⟨.ob 100 [2],105,(.sl 4 qo)⟩]),(15,[⟨.ob 40 [0],43,(.sl 19 qf)⟩]),(17,[⟨.ob 120 [0],123,(.sl 19 qf)⟩])] }
def qnO (N:Nat):List Ent:=[KQ N,qgP N,qq6,qAB N,qfH N]
theorem qiS (N:Nat):qQ Tryz.prog (qnO N):=⟨qa0 N,qqZ N,qxY,qLd N,qpT N,trivial⟩
abbrev qcX:=List qa×List qa×Int
abbrev X1:=List (Vector UInt8 16)×Nat×List (Vector UInt8 16×qa×Nat)×Int×Bool
def Y4 (f:qcX) (y:X1):Ex×TSt:=(.exit 0,⟨0,87,[],[(4,.p 40 [] 0),(6,.m 240),(7,.v 75 y.1.length),(30,.tv (.sl 19 qf) f.2.1),(31,xi f.2.2),(32,xi y.2.2.2.1),(33,xb y.2.2.2.2)],[(40,.cell false (.ag [.v 43 f.1.length])),(43,.vec false 19 (.sl 19 qf) f.1),(75,.vec false 16 (.sl 16 (.ba 16)) (y.1:List (Vector UInt8 16))),(240,.map y.2.1 (.ba 16) qf (y.2.2.1:List (Vector UInt8 16×qa×Nat)))],false,[]⟩)
def qDM (N:Nat):List (Nat×qz):=[]
abbrev Y6:=List (Vector UInt8 16)×Nat×List (Vector UInt8 16×qa×Nat)×Int
def qoM:SP:=⟨0,87,[],[(4,.k (.p 40 [] 0)),(6,.k (.m 240)),(7,.vs 75),(30,.x (.sl 19 qf)),(31,.x (.i .i64)),(32,.x (.i .i64))],[(40,.cell false (.ag [.vs 43])),(43,.vec false 19),(75,.vec false 16),(240,.map (.ba 16) qf)],false,[]⟩
def qCU (f:qcX) (v:Y6):TSt:=zH qoM [dv (.sl 19 qf) f.1,dv (.sl 16 (.ba 16)) v.1,dv .nat v.2.1,dv (K4 (.ba 16) qf) v.2.2.1,dv (.sl 19 qf) f.2.1,dv (.i .i64) f.2.2,dv (.i .i64) v.2.2.2]
def Kc (N:Nat) (o_6:List qa) (s30_6:List qa) (s31_6:Int) (v:Y6):Tree (Y6⊕X1):=
 .cond (decide (v.2.2.2 < s31_6)) (
 .bind (zl s30_6 v.2.2.2) fun e1=>
 .opt (fnd (β:=qa) (.ba 16) (qa.ID e1) v.2.2.1) (
 .chk (jG v.1.length v.1.length ((v.1++[qa.ID e1]).length) 16) <|
 .bind (qeO e1) fun r3=>
 .chk (qw (v.2.2.2 + 1)) <|
 .ret (.inl (v.1++[qa.ID e1],(Jc (.ba 16) (qa.ID e1) (qa.mk (qa.ID e1) (qa.qB e1) ((([]:List qc))++(qa.F e1))) v.2.1 v.2.2.1).1,(Jc (.ba 16) (qa.ID e1) (qa.mk (qa.ID e1) (qa.qB e1) ((([]:List qc))++(qa.F e1))) v.2.1 v.2.2.1).2,v.2.2.2 + 1))) fun e2=>
 .bind (qqk N e2.1 e1) fun r3=>
 .chk (qw (v.2.2.2 + 1)) <|
 .ret (.inl (v.1,(Jc (.ba 16) (qa.ID e1) r3.1 v.2.1 v.2.2.1).1,(Jc (.ba 16) (qa.ID e1) r3.1 v.2.1 v.2.2.1).2,v.2.2.2 + 1))) <|
 .ret (.inr (v.1,v.2.1,v.2.2.1,v.2.2.2,decide (v.2.2.2 < s31_6)))
def qoL (N n:Nat) (f:qcX) (v:Y6):Option X1:=qV (Kc N f.1 f.2.1 f.2.2) some n v
theorem qDT (N:Nat) (f:qcX) (n:Nat) (v:Y6) (y:X1) (h:qoL N n f v=some y):LG Tryz.prog qdS 25 (qN qlR 6) (qCU f v) (Y4 f y):=
 zr qg (E:=qnO N) (L:=qK (qDM N)) (st:=Y4 f) (g:=some) (R:=Y4 f) (qiS N) (qn (by kernel_rfl) trivial) (rg0 (by kernel_rfl)) (fun v=>by kernel_rfl) (qZ (st:=Y4 f) fun y=>by rfl) (js0 rfl) n v y h
def qkA (N:Nat) (o_6:List qa) (s30_6:List qa) (s31_6:Int) (o_6_2:List (Vector UInt8 16)) (o_6_3:Nat) (o_6_4:List (Vector UInt8 16×qa×Nat)) (s32_6:Int):Option X1:=qoL N N (o_6,s30_6,s31_6) (o_6_2,o_6_3,o_6_4,s32_6)
def qpG (N:Nat):qz:=smL qoM [(.sl 19 qf),(.sl 16 (.ba 16)),.nat,(K4 (.ba 16) qf),(.sl 19 qf),(.i .i64),(.i .i64)] X1 (fun x=>qkA N x.1 x.2.2.2.2.1 x.2.2.2.2.2.1 x.2.1 x.2.2.1 x.2.2.2.1 x.2.2.2.2.2.2.1) cs1 fun x=>Y4 (x.1,x.2.2.2.2.1,x.2.2.2.2.2.1)
theorem qAg (N:Nat):jl Tryz.prog qdS 25 (qN qlR 6) (qpG N):=zA fun x z h=>qDT N (x.1,x.2.2.2.2.1,x.2.2.2.2.2.1) N (x.2.1,x.2.2.1,x.2.2.2.1,x.2.2.2.2.2.2.1) z h
abbrev qbv:=List qa×List (Vector UInt8 16)×Nat×List (Vector UInt8 16×qa×Nat)×Nat×Int
abbrev VQ:=List qa×Int×Bool
def Yh (f:qbv) (y:VQ):Ex×TSt:=(.exit 2,⟨0,87,[],[(4,.p 40 [] 0),(6,.m 240),(12,.p 120 [] 0),(71,.v 75 f.2.2.2.2.1),(72,xi f.2.2.2.2.2),(73,xi y.2.1),(74,xb y.2.2)],[(40,.cell false (.ag [.v 43 f.1.length])),(43,.vec false 19 (.sl 19 qf) f.1),(75,.vec false 16 (.sl 16 (.ba 16)) f.2.1),(120,.cell false (.ag [.v 123 y.1.length])),(123,.vec false 19 (.sl 19 qf) (y.1:List qa)),(240,.map f.2.2.1 (.ba 16) qf f.2.2.2.1)],false,[]⟩)
def qBB (N:Nat):List (Nat×qz):=[]
abbrev W8:=List qa×Int
def qm1:SP:=⟨0,87,[],[(4,.k (.p 40 [] 0)),(6,.k (.m 240)),(12,.k (.p 120 [] 0)),(71,.v 75),(72,.x (.i .i64)),(73,.x (.i .i64))],[(40,.cell false (.ag [.vs 43])),(43,.vec false 19),(75,.vec false 16),(120,.cell false (.ag [.vs 123])),(123,.vec false 19),(240,.map (.ba 16) qf)],false,[]⟩
def qBp (f:qbv) (v:W8):TSt:=zH qm1 [dv (.sl 19 qf) f.1,dv (.sl 16 (.ba 16)) f.2.1,dv (.sl 19 qf) v.1,dv .nat f.2.2.1,dv (K4 (.ba 16) qf) f.2.2.2.1,dv .nat f.2.2.2.2.1,dv (.i .i64) f.2.2.2.2.2,dv (.i .i64) v.2]
def qbl (N:Nat) (o_19:List qa) (o_19_2:List (Vector UInt8 16)) (o_19_4:Nat) (o_19_5:List (Vector UInt8 16×qa×Nat)) (s71_19:Nat) (s72_19:Int) (v:W8):Tree (W8⊕VQ):=
 .cond (decide (v.2 < s72_19)) (
 .chk (0≤v.2∧v.2 < ((s71_19:Nat):Int)) <|
 .bind (ZN o_19_2 s71_19 v.2.toNat) fun e1=>
 .opt (fnd (β:=qa) (.ba 16) e1 o_19_5) (
 .chk (jG v.1.length v.1.length ((v.1++[qa.mk ((Vector.replicate 16 0)) (qd.mk 0 0) []]).length) 56) <|
 .chk (qw (v.2 + 1)) <|
 .ret (.inl (v.1++[qa.mk ((Vector.replicate 16 0)) (qd.mk 0 0) []],v.2 + 1))) fun e2=>
 .chk (jG v.1.length v.1.length ((v.1++[e2.1]).length) 56) <|
 .chk (qw (v.2 + 1)) <|
 .ret (.inl (v.1++[e2.1],v.2 + 1))) <|
 .ret (.inr (v.1,v.2,decide (v.2 < s72_19)))
def qmY (N n:Nat) (f:qbv) (v:W8):Option VQ:=qV (qbl N f.1 f.2.1 f.2.2.1 f.2.2.2.1 f.2.2.2.2.1 f.2.2.2.2.2) some n v
theorem qCa (N:Nat) (f:qbv) (n:Nat) (v:W8) (y:VQ) (h:qmY N n f v=some y):LG Tryz.prog qdS 25 (qN qlR 19) (qBp f v) (Yh f y):=
 zr qg (E:=qnO N) (L:=qK (qBB N)) (st:=Yh f) (g:=some) (R:=Yh f) (qiS N) (qn (by kernel_rfl) trivial) (rg0 (by kernel_rfl)) (fun v=>by kernel_rfl) (qZ (st:=Yh f) fun y=>by rfl) (js0 rfl) n v y h
def qi4 (N:Nat) (o_19:List qa) (o_19_2:List (Vector UInt8 16)) (o_19_4:Nat) (o_19_5:List (Vector UInt8 16×qa×Nat)) (s71_19:Nat) (s72_19:Int) (o_19_3:List qa) (s73_19:Int):Option VQ:=qmY N N (o_19,o_19_2,o_19_4,o_19_5,s71_19,s72_19) (o_19_3,s73_19)
def qmv (N:Nat):qz:=smL qm1 [(.sl 19 qf),(.sl 16 (.ba 16)),(.sl 19 qf),.nat,(K4 (.ba 16) qf),.nat,(.i .i64),(.i .i64)] VQ (fun x=>qi4 N x.1 x.2.1 x.2.2.2.1 x.2.2.2.2.1 x.2.2.2.2.2.1 x.2.2.2.2.2.2.1 x.2.2.1 x.2.2.2.2.2.2.2.1) cs1 fun x=>Yh (x.1,x.2.1,x.2.2.2.1,x.2.2.2.2.1,x.2.2.2.2.2.1,x.2.2.2.2.2.2.1)
theorem qy5 (N:Nat):jl Tryz.prog qdS 25 (qN qlR 19) (qmv N):=zA fun x z h=>qCa N (x.1,x.2.1,x.2.2.2.1,x.2.2.2.2.1,x.2.2.2.2.2.1,x.2.2.2.2.2.2.1) N (x.2.2.1,x.2.2.2.2.2.2.2.1) z h
def qLf (z:qb×Int):TV×THp:=(.tup [.tv qi (z.1:qb),xi z.2],[])
def qhK (N:Nat) (a0:qb) (a1:qb):Tree (qb×Int):=
 .bind (We N a0) fun r1=>
 .cond (!r1) (
 .chk (0=0) <|
 .ret (qb.mk [],1)) <|
 .bind (We N a1) fun r2=>
 .cond (!r2) (
 .chk (0=0) <|
 .ret (qb.mk [],1)) <|
 .bind (YQ N [qb.R a0,qb.R a1]) fun r3=>
 .bind (zY [(([]:List qa).length,0),(([]:List (Vector UInt8 16)).length,0)] (qkA N [] r3 ((r3.length:Nat):Int) [] 0 [] 0)) fun z4=>
 .cond (decide (((10:Int)) < ((z4.1.length:Nat):Int))) (
 .chk (0=0) <|
 .ret (qb.mk [],4)) <|
 .bind (zY [(z4.1.length,z4.1.length)] (WZ N z4.1)) fun r5=>
 .bind (zY [(([]:List qa).length,0),(([]:List qa).length,0)] (qi4 N [] r5 z4.2.1 z4.2.2.1 z4.1.length ((z4.1.length:Nat):Int) [] 0)) fun z6=>
 .chk (z6.1.length=z6.1.length) <|
 .ret (qb.mk z6.1,0)
def Yi (N:Nat) (a0:qb) (a1:qb):Option (qb×Int):=(qhK N a0 a1).run some
def qKX (N:Nat):List (Nat×qz):=[(6,qpG N),(19,qmv N)]
def qoE (N:Nat):Ent:=smF ⟨25,[],[.x qi,.x qi],[],[]⟩ [qi,qi] (qb×Int) (fun x=>Yi N x.1 x.2.1) cs1 fun _=>qLf
theorem que (N:Nat):ze Tryz.prog (qoE N):=
 zc (H:=qdS) (L:=qK (qKX N)) (ts:=[qi,qi]) (T:=fun x=>qhK N x.1 x.2.1) 0 qUU (qiS N) (qn (by kernel_rfl) ⟨qAg N,qy5 N,trivial⟩) (rg0 (by kernel_rfl)) fun x=>by kernel_rfl
noncomputable def Vf:Code:=Tryz.f26.body.getD .skip
theorem qVw:FnF Tryz.prog 26 Tryz.f26 Vf:=⟨qg,by kernel_rfl,by kernel_rfl,by kernel_rfl⟩
def zT:TH:={ live:=[(0,[2,3]),(1,[2,3,5]),(2,[2,3,5,6]),(3,[2,3,5,6,17]),(4,[2,3,5,6]),(5,[2,3,5,6,7]),(6,[2,3,5,6,7,28]),(7,[2,3,5,6,7]),(8,[2,3,5,6,7]),(9,[3,5,8]),(10,[3,5,8,49]),(11,[3,5,8]),(12,[3,5,8,9]),(13,[3,5,8,9,60]),(14,[3,5,8,9]),(15,[3,5,8,9]),(16,[5,10]),(17,[5,10,11]),(18,[5,10,11,80]),(19,[5,10,11]),(20,[5,10,11]),(21,[5,10,11,12]),(22,[5,10,11,12,93]),(23,[5,10,11,12]),(24,[5,10,11,12,115]),(25,[4]),(26,[4])],dec:=[105],nil:=[(1,[⟨.sl 5,55,(.sl 1 .s)⟩]),(16,[⟨.sl 10,105,(.sl 32 (.ba 32))⟩])] }
def Qc (N:Nat):List Ent:=[qeB N]
theorem vn (N:Nat):qQ Tryz.prog (Qc N):=⟨qeX N,trivial⟩
abbrev JX:=qb×qb×Int
abbrev v8:=List (List UInt8)×Int×Bool
def Zb (f:JX) (y:v8):Ex×TSt:=(.exit 2,⟨0,116,[],[(2,.p 20 [] 0),(3,.p 30 [] 0),(5,.v 55 y.1.length),(6,xi f.2.2),(7,xi y.2.1),(28,xb y.2.2)],[(20,.cell false (.tv qi f.1)),(30,.cell false (.tv qi f.2.1)),(55,.vec false 1 (.sl 1 .s) (y.1:List (List UInt8)))],false,[]⟩)
def ql6 (N:Nat):List (Nat×qz):=[]
abbrev Zj:=List (List UInt8)×Int
def qdr:SP:=⟨0,116,[],[(2,.k (.p 20 [] 0)),(3,.k (.p 30 [] 0)),(5,.vs 55),(6,.x (.i .i64)),(7,.x (.i .i64))],[(20,.cell false (.x qi)),(30,.cell false (.x qi)),(55,.vec false 1)],false,[]⟩
def qmd (f:JX) (v:Zj):TSt:=zH qdr [dv (.sl 1 .s) v.1,dv qi f.1,dv qi f.2.1,dv (.i .i64) f.2.2,dv (.i .i64) v.2]
def Q_ (N:Nat) (o_6_2:qb) (o_6_3:qb) (s6_6:Int) (v:Zj):Tree (Zj⊕v8):=
 .bind (zl (qb.R o_6_2) s6_6) fun e1=>
 .cond (decide (v.2 < (((qa.F e1).length:Nat):Int))) (
 .bind (zl (qb.R o_6_2) s6_6) fun e2=>
 .bind (zl (qa.F e2) v.2) fun e3=>
 .chk (jG v.1.length v.1.length ((v.1++[qe.V (qc.C e3)]).length) 16) <|
 .chk (qw (v.2 + 1)) <|
 .ret (.inl (v.1++[qe.V (qc.C e3)],v.2 + 1))) <|
 .ret (.inr (v.1,v.2,decide (v.2 < (((qa.F e1).length:Nat):Int))))
def qdj (N n:Nat) (f:JX) (v:Zj):Option v8:=qV (Q_ N f.1 f.2.1 f.2.2) some n v
theorem ql8 (N:Nat) (f:JX) (n:Nat) (v:Zj) (y:v8) (h:qdj N n f v=some y):LG Tryz.prog zT 26 (qN (qN Vf 3) 6) (qmd f v) (Zb f y):=
 zr qg (E:=Qc N) (L:=qK (ql6 N)) (st:=Zb f) (g:=some) (R:=Zb f) (vn N) (qn (by kernel_rfl) trivial) (rg0 (by kernel_rfl)) (fun v=>by kernel_rfl) (qZ (st:=Zb f) fun y=>by rfl) (js0 rfl) n v y h
def V6 (N:Nat) (o_6_2:qb) (o_6_3:qb) (s6_6:Int) (o_6:List (List UInt8)) (s7_6:Int):Option v8:=qdj N N (o_6_2,o_6_3,s6_6) (o_6,s7_6)
def qdm (N:Nat):qz:=smL qdr [(.sl 1 .s),qi,qi,(.i .i64),(.i .i64)] v8 (fun x=>V6 N x.2.1 x.2.2.1 x.2.2.2.1 x.1 x.2.2.2.2.1) cs1 fun x=>Zb (x.2.1,x.2.2.1,x.2.2.2.1)
theorem qlF (N:Nat):jl Tryz.prog zT 26 (qN (qN Vf 3) 6) (qdm N):=zA fun x z h=>ql8 N (x.2.1,x.2.2.1,x.2.2.2.1) N (x.1,x.2.2.2.2.1) z h
abbrev JS:=qb×qb
abbrev v7:=List (List UInt8)×Int×Bool
def Za (f:JS) (y:v7):Ex×TSt:=(.exit 0,⟨0,116,[],[(2,.p 20 [] 0),(3,.p 30 [] 0),(5,.v 55 y.1.length),(6,xi y.2.1),(17,xb y.2.2)],[(20,.cell false (.tv qi f.1)),(30,.cell false (.tv qi f.2)),(55,.vec false 1 (.sl 1 .s) (y.1:List (List UInt8)))],false,[]⟩)
def qmi (N:Nat):List (Nat×qz):=[(6,qdm N)]
abbrev Zi:=List (List UInt8)×Int
def qdl:SP:=⟨0,116,[],[(2,.k (.p 20 [] 0)),(3,.k (.p 30 [] 0)),(5,.vs 55),(6,.x (.i .i64))],[(20,.cell false (.x qi)),(30,.cell false (.x qi)),(55,.vec false 1)],false,[]⟩
def qlX (f:JS) (v:Zi):TSt:=zH qdl [dv (.sl 1 .s) v.1,dv qi f.1,dv qi f.2,dv (.i .i64) v.2]
def JU (N:Nat) (o_3_2:qb) (o_3_3:qb) (v:Zi):Tree (Zi⊕v7):=
 .cond (decide (v.2 < (((qb.R o_3_2).length:Nat):Int))) (
 .bind (zY [(v.1.length,v.1.length)] (V6 N o_3_2 o_3_3 v.2 v.1 0)) fun z1=>
 .chk (qw (v.2 + 1)) <|
 .ret (.inl (z1.1,v.2 + 1))) <|
 .ret (.inr (v.1,v.2,decide (v.2 < (((qb.R o_3_2).length:Nat):Int))))
def qdp (N n:Nat) (f:JS) (v:Zi):Option v7:=qV (JU N f.1 f.2) some n v
theorem ql7 (N:Nat) (f:JS) (n:Nat) (v:Zi) (y:v7) (h:qdp N n f v=some y):LG Tryz.prog zT 26 (qN Vf 3) (qlX f v) (Za f y):=
 zr qg (E:=Qc N) (L:=qK (qmi N)) (st:=Za f) (g:=some) (R:=Za f) (vn N) (qn (by kernel_rfl) ⟨qlF N,trivial⟩) (rg0 (by kernel_rfl)) (fun v=>by kernel_rfl) (qZ (st:=Za f) fun y=>by rfl) (js0 rfl) n v y h
def Kl (N:Nat) (o_3_2:qb) (o_3_3:qb) (o_3:List (List UInt8)) (s6_3:Int):Option v7:=qdp N N (o_3_2,o_3_3) (o_3,s6_3)
def qdb (N:Nat):qz:=smL qdl [(.sl 1 .s),qi,qi,(.i .i64)] v7 (fun x=>Kl N x.2.1 x.2.2.1 x.1 x.2.2.2.1) cs1 fun x=>Za (x.2.1,x.2.2.1)
theorem qkU (N:Nat):jl Tryz.prog zT 26 (qN Vf 3) (qdb N):=zA fun x z h=>ql7 N (x.2.1,x.2.2.1) N (x.1,x.2.2.2.1) z h
abbrev Ji:=qb×Int
abbrev vQ:=List (List UInt8)×Int×Bool
def QP (f:Ji) (y:vQ):Ex×TSt:=(.exit 6,⟨0,116,[],[(3,.p 30 [] 0),(5,.v 55 y.1.length),(8,xi f.2),(9,xi y.2.1),(60,xb y.2.2)],[(30,.cell false (.tv qi f.1)),(55,.vec false 1 (.sl 1 .s) (y.1:List (List UInt8)))],false,[]⟩)
def qlC (N:Nat):List (Nat×qz):=[]
abbrev QV:=List (List UInt8)×Int
def qcj:SP:=⟨0,116,[],[(3,.k (.p 30 [] 0)),(5,.vs 55),(8,.x (.i .i64)),(9,.x (.i .i64))],[(30,.cell false (.x qi)),(55,.vec false 1)],false,[]⟩
def qlp (f:Ji) (v:QV):TSt:=zH qcj [dv (.sl 1 .s) v.1,dv qi f.1,dv (.i .i64) f.2,dv (.i .i64) v.2]
def qk0 (N:Nat) (o_13_2:qb) (s8_13:Int) (v:QV):Tree (QV⊕vQ):=
 .bind (zl (qb.R o_13_2) s8_13) fun e1=>
 .cond (decide (v.2 < (((qa.F e1).length:Nat):Int))) (
 .bind (zl (qb.R o_13_2) s8_13) fun e2=>
 .bind (zl (qa.F e2) v.2) fun e3=>
 .chk (jG v.1.length v.1.length ((v.1++[qe.V (qc.C e3)]).length) 16) <|
 .chk (qw (v.2 + 1)) <|
 .ret (.inl (v.1++[qe.V (qc.C e3)],v.2 + 1))) <|
 .ret (.inr (v.1,v.2,decide (v.2 < (((qa.F e1).length:Nat):Int))))
def qcz (N n:Nat) (f:Ji) (v:QV):Option vQ:=qV (qk0 N f.1 f.2) some n v
theorem qlI (N:Nat) (f:Ji) (n:Nat) (v:QV) (y:vQ) (h:qcz N n f v=some y):LG Tryz.prog zT 26 (qN (qN Vf 10) 13) (qlp f v) (QP f y):=
 zr qg (E:=Qc N) (L:=qK (qlC N)) (st:=QP f) (g:=some) (R:=QP f) (vn N) (qn (by kernel_rfl) trivial) (rg0 (by kernel_rfl)) (fun v=>by kernel_rfl) (qZ (st:=QP f) fun y=>by rfl) (js0 rfl) n v y h
def YA (N:Nat) (o_13_2:qb) (s8_13:Int) (o_13:List (List UInt8)) (s9_13:Int):Option vQ:=qcz N N (o_13_2,s8_13) (o_13,s9_13)
def qbC (N:Nat):qz:=smL qcj [(.sl 1 .s),qi,(.i .i64),(.i .i64)] vQ (fun x=>YA N x.2.1 x.2.2.1 x.1 x.2.2.2.1) cs1 fun x=>QP (x.2.1,x.2.2.1)
theorem qjS (N:Nat):jl Tryz.prog zT 26 (qN (qN Vf 10) 13) (qbC N):=zA fun x z h=>qlI N (x.2.1,x.2.2.1) N (x.1,x.2.2.2.1) z h
abbrev Jt:=qb
abbrev vN:=List (List UInt8)×Int×Bool
def QO (f:Jt) (y:vN):Ex×TSt:=(.exit 4,⟨0,116,[],[(3,.p 30 [] 0),(5,.v 55 y.1.length),(8,xi y.2.1),(49,xb y.2.2)],[(30,.cell false (.tv qi f)),(55,.vec false 1 (.sl 1 .s) (y.1:List (List UInt8)))],false,[]⟩)
def qkp (N:Nat):List (Nat×qz):=[(13,qbC N)]
abbrev QW:=List (List UInt8)×Int
def qck:SP:=⟨0,116,[],[(3,.k (.p 30 [] 0)),(5,.vs 55),(8,.x (.i .i64))],[(30,.cell false (.x qi)),(55,.vec false 1)],false,[]⟩
def qle (f:Jt) (v:QW):TSt:=zH qck [dv (.sl 1 .s) v.1,dv qi f,dv (.i .i64) v.2]
def QQ (N:Nat) (o_10_2:qb) (v:QW):Tree (QW⊕vN):=
 .cond (decide (v.2 < (((qb.R o_10_2).length:Nat):Int))) (
 .bind (zY [(v.1.length,v.1.length)] (YA N o_10_2 v.2 v.1 0)) fun z1=>
 .chk (qw (v.2 + 1)) <|
 .ret (.inl (z1.1,v.2 + 1))) <|
 .ret (.inr (v.1,v.2,decide (v.2 < (((qb.R o_10_2).length:Nat):Int))))
def qbJ (N n:Nat) (f:Jt) (v:QW):Option vN:=qV (QQ N f) some n v
theorem qkt (N:Nat) (f:Jt) (n:Nat) (v:QW) (y:vN) (h:qbJ N n f v=some y):LG Tryz.prog zT 26 (qN Vf 10) (qle f v) (QO f y):=
 zr qg (E:=Qc N) (L:=qK (qkp N)) (st:=QO f) (g:=some) (R:=QO f) (vn N) (qn (by kernel_rfl) ⟨qjS N,trivial⟩) (rg0 (by kernel_rfl)) (fun v=>by kernel_rfl) (qZ (st:=QO f) fun y=>by rfl) (js0 rfl) n v y h
def Vy (N:Nat) (o_10_2:qb) (o_10:List (List UInt8)) (s8_10:Int):Option vN:=qbJ N N o_10_2 (o_10,s8_10)
def qbU (N:Nat):qz:=smL qck [(.sl 1 .s),qi,(.i .i64)] vN (fun x=>Vy N x.2.1 x.1 x.2.2.1) cs1 fun x=>QO x.2.1
theorem qj9 (N:Nat):jl Tryz.prog zT 26 (qN Vf 10) (qbU N):=zA fun x z h=>qkt N x.2.1 N (x.1,x.2.2.1) z h
abbrev Ju:=List (List UInt8)×List (Vector UInt8 32)×Int
abbrev vI:=Unit⊕(Int×Bool)
def QU (f:Ju):vI→Ex×TSt
 | .inl y=>(.ret,⟨0,116,[],[(4,.bc true)],[],false,[]⟩)
 | .inr y=>(.exit 10,⟨0,116,[],[(5,.v 55 f.1.length),(10,.v 105 f.2.1.length),(11,xi f.2.2),(12,xi y.1),(93,xb y.2)],[(55,.vec false 1 (.sl 1 .s) f.1),(105,.vec false 32 (.sl 32 (.ba 32)) f.2.1)],false,[]⟩)
def qkQ (N:Nat):List (Nat×qz):=[]
abbrev QS:=Int
def qbN:SP:=⟨0,116,[],[(5,.vs 55),(10,.vs 105),(11,.x (.i .i64)),(12,.x (.i .i64))],[(55,.vec false 1),(105,.vec false 32)],false,[]⟩
def qlJ (f:Ju) (v:QS):TSt:=zH qbN [dv (.sl 1 .s) f.1,dv (.sl 32 (.ba 32)) f.2.1,dv (.i .i64) f.2.2,dv (.i .i64) v]
def Jy (N:Nat) (o_22:List (List UInt8)) (o_22_2:List (Vector UInt8 32)) (s11_22:Int) (v:QS):Tree (QS⊕vI):=
 .cond (decide (v < s11_22)) (
 .chk (0≤s11_22∧s11_22 < ((o_22.length:Nat):Int)) <|
 .bind (ZN o_22 o_22.length s11_22.toNat) fun e1=>
 .chk (0≤v∧v < ((o_22.length:Nat):Int)) <|
 .bind (ZN o_22 o_22.length v.toNat) fun e2=>
 .cond (!decide (e1=e2)) (
 .chk (0≤s11_22∧s11_22 < ((o_22_2.length:Nat):Int)) <|
 .bind (ZN o_22_2 o_22_2.length s11_22.toNat) fun e3=>
 .chk (0≤v∧v < ((o_22_2.length:Nat):Int)) <|
 .bind (ZN o_22_2 o_22_2.length v.toNat) fun e4=>
 .cond (eqE (.ba 32) e3 e4) (
 .ret (.inr (.inl ()))) <|
 .chk (qw (v + 1)) <|
 .ret (.inl (v + 1))) <|
 .chk (qw (v + 1)) <|
 .ret (.inl (v + 1))) <|
 .ret (.inr (.inr ((v,decide (v < s11_22)))))
def qb6 (N n:Nat) (f:Ju) (v:QS):Option vI:=qV (Jy N f.1 f.2.1 f.2.2) some n v
theorem qlK (N:Nat) (f:Ju) (n:Nat) (v:QS) (y:vI) (h:qb6 N n f v=some y):LG Tryz.prog zT 26 (qN (qN Vf 18) 22) (qlJ f v) (QU f y):=
 zr qg (E:=Qc N) (L:=qK (qkQ N)) (st:=QU f) (g:=some) (R:=QU f) (vn N) (qn (by kernel_rfl) trivial) (rg0 (by kernel_rfl)) (fun v=>by kernel_rfl) (qZ (st:=QU f) fun y=>by rcases y with _ | _<;>rfl) (js0 rfl) n v y h
def Yl (N:Nat) (o_22:List (List UInt8)) (o_22_2:List (Vector UInt8 32)) (s11_22:Int) (s12_22:Int):Option vI:=qb6 N N (o_22,o_22_2,s11_22) s12_22
def qcd (N:Nat):qz:=smL qbN [(.sl 1 .s),(.sl 32 (.ba 32)),(.i .i64),(.i .i64)] vI (fun x=>Yl N x.1 x.2.1 x.2.2.1 x.2.2.2.1) (csS cs1) fun x=>QU (x.1,x.2.1,x.2.2.1)
theorem qjL (N:Nat):jl Tryz.prog zT 26 (qN (qN Vf 18) 22) (qcd N):=zA fun x z h=>qlK N (x.1,x.2.1,x.2.2.1) N x.2.2.2.1 z h
abbrev Jg:=List (List UInt8)
abbrev vJ:=Unit⊕(List (Vector UInt8 32)×Int×Bool)
def QR (f:Jg):vJ→Ex×TSt
 | .inl y=>(.ret,⟨0,116,[],[(4,.bc true)],[],false,[]⟩)
 | .inr y=>(.exit 8,⟨0,116,[],[(5,.v 55 f.length),(10,.v 105 y.1.length),(11,xi y.2.1),(80,xb y.2.2)],[(55,.vec false 1 (.sl 1 .s) f),(105,.vec false 32 (.sl 32 (.ba 32)) (y.1:List (Vector UInt8 32)))],false,[]⟩)
def qkE (N:Nat):List (Nat×qz):=[(22,qcd N)]
abbrev QX:=List (Vector UInt8 32)×Int
def qch:SP:=⟨0,116,[],[(5,.vs 55),(10,.vs 105),(11,.x (.i .i64))],[(55,.vec false 1),(105,.vec false 32)],false,[]⟩
def qlV (f:Jg) (v:QX):TSt:=zH qch [dv (.sl 1 .s) f,dv (.sl 32 (.ba 32)) v.1,dv (.i .i64) v.2]
def Jo (N:Nat) (o_18:List (List UInt8)) (v:QX):Tree (QX⊕vJ):=
 .cond (decide (v.2 < ((o_18.length:Nat):Int))) (
 .chk (0≤v.2∧v.2 < ((o_18.length:Nat):Int)) <|
 .bind (ZN o_18 o_18.length v.2.toNat) fun e1=>
 .bind (qav N e1) fun r2=>
 .chk (jG v.1.length v.1.length ((v.1++[r2]).length) 32) <|
 .bind (zY [(o_18.length,o_18.length),((v.1++[r2]).length,(v.1++[r2]).length)] (Yl N o_18 (v.1++[r2]) v.2 0)) fun z3=>
 .sum z3 (fun z4=>
 .ret (.inr (.inl ()))) fun z4=>
 .chk (qw (v.2 + 1)) <|
 .ret (.inl (v.1++[r2],v.2 + 1))) <|
 .ret (.inr (.inr ((v.1,v.2,decide (v.2 < ((o_18.length:Nat):Int))))))
def qbH (N n:Nat) (f:Jg) (v:QX):Option vJ:=qV (Jo N f) some n v
theorem qlN (N:Nat) (f:Jg) (n:Nat) (v:QX) (y:vJ) (h:qbH N n f v=some y):LG Tryz.prog zT 26 (qN Vf 18) (qlV f v) (QR f y):=
 zr qg (E:=Qc N) (L:=qK (qkE N)) (st:=QR f) (g:=some) (R:=QR f) (vn N) (qn (by kernel_rfl) ⟨qjL N,trivial⟩) (rg0 (by kernel_rfl)) (fun v=>by kernel_rfl) (qZ (st:=QR f) fun y=>by rcases y with _ | _<;>rfl) (js0 rfl) n v y h
def Yu (N:Nat) (o_18:List (List UInt8)) (o_18_2:List (Vector UInt8 32)) (s11_18:Int):Option vJ:=qbH N N o_18 (o_18_2,s11_18)
def qbS (N:Nat):qz:=smL qch [(.sl 1 .s),(.sl 32 (.ba 32)),(.i .i64)] vJ (fun x=>Yu N x.1 x.2.1 x.2.2.1) (csS cs1) fun x=>QR x.1
theorem qjO (N:Nat):jl Tryz.prog zT 26 (qN Vf 18) (qbS N):=zA fun x z h=>qlN N x.1 N (x.2.1,x.2.2.1) z h
def qqo (z:Bool):TV×THp:=(xb z,[])
def K1 (N:Nat) (a0:qb) (a1:qb):Tree (Bool):=
 .bind (zY [(([]:List (List UInt8)).length,0)] (Kl N a0 a1 [] 0)) fun z1=>
 .bind (zY [(z1.1.length,z1.1.length)] (Vy N a1 z1.1 0)) fun z2=>
 .bind (zY [(z2.1.length,z2.1.length),(([]:List (Vector UInt8 32)).length,0)] (Yu N z2.1 [] 0)) fun z3=>
 .sum z3 (fun z4=>
 .ret true) fun z4=>
 .ret false
def WN (N:Nat) (a0:qb) (a1:qb):Option (Bool):=(K1 N a0 a1).run some
def qqj (N:Nat):List (Nat×qz):=[(3,qdb N),(10,qbU N),(18,qbS N)]
def qgh (N:Nat):Ent:=smF ⟨26,[],[.x qi,.x qi],[],[]⟩ [qi,qi] (Bool) (fun x=>WN N x.1 x.2.1) cs1 fun _=>qqo
theorem qoU (N:Nat):ze Tryz.prog (qgh N):=
 zc (H:=zT) (L:=qK (qqj N)) (ts:=[qi,qi]) (T:=fun x=>K1 N x.1 x.2.1) 0 qVw (vn N) (qn (by kernel_rfl) ⟨qkU N,qj9 N,qjO N,trivial⟩) (rg0 (by kernel_rfl)) fun x=>by kernel_rfl
noncomputable def qRY:Code:=Tryz.f226.body.getD .skip
theorem qQK:FnF Tryz.prog 226 Tryz.f226 qRY:=⟨qg,by kernel_rfl,by kernel_rfl,by kernel_rfl⟩
def qwG:TH:={ live:=[(0,[0]),(1,[0,4]),(2,[2]),(3,[2])] }
def qxs (N:Nat):List Ent:=[]
theorem qsD (N:Nat):qQ Tryz.prog (qxs N):=trivial
def qwO (z:Int):TV×THp:=(xi z,[])
def qdC (a0:Int):Tree (Int):=
 .cond (decide (a0 < ((24:Int)))) (
 .ret 0) <|
 .chk ((8:Int)≠0) <|
 .chk (qw (a0.tdiv 8)) <|
 .ret (a0.tdiv 8)
def qbq (a0:Int):Option (Int):=(qdC a0).run some
def qwS:List (Nat×qz):=[]
def qjo:Ent:=smF ⟨226,[],[.x (.i .i64)],[],[]⟩ [(.i .i64)] (Int) (fun x=>qbq x.1) cs1 fun _=>qwO
theorem quS:ze Tryz.prog (qjo):=
 zc (H:=qwG) (L:=qK (qwS)) (ts:=[(.i .i64)]) (T:=fun x=>qdC x.1) 0 qQK (qsD 0) (qn (by kernel_rfl) trivial) (rg0 (by kernel_rfl)) fun x=>by kernel_rfl
noncomputable def qRM:Code:=Tryz.f211.body.getD .skip
theorem qQt:FnF Tryz.prog 211 Tryz.f211 qRM:=⟨qg,by kernel_rfl,by kernel_rfl,by kernel_rfl⟩
def qz1:TH:={ live:=[(0,[2,3]),(1,[4])],dec:=[8,13,18,23,32,37] }
def qyB (N:Nat):List Ent:=[qjo,Vw,VD N]
theorem qtq (N:Nat):qQ Tryz.prog (qyB N):=⟨quS,VE,Xi N,trivial⟩
def qy8 (z:Bool):TV×THp:=(xb z,[])
def qeN (N:Nat) (a0:qv) (a1:qd):Tree (Bool):=
 .cond (decide (((0:Int))≤(qv.No a0))) (
 .cond (decide ((qv.No a0) < ((8:Int)))) (
 .cond (decide (((0:Int))≤(qv.Len a0))) (
 .cond (decide ((qv.Len a0)≤((200:Int)))) (
 .bind (qbq (qv.Len a0)) fun r1=>
 .cond (decide ((((qv.B a0).length:Nat):Int)=r1)) (
 .bind (VF (qv.S a0)) fun r2=>
 .cond r2 (
 .bind (vF N a1 (qv.S a0)) fun r3=>
 .ret r3) <|
 .ret false) <|
 .ret false) <|
 .ret false) <|
 .ret false) <|
 .ret false) <|
 .ret false
def qcT (N:Nat) (a0:qv) (a1:qd):Option (Bool):=(qeN N a0 a1).run some
def qyR (N:Nat):List (Nat×qz):=[]
def qkM (N:Nat):Ent:=smF ⟨211,[],[.x zg,.x qk],[],[]⟩ [zg,qk] (Bool) (fun x=>qcT N x.1 x.2.1) cs1 fun _=>qy8
theorem qxy (N:Nat):ze Tryz.prog (qkM N):=
 zc (H:=qz1) (L:=qK (qyR N)) (ts:=[zg,qk]) (T:=fun x=>qeN N x.1 x.2.1) 0 qQt (qtq N) (qn (by kernel_rfl) trivial) (rg0 (by kernel_rfl)) fun x=>by kernel_rfl
noncomputable def qtS:Code:=Tryz.f177.body.getD .skip
theorem qQW:FnF Tryz.prog 177 Tryz.f177 qtS:=⟨qg,by kernel_rfl,by kernel_rfl,by kernel_rfl⟩
def qgs:TH:={ live:=[(0,[1]),(1,[1,6,7,8]),(2,[1,6,7,8,9]),(3,[1,3,4,6,7,8]),(4,[1,6,7,8,33]),(5,[2]),(6,[1,6,7,8]),(7,[2])],dec:=[18,21,38,43] }
def qnh (N:Nat):List Ent:=[qkM N,Vw]
theorem qjj (N:Nat):qQ Tryz.prog (qnh N):=⟨qxy N,VE,trivial⟩
abbrev Yd:=qp×List qv×Int
abbrev Z1:=Unit⊕(Int×Bool)
def VG (f:Yd):Z1→Ex×TSt
 | .inl y=>(.ret,⟨0,50,[],[(2,.bc false)],[],false,[]⟩)
 | .inr y=>(.exit 0,⟨0,50,[],[(1,.p 10 [] 0),(6,.tv (.sl 37 zg) f.2.1),(7,xi f.2.2),(8,xi y.1),(9,xb y.2)],[(10,.cell false (.tv qW f.1))],false,[]⟩)
def quh (N:Nat):List (Nat×qz):=[]
abbrev VA:=Int
def qih:SP:=⟨0,50,[],[(1,.k (.p 10 [] 0)),(6,.x (.sl 37 zg)),(7,.x (.i .i64)),(8,.x (.i .i64))],[(10,.cell false (.x qW))],false,[]⟩
def qvy (f:Yd) (v:VA):TSt:=zH qih [dv qW f.1,dv (.sl 37 zg) f.2.1,dv (.i .i64) f.2.2,dv (.i .i64) v]
def W4 (N:Nat) (o_2:qp) (s6_2:List qv) (s7_2:Int) (v:VA):Tree (VA⊕Z1):=
 .cond (decide (v < s7_2)) (
 .bind (zl s6_2 v) fun e1=>
 .bind (qcT N e1 (qp.qB o_2)) fun r2=>
 .cond (!r2) (
 .ret (.inr (.inl ()))) <|
 .cond (decide (((0:Int)) < v)) (
 .chk (qw (v - 1)) <|
 .bind (zl (qp.F o_2) (v - 1)) fun e3=>
 .cond (decide ((qv.No e1)≤(qv.No e3))) (
 .ret (.inr (.inl ()))) <|
 .chk (qw (v + 1)) <|
 .ret (.inl (v + 1))) <|
 .chk (qw (v + 1)) <|
 .ret (.inl (v + 1))) <|
 .ret (.inr (.inr ((v,decide (v < s7_2)))))
def qhX (N n:Nat) (f:Yd) (v:VA):Option Z1:=qV (W4 N f.1 f.2.1 f.2.2) some n v
theorem qu1 (N:Nat) (f:Yd) (n:Nat) (v:VA) (y:Z1) (h:qhX N n f v=some y):LG Tryz.prog qgs 177 (qN qtS 2) (qvy f v) (VG f y):=
 zr qg (E:=qnh N) (L:=qK (quh N)) (st:=VG f) (g:=some) (R:=VG f) (qjj N) (qn (by kernel_rfl) trivial) (rg0 (by kernel_rfl)) (fun v=>by kernel_rfl) (qZ (st:=VG f) fun y=>by rcases y with _ | _<;>rfl) (js0 rfl) n v y h
def qeG (N:Nat) (o_2:qp) (s6_2:List qv) (s7_2:Int) (s8_2:Int):Option Z1:=qhX N N (o_2,s6_2,s7_2) s8_2
def qio (N:Nat):qz:=smL qih [qW,(.sl 37 zg),(.i .i64),(.i .i64)] Z1 (fun x=>qeG N x.1 x.2.1 x.2.2.1 x.2.2.2.1) (csS cs1) fun x=>VG (x.1,x.2.1,x.2.2.1)
theorem qsY (N:Nat):jl Tryz.prog qgs 177 (qN qtS 2) (qio N):=zA fun x z h=>qu1 N (x.1,x.2.1,x.2.2.1) N x.2.2.2.1 z h
def qCm (z:Bool):TV×THp:=(xb z,[])
def qf_ (N:Nat) (a0:qp):Tree (Bool):=
 .bind (qeG N a0 (qp.F a0) (((qp.F a0).length:Nat):Int) 0) fun z1=>
 .sum z1 (fun z2=>
 .ret false) fun z2=>
 .bind (VF (qp.qB a0)) fun r3=>
 .cond r3 (
 .cond (decide (((0:Int)) < (((qp.F a0).length:Nat):Int))) (
 .ret true) <|
 .ret (!(eqE qk (qp.qB a0) (qd.mk 0 0)))) <|
 .ret false
def qek (N:Nat) (a0:qp):Option (Bool):=(qf_ N a0).run some
def qBr (N:Nat):List (Nat×qz):=[(2,qio N)]
def qmt (N:Nat):Ent:=smF ⟨177,[],[.x qW],[],[]⟩ [qW] (Bool) (fun x=>qek N x.1) cs1 fun _=>qCm
theorem qyJ (N:Nat):ze Tryz.prog (qmt N):=
 zc (H:=qgs) (L:=qK (qBr N)) (ts:=[qW]) (T:=fun x=>qf_ N x.1) 0 qQW (qjj N) (qn (by kernel_rfl) ⟨qsY N,trivial⟩) (rg0 (by kernel_rfl)) fun x=>by kernel_rfl
noncomputable def qt9:Code:=Tryz.f124.body.getD .skip
theorem qSS:FnF Tryz.prog 124 Tryz.f124 qt9:=⟨qg,by kernel_rfl,by kernel_rfl,by kernel_rfl⟩
def qhc:TH:={ live:=[(0,[1]),(1,[1,6,7,8]),(2,[1,6,7,8,9]),(3,[1,3,4,6,7,8]),(4,[1,6,7,8,32]),(5,[2]),(6,[1,6,7,8]),(7,[2])],dec:=[16,19] }
def qph (N:Nat):List Ent:=[qmt N,qod]
theorem qkD (N:Nat):qQ Tryz.prog (qph N):=⟨qyJ N,qtQ,trivial⟩
abbrev YS:=qt×List qp×Int
abbrev JC:=Unit⊕(Int×Bool)
def Xq (f:YS):JC→Ex×TSt
 | .inl y=>(.ret,⟨0,38,[],[(2,.bc false)],[],false,[]⟩)
 | .inr y=>(.exit 0,⟨0,38,[],[(1,.p 10 [] 0),(6,.tv (.sl 19 qW) f.2.1),(7,xi f.2.2),(8,xi y.1),(9,xb y.2)],[(10,.cell false (.tv qH f.1))],false,[]⟩)
def qwY (N:Nat):List (Nat×qz):=[]
abbrev Xp:=Int
def qja:SP:=⟨0,38,[],[(1,.k (.p 10 [] 0)),(6,.x (.sl 19 qW)),(7,.x (.i .i64)),(8,.x (.i .i64))],[(10,.cell false (.x qH))],false,[]⟩
def qwZ (f:YS) (v:Xp):TSt:=zH qja [dv qH f.1,dv (.sl 19 qW) f.2.1,dv (.i .i64) f.2.2,dv (.i .i64) v]
def YI (N:Nat) (o_2:qt) (s6_2:List qp) (s7_2:Int) (v:Xp):Tree (Xp⊕JC):=
 .cond (decide (v < s7_2)) (
 .bind (zl s6_2 v) fun e1=>
 .bind (qek N e1) fun r2=>
 .cond (!r2) (
 .ret (.inr (.inl ()))) <|
 .cond (decide (((0:Int)) < v)) (
 .chk (qw (v - 1)) <|
 .bind (zl (qt.L o_2) (v - 1)) fun e3=>
 .bind (qig (qp.ID e3) (qp.ID e1)) fun r4=>
 .cond (!r4) (
 .ret (.inr (.inl ()))) <|
 .chk (qw (v + 1)) <|
 .ret (.inl (v + 1))) <|
 .chk (qw (v + 1)) <|
 .ret (.inl (v + 1))) <|
 .ret (.inr (.inr ((v,decide (v < s7_2)))))
def qjl (N n:Nat) (f:YS) (v:Xp):Option JC:=qV (YI N f.1 f.2.1 f.2.2) some n v
theorem qxp (N:Nat) (f:YS) (n:Nat) (v:Xp) (y:JC) (h:qjl N n f v=some y):LG Tryz.prog qhc 124 (qN qt9 2) (qwZ f v) (Xq f y):=
 zr qg (E:=qph N) (L:=qK (qwY N)) (st:=Xq f) (g:=some) (R:=Xq f) (qkD N) (qn (by kernel_rfl) trivial) (rg0 (by kernel_rfl)) (fun v=>by kernel_rfl) (qZ (st:=Xq f) fun y=>by rcases y with _ | _<;>rfl) (js0 rfl) n v y h
def qfi (N:Nat) (o_2:qt) (s6_2:List qp) (s7_2:Int) (s8_2:Int):Option JC:=qjl N N (o_2,s6_2,s7_2) s8_2
def qjx (N:Nat):qz:=smL qja [qH,(.sl 19 qW),(.i .i64),(.i .i64)] JC (fun x=>qfi N x.1 x.2.1 x.2.2.1 x.2.2.2.1) (csS cs1) fun x=>Xq (x.1,x.2.1,x.2.2.1)
theorem qtw (N:Nat):jl Tryz.prog qhc 124 (qN qt9 2) (qjx N):=zA fun x z h=>qxp N (x.1,x.2.1,x.2.2.1) N x.2.2.2.1 z h
def qC1 (z:Bool):TV×THp:=(xb z,[])
def qg5 (N:Nat) (a0:qt):Tree (Bool):=
 .bind (qfi N a0 (qt.L a0) (((qt.L a0).length:Nat):Int) 0) fun z1=>
 .sum z1 (fun z2=>
 .ret false) fun z2=>
 .ret (decide ((((qt.L a0).length:Nat):Int)≤((10:Int))))
def qf2 (N:Nat) (a0:qt):Option (Bool):=(qg5 N a0).run some
def qD_ (N:Nat):List (Nat×qz):=[(2,qjx N)]
def qo3 (N:Nat):Ent:=smF ⟨124,[],[.x qH],[],[]⟩ [qH] (Bool) (fun x=>qf2 N x.1) cs1 fun _=>qC1
theorem qBP (N:Nat):ze Tryz.prog (qo3 N):=
 zc (H:=qhc) (L:=qK (qD_ N)) (ts:=[qH]) (T:=fun x=>qg5 N x.1) 0 qSS (qkD N) (qn (by kernel_rfl) ⟨qtw N,trivial⟩) (rg0 (by kernel_rfl)) fun x=>by kernel_rfl
noncomputable def qSi:Code:=Tryz.f125.body.getD .skip
theorem qRS:FnF Tryz.prog 125 Tryz.f125 qSi:=⟨qg,by kernel_rfl,by kernel_rfl,by kernel_rfl⟩
def qIq:TH:={ live:=[(0,[2,3]),(1,[4])],esc:=true }
def qJP (N:Nat):List Ent:=[]
theorem qDF (N:Nat):qQ Tryz.prog (qJP N):=trivial
def qIu (a0:qb) (a1:qt) (z:Unit):TV×THp:=(.fn (.func 178) [] [.p 100020 [] 0,.p 100030 [] 0],[(100020,.cell false (.tv qi a0)),(100030,.cell false (.tv qH a1))])
def quI (a0:qb) (a1:qt):Tree (Unit):=
 .ret ()
def qqD (a0:qb) (a1:qt):Option (Unit):=(quI a0 a1).run some
def qI4:List (Nat×qz):=[]
def qum:Ent:=smF ⟨125,[],[.x qi,.x qH],[],[]⟩ [qi,qH] (Unit) (fun x=>qqD x.1 x.2.1) cs1 fun x=>qIu x.1 x.2.1
theorem qGe:ze Tryz.prog (qum):=
 zc (H:=qIq) (L:=qK (qI4)) (ts:=[qi,qH]) (T:=fun x=>quI x.1 x.2.1) 0 qRS (qDF 0) (qn (by kernel_rfl) trivial) (rg0 (by kernel_rfl)) fun x=>by kernel_rfl
noncomputable def qSW:Code:=Tryz.f187.body.getD .skip
theorem qQN:FnF Tryz.prog 187 Tryz.f187 qSW:=⟨qg,by kernel_rfl,by kernel_rfl,by kernel_rfl⟩
def qxz:TH:={ live:=[(0,[1,2]),(1,[3])] }
def qwT (N:Nat):List Ent:=[]
theorem qs5 (N:Nat):qQ Tryz.prog (qwT N):=trivial
def qxr (a0:Vector UInt8 16) (a1:qp) (z:Unit):TV×THp:=(xb (eqE (.ba 16) (qp.ID a1) a0),[(30,.cell false (.tv (.ba 16) a0))])
def qdw (a0:Vector UInt8 16) (a1:qp):Tree (Unit):=
 .ret ()
def qfE (a0:Vector UInt8 16) (a1:qp):Option (Unit):=(qdw a0 a1).run some
def qwP:List (Nat×qz):=[]
def qju:Ent:=smF ⟨187,[],[.x qW],[.k (.p 30 [] 0)],[(30,.cell false (.x (.ba 16)))]⟩ [(.ba 16),qW] (Unit) (fun x=>qfE x.1 x.2.1) cs1 fun x=>qxr x.1 x.2.1
theorem qtF:ze Tryz.prog (qju):=
 zc (H:=qxz) (L:=qK (qwP)) (ts:=[(.ba 16),qW]) (T:=fun x=>qdw x.1 x.2.1) 0 qQN (qs5 0) (qn (by kernel_rfl) trivial) (rg0 (by kernel_rfl)) fun x=>by kernel_rfl
noncomputable def quD:Code:=Tryz.f186.body.getD .skip
theorem qSt:FnF Tryz.prog 186 Tryz.f186 quD:=⟨qg,by kernel_rfl,by kernel_rfl,by kernel_rfl⟩
def Wu:TH:={ live:=[(0,[0,1]),(1,[0,1,7,8]),(2,[0,1,7,8,9]),(3,[0,1,5,7,8]),(4,[0,1,5,7,8,16]),(5,[4]),(6,[0,1,7,8]),(7,[4])] }
def qdo (N:Nat):List Ent:=[qju]
theorem qbf (N:Nat):qQ Tryz.prog (qdo N):=⟨qtF,trivial⟩
abbrev ZG:=Vector UInt8 16×List qp×Int
abbrev vb:=Int⊕(Int×Bool)
def Qi (f:ZG):vb→Ex×TSt
 | .inl y=>(.ret,⟨1,19,[30],[(4,xi y)],[(30,.cell false (.tv (.ba 16) f.1))],false,[]⟩)
 | .inr y=>(.exit 0,⟨1,19,[30],[(0,.tv (.sl 19 qW) f.2.1),(1,.fn (.func 187) [] [.p 30 [] 0]),(7,xi f.2.2),(8,xi y.1),(9,xb y.2)],[(30,.cell false (.tv (.ba 16) f.1))],false,[]⟩)
def qiL (N:Nat):List (Nat×qz):=[]
abbrev Ql:=Int
def qaN:SP:=⟨1,19,[30],[(0,.x (.sl 19 qW)),(1,.fn 187 [] [.k (.p 30 [] 0)]),(7,.x (.i .i64)),(8,.x (.i .i64))],[(30,.cell false (.x (.ba 16)))],false,[]⟩
def qiR (f:ZG) (v:Ql):TSt:=zH qaN [dv (.ba 16) f.1,dv (.sl 19 qW) f.2.1,dv (.i .i64) f.2.2,dv (.i .i64) v]
def Qg (N:Nat) (o_2:Vector UInt8 16) (s0_2:List qp) (s7_2:Int) (v:Ql):Tree (Ql⊕vb):=
 .cond (decide (v < s7_2)) (
 .bind (zl s0_2 v) fun e1=>
 .bind (qfE o_2 e1) fun r2=>
 .cond (eqE (.ba 16) (qp.ID e1) o_2) (
 .ret (.inr (.inl v))) <|
 .chk (qw (v + 1)) <|
 .ret (.inl (v + 1))) <|
 .ret (.inr (.inr ((v,decide (v < s7_2)))))
def qaD (N n:Nat) (f:ZG) (v:Ql):Option vb:=qV (Qg N f.1 f.2.1 f.2.2) some n v
theorem qi6 (N:Nat) (f:ZG) (n:Nat) (v:Ql) (y:vb) (h:qaD N n f v=some y):LG Tryz.prog Wu 186 (qN quD 2) (qiR f v) (Qi f y):=
 zr qg (E:=qdo N) (L:=qK (qiL N)) (st:=Qi f) (g:=some) (R:=Qi f) (qbf N) (qn (by kernel_rfl) trivial) (rg0 (by kernel_rfl)) (fun v=>by kernel_rfl) (qZ (st:=Qi f) fun y=>by rcases y with _ | _<;>rfl) (js0 rfl) n v y h
def Wm (N:Nat) (o_2:Vector UInt8 16) (s0_2:List qp) (s7_2:Int) (s8_2:Int):Option vb:=qaD N N (o_2,s0_2,s7_2) s8_2
def qat (N:Nat):qz:=smL qaN [(.ba 16),(.sl 19 qW),(.i .i64),(.i .i64)] vb (fun x=>Wm N x.1 x.2.1 x.2.2.1 x.2.2.2.1) (csS cs1) fun x=>Qi (x.1,x.2.1,x.2.2.1)
theorem qh9 (N:Nat):jl Tryz.prog Wu 186 (qN quD 2) (qat N):=zA fun x z h=>qi6 N (x.1,x.2.1,x.2.2.1) N x.2.2.2.1 z h
def qmf (a0:Vector UInt8 16) (z:Int):TV×THp:=(xi z,[(30,.cell false (.tv (.ba 16) a0))])
def Ws (N:Nat) (a0:Vector UInt8 16) (a1:List qp):Tree (Int):=
 .bind (Wm N a0 a1 ((a1.length:Nat):Int) 0) fun z1=>
 .sum z1 (fun z2=>
 .ret z2) fun z2=>
 .ret (-1)
def VW (N:Nat) (a0:Vector UInt8 16) (a1:List qp):Option (Int):=(Ws N a0 a1).run some
def qmb (N:Nat):List (Nat×qz):=[(2,qat N)]
def qdq (N:Nat):Ent:=smF ⟨186,[],[.x (.sl 19 qW),.fn 187 [] [.k (.p 30 [] 0)]],[],[(30,.cell false (.x (.ba 16)))]⟩ [(.ba 16),(.sl 19 qW)] (Int) (fun x=>VW N x.1 x.2.1) cs1 fun x=>qmf x.1
theorem qkW (N:Nat):ze Tryz.prog (qdq N):=
 zc (H:=Wu) (L:=qK (qmb N)) (ts:=[(.ba 16),(.sl 19 qW)]) (T:=fun x=>Ws N x.1 x.2.1) 0 qSt (qbf N) (qn (by kernel_rfl) ⟨qh9 N,trivial⟩) (rg0 (by kernel_rfl)) fun x=>by kernel_rfl
noncomputable def qQa:Code:=Tryz.f215.body.getD .skip
theorem qu0:FnF Tryz.prog 215 Tryz.f215 qQa:=⟨qg,by kernel_rfl,by kernel_rfl,by kernel_rfl⟩
def qqB:TH:={ live:=[(0,[0]),(1,[0,4]),(2,[2]),(3,[2])],vecs:=[5],esc:=true }
def qp2 (N:Nat):List Ent:=[]
theorem qnl (N:Nat):qQ Tryz.prog (qp2 N):=trivial
def qfD (a0:List qv) (z:Unit):TV×THp:=(.v 100050 (((([]:List qv))++a0).length),[(100050,.vec false 37 (.sl 37 zg) ((([]:List qv))++a0:List qv))])
def KN (a0:List qv):Tree (Unit):=
 .chk (List.isEmpty a0=false) <|
 .chk (jG ((([]:List qv)).length) 0 (((([]:List qv))++a0).length) 88) <|
 .ret ()
def qcc (a0:List qv):Option (Unit):=(KN a0).run some
def qqJ:List (Nat×qz):=[]
theorem qnp:YJ Tryz.prog ⟨215,[],[.x (.sl 37 zg)],[],[]⟩ [(.sl 37 zg)] (fun x=>KN x.1) (fun x=>qfD x.1):=
 Xz (H:=qqB) (L:=qK (qqJ)) 0 qu0 (qnl 0) (qn (by kernel_rfl) trivial) (rg0 (by kernel_rfl)) fun x=>by kernel_rfl
def qn5:TH:={ live:=[(0,[0]),(1,[0,4]),(2,[2]),(3,[2])],vecs:=[5],esc:=true }
def qok (N:Nat):List Ent:=[]
theorem qkB (N:Nat):qQ Tryz.prog (qok N):=trivial
def qnD (z:Unit):TV×THp:=(.v 100050 0,[(100050,.vec false 37 (.sl 37 zg) ([]:List qv))])
def qd1:Tree (Unit):=
 .chk (0=0) <|
 .ret ()
def qro:Option (Unit):=(qd1).run some
def qnV:List (Nat×qz):=[]
theorem qlB:YJ Tryz.prog ⟨215,[],[.k (.es 0)],[],[]⟩ [] (fun x=>qd1) (fun _=>qnD):=
 Xz (H:=qn5) (L:=qK (qnV)) 0 qu0 (qkB 0) (qn (by kernel_rfl) trivial) (rg0 (by kernel_rfl)) fun x=>by kernel_rfl
def qn4:TH:={ live:=[(0,[0]),(1,[0,4]),(2,[2]),(3,[2])],vecs:=[5],esc:=true }
def qoB (N:Nat):List Ent:=[]
theorem qk5 (N:Nat):qQ Tryz.prog (qoB N):=trivial
def qnv (z:Unit):TV×THp:=(.nils,[])
def qdR:Tree (Unit):=
 .ret ()
def qq1:Option (Unit):=(qdR).run some
def qoi:List (Nat×qz):=[]
theorem qko:YJ Tryz.prog ⟨215,[],[.k (.es 1)],[],[]⟩ [] (fun x=>qdR) (fun _=>qnv):=
 Xz (H:=qn4) (L:=qK (qoi)) 0 qu0 (qk5 0) (qn (by kernel_rfl) trivial) (rg0 (by kernel_rfl)) fun x=>by kernel_rfl
def qdY (z:Unit):Unit:=()
def qop (z:Unit):Unit:=()
def Zw (a0:List qv):Option (Unit):=
 bif a0.isEmpty then
  (qro).bind fun z0=>(qq1).bind fun z1=>chk (qdY z0=qop z1) (some (qdY z0))
 else qcc a0
def qe5:Ent:=smF ⟨215,[],[.x (.sl 37 zg)],[],[]⟩ [(.sl 37 zg)] (Unit) (fun x=>Zw x.1) cs1 fun x=>qfD x.1
theorem qom:ze Tryz.prog (qe5):=qd5 fun x z h l=>by
 obtain ⟨a0,_⟩:=x
 replace h:Zw a0=some z:=h
 unfold Zw at h
 rcases qim h with ⟨e,h2⟩ | ⟨_,h2⟩<;>clear h
 ·have e:=List.isEmpty_iff.1 e
  subst e
  obtain ⟨z0,c0,h2⟩:=bind_some h2
  obtain ⟨z1,c1,h2⟩:=bind_some h2
  obtain ⟨hE,h2⟩:=Yn h2
  obtain rfl:=Option.some.inj h2
  refine qif (t:=(.sl 37 zg)) (x:=[]) rfl (TV.ers []) (TV.ers []) (by exact qlB (()) _ c0 l) ?_
  rw [hE]
  exact (qM9 (n:=100050) (sz:=37) (x:=qF (.sl 37 zg) ([]:List qv)) rfl (by kernel_rfl) (by kernel_rfl) (qko (()) _ c1 l))
 ·exact qnp (a0,()) z h2 l
noncomputable def qQm:Code:=Tryz.f216.body.getD .skip
theorem qu4:FnF Tryz.prog 216 Tryz.f216 qQm:=⟨qg,by kernel_rfl,by kernel_rfl,by kernel_rfl⟩
def qtE:TH:={ live:=[(0,[0]),(1,[0,4]),(2,[2]),(3,[2])],vecs:=[5] }
def qut (N:Nat):List Ent:=[]
theorem qqG (N:Nat):qQ Tryz.prog (qut N):=trivial
def qil (a0:List zm) (z:Unit):TV×THp:=(.tv (.sl 33 Qt) ((([]:List zm))++a0:List zm),[])
def qcx (a0:List zm):Tree (Unit):=
 .chk (List.isEmpty a0=false) <|
 .chk (jG ((([]:List zm)).length) 0 (((([]:List zm))++a0).length) 36) <|
 .chk (((([]:List zm))++a0).length=((([]:List zm))++a0).length) <|
 .ret ()
def qeD (a0:List zm):Option (Unit):=(qcx a0).run some
def qtf:List (Nat×qz):=[]
theorem qql:YJ Tryz.prog ⟨216,[],[.x (.sl 33 Qt)],[],[]⟩ [(.sl 33 Qt)] (fun x=>qcx x.1) (fun x=>qil x.1):=
 Xz (H:=qtE) (L:=qK (qtf)) 0 qu4 (qqG 0) (qn (by kernel_rfl) trivial) (rg0 (by kernel_rfl)) fun x=>by kernel_rfl
def qrd:TH:={ live:=[(0,[0]),(1,[0,4]),(2,[2]),(3,[2])],vecs:=[5] }
def qqV (N:Nat):List Ent:=[]
theorem qnQ (N:Nat):qQ Tryz.prog (qqV N):=trivial
def qre (z:Unit):TV×THp:=(.tv (.sl 33 Qt) ([]:List zm),[])
def qfC:Tree (Unit):=
 .chk (0=0) <|
 .chk (0=0) <|
 .ret ()
def qtn:Option (Unit):=(qfC).run some
def qq3:List (Nat×qz):=[]
theorem qny:YJ Tryz.prog ⟨216,[],[.k (.es 0)],[],[]⟩ [] (fun x=>qfC) (fun _=>qre):=
 Xz (H:=qrd) (L:=qK (qq3)) 0 qu4 (qnQ 0) (qn (by kernel_rfl) trivial) (rg0 (by kernel_rfl)) fun x=>by kernel_rfl
def qqq:TH:={ live:=[(0,[0]),(1,[0,4]),(2,[2]),(3,[2])],vecs:=[5] }
def qrj (N:Nat):List Ent:=[]
theorem qnm (N:Nat):qQ Tryz.prog (qrj N):=trivial
def qqP (z:Unit):TV×THp:=(.tv (.sl 33 Qt) ([]:List zm),[])
def qgC:Tree (Unit):=
 .ret ()
def qt4:Option (Unit):=(qgC).run some
def qrV:List (Nat×qz):=[]
theorem qnz:YJ Tryz.prog ⟨216,[],[.k (.es 1)],[],[]⟩ [] (fun x=>qgC) (fun _=>qqP):=
 Xz (H:=qqq) (L:=qK (qrV)) 0 qu4 (qnm 0) (qn (by kernel_rfl) trivial) (rg0 (by kernel_rfl)) fun x=>by kernel_rfl
def qgp (z:Unit):Unit:=()
def qrH (z:Unit):Unit:=()
def JB (a0:List zm):Option (Unit):=
 bif a0.isEmpty then
  (qtn).bind fun z0=>(qt4).bind fun z1=>chk (qgp z0=qrH z1) (some (qgp z0))
 else qeD a0
def qgN:Ent:=smF ⟨216,[],[.x (.sl 33 Qt)],[],[]⟩ [(.sl 33 Qt)] (Unit) (fun x=>JB x.1) cs1 fun x=>qil x.1
theorem qqm:ze Tryz.prog (qgN):=qd5 fun x z h l=>by
 obtain ⟨a0,_⟩:=x
 replace h:JB a0=some z:=h
 unfold JB at h
 rcases qim h with ⟨e,h2⟩ | ⟨_,h2⟩<;>clear h
 ·have e:=List.isEmpty_iff.1 e
  subst e
  obtain ⟨z0,c0,h2⟩:=bind_some h2
  obtain ⟨z1,c1,h2⟩:=bind_some h2
  obtain ⟨hE,h2⟩:=Yn h2
  obtain rfl:=Option.some.inj h2
  refine qif (t:=(.sl 33 Qt)) (x:=[]) rfl (TV.ers []) (TV.ers []) (by exact qny (()) _ c0 l) ?_
  rw [hE]
  exact (by exact qnz (()) _ c1 l)
 ·exact qql (a0,()) z h2 l
noncomputable def qul:Code:=Tryz.f188.body.getD .skip
theorem qSf:FnF Tryz.prog 188 Tryz.f188 qul:=⟨qg,by kernel_rfl,by kernel_rfl,by kernel_rfl⟩
def qhn:TH:={ live:=[(0,[1,2]),(1,[1,2]),(2,[1,2,10,11]),(3,[1,2,10,11,12]),(4,[1,2,3,10,11]),(5,[1,2,10,11]),(6,[1,2,10,11]),(7,[2])],fresh:=[6],nil:=[(0,[⟨.ob 20 [2],25,(.sl 37 zg)⟩])] }
def qpJ (N:Nat):List Ent:=[qe5,qgN]
theorem qk4 (N:Nat):qQ Tryz.prog (qpJ N):=⟨qom,qqm,trivial⟩
abbrev YN:=List qv×Vector UInt8 16×qd×Nat×Vector UInt8 16×qd×Int
abbrev JD:=List qv×Int×Bool
def Xn (f:YN) (y:JD):Ex×TSt:=(.exit 0,⟨0,28,[],[(1,.p 10 [] 0),(2,.p 20 [] 0),(10,xi f.2.2.2.2.2.2),(11,xi y.2.1),(12,xb y.2.2)],[(10,.cell false (.ag [.tv (.ba 16) f.2.1,.tv qk f.2.2.1,.v 100050 f.2.2.2.1])),(20,.cell false (.ag [.tv (.ba 16) f.2.2.2.2.1,.tv qk f.2.2.2.2.2.1,.v 25 f.1.length])),(25,.vec false 37 (.sl 37 zg) f.1),(100050,.vec false 37 (.sl 37 zg) (y.1:List qv))],false,[]⟩)
def qwJ (N:Nat):List (Nat×qz):=[]
abbrev Xk:=List qv×Int
def qjt:SP:=⟨0,28,[],[(1,.k (.p 10 [] 0)),(2,.k (.p 20 [] 0)),(10,.x (.i .i64)),(11,.x (.i .i64))],[(10,.cell false (.ag [.x (.ba 16),.x qk,.v 100050])),(20,.cell false (.ag [.x (.ba 16),.x qk,.vs 25])),(25,.vec false 37),(100050,.vec false 37)],false,[]⟩
def qxj (f:YN) (v:Xk):TSt:=zH qjt [dv (.sl 37 zg) f.1,dv (.sl 37 zg) v.1,dv (.ba 16) f.2.1,dv qk f.2.2.1,dv .nat f.2.2.2.1,dv (.ba 16) f.2.2.2.2.1,dv qk f.2.2.2.2.2.1,dv (.i .i64) f.2.2.2.2.2.2,dv (.i .i64) v.2]
def YP (N:Nat) (o_3:List qv) (o_3_3:Vector UInt8 16) (o_3_4:qd) (o_3_5:Nat) (o_3_6:Vector UInt8 16) (o_3_7:qd) (s10_3:Int) (v:Xk):Tree (Xk⊕JD):=
 .cond (decide (v.2 < s10_3)) (
 .chk (0≤v.2∧v.2 < ((o_3_5:Nat):Int)) <|
 .bind (ZN v.1 o_3_5 v.2.toNat) fun e1=>
 .bind (JB (qv.B e1)) fun r2=>
 .chk (0≤v.2∧v.2 < ((o_3_5:Nat):Int)) <|
 .bind (ZN v.1 o_3_5 v.2.toNat) fun e3=>
 .chk (qw (v.2 + 1)) <|
 .ret (.inl (v.1.set v.2.toNat (qv.mk (qv.No e3) (qv.S e3) (qv.Len e3) (qv.D e3) ((([]:List zm))++(qv.B e1))),v.2 + 1))) <|
 .ret (.inr (v.1,v.2,decide (v.2 < s10_3)))
def qjC (N n:Nat) (f:YN) (v:Xk):Option JD:=qV (YP N f.1 f.2.1 f.2.2.1 f.2.2.2.1 f.2.2.2.2.1 f.2.2.2.2.2.1 f.2.2.2.2.2.2) some n v
theorem qwK (N:Nat) (f:YN) (n:Nat) (v:Xk) (y:JD) (h:qjC N n f v=some y):LG Tryz.prog qhn 188 (qN qul 3) (qxj f v) (Xn f y):=
 zr qg (E:=qpJ N) (L:=qK (qwJ N)) (st:=Xn f) (g:=some) (R:=Xn f) (qk4 N) (qn (by kernel_rfl) trivial) (rg0 (by kernel_rfl)) (fun v=>by kernel_rfl) (qZ (st:=Xn f) fun y=>by rfl) (js0 rfl) n v y h
def qgq (N:Nat) (o_3:List qv) (o_3_3:Vector UInt8 16) (o_3_4:qd) (o_3_5:Nat) (o_3_6:Vector UInt8 16) (o_3_7:qd) (s10_3:Int) (o_3_2:List qv) (s11_3:Int):Option JD:=qjC N N (o_3,o_3_3,o_3_4,o_3_5,o_3_6,o_3_7,s10_3) (o_3_2,s11_3)
def qjw (N:Nat):qz:=smL qjt [(.sl 37 zg),(.sl 37 zg),(.ba 16),qk,.nat,(.ba 16),qk,(.i .i64),(.i .i64)] JD (fun x=>qgq N x.1 x.2.2.1 x.2.2.2.1 x.2.2.2.2.1 x.2.2.2.2.2.1 x.2.2.2.2.2.2.1 x.2.2.2.2.2.2.2.1 x.2.1 x.2.2.2.2.2.2.2.2.1) cs1 fun x=>Xn (x.1,x.2.2.1,x.2.2.2.1,x.2.2.2.2.1,x.2.2.2.2.2.1,x.2.2.2.2.2.2.1,x.2.2.2.2.2.2.2.1)
theorem qvA (N:Nat):jl Tryz.prog qhn 188 (qN qul 3) (qjw N):=zA fun x z h=>qwK N (x.1,x.2.2.1,x.2.2.2.1,x.2.2.2.2.1,x.2.2.2.2.2.1,x.2.2.2.2.2.2.1,x.2.2.2.2.2.2.2.1) N (x.2.1,x.2.2.2.2.2.2.2.2.1) z h
def qDZ (z:qp):TV×THp:=(.tv qW z,[])
def qgZ (N:Nat) (a0:qp):Tree (qp):=
 .bind (Zw (qp.F a0)) fun r1=>
 .bind (zY [(([]:List qv).length,0)] (qgq N [] (qp.ID a0) (qp.qB a0) (((([]:List qv))++(qp.F a0)).length) ((Vector.replicate 16 0)) (qd.mk 0 0) ((((([]:List qv))++(qp.F a0)).length:Nat):Int) ((([]:List qv))++(qp.F a0)) 0)) fun z2=>
 .chk (z2.1.length=((([]:List qv))++(qp.F a0)).length) <|
 .ret (qp.mk (qp.ID a0) (qp.qB a0) z2.1)
def qf5 (N:Nat) (a0:qp):Option (qp):=(qgZ N a0).run some
def qCS (N:Nat):List (Nat×qz):=[(3,qjw N)]
def qoW (N:Nat):Ent:=smF ⟨188,[],[.x qW],[],[]⟩ [qW] (qp) (fun x=>qf5 N x.1) cs1 fun _=>qDZ
theorem qBk (N:Nat):ze Tryz.prog (qoW N):=
 zc (H:=qhn) (L:=qK (qCS N)) (ts:=[qW]) (T:=fun x=>qgZ N x.1) 0 qSf (qk4 N) (qn (by kernel_rfl) ⟨qvA N,trivial⟩) (rg0 (by kernel_rfl)) fun x=>by kernel_rfl
noncomputable def qSb:Code:=Tryz.f131.body.getD .skip
theorem qS_:FnF Tryz.prog 131 Tryz.f131 qSb:=⟨qg,by kernel_rfl,by kernel_rfl,by kernel_rfl⟩
def qAa:TH:={ live:=[(0,[2,3,4]),(1,[2,4,6]),(2,[2,4,6,12]),(3,[4,5]),(4,[4,5])],nil:=[(0,[⟨.ob 40 [2],45,(.sl 37 zg)⟩]),(3,[⟨.ob 40 [2],45,(.sl 37 zg)⟩])] }
def qBz (N:Nat):List Ent:=[qdq N,qoW N]
theorem qwN (N:Nat):qQ Tryz.prog (qBz N):=⟨qkW N,qBk N,trivial⟩
def qBK (z:qp×Bool):TV×THp:=(.tup [.tv qW (z.1:qp),xb z.2],[])
def qf3 (N:Nat) (a0:qt) (a1:Vector UInt8 16):Tree (qp×Bool):=
 .bind (VW N a1 (qt.L a0)) fun r1=>
 .cond (decide (r1 < ((0:Int)))) (
 .chk (0=0) <|
 .ret (qp.mk ((Vector.replicate 16 0)) (qd.mk 0 0) [],false)) <|
 .bind (zl (qt.L a0) r1) fun e2=>
 .bind (qf5 N e2) fun r3=>
 .ret (r3,true)
def qaA (N:Nat) (a0:qt) (a1:Vector UInt8 16):Option (qp×Bool):=(qf3 N a0 a1).run some
def qAq (N:Nat):List (Nat×qz):=[]
def qmK (N:Nat):Ent:=smF ⟨131,[],[.x qH,.x (.ba 16)],[],[]⟩ [qH,(.ba 16)] (qp×Bool) (fun x=>qaA N x.1 x.2.1) cs1 fun _=>qBK
theorem qyr (N:Nat):ze Tryz.prog (qmK N):=
 zc (H:=qAa) (L:=qK (qAq N)) (ts:=[qH,(.ba 16)]) (T:=fun x=>qf3 N x.1 x.2.1) 0 qS_ (qwN N) (qn (by kernel_rfl) trivial) (rg0 (by kernel_rfl)) fun x=>by kernel_rfl
noncomputable def qPK:Code:=Tryz.f212.body.getD .skip
theorem qPr:FnF Tryz.prog 212 Tryz.f212 qPK:=⟨qg,by kernel_rfl,by kernel_rfl,by kernel_rfl⟩
def qw0:TH:={ live:=[(0,[1,2]),(1,[3])] }
def qw8 (N:Nat):List Ent:=[]
theorem qsF (N:Nat):qQ Tryz.prog (qw8 N):=trivial
def qxa (a0:Int) (a1:qv) (z:Unit):TV×THp:=(xb (decide ((qv.No a1)=a0)),[(50,.cell false (xi a0))])
def qjd (a0:Int) (a1:qv):Tree (Unit):=
 .ret ()
def qfA (a0:Int) (a1:qv):Option (Unit):=(qjd a0 a1).run some
def qxd:List (Nat×qz):=[]
def qi8:Ent:=smF ⟨212,[],[.x zg],[.k (.p 50 [] 0)],[(50,.cell false (.x (.i .i64)))]⟩ [(.i .i64),zg] (Unit) (fun x=>qfA x.1 x.2.1) cs1 fun x=>qxa x.1 x.2.1
theorem qvD:ze Tryz.prog (qi8):=
 zc (H:=qw0) (L:=qK (qxd)) (ts:=[(.i .i64),zg]) (T:=fun x=>qjd x.1 x.2.1) 0 qPr (qsF 0) (qn (by kernel_rfl) trivial) (rg0 (by kernel_rfl)) fun x=>by kernel_rfl
noncomputable def qvk:Code:=Tryz.f132.body.getD .skip
theorem qRK:FnF Tryz.prog 132 Tryz.f132 qvk:=⟨qg,by kernel_rfl,by kernel_rfl,by kernel_rfl⟩
def XD:TH:={ live:=[(0,[0,1]),(1,[0,1,7,8]),(2,[0,1,7,8,9]),(3,[0,1,5,7,8]),(4,[0,1,5,7,8,16]),(5,[4]),(6,[0,1,7,8]),(7,[4])] }
def qbs (N:Nat):List Ent:=[qi8]
theorem KH (N:Nat):qQ Tryz.prog (qbs N):=⟨qvD,trivial⟩
abbrev Q7:=Int×List qv×Int
abbrev jM:=Int⊕(Int×Bool)
def vL (f:Q7):jM→Ex×TSt
 | .inl y=>(.ret,⟨1,19,[50],[(4,xi y)],[(50,.cell false (xi f.1))],false,[]⟩)
 | .inr y=>(.exit 0,⟨1,19,[50],[(0,.tv (.sl 37 zg) f.2.1),(1,.fn (.func 212) [] [.p 50 [] 0]),(7,xi f.2.2),(8,xi y.1),(9,xb y.2)],[(50,.cell false (xi f.1))],false,[]⟩)
def qhl (N:Nat):List (Nat×qz):=[]
abbrev vK:=Int
def Y_:SP:=⟨1,19,[50],[(0,.x (.sl 37 zg)),(1,.fn 212 [] [.k (.p 50 [] 0)]),(7,.x (.i .i64)),(8,.x (.i .i64))],[(50,.cell false (.x (.i .i64)))],false,[]⟩
def qhm (f:Q7) (v:vK):TSt:=zH Y_ [dv (.i .i64) f.1,dv (.sl 37 zg) f.2.1,dv (.i .i64) f.2.2,dv (.i .i64) v]
def vH (N:Nat) (o_2:Int) (s0_2:List qv) (s7_2:Int) (v:vK):Tree (vK⊕jM):=
 .cond (decide (v < s7_2)) (
 .bind (zl s0_2 v) fun e1=>
 .bind (qfA o_2 e1) fun r2=>
 .cond (decide ((qv.No e1)=o_2)) (
 .ret (.inr (.inl v))) <|
 .chk (qw (v + 1)) <|
 .ret (.inl (v + 1))) <|
 .ret (.inr (.inr ((v,decide (v < s7_2)))))
def Kx (N n:Nat) (f:Q7) (v:vK):Option jM:=qV (vH N f.1 f.2.1 f.2.2) some n v
theorem qg4 (N:Nat) (f:Q7) (n:Nat) (v:vK) (y:jM) (h:Kx N n f v=some y):LG Tryz.prog XD 132 (qN qvk 2) (qhm f v) (vL f y):=
 zr qg (E:=qbs N) (L:=qK (qhl N)) (st:=vL f) (g:=some) (R:=vL f) (KH N) (qn (by kernel_rfl) trivial) (rg0 (by kernel_rfl)) (fun v=>by kernel_rfl) (qZ (st:=vL f) fun y=>by rcases y with _ | _<;>rfl) (js0 rfl) n v y h
def V_ (N:Nat) (o_2:Int) (s0_2:List qv) (s7_2:Int) (s8_2:Int):Option jM:=Kx N N (o_2,s0_2,s7_2) s8_2
def Y0 (N:Nat):qz:=smL Y_ [(.i .i64),(.sl 37 zg),(.i .i64),(.i .i64)] jM (fun x=>V_ N x.1 x.2.1 x.2.2.1 x.2.2.2.1) (csS cs1) fun x=>vL (x.1,x.2.1,x.2.2.1)
theorem qgE (N:Nat):jl Tryz.prog XD 132 (qN qvk 2) (Y0 N):=zA fun x z h=>qg4 N (x.1,x.2.1,x.2.2.1) N x.2.2.2.1 z h
def qjT (a0:Int) (z:Int):TV×THp:=(xi z,[(50,.cell false (xi a0))])
def XL (N:Nat) (a0:Int) (a1:List qv):Tree (Int):=
 .bind (V_ N a0 a1 ((a1.length:Nat):Int) 0) fun z1=>
 .sum z1 (fun z2=>
 .ret z2) fun z2=>
 .ret (-1)
def JO (N:Nat) (a0:Int) (a1:List qv):Option (Int):=(XL N a0 a1).run some
def qj5 (N:Nat):List (Nat×qz):=[(2,Y0 N)]
def qbu (N:Nat):Ent:=smF ⟨132,[],[.x (.sl 37 zg),.fn 212 [] [.k (.p 50 [] 0)]],[],[(50,.cell false (.x (.i .i64)))]⟩ [(.i .i64),(.sl 37 zg)] (Int) (fun x=>JO N x.1 x.2.1) cs1 fun x=>qjT x.1
theorem qiY (N:Nat):ze Tryz.prog (qbu N):=
 zc (H:=XD) (L:=qK (qj5 N)) (ts:=[(.i .i64),(.sl 37 zg)]) (T:=fun x=>XL N x.1 x.2.1) 0 qRK (KH N) (qn (by kernel_rfl) ⟨qgE N,trivial⟩) (rg0 (by kernel_rfl)) fun x=>by kernel_rfl
noncomputable def qQO:Code:=Tryz.f179.body.getD .skip
theorem qQj:FnF Tryz.prog 179 Tryz.f179 qQO:=⟨qg,by kernel_rfl,by kernel_rfl,by kernel_rfl⟩
def qz4:TH:={ live:=[(0,[3,4,5]),(1,[3,4,7]),(2,[3,4,7,12]),(3,[6]),(4,[3,4,7,19]),(5,[6]),(6,[3,4,7,22]),(7,[6]),(8,[6])] }
def qz8 (N:Nat):List Ent:=[qbu N,VD N,qeB N,qrN]
theorem qxk (N:Nat):qQ Tryz.prog (qz8 N):=⟨qiY N,Xi N,qeX N,qxJ,trivial⟩
def qA5 (z:Bool):TV×THp:=(xb z,[])
def qgo (N:Nat) (a0:qe) (a1:qp) (a2:Int):Tree (Bool):=
 .bind (JO N a2 (qp.F a1)) fun r1=>
 .bind (vF N (qp.qB a1) (qe.S a0)) fun r2=>
 .cond (!r2) (
 .ret false) <|
 .cond (decide (r1 < ((0:Int)))) (
 .ret true) <|
 .bind (zl (qp.F a1) r1) fun e3=>
 .cond (!(eqE qk (qv.S e3) (qe.S a0))) (
 .bind (zl (qp.F a1) r1) fun e4=>
 .bind (vF N (qv.S e4) (qe.S a0)) fun r5=>
 .ret r5) <|
 .bind (zl (qp.F a1) r1) fun e4=>
 .bind (qav N (qe.V a0)) fun r5=>
 .bind (qht (qv.D e4) r5) fun r6=>
 .ret r6
def qaq (N:Nat) (a0:qe) (a1:qp) (a2:Int):Option (Bool):=(qgo N a0 a1 a2).run some
def qAA (N:Nat):List (Nat×qz):=[]
def qmG (N:Nat):Ent:=smF ⟨179,[],[.x qx,.x qW,.x (.i .i64)],[],[]⟩ [qx,qW,(.i .i64)] (Bool) (fun x=>qaq N x.1 x.2.1 x.2.2.1) cs1 fun _=>qA5
theorem qzC (N:Nat):ze Tryz.prog (qmG N):=
 zc (H:=qz4) (L:=qK (qAA N)) (ts:=[qx,qW,(.i .i64)]) (T:=fun x=>qgo N x.1 x.2.1 x.2.2.1) 0 qQj (qxk N) (qn (by kernel_rfl) trivial) (rg0 (by kernel_rfl)) fun x=>by kernel_rfl
noncomputable def qR9:Code:=Tryz.f117.body.getD .skip
theorem qPW:FnF Tryz.prog 117 Tryz.f117 qR9:=⟨qg,by kernel_rfl,by kernel_rfl,by kernel_rfl⟩
def qHt:TH:={ live:=[(0,[1]),(1,[2])],dec:=[7] }
def qIo (N:Nat):List Ent:=[]
theorem qD3 (N:Nat):qQ Tryz.prog (qIo N):=trivial
def qHw (z:Bool):TV×THp:=(xb z,[])
def qbB (a0:qa):Tree (Bool):=
 .cond (eqE qk (qa.qB a0) (qd.mk 0 0)) (
 .ret (decide ((((qa.F a0).length:Nat):Int)=((0:Int))))) <|
 .ret false
def Jf (a0:qa):Option (Bool):=(qbB a0).run some
def qJ9:List (Nat×qz):=[]
def qfP:Ent:=smF ⟨117,[],[.x qf],[],[]⟩ [qf] (Bool) (fun x=>Jf x.1) cs1 fun _=>qHw
theorem qiz:ze Tryz.prog (qfP):=
 zc (H:=qHt) (L:=qK (qJ9)) (ts:=[qf]) (T:=fun x=>qbB x.1) 0 qPW (qD3 0) (qn (by kernel_rfl) trivial) (rg0 (by kernel_rfl)) fun x=>by kernel_rfl
def qpw:TH:={ live:=[(0,[2,3]),(1,[2,3,14]),(2,[4]),(3,[2,3,5]),(4,[5,17]),(5,[5,6]),(6,[5,6,21]),(8,[4])],dec:=[10],fresh:=[17] }
def qpQ (N:Nat):List Ent:=[qfP]
theorem qmk (N:Nat):qQ Tryz.prog (qpQ N):=⟨qiz,trivial⟩
def qpK (a0:qb) (a1:qt) (a2:qa):Unit⊕Unit→TV×THp
 | .inl z=>(.bc true,[(50,.cell false (.v 200250 1)),(50050,.loop [18] 27 [(5,.p 50 [] 0),(17,.fn (.func 178) [] [.p 100020 [] 0,.p 100030 [] 0])] 8200005 82 .ready none 50051),(50051,.dfr true),(100020,.cell false (.tv qi a0)),(100030,.cell false (.tv qH a1)),(200250,.vec false 19 (.sl 19 qf) ([a2]:List qa))])
 | .inr z=>(.bc true,[(50,.cell false .nils),(50050,.loop [18] 27 [(5,.p 50 [] 0),(17,.fn (.func 178) [] [.p 100020 [] 0,.p 100030 [] 0])] 8200005 82 .ready none 50051),(50051,.dfr true),(100020,.cell false (.tv qi a0)),(100030,.cell false (.tv qH a1))])
def Kt (a0:qb) (a1:qt) (a2:qa):Tree (Unit⊕Unit):=
 .bind (Jf a2) fun r1=>
 .cond (!r1) (
 .chk (qDd 1 56) <|
 .ret (.inl ())) <|
 .ret (.inr ())
def Zu (a0:qb) (a1:qt) (a2:qa):Option (Unit⊕Unit):=(Kt a0 a1 a2).run some
def qo5:List (Nat×qz):=[]
def qeS:Ent:=smR 50050 [.x qf] [(50,.cell false (.k .nils)),(50050,.loop [18] 27 [(5,.k (.p 50 [] 0)),(17,.fn 178 [] [.k (.p 100020 [] 0),.k (.p 100030 [] 0)])] 8200005 82 .ready none 50051),(50051,.dfr true),(100020,.cell false (.x qi)),(100030,.cell false (.x qH))] [qi,qH,qf] (Unit⊕Unit) (fun x=>Zu x.1 x.2.1 x.2.2.1) (csS cs1) fun x=>qpK x.1 x.2.1 x.2.2.1
theorem qnY:ze Tryz.prog (qeS):=
 qOM (H:=qpw) (L:=qK (qo5)) (ts:=[qi,qH,qf]) (T:=fun x=>Kt x.1 x.2.1 x.2.2.1) (K:=82) (cid:=8200005) 2 qg (qmk 0) (by kernel_rfl) (qn (by kernel_rfl) trivial) (rg0 (by kernel_rfl)) (rg0 (by kernel_rfl)) (fun x=>by kernel_rfl) fun x=>by kernel_rfl
def qml:TH:={ live:=[(0,[2,3]),(1,[2,3,14]),(2,[4]),(3,[2,3,5]),(4,[5,17]),(5,[5,6]),(6,[5,6,21]),(8,[4])],dec:=[10],fresh:=[17] }
def ql2 (N:Nat):List Ent:=[qfP]
theorem qj2 (N:Nat):qQ Tryz.prog (ql2 N):=⟨qiz,trivial⟩
def qlY (a1:qb) (a2:qt) (z:List qa):TV×THp:=(.bc true,[(50,.cell false (.v 200250 z.length)),(50050,.loop [18] 27 [(5,.p 50 [] 0),(17,.fn (.func 178) [] [.p 100020 [] 0,.p 100030 [] 0])] 8200005 82 .ready none 50051),(50051,.dfr true),(100020,.cell false (.tv qi a1)),(100030,.cell false (.tv qH a2)),(200250,.vec false 19 (.sl 19 qf) z)])
def Wx (a0:List qa) (a1:qb) (a2:qt) (a3:qa):Tree (List qa):=
 .bind (Jf a3) fun r1=>
 .cond (!r1) (
 .chk (jG a0.length a0.length ((a0++[a3]).length) 56) <|
 .ret (a0++[a3])) <|
 .ret a0
def Z3 (a0:List qa) (a1:qb) (a2:qt) (a3:qa):Option (List qa):=(Wx a0 a1 a2 a3).run some
def ql3:List (Nat×qz):=[]
def qde:Ent:=smR 50050 [.x qf] [(50,.cell false (.vs 200250)),(50050,.loop [18] 27 [(5,.k (.p 50 [] 0)),(17,.fn 178 [] [.k (.p 100020 [] 0),.k (.p 100030 [] 0)])] 8200005 82 .ready none 50051),(50051,.dfr true),(100020,.cell false (.x qi)),(100030,.cell false (.x qH)),(200250,.vec false 19)] [(.sl 19 qf),qi,qH,qf] (List qa) (fun x=>Z3 x.1 x.2.1 x.2.2.1 x.2.2.2.1) cs1 fun x=>qlY x.2.1 x.2.2.1
theorem qlW:ze Tryz.prog (qde):=
 qOM (H:=qml) (L:=qK (ql3)) (ts:=[(.sl 19 qf),qi,qH,qf]) (T:=fun x=>Wx x.1 x.2.1 x.2.2.1 x.2.2.2.1) (K:=82) (cid:=8200005) 3 qg (qj2 0) (by kernel_rfl) (qn (by kernel_rfl) trivial) (rg0 (by kernel_rfl)) (rg0 (by kernel_rfl)) (fun x=>by kernel_rfl) fun x=>by kernel_rfl
noncomputable def KC:Code:=Tryz.f178.body.getD .skip
theorem qSG:FnF Tryz.prog 178 Tryz.f178 KC:=⟨qg,by kernel_rfl,by kernel_rfl,by kernel_rfl⟩
def ZR:TH:={ live:=[(0,[0,2,12,13,14]),(1,[0,2,12,13,14,15]),(2,[0,2,5,12,13,14]),(3,[0,2,5,6,12,13,14]),(4,[0,2,5,6,8,12,13,14]),(5,[0,2,5,6,8,12,13,14,32]),(6,[0,2,5,6,8,12,13,14]),(7,[0,2,6,8,12,13,14,37,38,39]),(8,[0,2,6,8,12,13,14,37,38,39,40]),(9,[0,2,6,8,10,12,13,14,37,38,39]),(10,[0,2,6,8,10,12,13,14,37,38,39,48]),(11,[0,2,6,8,12,13,14,37,38,39]),(12,[0,2,6,8,12,13,14,37,38,39]),(13,[0,2,12,13,14,59]),(14,[0,2,12,13,14])],fresh:=[58],nil:=[(4,[⟨.ob 200080 [2],200085,(.sl 4 qo)⟩])] }
def Kh (N:Nat):List Ent:=[qmK N,VD N,qmG N,qeS,qde]
theorem X6 (N:Nat):qQ Tryz.prog (Kh N):=⟨qyr N,Xi N,qzC N,qnY,qlW,trivial⟩
abbrev YH:=qb×qt×qp×Vector UInt8 16×qd×List qa×Int×Int×List qc×Int
abbrev JE:=List qc×Int×Bool
def Xl (f:YH) (y:JE):Ex×TSt:=(.exit 2,⟨2,61,[50,50050,50051,100020,100030],[(0,.yl 50050),(2,.p 100030 [] 0),(6,.p 200060 [] 0),(8,.p 200080 [] 0),(12,.tv (.sl 19 qf) f.2.2.2.2.2.1),(13,xi f.2.2.2.2.2.2.1),(14,xi f.2.2.2.2.2.2.2.1),(37,.tv (.sl 4 qo) f.2.2.2.2.2.2.2.2.1),(38,xi f.2.2.2.2.2.2.2.2.2),(39,xi y.2.1),(40,xb y.2.2)],[(50,.cell false .nils),(50050,.loop [18] 27 [(5,.p 50 [] 0),(17,.fn (.func 178) [] [.p 100020 [] 0,.p 100030 [] 0])] 8200005 82 .ready none 50051),(50051,.dfr true),(100020,.cell false (.tv qi f.1)),(100030,.cell false (.tv qH f.2.1)),(200060,.cell false (.tv qW f.2.2.1)),(200080,.cell false (.ag [.tv (.ba 16) f.2.2.2.1,.tv qk f.2.2.2.2.1,.v 200085 y.1.length])),(200085,.vec false 4 (.sl 4 qo) (y.1:List qc))],false,[]⟩)
def qxA (N:Nat):List (Nat×qz):=[]
abbrev Xu:=List qc×Int
def qjz:SP:=⟨2,61,[50,50050,50051,100020,100030],[(0,.k (.yl 50050)),(2,.k (.p 100030 [] 0)),(6,.k (.p 200060 [] 0)),(8,.k (.p 200080 [] 0)),(12,.x (.sl 19 qf)),(13,.x (.i .i64)),(14,.x (.i .i64)),(37,.x (.sl 4 qo)),(38,.x (.i .i64)),(39,.x (.i .i64))],[(50,.cell false (.k .nils)),(50050,.loop [18] 27 [(5,.k (.p 50 [] 0)),(17,.fn 178 [] [.k (.p 100020 [] 0),.k (.p 100030 [] 0)])] 8200005 82 .ready none 50051),(50051,.dfr true),(100020,.cell false (.x qi)),(100030,.cell false (.x qH)),(200060,.cell false (.x qW)),(200080,.cell false (.ag [.x (.ba 16),.x qk,.vs 200085])),(200085,.vec false 4)],false,[]⟩
def qxg (f:YH) (v:Xu):TSt:=zH qjz [dv (.sl 4 qo) v.1,dv qi f.1,dv qH f.2.1,dv qW f.2.2.1,dv (.ba 16) f.2.2.2.1,dv qk f.2.2.2.2.1,dv (.sl 19 qf) f.2.2.2.2.2.1,dv (.i .i64) f.2.2.2.2.2.2.1,dv (.i .i64) f.2.2.2.2.2.2.2.1,dv (.sl 4 qo) f.2.2.2.2.2.2.2.2.1,dv (.i .i64) f.2.2.2.2.2.2.2.2.2,dv (.i .i64) v.2]
def YR (N:Nat) (o_8_2:qb) (o_8_3:qt) (o_8_4:qp) (o_8_5:Vector UInt8 16) (o_8_6:qd) (s12_8:List qa) (s13_8:Int) (s14_8:Int) (s37_8:List qc) (s38_8:Int) (v:Xu):Tree (Xu⊕JE):=
 .cond (decide (v.2 < s38_8)) (
 .bind (zl s37_8 v.2) fun e1=>
 .bind (qaq N (qc.C e1) o_8_4 (qc.No e1)) fun r2=>
 .cond r2 (
 .chk (jG v.1.length v.1.length ((v.1++[e1]).length) 40) <|
 .chk (qw (v.2 + 1)) <|
 .ret (.inl (v.1++[e1],v.2 + 1))) <|
 .chk (qw (v.2 + 1)) <|
 .ret (.inl (v.1,v.2 + 1))) <|
 .ret (.inr (v.1,v.2,decide (v.2 < s38_8)))
def qjy (N n:Nat) (f:YH) (v:Xu):Option JE:=qV (YR N f.1 f.2.1 f.2.2.1 f.2.2.2.1 f.2.2.2.2.1 f.2.2.2.2.2.1 f.2.2.2.2.2.2.1 f.2.2.2.2.2.2.2.1 f.2.2.2.2.2.2.2.2.1 f.2.2.2.2.2.2.2.2.2) some n v
theorem qxm (N:Nat) (f:YH) (n:Nat) (v:Xu) (y:JE) (h:qjy N n f v=some y):LG Tryz.prog ZR 178 (qN (qN KC 1) 8) (qxg f v) (Xl f y):=
 zr qg (E:=Kh N) (L:=qK (qxA N)) (st:=Xl f) (g:=some) (R:=Xl f) (X6 N) (qn (by kernel_rfl) trivial) (rg0 (by kernel_rfl)) (fun v=>by kernel_rfl) (qZ (st:=Xl f) fun y=>by rfl) (js0 rfl) n v y h
def W9 (N:Nat) (o_8_2:qb) (o_8_3:qt) (o_8_4:qp) (o_8_5:Vector UInt8 16) (o_8_6:qd) (s12_8:List qa) (s13_8:Int) (s14_8:Int) (s37_8:List qc) (s38_8:Int) (o_8:List qc) (s39_8:Int):Option JE:=qjy N N (o_8_2,o_8_3,o_8_4,o_8_5,o_8_6,s12_8,s13_8,s14_8,s37_8,s38_8) (o_8,s39_8)
def qjn (N:Nat):qz:=smL qjz [(.sl 4 qo),qi,qH,qW,(.ba 16),qk,(.sl 19 qf),(.i .i64),(.i .i64),(.sl 4 qo),(.i .i64),(.i .i64)] JE (fun x=>W9 N x.2.1 x.2.2.1 x.2.2.2.1 x.2.2.2.2.1 x.2.2.2.2.2.1 x.2.2.2.2.2.2.1 x.2.2.2.2.2.2.2.1 x.2.2.2.2.2.2.2.2.1 x.2.2.2.2.2.2.2.2.2.1 x.2.2.2.2.2.2.2.2.2.2.1 x.1 x.2.2.2.2.2.2.2.2.2.2.2.1) cs1 fun x=>Xl (x.2.1,x.2.2.1,x.2.2.2.1,x.2.2.2.2.1,x.2.2.2.2.2.1,x.2.2.2.2.2.2.1,x.2.2.2.2.2.2.2.1,x.2.2.2.2.2.2.2.2.1,x.2.2.2.2.2.2.2.2.2.1,x.2.2.2.2.2.2.2.2.2.2.1)
theorem qh8 (N:Nat):jl Tryz.prog ZR 178 (qN (qN KC 1) 8) (qjn N):=zA fun x z h=>qxm N (x.2.1,x.2.2.1,x.2.2.2.1,x.2.2.2.2.1,x.2.2.2.2.2.1,x.2.2.2.2.2.2.1,x.2.2.2.2.2.2.2.1,x.2.2.2.2.2.2.2.2.1,x.2.2.2.2.2.2.2.2.2.1,x.2.2.2.2.2.2.2.2.2.2.1) N (x.1,x.2.2.2.2.2.2.2.2.2.2.2.1) z h
abbrev Wr:=List qa×qb×qt×qp×Vector UInt8 16×qd×List qa×Int×Int×List qc×Int
abbrev Zr:=List qc×Int×Bool
def J7 (f:Wr) (y:Zr):Ex×TSt:=(.exit 2,⟨2,61,[50,50050,50051,100020,100030],[(0,.yl 50050),(2,.p 100030 [] 0),(6,.p 200060 [] 0),(8,.p 200080 [] 0),(12,.tv (.sl 19 qf) f.2.2.2.2.2.2.1),(13,xi f.2.2.2.2.2.2.2.1),(14,xi f.2.2.2.2.2.2.2.2.1),(37,.tv (.sl 4 qo) f.2.2.2.2.2.2.2.2.2.1),(38,xi f.2.2.2.2.2.2.2.2.2.2),(39,xi y.2.1),(40,xb y.2.2)],[(50,.cell false (.v 200250 f.1.length)),(50050,.loop [18] 27 [(5,.p 50 [] 0),(17,.fn (.func 178) [] [.p 100020 [] 0,.p 100030 [] 0])] 8200005 82 .ready none 50051),(50051,.dfr true),(100020,.cell false (.tv qi f.2.1)),(100030,.cell false (.tv qH f.2.2.1)),(200060,.cell false (.tv qW f.2.2.2.1)),(200080,.cell false (.ag [.tv (.ba 16) f.2.2.2.2.1,.tv qk f.2.2.2.2.2.1,.v 200085 y.1.length])),(200085,.vec false 4 (.sl 4 qo) (y.1:List qc)),(200250,.vec false 19 (.sl 19 qf) f.1)],false,[]⟩)
def qsL (N:Nat):List (Nat×qz):=[]
abbrev J3:=List qc×Int
def qgJ:SP:=⟨2,61,[50,50050,50051,100020,100030],[(0,.k (.yl 50050)),(2,.k (.p 100030 [] 0)),(6,.k (.p 200060 [] 0)),(8,.k (.p 200080 [] 0)),(12,.x (.sl 19 qf)),(13,.x (.i .i64)),(14,.x (.i .i64)),(37,.x (.sl 4 qo)),(38,.x (.i .i64)),(39,.x (.i .i64))],[(50,.cell false (.vs 200250)),(50050,.loop [18] 27 [(5,.k (.p 50 [] 0)),(17,.fn 178 [] [.k (.p 100020 [] 0),.k (.p 100030 [] 0)])] 8200005 82 .ready none 50051),(50051,.dfr true),(100020,.cell false (.x qi)),(100030,.cell false (.x qH)),(200060,.cell false (.x qW)),(200080,.cell false (.ag [.x (.ba 16),.x qk,.vs 200085])),(200085,.vec false 4),(200250,.vec false 19)],false,[]⟩
def qsZ (f:Wr) (v:J3):TSt:=zH qgJ [dv (.sl 4 qo) v.1,dv (.sl 19 qf) f.1,dv qi f.2.1,dv qH f.2.2.1,dv qW f.2.2.2.1,dv (.ba 16) f.2.2.2.2.1,dv qk f.2.2.2.2.2.1,dv (.sl 19 qf) f.2.2.2.2.2.2.1,dv (.i .i64) f.2.2.2.2.2.2.2.1,dv (.i .i64) f.2.2.2.2.2.2.2.2.1,dv (.sl 4 qo) f.2.2.2.2.2.2.2.2.2.1,dv (.i .i64) f.2.2.2.2.2.2.2.2.2.2,dv (.i .i64) v.2]
def qsK (N:Nat) (o_8_2:List qa) (o_8_3:qb) (o_8_4:qt) (o_8_5:qp) (o_8_6:Vector UInt8 16) (o_8_7:qd) (s12_8:List qa) (s13_8:Int) (s14_8:Int) (s37_8:List qc) (s38_8:Int) (v:J3):Tree (J3⊕Zr):=
 .cond (decide (v.2 < s38_8)) (
 .bind (zl s37_8 v.2) fun e1=>
 .bind (qaq N (qc.C e1) o_8_5 (qc.No e1)) fun r2=>
 .cond r2 (
 .chk (jG v.1.length v.1.length ((v.1++[e1]).length) 40) <|
 .chk (qw (v.2 + 1)) <|
 .ret (.inl (v.1++[e1],v.2 + 1))) <|
 .chk (qw (v.2 + 1)) <|
 .ret (.inl (v.1,v.2 + 1))) <|
 .ret (.inr (v.1,v.2,decide (v.2 < s38_8)))
def qgR (N n:Nat) (f:Wr) (v:J3):Option Zr:=qV (qsK N f.1 f.2.1 f.2.2.1 f.2.2.2.1 f.2.2.2.2.1 f.2.2.2.2.2.1 f.2.2.2.2.2.2.1 f.2.2.2.2.2.2.2.1 f.2.2.2.2.2.2.2.2.1 f.2.2.2.2.2.2.2.2.2.1 f.2.2.2.2.2.2.2.2.2.2) some n v
theorem qsP (N:Nat) (f:Wr) (n:Nat) (v:J3) (y:Zr) (h:qgR N n f v=some y):LG Tryz.prog ZR 178 (qN (qN KC 1) 8) (qsZ f v) (J7 f y):=
 zr qg (E:=Kh N) (L:=qK (qsL N)) (st:=J7 f) (g:=some) (R:=J7 f) (X6 N) (qn (by kernel_rfl) trivial) (rg0 (by kernel_rfl)) (fun v=>by kernel_rfl) (qZ (st:=J7 f) fun y=>by rfl) (js0 rfl) n v y h
def YO (N:Nat) (o_8_2:List qa) (o_8_3:qb) (o_8_4:qt) (o_8_5:qp) (o_8_6:Vector UInt8 16) (o_8_7:qd) (s12_8:List qa) (s13_8:Int) (s14_8:Int) (s37_8:List qc) (s38_8:Int) (o_8:List qc) (s39_8:Int):Option Zr:=qgR N N (o_8_2,o_8_3,o_8_4,o_8_5,o_8_6,o_8_7,s12_8,s13_8,s14_8,s37_8,s38_8) (o_8,s39_8)
def qgI (N:Nat):qz:=smL qgJ [(.sl 4 qo),(.sl 19 qf),qi,qH,qW,(.ba 16),qk,(.sl 19 qf),(.i .i64),(.i .i64),(.sl 4 qo),(.i .i64),(.i .i64)] Zr (fun x=>YO N x.2.1 x.2.2.1 x.2.2.2.1 x.2.2.2.2.1 x.2.2.2.2.2.1 x.2.2.2.2.2.2.1 x.2.2.2.2.2.2.2.1 x.2.2.2.2.2.2.2.2.1 x.2.2.2.2.2.2.2.2.2.1 x.2.2.2.2.2.2.2.2.2.2.1 x.2.2.2.2.2.2.2.2.2.2.2.1 x.1 x.2.2.2.2.2.2.2.2.2.2.2.2.1) cs1 fun x=>J7 (x.2.1,x.2.2.1,x.2.2.2.1,x.2.2.2.2.1,x.2.2.2.2.2.1,x.2.2.2.2.2.2.1,x.2.2.2.2.2.2.2.1,x.2.2.2.2.2.2.2.2.1,x.2.2.2.2.2.2.2.2.2.1,x.2.2.2.2.2.2.2.2.2.2.1,x.2.2.2.2.2.2.2.2.2.2.2.1)
theorem qfJ (N:Nat):jl Tryz.prog ZR 178 (qN (qN KC 1) 8) (qgI N):=zA fun x z h=>qsP N (x.2.1,x.2.2.1,x.2.2.2.1,x.2.2.2.2.1,x.2.2.2.2.2.1,x.2.2.2.2.2.2.1,x.2.2.2.2.2.2.2.1,x.2.2.2.2.2.2.2.2.1,x.2.2.2.2.2.2.2.2.2.1,x.2.2.2.2.2.2.2.2.2.2.1,x.2.2.2.2.2.2.2.2.2.2.2.1) N (x.1,x.2.2.2.2.2.2.2.2.2.2.2.2.1) z h
abbrev vD:=qb×qt×List qa×Int
abbrev jX:=(Int×Bool)⊕(List qa×Int×Bool)
def vE (f:vD):jX→Ex×TSt
 | .inl y=>(.exit 0,⟨2,61,[50,50050,50051,100020,100030],[(0,.yl 50050),(2,.p 100030 [] 0),(12,.tv (.sl 19 qf) f.2.2.1),(13,xi f.2.2.2),(14,xi y.1),(15,xb y.2)],[(50,.cell false .nils),(50050,.loop [18] 27 [(5,.p 50 [] 0),(17,.fn (.func 178) [] [.p 100020 [] 0,.p 100030 [] 0])] 8200005 82 .ready none 50051),(50051,.dfr true),(100020,.cell false (.tv qi f.1)),(100030,.cell false (.tv qH f.2.1))],false,[]⟩)
 | .inr y=>(.exit 0,⟨2,61,[50,50050,50051,100020,100030],[(0,.yl 50050),(2,.p 100030 [] 0),(12,.tv (.sl 19 qf) f.2.2.1),(13,xi f.2.2.2),(14,xi y.2.1),(15,xb y.2.2)],[(50,.cell false (.v 200250 y.1.length)),(50050,.loop [18] 27 [(5,.p 50 [] 0),(17,.fn (.func 178) [] [.p 100020 [] 0,.p 100030 [] 0])] 8200005 82 .ready none 50051),(50051,.dfr true),(100020,.cell false (.tv qi f.1)),(100030,.cell false (.tv qH f.2.1)),(200250,.vec false 19 (.sl 19 qf) (y.1:List qa))],false,[]⟩)
def qji (N:Nat):List (Nat×qz):=[(8,qjn N),(8,qgI N)]
abbrev Q4:=List qa×Int
def qrb:SP:=⟨2,61,[50,50050,50051,100020,100030],[(0,.k (.yl 50050)),(2,.k (.p 100030 [] 0)),(12,.x (.sl 19 qf)),(13,.x (.i .i64)),(14,.x (.i .i64))],[(50,.cell false (.vs 200250)),(50050,.loop [18] 27 [(5,.k (.p 50 [] 0)),(17,.fn 178 [] [.k (.p 100020 [] 0),.k (.p 100030 [] 0)])] 8200005 82 .ready none 50051),(50051,.dfr true),(100020,.cell false (.x qi)),(100030,.cell false (.x qH)),(200250,.vec false 19)],false,[]⟩
def qfQ (f:vD) (v:Q4):TSt:=zH qrb [dv (.sl 19 qf) v.1,dv qi f.1,dv qH f.2.1,dv (.sl 19 qf) f.2.2.1,dv (.i .i64) f.2.2.2,dv (.i .i64) v.2]
def Jr (N:Nat) (o_1:qb) (o_1_2:qt) (s12_1:List qa) (s13_1:Int) (v:Q4):Tree (Q4⊕jX):=
 .cond (decide (v.2 < s13_1)) (
 .bind (zl s12_1 v.2) fun e1=>
 .bind (qaA N o_1_2 (qa.ID e1)) fun r2=>
 .bind (vF N (qp.qB r2.1) (qa.qB e1)) fun r3=>
 .cond r3 (
 .bind (zY [(v.1.length,v.1.length),(([]:List qc).length,0)] (YO N v.1 o_1 o_1_2 r2.1 (qa.ID e1) (qa.qB e1) s12_1 s13_1 v.2 (qa.F e1) (((qa.F e1).length:Nat):Int) [] 0)) fun z4=>
 .chk (z4.1.length=z4.1.length) <|
 .bind (zY [(v.1.length,v.1.length)] (Z3 v.1 o_1 o_1_2 (qa.mk (qa.ID e1) (qa.qB e1) z4.1))) fun r5=>
 .chk (qw (v.2 + 1)) <|
 .ret (.inl (r5,v.2 + 1))) <|
 .bind (zY [(v.1.length,v.1.length),(([]:List qc).length,0)] (YO N v.1 o_1 o_1_2 r2.1 (qa.ID e1) (qd.mk 0 0) s12_1 s13_1 v.2 (qa.F e1) (((qa.F e1).length:Nat):Int) [] 0)) fun z4=>
 .chk (z4.1.length=z4.1.length) <|
 .bind (zY [(v.1.length,v.1.length)] (Z3 v.1 o_1 o_1_2 (qa.mk (qa.ID e1) (qd.mk 0 0) z4.1))) fun r5=>
 .chk (qw (v.2 + 1)) <|
 .ret (.inl (r5,v.2 + 1))) <|
 .ret (.inr (.inr ((v.1,v.2,decide (v.2 < s13_1)))))
def qgz (N n:Nat) (f:vD) (v:Q4):Option jX:=qV (Jr N f.1 f.2.1 f.2.2.1 f.2.2.2) some n v
theorem qqF (N:Nat) (f:vD) (n:Nat) (v:Q4) (y:jX) (h:qgz N n f v=some y):LG Tryz.prog ZR 178 (qN KC 1) (qfQ f v) (vE f y):=
 zr qg (E:=Kh N) (L:=qK (qji N)) (st:=vE f) (g:=some) (R:=vE f) (X6 N) (qn (by kernel_rfl) ⟨qh8 N,qfJ N,trivial⟩) (rg0 (by kernel_rfl)) (fun v=>by kernel_rfl) (qZ (st:=vE f) fun y=>by rcases y with _ | _<;>rfl) (js0 rfl) n v y h
abbrev XB:=Int
def qjv:SP:=⟨2,61,[50,50050,50051,100020,100030],[(0,.k (.yl 50050)),(2,.k (.p 100030 [] 0)),(12,.x (.sl 19 qf)),(13,.x (.i .i64)),(14,.x (.i .i64))],[(50,.cell false (.k .nils)),(50050,.loop [18] 27 [(5,.k (.p 50 [] 0)),(17,.fn 178 [] [.k (.p 100020 [] 0),.k (.p 100030 [] 0)])] 8200005 82 .ready none 50051),(50051,.dfr true),(100020,.cell false (.x qi)),(100030,.cell false (.x qH))],false,[]⟩
def qxB (f:vD) (v:XB):TSt:=zH qjv [dv qi f.1,dv qH f.2.1,dv (.sl 19 qf) f.2.2.1,dv (.i .i64) f.2.2.2,dv (.i .i64) v]
abbrev YT:=Q4⊕jX
def XA (N:Nat) (o_1:qb) (o_1_2:qt) (s12_1:List qa) (s13_1:Int) (v:XB):Tree (XB⊕YT):=
 .cond (decide (v < s13_1)) (
 .bind (zl s12_1 v) fun e1=>
 .bind (qaA N o_1_2 (qa.ID e1)) fun r2=>
 .bind (vF N (qp.qB r2.1) (qa.qB e1)) fun r3=>
 .cond r3 (
 .bind (zY [(([]:List qc).length,0)] (W9 N o_1 o_1_2 r2.1 (qa.ID e1) (qa.qB e1) s12_1 s13_1 v (qa.F e1) (((qa.F e1).length:Nat):Int) [] 0)) fun z4=>
 .chk (z4.1.length=z4.1.length) <|
 .bind (Zu o_1 o_1_2 (qa.mk (qa.ID e1) (qa.qB e1) z4.1)) fun r5=>
 .sum r5 (fun r6=>
 .chk (qw (v + 1)) <|
 .ret (.inr (.inl ([qa.mk (qa.ID e1) (qa.qB e1) z4.1],v + 1)))) fun r6=>
 .chk (qw (v + 1)) <|
 .ret (.inl (v + 1))) <|
 .bind (zY [(([]:List qc).length,0)] (W9 N o_1 o_1_2 r2.1 (qa.ID e1) (qd.mk 0 0) s12_1 s13_1 v (qa.F e1) (((qa.F e1).length:Nat):Int) [] 0)) fun z4=>
 .chk (z4.1.length=z4.1.length) <|
 .bind (Zu o_1 o_1_2 (qa.mk (qa.ID e1) (qd.mk 0 0) z4.1)) fun r5=>
 .sum r5 (fun r6=>
 .chk (qw (v + 1)) <|
 .ret (.inr (.inl ([qa.mk (qa.ID e1) (qd.mk 0 0) z4.1],v + 1)))) fun r6=>
 .chk (qw (v + 1)) <|
 .ret (.inl (v + 1))) <|
 .ret (.inr (.inr ((.inl (v,decide (v < s13_1))))))
def qdx (N n:Nat) (f:vD):YT→Option jX
 | .inl w=>qgz N n f w
 | .inr w=>some w
def qwM (f:vD):YT→Ex×TSt
 | .inl w=>(.normal,qfQ f w)
 | .inr w=>vE f w
def qjr (N n:Nat) (f:vD) (v:XB):Option jX:=qV (XA N f.1 f.2.1 f.2.2.1 f.2.2.2) (qdx N n f) n v
theorem qxe (N:Nat) (f:vD) (n:Nat) (v:XB) (y:jX) (h:qjr N n f v=some y):LG Tryz.prog ZR 178 (qN KC 1) (qxB f v) (vE f y):=
 zr qg (E:=Kh N) (L:=qK (qji N)) (st:=qwM f) (g:=(qdx N n f)) (R:=vE f) (X6 N) (qn (by kernel_rfl) ⟨qh8 N,qfJ N,trivial⟩) (rg0 (by kernel_rfl)) (fun v=>by kernel_rfl) (fun w y h=>by
 rcases w with w | w
 ·exact qqF N f n w y h
 ·exact qZ (st:=vE f) (fun y=>by rcases y with _ | _<;>rfl) w y h
) (js0 rfl) n v y h
def qfl (N:Nat) (o_1:qb) (o_1_2:qt) (s12_1:List qa) (s13_1:Int) (s14_1:Int):Option jX:=qjr N N (o_1,o_1_2,s12_1,s13_1) s14_1
def qjB (N:Nat):qz:=smL qjv [qi,qH,(.sl 19 qf),(.i .i64),(.i .i64)] jX (fun x=>qfl N x.1 x.2.1 x.2.2.1 x.2.2.2.1 x.2.2.2.2.1) (csS cs1) fun x=>vE (x.1,x.2.1,x.2.2.1,x.2.2.2.1)
theorem quz (N:Nat):jl Tryz.prog ZR 178 (qN KC 1) (qjB N):=zA fun x z h=>qxe N (x.1,x.2.1,x.2.2.1,x.2.2.2.1) N x.2.2.2.2.1 z h
def qDA (a0:qb) (a1:qt):Unit⊕List qa→TV×THp
 | .inl z=>(.tup [],[(50,.cell false .nils),(50050,.loop [18] 27 [(5,.p 50 [] 0),(17,.fn (.func 178) [] [.p 100020 [] 0,.p 100030 [] 0])] 8200005 82 .ready none 50051),(50051,.dfr true),(100020,.cell false (.tv qi a0)),(100030,.cell false (.tv qH a1))])
 | .inr z=>(.tup [],[(50,.cell false (.v 200250 z.length)),(50050,.loop [18] 27 [(5,.p 50 [] 0),(17,.fn (.func 178) [] [.p 100020 [] 0,.p 100030 [] 0])] 8200005 82 .ready none 50051),(50051,.dfr true),(100020,.cell false (.tv qi a0)),(100030,.cell false (.tv qH a1)),(200250,.vec false 19 (.sl 19 qf) z)])
def qc8 (N:Nat) (a0:qb) (a1:qt):Tree (Unit⊕List qa):=
 .bind (qfl N a0 a1 (qb.R a0) (((qb.R a0).length:Nat):Int) 0) fun z1=>
 .sum z1 (fun z2=>
 .ret (.inl ())) fun z2=>
 .ret (.inr z2.1)
def Ko (N:Nat) (a0:qb) (a1:qt):Option (Unit⊕List qa):=(qc8 N a0 a1).run some
def qDK (N:Nat):List (Nat×qz):=[(1,qjB N)]
def qpd (N:Nat):Ent:=smF ⟨178,[],[.k (.yl 50050)],[.k (.p 100020 [] 0),.k (.p 100030 [] 0)],[(50,.cell false (.k .nils)),(50050,.loop [18] 27 [(5,.k (.p 50 [] 0)),(17,.fn 178 [] [.k (.p 100020 [] 0),.k (.p 100030 [] 0)])] 8200005 82 .ready none 50051),(50051,.dfr true),(100020,.cell false (.x qi)),(100030,.cell false (.x qH))]⟩ [qi,qH] (Unit⊕List qa) (fun x=>Ko N x.1 x.2.1) (csS cs1) fun x=>qDA x.1 x.2.1
theorem qBE (N:Nat):ze Tryz.prog (qpd N):=
 zc (H:=ZR) (L:=qK (qDK N)) (ts:=[qi,qH]) (T:=fun x=>qc8 N x.1 x.2.1) 1 qSG (X6 N) (qn (by kernel_rfl) ⟨quz N,trivial⟩) (rg0 (by kernel_rfl)) fun x=>by kernel_rfl
noncomputable def qUf:Code:=Tryz.f82.body.getD .skip
theorem qTp:FnF Tryz.prog 82 Tryz.f82 qUf:=⟨qg,by kernel_rfl,by kernel_rfl,by kernel_rfl⟩
def qGE:TH:={ live:=[(0,[2,3]),(1,[2,3,14]),(2,[4]),(3,[2,3,5]),(4,[5,17]),(5,[5,6]),(6,[5,6,21]),(8,[4])],dec:=[10],fresh:=[17] }
def qFJ (N:Nat):List Ent:=[KQ N,qo3 N,qum,qpd N]
theorem qBA (N:Nat):qQ Tryz.prog (qFJ N):=⟨qa0 N,qBP N,qGe,qBE N,trivial⟩
def qGw (z:List qa):TV×THp:=(.tv (.sl 19 qf) z,[])
def qiI (N:Nat) (a0:qb) (a1:qt):Tree (List qa):=
 .bind (We N a0) fun r1=>
 .cond (!r1) (
 .ret []) <|
 .bind (qf2 N a1) fun r2=>
 .cond (!r2) (
 .ret []) <|
 .bind (qqD a0 a1) fun r3=>
 .bind (Ko N a0 a1) fun r4=>
 .sum r4 (fun r5=>
 .ret []) fun r5=>
 .chk (r5.length=r5.length) <|
 .ret r5
def qhw (N:Nat) (a0:qb) (a1:qt):Option (List qa):=(qiI N a0 a1).run some
def qGM (N:Nat):List (Nat×qz):=[]
def qsd (N:Nat):Ent:=smF ⟨82,[],[.x qi,.x qH],[],[]⟩ [qi,qH] (List qa) (fun x=>qhw N x.1 x.2.1) cs1 fun _=>qGw
theorem qCG (N:Nat):ze Tryz.prog (qsd N):=
 zc (H:=qGE) (L:=qK (qGM N)) (ts:=[qi,qH]) (T:=fun x=>qiI N x.1 x.2.1) 0 qTp (qBA N) (qn (by kernel_rfl) trivial) (rgs (by kernel_rfl)) fun x=>by kernel_rfl
noncomputable def qVc:Code:=Tryz.f37.body.getD .skip
theorem qTT:FnF Tryz.prog 37 Tryz.f37 qVc:=⟨qg,by kernel_rfl,by kernel_rfl,by kernel_rfl⟩
def qJ1:TH:={ live:=[(0,[2,3,4]),(1,[4])] }
def qG8 (N:Nat):List Ent:=[]
theorem qDc (N:Nat):qQ Tryz.prog (qG8 N):=trivial
def qIg (a0:Vector UInt8 16) (a1:qc) (z:Unit):TV×THp:=(.tv ja (qh.mk 1 a0 (qe.S (qc.C a1)) (qc.No a1) (qe.V (qc.C a1)) [] ((Vector.replicate 16 0)) 0 ((Vector.replicate 32 0))),[])
def qvd (a0:Vector UInt8 16) (a1:qc):Tree (Unit):=
 .ret ()
def qp8 (a0:Vector UInt8 16) (a1:qc):Option (Unit):=(qvd a0 a1).run some
def qIL:List (Nat×qz):=[]
def qtR:Ent:=smF ⟨37,[],[.x (.ba 16),.x qo],[],[]⟩ [(.ba 16),qo] (Unit) (fun x=>qp8 x.1 x.2.1) cs1 fun x=>qIg x.1 x.2.1
theorem qFO:ze Tryz.prog (qtR):=
 zc (H:=qJ1) (L:=qK (qIL)) (ts:=[(.ba 16),qo]) (T:=fun x=>qvd x.1 x.2.1) 0 qTT (qDc 0) (qn (by kernel_rfl) trivial) (rg0 (by kernel_rfl)) fun x=>by kernel_rfl
noncomputable def qlQ:Code:=Tryz.f36.body.getD .skip
theorem qVd:FnF Tryz.prog 36 Tryz.f36 qlQ:=⟨qg,by kernel_rfl,by kernel_rfl,by kernel_rfl⟩
def qbX:TH:={ live:=[(0,[2,3,4]),(1,[2,3,4,7]),(2,[2,7,14,15,16]),(3,[2,7,14,15,16,17]),(4,[2,7,9,14,15,16]),(5,[2,7,9,14,15,16,23]),(6,[2,7,9,14,15,16]),(7,[2,7,9,14,15,16,33,34,35]),(8,[2,7,9,14,15,16,33,34,35,36]),(9,[2,7,9,11,14,15,16,33,34,35]),(10,[2,7,9,14,15,16,33,34,35]),(11,[2,7,9,14,15,16,33,34,35]),(12,[2,7,14,15,16]),(13,[6])],nil:=[(1,[⟨.sl 7,75,(.sl 71 ja)⟩])] }
def qlE (N:Nat):List Ent:=[qsd N,qtR]
theorem qhj (N:Nat):qQ Tryz.prog (qlE N):=⟨qCG N,qFO,trivial⟩
abbrev qbj:=qa×List qa×Int×Int×List qc×Int
abbrev VN:=List qh×Int×Bool
def WQ (f:qbj) (y:VN):Ex×TSt:=(.exit 2,⟨0,50,[],[(2,.fn (.func 37) [] []),(7,.v 75 y.1.length),(9,.p 90 [] 0),(14,.tv (.sl 19 qf) f.2.1),(15,xi f.2.2.1),(16,xi f.2.2.2.1),(33,.tv (.sl 4 qo) f.2.2.2.2.1),(34,xi f.2.2.2.2.2),(35,xi y.2.1),(36,xb y.2.2)],[(75,.vec false 71 (.sl 71 ja) (y.1:List qh)),(90,.cell false (.tv qf f.1))],false,[]⟩)
def qCB (N:Nat):List (Nat×qz):=[]
abbrev WK:=List qh×Int
def qmL:SP:=⟨0,50,[],[(2,.fn 37 [] []),(7,.vs 75),(9,.k (.p 90 [] 0)),(14,.x (.sl 19 qf)),(15,.x (.i .i64)),(16,.x (.i .i64)),(33,.x (.sl 4 qo)),(34,.x (.i .i64)),(35,.x (.i .i64))],[(75,.vec false 71),(90,.cell false (.x qf))],false,[]⟩
def qBH (f:qbj) (v:WK):TSt:=zH qmL [dv (.sl 71 ja) v.1,dv qf f.1,dv (.sl 19 qf) f.2.1,dv (.i .i64) f.2.2.1,dv (.i .i64) f.2.2.2.1,dv (.sl 4 qo) f.2.2.2.2.1,dv (.i .i64) f.2.2.2.2.2,dv (.i .i64) v.2]
def Yc (N:Nat) (o_8_2:qa) (s14_8:List qa) (s15_8:Int) (s16_8:Int) (s33_8:List qc) (s34_8:Int) (v:WK):Tree (WK⊕VN):=
 .cond (decide (v.2 < s34_8)) (
 .bind (zl s33_8 v.2) fun e1=>
 .bind (qp8 (qa.ID o_8_2) e1) fun r2=>
 .chk (jG v.1.length v.1.length ((v.1++[qh.mk 1 (qa.ID o_8_2) (qe.S (qc.C e1)) (qc.No e1) (qe.V (qc.C e1)) [] ((Vector.replicate 16 0)) 0 ((Vector.replicate 32 0))]).length) 144) <|
 .chk (qw (v.2 + 1)) <|
 .ret (.inl (v.1++[qh.mk 1 (qa.ID o_8_2) (qe.S (qc.C e1)) (qc.No e1) (qe.V (qc.C e1)) [] ((Vector.replicate 16 0)) 0 ((Vector.replicate 32 0))],v.2 + 1))) <|
 .ret (.inr (v.1,v.2,decide (v.2 < s34_8)))
def qmZ (N n:Nat) (f:qbj) (v:WK):Option VN:=qV (Yc N f.1 f.2.1 f.2.2.1 f.2.2.2.1 f.2.2.2.2.1 f.2.2.2.2.2) some n v
theorem qAG (N:Nat) (f:qbj) (n:Nat) (v:WK) (y:VN) (h:qmZ N n f v=some y):LG Tryz.prog qbX 36 (qN (qN qlQ 3) 8) (qBH f v) (WQ f y):=
 zr qg (E:=qlE N) (L:=qK (qCB N)) (st:=WQ f) (g:=some) (R:=WQ f) (qhj N) (qn (by kernel_rfl) trivial) (rg0 (by kernel_rfl)) (fun v=>by kernel_rfl) (qZ (st:=WQ f) fun y=>by rfl) (js0 rfl) n v y h
def qaI (N:Nat) (o_8_2:qa) (s14_8:List qa) (s15_8:Int) (s16_8:Int) (s33_8:List qc) (s34_8:Int) (o_8:List qh) (s35_8:Int):Option VN:=qmZ N N (o_8_2,s14_8,s15_8,s16_8,s33_8,s34_8) (o_8,s35_8)
def qmH (N:Nat):qz:=smL qmL [(.sl 71 ja),qf,(.sl 19 qf),(.i .i64),(.i .i64),(.sl 4 qo),(.i .i64),(.i .i64)] VN (fun x=>qaI N x.2.1 x.2.2.1 x.2.2.2.1 x.2.2.2.2.1 x.2.2.2.2.2.1 x.2.2.2.2.2.2.1 x.1 x.2.2.2.2.2.2.2.1) cs1 fun x=>WQ (x.2.1,x.2.2.1,x.2.2.2.1,x.2.2.2.2.1,x.2.2.2.2.2.1,x.2.2.2.2.2.2.1)
theorem qyp (N:Nat):jl Tryz.prog qbX 36 (qN (qN qlQ 3) 8) (qmH N):=zA fun x z h=>qAG N (x.2.1,x.2.2.1,x.2.2.2.1,x.2.2.2.2.1,x.2.2.2.2.2.1,x.2.2.2.2.2.2.1) N (x.1,x.2.2.2.2.2.2.2.1) z h
abbrev qbk:=List qa×Int
abbrev VU:=List qh×Int×Bool
def WT (f:qbk) (y:VU):Ex×TSt:=(.exit 0,⟨0,50,[],[(2,.fn (.func 37) [] []),(7,.v 75 y.1.length),(14,.tv (.sl 19 qf) f.1),(15,xi f.2),(16,xi y.2.1),(17,xb y.2.2)],[(75,.vec false 71 (.sl 71 ja) (y.1:List qh))],false,[]⟩)
def qz7 (N:Nat):List (Nat×qz):=[(8,qmH N)]
abbrev WM:=List qh×Int
def qmo:SP:=⟨0,50,[],[(2,.fn 37 [] []),(7,.vs 75),(14,.x (.sl 19 qf)),(15,.x (.i .i64)),(16,.x (.i .i64))],[(75,.vec false 71)],false,[]⟩
def qBy (f:qbk) (v:WM):TSt:=zH qmo [dv (.sl 71 ja) v.1,dv (.sl 19 qf) f.1,dv (.i .i64) f.2,dv (.i .i64) v.2]
def Ya (N:Nat) (s14_3:List qa) (s15_3:Int) (v:WM):Tree (WM⊕VU):=
 .cond (decide (v.2 < s15_3)) (
 .bind (zl s14_3 v.2) fun e1=>
 .cond (!(eqE qk (qa.qB e1) (qd.mk 0 0))) (
 .chk (jG v.1.length v.1.length ((v.1++[qh.mk 0 (qa.ID e1) (qa.qB e1) 0 [] [] ((Vector.replicate 16 0)) 0 ((Vector.replicate 32 0))]).length) 144) <|
 .bind (zY [((v.1++[qh.mk 0 (qa.ID e1) (qa.qB e1) 0 [] [] ((Vector.replicate 16 0)) 0 ((Vector.replicate 32 0))]).length,(v.1++[qh.mk 0 (qa.ID e1) (qa.qB e1) 0 [] [] ((Vector.replicate 16 0)) 0 ((Vector.replicate 32 0))]).length)] (qaI N e1 s14_3 s15_3 v.2 (qa.F e1) (((qa.F e1).length:Nat):Int) (v.1++[qh.mk 0 (qa.ID e1) (qa.qB e1) 0 [] [] ((Vector.replicate 16 0)) 0 ((Vector.replicate 32 0))]) 0)) fun z2=>
 .chk (qw (v.2 + 1)) <|
 .ret (.inl (z2.1,v.2 + 1))) <|
 .bind (zY [(v.1.length,v.1.length)] (qaI N e1 s14_3 s15_3 v.2 (qa.F e1) (((qa.F e1).length:Nat):Int) v.1 0)) fun z2=>
 .chk (qw (v.2 + 1)) <|
 .ret (.inl (z2.1,v.2 + 1))) <|
 .ret (.inr (v.1,v.2,decide (v.2 < s15_3)))
def qmr (N n:Nat) (f:qbk) (v:WM):Option VU:=qV (Ya N f.1 f.2) some n v
theorem qBC (N:Nat) (f:qbk) (n:Nat) (v:WM) (y:VU) (h:qmr N n f v=some y):LG Tryz.prog qbX 36 (qN qlQ 3) (qBy f v) (WT f y):=
 zr qg (E:=qlE N) (L:=qK (qz7 N)) (st:=WT f) (g:=some) (R:=WT f) (qhj N) (qn (by kernel_rfl) ⟨qyp N,trivial⟩) (rg0 (by kernel_rfl)) (fun v=>by kernel_rfl) (qZ (st:=WT f) fun y=>by rfl) (js0 rfl) n v y h
def qeq (N:Nat) (s14_3:List qa) (s15_3:Int) (o_3:List qh) (s16_3:Int):Option VU:=qmr N N (s14_3,s15_3) (o_3,s16_3)
def qmD (N:Nat):qz:=smL qmo [(.sl 71 ja),(.sl 19 qf),(.i .i64),(.i .i64)] VU (fun x=>qeq N x.2.1 x.2.2.1 x.1 x.2.2.2.1) cs1 fun x=>WT (x.2.1,x.2.2.1)
theorem qzr (N:Nat):jl Tryz.prog qbX 36 (qN qlQ 3) (qmD N):=zA fun x z h=>qBC N (x.2.1,x.2.2.1) N (x.1,x.2.2.2.1) z h
def qIv (z:List qh):TV×THp:=(.tv (.sl 71 ja) z,[])
def qkG (N:Nat) (a0:qb) (a1:qt):Tree (List qh):=
 .bind (qhw N a0 a1) fun r1=>
 .bind (zY [(([]:List qh).length,0)] (qeq N r1 ((r1.length:Nat):Int) [] 0)) fun z2=>
 .chk (z2.1.length=z2.1.length) <|
 .ret z2.1
def qj0 (N:Nat) (a0:qb) (a1:qt):Option (List qh):=(qkG N a0 a1).run some
def qH3 (N:Nat):List (Nat×qz):=[(3,qmD N)]
def quN (N:Nat):Ent:=smF ⟨36,[],[.x qi,.x qH,.fn 37 [] []],[],[]⟩ [qi,qH] (List qh) (fun x=>qj0 N x.1 x.2.1) cs1 fun _=>qIv
theorem qFt (N:Nat):ze Tryz.prog (quN N):=
 zc (H:=qbX) (L:=qK (qH3 N)) (ts:=[qi,qH]) (T:=fun x=>qkG N x.1 x.2.1) 0 qVd (qhj N) (qn (by kernel_rfl) ⟨qzr N,trivial⟩) (rg0 (by kernel_rfl)) fun x=>by kernel_rfl
noncomputable def qUb:Code:=Tryz.f14.body.getD .skip
theorem qUv:FnF Tryz.prog 14 Tryz.f14 qUb:=⟨qg,by kernel_rfl,by kernel_rfl,by kernel_rfl⟩
def qCE:TH:={ live:=[(0,[2,3]),(1,[4])] }
def qCM (N:Nat):List Ent:=[quN N]
theorem qzM (N:Nat):qQ Tryz.prog (qCM N):=⟨qFt N,trivial⟩
def qDL (z:List qh):TV×THp:=(.tv (.sl 71 ja) z,[])
def qg6 (N:Nat) (a0:qb) (a1:qt):Tree (List qh):=
 .bind (qj0 N a0 a1) fun r1=>
 .ret r1
def qfq (N:Nat) (a0:qb) (a1:qt):Option (List qh):=(qg6 N a0 a1).run some
def qCK (N:Nat):List (Nat×qz):=[]
def qpS (N:Nat):Ent:=smF ⟨14,[],[.x qi,.x qH],[],[]⟩ [qi,qH] (List qh) (fun x=>qfq N x.1 x.2.1) cs1 fun _=>qDL
theorem qBJ (N:Nat):ze Tryz.prog (qpS N):=
 zc (H:=qCE) (L:=qK (qCK N)) (ts:=[qi,qH]) (T:=fun x=>qg6 N x.1 x.2.1) 0 qUv (qzM N) (qn (by kernel_rfl) trivial) (rg0 (by kernel_rfl)) fun x=>by kernel_rfl
noncomputable def qVZ:Code:=Tryz.f54.body.getD .skip
theorem qU7:FnF Tryz.prog 54 Tryz.f54 qVZ:=⟨qg,by kernel_rfl,by kernel_rfl,by kernel_rfl⟩
def qSN:TH:={ live:=[(0,[1,2]),(1,[1,2,3]),(2,[1,2,3,12]),(3,[1,2,3,12,13]),(4,[2,3]),(5,[1,2,3,12,21]),(6,[2,3]),(7,[1,2,3,35]),(8,[2,3]),(9,[2])] }
def qRi (N:Nat):List Ent:=[]
theorem qK4 (N:Nat):qQ Tryz.prog (qRi N):=trivial
def qRR (z:qh):TV×THp:=(.tv ja z,[])
def qt1 (a0:qh):Tree (qh):=
 .cond (decide ((qh.Kind a0)=((1:Int)))) (
 .ret (qh.mk (qh.Kind a0) (qh.ID a0) (qh.S a0) (qh.No a0) (qh.V a0) [] ((Vector.replicate 16 0)) 0 ((Vector.replicate 32 0)))) <|
 .cond (decide ((qh.Kind a0)=((2:Int)))) (
 .ret (qh.mk (qh.Kind a0) (qh.ID a0) (qh.S a0) (qh.No a0) [] [] (qh.vV a0) (qh.Xw a0) (qh.D a0))) <|
 .cond (decide ((qh.Kind a0)=((3:Int)))) (
 .ret (qh.mk (qh.Kind a0) (qh.ID a0) (qh.S a0) (qh.No a0) [] (qh.P a0) ((Vector.replicate 16 0)) 0 (qh.D a0))) <|
 .ret (qh.mk (qh.Kind a0) (qh.ID a0) (qh.S a0) 0 [] [] ((Vector.replicate 16 0)) 0 ((Vector.replicate 32 0)))
def qwk (a0:qh):Option (qh):=(qt1 a0).run some
def qSz:List (Nat×qz):=[]
def qEP:Ent:=smF ⟨54,[],[.x ja],[],[]⟩ [ja] (qh) (fun x=>qwk x.1) cs1 fun _=>qRR
theorem qOf:ze Tryz.prog (qEP):=
 zc (H:=qSN) (L:=qK (qSz)) (ts:=[ja]) (T:=fun x=>qt1 x.1) 0 qU7 (qK4 0) (qn (by kernel_rfl) trivial) (rg0 (by kernel_rfl)) fun x=>by kernel_rfl
noncomputable def qvl:Code:=Tryz.f153.body.getD .skip
theorem qRr:FnF Tryz.prog 153 Tryz.f153 qvl:=⟨qg,by kernel_rfl,by kernel_rfl,by kernel_rfl⟩
def qak:TH:={ live:=[(0,[0,1]),(1,[0,1,10]),(2,[4]),(3,[0,1,12,13]),(4,[0,1,12,13,14]),(5,[0,1,5,12,13]),(6,[0,1,12,13,24]),(7,[4]),(8,[0,1,12,13]),(9,[4])] }
def qfZ (N:Nat):List Ent:=[]
theorem qdM (N:Nat):qQ Tryz.prog (qfZ N):=trivial
abbrev JP:=List ql×List ql×Int
abbrev vZ:=Unit⊕(Int×Bool)
def Zg (f:JP):vZ→Ex×TSt
 | .inl y=>(.ret,⟨0,26,[],[(4,.bc false)],[],false,[]⟩)
 | .inr y=>(.exit 0,⟨0,26,[],[(0,.tv (.sl 4 qS) f.1),(1,.tv (.sl 4 qS) f.2.1),(12,xi f.2.2),(13,xi y.1),(14,xb y.2)],[],false,[]⟩)
def ql1 (N:Nat):List (Nat×qz):=[]
abbrev Zd:=Int
def qdd:SP:=⟨0,26,[],[(0,.x (.sl 4 qS)),(1,.x (.sl 4 qS)),(12,.x (.i .i64)),(13,.x (.i .i64))],[],false,[]⟩
def qmm (f:JP) (v:Zd):TSt:=zH qdd [dv (.sl 4 qS) f.1,dv (.sl 4 qS) f.2.1,dv (.i .i64) f.2.2,dv (.i .i64) v]
def JW (N:Nat) (s0_4:List ql) (s1_4:List ql) (s12_4:Int) (v:Zd):Tree (Zd⊕vZ):=
 .cond (decide (v < s12_4)) (
 .bind (zl s0_4 v) fun e1=>
 .bind (zl s1_4 v) fun e2=>
 .cond (!(eqE qS e1 e2)) (
 .ret (.inr (.inl ()))) <|
 .chk (qw (v + 1)) <|
 .ret (.inl (v + 1))) <|
 .ret (.inr (.inr ((v,decide (v < s12_4)))))
def qds (N n:Nat) (f:JP) (v:Zd):Option vZ:=qV (JW N f.1 f.2.1 f.2.2) some n v
theorem qmj (N:Nat) (f:JP) (n:Nat) (v:Zd) (y:vZ) (h:qds N n f v=some y):LG Tryz.prog qak 153 (qN qvl 4) (qmm f v) (Zg f y):=
 zr qg (E:=qfZ N) (L:=qK (ql1 N)) (st:=Zg f) (g:=some) (R:=Zg f) (qdM N) (qn (by kernel_rfl) trivial) (rg0 (by kernel_rfl)) (fun v=>by kernel_rfl) (qZ (st:=Zg f) fun y=>by rcases y with _ | _<;>rfl) (js0 rfl) n v y h
def YZ (N:Nat) (s0_4:List ql) (s1_4:List ql) (s12_4:Int) (s13_4:Int):Option vZ:=qds N N (s0_4,s1_4,s12_4) s13_4
def qdh (N:Nat):qz:=smL qdd [(.sl 4 qS),(.sl 4 qS),(.i .i64),(.i .i64)] vZ (fun x=>YZ N x.1 x.2.1 x.2.2.1 x.2.2.2.1) (csS cs1) fun x=>Zg (x.1,x.2.1,x.2.2.1)
theorem qkS (N:Nat):jl Tryz.prog qak 153 (qN qvl 4) (qdh N):=zA fun x z h=>qmj N (x.1,x.2.1,x.2.2.1) N x.2.2.2.1 z h
def qrt (z:Bool):TV×THp:=(xb z,[])
def K5 (N:Nat) (a0:List ql) (a1:List ql):Tree (Bool):=
 .cond (!decide (((a0.length:Nat):Int)=((a1.length:Nat):Int))) (
 .ret false) <|
 .bind (YZ N a0 a1 ((a0.length:Nat):Int) 0) fun z1=>
 .sum z1 (fun z2=>
 .ret false) fun z2=>
 .ret true
def WL (N:Nat) (a0:List ql) (a1:List ql):Option (Bool):=(K5 N a0 a1).run some
def qrv (N:Nat):List (Nat×qz):=[(4,qdh N)]
def qfO (N:Nat):Ent:=smF ⟨153,[],[.x (.sl 4 qS),.x (.sl 4 qS)],[],[]⟩ [(.sl 4 qS),(.sl 4 qS)] (Bool) (fun x=>WL N x.1 x.2.1) cs1 fun _=>qrt
theorem qpn (N:Nat):ze Tryz.prog (qfO N):=
 zc (H:=qak) (L:=qK (qrv N)) (ts:=[(.sl 4 qS),(.sl 4 qS)]) (T:=fun x=>K5 N x.1 x.2.1) 0 qRr (qdM N) (qn (by kernel_rfl) ⟨qkS N,trivial⟩) (rg0 (by kernel_rfl)) fun x=>by kernel_rfl
noncomputable def qV3:Code:=Tryz.f96.body.getD .skip
theorem qTU:FnF Tryz.prog 96 Tryz.f96 qV3:=⟨qg,by kernel_rfl,by kernel_rfl,by kernel_rfl⟩
def qH2:TH:={ live:=[(0,[0,1]),(1,[4])] }
def qJC (N:Nat):List Ent:=[qfO N]
theorem qEn (N:Nat):qQ Tryz.prog (qJC N):=⟨qpn N,trivial⟩
def qJL (z:Bool):TV×THp:=(xb z,[])
def qkX (N:Nat) (a0:List ql) (a1:List ql):Tree (Bool):=
 .bind (WL N a0 a1) fun r1=>
 .ret r1
def qjZ (N:Nat) (a0:List ql) (a1:List ql):Option (Bool):=(qkX N a0 a1).run some
def qG5 (N:Nat):List (Nat×qz):=[]
def qu8 (N:Nat):Ent:=smF ⟨96,[],[.x (.sl 4 qS),.x (.sl 4 qS)],[],[]⟩ [(.sl 4 qS),(.sl 4 qS)] (Bool) (fun x=>qjZ N x.1 x.2.1) cs1 fun _=>qJL
theorem qGf (N:Nat):ze Tryz.prog (qu8 N):=
 zc (H:=qH2) (L:=qK (qG5 N)) (ts:=[(.sl 4 qS),(.sl 4 qS)]) (T:=fun x=>qkX N x.1 x.2.1) 0 qTU (qEn N) (qn (by kernel_rfl) trivial) (rg0 (by kernel_rfl)) fun x=>by kernel_rfl
noncomputable def qWa:Code:=Tryz.f53.body.getD .skip
theorem qUc:FnF Tryz.prog 53 Tryz.f53 qWa:=⟨qg,by kernel_rfl,by kernel_rfl,by kernel_rfl⟩
def qSw:TH:={ live:=[(0,[2,3]),(1,[2,3,5]),(2,[4])],dec:=[11,18,25,33,40,47,54,61] }
def qP6 (N:Nat):List Ent:=[qu8 N]
theorem qKA (N:Nat):qQ Tryz.prog (qP6 N):=⟨qGf N,trivial⟩
def qRb (z:Bool):TV×THp:=(xb z,[])
def quT (N:Nat) (a0:qh) (a1:qh):Tree (Bool):=
 .cond (eqE (.ba 16) (qh.ID a0) (qh.ID a1)) (
 .cond (eqE (.ba 16) (qh.vV a0) (qh.vV a1)) (
 .cond (decide ((qh.No a0)=(qh.No a1))) (
 .cond (decide ((qh.Xw a0)=(qh.Xw a1))) (
 .cond (decide ((qh.Kind a0)=(qh.Kind a1))) (
 .cond (eqE qk (qh.S a0) (qh.S a1)) (
 .cond (decide ((qh.V a0)=(qh.V a1))) (
 .cond (eqE (.ba 32) (qh.D a0) (qh.D a1)) (
 .bind (qjZ N (qh.P a0) (qh.P a1)) fun r1=>
 .ret r1) <|
 .ret false) <|
 .ret false) <|
 .ret false) <|
 .ret false) <|
 .ret false) <|
 .ret false) <|
 .ret false) <|
 .ret false
def qv4 (N:Nat) (a0:qh) (a1:qh):Option (Bool):=(quT N a0 a1).run some
def qSB (N:Nat):List (Nat×qz):=[]
def qFk (N:Nat):Ent:=smF ⟨53,[],[.x ja,.x ja],[],[]⟩ [ja,ja] (Bool) (fun x=>qv4 N x.1 x.2.1) cs1 fun _=>qRb
theorem qOl (N:Nat):ze Tryz.prog (qFk N):=
 zc (H:=qSw) (L:=qK (qSB N)) (ts:=[ja,ja]) (T:=fun x=>quT N x.1 x.2.1) 0 qUc (qKA N) (qn (by kernel_rfl) trivial) (rg0 (by kernel_rfl)) fun x=>by kernel_rfl
noncomputable def qTs:Code:=Tryz.f56.body.getD .skip
theorem qVH:FnF Tryz.prog 56 Tryz.f56 qTs:=⟨qg,by kernel_rfl,by kernel_rfl,by kernel_rfl⟩
def qLc:TH:={ live:=[(0,[0]),(1,[2])],dec:=[5] }
def qLM (N:Nat):List Ent:=[]
theorem qGl (N:Nat):qQ Tryz.prog (qLM N):=trivial
def qK0 (z:Bool):TV×THp:=(xb z,[])
def qoj (a0:Int):Tree (Bool):=
 .cond (decide (((0:Int))≤a0)) (
 .ret (decide (a0 < ((8:Int))))) <|
 .ret false
def qhT (a0:Int):Option (Bool):=(qoj a0).run some
def qL1:List (Nat×qz):=[]
def qx_:Ent:=smF ⟨56,[],[.x (.i .i64)],[],[]⟩ [(.i .i64)] (Bool) (fun x=>qhT x.1) cs1 fun _=>qK0
theorem qHN:ze Tryz.prog (qx_):=
 zc (H:=qLc) (L:=qK (qL1)) (ts:=[(.i .i64)]) (T:=fun x=>qoj x.1) 0 qVH (qGl 0) (qn (by kernel_rfl) trivial) (rg0 (by kernel_rfl)) fun x=>by kernel_rfl
noncomputable def qUu:Code:=Tryz.f22.body.getD .skip
theorem qVP:FnF Tryz.prog 22 Tryz.f22 qUu:=⟨qg,by kernel_rfl,by kernel_rfl,by kernel_rfl⟩
def qTt:TH:={ live:=[(0,[1]),(1,[1,23]),(2,[2]),(3,[2])],dec:=[6,11,18,27,32,37,43] }
def qU9 (N:Nat):List Ent:=[qEP,qFk N,Vw,qx_,qxW N]
theorem qN0 (N:Nat):qQ Tryz.prog (qU9 N):=⟨qOf,qOl N,VE,qHN,qJc N,trivial⟩
def qUm (z:Bool):TV×THp:=(xb z,[])
def qzy (N:Nat) (a0:qh):Tree (Bool):=
 .cond (decide ((qh.Kind a0) < ((0:Int)))) (
 .ret false) <|
 .cond (decide (((4:Int))≤(qh.Kind a0))) (
 .ret false) <|
 .bind (qwk a0) fun r1=>
 .bind (qv4 N a0 r1) fun r2=>
 .cond (!r2) (
 .ret false) <|
 .cond (eqE qk (qh.S a0) (qd.mk 0 0)) (
 .ret false) <|
 .bind (VF (qh.S a0)) fun r3=>
 .cond r3 (
 .bind (qhT (qh.No a0)) fun r4=>
 .cond r4 (
 .bind (qhT (qh.Xw a0)) fun r5=>
 .cond r5 (
 .cond (decide ((((qh.V a0).length:Nat):Int)≤((200:Int)))) (
 .bind (XQ N (qh.P a0)) fun r6=>
 .ret r6) <|
 .ret false) <|
 .ret false) <|
 .ret false) <|
 .ret false
def qz9 (N:Nat) (a0:qh):Option (Bool):=(qzy N a0).run some
def qU2 (N:Nat):List (Nat×qz):=[]
def qHF (N:Nat):Ent:=smF ⟨22,[],[.x ja],[],[]⟩ [ja] (Bool) (fun x=>qz9 N x.1) cs1 fun _=>qUm
theorem qQk (N:Nat):ze Tryz.prog (qHF N):=
 zc (H:=qTt) (L:=qK (qU2 N)) (ts:=[ja]) (T:=fun x=>qzy N x.1) 0 qVP (qN0 N) (qn (by kernel_rfl) trivial) (rg0 (by kernel_rfl)) fun x=>by kernel_rfl
noncomputable def qyn:Code:=Tryz.f68.body.getD .skip
theorem qTO:FnF Tryz.prog 68 Tryz.f68 qyn:=⟨qg,by kernel_rfl,by kernel_rfl,by kernel_rfl⟩
def qog:TH:={ live:=[(0,[2,3,4]),(1,[2,3,4,6]),(2,[2,3,4,6,39]),(3,[4,5]),(4,[2,4,47,48,49]),(5,[2,4,47,48,49,50]),(6,[2,4,8,47,48,49]),(7,[2,4,8,47,48,49,54]),(8,[2,4,9,10,47,48,49]),(9,[2,4,9,10,47,48,49,64]),(10,[4,5]),(11,[2,4,47,48,49]),(12,[2,4,47,48,49]),(13,[4,5])],dec:=[19,23,29,34],nil:=[(0,[⟨.ob 40 [0],43,(.sl 19 qf)⟩]),(3,[⟨.ob 40 [0],43,(.sl 19 qf)⟩]),(10,[⟨.ob 40 [0],43,(.sl 19 qf)⟩])] }
def qxU (N:Nat):List Ent:=[KQ N,qfP,Vw,qmN N,qoE N]
theorem qsn (N:Nat):qQ Tryz.prog (qxU N):=⟨qa0 N,qiz,VE,qrh N,que N,trivial⟩
abbrev qcB:=List qa×List qa×Int
abbrev XY:=(qb×Int×Bool)⊕Int
def Y3 (f:qcB):XY→Ex×TSt
 | .inl y=>(.exit 0,⟨0,70,[],[(2,.p 20 [] 0),(4,.p 40 [] 0),(47,.tv (.sl 19 qf) f.2.1),(48,xi f.2.2),(49,xi y.2.1),(50,xb y.2.2)],[(20,.cell false (.tv qi (y.1:qb))),(40,.cell false (.ag [.v 43 f.1.length])),(43,.vec false 19 (.sl 19 qf) f.1)],false,[]⟩)
 | .inr y=>(.ret,⟨0,70,[],[(4,.p 40 [] 0),(5,xi y)],[(40,.cell false (.ag [.v 43 0])),(43,.vec false 19 (.sl 19 qf) ([]:List qa))],false,[]⟩)
def qDH (N:Nat):List (Nat×qz):=[]
abbrev Km:=qb×Int
def qoR:SP:=⟨0,70,[],[(2,.k (.p 20 [] 0)),(4,.k (.p 40 [] 0)),(47,.x (.sl 19 qf)),(48,.x (.i .i64)),(49,.x (.i .i64))],[(20,.cell false (.x qi)),(40,.cell false (.ag [.vs 43])),(43,.vec false 19)],false,[]⟩
def qDy (f:qcB) (v:Km):TSt:=zH qoR [dv (.sl 19 qf) f.1,dv qi v.1,dv (.sl 19 qf) f.2.1,dv (.i .i64) f.2.2,dv (.i .i64) v.2]
def Y7 (N:Nat) (o_5:List qa) (s47_5:List qa) (s48_5:Int) (v:Km):Tree (Km⊕XY):=
 .cond (decide (v.2 < s48_5)) (
 .bind (zl s47_5 v.2) fun e1=>
 .bind (Jf e1) fun r2=>
 .cond r2 (
 .chk (qw (v.2 + 1)) <|
 .ret (.inl (v.1,v.2 + 1))) <|
 .bind (Yi N v.1 (qb.mk [e1])) fun r3=>
 .cond (!decide (r3.2=0)) (
 .ret (.inr (.inr r3.2))) <|
 .chk (qw (v.2 + 1)) <|
 .ret (.inl (r3.1,v.2 + 1))) <|
 .ret (.inr (.inl (v.1,v.2,decide (v.2 < s48_5))))
def qpE (N n:Nat) (f:qcB) (v:Km):Option XY:=qV (Y7 N f.1 f.2.1 f.2.2) some n v
theorem qDh (N:Nat) (f:qcB) (n:Nat) (v:Km) (y:XY) (h:qpE N n f v=some y):LG Tryz.prog qog 68 (qN qyn 5) (qDy f v) (Y3 f y):=
 zr qg (E:=qxU N) (L:=qK (qDH N)) (st:=Y3 f) (g:=some) (R:=Y3 f) (qsn N) (qn (by kernel_rfl) trivial) (rg0 (by kernel_rfl)) (fun v=>by kernel_rfl) (qZ (st:=Y3 f) fun y=>by rcases y with _ | _<;>rfl) (js0 rfl) n v y h
def Y2 (N:Nat) (o_5:List qa) (s47_5:List qa) (s48_5:Int) (o_5_2:qb) (s49_5:Int):Option XY:=qpE N N (o_5,s47_5,s48_5) (o_5_2,s49_5)
def qpp (N:Nat):qz:=smL qoR [(.sl 19 qf),qi,(.sl 19 qf),(.i .i64),(.i .i64)] XY (fun x=>Y2 N x.1 x.2.2.1 x.2.2.2.1 x.2.1 x.2.2.2.2.1) (csS cs1) fun x=>Y3 (x.1,x.2.2.1,x.2.2.2.1)
theorem qAf (N:Nat):jl Tryz.prog qog 68 (qN qyn 5) (qpp N):=zA fun x z h=>qDh N (x.1,x.2.2.1,x.2.2.2.1) N (x.2.1,x.2.2.2.2.1) z h
def qL0 (z:qb×Int):TV×THp:=(.tup [.tv qi (z.1:qb),xi z.2],[])
def qon (N:Nat) (a0:qb) (a1:qa):Tree (qb×Int):=
 .bind (We N a0) fun r1=>
 .cond (!r1) (
 .chk (0=0) <|
 .ret (qb.mk [],1)) <|
 .bind (Jf a1) fun r2=>
 .cond r2 (
 .chk (0=0) <|
 .ret (qb.mk [],1)) <|
 .bind (VF (qa.qB a1)) fun r3=>
 .cond (!r3) (
 .chk (0=0) <|
 .ret (qb.mk [],1)) <|
 .cond (decide (((0:Int)) < (((qa.F a1).length:Nat):Int))) (
 .bind (qgX N (qa.mk (qa.ID a1) (qd.mk 0 0) (qa.F a1))) fun r4=>
 .cond (!r4) (
 .chk (0=0) <|
 .ret (qb.mk [],1)) <|
 .bind (zY [(([]:List qa).length,0)] (Y2 N [] [qa.mk (qa.ID a1) (qa.qB a1) [],qa.mk (qa.ID a1) (qd.mk 0 0) (qa.F a1)] (((([qa.mk (qa.ID a1) (qa.qB a1) [],qa.mk (qa.ID a1) (qd.mk 0 0) (qa.F a1)]:List qa)).length:Nat):Int) a0 0)) fun z5=>
 .sum z5 (fun z6=>
 .ret (z6.1,0)) fun z6=>
 .chk (0=0) <|
 .ret (qb.mk [],z6)) <|
 .bind (zY [(([]:List qa).length,0)] (Y2 N [] [qa.mk (qa.ID a1) (qa.qB a1) [],qa.mk (qa.ID a1) (qd.mk 0 0) (qa.F a1)] (((([qa.mk (qa.ID a1) (qa.qB a1) [],qa.mk (qa.ID a1) (qd.mk 0 0) (qa.F a1)]:List qa)).length:Nat):Int) a0 0)) fun z4=>
 .sum z4 (fun z5=>
 .ret (z5.1,0)) fun z5=>
 .chk (0=0) <|
 .ret (qb.mk [],z5)
def KB (N:Nat) (a0:qb) (a1:qa):Option (qb×Int):=(qon N a0 a1).run some
def qLA (N:Nat):List (Nat×qz):=[(5,qpp N)]
def qxZ (N:Nat):Ent:=smF ⟨68,[],[.x qi,.x qf],[],[]⟩ [qi,qf] (qb×Int) (fun x=>KB N x.1 x.2.1) cs1 fun _=>qL0
theorem qJD (N:Nat):ze Tryz.prog (qxZ N):=
 zc (H:=qog) (L:=qK (qLA N)) (ts:=[qi,qf]) (T:=fun x=>qon N x.1 x.2.1) 0 qTO (qsn N) (qn (by kernel_rfl) ⟨qAf N,trivial⟩) (rg0 (by kernel_rfl)) fun x=>by kernel_rfl
noncomputable def qUp:Code:=Tryz.f65.body.getD .skip
theorem qVn:FnF Tryz.prog 65 Tryz.f65 qUp:=⟨qg,by kernel_rfl,by kernel_rfl,by kernel_rfl⟩
def qAy:TH:={ live:=[(0,[1]),(1,[2,3])] }
def qA7 (N:Nat):List Ent:=[]
theorem qwR (N:Nat):qQ Tryz.prog (qA7 N):=trivial
def qB4 (a0:zk) (z:Unit):TV×THp:=(.tup [.tv .s (qh.V (zk.o a0)),.ic .i64 0],[])
def qm2 (a0:zk):Tree (Unit):=
 .ret ()
def qiQ (a0:zk):Option (Unit):=(qm2 a0).run some
def qCw:List (Nat×qz):=[]
def qne:Ent:=smF ⟨65,[],[.x jW],[],[]⟩ [jW] (Unit) (fun x=>qiQ x.1) cs1 fun x=>qB4 x.1
theorem qzG:ze Tryz.prog (qne):=
 zc (H:=qAy) (L:=qK (qCw)) (ts:=[jW]) (T:=fun x=>qm2 x.1) 0 qVn (qwR 0) (qn (by kernel_rfl) trivial) (rg0 (by kernel_rfl)) fun x=>by kernel_rfl
noncomputable def qQH:Code:=Tryz.f207.body.getD .skip
theorem qRP:FnF Tryz.prog 207 Tryz.f207 qQH:=⟨qg,by kernel_rfl,by kernel_rfl,by kernel_rfl⟩
def qGz:TH:={ live:=[(0,[1,2]),(1,[3])] }
def qFC (N:Nat):List Ent:=[]
theorem qAF (N:Nat):qQ Tryz.prog (qFC N):=trivial
def qF_ (a0:Vector UInt8 16) (a1:qa) (z:Unit):TV×THp:=(xb (eqE (.ba 16) (qa.ID a1) a0),[(30,.cell false (.tv (.ba 16) a0))])
def qiO (a0:Vector UInt8 16) (a1:qa):Tree (Unit):=
 .ret ()
def qnN (a0:Vector UInt8 16) (a1:qa):Option (Unit):=(qiO a0 a1).run some
def qFQ:List (Nat×qz):=[]
def qsr:Ent:=smF ⟨207,[],[.x qf],[.k (.p 30 [] 0)],[(30,.cell false (.x (.ba 16)))]⟩ [(.ba 16),qf] (Unit) (fun x=>qnN x.1 x.2.1) cs1 fun x=>qF_ x.1 x.2.1
theorem qD7:ze Tryz.prog (qsr):=
 zc (H:=qGz) (L:=qK (qFQ)) (ts:=[(.ba 16),qf]) (T:=fun x=>qiO x.1 x.2.1) 0 qRP (qAF 0) (qn (by kernel_rfl) trivial) (rg0 (by kernel_rfl)) fun x=>by kernel_rfl
noncomputable def qtX:Code:=Tryz.f206.body.getD .skip
theorem qPE:FnF Tryz.prog 206 Tryz.f206 qtX:=⟨qg,by kernel_rfl,by kernel_rfl,by kernel_rfl⟩
def Yp:TH:={ live:=[(0,[0,1]),(1,[0,1,7,8]),(2,[0,1,7,8,9]),(3,[0,1,5,7,8]),(4,[0,1,5,7,8,16]),(5,[4]),(6,[0,1,7,8]),(7,[4])] }
def qd2 (N:Nat):List Ent:=[qsr]
theorem qb0 (N:Nat):qQ Tryz.prog (qd2 N):=⟨qD7,trivial⟩
abbrev Z_:=Vector UInt8 16×List qa×Int
abbrev vz:=Int⊕(Int×Bool)
def Qz (f:Z_):vz→Ex×TSt
 | .inl y=>(.ret,⟨1,19,[30],[(4,xi y)],[(30,.cell false (.tv (.ba 16) f.1))],false,[]⟩)
 | .inr y=>(.exit 0,⟨1,19,[30],[(0,.tv (.sl 19 qf) f.2.1),(1,.fn (.func 207) [] [.p 30 [] 0]),(7,xi f.2.2),(8,xi y.1),(9,xb y.2)],[(30,.cell false (.tv (.ba 16) f.1))],false,[]⟩)
def qjM (N:Nat):List (Nat×qz):=[]
abbrev QG:=Int
def qbr:SP:=⟨1,19,[30],[(0,.x (.sl 19 qf)),(1,.fn 207 [] [.k (.p 30 [] 0)]),(7,.x (.i .i64)),(8,.x (.i .i64))],[(30,.cell false (.x (.ba 16)))],false,[]⟩
def qjF (f:Z_) (v:QG):TSt:=zH qbr [dv (.ba 16) f.1,dv (.sl 19 qf) f.2.1,dv (.i .i64) f.2.2,dv (.i .i64) v]
def QE (N:Nat) (o_2:Vector UInt8 16) (s0_2:List qa) (s7_2:Int) (v:QG):Tree (QG⊕vz):=
 .cond (decide (v < s7_2)) (
 .bind (zl s0_2 v) fun e1=>
 .bind (qnN o_2 e1) fun r2=>
 .cond (eqE (.ba 16) (qa.ID e1) o_2) (
 .ret (.inr (.inl v))) <|
 .chk (qw (v + 1)) <|
 .ret (.inl (v + 1))) <|
 .ret (.inr (.inr ((v,decide (v < s7_2)))))
def qbg (N n:Nat) (f:Z_) (v:QG):Option vz:=qV (QE N f.1 f.2.1 f.2.2) some n v
theorem qjH (N:Nat) (f:Z_) (n:Nat) (v:QG) (y:vz) (h:qbg N n f v=some y):LG Tryz.prog Yp 206 (qN qtX 2) (qjF f v) (Qz f y):=
 zr qg (E:=qd2 N) (L:=qK (qjM N)) (st:=Qz f) (g:=some) (R:=Qz f) (qb0 N) (qn (by kernel_rfl) trivial) (rg0 (by kernel_rfl)) (fun v=>by kernel_rfl) (qZ (st:=Qz f) fun y=>by rcases y with _ | _<;>rfl) (js0 rfl) n v y h
def Wv (N:Nat) (o_2:Vector UInt8 16) (s0_2:List qa) (s7_2:Int) (s8_2:Int):Option vz:=qbg N N (o_2,s0_2,s7_2) s8_2
def qbi (N:Nat):qz:=smL qbr [(.ba 16),(.sl 19 qf),(.i .i64),(.i .i64)] vz (fun x=>Wv N x.1 x.2.1 x.2.2.1 x.2.2.2.1) (csS cs1) fun x=>Qz (x.1,x.2.1,x.2.2.1)
theorem qiZ (N:Nat):jl Tryz.prog Yp 206 (qN qtX 2) (qbi N):=zA fun x z h=>qjH N (x.1,x.2.1,x.2.2.1) N x.2.2.2.1 z h
def qn8 (a0:Vector UInt8 16) (z:Int):TV×THp:=(xi z,[(30,.cell false (.tv (.ba 16) a0))])
def Yq (N:Nat) (a0:Vector UInt8 16) (a1:List qa):Tree (Int):=
 .bind (Wv N a0 a1 ((a1.length:Nat):Int) 0) fun z1=>
 .sum z1 (fun z2=>
 .ret z2) fun z2=>
 .ret (-1)
def XG (N:Nat) (a0:Vector UInt8 16) (a1:List qa):Option (Int):=(Yq N a0 a1).run some
def qoz (N:Nat):List (Nat×qz):=[(2,qbi N)]
def qdZ (N:Nat):Ent:=smF ⟨206,[],[.x (.sl 19 qf),.fn 207 [] [.k (.p 30 [] 0)]],[],[(30,.cell false (.x (.ba 16)))]⟩ [(.ba 16),(.sl 19 qf)] (Int) (fun x=>XG N x.1 x.2.1) cs1 fun x=>qn8 x.1
theorem ql0 (N:Nat):ze Tryz.prog (qdZ N):=
 zc (H:=Yp) (L:=qK (qoz N)) (ts:=[(.ba 16),(.sl 19 qf)]) (T:=fun x=>Yq N x.1 x.2.1) 0 qPE (qb0 N) (qn (by kernel_rfl) ⟨qiZ N,trivial⟩) (rg0 (by kernel_rfl)) fun x=>by kernel_rfl
noncomputable def qPt:Code:=Tryz.f171.body.getD .skip
theorem qSy:FnF Tryz.prog 171 Tryz.f171 qPt:=⟨qg,by kernel_rfl,by kernel_rfl,by kernel_rfl⟩
def qLK:TH:={ live:=[(0,[2,3,4]),(1,[2,4,6]),(2,[2,4,6,12]),(3,[4,5]),(4,[4,5])],nil:=[(0,[⟨.ob 40 [2],45,(.sl 4 qo)⟩]),(3,[⟨.ob 40 [2],45,(.sl 4 qo)⟩])] }
def qLt (N:Nat):List Ent:=[qdZ N,qq6]
theorem qGq (N:Nat):qQ Tryz.prog (qLt N):=⟨ql0 N,qxY,trivial⟩
def qLo (z:qa×Bool):TV×THp:=(.tup [.tv qf (z.1:qa),xb z.2],[])
def qnT (N:Nat) (a0:qb) (a1:Vector UInt8 16):Tree (qa×Bool):=
 .bind (XG N a1 (qb.R a0)) fun r1=>
 .cond (decide (r1 < ((0:Int)))) (
 .chk (0=0) <|
 .ret (qa.mk ((Vector.replicate 16 0)) (qd.mk 0 0) [],false)) <|
 .bind (zl (qb.R a0) r1) fun e2=>
 .bind (qeO e2) fun r3=>
 .ret (qa.mk (qa.ID e2) (qa.qB e2) ((([]:List qc))++(qa.F e2)),true)
def qmQ (N:Nat) (a0:qb) (a1:Vector UInt8 16):Option (qa×Bool):=(qnT N a0 a1).run some
def qLj (N:Nat):List (Nat×qz):=[]
def qxX (N:Nat):Ent:=smF ⟨171,[],[.x qi,.x (.ba 16)],[],[]⟩ [qi,(.ba 16)] (qa×Bool) (fun x=>qmQ N x.1 x.2.1) cs1 fun _=>qLo
theorem qHX (N:Nat):ze Tryz.prog (qxX N):=
 zc (H:=qLK) (L:=qK (qLj N)) (ts:=[qi,(.ba 16)]) (T:=fun x=>qnT N x.1 x.2.1) 0 qSy (qGq N) (qn (by kernel_rfl) trivial) (rg0 (by kernel_rfl)) fun x=>by kernel_rfl
noncomputable def qQ0:Code:=Tryz.f209.body.getD .skip
theorem qQJ:FnF Tryz.prog 209 Tryz.f209 qQ0:=⟨qg,by kernel_rfl,by kernel_rfl,by kernel_rfl⟩
def qG_:TH:={ live:=[(0,[1,2]),(1,[3])] }
def qKk (N:Nat):List Ent:=[]
theorem qEf (N:Nat):qQ Tryz.prog (qKk N):=trivial
def qJx (a0:Int) (a1:qc) (z:Unit):TV×THp:=(xb (decide ((qc.No a1)=a0)),[(30,.cell false (xi a0))])
def qlh (a0:Int) (a1:qc):Tree (Unit):=
 .ret ()
def qrz (a0:Int) (a1:qc):Option (Unit):=(qlh a0 a1).run some
def qKc:List (Nat×qz):=[]
def qto:Ent:=smF ⟨209,[],[.x qo],[.k (.p 30 [] 0)],[(30,.cell false (.x (.i .i64)))]⟩ [(.i .i64),qo] (Unit) (fun x=>qrz x.1 x.2.1) cs1 fun x=>qJx x.1 x.2.1
theorem qF8:ze Tryz.prog (qto):=
 zc (H:=qG_) (L:=qK (qKc)) (ts:=[(.i .i64),qo]) (T:=fun x=>qlh x.1 x.2.1) 0 qQJ (qEf 0) (qn (by kernel_rfl) trivial) (rg0 (by kernel_rfl)) fun x=>by kernel_rfl
noncomputable def quR:Code:=Tryz.f208.body.getD .skip
theorem qSO:FnF Tryz.prog 208 Tryz.f208 quR:=⟨qg,by kernel_rfl,by kernel_rfl,by kernel_rfl⟩
def X3:TH:={ live:=[(0,[0,1]),(1,[0,1,7,8]),(2,[0,1,7,8,9]),(3,[0,1,5,7,8]),(4,[0,1,5,7,8,16]),(5,[4]),(6,[0,1,7,8]),(7,[4])] }
def qcw (N:Nat):List Ent:=[qto]
theorem qaM (N:Nat):qQ Tryz.prog (qcw N):=⟨qF8,trivial⟩
abbrev Zp:=Int×List qc×Int
abbrev jV:=Int⊕(Int×Bool)
def vW (f:Zp):jV→Ex×TSt
 | .inl y=>(.ret,⟨1,19,[30],[(4,xi y)],[(30,.cell false (xi f.1))],false,[]⟩)
 | .inr y=>(.exit 0,⟨1,19,[30],[(0,.tv (.sl 4 qo) f.2.1),(1,.fn (.func 209) [] [.p 30 [] 0]),(7,xi f.2.2),(8,xi y.1),(9,xb y.2)],[(30,.cell false (xi f.1))],false,[]⟩)
def qh5 (N:Nat):List (Nat×qz):=[]
abbrev vY:=Int
def KF:SP:=⟨1,19,[30],[(0,.x (.sl 4 qo)),(1,.fn 209 [] [.k (.p 30 [] 0)]),(7,.x (.i .i64)),(8,.x (.i .i64))],[(30,.cell false (.x (.i .i64)))],false,[]⟩
def qir (f:Zp) (v:vY):TSt:=zH KF [dv (.i .i64) f.1,dv (.sl 4 qo) f.2.1,dv (.i .i64) f.2.2,dv (.i .i64) v]
def vX (N:Nat) (o_2:Int) (s0_2:List qc) (s7_2:Int) (v:vY):Tree (vY⊕jV):=
 .cond (decide (v < s7_2)) (
 .bind (zl s0_2 v) fun e1=>
 .bind (qrz o_2 e1) fun r2=>
 .cond (decide ((qc.No e1)=o_2)) (
 .ret (.inr (.inl v))) <|
 .chk (qw (v + 1)) <|
 .ret (.inl (v + 1))) <|
 .ret (.inr (.inr ((v,decide (v < s7_2)))))
def KE (N n:Nat) (f:Zp) (v:vY):Option jV:=qV (vX N f.1 f.2.1 f.2.2) some n v
theorem qib (N:Nat) (f:Zp) (n:Nat) (v:vY) (y:jV) (h:KE N n f v=some y):LG Tryz.prog X3 208 (qN quR 2) (qir f v) (vW f y):=
 zr qg (E:=qcw N) (L:=qK (qh5 N)) (st:=vW f) (g:=some) (R:=vW f) (qaM N) (qn (by kernel_rfl) trivial) (rg0 (by kernel_rfl)) (fun v=>by kernel_rfl) (qZ (st:=vW f) fun y=>by rcases y with _ | _<;>rfl) (js0 rfl) n v y h
def XH (N:Nat) (o_2:Int) (s0_2:List qc) (s7_2:Int) (s8_2:Int):Option jV:=KE N N (o_2,s0_2,s7_2) s8_2
def KD (N:Nat):qz:=smL KF [(.i .i64),(.sl 4 qo),(.i .i64),(.i .i64)] jV (fun x=>XH N x.1 x.2.1 x.2.2.1 x.2.2.2.1) (csS cs1) fun x=>vW (x.1,x.2.1,x.2.2.1)
theorem qgV (N:Nat):jl Tryz.prog X3 208 (qN quR 2) (KD N):=zA fun x z h=>qib N (x.1,x.2.1,x.2.2.1) N x.2.2.2.1 z h
def qkw (a0:Int) (z:Int):TV×THp:=(xi z,[(30,.cell false (xi a0))])
def X9 (N:Nat) (a0:Int) (a1:List qc):Tree (Int):=
 .bind (XH N a0 a1 ((a1.length:Nat):Int) 0) fun z1=>
 .sum z1 (fun z2=>
 .ret z2) fun z2=>
 .ret (-1)
def Vx (N:Nat) (a0:Int) (a1:List qc):Option (Int):=(X9 N a0 a1).run some
def qlA (N:Nat):List (Nat×qz):=[(2,KD N)]
def qca (N:Nat):Ent:=smF ⟨208,[],[.x (.sl 4 qo),.fn 209 [] [.k (.p 30 [] 0)]],[],[(30,.cell false (.x (.i .i64)))]⟩ [(.i .i64),(.sl 4 qo)] (Int) (fun x=>Vx N x.1 x.2.1) cs1 fun x=>qkw x.1
theorem qjE (N:Nat):ze Tryz.prog (qca N):=
 zc (H:=X3) (L:=qK (qlA N)) (ts:=[(.i .i64),(.sl 4 qo)]) (T:=fun x=>X9 N x.1 x.2.1) 0 qSO (qaM N) (qn (by kernel_rfl) ⟨qgV N,trivial⟩) (rg0 (by kernel_rfl)) fun x=>by kernel_rfl
noncomputable def qR7:Code:=Tryz.f172.body.getD .skip
theorem qQE:FnF Tryz.prog 172 Tryz.f172 qR7:=⟨qg,by kernel_rfl,by kernel_rfl,by kernel_rfl⟩
def qPp:TH:={ live:=[(0,[2,3,4]),(1,[2,4,6]),(2,[2,4,6,12]),(3,[4,5]),(4,[4,5])] }
def qOV (N:Nat):List Ent:=[qca N]
theorem qHm (N:Nat):qQ Tryz.prog (qOV N):=⟨qjE N,trivial⟩
def qNf (z:qe×Bool):TV×THp:=(.tup [.tv qx (z.1:qe),xb z.2],[])
def qp_ (N:Nat) (a0:qa) (a1:Int):Tree (qe×Bool):=
 .bind (Vx N a1 (qa.F a0)) fun r1=>
 .cond (decide (r1 < ((0:Int)))) (
 .ret (qe.mk (qd.mk 0 0) [],false)) <|
 .bind (zl (qa.F a0) r1) fun e2=>
 .ret (qc.C e2,true)
def qrx (N:Nat) (a0:qa) (a1:Int):Option (qe×Bool):=(qp_ N a0 a1).run some
def qNx (N:Nat):List (Nat×qz):=[]
def qAe (N:Nat):Ent:=smF ⟨172,[],[.x qf,.x (.i .i64)],[],[]⟩ [qf,(.i .i64)] (qe×Bool) (fun x=>qrx N x.1 x.2.1) cs1 fun _=>qNf
theorem qK2 (N:Nat):ze Tryz.prog (qAe N):=
 zc (H:=qPp) (L:=qK (qNx N)) (ts:=[qf,(.i .i64)]) (T:=fun x=>qp_ N x.1 x.2.1) 0 qQE (qHm N) (qn (by kernel_rfl) trivial) (rg0 (by kernel_rfl)) fun x=>by kernel_rfl
noncomputable def qSQ:Code:=Tryz.f115.body.getD .skip
theorem qSZ:FnF Tryz.prog 115 Tryz.f115 qSQ:=⟨qg,by kernel_rfl,by kernel_rfl,by kernel_rfl⟩
def qy9:TH:={ live:=[(0,[2,3,4]),(1,[2,8]),(2,[10,11]),(3,[10,26]),(4,[6,7]),(5,[6,7])] }
def qy1 (N:Nat):List Ent:=[qxX N,qAe N]
theorem qtK (N:Nat):qQ Tryz.prog (qy1 N):=⟨qHX N,qK2 N,trivial⟩
def qzi (z:List UInt8×Int):TV×THp:=(.tup [.tv .s (z.1:List UInt8),xi z.2],[])
def qez (N:Nat) (a0:zk) (a1:Vector UInt8 16) (a2:Int):Tree (List UInt8×Int):=
 .bind (qmQ N (zk.b a0) a1) fun r1=>
 .bind (qrx N r1.1 a2) fun r2=>
 .cond (!r2.2) (
 .ret ([],6)) <|
 .ret (qe.V r2.1,0)
def YX (N:Nat) (a0:zk) (a1:Vector UInt8 16) (a2:Int):Option (List UInt8×Int):=(qez N a0 a1 a2).run some
def qzl (N:Nat):List (Nat×qz):=[]
def qeP (N:Nat):Ent:=smF ⟨115,[],[.x jW,.x (.ba 16),.x (.i .i64)],[],[]⟩ [jW,(.ba 16),(.i .i64)] (List UInt8×Int) (fun x=>YX N x.1 x.2.1 x.2.2.1) cs1 fun _=>qzi
theorem qi9 (N:Nat):ze Tryz.prog (qeP N):=
 zc (H:=qy9) (L:=qK (qzl N)) (ts:=[jW,(.ba 16),(.i .i64)]) (T:=fun x=>qez N x.1 x.2.1 x.2.2.1) 0 qSZ (qtK N) (qn (by kernel_rfl) trivial) (rg0 (by kernel_rfl)) fun x=>by kernel_rfl
noncomputable def qRV:Code:=Tryz.f114.body.getD .skip
theorem qSM:FnF Tryz.prog 114 Tryz.f114 qRV:=⟨qg,by kernel_rfl,by kernel_rfl,by kernel_rfl⟩
def qsR:TH:={ live:=[(0,[1,2,3]),(1,[1,2,17]),(2,[6,7]),(3,[6,7])],dec:=[10] }
def qs2 (N:Nat):List Ent:=[qeB N]
theorem qo1 (N:Nat):qQ Tryz.prog (qs2 N):=⟨qeX N,trivial⟩
def qs3 (z:List UInt8×Int):TV×THp:=(.tup [.tv .s (z.1:List UInt8),xi z.2],[])
def qa_ (N:Nat) (a0:zk) (a1:List UInt8) (a2:Int):Tree (List UInt8×Int):=
 .cond (decide (a2=((0:Int)))) (
 .bind (qav N a1) fun r1=>
 .cond (!(eqE (.ba 32) r1 (qh.D (zk.o a0)))) (
 .ret ([],7)) <|
 .ret (a1,a2)) <|
 .ret (a1,a2)
def Xv (N:Nat) (a0:zk) (a1:List UInt8) (a2:Int):Option (List UInt8×Int):=(qa_ N a0 a1 a2).run some
def qs0 (N:Nat):List (Nat×qz):=[]
def qba (N:Nat):Ent:=smF ⟨114,[],[.x jW,.x .s,.x (.i .i64)],[],[]⟩ [jW,.s,(.i .i64)] (List UInt8×Int) (fun x=>Xv N x.1 x.2.1 x.2.2.1) cs1 fun _=>qs3
theorem qgu (N:Nat):ze Tryz.prog (qba N):=
 zc (H:=qsR) (L:=qK (qs0 N)) (ts:=[jW,.s,(.i .i64)]) (T:=fun x=>qa_ N x.1 x.2.1 x.2.2.1) 0 qSM (qo1 N) (qn (by kernel_rfl) trivial) (rg0 (by kernel_rfl)) fun x=>by kernel_rfl
noncomputable def qT9:Code:=Tryz.f66.body.getD .skip
theorem qVf:FnF Tryz.prog 66 Tryz.f66 qT9:=⟨qg,by kernel_rfl,by kernel_rfl,by kernel_rfl⟩
def quE:TH:={ live:=[(0,[1]),(1,[2,3])] }
def quH (N:Nat):List Ent:=[qeP N,qba N]
theorem qq0 (N:Nat):qQ Tryz.prog (quH N):=⟨qi9 N,qgu N,trivial⟩
def qt3 (z:List UInt8×Int):TV×THp:=(.tup [.tv .s (z.1:List UInt8),xi z.2],[])
def qb8 (N:Nat) (a0:zk):Tree (List UInt8×Int):=
 .bind (YX N a0 (qh.vV (zk.o a0)) (qh.Xw (zk.o a0))) fun r1=>
 .bind (Xv N a0 r1.1 r1.2) fun r2=>
 .ret (r2.1,r2.2)
def qad (N:Nat) (a0:zk):Option (List UInt8×Int):=(qb8 N a0).run some
def qu5 (N:Nat):List (Nat×qz):=[]
def qis (N:Nat):Ent:=smF ⟨66,[],[.x jW],[],[]⟩ [jW] (List UInt8×Int) (fun x=>qad N x.1) cs1 fun _=>qt3
theorem qsQ (N:Nat):ze Tryz.prog (qis N):=
 zc (H:=quE) (L:=qK (qu5 N)) (ts:=[jW]) (T:=fun x=>qb8 N x.1) 0 qVf (qq0 N) (qn (by kernel_rfl) trivial) (rg0 (by kernel_rfl)) fun x=>by kernel_rfl
noncomputable def qU1:Code:=Tryz.f67.body.getD .skip
theorem qVm:FnF Tryz.prog 67 Tryz.f67 qU1:=⟨qg,by kernel_rfl,by kernel_rfl,by kernel_rfl⟩
def qzX:TH:={ live:=[(0,[1]),(1,[1,4,5]),(2,[1,4,5,20]),(3,[2,3]),(4,[1,6,7]),(5,[1,6,31]),(6,[2,3]),(7,[2,3])] }
def qzx (N:Nat):List Ent:=[qeP N,qsw N,qba N]
theorem qud (N:Nat):qQ Tryz.prog (qzx N):=⟨qi9 N,qDq N,qgu N,trivial⟩
def qzH (z:List UInt8×Int):TV×THp:=(.tup [.tv .s (z.1:List UInt8),xi z.2],[])
def qeA (N:Nat) (a0:zk):Tree (List UInt8×Int):=
 .bind (YX N a0 (qh.ID (zk.o a0)) (qh.No (zk.o a0))) fun r1=>
 .cond (!decide (r1.2=0)) (
 .ret ([],r1.2)) <|
 .bind (qhy N r1.1 (qh.P (zk.o a0))) fun r2=>
 .cond (!r2.2) (
 .ret ([],7)) <|
 .bind (Xv N a0 r2.1 0) fun r3=>
 .ret (r3.1,r3.2)
def qcD (N:Nat) (a0:zk):Option (List UInt8×Int):=(qeA N a0).run some
def qzD (N:Nat):List (Nat×qz):=[]
def qlu (N:Nat):Ent:=smF ⟨67,[],[.x jW],[],[]⟩ [jW] (List UInt8×Int) (fun x=>qcD N x.1) cs1 fun _=>qzH
theorem qw3 (N:Nat):ze Tryz.prog (qlu N):=
 zc (H:=qzX) (L:=qK (qzD N)) (ts:=[jW]) (T:=fun x=>qeA N x.1) 0 qVm (qud N) (qn (by kernel_rfl) trivial) (rg0 (by kernel_rfl)) fun x=>by kernel_rfl
noncomputable def qVe:Code:=Tryz.f27.body.getD .skip
theorem qUB:FnF Tryz.prog 27 Tryz.f27 qVe:=⟨qg,by kernel_rfl,by kernel_rfl,by kernel_rfl⟩
def qWZ:TH:={ live:=[(0,[2,3,4]),(1,[2,3,4,17]),(2,[4,5]),(3,[2,3,4,6]),(4,[2,3,4,7]),(5,[2,3,4,7,25]),(6,[4,5]),(7,[2,3,4,8,9]),(8,[2,3,4,8,9,44]),(9,[4,5]),(10,[4,5])],dec:=[13,21],nil:=[(0,[⟨.ob 40 [0],43,(.sl 19 qf)⟩]),(2,[⟨.ob 40 [0],43,(.sl 19 qf)⟩]),(9,[⟨.ob 40 [0],43,(.sl 19 qf)⟩])] }
def qXp (N:Nat):List Ent:=[KQ N,qHF N,qxZ N,qne,qis N,qlu N]
theorem qPy (N:Nat):qQ Tryz.prog (qXp N):=⟨qa0 N,qQk N,qJD N,qzG,qsQ N,qw3 N,trivial⟩
def qXe (z:qb×Int):TV×THp:=(.tup [.tv qi (z.1:qb),xi z.2],[])
def qwq (N:Nat) (a0:qb) (a1:qh):Tree (qb×Int):=
 .bind (We N a0) fun r1=>
 .cond (!r1) (
 .chk (0=0) <|
 .ret (qb.mk [],1)) <|
 .bind (qz9 N a1) fun r2=>
 .cond (!r2) (
 .chk (0=0) <|
 .ret (qb.mk [],1)) <|
 .cond (decide ((qh.Kind a1)=0)) (
 .chk (0≤(0:Int)∧(0:Int) < ((4:Nat):Int)) <|
 .bind (KB N a0 (qa.mk (qh.ID a1) (qh.S a1) [])) fun r3=>
 .ret (r3.1,r3.2)) <|
 .cond (decide ((qh.Kind a1)=1)) (
 .chk (0≤(1:Int)∧(1:Int) < ((4:Nat):Int)) <|
 .bind (qiQ (zk.mk a0 a1)) fun r3=>
 .bind (KB N a0 (qa.mk (qh.ID a1) (qd.mk 0 0) [qc.mk (qh.No a1) (qe.mk (qh.S a1) (qh.V a1))])) fun r4=>
 .ret (r4.1,r4.2)) <|
 .cond (decide ((qh.Kind a1)=2)) (
 .chk (0≤(2:Int)∧(2:Int) < ((4:Nat):Int)) <|
 .bind (qad N (zk.mk a0 a1)) fun r3=>
 .cond (!decide (r3.2=0)) (
 .chk (0=0) <|
 .ret (qb.mk [],r3.2)) <|
 .bind (KB N a0 (qa.mk (qh.ID a1) (qd.mk 0 0) [qc.mk (qh.No a1) (qe.mk (qh.S a1) r3.1)])) fun r4=>
 .ret (r4.1,r4.2)) <|
 .cond (decide ((qh.Kind a1)=3)) (
 .chk (0≤(3:Int)∧(3:Int) < ((4:Nat):Int)) <|
 .bind (qcD N (zk.mk a0 a1)) fun r3=>
 .cond (!decide (r3.2=0)) (
 .chk (0=0) <|
 .ret (qb.mk [],r3.2)) <|
 .bind (KB N a0 (qa.mk (qh.ID a1) (qd.mk 0 0) [qc.mk (qh.No a1) (qe.mk (qh.S a1) r3.1)])) fun r4=>
 .ret (r4.1,r4.2)) <|
 .no
def qwj (N:Nat) (a0:qb) (a1:qh):Option (qb×Int):=(qwq N a0 a1).run some
def qXF (N:Nat):List (Nat×qz):=[]
def qMR (N:Nat):Ent:=smF ⟨27,[],[.x qi,.x ja],[],[]⟩ [qi,ja] (qb×Int) (fun x=>qwj N x.1 x.2.1) cs1 fun _=>qXe
theorem qUA (N:Nat):ze Tryz.prog (qMR N):=
 zc (H:=qWZ) (L:=qK (qXF N)) (ts:=[qi,ja]) (T:=fun x=>qwq N x.1 x.2.1) 0 qUB (qPy N) (qn (by kernel_rfl) trivial) (rg0 (by kernel_rfl)) fun x=>by kernel_rfl
noncomputable def qvG:Code:=Tryz.f118.body.getD .skip
theorem qP0:FnF Tryz.prog 118 Tryz.f118 qvG:=⟨qg,by kernel_rfl,by kernel_rfl,by kernel_rfl⟩
def KT:TH:={ live:=[(0,[0,1]),(1,[0,1,10]),(2,[4]),(3,[0,1,12,13]),(4,[0,1,12,13,14]),(5,[0,1,5,12,13]),(6,[0,1,12,13,24]),(7,[4]),(8,[0,1,12,13]),(9,[4])] }
def qgm (N:Nat):List Ent:=[]
theorem qd4 (N:Nat):qQ Tryz.prog (qgm N):=trivial
abbrev JR:=List qc×List qc×Int
abbrev Qa:=Unit⊕(Int×Bool)
def Ze (f:JR):Qa→Ex×TSt
 | .inl y=>(.ret,⟨0,26,[],[(4,.bc false)],[],false,[]⟩)
 | .inr y=>(.exit 0,⟨0,26,[],[(0,.tv (.sl 4 qo) f.1),(1,.tv (.sl 4 qo) f.2.1),(12,xi f.2.2),(13,xi y.1),(14,xb y.2)],[],false,[]⟩)
def ql4 (N:Nat):List (Nat×qz):=[]
abbrev Zc:=Int
def qdt:SP:=⟨0,26,[],[(0,.x (.sl 4 qo)),(1,.x (.sl 4 qo)),(12,.x (.i .i64)),(13,.x (.i .i64))],[],false,[]⟩
def qme (f:JR) (v:Zc):TSt:=zH qdt [dv (.sl 4 qo) f.1,dv (.sl 4 qo) f.2.1,dv (.i .i64) f.2.2,dv (.i .i64) v]
def JT (N:Nat) (s0_4:List qc) (s1_4:List qc) (s12_4:Int) (v:Zc):Tree (Zc⊕Qa):=
 .cond (decide (v < s12_4)) (
 .bind (zl s0_4 v) fun e1=>
 .bind (zl s1_4 v) fun e2=>
 .cond (!(eqE qo e1 e2)) (
 .ret (.inr (.inl ()))) <|
 .chk (qw (v + 1)) <|
 .ret (.inl (v + 1))) <|
 .ret (.inr (.inr ((v,decide (v < s12_4)))))
def qdg (N n:Nat) (f:JR) (v:Zc):Option Qa:=qV (JT N f.1 f.2.1 f.2.2) some n v
theorem ql_ (N:Nat) (f:JR) (n:Nat) (v:Zc) (y:Qa) (h:qdg N n f v=some y):LG Tryz.prog KT 118 (qN qvG 4) (qme f v) (Ze f y):=
 zr qg (E:=qgm N) (L:=qK (ql4 N)) (st:=Ze f) (g:=some) (R:=Ze f) (qd4 N) (qn (by kernel_rfl) trivial) (rg0 (by kernel_rfl)) (fun v=>by kernel_rfl) (qZ (st:=Ze f) fun y=>by rcases y with _ | _<;>rfl) (js0 rfl) n v y h
def qe9 (N:Nat) (s0_4:List qc) (s1_4:List qc) (s12_4:Int) (s13_4:Int):Option Qa:=qdg N N (s0_4,s1_4,s12_4) s13_4
def qdk (N:Nat):qz:=smL qdt [(.sl 4 qo),(.sl 4 qo),(.i .i64),(.i .i64)] Qa (fun x=>qe9 N x.1 x.2.1 x.2.2.1 x.2.2.2.1) (csS cs1) fun x=>Ze (x.1,x.2.1,x.2.2.1)
theorem qkH (N:Nat):jl Tryz.prog KT 118 (qN qvG 4) (qdk N):=zA fun x z h=>ql_ N (x.1,x.2.1,x.2.2.1) N x.2.2.2.1 z h
def qqU (z:Bool):TV×THp:=(xb z,[])
def KL (N:Nat) (a0:List qc) (a1:List qc):Tree (Bool):=
 .cond (!decide (((a0.length:Nat):Int)=((a1.length:Nat):Int))) (
 .ret false) <|
 .bind (qe9 N a0 a1 ((a0.length:Nat):Int) 0) fun z1=>
 .sum z1 (fun z2=>
 .ret false) fun z2=>
 .ret true
def WW (N:Nat) (a0:List qc) (a1:List qc):Option (Bool):=(KL N a0 a1).run some
def qry (N:Nat):List (Nat×qz):=[(4,qdk N)]
def qgA (N:Nat):Ent:=smF ⟨118,[],[.x (.sl 4 qo),.x (.sl 4 qo)],[],[]⟩ [(.sl 4 qo),(.sl 4 qo)] (Bool) (fun x=>WW N x.1 x.2.1) cs1 fun _=>qqU
theorem qoO (N:Nat):ze Tryz.prog (qgA N):=
 zc (H:=KT) (L:=qK (qry N)) (ts:=[(.sl 4 qo),(.sl 4 qo)]) (T:=fun x=>KL N x.1 x.2.1) 0 qP0 (qd4 N) (qn (by kernel_rfl) ⟨qkH N,trivial⟩) (rg0 (by kernel_rfl)) fun x=>by kernel_rfl
noncomputable def qUS:Code:=Tryz.f70.body.getD .skip
theorem qVF:FnF Tryz.prog 70 Tryz.f70 qUS:=⟨qg,by kernel_rfl,by kernel_rfl,by kernel_rfl⟩
def qN3:TH:={ live:=[(0,[2,3]),(1,[4])],dec:=[10,17] }
def qNC (N:Nat):List Ent:=[qgA N]
theorem qKh (N:Nat):qQ Tryz.prog (qNC N):=⟨qoO N,trivial⟩
def qOD (z:Bool):TV×THp:=(xb z,[])
def qqi (N:Nat) (a0:qa) (a1:qa):Tree (Bool):=
 .cond (eqE (.ba 16) (qa.ID a0) (qa.ID a1)) (
 .cond (eqE qk (qa.qB a0) (qa.qB a1)) (
 .bind (WW N (qa.F a0) (qa.F a1)) fun r1=>
 .ret r1) <|
 .ret false) <|
 .ret false
def qqv (N:Nat) (a0:qa) (a1:qa):Option (Bool):=(qqi N a0 a1).run some
def qOw (N:Nat):List (Nat×qz):=[]
def qCk (N:Nat):Ent:=smF ⟨70,[],[.x qf,.x qf],[],[]⟩ [qf,qf] (Bool) (fun x=>qqv N x.1 x.2.1) cs1 fun _=>qOD
theorem qLE (N:Nat):ze Tryz.prog (qCk N):=
 zc (H:=qN3) (L:=qK (qOw N)) (ts:=[qf,qf]) (T:=fun x=>qqi N x.1 x.2.1) 0 qVF (qKh N) (qn (by kernel_rfl) trivial) (rg0 (by kernel_rfl)) fun x=>by kernel_rfl
noncomputable def qzq:Code:=Tryz.f69.body.getD .skip
theorem qVz:FnF Tryz.prog 69 Tryz.f69 qzq:=⟨qg,by kernel_rfl,by kernel_rfl,by kernel_rfl⟩
def Yy:TH:={ live:=[(0,[0,1,2]),(1,[0,1,2,14]),(2,[6]),(3,[1,2,15,16,17]),(4,[1,2,15,16,17,18]),(5,[1,2,7,8,15,16,17]),(6,[1,2,8,9,15,16,17]),(7,[1,2,15,16,17,30]),(8,[6]),(9,[1,2,15,16,17]),(10,[6])] }
def qdP (N:Nat):List Ent:=[qCk N]
theorem qbO (N:Nat):qQ Tryz.prog (qdP N):=⟨qLE N,trivial⟩
abbrev Z8:=List qa×List qa×Int
abbrev vq:=Unit⊕(Int×Bool)
def QD (f:Z8):vq→Ex×TSt
 | .inl y=>(.ret,⟨0,32,[],[(6,.bc false)],[],false,[]⟩)
 | .inr y=>(.exit 0,⟨0,32,[],[(1,.tv (.sl 19 qf) f.1),(2,.fn (.func 70) [] []),(15,.tv (.sl 19 qf) f.2.1),(16,xi f.2.2),(17,xi y.1),(18,xb y.2)],[],false,[]⟩)
def qj7 (N:Nat):List (Nat×qz):=[]
abbrev QA:=Int
def qbm:SP:=⟨0,32,[],[(1,.x (.sl 19 qf)),(2,.fn 70 [] []),(15,.x (.sl 19 qf)),(16,.x (.i .i64)),(17,.x (.i .i64))],[],false,[]⟩
def qjJ (f:Z8) (v:QA):TSt:=zH qbm [dv (.sl 19 qf) f.1,dv (.sl 19 qf) f.2.1,dv (.i .i64) f.2.2,dv (.i .i64) v]
def Jb (N:Nat) (s1_4:List qa) (s15_4:List qa) (s16_4:Int) (v:QA):Tree (QA⊕vq):=
 .cond (decide (v < s16_4)) (
 .bind (zl s15_4 v) fun e1=>
 .bind (zl s1_4 v) fun e2=>
 .bind (qqv N e1 e2) fun r3=>
 .cond (!r3) (
 .ret (.inr (.inl ()))) <|
 .chk (qw (v + 1)) <|
 .ret (.inl (v + 1))) <|
 .ret (.inr (.inr ((v,decide (v < s16_4)))))
def qbo (N n:Nat) (f:Z8) (v:QA):Option vq:=qV (Jb N f.1 f.2.1 f.2.2) some n v
theorem qjY (N:Nat) (f:Z8) (n:Nat) (v:QA) (y:vq) (h:qbo N n f v=some y):LG Tryz.prog Yy 69 (qN qzq 4) (qjJ f v) (QD f y):=
 zr qg (E:=qdP N) (L:=qK (qj7 N)) (st:=QD f) (g:=some) (R:=QD f) (qbO N) (qn (by kernel_rfl) trivial) (rg0 (by kernel_rfl)) (fun v=>by kernel_rfl) (qZ (st:=QD f) fun y=>by rcases y with _ | _<;>rfl) (js0 rfl) n v y h
def qdf (N:Nat) (s1_4:List qa) (s15_4:List qa) (s16_4:Int) (s17_4:Int):Option vq:=qbo N N (s1_4,s15_4,s16_4) s17_4
def qbe (N:Nat):qz:=smL qbm [(.sl 19 qf),(.sl 19 qf),(.i .i64),(.i .i64)] vq (fun x=>qdf N x.1 x.2.1 x.2.2.1 x.2.2.2.1) (csS cs1) fun x=>QD (x.1,x.2.1,x.2.2.1)
theorem qiu (N:Nat):jl Tryz.prog Yy 69 (qN qzq 4) (qbe N):=zA fun x z h=>qjY N (x.1,x.2.1,x.2.2.1) N x.2.2.2.1 z h
def qn0 (z:Bool):TV×THp:=(xb z,[])
def Yr (N:Nat) (a0:List qa) (a1:List qa):Tree (Bool):=
 .cond (!decide (((a0.length:Nat):Int)=((a1.length:Nat):Int))) (
 .ret false) <|
 .bind (qdf N a1 a0 ((a0.length:Nat):Int) 0) fun z1=>
 .sum z1 (fun z2=>
 .ret false) fun z2=>
 .ret true
def XK (N:Nat) (a0:List qa) (a1:List qa):Option (Bool):=(Yr N a0 a1).run some
def qoJ (N:Nat):List (Nat×qz):=[(4,qbe N)]
def qdH (N:Nat):Ent:=smF ⟨69,[],[.x (.sl 19 qf),.x (.sl 19 qf),.fn 70 [] []],[],[]⟩ [(.sl 19 qf),(.sl 19 qf)] (Bool) (fun x=>XK N x.1 x.2.1) cs1 fun _=>qn0
theorem ql5 (N:Nat):ze Tryz.prog (qdH N):=
 zc (H:=Yy) (L:=qK (qoJ N)) (ts:=[(.sl 19 qf),(.sl 19 qf)]) (T:=fun x=>Yr N x.1 x.2.1) 0 qVz (qbO N) (qn (by kernel_rfl) ⟨qiu N,trivial⟩) (rg0 (by kernel_rfl)) fun x=>by kernel_rfl
noncomputable def qVK:Code:=Tryz.f28.body.getD .skip
theorem qVY:FnF Tryz.prog 28 Tryz.f28 qVK:=⟨qg,by kernel_rfl,by kernel_rfl,by kernel_rfl⟩
def qKW:TH:={ live:=[(0,[2,3]),(1,[4])] }
def qKQ (N:Nat):List Ent:=[qdH N]
theorem qFW (N:Nat):qQ Tryz.prog (qKQ N):=⟨ql5 N,trivial⟩
def qKT (z:Bool):TV×THp:=(xb z,[])
def qnn (N:Nat) (a0:qb) (a1:qb):Tree (Bool):=
 .bind (XK N (qb.R a0) (qb.R a1)) fun r1=>
 .ret r1
def qie (N:Nat) (a0:qb) (a1:qb):Option (Bool):=(qnn N a0 a1).run some
def qLX (N:Nat):List (Nat×qz):=[]
def qxR (N:Nat):Ent:=smF ⟨28,[],[.x qi,.x qi],[],[]⟩ [qi,qi] (Bool) (fun x=>qie N x.1 x.2.1) cs1 fun _=>qKT
theorem qKl (N:Nat):ze Tryz.prog (qxR N):=
 zc (H:=qKW) (L:=qK (qLX N)) (ts:=[qi,qi]) (T:=fun x=>qnn N x.1 x.2.1) 0 qVY (qFW N) (qn (by kernel_rfl) trivial) (rg0 (by kernel_rfl)) fun x=>by kernel_rfl
noncomputable def qwm:Code:=Tryz.f7.body.getD .skip
theorem qW4:FnF Tryz.prog 7 Tryz.f7 qwm:=⟨qg,by kernel_rfl,by kernel_rfl,by kernel_rfl⟩
def Xc:TH:={ live:=[(0,[2,3]),(1,[2,3,5]),(2,[2,3,5,6]),(3,[2,3,5,6,7]),(4,[2,3,5,6,7,8,9]),(5,[2,3,5,6,7,8,9,10,11]),(6,[2,3,5,6,7,8,9,10,11,12]),(7,[2,3,5,8,10,57]),(8,[4]),(9,[3,10,13]),(10,[3,10,13,14]),(11,[3,10,13,14,15]),(12,[3,10,13,14,15,66]),(13,[3,10,13,14,15]),(14,[3,10,13,14,15,16,17]),(15,[3,10,13,14,15,16,79]),(16,[4]),(17,[3,10,13,14,15]),(18,[4])],dec:=[39,43,47,51,55,84] }
def qaH (N:Nat):List Ent:=[qHr,qh3 N,qsB N,qoE N,qgh N,qpS N,qMR N,qxR N]
theorem Kj (N:Nat):qQ Tryz.prog (qaH N):=⟨qRu,qs4 N,qDJ N,que N,qoU N,qBJ N,qUA N,qKl N,trivial⟩
abbrev QB:=qb×qb×List qh
abbrev jy:=Unit⊕(qb×Int×Bool)
def vi (f:QB):jy→Ex×TSt
 | .inl y=>(.ret,⟨0,93,[],[(4,.bc false)],[],false,[]⟩)
 | .inr y=>(.exit 0,⟨0,93,[],[(3,.p 30 [] 0),(10,.p 100 [] 0),(13,.tv (.sl 71 ja) f.2.2),(14,.p 140 [] 0),(15,xi y.2.1),(66,xb y.2.2)],[(30,.cell false (.tv qi f.1)),(100,.cell false (.tv qi f.2.1)),(140,.cell false (.tv qi (y.1:qb)))],false,[]⟩)
def qf6 (N:Nat):List (Nat×qz):=[]
abbrev vg:=qb×Int
def Yf:SP:=⟨0,93,[],[(3,.k (.p 30 [] 0)),(10,.k (.p 100 [] 0)),(13,.x (.sl 71 ja)),(14,.k (.p 140 [] 0)),(15,.x (.i .i64))],[(30,.cell false (.x qi)),(100,.cell false (.x qi)),(140,.cell false (.x qi))],false,[]⟩
def qfy (f:QB) (v:vg):TSt:=zH Yf [dv qi f.1,dv qi f.2.1,dv qi v.1,dv (.sl 71 ja) f.2.2,dv (.i .i64) v.2]
def QC (N:Nat) (o_12:qb) (o_12_2:qb) (s13_12:List qh) (v:vg):Tree (vg⊕jy):=
 .cond (decide (v.2 < ((s13_12.length:Nat):Int))) (
 .bind (zl s13_12 v.2) fun e1=>
 .bind (qwj N v.1 e1) fun r2=>
 .cond (!decide (r2.2=0)) (
 .ret (.inr (.inl ()))) <|
 .chk (qw (v.2 + 1)) <|
 .ret (.inl (r2.1,v.2 + 1))) <|
 .ret (.inr (.inr ((v.1,v.2,decide (v.2 < ((s13_12.length:Nat):Int))))))
def Ye (N n:Nat) (f:QB) (v:vg):Option jy:=qV (QC N f.1 f.2.1 f.2.2) some n v
theorem qgk (N:Nat) (f:QB) (n:Nat) (v:vg) (y:jy) (h:Ye N n f v=some y):LG Tryz.prog Xc 7 (qN qwm 12) (qfy f v) (vi f y):=
 zr qg (E:=qaH N) (L:=qK (qf6 N)) (st:=vi f) (g:=some) (R:=vi f) (Kj N) (qn (by kernel_rfl) trivial) (rg0 (by kernel_rfl)) (fun v=>by kernel_rfl) (qZ (st:=vi f) fun y=>by rcases y with _ | _<;>rfl) (js0 rfl) n v y h
def Vk (N:Nat) (o_12:qb) (o_12_2:qb) (s13_12:List qh) (o_12_3:qb) (s15_12:Int):Option jy:=Ye N N (o_12,o_12_2,s13_12) (o_12_3,s15_12)
def W5 (N:Nat):qz:=smL Yf [qi,qi,qi,(.sl 71 ja),(.i .i64)] jy (fun x=>Vk N x.1 x.2.1 x.2.2.2.1 x.2.2.1 x.2.2.2.2.1) (csS cs1) fun x=>vi (x.1,x.2.1,x.2.2.2.1)
theorem qfh (N:Nat):jl Tryz.prog Xc 7 (qN qwm 12) (W5 N):=zA fun x z h=>qgk N (x.1,x.2.1,x.2.2.2.1) N (x.2.2.1,x.2.2.2.2.1) z h
def qiD (z:Bool):TV×THp:=(xb z,[])
def Xh (N:Nat) (a0:qb) (a1:qb):Tree (Bool):=
 .bind (qI1) fun r1=>
 .bind (Wc N a0) fun r2=>
 .bind (Wc N a1) fun r3=>
 .bind (Yo N a1) fun r4=>
 .bind (Yi N a0 a1) fun r5=>
 .bind (WN N a0 a1) fun r6=>
 .cond (!r1) (
 .ret r1) <|
 .cond (!r2) (
 .ret r1) <|
 .cond (!r3) (
 .ret r1) <|
 .cond (!r4.2) (
 .ret r1) <|
 .cond (!decide (r5.2=0)) (
 .ret r1) <|
 .cond r6 (
 .ret r1) <|
 .bind (qfq N a0 r4.1) fun r7=>
 .bind (Vk N a1 r5.1 r7 a1 0) fun z8=>
 .sum z8 (fun z9=>
 .ret false) fun z9=>
 .bind (qie N z9.1 r5.1) fun r10=>
 .cond r10 (
 .bind (qie N r5.1 a1) fun r11=>
 .ret (eqE .b (decide (((r7.length:Nat):Int)=((0:Int)))) r11)) <|
 .ret false
def vO (N:Nat) (a0:qb) (a1:qb):Option (Bool):=(Xh N a0 a1).run some
def qiK (N:Nat):List (Nat×qz):=[(12,W5 N)]
theorem qg2 (N:Nat):YJ Tryz.prog ⟨7,[],[.x qi,.x qi],[],[]⟩ [qi,qi] (fun x=>Xh N x.1 x.2.1) (fun _=>qiD):=
 Xz (H:=Xc) (L:=qK (qiK N)) 0 qW4 (Kj N) (qn (by kernel_rfl) ⟨qfh N,trivial⟩) (rg0 (by kernel_rfl)) fun x=>by kernel_rfl
end Go.Rx
end
set_option maxRecDepth 100000
noncomputable section
namespace Go.Rx
open Go.Proofs
abbrev vm (q:Nat→Bool) (n:Nat):Bool:=qIC q n 0
theorem Qu {q:Nat→Bool} {n:Nat}:vm q n=true↔∀ j,j < n→q j=true:=by
 unfold vm; rw [qJ0]
 exact ⟨fun h j hj=>h j (Nat.zero_le _) (by omega),fun h j _ hj=>h j (by omega)⟩
theorem qPZ {p q:Nat→Bool} {n:Nat} (h:Qm p n 0=none) (hq:∀ j,j < n→p j=!q j):vm q n=true:=
 Qu.2 fun j hj=>by
  have:=qx5 h j (Nat.zero_le _) (by omega)
  rw [hq j hj] at this; simpa using this
theorem qQF {p q:Nat→Bool} {n i:Nat} (h:Qm p n 0=some i) (hq:∀ j,j < n→p j=!q j):vm q n=false:=by
 obtain ⟨h1,_,h2,_⟩:=qoh h
 cases e:vm q n with
 | false=>rfl
 | true=>
  have:=Qu.1 e i (by omega)
  rw [hq i (by omega),this] at h1; simp at h1
theorem XT {α Y : Type} {B : Int → Tree (Int ⊕ (α ⊕ (Int × Bool)))} {g : α ⊕ (Int × Bool) → Option Y} {q : Nat → Bool} {n : Nat} {hit : α}
    (h1:∀ k,k < n→(B (k:Int)).run some=some (if q k then .inl ((k + 1:Nat):Int) else .inr (.inl hit))) (h2:(B (n:Int)).run some=some (.inr (.inr (((n:Nat):Int),false)))) {N:Nat} (hN:n < N) :
    qV B g N ((0:Nat):Int)=g (if vm q n then .inr (((n:Nat):Int),false) else .inl hit):=by
 rw [qeW (p:=fun k=>!q k) (hit:=fun _=>.inl hit) (fin:=.inr (((n:Nat):Int),false)) (n:=n) (fun k hk=>by rw [h1 k hk]; cases q k<;>rfl) h2 N 0 (Nat.zero_le _) (by omega),Nat.sub_zero]
 cases e:Qm (fun k=>!q k) n 0 with
 | none=>rw [qPZ e fun _ _=>rfl]; rfl
 | some i=>rw [qQF e fun _ _=>rfl]; rfl
theorem qew {α:Type} {d:α} {l:List α} {k:Nat} (h:k < l.length):l.take (k + 1)=l.take k++[l.getD k d]:=by
 rw [List.take_succ_eq_append_getElem h,List.getD_eq_getElem?_getD,List.getElem?_eq_getElem h]; rfl
class ZB (N:Nat):Prop where
 h:100000≤N
theorem ZB.of {N:Nat} (h:100000≤N):ZB N:=⟨h⟩
theorem big (N:Nat) [ZB N]:100000≤N:=ZB.h
abbrev zSt:qd:=((0:Int),(0:Int))
theorem qwz {k:Nat} (h:k≤1000000):qw ((k + 1:Nat):Int):=by unfold qw; omega
theorem qTE {c n:Nat}:decide (((c:Nat):Int) < ((n:Nat):Int))=!decide (n≤c):=by
 by_cases h:n≤c
 ·rw [decide_eq_true h,decide_eq_false (by omega)]; rfl
 ·rw [decide_eq_false h,decide_eq_true (by omega)]; rfl
def stB (a:qd):Bool:=decide (a=zSt)||(decide (0 < a.1)&&decide (a.1≤1099511627776)&&decide (0≤a.2)&&decide (a.2 < 8))
def slB (a b:qd):Bool:=decide (a.1 < b.1∨(a.1=b.1∧a.2 < b.2))
theorem qfU (a b:qd):eqE qk a b=decide (a=b):=Bool.eq_iff_iff.2 ((Q2 qk a b).trans (decide_eq_true_iff (p:=(a:Int×Int)=b)).symm)
theorem qDS (a b:Vector UInt8 16):eqE (.ba 16) a b=decide (a=b):=Bool.eq_iff_iff.2 ((Q2 (.ba 16) a b).trans (decide_eq_true_iff (p:=(a:Vector UInt8 16)=b)).symm)
theorem qcg (a:qd):VF a=some (stB a):=by
 unfold VF qoI
 have e:=qfU a (qd.mk 0 0)
 simp only [Tree.run,e]
 show (bif decide (a=zSt) then _ else _)=some (decide (a=zSt)||_)
 cases decide (a=zSt) with
 | true=>rfl
 | false=>
  show (bif decide (0 < a.1) then _ else _)=_
  cases decide (0 < a.1) with
  | false=>rfl
  | true=>
   show (bif decide (a.1≤1099511627776) then _ else _)=_
   cases decide (a.1≤1099511627776) with
   | false=>rfl
   | true=>
    show (bif decide (0≤a.2) then _ else _)=_
    cases decide (0≤a.2)<;>rfl
end Go.Rx
end
set_option maxRecDepth 100000
noncomputable section
namespace Go.Rx
open Go.Proofs
abbrev zP:ql:=(false,0,0,[])
def inP (a lo hi:Int):Bool:=decide (lo≤a)&&decide (a≤hi)
def Xm (p:ql):Bool:=bif p.qhu then inP p.vV 0 200&&inP p.Len 1 200&&decide (p.Lit=[]) else decide (p=(false,0,0,p.Lit))&&inP (p.Lit.length:Nat) 1 200
theorem qTo (a b:ql):eqE qS a b=decide (a=b):=Bool.eq_iff_iff.2 ((Q2 qS a b).trans (decide_eq_true_iff (p:=(a:Bool×Int×Int×List UInt8)=b)).symm)
theorem qIp (a lo hi:Int):qg0 a lo hi=some (inP a lo hi):=by
 unfold qg0 qqf inP
 exact vp rfl (fun h=>qC (by rw [h]; rfl)) fun h=>qC (by rw [h]; rfl)
theorem qT7 (p:ql):qnf p=some (Xm p):=by
 unfold qnf qnE Xm
 refine vp rfl (fun h=>?_) fun h=>?_
 ·rw [h]
  refine qu (qIp _ _ _) <| vp rfl (fun h1=>?_) fun h1=>qC (by rw [h1]; rfl)
  refine qu (qIp _ _ _) <| vp rfl (fun h2=>?_) fun h2=>qC (by rw [h1,h2]; rfl)
  exact qC (by rw [h1,h2]; rfl)
 ·rw [h]
  exact vp (qTo _ _) (fun h1=>qu (qIp _ _ _) (qC (by rw [show decide (p=(false,0,0,p.Lit))=true from h1]; rfl))) fun h1=>qC (by rw [show decide (p=(false,0,0,p.Lit))=false from h1]; rfl)
def qiT (l:List ql) (k:Nat):Int:=((l.take k).map fun p=>p.Len + ((p.Lit.length:Nat):Int)).sum
def qc5 (l:List ql):Bool:=vm (fun k=>Xm (l.getD k zP)) l.length&&decide (l.length≤60)&&decide (qiT l l.length≤200)
theorem qEL {l:List ql} {k:Nat} (h:k < l.length):qiT l (k + 1)=qiT l k + ((l.getD k zP).Len + (((l.getD k zP).Lit.length:Nat):Int)):=by
 unfold qiT
 rw [qew (d:=zP) h,List.map_append,List.sum_append]; simp
theorem qvU {p:ql} (h:Xm p=true):0≤p.Len + ((p.Lit.length:Nat):Int)∧p.Len + ((p.Lit.length:Nat):Int)≤200∧0≤p.Len:=by
 unfold Xm inP at h
 cases e:p.qhu with
 | true=>
  rw [e,cond_true] at h
  simp only [Bool.and_eq_true,decide_eq_true_eq] at h
  obtain ⟨⟨_,h1,h2⟩,h3⟩:=h
  rw [h3]; simp only [List.length_nil]; omega
 | false=>
  rw [e,cond_false] at h
  simp only [Bool.and_eq_true,decide_eq_true_eq] at h
  obtain ⟨h1,h2,h3⟩:=h
  have:p.Len=0:=by rw [h1]; rfl
  omega
theorem qM7 {l:List ql}:∀ {k:Nat},k≤l.length→(∀ j,j < k→Xm (l.getD j zP)=true)→0≤qiT l k∧qiT l k≤200 * (k:Int)
 | 0,_,_=>by unfold qiT; simp
 | k + 1,hk,h=>by
  have h1:=qM7 (k:=k) (by omega) fun j hj=>h j (by omega)
  have h2:=qvU (h k (by omega))
  rw [qEL (by omega)]; omega
theorem qCg {V W Y : Type} {B : V → Tree (V ⊕ W)} {g : W → Option Y} {at_ : Nat → V} {q : Nat → Bool} {n : Nat} {hit fin : W}
    (h1:∀ k,k < n→(∀ j,j < k→q j=true)→(B (at_ k)).run some=some (if q k then .inl (at_ (k + 1)) else .inr hit)) (h2:(B (at_ n)).run some=some (.inr fin)) :
    ∀ (m k:Nat),k + m=n→∀ N,m < N→(∀ j,j < k→q j=true)→qV B g N (at_ k)=g (if vm q n then fin else hit)
 | 0,k,hk,N + 1,_,hq=>by
  obtain rfl:k=n:=by omega
  rw [jb h2,if_pos (Qu.2 hq)]
 | m + 1,k,hk,N + 1,hN,hq=>by
  have h:=h1 k (by omega) hq
  cases e:q k with
  | true=>
   rw [e,if_pos rfl] at h
   rw [JM h]
   exact qCg h1 h2 m (k + 1) (by omega) N (by omega) fun j hj=>by
    by_cases ej:j=k
    ·rw [ej]; exact e
    ·exact hq j (by omega)
  | false=>
   rw [e,if_neg (by simp)] at h
   rw [jb h,if_neg (fun ha=>by have:=Qu.1 ha k (by omega); rw [e] at this; cases this)]
 | _,_,_,0,hN,_=>by omega
section
variable {N:Nat} [ZB N]
theorem qR8 {l : List ql} (hl : l.length < N) (hl2 : l.length ≤ 1000000000000000) :
    qkT N l l ((l.length:Nat):Int) 0 0=some (if vm (fun k=>Xm (l.getD k zP)) l.length then .inr (qiT l l.length,((l.length:Nat):Int),false) else .inl ()):=by
 refine (qCg (B:=qc0 N l l ((l.length:Nat):Int)) (g:=some) (at_:=fun k=>(qiT l k,(k:Int))) (q:=fun k=>Xm (l.getD k zP)) (n:=l.length) (hit:=.inl ()) (fin:=.inr (qiT l l.length,((l.length:Nat):Int),false)) (fun k hk hq=>?_) ?_ l.length 0 (by omega) N (by omega) (fun j hj=>by omega)).trans ?_
 ·unfold qc0
  refine w_t (dec_lt hk) <| qu (zO (d:=zP) hk) <| qu (qT7 _) <| vp rfl (fun h=>?_) fun h=>?_
  ·have h':Xm (l.getD k zP)=false:=by rw [Bool.not_eq_true'] at h; exact h
   rw [h']; exact qC rfl
  ·have h':Xm (l.getD k zP)=true:=by rw [Bool.not_eq_false'] at h; exact h
   have h1:=qM7 (k:=k) (Nat.le_of_lt hk) hq
   have h2:=qvU h'
   rw [h']
   refine qY (show qw ((l.getD k zP).Len + (((l.getD k zP).Lit.length:Nat):Int)) by unfold qw; omega) <| qY (show qw (qiT l k + ((l.getD k zP).Len + (((l.getD k zP).Lit.length:Nat):Int))) by unfold qw; omega) <| qY (jm (by omega)) <| qC ?_
   rw [if_pos rfl,qEL hk,zf]
 ·unfold qc0
  exact w_f (zn (Nat.lt_irrefl _)) (qC (by rw [zn (Nat.lt_irrefl _)]))
 ·split<;>rfl
theorem qEW {l:List ql} (hl:l.length < N) (hl2:l.length≤1000000000000000):XQ N l=some (qc5 l):=by
 unfold XQ qnu qc5
 refine qu (qR8 hl hl2) ?_
 cases vm (fun k=>Xm (l.getD k zP)) l.length with
 | false=>rfl
 | true=>
  refine w_r rfl <| vp (c:=decide (l.length≤60)) (decide_eq_decide.2 (by omega)) (fun h=>qC ?_) fun h=>qC ?_
  ·rw [h]; rfl
  ·rw [h]; rfl
end
section
variable {N:Nat}
theorem qTF {l m : List ql} (hl : l.length < N) (hm : m.length = l.length) (hl2 : l.length ≤ 1000000000000000) :
    YZ N l m ((l.length:Nat):Int) 0=some (if vm (fun k=>decide (l.getD k zP=m.getD k zP)) l.length then .inr (((l.length:Nat):Int),false) else .inl ()):=by
 refine (XT (B:=JW N l m ((l.length:Nat):Int)) (g:=some) (q:=fun k=>decide (l.getD k zP=m.getD k zP)) (n:=l.length) (hit:=()) (fun k hk=>?_) ?_ hl)
 ·unfold JW
  refine w_t (dec_lt hk) <| qu (zO (d:=zP) hk) <| qu (zO (d:=zP) (by omega)) <| vp rfl (fun h=>?_) fun h=>?_
  ·have h':decide (l.getD k zP=m.getD k zP)=false:=by rw [qTo,Bool.not_eq_true'] at h; exact h
   rw [h']; exact qC rfl
  ·have h':decide (l.getD k zP=m.getD k zP)=true:=by rw [qTo,Bool.not_eq_false'] at h; exact h
   rw [h']; exact qY (jm (by omega)) <| qC (by rw [zf]; rfl)
 ·unfold JW
  exact w_f (zn (Nat.lt_irrefl _)) (qC (by rw [zn (Nat.lt_irrefl _)]))
theorem qFu {α:Type} {d:α} {l m:List α} (h:m.length=l.length) (hg:∀ k,k < l.length→l.getD k d=m.getD k d):l=m:=by
 refine List.ext_getElem h.symm fun i h1 h2=>?_
 have:=hg i h1
 rw [List.getD_eq_getElem?_getD,List.getD_eq_getElem?_getD,List.getElem?_eq_getElem h1,List.getElem?_eq_getElem h2] at this
 exact this
theorem qVV {l m:List ql} (hl:l.length < N) (hl2:l.length≤1000000000000000):qjZ N l m=some (decide (l=m)):=by
 have e:WL N l m=some (decide (l=m)):=by
  unfold WL K5
  by_cases hm:m.length=l.length
  ·refine w_f (by rw [decide_eq_true (by omega)]; rfl) <| qu (qTF hl hm hl2) ?_
   cases e:vm (fun k=>decide (l.getD k zP=m.getD k zP)) l.length with
   | true=>
    have:l=m:=qFu hm fun k hk=>of_decide_eq_true (Qu.1 e k hk)
    exact w_r rfl (qC (by rw [decide_eq_true this]))
   | false=>
    have:¬ l=m:=fun h=>by
     rw [Qu.2 (fun k _=>by rw [h]; exact decide_eq_true rfl)] at e; cases e
    exact w_l rfl (qC (by rw [decide_eq_false this]))
  ·exact w_t (by rw [decide_eq_false (by omega)]; rfl) (qC (by rw [decide_eq_false (fun h=>hm (by rw [h]))]))
 unfold qjZ qkX
 exact qu e (qC rfl)
theorem qXZ (a b:Vector UInt8 32):eqE (.ba 32) a b=decide (a=b):=Bool.eq_iff_iff.2 ((Q2 (.ba 32) a b).trans (decide_eq_true_iff (p:=(a:Vector UInt8 32)=b)).symm)
theorem qPs {a b:qh} (hl:(qh.P a).length < N) (hl2:(qh.P a).length≤1000000000000000):qv4 N a b=some (decide (a=b)):=by
 unfold qv4 quT
 have no:∀ {p:Prop} [Decidable p],(a=b→p)→decide p=false→some false=some (decide (a=b)):=fun hp h=>by rw [decide_eq_false (fun e=>of_decide_eq_false h (hp e))]
 refine vp (qDS _ _) (fun h1=>?_) fun h1=>qC (no (fun e=>by rw [e]) h1)
 refine vp (qDS _ _) (fun h2=>?_) fun h2=>qC (no (fun e=>by rw [e]) h2)
 refine vp rfl (fun h3=>?_) fun h3=>qC (no (fun e=>by rw [e]) h3)
 refine vp rfl (fun h4=>?_) fun h4=>qC (no (fun e=>by rw [e]) h4)
 refine vp rfl (fun h5=>?_) fun h5=>qC (no (fun e=>by rw [e]) h5)
 refine vp (qfU _ _) (fun h6=>?_) fun h6=>qC (no (fun e=>by rw [e]) h6)
 refine vp rfl (fun h7=>?_) fun h7=>qC (no (fun e=>by rw [e]) h7)
 refine vp (qXZ _ _) (fun h8=>?_) fun h8=>qC (no (fun e=>by rw [e]) h8)
 refine qu (qVV hl hl2) <| qC ?_
 have key:qh.P a=qh.P b↔a=b:=by
  obtain ⟨a1,a2,a3,a4,a5,a6,a7,a8,a9⟩:=a
  obtain ⟨b1,b2,b3,b4,b5,b6,b7,b8,b9⟩:=b
  have e1:a2=b2:=of_decide_eq_true h1
  have e2:a7=b7:=of_decide_eq_true h2
  have e3:a4=b4:=of_decide_eq_true h3
  have e4:a8=b8:=of_decide_eq_true h4
  have e5:a1=b1:=of_decide_eq_true h5
  have e6:a3=b3:=of_decide_eq_true h6
  have e7:a5=b5:=of_decide_eq_true h7
  have e8:a9=b9:=of_decide_eq_true h8
  subst e1 e2 e3 e4 e5 e6 e7 e8
  exact ⟨fun h=>by have h:a6=b6:=h; rw [h],fun h=>by rw [h]⟩
 exact congrArg some (decide_eq_decide.2 key)
end
theorem qE_ (a:Int):qhT a=some (decide (0≤a)&&decide (a < 8)):=by
 unfold qhT qoj
 exact vp rfl (fun h=>qC (by rw [h]; rfl)) fun h=>qC (by rw [h]; rfl)
end Go.Rx
end
set_option maxRecDepth 100000
noncomputable section
namespace Go.Rx
open Go.Proofs
abbrev zI:Vector UInt8 16:=Vector.replicate 16 0
abbrev zD:Vector UInt8 32:=Vector.replicate 32 0
def qGY (o:qh):qh:=
 if o.Kind=1 then .mk o.Kind o.ID o.S o.No o.V [] zI 0 zD
 else if o.Kind=2 then .mk o.Kind o.ID o.S o.No [] [] o.vV o.Xw o.D
 else if o.Kind=3 then .mk o.Kind o.ID o.S o.No [] o.P zI 0 o.D
 else .mk o.Kind o.ID o.S 0 [] [] zI 0 zD
def qHi (a:Int):Bool:=decide (0≤a)&&decide (a < 8)
def opB (o:qh):Bool:=!decide (o.Kind < 0)&&!decide (4≤o.Kind)&&decide (o=qGY o)&&!decide (o.S=zSt)&&stB o.S&&qHi o.No&&qHi o.Xw&&decide ((o.V.length:Int)≤200)&&qc5 o.P
theorem qD6 {o:qh}:opB o=true↔(0≤o.Kind∧o.Kind < 4)∧o=qGY o∧o.S≠zSt∧stB o.S=true∧(0≤o.No∧o.No < 8)∧(0≤o.Xw∧o.Xw < 8)∧o.V.length≤200∧qc5 o.P=true:=by
 unfold opB qHi
 simp only [Bool.and_eq_true,Bool.not_eq_true',decide_eq_false_iff_not,decide_eq_true_iff]
 constructor
 ·rintro ⟨⟨⟨⟨⟨⟨⟨⟨h1,h2⟩,h3⟩,h4⟩,h5⟩,h6⟩,h7⟩,h8⟩,h9⟩
  exact ⟨by omega,h3,h4,h5,h6,h7,by omega,h9⟩
 ·rintro ⟨h1,h3,h4,h5,h6,h7,h8,h9⟩
  exact ⟨⟨⟨⟨⟨⟨⟨⟨by omega,by omega⟩,h3⟩,h4⟩,h5⟩,h6⟩,h7⟩,by omega⟩,h9⟩
theorem qXx (o:qh):qwk o=some (qGY o):=by
 unfold qwk qt1 qGY
 refine vp rfl (fun h=>qC ?_) fun h=>vp rfl (fun h2=>qC ?_) fun h2=>vp rfl (fun h3=>qC ?_) fun h3=>qC ?_
 ·rw [if_pos (of_decide_eq_true h)]
 ·rw [if_neg (of_decide_eq_false h),if_pos (of_decide_eq_true h2)]
 ·rw [if_neg (of_decide_eq_false h),if_neg (of_decide_eq_false h2),if_pos (of_decide_eq_true h3)]
 ·rw [if_neg (of_decide_eq_false h),if_neg (of_decide_eq_false h2),if_neg (of_decide_eq_false h3)]
section
variable {N:Nat} [ZB N]
theorem qIc {o:qh} (hl:(qh.P o).length < N) (hl2:(qh.P o).length≤1000000000000000):qz9 N o=some (opB o):=by
 unfold qz9 qzy opB
 refine vp rfl (fun h1=>qC (by rw [h1]; rfl)) fun h1=>?_
 refine vp rfl (fun h2=>qC (by rw [h1,h2]; rfl)) fun h2=>?_
 refine qu (qXx o) <| qu (qPs hl hl2) ?_
 refine vp rfl (fun h3=>qC ?_) fun h3=>?_
 ·rw [Bool.not_eq_true'] at h3
  rw [h1,h2,h3]; rfl
 rw [Bool.not_eq_false'] at h3
 refine vp (qfU _ _) (fun h4=>qC ?_) fun h4=>?_
 ·have h4:decide (o.S=zSt)=true:=h4
  rw [h1,h2,h3,h4]; rfl
 have h4:decide (o.S=zSt)=false:=h4
 refine qu (qcg _) <| vp rfl (fun h5=>?_) fun h5=>qC (by rw [h1,h2,h3,h4,h5]; rfl)
 refine qu (qE_ _) <| vp (show _=qHi o.No from rfl) (fun h6=>?_) fun h6=>qC (by rw [h1,h2,h3,h4,h5,h6]; rfl)
 refine qu (qE_ _) <| vp (show _=qHi o.Xw from rfl) (fun h7=>?_) fun h7=>qC (by rw [h1,h2,h3,h4,h5,h6,h7]; rfl)
 refine vp rfl (fun h8=>?_) fun h8=>qC (by rw [h1,h2,h3,h4,h5,h6,h7,h8]; rfl)
 exact qu (qEW hl hl2) <| qC (by rw [h1,h2,h3,h4,h5,h6,h7,h8]; rfl)
end
end Go.Rx
end
set_option maxRecDepth 100000
noncomputable section
namespace Go.Rx
open Go.Proofs
abbrev zE:qv:=qv.mk 0 zSt 0 (Vector.replicate 32 0) []
abbrev zL:qp:=qp.mk (Vector.replicate 16 0) zSt []
def qXR (x:qp):Bool:=decide (x.F.length≤12)&&vm (fun k=>decide ((x.F.getD k zE).B.length≤40)) x.F.length
def qHp (m:qt):Bool:=decide (m.L.length≤14)&&vm (fun k=>qXR (m.L.getD k zL)) m.L.length
section n
variable {N:Nat} [ZB N]
def sgn (a b:Int):Int:=if a < b then -1 else if b < a then 1 else 0
theorem qYb (a b:Int):WR a b=some (sgn a b):=by
 unfold WR qdB qeo qfS
 simp only [Tree.run,Option.bind_some,decide_true,Bool.not_true,cond_false,sgn]
 by_cases h:a < b
 ·simp [h]
 ·by_cases h2:b < a
  ·simp [h,h2]
  ·simp [h,h2]
theorem qNv (a b:Int):qft N [a,b]=some (if a=0 then b else a):=by
 obtain ⟨n,rfl⟩:∃ n,N=n + 3:=⟨N - 3,by have:=big N; omega⟩
 have e:qi5 (n + 3) [a,b] ((([a,b]:List Int).length:Nat):Int) 0=qV (Js (n + 3) [a,b] 2) some (n + 3) 0:=rfl
 have r0:(Js (n + 3) [a,b] 2 0).run some=if a=0 then some (.inl 1) else some (.inr (.inl a)):=by
  unfold Js
  have g:zl [a,b] 0=some a:=rfl
  have c:qw ((0:Int) + 1):=by unfold qw; omega
  rw [qI,show decide ((0:Int) < 2)=true from rfl,cond_true,run_bind,g,Option.bind_some,qI,qX,qj c]
  by_cases h:a=0
  ·rw [if_pos h,decide_eq_true h]; rfl
  ·rw [if_neg h,decide_eq_false h]; rfl
 have r1:(Js (n + 3) [a,b] 2 1).run some=if b=0 then some (.inl 2) else some (.inr (.inl b)):=by
  unfold Js
  have g:zl [a,b] 1=some b:=rfl
  have c:qw ((1:Int) + 1):=by unfold qw; omega
  rw [qI,show decide ((1:Int) < 2)=true from rfl,cond_true,run_bind,g,Option.bind_some,qI,qX,qj c]
  by_cases h:b=0
  ·rw [if_pos h,decide_eq_true h]; rfl
  ·rw [if_neg h,decide_eq_false h]; rfl
 have r2:(Js (n + 3) [a,b] 2 2).run some=some (.inr (.inr (2,false))):=rfl
 unfold qft qk3
 rw [run_bind,e]
 by_cases h:a=0
 ·rw [if_pos h] at r0
  rw [JM r0,if_pos h]
  by_cases h2:b=0
  ·rw [if_pos h2] at r1
   rw [JM r1,jb r2,h2]; rfl
  ·rw [if_neg h2] at r1
   rw [jb r1]; rfl
 ·rw [if_neg h] at r0
  rw [jb r0,if_neg h]; rfl
theorem qZa (a b:Int):sgn a b=-1∨sgn a b=0∨sgn a b=1:=by
 unfold sgn; split
 ·exact .inl rfl
 ·split
  ·exact .inr (.inr rfl)
  ·exact .inr (.inl rfl)
theorem XN (a b:qd):vF N a b=some (slB a b):=by
 obtain ⟨a1,a2⟩:=a
 obtain ⟨b1,b2⟩:=b
 unfold vF qkZ
 simp only [Tree.run,qfU,qYb,Option.bind_some]
 by_cases h:((a1,a2):qd)=(b1,b2)
 ·cases h
  have:slB ((a1,a2):qd) (a1,a2)=false:=decide_eq_false (by simp only; omega)
  rw [this,decide_eq_true rfl]; rfl
 ·rw [decide_eq_false h]
  simp only [Bool.not_false,cond_true]
  show ((qft N [sgn a1 b1,sgn a2 b2]).bind _)=_
  have hs:=qZa a2 b2
  by_cases h1:a1 < b1
  ·rw [show sgn a1 b1=-1 from if_pos h1,qNv,show slB ((a1,a2):qd) (b1,b2)=true from decide_eq_true (.inl h1)]; rfl
  ·by_cases h2:b1 < a1
   ·rw [show sgn a1 b1=1 by unfold sgn; rw [if_neg h1,if_pos h2],qNv,show slB ((a1,a2):qd) (b1,b2)=false from decide_eq_false (by simp only; omega)]; rfl
   ·have he:a1=b1:=by omega
    rw [show sgn a1 b1=0 by unfold sgn; rw [if_neg h1,if_neg h2],qNv,if_pos rfl,Option.bind_some]
    congr 1
    show decide (sgn a2 b2 < 0)=decide (a1 < b1∨(a1=b1∧a2 < b2))
    rw [decide_eq_decide]
    simp only [he,Int.lt_irrefl,false_or,true_and]
    unfold sgn
    split
    ·rename_i h3; simp [h3]
    ·rename_i h3
     split
     ·simp; omega
     ·simp; omega
end n
theorem qwi {m:qt}:qHp m=true↔m.L.length≤14∧∀ k,k < m.L.length→(m.L.getD k zL).F.length≤12∧∀ j,j < (m.L.getD k zL).F.length→((m.L.getD k zL).F.getD j zE).B.length≤40:=by
 unfold qHp
 rw [Bool.and_eq_true,decide_eq_true_iff,Qu]
 refine and_congr Iff.rfl (forall_congr' fun k=>imp_congr_right fun _=>?_)
 unfold qXR
 rw [Bool.and_eq_true,decide_eq_true_iff,Qu]
 exact and_congr Iff.rfl (forall_congr' fun j=>imp_congr_right fun _=>decide_eq_true_iff)
end Go.Rx
end
set_option maxRecDepth 100000
noncomputable section
namespace Go.Rx
open Go.Proofs
def blk (n:Int):Int:=if n < 24 then 0 else n.tdiv 8
def qKe (e:qv) (dead:qd):Bool:=
 decide (0≤e.No)&&(decide (e.No < 8)&&(decide (0≤e.Len)&&(decide (e.Len≤200)&&(decide (((e.B.length:Nat):Int)=blk e.Len)&&(stB e.S&&slB dead e.S)))))
def qzY (l:List qv) (dead:qd) (k:Nat):Bool:=qKe (l.getD k zE) dead&&(decide (k=0)||!decide ((l.getD k zE).No≤(l.getD (k - 1) zE).No))
def qjR (x:qp):Bool:=vm (qzY x.F x.qB) x.F.length&&(stB x.qB&&(decide (0 < x.F.length)||!decide (x.qB=zSt)))
def lbB (a b:Vector UInt8 16):Bool:=!decide (a=b)&&decide (Go.Lib.compareBytes a.toList b.toList < 0)
def qAt (l:List qp) (k:Nat):Bool:=qjR (l.getD k zL)&&(decide (k=0)||lbB (l.getD (k - 1) zL).ID (l.getD k zL).ID)
def qEg (m:qt):Bool:=vm (qAt m.L) m.L.length&&decide (m.L.length≤10)
theorem qWX {a b:Bool}:(bif a then some b else some false)=some (a&&b):=by cases a<;>rfl
theorem qSx {n:Int} (h:n≤200) (h0:0≤n):qbq n=some (blk n):=by
 unfold qbq qdC blk
 by_cases h1:n < 24
 ·simp only [Tree.run,decide_eq_true h1,cond_true,if_pos h1]
 ·have e:n.tdiv 8≤n:=by rw [Int.tdiv_eq_ediv_of_nonneg h0]; omega
  have e0:0≤n.tdiv 8:=by rw [Int.tdiv_eq_ediv_of_nonneg h0]; omega
  have h64:qw (n.tdiv 8):=by unfold qw; omega
  simp only [Tree.run,decide_eq_false h1,cond_false,if_neg h1,qj h64]
  exact qj (by decide)
section n
variable {N:Nat} [ZB N]
theorem qUr (e:qv) (dead:qd):qcT N e dead=some (qKe e dead):=by
 unfold qcT qeN qKe
 simp only [Tree.run]
 by_cases h1:0≤e.No
 ·rw [decide_eq_true h1]
  by_cases h2:e.No < 8
  ·rw [decide_eq_true h2]
   by_cases h3:0≤e.Len
   ·rw [decide_eq_true h3]
    by_cases h4:e.Len≤200
    ·rw [decide_eq_true h4,qSx h4 h3]
     simp only [cond_true,Option.bind_some,qcg,XN,Bool.true_and]
     cases decide (((e.B.length:Nat):Int)=blk e.Len) with
     | false=>rfl
     | true=>exact qWX
    ·rw [decide_eq_false h4]; rfl
   ·rw [decide_eq_false h3]; rfl
  ·rw [decide_eq_false h2]; rfl
 ·rw [decide_eq_false h1]; rfl
theorem qrK {k:Nat} (h:0 < k):(k:Int) - 1=((k - 1:Nat):Int):=by omega
theorem qv1 {k:Nat}:decide ((0:Int) < (k:Int))=!decide (k=0):=by
 by_cases h:k=0
 ·subst h; rfl
 ·rw [decide_eq_false h,decide_eq_true (by omega)]; rfl
theorem qXn {x : qp} (h : x.F.length ≤ 600) :
    qeG N x x.F ((x.F.length:Nat):Int) 0=some (if vm (qzY x.F x.qB) x.F.length then .inr (((x.F.length:Nat):Int),false) else .inl ()):=by
 refine XT (B:=W4 N x x.F ((x.F.length:Nat):Int)) (g:=some) (q:=qzY x.F x.qB) (fun k hk=>?_) ?_ (by have:=big N; omega)
 ·unfold W4
  have h64:qw ((k + 1:Nat):Int):=qwz (by omega)
  simp only [Tree.run,dec_lt hk,cond_true,zO (d:=zE) hk,Option.bind_some,zf,qj h64,qUr,qv1]
  unfold qzY
  cases qKe (x.F.getD k zE) x.qB with
  | false=>rfl
  | true=>
   by_cases h0:k=0
   ·subst h0; rfl
   ·have hp:qw ((k - 1:Nat):Int):=by unfold qw; omega
    have hk1:k - 1 < x.F.length:=by omega
    simp only [decide_eq_false h0,Bool.not_true,Bool.not_false,cond_true,cond_false,qj hp,qrK (Nat.pos_of_ne_zero h0),zO (d:=zE) hk1,Option.bind_some,Bool.false_or,Bool.true_and]
    cases decide ((x.F.getD k zE).No≤(x.F.getD (k - 1) zE).No)<;>rfl
 ·unfold W4
  simp only [Tree.run,zn (Nat.lt_irrefl _),cond_false]
theorem qXs {x:qp} (h:x.F.length≤600):qek N x=some (qjR x):=by
 unfold qek qf_ qjR
 simp only [Tree.run,qXn h,Option.bind_some]
 cases vm (qzY x.F x.qB) x.F.length with
 | false=>rfl
 | true=>
  simp only [reduceIte,Tree.run,qcg,Option.bind_some,qv1,qfU,Bool.true_and]
  have e:eqE qk x.qB (qd.mk 0 0)=decide (x.qB=zSt):=qfU x.qB (qd.mk 0 0)
  have e2:decide (0 < x.F.length)=!decide (x.F.length=0):=by
   by_cases h:x.F.length=0
   ·rw [decide_eq_true h,decide_eq_false (by omega)]; rfl
   ·rw [decide_eq_false h,decide_eq_true (by omega)]; rfl
  cases stB x.qB with
  | false=>rfl
  | true=>
   rw [e2]
   cases decide (x.F.length=0)<;>rfl
theorem qI8 (a b:Vector UInt8 16):qig a b=some (lbB a b):=by
 unfold qig qoK qao qgt qT_ lbB
 simp only [Tree.run,Option.bind_some,qDS]
 cases decide (a=b)<;>rfl
theorem qYx {m : qt} (h : m.L.length ≤ 600) (hF : ∀ k, k < m.L.length → (m.L.getD k zL).F.length ≤ 600) :
    qfi N m m.L ((m.L.length:Nat):Int) 0=some (if vm (qAt m.L) m.L.length then .inr (((m.L.length:Nat):Int),false) else .inl ()):=by
 refine XT (B:=YI N m m.L ((m.L.length:Nat):Int)) (g:=some) (q:=qAt m.L) (fun k hk=>?_) ?_ (by have:=big N; omega)
 ·unfold YI
  have h64:qw ((k + 1:Nat):Int):=qwz (by omega)
  simp only [Tree.run,dec_lt hk,cond_true,zO (d:=zL) hk,Option.bind_some,zf,qj h64,qXs (hF k hk),qv1]
  unfold qAt
  cases qjR (m.L.getD k zL) with
  | false=>rfl
  | true=>
   by_cases h0:k=0
   ·subst h0; rfl
   ·have hp:qw ((k - 1:Nat):Int):=by unfold qw; omega
    have hk1:k - 1 < m.L.length:=by omega
    simp only [decide_eq_false h0,Bool.not_true,Bool.not_false,cond_true,cond_false,qj hp,qrK (Nat.pos_of_ne_zero h0),zO (d:=zL) hk1,Option.bind_some,Bool.false_or,Bool.true_and,qI8]
    cases lbB (m.L.getD (k - 1) zL).ID (m.L.getD k zL).ID<;>rfl
 ·unfold YI
  simp only [Tree.run,zn (Nat.lt_irrefl _),cond_false]
theorem qX3 {m:qt} (h:m.L.length≤600) (hF:∀ k,k < m.L.length→(m.L.getD k zL).F.length≤600):qf2 N m=some (qEg m):=by
 unfold qf2 qg5 qEg
 simp only [Tree.run,qYx h hF,Option.bind_some]
 cases vm (qAt m.L) m.L.length with
 | false=>rfl
 | true=>
  simp only [reduceIte,Tree.run,Bool.true_and]
  congr 1
  rw [decide_eq_decide]; omega
end n
theorem qUG {m:qt}:qEg m=true↔(∀ k,k < m.L.length→qjR (m.L.getD k zL)=true∧(k=0∨lbB (m.L.getD (k - 1) zL).ID (m.L.getD k zL).ID=true))∧m.L.length≤10:=by
 unfold qEg
 rw [Bool.and_eq_true,decide_eq_true_iff,Qu]
 refine and_congr (forall_congr' fun k=>imp_congr_right fun _=>?_) Iff.rfl
 show (qjR (m.L.getD k zL)&&(decide (k=0)||lbB (m.L.getD (k - 1) zL).ID (m.L.getD k zL).ID))=true↔_
 rw [Bool.and_eq_true,Bool.or_eq_true,decide_eq_true_iff]
theorem qeC (a:Vector UInt8 16):lbB a a=false:=by unfold lbB; rw [decide_eq_true rfl]; rfl
theorem qR0 {x:qp}:qjR x=true↔(∀ k,k < x.F.length→qzY x.F x.qB k=true)∧stB x.qB=true∧(0 < x.F.length∨x.qB≠zSt):=by
 unfold qjR
 rw [Bool.and_eq_true,Bool.and_eq_true,Bool.or_eq_true,Qu,decide_eq_true_iff,Bool.not_eq_true',decide_eq_false_iff_not]
end Go.Rx
end
set_option maxRecDepth 100000
noncomputable section
namespace Go.Rx
abbrev c32 (x:UInt32):Int:=((x.toNat:Nat):Int)
theorem qUe (x:UInt32):x.toNat < 4294967296:=x.toNat_lt
theorem qq_ (n:Nat):IntKind.u32.wrap ((n:Nat):Int)=((n % 4294967296:Nat):Int):=by rw [IntKind.wrap_u32']; omega
theorem qff (x:UInt32):BitVec.ofInt 32 (c32 x)=x.toBitVec:=by
 apply BitVec.eq_of_toNat_eq
 rw [ofInt_u32 _ (qUe x)]
 rfl
theorem qyt (x:UInt32):IntKind.u32.wrap ((x.toNat:Nat):Int)=c32 x:=by rw [qq_,Nat.mod_eq_of_lt (qUe x)]
theorem qOx (x y:UInt32):Ys .u32 (c32 x) (c32 y)=c32 (x + y):=by
 unfold Ys
 show IntKind.u32.wrap (((x.toNat:Nat):Int) + ((y.toNat:Nat):Int))=_
 rw [← Int.natCast_add,qq_,c32,UInt32.toNat_add]
theorem qNt (x y:UInt32):qeI .u32 (c32 x) (c32 y)=c32 (x ^^^ y):=by
 unfold qeI
 rw [show IntKind.u32.bits=32 from rfl,qff,qff]
 exact qyt (x ^^^ y)
theorem qY0 (x y:UInt32):qlO .u32 (c32 x) (c32 y)=c32 (x &&& y):=by
 unfold qlO
 rw [show IntKind.u32.bits=32 from rfl,qff,qff]
 exact qyt (x &&& y)
theorem qXW (x y:UInt32):uOr .u32 (c32 x) (c32 y)=c32 (x ||| y):=by
 unfold uOr
 rw [show IntKind.u32.bits=32 from rfl,qff,qff]
 exact qyt (x ||| y)
theorem qYX (x:UInt32):qeI .u32 4294967295 (c32 x)=c32 (~~~x):=by
 have h:(4294967295:Int)=c32 4294967295:=rfl
 rw [h,qNt]
 congr 2
theorem qGZ (x:UInt32) (n:Nat) (h:n < 32):qfx .u32 (c32 x) n=c32 (x <<< UInt32.ofNat n):=by
 unfold qfx
 rw [show c32 x * 2 ^ n=((x.toNat * 2 ^ n:Nat):Int) by push_cast; rfl,qq_,c32,UInt32.toNat_shiftLeft,UInt32.toNat_ofNat_of_lt' (show n < UInt32.size by unfold UInt32.size; omega),Nat.mod_eq_of_lt h,Nat.shiftLeft_eq]
theorem qG2 (x:UInt32) (n:Nat) (h:n < 32):Zz (c32 x) n=c32 (x >>> UInt32.ofNat n):=by
 unfold Zz
 rw [show ((2:Int) ^ n)=((2 ^ n:Nat):Int) by push_cast; rfl,Int.fdiv_eq_ediv_of_nonneg _ (Int.natCast_nonneg _),c32,← Int.natCast_ediv,c32,UInt32.toNat_shiftRight,UInt32.toNat_ofNat_of_lt' (show n < UInt32.size by unfold UInt32.size; omega),Nat.mod_eq_of_lt h,Nat.shiftRight_eq_div_pow]
theorem qGS (x:UInt32):inW (c32 x):=⟨Int.natCast_nonneg _,by have:=qUe x; show ((x.toNat:Nat):Int) < _; omega⟩
def rot (x:UInt32) (n:Nat):UInt32:=(x <<< UInt32.ofNat (32 - n)) ||| (x >>> UInt32.ofNat n)
end Go.Rx
end
set_option maxRecDepth 100000
noncomputable section
namespace Go.Rx
open Go.Proofs
theorem qYq:∀ n < 32,0 < n→qlO .u64 (IntKind.u64.wrap (0 - ((n:Nat):Int))) 31=((32 - n:Nat):Int):=by decide +kernel
theorem qXz:∀ n < 32,0 < n→qX8 .u64 (32:Int) ((32 - n:Nat):Int)=((n:Nat):Int):=by decide +kernel
theorem qlz (x:UInt32) (n:Nat) (h:n < 32) (h0:0 < n):jv (c32 x) ((n:Nat):Int)=some (c32 (rot x n)):=by
 unfold jv qnr Yx X8
 have h64:qw (0 - ((n:Nat):Int)):=by unfold qw; omega
 simp only [run_bind,qX,qP,qj h64,qYq n h h0,qXz n h h0]
 rw [qj (show (0:Int)≤((32 - n:Nat):Int) by omega),qj (show (0:Int)≤((n:Nat):Int) by omega),Int.toNat_natCast,Int.toNat_natCast,Nat.min_eq_left (show 32 - n≤32 by omega),Nat.min_eq_left (show n≤32 by omega),qGZ x _ (by omega),qG2 x n h,qXW]
 rfl
abbrev wAt {n:Nat} (v:Vector UInt32 n) (k:Nat):UInt32:=v.toList.getD k 0
abbrev bAt (l:List UInt8) (k:Nat):UInt32:=(l.getD k 0).toUInt32
def qDk (b:List UInt8) (k:Nat) (w:Vector UInt32 64):Vector UInt32 64:=
 if k < 16 then w.setIfInBounds k ((bAt b (4 * k) <<< UInt32.ofNat 24) ||| (bAt b (4 * k + 1) <<< UInt32.ofNat 16) ||| (bAt b (4 * k + 2) <<< UInt32.ofNat 8) ||| bAt b (4 * k + 3))
 else w.setIfInBounds k (wAt w (k - 16) + wAt w (k - 7) + (rot (wAt w (k - 15)) 7 ^^^ rot (wAt w (k - 15)) 18 ^^^ (wAt w (k - 15) >>> UInt32.ofNat 3)) + (rot (wAt w (k - 2)) 17 ^^^ rot (wAt w (k - 2)) 19 ^^^ (wAt w (k - 2) >>> UInt32.ofNat 10)))
def qyK (b:List UInt8):Vector UInt32 64:=Jn (qDk b) 64 0 (Vector.replicate 64 0)
theorem qYa (c:UInt8):IntKind.u32.wrap ((c.toNat:Nat):Int)=c32 c.toUInt32:=by
 rw [qq_,Nat.mod_eq_of_lt (by have:=c.toNat_lt; omega),c32,UInt8.toNat_toUInt32]
theorem qXQ {N:Nat} {o:Vector UInt32 64} {b:List UInt8} {w:Vector UInt32 64} {k:Nat} (hb:b.length=64) (hk:k < 16):(Zk N o b (w,(k:Int))).run some=some (.inl (qDk b k w,((k + 1:Nat):Int))):=by
 have g:∀ j < 4,zl b ((4:Int) * (k:Int) + ((j:Nat):Int))=some (b.getD (4 * k + j) 0):=fun j hj=>by
  rw [show (4:Int) * (k:Int) + ((j:Nat):Int)=((4 * k + j:Nat):Int) by omega]; exact zO (by omega)
 have g0:zl b ((4:Int) * (k:Int))=some (b.getD (4 * k) 0):=by have:=g 0 (by omega); simpa using this
 have g1:zl b ((4:Int) * (k:Int) + 1)=some (b.getD (4 * k + 1) 0):=g 1 (by omega)
 have g2:zl b ((4:Int) * (k:Int) + 2)=some (b.getD (4 * k + 2) 0):=g 2 (by omega)
 have g3:zl b ((4:Int) * (k:Int) + 3)=some (b.getD (4 * k + 3) 0):=g 3 (by omega)
 have c0:qw ((4:Int) * (k:Int)):=by unfold qw; omega
 have c1:qw ((4:Int) * (k:Int) + 1):=by unfold qw; omega
 have c2:qw ((4:Int) * (k:Int) + 2):=by unfold qw; omega
 have c3:qw ((4:Int) * (k:Int) + 3):=by unfold qw; omega
 have c4:qw ((k:Int) + 1):=by unfold qw; omega
 have d1:decide ((k:Int) < 64)=true:=decide_eq_true (by omega)
 have d2:decide ((k:Int) < 16)=true:=decide_eq_true (by omega)
 have p8:(0:Int)≤8:=by omega
 have p16:(0:Int)≤16:=by omega
 have p24:(0:Int)≤24:=by omega
 have pk:(0:Int)≤(k:Int)∧(k:Int) < ((64:Nat):Int):=by omega
 have pk2:k < 64:=by omega
 unfold Zk qDk
 rw [if_pos hk]
 simp only [qI,run_bind,qX,qP,d1,d2,cond_true,qj c0,qj c1,qj c2,qj c3,g0,g1,g2,g3,Option.bind_some,qj p8,qj p16,qj p24,qYa,qGZ _ 24 (by omega),qGZ _ 16 (by omega),qGZ _ 8 (by omega),qXW,qj (qGS _),qj pk,UInt32.ofNat_toNat,Int.toNat_natCast,qj pk2,qj c4]
 rw [zf]
theorem qXN {N:Nat} {o:Vector UInt32 64} {b:List UInt8} {w:Vector UInt32 64} {k:Nat} (h1:¬ k < 16) (hk:k < 64):(Zk N o b (w,(k:Int))).run some=some (.inl (qDk b k w,((k + 1:Nat):Int))):=by
 have c4:qw ((k:Int) + 1):=by unfold qw; omega
 have d1:decide ((k:Int) < 64)=true:=decide_eq_true (by omega)
 have d2:decide ((k:Int) < 16)=false:=decide_eq_false (by omega)
 have e15:(k:Int) - 15=((k - 15:Nat):Int):=by omega
 have e2:(k:Int) - 2=((k - 2:Nat):Int):=by omega
 have e16:(k:Int) - 16=((k - 16:Nat):Int):=by omega
 have e7:(k:Int) - 7=((k - 7:Nat):Int):=by omega
 have i15:qw (((k - 15:Nat)):Int):=by unfold qw; omega
 have i2:qw (((k - 2:Nat)):Int):=by unfold qw; omega
 have i16:qw (((k - 16:Nat)):Int):=by unfold qw; omega
 have i7:qw (((k - 7:Nat)):Int):=by unfold qw; omega
 have p15:(0:Int)≤((k - 15:Nat):Int)∧((k - 15:Nat):Int) < ((64:Nat):Int):=by omega
 have p2:(0:Int)≤((k - 2:Nat):Int)∧((k - 2:Nat):Int) < ((64:Nat):Int):=by omega
 have p16:(0:Int)≤((k - 16:Nat):Int)∧((k - 16:Nat):Int) < ((64:Nat):Int):=by omega
 have p7:(0:Int)≤((k - 7:Nat):Int)∧((k - 7:Nat):Int) < ((64:Nat):Int):=by omega
 have q15:k - 15 < 64:=by omega
 have q2:k - 2 < 64:=by omega
 have q16:k - 16 < 64:=by omega
 have q7:k - 7 < 64:=by omega
 have p3:(0:Int)≤3:=by omega
 have p10:(0:Int)≤10:=by omega
 have pk:(0:Int)≤(k:Int)∧(k:Int) < ((64:Nat):Int):=by omega
 have r7:=fun x=>qlz x 7 (by omega) (by omega)
 have r18:=fun x=>qlz x 18 (by omega) (by omega)
 have r17:=fun x=>qlz x 17 (by omega) (by omega)
 have r19:=fun x=>qlz x 19 (by omega) (by omega)
 unfold Zk qDk
 rw [if_neg h1]
 simp only [qI,run_bind,qX,qP,d1,d2,cond_true,cond_false]
 rw [e15,e2,e16,e7]
 rw [qj i15,qj p15,Int.toNat_natCast,qj q15,qj i2,qj p2,Int.toNat_natCast,qj q2,qj i16,qj p16,Int.toNat_natCast,qj q16,qj i7,qj p7,Int.toNat_natCast,qj q7]
 show (Option.bind (jv (c32 (wAt w (k - 15))) ((7:Nat):Int)) _)=_
 rw [r7,Option.bind_some]
 show (Option.bind (jv (c32 (wAt w (k - 15))) ((18:Nat):Int)) _)=_
 rw [r18,Option.bind_some,qj p3]
 show (Option.bind (jv (c32 (wAt w (k - 2))) ((17:Nat):Int)) _)=_
 rw [r17,Option.bind_some]
 show (Option.bind (jv (c32 (wAt w (k - 2))) ((19:Nat):Int)) _)=_
 rw [r19,Option.bind_some,qj p10,qj pk]
 simp only [qNt,qOx,qG2 _ 3 (by omega),qG2 _ 10 (by omega),qj (qGS _),Int.toNat_natCast,UInt32.ofNat_toNat,qj hk,qj c4]
 rw [zf]
theorem qUO {N:Nat} {b:List UInt8} (hN:64 < N) (hb:b.length=64):qgx N b=some (qyK b):=by
 have key:qf7 N (Vector.replicate 64 0) b (Vector.replicate 64 0) 0=some (qyK b,(64:Int),false):=by
  refine (jU (σ:=Vector UInt32 64) (B:=Zk N (Vector.replicate 64 0) b) (g:=some) (at_:=fun k s=>(s,(k:Int))) (I:=fun _ _=>True) (f:=qDk b) (n:=64)
   (fin:=fun s=>(s,(64:Int),false)) (fun k s hk _=>⟨?_,trivial⟩) (fun s _=>?_) N 0 (Vector.replicate 64 0) trivial (Nat.zero_le _) (by omega))
  ·by_cases h:k < 16
   ·exact qXQ hb h
   ·exact qXN h hk
  ·unfold Zk
   rfl
 unfold qgx qhb
 rw [run_bind,key,Option.bind_some,qP]
def tW (K w:Vector UInt32 64) (i:Nat) (x:Vector UInt32 8):UInt32:=wAt x 7 + (rot (wAt x 4) 6 ^^^ rot (wAt x 4) 11 ^^^ rot (wAt x 4) 25) + ((wAt x 4 &&& wAt x 5) ^^^ (~~~(wAt x 4) &&& wAt x 6)) + wAt K i + wAt w i
def uW (x:Vector UInt32 8):UInt32:=(rot (wAt x 0) 2 ^^^ rot (wAt x 0) 13 ^^^ rot (wAt x 0) 22) + ((wAt x 0 &&& wAt x 1) ^^^ (wAt x 0 &&& wAt x 2) ^^^ (wAt x 1 &&& wAt x 2))
def qJI (K w:Vector UInt32 64) (i:Nat) (x:Vector UInt32 8):Vector UInt32 8:=
 ((qar x 1 7).setIfInBounds 0 (tW K w i x + uW x)).setIfInBounds 4 (wAt ((qar x 1 7).setIfInBounds 0 (tW K w i x + uW x)) 4 + tW K w i x)
def qOW (x:Vector UInt32 8) (k:Nat) (s:Vector UInt32 8):Vector UInt32 8:=s.setIfInBounds k (wAt s k + wAt x k)
def qGQ (s:Vector UInt32 8) (K:Vector UInt32 64) (b:List UInt8):Vector UInt32 8:=Jn (qOW (Jn (qJI K (qyK b)) 64 0 s)) 8 0 s
theorem qX0 {N:Nat} {s:Vector UInt32 8} {K w:Vector UInt32 64} {x:Vector UInt32 8} {k:Nat} (hk:k < 64):(J8 N s K w (x,(k:Int))).run some=some (.inl (qJI K w k x,((k + 1:Nat):Int))):=by
 have c4:qw ((k:Int) + 1):=by unfold qw; omega
 have d1:decide ((k:Int) < 64)=true:=decide_eq_true (by omega)
 have pk:(0:Int)≤(k:Int)∧(k:Int) < ((64:Nat):Int):=by omega
 have hj:∀ j < 8,(0:Int)≤((j:Nat):Int)∧((j:Nat):Int) < ((8:Nat):Int):=fun j hj=>by omega
 have j0:(0:Int)≤(0:Int)∧(0:Int) < ((8:Nat):Int):=hj 0 (by omega)
 have j1:(0:Int)≤(1:Int)∧(1:Int) < ((8:Nat):Int):=hj 1 (by omega)
 have j2:(0:Int)≤(2:Int)∧(2:Int) < ((8:Nat):Int):=hj 2 (by omega)
 have j4:(0:Int)≤(4:Int)∧(4:Int) < ((8:Nat):Int):=hj 4 (by omega)
 have j5:(0:Int)≤(5:Int)∧(5:Int) < ((8:Nat):Int):=hj 5 (by omega)
 have j6:(0:Int)≤(6:Int)∧(6:Int) < ((8:Nat):Int):=hj 6 (by omega)
 have j7:(0:Int)≤(7:Int)∧(7:Int) < ((8:Nat):Int):=hj 7 (by omega)
 have n0:0 < 8:=by omega
 have n1:1 < 8:=by omega
 have n2:2 < 8:=by omega
 have n4:4 < 8:=by omega
 have n5:5 < 8:=by omega
 have n6:6 < 8:=by omega
 have n7:7 < 8:=by omega
 have r:=fun x n h h0=>qlz x n h h0
 unfold J8 qJI tW uW
 rw [qI,d1,cond_true]
 simp only [run_bind,qX,qP]
 rw [qj j0,qj n0,qj j4,qj n4,qj j7,qj n7]
 show (Option.bind (jv (c32 (wAt x 4)) ((6:Nat):Int)) _)=_
 rw [r _ 6 (by omega) (by omega),Option.bind_some]
 show (Option.bind (jv (c32 (wAt x 4)) ((11:Nat):Int)) _)=_
 rw [r _ 11 (by omega) (by omega),Option.bind_some]
 show (Option.bind (jv (c32 (wAt x 4)) ((25:Nat):Int)) _)=_
 rw [r _ 25 (by omega) (by omega),Option.bind_some,qj j5,qj n5,qj j6,qj n6,qj pk,Int.toNat_natCast,qj hk]
 rw [qj pk,qj hk]
 show (Option.bind (jv (c32 (wAt x 0)) ((2:Nat):Int)) _)=_
 rw [r _ 2 (by omega) (by omega),Option.bind_some]
 show (Option.bind (jv (c32 (wAt x 0)) ((13:Nat):Int)) _)=_
 rw [r _ 13 (by omega) (by omega),Option.bind_some]
 show (Option.bind (jv (c32 (wAt x 0)) ((22:Nat):Int)) _)=_
 rw [r _ 22 (by omega) (by omega),Option.bind_some]
 rw [qj j1,qj n1,qj j2,qj n2,qj j1,qj n1,qj j2,qj n2,qj j0]
 simp only [qNt,qY0,qYX,qOx,qj (qGS _),Int.toNat_natCast,UInt32.ofNat_toNat,qj n0,qj j4,qj n4,qj c4]
 rw [zf]
theorem qMF {N:Nat} {s:Vector UInt32 8} {K:Vector UInt32 64} {b:List UInt8} (hN:64 < N) (hb:b.length=64):Kn N s K b=some (qGQ s K b):=by
 have k1:qdu N s K (qyK b) s 0=some (Jn (qJI K (qyK b)) 64 0 s,(64:Int),false):=by
  refine (jU (σ:=Vector UInt32 8) (B:=J8 N s K (qyK b)) (g:=some) (at_:=fun k s=>(s,(k:Int))) (I:=fun _ _=>True) (f:=qJI K (qyK b)) (n:=64)
   (fin:=fun s=>(s,(64:Int),false)) (fun k x hk _=>⟨qX0 hk,trivial⟩) (fun x _=>?_) N 0 s trivial (Nat.zero_le _) (by omega))
  unfold J8
  rfl
 have k2:∀ x:Vector UInt32 8,qcv N K x s 0=some (Jn (qOW x) 8 0 s,(8:Int),false):=fun x=>by
  refine (jU (σ:=Vector UInt32 8) (B:=XC N K x) (g:=some) (at_:=fun k s=>(s,(k:Int))) (I:=fun _ _=>True) (f:=qOW x) (n:=8)
   (fin:=fun s=>(s,(8:Int),false)) (fun k y hk _=>⟨?_,trivial⟩) (fun y _=>?_) N 0 s trivial (Nat.zero_le _) (by omega))
  ·have c4:qw ((k:Int) + 1):=by unfold qw; omega
   have d1:decide ((k:Int) < 8)=true:=decide_eq_true (by omega)
   have pk:(0:Int)≤(k:Int)∧(k:Int) < ((8:Nat):Int):=by omega
   unfold XC qOW
   simp only [qI,run_bind,qX,qP,d1,cond_true]
   rw [qj pk,Int.toNat_natCast,qj hk,qj pk,qj hk,qj pk]
   simp only [qOx,qj (qGS _),Int.toNat_natCast,UInt32.ofNat_toNat,qj hk,qj c4]
   rw [zf]
  ·unfold XC
   rfl
 unfold Kn qeK
 rw [run_bind,qUO hN hb,Option.bind_some,run_bind,k1,Option.bind_some,run_bind,k2,Option.bind_some,qP]
 rfl
end Go.Rx
end
