/- A part of the proof of AboveTells: the law returns true for every input, and its arguments read as before. No condition. -/
import Derived.Laws.BitsAllLaws
import Derived.Test.YtmnngfcoenhhkaaGreatAboveTellsF
set_option linter.unusedSimpArgs false
set_option linter.unusedVariables false
set_option linter.unusedSectionVars false
set_option maxRecDepth 100000
noncomputable section
namespace Go.Rx
open Go.Proofs
def qxK:List UInt8:=[0,1,2,2,3,3,3,3,4,4,4,4,4,4,4,4,5,5,5,5,5,5,5,5,5,5,5,5,5,5,5,5,6,6,6,6,6,6,6,6,6,6,6,6,6,6,6,6,6,6,6,6,6,6,6,6,6,6,6,6,6,6,6,6,7,7,7,7,7,7,7,7,7,7,7,7,7,7,7,7,7,7,7,7,7,7,7,7,7,7,7,7,7,7,7,7,7,7,7,7,7,7,7,7,7,7,7,7,7,7,7,7,7,7,7,7,7,7,7,7,7,7,7,7,7,7,7,7,8,8,8,8,8,8,8,8,8,8,8,8,8,8,8,8,8,8,8,8,8,8,8,8,8,8,8,8,8,8,8,8,8,8,8,8,8,8,8,8,8,8,8,8,8,8,8,8,8,8,8,8,8,8,8,8,8,8,8,8,8,8,8,8,8,8,8,8,8,8,8,8,8,8,8,8,8,8,8,8,8,8,8,8,8,8,8,8,8,8,8,8,8,8,8,8,8,8,8,8,8,8,8,8,8,8,8,8,8,8,8,8,8,8,8,8,8,8,8,8,8,8,8,8,8,8,8,8]
noncomputable def qB6:Code:=Tryz.f12.body.getD .skip
theorem qTJ:FnF Tryz.prog 12 Tryz.f12 qB6:=⟨qk,by kernel_rfl,by kernel_rfl,by kernel_rfl⟩
def qd5:TH:={ live:=[(0,[1]),(1,[1,7]),(2,[2]),(3,[1,3]),(4,[1,3,12]),(5,[1,3]),(6,[1,3,23]),(7,[2]),(8,[2])] }
def qkT (N:Nat):List Ent:=[]
theorem qie (N:Nat):qU Tryz.prog (qkT N):=trivial
abbrev X5:=qa
abbrev QM:=Unit⊕(Int×Bool)
def JE (f:X5):QM→Ex×TSt
 | .inl y=>(.ret,⟨0,24,[],[(2,.bc false)],[],false,[]⟩)
 | .inr y=>(.exit 0,⟨0,24,[],[(1,.p 10 [] 0),(3,xi y.1),(12,xb y.2)],[(10,.cell false (.tv qf f))],false,[]⟩)
def qrL (N:Nat):List (Nat×qw):=[]
abbrev Jq:=Int
def qhp:SP:=⟨0,24,[],[(1,.k (.p 10 [] 0)),(3,.x (.i .i64))],[(10,.cell false (.x qf))],false,[]⟩
def qr7 (f:X5) (v:Jq):TSt:=zq qhp [dv qf f,dv (.i .i64) v]
def Wc (N:Nat) (o_4:qa) (v:Jq):Tree (Jq⊕QM):=
 .cond (decide (v < (((qa.F o_4).length:Nat):Int))) (
 .bind (qM (qa.F o_4) v) fun e1=>
 .cond (decide (((300:Int)) < (((qe.V (qd.C e1)).length:Nat):Int))) (
 .ret (.inr (.inl ()))) <|
 .chk (qp (v + 1)) <|
 .ret (.inl (v + 1))) <|
 .ret (.inr (.inr ((v,decide (v < (((qa.F o_4).length:Nat):Int))))))
def qg9 (N n:Nat) (f:X5) (v:Jq):Option QM:=qQ (Wc N f) some n v
theorem qr8 (N:Nat) (f:X5) (n:Nat) (v:Jq) (y:QM) (h:qg9 N n f v=some y):LG Tryz.prog qd5 12 (qE qB6 4) (qr7 f v) (JE f y):=
 zj qk (E:=qkT N) (L:=qJ (qrL N)) (st:=JE f) (g:=some) (R:=JE f) (qie N) (qt (by kernel_rfl) trivial) (rg0 (by kernel_rfl)) (fun v=>by kernel_rfl) (qP (st:=JE f) fun y=>by rcases y with _ | _<;>rfl) n v y h
def qcg (N:Nat) (o_4:qa) (s3_4:Int):Option QM:=qg9 N N o_4 s3_4
def qgZ (N:Nat):qw:=smL qhp [qf,(.i .i64)] QM (fun x=>qcg N x.1 x.2.1) (csS cs1) fun x=>JE x.1
theorem qqQ (N:Nat):zZ Tryz.prog qd5 12 (qE qB6 4) (qgZ N):=zp fun x z h=>qr8 N x.1 N x.2.1 z h
def qwz (z:Bool):TV×THp:=(xb z,[])
def qdK (N:Nat) (a0:qa):Tree (Bool):=
 .cond (decide (((12:Int)) < (((qa.F a0).length:Nat):Int))) (
 .ret false) <|
 .bind (qcg N a0 0) fun z1=>
 .sum z1 (fun z2=>
 .ret false) fun z2=>
 .ret true
def QS (N:Nat) (a0:qa):Option (Bool):=(qdK N a0).run some
def qwX (N:Nat):List (Nat×qw):=[(4,qgZ N)]
def qdL (N:Nat):Ent:=smF ⟨12,[],[.x qf],[],[]⟩ [qf] (Bool) (fun x=>QS N x.1) cs1 fun _=>qwz
theorem qi7 (N:Nat):zf Tryz.prog (qdL N):=
 zd (H:=qd5) (L:=qJ (qwX N)) (ts:=[qf]) (T:=fun x=>qdK N x.1) 0 qTJ (qie N) (qt (by kernel_rfl) ⟨qqQ N,trivial⟩) (rg0 (by kernel_rfl)) fun x=>by kernel_rfl
noncomputable def qBn:Code:=Tryz.f10.body.getD .skip
theorem qSN:FnF Tryz.prog 10 Tryz.f10 qBn:=⟨qk,by kernel_rfl,by kernel_rfl,by kernel_rfl⟩
def qda:TH:={ live:=[(0,[1]),(1,[1,8]),(2,[2]),(3,[1,3]),(4,[1,3,13]),(5,[1,3]),(6,[1,3,4]),(7,[1,3,23]),(8,[2]),(9,[2])] }
def qkn (N:Nat):List Ent:=[qdL N]
theorem qiC (N:Nat):qU Tryz.prog (qkn N):=⟨qi7 N,trivial⟩
abbrev Wd:=qb
abbrev QN:=Unit⊕(Int×Bool)
def JF (f:Wd):QN→Ex×TSt
 | .inl y=>(.ret,⟨0,24,[],[(2,.bc false)],[],false,[]⟩)
 | .inr y=>(.exit 0,⟨0,24,[],[(1,.p 10 [] 0),(3,xi y.1),(13,xb y.2)],[(10,.cell false (.tv qj f))],false,[]⟩)
def qsv (N:Nat):List (Nat×qw):=[]
abbrev Jr:=Int
def qhn:SP:=⟨0,24,[],[(1,.k (.p 10 [] 0)),(3,.x (.i .i64))],[(10,.cell false (.x qj))],false,[]⟩
def qrv (f:Wd) (v:Jr):TSt:=zq qhn [dv qj f,dv (.i .i64) v]
def Wh (N:Nat) (o_4:qb) (v:Jr):Tree (Jr⊕QN):=
 .cond (decide (v < (((qb.R o_4).length:Nat):Int))) (
 .bind (qM (qb.R o_4) v) fun e1=>
 .bind (QS N e1) fun r2=>
 .cond (!r2) (
 .ret (.inr (.inl ()))) <|
 .chk (qp (v + 1)) <|
 .ret (.inl (v + 1))) <|
 .ret (.inr (.inr ((v,decide (v < (((qb.R o_4).length:Nat):Int))))))
def qhl (N n:Nat) (f:Wd) (v:Jr):Option QN:=qQ (Wh N f) some n v
theorem qsj (N:Nat) (f:Wd) (n:Nat) (v:Jr) (y:QN) (h:qhl N n f v=some y):LG Tryz.prog qda 10 (qE qBn 4) (qrv f v) (JF f y):=
 zj qk (E:=qkn N) (L:=qJ (qsv N)) (st:=JF f) (g:=some) (R:=JF f) (qiC N) (qt (by kernel_rfl) trivial) (rg0 (by kernel_rfl)) (fun v=>by kernel_rfl) (qP (st:=JF f) fun y=>by rcases y with _ | _<;>rfl) n v y h
def qce (N:Nat) (o_4:qb) (s3_4:Int):Option QN:=qhl N N o_4 s3_4
def qgQ (N:Nat):qw:=smL qhn [qj,(.i .i64)] QN (fun x=>qce N x.1 x.2.1) (csS cs1) fun x=>JF x.1
theorem qqn (N:Nat):zZ Tryz.prog qda 10 (qE qBn 4) (qgQ N):=zp fun x z h=>qsj N x.1 N x.2.1 z h
def qxH (z:Bool):TV×THp:=(xb z,[])
def qdW (N:Nat) (a0:qb):Tree (Bool):=
 .cond (decide (((14:Int)) < (((qb.R a0).length:Nat):Int))) (
 .ret false) <|
 .bind (qce N a0 0) fun z1=>
 .sum z1 (fun z2=>
 .ret false) fun z2=>
 .ret true
def qbs (N:Nat) (a0:qb):Option (Bool):=(qdW N a0).run some
def qyc (N:Nat):List (Nat×qw):=[(4,qgQ N)]
def qkW (N:Nat):Ent:=smF ⟨10,[],[.x qj],[],[]⟩ [qj] (Bool) (fun x=>qbs N x.1) cs1 fun _=>qxH
theorem qvC (N:Nat):zf Tryz.prog (qkW N):=
 zd (H:=qda) (L:=qJ (qyc N)) (ts:=[qj]) (T:=fun x=>qdW N x.1) 0 qSN (qiC N) (qt (by kernel_rfl) ⟨qqn N,trivial⟩) (rg0 (by kernel_rfl)) fun x=>by kernel_rfl
noncomputable def qnY:Code:=Tryz.f11.body.getD .skip
theorem qR_:FnF Tryz.prog 11 Tryz.f11 qnY:=⟨qk,by kernel_rfl,by kernel_rfl,by kernel_rfl⟩
def XQ:TH:={ live:=[(0,[1]),(1,[1,8]),(2,[2]),(3,[1,3]),(4,[1,3,13]),(5,[1,3]),(6,[1,3,23]),(7,[2]),(8,[1,3,4]),(9,[1,3,4,32]),(10,[1,3,4]),(11,[1,3,4,46]),(12,[2]),(13,[2])] }
def qdA (N:Nat):List Ent:=[]
theorem qbz (N:Nat):qU Tryz.prog (qdA N):=trivial
abbrev XX:=qg×Int
abbrev QL:=Unit⊕(Int×Bool)
def JC (f:XX):QL→Ex×TSt
 | .inl y=>(.ret,⟨0,47,[],[(2,.bc false)],[],false,[]⟩)
 | .inr y=>(.exit 2,⟨0,47,[],[(1,.p 10 [] 0),(3,xi f.2),(4,xi y.1),(32,xb y.2)],[(10,.cell false (.tv qo f.1))],false,[]⟩)
def qrw (N:Nat):List (Nat×qw):=[]
abbrev Jy:=Int
def qgP:SP:=⟨0,47,[],[(1,.k (.p 10 [] 0)),(3,.x (.i .i64)),(4,.x (.i .i64))],[(10,.cell false (.x qo))],false,[]⟩
def qrC (f:XX) (v:Jy):TSt:=zq qgP [dv qo f.1,dv (.i .i64) f.2,dv (.i .i64) v]
def Wm (N:Nat) (o_9:qg) (s3_9:Int) (v:Jy):Tree (Jy⊕QL):=
 .bind (qM (qg.L o_9) s3_9) fun e1=>
 .cond (decide (v < (((qn.F e1).length:Nat):Int))) (
 .bind (qM (qg.L o_9) s3_9) fun e2=>
 .bind (qM (qn.F e2) v) fun e3=>
 .cond (decide (((40:Int)) < (((qm.B e3).length:Nat):Int))) (
 .ret (.inr (.inl ()))) <|
 .chk (qp (v + 1)) <|
 .ret (.inl (v + 1))) <|
 .ret (.inr (.inr ((v,decide (v < (((qn.F e1).length:Nat):Int))))))
def qhG (N n:Nat) (f:XX) (v:Jy):Option QL:=qQ (Wm N f.1 f.2) some n v
theorem qrl (N:Nat) (f:XX) (n:Nat) (v:Jy) (y:QL) (h:qhG N n f v=some y):LG Tryz.prog XQ 11 (qE (qE qnY 4) 9) (qrC f v) (JC f y):=
 zj qk (E:=qdA N) (L:=qJ (qrw N)) (st:=JC f) (g:=some) (R:=JC f) (qbz N) (qt (by kernel_rfl) trivial) (rg0 (by kernel_rfl)) (fun v=>by kernel_rfl) (qP (st:=JC f) fun y=>by rcases y with _ | _<;>rfl) n v y h
def qcm (N:Nat) (o_9:qg) (s3_9:Int) (s4_9:Int):Option QL:=qhG N N (o_9,s3_9) s4_9
def qhz (N:Nat):qw:=smL qgP [qo,(.i .i64),(.i .i64)] QL (fun x=>qcm N x.1 x.2.1 x.2.2.1) (csS cs1) fun x=>JC (x.1,x.2.1)
theorem qre (N:Nat):zZ Tryz.prog XQ 11 (qE (qE qnY 4) 9) (qhz N):=zp fun x z h=>qrl N (x.1,x.2.1) N x.2.2.1 z h
abbrev Wi:=qg
abbrev QP:=Unit⊕(Int×Bool)
def JH (f:Wi):QP→Ex×TSt
 | .inl y=>(.ret,⟨0,47,[],[(2,.bc false)],[],false,[]⟩)
 | .inr y=>(.exit 0,⟨0,47,[],[(1,.p 10 [] 0),(3,xi y.1),(13,xb y.2)],[(10,.cell false (.tv qo f))],false,[]⟩)
def qss (N:Nat):List (Nat×qw):=[(9,qhz N)]
abbrev JN:=Int
def qhi:SP:=⟨0,47,[],[(1,.k (.p 10 [] 0)),(3,.x (.i .i64))],[(10,.cell false (.x qo))],false,[]⟩
def qsu (f:Wi) (v:JN):TSt:=zq qhi [dv qo f,dv (.i .i64) v]
def Wb (N:Nat) (o_4:qg) (v:JN):Tree (JN⊕QP):=
 .cond (decide (v < (((qg.L o_4).length:Nat):Int))) (
 .bind (qM (qg.L o_4) v) fun e1=>
 .cond (decide (((12:Int)) < (((qn.F e1).length:Nat):Int))) (
 .ret (.inr (.inl ()))) <|
 .bind (qcm N o_4 v 0) fun z2=>
 .sum z2 (fun z3=>
 .ret (.inr (.inl ()))) fun z3=>
 .chk (qp (v + 1)) <|
 .ret (.inl (v + 1))) <|
 .ret (.inr (.inr ((v,decide (v < (((qg.L o_4).length:Nat):Int))))))
def qhB (N n:Nat) (f:Wi) (v:JN):Option QP:=qQ (Wb N f) some n v
theorem qsq (N:Nat) (f:Wi) (n:Nat) (v:JN) (y:QP) (h:qhB N n f v=some y):LG Tryz.prog XQ 11 (qE qnY 4) (qsu f v) (JH f y):=
 zj qk (E:=qdA N) (L:=qJ (qss N)) (st:=JH f) (g:=some) (R:=JH f) (qbz N) (qt (by kernel_rfl) ⟨qre N,trivial⟩) (rg0 (by kernel_rfl)) (fun v=>by kernel_rfl) (qP (st:=JH f) fun y=>by rcases y with _ | _<;>rfl) n v y h
def qcc (N:Nat) (o_4:qg) (s3_4:Int):Option QP:=qhB N N o_4 s3_4
def qht (N:Nat):qw:=smL qhi [qo,(.i .i64)] QP (fun x=>qcc N x.1 x.2.1) (csS cs1) fun x=>JH x.1
theorem qq2 (N:Nat):zZ Tryz.prog XQ 11 (qE qnY 4) (qht N):=zp fun x z h=>qsq N x.1 N x.2.1 z h
def qxr (z:Bool):TV×THp:=(xb z,[])
def qc6 (N:Nat) (a0:qg):Tree (Bool):=
 .cond (decide (((14:Int)) < (((qg.L a0).length:Nat):Int))) (
 .ret false) <|
 .bind (qcc N a0 0) fun z1=>
 .sum z1 (fun z2=>
 .ret false) fun z2=>
 .ret true
def qbo (N:Nat) (a0:qg):Option (Bool):=(qc6 N a0).run some
def qy0 (N:Nat):List (Nat×qw):=[(4,qht N)]
def qkr (N:Nat):Ent:=smF ⟨11,[],[.x qo],[],[]⟩ [qo] (Bool) (fun x=>qbo N x.1) cs1 fun _=>qxr
theorem qvS (N:Nat):zf Tryz.prog (qkr N):=
 zd (H:=XQ) (L:=qJ (qy0 N)) (ts:=[qo]) (T:=fun x=>qc6 N x.1) 0 qR_ (qbz N) (qt (by kernel_rfl) ⟨qq2 N,trivial⟩) (rg0 (by kernel_rfl)) fun x=>by kernel_rfl
noncomputable def qSu:Code:=Tryz.f34.body.getD .skip
theorem qSB:FnF Tryz.prog 34 Tryz.f34 qSu:=⟨qk,by kernel_rfl,by kernel_rfl,by kernel_rfl⟩
def qKW:TH:={ live:=[(0,[1]),(1,[2])],dec:=[6,10,15,20] }
def qK4 (N:Nat):List Ent:=[]
theorem qHA (N:Nat):qU Tryz.prog (qK4 N):=trivial
def qLu (z:Bool):TV×THp:=(xb z,[])
def qp2 (a0:qc):Tree (Bool):=
 .cond (eqE qh a0 (qc.mk 0 0)) (
 .ret true) <|
 .cond (decide (((0:Int)) < (qc.N a0))) (
 .cond (decide ((qc.N a0)≤((1099511627776:Int)))) (
 .cond (decide (((0:Int))≤(qc.Rep a0))) (
 .ret (decide ((qc.Rep a0) < ((8:Int))))) <|
 .ret false) <|
 .ret false) <|
 .ret false
def qaE (a0:qc):Option (Bool):=(qp2 a0).run some
def qKR:List (Nat×qw):=[]
def qb4:Ent:=smF ⟨34,[],[.x qh],[],[]⟩ [qh] (Bool) (fun x=>qaE x.1) cs1 fun _=>qLu
theorem qdD:zf Tryz.prog (qb4):=
 zd (H:=qKW) (L:=qJ (qKR)) (ts:=[qh]) (T:=fun x=>qp2 x.1) 0 qSB (qHA 0) (qt (by kernel_rfl) trivial) (rg0 (by kernel_rfl)) fun x=>by kernel_rfl
noncomputable def qTt:Code:=Tryz.f74.body.getD .skip
theorem qRc:FnF Tryz.prog 74 Tryz.f74 qTt:=⟨qk,by kernel_rfl,by kernel_rfl,by kernel_rfl⟩
def qN9:TH:={ live:=[(0,[1]),(1,[2])],dec:=[7,12] }
def qNy (N:Nat):List Ent:=[qb4]
theorem qKm (N:Nat):qU Tryz.prog (qNy N):=⟨qdD,trivial⟩
def qOq (z:Bool):TV×THp:=(xb z,[])
def quO (a0:qe):Tree (Bool):=
 .cond (!(eqE qh (qe.S a0) (qc.mk 0 0))) (
 .bind (qaE (qe.S a0)) fun r1=>
 .cond r1 (
 .ret (decide ((((qe.V a0).length:Nat):Int)≤((200:Int))))) <|
 .ret false) <|
 .ret false
def qgx (a0:qe):Option (Bool):=(quO a0).run some
def qNU:List (Nat×qw):=[]
def qEU:Ent:=smF ⟨74,[],[.x qq],[],[]⟩ [qq] (Bool) (fun x=>qgx x.1) cs1 fun _=>qOq
theorem qLr:zf Tryz.prog (qEU):=
 zd (H:=qN9) (L:=qJ (qNU)) (ts:=[qq]) (T:=fun x=>quO x.1) 0 qRc (qKm 0) (qt (by kernel_rfl) trivial) (rg0 (by kernel_rfl)) fun x=>by kernel_rfl
noncomputable def qT2:Code:=Tryz.f98.body.getD .skip
theorem qSt:FnF Tryz.prog 98 Tryz.f98 qT2:=⟨qk,by kernel_rfl,by kernel_rfl,by kernel_rfl⟩
def qDL:TH:={ live:=[(0,[0]),(1,[2])] }
def qEk (N:Nat):List Ent:=[]
theorem qAy (N:Nat):qU Tryz.prog (qEk N):=trivial
def qEv (a0:Int) (z:Unit):TV×THp:=(xb (!decide (a0=a0)),[])
def qiS (a0:Int):Tree (Unit):=
 .ret ()
def qgc (a0:Int):Option (Unit):=(qiS a0).run some
def qDG:List (Nat×qw):=[]
def qoX:Ent:=smF ⟨98,[],[.x (.i .i64)],[],[]⟩ [(.i .i64)] (Unit) (fun x=>qgc x.1) cs1 fun x=>qEv x.1
theorem qCg:zf Tryz.prog (qoX):=
 zd (H:=qDL) (L:=qJ (qDG)) (ts:=[(.i .i64)]) (T:=fun x=>qiS x.1) 0 qSt (qAy 0) (qt (by kernel_rfl) trivial) (rg0 (by kernel_rfl)) fun x=>by kernel_rfl
noncomputable def qTo:Code:=Tryz.f67.body.getD .skip
theorem qSH:FnF Tryz.prog 67 Tryz.f67 qTo:=⟨qk,by kernel_rfl,by kernel_rfl,by kernel_rfl⟩
def qzL:TH:={ live:=[(0,[0,1]),(1,[0,1,5]),(2,[0,1,5,6]),(3,[0,1,6,11]),(4,[12]),(5,[4]),(6,[4]),(7,[0,1,13]),(8,[4]),(9,[0,1,16]),(10,[4]),(11,[19]),(12,[4]),(13,[4])] }
def qz5 (N:Nat):List Ent:=[qoX]
theorem qvt (N:Nat):qU Tryz.prog (qz5 N):=⟨qCg,trivial⟩
def qzM (z:Int):TV×THp:=(xi z,[])
def qfb (a0:Int) (a1:Int):Tree (Int):=
 .bind (qgc a0) fun r1=>
 .bind (qgc a1) fun r2=>
 .cond (!decide (a0=a0)) (
 .cond (!decide (a1=a1)) (
 .ret 0) <|
 .ret (-1)) <|
 .cond (!decide (a1=a1)) (
 .ret 1) <|
 .cond (decide (a0 < a1)) (
 .ret (-1)) <|
 .cond (decide (a1 < a0)) (
 .ret 1) <|
 .ret 0
def Y3 (a0:Int) (a1:Int):Option (Int):=(qfb a0 a1).run some
def qz1:List (Nat×qw):=[]
def qlW:Ent:=smF ⟨67,[],[.x (.i .i64),.x (.i .i64)],[],[]⟩ [(.i .i64),(.i .i64)] (Int) (fun x=>Y3 x.1 x.2.1) cs1 fun _=>qzM
theorem qxx:zf Tryz.prog (qlW):=
 zd (H:=qzL) (L:=qJ (qz1)) (ts:=[(.i .i64),(.i .i64)]) (T:=fun x=>qfb x.1 x.2.1) 0 qSH (qvt 0) (qt (by kernel_rfl) trivial) (rg0 (by kernel_rfl)) fun x=>by kernel_rfl
noncomputable def qBs:Code:=Tryz.f66.body.getD .skip
theorem qR4:FnF Tryz.prog 66 Tryz.f66 qBs:=⟨qk,by kernel_rfl,by kernel_rfl,by kernel_rfl⟩
def qno:TH:={ live:=[(0,[0]),(1,[0,3]),(2,[3,6,7,8]),(3,[3,6,7,8,9]),(4,[3,5,6,7,8]),(5,[3,5,6,7,8,14]),(6,[2]),(7,[3,6,7,8]),(8,[2])] }
def qx3 (N:Nat):List Ent:=[]
theorem qrP (N:Nat):qU Tryz.prog (qx3 N):=trivial
abbrev qcY:=List Int×Int
abbrev X2:=Int⊕(Int×Bool)
def Kb (f:qcY):X2→Ex×TSt
 | .inl y=>(.ret,⟨0,18,[],[(2,xi y)],[],false,[]⟩)
 | .inr y=>(.exit 0,⟨0,18,[],[(3,.ic .i64 0),(6,.tv (.sl 1 (.i .i64)) f.1),(7,xi f.2),(8,xi y.1),(9,xb y.2)],[],false,[]⟩)
def qDH (N:Nat):List (Nat×qw):=[]
abbrev Y1:=Int
def qpc:SP:=⟨0,18,[],[(3,.k (.ic .i64 0)),(6,.x (.sl 1 (.i .i64))),(7,.x (.i .i64)),(8,.x (.i .i64))],[],false,[]⟩
def qDv (f:qcY) (v:Y1):TSt:=zq qpc [dv (.sl 1 (.i .i64)) f.1,dv (.i .i64) f.2,dv (.i .i64) v]
def J_ (N:Nat) (s6_3:List Int) (s7_3:Int) (v:Y1):Tree (Y1⊕X2):=
 .cond (decide (v < s7_3)) (
 .bind (qM s6_3 v) fun e1=>
 .cond (!decide (e1=((0:Int)))) (
 .ret (.inr (.inl e1))) <|
 .chk (qp (v + 1)) <|
 .ret (.inl (v + 1))) <|
 .ret (.inr (.inr ((v,decide (v < s7_3)))))
def qoZ (N n:Nat) (f:qcY) (v:Y1):Option X2:=qQ (J_ N f.1 f.2) some n v
theorem qC2 (N:Nat) (f:qcY) (n:Nat) (v:Y1) (y:X2) (h:qoZ N n f v=some y):LG Tryz.prog qno 66 (qE qBs 3) (qDv f v) (Kb f y):=
 zj qk (E:=qx3 N) (L:=qJ (qDH N)) (st:=Kb f) (g:=some) (R:=Kb f) (qrP N) (qt (by kernel_rfl) trivial) (rg0 (by kernel_rfl)) (fun v=>by kernel_rfl) (qP (st:=Kb f) fun y=>by rcases y with _ | _<;>rfl) n v y h
def qlv (N:Nat) (s6_3:List Int) (s7_3:Int) (s8_3:Int):Option X2:=qoZ N N (s6_3,s7_3) s8_3
def qoY (N:Nat):qw:=smL qpc [(.sl 1 (.i .i64)),(.i .i64),(.i .i64)] X2 (fun x=>qlv N x.1 x.2.1 x.2.2.1) (csS cs1) fun x=>Kb (x.1,x.2.1)
theorem qCy (N:Nat):zZ Tryz.prog qno 66 (qE qBs 3) (qoY N):=zp fun x z h=>qC2 N (x.1,x.2.1) N x.2.2.1 z h
def qJP (z:Int):TV×THp:=(xi z,[])
def qm0 (N:Nat) (a0:List Int):Tree (Int):=
 .bind (qlv N a0 ((a0.length:Nat):Int) 0) fun z1=>
 .sum z1 (fun z2=>
 .ret z2) fun z2=>
 .ret 0
def qin (N:Nat) (a0:List Int):Option (Int):=(qm0 N a0).run some
def qIU (N:Nat):List (Nat×qw):=[(3,qoY N)]
def qwA (N:Nat):Ent:=smF ⟨66,[],[.x (.sl 1 (.i .i64))],[],[]⟩ [(.sl 1 (.i .i64))] (Int) (fun x=>qin N x.1) cs1 fun _=>qJP
theorem qHz (N:Nat):zf Tryz.prog (qwA N):=
 zd (H:=qno) (L:=qJ (qIU N)) (ts:=[(.sl 1 (.i .i64))]) (T:=fun x=>qm0 N x.1) 0 qR4 (qrP N) (qt (by kernel_rfl) ⟨qCy N,trivial⟩) (rg0 (by kernel_rfl)) fun x=>by kernel_rfl
noncomputable def qRR:Code:=Tryz.f28.body.getD .skip
theorem qSE:FnF Tryz.prog 28 Tryz.f28 qRR:=⟨qk,by kernel_rfl,by kernel_rfl,by kernel_rfl⟩
def qIN:TH:={ live:=[(0,[2,3]),(1,[4])],dec:=[8] }
def qKA (N:Nat):List Ent:=[qlW,qwA N]
theorem qFs (N:Nat):qU Tryz.prog (qKA N):=⟨qxx,qHz N,trivial⟩
def qJY (z:Bool):TV×THp:=(xb z,[])
def qnb (N:Nat) (a0:qc) (a1:qc):Tree (Bool):=
 .cond (!(eqE qh a0 a1)) (
 .bind (Y3 (qc.N a0) (qc.N a1)) fun r1=>
 .bind (Y3 (qc.Rep a0) (qc.Rep a1)) fun r2=>
 .bind (qin N [r1,r2]) fun r3=>
 .ret (decide (r3 < ((0:Int))))) <|
 .ret false
def vv (N:Nat) (a0:qc) (a1:qc):Option (Bool):=(qnb N a0 a1).run some
def qIS (N:Nat):List (Nat×qw):=[]
def XN (N:Nat):Ent:=smF ⟨28,[],[.x qh,.x qh],[],[]⟩ [qh,qh] (Bool) (fun x=>vv N x.1 x.2.1) cs1 fun _=>qJY
theorem Ws (N:Nat):zf Tryz.prog (XN N):=
 zd (H:=qIN) (L:=qJ (qIS N)) (ts:=[qh,qh]) (T:=fun x=>qnb N x.1 x.2.1) 0 qSE (qFs N) (qt (by kernel_rfl) trivial) (rg0 (by kernel_rfl)) fun x=>by kernel_rfl
noncomputable def qBF:Code:=Tryz.f35.body.getD .skip
theorem qTT:FnF Tryz.prog 35 Tryz.f35 qBF:=⟨qk,by kernel_rfl,by kernel_rfl,by kernel_rfl⟩
def qwR:TH:={ live:=[(0,[1]),(1,[1,21]),(2,[2]),(3,[1,23,24,25]),(4,[1,23,24,25,26]),(5,[1,3,4,23,24,25]),(6,[1,4,5,23,24,25]),(7,[1,23,24,25,74]),(8,[2]),(9,[1,23,24,25]),(10,[2])],dec:=[10,15,32,37,40,55,60,66] }
def qGE (N:Nat):List Ent:=[qb4,qEU,XN N]
theorem qA9 (N:Nat):qU Tryz.prog (qGE N):=⟨qdD,qLr,Ws N,trivial⟩
abbrev qiD:=qa×List qd×Int
abbrev qas:=Unit⊕(Int×Bool)
def qdn (f:qiD):qas→Ex×TSt
 | .inl y=>(.ret,⟨0,76,[],[(2,.bc false)],[],false,[]⟩)
 | .inr y=>(.exit 0,⟨0,76,[],[(1,.p 10 [] 0),(23,.tv (.sl 4 qB) f.2.1),(24,xi f.2.2),(25,xi y.1),(26,xb y.2)],[(10,.cell false (.tv qf f.1))],false,[]⟩)
def qKl (N:Nat):List (Nat×qw):=[]
abbrev qdQ:=Int
def qyt:SP:=⟨0,76,[],[(1,.k (.p 10 [] 0)),(23,.x (.sl 4 qB)),(24,.x (.i .i64)),(25,.x (.i .i64))],[(10,.cell false (.x qf))],false,[]⟩
def qJK (f:qiD) (v:qdQ):TSt:=zq qyt [dv qf f.1,dv (.sl 4 qB) f.2.1,dv (.i .i64) f.2.2,dv (.i .i64) v]
def qim (N:Nat) (o_4:qa) (s23_4:List qd) (s24_4:Int) (v:qdQ):Tree (qdQ⊕qas):=
 .cond (decide (v < s24_4)) (
 .bind (qM s23_4 v) fun e1=>
 .cond (decide (v=((0:Int)))) (
 .cond (decide (((0:Int))≤(qd.No e1))) (
 .cond (decide (((8:Int))≤(qd.No e1))) (
 .ret (.inr (.inl ()))) <|
 .bind (qgx (qd.C e1)) fun r2=>
 .cond (!r2) (
 .ret (.inr (.inl ()))) <|
 .bind (vv N (qa.qz o_4) (qe.S (qd.C e1))) fun r3=>
 .cond (!r3) (
 .ret (.inr (.inl ()))) <|
 .chk (qp (v + 1)) <|
 .ret (.inl (v + 1))) <|
 .cond (decide (((0:Int)) < v)) (
 .chk (qp (v - 1)) <|
 .bind (qM (qa.F o_4) (v - 1)) fun e2=>
 .cond (!(decide ((qd.No e2) < (qd.No e1)))) (
 .ret (.inr (.inl ()))) <|
 .cond (decide (((8:Int))≤(qd.No e1))) (
 .ret (.inr (.inl ()))) <|
 .bind (qgx (qd.C e1)) fun r3=>
 .cond (!r3) (
 .ret (.inr (.inl ()))) <|
 .bind (vv N (qa.qz o_4) (qe.S (qd.C e1))) fun r4=>
 .cond (!r4) (
 .ret (.inr (.inl ()))) <|
 .chk (qp (v + 1)) <|
 .ret (.inl (v + 1))) <|
 .ret (.inr (.inl ()))) <|
 .cond (decide (((0:Int)) < v)) (
 .chk (qp (v - 1)) <|
 .bind (qM (qa.F o_4) (v - 1)) fun e2=>
 .cond (!(decide ((qd.No e2) < (qd.No e1)))) (
 .ret (.inr (.inl ()))) <|
 .cond (decide (((8:Int))≤(qd.No e1))) (
 .ret (.inr (.inl ()))) <|
 .bind (qgx (qd.C e1)) fun r3=>
 .cond (!r3) (
 .ret (.inr (.inl ()))) <|
 .bind (vv N (qa.qz o_4) (qe.S (qd.C e1))) fun r4=>
 .cond (!r4) (
 .ret (.inr (.inl ()))) <|
 .chk (qp (v + 1)) <|
 .ret (.inl (v + 1))) <|
 .ret (.inr (.inl ()))) <|
 .ret (.inr (.inr ((v,decide (v < s24_4)))))
def qxj (N n:Nat) (f:qiD) (v:qdQ):Option qas:=qQ (qim N f.1 f.2.1 f.2.2) some n v
theorem qIO (N:Nat) (f:qiD) (n:Nat) (v:qdQ) (y:qas) (h:qxj N n f v=some y):LG Tryz.prog qwR 35 (qE qBF 4) (qJK f v) (qdn f y):=
 zj qk (E:=qGE N) (L:=qJ (qKl N)) (st:=qdn f) (g:=some) (R:=qdn f) (qA9 N) (qt (by kernel_rfl) trivial) (rg0 (by kernel_rfl)) (fun v=>by kernel_rfl) (qP (st:=qdn f) fun y=>by rcases y with _ | _<;>rfl) n v y h
def qmA (N:Nat) (o_4:qa) (s23_4:List qd) (s24_4:Int) (s25_4:Int):Option qas:=qxj N N (o_4,s23_4,s24_4) s25_4
def qys (N:Nat):qw:=smL qyt [qf,(.sl 4 qB),(.i .i64),(.i .i64)] qas (fun x=>qmA N x.1 x.2.1 x.2.2.1 x.2.2.2.1) (csS cs1) fun x=>qdn (x.1,x.2.1,x.2.2.1)
theorem qH1 (N:Nat):zZ Tryz.prog qwR 35 (qE qBF 4) (qys N):=zp fun x z h=>qIO N (x.1,x.2.1,x.2.2.1) N x.2.2.2.1 z h
def qQT (z:Bool):TV×THp:=(xb z,[])
def qyJ (N:Nat) (a0:qa):Tree (Bool):=
 .bind (qaE (qa.qz a0)) fun r1=>
 .cond (!r1) (
 .ret false) <|
 .cond (decide ((((qa.F a0).length:Nat):Int)=((0:Int)))) (
 .cond (eqE qh (qa.qz a0) (qc.mk 0 0)) (
 .ret false) <|
 .bind (qmA N a0 (qa.F a0) (((qa.F a0).length:Nat):Int) 0) fun z2=>
 .sum z2 (fun z3=>
 .ret false) fun z3=>
 .ret true) <|
 .bind (qmA N a0 (qa.F a0) (((qa.F a0).length:Nat):Int) 0) fun z2=>
 .sum z2 (fun z3=>
 .ret false) fun z3=>
 .ret true
def qjx (N:Nat) (a0:qa):Option (Bool):=(qyJ N a0).run some
def qON (N:Nat):List (Nat×qw):=[(4,qys N)]
def qo4 (N:Nat):Ent:=smF ⟨35,[],[.x qf],[],[]⟩ [qf] (Bool) (fun x=>qjx N x.1) cs1 fun _=>qQT
theorem qtO (N:Nat):zf Tryz.prog (qo4 N):=
 zd (H:=qwR) (L:=qJ (qON N)) (ts:=[qf]) (T:=fun x=>qyJ N x.1) 0 qTT (qA9 N) (qt (by kernel_rfl) ⟨qH1 N,trivial⟩) (rg0 (by kernel_rfl)) fun x=>by kernel_rfl
noncomputable def qSL:Code:=Tryz.f94.body.getD .skip
theorem qRi:FnF Tryz.prog 94 Tryz.f94 qSL:=⟨qk,by kernel_rfl,by kernel_rfl,by kernel_rfl⟩
def qDA:TH:={ live:=[(0,[0,1]),(1,[4])] }
def qEP (N:Nat):List Ent:=[qPw]
theorem qzU (N:Nat):qU Tryz.prog (qEP N):=⟨qVx,trivial⟩
def qC6 (z:Int):TV×THp:=(xi z,[])
def qij (a0:List UInt8) (a1:List UInt8):Tree (Int):=
 .bind (qTN a0 a1) fun r1=>
 .ret r1
def qbK (a0:List UInt8) (a1:List UInt8):Option (Int):=(qij a0 a1).run some
def qC8:List (Nat×qw):=[]
def qcN:Ent:=smF ⟨94,[],[.x .bl,.x .bl],[],[]⟩ [.bl,.bl] (Int) (fun x=>qbK x.1 x.2.1) cs1 fun _=>qC6
theorem qgD:zf Tryz.prog (qcN):=
 zd (H:=qDA) (L:=qJ (qC8)) (ts:=[.bl,.bl]) (T:=fun x=>qij x.1 x.2.1) 0 qRi (qzU 0) (qt (by kernel_rfl) trivial) (rg0 (by kernel_rfl)) fun x=>by kernel_rfl
noncomputable def qTC:Code:=Tryz.f60.body.getD .skip
theorem qTG:FnF Tryz.prog 60 Tryz.f60 qTC:=⟨qk,by kernel_rfl,by kernel_rfl,by kernel_rfl⟩
def qLk:TH:={ live:=[(0,[2,3]),(1,[4])],dec:=[8] }
def qK3 (N:Nat):List Ent:=[qcN]
theorem qHy (N:Nat):qU Tryz.prog (qK3 N):=⟨qgD,trivial⟩
def qLy (z:Bool):TV×THp:=(xb z,[])
def qp9 (a0:Vector UInt8 16) (a1:Vector UInt8 16):Tree (Bool):=
 .cond (!(eqE (.ba 16) a0 a1)) (
 .bind (qbK a0.toList a1.toList) fun r1=>
 .ret (decide (r1 < ((0:Int))))) <|
 .ret false
def qkJ (a0:Vector UInt8 16) (a1:Vector UInt8 16):Option (Bool):=(qp9 a0 a1).run some
def qLP:List (Nat×qw):=[]
def qqp:Ent:=smF ⟨60,[],[.x (.ba 16),.x (.ba 16)],[],[]⟩ [(.ba 16),(.ba 16)] (Bool) (fun x=>qkJ x.1 x.2.1) cs1 fun _=>qLy
theorem qwx:zf Tryz.prog (qqp):=
 zd (H:=qLk) (L:=qJ (qLP)) (ts:=[(.ba 16),(.ba 16)]) (T:=fun x=>qp9 x.1 x.2.1) 0 qTG (qHy 0) (qt (by kernel_rfl) trivial) (rg0 (by kernel_rfl)) fun x=>by kernel_rfl
noncomputable def qBK:Code:=Tryz.f25.body.getD .skip
theorem qTp:FnF Tryz.prog 25 Tryz.f25 qBK:=⟨qk,by kernel_rfl,by kernel_rfl,by kernel_rfl⟩
def qtP:TH:={ live:=[(0,[1]),(1,[1,6,7,8]),(2,[1,6,7,8,9]),(3,[1,3,4,6,7,8]),(4,[1,6,7,8,32]),(5,[2]),(6,[1,6,7,8]),(7,[2])],dec:=[16,19] }
def qE4 (N:Nat):List Ent:=[qo4 N,qqp]
theorem qyK (N:Nat):qU Tryz.prog (qE4 N):=⟨qtO N,qwx,trivial⟩
abbrev qgl:=qb×List qa×Int
abbrev YU:=Unit⊕(Int×Bool)
def qbU (f:qgl):YU→Ex×TSt
 | .inl y=>(.ret,⟨0,38,[],[(2,.bc false)],[],false,[]⟩)
 | .inr y=>(.exit 0,⟨0,38,[],[(1,.p 10 [] 0),(6,.tv (.sl 19 qf) f.2.1),(7,xi f.2.2),(8,xi y.1),(9,xb y.2)],[(10,.cell false (.tv qj f.1))],false,[]⟩)
def qHV (N:Nat):List (Nat×qw):=[]
abbrev qbO:=Int
def qu0:SP:=⟨0,38,[],[(1,.k (.p 10 [] 0)),(6,.x (.sl 19 qf)),(7,.x (.i .i64)),(8,.x (.i .i64))],[(10,.cell false (.x qj))],false,[]⟩
def qHv (f:qgl) (v:qbO):TSt:=zq qu0 [dv qj f.1,dv (.sl 19 qf) f.2.1,dv (.i .i64) f.2.2,dv (.i .i64) v]
def qgi (N:Nat) (o_2:qb) (s6_2:List qa) (s7_2:Int) (v:qbO):Tree (qbO⊕YU):=
 .cond (decide (v < s7_2)) (
 .bind (qM s6_2 v) fun e1=>
 .bind (qjx N e1) fun r2=>
 .cond (!r2) (
 .ret (.inr (.inl ()))) <|
 .cond (decide (((0:Int)) < v)) (
 .chk (qp (v - 1)) <|
 .bind (qM (qb.R o_2) (v - 1)) fun e3=>
 .bind (qkJ (qa.ID e3) (qa.ID e1)) fun r4=>
 .cond (!r4) (
 .ret (.inr (.inl ()))) <|
 .chk (qp (v + 1)) <|
 .ret (.inl (v + 1))) <|
 .chk (qp (v + 1)) <|
 .ret (.inl (v + 1))) <|
 .ret (.inr (.inr ((v,decide (v < s7_2)))))
def qvg (N n:Nat) (f:qgl) (v:qbO):Option YU:=qQ (qgi N f.1 f.2.1 f.2.2) some n v
theorem qHh (N:Nat) (f:qgl) (n:Nat) (v:qbO) (y:YU) (h:qvg N n f v=some y):LG Tryz.prog qtP 25 (qE qBK 2) (qHv f v) (qbU f y):=
 zj qk (E:=qE4 N) (L:=qJ (qHV N)) (st:=qbU f) (g:=some) (R:=qbU f) (qyK N) (qt (by kernel_rfl) trivial) (rg0 (by kernel_rfl)) (fun v=>by kernel_rfl) (qP (st:=qbU f) fun y=>by rcases y with _ | _<;>rfl) n v y h
def qpE (N:Nat) (o_2:qb) (s6_2:List qa) (s7_2:Int) (s8_2:Int):Option YU:=qvg N N (o_2,s6_2,s7_2) s8_2
def qve (N:Nat):qw:=smL qu0 [qj,(.sl 19 qf),(.i .i64),(.i .i64)] YU (fun x=>qpE N x.1 x.2.1 x.2.2.1 x.2.2.2.1) (csS cs1) fun x=>qbU (x.1,x.2.1,x.2.2.1)
theorem qFI (N:Nat):zZ Tryz.prog qtP 25 (qE qBK 2) (qve N):=zp fun x z h=>qHh N (x.1,x.2.1,x.2.2.1) N x.2.2.2.1 z h
def qNX (z:Bool):TV×THp:=(xb z,[])
def quV (N:Nat) (a0:qb):Tree (Bool):=
 .bind (qpE N a0 (qb.R a0) (((qb.R a0).length:Nat):Int) 0) fun z1=>
 .sum z1 (fun z2=>
 .ret false) fun z2=>
 .ret (decide ((((qb.R a0).length:Nat):Int)≤((10:Int))))
def qd4 (N:Nat) (a0:qb):Option (Bool):=(quV N a0).run some
def qOe (N:Nat):List (Nat×qw):=[(2,qve N)]
def qmE (N:Nat):Ent:=smF ⟨25,[],[.x qj],[],[]⟩ [qj] (Bool) (fun x=>qd4 N x.1) cs1 fun _=>qNX
theorem qpk (N:Nat):zf Tryz.prog (qmE N):=
 zd (H:=qtP) (L:=qJ (qOe N)) (ts:=[qj]) (T:=fun x=>quV N x.1) 0 qTp (qyK N) (qt (by kernel_rfl) ⟨qFI N,trivial⟩) (rg0 (by kernel_rfl)) fun x=>by kernel_rfl
noncomputable def qRD:Code:=Tryz.f33.body.getD .skip
theorem qQ8:FnF Tryz.prog 33 Tryz.f33 qRD:=⟨qk,by kernel_rfl,by kernel_rfl,by kernel_rfl⟩
def qJQ:TH:={ live:=[(0,[1]),(1,[2])],dec:=[7] }
def qIu (N:Nat):List Ent:=[]
theorem qFQ (N:Nat):qU Tryz.prog (qIu N):=trivial
def qIM (z:Bool):TV×THp:=(xb z,[])
def qc8 (a0:qa):Tree (Bool):=
 .cond (eqE qh (qa.qz a0) (qc.mk 0 0)) (
 .ret (decide ((((qa.F a0).length:Nat):Int)=((0:Int))))) <|
 .ret false
def Vl (a0:qa):Option (Bool):=(qc8 a0).run some
def qIv:List (Nat×qw):=[]
def qiU:Ent:=smF ⟨33,[],[.x qf],[],[]⟩ [qf] (Bool) (fun x=>Vl x.1) cs1 fun _=>qIM
theorem qlc:zf Tryz.prog (qiU):=
 zd (H:=qJQ) (L:=qJ (qIv)) (ts:=[qf]) (T:=fun x=>qc8 x.1) 0 qQ8 (qFQ 0) (qt (by kernel_rfl) trivial) (rg0 (by kernel_rfl)) fun x=>by kernel_rfl
noncomputable def qR9:Code:=Tryz.f87.body.getD .skip
theorem qTf:FnF Tryz.prog 87 Tryz.f87 qR9:=⟨qk,by kernel_rfl,by kernel_rfl,by kernel_rfl⟩
def qAj:TH:={ live:=[(0,[0,1]),(1,[0,1,6]),(2,[0,1]),(3,[0,1]),(4,[0,1,16]),(5,[0]),(6,[4])],esc:=true,nil:=[(5,[⟨.sl 0,900000870,(.sl 19 qf)⟩])] }
def qzS (N:Nat):List Ent:=[]
theorem qwp (N:Nat):qU Tryz.prog (qzS N):=trivial
def qAd:Unit⊕Unit→TV×THp
 | .inl z=>(.v 900000870 0,[(900000870,.vec false 19 (.sl 19 qf) ([]:List qa))])
 | .inr z=>(.nils,[])
def KJ (a0:Int):Tree (Unit⊕Unit):=
 .cond (decide (a0 < ((0:Int)))) (
 .no) <|
 .chk (qp a0) <|
 .cond (decide (((0:Int)) < a0)) (
 .chk (0 < a0∧a0.toNat * 56≤zh) <|
 .ret (.inl ())) <|
 .ret (.inr ())
def X7 (a0:Int):Option (Unit⊕Unit):=(KJ a0).run some
def qAE:List (Nat×qw):=[]
def qlP:Ent:=smF ⟨87,[],[.k .nils,.x (.i .i64)],[],[]⟩ [(.i .i64)] (Unit⊕Unit) (fun x=>X7 x.1) (csS cs1) fun _=>qAd
theorem qyG:zf Tryz.prog (qlP):=
 zd (H:=qAj) (L:=qJ (qAE)) (ts:=[(.i .i64)]) (T:=fun x=>KJ x.1) 0 qTf (qwp 0) (qt (by kernel_rfl) trivial) (rg0 (by kernel_rfl)) fun x=>by kernel_rfl
noncomputable def qmW:Code:=Tryz.f53.body.getD .skip
theorem qTy:FnF Tryz.prog 53 Tryz.f53 qmW:=⟨qk,by kernel_rfl,by kernel_rfl,by kernel_rfl⟩
def VT:TH:={ live:=[(0,[0]),(1,[0,3]),(2,[0,3,9,10,11]),(3,[0,3,9,10,11,12]),(4,[0,3,5,9,10,11]),(5,[0,3,9,10,11]),(6,[0,3,9,10,11,20]),(7,[0,3,9,10,11]),(8,[0,3,9,10,11]),(9,[0,6]),(10,[6,25,26,27]),(11,[6,25,26,27,28]),(12,[6,8,25,26,27]),(13,[6,25,26,27]),(14,[6,25,26,27]),(15,[2])],raw:=[87],fresh:=[24],nil:=[(9,[⟨.sl 6,900000870,(.sl 19 qf)⟩])] }
def qcw (N:Nat):List Ent:=[qlP]
theorem qam (N:Nat):qU Tryz.prog (qcw N):=⟨qyG,trivial⟩
abbrev Xk:=List (List qa)×List (List qa)×Int
abbrev Qg:=Int×Int×Bool
def ZY (f:Xk) (y:Qg):Ex×TSt:=(.exit 0,⟨0,36,[],[(0,.tv (.sl 1 (.sl 19 qf)) f.1),(3,xi y.1),(9,.tv (.sl 1 (.sl 19 qf)) f.2.1),(10,xi f.2.2),(11,xi y.2.1),(12,xb y.2.2)],[],false,[]⟩)
def qqX (N:Nat):List (Nat×qw):=[]
abbrev ZD:=Int×Int
def qf6:SP:=⟨0,36,[],[(0,.x (.sl 1 (.sl 19 qf))),(3,.x (.i .i64)),(9,.x (.sl 1 (.sl 19 qf))),(10,.x (.i .i64)),(11,.x (.i .i64))],[],false,[]⟩
def qpZ (f:Xk) (v:ZD):TSt:=zq qf6 [dv (.sl 1 (.sl 19 qf)) f.1,dv (.i .i64) v.1,dv (.sl 1 (.sl 19 qf)) f.2.1,dv (.i .i64) f.2.2,dv (.i .i64) v.2]
def XI (N:Nat) (s0_3:List (List qa)) (s9_3:List (List qa)) (s10_3:Int) (v:ZD):Tree (ZD⊕Qg):=
 .cond (decide (v.2 < s10_3)) (
 .bind (qM s9_3 v.2) fun e1=>
 .chk (qp (v.1 + ((e1.length:Nat):Int))) <|
 .cond (decide ((v.1 + ((e1.length:Nat):Int)) < 0)) (
 .no) <|
 .chk (qp (v.2 + 1)) <|
 .ret (.inl (v.1 + ((e1.length:Nat):Int),v.2 + 1))) <|
 .ret (.inr (v.1,v.2,decide (v.2 < s10_3)))
def qgb (N n:Nat) (f:Xk) (v:ZD):Option Qg:=qQ (XI N f.1 f.2.1 f.2.2) some n v
theorem qqJ (N:Nat) (f:Xk) (n:Nat) (v:ZD) (y:Qg) (h:qgb N n f v=some y):LG Tryz.prog VT 53 (qE qmW 3) (qpZ f v) (ZY f y):=
 zj qk (E:=qcw N) (L:=qJ (qqX N)) (st:=ZY f) (g:=some) (R:=ZY f) (qam N) (qt (by kernel_rfl) trivial) (rg0 (by kernel_rfl)) (fun v=>by kernel_rfl) (qP (st:=ZY f) fun y=>by rfl) n v y h
def qaT (N:Nat) (s0_3:List (List qa)) (s9_3:List (List qa)) (s10_3:Int) (s3_3:Int) (s11_3:Int):Option Qg:=qgb N N (s0_3,s9_3,s10_3) (s3_3,s11_3)
def qf9 (N:Nat):qw:=smL qf6 [(.sl 1 (.sl 19 qf)),(.i .i64),(.sl 1 (.sl 19 qf)),(.i .i64),(.i .i64)] Qg (fun x=>qaT N x.1 x.2.2.1 x.2.2.2.1 x.2.1 x.2.2.2.2.1) cs1 fun x=>ZY (x.1,x.2.2.1,x.2.2.2.1)
theorem qos (N:Nat):zZ Tryz.prog VT 53 (qE qmW 3) (qf9 N):=zp fun x z h=>qqJ N (x.1,x.2.2.1,x.2.2.2.1) N (x.2.1,x.2.2.2.2.1) z h
abbrev VG:=List (List qa)×Int
abbrev vM:=List qa×Int×Bool
def Zd (f:VG) (y:vM):Ex×TSt:=(.exit 2,⟨0,36,[],[(6,.v 900000870 y.1.length),(25,.tv (.sl 1 (.sl 19 qf)) f.1),(26,xi f.2),(27,xi y.2.1),(28,xb y.2.2)],[(900000870,.vec false 19 (.sl 19 qf) (y.1:List qa))],false,[]⟩)
def qoj (N:Nat):List (Nat×qw):=[]
abbrev Q9:=List qa×Int
def qeQ:SP:=⟨0,36,[],[(6,.vs 900000870),(25,.x (.sl 1 (.sl 19 qf))),(26,.x (.i .i64)),(27,.x (.i .i64))],[(900000870,.vec false 19)],false,[]⟩
def qoB (f:VG) (v:Q9):TSt:=zq qeQ [dv (.sl 19 qf) v.1,dv (.sl 1 (.sl 19 qf)) f.1,dv (.i .i64) f.2,dv (.i .i64) v.2]
def VJ (N:Nat) (s25_11:List (List qa)) (s26_11:Int) (v:Q9):Tree (Q9⊕vM):=
 .cond (decide (v.2 < s26_11)) (
 .bind (qM s25_11 v.2) fun e1=>
 .chk (zU v.1.length v.1.length ((v.1++e1).length) 56) <|
 .chk (qp (v.2 + 1)) <|
 .ret (.inl (v.1++e1,v.2 + 1))) <|
 .ret (.inr (v.1,v.2,decide (v.2 < s26_11)))
def qeU (N n:Nat) (f:VG) (v:Q9):Option vM:=qQ (VJ N f.1 f.2) some n v
theorem qn8 (N:Nat) (f:VG) (n:Nat) (v:Q9) (y:vM) (h:qeU N n f v=some y):LG Tryz.prog VT 53 (qE qmW 11) (qoB f v) (Zd f y):=
 zj qk (E:=qcw N) (L:=qJ (qoj N)) (st:=Zd f) (g:=some) (R:=Zd f) (qam N) (qt (by kernel_rfl) trivial) (rg0 (by kernel_rfl)) (fun v=>by kernel_rfl) (qP (st:=Zd f) fun y=>by rfl) n v y h
def Wo (N:Nat) (s25_11:List (List qa)) (s26_11:Int) (o_11:List qa) (s27_11:Int):Option vM:=qeU N N (s25_11,s26_11) (o_11,s27_11)
def qeZ (N:Nat):qw:=smL qeQ [(.sl 19 qf),(.sl 1 (.sl 19 qf)),(.i .i64),(.i .i64)] vM (fun x=>Wo N x.2.1 x.2.2.1 x.1 x.2.2.2.1) cs1 fun x=>Zd (x.2.1,x.2.2.1)
theorem qmV (N:Nat):zZ Tryz.prog VT 53 (qE qmW 11) (qeZ N):=zp fun x z h=>qn8 N (x.2.1,x.2.2.1) N (x.1,x.2.2.2.1) z h
def qvU (z:List qa):TV×THp:=(.tv (.sl 19 qf) z,[])
def qcx (N:Nat) (a0:List (List qa)):Tree (List qa):=
 .bind (qaT N a0 a0 ((a0.length:Nat):Int) 0 0) fun z1=>
 .bind (X7 z1.1) fun r2=>
 .sum r2 (fun r3=>
 .bind (zV [(([]:List qa).length,0)] (Wo N a0 ((a0.length:Nat):Int) [] 0)) fun z4=>
 .chk (z4.1.length=z4.1.length) <|
 .ret z4.1) fun r3=>
 .bind (zV [(([]:List qa).length,0)] (Wo N a0 ((a0.length:Nat):Int) [] 0)) fun z4=>
 .chk (z4.1.length=z4.1.length) <|
 .ret z4.1
def KX (N:Nat) (a0:List (List qa)):Option (List qa):=(qcx N a0).run some
def qvF (N:Nat):List (Nat×qw):=[(3,qf9 N),(11,qeZ N)]
def qi5 (N:Nat):Ent:=smF ⟨53,[],[.x (.sl 1 (.sl 19 qf))],[],[]⟩ [(.sl 1 (.sl 19 qf))] (List qa) (fun x=>KX N x.1) cs1 fun _=>qvU
theorem qsX (N:Nat):zf Tryz.prog (qi5 N):=
 zd (H:=VT) (L:=qJ (qvF N)) (ts:=[(.sl 1 (.sl 19 qf))]) (T:=fun x=>qcx N x.1) 0 qTy (qam N) (qt (by kernel_rfl) ⟨qos N,qmV N,trivial⟩) (rg0 (by kernel_rfl)) fun x=>by kernel_rfl
noncomputable def qT_:Code:=Tryz.f88.body.getD .skip
theorem qCb:FnF Tryz.prog 88 Tryz.f88 qT_:=⟨qk,by kernel_rfl,by kernel_rfl,by kernel_rfl⟩
def qtJ:TH:={ live:=[(0,[0]),(1,[0,4]),(2,[2]),(3,[2])],vecs:=[5] }
def quP (N:Nat):List Ent:=[]
theorem qpA (N:Nat):qU Tryz.prog (quP N):=trivial
def qiJ (a0:List qd) (z:Unit):TV×THp:=(.tv (.sl 4 qB) ((([]:List qd))++a0:List qd),[])
def qa3 (a0:List qd):Tree (Unit):=
 .chk (List.isEmpty a0=false) <|
 .chk (zU ((([]:List qd)).length) 0 (((([]:List qd))++a0).length) 40) <|
 .chk (((([]:List qd))++a0).length=((([]:List qd))++a0).length) <|
 .ret ()
def qdk (a0:List qd):Option (Unit):=(qa3 a0).run some
def qtl:List (Nat×qw):=[]
theorem qpn:qaJ Tryz.prog ⟨88,[],[.x (.sl 4 qB)],[],[]⟩ [(.sl 4 qB)] (fun x=>qa3 x.1) (fun x=>qiJ x.1):=
 Yr (H:=qtJ) (L:=qJ (qtl)) 0 qCb (qpA 0) (qt (by kernel_rfl) trivial) (rg0 (by kernel_rfl)) fun x=>by kernel_rfl
def qpR:TH:={ live:=[(0,[0]),(1,[0,4]),(2,[2]),(3,[2])],vecs:=[5] }
def qqv (N:Nat):List Ent:=[]
theorem qnp (N:Nat):qU Tryz.prog (qqv N):=trivial
def qpy (z:Unit):TV×THp:=(.tv (.sl 4 qB) ([]:List qd),[])
def qfL:Tree (Unit):=
 .chk (0=0) <|
 .chk (0=0) <|
 .ret ()
def qs0:Option (Unit):=(qfL).run some
def qq9:List (Nat×qw):=[]
theorem qm9:qaJ Tryz.prog ⟨88,[],[.k (.es 0)],[],[]⟩ [] (fun x=>qfL) (fun _=>qpy):=
 Yr (H:=qpR) (L:=qJ (qq9)) 0 qCb (qnp 0) (qt (by kernel_rfl) trivial) (rg0 (by kernel_rfl)) fun x=>by kernel_rfl
def qpO:TH:={ live:=[(0,[0]),(1,[0,4]),(2,[2]),(3,[2])],vecs:=[5] }
def qqD (N:Nat):List Ent:=[]
theorem qnA (N:Nat):qU Tryz.prog (qqD N):=trivial
def qqT (z:Unit):TV×THp:=(.tv (.sl 4 qB) ([]:List qd),[])
def qf_:Tree (Unit):=
 .ret ()
def qtK:Option (Unit):=(qf_).run some
def qrk:List (Nat×qw):=[]
theorem qnP:qaJ Tryz.prog ⟨88,[],[.k (.es 1)],[],[]⟩ [] (fun x=>qf_) (fun _=>qqT):=
 Yr (H:=qpO) (L:=qJ (qrk)) 0 qCb (qnA 0) (qt (by kernel_rfl) trivial) (rg0 (by kernel_rfl)) fun x=>by kernel_rfl
def qfP (z:Unit):Unit:=()
def qrb (z:Unit):Unit:=()
def ZB (a0:List qd):Option (Unit):=
 bif a0.isEmpty then
  (qs0).bind fun z0=>(qtK).bind fun z1=>chk (qfP z0=qrb z1) (some (qfP z0))
 else qdk a0
def qg3:Ent:=smF ⟨88,[],[.x (.sl 4 qB)],[],[]⟩ [(.sl 4 qB)] (Unit) (fun x=>ZB x.1) cs1 fun x=>qiJ x.1
theorem qqg:zf Tryz.prog (qg3):=qkV fun x z h l=>by
 obtain ⟨a0,_⟩:=x
 replace h:ZB a0=some z:=h
 unfold ZB at h
 rcases qks h with ⟨e,h2⟩ | ⟨_,h2⟩<;>clear h
 ·have e:=List.isEmpty_iff.1 e
  subst e
  obtain ⟨z0,c0,h2⟩:=bind_some h2
  obtain ⟨z1,c1,h2⟩:=bind_some h2
  obtain ⟨hE,h2⟩:=qjU h2
  obtain rfl:=Option.some.inj h2
  refine qkB (t:=(.sl 4 qB)) (x:=[]) rfl (TV.ers []) (TV.ers []) (by exact qm9 (()) _ c0 l) ?_
  rw [hE]
  exact (by exact qnP (()) _ c1 l)
 ·exact qpn (a0,()) z h2 l
noncomputable def qSf:Code:=Tryz.f54.body.getD .skip
theorem qTq:FnF Tryz.prog 54 Tryz.f54 qSf:=⟨qk,by kernel_rfl,by kernel_rfl,by kernel_rfl⟩
def qOj:TH:={ live:=[(0,[1,2]),(1,[1,2]),(2,[2])],nil:=[(0,[⟨.ob 20 [2],25,(.sl 4 qB)⟩])] }
def qNT (N:Nat):List Ent:=[qg3]
theorem qKH (N:Nat):qU Tryz.prog (qNT N):=⟨qqg,trivial⟩
def qOG (a0:qa) (z:Unit):TV×THp:=(.tv qf (qa.mk (qa.ID a0) (qa.qz a0) ((([]:List qd))++(qa.F a0))),[])
def qtN (a0:qa):Tree (Unit):=
 .bind (ZB (qa.F a0)) fun r1=>
 .ret ()
def quS (a0:qa):Option (Unit):=(qtN a0).run some
def qM3:List (Nat×qw):=[]
def qED:Ent:=smF ⟨54,[],[.x qf],[],[]⟩ [qf] (Unit) (fun x=>quS x.1) cs1 fun x=>qOG x.1
theorem qLg:zf Tryz.prog (qED):=
 zd (H:=qOj) (L:=qJ (qM3)) (ts:=[qf]) (T:=fun x=>qtN x.1) 0 qTq (qKH 0) (qt (by kernel_rfl) trivial) (rg0 (by kernel_rfl)) fun x=>by kernel_rfl
noncomputable def qPN:Code:=Tryz.f147.body.getD .skip
theorem qPn:FnF Tryz.prog 147 Tryz.f147 qPN:=⟨qk,by kernel_rfl,by kernel_rfl,by kernel_rfl⟩
def qya:TH:={ live:=[(0,[2,3,4]),(1,[2,3,4,7]),(2,[6]),(3,[12]),(4,[6]),(5,[6])] }
def qy8 (N:Nat):List Ent:=[XN N]
theorem quY (N:Nat):qU Tryz.prog (qy8 N):=⟨Ws N,trivial⟩
def qw1 (z:Int):TV×THp:=(xi z,[])
def qdr (N:Nat) (a0:qc) (a1:qc):Tree (Int):=
 .bind (vv N a0 a1) fun r1=>
 .cond r1 (
 .ret (-1)) <|
 .bind (vv N a1 a0) fun r2=>
 .cond r2 (
 .ret 1) <|
 .ret 0
def qbl (N:Nat) (a0:qc) (a1:qc):Option (Int):=(qdr N a0 a1).run some
def qxw (N:Nat):List (Nat×qw):=[]
def qk2 (N:Nat):Ent:=smF ⟨147,[],[.x qh,.x qh,.fn 28 [] []],[],[]⟩ [qh,qh] (Int) (fun x=>qbl N x.1 x.2.1) cs1 fun _=>qw1
theorem qv_ (N:Nat):zf Tryz.prog (qk2 N):=
 zd (H:=qya) (L:=qJ (qxw N)) (ts:=[qh,qh]) (T:=fun x=>qdr N x.1 x.2.1) 0 qPn (quY N) (qt (by kernel_rfl) trivial) (rg0 (by kernel_rfl)) fun x=>by kernel_rfl
noncomputable def qQh:Code:=Tryz.f146.body.getD .skip
theorem qQs:FnF Tryz.prog 146 Tryz.f146 qQh:=⟨qk,by kernel_rfl,by kernel_rfl,by kernel_rfl⟩
def qHD:TH:={ live:=[(0,[0,1]),(1,[2])] }
def qHT (N:Nat):List Ent:=[qk2 N]
theorem qD5 (N:Nat):qU Tryz.prog (qHT N):=⟨qv_ N,trivial⟩
def qHO (a0:qe) (a1:qe) (z:Int):TV×THp:=(xi z,[(20,.cell false (.tv qq a0)),(30,.cell false (.tv qq a1))])
def qlg (N:Nat) (a0:qe) (a1:qe):Tree (Int):=
 .bind (qbl N (qe.S a0) (qe.S a1)) fun r1=>
 .ret r1
def qkd (N:Nat) (a0:qe) (a1:qe):Option (Int):=(qlg N a0 a1).run some
def qHn (N:Nat):List (Nat×qw):=[]
def qvm (N:Nat):Ent:=smF ⟨146,[],[],[.k (.p 20 [] 0),.k (.p 30 [] 0)],[(20,.cell false (.x qq)),(30,.cell false (.x qq))]⟩ [qq,qq] (Int) (fun x=>qkd N x.1 x.2.1) cs1 fun x=>qHO x.1 x.2.1
theorem qF7 (N:Nat):zf Tryz.prog (qvm N):=
 zd (H:=qHD) (L:=qJ (qHn N)) (ts:=[qq,qq]) (T:=fun x=>qlg N x.1 x.2.1) 0 qQs (qD5 N) (qt (by kernel_rfl) trivial) (rg0 (by kernel_rfl)) fun x=>by kernel_rfl
noncomputable def qTL:Code:=Tryz.f51.body.getD .skip
theorem qTc:FnF Tryz.prog 51 Tryz.f51 qTL:=⟨qk,by kernel_rfl,by kernel_rfl,by kernel_rfl⟩
def qRT:TH:={ live:=[(0,[0,2]),(1,[2])] }
def qSk (N:Nat):List Ent:=[qGO N]
theorem qNx (N:Nat):qU Tryz.prog (qSk N):=⟨qCZ N,trivial⟩
def qRt (z:Vector UInt8 32):TV×THp:=(.tv (.ba 32) z,[])
def qCT (N:Nat) (a0:List UInt8):Tree (Vector UInt8 32):=
 .chk (qmH (a0:List UInt8).length) <|
 .bind (qhm N a0) fun r1=>
 .ret r1
def qsf (N:Nat) (a0:List UInt8):Option (Vector UInt8 32):=(qCT N a0).run some
def qSZ (N:Nat):List (Nat×qw):=[]
def qCd (N:Nat):Ent:=smF ⟨51,[],[.x .s],[],[]⟩ [.s] (Vector UInt8 32) (fun x=>qsf N x.1) cs1 fun _=>qRt
theorem qG3 (N:Nat):zf Tryz.prog (qCd N):=
 zd (H:=qRT) (L:=qJ (qSZ N)) (ts:=[.s]) (T:=fun x=>qCT N x.1) 0 qTc (qNx N) (qt (by kernel_rfl) trivial) (rg0 (by kernel_rfl)) fun x=>by kernel_rfl
noncomputable def qRK:Code:=Tryz.f83.body.getD .skip
theorem qSR:FnF Tryz.prog 83 Tryz.f83 qRK:=⟨qk,by kernel_rfl,by kernel_rfl,by kernel_rfl⟩
def qOI:TH:={ live:=[(0,[2,3]),(1,[4])],dec:=[8] }
def qN8 (N:Nat):List Ent:=[qcN]
theorem qJa (N:Nat):qU Tryz.prog (qN8 N):=⟨qgD,trivial⟩
def qMX (z:Bool):TV×THp:=(xb z,[])
def qut (a0:Vector UInt8 32) (a1:Vector UInt8 32):Tree (Bool):=
 .cond (!(eqE (.ba 32) a0 a1)) (
 .bind (qbK a0.toList a1.toList) fun r1=>
 .ret (decide (r1 < ((0:Int))))) <|
 .ret false
def qj3 (a0:Vector UInt8 32) (a1:Vector UInt8 32):Option (Bool):=(qut a0 a1).run some
def qM9:List (Nat×qw):=[]
def quB:Ent:=smF ⟨83,[],[.x (.ba 32),.x (.ba 32)],[],[]⟩ [(.ba 32),(.ba 32)] (Bool) (fun x=>qj3 x.1 x.2.1) cs1 fun _=>qMX
theorem qA2:zf Tryz.prog (quB):=
 zd (H:=qOI) (L:=qJ (qM9)) (ts:=[(.ba 32),(.ba 32)]) (T:=fun x=>qut x.1 x.2.1) 0 qSR (qJa 0) (qt (by kernel_rfl) trivial) (rg0 (by kernel_rfl)) fun x=>by kernel_rfl
noncomputable def qPx:Code:=Tryz.f149.body.getD .skip
theorem qPR:FnF Tryz.prog 149 Tryz.f149 qPx:=⟨qk,by kernel_rfl,by kernel_rfl,by kernel_rfl⟩
def qvN:TH:={ live:=[(0,[2,3,4]),(1,[2,3,4,7]),(2,[6]),(3,[12]),(4,[6]),(5,[6])] }
def qvZ (N:Nat):List Ent:=[quB]
theorem qsd (N:Nat):qU Tryz.prog (qvZ N):=⟨qA2,trivial⟩
def qwt (z:Int):TV×THp:=(xi z,[])
def qcD (a0:Vector UInt8 32) (a1:Vector UInt8 32):Tree (Int):=
 .bind (qj3 a0 a1) fun r1=>
 .cond r1 (
 .ret (-1)) <|
 .bind (qj3 a1 a0) fun r2=>
 .cond r2 (
 .ret 1) <|
 .ret 0
def KN (a0:Vector UInt8 32) (a1:Vector UInt8 32):Option (Int):=(qcD a0 a1).run some
def qvT:List (Nat×qw):=[]
def qi_:Ent:=smF ⟨149,[],[.x (.ba 32),.x (.ba 32),.fn 83 [] []],[],[]⟩ [(.ba 32),(.ba 32)] (Int) (fun x=>KN x.1 x.2.1) cs1 fun _=>qwt
theorem qus:zf Tryz.prog (qi_):=
 zd (H:=qvN) (L:=qJ (qvT)) (ts:=[(.ba 32),(.ba 32)]) (T:=fun x=>qcD x.1 x.2.1) 0 qPR (qsd 0) (qt (by kernel_rfl) trivial) (rg0 (by kernel_rfl)) fun x=>by kernel_rfl
noncomputable def qPK:Code:=Tryz.f148.body.getD .skip
theorem qPm:FnF Tryz.prog 148 Tryz.f148 qPK:=⟨qk,by kernel_rfl,by kernel_rfl,by kernel_rfl⟩
def qHE:TH:={ live:=[(0,[0,1]),(1,[2])] }
def qG9 (N:Nat):List Ent:=[qCd N,qi_]
theorem qC1 (N:Nat):qU Tryz.prog (qG9 N):=⟨qG3 N,qus,trivial⟩
def qHu (a0:qe) (a1:qe) (z:Int):TV×THp:=(xi z,[(20,.cell false (.tv qq a0)),(30,.cell false (.tv qq a1))])
def qk7 (N:Nat) (a0:qe) (a1:qe):Tree (Int):=
 .bind (qsf N (qe.V a0)) fun r1=>
 .bind (qsf N (qe.V a1)) fun r2=>
 .bind (KN r1 r2) fun r3=>
 .ret r3
def qj9 (N:Nat) (a0:qe) (a1:qe):Option (Int):=(qk7 N a0 a1).run some
def qG_ (N:Nat):List (Nat×qw):=[]
def qvk (N:Nat):Ent:=smF ⟨148,[],[],[.k (.p 20 [] 0),.k (.p 30 [] 0)],[(20,.cell false (.x qq)),(30,.cell false (.x qq))]⟩ [qq,qq] (Int) (fun x=>qj9 N x.1 x.2.1) cs1 fun x=>qHu x.1 x.2.1
theorem qFM (N:Nat):zf Tryz.prog (qvk N):=
 zd (H:=qHE) (L:=qJ (qG_ N)) (ts:=[qq,qq]) (T:=fun x=>qk7 N x.1 x.2.1) 0 qPm (qC1 N) (qt (by kernel_rfl) trivial) (rg0 (by kernel_rfl)) fun x=>by kernel_rfl
noncomputable def qP0:Code:=Tryz.f153.body.getD .skip
theorem qO2:FnF Tryz.prog 153 Tryz.f153 qP0:=⟨qk,by kernel_rfl,by kernel_rfl,by kernel_rfl⟩
def qyW:TH:={ live:=[(0,[0]),(1,[2])] }
def qyD (N:Nat):List Ent:=[]
theorem qul (N:Nat):qU Tryz.prog (qyD N):=trivial
def qxG (a0:List UInt8) (z:Unit):TV×THp:=(xb (!decide (a0=a0)),[])
def qki (a0:List UInt8):Tree (Unit):=
 .ret ()
def qbv (a0:List UInt8):Option (Unit):=(qki a0).run some
def qyw:List (Nat×qw):=[]
def qkN:Ent:=smF ⟨153,[],[.x .s],[],[]⟩ [.s] (Unit) (fun x=>qbv x.1) cs1 fun x=>qxG x.1
theorem qwf:zf Tryz.prog (qkN):=
 zd (H:=qyW) (L:=qJ (qyw)) (ts:=[.s]) (T:=fun x=>qki x.1) 0 qO2 (qul 0) (qt (by kernel_rfl) trivial) (rg0 (by kernel_rfl)) fun x=>by kernel_rfl
noncomputable def qPG:Code:=Tryz.f151.body.getD .skip
theorem qQC:FnF Tryz.prog 151 Tryz.f151 qPG:=⟨qk,by kernel_rfl,by kernel_rfl,by kernel_rfl⟩
def qtM:TH:={ live:=[(0,[0,1]),(1,[0,1,5]),(2,[0,1,5,6]),(3,[0,1,6,11]),(4,[12]),(5,[4]),(6,[4]),(7,[0,1,13]),(8,[4]),(9,[0,1,16]),(10,[4]),(11,[19]),(12,[4]),(13,[4])] }
def qs5 (N:Nat):List Ent:=[qkN]
theorem qpu (N:Nat):qU Tryz.prog (qs5 N):=⟨qwf,trivial⟩
def qtu (z:Int):TV×THp:=(xi z,[])
def qbq (a0:List UInt8) (a1:List UInt8):Tree (Int):=
 .bind (qbv a0) fun r1=>
 .bind (qbv a1) fun r2=>
 .cond (!decide (a0=a0)) (
 .cond (!decide (a1=a1)) (
 .ret 0) <|
 .ret (-1)) <|
 .cond (!decide (a1=a1)) (
 .ret 1) <|
 .cond (Op.bytesLess a0 a1) (
 .ret (-1)) <|
 .cond (!(Op.bytesLess a0 a1||decide (a0=a1))) (
 .ret 1) <|
 .ret 0
def Kj (a0:List UInt8) (a1:List UInt8):Option (Int):=(qbq a0 a1).run some
def qt4:List (Nat×qw):=[]
def qif:Ent:=smF ⟨151,[],[.x .s,.x .s],[],[]⟩ [.s,.s] (Int) (fun x=>Kj x.1 x.2.1) cs1 fun _=>qtu
theorem qrW:zf Tryz.prog (qif):=
 zd (H:=qtM) (L:=qJ (qt4)) (ts:=[.s,.s]) (T:=fun x=>qbq x.1 x.2.1) 0 qQC (qpu 0) (qt (by kernel_rfl) trivial) (rg0 (by kernel_rfl)) fun x=>by kernel_rfl
noncomputable def qO4:Code:=Tryz.f150.body.getD .skip
theorem qOY:FnF Tryz.prog 150 Tryz.f150 qO4:=⟨qk,by kernel_rfl,by kernel_rfl,by kernel_rfl⟩
def qHs:TH:={ live:=[(0,[0,1]),(1,[2])] }
def qHM (N:Nat):List Ent:=[qif]
theorem qDu (N:Nat):qU Tryz.prog (qHM N):=⟨qrW,trivial⟩
def qH0 (a0:qe) (a1:qe) (z:Int):TV×THp:=(xi z,[(20,.cell false (.tv qq a0)),(30,.cell false (.tv qq a1))])
def qlj (a0:qe) (a1:qe):Tree (Int):=
 .bind (Kj (qe.V a0) (qe.V a1)) fun r1=>
 .ret r1
def qka (a0:qe) (a1:qe):Option (Int):=(qlj a0 a1).run some
def qHg:List (Nat×qw):=[]
def qu1:Ent:=smF ⟨150,[],[],[.k (.p 20 [] 0),.k (.p 30 [] 0)],[(20,.cell false (.x qq)),(30,.cell false (.x qq))]⟩ [qq,qq] (Int) (fun x=>qka x.1 x.2.1) cs1 fun x=>qH0 x.1 x.2.1
theorem qFj:zf Tryz.prog (qu1):=
 zd (H:=qHs) (L:=qJ (qHg)) (ts:=[qq,qq]) (T:=fun x=>qlj x.1 x.2.1) 0 qOY (qDu 0) (qt (by kernel_rfl) trivial) (rg0 (by kernel_rfl)) fun x=>by kernel_rfl
noncomputable def qhu:Code:=Tryz.f138.body.getD .skip
theorem qPt:FnF Tryz.prog 138 Tryz.f138 qhu:=⟨qk,by kernel_rfl,by kernel_rfl,by kernel_rfl⟩
def qb3:TH:={ live:=[(0,[2,3]),(1,[5]),(2,[13,14]),(3,[13,14,15]),(4,[7,13,14]),(5,[8,13,14]),(6,[8,13,14,20]),(7,[4]),(8,[13,14]),(9,[4])] }
def qfM (N:Nat):List Ent:=[qvm N,qvk N,qu1]
theorem qbY (N:Nat):qU Tryz.prog (qfM N):=⟨qF7 N,qFM N,qFj,trivial⟩
abbrev zS:=qe×qe
abbrev zW:=Bool⊕Unit
def z_ (f:zS):zW→Ex×TSt
 | .inl y=>(.ret,⟨0,24,[],[(4,xb y)],[],false,[]⟩)
 | .inr y=>(.exit 0,⟨0,24,[],[(13,.ag [.fn (.func 146) [] [.p 20 [] 0,.p 30 [] 0],.fn (.func 148) [] [.p 20 [] 0,.p 30 [] 0],.fn (.func 150) [] [.p 20 [] 0,.p 30 [] 0]]),(14,.ic .i64 3),(15,.bc false)],[(20,.cell false (.tv qq f.1)),(30,.cell false (.tv qq f.2))],false,[]⟩)
def qeh (N:Nat):List (Nat×qw):=[]
abbrev VA:=Unit
def qz0:SP:=⟨0,24,[],[(13,.ag [.fn 146 [] [.k (.p 20 [] 0),.k (.p 30 [] 0)],.fn 148 [] [.k (.p 20 [] 0),.k (.p 30 [] 0)],.fn 150 [] [.k (.p 20 [] 0),.k (.p 30 [] 0)]]),(14,.k (.ic .i64 3))],[(20,.cell false (.x qq)),(30,.cell false (.x qq))],false,[]⟩
def ql3 (f:zS) (v:VA):TSt:=zq qz0 [dv qq f.1,dv qq f.2]
def WJ (N:Nat) (o_3:qe) (o_3_2:qe) (v:VA):Tree (VA⊕zW):=
 .ret (.inr (.inr ()))
def ql1 (N n:Nat) (f:zS) (v:VA):Option zW:=qQ (WJ N f.1 f.2) some n v
theorem qzX (N:Nat) (f:zS) (n:Nat) (v:VA) (y:zW) (h:ql1 N n f v=some y):LG Tryz.prog qb3 138 (qE qhu 3) (ql3 f v) (z_ f y):=
 zj qk (E:=qfM N) (L:=qJ (qeh N)) (st:=z_ f) (g:=some) (R:=z_ f) (qbY N) (qt (by kernel_rfl) trivial) (rg0 (by kernel_rfl)) (fun v=>by kernel_rfl) (qP (st:=z_ f) fun y=>by rcases y with _ | _<;>rfl) n v y h
abbrev Vs:=Unit
def qzW:SP:=⟨0,24,[],[(13,.ag [.fn 146 [] [.k (.p 20 [] 0),.k (.p 30 [] 0)],.fn 148 [] [.k (.p 20 [] 0),.k (.p 30 [] 0)],.fn 150 [] [.k (.p 20 [] 0),.k (.p 30 [] 0)]]),(14,.k (.ic .i64 2))],[(20,.cell false (.x qq)),(30,.cell false (.x qq))],false,[]⟩
def qlK (f:zS) (v:Vs):TSt:=zq qzW [dv qq f.1,dv qq f.2]
abbrev qe8:=VA⊕zW
def Vp (N:Nat) (o_3:qe) (o_3_2:qe) (v:Vs):Tree (Vs⊕qe8):=
 .chk (0≤(2:Int)∧(2:Int) < ((3:Nat):Int)) <|
 .bind (qka o_3 o_3_2) fun r1=>
 .cond (!decide (r1=((0:Int)))) (
 .ret (.inr (.inr ((.inl (decide (r1 < ((0:Int))))))))) <|
 .ret (.inr (.inl ()))
def WN (N n:Nat) (f:zS):qe8→Option zW
 | .inl w=>ql1 N n f w
 | .inr w=>some w
def qAx (f:zS):qe8→Ex×TSt
 | .inl w=>(.normal,ql3 f w)
 | .inr w=>z_ f w
def qlQ (N n:Nat) (f:zS) (v:Vs):Option zW:=qQ (Vp N f.1 f.2) (WN N n f) n v
theorem qAe (N:Nat) (f:zS) (n:Nat) (v:Vs) (y:zW) (h:qlQ N n f v=some y):LG Tryz.prog qb3 138 (qE qhu 3) (qlK f v) (z_ f y):=
 zj qk (E:=qfM N) (L:=qJ (qeh N)) (st:=qAx f) (g:=(WN N n f)) (R:=z_ f) (qbY N) (qt (by kernel_rfl) trivial) (rg0 (by kernel_rfl)) (fun v=>by kernel_rfl) (fun w y h=>by
 rcases w with w | w
 ·exact qzX N f n w y h
 ·exact qP (st:=z_ f) (fun y=>by rcases y with _ | _<;>rfl) w y h
) n v y h
abbrev Vv:=Unit
def qz8:SP:=⟨0,24,[],[(13,.ag [.fn 146 [] [.k (.p 20 [] 0),.k (.p 30 [] 0)],.fn 148 [] [.k (.p 20 [] 0),.k (.p 30 [] 0)],.fn 150 [] [.k (.p 20 [] 0),.k (.p 30 [] 0)]]),(14,.k (.ic .i64 1))],[(20,.cell false (.x qq)),(30,.cell false (.x qq))],false,[]⟩
def qlE (f:zS) (v:Vv):TSt:=zq qz8 [dv qq f.1,dv qq f.2]
abbrev qe3:=Vs⊕zW
def Vw (N:Nat) (o_3:qe) (o_3_2:qe) (v:Vv):Tree (Vv⊕qe3):=
 .chk (0≤(1:Int)∧(1:Int) < ((3:Nat):Int)) <|
 .bind (qj9 N o_3 o_3_2) fun r1=>
 .cond (!decide (r1=((0:Int)))) (
 .ret (.inr (.inr ((.inl (decide (r1 < ((0:Int))))))))) <|
 .ret (.inr (.inl ()))
def WM (N n:Nat) (f:zS):qe3→Option zW
 | .inl w=>qlQ N n f w
 | .inr w=>some w
def qzG (f:zS):qe3→Ex×TSt
 | .inl w=>(.normal,qlK f w)
 | .inr w=>z_ f w
def qlU (N n:Nat) (f:zS) (v:Vv):Option zW:=qQ (Vw N f.1 f.2) (WM N n f) n v
theorem qzI (N:Nat) (f:zS) (n:Nat) (v:Vv) (y:zW) (h:qlU N n f v=some y):LG Tryz.prog qb3 138 (qE qhu 3) (qlE f v) (z_ f y):=
 zj qk (E:=qfM N) (L:=qJ (qeh N)) (st:=qzG f) (g:=(WM N n f)) (R:=z_ f) (qbY N) (qt (by kernel_rfl) trivial) (rg0 (by kernel_rfl)) (fun v=>by kernel_rfl) (fun w y h=>by
 rcases w with w | w
 ·exact qAe N f n w y h
 ·exact qP (st:=z_ f) (fun y=>by rcases y with _ | _<;>rfl) w y h
) n v y h
abbrev K_:=Unit
def qrS:SP:=⟨0,24,[],[(13,.ag [.fn 146 [] [.k (.p 20 [] 0),.k (.p 30 [] 0)],.fn 148 [] [.k (.p 20 [] 0),.k (.p 30 [] 0)],.fn 150 [] [.k (.p 20 [] 0),.k (.p 30 [] 0)]]),(14,.k (.ic .i64 0))],[(20,.cell false (.x qq)),(30,.cell false (.x qq))],false,[]⟩
def qFF (f:zS) (v:K_):TSt:=zq qrS [dv qq f.1,dv qq f.2]
abbrev qjC:=Vv⊕zW
def qeg (N:Nat) (o_3:qe) (o_3_2:qe) (v:K_):Tree (K_⊕qjC):=
 .chk (0≤(0:Int)∧(0:Int) < ((3:Nat):Int)) <|
 .bind (qkd N o_3 o_3_2) fun r1=>
 .cond (!decide (r1=((0:Int)))) (
 .ret (.inr (.inr ((.inl (decide (r1 < ((0:Int))))))))) <|
 .ret (.inr (.inl ()))
def qjV (N n:Nat) (f:zS):qjC→Option zW
 | .inl w=>qlU N n f w
 | .inr w=>some w
def qFg (f:zS):qjC→Ex×TSt
 | .inl w=>(.normal,qlE f w)
 | .inr w=>z_ f w
def qsb (N n:Nat) (f:zS) (v:K_):Option zW:=qQ (qeg N f.1 f.2) (qjV N n f) n v
theorem qGh (N:Nat) (f:zS) (n:Nat) (v:K_) (y:zW) (h:qsb N n f v=some y):LG Tryz.prog qb3 138 (qE qhu 3) (qFF f v) (z_ f y):=
 zj qk (E:=qfM N) (L:=qJ (qeh N)) (st:=qFg f) (g:=(qjV N n f)) (R:=z_ f) (qbY N) (qt (by kernel_rfl) trivial) (rg0 (by kernel_rfl)) (fun v=>by kernel_rfl) (fun w y h=>by
 rcases w with w | w
 ·exact qzI N f n w y h
 ·exact qP (st:=z_ f) (fun y=>by rcases y with _ | _<;>rfl) w y h
) n v y h
def qii (N:Nat) (o_3:qe) (o_3_2:qe):Option zW:=qsb N N (o_3,o_3_2) ()
def qrn (N:Nat):qw:=smL qrS [qq,qq] zW (fun x=>qii N x.1 x.2.1) (csS cs1) fun x=>z_ (x.1,x.2.1)
theorem qCY (N:Nat):zZ Tryz.prog qb3 138 (qE qhu 3) (qrn N):=zp fun x z h=>qGh N (x.1,x.2.1) N () z h
def qLf (z:Bool):TV×THp:=(xb z,[])
def qqW (N:Nat) (a0:qe) (a1:qe):Tree (Bool):=
 .bind (qii N a0 a1) fun z1=>
 .sum z1 (fun z2=>
 .ret z2) fun z2=>
 .ret false
def qoS (N:Nat) (a0:qe) (a1:qe):Option (Bool):=(qqW N a0 a1).run some
def qKQ (N:Nat):List (Nat×qw):=[(3,qrn N)]
def qAY (N:Nat):Ent:=smF ⟨138,[],[.x qq,.x qq],[],[]⟩ [qq,qq] (Bool) (fun x=>qoS N x.1 x.2.1) cs1 fun _=>qLf
theorem qIs (N:Nat):zf Tryz.prog (qAY N):=
 zd (H:=qb3) (L:=qJ (qKQ N)) (ts:=[qq,qq]) (T:=fun x=>qqW N x.1 x.2.1) 0 qPt (qbY N) (qt (by kernel_rfl) ⟨qCY N,trivial⟩) (rg0 (by kernel_rfl)) fun x=>by kernel_rfl
noncomputable def qPQ:Code:=Tryz.f116.body.getD .skip
theorem qQX:FnF Tryz.prog 116 Tryz.f116 qPQ:=⟨qk,by kernel_rfl,by kernel_rfl,by kernel_rfl⟩
def qLc:TH:={ live:=[(0,[2,3,4]),(1,[2,3,4,7]),(2,[4]),(3,[4])] }
def qLD (N:Nat):List Ent:=[qAY N]
theorem qHm (N:Nat):qU Tryz.prog (qLD N):=⟨qIs N,trivial⟩
def qLp (z:qe):TV×THp:=(.tv qq z,[])
def qpG (N:Nat) (a0:qe) (a1:qe):Tree (qe):=
 .bind (qoS N a0 a1) fun r1=>
 .cond r1 (
 .ret a1) <|
 .ret a0
def qoL (N:Nat) (a0:qe) (a1:qe):Option (qe):=(qpG N a0 a1).run some
def qK9 (N:Nat):List (Nat×qw):=[]
def qAJ (N:Nat):Ent:=smF ⟨116,[],[.x qq,.x qq],[],[]⟩ [qq,qq] (qe) (fun x=>qoL N x.1 x.2.1) cs1 fun _=>qLp
theorem qKz (N:Nat):zf Tryz.prog (qAJ N):=
 zd (H:=qLc) (L:=qJ (qK9 N)) (ts:=[qq,qq]) (T:=fun x=>qpG N x.1 x.2.1) 0 qQX (qHm N) (qt (by kernel_rfl) trivial) (rg0 (by kernel_rfl)) fun x=>by kernel_rfl
noncomputable def qBN:Code:=Tryz.f89.body.getD .skip
theorem qUh:FnF Tryz.prog 89 Tryz.f89 qBN:=⟨qk,by kernel_rfl,by kernel_rfl,by kernel_rfl⟩
def qdq:TH:={ live:=[(0,[0,3]),(1,[0,9,10,11]),(2,[0,9,10,11,12]),(3,[0,5,9,10,11]),(4,[0,5,6,7,9,10,11]),(5,[0,5,6,9,10,11,22]),(6,[0,9,10,11]),(7,[0,9,10,11]),(8,[0,9,10,11])] }
def qkw (N:Nat):List Ent:=[qAJ N]
theorem qid (N:Nat):qU Tryz.prog (qkw N):=⟨qKz N,trivial⟩
abbrev XS:=List qd×Int
abbrev QJ:=Nat×List (Int×qe×Nat)×Int×Bool
def JL (f:XS) (y:QJ):Ex×TSt:=(.exit 0,⟨1,36,[250],[(0,.m 250),(9,.tv (.sl 4 qB) f.1),(10,xi f.2),(11,xi y.2.2.1),(12,xb y.2.2.2)],[(250,.map y.1 (.i .i64) qq (y.2.1:List (Int×qe×Nat)))],false,[]⟩)
def qsz (N:Nat):List (Nat×qw):=[]
abbrev JJ:=Nat×List (Int×qe×Nat)×Int
def qhE:SP:=⟨1,36,[250],[(0,.k (.m 250)),(9,.x (.sl 4 qB)),(10,.x (.i .i64)),(11,.x (.i .i64))],[(250,.map (.i .i64) qq)],false,[]⟩
def qsg (f:XS) (v:JJ):TSt:=zq qhE [dv .nat v.1,dv (qby (.i .i64) qq) v.2.1,dv (.sl 4 qB) f.1,dv (.i .i64) f.2,dv (.i .i64) v.2.2]
def Jv (N:Nat) (s9_2:List qd) (s10_2:Int) (v:JJ):Tree (JJ⊕QJ):=
 .cond (decide (v.2.2 < s10_2)) (
 .bind (qM s9_2 v.2.2) fun e1=>
 .opt (fnd (β:=qe) (.i .i64) (qd.No e1) v.2.1) (
 .chk (qp (v.2.2 + 1)) <|
 .ret (.inl ((J2 (.i .i64) (qd.No e1) (qd.C e1) v.1 v.2.1).1,(J2 (.i .i64) (qd.No e1) (qd.C e1) v.1 v.2.1).2,v.2.2 + 1))) fun e2=>
 .bind (qoL N e2.1 (qd.C e1)) fun r3=>
 .chk (qp (v.2.2 + 1)) <|
 .ret (.inl ((J2 (.i .i64) (qd.No e1) r3 v.1 v.2.1).1,(J2 (.i .i64) (qd.No e1) r3 v.1 v.2.1).2,v.2.2 + 1))) <|
 .ret (.inr (v.1,v.2.1,v.2.2,decide (v.2.2 < s10_2)))
def qhq (N n:Nat) (f:XS) (v:JJ):Option QJ:=qQ (Jv N f.1 f.2) some n v
theorem qrY (N:Nat) (f:XS) (n:Nat) (v:JJ) (y:QJ) (h:qhq N n f v=some y):LG Tryz.prog qdq 89 (qE qBN 2) (qsg f v) (JL f y):=
 zj qk (E:=qkw N) (L:=qJ (qsz N)) (st:=JL f) (g:=some) (R:=JL f) (qid N) (qt (by kernel_rfl) trivial) (rg0 (by kernel_rfl)) (fun v=>by kernel_rfl) (qP (st:=JL f) fun y=>by rfl) n v y h
def qcq (N:Nat) (s9_2:List qd) (s10_2:Int) (o_2:Nat) (o_2_2:List (Int×qe×Nat)) (s11_2:Int):Option QJ:=qhq N N (s9_2,s10_2) (o_2,o_2_2,s11_2)
def qgT (N:Nat):qw:=smL qhE [.nat,(qby (.i .i64) qq),(.sl 4 qB),(.i .i64),(.i .i64)] QJ (fun x=>qcq N x.2.2.1 x.2.2.2.1 x.1 x.2.1 x.2.2.2.2.1) cs1 fun x=>JL (x.2.2.1,x.2.2.2.1)
theorem qpl (N:Nat):zZ Tryz.prog qdq 89 (qE qBN 2) (qgT N):=zp fun x z h=>qrY N (x.2.2.1,x.2.2.2.1) N (x.1,x.2.1,x.2.2.2.2.1) z h
def qww (z:Nat×List (Int×qe×Nat)):TV×THp:=(.tup [],[(250,.map z.1 (.i .i64) qq (z.2:List (Int×qe×Nat)))])
def qdV (N:Nat) (a0:Nat) (a1:List (Int×qe×Nat)) (a2:qa):Tree (Nat×List (Int×qe×Nat)):=
 .bind (qcq N (qa.F a2) (((qa.F a2).length:Nat):Int) a0 a1 0) fun z1=>
 .ret (z1.1,z1.2.1)
def Yf (N:Nat) (a0:Nat) (a1:List (Int×qe×Nat)) (a2:qa):Option (Nat×List (Int×qe×Nat)):=(qdV N a0 a1 a2).run some
def qyN (N:Nat):List (Nat×qw):=[(2,qgT N)]
def qkH (N:Nat):Ent:=smF ⟨89,[],[.k (.m 250),.x qf],[],[(250,.map (.i .i64) qq)]⟩ [.nat,(qby (.i .i64) qq),qf] (Nat×List (Int×qe×Nat)) (fun x=>Yf N x.1 x.2.1 x.2.2.1) cs1 fun _=>qww
theorem qv6 (N:Nat):zf Tryz.prog (qkH N):=
 zd (H:=qdq) (L:=qJ (qyN N)) (ts:=[.nat,(qby (.i .i64) qq),qf]) (T:=fun x=>qdV N x.1 x.2.1 x.2.2.1) 0 qUh (qid N) (qt (by kernel_rfl) ⟨qpl N,trivial⟩) (rg0 (by kernel_rfl)) fun x=>by kernel_rfl
noncomputable def qR5:Code:=Tryz.f90.body.getD .skip
theorem qUe:FnF Tryz.prog 90 Tryz.f90 qR5:=⟨qk,by kernel_rfl,by kernel_rfl,by kernel_rfl⟩
def qLK:TH:={ live:=[(0,[2,3,4]),(1,[2,3,4,7]),(2,[4]),(3,[4])] }
def qK5 (N:Nat):List Ent:=[XN N]
theorem qHr (N:Nat):qU Tryz.prog (qK5 N):=⟨Ws N,trivial⟩
def qLH (z:qc):TV×THp:=(.tv qh z,[])
def qrh (N:Nat) (a0:qc) (a1:qc):Tree (qc):=
 .bind (vv N a0 a1) fun r1=>
 .cond r1 (
 .ret a1) <|
 .ret a0
def qoV (N:Nat) (a0:qc) (a1:qc):Option (qc):=(qrh N a0 a1).run some
def qLv (N:Nat):List (Nat×qw):=[]
def qA8 (N:Nat):Ent:=smF ⟨90,[],[.x qh,.x qh],[],[]⟩ [qh,qh] (qc) (fun x=>qoV N x.1 x.2.1) cs1 fun _=>qLH
theorem qJH (N:Nat):zf Tryz.prog (qA8 N):=
 zd (H:=qLK) (L:=qJ (qLv N)) (ts:=[qh,qh]) (T:=fun x=>qrh N x.1 x.2.1) 0 qUe (qHr N) (qt (by kernel_rfl) trivial) (rg0 (by kernel_rfl)) fun x=>by kernel_rfl
noncomputable def qTi:Code:=Tryz.f91.body.getD .skip
theorem qRg:FnF Tryz.prog 91 Tryz.f91 qTi:=⟨qk,by kernel_rfl,by kernel_rfl,by kernel_rfl⟩
def qsK:TH:={ live:=[(0,[2,3]),(1,[4])],esc:=true }
def qsM (N:Nat):List Ent:=[]
theorem qoc (N:Nat):qU Tryz.prog (qsM N):=trivial
def qr2 (a0:Nat) (a1:List (Int×qe×Nat)) (a2:qc) (z:Unit):TV×THp:=(.fn (.func 117) [] [.p 100020 [] 0,.p 100030 [] 0],[(250,.map a0 (.i .i64) qq a1),(100020,.cell false (.m 250)),(100030,.cell false (.tv qh a2))])
def qg7 (a0:Nat) (a1:List (Int×qe×Nat)) (a2:qc):Tree (Unit):=
 .ret ()
def qjh (a0:Nat) (a1:List (Int×qe×Nat)) (a2:qc):Option (Unit):=(qg7 a0 a1 a2).run some
def qsw:List (Nat×qw):=[]
def qg4:Ent:=smF ⟨91,[],[.k (.m 250),.x qh],[],[(250,.map (.i .i64) qq)]⟩ [.nat,(qby (.i .i64) qq),qh] (Unit) (fun x=>qjh x.1 x.2.1 x.2.2.1) cs1 fun x=>qr2 x.1 x.2.1 x.2.2.1
theorem qqm:zf Tryz.prog (qg4):=
 zd (H:=qsK) (L:=qJ (qsw)) (ts:=[.nat,(qby (.i .i64) qq),qh]) (T:=fun x=>qg7 x.1 x.2.1 x.2.2.1) 0 qRg (qoc 0) (qt (by kernel_rfl) trivial) (rg0 (by kernel_rfl)) fun x=>by kernel_rfl
def qyT:TH:={ live:=[(0,[2,3,4]),(1,[2,3,4,23]),(2,[4,5]),(3,[2,3,4,6]),(4,[2,3,4,6]),(5,[2,3,4,6]),(6,[4,6,7]),(7,[4,7,43]),(8,[7,8]),(10,[4,5])],dec:=[12,17],fresh:=[43] }
def qwO (N:Nat):List Ent:=[]
theorem qtV (N:Nat):qU Tryz.prog (qwO N):=trivial
def qyE (a0:List qd) (a1:List qd) (a2:Nat) (a3:List (Int×qe×Nat)) (a4:Vector UInt8 16) (a5:qc) (a6:Vector UInt8 16) (a7:qc) (a8:qc) (a9:qd) (z:Unit):TV×THp:=(.bc true,[(40,.cell false (.ag [.tv (.ba 16) a4,.tv qh a5,.v 45 a0.length])),(45,.vec false 4 (.sl 4 qB) a0),(70,.cell false (.ag [.tv (.ba 16) a6,.tv qh a7,.v 75 ((a1++[a9]).length)])),(75,.vec false 4 (.sl 4 qB) (a1++[a9]:List qd)),(250,.map a2 (.i .i64) qq a3),(50080,.loop [44] 52 [(4,.p 40 [] 0),(7,.p 70 [] 0),(43,.fn (.func 117) [] [.p 100020 [] 0,.p 100030 [] 0])] 5500008 55 .ready none 50081),(50081,.dfr true),(100020,.cell false (.m 250)),(100030,.cell false (.tv qh a8))])
def qdO (a0:List qd) (a1:List qd) (a2:Nat) (a3:List (Int×qe×Nat)) (a4:Vector UInt8 16) (a5:qc) (a6:Vector UInt8 16) (a7:qc) (a8:qc) (a9:qd):Tree (Unit):=
 .chk (zU a1.length a1.length ((a1++[a9]).length) 40) <|
 .ret ()
def qaV (a0:List qd) (a1:List qd) (a2:Nat) (a3:List (Int×qe×Nat)) (a4:Vector UInt8 16) (a5:qc) (a6:Vector UInt8 16) (a7:qc) (a8:qc) (a9:qd):Option (Unit):=(qdO a0 a1 a2 a3 a4 a5 a6 a7 a8 a9).run some
def qxD:List (Nat×qw):=[]
def qkC:Ent:=smR 50080 [.x qB] [(40,.cell false (.ag [.x (.ba 16),.x qh,.vs 45])),(45,.vec false 4),(70,.cell false (.ag [.x (.ba 16),.x qh,.vs 75])),(75,.vec false 4),(250,.map (.i .i64) qq),(50080,.loop [44] 52 [(4,.k (.p 40 [] 0)),(7,.k (.p 70 [] 0)),(43,.fn 117 [] [.k (.p 100020 [] 0),.k (.p 100030 [] 0)])] 5500008 55 .ready none 50081),(50081,.dfr true),(100020,.cell false (.k (.m 250))),(100030,.cell false (.x qh))] [(.sl 4 qB),(.sl 4 qB),.nat,(qby (.i .i64) qq),(.ba 16),qh,(.ba 16),qh,qh,qB] (Unit) (fun x=>qaV x.1 x.2.1 x.2.2.1 x.2.2.2.1 x.2.2.2.2.1 x.2.2.2.2.2.1 x.2.2.2.2.2.2.1 x.2.2.2.2.2.2.2.1 x.2.2.2.2.2.2.2.2.1 x.2.2.2.2.2.2.2.2.2.1) cs1 fun x=>qyE x.1 x.2.1 x.2.2.1 x.2.2.2.1 x.2.2.2.2.1 x.2.2.2.2.2.1 x.2.2.2.2.2.2.1 x.2.2.2.2.2.2.2.1 x.2.2.2.2.2.2.2.2.1 x.2.2.2.2.2.2.2.2.2.1
theorem qvH:zf Tryz.prog (qkC):=
 qOl (H:=qyT) (L:=qJ (qxD)) (ts:=[(.sl 4 qB),(.sl 4 qB),.nat,(qby (.i .i64) qq),(.ba 16),qh,(.ba 16),qh,qh,qB]) (T:=fun x=>qdO x.1 x.2.1 x.2.2.1 x.2.2.2.1 x.2.2.2.2.1 x.2.2.2.2.2.1 x.2.2.2.2.2.2.1 x.2.2.2.2.2.2.2.1 x.2.2.2.2.2.2.2.2.1 x.2.2.2.2.2.2.2.2.2.1) (K:=55) (cid:=5500008) 2 qk (qtV 0) (by kernel_rfl) (qt (by kernel_rfl) trivial) (rg0 (by kernel_rfl)) (rg0 (by kernel_rfl)) (fun x=>by kernel_rfl) fun x=>by kernel_rfl
noncomputable def qxc:Code:=Tryz.f117.body.getD .skip
theorem qQP:FnF Tryz.prog 117 Tryz.f117 qxc:=⟨qk,by kernel_rfl,by kernel_rfl,by kernel_rfl⟩
def YC:TH:={ live:=[(0,[0,1,2,7]),(1,[0,1,2,7,8]),(2,[0,1,2,4,7]),(3,[0,1,2,4,5,6,7]),(4,[0,1,2,7,30]),(5,[0,1,2,7])],dec:=[17,23] }
def qeM (N:Nat):List Ent:=[XN N,qkC]
theorem qcT (N:Nat):qU Tryz.prog (qeM N):=⟨Ws N,qvH,trivial⟩
abbrev Jh:=List qd×Nat×List (Int×qe×Nat)×Vector UInt8 16×qc×Vector UInt8 16×qc×qc
abbrev j9:=List qd×Int×Bool
def vX (f:Jh) (y:j9):Ex×TSt:=(.exit 0,⟨2,32,[40,45,70,75,250,50080,50081,100020,100030],[(0,.yl 50080),(1,.p 100020 [] 0),(2,.p 100030 [] 0),(7,xi y.2.1),(8,xb y.2.2)],[(40,.cell false (.ag [.tv (.ba 16) f.2.2.2.1,.tv qh f.2.2.2.2.1,.v 45 f.1.length])),(45,.vec false 4 (.sl 4 qB) f.1),(70,.cell false (.ag [.tv (.ba 16) f.2.2.2.2.2.1,.tv qh f.2.2.2.2.2.2.1,.v 75 y.1.length])),(75,.vec false 4 (.sl 4 qB) (y.1:List qd)),(250,.map f.2.1 (.i .i64) qq f.2.2.1),(50080,.loop [44] 52 [(4,.p 40 [] 0),(7,.p 70 [] 0),(43,.fn (.func 117) [] [.p 100020 [] 0,.p 100030 [] 0])] 5500008 55 .ready none 50081),(50081,.dfr true),(100020,.cell false (.m 250)),(100030,.cell false (.tv qh f.2.2.2.2.2.2.2))],false,[]⟩)
def qk9 (N:Nat):List (Nat×qw):=[]
abbrev v5:=List qd×Int
def qbS:SP:=⟨2,32,[40,45,70,75,250,50080,50081,100020,100030],[(0,.k (.yl 50080)),(1,.k (.p 100020 [] 0)),(2,.k (.p 100030 [] 0)),(7,.x (.i .i64))],[(40,.cell false (.ag [.x (.ba 16),.x qh,.vs 45])),(45,.vec false 4),(70,.cell false (.ag [.x (.ba 16),.x qh,.vs 75])),(75,.vec false 4),(250,.map (.i .i64) qq),(50080,.loop [44] 52 [(4,.k (.p 40 [] 0)),(7,.k (.p 70 [] 0)),(43,.fn 117 [] [.k (.p 100020 [] 0),.k (.p 100030 [] 0)])] 5500008 55 .ready none 50081),(50081,.dfr true),(100020,.cell false (.k (.m 250))),(100030,.cell false (.x qh))],false,[]⟩
def qlh (f:Jh) (v:v5):TSt:=zq qbS [dv (.sl 4 qB) f.1,dv (.sl 4 qB) v.1,dv .nat f.2.1,dv (qby (.i .i64) qq) f.2.2.1,dv (.ba 16) f.2.2.2.1,dv qh f.2.2.2.2.1,dv (.ba 16) f.2.2.2.2.2.1,dv qh f.2.2.2.2.2.2.1,dv qh f.2.2.2.2.2.2.2,dv (.i .i64) v.2]
def Jc (N:Nat) (o_1:List qd) (o_1_3:Nat) (o_1_4:List (Int×qe×Nat)) (o_1_5:Vector UInt8 16) (o_1_6:qc) (o_1_7:Vector UInt8 16) (o_1_8:qc) (o_1_9:qc) (v:v5):Tree (v5⊕j9):=
 .cond (decide (v.2 < ((8:Int)))) (
 .opt (fnd (β:=qe) (.i .i64) v.2 o_1_4) (
 .chk (qp (v.2 + 1)) <|
 .ret (.inl (v.1,v.2 + 1))) fun e1=>
 .bind (vv N o_1_9 (qe.S e1.1)) fun r2=>
 .cond r2 (
 .bind (zV [(o_1.length,o_1.length),(v.1.length,v.1.length)] (qaV o_1 v.1 o_1_3 o_1_4 o_1_5 o_1_6 o_1_7 o_1_8 o_1_9 (qd.mk v.2 e1.1))) fun r3=>
 .chk (qp (v.2 + 1)) <|
 .ret (.inl (v.1++[qd.mk v.2 e1.1],v.2 + 1))) <|
 .chk (qp (v.2 + 1)) <|
 .ret (.inl (v.1,v.2 + 1))) <|
 .ret (.inr (v.1,v.2,decide (v.2 < ((8:Int)))))
def qbM (N n:Nat) (f:Jh) (v:v5):Option j9:=qQ (Jc N f.1 f.2.1 f.2.2.1 f.2.2.2.1 f.2.2.2.2.1 f.2.2.2.2.2.1 f.2.2.2.2.2.2.1 f.2.2.2.2.2.2.2) some n v
theorem qk6 (N:Nat) (f:Jh) (n:Nat) (v:v5) (y:j9) (h:qbM N n f v=some y):LG Tryz.prog YC 117 (qE qxc 1) (qlh f v) (vX f y):=
 zj qk (E:=qeM N) (L:=qJ (qk9 N)) (st:=vX f) (g:=some) (R:=vX f) (qcT N) (qt (by kernel_rfl) trivial) (rg0 (by kernel_rfl)) (fun v=>by kernel_rfl) (qP (st:=vX f) fun y=>by rfl) n v y h
def Yo (N:Nat) (o_1:List qd) (o_1_3:Nat) (o_1_4:List (Int×qe×Nat)) (o_1_5:Vector UInt8 16) (o_1_6:qc) (o_1_7:Vector UInt8 16) (o_1_8:qc) (o_1_9:qc) (o_1_2:List qd) (s7_1:Int):Option j9:=qbM N N (o_1,o_1_3,o_1_4,o_1_5,o_1_6,o_1_7,o_1_8,o_1_9) (o_1_2,s7_1)
def qbQ (N:Nat):qw:=smL qbS [(.sl 4 qB),(.sl 4 qB),.nat,(qby (.i .i64) qq),(.ba 16),qh,(.ba 16),qh,qh,(.i .i64)] j9 (fun x=>Yo N x.1 x.2.2.1 x.2.2.2.1 x.2.2.2.2.1 x.2.2.2.2.2.1 x.2.2.2.2.2.2.1 x.2.2.2.2.2.2.2.1 x.2.2.2.2.2.2.2.2.1 x.2.1 x.2.2.2.2.2.2.2.2.2.1) cs1 fun x=>vX (x.1,x.2.2.1,x.2.2.2.1,x.2.2.2.2.1,x.2.2.2.2.2.1,x.2.2.2.2.2.2.1,x.2.2.2.2.2.2.2.1,x.2.2.2.2.2.2.2.2.1)
theorem qk0 (N:Nat):zZ Tryz.prog YC 117 (qE qxc 1) (qbQ N):=zp fun x z h=>qk6 N (x.1,x.2.2.1,x.2.2.2.1,x.2.2.2.2.1,x.2.2.2.2.2.1,x.2.2.2.2.2.2.1,x.2.2.2.2.2.2.2.1,x.2.2.2.2.2.2.2.2.1) N (x.2.1,x.2.2.2.2.2.2.2.2.2.1) z h
def qn_ (a0:List qd) (a2:Nat) (a3:List (Int×qe×Nat)) (a4:Vector UInt8 16) (a5:qc) (a6:Vector UInt8 16) (a7:qc) (a8:qc) (z:List qd):TV×THp:=(.tup [],[(40,.cell false (.ag [.tv (.ba 16) a4,.tv qh a5,.v 45 a0.length])),(45,.vec false 4 (.sl 4 qB) a0),(70,.cell false (.ag [.tv (.ba 16) a6,.tv qh a7,.v 75 z.length])),(75,.vec false 4 (.sl 4 qB) z),(250,.map a2 (.i .i64) qq a3),(50080,.loop [44] 52 [(4,.p 40 [] 0),(7,.p 70 [] 0),(43,.fn (.func 117) [] [.p 100020 [] 0,.p 100030 [] 0])] 5500008 55 .ready none 50081),(50081,.dfr true),(100020,.cell false (.m 250)),(100030,.cell false (.tv qh a8))])
def YE (N:Nat) (a0:List qd) (a1:List qd) (a2:Nat) (a3:List (Int×qe×Nat)) (a4:Vector UInt8 16) (a5:qc) (a6:Vector UInt8 16) (a7:qc) (a8:qc):Tree (List qd):=
 .bind (zV [(a0.length,a0.length),(a1.length,a1.length)] (Yo N a0 a2 a3 a4 a5 a6 a7 a8 a1 0)) fun z1=>
 .ret z1.1
def X6 (N:Nat) (a0:List qd) (a1:List qd) (a2:Nat) (a3:List (Int×qe×Nat)) (a4:Vector UInt8 16) (a5:qc) (a6:Vector UInt8 16) (a7:qc) (a8:qc):Option (List qd):=(YE N a0 a1 a2 a3 a4 a5 a6 a7 a8).run some
def qou (N:Nat):List (Nat×qw):=[(1,qbQ N)]
def qeC (N:Nat):Ent:=smF ⟨117,[],[.k (.yl 50080)],[.k (.p 100020 [] 0),.k (.p 100030 [] 0)],[(40,.cell false (.ag [.x (.ba 16),.x qh,.vs 45])),(45,.vec false 4),(70,.cell false (.ag [.x (.ba 16),.x qh,.vs 75])),(75,.vec false 4),(250,.map (.i .i64) qq),(50080,.loop [44] 52 [(4,.k (.p 40 [] 0)),(7,.k (.p 70 [] 0)),(43,.fn 117 [] [.k (.p 100020 [] 0),.k (.p 100030 [] 0)])] 5500008 55 .ready none 50081),(50081,.dfr true),(100020,.cell false (.k (.m 250))),(100030,.cell false (.x qh))]⟩ [(.sl 4 qB),(.sl 4 qB),.nat,(qby (.i .i64) qq),(.ba 16),qh,(.ba 16),qh,qh] (List qd) (fun x=>X6 N x.1 x.2.1 x.2.2.1 x.2.2.2.1 x.2.2.2.2.1 x.2.2.2.2.2.1 x.2.2.2.2.2.2.1 x.2.2.2.2.2.2.2.1 x.2.2.2.2.2.2.2.2.1) cs1 fun x=>qn_ x.1 x.2.2.1 x.2.2.2.1 x.2.2.2.2.1 x.2.2.2.2.2.1 x.2.2.2.2.2.2.1 x.2.2.2.2.2.2.2.1 x.2.2.2.2.2.2.2.2.1
theorem qnd (N:Nat):zf Tryz.prog (qeC N):=
 zd (H:=YC) (L:=qJ (qou N)) (ts:=[(.sl 4 qB),(.sl 4 qB),.nat,(qby (.i .i64) qq),(.ba 16),qh,(.ba 16),qh,qh]) (T:=fun x=>YE N x.1 x.2.1 x.2.2.1 x.2.2.2.1 x.2.2.2.2.1 x.2.2.2.2.2.1 x.2.2.2.2.2.2.1 x.2.2.2.2.2.2.2.1 x.2.2.2.2.2.2.2.2.1) 1 qQP (qcT N) (qt (by kernel_rfl) ⟨qk0 N,trivial⟩) (rg0 (by kernel_rfl)) fun x=>by kernel_rfl
noncomputable def qRS:Code:=Tryz.f55.body.getD .skip
theorem qSX:FnF Tryz.prog 55 Tryz.f55 qRS:=⟨qk,by kernel_rfl,by kernel_rfl,by kernel_rfl⟩
def qOp:TH:={ live:=[(0,[2,3,4]),(1,[2,3,4,23]),(2,[4,5]),(3,[2,3,4,6]),(4,[2,3,4,6]),(5,[2,3,4,6]),(6,[4,6,7]),(7,[4,7,43]),(8,[7,8]),(10,[4,5])],dec:=[12,17],fresh:=[43],nil:=[(0,[⟨.ob 40 [2],45,(.sl 4 qB)⟩]),(2,[⟨.ob 40 [2],45,(.sl 4 qB)⟩]),(6,[⟨.ob 70 [2],75,(.sl 4 qB)⟩])] }
def qNg (N:Nat):List Ent:=[qo4 N,qkH N,qA8 N,qg4,qeC N]
theorem qJZ (N:Nat):qU Tryz.prog (qNg N):=⟨qtO N,qv6 N,qJH N,qqm,qnd N,trivial⟩
def qOr (z:qa×Bool):TV×THp:=(.tup [.tv qf (z.1:qa),xb z.2],[])
def quw (N:Nat) (a0:qa) (a1:qa):Tree (qa×Bool):=
 .bind (qjx N a0) fun r1=>
 .cond (!r1) (
 .chk (0=0) <|
 .ret (qa.mk ((Vector.replicate 16 0)) (qc.mk 0 0) [],false)) <|
 .bind (qjx N a1) fun r2=>
 .cond (!r2) (
 .chk (0=0) <|
 .ret (qa.mk ((Vector.replicate 16 0)) (qc.mk 0 0) [],false)) <|
 .cond (!(eqE (.ba 16) (qa.ID a0) (qa.ID a1))) (
 .chk (0=0) <|
 .ret (qa.mk ((Vector.replicate 16 0)) (qc.mk 0 0) [],false)) <|
 .bind (Yf N 0 [] a0) fun r3=>
 .bind (Yf N r3.1 r3.2 a1) fun r4=>
 .bind (qoV N (qa.qz a0) (qa.qz a1)) fun r5=>
 .bind (qjh r4.1 r4.2 r5) fun r6=>
 .bind (zV [(([]:List qd).length,0),(([]:List qd).length,0)] (X6 N [] [] r4.1 r4.2 ((Vector.replicate 16 0)) (qc.mk 0 0) (qa.ID a0) r5 r5)) fun r7=>
 .chk (r7.length=r7.length) <|
 .ret (qa.mk (qa.ID a0) r5 r7,true)
def qti (N:Nat) (a0:qa) (a1:qa):Option (qa×Bool):=(quw N a0 a1).run some
def qOn (N:Nat):List (Nat×qw):=[]
def qEM (N:Nat):Ent:=smF ⟨55,[],[.x qf,.x qf],[],[]⟩ [qf,qf] (qa×Bool) (fun x=>qti N x.1 x.2.1) cs1 fun _=>qOr
theorem qLF (N:Nat):zf Tryz.prog (qEM N):=
 zd (H:=qOp) (L:=qJ (qOn N)) (ts:=[qf,qf]) (T:=fun x=>quw N x.1 x.2.1) 0 qSX (qJZ N) (qt (by kernel_rfl) trivial) (rgs (by kernel_rfl)) fun x=>by kernel_rfl
noncomputable def qQw:Code:=Tryz.f127.body.getD .skip
theorem qQb:FnF Tryz.prog 127 Tryz.f127 qQw:=⟨qk,by kernel_rfl,by kernel_rfl,by kernel_rfl⟩
def qz3:TH:={ live:=[(0,[0,2]),(1,[0,2,4]),(2,[0]),(3,[0,2]),(4,[0,2,8]),(5,[0,2]),(6,[0,2]),(7,[0,2,14]),(8,[0,2]),(9,[0,2]),(10,[2])] }
def qAq (N:Nat):List Ent:=[]
theorem qwc (N:Nat):qU Tryz.prog (qAq N):=trivial
def qAC (z:Int):TV×THp:=(xi z,[])
def ql5 (a0:Int):Tree (Int):=
 .cond (decide (((4294967296:Int))≤a0)) (
 .chk (0≤(32:Int)) <|
 .cond (decide (65536≤(Jk a0 32))) (
 .chk (0≤(16:Int)) <|
 .cond (decide (256≤(Jk (Jk a0 32) 16))) (
 .chk (0≤(8:Int)) <|
 let w1:Int:=IntKind.u8.wrap (Jk (Jk (Jk a0 32) 16) 8)
 .bind (qM qxK w1) fun e2=>
 .chk (qp ((e2.toNat:Nat):Int)) <|
 .chk (qp (((56:Int)) + ((e2.toNat:Nat):Int))) <|
 .ret (((56:Int)) + ((e2.toNat:Nat):Int))) <|
 .bind (qM qxK (IntKind.u8.wrap (Jk (Jk a0 32) 16))) fun e1=>
 .chk (qp ((e1.toNat:Nat):Int)) <|
 .chk (qp (((48:Int)) + ((e1.toNat:Nat):Int))) <|
 .ret (((48:Int)) + ((e1.toNat:Nat):Int))) <|
 .cond (decide (256≤(Jk a0 32))) (
 .chk (0≤(8:Int)) <|
 .bind (qM qxK (IntKind.u8.wrap (Jk (Jk a0 32) 8))) fun e1=>
 .chk (qp ((e1.toNat:Nat):Int)) <|
 .chk (qp (((40:Int)) + ((e1.toNat:Nat):Int))) <|
 .ret (((40:Int)) + ((e1.toNat:Nat):Int))) <|
 .bind (qM qxK (IntKind.u8.wrap (Jk a0 32))) fun e1=>
 .chk (qp ((e1.toNat:Nat):Int)) <|
 .chk (qp (((32:Int)) + ((e1.toNat:Nat):Int))) <|
 .ret (((32:Int)) + ((e1.toNat:Nat):Int))) <|
 .cond (decide (((65536:Int))≤a0)) (
 .chk (0≤(16:Int)) <|
 .cond (decide (256≤(Jk a0 16))) (
 .chk (0≤(8:Int)) <|
 .bind (qM qxK (IntKind.u8.wrap (Jk (Jk a0 16) 8))) fun e1=>
 .chk (qp ((e1.toNat:Nat):Int)) <|
 .chk (qp (((24:Int)) + ((e1.toNat:Nat):Int))) <|
 .ret (((24:Int)) + ((e1.toNat:Nat):Int))) <|
 .bind (qM qxK (IntKind.u8.wrap (Jk a0 16))) fun e1=>
 .chk (qp ((e1.toNat:Nat):Int)) <|
 .chk (qp (((16:Int)) + ((e1.toNat:Nat):Int))) <|
 .ret (((16:Int)) + ((e1.toNat:Nat):Int))) <|
 .cond (decide (((256:Int))≤a0)) (
 .chk (0≤(8:Int)) <|
 .bind (qM qxK (IntKind.u8.wrap (Jk a0 8))) fun e1=>
 .chk (qp ((e1.toNat:Nat):Int)) <|
 .chk (qp (((8:Int)) + ((e1.toNat:Nat):Int))) <|
 .ret (((8:Int)) + ((e1.toNat:Nat):Int))) <|
 .bind (qM qxK (IntKind.u8.wrap a0)) fun e1=>
 .chk (qp ((e1.toNat:Nat):Int)) <|
 .chk (qp (((0:Int)) + ((e1.toNat:Nat):Int))) <|
 .ret (((0:Int)) + ((e1.toNat:Nat):Int))
def qoO (a0:Int):Option (Int):=(ql5 a0).run some
def qzV:List (Nat×qw):=[]
def qlD:Ent:=smF ⟨127,[],[.x (.i .u64)],[],[]⟩ [(.i .u64)] (Int) (fun x=>qoO x.1) cs1 fun _=>qAC
theorem qwH:zf Tryz.prog (qlD):=
 zd (H:=qz3) (L:=qJ (qzV)) (ts:=[(.i .u64)]) (T:=fun x=>ql5 x.1) 0 qQb (qwc 0) (qt (by kernel_rfl) trivial) (rg0 (by kernel_rfl)) fun x=>by kernel_rfl
noncomputable def qTS:Code:=Tryz.f93.body.getD .skip
theorem qTj:FnF Tryz.prog 93 Tryz.f93 qTS:=⟨qk,by kernel_rfl,by kernel_rfl,by kernel_rfl⟩
def qDc:TH:={ live:=[(0,[0]),(1,[2]),(2,[2])] }
def qEH (N:Nat):List Ent:=[qlD]
theorem qAg (N:Nat):qU Tryz.prog (qEH N):=⟨qwH,trivial⟩
def qDb (z:Int):TV×THp:=(xi z,[])
def qo5 (a0:Int):Tree (Int):=
 .bind (qoO a0) fun r1=>
 .ret r1
def qgu (a0:Int):Option (Int):=(qo5 a0).run some
def qDr:List (Nat×qw):=[]
def qoT:Ent:=smF ⟨93,[],[.x (.i .u64)],[],[]⟩ [(.i .u64)] (Int) (fun x=>qgu x.1) cs1 fun _=>qDb
theorem qCO:zf Tryz.prog (qoT):=
 zd (H:=qDc) (L:=qJ (qDr)) (ts:=[(.i .u64)]) (T:=fun x=>qo5 x.1) 0 qTj (qAg 0) (qt (by kernel_rfl) trivial) (rg0 (by kernel_rfl)) fun x=>by kernel_rfl
noncomputable def qTb:Code:=Tryz.f57.body.getD .skip
theorem qR0:FnF Tryz.prog 57 Tryz.f57 qTb:=⟨qk,by kernel_rfl,by kernel_rfl,by kernel_rfl⟩
def qFy:TH:={ live:=[(0,[2,3]),(1,[4])] }
def qFT (N:Nat):List Ent:=[qcN]
theorem qBo (N:Nat):qU Tryz.prog (qFT N):=⟨qgD,trivial⟩
def qFJ (z:Int):TV×THp:=(xi z,[])
def qrU (a0:Vector UInt8 16) (a1:Vector UInt8 16):Tree (Int):=
 .bind (qbK a0.toList a1.toList) fun r1=>
 .ret r1
def qnz (a0:Vector UInt8 16) (a1:Vector UInt8 16):Option (Int):=(qrU a0 a1).run some
def qGk:List (Nat×qw):=[]
def qr0:Ent:=smF ⟨57,[],[.x (.ba 16),.x (.ba 16)],[],[]⟩ [(.ba 16),(.ba 16)] (Int) (fun x=>qnz x.1 x.2.1) cs1 fun _=>qFJ
theorem qES:zf Tryz.prog (qr0):=
 zd (H:=qFy) (L:=qJ (qGk)) (ts:=[(.ba 16),(.ba 16)]) (T:=fun x=>qrU x.1 x.2.1) 0 qR0 (qBo 0) (qt (by kernel_rfl) trivial) (rg0 (by kernel_rfl)) fun x=>by kernel_rfl
noncomputable def qkP:Code:=Tryz.f118.body.getD .skip
theorem qPk:FnF Tryz.prog 118 Tryz.f118 qkP:=⟨qk,by kernel_rfl,by kernel_rfl,by kernel_rfl⟩
def jS:TH:={ live:=[(0,[0,1,2,3,8]),(1,[0,1,2,3,8,14]),(2,[0,1,2,3,8]),(3,[0,1,2,3,8,9]),(4,[0,1,2,3,8,9,34]),(5,[0,1,2,3,8,9]),(6,[0,1,2,3,8,9])],dec:=[21] }
def Jj (N:Nat):List Ent:=[qr0]
theorem Zo (N:Nat):qU Tryz.prog (Jj N):=⟨qES,trivial⟩
abbrev vi:=Nat×Int×Int×Int
abbrev jb:=List (Vector UInt8 16)×Int×Bool
def jI (f:vi) (y:jb):Ex×TSt:=(.exit 2,⟨1,53,[75],[(0,.v 75 f.1),(1,xi f.2.1),(2,xi f.2.2.1),(3,.fn (.func 57) [] []),(8,xi f.2.2.2),(9,xi y.2.1),(34,xb y.2.2)],[(75,.vec false 16 (.sl 16 (.ba 16)) (y.1:List (Vector UInt8 16)))],false,[]⟩)
def qem (N:Nat):List (Nat×qw):=[]
abbrev jA:=List (Vector UInt8 16)×Int
def We:SP:=⟨1,53,[75],[(0,.v 75),(1,.x (.i .i64)),(2,.x (.i .i64)),(3,.fn 57 [] []),(8,.x (.i .i64)),(9,.x (.i .i64))],[(75,.vec false 16)],false,[]⟩
def qeb (f:vi) (v:jA):TSt:=zq We [dv (.sl 16 (.ba 16)) v.1,dv .nat f.1,dv (.i .i64) f.2.1,dv (.i .i64) f.2.2.1,dv (.i .i64) f.2.2.2,dv (.i .i64) v.2]
def jH (N:Nat) (s0_4:Nat) (s1_4:Int) (s2_4:Int) (s8_4:Int) (v:jA):Tree (jA⊕jb):=
 .cond (decide (s1_4 < v.2)) (
 .chk (0≤v.2∧v.2 < ((s0_4:Nat):Int)) <|
 .bind (jy v.1 s0_4 v.2.toNat) fun e1=>
 .chk (qp (v.2 - 1)) <|
 .chk (0≤(v.2 - 1)∧(v.2 - 1) < ((s0_4:Nat):Int)) <|
 .bind (jy v.1 s0_4 ((v.2 - 1).toNat)) fun e2=>
 .bind (qnz e1 e2) fun r3=>
 .cond (decide (r3 < ((0:Int)))) (
 .chk (qp (v.2 - 1)) <|
 .chk (qp (v.2 - 1)) <|
 .chk (0≤(v.2 - 1)∧(v.2 - 1) < ((s0_4:Nat):Int)) <|
 .bind (jy v.1 s0_4 ((v.2 - 1).toNat)) fun e4=>
 .chk (0≤v.2∧v.2 < ((s0_4:Nat):Int)) <|
 .bind (jy v.1 s0_4 v.2.toNat) fun e5=>
 .chk (0≤v.2∧v.2 < ((s0_4:Nat):Int)) <|
 .chk (qkc v.1.length s0_4 v.2.toNat) <|
 .chk (0≤(v.2 - 1)∧(v.2 - 1) < ((s0_4:Nat):Int)) <|
 .chk (qkc ((v.1.set v.2.toNat e4).length) s0_4 ((v.2 - 1).toNat)) <|
 .chk (qp (v.2 - 1)) <|
 .ret (.inl ((v.1.set v.2.toNat e4).set ((v.2 - 1).toNat) e5,v.2 - 1))) <|
 .ret (.inr (v.1,v.2,decide (r3 < ((0:Int)))))) <|
 .ret (.inr (v.1,v.2,false))
def X1 (N n:Nat) (f:vi) (v:jA):Option jb:=qQ (jH N f.1 f.2.1 f.2.2.1 f.2.2.2) some n v
theorem qel (N:Nat) (f:vi) (n:Nat) (v:jA) (y:jb) (h:X1 N n f v=some y):LG Tryz.prog jS 118 (qE (qE qkP 1) 4) (qeb f v) (jI f y):=
 zj qk (E:=Jj N) (L:=qJ (qem N)) (st:=jI f) (g:=some) (R:=jI f) (Zo N) (qt (by kernel_rfl) trivial) (rg0 (by kernel_rfl)) (fun v=>by kernel_rfl) (qP (st:=jI f) fun y=>by rfl) n v y h
def W3 (N:Nat) (s0_4:Nat) (s1_4:Int) (s2_4:Int) (s8_4:Int) (o_4:List (Vector UInt8 16)) (s9_4:Int):Option jb:=X1 N N (s0_4,s1_4,s2_4,s8_4) (o_4,s9_4)
def X0 (N:Nat):qw:=smL We [(.sl 16 (.ba 16)),.nat,(.i .i64),(.i .i64),(.i .i64),(.i .i64)] jb (fun x=>W3 N x.2.1 x.2.2.1 x.2.2.2.1 x.2.2.2.2.1 x.1 x.2.2.2.2.2.1) cs1 fun x=>jI (x.2.1,x.2.2.1,x.2.2.2.1,x.2.2.2.2.1)
theorem qdf (N:Nat):zZ Tryz.prog jS 118 (qE (qE qkP 1) 4) (X0 N):=zp fun x z h=>qel N (x.2.1,x.2.2.1,x.2.2.2.1,x.2.2.2.2.1) N (x.1,x.2.2.2.2.2.1) z h
abbrev vh:=Nat×Int×Int
abbrev jc:=List (Vector UInt8 16)×Int×Bool
def jz (f:vh) (y:jc):Ex×TSt:=(.exit 0,⟨1,53,[75],[(0,.v 75 f.1),(1,xi f.2.1),(2,xi f.2.2),(3,.fn (.func 57) [] []),(8,xi y.2.1),(14,xb y.2.2)],[(75,.vec false 16 (.sl 16 (.ba 16)) (y.1:List (Vector UInt8 16)))],false,[]⟩)
def qek (N:Nat):List (Nat×qw):=[(4,X0 N)]
abbrev jD:=List (Vector UInt8 16)×Int
def XY:SP:=⟨1,53,[75],[(0,.v 75),(1,.x (.i .i64)),(2,.x (.i .i64)),(3,.fn 57 [] []),(8,.x (.i .i64))],[(75,.vec false 16)],false,[]⟩
def qez (f:vh) (v:jD):TSt:=zq XY [dv (.sl 16 (.ba 16)) v.1,dv .nat f.1,dv (.i .i64) f.2.1,dv (.i .i64) f.2.2,dv (.i .i64) v.2]
def zT (N:Nat) (s0_1:Nat) (s1_1:Int) (s2_1:Int) (v:jD):Tree (jD⊕jc):=
 .cond (decide (v.2 < s2_1)) (
 .bind (W3 N s0_1 s1_1 s2_1 v.2 v.1 v.2) fun z1=>
 .chk (qp (v.2 + 1)) <|
 .ret (.inl (z1.1,v.2 + 1))) <|
 .ret (.inr (v.1,v.2,decide (v.2 < s2_1)))
def X4 (N n:Nat) (f:vh) (v:jD):Option jc:=qQ (zT N f.1 f.2.1 f.2.2) some n v
theorem qeo (N:Nat) (f:vh) (n:Nat) (v:jD) (y:jc) (h:X4 N n f v=some y):LG Tryz.prog jS 118 (qE qkP 1) (qez f v) (jz f y):=
 zj qk (E:=Jj N) (L:=qJ (qek N)) (st:=jz f) (g:=some) (R:=jz f) (Zo N) (qt (by kernel_rfl) ⟨qdf N,trivial⟩) (rg0 (by kernel_rfl)) (fun v=>by kernel_rfl) (qP (st:=jz f) fun y=>by rfl) n v y h
def vJ (N:Nat) (s0_1:Nat) (s1_1:Int) (s2_1:Int) (o_1:List (Vector UInt8 16)) (s8_1:Int):Option jc:=X4 N N (s0_1,s1_1,s2_1) (o_1,s8_1)
def Wk (N:Nat):qw:=smL XY [(.sl 16 (.ba 16)),.nat,(.i .i64),(.i .i64),(.i .i64)] jc (fun x=>vJ N x.2.1 x.2.2.1 x.2.2.2.1 x.1 x.2.2.2.2.1) cs1 fun x=>jz (x.2.1,x.2.2.1,x.2.2.2.1)
theorem qdm (N:Nat):zZ Tryz.prog jS 118 (qE qkP 1) (Wk N):=zp fun x z h=>qeo N (x.2.1,x.2.2.1,x.2.2.2.1) N (x.1,x.2.2.2.2.1) z h
def qgw (z:List (Vector UInt8 16)):TV×THp:=(.tup [],[(75,.vec false 16 (.sl 16 (.ba 16)) z)])
def vU (N:Nat) (a0:List (Vector UInt8 16)) (a1:Int) (a2:Int):Tree (List (Vector UInt8 16)):=
 .chk (qp (a1 + 1)) <|
 .bind (vJ N a0.length a1 a2 a0 (a1 + 1)) fun z1=>
 .ret z1.1
def jg (N:Nat) (a0:List (Vector UInt8 16)) (a1:Int) (a2:Int):Option (List (Vector UInt8 16)):=(vU N a0 a1 a2).run some
def qgv (N:Nat):List (Nat×qw):=[(1,Wk N)]
def Yk (N:Nat):Ent:=smF ⟨118,[],[.vs 75,.x (.i .i64),.x (.i .i64),.fn 57 [] []],[],[(75,.vec false 16)]⟩ [(.sl 16 (.ba 16)),(.i .i64),(.i .i64)] (List (Vector UInt8 16)) (fun x=>jg N x.1 x.2.1 x.2.2.1) cs1 fun _=>qgw
theorem qfZ (N:Nat):zf Tryz.prog (Yk N):=
 zd (H:=jS) (L:=qJ (qgv N)) (ts:=[(.sl 16 (.ba 16)),(.i .i64),(.i .i64)]) (T:=fun x=>vU N x.1 x.2.1 x.2.2.1) 0 qPk (Zo N) (qt (by kernel_rfl) ⟨qdm N,trivial⟩) (rg0 (by kernel_rfl)) fun x=>by kernel_rfl
noncomputable def qCJ:Code:=Tryz.f92.body.getD .skip
theorem qST:FnF Tryz.prog 92 Tryz.f92 qCJ:=⟨qk,by kernel_rfl,by kernel_rfl,by kernel_rfl⟩
def Wv:TH:={ live:=[(0,[0,1,2,3,4,10]),(1,[0,1,2,3,4,10,11]),(2,[0,1,2,3,4,10,11,12]),(3,[0,1,2,3,4,10,11,12,25]),(5,[0,1,2,3,4,10,11,12,32]),(7,[0,1,2,3,4,10,11,12,39]),(8,[0,1,2,3,4,10,11,12]),(9,[0,1,2,3,4,10,11,12]),(10,[0,1,2,3,4,10,11,12,13,14]),(11,[0,1,2,3,4,10,11,12,13,14,56]),(12,[0,1,2,3,4,10,11,12,13]),(13,[0,1,2,3,4,10,11,12,13]),(14,[0,1,2,3,4,10,11,12,13,14]),(15,[0,1,2,3,4,10,11,12,13,75]),(16,[0,1,2,3,4,10,11,12,13,80]),(17,[0,1,2,3,4,10,11,12,13,97]),(18,[0,2,3,4,10,11,15]),(19,[0,1,2,3,4,10,11]),(20,[0,1,2,3,4,12,16,17]),(21,[0,1,2,3,4,11,12,16]),(22,[0,1,2,3,4,11,12,16,18,19]),(23,[0,1,2,3,4,11,16,18,19,20]),(24,[0,1,2,3,4,11,16,18,19,20,125]),(25,[0,1,2,3,4,10,11,16]),(26,[0,2,3,4,10,11,16]),(27,[0,1,2,3,4,10,11]),(28,[0,1,2,3,4,10,11,16]),(29,[0,1,3,4,10,11,16]),(30,[0,1,2,3,4,10,11])],dec:=[69,72,83],raw:=[118] }
def qbR (N:Nat):List Ent:=[Yk N]
theorem qax (N:Nat):qU Tryz.prog (qbR N):=⟨qfZ N,trivial⟩
abbrev QR:=List (Vector UInt8 16)×Int×Int×Int
abbrev jK:=List (Vector UInt8 16)
def vq (f:QR) (y:jK):Ex×TSt:=(.ret,⟨1,148,[75],[],[(75,.vec false 16 (.sl 16 (.ba 16)) y)],false,[]⟩)
def qi1 (N:Nat):List (Nat×qw):=[]
abbrev vr:=Unit
def KI:SP:=⟨1,148,[75],[(0,.vs 75),(1,.x (.i .i64)),(2,.x (.i .i64)),(3,.x (.i .i64)),(4,.fn 57 [] []),(10,.k (.bc true)),(11,.k (.bc true))],[(75,.vec false 16)],false,[]⟩
def qi0 (f:QR) (v:vr):TSt:=zq KI [dv (.sl 16 (.ba 16)) f.1,dv (.i .i64) f.2.1,dv (.i .i64) f.2.2.1,dv (.i .i64) f.2.2.2]
def QQ (N:Nat) (o_2:List (Vector UInt8 16)) (s1_2:Int) (s2_2:Int) (s3_2:Int) (v:vr):Tree (vr⊕jK):=
 .chk (qp (s2_2 - s1_2)) <|
 .cond (decide ((s2_2 - s1_2)≤12)) (
 .bind (zV [(o_2.length,o_2.length)] (jg N o_2 s1_2 s2_2)) fun r1=>
 .ret (.inr r1)) <|
 .cond (decide (s3_2=((0:Int)))) (
 .chk (o_2.length=o_2.length) <|
 .no) <|
 .chk (o_2.length=o_2.length) <|
 .no
def KG (N n:Nat) (f:QR) (v:vr):Option jK:=qQ (QQ N f.1 f.2.1 f.2.2.1 f.2.2.2) some n v
theorem qiY (N:Nat) (f:QR) (n:Nat) (v:vr) (y:jK) (h:KG N n f v=some y):LG Tryz.prog Wv 92 (qE qCJ 2) (qi0 f v) (vq f y):=
 zj qk (E:=qbR N) (L:=qJ (qi1 N)) (st:=vq f) (g:=some) (R:=vq f) (qax N) (qt (by kernel_rfl) trivial) (rg0 (by kernel_rfl)) (fun v=>by kernel_rfl) (qP (st:=vq f) fun y=>by rfl) n v y h
def XL (N:Nat) (o_2:List (Vector UInt8 16)) (s1_2:Int) (s2_2:Int) (s3_2:Int):Option jK:=KG N N (o_2,s1_2,s2_2,s3_2) ()
def KH (N:Nat):qw:=smL KI [(.sl 16 (.ba 16)),(.i .i64),(.i .i64),(.i .i64)] jK (fun x=>XL N x.1 x.2.1 x.2.2.1 x.2.2.2.1) cs1 fun x=>vq (x.1,x.2.1,x.2.2.1,x.2.2.2.1)
theorem qiE (N:Nat):zZ Tryz.prog Wv 92 (qE qCJ 2) (KH N):=zp fun x z h=>qiY N (x.1,x.2.1,x.2.2.1,x.2.2.2.1) N () z h
def qlB (z:List (Vector UInt8 16)):TV×THp:=(.tup [],[(75,.vec false 16 (.sl 16 (.ba 16)) z)])
def Wz (N:Nat) (a0:List (Vector UInt8 16)) (a1:Int) (a2:Int) (a3:Int):Tree (List (Vector UInt8 16)):=
 .bind (zV [(a0.length,a0.length)] (XL N a0 a1 a2 a3)) fun z1=>
 .ret z1
def J6 (N:Nat) (a0:List (Vector UInt8 16)) (a1:Int) (a2:Int) (a3:Int):Option (List (Vector UInt8 16)):=(Wz N a0 a1 a2 a3).run some
def qlf (N:Nat):List (Nat×qw):=[(2,KH N)]
def qbG (N:Nat):Ent:=smF ⟨92,[],[.vs 75,.x (.i .i64),.x (.i .i64),.x (.i .i64),.fn 57 [] []],[],[(75,.vec false 16)]⟩ [(.sl 16 (.ba 16)),(.i .i64),(.i .i64),(.i .i64)] (List (Vector UInt8 16)) (fun x=>J6 N x.1 x.2.1 x.2.2.1 x.2.2.2.1) cs1 fun _=>qlB
theorem qkk (N:Nat):zf Tryz.prog (qbG N):=
 zd (H:=Wv) (L:=qJ (qlf N)) (ts:=[(.sl 16 (.ba 16)),(.i .i64),(.i .i64),(.i .i64)]) (T:=fun x=>Wz N x.1 x.2.1 x.2.2.1 x.2.2.2.1) 0 qST (qax N) (qt (by kernel_rfl) ⟨qiE N,trivial⟩) (rg0 (by kernel_rfl)) fun x=>by kernel_rfl
noncomputable def qRC:Code:=Tryz.f56.body.getD .skip
theorem qTg:FnF Tryz.prog 56 Tryz.f56 qRC:=⟨qk,by kernel_rfl,by kernel_rfl,by kernel_rfl⟩
def quq:TH:={ live:=[(0,[0,1,4])],raw:=[92] }
def quA (N:Nat):List Ent:=[qoT,qbG N]
theorem qp5 (N:Nat):qU Tryz.prog (quA N):=⟨qCO,qkk N,trivial⟩
def qs8 (z:List (Vector UInt8 16)):TV×THp:=(.tup [],[(75,.vec false 16 (.sl 16 (.ba 16)) z)])
def qbB (N:Nat) (a0:List (Vector UInt8 16)):Tree (List (Vector UInt8 16)):=
 let w1:Int:=IntKind.u64.wrap ((a0.length:Nat):Int)
 .bind (qgu w1) fun r2=>
 .bind (zV [(a0.length,a0.length)] (J6 N a0 0 ((a0.length:Nat):Int) r2)) fun r3=>
 .ret r3
def Y2 (N:Nat) (a0:List (Vector UInt8 16)):Option (List (Vector UInt8 16)):=(qbB N a0).run some
def qur (N:Nat):List (Nat×qw):=[]
def qiP (N:Nat):Ent:=smF ⟨56,[],[.vs 75,.fn 57 [] []],[],[(75,.vec false 16)]⟩ [(.sl 16 (.ba 16))] (List (Vector UInt8 16)) (fun x=>Y2 N x.1) cs1 fun _=>qs8
theorem qry (N:Nat):zf Tryz.prog (qiP N):=
 zd (H:=quq) (L:=qJ (qur N)) (ts:=[(.sl 16 (.ba 16))]) (T:=fun x=>qbB N x.1) 0 qTg (qp5 N) (qt (by kernel_rfl) trivial) (rg0 (by kernel_rfl)) fun x=>by kernel_rfl
noncomputable def qns:Code:=Tryz.f22.body.getD .skip
theorem qTh:FnF Tryz.prog 22 Tryz.f22 qns:=⟨qk,by kernel_rfl,by kernel_rfl,by kernel_rfl⟩
def qfj:TH:={ live:=[(0,[2,3,4]),(1,[2,3,4,22]),(2,[4,5]),(3,[2,3,4,6]),(4,[2,3,4,6,7]),(5,[4,6,7,30,31,32]),(6,[4,6,7,30,31,32,33]),(7,[4,6,7,9,30,31,32]),(8,[4,6,7,9,10,11,30,31,32]),(9,[4,6,7,9,10,30,31,32,44]),(10,[4,6,7,9,30,31,32]),(11,[4,6,7,30,31,32]),(12,[4,6,7,30,31,32]),(13,[4,6,7,30,31,32]),(14,[4,6,7,67]),(15,[4,5]),(16,[4,6,7]),(17,[4,6,7,12]),(18,[4,6,12,71,72,73]),(19,[4,6,12,71,72,73,74]),(20,[4,6,12,14,71,72,73]),(21,[4,6,12,71,72,73]),(22,[4,6,12,71,72,73]),(23,[4,5])],dec:=[18],raw:=[56],nil:=[(0,[⟨.ob 40 [0],43,(.sl 19 qf)⟩]),(2,[⟨.ob 40 [0],43,(.sl 19 qf)⟩]),(4,[⟨.sl 7,75,(.sl 16 (.ba 16))⟩]),(8,[⟨.ob 100 [2],105,(.sl 4 qB)⟩]),(15,[⟨.ob 40 [0],43,(.sl 19 qf)⟩]),(17,[⟨.ob 120 [0],123,(.sl 19 qf)⟩])] }
def qri (N:Nat):List Ent:=[qmE N,qi5 N,qED,qEM N,qiP N]
theorem qld (N:Nat):qU Tryz.prog (qri N):=⟨qpk N,qsX N,qLg,qLF N,qry N,trivial⟩
abbrev qej:=List qa×List qa×Int
abbrev W9:=List (Vector UInt8 16)×Nat×List (Vector UInt8 16×qa×Nat)×Int×Bool
def K8 (f:qej) (y:W9):Ex×TSt:=(.exit 0,⟨0,87,[],[(4,.p 40 [] 0),(6,.m 240),(7,.v 75 y.1.length),(30,.tv (.sl 19 qf) f.2.1),(31,xi f.2.2),(32,xi y.2.2.2.1),(33,xb y.2.2.2.2)],[(40,.cell false (.ag [.v 43 f.1.length])),(43,.vec false 19 (.sl 19 qf) f.1),(75,.vec false 16 (.sl 16 (.ba 16)) (y.1:List (Vector UInt8 16))),(240,.map y.2.1 (.ba 16) qf (y.2.2.1:List (Vector UInt8 16×qa×Nat)))],false,[]⟩)
def qGc (N:Nat):List (Nat×qw):=[]
abbrev qar:=List (Vector UInt8 16)×Nat×List (Vector UInt8 16×qa×Nat)×Int
def qrr:SP:=⟨0,87,[],[(4,.k (.p 40 [] 0)),(6,.k (.m 240)),(7,.vs 75),(30,.x (.sl 19 qf)),(31,.x (.i .i64)),(32,.x (.i .i64))],[(40,.cell false (.ag [.vs 43])),(43,.vec false 19),(75,.vec false 16),(240,.map (.ba 16) qf)],false,[]⟩
def qFi (f:qej) (v:qar):TSt:=zq qrr [dv (.sl 19 qf) f.1,dv (.sl 16 (.ba 16)) v.1,dv .nat v.2.1,dv (qby (.ba 16) qf) v.2.2.1,dv (.sl 19 qf) f.2.1,dv (.i .i64) f.2.2,dv (.i .i64) v.2.2.2]
def qah (N:Nat) (o_6:List qa) (s30_6:List qa) (s31_6:Int) (v:qar):Tree (qar⊕W9):=
 .cond (decide (v.2.2.2 < s31_6)) (
 .bind (qM s30_6 v.2.2.2) fun e1=>
 .opt (fnd (β:=qa) (.ba 16) (qa.ID e1) v.2.2.1) (
 .chk (zU v.1.length v.1.length ((v.1++[qa.ID e1]).length) 16) <|
 .bind (quS e1) fun r3=>
 .chk (qp (v.2.2.2 + 1)) <|
 .ret (.inl (v.1++[qa.ID e1],(J2 (.ba 16) (qa.ID e1) (qa.mk (qa.ID e1) (qa.qz e1) ((([]:List qd))++(qa.F e1))) v.2.1 v.2.2.1).1,(J2 (.ba 16) (qa.ID e1) (qa.mk (qa.ID e1) (qa.qz e1) ((([]:List qd))++(qa.F e1))) v.2.1 v.2.2.1).2,v.2.2.2 + 1))) fun e2=>
 .bind (qti N e2.1 e1) fun r3=>
 .chk (qp (v.2.2.2 + 1)) <|
 .ret (.inl (v.1,(J2 (.ba 16) (qa.ID e1) r3.1 v.2.1 v.2.2.1).1,(J2 (.ba 16) (qa.ID e1) r3.1 v.2.1 v.2.2.1).2,v.2.2.2 + 1))) <|
 .ret (.inr (v.1,v.2.1,v.2.2.1,v.2.2.2,decide (v.2.2.2 < s31_6)))
def qsP (N n:Nat) (f:qej) (v:qar):Option W9:=qQ (qah N f.1 f.2.1 f.2.2) some n v
theorem qE8 (N:Nat) (f:qej) (n:Nat) (v:qar) (y:W9) (h:qsP N n f v=some y):LG Tryz.prog qfj 22 (qE qns 6) (qFi f v) (K8 f y):=
 zj qk (E:=qri N) (L:=qJ (qGc N)) (st:=K8 f) (g:=some) (R:=K8 f) (qld N) (qt (by kernel_rfl) trivial) (rg0 (by kernel_rfl)) (fun v=>by kernel_rfl) (qP (st:=K8 f) fun y=>by rfl) n v y h
def qmQ (N:Nat) (o_6:List qa) (s30_6:List qa) (s31_6:Int) (o_6_2:List (Vector UInt8 16)) (o_6_3:Nat) (o_6_4:List (Vector UInt8 16×qa×Nat)) (s32_6:Int):Option W9:=qsP N N (o_6,s30_6,s31_6) (o_6_2,o_6_3,o_6_4,s32_6)
def qsI (N:Nat):qw:=smL qrr [(.sl 19 qf),(.sl 16 (.ba 16)),.nat,(qby (.ba 16) qf),(.sl 19 qf),(.i .i64),(.i .i64)] W9 (fun x=>qmQ N x.1 x.2.2.2.2.1 x.2.2.2.2.2.1 x.2.1 x.2.2.1 x.2.2.2.1 x.2.2.2.2.2.2.1) cs1 fun x=>K8 (x.1,x.2.2.2.2.1,x.2.2.2.2.2.1)
theorem qEm (N:Nat):zZ Tryz.prog qfj 22 (qE qns 6) (qsI N):=zp fun x z h=>qE8 N (x.1,x.2.2.2.2.1,x.2.2.2.2.2.1) N (x.2.1,x.2.2.1,x.2.2.2.1,x.2.2.2.2.2.2.1) z h
abbrev qc4:=List qa×List (Vector UInt8 16)×Nat×List (Vector UInt8 16×qa×Nat)×Nat×Int
abbrev XV:=List qa×Int×Bool
def Kc (f:qc4) (y:XV):Ex×TSt:=(.exit 2,⟨0,87,[],[(4,.p 40 [] 0),(6,.m 240),(12,.p 120 [] 0),(71,.v 75 f.2.2.2.2.1),(72,xi f.2.2.2.2.2),(73,xi y.2.1),(74,xb y.2.2)],[(40,.cell false (.ag [.v 43 f.1.length])),(43,.vec false 19 (.sl 19 qf) f.1),(75,.vec false 16 (.sl 16 (.ba 16)) f.2.1),(120,.cell false (.ag [.v 123 y.1.length])),(123,.vec false 19 (.sl 19 qf) (y.1:List qa)),(240,.map f.2.2.1 (.ba 16) qf f.2.2.2.1)],false,[]⟩)
def qEC (N:Nat):List (Nat×qw):=[]
abbrev Ka:=List qa×Int
def qo3:SP:=⟨0,87,[],[(4,.k (.p 40 [] 0)),(6,.k (.m 240)),(12,.k (.p 120 [] 0)),(71,.v 75),(72,.x (.i .i64)),(73,.x (.i .i64))],[(40,.cell false (.ag [.vs 43])),(43,.vec false 19),(75,.vec false 16),(120,.cell false (.ag [.vs 123])),(123,.vec false 19),(240,.map (.ba 16) qf)],false,[]⟩
def qCX (f:qc4) (v:Ka):TSt:=zq qo3 [dv (.sl 19 qf) f.1,dv (.sl 16 (.ba 16)) f.2.1,dv (.sl 19 qf) v.1,dv .nat f.2.2.1,dv (qby (.ba 16) qf) f.2.2.2.1,dv .nat f.2.2.2.2.1,dv (.i .i64) f.2.2.2.2.2,dv (.i .i64) v.2]
def qcJ (N:Nat) (o_19:List qa) (o_19_2:List (Vector UInt8 16)) (o_19_4:Nat) (o_19_5:List (Vector UInt8 16×qa×Nat)) (s71_19:Nat) (s72_19:Int) (v:Ka):Tree (Ka⊕XV):=
 .cond (decide (v.2 < s72_19)) (
 .chk (0≤v.2∧v.2 < ((s71_19:Nat):Int)) <|
 .bind (jy o_19_2 s71_19 v.2.toNat) fun e1=>
 .opt (fnd (β:=qa) (.ba 16) e1 o_19_5) (
 .chk (zU v.1.length v.1.length ((v.1++[qa.mk ((Vector.replicate 16 0)) (qc.mk 0 0) []]).length) 56) <|
 .chk (qp (v.2 + 1)) <|
 .ret (.inl (v.1++[qa.mk ((Vector.replicate 16 0)) (qc.mk 0 0) []],v.2 + 1))) fun e2=>
 .chk (zU v.1.length v.1.length ((v.1++[e2.1]).length) 56) <|
 .chk (qp (v.2 + 1)) <|
 .ret (.inl (v.1++[e2.1],v.2 + 1))) <|
 .ret (.inr (v.1,v.2,decide (v.2 < s72_19)))
def qo1 (N n:Nat) (f:qc4) (v:Ka):Option XV:=qQ (qcJ N f.1 f.2.1 f.2.2.1 f.2.2.2.1 f.2.2.2.2.1 f.2.2.2.2.2) some n v
theorem qDy (N:Nat) (f:qc4) (n:Nat) (v:Ka) (y:XV) (h:qo1 N n f v=some y):LG Tryz.prog qfj 22 (qE qns 19) (qCX f v) (Kc f y):=
 zj qk (E:=qri N) (L:=qJ (qEC N)) (st:=Kc f) (g:=some) (R:=Kc f) (qld N) (qt (by kernel_rfl) trivial) (rg0 (by kernel_rfl)) (fun v=>by kernel_rfl) (qP (st:=Kc f) fun y=>by rfl) n v y h
def qlw (N:Nat) (o_19:List qa) (o_19_2:List (Vector UInt8 16)) (o_19_4:Nat) (o_19_5:List (Vector UInt8 16×qa×Nat)) (s71_19:Nat) (s72_19:Int) (o_19_3:List qa) (s73_19:Int):Option XV:=qo1 N N (o_19,o_19_2,o_19_4,o_19_5,s71_19,s72_19) (o_19_3,s73_19)
def qpi (N:Nat):qw:=smL qo3 [(.sl 19 qf),(.sl 16 (.ba 16)),(.sl 19 qf),.nat,(qby (.ba 16) qf),.nat,(.i .i64),(.i .i64)] XV (fun x=>qlw N x.1 x.2.1 x.2.2.2.1 x.2.2.2.2.1 x.2.2.2.2.2.1 x.2.2.2.2.2.2.1 x.2.2.1 x.2.2.2.2.2.2.2.1) cs1 fun x=>Kc (x.1,x.2.1,x.2.2.2.1,x.2.2.2.2.1,x.2.2.2.2.2.1,x.2.2.2.2.2.2.1)
theorem qBQ (N:Nat):zZ Tryz.prog qfj 22 (qE qns 19) (qpi N):=zp fun x z h=>qDy N (x.1,x.2.1,x.2.2.2.1,x.2.2.2.2.1,x.2.2.2.2.2.1,x.2.2.2.2.2.2.1) N (x.2.2.1,x.2.2.2.2.2.2.2.1) z h
def qLA (z:qb×Int):TV×THp:=(.tup [.tv qj (z.1:qb),xi z.2],[])
def qkg (N:Nat) (a0:qb) (a1:qb):Tree (qb×Int):=
 .bind (qd4 N a0) fun r1=>
 .cond (!r1) (
 .chk (0=0) <|
 .ret (qb.mk [],1)) <|
 .bind (qd4 N a1) fun r2=>
 .cond (!r2) (
 .chk (0=0) <|
 .ret (qb.mk [],1)) <|
 .bind (KX N [qb.R a0,qb.R a1]) fun r3=>
 .bind (zV [(([]:List qa).length,0),(([]:List (Vector UInt8 16)).length,0)] (qmQ N [] r3 ((r3.length:Nat):Int) [] 0 [] 0)) fun z4=>
 .cond (decide (((10:Int)) < ((z4.1.length:Nat):Int))) (
 .chk (0=0) <|
 .ret (qb.mk [],4)) <|
 .bind (zV [(z4.1.length,z4.1.length)] (Y2 N z4.1)) fun r5=>
 .bind (zV [(([]:List qa).length,0),(([]:List qa).length,0)] (qlw N [] r5 z4.2.1 z4.2.2.1 z4.1.length ((z4.1.length:Nat):Int) [] 0)) fun z6=>
 .chk (z6.1.length=z6.1.length) <|
 .ret (qb.mk z6.1,0)
def Y6 (N:Nat) (a0:qb) (a1:qb):Option (qb×Int):=(qkg N a0 a1).run some
def qLi (N:Nat):List (Nat×qw):=[(6,qsI N),(19,qpi N)]
def qAS (N:Nat):Ent:=smF ⟨22,[],[.x qj,.x qj],[],[]⟩ [qj,qj] (qb×Int) (fun x=>Y6 N x.1 x.2.1) cs1 fun _=>qLA
theorem qKw (N:Nat):zf Tryz.prog (qAS N):=
 zd (H:=qfj) (L:=qJ (qLi N)) (ts:=[qj,qj]) (T:=fun x=>qkg N x.1 x.2.1) 0 qTh (qld N) (qt (by kernel_rfl) ⟨qEm N,qBQ N,trivial⟩) (rg0 (by kernel_rfl)) fun x=>by kernel_rfl
noncomputable def qCE:Code:=Tryz.f13.body.getD .skip
theorem qUf:FnF Tryz.prog 13 Tryz.f13 qCE:=⟨qk,by kernel_rfl,by kernel_rfl,by kernel_rfl⟩
def qpP:TH:={ live:=[(0,[2,3,4]),(1,[2,3,4,6]),(2,[2,3,4,6,39]),(3,[4,5]),(4,[2,4,47,48,49]),(5,[2,4,47,48,49,50]),(6,[2,4,8,47,48,49]),(7,[2,4,8,47,48,49,54]),(8,[2,4,9,10,47,48,49]),(9,[2,4,9,10,47,48,49,64]),(10,[4,5]),(11,[2,4,47,48,49]),(12,[2,4,47,48,49]),(13,[4,5])],dec:=[19,23,29,34],nil:=[(0,[⟨.ob 40 [0],43,(.sl 19 qf)⟩]),(3,[⟨.ob 40 [0],43,(.sl 19 qf)⟩]),(10,[⟨.ob 40 [0],43,(.sl 19 qf)⟩])] }
def qAW (N:Nat):List Ent:=[qmE N,qiU,qb4,qo4 N,qAS N]
theorem qu2 (N:Nat):qU Tryz.prog (qAW N):=⟨qpk N,qlc,qdD,qtO N,qKw N,trivial⟩
abbrev qeu:=List qa×List qa×Int
abbrev Yd:=(qb×Int×Bool)⊕Int
def qaz (f:qeu):Yd→Ex×TSt
 | .inl y=>(.exit 0,⟨0,70,[],[(2,.p 20 [] 0),(4,.p 40 [] 0),(47,.tv (.sl 19 qf) f.2.1),(48,xi f.2.2),(49,xi y.2.1),(50,xb y.2.2)],[(20,.cell false (.tv qj (y.1:qb))),(40,.cell false (.ag [.v 43 f.1.length])),(43,.vec false 19 (.sl 19 qf) f.1)],false,[]⟩)
 | .inr y=>(.ret,⟨0,70,[],[(4,.p 40 [] 0),(5,xi y)],[(40,.cell false (.ag [.v 43 0])),(43,.vec false 19 (.sl 19 qf) ([]:List qa))],false,[]⟩)
def qFe (N:Nat):List (Nat×qw):=[]
abbrev qaj:=qb×Int
def qsO:SP:=⟨0,70,[],[(2,.k (.p 20 [] 0)),(4,.k (.p 40 [] 0)),(47,.x (.sl 19 qf)),(48,.x (.i .i64)),(49,.x (.i .i64))],[(20,.cell false (.x qj)),(40,.cell false (.ag [.vs 43])),(43,.vec false 19)],false,[]⟩
def qGi (f:qeu) (v:qaj):TSt:=zq qsO [dv (.sl 19 qf) f.1,dv qj v.1,dv (.sl 19 qf) f.2.1,dv (.i .i64) f.2.2,dv (.i .i64) v.2]
def K5 (N:Nat) (o_5:List qa) (s47_5:List qa) (s48_5:Int) (v:qaj):Tree (qaj⊕Yd):=
 .cond (decide (v.2 < s48_5)) (
 .bind (qM s47_5 v.2) fun e1=>
 .bind (Vl e1) fun r2=>
 .cond r2 (
 .chk (qp (v.2 + 1)) <|
 .ret (.inl (v.1,v.2 + 1))) <|
 .bind (Y6 N v.1 (qb.mk [e1])) fun r3=>
 .cond (!decide (r3.2=0)) (
 .ret (.inr (.inr r3.2))) <|
 .chk (qp (v.2 + 1)) <|
 .ret (.inl (r3.1,v.2 + 1))) <|
 .ret (.inr (.inl (v.1,v.2,decide (v.2 < s48_5))))
def qrs (N n:Nat) (f:qeu) (v:qaj):Option Yd:=qQ (K5 N f.1 f.2.1 f.2.2) some n v
theorem qFr (N:Nat) (f:qeu) (n:Nat) (v:qaj) (y:Yd) (h:qrs N n f v=some y):LG Tryz.prog qpP 13 (qE qCE 5) (qGi f v) (qaz f y):=
 zj qk (E:=qAW N) (L:=qJ (qFe N)) (st:=qaz f) (g:=some) (R:=qaz f) (qu2 N) (qt (by kernel_rfl) trivial) (rg0 (by kernel_rfl)) (fun v=>by kernel_rfl) (qP (st:=qaz f) fun y=>by rcases y with _ | _<;>rfl) n v y h
def qal (N:Nat) (o_5:List qa) (s47_5:List qa) (s48_5:Int) (o_5_2:qb) (s49_5:Int):Option Yd:=qrs N N (o_5,s47_5,s48_5) (o_5_2,s49_5)
def qso (N:Nat):qw:=smL qsO [(.sl 19 qf),qj,(.sl 19 qf),(.i .i64),(.i .i64)] Yd (fun x=>qal N x.1 x.2.2.1 x.2.2.2.1 x.2.1 x.2.2.2.2.1) (csS cs1) fun x=>qaz (x.1,x.2.2.1,x.2.2.2.1)
theorem qEs (N:Nat):zZ Tryz.prog qpP 13 (qE qCE 5) (qso N):=zp fun x z h=>qFr N (x.1,x.2.2.1,x.2.2.2.1) N (x.2.1,x.2.2.2.2.1) z h
def qK2 (z:qb×Int):TV×THp:=(.tup [.tv qj (z.1:qb),xi z.2],[])
def qpV (N:Nat) (a0:qb) (a1:qa):Tree (qb×Int):=
 .bind (qd4 N a0) fun r1=>
 .cond (!r1) (
 .chk (0=0) <|
 .ret (qb.mk [],1)) <|
 .bind (Vl a1) fun r2=>
 .cond r2 (
 .chk (0=0) <|
 .ret (qb.mk [],1)) <|
 .bind (qaE (qa.qz a1)) fun r3=>
 .cond (!r3) (
 .chk (0=0) <|
 .ret (qb.mk [],1)) <|
 .cond (decide (((0:Int)) < (((qa.F a1).length:Nat):Int))) (
 .bind (qjx N (qa.mk (qa.ID a1) (qc.mk 0 0) (qa.F a1))) fun r4=>
 .cond (!r4) (
 .chk (0=0) <|
 .ret (qb.mk [],1)) <|
 .bind (zV [(([]:List qa).length,0)] (qal N [] [qa.mk (qa.ID a1) (qa.qz a1) [],qa.mk (qa.ID a1) (qc.mk 0 0) (qa.F a1)] (((([qa.mk (qa.ID a1) (qa.qz a1) [],qa.mk (qa.ID a1) (qc.mk 0 0) (qa.F a1)]:List qa)).length:Nat):Int) a0 0)) fun z5=>
 .sum z5 (fun z6=>
 .ret (z6.1,0)) fun z6=>
 .chk (0=0) <|
 .ret (qb.mk [],z6)) <|
 .bind (zV [(([]:List qa).length,0)] (qal N [] [qa.mk (qa.ID a1) (qa.qz a1) [],qa.mk (qa.ID a1) (qc.mk 0 0) (qa.F a1)] (((([qa.mk (qa.ID a1) (qa.qz a1) [],qa.mk (qa.ID a1) (qc.mk 0 0) (qa.F a1)]:List qa)).length:Nat):Int) a0 0)) fun z4=>
 .sum z4 (fun z5=>
 .ret (z5.1,0)) fun z5=>
 .chk (0=0) <|
 .ret (qb.mk [],z5)
def qo8 (N:Nat) (a0:qb) (a1:qa):Option (qb×Int):=(qpV N a0 a1).run some
def qLL (N:Nat):List (Nat×qw):=[(5,qso N)]
def qBb (N:Nat):Ent:=smF ⟨13,[],[.x qj,.x qf],[],[]⟩ [qj,qf] (qb×Int) (fun x=>qo8 N x.1 x.2.1) cs1 fun _=>qK2
theorem qKM (N:Nat):zf Tryz.prog (qBb N):=
 zd (H:=qpP) (L:=qJ (qLL N)) (ts:=[qj,qf]) (T:=fun x=>qpV N x.1 x.2.1) 0 qUf (qu2 N) (qt (by kernel_rfl) ⟨qEs N,trivial⟩) (rg0 (by kernel_rfl)) fun x=>by kernel_rfl
noncomputable def qR7:Code:=Tryz.f37.body.getD .skip
theorem qSG:FnF Tryz.prog 37 Tryz.f37 qR7:=⟨qk,by kernel_rfl,by kernel_rfl,by kernel_rfl⟩
def qy7:TH:={ live:=[(0,[1]),(1,[1,5]),(2,[2]),(3,[2])],dec:=[12,17,22] }
def qw0 (N:Nat):List Ent:=[]
theorem qt3 (N:Nat):qU Tryz.prog (qw0 N):=trivial
def qxL (z:Bool):TV×THp:=(xb z,[])
def qdI (a0:qc):Tree (Bool):=
 .cond (decide ((qc.N a0)=((0:Int)))) (
 .ret (decide ((qc.Rep a0)=((0:Int))))) <|
 .cond (decide (((1:Int))≤(qc.N a0))) (
 .cond (decide ((qc.N a0)≤((1099511627776:Int)))) (
 .cond (decide (((0:Int))≤(qc.Rep a0))) (
 .ret (decide ((qc.Rep a0) < ((8:Int))))) <|
 .ret false) <|
 .ret false) <|
 .ret false
def QU (a0:qc):Option (Bool):=(qdI a0).run some
def qxW:List (Nat×qw):=[]
def JR:Ent:=smF ⟨37,[],[.x qh],[],[]⟩ [qh] (Bool) (fun x=>QU x.1) cs1 fun _=>qxL
theorem VY:zf Tryz.prog (JR):=
 zd (H:=qy7) (L:=qJ (qxW)) (ts:=[qh]) (T:=fun x=>qdI x.1) 0 qSG (qt3 0) (qt (by kernel_rfl) trivial) (rg0 (by kernel_rfl)) fun x=>by kernel_rfl
noncomputable def qTr:Code:=Tryz.f76.body.getD .skip
theorem qRo:FnF Tryz.prog 76 Tryz.f76 qTr:=⟨qk,by kernel_rfl,by kernel_rfl,by kernel_rfl⟩
def qwM:TH:={ live:=[(0,[1]),(1,[1,3]),(2,[2])],dec:=[8,14] }
def qxn (N:Nat):List Ent:=[JR]
theorem quG (N:Nat):qU Tryz.prog (qxn N):=⟨VY,trivial⟩
def qx1 (z:Bool):TV×THp:=(xb z,[])
def qdp (a0:qe):Tree (Bool):=
 .bind (QU (qe.S a0)) fun r1=>
 .cond r1 (
 .cond (decide (((0:Int)) < (qc.N (qe.S a0)))) (
 .ret (decide ((((qe.V a0).length:Nat):Int)≤((200:Int))))) <|
 .ret false) <|
 .ret false
def qaZ (a0:qe):Option (Bool):=(qdp a0).run some
def qyF:List (Nat×qw):=[]
def qkF:Ent:=smF ⟨76,[],[.x qq],[],[]⟩ [qq] (Bool) (fun x=>qaZ x.1) cs1 fun _=>qx1
theorem qv0:zf Tryz.prog (qkF):=
 zd (H:=qwM) (L:=qJ (qyF)) (ts:=[qq]) (T:=fun x=>qdp x.1) 0 qRo (quG 0) (qt (by kernel_rfl) trivial) (rg0 (by kernel_rfl)) fun x=>by kernel_rfl
noncomputable def qSd:Code:=Tryz.f44.body.getD .skip
theorem qTz:FnF Tryz.prog 44 Tryz.f44 qSd:=⟨qk,by kernel_rfl,by kernel_rfl,by kernel_rfl⟩
def qvK:TH:={ live:=[(0,[2,3]),(1,[4])],dec:=[10,16] }
def qvv (N:Nat):List Ent:=[]
theorem qsN (N:Nat):qU Tryz.prog (qvv N):=trivial
def qvQ (z:Bool):TV×THp:=(xb z,[])
def qcG (a0:qc) (a1:qc):Tree (Bool):=
 .cond (decide ((qc.N a0) < (qc.N a1))) (
 .ret true) <|
 .cond (decide ((qc.N a0)=(qc.N a1))) (
 .ret (decide ((qc.Rep a0) < (qc.Rep a1)))) <|
 .ret false
def zN (a0:qc) (a1:qc):Option (Bool):=(qcG a0 a1).run some
def qv5:List (Nat×qw):=[]
def vu:Ent:=smF ⟨44,[],[.x qh,.x qh],[],[]⟩ [qh,qh] (Bool) (fun x=>zN x.1 x.2.1) cs1 fun _=>qvQ
theorem vT:zf Tryz.prog (vu):=
 zd (H:=qvK) (L:=qJ (qv5)) (ts:=[qh,qh]) (T:=fun x=>qcG x.1 x.2.1) 0 qTz (qsN 0) (qt (by kernel_rfl) trivial) (rg0 (by kernel_rfl)) fun x=>by kernel_rfl
noncomputable def qCx:Code:=Tryz.f38.body.getD .skip
theorem qRr:FnF Tryz.prog 38 Tryz.f38 qCx:=⟨qk,by kernel_rfl,by kernel_rfl,by kernel_rfl⟩
def qdM:TH:={ live:=[(0,[1]),(1,[1,3]),(2,[1,25]),(3,[2]),(4,[1,4]),(5,[1,4,5]),(6,[1,4,5,30]),(7,[1,4,5]),(8,[1,4,5,6]),(9,[1,4,5,6,7]),(10,[1,4,5,6,7,8]),(11,[1,5,6,63]),(12,[2]),(13,[1,4,5]),(14,[2])],dec:=[14,19,49,53,59] }
def qkz (N:Nat):List Ent:=[JR,qkF,vu]
theorem qh4 (N:Nat):qU Tryz.prog (qkz N):=⟨VY,qv0,vT,trivial⟩
abbrev X_:=qa
abbrev QH:=Unit⊕(Int×Int×Bool)
def JQ (f:X_):QH→Ex×TSt
 | .inl y=>(.ret,⟨0,66,[],[(2,.bc false)],[],false,[]⟩)
 | .inr y=>(.exit 0,⟨0,66,[],[(1,.p 10 [] 0),(4,xi y.1),(5,xi y.2.1),(30,xb y.2.2)],[(10,.cell false (.tv qf f))],false,[]⟩)
def qrx (N:Nat):List (Nat×qw):=[]
abbrev JA:=Int×Int
def qhD:SP:=⟨0,66,[],[(1,.k (.p 10 [] 0)),(4,.x (.i .i64)),(5,.x (.i .i64))],[(10,.cell false (.x qf))],false,[]⟩
def qrJ (f:X_) (v:JA):TSt:=zq qhD [dv qf f,dv (.i .i64) v.1,dv (.i .i64) v.2]
def XU (N:Nat) (o_6:qa) (v:JA):Tree (JA⊕QH):=
 .cond (decide (v.2 < (((qa.F o_6).length:Nat):Int))) (
 .bind (qM (qa.F o_6) v.2) fun e1=>
 .bind (qaZ (qd.C e1)) fun r2=>
 .bind (zN (qa.qz o_6) (qe.S (qd.C e1))) fun r3=>
 .cond (!r2) (
 .ret (.inr (.inl ()))) <|
 .cond (!r3) (
 .ret (.inr (.inl ()))) <|
 .cond (decide ((qd.No e1)≤v.1)) (
 .ret (.inr (.inl ()))) <|
 .cond (decide (((8:Int))≤(qd.No e1))) (
 .ret (.inr (.inl ()))) <|
 .chk (qp (v.2 + 1)) <|
 .ret (.inl (qd.No e1,v.2 + 1))) <|
 .ret (.inr (.inr ((v.1,v.2,decide (v.2 < (((qa.F o_6).length:Nat):Int))))))
def qhC (N n:Nat) (f:X_) (v:JA):Option QH:=qQ (XU N f) some n v
theorem qrq (N:Nat) (f:X_) (n:Nat) (v:JA) (y:QH) (h:qhC N n f v=some y):LG Tryz.prog qdM 38 (qE qCx 6) (qrJ f v) (JQ f y):=
 zj qk (E:=qkz N) (L:=qJ (qrx N)) (st:=JQ f) (g:=some) (R:=JQ f) (qh4 N) (qt (by kernel_rfl) trivial) (rg0 (by kernel_rfl)) (fun v=>by kernel_rfl) (qP (st:=JQ f) fun y=>by rcases y with _ | _<;>rfl) n v y h
def YA (N:Nat) (o_6:qa) (s4_6:Int) (s5_6:Int):Option QH:=qhC N N o_6 (s4_6,s5_6)
def qho (N:Nat):qw:=smL qhD [qf,(.i .i64),(.i .i64)] QH (fun x=>YA N x.1 x.2.1 x.2.2.1) (csS cs1) fun x=>JQ x.1
theorem qql (N:Nat):zZ Tryz.prog qdM 38 (qE qCx 6) (qho N):=zp fun x z h=>qrq N x.1 N (x.2.1,x.2.2.1) z h
def qwU (z:Bool):TV×THp:=(xb z,[])
def qc7 (N:Nat) (a0:qa):Tree (Bool):=
 .bind (QU (qa.qz a0)) fun r1=>
 .cond (!r1) (
 .ret false) <|
 .cond (decide ((((qa.F a0).length:Nat):Int)=((0:Int)))) (
 .cond (eqE qh (qa.qz a0) (qc.mk 0 0)) (
 .ret false) <|
 .bind (YA N a0 (-1) 0) fun z2=>
 .sum z2 (fun z3=>
 .ret false) fun z3=>
 .ret true) <|
 .bind (YA N a0 (-1) 0) fun z2=>
 .sum z2 (fun z3=>
 .ret false) fun z3=>
 .ret true
def Jn (N:Nat) (a0:qa):Option (Bool):=(qc7 N a0).run some
def qw_ (N:Nat):List (Nat×qw):=[(6,qho N)]
def YW (N:Nat):Ent:=smF ⟨38,[],[.x qf],[],[]⟩ [qf] (Bool) (fun x=>Jn N x.1) cs1 fun _=>qwU
theorem qci (N:Nat):zf Tryz.prog (YW N):=
 zd (H:=qdM) (L:=qJ (qw_ N)) (ts:=[qf]) (T:=fun x=>qc7 N x.1) 0 qRr (qh4 N) (qt (by kernel_rfl) ⟨qql N,trivial⟩) (rg0 (by kernel_rfl)) fun x=>by kernel_rfl
noncomputable def qCV:Code:=Tryz.f75.body.getD .skip
theorem qRE:FnF Tryz.prog 75 Tryz.f75 qCV:=⟨qk,by kernel_rfl,by kernel_rfl,by kernel_rfl⟩
def qcd:TH:={ live:=[(0,[2,3]),(1,[2,3,5]),(2,[2,3,5,7]),(3,[2,3,5]),(4,[2,3,5,16]),(5,[4]),(6,[4])] }
def qjg (N:Nat):List Ent:=[]
theorem qhF (N:Nat):qU Tryz.prog (qjg N):=trivial
abbrev Xv:=Vector UInt8 16×Vector UInt8 16
abbrev Qi:=Bool⊕(Int×Bool)
def Z4 (f:Xv):Qi→Ex×TSt
 | .inl y=>(.ret,⟨0,24,[],[(4,xb y)],[],false,[]⟩)
 | .inr y=>(.exit 0,⟨0,24,[],[(2,.p 20 [] 0),(3,.p 30 [] 0),(5,xi y.1),(7,xb y.2)],[(20,.cell false (.tv (.ba 16) f.1)),(30,.cell false (.tv (.ba 16) f.2))],false,[]⟩)
def qqq (N:Nat):List (Nat×qw):=[]
abbrev ZT:=Int
def qfu:SP:=⟨0,24,[],[(2,.k (.p 20 [] 0)),(3,.k (.p 30 [] 0)),(5,.x (.i .i64))],[(20,.cell false (.x (.ba 16))),(30,.cell false (.x (.ba 16)))],false,[]⟩
def qq5 (f:Xv) (v:ZT):TSt:=zq qfu [dv (.ba 16) f.1,dv (.ba 16) f.2,dv (.i .i64) v]
def ZO (N:Nat) (o_2:Vector UInt8 16) (o_2_2:Vector UInt8 16) (v:ZT):Tree (ZT⊕Qi):=
 .cond (decide (v < ((16:Int)))) (
 .chk (0≤v∧v < ((16:Nat):Int)) <|
 .chk (v.toNat < 16) <|
 .chk (0≤v∧v < ((16:Nat):Int)) <|
 .chk (v.toNat < 16) <|
 .cond (!decide ((((o_2.toList.getD v.toNat 0).toNat:Nat):Int)=(((o_2_2.toList.getD v.toNat 0).toNat:Nat):Int))) (
 .chk (0≤v∧v < ((16:Nat):Int)) <|
 .chk (v.toNat < 16) <|
 .chk (0≤v∧v < ((16:Nat):Int)) <|
 .chk (v.toNat < 16) <|
 .ret (.inr (.inl (decide ((((o_2.toList.getD v.toNat 0).toNat:Nat):Int) < (((o_2_2.toList.getD v.toNat 0).toNat:Nat):Int)))))) <|
 .chk (qp (v + 1)) <|
 .ret (.inl (v + 1))) <|
 .ret (.inr (.inr ((v,decide (v < ((16:Int)))))))
def qfo (N n:Nat) (f:Xv) (v:ZT):Option Qi:=qQ (ZO N f.1 f.2) some n v
theorem qpS (N:Nat) (f:Xv) (n:Nat) (v:ZT) (y:Qi) (h:qfo N n f v=some y):LG Tryz.prog qcd 75 (qE qCV 2) (qq5 f v) (Z4 f y):=
 zj qk (E:=qjg N) (L:=qJ (qqq N)) (st:=Z4 f) (g:=some) (R:=Z4 f) (qhF N) (qt (by kernel_rfl) trivial) (rg0 (by kernel_rfl)) (fun v=>by kernel_rfl) (qP (st:=Z4 f) fun y=>by rcases y with _ | _<;>rfl) n v y h
def qbg (N:Nat) (o_2:Vector UInt8 16) (o_2_2:Vector UInt8 16) (s5_2:Int):Option Qi:=qfo N N (o_2,o_2_2) s5_2
def qfk (N:Nat):qw:=smL qfu [(.ba 16),(.ba 16),(.i .i64)] Qi (fun x=>qbg N x.1 x.2.1 x.2.2.1) (csS cs1) fun x=>Z4 (x.1,x.2.1)
theorem qoq (N:Nat):zZ Tryz.prog qcd 75 (qE qCV 2) (qfk N):=zp fun x z h=>qpS N (x.1,x.2.1) N x.2.2.1 z h
def qv7 (z:Bool):TV×THp:=(xb z,[])
def qcF (N:Nat) (a0:Vector UInt8 16) (a1:Vector UInt8 16):Tree (Bool):=
 .bind (qbg N a0 a1 0) fun z1=>
 .sum z1 (fun z2=>
 .ret z2) fun z2=>
 .ret false
def Qq (N:Nat) (a0:Vector UInt8 16) (a1:Vector UInt8 16):Option (Bool):=(qcF N a0 a1).run some
def qvr (N:Nat):List (Nat×qw):=[(2,qfk N)]
def Yz (N:Nat):Ent:=smF ⟨75,[],[.x (.ba 16),.x (.ba 16)],[],[]⟩ [(.ba 16),(.ba 16)] (Bool) (fun x=>Qq N x.1 x.2.1) cs1 fun _=>qv7
theorem qaY (N:Nat):zf Tryz.prog (Yz N):=
 zd (H:=qcd) (L:=qJ (qvr N)) (ts:=[(.ba 16),(.ba 16)]) (T:=fun x=>qcF N x.1 x.2.1) 0 qRE (qhF N) (qt (by kernel_rfl) ⟨qoq N,trivial⟩) (rg0 (by kernel_rfl)) fun x=>by kernel_rfl
noncomputable def qCW:Code:=Tryz.f36.body.getD .skip
theorem qTE:FnF Tryz.prog 36 Tryz.f36 qCW:=⟨qk,by kernel_rfl,by kernel_rfl,by kernel_rfl⟩
def qd9:TH:={ live:=[(0,[1]),(1,[1,3]),(2,[1,3,10]),(3,[1,3]),(4,[1,3,4]),(5,[1,3,20]),(6,[2]),(7,[1,3,22]),(8,[1,3,5]),(9,[1,3,38]),(10,[2]),(11,[2])] }
def qkS (N:Nat):List Ent:=[YW N,Yz N]
theorem qhO (N:Nat):qU Tryz.prog (qkS N):=⟨qci N,qaY N,trivial⟩
abbrev Wn:=qb
abbrev QF:=Unit⊕(Int×Bool)
def JK (f:Wn):QF→Ex×TSt
 | .inl y=>(.ret,⟨0,43,[],[(2,.bc false)],[],false,[]⟩)
 | .inr y=>(.exit 0,⟨0,43,[],[(1,.p 10 [] 0),(3,xi y.1),(10,xb y.2)],[(10,.cell false (.tv qj f))],false,[]⟩)
def qr3 (N:Nat):List (Nat×qw):=[]
abbrev JG:=Int
def qgO:SP:=⟨0,43,[],[(1,.k (.p 10 [] 0)),(3,.x (.i .i64))],[(10,.cell false (.x qj))],false,[]⟩
def qrH (f:Wn) (v:JG):TSt:=zq qgO [dv qj f,dv (.i .i64) v]
def XZ (N:Nat) (o_2:qb) (v:JG):Tree (JG⊕QF):=
 .cond (decide (v < (((qb.R o_2).length:Nat):Int))) (
 .bind (qM (qb.R o_2) v) fun e1=>
 .bind (Jn N e1) fun r2=>
 .cond (!r2) (
 .ret (.inr (.inl ()))) <|
 .cond (decide (((0:Int)) < v)) (
 .chk (qp (v - 1)) <|
 .bind (qM (qb.R o_2) (v - 1)) fun e3=>
 .bind (qM (qb.R o_2) v) fun e4=>
 .bind (Qq N (qa.ID e3) (qa.ID e4)) fun r5=>
 .cond (!r5) (
 .ret (.inr (.inl ()))) <|
 .chk (qp (v + 1)) <|
 .ret (.inl (v + 1))) <|
 .chk (qp (v + 1)) <|
 .ret (.inl (v + 1))) <|
 .ret (.inr (.inr ((v,decide (v < (((qb.R o_2).length:Nat):Int))))))
def qgX (N n:Nat) (f:Wn) (v:JG):Option QF:=qQ (XZ N f) some n v
theorem qsE (N:Nat) (f:Wn) (n:Nat) (v:JG) (y:QF) (h:qgX N n f v=some y):LG Tryz.prog qd9 36 (qE qCW 2) (qrH f v) (JK f y):=
 zj qk (E:=qkS N) (L:=qJ (qr3 N)) (st:=JK f) (g:=some) (R:=JK f) (qhO N) (qt (by kernel_rfl) trivial) (rg0 (by kernel_rfl)) (fun v=>by kernel_rfl) (qP (st:=JK f) fun y=>by rcases y with _ | _<;>rfl) n v y h
def qcB (N:Nat) (o_2:qb) (s3_2:Int):Option QF:=qgX N N o_2 s3_2
def qhr (N:Nat):qw:=smL qgO [qj,(.i .i64)] QF (fun x=>qcB N x.1 x.2.1) (csS cs1) fun x=>JK x.1
theorem qqF (N:Nat):zZ Tryz.prog qd9 36 (qE qCW 2) (qhr N):=zp fun x z h=>qsE N x.1 N x.2.1 z h
def qxV (z:Bool):TV×THp:=(xb z,[])
def qdN (N:Nat) (a0:qb):Tree (Bool):=
 .bind (qcB N a0 0) fun z1=>
 .sum z1 (fun z2=>
 .ret false) fun z2=>
 .ret (decide ((((qb.R a0).length:Nat):Int)≤((10:Int))))
def Jl (N:Nat) (a0:qb):Option (Bool):=(qdN N a0).run some
def qyY (N:Nat):List (Nat×qw):=[(2,qhr N)]
def Kh (N:Nat):Ent:=smF ⟨36,[],[.x qj],[],[]⟩ [qj] (Bool) (fun x=>Jl N x.1) cs1 fun _=>qxV
theorem qcn (N:Nat):zf Tryz.prog (Kh N):=
 zd (H:=qd9) (L:=qJ (qyY N)) (ts:=[qj]) (T:=fun x=>qdN N x.1) 0 qTE (qhO N) (qt (by kernel_rfl) ⟨qqF N,trivial⟩) (rg0 (by kernel_rfl)) fun x=>by kernel_rfl
noncomputable def qQq:Code:=Tryz.f101.body.getD .skip
theorem qQ3:FnF Tryz.prog 101 Tryz.f101 qQq:=⟨qk,by kernel_rfl,by kernel_rfl,by kernel_rfl⟩
def qxd:TH:={ live:=[(0,[1,2]),(1,[1,2]),(2,[2])],nil:=[(0,[⟨.ob 20 [2],25,(.sl 4 qB)⟩])] }
def qwv (N:Nat):List Ent:=[]
theorem quE (N:Nat):qU Tryz.prog (qwv N):=trivial
def qx_ (a0:qa) (z:Unit):TV×THp:=(.tv qf a0,[])
def qdl (a0:qa):Tree (Unit):=
 .chk (qhY ((qa.F a0).length) 40) <|
 .chk ((qa.F a0).length=(qa.F a0).length) <|
 .ret ()
def QY (a0:qa):Option (Unit):=(qdl a0).run some
def qx7:List (Nat×qw):=[]
def qk3:Ent:=smF ⟨101,[],[.x qf],[],[]⟩ [qf] (Unit) (fun x=>QY x.1) cs1 fun x=>qx_ x.1
theorem qwk:zf Tryz.prog (qk3):=
 zd (H:=qxd) (L:=qJ (qx7)) (ts:=[qf]) (T:=fun x=>qdl x.1) 0 qQ3 (quE 0) (qt (by kernel_rfl) trivial) (rg0 (by kernel_rfl)) fun x=>by kernel_rfl
noncomputable def qQk:Code:=Tryz.f129.body.getD .skip
theorem qOR:FnF Tryz.prog 129 Tryz.f129 qQk:=⟨qk,by kernel_rfl,by kernel_rfl,by kernel_rfl⟩
def qw4:TH:={ live:=[(0,[2,3,4]),(1,[2,3,4,5]),(2,[2,3,4,9]),(3,[4]),(4,[4])] }
def qwT (N:Nat):List Ent:=[vu]
theorem qtk (N:Nat):qU Tryz.prog (qwT N):=⟨vT,trivial⟩
def qwS (z:qc):TV×THp:=(.tv qh z,[])
def qd6 (a0:qc) (a1:qc):Tree (qc):=
 .bind (zN a0 a1) fun r1=>
 .cond r1 (
 .ret a1) <|
 .ret a0
def qa2 (a0:qc) (a1:qc):Option (qc):=(qd6 a0 a1).run some
def qxM:List (Nat×qw):=[]
def qko:Ent:=smF ⟨129,[],[.x qh,.x qh],[],[]⟩ [qh,qh] (qc) (fun x=>qa2 x.1 x.2.1) cs1 fun _=>qwS
theorem qvE:zf Tryz.prog (qko):=
 zd (H:=qw4) (L:=qJ (qxM)) (ts:=[qh,qh]) (T:=fun x=>qd6 x.1 x.2.1) 0 qOR (qtk 0) (qt (by kernel_rfl) trivial) (rg0 (by kernel_rfl)) fun x=>by kernel_rfl
noncomputable def qyb:Code:=Tryz.f130.body.getD .skip
theorem qQf:FnF Tryz.prog 130 Tryz.f130 qyb:=⟨qk,by kernel_rfl,by kernel_rfl,by kernel_rfl⟩
def qco:TH:={ live:=[(0,[1,2,4]),(1,[1,2,4,6]),(2,[1,2,4,6,11]),(3,[1,2,4,6]),(4,[1,2,4,6,21]),(5,[4,5]),(6,[4,5])] }
def qjm (N:Nat):List Ent:=[]
theorem qhd (N:Nat):qU Tryz.prog (qjm N):=trivial
abbrev XG:=qa×qe×Int
abbrev Ql:=qe⊕(Int×Bool)
def Ja (f:XG):Ql→Ex×TSt
 | .inl y=>(.ret,⟨0,29,[],[(4,.p 40 [] 0),(5,.bc true)],[(40,.cell false (.tv qq y))],false,[]⟩)
 | .inr y=>(.exit 0,⟨0,29,[],[(1,xi f.2.2),(2,.p 20 [] 0),(4,.p 40 [] 0),(6,xi y.1),(11,xb y.2)],[(20,.cell false (.tv qf f.1)),(40,.cell false (.tv qq f.2.1))],false,[]⟩)
def qq0 (N:Nat):List (Nat×qw):=[]
abbrev ZC:=Int
def qfm:SP:=⟨0,29,[],[(1,.x (.i .i64)),(2,.k (.p 20 [] 0)),(4,.k (.p 40 [] 0)),(6,.x (.i .i64))],[(20,.cell false (.x qf)),(40,.cell false (.x qq))],false,[]⟩
def qpT (f:XG) (v:ZC):TSt:=zq qfm [dv qf f.1,dv qq f.2.1,dv (.i .i64) f.2.2,dv (.i .i64) v]
def ZN (N:Nat) (o_2:qa) (o_2_2:qe) (s1_2:Int) (v:ZC):Tree (ZC⊕Ql):=
 .cond (decide (v < (((qa.F o_2).length:Nat):Int))) (
 .bind (qM (qa.F o_2) v) fun e1=>
 .cond (decide ((qd.No e1)=s1_2)) (
 .bind (qM (qa.F o_2) v) fun e2=>
 .ret (.inr (.inl (qd.C e2)))) <|
 .chk (qp (v + 1)) <|
 .ret (.inl (v + 1))) <|
 .ret (.inr (.inr ((v,decide (v < (((qa.F o_2).length:Nat):Int))))))
def qfc (N n:Nat) (f:XG) (v:ZC):Option Ql:=qQ (ZN N f.1 f.2.1 f.2.2) some n v
theorem qpx (N:Nat) (f:XG) (n:Nat) (v:ZC) (y:Ql) (h:qfc N n f v=some y):LG Tryz.prog qco 130 (qE qyb 2) (qpT f v) (Ja f y):=
 zj qk (E:=qjm N) (L:=qJ (qq0 N)) (st:=Ja f) (g:=some) (R:=Ja f) (qhd N) (qt (by kernel_rfl) trivial) (rg0 (by kernel_rfl)) (fun v=>by kernel_rfl) (qP (st:=Ja f) fun y=>by rcases y with _ | _<;>rfl) n v y h
def qaO (N:Nat) (o_2:qa) (o_2_2:qe) (s1_2:Int) (s6_2:Int):Option Ql:=qfc N N (o_2,o_2_2,s1_2) s6_2
def qfV (N:Nat):qw:=smL qfm [qf,qq,(.i .i64),(.i .i64)] Ql (fun x=>qaO N x.1 x.2.1 x.2.2.1 x.2.2.2.1) (csS cs1) fun x=>Ja (x.1,x.2.1,x.2.2.1)
theorem qon (N:Nat):zZ Tryz.prog qco 130 (qE qyb 2) (qfV N):=zp fun x z h=>qpx N (x.1,x.2.1,x.2.2.1) N x.2.2.2.1 z h
def qvI (z:qe×Bool):TV×THp:=(.tup [.tv qq (z.1:qe),xb z.2],[])
def qcA (N:Nat) (a0:qa) (a1:Int):Tree (qe×Bool):=
 .bind (qaO N a0 (qe.mk (qc.mk 0 0) []) a1 0) fun z1=>
 .sum z1 (fun z2=>
 .ret (z2,true)) fun z2=>
 .ret (qe.mk (qc.mk 0 0) [],false)
def WI (N:Nat) (a0:qa) (a1:Int):Option (qe×Bool):=(qcA N a0 a1).run some
def qvx (N:Nat):List (Nat×qw):=[(2,qfV N)]
def qjd (N:Nat):Ent:=smF ⟨130,[],[.x qf,.x (.i .i64)],[],[]⟩ [qf,(.i .i64)] (qe×Bool) (fun x=>WI N x.1 x.2.1) cs1 fun _=>qvI
theorem quv (N:Nat):zf Tryz.prog (qjd N):=
 zd (H:=qco) (L:=qJ (qvx N)) (ts:=[qf,(.i .i64)]) (T:=fun x=>qcA N x.1 x.2.1) 0 qQf (qhd N) (qt (by kernel_rfl) ⟨qon N,trivial⟩) (rg0 (by kernel_rfl)) fun x=>by kernel_rfl
noncomputable def qkX:Code:=Tryz.f104.body.getD .skip
theorem qQF:FnF Tryz.prog 104 Tryz.f104 qkX:=⟨qk,by kernel_rfl,by kernel_rfl,by kernel_rfl⟩
def Z_:TH:={ live:=[(0,[0]),(1,[0,3]),(2,[0,3]),(3,[0,3,15]),(4,[0,3]),(5,[3,4]),(6,[3,4,5]),(7,[3,4,5,6]),(8,[3,4,5,6,24]),(9,[3,4,5,6]),(10,[3,4,5,6]),(11,[3,4,5,6]),(12,[2])] }
def KB (N:Nat):List Ent:=[]
theorem Yp (N:Nat):qU Tryz.prog (KB N):=trivial
abbrev J0:=List UInt8
abbrev vm:=List UInt8×Bool
def Qx (f:J0) (y:vm):Ex×TSt:=(.exit 0,⟨0,38,[],[(0,.tv .bl f),(3,.v 80 y.1.length),(15,xb y.2)],[(80,.vec false 1 .bl (y.1:List UInt8))],false,[]⟩)
def ql8 (N:Nat):List (Nat×qw):=[]
abbrev Qy:=List UInt8
def qcV:SP:=⟨0,38,[],[(0,.x .bl),(3,.vs 80)],[(80,.vec false 1)],false,[]⟩
def qma (f:J0) (v:Qy):TSt:=zq qcV [dv .bl v,dv .bl f]
def Qw (N:Nat) (s0_3:List UInt8) (v:Qy):Tree (Qy⊕vm):=
 .chk ((64:Int)≠0) <|
 .cond (!decide ((((v.length:Nat):Int).tmod 64)=56)) (
 .chk (zU v.length v.length ((v++[(UInt8.ofNat 0)]).length) 1) <|
 .ret (.inl (v++[(UInt8.ofNat 0)]))) <|
 .ret (.inr (v,!decide ((((v.length:Nat):Int).tmod 64)=56)))
def qcM (N n:Nat) (f:J0) (v:Qy):Option vm:=qQ (Qw N f) some n v
theorem qml (N:Nat) (f:J0) (n:Nat) (v:Qy) (y:vm) (h:qcM N n f v=some y):LG Tryz.prog Z_ 104 (qE qkX 3) (qma f v) (Qx f y):=
 zj qk (E:=KB N) (L:=qJ (ql8 N)) (st:=Qx f) (g:=some) (R:=Qx f) (Yp N) (qt (by kernel_rfl) trivial) (rg0 (by kernel_rfl)) (fun v=>by kernel_rfl) (qP (st:=Qx f) fun y=>by rfl) n v y h
def VQ (N:Nat) (s0_3:List UInt8) (o_3:List UInt8):Option vm:=qcM N N s0_3 o_3
def qcQ (N:Nat):qw:=smL qcV [.bl,.bl] vm (fun x=>VQ N x.2.1 x.1) cs1 fun x=>Qx x.2.1
theorem qli (N:Nat):zZ Tryz.prog Z_ 104 (qE qkX 3) (qcQ N):=zp fun x z h=>qml N x.2.1 N x.1 z h
abbrev JX:=Int
abbrev vp:=List UInt8×Int×Int×Bool
def QB (f:JX) (y:vp):Ex×TSt:=(.exit 2,⟨0,38,[],[(3,.v 80 y.1.length),(4,.tv (.i .u64) f),(5,.tv (.i .u64) (y.2.1:Int)),(6,xi y.2.2.1),(24,xb y.2.2.2)],[(80,.vec false 1 .bl (y.1:List UInt8))],false,[]⟩)
def qmy (N:Nat):List (Nat×qw):=[]
abbrev Qz:=List UInt8×Int×Int
def qcO:SP:=⟨0,38,[],[(3,.vs 80),(4,.x (.i .u64)),(5,.x (.i .u64)),(6,.x (.i .i64))],[(80,.vec false 1)],false,[]⟩
def qmf (f:JX) (v:Qz):TSt:=zq qcO [dv .bl v.1,dv (.i .u64) f,dv (.i .u64) v.2.1,dv (.i .i64) v.2.2]
def JU (N:Nat) (s4_8:Int) (v:Qz):Tree (Qz⊕vp):=
 .cond (decide (v.2.2 < ((8:Int)))) (
 .chk (v.2.1≠0) <|
 .chk ((256:Int)≠0) <|
 let w1:Int:=IntKind.u8.wrap ((IntKind.u64.wrap (s4_8.tdiv v.2.1)).tmod 256)
 .chk (inB w1) <|
 .chk (zU v.1.length v.1.length ((v.1++[UInt8.ofNat w1.toNat]).length) 1) <|
 .chk ((256:Int)≠0) <|
 .chk (qp (v.2.2 + 1)) <|
 .ret (.inl (v.1++[UInt8.ofNat w1.toNat],IntKind.u64.wrap (v.2.1.tdiv 256),v.2.2 + 1))) <|
 .ret (.inr (v.1,v.2.1,v.2.2,decide (v.2.2 < ((8:Int)))))
def qcK (N n:Nat) (f:JX) (v:Qz):Option vp:=qQ (JU N f) some n v
theorem qmk (N:Nat) (f:JX) (n:Nat) (v:Qz) (y:vp) (h:qcK N n f v=some y):LG Tryz.prog Z_ 104 (qE qkX 8) (qmf f v) (QB f y):=
 zj qk (E:=KB N) (L:=qJ (qmy N)) (st:=QB f) (g:=some) (R:=QB f) (Yp N) (qt (by kernel_rfl) trivial) (rg0 (by kernel_rfl)) (fun v=>by kernel_rfl) (qP (st:=QB f) fun y=>by rfl) n v y h
def YG (N:Nat) (s4_8:Int) (o_8:List UInt8) (s5_8:Int) (s6_8:Int):Option vp:=qcK N N s4_8 (o_8,s5_8,s6_8)
def qc2 (N:Nat):qw:=smL qcO [.bl,(.i .u64),(.i .u64),(.i .i64)] vp (fun x=>YG N x.2.1 x.1 x.2.2.1 x.2.2.2.1) cs1 fun x=>QB x.2.1
theorem qlk (N:Nat):zZ Tryz.prog Z_ 104 (qE qkX 8) (qc2 N):=zp fun x z h=>qmk N x.2.1 N (x.1,x.2.2.1,x.2.2.2.1) z h
def qqP (z:List UInt8):TV×THp:=(.tv .bl z,[])
def Kl (N:Nat) (a0:List UInt8):Tree (List UInt8):=
 .chk (qhY a0.length 1) <|
 .chk (zU a0.length a0.length ((a0++[(UInt8.ofNat 128)]).length) 1) <|
 .bind (zV [((a0++[(UInt8.ofNat 128)]).length,(a0++[(UInt8.ofNat 128)]).length)] (VQ N a0 (a0++[(UInt8.ofNat 128)]))) fun z1=>
 .chk (qp (((8:Int)) * ((a0.length:Nat):Int))) <|
 let w2:Int:=IntKind.u64.wrap (((8:Int)) * ((a0.length:Nat):Int))
 .bind (zV [(z1.1.length,z1.1.length)] (YG N w2 z1.1 72057594037927936 0)) fun z3=>
 .chk (z3.1.length=z3.1.length) <|
 .ret z3.1
def WX (N:Nat) (a0:List UInt8):Option (List UInt8):=(Kl N a0).run some
def qqB (N:Nat):List (Nat×qw):=[(3,qcQ N),(8,qc2 N)]
def qf3 (N:Nat):Ent:=smF ⟨104,[],[.x .bl],[],[]⟩ [.bl] (List UInt8) (fun x=>WX N x.1) cs1 fun _=>qqP
theorem qof (N:Nat):zf Tryz.prog (qf3 N):=
 zd (H:=Z_) (L:=qJ (qqB N)) (ts:=[.bl]) (T:=fun x=>Kl N x.1) 0 qQF (Yp N) (qt (by kernel_rfl) ⟨qli N,qlk N,trivial⟩) (rg0 (by kernel_rfl)) fun x=>by kernel_rfl
noncomputable def qQE:Code:=Tryz.f106.body.getD .skip
theorem qPb:FnF Tryz.prog 106 Tryz.f106 qQE:=⟨qk,by kernel_rfl,by kernel_rfl,by kernel_rfl⟩
def qr_:TH:={ live:=[(0,[0,1]),(1,[4])] }
def qrt (N:Nat):List Ent:=[]
theorem qoD (N:Nat):qU Tryz.prog (qrt N):=trivial
def qse (z:Int):TV×THp:=(.tv (.i .u32) z,[])
def qac (a0:Int) (a1:Int):Tree (Int):=
 .chk (0≤a1) <|
 .chk (0≤(qpY .u32 ((32:Int)) a1)) <|
 let w1:Int:=qBt .u32 a0 (min (qpY .u32 ((32:Int)) a1).toNat 32)
 .ret (uOr .u32 (Jk a0 (min a1.toNat 32)) w1)
def ze (a0:Int) (a1:Int):Option (Int):=(qac a0 a1).run some
def qrB:List (Nat×qw):=[]
def qaa:Ent:=smF ⟨106,[],[.x (.i .u32),.x (.i .u32)],[],[]⟩ [(.i .u32),(.i .u32)] (Int) (fun x=>ze x.1 x.2.1) cs1 fun _=>qse
theorem qfw:zf Tryz.prog (qaa):=
 zd (H:=qr_) (L:=qJ (qrB)) (ts:=[(.i .u32),(.i .u32)]) (T:=fun x=>qac x.1 x.2.1) 0 qPb (qoD 0) (qt (by kernel_rfl) trivial) (rg0 (by kernel_rfl)) fun x=>by kernel_rfl
noncomputable def qkq:Code:=Tryz.f105.body.getD .skip
theorem qPJ:FnF Tryz.prog 105 Tryz.f105 qkq:=⟨qk,by kernel_rfl,by kernel_rfl,by kernel_rfl⟩
def Vm:TH:={ live:=[(0,[0]),(1,[0,3]),(2,[0,3,4]),(3,[0,3,4,11]),(4,[0,3,4]),(5,[0,3,4]),(6,[3,5]),(7,[3,5,51]),(8,[3,5]),(9,[3,5,6]),(10,[3,5,6,7]),(11,[3,5,7,8]),(12,[3,5,8,9]),(13,[3,5]),(14,[2])],nil:=[(1,[⟨.sl 3,35,(.sl 1 (.i .u32))⟩])] }
def qaK (N:Nat):List Ent:=[qaa]
theorem KF (N:Nat):qU Tryz.prog (qaK N):=⟨qfw,trivial⟩
abbrev VL:=List UInt8
abbrev vL:=List Int×Int×Bool
def Zi (f:VL) (y:vL):Ex×TSt:=(.exit 0,⟨0,99,[],[(0,.tv .bl f),(3,.v 35 y.1.length),(4,xi y.2.1),(11,xb y.2.2)],[(35,.vec false 1 (.sl 1 (.i .u32)) (y.1:List Int))],false,[]⟩)
def qn4 (N:Nat):List (Nat×qw):=[]
abbrev Zb:=List Int×Int
def qeK:SP:=⟨0,99,[],[(0,.x .bl),(3,.vs 35),(4,.x (.i .i64))],[(35,.vec false 1)],false,[]⟩
def qoC (f:VL) (v:Zb):TSt:=zq qeK [dv (.sl 1 (.i .u32)) v.1,dv .bl f,dv (.i .i64) v.2]
def Zf (N:Nat) (s0_3:List UInt8) (v:Zb):Tree (Zb⊕vL):=
 .cond (decide (v.2 < ((16:Int)))) (
 .chk (qp (((4:Int)) * v.2)) <|
 .bind (qM s0_3 (((4:Int)) * v.2)) fun e1=>
 let w2:Int:=IntKind.u32.wrap ((e1.toNat:Nat):Int)
 .chk (qp (((4:Int)) * v.2)) <|
 .chk (qp ((((4:Int)) * v.2) + 1)) <|
 .bind (qM s0_3 ((((4:Int)) * v.2) + 1)) fun e3=>
 let w4:Int:=IntKind.u32.wrap ((e3.toNat:Nat):Int)
 let w5:Int:=vg .u32 (qnB .u32 ((16777216:Int)) w2) (qnB .u32 ((65536:Int)) w4)
 .chk (qp (((4:Int)) * v.2)) <|
 .chk (qp ((((4:Int)) * v.2) + 2)) <|
 .bind (qM s0_3 ((((4:Int)) * v.2) + 2)) fun e6=>
 let w7:Int:=IntKind.u32.wrap ((e6.toNat:Nat):Int)
 let w8:Int:=vg .u32 w5 (qnB .u32 ((256:Int)) w7)
 .chk (qp (((4:Int)) * v.2)) <|
 .chk (qp ((((4:Int)) * v.2) + 3)) <|
 .bind (qM s0_3 ((((4:Int)) * v.2) + 3)) fun e9=>
 let w10:Int:=IntKind.u32.wrap ((e9.toNat:Nat):Int)
 .chk (zU v.1.length v.1.length ((v.1++[vg .u32 w8 w10]).length) 4) <|
 .chk (qp (v.2 + 1)) <|
 .ret (.inl (v.1++[vg .u32 w8 w10],v.2 + 1))) <|
 .ret (.inr (v.1,v.2,decide (v.2 < ((16:Int)))))
def qeO (N n:Nat) (f:VL) (v:Zb):Option vL:=qQ (Zf N f) some n v
theorem qop (N:Nat) (f:VL) (n:Nat) (v:Zb) (y:vL) (h:qeO N n f v=some y):LG Tryz.prog Vm 105 (qE qkq 3) (qoC f v) (Zi f y):=
 zj qk (E:=qaK N) (L:=qJ (qn4 N)) (st:=Zi f) (g:=some) (R:=Zi f) (KF N) (qt (by kernel_rfl) trivial) (rg0 (by kernel_rfl)) (fun v=>by kernel_rfl) (qP (st:=Zi f) fun y=>by rfl) n v y h
def JB (N:Nat) (s0_3:List UInt8) (o_3:List Int) (s4_3:Int):Option vL:=qeO N N s0_3 (o_3,s4_3)
def qeV (N:Nat):qw:=smL qeK [(.sl 1 (.i .u32)),.bl,(.i .i64)] vL (fun x=>JB N x.2.1 x.1 x.2.2.1) cs1 fun x=>Zi x.2.1
theorem qne (N:Nat):zZ Tryz.prog Vm 105 (qE qkq 3) (qeV N):=zp fun x z h=>qop N x.2.1 N (x.1,x.2.2.1) z h
abbrev VM:=Unit
abbrev vO:=List Int×Int×Bool
def Ze (f:VM) (y:vO):Ex×TSt:=(.exit 2,⟨0,99,[],[(3,.v 35 y.1.length),(5,xi y.2.1),(51,xb y.2.2)],[(35,.vec false 1 (.sl 1 (.i .u32)) (y.1:List Int))],false,[]⟩)
def qn5 (N:Nat):List (Nat×qw):=[]
abbrev Zk:=List Int×Int
def qeJ:SP:=⟨0,99,[],[(3,.vs 35),(5,.x (.i .i64))],[(35,.vec false 1)],false,[]⟩
def qn9 (f:VM) (v:Zk):TSt:=zq qeJ [dv (.sl 1 (.i .u32)) v.1,dv (.i .i64) v.2]
def Za (N:Nat) (v:Zk):Tree (Zk⊕vO):=
 .cond (decide (v.2 < ((64:Int)))) (
 .chk (qp (v.2 - 15)) <|
 .chk (0≤(v.2 - 15)∧(v.2 - 15) < ((v.1.length:Nat):Int)) <|
 .bind (jy v.1 v.1.length ((v.2 - 15).toNat)) fun e1=>
 .chk (qp (v.2 - 2)) <|
 .chk (0≤(v.2 - 2)∧(v.2 - 2) < ((v.1.length:Nat):Int)) <|
 .bind (jy v.1 v.1.length ((v.2 - 2).toNat)) fun e2=>
 .bind (ze e1 7) fun r3=>
 .bind (ze e1 18) fun r4=>
 .chk (0≤(3:Int)) <|
 .bind (ze e2 17) fun r5=>
 .bind (ze e2 19) fun r6=>
 .chk (0≤(10:Int)) <|
 let w7:Int:=V8 .u32 (V8 .u32 r5 r6) (Jk e2 10)
 .chk (qp (v.2 - 16)) <|
 .chk (0≤(v.2 - 16)∧(v.2 - 16) < ((v.1.length:Nat):Int)) <|
 .bind (jy v.1 v.1.length ((v.2 - 16).toNat)) fun e8=>
 let w9:Int:=vg .u32 e8 (V8 .u32 (V8 .u32 r3 r4) (Jk e1 3))
 .chk (qp (v.2 - 7)) <|
 .chk (0≤(v.2 - 7)∧(v.2 - 7) < ((v.1.length:Nat):Int)) <|
 .bind (jy v.1 v.1.length ((v.2 - 7).toNat)) fun e10=>
 .chk (zU v.1.length v.1.length ((v.1++[vg .u32 (vg .u32 w9 e10) w7]).length) 4) <|
 .chk (qp (v.2 + 1)) <|
 .ret (.inl (v.1++[vg .u32 (vg .u32 w9 e10) w7],v.2 + 1))) <|
 .ret (.inr (v.1,v.2,decide (v.2 < ((64:Int)))))
def qeG (N n:Nat) (f:VM) (v:Zk):Option vO:=qQ (Za N) some n v
theorem qn1 (N:Nat) (f:VM) (n:Nat) (v:Zk) (y:vO) (h:qeG N n f v=some y):LG Tryz.prog Vm 105 (qE qkq 7) (qn9 f v) (Ze f y):=
 zj qk (E:=qaK N) (L:=qJ (qn5 N)) (st:=Ze f) (g:=some) (R:=Ze f) (KF N) (qt (by kernel_rfl) trivial) (rg0 (by kernel_rfl)) (fun v=>by kernel_rfl) (qP (st:=Ze f) fun y=>by rfl) n v y h
def qat (N:Nat) (o_7:List Int) (s5_7:Int):Option vO:=qeG N N () (o_7,s5_7)
def qeI (N:Nat):qw:=smL qeJ [(.sl 1 (.i .u32)),(.i .i64)] vO (fun x=>qat N x.1 x.2.1) cs1 fun x=>Ze ()
theorem qnr (N:Nat):zZ Tryz.prog Vm 105 (qE qkq 7) (qeI N):=zp fun x z h=>qn1 N () N (x.1,x.2.1) z h
def quz (z:List Int):TV×THp:=(.tv (.sl 1 (.i .u32)) z,[])
def qbi (N:Nat) (a0:List UInt8):Tree (List Int):=
 .bind (zV [(([]:List Int).length,0)] (JB N a0 [] 0)) fun z1=>
 .bind (zV [(z1.1.length,z1.1.length)] (qat N z1.1 16)) fun z2=>
 .chk (z2.1.length=z2.1.length) <|
 .ret z2.1
def Y8 (N:Nat) (a0:List UInt8):Option (List Int):=(qbi N a0).run some
def qtW (N:Nat):List (Nat×qw):=[(3,qeV N),(7,qeI N)]
def qiw (N:Nat):Ent:=smF ⟨105,[],[.x .bl],[],[]⟩ [.bl] (List Int) (fun x=>Y8 N x.1) cs1 fun _=>quz
theorem qsi (N:Nat):zf Tryz.prog (qiw N):=
 zd (H:=Vm) (L:=qJ (qtW N)) (ts:=[.bl]) (T:=fun x=>qbi N x.1) 0 qPJ (KF N) (qt (by kernel_rfl) ⟨qne N,qnr N,trivial⟩) (rg0 (by kernel_rfl)) fun x=>by kernel_rfl
noncomputable def qQB:Code:=Tryz.f107.body.getD .skip
theorem qQj:FnF Tryz.prog 107 Tryz.f107 qQB:=⟨qk,by kernel_rfl,by kernel_rfl,by kernel_rfl⟩
def qCA:TH:={ live:=[(1,[0])] }
def qCj (N:Nat):List Ent:=[]
theorem qy5 (N:Nat):qU Tryz.prog (qCj N):=trivial
def qBD (z:Unit):TV×THp:=(.tv (.sl 1 (.i .u32)) ([1116352408,1899447441,3049323471,3921009573,961987163,1508970993,2453635748,2870763221,3624381080,310598401,607225278,1426881987,1925078388,2162078206,2614888103,3248222580,3835390401,4022224774,264347078,604807628,770255983,1249150122,1555081692,1996064986,2554220882,2821834349,2952996808,3210313671,3336571891,3584528711,113926993,338241895,666307205,773529912,1294757372,1396182291,1695183700,1986661051,2177026350,2456956037,2730485921,2820302411,3259730800,3345764771,3516065817,3600352804,4094571909,275423344,430227734,506948616,659060556,883997877,958139571,1322822218,1537002063,1747873779,1955562222,2024104815,2227730452,2361852424,2428436474,2756734187,3204031479,3329325298]:List Int),[])
def qm1:Tree (Unit):=
 .ret ()
def qev:Option (Unit):=(qm1).run some
def qCs:List (Nat×qw):=[]
def qnR:Ent:=smF ⟨107,[],[],[],[]⟩ [] (Unit) (fun x=>qev) cs1 fun _=>qBD
theorem qzJ:zf Tryz.prog (qnR):=
 zd (H:=qCA) (L:=qJ (qCs)) (ts:=[]) (T:=fun x=>qm1) 0 qQj (qy5 0) (qt (by kernel_rfl) trivial) (rg0 (by kernel_rfl)) fun x=>by kernel_rfl
noncomputable def Ww:Code:=Tryz.f81.body.getD .skip
theorem qSI:FnF Tryz.prog 81 Tryz.f81 Ww:=⟨qk,by kernel_rfl,by kernel_rfl,by kernel_rfl⟩
def ji:TH:={ live:=[(0,[0,2]),(1,[0,2,3]),(2,[2,3,4]),(3,[2,3,4,5]),(4,[2,3,4,5,24]),(5,[2,3,4,5]),(6,[2,3,4,5,6]),(7,[2,3,4,5,6,7]),(8,[2,3,4,5,6,7,8]),(9,[2,3,4,5,6,7,8,36]),(10,[2,3,4,5,6,7,8]),(11,[2,3,4,5,6,7,8,9]),(12,[2,3,4,5,6,7,8,9,10]),(13,[2,3,4,5,6,7,8,9,10,11]),(14,[2,3,4,5,6,7,8,9,10,11,12]),(15,[2,3,4,5,6,7,8]),(16,[2,3,4,5,7,13]),(17,[2,3,4,5,7,13,132]),(18,[2,3,4,5,7,13]),(19,[2,3,4,5,7,13]),(20,[2,3,14]),(21,[2,3,14,15]),(22,[2,3,14,15,149]),(23,[2,3,14,15]),(24,[2,3,14,15,16]),(25,[2,3,14,15,16,17]),(26,[2,3,14,15,16,17,160]),(27,[2,3,14,15,16,17]),(28,[2,3,14,15,16,17]),(29,[2,3,14,15]),(30,[2])],vecs:=[18] }
def QZ (N:Nat):List Ent:=[qf3 N,qiw N,qaa,qnR]
theorem vV (N:Nat):qU Tryz.prog (QZ N):=⟨qof N,qsi N,qfw,qzJ,trivial⟩
abbrev jF:=List Int×List Int×Vector UInt8 32×Nat×List UInt8×Int×List Int
abbrev jk:=List Int×Int×Bool
def jG (f:jF) (y:jk):Ex×TSt:=(.exit 2,⟨0,171,[],[(2,.p 20 [] 0),(3,.v 180 f.2.2.2.1),(4,.tv .bl f.2.2.2.2.1),(5,xi f.2.2.2.2.2.1),(6,.tv (.sl 1 (.i .u32)) f.2.2.2.2.2.2),(7,.tv (.sl 1 (.i .u32)) (y.1:List Int)),(8,xi y.2.1),(36,xb y.2.2)],[(20,.cell false (.tv (.ba 32) f.2.2.1)),(180,.vec false 1 (.sl 1 (.i .u32)) f.1)],false,[]⟩)
def qgW (N:Nat):List (Nat×qw):=[]
abbrev vH:=List Int×Int
def qnn:SP:=⟨0,171,[],[(2,.k (.p 20 [] 0)),(3,.v 180),(4,.x .bl),(5,.x (.i .i64)),(6,.x (.sl 1 (.i .u32))),(7,.x (.sl 1 (.i .u32))),(8,.x (.i .i64))],[(20,.cell false (.x (.ba 32))),(180,.vec false 1)],false,[]⟩
def qd_ (f:jF) (v:vH):TSt:=zq qnn [dv (.sl 1 (.i .u32)) f.1,dv (.ba 32) f.2.2.1,dv .nat f.2.2.2.1,dv .bl f.2.2.2.2.1,dv (.i .i64) f.2.2.2.2.2.1,dv (.sl 1 (.i .u32)) f.2.2.2.2.2.2,dv (.sl 1 (.i .u32)) v.1,dv (.i .i64) v.2]
def jU (N:Nat) (o_9:List Int) (o_9_2:List Int) (o_9_3:Vector UInt8 32) (s3_9:Nat) (s4_9:List UInt8) (s5_9:Int) (s6_9:List Int) (v:vH):Tree (vH⊕jk):=
 .cond (decide (v.2 < ((64:Int)))) (
 .bind (qM v.1 4) fun e1=>
 .bind (qM v.1 0) fun e2=>
 .bind (qM v.1 7) fun e3=>
 .bind (ze e1 6) fun r4=>
 .bind (ze e1 11) fun r5=>
 .bind (ze e1 25) fun r6=>
 let w7:Int:=vg .u32 e3 (V8 .u32 (V8 .u32 r4 r5) r6)
 .bind (qM v.1 5) fun e8=>
 .bind (qM v.1 6) fun e9=>
 let w10:Int:=KC .u32 (qpY .u32 ((4294967295:Int)) e1) e9
 let w11:Int:=vg .u32 w7 (uOr .u32 (KC .u32 e1 e8) w10)
 .bind (qev) fun r12=>
 .bind (qM ([1116352408,1899447441,3049323471,3921009573,961987163,1508970993,2453635748,2870763221,3624381080,310598401,607225278,1426881987,1925078388,2162078206,2614888103,3248222580,3835390401,4022224774,264347078,604807628,770255983,1249150122,1555081692,1996064986,2554220882,2821834349,2952996808,3210313671,3336571891,3584528711,113926993,338241895,666307205,773529912,1294757372,1396182291,1695183700,1986661051,2177026350,2456956037,2730485921,2820302411,3259730800,3345764771,3516065817,3600352804,4094571909,275423344,430227734,506948616,659060556,883997877,958139571,1322822218,1537002063,1747873779,1955562222,2024104815,2227730452,2361852424,2428436474,2756734187,3204031479,3329325298]:List Int) v.2) fun e13=>
 .bind (qM s6_9 v.2) fun e14=>
 .bind (ze e2 2) fun r15=>
 .bind (ze e2 13) fun r16=>
 .bind (ze e2 22) fun r17=>
 .bind (qM v.1 1) fun e18=>
 .bind (qM v.1 2) fun e19=>
 let w20:Int:=uOr .u32 (KC .u32 e2 e18) (KC .u32 e2 e19)
 .bind (qM v.1 1) fun e21=>
 .bind (qM v.1 2) fun e22=>
 let w23:Int:=vg .u32 (V8 .u32 (V8 .u32 r15 r16) r17) (uOr .u32 w20 (KC .u32 e21 e22))
 let w24:Int:=vg .u32 (vg .u32 (vg .u32 w11 e13) e14) w23
 .bind (qM v.1 1) fun e25=>
 .bind (qM v.1 2) fun e26=>
 .bind (qM v.1 3) fun e27=>
 let w28:Int:=vg .u32 e27 (vg .u32 (vg .u32 w11 e13) e14)
 .bind (qM v.1 5) fun e29=>
 .bind (qM v.1 6) fun e30=>
 .chk (qp (v.2 + 1)) <|
 .ret (.inl ([w24,e2,e25,e26,w28,e1,e29,e30],v.2 + 1))) <|
 .ret (.inr (v.1,v.2,decide (v.2 < ((64:Int)))))
def qds (N n:Nat) (f:jF) (v:vH):Option jk:=qQ (jU N f.1 f.2.1 f.2.2.1 f.2.2.2.1 f.2.2.2.2.1 f.2.2.2.2.2.1 f.2.2.2.2.2.2) some n v
theorem qnG (N:Nat) (f:jF) (n:Nat) (v:vH) (y:jk) (h:qds N n f v=some y):LG Tryz.prog ji 81 (qE (qE Ww 4) 9) (qd_ f v) (jG f y):=
 zj qk (E:=QZ N) (L:=qJ (qgW N)) (st:=jG f) (g:=some) (R:=jG f) (vV N) (qt (by kernel_rfl) trivial) (rg0 (by kernel_rfl)) (fun v=>by kernel_rfl) (qP (st:=jG f) fun y=>by rfl) n v y h
abbrev JI:=Unit
def qhj:SP:=⟨0,171,[],[(2,.k (.p 20 [] 0)),(3,.v 180),(4,.x .bl),(5,.x (.i .i64)),(6,.x (.sl 1 (.i .u32))),(7,.vs 340),(8,.k (.ic .i64 0))],[(20,.cell false (.x (.ba 32))),(180,.vec false 1),(340,.vec false 1)],false,[]⟩
def qsp (f:jF) (v:JI):TSt:=zq qhj [dv (.sl 1 (.i .u32)) f.1,dv (.sl 1 (.i .u32)) f.2.1,dv (.ba 32) f.2.2.1,dv .nat f.2.2.2.1,dv .bl f.2.2.2.2.1,dv (.i .i64) f.2.2.2.2.2.1,dv (.sl 1 (.i .u32)) f.2.2.2.2.2.2]
abbrev qaC:=vH⊕jk
def Js (N:Nat) (o_9:List Int) (o_9_2:List Int) (o_9_3:Vector UInt8 32) (s3_9:Nat) (s4_9:List UInt8) (s5_9:Int) (s6_9:List Int) (v:JI):Tree (JI⊕qaC):=
 .chk (0≤(4:Int)∧(4:Int) < ((o_9_2.length:Nat):Int)) <|
 .bind (jy o_9_2 o_9_2.length 4) fun e1=>
 .chk (0≤(0:Int)∧(0:Int) < ((o_9_2.length:Nat):Int)) <|
 .bind (jy o_9_2 o_9_2.length 0) fun e2=>
 .chk (0≤(7:Int)∧(7:Int) < ((o_9_2.length:Nat):Int)) <|
 .bind (jy o_9_2 o_9_2.length 7) fun e3=>
 .bind (ze e1 6) fun r4=>
 .bind (ze e1 11) fun r5=>
 .bind (ze e1 25) fun r6=>
 let w7:Int:=vg .u32 e3 (V8 .u32 (V8 .u32 r4 r5) r6)
 .chk (0≤(5:Int)∧(5:Int) < ((o_9_2.length:Nat):Int)) <|
 .bind (jy o_9_2 o_9_2.length 5) fun e8=>
 .chk (0≤(6:Int)∧(6:Int) < ((o_9_2.length:Nat):Int)) <|
 .bind (jy o_9_2 o_9_2.length 6) fun e9=>
 let w10:Int:=KC .u32 (qpY .u32 ((4294967295:Int)) e1) e9
 let w11:Int:=vg .u32 w7 (uOr .u32 (KC .u32 e1 e8) w10)
 .bind (qev) fun r12=>
 .bind (qM ([1116352408,1899447441,3049323471,3921009573,961987163,1508970993,2453635748,2870763221,3624381080,310598401,607225278,1426881987,1925078388,2162078206,2614888103,3248222580,3835390401,4022224774,264347078,604807628,770255983,1249150122,1555081692,1996064986,2554220882,2821834349,2952996808,3210313671,3336571891,3584528711,113926993,338241895,666307205,773529912,1294757372,1396182291,1695183700,1986661051,2177026350,2456956037,2730485921,2820302411,3259730800,3345764771,3516065817,3600352804,4094571909,275423344,430227734,506948616,659060556,883997877,958139571,1322822218,1537002063,1747873779,1955562222,2024104815,2227730452,2361852424,2428436474,2756734187,3204031479,3329325298]:List Int) 0) fun e13=>
 .bind (qM s6_9 0) fun e14=>
 .bind (ze e2 2) fun r15=>
 .bind (ze e2 13) fun r16=>
 .bind (ze e2 22) fun r17=>
 .chk (0≤(1:Int)∧(1:Int) < ((o_9_2.length:Nat):Int)) <|
 .bind (jy o_9_2 o_9_2.length 1) fun e18=>
 .chk (0≤(2:Int)∧(2:Int) < ((o_9_2.length:Nat):Int)) <|
 .bind (jy o_9_2 o_9_2.length 2) fun e19=>
 let w20:Int:=uOr .u32 (KC .u32 e2 e18) (KC .u32 e2 e19)
 .chk (0≤(1:Int)∧(1:Int) < ((o_9_2.length:Nat):Int)) <|
 .bind (jy o_9_2 o_9_2.length 1) fun e21=>
 .chk (0≤(2:Int)∧(2:Int) < ((o_9_2.length:Nat):Int)) <|
 .bind (jy o_9_2 o_9_2.length 2) fun e22=>
 let w23:Int:=vg .u32 (V8 .u32 (V8 .u32 r15 r16) r17) (uOr .u32 w20 (KC .u32 e21 e22))
 let w24:Int:=vg .u32 (vg .u32 (vg .u32 w11 e13) e14) w23
 .chk (0≤(1:Int)∧(1:Int) < ((o_9_2.length:Nat):Int)) <|
 .bind (jy o_9_2 o_9_2.length 1) fun e25=>
 .chk (0≤(2:Int)∧(2:Int) < ((o_9_2.length:Nat):Int)) <|
 .bind (jy o_9_2 o_9_2.length 2) fun e26=>
 .chk (0≤(3:Int)∧(3:Int) < ((o_9_2.length:Nat):Int)) <|
 .bind (jy o_9_2 o_9_2.length 3) fun e27=>
 let w28:Int:=vg .u32 e27 (vg .u32 (vg .u32 w11 e13) e14)
 .chk (0≤(5:Int)∧(5:Int) < ((o_9_2.length:Nat):Int)) <|
 .bind (jy o_9_2 o_9_2.length 5) fun e29=>
 .chk (0≤(6:Int)∧(6:Int) < ((o_9_2.length:Nat):Int)) <|
 .bind (jy o_9_2 o_9_2.length 6) fun e30=>
 .ret (.inr (.inl ([w24,e2,e25,e26,w28,e1,e29,e30],1)))
def qaB (N n:Nat) (f:jF):qaC→Option jk
 | .inl w=>qds N n f w
 | .inr w=>some w
def qsa (f:jF):qaC→Ex×TSt
 | .inl w=>(.normal,qd_ f w)
 | .inr w=>jG f w
def qhH (N n:Nat) (f:jF) (v:JI):Option jk:=qQ (Js N f.1 f.2.1 f.2.2.1 f.2.2.2.1 f.2.2.2.2.1 f.2.2.2.2.2.1 f.2.2.2.2.2.2) (qaB N n f) n v
theorem qr4 (N:Nat) (f:jF) (n:Nat) (v:JI) (y:jk) (h:qhH N n f v=some y):LG Tryz.prog ji 81 (qE (qE Ww 4) 9) (qsp f v) (jG f y):=
 zj qk (E:=QZ N) (L:=qJ (qgW N)) (st:=qsa f) (g:=(qaB N n f)) (R:=jG f) (vV N) (qt (by kernel_rfl) trivial) (rg0 (by kernel_rfl)) (fun v=>by kernel_rfl) (fun w y h=>by
 rcases w with w | w
 ·exact qnG N f n w y h
 ·exact qP (st:=jG f) (fun y=>by rfl) w y h
) n v y h
def Yx (N:Nat) (o_9:List Int) (o_9_2:List Int) (o_9_3:Vector UInt8 32) (s3_9:Nat) (s4_9:List UInt8) (s5_9:Int) (s6_9:List Int):Option jk:=qhH N N (o_9,o_9_2,o_9_3,s3_9,s4_9,s5_9,s6_9) ()
def qg0 (N:Nat):qw:=smL qhj [(.sl 1 (.i .u32)),(.sl 1 (.i .u32)),(.ba 32),.nat,.bl,(.i .i64),(.sl 1 (.i .u32))] jk (fun x=>Yx N x.1 x.2.1 x.2.2.1 x.2.2.2.1 x.2.2.2.2.1 x.2.2.2.2.2.1 x.2.2.2.2.2.2.1) cs1 fun x=>jG (x.1,x.2.1,x.2.2.1,x.2.2.2.1,x.2.2.2.2.1,x.2.2.2.2.2.1,x.2.2.2.2.2.2.1)
theorem qqi (N:Nat):zZ Tryz.prog ji 81 (qE (qE Ww 4) 9) (qg0 N):=zp fun x z h=>qr4 N (x.1,x.2.1,x.2.2.1,x.2.2.2.1,x.2.2.2.2.1,x.2.2.2.2.2.1,x.2.2.2.2.2.2.1) N () z h
abbrev XA:=Vector UInt8 32×Nat×List UInt8×Int×List Int
abbrev Qo:=List Int×Int×Bool
def ZR (f:XA) (y:Qo):Ex×TSt:=(.exit 4,⟨0,171,[],[(2,.p 20 [] 0),(3,.v 180 f.2.1),(4,.tv .bl f.2.2.1),(5,xi f.2.2.2.1),(7,.tv (.sl 1 (.i .u32)) f.2.2.2.2),(13,xi y.2.1),(132,xb y.2.2)],[(20,.cell false (.tv (.ba 32) f.1)),(180,.vec false 1 (.sl 1 (.i .u32)) (y.1:List Int))],false,[]⟩)
def qpr (N:Nat):List (Nat×qw):=[]
abbrev ZM:=List Int×Int
def qfx:SP:=⟨0,171,[],[(2,.k (.p 20 [] 0)),(3,.v 180),(4,.x .bl),(5,.x (.i .i64)),(7,.x (.sl 1 (.i .u32))),(13,.x (.i .i64))],[(20,.cell false (.x (.ba 32))),(180,.vec false 1)],false,[]⟩
def qqd (f:XA) (v:ZM):TSt:=zq qfx [dv (.sl 1 (.i .u32)) v.1,dv (.ba 32) f.1,dv .nat f.2.1,dv .bl f.2.2.1,dv (.i .i64) f.2.2.2.1,dv (.sl 1 (.i .u32)) f.2.2.2.2,dv (.i .i64) v.2]
def XD (N:Nat) (o_17_2:Vector UInt8 32) (s3_17:Nat) (s4_17:List UInt8) (s5_17:Int) (s7_17:List Int) (v:ZM):Tree (ZM⊕Qo):=
 .cond (decide (v.2 < ((8:Int)))) (
 .chk (0≤v.2∧v.2 < ((s3_17:Nat):Int)) <|
 .bind (jy v.1 s3_17 v.2.toNat) fun e1=>
 .bind (qM s7_17 v.2) fun e2=>
 .chk (0≤v.2∧v.2 < ((s3_17:Nat):Int)) <|
 .chk (qkc v.1.length s3_17 v.2.toNat) <|
 .chk (qp (v.2 + 1)) <|
 .ret (.inl (v.1.set v.2.toNat (vg .u32 e1 e2),v.2 + 1))) <|
 .ret (.inr (v.1,v.2,decide (v.2 < ((8:Int)))))
def qfU (N n:Nat) (f:XA) (v:ZM):Option Qo:=qQ (XD N f.1 f.2.1 f.2.2.1 f.2.2.2.1 f.2.2.2.2) some n v
theorem qq3 (N:Nat) (f:XA) (n:Nat) (v:ZM) (y:Qo) (h:qfU N n f v=some y):LG Tryz.prog ji 81 (qE (qE Ww 4) 17) (qqd f v) (ZR f y):=
 zj qk (E:=QZ N) (L:=qJ (qpr N)) (st:=ZR f) (g:=some) (R:=ZR f) (vV N) (qt (by kernel_rfl) trivial) (rg0 (by kernel_rfl)) (fun v=>by kernel_rfl) (qP (st:=ZR f) fun y=>by rfl) n v y h
def qbh (N:Nat) (o_17_2:Vector UInt8 32) (s3_17:Nat) (s4_17:List UInt8) (s5_17:Int) (s7_17:List Int) (o_17:List Int) (s13_17:Int):Option Qo:=qfU N N (o_17_2,s3_17,s4_17,s5_17,s7_17) (o_17,s13_17)
def qfy (N:Nat):qw:=smL qfx [(.sl 1 (.i .u32)),(.ba 32),.nat,.bl,(.i .i64),(.sl 1 (.i .u32)),(.i .i64)] Qo (fun x=>qbh N x.2.1 x.2.2.1 x.2.2.2.1 x.2.2.2.2.1 x.2.2.2.2.2.1 x.1 x.2.2.2.2.2.2.1) cs1 fun x=>ZR (x.2.1,x.2.2.1,x.2.2.2.1,x.2.2.2.2.1,x.2.2.2.2.2.1)
theorem qoo (N:Nat):zZ Tryz.prog ji 81 (qE (qE Ww 4) 17) (qfy N):=zp fun x z h=>qq3 N (x.2.1,x.2.2.1,x.2.2.2.1,x.2.2.2.2.1,x.2.2.2.2.2.1) N (x.1,x.2.2.2.2.2.2.1) z h
abbrev Wa:=Vector UInt8 32×Nat×List UInt8
abbrev QO:=List Int×Int×Bool
def Jw (f:Wa) (y:QO):Ex×TSt:=(.exit 0,⟨0,171,[],[(2,.p 20 [] 0),(3,.v 180 f.2.1),(4,.tv .bl f.2.2),(5,xi y.2.1),(24,xb y.2.2)],[(20,.cell false (.tv (.ba 32) f.1)),(180,.vec false 1 (.sl 1 (.i .u32)) (y.1:List Int))],false,[]⟩)
def qsA (N:Nat):List (Nat×qw):=[(9,qg0 N),(17,qfy N)]
abbrev JP:=List Int×Int
def qgV:SP:=⟨0,171,[],[(2,.k (.p 20 [] 0)),(3,.v 180),(4,.x .bl),(5,.x (.i .i64))],[(20,.cell false (.x (.ba 32))),(180,.vec false 1)],false,[]⟩
def qsG (f:Wa) (v:JP):TSt:=zq qgV [dv (.sl 1 (.i .u32)) v.1,dv (.ba 32) f.1,dv .nat f.2.1,dv .bl f.2.2,dv (.i .i64) v.2]
def Wl (N:Nat) (o_4_2:Vector UInt8 32) (s3_4:Nat) (s4_4:List UInt8) (v:JP):Tree (JP⊕QO):=
 .cond (decide (v.2 < ((s4_4.length:Nat):Int))) (
 .chk (qp (v.2 + 64)) <|
 .chk (0≤v.2∧v.2≤(v.2 + 64)∧(v.2 + 64)≤((s4_4.length:Nat):Int)) <|
 .bind (Y8 N ((s4_4.take ((v.2 + 64).toNat)).drop v.2.toNat)) fun r1=>
 .chk (v.1.length=s3_4) <|
 .chk (qhY v.1.length 4) <|
 .bind (zV [(v.1.length,v.1.length)] (Yx N v.1 v.1 o_4_2 s3_4 s4_4 v.2 r1)) fun z2=>
 .bind (qbh N o_4_2 s3_4 s4_4 v.2 z2.1 v.1 0) fun z3=>
 .chk (qp (v.2 + 64)) <|
 .ret (.inl (z3.1,v.2 + 64))) <|
 .ret (.inr (v.1,v.2,decide (v.2 < ((s4_4.length:Nat):Int))))
def qhy (N n:Nat) (f:Wa) (v:JP):Option QO:=qQ (Wl N f.1 f.2.1 f.2.2) some n v
theorem qrD (N:Nat) (f:Wa) (n:Nat) (v:JP) (y:QO) (h:qhy N n f v=some y):LG Tryz.prog ji 81 (qE Ww 4) (qsG f v) (Jw f y):=
 zj qk (E:=QZ N) (L:=qJ (qsA N)) (st:=Jw f) (g:=some) (R:=Jw f) (vV N) (qt (by kernel_rfl) ⟨qqi N,qoo N,trivial⟩) (rg0 (by kernel_rfl)) (fun v=>by kernel_rfl) (qP (st:=Jw f) fun y=>by rfl) n v y h
def qcp (N:Nat) (o_4_2:Vector UInt8 32) (s3_4:Nat) (s4_4:List UInt8) (o_4:List Int) (s5_4:Int):Option QO:=qhy N N (o_4_2,s3_4,s4_4) (o_4,s5_4)
def qhf (N:Nat):qw:=smL qgV [(.sl 1 (.i .u32)),(.ba 32),.nat,.bl,(.i .i64)] QO (fun x=>qcp N x.2.1 x.2.2.1 x.2.2.2.1 x.1 x.2.2.2.2.1) cs1 fun x=>Jw (x.2.1,x.2.2.1,x.2.2.2.1)
theorem qqj (N:Nat):zZ Tryz.prog ji 81 (qE Ww 4) (qhf N):=zp fun x z h=>qrD N (x.2.1,x.2.2.1,x.2.2.2.1) N (x.1,x.2.2.2.2.1) z h
abbrev XB:=List Int×Vector UInt8 32×Vector UInt8 32×Nat×Int
abbrev Qb:=Int×Int×Bool
def ZP (f:XB) (y:Qb):Ex×TSt:=(.exit 8,⟨0,171,[],[(2,.p 20 [] 0),(3,.v 180 f.2.2.2.1),(14,.p 140 [] 0),(15,xi f.2.2.2.2),(16,.tv (.i .u32) (y.1:Int)),(17,xi y.2.1),(160,xb y.2.2)],[(20,.cell false (.tv (.ba 32) f.2.1)),(140,.cell false (.tv (.ba 32) f.2.2.1)),(180,.vec false 1 (.sl 1 (.i .u32)) f.1)],false,[]⟩)
def qpp (N:Nat):List (Nat×qw):=[]
abbrev Z2:=Int×Int
def qfq:SP:=⟨0,171,[],[(2,.k (.p 20 [] 0)),(3,.v 180),(14,.k (.p 140 [] 0)),(15,.x (.i .i64)),(16,.x (.i .u32)),(17,.x (.i .i64))],[(20,.cell false (.x (.ba 32))),(140,.cell false (.x (.ba 32))),(180,.vec false 1)],false,[]⟩
def qqS (f:XB) (v:Z2):TSt:=zq qfq [dv (.sl 1 (.i .u32)) f.1,dv (.ba 32) f.2.1,dv (.ba 32) f.2.2.1,dv .nat f.2.2.2.1,dv (.i .i64) f.2.2.2.2,dv (.i .u32) v.1,dv (.i .i64) v.2]
def Xz (N:Nat) (o_26:List Int) (o_26_2:Vector UInt8 32) (o_26_3:Vector UInt8 32) (s3_26:Nat) (s15_26:Int) (v:Z2):Tree (Z2⊕Qb):=
 .cond (decide (v.2 < ((3:Int)))) (
 .chk ((256:Int)≠0) <|
 .chk (qp (v.2 + 1)) <|
 .ret (.inl (IntKind.u32.wrap (v.1.tdiv 256),v.2 + 1))) <|
 .ret (.inr (v.1,v.2,decide (v.2 < ((3:Int)))))
def qfB (N n:Nat) (f:XB) (v:Z2):Option Qb:=qQ (Xz N f.1 f.2.1 f.2.2.1 f.2.2.2.1 f.2.2.2.2) some n v
theorem qqU (N:Nat) (f:XB) (n:Nat) (v:Z2) (y:Qb) (h:qfB N n f v=some y):LG Tryz.prog ji 81 (qE (qE Ww 22) 26) (qqS f v) (ZP f y):=
 zj qk (E:=QZ N) (L:=qJ (qpp N)) (st:=ZP f) (g:=some) (R:=ZP f) (vV N) (qt (by kernel_rfl) trivial) (rg0 (by kernel_rfl)) (fun v=>by kernel_rfl) (qP (st:=ZP f) fun y=>by rfl) n v y h
def qa_ (N:Nat) (o_26:List Int) (o_26_2:Vector UInt8 32) (o_26_3:Vector UInt8 32) (s3_26:Nat) (s15_26:Int) (s16_26:Int) (s17_26:Int):Option Qb:=qfB N N (o_26,o_26_2,o_26_3,s3_26,s15_26) (s16_26,s17_26)
def qfH (N:Nat):qw:=smL qfq [(.sl 1 (.i .u32)),(.ba 32),(.ba 32),.nat,(.i .i64),(.i .u32),(.i .i64)] Qb (fun x=>qa_ N x.1 x.2.1 x.2.2.1 x.2.2.2.1 x.2.2.2.2.1 x.2.2.2.2.2.1 x.2.2.2.2.2.2.1) cs1 fun x=>ZP (x.1,x.2.1,x.2.2.1,x.2.2.2.1,x.2.2.2.2.1)
theorem qoz (N:Nat):zZ Tryz.prog ji 81 (qE (qE Ww 22) 26) (qfH N):=zp fun x z h=>qqU N (x.1,x.2.1,x.2.2.1,x.2.2.2.1,x.2.2.2.2.1) N (x.2.2.2.2.2.1,x.2.2.2.2.2.2.1) z h
abbrev XF:=List Int×Vector UInt8 32×Nat
abbrev Qn:=Vector UInt8 32×Int×Bool
def ZU (f:XF) (y:Qn):Ex×TSt:=(.exit 6,⟨0,171,[],[(2,.p 20 [] 0),(3,.v 180 f.2.2),(14,.p 140 [] 0),(15,xi y.2.1),(149,xb y.2.2)],[(20,.cell false (.tv (.ba 32) f.2.1)),(140,.cell false (.tv (.ba 32) (y.1:Vector UInt8 32))),(180,.vec false 1 (.sl 1 (.i .u32)) f.1)],false,[]⟩)
def qpF (N:Nat):List (Nat×qw):=[(26,qfH N)]
abbrev Z8:=Vector UInt8 32×Int
def qfz:SP:=⟨0,171,[],[(2,.k (.p 20 [] 0)),(3,.v 180),(14,.k (.p 140 [] 0)),(15,.x (.i .i64))],[(20,.cell false (.x (.ba 32))),(140,.cell false (.x (.ba 32))),(180,.vec false 1)],false,[]⟩
def qq7 (f:XF) (v:Z8):TSt:=zq qfz [dv (.sl 1 (.i .u32)) f.1,dv (.ba 32) f.2.1,dv (.ba 32) v.1,dv .nat f.2.2,dv (.i .i64) v.2]
def Xj (N:Nat) (o_22:List Int) (o_22_2:Vector UInt8 32) (s3_22:Nat) (v:Z8):Tree (Z8⊕Qn):=
 .cond (decide (v.2 < ((32:Int)))) (
 .chk ((4:Int)≠0) <|
 .chk (qp (v.2.tdiv 4)) <|
 .chk (0≤(v.2.tdiv 4)∧(v.2.tdiv 4) < ((s3_22:Nat):Int)) <|
 .bind (jy o_22 s3_22 ((v.2.tdiv 4).toNat)) fun e1=>
 .chk ((4:Int)≠0) <|
 .bind (qa_ N o_22 o_22_2 v.1 s3_22 v.2 e1 (v.2.tmod 4)) fun z2=>
 .chk ((256:Int)≠0) <|
 .chk (0≤v.2∧v.2 < ((32:Nat):Int)) <|
 .chk (inB (IntKind.u8.wrap (z2.1.tmod 256))) <|
 .chk (v.2.toNat < 32) <|
 .chk (qp (v.2 + 1)) <|
 .ret (.inl (v.1.setIfInBounds v.2.toNat (UInt8.ofNat (IntKind.u8.wrap (z2.1.tmod 256)).toNat),v.2 + 1))) <|
 .ret (.inr (v.1,v.2,decide (v.2 < ((32:Int)))))
def qf5 (N n:Nat) (f:XF) (v:Z8):Option Qn:=qQ (Xj N f.1 f.2.1 f.2.2) some n v
theorem qqY (N:Nat) (f:XF) (n:Nat) (v:Z8) (y:Qn) (h:qf5 N n f v=some y):LG Tryz.prog ji 81 (qE Ww 22) (qq7 f v) (ZU f y):=
 zj qk (E:=QZ N) (L:=qJ (qpF N)) (st:=ZU f) (g:=some) (R:=ZU f) (vV N) (qt (by kernel_rfl) ⟨qoz N,trivial⟩) (rg0 (by kernel_rfl)) (fun v=>by kernel_rfl) (qP (st:=ZU f) fun y=>by rfl) n v y h
def qbx (N:Nat) (o_22:List Int) (o_22_2:Vector UInt8 32) (s3_22:Nat) (o_22_3:Vector UInt8 32) (s15_22:Int):Option Qn:=qf5 N N (o_22,o_22_2,s3_22) (o_22_3,s15_22)
def qff (N:Nat):qw:=smL qfz [(.sl 1 (.i .u32)),(.ba 32),(.ba 32),.nat,(.i .i64)] Qn (fun x=>qbx N x.1 x.2.1 x.2.2.2.1 x.2.2.1 x.2.2.2.2.1) cs1 fun x=>ZU (x.1,x.2.1,x.2.2.2.1)
theorem qn0 (N:Nat):zZ Tryz.prog ji 81 (qE Ww 22) (qff N):=zp fun x z h=>qqY N (x.1,x.2.1,x.2.2.2.1) N (x.2.2.1,x.2.2.2.2.1) z h
def qx0 (z:Vector UInt8 32):TV×THp:=(.tv (.ba 32) z,[])
def qdP (N:Nat) (a0:List UInt8):Tree (Vector UInt8 32):=
 .bind (WX N a0) fun r1=>
 .bind (qcp N ((Vector.replicate 32 0)) 8 r1 [1779033703,3144134277,1013904242,2773480762,1359893119,2600822924,528734635,1541459225] 0) fun z2=>
 .bind (qbx N z2.1 ((Vector.replicate 32 0)) 8 ((Vector.replicate 32 0)) 0) fun z3=>
 .ret z3.1
def qbj (N:Nat) (a0:List UInt8):Option (Vector UInt8 32):=(qdP N a0).run some
def qyL (N:Nat):List (Nat×qw):=[(4,qhf N),(22,qff N)]
def qkm (N:Nat):Ent:=smF ⟨81,[],[.x .bl],[],[]⟩ [.bl] (Vector UInt8 32) (fun x=>qbj N x.1) cs1 fun _=>qx0
theorem qvY (N:Nat):zf Tryz.prog (qkm N):=
 zd (H:=ji) (L:=qJ (qyL N)) (ts:=[.bl]) (T:=fun x=>qdP N x.1) 0 qSI (vV N) (qt (by kernel_rfl) ⟨qqj N,qn0 N,trivial⟩) (rg0 (by kernel_rfl)) fun x=>by kernel_rfl
noncomputable def qSm:Code:=Tryz.f48.body.getD .skip
theorem qT7:FnF Tryz.prog 48 Tryz.f48 qSm:=⟨qk,by kernel_rfl,by kernel_rfl,by kernel_rfl⟩
def qAr:TH:={ live:=[(0,[0,2]),(1,[2])] }
def qz9 (N:Nat):List Ent:=[qkm N]
theorem qvz (N:Nat):qU Tryz.prog (qz9 N):=⟨qvY N,trivial⟩
def qAf (z:Vector UInt8 32):TV×THp:=(.tv (.ba 32) z,[])
def qe1 (N:Nat) (a0:List UInt8):Tree (Vector UInt8 32):=
 .chk (qmH (a0:List UInt8).length) <|
 .bind (qbj N a0) fun r1=>
 .ret r1
def X3 (N:Nat) (a0:List UInt8):Option (Vector UInt8 32):=(qe1 N a0).run some
def qAA (N:Nat):List (Nat×qw):=[]
def qe9 (N:Nat):Ent:=smF ⟨48,[],[.x .s],[],[]⟩ [.s] (Vector UInt8 32) (fun x=>X3 N x.1) cs1 fun _=>qAf
theorem qku (N:Nat):zf Tryz.prog (qe9 N):=
 zd (H:=qAr) (L:=qJ (qAA N)) (ts:=[.s]) (T:=fun x=>qe1 N x.1) 0 qT7 (qvz N) (qt (by kernel_rfl) trivial) (rg0 (by kernel_rfl)) fun x=>by kernel_rfl
noncomputable def qBr:Code:=Tryz.f47.body.getD .skip
theorem qT4:FnF Tryz.prog 47 Tryz.f47 qBr:=⟨qk,by kernel_rfl,by kernel_rfl,by kernel_rfl⟩
def qcH:TH:={ live:=[(0,[2,3]),(1,[2,3,5]),(2,[2,3,5,7]),(3,[2,3,5]),(4,[2,3,5,16]),(5,[4]),(6,[4])] }
def qjk (N:Nat):List Ent:=[]
theorem qgY (N:Nat):qU Tryz.prog (qjk N):=trivial
abbrev Xr:=Vector UInt8 32×Vector UInt8 32
abbrev Qd:=Bool⊕(Int×Bool)
def ZK (f:Xr):Qd→Ex×TSt
 | .inl y=>(.ret,⟨0,24,[],[(4,xb y)],[],false,[]⟩)
 | .inr y=>(.exit 0,⟨0,24,[],[(2,.p 20 [] 0),(3,.p 30 [] 0),(5,xi y.1),(7,xb y.2)],[(20,.cell false (.tv (.ba 32) f.1)),(30,.cell false (.tv (.ba 32) f.2))],false,[]⟩)
def qqZ (N:Nat):List (Nat×qw):=[]
abbrev ZF:=Int
def qf7:SP:=⟨0,24,[],[(2,.k (.p 20 [] 0)),(3,.k (.p 30 [] 0)),(5,.x (.i .i64))],[(20,.cell false (.x (.ba 32))),(30,.cell false (.x (.ba 32)))],false,[]⟩
def qpJ (f:Xr) (v:ZF):TSt:=zq qf7 [dv (.ba 32) f.1,dv (.ba 32) f.2,dv (.i .i64) v]
def ZS (N:Nat) (o_2:Vector UInt8 32) (o_2_2:Vector UInt8 32) (v:ZF):Tree (ZF⊕Qd):=
 .cond (decide (v < ((32:Int)))) (
 .chk (0≤v∧v < ((32:Nat):Int)) <|
 .chk (v.toNat < 32) <|
 .chk (0≤v∧v < ((32:Nat):Int)) <|
 .chk (v.toNat < 32) <|
 .cond (!decide ((((o_2.toList.getD v.toNat 0).toNat:Nat):Int)=(((o_2_2.toList.getD v.toNat 0).toNat:Nat):Int))) (
 .chk (0≤v∧v < ((32:Nat):Int)) <|
 .chk (v.toNat < 32) <|
 .chk (0≤v∧v < ((32:Nat):Int)) <|
 .chk (v.toNat < 32) <|
 .ret (.inr (.inl (decide ((((o_2.toList.getD v.toNat 0).toNat:Nat):Int) < (((o_2_2.toList.getD v.toNat 0).toNat:Nat):Int)))))) <|
 .chk (qp (v + 1)) <|
 .ret (.inl (v + 1))) <|
 .ret (.inr (.inr ((v,decide (v < ((32:Int)))))))
def qfX (N n:Nat) (f:Xr) (v:ZF):Option Qd:=qQ (ZS N f.1 f.2) some n v
theorem qqb (N:Nat) (f:Xr) (n:Nat) (v:ZF) (y:Qd) (h:qfX N n f v=some y):LG Tryz.prog qcH 47 (qE qBr 2) (qpJ f v) (ZK f y):=
 zj qk (E:=qjk N) (L:=qJ (qqZ N)) (st:=ZK f) (g:=some) (R:=ZK f) (qgY N) (qt (by kernel_rfl) trivial) (rg0 (by kernel_rfl)) (fun v=>by kernel_rfl) (qP (st:=ZK f) fun y=>by rcases y with _ | _<;>rfl) n v y h
def qaR (N:Nat) (o_2:Vector UInt8 32) (o_2_2:Vector UInt8 32) (s5_2:Int):Option Qd:=qfX N N (o_2,o_2_2) s5_2
def qf4 (N:Nat):qw:=smL qf7 [(.ba 32),(.ba 32),(.i .i64)] Qd (fun x=>qaR N x.1 x.2.1 x.2.2.1) (csS cs1) fun x=>ZK (x.1,x.2.1)
theorem qod (N:Nat):zZ Tryz.prog qcH 47 (qE qBr 2) (qf4 N):=zp fun x z h=>qqb N (x.1,x.2.1) N x.2.2.1 z h
def qwb (z:Bool):TV×THp:=(xb z,[])
def qcz (N:Nat) (a0:Vector UInt8 32) (a1:Vector UInt8 32):Tree (Bool):=
 .bind (qaR N a0 a1 0) fun z1=>
 .sum z1 (fun z2=>
 .ret z2) fun z2=>
 .ret false
def WD (N:Nat) (a0:Vector UInt8 32) (a1:Vector UInt8 32):Option (Bool):=(qcz N a0 a1).run some
def qwo (N:Nat):List (Nat×qw):=[(2,qf4 N)]
def qb9 (N:Nat):Ent:=smF ⟨47,[],[.x (.ba 32),.x (.ba 32)],[],[]⟩ [(.ba 32),(.ba 32)] (Bool) (fun x=>WD N x.1 x.2.1) cs1 fun _=>qwb
theorem qig (N:Nat):zf Tryz.prog (qb9 N):=
 zd (H:=qcH) (L:=qJ (qwo N)) (ts:=[(.ba 32),(.ba 32)]) (T:=fun x=>qcz N x.1 x.2.1) 0 qT4 (qgY N) (qt (by kernel_rfl) ⟨qod N,trivial⟩) (rg0 (by kernel_rfl)) fun x=>by kernel_rfl
noncomputable def qy1:Code:=Tryz.f144.body.getD .skip
theorem qPS:FnF Tryz.prog 144 Tryz.f144 qy1:=⟨qk,by kernel_rfl,by kernel_rfl,by kernel_rfl⟩
def qch:TH:={ live:=[(0,[2,3]),(1,[2,3,14]),(2,[5]),(3,[4]),(4,[2,3,6]),(5,[2,3,6,7]),(6,[2,3,6,7,29]),(7,[8]),(8,[4]),(9,[2,3,9]),(10,[2,3,9,38]),(11,[2,3,9]),(12,[2,3,9,45]),(13,[4]),(14,[2,3,9,54]),(15,[4]),(16,[4])] }
def qi8 (N:Nat):List Ent:=[vu,qe9 N,qb9 N]
theorem qhs (N:Nat):qU Tryz.prog (qi8 N):=⟨vT,qku N,qig N,trivial⟩
abbrev VO:=qe×qe
abbrev vQ:=Bool⊕(Int×Bool)
def Q_ (f:VO):vQ→Ex×TSt
 | .inl y=>(.ret,⟨0,64,[],[(4,xb y)],[],false,[]⟩)
 | .inr y=>(.exit 0,⟨0,64,[],[(2,.p 20 [] 0),(3,.p 30 [] 0),(9,xi y.1),(38,xb y.2)],[(20,.cell false (.tv qq f.1)),(30,.cell false (.tv qq f.2))],false,[]⟩)
def qn6 (N:Nat):List (Nat×qw):=[]
abbrev Zl:=Int
def qeT:SP:=⟨0,64,[],[(2,.k (.p 20 [] 0)),(3,.k (.p 30 [] 0)),(9,.x (.i .i64))],[(20,.cell false (.x qq)),(30,.cell false (.x qq))],false,[]⟩
def qok (f:VO) (v:Zl):TSt:=zq qeT [dv qq f.1,dv qq f.2,dv (.i .i64) v]
def vN (N:Nat) (o_10:qe) (o_10_2:qe) (v:Zl):Tree (Zl⊕vQ):=
 .cond (decide (v < (((qe.V o_10_2).length:Nat):Int))) (
 .cond (decide ((((qe.V o_10).length:Nat):Int)≤v)) (
 .ret (.inr (.inl true))) <|
 .bind (qM (qe.V o_10) v) fun e1=>
 .bind (qM (qe.V o_10_2) v) fun e2=>
 .cond (!decide (((e1.toNat:Nat):Int)=((e2.toNat:Nat):Int))) (
 .bind (qM (qe.V o_10) v) fun e3=>
 .bind (qM (qe.V o_10_2) v) fun e4=>
 .ret (.inr (.inl (decide (((e3.toNat:Nat):Int) < ((e4.toNat:Nat):Int)))))) <|
 .chk (qp (v + 1)) <|
 .ret (.inl (v + 1))) <|
 .ret (.inr (.inr ((v,decide (v < (((qe.V o_10_2).length:Nat):Int))))))
def qeE (N n:Nat) (f:VO) (v:Zl):Option vQ:=qQ (vN N f.1 f.2) some n v
theorem qoE (N:Nat) (f:VO) (n:Nat) (v:Zl) (y:vQ) (h:qeE N n f v=some y):LG Tryz.prog qch 144 (qE qy1 10) (qok f v) (Q_ f y):=
 zj qk (E:=qi8 N) (L:=qJ (qn6 N)) (st:=Q_ f) (g:=some) (R:=Q_ f) (qhs N) (qt (by kernel_rfl) trivial) (rg0 (by kernel_rfl)) (fun v=>by kernel_rfl) (qP (st:=Q_ f) fun y=>by rcases y with _ | _<;>rfl) n v y h
def qhh (N:Nat) (o_10:qe) (o_10_2:qe) (s9_10:Int):Option vQ:=qeE N N (o_10,o_10_2) s9_10
def qeW (N:Nat):qw:=smL qeT [qq,qq,(.i .i64)] vQ (fun x=>qhh N x.1 x.2.1 x.2.2.1) (csS cs1) fun x=>Q_ (x.1,x.2.1)
theorem qm8 (N:Nat):zZ Tryz.prog qch 144 (qE qy1 10) (qeW N):=zp fun x z h=>qoE N (x.1,x.2.1) N x.2.2.1 z h
def qvX (z:Bool):TV×THp:=(xb z,[])
def qcE (N:Nat) (a0:qe) (a1:qe):Tree (Bool):=
 .cond (!(eqE qh (qe.S a0) (qe.S a1))) (
 .bind (zN (qe.S a0) (qe.S a1)) fun r1=>
 .ret r1) <|
 .bind (X3 N (qe.V a0)) fun r1=>
 .bind (X3 N (qe.V a1)) fun r2=>
 .cond (!(eqE (.ba 32) r1 r2)) (
 .bind (WD N r1 r2) fun r3=>
 .ret r3) <|
 .bind (qhh N a0 a1 0) fun z3=>
 .sum z3 (fun z4=>
 .ret z4) fun z4=>
 .ret false
def KY (N:Nat) (a0:qe) (a1:qe):Option (Bool):=(qcE N a0 a1).run some
def qv4 (N:Nat):List (Nat×qw):=[(10,qeW N)]
def qjq (N:Nat):Ent:=smF ⟨144,[],[.x qq,.x qq],[],[]⟩ [qq,qq] (Bool) (fun x=>KY N x.1 x.2.1) cs1 fun _=>qvX
theorem qs2 (N:Nat):zf Tryz.prog (qjq N):=
 zd (H:=qch) (L:=qJ (qv4 N)) (ts:=[qq,qq]) (T:=fun x=>qcE N x.1 x.2.1) 0 qPS (qhs N) (qt (by kernel_rfl) ⟨qm8 N,trivial⟩) (rg0 (by kernel_rfl)) fun x=>by kernel_rfl
noncomputable def qPI:Code:=Tryz.f131.body.getD .skip
theorem qQO:FnF Tryz.prog 131 Tryz.f131 qPI:=⟨qk,by kernel_rfl,by kernel_rfl,by kernel_rfl⟩
def qv3:TH:={ live:=[(0,[2,3,4]),(1,[2,3,4,5]),(2,[2,3,4,9]),(3,[4]),(4,[4])] }
def qwr (N:Nat):List Ent:=[qjq N]
theorem qsB (N:Nat):qU Tryz.prog (qwr N):=⟨qs2 N,trivial⟩
def qws (z:qe):TV×THp:=(.tv qq z,[])
def qcl (N:Nat) (a0:qe) (a1:qe):Tree (qe):=
 .bind (KY N a0 a1) fun r1=>
 .cond r1 (
 .ret a1) <|
 .ret a0
def KL (N:Nat) (a0:qe) (a1:qe):Option (qe):=(qcl N a0 a1).run some
def qwj (N:Nat):List (Nat×qw):=[]
def qi9 (N:Nat):Ent:=smF ⟨131,[],[.x qq,.x qq],[],[]⟩ [qq,qq] (qe) (fun x=>KL N x.1 x.2.1) cs1 fun _=>qws
theorem quH (N:Nat):zf Tryz.prog (qi9 N):=
 zd (H:=qv3) (L:=qJ (qwj N)) (ts:=[qq,qq]) (T:=fun x=>qcl N x.1 x.2.1) 0 qQO (qsB N) (qt (by kernel_rfl) trivial) (rg0 (by kernel_rfl)) fun x=>by kernel_rfl
noncomputable def qwW:Code:=Tryz.f102.body.getD .skip
theorem qOV:FnF Tryz.prog 102 Tryz.f102 qwW:=⟨qk,by kernel_rfl,by kernel_rfl,by kernel_rfl⟩
def qcy:TH:={ live:=[(0,[2,3,4]),(1,[2,3,4,6]),(2,[2,3,4,6,7]),(3,[2,3,4,31]),(4,[4,5]),(5,[2,3,4,8]),(6,[2,3,4,8,9]),(7,[2,3,4,8,9,42]),(8,[2,3,4,8,9]),(9,[2,3,4,8,9,10,11]),(10,[2,3,4,8,9,10,11,12,13]),(11,[2,3,4,8,9,10,11,12,13,60]),(12,[2,3,4,8,9,10,11,12,13]),(13,[2,3,4,8,9,10,11,12,13,65]),(14,[2,3,4,8,9,10,11,13]),(15,[2,3,4,8,9,10,11,13,14]),(16,[2,3,4,8,9,10,78]),(17,[2,3,4,8,9]),(18,[4,5])],dec:=[21,25,58,73,76],nil:=[(0,[⟨.ob 40 [2],45,(.sl 4 qB)⟩]),(4,[⟨.ob 40 [2],45,(.sl 4 qB)⟩]),(5,[⟨.ob 80 [2],85,(.sl 4 qB)⟩])] }
def qjo (N:Nat):List Ent:=[YW N,qko,qjd N,qi9 N,vu]
theorem qhw (N:Nat):qU Tryz.prog (qjo N):=⟨qci N,qvE,quv N,quH N,vT,trivial⟩
abbrev Xe:=List qd×qa×qa×Vector UInt8 16×qc×Vector UInt8 16×qc
abbrev Qk:=List qd×Int×Bool
def Z1 (f:Xe) (y:Qk):Ex×TSt:=(.exit 0,⟨0,88,[],[(2,.p 20 [] 0),(3,.p 30 [] 0),(4,.p 40 [] 0),(8,.p 80 [] 0),(9,xi y.2.1),(42,xb y.2.2)],[(20,.cell false (.tv qf f.2.1)),(30,.cell false (.tv qf f.2.2.1)),(40,.cell false (.ag [.tv (.ba 16) f.2.2.2.1,.tv qh f.2.2.2.2.1,.v 45 f.1.length])),(45,.vec false 4 (.sl 4 qB) f.1),(80,.cell false (.ag [.tv (.ba 16) f.2.2.2.2.2.1,.tv qh f.2.2.2.2.2.2,.v 85 y.1.length])),(85,.vec false 4 (.sl 4 qB) (y.1:List qd))],false,[]⟩)
def qq8 (N:Nat):List (Nat×qw):=[]
abbrev ZQ:=List qd×Int
def qfv:SP:=⟨0,88,[],[(2,.k (.p 20 [] 0)),(3,.k (.p 30 [] 0)),(4,.k (.p 40 [] 0)),(8,.k (.p 80 [] 0)),(9,.x (.i .i64))],[(20,.cell false (.x qf)),(30,.cell false (.x qf)),(40,.cell false (.ag [.x (.ba 16),.x qh,.vs 45])),(45,.vec false 4),(80,.cell false (.ag [.x (.ba 16),.x qh,.vs 85])),(85,.vec false 4)],false,[]⟩
def qq4 (f:Xe) (v:ZQ):TSt:=zq qfv [dv (.sl 4 qB) f.1,dv (.sl 4 qB) v.1,dv qf f.2.1,dv qf f.2.2.1,dv (.ba 16) f.2.2.2.1,dv qh f.2.2.2.2.1,dv (.ba 16) f.2.2.2.2.2.1,dv qh f.2.2.2.2.2.2,dv (.i .i64) v.2]
def Xp (N:Nat) (o_7:List qd) (o_7_3:qa) (o_7_4:qa) (o_7_5:Vector UInt8 16) (o_7_6:qc) (o_7_7:Vector UInt8 16) (o_7_8:qc) (v:ZQ):Tree (ZQ⊕Qk):=
 .cond (decide (v.2 < ((8:Int)))) (
 .bind (WI N o_7_3 v.2) fun r1=>
 .bind (WI N o_7_4 v.2) fun r2=>
 .cond r1.2 (
 .cond r2.2 (
 .bind (KL N r1.1 r2.1) fun r3=>
 .cond (!r1.2) (
 .bind (zN o_7_8 (qe.S r2.1)) fun r4=>
 .cond r1.2 (
 .cond r4 (
 .chk (zU v.1.length v.1.length ((v.1++[qd.mk v.2 r2.1]).length) 40) <|
 .chk (qp (v.2 + 1)) <|
 .ret (.inl (v.1++[qd.mk v.2 r2.1],v.2 + 1))) <|
 .chk (qp (v.2 + 1)) <|
 .ret (.inl (v.1,v.2 + 1))) <|
 .cond r2.2 (
 .cond r4 (
 .chk (zU v.1.length v.1.length ((v.1++[qd.mk v.2 r2.1]).length) 40) <|
 .chk (qp (v.2 + 1)) <|
 .ret (.inl (v.1++[qd.mk v.2 r2.1],v.2 + 1))) <|
 .chk (qp (v.2 + 1)) <|
 .ret (.inl (v.1,v.2 + 1))) <|
 .chk (qp (v.2 + 1)) <|
 .ret (.inl (v.1,v.2 + 1))) <|
 .bind (zN o_7_8 (qe.S r3)) fun r4=>
 .cond r1.2 (
 .cond r4 (
 .chk (zU v.1.length v.1.length ((v.1++[qd.mk v.2 r3]).length) 40) <|
 .chk (qp (v.2 + 1)) <|
 .ret (.inl (v.1++[qd.mk v.2 r3],v.2 + 1))) <|
 .chk (qp (v.2 + 1)) <|
 .ret (.inl (v.1,v.2 + 1))) <|
 .cond r2.2 (
 .cond r4 (
 .chk (zU v.1.length v.1.length ((v.1++[qd.mk v.2 r3]).length) 40) <|
 .chk (qp (v.2 + 1)) <|
 .ret (.inl (v.1++[qd.mk v.2 r3],v.2 + 1))) <|
 .chk (qp (v.2 + 1)) <|
 .ret (.inl (v.1,v.2 + 1))) <|
 .chk (qp (v.2 + 1)) <|
 .ret (.inl (v.1,v.2 + 1))) <|
 .cond (!r1.2) (
 .bind (zN o_7_8 (qe.S r2.1)) fun r3=>
 .cond r1.2 (
 .cond r3 (
 .chk (zU v.1.length v.1.length ((v.1++[qd.mk v.2 r2.1]).length) 40) <|
 .chk (qp (v.2 + 1)) <|
 .ret (.inl (v.1++[qd.mk v.2 r2.1],v.2 + 1))) <|
 .chk (qp (v.2 + 1)) <|
 .ret (.inl (v.1,v.2 + 1))) <|
 .cond r2.2 (
 .cond r3 (
 .chk (zU v.1.length v.1.length ((v.1++[qd.mk v.2 r2.1]).length) 40) <|
 .chk (qp (v.2 + 1)) <|
 .ret (.inl (v.1++[qd.mk v.2 r2.1],v.2 + 1))) <|
 .chk (qp (v.2 + 1)) <|
 .ret (.inl (v.1,v.2 + 1))) <|
 .chk (qp (v.2 + 1)) <|
 .ret (.inl (v.1,v.2 + 1))) <|
 .bind (zN o_7_8 (qe.S r1.1)) fun r3=>
 .cond r1.2 (
 .cond r3 (
 .chk (zU v.1.length v.1.length ((v.1++[qd.mk v.2 r1.1]).length) 40) <|
 .chk (qp (v.2 + 1)) <|
 .ret (.inl (v.1++[qd.mk v.2 r1.1],v.2 + 1))) <|
 .chk (qp (v.2 + 1)) <|
 .ret (.inl (v.1,v.2 + 1))) <|
 .cond r2.2 (
 .cond r3 (
 .chk (zU v.1.length v.1.length ((v.1++[qd.mk v.2 r1.1]).length) 40) <|
 .chk (qp (v.2 + 1)) <|
 .ret (.inl (v.1++[qd.mk v.2 r1.1],v.2 + 1))) <|
 .chk (qp (v.2 + 1)) <|
 .ret (.inl (v.1,v.2 + 1))) <|
 .chk (qp (v.2 + 1)) <|
 .ret (.inl (v.1,v.2 + 1))) <|
 .cond (!r1.2) (
 .bind (zN o_7_8 (qe.S r2.1)) fun r3=>
 .cond r1.2 (
 .cond r3 (
 .chk (zU v.1.length v.1.length ((v.1++[qd.mk v.2 r2.1]).length) 40) <|
 .chk (qp (v.2 + 1)) <|
 .ret (.inl (v.1++[qd.mk v.2 r2.1],v.2 + 1))) <|
 .chk (qp (v.2 + 1)) <|
 .ret (.inl (v.1,v.2 + 1))) <|
 .cond r2.2 (
 .cond r3 (
 .chk (zU v.1.length v.1.length ((v.1++[qd.mk v.2 r2.1]).length) 40) <|
 .chk (qp (v.2 + 1)) <|
 .ret (.inl (v.1++[qd.mk v.2 r2.1],v.2 + 1))) <|
 .chk (qp (v.2 + 1)) <|
 .ret (.inl (v.1,v.2 + 1))) <|
 .chk (qp (v.2 + 1)) <|
 .ret (.inl (v.1,v.2 + 1))) <|
 .bind (zN o_7_8 (qe.S r1.1)) fun r3=>
 .cond r1.2 (
 .cond r3 (
 .chk (zU v.1.length v.1.length ((v.1++[qd.mk v.2 r1.1]).length) 40) <|
 .chk (qp (v.2 + 1)) <|
 .ret (.inl (v.1++[qd.mk v.2 r1.1],v.2 + 1))) <|
 .chk (qp (v.2 + 1)) <|
 .ret (.inl (v.1,v.2 + 1))) <|
 .cond r2.2 (
 .cond r3 (
 .chk (zU v.1.length v.1.length ((v.1++[qd.mk v.2 r1.1]).length) 40) <|
 .chk (qp (v.2 + 1)) <|
 .ret (.inl (v.1++[qd.mk v.2 r1.1],v.2 + 1))) <|
 .chk (qp (v.2 + 1)) <|
 .ret (.inl (v.1,v.2 + 1))) <|
 .chk (qp (v.2 + 1)) <|
 .ret (.inl (v.1,v.2 + 1))) <|
 .ret (.inr (v.1,v.2,decide (v.2 < ((8:Int)))))
def qfR (N n:Nat) (f:Xe) (v:ZQ):Option Qk:=qQ (Xp N f.1 f.2.1 f.2.2.1 f.2.2.2.1 f.2.2.2.2.1 f.2.2.2.2.2.1 f.2.2.2.2.2.2) some n v
theorem qqz (N:Nat) (f:Xe) (n:Nat) (v:ZQ) (y:Qk) (h:qfR N n f v=some y):LG Tryz.prog qcy 102 (qE qwW 7) (qq4 f v) (Z1 f y):=
 zj qk (E:=qjo N) (L:=qJ (qq8 N)) (st:=Z1 f) (g:=some) (R:=Z1 f) (qhw N) (qt (by kernel_rfl) trivial) (rg0 (by kernel_rfl)) (fun v=>by kernel_rfl) (qP (st:=Z1 f) fun y=>by rfl) n v y h
def qbk (N:Nat) (o_7:List qd) (o_7_3:qa) (o_7_4:qa) (o_7_5:Vector UInt8 16) (o_7_6:qc) (o_7_7:Vector UInt8 16) (o_7_8:qc) (o_7_2:List qd) (s9_7:Int):Option Qk:=qfR N N (o_7,o_7_3,o_7_4,o_7_5,o_7_6,o_7_7,o_7_8) (o_7_2,s9_7)
def qfT (N:Nat):qw:=smL qfv [(.sl 4 qB),(.sl 4 qB),qf,qf,(.ba 16),qh,(.ba 16),qh,(.i .i64)] Qk (fun x=>qbk N x.1 x.2.2.1 x.2.2.2.1 x.2.2.2.2.1 x.2.2.2.2.2.1 x.2.2.2.2.2.2.1 x.2.2.2.2.2.2.2.1 x.2.1 x.2.2.2.2.2.2.2.2.1) cs1 fun x=>Z1 (x.1,x.2.2.1,x.2.2.2.1,x.2.2.2.2.1,x.2.2.2.2.2.1,x.2.2.2.2.2.2.1,x.2.2.2.2.2.2.2.1)
theorem qoh (N:Nat):zZ Tryz.prog qcy 102 (qE qwW 7) (qfT N):=zp fun x z h=>qqz N (x.1,x.2.2.1,x.2.2.2.1,x.2.2.2.2.1,x.2.2.2.2.2.1,x.2.2.2.2.2.2.1,x.2.2.2.2.2.2.2.1) N (x.2.1,x.2.2.2.2.2.2.2.2.1) z h
def qv8 (z:qa×Bool):TV×THp:=(.tup [.tv qf (z.1:qa),xb z.2],[])
def qcu (N:Nat) (a0:qa) (a1:qa):Tree (qa×Bool):=
 .bind (Jn N a0) fun r1=>
 .bind (Jn N a1) fun r2=>
 .cond (!r1) (
 .chk (0=0) <|
 .ret (qa.mk ((Vector.replicate 16 0)) (qc.mk 0 0) [],false)) <|
 .cond (!r2) (
 .chk (0=0) <|
 .ret (qa.mk ((Vector.replicate 16 0)) (qc.mk 0 0) [],false)) <|
 .cond (!(eqE (.ba 16) (qa.ID a0) (qa.ID a1))) (
 .chk (0=0) <|
 .ret (qa.mk ((Vector.replicate 16 0)) (qc.mk 0 0) [],false)) <|
 .bind (qa2 (qa.qz a0) (qa.qz a1)) fun r3=>
 .bind (zV [(([]:List qd).length,0),(([]:List qd).length,0)] (qbk N [] a0 a1 ((Vector.replicate 16 0)) (qc.mk 0 0) (qa.ID a0) r3 [] 0)) fun z4=>
 .chk (z4.1.length=z4.1.length) <|
 .ret (qa.mk (qa.ID a0) r3 z4.1,true)
def Vx (N:Nat) (a0:qa) (a1:qa):Option (qa×Bool):=(qcu N a0 a1).run some
def qvG (N:Nat):List (Nat×qw):=[(7,qfT N)]
def qjf (N:Nat):Ent:=smF ⟨102,[],[.x qf,.x qf],[],[]⟩ [qf,qf] (qa×Bool) (fun x=>Vx N x.1 x.2.1) cs1 fun _=>qv8
theorem qtG (N:Nat):zf Tryz.prog (qjf N):=
 zd (H:=qcy) (L:=qJ (qvG N)) (ts:=[qf,qf]) (T:=fun x=>qcu N x.1 x.2.1) 0 qOV (qhw N) (qt (by kernel_rfl) ⟨qoh N,trivial⟩) (rg0 (by kernel_rfl)) fun x=>by kernel_rfl
noncomputable def qCu:Code:=Tryz.f77.body.getD .skip
theorem qRF:FnF Tryz.prog 77 Tryz.f77 qCu:=⟨qk,by kernel_rfl,by kernel_rfl,by kernel_rfl⟩
def qd1:TH:={ live:=[(0,[2,3,4]),(1,[2,3,4,5]),(2,[2,3,4,5,6]),(3,[2,3,4,5,6,7]),(4,[2,3,4,5,6,7,16]),(5,[2,3,4,5,6,7]),(6,[2,3,4,5,6,7,8]),(7,[2,3,4,5,6,7,32]),(8,[2,3,4,5,7]),(9,[2,3,4,5,6,7]),(10,[2,3,4,5,6,7,48]),(11,[2,3,4,5,7,9]),(12,[2,3,4,5,7]),(13,[2,3,4,5,6,7]),(14,[2,3,4,5,6,7]),(15,[3,4,5,77]),(16,[4,5]),(17,[4])],dec:=[29],nil:=[(0,[⟨.ob 40 [0],43,(.sl 19 qf)⟩]),(1,[⟨.ob 50 [0],53,(.sl 19 qf)⟩])] }
def qky (N:Nat):List Ent:=[Yz N,qk3,qjf N]
theorem qiV (N:Nat):qU Tryz.prog (qky N):=⟨qaY N,qwk,qtG N,trivial⟩
abbrev Wf:=List qa×qb×qa
abbrev QK:=List qa×Bool×Int×Bool
def JM (f:Wf) (y:QK):Ex×TSt:=(.exit 0,⟨0,86,[],[(2,.p 20 [] 0),(3,.p 30 [] 0),(4,.p 40 [] 0),(5,.p 50 [] 0),(6,xb y.2.1),(7,xi y.2.2.1),(16,xb y.2.2.2)],[(20,.cell false (.tv qj f.2.1)),(30,.cell false (.tv qf f.2.2)),(40,.cell false (.ag [.v 43 f.1.length])),(43,.vec false 19 (.sl 19 qf) f.1),(50,.cell false (.ag [.v 53 y.1.length])),(53,.vec false 19 (.sl 19 qf) (y.1:List qa))],false,[]⟩)
def qrp (N:Nat):List (Nat×qw):=[]
abbrev JT:=List qa×Bool×Int
def qhk:SP:=⟨0,86,[],[(2,.k (.p 20 [] 0)),(3,.k (.p 30 [] 0)),(4,.k (.p 40 [] 0)),(5,.k (.p 50 [] 0)),(6,.x .b),(7,.x (.i .i64))],[(20,.cell false (.x qj)),(30,.cell false (.x qf)),(40,.cell false (.ag [.vs 43])),(43,.vec false 19),(50,.cell false (.ag [.vs 53])),(53,.vec false 19)],false,[]⟩
def qrz (f:Wf) (v:JT):TSt:=zq qhk [dv (.sl 19 qf) f.1,dv (.sl 19 qf) v.1,dv qj f.2.1,dv qf f.2.2,dv .b v.2.1,dv (.i .i64) v.2.2]
def vC (N:Nat) (o_4:List qa) (o_4_3:qb) (o_4_4:qa) (v:JT):Tree (JT⊕QK):=
 .cond (decide (v.2.2 < (((qb.R o_4_3).length:Nat):Int))) (
 .bind (qM (qb.R o_4_3) v.2.2) fun e1=>
 .bind (Qq N (qa.ID o_4_4) (qa.ID e1)) fun r2=>
 .cond r2 (
 .cond (!v.2.1) (
 .bind (QY o_4_4) fun r3=>
 .chk (zU v.1.length v.1.length ((v.1++[o_4_4]).length) 56) <|
 .bind (qM (qb.R o_4_3) v.2.2) fun e4=>
 .cond (eqE (.ba 16) (qa.ID e4) (qa.ID o_4_4)) (
 .bind (qM (qb.R o_4_3) v.2.2) fun e5=>
 .bind (Vx N e5 o_4_4) fun r6=>
 .chk (zU ((v.1++[o_4_4]).length) ((v.1++[o_4_4]).length) (((v.1++[o_4_4])++[r6.1]).length) 56) <|
 .chk (qp (v.2.2 + 1)) <|
 .ret (.inl ((v.1++[o_4_4])++[r6.1],true,v.2.2 + 1))) <|
 .bind (qM (qb.R o_4_3) v.2.2) fun e5=>
 .bind (QY e5) fun r6=>
 .chk (zU ((v.1++[o_4_4]).length) ((v.1++[o_4_4]).length) (((v.1++[o_4_4])++[e5]).length) 56) <|
 .chk (qp (v.2.2 + 1)) <|
 .ret (.inl ((v.1++[o_4_4])++[e5],true,v.2.2 + 1))) <|
 .bind (qM (qb.R o_4_3) v.2.2) fun e3=>
 .cond (eqE (.ba 16) (qa.ID e3) (qa.ID o_4_4)) (
 .bind (qM (qb.R o_4_3) v.2.2) fun e4=>
 .bind (Vx N e4 o_4_4) fun r5=>
 .chk (zU v.1.length v.1.length ((v.1++[r5.1]).length) 56) <|
 .chk (qp (v.2.2 + 1)) <|
 .ret (.inl (v.1++[r5.1],true,v.2.2 + 1))) <|
 .bind (qM (qb.R o_4_3) v.2.2) fun e4=>
 .bind (QY e4) fun r5=>
 .chk (zU v.1.length v.1.length ((v.1++[e4]).length) 56) <|
 .chk (qp (v.2.2 + 1)) <|
 .ret (.inl (v.1++[e4],v.2.1,v.2.2 + 1))) <|
 .bind (qM (qb.R o_4_3) v.2.2) fun e3=>
 .cond (eqE (.ba 16) (qa.ID e3) (qa.ID o_4_4)) (
 .bind (qM (qb.R o_4_3) v.2.2) fun e4=>
 .bind (Vx N e4 o_4_4) fun r5=>
 .chk (zU v.1.length v.1.length ((v.1++[r5.1]).length) 56) <|
 .chk (qp (v.2.2 + 1)) <|
 .ret (.inl (v.1++[r5.1],true,v.2.2 + 1))) <|
 .bind (qM (qb.R o_4_3) v.2.2) fun e4=>
 .bind (QY e4) fun r5=>
 .chk (zU v.1.length v.1.length ((v.1++[e4]).length) 56) <|
 .chk (qp (v.2.2 + 1)) <|
 .ret (.inl (v.1++[e4],v.2.1,v.2.2 + 1))) <|
 .ret (.inr (v.1,v.2.1,v.2.2,decide (v.2.2 < (((qb.R o_4_3).length:Nat):Int))))
def qg2 (N n:Nat) (f:Wf) (v:JT):Option QK:=qQ (vC N f.1 f.2.1 f.2.2) some n v
theorem qrG (N:Nat) (f:Wf) (n:Nat) (v:JT) (y:QK) (h:qg2 N n f v=some y):LG Tryz.prog qd1 77 (qE qCu 4) (qrz f v) (JM f y):=
 zj qk (E:=qky N) (L:=qJ (qrp N)) (st:=JM f) (g:=some) (R:=JM f) (qiV N) (qt (by kernel_rfl) trivial) (rg0 (by kernel_rfl)) (fun v=>by kernel_rfl) (qP (st:=JM f) fun y=>by rfl) n v y h
def qja (N:Nat) (o_4:List qa) (o_4_3:qb) (o_4_4:qa) (o_4_2:List qa) (s6_4:Bool) (s7_4:Int):Option QK:=qg2 N N (o_4,o_4_3,o_4_4) (o_4_2,s6_4,s7_4)
def qgS (N:Nat):qw:=smL qhk [(.sl 19 qf),(.sl 19 qf),qj,qf,.b,(.i .i64)] QK (fun x=>qja N x.1 x.2.2.1 x.2.2.2.1 x.2.1 x.2.2.2.2.1 x.2.2.2.2.2.1) cs1 fun x=>JM (x.1,x.2.2.1,x.2.2.2.1)
theorem qqK (N:Nat):zZ Tryz.prog qd1 77 (qE qCu 4) (qgS N):=zp fun x z h=>qrG N (x.1,x.2.2.1,x.2.2.2.1) N (x.2.1,x.2.2.2.2.1,x.2.2.2.2.2.1) z h
def qyn (z:qb):TV×THp:=(.tv qj z,[])
def qdT (N:Nat) (a0:qb) (a1:qa):Tree (qb):=
 .bind (zV [(([]:List qa).length,0),(([]:List qa).length,0)] (qja N [] a0 a1 [] false 0)) fun z1=>
 .cond (!z1.2.1) (
 .bind (QY a1) fun r2=>
 .chk (zU z1.1.length z1.1.length ((z1.1++[a1]).length) 56) <|
 .chk ((z1.1++[a1]).length=(z1.1++[a1]).length) <|
 .ret (qb.mk (z1.1++[a1]))) <|
 .chk (z1.1.length=z1.1.length) <|
 .ret (qb.mk z1.1)
def vS (N:Nat) (a0:qb) (a1:qa):Option (qb):=(qdT N a0 a1).run some
def qxe (N:Nat):List (Nat×qw):=[(4,qgS N)]
def qkl (N:Nat):Ent:=smF ⟨77,[],[.x qj,.x qf],[],[]⟩ [qj,qf] (qb) (fun x=>vS N x.1 x.2.1) cs1 fun _=>qyn
theorem qvD (N:Nat):zf Tryz.prog (qkl N):=
 zd (H:=qd1) (L:=qJ (qxe N)) (ts:=[qj,qf]) (T:=fun x=>qdT N x.1 x.2.1) 0 qRF (qiV N) (qt (by kernel_rfl) ⟨qqK N,trivial⟩) (rg0 (by kernel_rfl)) fun x=>by kernel_rfl
noncomputable def qaW:Code:=Tryz.f39.body.getD .skip
theorem qUi:FnF Tryz.prog 39 Tryz.f39 qaW:=⟨qk,by kernel_rfl,by kernel_rfl,by kernel_rfl⟩
def jV:TH:={ live:=[(0,[2,3,4]),(1,[2,3,4,6]),(2,[2,3,4,6,7]),(3,[2,3,4,20]),(4,[4,5]),(5,[2,3,4,8]),(6,[2,3,4,8,9]),(7,[2,3,4,8,9,27]),(8,[2,3,4,8,9]),(9,[2,3,4,8,9]),(10,[3,4,8,10]),(11,[3,4,8,10,41]),(12,[3,4,8,10]),(13,[3,4,8,10]),(14,[4,8,54]),(15,[4,5]),(16,[4,5])],dec:=[17],nil:=[(0,[⟨.ob 40 [0],43,(.sl 19 qf)⟩]),(4,[⟨.ob 40 [0],43,(.sl 19 qf)⟩]),(5,[⟨.ob 80 [0],83,(.sl 19 qf)⟩]),(15,[⟨.ob 40 [0],43,(.sl 19 qf)⟩])] }
def Zu (N:Nat):List Ent:=[Kh N,qkl N]
theorem QE (N:Nat):qU Tryz.prog (Zu N):=⟨qcn N,qvD N,trivial⟩
abbrev ju:=List qa×List qa×qb×qb
abbrev je:=Unit⊕(qb×Int×Bool)
def jw (f:ju):je→Ex×TSt
 | .inl y=>(.exit 0,⟨0,57,[],[(2,.p 20 [] 0),(3,.p 30 [] 0),(4,.p 40 [] 0),(8,.p 80 [] 0),(9,.ic .i64 0),(27,xb (decide (((0:Int)) < (((qb.R f.2.2.1).length:Nat):Int))))],[(20,.cell false (.tv qj f.2.2.1)),(30,.cell false (.tv qj f.2.2.2)),(40,.cell false (.ag [.v 43 f.1.length])),(43,.vec false 19 (.sl 19 qf) f.1),(80,.cell false (.ag [.v 83 f.2.1.length])),(83,.vec false 19 (.sl 19 qf) f.2.1)],false,[]⟩)
 | .inr y=>(.exit 0,⟨0,57,[],[(2,.p 20 [] 0),(3,.p 30 [] 0),(4,.p 40 [] 0),(8,.p 80 [] 0),(9,xi y.2.1),(27,xb y.2.2)],[(20,.cell false (.tv qj f.2.2.1)),(30,.cell false (.tv qj f.2.2.2)),(40,.cell false (.ag [.v 43 f.1.length])),(43,.vec false 19 (.sl 19 qf) f.1),(80,.cell false (.tv qj (y.1:qb)))],false,[]⟩)
def qfW (N:Nat):List (Nat×qw):=[]
abbrev vo:=qb×Int
def qmi:SP:=⟨0,57,[],[(2,.k (.p 20 [] 0)),(3,.k (.p 30 [] 0)),(4,.k (.p 40 [] 0)),(8,.k (.p 80 [] 0)),(9,.x (.i .i64))],[(20,.cell false (.x qj)),(30,.cell false (.x qj)),(40,.cell false (.ag [.vs 43])),(43,.vec false 19),(80,.cell false (.x qj))],false,[]⟩
def qc3 (f:ju) (v:vo):TSt:=zq qmi [dv (.sl 19 qf) f.1,dv qj f.2.2.1,dv qj f.2.2.2,dv qj v.1,dv (.i .i64) v.2]
def QC (N:Nat) (o_7:List qa) (o_7_2:List qa) (o_7_3:qb) (o_7_4:qb) (v:vo):Tree (vo⊕je):=
 .cond (decide (v.2 < (((qb.R o_7_3).length:Nat):Int))) (
 .bind (qM (qb.R o_7_3) v.2) fun e1=>
 .bind (vS N v.1 e1) fun r2=>
 .chk (qp (v.2 + 1)) <|
 .ret (.inl (r2,v.2 + 1))) <|
 .ret (.inr (.inr ((v.1,v.2,decide (v.2 < (((qb.R o_7_3).length:Nat):Int))))))
def qcI (N n:Nat) (f:ju) (v:vo):Option je:=qQ (QC N f.1 f.2.1 f.2.2.1 f.2.2.2) some n v
theorem qmn (N:Nat) (f:ju) (n:Nat) (v:vo) (y:je) (h:qcI N n f v=some y):LG Tryz.prog jV 39 (qE qaW 7) (qc3 f v) (jw f y):=
 zj qk (E:=Zu N) (L:=qJ (qfW N)) (st:=jw f) (g:=some) (R:=jw f) (QE N) (qt (by kernel_rfl) trivial) (rg0 (by kernel_rfl)) (fun v=>by kernel_rfl) (qP (st:=jw f) fun y=>by rcases y with _ | _<;>rfl) n v y h
abbrev Z3:=Unit
def qfN:SP:=⟨0,57,[],[(2,.k (.p 20 [] 0)),(3,.k (.p 30 [] 0)),(4,.k (.p 40 [] 0)),(8,.k (.p 80 [] 0)),(9,.k (.ic .i64 0))],[(20,.cell false (.x qj)),(30,.cell false (.x qj)),(40,.cell false (.ag [.vs 43])),(43,.vec false 19),(80,.cell false (.ag [.vs 83])),(83,.vec false 19)],false,[]⟩
def qq1 (f:ju) (v:Z3):TSt:=zq qfN [dv (.sl 19 qf) f.1,dv (.sl 19 qf) f.2.1,dv qj f.2.2.1,dv qj f.2.2.2]
abbrev Kp:=vo⊕je
def Xq (N:Nat) (o_7:List qa) (o_7_2:List qa) (o_7_3:qb) (o_7_4:qb) (v:Z3):Tree (Z3⊕Kp):=
 .cond (decide (((0:Int)) < (((qb.R o_7_3).length:Nat):Int))) (
 .bind (qM (qb.R o_7_3) 0) fun e1=>
 .chk (o_7_2.length=o_7_2.length) <|
 .bind (vS N (qb.mk o_7_2) e1) fun r2=>
 .ret (.inr (.inl (r2,1)))) <|
 .ret (.inr (.inr ((.inl ()))))
def Kt (N n:Nat) (f:ju):Kp→Option je
 | .inl w=>qcI N n f w
 | .inr w=>some w
def qpB (f:ju):Kp→Ex×TSt
 | .inl w=>(.normal,qc3 f w)
 | .inr w=>jw f w
def qfi (N n:Nat) (f:ju) (v:Z3):Option je:=qQ (Xq N f.1 f.2.1 f.2.2.1 f.2.2.2) (Kt N n f) n v
theorem qpj (N:Nat) (f:ju) (n:Nat) (v:Z3) (y:je) (h:qfi N n f v=some y):LG Tryz.prog jV 39 (qE qaW 7) (qq1 f v) (jw f y):=
 zj qk (E:=Zu N) (L:=qJ (qfW N)) (st:=qpB f) (g:=(Kt N n f)) (R:=jw f) (QE N) (qt (by kernel_rfl) trivial) (rg0 (by kernel_rfl)) (fun v=>by kernel_rfl) (fun w y h=>by
 rcases w with w | w
 ·exact qmn N f n w y h
 ·exact qP (st:=jw f) (fun y=>by rcases y with _ | _<;>rfl) w y h
) n v y h
def W1 (N:Nat) (o_7:List qa) (o_7_2:List qa) (o_7_3:qb) (o_7_4:qb):Option je:=qfi N N (o_7,o_7_2,o_7_3,o_7_4) ()
def qfn (N:Nat):qw:=smL qfN [(.sl 19 qf),(.sl 19 qf),qj,qj] je (fun x=>W1 N x.1 x.2.1 x.2.2.1 x.2.2.2.1) (csS cs1) fun x=>jw (x.1,x.2.1,x.2.2.1,x.2.2.2.1)
theorem qn2 (N:Nat):zZ Tryz.prog jV 39 (qE qaW 7) (qfn N):=zp fun x z h=>qpj N (x.1,x.2.1,x.2.2.1,x.2.2.2.1) N () z h
abbrev jn:=List qa×List qa×qb
abbrev z9:=Unit⊕(qb×Int×Bool)
def jo (f:jn):z9→Ex×TSt
 | .inl y=>(.exit 2,⟨0,57,[],[(3,.p 30 [] 0),(4,.p 40 [] 0),(8,.p 80 [] 0),(10,.ic .i64 0),(41,xb (decide (((0:Int)) < (((qb.R f.2.2).length:Nat):Int))))],[(30,.cell false (.tv qj f.2.2)),(40,.cell false (.ag [.v 43 f.1.length])),(43,.vec false 19 (.sl 19 qf) f.1),(80,.cell false (.ag [.v 83 f.2.1.length])),(83,.vec false 19 (.sl 19 qf) f.2.1)],false,[]⟩)
 | .inr y=>(.exit 2,⟨0,57,[],[(3,.p 30 [] 0),(4,.p 40 [] 0),(8,.p 80 [] 0),(10,xi y.2.1),(41,xb y.2.2)],[(30,.cell false (.tv qj f.2.2)),(40,.cell false (.ag [.v 43 f.1.length])),(43,.vec false 19 (.sl 19 qf) f.1),(80,.cell false (.tv qj (y.1:qb)))],false,[]⟩)
def qeR (N:Nat):List (Nat×qw):=[]
abbrev vb:=qb×Int
def qlb:SP:=⟨0,57,[],[(3,.k (.p 30 [] 0)),(4,.k (.p 40 [] 0)),(8,.k (.p 80 [] 0)),(10,.x (.i .i64))],[(30,.cell false (.x qj)),(40,.cell false (.ag [.vs 43])),(43,.vec false 19),(80,.cell false (.x qj))],false,[]⟩
def qbC (f:jn) (v:vb):TSt:=zq qlb [dv (.sl 19 qf) f.1,dv qj f.2.2,dv qj v.1,dv (.i .i64) v.2]
def vW (N:Nat) (o_11:List qa) (o_11_2:List qa) (o_11_3:qb) (v:vb):Tree (vb⊕z9):=
 .cond (decide (v.2 < (((qb.R o_11_3).length:Nat):Int))) (
 .bind (qM (qb.R o_11_3) v.2) fun e1=>
 .bind (vS N v.1 e1) fun r2=>
 .chk (qp (v.2 + 1)) <|
 .ret (.inl (r2,v.2 + 1))) <|
 .ret (.inr (.inr ((v.1,v.2,decide (v.2 < (((qb.R o_11_3).length:Nat):Int))))))
def qbX (N n:Nat) (f:jn) (v:vb):Option z9:=qQ (vW N f.1 f.2.1 f.2.2) some n v
theorem qk8 (N:Nat) (f:jn) (n:Nat) (v:vb) (y:z9) (h:qbX N n f v=some y):LG Tryz.prog jV 39 (qE qaW 11) (qbC f v) (jo f y):=
 zj qk (E:=Zu N) (L:=qJ (qeR N)) (st:=jo f) (g:=some) (R:=jo f) (QE N) (qt (by kernel_rfl) trivial) (rg0 (by kernel_rfl)) (fun v=>by kernel_rfl) (qP (st:=jo f) fun y=>by rcases y with _ | _<;>rfl) n v y h
abbrev Zc:=Unit
def qeL:SP:=⟨0,57,[],[(3,.k (.p 30 [] 0)),(4,.k (.p 40 [] 0)),(8,.k (.p 80 [] 0)),(10,.k (.ic .i64 0))],[(30,.cell false (.x qj)),(40,.cell false (.ag [.vs 43])),(43,.vec false 19),(80,.cell false (.ag [.vs 83])),(83,.vec false 19)],false,[]⟩
def qog (f:jn) (v:Zc):TSt:=zq qeL [dv (.sl 19 qf) f.1,dv (.sl 19 qf) f.2.1,dv qj f.2.2]
abbrev YK:=vb⊕z9
def VF (N:Nat) (o_11:List qa) (o_11_2:List qa) (o_11_3:qb) (v:Zc):Tree (Zc⊕YK):=
 .cond (decide (((0:Int)) < (((qb.R o_11_3).length:Nat):Int))) (
 .bind (qM (qb.R o_11_3) 0) fun e1=>
 .chk (o_11_2.length=o_11_2.length) <|
 .bind (vS N (qb.mk o_11_2) e1) fun r2=>
 .ret (.inr (.inl (r2,1)))) <|
 .ret (.inr (.inr ((.inl ()))))
def YF (N n:Nat) (f:jn):YK→Option z9
 | .inl w=>qbX N n f w
 | .inr w=>some w
def qol (f:jn):YK→Ex×TSt
 | .inl w=>(.normal,qbC f w)
 | .inr w=>jo f w
def qeX (N n:Nat) (f:jn) (v:Zc):Option z9:=qQ (VF N f.1 f.2.1 f.2.2) (YF N n f) n v
theorem qob (N:Nat) (f:jn) (n:Nat) (v:Zc) (y:z9) (h:qeX N n f v=some y):LG Tryz.prog jV 39 (qE qaW 11) (qog f v) (jo f y):=
 zj qk (E:=Zu N) (L:=qJ (qeR N)) (st:=qol f) (g:=(YF N n f)) (R:=jo f) (QE N) (qt (by kernel_rfl) trivial) (rg0 (by kernel_rfl)) (fun v=>by kernel_rfl) (fun w y h=>by
 rcases w with w | w
 ·exact qk8 N f n w y h
 ·exact qP (st:=jo f) (fun y=>by rcases y with _ | _<;>rfl) w y h
) n v y h
def XT (N:Nat) (o_11:List qa) (o_11_2:List qa) (o_11_3:qb):Option z9:=qeX N N (o_11,o_11_2,o_11_3) ()
def qeN (N:Nat):qw:=smL qeL [(.sl 19 qf),(.sl 19 qf),qj] z9 (fun x=>XT N x.1 x.2.1 x.2.2.1) (csS cs1) fun x=>jo (x.1,x.2.1,x.2.2.1)
theorem qm7 (N:Nat):zZ Tryz.prog jV 39 (qE qaW 11) (qeN N):=zp fun x z h=>qob N (x.1,x.2.1,x.2.2.1) N () z h
abbrev JW:=List qa×qb
abbrev vl:=qb×Int×Bool
def QD (f:JW) (y:vl):Ex×TSt:=(.exit 2,⟨0,57,[],[(3,.p 30 [] 0),(4,.p 40 [] 0),(8,.p 80 [] 0),(10,xi y.2.1),(41,xb y.2.2)],[(30,.cell false (.tv qj f.2)),(40,.cell false (.ag [.v 43 f.1.length])),(43,.vec false 19 (.sl 19 qf) f.1),(80,.cell false (.tv qj (y.1:qb)))],false,[]⟩)
def qme (N:Nat):List (Nat×qw):=[]
abbrev QA:=qb×Int
def qcR:SP:=⟨0,57,[],[(3,.k (.p 30 [] 0)),(4,.k (.p 40 [] 0)),(8,.k (.p 80 [] 0)),(10,.x (.i .i64))],[(30,.cell false (.x qj)),(40,.cell false (.ag [.vs 43])),(43,.vec false 19),(80,.cell false (.x qj))],false,[]⟩
def qmt (f:JW) (v:QA):TSt:=zq qcR [dv (.sl 19 qf) f.1,dv qj f.2,dv qj v.1,dv (.i .i64) v.2]
def JY (N:Nat) (o_11:List qa) (o_11_2:qb) (v:QA):Tree (QA⊕vl):=
 .cond (decide (v.2 < (((qb.R o_11_2).length:Nat):Int))) (
 .bind (qM (qb.R o_11_2) v.2) fun e1=>
 .bind (vS N v.1 e1) fun r2=>
 .chk (qp (v.2 + 1)) <|
 .ret (.inl (r2,v.2 + 1))) <|
 .ret (.inr (v.1,v.2,decide (v.2 < (((qb.R o_11_2).length:Nat):Int))))
def qc1 (N n:Nat) (f:JW) (v:QA):Option vl:=qQ (JY N f.1 f.2) some n v
theorem qmg (N:Nat) (f:JW) (n:Nat) (v:QA) (y:vl) (h:qc1 N n f v=some y):LG Tryz.prog jV 39 (qE qaW 11) (qmt f v) (QD f y):=
 zj qk (E:=Zu N) (L:=qJ (qme N)) (st:=QD f) (g:=some) (R:=QD f) (QE N) (qt (by kernel_rfl) trivial) (rg0 (by kernel_rfl)) (fun v=>by kernel_rfl) (qP (st:=QD f) fun y=>by rfl) n v y h
def YJ (N:Nat) (o_11:List qa) (o_11_2:qb) (o_11_3:qb) (s10_11:Int):Option vl:=qc1 N N (o_11,o_11_2) (o_11_3,s10_11)
def qcZ (N:Nat):qw:=smL qcR [(.sl 19 qf),qj,qj,(.i .i64)] vl (fun x=>YJ N x.1 x.2.1 x.2.2.1 x.2.2.2.1) cs1 fun x=>QD (x.1,x.2.1)
theorem qlu (N:Nat):zZ Tryz.prog jV 39 (qE qaW 11) (qcZ N):=zp fun x z h=>qmg N (x.1,x.2.1) N (x.2.2.1,x.2.2.2.1) z h
def qvO (z:qb×Int):TV×THp:=(.tup [.tv qj (z.1:qb),xi z.2],[])
def Yu (N:Nat) (a0:qb) (a1:qb):Tree (qb×Int):=
 .bind (Jl N a0) fun r1=>
 .bind (Jl N a1) fun r2=>
 .cond (!r1) (
 .chk (0=0) <|
 .ret (qb.mk [],1)) <|
 .cond (!r2) (
 .chk (0=0) <|
 .ret (qb.mk [],1)) <|
 .bind (zV [(([]:List qa).length,0),(([]:List qa).length,0)] (W1 N [] [] a0 a1)) fun z3=>
 .sum z3 (fun z4=>
 .bind (zV [(([]:List qa).length,0),(([]:List qa).length,0)] (XT N [] [] a1)) fun z5=>
 .sum z5 (fun z6=>
 .cond (decide (10 < (((0:Nat):Int)))) (
 .chk (0=0) <|
 .ret (qb.mk [],4)) <|
 .chk (0=0) <|
 .ret (qb.mk [],0)) fun z6=>
 .cond (decide (((10:Int)) < (((qb.R z6.1).length:Nat):Int))) (
 .chk (0=0) <|
 .ret (qb.mk [],4)) <|
 .ret (z6.1,0)) fun z4=>
 .bind (zV [(([]:List qa).length,0)] (YJ N [] a1 z4.1 0)) fun z5=>
 .cond (decide (((10:Int)) < (((qb.R z5.1).length:Nat):Int))) (
 .chk (0=0) <|
 .ret (qb.mk [],4)) <|
 .ret (z5.1,0)
def zw (N:Nat) (a0:qb) (a1:qb):Option (qb×Int):=(Yu N a0 a1).run some
def qvq (N:Nat):List (Nat×qw):=[(7,qfn N),(11,qeN N),(11,qcZ N)]
def qje (N:Nat):Ent:=smF ⟨39,[],[.x qj,.x qj],[],[]⟩ [qj,qj] (qb×Int) (fun x=>zw N x.1 x.2.1) cs1 fun _=>qvO
theorem qtq (N:Nat):zf Tryz.prog (qje N):=
 zd (H:=jV) (L:=qJ (qvq N)) (ts:=[qj,qj]) (T:=fun x=>Yu N x.1 x.2.1) 0 qUi (QE N) (qt (by kernel_rfl) ⟨qn2 N,qm7 N,qlu N,trivial⟩) (rg0 (by kernel_rfl)) fun x=>by kernel_rfl
noncomputable def qSb:Code:=Tryz.f14.body.getD .skip
theorem qTm:FnF Tryz.prog 14 Tryz.f14 qSb:=⟨qk,by kernel_rfl,by kernel_rfl,by kernel_rfl⟩
def qw9:TH:={ live:=[(0,[2,3,4]),(1,[2,3,4,6]),(2,[2,3,4,6,7]),(3,[2,3,4,6,7,8]),(4,[2,3,4,6,7,8,9]),(5,[2,3,4,6,7,8,9,10]),(6,[2,3,4,8,10,53]),(7,[4,5]),(8,[3,4,8,10,11]),(9,[3,4,8,10,11,12]),(10,[3,4,8,11,12,57]),(11,[3,4,8,11,12]),(12,[4,8,11,12,77]),(13,[4,11,12]),(14,[4,11,12,87]),(15,[4,5]),(16,[4,5])],dec:=[31,35,37,44,49,72],nil:=[(0,[⟨.ob 40 [0],43,(.sl 19 qf)⟩]),(7,[⟨.ob 40 [0],43,(.sl 19 qf)⟩]),(15,[⟨.ob 40 [0],43,(.sl 19 qf)⟩])] }
def qxS (N:Nat):List Ent:=[Kh N,JR,YW N,qje N]
theorem qsZ (N:Nat):qU Tryz.prog (qxS N):=⟨qcn N,VY,qci N,qtq N,trivial⟩
def qwF (z:qb×Int):TV×THp:=(.tup [.tv qj (z.1:qb),xi z.2],[])
def qdc (N:Nat) (a0:qb) (a1:qa):Tree (qb×Int):=
 .bind (Jl N a0) fun r1=>
 .bind (QU (qa.qz a1)) fun r2=>
 .bind (Jn N (qa.mk (qa.ID a1) (qc.mk 0 0) (qa.F a1))) fun r3=>
 .cond (!r1) (
 .chk (0=0) <|
 .ret (qb.mk [],1)) <|
 .cond (!r2) (
 .chk (0=0) <|
 .ret (qb.mk [],1)) <|
 .cond (eqE qh (qa.qz a1) (qc.mk 0 0)) (
 .cond (decide ((((qa.F a1).length:Nat):Int)=((0:Int)))) (
 .chk (0=0) <|
 .ret (qb.mk [],1)) <|
 .cond (decide (((0:Int)) < (((qa.F a1).length:Nat):Int))) (
 .cond (!r3) (
 .chk (0=0) <|
 .ret (qb.mk [],1)) <|
 .cond (!(eqE qh (qa.qz a1) (qc.mk 0 0))) (
 .bind (zw N a0 (qb.mk [qa.mk (qa.ID a1) (qa.qz a1) []])) fun r4=>
 .cond (decide (r4.2=0)) (
 .cond (decide (((0:Int)) < (((qa.F a1).length:Nat):Int))) (
 .bind (zw N r4.1 (qb.mk [qa.mk (qa.ID a1) (qc.mk 0 0) (qa.F a1)])) fun r5=>
 .cond (!decide (r5.2=0)) (
 .chk (0=0) <|
 .ret (qb.mk [],r5.2)) <|
 .ret (r5.1,0)) <|
 .cond (!decide (r4.2=0)) (
 .chk (0=0) <|
 .ret (qb.mk [],r4.2)) <|
 .ret (r4.1,0)) <|
 .cond (!decide (r4.2=0)) (
 .chk (0=0) <|
 .ret (qb.mk [],r4.2)) <|
 .ret (r4.1,0)) <|
 .cond (decide (((0:Int)) < (((qa.F a1).length:Nat):Int))) (
 .bind (zw N a0 (qb.mk [qa.mk (qa.ID a1) (qc.mk 0 0) (qa.F a1)])) fun r4=>
 .cond (!decide (r4.2=0)) (
 .chk (0=0) <|
 .ret (qb.mk [],r4.2)) <|
 .ret (r4.1,0)) <|
 .ret (a0,0)) <|
 .cond (!(eqE qh (qa.qz a1) (qc.mk 0 0))) (
 .bind (zw N a0 (qb.mk [qa.mk (qa.ID a1) (qa.qz a1) []])) fun r4=>
 .cond (decide (r4.2=0)) (
 .cond (decide (((0:Int)) < (((qa.F a1).length:Nat):Int))) (
 .bind (zw N r4.1 (qb.mk [qa.mk (qa.ID a1) (qc.mk 0 0) (qa.F a1)])) fun r5=>
 .cond (!decide (r5.2=0)) (
 .chk (0=0) <|
 .ret (qb.mk [],r5.2)) <|
 .ret (r5.1,0)) <|
 .cond (!decide (r4.2=0)) (
 .chk (0=0) <|
 .ret (qb.mk [],r4.2)) <|
 .ret (r4.1,0)) <|
 .cond (!decide (r4.2=0)) (
 .chk (0=0) <|
 .ret (qb.mk [],r4.2)) <|
 .ret (r4.1,0)) <|
 .cond (decide (((0:Int)) < (((qa.F a1).length:Nat):Int))) (
 .bind (zw N a0 (qb.mk [qa.mk (qa.ID a1) (qc.mk 0 0) (qa.F a1)])) fun r4=>
 .cond (!decide (r4.2=0)) (
 .chk (0=0) <|
 .ret (qb.mk [],r4.2)) <|
 .ret (r4.1,0)) <|
 .ret (a0,0)) <|
 .cond (decide (((0:Int)) < (((qa.F a1).length:Nat):Int))) (
 .cond (!r3) (
 .chk (0=0) <|
 .ret (qb.mk [],1)) <|
 .cond (!(eqE qh (qa.qz a1) (qc.mk 0 0))) (
 .bind (zw N a0 (qb.mk [qa.mk (qa.ID a1) (qa.qz a1) []])) fun r4=>
 .cond (decide (r4.2=0)) (
 .cond (decide (((0:Int)) < (((qa.F a1).length:Nat):Int))) (
 .bind (zw N r4.1 (qb.mk [qa.mk (qa.ID a1) (qc.mk 0 0) (qa.F a1)])) fun r5=>
 .cond (!decide (r5.2=0)) (
 .chk (0=0) <|
 .ret (qb.mk [],r5.2)) <|
 .ret (r5.1,0)) <|
 .cond (!decide (r4.2=0)) (
 .chk (0=0) <|
 .ret (qb.mk [],r4.2)) <|
 .ret (r4.1,0)) <|
 .cond (!decide (r4.2=0)) (
 .chk (0=0) <|
 .ret (qb.mk [],r4.2)) <|
 .ret (r4.1,0)) <|
 .cond (decide (((0:Int)) < (((qa.F a1).length:Nat):Int))) (
 .bind (zw N a0 (qb.mk [qa.mk (qa.ID a1) (qc.mk 0 0) (qa.F a1)])) fun r4=>
 .cond (!decide (r4.2=0)) (
 .chk (0=0) <|
 .ret (qb.mk [],r4.2)) <|
 .ret (r4.1,0)) <|
 .ret (a0,0)) <|
 .cond (!(eqE qh (qa.qz a1) (qc.mk 0 0))) (
 .bind (zw N a0 (qb.mk [qa.mk (qa.ID a1) (qa.qz a1) []])) fun r4=>
 .cond (decide (r4.2=0)) (
 .cond (decide (((0:Int)) < (((qa.F a1).length:Nat):Int))) (
 .bind (zw N r4.1 (qb.mk [qa.mk (qa.ID a1) (qc.mk 0 0) (qa.F a1)])) fun r5=>
 .cond (!decide (r5.2=0)) (
 .chk (0=0) <|
 .ret (qb.mk [],r5.2)) <|
 .ret (r5.1,0)) <|
 .cond (!decide (r4.2=0)) (
 .chk (0=0) <|
 .ret (qb.mk [],r4.2)) <|
 .ret (r4.1,0)) <|
 .cond (!decide (r4.2=0)) (
 .chk (0=0) <|
 .ret (qb.mk [],r4.2)) <|
 .ret (r4.1,0)) <|
 .cond (decide (((0:Int)) < (((qa.F a1).length:Nat):Int))) (
 .bind (zw N a0 (qb.mk [qa.mk (qa.ID a1) (qc.mk 0 0) (qa.F a1)])) fun r4=>
 .cond (!decide (r4.2=0)) (
 .chk (0=0) <|
 .ret (qb.mk [],r4.2)) <|
 .ret (r4.1,0)) <|
 .ret (a0,0)
def qaX (N:Nat) (a0:qb) (a1:qa):Option (qb×Int):=(qdc N a0 a1).run some
def qxy (N:Nat):List (Nat×qw):=[]
def qkY (N:Nat):Ent:=smF ⟨14,[],[.x qj,.x qf],[],[]⟩ [qj,qf] (qb×Int) (fun x=>qaX N x.1 x.2.1) cs1 fun _=>qwF
theorem qwa (N:Nat):zf Tryz.prog (qkY N):=
 zd (H:=qw9) (L:=qJ (qxy N)) (ts:=[qj,qf]) (T:=fun x=>qdc N x.1 x.2.1) 0 qTm (qsZ N) (qt (by kernel_rfl) trivial) (rg0 (by kernel_rfl)) fun x=>by kernel_rfl
noncomputable def qQ0:Code:=Tryz.f132.body.getD .skip
theorem qPh:FnF Tryz.prog 132 Tryz.f132 qQ0:=⟨qk,by kernel_rfl,by kernel_rfl,by kernel_rfl⟩
def qzO:TH:={ live:=[(0,[0]),(1,[0,4]),(2,[2]),(3,[2])] }
def qAc (N:Nat):List Ent:=[]
theorem qvs (N:Nat):qU Tryz.prog (qAc N):=trivial
def qAv (z:Int):TV×THp:=(xi z,[])
def qe7 (a0:Int):Tree (Int):=
 .cond (decide (a0 < ((24:Int)))) (
 .ret 0) <|
 .chk ((8:Int)≠0) <|
 .chk (qp (a0.tdiv 8)) <|
 .ret (a0.tdiv 8)
def qcP (a0:Int):Option (Int):=(qe7 a0).run some
def qzK:List (Nat×qw):=[]
def qlX:Ent:=smF ⟨132,[],[.x (.i .i64)],[],[]⟩ [(.i .i64)] (Int) (fun x=>qcP x.1) cs1 fun _=>qAv
theorem qx2:zf Tryz.prog (qlX):=
 zd (H:=qzO) (L:=qJ (qzK)) (ts:=[(.i .i64)]) (T:=fun x=>qe7 x.1) 0 qPh (qvs 0) (qt (by kernel_rfl) trivial) (rg0 (by kernel_rfl)) fun x=>by kernel_rfl
noncomputable def qPP:Code:=Tryz.f103.body.getD .skip
theorem qO0:FnF Tryz.prog 103 Tryz.f103 qPP:=⟨qk,by kernel_rfl,by kernel_rfl,by kernel_rfl⟩
def qCK:TH:={ live:=[(0,[2,3]),(1,[4])],dec:=[8,13,18,23,32,37] }
def qBv (N:Nat):List Ent:=[qlX,qb4,XN N]
theorem qxQ (N:Nat):qU Tryz.prog (qBv N):=⟨qx2,qdD,Ws N,trivial⟩
def qBU (z:Bool):TV×THp:=(xb z,[])
def qgA (N:Nat) (a0:qm) (a1:qc):Tree (Bool):=
 .cond (decide (((0:Int))≤(qm.No a0))) (
 .cond (decide ((qm.No a0) < ((8:Int)))) (
 .cond (decide (((0:Int))≤(qm.Len a0))) (
 .cond (decide ((qm.Len a0)≤((200:Int)))) (
 .bind (qcP (qm.Len a0)) fun r1=>
 .cond (decide ((((qm.B a0).length:Nat):Int)=r1)) (
 .bind (qaE (qm.S a0)) fun r2=>
 .cond r2 (
 .bind (vv N a1 (qm.S a0)) fun r3=>
 .ret r3) <|
 .ret false) <|
 .ret false) <|
 .ret false) <|
 .ret false) <|
 .ret false) <|
 .ret false
def qer (N:Nat) (a0:qm) (a1:qc):Option (Bool):=(qgA N a0 a1).run some
def qBC (N:Nat):List (Nat×qw):=[]
def qnf (N:Nat):Ent:=smF ⟨103,[],[.x qX,.x qh],[],[]⟩ [qX,qh] (Bool) (fun x=>qer N x.1 x.2.1) cs1 fun _=>qBU
theorem qz4 (N:Nat):zf Tryz.prog (qnf N):=
 zd (H:=qCK) (L:=qJ (qBC N)) (ts:=[qX,qh]) (T:=fun x=>qgA N x.1 x.2.1) 0 qO0 (qxQ N) (qt (by kernel_rfl) trivial) (rg0 (by kernel_rfl)) fun x=>by kernel_rfl
noncomputable def qCC:Code:=Tryz.f78.body.getD .skip
theorem qR6:FnF Tryz.prog 78 Tryz.f78 qCC:=⟨qk,by kernel_rfl,by kernel_rfl,by kernel_rfl⟩
def qiB:TH:={ live:=[(0,[1]),(1,[1,6,7,8]),(2,[1,6,7,8,9]),(3,[1,3,4,6,7,8]),(4,[1,6,7,8,33]),(5,[2]),(6,[1,6,7,8]),(7,[2])],dec:=[18,21,38,43] }
def qoU (N:Nat):List Ent:=[qnf N,qb4]
theorem qlG (N:Nat):qU Tryz.prog (qoU N):=⟨qz4 N,qdD,trivial⟩
abbrev Kg:=qn×List qm×Int
abbrev JD:=Unit⊕(Int×Bool)
def XO (f:Kg):JD→Ex×TSt
 | .inl y=>(.ret,⟨0,50,[],[(2,.bc false)],[],false,[]⟩)
 | .inr y=>(.exit 0,⟨0,50,[],[(1,.p 10 [] 0),(6,.tv (.sl 37 qX) f.2.1),(7,xi f.2.2),(8,xi y.1),(9,xb y.2)],[(10,.cell false (.tv qZ f.1))],false,[]⟩)
def qxg (N:Nat):List (Nat×qw):=[]
abbrev XR:=Int
def qkD:SP:=⟨0,50,[],[(1,.k (.p 10 [] 0)),(6,.x (.sl 37 qX)),(7,.x (.i .i64)),(8,.x (.i .i64))],[(10,.cell false (.x qZ))],false,[]⟩
def qwP (f:Kg) (v:XR):TSt:=zq qkD [dv qZ f.1,dv (.sl 37 qX) f.2.1,dv (.i .i64) f.2.2,dv (.i .i64) v]
def YY (N:Nat) (o_2:qn) (s6_2:List qm) (s7_2:Int) (v:XR):Tree (XR⊕JD):=
 .cond (decide (v < s7_2)) (
 .bind (qM s6_2 v) fun e1=>
 .bind (qer N e1 (qn.qz o_2)) fun r2=>
 .cond (!r2) (
 .ret (.inr (.inl ()))) <|
 .cond (decide (((0:Int)) < v)) (
 .chk (qp (v - 1)) <|
 .bind (qM (qn.F o_2) (v - 1)) fun e3=>
 .cond (decide ((qm.No e1)≤(qm.No e3))) (
 .ret (.inr (.inl ()))) <|
 .chk (qp (v + 1)) <|
 .ret (.inl (v + 1))) <|
 .chk (qp (v + 1)) <|
 .ret (.inl (v + 1))) <|
 .ret (.inr (.inr ((v,decide (v < s7_2)))))
def qkK (N n:Nat) (f:Kg) (v:XR):Option JD:=qQ (YY N f.1 f.2.1 f.2.2) some n v
theorem qxb (N:Nat) (f:Kg) (n:Nat) (v:XR) (y:JD) (h:qkK N n f v=some y):LG Tryz.prog qiB 78 (qE qCC 2) (qwP f v) (XO f y):=
 zj qk (E:=qoU N) (L:=qJ (qxg N)) (st:=XO f) (g:=some) (R:=XO f) (qlG N) (qt (by kernel_rfl) trivial) (rg0 (by kernel_rfl)) (fun v=>by kernel_rfl) (qP (st:=XO f) fun y=>by rcases y with _ | _<;>rfl) n v y h
def qgE (N:Nat) (o_2:qn) (s6_2:List qm) (s7_2:Int) (s8_2:Int):Option JD:=qkK N N (o_2,s6_2,s7_2) s8_2
def qkI (N:Nat):qw:=smL qkD [qZ,(.sl 37 qX),(.i .i64),(.i .i64)] JD (fun x=>qgE N x.1 x.2.1 x.2.2.1 x.2.2.2.1) (csS cs1) fun x=>XO (x.1,x.2.1,x.2.2.1)
theorem qvV (N:Nat):zZ Tryz.prog qiB 78 (qE qCC 2) (qkI N):=zp fun x z h=>qxb N (x.1,x.2.1,x.2.2.1) N x.2.2.2.1 z h
def qE0 (z:Bool):TV×THp:=(xb z,[])
def qhZ (N:Nat) (a0:qn):Tree (Bool):=
 .bind (qgE N a0 (qn.F a0) (((qn.F a0).length:Nat):Int) 0) fun z1=>
 .sum z1 (fun z2=>
 .ret false) fun z2=>
 .bind (qaE (qn.qz a0)) fun r3=>
 .cond r3 (
 .cond (decide (((0:Int)) < (((qn.F a0).length:Nat):Int))) (
 .ret true) <|
 .ret (!(eqE qh (qn.qz a0) (qc.mk 0 0)))) <|
 .ret false
def qgk (N:Nat) (a0:qn):Option (Bool):=(qhZ N a0).run some
def qDp (N:Nat):List (Nat×qw):=[(2,qkI N)]
def qoW (N:Nat):Ent:=smF ⟨78,[],[.x qZ],[],[]⟩ [qZ] (Bool) (fun x=>qgk N x.1) cs1 fun _=>qE0
theorem qCw (N:Nat):zf Tryz.prog (qoW N):=
 zd (H:=qiB) (L:=qJ (qDp N)) (ts:=[qZ]) (T:=fun x=>qhZ N x.1) 0 qR6 (qlG N) (qt (by kernel_rfl) ⟨qvV N,trivial⟩) (rg0 (by kernel_rfl)) fun x=>by kernel_rfl
noncomputable def qBj:Code:=Tryz.f40.body.getD .skip
theorem qRe:FnF Tryz.prog 40 Tryz.f40 qBj:=⟨qk,by kernel_rfl,by kernel_rfl,by kernel_rfl⟩
def qjW:TH:={ live:=[(0,[1]),(1,[1,6,7,8]),(2,[1,6,7,8,9]),(3,[1,3,4,6,7,8]),(4,[1,6,7,8,32]),(5,[2]),(6,[1,6,7,8]),(7,[2])],dec:=[16,19] }
def qrO (N:Nat):List Ent:=[qoW N,qqp]
theorem qm6 (N:Nat):qU Tryz.prog (qrO N):=⟨qCw N,qwx,trivial⟩
abbrev KS:=qg×List qn×Int
abbrev Vt:=Unit⊕(Int×Bool)
def WC (f:KS):Vt→Ex×TSt
 | .inl y=>(.ret,⟨0,38,[],[(2,.bc false)],[],false,[]⟩)
 | .inr y=>(.exit 0,⟨0,38,[],[(1,.p 10 [] 0),(6,.tv (.sl 19 qZ) f.2.1),(7,xi f.2.2),(8,xi y.1),(9,xb y.2)],[(10,.cell false (.tv qo f.1))],false,[]⟩)
def qzR (N:Nat):List (Nat×qw):=[]
abbrev WH:=Int
def qlR:SP:=⟨0,38,[],[(1,.k (.p 10 [] 0)),(6,.x (.sl 19 qZ)),(7,.x (.i .i64)),(8,.x (.i .i64))],[(10,.cell false (.x qo))],false,[]⟩
def qzN (f:KS) (v:WH):TSt:=zq qlR [dv qo f.1,dv (.sl 19 qZ) f.2.1,dv (.i .i64) f.2.2,dv (.i .i64) v]
def KP (N:Nat) (o_2:qg) (s6_2:List qn) (s7_2:Int) (v:WH):Tree (WH⊕Vt):=
 .cond (decide (v < s7_2)) (
 .bind (qM s6_2 v) fun e1=>
 .bind (qgk N e1) fun r2=>
 .cond (!r2) (
 .ret (.inr (.inl ()))) <|
 .cond (decide (((0:Int)) < v)) (
 .chk (qp (v - 1)) <|
 .bind (qM (qg.L o_2) (v - 1)) fun e3=>
 .bind (qkJ (qn.ID e3) (qn.ID e1)) fun r4=>
 .cond (!r4) (
 .ret (.inr (.inl ()))) <|
 .chk (qp (v + 1)) <|
 .ret (.inl (v + 1))) <|
 .chk (qp (v + 1)) <|
 .ret (.inl (v + 1))) <|
 .ret (.inr (.inr ((v,decide (v < s7_2)))))
def qlF (N n:Nat) (f:KS) (v:WH):Option Vt:=qQ (KP N f.1 f.2.1 f.2.2) some n v
theorem qAn (N:Nat) (f:KS) (n:Nat) (v:WH) (y:Vt) (h:qlF N n f v=some y):LG Tryz.prog qjW 40 (qE qBj 2) (qzN f v) (WC f y):=
 zj qk (E:=qrO N) (L:=qJ (qzR N)) (st:=WC f) (g:=some) (R:=WC f) (qm6 N) (qt (by kernel_rfl) trivial) (rg0 (by kernel_rfl)) (fun v=>by kernel_rfl) (qP (st:=WC f) fun y=>by rcases y with _ | _<;>rfl) n v y h
def qh9 (N:Nat) (o_2:qg) (s6_2:List qn) (s7_2:Int) (s8_2:Int):Option Vt:=qlF N N (o_2,s6_2,s7_2) s8_2
def qlC (N:Nat):qw:=smL qlR [qo,(.sl 19 qZ),(.i .i64),(.i .i64)] Vt (fun x=>qh9 N x.1 x.2.1 x.2.2.1 x.2.2.2.1) (csS cs1) fun x=>WC (x.1,x.2.1,x.2.2.1)
theorem qxp (N:Nat):zZ Tryz.prog qjW 40 (qE qBj 2) (qlC N):=zp fun x z h=>qAn N (x.1,x.2.1,x.2.2.1) N x.2.2.2.1 z h
def qFW (z:Bool):TV×THp:=(xb z,[])
def qjJ (N:Nat) (a0:qg):Tree (Bool):=
 .bind (qh9 N a0 (qg.L a0) (((qg.L a0).length:Nat):Int) 0) fun z1=>
 .sum z1 (fun z2=>
 .ret false) fun z2=>
 .ret (decide ((((qg.L a0).length:Nat):Int)≤((10:Int))))
def qh6 (N:Nat) (a0:qg):Option (Bool):=(qjJ N a0).run some
def qFS (N:Nat):List (Nat×qw):=[(2,qlC N)]
def qsD (N:Nat):Ent:=smF ⟨40,[],[.x qo],[],[]⟩ [qo] (Bool) (fun x=>qh6 N x.1) cs1 fun _=>qFW
theorem qEN (N:Nat):zf Tryz.prog (qsD N):=
 zd (H:=qjW) (L:=qJ (qFS N)) (ts:=[qo]) (T:=fun x=>qjJ N x.1) 0 qRe (qm6 N) (qt (by kernel_rfl) ⟨qxp N,trivial⟩) (rg0 (by kernel_rfl)) fun x=>by kernel_rfl
noncomputable def qTB:Code:=Tryz.f41.body.getD .skip
theorem qRu:FnF Tryz.prog 41 Tryz.f41 qTB:=⟨qk,by kernel_rfl,by kernel_rfl,by kernel_rfl⟩
def qIA:TH:={ live:=[(0,[2,3]),(1,[4])],esc:=true }
def qKG (N:Nat):List Ent:=[]
theorem qFl (N:Nat):qU Tryz.prog (qKG N):=trivial
def qJf (a0:qb) (a1:qg) (z:Unit):TV×THp:=(.fn (.func 79) [] [.p 100020 [] 0,.p 100030 [] 0],[(100020,.cell false (.tv qj a0)),(100030,.cell false (.tv qo a1))])
def qxN (a0:qb) (a1:qg):Tree (Unit):=
 .ret ()
def qs_ (a0:qb) (a1:qg):Option (Unit):=(qxN a0 a1).run some
def qIR:List (Nat×qw):=[]
def qyH:Ent:=smF ⟨41,[],[.x qj,.x qo],[],[]⟩ [qj,qo] (Unit) (fun x=>qs_ x.1 x.2.1) cs1 fun x=>qJf x.1 x.2.1
theorem qHC:zf Tryz.prog (qyH):=
 zd (H:=qIA) (L:=qJ (qIR)) (ts:=[qj,qo]) (T:=fun x=>qxN x.1 x.2.1) 0 qRu (qFl 0) (qt (by kernel_rfl) trivial) (rg0 (by kernel_rfl)) fun x=>by kernel_rfl
noncomputable def qSh:Code:=Tryz.f62.body.getD .skip
theorem qSi:FnF Tryz.prog 62 Tryz.f62 qSh:=⟨qk,by kernel_rfl,by kernel_rfl,by kernel_rfl⟩
def qAb:TH:={ live:=[(0,[1,2]),(1,[3])] }
def qAt (N:Nat):List Ent:=[]
theorem qvM (N:Nat):qU Tryz.prog (qAt N):=trivial
def qAa (a0:Vector UInt8 16) (a1:qn) (z:Unit):TV×THp:=(xb (eqE (.ba 16) (qn.ID a1) a0),[(30,.cell false (.tv (.ba 16) a0))])
def qe6 (a0:Vector UInt8 16) (a1:qn):Tree (Unit):=
 .ret ()
def qhK (a0:Vector UInt8 16) (a1:qn):Option (Unit):=(qe6 a0 a1).run some
def qAs:List (Nat×qw):=[]
def qlL:Ent:=smF ⟨62,[],[.x qZ],[.k (.p 30 [] 0)],[(30,.cell false (.x (.ba 16)))]⟩ [(.ba 16),qZ] (Unit) (fun x=>qhK x.1 x.2.1) cs1 fun x=>qAa x.1 x.2.1
theorem qy3:zf Tryz.prog (qlL):=
 zd (H:=qAb) (L:=qJ (qAs)) (ts:=[(.ba 16),qZ]) (T:=fun x=>qe6 x.1 x.2.1) 0 qSi (qvM 0) (qt (by kernel_rfl) trivial) (rg0 (by kernel_rfl)) fun x=>by kernel_rfl
noncomputable def qCc:Code:=Tryz.f61.body.getD .skip
theorem qT6:FnF Tryz.prog 61 Tryz.f61 qCc:=⟨qk,by kernel_rfl,by kernel_rfl,by kernel_rfl⟩
def YD:TH:={ live:=[(0,[0,1]),(1,[0,1,7,8]),(2,[0,1,7,8,9]),(3,[0,1,5,7,8]),(4,[0,1,5,7,8,16]),(5,[4]),(6,[0,1,7,8]),(7,[4])] }
def qeH (N:Nat):List Ent:=[qlL]
theorem qc0 (N:Nat):qU Tryz.prog (qeH N):=⟨qy3,trivial⟩
abbrev Jd:=Vector UInt8 16×List qn×Int
abbrev j_:=Int⊕(Int×Bool)
def v7 (f:Jd):j_→Ex×TSt
 | .inl y=>(.ret,⟨1,19,[30],[(4,xi y)],[(30,.cell false (.tv (.ba 16) f.1))],false,[]⟩)
 | .inr y=>(.exit 0,⟨1,19,[30],[(0,.tv (.sl 19 qZ) f.2.1),(1,.fn (.func 62) [] [.p 30 [] 0]),(7,xi f.2.2),(8,xi y.1),(9,xb y.2)],[(30,.cell false (.tv (.ba 16) f.1))],false,[]⟩)
def qln (N:Nat):List (Nat×qw):=[]
abbrev vY:=Int
def qbN:SP:=⟨1,19,[30],[(0,.x (.sl 19 qZ)),(1,.fn 62 [] [.k (.p 30 [] 0)]),(7,.x (.i .i64)),(8,.x (.i .i64))],[(30,.cell false (.x (.ba 16)))],false,[]⟩
def qlm (f:Jd) (v:vY):TSt:=zq qbN [dv (.ba 16) f.1,dv (.sl 19 qZ) f.2.1,dv (.i .i64) f.2.2,dv (.i .i64) v]
def v8 (N:Nat) (o_2:Vector UInt8 16) (s0_2:List qn) (s7_2:Int) (v:vY):Tree (vY⊕j_):=
 .cond (decide (v < s7_2)) (
 .bind (qM s0_2 v) fun e1=>
 .bind (qhK o_2 e1) fun r2=>
 .cond (eqE (.ba 16) (qn.ID e1) o_2) (
 .ret (.inr (.inl v))) <|
 .chk (qp (v + 1)) <|
 .ret (.inl (v + 1))) <|
 .ret (.inr (.inr ((v,decide (v < s7_2)))))
def qbV (N n:Nat) (f:Jd) (v:vY):Option j_:=qQ (v8 N f.1 f.2.1 f.2.2) some n v
theorem qlq (N:Nat) (f:Jd) (n:Nat) (v:vY) (y:j_) (h:qbV N n f v=some y):LG Tryz.prog YD 61 (qE qCc 2) (qlm f v) (v7 f y):=
 zj qk (E:=qeH N) (L:=qJ (qln N)) (st:=v7 f) (g:=some) (R:=v7 f) (qc0 N) (qt (by kernel_rfl) trivial) (rg0 (by kernel_rfl)) (fun v=>by kernel_rfl) (qP (st:=v7 f) fun y=>by rcases y with _ | _<;>rfl) n v y h
def Yh (N:Nat) (o_2:Vector UInt8 16) (s0_2:List qn) (s7_2:Int) (s8_2:Int):Option j_:=qbV N N (o_2,s0_2,s7_2) s8_2
def qbE (N:Nat):qw:=smL qbN [(.ba 16),(.sl 19 qZ),(.i .i64),(.i .i64)] j_ (fun x=>Yh N x.1 x.2.1 x.2.2.1 x.2.2.2.1) (csS cs1) fun x=>v7 (x.1,x.2.1,x.2.2.1)
theorem qkp (N:Nat):zZ Tryz.prog YD 61 (qE qCc 2) (qbE N):=zp fun x z h=>qlq N (x.1,x.2.1,x.2.2.1) N x.2.2.2.1 z h
def qov (a0:Vector UInt8 16) (z:Int):TV×THp:=(xi z,[(30,.cell false (.tv (.ba 16) a0))])
def YH (N:Nat) (a0:Vector UInt8 16) (a1:List qn):Tree (Int):=
 .bind (Yh N a0 a1 ((a1.length:Nat):Int) 0) fun z1=>
 .sum z1 (fun z2=>
 .ret z2) fun z2=>
 .ret (-1)
def Wg (N:Nat) (a0:Vector UInt8 16) (a1:List qn):Option (Int):=(YH N a0 a1).run some
def qoa (N:Nat):List (Nat×qw):=[(2,qbE N)]
def qeS (N:Nat):Ent:=smF ⟨61,[],[.x (.sl 19 qZ),.fn 62 [] [.k (.p 30 [] 0)]],[],[(30,.cell false (.x (.ba 16)))]⟩ [(.ba 16),(.sl 19 qZ)] (Int) (fun x=>Wg N x.1 x.2.1) cs1 fun x=>qov x.1
theorem qnI (N:Nat):zf Tryz.prog (qeS N):=
 zd (H:=YD) (L:=qJ (qoa N)) (ts:=[(.ba 16),(.sl 19 qZ)]) (T:=fun x=>YH N x.1 x.2.1) 0 qT6 (qc0 N) (qt (by kernel_rfl) ⟨qkp N,trivial⟩) (rg0 (by kernel_rfl)) fun x=>by kernel_rfl
noncomputable def qS4:Code:=Tryz.f96.body.getD .skip
theorem qBH:FnF Tryz.prog 96 Tryz.f96 qS4:=⟨qk,by kernel_rfl,by kernel_rfl,by kernel_rfl⟩
def qtt:TH:={ live:=[(0,[0]),(1,[0,4]),(2,[2]),(3,[2])],vecs:=[5],esc:=true }
def quU (N:Nat):List Ent:=[]
theorem qps (N:Nat):qU Tryz.prog (quU N):=trivial
def qiH (a0:List qm) (z:Unit):TV×THp:=(.v 100050 (((([]:List qm))++a0).length),[(100050,.vec false 37 (.sl 37 qX) ((([]:List qm))++a0:List qm))])
def qbe (a0:List qm):Tree (Unit):=
 .chk (List.isEmpty a0=false) <|
 .chk (zU ((([]:List qm)).length) 0 (((([]:List qm))++a0).length) 88) <|
 .ret ()
def qc9 (a0:List qm):Option (Unit):=(qbe a0).run some
def qtb:List (Nat×qw):=[]
theorem qqs:qaJ Tryz.prog ⟨96,[],[.x (.sl 37 qX)],[],[]⟩ [(.sl 37 qX)] (fun x=>qbe x.1) (fun x=>qiH x.1):=
 Yr (H:=qtt) (L:=qJ (qtb)) 0 qBH (qps 0) (qt (by kernel_rfl) trivial) (rg0 (by kernel_rfl)) fun x=>by kernel_rfl
def qpX:TH:={ live:=[(0,[0]),(1,[0,4]),(2,[2]),(3,[2])],vecs:=[5],esc:=true }
def qp0 (N:Nat):List Ent:=[]
theorem qnw (N:Nat):qU Tryz.prog (qp0 N):=trivial
def qpQ (z:Unit):TV×THp:=(.v 100050 0,[(100050,.vec false 37 (.sl 37 qX) ([]:List qm))])
def qf1:Tree (Unit):=
 .chk (0=0) <|
 .ret ()
def qs6:Option (Unit):=(qf1).run some
def qrd:List (Nat×qw):=[]
theorem qnh:qaJ Tryz.prog ⟨96,[],[.k (.es 0)],[],[]⟩ [] (fun x=>qf1) (fun _=>qpQ):=
 Yr (H:=qpX) (L:=qJ (qrd)) 0 qBH (qnw 0) (qt (by kernel_rfl) trivial) (rg0 (by kernel_rfl)) fun x=>by kernel_rfl
def qpm:TH:={ live:=[(0,[0]),(1,[0,4]),(2,[2]),(3,[2])],vecs:=[5],esc:=true }
def qpC (N:Nat):List Ent:=[]
theorem qnC (N:Nat):qU Tryz.prog (qpC N):=trivial
def qqy (z:Unit):TV×THp:=(.nils,[])
def qf0:Tree (Unit):=
 .ret ()
def quF:Option (Unit):=(qf0).run some
def qqA:List (Nat×qw):=[]
theorem qnU:qaJ Tryz.prog ⟨96,[],[.k (.es 1)],[],[]⟩ [] (fun x=>qf0) (fun _=>qqy):=
 Yr (H:=qpm) (L:=qJ (qqA)) 0 qBH (qnC 0) (qt (by kernel_rfl) trivial) (rg0 (by kernel_rfl)) fun x=>by kernel_rfl
def qfr (z:Unit):Unit:=()
def qq_ (z:Unit):Unit:=()
def Zx (a0:List qm):Option (Unit):=
 bif a0.isEmpty then
  (qs6).bind fun z0=>(quF).bind fun z1=>chk (qfr z0=qq_ z1) (some (qfr z0))
 else qc9 a0
def qg6:Ent:=smF ⟨96,[],[.x (.sl 37 qX)],[],[]⟩ [(.sl 37 qX)] (Unit) (fun x=>Zx x.1) cs1 fun x=>qiH x.1
theorem qp1:zf Tryz.prog (qg6):=qkV fun x z h l=>by
 obtain ⟨a0,_⟩:=x
 replace h:Zx a0=some z:=h
 unfold Zx at h
 rcases qks h with ⟨e,h2⟩ | ⟨_,h2⟩<;>clear h
 ·have e:=List.isEmpty_iff.1 e
  subst e
  obtain ⟨z0,c0,h2⟩:=bind_some h2
  obtain ⟨z1,c1,h2⟩:=bind_some h2
  obtain ⟨hE,h2⟩:=qjU h2
  obtain rfl:=Option.some.inj h2
  refine qkB (t:=(.sl 37 qX)) (x:=[]) rfl (TV.ers []) (TV.ers []) (by exact qnh (()) _ c0 l) ?_
  rw [hE]
  exact (qL5 (n:=100050) (sz:=37) (x:=qG (.sl 37 qX) ([]:List qm)) rfl (by kernel_rfl) (by kernel_rfl) (qnU (()) _ c1 l))
 ·exact qqs (a0,()) z h2 l
noncomputable def qS0:Code:=Tryz.f97.body.getD .skip
theorem qCP:FnF Tryz.prog 97 Tryz.f97 qS0:=⟨qk,by kernel_rfl,by kernel_rfl,by kernel_rfl⟩
def qwB:TH:={ live:=[(0,[0]),(1,[0,4]),(2,[2]),(3,[2])],vecs:=[5] }
def qyy (N:Nat):List Ent:=[]
theorem qtY (N:Nat):qU Tryz.prog (qyy N):=trivial
def qkj (a0:List zy) (z:Unit):TV×THp:=(.tv (.sl 33 VB) ((([]:List zy))++a0:List zy),[])
def qdX (a0:List zy):Tree (Unit):=
 .chk (List.isEmpty a0=false) <|
 .chk (zU ((([]:List zy)).length) 0 (((([]:List zy))++a0).length) 36) <|
 .chk (((([]:List zy))++a0).length=((([]:List zy))++a0).length) <|
 .ret ()
def qgI (a0:List zy):Option (Unit):=(qdX a0).run some
def qwY:List (Nat×qw):=[]
theorem qtx:qaJ Tryz.prog ⟨97,[],[.x (.sl 33 VB)],[],[]⟩ [(.sl 33 VB)] (fun x=>qdX x.1) (fun x=>qkj x.1):=
 Yr (H:=qwB) (L:=qJ (qwY)) 0 qCP (qtY 0) (qt (by kernel_rfl) trivial) (rg0 (by kernel_rfl)) fun x=>by kernel_rfl
def qto:TH:={ live:=[(0,[0]),(1,[0,4]),(2,[2]),(3,[2])],vecs:=[5] }
def qta (N:Nat):List Ent:=[]
theorem qpK (N:Nat):qU Tryz.prog (qta N):=trivial
def qud (z:Unit):TV×THp:=(.tv (.sl 33 VB) ([]:List zy),[])
def qiR:Tree (Unit):=
 .chk (0=0) <|
 .chk (0=0) <|
 .ret ()
def qxB:Option (Unit):=(qiR).run some
def qtX:List (Nat×qw):=[]
theorem qpq:qaJ Tryz.prog ⟨97,[],[.k (.es 0)],[],[]⟩ [] (fun x=>qiR) (fun _=>qud):=
 Yr (H:=qto) (L:=qJ (qtX)) 0 qCP (qpK 0) (qt (by kernel_rfl) trivial) (rg0 (by kernel_rfl)) fun x=>by kernel_rfl
def qtE:TH:={ live:=[(0,[0]),(1,[0,4]),(2,[2]),(3,[2])],vecs:=[5] }
def qte (N:Nat):List Ent:=[]
theorem qqG (N:Nat):qU Tryz.prog (qte N):=trivial
def qtm (z:Unit):TV×THp:=(.tv (.sl 33 VB) ([]:List zy),[])
def qhS:Tree (Unit):=
 .ret ()
def qxk:Option (Unit):=(qhS).run some
def qtD:List (Nat×qw):=[]
theorem qqE:qaJ Tryz.prog ⟨97,[],[.k (.es 1)],[],[]⟩ [] (fun x=>qhS) (fun _=>qtm):=
 Yr (H:=qtE) (L:=qJ (qtD)) 0 qCP (qqG 0) (qt (by kernel_rfl) trivial) (rg0 (by kernel_rfl)) fun x=>by kernel_rfl
def qh8 (z:Unit):Unit:=()
def qua (z:Unit):Unit:=()
def Vq (a0:List zy):Option (Unit):=
 bif a0.isEmpty then
  (qxB).bind fun z0=>(qxk).bind fun z1=>chk (qh8 z0=qua z1) (some (qh8 z0))
 else qgI a0
def qjt:Ent:=smF ⟨97,[],[.x (.sl 33 VB)],[],[]⟩ [(.sl 33 VB)] (Unit) (fun x=>Vq x.1) cs1 fun x=>qkj x.1
theorem quZ:zf Tryz.prog (qjt):=qkV fun x z h l=>by
 obtain ⟨a0,_⟩:=x
 replace h:Vq a0=some z:=h
 unfold Vq at h
 rcases qks h with ⟨e,h2⟩ | ⟨_,h2⟩<;>clear h
 ·have e:=List.isEmpty_iff.1 e
  subst e
  obtain ⟨z0,c0,h2⟩:=bind_some h2
  obtain ⟨z1,c1,h2⟩:=bind_some h2
  obtain ⟨hE,h2⟩:=qjU h2
  obtain rfl:=Option.some.inj h2
  refine qkB (t:=(.sl 33 VB)) (x:=[]) rfl (TV.ers []) (TV.ers []) (by exact qpq (()) _ c0 l) ?_
  rw [hE]
  exact (by exact qqE (()) _ c1 l)
 ·exact qtx (a0,()) z h2 l
noncomputable def qCf:Code:=Tryz.f63.body.getD .skip
theorem qRk:FnF Tryz.prog 63 Tryz.f63 qCf:=⟨qk,by kernel_rfl,by kernel_rfl,by kernel_rfl⟩
def qjw:TH:={ live:=[(0,[1,2]),(1,[1,2]),(2,[1,2,10,11]),(3,[1,2,10,11,12]),(4,[1,2,3,10,11]),(5,[1,2,10,11]),(6,[1,2,10,11]),(7,[2])],fresh:=[6],nil:=[(0,[⟨.ob 20 [2],25,(.sl 37 qX)⟩])] }
def qrN (N:Nat):List Ent:=[qg6,qjt]
theorem qnv (N:Nat):qU Tryz.prog (qrN N):=⟨qp1,quZ,trivial⟩
abbrev KU:=List qm×Vector UInt8 16×qc×Nat×Vector UInt8 16×qc×Int
abbrev Vu:=List qm×Int×Bool
def WQ (f:KU) (y:Vu):Ex×TSt:=(.exit 0,⟨0,28,[],[(1,.p 10 [] 0),(2,.p 20 [] 0),(10,xi f.2.2.2.2.2.2),(11,xi y.2.1),(12,xb y.2.2)],[(10,.cell false (.ag [.tv (.ba 16) f.2.1,.tv qh f.2.2.1,.v 100050 f.2.2.2.1])),(20,.cell false (.ag [.tv (.ba 16) f.2.2.2.2.1,.tv qh f.2.2.2.2.2.1,.v 25 f.1.length])),(25,.vec false 37 (.sl 37 qX) f.1),(100050,.vec false 37 (.sl 37 qX) (y.1:List qm))],false,[]⟩)
def qAk (N:Nat):List (Nat×qw):=[]
abbrev WB:=List qm×Int
def ql6:SP:=⟨0,28,[],[(1,.k (.p 10 [] 0)),(2,.k (.p 20 [] 0)),(10,.x (.i .i64)),(11,.x (.i .i64))],[(10,.cell false (.ag [.x (.ba 16),.x qh,.v 100050])),(20,.cell false (.ag [.x (.ba 16),.x qh,.vs 25])),(25,.vec false 37),(100050,.vec false 37)],false,[]⟩
def qAm (f:KU) (v:WB):TSt:=zq ql6 [dv (.sl 37 qX) f.1,dv (.sl 37 qX) v.1,dv (.ba 16) f.2.1,dv qh f.2.2.1,dv .nat f.2.2.2.1,dv (.ba 16) f.2.2.2.2.1,dv qh f.2.2.2.2.2.1,dv (.i .i64) f.2.2.2.2.2.2,dv (.i .i64) v.2]
def KQ (N:Nat) (o_3:List qm) (o_3_3:Vector UInt8 16) (o_3_4:qc) (o_3_5:Nat) (o_3_6:Vector UInt8 16) (o_3_7:qc) (s10_3:Int) (v:WB):Tree (WB⊕Vu):=
 .cond (decide (v.2 < s10_3)) (
 .chk (0≤v.2∧v.2 < ((o_3_5:Nat):Int)) <|
 .bind (jy v.1 o_3_5 v.2.toNat) fun e1=>
 .bind (Vq (qm.B e1)) fun r2=>
 .chk (0≤v.2∧v.2 < ((o_3_5:Nat):Int)) <|
 .bind (jy v.1 o_3_5 v.2.toNat) fun e3=>
 .chk (qp (v.2 + 1)) <|
 .ret (.inl (v.1.set v.2.toNat (qm.mk (qm.No e3) (qm.S e3) (qm.Len e3) (qm.D e3) ((([]:List zy))++(qm.B e1))),v.2 + 1))) <|
 .ret (.inr (v.1,v.2,decide (v.2 < s10_3)))
def qlI (N n:Nat) (f:KU) (v:WB):Option Vu:=qQ (KQ N f.1 f.2.1 f.2.2.1 f.2.2.2.1 f.2.2.2.2.1 f.2.2.2.2.2.1 f.2.2.2.2.2.2) some n v
theorem qAD (N:Nat) (f:KU) (n:Nat) (v:WB) (y:Vu) (h:qlI N n f v=some y):LG Tryz.prog qjw 63 (qE qCf 3) (qAm f v) (WQ f y):=
 zj qk (E:=qrN N) (L:=qJ (qAk N)) (st:=WQ f) (g:=some) (R:=WQ f) (qnv N) (qt (by kernel_rfl) trivial) (rg0 (by kernel_rfl)) (fun v=>by kernel_rfl) (qP (st:=WQ f) fun y=>by rfl) n v y h
def qis (N:Nat) (o_3:List qm) (o_3_3:Vector UInt8 16) (o_3_4:qc) (o_3_5:Nat) (o_3_6:Vector UInt8 16) (o_3_7:qc) (s10_3:Int) (o_3_2:List qm) (s11_3:Int):Option Vu:=qlI N N (o_3,o_3_3,o_3_4,o_3_5,o_3_6,o_3_7,s10_3) (o_3_2,s11_3)
def qlY (N:Nat):qw:=smL ql6 [(.sl 37 qX),(.sl 37 qX),(.ba 16),qh,.nat,(.ba 16),qh,(.i .i64),(.i .i64)] Vu (fun x=>qis N x.1 x.2.2.1 x.2.2.2.1 x.2.2.2.2.1 x.2.2.2.2.2.1 x.2.2.2.2.2.2.1 x.2.2.2.2.2.2.2.1 x.2.1 x.2.2.2.2.2.2.2.2.1) cs1 fun x=>WQ (x.1,x.2.2.1,x.2.2.2.1,x.2.2.2.2.1,x.2.2.2.2.2.1,x.2.2.2.2.2.2.1,x.2.2.2.2.2.2.2.1)
theorem qwC (N:Nat):zZ Tryz.prog qjw 63 (qE qCf 3) (qlY N):=zp fun x z h=>qAD N (x.1,x.2.2.1,x.2.2.2.1,x.2.2.2.2.1,x.2.2.2.2.2.1,x.2.2.2.2.2.2.1,x.2.2.2.2.2.2.2.1) N (x.2.1,x.2.2.2.2.2.2.2.2.1) z h
def qFf (z:qn):TV×THp:=(.tv qZ z,[])
def qjK (N:Nat) (a0:qn):Tree (qn):=
 .bind (Zx (qn.F a0)) fun r1=>
 .bind (zV [(([]:List qm).length,0)] (qis N [] (qn.ID a0) (qn.qz a0) (((([]:List qm))++(qn.F a0)).length) ((Vector.replicate 16 0)) (qc.mk 0 0) ((((([]:List qm))++(qn.F a0)).length:Nat):Int) ((([]:List qm))++(qn.F a0)) 0)) fun z2=>
 .chk (z2.1.length=((([]:List qm))++(qn.F a0)).length) <|
 .ret (qn.mk (qn.ID a0) (qn.qz a0) z2.1)
def qip (N:Nat) (a0:qn):Option (qn):=(qjK N a0).run some
def qFb (N:Nat):List (Nat×qw):=[(3,qlY N)]
def qsC (N:Nat):Ent:=smF ⟨63,[],[.x qZ],[],[]⟩ [qZ] (qn) (fun x=>qip N x.1) cs1 fun _=>qFf
theorem qDE (N:Nat):zf Tryz.prog (qsC N):=
 zd (H:=qjw) (L:=qJ (qFb N)) (ts:=[qZ]) (T:=fun x=>qjK N x.1) 0 qRk (qnv N) (qt (by kernel_rfl) ⟨qwC N,trivial⟩) (rg0 (by kernel_rfl)) fun x=>by kernel_rfl
noncomputable def qRN:Code:=Tryz.f26.body.getD .skip
theorem qUg:FnF Tryz.prog 26 Tryz.f26 qRN:=⟨qk,by kernel_rfl,by kernel_rfl,by kernel_rfl⟩
def qEW:TH:={ live:=[(0,[2,3,4]),(1,[2,4,6]),(2,[2,4,6,12]),(3,[4,5]),(4,[4,5])],nil:=[(0,[⟨.ob 40 [2],45,(.sl 37 qX)⟩]),(3,[⟨.ob 40 [2],45,(.sl 37 qX)⟩])] }
def qDs (N:Nat):List Ent:=[qeS N,qsC N]
theorem qAB (N:Nat):qU Tryz.prog (qDs N):=⟨qnI N,qDE N,trivial⟩
def qEl (z:qn×Bool):TV×THp:=(.tup [.tv qZ (z.1:qn),xb z.2],[])
def qhQ (N:Nat) (a0:qg) (a1:Vector UInt8 16):Tree (qn×Bool):=
 .bind (Wg N a1 (qg.L a0)) fun r1=>
 .cond (decide (r1 < ((0:Int)))) (
 .chk (0=0) <|
 .ret (qn.mk ((Vector.replicate 16 0)) (qc.mk 0 0) [],false)) <|
 .bind (qM (qg.L a0) r1) fun e2=>
 .bind (qip N e2) fun r3=>
 .ret (r3,true)
def YO (N:Nat) (a0:qg) (a1:Vector UInt8 16):Option (qn×Bool):=(qhQ N a0 a1).run some
def qDP (N:Nat):List (Nat×qw):=[]
def qhJ (N:Nat):Ent:=smF ⟨26,[],[.x qo,.x (.ba 16)],[],[]⟩ [qo,(.ba 16)] (qn×Bool) (fun x=>YO N x.1 x.2.1) cs1 fun _=>qEl
theorem qmS (N:Nat):zf Tryz.prog (qhJ N):=
 zd (H:=qEW) (L:=qJ (qDP N)) (ts:=[qo,(.ba 16)]) (T:=fun x=>qhQ N x.1 x.2.1) 0 qUg (qAB N) (qt (by kernel_rfl) trivial) (rg0 (by kernel_rfl)) fun x=>by kernel_rfl
noncomputable def qRJ:Code:=Tryz.f82.body.getD .skip
theorem qRO:FnF Tryz.prog 82 Tryz.f82 qRJ:=⟨qk,by kernel_rfl,by kernel_rfl,by kernel_rfl⟩
def qAG:TH:={ live:=[(0,[1,2]),(1,[3])] }
def qz2 (N:Nat):List Ent:=[]
theorem qwm (N:Nat):qU Tryz.prog (qz2 N):=trivial
def qz6 (a0:Int) (a1:qm) (z:Unit):TV×THp:=(xb (decide ((qm.No a1)=a0)),[(50,.cell false (xi a0))])
def qlO (a0:Int) (a1:qm):Tree (Unit):=
 .ret ()
def qia (a0:Int) (a1:qm):Option (Unit):=(qlO a0 a1).run some
def qzZ:List (Nat×qw):=[]
def ql0:Ent:=smF ⟨82,[],[.x qX],[.k (.p 50 [] 0)],[(50,.cell false (.x (.i .i64)))]⟩ [(.i .i64),qX] (Unit) (fun x=>qia x.1 x.2.1) cs1 fun x=>qz6 x.1 x.2.1
theorem qwy:zf Tryz.prog (ql0):=
 zd (H:=qAG) (L:=qJ (qzZ)) (ts:=[(.i .i64),qX]) (T:=fun x=>qlO x.1 x.2.1) 0 qRO (qwm 0) (qt (by kernel_rfl) trivial) (rg0 (by kernel_rfl)) fun x=>by kernel_rfl
noncomputable def qCl:Code:=Tryz.f64.body.getD .skip
theorem qRf:FnF Tryz.prog 64 Tryz.f64 qCl:=⟨qk,by kernel_rfl,by kernel_rfl,by kernel_rfl⟩
def WY:TH:={ live:=[(0,[0,1]),(1,[0,1,7,8]),(2,[0,1,7,8,9]),(3,[0,1,5,7,8]),(4,[0,1,5,7,8,16]),(5,[4]),(6,[0,1,7,8]),(7,[4])] }
def qc5 (N:Nat):List Ent:=[ql0]
theorem qaF (N:Nat):qU Tryz.prog (qc5 N):=⟨qwy,trivial⟩
abbrev Q7:=Int×List qm×Int
abbrev jP:=Int⊕(Int×Bool)
def vB (f:Q7):jP→Ex×TSt
 | .inl y=>(.ret,⟨1,19,[50],[(4,xi y)],[(50,.cell false (xi f.1))],false,[]⟩)
 | .inr y=>(.exit 0,⟨1,19,[50],[(0,.tv (.sl 37 qX) f.2.1),(1,.fn (.func 82) [] [.p 50 [] 0]),(7,xi f.2.2),(8,xi y.1),(9,xb y.2)],[(50,.cell false (xi f.1))],false,[]⟩)
def qjS (N:Nat):List (Nat×qw):=[]
abbrev vF:=Int
def qaA:SP:=⟨1,19,[50],[(0,.x (.sl 37 qX)),(1,.fn 82 [] [.k (.p 50 [] 0)]),(7,.x (.i .i64)),(8,.x (.i .i64))],[(50,.cell false (.x (.i .i64)))],false,[]⟩
def qj0 (f:Q7) (v:vF):TSt:=zq qaA [dv (.i .i64) f.1,dv (.sl 37 qX) f.2.1,dv (.i .i64) f.2.2,dv (.i .i64) v]
def vG (N:Nat) (o_2:Int) (s0_2:List qm) (s7_2:Int) (v:vF):Tree (vF⊕jP):=
 .cond (decide (v < s7_2)) (
 .bind (qM s0_2 v) fun e1=>
 .bind (qia o_2 e1) fun r2=>
 .cond (decide ((qm.No e1)=o_2)) (
 .ret (.inr (.inl v))) <|
 .chk (qp (v + 1)) <|
 .ret (.inl (v + 1))) <|
 .ret (.inr (.inr ((v,decide (v < s7_2)))))
def qav (N n:Nat) (f:Q7) (v:vF):Option jP:=qQ (vG N f.1 f.2.1 f.2.2) some n v
theorem qjZ (N:Nat) (f:Q7) (n:Nat) (v:vF) (y:jP) (h:qav N n f v=some y):LG Tryz.prog WY 64 (qE qCl 2) (qj0 f v) (vB f y):=
 zj qk (E:=qc5 N) (L:=qJ (qjS N)) (st:=vB f) (g:=some) (R:=vB f) (qaF N) (qt (by kernel_rfl) trivial) (rg0 (by kernel_rfl)) (fun v=>by kernel_rfl) (qP (st:=vB f) fun y=>by rcases y with _ | _<;>rfl) n v y h
def Wr (N:Nat) (o_2:Int) (s0_2:List qm) (s7_2:Int) (s8_2:Int):Option jP:=qav N N (o_2,s0_2,s7_2) s8_2
def qaf (N:Nat):qw:=smL qaA [(.i .i64),(.sl 37 qX),(.i .i64),(.i .i64)] jP (fun x=>Wr N x.1 x.2.1 x.2.2.1 x.2.2.2.1) (csS cs1) fun x=>vB (x.1,x.2.1,x.2.2.1)
theorem qiZ (N:Nat):zZ Tryz.prog WY 64 (qE qCl 2) (qaf N):=zp fun x z h=>qjZ N (x.1,x.2.1,x.2.2.1) N x.2.2.2.1 z h
def ql7 (a0:Int) (z:Int):TV×THp:=(xi z,[(50,.cell false (xi a0))])
def WW (N:Nat) (a0:Int) (a1:List qm):Tree (Int):=
 .bind (Wr N a0 a1 ((a1.length:Nat):Int) 0) fun z1=>
 .sum z1 (fun z2=>
 .ret z2) fun z2=>
 .ret (-1)
def VK (N:Nat) (a0:Int) (a1:List qm):Option (Int):=(WW N a0 a1).run some
def qmp (N:Nat):List (Nat×qw):=[(2,qaf N)]
def qcW (N:Nat):Ent:=smF ⟨64,[],[.x (.sl 37 qX),.fn 82 [] [.k (.p 50 [] 0)]],[],[(50,.cell false (.x (.i .i64)))]⟩ [(.i .i64),(.sl 37 qX)] (Int) (fun x=>VK N x.1 x.2.1) cs1 fun x=>ql7 x.1
theorem qlA (N:Nat):zf Tryz.prog (qcW N):=
 zd (H:=WY) (L:=qJ (qmp N)) (ts:=[(.i .i64),(.sl 37 qX)]) (T:=fun x=>WW N x.1 x.2.1) 0 qRf (qaF N) (qt (by kernel_rfl) ⟨qiZ N,trivial⟩) (rg0 (by kernel_rfl)) fun x=>by kernel_rfl
noncomputable def qRW:Code:=Tryz.f49.body.getD .skip
theorem qRY:FnF Tryz.prog 49 Tryz.f49 qRW:=⟨qk,by kernel_rfl,by kernel_rfl,by kernel_rfl⟩
def qDf:TH:={ live:=[(0,[3,4,5]),(1,[3,4,7]),(2,[3,4,7,12]),(3,[6]),(4,[3,4,7,19]),(5,[6]),(6,[3,4,7,22]),(7,[6]),(8,[6])] }
def qD6 (N:Nat):List Ent:=[qcW N,XN N,qCd N,quB]
theorem qzP (N:Nat):qU Tryz.prog (qD6 N):=⟨qlA N,Ws N,qG3 N,qA2,trivial⟩
def qEE (z:Bool):TV×THp:=(xb z,[])
def qhI (N:Nat) (a0:qe) (a1:qn) (a2:Int):Tree (Bool):=
 .bind (VK N a2 (qn.F a1)) fun r1=>
 .bind (vv N (qn.qz a1) (qe.S a0)) fun r2=>
 .cond (!r2) (
 .ret false) <|
 .cond (decide (r1 < ((0:Int)))) (
 .ret true) <|
 .bind (qM (qn.F a1) r1) fun e3=>
 .cond (!(eqE qh (qm.S e3) (qe.S a0))) (
 .bind (qM (qn.F a1) r1) fun e4=>
 .bind (vv N (qm.S e4) (qe.S a0)) fun r5=>
 .ret r5) <|
 .bind (qM (qn.F a1) r1) fun e4=>
 .bind (qsf N (qe.V a0)) fun r5=>
 .bind (qj3 (qm.D e4) r5) fun r6=>
 .ret r6
def YQ (N:Nat) (a0:qe) (a1:qn) (a2:Int):Option (Bool):=(qhI N a0 a1 a2).run some
def qDZ (N:Nat):List (Nat×qw):=[]
def qiL (N:Nat):Ent:=smF ⟨49,[],[.x qq,.x qZ,.x (.i .i64)],[],[]⟩ [qq,qZ,(.i .i64)] (Bool) (fun x=>YQ N x.1 x.2.1 x.2.2.1) cs1 fun _=>qEE
theorem qng (N:Nat):zf Tryz.prog (qiL N):=
 zd (H:=qDf) (L:=qJ (qDZ N)) (ts:=[qq,qZ,(.i .i64)]) (T:=fun x=>qhI N x.1 x.2.1 x.2.2.1) 0 qRY (qzP N) (qt (by kernel_rfl) trivial) (rg0 (by kernel_rfl)) fun x=>by kernel_rfl
def qsh:TH:={ live:=[(0,[2,3]),(1,[2,3,14]),(2,[4]),(3,[2,3,5]),(4,[5,17]),(5,[5,6]),(6,[5,6,21]),(8,[4])],dec:=[10],fresh:=[17] }
def qsF (N:Nat):List Ent:=[qiU]
theorem qoA (N:Nat):qU Tryz.prog (qsF N):=⟨qlc,trivial⟩
def qsS (a0:qb) (a1:qg) (a2:qa):Unit⊕Unit→TV×THp
 | .inl z=>(.bc true,[(50,.cell false (.v 200250 1)),(50050,.loop [18] 27 [(5,.p 50 [] 0),(17,.fn (.func 79) [] [.p 100020 [] 0,.p 100030 [] 0])] 1600005 16 .ready none 50051),(50051,.dfr true),(100020,.cell false (.tv qj a0)),(100030,.cell false (.tv qo a1)),(200250,.vec false 19 (.sl 19 qf) ([a2]:List qa))])
 | .inr z=>(.bc true,[(50,.cell false .nils),(50050,.loop [18] 27 [(5,.p 50 [] 0),(17,.fn (.func 79) [] [.p 100020 [] 0,.p 100030 [] 0])] 1600005 16 .ready none 50051),(50051,.dfr true),(100020,.cell false (.tv qj a0)),(100030,.cell false (.tv qo a1))])
def qap (a0:qb) (a1:qg) (a2:qa):Tree (Unit⊕Unit):=
 .bind (Vl a2) fun r1=>
 .cond (!r1) (
 .chk (qhY 1 56) <|
 .ret (.inl ())) <|
 .ret (.inr ())
def Zw (a0:qb) (a1:qg) (a2:qa):Option (Unit⊕Unit):=(qap a0 a1 a2).run some
def qsJ:List (Nat×qw):=[]
def qgR:Ent:=smR 50050 [.x qf] [(50,.cell false (.k .nils)),(50050,.loop [18] 27 [(5,.k (.p 50 [] 0)),(17,.fn 79 [] [.k (.p 100020 [] 0),.k (.p 100030 [] 0)])] 1600005 16 .ready none 50051),(50051,.dfr true),(100020,.cell false (.x qj)),(100030,.cell false (.x qo))] [qj,qo,qf] (Unit⊕Unit) (fun x=>Zw x.1 x.2.1 x.2.2.1) (csS cs1) fun x=>qsS x.1 x.2.1 x.2.2.1
theorem qrc:zf Tryz.prog (qgR):=
 qOl (H:=qsh) (L:=qJ (qsJ)) (ts:=[qj,qo,qf]) (T:=fun x=>qap x.1 x.2.1 x.2.2.1) (K:=16) (cid:=1600005) 2 qk (qoA 0) (by kernel_rfl) (qt (by kernel_rfl) trivial) (rg0 (by kernel_rfl)) (rg0 (by kernel_rfl)) (fun x=>by kernel_rfl) fun x=>by kernel_rfl
def qoe:TH:={ live:=[(0,[2,3]),(1,[2,3,14]),(2,[4]),(3,[2,3,5]),(4,[5,17]),(5,[5,6]),(6,[5,6,21]),(8,[4])],dec:=[10],fresh:=[17] }
def qoF (N:Nat):List Ent:=[qiU]
theorem qmw (N:Nat):qU Tryz.prog (qoF N):=⟨qlc,trivial⟩
def qnZ (a1:qb) (a2:qg) (z:List qa):TV×THp:=(.bc true,[(50,.cell false (.v 200250 z.length)),(50050,.loop [18] 27 [(5,.p 50 [] 0),(17,.fn (.func 79) [] [.p 100020 [] 0,.p 100030 [] 0])] 1600005 16 .ready none 50051),(50051,.dfr true),(100020,.cell false (.tv qj a1)),(100030,.cell false (.tv qo a2)),(200250,.vec false 19 (.sl 19 qf) z)])
def YI (a0:List qa) (a1:qb) (a2:qg) (a3:qa):Tree (List qa):=
 .bind (Vl a3) fun r1=>
 .cond (!r1) (
 .chk (zU a0.length a0.length ((a0++[a3]).length) 56) <|
 .ret (a0++[a3])) <|
 .ret a0
def Jp (a0:List qa) (a1:qb) (a2:qg) (a3:qa):Option (List qa):=(YI a0 a1 a2 a3).run some
def qn3:List (Nat×qw):=[]
def qeY:Ent:=smR 50050 [.x qf] [(50,.cell false (.vs 200250)),(50050,.loop [18] 27 [(5,.k (.p 50 [] 0)),(17,.fn 79 [] [.k (.p 100020 [] 0),.k (.p 100030 [] 0)])] 1600005 16 .ready none 50051),(50051,.dfr true),(100020,.cell false (.x qj)),(100030,.cell false (.x qo)),(200250,.vec false 19)] [(.sl 19 qf),qj,qo,qf] (List qa) (fun x=>Jp x.1 x.2.1 x.2.2.1 x.2.2.2.1) cs1 fun x=>qnZ x.2.1 x.2.2.1
theorem qnJ:zf Tryz.prog (qeY):=
 qOl (H:=qoe) (L:=qJ (qn3)) (ts:=[(.sl 19 qf),qj,qo,qf]) (T:=fun x=>YI x.1 x.2.1 x.2.2.1 x.2.2.2.1) (K:=16) (cid:=1600005) 3 qk (qmw 0) (by kernel_rfl) (qt (by kernel_rfl) trivial) (rg0 (by kernel_rfl)) (rg0 (by kernel_rfl)) (fun x=>by kernel_rfl) fun x=>by kernel_rfl
noncomputable def qd0:Code:=Tryz.f79.body.getD .skip
theorem qRd:FnF Tryz.prog 79 Tryz.f79 qd0:=⟨qk,by kernel_rfl,by kernel_rfl,by kernel_rfl⟩
def Jo:TH:={ live:=[(0,[0,2,12,13,14]),(1,[0,2,12,13,14,15]),(2,[0,2,5,12,13,14]),(3,[0,2,5,6,12,13,14]),(4,[0,2,5,6,8,12,13,14]),(5,[0,2,5,6,8,12,13,14,32]),(6,[0,2,5,6,8,12,13,14]),(7,[0,2,6,8,12,13,14,37,38,39]),(8,[0,2,6,8,12,13,14,37,38,39,40]),(9,[0,2,6,8,10,12,13,14,37,38,39]),(10,[0,2,6,8,10,12,13,14,37,38,39,48]),(11,[0,2,6,8,12,13,14,37,38,39]),(12,[0,2,6,8,12,13,14,37,38,39]),(13,[0,2,12,13,14,59]),(14,[0,2,12,13,14])],fresh:=[58],nil:=[(4,[⟨.ob 200080 [2],200085,(.sl 4 qB)⟩])] }
def qai (N:Nat):List Ent:=[qhJ N,XN N,qiL N,qgR,qeY]
theorem Ys (N:Nat):qU Tryz.prog (qai N):=⟨qmS N,Ws N,qng N,qrc,qnJ,trivial⟩
abbrev KW:=qb×qg×qn×Vector UInt8 16×qc×List qa×Int×Int×List qd×Int
abbrev Vo:=List qd×Int×Bool
def WA (f:KW) (y:Vo):Ex×TSt:=(.exit 2,⟨2,61,[50,50050,50051,100020,100030],[(0,.yl 50050),(2,.p 100030 [] 0),(6,.p 200060 [] 0),(8,.p 200080 [] 0),(12,.tv (.sl 19 qf) f.2.2.2.2.2.1),(13,xi f.2.2.2.2.2.2.1),(14,xi f.2.2.2.2.2.2.2.1),(37,.tv (.sl 4 qB) f.2.2.2.2.2.2.2.2.1),(38,xi f.2.2.2.2.2.2.2.2.2),(39,xi y.2.1),(40,xb y.2.2)],[(50,.cell false .nils),(50050,.loop [18] 27 [(5,.p 50 [] 0),(17,.fn (.func 79) [] [.p 100020 [] 0,.p 100030 [] 0])] 1600005 16 .ready none 50051),(50051,.dfr true),(100020,.cell false (.tv qj f.1)),(100030,.cell false (.tv qo f.2.1)),(200060,.cell false (.tv qZ f.2.2.1)),(200080,.cell false (.ag [.tv (.ba 16) f.2.2.2.1,.tv qh f.2.2.2.2.1,.v 200085 y.1.length])),(200085,.vec false 4 (.sl 4 qB) (y.1:List qd))],false,[]⟩)
def qzQ (N:Nat):List (Nat×qw):=[]
abbrev WK:=List qd×Int
def qlN:SP:=⟨2,61,[50,50050,50051,100020,100030],[(0,.k (.yl 50050)),(2,.k (.p 100030 [] 0)),(6,.k (.p 200060 [] 0)),(8,.k (.p 200080 [] 0)),(12,.x (.sl 19 qf)),(13,.x (.i .i64)),(14,.x (.i .i64)),(37,.x (.sl 4 qB)),(38,.x (.i .i64)),(39,.x (.i .i64))],[(50,.cell false (.k .nils)),(50050,.loop [18] 27 [(5,.k (.p 50 [] 0)),(17,.fn 79 [] [.k (.p 100020 [] 0),.k (.p 100030 [] 0)])] 1600005 16 .ready none 50051),(50051,.dfr true),(100020,.cell false (.x qj)),(100030,.cell false (.x qo)),(200060,.cell false (.x qZ)),(200080,.cell false (.ag [.x (.ba 16),.x qh,.vs 200085])),(200085,.vec false 4)],false,[]⟩
def qAi (f:KW) (v:WK):TSt:=zq qlN [dv (.sl 4 qB) v.1,dv qj f.1,dv qo f.2.1,dv qZ f.2.2.1,dv (.ba 16) f.2.2.2.1,dv qh f.2.2.2.2.1,dv (.sl 19 qf) f.2.2.2.2.2.1,dv (.i .i64) f.2.2.2.2.2.2.1,dv (.i .i64) f.2.2.2.2.2.2.2.1,dv (.sl 4 qB) f.2.2.2.2.2.2.2.2.1,dv (.i .i64) f.2.2.2.2.2.2.2.2.2,dv (.i .i64) v.2]
def KO (N:Nat) (o_8_2:qb) (o_8_3:qg) (o_8_4:qn) (o_8_5:Vector UInt8 16) (o_8_6:qc) (s12_8:List qa) (s13_8:Int) (s14_8:Int) (s37_8:List qd) (s38_8:Int) (v:WK):Tree (WK⊕Vo):=
 .cond (decide (v.2 < s38_8)) (
 .bind (qM s37_8 v.2) fun e1=>
 .bind (YQ N (qd.C e1) o_8_4 (qd.No e1)) fun r2=>
 .cond r2 (
 .chk (zU v.1.length v.1.length ((v.1++[e1]).length) 40) <|
 .chk (qp (v.2 + 1)) <|
 .ret (.inl (v.1++[e1],v.2 + 1))) <|
 .chk (qp (v.2 + 1)) <|
 .ret (.inl (v.1,v.2 + 1))) <|
 .ret (.inr (v.1,v.2,decide (v.2 < s38_8)))
def ql4 (N n:Nat) (f:KW) (v:WK):Option Vo:=qQ (KO N f.1 f.2.1 f.2.2.1 f.2.2.2.1 f.2.2.2.2.1 f.2.2.2.2.2.1 f.2.2.2.2.2.2.1 f.2.2.2.2.2.2.2.1 f.2.2.2.2.2.2.2.2.1 f.2.2.2.2.2.2.2.2.2) some n v
theorem qAh (N:Nat) (f:KW) (n:Nat) (v:WK) (y:Vo) (h:ql4 N n f v=some y):LG Tryz.prog Jo 79 (qE (qE qd0 1) 8) (qAi f v) (WA f y):=
 zj qk (E:=qai N) (L:=qJ (qzQ N)) (st:=WA f) (g:=some) (R:=WA f) (Ys N) (qt (by kernel_rfl) trivial) (rg0 (by kernel_rfl)) (fun v=>by kernel_rfl) (qP (st:=WA f) fun y=>by rfl) n v y h
def Y5 (N:Nat) (o_8_2:qb) (o_8_3:qg) (o_8_4:qn) (o_8_5:Vector UInt8 16) (o_8_6:qc) (s12_8:List qa) (s13_8:Int) (s14_8:Int) (s37_8:List qd) (s38_8:Int) (o_8:List qd) (s39_8:Int):Option Vo:=ql4 N N (o_8_2,o_8_3,o_8_4,o_8_5,o_8_6,s12_8,s13_8,s14_8,s37_8,s38_8) (o_8,s39_8)
def qlZ (N:Nat):qw:=smL qlN [(.sl 4 qB),qj,qo,qZ,(.ba 16),qh,(.sl 19 qf),(.i .i64),(.i .i64),(.sl 4 qB),(.i .i64),(.i .i64)] Vo (fun x=>Y5 N x.2.1 x.2.2.1 x.2.2.2.1 x.2.2.2.2.1 x.2.2.2.2.2.1 x.2.2.2.2.2.2.1 x.2.2.2.2.2.2.2.1 x.2.2.2.2.2.2.2.2.1 x.2.2.2.2.2.2.2.2.2.1 x.2.2.2.2.2.2.2.2.2.2.1 x.1 x.2.2.2.2.2.2.2.2.2.2.2.1) cs1 fun x=>WA (x.2.1,x.2.2.1,x.2.2.2.1,x.2.2.2.2.1,x.2.2.2.2.2.1,x.2.2.2.2.2.2.1,x.2.2.2.2.2.2.2.1,x.2.2.2.2.2.2.2.2.1,x.2.2.2.2.2.2.2.2.2.1,x.2.2.2.2.2.2.2.2.2.2.1)
theorem qkv (N:Nat):zZ Tryz.prog Jo 79 (qE (qE qd0 1) 8) (qlZ N):=zp fun x z h=>qAh N (x.2.1,x.2.2.1,x.2.2.2.1,x.2.2.2.2.1,x.2.2.2.2.2.1,x.2.2.2.2.2.2.1,x.2.2.2.2.2.2.2.1,x.2.2.2.2.2.2.2.2.1,x.2.2.2.2.2.2.2.2.2.1,x.2.2.2.2.2.2.2.2.2.2.1) N (x.1,x.2.2.2.2.2.2.2.2.2.2.2.1) z h
abbrev Yy:=List qa×qb×qg×qn×Vector UInt8 16×qc×List qa×Int×Int×List qd×Int
abbrev Zz:=List qd×Int×Bool
def VV (f:Yy) (y:Zz):Ex×TSt:=(.exit 2,⟨2,61,[50,50050,50051,100020,100030],[(0,.yl 50050),(2,.p 100030 [] 0),(6,.p 200060 [] 0),(8,.p 200080 [] 0),(12,.tv (.sl 19 qf) f.2.2.2.2.2.2.1),(13,xi f.2.2.2.2.2.2.2.1),(14,xi f.2.2.2.2.2.2.2.2.1),(37,.tv (.sl 4 qB) f.2.2.2.2.2.2.2.2.2.1),(38,xi f.2.2.2.2.2.2.2.2.2.2),(39,xi y.2.1),(40,xb y.2.2)],[(50,.cell false (.v 200250 f.1.length)),(50050,.loop [18] 27 [(5,.p 50 [] 0),(17,.fn (.func 79) [] [.p 100020 [] 0,.p 100030 [] 0])] 1600005 16 .ready none 50051),(50051,.dfr true),(100020,.cell false (.tv qj f.2.1)),(100030,.cell false (.tv qo f.2.2.1)),(200060,.cell false (.tv qZ f.2.2.2.1)),(200080,.cell false (.ag [.tv (.ba 16) f.2.2.2.2.1,.tv qh f.2.2.2.2.2.1,.v 200085 y.1.length])),(200085,.vec false 4 (.sl 4 qB) (y.1:List qd)),(200250,.vec false 19 (.sl 19 qf) f.1)],false,[]⟩)
def qwd (N:Nat):List (Nat×qw):=[]
abbrev V2:=List qd×Int
def qjl:SP:=⟨2,61,[50,50050,50051,100020,100030],[(0,.k (.yl 50050)),(2,.k (.p 100030 [] 0)),(6,.k (.p 200060 [] 0)),(8,.k (.p 200080 [] 0)),(12,.x (.sl 19 qf)),(13,.x (.i .i64)),(14,.x (.i .i64)),(37,.x (.sl 4 qB)),(38,.x (.i .i64)),(39,.x (.i .i64))],[(50,.cell false (.vs 200250)),(50050,.loop [18] 27 [(5,.k (.p 50 [] 0)),(17,.fn 79 [] [.k (.p 100020 [] 0),.k (.p 100030 [] 0)])] 1600005 16 .ready none 50051),(50051,.dfr true),(100020,.cell false (.x qj)),(100030,.cell false (.x qo)),(200060,.cell false (.x qZ)),(200080,.cell false (.ag [.x (.ba 16),.x qh,.vs 200085])),(200085,.vec false 4),(200250,.vec false 19)],false,[]⟩
def qwq (f:Yy) (v:V2):TSt:=zq qjl [dv (.sl 4 qB) v.1,dv (.sl 19 qf) f.1,dv qj f.2.1,dv qo f.2.2.1,dv qZ f.2.2.2.1,dv (.ba 16) f.2.2.2.2.1,dv qh f.2.2.2.2.2.1,dv (.sl 19 qf) f.2.2.2.2.2.2.1,dv (.i .i64) f.2.2.2.2.2.2.2.1,dv (.i .i64) f.2.2.2.2.2.2.2.2.1,dv (.sl 4 qB) f.2.2.2.2.2.2.2.2.2.1,dv (.i .i64) f.2.2.2.2.2.2.2.2.2.2,dv (.i .i64) v.2]
def qvL (N:Nat) (o_8_2:List qa) (o_8_3:qb) (o_8_4:qg) (o_8_5:qn) (o_8_6:Vector UInt8 16) (o_8_7:qc) (s12_8:List qa) (s13_8:Int) (s14_8:Int) (s37_8:List qd) (s38_8:Int) (v:V2):Tree (V2⊕Zz):=
 .cond (decide (v.2 < s38_8)) (
 .bind (qM s37_8 v.2) fun e1=>
 .bind (YQ N (qd.C e1) o_8_5 (qd.No e1)) fun r2=>
 .cond r2 (
 .chk (zU v.1.length v.1.length ((v.1++[e1]).length) 40) <|
 .chk (qp (v.2 + 1)) <|
 .ret (.inl (v.1++[e1],v.2 + 1))) <|
 .chk (qp (v.2 + 1)) <|
 .ret (.inl (v.1,v.2 + 1))) <|
 .ret (.inr (v.1,v.2,decide (v.2 < s38_8)))
def qjn (N n:Nat) (f:Yy) (v:V2):Option Zz:=qQ (qvL N f.1 f.2.1 f.2.2.1 f.2.2.2.1 f.2.2.2.2.1 f.2.2.2.2.2.1 f.2.2.2.2.2.2.1 f.2.2.2.2.2.2.2.1 f.2.2.2.2.2.2.2.2.1 f.2.2.2.2.2.2.2.2.2.1 f.2.2.2.2.2.2.2.2.2.2) some n v
theorem qwl (N:Nat) (f:Yy) (n:Nat) (v:V2) (y:Zz) (h:qjn N n f v=some y):LG Tryz.prog Jo 79 (qE (qE qd0 1) 8) (qwq f v) (VV f y):=
 zj qk (E:=qai N) (L:=qJ (qwd N)) (st:=VV f) (g:=some) (R:=VV f) (Ys N) (qt (by kernel_rfl) trivial) (rg0 (by kernel_rfl)) (fun v=>by kernel_rfl) (qP (st:=VV f) fun y=>by rfl) n v y h
def K1 (N:Nat) (o_8_2:List qa) (o_8_3:qb) (o_8_4:qg) (o_8_5:qn) (o_8_6:Vector UInt8 16) (o_8_7:qc) (s12_8:List qa) (s13_8:Int) (s14_8:Int) (s37_8:List qd) (s38_8:Int) (o_8:List qd) (s39_8:Int):Option Zz:=qjn N N (o_8_2,o_8_3,o_8_4,o_8_5,o_8_6,o_8_7,s12_8,s13_8,s14_8,s37_8,s38_8) (o_8,s39_8)
def qji (N:Nat):qw:=smL qjl [(.sl 4 qB),(.sl 19 qf),qj,qo,qZ,(.ba 16),qh,(.sl 19 qf),(.i .i64),(.i .i64),(.sl 4 qB),(.i .i64),(.i .i64)] Zz (fun x=>K1 N x.2.1 x.2.2.1 x.2.2.2.1 x.2.2.2.2.1 x.2.2.2.2.2.1 x.2.2.2.2.2.2.1 x.2.2.2.2.2.2.2.1 x.2.2.2.2.2.2.2.2.1 x.2.2.2.2.2.2.2.2.2.1 x.2.2.2.2.2.2.2.2.2.2.1 x.2.2.2.2.2.2.2.2.2.2.2.1 x.1 x.2.2.2.2.2.2.2.2.2.2.2.2.1) cs1 fun x=>VV (x.2.1,x.2.2.1,x.2.2.2.1,x.2.2.2.2.1,x.2.2.2.2.2.1,x.2.2.2.2.2.2.1,x.2.2.2.2.2.2.2.1,x.2.2.2.2.2.2.2.2.1,x.2.2.2.2.2.2.2.2.2.1,x.2.2.2.2.2.2.2.2.2.2.1,x.2.2.2.2.2.2.2.2.2.2.2.1)
theorem qh5 (N:Nat):zZ Tryz.prog Jo 79 (qE (qE qd0 1) 8) (qji N):=zp fun x z h=>qwl N (x.2.1,x.2.2.1,x.2.2.2.1,x.2.2.2.2.1,x.2.2.2.2.2.1,x.2.2.2.2.2.2.1,x.2.2.2.2.2.2.2.1,x.2.2.2.2.2.2.2.2.1,x.2.2.2.2.2.2.2.2.2.1,x.2.2.2.2.2.2.2.2.2.2.1,x.2.2.2.2.2.2.2.2.2.2.2.1) N (x.1,x.2.2.2.2.2.2.2.2.2.2.2.2.1) z h
abbrev vA:=qb×qg×List qa×Int
abbrev jY:=(Int×Bool)⊕(List qa×Int×Bool)
def vz (f:vA):jY→Ex×TSt
 | .inl y=>(.exit 0,⟨2,61,[50,50050,50051,100020,100030],[(0,.yl 50050),(2,.p 100030 [] 0),(12,.tv (.sl 19 qf) f.2.2.1),(13,xi f.2.2.2),(14,xi y.1),(15,xb y.2)],[(50,.cell false .nils),(50050,.loop [18] 27 [(5,.p 50 [] 0),(17,.fn (.func 79) [] [.p 100020 [] 0,.p 100030 [] 0])] 1600005 16 .ready none 50051),(50051,.dfr true),(100020,.cell false (.tv qj f.1)),(100030,.cell false (.tv qo f.2.1))],false,[]⟩)
 | .inr y=>(.exit 0,⟨2,61,[50,50050,50051,100020,100030],[(0,.yl 50050),(2,.p 100030 [] 0),(12,.tv (.sl 19 qf) f.2.2.1),(13,xi f.2.2.2),(14,xi y.2.1),(15,xb y.2.2)],[(50,.cell false (.v 200250 y.1.length)),(50050,.loop [18] 27 [(5,.p 50 [] 0),(17,.fn (.func 79) [] [.p 100020 [] 0,.p 100030 [] 0])] 1600005 16 .ready none 50051),(50051,.dfr true),(100020,.cell false (.tv qj f.1)),(100030,.cell false (.tv qo f.2.1)),(200250,.vec false 19 (.sl 19 qf) (y.1:List qa))],false,[]⟩)
def qlH (N:Nat):List (Nat×qw):=[(8,qlZ N),(8,qji N)]
abbrev Q4:=List qa×Int
def qux:SP:=⟨2,61,[50,50050,50051,100020,100030],[(0,.k (.yl 50050)),(2,.k (.p 100030 [] 0)),(12,.x (.sl 19 qf)),(13,.x (.i .i64)),(14,.x (.i .i64))],[(50,.cell false (.vs 200250)),(50050,.loop [18] 27 [(5,.k (.p 50 [] 0)),(17,.fn 79 [] [.k (.p 100020 [] 0),.k (.p 100030 [] 0)])] 1600005 16 .ready none 50051),(50051,.dfr true),(100020,.cell false (.x qj)),(100030,.cell false (.x qo)),(200250,.vec false 19)],false,[]⟩
def qiK (f:vA) (v:Q4):TSt:=zq qux [dv (.sl 19 qf) v.1,dv qj f.1,dv qo f.2.1,dv (.sl 19 qf) f.2.2.1,dv (.i .i64) f.2.2.2,dv (.i .i64) v.2]
def J9 (N:Nat) (o_1:qb) (o_1_2:qg) (s12_1:List qa) (s13_1:Int) (v:Q4):Tree (Q4⊕jY):=
 .cond (decide (v.2 < s13_1)) (
 .bind (qM s12_1 v.2) fun e1=>
 .bind (YO N o_1_2 (qa.ID e1)) fun r2=>
 .bind (vv N (qn.qz r2.1) (qa.qz e1)) fun r3=>
 .cond r3 (
 .bind (zV [(v.1.length,v.1.length),(([]:List qd).length,0)] (K1 N v.1 o_1 o_1_2 r2.1 (qa.ID e1) (qa.qz e1) s12_1 s13_1 v.2 (qa.F e1) (((qa.F e1).length:Nat):Int) [] 0)) fun z4=>
 .chk (z4.1.length=z4.1.length) <|
 .bind (zV [(v.1.length,v.1.length)] (Jp v.1 o_1 o_1_2 (qa.mk (qa.ID e1) (qa.qz e1) z4.1))) fun r5=>
 .chk (qp (v.2 + 1)) <|
 .ret (.inl (r5,v.2 + 1))) <|
 .bind (zV [(v.1.length,v.1.length),(([]:List qd).length,0)] (K1 N v.1 o_1 o_1_2 r2.1 (qa.ID e1) (qc.mk 0 0) s12_1 s13_1 v.2 (qa.F e1) (((qa.F e1).length:Nat):Int) [] 0)) fun z4=>
 .chk (z4.1.length=z4.1.length) <|
 .bind (zV [(v.1.length,v.1.length)] (Jp v.1 o_1 o_1_2 (qa.mk (qa.ID e1) (qc.mk 0 0) z4.1))) fun r5=>
 .chk (qp (v.2 + 1)) <|
 .ret (.inl (r5,v.2 + 1))) <|
 .ret (.inr (.inr ((v.1,v.2,decide (v.2 < s13_1)))))
def qhW (N n:Nat) (f:vA) (v:Q4):Option jY:=qQ (J9 N f.1 f.2.1 f.2.2.1 f.2.2.2) some n v
theorem qsY (N:Nat) (f:vA) (n:Nat) (v:Q4) (y:jY) (h:qhW N n f v=some y):LG Tryz.prog Jo 79 (qE qd0 1) (qiK f v) (vz f y):=
 zj qk (E:=qai N) (L:=qJ (qlH N)) (st:=vz f) (g:=some) (R:=vz f) (Ys N) (qt (by kernel_rfl) ⟨qkv N,qh5 N,trivial⟩) (rg0 (by kernel_rfl)) (fun v=>by kernel_rfl) (qP (st:=vz f) fun y=>by rcases y with _ | _<;>rfl) n v y h
abbrev WO:=Int
def qlJ:SP:=⟨2,61,[50,50050,50051,100020,100030],[(0,.k (.yl 50050)),(2,.k (.p 100030 [] 0)),(12,.x (.sl 19 qf)),(13,.x (.i .i64)),(14,.x (.i .i64))],[(50,.cell false (.k .nils)),(50050,.loop [18] 27 [(5,.k (.p 50 [] 0)),(17,.fn 79 [] [.k (.p 100020 [] 0),.k (.p 100030 [] 0)])] 1600005 16 .ready none 50051),(50051,.dfr true),(100020,.cell false (.x qj)),(100030,.cell false (.x qo))],false,[]⟩
def qAp (f:vA) (v:WO):TSt:=zq qlJ [dv qj f.1,dv qo f.2.1,dv (.sl 19 qf) f.2.2.1,dv (.i .i64) f.2.2.2,dv (.i .i64) v]
abbrev KM:=Q4⊕jY
def WG (N:Nat) (o_1:qb) (o_1_2:qg) (s12_1:List qa) (s13_1:Int) (v:WO):Tree (WO⊕KM):=
 .cond (decide (v < s13_1)) (
 .bind (qM s12_1 v) fun e1=>
 .bind (YO N o_1_2 (qa.ID e1)) fun r2=>
 .bind (vv N (qn.qz r2.1) (qa.qz e1)) fun r3=>
 .cond r3 (
 .bind (zV [(([]:List qd).length,0)] (Y5 N o_1 o_1_2 r2.1 (qa.ID e1) (qa.qz e1) s12_1 s13_1 v (qa.F e1) (((qa.F e1).length:Nat):Int) [] 0)) fun z4=>
 .chk (z4.1.length=z4.1.length) <|
 .bind (Zw o_1 o_1_2 (qa.mk (qa.ID e1) (qa.qz e1) z4.1)) fun r5=>
 .sum r5 (fun r6=>
 .chk (qp (v + 1)) <|
 .ret (.inr (.inl ([qa.mk (qa.ID e1) (qa.qz e1) z4.1],v + 1)))) fun r6=>
 .chk (qp (v + 1)) <|
 .ret (.inl (v + 1))) <|
 .bind (zV [(([]:List qd).length,0)] (Y5 N o_1 o_1_2 r2.1 (qa.ID e1) (qc.mk 0 0) s12_1 s13_1 v (qa.F e1) (((qa.F e1).length:Nat):Int) [] 0)) fun z4=>
 .chk (z4.1.length=z4.1.length) <|
 .bind (Zw o_1 o_1_2 (qa.mk (qa.ID e1) (qc.mk 0 0) z4.1)) fun r5=>
 .sum r5 (fun r6=>
 .chk (qp (v + 1)) <|
 .ret (.inr (.inl ([qa.mk (qa.ID e1) (qc.mk 0 0) z4.1],v + 1)))) fun r6=>
 .chk (qp (v + 1)) <|
 .ret (.inl (v + 1))) <|
 .ret (.inr (.inr ((.inl (v,decide (v < s13_1))))))
def qe_ (N n:Nat) (f:vA):KM→Option jY
 | .inl w=>qhW N n f w
 | .inr w=>some w
def qzY (f:vA):KM→Ex×TSt
 | .inl w=>(.normal,qiK f w)
 | .inr w=>vz f w
def qlM (N n:Nat) (f:vA) (v:WO):Option jY:=qQ (WG N f.1 f.2.1 f.2.2.1 f.2.2.2) (qe_ N n f) n v
theorem qzT (N:Nat) (f:vA) (n:Nat) (v:WO) (y:jY) (h:qlM N n f v=some y):LG Tryz.prog Jo 79 (qE qd0 1) (qAp f v) (vz f y):=
 zj qk (E:=qai N) (L:=qJ (qlH N)) (st:=qzY f) (g:=(qe_ N n f)) (R:=vz f) (Ys N) (qt (by kernel_rfl) ⟨qkv N,qh5 N,trivial⟩) (rg0 (by kernel_rfl)) (fun v=>by kernel_rfl) (fun w y h=>by
 rcases w with w | w
 ·exact qsY N f n w y h
 ·exact qP (st:=vz f) (fun y=>by rcases y with _ | _<;>rfl) w y h
) n v y h
def qhM (N:Nat) (o_1:qb) (o_1_2:qg) (s12_1:List qa) (s13_1:Int) (s14_1:Int):Option jY:=qlM N N (o_1,o_1_2,s12_1,s13_1) s14_1
def qlT (N:Nat):qw:=smL qlJ [qj,qo,(.sl 19 qf),(.i .i64),(.i .i64)] jY (fun x=>qhM N x.1 x.2.1 x.2.2.1 x.2.2.2.1 x.2.2.2.2.1) (csS cs1) fun x=>vz (x.1,x.2.1,x.2.2.1,x.2.2.2.1)
theorem qyA (N:Nat):zZ Tryz.prog Jo 79 (qE qd0 1) (qlT N):=zp fun x z h=>qzT N (x.1,x.2.1,x.2.2.1,x.2.2.2.1) N x.2.2.2.2.1 z h
def qFu (a0:qb) (a1:qg):Unit⊕List qa→TV×THp
 | .inl z=>(.tup [],[(50,.cell false .nils),(50050,.loop [18] 27 [(5,.p 50 [] 0),(17,.fn (.func 79) [] [.p 100020 [] 0,.p 100030 [] 0])] 1600005 16 .ready none 50051),(50051,.dfr true),(100020,.cell false (.tv qj a0)),(100030,.cell false (.tv qo a1))])
 | .inr z=>(.tup [],[(50,.cell false (.v 200250 z.length)),(50050,.loop [18] 27 [(5,.p 50 [] 0),(17,.fn (.func 79) [] [.p 100020 [] 0,.p 100030 [] 0])] 1600005 16 .ready none 50051),(50051,.dfr true),(100020,.cell false (.tv qj a0)),(100030,.cell false (.tv qo a1)),(200250,.vec false 19 (.sl 19 qf) z)])
def qes (N:Nat) (a0:qb) (a1:qg):Tree (Unit⊕List qa):=
 .bind (qhM N a0 a1 (qb.R a0) (((qb.R a0).length:Nat):Int) 0) fun z1=>
 .sum z1 (fun z2=>
 .ret (.inl ())) fun z2=>
 .ret (.inr z2.1)
def qay (N:Nat) (a0:qb) (a1:qg):Option (Unit⊕List qa):=(qes N a0 a1).run some
def qF0 (N:Nat):List (Nat×qw):=[(1,qlT N)]
def qsk (N:Nat):Ent:=smF ⟨79,[],[.k (.yl 50050)],[.k (.p 100020 [] 0),.k (.p 100030 [] 0)],[(50,.cell false (.k .nils)),(50050,.loop [18] 27 [(5,.k (.p 50 [] 0)),(17,.fn 79 [] [.k (.p 100020 [] 0),.k (.p 100030 [] 0)])] 1600005 16 .ready none 50051),(50051,.dfr true),(100020,.cell false (.x qj)),(100030,.cell false (.x qo))]⟩ [qj,qo] (Unit⊕List qa) (fun x=>qay N x.1 x.2.1) (csS cs1) fun x=>qFu x.1 x.2.1
theorem qEO (N:Nat):zf Tryz.prog (qsk N):=
 zd (H:=Jo) (L:=qJ (qF0 N)) (ts:=[qj,qo]) (T:=fun x=>qes N x.1 x.2.1) 1 qRd (Ys N) (qt (by kernel_rfl) ⟨qyA N,trivial⟩) (rg0 (by kernel_rfl)) fun x=>by kernel_rfl
noncomputable def qTD:Code:=Tryz.f16.body.getD .skip
theorem qRq:FnF Tryz.prog 16 Tryz.f16 qTD:=⟨qk,by kernel_rfl,by kernel_rfl,by kernel_rfl⟩
def qHY:TH:={ live:=[(0,[2,3]),(1,[2,3,14]),(2,[4]),(3,[2,3,5]),(4,[5,17]),(5,[5,6]),(6,[5,6,21]),(8,[4])],dec:=[10],fresh:=[17] }
def qHH (N:Nat):List Ent:=[qmE N,qsD N,qyH,qsk N]
theorem qDJ (N:Nat):qU Tryz.prog (qHH N):=⟨qpk N,qEN N,qHC,qEO N,trivial⟩
def qHf (z:List qa):TV×THp:=(.tv (.sl 19 qf) z,[])
def qgd (N:Nat) (a0:qb) (a1:qg):Tree (List qa):=
 .bind (qd4 N a0) fun r1=>
 .cond (!r1) (
 .ret []) <|
 .bind (qh6 N a1) fun r2=>
 .cond (!r2) (
 .ret []) <|
 .bind (qs_ a0 a1) fun r3=>
 .bind (qay N a0 a1) fun r4=>
 .sum r4 (fun r5=>
 .ret []) fun r5=>
 .chk (r5.length=r5.length) <|
 .ret r5
def Kw (N:Nat) (a0:qb) (a1:qg):Option (List qa):=(qgd N a0 a1).run some
def qHw (N:Nat):List (Nat×qw):=[]
def qu7 (N:Nat):Ent:=smF ⟨16,[],[.x qj,.x qo],[],[]⟩ [qj,qo] (List qa) (fun x=>Kw N x.1 x.2.1) cs1 fun _=>qHf
theorem qFZ (N:Nat):zf Tryz.prog (qu7 N):=
 zd (H:=qHY) (L:=qJ (qHw N)) (ts:=[qj,qo]) (T:=fun x=>qgd N x.1 x.2.1) 0 qRq (qDJ N) (qt (by kernel_rfl) trivial) (rgs (by kernel_rfl)) fun x=>by kernel_rfl
noncomputable def qS5:Code:=Tryz.f80.body.getD .skip
theorem qTW:FnF Tryz.prog 80 Tryz.f80 qS5:=⟨qk,by kernel_rfl,by kernel_rfl,by kernel_rfl⟩
def quh:TH:={ live:=[(0,[1,3,5]),(1,[1,3,5,7]),(2,[1,3,7,8]),(3,[3,42]),(4,[6]),(5,[3,45]),(6,[6]),(7,[6])],dec:=[18,22,28,33,38] }
def quX (N:Nat):List Ent:=[JR,vu]
theorem qpv (N:Nat):qU Tryz.prog (quX N):=⟨VY,vT,trivial⟩
def quM (z:Bool):TV×THp:=(xb z,[])
def qbp (a0:qm) (a1:Int) (a2:qc):Tree (Bool):=
 .bind (QU (qm.S a0)) fun r1=>
 .bind (zN a2 (qm.S a0)) fun r2=>
 .cond (!r1) (
 .ret false) <|
 .cond (!r2) (
 .ret false) <|
 .cond (decide ((qm.No a0)≤a1)) (
 .ret false) <|
 .cond (decide (((8:Int))≤(qm.No a0))) (
 .ret false) <|
 .cond (decide ((qm.Len a0) < ((0:Int)))) (
 .ret false) <|
 .cond (decide (((200:Int)) < (qm.Len a0))) (
 .ret false) <|
 .cond (decide ((qm.Len a0) < ((24:Int)))) (
 .ret (decide ((((qm.B a0).length:Nat):Int)=((0:Int))))) <|
 .chk ((8:Int)≠0) <|
 .chk (qp ((qm.Len a0).tdiv 8)) <|
 .ret (decide ((((qm.B a0).length:Nat):Int)=((qm.Len a0).tdiv 8)))
def Y4 (a0:qm) (a1:Int) (a2:qc):Option (Bool):=(qbp a0 a1 a2).run some
def qs3:List (Nat×qw):=[]
def qh1:Ent:=smF ⟨80,[],[.x qX,.x (.i .i64),.x qh],[],[]⟩ [qX,(.i .i64),qh] (Bool) (fun x=>Y4 x.1 x.2.1 x.2.2.1) cs1 fun _=>quM
theorem qsn:zf Tryz.prog (qh1):=
 zd (H:=quh) (L:=qJ (qs3)) (ts:=[qX,(.i .i64),qh]) (T:=fun x=>qbp x.1 x.2.1 x.2.2.1) 0 qTW (qpv 0) (qt (by kernel_rfl) trivial) (rg0 (by kernel_rfl)) fun x=>by kernel_rfl
noncomputable def qnm:Code:=Tryz.f42.body.getD .skip
theorem qTk:FnF Tryz.prog 42 Tryz.f42 qnm:=⟨qk,by kernel_rfl,by kernel_rfl,by kernel_rfl⟩
def XP:TH:={ live:=[(0,[1]),(1,[1,3]),(2,[1,3,14]),(3,[1,3]),(4,[1,3,4]),(5,[1,3,4,5]),(6,[1,3,4,38]),(7,[2]),(8,[1,3,4,40]),(9,[1,3,4,6]),(10,[1,3,4,52]),(11,[2]),(12,[1,3,4,7]),(13,[1,3,4,7,8]),(14,[1,3,4,7,8,57]),(15,[1,3,4,7,8]),(16,[1,3,4,8,9]),(17,[1,3,4,8,70]),(18,[2]),(19,[1,3,4,7,8]),(20,[2])],dec:=[27,32] }
def qdi (N:Nat):List Ent:=[JR,qh1,Yz N]
theorem qbd (N:Nat):qU Tryz.prog (qdi N):=⟨VY,qsn,qaY N,trivial⟩
abbrev XJ:=qg×qn×Int
abbrev v9:=Unit⊕(Int×Int×Bool)
def Z0 (f:XJ):v9→Ex×TSt
 | .inl y=>(.ret,⟨0,81,[],[(2,.bc false)],[],false,[]⟩)
 | .inr y=>(.exit 2,⟨0,81,[],[(1,.p 10 [] 0),(3,xi f.2.2),(4,.p 40 [] 0),(7,xi y.1),(8,xi y.2.1),(57,xb y.2.2)],[(10,.cell false (.tv qo f.1)),(40,.cell false (.tv qZ f.2.1))],false,[]⟩)
def qqf (N:Nat):List (Nat×qw):=[]
abbrev Z9:=Int×Int
def qf2:SP:=⟨0,81,[],[(1,.k (.p 10 [] 0)),(3,.x (.i .i64)),(4,.k (.p 40 [] 0)),(7,.x (.i .i64)),(8,.x (.i .i64))],[(10,.cell false (.x qo)),(40,.cell false (.x qZ))],false,[]⟩
def qqh (f:XJ) (v:Z9):TSt:=zq qf2 [dv qo f.1,dv qZ f.2.1,dv (.i .i64) f.2.2,dv (.i .i64) v.1,dv (.i .i64) v.2]
def Xu (N:Nat) (o_14:qg) (o_14_2:qn) (s3_14:Int) (v:Z9):Tree (Z9⊕v9):=
 .cond (decide (v.2 < (((qn.F o_14_2).length:Nat):Int))) (
 .bind (qM (qn.F o_14_2) v.2) fun e1=>
 .bind (Y4 e1 v.1 (qn.qz o_14_2)) fun r2=>
 .cond (!r2) (
 .ret (.inr (.inl ()))) <|
 .bind (qM (qn.F o_14_2) v.2) fun e3=>
 .chk (qp (v.2 + 1)) <|
 .ret (.inl (qm.No e3,v.2 + 1))) <|
 .ret (.inr (.inr ((v.1,v.2,decide (v.2 < (((qn.F o_14_2).length:Nat):Int))))))
def qfp (N n:Nat) (f:XJ) (v:Z9):Option v9:=qQ (Xu N f.1 f.2.1 f.2.2) some n v
theorem qp6 (N:Nat) (f:XJ) (n:Nat) (v:Z9) (y:v9) (h:qfp N n f v=some y):LG Tryz.prog XP 42 (qE (qE qnm 2) 14) (qqh f v) (Z0 f y):=
 zj qk (E:=qdi N) (L:=qJ (qqf N)) (st:=Z0 f) (g:=some) (R:=Z0 f) (qbd N) (qt (by kernel_rfl) trivial) (rg0 (by kernel_rfl)) (fun v=>by kernel_rfl) (qP (st:=Z0 f) fun y=>by rcases y with _ | _<;>rfl) n v y h
def jN (N:Nat) (o_14:qg) (o_14_2:qn) (s3_14:Int) (s7_14:Int) (s8_14:Int):Option v9:=qfp N N (o_14,o_14_2,s3_14) (s7_14,s8_14)
def qft (N:Nat):qw:=smL qf2 [qo,qZ,(.i .i64),(.i .i64),(.i .i64)] v9 (fun x=>jN N x.1 x.2.1 x.2.2.1 x.2.2.2.1 x.2.2.2.2.1) (csS cs1) fun x=>Z0 (x.1,x.2.1,x.2.2.1)
theorem qor (N:Nat):zZ Tryz.prog XP 42 (qE (qE qnm 2) 14) (qft N):=zp fun x z h=>qp6 N (x.1,x.2.1,x.2.2.1) N (x.2.2.2.1,x.2.2.2.2.1) z h
abbrev XW:=qg
abbrev QI:=Unit⊕(Int×Bool)
def Ju (f:XW):QI→Ex×TSt
 | .inl y=>(.ret,⟨0,81,[],[(2,.bc false)],[],false,[]⟩)
 | .inr y=>(.exit 0,⟨0,81,[],[(1,.p 10 [] 0),(3,xi y.1),(14,xb y.2)],[(10,.cell false (.tv qo f))],false,[]⟩)
def qrX (N:Nat):List (Nat×qw):=[(14,qft N)]
abbrev JS:=Int
def qgJ:SP:=⟨0,81,[],[(1,.k (.p 10 [] 0)),(3,.x (.i .i64))],[(10,.cell false (.x qo))],false,[]⟩
def qsc (f:XW) (v:JS):TSt:=zq qgJ [dv qo f,dv (.i .i64) v]
def X9 (N:Nat) (o_2:qg) (v:JS):Tree (JS⊕QI):=
 .cond (decide (v < (((qg.L o_2).length:Nat):Int))) (
 .bind (qM (qg.L o_2) v) fun e1=>
 .bind (QU (qn.qz e1)) fun r2=>
 .cond (!r2) (
 .ret (.inr (.inl ()))) <|
 .cond (decide ((((qn.F e1).length:Nat):Int)=((0:Int)))) (
 .cond (eqE qh (qn.qz e1) (qc.mk 0 0)) (
 .ret (.inr (.inl ()))) <|
 .cond (decide (((0:Int)) < v)) (
 .chk (qp (v - 1)) <|
 .bind (qM (qg.L o_2) (v - 1)) fun e3=>
 .bind (Qq N (qn.ID e3) (qn.ID e1)) fun r4=>
 .cond (!r4) (
 .ret (.inr (.inl ()))) <|
 .bind (jN N o_2 e1 v (-1) 0) fun z5=>
 .sum z5 (fun z6=>
 .ret (.inr (.inl ()))) fun z6=>
 .chk (qp (v + 1)) <|
 .ret (.inl (v + 1))) <|
 .bind (jN N o_2 e1 v (-1) 0) fun z3=>
 .sum z3 (fun z4=>
 .ret (.inr (.inl ()))) fun z4=>
 .chk (qp (v + 1)) <|
 .ret (.inl (v + 1))) <|
 .cond (decide (((0:Int)) < v)) (
 .chk (qp (v - 1)) <|
 .bind (qM (qg.L o_2) (v - 1)) fun e3=>
 .bind (Qq N (qn.ID e3) (qn.ID e1)) fun r4=>
 .cond (!r4) (
 .ret (.inr (.inl ()))) <|
 .bind (jN N o_2 e1 v (-1) 0) fun z5=>
 .sum z5 (fun z6=>
 .ret (.inr (.inl ()))) fun z6=>
 .chk (qp (v + 1)) <|
 .ret (.inl (v + 1))) <|
 .bind (jN N o_2 e1 v (-1) 0) fun z3=>
 .sum z3 (fun z4=>
 .ret (.inr (.inl ()))) fun z4=>
 .chk (qp (v + 1)) <|
 .ret (.inl (v + 1))) <|
 .ret (.inr (.inr ((v,decide (v < (((qg.L o_2).length:Nat):Int))))))
def qha (N n:Nat) (f:XW) (v:JS):Option QI:=qQ (X9 N f) some n v
theorem qr1 (N:Nat) (f:XW) (n:Nat) (v:JS) (y:QI) (h:qha N n f v=some y):LG Tryz.prog XP 42 (qE qnm 2) (qsc f v) (Ju f y):=
 zj qk (E:=qdi N) (L:=qJ (qrX N)) (st:=Ju f) (g:=some) (R:=Ju f) (qbd N) (qt (by kernel_rfl) ⟨qor N,trivial⟩) (rg0 (by kernel_rfl)) (fun v=>by kernel_rfl) (qP (st:=Ju f) fun y=>by rcases y with _ | _<;>rfl) n v y h
def qcC (N:Nat) (o_2:qg) (s3_2:Int):Option QI:=qha N N o_2 s3_2
def qhA (N:Nat):qw:=smL qgJ [qo,(.i .i64)] QI (fun x=>qcC N x.1 x.2.1) (csS cs1) fun x=>Ju x.1
theorem qpU (N:Nat):zZ Tryz.prog XP 42 (qE qnm 2) (qhA N):=zp fun x z h=>qr1 N x.1 N x.2.1 z h
def qyk (z:Bool):TV×THp:=(xb z,[])
def qdd (N:Nat) (a0:qg):Tree (Bool):=
 .bind (qcC N a0 0) fun z1=>
 .sum z1 (fun z2=>
 .ret false) fun z2=>
 .ret (decide ((((qg.L a0).length:Nat):Int)≤((10:Int))))
def qbf (N:Nat) (a0:qg):Option (Bool):=(qdd N a0).run some
def qyI (N:Nat):List (Nat×qw):=[(2,qhA N)]
def qk5 (N:Nat):Ent:=smF ⟨42,[],[.x qo],[],[]⟩ [qo] (Bool) (fun x=>qbf N x.1) cs1 fun _=>qyk
theorem qwg (N:Nat):zf Tryz.prog (qk5 N):=
 zd (H:=XP) (L:=qJ (qyI N)) (ts:=[qo]) (T:=fun x=>qdd N x.1) 0 qTk (qbd N) (qt (by kernel_rfl) ⟨qpU N,trivial⟩) (rg0 (by kernel_rfl)) fun x=>by kernel_rfl
noncomputable def qBw:Code:=Tryz.f43.body.getD .skip
theorem qT5:FnF Tryz.prog 43 Tryz.f43 qBw:=⟨qk,by kernel_rfl,by kernel_rfl,by kernel_rfl⟩
def qcf:TH:={ live:=[(0,[2,3,4]),(1,[2,3,4,6]),(2,[2,3,4,6,11]),(3,[2,3,4,6]),(4,[2,3,4,6,21]),(5,[4,5]),(6,[4,5])],nil:=[(0,[⟨.ob 40 [2],45,(.sl 37 qX)⟩]),(6,[⟨.ob 40 [2],45,(.sl 37 qX)⟩])] }
def qjs (N:Nat):List Ent:=[]
theorem qhg (N:Nat):qU Tryz.prog (qjs N):=trivial
abbrev Xo:=List qm×qg×Vector UInt8 16×Vector UInt8 16×qc
abbrev Qm:=qn⊕(Int×Bool)
def ZE (f:Xo):Qm→Ex×TSt
 | .inl y=>(.ret,⟨0,28,[],[(4,.p 40 [] 0),(5,.bc true)],[(40,.cell false (.tv qZ y))],false,[]⟩)
 | .inr y=>(.exit 0,⟨0,28,[],[(2,.p 20 [] 0),(3,.p 30 [] 0),(4,.p 40 [] 0),(6,xi y.1),(11,xb y.2)],[(20,.cell false (.tv qo f.2.1)),(30,.cell false (.tv (.ba 16) f.2.2.1)),(40,.cell false (.ag [.tv (.ba 16) f.2.2.2.1,.tv qh f.2.2.2.2,.v 45 f.1.length])),(45,.vec false 37 (.sl 37 qX) f.1)],false,[]⟩)
def qp3 (N:Nat):List (Nat×qw):=[]
abbrev Z7:=Int
def qfI:SP:=⟨0,28,[],[(2,.k (.p 20 [] 0)),(3,.k (.p 30 [] 0)),(4,.k (.p 40 [] 0)),(6,.x (.i .i64))],[(20,.cell false (.x qo)),(30,.cell false (.x (.ba 16))),(40,.cell false (.ag [.x (.ba 16),.x qh,.vs 45])),(45,.vec false 37)],false,[]⟩
def qpL (f:Xo) (v:Z7):TSt:=zq qfI [dv (.sl 37 qX) f.1,dv qo f.2.1,dv (.ba 16) f.2.2.1,dv (.ba 16) f.2.2.2.1,dv qh f.2.2.2.2,dv (.i .i64) v]
def Jb (N:Nat) (o_2:List qm) (o_2_2:qg) (o_2_3:Vector UInt8 16) (o_2_4:Vector UInt8 16) (o_2_5:qc) (v:Z7):Tree (Z7⊕Qm):=
 .cond (decide (v < (((qg.L o_2_2).length:Nat):Int))) (
 .bind (qM (qg.L o_2_2) v) fun e1=>
 .cond (eqE (.ba 16) (qn.ID e1) o_2_3) (
 .bind (qM (qg.L o_2_2) v) fun e2=>
 .ret (.inr (.inl e2))) <|
 .chk (qp (v + 1)) <|
 .ret (.inl (v + 1))) <|
 .ret (.inr (.inr ((v,decide (v < (((qg.L o_2_2).length:Nat):Int))))))
def qfG (N n:Nat) (f:Xo) (v:Z7):Option Qm:=qQ (Jb N f.1 f.2.1 f.2.2.1 f.2.2.2.1 f.2.2.2.2) some n v
theorem qqI (N:Nat) (f:Xo) (n:Nat) (v:Z7) (y:Qm) (h:qfG N n f v=some y):LG Tryz.prog qcf 43 (qE qBw 2) (qpL f v) (ZE f y):=
 zj qk (E:=qjs N) (L:=qJ (qp3 N)) (st:=ZE f) (g:=some) (R:=ZE f) (qhg N) (qt (by kernel_rfl) trivial) (rg0 (by kernel_rfl)) (fun v=>by kernel_rfl) (qP (st:=ZE f) fun y=>by rcases y with _ | _<;>rfl) n v y h
def qa6 (N:Nat) (o_2:List qm) (o_2_2:qg) (o_2_3:Vector UInt8 16) (o_2_4:Vector UInt8 16) (o_2_5:qc) (s6_2:Int):Option Qm:=qfG N N (o_2,o_2_2,o_2_3,o_2_4,o_2_5) s6_2
def qfA (N:Nat):qw:=smL qfI [(.sl 37 qX),qo,(.ba 16),(.ba 16),qh,(.i .i64)] Qm (fun x=>qa6 N x.1 x.2.1 x.2.2.1 x.2.2.2.1 x.2.2.2.2.1 x.2.2.2.2.2.1) (csS cs1) fun x=>ZE (x.1,x.2.1,x.2.2.1,x.2.2.2.1,x.2.2.2.2.1)
theorem qom (N:Nat):zZ Tryz.prog qcf 43 (qE qBw 2) (qfA N):=zp fun x z h=>qqI N (x.1,x.2.1,x.2.2.1,x.2.2.2.1,x.2.2.2.2.1) N x.2.2.2.2.2.1 z h
def qvR (z:qn×Bool):TV×THp:=(.tup [.tv qZ (z.1:qn),xb z.2],[])
def qcb (N:Nat) (a0:qg) (a1:Vector UInt8 16):Tree (qn×Bool):=
 .bind (zV [(([]:List qm).length,0)] (qa6 N [] a0 a1 ((Vector.replicate 16 0)) (qc.mk 0 0) 0)) fun z1=>
 .sum z1 (fun z2=>
 .ret (z2,true)) fun z2=>
 .chk (0=0) <|
 .ret (qn.mk ((Vector.replicate 16 0)) (qc.mk 0 0) [],false)
def Vr (N:Nat) (a0:qg) (a1:Vector UInt8 16):Option (qn×Bool):=(qcb N a0 a1).run some
def qvP (N:Nat):List (Nat×qw):=[(2,qfA N)]
def YB (N:Nat):Ent:=smF ⟨43,[],[.x qo,.x (.ba 16)],[],[]⟩ [qo,(.ba 16)] (qn×Bool) (fun x=>Vr N x.1 x.2.1) cs1 fun _=>qvR
theorem qbn (N:Nat):zf Tryz.prog (YB N):=
 zd (H:=qcf) (L:=qJ (qvP N)) (ts:=[qo,(.ba 16)]) (T:=fun x=>qcb N x.1 x.2.1) 0 qT5 (qhg N) (qt (by kernel_rfl) ⟨qom N,trivial⟩) (rg0 (by kernel_rfl)) fun x=>by kernel_rfl
noncomputable def qCv:Code:=Tryz.f46.body.getD .skip
theorem qTH:FnF Tryz.prog 46 Tryz.f46 qCv:=⟨qk,by kernel_rfl,by kernel_rfl,by kernel_rfl⟩
def qb8:TH:={ live:=[(0,[2,3,4,6]),(1,[2,6,8]),(2,[2,6,8,10]),(3,[2,6,8,10,21]),(4,[2,6,8,10]),(5,[2,6,8,10,31]),(6,[6,7]),(7,[6,7])] }
def qi3 (N:Nat):List Ent:=[YB N]
theorem qg8 (N:Nat):qU Tryz.prog (qi3 N):=⟨qbn N,trivial⟩
abbrev Xm:=qc×Vector UInt8 32×qn×Int
abbrev v_:=qm⊕(Int×Bool)
def ZJ (f:Xm):v_→Ex×TSt
 | .inl y=>(.ret,⟨0,38,[],[(6,.p 60 [] 0),(7,.bc true)],[(60,.cell false (.tv qX y))],false,[]⟩)
 | .inr y=>(.exit 0,⟨0,38,[],[(2,xi f.2.2.2),(6,.p 60 [] 0),(8,.p 80 [] 0),(10,xi y.1),(21,xb y.2)],[(60,.cell false (.ag [.ic .i64 0,.tv qh f.1,.ic .i64 0,.tv (.ba 32) f.2.1,.nils])),(80,.cell false (.tv qZ f.2.2.1))],false,[]⟩)
def qqM (N:Nat):List (Nat×qw):=[]
abbrev ZV:=Int
def qfs:SP:=⟨0,38,[],[(2,.x (.i .i64)),(6,.k (.p 60 [] 0)),(8,.k (.p 80 [] 0)),(10,.x (.i .i64))],[(60,.cell false (.ag [.k (.ic .i64 0),.x qh,.k (.ic .i64 0),.x (.ba 32),.k .nils])),(80,.cell false (.x qZ))],false,[]⟩
def qqo (f:Xm) (v:ZV):TSt:=zq qfs [dv qh f.1,dv (.ba 32) f.2.1,dv qZ f.2.2.1,dv (.i .i64) f.2.2.2,dv (.i .i64) v]
def Z6 (N:Nat) (o_3:qc) (o_3_2:Vector UInt8 32) (o_3_3:qn) (s2_3:Int) (v:ZV):Tree (ZV⊕v_):=
 .cond (decide (v < (((qn.F o_3_3).length:Nat):Int))) (
 .bind (qM (qn.F o_3_3) v) fun e1=>
 .cond (decide ((qm.No e1)=s2_3)) (
 .bind (qM (qn.F o_3_3) v) fun e2=>
 .ret (.inr (.inl e2))) <|
 .chk (qp (v + 1)) <|
 .ret (.inl (v + 1))) <|
 .ret (.inr (.inr ((v,decide (v < (((qn.F o_3_3).length:Nat):Int))))))
def qfF (N n:Nat) (f:Xm) (v:ZV):Option v_:=qQ (Z6 N f.1 f.2.1 f.2.2.1 f.2.2.2) some n v
theorem qqw (N:Nat) (f:Xm) (n:Nat) (v:ZV) (y:v_) (h:qfF N n f v=some y):LG Tryz.prog qb8 46 (qE qCv 3) (qqo f v) (ZJ f y):=
 zj qk (E:=qi3 N) (L:=qJ (qqM N)) (st:=ZJ f) (g:=some) (R:=ZJ f) (qg8 N) (qt (by kernel_rfl) trivial) (rg0 (by kernel_rfl)) (fun v=>by kernel_rfl) (qP (st:=ZJ f) fun y=>by rcases y with _ | _<;>rfl) n v y h
def qba (N:Nat) (o_3:qc) (o_3_2:Vector UInt8 32) (o_3_3:qn) (s2_3:Int) (s10_3:Int):Option v_:=qfF N N (o_3,o_3_2,o_3_3,s2_3) s10_3
def qf8 (N:Nat):qw:=smL qfs [qh,(.ba 32),qZ,(.i .i64),(.i .i64)] v_ (fun x=>qba N x.1 x.2.1 x.2.2.1 x.2.2.2.1 x.2.2.2.2.1) (csS cs1) fun x=>ZJ (x.1,x.2.1,x.2.2.1,x.2.2.2.1)
theorem qoi (N:Nat):zZ Tryz.prog qb8 46 (qE qCv 3) (qf8 N):=zp fun x z h=>qqw N (x.1,x.2.1,x.2.2.1,x.2.2.2.1) N x.2.2.2.2.1 z h
def qvW (z:qm×Bool):TV×THp:=(.tup [.tv qX (z.1:qm),xb z.2],[])
def qcv (N:Nat) (a0:qg) (a1:Vector UInt8 16) (a2:Int):Tree (qm×Bool):=
 .bind (Vr N a0 a1) fun r1=>
 .bind (qba N (qc.mk 0 0) ((Vector.replicate 32 0)) r1.1 a2 0) fun z2=>
 .sum z2 (fun z3=>
 .ret (z3,true)) fun z3=>
 .ret (qm.mk 0 (qc.mk 0 0) 0 ((Vector.replicate 32 0)) [],false)
def K2 (N:Nat) (a0:qg) (a1:Vector UInt8 16) (a2:Int):Option (qm×Bool):=(qcv N a0 a1 a2).run some
def qvA (N:Nat):List (Nat×qw):=[(3,qf8 N)]
def qi6 (N:Nat):Ent:=smF ⟨46,[],[.x qo,.x (.ba 16),.x (.i .i64)],[],[]⟩ [qo,(.ba 16),(.i .i64)] (qm×Bool) (fun x=>K2 N x.1 x.2.1 x.2.2.1) cs1 fun _=>qvW
theorem qtA (N:Nat):zf Tryz.prog (qi6 N):=
 zd (H:=qb8) (L:=qJ (qvA N)) (ts:=[qo,(.ba 16),(.i .i64)]) (T:=fun x=>qcv N x.1 x.2.1 x.2.2.1) 0 qTH (qg8 N) (qt (by kernel_rfl) ⟨qoi N,trivial⟩) (rg0 (by kernel_rfl)) fun x=>by kernel_rfl
noncomputable def qRm:Code:=Tryz.f19.body.getD .skip
theorem qTZ:FnF Tryz.prog 19 Tryz.f19 qRm:=⟨qk,by kernel_rfl,by kernel_rfl,by kernel_rfl⟩
def qrg:TH:={ live:=[(0,[3,4,5,6]),(1,[3,4,5,6,9]),(2,[4,9,11,12]),(3,[4,11,12,13]),(4,[4,11,12,35]),(5,[8]),(6,[4,11,37]),(7,[8]),(8,[4,11,42]),(9,[14]),(10,[8]),(11,[15]),(12,[8])] }
def qqc (N:Nat):List Ent:=[YB N,qi6 N,vu,qe9 N,qb9 N]
theorem qnT (N:Nat):qU Tryz.prog (qqc N):=⟨qbn N,qtA N,vT,qku N,qig N,trivial⟩
def qra (z:Bool):TV×THp:=(xb z,[])
def Kv (N:Nat) (a0:qe) (a1:qg) (a2:Vector UInt8 16) (a3:Int):Tree (Bool):=
 .bind (Vr N a1 a2) fun r1=>
 .bind (K2 N a1 a2 a3) fun r2=>
 .bind (zN (qn.qz r1.1) (qe.S a0)) fun r3=>
 .cond (!r3) (
 .ret false) <|
 .cond (!r2.2) (
 .ret true) <|
 .cond (!(eqE qh (qm.S r2.1) (qe.S a0))) (
 .bind (zN (qm.S r2.1) (qe.S a0)) fun r4=>
 .ret r4) <|
 .bind (X3 N (qe.V a0)) fun r4=>
 .bind (WD N (qm.D r2.1) r4) fun r5=>
 .ret r5
def Vk (N:Nat) (a0:qe) (a1:qg) (a2:Vector UInt8 16) (a3:Int):Option (Bool):=(Kv N a0 a1 a2 a3).run some
def qpD (N:Nat):List (Nat×qw):=[]
def Kn (N:Nat):Ent:=smF ⟨19,[],[.x qq,.x qo,.x (.ba 16),.x (.i .i64)],[],[]⟩ [qq,qo,(.ba 16),(.i .i64)] (Bool) (fun x=>Vk N x.1 x.2.1 x.2.2.1 x.2.2.2.1) cs1 fun _=>qra
theorem qeP (N:Nat):zf Tryz.prog (Kn N):=
 zd (H:=qrg) (L:=qJ (qpD N)) (ts:=[qq,qo,(.ba 16),(.i .i64)]) (T:=fun x=>Kv N x.1 x.2.1 x.2.2.1 x.2.2.2.1) 0 qTZ (qnT N) (qt (by kernel_rfl) trivial) (rg0 (by kernel_rfl)) fun x=>by kernel_rfl
noncomputable def qnS:Code:=Tryz.f17.body.getD .skip
theorem qSz:FnF Tryz.prog 17 Tryz.f17 qnS:=⟨qk,by kernel_rfl,by kernel_rfl,by kernel_rfl⟩
def Vh:TH:={ live:=[(0,[2,3]),(1,[2,3,5]),(2,[2,3,5,6]),(3,[2,3,25]),(4,[4]),(5,[2,3,7]),(6,[2,3,7,8]),(7,[2,3,7,8,30]),(8,[2,3,7,8]),(9,[2,3,7,8,9]),(10,[2,3,7,8,9,10]),(11,[2,3,7,8,9,10,12]),(12,[2,3,7,8,9,12,13]),(13,[2,3,7,8,9,12,13,53]),(14,[2,3,7,8,9,12,13]),(15,[2,3,7,8,9,12,13,14]),(16,[2,3,7,8,9,12,13,14,61]),(17,[2,3,7,8,9,12,13,14]),(18,[2,3,7,8,9,12,13,14,15]),(19,[2,3,7,8,9,12,13,14,80]),(20,[2,3,7,8,9,12,13,14]),(21,[2,3,7,8,12,97]),(22,[2,3,7,8]),(23,[4])],dec:=[22,92],nil:=[(5,[⟨.sl 7,75,(.sl 19 qf)⟩]),(11,[⟨.ob 120 [2],125,(.sl 4 qB)⟩])] }
def qa8 (N:Nat):List Ent:=[Kh N,qk5 N,YB N,vu,Kn N]
theorem Kq (N:Nat):qU Tryz.prog (qa8 N):=⟨qcn N,qwg N,qbn N,vT,qeP N,trivial⟩
abbrev Vi:=List qa×qb×qg×qa×Vector UInt8 16×qc×Int×Bool
abbrev vE:=List qd×Int×Bool
def QW (f:Vi) (y:vE):Ex×TSt:=(.exit 2,⟨0,103,[],[(2,.p 20 [] 0),(3,.p 30 [] 0),(7,.v 75 f.1.length),(8,xi f.2.2.2.2.2.2.1),(9,.p 90 [] 0),(12,.p 120 [] 0),(13,xb f.2.2.2.2.2.2.2),(14,xi y.2.1),(61,xb y.2.2)],[(20,.cell false (.tv qj f.2.1)),(30,.cell false (.tv qo f.2.2.1)),(75,.vec false 19 (.sl 19 qf) f.1),(90,.cell false (.tv qf f.2.2.2.1)),(120,.cell false (.ag [.tv (.ba 16) f.2.2.2.2.1,.tv qh f.2.2.2.2.2.1,.v 125 y.1.length])),(125,.vec false 4 (.sl 4 qB) (y.1:List qd))],false,[]⟩)
def qnN (N:Nat):List (Nat×qw):=[]
abbrev QV:=List qd×Int
def qd8:SP:=⟨0,103,[],[(2,.k (.p 20 [] 0)),(3,.k (.p 30 [] 0)),(7,.vs 75),(8,.x (.i .i64)),(9,.k (.p 90 [] 0)),(12,.k (.p 120 [] 0)),(13,.x .b),(14,.x (.i .i64))],[(20,.cell false (.x qj)),(30,.cell false (.x qo)),(75,.vec false 19),(90,.cell false (.x qf)),(120,.cell false (.ag [.x (.ba 16),.x qh,.vs 125])),(125,.vec false 4)],false,[]⟩
def qnk (f:Vi) (v:QV):TSt:=zq qd8 [dv (.sl 19 qf) f.1,dv (.sl 4 qB) v.1,dv qj f.2.1,dv qo f.2.2.1,dv qf f.2.2.2.1,dv (.ba 16) f.2.2.2.2.1,dv qh f.2.2.2.2.2.1,dv (.i .i64) f.2.2.2.2.2.2.1,dv .b f.2.2.2.2.2.2.2,dv (.i .i64) v.2]
def Vc (N:Nat) (o_16:List qa) (o_16_3:qb) (o_16_4:qg) (o_16_5:qa) (o_16_6:Vector UInt8 16) (o_16_7:qc) (s8_16:Int) (s13_16:Bool) (v:QV):Tree (QV⊕vE):=
 .cond (decide (v.2 < (((qa.F o_16_5).length:Nat):Int))) (
 .bind (qM (qa.F o_16_5) v.2) fun e1=>
 .bind (qM (qa.F o_16_5) v.2) fun e2=>
 .bind (Vk N (qd.C e1) o_16_4 (qa.ID o_16_5) (qd.No e2)) fun r3=>
 .cond r3 (
 .bind (qM (qa.F o_16_5) v.2) fun e4=>
 .chk (zU v.1.length v.1.length ((v.1++[e4]).length) 40) <|
 .chk (qp (v.2 + 1)) <|
 .ret (.inl (v.1++[e4],v.2 + 1))) <|
 .chk (qp (v.2 + 1)) <|
 .ret (.inl (v.1,v.2 + 1))) <|
 .ret (.inr (v.1,v.2,decide (v.2 < (((qa.F o_16_5).length:Nat):Int))))
def qd2 (N n:Nat) (f:Vi) (v:QV):Option vE:=qQ (Vc N f.1 f.2.1 f.2.2.1 f.2.2.2.1 f.2.2.2.2.1 f.2.2.2.2.2.1 f.2.2.2.2.2.2.1 f.2.2.2.2.2.2.2) some n v
theorem qmX (N:Nat) (f:Vi) (n:Nat) (v:QV) (y:vE) (h:qd2 N n f v=some y):LG Tryz.prog Vh 17 (qE (qE qnS 7) 16) (qnk f v) (QW f y):=
 zj qk (E:=qa8 N) (L:=qJ (qnN N)) (st:=QW f) (g:=some) (R:=QW f) (Kq N) (qt (by kernel_rfl) trivial) (rg0 (by kernel_rfl)) (fun v=>by kernel_rfl) (qP (st:=QW f) fun y=>by rfl) n v y h
def ZZ (N:Nat) (o_16:List qa) (o_16_3:qb) (o_16_4:qg) (o_16_5:qa) (o_16_6:Vector UInt8 16) (o_16_7:qc) (s8_16:Int) (s13_16:Bool) (o_16_2:List qd) (s14_16:Int):Option vE:=qd2 N N (o_16,o_16_3,o_16_4,o_16_5,o_16_6,o_16_7,s8_16,s13_16) (o_16_2,s14_16)
def qdg (N:Nat):qw:=smL qd8 [(.sl 19 qf),(.sl 4 qB),qj,qo,qf,(.ba 16),qh,(.i .i64),.b,(.i .i64)] vE (fun x=>ZZ N x.1 x.2.2.1 x.2.2.2.1 x.2.2.2.2.1 x.2.2.2.2.2.1 x.2.2.2.2.2.2.1 x.2.2.2.2.2.2.2.1 x.2.2.2.2.2.2.2.2.1 x.2.1 x.2.2.2.2.2.2.2.2.2.1) cs1 fun x=>QW (x.1,x.2.2.1,x.2.2.2.1,x.2.2.2.2.1,x.2.2.2.2.2.1,x.2.2.2.2.2.2.1,x.2.2.2.2.2.2.2.1,x.2.2.2.2.2.2.2.2.1)
theorem qmj (N:Nat):zZ Tryz.prog Vh 17 (qE (qE qnS 7) 16) (qdg N):=zp fun x z h=>qmX N (x.1,x.2.2.1,x.2.2.2.1,x.2.2.2.2.1,x.2.2.2.2.2.1,x.2.2.2.2.2.2.1,x.2.2.2.2.2.2.2.1,x.2.2.2.2.2.2.2.2.1) N (x.2.1,x.2.2.2.2.2.2.2.2.2.1) z h
abbrev VN:=qb×qg
abbrev vP:=List qa×Int×Bool
def Zj (f:VN) (y:vP):Ex×TSt:=(.exit 0,⟨0,103,[],[(2,.p 20 [] 0),(3,.p 30 [] 0),(7,.v 75 y.1.length),(8,xi y.2.1),(30,xb y.2.2)],[(20,.cell false (.tv qj f.1)),(30,.cell false (.tv qo f.2)),(75,.vec false 19 (.sl 19 qf) (y.1:List qa))],false,[]⟩)
def qot (N:Nat):List (Nat×qw):=[(16,qdg N)]
abbrev Zg:=List qa×Int
def qeD:SP:=⟨0,103,[],[(2,.k (.p 20 [] 0)),(3,.k (.p 30 [] 0)),(7,.vs 75),(8,.x (.i .i64))],[(20,.cell false (.x qj)),(30,.cell false (.x qo)),(75,.vec false 19)],false,[]⟩
def qox (f:VN) (v:Zg):TSt:=zq qeD [dv (.sl 19 qf) v.1,dv qj f.1,dv qo f.2,dv (.i .i64) v.2]
def VI (N:Nat) (o_7_2:qb) (o_7_3:qg) (v:Zg):Tree (Zg⊕vP):=
 .cond (decide (v.2 < (((qb.R o_7_2).length:Nat):Int))) (
 .bind (qM (qb.R o_7_2) v.2) fun e1=>
 .bind (Vr N o_7_3 (qa.ID e1)) fun r2=>
 .bind (zN (qn.qz r2.1) (qa.qz e1)) fun r3=>
 .cond r3 (
 .bind (zV [(([]:List qd).length,0),(v.1.length,v.1.length)] (ZZ N v.1 o_7_2 o_7_3 e1 (qa.ID e1) (qa.qz e1) v.2 r3 [] 0)) fun z4=>
 .cond r3 (
 .chk (z4.1.length=z4.1.length) <|
 .chk (zU v.1.length v.1.length ((v.1++[qa.mk (qa.ID e1) (qa.qz e1) z4.1]).length) 56) <|
 .chk (qp (v.2 + 1)) <|
 .ret (.inl (v.1++[qa.mk (qa.ID e1) (qa.qz e1) z4.1],v.2 + 1))) <|
 .cond (decide (((0:Int)) < ((z4.1.length:Nat):Int))) (
 .chk (z4.1.length=z4.1.length) <|
 .chk (zU v.1.length v.1.length ((v.1++[qa.mk (qa.ID e1) (qa.qz e1) z4.1]).length) 56) <|
 .chk (qp (v.2 + 1)) <|
 .ret (.inl (v.1++[qa.mk (qa.ID e1) (qa.qz e1) z4.1],v.2 + 1))) <|
 .chk (qp (v.2 + 1)) <|
 .ret (.inl (v.1,v.2 + 1))) <|
 .bind (zV [(([]:List qd).length,0),(v.1.length,v.1.length)] (ZZ N v.1 o_7_2 o_7_3 e1 (qa.ID e1) (qc.mk 0 0) v.2 r3 [] 0)) fun z4=>
 .cond r3 (
 .chk (z4.1.length=z4.1.length) <|
 .chk (zU v.1.length v.1.length ((v.1++[qa.mk (qa.ID e1) (qc.mk 0 0) z4.1]).length) 56) <|
 .chk (qp (v.2 + 1)) <|
 .ret (.inl (v.1++[qa.mk (qa.ID e1) (qc.mk 0 0) z4.1],v.2 + 1))) <|
 .cond (decide (((0:Int)) < ((z4.1.length:Nat):Int))) (
 .chk (z4.1.length=z4.1.length) <|
 .chk (zU v.1.length v.1.length ((v.1++[qa.mk (qa.ID e1) (qc.mk 0 0) z4.1]).length) 56) <|
 .chk (qp (v.2 + 1)) <|
 .ret (.inl (v.1++[qa.mk (qa.ID e1) (qc.mk 0 0) z4.1],v.2 + 1))) <|
 .chk (qp (v.2 + 1)) <|
 .ret (.inl (v.1,v.2 + 1))) <|
 .ret (.inr (v.1,v.2,decide (v.2 < (((qb.R o_7_2).length:Nat):Int))))
def qeF (N n:Nat) (f:VN) (v:Zg):Option vP:=qQ (VI N f.1 f.2) some n v
theorem qn7 (N:Nat) (f:VN) (n:Nat) (v:Zg) (y:vP) (h:qeF N n f v=some y):LG Tryz.prog Vh 17 (qE qnS 7) (qox f v) (Zj f y):=
 zj qk (E:=qa8 N) (L:=qJ (qot N)) (st:=Zj f) (g:=some) (R:=Zj f) (Kq N) (qt (by kernel_rfl) ⟨qmj N,trivial⟩) (rg0 (by kernel_rfl)) (fun v=>by kernel_rfl) (qP (st:=Zj f) fun y=>by rfl) n v y h
def qau (N:Nat) (o_7_2:qb) (o_7_3:qg) (o_7:List qa) (s8_7:Int):Option vP:=qeF N N (o_7_2,o_7_3) (o_7,s8_7)
def qe0 (N:Nat):qw:=smL qeD [(.sl 19 qf),qj,qo,(.i .i64)] vP (fun x=>qau N x.2.1 x.2.2.1 x.1 x.2.2.2.1) cs1 fun x=>Zj (x.2.1,x.2.2.1)
theorem qm2 (N:Nat):zZ Tryz.prog Vh 17 (qE qnS 7) (qe0 N):=zp fun x z h=>qn7 N (x.2.1,x.2.2.1) N (x.1,x.2.2.2.1) z h
def qtr (z:List qa):TV×THp:=(.tv (.sl 19 qf) z,[])
def WU (N:Nat) (a0:qb) (a1:qg):Tree (List qa):=
 .bind (Jl N a0) fun r1=>
 .bind (qbf N a1) fun r2=>
 .cond (!r1) (
 .ret []) <|
 .cond (!r2) (
 .ret []) <|
 .bind (zV [(([]:List qa).length,0)] (qau N a0 a1 [] 0)) fun z3=>
 .chk (z3.1.length=z3.1.length) <|
 .ret z3.1
def QT (N:Nat) (a0:qb) (a1:qg):Option (List qa):=(WU N a0 a1).run some
def qtw (N:Nat):List (Nat×qw):=[(7,qe0 N)]
def qhU (N:Nat):Ent:=smF ⟨17,[],[.x qj,.x qo],[],[]⟩ [qj,qo] (List qa) (fun x=>QT N x.1 x.2.1) cs1 fun _=>qtr
theorem qrm (N:Nat):zf Tryz.prog (qhU N):=
 zd (H:=Vh) (L:=qJ (qtw N)) (ts:=[qj,qo]) (T:=fun x=>WU N x.1 x.2.1) 0 qSz (Kq N) (qt (by kernel_rfl) ⟨qm2 N,trivial⟩) (rg0 (by kernel_rfl)) fun x=>by kernel_rfl
noncomputable def qBT:Code:=Tryz.f45.body.getD .skip
theorem qT1:FnF Tryz.prog 45 Tryz.f45 qBT:=⟨qk,by kernel_rfl,by kernel_rfl,by kernel_rfl⟩
def qck:TH:={ live:=[(0,[2,3]),(1,[2,3,26]),(2,[4]),(3,[2,3,5]),(4,[2,3,5,31]),(5,[2,3,5]),(6,[2,3,5,44]),(7,[4]),(8,[4])],dec:=[11,18] }
def qjj (N:Nat):List Ent:=[]
theorem qg5 (N:Nat):qU Tryz.prog (qjj N):=trivial
abbrev Xn:=qa×qa
abbrev Qj:=Unit⊕(Int×Bool)
def ZI (f:Xn):Qj→Ex×TSt
 | .inl y=>(.ret,⟨0,45,[],[(4,.bc false)],[],false,[]⟩)
 | .inr y=>(.exit 0,⟨0,45,[],[(2,.p 20 [] 0),(3,.p 30 [] 0),(5,xi y.1),(31,xb y.2)],[(20,.cell false (.tv qf f.1)),(30,.cell false (.tv qf f.2))],false,[]⟩)
def qpo (N:Nat):List (Nat×qw):=[]
abbrev Z5:=Int
def qfC:SP:=⟨0,45,[],[(2,.k (.p 20 [] 0)),(3,.k (.p 30 [] 0)),(5,.x (.i .i64))],[(20,.cell false (.x qf)),(30,.cell false (.x qf))],false,[]⟩
def qp_ (f:Xn) (v:Z5):TSt:=zq qfC [dv qf f.1,dv qf f.2,dv (.i .i64) v]
def Xd (N:Nat) (o_4:qa) (o_4_2:qa) (v:Z5):Tree (Z5⊕Qj):=
 .cond (decide (v < (((qa.F o_4).length:Nat):Int))) (
 .bind (qM (qa.F o_4) v) fun e1=>
 .bind (qM (qa.F o_4_2) v) fun e2=>
 .cond (!(eqE qB e1 e2)) (
 .ret (.inr (.inl ()))) <|
 .chk (qp (v + 1)) <|
 .ret (.inl (v + 1))) <|
 .ret (.inr (.inr ((v,decide (v < (((qa.F o_4).length:Nat):Int))))))
def qfK (N n:Nat) (f:Xn) (v:Z5):Option Qj:=qQ (Xd N f.1 f.2) some n v
theorem qqe (N:Nat) (f:Xn) (n:Nat) (v:Z5) (y:Qj) (h:qfK N n f v=some y):LG Tryz.prog qck 45 (qE qBT 4) (qp_ f v) (ZI f y):=
 zj qk (E:=qjj N) (L:=qJ (qpo N)) (st:=ZI f) (g:=some) (R:=ZI f) (qg5 N) (qt (by kernel_rfl) trivial) (rg0 (by kernel_rfl)) (fun v=>by kernel_rfl) (qP (st:=ZI f) fun y=>by rcases y with _ | _<;>rfl) n v y h
def qaQ (N:Nat) (o_4:qa) (o_4_2:qa) (s5_4:Int):Option Qj:=qfK N N (o_4,o_4_2) s5_4
def qfg (N:Nat):qw:=smL qfC [qf,qf,(.i .i64)] Qj (fun x=>qaQ N x.1 x.2.1 x.2.2.1) (csS cs1) fun x=>ZI (x.1,x.2.1)
theorem qow (N:Nat):zZ Tryz.prog qck 45 (qE qBT 4) (qfg N):=zp fun x z h=>qqe N (x.1,x.2.1) N x.2.2.1 z h
def qv9 (z:Bool):TV×THp:=(xb z,[])
def qb_ (N:Nat) (a0:qa) (a1:qa):Tree (Bool):=
 .cond (!(eqE (.ba 16) (qa.ID a0) (qa.ID a1))) (
 .ret false) <|
 .cond (!(eqE qh (qa.qz a0) (qa.qz a1))) (
 .ret false) <|
 .cond (!decide ((((qa.F a0).length:Nat):Int)=(((qa.F a1).length:Nat):Int))) (
 .ret false) <|
 .bind (qaQ N a0 a1 0) fun z1=>
 .sum z1 (fun z2=>
 .ret false) fun z2=>
 .ret true
def KK (N:Nat) (a0:qa) (a1:qa):Option (Bool):=(qb_ N a0 a1).run some
def qvy (N:Nat):List (Nat×qw):=[(4,qfg N)]
def qjr (N:Nat):Ent:=smF ⟨45,[],[.x qf,.x qf],[],[]⟩ [qf,qf] (Bool) (fun x=>KK N x.1 x.2.1) cs1 fun _=>qv9
theorem quI (N:Nat):zf Tryz.prog (qjr N):=
 zd (H:=qck) (L:=qJ (qvy N)) (ts:=[qf,qf]) (T:=fun x=>qb_ N x.1 x.2.1) 0 qT1 (qg5 N) (qt (by kernel_rfl) ⟨qow N,trivial⟩) (rg0 (by kernel_rfl)) fun x=>by kernel_rfl
noncomputable def qCD:Code:=Tryz.f18.body.getD .skip
theorem qRb:FnF Tryz.prog 18 Tryz.f18 qCD:=⟨qk,by kernel_rfl,by kernel_rfl,by kernel_rfl⟩
def qcr:TH:={ live:=[(0,[2,3]),(1,[2,3,13]),(2,[4]),(3,[2,3,5]),(4,[2,3,5,18]),(5,[2,3,5]),(6,[2,3,5,6]),(7,[2,3,5,33]),(8,[4]),(9,[4])] }
def qjp (N:Nat):List Ent:=[qjr N]
theorem qgN (N:Nat):qU Tryz.prog (qjp N):=⟨quI N,trivial⟩
abbrev Xg:=qb×qb
abbrev Qf:=Unit⊕(Int×Bool)
def ZH (f:Xg):Qf→Ex×TSt
 | .inl y=>(.ret,⟨0,34,[],[(4,.bc false)],[],false,[]⟩)
 | .inr y=>(.exit 0,⟨0,34,[],[(2,.p 20 [] 0),(3,.p 30 [] 0),(5,xi y.1),(18,xb y.2)],[(20,.cell false (.tv qj f.1)),(30,.cell false (.tv qj f.2))],false,[]⟩)
def qpw (N:Nat):List (Nat×qw):=[]
abbrev ZL:=Int
def qfO:SP:=⟨0,34,[],[(2,.k (.p 20 [] 0)),(3,.k (.p 30 [] 0)),(5,.x (.i .i64))],[(20,.cell false (.x qj)),(30,.cell false (.x qj))],false,[]⟩
def qqr (f:Xg) (v:ZL):TSt:=zq qfO [dv qj f.1,dv qj f.2,dv (.i .i64) v]
def Xt (N:Nat) (o_4:qb) (o_4_2:qb) (v:ZL):Tree (ZL⊕Qf):=
 .cond (decide (v < (((qb.R o_4).length:Nat):Int))) (
 .bind (qM (qb.R o_4) v) fun e1=>
 .bind (qM (qb.R o_4_2) v) fun e2=>
 .bind (KK N e1 e2) fun r3=>
 .cond (!r3) (
 .ret (.inr (.inl ()))) <|
 .chk (qp (v + 1)) <|
 .ret (.inl (v + 1))) <|
 .ret (.inr (.inr ((v,decide (v < (((qb.R o_4).length:Nat):Int))))))
def qfd (N n:Nat) (f:Xg) (v:ZL):Option Qf:=qQ (Xt N f.1 f.2) some n v
theorem qpN (N:Nat) (f:Xg) (n:Nat) (v:ZL) (y:Qf) (h:qfd N n f v=some y):LG Tryz.prog qcr 18 (qE qCD 4) (qqr f v) (ZH f y):=
 zj qk (E:=qjp N) (L:=qJ (qpw N)) (st:=ZH f) (g:=some) (R:=ZH f) (qgN N) (qt (by kernel_rfl) trivial) (rg0 (by kernel_rfl)) (fun v=>by kernel_rfl) (qP (st:=ZH f) fun y=>by rcases y with _ | _<;>rfl) n v y h
def qa9 (N:Nat) (o_4:qb) (o_4_2:qb) (s5_4:Int):Option Qf:=qfd N N (o_4,o_4_2) s5_4
def qfS (N:Nat):qw:=smL qfO [qj,qj,(.i .i64)] Qf (fun x=>qa9 N x.1 x.2.1 x.2.2.1) (csS cs1) fun x=>ZH (x.1,x.2.1)
theorem qoy (N:Nat):zZ Tryz.prog qcr 18 (qE qCD 4) (qfS N):=zp fun x z h=>qpN N (x.1,x.2.1) N x.2.2.1 z h
def qwh (z:Bool):TV×THp:=(xb z,[])
def qcs (N:Nat) (a0:qb) (a1:qb):Tree (Bool):=
 .cond (!decide ((((qb.R a0).length:Nat):Int)=(((qb.R a1).length:Nat):Int))) (
 .ret false) <|
 .bind (qa9 N a0 a1 0) fun z1=>
 .sum z1 (fun z2=>
 .ret false) fun z2=>
 .ret true
def WL (N:Nat) (a0:qb) (a1:qb):Option (Bool):=(qcs N a0 a1).run some
def qwi (N:Nat):List (Nat×qw):=[(4,qfS N)]
def qca (N:Nat):Ent:=smF ⟨18,[],[.x qj,.x qj],[],[]⟩ [qj,qj] (Bool) (fun x=>WL N x.1 x.2.1) cs1 fun _=>qwh
theorem qiG (N:Nat):zf Tryz.prog (qca N):=
 zd (H:=qcr) (L:=qJ (qwi N)) (ts:=[qj,qj]) (T:=fun x=>qcs N x.1 x.2.1) 0 qRb (qgN N) (qt (by kernel_rfl) ⟨qoy N,trivial⟩) (rg0 (by kernel_rfl)) fun x=>by kernel_rfl
noncomputable def qS_:Code:=Tryz.f15.body.getD .skip
theorem qSK:FnF Tryz.prog 15 Tryz.f15 qS_:=⟨qk,by kernel_rfl,by kernel_rfl,by kernel_rfl⟩
def qv2:TH:={ live:=[(0,[0,1]),(1,[5]),(2,[4])] }
def qwe (N:Nat):List Ent:=[qca N]
theorem qsH (N:Nat):qU Tryz.prog (qwe N):=⟨qiG N,trivial⟩
def qvw (z:Bool):TV×THp:=(xb z,[])
def qcj (N:Nat) (a0:List qa) (a1:List qa):Tree (Bool):=
 .bind (WL N (qb.mk a0) (qb.mk a1)) fun r1=>
 .ret r1
def KZ (N:Nat) (a0:List qa) (a1:List qa):Option (Bool):=(qcj N a0 a1).run some
def qvB (N:Nat):List (Nat×qw):=[]
def qjc (N:Nat):Ent:=smF ⟨15,[],[.x (.sl 19 qf),.x (.sl 19 qf)],[],[]⟩ [(.sl 19 qf),(.sl 19 qf)] (Bool) (fun x=>KZ N x.1 x.2.1) cs1 fun _=>qvw
theorem qtn (N:Nat):zf Tryz.prog (qjc N):=
 zd (H:=qv2) (L:=qJ (qvB N)) (ts:=[(.sl 19 qf),(.sl 19 qf)]) (T:=fun x=>qcj N x.1 x.2.1) 0 qSK (qsH N) (qt (by kernel_rfl) trivial) (rg0 (by kernel_rfl)) fun x=>by kernel_rfl
noncomputable def qSg:Code:=Tryz.f20.body.getD .skip
theorem qT3:FnF Tryz.prog 20 Tryz.f20 qSg:=⟨qk,by kernel_rfl,by kernel_rfl,by kernel_rfl⟩
def qDj:TH:={ live:=[(0,[3,4,5,6]),(1,[3,4,9]),(2,[8])] }
def qEI (N:Nat):List Ent:=[qhJ N,qiL N]
theorem qAF (N:Nat):qU Tryz.prog (qEI N):=⟨qmS N,qng N,trivial⟩
def qDt (z:Bool):TV×THp:=(xb z,[])
def qh3 (N:Nat) (a0:qe) (a1:qg) (a2:Vector UInt8 16) (a3:Int):Tree (Bool):=
 .bind (YO N a1 a2) fun r1=>
 .bind (YQ N a0 r1.1 a3) fun r2=>
 .ret r2
def qgm (N:Nat) (a0:qe) (a1:qg) (a2:Vector UInt8 16) (a3:Int):Option (Bool):=(qh3 N a0 a1 a2 a3).run some
def qEn (N:Nat):List (Nat×qw):=[]
def qo6 (N:Nat):Ent:=smF ⟨20,[],[.x qq,.x qo,.x (.ba 16),.x (.i .i64)],[],[]⟩ [qq,qo,(.ba 16),(.i .i64)] (Bool) (fun x=>qgm N x.1 x.2.1 x.2.2.1 x.2.2.2.1) cs1 fun _=>qDt
theorem qBp (N:Nat):zf Tryz.prog (qo6 N):=
 zd (H:=qDj) (L:=qJ (qEn N)) (ts:=[qq,qo,(.ba 16),(.i .i64)]) (T:=fun x=>qh3 N x.1 x.2.1 x.2.2.1 x.2.2.2.1) 0 qT3 (qAF N) (qt (by kernel_rfl) trivial) (rg0 (by kernel_rfl)) fun x=>by kernel_rfl
noncomputable def qLY:Code:=Tryz.f3.body.getD .skip
theorem qU_:FnF Tryz.prog 3 Tryz.f3 qLY:=⟨qk,by kernel_rfl,by kernel_rfl,by kernel_rfl⟩
def qmv:TH:={ live:=[(0,[5,6,7,8,9,10]),(1,[5,6,7,8,9,10,13]),(2,[5,6,7,8,9,10,13,14]),(3,[5,6,7,8,9,10,13,14,15]),(4,[5,6,7,8,9,10,13,14,15,16]),(5,[5,6,7,8,9,10,13,50]),(6,[12]),(7,[5,6,7,8,9,10,17,18]),(8,[5,6,7,9,10,17,18,19,20]),(9,[5,7,9,10,17,18,19,20,21]),(10,[5,7,9,10,18,20,21,22]),(11,[5,7,9,10,18,20,21,22,23]),(12,[12])],dec:=[33,37,41,45,80,83,88] }
def qmF (N:Nat):List Ent:=[qMQ,qkW N,qkr N,qdL N,qBb N,qkY N,qu7 N,qhU N,qjc N,qca N,Kn N,qo6 N]
theorem qkt (N:Nat):qU Tryz.prog (qmF N):=⟨qT8,qvC N,qvS N,qi7 N,qKM N,qwa N,qFZ N,qrm N,qtn N,qiG N,qeP N,qBp N,trivial⟩
def qmu (z:Bool):TV×THp:=(xb z,[])
def WS (N:Nat) (a0:qb) (a1:qg) (a2:qa) (a3:qe) (a4:Vector UInt8 16) (a5:Int):Tree (Bool):=
 .bind (qOd) fun r1=>
 .bind (qbs N a0) fun r2=>
 .bind (qbo N a1) fun r3=>
 .bind (QS N a2) fun r4=>
 .cond (!r1) (
 .ret r1) <|
 .cond (!r2) (
 .ret r1) <|
 .cond (!r3) (
 .ret r1) <|
 .cond (!r4) (
 .ret r1) <|
 .cond (decide (((300:Int)) < (((qe.V a3).length:Nat):Int))) (
 .ret r1) <|
 .bind (qo8 N a0 a2) fun r5=>
 .bind (qaX N a0 a2) fun r6=>
 .bind (Kw N a0 a1) fun r7=>
 .bind (QT N a0 a1) fun r8=>
 .bind (KZ N r7 r8) fun r9=>
 .bind (WL N r5.1 r6.1) fun r10=>
 .bind (Vk N a3 a1 a4 a5) fun r11=>
 .cond r9 (
 .cond r10 (
 .cond (decide (r5.2=r6.2)) (
 .bind (qgm N a3 a1 a4 a5) fun r12=>
 .ret (eqE .b r12 r11)) <|
 .ret false) <|
 .ret false) <|
 .ret false
def vR (N:Nat) (a0:qb) (a1:qg) (a2:qa) (a3:qe) (a4:Vector UInt8 16) (a5:Int):Option (Bool):=(WS N a0 a1 a2 a3 a4 a5).run some
def qmm (N:Nat):List (Nat×qw):=[]
theorem qk4 (N:Nat):qaJ Tryz.prog ⟨3,[],[.x qj,.x qo,.x qf,.x qq,.x (.ba 16),.x (.i .i64)],[],[]⟩ [qj,qo,qf,qq,(.ba 16),(.i .i64)] (fun x=>WS N x.1 x.2.1 x.2.2.1 x.2.2.2.1 x.2.2.2.2.1 x.2.2.2.2.2.1) (fun _=>qmu):=
 Yr (H:=qmv) (L:=qJ (qmm N)) 0 qU_ (qkt N) (qt (by kernel_rfl) trivial) (rg0 (by kernel_rfl)) fun x=>by kernel_rfl
end Go.Rx
end
set_option maxRecDepth 100000
noncomputable section
namespace Go.Rx
open Go.Proofs
abbrev ve (q:Nat→Bool) (n:Nat):Bool:=qKn q n 0
theorem Vg {q:Nat→Bool} {n:Nat}:ve q n=true↔∀ j,j < n→q j=true:=by
 unfold ve; rw [qJv]
 exact ⟨fun h j hj=>h j (Nat.zero_le _) (by omega),fun h j _ hj=>h j (by omega)⟩
theorem qQa {p q:Nat→Bool} {n:Nat} (h:Zh p n 0=none) (hq:∀ j,j < n→p j=!q j):ve q n=true:=
 Vg.2 fun j hj=>by
  have:=qAN h j (Nat.zero_le _) (by omega)
  rw [hq j hj] at this; simpa using this
theorem qQd {p q:Nat→Bool} {n i:Nat} (h:Zh p n 0=some i) (hq:∀ j,j < n→p j=!q j):ve q n=false:=by
 obtain ⟨h1,_,h2,_⟩:=qqR h
 cases e:ve q n with
 | false=>rfl
 | true=>
  have:=Vg.1 e i (by omega)
  rw [hq i (by omega),this] at h1; simp at h1
theorem VD {α Y : Type} {B : Int → Tree (Int ⊕ (α ⊕ (Int × Bool)))} {g : α ⊕ (Int × Bool) → Option Y} {q : Nat → Bool} {n : Nat} {hit : α}
    (h1:∀ k,k < n→(B (k:Int)).run some=some (if q k then .inl ((k + 1:Nat):Int) else .inr (.inl hit))) (h2:(B (n:Int)).run some=some (.inr (.inr (((n:Nat):Int),false)))) {N:Nat} (hN:n < N) :
    qQ B g N ((0:Nat):Int)=g (if ve q n then .inr (((n:Nat):Int),false) else .inl hit):=by
 rw [qdR (p:=fun k=>!q k) (hit:=fun _=>.inl hit) (fin:=.inr (((n:Nat):Int),false)) (n:=n) (fun k hk=>by rw [h1 k hk]; cases q k<;>rfl) h2 N 0 (Nat.zero_le _) (by omega),Nat.sub_zero]
 cases e:Zh (fun k=>!q k) n 0 with
 | none=>rw [qQa e fun _ _=>rfl]; rfl
 | some i=>rw [qQd e fun _ _=>rfl]; rfl
class Jm (N:Nat):Prop where
 h:100000≤N
theorem Jm.of {N:Nat} (h:100000≤N):Jm N:=⟨h⟩
theorem big (N:Nat) [Jm N]:100000≤N:=Jm.h
abbrev zSt:qc:=((0:Int),(0:Int))
abbrev zE:qm:=qm.mk 0 zSt 0 (Vector.replicate 32 0) []
abbrev zL:qn:=qn.mk (Vector.replicate 16 0) zSt []
def qFO (x:qn):Bool:=decide (x.F.length≤12)&&ve (fun k=>decide ((x.F.getD k zE).B.length≤40)) x.F.length
def qqV (m:qg):Bool:=decide (m.L.length≤14)&&ve (fun k=>qFO (m.L.getD k zL)) m.L.length
theorem qzf {k:Nat} (h:k≤1000000):qp ((k + 1:Nat):Int):=by unfold qp; omega
theorem qs7 {c n:Nat}:decide (((c:Nat):Int) < ((n:Nat):Int))=!decide (n≤c):=by
 by_cases h:n≤c
 ·rw [decide_eq_true h,decide_eq_false (by omega)]; rfl
 ·rw [decide_eq_false h,decide_eq_true (by omega)]; rfl
section n
variable {N:Nat} [Jm N]
def stB (a:qc):Bool:=decide (a=zSt)||(decide (0 < a.1)&&decide (a.1≤1099511627776)&&decide (0≤a.2)&&decide (a.2 < 8))
def slB (a b:qc):Bool:=decide (a.1 < b.1∨(a.1=b.1∧a.2 < b.2))
theorem qaL (a b:qc):eqE qh a b=decide (a=b):=Bool.eq_iff_iff.2 ((Yb qh a b).trans (decide_eq_true_iff (p:=(a:Int×Int)=b)).symm)
theorem que (a b:Vector UInt8 16):eqE (.ba 16) a b=decide (a=b):=Bool.eq_iff_iff.2 ((Yb (.ba 16) a b).trans (decide_eq_true_iff (p:=(a:Vector UInt8 16)=b)).symm)
theorem qnq (a:qc):qaE a=some (stB a):=by
 unfold qaE qp2
 have e:=qaL a (qc.mk 0 0)
 simp only [Tree.run,e]
 show (bif decide (a=zSt) then _ else _)=some (decide (a=zSt)||_)
 cases decide (a=zSt) with
 | true=>rfl
 | false=>
  show (bif decide (0 < a.1) then _ else _)=_
  cases decide (0 < a.1) with
  | false=>rfl
  | true=>
   show (bif decide (a.1≤1099511627776) then _ else _)=_
   cases decide (a.1≤1099511627776) with
   | false=>rfl
   | true=>
    show (bif decide (0≤a.2) then _ else _)=_
    cases decide (0≤a.2)<;>rfl
def sgn (a b:Int):Int:=if a < b then -1 else if b < a then 1 else 0
theorem qWs (a b:Int):Y3 a b=some (sgn a b):=by
 unfold Y3 qfb qgc qiS
 simp only [Tree.run,Option.bind_some,decide_true,Bool.not_true,cond_false,sgn]
 by_cases h:a < b
 ·simp [h]
 ·by_cases h2:b < a
  ·simp [h,h2]
  ·simp [h,h2]
theorem qNm (a b:Int):qin N [a,b]=some (if a=0 then b else a):=by
 obtain ⟨n,rfl⟩:∃ n,N=n + 3:=⟨N - 3,by have:=big N; omega⟩
 have e:qlv (n + 3) [a,b] ((([a,b]:List Int).length:Nat):Int) 0=qQ (J_ (n + 3) [a,b] 2) some (n + 3) 0:=rfl
 have r0:(J_ (n + 3) [a,b] 2 0).run some=if a=0 then some (.inl 1) else some (.inr (.inl a)):=by
  unfold J_
  have g:qM [a,b] 0=some a:=rfl
  have c:qp ((0:Int) + 1):=by unfold qp; omega
  rw [qL,show decide ((0:Int) < 2)=true from rfl,cond_true,run_bind,g,Option.bind_some,qL,qS,qi c]
  by_cases h:a=0
  ·rw [if_pos h,decide_eq_true h]; rfl
  ·rw [if_neg h,decide_eq_false h]; rfl
 have r1:(J_ (n + 3) [a,b] 2 1).run some=if b=0 then some (.inl 2) else some (.inr (.inl b)):=by
  unfold J_
  have g:qM [a,b] 1=some b:=rfl
  have c:qp ((1:Int) + 1):=by unfold qp; omega
  rw [qL,show decide ((1:Int) < 2)=true from rfl,cond_true,run_bind,g,Option.bind_some,qL,qS,qi c]
  by_cases h:b=0
  ·rw [if_pos h,decide_eq_true h]; rfl
  ·rw [if_neg h,decide_eq_false h]; rfl
 have r2:(J_ (n + 3) [a,b] 2 2).run some=some (.inr (.inr (2,false))):=rfl
 unfold qin qm0
 rw [run_bind,e]
 by_cases h:a=0
 ·rw [if_pos h] at r0
  rw [Zq r0,if_pos h]
  by_cases h2:b=0
  ·rw [if_pos h2] at r1
   rw [Zq r1,zu r2,h2]; rfl
  ·rw [if_neg h2] at r1
   rw [zu r1]; rfl
 ·rw [if_neg h] at r0
  rw [zu r0,if_neg h]; rfl
theorem qWO (a b:Int):sgn a b=-1∨sgn a b=0∨sgn a b=1:=by
 unfold sgn; split
 ·exact .inl rfl
 ·split
  ·exact .inr (.inr rfl)
  ·exact .inr (.inl rfl)
theorem W5 (a b:qc):vv N a b=some (slB a b):=by
 obtain ⟨a1,a2⟩:=a
 obtain ⟨b1,b2⟩:=b
 unfold vv qnb
 simp only [Tree.run,qaL,qWs,Option.bind_some]
 by_cases h:((a1,a2):qc)=(b1,b2)
 ·cases h
  have:slB ((a1,a2):qc) (a1,a2)=false:=decide_eq_false (by simp only; omega)
  rw [this,decide_eq_true rfl]; rfl
 ·rw [decide_eq_false h]
  simp only [Bool.not_false,cond_true]
  show ((qin N [sgn a1 b1,sgn a2 b2]).bind _)=_
  have hs:=qWO a2 b2
  by_cases h1:a1 < b1
  ·rw [show sgn a1 b1=-1 from if_pos h1,qNm,show slB ((a1,a2):qc) (b1,b2)=true from decide_eq_true (.inl h1)]; rfl
  ·by_cases h2:b1 < a1
   ·rw [show sgn a1 b1=1 by unfold sgn; rw [if_neg h1,if_pos h2],qNm,show slB ((a1,a2):qc) (b1,b2)=false from decide_eq_false (by simp only; omega)]; rfl
   ·have he:a1=b1:=by omega
    rw [show sgn a1 b1=0 by unfold sgn; rw [if_neg h1,if_neg h2],qNm,if_pos rfl,Option.bind_some]
    congr 1
    show decide (sgn a2 b2 < 0)=decide (a1 < b1∨(a1=b1∧a2 < b2))
    rw [decide_eq_decide]
    simp only [he,Int.lt_irrefl,false_or,true_and]
    unfold sgn
    split
    ·rename_i h3; simp [h3]
    ·rename_i h3
     split
     ·simp; omega
     ·simp; omega
end n
theorem qgL {m:qg}:qqV m=true↔m.L.length≤14∧∀ k,k < m.L.length→(m.L.getD k zL).F.length≤12∧∀ j,j < (m.L.getD k zL).F.length→((m.L.getD k zL).F.getD j zE).B.length≤40:=by
 unfold qqV
 rw [Bool.and_eq_true,decide_eq_true_iff,Vg]
 refine and_congr Iff.rfl (forall_congr' fun k=>imp_congr_right fun _=>?_)
 unfold qFO
 rw [Bool.and_eq_true,decide_eq_true_iff,Vg]
 exact and_congr Iff.rfl (forall_congr' fun j=>imp_congr_right fun _=>decide_eq_true_iff)
end Go.Rx
end
set_option maxRecDepth 100000
noncomputable section
namespace Go.Rx
open Go.Proofs
def blk (n:Int):Int:=if n < 24 then 0 else n.tdiv 8
def qJS (e:qm) (dead:qc):Bool:=
 decide (0≤e.No)&&(decide (e.No < 8)&&(decide (0≤e.Len)&&(decide (e.Len≤200)&&(decide (((e.B.length:Nat):Int)=blk e.Len)&&(stB e.S&&slB dead e.S)))))
def qjy (l:List qm) (dead:qc) (k:Nat):Bool:=qJS (l.getD k zE) dead&&(decide (k=0)||!decide ((l.getD k zE).No≤(l.getD (k - 1) zE).No))
def qih (x:qn):Bool:=ve (qjy x.F x.qz) x.F.length&&(stB x.qz&&(decide (0 < x.F.length)||!decide (x.qz=zSt)))
def lbB (a b:Vector UInt8 16):Bool:=!decide (a=b)&&decide (Go.Lib.compareBytes a.toList b.toList < 0)
def qhR (l:List qn) (k:Nat):Bool:=qih (l.getD k zL)&&(decide (k=0)||lbB (l.getD (k - 1) zL).ID (l.getD k zL).ID)
def qil (m:qg):Bool:=ve (qhR m.L) m.L.length&&decide (m.L.length≤10)
theorem qUF {a b:Bool}:(bif a then some b else some false)=some (a&&b):=by cases a<;>rfl
theorem qOW {n:Int} (h:n≤200) (h0:0≤n):qcP n=some (blk n):=by
 unfold qcP qe7 blk
 by_cases h1:n < 24
 ·simp only [Tree.run,decide_eq_true h1,cond_true,if_pos h1]
 ·have e:n.tdiv 8≤n:=by rw [Int.tdiv_eq_ediv_of_nonneg h0]; omega
  have e0:0≤n.tdiv 8:=by rw [Int.tdiv_eq_ediv_of_nonneg h0]; omega
  have h64:qp (n.tdiv 8):=by unfold qp; omega
  simp only [Tree.run,decide_eq_false h1,cond_false,if_neg h1,qi h64]
  exact qi (by decide)
section n
variable {N:Nat} [Jm N]
theorem qSw (e:qm) (dead:qc):qer N e dead=some (qJS e dead):=by
 unfold qer qgA qJS
 simp only [Tree.run]
 by_cases h1:0≤e.No
 ·rw [decide_eq_true h1]
  by_cases h2:e.No < 8
  ·rw [decide_eq_true h2]
   by_cases h3:0≤e.Len
   ·rw [decide_eq_true h3]
    by_cases h4:e.Len≤200
    ·rw [decide_eq_true h4,qOW h4 h3]
     simp only [cond_true,Option.bind_some,qnq,W5,Bool.true_and]
     cases decide (((e.B.length:Nat):Int)=blk e.Len) with
     | false=>rfl
     | true=>exact qUF
    ·rw [decide_eq_false h4]; rfl
   ·rw [decide_eq_false h3]; rfl
  ·rw [decide_eq_false h2]; rfl
 ·rw [decide_eq_false h1]; rfl
theorem qjX {k:Nat} (h:0 < k):(k:Int) - 1=((k - 1:Nat):Int):=by omega
theorem qrI {k:Nat}:decide ((0:Int) < (k:Int))=!decide (k=0):=by
 by_cases h:k=0
 ·subst h; rfl
 ·rw [decide_eq_false h,decide_eq_true (by omega)]; rfl
theorem qVA {x : qn} (h : x.F.length ≤ 600) :
    qgE N x x.F ((x.F.length:Nat):Int) 0=some (if ve (qjy x.F x.qz) x.F.length then .inr (((x.F.length:Nat):Int),false) else .inl ()):=by
 refine VD (B:=YY N x x.F ((x.F.length:Nat):Int)) (g:=some) (q:=qjy x.F x.qz) (fun k hk=>?_) ?_ (by have:=big N; omega)
 ·unfold YY
  have h64:qp ((k + 1:Nat):Int):=qzf (by omega)
  simp only [Tree.run,dec_lt hk,cond_true,zo (d:=zE) hk,Option.bind_some,qT,qi h64,qSw,qrI]
  unfold qjy
  cases qJS (x.F.getD k zE) x.qz with
  | false=>rfl
  | true=>
   by_cases h0:k=0
   ·subst h0; rfl
   ·have hp:qp ((k - 1:Nat):Int):=by unfold qp; omega
    have hk1:k - 1 < x.F.length:=by omega
    simp only [decide_eq_false h0,Bool.not_true,Bool.not_false,cond_true,cond_false,qi hp,qjX (Nat.pos_of_ne_zero h0),zo (d:=zE) hk1,Option.bind_some,Bool.false_or,Bool.true_and]
    cases decide ((x.F.getD k zE).No≤(x.F.getD (k - 1) zE).No)<;>rfl
 ·unfold YY
  simp only [Tree.run,zi (Nat.lt_irrefl _),cond_false]
theorem qVa {x:qn} (h:x.F.length≤600):qgk N x=some (qih x):=by
 unfold qgk qhZ qih
 simp only [Tree.run,qVA h,Option.bind_some]
 cases ve (qjy x.F x.qz) x.F.length with
 | false=>rfl
 | true=>
  simp only [reduceIte,Tree.run,qnq,Option.bind_some,qrI,qaL,Bool.true_and]
  have e:eqE qh x.qz (qc.mk 0 0)=decide (x.qz=zSt):=qaL x.qz (qc.mk 0 0)
  have e2:decide (0 < x.F.length)=!decide (x.F.length=0):=by
   by_cases h:x.F.length=0
   ·rw [decide_eq_true h,decide_eq_false (by omega)]; rfl
   ·rw [decide_eq_false h,decide_eq_true (by omega)]; rfl
  cases stB x.qz with
  | false=>rfl
  | true=>
   rw [e2]
   cases decide (x.F.length=0)<;>rfl
theorem qIQ (a b:Vector UInt8 16):qkJ a b=some (lbB a b):=by
 unfold qkJ qp9 qbK qij qTN lbB
 simp only [Tree.run,Option.bind_some,que]
 cases decide (a=b)<;>rfl
theorem qVG {m : qg} (h : m.L.length ≤ 600) (hF : ∀ k, k < m.L.length → (m.L.getD k zL).F.length ≤ 600) :
    qh9 N m m.L ((m.L.length:Nat):Int) 0=some (if ve (qhR m.L) m.L.length then .inr (((m.L.length:Nat):Int),false) else .inl ()):=by
 refine VD (B:=KP N m m.L ((m.L.length:Nat):Int)) (g:=some) (q:=qhR m.L) (fun k hk=>?_) ?_ (by have:=big N; omega)
 ·unfold KP
  have h64:qp ((k + 1:Nat):Int):=qzf (by omega)
  simp only [Tree.run,dec_lt hk,cond_true,zo (d:=zL) hk,Option.bind_some,qT,qi h64,qVa (hF k hk),qrI]
  unfold qhR
  cases qih (m.L.getD k zL) with
  | false=>rfl
  | true=>
   by_cases h0:k=0
   ·subst h0; rfl
   ·have hp:qp ((k - 1:Nat):Int):=by unfold qp; omega
    have hk1:k - 1 < m.L.length:=by omega
    simp only [decide_eq_false h0,Bool.not_true,Bool.not_false,cond_true,cond_false,qi hp,qjX (Nat.pos_of_ne_zero h0),zo (d:=zL) hk1,Option.bind_some,Bool.false_or,Bool.true_and,qIQ]
    cases lbB (m.L.getD (k - 1) zL).ID (m.L.getD k zL).ID<;>rfl
 ·unfold KP
  simp only [Tree.run,zi (Nat.lt_irrefl _),cond_false]
theorem qQ4 {m:qg} (h:m.L.length≤600) (hF:∀ k,k < m.L.length→(m.L.getD k zL).F.length≤600):qh6 N m=some (qil m):=by
 unfold qh6 qjJ qil
 simp only [Tree.run,qVG h hF,Option.bind_some]
 cases ve (qhR m.L) m.L.length with
 | false=>rfl
 | true=>
  simp only [reduceIte,Tree.run,Bool.true_and]
  congr 1
  rw [decide_eq_decide]; omega
end n
theorem qS9 {m:qg}:qil m=true↔(∀ k,k < m.L.length→qih (m.L.getD k zL)=true∧(k=0∨lbB (m.L.getD (k - 1) zL).ID (m.L.getD k zL).ID=true))∧m.L.length≤10:=by
 unfold qil
 rw [Bool.and_eq_true,decide_eq_true_iff,Vg]
 refine and_congr (forall_congr' fun k=>imp_congr_right fun _=>?_) Iff.rfl
 show (qih (m.L.getD k zL)&&(decide (k=0)||lbB (m.L.getD (k - 1) zL).ID (m.L.getD k zL).ID))=true↔_
 rw [Bool.and_eq_true,Bool.or_eq_true,decide_eq_true_iff]
theorem Km (a:Vector UInt8 16):lbB a a=false:=by unfold lbB; rw [decide_eq_true rfl]; rfl
theorem qQz {x:qn}:qih x=true↔(∀ k,k < x.F.length→qjy x.F x.qz k=true)∧stB x.qz=true∧(0 < x.F.length∨x.qz≠zSt):=by
 unfold qih
 rw [Bool.and_eq_true,Bool.and_eq_true,Bool.or_eq_true,Vg,decide_eq_true_iff,Bool.not_eq_true',decide_eq_false_iff_not]
end Go.Rx
end
set_option maxRecDepth 100000
noncomputable section
namespace Go.Rx
abbrev c32 (x:UInt32):Int:=((x.toNat:Nat):Int)
theorem qJz (x:UInt32):x.toNat < 4294967296:=x.toNat_lt
theorem qdY (n:Nat):IntKind.u32.wrap ((n:Nat):Int)=((n % 4294967296:Nat):Int):=by rw [IntKind.wrap_u32']; omega
theorem qgM (x:UInt32):BitVec.ofInt 32 (c32 x)=x.toBitVec:=by
 apply BitVec.eq_of_toNat_eq
 rw [ofInt_u32 _ (qJz x)]
 rfl
theorem qBu (x:UInt32):IntKind.u32.wrap ((x.toNat:Nat):Int)=c32 x:=by rw [qdY,Nat.mod_eq_of_lt (qJz x)]
theorem Yt (x y:UInt32):vg .u32 (c32 x) (c32 y)=c32 (x + y):=by
 unfold vg
 show IntKind.u32.wrap (((x.toNat:Nat):Int) + ((y.toNat:Nat):Int))=_
 rw [← Int.natCast_add,qdY,c32,UInt32.toNat_add]
theorem qgr (x y:UInt32):V8 .u32 (c32 x) (c32 y)=c32 (x ^^^ y):=by
 unfold V8
 rw [show IntKind.u32.bits=32 from rfl,qgM,qgM]
 exact qBu (x ^^^ y)
theorem qt2 (x y:UInt32):KC .u32 (c32 x) (c32 y)=c32 (x &&& y):=by
 unfold KC
 rw [show IntKind.u32.bits=32 from rfl,qgM,qgM]
 exact qBu (x &&& y)
theorem qBz (x y:UInt32):uOr .u32 (c32 x) (c32 y)=c32 (x ||| y):=by
 unfold uOr
 rw [show IntKind.u32.bits=32 from rfl,qgM,qgM]
 exact qBu (x ||| y)
theorem qWM (x:UInt32):V8 .u32 4294967295 (c32 x)=c32 (~~~x):=by
 have h:(4294967295:Int)=c32 4294967295:=rfl
 rw [h,qgr]
 congr 2
theorem qUv (x:UInt32):qpY .u32 4294967295 (c32 x)=c32 (~~~x):=by
 unfold qpY
 have h:=qJz x
 show IntKind.u32.wrap ((4294967295:Int) - ((x.toNat:Nat):Int))=_
 rw [show (4294967295:Int) - ((x.toNat:Nat):Int)=((4294967295 - x.toNat:Nat):Int) by omega,qdY,Nat.mod_eq_of_lt (by omega),c32]
 congr 1
 rw [UInt32.toNat_not]
 rfl
theorem qEA (x:UInt32) (n:Nat) (h:n < 32):qBt .u32 (c32 x) n=c32 (x <<< UInt32.ofNat n):=by
 unfold qBt
 rw [show c32 x * 2 ^ n=((x.toNat * 2 ^ n:Nat):Int) by push_cast; rfl,qdY,c32,UInt32.toNat_shiftLeft,UInt32.toNat_ofNat_of_lt' (show n < UInt32.size by unfold UInt32.size; omega),Nat.mod_eq_of_lt h,Nat.shiftLeft_eq]
theorem qt_ (x:UInt32) (n:Nat) (h:n < 32):Jk (c32 x) n=c32 (x >>> UInt32.ofNat n):=by
 unfold Jk
 rw [show ((2:Int) ^ n)=((2 ^ n:Nat):Int) by push_cast; rfl,Int.fdiv_eq_ediv_of_nonneg _ (Int.natCast_nonneg _),c32,← Int.natCast_ediv,c32,UInt32.toNat_shiftRight,UInt32.toNat_ofNat_of_lt' (show n < UInt32.size by unfold UInt32.size; omega),Nat.mod_eq_of_lt h,Nat.shiftRight_eq_div_pow]
theorem qH9 (x:UInt32):inW (c32 x):=⟨Int.natCast_nonneg _,by have:=qJz x; show ((x.toNat:Nat):Int) < _; omega⟩
def rot (x:UInt32) (n:Nat):UInt32:=(x <<< UInt32.ofNat (32 - n)) ||| (x >>> UInt32.ofNat n)
end Go.Rx
end
