/- A part of the proof of AboveTells: the law returns true for every input, and its arguments read as before. No condition. -/
import Derived.Laws.BitsAllLaws
import Derived.Test.YtmnngfcoenhhkaaGreatAboveTellsF
set_option linter.unusedSimpArgs false
set_option linter.unusedVariables false
set_option linter.unusedSectionVars false
set_option maxRecDepth 100000
noncomputable section
namespace Go.Rx
open Go.Proofs
def qw1:List UInt8:=[0,1,2,2,3,3,3,3,4,4,4,4,4,4,4,4,5,5,5,5,5,5,5,5,5,5,5,5,5,5,5,5,6,6,6,6,6,6,6,6,6,6,6,6,6,6,6,6,6,6,6,6,6,6,6,6,6,6,6,6,6,6,6,6,7,7,7,7,7,7,7,7,7,7,7,7,7,7,7,7,7,7,7,7,7,7,7,7,7,7,7,7,7,7,7,7,7,7,7,7,7,7,7,7,7,7,7,7,7,7,7,7,7,7,7,7,7,7,7,7,7,7,7,7,7,7,7,7,8,8,8,8,8,8,8,8,8,8,8,8,8,8,8,8,8,8,8,8,8,8,8,8,8,8,8,8,8,8,8,8,8,8,8,8,8,8,8,8,8,8,8,8,8,8,8,8,8,8,8,8,8,8,8,8,8,8,8,8,8,8,8,8,8,8,8,8,8,8,8,8,8,8,8,8,8,8,8,8,8,8,8,8,8,8,8,8,8,8,8,8,8,8,8,8,8,8,8,8,8,8,8,8,8,8,8,8,8,8,8,8,8,8,8,8,8,8,8,8,8,8,8,8,8,8,8,8]
noncomputable def qBX:Code:=Tryz.f12.body.getD .skip
theorem qRi:FnF Tryz.prog 12 Tryz.f12 qBX:=⟨qk,by kernel_rfl,by kernel_rfl,by kernel_rfl⟩
def qdI:TH:={ live:=[(0,[1]),(1,[1,7]),(2,[2]),(3,[1,3]),(4,[1,3,12]),(5,[1,3]),(6,[1,3,23]),(7,[2]),(8,[2])] }
def qko (N:Nat):List Ent:=[]
theorem qiA (N:Nat):qU Tryz.prog (qko N):=trivial
abbrev Wb:=qa
abbrev QJ:=Unit⊕(Int×Bool)
def JD (f:Wb):QJ→Ex×TSt
 | .inl y=>(.ret,⟨0,24,[],[(2,.bc false)],[],false,[]⟩)
 | .inr y=>(.exit 0,⟨0,24,[],[(1,.p 10 [] 0),(3,xi y.1),(12,xb y.2)],[(10,.cell false (.tv qf f))],false,[]⟩)
def qrU (N:Nat):List (Nat×qw):=[]
abbrev Jq:=Int
def qg4:SP:=⟨0,24,[],[(1,.k (.p 10 [] 0)),(3,.x (.i .i64))],[(10,.cell false (.x qf))],false,[]⟩
def qrR (f:Wb) (v:Jq):TSt:=zq qg4 [dv qf f,dv (.i .i64) v]
def Wi (N:Nat) (o_4:qa) (v:Jq):Tree (Jq⊕QJ):=
 .cond (decide (v < (((qa.F o_4).length:Nat):Int))) (
 .bind (qM (qa.F o_4) v) fun e1=>
 .cond (decide (((300:Int)) < (((qe.V (qd.C e1)).length:Nat):Int))) (
 .ret (.inr (.inl ()))) <|
 .chk (qp (v + 1)) <|
 .ret (.inl (v + 1))) <|
 .ret (.inr (.inr ((v,decide (v < (((qa.F o_4).length:Nat):Int))))))
def qhq (N n:Nat) (f:Wb) (v:Jq):Option QJ:=qQ (Wi N f) some n v
theorem qsg (N:Nat) (f:Wb) (n:Nat) (v:Jq) (y:QJ) (h:qhq N n f v=some y):LG Tryz.prog qdI 12 (qE qBX 4) (qrR f v) (JD f y):=
 zj qk (E:=qko N) (L:=qJ (qrU N)) (st:=JD f) (g:=some) (R:=JD f) (qiA N) (qt (by kernel_rfl) trivial) (rg0 (by kernel_rfl)) (fun v=>by kernel_rfl) (qP (st:=JD f) fun y=>by rcases y with _ | _<;>rfl) n v y h
def qcx (N:Nat) (o_4:qa) (s3_4:Int):Option QJ:=qhq N N o_4 s3_4
def qg5 (N:Nat):qw:=smL qg4 [qf,(.i .i64)] QJ (fun x=>qcx N x.1 x.2.1) (csS cs1) fun x=>JD x.1
theorem qqG (N:Nat):zZ Tryz.prog qdI 12 (qE qBX 4) (qg5 N):=zp fun x z h=>qsg N x.1 N x.2.1 z h
def qw4 (z:Bool):TV×THp:=(xb z,[])
def qdP (N:Nat) (a0:qa):Tree (Bool):=
 .cond (decide (((12:Int)) < (((qa.F a0).length:Nat):Int))) (
 .ret false) <|
 .bind (qcx N a0 0) fun z1=>
 .sum z1 (fun z2=>
 .ret false) fun z2=>
 .ret true
def QT (N:Nat) (a0:qa):Option (Bool):=(qdP N a0).run some
def qxM (N:Nat):List (Nat×qw):=[(4,qg5 N)]
def qdF (N:Nat):Ent:=smF ⟨12,[],[.x qf],[],[]⟩ [qf] (Bool) (fun x=>QT N x.1) cs1 fun _=>qw4
theorem qi9 (N:Nat):zf Tryz.prog (qdF N):=
 zd (H:=qdI) (L:=qJ (qxM N)) (ts:=[qf]) (T:=fun x=>qdP N x.1) 0 qRi (qiA N) (qt (by kernel_rfl) ⟨qqG N,trivial⟩) (rg0 (by kernel_rfl)) fun x=>by kernel_rfl
noncomputable def qBC:Code:=Tryz.f10.body.getD .skip
theorem qRZ:FnF Tryz.prog 10 Tryz.f10 qBC:=⟨qk,by kernel_rfl,by kernel_rfl,by kernel_rfl⟩
def qdO:TH:={ live:=[(0,[1]),(1,[1,8]),(2,[2]),(3,[1,3]),(4,[1,3,13]),(5,[1,3]),(6,[1,3,4]),(7,[1,3,23]),(8,[2]),(9,[2])] }
def qkk (N:Nat):List Ent:=[qdF N]
theorem qiS (N:Nat):qU Tryz.prog (qkk N):=⟨qi9 N,trivial⟩
abbrev XZ:=qb
abbrev QG:=Unit⊕(Int×Bool)
def JE (f:XZ):QG→Ex×TSt
 | .inl y=>(.ret,⟨0,24,[],[(2,.bc false)],[],false,[]⟩)
 | .inr y=>(.exit 0,⟨0,24,[],[(1,.p 10 [] 0),(3,xi y.1),(13,xb y.2)],[(10,.cell false (.tv qj f))],false,[]⟩)
def qr9 (N:Nat):List (Nat×qw):=[]
abbrev JH:=Int
def qgQ:SP:=⟨0,24,[],[(1,.k (.p 10 [] 0)),(3,.x (.i .i64))],[(10,.cell false (.x qj))],false,[]⟩
def qsI (f:XZ) (v:JH):TSt:=zq qgQ [dv qj f,dv (.i .i64) v]
def X4 (N:Nat) (o_4:qb) (v:JH):Tree (JH⊕QG):=
 .cond (decide (v < (((qb.R o_4).length:Nat):Int))) (
 .bind (qM (qb.R o_4) v) fun e1=>
 .bind (QT N e1) fun r2=>
 .cond (!r2) (
 .ret (.inr (.inl ()))) <|
 .chk (qp (v + 1)) <|
 .ret (.inl (v + 1))) <|
 .ret (.inr (.inr ((v,decide (v < (((qb.R o_4).length:Nat):Int))))))
def qgN (N n:Nat) (f:XZ) (v:JH):Option QG:=qQ (X4 N f) some n v
theorem qrT (N:Nat) (f:XZ) (n:Nat) (v:JH) (y:QG) (h:qgN N n f v=some y):LG Tryz.prog qdO 10 (qE qBC 4) (qsI f v) (JE f y):=
 zj qk (E:=qkk N) (L:=qJ (qr9 N)) (st:=JE f) (g:=some) (R:=JE f) (qiS N) (qt (by kernel_rfl) trivial) (rg0 (by kernel_rfl)) (fun v=>by kernel_rfl) (qP (st:=JE f) fun y=>by rcases y with _ | _<;>rfl) n v y h
def qb_ (N:Nat) (o_4:qb) (s3_4:Int):Option QG:=qgN N N o_4 s3_4
def qht (N:Nat):qw:=smL qgQ [qj,(.i .i64)] QG (fun x=>qb_ N x.1 x.2.1) (csS cs1) fun x=>JE x.1
theorem qp4 (N:Nat):zZ Tryz.prog qdO 10 (qE qBC 4) (qht N):=zp fun x z h=>qrT N x.1 N x.2.1 z h
def qxl (z:Bool):TV×THp:=(xb z,[])
def qd5 (N:Nat) (a0:qb):Tree (Bool):=
 .cond (decide (((14:Int)) < (((qb.R a0).length:Nat):Int))) (
 .ret false) <|
 .bind (qb_ N a0 0) fun z1=>
 .sum z1 (fun z2=>
 .ret false) fun z2=>
 .ret true
def qaI (N:Nat) (a0:qb):Option (Bool):=(qd5 N a0).run some
def qwU (N:Nat):List (Nat×qw):=[(4,qht N)]
def qkj (N:Nat):Ent:=smF ⟨10,[],[.x qj],[],[]⟩ [qj] (Bool) (fun x=>qaI N x.1) cs1 fun _=>qxl
theorem qvT (N:Nat):zf Tryz.prog (qkj N):=
 zd (H:=qdO) (L:=qJ (qwU N)) (ts:=[qj]) (T:=fun x=>qd5 N x.1) 0 qRZ (qiS N) (qt (by kernel_rfl) ⟨qp4 N,trivial⟩) (rg0 (by kernel_rfl)) fun x=>by kernel_rfl
noncomputable def qnu:Code:=Tryz.f11.body.getD .skip
theorem qTt:FnF Tryz.prog 11 Tryz.f11 qnu:=⟨qk,by kernel_rfl,by kernel_rfl,by kernel_rfl⟩
def XO:TH:={ live:=[(0,[1]),(1,[1,8]),(2,[2]),(3,[1,3]),(4,[1,3,13]),(5,[1,3]),(6,[1,3,23]),(7,[2]),(8,[1,3,4]),(9,[1,3,4,32]),(10,[1,3,4]),(11,[1,3,4,46]),(12,[2]),(13,[2])] }
def qdB (N:Nat):List Ent:=[]
theorem qbv (N:Nat):qU Tryz.prog (qdB N):=trivial
abbrev Wn:=qg×Int
abbrev QI:=Unit⊕(Int×Bool)
def JA (f:Wn):QI→Ex×TSt
 | .inl y=>(.ret,⟨0,47,[],[(2,.bc false)],[],false,[]⟩)
 | .inr y=>(.exit 2,⟨0,47,[],[(1,.p 10 [] 0),(3,xi f.2),(4,xi y.1),(32,xb y.2)],[(10,.cell false (.tv qo f.1))],false,[]⟩)
def qrr (N:Nat):List (Nat×qw):=[]
abbrev JM:=Int
def qgT:SP:=⟨0,47,[],[(1,.k (.p 10 [] 0)),(3,.x (.i .i64)),(4,.x (.i .i64))],[(10,.cell false (.x qo))],false,[]⟩
def qsc (f:Wn) (v:JM):TSt:=zq qgT [dv qo f.1,dv (.i .i64) f.2,dv (.i .i64) v]
def X7 (N:Nat) (o_9:qg) (s3_9:Int) (v:JM):Tree (JM⊕QI):=
 .bind (qM (qg.L o_9) s3_9) fun e1=>
 .cond (decide (v < (((qn.F e1).length:Nat):Int))) (
 .bind (qM (qg.L o_9) s3_9) fun e2=>
 .bind (qM (qn.F e2) v) fun e3=>
 .cond (decide (((40:Int)) < (((qm.B e3).length:Nat):Int))) (
 .ret (.inr (.inl ()))) <|
 .chk (qp (v + 1)) <|
 .ret (.inl (v + 1))) <|
 .ret (.inr (.inr ((v,decide (v < (((qn.F e1).length:Nat):Int))))))
def qg6 (N n:Nat) (f:Wn) (v:JM):Option QI:=qQ (X7 N f.1 f.2) some n v
theorem qsD (N:Nat) (f:Wn) (n:Nat) (v:JM) (y:QI) (h:qg6 N n f v=some y):LG Tryz.prog XO 11 (qE (qE qnu 4) 9) (qsc f v) (JA f y):=
 zj qk (E:=qdB N) (L:=qJ (qrr N)) (st:=JA f) (g:=some) (R:=JA f) (qbv N) (qt (by kernel_rfl) trivial) (rg0 (by kernel_rfl)) (fun v=>by kernel_rfl) (qP (st:=JA f) fun y=>by rcases y with _ | _<;>rfl) n v y h
def qce (N:Nat) (o_9:qg) (s3_9:Int) (s4_9:Int):Option QI:=qg6 N N (o_9,s3_9) s4_9
def qgV (N:Nat):qw:=smL qgT [qo,(.i .i64),(.i .i64)] QI (fun x=>qce N x.1 x.2.1 x.2.2.1) (csS cs1) fun x=>JA (x.1,x.2.1)
theorem qqz (N:Nat):zZ Tryz.prog XO 11 (qE (qE qnu 4) 9) (qgV N):=zp fun x z h=>qsD N (x.1,x.2.1) N x.2.2.1 z h
abbrev XY:=qg
abbrev QH:=Unit⊕(Int×Bool)
def Js (f:XY):QH→Ex×TSt
 | .inl y=>(.ret,⟨0,47,[],[(2,.bc false)],[],false,[]⟩)
 | .inr y=>(.exit 0,⟨0,47,[],[(1,.p 10 [] 0),(3,xi y.1),(13,xb y.2)],[(10,.cell false (.tv qo f))],false,[]⟩)
def qrW (N:Nat):List (Nat×qw):=[(9,qgV N)]
abbrev Jv:=Int
def qha:SP:=⟨0,47,[],[(1,.k (.p 10 [] 0)),(3,.x (.i .i64))],[(10,.cell false (.x qo))],false,[]⟩
def qsP (f:XY) (v:Jv):TSt:=zq qha [dv qo f,dv (.i .i64) v]
def Wg (N:Nat) (o_4:qg) (v:Jv):Tree (Jv⊕QH):=
 .cond (decide (v < (((qg.L o_4).length:Nat):Int))) (
 .bind (qM (qg.L o_4) v) fun e1=>
 .cond (decide (((12:Int)) < (((qn.F e1).length:Nat):Int))) (
 .ret (.inr (.inl ()))) <|
 .bind (qce N o_4 v 0) fun z2=>
 .sum z2 (fun z3=>
 .ret (.inr (.inl ()))) fun z3=>
 .chk (qp (v + 1)) <|
 .ret (.inl (v + 1))) <|
 .ret (.inr (.inr ((v,decide (v < (((qg.L o_4).length:Nat):Int))))))
def qgU (N n:Nat) (f:XY) (v:Jv):Option QH:=qQ (Wg N f) some n v
theorem qrL (N:Nat) (f:XY) (n:Nat) (v:Jv) (y:QH) (h:qgU N n f v=some y):LG Tryz.prog XO 11 (qE qnu 4) (qsP f v) (Js f y):=
 zj qk (E:=qdB N) (L:=qJ (qrW N)) (st:=Js f) (g:=some) (R:=Js f) (qbv N) (qt (by kernel_rfl) ⟨qqz N,trivial⟩) (rg0 (by kernel_rfl)) (fun v=>by kernel_rfl) (qP (st:=Js f) fun y=>by rcases y with _ | _<;>rfl) n v y h
def qb9 (N:Nat) (o_4:qg) (s3_4:Int):Option QH:=qgU N N o_4 s3_4
def qhB (N:Nat):qw:=smL qha [qo,(.i .i64)] QH (fun x=>qb9 N x.1 x.2.1) (csS cs1) fun x=>Js x.1
theorem qqa (N:Nat):zZ Tryz.prog XO 11 (qE qnu 4) (qhB N):=zp fun x z h=>qrL N x.1 N x.2.1 z h
def qxw (z:Bool):TV×THp:=(xb z,[])
def qdg (N:Nat) (a0:qg):Tree (Bool):=
 .cond (decide (((14:Int)) < (((qg.L a0).length:Nat):Int))) (
 .ret false) <|
 .bind (qb9 N a0 0) fun z1=>
 .sum z1 (fun z2=>
 .ret false) fun z2=>
 .ret true
def qbb (N:Nat) (a0:qg):Option (Bool):=(qdg N a0).run some
def qyF (N:Nat):List (Nat×qw):=[(4,qhB N)]
def qk3 (N:Nat):Ent:=smF ⟨11,[],[.x qo],[],[]⟩ [qo] (Bool) (fun x=>qbb N x.1) cs1 fun _=>qxw
theorem qvP (N:Nat):zf Tryz.prog (qk3 N):=
 zd (H:=XO) (L:=qJ (qyF N)) (ts:=[qo]) (T:=fun x=>qdg N x.1) 0 qTt (qbv N) (qt (by kernel_rfl) ⟨qqa N,trivial⟩) (rg0 (by kernel_rfl)) fun x=>by kernel_rfl
noncomputable def qRt:Code:=Tryz.f34.body.getD .skip
theorem qUe:FnF Tryz.prog 34 Tryz.f34 qRt:=⟨qk,by kernel_rfl,by kernel_rfl,by kernel_rfl⟩
def qLG:TH:={ live:=[(0,[1]),(1,[2])],dec:=[6,10,15,20] }
def qKX (N:Nat):List Ent:=[]
theorem qHv (N:Nat):qU Tryz.prog (qKX N):=trivial
def qLM (z:Bool):TV×THp:=(xb z,[])
def qpx (a0:qc):Tree (Bool):=
 .cond (eqE qh a0 (qc.mk 0 0)) (
 .ret true) <|
 .cond (decide (((0:Int)) < (qc.N a0))) (
 .cond (decide ((qc.N a0)≤((1099511627776:Int)))) (
 .cond (decide (((0:Int))≤(qc.Rep a0))) (
 .ret (decide ((qc.Rep a0) < ((8:Int))))) <|
 .ret false) <|
 .ret false) <|
 .ret false
def qaF (a0:qc):Option (Bool):=(qpx a0).run some
def qLu:List (Nat×qw):=[]
def qb6:Ent:=smF ⟨34,[],[.x qh],[],[]⟩ [qh] (Bool) (fun x=>qaF x.1) cs1 fun _=>qLM
theorem qdx:zf Tryz.prog (qb6):=
 zd (H:=qLG) (L:=qJ (qLu)) (ts:=[qh]) (T:=fun x=>qpx x.1) 0 qUe (qHv 0) (qt (by kernel_rfl) trivial) (rg0 (by kernel_rfl)) fun x=>by kernel_rfl
noncomputable def qS8:Code:=Tryz.f74.body.getD .skip
theorem qUg:FnF Tryz.prog 74 Tryz.f74 qS8:=⟨qk,by kernel_rfl,by kernel_rfl,by kernel_rfl⟩
def qNM:TH:={ live:=[(0,[1]),(1,[2])],dec:=[7,12] }
def qOu (N:Nat):List Ent:=[qb6]
theorem qJb (N:Nat):qU Tryz.prog (qOu N):=⟨qdx,trivial⟩
def qOl (z:Bool):TV×THp:=(xb z,[])
def qui (a0:qe):Tree (Bool):=
 .cond (!(eqE qh (qe.S a0) (qc.mk 0 0))) (
 .bind (qaF (qe.S a0)) fun r1=>
 .cond r1 (
 .ret (decide ((((qe.V a0).length:Nat):Int)≤((200:Int))))) <|
 .ret false) <|
 .ret false
def qgF (a0:qe):Option (Bool):=(qui a0).run some
def qNv:List (Nat×qw):=[]
def qE1:Ent:=smF ⟨74,[],[.x qq],[],[]⟩ [qq] (Bool) (fun x=>qgF x.1) cs1 fun _=>qOl
theorem qLj:zf Tryz.prog (qE1):=
 zd (H:=qNM) (L:=qJ (qNv)) (ts:=[qq]) (T:=fun x=>qui x.1) 0 qUg (qJb 0) (qt (by kernel_rfl) trivial) (rg0 (by kernel_rfl)) fun x=>by kernel_rfl
noncomputable def qRL:Code:=Tryz.f98.body.getD .skip
theorem qT0:FnF Tryz.prog 98 Tryz.f98 qRL:=⟨qk,by kernel_rfl,by kernel_rfl,by kernel_rfl⟩
def qDf:TH:={ live:=[(0,[0]),(1,[2])] }
def qEb (N:Nat):List Ent:=[]
theorem qAz (N:Nat):qU Tryz.prog (qEb N):=trivial
def qDe (a0:Int) (z:Unit):TV×THp:=(xb (!decide (a0=a0)),[])
def qhI (a0:Int):Tree (Unit):=
 .ret ()
def qgc (a0:Int):Option (Unit):=(qhI a0).run some
def qC3:List (Nat×qw):=[]
def qo0:Ent:=smF ⟨98,[],[.x (.i .i64)],[],[]⟩ [(.i .i64)] (Unit) (fun x=>qgc x.1) cs1 fun x=>qDe x.1
theorem qCK:zf Tryz.prog (qo0):=
 zd (H:=qDf) (L:=qJ (qC3)) (ts:=[(.i .i64)]) (T:=fun x=>qhI x.1) 0 qT0 (qAz 0) (qt (by kernel_rfl) trivial) (rg0 (by kernel_rfl)) fun x=>by kernel_rfl
noncomputable def qT8:Code:=Tryz.f67.body.getD .skip
theorem qS5:FnF Tryz.prog 67 Tryz.f67 qT8:=⟨qk,by kernel_rfl,by kernel_rfl,by kernel_rfl⟩
def qAg:TH:={ live:=[(0,[0,1]),(1,[0,1,5]),(2,[0,1,5,6]),(3,[0,1,6,11]),(4,[12]),(5,[4]),(6,[4]),(7,[0,1,13]),(8,[4]),(9,[0,1,16]),(10,[4]),(11,[19]),(12,[4]),(13,[4])] }
def qzV (N:Nat):List Ent:=[qo0]
theorem qv5 (N:Nat):qU Tryz.prog (qzV N):=⟨qCK,trivial⟩
def qAk (z:Int):TV×THp:=(xi z,[])
def qe_ (a0:Int) (a1:Int):Tree (Int):=
 .bind (qgc a0) fun r1=>
 .bind (qgc a1) fun r2=>
 .cond (!decide (a0=a0)) (
 .cond (!decide (a1=a1)) (
 .ret 0) <|
 .ret (-1)) <|
 .cond (!decide (a1=a1)) (
 .ret 1) <|
 .cond (decide (a0 < a1)) (
 .ret (-1)) <|
 .cond (decide (a1 < a0)) (
 .ret 1) <|
 .ret 0
def YY (a0:Int) (a1:Int):Option (Int):=(qe_ a0 a1).run some
def qAh:List (Nat×qw):=[]
def qlJ:Ent:=smF ⟨67,[],[.x (.i .i64),.x (.i .i64)],[],[]⟩ [(.i .i64),(.i .i64)] (Int) (fun x=>YY x.1 x.2.1) cs1 fun _=>qAk
theorem qxG:zf Tryz.prog (qlJ):=
 zd (H:=qAg) (L:=qJ (qAh)) (ts:=[(.i .i64),(.i .i64)]) (T:=fun x=>qe_ x.1 x.2.1) 0 qS5 (qv5 0) (qt (by kernel_rfl) trivial) (rg0 (by kernel_rfl)) fun x=>by kernel_rfl
noncomputable def qBS:Code:=Tryz.f66.body.getD .skip
theorem qRx:FnF Tryz.prog 66 Tryz.f66 qBS:=⟨qk,by kernel_rfl,by kernel_rfl,by kernel_rfl⟩
def qnq:TH:={ live:=[(0,[0]),(1,[0,3]),(2,[3,6,7,8]),(3,[3,6,7,8,9]),(4,[3,5,6,7,8]),(5,[3,5,6,7,8,14]),(6,[2]),(7,[3,6,7,8]),(8,[2])] }
def qyy (N:Nat):List Ent:=[]
theorem qru (N:Nat):qU Tryz.prog (qyy N):=trivial
abbrev qc5:=List Int×Int
abbrev X5:=Int⊕(Int×Bool)
def Kf (f:qc5):X5→Ex×TSt
 | .inl y=>(.ret,⟨0,18,[],[(2,xi y)],[],false,[]⟩)
 | .inr y=>(.exit 0,⟨0,18,[],[(3,.ic .i64 0),(6,.tv (.sl 1 (.i .i64)) f.1),(7,xi f.2),(8,xi y.1),(9,xb y.2)],[],false,[]⟩)
def qEj (N:Nat):List (Nat×qw):=[]
abbrev Y8:=Int
def qoV:SP:=⟨0,18,[],[(3,.k (.ic .i64 0)),(6,.x (.sl 1 (.i .i64))),(7,.x (.i .i64)),(8,.x (.i .i64))],[],false,[]⟩
def qEh (f:qc5) (v:Y8):TSt:=zq qoV [dv (.sl 1 (.i .i64)) f.1,dv (.i .i64) f.2,dv (.i .i64) v]
def Va (N:Nat) (s6_3:List Int) (s7_3:Int) (v:Y8):Tree (Y8⊕X5):=
 .cond (decide (v < s7_3)) (
 .bind (qM s6_3 v) fun e1=>
 .cond (!decide (e1=((0:Int)))) (
 .ret (.inr (.inl e1))) <|
 .chk (qp (v + 1)) <|
 .ret (.inl (v + 1))) <|
 .ret (.inr (.inr ((v,decide (v < s7_3)))))
def qpa (N n:Nat) (f:qc5) (v:Y8):Option X5:=qQ (Va N f.1 f.2) some n v
theorem qDz (N:Nat) (f:qc5) (n:Nat) (v:Y8) (y:X5) (h:qpa N n f v=some y):LG Tryz.prog qnq 66 (qE qBS 3) (qEh f v) (Kf f y):=
 zj qk (E:=qyy N) (L:=qJ (qEj N)) (st:=Kf f) (g:=some) (R:=Kf f) (qru N) (qt (by kernel_rfl) trivial) (rg0 (by kernel_rfl)) (fun v=>by kernel_rfl) (qP (st:=Kf f) fun y=>by rcases y with _ | _<;>rfl) n v y h
def qlz (N:Nat) (s6_3:List Int) (s7_3:Int) (s8_3:Int):Option X5:=qpa N N (s6_3,s7_3) s8_3
def qoL (N:Nat):qw:=smL qoV [(.sl 1 (.i .i64)),(.i .i64),(.i .i64)] X5 (fun x=>qlz N x.1 x.2.1 x.2.2.1) (csS cs1) fun x=>Kf (x.1,x.2.1)
theorem qB0 (N:Nat):zZ Tryz.prog qnq 66 (qE qBS 3) (qoL N):=zp fun x z h=>qDz N (x.1,x.2.1) N x.2.2.1 z h
def qJi (z:Int):TV×THp:=(xi z,[])
def qnz (N:Nat) (a0:List Int):Tree (Int):=
 .bind (qlz N a0 ((a0.length:Nat):Int) 0) fun z1=>
 .sum z1 (fun z2=>
 .ret z2) fun z2=>
 .ret 0
def qia (N:Nat) (a0:List Int):Option (Int):=(qnz N a0).run some
def qIZ (N:Nat):List (Nat×qw):=[(3,qoL N)]
def qyK (N:Nat):Ent:=smF ⟨66,[],[.x (.sl 1 (.i .i64))],[],[]⟩ [(.sl 1 (.i .i64))] (Int) (fun x=>qia N x.1) cs1 fun _=>qJi
theorem qHJ (N:Nat):zf Tryz.prog (qyK N):=
 zd (H:=qnq) (L:=qJ (qIZ N)) (ts:=[(.sl 1 (.i .i64))]) (T:=fun x=>qnz N x.1) 0 qRx (qru N) (qt (by kernel_rfl) ⟨qB0 N,trivial⟩) (rg0 (by kernel_rfl)) fun x=>by kernel_rfl
noncomputable def qR1:Code:=Tryz.f28.body.getD .skip
theorem qTh:FnF Tryz.prog 28 Tryz.f28 qR1:=⟨qk,by kernel_rfl,by kernel_rfl,by kernel_rfl⟩
def qKq:TH:={ live:=[(0,[2,3]),(1,[4])],dec:=[8] }
def qJL (N:Nat):List Ent:=[qlJ,qyK N]
theorem qFQ (N:Nat):qU Tryz.prog (qJL N):=⟨qxG,qHJ N,trivial⟩
def qKu (z:Bool):TV×THp:=(xb z,[])
def qnC (N:Nat) (a0:qc) (a1:qc):Tree (Bool):=
 .cond (!(eqE qh a0 a1)) (
 .bind (YY (qc.N a0) (qc.N a1)) fun r1=>
 .bind (YY (qc.Rep a0) (qc.Rep a1)) fun r2=>
 .bind (qia N [r1,r2]) fun r3=>
 .ret (decide (r3 < ((0:Int))))) <|
 .ret false
def vz (N:Nat) (a0:qc) (a1:qc):Option (Bool):=(qnC N a0 a1).run some
def qIt (N:Nat):List (Nat×qw):=[]
def XQ (N:Nat):Ent:=smF ⟨28,[],[.x qh,.x qh],[],[]⟩ [qh,qh] (Bool) (fun x=>vz N x.1 x.2.1) cs1 fun _=>qKu
theorem Wv (N:Nat):zf Tryz.prog (XQ N):=
 zd (H:=qKq) (L:=qJ (qIt N)) (ts:=[qh,qh]) (T:=fun x=>qnC N x.1 x.2.1) 0 qTh (qFQ N) (qt (by kernel_rfl) trivial) (rg0 (by kernel_rfl)) fun x=>by kernel_rfl
noncomputable def qCQ:Code:=Tryz.f35.body.getD .skip
theorem qTZ:FnF Tryz.prog 35 Tryz.f35 qCQ:=⟨qk,by kernel_rfl,by kernel_rfl,by kernel_rfl⟩
def qw3:TH:={ live:=[(0,[1]),(1,[1,21]),(2,[2]),(3,[1,23,24,25]),(4,[1,23,24,25,26]),(5,[1,3,4,23,24,25]),(6,[1,4,5,23,24,25]),(7,[1,23,24,25,74]),(8,[2]),(9,[1,23,24,25]),(10,[2])],dec:=[10,15,32,37,40,55,60,66] }
def qGL (N:Nat):List Ent:=[qb6,qE1,XQ N]
theorem qAJ (N:Nat):qU Tryz.prog (qGL N):=⟨qdx,qLj,Wv N,trivial⟩
abbrev qh4:=qa×List qd×Int
abbrev K3:=Unit⊕(Int×Bool)
def qdX (f:qh4):K3→Ex×TSt
 | .inl y=>(.ret,⟨0,76,[],[(2,.bc false)],[],false,[]⟩)
 | .inr y=>(.exit 0,⟨0,76,[],[(1,.p 10 [] 0),(23,.tv (.sl 4 qB) f.2.1),(24,xi f.2.2),(25,xi y.1),(26,xb y.2)],[(10,.cell false (.tv qf f.1))],false,[]⟩)
def qJs (N:Nat):List (Nat×qw):=[]
abbrev qdf:=Int
def qys:SP:=⟨0,76,[],[(1,.k (.p 10 [] 0)),(23,.x (.sl 4 qB)),(24,.x (.i .i64)),(25,.x (.i .i64))],[(10,.cell false (.x qf))],false,[]⟩
def qJM (f:qh4) (v:qdf):TSt:=zq qys [dv qf f.1,dv (.sl 4 qB) f.2.1,dv (.i .i64) f.2.2,dv (.i .i64) v]
def qim (N:Nat) (o_4:qa) (s23_4:List qd) (s24_4:Int) (v:qdf):Tree (qdf⊕K3):=
 .cond (decide (v < s24_4)) (
 .bind (qM s23_4 v) fun e1=>
 .cond (decide (v=((0:Int)))) (
 .cond (decide (((0:Int))≤(qd.No e1))) (
 .cond (decide (((8:Int))≤(qd.No e1))) (
 .ret (.inr (.inl ()))) <|
 .bind (qgF (qd.C e1)) fun r2=>
 .cond (!r2) (
 .ret (.inr (.inl ()))) <|
 .bind (vz N (qa.qz o_4) (qe.S (qd.C e1))) fun r3=>
 .cond (!r3) (
 .ret (.inr (.inl ()))) <|
 .chk (qp (v + 1)) <|
 .ret (.inl (v + 1))) <|
 .cond (decide (((0:Int)) < v)) (
 .chk (qp (v - 1)) <|
 .bind (qM (qa.F o_4) (v - 1)) fun e2=>
 .cond (!(decide ((qd.No e2) < (qd.No e1)))) (
 .ret (.inr (.inl ()))) <|
 .cond (decide (((8:Int))≤(qd.No e1))) (
 .ret (.inr (.inl ()))) <|
 .bind (qgF (qd.C e1)) fun r3=>
 .cond (!r3) (
 .ret (.inr (.inl ()))) <|
 .bind (vz N (qa.qz o_4) (qe.S (qd.C e1))) fun r4=>
 .cond (!r4) (
 .ret (.inr (.inl ()))) <|
 .chk (qp (v + 1)) <|
 .ret (.inl (v + 1))) <|
 .ret (.inr (.inl ()))) <|
 .cond (decide (((0:Int)) < v)) (
 .chk (qp (v - 1)) <|
 .bind (qM (qa.F o_4) (v - 1)) fun e2=>
 .cond (!(decide ((qd.No e2) < (qd.No e1)))) (
 .ret (.inr (.inl ()))) <|
 .cond (decide (((8:Int))≤(qd.No e1))) (
 .ret (.inr (.inl ()))) <|
 .bind (qgF (qd.C e1)) fun r3=>
 .cond (!r3) (
 .ret (.inr (.inl ()))) <|
 .bind (vz N (qa.qz o_4) (qe.S (qd.C e1))) fun r4=>
 .cond (!r4) (
 .ret (.inr (.inl ()))) <|
 .chk (qp (v + 1)) <|
 .ret (.inl (v + 1))) <|
 .ret (.inr (.inl ()))) <|
 .ret (.inr (.inr ((v,decide (v < s24_4)))))
def qy7 (N n:Nat) (f:qh4) (v:qdf):Option K3:=qQ (qim N f.1 f.2.1 f.2.2) some n v
theorem qIK (N:Nat) (f:qh4) (n:Nat) (v:qdf) (y:K3) (h:qy7 N n f v=some y):LG Tryz.prog qw3 35 (qE qCQ 4) (qJM f v) (qdX f y):=
 zj qk (E:=qGL N) (L:=qJ (qJs N)) (st:=qdX f) (g:=some) (R:=qdX f) (qAJ N) (qt (by kernel_rfl) trivial) (rg0 (by kernel_rfl)) (fun v=>by kernel_rfl) (qP (st:=qdX f) fun y=>by rcases y with _ | _<;>rfl) n v y h
def qmc (N:Nat) (o_4:qa) (s23_4:List qd) (s24_4:Int) (s25_4:Int):Option K3:=qy7 N N (o_4,s23_4,s24_4) s25_4
def qwL (N:Nat):qw:=smL qys [qf,(.sl 4 qB),(.i .i64),(.i .i64)] K3 (fun x=>qmc N x.1 x.2.1 x.2.2.1 x.2.2.2.1) (csS cs1) fun x=>qdX (x.1,x.2.1,x.2.2.1)
theorem qHO (N:Nat):zZ Tryz.prog qw3 35 (qE qCQ 4) (qwL N):=zp fun x z h=>qIK N (x.1,x.2.1,x.2.2.1) N x.2.2.2.1 z h
def qQr (z:Bool):TV×THp:=(xb z,[])
def qyk (N:Nat) (a0:qa):Tree (Bool):=
 .bind (qaF (qa.qz a0)) fun r1=>
 .cond (!r1) (
 .ret false) <|
 .cond (decide ((((qa.F a0).length:Nat):Int)=((0:Int)))) (
 .cond (eqE qh (qa.qz a0) (qc.mk 0 0)) (
 .ret false) <|
 .bind (qmc N a0 (qa.F a0) (((qa.F a0).length:Nat):Int) 0) fun z2=>
 .sum z2 (fun z3=>
 .ret false) fun z3=>
 .ret true) <|
 .bind (qmc N a0 (qa.F a0) (((qa.F a0).length:Nat):Int) 0) fun z2=>
 .sum z2 (fun z3=>
 .ret false) fun z3=>
 .ret true
def qjE (N:Nat) (a0:qa):Option (Bool):=(qyk N a0).run some
def qQx (N:Nat):List (Nat×qw):=[(4,qwL N)]
def qo1 (N:Nat):Ent:=smF ⟨35,[],[.x qf],[],[]⟩ [qf] (Bool) (fun x=>qjE N x.1) cs1 fun _=>qQr
theorem qtv (N:Nat):zf Tryz.prog (qo1 N):=
 zd (H:=qw3) (L:=qJ (qQx N)) (ts:=[qf]) (T:=fun x=>qyk N x.1) 0 qTZ (qAJ N) (qt (by kernel_rfl) ⟨qHO N,trivial⟩) (rg0 (by kernel_rfl)) fun x=>by kernel_rfl
noncomputable def qTy:Code:=Tryz.f94.body.getD .skip
theorem qRs:FnF Tryz.prog 94 Tryz.f94 qTy:=⟨qk,by kernel_rfl,by kernel_rfl,by kernel_rfl⟩
def qEr:TH:={ live:=[(0,[0,1]),(1,[4])] }
def qDN (N:Nat):List Ent:=[qPH]
theorem qAu (N:Nat):qU Tryz.prog (qDN N):=⟨qVj,trivial⟩
def qEZ (z:Int):TV×THp:=(xi z,[])
def qhW (a0:List UInt8) (a1:List UInt8):Tree (Int):=
 .bind (qSR a0 a1) fun r1=>
 .ret r1
def qbG (a0:List UInt8) (a1:List UInt8):Option (Int):=(qhW a0 a1).run some
def qD0:List (Nat×qw):=[]
def qcR:Ent:=smF ⟨94,[],[.x .bl,.x .bl],[],[]⟩ [.bl,.bl] (Int) (fun x=>qbG x.1 x.2.1) cs1 fun _=>qEZ
theorem qgI:zf Tryz.prog (qcR):=
 zd (H:=qEr) (L:=qJ (qD0)) (ts:=[.bl,.bl]) (T:=fun x=>qhW x.1 x.2.1) 0 qRs (qAu 0) (qt (by kernel_rfl) trivial) (rg0 (by kernel_rfl)) fun x=>by kernel_rfl
noncomputable def qS3:Code:=Tryz.f60.body.getD .skip
theorem qSo:FnF Tryz.prog 60 Tryz.f60 qS3:=⟨qk,by kernel_rfl,by kernel_rfl,by kernel_rfl⟩
def qLc:TH:={ live:=[(0,[2,3]),(1,[4])],dec:=[8] }
def qLD (N:Nat):List Ent:=[qcR]
theorem qHm (N:Nat):qU Tryz.prog (qLD N):=⟨qgI,trivial⟩
def qLd (z:Bool):TV×THp:=(xb z,[])
def qpS (a0:Vector UInt8 16) (a1:Vector UInt8 16):Tree (Bool):=
 .cond (!(eqE (.ba 16) a0 a1)) (
 .bind (qbG a0.toList a1.toList) fun r1=>
 .ret (decide (r1 < ((0:Int))))) <|
 .ret false
def qkm (a0:Vector UInt8 16) (a1:Vector UInt8 16):Option (Bool):=(qpS a0 a1).run some
def qLF:List (Nat×qw):=[]
def qpC:Ent:=smF ⟨60,[],[.x (.ba 16),.x (.ba 16)],[],[]⟩ [(.ba 16),(.ba 16)] (Bool) (fun x=>qkm x.1 x.2.1) cs1 fun _=>qLd
theorem qxu:zf Tryz.prog (qpC):=
 zd (H:=qLc) (L:=qJ (qLF)) (ts:=[(.ba 16),(.ba 16)]) (T:=fun x=>qpS x.1 x.2.1) 0 qSo (qHm 0) (qt (by kernel_rfl) trivial) (rg0 (by kernel_rfl)) fun x=>by kernel_rfl
noncomputable def qBN:Code:=Tryz.f25.body.getD .skip
theorem qR8:FnF Tryz.prog 25 Tryz.f25 qBN:=⟨qk,by kernel_rfl,by kernel_rfl,by kernel_rfl⟩
def quz:TH:={ live:=[(0,[1]),(1,[1,6,7,8]),(2,[1,6,7,8,9]),(3,[1,3,4,6,7,8]),(4,[1,6,7,8,32]),(5,[2]),(6,[1,6,7,8]),(7,[2])],dec:=[16,19] }
def qEd (N:Nat):List Ent:=[qo1 N,qpC]
theorem qy8 (N:Nat):qU Tryz.prog (qEd N):=⟨qtv N,qxu,trivial⟩
abbrev qgh:=qb×List qa×Int
abbrev YM:=Unit⊕(Int×Bool)
def qbL (f:qgh):YM→Ex×TSt
 | .inl y=>(.ret,⟨0,38,[],[(2,.bc false)],[],false,[]⟩)
 | .inr y=>(.exit 0,⟨0,38,[],[(1,.p 10 [] 0),(6,.tv (.sl 19 qf) f.2.1),(7,xi f.2.2),(8,xi y.1),(9,xb y.2)],[(10,.cell false (.tv qj f.1))],false,[]⟩)
def qHT (N:Nat):List (Nat×qw):=[]
abbrev qbE:=Int
def qu0:SP:=⟨0,38,[],[(1,.k (.p 10 [] 0)),(6,.x (.sl 19 qf)),(7,.x (.i .i64)),(8,.x (.i .i64))],[(10,.cell false (.x qj))],false,[]⟩
def qHY (f:qgh) (v:qbE):TSt:=zq qu0 [dv qj f.1,dv (.sl 19 qf) f.2.1,dv (.i .i64) f.2.2,dv (.i .i64) v]
def qgs (N:Nat) (o_2:qb) (s6_2:List qa) (s7_2:Int) (v:qbE):Tree (qbE⊕YM):=
 .cond (decide (v < s7_2)) (
 .bind (qM s6_2 v) fun e1=>
 .bind (qjE N e1) fun r2=>
 .cond (!r2) (
 .ret (.inr (.inl ()))) <|
 .cond (decide (((0:Int)) < v)) (
 .chk (qp (v - 1)) <|
 .bind (qM (qb.R o_2) (v - 1)) fun e3=>
 .bind (qkm (qa.ID e3) (qa.ID e1)) fun r4=>
 .cond (!r4) (
 .ret (.inr (.inl ()))) <|
 .chk (qp (v + 1)) <|
 .ret (.inl (v + 1))) <|
 .chk (qp (v + 1)) <|
 .ret (.inl (v + 1))) <|
 .ret (.inr (.inr ((v,decide (v < s7_2)))))
def qvn (N n:Nat) (f:qgh) (v:qbE):Option YM:=qQ (qgs N f.1 f.2.1 f.2.2) some n v
theorem qHy (N:Nat) (f:qgh) (n:Nat) (v:qbE) (y:YM) (h:qvn N n f v=some y):LG Tryz.prog quz 25 (qE qBN 2) (qHY f v) (qbL f y):=
 zj qk (E:=qEd N) (L:=qJ (qHT N)) (st:=qbL f) (g:=some) (R:=qbL f) (qy8 N) (qt (by kernel_rfl) trivial) (rg0 (by kernel_rfl)) (fun v=>by kernel_rfl) (qP (st:=qbL f) fun y=>by rcases y with _ | _<;>rfl) n v y h
def qpZ (N:Nat) (o_2:qb) (s6_2:List qa) (s7_2:Int) (s8_2:Int):Option YM:=qvn N N (o_2,s6_2,s7_2) s8_2
def qu8 (N:Nat):qw:=smL qu0 [qj,(.sl 19 qf),(.i .i64),(.i .i64)] YM (fun x=>qpZ N x.1 x.2.1 x.2.2.1 x.2.2.2.1) (csS cs1) fun x=>qbL (x.1,x.2.1,x.2.2.1)
theorem qFS (N:Nat):zZ Tryz.prog quz 25 (qE qBN 2) (qu8 N):=zp fun x z h=>qHy N (x.1,x.2.1,x.2.2.1) N x.2.2.2.1 z h
def qMU (z:Bool):TV×THp:=(xb z,[])
def quh (N:Nat) (a0:qb):Tree (Bool):=
 .bind (qpZ N a0 (qb.R a0) (((qb.R a0).length:Nat):Int) 0) fun z1=>
 .sum z1 (fun z2=>
 .ret false) fun z2=>
 .ret (decide ((((qb.R a0).length:Nat):Int)≤((10:Int))))
def qdh (N:Nat) (a0:qb):Option (Bool):=(quh N a0).run some
def qNe (N:Nat):List (Nat×qw):=[(2,qu8 N)]
def qmo (N:Nat):Ent:=smF ⟨25,[],[.x qj],[],[]⟩ [qj] (Bool) (fun x=>qdh N x.1) cs1 fun _=>qMU
theorem qqp (N:Nat):zf Tryz.prog (qmo N):=
 zd (H:=quz) (L:=qJ (qNe N)) (ts:=[qj]) (T:=fun x=>quh N x.1) 0 qR8 (qy8 N) (qt (by kernel_rfl) ⟨qFS N,trivial⟩) (rg0 (by kernel_rfl)) fun x=>by kernel_rfl
noncomputable def qT_:Code:=Tryz.f33.body.getD .skip
theorem qRg:FnF Tryz.prog 33 Tryz.f33 qT_:=⟨qk,by kernel_rfl,by kernel_rfl,by kernel_rfl⟩
def qIr:TH:={ live:=[(0,[1]),(1,[2])],dec:=[7] }
def qIz (N:Nat):List Ent:=[]
theorem qF4 (N:Nat):qU Tryz.prog (qIz N):=trivial
def qKF (z:Bool):TV×THp:=(xb z,[])
def qc_ (a0:qa):Tree (Bool):=
 .cond (eqE qh (qa.qz a0) (qc.mk 0 0)) (
 .ret (decide ((((qa.F a0).length:Nat):Int)=((0:Int))))) <|
 .ret false
def J7 (a0:qa):Option (Bool):=(qc_ a0).run some
def qJN:List (Nat×qw):=[]
def qit:Ent:=smF ⟨33,[],[.x qf],[],[]⟩ [qf] (Bool) (fun x=>J7 x.1) cs1 fun _=>qKF
theorem qlg:zf Tryz.prog (qit):=
 zd (H:=qIr) (L:=qJ (qJN)) (ts:=[qf]) (T:=fun x=>qc_ x.1) 0 qRg (qF4 0) (qt (by kernel_rfl) trivial) (rg0 (by kernel_rfl)) fun x=>by kernel_rfl
noncomputable def qRM:Code:=Tryz.f87.body.getD .skip
theorem qRz:FnF Tryz.prog 87 Tryz.f87 qRM:=⟨qk,by kernel_rfl,by kernel_rfl,by kernel_rfl⟩
def qzO:TH:={ live:=[(0,[0,1]),(1,[0,1,6]),(2,[0,1]),(3,[0,1]),(4,[0,1,16]),(5,[0]),(6,[4])],esc:=true,nil:=[(5,[⟨.sl 0,900000870,(.sl 19 qf)⟩])] }
def qAH (N:Nat):List Ent:=[]
theorem qwd (N:Nat):qU Tryz.prog (qAH N):=trivial
def qzL:Unit⊕Unit→TV×THp
 | .inl z=>(.v 900000870 0,[(900000870,.vec false 19 (.sl 19 qf) ([]:List qa))])
 | .inr z=>(.nils,[])
def KX (a0:Int):Tree (Unit⊕Unit):=
 .cond (decide (a0 < ((0:Int)))) (
 .no) <|
 .chk (qp a0) <|
 .cond (decide (((0:Int)) < a0)) (
 .chk (0 < a0∧a0.toNat * 56≤zh) <|
 .ret (.inl ())) <|
 .ret (.inr ())
def X0 (a0:Int):Option (Unit⊕Unit):=(KX a0).run some
def qz2:List (Nat×qw):=[]
def qlG:Ent:=smF ⟨87,[],[.k .nils,.x (.i .i64)],[],[]⟩ [(.i .i64)] (Unit⊕Unit) (fun x=>X0 x.1) (csS cs1) fun _=>qzL
theorem qwF:zf Tryz.prog (qlG):=
 zd (H:=qzO) (L:=qJ (qz2)) (ts:=[(.i .i64)]) (T:=fun x=>KX x.1) 0 qRz (qwd 0) (qt (by kernel_rfl) trivial) (rg0 (by kernel_rfl)) fun x=>by kernel_rfl
noncomputable def qnd:Code:=Tryz.f53.body.getD .skip
theorem qS2:FnF Tryz.prog 53 Tryz.f53 qnd:=⟨qk,by kernel_rfl,by kernel_rfl,by kernel_rfl⟩
def VZ:TH:={ live:=[(0,[0]),(1,[0,3]),(2,[0,3,9,10,11]),(3,[0,3,9,10,11,12]),(4,[0,3,5,9,10,11]),(5,[0,3,9,10,11]),(6,[0,3,9,10,11,20]),(7,[0,3,9,10,11]),(8,[0,3,9,10,11]),(9,[0,6]),(10,[6,25,26,27]),(11,[6,25,26,27,28]),(12,[6,8,25,26,27]),(13,[6,25,26,27]),(14,[6,25,26,27]),(15,[2])],raw:=[87],fresh:=[24],nil:=[(9,[⟨.sl 6,900000870,(.sl 19 qf)⟩])] }
def qcp (N:Nat):List Ent:=[qlG]
theorem qaz (N:Nat):qU Tryz.prog (qcp N):=⟨qwF,trivial⟩
abbrev Xg:=List (List qa)×List (List qa)×Int
abbrev Qe:=Int×Int×Bool
def ZO (f:Xg) (y:Qe):Ex×TSt:=(.exit 0,⟨0,36,[],[(0,.tv (.sl 1 (.sl 19 qf)) f.1),(3,xi y.1),(9,.tv (.sl 1 (.sl 19 qf)) f.2.1),(10,xi f.2.2),(11,xi y.2.1),(12,xb y.2.2)],[],false,[]⟩)
def qpk (N:Nat):List (Nat×qw):=[]
abbrev ZU:=Int×Int
def qfn:SP:=⟨0,36,[],[(0,.x (.sl 1 (.sl 19 qf))),(3,.x (.i .i64)),(9,.x (.sl 1 (.sl 19 qf))),(10,.x (.i .i64)),(11,.x (.i .i64))],[],false,[]⟩
def qpu (f:Xg) (v:ZU):TSt:=zq qfn [dv (.sl 1 (.sl 19 qf)) f.1,dv (.i .i64) v.1,dv (.sl 1 (.sl 19 qf)) f.2.1,dv (.i .i64) f.2.2,dv (.i .i64) v.2]
def Xu (N:Nat) (s0_3:List (List qa)) (s9_3:List (List qa)) (s10_3:Int) (v:ZU):Tree (ZU⊕Qe):=
 .cond (decide (v.2 < s10_3)) (
 .bind (qM s9_3 v.2) fun e1=>
 .chk (qp (v.1 + ((e1.length:Nat):Int))) <|
 .cond (decide ((v.1 + ((e1.length:Nat):Int)) < 0)) (
 .no) <|
 .chk (qp (v.2 + 1)) <|
 .ret (.inl (v.1 + ((e1.length:Nat):Int),v.2 + 1))) <|
 .ret (.inr (v.1,v.2,decide (v.2 < s10_3)))
def qga (N n:Nat) (f:Xg) (v:ZU):Option Qe:=qQ (Xu N f.1 f.2.1 f.2.2) some n v
theorem qqx (N:Nat) (f:Xg) (n:Nat) (v:ZU) (y:Qe) (h:qga N n f v=some y):LG Tryz.prog VZ 53 (qE qnd 3) (qpu f v) (ZO f y):=
 zj qk (E:=qcp N) (L:=qJ (qpk N)) (st:=ZO f) (g:=some) (R:=ZO f) (qaz N) (qt (by kernel_rfl) trivial) (rg0 (by kernel_rfl)) (fun v=>by kernel_rfl) (qP (st:=ZO f) fun y=>by rfl) n v y h
def qa3 (N:Nat) (s0_3:List (List qa)) (s9_3:List (List qa)) (s10_3:Int) (s3_3:Int) (s11_3:Int):Option Qe:=qga N N (s0_3,s9_3,s10_3) (s3_3,s11_3)
def qfv (N:Nat):qw:=smL qfn [(.sl 1 (.sl 19 qf)),(.i .i64),(.sl 1 (.sl 19 qf)),(.i .i64),(.i .i64)] Qe (fun x=>qa3 N x.1 x.2.2.1 x.2.2.2.1 x.2.1 x.2.2.2.2.1) cs1 fun x=>ZO (x.1,x.2.2.1,x.2.2.2.1)
theorem qov (N:Nat):zZ Tryz.prog VZ 53 (qE qnd 3) (qfv N):=zp fun x z h=>qqx N (x.1,x.2.2.1,x.2.2.2.1) N (x.2.1,x.2.2.2.2.1) z h
abbrev VF:=List (List qa)×Int
abbrev vM:=List qa×Int×Bool
def Zc (f:VF) (y:vM):Ex×TSt:=(.exit 2,⟨0,36,[],[(6,.v 900000870 y.1.length),(25,.tv (.sl 1 (.sl 19 qf)) f.1),(26,xi f.2),(27,xi y.2.1),(28,xb y.2.2)],[(900000870,.vec false 19 (.sl 19 qf) (y.1:List qa))],false,[]⟩)
def qn4 (N:Nat):List (Nat×qw):=[]
abbrev Zh:=List qa×Int
def qeV:SP:=⟨0,36,[],[(6,.vs 900000870),(25,.x (.sl 1 (.sl 19 qf))),(26,.x (.i .i64)),(27,.x (.i .i64))],[(900000870,.vec false 19)],false,[]⟩
def qn2 (f:VF) (v:Zh):TSt:=zq qeV [dv (.sl 19 qf) v.1,dv (.sl 1 (.sl 19 qf)) f.1,dv (.i .i64) f.2,dv (.i .i64) v.2]
def VR (N:Nat) (s25_11:List (List qa)) (s26_11:Int) (v:Zh):Tree (Zh⊕vM):=
 .cond (decide (v.2 < s26_11)) (
 .bind (qM s25_11 v.2) fun e1=>
 .chk (zU v.1.length v.1.length ((v.1++e1).length) 56) <|
 .chk (qp (v.2 + 1)) <|
 .ret (.inl (v.1++e1,v.2 + 1))) <|
 .ret (.inr (v.1,v.2,decide (v.2 < s26_11)))
def qeQ (N n:Nat) (f:VF) (v:Zh):Option vM:=qQ (VR N f.1 f.2) some n v
theorem qoB (N:Nat) (f:VF) (n:Nat) (v:Zh) (y:vM) (h:qeQ N n f v=some y):LG Tryz.prog VZ 53 (qE qnd 11) (qn2 f v) (Zc f y):=
 zj qk (E:=qcp N) (L:=qJ (qn4 N)) (st:=Zc f) (g:=some) (R:=Zc f) (qaz N) (qt (by kernel_rfl) trivial) (rg0 (by kernel_rfl)) (fun v=>by kernel_rfl) (qP (st:=Zc f) fun y=>by rfl) n v y h
def Wc (N:Nat) (s25_11:List (List qa)) (s26_11:Int) (o_11:List qa) (s27_11:Int):Option vM:=qeQ N N (s25_11,s26_11) (o_11,s27_11)
def qeD (N:Nat):qw:=smL qeV [(.sl 19 qf),(.sl 1 (.sl 19 qf)),(.i .i64),(.i .i64)] vM (fun x=>Wc N x.2.1 x.2.2.1 x.1 x.2.2.2.1) cs1 fun x=>Zc (x.2.1,x.2.2.1)
theorem qnl (N:Nat):zZ Tryz.prog VZ 53 (qE qnd 11) (qeD N):=zp fun x z h=>qoB N (x.2.1,x.2.2.1) N (x.1,x.2.2.2.1) z h
def qwp (z:List qa):TV×THp:=(.tv (.sl 19 qf) z,[])
def qcw (N:Nat) (a0:List (List qa)):Tree (List qa):=
 .bind (qa3 N a0 a0 ((a0.length:Nat):Int) 0 0) fun z1=>
 .bind (X0 z1.1) fun r2=>
 .sum r2 (fun r3=>
 .bind (zV [(([]:List qa).length,0)] (Wc N a0 ((a0.length:Nat):Int) [] 0)) fun z4=>
 .chk (z4.1.length=z4.1.length) <|
 .ret z4.1) fun r3=>
 .bind (zV [(([]:List qa).length,0)] (Wc N a0 ((a0.length:Nat):Int) [] 0)) fun z4=>
 .chk (z4.1.length=z4.1.length) <|
 .ret z4.1
def K1 (N:Nat) (a0:List (List qa)):Option (List qa):=(qcw N a0).run some
def qvE (N:Nat):List (Nat×qw):=[(3,qfv N),(11,qeD N)]
def qi2 (N:Nat):Ent:=smF ⟨53,[],[.x (.sl 1 (.sl 19 qf))],[],[]⟩ [(.sl 1 (.sl 19 qf))] (List qa) (fun x=>K1 N x.1) cs1 fun _=>qwp
theorem qtT (N:Nat):zf Tryz.prog (qi2 N):=
 zd (H:=VZ) (L:=qJ (qvE N)) (ts:=[(.sl 1 (.sl 19 qf))]) (T:=fun x=>qcw N x.1) 0 qS2 (qaz N) (qt (by kernel_rfl) ⟨qov N,qnl N,trivial⟩) (rg0 (by kernel_rfl)) fun x=>by kernel_rfl
noncomputable def qTz:Code:=Tryz.f88.body.getD .skip
theorem qCN:FnF Tryz.prog 88 Tryz.f88 qTz:=⟨qk,by kernel_rfl,by kernel_rfl,by kernel_rfl⟩
def qun:TH:={ live:=[(0,[0]),(1,[0,4]),(2,[2]),(3,[2])],vecs:=[5] }
def qtm (N:Nat):List Ent:=[]
theorem qqu (N:Nat):qU Tryz.prog (qtm N):=trivial
def qiV (a0:List qd) (z:Unit):TV×THp:=(.tv (.sl 4 qB) ((([]:List qd))++a0:List qd),[])
def qaR (a0:List qd):Tree (Unit):=
 .chk (List.isEmpty a0=false) <|
 .chk (zU ((([]:List qd)).length) 0 (((([]:List qd))++a0).length) 40) <|
 .chk (((([]:List qd))++a0).length=((([]:List qd))++a0).length) <|
 .ret ()
def qdi (a0:List qd):Option (Unit):=(qaR a0).run some
def quB:List (Nat×qw):=[]
theorem qqb:qbq Tryz.prog ⟨88,[],[.x (.sl 4 qB)],[],[]⟩ [(.sl 4 qB)] (fun x=>qaR x.1) (fun x=>qiV x.1):=
 Yp (H:=qun) (L:=qJ (quB)) 0 qCN (qqu 0) (qt (by kernel_rfl) trivial) (rg0 (by kernel_rfl)) fun x=>by kernel_rfl
def qpy:TH:={ live:=[(0,[0]),(1,[0,4]),(2,[2]),(3,[2])],vecs:=[5] }
def qps (N:Nat):List Ent:=[]
theorem qnF (N:Nat):qU Tryz.prog (qps N):=trivial
def qqo (z:Unit):TV×THp:=(.tv (.sl 4 qB) ([]:List qd),[])
def qfd:Tree (Unit):=
 .chk (0=0) <|
 .chk (0=0) <|
 .ret ()
def quR:Option (Unit):=(qfd).run some
def qrf:List (Nat×qw):=[]
theorem qm3:qbq Tryz.prog ⟨88,[],[.k (.es 0)],[],[]⟩ [] (fun x=>qfd) (fun _=>qqo):=
 Yp (H:=qpy) (L:=qJ (qrf)) 0 qCN (qnF 0) (qt (by kernel_rfl) trivial) (rg0 (by kernel_rfl)) fun x=>by kernel_rfl
def qpH:TH:={ live:=[(0,[0]),(1,[0,4]),(2,[2]),(3,[2])],vecs:=[5] }
def qq5 (N:Nat):List Ent:=[]
theorem qnc (N:Nat):qU Tryz.prog (qq5 N):=trivial
def qqy (z:Unit):TV×THp:=(.tv (.sl 4 qB) ([]:List qd),[])
def qf6:Tree (Unit):=
 .ret ()
def qul:Option (Unit):=(qf6).run some
def qqr:List (Nat×qw):=[]
theorem qmW:qbq Tryz.prog ⟨88,[],[.k (.es 1)],[],[]⟩ [] (fun x=>qf6) (fun _=>qqy):=
 Yp (H:=qpH) (L:=qJ (qqr)) 0 qCN (qnc 0) (qt (by kernel_rfl) trivial) (rg0 (by kernel_rfl)) fun x=>by kernel_rfl
def qfO (z:Unit):Unit:=()
def qpD (z:Unit):Unit:=()
def Zy (a0:List qd):Option (Unit):=
 bif a0.isEmpty then
  (quR).bind fun z0=>(qul).bind fun z1=>chk (qfO z0=qpD z1) (some (qfO z0))
 else qdi a0
def qhD:Ent:=smF ⟨88,[],[.x (.sl 4 qB)],[],[]⟩ [(.sl 4 qB)] (Unit) (fun x=>Zy x.1) cs1 fun x=>qiV x.1
theorem qqR:zf Tryz.prog (qhD):=qkJ fun x z h l=>by
 obtain ⟨a0,_⟩:=x
 replace h:Zy a0=some z:=h
 unfold Zy at h
 rcases qkl h with ⟨e,h2⟩ | ⟨_,h2⟩<;>clear h
 ·have e:=List.isEmpty_iff.1 e
  subst e
  obtain ⟨z0,c0,h2⟩:=bind_some h2
  obtain ⟨z1,c1,h2⟩:=bind_some h2
  obtain ⟨hE,h2⟩:=qj3 h2
  obtain rfl:=Option.some.inj h2
  refine qkT (t:=(.sl 4 qB)) (x:=[]) rfl (TV.ers []) (TV.ers []) (by exact qm3 (()) _ c0 l) ?_
  rw [hE]
  exact (by exact qmW (()) _ c1 l)
 ·exact qqb (a0,()) z h2 l
noncomputable def qSC:Code:=Tryz.f54.body.getD .skip
theorem qT3:FnF Tryz.prog 54 Tryz.f54 qSC:=⟨qk,by kernel_rfl,by kernel_rfl,by kernel_rfl⟩
def qNc:TH:={ live:=[(0,[1,2]),(1,[1,2]),(2,[2])],nil:=[(0,[⟨.ob 20 [2],25,(.sl 4 qB)⟩])] }
def qNd (N:Nat):List Ent:=[qhD]
theorem qJP (N:Nat):qU Tryz.prog (qNd N):=⟨qqR,trivial⟩
def qN3 (a0:qa) (z:Unit):TV×THp:=(.tv qf (qa.mk (qa.ID a0) (qa.qz a0) ((([]:List qd))++(qa.F a0))),[])
def qtc (a0:qa):Tree (Unit):=
 .bind (Zy (qa.F a0)) fun r1=>
 .ret ()
def quP (a0:qa):Option (Unit):=(qtc a0).run some
def qOI:List (Nat×qw):=[]
def qC4:Ent:=smF ⟨54,[],[.x qf],[],[]⟩ [qf] (Unit) (fun x=>quP x.1) cs1 fun x=>qN3 x.1
theorem qLo:zf Tryz.prog (qC4):=
 zd (H:=qNc) (L:=qJ (qOI)) (ts:=[qf]) (T:=fun x=>qtc x.1) 0 qT3 (qJP 0) (qt (by kernel_rfl) trivial) (rg0 (by kernel_rfl)) fun x=>by kernel_rfl
noncomputable def qQW:Code:=Tryz.f147.body.getD .skip
theorem qQf:FnF Tryz.prog 147 Tryz.f147 qQW:=⟨qk,by kernel_rfl,by kernel_rfl,by kernel_rfl⟩
def qxB:TH:={ live:=[(0,[2,3,4]),(1,[2,3,4,7]),(2,[6]),(3,[12]),(4,[6]),(5,[6])] }
def qxS (N:Nat):List Ent:=[XQ N]
theorem qte (N:Nat):qU Tryz.prog (qxS N):=⟨Wv N,trivial⟩
def qxa (z:Int):TV×THp:=(xi z,[])
def qd7 (N:Nat) (a0:qc) (a1:qc):Tree (Int):=
 .bind (vz N a0 a1) fun r1=>
 .cond r1 (
 .ret (-1)) <|
 .bind (vz N a1 a0) fun r2=>
 .cond r2 (
 .ret 1) <|
 .ret 0
def qa_ (N:Nat) (a0:qc) (a1:qc):Option (Int):=(qd7 N a0 a1).run some
def qxe (N:Nat):List (Nat×qw):=[]
def qkr (N:Nat):Ent:=smF ⟨147,[],[.x qh,.x qh,.fn 28 [] []],[],[]⟩ [qh,qh] (Int) (fun x=>qa_ N x.1 x.2.1) cs1 fun _=>qxa
theorem qvI (N:Nat):zf Tryz.prog (qkr N):=
 zd (H:=qxB) (L:=qJ (qxe N)) (ts:=[qh,qh]) (T:=fun x=>qd7 N x.1 x.2.1) 0 qQf (qte N) (qt (by kernel_rfl) trivial) (rg0 (by kernel_rfl)) fun x=>by kernel_rfl
noncomputable def qPa:Code:=Tryz.f146.body.getD .skip
theorem qO0:FnF Tryz.prog 146 Tryz.f146 qPa:=⟨qk,by kernel_rfl,by kernel_rfl,by kernel_rfl⟩
def qHb:TH:={ live:=[(0,[0,1]),(1,[2])] }
def qHG (N:Nat):List Ent:=[qkr N]
theorem qEm (N:Nat):qU Tryz.prog (qHG N):=⟨qvI N,trivial⟩
def qHE (a0:qe) (a1:qe) (z:Int):TV×THp:=(xi z,[(20,.cell false (.tv qq a0)),(30,.cell false (.tv qq a1))])
def qk7 (N:Nat) (a0:qe) (a1:qe):Tree (Int):=
 .bind (qa_ N (qe.S a0) (qe.S a1)) fun r1=>
 .ret r1
def qke (N:Nat) (a0:qe) (a1:qe):Option (Int):=(qk7 N a0 a1).run some
def qHh (N:Nat):List (Nat×qw):=[]
def qu9 (N:Nat):Ent:=smF ⟨146,[],[],[.k (.p 20 [] 0),.k (.p 30 [] 0)],[(20,.cell false (.x qq)),(30,.cell false (.x qq))]⟩ [qq,qq] (Int) (fun x=>qke N x.1 x.2.1) cs1 fun x=>qHE x.1 x.2.1
theorem qFY (N:Nat):zf Tryz.prog (qu9 N):=
 zd (H:=qHb) (L:=qJ (qHh N)) (ts:=[qq,qq]) (T:=fun x=>qk7 N x.1 x.2.1) 0 qO0 (qEm N) (qt (by kernel_rfl) trivial) (rg0 (by kernel_rfl)) fun x=>by kernel_rfl
noncomputable def qRV:Code:=Tryz.f51.body.getD .skip
theorem qTc:FnF Tryz.prog 51 Tryz.f51 qRV:=⟨qk,by kernel_rfl,by kernel_rfl,by kernel_rfl⟩
def qTg:TH:={ live:=[(0,[0,2]),(1,[2])] }
def qTR (N:Nat):List Ent:=[qGZ N]
theorem qNz (N:Nat):qU Tryz.prog (qTR N):=⟨qEU N,trivial⟩
def qRU (z:Vector UInt8 32):TV×THp:=(.tv (.ba 32) z,[])
def qBs (N:Nat) (a0:List UInt8):Tree (Vector UInt8 32):=
 .chk (qmt (a0:List UInt8).length) <|
 .bind (qgM N a0) fun r1=>
 .ret r1
def qrE (N:Nat) (a0:List UInt8):Option (Vector UInt8 32):=(qBs N a0).run some
def qRS (N:Nat):List (Nat×qw):=[]
def qCW (N:Nat):Ent:=smF ⟨51,[],[.x .s],[],[]⟩ [.s] (Vector UInt8 32) (fun x=>qrE N x.1) cs1 fun _=>qRU
theorem qG2 (N:Nat):zf Tryz.prog (qCW N):=
 zd (H:=qTg) (L:=qJ (qRS N)) (ts:=[.s]) (T:=fun x=>qBs N x.1) 0 qTc (qNz N) (qt (by kernel_rfl) trivial) (rg0 (by kernel_rfl)) fun x=>by kernel_rfl
noncomputable def qTA:Code:=Tryz.f83.body.getD .skip
theorem qQ7:FnF Tryz.prog 83 Tryz.f83 qTA:=⟨qk,by kernel_rfl,by kernel_rfl,by kernel_rfl⟩
def qNP:TH:={ live:=[(0,[2,3]),(1,[4])],dec:=[8] }
def qOo (N:Nat):List Ent:=[qcR]
theorem qJ6 (N:Nat):qU Tryz.prog (qOo N):=⟨qgI,trivial⟩
def qNK (z:Bool):TV×THp:=(xb z,[])
def quM (a0:Vector UInt8 32) (a1:Vector UInt8 32):Tree (Bool):=
 .cond (!(eqE (.ba 32) a0 a1)) (
 .bind (qbG a0.toList a1.toList) fun r1=>
 .ret (decide (r1 < ((0:Int))))) <|
 .ret false
def qjZ (a0:Vector UInt8 32) (a1:Vector UInt8 32):Option (Bool):=(quM a0 a1).run some
def qN1:List (Nat×qw):=[]
def qtI:Ent:=smF ⟨83,[],[.x (.ba 32),.x (.ba 32)],[],[]⟩ [(.ba 32),(.ba 32)] (Bool) (fun x=>qjZ x.1 x.2.1) cs1 fun _=>qNK
theorem qA4:zf Tryz.prog (qtI):=
 zd (H:=qNP) (L:=qJ (qN1)) (ts:=[(.ba 32),(.ba 32)]) (T:=fun x=>quM x.1 x.2.1) 0 qQ7 (qJ6 0) (qt (by kernel_rfl) trivial) (rg0 (by kernel_rfl)) fun x=>by kernel_rfl
noncomputable def qON:Code:=Tryz.f149.body.getD .skip
theorem qOO:FnF Tryz.prog 149 Tryz.f149 qON:=⟨qk,by kernel_rfl,by kernel_rfl,by kernel_rfl⟩
def qvq:TH:={ live:=[(0,[2,3,4]),(1,[2,3,4,7]),(2,[6]),(3,[12]),(4,[6]),(5,[6])] }
def qvQ (N:Nat):List Ent:=[qtI]
theorem qr_ (N:Nat):qU Tryz.prog (qvQ N):=⟨qA4,trivial⟩
def qvW (z:Int):TV×THp:=(xi z,[])
def qcB (a0:Vector UInt8 32) (a1:Vector UInt8 32):Tree (Int):=
 .bind (qjZ a0 a1) fun r1=>
 .cond r1 (
 .ret (-1)) <|
 .bind (qjZ a1 a0) fun r2=>
 .cond r2 (
 .ret 1) <|
 .ret 0
def K0 (a0:Vector UInt8 32) (a1:Vector UInt8 32):Option (Int):=(qcB a0 a1).run some
def qv6:List (Nat×qw):=[]
def qi7:Ent:=smF ⟨149,[],[.x (.ba 32),.x (.ba 32),.fn 83 [] []],[],[]⟩ [(.ba 32),(.ba 32)] (Int) (fun x=>K0 x.1 x.2.1) cs1 fun _=>qvW
theorem qt4:zf Tryz.prog (qi7):=
 zd (H:=qvq) (L:=qJ (qv6)) (ts:=[(.ba 32),(.ba 32)]) (T:=fun x=>qcB x.1 x.2.1) 0 qOO (qr_ 0) (qt (by kernel_rfl) trivial) (rg0 (by kernel_rfl)) fun x=>by kernel_rfl
noncomputable def qOQ:Code:=Tryz.f148.body.getD .skip
theorem qPn:FnF Tryz.prog 148 Tryz.f148 qOQ:=⟨qk,by kernel_rfl,by kernel_rfl,by kernel_rfl⟩
def qHQ:TH:={ live:=[(0,[0,1]),(1,[2])] }
def qHK (N:Nat):List Ent:=[qCW N,qi7]
theorem qDm (N:Nat):qU Tryz.prog (qHK N):=⟨qG2 N,qt4,trivial⟩
def qHq (a0:qe) (a1:qe) (z:Int):TV×THp:=(xi z,[(20,.cell false (.tv qq a0)),(30,.cell false (.tv qq a1))])
def qlb (N:Nat) (a0:qe) (a1:qe):Tree (Int):=
 .bind (qrE N (qe.V a0)) fun r1=>
 .bind (qrE N (qe.V a1)) fun r2=>
 .bind (K0 r1 r2) fun r3=>
 .ret r3
def qj9 (N:Nat) (a0:qe) (a1:qe):Option (Int):=(qlb N a0 a1).run some
def qHi (N:Nat):List (Nat×qw):=[]
def qvf (N:Nat):Ent:=smF ⟨148,[],[],[.k (.p 20 [] 0),.k (.p 30 [] 0)],[(20,.cell false (.x qq)),(30,.cell false (.x qq))]⟩ [qq,qq] (Int) (fun x=>qj9 N x.1 x.2.1) cs1 fun x=>qHq x.1 x.2.1
theorem qFv (N:Nat):zf Tryz.prog (qvf N):=
 zd (H:=qHQ) (L:=qJ (qHi N)) (ts:=[qq,qq]) (T:=fun x=>qlb N x.1 x.2.1) 0 qPn (qDm N) (qt (by kernel_rfl) trivial) (rg0 (by kernel_rfl)) fun x=>by kernel_rfl
noncomputable def qQ4:Code:=Tryz.f153.body.getD .skip
theorem qPk:FnF Tryz.prog 153 Tryz.f153 qQ4:=⟨qk,by kernel_rfl,by kernel_rfl,by kernel_rfl⟩
def qyd:TH:={ live:=[(0,[0]),(1,[2])] }
def qxN (N:Nat):List Ent:=[]
theorem qtN (N:Nat):qU Tryz.prog (qxN N):=trivial
def qwD (a0:List UInt8) (z:Unit):TV×THp:=(xb (!decide (a0=a0)),[])
def qkn (a0:List UInt8):Tree (Unit):=
 .ret ()
def qbi (a0:List UInt8):Option (Unit):=(qkn a0).run some
def qyb:List (Nat×qw):=[]
def qkV:Ent:=smF ⟨153,[],[.x .s],[],[]⟩ [.s] (Unit) (fun x=>qbi x.1) cs1 fun x=>qwD x.1
theorem qwo:zf Tryz.prog (qkV):=
 zd (H:=qyd) (L:=qJ (qyb)) (ts:=[.s]) (T:=fun x=>qkn x.1) 0 qPk (qtN 0) (qt (by kernel_rfl) trivial) (rg0 (by kernel_rfl)) fun x=>by kernel_rfl
noncomputable def qO7:Code:=Tryz.f151.body.getD .skip
theorem qQD:FnF Tryz.prog 151 Tryz.f151 qO7:=⟨qk,by kernel_rfl,by kernel_rfl,by kernel_rfl⟩
def qs7:TH:={ live:=[(0,[0,1]),(1,[0,1,5]),(2,[0,1,5,6]),(3,[0,1,6,11]),(4,[12]),(5,[4]),(6,[4]),(7,[0,1,13]),(8,[4]),(9,[0,1,16]),(10,[4]),(11,[19]),(12,[4]),(13,[4])] }
def qtr (N:Nat):List Ent:=[qkV]
theorem qqv (N:Nat):qU Tryz.prog (qtr N):=⟨qwo,trivial⟩
def qtz (z:Int):TV×THp:=(xi z,[])
def qbp (a0:List UInt8) (a1:List UInt8):Tree (Int):=
 .bind (qbi a0) fun r1=>
 .bind (qbi a1) fun r2=>
 .cond (!decide (a0=a0)) (
 .cond (!decide (a1=a1)) (
 .ret 0) <|
 .ret (-1)) <|
 .cond (!decide (a1=a1)) (
 .ret 1) <|
 .cond (Op.bytesLess a0 a1) (
 .ret (-1)) <|
 .cond (!(Op.bytesLess a0 a1||decide (a0=a1))) (
 .ret 1) <|
 .ret 0
def YW (a0:List UInt8) (a1:List UInt8):Option (Int):=(qbp a0 a1).run some
def qux:List (Nat×qw):=[]
def qip:Ent:=smF ⟨151,[],[.x .s,.x .s],[],[]⟩ [.s,.s] (Int) (fun x=>YW x.1 x.2.1) cs1 fun _=>qtz
theorem qr6:zf Tryz.prog (qip):=
 zd (H:=qs7) (L:=qJ (qux)) (ts:=[.s,.s]) (T:=fun x=>qbp x.1 x.2.1) 0 qQD (qqv 0) (qt (by kernel_rfl) trivial) (rg0 (by kernel_rfl)) fun x=>by kernel_rfl
noncomputable def qQV:Code:=Tryz.f150.body.getD .skip
theorem qPL:FnF Tryz.prog 150 Tryz.f150 qQV:=⟨qk,by kernel_rfl,by kernel_rfl,by kernel_rfl⟩
def qHu:TH:={ live:=[(0,[0,1]),(1,[2])] }
def qHr (N:Nat):List Ent:=[qip]
theorem qC7 (N:Nat):qU Tryz.prog (qHr N):=⟨qr6,trivial⟩
def qHL (a0:qe) (a1:qe) (z:Int):TV×THp:=(xi z,[(20,.cell false (.tv qq a0)),(30,.cell false (.tv qq a1))])
def qlt (a0:qe) (a1:qe):Tree (Int):=
 .bind (YW (qe.V a0) (qe.V a1)) fun r1=>
 .ret r1
def qj6 (a0:qe) (a1:qe):Option (Int):=(qlt a0 a1).run some
def qG9:List (Nat×qw):=[]
def qvb:Ent:=smF ⟨150,[],[],[.k (.p 20 [] 0),.k (.p 30 [] 0)],[(20,.cell false (.x qq)),(30,.cell false (.x qq))]⟩ [qq,qq] (Int) (fun x=>qj6 x.1 x.2.1) cs1 fun x=>qHL x.1 x.2.1
theorem qFx:zf Tryz.prog (qvb):=
 zd (H:=qHu) (L:=qJ (qG9)) (ts:=[qq,qq]) (T:=fun x=>qlt x.1 x.2.1) 0 qPL (qC7 0) (qt (by kernel_rfl) trivial) (rg0 (by kernel_rfl)) fun x=>by kernel_rfl
noncomputable def qhj:Code:=Tryz.f138.body.getD .skip
theorem qP4:FnF Tryz.prog 138 Tryz.f138 qhj:=⟨qk,by kernel_rfl,by kernel_rfl,by kernel_rfl⟩
def qbZ:TH:={ live:=[(0,[2,3]),(1,[5]),(2,[13,14]),(3,[13,14,15]),(4,[7,13,14]),(5,[8,13,14]),(6,[8,13,14,20]),(7,[4]),(8,[13,14]),(9,[4])] }
def qfj (N:Nat):List Ent:=[qu9 N,qvf N,qvb]
theorem qbH (N:Nat):qU Tryz.prog (qfj N):=⟨qFY N,qFv N,qFx,trivial⟩
abbrev zT:=qe×qe
abbrev zW:=Bool⊕Unit
def ja (f:zT):zW→Ex×TSt
 | .inl y=>(.ret,⟨0,24,[],[(4,xb y)],[],false,[]⟩)
 | .inr y=>(.exit 0,⟨0,24,[],[(13,.ag [.fn (.func 146) [] [.p 20 [] 0,.p 30 [] 0],.fn (.func 148) [] [.p 20 [] 0,.p 30 [] 0],.fn (.func 150) [] [.p 20 [] 0,.p 30 [] 0]]),(14,.ic .i64 3),(15,.bc false)],[(20,.cell false (.tv qq f.1)),(30,.cell false (.tv qq f.2))],false,[]⟩)
def qeh (N:Nat):List (Nat×qw):=[]
abbrev Vr:=Unit
def qAb:SP:=⟨0,24,[],[(13,.ag [.fn 146 [] [.k (.p 20 [] 0),.k (.p 30 [] 0)],.fn 148 [] [.k (.p 20 [] 0),.k (.p 30 [] 0)],.fn 150 [] [.k (.p 20 [] 0),.k (.p 30 [] 0)]]),(14,.k (.ic .i64 3))],[(20,.cell false (.x qq)),(30,.cell false (.x qq))],false,[]⟩
def qlN (f:zT) (v:Vr):TSt:=zq qAb [dv qq f.1,dv qq f.2]
def WR (N:Nat) (o_3:qe) (o_3_2:qe) (v:Vr):Tree (Vr⊕zW):=
 .ret (.inr (.inr ()))
def ql0 (N n:Nat) (f:zT) (v:Vr):Option zW:=qQ (WR N f.1 f.2) some n v
theorem qAl (N:Nat) (f:zT) (n:Nat) (v:Vr) (y:zW) (h:ql0 N n f v=some y):LG Tryz.prog qbZ 138 (qE qhj 3) (qlN f v) (ja f y):=
 zj qk (E:=qfj N) (L:=qJ (qeh N)) (st:=ja f) (g:=some) (R:=ja f) (qbH N) (qt (by kernel_rfl) trivial) (rg0 (by kernel_rfl)) (fun v=>by kernel_rfl) (qP (st:=ja f) fun y=>by rcases y with _ | _<;>rfl) n v y h
abbrev Vw:=Unit
def qAt:SP:=⟨0,24,[],[(13,.ag [.fn 146 [] [.k (.p 20 [] 0),.k (.p 30 [] 0)],.fn 148 [] [.k (.p 20 [] 0),.k (.p 30 [] 0)],.fn 150 [] [.k (.p 20 [] 0),.k (.p 30 [] 0)]]),(14,.k (.ic .i64 2))],[(20,.cell false (.x qq)),(30,.cell false (.x qq))],false,[]⟩
def qlT (f:zT) (v:Vw):TSt:=zq qAt [dv qq f.1,dv qq f.2]
abbrev qe8:=Vr⊕zW
def Vo (N:Nat) (o_3:qe) (o_3_2:qe) (v:Vw):Tree (Vw⊕qe8):=
 .chk (0≤(2:Int)∧(2:Int) < ((3:Nat):Int)) <|
 .bind (qj6 o_3 o_3_2) fun r1=>
 .cond (!decide (r1=((0:Int)))) (
 .ret (.inr (.inr ((.inl (decide (r1 < ((0:Int))))))))) <|
 .ret (.inr (.inl ()))
def WL (N n:Nat) (f:zT):qe8→Option zW
 | .inl w=>ql0 N n f w
 | .inr w=>some w
def qz8 (f:zT):qe8→Ex×TSt
 | .inl w=>(.normal,qlN f w)
 | .inr w=>ja f w
def qlO (N n:Nat) (f:zT) (v:Vw):Option zW:=qQ (Vo N f.1 f.2) (WL N n f) n v
theorem qAj (N:Nat) (f:zT) (n:Nat) (v:Vw) (y:zW) (h:qlO N n f v=some y):LG Tryz.prog qbZ 138 (qE qhj 3) (qlT f v) (ja f y):=
 zj qk (E:=qfj N) (L:=qJ (qeh N)) (st:=qz8 f) (g:=(WL N n f)) (R:=ja f) (qbH N) (qt (by kernel_rfl) trivial) (rg0 (by kernel_rfl)) (fun v=>by kernel_rfl) (fun w y h=>by
 rcases w with w | w
 ·exact qAl N f n w y h
 ·exact qP (st:=ja f) (fun y=>by rcases y with _ | _<;>rfl) w y h
) n v y h
abbrev Vp:=Unit
def qAo:SP:=⟨0,24,[],[(13,.ag [.fn 146 [] [.k (.p 20 [] 0),.k (.p 30 [] 0)],.fn 148 [] [.k (.p 20 [] 0),.k (.p 30 [] 0)],.fn 150 [] [.k (.p 20 [] 0),.k (.p 30 [] 0)]]),(14,.k (.ic .i64 1))],[(20,.cell false (.x qq)),(30,.cell false (.x qq))],false,[]⟩
def qlV (f:zT) (v:Vp):TSt:=zq qAo [dv qq f.1,dv qq f.2]
abbrev qe2:=Vw⊕zW
def Vy (N:Nat) (o_3:qe) (o_3_2:qe) (v:Vp):Tree (Vp⊕qe2):=
 .chk (0≤(1:Int)∧(1:Int) < ((3:Nat):Int)) <|
 .bind (qj9 N o_3 o_3_2) fun r1=>
 .cond (!decide (r1=((0:Int)))) (
 .ret (.inr (.inr ((.inl (decide (r1 < ((0:Int))))))))) <|
 .ret (.inr (.inl ()))
def WE (N n:Nat) (f:zT):qe2→Option zW
 | .inl w=>qlO N n f w
 | .inr w=>some w
def qzQ (f:zT):qe2→Ex×TSt
 | .inl w=>(.normal,qlT f w)
 | .inr w=>ja f w
def ql6 (N n:Nat) (f:zT) (v:Vp):Option zW:=qQ (Vy N f.1 f.2) (WE N n f) n v
theorem qz9 (N:Nat) (f:zT) (n:Nat) (v:Vp) (y:zW) (h:ql6 N n f v=some y):LG Tryz.prog qbZ 138 (qE qhj 3) (qlV f v) (ja f y):=
 zj qk (E:=qfj N) (L:=qJ (qeh N)) (st:=qzQ f) (g:=(WE N n f)) (R:=ja f) (qbH N) (qt (by kernel_rfl) trivial) (rg0 (by kernel_rfl)) (fun v=>by kernel_rfl) (fun w y h=>by
 rcases w with w | w
 ·exact qAj N f n w y h
 ·exact qP (st:=ja f) (fun y=>by rcases y with _ | _<;>rfl) w y h
) n v y h
abbrev qam:=Unit
def qsM:SP:=⟨0,24,[],[(13,.ag [.fn 146 [] [.k (.p 20 [] 0),.k (.p 30 [] 0)],.fn 148 [] [.k (.p 20 [] 0),.k (.p 30 [] 0)],.fn 150 [] [.k (.p 20 [] 0),.k (.p 30 [] 0)]]),(14,.k (.ic .i64 0))],[(20,.cell false (.x qq)),(30,.cell false (.x qq))],false,[]⟩
def qGf (f:zT) (v:qam):TSt:=zq qsM [dv qq f.1,dv qq f.2]
abbrev qjC:=Vp⊕zW
def qed (N:Nat) (o_3:qe) (o_3_2:qe) (v:qam):Tree (qam⊕qjC):=
 .chk (0≤(0:Int)∧(0:Int) < ((3:Nat):Int)) <|
 .bind (qke N o_3 o_3_2) fun r1=>
 .cond (!decide (r1=((0:Int)))) (
 .ret (.inr (.inr ((.inl (decide (r1 < ((0:Int))))))))) <|
 .ret (.inr (.inl ()))
def qjB (N n:Nat) (f:zT):qjC→Option zW
 | .inl w=>ql6 N n f w
 | .inr w=>some w
def qGa (f:zT):qjC→Ex×TSt
 | .inl w=>(.normal,qlV f w)
 | .inr w=>ja f w
def qrX (N n:Nat) (f:zT) (v:qam):Option zW:=qQ (qed N f.1 f.2) (qjB N n f) n v
theorem qFM (N:Nat) (f:zT) (n:Nat) (v:qam) (y:zW) (h:qrX N n f v=some y):LG Tryz.prog qbZ 138 (qE qhj 3) (qGf f v) (ja f y):=
 zj qk (E:=qfj N) (L:=qJ (qeh N)) (st:=qGa f) (g:=(qjB N n f)) (R:=ja f) (qbH N) (qt (by kernel_rfl) trivial) (rg0 (by kernel_rfl)) (fun v=>by kernel_rfl) (fun w y h=>by
 rcases w with w | w
 ·exact qz9 N f n w y h
 ·exact qP (st:=ja f) (fun y=>by rcases y with _ | _<;>rfl) w y h
) n v y h
def qiQ (N:Nat) (o_3:qe) (o_3_2:qe):Option zW:=qrX N N (o_3,o_3_2) ()
def qrw (N:Nat):qw:=smL qsM [qq,qq] zW (fun x=>qiQ N x.1 x.2.1) (csS cs1) fun x=>ja (x.1,x.2.1)
theorem qEF (N:Nat):zZ Tryz.prog qbZ 138 (qE qhj 3) (qrw N):=zp fun x z h=>qFM N (x.1,x.2.1) N () z h
def qLB (z:Bool):TV×THp:=(xb z,[])
def qqf (N:Nat) (a0:qe) (a1:qe):Tree (Bool):=
 .bind (qiQ N a0 a1) fun z1=>
 .sum z1 (fun z2=>
 .ret z2) fun z2=>
 .ret false
def qpg (N:Nat) (a0:qe) (a1:qe):Option (Bool):=(qqf N a0 a1).run some
def qLn (N:Nat):List (Nat×qw):=[(3,qrw N)]
def qAR (N:Nat):Ent:=smF ⟨138,[],[.x qq,.x qq],[],[]⟩ [qq,qq] (Bool) (fun x=>qpg N x.1 x.2.1) cs1 fun _=>qLB
theorem qJu (N:Nat):zf Tryz.prog (qAR N):=
 zd (H:=qbZ) (L:=qJ (qLn N)) (ts:=[qq,qq]) (T:=fun x=>qqf N x.1 x.2.1) 0 qP4 (qbH N) (qt (by kernel_rfl) ⟨qEF N,trivial⟩) (rg0 (by kernel_rfl)) fun x=>by kernel_rfl
noncomputable def qQ5:Code:=Tryz.f116.body.getD .skip
theorem qPi:FnF Tryz.prog 116 Tryz.f116 qQ5:=⟨qk,by kernel_rfl,by kernel_rfl,by kernel_rfl⟩
def qLv:TH:={ live:=[(0,[2,3,4]),(1,[2,3,4,7]),(2,[4]),(3,[4])] }
def qLy (N:Nat):List Ent:=[qAR N]
theorem qHe (N:Nat):qU Tryz.prog (qLy N):=⟨qJu N,trivial⟩
def qKT (z:qe):TV×THp:=(.tv qq z,[])
def qqi (N:Nat) (a0:qe) (a1:qe):Tree (qe):=
 .bind (qpg N a0 a1) fun r1=>
 .cond r1 (
 .ret a1) <|
 .ret a0
def qoY (N:Nat) (a0:qe) (a1:qe):Option (qe):=(qqi N a0 a1).run some
def qKO (N:Nat):List (Nat×qw):=[]
def qAT (N:Nat):Ent:=smF ⟨116,[],[.x qq,.x qq],[],[]⟩ [qq,qq] (qe) (fun x=>qoY N x.1 x.2.1) cs1 fun _=>qKT
theorem qIf (N:Nat):zf Tryz.prog (qAT N):=
 zd (H:=qLv) (L:=qJ (qKO N)) (ts:=[qq,qq]) (T:=fun x=>qqi N x.1 x.2.1) 0 qPi (qHe N) (qt (by kernel_rfl) trivial) (rg0 (by kernel_rfl)) fun x=>by kernel_rfl
noncomputable def qBI:Code:=Tryz.f89.body.getD .skip
theorem qSp:FnF Tryz.prog 89 Tryz.f89 qBI:=⟨qk,by kernel_rfl,by kernel_rfl,by kernel_rfl⟩
def qdr:TH:={ live:=[(0,[0,3]),(1,[0,9,10,11]),(2,[0,9,10,11,12]),(3,[0,5,9,10,11]),(4,[0,5,6,7,9,10,11]),(5,[0,5,6,9,10,11,22]),(6,[0,9,10,11]),(7,[0,9,10,11]),(8,[0,9,10,11])] }
def qkA (N:Nat):List Ent:=[qAT N]
theorem qhX (N:Nat):qU Tryz.prog (qkA N):=⟨qIf N,trivial⟩
abbrev We:=List qd×Int
abbrev QL:=Nat×List (Int×qe×Nat)×Int×Bool
def JF (f:We) (y:QL):Ex×TSt:=(.exit 0,⟨1,36,[250],[(0,.m 250),(9,.tv (.sl 4 qB) f.1),(10,xi f.2),(11,xi y.2.2.1),(12,xb y.2.2.2)],[(250,.map y.1 (.i .i64) qq (y.2.1:List (Int×qe×Nat)))],false,[]⟩)
def qsA (N:Nat):List (Nat×qw):=[]
abbrev JK:=Nat×List (Int×qe×Nat)×Int
def qhF:SP:=⟨1,36,[250],[(0,.k (.m 250)),(9,.x (.sl 4 qB)),(10,.x (.i .i64)),(11,.x (.i .i64))],[(250,.map (.i .i64) qq)],false,[]⟩
def qsB (f:We) (v:JK):TSt:=zq qhF [dv .nat v.1,dv (qaX (.i .i64) qq) v.2.1,dv (.sl 4 qB) f.1,dv (.i .i64) f.2,dv (.i .i64) v.2.2]
def Jp (N:Nat) (s9_2:List qd) (s10_2:Int) (v:JK):Tree (JK⊕QL):=
 .cond (decide (v.2.2 < s10_2)) (
 .bind (qM s9_2 v.2.2) fun e1=>
 .opt (fnd (β:=qe) (.i .i64) (qd.No e1) v.2.1) (
 .chk (qp (v.2.2 + 1)) <|
 .ret (.inl ((J2 (.i .i64) (qd.No e1) (qd.C e1) v.1 v.2.1).1,(J2 (.i .i64) (qd.No e1) (qd.C e1) v.1 v.2.1).2,v.2.2 + 1))) fun e2=>
 .bind (qoY N e2.1 (qd.C e1)) fun r3=>
 .chk (qp (v.2.2 + 1)) <|
 .ret (.inl ((J2 (.i .i64) (qd.No e1) r3 v.1 v.2.1).1,(J2 (.i .i64) (qd.No e1) r3 v.1 v.2.1).2,v.2.2 + 1))) <|
 .ret (.inr (v.1,v.2.1,v.2.2,decide (v.2.2 < s10_2)))
def qgW (N n:Nat) (f:We) (v:JK):Option QL:=qQ (Jp N f.1 f.2) some n v
theorem qsy (N:Nat) (f:We) (n:Nat) (v:JK) (y:QL) (h:qgW N n f v=some y):LG Tryz.prog qdr 89 (qE qBI 2) (qsB f v) (JF f y):=
 zj qk (E:=qkA N) (L:=qJ (qsA N)) (st:=JF f) (g:=some) (R:=JF f) (qhX N) (qt (by kernel_rfl) trivial) (rg0 (by kernel_rfl)) (fun v=>by kernel_rfl) (qP (st:=JF f) fun y=>by rfl) n v y h
def qcg (N:Nat) (s9_2:List qd) (s10_2:Int) (o_2:Nat) (o_2_2:List (Int×qe×Nat)) (s11_2:Int):Option QL:=qgW N N (s9_2,s10_2) (o_2,o_2_2,s11_2)
def qhE (N:Nat):qw:=smL qhF [.nat,(qaX (.i .i64) qq),(.sl 4 qB),(.i .i64),(.i .i64)] QL (fun x=>qcg N x.2.2.1 x.2.2.2.1 x.1 x.2.1 x.2.2.2.2.1) cs1 fun x=>JF (x.2.2.1,x.2.2.2.1)
theorem qpl (N:Nat):zZ Tryz.prog qdr 89 (qE qBI 2) (qhE N):=zp fun x z h=>qsy N (x.2.2.1,x.2.2.2.1) N (x.1,x.2.1,x.2.2.2.2.1) z h
def qwO (z:Nat×List (Int×qe×Nat)):TV×THp:=(.tup [],[(250,.map z.1 (.i .i64) qq (z.2:List (Int×qe×Nat)))])
def qdm (N:Nat) (a0:Nat) (a1:List (Int×qe×Nat)) (a2:qa):Tree (Nat×List (Int×qe×Nat)):=
 .bind (qcg N (qa.F a2) (((qa.F a2).length:Nat):Int) a0 a1 0) fun z1=>
 .ret (z1.1,z1.2.1)
def Yg (N:Nat) (a0:Nat) (a1:List (Int×qe×Nat)) (a2:qa):Option (Nat×List (Int×qe×Nat)):=(qdm N a0 a1 a2).run some
def qyV (N:Nat):List (Nat×qw):=[(2,qhE N)]
def qkQ (N:Nat):Ent:=smF ⟨89,[],[.k (.m 250),.x qf],[],[(250,.map (.i .i64) qq)]⟩ [.nat,(qaX (.i .i64) qq),qf] (Nat×List (Int×qe×Nat)) (fun x=>Yg N x.1 x.2.1 x.2.2.1) cs1 fun _=>qwO
theorem qv_ (N:Nat):zf Tryz.prog (qkQ N):=
 zd (H:=qdr) (L:=qJ (qyV N)) (ts:=[.nat,(qaX (.i .i64) qq),qf]) (T:=fun x=>qdm N x.1 x.2.1 x.2.2.1) 0 qSp (qhX N) (qt (by kernel_rfl) ⟨qpl N,trivial⟩) (rg0 (by kernel_rfl)) fun x=>by kernel_rfl
noncomputable def qRl:Code:=Tryz.f90.body.getD .skip
theorem qTb:FnF Tryz.prog 90 Tryz.f90 qRl:=⟨qk,by kernel_rfl,by kernel_rfl,by kernel_rfl⟩
def qLq:TH:={ live:=[(0,[2,3,4]),(1,[2,3,4,7]),(2,[4]),(3,[4])] }
def qLP (N:Nat):List Ent:=[XQ N]
theorem qHC (N:Nat):qU Tryz.prog (qLP N):=⟨Wv N,trivial⟩
def qLz (z:qc):TV×THp:=(.tv qh z,[])
def qqj (N:Nat) (a0:qc) (a1:qc):Tree (qc):=
 .bind (vz N a0 a1) fun r1=>
 .cond r1 (
 .ret a1) <|
 .ret a0
def qoM (N:Nat) (a0:qc) (a1:qc):Option (qc):=(qqj N a0 a1).run some
def qLH (N:Nat):List (Nat×qw):=[]
def qAN (N:Nat):Ent:=smF ⟨90,[],[.x qh,.x qh],[],[]⟩ [qh,qh] (qc) (fun x=>qoM N x.1 x.2.1) cs1 fun _=>qLz
theorem qKl (N:Nat):zf Tryz.prog (qAN N):=
 zd (H:=qLq) (L:=qJ (qLH N)) (ts:=[qh,qh]) (T:=fun x=>qqj N x.1 x.2.1) 0 qTb (qHC N) (qt (by kernel_rfl) trivial) (rg0 (by kernel_rfl)) fun x=>by kernel_rfl
noncomputable def qRY:Code:=Tryz.f91.body.getD .skip
theorem qTJ:FnF Tryz.prog 91 Tryz.f91 qRY:=⟨qk,by kernel_rfl,by kernel_rfl,by kernel_rfl⟩
def qrn:TH:={ live:=[(0,[2,3]),(1,[4])],esc:=true }
def qsK (N:Nat):List Ent:=[]
theorem qol (N:Nat):qU Tryz.prog (qsK N):=trivial
def qr3 (a0:Nat) (a1:List (Int×qe×Nat)) (a2:qc) (z:Unit):TV×THp:=(.fn (.func 117) [] [.p 100020 [] 0,.p 100030 [] 0],[(250,.map a0 (.i .i64) qq a1),(100020,.cell false (.m 250)),(100030,.cell false (.tv qh a2))])
def qhl (a0:Nat) (a1:List (Int×qe×Nat)) (a2:qc):Tree (Unit):=
 .ret ()
def qjq (a0:Nat) (a1:List (Int×qe×Nat)) (a2:qc):Option (Unit):=(qhl a0 a1 a2).run some
def qrq:List (Nat×qw):=[]
def qhe:Ent:=smF ⟨91,[],[.k (.m 250),.x qh],[],[(250,.map (.i .i64) qq)]⟩ [.nat,(qaX (.i .i64) qq),qh] (Unit) (fun x=>qjq x.1 x.2.1 x.2.2.1) cs1 fun x=>qr3 x.1 x.2.1 x.2.2.1
theorem qpW:zf Tryz.prog (qhe):=
 zd (H:=qrn) (L:=qJ (qrq)) (ts:=[.nat,(qaX (.i .i64) qq),qh]) (T:=fun x=>qhl x.1 x.2.1 x.2.2.1) 0 qTJ (qol 0) (qt (by kernel_rfl) trivial) (rg0 (by kernel_rfl)) fun x=>by kernel_rfl
def qxx:TH:={ live:=[(0,[2,3,4]),(1,[2,3,4,23]),(2,[4,5]),(3,[2,3,4,6]),(4,[2,3,4,6]),(5,[2,3,4,6]),(6,[4,6,7]),(7,[4,7,43]),(8,[7,8]),(10,[4,5])],dec:=[12,17],fresh:=[43] }
def qyg (N:Nat):List Ent:=[]
theorem qts (N:Nat):qU Tryz.prog (qyg N):=trivial
def qxo (a0:List qd) (a1:List qd) (a2:Nat) (a3:List (Int×qe×Nat)) (a4:Vector UInt8 16) (a5:qc) (a6:Vector UInt8 16) (a7:qc) (a8:qc) (a9:qd) (z:Unit):TV×THp:=(.bc true,[(40,.cell false (.ag [.tv (.ba 16) a4,.tv qh a5,.v 45 a0.length])),(45,.vec false 4 (.sl 4 qB) a0),(70,.cell false (.ag [.tv (.ba 16) a6,.tv qh a7,.v 75 ((a1++[a9]).length)])),(75,.vec false 4 (.sl 4 qB) (a1++[a9]:List qd)),(250,.map a2 (.i .i64) qq a3),(50080,.loop [44] 52 [(4,.p 40 [] 0),(7,.p 70 [] 0),(43,.fn (.func 117) [] [.p 100020 [] 0,.p 100030 [] 0])] 5500008 55 .ready none 50081),(50081,.dfr true),(100020,.cell false (.m 250)),(100030,.cell false (.tv qh a8))])
def qdy (a0:List qd) (a1:List qd) (a2:Nat) (a3:List (Int×qe×Nat)) (a4:Vector UInt8 16) (a5:qc) (a6:Vector UInt8 16) (a7:qc) (a8:qc) (a9:qd):Tree (Unit):=
 .chk (zU a1.length a1.length ((a1++[a9]).length) 40) <|
 .ret ()
def qa0 (a0:List qd) (a1:List qd) (a2:Nat) (a3:List (Int×qe×Nat)) (a4:Vector UInt8 16) (a5:qc) (a6:Vector UInt8 16) (a7:qc) (a8:qc) (a9:qd):Option (Unit):=(qdy a0 a1 a2 a3 a4 a5 a6 a7 a8 a9).run some
def qyL:List (Nat×qw):=[]
def qkx:Ent:=smR 50080 [.x qB] [(40,.cell false (.ag [.x (.ba 16),.x qh,.vs 45])),(45,.vec false 4),(70,.cell false (.ag [.x (.ba 16),.x qh,.vs 75])),(75,.vec false 4),(250,.map (.i .i64) qq),(50080,.loop [44] 52 [(4,.k (.p 40 [] 0)),(7,.k (.p 70 [] 0)),(43,.fn 117 [] [.k (.p 100020 [] 0),.k (.p 100030 [] 0)])] 5500008 55 .ready none 50081),(50081,.dfr true),(100020,.cell false (.k (.m 250))),(100030,.cell false (.x qh))] [(.sl 4 qB),(.sl 4 qB),.nat,(qaX (.i .i64) qq),(.ba 16),qh,(.ba 16),qh,qh,qB] (Unit) (fun x=>qa0 x.1 x.2.1 x.2.2.1 x.2.2.2.1 x.2.2.2.2.1 x.2.2.2.2.2.1 x.2.2.2.2.2.2.1 x.2.2.2.2.2.2.2.1 x.2.2.2.2.2.2.2.2.1 x.2.2.2.2.2.2.2.2.2.1) cs1 fun x=>qxo x.1 x.2.1 x.2.2.1 x.2.2.2.1 x.2.2.2.2.1 x.2.2.2.2.2.1 x.2.2.2.2.2.2.1 x.2.2.2.2.2.2.2.1 x.2.2.2.2.2.2.2.2.1 x.2.2.2.2.2.2.2.2.2.1
theorem qvB:zf Tryz.prog (qkx):=
 qM_ (H:=qxx) (L:=qJ (qyL)) (ts:=[(.sl 4 qB),(.sl 4 qB),.nat,(qaX (.i .i64) qq),(.ba 16),qh,(.ba 16),qh,qh,qB]) (T:=fun x=>qdy x.1 x.2.1 x.2.2.1 x.2.2.2.1 x.2.2.2.2.1 x.2.2.2.2.2.1 x.2.2.2.2.2.2.1 x.2.2.2.2.2.2.2.1 x.2.2.2.2.2.2.2.2.1 x.2.2.2.2.2.2.2.2.2.1) (K:=55) (cid:=5500008) 2 qk (qts 0) (by kernel_rfl) (qt (by kernel_rfl) trivial) (rg0 (by kernel_rfl)) (rg0 (by kernel_rfl)) (fun x=>by kernel_rfl) fun x=>by kernel_rfl
noncomputable def qyH:Code:=Tryz.f117.body.getD .skip
theorem qQZ:FnF Tryz.prog 117 Tryz.f117 qyH:=⟨qk,by kernel_rfl,by kernel_rfl,by kernel_rfl⟩
def YD:TH:={ live:=[(0,[0,1,2,7]),(1,[0,1,2,7,8]),(2,[0,1,2,4,7]),(3,[0,1,2,4,5,6,7]),(4,[0,1,2,7,30]),(5,[0,1,2,7])],dec:=[17,23] }
def qeW (N:Nat):List Ent:=[XQ N,qkx]
theorem qc2 (N:Nat):qU Tryz.prog (qeW N):=⟨Wv N,qvB,trivial⟩
abbrev Jh:=List qd×Nat×List (Int×qe×Nat)×Vector UInt8 16×qc×Vector UInt8 16×qc×qc
abbrev vb:=List qd×Int×Bool
def v5 (f:Jh) (y:vb):Ex×TSt:=(.exit 0,⟨2,32,[40,45,70,75,250,50080,50081,100020,100030],[(0,.yl 50080),(1,.p 100020 [] 0),(2,.p 100030 [] 0),(7,xi y.2.1),(8,xb y.2.2)],[(40,.cell false (.ag [.tv (.ba 16) f.2.2.2.1,.tv qh f.2.2.2.2.1,.v 45 f.1.length])),(45,.vec false 4 (.sl 4 qB) f.1),(70,.cell false (.ag [.tv (.ba 16) f.2.2.2.2.2.1,.tv qh f.2.2.2.2.2.2.1,.v 75 y.1.length])),(75,.vec false 4 (.sl 4 qB) (y.1:List qd)),(250,.map f.2.1 (.i .i64) qq f.2.2.1),(50080,.loop [44] 52 [(4,.p 40 [] 0),(7,.p 70 [] 0),(43,.fn (.func 117) [] [.p 100020 [] 0,.p 100030 [] 0])] 5500008 55 .ready none 50081),(50081,.dfr true),(100020,.cell false (.m 250)),(100030,.cell false (.tv qh f.2.2.2.2.2.2.2))],false,[]⟩)
def qlq (N:Nat):List (Nat×qw):=[]
abbrev v8:=List qd×Int
def qbU:SP:=⟨2,32,[40,45,70,75,250,50080,50081,100020,100030],[(0,.k (.yl 50080)),(1,.k (.p 100020 [] 0)),(2,.k (.p 100030 [] 0)),(7,.x (.i .i64))],[(40,.cell false (.ag [.x (.ba 16),.x qh,.vs 45])),(45,.vec false 4),(70,.cell false (.ag [.x (.ba 16),.x qh,.vs 75])),(75,.vec false 4),(250,.map (.i .i64) qq),(50080,.loop [44] 52 [(4,.k (.p 40 [] 0)),(7,.k (.p 70 [] 0)),(43,.fn 117 [] [.k (.p 100020 [] 0),.k (.p 100030 [] 0)])] 5500008 55 .ready none 50081),(50081,.dfr true),(100020,.cell false (.k (.m 250))),(100030,.cell false (.x qh))],false,[]⟩
def qlf (f:Jh) (v:v8):TSt:=zq qbU [dv (.sl 4 qB) f.1,dv (.sl 4 qB) v.1,dv .nat f.2.1,dv (qaX (.i .i64) qq) f.2.2.1,dv (.ba 16) f.2.2.2.1,dv qh f.2.2.2.2.1,dv (.ba 16) f.2.2.2.2.2.1,dv qh f.2.2.2.2.2.2.1,dv qh f.2.2.2.2.2.2.2,dv (.i .i64) v.2]
def Je (N:Nat) (o_1:List qd) (o_1_3:Nat) (o_1_4:List (Int×qe×Nat)) (o_1_5:Vector UInt8 16) (o_1_6:qc) (o_1_7:Vector UInt8 16) (o_1_8:qc) (o_1_9:qc) (v:v8):Tree (v8⊕vb):=
 .cond (decide (v.2 < ((8:Int)))) (
 .opt (fnd (β:=qe) (.i .i64) v.2 o_1_4) (
 .chk (qp (v.2 + 1)) <|
 .ret (.inl (v.1,v.2 + 1))) fun e1=>
 .bind (vz N o_1_9 (qe.S e1.1)) fun r2=>
 .cond r2 (
 .bind (zV [(o_1.length,o_1.length),(v.1.length,v.1.length)] (qa0 o_1 v.1 o_1_3 o_1_4 o_1_5 o_1_6 o_1_7 o_1_8 o_1_9 (qd.mk v.2 e1.1))) fun r3=>
 .chk (qp (v.2 + 1)) <|
 .ret (.inl (v.1++[qd.mk v.2 e1.1],v.2 + 1))) <|
 .chk (qp (v.2 + 1)) <|
 .ret (.inl (v.1,v.2 + 1))) <|
 .ret (.inr (v.1,v.2,decide (v.2 < ((8:Int)))))
def qbK (N n:Nat) (f:Jh) (v:v8):Option vb:=qQ (Je N f.1 f.2.1 f.2.2.1 f.2.2.2.1 f.2.2.2.2.1 f.2.2.2.2.2.1 f.2.2.2.2.2.2.1 f.2.2.2.2.2.2.2) some n v
theorem qlv (N:Nat) (f:Jh) (n:Nat) (v:v8) (y:vb) (h:qbK N n f v=some y):LG Tryz.prog YD 117 (qE qyH 1) (qlf f v) (v5 f y):=
 zj qk (E:=qeW N) (L:=qJ (qlq N)) (st:=v5 f) (g:=some) (R:=v5 f) (qc2 N) (qt (by kernel_rfl) trivial) (rg0 (by kernel_rfl)) (fun v=>by kernel_rfl) (qP (st:=v5 f) fun y=>by rfl) n v y h
def Yo (N:Nat) (o_1:List qd) (o_1_3:Nat) (o_1_4:List (Int×qe×Nat)) (o_1_5:Vector UInt8 16) (o_1_6:qc) (o_1_7:Vector UInt8 16) (o_1_8:qc) (o_1_9:qc) (o_1_2:List qd) (s7_1:Int):Option vb:=qbK N N (o_1,o_1_3,o_1_4,o_1_5,o_1_6,o_1_7,o_1_8,o_1_9) (o_1_2,s7_1)
def qbI (N:Nat):qw:=smL qbU [(.sl 4 qB),(.sl 4 qB),.nat,(qaX (.i .i64) qq),(.ba 16),qh,(.ba 16),qh,qh,(.i .i64)] vb (fun x=>Yo N x.1 x.2.2.1 x.2.2.2.1 x.2.2.2.2.1 x.2.2.2.2.2.1 x.2.2.2.2.2.2.1 x.2.2.2.2.2.2.2.1 x.2.2.2.2.2.2.2.2.1 x.2.1 x.2.2.2.2.2.2.2.2.2.1) cs1 fun x=>v5 (x.1,x.2.2.1,x.2.2.2.1,x.2.2.2.2.1,x.2.2.2.2.2.1,x.2.2.2.2.2.2.1,x.2.2.2.2.2.2.2.1,x.2.2.2.2.2.2.2.2.1)
theorem qkP (N:Nat):zZ Tryz.prog YD 117 (qE qyH 1) (qbI N):=zp fun x z h=>qlv N (x.1,x.2.2.1,x.2.2.2.1,x.2.2.2.2.1,x.2.2.2.2.2.1,x.2.2.2.2.2.2.1,x.2.2.2.2.2.2.2.1,x.2.2.2.2.2.2.2.2.1) N (x.2.1,x.2.2.2.2.2.2.2.2.2.1) z h
def qof (a0:List qd) (a2:Nat) (a3:List (Int×qe×Nat)) (a4:Vector UInt8 16) (a5:qc) (a6:Vector UInt8 16) (a7:qc) (a8:qc) (z:List qd):TV×THp:=(.tup [],[(40,.cell false (.ag [.tv (.ba 16) a4,.tv qh a5,.v 45 a0.length])),(45,.vec false 4 (.sl 4 qB) a0),(70,.cell false (.ag [.tv (.ba 16) a6,.tv qh a7,.v 75 z.length])),(75,.vec false 4 (.sl 4 qB) z),(250,.map a2 (.i .i64) qq a3),(50080,.loop [44] 52 [(4,.p 40 [] 0),(7,.p 70 [] 0),(43,.fn (.func 117) [] [.p 100020 [] 0,.p 100030 [] 0])] 5500008 55 .ready none 50081),(50081,.dfr true),(100020,.cell false (.m 250)),(100030,.cell false (.tv qh a8))])
def YJ (N:Nat) (a0:List qd) (a1:List qd) (a2:Nat) (a3:List (Int×qe×Nat)) (a4:Vector UInt8 16) (a5:qc) (a6:Vector UInt8 16) (a7:qc) (a8:qc):Tree (List qd):=
 .bind (zV [(a0.length,a0.length),(a1.length,a1.length)] (Yo N a0 a2 a3 a4 a5 a6 a7 a8 a1 0)) fun z1=>
 .ret z1.1
def XT (N:Nat) (a0:List qd) (a1:List qd) (a2:Nat) (a3:List (Int×qe×Nat)) (a4:Vector UInt8 16) (a5:qc) (a6:Vector UInt8 16) (a7:qc) (a8:qc):Option (List qd):=(YJ N a0 a1 a2 a3 a4 a5 a6 a7 a8).run some
def qou (N:Nat):List (Nat×qw):=[(1,qbI N)]
def qeN (N:Nat):Ent:=smF ⟨117,[],[.k (.yl 50080)],[.k (.p 100020 [] 0),.k (.p 100030 [] 0)],[(40,.cell false (.ag [.x (.ba 16),.x qh,.vs 45])),(45,.vec false 4),(70,.cell false (.ag [.x (.ba 16),.x qh,.vs 75])),(75,.vec false 4),(250,.map (.i .i64) qq),(50080,.loop [44] 52 [(4,.k (.p 40 [] 0)),(7,.k (.p 70 [] 0)),(43,.fn 117 [] [.k (.p 100020 [] 0),.k (.p 100030 [] 0)])] 5500008 55 .ready none 50081),(50081,.dfr true),(100020,.cell false (.k (.m 250))),(100030,.cell false (.x qh))]⟩ [(.sl 4 qB),(.sl 4 qB),.nat,(qaX (.i .i64) qq),(.ba 16),qh,(.ba 16),qh,qh] (List qd) (fun x=>XT N x.1 x.2.1 x.2.2.1 x.2.2.2.1 x.2.2.2.2.1 x.2.2.2.2.2.1 x.2.2.2.2.2.2.1 x.2.2.2.2.2.2.2.1 x.2.2.2.2.2.2.2.2.1) cs1 fun x=>qof x.1 x.2.2.1 x.2.2.2.1 x.2.2.2.2.1 x.2.2.2.2.2.1 x.2.2.2.2.2.2.1 x.2.2.2.2.2.2.2.1 x.2.2.2.2.2.2.2.2.1
theorem qm4 (N:Nat):zf Tryz.prog (qeN N):=
 zd (H:=YD) (L:=qJ (qou N)) (ts:=[(.sl 4 qB),(.sl 4 qB),.nat,(qaX (.i .i64) qq),(.ba 16),qh,(.ba 16),qh,qh]) (T:=fun x=>YJ N x.1 x.2.1 x.2.2.1 x.2.2.2.1 x.2.2.2.2.1 x.2.2.2.2.2.1 x.2.2.2.2.2.2.1 x.2.2.2.2.2.2.2.1 x.2.2.2.2.2.2.2.2.1) 1 qQZ (qc2 N) (qt (by kernel_rfl) ⟨qkP N,trivial⟩) (rg0 (by kernel_rfl)) fun x=>by kernel_rfl
noncomputable def qS7:Code:=Tryz.f55.body.getD .skip
theorem qSE:FnF Tryz.prog 55 Tryz.f55 qS7:=⟨qk,by kernel_rfl,by kernel_rfl,by kernel_rfl⟩
def qNX:TH:={ live:=[(0,[2,3,4]),(1,[2,3,4,23]),(2,[4,5]),(3,[2,3,4,6]),(4,[2,3,4,6]),(5,[2,3,4,6]),(6,[4,6,7]),(7,[4,7,43]),(8,[7,8]),(10,[4,5])],dec:=[12,17],fresh:=[43],nil:=[(0,[⟨.ob 40 [2],45,(.sl 4 qB)⟩]),(2,[⟨.ob 40 [2],45,(.sl 4 qB)⟩]),(6,[⟨.ob 70 [2],75,(.sl 4 qB)⟩])] }
def qOF (N:Nat):List Ent:=[qo1 N,qkQ N,qAN N,qhe,qeN N]
theorem qIp (N:Nat):qU Tryz.prog (qOF N):=⟨qtv N,qv_ N,qKl N,qpW,qm4 N,trivial⟩
def qN0 (z:qa×Bool):TV×THp:=(.tup [.tv qf (z.1:qa),xb z.2],[])
def qtn (N:Nat) (a0:qa) (a1:qa):Tree (qa×Bool):=
 .bind (qjE N a0) fun r1=>
 .cond (!r1) (
 .chk (0=0) <|
 .ret (qa.mk ((Vector.replicate 16 0)) (qc.mk 0 0) [],false)) <|
 .bind (qjE N a1) fun r2=>
 .cond (!r2) (
 .chk (0=0) <|
 .ret (qa.mk ((Vector.replicate 16 0)) (qc.mk 0 0) [],false)) <|
 .cond (!(eqE (.ba 16) (qa.ID a0) (qa.ID a1))) (
 .chk (0=0) <|
 .ret (qa.mk ((Vector.replicate 16 0)) (qc.mk 0 0) [],false)) <|
 .bind (Yg N 0 [] a0) fun r3=>
 .bind (Yg N r3.1 r3.2 a1) fun r4=>
 .bind (qoM N (qa.qz a0) (qa.qz a1)) fun r5=>
 .bind (qjq r4.1 r4.2 r5) fun r6=>
 .bind (zV [(([]:List qd).length,0),(([]:List qd).length,0)] (XT N [] [] r4.1 r4.2 ((Vector.replicate 16 0)) (qc.mk 0 0) (qa.ID a0) r5 r5)) fun r7=>
 .chk (r7.length=r7.length) <|
 .ret (qa.mk (qa.ID a0) r5 r7,true)
def qti (N:Nat) (a0:qa) (a1:qa):Option (qa×Bool):=(qtn N a0 a1).run some
def qM1 (N:Nat):List (Nat×qw):=[]
def qC8 (N:Nat):Ent:=smF ⟨55,[],[.x qf,.x qf],[],[]⟩ [qf,qf] (qa×Bool) (fun x=>qti N x.1 x.2.1) cs1 fun _=>qN0
theorem qK5 (N:Nat):zf Tryz.prog (qC8 N):=
 zd (H:=qNX) (L:=qJ (qM1 N)) (ts:=[qf,qf]) (T:=fun x=>qtn N x.1 x.2.1) 0 qSE (qIp N) (qt (by kernel_rfl) trivial) (rgs (by kernel_rfl)) fun x=>by kernel_rfl
noncomputable def qO8:Code:=Tryz.f127.body.getD .skip
theorem qPe:FnF Tryz.prog 127 Tryz.f127 qO8:=⟨qk,by kernel_rfl,by kernel_rfl,by kernel_rfl⟩
def qAf:TH:={ live:=[(0,[0,2]),(1,[0,2,4]),(2,[0]),(3,[0,2]),(4,[0,2,8]),(5,[0,2]),(6,[0,2]),(7,[0,2,14]),(8,[0,2]),(9,[0,2]),(10,[2])] }
def qAn (N:Nat):List Ent:=[]
theorem qvD (N:Nat):qU Tryz.prog (qAn N):=trivial
def qz_ (z:Int):TV×THp:=(xi z,[])
def qlC (a0:Int):Tree (Int):=
 .cond (decide (((4294967296:Int))≤a0)) (
 .chk (0≤(32:Int)) <|
 .cond (decide (65536≤(Jm a0 32))) (
 .chk (0≤(16:Int)) <|
 .cond (decide (256≤(Jm (Jm a0 32) 16))) (
 .chk (0≤(8:Int)) <|
 let w1:Int:=IntKind.u8.wrap (Jm (Jm (Jm a0 32) 16) 8)
 .bind (qM qw1 w1) fun e2=>
 .chk (qp ((e2.toNat:Nat):Int)) <|
 .chk (qp (((56:Int)) + ((e2.toNat:Nat):Int))) <|
 .ret (((56:Int)) + ((e2.toNat:Nat):Int))) <|
 .bind (qM qw1 (IntKind.u8.wrap (Jm (Jm a0 32) 16))) fun e1=>
 .chk (qp ((e1.toNat:Nat):Int)) <|
 .chk (qp (((48:Int)) + ((e1.toNat:Nat):Int))) <|
 .ret (((48:Int)) + ((e1.toNat:Nat):Int))) <|
 .cond (decide (256≤(Jm a0 32))) (
 .chk (0≤(8:Int)) <|
 .bind (qM qw1 (IntKind.u8.wrap (Jm (Jm a0 32) 8))) fun e1=>
 .chk (qp ((e1.toNat:Nat):Int)) <|
 .chk (qp (((40:Int)) + ((e1.toNat:Nat):Int))) <|
 .ret (((40:Int)) + ((e1.toNat:Nat):Int))) <|
 .bind (qM qw1 (IntKind.u8.wrap (Jm a0 32))) fun e1=>
 .chk (qp ((e1.toNat:Nat):Int)) <|
 .chk (qp (((32:Int)) + ((e1.toNat:Nat):Int))) <|
 .ret (((32:Int)) + ((e1.toNat:Nat):Int))) <|
 .cond (decide (((65536:Int))≤a0)) (
 .chk (0≤(16:Int)) <|
 .cond (decide (256≤(Jm a0 16))) (
 .chk (0≤(8:Int)) <|
 .bind (qM qw1 (IntKind.u8.wrap (Jm (Jm a0 16) 8))) fun e1=>
 .chk (qp ((e1.toNat:Nat):Int)) <|
 .chk (qp (((24:Int)) + ((e1.toNat:Nat):Int))) <|
 .ret (((24:Int)) + ((e1.toNat:Nat):Int))) <|
 .bind (qM qw1 (IntKind.u8.wrap (Jm a0 16))) fun e1=>
 .chk (qp ((e1.toNat:Nat):Int)) <|
 .chk (qp (((16:Int)) + ((e1.toNat:Nat):Int))) <|
 .ret (((16:Int)) + ((e1.toNat:Nat):Int))) <|
 .cond (decide (((256:Int))≤a0)) (
 .chk (0≤(8:Int)) <|
 .bind (qM qw1 (IntKind.u8.wrap (Jm a0 8))) fun e1=>
 .chk (qp ((e1.toNat:Nat):Int)) <|
 .chk (qp (((8:Int)) + ((e1.toNat:Nat):Int))) <|
 .ret (((8:Int)) + ((e1.toNat:Nat):Int))) <|
 .bind (qM qw1 (IntKind.u8.wrap a0)) fun e1=>
 .chk (qp ((e1.toNat:Nat):Int)) <|
 .chk (qp (((0:Int)) + ((e1.toNat:Nat):Int))) <|
 .ret (((0:Int)) + ((e1.toNat:Nat):Int))
def qoQ (a0:Int):Option (Int):=(qlC a0).run some
def qzN:List (Nat×qw):=[]
def ql4:Ent:=smF ⟨127,[],[.x (.i .u64)],[],[]⟩ [(.i .u64)] (Int) (fun x=>qoQ x.1) cs1 fun _=>qz_
theorem qx8:zf Tryz.prog (ql4):=
 zd (H:=qAf) (L:=qJ (qzN)) (ts:=[(.i .u64)]) (T:=fun x=>qlC x.1) 0 qPe (qvD 0) (qt (by kernel_rfl) trivial) (rg0 (by kernel_rfl)) fun x=>by kernel_rfl
noncomputable def qR2:Code:=Tryz.f93.body.getD .skip
theorem qSN:FnF Tryz.prog 93 Tryz.f93 qR2:=⟨qk,by kernel_rfl,by kernel_rfl,by kernel_rfl⟩
def qDL:TH:={ live:=[(0,[0]),(1,[2]),(2,[2])] }
def qEG (N:Nat):List Ent:=[ql4]
theorem qzY (N:Nat):qU Tryz.prog (qEG N):=⟨qx8,trivial⟩
def qET (z:Int):TV×THp:=(xi z,[])
def qoJ (a0:Int):Tree (Int):=
 .bind (qoQ a0) fun r1=>
 .ret r1
def qgn (a0:Int):Option (Int):=(qoJ a0).run some
def qD8:List (Nat×qw):=[]
def qpb:Ent:=smF ⟨93,[],[.x (.i .u64)],[],[]⟩ [(.i .u64)] (Int) (fun x=>qgn x.1) cs1 fun _=>qET
theorem qBm:zf Tryz.prog (qpb):=
 zd (H:=qDL) (L:=qJ (qD8)) (ts:=[(.i .u64)]) (T:=fun x=>qoJ x.1) 0 qSN (qzY 0) (qt (by kernel_rfl) trivial) (rg0 (by kernel_rfl)) fun x=>by kernel_rfl
noncomputable def qRE:Code:=Tryz.f57.body.getD .skip
theorem qTr:FnF Tryz.prog 57 Tryz.f57 qRE:=⟨qk,by kernel_rfl,by kernel_rfl,by kernel_rfl⟩
def qFp:TH:={ live:=[(0,[2,3]),(1,[4])] }
def qFk (N:Nat):List Ent:=[qcR]
theorem qCc (N:Nat):qU Tryz.prog (qFk N):=⟨qgI,trivial⟩
def qFi (z:Int):TV×THp:=(xi z,[])
def qr1 (a0:Vector UInt8 16) (a1:Vector UInt8 16):Tree (Int):=
 .bind (qbG a0.toList a1.toList) fun r1=>
 .ret r1
def qnn (a0:Vector UInt8 16) (a1:Vector UInt8 16):Option (Int):=(qr1 a0 a1).run some
def qFg:List (Nat×qw):=[]
def qsa:Ent:=smF ⟨57,[],[.x (.ba 16),.x (.ba 16)],[],[]⟩ [(.ba 16),(.ba 16)] (Int) (fun x=>qnn x.1 x.2.1) cs1 fun _=>qFi
theorem qEg:zf Tryz.prog (qsa):=
 zd (H:=qFp) (L:=qJ (qFg)) (ts:=[(.ba 16),(.ba 16)]) (T:=fun x=>qr1 x.1 x.2.1) 0 qTr (qCc 0) (qt (by kernel_rfl) trivial) (rg0 (by kernel_rfl)) fun x=>by kernel_rfl
noncomputable def qkW:Code:=Tryz.f118.body.getD .skip
theorem qPf:FnF Tryz.prog 118 Tryz.f118 qkW:=⟨qk,by kernel_rfl,by kernel_rfl,by kernel_rfl⟩
def jS:TH:={ live:=[(0,[0,1,2,3,8]),(1,[0,1,2,3,8,14]),(2,[0,1,2,3,8]),(3,[0,1,2,3,8,9]),(4,[0,1,2,3,8,9,34]),(5,[0,1,2,3,8,9]),(6,[0,1,2,3,8,9])],dec:=[21] }
def Jk (N:Nat):List Ent:=[qsa]
theorem Zp (N:Nat):qU Tryz.prog (Jk N):=⟨qEg,trivial⟩
abbrev vn:=Nat×Int×Int×Int
abbrev jc:=List (Vector UInt8 16)×Int×Bool
def jD (f:vn) (y:jc):Ex×TSt:=(.exit 2,⟨1,53,[75],[(0,.v 75 f.1),(1,xi f.2.1),(2,xi f.2.2.1),(3,.fn (.func 57) [] []),(8,xi f.2.2.2),(9,xi y.2.1),(34,xb y.2.2)],[(75,.vec false 16 (.sl 16 (.ba 16)) (y.1:List (Vector UInt8 16)))],false,[]⟩)
def qet (N:Nat):List (Nat×qw):=[]
abbrev jF:=List (Vector UInt8 16)×Int
def X_:SP:=⟨1,53,[75],[(0,.v 75),(1,.x (.i .i64)),(2,.x (.i .i64)),(3,.fn 57 [] []),(8,.x (.i .i64)),(9,.x (.i .i64))],[(75,.vec false 16)],false,[]⟩
def qey (f:vn) (v:jF):TSt:=zq X_ [dv (.sl 16 (.ba 16)) v.1,dv .nat f.1,dv (.i .i64) f.2.1,dv (.i .i64) f.2.2.1,dv (.i .i64) f.2.2.2,dv (.i .i64) v.2]
def jH (N:Nat) (s0_4:Nat) (s1_4:Int) (s2_4:Int) (s8_4:Int) (v:jF):Tree (jF⊕jc):=
 .cond (decide (s1_4 < v.2)) (
 .chk (0≤v.2∧v.2 < ((s0_4:Nat):Int)) <|
 .bind (jy v.1 s0_4 v.2.toNat) fun e1=>
 .chk (qp (v.2 - 1)) <|
 .chk (0≤(v.2 - 1)∧(v.2 - 1) < ((s0_4:Nat):Int)) <|
 .bind (jy v.1 s0_4 ((v.2 - 1).toNat)) fun e2=>
 .bind (qnn e1 e2) fun r3=>
 .cond (decide (r3 < ((0:Int)))) (
 .chk (qp (v.2 - 1)) <|
 .chk (qp (v.2 - 1)) <|
 .chk (0≤(v.2 - 1)∧(v.2 - 1) < ((s0_4:Nat):Int)) <|
 .bind (jy v.1 s0_4 ((v.2 - 1).toNat)) fun e4=>
 .chk (0≤v.2∧v.2 < ((s0_4:Nat):Int)) <|
 .bind (jy v.1 s0_4 v.2.toNat) fun e5=>
 .chk (0≤v.2∧v.2 < ((s0_4:Nat):Int)) <|
 .chk (qkc v.1.length s0_4 v.2.toNat) <|
 .chk (0≤(v.2 - 1)∧(v.2 - 1) < ((s0_4:Nat):Int)) <|
 .chk (qkc ((v.1.set v.2.toNat e4).length) s0_4 ((v.2 - 1).toNat)) <|
 .chk (qp (v.2 - 1)) <|
 .ret (.inl ((v.1.set v.2.toNat e4).set ((v.2 - 1).toNat) e5,v.2 - 1))) <|
 .ret (.inr (v.1,v.2,decide (r3 < ((0:Int)))))) <|
 .ret (.inr (v.1,v.2,false))
def Wh (N n:Nat) (f:vn) (v:jF):Option jc:=qQ (jH N f.1 f.2.1 f.2.2.1 f.2.2.2) some n v
theorem qeg (N:Nat) (f:vn) (n:Nat) (v:jF) (y:jc) (h:Wh N n f v=some y):LG Tryz.prog jS 118 (qE (qE qkW 1) 4) (qey f v) (jD f y):=
 zj qk (E:=Jk N) (L:=qJ (qet N)) (st:=jD f) (g:=some) (R:=jD f) (Zp N) (qt (by kernel_rfl) trivial) (rg0 (by kernel_rfl)) (fun v=>by kernel_rfl) (qP (st:=jD f) fun y=>by rfl) n v y h
def W6 (N:Nat) (s0_4:Nat) (s1_4:Int) (s2_4:Int) (s8_4:Int) (o_4:List (Vector UInt8 16)) (s9_4:Int):Option jc:=Wh N N (s0_4,s1_4,s2_4,s8_4) (o_4,s9_4)
def XX (N:Nat):qw:=smL X_ [(.sl 16 (.ba 16)),.nat,(.i .i64),(.i .i64),(.i .i64),(.i .i64)] jc (fun x=>W6 N x.2.1 x.2.2.1 x.2.2.2.1 x.2.2.2.2.1 x.1 x.2.2.2.2.2.1) cs1 fun x=>jD (x.2.1,x.2.2.1,x.2.2.2.1,x.2.2.2.2.1)
theorem qdl (N:Nat):zZ Tryz.prog jS 118 (qE (qE qkW 1) 4) (XX N):=zp fun x z h=>qeg N (x.2.1,x.2.2.1,x.2.2.2.1,x.2.2.2.2.1) N (x.1,x.2.2.2.2.2.1) z h
abbrev vo:=Nat×Int×Int
abbrev jb:=List (Vector UInt8 16)×Int×Bool
def jG (f:vo) (y:jb):Ex×TSt:=(.exit 0,⟨1,53,[75],[(0,.v 75 f.1),(1,xi f.2.1),(2,xi f.2.2),(3,.fn (.func 57) [] []),(8,xi y.2.1),(14,xb y.2.2)],[(75,.vec false 16 (.sl 16 (.ba 16)) (y.1:List (Vector UInt8 16)))],false,[]⟩)
def qej (N:Nat):List (Nat×qw):=[(4,XX N)]
abbrev jA:=List (Vector UInt8 16)×Int
def Wl:SP:=⟨1,53,[75],[(0,.v 75),(1,.x (.i .i64)),(2,.x (.i .i64)),(3,.fn 57 [] []),(8,.x (.i .i64))],[(75,.vec false 16)],false,[]⟩
def qes (f:vo) (v:jA):TSt:=zq Wl [dv (.sl 16 (.ba 16)) v.1,dv .nat f.1,dv (.i .i64) f.2.1,dv (.i .i64) f.2.2,dv (.i .i64) v.2]
def zS (N:Nat) (s0_1:Nat) (s1_1:Int) (s2_1:Int) (v:jA):Tree (jA⊕jb):=
 .cond (decide (v.2 < s2_1)) (
 .bind (W6 N s0_1 s1_1 s2_1 v.2 v.1 v.2) fun z1=>
 .chk (qp (v.2 + 1)) <|
 .ret (.inl (z1.1,v.2 + 1))) <|
 .ret (.inr (v.1,v.2,decide (v.2 < s2_1)))
def X9 (N n:Nat) (f:vo) (v:jA):Option jb:=qQ (zS N f.1 f.2.1 f.2.2) some n v
theorem qeq (N:Nat) (f:vo) (n:Nat) (v:jA) (y:jb) (h:X9 N n f v=some y):LG Tryz.prog jS 118 (qE qkW 1) (qes f v) (jG f y):=
 zj qk (E:=Jk N) (L:=qJ (qej N)) (st:=jG f) (g:=some) (R:=jG f) (Zp N) (qt (by kernel_rfl) ⟨qdl N,trivial⟩) (rg0 (by kernel_rfl)) (fun v=>by kernel_rfl) (qP (st:=jG f) fun y=>by rfl) n v y h
def vJ (N:Nat) (s0_1:Nat) (s1_1:Int) (s2_1:Int) (o_1:List (Vector UInt8 16)) (s8_1:Int):Option jb:=X9 N N (s0_1,s1_1,s2_1) (o_1,s8_1)
def X2 (N:Nat):qw:=smL Wl [(.sl 16 (.ba 16)),.nat,(.i .i64),(.i .i64),(.i .i64)] jb (fun x=>vJ N x.2.1 x.2.2.1 x.2.2.2.1 x.1 x.2.2.2.2.1) cs1 fun x=>jG (x.2.1,x.2.2.1,x.2.2.2.1)
theorem qdn (N:Nat):zZ Tryz.prog jS 118 (qE qkW 1) (X2 N):=zp fun x z h=>qeq N (x.2.1,x.2.2.1,x.2.2.2.1) N (x.1,x.2.2.2.2.1) z h
def qgE (z:List (Vector UInt8 16)):TV×THp:=(.tup [],[(75,.vec false 16 (.sl 16 (.ba 16)) z)])
def vU (N:Nat) (a0:List (Vector UInt8 16)) (a1:Int) (a2:Int):Tree (List (Vector UInt8 16)):=
 .chk (qp (a1 + 1)) <|
 .bind (vJ N a0.length a1 a2 a0 (a1 + 1)) fun z1=>
 .ret z1.1
def jg (N:Nat) (a0:List (Vector UInt8 16)) (a1:Int) (a2:Int):Option (List (Vector UInt8 16)):=(vU N a0 a1 a2).run some
def qgy (N:Nat):List (Nat×qw):=[(1,X2 N)]
def Yk (N:Nat):Ent:=smF ⟨118,[],[.vs 75,.x (.i .i64),.x (.i .i64),.fn 57 [] []],[],[(75,.vec false 16)]⟩ [(.sl 16 (.ba 16)),(.i .i64),(.i .i64)] (List (Vector UInt8 16)) (fun x=>jg N x.1 x.2.1 x.2.2.1) cs1 fun _=>qgE
theorem qf1 (N:Nat):zf Tryz.prog (Yk N):=
 zd (H:=jS) (L:=qJ (qgy N)) (ts:=[(.sl 16 (.ba 16)),(.i .i64),(.i .i64)]) (T:=fun x=>vU N x.1 x.2.1 x.2.2.1) 0 qPf (Zp N) (qt (by kernel_rfl) ⟨qdn N,trivial⟩) (rg0 (by kernel_rfl)) fun x=>by kernel_rfl
noncomputable def qB6:Code:=Tryz.f92.body.getD .skip
theorem qUb:FnF Tryz.prog 92 Tryz.f92 qB6:=⟨qk,by kernel_rfl,by kernel_rfl,by kernel_rfl⟩
def Ws:TH:={ live:=[(0,[0,1,2,3,4,10]),(1,[0,1,2,3,4,10,11]),(2,[0,1,2,3,4,10,11,12]),(3,[0,1,2,3,4,10,11,12,25]),(5,[0,1,2,3,4,10,11,12,32]),(7,[0,1,2,3,4,10,11,12,39]),(8,[0,1,2,3,4,10,11,12]),(9,[0,1,2,3,4,10,11,12]),(10,[0,1,2,3,4,10,11,12,13,14]),(11,[0,1,2,3,4,10,11,12,13,14,56]),(12,[0,1,2,3,4,10,11,12,13]),(13,[0,1,2,3,4,10,11,12,13]),(14,[0,1,2,3,4,10,11,12,13,14]),(15,[0,1,2,3,4,10,11,12,13,75]),(16,[0,1,2,3,4,10,11,12,13,80]),(17,[0,1,2,3,4,10,11,12,13,97]),(18,[0,2,3,4,10,11,15]),(19,[0,1,2,3,4,10,11]),(20,[0,1,2,3,4,12,16,17]),(21,[0,1,2,3,4,11,12,16]),(22,[0,1,2,3,4,11,12,16,18,19]),(23,[0,1,2,3,4,11,16,18,19,20]),(24,[0,1,2,3,4,11,16,18,19,20,125]),(25,[0,1,2,3,4,10,11,16]),(26,[0,2,3,4,10,11,16]),(27,[0,1,2,3,4,10,11]),(28,[0,1,2,3,4,10,11,16]),(29,[0,1,3,4,10,11,16]),(30,[0,1,2,3,4,10,11])],dec:=[69,72,83],raw:=[118] }
def qbF (N:Nat):List Ent:=[Yk N]
theorem K5 (N:Nat):qU Tryz.prog (qbF N):=⟨qf1 N,trivial⟩
abbrev QQ:=List (Vector UInt8 16)×Int×Int×Int
abbrev jK:=List (Vector UInt8 16)
def vq (f:QQ) (y:jK):Ex×TSt:=(.ret,⟨1,148,[75],[],[(75,.vec false 16 (.sl 16 (.ba 16)) y)],false,[]⟩)
def qi1 (N:Nat):List (Nat×qw):=[]
abbrev vr:=Unit
def KH:SP:=⟨1,148,[75],[(0,.vs 75),(1,.x (.i .i64)),(2,.x (.i .i64)),(3,.x (.i .i64)),(4,.fn 57 [] []),(10,.k (.bc true)),(11,.k (.bc true))],[(75,.vec false 16)],false,[]⟩
def qi0 (f:QQ) (v:vr):TSt:=zq KH [dv (.sl 16 (.ba 16)) f.1,dv (.i .i64) f.2.1,dv (.i .i64) f.2.2.1,dv (.i .i64) f.2.2.2]
def QR (N:Nat) (o_2:List (Vector UInt8 16)) (s1_2:Int) (s2_2:Int) (s3_2:Int) (v:vr):Tree (vr⊕jK):=
 .chk (qp (s2_2 - s1_2)) <|
 .cond (decide ((s2_2 - s1_2)≤12)) (
 .bind (zV [(o_2.length,o_2.length)] (jg N o_2 s1_2 s2_2)) fun r1=>
 .ret (.inr r1)) <|
 .cond (decide (s3_2=((0:Int)))) (
 .chk (o_2.length=o_2.length) <|
 .no) <|
 .chk (o_2.length=o_2.length) <|
 .no
def KI (N n:Nat) (f:QQ) (v:vr):Option jK:=qQ (QR N f.1 f.2.1 f.2.2.1 f.2.2.2) some n v
theorem qiZ (N:Nat) (f:QQ) (n:Nat) (v:vr) (y:jK) (h:KI N n f v=some y):LG Tryz.prog Ws 92 (qE qB6 2) (qi0 f v) (vq f y):=
 zj qk (E:=qbF N) (L:=qJ (qi1 N)) (st:=vq f) (g:=some) (R:=vq f) (K5 N) (qt (by kernel_rfl) trivial) (rg0 (by kernel_rfl)) (fun v=>by kernel_rfl) (qP (st:=vq f) fun y=>by rfl) n v y h
def XP (N:Nat) (o_2:List (Vector UInt8 16)) (s1_2:Int) (s2_2:Int) (s3_2:Int):Option jK:=KI N N (o_2,s1_2,s2_2,s3_2) ()
def KG (N:Nat):qw:=smL KH [(.sl 16 (.ba 16)),(.i .i64),(.i .i64),(.i .i64)] jK (fun x=>XP N x.1 x.2.1 x.2.2.1 x.2.2.2.1) cs1 fun x=>vq (x.1,x.2.1,x.2.2.1,x.2.2.2.1)
theorem qiB (N:Nat):zZ Tryz.prog Ws 92 (qE qB6 2) (KG N):=zp fun x z h=>qiZ N (x.1,x.2.1,x.2.2.1,x.2.2.2.1) N () z h
def qk_ (z:List (Vector UInt8 16)):TV×THp:=(.tup [],[(75,.vec false 16 (.sl 16 (.ba 16)) z)])
def Wy (N:Nat) (a0:List (Vector UInt8 16)) (a1:Int) (a2:Int) (a3:Int):Tree (List (Vector UInt8 16)):=
 .bind (zV [(a0.length,a0.length)] (XP N a0 a1 a2 a3)) fun z1=>
 .ret z1
def J8 (N:Nat) (a0:List (Vector UInt8 16)) (a1:Int) (a2:Int) (a3:Int):Option (List (Vector UInt8 16)):=(Wy N a0 a1 a2 a3).run some
def qla (N:Nat):List (Nat×qw):=[(2,KG N)]
def qbW (N:Nat):Ent:=smF ⟨92,[],[.vs 75,.x (.i .i64),.x (.i .i64),.x (.i .i64),.fn 57 [] []],[],[(75,.vec false 16)]⟩ [(.sl 16 (.ba 16)),(.i .i64),(.i .i64),(.i .i64)] (List (Vector UInt8 16)) (fun x=>J8 N x.1 x.2.1 x.2.2.1 x.2.2.2.1) cs1 fun _=>qk_
theorem qkz (N:Nat):zf Tryz.prog (qbW N):=
 zd (H:=Ws) (L:=qJ (qla N)) (ts:=[(.sl 16 (.ba 16)),(.i .i64),(.i .i64),(.i .i64)]) (T:=fun x=>Wy N x.1 x.2.1 x.2.2.1 x.2.2.2.1) 0 qUb (K5 N) (qt (by kernel_rfl) ⟨qiB N,trivial⟩) (rg0 (by kernel_rfl)) fun x=>by kernel_rfl
noncomputable def qQ_:Code:=Tryz.f56.body.getD .skip
theorem qSm:FnF Tryz.prog 56 Tryz.f56 qQ_:=⟨qk,by kernel_rfl,by kernel_rfl,by kernel_rfl⟩
def qtg:TH:={ live:=[(0,[0,1,4])],raw:=[92] }
def quW (N:Nat):List Ent:=[qpb,qbW N]
theorem qqU (N:Nat):qU Tryz.prog (quW N):=⟨qBm,qkz N,trivial⟩
def quK (z:List (Vector UInt8 16)):TV×THp:=(.tup [],[(75,.vec false 16 (.sl 16 (.ba 16)) z)])
def qaP (N:Nat) (a0:List (Vector UInt8 16)):Tree (List (Vector UInt8 16)):=
 let w1:Int:=IntKind.u64.wrap ((a0.length:Nat):Int)
 .bind (qgn w1) fun r2=>
 .bind (zV [(a0.length,a0.length)] (J8 N a0 0 ((a0.length:Nat):Int) r2)) fun r3=>
 .ret r3
def Ke (N:Nat) (a0:List (Vector UInt8 16)):Option (List (Vector UInt8 16)):=(qaP N a0).run some
def qto (N:Nat):List (Nat×qw):=[]
def qhO (N:Nat):Ent:=smF ⟨56,[],[.vs 75,.fn 57 [] []],[],[(75,.vec false 16)]⟩ [(.sl 16 (.ba 16))] (List (Vector UInt8 16)) (fun x=>Ke N x.1) cs1 fun _=>quK
theorem qsx (N:Nat):zf Tryz.prog (qhO N):=
 zd (H:=qtg) (L:=qJ (qto N)) (ts:=[(.sl 16 (.ba 16))]) (T:=fun x=>qaP N x.1) 0 qSm (qqU N) (qt (by kernel_rfl) trivial) (rg0 (by kernel_rfl)) fun x=>by kernel_rfl
noncomputable def qnH:Code:=Tryz.f22.body.getD .skip
theorem qSH:FnF Tryz.prog 22 Tryz.f22 qnH:=⟨qk,by kernel_rfl,by kernel_rfl,by kernel_rfl⟩
def qfr:TH:={ live:=[(0,[2,3,4]),(1,[2,3,4,22]),(2,[4,5]),(3,[2,3,4,6]),(4,[2,3,4,6,7]),(5,[4,6,7,30,31,32]),(6,[4,6,7,30,31,32,33]),(7,[4,6,7,9,30,31,32]),(8,[4,6,7,9,10,11,30,31,32]),(9,[4,6,7,9,10,30,31,32,44]),(10,[4,6,7,9,30,31,32]),(11,[4,6,7,30,31,32]),(12,[4,6,7,30,31,32]),(13,[4,6,7,30,31,32]),(14,[4,6,7,67]),(15,[4,5]),(16,[4,6,7]),(17,[4,6,7,12]),(18,[4,6,12,71,72,73]),(19,[4,6,12,71,72,73,74]),(20,[4,6,12,14,71,72,73]),(21,[4,6,12,71,72,73]),(22,[4,6,12,71,72,73]),(23,[4,5])],dec:=[18],raw:=[56],nil:=[(0,[⟨.ob 40 [0],43,(.sl 19 qf)⟩]),(2,[⟨.ob 40 [0],43,(.sl 19 qf)⟩]),(4,[⟨.sl 7,75,(.sl 16 (.ba 16))⟩]),(8,[⟨.ob 100 [2],105,(.sl 4 qB)⟩]),(15,[⟨.ob 40 [0],43,(.sl 19 qf)⟩]),(17,[⟨.ob 120 [0],123,(.sl 19 qf)⟩])] }
def qqt (N:Nat):List Ent:=[qmo N,qi2 N,qC4,qC8 N,qhO N]
theorem qly (N:Nat):qU Tryz.prog (qqt N):=⟨qqp N,qtT N,qLo,qK5 N,qsx N,trivial⟩
abbrev qeo:=List qa×List qa×Int
abbrev W9:=List (Vector UInt8 16)×Nat×List (Vector UInt8 16×qa×Nat)×Int×Bool
def qaC (f:qeo) (y:W9):Ex×TSt:=(.exit 0,⟨0,87,[],[(4,.p 40 [] 0),(6,.m 240),(7,.v 75 y.1.length),(30,.tv (.sl 19 qf) f.2.1),(31,xi f.2.2),(32,xi y.2.2.2.1),(33,xb y.2.2.2.2)],[(40,.cell false (.ag [.v 43 f.1.length])),(43,.vec false 19 (.sl 19 qf) f.1),(75,.vec false 16 (.sl 16 (.ba 16)) (y.1:List (Vector UInt8 16))),(240,.map y.2.1 (.ba 16) qf (y.2.2.1:List (Vector UInt8 16×qa×Nat)))],false,[]⟩)
def qFo (N:Nat):List (Nat×qw):=[]
abbrev qan:=List (Vector UInt8 16)×Nat×List (Vector UInt8 16×qa×Nat)×Int
def qrF:SP:=⟨0,87,[],[(4,.k (.p 40 [] 0)),(6,.k (.m 240)),(7,.vs 75),(30,.x (.sl 19 qf)),(31,.x (.i .i64)),(32,.x (.i .i64))],[(40,.cell false (.ag [.vs 43])),(43,.vec false 19),(75,.vec false 16),(240,.map (.ba 16) qf)],false,[]⟩
def qFu (f:qeo) (v:qan):TSt:=zq qrF [dv (.sl 19 qf) f.1,dv (.sl 16 (.ba 16)) v.1,dv .nat v.2.1,dv (qaX (.ba 16) qf) v.2.2.1,dv (.sl 19 qf) f.2.1,dv (.i .i64) f.2.2,dv (.i .i64) v.2.2.2]
def qau (N:Nat) (o_6:List qa) (s30_6:List qa) (s31_6:Int) (v:qan):Tree (qan⊕W9):=
 .cond (decide (v.2.2.2 < s31_6)) (
 .bind (qM s30_6 v.2.2.2) fun e1=>
 .opt (fnd (β:=qa) (.ba 16) (qa.ID e1) v.2.2.1) (
 .chk (zU v.1.length v.1.length ((v.1++[qa.ID e1]).length) 16) <|
 .bind (quP e1) fun r3=>
 .chk (qp (v.2.2.2 + 1)) <|
 .ret (.inl (v.1++[qa.ID e1],(J2 (.ba 16) (qa.ID e1) (qa.mk (qa.ID e1) (qa.qz e1) ((([]:List qd))++(qa.F e1))) v.2.1 v.2.2.1).1,(J2 (.ba 16) (qa.ID e1) (qa.mk (qa.ID e1) (qa.qz e1) ((([]:List qd))++(qa.F e1))) v.2.1 v.2.2.1).2,v.2.2.2 + 1))) fun e2=>
 .bind (qti N e2.1 e1) fun r3=>
 .chk (qp (v.2.2.2 + 1)) <|
 .ret (.inl (v.1,(J2 (.ba 16) (qa.ID e1) r3.1 v.2.1 v.2.2.1).1,(J2 (.ba 16) (qa.ID e1) r3.1 v.2.1 v.2.2.1).2,v.2.2.2 + 1))) <|
 .ret (.inr (v.1,v.2.1,v.2.2.1,v.2.2.2,decide (v.2.2.2 < s31_6)))
def qrM (N n:Nat) (f:qeo) (v:qan):Option W9:=qQ (qau N f.1 f.2.1 f.2.2) some n v
theorem qFX (N:Nat) (f:qeo) (n:Nat) (v:qan) (y:W9) (h:qrM N n f v=some y):LG Tryz.prog qfr 22 (qE qnH 6) (qFu f v) (qaC f y):=
 zj qk (E:=qqt N) (L:=qJ (qFo N)) (st:=qaC f) (g:=some) (R:=qaC f) (qly N) (qt (by kernel_rfl) trivial) (rg0 (by kernel_rfl)) (fun v=>by kernel_rfl) (qP (st:=qaC f) fun y=>by rfl) n v y h
def qm1 (N:Nat) (o_6:List qa) (s30_6:List qa) (s31_6:Int) (o_6_2:List (Vector UInt8 16)) (o_6_3:Nat) (o_6_4:List (Vector UInt8 16×qa×Nat)) (s32_6:Int):Option W9:=qrM N N (o_6,s30_6,s31_6) (o_6_2,o_6_3,o_6_4,s32_6)
def qsi (N:Nat):qw:=smL qrF [(.sl 19 qf),(.sl 16 (.ba 16)),.nat,(qaX (.ba 16) qf),(.sl 19 qf),(.i .i64),(.i .i64)] W9 (fun x=>qm1 N x.1 x.2.2.2.2.1 x.2.2.2.2.2.1 x.2.1 x.2.2.1 x.2.2.2.1 x.2.2.2.2.2.2.1) cs1 fun x=>qaC (x.1,x.2.2.2.2.1,x.2.2.2.2.2.1)
theorem qD1 (N:Nat):zZ Tryz.prog qfr 22 (qE qnH 6) (qsi N):=zp fun x z h=>qFX N (x.1,x.2.2.2.2.1,x.2.2.2.2.2.1) N (x.2.1,x.2.2.1,x.2.2.2.1,x.2.2.2.2.2.2.1) z h
abbrev qcK:=List qa×List (Vector UInt8 16)×Nat×List (Vector UInt8 16×qa×Nat)×Nat×Int
abbrev X3:=List qa×Int×Bool
def Y1 (f:qcK) (y:X3):Ex×TSt:=(.exit 2,⟨0,87,[],[(4,.p 40 [] 0),(6,.m 240),(12,.p 120 [] 0),(71,.v 75 f.2.2.2.2.1),(72,xi f.2.2.2.2.2),(73,xi y.2.1),(74,xb y.2.2)],[(40,.cell false (.ag [.v 43 f.1.length])),(43,.vec false 19 (.sl 19 qf) f.1),(75,.vec false 16 (.sl 16 (.ba 16)) f.2.1),(120,.cell false (.ag [.v 123 y.1.length])),(123,.vec false 19 (.sl 19 qf) (y.1:List qa)),(240,.map f.2.2.1 (.ba 16) qf f.2.2.2.1)],false,[]⟩)
def qEk (N:Nat):List (Nat×qw):=[]
abbrev Kj:=List qa×Int
def qo2:SP:=⟨0,87,[],[(4,.k (.p 40 [] 0)),(6,.k (.m 240)),(12,.k (.p 120 [] 0)),(71,.v 75),(72,.x (.i .i64)),(73,.x (.i .i64))],[(40,.cell false (.ag [.vs 43])),(43,.vec false 19),(75,.vec false 16),(120,.cell false (.ag [.vs 123])),(123,.vec false 19),(240,.map (.ba 16) qf)],false,[]⟩
def qEu (f:qcK) (v:Kj):TSt:=zq qo2 [dv (.sl 19 qf) f.1,dv (.sl 16 (.ba 16)) f.2.1,dv (.sl 19 qf) v.1,dv .nat f.2.2.1,dv (qaX (.ba 16) qf) f.2.2.2.1,dv .nat f.2.2.2.2.1,dv (.i .i64) f.2.2.2.2.2,dv (.i .i64) v.2]
def qcT (N:Nat) (o_19:List qa) (o_19_2:List (Vector UInt8 16)) (o_19_4:Nat) (o_19_5:List (Vector UInt8 16×qa×Nat)) (s71_19:Nat) (s72_19:Int) (v:Kj):Tree (Kj⊕X3):=
 .cond (decide (v.2 < s72_19)) (
 .chk (0≤v.2∧v.2 < ((s71_19:Nat):Int)) <|
 .bind (jy o_19_2 s71_19 v.2.toNat) fun e1=>
 .opt (fnd (β:=qa) (.ba 16) e1 o_19_5) (
 .chk (zU v.1.length v.1.length ((v.1++[qa.mk ((Vector.replicate 16 0)) (qc.mk 0 0) []]).length) 56) <|
 .chk (qp (v.2 + 1)) <|
 .ret (.inl (v.1++[qa.mk ((Vector.replicate 16 0)) (qc.mk 0 0) []],v.2 + 1))) fun e2=>
 .chk (zU v.1.length v.1.length ((v.1++[e2.1]).length) 56) <|
 .chk (qp (v.2 + 1)) <|
 .ret (.inl (v.1++[e2.1],v.2 + 1))) <|
 .ret (.inr (v.1,v.2,decide (v.2 < s72_19)))
def qoG (N n:Nat) (f:qcK) (v:Kj):Option X3:=qQ (qcT N f.1 f.2.1 f.2.2.1 f.2.2.2.1 f.2.2.2.2.1 f.2.2.2.2.2) some n v
theorem qD_ (N:Nat) (f:qcK) (n:Nat) (v:Kj) (y:X3) (h:qoG N n f v=some y):LG Tryz.prog qfr 22 (qE qnH 19) (qEu f v) (Y1 f y):=
 zj qk (E:=qqt N) (L:=qJ (qEk N)) (st:=Y1 f) (g:=some) (R:=Y1 f) (qly N) (qt (by kernel_rfl) trivial) (rg0 (by kernel_rfl)) (fun v=>by kernel_rfl) (qP (st:=Y1 f) fun y=>by rfl) n v y h
def qk6 (N:Nat) (o_19:List qa) (o_19_2:List (Vector UInt8 16)) (o_19_4:Nat) (o_19_5:List (Vector UInt8 16×qa×Nat)) (s71_19:Nat) (s72_19:Int) (o_19_3:List qa) (s73_19:Int):Option X3:=qoG N N (o_19,o_19_2,o_19_4,o_19_5,s71_19,s72_19) (o_19_3,s73_19)
def qoZ (N:Nat):qw:=smL qo2 [(.sl 19 qf),(.sl 16 (.ba 16)),(.sl 19 qf),.nat,(qaX (.ba 16) qf),.nat,(.i .i64),(.i .i64)] X3 (fun x=>qk6 N x.1 x.2.1 x.2.2.2.1 x.2.2.2.2.1 x.2.2.2.2.2.1 x.2.2.2.2.2.2.1 x.2.2.1 x.2.2.2.2.2.2.2.1) cs1 fun x=>Y1 (x.1,x.2.1,x.2.2.2.1,x.2.2.2.2.1,x.2.2.2.2.2.1,x.2.2.2.2.2.2.1)
theorem qCh (N:Nat):zZ Tryz.prog qfr 22 (qE qnH 19) (qoZ N):=zp fun x z h=>qD_ N (x.1,x.2.1,x.2.2.2.1,x.2.2.2.2.1,x.2.2.2.2.2.1,x.2.2.2.2.2.2.1) N (x.2.2.1,x.2.2.2.2.2.2.2.1) z h
def qK3 (z:qb×Int):TV×THp:=(.tup [.tv qj (z.1:qb),xi z.2],[])
def qkh (N:Nat) (a0:qb) (a1:qb):Tree (qb×Int):=
 .bind (qdh N a0) fun r1=>
 .cond (!r1) (
 .chk (0=0) <|
 .ret (qb.mk [],1)) <|
 .bind (qdh N a1) fun r2=>
 .cond (!r2) (
 .chk (0=0) <|
 .ret (qb.mk [],1)) <|
 .bind (K1 N [qb.R a0,qb.R a1]) fun r3=>
 .bind (zV [(([]:List qa).length,0),(([]:List (Vector UInt8 16)).length,0)] (qm1 N [] r3 ((r3.length:Nat):Int) [] 0 [] 0)) fun z4=>
 .cond (decide (((10:Int)) < ((z4.1.length:Nat):Int))) (
 .chk (0=0) <|
 .ret (qb.mk [],4)) <|
 .bind (zV [(z4.1.length,z4.1.length)] (Ke N z4.1)) fun r5=>
 .bind (zV [(([]:List qa).length,0),(([]:List qa).length,0)] (qk6 N [] r5 z4.2.1 z4.2.2.1 z4.1.length ((z4.1.length:Nat):Int) [] 0)) fun z6=>
 .chk (z6.1.length=z6.1.length) <|
 .ret (qb.mk z6.1,0)
def Kb (N:Nat) (a0:qb) (a1:qb):Option (qb×Int):=(qkh N a0 a1).run some
def qLC (N:Nat):List (Nat×qw):=[(6,qsi N),(19,qoZ N)]
def qAY (N:Nat):Ent:=smF ⟨22,[],[.x qj,.x qj],[],[]⟩ [qj,qj] (qb×Int) (fun x=>Kb N x.1 x.2.1) cs1 fun _=>qK3
theorem qJ1 (N:Nat):zf Tryz.prog (qAY N):=
 zd (H:=qfr) (L:=qJ (qLC N)) (ts:=[qj,qj]) (T:=fun x=>qkh N x.1 x.2.1) 0 qSH (qly N) (qt (by kernel_rfl) ⟨qD1 N,qCh N,trivial⟩) (rg0 (by kernel_rfl)) fun x=>by kernel_rfl
noncomputable def qCw:Code:=Tryz.f13.body.getD .skip
theorem qSi:FnF Tryz.prog 13 Tryz.f13 qCw:=⟨qk,by kernel_rfl,by kernel_rfl,by kernel_rfl⟩
def qqJ:TH:={ live:=[(0,[2,3,4]),(1,[2,3,4,6]),(2,[2,3,4,6,39]),(3,[4,5]),(4,[2,4,47,48,49]),(5,[2,4,47,48,49,50]),(6,[2,4,8,47,48,49]),(7,[2,4,8,47,48,49,54]),(8,[2,4,9,10,47,48,49]),(9,[2,4,9,10,47,48,49,64]),(10,[4,5]),(11,[2,4,47,48,49]),(12,[2,4,47,48,49]),(13,[4,5])],dec:=[19,23,29,34],nil:=[(0,[⟨.ob 40 [0],43,(.sl 19 qf)⟩]),(3,[⟨.ob 40 [0],43,(.sl 19 qf)⟩]),(10,[⟨.ob 40 [0],43,(.sl 19 qf)⟩])] }
def qBe (N:Nat):List Ent:=[qmo N,qit,qb6,qo1 N,qAY N]
theorem qu3 (N:Nat):qU Tryz.prog (qBe N):=⟨qqp N,qlg,qdx,qtv N,qJ1 N,trivial⟩
abbrev qev:=List qa×List qa×Int
abbrev W8:=(qb×Int×Bool)⊕Int
def qak (f:qev):W8→Ex×TSt
 | .inl y=>(.exit 0,⟨0,70,[],[(2,.p 20 [] 0),(4,.p 40 [] 0),(47,.tv (.sl 19 qf) f.2.1),(48,xi f.2.2),(49,xi y.2.1),(50,xb y.2.2)],[(20,.cell false (.tv qj (y.1:qb))),(40,.cell false (.ag [.v 43 f.1.length])),(43,.vec false 19 (.sl 19 qf) f.1)],false,[]⟩)
 | .inr y=>(.ret,⟨0,70,[],[(4,.p 40 [] 0),(5,xi y)],[(40,.cell false (.ag [.v 43 0])),(43,.vec false 19 (.sl 19 qf) ([]:List qa))],false,[]⟩)
def qFZ (N:Nat):List (Nat×qw):=[]
abbrev qao:=qb×Int
def qsd:SP:=⟨0,70,[],[(2,.k (.p 20 [] 0)),(4,.k (.p 40 [] 0)),(47,.x (.sl 19 qf)),(48,.x (.i .i64)),(49,.x (.i .i64))],[(20,.cell false (.x qj)),(40,.cell false (.ag [.vs 43])),(43,.vec false 19)],false,[]⟩
def qFW (f:qev) (v:qao):TSt:=zq qsd [dv (.sl 19 qf) f.1,dv qj v.1,dv (.sl 19 qf) f.2.1,dv (.i .i64) f.2.2,dv (.i .i64) v.2]
def qad (N:Nat) (o_5:List qa) (s47_5:List qa) (s48_5:Int) (v:qao):Tree (qao⊕W8):=
 .cond (decide (v.2 < s48_5)) (
 .bind (qM s47_5 v.2) fun e1=>
 .bind (J7 e1) fun r2=>
 .cond r2 (
 .chk (qp (v.2 + 1)) <|
 .ret (.inl (v.1,v.2 + 1))) <|
 .bind (Kb N v.1 (qb.mk [e1])) fun r3=>
 .cond (!decide (r3.2=0)) (
 .ret (.inr (.inr r3.2))) <|
 .chk (qp (v.2 + 1)) <|
 .ret (.inl (r3.1,v.2 + 1))) <|
 .ret (.inr (.inl (v.1,v.2,decide (v.2 < s48_5))))
def qrN (N n:Nat) (f:qev) (v:qao):Option W8:=qQ (qad N f.1 f.2.1 f.2.2) some n v
theorem qFR (N:Nat) (f:qev) (n:Nat) (v:qao) (y:W8) (h:qrN N n f v=some y):LG Tryz.prog qqJ 13 (qE qCw 5) (qFW f v) (qak f y):=
 zj qk (E:=qBe N) (L:=qJ (qFZ N)) (st:=qak f) (g:=some) (R:=qak f) (qu3 N) (qt (by kernel_rfl) trivial) (rg0 (by kernel_rfl)) (fun v=>by kernel_rfl) (qP (st:=qak f) fun y=>by rcases y with _ | _<;>rfl) n v y h
def qaw (N:Nat) (o_5:List qa) (s47_5:List qa) (s48_5:Int) (o_5_2:qb) (s49_5:Int):Option W8:=qrN N N (o_5,s47_5,s48_5) (o_5_2,s49_5)
def qrp (N:Nat):qw:=smL qsd [(.sl 19 qf),qj,(.sl 19 qf),(.i .i64),(.i .i64)] W8 (fun x=>qaw N x.1 x.2.2.1 x.2.2.2.1 x.2.1 x.2.2.2.2.1) (csS cs1) fun x=>qak (x.1,x.2.2.1,x.2.2.2.1)
theorem qDt (N:Nat):zZ Tryz.prog qqJ 13 (qE qCw 5) (qrp N):=zp fun x z h=>qFR N (x.1,x.2.2.1,x.2.2.2.1) N (x.2.1,x.2.2.2.2.1) z h
def qLA (z:qb×Int):TV×THp:=(.tup [.tv qj (z.1:qb),xi z.2],[])
def qrg (N:Nat) (a0:qb) (a1:qa):Tree (qb×Int):=
 .bind (qdh N a0) fun r1=>
 .cond (!r1) (
 .chk (0=0) <|
 .ret (qb.mk [],1)) <|
 .bind (J7 a1) fun r2=>
 .cond r2 (
 .chk (0=0) <|
 .ret (qb.mk [],1)) <|
 .bind (qaF (qa.qz a1)) fun r3=>
 .cond (!r3) (
 .chk (0=0) <|
 .ret (qb.mk [],1)) <|
 .cond (decide (((0:Int)) < (((qa.F a1).length:Nat):Int))) (
 .bind (qjE N (qa.mk (qa.ID a1) (qc.mk 0 0) (qa.F a1))) fun r4=>
 .cond (!r4) (
 .chk (0=0) <|
 .ret (qb.mk [],1)) <|
 .bind (zV [(([]:List qa).length,0)] (qaw N [] [qa.mk (qa.ID a1) (qa.qz a1) [],qa.mk (qa.ID a1) (qc.mk 0 0) (qa.F a1)] (((([qa.mk (qa.ID a1) (qa.qz a1) [],qa.mk (qa.ID a1) (qc.mk 0 0) (qa.F a1)]:List qa)).length:Nat):Int) a0 0)) fun z5=>
 .sum z5 (fun z6=>
 .ret (z6.1,0)) fun z6=>
 .chk (0=0) <|
 .ret (qb.mk [],z6)) <|
 .bind (zV [(([]:List qa).length,0)] (qaw N [] [qa.mk (qa.ID a1) (qa.qz a1) [],qa.mk (qa.ID a1) (qc.mk 0 0) (qa.F a1)] (((([qa.mk (qa.ID a1) (qa.qz a1) [],qa.mk (qa.ID a1) (qc.mk 0 0) (qa.F a1)]:List qa)).length:Nat):Int) a0 0)) fun z4=>
 .sum z4 (fun z5=>
 .ret (z5.1,0)) fun z5=>
 .chk (0=0) <|
 .ret (qb.mk [],z5)
def qoO (N:Nat) (a0:qb) (a1:qa):Option (qb×Int):=(qrg N a0 a1).run some
def qKR (N:Nat):List (Nat×qw):=[(5,qrp N)]
def qAS (N:Nat):Ent:=smF ⟨13,[],[.x qj,.x qf],[],[]⟩ [qj,qf] (qb×Int) (fun x=>qoO N x.1 x.2.1) cs1 fun _=>qLA
theorem qJf (N:Nat):zf Tryz.prog (qAS N):=
 zd (H:=qqJ) (L:=qJ (qKR N)) (ts:=[qj,qf]) (T:=fun x=>qrg N x.1 x.2.1) 0 qSi (qu3 N) (qt (by kernel_rfl) ⟨qDt N,trivial⟩) (rg0 (by kernel_rfl)) fun x=>by kernel_rfl
noncomputable def qSY:Code:=Tryz.f37.body.getD .skip
theorem qSL:FnF Tryz.prog 37 Tryz.f37 qSY:=⟨qk,by kernel_rfl,by kernel_rfl,by kernel_rfl⟩
def qwv:TH:={ live:=[(0,[1]),(1,[1,5]),(2,[2]),(3,[2])],dec:=[12,17,22] }
def qww (N:Nat):List Ent:=[]
theorem qt5 (N:Nat):qU Tryz.prog (qww N):=trivial
def qyD (z:Bool):TV×THp:=(xb z,[])
def qdT (a0:qc):Tree (Bool):=
 .cond (decide ((qc.N a0)=((0:Int)))) (
 .ret (decide ((qc.Rep a0)=((0:Int))))) <|
 .cond (decide (((1:Int))≤(qc.N a0))) (
 .cond (decide ((qc.N a0)≤((1099511627776:Int)))) (
 .cond (decide (((0:Int))≤(qc.Rep a0))) (
 .ret (decide ((qc.Rep a0) < ((8:Int))))) <|
 .ret false) <|
 .ret false) <|
 .ret false
def QZ (a0:qc):Option (Bool):=(qdT a0).run some
def qwY:List (Nat×qw):=[]
def Jr:Ent:=smF ⟨37,[],[.x qh],[],[]⟩ [qh] (Bool) (fun x=>QZ x.1) cs1 fun _=>qyD
theorem V2:zf Tryz.prog (Jr):=
 zd (H:=qwv) (L:=qJ (qwY)) (ts:=[qh]) (T:=fun x=>qdT x.1) 0 qSL (qt5 0) (qt (by kernel_rfl) trivial) (rg0 (by kernel_rfl)) fun x=>by kernel_rfl
noncomputable def qTo:Code:=Tryz.f76.body.getD .skip
theorem qTi:FnF Tryz.prog 76 Tryz.f76 qTo:=⟨qk,by kernel_rfl,by kernel_rfl,by kernel_rfl⟩
def qy4:TH:={ live:=[(0,[1]),(1,[1,3]),(2,[2])],dec:=[8,14] }
def qwR (N:Nat):List Ent:=[Jr]
theorem qtU (N:Nat):qU Tryz.prog (qwR N):=⟨V2,trivial⟩
def qxL (z:Bool):TV×THp:=(xb z,[])
def qd1 (a0:qe):Tree (Bool):=
 .bind (QZ (qe.S a0)) fun r1=>
 .cond r1 (
 .cond (decide (((0:Int)) < (qc.N (qe.S a0)))) (
 .ret (decide ((((qe.V a0).length:Nat):Int)≤((200:Int))))) <|
 .ret false) <|
 .ret false
def qby (a0:qe):Option (Bool):=(qd1 a0).run some
def qwu:List (Nat×qw):=[]
def qkM:Ent:=smF ⟨76,[],[.x qq],[],[]⟩ [qq] (Bool) (fun x=>qby x.1) cs1 fun _=>qxL
theorem qwh:zf Tryz.prog (qkM):=
 zd (H:=qy4) (L:=qJ (qwu)) (ts:=[qq]) (T:=fun x=>qd1 x.1) 0 qTi (qtU 0) (qt (by kernel_rfl) trivial) (rg0 (by kernel_rfl)) fun x=>by kernel_rfl
noncomputable def qTE:Code:=Tryz.f44.body.getD .skip
theorem qSt:FnF Tryz.prog 44 Tryz.f44 qTE:=⟨qk,by kernel_rfl,by kernel_rfl,by kernel_rfl⟩
def qwl:TH:={ live:=[(0,[2,3]),(1,[4])],dec:=[10,16] }
def qvv (N:Nat):List Ent:=[]
theorem qrZ (N:Nat):qU Tryz.prog (qvv N):=trivial
def qvJ (z:Bool):TV×THp:=(xb z,[])
def qcH (a0:qc) (a1:qc):Tree (Bool):=
 .cond (decide ((qc.N a0) < (qc.N a1))) (
 .ret true) <|
 .cond (decide ((qc.N a0)=(qc.N a1))) (
 .ret (decide ((qc.Rep a0) < (qc.Rep a1)))) <|
 .ret false
def zN (a0:qc) (a1:qc):Option (Bool):=(qcH a0 a1).run some
def qvG:List (Nat×qw):=[]
def vu:Ent:=smF ⟨44,[],[.x qh,.x qh],[],[]⟩ [qh,qh] (Bool) (fun x=>zN x.1 x.2.1) cs1 fun _=>qvJ
theorem vV:zf Tryz.prog (vu):=
 zd (H:=qwl) (L:=qJ (qvG)) (ts:=[qh,qh]) (T:=fun x=>qcH x.1 x.2.1) 0 qSt (qrZ 0) (qt (by kernel_rfl) trivial) (rg0 (by kernel_rfl)) fun x=>by kernel_rfl
noncomputable def qBP:Code:=Tryz.f38.body.getD .skip
theorem qT1:FnF Tryz.prog 38 Tryz.f38 qBP:=⟨qk,by kernel_rfl,by kernel_rfl,by kernel_rfl⟩
def qdH:TH:={ live:=[(0,[1]),(1,[1,3]),(2,[1,25]),(3,[2]),(4,[1,4]),(5,[1,4,5]),(6,[1,4,5,30]),(7,[1,4,5]),(8,[1,4,5,6]),(9,[1,4,5,6,7]),(10,[1,4,5,6,7,8]),(11,[1,5,6,63]),(12,[2]),(13,[1,4,5]),(14,[2])],dec:=[14,19,49,53,59] }
def qk0 (N:Nat):List Ent:=[Jr,qkM,vu]
theorem qhK (N:Nat):qU Tryz.prog (qk0 N):=⟨V2,qwh,vV,trivial⟩
abbrev XS:=qa
abbrev QP:=Unit⊕(Int×Int×Bool)
def JG (f:XS):QP→Ex×TSt
 | .inl y=>(.ret,⟨0,66,[],[(2,.bc false)],[],false,[]⟩)
 | .inr y=>(.exit 0,⟨0,66,[],[(1,.p 10 [] 0),(4,xi y.1),(5,xi y.2.1),(30,xb y.2.2)],[(10,.cell false (.tv qf f))],false,[]⟩)
def qsC (N:Nat):List (Nat×qw):=[]
abbrev JT:=Int×Int
def qhn:SP:=⟨0,66,[],[(1,.k (.p 10 [] 0)),(4,.x (.i .i64)),(5,.x (.i .i64))],[(10,.cell false (.x qf))],false,[]⟩
def qrD (f:XS) (v:JT):TSt:=zq qhn [dv qf f,dv (.i .i64) v.1,dv (.i .i64) v.2]
def Wd (N:Nat) (o_6:qa) (v:JT):Tree (JT⊕QP):=
 .cond (decide (v.2 < (((qa.F o_6).length:Nat):Int))) (
 .bind (qM (qa.F o_6) v.2) fun e1=>
 .bind (qby (qd.C e1)) fun r2=>
 .bind (zN (qa.qz o_6) (qe.S (qd.C e1))) fun r3=>
 .cond (!r2) (
 .ret (.inr (.inl ()))) <|
 .cond (!r3) (
 .ret (.inr (.inl ()))) <|
 .cond (decide ((qd.No e1)≤v.1)) (
 .ret (.inr (.inl ()))) <|
 .cond (decide (((8:Int))≤(qd.No e1))) (
 .ret (.inr (.inl ()))) <|
 .chk (qp (v.2 + 1)) <|
 .ret (.inl (qd.No e1,v.2 + 1))) <|
 .ret (.inr (.inr ((v.1,v.2,decide (v.2 < (((qa.F o_6).length:Nat):Int))))))
def qhp (N n:Nat) (f:XS) (v:JT):Option QP:=qQ (Wd N f) some n v
theorem qrK (N:Nat) (f:XS) (n:Nat) (v:JT) (y:QP) (h:qhp N n f v=some y):LG Tryz.prog qdH 38 (qE qBP 6) (qrD f v) (JG f y):=
 zj qk (E:=qk0 N) (L:=qJ (qsC N)) (st:=JG f) (g:=some) (R:=JG f) (qhK N) (qt (by kernel_rfl) trivial) (rg0 (by kernel_rfl)) (fun v=>by kernel_rfl) (qP (st:=JG f) fun y=>by rcases y with _ | _<;>rfl) n v y h
def Yz (N:Nat) (o_6:qa) (s4_6:Int) (s5_6:Int):Option QP:=qhp N N o_6 (s4_6,s5_6)
def qg8 (N:Nat):qw:=smL qhn [qf,(.i .i64),(.i .i64)] QP (fun x=>Yz N x.1 x.2.1 x.2.2.1) (csS cs1) fun x=>JG x.1
theorem qqP (N:Nat):zZ Tryz.prog qdH 38 (qE qBP 6) (qg8 N):=zp fun x z h=>qrK N x.1 N (x.2.1,x.2.2.1) z h
def qxX (z:Bool):TV×THp:=(xb z,[])
def qc7 (N:Nat) (a0:qa):Tree (Bool):=
 .bind (QZ (qa.qz a0)) fun r1=>
 .cond (!r1) (
 .ret false) <|
 .cond (decide ((((qa.F a0).length:Nat):Int)=((0:Int)))) (
 .cond (eqE qh (qa.qz a0) (qc.mk 0 0)) (
 .ret false) <|
 .bind (Yz N a0 (-1) 0) fun z2=>
 .sum z2 (fun z3=>
 .ret false) fun z3=>
 .ret true) <|
 .bind (Yz N a0 (-1) 0) fun z2=>
 .sum z2 (fun z3=>
 .ret false) fun z3=>
 .ret true
def Jl (N:Nat) (a0:qa):Option (Bool):=(qc7 N a0).run some
def qyc (N:Nat):List (Nat×qw):=[(6,qg8 N)]
def Y9 (N:Nat):Ent:=smF ⟨38,[],[.x qf],[],[]⟩ [qf] (Bool) (fun x=>Jl N x.1) cs1 fun _=>qxX
theorem qci (N:Nat):zf Tryz.prog (Y9 N):=
 zd (H:=qdH) (L:=qJ (qyc N)) (ts:=[qf]) (T:=fun x=>qc7 N x.1) 0 qT1 (qhK N) (qt (by kernel_rfl) ⟨qqP N,trivial⟩) (rg0 (by kernel_rfl)) fun x=>by kernel_rfl
noncomputable def qCB:Code:=Tryz.f75.body.getD .skip
theorem qRC:FnF Tryz.prog 75 Tryz.f75 qCB:=⟨qk,by kernel_rfl,by kernel_rfl,by kernel_rfl⟩
def qcq:TH:={ live:=[(0,[2,3]),(1,[2,3,5]),(2,[2,3,5,7]),(3,[2,3,5]),(4,[2,3,5,16]),(5,[4]),(6,[4])] }
def qi8 (N:Nat):List Ent:=[]
theorem qhk (N:Nat):qU Tryz.prog (qi8 N):=trivial
abbrev Xo:=Vector UInt8 16×Vector UInt8 16
abbrev Qm:=Bool⊕(Int×Bool)
def ZL (f:Xo):Qm→Ex×TSt
 | .inl y=>(.ret,⟨0,24,[],[(4,xb y)],[],false,[]⟩)
 | .inr y=>(.exit 0,⟨0,24,[],[(2,.p 20 [] 0),(3,.p 30 [] 0),(5,xi y.1),(7,xb y.2)],[(20,.cell false (.tv (.ba 16) f.1)),(30,.cell false (.tv (.ba 16) f.2))],false,[]⟩)
def qq3 (N:Nat):List (Nat×qw):=[]
abbrev ZV:=Int
def qf9:SP:=⟨0,24,[],[(2,.k (.p 20 [] 0)),(3,.k (.p 30 [] 0)),(5,.x (.i .i64))],[(20,.cell false (.x (.ba 16))),(30,.cell false (.x (.ba 16)))],false,[]⟩
def qri (f:Xo) (v:ZV):TSt:=zq qf9 [dv (.ba 16) f.1,dv (.ba 16) f.2,dv (.i .i64) v]
def ZN (N:Nat) (o_2:Vector UInt8 16) (o_2_2:Vector UInt8 16) (v:ZV):Tree (ZV⊕Qm):=
 .cond (decide (v < ((16:Int)))) (
 .chk (0≤v∧v < ((16:Nat):Int)) <|
 .chk (v.toNat < 16) <|
 .chk (0≤v∧v < ((16:Nat):Int)) <|
 .chk (v.toNat < 16) <|
 .cond (!decide ((((o_2.toList.getD v.toNat 0).toNat:Nat):Int)=(((o_2_2.toList.getD v.toNat 0).toNat:Nat):Int))) (
 .chk (0≤v∧v < ((16:Nat):Int)) <|
 .chk (v.toNat < 16) <|
 .chk (0≤v∧v < ((16:Nat):Int)) <|
 .chk (v.toNat < 16) <|
 .ret (.inr (.inl (decide ((((o_2.toList.getD v.toNat 0).toNat:Nat):Int) < (((o_2_2.toList.getD v.toNat 0).toNat:Nat):Int)))))) <|
 .chk (qp (v + 1)) <|
 .ret (.inl (v + 1))) <|
 .ret (.inr (.inr ((v,decide (v < ((16:Int)))))))
def qfM (N n:Nat) (f:Xo) (v:ZV):Option Qm:=qQ (ZN N f.1 f.2) some n v
theorem qqs (N:Nat) (f:Xo) (n:Nat) (v:ZV) (y:Qm) (h:qfM N n f v=some y):LG Tryz.prog qcq 75 (qE qCB 2) (qri f v) (ZL f y):=
 zj qk (E:=qi8 N) (L:=qJ (qq3 N)) (st:=ZL f) (g:=some) (R:=ZL f) (qhk N) (qt (by kernel_rfl) trivial) (rg0 (by kernel_rfl)) (fun v=>by kernel_rfl) (qP (st:=ZL f) fun y=>by rcases y with _ | _<;>rfl) n v y h
def qbB (N:Nat) (o_2:Vector UInt8 16) (o_2_2:Vector UInt8 16) (s5_2:Int):Option Qm:=qfM N N (o_2,o_2_2) s5_2
def qfo (N:Nat):qw:=smL qf9 [(.ba 16),(.ba 16),(.i .i64)] Qm (fun x=>qbB N x.1 x.2.1 x.2.2.1) (csS cs1) fun x=>ZL (x.1,x.2.1)
theorem qok (N:Nat):zZ Tryz.prog qcq 75 (qE qCB 2) (qfo N):=zp fun x z h=>qqs N (x.1,x.2.1) N x.2.2.1 z h
def qwg (z:Bool):TV×THp:=(xb z,[])
def qcs (N:Nat) (a0:Vector UInt8 16) (a1:Vector UInt8 16):Tree (Bool):=
 .bind (qbB N a0 a1 0) fun z1=>
 .sum z1 (fun z2=>
 .ret z2) fun z2=>
 .ret false
def Qq (N:Nat) (a0:Vector UInt8 16) (a1:Vector UInt8 16):Option (Bool):=(qcs N a0 a1).run some
def qvC (N:Nat):List (Nat×qw):=[(2,qfo N)]
def Yx (N:Nat):Ent:=smF ⟨75,[],[.x (.ba 16),.x (.ba 16)],[],[]⟩ [(.ba 16),(.ba 16)] (Bool) (fun x=>Qq N x.1 x.2.1) cs1 fun _=>qwg
theorem qa4 (N:Nat):zf Tryz.prog (Yx N):=
 zd (H:=qcq) (L:=qJ (qvC N)) (ts:=[(.ba 16),(.ba 16)]) (T:=fun x=>qcs N x.1 x.2.1) 0 qRC (qhk N) (qt (by kernel_rfl) ⟨qok N,trivial⟩) (rg0 (by kernel_rfl)) fun x=>by kernel_rfl
noncomputable def qBW:Code:=Tryz.f36.body.getD .skip
theorem qS9:FnF Tryz.prog 36 Tryz.f36 qBW:=⟨qk,by kernel_rfl,by kernel_rfl,by kernel_rfl⟩
def qdN:TH:={ live:=[(0,[1]),(1,[1,3]),(2,[1,3,10]),(3,[1,3]),(4,[1,3,4]),(5,[1,3,20]),(6,[2]),(7,[1,3,22]),(8,[1,3,5]),(9,[1,3,38]),(10,[2]),(11,[2])] }
def qkH (N:Nat):List Ent:=[Y9 N,Yx N]
theorem qib (N:Nat):qU Tryz.prog (qkH N):=⟨qci N,qa4 N,trivial⟩
abbrev Wm:=qb
abbrev QO:=Unit⊕(Int×Bool)
def JI (f:Wm):QO→Ex×TSt
 | .inl y=>(.ret,⟨0,43,[],[(2,.bc false)],[],false,[]⟩)
 | .inr y=>(.exit 0,⟨0,43,[],[(1,.p 10 [] 0),(3,xi y.1),(10,xb y.2)],[(10,.cell false (.tv qj f))],false,[]⟩)
def qsm (N:Nat):List (Nat×qw):=[]
abbrev JQ:=Int
def qhc:SP:=⟨0,43,[],[(1,.k (.p 10 [] 0)),(3,.x (.i .i64))],[(10,.cell false (.x qj))],false,[]⟩
def qrv (f:Wm) (v:JQ):TSt:=zq qhc [dv qj f,dv (.i .i64) v]
def XU (N:Nat) (o_2:qb) (v:JQ):Tree (JQ⊕QO):=
 .cond (decide (v < (((qb.R o_2).length:Nat):Int))) (
 .bind (qM (qb.R o_2) v) fun e1=>
 .bind (Jl N e1) fun r2=>
 .cond (!r2) (
 .ret (.inr (.inl ()))) <|
 .cond (decide (((0:Int)) < v)) (
 .chk (qp (v - 1)) <|
 .bind (qM (qb.R o_2) (v - 1)) fun e3=>
 .bind (qM (qb.R o_2) v) fun e4=>
 .bind (Qq N (qa.ID e3) (qa.ID e4)) fun r5=>
 .cond (!r5) (
 .ret (.inr (.inl ()))) <|
 .chk (qp (v + 1)) <|
 .ret (.inl (v + 1))) <|
 .chk (qp (v + 1)) <|
 .ret (.inl (v + 1))) <|
 .ret (.inr (.inr ((v,decide (v < (((qb.R o_2).length:Nat):Int))))))
def qg0 (N n:Nat) (f:Wm) (v:JQ):Option QO:=qQ (XU N f) some n v
theorem qr4 (N:Nat) (f:Wm) (n:Nat) (v:JQ) (y:QO) (h:qg0 N n f v=some y):LG Tryz.prog qdN 36 (qE qBW 2) (qrv f v) (JI f y):=
 zj qk (E:=qkH N) (L:=qJ (qsm N)) (st:=JI f) (g:=some) (R:=JI f) (qib N) (qt (by kernel_rfl) trivial) (rg0 (by kernel_rfl)) (fun v=>by kernel_rfl) (qP (st:=JI f) fun y=>by rcases y with _ | _<;>rfl) n v y h
def qcc (N:Nat) (o_2:qb) (s3_2:Int):Option QO:=qg0 N N o_2 s3_2
def qho (N:Nat):qw:=smL qhc [qj,(.i .i64)] QO (fun x=>qcc N x.1 x.2.1) (csS cs1) fun x=>JI x.1
theorem qqF (N:Nat):zZ Tryz.prog qdN 36 (qE qBW 2) (qho N):=zp fun x z h=>qr4 N x.1 N x.2.1 z h
def qxE (z:Bool):TV×THp:=(xb z,[])
def qdw (N:Nat) (a0:qb):Tree (Bool):=
 .bind (qcc N a0 0) fun z1=>
 .sum z1 (fun z2=>
 .ret false) fun z2=>
 .ret (decide ((((qb.R a0).length:Nat):Int)≤((10:Int))))
def Jn (N:Nat) (a0:qb):Option (Bool):=(qdw N a0).run some
def qyh (N:Nat):List (Nat×qw):=[(2,qho N)]
def Y7 (N:Nat):Ent:=smF ⟨36,[],[.x qj],[],[]⟩ [qj] (Bool) (fun x=>Jn N x.1) cs1 fun _=>qxE
theorem qcC (N:Nat):zf Tryz.prog (Y7 N):=
 zd (H:=qdN) (L:=qJ (qyh N)) (ts:=[qj]) (T:=fun x=>qdw N x.1) 0 qS9 (qib N) (qt (by kernel_rfl) ⟨qqF N,trivial⟩) (rg0 (by kernel_rfl)) fun x=>by kernel_rfl
noncomputable def qQY:Code:=Tryz.f101.body.getD .skip
theorem qQ0:FnF Tryz.prog 101 Tryz.f101 qQY:=⟨qk,by kernel_rfl,by kernel_rfl,by kernel_rfl⟩
def qwx:TH:={ live:=[(0,[1,2]),(1,[1,2]),(2,[2])],nil:=[(0,[⟨.ob 20 [2],25,(.sl 4 qB)⟩])] }
def qyP (N:Nat):List Ent:=[]
theorem qus (N:Nat):qU Tryz.prog (qyP N):=trivial
def qwI (a0:qa) (z:Unit):TV×THp:=(.tv qf a0,[])
def qdc (a0:qa):Tree (Unit):=
 .chk (qij ((qa.F a0).length) 40) <|
 .chk ((qa.F a0).length=(qa.F a0).length) <|
 .ret ()
def QX (a0:qa):Option (Unit):=(qdc a0).run some
def qw2:List (Nat×qw):=[]
def qk4:Ent:=smF ⟨101,[],[.x qf],[],[]⟩ [qf] (Unit) (fun x=>QX x.1) cs1 fun x=>qwI x.1
theorem qvF:zf Tryz.prog (qk4):=
 zd (H:=qwx) (L:=qJ (qw2)) (ts:=[qf]) (T:=fun x=>qdc x.1) 0 qQ0 (qus 0) (qt (by kernel_rfl) trivial) (rg0 (by kernel_rfl)) fun x=>by kernel_rfl
noncomputable def qP2:Code:=Tryz.f129.body.getD .skip
theorem qPU:FnF Tryz.prog 129 Tryz.f129 qP2:=⟨qk,by kernel_rfl,by kernel_rfl,by kernel_rfl⟩
def qxF:TH:={ live:=[(0,[2,3,4]),(1,[2,3,4,5]),(2,[2,3,4,9]),(3,[4]),(4,[4])] }
def qwZ (N:Nat):List Ent:=[vu]
theorem quL (N:Nat):qU Tryz.prog (qwZ N):=⟨vV,trivial⟩
def qye (z:qc):TV×THp:=(.tv qh z,[])
def qdW (a0:qc) (a1:qc):Tree (qc):=
 .bind (zN a0 a1) fun r1=>
 .cond r1 (
 .ret a1) <|
 .ret a0
def qaS (a0:qc) (a1:qc):Option (qc):=(qdW a0 a1).run some
def qyW:List (Nat×qw):=[]
def qkU:Ent:=smF ⟨129,[],[.x qh,.x qh],[],[]⟩ [qh,qh] (qc) (fun x=>qaS x.1 x.2.1) cs1 fun _=>qye
theorem qwf:zf Tryz.prog (qkU):=
 zd (H:=qxF) (L:=qJ (qyW)) (ts:=[qh,qh]) (T:=fun x=>qdW x.1 x.2.1) 0 qPU (quL 0) (qt (by kernel_rfl) trivial) (rg0 (by kernel_rfl)) fun x=>by kernel_rfl
noncomputable def qwG:Code:=Tryz.f130.body.getD .skip
theorem qPc:FnF Tryz.prog 130 Tryz.f130 qwG:=⟨qk,by kernel_rfl,by kernel_rfl,by kernel_rfl⟩
def qcG:TH:={ live:=[(0,[1,2,4]),(1,[1,2,4,6]),(2,[1,2,4,6,11]),(3,[1,2,4,6]),(4,[1,2,4,6,21]),(5,[4,5]),(6,[4,5])] }
def qjf (N:Nat):List Ent:=[]
theorem qgO (N:Nat):qU Tryz.prog (qjf N):=trivial
abbrev Xp:=qa×qe×Int
abbrev Qg:=qe⊕(Int×Bool)
def ZK (f:Xp):Qg→Ex×TSt
 | .inl y=>(.ret,⟨0,29,[],[(4,.p 40 [] 0),(5,.bc true)],[(40,.cell false (.tv qq y))],false,[]⟩)
 | .inr y=>(.exit 0,⟨0,29,[],[(1,xi f.2.2),(2,.p 20 [] 0),(4,.p 40 [] 0),(6,xi y.1),(11,xb y.2)],[(20,.cell false (.tv qf f.1)),(40,.cell false (.tv qq f.2.1))],false,[]⟩)
def qqK (N:Nat):List (Nat×qw):=[]
abbrev ZD:=Int
def qfq:SP:=⟨0,29,[],[(1,.x (.i .i64)),(2,.k (.p 20 [] 0)),(4,.k (.p 40 [] 0)),(6,.x (.i .i64))],[(20,.cell false (.x qf)),(40,.cell false (.x qq))],false,[]⟩
def qpN (f:Xp) (v:ZD):TSt:=zq qfq [dv qf f.1,dv qq f.2.1,dv (.i .i64) f.2.2,dv (.i .i64) v]
def ZJ (N:Nat) (o_2:qa) (o_2_2:qe) (s1_2:Int) (v:ZD):Tree (ZD⊕Qg):=
 .cond (decide (v < (((qa.F o_2).length:Nat):Int))) (
 .bind (qM (qa.F o_2) v) fun e1=>
 .cond (decide ((qd.No e1)=s1_2)) (
 .bind (qM (qa.F o_2) v) fun e2=>
 .ret (.inr (.inl (qd.C e2)))) <|
 .chk (qp (v + 1)) <|
 .ret (.inl (v + 1))) <|
 .ret (.inr (.inr ((v,decide (v < (((qa.F o_2).length:Nat):Int))))))
def qfp (N n:Nat) (f:Xp) (v:ZD):Option Qg:=qQ (ZJ N f.1 f.2.1 f.2.2) some n v
theorem qqk (N:Nat) (f:Xp) (n:Nat) (v:ZD) (y:Qg) (h:qfp N n f v=some y):LG Tryz.prog qcG 130 (qE qwG 2) (qpN f v) (ZK f y):=
 zj qk (E:=qjf N) (L:=qJ (qqK N)) (st:=ZK f) (g:=some) (R:=ZK f) (qgO N) (qt (by kernel_rfl) trivial) (rg0 (by kernel_rfl)) (fun v=>by kernel_rfl) (qP (st:=ZK f) fun y=>by rcases y with _ | _<;>rfl) n v y h
def qbe (N:Nat) (o_2:qa) (o_2_2:qe) (s1_2:Int) (s6_2:Int):Option Qg:=qfp N N (o_2,o_2_2,s1_2) s6_2
def qgb (N:Nat):qw:=smL qfq [qf,qq,(.i .i64),(.i .i64)] Qg (fun x=>qbe N x.1 x.2.1 x.2.2.1 x.2.2.2.1) (csS cs1) fun x=>ZK (x.1,x.2.1,x.2.2.1)
theorem qn5 (N:Nat):zZ Tryz.prog qcG 130 (qE qwG 2) (qgb N):=zp fun x z h=>qqk N (x.1,x.2.1,x.2.2.1) N x.2.2.2.1 z h
def qvN (z:qe×Bool):TV×THp:=(.tup [.tv qq (z.1:qe),xb z.2],[])
def qcF (N:Nat) (a0:qa) (a1:Int):Tree (qe×Bool):=
 .bind (qbe N a0 (qe.mk (qc.mk 0 0) []) a1 0) fun z1=>
 .sum z1 (fun z2=>
 .ret (z2,true)) fun z2=>
 .ret (qe.mk (qc.mk 0 0) [],false)
def WJ (N:Nat) (a0:qa) (a1:Int):Option (qe×Bool):=(qcF N a0 a1).run some
def qwq (N:Nat):List (Nat×qw):=[(2,qgb N)]
def qjo (N:Nat):Ent:=smF ⟨130,[],[.x qf,.x (.i .i64)],[],[]⟩ [qf,(.i .i64)] (qe×Bool) (fun x=>WJ N x.1 x.2.1) cs1 fun _=>qvN
theorem quS (N:Nat):zf Tryz.prog (qjo N):=
 zd (H:=qcG) (L:=qJ (qwq N)) (ts:=[qf,(.i .i64)]) (T:=fun x=>qcF N x.1 x.2.1) 0 qPc (qgO N) (qt (by kernel_rfl) ⟨qn5 N,trivial⟩) (rg0 (by kernel_rfl)) fun x=>by kernel_rfl
noncomputable def qk5:Code:=Tryz.f104.body.getD .skip
theorem qPY:FnF Tryz.prog 104 Tryz.f104 qk5:=⟨qk,by kernel_rfl,by kernel_rfl,by kernel_rfl⟩
def ZS:TH:={ live:=[(0,[0]),(1,[0,3]),(2,[0,3]),(3,[0,3,15]),(4,[0,3]),(5,[3,4]),(6,[3,4,5]),(7,[3,4,5,6]),(8,[3,4,5,6,24]),(9,[3,4,5,6]),(10,[3,4,5,6]),(11,[3,4,5,6]),(12,[2])] }
def KE (N:Nat):List Ent:=[]
theorem Yj (N:Nat):qU Tryz.prog (KE N):=trivial
abbrev JZ:=List UInt8
abbrev vi:=List UInt8×Bool
def Qw (f:JZ) (y:vi):Ex×TSt:=(.exit 0,⟨0,38,[],[(0,.tv .bl f),(3,.v 80 y.1.length),(15,xb y.2)],[(80,.vec false 1 .bl (y.1:List UInt8))],false,[]⟩)
def qmg (N:Nat):List (Nat×qw):=[]
abbrev QC:=List UInt8
def qcP:SP:=⟨0,38,[],[(0,.x .bl),(3,.vs 80)],[(80,.vec false 1)],false,[]⟩
def qmw (f:JZ) (v:QC):TSt:=zq qcP [dv .bl v,dv .bl f]
def Qy (N:Nat) (s0_3:List UInt8) (v:QC):Tree (QC⊕vi):=
 .chk ((64:Int)≠0) <|
 .cond (!decide ((((v.length:Nat):Int).tmod 64)=56)) (
 .chk (zU v.length v.length ((v++[(UInt8.ofNat 0)]).length) 1) <|
 .ret (.inl (v++[(UInt8.ofNat 0)]))) <|
 .ret (.inr (v,!decide ((((v.length:Nat):Int).tmod 64)=56)))
def qcQ (N n:Nat) (f:JZ) (v:QC):Option vi:=qQ (Qy N f) some n v
theorem ql7 (N:Nat) (f:JZ) (n:Nat) (v:QC) (y:vi) (h:qcQ N n f v=some y):LG Tryz.prog ZS 104 (qE qk5 3) (qmw f v) (Qw f y):=
 zj qk (E:=KE N) (L:=qJ (qmg N)) (st:=Qw f) (g:=some) (R:=Qw f) (Yj N) (qt (by kernel_rfl) trivial) (rg0 (by kernel_rfl)) (fun v=>by kernel_rfl) (qP (st:=Qw f) fun y=>by rfl) n v y h
def VS (N:Nat) (s0_3:List UInt8) (o_3:List UInt8):Option vi:=qcQ N N s0_3 o_3
def qcZ (N:Nat):qw:=smL qcP [.bl,.bl] vi (fun x=>VS N x.2.1 x.1) cs1 fun x=>Qw x.2.1
theorem qle (N:Nat):zZ Tryz.prog ZS 104 (qE qk5 3) (qcZ N):=zp fun x z h=>ql7 N x.2.1 N x.1 z h
abbrev J1:=Int
abbrev vm:=List UInt8×Int×Int×Bool
def QB (f:J1) (y:vm):Ex×TSt:=(.exit 2,⟨0,38,[],[(3,.v 80 y.1.length),(4,.tv (.i .u64) f),(5,.tv (.i .u64) (y.2.1:Int)),(6,xi y.2.2.1),(24,xb y.2.2.2)],[(80,.vec false 1 .bl (y.1:List UInt8))],false,[]⟩)
def qmD (N:Nat):List (Nat×qw):=[]
abbrev QD:=List UInt8×Int×Int
def qcU:SP:=⟨0,38,[],[(3,.vs 80),(4,.x (.i .u64)),(5,.x (.i .u64)),(6,.x (.i .i64))],[(80,.vec false 1)],false,[]⟩
def qmh (f:J1) (v:QD):TSt:=zq qcU [dv .bl v.1,dv (.i .u64) f,dv (.i .u64) v.2.1,dv (.i .i64) v.2.2]
def JY (N:Nat) (s4_8:Int) (v:QD):Tree (QD⊕vm):=
 .cond (decide (v.2.2 < ((8:Int)))) (
 .chk (v.2.1≠0) <|
 .chk ((256:Int)≠0) <|
 let w1:Int:=IntKind.u8.wrap ((IntKind.u64.wrap (s4_8.tdiv v.2.1)).tmod 256)
 .chk (inB w1) <|
 .chk (zU v.1.length v.1.length ((v.1++[UInt8.ofNat w1.toNat]).length) 1) <|
 .chk ((256:Int)≠0) <|
 .chk (qp (v.2.2 + 1)) <|
 .ret (.inl (v.1++[UInt8.ofNat w1.toNat],IntKind.u64.wrap (v.2.1.tdiv 256),v.2.2 + 1))) <|
 .ret (.inr (v.1,v.2.1,v.2.2,decide (v.2.2 < ((8:Int)))))
def qcJ (N n:Nat) (f:J1) (v:QD):Option vm:=qQ (JY N f) some n v
theorem qmv (N:Nat) (f:J1) (n:Nat) (v:QD) (y:vm) (h:qcJ N n f v=some y):LG Tryz.prog ZS 104 (qE qk5 8) (qmh f v) (QB f y):=
 zj qk (E:=KE N) (L:=qJ (qmD N)) (st:=QB f) (g:=some) (R:=QB f) (Yj N) (qt (by kernel_rfl) trivial) (rg0 (by kernel_rfl)) (fun v=>by kernel_rfl) (qP (st:=QB f) fun y=>by rfl) n v y h
def YI (N:Nat) (s4_8:Int) (o_8:List UInt8) (s5_8:Int) (s6_8:Int):Option vm:=qcJ N N s4_8 (o_8,s5_8,s6_8)
def qcI (N:Nat):qw:=smL qcU [.bl,(.i .u64),(.i .u64),(.i .i64)] vm (fun x=>YI N x.2.1 x.1 x.2.2.1 x.2.2.2.1) cs1 fun x=>QB x.2.1
theorem qls (N:Nat):zZ Tryz.prog ZS 104 (qE qk5 8) (qcI N):=zp fun x z h=>qmv N x.2.1 N (x.1,x.2.2.1,x.2.2.2.1) z h
def qpj (z:List UInt8):TV×THp:=(.tv .bl z,[])
def Kn (N:Nat) (a0:List UInt8):Tree (List UInt8):=
 .chk (qij a0.length 1) <|
 .chk (zU a0.length a0.length ((a0++[(UInt8.ofNat 128)]).length) 1) <|
 .bind (zV [((a0++[(UInt8.ofNat 128)]).length,(a0++[(UInt8.ofNat 128)]).length)] (VS N a0 (a0++[(UInt8.ofNat 128)]))) fun z1=>
 .chk (qp (((8:Int)) * ((a0.length:Nat):Int))) <|
 let w2:Int:=IntKind.u64.wrap (((8:Int)) * ((a0.length:Nat):Int))
 .bind (zV [(z1.1.length,z1.1.length)] (YI N w2 z1.1 72057594037927936 0)) fun z3=>
 .chk (z3.1.length=z3.1.length) <|
 .ret z3.1
def WW (N:Nat) (a0:List UInt8):Option (List UInt8):=(Kn N a0).run some
def qqe (N:Nat):List (Nat×qw):=[(3,qcZ N),(8,qcI N)]
def qf5 (N:Nat):Ent:=smF ⟨104,[],[.x .bl],[],[]⟩ [.bl] (List UInt8) (fun x=>WW N x.1) cs1 fun _=>qpj
theorem qot (N:Nat):zf Tryz.prog (qf5 N):=
 zd (H:=ZS) (L:=qJ (qqe N)) (ts:=[.bl]) (T:=fun x=>Kn N x.1) 0 qPY (Yj N) (qt (by kernel_rfl) ⟨qle N,qls N,trivial⟩) (rg0 (by kernel_rfl)) fun x=>by kernel_rfl
noncomputable def qQt:Code:=Tryz.f106.body.getD .skip
theorem qPZ:FnF Tryz.prog 106 Tryz.f106 qQt:=⟨qk,by kernel_rfl,by kernel_rfl,by kernel_rfl⟩
def qr8:TH:={ live:=[(0,[0,1]),(1,[4])] }
def qsR (N:Nat):List Ent:=[]
theorem qoA (N:Nat):qU Tryz.prog (qsR N):=trivial
def qr2 (z:Int):TV×THp:=(.tv (.i .u32) z,[])
def qab (a0:Int) (a1:Int):Tree (Int):=
 .chk (0≤a1) <|
 .chk (0≤(qpG .u32 ((32:Int)) a1)) <|
 let w1:Int:=qBg .u32 a0 (min (qpG .u32 ((32:Int)) a1).toNat 32)
 .ret (uOr .u32 (Jm a0 (min a1.toNat 32)) w1)
def ze (a0:Int) (a1:Int):Option (Int):=(qab a0 a1).run some
def qsu:List (Nat×qw):=[]
def qag:Ent:=smF ⟨106,[],[.x (.i .u32),.x (.i .u32)],[],[]⟩ [(.i .u32),(.i .u32)] (Int) (fun x=>ze x.1 x.2.1) cs1 fun _=>qr2
theorem qf2:zf Tryz.prog (qag):=
 zd (H:=qr8) (L:=qJ (qsu)) (ts:=[(.i .u32),(.i .u32)]) (T:=fun x=>qab x.1 x.2.1) 0 qPZ (qoA 0) (qt (by kernel_rfl) trivial) (rg0 (by kernel_rfl)) fun x=>by kernel_rfl
noncomputable def qkN:Code:=Tryz.f105.body.getD .skip
theorem qPW:FnF Tryz.prog 105 Tryz.f105 qkN:=⟨qk,by kernel_rfl,by kernel_rfl,by kernel_rfl⟩
def J5:TH:={ live:=[(0,[0]),(1,[0,3]),(2,[0,3,4]),(3,[0,3,4,11]),(4,[0,3,4]),(5,[0,3,4]),(6,[3,5]),(7,[3,5,51]),(8,[3,5]),(9,[3,5,6]),(10,[3,5,6,7]),(11,[3,5,7,8]),(12,[3,5,8,9]),(13,[3,5]),(14,[2])],nil:=[(1,[⟨.sl 3,35,(.sl 1 (.i .u32))⟩])] }
def qa5 (N:Nat):List Ent:=[qag]
theorem Ks (N:Nat):qU Tryz.prog (qa5 N):=⟨qf2,trivial⟩
abbrev VO:=List UInt8
abbrev vL:=List Int×Int×Bool
def Za (f:VO) (y:vL):Ex×TSt:=(.exit 0,⟨0,99,[],[(0,.tv .bl f),(3,.v 35 y.1.length),(4,xi y.2.1),(11,xb y.2.2)],[(35,.vec false 1 (.sl 1 (.i .u32)) (y.1:List Int))],false,[]⟩)
def qox (N:Nat):List (Nat×qw):=[]
abbrev Zf:=List Int×Int
def qeX:SP:=⟨0,99,[],[(0,.x .bl),(3,.vs 35),(4,.x (.i .i64))],[(35,.vec false 1)],false,[]⟩
def qoj (f:VO) (v:Zf):TSt:=zq qeX [dv (.sl 1 (.i .u32)) v.1,dv .bl f,dv (.i .i64) v.2]
def Zi (N:Nat) (s0_3:List UInt8) (v:Zf):Tree (Zf⊕vL):=
 .cond (decide (v.2 < ((16:Int)))) (
 .chk (qp (((4:Int)) * v.2)) <|
 .bind (qM s0_3 (((4:Int)) * v.2)) fun e1=>
 let w2:Int:=IntKind.u32.wrap ((e1.toNat:Nat):Int)
 .chk (qp (((4:Int)) * v.2)) <|
 .chk (qp ((((4:Int)) * v.2) + 1)) <|
 .bind (qM s0_3 ((((4:Int)) * v.2) + 1)) fun e3=>
 let w4:Int:=IntKind.u32.wrap ((e3.toNat:Nat):Int)
 let w5:Int:=vd .u32 (qnY .u32 ((16777216:Int)) w2) (qnY .u32 ((65536:Int)) w4)
 .chk (qp (((4:Int)) * v.2)) <|
 .chk (qp ((((4:Int)) * v.2) + 2)) <|
 .bind (qM s0_3 ((((4:Int)) * v.2) + 2)) fun e6=>
 let w7:Int:=IntKind.u32.wrap ((e6.toNat:Nat):Int)
 let w8:Int:=vd .u32 w5 (qnY .u32 ((256:Int)) w7)
 .chk (qp (((4:Int)) * v.2)) <|
 .chk (qp ((((4:Int)) * v.2) + 3)) <|
 .bind (qM s0_3 ((((4:Int)) * v.2) + 3)) fun e9=>
 let w10:Int:=IntKind.u32.wrap ((e9.toNat:Nat):Int)
 .chk (zU v.1.length v.1.length ((v.1++[vd .u32 w8 w10]).length) 4) <|
 .chk (qp (v.2 + 1)) <|
 .ret (.inl (v.1++[vd .u32 w8 w10],v.2 + 1))) <|
 .ret (.inr (v.1,v.2,decide (v.2 < ((16:Int)))))
def qeJ (N n:Nat) (f:VO) (v:Zf):Option vL:=qQ (Zi N f) some n v
theorem qn1 (N:Nat) (f:VO) (n:Nat) (v:Zf) (y:vL) (h:qeJ N n f v=some y):LG Tryz.prog J5 105 (qE qkN 3) (qoj f v) (Za f y):=
 zj qk (E:=qa5 N) (L:=qJ (qox N)) (st:=Za f) (g:=some) (R:=Za f) (Ks N) (qt (by kernel_rfl) trivial) (rg0 (by kernel_rfl)) (fun v=>by kernel_rfl) (qP (st:=Za f) fun y=>by rfl) n v y h
def Jt (N:Nat) (s0_3:List UInt8) (o_3:List Int) (s4_3:Int):Option vL:=qeJ N N s0_3 (o_3,s4_3)
def qeO (N:Nat):qw:=smL qeX [(.sl 1 (.i .u32)),.bl,(.i .i64)] vL (fun x=>Jt N x.2.1 x.1 x.2.2.1) cs1 fun x=>Za x.2.1
theorem qnW (N:Nat):zZ Tryz.prog J5 105 (qE qkN 3) (qeO N):=zp fun x z h=>qn1 N x.2.1 N (x.1,x.2.2.1) z h
abbrev VQ:=Unit
abbrev vQ:=List Int×Int×Bool
def Ze (f:VQ) (y:vQ):Ex×TSt:=(.exit 2,⟨0,99,[],[(3,.v 35 y.1.length),(5,xi y.2.1),(51,xb y.2.2)],[(35,.vec false 1 (.sl 1 (.i .u32)) (y.1:List Int))],false,[]⟩)
def qn9 (N:Nat):List (Nat×qw):=[]
abbrev Zg:=List Int×Int
def qeZ:SP:=⟨0,99,[],[(3,.vs 35),(5,.x (.i .i64))],[(35,.vec false 1)],false,[]⟩
def qn3 (f:VQ) (v:Zg):TSt:=zq qeZ [dv (.sl 1 (.i .u32)) v.1,dv (.i .i64) v.2]
def Zj (N:Nat) (v:Zg):Tree (Zg⊕vQ):=
 .cond (decide (v.2 < ((64:Int)))) (
 .chk (qp (v.2 - 15)) <|
 .chk (0≤(v.2 - 15)∧(v.2 - 15) < ((v.1.length:Nat):Int)) <|
 .bind (jy v.1 v.1.length ((v.2 - 15).toNat)) fun e1=>
 .chk (qp (v.2 - 2)) <|
 .chk (0≤(v.2 - 2)∧(v.2 - 2) < ((v.1.length:Nat):Int)) <|
 .bind (jy v.1 v.1.length ((v.2 - 2).toNat)) fun e2=>
 .bind (ze e1 7) fun r3=>
 .bind (ze e1 18) fun r4=>
 .chk (0≤(3:Int)) <|
 .bind (ze e2 17) fun r5=>
 .bind (ze e2 19) fun r6=>
 .chk (0≤(10:Int)) <|
 let w7:Int:=Xa .u32 (Xa .u32 r5 r6) (Jm e2 10)
 .chk (qp (v.2 - 16)) <|
 .chk (0≤(v.2 - 16)∧(v.2 - 16) < ((v.1.length:Nat):Int)) <|
 .bind (jy v.1 v.1.length ((v.2 - 16).toNat)) fun e8=>
 let w9:Int:=vd .u32 e8 (Xa .u32 (Xa .u32 r3 r4) (Jm e1 3))
 .chk (qp (v.2 - 7)) <|
 .chk (0≤(v.2 - 7)∧(v.2 - 7) < ((v.1.length:Nat):Int)) <|
 .bind (jy v.1 v.1.length ((v.2 - 7).toNat)) fun e10=>
 .chk (zU v.1.length v.1.length ((v.1++[vd .u32 (vd .u32 w9 e10) w7]).length) 4) <|
 .chk (qp (v.2 + 1)) <|
 .ret (.inl (v.1++[vd .u32 (vd .u32 w9 e10) w7],v.2 + 1))) <|
 .ret (.inr (v.1,v.2,decide (v.2 < ((64:Int)))))
def qeP (N n:Nat) (f:VQ) (v:Zg):Option vQ:=qQ (Zj N) some n v
theorem qod (N:Nat) (f:VQ) (n:Nat) (v:Zg) (y:vQ) (h:qeP N n f v=some y):LG Tryz.prog J5 105 (qE qkN 7) (qn3 f v) (Ze f y):=
 zj qk (E:=qa5 N) (L:=qJ (qn9 N)) (st:=Ze f) (g:=some) (R:=Ze f) (Ks N) (qt (by kernel_rfl) trivial) (rg0 (by kernel_rfl)) (fun v=>by kernel_rfl) (qP (st:=Ze f) fun y=>by rfl) n v y h
def qaf (N:Nat) (o_7:List Int) (s5_7:Int):Option vQ:=qeP N N () (o_7,s5_7)
def qeE (N:Nat):qw:=smL qeZ [(.sl 1 (.i .u32)),(.i .i64)] vQ (fun x=>qaf N x.1 x.2.1) cs1 fun x=>Ze ()
theorem qnb (N:Nat):zZ Tryz.prog J5 105 (qE qkN 7) (qeE N):=zp fun x z h=>qod N () N (x.1,x.2.1) z h
def qtq (z:List Int):TV×THp:=(.tv (.sl 1 (.i .u32)) z,[])
def qa1 (N:Nat) (a0:List UInt8):Tree (List Int):=
 .bind (zV [(([]:List Int).length,0)] (Jt N a0 [] 0)) fun z1=>
 .bind (zV [(z1.1.length,z1.1.length)] (qaf N z1.1 16)) fun z2=>
 .chk (z2.1.length=z2.1.length) <|
 .ret z2.1
def YX (N:Nat) (a0:List UInt8):Option (List Int):=(qa1 N a0).run some
def qsU (N:Nat):List (Nat×qw):=[(3,qeO N),(7,qeE N)]
def qie (N:Nat):Ent:=smF ⟨105,[],[.x .bl],[],[]⟩ [.bl] (List Int) (fun x=>YX N x.1) cs1 fun _=>qtq
theorem qss (N:Nat):zf Tryz.prog (qie N):=
 zd (H:=J5) (L:=qJ (qsU N)) (ts:=[.bl]) (T:=fun x=>qa1 N x.1) 0 qPW (Ks N) (qt (by kernel_rfl) ⟨qnW N,qnb N,trivial⟩) (rg0 (by kernel_rfl)) fun x=>by kernel_rfl
noncomputable def qQc:Code:=Tryz.f107.body.getD .skip
theorem qQn:FnF Tryz.prog 107 Tryz.f107 qQc:=⟨qk,by kernel_rfl,by kernel_rfl,by kernel_rfl⟩
def qCg:TH:={ live:=[(1,[0])] }
def qCt (N:Nat):List Ent:=[]
theorem qxR (N:Nat):qU Tryz.prog (qCt N):=trivial
def qBp (z:Unit):TV×THp:=(.tv (.sl 1 (.i .u32)) ([1116352408,1899447441,3049323471,3921009573,961987163,1508970993,2453635748,2870763221,3624381080,310598401,607225278,1426881987,1925078388,2162078206,2614888103,3248222580,3835390401,4022224774,264347078,604807628,770255983,1249150122,1555081692,1996064986,2554220882,2821834349,2952996808,3210313671,3336571891,3584528711,113926993,338241895,666307205,773529912,1294757372,1396182291,1695183700,1986661051,2177026350,2456956037,2730485921,2820302411,3259730800,3345764771,3516065817,3600352804,4094571909,275423344,430227734,506948616,659060556,883997877,958139571,1322822218,1537002063,1747873779,1955562222,2024104815,2227730452,2361852424,2428436474,2756734187,3204031479,3329325298]:List Int),[])
def qnI:Tree (Unit):=
 .ret ()
def qen:Option (Unit):=(qnI).run some
def qB3:List (Nat×qw):=[]
def qmQ:Ent:=smF ⟨107,[],[],[],[]⟩ [] (Unit) (fun x=>qen) cs1 fun _=>qBp
theorem qzS:zf Tryz.prog (qmQ):=
 zd (H:=qCg) (L:=qJ (qB3)) (ts:=[]) (T:=fun x=>qnI) 0 qQn (qxR 0) (qt (by kernel_rfl) trivial) (rg0 (by kernel_rfl)) fun x=>by kernel_rfl
noncomputable def Wr:Code:=Tryz.f81.body.getD .skip
theorem qTV:FnF Tryz.prog 81 Tryz.f81 Wr:=⟨qk,by kernel_rfl,by kernel_rfl,by kernel_rfl⟩
def ji:TH:={ live:=[(0,[0,2]),(1,[0,2,3]),(2,[2,3,4]),(3,[2,3,4,5]),(4,[2,3,4,5,24]),(5,[2,3,4,5]),(6,[2,3,4,5,6]),(7,[2,3,4,5,6,7]),(8,[2,3,4,5,6,7,8]),(9,[2,3,4,5,6,7,8,36]),(10,[2,3,4,5,6,7,8]),(11,[2,3,4,5,6,7,8,9]),(12,[2,3,4,5,6,7,8,9,10]),(13,[2,3,4,5,6,7,8,9,10,11]),(14,[2,3,4,5,6,7,8,9,10,11,12]),(15,[2,3,4,5,6,7,8]),(16,[2,3,4,5,7,13]),(17,[2,3,4,5,7,13,132]),(18,[2,3,4,5,7,13]),(19,[2,3,4,5,7,13]),(20,[2,3,14]),(21,[2,3,14,15]),(22,[2,3,14,15,149]),(23,[2,3,14,15]),(24,[2,3,14,15,16]),(25,[2,3,14,15,16,17]),(26,[2,3,14,15,16,17,160]),(27,[2,3,14,15,16,17]),(28,[2,3,14,15,16,17]),(29,[2,3,14,15]),(30,[2])],vecs:=[18] }
def QU (N:Nat):List Ent:=[qf5 N,qie N,qag,qmQ]
theorem vT (N:Nat):qU Tryz.prog (QU N):=⟨qot N,qss N,qf2,qzS,trivial⟩
abbrev jz:=List Int×List Int×Vector UInt8 32×Nat×List UInt8×Int×List Int
abbrev jk:=List Int×Int×Bool
def jE (f:jz) (y:jk):Ex×TSt:=(.exit 2,⟨0,171,[],[(2,.p 20 [] 0),(3,.v 180 f.2.2.2.1),(4,.tv .bl f.2.2.2.2.1),(5,xi f.2.2.2.2.2.1),(6,.tv (.sl 1 (.i .u32)) f.2.2.2.2.2.2),(7,.tv (.sl 1 (.i .u32)) (y.1:List Int)),(8,xi y.2.1),(36,xb y.2.2)],[(20,.cell false (.tv (.ba 32) f.2.2.1)),(180,.vec false 1 (.sl 1 (.i .u32)) f.1)],false,[]⟩)
def qhh (N:Nat):List (Nat×qw):=[]
abbrev vE:=List Int×Int
def qnN:SP:=⟨0,171,[],[(2,.k (.p 20 [] 0)),(3,.v 180),(4,.x .bl),(5,.x (.i .i64)),(6,.x (.sl 1 (.i .u32))),(7,.x (.sl 1 (.i .u32))),(8,.x (.i .i64))],[(20,.cell false (.x (.ba 32))),(180,.vec false 1)],false,[]⟩
def qdp (f:jz) (v:vE):TSt:=zq qnN [dv (.sl 1 (.i .u32)) f.1,dv (.ba 32) f.2.2.1,dv .nat f.2.2.2.1,dv .bl f.2.2.2.2.1,dv (.i .i64) f.2.2.2.2.2.1,dv (.sl 1 (.i .u32)) f.2.2.2.2.2.2,dv (.sl 1 (.i .u32)) v.1,dv (.i .i64) v.2]
def jU (N:Nat) (o_9:List Int) (o_9_2:List Int) (o_9_3:Vector UInt8 32) (s3_9:Nat) (s4_9:List UInt8) (s5_9:Int) (s6_9:List Int) (v:vE):Tree (vE⊕jk):=
 .cond (decide (v.2 < ((64:Int)))) (
 .bind (qM v.1 4) fun e1=>
 .bind (qM v.1 0) fun e2=>
 .bind (qM v.1 7) fun e3=>
 .bind (ze e1 6) fun r4=>
 .bind (ze e1 11) fun r5=>
 .bind (ze e1 25) fun r6=>
 let w7:Int:=vd .u32 e3 (Xa .u32 (Xa .u32 r4 r5) r6)
 .bind (qM v.1 5) fun e8=>
 .bind (qM v.1 6) fun e9=>
 let w10:Int:=Ko .u32 (qpG .u32 ((4294967295:Int)) e1) e9
 let w11:Int:=vd .u32 w7 (uOr .u32 (Ko .u32 e1 e8) w10)
 .bind (qen) fun r12=>
 .bind (qM ([1116352408,1899447441,3049323471,3921009573,961987163,1508970993,2453635748,2870763221,3624381080,310598401,607225278,1426881987,1925078388,2162078206,2614888103,3248222580,3835390401,4022224774,264347078,604807628,770255983,1249150122,1555081692,1996064986,2554220882,2821834349,2952996808,3210313671,3336571891,3584528711,113926993,338241895,666307205,773529912,1294757372,1396182291,1695183700,1986661051,2177026350,2456956037,2730485921,2820302411,3259730800,3345764771,3516065817,3600352804,4094571909,275423344,430227734,506948616,659060556,883997877,958139571,1322822218,1537002063,1747873779,1955562222,2024104815,2227730452,2361852424,2428436474,2756734187,3204031479,3329325298]:List Int) v.2) fun e13=>
 .bind (qM s6_9 v.2) fun e14=>
 .bind (ze e2 2) fun r15=>
 .bind (ze e2 13) fun r16=>
 .bind (ze e2 22) fun r17=>
 .bind (qM v.1 1) fun e18=>
 .bind (qM v.1 2) fun e19=>
 let w20:Int:=uOr .u32 (Ko .u32 e2 e18) (Ko .u32 e2 e19)
 .bind (qM v.1 1) fun e21=>
 .bind (qM v.1 2) fun e22=>
 let w23:Int:=vd .u32 (Xa .u32 (Xa .u32 r15 r16) r17) (uOr .u32 w20 (Ko .u32 e21 e22))
 let w24:Int:=vd .u32 (vd .u32 (vd .u32 w11 e13) e14) w23
 .bind (qM v.1 1) fun e25=>
 .bind (qM v.1 2) fun e26=>
 .bind (qM v.1 3) fun e27=>
 let w28:Int:=vd .u32 e27 (vd .u32 (vd .u32 w11 e13) e14)
 .bind (qM v.1 5) fun e29=>
 .bind (qM v.1 6) fun e30=>
 .chk (qp (v.2 + 1)) <|
 .ret (.inl ([w24,e2,e25,e26,w28,e1,e29,e30],v.2 + 1))) <|
 .ret (.inr (v.1,v.2,decide (v.2 < ((64:Int)))))
def qc8 (N n:Nat) (f:jz) (v:vE):Option jk:=qQ (jU N f.1 f.2.1 f.2.2.1 f.2.2.2.1 f.2.2.2.2.1 f.2.2.2.2.2.1 f.2.2.2.2.2.2) some n v
theorem qna (N:Nat) (f:jz) (n:Nat) (v:vE) (y:jk) (h:qc8 N n f v=some y):LG Tryz.prog ji 81 (qE (qE Wr 4) 9) (qdp f v) (jE f y):=
 zj qk (E:=QU N) (L:=qJ (qhh N)) (st:=jE f) (g:=some) (R:=jE f) (vT N) (qt (by kernel_rfl) trivial) (rg0 (by kernel_rfl)) (fun v=>by kernel_rfl) (qP (st:=jE f) fun y=>by rfl) n v y h
abbrev JJ:=Unit
def qhG:SP:=⟨0,171,[],[(2,.k (.p 20 [] 0)),(3,.v 180),(4,.x .bl),(5,.x (.i .i64)),(6,.x (.sl 1 (.i .u32))),(7,.vs 340),(8,.k (.ic .i64 0))],[(20,.cell false (.x (.ba 32))),(180,.vec false 1),(340,.vec false 1)],false,[]⟩
def qsr (f:jz) (v:JJ):TSt:=zq qhG [dv (.sl 1 (.i .u32)) f.1,dv (.sl 1 (.i .u32)) f.2.1,dv (.ba 32) f.2.2.1,dv .nat f.2.2.2.1,dv .bl f.2.2.2.2.1,dv (.i .i64) f.2.2.2.2.2.1,dv (.sl 1 (.i .u32)) f.2.2.2.2.2.2]
abbrev K8:=vE⊕jk
def Ju (N:Nat) (o_9:List Int) (o_9_2:List Int) (o_9_3:Vector UInt8 32) (s3_9:Nat) (s4_9:List UInt8) (s5_9:Int) (s6_9:List Int) (v:JJ):Tree (JJ⊕K8):=
 .chk (0≤(4:Int)∧(4:Int) < ((o_9_2.length:Nat):Int)) <|
 .bind (jy o_9_2 o_9_2.length 4) fun e1=>
 .chk (0≤(0:Int)∧(0:Int) < ((o_9_2.length:Nat):Int)) <|
 .bind (jy o_9_2 o_9_2.length 0) fun e2=>
 .chk (0≤(7:Int)∧(7:Int) < ((o_9_2.length:Nat):Int)) <|
 .bind (jy o_9_2 o_9_2.length 7) fun e3=>
 .bind (ze e1 6) fun r4=>
 .bind (ze e1 11) fun r5=>
 .bind (ze e1 25) fun r6=>
 let w7:Int:=vd .u32 e3 (Xa .u32 (Xa .u32 r4 r5) r6)
 .chk (0≤(5:Int)∧(5:Int) < ((o_9_2.length:Nat):Int)) <|
 .bind (jy o_9_2 o_9_2.length 5) fun e8=>
 .chk (0≤(6:Int)∧(6:Int) < ((o_9_2.length:Nat):Int)) <|
 .bind (jy o_9_2 o_9_2.length 6) fun e9=>
 let w10:Int:=Ko .u32 (qpG .u32 ((4294967295:Int)) e1) e9
 let w11:Int:=vd .u32 w7 (uOr .u32 (Ko .u32 e1 e8) w10)
 .bind (qen) fun r12=>
 .bind (qM ([1116352408,1899447441,3049323471,3921009573,961987163,1508970993,2453635748,2870763221,3624381080,310598401,607225278,1426881987,1925078388,2162078206,2614888103,3248222580,3835390401,4022224774,264347078,604807628,770255983,1249150122,1555081692,1996064986,2554220882,2821834349,2952996808,3210313671,3336571891,3584528711,113926993,338241895,666307205,773529912,1294757372,1396182291,1695183700,1986661051,2177026350,2456956037,2730485921,2820302411,3259730800,3345764771,3516065817,3600352804,4094571909,275423344,430227734,506948616,659060556,883997877,958139571,1322822218,1537002063,1747873779,1955562222,2024104815,2227730452,2361852424,2428436474,2756734187,3204031479,3329325298]:List Int) 0) fun e13=>
 .bind (qM s6_9 0) fun e14=>
 .bind (ze e2 2) fun r15=>
 .bind (ze e2 13) fun r16=>
 .bind (ze e2 22) fun r17=>
 .chk (0≤(1:Int)∧(1:Int) < ((o_9_2.length:Nat):Int)) <|
 .bind (jy o_9_2 o_9_2.length 1) fun e18=>
 .chk (0≤(2:Int)∧(2:Int) < ((o_9_2.length:Nat):Int)) <|
 .bind (jy o_9_2 o_9_2.length 2) fun e19=>
 let w20:Int:=uOr .u32 (Ko .u32 e2 e18) (Ko .u32 e2 e19)
 .chk (0≤(1:Int)∧(1:Int) < ((o_9_2.length:Nat):Int)) <|
 .bind (jy o_9_2 o_9_2.length 1) fun e21=>
 .chk (0≤(2:Int)∧(2:Int) < ((o_9_2.length:Nat):Int)) <|
 .bind (jy o_9_2 o_9_2.length 2) fun e22=>
 let w23:Int:=vd .u32 (Xa .u32 (Xa .u32 r15 r16) r17) (uOr .u32 w20 (Ko .u32 e21 e22))
 let w24:Int:=vd .u32 (vd .u32 (vd .u32 w11 e13) e14) w23
 .chk (0≤(1:Int)∧(1:Int) < ((o_9_2.length:Nat):Int)) <|
 .bind (jy o_9_2 o_9_2.length 1) fun e25=>
 .chk (0≤(2:Int)∧(2:Int) < ((o_9_2.length:Nat):Int)) <|
 .bind (jy o_9_2 o_9_2.length 2) fun e26=>
 .chk (0≤(3:Int)∧(3:Int) < ((o_9_2.length:Nat):Int)) <|
 .bind (jy o_9_2 o_9_2.length 3) fun e27=>
 let w28:Int:=vd .u32 e27 (vd .u32 (vd .u32 w11 e13) e14)
 .chk (0≤(5:Int)∧(5:Int) < ((o_9_2.length:Nat):Int)) <|
 .bind (jy o_9_2 o_9_2.length 5) fun e29=>
 .chk (0≤(6:Int)∧(6:Int) < ((o_9_2.length:Nat):Int)) <|
 .bind (jy o_9_2 o_9_2.length 6) fun e30=>
 .ret (.inr (.inl ([w24,e2,e25,e26,w28,e1,e29,e30],1)))
def qaj (N n:Nat) (f:jz):K8→Option jk
 | .inl w=>qc8 N n f w
 | .inr w=>some w
def qrz (f:jz):K8→Ex×TSt
 | .inl w=>(.normal,qdp f w)
 | .inr w=>jE f w
def qhC (N n:Nat) (f:jz) (v:JJ):Option jk:=qQ (Ju N f.1 f.2.1 f.2.2.1 f.2.2.2.1 f.2.2.2.2.1 f.2.2.2.2.2.1 f.2.2.2.2.2.2) (qaj N n f) n v
theorem qse (N:Nat) (f:jz) (n:Nat) (v:JJ) (y:jk) (h:qhC N n f v=some y):LG Tryz.prog ji 81 (qE (qE Wr 4) 9) (qsr f v) (jE f y):=
 zj qk (E:=QU N) (L:=qJ (qhh N)) (st:=qrz f) (g:=(qaj N n f)) (R:=jE f) (vT N) (qt (by kernel_rfl) trivial) (rg0 (by kernel_rfl)) (fun v=>by kernel_rfl) (fun w y h=>by
 rcases w with w | w
 ·exact qna N f n w y h
 ·exact qP (st:=jE f) (fun y=>by rfl) w y h
) n v y h
def Yu (N:Nat) (o_9:List Int) (o_9_2:List Int) (o_9_3:Vector UInt8 32) (s3_9:Nat) (s4_9:List UInt8) (s5_9:Int) (s6_9:List Int):Option jk:=qhC N N (o_9,o_9_2,o_9_3,s3_9,s4_9,s5_9,s6_9) ()
def qgY (N:Nat):qw:=smL qhG [(.sl 1 (.i .u32)),(.sl 1 (.i .u32)),(.ba 32),.nat,.bl,(.i .i64),(.sl 1 (.i .u32))] jk (fun x=>Yu N x.1 x.2.1 x.2.2.1 x.2.2.2.1 x.2.2.2.2.1 x.2.2.2.2.2.1 x.2.2.2.2.2.2.1) cs1 fun x=>jE (x.1,x.2.1,x.2.2.1,x.2.2.2.1,x.2.2.2.2.1,x.2.2.2.2.2.1,x.2.2.2.2.2.2.1)
theorem qpO (N:Nat):zZ Tryz.prog ji 81 (qE (qE Wr 4) 9) (qgY N):=zp fun x z h=>qse N (x.1,x.2.1,x.2.2.1,x.2.2.2.1,x.2.2.2.2.1,x.2.2.2.2.2.1,x.2.2.2.2.2.2.1) N () z h
abbrev Xh:=Vector UInt8 32×Nat×List UInt8×Int×List Int
abbrev Qb:=List Int×Int×Bool
def Z9 (f:Xh) (y:Qb):Ex×TSt:=(.exit 4,⟨0,171,[],[(2,.p 20 [] 0),(3,.v 180 f.2.1),(4,.tv .bl f.2.2.1),(5,xi f.2.2.2.1),(7,.tv (.sl 1 (.i .u32)) f.2.2.2.2),(13,xi y.2.1),(132,xb y.2.2)],[(20,.cell false (.tv (.ba 32) f.1)),(180,.vec false 1 (.sl 1 (.i .u32)) (y.1:List Int))],false,[]⟩)
def qqV (N:Nat):List (Nat×qw):=[]
abbrev Z4:=List Int×Int
def qfN:SP:=⟨0,171,[],[(2,.k (.p 20 [] 0)),(3,.v 180),(4,.x .bl),(5,.x (.i .i64)),(7,.x (.sl 1 (.i .u32))),(13,.x (.i .i64))],[(20,.cell false (.x (.ba 32))),(180,.vec false 1)],false,[]⟩
def qql (f:Xh) (v:Z4):TSt:=zq qfN [dv (.sl 1 (.i .u32)) v.1,dv (.ba 32) f.1,dv .nat f.2.1,dv .bl f.2.2.1,dv (.i .i64) f.2.2.2.1,dv (.sl 1 (.i .u32)) f.2.2.2.2,dv (.i .i64) v.2]
def XC (N:Nat) (o_17_2:Vector UInt8 32) (s3_17:Nat) (s4_17:List UInt8) (s5_17:Int) (s7_17:List Int) (v:Z4):Tree (Z4⊕Qb):=
 .cond (decide (v.2 < ((8:Int)))) (
 .chk (0≤v.2∧v.2 < ((s3_17:Nat):Int)) <|
 .bind (jy v.1 s3_17 v.2.toNat) fun e1=>
 .bind (qM s7_17 v.2) fun e2=>
 .chk (0≤v.2∧v.2 < ((s3_17:Nat):Int)) <|
 .chk (qkc v.1.length s3_17 v.2.toNat) <|
 .chk (qp (v.2 + 1)) <|
 .ret (.inl (v.1.set v.2.toNat (vd .u32 e1 e2),v.2 + 1))) <|
 .ret (.inr (v.1,v.2,decide (v.2 < ((8:Int)))))
def qfk (N n:Nat) (f:Xh) (v:Z4):Option Qb:=qQ (XC N f.1 f.2.1 f.2.2.1 f.2.2.2.1 f.2.2.2.2) some n v
theorem qpo (N:Nat) (f:Xh) (n:Nat) (v:Z4) (y:Qb) (h:qfk N n f v=some y):LG Tryz.prog ji 81 (qE (qE Wr 4) 17) (qql f v) (Z9 f y):=
 zj qk (E:=QU N) (L:=qJ (qqV N)) (st:=Z9 f) (g:=some) (R:=Z9 f) (vT N) (qt (by kernel_rfl) trivial) (rg0 (by kernel_rfl)) (fun v=>by kernel_rfl) (qP (st:=Z9 f) fun y=>by rfl) n v y h
def qaT (N:Nat) (o_17_2:Vector UInt8 32) (s3_17:Nat) (s4_17:List UInt8) (s5_17:Int) (s7_17:List Int) (o_17:List Int) (s13_17:Int):Option Qb:=qfk N N (o_17_2,s3_17,s4_17,s5_17,s7_17) (o_17,s13_17)
def qfS (N:Nat):qw:=smL qfN [(.sl 1 (.i .u32)),(.ba 32),.nat,.bl,(.i .i64),(.sl 1 (.i .u32)),(.i .i64)] Qb (fun x=>qaT N x.2.1 x.2.2.1 x.2.2.2.1 x.2.2.2.2.1 x.2.2.2.2.2.1 x.1 x.2.2.2.2.2.2.1) cs1 fun x=>Z9 (x.2.1,x.2.2.1,x.2.2.2.1,x.2.2.2.2.1,x.2.2.2.2.2.1)
theorem qow (N:Nat):zZ Tryz.prog ji 81 (qE (qE Wr 4) 17) (qfS N):=zp fun x z h=>qpo N (x.2.1,x.2.2.1,x.2.2.2.1,x.2.2.2.2.1,x.2.2.2.2.2.1) N (x.1,x.2.2.2.2.2.2.1) z h
abbrev Wj:=Vector UInt8 32×Nat×List UInt8
abbrev QN:=List Int×Int×Bool
def Jz (f:Wj) (y:QN):Ex×TSt:=(.exit 0,⟨0,171,[],[(2,.p 20 [] 0),(3,.v 180 f.2.1),(4,.tv .bl f.2.2),(5,xi y.2.1),(24,xb y.2.2)],[(20,.cell false (.tv (.ba 32) f.1)),(180,.vec false 1 (.sl 1 (.i .u32)) (y.1:List Int))],false,[]⟩)
def qrJ (N:Nat):List (Nat×qw):=[(9,qgY N),(17,qfS N)]
abbrev JL:=List Int×Int
def qhz:SP:=⟨0,171,[],[(2,.k (.p 20 [] 0)),(3,.v 180),(4,.x .bl),(5,.x (.i .i64))],[(20,.cell false (.x (.ba 32))),(180,.vec false 1)],false,[]⟩
def qrP (f:Wj) (v:JL):TSt:=zq qhz [dv (.sl 1 (.i .u32)) v.1,dv (.ba 32) f.1,dv .nat f.2.1,dv .bl f.2.2,dv (.i .i64) v.2]
def XW (N:Nat) (o_4_2:Vector UInt8 32) (s3_4:Nat) (s4_4:List UInt8) (v:JL):Tree (JL⊕QN):=
 .cond (decide (v.2 < ((s4_4.length:Nat):Int))) (
 .chk (qp (v.2 + 64)) <|
 .chk (0≤v.2∧v.2≤(v.2 + 64)∧(v.2 + 64)≤((s4_4.length:Nat):Int)) <|
 .bind (YX N ((s4_4.take ((v.2 + 64).toNat)).drop v.2.toNat)) fun r1=>
 .chk (v.1.length=s3_4) <|
 .chk (qij v.1.length 4) <|
 .bind (zV [(v.1.length,v.1.length)] (Yu N v.1 v.1 o_4_2 s3_4 s4_4 v.2 r1)) fun z2=>
 .bind (qaT N o_4_2 s3_4 s4_4 v.2 z2.1 v.1 0) fun z3=>
 .chk (qp (v.2 + 64)) <|
 .ret (.inl (z3.1,v.2 + 64))) <|
 .ret (.inr (v.1,v.2,decide (v.2 < ((s4_4.length:Nat):Int))))
def qg3 (N n:Nat) (f:Wj) (v:JL):Option QN:=qQ (XW N f.1 f.2.1 f.2.2) some n v
theorem qsk (N:Nat) (f:Wj) (n:Nat) (v:JL) (y:QN) (h:qg3 N n f v=some y):LG Tryz.prog ji 81 (qE Wr 4) (qrP f v) (Jz f y):=
 zj qk (E:=QU N) (L:=qJ (qrJ N)) (st:=Jz f) (g:=some) (R:=Jz f) (vT N) (qt (by kernel_rfl) ⟨qpO N,qow N,trivial⟩) (rg0 (by kernel_rfl)) (fun v=>by kernel_rfl) (qP (st:=Jz f) fun y=>by rfl) n v y h
def qcm (N:Nat) (o_4_2:Vector UInt8 32) (s3_4:Nat) (s4_4:List UInt8) (o_4:List Int) (s5_4:Int):Option QN:=qg3 N N (o_4_2,s3_4,s4_4) (o_4,s5_4)
def qgR (N:Nat):qw:=smL qhz [(.sl 1 (.i .u32)),(.ba 32),.nat,.bl,(.i .i64)] QN (fun x=>qcm N x.2.1 x.2.2.1 x.2.2.2.1 x.1 x.2.2.2.2.1) cs1 fun x=>Jz (x.2.1,x.2.2.1,x.2.2.2.1)
theorem qq1 (N:Nat):zZ Tryz.prog ji 81 (qE Wr 4) (qgR N):=zp fun x z h=>qsk N (x.2.1,x.2.2.1,x.2.2.2.1) N (x.1,x.2.2.2.2.1) z h
abbrev Xm:=List Int×Vector UInt8 32×Vector UInt8 32×Nat×Int
abbrev Qa:=Int×Int×Bool
def ZM (f:Xm) (y:Qa):Ex×TSt:=(.exit 8,⟨0,171,[],[(2,.p 20 [] 0),(3,.v 180 f.2.2.2.1),(14,.p 140 [] 0),(15,xi f.2.2.2.2),(16,.tv (.i .u32) (y.1:Int)),(17,xi y.2.1),(160,xb y.2.2)],[(20,.cell false (.tv (.ba 32) f.2.1)),(140,.cell false (.tv (.ba 32) f.2.2.1)),(180,.vec false 1 (.sl 1 (.i .u32)) f.1)],false,[]⟩)
def qpP (N:Nat):List (Nat×qw):=[]
abbrev ZY:=Int×Int
def qft:SP:=⟨0,171,[],[(2,.k (.p 20 [] 0)),(3,.v 180),(14,.k (.p 140 [] 0)),(15,.x (.i .i64)),(16,.x (.i .u32)),(17,.x (.i .i64))],[(20,.cell false (.x (.ba 32))),(140,.cell false (.x (.ba 32))),(180,.vec false 1)],false,[]⟩
def qrc (f:Xm) (v:ZY):TSt:=zq qft [dv (.sl 1 (.i .u32)) f.1,dv (.ba 32) f.2.1,dv (.ba 32) f.2.2.1,dv .nat f.2.2.2.1,dv (.i .i64) f.2.2.2.2,dv (.i .u32) v.1,dv (.i .i64) v.2]
def Xw (N:Nat) (o_26:List Int) (o_26_2:Vector UInt8 32) (o_26_3:Vector UInt8 32) (s3_26:Nat) (s15_26:Int) (v:ZY):Tree (ZY⊕Qa):=
 .cond (decide (v.2 < ((3:Int)))) (
 .chk ((256:Int)≠0) <|
 .chk (qp (v.2 + 1)) <|
 .ret (.inl (IntKind.u32.wrap (v.1.tdiv 256),v.2 + 1))) <|
 .ret (.inr (v.1,v.2,decide (v.2 < ((3:Int)))))
def qfV (N n:Nat) (f:Xm) (v:ZY):Option Qa:=qQ (Xw N f.1 f.2.1 f.2.2.1 f.2.2.2.1 f.2.2.2.2) some n v
theorem qq8 (N:Nat) (f:Xm) (n:Nat) (v:ZY) (y:Qa) (h:qfV N n f v=some y):LG Tryz.prog ji 81 (qE (qE Wr 22) 26) (qrc f v) (ZM f y):=
 zj qk (E:=QU N) (L:=qJ (qpP N)) (st:=ZM f) (g:=some) (R:=ZM f) (vT N) (qt (by kernel_rfl) trivial) (rg0 (by kernel_rfl)) (fun v=>by kernel_rfl) (qP (st:=ZM f) fun y=>by rfl) n v y h
def qbj (N:Nat) (o_26:List Int) (o_26_2:Vector UInt8 32) (o_26_3:Vector UInt8 32) (s3_26:Nat) (s15_26:Int) (s16_26:Int) (s17_26:Int):Option Qa:=qfV N N (o_26,o_26_2,o_26_3,s3_26,s15_26) (s16_26,s17_26)
def qfB (N:Nat):qw:=smL qft [(.sl 1 (.i .u32)),(.ba 32),(.ba 32),.nat,(.i .i64),(.i .u32),(.i .i64)] Qa (fun x=>qbj N x.1 x.2.1 x.2.2.1 x.2.2.2.1 x.2.2.2.2.1 x.2.2.2.2.2.1 x.2.2.2.2.2.2.1) cs1 fun x=>ZM (x.1,x.2.1,x.2.2.1,x.2.2.2.1,x.2.2.2.2.1)
theorem qos (N:Nat):zZ Tryz.prog ji 81 (qE (qE Wr 22) 26) (qfB N):=zp fun x z h=>qq8 N (x.1,x.2.1,x.2.2.1,x.2.2.2.1,x.2.2.2.2.1) N (x.2.2.2.2.2.1,x.2.2.2.2.2.2.1) z h
abbrev Xk:=List Int×Vector UInt8 32×Nat
abbrev Qn:=Vector UInt8 32×Int×Bool
def Z6 (f:Xk) (y:Qn):Ex×TSt:=(.exit 6,⟨0,171,[],[(2,.p 20 [] 0),(3,.v 180 f.2.2),(14,.p 140 [] 0),(15,xi y.2.1),(149,xb y.2.2)],[(20,.cell false (.tv (.ba 32) f.2.1)),(140,.cell false (.tv (.ba 32) (y.1:Vector UInt8 32))),(180,.vec false 1 (.sl 1 (.i .u32)) f.1)],false,[]⟩)
def qrh (N:Nat):List (Nat×qw):=[(26,qfB N)]
abbrev Z8:=Vector UInt8 32×Int
def qfK:SP:=⟨0,171,[],[(2,.k (.p 20 [] 0)),(3,.v 180),(14,.k (.p 140 [] 0)),(15,.x (.i .i64))],[(20,.cell false (.x (.ba 32))),(140,.cell false (.x (.ba 32))),(180,.vec false 1)],false,[]⟩
def qq9 (f:Xk) (v:Z8):TSt:=zq qfK [dv (.sl 1 (.i .u32)) f.1,dv (.ba 32) f.2.1,dv (.ba 32) v.1,dv .nat f.2.2,dv (.i .i64) v.2]
def Xi (N:Nat) (o_22:List Int) (o_22_2:Vector UInt8 32) (s3_22:Nat) (v:Z8):Tree (Z8⊕Qn):=
 .cond (decide (v.2 < ((32:Int)))) (
 .chk ((4:Int)≠0) <|
 .chk (qp (v.2.tdiv 4)) <|
 .chk (0≤(v.2.tdiv 4)∧(v.2.tdiv 4) < ((s3_22:Nat):Int)) <|
 .bind (jy o_22 s3_22 ((v.2.tdiv 4).toNat)) fun e1=>
 .chk ((4:Int)≠0) <|
 .bind (qbj N o_22 o_22_2 v.1 s3_22 v.2 e1 (v.2.tmod 4)) fun z2=>
 .chk ((256:Int)≠0) <|
 .chk (0≤v.2∧v.2 < ((32:Nat):Int)) <|
 .chk (inB (IntKind.u8.wrap (z2.1.tmod 256))) <|
 .chk (v.2.toNat < 32) <|
 .chk (qp (v.2 + 1)) <|
 .ret (.inl (v.1.setIfInBounds v.2.toNat (UInt8.ofNat (IntKind.u8.wrap (z2.1.tmod 256)).toNat),v.2 + 1))) <|
 .ret (.inr (v.1,v.2,decide (v.2 < ((32:Int)))))
def qfu (N n:Nat) (f:Xk) (v:Z8):Option Qn:=qQ (Xi N f.1 f.2.1 f.2.2) some n v
theorem qqO (N:Nat) (f:Xk) (n:Nat) (v:Z8) (y:Qn) (h:qfu N n f v=some y):LG Tryz.prog ji 81 (qE Wr 22) (qq9 f v) (Z6 f y):=
 zj qk (E:=QU N) (L:=qJ (qrh N)) (st:=Z6 f) (g:=some) (R:=Z6 f) (vT N) (qt (by kernel_rfl) ⟨qos N,trivial⟩) (rg0 (by kernel_rfl)) (fun v=>by kernel_rfl) (qP (st:=Z6 f) fun y=>by rfl) n v y h
def qbh (N:Nat) (o_22:List Int) (o_22_2:Vector UInt8 32) (s3_22:Nat) (o_22_3:Vector UInt8 32) (s15_22:Int):Option Qn:=qfu N N (o_22,o_22_2,s3_22) (o_22_3,s15_22)
def qfW (N:Nat):qw:=smL qfK [(.sl 1 (.i .u32)),(.ba 32),(.ba 32),.nat,(.i .i64)] Qn (fun x=>qbh N x.1 x.2.1 x.2.2.2.1 x.2.2.1 x.2.2.2.2.1) cs1 fun x=>Z6 (x.1,x.2.1,x.2.2.2.1)
theorem qoE (N:Nat):zZ Tryz.prog ji 81 (qE Wr 22) (qfW N):=zp fun x z h=>qqO N (x.1,x.2.1,x.2.2.2.1) N (x.2.2.1,x.2.2.2.2.1) z h
def qw6 (z:Vector UInt8 32):TV×THp:=(.tv (.ba 32) z,[])
def qdC (N:Nat) (a0:List UInt8):Tree (Vector UInt8 32):=
 .bind (WW N a0) fun r1=>
 .bind (qcm N ((Vector.replicate 32 0)) 8 r1 [1779033703,3144134277,1013904242,2773480762,1359893119,2600822924,528734635,1541459225] 0) fun z2=>
 .bind (qbh N z2.1 ((Vector.replicate 32 0)) 8 ((Vector.replicate 32 0)) 0) fun z3=>
 .ret z3.1
def qbx (N:Nat) (a0:List UInt8):Option (Vector UInt8 32):=(qdC N a0).run some
def qya (N:Nat):List (Nat×qw):=[(4,qgR N),(22,qfW N)]
def qkB (N:Nat):Ent:=smF ⟨81,[],[.x .bl],[],[]⟩ [.bl] (Vector UInt8 32) (fun x=>qbx N x.1) cs1 fun _=>qw6
theorem qwn (N:Nat):zf Tryz.prog (qkB N):=
 zd (H:=ji) (L:=qJ (qya N)) (ts:=[.bl]) (T:=fun x=>qdC N x.1) 0 qTV (vT N) (qt (by kernel_rfl) ⟨qq1 N,qoE N,trivial⟩) (rg0 (by kernel_rfl)) fun x=>by kernel_rfl
noncomputable def qTF:Code:=Tryz.f48.body.getD .skip
theorem qSz:FnF Tryz.prog 48 Tryz.f48 qTF:=⟨qk,by kernel_rfl,by kernel_rfl,by kernel_rfl⟩
def qz4:TH:={ live:=[(0,[0,2]),(1,[2])] }
def qAy (N:Nat):List Ent:=[qkB N]
theorem qv3 (N:Nat):qU Tryz.prog (qAy N):=⟨qwn N,trivial⟩
def qz1 (z:Vector UInt8 32):TV×THp:=(.tv (.ba 32) z,[])
def qe6 (N:Nat) (a0:List UInt8):Tree (Vector UInt8 32):=
 .chk (qmt (a0:List UInt8).length) <|
 .bind (qbx N a0) fun r1=>
 .ret r1
def Wo (N:Nat) (a0:List UInt8):Option (Vector UInt8 32):=(qe6 N a0).run some
def qAE (N:Nat):List (Nat×qw):=[]
def qe9 (N:Nat):Ent:=smF ⟨48,[],[.x .s],[],[]⟩ [.s] (Vector UInt8 32) (fun x=>Wo N x.1) cs1 fun _=>qz1
theorem qkS (N:Nat):zf Tryz.prog (qe9 N):=
 zd (H:=qz4) (L:=qJ (qAE N)) (ts:=[.s]) (T:=fun x=>qe6 N x.1) 0 qSz (qv3 N) (qt (by kernel_rfl) trivial) (rg0 (by kernel_rfl)) fun x=>by kernel_rfl
noncomputable def qBn:Code:=Tryz.f47.body.getD .skip
theorem qRe:FnF Tryz.prog 47 Tryz.f47 qBn:=⟨qk,by kernel_rfl,by kernel_rfl,by kernel_rfl⟩
def qcr:TH:={ live:=[(0,[2,3]),(1,[2,3,5]),(2,[2,3,5,7]),(3,[2,3,5]),(4,[2,3,5,16]),(5,[4]),(6,[4])] }
def qjs (N:Nat):List Ent:=[]
theorem qhu (N:Nat):qU Tryz.prog (qjs N):=trivial
abbrev XI:=Vector UInt8 32×Vector UInt8 32
abbrev Qi:=Bool⊕(Int×Bool)
def ZI (f:XI):Qi→Ex×TSt
 | .inl y=>(.ret,⟨0,24,[],[(4,xb y)],[],false,[]⟩)
 | .inr y=>(.exit 0,⟨0,24,[],[(2,.p 20 [] 0),(3,.p 30 [] 0),(5,xi y.1),(7,xb y.2)],[(20,.cell false (.tv (.ba 32) f.1)),(30,.cell false (.tv (.ba 32) f.2))],false,[]⟩)
def qpI (N:Nat):List (Nat×qw):=[]
abbrev ZP:=Int
def qfL:SP:=⟨0,24,[],[(2,.k (.p 20 [] 0)),(3,.k (.p 30 [] 0)),(5,.x (.i .i64))],[(20,.cell false (.x (.ba 32))),(30,.cell false (.x (.ba 32)))],false,[]⟩
def qqE (f:XI) (v:ZP):TSt:=zq qfL [dv (.ba 32) f.1,dv (.ba 32) f.2,dv (.i .i64) v]
def Z2 (N:Nat) (o_2:Vector UInt8 32) (o_2_2:Vector UInt8 32) (v:ZP):Tree (ZP⊕Qi):=
 .cond (decide (v < ((32:Int)))) (
 .chk (0≤v∧v < ((32:Nat):Int)) <|
 .chk (v.toNat < 32) <|
 .chk (0≤v∧v < ((32:Nat):Int)) <|
 .chk (v.toNat < 32) <|
 .cond (!decide ((((o_2.toList.getD v.toNat 0).toNat:Nat):Int)=(((o_2_2.toList.getD v.toNat 0).toNat:Nat):Int))) (
 .chk (0≤v∧v < ((32:Nat):Int)) <|
 .chk (v.toNat < 32) <|
 .chk (0≤v∧v < ((32:Nat):Int)) <|
 .chk (v.toNat < 32) <|
 .ret (.inr (.inl (decide ((((o_2.toList.getD v.toNat 0).toNat:Nat):Int) < (((o_2_2.toList.getD v.toNat 0).toNat:Nat):Int)))))) <|
 .chk (qp (v + 1)) <|
 .ret (.inl (v + 1))) <|
 .ret (.inr (.inr ((v,decide (v < ((32:Int)))))))
def qfJ (N n:Nat) (f:XI) (v:ZP):Option Qi:=qQ (Z2 N f.1 f.2) some n v
theorem qpv (N:Nat) (f:XI) (n:Nat) (v:ZP) (y:Qi) (h:qfJ N n f v=some y):LG Tryz.prog qcr 47 (qE qBn 2) (qqE f v) (ZI f y):=
 zj qk (E:=qjs N) (L:=qJ (qpI N)) (st:=ZI f) (g:=some) (R:=ZI f) (qhu N) (qt (by kernel_rfl) trivial) (rg0 (by kernel_rfl)) (fun v=>by kernel_rfl) (qP (st:=ZI f) fun y=>by rcases y with _ | _<;>rfl) n v y h
def qaJ (N:Nat) (o_2:Vector UInt8 32) (o_2_2:Vector UInt8 32) (s5_2:Int):Option Qi:=qfJ N N (o_2,o_2_2) s5_2
def qfs (N:Nat):qw:=smL qfL [(.ba 32),(.ba 32),(.i .i64)] Qi (fun x=>qaJ N x.1 x.2.1 x.2.2.1) (csS cs1) fun x=>ZI (x.1,x.2.1)
theorem qoi (N:Nat):zZ Tryz.prog qcr 47 (qE qBn 2) (qfs N):=zp fun x z h=>qpv N (x.1,x.2.1) N x.2.2.1 z h
def qwa (z:Bool):TV×THp:=(xb z,[])
def qcb (N:Nat) (a0:Vector UInt8 32) (a1:Vector UInt8 32):Tree (Bool):=
 .bind (qaJ N a0 a1 0) fun z1=>
 .sum z1 (fun z2=>
 .ret z2) fun z2=>
 .ret false
def WH (N:Nat) (a0:Vector UInt8 32) (a1:Vector UInt8 32):Option (Bool):=(qcb N a0 a1).run some
def qwe (N:Nat):List (Nat×qw):=[(2,qfs N)]
def qck (N:Nat):Ent:=smF ⟨47,[],[.x (.ba 32),.x (.ba 32)],[],[]⟩ [(.ba 32),(.ba 32)] (Bool) (fun x=>WH N x.1 x.2.1) cs1 fun _=>qwa
theorem qhS (N:Nat):zf Tryz.prog (qck N):=
 zd (H:=qcr) (L:=qJ (qwe N)) (ts:=[(.ba 32),(.ba 32)]) (T:=fun x=>qcb N x.1 x.2.1) 0 qRe (qhu N) (qt (by kernel_rfl) ⟨qoi N,trivial⟩) (rg0 (by kernel_rfl)) fun x=>by kernel_rfl
noncomputable def qwX:Code:=Tryz.f144.body.getD .skip
theorem qOV:FnF Tryz.prog 144 Tryz.f144 qwX:=⟨qk,by kernel_rfl,by kernel_rfl,by kernel_rfl⟩
def qco:TH:={ live:=[(0,[2,3]),(1,[2,3,14]),(2,[5]),(3,[4]),(4,[2,3,6]),(5,[2,3,6,7]),(6,[2,3,6,7,29]),(7,[8]),(8,[4]),(9,[2,3,9]),(10,[2,3,9,38]),(11,[2,3,9]),(12,[2,3,9,45]),(13,[4]),(14,[2,3,9,54]),(15,[4]),(16,[4])] }
def qjh (N:Nat):List Ent:=[vu,qe9 N,qck N]
theorem qgL (N:Nat):qU Tryz.prog (qjh N):=⟨vV,qkS N,qhS N,trivial⟩
abbrev VM:=qe×qe
abbrev vO:=Bool⊕(Int×Bool)
def Zl (f:VM):vO→Ex×TSt
 | .inl y=>(.ret,⟨0,64,[],[(4,xb y)],[],false,[]⟩)
 | .inr y=>(.exit 0,⟨0,64,[],[(2,.p 20 [] 0),(3,.p 30 [] 0),(9,xi y.1),(38,xb y.2)],[(20,.cell false (.tv qq f.1)),(30,.cell false (.tv qq f.2))],false,[]⟩)
def qn7 (N:Nat):List (Nat×qw):=[]
abbrev Zd:=Int
def qeY:SP:=⟨0,64,[],[(2,.k (.p 20 [] 0)),(3,.k (.p 30 [] 0)),(9,.x (.i .i64))],[(20,.cell false (.x qq)),(30,.cell false (.x qq))],false,[]⟩
def qoe (f:VM) (v:Zd):TSt:=zq qeY [dv qq f.1,dv qq f.2,dv (.i .i64) v]
def vR (N:Nat) (o_10:qe) (o_10_2:qe) (v:Zd):Tree (Zd⊕vO):=
 .cond (decide (v < (((qe.V o_10_2).length:Nat):Int))) (
 .cond (decide ((((qe.V o_10).length:Nat):Int)≤v)) (
 .ret (.inr (.inl true))) <|
 .bind (qM (qe.V o_10) v) fun e1=>
 .bind (qM (qe.V o_10_2) v) fun e2=>
 .cond (!decide (((e1.toNat:Nat):Int)=((e2.toNat:Nat):Int))) (
 .bind (qM (qe.V o_10) v) fun e3=>
 .bind (qM (qe.V o_10_2) v) fun e4=>
 .ret (.inr (.inl (decide (((e3.toNat:Nat):Int) < ((e4.toNat:Nat):Int)))))) <|
 .chk (qp (v + 1)) <|
 .ret (.inl (v + 1))) <|
 .ret (.inr (.inr ((v,decide (v < (((qe.V o_10_2).length:Nat):Int))))))
def qeI (N n:Nat) (f:VM) (v:Zd):Option vO:=qQ (vR N f.1 f.2) some n v
theorem qoy (N:Nat) (f:VM) (n:Nat) (v:Zd) (y:vO) (h:qeI N n f v=some y):LG Tryz.prog qco 144 (qE qwX 10) (qoe f v) (Zl f y):=
 zj qk (E:=qjh N) (L:=qJ (qn7 N)) (st:=Zl f) (g:=some) (R:=Zl f) (qgL N) (qt (by kernel_rfl) trivial) (rg0 (by kernel_rfl)) (fun v=>by kernel_rfl) (qP (st:=Zl f) fun y=>by rcases y with _ | _<;>rfl) n v y h
def qhv (N:Nat) (o_10:qe) (o_10_2:qe) (s9_10:Int):Option vO:=qeI N N (o_10,o_10_2) s9_10
def qeR (N:Nat):qw:=smL qeY [qq,qq,(.i .i64)] vO (fun x=>qhv N x.1 x.2.1 x.2.2.1) (csS cs1) fun x=>Zl (x.1,x.2.1)
theorem qnj (N:Nat):zZ Tryz.prog qco 144 (qE qwX 10) (qeR N):=zp fun x z h=>qoy N (x.1,x.2.1) N x.2.2.1 z h
def qwb (z:Bool):TV×THp:=(xb z,[])
def qcl (N:Nat) (a0:qe) (a1:qe):Tree (Bool):=
 .cond (!(eqE qh (qe.S a0) (qe.S a1))) (
 .bind (zN (qe.S a0) (qe.S a1)) fun r1=>
 .ret r1) <|
 .bind (Wo N (qe.V a0)) fun r1=>
 .bind (Wo N (qe.V a1)) fun r2=>
 .cond (!(eqE (.ba 32) r1 r2)) (
 .bind (WH N r1 r2) fun r3=>
 .ret r3) <|
 .bind (qhv N a0 a1 0) fun z3=>
 .sum z3 (fun z4=>
 .ret z4) fun z4=>
 .ret false
def KT (N:Nat) (a0:qe) (a1:qe):Option (Bool):=(qcl N a0 a1).run some
def qvR (N:Nat):List (Nat×qw):=[(10,qeR N)]
def qje (N:Nat):Ent:=smF ⟨144,[],[.x qq,.x qq],[],[]⟩ [qq,qq] (Bool) (fun x=>KT N x.1 x.2.1) cs1 fun _=>qwb
theorem quT (N:Nat):zf Tryz.prog (qje N):=
 zd (H:=qco) (L:=qJ (qvR N)) (ts:=[qq,qq]) (T:=fun x=>qcl N x.1 x.2.1) 0 qOV (qgL N) (qt (by kernel_rfl) ⟨qnj N,trivial⟩) (rg0 (by kernel_rfl)) fun x=>by kernel_rfl
noncomputable def qPg:Code:=Tryz.f131.body.getD .skip
theorem qPD:FnF Tryz.prog 131 Tryz.f131 qPg:=⟨qk,by kernel_rfl,by kernel_rfl,by kernel_rfl⟩
def qvZ:TH:={ live:=[(0,[2,3,4]),(1,[2,3,4,5]),(2,[2,3,4,9]),(3,[4]),(4,[4])] }
def qvO (N:Nat):List Ent:=[qje N]
theorem qsq (N:Nat):qU Tryz.prog (qvO N):=⟨quT N,trivial⟩
def qv7 (z:qe):TV×THp:=(.tv qq z,[])
def qct (N:Nat) (a0:qe) (a1:qe):Tree (qe):=
 .bind (KT N a0 a1) fun r1=>
 .cond r1 (
 .ret a1) <|
 .ret a0
def KJ (N:Nat) (a0:qe) (a1:qe):Option (qe):=(qct N a0 a1).run some
def qvH (N:Nat):List (Nat×qw):=[]
def qjb (N:Nat):Ent:=smF ⟨131,[],[.x qq,.x qq],[],[]⟩ [qq,qq] (qe) (fun x=>KJ N x.1 x.2.1) cs1 fun _=>qv7
theorem qtf (N:Nat):zf Tryz.prog (qjb N):=
 zd (H:=qvZ) (L:=qJ (qvH N)) (ts:=[qq,qq]) (T:=fun x=>qct N x.1 x.2.1) 0 qPD (qsq N) (qt (by kernel_rfl) trivial) (rg0 (by kernel_rfl)) fun x=>by kernel_rfl
noncomputable def qxn:Code:=Tryz.f102.body.getD .skip
theorem qQy:FnF Tryz.prog 102 Tryz.f102 qxn:=⟨qk,by kernel_rfl,by kernel_rfl,by kernel_rfl⟩
def qcn:TH:={ live:=[(0,[2,3,4]),(1,[2,3,4,6]),(2,[2,3,4,6,7]),(3,[2,3,4,31]),(4,[4,5]),(5,[2,3,4,8]),(6,[2,3,4,8,9]),(7,[2,3,4,8,9,42]),(8,[2,3,4,8,9]),(9,[2,3,4,8,9,10,11]),(10,[2,3,4,8,9,10,11,12,13]),(11,[2,3,4,8,9,10,11,12,13,60]),(12,[2,3,4,8,9,10,11,12,13]),(13,[2,3,4,8,9,10,11,12,13,65]),(14,[2,3,4,8,9,10,11,13]),(15,[2,3,4,8,9,10,11,13,14]),(16,[2,3,4,8,9,10,78]),(17,[2,3,4,8,9]),(18,[4,5])],dec:=[21,25,58,73,76],nil:=[(0,[⟨.ob 40 [2],45,(.sl 4 qB)⟩]),(4,[⟨.ob 40 [2],45,(.sl 4 qB)⟩]),(5,[⟨.ob 80 [2],85,(.sl 4 qB)⟩])] }
def qjn (N:Nat):List Ent:=[Y9 N,qkU,qjo N,qjb N,vu]
theorem qg2 (N:Nat):qU Tryz.prog (qjn N):=⟨qci N,qwf,quS N,qtf N,vV,trivial⟩
abbrev XH:=List qd×qa×qa×Vector UInt8 16×qc×Vector UInt8 16×qc
abbrev Qc:=List qd×Int×Bool
def ZE (f:XH) (y:Qc):Ex×TSt:=(.exit 0,⟨0,88,[],[(2,.p 20 [] 0),(3,.p 30 [] 0),(4,.p 40 [] 0),(8,.p 80 [] 0),(9,xi y.2.1),(42,xb y.2.2)],[(20,.cell false (.tv qf f.2.1)),(30,.cell false (.tv qf f.2.2.1)),(40,.cell false (.ag [.tv (.ba 16) f.2.2.2.1,.tv qh f.2.2.2.2.1,.v 45 f.1.length])),(45,.vec false 4 (.sl 4 qB) f.1),(80,.cell false (.ag [.tv (.ba 16) f.2.2.2.2.2.1,.tv qh f.2.2.2.2.2.2,.v 85 y.1.length])),(85,.vec false 4 (.sl 4 qB) (y.1:List qd))],false,[]⟩)
def qq4 (N:Nat):List (Nat×qw):=[]
abbrev ZX:=List qd×Int
def qf0:SP:=⟨0,88,[],[(2,.k (.p 20 [] 0)),(3,.k (.p 30 [] 0)),(4,.k (.p 40 [] 0)),(8,.k (.p 80 [] 0)),(9,.x (.i .i64))],[(20,.cell false (.x qf)),(30,.cell false (.x qf)),(40,.cell false (.ag [.x (.ba 16),.x qh,.vs 45])),(45,.vec false 4),(80,.cell false (.ag [.x (.ba 16),.x qh,.vs 85])),(85,.vec false 4)],false,[]⟩
def qpm (f:XH) (v:ZX):TSt:=zq qf0 [dv (.sl 4 qB) f.1,dv (.sl 4 qB) v.1,dv qf f.2.1,dv qf f.2.2.1,dv (.ba 16) f.2.2.2.1,dv qh f.2.2.2.2.1,dv (.ba 16) f.2.2.2.2.2.1,dv qh f.2.2.2.2.2.2,dv (.i .i64) v.2]
def Xy (N:Nat) (o_7:List qd) (o_7_3:qa) (o_7_4:qa) (o_7_5:Vector UInt8 16) (o_7_6:qc) (o_7_7:Vector UInt8 16) (o_7_8:qc) (v:ZX):Tree (ZX⊕Qc):=
 .cond (decide (v.2 < ((8:Int)))) (
 .bind (WJ N o_7_3 v.2) fun r1=>
 .bind (WJ N o_7_4 v.2) fun r2=>
 .cond r1.2 (
 .cond r2.2 (
 .bind (KJ N r1.1 r2.1) fun r3=>
 .cond (!r1.2) (
 .bind (zN o_7_8 (qe.S r2.1)) fun r4=>
 .cond r1.2 (
 .cond r4 (
 .chk (zU v.1.length v.1.length ((v.1++[qd.mk v.2 r2.1]).length) 40) <|
 .chk (qp (v.2 + 1)) <|
 .ret (.inl (v.1++[qd.mk v.2 r2.1],v.2 + 1))) <|
 .chk (qp (v.2 + 1)) <|
 .ret (.inl (v.1,v.2 + 1))) <|
 .cond r2.2 (
 .cond r4 (
 .chk (zU v.1.length v.1.length ((v.1++[qd.mk v.2 r2.1]).length) 40) <|
 .chk (qp (v.2 + 1)) <|
 .ret (.inl (v.1++[qd.mk v.2 r2.1],v.2 + 1))) <|
 .chk (qp (v.2 + 1)) <|
 .ret (.inl (v.1,v.2 + 1))) <|
 .chk (qp (v.2 + 1)) <|
 .ret (.inl (v.1,v.2 + 1))) <|
 .bind (zN o_7_8 (qe.S r3)) fun r4=>
 .cond r1.2 (
 .cond r4 (
 .chk (zU v.1.length v.1.length ((v.1++[qd.mk v.2 r3]).length) 40) <|
 .chk (qp (v.2 + 1)) <|
 .ret (.inl (v.1++[qd.mk v.2 r3],v.2 + 1))) <|
 .chk (qp (v.2 + 1)) <|
 .ret (.inl (v.1,v.2 + 1))) <|
 .cond r2.2 (
 .cond r4 (
 .chk (zU v.1.length v.1.length ((v.1++[qd.mk v.2 r3]).length) 40) <|
 .chk (qp (v.2 + 1)) <|
 .ret (.inl (v.1++[qd.mk v.2 r3],v.2 + 1))) <|
 .chk (qp (v.2 + 1)) <|
 .ret (.inl (v.1,v.2 + 1))) <|
 .chk (qp (v.2 + 1)) <|
 .ret (.inl (v.1,v.2 + 1))) <|
 .cond (!r1.2) (
 .bind (zN o_7_8 (qe.S r2.1)) fun r3=>
 .cond r1.2 (
 .cond r3 (
 .chk (zU v.1.length v.1.length ((v.1++[qd.mk v.2 r2.1]).length) 40) <|
 .chk (qp (v.2 + 1)) <|
 .ret (.inl (v.1++[qd.mk v.2 r2.1],v.2 + 1))) <|
 .chk (qp (v.2 + 1)) <|
 .ret (.inl (v.1,v.2 + 1))) <|
 .cond r2.2 (
 .cond r3 (
 .chk (zU v.1.length v.1.length ((v.1++[qd.mk v.2 r2.1]).length) 40) <|
 .chk (qp (v.2 + 1)) <|
 .ret (.inl (v.1++[qd.mk v.2 r2.1],v.2 + 1))) <|
 .chk (qp (v.2 + 1)) <|
 .ret (.inl (v.1,v.2 + 1))) <|
 .chk (qp (v.2 + 1)) <|
 .ret (.inl (v.1,v.2 + 1))) <|
 .bind (zN o_7_8 (qe.S r1.1)) fun r3=>
 .cond r1.2 (
 .cond r3 (
 .chk (zU v.1.length v.1.length ((v.1++[qd.mk v.2 r1.1]).length) 40) <|
 .chk (qp (v.2 + 1)) <|
 .ret (.inl (v.1++[qd.mk v.2 r1.1],v.2 + 1))) <|
 .chk (qp (v.2 + 1)) <|
 .ret (.inl (v.1,v.2 + 1))) <|
 .cond r2.2 (
 .cond r3 (
 .chk (zU v.1.length v.1.length ((v.1++[qd.mk v.2 r1.1]).length) 40) <|
 .chk (qp (v.2 + 1)) <|
 .ret (.inl (v.1++[qd.mk v.2 r1.1],v.2 + 1))) <|
 .chk (qp (v.2 + 1)) <|
 .ret (.inl (v.1,v.2 + 1))) <|
 .chk (qp (v.2 + 1)) <|
 .ret (.inl (v.1,v.2 + 1))) <|
 .cond (!r1.2) (
 .bind (zN o_7_8 (qe.S r2.1)) fun r3=>
 .cond r1.2 (
 .cond r3 (
 .chk (zU v.1.length v.1.length ((v.1++[qd.mk v.2 r2.1]).length) 40) <|
 .chk (qp (v.2 + 1)) <|
 .ret (.inl (v.1++[qd.mk v.2 r2.1],v.2 + 1))) <|
 .chk (qp (v.2 + 1)) <|
 .ret (.inl (v.1,v.2 + 1))) <|
 .cond r2.2 (
 .cond r3 (
 .chk (zU v.1.length v.1.length ((v.1++[qd.mk v.2 r2.1]).length) 40) <|
 .chk (qp (v.2 + 1)) <|
 .ret (.inl (v.1++[qd.mk v.2 r2.1],v.2 + 1))) <|
 .chk (qp (v.2 + 1)) <|
 .ret (.inl (v.1,v.2 + 1))) <|
 .chk (qp (v.2 + 1)) <|
 .ret (.inl (v.1,v.2 + 1))) <|
 .bind (zN o_7_8 (qe.S r1.1)) fun r3=>
 .cond r1.2 (
 .cond r3 (
 .chk (zU v.1.length v.1.length ((v.1++[qd.mk v.2 r1.1]).length) 40) <|
 .chk (qp (v.2 + 1)) <|
 .ret (.inl (v.1++[qd.mk v.2 r1.1],v.2 + 1))) <|
 .chk (qp (v.2 + 1)) <|
 .ret (.inl (v.1,v.2 + 1))) <|
 .cond r2.2 (
 .cond r3 (
 .chk (zU v.1.length v.1.length ((v.1++[qd.mk v.2 r1.1]).length) 40) <|
 .chk (qp (v.2 + 1)) <|
 .ret (.inl (v.1++[qd.mk v.2 r1.1],v.2 + 1))) <|
 .chk (qp (v.2 + 1)) <|
 .ret (.inl (v.1,v.2 + 1))) <|
 .chk (qp (v.2 + 1)) <|
 .ret (.inl (v.1,v.2 + 1))) <|
 .ret (.inr (v.1,v.2,decide (v.2 < ((8:Int)))))
def qfR (N n:Nat) (f:XH) (v:ZX):Option Qc:=qQ (Xy N f.1 f.2.1 f.2.2.1 f.2.2.2.1 f.2.2.2.2.1 f.2.2.2.2.2.1 f.2.2.2.2.2.2) some n v
theorem qpw (N:Nat) (f:XH) (n:Nat) (v:ZX) (y:Qc) (h:qfR N n f v=some y):LG Tryz.prog qcn 102 (qE qxn 7) (qpm f v) (ZE f y):=
 zj qk (E:=qjn N) (L:=qJ (qq4 N)) (st:=ZE f) (g:=some) (R:=ZE f) (qg2 N) (qt (by kernel_rfl) trivial) (rg0 (by kernel_rfl)) (fun v=>by kernel_rfl) (qP (st:=ZE f) fun y=>by rfl) n v y h
def qa2 (N:Nat) (o_7:List qd) (o_7_3:qa) (o_7_4:qa) (o_7_5:Vector UInt8 16) (o_7_6:qc) (o_7_7:Vector UInt8 16) (o_7_8:qc) (o_7_2:List qd) (s9_7:Int):Option Qc:=qfR N N (o_7,o_7_3,o_7_4,o_7_5,o_7_6,o_7_7,o_7_8) (o_7_2,s9_7)
def qfy (N:Nat):qw:=smL qf0 [(.sl 4 qB),(.sl 4 qB),qf,qf,(.ba 16),qh,(.ba 16),qh,(.i .i64)] Qc (fun x=>qa2 N x.1 x.2.2.1 x.2.2.2.1 x.2.2.2.2.1 x.2.2.2.2.2.1 x.2.2.2.2.2.2.1 x.2.2.2.2.2.2.2.1 x.2.1 x.2.2.2.2.2.2.2.2.1) cs1 fun x=>ZE (x.1,x.2.2.1,x.2.2.2.1,x.2.2.2.2.1,x.2.2.2.2.2.1,x.2.2.2.2.2.2.1,x.2.2.2.2.2.2.2.1)
theorem qon (N:Nat):zZ Tryz.prog qcn 102 (qE qxn 7) (qfy N):=zp fun x z h=>qpw N (x.1,x.2.2.1,x.2.2.2.1,x.2.2.2.2.1,x.2.2.2.2.2.1,x.2.2.2.2.2.2.1,x.2.2.2.2.2.2.2.1) N (x.2.1,x.2.2.2.2.2.2.2.2.1) z h
def qv9 (z:qa×Bool):TV×THp:=(.tup [.tv qf (z.1:qa),xb z.2],[])
def qcA (N:Nat) (a0:qa) (a1:qa):Tree (qa×Bool):=
 .bind (Jl N a0) fun r1=>
 .bind (Jl N a1) fun r2=>
 .cond (!r1) (
 .chk (0=0) <|
 .ret (qa.mk ((Vector.replicate 16 0)) (qc.mk 0 0) [],false)) <|
 .cond (!r2) (
 .chk (0=0) <|
 .ret (qa.mk ((Vector.replicate 16 0)) (qc.mk 0 0) [],false)) <|
 .cond (!(eqE (.ba 16) (qa.ID a0) (qa.ID a1))) (
 .chk (0=0) <|
 .ret (qa.mk ((Vector.replicate 16 0)) (qc.mk 0 0) [],false)) <|
 .bind (qaS (qa.qz a0) (qa.qz a1)) fun r3=>
 .bind (zV [(([]:List qd).length,0),(([]:List qd).length,0)] (qa2 N [] a0 a1 ((Vector.replicate 16 0)) (qc.mk 0 0) (qa.ID a0) r3 [] 0)) fun z4=>
 .chk (z4.1.length=z4.1.length) <|
 .ret (qa.mk (qa.ID a0) r3 z4.1,true)
def Vq (N:Nat) (a0:qa) (a1:qa):Option (qa×Bool):=(qcA N a0 a1).run some
def qvu (N:Nat):List (Nat×qw):=[(7,qfy N)]
def qjt (N:Nat):Ent:=smF ⟨102,[],[.x qf,.x qf],[],[]⟩ [qf,qf] (qa×Bool) (fun x=>Vq N x.1 x.2.1) cs1 fun _=>qv9
theorem qs3 (N:Nat):zf Tryz.prog (qjt N):=
 zd (H:=qcn) (L:=qJ (qvu N)) (ts:=[qf,qf]) (T:=fun x=>qcA N x.1 x.2.1) 0 qQy (qg2 N) (qt (by kernel_rfl) ⟨qon N,trivial⟩) (rg0 (by kernel_rfl)) fun x=>by kernel_rfl
noncomputable def qBM:Code:=Tryz.f77.body.getD .skip
theorem qRF:FnF Tryz.prog 77 Tryz.f77 qBM:=⟨qk,by kernel_rfl,by kernel_rfl,by kernel_rfl⟩
def qc6:TH:={ live:=[(0,[2,3,4]),(1,[2,3,4,5]),(2,[2,3,4,5,6]),(3,[2,3,4,5,6,7]),(4,[2,3,4,5,6,7,16]),(5,[2,3,4,5,6,7]),(6,[2,3,4,5,6,7,8]),(7,[2,3,4,5,6,7,32]),(8,[2,3,4,5,7]),(9,[2,3,4,5,6,7]),(10,[2,3,4,5,6,7,48]),(11,[2,3,4,5,7,9]),(12,[2,3,4,5,7]),(13,[2,3,4,5,6,7]),(14,[2,3,4,5,6,7]),(15,[3,4,5,77]),(16,[4,5]),(17,[4])],dec:=[29],nil:=[(0,[⟨.ob 40 [0],43,(.sl 19 qf)⟩]),(1,[⟨.ob 50 [0],53,(.sl 19 qf)⟩])] }
def qkC (N:Nat):List Ent:=[Yx N,qk4,qjt N]
theorem qh0 (N:Nat):qU Tryz.prog (qkC N):=⟨qa4 N,qvF,qs3 N,trivial⟩
abbrev Wa:=List qa×qb×qa
abbrev QM:=List qa×Bool×Int×Bool
def JR (f:Wa) (y:QM):Ex×TSt:=(.exit 0,⟨0,86,[],[(2,.p 20 [] 0),(3,.p 30 [] 0),(4,.p 40 [] 0),(5,.p 50 [] 0),(6,xb y.2.1),(7,xi y.2.2.1),(16,xb y.2.2.2)],[(20,.cell false (.tv qj f.2.1)),(30,.cell false (.tv qf f.2.2)),(40,.cell false (.ag [.v 43 f.1.length])),(43,.vec false 19 (.sl 19 qf) f.1),(50,.cell false (.ag [.v 53 y.1.length])),(53,.vec false 19 (.sl 19 qf) (y.1:List qa))],false,[]⟩)
def qsj (N:Nat):List (Nat×qw):=[]
abbrev JB:=List qa×Bool×Int
def qgX:SP:=⟨0,86,[],[(2,.k (.p 20 [] 0)),(3,.k (.p 30 [] 0)),(4,.k (.p 40 [] 0)),(5,.k (.p 50 [] 0)),(6,.x .b),(7,.x (.i .i64))],[(20,.cell false (.x qj)),(30,.cell false (.x qf)),(40,.cell false (.ag [.vs 43])),(43,.vec false 19),(50,.cell false (.ag [.vs 53])),(53,.vec false 19)],false,[]⟩
def qrl (f:Wa) (v:JB):TSt:=zq qgX [dv (.sl 19 qf) f.1,dv (.sl 19 qf) v.1,dv qj f.2.1,dv qf f.2.2,dv .b v.2.1,dv (.i .i64) v.2.2]
def vB (N:Nat) (o_4:List qa) (o_4_3:qb) (o_4_4:qa) (v:JB):Tree (JB⊕QM):=
 .cond (decide (v.2.2 < (((qb.R o_4_3).length:Nat):Int))) (
 .bind (qM (qb.R o_4_3) v.2.2) fun e1=>
 .bind (Qq N (qa.ID o_4_4) (qa.ID e1)) fun r2=>
 .cond r2 (
 .cond (!v.2.1) (
 .bind (QX o_4_4) fun r3=>
 .chk (zU v.1.length v.1.length ((v.1++[o_4_4]).length) 56) <|
 .bind (qM (qb.R o_4_3) v.2.2) fun e4=>
 .cond (eqE (.ba 16) (qa.ID e4) (qa.ID o_4_4)) (
 .bind (qM (qb.R o_4_3) v.2.2) fun e5=>
 .bind (Vq N e5 o_4_4) fun r6=>
 .chk (zU ((v.1++[o_4_4]).length) ((v.1++[o_4_4]).length) (((v.1++[o_4_4])++[r6.1]).length) 56) <|
 .chk (qp (v.2.2 + 1)) <|
 .ret (.inl ((v.1++[o_4_4])++[r6.1],true,v.2.2 + 1))) <|
 .bind (qM (qb.R o_4_3) v.2.2) fun e5=>
 .bind (QX e5) fun r6=>
 .chk (zU ((v.1++[o_4_4]).length) ((v.1++[o_4_4]).length) (((v.1++[o_4_4])++[e5]).length) 56) <|
 .chk (qp (v.2.2 + 1)) <|
 .ret (.inl ((v.1++[o_4_4])++[e5],true,v.2.2 + 1))) <|
 .bind (qM (qb.R o_4_3) v.2.2) fun e3=>
 .cond (eqE (.ba 16) (qa.ID e3) (qa.ID o_4_4)) (
 .bind (qM (qb.R o_4_3) v.2.2) fun e4=>
 .bind (Vq N e4 o_4_4) fun r5=>
 .chk (zU v.1.length v.1.length ((v.1++[r5.1]).length) 56) <|
 .chk (qp (v.2.2 + 1)) <|
 .ret (.inl (v.1++[r5.1],true,v.2.2 + 1))) <|
 .bind (qM (qb.R o_4_3) v.2.2) fun e4=>
 .bind (QX e4) fun r5=>
 .chk (zU v.1.length v.1.length ((v.1++[e4]).length) 56) <|
 .chk (qp (v.2.2 + 1)) <|
 .ret (.inl (v.1++[e4],v.2.1,v.2.2 + 1))) <|
 .bind (qM (qb.R o_4_3) v.2.2) fun e3=>
 .cond (eqE (.ba 16) (qa.ID e3) (qa.ID o_4_4)) (
 .bind (qM (qb.R o_4_3) v.2.2) fun e4=>
 .bind (Vq N e4 o_4_4) fun r5=>
 .chk (zU v.1.length v.1.length ((v.1++[r5.1]).length) 56) <|
 .chk (qp (v.2.2 + 1)) <|
 .ret (.inl (v.1++[r5.1],true,v.2.2 + 1))) <|
 .bind (qM (qb.R o_4_3) v.2.2) fun e4=>
 .bind (QX e4) fun r5=>
 .chk (zU v.1.length v.1.length ((v.1++[e4]).length) 56) <|
 .chk (qp (v.2.2 + 1)) <|
 .ret (.inl (v.1++[e4],v.2.1,v.2.2 + 1))) <|
 .ret (.inr (v.1,v.2.1,v.2.2,decide (v.2.2 < (((qb.R o_4_3).length:Nat):Int))))
def qhg (N n:Nat) (f:Wa) (v:JB):Option QM:=qQ (vB N f.1 f.2.1 f.2.2) some n v
theorem qsF (N:Nat) (f:Wa) (n:Nat) (v:JB) (y:QM) (h:qhg N n f v=some y):LG Tryz.prog qc6 77 (qE qBM 4) (qrl f v) (JR f y):=
 zj qk (E:=qkC N) (L:=qJ (qsj N)) (st:=JR f) (g:=some) (R:=JR f) (qh0 N) (qt (by kernel_rfl) trivial) (rg0 (by kernel_rfl)) (fun v=>by kernel_rfl) (qP (st:=JR f) fun y=>by rfl) n v y h
def qjj (N:Nat) (o_4:List qa) (o_4_3:qb) (o_4_4:qa) (o_4_2:List qa) (s6_4:Bool) (s7_4:Int):Option QM:=qhg N N (o_4,o_4_3,o_4_4) (o_4_2,s6_4,s7_4)
def qgZ (N:Nat):qw:=smL qgX [(.sl 19 qf),(.sl 19 qf),qj,qf,.b,(.i .i64)] QM (fun x=>qjj N x.1 x.2.2.1 x.2.2.2.1 x.2.1 x.2.2.2.2.1 x.2.2.2.2.2.1) cs1 fun x=>JR (x.1,x.2.2.1,x.2.2.2.1)
theorem qqw (N:Nat):zZ Tryz.prog qc6 77 (qE qBM 4) (qgZ N):=zp fun x z h=>qsF N (x.1,x.2.2.1,x.2.2.2.1) N (x.2.1,x.2.2.2.2.1,x.2.2.2.2.2.1) z h
def qyz (z:qb):TV×THp:=(.tv qj z,[])
def qdb (N:Nat) (a0:qb) (a1:qa):Tree (qb):=
 .bind (zV [(([]:List qa).length,0),(([]:List qa).length,0)] (qjj N [] a0 a1 [] false 0)) fun z1=>
 .cond (!z1.2.1) (
 .bind (QX a1) fun r2=>
 .chk (zU z1.1.length z1.1.length ((z1.1++[a1]).length) 56) <|
 .chk ((z1.1++[a1]).length=(z1.1++[a1]).length) <|
 .ret (qb.mk (z1.1++[a1]))) <|
 .chk (z1.1.length=z1.1.length) <|
 .ret (qb.mk z1.1)
def vS (N:Nat) (a0:qb) (a1:qa):Option (qb):=(qdb N a0 a1).run some
def qyS (N:Nat):List (Nat×qw):=[(4,qgZ N)]
def qk2 (N:Nat):Ent:=smF ⟨77,[],[.x qj,.x qf],[],[]⟩ [qj,qf] (qb) (fun x=>vS N x.1 x.2.1) cs1 fun _=>qyz
theorem qwi (N:Nat):zf Tryz.prog (qk2 N):=
 zd (H:=qc6) (L:=qJ (qyS N)) (ts:=[qj,qf]) (T:=fun x=>qdb N x.1 x.2.1) 0 qRF (qh0 N) (qt (by kernel_rfl) ⟨qqw N,trivial⟩) (rg0 (by kernel_rfl)) fun x=>by kernel_rfl
noncomputable def qa8:Code:=Tryz.f39.body.getD .skip
theorem qTT:FnF Tryz.prog 39 Tryz.f39 qa8:=⟨qk,by kernel_rfl,by kernel_rfl,by kernel_rfl⟩
def jW:TH:={ live:=[(0,[2,3,4]),(1,[2,3,4,6]),(2,[2,3,4,6,7]),(3,[2,3,4,20]),(4,[4,5]),(5,[2,3,4,8]),(6,[2,3,4,8,9]),(7,[2,3,4,8,9,27]),(8,[2,3,4,8,9]),(9,[2,3,4,8,9]),(10,[3,4,8,10]),(11,[3,4,8,10,41]),(12,[3,4,8,10]),(13,[3,4,8,10]),(14,[4,8,54]),(15,[4,5]),(16,[4,5])],dec:=[17],nil:=[(0,[⟨.ob 40 [0],43,(.sl 19 qf)⟩]),(4,[⟨.ob 40 [0],43,(.sl 19 qf)⟩]),(5,[⟨.ob 80 [0],83,(.sl 19 qf)⟩]),(15,[⟨.ob 40 [0],43,(.sl 19 qf)⟩])] }
def Zv (N:Nat):List Ent:=[Y7 N,qk2 N]
theorem QF (N:Nat):qU Tryz.prog (Zv N):=⟨qcC N,qwi N,trivial⟩
abbrev jw:=List qa×List qa×qb×qb
abbrev je:=Unit⊕(qb×Int×Bool)
def jv (f:jw):je→Ex×TSt
 | .inl y=>(.exit 0,⟨0,57,[],[(2,.p 20 [] 0),(3,.p 30 [] 0),(4,.p 40 [] 0),(8,.p 80 [] 0),(9,.ic .i64 0),(27,xb (decide (((0:Int)) < (((qb.R f.2.2.1).length:Nat):Int))))],[(20,.cell false (.tv qj f.2.2.1)),(30,.cell false (.tv qj f.2.2.2)),(40,.cell false (.ag [.v 43 f.1.length])),(43,.vec false 19 (.sl 19 qf) f.1),(80,.cell false (.ag [.v 83 f.2.1.length])),(83,.vec false 19 (.sl 19 qf) f.2.1)],false,[]⟩)
 | .inr y=>(.exit 0,⟨0,57,[],[(2,.p 20 [] 0),(3,.p 30 [] 0),(4,.p 40 [] 0),(8,.p 80 [] 0),(9,xi y.2.1),(27,xb y.2.2)],[(20,.cell false (.tv qj f.2.2.1)),(30,.cell false (.tv qj f.2.2.2)),(40,.cell false (.ag [.v 43 f.1.length])),(43,.vec false 19 (.sl 19 qf) f.1),(80,.cell false (.tv qj (y.1:qb)))],false,[]⟩)
def qfm (N:Nat):List (Nat×qw):=[]
abbrev vp:=qb×Int
def qmC:SP:=⟨0,57,[],[(2,.k (.p 20 [] 0)),(3,.k (.p 30 [] 0)),(4,.k (.p 40 [] 0)),(8,.k (.p 80 [] 0)),(9,.x (.i .i64))],[(20,.cell false (.x qj)),(30,.cell false (.x qj)),(40,.cell false (.ag [.vs 43])),(43,.vec false 19),(80,.cell false (.x qj))],false,[]⟩
def qcV (f:jw) (v:vp):TSt:=zq qmC [dv (.sl 19 qf) f.1,dv qj f.2.2.1,dv qj f.2.2.2,dv qj v.1,dv (.i .i64) v.2]
def Qx (N:Nat) (o_7:List qa) (o_7_2:List qa) (o_7_3:qb) (o_7_4:qb) (v:vp):Tree (vp⊕je):=
 .cond (decide (v.2 < (((qb.R o_7_3).length:Nat):Int))) (
 .bind (qM (qb.R o_7_3) v.2) fun e1=>
 .bind (vS N v.1 e1) fun r2=>
 .chk (qp (v.2 + 1)) <|
 .ret (.inl (r2,v.2 + 1))) <|
 .ret (.inr (.inr ((v.1,v.2,decide (v.2 < (((qb.R o_7_3).length:Nat):Int))))))
def qcW (N n:Nat) (f:jw) (v:vp):Option je:=qQ (Qx N f.1 f.2.1 f.2.2.1 f.2.2.2) some n v
theorem ql9 (N:Nat) (f:jw) (n:Nat) (v:vp) (y:je) (h:qcW N n f v=some y):LG Tryz.prog jW 39 (qE qa8 7) (qcV f v) (jv f y):=
 zj qk (E:=Zv N) (L:=qJ (qfm N)) (st:=jv f) (g:=some) (R:=jv f) (QF N) (qt (by kernel_rfl) trivial) (rg0 (by kernel_rfl)) (fun v=>by kernel_rfl) (qP (st:=jv f) fun y=>by rcases y with _ | _<;>rfl) n v y h
abbrev ZR:=Unit
def qfc:SP:=⟨0,57,[],[(2,.k (.p 20 [] 0)),(3,.k (.p 30 [] 0)),(4,.k (.p 40 [] 0)),(8,.k (.p 80 [] 0)),(9,.k (.ic .i64 0))],[(20,.cell false (.x qj)),(30,.cell false (.x qj)),(40,.cell false (.ag [.vs 43])),(43,.vec false 19),(80,.cell false (.ag [.vs 83])),(83,.vec false 19)],false,[]⟩
def qqM (f:jw) (v:ZR):TSt:=zq qfc [dv (.sl 19 qf) f.1,dv (.sl 19 qf) f.2.1,dv qj f.2.2.1,dv qj f.2.2.2]
abbrev KC:=vp⊕je
def Xj (N:Nat) (o_7:List qa) (o_7_2:List qa) (o_7_3:qb) (o_7_4:qb) (v:ZR):Tree (ZR⊕KC):=
 .cond (decide (((0:Int)) < (((qb.R o_7_3).length:Nat):Int))) (
 .bind (qM (qb.R o_7_3) 0) fun e1=>
 .chk (o_7_2.length=o_7_2.length) <|
 .bind (vS N (qb.mk o_7_2) e1) fun r2=>
 .ret (.inr (.inl (r2,1)))) <|
 .ret (.inr (.inr ((.inl ()))))
def KB (N n:Nat) (f:jw):KC→Option je
 | .inl w=>qcW N n f w
 | .inr w=>some w
def qqH (f:jw):KC→Ex×TSt
 | .inl w=>(.normal,qcV f w)
 | .inr w=>jv f w
def qfA (N n:Nat) (f:jw) (v:ZR):Option je:=qQ (Xj N f.1 f.2.1 f.2.2.1 f.2.2.2) (KB N n f) n v
theorem qqA (N:Nat) (f:jw) (n:Nat) (v:ZR) (y:je) (h:qfA N n f v=some y):LG Tryz.prog jW 39 (qE qa8 7) (qqM f v) (jv f y):=
 zj qk (E:=Zv N) (L:=qJ (qfm N)) (st:=qqH f) (g:=(KB N n f)) (R:=jv f) (QF N) (qt (by kernel_rfl) trivial) (rg0 (by kernel_rfl)) (fun v=>by kernel_rfl) (fun w y h=>by
 rcases w with w | w
 ·exact ql9 N f n w y h
 ·exact qP (st:=jv f) (fun y=>by rcases y with _ | _<;>rfl) w y h
) n v y h
def WV (N:Nat) (o_7:List qa) (o_7_2:List qa) (o_7_3:qb) (o_7_4:qb):Option je:=qfA N N (o_7,o_7_2,o_7_3,o_7_4) ()
def qfY (N:Nat):qw:=smL qfc [(.sl 19 qf),(.sl 19 qf),qj,qj] je (fun x=>WV N x.1 x.2.1 x.2.2.1 x.2.2.2.1) (csS cs1) fun x=>jv (x.1,x.2.1,x.2.2.1,x.2.2.2.1)
theorem qoq (N:Nat):zZ Tryz.prog jW 39 (qE qa8 7) (qfY N):=zp fun x z h=>qqA N (x.1,x.2.1,x.2.2.1,x.2.2.2.1) N () z h
abbrev jl:=List qa×List qa×qb
abbrev z9:=Unit⊕(qb×Int×Bool)
def jn (f:jl):z9→Ex×TSt
 | .inl y=>(.exit 2,⟨0,57,[],[(3,.p 30 [] 0),(4,.p 40 [] 0),(8,.p 80 [] 0),(10,.ic .i64 0),(41,xb (decide (((0:Int)) < (((qb.R f.2.2).length:Nat):Int))))],[(30,.cell false (.tv qj f.2.2)),(40,.cell false (.ag [.v 43 f.1.length])),(43,.vec false 19 (.sl 19 qf) f.1),(80,.cell false (.ag [.v 83 f.2.1.length])),(83,.vec false 19 (.sl 19 qf) f.2.1)],false,[]⟩)
 | .inr y=>(.exit 2,⟨0,57,[],[(3,.p 30 [] 0),(4,.p 40 [] 0),(8,.p 80 [] 0),(10,xi y.2.1),(41,xb y.2.2)],[(30,.cell false (.tv qj f.2.2)),(40,.cell false (.ag [.v 43 f.1.length])),(43,.vec false 19 (.sl 19 qf) f.1),(80,.cell false (.tv qj (y.1:qb)))],false,[]⟩)
def qeF (N:Nat):List (Nat×qw):=[]
abbrev j9:=qb×Int
def qli:SP:=⟨0,57,[],[(3,.k (.p 30 [] 0)),(4,.k (.p 40 [] 0)),(8,.k (.p 80 [] 0)),(10,.x (.i .i64))],[(30,.cell false (.x qj)),(40,.cell false (.ag [.vs 43])),(43,.vec false 19),(80,.cell false (.x qj))],false,[]⟩
def qbS (f:jl) (v:j9):TSt:=zq qli [dv (.sl 19 qf) f.1,dv qj f.2.2,dv qj v.1,dv (.i .i64) v.2]
def v7 (N:Nat) (o_11:List qa) (o_11_2:List qa) (o_11_3:qb) (v:j9):Tree (j9⊕z9):=
 .cond (decide (v.2 < (((qb.R o_11_3).length:Nat):Int))) (
 .bind (qM (qb.R o_11_3) v.2) fun e1=>
 .bind (vS N v.1 e1) fun r2=>
 .chk (qp (v.2 + 1)) <|
 .ret (.inl (r2,v.2 + 1))) <|
 .ret (.inr (.inr ((v.1,v.2,decide (v.2 < (((qb.R o_11_3).length:Nat):Int))))))
def qbT (N n:Nat) (f:jl) (v:j9):Option z9:=qQ (v7 N f.1 f.2.1 f.2.2) some n v
theorem qlw (N:Nat) (f:jl) (n:Nat) (v:j9) (y:z9) (h:qbT N n f v=some y):LG Tryz.prog jW 39 (qE qa8 11) (qbS f v) (jn f y):=
 zj qk (E:=Zv N) (L:=qJ (qeF N)) (st:=jn f) (g:=some) (R:=jn f) (QF N) (qt (by kernel_rfl) trivial) (rg0 (by kernel_rfl)) (fun v=>by kernel_rfl) (qP (st:=jn f) fun y=>by rcases y with _ | _<;>rfl) n v y h
abbrev Q_:=Unit
def qeH:SP:=⟨0,57,[],[(3,.k (.p 30 [] 0)),(4,.k (.p 40 [] 0)),(8,.k (.p 80 [] 0)),(10,.k (.ic .i64 0))],[(30,.cell false (.x qj)),(40,.cell false (.ag [.vs 43])),(43,.vec false 19),(80,.cell false (.ag [.vs 83])),(83,.vec false 19)],false,[]⟩
def qoz (f:jl) (v:Q_):TSt:=zq qeH [dv (.sl 19 qf) f.1,dv (.sl 19 qf) f.2.1,dv qj f.2.2]
abbrev YH:=j9⊕z9
def VN (N:Nat) (o_11:List qa) (o_11_2:List qa) (o_11_3:qb) (v:Q_):Tree (Q_⊕YH):=
 .cond (decide (((0:Int)) < (((qb.R o_11_3).length:Nat):Int))) (
 .bind (qM (qb.R o_11_3) 0) fun e1=>
 .chk (o_11_2.length=o_11_2.length) <|
 .bind (vS N (qb.mk o_11_2) e1) fun r2=>
 .ret (.inr (.inl (r2,1)))) <|
 .ret (.inr (.inr ((.inl ()))))
def YC (N n:Nat) (f:jl):YH→Option z9
 | .inl w=>qbT N n f w
 | .inr w=>some w
def qoF (f:jl):YH→Ex×TSt
 | .inl w=>(.normal,qbS f w)
 | .inr w=>jn f w
def qeT (N n:Nat) (f:jl) (v:Q_):Option z9:=qQ (VN N f.1 f.2.1 f.2.2) (YC N n f) n v
theorem qoa (N:Nat) (f:jl) (n:Nat) (v:Q_) (y:z9) (h:qeT N n f v=some y):LG Tryz.prog jW 39 (qE qa8 11) (qoz f v) (jn f y):=
 zj qk (E:=Zv N) (L:=qJ (qeF N)) (st:=qoF f) (g:=(YC N n f)) (R:=jn f) (QF N) (qt (by kernel_rfl) trivial) (rg0 (by kernel_rfl)) (fun v=>by kernel_rfl) (fun w y h=>by
 rcases w with w | w
 ·exact qlw N f n w y h
 ·exact qP (st:=jn f) (fun y=>by rcases y with _ | _<;>rfl) w y h
) n v y h
def XV (N:Nat) (o_11:List qa) (o_11_2:List qa) (o_11_3:qb):Option z9:=qeT N N (o_11,o_11_2,o_11_3) ()
def qeS (N:Nat):qw:=smL qeH [(.sl 19 qf),(.sl 19 qf),qj] z9 (fun x=>XV N x.1 x.2.1 x.2.2.1) (csS cs1) fun x=>jn (x.1,x.2.1,x.2.2.1)
theorem qmZ (N:Nat):zZ Tryz.prog jW 39 (qE qa8 11) (qeS N):=zp fun x z h=>qoa N (x.1,x.2.1,x.2.2.1) N () z h
abbrev JW:=List qa×qb
abbrev vh:=qb×Int×Bool
def QA (f:JW) (y:vh):Ex×TSt:=(.exit 2,⟨0,57,[],[(3,.p 30 [] 0),(4,.p 40 [] 0),(8,.p 80 [] 0),(10,xi y.2.1),(41,xb y.2.2)],[(30,.cell false (.tv qj f.2)),(40,.cell false (.ag [.v 43 f.1.length])),(43,.vec false 19 (.sl 19 qf) f.1),(80,.cell false (.tv qj (y.1:qb)))],false,[]⟩)
def qmj (N:Nat):List (Nat×qw):=[]
abbrev Qz:=qb×Int
def qcL:SP:=⟨0,57,[],[(3,.k (.p 30 [] 0)),(4,.k (.p 40 [] 0)),(8,.k (.p 80 [] 0)),(10,.x (.i .i64))],[(30,.cell false (.x qj)),(40,.cell false (.ag [.vs 43])),(43,.vec false 19),(80,.cell false (.x qj))],false,[]⟩
def ql8 (f:JW) (v:Qz):TSt:=zq qcL [dv (.sl 19 qf) f.1,dv qj f.2,dv qj v.1,dv (.i .i64) v.2]
def JU (N:Nat) (o_11:List qa) (o_11_2:qb) (v:Qz):Tree (Qz⊕vh):=
 .cond (decide (v.2 < (((qb.R o_11_2).length:Nat):Int))) (
 .bind (qM (qb.R o_11_2) v.2) fun e1=>
 .bind (vS N v.1 e1) fun r2=>
 .chk (qp (v.2 + 1)) <|
 .ret (.inl (r2,v.2 + 1))) <|
 .ret (.inr (v.1,v.2,decide (v.2 < (((qb.R o_11_2).length:Nat):Int))))
def qc3 (N n:Nat) (f:JW) (v:Qz):Option vh:=qQ (JU N f.1 f.2) some n v
theorem qmb (N:Nat) (f:JW) (n:Nat) (v:Qz) (y:vh) (h:qc3 N n f v=some y):LG Tryz.prog jW 39 (qE qa8 11) (ql8 f v) (QA f y):=
 zj qk (E:=Zv N) (L:=qJ (qmj N)) (st:=QA f) (g:=some) (R:=QA f) (QF N) (qt (by kernel_rfl) trivial) (rg0 (by kernel_rfl)) (fun v=>by kernel_rfl) (qP (st:=QA f) fun y=>by rfl) n v y h
def YF (N:Nat) (o_11:List qa) (o_11_2:qb) (o_11_3:qb) (s10_11:Int):Option vh:=qc3 N N (o_11,o_11_2) (o_11_3,s10_11)
def qcO (N:Nat):qw:=smL qcL [(.sl 19 qf),qj,qj,(.i .i64)] vh (fun x=>YF N x.1 x.2.1 x.2.2.1 x.2.2.2.1) cs1 fun x=>QA (x.1,x.2.1)
theorem qll (N:Nat):zZ Tryz.prog jW 39 (qE qa8 11) (qcO N):=zp fun x z h=>qmb N (x.1,x.2.1) N (x.2.2.1,x.2.2.2.1) z h
def qvX (z:qb×Int):TV×THp:=(.tup [.tv qj (z.1:qb),xi z.2],[])
def Yy (N:Nat) (a0:qb) (a1:qb):Tree (qb×Int):=
 .bind (Jn N a0) fun r1=>
 .bind (Jn N a1) fun r2=>
 .cond (!r1) (
 .chk (0=0) <|
 .ret (qb.mk [],1)) <|
 .cond (!r2) (
 .chk (0=0) <|
 .ret (qb.mk [],1)) <|
 .bind (zV [(([]:List qa).length,0),(([]:List qa).length,0)] (WV N [] [] a0 a1)) fun z3=>
 .sum z3 (fun z4=>
 .bind (zV [(([]:List qa).length,0),(([]:List qa).length,0)] (XV N [] [] a1)) fun z5=>
 .sum z5 (fun z6=>
 .cond (decide (10 < (((0:Nat):Int)))) (
 .chk (0=0) <|
 .ret (qb.mk [],4)) <|
 .chk (0=0) <|
 .ret (qb.mk [],0)) fun z6=>
 .cond (decide (((10:Int)) < (((qb.R z6.1).length:Nat):Int))) (
 .chk (0=0) <|
 .ret (qb.mk [],4)) <|
 .ret (z6.1,0)) fun z4=>
 .bind (zV [(([]:List qa).length,0)] (YF N [] a1 z4.1 0)) fun z5=>
 .cond (decide (((10:Int)) < (((qb.R z5.1).length:Nat):Int))) (
 .chk (0=0) <|
 .ret (qb.mk [],4)) <|
 .ret (z5.1,0)
def zw (N:Nat) (a0:qb) (a1:qb):Option (qb×Int):=(Yy N a0 a1).run some
def qvK (N:Nat):List (Nat×qw):=[(7,qfY N),(11,qeS N),(11,qcO N)]
def qjl (N:Nat):Ent:=smF ⟨39,[],[.x qj,.x qj],[],[]⟩ [qj,qj] (qb×Int) (fun x=>zw N x.1 x.2.1) cs1 fun _=>qvX
theorem qs9 (N:Nat):zf Tryz.prog (qjl N):=
 zd (H:=jW) (L:=qJ (qvK N)) (ts:=[qj,qj]) (T:=fun x=>Yy N x.1 x.2.1) 0 qTT (QF N) (qt (by kernel_rfl) ⟨qoq N,qmZ N,qll N,trivial⟩) (rg0 (by kernel_rfl)) fun x=>by kernel_rfl
noncomputable def qSd:Code:=Tryz.f14.body.getD .skip
theorem qTK:FnF Tryz.prog 14 Tryz.f14 qSd:=⟨qk,by kernel_rfl,by kernel_rfl,by kernel_rfl⟩
def qyp:TH:={ live:=[(0,[2,3,4]),(1,[2,3,4,6]),(2,[2,3,4,6,7]),(3,[2,3,4,6,7,8]),(4,[2,3,4,6,7,8,9]),(5,[2,3,4,6,7,8,9,10]),(6,[2,3,4,8,10,53]),(7,[4,5]),(8,[3,4,8,10,11]),(9,[3,4,8,10,11,12]),(10,[3,4,8,11,12,57]),(11,[3,4,8,11,12]),(12,[4,8,11,12,77]),(13,[4,11,12]),(14,[4,11,12,87]),(15,[4,5]),(16,[4,5])],dec:=[31,35,37,44,49,72],nil:=[(0,[⟨.ob 40 [0],43,(.sl 19 qf)⟩]),(7,[⟨.ob 40 [0],43,(.sl 19 qf)⟩]),(15,[⟨.ob 40 [0],43,(.sl 19 qf)⟩])] }
def qyR (N:Nat):List Ent:=[Y7 N,Jr,Y9 N,qjl N]
theorem qtu (N:Nat):qU Tryz.prog (qyR N):=⟨qcC N,V2,qci N,qs9 N,trivial⟩
def qyC (z:qb×Int):TV×THp:=(.tup [.tv qj (z.1:qb),xi z.2],[])
def qdk (N:Nat) (a0:qb) (a1:qa):Tree (qb×Int):=
 .bind (Jn N a0) fun r1=>
 .bind (QZ (qa.qz a1)) fun r2=>
 .bind (Jl N (qa.mk (qa.ID a1) (qc.mk 0 0) (qa.F a1))) fun r3=>
 .cond (!r1) (
 .chk (0=0) <|
 .ret (qb.mk [],1)) <|
 .cond (!r2) (
 .chk (0=0) <|
 .ret (qb.mk [],1)) <|
 .cond (eqE qh (qa.qz a1) (qc.mk 0 0)) (
 .cond (decide ((((qa.F a1).length:Nat):Int)=((0:Int)))) (
 .chk (0=0) <|
 .ret (qb.mk [],1)) <|
 .cond (decide (((0:Int)) < (((qa.F a1).length:Nat):Int))) (
 .cond (!r3) (
 .chk (0=0) <|
 .ret (qb.mk [],1)) <|
 .cond (!(eqE qh (qa.qz a1) (qc.mk 0 0))) (
 .bind (zw N a0 (qb.mk [qa.mk (qa.ID a1) (qa.qz a1) []])) fun r4=>
 .cond (decide (r4.2=0)) (
 .cond (decide (((0:Int)) < (((qa.F a1).length:Nat):Int))) (
 .bind (zw N r4.1 (qb.mk [qa.mk (qa.ID a1) (qc.mk 0 0) (qa.F a1)])) fun r5=>
 .cond (!decide (r5.2=0)) (
 .chk (0=0) <|
 .ret (qb.mk [],r5.2)) <|
 .ret (r5.1,0)) <|
 .cond (!decide (r4.2=0)) (
 .chk (0=0) <|
 .ret (qb.mk [],r4.2)) <|
 .ret (r4.1,0)) <|
 .cond (!decide (r4.2=0)) (
 .chk (0=0) <|
 .ret (qb.mk [],r4.2)) <|
 .ret (r4.1,0)) <|
 .cond (decide (((0:Int)) < (((qa.F a1).length:Nat):Int))) (
 .bind (zw N a0 (qb.mk [qa.mk (qa.ID a1) (qc.mk 0 0) (qa.F a1)])) fun r4=>
 .cond (!decide (r4.2=0)) (
 .chk (0=0) <|
 .ret (qb.mk [],r4.2)) <|
 .ret (r4.1,0)) <|
 .ret (a0,0)) <|
 .cond (!(eqE qh (qa.qz a1) (qc.mk 0 0))) (
 .bind (zw N a0 (qb.mk [qa.mk (qa.ID a1) (qa.qz a1) []])) fun r4=>
 .cond (decide (r4.2=0)) (
 .cond (decide (((0:Int)) < (((qa.F a1).length:Nat):Int))) (
 .bind (zw N r4.1 (qb.mk [qa.mk (qa.ID a1) (qc.mk 0 0) (qa.F a1)])) fun r5=>
 .cond (!decide (r5.2=0)) (
 .chk (0=0) <|
 .ret (qb.mk [],r5.2)) <|
 .ret (r5.1,0)) <|
 .cond (!decide (r4.2=0)) (
 .chk (0=0) <|
 .ret (qb.mk [],r4.2)) <|
 .ret (r4.1,0)) <|
 .cond (!decide (r4.2=0)) (
 .chk (0=0) <|
 .ret (qb.mk [],r4.2)) <|
 .ret (r4.1,0)) <|
 .cond (decide (((0:Int)) < (((qa.F a1).length:Nat):Int))) (
 .bind (zw N a0 (qb.mk [qa.mk (qa.ID a1) (qc.mk 0 0) (qa.F a1)])) fun r4=>
 .cond (!decide (r4.2=0)) (
 .chk (0=0) <|
 .ret (qb.mk [],r4.2)) <|
 .ret (r4.1,0)) <|
 .ret (a0,0)) <|
 .cond (decide (((0:Int)) < (((qa.F a1).length:Nat):Int))) (
 .cond (!r3) (
 .chk (0=0) <|
 .ret (qb.mk [],1)) <|
 .cond (!(eqE qh (qa.qz a1) (qc.mk 0 0))) (
 .bind (zw N a0 (qb.mk [qa.mk (qa.ID a1) (qa.qz a1) []])) fun r4=>
 .cond (decide (r4.2=0)) (
 .cond (decide (((0:Int)) < (((qa.F a1).length:Nat):Int))) (
 .bind (zw N r4.1 (qb.mk [qa.mk (qa.ID a1) (qc.mk 0 0) (qa.F a1)])) fun r5=>
 .cond (!decide (r5.2=0)) (
 .chk (0=0) <|
 .ret (qb.mk [],r5.2)) <|
 .ret (r5.1,0)) <|
 .cond (!decide (r4.2=0)) (
 .chk (0=0) <|
 .ret (qb.mk [],r4.2)) <|
 .ret (r4.1,0)) <|
 .cond (!decide (r4.2=0)) (
 .chk (0=0) <|
 .ret (qb.mk [],r4.2)) <|
 .ret (r4.1,0)) <|
 .cond (decide (((0:Int)) < (((qa.F a1).length:Nat):Int))) (
 .bind (zw N a0 (qb.mk [qa.mk (qa.ID a1) (qc.mk 0 0) (qa.F a1)])) fun r4=>
 .cond (!decide (r4.2=0)) (
 .chk (0=0) <|
 .ret (qb.mk [],r4.2)) <|
 .ret (r4.1,0)) <|
 .ret (a0,0)) <|
 .cond (!(eqE qh (qa.qz a1) (qc.mk 0 0))) (
 .bind (zw N a0 (qb.mk [qa.mk (qa.ID a1) (qa.qz a1) []])) fun r4=>
 .cond (decide (r4.2=0)) (
 .cond (decide (((0:Int)) < (((qa.F a1).length:Nat):Int))) (
 .bind (zw N r4.1 (qb.mk [qa.mk (qa.ID a1) (qc.mk 0 0) (qa.F a1)])) fun r5=>
 .cond (!decide (r5.2=0)) (
 .chk (0=0) <|
 .ret (qb.mk [],r5.2)) <|
 .ret (r5.1,0)) <|
 .cond (!decide (r4.2=0)) (
 .chk (0=0) <|
 .ret (qb.mk [],r4.2)) <|
 .ret (r4.1,0)) <|
 .cond (!decide (r4.2=0)) (
 .chk (0=0) <|
 .ret (qb.mk [],r4.2)) <|
 .ret (r4.1,0)) <|
 .cond (decide (((0:Int)) < (((qa.F a1).length:Nat):Int))) (
 .bind (zw N a0 (qb.mk [qa.mk (qa.ID a1) (qc.mk 0 0) (qa.F a1)])) fun r4=>
 .cond (!decide (r4.2=0)) (
 .chk (0=0) <|
 .ret (qb.mk [],r4.2)) <|
 .ret (r4.1,0)) <|
 .ret (a0,0)
def qbf (N:Nat) (a0:qb) (a1:qa):Option (qb×Int):=(qdk N a0 a1).run some
def qyB (N:Nat):List (Nat×qw):=[]
def qkw (N:Nat):Ent:=smF ⟨14,[],[.x qj,.x qf],[],[]⟩ [qj,qf] (qb×Int) (fun x=>qbf N x.1 x.2.1) cs1 fun _=>qyC
theorem qv0 (N:Nat):zf Tryz.prog (qkw N):=
 zd (H:=qyp) (L:=qJ (qyB N)) (ts:=[qj,qf]) (T:=fun x=>qdk N x.1 x.2.1) 0 qTK (qtu N) (qt (by kernel_rfl) trivial) (rg0 (by kernel_rfl)) fun x=>by kernel_rfl
noncomputable def qQh:Code:=Tryz.f132.body.getD .skip
theorem qP7:FnF Tryz.prog 132 Tryz.f132 qQh:=⟨qk,by kernel_rfl,by kernel_rfl,by kernel_rfl⟩
def qAs:TH:={ live:=[(0,[0]),(1,[0,4]),(2,[2]),(3,[2])] }
def qAp (N:Nat):List Ent:=[]
theorem qvM (N:Nat):qU Tryz.prog (qAp N):=trivial
def qzZ (z:Int):TV×THp:=(xi z,[])
def qe3 (a0:Int):Tree (Int):=
 .cond (decide (a0 < ((24:Int)))) (
 .ret 0) <|
 .chk ((8:Int)≠0) <|
 .chk (qp (a0.tdiv 8)) <|
 .ret (a0.tdiv 8)
def qcY (a0:Int):Option (Int):=(qe3 a0).run some
def qAi:List (Nat×qw):=[]
def qlH:Ent:=smF ⟨132,[],[.x (.i .i64)],[],[]⟩ [(.i .i64)] (Int) (fun x=>qcY x.1) cs1 fun _=>qzZ
theorem qyq:zf Tryz.prog (qlH):=
 zd (H:=qAs) (L:=qJ (qAi)) (ts:=[(.i .i64)]) (T:=fun x=>qe3 x.1) 0 qP7 (qvM 0) (qt (by kernel_rfl) trivial) (rg0 (by kernel_rfl)) fun x=>by kernel_rfl
noncomputable def qQM:Code:=Tryz.f103.body.getD .skip
theorem qPN:FnF Tryz.prog 103 Tryz.f103 qQM:=⟨qk,by kernel_rfl,by kernel_rfl,by kernel_rfl⟩
def qB9:TH:={ live:=[(0,[2,3]),(1,[4])],dec:=[8,13,18,23,32,37] }
def qCb (N:Nat):List Ent:=[qlH,qb6,XQ N]
theorem qyX (N:Nat):qU Tryz.prog (qCb N):=⟨qyq,qdx,Wv N,trivial⟩
def qBt (z:Bool):TV×THp:=(xb z,[])
def qgD (N:Nat) (a0:qm) (a1:qc):Tree (Bool):=
 .cond (decide (((0:Int))≤(qm.No a0))) (
 .cond (decide ((qm.No a0) < ((8:Int)))) (
 .cond (decide (((0:Int))≤(qm.Len a0))) (
 .cond (decide ((qm.Len a0)≤((200:Int)))) (
 .bind (qcY (qm.Len a0)) fun r1=>
 .cond (decide ((((qm.B a0).length:Nat):Int)=r1)) (
 .bind (qaF (qm.S a0)) fun r2=>
 .cond r2 (
 .bind (vz N a1 (qm.S a0)) fun r3=>
 .ret r3) <|
 .ret false) <|
 .ret false) <|
 .ret false) <|
 .ret false) <|
 .ret false) <|
 .ret false
def qex (N:Nat) (a0:qm) (a1:qc):Option (Bool):=(qgD N a0 a1).run some
def qCH (N:Nat):List (Nat×qw):=[]
def qnS (N:Nat):Ent:=smF ⟨103,[],[.x qX,.x qh],[],[]⟩ [qX,qh] (Bool) (fun x=>qex N x.1 x.2.1) cs1 fun _=>qBt
theorem qAr (N:Nat):zf Tryz.prog (qnS N):=
 zd (H:=qB9) (L:=qJ (qCH N)) (ts:=[qX,qh]) (T:=fun x=>qgD N x.1 x.2.1) 0 qPN (qyX N) (qt (by kernel_rfl) trivial) (rg0 (by kernel_rfl)) fun x=>by kernel_rfl
noncomputable def qCa:Code:=Tryz.f78.body.getD .skip
theorem qSe:FnF Tryz.prog 78 Tryz.f78 qCa:=⟨qk,by kernel_rfl,by kernel_rfl,by kernel_rfl⟩
def qh9:TH:={ live:=[(0,[1]),(1,[1,6,7,8]),(2,[1,6,7,8,9]),(3,[1,3,4,6,7,8]),(4,[1,6,7,8,33]),(5,[2]),(6,[1,6,7,8]),(7,[2])],dec:=[18,21,38,43] }
def qpd (N:Nat):List Ent:=[qnS N,qb6]
theorem qlE (N:Nat):qU Tryz.prog (qpd N):=⟨qAr N,qdx,trivial⟩
abbrev Y4:=qn×List qm×Int
abbrev JN:=Unit⊕(Int×Bool)
def XN (f:Y4):JN→Ex×TSt
 | .inl y=>(.ret,⟨0,50,[],[(2,.bc false)],[],false,[]⟩)
 | .inr y=>(.exit 0,⟨0,50,[],[(1,.p 10 [] 0),(6,.tv (.sl 37 qX) f.2.1),(7,xi f.2.2),(8,xi y.1),(9,xb y.2)],[(10,.cell false (.tv qZ f.1))],false,[]⟩)
def qx7 (N:Nat):List (Nat×qw):=[]
abbrev XL:=Int
def qkY:SP:=⟨0,50,[],[(1,.k (.p 10 [] 0)),(6,.x (.sl 37 qX)),(7,.x (.i .i64)),(8,.x (.i .i64))],[(10,.cell false (.x qZ))],false,[]⟩
def qxK (f:Y4) (v:XL):TSt:=zq qkY [dv qZ f.1,dv (.sl 37 qX) f.2.1,dv (.i .i64) f.2.2,dv (.i .i64) v]
def YZ (N:Nat) (o_2:qn) (s6_2:List qm) (s7_2:Int) (v:XL):Tree (XL⊕JN):=
 .cond (decide (v < s7_2)) (
 .bind (qM s6_2 v) fun e1=>
 .bind (qex N e1 (qn.qz o_2)) fun r2=>
 .cond (!r2) (
 .ret (.inr (.inl ()))) <|
 .cond (decide (((0:Int)) < v)) (
 .chk (qp (v - 1)) <|
 .bind (qM (qn.F o_2) (v - 1)) fun e3=>
 .cond (decide ((qm.No e1)≤(qm.No e3))) (
 .ret (.inr (.inl ()))) <|
 .chk (qp (v + 1)) <|
 .ret (.inl (v + 1))) <|
 .chk (qp (v + 1)) <|
 .ret (.inl (v + 1))) <|
 .ret (.inr (.inr ((v,decide (v < s7_2)))))
def qkt (N n:Nat) (f:Y4) (v:XL):Option JN:=qQ (YZ N f.1 f.2.1 f.2.2) some n v
theorem qyI (N:Nat) (f:Y4) (n:Nat) (v:XL) (y:JN) (h:qkt N n f v=some y):LG Tryz.prog qh9 78 (qE qCa 2) (qxK f v) (XN f y):=
 zj qk (E:=qpd N) (L:=qJ (qx7 N)) (st:=XN f) (g:=some) (R:=XN f) (qlE N) (qt (by kernel_rfl) trivial) (rg0 (by kernel_rfl)) (fun v=>by kernel_rfl) (qP (st:=XN f) fun y=>by rcases y with _ | _<;>rfl) n v y h
def qgx (N:Nat) (o_2:qn) (s6_2:List qm) (s7_2:Int) (s8_2:Int):Option JN:=qkt N N (o_2,s6_2,s7_2) s8_2
def qkD (N:Nat):qw:=smL qkY [qZ,(.sl 37 qX),(.i .i64),(.i .i64)] JN (fun x=>qgx N x.1 x.2.1 x.2.2.1 x.2.2.2.1) (csS cs1) fun x=>XN (x.1,x.2.1,x.2.2.1)
theorem qv2 (N:Nat):zZ Tryz.prog qh9 78 (qE qCa 2) (qkD N):=zp fun x z h=>qyI N (x.1,x.2.1,x.2.2.1) N x.2.2.2.1 z h
def qDq (z:Bool):TV×THp:=(xb z,[])
def qiR (N:Nat) (a0:qn):Tree (Bool):=
 .bind (qgx N a0 (qn.F a0) (((qn.F a0).length:Nat):Int) 0) fun z1=>
 .sum z1 (fun z2=>
 .ret false) fun z2=>
 .bind (qaF (qn.qz a0)) fun r3=>
 .cond r3 (
 .cond (decide (((0:Int)) < (((qn.F a0).length:Nat):Int))) (
 .ret true) <|
 .ret (!(eqE qh (qn.qz a0) (qc.mk 0 0)))) <|
 .ret false
def qgd (N:Nat) (a0:qn):Option (Bool):=(qiR N a0).run some
def qDZ (N:Nat):List (Nat×qw):=[(2,qkD N)]
def qo7 (N:Nat):Ent:=smF ⟨78,[],[.x qZ],[],[]⟩ [qZ] (Bool) (fun x=>qgd N x.1) cs1 fun _=>qDq
theorem qCk (N:Nat):zf Tryz.prog (qo7 N):=
 zd (H:=qh9) (L:=qJ (qDZ N)) (ts:=[qZ]) (T:=fun x=>qiR N x.1) 0 qSe (qlE N) (qt (by kernel_rfl) ⟨qv2 N,trivial⟩) (rg0 (by kernel_rfl)) fun x=>by kernel_rfl
noncomputable def qBH:Code:=Tryz.f40.body.getD .skip
theorem qUc:FnF Tryz.prog 40 Tryz.f40 qBH:=⟨qk,by kernel_rfl,by kernel_rfl,by kernel_rfl⟩
def qjG:TH:={ live:=[(0,[1]),(1,[1,6,7,8]),(2,[1,6,7,8,9]),(3,[1,3,4,6,7,8]),(4,[1,6,7,8,32]),(5,[2]),(6,[1,6,7,8]),(7,[2])],dec:=[16,19] }
def qrx (N:Nat):List Ent:=[qo7 N,qpC]
theorem qnV (N:Nat):qU Tryz.prog (qrx N):=⟨qCk N,qxu,trivial⟩
abbrev KY:=qg×List qn×Int
abbrev Vs:=Unit⊕(Int×Bool)
def WK (f:KY):Vs→Ex×TSt
 | .inl y=>(.ret,⟨0,38,[],[(2,.bc false)],[],false,[]⟩)
 | .inr y=>(.exit 0,⟨0,38,[],[(1,.p 10 [] 0),(6,.tv (.sl 19 qZ) f.2.1),(7,xi f.2.2),(8,xi y.1),(9,xb y.2)],[(10,.cell false (.tv qo f.1))],false,[]⟩)
def qzU (N:Nat):List (Nat×qw):=[]
abbrev WC:=Int
def ql3:SP:=⟨0,38,[],[(1,.k (.p 10 [] 0)),(6,.x (.sl 19 qZ)),(7,.x (.i .i64)),(8,.x (.i .i64))],[(10,.cell false (.x qo))],false,[]⟩
def qzG (f:KY) (v:WC):TSt:=zq ql3 [dv qo f.1,dv (.sl 19 qZ) f.2.1,dv (.i .i64) f.2.2,dv (.i .i64) v]
def KL (N:Nat) (o_2:qg) (s6_2:List qn) (s7_2:Int) (v:WC):Tree (WC⊕Vs):=
 .cond (decide (v < s7_2)) (
 .bind (qM s6_2 v) fun e1=>
 .bind (qgd N e1) fun r2=>
 .cond (!r2) (
 .ret (.inr (.inl ()))) <|
 .cond (decide (((0:Int)) < v)) (
 .chk (qp (v - 1)) <|
 .bind (qM (qg.L o_2) (v - 1)) fun e3=>
 .bind (qkm (qn.ID e3) (qn.ID e1)) fun r4=>
 .cond (!r4) (
 .ret (.inr (.inl ()))) <|
 .chk (qp (v + 1)) <|
 .ret (.inl (v + 1))) <|
 .chk (qp (v + 1)) <|
 .ret (.inl (v + 1))) <|
 .ret (.inr (.inr ((v,decide (v < s7_2)))))
def qlR (N n:Nat) (f:KY) (v:WC):Option Vs:=qQ (KL N f.1 f.2.1 f.2.2) some n v
theorem qAe (N:Nat) (f:KY) (n:Nat) (v:WC) (y:Vs) (h:qlR N n f v=some y):LG Tryz.prog qjG 40 (qE qBH 2) (qzG f v) (WK f y):=
 zj qk (E:=qrx N) (L:=qJ (qzU N)) (st:=WK f) (g:=some) (R:=WK f) (qnV N) (qt (by kernel_rfl) trivial) (rg0 (by kernel_rfl)) (fun v=>by kernel_rfl) (qP (st:=WK f) fun y=>by rcases y with _ | _<;>rfl) n v y h
def qhM (N:Nat) (o_2:qg) (s6_2:List qn) (s7_2:Int) (s8_2:Int):Option Vs:=qlR N N (o_2,s6_2,s7_2) s8_2
def qlI (N:Nat):qw:=smL ql3 [qo,(.sl 19 qZ),(.i .i64),(.i .i64)] Vs (fun x=>qhM N x.1 x.2.1 x.2.2.1 x.2.2.2.1) (csS cs1) fun x=>WK (x.1,x.2.1,x.2.2.1)
theorem qyo (N:Nat):zZ Tryz.prog qjG 40 (qE qBH 2) (qlI N):=zp fun x z h=>qAe N (x.1,x.2.1,x.2.2.1) N x.2.2.2.1 z h
def qGe (z:Bool):TV×THp:=(xb z,[])
def qjy (N:Nat) (a0:qg):Tree (Bool):=
 .bind (qhM N a0 (qg.L a0) (((qg.L a0).length:Nat):Int) 0) fun z1=>
 .sum z1 (fun z2=>
 .ret false) fun z2=>
 .ret (decide ((((qg.L a0).length:Nat):Int)≤((10:Int))))
def qiJ (N:Nat) (a0:qg):Option (Bool):=(qjy N a0).run some
def qGl (N:Nat):List (Nat×qw):=[(2,qlI N)]
def qry (N:Nat):Ent:=smF ⟨40,[],[.x qo],[],[]⟩ [qo] (Bool) (fun x=>qiJ N x.1) cs1 fun _=>qGe
theorem qEQ (N:Nat):zf Tryz.prog (qry N):=
 zd (H:=qjG) (L:=qJ (qGl N)) (ts:=[qo]) (T:=fun x=>qjy N x.1) 0 qUc (qnV N) (qt (by kernel_rfl) ⟨qyo N,trivial⟩) (rg0 (by kernel_rfl)) fun x=>by kernel_rfl
noncomputable def qSJ:Code:=Tryz.f41.body.getD .skip
theorem qSV:FnF Tryz.prog 41 Tryz.f41 qSJ:=⟨qk,by kernel_rfl,by kernel_rfl,by kernel_rfl⟩
def qKM:TH:={ live:=[(0,[2,3]),(1,[4])],esc:=true }
def qJr (N:Nat):List Ent:=[]
theorem qFJ (N:Nat):qU Tryz.prog (qJr N):=trivial
def qIg (a0:qb) (a1:qg) (z:Unit):TV×THp:=(.fn (.func 79) [] [.p 100020 [] 0,.p 100030 [] 0],[(100020,.cell false (.tv qj a0)),(100030,.cell false (.tv qo a1))])
def qxh (a0:qb) (a1:qg):Tree (Unit):=
 .ret ()
def qtY (a0:qb) (a1:qg):Option (Unit):=(qxh a0 a1).run some
def qJo:List (Nat×qw):=[]
def qyO:Ent:=smF ⟨41,[],[.x qj,.x qo],[],[]⟩ [qj,qo] (Unit) (fun x=>qtY x.1 x.2.1) cs1 fun x=>qIg x.1 x.2.1
theorem qHw:zf Tryz.prog (qyO):=
 zd (H:=qKM) (L:=qJ (qJo)) (ts:=[qj,qo]) (T:=fun x=>qxh x.1 x.2.1) 0 qSV (qFJ 0) (qt (by kernel_rfl) trivial) (rg0 (by kernel_rfl)) fun x=>by kernel_rfl
noncomputable def qTd:Code:=Tryz.f62.body.getD .skip
theorem qTL:FnF Tryz.prog 62 Tryz.f62 qTd:=⟨qk,by kernel_rfl,by kernel_rfl,by kernel_rfl⟩
def qzP:TH:={ live:=[(0,[1,2]),(1,[3])] }
def qAC (N:Nat):List Ent:=[]
theorem qwt (N:Nat):qU Tryz.prog (qAC N):=trivial
def qAA (a0:Vector UInt8 16) (a1:qn) (z:Unit):TV×THp:=(xb (eqE (.ba 16) (qn.ID a1) a0),[(30,.cell false (.tv (.ba 16) a0))])
def qe5 (a0:Vector UInt8 16) (a1:qn):Tree (Unit):=
 .ret ()
def qir (a0:Vector UInt8 16) (a1:qn):Option (Unit):=(qe5 a0 a1).run some
def qzK:List (Nat×qw):=[]
def qlP:Ent:=smF ⟨62,[],[.x qZ],[.k (.p 30 [] 0)],[(30,.cell false (.x (.ba 16)))]⟩ [(.ba 16),qZ] (Unit) (fun x=>qir x.1 x.2.1) cs1 fun x=>qAA x.1 x.2.1
theorem qxj:zf Tryz.prog (qlP):=
 zd (H:=qzP) (L:=qJ (qzK)) (ts:=[(.ba 16),qZ]) (T:=fun x=>qe5 x.1 x.2.1) 0 qTL (qwt 0) (qt (by kernel_rfl) trivial) (rg0 (by kernel_rfl)) fun x=>by kernel_rfl
noncomputable def qBz:Code:=Tryz.f61.body.getD .skip
theorem qTv:FnF Tryz.prog 61 Tryz.f61 qBz:=⟨qk,by kernel_rfl,by kernel_rfl,by kernel_rfl⟩
def YK:TH:={ live:=[(0,[0,1]),(1,[0,1,7,8]),(2,[0,1,7,8,9]),(3,[0,1,5,7,8]),(4,[0,1,5,7,8,16]),(5,[4]),(6,[0,1,7,8]),(7,[4])] }
def qeG (N:Nat):List Ent:=[qlP]
theorem qcM (N:Nat):qU Tryz.prog (qeG N):=⟨qxj,trivial⟩
abbrev Jg:=Vector UInt8 16×List qn×Int
abbrev j_:=Int⊕(Int×Bool)
def vZ (f:Jg):j_→Ex×TSt
 | .inl y=>(.ret,⟨1,19,[30],[(4,xi y)],[(30,.cell false (.tv (.ba 16) f.1))],false,[]⟩)
 | .inr y=>(.exit 0,⟨1,19,[30],[(0,.tv (.sl 19 qZ) f.2.1),(1,.fn (.func 62) [] [.p 30 [] 0]),(7,xi f.2.2),(8,xi y.1),(9,xb y.2)],[(30,.cell false (.tv (.ba 16) f.1))],false,[]⟩)
def qln (N:Nat):List (Nat×qw):=[]
abbrev vW:=Int
def qbX:SP:=⟨1,19,[30],[(0,.x (.sl 19 qZ)),(1,.fn 62 [] [.k (.p 30 [] 0)]),(7,.x (.i .i64)),(8,.x (.i .i64))],[(30,.cell false (.x (.ba 16)))],false,[]⟩
def qlA (f:Jg) (v:vW):TSt:=zq qbX [dv (.ba 16) f.1,dv (.sl 19 qZ) f.2.1,dv (.i .i64) f.2.2,dv (.i .i64) v]
def vX (N:Nat) (o_2:Vector UInt8 16) (s0_2:List qn) (s7_2:Int) (v:vW):Tree (vW⊕j_):=
 .cond (decide (v < s7_2)) (
 .bind (qM s0_2 v) fun e1=>
 .bind (qir o_2 e1) fun r2=>
 .cond (eqE (.ba 16) (qn.ID e1) o_2) (
 .ret (.inr (.inl v))) <|
 .chk (qp (v + 1)) <|
 .ret (.inl (v + 1))) <|
 .ret (.inr (.inr ((v,decide (v < s7_2)))))
def qbN (N n:Nat) (f:Jg) (v:vW):Option j_:=qQ (vX N f.1 f.2.1 f.2.2) some n v
theorem qlh (N:Nat) (f:Jg) (n:Nat) (v:vW) (y:j_) (h:qbN N n f v=some y):LG Tryz.prog YK 61 (qE qBz 2) (qlA f v) (vZ f y):=
 zj qk (E:=qeG N) (L:=qJ (qln N)) (st:=vZ f) (g:=some) (R:=vZ f) (qcM N) (qt (by kernel_rfl) trivial) (rg0 (by kernel_rfl)) (fun v=>by kernel_rfl) (qP (st:=vZ f) fun y=>by rcases y with _ | _<;>rfl) n v y h
def Ys (N:Nat) (o_2:Vector UInt8 16) (s0_2:List qn) (s7_2:Int) (s8_2:Int):Option j_:=qbN N N (o_2,s0_2,s7_2) s8_2
def qbM (N:Nat):qw:=smL qbX [(.ba 16),(.sl 19 qZ),(.i .i64),(.i .i64)] j_ (fun x=>Ys N x.1 x.2.1 x.2.2.1 x.2.2.2.1) (csS cs1) fun x=>vZ (x.1,x.2.1,x.2.2.1)
theorem qkR (N:Nat):zZ Tryz.prog YK 61 (qE qBz 2) (qbM N):=zp fun x z h=>qlh N (x.1,x.2.1,x.2.2.1) N x.2.2.2.1 z h
def qoh (a0:Vector UInt8 16) (z:Int):TV×THp:=(xi z,[(30,.cell false (.tv (.ba 16) a0))])
def YG (N:Nat) (a0:Vector UInt8 16) (a1:List qn):Tree (Int):=
 .bind (Ys N a0 a1 ((a1.length:Nat):Int) 0) fun z1=>
 .sum z1 (fun z2=>
 .ret z2) fun z2=>
 .ret (-1)
def X8 (N:Nat) (a0:Vector UInt8 16) (a1:List qn):Option (Int):=(YG N a0 a1).run some
def qn6 (N:Nat):List (Nat×qw):=[(2,qbM N)]
def qeM (N:Nat):Ent:=smF ⟨61,[],[.x (.sl 19 qZ),.fn 62 [] [.k (.p 30 [] 0)]],[],[(30,.cell false (.x (.ba 16)))]⟩ [(.ba 16),(.sl 19 qZ)] (Int) (fun x=>X8 N x.1 x.2.1) cs1 fun x=>qoh x.1
theorem qmP (N:Nat):zf Tryz.prog (qeM N):=
 zd (H:=YK) (L:=qJ (qn6 N)) (ts:=[(.ba 16),(.sl 19 qZ)]) (T:=fun x=>YG N x.1 x.2.1) 0 qTv (qcM N) (qt (by kernel_rfl) ⟨qkR N,trivial⟩) (rg0 (by kernel_rfl)) fun x=>by kernel_rfl
noncomputable def qRu:Code:=Tryz.f96.body.getD .skip
theorem qBk:FnF Tryz.prog 96 Tryz.f96 qRu:=⟨qk,by kernel_rfl,by kernel_rfl,by kernel_rfl⟩
def qsY:TH:={ live:=[(0,[0]),(1,[0,4]),(2,[2]),(3,[2])],vecs:=[5],esc:=true }
def qtB (N:Nat):List Ent:=[]
theorem qpF (N:Nat):qU Tryz.prog (qtB N):=trivial
def qhZ (a0:List qm) (z:Unit):TV×THp:=(.v 100050 (((([]:List qm))++a0).length),[(100050,.vec false 37 (.sl 37 qX) ((([]:List qm))++a0:List qm))])
def qaH (a0:List qm):Tree (Unit):=
 .chk (List.isEmpty a0=false) <|
 .chk (zU ((([]:List qm)).length) 0 (((([]:List qm))++a0).length) 88) <|
 .ret ()
def qdV (a0:List qm):Option (Unit):=(qaH a0).run some
def qud:List (Nat×qw):=[]
theorem qp_:qbq Tryz.prog ⟨96,[],[.x (.sl 37 qX)],[],[]⟩ [(.sl 37 qX)] (fun x=>qaH x.1) (fun x=>qhZ x.1):=
 Yp (H:=qsY) (L:=qJ (qud)) 0 qBk (qpF 0) (qt (by kernel_rfl) trivial) (rg0 (by kernel_rfl)) fun x=>by kernel_rfl
def qqL:TH:={ live:=[(0,[0]),(1,[0,4]),(2,[2]),(3,[2])],vecs:=[5],esc:=true }
def qpX (N:Nat):List Ent:=[]
theorem qm0 (N:Nat):qU Tryz.prog (qpX N):=trivial
def qq6 (z:Unit):TV×THp:=(.v 100050 0,[(100050,.vec false 37 (.sl 37 qX) ([]:List qm))])
def qfh:Tree (Unit):=
 .chk (0=0) <|
 .ret ()
def quw:Option (Unit):=(qfh).run some
def qqh:List (Nat×qw):=[]
theorem qm_:qbq Tryz.prog ⟨96,[],[.k (.es 0)],[],[]⟩ [] (fun x=>qfh) (fun _=>qq6):=
 Yp (H:=qqL) (L:=qJ (qqh)) 0 qBk (qm0 0) (qt (by kernel_rfl) trivial) (rg0 (by kernel_rfl)) fun x=>by kernel_rfl
def qp2:TH:={ live:=[(0,[0]),(1,[0,4]),(2,[2]),(3,[2])],vecs:=[5],esc:=true }
def qpq (N:Nat):List Ent:=[]
theorem qm5 (N:Nat):qU Tryz.prog (qpq N):=trivial
def qp7 (z:Unit):TV×THp:=(.nils,[])
def qfC:Tree (Unit):=
 .ret ()
def qsZ:Option (Unit):=(qfC).run some
def qp3:List (Nat×qw):=[]
theorem qnU:qbq Tryz.prog ⟨96,[],[.k (.es 1)],[],[]⟩ [] (fun x=>qfC) (fun _=>qp7):=
 Yp (H:=qp2) (L:=qJ (qp3)) 0 qBk (qm5 0) (qt (by kernel_rfl) trivial) (rg0 (by kernel_rfl)) fun x=>by kernel_rfl
def qf_ (z:Unit):Unit:=()
def qp8 (z:Unit):Unit:=()
def Zx (a0:List qm):Option (Unit):=
 bif a0.isEmpty then
  (quw).bind fun z0=>(qsZ).bind fun z1=>chk (qf_ z0=qp8 z1) (some (qf_ z0))
 else qdV a0
def qgK:Ent:=smF ⟨96,[],[.x (.sl 37 qX)],[],[]⟩ [(.sl 37 qX)] (Unit) (fun x=>Zx x.1) cs1 fun x=>qhZ x.1
theorem qqQ:zf Tryz.prog (qgK):=qkJ fun x z h l=>by
 obtain ⟨a0,_⟩:=x
 replace h:Zx a0=some z:=h
 unfold Zx at h
 rcases qkl h with ⟨e,h2⟩ | ⟨_,h2⟩<;>clear h
 ·have e:=List.isEmpty_iff.1 e
  subst e
  obtain ⟨z0,c0,h2⟩:=bind_some h2
  obtain ⟨z1,c1,h2⟩:=bind_some h2
  obtain ⟨hE,h2⟩:=qj3 h2
  obtain rfl:=Option.some.inj h2
  refine qkT (t:=(.sl 37 qX)) (x:=[]) rfl (TV.ers []) (TV.ers []) (by exact qm_ (()) _ c0 l) ?_
  rw [hE]
  exact (qLZ (n:=100050) (sz:=37) (x:=qG (.sl 37 qX) ([]:List qm)) rfl (by kernel_rfl) (by kernel_rfl) (qnU (()) _ c1 l))
 ·exact qp_ (a0,()) z h2 l
noncomputable def qSl:Code:=Tryz.f97.body.getD .skip
theorem qBQ:FnF Tryz.prog 97 Tryz.f97 qSl:=⟨qk,by kernel_rfl,by kernel_rfl,by kernel_rfl⟩
def qwV:TH:={ live:=[(0,[0]),(1,[0,4]),(2,[2]),(3,[2])],vecs:=[5] }
def qxq (N:Nat):List Ent:=[]
theorem qsT (N:Nat):qU Tryz.prog (qxq N):=trivial
def qki (a0:List zy) (z:Unit):TV×THp:=(.tv (.sl 33 VB) ((([]:List zy))++a0:List zy),[])
def qd8 (a0:List zy):Tree (Unit):=
 .chk (List.isEmpty a0=false) <|
 .chk (zU ((([]:List zy)).length) 0 (((([]:List zy))++a0).length) 36) <|
 .chk (((([]:List zy))++a0).length=((([]:List zy))++a0).length) <|
 .ret ()
def qgA (a0:List zy):Option (Unit):=(qd8 a0).run some
def qxf:List (Nat×qw):=[]
theorem quf:qbq Tryz.prog ⟨97,[],[.x (.sl 33 VB)],[],[]⟩ [(.sl 33 VB)] (fun x=>qd8 x.1) (fun x=>qki x.1):=
 Yp (H:=qwV) (L:=qJ (qxf)) 0 qBQ (qsT 0) (qt (by kernel_rfl) trivial) (rg0 (by kernel_rfl)) fun x=>by kernel_rfl
def quF:TH:={ live:=[(0,[0]),(1,[0,4]),(2,[2]),(3,[2])],vecs:=[5] }
def qtS (N:Nat):List Ent:=[]
theorem qpQ (N:Nat):qU Tryz.prog (qtS N):=trivial
def qtb (z:Unit):TV×THp:=(.tv (.sl 33 VB) ([]:List zy),[])
def qh7:Tree (Unit):=
 .chk (0=0) <|
 .chk (0=0) <|
 .ret ()
def qxm:Option (Unit):=(qh7).run some
def qua:List (Nat×qw):=[]
theorem qpT:qbq Tryz.prog ⟨97,[],[.k (.es 0)],[],[]⟩ [] (fun x=>qh7) (fun _=>qtb):=
 Yp (H:=quF) (L:=qJ (qua)) 0 qBQ (qpQ 0) (qt (by kernel_rfl) trivial) (rg0 (by kernel_rfl)) fun x=>by kernel_rfl
def quJ:TH:={ live:=[(0,[0]),(1,[0,4]),(2,[2]),(3,[2])],vecs:=[5] }
def qs0 (N:Nat):List Ent:=[]
theorem qpU (N:Nat):qU Tryz.prog (qs0 N):=trivial
def qt8 (z:Unit):TV×THp:=(.tv (.sl 33 VB) ([]:List zy),[])
def qin:Tree (Unit):=
 .ret ()
def qyQ:Option (Unit):=(qin).run some
def qtL:List (Nat×qw):=[]
theorem qp5:qbq Tryz.prog ⟨97,[],[.k (.es 1)],[],[]⟩ [] (fun x=>qin) (fun _=>qt8):=
 Yp (H:=quJ) (L:=qJ (qtL)) 0 qBQ (qpU 0) (qt (by kernel_rfl) trivial) (rg0 (by kernel_rfl)) fun x=>by kernel_rfl
def qiX (z:Unit):Unit:=()
def qs_ (z:Unit):Unit:=()
def Vz (a0:List zy):Option (Unit):=
 bif a0.isEmpty then
  (qxm).bind fun z0=>(qyQ).bind fun z1=>chk (qiX z0=qs_ z1) (some (qiX z0))
 else qgA a0
def qjd:Ent:=smF ⟨97,[],[.x (.sl 33 VB)],[],[]⟩ [(.sl 33 VB)] (Unit) (fun x=>Vz x.1) cs1 fun x=>qki x.1
theorem quG:zf Tryz.prog (qjd):=qkJ fun x z h l=>by
 obtain ⟨a0,_⟩:=x
 replace h:Vz a0=some z:=h
 unfold Vz at h
 rcases qkl h with ⟨e,h2⟩ | ⟨_,h2⟩<;>clear h
 ·have e:=List.isEmpty_iff.1 e
  subst e
  obtain ⟨z0,c0,h2⟩:=bind_some h2
  obtain ⟨z1,c1,h2⟩:=bind_some h2
  obtain ⟨hE,h2⟩:=qj3 h2
  obtain rfl:=Option.some.inj h2
  refine qkT (t:=(.sl 33 VB)) (x:=[]) rfl (TV.ers []) (TV.ers []) (by exact qpT (()) _ c0 l) ?_
  rw [hE]
  exact (by exact qp5 (()) _ c1 l)
 ·exact quf (a0,()) z h2 l
noncomputable def qBA:Code:=Tryz.f63.body.getD .skip
theorem qTM:FnF Tryz.prog 63 Tryz.f63 qBA:=⟨qk,by kernel_rfl,by kernel_rfl,by kernel_rfl⟩
def qjw:TH:={ live:=[(0,[1,2]),(1,[1,2]),(2,[1,2,10,11]),(3,[1,2,10,11,12]),(4,[1,2,3,10,11]),(5,[1,2,10,11]),(6,[1,2,10,11]),(7,[2])],fresh:=[6],nil:=[(0,[⟨.ob 20 [2],25,(.sl 37 qX)⟩])] }
def qrV (N:Nat):List Ent:=[qgK,qjd]
theorem qnL (N:Nat):qU Tryz.prog (qrV N):=⟨qqQ,quG,trivial⟩
abbrev KW:=List qm×Vector UInt8 16×qc×Nat×Vector UInt8 16×qc×Int
abbrev Vx:=List qm×Int×Bool
def WQ (f:KW) (y:Vx):Ex×TSt:=(.exit 0,⟨0,28,[],[(1,.p 10 [] 0),(2,.p 20 [] 0),(10,xi f.2.2.2.2.2.2),(11,xi y.2.1),(12,xb y.2.2)],[(10,.cell false (.ag [.tv (.ba 16) f.2.1,.tv qh f.2.2.1,.v 100050 f.2.2.2.1])),(20,.cell false (.ag [.tv (.ba 16) f.2.2.2.2.1,.tv qh f.2.2.2.2.2.1,.v 25 f.1.length])),(25,.vec false 37 (.sl 37 qX) f.1),(100050,.vec false 37 (.sl 37 qX) (y.1:List qm))],false,[]⟩)
def qz6 (N:Nat):List (Nat×qw):=[]
abbrev WN:=List qm×Int
def qlX:SP:=⟨0,28,[],[(1,.k (.p 10 [] 0)),(2,.k (.p 20 [] 0)),(10,.x (.i .i64)),(11,.x (.i .i64))],[(10,.cell false (.ag [.x (.ba 16),.x qh,.v 100050])),(20,.cell false (.ag [.x (.ba 16),.x qh,.vs 25])),(25,.vec false 37),(100050,.vec false 37)],false,[]⟩
def qAv (f:KW) (v:WN):TSt:=zq qlX [dv (.sl 37 qX) f.1,dv (.sl 37 qX) v.1,dv (.ba 16) f.2.1,dv qh f.2.2.1,dv .nat f.2.2.2.1,dv (.ba 16) f.2.2.2.2.1,dv qh f.2.2.2.2.2.1,dv (.i .i64) f.2.2.2.2.2.2,dv (.i .i64) v.2]
def KZ (N:Nat) (o_3:List qm) (o_3_3:Vector UInt8 16) (o_3_4:qc) (o_3_5:Nat) (o_3_6:Vector UInt8 16) (o_3_7:qc) (s10_3:Int) (v:WN):Tree (WN⊕Vx):=
 .cond (decide (v.2 < s10_3)) (
 .chk (0≤v.2∧v.2 < ((o_3_5:Nat):Int)) <|
 .bind (jy v.1 o_3_5 v.2.toNat) fun e1=>
 .bind (Vz (qm.B e1)) fun r2=>
 .chk (0≤v.2∧v.2 < ((o_3_5:Nat):Int)) <|
 .bind (jy v.1 o_3_5 v.2.toNat) fun e3=>
 .chk (qp (v.2 + 1)) <|
 .ret (.inl (v.1.set v.2.toNat (qm.mk (qm.No e3) (qm.S e3) (qm.Len e3) (qm.D e3) ((([]:List zy))++(qm.B e1))),v.2 + 1))) <|
 .ret (.inr (v.1,v.2,decide (v.2 < s10_3)))
def ql5 (N n:Nat) (f:KW) (v:WN):Option Vx:=qQ (KZ N f.1 f.2.1 f.2.2.1 f.2.2.2.1 f.2.2.2.2.1 f.2.2.2.2.2.1 f.2.2.2.2.2.2) some n v
theorem qAx (N:Nat) (f:KW) (n:Nat) (v:WN) (y:Vx) (h:ql5 N n f v=some y):LG Tryz.prog qjw 63 (qE qBA 3) (qAv f v) (WQ f y):=
 zj qk (E:=qrV N) (L:=qJ (qz6 N)) (st:=WQ f) (g:=some) (R:=WQ f) (qnL N) (qt (by kernel_rfl) trivial) (rg0 (by kernel_rfl)) (fun v=>by kernel_rfl) (qP (st:=WQ f) fun y=>by rfl) n v y h
def qiK (N:Nat) (o_3:List qm) (o_3_3:Vector UInt8 16) (o_3_4:qc) (o_3_5:Nat) (o_3_6:Vector UInt8 16) (o_3_7:qc) (s10_3:Int) (o_3_2:List qm) (s11_3:Int):Option Vx:=ql5 N N (o_3,o_3_3,o_3_4,o_3_5,o_3_6,o_3_7,s10_3) (o_3_2,s11_3)
def qlZ (N:Nat):qw:=smL qlX [(.sl 37 qX),(.sl 37 qX),(.ba 16),qh,.nat,(.ba 16),qh,(.i .i64),(.i .i64)] Vx (fun x=>qiK N x.1 x.2.2.1 x.2.2.2.1 x.2.2.2.2.1 x.2.2.2.2.2.1 x.2.2.2.2.2.2.1 x.2.2.2.2.2.2.2.1 x.2.1 x.2.2.2.2.2.2.2.2.1) cs1 fun x=>WQ (x.1,x.2.2.1,x.2.2.2.1,x.2.2.2.2.1,x.2.2.2.2.2.1,x.2.2.2.2.2.2.1,x.2.2.2.2.2.2.2.1)
theorem qwJ (N:Nat):zZ Tryz.prog qjw 63 (qE qBA 3) (qlZ N):=zp fun x z h=>qAx N (x.1,x.2.2.1,x.2.2.2.1,x.2.2.2.2.1,x.2.2.2.2.2.1,x.2.2.2.2.2.2.1,x.2.2.2.2.2.2.2.1) N (x.2.1,x.2.2.2.2.2.2.2.2.1) z h
def qFz (z:qn):TV×THp:=(.tv qZ z,[])
def qjX (N:Nat) (a0:qn):Tree (qn):=
 .bind (Zx (qn.F a0)) fun r1=>
 .bind (zV [(([]:List qm).length,0)] (qiK N [] (qn.ID a0) (qn.qz a0) (((([]:List qm))++(qn.F a0)).length) ((Vector.replicate 16 0)) (qc.mk 0 0) ((((([]:List qm))++(qn.F a0)).length:Nat):Int) ((([]:List qm))++(qn.F a0)) 0)) fun z2=>
 .chk (z2.1.length=((([]:List qm))++(qn.F a0)).length) <|
 .ret (qn.mk (qn.ID a0) (qn.qz a0) z2.1)
def qiM (N:Nat) (a0:qn):Option (qn):=(qjX N a0).run some
def qFn (N:Nat):List (Nat×qw):=[(3,qlZ N)]
def qr5 (N:Nat):Ent:=smF ⟨63,[],[.x qZ],[],[]⟩ [qZ] (qn) (fun x=>qiM N x.1) cs1 fun _=>qFz
theorem qES (N:Nat):zf Tryz.prog (qr5 N):=
 zd (H:=qjw) (L:=qJ (qFn N)) (ts:=[qZ]) (T:=fun x=>qjX N x.1) 0 qTM (qnL N) (qt (by kernel_rfl) ⟨qwJ N,trivial⟩) (rg0 (by kernel_rfl)) fun x=>by kernel_rfl
noncomputable def qQ9:Code:=Tryz.f26.body.getD .skip
theorem qT7:FnF Tryz.prog 26 Tryz.f26 qQ9:=⟨qk,by kernel_rfl,by kernel_rfl,by kernel_rfl⟩
def qC5:TH:={ live:=[(0,[2,3,4]),(1,[2,4,6]),(2,[2,4,6,12]),(3,[4,5]),(4,[4,5])],nil:=[(0,[⟨.ob 40 [2],45,(.sl 37 qX)⟩]),(3,[⟨.ob 40 [2],45,(.sl 37 qX)⟩])] }
def qEW (N:Nat):List Ent:=[qeM N,qr5 N]
theorem qAF (N:Nat):qU Tryz.prog (qEW N):=⟨qmP N,qES N,trivial⟩
def qEM (z:qn×Bool):TV×THp:=(.tup [.tv qZ (z.1:qn),xb z.2],[])
def qhR (N:Nat) (a0:qg) (a1:Vector UInt8 16):Tree (qn×Bool):=
 .bind (X8 N a1 (qg.L a0)) fun r1=>
 .cond (decide (r1 < ((0:Int)))) (
 .chk (0=0) <|
 .ret (qn.mk ((Vector.replicate 16 0)) (qc.mk 0 0) [],false)) <|
 .bind (qM (qg.L a0) r1) fun e2=>
 .bind (qiM N e2) fun r3=>
 .ret (r3,true)
def YT (N:Nat) (a0:qg) (a1:Vector UInt8 16):Option (qn×Bool):=(qhR N a0 a1).run some
def qDI (N:Nat):List (Nat×qw):=[]
def qiu (N:Nat):Ent:=smF ⟨26,[],[.x qo,.x (.ba 16)],[],[]⟩ [qo,(.ba 16)] (qn×Bool) (fun x=>YT N x.1 x.2.1) cs1 fun _=>qEM
theorem qmS (N:Nat):zf Tryz.prog (qiu N):=
 zd (H:=qC5) (L:=qJ (qDI N)) (ts:=[qo,(.ba 16)]) (T:=fun x=>qhR N x.1 x.2.1) 0 qT7 (qAF N) (qt (by kernel_rfl) trivial) (rg0 (by kernel_rfl)) fun x=>by kernel_rfl
noncomputable def qSx:Code:=Tryz.f82.body.getD .skip
theorem qS0:FnF Tryz.prog 82 Tryz.f82 qSx:=⟨qk,by kernel_rfl,by kernel_rfl,by kernel_rfl⟩
def qAG:TH:={ live:=[(0,[1,2]),(1,[3])] }
def qz7 (N:Nat):List Ent:=[]
theorem qwk (N:Nat):qU Tryz.prog (qz7 N):=trivial
def qAD (a0:Int) (a1:qm) (z:Unit):TV×THp:=(xb (decide ((qm.No a1)=a0)),[(50,.cell false (xi a0))])
def ql1 (a0:Int) (a1:qm):Tree (Unit):=
 .ret ()
def qiE (a0:Int) (a1:qm):Option (Unit):=(ql1 a0 a1).run some
def qzI:List (Nat×qw):=[]
def qlQ:Ent:=smF ⟨82,[],[.x qX],[.k (.p 50 [] 0)],[(50,.cell false (.x (.i .i64)))]⟩ [(.i .i64),qX] (Unit) (fun x=>qiE x.1 x.2.1) cs1 fun x=>qAD x.1 x.2.1
theorem qyx:zf Tryz.prog (qlQ):=
 zd (H:=qAG) (L:=qJ (qzI)) (ts:=[(.i .i64),qX]) (T:=fun x=>ql1 x.1 x.2.1) 0 qS0 (qwk 0) (qt (by kernel_rfl) trivial) (rg0 (by kernel_rfl)) fun x=>by kernel_rfl
noncomputable def qBJ:Code:=Tryz.f64.body.getD .skip
theorem qR4:FnF Tryz.prog 64 Tryz.f64 qBJ:=⟨qk,by kernel_rfl,by kernel_rfl,by kernel_rfl⟩
def W1:TH:={ live:=[(0,[0,1]),(1,[0,1,7,8]),(2,[0,1,7,8,9]),(3,[0,1,5,7,8]),(4,[0,1,5,7,8,16]),(5,[4]),(6,[0,1,7,8]),(7,[4])] }
def qc0 (N:Nat):List Ent:=[qlQ]
theorem qaE (N:Nat):qU Tryz.prog (qc0 N):=⟨qyx,trivial⟩
abbrev Q5:=Int×List qm×Int
abbrev jP:=Int⊕(Int×Bool)
def vG (f:Q5):jP→Ex×TSt
 | .inl y=>(.ret,⟨1,19,[50],[(4,xi y)],[(50,.cell false (xi f.1))],false,[]⟩)
 | .inr y=>(.exit 0,⟨1,19,[50],[(0,.tv (.sl 37 qX) f.2.1),(1,.fn (.func 82) [] [.p 50 [] 0]),(7,xi f.2.2),(8,xi y.1),(9,xb y.2)],[(50,.cell false (xi f.1))],false,[]⟩)
def qj1 (N:Nat):List (Nat×qw):=[]
abbrev vI:=Int
def qaB:SP:=⟨1,19,[50],[(0,.x (.sl 37 qX)),(1,.fn 82 [] [.k (.p 50 [] 0)]),(7,.x (.i .i64)),(8,.x (.i .i64))],[(50,.cell false (.x (.i .i64)))],false,[]⟩
def qjR (f:Q5) (v:vI):TSt:=zq qaB [dv (.i .i64) f.1,dv (.sl 37 qX) f.2.1,dv (.i .i64) f.2.2,dv (.i .i64) v]
def vC (N:Nat) (o_2:Int) (s0_2:List qm) (s7_2:Int) (v:vI):Tree (vI⊕jP):=
 .cond (decide (v < s7_2)) (
 .bind (qM s0_2 v) fun e1=>
 .bind (qiE o_2 e1) fun r2=>
 .cond (decide ((qm.No e1)=o_2)) (
 .ret (.inr (.inl v))) <|
 .chk (qp (v + 1)) <|
 .ret (.inl (v + 1))) <|
 .ret (.inr (.inr ((v,decide (v < s7_2)))))
def qai (N n:Nat) (f:Q5) (v:vI):Option jP:=qQ (vC N f.1 f.2.1 f.2.2) some n v
theorem qjF (N:Nat) (f:Q5) (n:Nat) (v:vI) (y:jP) (h:qai N n f v=some y):LG Tryz.prog W1 64 (qE qBJ 2) (qjR f v) (vG f y):=
 zj qk (E:=qc0 N) (L:=qJ (qj1 N)) (st:=vG f) (g:=some) (R:=vG f) (qaE N) (qt (by kernel_rfl) trivial) (rg0 (by kernel_rfl)) (fun v=>by kernel_rfl) (qP (st:=vG f) fun y=>by rcases y with _ | _<;>rfl) n v y h
def Wu (N:Nat) (o_2:Int) (s0_2:List qm) (s7_2:Int) (s8_2:Int):Option jP:=qai N N (o_2,s0_2,s7_2) s8_2
def qah (N:Nat):qw:=smL qaB [(.i .i64),(.sl 37 qX),(.i .i64),(.i .i64)] jP (fun x=>Wu N x.1 x.2.1 x.2.2.1 x.2.2.2.1) (csS cs1) fun x=>vG (x.1,x.2.1,x.2.2.1)
theorem qiY (N:Nat):zZ Tryz.prog W1 64 (qE qBJ 2) (qah N):=zp fun x z h=>qjF N (x.1,x.2.1,x.2.2.1) N x.2.2.2.1 z h
def qmy (a0:Int) (z:Int):TV×THp:=(xi z,[(50,.cell false (xi a0))])
def W2 (N:Nat) (a0:Int) (a1:List qm):Tree (Int):=
 .bind (Wu N a0 a1 ((a1.length:Nat):Int) 0) fun z1=>
 .sum z1 (fun z2=>
 .ret z2) fun z2=>
 .ret (-1)
def VG (N:Nat) (a0:Int) (a1:List qm):Option (Int):=(W2 N a0 a1).run some
def qmx (N:Nat):List (Nat×qw):=[(2,qah N)]
def qc4 (N:Nat):Ent:=smF ⟨64,[],[.x (.sl 37 qX),.fn 82 [] [.k (.p 50 [] 0)]],[],[(50,.cell false (.x (.i .i64)))]⟩ [(.i .i64),(.sl 37 qX)] (Int) (fun x=>VG N x.1 x.2.1) cs1 fun x=>qmy x.1
theorem qlj (N:Nat):zf Tryz.prog (qc4 N):=
 zd (H:=W1) (L:=qJ (qmx N)) (ts:=[(.i .i64),(.sl 37 qX)]) (T:=fun x=>W2 N x.1 x.2.1) 0 qR4 (qaE N) (qt (by kernel_rfl) ⟨qiY N,trivial⟩) (rg0 (by kernel_rfl)) fun x=>by kernel_rfl
noncomputable def qSg:Code:=Tryz.f49.body.getD .skip
theorem qRd:FnF Tryz.prog 49 Tryz.f49 qSg:=⟨qk,by kernel_rfl,by kernel_rfl,by kernel_rfl⟩
def qD5:TH:={ live:=[(0,[3,4,5]),(1,[3,4,7]),(2,[3,4,7,12]),(3,[6]),(4,[3,4,7,19]),(5,[6]),(6,[3,4,7,22]),(7,[6]),(8,[6])] }
def qEe (N:Nat):List Ent:=[qc4 N,XQ N,qCW N,qtI]
theorem qzT (N:Nat):qU Tryz.prog (qEe N):=⟨qlj N,Wv N,qG2 N,qA4,trivial⟩
def qEI (z:Bool):TV×THp:=(xb z,[])
def qh_ (N:Nat) (a0:qe) (a1:qn) (a2:Int):Tree (Bool):=
 .bind (VG N a2 (qn.F a1)) fun r1=>
 .bind (vz N (qn.qz a1) (qe.S a0)) fun r2=>
 .cond (!r2) (
 .ret false) <|
 .cond (decide (r1 < ((0:Int)))) (
 .ret true) <|
 .bind (qM (qn.F a1) r1) fun e3=>
 .cond (!(eqE qh (qm.S e3) (qe.S a0))) (
 .bind (qM (qn.F a1) r1) fun e4=>
 .bind (vz N (qm.S e4) (qe.S a0)) fun r5=>
 .ret r5) <|
 .bind (qM (qn.F a1) r1) fun e4=>
 .bind (qrE N (qe.V a0)) fun r5=>
 .bind (qjZ (qm.D e4) r5) fun r6=>
 .ret r6
def YR (N:Nat) (a0:qe) (a1:qn) (a2:Int):Option (Bool):=(qh_ N a0 a1 a2).run some
def qEw (N:Nat):List (Nat×qw):=[]
def qil (N:Nat):Ent:=smF ⟨49,[],[.x qq,.x qZ,.x (.i .i64)],[],[]⟩ [qq,qZ,(.i .i64)] (Bool) (fun x=>YR N x.1 x.2.1 x.2.2.1) cs1 fun _=>qEI
theorem qnh (N:Nat):zf Tryz.prog (qil N):=
 zd (H:=qD5) (L:=qJ (qEw N)) (ts:=[qq,qZ,(.i .i64)]) (T:=fun x=>qh_ N x.1 x.2.1 x.2.2.1) 0 qRd (qzT N) (qt (by kernel_rfl) trivial) (rg0 (by kernel_rfl)) fun x=>by kernel_rfl
def qrS:TH:={ live:=[(0,[2,3]),(1,[2,3,14]),(2,[4]),(3,[2,3,5]),(4,[5,17]),(5,[5,6]),(6,[5,6,21]),(8,[4])],dec:=[10],fresh:=[17] }
def qsG (N:Nat):List Ent:=[qit]
theorem qom (N:Nat):qU Tryz.prog (qsG N):=⟨qlg,trivial⟩
def qrt (a0:qb) (a1:qg) (a2:qa):Unit⊕Unit→TV×THp
 | .inl z=>(.bc true,[(50,.cell false (.v 200250 1)),(50050,.loop [18] 27 [(5,.p 50 [] 0),(17,.fn (.func 79) [] [.p 100020 [] 0,.p 100030 [] 0])] 1600005 16 .ready none 50051),(50051,.dfr true),(100020,.cell false (.tv qj a0)),(100030,.cell false (.tv qo a1)),(200250,.vec false 19 (.sl 19 qf) ([a2]:List qa))])
 | .inr z=>(.bc true,[(50,.cell false .nils),(50050,.loop [18] 27 [(5,.p 50 [] 0),(17,.fn (.func 79) [] [.p 100020 [] 0,.p 100030 [] 0])] 1600005 16 .ready none 50051),(50051,.dfr true),(100020,.cell false (.tv qj a0)),(100030,.cell false (.tv qo a1))])
def qat (a0:qb) (a1:qg) (a2:qa):Tree (Unit⊕Unit):=
 .bind (J7 a2) fun r1=>
 .cond (!r1) (
 .chk (qij 1 56) <|
 .ret (.inl ())) <|
 .ret (.inr ())
def Zz (a0:qb) (a1:qg) (a2:qa):Option (Unit⊕Unit):=(qat a0 a1 a2).run some
def qrC:List (Nat×qw):=[]
def qgS:Ent:=smR 50050 [.x qf] [(50,.cell false (.k .nils)),(50050,.loop [18] 27 [(5,.k (.p 50 [] 0)),(17,.fn 79 [] [.k (.p 100020 [] 0),.k (.p 100030 [] 0)])] 1600005 16 .ready none 50051),(50051,.dfr true),(100020,.cell false (.x qj)),(100030,.cell false (.x qo))] [qj,qo,qf] (Unit⊕Unit) (fun x=>Zz x.1 x.2.1 x.2.2.1) (csS cs1) fun x=>qrt x.1 x.2.1 x.2.2.1
theorem qqg:zf Tryz.prog (qgS):=
 qM_ (H:=qrS) (L:=qJ (qrC)) (ts:=[qj,qo,qf]) (T:=fun x=>qat x.1 x.2.1 x.2.2.1) (K:=16) (cid:=1600005) 2 qk (qom 0) (by kernel_rfl) (qt (by kernel_rfl) trivial) (rg0 (by kernel_rfl)) (rg0 (by kernel_rfl)) (fun x=>by kernel_rfl) fun x=>by kernel_rfl
def qn_:TH:={ live:=[(0,[2,3]),(1,[2,3,14]),(2,[4]),(3,[2,3,5]),(4,[5,17]),(5,[5,6]),(6,[5,6,21]),(8,[4])],dec:=[10],fresh:=[17] }
def qoc (N:Nat):List Ent:=[qit]
theorem qmk (N:Nat):qU Tryz.prog (qoc N):=⟨qlg,trivial⟩
def qop (a1:qb) (a2:qg) (z:List qa):TV×THp:=(.bc true,[(50,.cell false (.v 200250 z.length)),(50050,.loop [18] 27 [(5,.p 50 [] 0),(17,.fn (.func 79) [] [.p 100020 [] 0,.p 100030 [] 0])] 1600005 16 .ready none 50051),(50051,.dfr true),(100020,.cell false (.tv qj a1)),(100030,.cell false (.tv qo a2)),(200250,.vec false 19 (.sl 19 qf) z)])
def YE (a0:List qa) (a1:qb) (a2:qg) (a3:qa):Tree (List qa):=
 .bind (J7 a3) fun r1=>
 .cond (!r1) (
 .chk (zU a0.length a0.length ((a0++[a3]).length) 56) <|
 .ret (a0++[a3])) <|
 .ret a0
def JS (a0:List qa) (a1:qb) (a2:qg) (a3:qa):Option (List qa):=(YE a0 a1 a2 a3).run some
def qoo:List (Nat×qw):=[]
def qeL:Ent:=smR 50050 [.x qf] [(50,.cell false (.vs 200250)),(50050,.loop [18] 27 [(5,.k (.p 50 [] 0)),(17,.fn 79 [] [.k (.p 100020 [] 0),.k (.p 100030 [] 0)])] 1600005 16 .ready none 50051),(50051,.dfr true),(100020,.cell false (.x qj)),(100030,.cell false (.x qo)),(200250,.vec false 19)] [(.sl 19 qf),qj,qo,qf] (List qa) (fun x=>JS x.1 x.2.1 x.2.2.1 x.2.2.2.1) cs1 fun x=>qop x.2.1 x.2.2.1
theorem qnD:zf Tryz.prog (qeL):=
 qM_ (H:=qn_) (L:=qJ (qoo)) (ts:=[(.sl 19 qf),qj,qo,qf]) (T:=fun x=>YE x.1 x.2.1 x.2.2.1 x.2.2.2.1) (K:=16) (cid:=1600005) 3 qk (qmk 0) (by kernel_rfl) (qt (by kernel_rfl) trivial) (rg0 (by kernel_rfl)) (rg0 (by kernel_rfl)) (fun x=>by kernel_rfl) fun x=>by kernel_rfl
noncomputable def qdZ:Code:=Tryz.f79.body.getD .skip
theorem qRo:FnF Tryz.prog 79 Tryz.f79 qdZ:=⟨qk,by kernel_rfl,by kernel_rfl,by kernel_rfl⟩
def JP:TH:={ live:=[(0,[0,2,12,13,14]),(1,[0,2,12,13,14,15]),(2,[0,2,5,12,13,14]),(3,[0,2,5,6,12,13,14]),(4,[0,2,5,6,8,12,13,14]),(5,[0,2,5,6,8,12,13,14,32]),(6,[0,2,5,6,8,12,13,14]),(7,[0,2,6,8,12,13,14,37,38,39]),(8,[0,2,6,8,12,13,14,37,38,39,40]),(9,[0,2,6,8,10,12,13,14,37,38,39]),(10,[0,2,6,8,10,12,13,14,37,38,39,48]),(11,[0,2,6,8,12,13,14,37,38,39]),(12,[0,2,6,8,12,13,14,37,38,39]),(13,[0,2,12,13,14,59]),(14,[0,2,12,13,14])],fresh:=[58],nil:=[(4,[⟨.ob 200080 [2],200085,(.sl 4 qB)⟩])] }
def qav (N:Nat):List Ent:=[qiu N,XQ N,qil N,qgS,qeL]
theorem Yh (N:Nat):qU Tryz.prog (qav N):=⟨qmS N,Wv N,qnh N,qqg,qnD,trivial⟩
abbrev KV:=qb×qg×qn×Vector UInt8 16×qc×List qa×Int×Int×List qd×Int
abbrev Vt:=List qd×Int×Bool
def WI (f:KV) (y:Vt):Ex×TSt:=(.exit 2,⟨2,61,[50,50050,50051,100020,100030],[(0,.yl 50050),(2,.p 100030 [] 0),(6,.p 200060 [] 0),(8,.p 200080 [] 0),(12,.tv (.sl 19 qf) f.2.2.2.2.2.1),(13,xi f.2.2.2.2.2.2.1),(14,xi f.2.2.2.2.2.2.2.1),(37,.tv (.sl 4 qB) f.2.2.2.2.2.2.2.2.1),(38,xi f.2.2.2.2.2.2.2.2.2),(39,xi y.2.1),(40,xb y.2.2)],[(50,.cell false .nils),(50050,.loop [18] 27 [(5,.p 50 [] 0),(17,.fn (.func 79) [] [.p 100020 [] 0,.p 100030 [] 0])] 1600005 16 .ready none 50051),(50051,.dfr true),(100020,.cell false (.tv qj f.1)),(100030,.cell false (.tv qo f.2.1)),(200060,.cell false (.tv qZ f.2.2.1)),(200080,.cell false (.ag [.tv (.ba 16) f.2.2.2.1,.tv qh f.2.2.2.2.1,.v 200085 y.1.length])),(200085,.vec false 4 (.sl 4 qB) (y.1:List qd))],false,[]⟩)
def qzR (N:Nat):List (Nat×qw):=[]
abbrev WB:=List qd×Int
def qlK:SP:=⟨2,61,[50,50050,50051,100020,100030],[(0,.k (.yl 50050)),(2,.k (.p 100030 [] 0)),(6,.k (.p 200060 [] 0)),(8,.k (.p 200080 [] 0)),(12,.x (.sl 19 qf)),(13,.x (.i .i64)),(14,.x (.i .i64)),(37,.x (.sl 4 qB)),(38,.x (.i .i64)),(39,.x (.i .i64))],[(50,.cell false (.k .nils)),(50050,.loop [18] 27 [(5,.k (.p 50 [] 0)),(17,.fn 79 [] [.k (.p 100020 [] 0),.k (.p 100030 [] 0)])] 1600005 16 .ready none 50051),(50051,.dfr true),(100020,.cell false (.x qj)),(100030,.cell false (.x qo)),(200060,.cell false (.x qZ)),(200080,.cell false (.ag [.x (.ba 16),.x qh,.vs 200085])),(200085,.vec false 4)],false,[]⟩
def qAq (f:KV) (v:WB):TSt:=zq qlK [dv (.sl 4 qB) v.1,dv qj f.1,dv qo f.2.1,dv qZ f.2.2.1,dv (.ba 16) f.2.2.2.1,dv qh f.2.2.2.2.1,dv (.sl 19 qf) f.2.2.2.2.2.1,dv (.i .i64) f.2.2.2.2.2.2.1,dv (.i .i64) f.2.2.2.2.2.2.2.1,dv (.sl 4 qB) f.2.2.2.2.2.2.2.2.1,dv (.i .i64) f.2.2.2.2.2.2.2.2.2,dv (.i .i64) v.2]
def KR (N:Nat) (o_8_2:qb) (o_8_3:qg) (o_8_4:qn) (o_8_5:Vector UInt8 16) (o_8_6:qc) (s12_8:List qa) (s13_8:Int) (s14_8:Int) (s37_8:List qd) (s38_8:Int) (v:WB):Tree (WB⊕Vt):=
 .cond (decide (v.2 < s38_8)) (
 .bind (qM s37_8 v.2) fun e1=>
 .bind (YR N (qd.C e1) o_8_4 (qd.No e1)) fun r2=>
 .cond r2 (
 .chk (zU v.1.length v.1.length ((v.1++[e1]).length) 40) <|
 .chk (qp (v.2 + 1)) <|
 .ret (.inl (v.1++[e1],v.2 + 1))) <|
 .chk (qp (v.2 + 1)) <|
 .ret (.inl (v.1,v.2 + 1))) <|
 .ret (.inr (v.1,v.2,decide (v.2 < s38_8)))
def qlM (N n:Nat) (f:KV) (v:WB):Option Vt:=qQ (KR N f.1 f.2.1 f.2.2.1 f.2.2.2.1 f.2.2.2.2.1 f.2.2.2.2.2.1 f.2.2.2.2.2.2.1 f.2.2.2.2.2.2.2.1 f.2.2.2.2.2.2.2.2.1 f.2.2.2.2.2.2.2.2.2) some n v
theorem qAB (N:Nat) (f:KV) (n:Nat) (v:WB) (y:Vt) (h:qlM N n f v=some y):LG Tryz.prog JP 79 (qE (qE qdZ 1) 8) (qAq f v) (WI f y):=
 zj qk (E:=qav N) (L:=qJ (qzR N)) (st:=WI f) (g:=some) (R:=WI f) (Yh N) (qt (by kernel_rfl) trivial) (rg0 (by kernel_rfl)) (fun v=>by kernel_rfl) (qP (st:=WI f) fun y=>by rfl) n v y h
def Kc (N:Nat) (o_8_2:qb) (o_8_3:qg) (o_8_4:qn) (o_8_5:Vector UInt8 16) (o_8_6:qc) (s12_8:List qa) (s13_8:Int) (s14_8:Int) (s37_8:List qd) (s38_8:Int) (o_8:List qd) (s39_8:Int):Option Vt:=qlM N N (o_8_2,o_8_3,o_8_4,o_8_5,o_8_6,s12_8,s13_8,s14_8,s37_8,s38_8) (o_8,s39_8)
def qlL (N:Nat):qw:=smL qlK [(.sl 4 qB),qj,qo,qZ,(.ba 16),qh,(.sl 19 qf),(.i .i64),(.i .i64),(.sl 4 qB),(.i .i64),(.i .i64)] Vt (fun x=>Kc N x.2.1 x.2.2.1 x.2.2.2.1 x.2.2.2.2.1 x.2.2.2.2.2.1 x.2.2.2.2.2.2.1 x.2.2.2.2.2.2.2.1 x.2.2.2.2.2.2.2.2.1 x.2.2.2.2.2.2.2.2.2.1 x.2.2.2.2.2.2.2.2.2.2.1 x.1 x.2.2.2.2.2.2.2.2.2.2.2.1) cs1 fun x=>WI (x.2.1,x.2.2.1,x.2.2.2.1,x.2.2.2.2.1,x.2.2.2.2.2.1,x.2.2.2.2.2.2.1,x.2.2.2.2.2.2.2.1,x.2.2.2.2.2.2.2.2.1,x.2.2.2.2.2.2.2.2.2.1,x.2.2.2.2.2.2.2.2.2.2.1)
theorem qkE (N:Nat):zZ Tryz.prog JP 79 (qE (qE qdZ 1) 8) (qlL N):=zp fun x z h=>qAB N (x.2.1,x.2.2.1,x.2.2.2.1,x.2.2.2.2.1,x.2.2.2.2.2.1,x.2.2.2.2.2.2.1,x.2.2.2.2.2.2.2.1,x.2.2.2.2.2.2.2.2.1,x.2.2.2.2.2.2.2.2.2.1,x.2.2.2.2.2.2.2.2.2.2.1) N (x.1,x.2.2.2.2.2.2.2.2.2.2.2.1) z h
abbrev YB:=List qa×qb×qg×qn×Vector UInt8 16×qc×List qa×Int×Int×List qd×Int
abbrev ZA:=List qd×Int×Bool
def VX (f:YB) (y:ZA):Ex×TSt:=(.exit 2,⟨2,61,[50,50050,50051,100020,100030],[(0,.yl 50050),(2,.p 100030 [] 0),(6,.p 200060 [] 0),(8,.p 200080 [] 0),(12,.tv (.sl 19 qf) f.2.2.2.2.2.2.1),(13,xi f.2.2.2.2.2.2.2.1),(14,xi f.2.2.2.2.2.2.2.2.1),(37,.tv (.sl 4 qB) f.2.2.2.2.2.2.2.2.2.1),(38,xi f.2.2.2.2.2.2.2.2.2.2),(39,xi y.2.1),(40,xb y.2.2)],[(50,.cell false (.v 200250 f.1.length)),(50050,.loop [18] 27 [(5,.p 50 [] 0),(17,.fn (.func 79) [] [.p 100020 [] 0,.p 100030 [] 0])] 1600005 16 .ready none 50051),(50051,.dfr true),(100020,.cell false (.tv qj f.2.1)),(100030,.cell false (.tv qo f.2.2.1)),(200060,.cell false (.tv qZ f.2.2.2.1)),(200080,.cell false (.ag [.tv (.ba 16) f.2.2.2.2.1,.tv qh f.2.2.2.2.2.1,.v 200085 y.1.length])),(200085,.vec false 4 (.sl 4 qB) (y.1:List qd)),(200250,.vec false 19 (.sl 19 qf) f.1)],false,[]⟩)
def qvA (N:Nat):List (Nat×qw):=[]
abbrev VT:=List qd×Int
def qi4:SP:=⟨2,61,[50,50050,50051,100020,100030],[(0,.k (.yl 50050)),(2,.k (.p 100030 [] 0)),(6,.k (.p 200060 [] 0)),(8,.k (.p 200080 [] 0)),(12,.x (.sl 19 qf)),(13,.x (.i .i64)),(14,.x (.i .i64)),(37,.x (.sl 4 qB)),(38,.x (.i .i64)),(39,.x (.i .i64))],[(50,.cell false (.vs 200250)),(50050,.loop [18] 27 [(5,.k (.p 50 [] 0)),(17,.fn 79 [] [.k (.p 100020 [] 0),.k (.p 100030 [] 0)])] 1600005 16 .ready none 50051),(50051,.dfr true),(100020,.cell false (.x qj)),(100030,.cell false (.x qo)),(200060,.cell false (.x qZ)),(200080,.cell false (.ag [.x (.ba 16),.x qh,.vs 200085])),(200085,.vec false 4),(200250,.vec false 19)],false,[]⟩
def qv4 (f:YB) (v:VT):TSt:=zq qi4 [dv (.sl 4 qB) v.1,dv (.sl 19 qf) f.1,dv qj f.2.1,dv qo f.2.2.1,dv qZ f.2.2.2.1,dv (.ba 16) f.2.2.2.2.1,dv qh f.2.2.2.2.2.1,dv (.sl 19 qf) f.2.2.2.2.2.2.1,dv (.i .i64) f.2.2.2.2.2.2.2.1,dv (.i .i64) f.2.2.2.2.2.2.2.2.1,dv (.sl 4 qB) f.2.2.2.2.2.2.2.2.2.1,dv (.i .i64) f.2.2.2.2.2.2.2.2.2.2,dv (.i .i64) v.2]
def qvS (N:Nat) (o_8_2:List qa) (o_8_3:qb) (o_8_4:qg) (o_8_5:qn) (o_8_6:Vector UInt8 16) (o_8_7:qc) (s12_8:List qa) (s13_8:Int) (s14_8:Int) (s37_8:List qd) (s38_8:Int) (v:VT):Tree (VT⊕ZA):=
 .cond (decide (v.2 < s38_8)) (
 .bind (qM s37_8 v.2) fun e1=>
 .bind (YR N (qd.C e1) o_8_5 (qd.No e1)) fun r2=>
 .cond r2 (
 .chk (zU v.1.length v.1.length ((v.1++[e1]).length) 40) <|
 .chk (qp (v.2 + 1)) <|
 .ret (.inl (v.1++[e1],v.2 + 1))) <|
 .chk (qp (v.2 + 1)) <|
 .ret (.inl (v.1,v.2 + 1))) <|
 .ret (.inr (v.1,v.2,decide (v.2 < s38_8)))
def qi_ (N n:Nat) (f:YB) (v:VT):Option ZA:=qQ (qvS N f.1 f.2.1 f.2.2.1 f.2.2.2.1 f.2.2.2.2.1 f.2.2.2.2.2.1 f.2.2.2.2.2.2.1 f.2.2.2.2.2.2.2.1 f.2.2.2.2.2.2.2.2.1 f.2.2.2.2.2.2.2.2.2.1 f.2.2.2.2.2.2.2.2.2.2) some n v
theorem qvt (N:Nat) (f:YB) (n:Nat) (v:VT) (y:ZA) (h:qi_ N n f v=some y):LG Tryz.prog JP 79 (qE (qE qdZ 1) 8) (qv4 f v) (VX f y):=
 zj qk (E:=qav N) (L:=qJ (qvA N)) (st:=VX f) (g:=some) (R:=VX f) (Yh N) (qt (by kernel_rfl) trivial) (rg0 (by kernel_rfl)) (fun v=>by kernel_rfl) (qP (st:=VX f) fun y=>by rfl) n v y h
def KP (N:Nat) (o_8_2:List qa) (o_8_3:qb) (o_8_4:qg) (o_8_5:qn) (o_8_6:Vector UInt8 16) (o_8_7:qc) (s12_8:List qa) (s13_8:Int) (s14_8:Int) (s37_8:List qd) (s38_8:Int) (o_8:List qd) (s39_8:Int):Option ZA:=qi_ N N (o_8_2,o_8_3,o_8_4,o_8_5,o_8_6,o_8_7,s12_8,s13_8,s14_8,s37_8,s38_8) (o_8,s39_8)
def qjk (N:Nat):qw:=smL qi4 [(.sl 4 qB),(.sl 19 qf),qj,qo,qZ,(.ba 16),qh,(.sl 19 qf),(.i .i64),(.i .i64),(.sl 4 qB),(.i .i64),(.i .i64)] ZA (fun x=>KP N x.2.1 x.2.2.1 x.2.2.2.1 x.2.2.2.2.1 x.2.2.2.2.2.1 x.2.2.2.2.2.2.1 x.2.2.2.2.2.2.2.1 x.2.2.2.2.2.2.2.2.1 x.2.2.2.2.2.2.2.2.2.1 x.2.2.2.2.2.2.2.2.2.2.1 x.2.2.2.2.2.2.2.2.2.2.2.1 x.1 x.2.2.2.2.2.2.2.2.2.2.2.2.1) cs1 fun x=>VX (x.2.1,x.2.2.1,x.2.2.2.1,x.2.2.2.2.1,x.2.2.2.2.2.1,x.2.2.2.2.2.2.1,x.2.2.2.2.2.2.2.1,x.2.2.2.2.2.2.2.2.1,x.2.2.2.2.2.2.2.2.2.1,x.2.2.2.2.2.2.2.2.2.2.1,x.2.2.2.2.2.2.2.2.2.2.2.1)
theorem qiI (N:Nat):zZ Tryz.prog JP 79 (qE (qE qdZ 1) 8) (qjk N):=zp fun x z h=>qvt N (x.2.1,x.2.2.1,x.2.2.2.1,x.2.2.2.2.1,x.2.2.2.2.2.1,x.2.2.2.2.2.2.1,x.2.2.2.2.2.2.2.1,x.2.2.2.2.2.2.2.2.1,x.2.2.2.2.2.2.2.2.2.1,x.2.2.2.2.2.2.2.2.2.2.1,x.2.2.2.2.2.2.2.2.2.2.2.1) N (x.1,x.2.2.2.2.2.2.2.2.2.2.2.2.1) z h
abbrev vw:=qb×qg×List qa×Int
abbrev jY:=(Int×Bool)⊕(List qa×Int×Bool)
def vA (f:vw):jY→Ex×TSt
 | .inl y=>(.exit 0,⟨2,61,[50,50050,50051,100020,100030],[(0,.yl 50050),(2,.p 100030 [] 0),(12,.tv (.sl 19 qf) f.2.2.1),(13,xi f.2.2.2),(14,xi y.1),(15,xb y.2)],[(50,.cell false .nils),(50050,.loop [18] 27 [(5,.p 50 [] 0),(17,.fn (.func 79) [] [.p 100020 [] 0,.p 100030 [] 0])] 1600005 16 .ready none 50051),(50051,.dfr true),(100020,.cell false (.tv qj f.1)),(100030,.cell false (.tv qo f.2.1))],false,[]⟩)
 | .inr y=>(.exit 0,⟨2,61,[50,50050,50051,100020,100030],[(0,.yl 50050),(2,.p 100030 [] 0),(12,.tv (.sl 19 qf) f.2.2.1),(13,xi f.2.2.2),(14,xi y.2.1),(15,xb y.2.2)],[(50,.cell false (.v 200250 y.1.length)),(50050,.loop [18] 27 [(5,.p 50 [] 0),(17,.fn (.func 79) [] [.p 100020 [] 0,.p 100030 [] 0])] 1600005 16 .ready none 50051),(50051,.dfr true),(100020,.cell false (.tv qj f.1)),(100030,.cell false (.tv qo f.2.1)),(200250,.vec false 19 (.sl 19 qf) (y.1:List qa))],false,[]⟩)
def qlF (N:Nat):List (Nat×qw):=[(8,qlL N),(8,qjk N)]
abbrev Q4:=List qa×Int
def qsV:SP:=⟨2,61,[50,50050,50051,100020,100030],[(0,.k (.yl 50050)),(2,.k (.p 100030 [] 0)),(12,.x (.sl 19 qf)),(13,.x (.i .i64)),(14,.x (.i .i64))],[(50,.cell false (.vs 200250)),(50050,.loop [18] 27 [(5,.k (.p 50 [] 0)),(17,.fn 79 [] [.k (.p 100020 [] 0),.k (.p 100030 [] 0)])] 1600005 16 .ready none 50051),(50051,.dfr true),(100020,.cell false (.x qj)),(100030,.cell false (.x qo)),(200250,.vec false 19)],false,[]⟩
def qiW (f:vw) (v:Q4):TSt:=zq qsV [dv (.sl 19 qf) v.1,dv qj f.1,dv qo f.2.1,dv (.sl 19 qf) f.2.2.1,dv (.i .i64) f.2.2.2,dv (.i .i64) v.2]
def Vc (N:Nat) (o_1:qb) (o_1_2:qg) (s12_1:List qa) (s13_1:Int) (v:Q4):Tree (Q4⊕jY):=
 .cond (decide (v.2 < s13_1)) (
 .bind (qM s12_1 v.2) fun e1=>
 .bind (YT N o_1_2 (qa.ID e1)) fun r2=>
 .bind (vz N (qn.qz r2.1) (qa.qz e1)) fun r3=>
 .cond r3 (
 .bind (zV [(v.1.length,v.1.length),(([]:List qd).length,0)] (KP N v.1 o_1 o_1_2 r2.1 (qa.ID e1) (qa.qz e1) s12_1 s13_1 v.2 (qa.F e1) (((qa.F e1).length:Nat):Int) [] 0)) fun z4=>
 .chk (z4.1.length=z4.1.length) <|
 .bind (zV [(v.1.length,v.1.length)] (JS v.1 o_1 o_1_2 (qa.mk (qa.ID e1) (qa.qz e1) z4.1))) fun r5=>
 .chk (qp (v.2 + 1)) <|
 .ret (.inl (r5,v.2 + 1))) <|
 .bind (zV [(v.1.length,v.1.length),(([]:List qd).length,0)] (KP N v.1 o_1 o_1_2 r2.1 (qa.ID e1) (qc.mk 0 0) s12_1 s13_1 v.2 (qa.F e1) (((qa.F e1).length:Nat):Int) [] 0)) fun z4=>
 .chk (z4.1.length=z4.1.length) <|
 .bind (zV [(v.1.length,v.1.length)] (JS v.1 o_1 o_1_2 (qa.mk (qa.ID e1) (qc.mk 0 0) z4.1))) fun r5=>
 .chk (qp (v.2 + 1)) <|
 .ret (.inl (r5,v.2 + 1))) <|
 .ret (.inr (.inr ((v.1,v.2,decide (v.2 < s13_1)))))
def qhT (N n:Nat) (f:vw) (v:Q4):Option jY:=qQ (Vc N f.1 f.2.1 f.2.2.1 f.2.2.2) some n v
theorem qtK (N:Nat) (f:vw) (n:Nat) (v:Q4) (y:jY) (h:qhT N n f v=some y):LG Tryz.prog JP 79 (qE qdZ 1) (qiW f v) (vA f y):=
 zj qk (E:=qav N) (L:=qJ (qlF N)) (st:=vA f) (g:=some) (R:=vA f) (Yh N) (qt (by kernel_rfl) ⟨qkE N,qiI N,trivial⟩) (rg0 (by kernel_rfl)) (fun v=>by kernel_rfl) (qP (st:=vA f) fun y=>by rcases y with _ | _<;>rfl) n v y h
abbrev WG:=Int
def qlY:SP:=⟨2,61,[50,50050,50051,100020,100030],[(0,.k (.yl 50050)),(2,.k (.p 100030 [] 0)),(12,.x (.sl 19 qf)),(13,.x (.i .i64)),(14,.x (.i .i64))],[(50,.cell false (.k .nils)),(50050,.loop [18] 27 [(5,.k (.p 50 [] 0)),(17,.fn 79 [] [.k (.p 100020 [] 0),.k (.p 100030 [] 0)])] 1600005 16 .ready none 50051),(50051,.dfr true),(100020,.cell false (.x qj)),(100030,.cell false (.x qo))],false,[]⟩
def qzM (f:vw) (v:WG):TSt:=zq qlY [dv qj f.1,dv qo f.2.1,dv (.sl 19 qf) f.2.2.1,dv (.i .i64) f.2.2.2,dv (.i .i64) v]
abbrev KN:=Q4⊕jY
def WD (N:Nat) (o_1:qb) (o_1_2:qg) (s12_1:List qa) (s13_1:Int) (v:WG):Tree (WG⊕KN):=
 .cond (decide (v < s13_1)) (
 .bind (qM s12_1 v) fun e1=>
 .bind (YT N o_1_2 (qa.ID e1)) fun r2=>
 .bind (vz N (qn.qz r2.1) (qa.qz e1)) fun r3=>
 .cond r3 (
 .bind (zV [(([]:List qd).length,0)] (Kc N o_1 o_1_2 r2.1 (qa.ID e1) (qa.qz e1) s12_1 s13_1 v (qa.F e1) (((qa.F e1).length:Nat):Int) [] 0)) fun z4=>
 .chk (z4.1.length=z4.1.length) <|
 .bind (Zz o_1 o_1_2 (qa.mk (qa.ID e1) (qa.qz e1) z4.1)) fun r5=>
 .sum r5 (fun r6=>
 .chk (qp (v + 1)) <|
 .ret (.inr (.inl ([qa.mk (qa.ID e1) (qa.qz e1) z4.1],v + 1)))) fun r6=>
 .chk (qp (v + 1)) <|
 .ret (.inl (v + 1))) <|
 .bind (zV [(([]:List qd).length,0)] (Kc N o_1 o_1_2 r2.1 (qa.ID e1) (qc.mk 0 0) s12_1 s13_1 v (qa.F e1) (((qa.F e1).length:Nat):Int) [] 0)) fun z4=>
 .chk (z4.1.length=z4.1.length) <|
 .bind (Zz o_1 o_1_2 (qa.mk (qa.ID e1) (qc.mk 0 0) z4.1)) fun r5=>
 .sum r5 (fun r6=>
 .chk (qp (v + 1)) <|
 .ret (.inr (.inl ([qa.mk (qa.ID e1) (qc.mk 0 0) z4.1],v + 1)))) fun r6=>
 .chk (qp (v + 1)) <|
 .ret (.inl (v + 1))) <|
 .ret (.inr (.inr ((.inl (v,decide (v < s13_1))))))
def qfb (N n:Nat) (f:vw):KN→Option jY
 | .inl w=>qhT N n f w
 | .inr w=>some w
def qz0 (f:vw):KN→Ex×TSt
 | .inl w=>(.normal,qiW f w)
 | .inr w=>vA f w
def ql2 (N n:Nat) (f:vw) (v:WG):Option jY:=qQ (WD N f.1 f.2.1 f.2.2.1 f.2.2.2) (qfb N n f) n v
theorem qAc (N:Nat) (f:vw) (n:Nat) (v:WG) (y:jY) (h:ql2 N n f v=some y):LG Tryz.prog JP 79 (qE qdZ 1) (qzM f v) (vA f y):=
 zj qk (E:=qav N) (L:=qJ (qlF N)) (st:=qz0 f) (g:=(qfb N n f)) (R:=vA f) (Yh N) (qt (by kernel_rfl) ⟨qkE N,qiI N,trivial⟩) (rg0 (by kernel_rfl)) (fun v=>by kernel_rfl) (fun w y h=>by
 rcases w with w | w
 ·exact qtK N f n w y h
 ·exact qP (st:=vA f) (fun y=>by rcases y with _ | _<;>rfl) w y h
) n v y h
def qik (N:Nat) (o_1:qb) (o_1_2:qg) (s12_1:List qa) (s13_1:Int) (s14_1:Int):Option jY:=ql2 N N (o_1,o_1_2,s12_1,s13_1) s14_1
def qlD (N:Nat):qw:=smL qlY [qj,qo,(.sl 19 qf),(.i .i64),(.i .i64)] jY (fun x=>qik N x.1 x.2.1 x.2.2.1 x.2.2.2.1 x.2.2.2.2.1) (csS cs1) fun x=>vA (x.1,x.2.1,x.2.2.1,x.2.2.2.1)
theorem qxZ (N:Nat):zZ Tryz.prog JP 79 (qE qdZ 1) (qlD N):=zp fun x z h=>qAc N (x.1,x.2.1,x.2.2.1,x.2.2.2.1) N x.2.2.2.2.1 z h
def qFL (a0:qb) (a1:qg):Unit⊕List qa→TV×THp
 | .inl z=>(.tup [],[(50,.cell false .nils),(50050,.loop [18] 27 [(5,.p 50 [] 0),(17,.fn (.func 79) [] [.p 100020 [] 0,.p 100030 [] 0])] 1600005 16 .ready none 50051),(50051,.dfr true),(100020,.cell false (.tv qj a0)),(100030,.cell false (.tv qo a1))])
 | .inr z=>(.tup [],[(50,.cell false (.v 200250 z.length)),(50050,.loop [18] 27 [(5,.p 50 [] 0),(17,.fn (.func 79) [] [.p 100020 [] 0,.p 100030 [] 0])] 1600005 16 .ready none 50051),(50051,.dfr true),(100020,.cell false (.tv qj a0)),(100030,.cell false (.tv qo a1)),(200250,.vec false 19 (.sl 19 qf) z)])
def qef (N:Nat) (a0:qb) (a1:qg):Tree (Unit⊕List qa):=
 .bind (qik N a0 a1 (qb.R a0) (((qb.R a0).length:Nat):Int) 0) fun z1=>
 .sum z1 (fun z2=>
 .ret (.inl ())) fun z2=>
 .ret (.inr z2.1)
def K6 (N:Nat) (a0:qb) (a1:qg):Option (Unit⊕List qa):=(qef N a0 a1).run some
def qE_ (N:Nat):List (Nat×qw):=[(1,qlD N)]
def qrH (N:Nat):Ent:=smF ⟨79,[],[.k (.yl 50050)],[.k (.p 100020 [] 0),.k (.p 100030 [] 0)],[(50,.cell false (.k .nils)),(50050,.loop [18] 27 [(5,.k (.p 50 [] 0)),(17,.fn 79 [] [.k (.p 100020 [] 0),.k (.p 100030 [] 0)])] 1600005 16 .ready none 50051),(50051,.dfr true),(100020,.cell false (.x qj)),(100030,.cell false (.x qo))]⟩ [qj,qo] (Unit⊕List qa) (fun x=>K6 N x.1 x.2.1) (csS cs1) fun x=>qFL x.1 x.2.1
theorem qEz (N:Nat):zf Tryz.prog (qrH N):=
 zd (H:=JP) (L:=qJ (qE_ N)) (ts:=[qj,qo]) (T:=fun x=>qef N x.1 x.2.1) 1 qRo (Yh N) (qt (by kernel_rfl) ⟨qxZ N,trivial⟩) (rg0 (by kernel_rfl)) fun x=>by kernel_rfl
noncomputable def qRq:Code:=Tryz.f16.body.getD .skip
theorem qSb:FnF Tryz.prog 16 Tryz.f16 qRq:=⟨qk,by kernel_rfl,by kernel_rfl,by kernel_rfl⟩
def qHP:TH:={ live:=[(0,[2,3]),(1,[2,3,14]),(2,[4]),(3,[2,3,5]),(4,[5,17]),(5,[5,6]),(6,[5,6,21]),(8,[4])],dec:=[10],fresh:=[17] }
def qHR (N:Nat):List Ent:=[qmo N,qry N,qyO,qrH N]
theorem qDr (N:Nat):qU Tryz.prog (qHR N):=⟨qqp N,qEQ N,qHw,qEz N,trivial⟩
def qHl (z:List qa):TV×THp:=(.tv (.sl 19 qf) z,[])
def qgf (N:Nat) (a0:qb) (a1:qg):Tree (List qa):=
 .bind (qdh N a0) fun r1=>
 .cond (!r1) (
 .ret []) <|
 .bind (qiJ N a1) fun r2=>
 .cond (!r2) (
 .ret []) <|
 .bind (qtY a0 a1) fun r3=>
 .bind (K6 N a0 a1) fun r4=>
 .sum r4 (fun r5=>
 .ret []) fun r5=>
 .chk (r5.length=r5.length) <|
 .ret r5
def Kw (N:Nat) (a0:qb) (a1:qg):Option (List qa):=(qgf N a0 a1).run some
def qH1 (N:Nat):List (Nat×qw):=[]
def qvh (N:Nat):Ent:=smF ⟨16,[],[.x qj,.x qo],[],[]⟩ [qj,qo] (List qa) (fun x=>Kw N x.1 x.2.1) cs1 fun _=>qHl
theorem qF2 (N:Nat):zf Tryz.prog (qvh N):=
 zd (H:=qHP) (L:=qJ (qH1 N)) (ts:=[qj,qo]) (T:=fun x=>qgf N x.1 x.2.1) 0 qSb (qDr N) (qt (by kernel_rfl) trivial) (rgs (by kernel_rfl)) fun x=>by kernel_rfl
noncomputable def qRm:Code:=Tryz.f80.body.getD .skip
theorem qTD:FnF Tryz.prog 80 Tryz.f80 qRm:=⟨qk,by kernel_rfl,by kernel_rfl,by kernel_rfl⟩
def quv:TH:={ live:=[(0,[1,3,5]),(1,[1,3,5,7]),(2,[1,3,7,8]),(3,[3,42]),(4,[6]),(5,[3,45]),(6,[6]),(7,[6])],dec:=[18,22,28,33,38] }
def quN (N:Nat):List Ent:=[Jr,vu]
theorem qpt (N:Nat):qU Tryz.prog (quN N):=⟨V2,vV,trivial⟩
def quX (z:Bool):TV×THp:=(xb z,[])
def qa7 (a0:qm) (a1:Int) (a2:qc):Tree (Bool):=
 .bind (QZ (qm.S a0)) fun r1=>
 .bind (zN a2 (qm.S a0)) fun r2=>
 .cond (!r1) (
 .ret false) <|
 .cond (!r2) (
 .ret false) <|
 .cond (decide ((qm.No a0)≤a1)) (
 .ret false) <|
 .cond (decide (((8:Int))≤(qm.No a0))) (
 .ret false) <|
 .cond (decide ((qm.Len a0) < ((0:Int)))) (
 .ret false) <|
 .cond (decide (((200:Int)) < (qm.Len a0))) (
 .ret false) <|
 .cond (decide ((qm.Len a0) < ((24:Int)))) (
 .ret (decide ((((qm.B a0).length:Nat):Int)=((0:Int))))) <|
 .chk ((8:Int)≠0) <|
 .chk (qp ((qm.Len a0).tdiv 8)) <|
 .ret (decide ((((qm.B a0).length:Nat):Int)=((qm.Len a0).tdiv 8)))
def Kd (a0:qm) (a1:Int) (a2:qc):Option (Bool):=(qa7 a0 a1 a2).run some
def qs2:List (Nat×qw):=[]
def qhV:Ent:=smF ⟨80,[],[.x qX,.x (.i .i64),.x qh],[],[]⟩ [qX,(.i .i64),qh] (Bool) (fun x=>Kd x.1 x.2.1 x.2.2.1) cs1 fun _=>quX
theorem qsz:zf Tryz.prog (qhV):=
 zd (H:=quv) (L:=qJ (qs2)) (ts:=[qX,(.i .i64),qh]) (T:=fun x=>qa7 x.1 x.2.1 x.2.2.1) 0 qTD (qpt 0) (qt (by kernel_rfl) trivial) (rg0 (by kernel_rfl)) fun x=>by kernel_rfl
noncomputable def qmT:Code:=Tryz.f42.body.getD .skip
theorem qTe:FnF Tryz.prog 42 Tryz.f42 qmT:=⟨qk,by kernel_rfl,by kernel_rfl,by kernel_rfl⟩
def XM:TH:={ live:=[(0,[1]),(1,[1,3]),(2,[1,3,14]),(3,[1,3]),(4,[1,3,4]),(5,[1,3,4,5]),(6,[1,3,4,38]),(7,[2]),(8,[1,3,4,40]),(9,[1,3,4,6]),(10,[1,3,4,52]),(11,[2]),(12,[1,3,4,7]),(13,[1,3,4,7,8]),(14,[1,3,4,7,8,57]),(15,[1,3,4,7,8]),(16,[1,3,4,8,9]),(17,[1,3,4,8,70]),(18,[2]),(19,[1,3,4,7,8]),(20,[2])],dec:=[27,32] }
def qdM (N:Nat):List Ent:=[Jr,qhV,Yx N]
theorem qbg (N:Nat):qU Tryz.prog (qdM N):=⟨V2,qsz,qa4 N,trivial⟩
abbrev Xr:=qg×qn×Int
abbrev Qh:=Unit⊕(Int×Int×Bool)
def ZQ (f:Xr):Qh→Ex×TSt
 | .inl y=>(.ret,⟨0,81,[],[(2,.bc false)],[],false,[]⟩)
 | .inr y=>(.exit 2,⟨0,81,[],[(1,.p 10 [] 0),(3,xi f.2.2),(4,.p 40 [] 0),(7,xi y.1),(8,xi y.2.1),(57,xb y.2.2)],[(10,.cell false (.tv qo f.1)),(40,.cell false (.tv qZ f.2.1))],false,[]⟩)
def qpL (N:Nat):List (Nat×qw):=[]
abbrev Z7:=Int×Int
def qff:SP:=⟨0,81,[],[(1,.k (.p 10 [] 0)),(3,.x (.i .i64)),(4,.k (.p 40 [] 0)),(7,.x (.i .i64)),(8,.x (.i .i64))],[(10,.cell false (.x qo)),(40,.cell false (.x qZ))],false,[]⟩
def qq2 (f:Xr) (v:Z7):TSt:=zq qff [dv qo f.1,dv qZ f.2.1,dv (.i .i64) f.2.2,dv (.i .i64) v.1,dv (.i .i64) v.2]
def Xd (N:Nat) (o_14:qg) (o_14_2:qn) (s3_14:Int) (v:Z7):Tree (Z7⊕Qh):=
 .cond (decide (v.2 < (((qn.F o_14_2).length:Nat):Int))) (
 .bind (qM (qn.F o_14_2) v.2) fun e1=>
 .bind (Kd e1 v.1 (qn.qz o_14_2)) fun r2=>
 .cond (!r2) (
 .ret (.inr (.inl ()))) <|
 .bind (qM (qn.F o_14_2) v.2) fun e3=>
 .chk (qp (v.2 + 1)) <|
 .ret (.inl (qm.No e3,v.2 + 1))) <|
 .ret (.inr (.inr ((v.1,v.2,decide (v.2 < (((qn.F o_14_2).length:Nat):Int))))))
def qfF (N n:Nat) (f:Xr) (v:Z7):Option Qh:=qQ (Xd N f.1 f.2.1 f.2.2) some n v
theorem qpn (N:Nat) (f:Xr) (n:Nat) (v:Z7) (y:Qh) (h:qfF N n f v=some y):LG Tryz.prog XM 42 (qE (qE qmT 2) 14) (qq2 f v) (ZQ f y):=
 zj qk (E:=qdM N) (L:=qJ (qpL N)) (st:=ZQ f) (g:=some) (R:=ZQ f) (qbg N) (qt (by kernel_rfl) trivial) (rg0 (by kernel_rfl)) (fun v=>by kernel_rfl) (qP (st:=ZQ f) fun y=>by rcases y with _ | _<;>rfl) n v y h
def jN (N:Nat) (o_14:qg) (o_14_2:qn) (s3_14:Int) (s7_14:Int) (s8_14:Int):Option Qh:=qfF N N (o_14,o_14_2,s3_14) (s7_14,s8_14)
def qfD (N:Nat):qw:=smL qff [qo,qZ,(.i .i64),(.i .i64),(.i .i64)] Qh (fun x=>jN N x.1 x.2.1 x.2.2.1 x.2.2.2.1 x.2.2.2.2.1) (csS cs1) fun x=>ZQ (x.1,x.2.1,x.2.2.1)
theorem qn0 (N:Nat):zZ Tryz.prog XM 42 (qE (qE qmT 2) 14) (qfD N):=zp fun x z h=>qpn N (x.1,x.2.1,x.2.2.1) N (x.2.2.2.1,x.2.2.2.2.1) z h
abbrev X1:=qg
abbrev QK:=Unit⊕(Int×Bool)
def Jo (f:X1):QK→Ex×TSt
 | .inl y=>(.ret,⟨0,81,[],[(2,.bc false)],[],false,[]⟩)
 | .inr y=>(.exit 0,⟨0,81,[],[(1,.p 10 [] 0),(3,xi y.1),(14,xb y.2)],[(10,.cell false (.tv qo f))],false,[]⟩)
def qsw (N:Nat):List (Nat×qw):=[(14,qfD N)]
abbrev Jy:=Int
def qhs:SP:=⟨0,81,[],[(1,.k (.p 10 [] 0)),(3,.x (.i .i64))],[(10,.cell false (.x qo))],false,[]⟩
def qsb (f:X1) (v:Jy):TSt:=zq qhs [dv qo f,dv (.i .i64) v]
def X6 (N:Nat) (o_2:qg) (v:Jy):Tree (Jy⊕QK):=
 .cond (decide (v < (((qg.L o_2).length:Nat):Int))) (
 .bind (qM (qg.L o_2) v) fun e1=>
 .bind (QZ (qn.qz e1)) fun r2=>
 .cond (!r2) (
 .ret (.inr (.inl ()))) <|
 .cond (decide ((((qn.F e1).length:Nat):Int)=((0:Int)))) (
 .cond (eqE qh (qn.qz e1) (qc.mk 0 0)) (
 .ret (.inr (.inl ()))) <|
 .cond (decide (((0:Int)) < v)) (
 .chk (qp (v - 1)) <|
 .bind (qM (qg.L o_2) (v - 1)) fun e3=>
 .bind (Qq N (qn.ID e3) (qn.ID e1)) fun r4=>
 .cond (!r4) (
 .ret (.inr (.inl ()))) <|
 .bind (jN N o_2 e1 v (-1) 0) fun z5=>
 .sum z5 (fun z6=>
 .ret (.inr (.inl ()))) fun z6=>
 .chk (qp (v + 1)) <|
 .ret (.inl (v + 1))) <|
 .bind (jN N o_2 e1 v (-1) 0) fun z3=>
 .sum z3 (fun z4=>
 .ret (.inr (.inl ()))) fun z4=>
 .chk (qp (v + 1)) <|
 .ret (.inl (v + 1))) <|
 .cond (decide (((0:Int)) < v)) (
 .chk (qp (v - 1)) <|
 .bind (qM (qg.L o_2) (v - 1)) fun e3=>
 .bind (Qq N (qn.ID e3) (qn.ID e1)) fun r4=>
 .cond (!r4) (
 .ret (.inr (.inl ()))) <|
 .bind (jN N o_2 e1 v (-1) 0) fun z5=>
 .sum z5 (fun z6=>
 .ret (.inr (.inl ()))) fun z6=>
 .chk (qp (v + 1)) <|
 .ret (.inl (v + 1))) <|
 .bind (jN N o_2 e1 v (-1) 0) fun z3=>
 .sum z3 (fun z4=>
 .ret (.inr (.inl ()))) fun z4=>
 .chk (qp (v + 1)) <|
 .ret (.inl (v + 1))) <|
 .ret (.inr (.inr ((v,decide (v < (((qg.L o_2).length:Nat):Int))))))
def qhd (N n:Nat) (f:X1) (v:Jy):Option QK:=qQ (X6 N f) some n v
theorem qrQ (N:Nat) (f:X1) (n:Nat) (v:Jy) (y:QK) (h:qhd N n f v=some y):LG Tryz.prog XM 42 (qE qmT 2) (qsb f v) (Jo f y):=
 zj qk (E:=qdM N) (L:=qJ (qsw N)) (st:=Jo f) (g:=some) (R:=Jo f) (qbg N) (qt (by kernel_rfl) ⟨qn0 N,trivial⟩) (rg0 (by kernel_rfl)) (fun v=>by kernel_rfl) (qP (st:=Jo f) fun y=>by rcases y with _ | _<;>rfl) n v y h
def qcd (N:Nat) (o_2:qg) (s3_2:Int):Option QK:=qhd N N o_2 s3_2
def qgJ (N:Nat):qw:=smL qhs [qo,(.i .i64)] QK (fun x=>qcd N x.1 x.2.1) (csS cs1) fun x=>Jo x.1
theorem qpJ (N:Nat):zZ Tryz.prog XM 42 (qE qmT 2) (qgJ N):=zp fun x z h=>qrQ N x.1 N x.2.1 z h
def qyr (z:Bool):TV×THp:=(xb z,[])
def qc9 (N:Nat) (a0:qg):Tree (Bool):=
 .bind (qcd N a0 0) fun z1=>
 .sum z1 (fun z2=>
 .ret false) fun z2=>
 .ret (decide ((((qg.L a0).length:Nat):Int)≤((10:Int))))
def qaL (N:Nat) (a0:qg):Option (Bool):=(qc9 N a0).run some
def qyi (N:Nat):List (Nat×qw):=[(2,qgJ N)]
def qkL (N:Nat):Ent:=smF ⟨42,[],[.x qo],[],[]⟩ [qo] (Bool) (fun x=>qaL N x.1) cs1 fun _=>qyr
theorem qwc (N:Nat):zf Tryz.prog (qkL N):=
 zd (H:=XM) (L:=qJ (qyi N)) (ts:=[qo]) (T:=fun x=>qc9 N x.1) 0 qTe (qbg N) (qt (by kernel_rfl) ⟨qpJ N,trivial⟩) (rg0 (by kernel_rfl)) fun x=>by kernel_rfl
noncomputable def qBF:Code:=Tryz.f43.body.getD .skip
theorem qSn:FnF Tryz.prog 43 Tryz.f43 qBF:=⟨qk,by kernel_rfl,by kernel_rfl,by kernel_rfl⟩
def qcu:TH:={ live:=[(0,[2,3,4]),(1,[2,3,4,6]),(2,[2,3,4,6,11]),(3,[2,3,4,6]),(4,[2,3,4,6,21]),(5,[4,5]),(6,[4,5])],nil:=[(0,[⟨.ob 40 [2],45,(.sl 37 qX)⟩]),(6,[⟨.ob 40 [2],45,(.sl 37 qX)⟩])] }
def qjc (N:Nat):List Ent:=[]
theorem qg1 (N:Nat):qU Tryz.prog (qjc N):=trivial
abbrev XB:=List qm×qg×Vector UInt8 16×Vector UInt8 16×qc
abbrev Qj:=qn⊕(Int×Bool)
def ZG (f:XB):Qj→Ex×TSt
 | .inl y=>(.ret,⟨0,28,[],[(4,.p 40 [] 0),(5,.bc true)],[(40,.cell false (.tv qZ y))],false,[]⟩)
 | .inr y=>(.exit 0,⟨0,28,[],[(2,.p 20 [] 0),(3,.p 30 [] 0),(4,.p 40 [] 0),(6,xi y.1),(11,xb y.2)],[(20,.cell false (.tv qo f.2.1)),(30,.cell false (.tv (.ba 16) f.2.2.1)),(40,.cell false (.ag [.tv (.ba 16) f.2.2.2.1,.tv qh f.2.2.2.2,.v 45 f.1.length])),(45,.vec false 37 (.sl 37 qX) f.1)],false,[]⟩)
def qp1 (N:Nat):List (Nat×qw):=[]
abbrev Ja:=Int
def qf3:SP:=⟨0,28,[],[(2,.k (.p 20 [] 0)),(3,.k (.p 30 [] 0)),(4,.k (.p 40 [] 0)),(6,.x (.i .i64))],[(20,.cell false (.x qo)),(30,.cell false (.x (.ba 16))),(40,.cell false (.ag [.x (.ba 16),.x qh,.vs 45])),(45,.vec false 37)],false,[]⟩
def qqY (f:XB) (v:Ja):TSt:=zq qf3 [dv (.sl 37 qX) f.1,dv qo f.2.1,dv (.ba 16) f.2.2.1,dv (.ba 16) f.2.2.2.1,dv qh f.2.2.2.2,dv (.i .i64) v]
def ZH (N:Nat) (o_2:List qm) (o_2_2:qg) (o_2_3:Vector UInt8 16) (o_2_4:Vector UInt8 16) (o_2_5:qc) (v:Ja):Tree (Ja⊕Qj):=
 .cond (decide (v < (((qg.L o_2_2).length:Nat):Int))) (
 .bind (qM (qg.L o_2_2) v) fun e1=>
 .cond (eqE (.ba 16) (qn.ID e1) o_2_3) (
 .bind (qM (qg.L o_2_2) v) fun e2=>
 .ret (.inr (.inl e2))) <|
 .chk (qp (v + 1)) <|
 .ret (.inl (v + 1))) <|
 .ret (.inr (.inr ((v,decide (v < (((qg.L o_2_2).length:Nat):Int))))))
def qfG (N n:Nat) (f:XB) (v:Ja):Option Qj:=qQ (ZH N f.1 f.2.1 f.2.2.1 f.2.2.2.1 f.2.2.2.2) some n v
theorem qqq (N:Nat) (f:XB) (n:Nat) (v:Ja) (y:Qj) (h:qfG N n f v=some y):LG Tryz.prog qcu 43 (qE qBF 2) (qqY f v) (ZG f y):=
 zj qk (E:=qjc N) (L:=qJ (qp1 N)) (st:=ZG f) (g:=some) (R:=ZG f) (qg1 N) (qt (by kernel_rfl) trivial) (rg0 (by kernel_rfl)) (fun v=>by kernel_rfl) (qP (st:=ZG f) fun y=>by rcases y with _ | _<;>rfl) n v y h
def qaQ (N:Nat) (o_2:List qm) (o_2_2:qg) (o_2_3:Vector UInt8 16) (o_2_4:Vector UInt8 16) (o_2_5:qc) (s6_2:Int):Option Qj:=qfG N N (o_2,o_2_2,o_2_3,o_2_4,o_2_5) s6_2
def qfI (N:Nat):qw:=smL qf3 [(.sl 37 qX),qo,(.ba 16),(.ba 16),qh,(.i .i64)] Qj (fun x=>qaQ N x.1 x.2.1 x.2.2.1 x.2.2.2.1 x.2.2.2.2.1 x.2.2.2.2.2.1) (csS cs1) fun x=>ZG (x.1,x.2.1,x.2.2.1,x.2.2.2.1,x.2.2.2.2.1)
theorem qnZ (N:Nat):zZ Tryz.prog qcu 43 (qE qBF 2) (qfI N):=zp fun x z h=>qqq N (x.1,x.2.1,x.2.2.1,x.2.2.2.1,x.2.2.2.2.1) N x.2.2.2.2.2.1 z h
def qvw (z:qn×Bool):TV×THp:=(.tup [.tv qZ (z.1:qn),xb z.2],[])
def qcj (N:Nat) (a0:qg) (a1:Vector UInt8 16):Tree (qn×Bool):=
 .bind (zV [(([]:List qm).length,0)] (qaQ N [] a0 a1 ((Vector.replicate 16 0)) (qc.mk 0 0) 0)) fun z1=>
 .sum z1 (fun z2=>
 .ret (z2,true)) fun z2=>
 .chk (0=0) <|
 .ret (qn.mk ((Vector.replicate 16 0)) (qc.mk 0 0) [],false)
def Vv (N:Nat) (a0:qg) (a1:Vector UInt8 16):Option (qn×Bool):=(qcj N a0 a1).run some
def qvy (N:Nat):List (Nat×qw):=[(2,qfI N)]
def YA (N:Nat):Ent:=smF ⟨43,[],[.x qo,.x (.ba 16)],[],[]⟩ [qo,(.ba 16)] (qn×Bool) (fun x=>Vv N x.1 x.2.1) cs1 fun _=>qvw
theorem qbs (N:Nat):zf Tryz.prog (YA N):=
 zd (H:=qcu) (L:=qJ (qvy N)) (ts:=[qo,(.ba 16)]) (T:=fun x=>qcj N x.1 x.2.1) 0 qSn (qg1 N) (qt (by kernel_rfl) ⟨qnZ N,trivial⟩) (rg0 (by kernel_rfl)) fun x=>by kernel_rfl
noncomputable def qBf:Code:=Tryz.f46.body.getD .skip
theorem qRb:FnF Tryz.prog 46 Tryz.f46 qBf:=⟨qk,by kernel_rfl,by kernel_rfl,by kernel_rfl⟩
def qch:TH:={ live:=[(0,[2,3,4,6]),(1,[2,6,8]),(2,[2,6,8,10]),(3,[2,6,8,10,21]),(4,[2,6,8,10]),(5,[2,6,8,10,31]),(6,[6,7]),(7,[6,7])] }
def qjp (N:Nat):List Ent:=[YA N]
theorem qhf (N:Nat):qU Tryz.prog (qjp N):=⟨qbs N,trivial⟩
abbrev XF:=qc×Vector UInt8 32×qn×Int
abbrev Ql:=qm⊕(Int×Bool)
def ZF (f:XF):Ql→Ex×TSt
 | .inl y=>(.ret,⟨0,38,[],[(6,.p 60 [] 0),(7,.bc true)],[(60,.cell false (.tv qX y))],false,[]⟩)
 | .inr y=>(.exit 0,⟨0,38,[],[(2,xi f.2.2.2),(6,.p 60 [] 0),(8,.p 80 [] 0),(10,xi y.1),(21,xb y.2)],[(60,.cell false (.ag [.ic .i64 0,.tv qh f.1,.ic .i64 0,.tv (.ba 32) f.2.1,.nils])),(80,.cell false (.tv qZ f.2.2.1))],false,[]⟩)
def qqS (N:Nat):List (Nat×qw):=[]
abbrev Z_:=Int
def qfP:SP:=⟨0,38,[],[(2,.x (.i .i64)),(6,.k (.p 60 [] 0)),(8,.k (.p 80 [] 0)),(10,.x (.i .i64))],[(60,.cell false (.ag [.k (.ic .i64 0),.x qh,.k (.ic .i64 0),.x (.ba 32),.k .nils])),(80,.cell false (.x qZ))],false,[]⟩
def qpE (f:XF) (v:Z_):TSt:=zq qfP [dv qh f.1,dv (.ba 32) f.2.1,dv qZ f.2.2.1,dv (.i .i64) f.2.2.2,dv (.i .i64) v]
def Z0 (N:Nat) (o_3:qc) (o_3_2:Vector UInt8 32) (o_3_3:qn) (s2_3:Int) (v:Z_):Tree (Z_⊕Ql):=
 .cond (decide (v < (((qn.F o_3_3).length:Nat):Int))) (
 .bind (qM (qn.F o_3_3) v) fun e1=>
 .cond (decide ((qm.No e1)=s2_3)) (
 .bind (qM (qn.F o_3_3) v) fun e2=>
 .ret (.inr (.inl e2))) <|
 .chk (qp (v + 1)) <|
 .ret (.inl (v + 1))) <|
 .ret (.inr (.inr ((v,decide (v < (((qn.F o_3_3).length:Nat):Int))))))
def qfT (N n:Nat) (f:XF) (v:Z_):Option Ql:=qQ (Z0 N f.1 f.2.1 f.2.2.1 f.2.2.2) some n v
theorem qqC (N:Nat) (f:XF) (n:Nat) (v:Z_) (y:Ql) (h:qfT N n f v=some y):LG Tryz.prog qch 46 (qE qBf 3) (qpE f v) (ZF f y):=
 zj qk (E:=qjp N) (L:=qJ (qqS N)) (st:=ZF f) (g:=some) (R:=ZF f) (qhf N) (qt (by kernel_rfl) trivial) (rg0 (by kernel_rfl)) (fun v=>by kernel_rfl) (qP (st:=ZF f) fun y=>by rcases y with _ | _<;>rfl) n v y h
def qbw (N:Nat) (o_3:qc) (o_3_2:Vector UInt8 32) (o_3_3:qn) (s2_3:Int) (s10_3:Int):Option Ql:=qfT N N (o_3,o_3_2,o_3_3,s2_3) s10_3
def qfe (N:Nat):qw:=smL qfP [qh,(.ba 32),qZ,(.i .i64),(.i .i64)] Ql (fun x=>qbw N x.1 x.2.1 x.2.2.1 x.2.2.2.1 x.2.2.2.2.1) (csS cs1) fun x=>ZF (x.1,x.2.1,x.2.2.1,x.2.2.2.1)
theorem qog (N:Nat):zZ Tryz.prog qch 46 (qE qBf 3) (qfe N):=zp fun x z h=>qqC N (x.1,x.2.1,x.2.2.1,x.2.2.2.1) N x.2.2.2.2.1 z h
def qv1 (z:qm×Bool):TV×THp:=(.tup [.tv qX (z.1:qm),xb z.2],[])
def qcE (N:Nat) (a0:qg) (a1:Vector UInt8 16) (a2:Int):Tree (qm×Bool):=
 .bind (Vv N a0 a1) fun r1=>
 .bind (qbw N (qc.mk 0 0) ((Vector.replicate 32 0)) r1.1 a2 0) fun z2=>
 .sum z2 (fun z3=>
 .ret (z3,true)) fun z3=>
 .ret (qm.mk 0 (qc.mk 0 0) 0 ((Vector.replicate 32 0)) [],false)
def KM (N:Nat) (a0:qg) (a1:Vector UInt8 16) (a2:Int):Option (qm×Bool):=(qcE N a0 a1 a2).run some
def qvU (N:Nat):List (Nat×qw):=[(3,qfe N)]
def qja (N:Nat):Ent:=smF ⟨46,[],[.x qo,.x (.ba 16),.x (.i .i64)],[],[]⟩ [qo,(.ba 16),(.i .i64)] (qm×Bool) (fun x=>KM N x.1 x.2.1 x.2.2.1) cs1 fun _=>qv1
theorem quc (N:Nat):zf Tryz.prog (qja N):=
 zd (H:=qch) (L:=qJ (qvU N)) (ts:=[qo,(.ba 16),(.i .i64)]) (T:=fun x=>qcE N x.1 x.2.1 x.2.2.1) 0 qRb (qhf N) (qt (by kernel_rfl) ⟨qog N,trivial⟩) (rg0 (by kernel_rfl)) fun x=>by kernel_rfl
noncomputable def qRP:Code:=Tryz.f19.body.getD .skip
theorem qTB:FnF Tryz.prog 19 Tryz.f19 qRP:=⟨qk,by kernel_rfl,by kernel_rfl,by kernel_rfl⟩
def qrk:TH:={ live:=[(0,[3,4,5,6]),(1,[3,4,5,6,9]),(2,[4,9,11,12]),(3,[4,11,12,13]),(4,[4,11,12,35]),(5,[8]),(6,[4,11,37]),(7,[8]),(8,[4,11,42]),(9,[14]),(10,[8]),(11,[15]),(12,[8])] }
def qqn (N:Nat):List Ent:=[YA N,qja N,vu,qe9 N,qck N]
theorem qnB (N:Nat):qU Tryz.prog (qqn N):=⟨qbs N,quc N,vV,qkS N,qhS N,trivial⟩
def qqm (z:Bool):TV×THp:=(xb z,[])
def Ky (N:Nat) (a0:qe) (a1:qg) (a2:Vector UInt8 16) (a3:Int):Tree (Bool):=
 .bind (Vv N a1 a2) fun r1=>
 .bind (KM N a1 a2 a3) fun r2=>
 .bind (zN (qn.qz r1.1) (qe.S a0)) fun r3=>
 .cond (!r3) (
 .ret false) <|
 .cond (!r2.2) (
 .ret true) <|
 .cond (!(eqE qh (qm.S r2.1) (qe.S a0))) (
 .bind (zN (qm.S r2.1) (qe.S a0)) fun r4=>
 .ret r4) <|
 .bind (Wo N (qe.V a0)) fun r4=>
 .bind (WH N (qm.D r2.1) r4) fun r5=>
 .ret r5
def Vk (N:Nat) (a0:qe) (a1:qg) (a2:Vector UInt8 16) (a3:Int):Option (Bool):=(Ky N a0 a1 a2 a3).run some
def qqW (N:Nat):List (Nat×qw):=[]
def Kt (N:Nat):Ent:=smF ⟨19,[],[.x qq,.x qo,.x (.ba 16),.x (.i .i64)],[],[]⟩ [qq,qo,(.ba 16),(.i .i64)] (Bool) (fun x=>Vk N x.1 x.2.1 x.2.2.1 x.2.2.2.1) cs1 fun _=>qqm
theorem qe0 (N:Nat):zf Tryz.prog (Kt N):=
 zd (H:=qrk) (L:=qJ (qqW N)) (ts:=[qq,qo,(.ba 16),(.i .i64)]) (T:=fun x=>Ky N x.1 x.2.1 x.2.2.1 x.2.2.2.1) 0 qTB (qnB N) (qt (by kernel_rfl) trivial) (rg0 (by kernel_rfl)) fun x=>by kernel_rfl
noncomputable def qmR:Code:=Tryz.f17.body.getD .skip
theorem qTI:FnF Tryz.prog 17 Tryz.f17 qmR:=⟨qk,by kernel_rfl,by kernel_rfl,by kernel_rfl⟩
def Vj:TH:={ live:=[(0,[2,3]),(1,[2,3,5]),(2,[2,3,5,6]),(3,[2,3,25]),(4,[4]),(5,[2,3,7]),(6,[2,3,7,8]),(7,[2,3,7,8,30]),(8,[2,3,7,8]),(9,[2,3,7,8,9]),(10,[2,3,7,8,9,10]),(11,[2,3,7,8,9,10,12]),(12,[2,3,7,8,9,12,13]),(13,[2,3,7,8,9,12,13,53]),(14,[2,3,7,8,9,12,13]),(15,[2,3,7,8,9,12,13,14]),(16,[2,3,7,8,9,12,13,14,61]),(17,[2,3,7,8,9,12,13,14]),(18,[2,3,7,8,9,12,13,14,15]),(19,[2,3,7,8,9,12,13,14,80]),(20,[2,3,7,8,9,12,13,14]),(21,[2,3,7,8,12,97]),(22,[2,3,7,8]),(23,[4])],dec:=[22,92],nil:=[(5,[⟨.sl 7,75,(.sl 19 qf)⟩]),(11,[⟨.ob 120 [2],125,(.sl 4 qB)⟩])] }
def qa6 (N:Nat):List Ent:=[Y7 N,qkL N,YA N,vu,Kt N]
theorem Kz (N:Nat):qU Tryz.prog (qa6 N):=⟨qcC N,qwc N,qbs N,vV,qe0 N,trivial⟩
abbrev Vi:=List qa×qb×qg×qa×Vector UInt8 16×qc×Int×Bool
abbrev vF:=List qd×Int×Bool
def QW (f:Vi) (y:vF):Ex×TSt:=(.exit 2,⟨0,103,[],[(2,.p 20 [] 0),(3,.p 30 [] 0),(7,.v 75 f.1.length),(8,xi f.2.2.2.2.2.2.1),(9,.p 90 [] 0),(12,.p 120 [] 0),(13,xb f.2.2.2.2.2.2.2),(14,xi y.2.1),(61,xb y.2.2)],[(20,.cell false (.tv qj f.2.1)),(30,.cell false (.tv qo f.2.2.1)),(75,.vec false 19 (.sl 19 qf) f.1),(90,.cell false (.tv qf f.2.2.2.1)),(120,.cell false (.ag [.tv (.ba 16) f.2.2.2.2.1,.tv qh f.2.2.2.2.2.1,.v 125 y.1.length])),(125,.vec false 4 (.sl 4 qB) (y.1:List qd))],false,[]⟩)
def qnk (N:Nat):List (Nat×qw):=[]
abbrev Q0:=List qd×Int
def qdQ:SP:=⟨0,103,[],[(2,.k (.p 20 [] 0)),(3,.k (.p 30 [] 0)),(7,.vs 75),(8,.x (.i .i64)),(9,.k (.p 90 [] 0)),(12,.k (.p 120 [] 0)),(13,.x .b),(14,.x (.i .i64))],[(20,.cell false (.x qj)),(30,.cell false (.x qo)),(75,.vec false 19),(90,.cell false (.x qf)),(120,.cell false (.ag [.x (.ba 16),.x qh,.vs 125])),(125,.vec false 4)],false,[]⟩
def qnP (f:Vi) (v:Q0):TSt:=zq qdQ [dv (.sl 19 qf) f.1,dv (.sl 4 qB) v.1,dv qj f.2.1,dv qo f.2.2.1,dv qf f.2.2.2.1,dv (.ba 16) f.2.2.2.2.1,dv qh f.2.2.2.2.2.1,dv (.i .i64) f.2.2.2.2.2.2.1,dv .b f.2.2.2.2.2.2.2,dv (.i .i64) v.2]
def J9 (N:Nat) (o_16:List qa) (o_16_3:qb) (o_16_4:qg) (o_16_5:qa) (o_16_6:Vector UInt8 16) (o_16_7:qc) (s8_16:Int) (s13_16:Bool) (v:Q0):Tree (Q0⊕vF):=
 .cond (decide (v.2 < (((qa.F o_16_5).length:Nat):Int))) (
 .bind (qM (qa.F o_16_5) v.2) fun e1=>
 .bind (qM (qa.F o_16_5) v.2) fun e2=>
 .bind (Vk N (qd.C e1) o_16_4 (qa.ID o_16_5) (qd.No e2)) fun r3=>
 .cond r3 (
 .bind (qM (qa.F o_16_5) v.2) fun e4=>
 .chk (zU v.1.length v.1.length ((v.1++[e4]).length) 40) <|
 .chk (qp (v.2 + 1)) <|
 .ret (.inl (v.1++[e4],v.2 + 1))) <|
 .chk (qp (v.2 + 1)) <|
 .ret (.inl (v.1,v.2 + 1))) <|
 .ret (.inr (v.1,v.2,decide (v.2 < (((qa.F o_16_5).length:Nat):Int))))
def qdv (N n:Nat) (f:Vi) (v:Q0):Option vF:=qQ (J9 N f.1 f.2.1 f.2.2.1 f.2.2.2.1 f.2.2.2.2.1 f.2.2.2.2.2.1 f.2.2.2.2.2.2.1 f.2.2.2.2.2.2.2) some n v
theorem qny (N:Nat) (f:Vi) (n:Nat) (v:Q0) (y:vF) (h:qdv N n f v=some y):LG Tryz.prog Vj 17 (qE (qE qmR 7) 16) (qnP f v) (QW f y):=
 zj qk (E:=qa6 N) (L:=qJ (qnk N)) (st:=QW f) (g:=some) (R:=QW f) (Kz N) (qt (by kernel_rfl) trivial) (rg0 (by kernel_rfl)) (fun v=>by kernel_rfl) (qP (st:=QW f) fun y=>by rfl) n v y h
def ZC (N:Nat) (o_16:List qa) (o_16_3:qb) (o_16_4:qg) (o_16_5:qa) (o_16_6:Vector UInt8 16) (o_16_7:qc) (s8_16:Int) (s13_16:Bool) (o_16_2:List qd) (s14_16:Int):Option vF:=qdv N N (o_16,o_16_3,o_16_4,o_16_5,o_16_6,o_16_7,s8_16,s13_16) (o_16_2,s14_16)
def qd6 (N:Nat):qw:=smL qdQ [(.sl 19 qf),(.sl 4 qB),qj,qo,qf,(.ba 16),qh,(.i .i64),.b,(.i .i64)] vF (fun x=>ZC N x.1 x.2.2.1 x.2.2.2.1 x.2.2.2.2.1 x.2.2.2.2.2.1 x.2.2.2.2.2.2.1 x.2.2.2.2.2.2.2.1 x.2.2.2.2.2.2.2.2.1 x.2.1 x.2.2.2.2.2.2.2.2.2.1) cs1 fun x=>QW (x.1,x.2.2.1,x.2.2.2.1,x.2.2.2.2.1,x.2.2.2.2.2.1,x.2.2.2.2.2.2.1,x.2.2.2.2.2.2.2.1,x.2.2.2.2.2.2.2.2.1)
theorem qmz (N:Nat):zZ Tryz.prog Vj 17 (qE (qE qmR 7) 16) (qd6 N):=zp fun x z h=>qny N (x.1,x.2.2.1,x.2.2.2.1,x.2.2.2.2.1,x.2.2.2.2.2.1,x.2.2.2.2.2.2.1,x.2.2.2.2.2.2.2.1,x.2.2.2.2.2.2.2.2.1) N (x.2.1,x.2.2.2.2.2.2.2.2.2.1) z h
abbrev VK:=qb×qg
abbrev vN:=List qa×Int×Bool
def Q9 (f:VK) (y:vN):Ex×TSt:=(.exit 0,⟨0,103,[],[(2,.p 20 [] 0),(3,.p 30 [] 0),(7,.v 75 y.1.length),(8,xi y.2.1),(30,xb y.2.2)],[(20,.cell false (.tv qj f.1)),(30,.cell false (.tv qo f.2)),(75,.vec false 19 (.sl 19 qf) (y.1:List qa))],false,[]⟩)
def qor (N:Nat):List (Nat×qw):=[(16,qd6 N)]
abbrev Zb:=List qa×Int
def qeK:SP:=⟨0,103,[],[(2,.k (.p 20 [] 0)),(3,.k (.p 30 [] 0)),(7,.vs 75),(8,.x (.i .i64))],[(20,.cell false (.x qj)),(30,.cell false (.x qo)),(75,.vec false 19)],false,[]⟩
def qn8 (f:VK) (v:Zb):TSt:=zq qeK [dv (.sl 19 qf) v.1,dv qj f.1,dv qo f.2,dv (.i .i64) v.2]
def VJ (N:Nat) (o_7_2:qb) (o_7_3:qg) (v:Zb):Tree (Zb⊕vN):=
 .cond (decide (v.2 < (((qb.R o_7_2).length:Nat):Int))) (
 .bind (qM (qb.R o_7_2) v.2) fun e1=>
 .bind (Vv N o_7_3 (qa.ID e1)) fun r2=>
 .bind (zN (qn.qz r2.1) (qa.qz e1)) fun r3=>
 .cond r3 (
 .bind (zV [(([]:List qd).length,0),(v.1.length,v.1.length)] (ZC N v.1 o_7_2 o_7_3 e1 (qa.ID e1) (qa.qz e1) v.2 r3 [] 0)) fun z4=>
 .cond r3 (
 .chk (z4.1.length=z4.1.length) <|
 .chk (zU v.1.length v.1.length ((v.1++[qa.mk (qa.ID e1) (qa.qz e1) z4.1]).length) 56) <|
 .chk (qp (v.2 + 1)) <|
 .ret (.inl (v.1++[qa.mk (qa.ID e1) (qa.qz e1) z4.1],v.2 + 1))) <|
 .cond (decide (((0:Int)) < ((z4.1.length:Nat):Int))) (
 .chk (z4.1.length=z4.1.length) <|
 .chk (zU v.1.length v.1.length ((v.1++[qa.mk (qa.ID e1) (qa.qz e1) z4.1]).length) 56) <|
 .chk (qp (v.2 + 1)) <|
 .ret (.inl (v.1++[qa.mk (qa.ID e1) (qa.qz e1) z4.1],v.2 + 1))) <|
 .chk (qp (v.2 + 1)) <|
 .ret (.inl (v.1,v.2 + 1))) <|
 .bind (zV [(([]:List qd).length,0),(v.1.length,v.1.length)] (ZC N v.1 o_7_2 o_7_3 e1 (qa.ID e1) (qc.mk 0 0) v.2 r3 [] 0)) fun z4=>
 .cond r3 (
 .chk (z4.1.length=z4.1.length) <|
 .chk (zU v.1.length v.1.length ((v.1++[qa.mk (qa.ID e1) (qc.mk 0 0) z4.1]).length) 56) <|
 .chk (qp (v.2 + 1)) <|
 .ret (.inl (v.1++[qa.mk (qa.ID e1) (qc.mk 0 0) z4.1],v.2 + 1))) <|
 .cond (decide (((0:Int)) < ((z4.1.length:Nat):Int))) (
 .chk (z4.1.length=z4.1.length) <|
 .chk (zU v.1.length v.1.length ((v.1++[qa.mk (qa.ID e1) (qc.mk 0 0) z4.1]).length) 56) <|
 .chk (qp (v.2 + 1)) <|
 .ret (.inl (v.1++[qa.mk (qa.ID e1) (qc.mk 0 0) z4.1],v.2 + 1))) <|
 .chk (qp (v.2 + 1)) <|
 .ret (.inl (v.1,v.2 + 1))) <|
 .ret (.inr (v.1,v.2,decide (v.2 < (((qb.R o_7_2).length:Nat):Int))))
def qeC (N n:Nat) (f:VK) (v:Zb):Option vN:=qQ (VJ N f.1 f.2) some n v
theorem qob (N:Nat) (f:VK) (n:Nat) (v:Zb) (y:vN) (h:qeC N n f v=some y):LG Tryz.prog Vj 17 (qE qmR 7) (qn8 f v) (Q9 f y):=
 zj qk (E:=qa6 N) (L:=qJ (qor N)) (st:=Q9 f) (g:=some) (R:=Q9 f) (Kz N) (qt (by kernel_rfl) ⟨qmz N,trivial⟩) (rg0 (by kernel_rfl)) (fun v=>by kernel_rfl) (qP (st:=Q9 f) fun y=>by rfl) n v y h
def qap (N:Nat) (o_7_2:qb) (o_7_3:qg) (o_7:List qa) (s8_7:Int):Option vN:=qeC N N (o_7_2,o_7_3) (o_7,s8_7)
def qeU (N:Nat):qw:=smL qeK [(.sl 19 qf),qj,qo,(.i .i64)] vN (fun x=>qap N x.2.1 x.2.2.1 x.1 x.2.2.2.1) cs1 fun x=>Q9 (x.2.1,x.2.2.1)
theorem qnm (N:Nat):zZ Tryz.prog Vj 17 (qE qmR 7) (qeU N):=zp fun x z h=>qob N (x.2.1,x.2.2.1) N (x.1,x.2.2.2.1) z h
def qtH (z:List qa):TV×THp:=(.tv (.sl 19 qf) z,[])
def WU (N:Nat) (a0:qb) (a1:qg):Tree (List qa):=
 .bind (Jn N a0) fun r1=>
 .bind (qaL N a1) fun r2=>
 .cond (!r1) (
 .ret []) <|
 .cond (!r2) (
 .ret []) <|
 .bind (zV [(([]:List qa).length,0)] (qap N a0 a1 [] 0)) fun z3=>
 .chk (z3.1.length=z3.1.length) <|
 .ret z3.1
def QY (N:Nat) (a0:qb) (a1:qg):Option (List qa):=(WU N a0 a1).run some
def quU (N:Nat):List (Nat×qw):=[(7,qeU N)]
def qiq (N:Nat):Ent:=smF ⟨17,[],[.x qj,.x qo],[],[]⟩ [qj,qo] (List qa) (fun x=>QY N x.1 x.2.1) cs1 fun _=>qtH
theorem qsQ (N:Nat):zf Tryz.prog (qiq N):=
 zd (H:=Vj) (L:=qJ (quU N)) (ts:=[qj,qo]) (T:=fun x=>WU N x.1 x.2.1) 0 qTI (Kz N) (qt (by kernel_rfl) ⟨qnm N,trivial⟩) (rg0 (by kernel_rfl)) fun x=>by kernel_rfl
noncomputable def qBD:Code:=Tryz.f45.body.getD .skip
theorem qRw:FnF Tryz.prog 45 Tryz.f45 qBD:=⟨qk,by kernel_rfl,by kernel_rfl,by kernel_rfl⟩
def qcz:TH:={ live:=[(0,[2,3]),(1,[2,3,26]),(2,[4]),(3,[2,3,5]),(4,[2,3,5,31]),(5,[2,3,5]),(6,[2,3,5,44]),(7,[4]),(8,[4])],dec:=[11,18] }
def qjm (N:Nat):List Ent:=[]
theorem qhH (N:Nat):qU Tryz.prog (qjm N):=trivial
abbrev XE:=qa×qa
abbrev Qf:=Unit⊕(Int×Bool)
def ZW (f:XE):Qf→Ex×TSt
 | .inl y=>(.ret,⟨0,45,[],[(4,.bc false)],[],false,[]⟩)
 | .inr y=>(.exit 0,⟨0,45,[],[(2,.p 20 [] 0),(3,.p 30 [] 0),(5,xi y.1),(31,xb y.2)],[(20,.cell false (.tv qf f.1)),(30,.cell false (.tv qf f.2))],false,[]⟩)
def qpB (N:Nat):List (Nat×qw):=[]
abbrev Z3:=Int
def qfE:SP:=⟨0,45,[],[(2,.k (.p 20 [] 0)),(3,.k (.p 30 [] 0)),(5,.x (.i .i64))],[(20,.cell false (.x qf)),(30,.cell false (.x qf))],false,[]⟩
def qp9 (f:XE) (v:Z3):TSt:=zq qfE [dv qf f.1,dv qf f.2,dv (.i .i64) v]
def Xq (N:Nat) (o_4:qa) (o_4_2:qa) (v:Z3):Tree (Z3⊕Qf):=
 .cond (decide (v < (((qa.F o_4).length:Nat):Int))) (
 .bind (qM (qa.F o_4) v) fun e1=>
 .bind (qM (qa.F o_4_2) v) fun e2=>
 .cond (!(eqE qB e1 e2)) (
 .ret (.inr (.inl ()))) <|
 .chk (qp (v + 1)) <|
 .ret (.inl (v + 1))) <|
 .ret (.inr (.inr ((v,decide (v < (((qa.F o_4).length:Nat):Int))))))
def qf8 (N n:Nat) (f:XE) (v:Z3):Option Qf:=qQ (Xq N f.1 f.2) some n v
theorem qq_ (N:Nat) (f:XE) (n:Nat) (v:Z3) (y:Qf) (h:qf8 N n f v=some y):LG Tryz.prog qcz 45 (qE qBD 4) (qp9 f v) (ZW f y):=
 zj qk (E:=qjm N) (L:=qJ (qpB N)) (st:=ZW f) (g:=some) (R:=ZW f) (qhH N) (qt (by kernel_rfl) trivial) (rg0 (by kernel_rfl)) (fun v=>by kernel_rfl) (qP (st:=ZW f) fun y=>by rcases y with _ | _<;>rfl) n v y h
def qaW (N:Nat) (o_4:qa) (o_4_2:qa) (s5_4:Int):Option Qf:=qf8 N N (o_4,o_4_2) s5_4
def qfx (N:Nat):qw:=smL qfE [qf,qf,(.i .i64)] Qf (fun x=>qaW N x.1 x.2.1 x.2.2.1) (csS cs1) fun x=>ZW (x.1,x.2.1)
theorem qoC (N:Nat):zZ Tryz.prog qcz 45 (qE qBD 4) (qfx N):=zp fun x z h=>qq_ N (x.1,x.2.1) N x.2.2.1 z h
def qvs (z:Bool):TV×THp:=(xb z,[])
def qcv (N:Nat) (a0:qa) (a1:qa):Tree (Bool):=
 .cond (!(eqE (.ba 16) (qa.ID a0) (qa.ID a1))) (
 .ret false) <|
 .cond (!(eqE qh (qa.qz a0) (qa.qz a1))) (
 .ret false) <|
 .cond (!decide ((((qa.F a0).length:Nat):Int)=(((qa.F a1).length:Nat):Int))) (
 .ret false) <|
 .bind (qaW N a0 a1 0) fun z1=>
 .sum z1 (fun z2=>
 .ret false) fun z2=>
 .ret true
def KK (N:Nat) (a0:qa) (a1:qa):Option (Bool):=(qcv N a0 a1).run some
def qwj (N:Nat):List (Nat×qw):=[(4,qfx N)]
def qi3 (N:Nat):Ent:=smF ⟨45,[],[.x qf,.x qf],[],[]⟩ [qf,qf] (Bool) (fun x=>KK N x.1 x.2.1) cs1 fun _=>qvs
theorem qtV (N:Nat):zf Tryz.prog (qi3 N):=
 zd (H:=qcz) (L:=qJ (qwj N)) (ts:=[qf,qf]) (T:=fun x=>qcv N x.1 x.2.1) 0 qRw (qhH N) (qt (by kernel_rfl) ⟨qoC N,trivial⟩) (rg0 (by kernel_rfl)) fun x=>by kernel_rfl
noncomputable def qCF:Code:=Tryz.f18.body.getD .skip
theorem qR5:FnF Tryz.prog 18 Tryz.f18 qCF:=⟨qk,by kernel_rfl,by kernel_rfl,by kernel_rfl⟩
def qcy:TH:={ live:=[(0,[2,3]),(1,[2,3,13]),(2,[4]),(3,[2,3,5]),(4,[2,3,5,18]),(5,[2,3,5]),(6,[2,3,5,6]),(7,[2,3,5,33]),(8,[4]),(9,[4])] }
def qjg (N:Nat):List Ent:=[qi3 N]
theorem qhx (N:Nat):qU Tryz.prog (qjg N):=⟨qtV N,trivial⟩
abbrev XG:=qb×qb
abbrev Qo:=Unit⊕(Int×Bool)
def Z1 (f:XG):Qo→Ex×TSt
 | .inl y=>(.ret,⟨0,34,[],[(4,.bc false)],[],false,[]⟩)
 | .inr y=>(.exit 0,⟨0,34,[],[(2,.p 20 [] 0),(3,.p 30 [] 0),(5,xi y.1),(18,xb y.2)],[(20,.cell false (.tv qj f.1)),(30,.cell false (.tv qj f.2))],false,[]⟩)
def qqD (N:Nat):List (Nat×qw):=[]
abbrev ZZ:=Int
def qfZ:SP:=⟨0,34,[],[(2,.k (.p 20 [] 0)),(3,.k (.p 30 [] 0)),(5,.x (.i .i64))],[(20,.cell false (.x qj)),(30,.cell false (.x qj))],false,[]⟩
def qqd (f:XG) (v:ZZ):TSt:=zq qfZ [dv qj f.1,dv qj f.2,dv (.i .i64) v]
def XD (N:Nat) (o_4:qb) (o_4_2:qb) (v:ZZ):Tree (ZZ⊕Qo):=
 .cond (decide (v < (((qb.R o_4).length:Nat):Int))) (
 .bind (qM (qb.R o_4) v) fun e1=>
 .bind (qM (qb.R o_4_2) v) fun e2=>
 .bind (KK N e1 e2) fun r3=>
 .cond (!r3) (
 .ret (.inr (.inl ()))) <|
 .chk (qp (v + 1)) <|
 .ret (.inl (v + 1))) <|
 .ret (.inr (.inr ((v,decide (v < (((qb.R o_4).length:Nat):Int))))))
def qfi (N n:Nat) (f:XG) (v:ZZ):Option Qo:=qQ (XD N f.1 f.2) some n v
theorem qqT (N:Nat) (f:XG) (n:Nat) (v:ZZ) (y:Qo) (h:qfi N n f v=some y):LG Tryz.prog qcy 18 (qE qCF 4) (qqd f v) (Z1 f y):=
 zj qk (E:=qjg N) (L:=qJ (qqD N)) (st:=Z1 f) (g:=some) (R:=Z1 f) (qhx N) (qt (by kernel_rfl) trivial) (rg0 (by kernel_rfl)) (fun v=>by kernel_rfl) (qP (st:=Z1 f) fun y=>by rcases y with _ | _<;>rfl) n v y h
def qbo (N:Nat) (o_4:qb) (o_4_2:qb) (s5_4:Int):Option Qo:=qfi N N (o_4,o_4_2) s5_4
def qfz (N:Nat):qw:=smL qfZ [qj,qj,(.i .i64)] Qo (fun x=>qbo N x.1 x.2.1 x.2.2.1) (csS cs1) fun x=>Z1 (x.1,x.2.1)
theorem qoD (N:Nat):zZ Tryz.prog qcy 18 (qE qCF 4) (qfz N):=zp fun x z h=>qqT N (x.1,x.2.1) N x.2.2.1 z h
def qws (z:Bool):TV×THp:=(xb z,[])
def qcf (N:Nat) (a0:qb) (a1:qb):Tree (Bool):=
 .cond (!decide ((((qb.R a0).length:Nat):Int)=(((qb.R a1).length:Nat):Int))) (
 .ret false) <|
 .bind (qbo N a0 a1 0) fun z1=>
 .sum z1 (fun z2=>
 .ret false) fun z2=>
 .ret true
def WO (N:Nat) (a0:qb) (a1:qb):Option (Bool):=(qcf N a0 a1).run some
def qvz (N:Nat):List (Nat×qw):=[(4,qfz N)]
def qca (N:Nat):Ent:=smF ⟨18,[],[.x qj,.x qj],[],[]⟩ [qj,qj] (Bool) (fun x=>WO N x.1 x.2.1) cs1 fun _=>qws
theorem qhY (N:Nat):zf Tryz.prog (qca N):=
 zd (H:=qcy) (L:=qJ (qvz N)) (ts:=[qj,qj]) (T:=fun x=>qcf N x.1 x.2.1) 0 qR5 (qhx N) (qt (by kernel_rfl) ⟨qoD N,trivial⟩) (rg0 (by kernel_rfl)) fun x=>by kernel_rfl
noncomputable def qS4:Code:=Tryz.f15.body.getD .skip
theorem qRG:FnF Tryz.prog 15 Tryz.f15 qS4:=⟨qk,by kernel_rfl,by kernel_rfl,by kernel_rfl⟩
def qvY:TH:={ live:=[(0,[0,1]),(1,[5]),(2,[4])] }
def qvV (N:Nat):List Ent:=[qca N]
theorem qsL (N:Nat):qU Tryz.prog (qvV N):=⟨qhY N,trivial⟩
def qvx (z:Bool):TV×THp:=(xb z,[])
def qb8 (N:Nat) (a0:List qa) (a1:List qa):Tree (Bool):=
 .bind (WO N (qb.mk a0) (qb.mk a1)) fun r1=>
 .ret r1
def KO (N:Nat) (a0:List qa) (a1:List qa):Option (Bool):=(qb8 N a0 a1).run some
def qwr (N:Nat):List (Nat×qw):=[]
def qji (N:Nat):Ent:=smF ⟨15,[],[.x (.sl 19 qf),.x (.sl 19 qf)],[],[]⟩ [(.sl 19 qf),(.sl 19 qf)] (Bool) (fun x=>KO N x.1 x.2.1) cs1 fun _=>qvx
theorem qtk (N:Nat):zf Tryz.prog (qji N):=
 zd (H:=qvY) (L:=qJ (qwr N)) (ts:=[(.sl 19 qf),(.sl 19 qf)]) (T:=fun x=>qb8 N x.1 x.2.1) 0 qRG (qsL N) (qt (by kernel_rfl) trivial) (rg0 (by kernel_rfl)) fun x=>by kernel_rfl
noncomputable def qUh:Code:=Tryz.f20.body.getD .skip
theorem qR6:FnF Tryz.prog 20 Tryz.f20 qUh:=⟨qk,by kernel_rfl,by kernel_rfl,by kernel_rfl⟩
def qE3:TH:={ live:=[(0,[3,4,5,6]),(1,[3,4,9]),(2,[8])] }
def qCX (N:Nat):List Ent:=[qiu N,qil N]
theorem qAm (N:Nat):qU Tryz.prog (qCX N):=⟨qmS N,qnh N,trivial⟩
def qDd (z:Bool):TV×THp:=(xb z,[])
def qhN (N:Nat) (a0:qe) (a1:qg) (a2:Vector UInt8 16) (a3:Int):Tree (Bool):=
 .bind (YT N a1 a2) fun r1=>
 .bind (YR N a0 r1.1 a3) fun r2=>
 .ret r2
def qgo (N:Nat) (a0:qe) (a1:qg) (a2:Vector UInt8 16) (a3:Int):Option (Bool):=(qhN N a0 a1 a2 a3).run some
def qDE (N:Nat):List (Nat×qw):=[]
def qo9 (N:Nat):Ent:=smF ⟨20,[],[.x qq,.x qo,.x (.ba 16),.x (.i .i64)],[],[]⟩ [qq,qo,(.ba 16),(.i .i64)] (Bool) (fun x=>qgo N x.1 x.2.1 x.2.2.1 x.2.2.2.1) cs1 fun _=>qDd
theorem qBT (N:Nat):zf Tryz.prog (qo9 N):=
 zd (H:=qE3) (L:=qJ (qDE N)) (ts:=[qq,qo,(.ba 16),(.i .i64)]) (T:=fun x=>qhN N x.1 x.2.1 x.2.2.1 x.2.2.2.1) 0 qR6 (qAm N) (qt (by kernel_rfl) trivial) (rg0 (by kernel_rfl)) fun x=>by kernel_rfl
noncomputable def qMl:Code:=Tryz.f3.body.getD .skip
theorem qUP:FnF Tryz.prog 3 Tryz.f3 qMl:=⟨qk,by kernel_rfl,by kernel_rfl,by kernel_rfl⟩
def qmi:TH:={ live:=[(0,[5,6,7,8,9,10]),(1,[5,6,7,8,9,10,13]),(2,[5,6,7,8,9,10,13,14]),(3,[5,6,7,8,9,10,13,14,15]),(4,[5,6,7,8,9,10,13,14,15,16]),(5,[5,6,7,8,9,10,13,50]),(6,[12]),(7,[5,6,7,8,9,10,17,18]),(8,[5,6,7,9,10,17,18,19,20]),(9,[5,7,9,10,17,18,19,20,21]),(10,[5,7,9,10,18,20,21,22]),(11,[5,7,9,10,18,20,21,22,23]),(12,[12])],dec:=[33,37,41,45,80,83,88] }
def qmu (N:Nat):List Ent:=[qMd,qkj N,qk3 N,qdF N,qAS N,qkw N,qvh N,qiq N,qji N,qca N,Kt N,qo9 N]
theorem qkZ (N:Nat):qU Tryz.prog (qmu N):=⟨qSy,qvT N,qvP N,qi9 N,qJf N,qv0 N,qF2 N,qsQ N,qtk N,qhY N,qe0 N,qBT N,trivial⟩
def qme (z:Bool):TV×THp:=(xb z,[])
def W0 (N:Nat) (a0:qb) (a1:qg) (a2:qa) (a3:qe) (a4:Vector UInt8 16) (a5:Int):Tree (Bool):=
 .bind (qNU) fun r1=>
 .bind (qaI N a0) fun r2=>
 .bind (qbb N a1) fun r3=>
 .bind (QT N a2) fun r4=>
 .cond (!r1) (
 .ret r1) <|
 .cond (!r2) (
 .ret r1) <|
 .cond (!r3) (
 .ret r1) <|
 .cond (!r4) (
 .ret r1) <|
 .cond (decide (((300:Int)) < (((qe.V a3).length:Nat):Int))) (
 .ret r1) <|
 .bind (qoO N a0 a2) fun r5=>
 .bind (qbf N a0 a2) fun r6=>
 .bind (Kw N a0 a1) fun r7=>
 .bind (QY N a0 a1) fun r8=>
 .bind (KO N r7 r8) fun r9=>
 .bind (WO N r5.1 r6.1) fun r10=>
 .bind (Vk N a3 a1 a4 a5) fun r11=>
 .cond r9 (
 .cond r10 (
 .cond (decide (r5.2=r6.2)) (
 .bind (qgo N a3 a1 a4 a5) fun r12=>
 .ret (eqE .b r12 r11)) <|
 .ret false) <|
 .ret false) <|
 .ret false
def vP (N:Nat) (a0:qb) (a1:qg) (a2:qa) (a3:qe) (a4:Vector UInt8 16) (a5:Int):Option (Bool):=(W0 N a0 a1 a2 a3 a4 a5).run some
def qmp (N:Nat):List (Nat×qw):=[]
theorem qks (N:Nat):qbq Tryz.prog ⟨3,[],[.x qj,.x qo,.x qf,.x qq,.x (.ba 16),.x (.i .i64)],[],[]⟩ [qj,qo,qf,qq,(.ba 16),(.i .i64)] (fun x=>W0 N x.1 x.2.1 x.2.2.1 x.2.2.2.1 x.2.2.2.2.1 x.2.2.2.2.2.1) (fun _=>qme):=
 Yp (H:=qmi) (L:=qJ (qmp N)) 0 qUP (qkZ N) (qt (by kernel_rfl) trivial) (rg0 (by kernel_rfl)) fun x=>by kernel_rfl
end Go.Rx
end
set_option maxRecDepth 100000
noncomputable section
namespace Go.Rx
open Go.Proofs
abbrev ve (q:Nat→Bool) (n:Nat):Bool:=qJB q n 0
theorem J_ {q:Nat→Bool} {n:Nat}:ve q n=true↔∀ j,j < n→q j=true:=by
 unfold ve; rw [qKo]
 exact ⟨fun h j hj=>h j (Nat.zero_le _) (by omega),fun h j _ hj=>h j (by omega)⟩
theorem qQ6 {p q:Nat→Bool} {n:Nat} (h:Zk p n 0=none) (hq:∀ j,j < n→p j=!q j):ve q n=true:=
 J_.2 fun j hj=>by
  have:=qBd h j (Nat.zero_le _) (by omega)
  rw [hq j hj] at this; simpa using this
theorem qPj {p q:Nat→Bool} {n i:Nat} (h:Zk p n 0=some i) (hq:∀ j,j < n→p j=!q j):ve q n=false:=by
 obtain ⟨h1,_,h2,_⟩:=qpY h
 cases e:ve q n with
 | false=>rfl
 | true=>
  have:=J_.1 e i (by omega)
  rw [hq i (by omega),this] at h1; simp at h1
theorem VD {α Y : Type} {B : Int → Tree (Int ⊕ (α ⊕ (Int × Bool)))} {g : α ⊕ (Int × Bool) → Option Y} {q : Nat → Bool} {n : Nat} {hit : α}
    (h1:∀ k,k < n→(B (k:Int)).run some=some (if q k then .inl ((k + 1:Nat):Int) else .inr (.inl hit))) (h2:(B (n:Int)).run some=some (.inr (.inr (((n:Nat):Int),false)))) {N:Nat} (hN:n < N) :
    qQ B g N ((0:Nat):Int)=g (if ve q n then .inr (((n:Nat):Int),false) else .inl hit):=by
 rw [qdo (p:=fun k=>!q k) (hit:=fun _=>.inl hit) (fin:=.inr (((n:Nat):Int),false)) (n:=n) (fun k hk=>by rw [h1 k hk]; cases q k<;>rfl) h2 N 0 (Nat.zero_le _) (by omega),Nat.sub_zero]
 cases e:Zk (fun k=>!q k) n 0 with
 | none=>rw [qQ6 e fun _ _=>rfl]; rfl
 | some i=>rw [qPj e fun _ _=>rfl]; rfl
class Jj (N:Nat):Prop where
 h:100000≤N
theorem Jj.of {N:Nat} (h:100000≤N):Jj N:=⟨h⟩
theorem big (N:Nat) [Jj N]:100000≤N:=Jj.h
abbrev zSt:qc:=((0:Int),(0:Int))
abbrev zE:qm:=qm.mk 0 zSt 0 (Vector.replicate 32 0) []
abbrev zL:qn:=qn.mk (Vector.replicate 16 0) zSt []
def qGd (x:qn):Bool:=decide (x.F.length≤12)&&ve (fun k=>decide ((x.F.getD k zE).B.length≤40)) x.F.length
def qqZ (m:qg):Bool:=decide (m.L.length≤14)&&ve (fun k=>qGd (m.L.getD k zL)) m.L.length
theorem qzE {k:Nat} (h:k≤1000000):qp ((k + 1:Nat):Int):=by unfold qp; omega
theorem qth {c n:Nat}:decide (((c:Nat):Int) < ((n:Nat):Int))=!decide (n≤c):=by
 by_cases h:n≤c
 ·rw [decide_eq_true h,decide_eq_false (by omega)]; rfl
 ·rw [decide_eq_false h,decide_eq_true (by omega)]; rfl
section n
variable {N:Nat} [Jj N]
def stB (a:qc):Bool:=decide (a=zSt)||(decide (0 < a.1)&&decide (a.1≤1099511627776)&&decide (0≤a.2)&&decide (a.2 < 8))
def slB (a b:qc):Bool:=decide (a.1 < b.1∨(a.1=b.1∧a.2 < b.2))
theorem qbm (a b:qc):eqE qh a b=decide (a=b):=Bool.eq_iff_iff.2 ((W_ qh a b).trans (decide_eq_true_iff (p:=(a:Int×Int)=b)).symm)
theorem qs8 (a b:Vector UInt8 16):eqE (.ba 16) a b=decide (a=b):=Bool.eq_iff_iff.2 ((W_ (.ba 16) a b).trans (decide_eq_true_iff (p:=(a:Vector UInt8 16)=b)).symm)
theorem qnT (a:qc):qaF a=some (stB a):=by
 unfold qaF qpx
 have e:=qbm a (qc.mk 0 0)
 simp only [Tree.run,e]
 show (bif decide (a=zSt) then _ else _)=some (decide (a=zSt)||_)
 cases decide (a=zSt) with
 | true=>rfl
 | false=>
  show (bif decide (0 < a.1) then _ else _)=_
  cases decide (0 < a.1) with
  | false=>rfl
  | true=>
   show (bif decide (a.1≤1099511627776) then _ else _)=_
   cases decide (a.1≤1099511627776) with
   | false=>rfl
   | true=>
    show (bif decide (0≤a.2) then _ else _)=_
    cases decide (0≤a.2)<;>rfl
def sgn (a b:Int):Int:=if a < b then -1 else if b < a then 1 else 0
theorem qWq (a b:Int):YY a b=some (sgn a b):=by
 unfold YY qe_ qgc qhI
 simp only [Tree.run,Option.bind_some,decide_true,Bool.not_true,cond_false,sgn]
 by_cases h:a < b
 ·simp [h]
 ·by_cases h2:b < a
  ·simp [h,h2]
  ·simp [h,h2]
theorem qOs (a b:Int):qia N [a,b]=some (if a=0 then b else a):=by
 obtain ⟨n,rfl⟩:∃ n,N=n + 3:=⟨N - 3,by have:=big N; omega⟩
 have e:qlz (n + 3) [a,b] ((([a,b]:List Int).length:Nat):Int) 0=qQ (Va (n + 3) [a,b] 2) some (n + 3) 0:=rfl
 have r0:(Va (n + 3) [a,b] 2 0).run some=if a=0 then some (.inl 1) else some (.inr (.inl a)):=by
  unfold Va
  have g:qM [a,b] 0=some a:=rfl
  have c:qp ((0:Int) + 1):=by unfold qp; omega
  rw [qL,show decide ((0:Int) < 2)=true from rfl,cond_true,run_bind,g,Option.bind_some,qL,qS,qi c]
  by_cases h:a=0
  ·rw [if_pos h,decide_eq_true h]; rfl
  ·rw [if_neg h,decide_eq_false h]; rfl
 have r1:(Va (n + 3) [a,b] 2 1).run some=if b=0 then some (.inl 2) else some (.inr (.inl b)):=by
  unfold Va
  have g:qM [a,b] 1=some b:=rfl
  have c:qp ((1:Int) + 1):=by unfold qp; omega
  rw [qL,show decide ((1:Int) < 2)=true from rfl,cond_true,run_bind,g,Option.bind_some,qL,qS,qi c]
  by_cases h:b=0
  ·rw [if_pos h,decide_eq_true h]; rfl
  ·rw [if_neg h,decide_eq_false h]; rfl
 have r2:(Va (n + 3) [a,b] 2 2).run some=some (.inr (.inr (2,false))):=rfl
 unfold qia qnz
 rw [run_bind,e]
 by_cases h:a=0
 ·rw [if_pos h] at r0
  rw [Zt r0,if_pos h]
  by_cases h2:b=0
  ·rw [if_pos h2] at r1
   rw [Zt r1,zu r2,h2]; rfl
  ·rw [if_neg h2] at r1
   rw [zu r1]; rfl
 ·rw [if_neg h] at r0
  rw [zu r0,if_neg h]; rfl
theorem qWU (a b:Int):sgn a b=-1∨sgn a b=0∨sgn a b=1:=by
 unfold sgn; split
 ·exact .inl rfl
 ·split
  ·exact .inr (.inr rfl)
  ·exact .inr (.inl rfl)
theorem W5 (a b:qc):vz N a b=some (slB a b):=by
 obtain ⟨a1,a2⟩:=a
 obtain ⟨b1,b2⟩:=b
 unfold vz qnC
 simp only [Tree.run,qbm,qWq,Option.bind_some]
 by_cases h:((a1,a2):qc)=(b1,b2)
 ·cases h
  have:slB ((a1,a2):qc) (a1,a2)=false:=decide_eq_false (by simp only; omega)
  rw [this,decide_eq_true rfl]; rfl
 ·rw [decide_eq_false h]
  simp only [Bool.not_false,cond_true]
  show ((qia N [sgn a1 b1,sgn a2 b2]).bind _)=_
  have hs:=qWU a2 b2
  by_cases h1:a1 < b1
  ·rw [show sgn a1 b1=-1 from if_pos h1,qOs,show slB ((a1,a2):qc) (b1,b2)=true from decide_eq_true (.inl h1)]; rfl
  ·by_cases h2:b1 < a1
   ·rw [show sgn a1 b1=1 by unfold sgn; rw [if_neg h1,if_pos h2],qOs,show slB ((a1,a2):qc) (b1,b2)=false from decide_eq_false (by simp only; omega)]; rfl
   ·have he:a1=b1:=by omega
    rw [show sgn a1 b1=0 by unfold sgn; rw [if_neg h1,if_neg h2],qOs,if_pos rfl,Option.bind_some]
    congr 1
    show decide (sgn a2 b2 < 0)=decide (a1 < b1∨(a1=b1∧a2 < b2))
    rw [decide_eq_decide]
    simp only [he,Int.lt_irrefl,false_or,true_and]
    unfold sgn
    split
    ·rename_i h3; simp [h3]
    ·rename_i h3
     split
     ·simp; omega
     ·simp; omega
end n
theorem qhi {m:qg}:qqZ m=true↔m.L.length≤14∧∀ k,k < m.L.length→(m.L.getD k zL).F.length≤12∧∀ j,j < (m.L.getD k zL).F.length→((m.L.getD k zL).F.getD j zE).B.length≤40:=by
 unfold qqZ
 rw [Bool.and_eq_true,decide_eq_true_iff,J_]
 refine and_congr Iff.rfl (forall_congr' fun k=>imp_congr_right fun _=>?_)
 unfold qGd
 rw [Bool.and_eq_true,decide_eq_true_iff,J_]
 exact and_congr Iff.rfl (forall_congr' fun j=>imp_congr_right fun _=>decide_eq_true_iff)
end Go.Rx
end
set_option maxRecDepth 100000
noncomputable section
namespace Go.Rx
open Go.Proofs
def blk (n:Int):Int:=if n < 24 then 0 else n.tdiv 8
def qKp (e:qm) (dead:qc):Bool:=
 decide (0≤e.No)&&(decide (e.No < 8)&&(decide (0≤e.Len)&&(decide (e.Len≤200)&&(decide (((e.B.length:Nat):Int)=blk e.Len)&&(stB e.S&&slB dead e.S)))))
def qjD (l:List qm) (dead:qc) (k:Nat):Bool:=qKp (l.getD k zE) dead&&(decide (k=0)||!decide ((l.getD k zE).No≤(l.getD (k - 1) zE).No))
def qic (x:qn):Bool:=ve (qjD x.F x.qz) x.F.length&&(stB x.qz&&(decide (0 < x.F.length)||!decide (x.qz=zSt)))
def lbB (a b:Vector UInt8 16):Bool:=!decide (a=b)&&decide (Go.Lib.compareBytes a.toList b.toList < 0)
def qiF (l:List qn) (k:Nat):Bool:=qic (l.getD k zL)&&(decide (k=0)||lbB (l.getD (k - 1) zL).ID (l.getD k zL).ID)
def qig (m:qg):Bool:=ve (qiF m.L) m.L.length&&decide (m.L.length≤10)
theorem qUL {a b:Bool}:(bif a then some b else some false)=some (a&&b):=by cases a<;>rfl
theorem qQu {n:Int} (h:n≤200) (h0:0≤n):qcY n=some (blk n):=by
 unfold qcY qe3 blk
 by_cases h1:n < 24
 ·simp only [Tree.run,decide_eq_true h1,cond_true,if_pos h1]
 ·have e:n.tdiv 8≤n:=by rw [Int.tdiv_eq_ediv_of_nonneg h0]; omega
  have e0:0≤n.tdiv 8:=by rw [Int.tdiv_eq_ediv_of_nonneg h0]; omega
  have h64:qp (n.tdiv 8):=by unfold qp; omega
  simp only [Tree.run,decide_eq_false h1,cond_false,if_neg h1,qi h64]
  exact qi (by decide)
section n
variable {N:Nat} [Jj N]
theorem qRA (e:qm) (dead:qc):qex N e dead=some (qKp e dead):=by
 unfold qex qgD qKp
 simp only [Tree.run]
 by_cases h1:0≤e.No
 ·rw [decide_eq_true h1]
  by_cases h2:e.No < 8
  ·rw [decide_eq_true h2]
   by_cases h3:0≤e.Len
   ·rw [decide_eq_true h3]
    by_cases h4:e.Len≤200
    ·rw [decide_eq_true h4,qQu h4 h3]
     simp only [cond_true,Option.bind_some,qnT,W5,Bool.true_and]
     cases decide (((e.B.length:Nat):Int)=blk e.Len) with
     | false=>rfl
     | true=>exact qUL
    ·rw [decide_eq_false h4]; rfl
   ·rw [decide_eq_false h3]; rfl
  ·rw [decide_eq_false h2]; rfl
 ·rw [decide_eq_false h1]; rfl
theorem qjO {k:Nat} (h:0 < k):(k:Int) - 1=((k - 1:Nat):Int):=by omega
theorem qso {k:Nat}:decide ((0:Int) < (k:Int))=!decide (k=0):=by
 by_cases h:k=0
 ·subst h; rfl
 ·rw [decide_eq_false h,decide_eq_true (by omega)]; rfl
theorem qVm {x : qn} (h : x.F.length ≤ 600) :
    qgx N x x.F ((x.F.length:Nat):Int) 0=some (if ve (qjD x.F x.qz) x.F.length then .inr (((x.F.length:Nat):Int),false) else .inl ()):=by
 refine VD (B:=YZ N x x.F ((x.F.length:Nat):Int)) (g:=some) (q:=qjD x.F x.qz) (fun k hk=>?_) ?_ (by have:=big N; omega)
 ·unfold YZ
  have h64:qp ((k + 1:Nat):Int):=qzE (by omega)
  simp only [Tree.run,dec_lt hk,cond_true,zo (d:=zE) hk,Option.bind_some,qT,qi h64,qRA,qso]
  unfold qjD
  cases qKp (x.F.getD k zE) x.qz with
  | false=>rfl
  | true=>
   by_cases h0:k=0
   ·subst h0; rfl
   ·have hp:qp ((k - 1:Nat):Int):=by unfold qp; omega
    have hk1:k - 1 < x.F.length:=by omega
    simp only [decide_eq_false h0,Bool.not_true,Bool.not_false,cond_true,cond_false,qi hp,qjO (Nat.pos_of_ne_zero h0),zo (d:=zE) hk1,Option.bind_some,Bool.false_or,Bool.true_and]
    cases decide ((x.F.getD k zE).No≤(x.F.getD (k - 1) zE).No)<;>rfl
 ·unfold YZ
  simp only [Tree.run,zi (Nat.lt_irrefl _),cond_false]
theorem qVv {x:qn} (h:x.F.length≤600):qgd N x=some (qic x):=by
 unfold qgd qiR qic
 simp only [Tree.run,qVm h,Option.bind_some]
 cases ve (qjD x.F x.qz) x.F.length with
 | false=>rfl
 | true=>
  simp only [reduceIte,Tree.run,qnT,Option.bind_some,qso,qbm,Bool.true_and]
  have e:eqE qh x.qz (qc.mk 0 0)=decide (x.qz=zSt):=qbm x.qz (qc.mk 0 0)
  have e2:decide (0 < x.F.length)=!decide (x.F.length=0):=by
   by_cases h:x.F.length=0
   ·rw [decide_eq_true h,decide_eq_false (by omega)]; rfl
   ·rw [decide_eq_false h,decide_eq_true (by omega)]; rfl
  cases stB x.qz with
  | false=>rfl
  | true=>
   rw [e2]
   cases decide (x.F.length=0)<;>rfl
theorem qJQ (a b:Vector UInt8 16):qkm a b=some (lbB a b):=by
 unfold qkm qpS qbG qhW qSR lbB
 simp only [Tree.run,Option.bind_some,qs8]
 cases decide (a=b)<;>rfl
theorem qWf {m : qg} (h : m.L.length ≤ 600) (hF : ∀ k, k < m.L.length → (m.L.getD k zL).F.length ≤ 600) :
    qhM N m m.L ((m.L.length:Nat):Int) 0=some (if ve (qiF m.L) m.L.length then .inr (((m.L.length:Nat):Int),false) else .inl ()):=by
 refine VD (B:=KL N m m.L ((m.L.length:Nat):Int)) (g:=some) (q:=qiF m.L) (fun k hk=>?_) ?_ (by have:=big N; omega)
 ·unfold KL
  have h64:qp ((k + 1:Nat):Int):=qzE (by omega)
  simp only [Tree.run,dec_lt hk,cond_true,zo (d:=zL) hk,Option.bind_some,qT,qi h64,qVv (hF k hk),qso]
  unfold qiF
  cases qic (m.L.getD k zL) with
  | false=>rfl
  | true=>
   by_cases h0:k=0
   ·subst h0; rfl
   ·have hp:qp ((k - 1:Nat):Int):=by unfold qp; omega
    have hk1:k - 1 < m.L.length:=by omega
    simp only [decide_eq_false h0,Bool.not_true,Bool.not_false,cond_true,cond_false,qi hp,qjO (Nat.pos_of_ne_zero h0),zo (d:=zL) hk1,Option.bind_some,Bool.false_or,Bool.true_and,qJQ]
    cases lbB (m.L.getD (k - 1) zL).ID (m.L.getD k zL).ID<;>rfl
 ·unfold KL
  simp only [Tree.run,zi (Nat.lt_irrefl _),cond_false]
theorem qPP {m:qg} (h:m.L.length≤600) (hF:∀ k,k < m.L.length→(m.L.getD k zL).F.length≤600):qiJ N m=some (qig m):=by
 unfold qiJ qjy qig
 simp only [Tree.run,qWf h hF,Option.bind_some]
 cases ve (qiF m.L) m.L.length with
 | false=>rfl
 | true=>
  simp only [reduceIte,Tree.run,Bool.true_and]
  congr 1
  rw [decide_eq_decide]; omega
end n
theorem qT5 {m:qg}:qig m=true↔(∀ k,k < m.L.length→qic (m.L.getD k zL)=true∧(k=0∨lbB (m.L.getD (k - 1) zL).ID (m.L.getD k zL).ID=true))∧m.L.length≤10:=by
 unfold qig
 rw [Bool.and_eq_true,decide_eq_true_iff,J_]
 refine and_congr (forall_congr' fun k=>imp_congr_right fun _=>?_) Iff.rfl
 show (qic (m.L.getD k zL)&&(decide (k=0)||lbB (m.L.getD (k - 1) zL).ID (m.L.getD k zL).ID))=true↔_
 rw [Bool.and_eq_true,Bool.or_eq_true,decide_eq_true_iff]
theorem Kq (a:Vector UInt8 16):lbB a a=false:=by unfold lbB; rw [decide_eq_true rfl]; rfl
theorem qPM {x:qn}:qic x=true↔(∀ k,k < x.F.length→qjD x.F x.qz k=true)∧stB x.qz=true∧(0 < x.F.length∨x.qz≠zSt):=by
 unfold qic
 rw [Bool.and_eq_true,Bool.and_eq_true,Bool.or_eq_true,J_,decide_eq_true_iff,Bool.not_eq_true',decide_eq_false_iff_not]
end Go.Rx
end
set_option maxRecDepth 100000
noncomputable section
namespace Go.Rx
abbrev c32 (x:UInt32):Int:=((x.toNat:Nat):Int)
theorem qJE (x:UInt32):x.toNat < 4294967296:=x.toNat_lt
theorem qdD (n:Nat):IntKind.u32.wrap ((n:Nat):Int)=((n % 4294967296:Nat):Int):=by rw [IntKind.wrap_u32']; omega
theorem qhy (x:UInt32):BitVec.ofInt 32 (c32 x)=x.toBitVec:=by
 apply BitVec.eq_of_toNat_eq
 rw [ofInt_u32 _ (qJE x)]
 rfl
theorem qCI (x:UInt32):IntKind.u32.wrap ((x.toNat:Nat):Int)=c32 x:=by rw [qdD,Nat.mod_eq_of_lt (qJE x)]
theorem Yt (x y:UInt32):vd .u32 (c32 x) (c32 y)=c32 (x + y):=by
 unfold vd
 show IntKind.u32.wrap (((x.toNat:Nat):Int) + ((y.toNat:Nat):Int))=_
 rw [← Int.natCast_add,qdD,c32,UInt32.toNat_add]
theorem qgg (x y:UInt32):Xa .u32 (c32 x) (c32 y)=c32 (x ^^^ y):=by
 unfold Xa
 rw [show IntKind.u32.bits=32 from rfl,qhy,qhy]
 exact qCI (x ^^^ y)
theorem qs6 (x y:UInt32):Ko .u32 (c32 x) (c32 y)=c32 (x &&& y):=by
 unfold Ko
 rw [show IntKind.u32.bits=32 from rfl,qhy,qhy]
 exact qCI (x &&& y)
theorem qCU (x y:UInt32):uOr .u32 (c32 x) (c32 y)=c32 (x ||| y):=by
 unfold uOr
 rw [show IntKind.u32.bits=32 from rfl,qhy,qhy]
 exact qCI (x ||| y)
theorem qWG (x:UInt32):Xa .u32 4294967295 (c32 x)=c32 (~~~x):=by
 have h:(4294967295:Int)=c32 4294967295:=rfl
 rw [h,qgg]
 congr 2
theorem qUq (x:UInt32):qpG .u32 4294967295 (c32 x)=c32 (~~~x):=by
 unfold qpG
 have h:=qJE x
 show IntKind.u32.wrap ((4294967295:Int) - ((x.toNat:Nat):Int))=_
 rw [show (4294967295:Int) - ((x.toNat:Nat):Int)=((4294967295 - x.toNat:Nat):Int) by omega,qdD,Nat.mod_eq_of_lt (by omega),c32]
 congr 1
 rw [UInt32.toNat_not]
 rfl
theorem qEX (x:UInt32) (n:Nat) (h:n < 32):qBg .u32 (c32 x) n=c32 (x <<< UInt32.ofNat n):=by
 unfold qBg
 rw [show c32 x * 2 ^ n=((x.toNat * 2 ^ n:Nat):Int) by push_cast; rfl,qdD,c32,UInt32.toNat_shiftLeft,UInt32.toNat_ofNat_of_lt' (show n < UInt32.size by unfold UInt32.size; omega),Nat.mod_eq_of_lt h,Nat.shiftLeft_eq]
theorem qtW (x:UInt32) (n:Nat) (h:n < 32):Jm (c32 x) n=c32 (x >>> UInt32.ofNat n):=by
 unfold Jm
 rw [show ((2:Int) ^ n)=((2 ^ n:Nat):Int) by push_cast; rfl,Int.fdiv_eq_ediv_of_nonneg _ (Int.natCast_nonneg _),c32,← Int.natCast_ediv,c32,UInt32.toNat_shiftRight,UInt32.toNat_ofNat_of_lt' (show n < UInt32.size by unfold UInt32.size; omega),Nat.mod_eq_of_lt h,Nat.shiftRight_eq_div_pow]
theorem qIb (x:UInt32):inW (c32 x):=⟨Int.natCast_nonneg _,by have:=qJE x; show ((x.toNat:Nat):Int) < _; omega⟩
def rot (x:UInt32) (n:Nat):UInt32:=(x <<< UInt32.ofNat (32 - n)) ||| (x >>> UInt32.ofNat n)
end Go.Rx
end
