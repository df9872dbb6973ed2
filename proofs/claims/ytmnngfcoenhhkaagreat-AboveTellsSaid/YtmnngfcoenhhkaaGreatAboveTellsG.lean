/- A part of the proof of AboveTells: the law returns true for every input, and its arguments read as before. No condition. -/
import Derived.Laws.BitsAllLaws
import Derived.Test.YtmnngfcoenhhkaaGreatAboveTellsF
set_option linter.unusedSimpArgs false
set_option linter.unusedVariables false
set_option linter.unusedSectionVars false
set_option maxRecDepth 100000
noncomputable section
namespace Go.Rx
open Go.Proofs
def qyy:List UInt8:=[0,1,2,2,3,3,3,3,4,4,4,4,4,4,4,4,5,5,5,5,5,5,5,5,5,5,5,5,5,5,5,5,6,6,6,6,6,6,6,6,6,6,6,6,6,6,6,6,6,6,6,6,6,6,6,6,6,6,6,6,6,6,6,6,7,7,7,7,7,7,7,7,7,7,7,7,7,7,7,7,7,7,7,7,7,7,7,7,7,7,7,7,7,7,7,7,7,7,7,7,7,7,7,7,7,7,7,7,7,7,7,7,7,7,7,7,7,7,7,7,7,7,7,7,7,7,7,7,8,8,8,8,8,8,8,8,8,8,8,8,8,8,8,8,8,8,8,8,8,8,8,8,8,8,8,8,8,8,8,8,8,8,8,8,8,8,8,8,8,8,8,8,8,8,8,8,8,8,8,8,8,8,8,8,8,8,8,8,8,8,8,8,8,8,8,8,8,8,8,8,8,8,8,8,8,8,8,8,8,8,8,8,8,8,8,8,8,8,8,8,8,8,8,8,8,8,8,8,8,8,8,8,8,8,8,8,8,8,8,8,8,8,8,8,8,8,8,8,8,8,8,8,8,8,8,8]
noncomputable def qBi:Code:=Tryz.f12.body.getD .skip
theorem qTE:FnF Tryz.prog 12 Tryz.f12 qBi:=⟨qk,by kernel_rfl,by kernel_rfl,by kernel_rfl⟩
def qda:TH:={ live:=[(0,[1]),(1,[1,7]),(2,[2]),(3,[1,3]),(4,[1,3,12]),(5,[1,3]),(6,[1,3,23]),(7,[2]),(8,[2])] }
def qkF (N:Nat):List Ent:=[]
theorem qig (N:Nat):qU Tryz.prog (qkF N):=trivial
abbrev XX:=qa
abbrev QJ:=Unit⊕(Int×Bool)
def JT (f:XX):QJ→Ex×TSt
 | .inl y=>(.ret,⟨0,24,[],[(2,.bc false)],[],false,[]⟩)
 | .inr y=>(.exit 0,⟨0,24,[],[(1,.p 10 [] 0),(3,xi y.1),(12,xb y.2)],[(10,.cell false (.tv qf f))],false,[]⟩)
def qrS (N:Nat):List (Nat×qw):=[]
abbrev JK:=Int
def qhH:SP:=⟨0,24,[],[(1,.k (.p 10 [] 0)),(3,.x (.i .i64))],[(10,.cell false (.x qf))],false,[]⟩
def qr1 (f:XX) (v:JK):TSt:=zq qhH [dv qf f,dv (.i .i64) v]
def X4 (N:Nat) (o_4:qa) (v:JK):Tree (JK⊕QJ):=
 .cond (decide (v < (((qa.F o_4).length:Nat):Int))) (
 .bind (qM (qa.F o_4) v) fun e1=>
 .cond (decide (((300:Int)) < (((qe.V (qd.C e1)).length:Nat):Int))) (
 .ret (.inr (.inl ()))) <|
 .chk (qp (v + 1)) <|
 .ret (.inl (v + 1))) <|
 .ret (.inr (.inr ((v,decide (v < (((qa.F o_4).length:Nat):Int))))))
def qhF (N n:Nat) (f:XX) (v:JK):Option QJ:=qQ (X4 N f) some n v
theorem qr0 (N:Nat) (f:XX) (n:Nat) (v:JK) (y:QJ) (h:qhF N n f v=some y):LG Tryz.prog qda 12 (qE qBi 4) (qr1 f v) (JT f y):=
 zj qk (E:=qkF N) (L:=qJ (qrS N)) (st:=JT f) (g:=some) (R:=JT f) (qig N) (qt (by kernel_rfl) trivial) (rg0 (by kernel_rfl)) (fun v=>by kernel_rfl) (qP (st:=JT f) fun y=>by rcases y with _ | _<;>rfl) n v y h
def qcs (N:Nat) (o_4:qa) (s3_4:Int):Option QJ:=qhF N N o_4 s3_4
def qgK (N:Nat):qw:=smL qhH [qf,(.i .i64)] QJ (fun x=>qcs N x.1 x.2.1) (csS cs1) fun x=>JT x.1
theorem qqe (N:Nat):zZ Tryz.prog qda 12 (qE qBi 4) (qgK N):=zp fun x z h=>qr0 N x.1 N x.2.1 z h
def qw5 (z:Bool):TV×THp:=(xb z,[])
def qdf (N:Nat) (a0:qa):Tree (Bool):=
 .cond (decide (((12:Int)) < (((qa.F a0).length:Nat):Int))) (
 .ret false) <|
 .bind (qcs N a0 0) fun z1=>
 .sum z1 (fun z2=>
 .ret false) fun z2=>
 .ret true
def QY (N:Nat) (a0:qa):Option (Bool):=(qdf N a0).run some
def qym (N:Nat):List (Nat×qw):=[(4,qgK N)]
def qd7 (N:Nat):Ent:=smF ⟨12,[],[.x qf],[],[]⟩ [qf] (Bool) (fun x=>QY N x.1) cs1 fun _=>qw5
theorem qjj (N:Nat):zf Tryz.prog (qd7 N):=
 zd (H:=qda) (L:=qJ (qym N)) (ts:=[qf]) (T:=fun x=>qdf N x.1) 0 qTE (qig N) (qt (by kernel_rfl) ⟨qqe N,trivial⟩) (rg0 (by kernel_rfl)) fun x=>by kernel_rfl
noncomputable def qCU:Code:=Tryz.f10.body.getD .skip
theorem qTB:FnF Tryz.prog 10 Tryz.f10 qCU:=⟨qk,by kernel_rfl,by kernel_rfl,by kernel_rfl⟩
def qdb:TH:={ live:=[(0,[1]),(1,[1,8]),(2,[2]),(3,[1,3]),(4,[1,3,13]),(5,[1,3]),(6,[1,3,4]),(7,[1,3,23]),(8,[2]),(9,[2])] }
def qkw (N:Nat):List Ent:=[qd7 N]
theorem qie (N:Nat):qU Tryz.prog (qkw N):=⟨qjj N,trivial⟩
abbrev Wo:=qb
abbrev QF:=Unit⊕(Int×Bool)
def Jy (f:Wo):QF→Ex×TSt
 | .inl y=>(.ret,⟨0,24,[],[(2,.bc false)],[],false,[]⟩)
 | .inr y=>(.exit 0,⟨0,24,[],[(1,.p 10 [] 0),(3,xi y.1),(13,xb y.2)],[(10,.cell false (.tv qj f))],false,[]⟩)
def qsF (N:Nat):List (Nat×qw):=[]
abbrev JO:=Int
def qgQ:SP:=⟨0,24,[],[(1,.k (.p 10 [] 0)),(3,.x (.i .i64))],[(10,.cell false (.x qj))],false,[]⟩
def qsu (f:Wo) (v:JO):TSt:=zq qgQ [dv qj f,dv (.i .i64) v]
def XS (N:Nat) (o_4:qb) (v:JO):Tree (JO⊕QF):=
 .cond (decide (v < (((qb.R o_4).length:Nat):Int))) (
 .bind (qM (qb.R o_4) v) fun e1=>
 .bind (QY N e1) fun r2=>
 .cond (!r2) (
 .ret (.inr (.inl ()))) <|
 .chk (qp (v + 1)) <|
 .ret (.inl (v + 1))) <|
 .ret (.inr (.inr ((v,decide (v < (((qb.R o_4).length:Nat):Int))))))
def qhp (N n:Nat) (f:Wo) (v:JO):Option QF:=qQ (XS N f) some n v
theorem qse (N:Nat) (f:Wo) (n:Nat) (v:JO) (y:QF) (h:qhp N n f v=some y):LG Tryz.prog qdb 10 (qE qCU 4) (qsu f v) (Jy f y):=
 zj qk (E:=qkw N) (L:=qJ (qsF N)) (st:=Jy f) (g:=some) (R:=Jy f) (qie N) (qt (by kernel_rfl) trivial) (rg0 (by kernel_rfl)) (fun v=>by kernel_rfl) (qP (st:=Jy f) fun y=>by rcases y with _ | _<;>rfl) n v y h
def qcp (N:Nat) (o_4:qb) (s3_4:Int):Option QF:=qhp N N o_4 s3_4
def qhG (N:Nat):qw:=smL qgQ [qj,(.i .i64)] QF (fun x=>qcp N x.1 x.2.1) (csS cs1) fun x=>Jy x.1
theorem qrd (N:Nat):zZ Tryz.prog qdb 10 (qE qCU 4) (qhG N):=zp fun x z h=>qse N x.1 N x.2.1 z h
def qyA (z:Bool):TV×THp:=(xb z,[])
def qdp (N:Nat) (a0:qb):Tree (Bool):=
 .cond (decide (((14:Int)) < (((qb.R a0).length:Nat):Int))) (
 .ret false) <|
 .bind (qcp N a0 0) fun z1=>
 .sum z1 (fun z2=>
 .ret false) fun z2=>
 .ret true
def qbs (N:Nat) (a0:qb):Option (Bool):=(qdp N a0).run some
def qy6 (N:Nat):List (Nat×qw):=[(4,qhG N)]
def qkA (N:Nat):Ent:=smF ⟨10,[],[.x qj],[],[]⟩ [qj] (Bool) (fun x=>qbs N x.1) cs1 fun _=>qyA
theorem qvv (N:Nat):zf Tryz.prog (qkA N):=
 zd (H:=qdb) (L:=qJ (qy6 N)) (ts:=[qj]) (T:=fun x=>qdp N x.1) 0 qTB (qie N) (qt (by kernel_rfl) ⟨qrd N,trivial⟩) (rg0 (by kernel_rfl)) fun x=>by kernel_rfl
noncomputable def qm7:Code:=Tryz.f11.body.getD .skip
theorem qRx:FnF Tryz.prog 11 Tryz.f11 qm7:=⟨qk,by kernel_rfl,by kernel_rfl,by kernel_rfl⟩
def XP:TH:={ live:=[(0,[1]),(1,[1,8]),(2,[2]),(3,[1,3]),(4,[1,3,13]),(5,[1,3]),(6,[1,3,23]),(7,[2]),(8,[1,3,4]),(9,[1,3,4,32]),(10,[1,3,4]),(11,[1,3,4,46]),(12,[2]),(13,[2])] }
def qdI (N:Nat):List Ent:=[]
theorem qa9 (N:Nat):qU Tryz.prog (qdI N):=trivial
abbrev X3:=qg×Int
abbrev QO:=Unit⊕(Int×Bool)
def Jx (f:X3):QO→Ex×TSt
 | .inl y=>(.ret,⟨0,47,[],[(2,.bc false)],[],false,[]⟩)
 | .inr y=>(.exit 2,⟨0,47,[],[(1,.p 10 [] 0),(3,xi f.2),(4,xi y.1),(32,xb y.2)],[(10,.cell false (.tv qo f.1))],false,[]⟩)
def qrr (N:Nat):List (Nat×qw):=[]
abbrev Jt:=Int
def qht:SP:=⟨0,47,[],[(1,.k (.p 10 [] 0)),(3,.x (.i .i64)),(4,.x (.i .i64))],[(10,.cell false (.x qo))],false,[]⟩
def qry (f:X3) (v:Jt):TSt:=zq qht [dv qo f.1,dv (.i .i64) f.2,dv (.i .i64) v]
def X2 (N:Nat) (o_9:qg) (s3_9:Int) (v:Jt):Tree (Jt⊕QO):=
 .bind (qM (qg.L o_9) s3_9) fun e1=>
 .cond (decide (v < (((qn.F e1).length:Nat):Int))) (
 .bind (qM (qg.L o_9) s3_9) fun e2=>
 .bind (qM (qn.F e2) v) fun e3=>
 .cond (decide (((40:Int)) < (((qm.B e3).length:Nat):Int))) (
 .ret (.inr (.inl ()))) <|
 .chk (qp (v + 1)) <|
 .ret (.inl (v + 1))) <|
 .ret (.inr (.inr ((v,decide (v < (((qn.F e1).length:Nat):Int))))))
def qgY (N n:Nat) (f:X3) (v:Jt):Option QO:=qQ (X2 N f.1 f.2) some n v
theorem qsH (N:Nat) (f:X3) (n:Nat) (v:Jt) (y:QO) (h:qgY N n f v=some y):LG Tryz.prog XP 11 (qE (qE qm7 4) 9) (qry f v) (Jx f y):=
 zj qk (E:=qdI N) (L:=qJ (qrr N)) (st:=Jx f) (g:=some) (R:=Jx f) (qa9 N) (qt (by kernel_rfl) trivial) (rg0 (by kernel_rfl)) (fun v=>by kernel_rfl) (qP (st:=Jx f) fun y=>by rcases y with _ | _<;>rfl) n v y h
def qco (N:Nat) (o_9:qg) (s3_9:Int) (s4_9:Int):Option QO:=qgY N N (o_9,s3_9) s4_9
def qhc (N:Nat):qw:=smL qht [qo,(.i .i64),(.i .i64)] QO (fun x=>qco N x.1 x.2.1 x.2.2.1) (csS cs1) fun x=>Jx (x.1,x.2.1)
theorem qqE (N:Nat):zZ Tryz.prog XP 11 (qE (qE qm7 4) 9) (qhc N):=zp fun x z h=>qsH N (x.1,x.2.1) N x.2.2.1 z h
abbrev X0:=qg
abbrev QE:=Unit⊕(Int×Bool)
def Jz (f:X0):QE→Ex×TSt
 | .inl y=>(.ret,⟨0,47,[],[(2,.bc false)],[],false,[]⟩)
 | .inr y=>(.exit 0,⟨0,47,[],[(1,.p 10 [] 0),(3,xi y.1),(13,xb y.2)],[(10,.cell false (.tv qo f))],false,[]⟩)
def qsq (N:Nat):List (Nat×qw):=[(9,qhc N)]
abbrev Ju:=Int
def qgN:SP:=⟨0,47,[],[(1,.k (.p 10 [] 0)),(3,.x (.i .i64))],[(10,.cell false (.x qo))],false,[]⟩
def qr5 (f:X0) (v:Ju):TSt:=zq qgN [dv qo f,dv (.i .i64) v]
def XY (N:Nat) (o_4:qg) (v:Ju):Tree (Ju⊕QE):=
 .cond (decide (v < (((qg.L o_4).length:Nat):Int))) (
 .bind (qM (qg.L o_4) v) fun e1=>
 .cond (decide (((12:Int)) < (((qn.F e1).length:Nat):Int))) (
 .ret (.inr (.inl ()))) <|
 .bind (qco N o_4 v 0) fun z2=>
 .sum z2 (fun z3=>
 .ret (.inr (.inl ()))) fun z3=>
 .chk (qp (v + 1)) <|
 .ret (.inl (v + 1))) <|
 .ret (.inr (.inr ((v,decide (v < (((qg.L o_4).length:Nat):Int))))))
def qgR (N n:Nat) (f:X0) (v:Ju):Option QE:=qQ (XY N f) some n v
theorem qsC (N:Nat) (f:X0) (n:Nat) (v:Ju) (y:QE) (h:qgR N n f v=some y):LG Tryz.prog XP 11 (qE qm7 4) (qr5 f v) (Jz f y):=
 zj qk (E:=qdI N) (L:=qJ (qsq N)) (st:=Jz f) (g:=some) (R:=Jz f) (qa9 N) (qt (by kernel_rfl) ⟨qqE N,trivial⟩) (rg0 (by kernel_rfl)) (fun v=>by kernel_rfl) (qP (st:=Jz f) fun y=>by rcases y with _ | _<;>rfl) n v y h
def qce (N:Nat) (o_4:qg) (s3_4:Int):Option QE:=qgR N N o_4 s3_4
def qg6 (N:Nat):qw:=smL qgN [qo,(.i .i64)] QE (fun x=>qce N x.1 x.2.1) (csS cs1) fun x=>Jz x.1
theorem qps (N:Nat):zZ Tryz.prog XP 11 (qE qm7 4) (qg6 N):=zp fun x z h=>qsC N x.1 N x.2.1 z h
def qxp (z:Bool):TV×THp:=(xb z,[])
def qdm (N:Nat) (a0:qg):Tree (Bool):=
 .cond (decide (((14:Int)) < (((qg.L a0).length:Nat):Int))) (
 .ret false) <|
 .bind (qce N a0 0) fun z1=>
 .sum z1 (fun z2=>
 .ret false) fun z2=>
 .ret true
def qbg (N:Nat) (a0:qg):Option (Bool):=(qdm N a0).run some
def qwZ (N:Nat):List (Nat×qw):=[(4,qg6 N)]
def qkH (N:Nat):Ent:=smF ⟨11,[],[.x qo],[],[]⟩ [qo] (Bool) (fun x=>qbg N x.1) cs1 fun _=>qxp
theorem qvI (N:Nat):zf Tryz.prog (qkH N):=
 zd (H:=XP) (L:=qJ (qwZ N)) (ts:=[qo]) (T:=fun x=>qdm N x.1) 0 qRx (qa9 N) (qt (by kernel_rfl) ⟨qps N,trivial⟩) (rg0 (by kernel_rfl)) fun x=>by kernel_rfl
noncomputable def qR4:Code:=Tryz.f34.body.getD .skip
theorem qTp:FnF Tryz.prog 34 Tryz.f34 qR4:=⟨qk,by kernel_rfl,by kernel_rfl,by kernel_rfl⟩
def qK_:TH:={ live:=[(0,[1]),(1,[2])],dec:=[6,10,15,20] }
def qKW (N:Nat):List Ent:=[]
theorem qHN (N:Nat):qU Tryz.prog (qKW N):=trivial
def qLF (z:Bool):TV×THp:=(xb z,[])
def qqT (a0:qc):Tree (Bool):=
 .cond (eqE qh a0 (qc.mk 0 0)) (
 .ret true) <|
 .cond (decide (((0:Int)) < (qc.N a0))) (
 .cond (decide ((qc.N a0)≤((1099511627776:Int)))) (
 .cond (decide (((0:Int))≤(qc.Rep a0))) (
 .ret (decide ((qc.Rep a0) < ((8:Int))))) <|
 .ret false) <|
 .ret false) <|
 .ret false
def qaF (a0:qc):Option (Bool):=(qqT a0).run some
def qKV:List (Nat×qw):=[]
def qb3:Ent:=smF ⟨34,[],[.x qh],[],[]⟩ [qh] (Bool) (fun x=>qaF x.1) cs1 fun _=>qLF
theorem qds:zf Tryz.prog (qb3):=
 zd (H:=qK_) (L:=qJ (qKV)) (ts:=[qh]) (T:=fun x=>qqT x.1) 0 qTp (qHN 0) (qt (by kernel_rfl) trivial) (rg0 (by kernel_rfl)) fun x=>by kernel_rfl
noncomputable def qSq:Code:=Tryz.f74.body.getD .skip
theorem qSP:FnF Tryz.prog 74 Tryz.f74 qSq:=⟨qk,by kernel_rfl,by kernel_rfl,by kernel_rfl⟩
def qNJ:TH:={ live:=[(0,[1]),(1,[2])],dec:=[7,12] }
def qOA (N:Nat):List Ent:=[qb3]
theorem qJU (N:Nat):qU Tryz.prog (qOA N):=⟨qds,trivial⟩
def qM4 (z:Bool):TV×THp:=(xb z,[])
def qsV (a0:qe):Tree (Bool):=
 .cond (!(eqE qh (qe.S a0) (qc.mk 0 0))) (
 .bind (qaF (qe.S a0)) fun r1=>
 .cond r1 (
 .ret (decide ((((qe.V a0).length:Nat):Int)≤((200:Int))))) <|
 .ret false) <|
 .ret false
def qgD (a0:qe):Option (Bool):=(qsV a0).run some
def qOv:List (Nat×qw):=[]
def qDs:Ent:=smF ⟨74,[],[.x qq],[],[]⟩ [qq] (Bool) (fun x=>qgD x.1) cs1 fun _=>qM4
theorem qKP:zf Tryz.prog (qDs):=
 zd (H:=qNJ) (L:=qJ (qOv)) (ts:=[qq]) (T:=fun x=>qsV x.1) 0 qSP (qJU 0) (qt (by kernel_rfl) trivial) (rg0 (by kernel_rfl)) fun x=>by kernel_rfl
noncomputable def qTF:Code:=Tryz.f98.body.getD .skip
theorem qRp:FnF Tryz.prog 98 Tryz.f98 qTF:=⟨qk,by kernel_rfl,by kernel_rfl,by kernel_rfl⟩
def qDP:TH:={ live:=[(0,[0]),(1,[2])] }
def qD6 (N:Nat):List Ent:=[]
theorem qAi (N:Nat):qU Tryz.prog (qD6 N):=trivial
def qEO (a0:Int) (z:Unit):TV×THp:=(xb (!decide (a0=a0)),[])
def qiw (a0:Int):Tree (Unit):=
 .ret ()
def qgu (a0:Int):Option (Unit):=(qiw a0).run some
def qEu:List (Nat×qw):=[]
def qoT:Ent:=smF ⟨98,[],[.x (.i .i64)],[],[]⟩ [(.i .i64)] (Unit) (fun x=>qgu x.1) cs1 fun x=>qEO x.1
theorem qCL:zf Tryz.prog (qoT):=
 zd (H:=qDP) (L:=qJ (qEu)) (ts:=[(.i .i64)]) (T:=fun x=>qiw x.1) 0 qRp (qAi 0) (qt (by kernel_rfl) trivial) (rg0 (by kernel_rfl)) fun x=>by kernel_rfl
noncomputable def qSm:Code:=Tryz.f67.body.getD .skip
theorem qR5:FnF Tryz.prog 67 Tryz.f67 qSm:=⟨qk,by kernel_rfl,by kernel_rfl,by kernel_rfl⟩
def qAo:TH:={ live:=[(0,[0,1]),(1,[0,1,5]),(2,[0,1,5,6]),(3,[0,1,6,11]),(4,[12]),(5,[4]),(6,[4]),(7,[0,1,13]),(8,[4]),(9,[0,1,16]),(10,[4]),(11,[19]),(12,[4]),(13,[4])] }
def qAg (N:Nat):List Ent:=[qoT]
theorem qvL (N:Nat):qU Tryz.prog (qAg N):=⟨qCL,trivial⟩
def qAm (z:Int):TV×THp:=(xi z,[])
def qe8 (a0:Int) (a1:Int):Tree (Int):=
 .bind (qgu a0) fun r1=>
 .bind (qgu a1) fun r2=>
 .cond (!decide (a0=a0)) (
 .cond (!decide (a1=a1)) (
 .ret 0) <|
 .ret (-1)) <|
 .cond (!decide (a1=a1)) (
 .ret 1) <|
 .cond (decide (a0 < a1)) (
 .ret (-1)) <|
 .cond (decide (a1 < a0)) (
 .ret 1) <|
 .ret 0
def YX (a0:Int) (a1:Int):Option (Int):=(qe8 a0 a1).run some
def qzQ:List (Nat×qw):=[]
def qlT:Ent:=smF ⟨67,[],[.x (.i .i64),.x (.i .i64)],[],[]⟩ [(.i .i64),(.i .i64)] (Int) (fun x=>YX x.1 x.2.1) cs1 fun _=>qAm
theorem qx8:zf Tryz.prog (qlT):=
 zd (H:=qAo) (L:=qJ (qzQ)) (ts:=[(.i .i64),(.i .i64)]) (T:=fun x=>qe8 x.1 x.2.1) 0 qR5 (qvL 0) (qt (by kernel_rfl) trivial) (rg0 (by kernel_rfl)) fun x=>by kernel_rfl
noncomputable def qCM:Code:=Tryz.f66.body.getD .skip
theorem qT9:FnF Tryz.prog 66 Tryz.f66 qCM:=⟨qk,by kernel_rfl,by kernel_rfl,by kernel_rfl⟩
def qnV:TH:={ live:=[(0,[0]),(1,[0,3]),(2,[3,6,7,8]),(3,[3,6,7,8,9]),(4,[3,5,6,7,8]),(5,[3,5,6,7,8,14]),(6,[2]),(7,[3,6,7,8]),(8,[2])] }
def qwK (N:Nat):List Ent:=[]
theorem qrC (N:Nat):qU Tryz.prog (qwK N):=trivial
abbrev qcL:=List Int×Int
abbrev X_:=Int⊕(Int×Bool)
def YY (f:qcL):X_→Ex×TSt
 | .inl y=>(.ret,⟨0,18,[],[(2,xi y)],[],false,[]⟩)
 | .inr y=>(.exit 0,⟨0,18,[],[(3,.ic .i64 0),(6,.tv (.sl 1 (.i .i64)) f.1),(7,xi f.2),(8,xi y.1),(9,xb y.2)],[],false,[]⟩)
def qCZ (N:Nat):List (Nat×qw):=[]
abbrev Y_:=Int
def qpa:SP:=⟨0,18,[],[(3,.k (.ic .i64 0)),(6,.x (.sl 1 (.i .i64))),(7,.x (.i .i64)),(8,.x (.i .i64))],[],false,[]⟩
def qEt (f:qcL) (v:Y_):TSt:=zq qpa [dv (.sl 1 (.i .i64)) f.1,dv (.i .i64) f.2,dv (.i .i64) v]
def Vg (N:Nat) (s6_3:List Int) (s7_3:Int) (v:Y_):Tree (Y_⊕X_):=
 .cond (decide (v < s7_3)) (
 .bind (qM s6_3 v) fun e1=>
 .cond (!decide (e1=((0:Int)))) (
 .ret (.inr (.inl e1))) <|
 .chk (qp (v + 1)) <|
 .ret (.inl (v + 1))) <|
 .ret (.inr (.inr ((v,decide (v < s7_3)))))
def qpg (N n:Nat) (f:qcL) (v:Y_):Option X_:=qQ (Vg N f.1 f.2) some n v
theorem qDx (N:Nat) (f:qcL) (n:Nat) (v:Y_) (y:X_) (h:qpg N n f v=some y):LG Tryz.prog qnV 66 (qE qCM 3) (qEt f v) (YY f y):=
 zj qk (E:=qwK N) (L:=qJ (qCZ N)) (st:=YY f) (g:=some) (R:=YY f) (qrC N) (qt (by kernel_rfl) trivial) (rg0 (by kernel_rfl)) (fun v=>by kernel_rfl) (qP (st:=YY f) fun y=>by rcases y with _ | _<;>rfl) n v y h
def qlm (N:Nat) (s6_3:List Int) (s7_3:Int) (s8_3:Int):Option X_:=qpg N N (s6_3,s7_3) s8_3
def qoK (N:Nat):qw:=smL qpa [(.sl 1 (.i .i64)),(.i .i64),(.i .i64)] X_ (fun x=>qlm N x.1 x.2.1 x.2.2.1) (csS cs1) fun x=>YY (x.1,x.2.1)
theorem qCf (N:Nat):zZ Tryz.prog qnV 66 (qE qCM 3) (qoK N):=zp fun x z h=>qDx N (x.1,x.2.1) N x.2.2.1 z h
def qJI (z:Int):TV×THp:=(xi z,[])
def qmO (N:Nat) (a0:List Int):Tree (Int):=
 .bind (qlm N a0 ((a0.length:Nat):Int) 0) fun z1=>
 .sum z1 (fun z2=>
 .ret z2) fun z2=>
 .ret 0
def qif (N:Nat) (a0:List Int):Option (Int):=(qmO N a0).run some
def qIF (N:Nat):List (Nat×qw):=[(3,qoK N)]
def qwU (N:Nat):Ent:=smF ⟨66,[],[.x (.sl 1 (.i .i64))],[],[]⟩ [(.sl 1 (.i .i64))] (Int) (fun x=>qif N x.1) cs1 fun _=>qJI
theorem qHV (N:Nat):zf Tryz.prog (qwU N):=
 zd (H:=qnV) (L:=qJ (qIF N)) (ts:=[(.sl 1 (.i .i64))]) (T:=fun x=>qmO N x.1) 0 qT9 (qrC N) (qt (by kernel_rfl) ⟨qCf N,trivial⟩) (rg0 (by kernel_rfl)) fun x=>by kernel_rfl
noncomputable def qRz:Code:=Tryz.f28.body.getD .skip
theorem qTZ:FnF Tryz.prog 28 Tryz.f28 qRz:=⟨qk,by kernel_rfl,by kernel_rfl,by kernel_rfl⟩
def qI6:TH:={ live:=[(0,[2,3]),(1,[4])],dec:=[8] }
def qKo (N:Nat):List Ent:=[qlT,qwU N]
theorem qFb (N:Nat):qU Tryz.prog (qKo N):=⟨qx8,qHV N,trivial⟩
def qIf (z:Bool):TV×THp:=(xb z,[])
def qnX (N:Nat) (a0:qc) (a1:qc):Tree (Bool):=
 .cond (!(eqE qh a0 a1)) (
 .bind (YX (qc.N a0) (qc.N a1)) fun r1=>
 .bind (YX (qc.Rep a0) (qc.Rep a1)) fun r2=>
 .bind (qif N [r1,r2]) fun r3=>
 .ret (decide (r3 < ((0:Int))))) <|
 .ret false
def vA (N:Nat) (a0:qc) (a1:qc):Option (Bool):=(qnX N a0 a1).run some
def qI8 (N:Nat):List (Nat×qw):=[]
def XQ (N:Nat):Ent:=smF ⟨28,[],[.x qh,.x qh],[],[]⟩ [qh,qh] (Bool) (fun x=>vA N x.1 x.2.1) cs1 fun _=>qIf
theorem Wt (N:Nat):zf Tryz.prog (XQ N):=
 zd (H:=qI6) (L:=qJ (qI8 N)) (ts:=[qh,qh]) (T:=fun x=>qnX N x.1 x.2.1) 0 qTZ (qFb N) (qt (by kernel_rfl) trivial) (rg0 (by kernel_rfl)) fun x=>by kernel_rfl
noncomputable def qBZ:Code:=Tryz.f35.body.getD .skip
theorem qR3:FnF Tryz.prog 35 Tryz.f35 qBZ:=⟨qk,by kernel_rfl,by kernel_rfl,by kernel_rfl⟩
def qxE:TH:={ live:=[(0,[1]),(1,[1,21]),(2,[2]),(3,[1,23,24,25]),(4,[1,23,24,25,26]),(5,[1,3,4,23,24,25]),(6,[1,4,5,23,24,25]),(7,[1,23,24,25,74]),(8,[2]),(9,[1,23,24,25]),(10,[2])],dec:=[10,15,32,37,40,55,60,66] }
def qGp (N:Nat):List Ent:=[qb3,qDs,XQ N]
theorem qA6 (N:Nat):qU Tryz.prog (qGp N):=⟨qds,qKP,Wt N,trivial⟩
abbrev qhY:=qa×List qd×Int
abbrev qah:=Unit⊕(Int×Bool)
def qdy (f:qhY):qah→Ex×TSt
 | .inl y=>(.ret,⟨0,76,[],[(2,.bc false)],[],false,[]⟩)
 | .inr y=>(.exit 0,⟨0,76,[],[(1,.p 10 [] 0),(23,.tv (.sl 4 qB) f.2.1),(24,xi f.2.2),(25,xi y.1),(26,xb y.2)],[(10,.cell false (.tv qf f.1))],false,[]⟩)
def qIB (N:Nat):List (Nat×qw):=[]
abbrev qc8:=Int
def qwW:SP:=⟨0,76,[],[(1,.k (.p 10 [] 0)),(23,.x (.sl 4 qB)),(24,.x (.i .i64)),(25,.x (.i .i64))],[(10,.cell false (.x qf))],false,[]⟩
def qI2 (f:qhY) (v:qc8):TSt:=zq qwW [dv qf f.1,dv (.sl 4 qB) f.2.1,dv (.i .i64) f.2.2,dv (.i .i64) v]
def qiP (N:Nat) (o_4:qa) (s23_4:List qd) (s24_4:Int) (v:qc8):Tree (qc8⊕qah):=
 .cond (decide (v < s24_4)) (
 .bind (qM s23_4 v) fun e1=>
 .cond (decide (v=((0:Int)))) (
 .cond (decide (((0:Int))≤(qd.No e1))) (
 .cond (decide (((8:Int))≤(qd.No e1))) (
 .ret (.inr (.inl ()))) <|
 .bind (qgD (qd.C e1)) fun r2=>
 .cond (!r2) (
 .ret (.inr (.inl ()))) <|
 .bind (vA N (qa.qz o_4) (qe.S (qd.C e1))) fun r3=>
 .cond (!r3) (
 .ret (.inr (.inl ()))) <|
 .chk (qp (v + 1)) <|
 .ret (.inl (v + 1))) <|
 .cond (decide (((0:Int)) < v)) (
 .chk (qp (v - 1)) <|
 .bind (qM (qa.F o_4) (v - 1)) fun e2=>
 .cond (!(decide ((qd.No e2) < (qd.No e1)))) (
 .ret (.inr (.inl ()))) <|
 .cond (decide (((8:Int))≤(qd.No e1))) (
 .ret (.inr (.inl ()))) <|
 .bind (qgD (qd.C e1)) fun r3=>
 .cond (!r3) (
 .ret (.inr (.inl ()))) <|
 .bind (vA N (qa.qz o_4) (qe.S (qd.C e1))) fun r4=>
 .cond (!r4) (
 .ret (.inr (.inl ()))) <|
 .chk (qp (v + 1)) <|
 .ret (.inl (v + 1))) <|
 .ret (.inr (.inl ()))) <|
 .cond (decide (((0:Int)) < v)) (
 .chk (qp (v - 1)) <|
 .bind (qM (qa.F o_4) (v - 1)) fun e2=>
 .cond (!(decide ((qd.No e2) < (qd.No e1)))) (
 .ret (.inr (.inl ()))) <|
 .cond (decide (((8:Int))≤(qd.No e1))) (
 .ret (.inr (.inl ()))) <|
 .bind (qgD (qd.C e1)) fun r3=>
 .cond (!r3) (
 .ret (.inr (.inl ()))) <|
 .bind (vA N (qa.qz o_4) (qe.S (qd.C e1))) fun r4=>
 .cond (!r4) (
 .ret (.inr (.inl ()))) <|
 .chk (qp (v + 1)) <|
 .ret (.inl (v + 1))) <|
 .ret (.inr (.inl ()))) <|
 .ret (.inr (.inr ((v,decide (v < s24_4)))))
def qyk (N n:Nat) (f:qhY) (v:qc8):Option qah:=qQ (qiP N f.1 f.2.1 f.2.2) some n v
theorem qJQ (N:Nat) (f:qhY) (n:Nat) (v:qc8) (y:qah) (h:qyk N n f v=some y):LG Tryz.prog qxE 35 (qE qBZ 4) (qI2 f v) (qdy f y):=
 zj qk (E:=qGp N) (L:=qJ (qIB N)) (st:=qdy f) (g:=some) (R:=qdy f) (qA6 N) (qt (by kernel_rfl) trivial) (rg0 (by kernel_rfl)) (fun v=>by kernel_rfl) (qP (st:=qdy f) fun y=>by rcases y with _ | _<;>rfl) n v y h
def qmw (N:Nat) (o_4:qa) (s23_4:List qd) (s24_4:Int) (s25_4:Int):Option qah:=qyk N N (o_4,s23_4,s24_4) s25_4
def qwC (N:Nat):qw:=smL qwW [qf,(.sl 4 qB),(.i .i64),(.i .i64)] qah (fun x=>qmw N x.1 x.2.1 x.2.2.1 x.2.2.2.1) (csS cs1) fun x=>qdy (x.1,x.2.1,x.2.2.1)
theorem qHs (N:Nat):zZ Tryz.prog qxE 35 (qE qBZ 4) (qwC N):=zp fun x z h=>qJQ N (x.1,x.2.1,x.2.2.1) N x.2.2.2.1 z h
def qQy (z:Bool):TV×THp:=(xb z,[])
def qxF (N:Nat) (a0:qa):Tree (Bool):=
 .bind (qaF (qa.qz a0)) fun r1=>
 .cond (!r1) (
 .ret false) <|
 .cond (decide ((((qa.F a0).length:Nat):Int)=((0:Int)))) (
 .cond (eqE qh (qa.qz a0) (qc.mk 0 0)) (
 .ret false) <|
 .bind (qmw N a0 (qa.F a0) (((qa.F a0).length:Nat):Int) 0) fun z2=>
 .sum z2 (fun z3=>
 .ret false) fun z3=>
 .ret true) <|
 .bind (qmw N a0 (qa.F a0) (((qa.F a0).length:Nat):Int) 0) fun z2=>
 .sum z2 (fun z3=>
 .ret false) fun z3=>
 .ret true
def qjK (N:Nat) (a0:qa):Option (Bool):=(qxF N a0).run some
def qQw (N:Nat):List (Nat×qw):=[(4,qwC N)]
def qo4 (N:Nat):Ent:=smF ⟨35,[],[.x qf],[],[]⟩ [qf] (Bool) (fun x=>qjK N x.1) cs1 fun _=>qQy
theorem qtE (N:Nat):zf Tryz.prog (qo4 N):=
 zd (H:=qxE) (L:=qJ (qQw N)) (ts:=[qf]) (T:=fun x=>qxF N x.1) 0 qR3 (qA6 N) (qt (by kernel_rfl) ⟨qHs N,trivial⟩) (rg0 (by kernel_rfl)) fun x=>by kernel_rfl
noncomputable def qRH:Code:=Tryz.f94.body.getD .skip
theorem qRM:FnF Tryz.prog 94 Tryz.f94 qRH:=⟨qk,by kernel_rfl,by kernel_rfl,by kernel_rfl⟩
def qDM:TH:={ live:=[(0,[0,1]),(1,[4])] }
def qEJ (N:Nat):List Ent:=[qOP]
theorem qzG (N:Nat):qU Tryz.prog (qEJ N):=⟨qU9,trivial⟩
def qDJ (z:Int):TV×THp:=(xi z,[])
def qh1 (a0:List UInt8) (a1:List UInt8):Tree (Int):=
 .bind (qRo a0 a1) fun r1=>
 .ret r1
def qbC (a0:List UInt8) (a1:List UInt8):Option (Int):=(qh1 a0 a1).run some
def qD2:List (Nat×qw):=[]
def qcQ:Ent:=smF ⟨94,[],[.x .bl,.x .bl],[],[]⟩ [.bl,.bl] (Int) (fun x=>qbC x.1 x.2.1) cs1 fun _=>qDJ
theorem qgw:zf Tryz.prog (qcQ):=
 zd (H:=qDM) (L:=qJ (qD2)) (ts:=[.bl,.bl]) (T:=fun x=>qh1 x.1 x.2.1) 0 qRM (qzG 0) (qt (by kernel_rfl) trivial) (rg0 (by kernel_rfl)) fun x=>by kernel_rfl
noncomputable def qTr:Code:=Tryz.f60.body.getD .skip
theorem qTx:FnF Tryz.prog 60 Tryz.f60 qTr:=⟨qk,by kernel_rfl,by kernel_rfl,by kernel_rfl⟩
def qK4:TH:={ live:=[(0,[2,3]),(1,[4])],dec:=[8] }
def qK9 (N:Nat):List Ent:=[qcQ]
theorem qHL (N:Nat):qU Tryz.prog (qK9 N):=⟨qgw,trivial⟩
def qLO (z:Bool):TV×THp:=(xb z,[])
def qq7 (a0:Vector UInt8 16) (a1:Vector UInt8 16):Tree (Bool):=
 .cond (!(eqE (.ba 16) a0 a1)) (
 .bind (qbC a0.toList a1.toList) fun r1=>
 .ret (decide (r1 < ((0:Int))))) <|
 .ret false
def qkI (a0:Vector UInt8 16) (a1:Vector UInt8 16):Option (Bool):=(qq7 a0 a1).run some
def qLx:List (Nat×qw):=[]
def qpQ:Ent:=smF ⟨60,[],[.x (.ba 16),.x (.ba 16)],[],[]⟩ [(.ba 16),(.ba 16)] (Bool) (fun x=>qkI x.1 x.2.1) cs1 fun _=>qLO
theorem qwL:zf Tryz.prog (qpQ):=
 zd (H:=qK4) (L:=qJ (qLx)) (ts:=[(.ba 16),(.ba 16)]) (T:=fun x=>qq7 x.1 x.2.1) 0 qTx (qHL 0) (qt (by kernel_rfl) trivial) (rg0 (by kernel_rfl)) fun x=>by kernel_rfl
noncomputable def qBW:Code:=Tryz.f25.body.getD .skip
theorem qTX:FnF Tryz.prog 25 Tryz.f25 qBW:=⟨qk,by kernel_rfl,by kernel_rfl,by kernel_rfl⟩
def qus:TH:={ live:=[(0,[1]),(1,[1,6,7,8]),(2,[1,6,7,8,9]),(3,[1,3,4,6,7,8]),(4,[1,6,7,8,32]),(5,[2]),(6,[1,6,7,8]),(7,[2])],dec:=[16,19] }
def qEs (N:Nat):List Ent:=[qo4 N,qpQ]
theorem qx9 (N:Nat):qU Tryz.prog (qEs N):=⟨qtE N,qwL,trivial⟩
abbrev qgt:=qb×List qa×Int
abbrev YU:=Unit⊕(Int×Bool)
def qbH (f:qgt):YU→Ex×TSt
 | .inl y=>(.ret,⟨0,38,[],[(2,.bc false)],[],false,[]⟩)
 | .inr y=>(.exit 0,⟨0,38,[],[(1,.p 10 [] 0),(6,.tv (.sl 19 qf) f.2.1),(7,xi f.2.2),(8,xi y.1),(9,xb y.2)],[(10,.cell false (.tv qj f.1))],false,[]⟩)
def qHu (N:Nat):List (Nat×qw):=[]
abbrev qbQ:=Int
def qvi:SP:=⟨0,38,[],[(1,.k (.p 10 [] 0)),(6,.x (.sl 19 qf)),(7,.x (.i .i64)),(8,.x (.i .i64))],[(10,.cell false (.x qj))],false,[]⟩
def qHR (f:qgt) (v:qbQ):TSt:=zq qvi [dv qj f.1,dv (.sl 19 qf) f.2.1,dv (.i .i64) f.2.2,dv (.i .i64) v]
def qgn (N:Nat) (o_2:qb) (s6_2:List qa) (s7_2:Int) (v:qbQ):Tree (qbQ⊕YU):=
 .cond (decide (v < s7_2)) (
 .bind (qM s6_2 v) fun e1=>
 .bind (qjK N e1) fun r2=>
 .cond (!r2) (
 .ret (.inr (.inl ()))) <|
 .cond (decide (((0:Int)) < v)) (
 .chk (qp (v - 1)) <|
 .bind (qM (qb.R o_2) (v - 1)) fun e3=>
 .bind (qkI (qa.ID e3) (qa.ID e1)) fun r4=>
 .cond (!r4) (
 .ret (.inr (.inl ()))) <|
 .chk (qp (v + 1)) <|
 .ret (.inl (v + 1))) <|
 .chk (qp (v + 1)) <|
 .ret (.inl (v + 1))) <|
 .ret (.inr (.inr ((v,decide (v < s7_2)))))
def qu2 (N n:Nat) (f:qgt) (v:qbQ):Option YU:=qQ (qgn N f.1 f.2.1 f.2.2) some n v
theorem qHw (N:Nat) (f:qgt) (n:Nat) (v:qbQ) (y:YU) (h:qu2 N n f v=some y):LG Tryz.prog qus 25 (qE qBW 2) (qHR f v) (qbH f y):=
 zj qk (E:=qEs N) (L:=qJ (qHu N)) (st:=qbH f) (g:=some) (R:=qbH f) (qx9 N) (qt (by kernel_rfl) trivial) (rg0 (by kernel_rfl)) (fun v=>by kernel_rfl) (qP (st:=qbH f) fun y=>by rcases y with _ | _<;>rfl) n v y h
def qpv (N:Nat) (o_2:qb) (s6_2:List qa) (s7_2:Int) (s8_2:Int):Option YU:=qu2 N N (o_2,s6_2,s7_2) s8_2
def qvj (N:Nat):qw:=smL qvi [qj,(.sl 19 qf),(.i .i64),(.i .i64)] YU (fun x=>qpv N x.1 x.2.1 x.2.2.1 x.2.2.2.1) (csS cs1) fun x=>qbH (x.1,x.2.1,x.2.2.1)
theorem qE_ (N:Nat):zZ Tryz.prog qus 25 (qE qBW 2) (qvj N):=zp fun x z h=>qHw N (x.1,x.2.1,x.2.2.1) N x.2.2.2.1 z h
def qNN (z:Bool):TV×THp:=(xb z,[])
def qs7 (N:Nat) (a0:qb):Tree (Bool):=
 .bind (qpv N a0 (qb.R a0) (((qb.R a0).length:Nat):Int) 0) fun z1=>
 .sum z1 (fun z2=>
 .ret false) fun z2=>
 .ret (decide ((((qb.R a0).length:Nat):Int)≤((10:Int))))
def qdZ (N:Nat) (a0:qb):Option (Bool):=(qs7 N a0).run some
def qNQ (N:Nat):List (Nat×qw):=[(2,qvj N)]
def qmb (N:Nat):Ent:=smF ⟨25,[],[.x qj],[],[]⟩ [qj] (Bool) (fun x=>qdZ N x.1) cs1 fun _=>qNN
theorem qqc (N:Nat):zf Tryz.prog (qmb N):=
 zd (H:=qus) (L:=qJ (qNQ N)) (ts:=[qj]) (T:=fun x=>qs7 N x.1) 0 qTX (qx9 N) (qt (by kernel_rfl) ⟨qE_ N,trivial⟩) (rg0 (by kernel_rfl)) fun x=>by kernel_rfl
noncomputable def qUh:Code:=Tryz.f33.body.getD .skip
theorem qSp:FnF Tryz.prog 33 Tryz.f33 qUh:=⟨qk,by kernel_rfl,by kernel_rfl,by kernel_rfl⟩
def qJa:TH:={ live:=[(0,[1]),(1,[2])],dec:=[7] }
def qKa (N:Nat):List Ent:=[]
theorem qFr (N:Nat):qU Tryz.prog (qKa N):=trivial
def qJo (z:Bool):TV×THp:=(xb z,[])
def qd_ (a0:qa):Tree (Bool):=
 .cond (eqE qh (qa.qz a0) (qc.mk 0 0)) (
 .ret (decide ((((qa.F a0).length:Nat):Int)=((0:Int))))) <|
 .ret false
def J9 (a0:qa):Option (Bool):=(qd_ a0).run some
def qIt:List (Nat×qw):=[]
def qh8:Ent:=smF ⟨33,[],[.x qf],[],[]⟩ [qf] (Bool) (fun x=>J9 x.1) cs1 fun _=>qJo
theorem qlz:zf Tryz.prog (qh8):=
 zd (H:=qJa) (L:=qJ (qIt)) (ts:=[qf]) (T:=fun x=>qd_ x.1) 0 qSp (qFr 0) (qt (by kernel_rfl) trivial) (rg0 (by kernel_rfl)) fun x=>by kernel_rfl
noncomputable def qSE:Code:=Tryz.f87.body.getD .skip
theorem qTd:FnF Tryz.prog 87 Tryz.f87 qSE:=⟨qk,by kernel_rfl,by kernel_rfl,by kernel_rfl⟩
def qAb:TH:={ live:=[(0,[0,1]),(1,[0,1,6]),(2,[0,1]),(3,[0,1]),(4,[0,1,16]),(5,[0]),(6,[4])],esc:=true,nil:=[(5,[⟨.sl 0,900000870,(.sl 19 qf)⟩])] }
def qz3 (N:Nat):List Ent:=[]
theorem qv9 (N:Nat):qU Tryz.prog (qz3 N):=trivial
def qzL:Unit⊕Unit→TV×THp
 | .inl z=>(.v 900000870 0,[(900000870,.vec false 19 (.sl 19 qf) ([]:List qa))])
 | .inr z=>(.nils,[])
def KW (a0:Int):Tree (Unit⊕Unit):=
 .cond (decide (a0 < ((0:Int)))) (
 .no) <|
 .chk (qp a0) <|
 .cond (decide (((0:Int)) < a0)) (
 .chk (0 < a0∧a0.toNat * 56≤zh) <|
 .ret (.inl ())) <|
 .ret (.inr ())
def X1 (a0:Int):Option (Unit⊕Unit):=(KW a0).run some
def qAD:List (Nat×qw):=[]
def qlS:Ent:=smF ⟨87,[],[.k .nils,.x (.i .i64)],[],[]⟩ [(.i .i64)] (Unit⊕Unit) (fun x=>X1 x.1) (csS cs1) fun _=>qzL
theorem qwS:zf Tryz.prog (qlS):=
 zd (H:=qAb) (L:=qJ (qAD)) (ts:=[(.i .i64)]) (T:=fun x=>KW x.1) 0 qTd (qv9 0) (qt (by kernel_rfl) trivial) (rg0 (by kernel_rfl)) fun x=>by kernel_rfl
noncomputable def qmY:Code:=Tryz.f53.body.getD .skip
theorem qTi:FnF Tryz.prog 53 Tryz.f53 qmY:=⟨qk,by kernel_rfl,by kernel_rfl,by kernel_rfl⟩
def VX:TH:={ live:=[(0,[0]),(1,[0,3]),(2,[0,3,9,10,11]),(3,[0,3,9,10,11,12]),(4,[0,3,5,9,10,11]),(5,[0,3,9,10,11]),(6,[0,3,9,10,11,20]),(7,[0,3,9,10,11]),(8,[0,3,9,10,11]),(9,[0,6]),(10,[6,25,26,27]),(11,[6,25,26,27,28]),(12,[6,8,25,26,27]),(13,[6,25,26,27]),(14,[6,25,26,27]),(15,[2])],raw:=[87],fresh:=[24],nil:=[(9,[⟨.sl 6,900000870,(.sl 19 qf)⟩])] }
def qcD (N:Nat):List Ent:=[qlS]
theorem qax (N:Nat):qU Tryz.prog (qcD N):=⟨qwS,trivial⟩
abbrev XC:=List (List qa)×List (List qa)×Int
abbrev Qf:=Int×Int×Bool
def Jb (f:XC) (y:Qf):Ex×TSt:=(.exit 0,⟨0,36,[],[(0,.tv (.sl 1 (.sl 19 qf)) f.1),(3,xi y.1),(9,.tv (.sl 1 (.sl 19 qf)) f.2.1),(10,xi f.2.2),(11,xi y.2.1),(12,xb y.2.2)],[],false,[]⟩)
def qqZ (N:Nat):List (Nat×qw):=[]
abbrev Z9:=Int×Int
def qfp:SP:=⟨0,36,[],[(0,.x (.sl 1 (.sl 19 qf))),(3,.x (.i .i64)),(9,.x (.sl 1 (.sl 19 qf))),(10,.x (.i .i64)),(11,.x (.i .i64))],[],false,[]⟩
def qqW (f:XC) (v:Z9):TSt:=zq qfp [dv (.sl 1 (.sl 19 qf)) f.1,dv (.i .i64) v.1,dv (.sl 1 (.sl 19 qf)) f.2.1,dv (.i .i64) f.2.2,dv (.i .i64) v.2]
def Xg (N:Nat) (s0_3:List (List qa)) (s9_3:List (List qa)) (s10_3:Int) (v:Z9):Tree (Z9⊕Qf):=
 .cond (decide (v.2 < s10_3)) (
 .bind (qM s9_3 v.2) fun e1=>
 .chk (qp (v.1 + ((e1.length:Nat):Int))) <|
 .cond (decide ((v.1 + ((e1.length:Nat):Int)) < 0)) (
 .no) <|
 .chk (qp (v.2 + 1)) <|
 .ret (.inl (v.1 + ((e1.length:Nat):Int),v.2 + 1))) <|
 .ret (.inr (v.1,v.2,decide (v.2 < s10_3)))
def qfy (N n:Nat) (f:XC) (v:Z9):Option Qf:=qQ (Xg N f.1 f.2.1 f.2.2) some n v
theorem qpu (N:Nat) (f:XC) (n:Nat) (v:Z9) (y:Qf) (h:qfy N n f v=some y):LG Tryz.prog VX 53 (qE qmY 3) (qqW f v) (Jb f y):=
 zj qk (E:=qcD N) (L:=qJ (qqZ N)) (st:=Jb f) (g:=some) (R:=Jb f) (qax N) (qt (by kernel_rfl) trivial) (rg0 (by kernel_rfl)) (fun v=>by kernel_rfl) (qP (st:=Jb f) fun y=>by rfl) n v y h
def qbq (N:Nat) (s0_3:List (List qa)) (s9_3:List (List qa)) (s10_3:Int) (s3_3:Int) (s11_3:Int):Option Qf:=qfy N N (s0_3,s9_3,s10_3) (s3_3,s11_3)
def qfI (N:Nat):qw:=smL qfp [(.sl 1 (.sl 19 qf)),(.i .i64),(.sl 1 (.sl 19 qf)),(.i .i64),(.i .i64)] Qf (fun x=>qbq N x.1 x.2.2.1 x.2.2.2.1 x.2.1 x.2.2.2.2.1) cs1 fun x=>Jb (x.1,x.2.2.1,x.2.2.2.1)
theorem qoD (N:Nat):zZ Tryz.prog VX 53 (qE qmY 3) (qfI N):=zp fun x z h=>qpu N (x.1,x.2.2.1,x.2.2.2.1) N (x.2.1,x.2.2.2.2.1) z h
abbrev VS:=List (List qa)×Int
abbrev vR:=List qa×Int×Bool
def Ze (f:VS) (y:vR):Ex×TSt:=(.exit 2,⟨0,36,[],[(6,.v 900000870 y.1.length),(25,.tv (.sl 1 (.sl 19 qf)) f.1),(26,xi f.2),(27,xi y.2.1),(28,xb y.2.2)],[(900000870,.vec false 19 (.sl 19 qf) (y.1:List qa))],false,[]⟩)
def qom (N:Nat):List (Nat×qw):=[]
abbrev Zk:=List qa×Int
def qeD:SP:=⟨0,36,[],[(6,.vs 900000870),(25,.x (.sl 1 (.sl 19 qf))),(26,.x (.i .i64)),(27,.x (.i .i64))],[(900000870,.vec false 19)],false,[]⟩
def qox (f:VS) (v:Zk):TSt:=zq qeD [dv (.sl 19 qf) v.1,dv (.sl 1 (.sl 19 qf)) f.1,dv (.i .i64) f.2,dv (.i .i64) v.2]
def VO (N:Nat) (s25_11:List (List qa)) (s26_11:Int) (v:Zk):Tree (Zk⊕vR):=
 .cond (decide (v.2 < s26_11)) (
 .bind (qM s25_11 v.2) fun e1=>
 .chk (zU v.1.length v.1.length ((v.1++e1).length) 56) <|
 .chk (qp (v.2 + 1)) <|
 .ret (.inl (v.1++e1,v.2 + 1))) <|
 .ret (.inr (v.1,v.2,decide (v.2 < s26_11)))
def qeO (N n:Nat) (f:VS) (v:Zk):Option vR:=qQ (VO N f.1 f.2) some n v
theorem qn7 (N:Nat) (f:VS) (n:Nat) (v:Zk) (y:vR) (h:qeO N n f v=some y):LG Tryz.prog VX 53 (qE qmY 11) (qox f v) (Ze f y):=
 zj qk (E:=qcD N) (L:=qJ (qom N)) (st:=Ze f) (g:=some) (R:=Ze f) (qax N) (qt (by kernel_rfl) trivial) (rg0 (by kernel_rfl)) (fun v=>by kernel_rfl) (qP (st:=Ze f) fun y=>by rfl) n v y h
def XZ (N:Nat) (s25_11:List (List qa)) (s26_11:Int) (o_11:List qa) (s27_11:Int):Option vR:=qeO N N (s25_11,s26_11) (o_11,s27_11)
def qeC (N:Nat):qw:=smL qeD [(.sl 19 qf),(.sl 1 (.sl 19 qf)),(.i .i64),(.i .i64)] vR (fun x=>XZ N x.2.1 x.2.2.1 x.1 x.2.2.2.1) cs1 fun x=>Ze (x.2.1,x.2.2.1)
theorem qm1 (N:Nat):zZ Tryz.prog VX 53 (qE qmY 11) (qeC N):=zp fun x z h=>qn7 N (x.2.1,x.2.2.1) N (x.1,x.2.2.2.1) z h
def qv2 (z:List qa):TV×THp:=(.tv (.sl 19 qf) z,[])
def qcd (N:Nat) (a0:List (List qa)):Tree (List qa):=
 .bind (qbq N a0 a0 ((a0.length:Nat):Int) 0 0) fun z1=>
 .bind (X1 z1.1) fun r2=>
 .sum r2 (fun r3=>
 .bind (zV [(([]:List qa).length,0)] (XZ N a0 ((a0.length:Nat):Int) [] 0)) fun z4=>
 .chk (z4.1.length=z4.1.length) <|
 .ret z4.1) fun r3=>
 .bind (zV [(([]:List qa).length,0)] (XZ N a0 ((a0.length:Nat):Int) [] 0)) fun z4=>
 .chk (z4.1.length=z4.1.length) <|
 .ret z4.1
def K1 (N:Nat) (a0:List (List qa)):Option (List qa):=(qcd N a0).run some
def qvr (N:Nat):List (Nat×qw):=[(3,qfI N),(11,qeC N)]
def qi4 (N:Nat):Ent:=smF ⟨53,[],[.x (.sl 1 (.sl 19 qf))],[],[]⟩ [(.sl 1 (.sl 19 qf))] (List qa) (fun x=>K1 N x.1) cs1 fun _=>qv2
theorem quM (N:Nat):zf Tryz.prog (qi4 N):=
 zd (H:=VX) (L:=qJ (qvr N)) (ts:=[(.sl 1 (.sl 19 qf))]) (T:=fun x=>qcd N x.1) 0 qTi (qax N) (qt (by kernel_rfl) ⟨qoD N,qm1 N,trivial⟩) (rg0 (by kernel_rfl)) fun x=>by kernel_rfl
noncomputable def qSO:Code:=Tryz.f88.body.getD .skip
theorem qBK:FnF Tryz.prog 88 Tryz.f88 qSO:=⟨qk,by kernel_rfl,by kernel_rfl,by kernel_rfl⟩
def qtG:TH:={ live:=[(0,[0]),(1,[0,4]),(2,[2]),(3,[2])],vecs:=[5] }
def qtR (N:Nat):List Ent:=[]
theorem qqz (N:Nat):qU Tryz.prog (qtR N):=trivial
def qh7 (a0:List qd) (z:Unit):TV×THp:=(.tv (.sl 4 qB) ((([]:List qd))++a0:List qd),[])
def qaM (a0:List qd):Tree (Unit):=
 .chk (List.isEmpty a0=false) <|
 .chk (zU ((([]:List qd)).length) 0 (((([]:List qd))++a0).length) 40) <|
 .chk (((([]:List qd))++a0).length=((([]:List qd))++a0).length) <|
 .ret ()
def qc9 (a0:List qd):Option (Unit):=(qaM a0).run some
def qt1:List (Nat×qw):=[]
theorem qqs:qbn Tryz.prog ⟨88,[],[.x (.sl 4 qB)],[],[]⟩ [(.sl 4 qB)] (fun x=>qaM x.1) (fun x=>qh7 x.1):=
 Yp (H:=qtG) (L:=qJ (qt1)) 0 qBK (qqz 0) (qt (by kernel_rfl) trivial) (rg0 (by kernel_rfl)) fun x=>by kernel_rfl
def qqS:TH:={ live:=[(0,[0]),(1,[0,4]),(2,[2]),(3,[2])],vecs:=[5] }
def qqx (N:Nat):List Ent:=[]
theorem qnx (N:Nat):qU Tryz.prog (qqx N):=trivial
def qqX (z:Unit):TV×THp:=(.tv (.sl 4 qB) ([]:List qd),[])
def qf3:Tree (Unit):=
 .chk (0=0) <|
 .chk (0=0) <|
 .ret ()
def quK:Option (Unit):=(qf3).run some
def qp1:List (Nat×qw):=[]
theorem qno:qbn Tryz.prog ⟨88,[],[.k (.es 0)],[],[]⟩ [] (fun x=>qf3) (fun _=>qqX):=
 Yp (H:=qqS) (L:=qJ (qp1)) 0 qBK (qnx 0) (qt (by kernel_rfl) trivial) (rg0 (by kernel_rfl)) fun x=>by kernel_rfl
def qpY:TH:={ live:=[(0,[0]),(1,[0,4]),(2,[2]),(3,[2])],vecs:=[5] }
def qrf (N:Nat):List Ent:=[]
theorem qnc (N:Nat):qU Tryz.prog (qrf N):=trivial
def qqI (z:Unit):TV×THp:=(.tv (.sl 4 qB) ([]:List qd),[])
def qfk:Tree (Unit):=
 .ret ()
def qt6:Option (Unit):=(qfk).run some
def qp5:List (Nat×qw):=[]
theorem qnh:qbn Tryz.prog ⟨88,[],[.k (.es 1)],[],[]⟩ [] (fun x=>qfk) (fun _=>qqI):=
 Yp (H:=qpY) (L:=qJ (qp5)) 0 qBK (qnc 0) (qt (by kernel_rfl) trivial) (rg0 (by kernel_rfl)) fun x=>by kernel_rfl
def qf5 (z:Unit):Unit:=()
def qqa (z:Unit):Unit:=()
def Zu (a0:List qd):Option (Unit):=
 bif a0.isEmpty then
 (quK).bind fun z0=>(qt6).bind fun z1=>chk (qf5 z0=qqa z1) (some (qf5 z0))
 else qc9 a0
def qgV:Ent:=smF ⟨88,[],[.x (.sl 4 qB)],[],[]⟩ [(.sl 4 qB)] (Unit) (fun x=>Zu x.1) cs1 fun x=>qh7 x.1
theorem qqN:zf Tryz.prog (qgV):=qkS fun x z h l=>by
 obtain ⟨a0,_⟩:=x
 replace h:Zu a0=some z:=h
 unfold Zu at h
 rcases qkX h with ⟨e,h2⟩ | ⟨_,h2⟩<;>clear h
 ·have e:=List.isEmpty_iff.1 e
  subst e
  obtain ⟨z0,c0,h2⟩:=bind_some h2
  obtain ⟨z1,c1,h2⟩:=bind_some h2
  obtain ⟨hE,h2⟩:=qjF h2
  obtain rfl:=Option.some.inj h2
  refine qku (t:=(.sl 4 qB)) (x:=[]) rfl (TV.ers []) (TV.ers []) (by exact qno (()) _ c0 l) ?_
  rw [hE]
  exact (by exact qnh (()) _ c1 l)
 ·exact qqs (a0,()) z h2 l
noncomputable def qSI:Code:=Tryz.f54.body.getD .skip
theorem qRN:FnF Tryz.prog 54 Tryz.f54 qSI:=⟨qk,by kernel_rfl,by kernel_rfl,by kernel_rfl⟩
def qN3:TH:={ live:=[(0,[1,2]),(1,[1,2]),(2,[2])],nil:=[(0,[⟨.ob 20 [2],25,(.sl 4 qB)⟩])] }
def qNm (N:Nat):List Ent:=[qgV]
theorem qIk (N:Nat):qU Tryz.prog (qNm N):=⟨qqN,trivial⟩
def qNH (a0:qa) (z:Unit):TV×THp:=(.tv qf (qa.mk (qa.ID a0) (qa.qz a0) ((([]:List qd))++(qa.F a0))),[])
def qtY (a0:qa):Tree (Unit):=
 .bind (Zu (qa.F a0)) fun r1=>
 .ret ()
def qt9 (a0:qa):Option (Unit):=(qtY a0).run some
def qOg:List (Nat×qw):=[]
def qEe:Ent:=smF ⟨54,[],[.x qf],[],[]⟩ [qf] (Unit) (fun x=>qt9 x.1) cs1 fun x=>qNH x.1
theorem qK7:zf Tryz.prog (qEe):=
 zd (H:=qN3) (L:=qJ (qOg)) (ts:=[qf]) (T:=fun x=>qtY x.1) 0 qRN (qIk 0) (qt (by kernel_rfl) trivial) (rg0 (by kernel_rfl)) fun x=>by kernel_rfl
noncomputable def qQj:Code:=Tryz.f147.body.getD .skip
theorem qO0:FnF Tryz.prog 147 Tryz.f147 qQj:=⟨qk,by kernel_rfl,by kernel_rfl,by kernel_rfl⟩
def qxS:TH:={ live:=[(0,[2,3,4]),(1,[2,3,4,7]),(2,[6]),(3,[12]),(4,[6]),(5,[6])] }
def qw2 (N:Nat):List Ent:=[XQ N]
theorem quz (N:Nat):qU Tryz.prog (qw2 N):=⟨Wt N,trivial⟩
def qxT (z:Int):TV×THp:=(xi z,[])
def qdP (N:Nat) (a0:qc) (a1:qc):Tree (Int):=
 .bind (vA N a0 a1) fun r1=>
 .cond r1 (
 .ret (-1)) <|
 .bind (vA N a1 a0) fun r2=>
 .cond r2 (
 .ret 1) <|
 .ret 0
def qbo (N:Nat) (a0:qc) (a1:qc):Option (Int):=(qdP N a0 a1).run some
def qxP (N:Nat):List (Nat×qw):=[]
def qkY (N:Nat):Ent:=smF ⟨147,[],[.x qh,.x qh,.fn 28 [] []],[],[]⟩ [qh,qh] (Int) (fun x=>qbo N x.1 x.2.1) cs1 fun _=>qxT
theorem qvB (N:Nat):zf Tryz.prog (qkY N):=
 zd (H:=qxS) (L:=qJ (qxP N)) (ts:=[qh,qh]) (T:=fun x=>qdP N x.1 x.2.1) 0 qO0 (quz N) (qt (by kernel_rfl) trivial) (rg0 (by kernel_rfl)) fun x=>by kernel_rfl
noncomputable def qP8:Code:=Tryz.f146.body.getD .skip
theorem qQk:FnF Tryz.prog 146 Tryz.f146 qP8:=⟨qk,by kernel_rfl,by kernel_rfl,by kernel_rfl⟩
def qHP:TH:={ live:=[(0,[0,1]),(1,[2])] }
def qHg (N:Nat):List Ent:=[qkY N]
theorem qDl (N:Nat):qU Tryz.prog (qHg N):=⟨qvB N,trivial⟩
def qHK (a0:qe) (a1:qe) (z:Int):TV×THp:=(xi z,[(20,.cell false (.tv qq a0)),(30,.cell false (.tv qq a1))])
def qlw (N:Nat) (a0:qe) (a1:qe):Tree (Int):=
 .bind (qbo N (qe.S a0) (qe.S a1)) fun r1=>
 .ret r1
def qj8 (N:Nat) (a0:qe) (a1:qe):Option (Int):=(qlw N a0 a1).run some
def qHA (N:Nat):List (Nat×qw):=[]
def qu4 (N:Nat):Ent:=smF ⟨146,[],[],[.k (.p 20 [] 0),.k (.p 30 [] 0)],[(20,.cell false (.x qq)),(30,.cell false (.x qq))]⟩ [qq,qq] (Int) (fun x=>qj8 N x.1 x.2.1) cs1 fun x=>qHK x.1 x.2.1
theorem qFa (N:Nat):zf Tryz.prog (qu4 N):=
 zd (H:=qHP) (L:=qJ (qHA N)) (ts:=[qq,qq]) (T:=fun x=>qlw N x.1 x.2.1) 0 qQk (qDl N) (qt (by kernel_rfl) trivial) (rg0 (by kernel_rfl)) fun x=>by kernel_rfl
noncomputable def qT0:Code:=Tryz.f51.body.getD .skip
theorem qSZ:FnF Tryz.prog 51 Tryz.f51 qT0:=⟨qk,by kernel_rfl,by kernel_rfl,by kernel_rfl⟩
def qTo:TH:={ live:=[(0,[0,2]),(1,[2])] }
def qSB (N:Nat):List Ent:=[qGP N]
theorem qNo (N:Nat):qU Tryz.prog (qSB N):=⟨qDq N,trivial⟩
def qRh (z:Vector UInt8 32):TV×THp:=(.tv (.ba 32) z,[])
def qB3 (N:Nat) (a0:List UInt8):Tree (Vector UInt8 32):=
 .chk (qmx (a0:List UInt8).length) <|
 .bind (qgP N a0) fun r1=>
 .ret r1
def qsD (N:Nat) (a0:List UInt8):Option (Vector UInt8 32):=(qB3 N a0).run some
def qTI (N:Nat):List (Nat×qw):=[]
def qCq (N:Nat):Ent:=smF ⟨51,[],[.x .s],[],[]⟩ [.s] (Vector UInt8 32) (fun x=>qsD N x.1) cs1 fun _=>qRh
theorem qGB (N:Nat):zf Tryz.prog (qCq N):=
 zd (H:=qTo) (L:=qJ (qTI N)) (ts:=[.s]) (T:=fun x=>qB3 N x.1) 0 qSZ (qNo N) (qt (by kernel_rfl) trivial) (rg0 (by kernel_rfl)) fun x=>by kernel_rfl
noncomputable def qQ_:Code:=Tryz.f83.body.getD .skip
theorem qSy:FnF Tryz.prog 83 Tryz.f83 qQ_:=⟨qk,by kernel_rfl,by kernel_rfl,by kernel_rfl⟩
def qNK:TH:={ live:=[(0,[2,3]),(1,[4])],dec:=[8] }
def qOB (N:Nat):List Ent:=[qcQ]
theorem qIN (N:Nat):qU Tryz.prog (qOB N):=⟨qgw,trivial⟩
def qNk (z:Bool):TV×THp:=(xb z,[])
def qtf (a0:Vector UInt8 32) (a1:Vector UInt8 32):Tree (Bool):=
 .cond (!(eqE (.ba 32) a0 a1)) (
 .bind (qbC a0.toList a1.toList) fun r1=>
 .ret (decide (r1 < ((0:Int))))) <|
 .ret false
def qjV (a0:Vector UInt8 32) (a1:Vector UInt8 32):Option (Bool):=(qtf a0 a1).run some
def qNl:List (Nat×qw):=[]
def quT:Ent:=smF ⟨83,[],[.x (.ba 32),.x (.ba 32)],[],[]⟩ [(.ba 32),(.ba 32)] (Bool) (fun x=>qjV x.1 x.2.1) cs1 fun _=>qNk
theorem qAX:zf Tryz.prog (quT):=
 zd (H:=qNK) (L:=qJ (qNl)) (ts:=[(.ba 32),(.ba 32)]) (T:=fun x=>qtf x.1 x.2.1) 0 qSy (qIN 0) (qt (by kernel_rfl) trivial) (rg0 (by kernel_rfl)) fun x=>by kernel_rfl
noncomputable def qPI:Code:=Tryz.f149.body.getD .skip
theorem qPt:FnF Tryz.prog 149 Tryz.f149 qPI:=⟨qk,by kernel_rfl,by kernel_rfl,by kernel_rfl⟩
def qvW:TH:={ live:=[(0,[2,3,4]),(1,[2,3,4,7]),(2,[6]),(3,[12]),(4,[6]),(5,[6])] }
def qvt (N:Nat):List Ent:=[quT]
theorem qr3 (N:Nat):qU Tryz.prog (qvt N):=⟨qAX,trivial⟩
def qwo (z:Int):TV×THp:=(xi z,[])
def qcc (a0:Vector UInt8 32) (a1:Vector UInt8 32):Tree (Int):=
 .bind (qjV a0 a1) fun r1=>
 .cond r1 (
 .ret (-1)) <|
 .bind (qjV a1 a0) fun r2=>
 .cond r2 (
 .ret 1) <|
 .ret 0
def KQ (a0:Vector UInt8 32) (a1:Vector UInt8 32):Option (Int):=(qcc a0 a1).run some
def qwm:List (Nat×qw):=[]
def qjn:Ent:=smF ⟨149,[],[.x (.ba 32),.x (.ba 32),.fn 83 [] []],[],[]⟩ [(.ba 32),(.ba 32)] (Int) (fun x=>KQ x.1 x.2.1) cs1 fun _=>qwo
theorem quQ:zf Tryz.prog (qjn):=
 zd (H:=qvW) (L:=qJ (qwm)) (ts:=[(.ba 32),(.ba 32)]) (T:=fun x=>qcc x.1 x.2.1) 0 qPt (qr3 0) (qt (by kernel_rfl) trivial) (rg0 (by kernel_rfl)) fun x=>by kernel_rfl
noncomputable def qPs:Code:=Tryz.f148.body.getD .skip
theorem qQT:FnF Tryz.prog 148 Tryz.f148 qPs:=⟨qk,by kernel_rfl,by kernel_rfl,by kernel_rfl⟩
def qHn:TH:={ live:=[(0,[0,1]),(1,[2])] }
def qHY (N:Nat):List Ent:=[qCq N,qjn]
theorem qEG (N:Nat):qU Tryz.prog (qHY N):=⟨qGB N,quQ,trivial⟩
def qHI (a0:qe) (a1:qe) (z:Int):TV×THp:=(xi z,[(20,.cell false (.tv qq a0)),(30,.cell false (.tv qq a1))])
def qlx (N:Nat) (a0:qe) (a1:qe):Tree (Int):=
 .bind (qsD N (qe.V a0)) fun r1=>
 .bind (qsD N (qe.V a1)) fun r2=>
 .bind (KQ r1 r2) fun r3=>
 .ret r3
def qke (N:Nat) (a0:qe) (a1:qe):Option (Int):=(qlx N a0 a1).run some
def qHO (N:Nat):List (Nat×qw):=[]
def qvd (N:Nat):Ent:=smF ⟨148,[],[],[.k (.p 20 [] 0),.k (.p 30 [] 0)],[(20,.cell false (.x qq)),(30,.cell false (.x qq))]⟩ [qq,qq] (Int) (fun x=>qke N x.1 x.2.1) cs1 fun x=>qHI x.1 x.2.1
theorem qGk (N:Nat):zf Tryz.prog (qvd N):=
 zd (H:=qHn) (L:=qJ (qHO N)) (ts:=[qq,qq]) (T:=fun x=>qlx N x.1 x.2.1) 0 qQT (qEG N) (qt (by kernel_rfl) trivial) (rg0 (by kernel_rfl)) fun x=>by kernel_rfl
noncomputable def qPN:Code:=Tryz.f153.body.getD .skip
theorem qQ5:FnF Tryz.prog 153 Tryz.f153 qPN:=⟨qk,by kernel_rfl,by kernel_rfl,by kernel_rfl⟩
def qxl:TH:={ live:=[(0,[0]),(1,[2])] }
def qyZ (N:Nat):List Ent:=[]
theorem quf (N:Nat):qU Tryz.prog (qyZ N):=trivial
def qyN (a0:List UInt8) (z:Unit):TV×THp:=(xb (!decide (a0=a0)),[])
def qk4 (a0:List UInt8):Tree (Unit):=
 .ret ()
def qbc (a0:List UInt8):Option (Unit):=(qk4 a0).run some
def qyI:List (Nat×qw):=[]
def qkm:Ent:=smF ⟨153,[],[.x .s],[],[]⟩ [.s] (Unit) (fun x=>qbc x.1) cs1 fun x=>qyN x.1
theorem qv_:zf Tryz.prog (qkm):=
 zd (H:=qxl) (L:=qJ (qyI)) (ts:=[.s]) (T:=fun x=>qk4 x.1) 0 qQ5 (quf 0) (qt (by kernel_rfl) trivial) (rg0 (by kernel_rfl)) fun x=>by kernel_rfl
noncomputable def qPc:Code:=Tryz.f151.body.getD .skip
theorem qQd:FnF Tryz.prog 151 Tryz.f151 qPc:=⟨qk,by kernel_rfl,by kernel_rfl,by kernel_rfl⟩
def quV:TH:={ live:=[(0,[0,1]),(1,[0,1,5]),(2,[0,1,5,6]),(3,[0,1,6,11]),(4,[12]),(5,[4]),(6,[4]),(7,[0,1,13]),(8,[4]),(9,[0,1,16]),(10,[4]),(11,[19]),(12,[4]),(13,[4])] }
def qud (N:Nat):List Ent:=[qkm]
theorem qqG (N:Nat):qU Tryz.prog (qud N):=⟨qv_,trivial⟩
def quN (z:Int):TV×THp:=(xi z,[])
def qaP (a0:List UInt8) (a1:List UInt8):Tree (Int):=
 .bind (qbc a0) fun r1=>
 .bind (qbc a1) fun r2=>
 .cond (!decide (a0=a0)) (
 .cond (!decide (a1=a1)) (
 .ret 0) <|
 .ret (-1)) <|
 .cond (!decide (a1=a1)) (
 .ret 1) <|
 .cond (Op.bytesLess a0 a1) (
 .ret (-1)) <|
 .cond (!(Op.bytesLess a0 a1||decide (a0=a1))) (
 .ret 1) <|
 .ret 0
def Y3 (a0:List UInt8) (a1:List UInt8):Option (Int):=(qaP a0 a1).run some
def qs4:List (Nat×qw):=[]
def qhR:Ent:=smF ⟨151,[],[.x .s,.x .s],[],[]⟩ [.s,.s] (Int) (fun x=>Y3 x.1 x.2.1) cs1 fun _=>quN
theorem qsa:zf Tryz.prog (qhR):=
 zd (H:=quV) (L:=qJ (qs4)) (ts:=[.s,.s]) (T:=fun x=>qaP x.1 x.2.1) 0 qQd (qqG 0) (qt (by kernel_rfl) trivial) (rg0 (by kernel_rfl)) fun x=>by kernel_rfl
noncomputable def qOO:Code:=Tryz.f150.body.getD .skip
theorem qPM:FnF Tryz.prog 150 Tryz.f150 qOO:=⟨qk,by kernel_rfl,by kernel_rfl,by kernel_rfl⟩
def qHS:TH:={ live:=[(0,[0,1]),(1,[2])] }
def qHm (N:Nat):List Ent:=[qhR]
theorem qDQ (N:Nat):qU Tryz.prog (qHm N):=⟨qsa,trivial⟩
def qHv (a0:qe) (a1:qe) (z:Int):TV×THp:=(xi z,[(20,.cell false (.tv qq a0)),(30,.cell false (.tv qq a1))])
def qln (a0:qe) (a1:qe):Tree (Int):=
 .bind (Y3 (qe.V a0) (qe.V a1)) fun r1=>
 .ret r1
def qkb (a0:qe) (a1:qe):Option (Int):=(qln a0 a1).run some
def qHy:List (Nat×qw):=[]
def qva:Ent:=smF ⟨150,[],[],[.k (.p 20 [] 0),.k (.p 30 [] 0)],[(20,.cell false (.x qq)),(30,.cell false (.x qq))]⟩ [qq,qq] (Int) (fun x=>qkb x.1 x.2.1) cs1 fun x=>qHv x.1 x.2.1
theorem qFm:zf Tryz.prog (qva):=
 zd (H:=qHS) (L:=qJ (qHy)) (ts:=[qq,qq]) (T:=fun x=>qln x.1 x.2.1) 0 qPM (qDQ 0) (qt (by kernel_rfl) trivial) (rg0 (by kernel_rfl)) fun x=>by kernel_rfl
noncomputable def qhs:Code:=Tryz.f138.body.getD .skip
theorem qQi:FnF Tryz.prog 138 Tryz.f138 qhs:=⟨qk,by kernel_rfl,by kernel_rfl,by kernel_rfl⟩
def qb6:TH:={ live:=[(0,[2,3]),(1,[5]),(2,[13,14]),(3,[13,14,15]),(4,[7,13,14]),(5,[8,13,14]),(6,[8,13,14,20]),(7,[4]),(8,[13,14]),(9,[4])] }
def qfQ (N:Nat):List Ent:=[qu4 N,qvd N,qva]
theorem qbX (N:Nat):qU Tryz.prog (qfQ N):=⟨qFa N,qGk N,qFm,trivial⟩
abbrev zS:=qe×qe
abbrev zW:=Bool⊕Unit
def z_ (f:zS):zW→Ex×TSt
 | .inl y=>(.ret,⟨0,24,[],[(4,xb y)],[],false,[]⟩)
 | .inr y=>(.exit 0,⟨0,24,[],[(13,.ag [.fn (.func 146) [] [.p 20 [] 0,.p 30 [] 0],.fn (.func 148) [] [.p 20 [] 0,.p 30 [] 0],.fn (.func 150) [] [.p 20 [] 0,.p 30 [] 0]]),(14,.ic .i64 3),(15,.bc false)],[(20,.cell false (.tv qq f.1)),(30,.cell false (.tv qq f.2))],false,[]⟩)
def qeh (N:Nat):List (Nat×qw):=[]
abbrev Vw:=Unit
def qAC:SP:=⟨0,24,[],[(13,.ag [.fn 146 [] [.k (.p 20 [] 0),.k (.p 30 [] 0)],.fn 148 [] [.k (.p 20 [] 0),.k (.p 30 [] 0)],.fn 150 [] [.k (.p 20 [] 0),.k (.p 30 [] 0)]]),(14,.k (.ic .i64 3))],[(20,.cell false (.x qq)),(30,.cell false (.x qq))],false,[]⟩
def qlE (f:zS) (v:Vw):TSt:=zq qAC [dv qq f.1,dv qq f.2]
def WJ (N:Nat) (o_3:qe) (o_3_2:qe) (v:Vw):Tree (Vw⊕zW):=
 .ret (.inr (.inr ()))
def qlF (N n:Nat) (f:zS) (v:Vw):Option zW:=qQ (WJ N f.1 f.2) some n v
theorem qzK (N:Nat) (f:zS) (n:Nat) (v:Vw) (y:zW) (h:qlF N n f v=some y):LG Tryz.prog qb6 138 (qE qhs 3) (qlE f v) (z_ f y):=
 zj qk (E:=qfQ N) (L:=qJ (qeh N)) (st:=z_ f) (g:=some) (R:=z_ f) (qbX N) (qt (by kernel_rfl) trivial) (rg0 (by kernel_rfl)) (fun v=>by kernel_rfl) (qP (st:=z_ f) fun y=>by rcases y with _ | _<;>rfl) n v y h
abbrev Vz:=Unit
def qzJ:SP:=⟨0,24,[],[(13,.ag [.fn 146 [] [.k (.p 20 [] 0),.k (.p 30 [] 0)],.fn 148 [] [.k (.p 20 [] 0),.k (.p 30 [] 0)],.fn 150 [] [.k (.p 20 [] 0),.k (.p 30 [] 0)]]),(14,.k (.ic .i64 2))],[(20,.cell false (.x qq)),(30,.cell false (.x qq))],false,[]⟩
def ql4 (f:zS) (v:Vz):TSt:=zq qzJ [dv qq f.1,dv qq f.2]
abbrev qfa:=Vw⊕zW
def Vp (N:Nat) (o_3:qe) (o_3_2:qe) (v:Vz):Tree (Vz⊕qfa):=
 .chk (0≤(2:Int)∧(2:Int) < ((3:Nat):Int)) <|
 .bind (qkb o_3 o_3_2) fun r1=>
 .cond (!decide (r1=((0:Int)))) (
 .ret (.inr (.inr ((.inl (decide (r1 < ((0:Int))))))))) <|
 .ret (.inr (.inl ()))
def WG (N n:Nat) (f:zS):qfa→Option zW
 | .inl w=>qlF N n f w
 | .inr w=>some w
def qz1 (f:zS):qfa→Ex×TSt
 | .inl w=>(.normal,qlE f w)
 | .inr w=>z_ f w
def qlZ (N n:Nat) (f:zS) (v:Vz):Option zW:=qQ (Vp N f.1 f.2) (WG N n f) n v
theorem qzP (N:Nat) (f:zS) (n:Nat) (v:Vz) (y:zW) (h:qlZ N n f v=some y):LG Tryz.prog qb6 138 (qE qhs 3) (ql4 f v) (z_ f y):=
 zj qk (E:=qfQ N) (L:=qJ (qeh N)) (st:=qz1 f) (g:=(WG N n f)) (R:=z_ f) (qbX N) (qt (by kernel_rfl) trivial) (rg0 (by kernel_rfl)) (fun v=>by kernel_rfl) (fun w y h=>by
 rcases w with w | w
 ·exact qzK N f n w y h
 ·exact qP (st:=z_ f) (fun y=>by rcases y with _ | _<;>rfl) w y h
) n v y h
abbrev Vr:=Unit
def qAk:SP:=⟨0,24,[],[(13,.ag [.fn 146 [] [.k (.p 20 [] 0),.k (.p 30 [] 0)],.fn 148 [] [.k (.p 20 [] 0),.k (.p 30 [] 0)],.fn 150 [] [.k (.p 20 [] 0),.k (.p 30 [] 0)]]),(14,.k (.ic .i64 1))],[(20,.cell false (.x qq)),(30,.cell false (.x qq))],false,[]⟩
def qlW (f:zS) (v:Vr):TSt:=zq qAk [dv qq f.1,dv qq f.2]
abbrev qe1:=Vz⊕zW
def Vy (N:Nat) (o_3:qe) (o_3_2:qe) (v:Vr):Tree (Vr⊕qe1):=
 .chk (0≤(1:Int)∧(1:Int) < ((3:Nat):Int)) <|
 .bind (qke N o_3 o_3_2) fun r1=>
 .cond (!decide (r1=((0:Int)))) (
 .ret (.inr (.inr ((.inl (decide (r1 < ((0:Int))))))))) <|
 .ret (.inr (.inl ()))
def WQ (N n:Nat) (f:zS):qe1→Option zW
 | .inl w=>qlZ N n f w
 | .inr w=>some w
def qAw (f:zS):qe1→Ex×TSt
 | .inl w=>(.normal,ql4 f w)
 | .inr w=>z_ f w
def ql3 (N n:Nat) (f:zS) (v:Vr):Option zW:=qQ (Vy N f.1 f.2) (WQ N n f) n v
theorem qAl (N:Nat) (f:zS) (n:Nat) (v:Vr) (y:zW) (h:ql3 N n f v=some y):LG Tryz.prog qb6 138 (qE qhs 3) (qlW f v) (z_ f y):=
 zj qk (E:=qfQ N) (L:=qJ (qeh N)) (st:=qAw f) (g:=(WQ N n f)) (R:=z_ f) (qbX N) (qt (by kernel_rfl) trivial) (rg0 (by kernel_rfl)) (fun v=>by kernel_rfl) (fun w y h=>by
 rcases w with w | w
 ·exact qzP N f n w y h
 ·exact qP (st:=z_ f) (fun y=>by rcases y with _ | _<;>rfl) w y h
) n v y h
abbrev qad:=Unit
def qr2:SP:=⟨0,24,[],[(13,.ag [.fn 146 [] [.k (.p 20 [] 0),.k (.p 30 [] 0)],.fn 148 [] [.k (.p 20 [] 0),.k (.p 30 [] 0)],.fn 150 [] [.k (.p 20 [] 0),.k (.p 30 [] 0)]]),(14,.k (.ic .i64 0))],[(20,.cell false (.x qq)),(30,.cell false (.x qq))],false,[]⟩
def qGj (f:zS) (v:qad):TSt:=zq qr2 [dv qq f.1,dv qq f.2]
abbrev qjC:=Vr⊕zW
def qer (N:Nat) (o_3:qe) (o_3_2:qe) (v:qad):Tree (qad⊕qjC):=
 .chk (0≤(0:Int)∧(0:Int) < ((3:Nat):Int)) <|
 .bind (qj8 N o_3 o_3_2) fun r1=>
 .cond (!decide (r1=((0:Int)))) (
 .ret (.inr (.inr ((.inl (decide (r1 < ((0:Int))))))))) <|
 .ret (.inr (.inl ()))
def qjH (N n:Nat) (f:zS):qjC→Option zW
 | .inl w=>ql3 N n f w
 | .inr w=>some w
def qFi (f:zS):qjC→Ex×TSt
 | .inl w=>(.normal,qlW f w)
 | .inr w=>z_ f w
def qsr (N n:Nat) (f:zS) (v:qad):Option zW:=qQ (qer N f.1 f.2) (qjH N n f) n v
theorem qFn (N:Nat) (f:zS) (n:Nat) (v:qad) (y:zW) (h:qsr N n f v=some y):LG Tryz.prog qb6 138 (qE qhs 3) (qGj f v) (z_ f y):=
 zj qk (E:=qfQ N) (L:=qJ (qeh N)) (st:=qFi f) (g:=(qjH N n f)) (R:=z_ f) (qbX N) (qt (by kernel_rfl) trivial) (rg0 (by kernel_rfl)) (fun v=>by kernel_rfl) (fun w y h=>by
 rcases w with w | w
 ·exact qAl N f n w y h
 ·exact qP (st:=z_ f) (fun y=>by rcases y with _ | _<;>rfl) w y h
) n v y h
def qhI (N:Nat) (o_3:qe) (o_3_2:qe):Option zW:=qsr N N (o_3,o_3_2) ()
def qrD (N:Nat):qw:=smL qr2 [qq,qq] zW (fun x=>qhI N x.1 x.2.1) (csS cs1) fun x=>z_ (x.1,x.2.1)
theorem qEP (N:Nat):zZ Tryz.prog qb6 138 (qE qhs 3) (qrD N):=zp fun x z h=>qFn N (x.1,x.2.1) N () z h
def qLo (z:Bool):TV×THp:=(xb z,[])
def qqY (N:Nat) (a0:qe) (a1:qe):Tree (Bool):=
 .bind (qhI N a0 a1) fun z1=>
 .sum z1 (fun z2=>
 .ret z2) fun z2=>
 .ret false
def qoW (N:Nat) (a0:qe) (a1:qe):Option (Bool):=(qqY N a0 a1).run some
def qLj (N:Nat):List (Nat×qw):=[(3,qrD N)]
def qA4 (N:Nat):Ent:=smF ⟨138,[],[.x qq,.x qq],[],[]⟩ [qq,qq] (Bool) (fun x=>qoW N x.1 x.2.1) cs1 fun _=>qLo
theorem qJv (N:Nat):zf Tryz.prog (qA4 N):=
 zd (H:=qb6) (L:=qJ (qLj N)) (ts:=[qq,qq]) (T:=fun x=>qqY N x.1 x.2.1) 0 qQi (qbX N) (qt (by kernel_rfl) ⟨qEP N,trivial⟩) (rg0 (by kernel_rfl)) fun x=>by kernel_rfl
noncomputable def qPb:Code:=Tryz.f116.body.getD .skip
theorem qPB:FnF Tryz.prog 116 Tryz.f116 qPb:=⟨qk,by kernel_rfl,by kernel_rfl,by kernel_rfl⟩
def qLN:TH:={ live:=[(0,[2,3,4]),(1,[2,3,4,7]),(2,[4]),(3,[4])] }
def qK8 (N:Nat):List Ent:=[qA4 N]
theorem qHT (N:Nat):qU Tryz.prog (qK8 N):=⟨qJv N,trivial⟩
def qLG (z:qe):TV×THp:=(.tv qq z,[])
def qqK (N:Nat) (a0:qe) (a1:qe):Tree (qe):=
 .bind (qoW N a0 a1) fun r1=>
 .cond r1 (
 .ret a1) <|
 .ret a0
def qoH (N:Nat) (a0:qe) (a1:qe):Option (qe):=(qqK N a0 a1).run some
def qLI (N:Nat):List (Nat×qw):=[]
def qA3 (N:Nat):Ent:=smF ⟨116,[],[.x qq,.x qq],[],[]⟩ [qq,qq] (qe) (fun x=>qoH N x.1 x.2.1) cs1 fun _=>qLG
theorem qII (N:Nat):zf Tryz.prog (qA3 N):=
 zd (H:=qLN) (L:=qJ (qLI N)) (ts:=[qq,qq]) (T:=fun x=>qqK N x.1 x.2.1) 0 qPB (qHT N) (qt (by kernel_rfl) trivial) (rg0 (by kernel_rfl)) fun x=>by kernel_rfl
noncomputable def qCh:Code:=Tryz.f89.body.getD .skip
theorem qSd:FnF Tryz.prog 89 Tryz.f89 qCh:=⟨qk,by kernel_rfl,by kernel_rfl,by kernel_rfl⟩
def qdk:TH:={ live:=[(0,[0,3]),(1,[0,9,10,11]),(2,[0,9,10,11,12]),(3,[0,5,9,10,11]),(4,[0,5,6,7,9,10,11]),(5,[0,5,6,9,10,11,22]),(6,[0,9,10,11]),(7,[0,9,10,11]),(8,[0,9,10,11])] }
def qkJ (N:Nat):List Ent:=[qA3 N]
theorem qhP (N:Nat):qU Tryz.prog (qkJ N):=⟨qII N,trivial⟩
abbrev Wf:=List qd×Int
abbrev QG:=Nat×List (Int×qe×Nat)×Int×Bool
def JA (f:Wf) (y:QG):Ex×TSt:=(.exit 0,⟨1,36,[250],[(0,.m 250),(9,.tv (.sl 4 qB) f.1),(10,xi f.2),(11,xi y.2.2.1),(12,xb y.2.2.2)],[(250,.map y.1 (.i .i64) qq (y.2.1:List (Int×qe×Nat)))],false,[]⟩)
def qrP (N:Nat):List (Nat×qw):=[]
abbrev Jw:=Nat×List (Int×qe×Nat)×Int
def qgT:SP:=⟨1,36,[250],[(0,.k (.m 250)),(9,.x (.sl 4 qB)),(10,.x (.i .i64)),(11,.x (.i .i64))],[(250,.map (.i .i64) qq)],false,[]⟩
def qsz (f:Wf) (v:Jw):TSt:=zq qgT [dv .nat v.1,dv (qaR (.i .i64) qq) v.2.1,dv (.sl 4 qB) f.1,dv (.i .i64) f.2,dv (.i .i64) v.2.2]
def JF (N:Nat) (s9_2:List qd) (s10_2:Int) (v:Jw):Tree (Jw⊕QG):=
 .cond (decide (v.2.2 < s10_2)) (
 .bind (qM s9_2 v.2.2) fun e1=>
 .opt (fnd (β:=qe) (.i .i64) (qd.No e1) v.2.1) (
 .chk (qp (v.2.2 + 1)) <|
 .ret (.inl ((J2 (.i .i64) (qd.No e1) (qd.C e1) v.1 v.2.1).1,(J2 (.i .i64) (qd.No e1) (qd.C e1) v.1 v.2.1).2,v.2.2 + 1))) fun e2=>
 .bind (qoH N e2.1 (qd.C e1)) fun r3=>
 .chk (qp (v.2.2 + 1)) <|
 .ret (.inl ((J2 (.i .i64) (qd.No e1) r3 v.1 v.2.1).1,(J2 (.i .i64) (qd.No e1) r3 v.1 v.2.1).2,v.2.2 + 1))) <|
 .ret (.inr (v.1,v.2.1,v.2.2,decide (v.2.2 < s10_2)))
def qhe (N n:Nat) (f:Wf) (v:Jw):Option QG:=qQ (JF N f.1 f.2) some n v
theorem qsb (N:Nat) (f:Wf) (n:Nat) (v:Jw) (y:QG) (h:qhe N n f v=some y):LG Tryz.prog qdk 89 (qE qCh 2) (qsz f v) (JA f y):=
 zj qk (E:=qkJ N) (L:=qJ (qrP N)) (st:=JA f) (g:=some) (R:=JA f) (qhP N) (qt (by kernel_rfl) trivial) (rg0 (by kernel_rfl)) (fun v=>by kernel_rfl) (qP (st:=JA f) fun y=>by rfl) n v y h
def qcn (N:Nat) (s9_2:List qd) (s10_2:Int) (o_2:Nat) (o_2_2:List (Int×qe×Nat)) (s11_2:Int):Option QG:=qhe N N (s9_2,s10_2) (o_2,o_2_2,s11_2)
def qgM (N:Nat):qw:=smL qgT [.nat,(qaR (.i .i64) qq),(.sl 4 qB),(.i .i64),(.i .i64)] QG (fun x=>qcn N x.2.2.1 x.2.2.2.1 x.1 x.2.1 x.2.2.2.2.1) cs1 fun x=>JA (x.2.2.1,x.2.2.2.1)
theorem qp3 (N:Nat):zZ Tryz.prog qdk 89 (qE qCh 2) (qgM N):=zp fun x z h=>qsb N (x.2.2.1,x.2.2.2.1) N (x.1,x.2.1,x.2.2.2.2.1) z h
def qyY (z:Nat×List (Int×qe×Nat)):TV×THp:=(.tup [],[(250,.map z.1 (.i .i64) qq (z.2:List (Int×qe×Nat)))])
def qdS (N:Nat) (a0:Nat) (a1:List (Int×qe×Nat)) (a2:qa):Tree (Nat×List (Int×qe×Nat)):=
 .bind (qcn N (qa.F a2) (((qa.F a2).length:Nat):Int) a0 a1 0) fun z1=>
 .ret (z1.1,z1.2.1)
def Yh (N:Nat) (a0:Nat) (a1:List (Int×qe×Nat)) (a2:qa):Option (Nat×List (Int×qe×Nat)):=(qdS N a0 a1 a2).run some
def qyv (N:Nat):List (Nat×qw):=[(2,qgM N)]
def qkO (N:Nat):Ent:=smF ⟨89,[],[.k (.m 250),.x qf],[],[(250,.map (.i .i64) qq)]⟩ [.nat,(qaR (.i .i64) qq),qf] (Nat×List (Int×qe×Nat)) (fun x=>Yh N x.1 x.2.1 x.2.2.1) cs1 fun _=>qyY
theorem qvH (N:Nat):zf Tryz.prog (qkO N):=
 zd (H:=qdk) (L:=qJ (qyv N)) (ts:=[.nat,(qaR (.i .i64) qq),qf]) (T:=fun x=>qdS N x.1 x.2.1 x.2.2.1) 0 qSd (qhP N) (qt (by kernel_rfl) ⟨qp3 N,trivial⟩) (rg0 (by kernel_rfl)) fun x=>by kernel_rfl
noncomputable def qT1:Code:=Tryz.f90.body.getD .skip
theorem qRT:FnF Tryz.prog 90 Tryz.f90 qT1:=⟨qk,by kernel_rfl,by kernel_rfl,by kernel_rfl⟩
def qLp:TH:={ live:=[(0,[2,3,4]),(1,[2,3,4,7]),(2,[4]),(3,[4])] }
def qKR (N:Nat):List Ent:=[XQ N]
theorem qHz (N:Nat):qU Tryz.prog (qKR N):=⟨Wt N,trivial⟩
def qLn (z:qc):TV×THp:=(.tv qh z,[])
def qpB (N:Nat) (a0:qc) (a1:qc):Tree (qc):=
 .bind (vA N a0 a1) fun r1=>
 .cond r1 (
 .ret a1) <|
 .ret a0
def qoZ (N:Nat) (a0:qc) (a1:qc):Option (qc):=(qpB N a0 a1).run some
def qLL (N:Nat):List (Nat×qw):=[]
def qAJ (N:Nat):Ent:=smF ⟨90,[],[.x qh,.x qh],[],[]⟩ [qh,qh] (qc) (fun x=>qoZ N x.1 x.2.1) cs1 fun _=>qLn
theorem qKg (N:Nat):zf Tryz.prog (qAJ N):=
 zd (H:=qLp) (L:=qJ (qLL N)) (ts:=[qh,qh]) (T:=fun x=>qpB N x.1 x.2.1) 0 qRT (qHz N) (qt (by kernel_rfl) trivial) (rg0 (by kernel_rfl)) fun x=>by kernel_rfl
noncomputable def qRe:Code:=Tryz.f91.body.getD .skip
theorem qRy:FnF Tryz.prog 91 Tryz.f91 qRe:=⟨qk,by kernel_rfl,by kernel_rfl,by kernel_rfl⟩
def qrl:TH:={ live:=[(0,[2,3]),(1,[4])],esc:=true }
def qrv (N:Nat):List Ent:=[]
theorem qof (N:Nat):qU Tryz.prog (qrv N):=trivial
def qrX (a0:Nat) (a1:List (Int×qe×Nat)) (a2:qc) (z:Unit):TV×THp:=(.fn (.func 117) [] [.p 100020 [] 0,.p 100030 [] 0],[(250,.map a0 (.i .i64) qq a1),(100020,.cell false (.m 250)),(100030,.cell false (.tv qh a2))])
def qhb (a0:Nat) (a1:List (Int×qe×Nat)) (a2:qc):Tree (Unit):=
 .ret ()
def qi6 (a0:Nat) (a1:List (Int×qe×Nat)) (a2:qc):Option (Unit):=(qhb a0 a1 a2).run some
def qrw:List (Nat×qw):=[]
def qhi:Ent:=smF ⟨91,[],[.k (.m 250),.x qh],[],[(250,.map (.i .i64) qq)]⟩ [.nat,(qaR (.i .i64) qq),qh] (Unit) (fun x=>qi6 x.1 x.2.1 x.2.2.1) cs1 fun x=>qrX x.1 x.2.1 x.2.2.1
theorem qpJ:zf Tryz.prog (qhi):=
 zd (H:=qrl) (L:=qJ (qrw)) (ts:=[.nat,(qaR (.i .i64) qq),qh]) (T:=fun x=>qhb x.1 x.2.1 x.2.2.1) 0 qRy (qof 0) (qt (by kernel_rfl) trivial) (rg0 (by kernel_rfl)) fun x=>by kernel_rfl
def qxn:TH:={ live:=[(0,[2,3,4]),(1,[2,3,4,23]),(2,[4,5]),(3,[2,3,4,6]),(4,[2,3,4,6]),(5,[2,3,4,6]),(6,[4,6,7]),(7,[4,7,43]),(8,[7,8]),(10,[4,5])],dec:=[12,17],fresh:=[43] }
def qxN (N:Nat):List Ent:=[]
theorem quW (N:Nat):qU Tryz.prog (qxN N):=trivial
def qyz (a0:List qd) (a1:List qd) (a2:Nat) (a3:List (Int×qe×Nat)) (a4:Vector UInt8 16) (a5:qc) (a6:Vector UInt8 16) (a7:qc) (a8:qc) (a9:qd) (z:Unit):TV×THp:=(.bc true,[(40,.cell false (.ag [.tv (.ba 16) a4,.tv qh a5,.v 45 a0.length])),(45,.vec false 4 (.sl 4 qB) a0),(70,.cell false (.ag [.tv (.ba 16) a6,.tv qh a7,.v 75 ((a1++[a9]).length)])),(75,.vec false 4 (.sl 4 qB) (a1++[a9]:List qd)),(250,.map a2 (.i .i64) qq a3),(50080,.loop [44] 52 [(4,.p 40 [] 0),(7,.p 70 [] 0),(43,.fn (.func 117) [] [.p 100020 [] 0,.p 100030 [] 0])] 5500008 55 .ready none 50081),(50081,.dfr true),(100020,.cell false (.m 250)),(100030,.cell false (.tv qh a8))])
def qdx (a0:List qd) (a1:List qd) (a2:Nat) (a3:List (Int×qe×Nat)) (a4:Vector UInt8 16) (a5:qc) (a6:Vector UInt8 16) (a7:qc) (a8:qc) (a9:qd):Tree (Unit):=
 .chk (zU a1.length a1.length ((a1++[a9]).length) 40) <|
 .ret ()
def qaU (a0:List qd) (a1:List qd) (a2:Nat) (a3:List (Int×qe×Nat)) (a4:Vector UInt8 16) (a5:qc) (a6:Vector UInt8 16) (a7:qc) (a8:qc) (a9:qd):Option (Unit):=(qdx a0 a1 a2 a3 a4 a5 a6 a7 a8 a9).run some
def qwx:List (Nat×qw):=[]
def qkq:Ent:=smR 50080 [.x qB] [(40,.cell false (.ag [.x (.ba 16),.x qh,.vs 45])),(45,.vec false 4),(70,.cell false (.ag [.x (.ba 16),.x qh,.vs 75])),(75,.vec false 4),(250,.map (.i .i64) qq),(50080,.loop [44] 52 [(4,.k (.p 40 [] 0)),(7,.k (.p 70 [] 0)),(43,.fn 117 [] [.k (.p 100020 [] 0),.k (.p 100030 [] 0)])] 5500008 55 .ready none 50081),(50081,.dfr true),(100020,.cell false (.k (.m 250))),(100030,.cell false (.x qh))] [(.sl 4 qB),(.sl 4 qB),.nat,(qaR (.i .i64) qq),(.ba 16),qh,(.ba 16),qh,qh,qB] (Unit) (fun x=>qaU x.1 x.2.1 x.2.2.1 x.2.2.2.1 x.2.2.2.2.1 x.2.2.2.2.2.1 x.2.2.2.2.2.2.1 x.2.2.2.2.2.2.2.1 x.2.2.2.2.2.2.2.2.1 x.2.2.2.2.2.2.2.2.2.1) cs1 fun x=>qyz x.1 x.2.1 x.2.2.1 x.2.2.2.1 x.2.2.2.2.1 x.2.2.2.2.2.1 x.2.2.2.2.2.2.1 x.2.2.2.2.2.2.2.1 x.2.2.2.2.2.2.2.2.1 x.2.2.2.2.2.2.2.2.2.1
theorem qwg:zf Tryz.prog (qkq):=
 qNu (H:=qxn) (L:=qJ (qwx)) (ts:=[(.sl 4 qB),(.sl 4 qB),.nat,(qaR (.i .i64) qq),(.ba 16),qh,(.ba 16),qh,qh,qB]) (T:=fun x=>qdx x.1 x.2.1 x.2.2.1 x.2.2.2.1 x.2.2.2.2.1 x.2.2.2.2.2.1 x.2.2.2.2.2.2.1 x.2.2.2.2.2.2.2.1 x.2.2.2.2.2.2.2.2.1 x.2.2.2.2.2.2.2.2.2.1) (K:=55) (cid:=5500008) 2 qk (quW 0) (by kernel_rfl) (qt (by kernel_rfl) trivial) (rg0 (by kernel_rfl)) (rg0 (by kernel_rfl)) (fun x=>by kernel_rfl) fun x=>by kernel_rfl
noncomputable def qx6:Code:=Tryz.f117.body.getD .skip
theorem qPP:FnF Tryz.prog 117 Tryz.f117 qx6:=⟨qk,by kernel_rfl,by kernel_rfl,by kernel_rfl⟩
def YC:TH:={ live:=[(0,[0,1,2,7]),(1,[0,1,2,7,8]),(2,[0,1,2,4,7]),(3,[0,1,2,4,5,6,7]),(4,[0,1,2,7,30]),(5,[0,1,2,7])],dec:=[17,23] }
def qeY (N:Nat):List Ent:=[XQ N,qkq]
theorem qcS (N:Nat):qU Tryz.prog (qeY N):=⟨Wt N,qwg,trivial⟩
abbrev Jf:=List qd×Nat×List (Int×qe×Nat)×Vector UInt8 16×qc×Vector UInt8 16×qc×qc
abbrev j9:=List qd×Int×Bool
def v8 (f:Jf) (y:j9):Ex×TSt:=(.exit 0,⟨2,32,[40,45,70,75,250,50080,50081,100020,100030],[(0,.yl 50080),(1,.p 100020 [] 0),(2,.p 100030 [] 0),(7,xi y.2.1),(8,xb y.2.2)],[(40,.cell false (.ag [.tv (.ba 16) f.2.2.2.1,.tv qh f.2.2.2.2.1,.v 45 f.1.length])),(45,.vec false 4 (.sl 4 qB) f.1),(70,.cell false (.ag [.tv (.ba 16) f.2.2.2.2.2.1,.tv qh f.2.2.2.2.2.2.1,.v 75 y.1.length])),(75,.vec false 4 (.sl 4 qB) (y.1:List qd)),(250,.map f.2.1 (.i .i64) qq f.2.2.1),(50080,.loop [44] 52 [(4,.p 40 [] 0),(7,.p 70 [] 0),(43,.fn (.func 117) [] [.p 100020 [] 0,.p 100030 [] 0])] 5500008 55 .ready none 50081),(50081,.dfr true),(100020,.cell false (.m 250)),(100030,.cell false (.tv qh f.2.2.2.2.2.2.2))],false,[]⟩)
def qld (N:Nat):List (Nat×qw):=[]
abbrev v3:=List qd×Int
def qbP:SP:=⟨2,32,[40,45,70,75,250,50080,50081,100020,100030],[(0,.k (.yl 50080)),(1,.k (.p 100020 [] 0)),(2,.k (.p 100030 [] 0)),(7,.x (.i .i64))],[(40,.cell false (.ag [.x (.ba 16),.x qh,.vs 45])),(45,.vec false 4),(70,.cell false (.ag [.x (.ba 16),.x qh,.vs 75])),(75,.vec false 4),(250,.map (.i .i64) qq),(50080,.loop [44] 52 [(4,.k (.p 40 [] 0)),(7,.k (.p 70 [] 0)),(43,.fn 117 [] [.k (.p 100020 [] 0),.k (.p 100030 [] 0)])] 5500008 55 .ready none 50081),(50081,.dfr true),(100020,.cell false (.k (.m 250))),(100030,.cell false (.x qh))],false,[]⟩
def qlf (f:Jf) (v:v3):TSt:=zq qbP [dv (.sl 4 qB) f.1,dv (.sl 4 qB) v.1,dv .nat f.2.1,dv (qaR (.i .i64) qq) f.2.2.1,dv (.ba 16) f.2.2.2.1,dv qh f.2.2.2.2.1,dv (.ba 16) f.2.2.2.2.2.1,dv qh f.2.2.2.2.2.2.1,dv qh f.2.2.2.2.2.2.2,dv (.i .i64) v.2]
def Je (N:Nat) (o_1:List qd) (o_1_3:Nat) (o_1_4:List (Int×qe×Nat)) (o_1_5:Vector UInt8 16) (o_1_6:qc) (o_1_7:Vector UInt8 16) (o_1_8:qc) (o_1_9:qc) (v:v3):Tree (v3⊕j9):=
 .cond (decide (v.2 < ((8:Int)))) (
 .opt (fnd (β:=qe) (.i .i64) v.2 o_1_4) (
 .chk (qp (v.2 + 1)) <|
 .ret (.inl (v.1,v.2 + 1))) fun e1=>
 .bind (vA N o_1_9 (qe.S e1.1)) fun r2=>
 .cond r2 (
 .bind (zV [(o_1.length,o_1.length),(v.1.length,v.1.length)] (qaU o_1 v.1 o_1_3 o_1_4 o_1_5 o_1_6 o_1_7 o_1_8 o_1_9 (qd.mk v.2 e1.1))) fun r3=>
 .chk (qp (v.2 + 1)) <|
 .ret (.inl (v.1++[qd.mk v.2 e1.1],v.2 + 1))) <|
 .chk (qp (v.2 + 1)) <|
 .ret (.inl (v.1,v.2 + 1))) <|
 .ret (.inr (v.1,v.2,decide (v.2 < ((8:Int)))))
def qbG (N n:Nat) (f:Jf) (v:v3):Option j9:=qQ (Je N f.1 f.2.1 f.2.2.1 f.2.2.2.1 f.2.2.2.2.1 f.2.2.2.2.2.1 f.2.2.2.2.2.2.1 f.2.2.2.2.2.2.2) some n v
theorem qly (N:Nat) (f:Jf) (n:Nat) (v:v3) (y:j9) (h:qbG N n f v=some y):LG Tryz.prog YC 117 (qE qx6 1) (qlf f v) (v8 f y):=
 zj qk (E:=qeY N) (L:=qJ (qld N)) (st:=v8 f) (g:=some) (R:=v8 f) (qcS N) (qt (by kernel_rfl) trivial) (rg0 (by kernel_rfl)) (fun v=>by kernel_rfl) (qP (st:=v8 f) fun y=>by rfl) n v y h
def Yj (N:Nat) (o_1:List qd) (o_1_3:Nat) (o_1_4:List (Int×qe×Nat)) (o_1_5:Vector UInt8 16) (o_1_6:qc) (o_1_7:Vector UInt8 16) (o_1_8:qc) (o_1_9:qc) (o_1_2:List qd) (s7_1:Int):Option j9:=qbG N N (o_1,o_1_3,o_1_4,o_1_5,o_1_6,o_1_7,o_1_8,o_1_9) (o_1_2,s7_1)
def qbO (N:Nat):qw:=smL qbP [(.sl 4 qB),(.sl 4 qB),.nat,(qaR (.i .i64) qq),(.ba 16),qh,(.ba 16),qh,qh,(.i .i64)] j9 (fun x=>Yj N x.1 x.2.2.1 x.2.2.2.1 x.2.2.2.2.1 x.2.2.2.2.2.1 x.2.2.2.2.2.2.1 x.2.2.2.2.2.2.2.1 x.2.2.2.2.2.2.2.2.1 x.2.1 x.2.2.2.2.2.2.2.2.2.1) cs1 fun x=>v8 (x.1,x.2.2.1,x.2.2.2.1,x.2.2.2.2.1,x.2.2.2.2.2.1,x.2.2.2.2.2.2.1,x.2.2.2.2.2.2.2.1,x.2.2.2.2.2.2.2.2.1)
theorem qkB (N:Nat):zZ Tryz.prog YC 117 (qE qx6 1) (qbO N):=zp fun x z h=>qly N (x.1,x.2.2.1,x.2.2.2.1,x.2.2.2.2.1,x.2.2.2.2.2.1,x.2.2.2.2.2.2.1,x.2.2.2.2.2.2.2.1,x.2.2.2.2.2.2.2.2.1) N (x.2.1,x.2.2.2.2.2.2.2.2.2.1) z h
def qoi (a0:List qd) (a2:Nat) (a3:List (Int×qe×Nat)) (a4:Vector UInt8 16) (a5:qc) (a6:Vector UInt8 16) (a7:qc) (a8:qc) (z:List qd):TV×THp:=(.tup [],[(40,.cell false (.ag [.tv (.ba 16) a4,.tv qh a5,.v 45 a0.length])),(45,.vec false 4 (.sl 4 qB) a0),(70,.cell false (.ag [.tv (.ba 16) a6,.tv qh a7,.v 75 z.length])),(75,.vec false 4 (.sl 4 qB) z),(250,.map a2 (.i .i64) qq a3),(50080,.loop [44] 52 [(4,.p 40 [] 0),(7,.p 70 [] 0),(43,.fn (.func 117) [] [.p 100020 [] 0,.p 100030 [] 0])] 5500008 55 .ready none 50081),(50081,.dfr true),(100020,.cell false (.m 250)),(100030,.cell false (.tv qh a8))])
def YH (N:Nat) (a0:List qd) (a1:List qd) (a2:Nat) (a3:List (Int×qe×Nat)) (a4:Vector UInt8 16) (a5:qc) (a6:Vector UInt8 16) (a7:qc) (a8:qc):Tree (List qd):=
 .bind (zV [(a0.length,a0.length),(a1.length,a1.length)] (Yj N a0 a2 a3 a4 a5 a6 a7 a8 a1 0)) fun z1=>
 .ret z1.1
def XU (N:Nat) (a0:List qd) (a1:List qd) (a2:Nat) (a3:List (Int×qe×Nat)) (a4:Vector UInt8 16) (a5:qc) (a6:Vector UInt8 16) (a7:qc) (a8:qc):Option (List qd):=(YH N a0 a1 a2 a3 a4 a5 a6 a7 a8).run some
def qoy (N:Nat):List (Nat×qw):=[(1,qbO N)]
def qeF (N:Nat):Ent:=smF ⟨117,[],[.k (.yl 50080)],[.k (.p 100020 [] 0),.k (.p 100030 [] 0)],[(40,.cell false (.ag [.x (.ba 16),.x qh,.vs 45])),(45,.vec false 4),(70,.cell false (.ag [.x (.ba 16),.x qh,.vs 75])),(75,.vec false 4),(250,.map (.i .i64) qq),(50080,.loop [44] 52 [(4,.k (.p 40 [] 0)),(7,.k (.p 70 [] 0)),(43,.fn 117 [] [.k (.p 100020 [] 0),.k (.p 100030 [] 0)])] 5500008 55 .ready none 50081),(50081,.dfr true),(100020,.cell false (.k (.m 250))),(100030,.cell false (.x qh))]⟩ [(.sl 4 qB),(.sl 4 qB),.nat,(qaR (.i .i64) qq),(.ba 16),qh,(.ba 16),qh,qh] (List qd) (fun x=>XU N x.1 x.2.1 x.2.2.1 x.2.2.2.1 x.2.2.2.2.1 x.2.2.2.2.2.1 x.2.2.2.2.2.2.1 x.2.2.2.2.2.2.2.1 x.2.2.2.2.2.2.2.2.1) cs1 fun x=>qoi x.1 x.2.2.1 x.2.2.2.1 x.2.2.2.2.1 x.2.2.2.2.2.1 x.2.2.2.2.2.2.1 x.2.2.2.2.2.2.2.1 x.2.2.2.2.2.2.2.2.1
theorem qnJ (N:Nat):zf Tryz.prog (qeF N):=
 zd (H:=YC) (L:=qJ (qoy N)) (ts:=[(.sl 4 qB),(.sl 4 qB),.nat,(qaR (.i .i64) qq),(.ba 16),qh,(.ba 16),qh,qh]) (T:=fun x=>YH N x.1 x.2.1 x.2.2.1 x.2.2.2.1 x.2.2.2.2.1 x.2.2.2.2.2.1 x.2.2.2.2.2.2.1 x.2.2.2.2.2.2.2.1 x.2.2.2.2.2.2.2.2.1) 1 qPP (qcS N) (qt (by kernel_rfl) ⟨qkB N,trivial⟩) (rg0 (by kernel_rfl)) fun x=>by kernel_rfl
noncomputable def qT4:Code:=Tryz.f55.body.getD .skip
theorem qRk:FnF Tryz.prog 55 Tryz.f55 qT4:=⟨qk,by kernel_rfl,by kernel_rfl,by kernel_rfl⟩
def qNd:TH:={ live:=[(0,[2,3,4]),(1,[2,3,4,23]),(2,[4,5]),(3,[2,3,4,6]),(4,[2,3,4,6]),(5,[2,3,4,6]),(6,[4,6,7]),(7,[4,7,43]),(8,[7,8]),(10,[4,5])],dec:=[12,17],fresh:=[43],nil:=[(0,[⟨.ob 40 [2],45,(.sl 4 qB)⟩]),(2,[⟨.ob 40 [2],45,(.sl 4 qB)⟩]),(6,[⟨.ob 70 [2],75,(.sl 4 qB)⟩])] }
def qN5 (N:Nat):List Ent:=[qo4 N,qkO N,qAJ N,qhi,qeF N]
theorem qIP (N:Nat):qU Tryz.prog (qN5 N):=⟨qtE N,qvH N,qKg N,qpJ,qnJ N,trivial⟩
def qOa (z:qa×Bool):TV×THp:=(.tup [.tv qf (z.1:qa),xb z.2],[])
def qs9 (N:Nat) (a0:qa) (a1:qa):Tree (qa×Bool):=
 .bind (qjK N a0) fun r1=>
 .cond (!r1) (
 .chk (0=0) <|
 .ret (qa.mk ((Vector.replicate 16 0)) (qc.mk 0 0) [],false)) <|
 .bind (qjK N a1) fun r2=>
 .cond (!r2) (
 .chk (0=0) <|
 .ret (qa.mk ((Vector.replicate 16 0)) (qc.mk 0 0) [],false)) <|
 .cond (!(eqE (.ba 16) (qa.ID a0) (qa.ID a1))) (
 .chk (0=0) <|
 .ret (qa.mk ((Vector.replicate 16 0)) (qc.mk 0 0) [],false)) <|
 .bind (Yh N 0 [] a0) fun r3=>
 .bind (Yh N r3.1 r3.2 a1) fun r4=>
 .bind (qoZ N (qa.qz a0) (qa.qz a1)) fun r5=>
 .bind (qi6 r4.1 r4.2 r5) fun r6=>
 .bind (zV [(([]:List qd).length,0),(([]:List qd).length,0)] (XU N [] [] r4.1 r4.2 ((Vector.replicate 16 0)) (qc.mk 0 0) (qa.ID a0) r5 r5)) fun r7=>
 .chk (r7.length=r7.length) <|
 .ret (qa.mk (qa.ID a0) r5 r7,true)
def qti (N:Nat) (a0:qa) (a1:qa):Option (qa×Bool):=(qs9 N a0 a1).run some
def qOr (N:Nat):List (Nat×qw):=[]
def qEY (N:Nat):Ent:=smF ⟨55,[],[.x qf,.x qf],[],[]⟩ [qf,qf] (qa×Bool) (fun x=>qti N x.1 x.2.1) cs1 fun _=>qOa
theorem qLi (N:Nat):zf Tryz.prog (qEY N):=
 zd (H:=qNd) (L:=qJ (qOr N)) (ts:=[qf,qf]) (T:=fun x=>qs9 N x.1 x.2.1) 0 qRk (qIP N) (qt (by kernel_rfl) trivial) (rgs (by kernel_rfl)) fun x=>by kernel_rfl
noncomputable def qPu:Code:=Tryz.f127.body.getD .skip
theorem qP1:FnF Tryz.prog 127 Tryz.f127 qPu:=⟨qk,by kernel_rfl,by kernel_rfl,by kernel_rfl⟩
def qzS:TH:={ live:=[(0,[0,2]),(1,[0,2,4]),(2,[0]),(3,[0,2]),(4,[0,2,8]),(5,[0,2]),(6,[0,2]),(7,[0,2,14]),(8,[0,2]),(9,[0,2]),(10,[2])] }
def qAd (N:Nat):List Ent:=[]
theorem qv8 (N:Nat):qU Tryz.prog (qAd N):=trivial
def qzT (z:Int):TV×THp:=(xi z,[])
def qlY (a0:Int):Tree (Int):=
 .cond (decide (((4294967296:Int))≤a0)) (
 .chk (0≤(32:Int)) <|
 .cond (decide (65536≤(Jn a0 32))) (
 .chk (0≤(16:Int)) <|
 .cond (decide (256≤(Jn (Jn a0 32) 16))) (
 .chk (0≤(8:Int)) <|
 let w1:Int:=IntKind.u8.wrap (Jn (Jn (Jn a0 32) 16) 8)
 .bind (qM qyy w1) fun e2=>
 .chk (qp ((e2.toNat:Nat):Int)) <|
 .chk (qp (((56:Int)) + ((e2.toNat:Nat):Int))) <|
 .ret (((56:Int)) + ((e2.toNat:Nat):Int))) <|
 .bind (qM qyy (IntKind.u8.wrap (Jn (Jn a0 32) 16))) fun e1=>
 .chk (qp ((e1.toNat:Nat):Int)) <|
 .chk (qp (((48:Int)) + ((e1.toNat:Nat):Int))) <|
 .ret (((48:Int)) + ((e1.toNat:Nat):Int))) <|
 .cond (decide (256≤(Jn a0 32))) (
 .chk (0≤(8:Int)) <|
 .bind (qM qyy (IntKind.u8.wrap (Jn (Jn a0 32) 8))) fun e1=>
 .chk (qp ((e1.toNat:Nat):Int)) <|
 .chk (qp (((40:Int)) + ((e1.toNat:Nat):Int))) <|
 .ret (((40:Int)) + ((e1.toNat:Nat):Int))) <|
 .bind (qM qyy (IntKind.u8.wrap (Jn a0 32))) fun e1=>
 .chk (qp ((e1.toNat:Nat):Int)) <|
 .chk (qp (((32:Int)) + ((e1.toNat:Nat):Int))) <|
 .ret (((32:Int)) + ((e1.toNat:Nat):Int))) <|
 .cond (decide (((65536:Int))≤a0)) (
 .chk (0≤(16:Int)) <|
 .cond (decide (256≤(Jn a0 16))) (
 .chk (0≤(8:Int)) <|
 .bind (qM qyy (IntKind.u8.wrap (Jn (Jn a0 16) 8))) fun e1=>
 .chk (qp ((e1.toNat:Nat):Int)) <|
 .chk (qp (((24:Int)) + ((e1.toNat:Nat):Int))) <|
 .ret (((24:Int)) + ((e1.toNat:Nat):Int))) <|
 .bind (qM qyy (IntKind.u8.wrap (Jn a0 16))) fun e1=>
 .chk (qp ((e1.toNat:Nat):Int)) <|
 .chk (qp (((16:Int)) + ((e1.toNat:Nat):Int))) <|
 .ret (((16:Int)) + ((e1.toNat:Nat):Int))) <|
 .cond (decide (((256:Int))≤a0)) (
 .chk (0≤(8:Int)) <|
 .bind (qM qyy (IntKind.u8.wrap (Jn a0 8))) fun e1=>
 .chk (qp ((e1.toNat:Nat):Int)) <|
 .chk (qp (((8:Int)) + ((e1.toNat:Nat):Int))) <|
 .ret (((8:Int)) + ((e1.toNat:Nat):Int))) <|
 .bind (qM qyy (IntKind.u8.wrap a0)) fun e1=>
 .chk (qp ((e1.toNat:Nat):Int)) <|
 .chk (qp (((0:Int)) + ((e1.toNat:Nat):Int))) <|
 .ret (((0:Int)) + ((e1.toNat:Nat):Int))
def qo6 (a0:Int):Option (Int):=(qlY a0).run some
def qzI:List (Nat×qw):=[]
def qlR:Ent:=smF ⟨127,[],[.x (.i .u64)],[],[]⟩ [(.i .u64)] (Int) (fun x=>qo6 x.1) cs1 fun _=>qzT
theorem qy1:zf Tryz.prog (qlR):=
 zd (H:=qzS) (L:=qJ (qzI)) (ts:=[(.i .u64)]) (T:=fun x=>qlY x.1) 0 qP1 (qv8 0) (qt (by kernel_rfl) trivial) (rg0 (by kernel_rfl)) fun x=>by kernel_rfl
noncomputable def qSC:Code:=Tryz.f93.body.getD .skip
theorem qRu:FnF Tryz.prog 93 Tryz.f93 qSC:=⟨qk,by kernel_rfl,by kernel_rfl,by kernel_rfl⟩
def qDH:TH:={ live:=[(0,[0]),(1,[2]),(2,[2])] }
def qEL (N:Nat):List Ent:=[qlR]
theorem qAx (N:Nat):qU Tryz.prog (qEL N):=⟨qy1,trivial⟩
def qC1 (z:Int):TV×THp:=(xi z,[])
def qpe (a0:Int):Tree (Int):=
 .bind (qo6 a0) fun r1=>
 .ret r1
def qgq (a0:Int):Option (Int):=(qpe a0).run some
def qEH:List (Nat×qw):=[]
def qoO:Ent:=smF ⟨93,[],[.x (.i .u64)],[],[]⟩ [(.i .u64)] (Int) (fun x=>qgq x.1) cs1 fun _=>qC1
theorem qCb:zf Tryz.prog (qoO):=
 zd (H:=qDH) (L:=qJ (qEH)) (ts:=[(.i .u64)]) (T:=fun x=>qpe x.1) 0 qRu (qAx 0) (qt (by kernel_rfl) trivial) (rg0 (by kernel_rfl)) fun x=>by kernel_rfl
noncomputable def qUf:Code:=Tryz.f57.body.getD .skip
theorem qSg:FnF Tryz.prog 57 Tryz.f57 qUf:=⟨qk,by kernel_rfl,by kernel_rfl,by kernel_rfl⟩
def qFe:TH:={ live:=[(0,[2,3]),(1,[4])] }
def qFp (N:Nat):List Ent:=[qcQ]
theorem qB2 (N:Nat):qU Tryz.prog (qFp N):=⟨qgw,trivial⟩
def qFH (z:Int):TV×THp:=(xi z,[])
def qsJ (a0:Vector UInt8 16) (a1:Vector UInt8 16):Tree (Int):=
 .bind (qbC a0.toList a1.toList) fun r1=>
 .ret r1
def qnv (a0:Vector UInt8 16) (a1:Vector UInt8 16):Option (Int):=(qsJ a0 a1).run some
def qFu:List (Nat×qw):=[]
def qsA:Ent:=smF ⟨57,[],[.x (.ba 16),.x (.ba 16)],[],[]⟩ [(.ba 16),(.ba 16)] (Int) (fun x=>qnv x.1 x.2.1) cs1 fun _=>qFH
theorem qC_:zf Tryz.prog (qsA):=
 zd (H:=qFe) (L:=qJ (qFu)) (ts:=[(.ba 16),(.ba 16)]) (T:=fun x=>qsJ x.1 x.2.1) 0 qSg (qB2 0) (qt (by kernel_rfl) trivial) (rg0 (by kernel_rfl)) fun x=>by kernel_rfl
noncomputable def qkx:Code:=Tryz.f118.body.getD .skip
theorem qOQ:FnF Tryz.prog 118 Tryz.f118 qkx:=⟨qk,by kernel_rfl,by kernel_rfl,by kernel_rfl⟩
def jQ:TH:={ live:=[(0,[0,1,2,3,8]),(1,[0,1,2,3,8,14]),(2,[0,1,2,3,8]),(3,[0,1,2,3,8,9]),(4,[0,1,2,3,8,9,34]),(5,[0,1,2,3,8,9]),(6,[0,1,2,3,8,9])],dec:=[21] }
def Jm (N:Nat):List Ent:=[qsA]
theorem Zn (N:Nat):qU Tryz.prog (Jm N):=⟨qC_,trivial⟩
abbrev vh:=Nat×Int×Int×Int
abbrev jc:=List (Vector UInt8 16)×Int×Bool
def jH (f:vh) (y:jc):Ex×TSt:=(.exit 2,⟨1,53,[75],[(0,.v 75 f.1),(1,xi f.2.1),(2,xi f.2.2.1),(3,.fn (.func 57) [] []),(8,xi f.2.2.2),(9,xi y.2.1),(34,xb y.2.2)],[(75,.vec false 16 (.sl 16 (.ba 16)) (y.1:List (Vector UInt8 16)))],false,[]⟩)
def qeb (N:Nat):List (Nat×qw):=[]
abbrev jA:=List (Vector UInt8 16)×Int
def XW:SP:=⟨1,53,[75],[(0,.v 75),(1,.x (.i .i64)),(2,.x (.i .i64)),(3,.fn 57 [] []),(8,.x (.i .i64)),(9,.x (.i .i64))],[(75,.vec false 16)],false,[]⟩
def qez (f:vh) (v:jA):TSt:=zq XW [dv (.sl 16 (.ba 16)) v.1,dv .nat f.1,dv (.i .i64) f.2.1,dv (.i .i64) f.2.2.1,dv (.i .i64) f.2.2.2,dv (.i .i64) v.2]
def jG (N:Nat) (s0_4:Nat) (s1_4:Int) (s2_4:Int) (s8_4:Int) (v:jA):Tree (jA⊕jc):=
 .cond (decide (s1_4 < v.2)) (
 .chk (0≤v.2∧v.2 < ((s0_4:Nat):Int)) <|
 .bind (jy v.1 s0_4 v.2.toNat) fun e1=>
 .chk (qp (v.2 - 1)) <|
 .chk (0≤(v.2 - 1)∧(v.2 - 1) < ((s0_4:Nat):Int)) <|
 .bind (jy v.1 s0_4 ((v.2 - 1).toNat)) fun e2=>
 .bind (qnv e1 e2) fun r3=>
 .cond (decide (r3 < ((0:Int)))) (
 .chk (qp (v.2 - 1)) <|
 .chk (qp (v.2 - 1)) <|
 .chk (0≤(v.2 - 1)∧(v.2 - 1) < ((s0_4:Nat):Int)) <|
 .bind (jy v.1 s0_4 ((v.2 - 1).toNat)) fun e4=>
 .chk (0≤v.2∧v.2 < ((s0_4:Nat):Int)) <|
 .bind (jy v.1 s0_4 v.2.toNat) fun e5=>
 .chk (0≤v.2∧v.2 < ((s0_4:Nat):Int)) <|
 .chk (qj5 v.1.length s0_4 v.2.toNat) <|
 .chk (0≤(v.2 - 1)∧(v.2 - 1) < ((s0_4:Nat):Int)) <|
 .chk (qj5 ((v.1.set v.2.toNat e4).length) s0_4 ((v.2 - 1).toNat)) <|
 .chk (qp (v.2 - 1)) <|
 .ret (.inl ((v.1.set v.2.toNat e4).set ((v.2 - 1).toNat) e5,v.2 - 1))) <|
 .ret (.inr (v.1,v.2,decide (r3 < ((0:Int)))))) <|
 .ret (.inr (v.1,v.2,false))
def We (N n:Nat) (f:vh) (v:jA):Option jc:=qQ (jG N f.1 f.2.1 f.2.2.1 f.2.2.2) some n v
theorem qeB (N:Nat) (f:vh) (n:Nat) (v:jA) (y:jc) (h:We N n f v=some y):LG Tryz.prog jQ 118 (qE (qE qkx 1) 4) (qez f v) (jH f y):=
 zj qk (E:=Jm N) (L:=qJ (qeb N)) (st:=jH f) (g:=some) (R:=jH f) (Zn N) (qt (by kernel_rfl) trivial) (rg0 (by kernel_rfl)) (fun v=>by kernel_rfl) (qP (st:=jH f) fun y=>by rfl) n v y h
def W3 (N:Nat) (s0_4:Nat) (s1_4:Int) (s2_4:Int) (s8_4:Int) (o_4:List (Vector UInt8 16)) (s9_4:Int):Option jc:=We N N (s0_4,s1_4,s2_4,s8_4) (o_4,s9_4)
def Wg (N:Nat):qw:=smL XW [(.sl 16 (.ba 16)),.nat,(.i .i64),(.i .i64),(.i .i64),(.i .i64)] jc (fun x=>W3 N x.2.1 x.2.2.1 x.2.2.2.1 x.2.2.2.2.1 x.1 x.2.2.2.2.2.1) cs1 fun x=>jH (x.2.1,x.2.2.1,x.2.2.2.1,x.2.2.2.2.1)
theorem qde (N:Nat):zZ Tryz.prog jQ 118 (qE (qE qkx 1) 4) (Wg N):=zp fun x z h=>qeB N (x.2.1,x.2.2.1,x.2.2.2.1,x.2.2.2.2.1) N (x.1,x.2.2.2.2.2.1) z h
abbrev vn:=Nat×Int×Int
abbrev jb:=List (Vector UInt8 16)×Int×Bool
def jF (f:vn) (y:jb):Ex×TSt:=(.exit 0,⟨1,53,[75],[(0,.v 75 f.1),(1,xi f.2.1),(2,xi f.2.2),(3,.fn (.func 57) [] []),(8,xi y.2.1),(14,xb y.2.2)],[(75,.vec false 16 (.sl 16 (.ba 16)) (y.1:List (Vector UInt8 16)))],false,[]⟩)
def qew (N:Nat):List (Nat×qw):=[(4,Wg N)]
abbrev jD:=List (Vector UInt8 16)×Int
def Wh:SP:=⟨1,53,[75],[(0,.v 75),(1,.x (.i .i64)),(2,.x (.i .i64)),(3,.fn 57 [] []),(8,.x (.i .i64))],[(75,.vec false 16)],false,[]⟩
def qef (f:vn) (v:jD):TSt:=zq Wh [dv (.sl 16 (.ba 16)) v.1,dv .nat f.1,dv (.i .i64) f.2.1,dv (.i .i64) f.2.2,dv (.i .i64) v.2]
def zQ (N:Nat) (s0_1:Nat) (s1_1:Int) (s2_1:Int) (v:jD):Tree (jD⊕jb):=
 .cond (decide (v.2 < s2_1)) (
 .bind (W3 N s0_1 s1_1 s2_1 v.2 v.1 v.2) fun z1=>
 .chk (qp (v.2 + 1)) <|
 .ret (.inl (z1.1,v.2 + 1))) <|
 .ret (.inr (v.1,v.2,decide (v.2 < s2_1)))
def Wc (N n:Nat) (f:vn) (v:jD):Option jb:=qQ (zQ N f.1 f.2.1 f.2.2) some n v
theorem qek (N:Nat) (f:vn) (n:Nat) (v:jD) (y:jb) (h:Wc N n f v=some y):LG Tryz.prog jQ 118 (qE qkx 1) (qef f v) (jF f y):=
 zj qk (E:=Jm N) (L:=qJ (qew N)) (st:=jF f) (g:=some) (R:=jF f) (Zn N) (qt (by kernel_rfl) ⟨qde N,trivial⟩) (rg0 (by kernel_rfl)) (fun v=>by kernel_rfl) (qP (st:=jF f) fun y=>by rfl) n v y h
def vK (N:Nat) (s0_1:Nat) (s1_1:Int) (s2_1:Int) (o_1:List (Vector UInt8 16)) (s8_1:Int):Option jb:=Wc N N (s0_1,s1_1,s2_1) (o_1,s8_1)
def Wk (N:Nat):qw:=smL Wh [(.sl 16 (.ba 16)),.nat,(.i .i64),(.i .i64),(.i .i64)] jb (fun x=>vK N x.2.1 x.2.2.1 x.2.2.2.1 x.1 x.2.2.2.2.1) cs1 fun x=>jF (x.2.1,x.2.2.1,x.2.2.2.1)
theorem qdv (N:Nat):zZ Tryz.prog jQ 118 (qE qkx 1) (Wk N):=zp fun x z h=>qek N (x.2.1,x.2.2.1,x.2.2.2.1) N (x.1,x.2.2.2.2.1) z h
def qgv (z:List (Vector UInt8 16)):TV×THp:=(.tup [],[(75,.vec false 16 (.sl 16 (.ba 16)) z)])
def vS (N:Nat) (a0:List (Vector UInt8 16)) (a1:Int) (a2:Int):Tree (List (Vector UInt8 16)):=
 .chk (qp (a1 + 1)) <|
 .bind (vK N a0.length a1 a2 a0 (a1 + 1)) fun z1=>
 .ret z1.1
def jf (N:Nat) (a0:List (Vector UInt8 16)) (a1:Int) (a2:Int):Option (List (Vector UInt8 16)):=(vS N a0 a1 a2).run some
def qgH (N:Nat):List (Nat×qw):=[(1,Wk N)]
def Yf (N:Nat):Ent:=smF ⟨118,[],[.vs 75,.x (.i .i64),.x (.i .i64),.fn 57 [] []],[],[(75,.vec false 16)]⟩ [(.sl 16 (.ba 16)),(.i .i64),(.i .i64)] (List (Vector UInt8 16)) (fun x=>jf N x.1 x.2.1 x.2.2.1) cs1 fun _=>qgv
theorem qfq (N:Nat):zf Tryz.prog (Yf N):=
 zd (H:=jQ) (L:=qJ (qgH N)) (ts:=[(.sl 16 (.ba 16)),(.i .i64),(.i .i64)]) (T:=fun x=>vS N x.1 x.2.1 x.2.2.1) 0 qOQ (Zn N) (qt (by kernel_rfl) ⟨qdv N,trivial⟩) (rg0 (by kernel_rfl)) fun x=>by kernel_rfl
noncomputable def qB7:Code:=Tryz.f92.body.getD .skip
theorem qRq:FnF Tryz.prog 92 Tryz.f92 qB7:=⟨qk,by kernel_rfl,by kernel_rfl,by kernel_rfl⟩
def Wv:TH:={ live:=[(0,[0,1,2,3,4,10]),(1,[0,1,2,3,4,10,11]),(2,[0,1,2,3,4,10,11,12]),(3,[0,1,2,3,4,10,11,12,25]),(5,[0,1,2,3,4,10,11,12,32]),(7,[0,1,2,3,4,10,11,12,39]),(8,[0,1,2,3,4,10,11,12]),(9,[0,1,2,3,4,10,11,12]),(10,[0,1,2,3,4,10,11,12,13,14]),(11,[0,1,2,3,4,10,11,12,13,14,56]),(12,[0,1,2,3,4,10,11,12,13]),(13,[0,1,2,3,4,10,11,12,13]),(14,[0,1,2,3,4,10,11,12,13,14]),(15,[0,1,2,3,4,10,11,12,13,75]),(16,[0,1,2,3,4,10,11,12,13,80]),(17,[0,1,2,3,4,10,11,12,13,97]),(18,[0,2,3,4,10,11,15]),(19,[0,1,2,3,4,10,11]),(20,[0,1,2,3,4,12,16,17]),(21,[0,1,2,3,4,11,12,16]),(22,[0,1,2,3,4,11,12,16,18,19]),(23,[0,1,2,3,4,11,16,18,19,20]),(24,[0,1,2,3,4,11,16,18,19,20,125]),(25,[0,1,2,3,4,10,11,16]),(26,[0,2,3,4,10,11,16]),(27,[0,1,2,3,4,10,11]),(28,[0,1,2,3,4,10,11,16]),(29,[0,1,3,4,10,11,16]),(30,[0,1,2,3,4,10,11])],dec:=[69,72,83],raw:=[118] }
def qbR (N:Nat):List Ent:=[Yf N]
theorem qac (N:Nat):qU Tryz.prog (qbR N):=⟨qfq N,trivial⟩
abbrev QQ:=List (Vector UInt8 16)×Int×Int×Int
abbrev jK:=List (Vector UInt8 16)
def vq (f:QQ) (y:jK):Ex×TSt:=(.ret,⟨1,148,[75],[],[(75,.vec false 16 (.sl 16 (.ba 16)) y)],false,[]⟩)
def qi0 (N:Nat):List (Nat×qw):=[]
abbrev vr:=Unit
def KG:SP:=⟨1,148,[75],[(0,.vs 75),(1,.x (.i .i64)),(2,.x (.i .i64)),(3,.x (.i .i64)),(4,.fn 57 [] []),(10,.k (.bc true)),(11,.k (.bc true))],[(75,.vec false 16)],false,[]⟩
def qi1 (f:QQ) (v:vr):TSt:=zq KG [dv (.sl 16 (.ba 16)) f.1,dv (.i .i64) f.2.1,dv (.i .i64) f.2.2.1,dv (.i .i64) f.2.2.2]
def QR (N:Nat) (o_2:List (Vector UInt8 16)) (s1_2:Int) (s2_2:Int) (s3_2:Int) (v:vr):Tree (vr⊕jK):=
 .chk (qp (s2_2 - s1_2)) <|
 .cond (decide ((s2_2 - s1_2)≤12)) (
 .bind (zV [(o_2.length,o_2.length)] (jf N o_2 s1_2 s2_2)) fun r1=>
 .ret (.inr r1)) <|
 .cond (decide (s3_2=((0:Int)))) (
 .chk (o_2.length=o_2.length) <|
 .no) <|
 .chk (o_2.length=o_2.length) <|
 .no
def KI (N n:Nat) (f:QQ) (v:vr):Option jK:=qQ (QR N f.1 f.2.1 f.2.2.1 f.2.2.2) some n v
theorem qiZ (N:Nat) (f:QQ) (n:Nat) (v:vr) (y:jK) (h:KI N n f v=some y):LG Tryz.prog Wv 92 (qE qB7 2) (qi1 f v) (vq f y):=
 zj qk (E:=qbR N) (L:=qJ (qi0 N)) (st:=vq f) (g:=some) (R:=vq f) (qac N) (qt (by kernel_rfl) trivial) (rg0 (by kernel_rfl)) (fun v=>by kernel_rfl) (qP (st:=vq f) fun y=>by rfl) n v y h
def XN (N:Nat) (o_2:List (Vector UInt8 16)) (s1_2:Int) (s2_2:Int) (s3_2:Int):Option jK:=KI N N (o_2,s1_2,s2_2,s3_2) ()
def KH (N:Nat):qw:=smL KG [(.sl 16 (.ba 16)),(.i .i64),(.i .i64),(.i .i64)] jK (fun x=>XN N x.1 x.2.1 x.2.2.1 x.2.2.2.1) cs1 fun x=>vq (x.1,x.2.1,x.2.2.1,x.2.2.2.1)
theorem qhX (N:Nat):zZ Tryz.prog Wv 92 (qE qB7 2) (KH N):=zp fun x z h=>qiZ N (x.1,x.2.1,x.2.2.1,x.2.2.2.1) N () z h
def qlv (z:List (Vector UInt8 16)):TV×THp:=(.tup [],[(75,.vec false 16 (.sl 16 (.ba 16)) z)])
def Ws (N:Nat) (a0:List (Vector UInt8 16)) (a1:Int) (a2:Int) (a3:Int):Tree (List (Vector UInt8 16)):=
 .bind (zV [(a0.length,a0.length)] (XN N a0 a1 a2 a3)) fun z1=>
 .ret z1
def Vh (N:Nat) (a0:List (Vector UInt8 16)) (a1:Int) (a2:Int) (a3:Int):Option (List (Vector UInt8 16)):=(Ws N a0 a1 a2 a3).run some
def qla (N:Nat):List (Nat×qw):=[(2,KH N)]
def qbJ (N:Nat):Ent:=smF ⟨92,[],[.vs 75,.x (.i .i64),.x (.i .i64),.x (.i .i64),.fn 57 [] []],[],[(75,.vec false 16)]⟩ [(.sl 16 (.ba 16)),(.i .i64),(.i .i64),(.i .i64)] (List (Vector UInt8 16)) (fun x=>Vh N x.1 x.2.1 x.2.2.1 x.2.2.2.1) cs1 fun _=>qlv
theorem qkr (N:Nat):zf Tryz.prog (qbJ N):=
 zd (H:=Wv) (L:=qJ (qla N)) (ts:=[(.sl 16 (.ba 16)),(.i .i64),(.i .i64),(.i .i64)]) (T:=fun x=>Ws N x.1 x.2.1 x.2.2.1 x.2.2.2.1) 0 qRq (qac N) (qt (by kernel_rfl) ⟨qhX N,trivial⟩) (rg0 (by kernel_rfl)) fun x=>by kernel_rfl
noncomputable def qSX:Code:=Tryz.f56.body.getD .skip
theorem qTQ:FnF Tryz.prog 56 Tryz.f56 qSX:=⟨qk,by kernel_rfl,by kernel_rfl,by kernel_rfl⟩
def qtP:TH:={ live:=[(0,[0,1,4])],raw:=[92] }
def qtc (N:Nat):List Ent:=[qoO,qbJ N]
theorem qpm (N:Nat):qU Tryz.prog (qtc N):=⟨qCb,qkr N,trivial⟩
def quG (z:List (Vector UInt8 16)):TV×THp:=(.tup [],[(75,.vec false 16 (.sl 16 (.ba 16)) z)])
def qbt (N:Nat) (a0:List (Vector UInt8 16)):Tree (List (Vector UInt8 16)):=
 let w1:Int:=IntKind.u64.wrap ((a0.length:Nat):Int)
 .bind (qgq w1) fun r2=>
 .bind (zV [(a0.length,a0.length)] (Vh N a0 0 ((a0.length:Nat):Int) r2)) fun r3=>
 .ret r3
def Y5 (N:Nat) (a0:List (Vector UInt8 16)):Option (List (Vector UInt8 16)):=(qbt N a0).run some
def qtD (N:Nat):List (Nat×qw):=[]
def qii (N:Nat):Ent:=smF ⟨56,[],[.vs 75,.fn 57 [] []],[],[(75,.vec false 16)]⟩ [(.sl 16 (.ba 16))] (List (Vector UInt8 16)) (fun x=>Y5 N x.1) cs1 fun _=>quG
theorem qsl (N:Nat):zf Tryz.prog (qii N):=
 zd (H:=qtP) (L:=qJ (qtD N)) (ts:=[(.sl 16 (.ba 16))]) (T:=fun x=>qbt N x.1) 0 qTQ (qpm N) (qt (by kernel_rfl) trivial) (rg0 (by kernel_rfl)) fun x=>by kernel_rfl
noncomputable def qnb:Code:=Tryz.f22.body.getD .skip
theorem qSF:FnF Tryz.prog 22 Tryz.f22 qnb:=⟨qk,by kernel_rfl,by kernel_rfl,by kernel_rfl⟩
def qfK:TH:={ live:=[(0,[2,3,4]),(1,[2,3,4,22]),(2,[4,5]),(3,[2,3,4,6]),(4,[2,3,4,6,7]),(5,[4,6,7,30,31,32]),(6,[4,6,7,30,31,32,33]),(7,[4,6,7,9,30,31,32]),(8,[4,6,7,9,10,11,30,31,32]),(9,[4,6,7,9,10,30,31,32,44]),(10,[4,6,7,9,30,31,32]),(11,[4,6,7,30,31,32]),(12,[4,6,7,30,31,32]),(13,[4,6,7,30,31,32]),(14,[4,6,7,67]),(15,[4,5]),(16,[4,6,7]),(17,[4,6,7,12]),(18,[4,6,12,71,72,73]),(19,[4,6,12,71,72,73,74]),(20,[4,6,12,14,71,72,73]),(21,[4,6,12,71,72,73]),(22,[4,6,12,71,72,73]),(23,[4,5])],dec:=[18],raw:=[56],nil:=[(0,[⟨.ob 40 [0],43,(.sl 19 qf)⟩]),(2,[⟨.ob 40 [0],43,(.sl 19 qf)⟩]),(4,[⟨.sl 7,75,(.sl 16 (.ba 16))⟩]),(8,[⟨.ob 100 [2],105,(.sl 4 qB)⟩]),(15,[⟨.ob 40 [0],43,(.sl 19 qf)⟩]),(17,[⟨.ob 120 [0],123,(.sl 19 qf)⟩])] }
def qpT (N:Nat):List Ent:=[qmb N,qi4 N,qEe,qEY N,qii N]
theorem qlo (N:Nat):qU Tryz.prog (qpT N):=⟨qqc N,quM N,qK7,qLi N,qsl N,trivial⟩
abbrev qeg:=List qa×List qa×Int
abbrev Ya:=List (Vector UInt8 16)×Nat×List (Vector UInt8 16×qa×Nat)×Int×Bool
def qaB (f:qeg) (y:Ya):Ex×TSt:=(.exit 0,⟨0,87,[],[(4,.p 40 [] 0),(6,.m 240),(7,.v 75 y.1.length),(30,.tv (.sl 19 qf) f.2.1),(31,xi f.2.2),(32,xi y.2.2.2.1),(33,xb y.2.2.2.2)],[(40,.cell false (.ag [.v 43 f.1.length])),(43,.vec false 19 (.sl 19 qf) f.1),(75,.vec false 16 (.sl 16 (.ba 16)) (y.1:List (Vector UInt8 16))),(240,.map y.2.1 (.ba 16) qf (y.2.2.1:List (Vector UInt8 16×qa×Nat)))],false,[]⟩)
def qFW (N:Nat):List (Nat×qw):=[]
abbrev qaw:=List (Vector UInt8 16)×Nat×List (Vector UInt8 16×qa×Nat)×Int
def qrI:SP:=⟨0,87,[],[(4,.k (.p 40 [] 0)),(6,.k (.m 240)),(7,.vs 75),(30,.x (.sl 19 qf)),(31,.x (.i .i64)),(32,.x (.i .i64))],[(40,.cell false (.ag [.vs 43])),(43,.vec false 19),(75,.vec false 16),(240,.map (.ba 16) qf)],false,[]⟩
def qFK (f:qeg) (v:qaw):TSt:=zq qrI [dv (.sl 19 qf) f.1,dv (.sl 16 (.ba 16)) v.1,dv .nat v.2.1,dv (qaR (.ba 16) qf) v.2.2.1,dv (.sl 19 qf) f.2.1,dv (.i .i64) f.2.2,dv (.i .i64) v.2.2.2]
def qaC (N:Nat) (o_6:List qa) (s30_6:List qa) (s31_6:Int) (v:qaw):Tree (qaw⊕Ya):=
 .cond (decide (v.2.2.2 < s31_6)) (
 .bind (qM s30_6 v.2.2.2) fun e1=>
 .opt (fnd (β:=qa) (.ba 16) (qa.ID e1) v.2.2.1) (
 .chk (zU v.1.length v.1.length ((v.1++[qa.ID e1]).length) 16) <|
 .bind (qt9 e1) fun r3=>
 .chk (qp (v.2.2.2 + 1)) <|
 .ret (.inl (v.1++[qa.ID e1],(J2 (.ba 16) (qa.ID e1) (qa.mk (qa.ID e1) (qa.qz e1) ((([]:List qd))++(qa.F e1))) v.2.1 v.2.2.1).1,(J2 (.ba 16) (qa.ID e1) (qa.mk (qa.ID e1) (qa.qz e1) ((([]:List qd))++(qa.F e1))) v.2.1 v.2.2.1).2,v.2.2.2 + 1))) fun e2=>
 .bind (qti N e2.1 e1) fun r3=>
 .chk (qp (v.2.2.2 + 1)) <|
 .ret (.inl (v.1,(J2 (.ba 16) (qa.ID e1) r3.1 v.2.1 v.2.2.1).1,(J2 (.ba 16) (qa.ID e1) r3.1 v.2.1 v.2.2.1).2,v.2.2.2 + 1))) <|
 .ret (.inr (v.1,v.2.1,v.2.2.1,v.2.2.2,decide (v.2.2.2 < s31_6)))
def qrW (N n:Nat) (f:qeg) (v:qaw):Option Ya:=qQ (qaC N f.1 f.2.1 f.2.2) some n v
theorem qFR (N:Nat) (f:qeg) (n:Nat) (v:qaw) (y:Ya) (h:qrW N n f v=some y):LG Tryz.prog qfK 22 (qE qnb 6) (qFK f v) (qaB f y):=
 zj qk (E:=qpT N) (L:=qJ (qFW N)) (st:=qaB f) (g:=some) (R:=qaB f) (qlo N) (qt (by kernel_rfl) trivial) (rg0 (by kernel_rfl)) (fun v=>by kernel_rfl) (qP (st:=qaB f) fun y=>by rfl) n v y h
def qm2 (N:Nat) (o_6:List qa) (s30_6:List qa) (s31_6:Int) (o_6_2:List (Vector UInt8 16)) (o_6_3:Nat) (o_6_4:List (Vector UInt8 16×qa×Nat)) (s32_6:Int):Option Ya:=qrW N N (o_6,s30_6,s31_6) (o_6_2,o_6_3,o_6_4,s32_6)
def qr8 (N:Nat):qw:=smL qrI [(.sl 19 qf),(.sl 16 (.ba 16)),.nat,(qaR (.ba 16) qf),(.sl 19 qf),(.i .i64),(.i .i64)] Ya (fun x=>qm2 N x.1 x.2.2.2.2.1 x.2.2.2.2.2.1 x.2.1 x.2.2.1 x.2.2.2.1 x.2.2.2.2.2.2.1) cs1 fun x=>qaB (x.1,x.2.2.2.2.1,x.2.2.2.2.2.1)
theorem qDm (N:Nat):zZ Tryz.prog qfK 22 (qE qnb 6) (qr8 N):=zp fun x z h=>qFR N (x.1,x.2.2.2.2.1,x.2.2.2.2.2.1) N (x.2.1,x.2.2.1,x.2.2.2.1,x.2.2.2.2.2.2.1) z h
abbrev qcU:=List qa×List (Vector UInt8 16)×Nat×List (Vector UInt8 16×qa×Nat)×Nat×Int
abbrev Wd:=List qa×Int×Bool
def Y4 (f:qcU) (y:Wd):Ex×TSt:=(.exit 2,⟨0,87,[],[(4,.p 40 [] 0),(6,.m 240),(12,.p 120 [] 0),(71,.v 75 f.2.2.2.2.1),(72,xi f.2.2.2.2.2),(73,xi y.2.1),(74,xb y.2.2)],[(40,.cell false (.ag [.v 43 f.1.length])),(43,.vec false 19 (.sl 19 qf) f.1),(75,.vec false 16 (.sl 16 (.ba 16)) f.2.1),(120,.cell false (.ag [.v 123 y.1.length])),(123,.vec false 19 (.sl 19 qf) (y.1:List qa)),(240,.map f.2.2.1 (.ba 16) qf f.2.2.2.1)],false,[]⟩)
def qDE (N:Nat):List (Nat×qw):=[]
abbrev Y6:=List qa×Int
def qoU:SP:=⟨0,87,[],[(4,.k (.p 40 [] 0)),(6,.k (.m 240)),(12,.k (.p 120 [] 0)),(71,.v 75),(72,.x (.i .i64)),(73,.x (.i .i64))],[(40,.cell false (.ag [.vs 43])),(43,.vec false 19),(75,.vec false 16),(120,.cell false (.ag [.vs 123])),(123,.vec false 19),(240,.map (.ba 16) qf)],false,[]⟩
def qEo (f:qcU) (v:Y6):TSt:=zq qoU [dv (.sl 19 qf) f.1,dv (.sl 16 (.ba 16)) f.2.1,dv (.sl 19 qf) v.1,dv .nat f.2.2.1,dv (qaR (.ba 16) qf) f.2.2.2.1,dv .nat f.2.2.2.2.1,dv (.i .i64) f.2.2.2.2.2,dv (.i .i64) v.2]
def qc4 (N:Nat) (o_19:List qa) (o_19_2:List (Vector UInt8 16)) (o_19_4:Nat) (o_19_5:List (Vector UInt8 16×qa×Nat)) (s71_19:Nat) (s72_19:Int) (v:Y6):Tree (Y6⊕Wd):=
 .cond (decide (v.2 < s72_19)) (
 .chk (0≤v.2∧v.2 < ((s71_19:Nat):Int)) <|
 .bind (jy o_19_2 s71_19 v.2.toNat) fun e1=>
 .opt (fnd (β:=qa) (.ba 16) e1 o_19_5) (
 .chk (zU v.1.length v.1.length ((v.1++[qa.mk ((Vector.replicate 16 0)) (qc.mk 0 0) []]).length) 56) <|
 .chk (qp (v.2 + 1)) <|
 .ret (.inl (v.1++[qa.mk ((Vector.replicate 16 0)) (qc.mk 0 0) []],v.2 + 1))) fun e2=>
 .chk (zU v.1.length v.1.length ((v.1++[e2.1]).length) 56) <|
 .chk (qp (v.2 + 1)) <|
 .ret (.inl (v.1++[e2.1],v.2 + 1))) <|
 .ret (.inr (v.1,v.2,decide (v.2 < s72_19)))
def qoV (N n:Nat) (f:qcU) (v:Y6):Option Wd:=qQ (qc4 N f.1 f.2.1 f.2.2.1 f.2.2.2.1 f.2.2.2.2.1 f.2.2.2.2.2) some n v
theorem qEw (N:Nat) (f:qcU) (n:Nat) (v:Y6) (y:Wd) (h:qoV N n f v=some y):LG Tryz.prog qfK 22 (qE qnb 19) (qEo f v) (Y4 f y):=
 zj qk (E:=qpT N) (L:=qJ (qDE N)) (st:=Y4 f) (g:=some) (R:=Y4 f) (qlo N) (qt (by kernel_rfl) trivial) (rg0 (by kernel_rfl)) (fun v=>by kernel_rfl) (qP (st:=Y4 f) fun y=>by rfl) n v y h
def qlh (N:Nat) (o_19:List qa) (o_19_2:List (Vector UInt8 16)) (o_19_4:Nat) (o_19_5:List (Vector UInt8 16×qa×Nat)) (s71_19:Nat) (s72_19:Int) (o_19_3:List qa) (s73_19:Int):Option Wd:=qoV N N (o_19,o_19_2,o_19_4,o_19_5,s71_19,s72_19) (o_19_3,s73_19)
def qo9 (N:Nat):qw:=smL qoU [(.sl 19 qf),(.sl 16 (.ba 16)),(.sl 19 qf),.nat,(qaR (.ba 16) qf),.nat,(.i .i64),(.i .i64)] Wd (fun x=>qlh N x.1 x.2.1 x.2.2.2.1 x.2.2.2.2.1 x.2.2.2.2.2.1 x.2.2.2.2.2.2.1 x.2.2.1 x.2.2.2.2.2.2.2.1) cs1 fun x=>Y4 (x.1,x.2.1,x.2.2.2.1,x.2.2.2.2.1,x.2.2.2.2.2.1,x.2.2.2.2.2.2.1)
theorem qB4 (N:Nat):zZ Tryz.prog qfK 22 (qE qnb 19) (qo9 N):=zp fun x z h=>qEw N (x.1,x.2.1,x.2.2.2.1,x.2.2.2.2.1,x.2.2.2.2.2.1,x.2.2.2.2.2.2.1) N (x.2.2.1,x.2.2.2.2.2.2.2.1) z h
def qLD (z:qb×Int):TV×THp:=(.tup [.tv qj (z.1:qb),xi z.2],[])
def qj9 (N:Nat) (a0:qb) (a1:qb):Tree (qb×Int):=
 .bind (qdZ N a0) fun r1=>
 .cond (!r1) (
 .chk (0=0) <|
 .ret (qb.mk [],1)) <|
 .bind (qdZ N a1) fun r2=>
 .cond (!r2) (
 .chk (0=0) <|
 .ret (qb.mk [],1)) <|
 .bind (K1 N [qb.R a0,qb.R a1]) fun r3=>
 .bind (zV [(([]:List qa).length,0),(([]:List (Vector UInt8 16)).length,0)] (qm2 N [] r3 ((r3.length:Nat):Int) [] 0 [] 0)) fun z4=>
 .cond (decide (((10:Int)) < ((z4.1.length:Nat):Int))) (
 .chk (0=0) <|
 .ret (qb.mk [],4)) <|
 .bind (zV [(z4.1.length,z4.1.length)] (Y5 N z4.1)) fun r5=>
 .bind (zV [(([]:List qa).length,0),(([]:List qa).length,0)] (qlh N [] r5 z4.2.1 z4.2.2.1 z4.1.length ((z4.1.length:Nat):Int) [] 0)) fun z6=>
 .chk (z6.1.length=z6.1.length) <|
 .ret (qb.mk z6.1,0)
def Y8 (N:Nat) (a0:qb) (a1:qb):Option (qb×Int):=(qj9 N a0 a1).run some
def qKQ (N:Nat):List (Nat×qw):=[(6,qr8 N),(19,qo9 N)]
def qAL (N:Nat):Ent:=smF ⟨22,[],[.x qj,.x qj],[],[]⟩ [qj,qj] (qb×Int) (fun x=>Y8 N x.1 x.2.1) cs1 fun _=>qLD
theorem qIw (N:Nat):zf Tryz.prog (qAL N):=
 zd (H:=qfK) (L:=qJ (qKQ N)) (ts:=[qj,qj]) (T:=fun x=>qj9 N x.1 x.2.1) 0 qSF (qlo N) (qt (by kernel_rfl) ⟨qDm N,qB4 N,trivial⟩) (rg0 (by kernel_rfl)) fun x=>by kernel_rfl
noncomputable def qCi:Code:=Tryz.f13.body.getD .skip
theorem qTz:FnF Tryz.prog 13 Tryz.f13 qCi:=⟨qk,by kernel_rfl,by kernel_rfl,by kernel_rfl⟩
def qqp:TH:={ live:=[(0,[2,3,4]),(1,[2,3,4,6]),(2,[2,3,4,6,39]),(3,[4,5]),(4,[2,4,47,48,49]),(5,[2,4,47,48,49,50]),(6,[2,4,8,47,48,49]),(7,[2,4,8,47,48,49,54]),(8,[2,4,9,10,47,48,49]),(9,[2,4,9,10,47,48,49,64]),(10,[4,5]),(11,[2,4,47,48,49]),(12,[2,4,47,48,49]),(13,[4,5])],dec:=[19,23,29,34],nil:=[(0,[⟨.ob 40 [0],43,(.sl 19 qf)⟩]),(3,[⟨.ob 40 [0],43,(.sl 19 qf)⟩]),(10,[⟨.ob 40 [0],43,(.sl 19 qf)⟩])] }
def qA2 (N:Nat):List Ent:=[qmb N,qh8,qb3,qo4 N,qAL N]
theorem qu7 (N:Nat):qU Tryz.prog (qA2 N):=⟨qqc N,qlz,qds,qtE N,qIw N,trivial⟩
abbrev qee:=List qa×List qa×Int
abbrev Yc:=(qb×Int×Bool)⊕Int
def qar (f:qee):Yc→Ex×TSt
 | .inl y=>(.exit 0,⟨0,70,[],[(2,.p 20 [] 0),(4,.p 40 [] 0),(47,.tv (.sl 19 qf) f.2.1),(48,xi f.2.2),(49,xi y.2.1),(50,xb y.2.2)],[(20,.cell false (.tv qj (y.1:qb))),(40,.cell false (.ag [.v 43 f.1.length])),(43,.vec false 19 (.sl 19 qf) f.1)],false,[]⟩)
 | .inr y=>(.ret,⟨0,70,[],[(4,.p 40 [] 0),(5,xi y)],[(40,.cell false (.ag [.v 43 0])),(43,.vec false 19 (.sl 19 qf) ([]:List qa))],false,[]⟩)
def qFo (N:Nat):List (Nat×qw):=[]
abbrev K5:=qb×Int
def qsN:SP:=⟨0,70,[],[(2,.k (.p 20 [] 0)),(4,.k (.p 40 [] 0)),(47,.x (.sl 19 qf)),(48,.x (.i .i64)),(49,.x (.i .i64))],[(20,.cell false (.x qj)),(40,.cell false (.ag [.vs 43])),(43,.vec false 19)],false,[]⟩
def qFT (f:qee) (v:K5):TSt:=zq qsN [dv (.sl 19 qf) f.1,dv qj v.1,dv (.sl 19 qf) f.2.1,dv (.i .i64) f.2.2,dv (.i .i64) v.2]
def qab (N:Nat) (o_5:List qa) (s47_5:List qa) (s48_5:Int) (v:K5):Tree (K5⊕Yc):=
 .cond (decide (v.2 < s48_5)) (
 .bind (qM s47_5 v.2) fun e1=>
 .bind (J9 e1) fun r2=>
 .cond r2 (
 .chk (qp (v.2 + 1)) <|
 .ret (.inl (v.1,v.2 + 1))) <|
 .bind (Y8 N v.1 (qb.mk [e1])) fun r3=>
 .cond (!decide (r3.2=0)) (
 .ret (.inr (.inr r3.2))) <|
 .chk (qp (v.2 + 1)) <|
 .ret (.inl (r3.1,v.2 + 1))) <|
 .ret (.inr (.inl (v.1,v.2,decide (v.2 < s48_5))))
def qsg (N n:Nat) (f:qee) (v:K5):Option Yc:=qQ (qab N f.1 f.2.1 f.2.2) some n v
theorem qF1 (N:Nat) (f:qee) (n:Nat) (v:K5) (y:Yc) (h:qsg N n f v=some y):LG Tryz.prog qqp 13 (qE qCi 5) (qFT f v) (qar f y):=
 zj qk (E:=qA2 N) (L:=qJ (qFo N)) (st:=qar f) (g:=some) (R:=qar f) (qu7 N) (qt (by kernel_rfl) trivial) (rg0 (by kernel_rfl)) (fun v=>by kernel_rfl) (qP (st:=qar f) fun y=>by rcases y with _ | _<;>rfl) n v y h
def K6 (N:Nat) (o_5:List qa) (s47_5:List qa) (s48_5:Int) (o_5_2:qb) (s49_5:Int):Option Yc:=qsg N N (o_5,s47_5,s48_5) (o_5_2,s49_5)
def qsd (N:Nat):qw:=smL qsN [(.sl 19 qf),qj,(.sl 19 qf),(.i .i64),(.i .i64)] Yc (fun x=>K6 N x.1 x.2.2.1 x.2.2.2.1 x.2.1 x.2.2.2.2.1) (csS cs1) fun x=>qar (x.1,x.2.2.1,x.2.2.2.1)
theorem qCX (N:Nat):zZ Tryz.prog qqp 13 (qE qCi 5) (qsd N):=zp fun x z h=>qF1 N (x.1,x.2.2.1,x.2.2.2.1) N (x.2.1,x.2.2.2.2.1) z h
def qLl (z:qb×Int):TV×THp:=(.tup [.tv qj (z.1:qb),xi z.2],[])
def qq2 (N:Nat) (a0:qb) (a1:qa):Tree (qb×Int):=
 .bind (qdZ N a0) fun r1=>
 .cond (!r1) (
 .chk (0=0) <|
 .ret (qb.mk [],1)) <|
 .bind (J9 a1) fun r2=>
 .cond r2 (
 .chk (0=0) <|
 .ret (qb.mk [],1)) <|
 .bind (qaF (qa.qz a1)) fun r3=>
 .cond (!r3) (
 .chk (0=0) <|
 .ret (qb.mk [],1)) <|
 .cond (decide (((0:Int)) < (((qa.F a1).length:Nat):Int))) (
 .bind (qjK N (qa.mk (qa.ID a1) (qc.mk 0 0) (qa.F a1))) fun r4=>
 .cond (!r4) (
 .chk (0=0) <|
 .ret (qb.mk [],1)) <|
 .bind (zV [(([]:List qa).length,0)] (K6 N [] [qa.mk (qa.ID a1) (qa.qz a1) [],qa.mk (qa.ID a1) (qc.mk 0 0) (qa.F a1)] (((([qa.mk (qa.ID a1) (qa.qz a1) [],qa.mk (qa.ID a1) (qc.mk 0 0) (qa.F a1)]:List qa)).length:Nat):Int) a0 0)) fun z5=>
 .sum z5 (fun z6=>
 .ret (z6.1,0)) fun z6=>
 .chk (0=0) <|
 .ret (qb.mk [],z6)) <|
 .bind (zV [(([]:List qa).length,0)] (K6 N [] [qa.mk (qa.ID a1) (qa.qz a1) [],qa.mk (qa.ID a1) (qc.mk 0 0) (qa.F a1)] (((([qa.mk (qa.ID a1) (qa.qz a1) [],qa.mk (qa.ID a1) (qc.mk 0 0) (qa.F a1)]:List qa)).length:Nat):Int) a0 0)) fun z4=>
 .sum z4 (fun z5=>
 .ret (z5.1,0)) fun z5=>
 .chk (0=0) <|
 .ret (qb.mk [],z5)
def qo5 (N:Nat) (a0:qb) (a1:qa):Option (qb×Int):=(qq2 N a0 a1).run some
def qLQ (N:Nat):List (Nat×qw):=[(5,qsd N)]
def qAQ (N:Nat):Ent:=smF ⟨13,[],[.x qj,.x qf],[],[]⟩ [qj,qf] (qb×Int) (fun x=>qo5 N x.1 x.2.1) cs1 fun _=>qLl
theorem qKC (N:Nat):zf Tryz.prog (qAQ N):=
 zd (H:=qqp) (L:=qJ (qLQ N)) (ts:=[qj,qf]) (T:=fun x=>qq2 N x.1 x.2.1) 0 qTz (qu7 N) (qt (by kernel_rfl) ⟨qCX N,trivial⟩) (rg0 (by kernel_rfl)) fun x=>by kernel_rfl
noncomputable def qSH:Code:=Tryz.f37.body.getD .skip
theorem qRv:FnF Tryz.prog 37 Tryz.f37 qSH:=⟨qk,by kernel_rfl,by kernel_rfl,by kernel_rfl⟩
def qyl:TH:={ live:=[(0,[1]),(1,[1,5]),(2,[2]),(3,[2])],dec:=[12,17,22] }
def qx3 (N:Nat):List Ent:=[]
theorem qtZ (N:Nat):qU Tryz.prog (qx3 N):=trivial
def qy7 (z:Bool):TV×THp:=(xb z,[])
def qd2 (a0:qc):Tree (Bool):=
 .cond (decide ((qc.N a0)=((0:Int)))) (
 .ret (decide ((qc.Rep a0)=((0:Int))))) <|
 .cond (decide (((1:Int))≤(qc.N a0))) (
 .cond (decide ((qc.N a0)≤((1099511627776:Int)))) (
 .cond (decide (((0:Int))≤(qc.Rep a0))) (
 .ret (decide ((qc.Rep a0) < ((8:Int))))) <|
 .ret false) <|
 .ret false) <|
 .ret false
def QV (a0:qc):Option (Bool):=(qd2 a0).run some
def qxI:List (Nat×qw):=[]
def JH:Ent:=smF ⟨37,[],[.x qh],[],[]⟩ [qh] (Bool) (fun x=>QV x.1) cs1 fun _=>qy7
theorem VZ:zf Tryz.prog (JH):=
 zd (H:=qyl) (L:=qJ (qxI)) (ts:=[qh]) (T:=fun x=>qd2 x.1) 0 qRv (qtZ 0) (qt (by kernel_rfl) trivial) (rg0 (by kernel_rfl)) fun x=>by kernel_rfl
noncomputable def qRG:Code:=Tryz.f76.body.getD .skip
theorem qSe:FnF Tryz.prog 76 Tryz.f76 qRG:=⟨qk,by kernel_rfl,by kernel_rfl,by kernel_rfl⟩
def qwD:TH:={ live:=[(0,[1]),(1,[1,3]),(2,[2])],dec:=[8,14] }
def qyX (N:Nat):List Ent:=[JH]
theorem qtz (N:Nat):qU Tryz.prog (qyX N):=⟨VZ,trivial⟩
def qwI (z:Bool):TV×THp:=(xb z,[])
def qc_ (a0:qe):Tree (Bool):=
 .bind (QV (qe.S a0)) fun r1=>
 .cond r1 (
 .cond (decide (((0:Int)) < (qc.N (qe.S a0)))) (
 .ret (decide ((((qe.V a0).length:Nat):Int)≤((200:Int))))) <|
 .ret false) <|
 .ret false
def qbd (a0:qe):Option (Bool):=(qc_ a0).run some
def qwP:List (Nat×qw):=[]
def qkN:Ent:=smF ⟨76,[],[.x qq],[],[]⟩ [qq] (Bool) (fun x=>qbd x.1) cs1 fun _=>qwI
theorem qwp:zf Tryz.prog (qkN):=
 zd (H:=qwD) (L:=qJ (qwP)) (ts:=[qq]) (T:=fun x=>qc_ x.1) 0 qSe (qtz 0) (qt (by kernel_rfl) trivial) (rg0 (by kernel_rfl)) fun x=>by kernel_rfl
noncomputable def qTM:Code:=Tryz.f44.body.getD .skip
theorem qRd:FnF Tryz.prog 44 Tryz.f44 qTM:=⟨qk,by kernel_rfl,by kernel_rfl,by kernel_rfl⟩
def qwn:TH:={ live:=[(0,[2,3]),(1,[4])],dec:=[10,16] }
def qvS (N:Nat):List Ent:=[]
theorem qsE (N:Nat):qU Tryz.prog (qvS N):=trivial
def qvZ (z:Bool):TV×THp:=(xb z,[])
def qcC (a0:qc) (a1:qc):Tree (Bool):=
 .cond (decide ((qc.N a0) < (qc.N a1))) (
 .ret true) <|
 .cond (decide ((qc.N a0)=(qc.N a1))) (
 .ret (decide ((qc.Rep a0) < (qc.Rep a1)))) <|
 .ret false
def zN (a0:qc) (a1:qc):Option (Bool):=(qcC a0 a1).run some
def qvp:List (Nat×qw):=[]
def vu:Ent:=smF ⟨44,[],[.x qh,.x qh],[],[]⟩ [qh,qh] (Bool) (fun x=>zN x.1 x.2.1) cs1 fun _=>qvZ
theorem vV:zf Tryz.prog (vu):=
 zd (H:=qwn) (L:=qJ (qvp)) (ts:=[qh,qh]) (T:=fun x=>qcC x.1 x.2.1) 0 qRd (qsE 0) (qt (by kernel_rfl) trivial) (rg0 (by kernel_rfl)) fun x=>by kernel_rfl
noncomputable def qCE:Code:=Tryz.f38.body.getD .skip
theorem qSJ:FnF Tryz.prog 38 Tryz.f38 qCE:=⟨qk,by kernel_rfl,by kernel_rfl,by kernel_rfl⟩
def qd1:TH:={ live:=[(0,[1]),(1,[1,3]),(2,[1,25]),(3,[2]),(4,[1,4]),(5,[1,4,5]),(6,[1,4,5,30]),(7,[1,4,5]),(8,[1,4,5,6]),(9,[1,4,5,6,7]),(10,[1,4,5,6,7,8]),(11,[1,5,6,63]),(12,[2]),(13,[1,4,5]),(14,[2])],dec:=[14,19,49,53,59] }
def qky (N:Nat):List Ent:=[JH,qkN,vu]
theorem qiq (N:Nat):qU Tryz.prog (qky N):=⟨VZ,qwp,vV,trivial⟩
abbrev Wa:=qa
abbrev QN:=Unit⊕(Int×Int×Bool)
def JP (f:Wa):QN→Ex×TSt
 | .inl y=>(.ret,⟨0,66,[],[(2,.bc false)],[],false,[]⟩)
 | .inr y=>(.exit 0,⟨0,66,[],[(1,.p 10 [] 0),(4,xi y.1),(5,xi y.2.1),(30,xb y.2.2)],[(10,.cell false (.tv qf f))],false,[]⟩)
def qrZ (N:Nat):List (Nat×qw):=[]
abbrev JS:=Int×Int
def qgJ:SP:=⟨0,66,[],[(1,.k (.p 10 [] 0)),(4,.x (.i .i64)),(5,.x (.i .i64))],[(10,.cell false (.x qf))],false,[]⟩
def qso (f:Wa) (v:JS):TSt:=zq qgJ [dv qf f,dv (.i .i64) v.1,dv (.i .i64) v.2]
def Wi (N:Nat) (o_6:qa) (v:JS):Tree (JS⊕QN):=
 .cond (decide (v.2 < (((qa.F o_6).length:Nat):Int))) (
 .bind (qM (qa.F o_6) v.2) fun e1=>
 .bind (qbd (qd.C e1)) fun r2=>
 .bind (zN (qa.qz o_6) (qe.S (qd.C e1))) fun r3=>
 .cond (!r2) (
 .ret (.inr (.inl ()))) <|
 .cond (!r3) (
 .ret (.inr (.inl ()))) <|
 .cond (decide ((qd.No e1)≤v.1)) (
 .ret (.inr (.inl ()))) <|
 .cond (decide (((8:Int))≤(qd.No e1))) (
 .ret (.inr (.inl ()))) <|
 .chk (qp (v.2 + 1)) <|
 .ret (.inl (qd.No e1,v.2 + 1))) <|
 .ret (.inr (.inr ((v.1,v.2,decide (v.2 < (((qa.F o_6).length:Nat):Int))))))
def qgO (N n:Nat) (f:Wa) (v:JS):Option QN:=qQ (Wi N f) some n v
theorem qrp (N:Nat) (f:Wa) (n:Nat) (v:JS) (y:QN) (h:qgO N n f v=some y):LG Tryz.prog qd1 38 (qE qCE 6) (qso f v) (JP f y):=
 zj qk (E:=qky N) (L:=qJ (qrZ N)) (st:=JP f) (g:=some) (R:=JP f) (qiq N) (qt (by kernel_rfl) trivial) (rg0 (by kernel_rfl)) (fun v=>by kernel_rfl) (qP (st:=JP f) fun y=>by rcases y with _ | _<;>rfl) n v y h
def Yy (N:Nat) (o_6:qa) (s4_6:Int) (s5_6:Int):Option QN:=qgO N N o_6 (s4_6,s5_6)
def qg2 (N:Nat):qw:=smL qgJ [qf,(.i .i64),(.i .i64)] QN (fun x=>Yy N x.1 x.2.1 x.2.2.1) (csS cs1) fun x=>JP x.1
theorem qpL (N:Nat):zZ Tryz.prog qd1 38 (qE qCE 6) (qg2 N):=zp fun x z h=>qrp N x.1 N (x.2.1,x.2.2.1) z h
def qxq (z:Bool):TV×THp:=(xb z,[])
def qc6 (N:Nat) (a0:qa):Tree (Bool):=
 .bind (QV (qa.qz a0)) fun r1=>
 .cond (!r1) (
 .ret false) <|
 .cond (decide ((((qa.F a0).length:Nat):Int)=((0:Int)))) (
 .cond (eqE qh (qa.qz a0) (qc.mk 0 0)) (
 .ret false) <|
 .bind (Yy N a0 (-1) 0) fun z2=>
 .sum z2 (fun z3=>
 .ret false) fun z3=>
 .ret true) <|
 .bind (Yy N a0 (-1) 0) fun z2=>
 .sum z2 (fun z3=>
 .ret false) fun z3=>
 .ret true
def Jl (N:Nat) (a0:qa):Option (Bool):=(qc6 N a0).run some
def qw1 (N:Nat):List (Nat×qw):=[(6,qg2 N)]
def Y7 (N:Nat):Ent:=smF ⟨38,[],[.x qf],[],[]⟩ [qf] (Bool) (fun x=>Jl N x.1) cs1 fun _=>qxq
theorem qcy (N:Nat):zf Tryz.prog (Y7 N):=
 zd (H:=qd1) (L:=qJ (qw1 N)) (ts:=[qf]) (T:=fun x=>qc6 N x.1) 0 qSJ (qiq N) (qt (by kernel_rfl) ⟨qpL N,trivial⟩) (rg0 (by kernel_rfl)) fun x=>by kernel_rfl
noncomputable def qCA:Code:=Tryz.f75.body.getD .skip
theorem qTJ:FnF Tryz.prog 75 Tryz.f75 qCA:=⟨qk,by kernel_rfl,by kernel_rfl,by kernel_rfl⟩
def qcH:TH:={ live:=[(0,[2,3]),(1,[2,3,5]),(2,[2,3,5,7]),(3,[2,3,5]),(4,[2,3,5,16]),(5,[4]),(6,[4])] }
def qjl (N:Nat):List Ent:=[]
theorem qhB (N:Nat):qU Tryz.prog (qjl N):=trivial
abbrev Xo:=Vector UInt8 16×Vector UInt8 16
abbrev Qd:=Bool⊕(Int×Bool)
def ZJ (f:Xo):Qd→Ex×TSt
 | .inl y=>(.ret,⟨0,24,[],[(4,xb y)],[],false,[]⟩)
 | .inr y=>(.exit 0,⟨0,24,[],[(2,.p 20 [] 0),(3,.p 30 [] 0),(5,xi y.1),(7,xb y.2)],[(20,.cell false (.tv (.ba 16) f.1)),(30,.cell false (.tv (.ba 16) f.2))],false,[]⟩)
def qq5 (N:Nat):List (Nat×qw):=[]
abbrev Z6:=Int
def qf4:SP:=⟨0,24,[],[(2,.k (.p 20 [] 0)),(3,.k (.p 30 [] 0)),(5,.x (.i .i64))],[(20,.cell false (.x (.ba 16))),(30,.cell false (.x (.ba 16)))],false,[]⟩
def qpV (f:Xo) (v:Z6):TSt:=zq qf4 [dv (.ba 16) f.1,dv (.ba 16) f.2,dv (.i .i64) v]
def Z7 (N:Nat) (o_2:Vector UInt8 16) (o_2_2:Vector UInt8 16) (v:Z6):Tree (Z6⊕Qd):=
 .cond (decide (v < ((16:Int)))) (
 .chk (0≤v∧v < ((16:Nat):Int)) <|
 .chk (v.toNat < 16) <|
 .chk (0≤v∧v < ((16:Nat):Int)) <|
 .chk (v.toNat < 16) <|
 .cond (!decide ((((o_2.toList.getD v.toNat 0).toNat:Nat):Int)=(((o_2_2.toList.getD v.toNat 0).toNat:Nat):Int))) (
 .chk (0≤v∧v < ((16:Nat):Int)) <|
 .chk (v.toNat < 16) <|
 .chk (0≤v∧v < ((16:Nat):Int)) <|
 .chk (v.toNat < 16) <|
 .ret (.inr (.inl (decide ((((o_2.toList.getD v.toNat 0).toNat:Nat):Int) < (((o_2_2.toList.getD v.toNat 0).toNat:Nat):Int)))))) <|
 .chk (qp (v + 1)) <|
 .ret (.inl (v + 1))) <|
 .ret (.inr (.inr ((v,decide (v < ((16:Int)))))))
def qf0 (N n:Nat) (f:Xo) (v:Z6):Option Qd:=qQ (Z7 N f.1 f.2) some n v
theorem qpE (N:Nat) (f:Xo) (n:Nat) (v:Z6) (y:Qd) (h:qf0 N n f v=some y):LG Tryz.prog qcH 75 (qE qCA 2) (qpV f v) (ZJ f y):=
 zj qk (E:=qjl N) (L:=qJ (qq5 N)) (st:=ZJ f) (g:=some) (R:=ZJ f) (qhB N) (qt (by kernel_rfl) trivial) (rg0 (by kernel_rfl)) (fun v=>by kernel_rfl) (qP (st:=ZJ f) fun y=>by rcases y with _ | _<;>rfl) n v y h
def qaH (N:Nat) (o_2:Vector UInt8 16) (o_2_2:Vector UInt8 16) (s5_2:Int):Option Qd:=qf0 N N (o_2,o_2_2) s5_2
def qfG (N:Nat):qw:=smL qf4 [(.ba 16),(.ba 16),(.i .i64)] Qd (fun x=>qaH N x.1 x.2.1 x.2.2.1) (csS cs1) fun x=>ZJ (x.1,x.2.1)
theorem qow (N:Nat):zZ Tryz.prog qcH 75 (qE qCA 2) (qfG N):=zp fun x z h=>qpE N (x.1,x.2.1) N x.2.2.1 z h
def qvx (z:Bool):TV×THp:=(xb z,[])
def qcq (N:Nat) (a0:Vector UInt8 16) (a1:Vector UInt8 16):Tree (Bool):=
 .bind (qaH N a0 a1 0) fun z1=>
 .sum z1 (fun z2=>
 .ret z2) fun z2=>
 .ret false
def Qq (N:Nat) (a0:Vector UInt8 16) (a1:Vector UInt8 16):Option (Bool):=(qcq N a0 a1).run some
def qvU (N:Nat):List (Nat×qw):=[(2,qfG N)]
def Yv (N:Nat):Ent:=smF ⟨75,[],[.x (.ba 16),.x (.ba 16)],[],[]⟩ [(.ba 16),(.ba 16)] (Bool) (fun x=>Qq N x.1 x.2.1) cs1 fun _=>qvx
theorem qaX (N:Nat):zf Tryz.prog (Yv N):=
 zd (H:=qcH) (L:=qJ (qvU N)) (ts:=[(.ba 16),(.ba 16)]) (T:=fun x=>qcq N x.1 x.2.1) 0 qTJ (qhB N) (qt (by kernel_rfl) ⟨qow N,trivial⟩) (rg0 (by kernel_rfl)) fun x=>by kernel_rfl
noncomputable def qB5:Code:=Tryz.f36.body.getD .skip
theorem qTP:FnF Tryz.prog 36 Tryz.f36 qB5:=⟨qk,by kernel_rfl,by kernel_rfl,by kernel_rfl⟩
def qdK:TH:={ live:=[(0,[1]),(1,[1,3]),(2,[1,3,10]),(3,[1,3]),(4,[1,3,4]),(5,[1,3,20]),(6,[2]),(7,[1,3,22]),(8,[1,3,5]),(9,[1,3,38]),(10,[2]),(11,[2])] }
def qkj (N:Nat):List Ent:=[Y7 N,Yv N]
theorem qil (N:Nat):qU Tryz.prog (qkj N):=⟨qcy N,qaX N,trivial⟩
abbrev Wm:=qb
abbrev QI:=Unit⊕(Int×Bool)
def JC (f:Wm):QI→Ex×TSt
 | .inl y=>(.ret,⟨0,43,[],[(2,.bc false)],[],false,[]⟩)
 | .inr y=>(.exit 0,⟨0,43,[],[(1,.p 10 [] 0),(3,xi y.1),(10,xb y.2)],[(10,.cell false (.tv qj f))],false,[]⟩)
def qsB (N:Nat):List (Nat×qw):=[]
abbrev JG:=Int
def qgS:SP:=⟨0,43,[],[(1,.k (.p 10 [] 0)),(3,.x (.i .i64))],[(10,.cell false (.x qj))],false,[]⟩
def qrK (f:Wm) (v:JG):TSt:=zq qgS [dv qj f,dv (.i .i64) v]
def Wn (N:Nat) (o_2:qb) (v:JG):Tree (JG⊕QI):=
 .cond (decide (v < (((qb.R o_2).length:Nat):Int))) (
 .bind (qM (qb.R o_2) v) fun e1=>
 .bind (Jl N e1) fun r2=>
 .cond (!r2) (
 .ret (.inr (.inl ()))) <|
 .cond (decide (((0:Int)) < v)) (
 .chk (qp (v - 1)) <|
 .bind (qM (qb.R o_2) (v - 1)) fun e3=>
 .bind (qM (qb.R o_2) v) fun e4=>
 .bind (Qq N (qa.ID e3) (qa.ID e4)) fun r5=>
 .cond (!r5) (
 .ret (.inr (.inl ()))) <|
 .chk (qp (v + 1)) <|
 .ret (.inl (v + 1))) <|
 .chk (qp (v + 1)) <|
 .ret (.inl (v + 1))) <|
 .ret (.inr (.inr ((v,decide (v < (((qb.R o_2).length:Nat):Int))))))
def qg7 (N n:Nat) (f:Wm) (v:JG):Option QI:=qQ (Wn N f) some n v
theorem qrH (N:Nat) (f:Wm) (n:Nat) (v:JG) (y:QI) (h:qg7 N n f v=some y):LG Tryz.prog qdK 36 (qE qB5 2) (qrK f v) (JC f y):=
 zj qk (E:=qkj N) (L:=qJ (qsB N)) (st:=JC f) (g:=some) (R:=JC f) (qil N) (qt (by kernel_rfl) trivial) (rg0 (by kernel_rfl)) (fun v=>by kernel_rfl) (qP (st:=JC f) fun y=>by rcases y with _ | _<;>rfl) n v y h
def qcr (N:Nat) (o_2:qb) (s3_2:Int):Option QI:=qg7 N N o_2 s3_2
def qgL (N:Nat):qw:=smL qgS [qj,(.i .i64)] QI (fun x=>qcr N x.1 x.2.1) (csS cs1) fun x=>JC x.1
theorem qqV (N:Nat):zZ Tryz.prog qdK 36 (qE qB5 2) (qgL N):=zp fun x z h=>qrH N x.1 N x.2.1 z h
def qx7 (z:Bool):TV×THp:=(xb z,[])
def qdu (N:Nat) (a0:qb):Tree (Bool):=
 .bind (qcr N a0 0) fun z1=>
 .sum z1 (fun z2=>
 .ret false) fun z2=>
 .ret (decide ((((qb.R a0).length:Nat):Int)≤((10:Int))))
def Jk (N:Nat) (a0:qb):Option (Bool):=(qdu N a0).run some
def qw8 (N:Nat):List (Nat×qw):=[(2,qgL N)]
def Ka (N:Nat):Ent:=smF ⟨36,[],[.x qj],[],[]⟩ [qj] (Bool) (fun x=>Jk N x.1) cs1 fun _=>qx7
theorem qb_ (N:Nat):zf Tryz.prog (Ka N):=
 zd (H:=qdK) (L:=qJ (qw8 N)) (ts:=[qj]) (T:=fun x=>qdu N x.1) 0 qTP (qil N) (qt (by kernel_rfl) ⟨qqV N,trivial⟩) (rg0 (by kernel_rfl)) fun x=>by kernel_rfl
noncomputable def qPO:Code:=Tryz.f101.body.getD .skip
theorem qP9:FnF Tryz.prog 101 Tryz.f101 qPO:=⟨qk,by kernel_rfl,by kernel_rfl,by kernel_rfl⟩
def qxH:TH:={ live:=[(0,[1,2]),(1,[1,2]),(2,[2])],nil:=[(0,[⟨.ob 20 [2],25,(.sl 4 qB)⟩])] }
def qwG (N:Nat):List Ent:=[]
theorem qur (N:Nat):qU Tryz.prog (qwG N):=trivial
def qyP (a0:qa) (z:Unit):TV×THp:=(.tv qf a0,[])
def qdN (a0:qa):Tree (Unit):=
 .chk (qh5 ((qa.F a0).length) 40) <|
 .chk ((qa.F a0).length=(qa.F a0).length) <|
 .ret ()
def QT (a0:qa):Option (Unit):=(qdN a0).run some
def qwY:List (Nat×qw):=[]
def qk1:Ent:=smF ⟨101,[],[.x qf],[],[]⟩ [qf] (Unit) (fun x=>QT x.1) cs1 fun x=>qyP x.1
theorem qvz:zf Tryz.prog (qk1):=
 zd (H:=qxH) (L:=qJ (qwY)) (ts:=[qf]) (T:=fun x=>qdN x.1) 0 qP9 (qur 0) (qt (by kernel_rfl) trivial) (rg0 (by kernel_rfl)) fun x=>by kernel_rfl
noncomputable def qPE:Code:=Tryz.f129.body.getD .skip
theorem qQR:FnF Tryz.prog 129 Tryz.f129 qPE:=⟨qk,by kernel_rfl,by kernel_rfl,by kernel_rfl⟩
def qxi:TH:={ live:=[(0,[2,3,4]),(1,[2,3,4,5]),(2,[2,3,4,9]),(3,[4]),(4,[4])] }
def qxj (N:Nat):List Ent:=[vu]
theorem qub (N:Nat):qU Tryz.prog (qxj N):=⟨vV,trivial⟩
def qxd (z:qc):TV×THp:=(.tv qh z,[])
def qdV (a0:qc) (a1:qc):Tree (qc):=
 .bind (zN a0 a1) fun r1=>
 .cond r1 (
 .ret a1) <|
 .ret a0
def qa3 (a0:qc) (a1:qc):Option (qc):=(qdV a0 a1).run some
def qxD:List (Nat×qw):=[]
def qkC:Ent:=smF ⟨129,[],[.x qh,.x qh],[],[]⟩ [qh,qh] (qc) (fun x=>qa3 x.1 x.2.1) cs1 fun _=>qxd
theorem qwb:zf Tryz.prog (qkC):=
 zd (H:=qxi) (L:=qJ (qxD)) (ts:=[qh,qh]) (T:=fun x=>qdV x.1 x.2.1) 0 qQR (qub 0) (qt (by kernel_rfl) trivial) (rg0 (by kernel_rfl)) fun x=>by kernel_rfl
noncomputable def qw6:Code:=Tryz.f130.body.getD .skip
theorem qQH:FnF Tryz.prog 130 Tryz.f130 qw6:=⟨qk,by kernel_rfl,by kernel_rfl,by kernel_rfl⟩
def qcA:TH:={ live:=[(0,[1,2,4]),(1,[1,2,4,6]),(2,[1,2,4,6,11]),(3,[1,2,4,6]),(4,[1,2,4,6,21]),(5,[4,5]),(6,[4,5])] }
def qjs (N:Nat):List Ent:=[]
theorem qgU (N:Nat):qU Tryz.prog (qjs N):=trivial
abbrev Xh:=qa×qe×Int
abbrev Qi:=qe⊕(Int×Bool)
def Z8 (f:Xh):Qi→Ex×TSt
 | .inl y=>(.ret,⟨0,29,[],[(4,.p 40 [] 0),(5,.bc true)],[(40,.cell false (.tv qq y))],false,[]⟩)
 | .inr y=>(.exit 0,⟨0,29,[],[(1,xi f.2.2),(2,.p 20 [] 0),(4,.p 40 [] 0),(6,xi y.1),(11,xb y.2)],[(20,.cell false (.tv qf f.1)),(40,.cell false (.tv qq f.2.1))],false,[]⟩)
def qqH (N:Nat):List (Nat×qw):=[]
abbrev ZS:=Int
def qfO:SP:=⟨0,29,[],[(1,.x (.i .i64)),(2,.k (.p 20 [] 0)),(4,.k (.p 40 [] 0)),(6,.x (.i .i64))],[(20,.cell false (.x qf)),(40,.cell false (.x qq))],false,[]⟩
def qqh (f:Xh) (v:ZS):TSt:=zq qfO [dv qf f.1,dv qq f.2.1,dv (.i .i64) f.2.2,dv (.i .i64) v]
def ZR (N:Nat) (o_2:qa) (o_2_2:qe) (s1_2:Int) (v:ZS):Tree (ZS⊕Qi):=
 .cond (decide (v < (((qa.F o_2).length:Nat):Int))) (
 .bind (qM (qa.F o_2) v) fun e1=>
 .cond (decide ((qd.No e1)=s1_2)) (
 .bind (qM (qa.F o_2) v) fun e2=>
 .ret (.inr (.inl (qd.C e2)))) <|
 .chk (qp (v + 1)) <|
 .ret (.inl (v + 1))) <|
 .ret (.inr (.inr ((v,decide (v < (((qa.F o_2).length:Nat):Int))))))
def qfR (N n:Nat) (f:Xh) (v:ZS):Option Qi:=qQ (ZR N f.1 f.2.1 f.2.2) some n v
theorem qqQ (N:Nat) (f:Xh) (n:Nat) (v:ZS) (y:Qi) (h:qfR N n f v=some y):LG Tryz.prog qcA 130 (qE qw6 2) (qqh f v) (Z8 f y):=
 zj qk (E:=qjs N) (L:=qJ (qqH N)) (st:=Z8 f) (g:=some) (R:=Z8 f) (qgU N) (qt (by kernel_rfl) trivial) (rg0 (by kernel_rfl)) (fun v=>by kernel_rfl) (qP (st:=Z8 f) fun y=>by rcases y with _ | _<;>rfl) n v y h
def qaL (N:Nat) (o_2:qa) (o_2_2:qe) (s1_2:Int) (s6_2:Int):Option Qi:=qfR N N (o_2,o_2_2,s1_2) s6_2
def qfY (N:Nat):qw:=smL qfO [qf,qq,(.i .i64),(.i .i64)] Qi (fun x=>qaL N x.1 x.2.1 x.2.2.1 x.2.2.2.1) (csS cs1) fun x=>Z8 (x.1,x.2.1,x.2.2.1)
theorem qoC (N:Nat):zZ Tryz.prog qcA 130 (qE qw6 2) (qfY N):=zp fun x z h=>qqQ N (x.1,x.2.1,x.2.2.1) N x.2.2.2.1 z h
def qvq (z:qe×Bool):TV×THp:=(.tup [.tv qq (z.1:qe),xb z.2],[])
def qct (N:Nat) (a0:qa) (a1:Int):Tree (qe×Bool):=
 .bind (qaL N a0 (qe.mk (qc.mk 0 0) []) a1 0) fun z1=>
 .sum z1 (fun z2=>
 .ret (z2,true)) fun z2=>
 .ret (qe.mk (qc.mk 0 0) [],false)
def WB (N:Nat) (a0:qa) (a1:Int):Option (qe×Bool):=(qct N a0 a1).run some
def qvw (N:Nat):List (Nat×qw):=[(2,qfY N)]
def qjb (N:Nat):Ent:=smF ⟨130,[],[.x qf,.x (.i .i64)],[],[]⟩ [qf,(.i .i64)] (qe×Bool) (fun x=>WB N x.1 x.2.1) cs1 fun _=>qvq
theorem qtk (N:Nat):zf Tryz.prog (qjb N):=
 zd (H:=qcA) (L:=qJ (qvw N)) (ts:=[qf,(.i .i64)]) (T:=fun x=>qct N x.1 x.2.1) 0 qQH (qgU N) (qt (by kernel_rfl) ⟨qoC N,trivial⟩) (rg0 (by kernel_rfl)) fun x=>by kernel_rfl
noncomputable def qk0:Code:=Tryz.f104.body.getD .skip
theorem qP2:FnF Tryz.prog 104 Tryz.f104 qk0:=⟨qk,by kernel_rfl,by kernel_rfl,by kernel_rfl⟩
def ZZ:TH:={ live:=[(0,[0]),(1,[0,3]),(2,[0,3]),(3,[0,3,15]),(4,[0,3]),(5,[3,4]),(6,[3,4,5]),(7,[3,4,5,6]),(8,[3,4,5,6,24]),(9,[3,4,5,6]),(10,[3,4,5,6]),(11,[3,4,5,6]),(12,[2])] }
def Kx (N:Nat):List Ent:=[]
theorem Ym (N:Nat):qU Tryz.prog (Kx N):=trivial
abbrev JU:=List UInt8
abbrev vm:=List UInt8×Bool
def QD (f:JU) (y:vm):Ex×TSt:=(.exit 0,⟨0,38,[],[(0,.tv .bl f),(3,.v 80 y.1.length),(15,xb y.2)],[(80,.vec false 1 .bl (y.1:List UInt8))],false,[]⟩)
def qmr (N:Nat):List (Nat×qw):=[]
abbrev QA:=List UInt8
def qc1:SP:=⟨0,38,[],[(0,.x .bl),(3,.vs 80)],[(80,.vec false 1)],false,[]⟩
def qmz (f:JU) (v:QA):TSt:=zq qc1 [dv .bl v,dv .bl f]
def Qz (N:Nat) (s0_3:List UInt8) (v:QA):Tree (QA⊕vm):=
 .chk ((64:Int)≠0) <|
 .cond (!decide ((((v.length:Nat):Int).tmod 64)=56)) (
 .chk (zU v.length v.length ((v++[(UInt8.ofNat 0)]).length) 1) <|
 .ret (.inl (v++[(UInt8.ofNat 0)]))) <|
 .ret (.inr (v,!decide ((((v.length:Nat):Int).tmod 64)=56)))
def qc5 (N n:Nat) (f:JU) (v:QA):Option vm:=qQ (Qz N f) some n v
theorem qmH (N:Nat) (f:JU) (n:Nat) (v:QA) (y:vm) (h:qc5 N n f v=some y):LG Tryz.prog ZZ 104 (qE qk0 3) (qmz f v) (QD f y):=
 zj qk (E:=Kx N) (L:=qJ (qmr N)) (st:=QD f) (g:=some) (R:=QD f) (Ym N) (qt (by kernel_rfl) trivial) (rg0 (by kernel_rfl)) (fun v=>by kernel_rfl) (qP (st:=QD f) fun y=>by rfl) n v y h
def VI (N:Nat) (s0_3:List UInt8) (o_3:List UInt8):Option vm:=qc5 N N s0_3 o_3
def qcV (N:Nat):qw:=smL qc1 [.bl,.bl] vm (fun x=>VI N x.2.1 x.1) cs1 fun x=>QD x.2.1
theorem qlt (N:Nat):zZ Tryz.prog ZZ 104 (qE qk0 3) (qcV N):=zp fun x z h=>qmH N x.2.1 N x.1 z h
abbrev JY:=Int
abbrev vl:=List UInt8×Int×Int×Bool
def Qw (f:JY) (y:vl):Ex×TSt:=(.exit 2,⟨0,38,[],[(3,.v 80 y.1.length),(4,.tv (.i .u64) f),(5,.tv (.i .u64) (y.2.1:Int)),(6,xi y.2.2.1),(24,xb y.2.2.2)],[(80,.vec false 1 .bl (y.1:List UInt8))],false,[]⟩)
def qmd (N:Nat):List (Nat×qw):=[]
abbrev Qy:=List UInt8×Int×Int
def qcO:SP:=⟨0,38,[],[(3,.vs 80),(4,.x (.i .u64)),(5,.x (.i .u64)),(6,.x (.i .i64))],[(80,.vec false 1)],false,[]⟩
def qma (f:JY) (v:Qy):TSt:=zq qcO [dv .bl v.1,dv (.i .u64) f,dv (.i .u64) v.2.1,dv (.i .i64) v.2.2]
def JZ (N:Nat) (s4_8:Int) (v:Qy):Tree (Qy⊕vl):=
 .cond (decide (v.2.2 < ((8:Int)))) (
 .chk (v.2.1≠0) <|
 .chk ((256:Int)≠0) <|
 let w1:Int:=IntKind.u8.wrap ((IntKind.u64.wrap (s4_8.tdiv v.2.1)).tmod 256)
 .chk (inB w1) <|
 .chk (zU v.1.length v.1.length ((v.1++[UInt8.ofNat w1.toNat]).length) 1) <|
 .chk ((256:Int)≠0) <|
 .chk (qp (v.2.2 + 1)) <|
 .ret (.inl (v.1++[UInt8.ofNat w1.toNat],IntKind.u64.wrap (v.2.1.tdiv 256),v.2.2 + 1))) <|
 .ret (.inr (v.1,v.2.1,v.2.2,decide (v.2.2 < ((8:Int)))))
def qcT (N n:Nat) (f:JY) (v:Qy):Option vl:=qQ (JZ N f) some n v
theorem ql_ (N:Nat) (f:JY) (n:Nat) (v:Qy) (y:vl) (h:qcT N n f v=some y):LG Tryz.prog ZZ 104 (qE qk0 8) (qma f v) (Qw f y):=
 zj qk (E:=Kx N) (L:=qJ (qmd N)) (st:=Qw f) (g:=some) (R:=Qw f) (Ym N) (qt (by kernel_rfl) trivial) (rg0 (by kernel_rfl)) (fun v=>by kernel_rfl) (qP (st:=Qw f) fun y=>by rfl) n v y h
def YF (N:Nat) (s4_8:Int) (o_8:List UInt8) (s5_8:Int) (s6_8:Int):Option vl:=qcT N N s4_8 (o_8,s5_8,s6_8)
def qcY (N:Nat):qw:=smL qcO [.bl,(.i .u64),(.i .u64),(.i .i64)] vl (fun x=>YF N x.2.1 x.1 x.2.2.1 x.2.2.2.1) cs1 fun x=>Qw x.2.1
theorem qli (N:Nat):zZ Tryz.prog ZZ 104 (qE qk0 8) (qcY N):=zp fun x z h=>ql_ N x.2.1 N (x.1,x.2.2.1,x.2.2.2.1) z h
def qpj (z:List UInt8):TV×THp:=(.tv .bl z,[])
def Kk (N:Nat) (a0:List UInt8):Tree (List UInt8):=
 .chk (qh5 a0.length 1) <|
 .chk (zU a0.length a0.length ((a0++[(UInt8.ofNat 128)]).length) 1) <|
 .bind (zV [((a0++[(UInt8.ofNat 128)]).length,(a0++[(UInt8.ofNat 128)]).length)] (VI N a0 (a0++[(UInt8.ofNat 128)]))) fun z1=>
 .chk (qp (((8:Int)) * ((a0.length:Nat):Int))) <|
 let w2:Int:=IntKind.u64.wrap (((8:Int)) * ((a0.length:Nat):Int))
 .bind (zV [(z1.1.length,z1.1.length)] (YF N w2 z1.1 72057594037927936 0)) fun z3=>
 .chk (z3.1.length=z3.1.length) <|
 .ret z3.1
def WU (N:Nat) (a0:List UInt8):Option (List UInt8):=(Kk N a0).run some
def qpl (N:Nat):List (Nat×qw):=[(3,qcV N),(8,qcY N)]
def qfU (N:Nat):Ent:=smF ⟨104,[],[.x .bl],[],[]⟩ [.bl] (List UInt8) (fun x=>WU N x.1) cs1 fun _=>qpj
theorem qoo (N:Nat):zf Tryz.prog (qfU N):=
 zd (H:=ZZ) (L:=qJ (qpl N)) (ts:=[.bl]) (T:=fun x=>Kk N x.1) 0 qP2 (Ym N) (qt (by kernel_rfl) ⟨qlt N,qli N,trivial⟩) (rg0 (by kernel_rfl)) fun x=>by kernel_rfl
noncomputable def qP7:Code:=Tryz.f106.body.getD .skip
theorem qPm:FnF Tryz.prog 106 Tryz.f106 qP7:=⟨qk,by kernel_rfl,by kernel_rfl,by kernel_rfl⟩
def qrT:TH:={ live:=[(0,[0,1]),(1,[4])] }
def qr6 (N:Nat):List Ent:=[]
theorem qoz (N:Nat):qU Tryz.prog (qr6 N):=trivial
def qrV (z:Int):TV×THp:=(.tv (.i .u32) z,[])
def K7 (a0:Int) (a1:Int):Tree (Int):=
 .chk (0≤a1) <|
 .chk (0≤(qq8 .u32 ((32:Int)) a1)) <|
 let w1:Int:=qBl .u32 a0 (min (qq8 .u32 ((32:Int)) a1).toNat 32)
 .ret (uOr .u32 (Jn a0 (min a1.toNat 32)) w1)
def ze (a0:Int) (a1:Int):Option (Int):=(K7 a0 a1).run some
def qrs:List (Nat×qw):=[]
def qai:Ent:=smF ⟨106,[],[.x (.i .u32),.x (.i .u32)],[],[]⟩ [(.i .u32),(.i .u32)] (Int) (fun x=>ze x.1 x.2.1) cs1 fun _=>qrV
theorem qfz:zf Tryz.prog (qai):=
 zd (H:=qrT) (L:=qJ (qrs)) (ts:=[(.i .u32),(.i .u32)]) (T:=fun x=>K7 x.1 x.2.1) 0 qPm (qoz 0) (qt (by kernel_rfl) trivial) (rg0 (by kernel_rfl)) fun x=>by kernel_rfl
noncomputable def qk5:Code:=Tryz.f105.body.getD .skip
theorem qPC:FnF Tryz.prog 105 Tryz.f105 qk5:=⟨qk,by kernel_rfl,by kernel_rfl,by kernel_rfl⟩
def J5:TH:={ live:=[(0,[0]),(1,[0,3]),(2,[0,3,4]),(3,[0,3,4,11]),(4,[0,3,4]),(5,[0,3,4]),(6,[3,5]),(7,[3,5,51]),(8,[3,5]),(9,[3,5,6]),(10,[3,5,6,7]),(11,[3,5,7,8]),(12,[3,5,8,9]),(13,[3,5]),(14,[2])],nil:=[(1,[⟨.sl 3,35,(.sl 1 (.i .u32))⟩])] }
def qbu (N:Nat):List Ent:=[qai]
theorem Kt (N:Nat):qU Tryz.prog (qbu N):=⟨qfz,trivial⟩
abbrev VG:=List UInt8
abbrev vO:=List Int×Int×Bool
def Zg (f:VG) (y:vO):Ex×TSt:=(.exit 0,⟨0,99,[],[(0,.tv .bl f),(3,.v 35 y.1.length),(4,xi y.2.1),(11,xb y.2.2)],[(35,.vec false 1 (.sl 1 (.i .u32)) (y.1:List Int))],false,[]⟩)
def qoa (N:Nat):List (Nat×qw):=[]
abbrev Q_:=List Int×Int
def qeU:SP:=⟨0,99,[],[(0,.x .bl),(3,.vs 35),(4,.x (.i .i64))],[(35,.vec false 1)],false,[]⟩
def qn4 (f:VG) (v:Q_):TSt:=zq qeU [dv (.sl 1 (.i .u32)) v.1,dv .bl f,dv (.i .i64) v.2]
def Za (N:Nat) (s0_3:List UInt8) (v:Q_):Tree (Q_⊕vO):=
 .cond (decide (v.2 < ((16:Int)))) (
 .chk (qp (((4:Int)) * v.2)) <|
 .bind (qM s0_3 (((4:Int)) * v.2)) fun e1=>
 let w2:Int:=IntKind.u32.wrap ((e1.toNat:Nat):Int)
 .chk (qp (((4:Int)) * v.2)) <|
 .chk (qp ((((4:Int)) * v.2) + 1)) <|
 .bind (qM s0_3 ((((4:Int)) * v.2) + 1)) fun e3=>
 let w4:Int:=IntKind.u32.wrap ((e3.toNat:Nat):Int)
 let w5:Int:=vg .u32 (qnC .u32 ((16777216:Int)) w2) (qnC .u32 ((65536:Int)) w4)
 .chk (qp (((4:Int)) * v.2)) <|
 .chk (qp ((((4:Int)) * v.2) + 2)) <|
 .bind (qM s0_3 ((((4:Int)) * v.2) + 2)) fun e6=>
 let w7:Int:=IntKind.u32.wrap ((e6.toNat:Nat):Int)
 let w8:Int:=vg .u32 w5 (qnC .u32 ((256:Int)) w7)
 .chk (qp (((4:Int)) * v.2)) <|
 .chk (qp ((((4:Int)) * v.2) + 3)) <|
 .bind (qM s0_3 ((((4:Int)) * v.2) + 3)) fun e9=>
 let w10:Int:=IntKind.u32.wrap ((e9.toNat:Nat):Int)
 .chk (zU v.1.length v.1.length ((v.1++[vg .u32 w8 w10]).length) 4) <|
 .chk (qp (v.2 + 1)) <|
 .ret (.inl (v.1++[vg .u32 w8 w10],v.2 + 1))) <|
 .ret (.inr (v.1,v.2,decide (v.2 < ((16:Int)))))
def qeN (N n:Nat) (f:VG) (v:Q_):Option vO:=qQ (Za N f) some n v
theorem qob (N:Nat) (f:VG) (n:Nat) (v:Q_) (y:vO) (h:qeN N n f v=some y):LG Tryz.prog J5 105 (qE qk5 3) (qn4 f v) (Zg f y):=
 zj qk (E:=qbu N) (L:=qJ (qoa N)) (st:=Zg f) (g:=some) (R:=Zg f) (Kt N) (qt (by kernel_rfl) trivial) (rg0 (by kernel_rfl)) (fun v=>by kernel_rfl) (qP (st:=Zg f) fun y=>by rfl) n v y h
def Jr (N:Nat) (s0_3:List UInt8) (o_3:List Int) (s4_3:Int):Option vO:=qeN N N s0_3 (o_3,s4_3)
def qeS (N:Nat):qw:=smL qeU [(.sl 1 (.i .u32)),.bl,(.i .i64)] vO (fun x=>Jr N x.2.1 x.1 x.2.2.1) cs1 fun x=>Zg x.2.1
theorem qnT (N:Nat):zZ Tryz.prog J5 105 (qE qk5 3) (qeS N):=zp fun x z h=>qob N x.2.1 N (x.1,x.2.2.1) z h
abbrev VN:=Unit
abbrev vP:=List Int×Int×Bool
def Zf (f:VN) (y:vP):Ex×TSt:=(.exit 2,⟨0,99,[],[(3,.v 35 y.1.length),(5,xi y.2.1),(51,xb y.2.2)],[(35,.vec false 1 (.sl 1 (.i .u32)) (y.1:List Int))],false,[]⟩)
def qn8 (N:Nat):List (Nat×qw):=[]
abbrev Zi:=List Int×Int
def qeQ:SP:=⟨0,99,[],[(3,.vs 35),(5,.x (.i .i64))],[(35,.vec false 1)],false,[]⟩
def qok (f:VN) (v:Zi):TSt:=zq qeQ [dv (.sl 1 (.i .u32)) v.1,dv (.i .i64) v.2]
def Zc (N:Nat) (v:Zi):Tree (Zi⊕vP):=
 .cond (decide (v.2 < ((64:Int)))) (
 .chk (qp (v.2 - 15)) <|
 .chk (0≤(v.2 - 15)∧(v.2 - 15) < ((v.1.length:Nat):Int)) <|
 .bind (jy v.1 v.1.length ((v.2 - 15).toNat)) fun e1=>
 .chk (qp (v.2 - 2)) <|
 .chk (0≤(v.2 - 2)∧(v.2 - 2) < ((v.1.length:Nat):Int)) <|
 .bind (jy v.1 v.1.length ((v.2 - 2).toNat)) fun e2=>
 .bind (ze e1 7) fun r3=>
 .bind (ze e1 18) fun r4=>
 .chk (0≤(3:Int)) <|
 .bind (ze e2 17) fun r5=>
 .bind (ze e2 19) fun r6=>
 .chk (0≤(10:Int)) <|
 let w7:Int:=V4 .u32 (V4 .u32 r5 r6) (Jn e2 10)
 .chk (qp (v.2 - 16)) <|
 .chk (0≤(v.2 - 16)∧(v.2 - 16) < ((v.1.length:Nat):Int)) <|
 .bind (jy v.1 v.1.length ((v.2 - 16).toNat)) fun e8=>
 let w9:Int:=vg .u32 e8 (V4 .u32 (V4 .u32 r3 r4) (Jn e1 3))
 .chk (qp (v.2 - 7)) <|
 .chk (0≤(v.2 - 7)∧(v.2 - 7) < ((v.1.length:Nat):Int)) <|
 .bind (jy v.1 v.1.length ((v.2 - 7).toNat)) fun e10=>
 .chk (zU v.1.length v.1.length ((v.1++[vg .u32 (vg .u32 w9 e10) w7]).length) 4) <|
 .chk (qp (v.2 + 1)) <|
 .ret (.inl (v.1++[vg .u32 (vg .u32 w9 e10) w7],v.2 + 1))) <|
 .ret (.inr (v.1,v.2,decide (v.2 < ((64:Int)))))
def qeG (N n:Nat) (f:VN) (v:Zi):Option vP:=qQ (Zc N) some n v
theorem qn_ (N:Nat) (f:VN) (n:Nat) (v:Zi) (y:vP) (h:qeG N n f v=some y):LG Tryz.prog J5 105 (qE qk5 7) (qok f v) (Zf f y):=
 zj qk (E:=qbu N) (L:=qJ (qn8 N)) (st:=Zf f) (g:=some) (R:=Zf f) (Kt N) (qt (by kernel_rfl) trivial) (rg0 (by kernel_rfl)) (fun v=>by kernel_rfl) (qP (st:=Zf f) fun y=>by rfl) n v y h
def K9 (N:Nat) (o_7:List Int) (s5_7:Int):Option vP:=qeG N N () (o_7,s5_7)
def qeV (N:Nat):qw:=smL qeQ [(.sl 1 (.i .u32)),(.i .i64)] vP (fun x=>K9 N x.1 x.2.1) cs1 fun x=>Zf ()
theorem qnM (N:Nat):zZ Tryz.prog J5 105 (qE qk5 7) (qeV N):=zp fun x z h=>qn_ N () N (x.1,x.2.1) z h
def qtn (z:List Int):TV×THp:=(.tv (.sl 1 (.i .u32)) z,[])
def qbj (N:Nat) (a0:List UInt8):Tree (List Int):=
 .bind (zV [(([]:List Int).length,0)] (Jr N a0 [] 0)) fun z1=>
 .bind (zV [(z1.1.length,z1.1.length)] (K9 N z1.1 16)) fun z2=>
 .chk (z2.1.length=z2.1.length) <|
 .ret z2.1
def Kj (N:Nat) (a0:List UInt8):Option (List Int):=(qbj N a0).run some
def qt2 (N:Nat):List (Nat×qw):=[(3,qeS N),(7,qeV N)]
def qhQ (N:Nat):Ent:=smF ⟨105,[],[.x .bl],[],[]⟩ [.bl] (List Int) (fun x=>Kj N x.1) cs1 fun _=>qtn
theorem qru (N:Nat):zf Tryz.prog (qhQ N):=
 zd (H:=J5) (L:=qJ (qt2 N)) (ts:=[.bl]) (T:=fun x=>qbj N x.1) 0 qPC (Kt N) (qt (by kernel_rfl) ⟨qnT N,qnM N,trivial⟩) (rg0 (by kernel_rfl)) fun x=>by kernel_rfl
noncomputable def qP4:Code:=Tryz.f107.body.getD .skip
theorem qPR:FnF Tryz.prog 107 Tryz.f107 qP4:=⟨qk,by kernel_rfl,by kernel_rfl,by kernel_rfl⟩
def qBE:TH:={ live:=[(1,[0])] }
def qBy (N:Nat):List Ent:=[]
theorem qxR (N:Nat):qU Tryz.prog (qBy N):=trivial
def qBN (z:Unit):TV×THp:=(.tv (.sl 1 (.i .u32)) ([1116352408,1899447441,3049323471,3921009573,961987163,1508970993,2453635748,2870763221,3624381080,310598401,607225278,1426881987,1925078388,2162078206,2614888103,3248222580,3835390401,4022224774,264347078,604807628,770255983,1249150122,1555081692,1996064986,2554220882,2821834349,2952996808,3210313671,3336571891,3584528711,113926993,338241895,666307205,773529912,1294757372,1396182291,1695183700,1986661051,2177026350,2456956037,2730485921,2820302411,3259730800,3345764771,3516065817,3600352804,4094571909,275423344,430227734,506948616,659060556,883997877,958139571,1322822218,1537002063,1747873779,1955562222,2024104815,2227730452,2361852424,2428436474,2756734187,3204031479,3329325298]:List Int),[])
def qnK:Tree (Unit):=
 .ret ()
def qed:Option (Unit):=(qnK).run some
def qCl:List (Nat×qw):=[]
def qm8:Ent:=smF ⟨107,[],[],[],[]⟩ [] (Unit) (fun x=>qed) cs1 fun _=>qBN
theorem qAe:zf Tryz.prog (qm8):=
 zd (H:=qBE) (L:=qJ (qCl)) (ts:=[]) (T:=fun x=>qnK) 0 qPR (qxR 0) (qt (by kernel_rfl) trivial) (rg0 (by kernel_rfl)) fun x=>by kernel_rfl
noncomputable def Wq:Code:=Tryz.f81.body.getD .skip
theorem qRf:FnF Tryz.prog 81 Tryz.f81 Wq:=⟨qk,by kernel_rfl,by kernel_rfl,by kernel_rfl⟩
def ji:TH:={ live:=[(0,[0,2]),(1,[0,2,3]),(2,[2,3,4]),(3,[2,3,4,5]),(4,[2,3,4,5,24]),(5,[2,3,4,5]),(6,[2,3,4,5,6]),(7,[2,3,4,5,6,7]),(8,[2,3,4,5,6,7,8]),(9,[2,3,4,5,6,7,8,36]),(10,[2,3,4,5,6,7,8]),(11,[2,3,4,5,6,7,8,9]),(12,[2,3,4,5,6,7,8,9,10]),(13,[2,3,4,5,6,7,8,9,10,11]),(14,[2,3,4,5,6,7,8,9,10,11,12]),(15,[2,3,4,5,6,7,8]),(16,[2,3,4,5,7,13]),(17,[2,3,4,5,7,13,132]),(18,[2,3,4,5,7,13]),(19,[2,3,4,5,7,13]),(20,[2,3,14]),(21,[2,3,14,15]),(22,[2,3,14,15,149]),(23,[2,3,14,15]),(24,[2,3,14,15,16]),(25,[2,3,14,15,16,17]),(26,[2,3,14,15,16,17,160]),(27,[2,3,14,15,16,17]),(28,[2,3,14,15,16,17]),(29,[2,3,14,15]),(30,[2])],vecs:=[18] }
def Q0 (N:Nat):List Ent:=[qfU N,qhQ N,qai,qm8]
theorem vT (N:Nat):qU Tryz.prog (Q0 N):=⟨qoo N,qru N,qfz,qAe,trivial⟩
abbrev jE:=List Int×List Int×Vector UInt8 32×Nat×List UInt8×Int×List Int
abbrev jk:=List Int×Int×Bool
def jz (f:jE) (y:jk):Ex×TSt:=(.exit 2,⟨0,171,[],[(2,.p 20 [] 0),(3,.v 180 f.2.2.2.1),(4,.tv .bl f.2.2.2.2.1),(5,xi f.2.2.2.2.2.1),(6,.tv (.sl 1 (.i .u32)) f.2.2.2.2.2.2),(7,.tv (.sl 1 (.i .u32)) (y.1:List Int)),(8,xi y.2.1),(36,xb y.2.2)],[(20,.cell false (.tv (.ba 32) f.2.2.1)),(180,.vec false 1 (.sl 1 (.i .u32)) f.1)],false,[]⟩)
def qg1 (N:Nat):List (Nat×qw):=[]
abbrev vF:=List Int×Int
def qnD:SP:=⟨0,171,[],[(2,.k (.p 20 [] 0)),(3,.v 180),(4,.x .bl),(5,.x (.i .i64)),(6,.x (.sl 1 (.i .u32))),(7,.x (.sl 1 (.i .u32))),(8,.x (.i .i64))],[(20,.cell false (.x (.ba 32))),(180,.vec false 1)],false,[]⟩
def qdg (f:jE) (v:vF):TSt:=zq qnD [dv (.sl 1 (.i .u32)) f.1,dv (.ba 32) f.2.2.1,dv .nat f.2.2.2.1,dv .bl f.2.2.2.2.1,dv (.i .i64) f.2.2.2.2.2.1,dv (.sl 1 (.i .u32)) f.2.2.2.2.2.2,dv (.sl 1 (.i .u32)) v.1,dv (.i .i64) v.2]
def jT (N:Nat) (o_9:List Int) (o_9_2:List Int) (o_9_3:Vector UInt8 32) (s3_9:Nat) (s4_9:List UInt8) (s5_9:Int) (s6_9:List Int) (v:vF):Tree (vF⊕jk):=
 .cond (decide (v.2 < ((64:Int)))) (
 .bind (qM v.1 4) fun e1=>
 .bind (qM v.1 0) fun e2=>
 .bind (qM v.1 7) fun e3=>
 .bind (ze e1 6) fun r4=>
 .bind (ze e1 11) fun r5=>
 .bind (ze e1 25) fun r6=>
 let w7:Int:=vg .u32 e3 (V4 .u32 (V4 .u32 r4 r5) r6)
 .bind (qM v.1 5) fun e8=>
 .bind (qM v.1 6) fun e9=>
 let w10:Int:=Km .u32 (qq8 .u32 ((4294967295:Int)) e1) e9
 let w11:Int:=vg .u32 w7 (uOr .u32 (Km .u32 e1 e8) w10)
 .bind (qed) fun r12=>
 .bind (qM ([1116352408,1899447441,3049323471,3921009573,961987163,1508970993,2453635748,2870763221,3624381080,310598401,607225278,1426881987,1925078388,2162078206,2614888103,3248222580,3835390401,4022224774,264347078,604807628,770255983,1249150122,1555081692,1996064986,2554220882,2821834349,2952996808,3210313671,3336571891,3584528711,113926993,338241895,666307205,773529912,1294757372,1396182291,1695183700,1986661051,2177026350,2456956037,2730485921,2820302411,3259730800,3345764771,3516065817,3600352804,4094571909,275423344,430227734,506948616,659060556,883997877,958139571,1322822218,1537002063,1747873779,1955562222,2024104815,2227730452,2361852424,2428436474,2756734187,3204031479,3329325298]:List Int) v.2) fun e13=>
 .bind (qM s6_9 v.2) fun e14=>
 .bind (ze e2 2) fun r15=>
 .bind (ze e2 13) fun r16=>
 .bind (ze e2 22) fun r17=>
 .bind (qM v.1 1) fun e18=>
 .bind (qM v.1 2) fun e19=>
 let w20:Int:=uOr .u32 (Km .u32 e2 e18) (Km .u32 e2 e19)
 .bind (qM v.1 1) fun e21=>
 .bind (qM v.1 2) fun e22=>
 let w23:Int:=vg .u32 (V4 .u32 (V4 .u32 r15 r16) r17) (uOr .u32 w20 (Km .u32 e21 e22))
 let w24:Int:=vg .u32 (vg .u32 (vg .u32 w11 e13) e14) w23
 .bind (qM v.1 1) fun e25=>
 .bind (qM v.1 2) fun e26=>
 .bind (qM v.1 3) fun e27=>
 let w28:Int:=vg .u32 e27 (vg .u32 (vg .u32 w11 e13) e14)
 .bind (qM v.1 5) fun e29=>
 .bind (qM v.1 6) fun e30=>
 .chk (qp (v.2 + 1)) <|
 .ret (.inl ([w24,e2,e25,e26,w28,e1,e29,e30],v.2 + 1))) <|
 .ret (.inr (v.1,v.2,decide (v.2 < ((64:Int)))))
def qdd (N n:Nat) (f:jE) (v:vF):Option jk:=qQ (jT N f.1 f.2.1 f.2.2.1 f.2.2.2.1 f.2.2.2.2.1 f.2.2.2.2.2.1 f.2.2.2.2.2.2) some n v
theorem qnO (N:Nat) (f:jE) (n:Nat) (v:vF) (y:jk) (h:qdd N n f v=some y):LG Tryz.prog ji 81 (qE (qE Wq 4) 9) (qdg f v) (jz f y):=
 zj qk (E:=Q0 N) (L:=qJ (qg1 N)) (st:=jz f) (g:=some) (R:=jz f) (vT N) (qt (by kernel_rfl) trivial) (rg0 (by kernel_rfl)) (fun v=>by kernel_rfl) (qP (st:=jz f) fun y=>by rfl) n v y h
abbrev JI:=Unit
def qhq:SP:=⟨0,171,[],[(2,.k (.p 20 [] 0)),(3,.v 180),(4,.x .bl),(5,.x (.i .i64)),(6,.x (.sl 1 (.i .u32))),(7,.vs 340),(8,.k (.ic .i64 0))],[(20,.cell false (.x (.ba 32))),(180,.vec false 1),(340,.vec false 1)],false,[]⟩
def qrF (f:jE) (v:JI):TSt:=zq qhq [dv (.sl 1 (.i .u32)) f.1,dv (.sl 1 (.i .u32)) f.2.1,dv (.ba 32) f.2.2.1,dv .nat f.2.2.2.1,dv .bl f.2.2.2.2.1,dv (.i .i64) f.2.2.2.2.2.1,dv (.sl 1 (.i .u32)) f.2.2.2.2.2.2]
abbrev qal:=vF⊕jk
def JN (N:Nat) (o_9:List Int) (o_9_2:List Int) (o_9_3:Vector UInt8 32) (s3_9:Nat) (s4_9:List UInt8) (s5_9:Int) (s6_9:List Int) (v:JI):Tree (JI⊕qal):=
 .chk (0≤(4:Int)∧(4:Int) < ((o_9_2.length:Nat):Int)) <|
 .bind (jy o_9_2 o_9_2.length 4) fun e1=>
 .chk (0≤(0:Int)∧(0:Int) < ((o_9_2.length:Nat):Int)) <|
 .bind (jy o_9_2 o_9_2.length 0) fun e2=>
 .chk (0≤(7:Int)∧(7:Int) < ((o_9_2.length:Nat):Int)) <|
 .bind (jy o_9_2 o_9_2.length 7) fun e3=>
 .bind (ze e1 6) fun r4=>
 .bind (ze e1 11) fun r5=>
 .bind (ze e1 25) fun r6=>
 let w7:Int:=vg .u32 e3 (V4 .u32 (V4 .u32 r4 r5) r6)
 .chk (0≤(5:Int)∧(5:Int) < ((o_9_2.length:Nat):Int)) <|
 .bind (jy o_9_2 o_9_2.length 5) fun e8=>
 .chk (0≤(6:Int)∧(6:Int) < ((o_9_2.length:Nat):Int)) <|
 .bind (jy o_9_2 o_9_2.length 6) fun e9=>
 let w10:Int:=Km .u32 (qq8 .u32 ((4294967295:Int)) e1) e9
 let w11:Int:=vg .u32 w7 (uOr .u32 (Km .u32 e1 e8) w10)
 .bind (qed) fun r12=>
 .bind (qM ([1116352408,1899447441,3049323471,3921009573,961987163,1508970993,2453635748,2870763221,3624381080,310598401,607225278,1426881987,1925078388,2162078206,2614888103,3248222580,3835390401,4022224774,264347078,604807628,770255983,1249150122,1555081692,1996064986,2554220882,2821834349,2952996808,3210313671,3336571891,3584528711,113926993,338241895,666307205,773529912,1294757372,1396182291,1695183700,1986661051,2177026350,2456956037,2730485921,2820302411,3259730800,3345764771,3516065817,3600352804,4094571909,275423344,430227734,506948616,659060556,883997877,958139571,1322822218,1537002063,1747873779,1955562222,2024104815,2227730452,2361852424,2428436474,2756734187,3204031479,3329325298]:List Int) 0) fun e13=>
 .bind (qM s6_9 0) fun e14=>
 .bind (ze e2 2) fun r15=>
 .bind (ze e2 13) fun r16=>
 .bind (ze e2 22) fun r17=>
 .chk (0≤(1:Int)∧(1:Int) < ((o_9_2.length:Nat):Int)) <|
 .bind (jy o_9_2 o_9_2.length 1) fun e18=>
 .chk (0≤(2:Int)∧(2:Int) < ((o_9_2.length:Nat):Int)) <|
 .bind (jy o_9_2 o_9_2.length 2) fun e19=>
 let w20:Int:=uOr .u32 (Km .u32 e2 e18) (Km .u32 e2 e19)
 .chk (0≤(1:Int)∧(1:Int) < ((o_9_2.length:Nat):Int)) <|
 .bind (jy o_9_2 o_9_2.length 1) fun e21=>
 .chk (0≤(2:Int)∧(2:Int) < ((o_9_2.length:Nat):Int)) <|
 .bind (jy o_9_2 o_9_2.length 2) fun e22=>
 let w23:Int:=vg .u32 (V4 .u32 (V4 .u32 r15 r16) r17) (uOr .u32 w20 (Km .u32 e21 e22))
 let w24:Int:=vg .u32 (vg .u32 (vg .u32 w11 e13) e14) w23
 .chk (0≤(1:Int)∧(1:Int) < ((o_9_2.length:Nat):Int)) <|
 .bind (jy o_9_2 o_9_2.length 1) fun e25=>
 .chk (0≤(2:Int)∧(2:Int) < ((o_9_2.length:Nat):Int)) <|
 .bind (jy o_9_2 o_9_2.length 2) fun e26=>
 .chk (0≤(3:Int)∧(3:Int) < ((o_9_2.length:Nat):Int)) <|
 .bind (jy o_9_2 o_9_2.length 3) fun e27=>
 let w28:Int:=vg .u32 e27 (vg .u32 (vg .u32 w11 e13) e14)
 .chk (0≤(5:Int)∧(5:Int) < ((o_9_2.length:Nat):Int)) <|
 .bind (jy o_9_2 o_9_2.length 5) fun e29=>
 .chk (0≤(6:Int)∧(6:Int) < ((o_9_2.length:Nat):Int)) <|
 .bind (jy o_9_2 o_9_2.length 6) fun e30=>
 .ret (.inr (.inl ([w24,e2,e25,e26,w28,e1,e29,e30],1)))
def qas (N n:Nat) (f:jE):qal→Option jk
 | .inl w=>qdd N n f w
 | .inr w=>some w
def qsf (f:jE):qal→Ex×TSt
 | .inl w=>(.normal,qdg f w)
 | .inr w=>jz f w
def qhj (N n:Nat) (f:jE) (v:JI):Option jk:=qQ (JN N f.1 f.2.1 f.2.2.1 f.2.2.2.1 f.2.2.2.2.1 f.2.2.2.2.2.1 f.2.2.2.2.2.2) (qas N n f) n v
theorem qsR (N:Nat) (f:jE) (n:Nat) (v:JI) (y:jk) (h:qhj N n f v=some y):LG Tryz.prog ji 81 (qE (qE Wq 4) 9) (qrF f v) (jz f y):=
 zj qk (E:=Q0 N) (L:=qJ (qg1 N)) (st:=qsf f) (g:=(qas N n f)) (R:=jz f) (vT N) (qt (by kernel_rfl) trivial) (rg0 (by kernel_rfl)) (fun v=>by kernel_rfl) (fun w y h=>by
 rcases w with w | w
 ·exact qnO N f n w y h
 ·exact qP (st:=jz f) (fun y=>by rfl) w y h
) n v y h
def Yz (N:Nat) (o_9:List Int) (o_9_2:List Int) (o_9_3:Vector UInt8 32) (s3_9:Nat) (s4_9:List UInt8) (s5_9:Int) (s6_9:List Int):Option jk:=qhj N N (o_9,o_9_2,o_9_3,s3_9,s4_9,s5_9,s6_9) ()
def qgZ (N:Nat):qw:=smL qhq [(.sl 1 (.i .u32)),(.sl 1 (.i .u32)),(.ba 32),.nat,.bl,(.i .i64),(.sl 1 (.i .u32))] jk (fun x=>Yz N x.1 x.2.1 x.2.2.1 x.2.2.2.1 x.2.2.2.2.1 x.2.2.2.2.2.1 x.2.2.2.2.2.2.1) cs1 fun x=>jz (x.1,x.2.1,x.2.2.1,x.2.2.2.1,x.2.2.2.2.1,x.2.2.2.2.2.1,x.2.2.2.2.2.2.1)
theorem qpW (N:Nat):zZ Tryz.prog ji 81 (qE (qE Wq 4) 9) (qgZ N):=zp fun x z h=>qsR N (x.1,x.2.1,x.2.2.1,x.2.2.2.1,x.2.2.2.2.1,x.2.2.2.2.2.1,x.2.2.2.2.2.2.1) N () z h
abbrev Xf:=Vector UInt8 32×Nat×List UInt8×Int×List Int
abbrev v_:=List Int×Int×Bool
def ZN (f:Xf) (y:v_):Ex×TSt:=(.exit 4,⟨0,171,[],[(2,.p 20 [] 0),(3,.v 180 f.2.1),(4,.tv .bl f.2.2.1),(5,xi f.2.2.2.1),(7,.tv (.sl 1 (.i .u32)) f.2.2.2.2),(13,xi y.2.1),(132,xb y.2.2)],[(20,.cell false (.tv (.ba 32) f.1)),(180,.vec false 1 (.sl 1 (.i .u32)) (y.1:List Int))],false,[]⟩)
def qpH (N:Nat):List (Nat×qw):=[]
abbrev ZM:=List Int×Int
def qfE:SP:=⟨0,171,[],[(2,.k (.p 20 [] 0)),(3,.v 180),(4,.x .bl),(5,.x (.i .i64)),(7,.x (.sl 1 (.i .u32))),(13,.x (.i .i64))],[(20,.cell false (.x (.ba 32))),(180,.vec false 1)],false,[]⟩
def qq4 (f:Xf) (v:ZM):TSt:=zq qfE [dv (.sl 1 (.i .u32)) v.1,dv (.ba 32) f.1,dv .nat f.2.1,dv .bl f.2.2.1,dv (.i .i64) f.2.2.2.1,dv (.sl 1 (.i .u32)) f.2.2.2.2,dv (.i .i64) v.2]
def Xt (N:Nat) (o_17_2:Vector UInt8 32) (s3_17:Nat) (s4_17:List UInt8) (s5_17:Int) (s7_17:List Int) (v:ZM):Tree (ZM⊕v_):=
 .cond (decide (v.2 < ((8:Int)))) (
 .chk (0≤v.2∧v.2 < ((s3_17:Nat):Int)) <|
 .bind (jy v.1 s3_17 v.2.toNat) fun e1=>
 .bind (qM s7_17 v.2) fun e2=>
 .chk (0≤v.2∧v.2 < ((s3_17:Nat):Int)) <|
 .chk (qj5 v.1.length s3_17 v.2.toNat) <|
 .chk (qp (v.2 + 1)) <|
 .ret (.inl (v.1.set v.2.toNat (vg .u32 e1 e2),v.2 + 1))) <|
 .ret (.inr (v.1,v.2,decide (v.2 < ((8:Int)))))
def qfH (N n:Nat) (f:Xf) (v:ZM):Option v_:=qQ (Xt N f.1 f.2.1 f.2.2.1 f.2.2.2.1 f.2.2.2.2) some n v
theorem qpk (N:Nat) (f:Xf) (n:Nat) (v:ZM) (y:v_) (h:qfH N n f v=some y):LG Tryz.prog ji 81 (qE (qE Wq 4) 17) (qq4 f v) (ZN f y):=
 zj qk (E:=Q0 N) (L:=qJ (qpH N)) (st:=ZN f) (g:=some) (R:=ZN f) (vT N) (qt (by kernel_rfl) trivial) (rg0 (by kernel_rfl)) (fun v=>by kernel_rfl) (qP (st:=ZN f) fun y=>by rfl) n v y h
def qa8 (N:Nat) (o_17_2:Vector UInt8 32) (s3_17:Nat) (s4_17:List UInt8) (s5_17:Int) (s7_17:List Int) (o_17:List Int) (s13_17:Int):Option v_:=qfH N N (o_17_2,s3_17,s4_17,s5_17,s7_17) (o_17,s13_17)
def qff (N:Nat):qw:=smL qfE [(.sl 1 (.i .u32)),(.ba 32),.nat,.bl,(.i .i64),(.sl 1 (.i .u32)),(.i .i64)] v_ (fun x=>qa8 N x.2.1 x.2.2.1 x.2.2.2.1 x.2.2.2.2.1 x.2.2.2.2.2.1 x.1 x.2.2.2.2.2.2.1) cs1 fun x=>ZN (x.2.1,x.2.2.1,x.2.2.2.1,x.2.2.2.2.1,x.2.2.2.2.2.1)
theorem qov (N:Nat):zZ Tryz.prog ji 81 (qE (qE Wq 4) 17) (qff N):=zp fun x z h=>qpk N (x.2.1,x.2.2.1,x.2.2.2.1,x.2.2.2.2.1,x.2.2.2.2.2.1) N (x.1,x.2.2.2.2.2.2.1) z h
abbrev Wb:=Vector UInt8 32×Nat×List UInt8
abbrev QM:=List Int×Int×Bool
def Js (f:Wb) (y:QM):Ex×TSt:=(.exit 0,⟨0,171,[],[(2,.p 20 [] 0),(3,.v 180 f.2.1),(4,.tv .bl f.2.2),(5,xi y.2.1),(24,xb y.2.2)],[(20,.cell false (.tv (.ba 32) f.1)),(180,.vec false 1 (.sl 1 (.i .u32)) (y.1:List Int))],false,[]⟩)
def qsK (N:Nat):List (Nat×qw):=[(9,qgZ N),(17,qff N)]
abbrev JD:=List Int×Int
def qg5:SP:=⟨0,171,[],[(2,.k (.p 20 [] 0)),(3,.v 180),(4,.x .bl),(5,.x (.i .i64))],[(20,.cell false (.x (.ba 32))),(180,.vec false 1)],false,[]⟩
def qrk (f:Wb) (v:JD):TSt:=zq qg5 [dv (.sl 1 (.i .u32)) v.1,dv (.ba 32) f.1,dv .nat f.2.1,dv .bl f.2.2,dv (.i .i64) v.2]
def Wj (N:Nat) (o_4_2:Vector UInt8 32) (s3_4:Nat) (s4_4:List UInt8) (v:JD):Tree (JD⊕QM):=
 .cond (decide (v.2 < ((s4_4.length:Nat):Int))) (
 .chk (qp (v.2 + 64)) <|
 .chk (0≤v.2∧v.2≤(v.2 + 64)∧(v.2 + 64)≤((s4_4.length:Nat):Int)) <|
 .bind (Kj N ((s4_4.take ((v.2 + 64).toNat)).drop v.2.toNat)) fun r1=>
 .chk (v.1.length=s3_4) <|
 .chk (qh5 v.1.length 4) <|
 .bind (zV [(v.1.length,v.1.length)] (Yz N v.1 v.1 o_4_2 s3_4 s4_4 v.2 r1)) fun z2=>
 .bind (qa8 N o_4_2 s3_4 s4_4 v.2 z2.1 v.1 0) fun z3=>
 .chk (qp (v.2 + 64)) <|
 .ret (.inl (z3.1,v.2 + 64))) <|
 .ret (.inr (v.1,v.2,decide (v.2 < ((s4_4.length:Nat):Int))))
def qg_ (N n:Nat) (f:Wb) (v:JD):Option QM:=qQ (Wj N f.1 f.2.1 f.2.2) some n v
theorem qsG (N:Nat) (f:Wb) (n:Nat) (v:JD) (y:QM) (h:qg_ N n f v=some y):LG Tryz.prog ji 81 (qE Wq 4) (qrk f v) (Js f y):=
 zj qk (E:=Q0 N) (L:=qJ (qsK N)) (st:=Js f) (g:=some) (R:=Js f) (vT N) (qt (by kernel_rfl) ⟨qpW N,qov N,trivial⟩) (rg0 (by kernel_rfl)) (fun v=>by kernel_rfl) (qP (st:=Js f) fun y=>by rfl) n v y h
def qcg (N:Nat) (o_4_2:Vector UInt8 32) (s3_4:Nat) (s4_4:List UInt8) (o_4:List Int) (s5_4:Int):Option QM:=qg_ N N (o_4_2,s3_4,s4_4) (o_4,s5_4)
def qho (N:Nat):qw:=smL qg5 [(.sl 1 (.i .u32)),(.ba 32),.nat,.bl,(.i .i64)] QM (fun x=>qcg N x.2.1 x.2.2.1 x.2.2.2.1 x.1 x.2.2.2.2.1) cs1 fun x=>Js (x.2.1,x.2.2.1,x.2.2.2.1)
theorem qqU (N:Nat):zZ Tryz.prog ji 81 (qE Wq 4) (qho N):=zp fun x z h=>qsG N (x.2.1,x.2.2.1,x.2.2.2.1) N (x.1,x.2.2.2.2.1) z h
abbrev XG:=List Int×Vector UInt8 32×Vector UInt8 32×Nat×Int
abbrev Qg:=Int×Int×Bool
def ZI (f:XG) (y:Qg):Ex×TSt:=(.exit 8,⟨0,171,[],[(2,.p 20 [] 0),(3,.v 180 f.2.2.2.1),(14,.p 140 [] 0),(15,xi f.2.2.2.2),(16,.tv (.i .u32) (y.1:Int)),(17,xi y.2.1),(160,xb y.2.2)],[(20,.cell false (.tv (.ba 32) f.2.1)),(140,.cell false (.tv (.ba 32) f.2.2.1)),(180,.vec false 1 (.sl 1 (.i .u32)) f.1)],false,[]⟩)
def qrg (N:Nat):List (Nat×qw):=[]
abbrev ZQ:=Int×Int
def qft:SP:=⟨0,171,[],[(2,.k (.p 20 [] 0)),(3,.v 180),(14,.k (.p 140 [] 0)),(15,.x (.i .i64)),(16,.x (.i .u32)),(17,.x (.i .i64))],[(20,.cell false (.x (.ba 32))),(140,.cell false (.x (.ba 32))),(180,.vec false 1)],false,[]⟩
def qrj (f:XG) (v:ZQ):TSt:=zq qft [dv (.sl 1 (.i .u32)) f.1,dv (.ba 32) f.2.1,dv (.ba 32) f.2.2.1,dv .nat f.2.2.2.1,dv (.i .i64) f.2.2.2.2,dv (.i .u32) v.1,dv (.i .i64) v.2]
def Xd (N:Nat) (o_26:List Int) (o_26_2:Vector UInt8 32) (o_26_3:Vector UInt8 32) (s3_26:Nat) (s15_26:Int) (v:ZQ):Tree (ZQ⊕Qg):=
 .cond (decide (v.2 < ((3:Int)))) (
 .chk ((256:Int)≠0) <|
 .chk (qp (v.2 + 1)) <|
 .ret (.inl (IntKind.u32.wrap (v.1.tdiv 256),v.2 + 1))) <|
 .ret (.inr (v.1,v.2,decide (v.2 < ((3:Int)))))
def qfh (N n:Nat) (f:XG) (v:ZQ):Option Qg:=qQ (Xd N f.1 f.2.1 f.2.2.1 f.2.2.2.1 f.2.2.2.2) some n v
theorem qpR (N:Nat) (f:XG) (n:Nat) (v:ZQ) (y:Qg) (h:qfh N n f v=some y):LG Tryz.prog ji 81 (qE (qE Wq 22) 26) (qrj f v) (ZI f y):=
 zj qk (E:=Q0 N) (L:=qJ (qrg N)) (st:=ZI f) (g:=some) (R:=ZI f) (vT N) (qt (by kernel_rfl) trivial) (rg0 (by kernel_rfl)) (fun v=>by kernel_rfl) (qP (st:=ZI f) fun y=>by rfl) n v y h
def qbm (N:Nat) (o_26:List Int) (o_26_2:Vector UInt8 32) (o_26_3:Vector UInt8 32) (s3_26:Nat) (s15_26:Int) (s16_26:Int) (s17_26:Int):Option Qg:=qfh N N (o_26,o_26_2,o_26_3,s3_26,s15_26) (s16_26,s17_26)
def qf2 (N:Nat):qw:=smL qft [(.sl 1 (.i .u32)),(.ba 32),(.ba 32),.nat,(.i .i64),(.i .u32),(.i .i64)] Qg (fun x=>qbm N x.1 x.2.1 x.2.2.1 x.2.2.2.1 x.2.2.2.2.1 x.2.2.2.2.2.1 x.2.2.2.2.2.2.1) cs1 fun x=>ZI (x.1,x.2.1,x.2.2.1,x.2.2.2.1,x.2.2.2.2.1)
theorem qon (N:Nat):zZ Tryz.prog ji 81 (qE (qE Wq 22) 26) (qf2 N):=zp fun x z h=>qpR N (x.1,x.2.1,x.2.2.1,x.2.2.2.1,x.2.2.2.2.1) N (x.2.2.2.2.2.1,x.2.2.2.2.2.2.1) z h
abbrev XA:=List Int×Vector UInt8 32×Nat
abbrev v9:=Vector UInt8 32×Int×Bool
def ZU (f:XA) (y:v9):Ex×TSt:=(.exit 6,⟨0,171,[],[(2,.p 20 [] 0),(3,.v 180 f.2.2),(14,.p 140 [] 0),(15,xi y.2.1),(149,xb y.2.2)],[(20,.cell false (.tv (.ba 32) f.2.1)),(140,.cell false (.tv (.ba 32) (y.1:Vector UInt8 32))),(180,.vec false 1 (.sl 1 (.i .u32)) f.1)],false,[]⟩)
def qp7 (N:Nat):List (Nat×qw):=[(26,qf2 N)]
abbrev ZT:=Vector UInt8 32×Int
def qf6:SP:=⟨0,171,[],[(2,.k (.p 20 [] 0)),(3,.v 180),(14,.k (.p 140 [] 0)),(15,.x (.i .i64))],[(20,.cell false (.x (.ba 32))),(140,.cell false (.x (.ba 32))),(180,.vec false 1)],false,[]⟩
def qqv (f:XA) (v:ZT):TSt:=zq qf6 [dv (.sl 1 (.i .u32)) f.1,dv (.ba 32) f.2.1,dv (.ba 32) v.1,dv .nat f.2.2,dv (.i .i64) v.2]
def Xw (N:Nat) (o_22:List Int) (o_22_2:Vector UInt8 32) (s3_22:Nat) (v:ZT):Tree (ZT⊕v9):=
 .cond (decide (v.2 < ((32:Int)))) (
 .chk ((4:Int)≠0) <|
 .chk (qp (v.2.tdiv 4)) <|
 .chk (0≤(v.2.tdiv 4)∧(v.2.tdiv 4) < ((s3_22:Nat):Int)) <|
 .bind (jy o_22 s3_22 ((v.2.tdiv 4).toNat)) fun e1=>
 .chk ((4:Int)≠0) <|
 .bind (qbm N o_22 o_22_2 v.1 s3_22 v.2 e1 (v.2.tmod 4)) fun z2=>
 .chk ((256:Int)≠0) <|
 .chk (0≤v.2∧v.2 < ((32:Nat):Int)) <|
 .chk (inB (IntKind.u8.wrap (z2.1.tmod 256))) <|
 .chk (v.2.toNat < 32) <|
 .chk (qp (v.2 + 1)) <|
 .ret (.inl (v.1.setIfInBounds v.2.toNat (UInt8.ofNat (IntKind.u8.wrap (z2.1.tmod 256)).toNat),v.2 + 1))) <|
 .ret (.inr (v.1,v.2,decide (v.2 < ((32:Int)))))
def qfN (N n:Nat) (f:XA) (v:ZT):Option v9:=qQ (Xw N f.1 f.2.1 f.2.2) some n v
theorem qpn (N:Nat) (f:XA) (n:Nat) (v:ZT) (y:v9) (h:qfN N n f v=some y):LG Tryz.prog ji 81 (qE Wq 22) (qqv f v) (ZU f y):=
 zj qk (E:=Q0 N) (L:=qJ (qp7 N)) (st:=ZU f) (g:=some) (R:=ZU f) (vT N) (qt (by kernel_rfl) ⟨qon N,trivial⟩) (rg0 (by kernel_rfl)) (fun v=>by kernel_rfl) (qP (st:=ZU f) fun y=>by rfl) n v y h
def qaN (N:Nat) (o_22:List Int) (o_22_2:Vector UInt8 32) (s3_22:Nat) (o_22_3:Vector UInt8 32) (s15_22:Int):Option v9:=qfN N N (o_22,o_22_2,s3_22) (o_22_3,s15_22)
def qfM (N:Nat):qw:=smL qf6 [(.sl 1 (.i .u32)),(.ba 32),(.ba 32),.nat,(.i .i64)] v9 (fun x=>qaN N x.1 x.2.1 x.2.2.2.1 x.2.2.1 x.2.2.2.2.1) cs1 fun x=>ZU (x.1,x.2.1,x.2.2.2.1)
theorem qn2 (N:Nat):zZ Tryz.prog ji 81 (qE Wq 22) (qfM N):=zp fun x z h=>qpn N (x.1,x.2.1,x.2.2.2.1) N (x.2.2.1,x.2.2.2.2.1) z h
def qwH (z:Vector UInt8 32):TV×THp:=(.tv (.ba 32) z,[])
def qdB (N:Nat) (a0:List UInt8):Tree (Vector UInt8 32):=
 .bind (WU N a0) fun r1=>
 .bind (qcg N ((Vector.replicate 32 0)) 8 r1 [1779033703,3144134277,1013904242,2773480762,1359893119,2600822924,528734635,1541459225] 0) fun z2=>
 .bind (qaN N z2.1 ((Vector.replicate 32 0)) 8 ((Vector.replicate 32 0)) 0) fun z3=>
 .ret z3.1
def qaY (N:Nat) (a0:List UInt8):Option (Vector UInt8 32):=(qdB N a0).run some
def qyU (N:Nat):List (Nat×qw):=[(4,qho N),(22,qfM N)]
def qkQ (N:Nat):Ent:=smF ⟨81,[],[.x .bl],[],[]⟩ [.bl] (Vector UInt8 32) (fun x=>qaY N x.1) cs1 fun _=>qwH
theorem qwe (N:Nat):zf Tryz.prog (qkQ N):=
 zd (H:=ji) (L:=qJ (qyU N)) (ts:=[.bl]) (T:=fun x=>qdB N x.1) 0 qRf (vT N) (qt (by kernel_rfl) ⟨qqU N,qn2 N,trivial⟩) (rg0 (by kernel_rfl)) fun x=>by kernel_rfl
noncomputable def qRj:Code:=Tryz.f48.body.getD .skip
theorem qRX:FnF Tryz.prog 48 Tryz.f48 qRj:=⟨qk,by kernel_rfl,by kernel_rfl,by kernel_rfl⟩
def qz5:TH:={ live:=[(0,[0,2]),(1,[2])] }
def qAn (N:Nat):List Ent:=[qkQ N]
theorem qvP (N:Nat):qU Tryz.prog (qAn N):=⟨qwe N,trivial⟩
def qAf (z:Vector UInt8 32):TV×THp:=(.tv (.ba 32) z,[])
def qe2 (N:Nat) (a0:List UInt8):Tree (Vector UInt8 32):=
 .chk (qmx (a0:List UInt8).length) <|
 .bind (qaY N a0) fun r1=>
 .ret r1
def X7 (N:Nat) (a0:List UInt8):Option (Vector UInt8 32):=(qe2 N a0).run some
def qAu (N:Nat):List (Nat×qw):=[]
def qe4 (N:Nat):Ent:=smF ⟨48,[],[.x .s],[],[]⟩ [.s] (Vector UInt8 32) (fun x=>X7 N x.1) cs1 fun _=>qAf
theorem qkP (N:Nat):zf Tryz.prog (qe4 N):=
 zd (H:=qz5) (L:=qJ (qAu N)) (ts:=[.s]) (T:=fun x=>qe2 N x.1) 0 qRX (qvP N) (qt (by kernel_rfl) trivial) (rg0 (by kernel_rfl)) fun x=>by kernel_rfl
noncomputable def qBS:Code:=Tryz.f47.body.getD .skip
theorem qSU:FnF Tryz.prog 47 Tryz.f47 qBS:=⟨qk,by kernel_rfl,by kernel_rfl,by kernel_rfl⟩
def qck:TH:={ live:=[(0,[2,3]),(1,[2,3,5]),(2,[2,3,5,7]),(3,[2,3,5]),(4,[2,3,5,16]),(5,[4]),(6,[4])] }
def qi7 (N:Nat):List Ent:=[]
theorem qhx (N:Nat):qU Tryz.prog (qi7 N):=trivial
abbrev Xy:=Vector UInt8 32×Vector UInt8 32
abbrev Qh:=Bool⊕(Int×Bool)
def Z3 (f:Xy):Qh→Ex×TSt
 | .inl y=>(.ret,⟨0,24,[],[(4,xb y)],[],false,[]⟩)
 | .inr y=>(.exit 0,⟨0,24,[],[(2,.p 20 [] 0),(3,.p 30 [] 0),(5,xi y.1),(7,xb y.2)],[(20,.cell false (.tv (.ba 32) f.1)),(30,.cell false (.tv (.ba 32) f.2))],false,[]⟩)
def qq1 (N:Nat):List (Nat×qw):=[]
abbrev ZD:=Int
def qfW:SP:=⟨0,24,[],[(2,.k (.p 20 [] 0)),(3,.k (.p 30 [] 0)),(5,.x (.i .i64))],[(20,.cell false (.x (.ba 32))),(30,.cell false (.x (.ba 32)))],false,[]⟩
def qp8 (f:Xy) (v:ZD):TSt:=zq qfW [dv (.ba 32) f.1,dv (.ba 32) f.2,dv (.i .i64) v]
def Z4 (N:Nat) (o_2:Vector UInt8 32) (o_2_2:Vector UInt8 32) (v:ZD):Tree (ZD⊕Qh):=
 .cond (decide (v < ((32:Int)))) (
 .chk (0≤v∧v < ((32:Nat):Int)) <|
 .chk (v.toNat < 32) <|
 .chk (0≤v∧v < ((32:Nat):Int)) <|
 .chk (v.toNat < 32) <|
 .cond (!decide ((((o_2.toList.getD v.toNat 0).toNat:Nat):Int)=(((o_2_2.toList.getD v.toNat 0).toNat:Nat):Int))) (
 .chk (0≤v∧v < ((32:Nat):Int)) <|
 .chk (v.toNat < 32) <|
 .chk (0≤v∧v < ((32:Nat):Int)) <|
 .chk (v.toNat < 32) <|
 .ret (.inr (.inl (decide ((((o_2.toList.getD v.toNat 0).toNat:Nat):Int) < (((o_2_2.toList.getD v.toNat 0).toNat:Nat):Int)))))) <|
 .chk (qp (v + 1)) <|
 .ret (.inl (v + 1))) <|
 .ret (.inr (.inr ((v,decide (v < ((32:Int)))))))
def qfv (N n:Nat) (f:Xy) (v:ZD):Option Qh:=qQ (Z4 N f.1 f.2) some n v
theorem qpr (N:Nat) (f:Xy) (n:Nat) (v:ZD) (y:Qh) (h:qfv N n f v=some y):LG Tryz.prog qck 47 (qE qBS 2) (qp8 f v) (Z3 f y):=
 zj qk (E:=qi7 N) (L:=qJ (qq1 N)) (st:=Z3 f) (g:=some) (R:=Z3 f) (qhx N) (qt (by kernel_rfl) trivial) (rg0 (by kernel_rfl)) (fun v=>by kernel_rfl) (qP (st:=Z3 f) fun y=>by rcases y with _ | _<;>rfl) n v y h
def qbw (N:Nat) (o_2:Vector UInt8 32) (o_2_2:Vector UInt8 32) (s5_2:Int):Option Qh:=qfv N N (o_2,o_2_2) s5_2
def qfi (N:Nat):qw:=smL qfW [(.ba 32),(.ba 32),(.i .i64)] Qh (fun x=>qbw N x.1 x.2.1 x.2.2.1) (csS cs1) fun x=>Z3 (x.1,x.2.1)
theorem qor (N:Nat):zZ Tryz.prog qck 47 (qE qBS 2) (qfi N):=zp fun x z h=>qpr N (x.1,x.2.1) N x.2.2.1 z h
def qvY (z:Bool):TV×THp:=(xb z,[])
def qcx (N:Nat) (a0:Vector UInt8 32) (a1:Vector UInt8 32):Tree (Bool):=
 .bind (qbw N a0 a1 0) fun z1=>
 .sum z1 (fun z2=>
 .ret z2) fun z2=>
 .ret false
def WN (N:Nat) (a0:Vector UInt8 32) (a1:Vector UInt8 32):Option (Bool):=(qcx N a0 a1).run some
def qwl (N:Nat):List (Nat×qw):=[(2,qfi N)]
def qcf (N:Nat):Ent:=smF ⟨47,[],[.x (.ba 32),.x (.ba 32)],[],[]⟩ [(.ba 32),(.ba 32)] (Bool) (fun x=>WN N x.1 x.2.1) cs1 fun _=>qvY
theorem qhO (N:Nat):zf Tryz.prog (qcf N):=
 zd (H:=qck) (L:=qJ (qwl N)) (ts:=[(.ba 32),(.ba 32)]) (T:=fun x=>qcx N x.1 x.2.1) 0 qSU (qhx N) (qt (by kernel_rfl) ⟨qor N,trivial⟩) (rg0 (by kernel_rfl)) fun x=>by kernel_rfl
noncomputable def qwE:Code:=Tryz.f144.body.getD .skip
theorem qQJ:FnF Tryz.prog 144 Tryz.f144 qwE:=⟨qk,by kernel_rfl,by kernel_rfl,by kernel_rfl⟩
def qcz:TH:={ live:=[(0,[2,3]),(1,[2,3,14]),(2,[5]),(3,[4]),(4,[2,3,6]),(5,[2,3,6,7]),(6,[2,3,6,7,29]),(7,[8]),(8,[4]),(9,[2,3,9]),(10,[2,3,9,38]),(11,[2,3,9]),(12,[2,3,9,45]),(13,[4]),(14,[2,3,9,54]),(15,[4]),(16,[4])] }
def qjt (N:Nat):List Ent:=[vu,qe4 N,qcf N]
theorem qg0 (N:Nat):qU Tryz.prog (qjt N):=⟨vV,qkP N,qhO N,trivial⟩
abbrev VL:=qe×qe
abbrev vQ:=Bool⊕(Int×Bool)
def Zd (f:VL):vQ→Ex×TSt
 | .inl y=>(.ret,⟨0,64,[],[(4,xb y)],[],false,[]⟩)
 | .inr y=>(.exit 0,⟨0,64,[],[(2,.p 20 [] 0),(3,.p 30 [] 0),(9,xi y.1),(38,xb y.2)],[(20,.cell false (.tv qq f.1)),(30,.cell false (.tv qq f.2))],false,[]⟩)
def qnY (N:Nat):List (Nat×qw):=[]
abbrev Zh:=Int
def qeZ:SP:=⟨0,64,[],[(2,.k (.p 20 [] 0)),(3,.k (.p 30 [] 0)),(9,.x (.i .i64))],[(20,.cell false (.x qq)),(30,.cell false (.x qq))],false,[]⟩
def qol (f:VL) (v:Zh):TSt:=zq qeZ [dv qq f.1,dv qq f.2,dv (.i .i64) v]
def vL (N:Nat) (o_10:qe) (o_10_2:qe) (v:Zh):Tree (Zh⊕vQ):=
 .cond (decide (v < (((qe.V o_10_2).length:Nat):Int))) (
 .cond (decide ((((qe.V o_10).length:Nat):Int)≤v)) (
 .ret (.inr (.inl true))) <|
 .bind (qM (qe.V o_10) v) fun e1=>
 .bind (qM (qe.V o_10_2) v) fun e2=>
 .cond (!decide (((e1.toNat:Nat):Int)=((e2.toNat:Nat):Int))) (
 .bind (qM (qe.V o_10) v) fun e3=>
 .bind (qM (qe.V o_10_2) v) fun e4=>
 .ret (.inr (.inl (decide (((e3.toNat:Nat):Int) < ((e4.toNat:Nat):Int)))))) <|
 .chk (qp (v + 1)) <|
 .ret (.inl (v + 1))) <|
 .ret (.inr (.inr ((v,decide (v < (((qe.V o_10_2).length:Nat):Int))))))
def qeR (N n:Nat) (f:VL) (v:Zh):Option vQ:=qQ (vL N f.1 f.2) some n v
theorem qn9 (N:Nat) (f:VL) (n:Nat) (v:Zh) (y:vQ) (h:qeR N n f v=some y):LG Tryz.prog qcz 144 (qE qwE 10) (qol f v) (Zd f y):=
 zj qk (E:=qjt N) (L:=qJ (qnY N)) (st:=Zd f) (g:=some) (R:=Zd f) (qg0 N) (qt (by kernel_rfl) trivial) (rg0 (by kernel_rfl)) (fun v=>by kernel_rfl) (qP (st:=Zd f) fun y=>by rcases y with _ | _<;>rfl) n v y h
def qhE (N:Nat) (o_10:qe) (o_10_2:qe) (s9_10:Int):Option vQ:=qeR N N (o_10,o_10_2) s9_10
def qeP (N:Nat):qw:=smL qeZ [qq,qq,(.i .i64)] vQ (fun x=>qhE N x.1 x.2.1 x.2.2.1) (csS cs1) fun x=>Zd (x.1,x.2.1)
theorem qnn (N:Nat):zZ Tryz.prog qcz 144 (qE qwE 10) (qeP N):=zp fun x z h=>qn9 N (x.1,x.2.1) N x.2.2.1 z h
def qwr (z:Bool):TV×THp:=(xb z,[])
def qcj (N:Nat) (a0:qe) (a1:qe):Tree (Bool):=
 .cond (!(eqE qh (qe.S a0) (qe.S a1))) (
 .bind (zN (qe.S a0) (qe.S a1)) fun r1=>
 .ret r1) <|
 .bind (X7 N (qe.V a0)) fun r1=>
 .bind (X7 N (qe.V a1)) fun r2=>
 .cond (!(eqE (.ba 32) r1 r2)) (
 .bind (WN N r1 r2) fun r3=>
 .ret r3) <|
 .bind (qhE N a0 a1 0) fun z3=>
 .sum z3 (fun z4=>
 .ret z4) fun z4=>
 .ret false
def KK (N:Nat) (a0:qe) (a1:qe):Option (Bool):=(qcj N a0 a1).run some
def qvT (N:Nat):List (Nat×qw):=[(10,qeP N)]
def qjp (N:Nat):Ent:=smF ⟨144,[],[.x qq,.x qq],[],[]⟩ [qq,qq] (Bool) (fun x=>KK N x.1 x.2.1) cs1 fun _=>qwr
theorem qtx (N:Nat):zf Tryz.prog (qjp N):=
 zd (H:=qcz) (L:=qJ (qvT N)) (ts:=[qq,qq]) (T:=fun x=>qcj N x.1 x.2.1) 0 qQJ (qg0 N) (qt (by kernel_rfl) ⟨qnn N,trivial⟩) (rg0 (by kernel_rfl)) fun x=>by kernel_rfl
noncomputable def qON:Code:=Tryz.f131.body.getD .skip
theorem qPH:FnF Tryz.prog 131 Tryz.f131 qON:=⟨qk,by kernel_rfl,by kernel_rfl,by kernel_rfl⟩
def qvs:TH:={ live:=[(0,[2,3,4]),(1,[2,3,4,5]),(2,[2,3,4,9]),(3,[4]),(4,[4])] }
def qvV (N:Nat):List Ent:=[qjp N]
theorem qsc (N:Nat):qU Tryz.prog (qvV N):=⟨qtx N,trivial⟩
def qv4 (z:qe):TV×THp:=(.tv qq z,[])
def qcF (N:Nat) (a0:qe) (a1:qe):Tree (qe):=
 .bind (KK N a0 a1) fun r1=>
 .cond r1 (
 .ret a1) <|
 .ret a0
def KZ (N:Nat) (a0:qe) (a1:qe):Option (qe):=(qcF N a0 a1).run some
def qv6 (N:Nat):List (Nat×qw):=[]
def qje (N:Nat):Ent:=smF ⟨131,[],[.x qq,.x qq],[],[]⟩ [qq,qq] (qe) (fun x=>KZ N x.1 x.2.1) cs1 fun _=>qv4
theorem qtr (N:Nat):zf Tryz.prog (qje N):=
 zd (H:=qvs) (L:=qJ (qv6 N)) (ts:=[qq,qq]) (T:=fun x=>qcF N x.1 x.2.1) 0 qPH (qsc N) (qt (by kernel_rfl) trivial) (rg0 (by kernel_rfl)) fun x=>by kernel_rfl
noncomputable def qxy:Code:=Tryz.f102.body.getD .skip
theorem qPW:FnF Tryz.prog 102 Tryz.f102 qxy:=⟨qk,by kernel_rfl,by kernel_rfl,by kernel_rfl⟩
def qb9:TH:={ live:=[(0,[2,3,4]),(1,[2,3,4,6]),(2,[2,3,4,6,7]),(3,[2,3,4,31]),(4,[4,5]),(5,[2,3,4,8]),(6,[2,3,4,8,9]),(7,[2,3,4,8,9,42]),(8,[2,3,4,8,9]),(9,[2,3,4,8,9,10,11]),(10,[2,3,4,8,9,10,11,12,13]),(11,[2,3,4,8,9,10,11,12,13,60]),(12,[2,3,4,8,9,10,11,12,13]),(13,[2,3,4,8,9,10,11,12,13,65]),(14,[2,3,4,8,9,10,11,13]),(15,[2,3,4,8,9,10,11,13,14]),(16,[2,3,4,8,9,10,78]),(17,[2,3,4,8,9]),(18,[4,5])],dec:=[21,25,58,73,76],nil:=[(0,[⟨.ob 40 [2],45,(.sl 4 qB)⟩]),(4,[⟨.ob 40 [2],45,(.sl 4 qB)⟩]),(5,[⟨.ob 80 [2],85,(.sl 4 qB)⟩])] }
def qjc (N:Nat):List Ent:=[Y7 N,qkC,qjb N,qje N,vu]
theorem qg3 (N:Nat):qU Tryz.prog (qjc N):=⟨qcy N,qwb,qtk N,qtr N,vV,trivial⟩
abbrev XI:=List qd×qa×qa×Vector UInt8 16×qc×Vector UInt8 16×qc
abbrev Qm:=List qd×Int×Bool
def ZL (f:XI) (y:Qm):Ex×TSt:=(.exit 0,⟨0,88,[],[(2,.p 20 [] 0),(3,.p 30 [] 0),(4,.p 40 [] 0),(8,.p 80 [] 0),(9,xi y.2.1),(42,xb y.2.2)],[(20,.cell false (.tv qf f.2.1)),(30,.cell false (.tv qf f.2.2.1)),(40,.cell false (.ag [.tv (.ba 16) f.2.2.2.1,.tv qh f.2.2.2.2.1,.v 45 f.1.length])),(45,.vec false 4 (.sl 4 qB) f.1),(80,.cell false (.ag [.tv (.ba 16) f.2.2.2.2.2.1,.tv qh f.2.2.2.2.2.2,.v 85 y.1.length])),(85,.vec false 4 (.sl 4 qB) (y.1:List qd))],false,[]⟩)
def qpA (N:Nat):List (Nat×qw):=[]
abbrev Ja:=List qd×Int
def qfA:SP:=⟨0,88,[],[(2,.k (.p 20 [] 0)),(3,.k (.p 30 [] 0)),(4,.k (.p 40 [] 0)),(8,.k (.p 80 [] 0)),(9,.x (.i .i64))],[(20,.cell false (.x qf)),(30,.cell false (.x qf)),(40,.cell false (.ag [.x (.ba 16),.x qh,.vs 45])),(45,.vec false 4),(80,.cell false (.ag [.x (.ba 16),.x qh,.vs 85])),(85,.vec false 4)],false,[]⟩
def qqu (f:XI) (v:Ja):TSt:=zq qfA [dv (.sl 4 qB) f.1,dv (.sl 4 qB) v.1,dv qf f.2.1,dv qf f.2.2.1,dv (.ba 16) f.2.2.2.1,dv qh f.2.2.2.2.1,dv (.ba 16) f.2.2.2.2.2.1,dv qh f.2.2.2.2.2.2,dv (.i .i64) v.2]
def Xk (N:Nat) (o_7:List qd) (o_7_3:qa) (o_7_4:qa) (o_7_5:Vector UInt8 16) (o_7_6:qc) (o_7_7:Vector UInt8 16) (o_7_8:qc) (v:Ja):Tree (Ja⊕Qm):=
 .cond (decide (v.2 < ((8:Int)))) (
 .bind (WB N o_7_3 v.2) fun r1=>
 .bind (WB N o_7_4 v.2) fun r2=>
 .cond r1.2 (
 .cond r2.2 (
 .bind (KZ N r1.1 r2.1) fun r3=>
 .cond (!r1.2) (
 .bind (zN o_7_8 (qe.S r2.1)) fun r4=>
 .cond r1.2 (
 .cond r4 (
 .chk (zU v.1.length v.1.length ((v.1++[qd.mk v.2 r2.1]).length) 40) <|
 .chk (qp (v.2 + 1)) <|
 .ret (.inl (v.1++[qd.mk v.2 r2.1],v.2 + 1))) <|
 .chk (qp (v.2 + 1)) <|
 .ret (.inl (v.1,v.2 + 1))) <|
 .cond r2.2 (
 .cond r4 (
 .chk (zU v.1.length v.1.length ((v.1++[qd.mk v.2 r2.1]).length) 40) <|
 .chk (qp (v.2 + 1)) <|
 .ret (.inl (v.1++[qd.mk v.2 r2.1],v.2 + 1))) <|
 .chk (qp (v.2 + 1)) <|
 .ret (.inl (v.1,v.2 + 1))) <|
 .chk (qp (v.2 + 1)) <|
 .ret (.inl (v.1,v.2 + 1))) <|
 .bind (zN o_7_8 (qe.S r3)) fun r4=>
 .cond r1.2 (
 .cond r4 (
 .chk (zU v.1.length v.1.length ((v.1++[qd.mk v.2 r3]).length) 40) <|
 .chk (qp (v.2 + 1)) <|
 .ret (.inl (v.1++[qd.mk v.2 r3],v.2 + 1))) <|
 .chk (qp (v.2 + 1)) <|
 .ret (.inl (v.1,v.2 + 1))) <|
 .cond r2.2 (
 .cond r4 (
 .chk (zU v.1.length v.1.length ((v.1++[qd.mk v.2 r3]).length) 40) <|
 .chk (qp (v.2 + 1)) <|
 .ret (.inl (v.1++[qd.mk v.2 r3],v.2 + 1))) <|
 .chk (qp (v.2 + 1)) <|
 .ret (.inl (v.1,v.2 + 1))) <|
 .chk (qp (v.2 + 1)) <|
 .ret (.inl (v.1,v.2 + 1))) <|
 .cond (!r1.2) (
 .bind (zN o_7_8 (qe.S r2.1)) fun r3=>
 .cond r1.2 (
 .cond r3 (
 .chk (zU v.1.length v.1.length ((v.1++[qd.mk v.2 r2.1]).length) 40) <|
 .chk (qp (v.2 + 1)) <|
 .ret (.inl (v.1++[qd.mk v.2 r2.1],v.2 + 1))) <|
 .chk (qp (v.2 + 1)) <|
 .ret (.inl (v.1,v.2 + 1))) <|
 .cond r2.2 (
 .cond r3 (
 .chk (zU v.1.length v.1.length ((v.1++[qd.mk v.2 r2.1]).length) 40) <|
 .chk (qp (v.2 + 1)) <|
 .ret (.inl (v.1++[qd.mk v.2 r2.1],v.2 + 1))) <|
 .chk (qp (v.2 + 1)) <|
 .ret (.inl (v.1,v.2 + 1))) <|
 .chk (qp (v.2 + 1)) <|
 .ret (.inl (v.1,v.2 + 1))) <|
 .bind (zN o_7_8 (qe.S r1.1)) fun r3=>
 .cond r1.2 (
 .cond r3 (
 .chk (zU v.1.length v.1.length ((v.1++[qd.mk v.2 r1.1]).length) 40) <|
 .chk (qp (v.2 + 1)) <|
 .ret (.inl (v.1++[qd.mk v.2 r1.1],v.2 + 1))) <|
 .chk (qp (v.2 + 1)) <|
 .ret (.inl (v.1,v.2 + 1))) <|
 .cond r2.2 (
 .cond r3 (
 .chk (zU v.1.length v.1.length ((v.1++[qd.mk v.2 r1.1]).length) 40) <|
 .chk (qp (v.2 + 1)) <|
 .ret (.inl (v.1++[qd.mk v.2 r1.1],v.2 + 1))) <|
 .chk (qp (v.2 + 1)) <|
 .ret (.inl (v.1,v.2 + 1))) <|
 .chk (qp (v.2 + 1)) <|
 .ret (.inl (v.1,v.2 + 1))) <|
 .cond (!r1.2) (
 .bind (zN o_7_8 (qe.S r2.1)) fun r3=>
 .cond r1.2 (
 .cond r3 (
 .chk (zU v.1.length v.1.length ((v.1++[qd.mk v.2 r2.1]).length) 40) <|
 .chk (qp (v.2 + 1)) <|
 .ret (.inl (v.1++[qd.mk v.2 r2.1],v.2 + 1))) <|
 .chk (qp (v.2 + 1)) <|
 .ret (.inl (v.1,v.2 + 1))) <|
 .cond r2.2 (
 .cond r3 (
 .chk (zU v.1.length v.1.length ((v.1++[qd.mk v.2 r2.1]).length) 40) <|
 .chk (qp (v.2 + 1)) <|
 .ret (.inl (v.1++[qd.mk v.2 r2.1],v.2 + 1))) <|
 .chk (qp (v.2 + 1)) <|
 .ret (.inl (v.1,v.2 + 1))) <|
 .chk (qp (v.2 + 1)) <|
 .ret (.inl (v.1,v.2 + 1))) <|
 .bind (zN o_7_8 (qe.S r1.1)) fun r3=>
 .cond r1.2 (
 .cond r3 (
 .chk (zU v.1.length v.1.length ((v.1++[qd.mk v.2 r1.1]).length) 40) <|
 .chk (qp (v.2 + 1)) <|
 .ret (.inl (v.1++[qd.mk v.2 r1.1],v.2 + 1))) <|
 .chk (qp (v.2 + 1)) <|
 .ret (.inl (v.1,v.2 + 1))) <|
 .cond r2.2 (
 .cond r3 (
 .chk (zU v.1.length v.1.length ((v.1++[qd.mk v.2 r1.1]).length) 40) <|
 .chk (qp (v.2 + 1)) <|
 .ret (.inl (v.1++[qd.mk v.2 r1.1],v.2 + 1))) <|
 .chk (qp (v.2 + 1)) <|
 .ret (.inl (v.1,v.2 + 1))) <|
 .chk (qp (v.2 + 1)) <|
 .ret (.inl (v.1,v.2 + 1))) <|
 .ret (.inr (v.1,v.2,decide (v.2 < ((8:Int)))))
def qfD (N n:Nat) (f:XI) (v:Ja):Option Qm:=qQ (Xk N f.1 f.2.1 f.2.2.1 f.2.2.2.1 f.2.2.2.2.1 f.2.2.2.2.2.1 f.2.2.2.2.2.2) some n v
theorem qqq (N:Nat) (f:XI) (n:Nat) (v:Ja) (y:Qm) (h:qfD N n f v=some y):LG Tryz.prog qb9 102 (qE qxy 7) (qqu f v) (ZL f y):=
 zj qk (E:=qjc N) (L:=qJ (qpA N)) (st:=ZL f) (g:=some) (R:=ZL f) (qg3 N) (qt (by kernel_rfl) trivial) (rg0 (by kernel_rfl)) (fun v=>by kernel_rfl) (qP (st:=ZL f) fun y=>by rfl) n v y h
def qa_ (N:Nat) (o_7:List qd) (o_7_3:qa) (o_7_4:qa) (o_7_5:Vector UInt8 16) (o_7_6:qc) (o_7_7:Vector UInt8 16) (o_7_8:qc) (o_7_2:List qd) (s9_7:Int):Option Qm:=qfD N N (o_7,o_7_3,o_7_4,o_7_5,o_7_6,o_7_7,o_7_8) (o_7_2,s9_7)
def qf1 (N:Nat):qw:=smL qfA [(.sl 4 qB),(.sl 4 qB),qf,qf,(.ba 16),qh,(.ba 16),qh,(.i .i64)] Qm (fun x=>qa_ N x.1 x.2.2.1 x.2.2.2.1 x.2.2.2.2.1 x.2.2.2.2.2.1 x.2.2.2.2.2.2.1 x.2.2.2.2.2.2.2.1 x.2.1 x.2.2.2.2.2.2.2.2.1) cs1 fun x=>ZL (x.1,x.2.2.1,x.2.2.2.1,x.2.2.2.2.1,x.2.2.2.2.2.1,x.2.2.2.2.2.2.1,x.2.2.2.2.2.2.2.1)
theorem qos (N:Nat):zZ Tryz.prog qb9 102 (qE qxy 7) (qf1 N):=zp fun x z h=>qqq N (x.1,x.2.2.1,x.2.2.2.1,x.2.2.2.2.1,x.2.2.2.2.2.1,x.2.2.2.2.2.2.1,x.2.2.2.2.2.2.2.1) N (x.2.1,x.2.2.2.2.2.2.2.2.1) z h
def qwd (z:qa×Bool):TV×THp:=(.tup [.tv qf (z.1:qa),xb z.2],[])
def qcB (N:Nat) (a0:qa) (a1:qa):Tree (qa×Bool):=
 .bind (Jl N a0) fun r1=>
 .bind (Jl N a1) fun r2=>
 .cond (!r1) (
 .chk (0=0) <|
 .ret (qa.mk ((Vector.replicate 16 0)) (qc.mk 0 0) [],false)) <|
 .cond (!r2) (
 .chk (0=0) <|
 .ret (qa.mk ((Vector.replicate 16 0)) (qc.mk 0 0) [],false)) <|
 .cond (!(eqE (.ba 16) (qa.ID a0) (qa.ID a1))) (
 .chk (0=0) <|
 .ret (qa.mk ((Vector.replicate 16 0)) (qc.mk 0 0) [],false)) <|
 .bind (qa3 (qa.qz a0) (qa.qz a1)) fun r3=>
 .bind (zV [(([]:List qd).length,0),(([]:List qd).length,0)] (qa_ N [] a0 a1 ((Vector.replicate 16 0)) (qc.mk 0 0) (qa.ID a0) r3 [] 0)) fun z4=>
 .chk (z4.1.length=z4.1.length) <|
 .ret (qa.mk (qa.ID a0) r3 z4.1,true)
def Vo (N:Nat) (a0:qa) (a1:qa):Option (qa×Bool):=(qcB N a0 a1).run some
def qvN (N:Nat):List (Nat×qw):=[(7,qf1 N)]
def qi9 (N:Nat):Ent:=smF ⟨102,[],[.x qf,.x qf],[],[]⟩ [qf,qf] (qa×Bool) (fun x=>Vo N x.1 x.2.1) cs1 fun _=>qwd
theorem qsT (N:Nat):zf Tryz.prog (qi9 N):=
 zd (H:=qb9) (L:=qJ (qvN N)) (ts:=[qf,qf]) (T:=fun x=>qcB N x.1 x.2.1) 0 qPW (qg3 N) (qt (by kernel_rfl) ⟨qos N,trivial⟩) (rg0 (by kernel_rfl)) fun x=>by kernel_rfl
noncomputable def qCa:Code:=Tryz.f77.body.getD .skip
theorem qTg:FnF Tryz.prog 77 Tryz.f77 qCa:=⟨qk,by kernel_rfl,by kernel_rfl,by kernel_rfl⟩
def qdl:TH:={ live:=[(0,[2,3,4]),(1,[2,3,4,5]),(2,[2,3,4,5,6]),(3,[2,3,4,5,6,7]),(4,[2,3,4,5,6,7,16]),(5,[2,3,4,5,6,7]),(6,[2,3,4,5,6,7,8]),(7,[2,3,4,5,6,7,32]),(8,[2,3,4,5,7]),(9,[2,3,4,5,6,7]),(10,[2,3,4,5,6,7,48]),(11,[2,3,4,5,7,9]),(12,[2,3,4,5,7]),(13,[2,3,4,5,6,7]),(14,[2,3,4,5,6,7]),(15,[3,4,5,77]),(16,[4,5]),(17,[4])],dec:=[29],nil:=[(0,[⟨.ob 40 [0],43,(.sl 19 qf)⟩]),(1,[⟨.ob 50 [0],53,(.sl 19 qf)⟩])] }
def qkM (N:Nat):List Ent:=[Yv N,qk1,qi9 N]
theorem qhV (N:Nat):qU Tryz.prog (qkM N):=⟨qaX N,qvz,qsT N,trivial⟩
abbrev X8:=List qa×qb×qa
abbrev QP:=List qa×Bool×Int×Bool
def JB (f:X8) (y:QP):Ex×TSt:=(.exit 0,⟨0,86,[],[(2,.p 20 [] 0),(3,.p 30 [] 0),(4,.p 40 [] 0),(5,.p 50 [] 0),(6,xb y.2.1),(7,xi y.2.2.1),(16,xb y.2.2.2)],[(20,.cell false (.tv qj f.2.1)),(30,.cell false (.tv qf f.2.2)),(40,.cell false (.ag [.v 43 f.1.length])),(43,.vec false 19 (.sl 19 qf) f.1),(50,.cell false (.ag [.v 53 y.1.length])),(53,.vec false 19 (.sl 19 qf) (y.1:List qa))],false,[]⟩)
def qsm (N:Nat):List (Nat×qw):=[]
abbrev JJ:=List qa×Bool×Int
def qhz:SP:=⟨0,86,[],[(2,.k (.p 20 [] 0)),(3,.k (.p 30 [] 0)),(4,.k (.p 40 [] 0)),(5,.k (.p 50 [] 0)),(6,.x .b),(7,.x (.i .i64))],[(20,.cell false (.x qj)),(30,.cell false (.x qf)),(40,.cell false (.ag [.vs 43])),(43,.vec false 19),(50,.cell false (.ag [.vs 53])),(53,.vec false 19)],false,[]⟩
def qst (f:X8) (v:JJ):TSt:=zq qhz [dv (.sl 19 qf) f.1,dv (.sl 19 qf) v.1,dv qj f.2.1,dv qf f.2.2,dv .b v.2.1,dv (.i .i64) v.2.2]
def vC (N:Nat) (o_4:List qa) (o_4_3:qb) (o_4_4:qa) (v:JJ):Tree (JJ⊕QP):=
 .cond (decide (v.2.2 < (((qb.R o_4_3).length:Nat):Int))) (
 .bind (qM (qb.R o_4_3) v.2.2) fun e1=>
 .bind (Qq N (qa.ID o_4_4) (qa.ID e1)) fun r2=>
 .cond r2 (
 .cond (!v.2.1) (
 .bind (QT o_4_4) fun r3=>
 .chk (zU v.1.length v.1.length ((v.1++[o_4_4]).length) 56) <|
 .bind (qM (qb.R o_4_3) v.2.2) fun e4=>
 .cond (eqE (.ba 16) (qa.ID e4) (qa.ID o_4_4)) (
 .bind (qM (qb.R o_4_3) v.2.2) fun e5=>
 .bind (Vo N e5 o_4_4) fun r6=>
 .chk (zU ((v.1++[o_4_4]).length) ((v.1++[o_4_4]).length) (((v.1++[o_4_4])++[r6.1]).length) 56) <|
 .chk (qp (v.2.2 + 1)) <|
 .ret (.inl ((v.1++[o_4_4])++[r6.1],true,v.2.2 + 1))) <|
 .bind (qM (qb.R o_4_3) v.2.2) fun e5=>
 .bind (QT e5) fun r6=>
 .chk (zU ((v.1++[o_4_4]).length) ((v.1++[o_4_4]).length) (((v.1++[o_4_4])++[e5]).length) 56) <|
 .chk (qp (v.2.2 + 1)) <|
 .ret (.inl ((v.1++[o_4_4])++[e5],true,v.2.2 + 1))) <|
 .bind (qM (qb.R o_4_3) v.2.2) fun e3=>
 .cond (eqE (.ba 16) (qa.ID e3) (qa.ID o_4_4)) (
 .bind (qM (qb.R o_4_3) v.2.2) fun e4=>
 .bind (Vo N e4 o_4_4) fun r5=>
 .chk (zU v.1.length v.1.length ((v.1++[r5.1]).length) 56) <|
 .chk (qp (v.2.2 + 1)) <|
 .ret (.inl (v.1++[r5.1],true,v.2.2 + 1))) <|
 .bind (qM (qb.R o_4_3) v.2.2) fun e4=>
 .bind (QT e4) fun r5=>
 .chk (zU v.1.length v.1.length ((v.1++[e4]).length) 56) <|
 .chk (qp (v.2.2 + 1)) <|
 .ret (.inl (v.1++[e4],v.2.1,v.2.2 + 1))) <|
 .bind (qM (qb.R o_4_3) v.2.2) fun e3=>
 .cond (eqE (.ba 16) (qa.ID e3) (qa.ID o_4_4)) (
 .bind (qM (qb.R o_4_3) v.2.2) fun e4=>
 .bind (Vo N e4 o_4_4) fun r5=>
 .chk (zU v.1.length v.1.length ((v.1++[r5.1]).length) 56) <|
 .chk (qp (v.2.2 + 1)) <|
 .ret (.inl (v.1++[r5.1],true,v.2.2 + 1))) <|
 .bind (qM (qb.R o_4_3) v.2.2) fun e4=>
 .bind (QT e4) fun r5=>
 .chk (zU v.1.length v.1.length ((v.1++[e4]).length) 56) <|
 .chk (qp (v.2.2 + 1)) <|
 .ret (.inl (v.1++[e4],v.2.1,v.2.2 + 1))) <|
 .ret (.inr (v.1,v.2.1,v.2.2,decide (v.2.2 < (((qb.R o_4_3).length:Nat):Int))))
def qhy (N n:Nat) (f:X8) (v:JJ):Option QP:=qQ (vC N f.1 f.2.1 f.2.2) some n v
theorem qsj (N:Nat) (f:X8) (n:Nat) (v:JJ) (y:QP) (h:qhy N n f v=some y):LG Tryz.prog qdl 77 (qE qCa 4) (qst f v) (JB f y):=
 zj qk (E:=qkM N) (L:=qJ (qsm N)) (st:=JB f) (g:=some) (R:=JB f) (qhV N) (qt (by kernel_rfl) trivial) (rg0 (by kernel_rfl)) (fun v=>by kernel_rfl) (qP (st:=JB f) fun y=>by rfl) n v y h
def qja (N:Nat) (o_4:List qa) (o_4_3:qb) (o_4_4:qa) (o_4_2:List qa) (s6_4:Bool) (s7_4:Int):Option QP:=qhy N N (o_4,o_4_3,o_4_4) (o_4_2,s6_4,s7_4)
def qhC (N:Nat):qw:=smL qhz [(.sl 19 qf),(.sl 19 qf),qj,qf,.b,(.i .i64)] QP (fun x=>qja N x.1 x.2.2.1 x.2.2.2.1 x.2.1 x.2.2.2.2.1 x.2.2.2.2.2.1) cs1 fun x=>JB (x.1,x.2.2.1,x.2.2.2.1)
theorem qqR (N:Nat):zZ Tryz.prog qdl 77 (qE qCa 4) (qhC N):=zp fun x z h=>qsj N (x.1,x.2.2.1,x.2.2.2.1) N (x.2.1,x.2.2.2.2.1,x.2.2.2.2.2.1) z h
def qxk (z:qb):TV×THp:=(.tv qj z,[])
def qdU (N:Nat) (a0:qb) (a1:qa):Tree (qb):=
 .bind (zV [(([]:List qa).length,0),(([]:List qa).length,0)] (qja N [] a0 a1 [] false 0)) fun z1=>
 .cond (!z1.2.1) (
 .bind (QT a1) fun r2=>
 .chk (zU z1.1.length z1.1.length ((z1.1++[a1]).length) 56) <|
 .chk ((z1.1++[a1]).length=(z1.1++[a1]).length) <|
 .ret (qb.mk (z1.1++[a1]))) <|
 .chk (z1.1.length=z1.1.length) <|
 .ret (qb.mk z1.1)
def vU (N:Nat) (a0:qb) (a1:qa):Option (qb):=(qdU N a0 a1).run some
def qxc (N:Nat):List (Nat×qw):=[(4,qhC N)]
def qkE (N:Nat):Ent:=smF ⟨77,[],[.x qj,.x qf],[],[]⟩ [qj,qf] (qb) (fun x=>vU N x.1 x.2.1) cs1 fun _=>qxk
theorem qws (N:Nat):zf Tryz.prog (qkE N):=
 zd (H:=qdl) (L:=qJ (qxc N)) (ts:=[qj,qf]) (T:=fun x=>qdU N x.1 x.2.1) 0 qTg (qhV N) (qt (by kernel_rfl) ⟨qqR N,trivial⟩) (rg0 (by kernel_rfl)) fun x=>by kernel_rfl
noncomputable def qba:Code:=Tryz.f39.body.getD .skip
theorem qRw:FnF Tryz.prog 39 Tryz.f39 qba:=⟨qk,by kernel_rfl,by kernel_rfl,by kernel_rfl⟩
def jW:TH:={ live:=[(0,[2,3,4]),(1,[2,3,4,6]),(2,[2,3,4,6,7]),(3,[2,3,4,20]),(4,[4,5]),(5,[2,3,4,8]),(6,[2,3,4,8,9]),(7,[2,3,4,8,9,27]),(8,[2,3,4,8,9]),(9,[2,3,4,8,9]),(10,[3,4,8,10]),(11,[3,4,8,10,41]),(12,[3,4,8,10]),(13,[3,4,8,10]),(14,[4,8,54]),(15,[4,5]),(16,[4,5])],dec:=[17],nil:=[(0,[⟨.ob 40 [0],43,(.sl 19 qf)⟩]),(4,[⟨.ob 40 [0],43,(.sl 19 qf)⟩]),(5,[⟨.ob 80 [0],83,(.sl 19 qf)⟩]),(15,[⟨.ob 40 [0],43,(.sl 19 qf)⟩])] }
def ZB (N:Nat):List Ent:=[Ka N,qkE N]
theorem QK (N:Nat):qU Tryz.prog (ZB N):=⟨qb_ N,qws N,trivial⟩
abbrev ju:=List qa×List qa×qb×qb
abbrev je:=Unit⊕(qb×Int×Bool)
def jv (f:ju):je→Ex×TSt
 | .inl y=>(.exit 0,⟨0,57,[],[(2,.p 20 [] 0),(3,.p 30 [] 0),(4,.p 40 [] 0),(8,.p 80 [] 0),(9,.ic .i64 0),(27,xb (decide (((0:Int)) < (((qb.R f.2.2.1).length:Nat):Int))))],[(20,.cell false (.tv qj f.2.2.1)),(30,.cell false (.tv qj f.2.2.2)),(40,.cell false (.ag [.v 43 f.1.length])),(43,.vec false 19 (.sl 19 qf) f.1),(80,.cell false (.ag [.v 83 f.2.1.length])),(83,.vec false 19 (.sl 19 qf) f.2.1)],false,[]⟩)
 | .inr y=>(.exit 0,⟨0,57,[],[(2,.p 20 [] 0),(3,.p 30 [] 0),(4,.p 40 [] 0),(8,.p 80 [] 0),(9,xi y.2.1),(27,xb y.2.2)],[(20,.cell false (.tv qj f.2.2.1)),(30,.cell false (.tv qj f.2.2.2)),(40,.cell false (.ag [.v 43 f.1.length])),(43,.vec false 19 (.sl 19 qf) f.1),(80,.cell false (.tv qj (y.1:qb)))],false,[]⟩)
def qgb (N:Nat):List (Nat×qw):=[]
abbrev vo:=qb×Int
def qmt:SP:=⟨0,57,[],[(2,.k (.p 20 [] 0)),(3,.k (.p 30 [] 0)),(4,.k (.p 40 [] 0)),(8,.k (.p 80 [] 0)),(9,.x (.i .i64))],[(20,.cell false (.x qj)),(30,.cell false (.x qj)),(40,.cell false (.ag [.vs 43])),(43,.vec false 19),(80,.cell false (.x qj))],false,[]⟩
def qcK (f:ju) (v:vo):TSt:=zq qmt [dv (.sl 19 qf) f.1,dv qj f.2.2.1,dv qj f.2.2.2,dv qj v.1,dv (.i .i64) v.2]
def Qx (N:Nat) (o_7:List qa) (o_7_2:List qa) (o_7_3:qb) (o_7_4:qb) (v:vo):Tree (vo⊕je):=
 .cond (decide (v.2 < (((qb.R o_7_3).length:Nat):Int))) (
 .bind (qM (qb.R o_7_3) v.2) fun e1=>
 .bind (vU N v.1 e1) fun r2=>
 .chk (qp (v.2 + 1)) <|
 .ret (.inl (r2,v.2 + 1))) <|
 .ret (.inr (.inr ((v.1,v.2,decide (v.2 < (((qb.R o_7_3).length:Nat):Int))))))
def qcN (N n:Nat) (f:ju) (v:vo):Option je:=qQ (Qx N f.1 f.2.1 f.2.2.1 f.2.2.2) some n v
theorem qmf (N:Nat) (f:ju) (n:Nat) (v:vo) (y:je) (h:qcN N n f v=some y):LG Tryz.prog jW 39 (qE qba 7) (qcK f v) (jv f y):=
 zj qk (E:=ZB N) (L:=qJ (qgb N)) (st:=jv f) (g:=some) (R:=jv f) (QK N) (qt (by kernel_rfl) trivial) (rg0 (by kernel_rfl)) (fun v=>by kernel_rfl) (qP (st:=jv f) fun y=>by rcases y with _ | _<;>rfl) n v y h
abbrev Z5:=Unit
def qf8:SP:=⟨0,57,[],[(2,.k (.p 20 [] 0)),(3,.k (.p 30 [] 0)),(4,.k (.p 40 [] 0)),(8,.k (.p 80 [] 0)),(9,.k (.ic .i64 0))],[(20,.cell false (.x qj)),(30,.cell false (.x qj)),(40,.cell false (.ag [.vs 43])),(43,.vec false 19),(80,.cell false (.ag [.vs 83])),(83,.vec false 19)],false,[]⟩
def qpI (f:ju) (v:Z5):TSt:=zq qf8 [dv (.sl 19 qf) f.1,dv (.sl 19 qf) f.2.1,dv qj f.2.2.1,dv qj f.2.2.2]
abbrev KA:=vo⊕je
def Xz (N:Nat) (o_7:List qa) (o_7_2:List qa) (o_7_3:qb) (o_7_4:qb) (v:Z5):Tree (Z5⊕KA):=
 .cond (decide (((0:Int)) < (((qb.R o_7_3).length:Nat):Int))) (
 .bind (qM (qb.R o_7_3) 0) fun e1=>
 .chk (o_7_2.length=o_7_2.length) <|
 .bind (vU N (qb.mk o_7_2) e1) fun r2=>
 .ret (.inr (.inl (r2,1)))) <|
 .ret (.inr (.inr ((.inl ()))))
def Ks (N n:Nat) (f:ju):KA→Option je
 | .inl w=>qcN N n f w
 | .inr w=>some w
def qqt (f:ju):KA→Ex×TSt
 | .inl w=>(.normal,qcK f w)
 | .inr w=>jv f w
def qfw (N n:Nat) (f:ju) (v:Z5):Option je:=qQ (Xz N f.1 f.2.1 f.2.2.1 f.2.2.2) (Ks N n f) n v
theorem qql (N:Nat) (f:ju) (n:Nat) (v:Z5) (y:je) (h:qfw N n f v=some y):LG Tryz.prog jW 39 (qE qba 7) (qpI f v) (jv f y):=
 zj qk (E:=ZB N) (L:=qJ (qgb N)) (st:=qqt f) (g:=(Ks N n f)) (R:=jv f) (QK N) (qt (by kernel_rfl) trivial) (rg0 (by kernel_rfl)) (fun v=>by kernel_rfl) (fun w y h=>by
 rcases w with w | w
 ·exact qmf N f n w y h
 ·exact qP (st:=jv f) (fun y=>by rcases y with _ | _<;>rfl) w y h
) n v y h
def WX (N:Nat) (o_7:List qa) (o_7_2:List qa) (o_7_3:qb) (o_7_4:qb):Option je:=qfw N N (o_7,o_7_2,o_7_3,o_7_4) ()
def qfn (N:Nat):qw:=smL qf8 [(.sl 19 qf),(.sl 19 qf),qj,qj] je (fun x=>WX N x.1 x.2.1 x.2.2.1 x.2.2.2.1) (csS cs1) fun x=>jv (x.1,x.2.1,x.2.2.1,x.2.2.2.1)
theorem qoq (N:Nat):zZ Tryz.prog jW 39 (qE qba 7) (qfn N):=zp fun x z h=>qql N (x.1,x.2.1,x.2.2.1,x.2.2.2.1) N () z h
abbrev jo:=List qa×List qa×qb
abbrev z9:=Unit⊕(qb×Int×Bool)
def jl (f:jo):z9→Ex×TSt
 | .inl y=>(.exit 2,⟨0,57,[],[(3,.p 30 [] 0),(4,.p 40 [] 0),(8,.p 80 [] 0),(10,.ic .i64 0),(41,xb (decide (((0:Int)) < (((qb.R f.2.2).length:Nat):Int))))],[(30,.cell false (.tv qj f.2.2)),(40,.cell false (.ag [.v 43 f.1.length])),(43,.vec false 19 (.sl 19 qf) f.1),(80,.cell false (.ag [.v 83 f.2.1.length])),(83,.vec false 19 (.sl 19 qf) f.2.1)],false,[]⟩)
 | .inr y=>(.exit 2,⟨0,57,[],[(3,.p 30 [] 0),(4,.p 40 [] 0),(8,.p 80 [] 0),(10,xi y.2.1),(41,xb y.2.2)],[(30,.cell false (.tv qj f.2.2)),(40,.cell false (.ag [.v 43 f.1.length])),(43,.vec false 19 (.sl 19 qf) f.1),(80,.cell false (.tv qj (y.1:qb)))],false,[]⟩)
def qeJ (N:Nat):List (Nat×qw):=[]
abbrev j_:=qb×Int
def qlr:SP:=⟨0,57,[],[(3,.k (.p 30 [] 0)),(4,.k (.p 40 [] 0)),(8,.k (.p 80 [] 0)),(10,.x (.i .i64))],[(30,.cell false (.x qj)),(40,.cell false (.ag [.vs 43])),(43,.vec false 19),(80,.cell false (.x qj))],false,[]⟩
def qbU (f:jo) (v:j_):TSt:=zq qlr [dv (.sl 19 qf) f.1,dv qj f.2.2,dv qj v.1,dv (.i .i64) v.2]
def v7 (N:Nat) (o_11:List qa) (o_11_2:List qa) (o_11_3:qb) (v:j_):Tree (j_⊕z9):=
 .cond (decide (v.2 < (((qb.R o_11_3).length:Nat):Int))) (
 .bind (qM (qb.R o_11_3) v.2) fun e1=>
 .bind (vU N v.1 e1) fun r2=>
 .chk (qp (v.2 + 1)) <|
 .ret (.inl (r2,v.2 + 1))) <|
 .ret (.inr (.inr ((v.1,v.2,decide (v.2 < (((qb.R o_11_3).length:Nat):Int))))))
def qbW (N n:Nat) (f:jo) (v:j_):Option z9:=qQ (v7 N f.1 f.2.1 f.2.2) some n v
theorem qlc (N:Nat) (f:jo) (n:Nat) (v:j_) (y:z9) (h:qbW N n f v=some y):LG Tryz.prog jW 39 (qE qba 11) (qbU f v) (jl f y):=
 zj qk (E:=ZB N) (L:=qJ (qeJ N)) (st:=jl f) (g:=some) (R:=jl f) (QK N) (qt (by kernel_rfl) trivial) (rg0 (by kernel_rfl)) (fun v=>by kernel_rfl) (qP (st:=jl f) fun y=>by rcases y with _ | _<;>rfl) n v y h
abbrev Zb:=Unit
def qeX:SP:=⟨0,57,[],[(3,.k (.p 30 [] 0)),(4,.k (.p 40 [] 0)),(8,.k (.p 80 [] 0)),(10,.k (.ic .i64 0))],[(30,.cell false (.x qj)),(40,.cell false (.ag [.vs 43])),(43,.vec false 19),(80,.cell false (.ag [.vs 83])),(83,.vec false 19)],false,[]⟩
def qop (f:jo) (v:Zb):TSt:=zq qeX [dv (.sl 19 qf) f.1,dv (.sl 19 qf) f.2.1,dv qj f.2.2]
abbrev YI:=j_⊕z9
def VM (N:Nat) (o_11:List qa) (o_11_2:List qa) (o_11_3:qb) (v:Zb):Tree (Zb⊕YI):=
 .cond (decide (((0:Int)) < (((qb.R o_11_3).length:Nat):Int))) (
 .bind (qM (qb.R o_11_3) 0) fun e1=>
 .chk (o_11_2.length=o_11_2.length) <|
 .bind (vU N (qb.mk o_11_2) e1) fun r2=>
 .ret (.inr (.inl (r2,1)))) <|
 .ret (.inr (.inr ((.inl ()))))
def YK (N n:Nat) (f:jo):YI→Option z9
 | .inl w=>qbW N n f w
 | .inr w=>some w
def qou (f:jo):YI→Ex×TSt
 | .inl w=>(.normal,qbU f w)
 | .inr w=>jl f w
def qeE (N n:Nat) (f:jo) (v:Zb):Option z9:=qQ (VM N f.1 f.2.1 f.2.2) (YK N n f) n v
theorem qoj (N:Nat) (f:jo) (n:Nat) (v:Zb) (y:z9) (h:qeE N n f v=some y):LG Tryz.prog jW 39 (qE qba 11) (qop f v) (jl f y):=
 zj qk (E:=ZB N) (L:=qJ (qeJ N)) (st:=qou f) (g:=(YK N n f)) (R:=jl f) (QK N) (qt (by kernel_rfl) trivial) (rg0 (by kernel_rfl)) (fun v=>by kernel_rfl) (fun w y h=>by
 rcases w with w | w
 ·exact qlc N f n w y h
 ·exact qP (st:=jl f) (fun y=>by rcases y with _ | _<;>rfl) w y h
) n v y h
def XV (N:Nat) (o_11:List qa) (o_11_2:List qa) (o_11_3:qb):Option z9:=qeE N N (o_11,o_11_2,o_11_3) ()
def qeK (N:Nat):qw:=smL qeX [(.sl 19 qf),(.sl 19 qf),qj] z9 (fun x=>XV N x.1 x.2.1 x.2.2.1) (csS cs1) fun x=>jl (x.1,x.2.1,x.2.2.1)
theorem qm_ (N:Nat):zZ Tryz.prog jW 39 (qE qba 11) (qeK N):=zp fun x z h=>qoj N (x.1,x.2.1,x.2.2.1) N () z h
abbrev JX:=List qa×qb
abbrev vi:=qb×Int×Bool
def QB (f:JX) (y:vi):Ex×TSt:=(.exit 2,⟨0,57,[],[(3,.p 30 [] 0),(4,.p 40 [] 0),(8,.p 80 [] 0),(10,xi y.2.1),(41,xb y.2.2)],[(30,.cell false (.tv qj f.2)),(40,.cell false (.ag [.v 43 f.1.length])),(43,.vec false 19 (.sl 19 qf) f.1),(80,.cell false (.tv qj (y.1:qb)))],false,[]⟩)
def qmq (N:Nat):List (Nat×qw):=[]
abbrev QC:=qb×Int
def qcJ:SP:=⟨0,57,[],[(3,.k (.p 30 [] 0)),(4,.k (.p 40 [] 0)),(8,.k (.p 80 [] 0)),(10,.x (.i .i64))],[(30,.cell false (.x qj)),(40,.cell false (.ag [.vs 43])),(43,.vec false 19),(80,.cell false (.x qj))],false,[]⟩
def qmD (f:JX) (v:QC):TSt:=zq qcJ [dv (.sl 19 qf) f.1,dv qj f.2,dv qj v.1,dv (.i .i64) v.2]
def J0 (N:Nat) (o_11:List qa) (o_11_2:qb) (v:QC):Tree (QC⊕vi):=
 .cond (decide (v.2 < (((qb.R o_11_2).length:Nat):Int))) (
 .bind (qM (qb.R o_11_2) v.2) fun e1=>
 .bind (vU N v.1 e1) fun r2=>
 .chk (qp (v.2 + 1)) <|
 .ret (.inl (r2,v.2 + 1))) <|
 .ret (.inr (v.1,v.2,decide (v.2 < (((qb.R o_11_2).length:Nat):Int))))
def qcM (N n:Nat) (f:JX) (v:QC):Option vi:=qQ (J0 N f.1 f.2) some n v
theorem qmG (N:Nat) (f:JX) (n:Nat) (v:QC) (y:vi) (h:qcM N n f v=some y):LG Tryz.prog jW 39 (qE qba 11) (qmD f v) (QB f y):=
 zj qk (E:=ZB N) (L:=qJ (qmq N)) (st:=QB f) (g:=some) (R:=QB f) (QK N) (qt (by kernel_rfl) trivial) (rg0 (by kernel_rfl)) (fun v=>by kernel_rfl) (qP (st:=QB f) fun y=>by rfl) n v y h
def YG (N:Nat) (o_11:List qa) (o_11_2:qb) (o_11_3:qb) (s10_11:Int):Option vi:=qcM N N (o_11,o_11_2) (o_11_3,s10_11)
def qc3 (N:Nat):qw:=smL qcJ [(.sl 19 qf),qj,qj,(.i .i64)] vi (fun x=>YG N x.1 x.2.1 x.2.2.1 x.2.2.2.1) cs1 fun x=>QB (x.1,x.2.1)
theorem qlg (N:Nat):zZ Tryz.prog jW 39 (qE qba 11) (qc3 N):=zp fun x z h=>qmG N (x.1,x.2.1) N (x.2.2.1,x.2.2.2.1) z h
def qv5 (z:qb×Int):TV×THp:=(.tup [.tv qj (z.1:qb),xi z.2],[])
def Yw (N:Nat) (a0:qb) (a1:qb):Tree (qb×Int):=
 .bind (Jk N a0) fun r1=>
 .bind (Jk N a1) fun r2=>
 .cond (!r1) (
 .chk (0=0) <|
 .ret (qb.mk [],1)) <|
 .cond (!r2) (
 .chk (0=0) <|
 .ret (qb.mk [],1)) <|
 .bind (zV [(([]:List qa).length,0),(([]:List qa).length,0)] (WX N [] [] a0 a1)) fun z3=>
 .sum z3 (fun z4=>
 .bind (zV [(([]:List qa).length,0),(([]:List qa).length,0)] (XV N [] [] a1)) fun z5=>
 .sum z5 (fun z6=>
 .cond (decide (10 < (((0:Nat):Int)))) (
 .chk (0=0) <|
 .ret (qb.mk [],4)) <|
 .chk (0=0) <|
 .ret (qb.mk [],0)) fun z6=>
 .cond (decide (((10:Int)) < (((qb.R z6.1).length:Nat):Int))) (
 .chk (0=0) <|
 .ret (qb.mk [],4)) <|
 .ret (z6.1,0)) fun z4=>
 .bind (zV [(([]:List qa).length,0)] (YG N [] a1 z4.1 0)) fun z5=>
 .cond (decide (((10:Int)) < (((qb.R z5.1).length:Nat):Int))) (
 .chk (0=0) <|
 .ret (qb.mk [],4)) <|
 .ret (z5.1,0)
def zw (N:Nat) (a0:qb) (a1:qb):Option (qb×Int):=(Yw N a0 a1).run some
def qv3 (N:Nat):List (Nat×qw):=[(7,qfn N),(11,qeK N),(11,qc3 N)]
def qjf (N:Nat):Ent:=smF ⟨39,[],[.x qj,.x qj],[],[]⟩ [qj,qj] (qb×Int) (fun x=>zw N x.1 x.2.1) cs1 fun _=>qv5
theorem qsS (N:Nat):zf Tryz.prog (qjf N):=
 zd (H:=jW) (L:=qJ (qv3 N)) (ts:=[qj,qj]) (T:=fun x=>Yw N x.1 x.2.1) 0 qRw (QK N) (qt (by kernel_rfl) ⟨qoq N,qm_ N,qlg N,trivial⟩) (rg0 (by kernel_rfl)) fun x=>by kernel_rfl
noncomputable def qRa:Code:=Tryz.f14.body.getD .skip
theorem qTC:FnF Tryz.prog 14 Tryz.f14 qRa:=⟨qk,by kernel_rfl,by kernel_rfl,by kernel_rfl⟩
def qxA:TH:={ live:=[(0,[2,3,4]),(1,[2,3,4,6]),(2,[2,3,4,6,7]),(3,[2,3,4,6,7,8]),(4,[2,3,4,6,7,8,9]),(5,[2,3,4,6,7,8,9,10]),(6,[2,3,4,8,10,53]),(7,[4,5]),(8,[3,4,8,10,11]),(9,[3,4,8,10,11,12]),(10,[3,4,8,11,12,57]),(11,[3,4,8,11,12]),(12,[4,8,11,12,77]),(13,[4,11,12]),(14,[4,11,12,87]),(15,[4,5]),(16,[4,5])],dec:=[31,35,37,44,49,72],nil:=[(0,[⟨.ob 40 [0],43,(.sl 19 qf)⟩]),(7,[⟨.ob 40 [0],43,(.sl 19 qf)⟩]),(15,[⟨.ob 40 [0],43,(.sl 19 qf)⟩])] }
def qxt (N:Nat):List Ent:=[Ka N,JH,Y7 N,qjf N]
theorem qtN (N:Nat):qU Tryz.prog (qxt N):=⟨qb_ N,VZ,qcy N,qsS N,trivial⟩
def qyS (z:qb×Int):TV×THp:=(.tup [.tv qj (z.1:qb),xi z.2],[])
def qdr (N:Nat) (a0:qb) (a1:qa):Tree (qb×Int):=
 .bind (Jk N a0) fun r1=>
 .bind (QV (qa.qz a1)) fun r2=>
 .bind (Jl N (qa.mk (qa.ID a1) (qc.mk 0 0) (qa.F a1))) fun r3=>
 .cond (!r1) (
 .chk (0=0) <|
 .ret (qb.mk [],1)) <|
 .cond (!r2) (
 .chk (0=0) <|
 .ret (qb.mk [],1)) <|
 .cond (eqE qh (qa.qz a1) (qc.mk 0 0)) (
 .cond (decide ((((qa.F a1).length:Nat):Int)=((0:Int)))) (
 .chk (0=0) <|
 .ret (qb.mk [],1)) <|
 .cond (decide (((0:Int)) < (((qa.F a1).length:Nat):Int))) (
 .cond (!r3) (
 .chk (0=0) <|
 .ret (qb.mk [],1)) <|
 .cond (!(eqE qh (qa.qz a1) (qc.mk 0 0))) (
 .bind (zw N a0 (qb.mk [qa.mk (qa.ID a1) (qa.qz a1) []])) fun r4=>
 .cond (decide (r4.2=0)) (
 .cond (decide (((0:Int)) < (((qa.F a1).length:Nat):Int))) (
 .bind (zw N r4.1 (qb.mk [qa.mk (qa.ID a1) (qc.mk 0 0) (qa.F a1)])) fun r5=>
 .cond (!decide (r5.2=0)) (
 .chk (0=0) <|
 .ret (qb.mk [],r5.2)) <|
 .ret (r5.1,0)) <|
 .cond (!decide (r4.2=0)) (
 .chk (0=0) <|
 .ret (qb.mk [],r4.2)) <|
 .ret (r4.1,0)) <|
 .cond (!decide (r4.2=0)) (
 .chk (0=0) <|
 .ret (qb.mk [],r4.2)) <|
 .ret (r4.1,0)) <|
 .cond (decide (((0:Int)) < (((qa.F a1).length:Nat):Int))) (
 .bind (zw N a0 (qb.mk [qa.mk (qa.ID a1) (qc.mk 0 0) (qa.F a1)])) fun r4=>
 .cond (!decide (r4.2=0)) (
 .chk (0=0) <|
 .ret (qb.mk [],r4.2)) <|
 .ret (r4.1,0)) <|
 .ret (a0,0)) <|
 .cond (!(eqE qh (qa.qz a1) (qc.mk 0 0))) (
 .bind (zw N a0 (qb.mk [qa.mk (qa.ID a1) (qa.qz a1) []])) fun r4=>
 .cond (decide (r4.2=0)) (
 .cond (decide (((0:Int)) < (((qa.F a1).length:Nat):Int))) (
 .bind (zw N r4.1 (qb.mk [qa.mk (qa.ID a1) (qc.mk 0 0) (qa.F a1)])) fun r5=>
 .cond (!decide (r5.2=0)) (
 .chk (0=0) <|
 .ret (qb.mk [],r5.2)) <|
 .ret (r5.1,0)) <|
 .cond (!decide (r4.2=0)) (
 .chk (0=0) <|
 .ret (qb.mk [],r4.2)) <|
 .ret (r4.1,0)) <|
 .cond (!decide (r4.2=0)) (
 .chk (0=0) <|
 .ret (qb.mk [],r4.2)) <|
 .ret (r4.1,0)) <|
 .cond (decide (((0:Int)) < (((qa.F a1).length:Nat):Int))) (
 .bind (zw N a0 (qb.mk [qa.mk (qa.ID a1) (qc.mk 0 0) (qa.F a1)])) fun r4=>
 .cond (!decide (r4.2=0)) (
 .chk (0=0) <|
 .ret (qb.mk [],r4.2)) <|
 .ret (r4.1,0)) <|
 .ret (a0,0)) <|
 .cond (decide (((0:Int)) < (((qa.F a1).length:Nat):Int))) (
 .cond (!r3) (
 .chk (0=0) <|
 .ret (qb.mk [],1)) <|
 .cond (!(eqE qh (qa.qz a1) (qc.mk 0 0))) (
 .bind (zw N a0 (qb.mk [qa.mk (qa.ID a1) (qa.qz a1) []])) fun r4=>
 .cond (decide (r4.2=0)) (
 .cond (decide (((0:Int)) < (((qa.F a1).length:Nat):Int))) (
 .bind (zw N r4.1 (qb.mk [qa.mk (qa.ID a1) (qc.mk 0 0) (qa.F a1)])) fun r5=>
 .cond (!decide (r5.2=0)) (
 .chk (0=0) <|
 .ret (qb.mk [],r5.2)) <|
 .ret (r5.1,0)) <|
 .cond (!decide (r4.2=0)) (
 .chk (0=0) <|
 .ret (qb.mk [],r4.2)) <|
 .ret (r4.1,0)) <|
 .cond (!decide (r4.2=0)) (
 .chk (0=0) <|
 .ret (qb.mk [],r4.2)) <|
 .ret (r4.1,0)) <|
 .cond (decide (((0:Int)) < (((qa.F a1).length:Nat):Int))) (
 .bind (zw N a0 (qb.mk [qa.mk (qa.ID a1) (qc.mk 0 0) (qa.F a1)])) fun r4=>
 .cond (!decide (r4.2=0)) (
 .chk (0=0) <|
 .ret (qb.mk [],r4.2)) <|
 .ret (r4.1,0)) <|
 .ret (a0,0)) <|
 .cond (!(eqE qh (qa.qz a1) (qc.mk 0 0))) (
 .bind (zw N a0 (qb.mk [qa.mk (qa.ID a1) (qa.qz a1) []])) fun r4=>
 .cond (decide (r4.2=0)) (
 .cond (decide (((0:Int)) < (((qa.F a1).length:Nat):Int))) (
 .bind (zw N r4.1 (qb.mk [qa.mk (qa.ID a1) (qc.mk 0 0) (qa.F a1)])) fun r5=>
 .cond (!decide (r5.2=0)) (
 .chk (0=0) <|
 .ret (qb.mk [],r5.2)) <|
 .ret (r5.1,0)) <|
 .cond (!decide (r4.2=0)) (
 .chk (0=0) <|
 .ret (qb.mk [],r4.2)) <|
 .ret (r4.1,0)) <|
 .cond (!decide (r4.2=0)) (
 .chk (0=0) <|
 .ret (qb.mk [],r4.2)) <|
 .ret (r4.1,0)) <|
 .cond (decide (((0:Int)) < (((qa.F a1).length:Nat):Int))) (
 .bind (zw N a0 (qb.mk [qa.mk (qa.ID a1) (qc.mk 0 0) (qa.F a1)])) fun r4=>
 .cond (!decide (r4.2=0)) (
 .chk (0=0) <|
 .ret (qb.mk [],r4.2)) <|
 .ret (r4.1,0)) <|
 .ret (a0,0)
def qaT (N:Nat) (a0:qb) (a1:qa):Option (qb×Int):=(qdr N a0 a1).run some
def qxu (N:Nat):List (Nat×qw):=[]
def qkk (N:Nat):Ent:=smF ⟨14,[],[.x qj,.x qf],[],[]⟩ [qj,qf] (qb×Int) (fun x=>qaT N x.1 x.2.1) cs1 fun _=>qyS
theorem qvA (N:Nat):zf Tryz.prog (qkk N):=
 zd (H:=qxA) (L:=qJ (qxu N)) (ts:=[qj,qf]) (T:=fun x=>qdr N x.1 x.2.1) 0 qTC (qtN N) (qt (by kernel_rfl) trivial) (rg0 (by kernel_rfl)) fun x=>by kernel_rfl
noncomputable def qPS:Code:=Tryz.f132.body.getD .skip
theorem qPD:FnF Tryz.prog 132 Tryz.f132 qPS:=⟨qk,by kernel_rfl,by kernel_rfl,by kernel_rfl⟩
def qAA:TH:={ live:=[(0,[0]),(1,[0,4]),(2,[2]),(3,[2])] }
def qAa (N:Nat):List Ent:=[]
theorem qvC (N:Nat):qU Tryz.prog (qAa N):=trivial
def qAh (z:Int):TV×THp:=(xi z,[])
def qe6 (a0:Int):Tree (Int):=
 .cond (decide (a0 < ((24:Int)))) (
 .ret 0) <|
 .chk ((8:Int)≠0) <|
 .chk (qp (a0.tdiv 8)) <|
 .ret (a0.tdiv 8)
def qcW (a0:Int):Option (Int):=(qe6 a0).run some
def qAF:List (Nat×qw):=[]
def ql5:Ent:=smF ⟨132,[],[.x (.i .i64)],[],[]⟩ [(.i .i64)] (Int) (fun x=>qcW x.1) cs1 fun _=>qAh
theorem qxQ:zf Tryz.prog (ql5):=
 zd (H:=qAA) (L:=qJ (qAF)) (ts:=[(.i .i64)]) (T:=fun x=>qe6 x.1) 0 qPD (qvC 0) (qt (by kernel_rfl) trivial) (rg0 (by kernel_rfl)) fun x=>by kernel_rfl
noncomputable def qPj:Code:=Tryz.f103.body.getD .skip
theorem qPQ:FnF Tryz.prog 103 Tryz.f103 qPj:=⟨qk,by kernel_rfl,by kernel_rfl,by kernel_rfl⟩
def qBz:TH:={ live:=[(0,[2,3]),(1,[4])],dec:=[8,13,18,23,32,37] }
def qCD (N:Nat):List Ent:=[ql5,qb3,XQ N]
theorem qyn (N:Nat):qU Tryz.prog (qCD N):=⟨qxQ,qds,Wt N,trivial⟩
def qBA (z:Bool):TV×THp:=(xb z,[])
def qgx (N:Nat) (a0:qm) (a1:qc):Tree (Bool):=
 .cond (decide (((0:Int))≤(qm.No a0))) (
 .cond (decide ((qm.No a0) < ((8:Int)))) (
 .cond (decide (((0:Int))≤(qm.Len a0))) (
 .cond (decide ((qm.Len a0)≤((200:Int)))) (
 .bind (qcW (qm.Len a0)) fun r1=>
 .cond (decide ((((qm.B a0).length:Nat):Int)=r1)) (
 .bind (qaF (qm.S a0)) fun r2=>
 .cond r2 (
 .bind (vA N a1 (qm.S a0)) fun r3=>
 .ret r3) <|
 .ret false) <|
 .ret false) <|
 .ret false) <|
 .ret false) <|
 .ret false) <|
 .ret false
def qep (N:Nat) (a0:qm) (a1:qc):Option (Bool):=(qgx N a0 a1).run some
def qCO (N:Nat):List (Nat×qw):=[]
def qnk (N:Nat):Ent:=smF ⟨103,[],[.x qX,.x qh],[],[]⟩ [qX,qh] (Bool) (fun x=>qep N x.1 x.2.1) cs1 fun _=>qBA
theorem qz4 (N:Nat):zf Tryz.prog (qnk N):=
 zd (H:=qBz) (L:=qJ (qCO N)) (ts:=[qX,qh]) (T:=fun x=>qgx N x.1 x.2.1) 0 qPQ (qyn N) (qt (by kernel_rfl) trivial) (rg0 (by kernel_rfl)) fun x=>by kernel_rfl
noncomputable def qCR:Code:=Tryz.f78.body.getD .skip
theorem qSL:FnF Tryz.prog 78 Tryz.f78 qCR:=⟨qk,by kernel_rfl,by kernel_rfl,by kernel_rfl⟩
def qiB:TH:={ live:=[(0,[1]),(1,[1,6,7,8]),(2,[1,6,7,8,9]),(3,[1,3,4,6,7,8]),(4,[1,6,7,8,33]),(5,[2]),(6,[1,6,7,8]),(7,[2])],dec:=[18,21,38,43] }
def qoX (N:Nat):List Ent:=[qnk N,qb3]
theorem qlO (N:Nat):qU Tryz.prog (qoX N):=⟨qz4 N,qds,trivial⟩
abbrev YW:=qn×List qm×Int
abbrev JL:=Unit⊕(Int×Bool)
def XR (f:YW):JL→Ex×TSt
 | .inl y=>(.ret,⟨0,50,[],[(2,.bc false)],[],false,[]⟩)
 | .inr y=>(.exit 0,⟨0,50,[],[(1,.p 10 [] 0),(6,.tv (.sl 37 qX) f.2.1),(7,xi f.2.2),(8,xi y.1),(9,xb y.2)],[(10,.cell false (.tv qZ f.1))],false,[]⟩)
def qyJ (N:Nat):List (Nat×qw):=[]
abbrev XM:=Int
def qk2:SP:=⟨0,50,[],[(1,.k (.p 10 [] 0)),(6,.x (.sl 37 qX)),(7,.x (.i .i64)),(8,.x (.i .i64))],[(10,.cell false (.x qZ))],false,[]⟩
def qye (f:YW) (v:XM):TSt:=zq qk2 [dv qZ f.1,dv (.sl 37 qX) f.2.1,dv (.i .i64) f.2.2,dv (.i .i64) v]
def Kc (N:Nat) (o_2:qn) (s6_2:List qm) (s7_2:Int) (v:XM):Tree (XM⊕JL):=
 .cond (decide (v < s7_2)) (
 .bind (qM s6_2 v) fun e1=>
 .bind (qep N e1 (qn.qz o_2)) fun r2=>
 .cond (!r2) (
 .ret (.inr (.inl ()))) <|
 .cond (decide (((0:Int)) < v)) (
 .chk (qp (v - 1)) <|
 .bind (qM (qn.F o_2) (v - 1)) fun e3=>
 .cond (decide ((qm.No e1)≤(qm.No e3))) (
 .ret (.inr (.inl ()))) <|
 .chk (qp (v + 1)) <|
 .ret (.inl (v + 1))) <|
 .chk (qp (v + 1)) <|
 .ret (.inl (v + 1))) <|
 .ret (.inr (.inr ((v,decide (v < s7_2)))))
def qkV (N n:Nat) (f:YW) (v:XM):Option JL:=qQ (Kc N f.1 f.2.1 f.2.2) some n v
theorem qyh (N:Nat) (f:YW) (n:Nat) (v:XM) (y:JL) (h:qkV N n f v=some y):LG Tryz.prog qiB 78 (qE qCR 2) (qye f v) (XR f y):=
 zj qk (E:=qoX N) (L:=qJ (qyJ N)) (st:=XR f) (g:=some) (R:=XR f) (qlO N) (qt (by kernel_rfl) trivial) (rg0 (by kernel_rfl)) (fun v=>by kernel_rfl) (qP (st:=XR f) fun y=>by rcases y with _ | _<;>rfl) n v y h
def qgC (N:Nat) (o_2:qn) (s6_2:List qm) (s7_2:Int) (s8_2:Int):Option JL:=qkV N N (o_2,s6_2,s7_2) s8_2
def qkG (N:Nat):qw:=smL qk2 [qZ,(.sl 37 qX),(.i .i64),(.i .i64)] JL (fun x=>qgC N x.1 x.2.1 x.2.2.1 x.2.2.2.1) (csS cs1) fun x=>XR (x.1,x.2.1,x.2.2.1)
theorem qwi (N:Nat):zZ Tryz.prog qiB 78 (qE qCR 2) (qkG N):=zp fun x z h=>qyh N (x.1,x.2.1,x.2.2.1) N x.2.2.2.1 z h
def qEN (z:Bool):TV×THp:=(xb z,[])
def qhZ (N:Nat) (a0:qn):Tree (Bool):=
 .bind (qgC N a0 (qn.F a0) (((qn.F a0).length:Nat):Int) 0) fun z1=>
 .sum z1 (fun z2=>
 .ret false) fun z2=>
 .bind (qaF (qn.qz a0)) fun r3=>
 .cond r3 (
 .cond (decide (((0:Int)) < (((qn.F a0).length:Nat):Int))) (
 .ret true) <|
 .ret (!(eqE qh (qn.qz a0) (qc.mk 0 0)))) <|
 .ret false
def qgm (N:Nat) (a0:qn):Option (Bool):=(qhZ N a0).run some
def qEc (N:Nat):List (Nat×qw):=[(2,qkG N)]
def qo8 (N:Nat):Ent:=smF ⟨78,[],[.x qZ],[],[]⟩ [qZ] (Bool) (fun x=>qgm N x.1) cs1 fun _=>qEN
theorem qCx (N:Nat):zf Tryz.prog (qo8 N):=
 zd (H:=qiB) (L:=qJ (qEc N)) (ts:=[qZ]) (T:=fun x=>qhZ N x.1) 0 qSL (qlO N) (qt (by kernel_rfl) ⟨qwi N,trivial⟩) (rg0 (by kernel_rfl)) fun x=>by kernel_rfl
noncomputable def qBY:Code:=Tryz.f40.body.getD .skip
theorem qTN:FnF Tryz.prog 40 Tryz.f40 qBY:=⟨qk,by kernel_rfl,by kernel_rfl,by kernel_rfl⟩
def qjy:TH:={ live:=[(0,[1]),(1,[1,6,7,8]),(2,[1,6,7,8,9]),(3,[1,3,4,6,7,8]),(4,[1,6,7,8,32]),(5,[2]),(6,[1,6,7,8]),(7,[2])],dec:=[16,19] }
def qsP (N:Nat):List Ent:=[qo8 N,qpQ]
theorem qnI (N:Nat):qU Tryz.prog (qsP N):=⟨qCx N,qwL,trivial⟩
abbrev KO:=qg×List qn×Int
abbrev Vs:=Unit⊕(Int×Bool)
def WC (f:KO):Vs→Ex×TSt
 | .inl y=>(.ret,⟨0,38,[],[(2,.bc false)],[],false,[]⟩)
 | .inr y=>(.exit 0,⟨0,38,[],[(1,.p 10 [] 0),(6,.tv (.sl 19 qZ) f.2.1),(7,xi f.2.2),(8,xi y.1),(9,xb y.2)],[(10,.cell false (.tv qo f.1))],false,[]⟩)
def qzH (N:Nat):List (Nat×qw):=[]
abbrev WO:=Int
def ql1:SP:=⟨0,38,[],[(1,.k (.p 10 [] 0)),(6,.x (.sl 19 qZ)),(7,.x (.i .i64)),(8,.x (.i .i64))],[(10,.cell false (.x qo))],false,[]⟩
def qAv (f:KO) (v:WO):TSt:=zq ql1 [dv qo f.1,dv (.sl 19 qZ) f.2.1,dv (.i .i64) f.2.2,dv (.i .i64) v]
def KM (N:Nat) (o_2:qg) (s6_2:List qn) (s7_2:Int) (v:WO):Tree (WO⊕Vs):=
 .cond (decide (v < s7_2)) (
 .bind (qM s6_2 v) fun e1=>
 .bind (qgm N e1) fun r2=>
 .cond (!r2) (
 .ret (.inr (.inl ()))) <|
 .cond (decide (((0:Int)) < v)) (
 .chk (qp (v - 1)) <|
 .bind (qM (qg.L o_2) (v - 1)) fun e3=>
 .bind (qkI (qn.ID e3) (qn.ID e1)) fun r4=>
 .cond (!r4) (
 .ret (.inr (.inl ()))) <|
 .chk (qp (v + 1)) <|
 .ret (.inl (v + 1))) <|
 .chk (qp (v + 1)) <|
 .ret (.inl (v + 1))) <|
 .ret (.inr (.inr ((v,decide (v < s7_2)))))
def qlN (N n:Nat) (f:KO) (v:WO):Option Vs:=qQ (KM N f.1 f.2.1 f.2.2) some n v
theorem qAr (N:Nat) (f:KO) (n:Nat) (v:WO) (y:Vs) (h:qlN N n f v=some y):LG Tryz.prog qjy 40 (qE qBY 2) (qAv f v) (WC f y):=
 zj qk (E:=qsP N) (L:=qJ (qzH N)) (st:=WC f) (g:=some) (R:=WC f) (qnI N) (qt (by kernel_rfl) trivial) (rg0 (by kernel_rfl)) (fun v=>by kernel_rfl) (qP (st:=WC f) fun y=>by rcases y with _ | _<;>rfl) n v y h
def qiR (N:Nat) (o_2:qg) (s6_2:List qn) (s7_2:Int) (s8_2:Int):Option Vs:=qlN N N (o_2,s6_2,s7_2) s8_2
def qlU (N:Nat):qw:=smL ql1 [qo,(.sl 19 qZ),(.i .i64),(.i .i64)] Vs (fun x=>qiR N x.1 x.2.1 x.2.2.1 x.2.2.2.1) (csS cs1) fun x=>WC (x.1,x.2.1,x.2.2.1)
theorem qwQ (N:Nat):zZ Tryz.prog qjy 40 (qE qBY 2) (qlU N):=zp fun x z h=>qAr N (x.1,x.2.1,x.2.2.1) N x.2.2.2.1 z h
def qGl (z:Bool):TV×THp:=(xb z,[])
def qjG (N:Nat) (a0:qg):Tree (Bool):=
 .bind (qiR N a0 (qg.L a0) (((qg.L a0).length:Nat):Int) 0) fun z1=>
 .sum z1 (fun z2=>
 .ret false) fun z2=>
 .ret (decide ((((qg.L a0).length:Nat):Int)≤((10:Int))))
def qhL (N:Nat) (a0:qg):Option (Bool):=(qjG N a0).run some
def qF8 (N:Nat):List (Nat×qw):=[(2,qlU N)]
def qrR (N:Nat):Ent:=smF ⟨40,[],[.x qo],[],[]⟩ [qo] (Bool) (fun x=>qhL N x.1) cs1 fun _=>qGl
theorem qEf (N:Nat):zf Tryz.prog (qrR N):=
 zd (H:=qjy) (L:=qJ (qF8 N)) (ts:=[qo]) (T:=fun x=>qjG N x.1) 0 qTN (qnI N) (qt (by kernel_rfl) ⟨qwQ N,trivial⟩) (rg0 (by kernel_rfl)) fun x=>by kernel_rfl
noncomputable def qTH:Code:=Tryz.f41.body.getD .skip
theorem qTl:FnF Tryz.prog 41 Tryz.f41 qTH:=⟨qk,by kernel_rfl,by kernel_rfl,by kernel_rfl⟩
def qJf:TH:={ live:=[(0,[2,3]),(1,[4])],esc:=true }
def qIX (N:Nat):List Ent:=[]
theorem qE9 (N:Nat):qU Tryz.prog (qIX N):=trivial
def qJX (a0:qb) (a1:qg) (z:Unit):TV×THp:=(.fn (.func 79) [] [.p 100020 [] 0,.p 100030 [] 0],[(100020,.cell false (.tv qj a0)),(100030,.cell false (.tv qo a1))])
def qyi (a0:qb) (a1:qg):Tree (Unit):=
 .ret ()
def quU (a0:qb) (a1:qg):Option (Unit):=(qyi a0 a1).run some
def qIo:List (Nat×qw):=[]
def qxB:Ent:=smF ⟨41,[],[.x qj,.x qo],[],[]⟩ [qj,qo] (Unit) (fun x=>quU x.1 x.2.1) cs1 fun x=>qJX x.1 x.2.1
theorem qHD:zf Tryz.prog (qxB):=
 zd (H:=qJf) (L:=qJ (qIo)) (ts:=[qj,qo]) (T:=fun x=>qyi x.1 x.2.1) 0 qTl (qE9 0) (qt (by kernel_rfl) trivial) (rg0 (by kernel_rfl)) fun x=>by kernel_rfl
noncomputable def qUb:Code:=Tryz.f62.body.getD .skip
theorem qSs:FnF Tryz.prog 62 Tryz.f62 qUb:=⟨qk,by kernel_rfl,by kernel_rfl,by kernel_rfl⟩
def qAq:TH:={ live:=[(0,[1,2]),(1,[3])] }
def qzX (N:Nat):List Ent:=[]
theorem qvQ (N:Nat):qU Tryz.prog (qzX N):=trivial
def qzZ (a0:Vector UInt8 16) (a1:qn) (z:Unit):TV×THp:=(xb (eqE (.ba 16) (qn.ID a1) a0),[(30,.cell false (.tv (.ba 16) a0))])
def qe5 (a0:Vector UInt8 16) (a1:qn):Tree (Unit):=
 .ret ()
def qiX (a0:Vector UInt8 16) (a1:qn):Option (Unit):=(qe5 a0 a1).run some
def qz6:List (Nat×qw):=[]
def qlP:Ent:=smF ⟨62,[],[.x qZ],[.k (.p 30 [] 0)],[(30,.cell false (.x (.ba 16)))]⟩ [(.ba 16),qZ] (Unit) (fun x=>qiX x.1 x.2.1) cs1 fun x=>qzZ x.1 x.2.1
theorem qyg:zf Tryz.prog (qlP):=
 zd (H:=qAq) (L:=qJ (qz6)) (ts:=[(.ba 16),qZ]) (T:=fun x=>qe5 x.1 x.2.1) 0 qSs (qvQ 0) (qt (by kernel_rfl) trivial) (rg0 (by kernel_rfl)) fun x=>by kernel_rfl
noncomputable def qBR:Code:=Tryz.f61.body.getD .skip
theorem qQ7:FnF Tryz.prog 61 Tryz.f61 qBR:=⟨qk,by kernel_rfl,by kernel_rfl,by kernel_rfl⟩
def YE:TH:={ live:=[(0,[0,1]),(1,[0,1,7,8]),(2,[0,1,7,8,9]),(3,[0,1,5,7,8]),(4,[0,1,5,7,8,16]),(5,[4]),(6,[0,1,7,8]),(7,[4])] }
def qeL (N:Nat):List Ent:=[qlP]
theorem qcR (N:Nat):qU Tryz.prog (qeL N):=⟨qyg,trivial⟩
abbrev Jd:=Vector UInt8 16×List qn×Int
abbrev vb:=Int⊕(Int×Bool)
def vX (f:Jd):vb→Ex×TSt
 | .inl y=>(.ret,⟨1,19,[30],[(4,xi y)],[(30,.cell false (.tv (.ba 16) f.1))],false,[]⟩)
 | .inr y=>(.exit 0,⟨1,19,[30],[(0,.tv (.sl 19 qZ) f.2.1),(1,.fn (.func 62) [] [.p 30 [] 0]),(7,xi f.2.2),(8,xi y.1),(9,xb y.2)],[(30,.cell false (.tv (.ba 16) f.1))],false,[]⟩)
def qlB (N:Nat):List (Nat×qw):=[]
abbrev v5:=Int
def qbS:SP:=⟨1,19,[30],[(0,.x (.sl 19 qZ)),(1,.fn 62 [] [.k (.p 30 [] 0)]),(7,.x (.i .i64)),(8,.x (.i .i64))],[(30,.cell false (.x (.ba 16)))],false,[]⟩
def qk8 (f:Jd) (v:v5):TSt:=zq qbS [dv (.ba 16) f.1,dv (.sl 19 qZ) f.2.1,dv (.i .i64) f.2.2,dv (.i .i64) v]
def vW (N:Nat) (o_2:Vector UInt8 16) (s0_2:List qn) (s7_2:Int) (v:v5):Tree (v5⊕vb):=
 .cond (decide (v < s7_2)) (
 .bind (qM s0_2 v) fun e1=>
 .bind (qiX o_2 e1) fun r2=>
 .cond (eqE (.ba 16) (qn.ID e1) o_2) (
 .ret (.inr (.inl v))) <|
 .chk (qp (v + 1)) <|
 .ret (.inl (v + 1))) <|
 .ret (.inr (.inr ((v,decide (v < s7_2)))))
def qbE (N n:Nat) (f:Jd) (v:v5):Option vb:=qQ (vW N f.1 f.2.1 f.2.2) some n v
theorem qk9 (N:Nat) (f:Jd) (n:Nat) (v:v5) (y:vb) (h:qbE N n f v=some y):LG Tryz.prog YE 61 (qE qBR 2) (qk8 f v) (vX f y):=
 zj qk (E:=qeL N) (L:=qJ (qlB N)) (st:=vX f) (g:=some) (R:=vX f) (qcR N) (qt (by kernel_rfl) trivial) (rg0 (by kernel_rfl)) (fun v=>by kernel_rfl) (qP (st:=vX f) fun y=>by rcases y with _ | _<;>rfl) n v y h
def Yl (N:Nat) (o_2:Vector UInt8 16) (s0_2:List qn) (s7_2:Int) (s8_2:Int):Option vb:=qbE N N (o_2,s0_2,s7_2) s8_2
def qbF (N:Nat):qw:=smL qbS [(.ba 16),(.sl 19 qZ),(.i .i64),(.i .i64)] vb (fun x=>Yl N x.1 x.2.1 x.2.2.1 x.2.2.2.1) (csS cs1) fun x=>vX (x.1,x.2.1,x.2.2.1)
theorem qkn (N:Nat):zZ Tryz.prog YE 61 (qE qBR 2) (qbF N):=zp fun x z h=>qk9 N (x.1,x.2.1,x.2.2.1) N x.2.2.2.1 z h
def qoc (a0:Vector UInt8 16) (z:Int):TV×THp:=(xi z,[(30,.cell false (.tv (.ba 16) a0))])
def YD (N:Nat) (a0:Vector UInt8 16) (a1:List qn):Tree (Int):=
 .bind (Yl N a0 a1 ((a1.length:Nat):Int) 0) fun z1=>
 .sum z1 (fun z2=>
 .ret z2) fun z2=>
 .ret (-1)
def Wl (N:Nat) (a0:Vector UInt8 16) (a1:List qn):Option (Int):=(YD N a0 a1).run some
def qn0 (N:Nat):List (Nat×qw):=[(2,qbF N)]
def qeI (N:Nat):Ent:=smF ⟨61,[],[.x (.sl 19 qZ),.fn 62 [] [.k (.p 30 [] 0)]],[],[(30,.cell false (.x (.ba 16)))]⟩ [(.ba 16),(.sl 19 qZ)] (Int) (fun x=>Wl N x.1 x.2.1) cs1 fun x=>qoc x.1
theorem qnH (N:Nat):zf Tryz.prog (qeI N):=
 zd (H:=YE) (L:=qJ (qn0 N)) (ts:=[(.ba 16),(.sl 19 qZ)]) (T:=fun x=>YD N x.1 x.2.1) 0 qQ7 (qcR N) (qt (by kernel_rfl) ⟨qkn N,trivial⟩) (rg0 (by kernel_rfl)) fun x=>by kernel_rfl
noncomputable def qSc:Code:=Tryz.f96.body.getD .skip
theorem qBv:FnF Tryz.prog 96 Tryz.f96 qSc:=⟨qk,by kernel_rfl,by kernel_rfl,by kernel_rfl⟩
def qtj:TH:={ live:=[(0,[0]),(1,[0,4]),(2,[2]),(3,[2])],vecs:=[5],esc:=true }
def qtH (N:Nat):List Ent:=[]
theorem qpZ (N:Nat):qU Tryz.prog (qtH N):=trivial
def qhK (a0:List qm) (z:Unit):TV×THp:=(.v 100050 (((([]:List qm))++a0).length),[(100050,.vec false 37 (.sl 37 qX) ((([]:List qm))++a0:List qm))])
def qa7 (a0:List qm):Tree (Unit):=
 .chk (List.isEmpty a0=false) <|
 .chk (zU ((([]:List qm)).length) 0 (((([]:List qm))++a0).length) 88) <|
 .ret ()
def qdn (a0:List qm):Option (Unit):=(qa7 a0).run some
def quk:List (Nat×qw):=[]
theorem qp0:qbn Tryz.prog ⟨96,[],[.x (.sl 37 qX)],[],[]⟩ [(.sl 37 qX)] (fun x=>qa7 x.1) (fun x=>qhK x.1):=
 Yp (H:=qtj) (L:=qJ (quk)) 0 qBv (qpZ 0) (qt (by kernel_rfl) trivial) (rg0 (by kernel_rfl)) fun x=>by kernel_rfl
def qp2:TH:={ live:=[(0,[0]),(1,[0,4]),(2,[2]),(3,[2])],vecs:=[5],esc:=true }
def qpx (N:Nat):List Ent:=[]
theorem qnG (N:Nat):qU Tryz.prog (qpx N):=trivial
def qpX (z:Unit):TV×THp:=(.v 100050 0,[(100050,.vec false 37 (.sl 37 qX) ([]:List qm))])
def qfP:Tree (Unit):=
 .chk (0=0) <|
 .ret ()
def qs2:Option (Unit):=(qfP).run some
def qpN:List (Nat×qw):=[]
theorem qnU:qbn Tryz.prog ⟨96,[],[.k (.es 0)],[],[]⟩ [] (fun x=>qfP) (fun _=>qpX):=
 Yp (H:=qp2) (L:=qJ (qpN)) 0 qBv (qnG 0) (qt (by kernel_rfl) trivial) (rg0 (by kernel_rfl)) fun x=>by kernel_rfl
def qqo:TH:={ live:=[(0,[0]),(1,[0,4]),(2,[2]),(3,[2])],vecs:=[5],esc:=true }
def qrh (N:Nat):List Ent:=[]
theorem qnW (N:Nat):qU Tryz.prog (qrh N):=trivial
def qpC (z:Unit):TV×THp:=(.nils,[])
def qfe:Tree (Unit):=
 .ret ()
def quJ:Option (Unit):=(qfe).run some
def qq_:List (Nat×qw):=[]
theorem qnz:qbn Tryz.prog ⟨96,[],[.k (.es 1)],[],[]⟩ [] (fun x=>qfe) (fun _=>qpC):=
 Yp (H:=qqo) (L:=qJ (qq_)) 0 qBv (qnW 0) (qt (by kernel_rfl) trivial) (rg0 (by kernel_rfl)) fun x=>by kernel_rfl
def qf7 (z:Unit):Unit:=()
def qq6 (z:Unit):Unit:=()
def Zw (a0:List qm):Option (Unit):=
 bif a0.isEmpty then
 (qs2).bind fun z0=>(quJ).bind fun z1=>chk (qf7 z0=qq6 z1) (some (qf7 z0))
 else qdn a0
def qhr:Ent:=smF ⟨96,[],[.x (.sl 37 qX)],[],[]⟩ [(.sl 37 qX)] (Unit) (fun x=>Zw x.1) cs1 fun x=>qhK x.1
theorem qqO:zf Tryz.prog (qhr):=qkS fun x z h l=>by
 obtain ⟨a0,_⟩:=x
 replace h:Zw a0=some z:=h
 unfold Zw at h
 rcases qkX h with ⟨e,h2⟩ | ⟨_,h2⟩<;>clear h
 ·have e:=List.isEmpty_iff.1 e
  subst e
  obtain ⟨z0,c0,h2⟩:=bind_some h2
  obtain ⟨z1,c1,h2⟩:=bind_some h2
  obtain ⟨hE,h2⟩:=qjF h2
  obtain rfl:=Option.some.inj h2
  refine qku (t:=(.sl 37 qX)) (x:=[]) rfl (TV.ers []) (TV.ers []) (by exact qnU (()) _ c0 l) ?_
  rw [hE]
  exact (qMm (n:=100050) (sz:=37) (x:=qI (.sl 37 qX) ([]:List qm)) rfl (by kernel_rfl) (by kernel_rfl) (qnz (()) _ c1 l))
 ·exact qp0 (a0,()) z h2 l
noncomputable def qRg:Code:=Tryz.f97.body.getD .skip
theorem qBm:FnF Tryz.prog 97 Tryz.f97 qRg:=⟨qk,by kernel_rfl,by kernel_rfl,by kernel_rfl⟩
def qxC:TH:={ live:=[(0,[0]),(1,[0,4]),(2,[2]),(3,[2])],vecs:=[5] }
def qy0 (N:Nat):List Ent:=[]
theorem qsY (N:Nat):qU Tryz.prog (qy0 N):=trivial
def qkz (a0:List zy) (z:Unit):TV×THp:=(.tv (.sl 33 VB) ((([]:List zy))++a0:List zy),[])
def qdG (a0:List zy):Tree (Unit):=
 .chk (List.isEmpty a0=false) <|
 .chk (zU ((([]:List zy)).length) 0 (((([]:List zy))++a0).length) 36) <|
 .chk (((([]:List zy))++a0).length=((([]:List zy))++a0).length) <|
 .ret ()
def qgI (a0:List zy):Option (Unit):=(qdG a0).run some
def qx1:List (Nat×qw):=[]
theorem qtu:qbn Tryz.prog ⟨97,[],[.x (.sl 33 VB)],[],[]⟩ [(.sl 33 VB)] (fun x=>qdG x.1) (fun x=>qkz x.1):=
 Yp (H:=qxC) (L:=qJ (qx1)) 0 qBm (qsY 0) (qt (by kernel_rfl) trivial) (rg0 (by kernel_rfl)) fun x=>by kernel_rfl
def quC:TH:={ live:=[(0,[0]),(1,[0,4]),(2,[2]),(3,[2])],vecs:=[5] }
def qtM (N:Nat):List Ent:=[]
theorem qpp (N:Nat):qU Tryz.prog (qtM N):=trivial
def qs5 (z:Unit):TV×THp:=(.tv (.sl 33 VB) ([]:List zy),[])
def qis:Tree (Unit):=
 .chk (0=0) <|
 .chk (0=0) <|
 .ret ()
def qy5:Option (Unit):=(qis).run some
def qtQ:List (Nat×qw):=[]
theorem qpD:qbn Tryz.prog ⟨97,[],[.k (.es 0)],[],[]⟩ [] (fun x=>qis) (fun _=>qs5):=
 Yp (H:=quC) (L:=qJ (qtQ)) 0 qBm (qpp 0) (qt (by kernel_rfl) trivial) (rg0 (by kernel_rfl)) fun x=>by kernel_rfl
def qs3:TH:={ live:=[(0,[0]),(1,[0,4]),(2,[2]),(3,[2])],vecs:=[5] }
def qtg (N:Nat):List Ent:=[]
theorem qq9 (N:Nat):qU Tryz.prog (qtg N):=trivial
def quu (z:Unit):TV×THp:=(.tv (.sl 33 VB) ([]:List zy),[])
def qh2:Tree (Unit):=
 .ret ()
def qyq:Option (Unit):=(qh2).run some
def quA:List (Nat×qw):=[]
theorem qra:qbn Tryz.prog ⟨97,[],[.k (.es 1)],[],[]⟩ [] (fun x=>qh2) (fun _=>quu):=
 Yp (H:=qs3) (L:=qJ (quA)) 0 qBm (qq9 0) (qt (by kernel_rfl) trivial) (rg0 (by kernel_rfl)) fun x=>by kernel_rfl
def qik (z:Unit):Unit:=()
def qty (z:Unit):Unit:=()
def Vv (a0:List zy):Option (Unit):=
 bif a0.isEmpty then
 (qy5).bind fun z0=>(qyq).bind fun z1=>chk (qik z0=qty z1) (some (qik z0))
 else qgI a0
def qjr:Ent:=smF ⟨97,[],[.x (.sl 33 VB)],[],[]⟩ [(.sl 33 VB)] (Unit) (fun x=>Vv x.1) cs1 fun x=>qkz x.1
theorem qtI:zf Tryz.prog (qjr):=qkS fun x z h l=>by
 obtain ⟨a0,_⟩:=x
 replace h:Vv a0=some z:=h
 unfold Vv at h
 rcases qkX h with ⟨e,h2⟩ | ⟨_,h2⟩<;>clear h
 ·have e:=List.isEmpty_iff.1 e
  subst e
  obtain ⟨z0,c0,h2⟩:=bind_some h2
  obtain ⟨z1,c1,h2⟩:=bind_some h2
  obtain ⟨hE,h2⟩:=qjF h2
  obtain rfl:=Option.some.inj h2
  refine qku (t:=(.sl 33 VB)) (x:=[]) rfl (TV.ers []) (TV.ers []) (by exact qpD (()) _ c0 l) ?_
  rw [hE]
  exact (by exact qra (()) _ c1 l)
 ·exact qtu (a0,()) z h2 l
noncomputable def qBD:Code:=Tryz.f63.body.getD .skip
theorem qSu:FnF Tryz.prog 63 Tryz.f63 qBD:=⟨qk,by kernel_rfl,by kernel_rfl,by kernel_rfl⟩
def qjJ:TH:={ live:=[(0,[1,2]),(1,[1,2]),(2,[1,2,10,11]),(3,[1,2,10,11,12]),(4,[1,2,3,10,11]),(5,[1,2,10,11]),(6,[1,2,10,11]),(7,[2])],fresh:=[6],nil:=[(0,[⟨.ob 20 [2],25,(.sl 37 qX)⟩])] }
def qsO (N:Nat):List Ent:=[qhr,qjr]
theorem qnf (N:Nat):qU Tryz.prog (qsO N):=⟨qqO,qtI,trivial⟩
abbrev K2:=List qm×Vector UInt8 16×qc×Nat×Vector UInt8 16×qc×Int
abbrev Vx:=List qm×Int×Bool
def WI (f:K2) (y:Vx):Ex×TSt:=(.exit 0,⟨0,28,[],[(1,.p 10 [] 0),(2,.p 20 [] 0),(10,xi f.2.2.2.2.2.2),(11,xi y.2.1),(12,xb y.2.2)],[(10,.cell false (.ag [.tv (.ba 16) f.2.1,.tv qh f.2.2.1,.v 100050 f.2.2.2.1])),(20,.cell false (.ag [.tv (.ba 16) f.2.2.2.2.1,.tv qh f.2.2.2.2.2.1,.v 25 f.1.length])),(25,.vec false 37 (.sl 37 qX) f.1),(100050,.vec false 37 (.sl 37 qX) (y.1:List qm))],false,[]⟩)
def qAG (N:Nat):List (Nat×qw):=[]
abbrev WA:=List qm×Int
def qlI:SP:=⟨0,28,[],[(1,.k (.p 10 [] 0)),(2,.k (.p 20 [] 0)),(10,.x (.i .i64)),(11,.x (.i .i64))],[(10,.cell false (.ag [.x (.ba 16),.x qh,.v 100050])),(20,.cell false (.ag [.x (.ba 16),.x qh,.vs 25])),(25,.vec false 37),(100050,.vec false 37)],false,[]⟩
def qzM (f:K2) (v:WA):TSt:=zq qlI [dv (.sl 37 qX) f.1,dv (.sl 37 qX) v.1,dv (.ba 16) f.2.1,dv qh f.2.2.1,dv .nat f.2.2.2.1,dv (.ba 16) f.2.2.2.2.1,dv qh f.2.2.2.2.2.1,dv (.i .i64) f.2.2.2.2.2.2,dv (.i .i64) v.2]
def KU (N:Nat) (o_3:List qm) (o_3_3:Vector UInt8 16) (o_3_4:qc) (o_3_5:Nat) (o_3_6:Vector UInt8 16) (o_3_7:qc) (s10_3:Int) (v:WA):Tree (WA⊕Vx):=
 .cond (decide (v.2 < s10_3)) (
 .chk (0≤v.2∧v.2 < ((o_3_5:Nat):Int)) <|
 .bind (jy v.1 o_3_5 v.2.toNat) fun e1=>
 .bind (Vv (qm.B e1)) fun r2=>
 .chk (0≤v.2∧v.2 < ((o_3_5:Nat):Int)) <|
 .bind (jy v.1 o_3_5 v.2.toNat) fun e3=>
 .chk (qp (v.2 + 1)) <|
 .ret (.inl (v.1.set v.2.toNat (qm.mk (qm.No e3) (qm.S e3) (qm.Len e3) (qm.D e3) ((([]:List zy))++(qm.B e1))),v.2 + 1))) <|
 .ret (.inr (v.1,v.2,decide (v.2 < s10_3)))
def qlD (N n:Nat) (f:K2) (v:WA):Option Vx:=qQ (KU N f.1 f.2.1 f.2.2.1 f.2.2.2.1 f.2.2.2.2.1 f.2.2.2.2.2.1 f.2.2.2.2.2.2) some n v
theorem qAs (N:Nat) (f:K2) (n:Nat) (v:WA) (y:Vx) (h:qlD N n f v=some y):LG Tryz.prog qjJ 63 (qE qBD 3) (qzM f v) (WI f y):=
 zj qk (E:=qsO N) (L:=qJ (qAG N)) (st:=WI f) (g:=some) (R:=WI f) (qnf N) (qt (by kernel_rfl) trivial) (rg0 (by kernel_rfl)) (fun v=>by kernel_rfl) (qP (st:=WI f) fun y=>by rfl) n v y h
def qh9 (N:Nat) (o_3:List qm) (o_3_3:Vector UInt8 16) (o_3_4:qc) (o_3_5:Nat) (o_3_6:Vector UInt8 16) (o_3_7:qc) (s10_3:Int) (o_3_2:List qm) (s11_3:Int):Option Vx:=qlD N N (o_3,o_3_3,o_3_4,o_3_5,o_3_6,o_3_7,s10_3) (o_3_2,s11_3)
def qlG (N:Nat):qw:=smL qlI [(.sl 37 qX),(.sl 37 qX),(.ba 16),qh,.nat,(.ba 16),qh,(.i .i64),(.i .i64)] Vx (fun x=>qh9 N x.1 x.2.2.1 x.2.2.2.1 x.2.2.2.2.1 x.2.2.2.2.2.1 x.2.2.2.2.2.2.1 x.2.2.2.2.2.2.2.1 x.2.1 x.2.2.2.2.2.2.2.2.1) cs1 fun x=>WI (x.1,x.2.2.1,x.2.2.2.1,x.2.2.2.2.1,x.2.2.2.2.2.1,x.2.2.2.2.2.2.1,x.2.2.2.2.2.2.2.1)
theorem qwB (N:Nat):zZ Tryz.prog qjJ 63 (qE qBD 3) (qlG N):=zp fun x z h=>qAs N (x.1,x.2.2.1,x.2.2.2.1,x.2.2.2.2.1,x.2.2.2.2.2.1,x.2.2.2.2.2.2.1,x.2.2.2.2.2.2.2.1) N (x.2.1,x.2.2.2.2.2.2.2.2.1) z h
def qFD (z:qn):TV×THp:=(.tv qZ z,[])
def qjO (N:Nat) (a0:qn):Tree (qn):=
 .bind (Zw (qn.F a0)) fun r1=>
 .bind (zV [(([]:List qm).length,0)] (qh9 N [] (qn.ID a0) (qn.qz a0) (((([]:List qm))++(qn.F a0)).length) ((Vector.replicate 16 0)) (qc.mk 0 0) ((((([]:List qm))++(qn.F a0)).length:Nat):Int) ((([]:List qm))++(qn.F a0)) 0)) fun z2=>
 .chk (z2.1.length=((([]:List qm))++(qn.F a0)).length) <|
 .ret (qn.mk (qn.ID a0) (qn.qz a0) z2.1)
def qiA (N:Nat) (a0:qn):Option (qn):=(qjO N a0).run some
def qGf (N:Nat):List (Nat×qw):=[(3,qlG N)]
def qsI (N:Nat):Ent:=smF ⟨63,[],[.x qZ],[],[]⟩ [qZ] (qn) (fun x=>qiA N x.1) cs1 fun _=>qFD
theorem qDV (N:Nat):zf Tryz.prog (qsI N):=
 zd (H:=qjJ) (L:=qJ (qGf N)) (ts:=[qZ]) (T:=fun x=>qjO N x.1) 0 qSu (qnf N) (qt (by kernel_rfl) ⟨qwB N,trivial⟩) (rg0 (by kernel_rfl)) fun x=>by kernel_rfl
noncomputable def qQ9:Code:=Tryz.f26.body.getD .skip
theorem qTR:FnF Tryz.prog 26 Tryz.f26 qQ9:=⟨qk,by kernel_rfl,by kernel_rfl,by kernel_rfl⟩
def qEi:TH:={ live:=[(0,[2,3,4]),(1,[2,4,6]),(2,[2,4,6,12]),(3,[4,5]),(4,[4,5])],nil:=[(0,[⟨.ob 40 [2],45,(.sl 37 qX)⟩]),(3,[⟨.ob 40 [2],45,(.sl 37 qX)⟩])] }
def qEU (N:Nat):List Ent:=[qeI N,qsI N]
theorem qAB (N:Nat):qU Tryz.prog (qEU N):=⟨qnH N,qDV N,trivial⟩
def qE4 (z:qn×Bool):TV×THp:=(.tup [.tv qZ (z.1:qn),xb z.2],[])
def qh3 (N:Nat) (a0:qg) (a1:Vector UInt8 16):Tree (qn×Bool):=
 .bind (Wl N a1 (qg.L a0)) fun r1=>
 .cond (decide (r1 < ((0:Int)))) (
 .chk (0=0) <|
 .ret (qn.mk ((Vector.replicate 16 0)) (qc.mk 0 0) [],false)) <|
 .bind (qM (qg.L a0) r1) fun e2=>
 .bind (qiA N e2) fun r3=>
 .ret (r3,true)
def YQ (N:Nat) (a0:qg) (a1:Vector UInt8 16):Option (qn×Bool):=(qh3 N a0 a1).run some
def qEn (N:Nat):List (Nat×qw):=[]
def qiu (N:Nat):Ent:=smF ⟨26,[],[.x qo,.x (.ba 16)],[],[]⟩ [qo,(.ba 16)] (qn×Bool) (fun x=>YQ N x.1 x.2.1) cs1 fun _=>qE4
theorem qnN (N:Nat):zf Tryz.prog (qiu N):=
 zd (H:=qEi) (L:=qJ (qEn N)) (ts:=[qo,(.ba 16)]) (T:=fun x=>qh3 N x.1 x.2.1) 0 qTR (qAB N) (qt (by kernel_rfl) trivial) (rg0 (by kernel_rfl)) fun x=>by kernel_rfl
noncomputable def qRK:Code:=Tryz.f82.body.getD .skip
theorem qSi:FnF Tryz.prog 82 Tryz.f82 qRK:=⟨qk,by kernel_rfl,by kernel_rfl,by kernel_rfl⟩
def qz0:TH:={ live:=[(0,[1,2]),(1,[3])] }
def qz_ (N:Nat):List Ent:=[]
theorem qvJ (N:Nat):qU Tryz.prog (qz_ N):=trivial
def qzW (a0:Int) (a1:qm) (z:Unit):TV×THp:=(xb (decide ((qm.No a1)=a0)),[(50,.cell false (xi a0))])
def qlQ (a0:Int) (a1:qm):Tree (Unit):=
 .ret ()
def qhU (a0:Int) (a1:qm):Option (Unit):=(qlQ a0 a1).run some
def qAE:List (Nat×qw):=[]
def qlV:Ent:=smF ⟨82,[],[.x qX],[.k (.p 50 [] 0)],[(50,.cell false (.x (.i .i64)))]⟩ [(.i .i64),qX] (Unit) (fun x=>qhU x.1 x.2.1) cs1 fun x=>qzW x.1 x.2.1
theorem qx2:zf Tryz.prog (qlV):=
 zd (H:=qz0) (L:=qJ (qAE)) (ts:=[(.i .i64),qX]) (T:=fun x=>qlQ x.1 x.2.1) 0 qSi (qvJ 0) (qt (by kernel_rfl) trivial) (rg0 (by kernel_rfl)) fun x=>by kernel_rfl
noncomputable def qBX:Code:=Tryz.f64.body.getD .skip
theorem qS9:FnF Tryz.prog 64 Tryz.f64 qBX:=⟨qk,by kernel_rfl,by kernel_rfl,by kernel_rfl⟩
def WS:TH:={ live:=[(0,[0,1]),(1,[0,1,7,8]),(2,[0,1,7,8,9]),(3,[0,1,5,7,8]),(4,[0,1,5,7,8,16]),(5,[4]),(6,[0,1,7,8]),(7,[4])] }
def qc2 (N:Nat):List Ent:=[qlV]
theorem qaD (N:Nat):qU Tryz.prog (qc2 N):=⟨qx2,trivial⟩
abbrev Q7:=Int×List qm×Int
abbrev jP:=Int⊕(Int×Bool)
def vD (f:Q7):jP→Ex×TSt
 | .inl y=>(.ret,⟨1,19,[50],[(4,xi y)],[(50,.cell false (xi f.1))],false,[]⟩)
 | .inr y=>(.exit 0,⟨1,19,[50],[(0,.tv (.sl 37 qX) f.2.1),(1,.fn (.func 82) [] [.p 50 [] 0]),(7,xi f.2.2),(8,xi y.1),(9,xb y.2)],[(50,.cell false (xi f.1))],false,[]⟩)
def qjA (N:Nat):List (Nat×qw):=[]
abbrev vG:=Int
def qan:SP:=⟨1,19,[50],[(0,.x (.sl 37 qX)),(1,.fn 82 [] [.k (.p 50 [] 0)]),(7,.x (.i .i64)),(8,.x (.i .i64))],[(50,.cell false (.x (.i .i64)))],false,[]⟩
def qju (f:Q7) (v:vG):TSt:=zq qan [dv (.i .i64) f.1,dv (.sl 37 qX) f.2.1,dv (.i .i64) f.2.2,dv (.i .i64) v]
def vH (N:Nat) (o_2:Int) (s0_2:List qm) (s7_2:Int) (v:vG):Tree (vG⊕jP):=
 .cond (decide (v < s7_2)) (
 .bind (qM s0_2 v) fun e1=>
 .bind (qhU o_2 e1) fun r2=>
 .cond (decide ((qm.No e1)=o_2)) (
 .ret (.inr (.inl v))) <|
 .chk (qp (v + 1)) <|
 .ret (.inl (v + 1))) <|
 .ret (.inr (.inr ((v,decide (v < s7_2)))))
def K8 (N n:Nat) (f:Q7) (v:vG):Option jP:=qQ (vH N f.1 f.2.1 f.2.2) some n v
theorem qjE (N:Nat) (f:Q7) (n:Nat) (v:vG) (y:jP) (h:K8 N n f v=some y):LG Tryz.prog WS 64 (qE qBX 2) (qju f v) (vD f y):=
 zj qk (E:=qc2 N) (L:=qJ (qjA N)) (st:=vD f) (g:=some) (R:=vD f) (qaD N) (qt (by kernel_rfl) trivial) (rg0 (by kernel_rfl)) (fun v=>by kernel_rfl) (qP (st:=vD f) fun y=>by rcases y with _ | _<;>rfl) n v y h
def Ww (N:Nat) (o_2:Int) (s0_2:List qm) (s7_2:Int) (s8_2:Int):Option jP:=K8 N N (o_2,s0_2,s7_2) s8_2
def K_ (N:Nat):qw:=smL qan [(.i .i64),(.sl 37 qX),(.i .i64),(.i .i64)] jP (fun x=>Ww N x.1 x.2.1 x.2.2.1 x.2.2.2.1) (csS cs1) fun x=>vD (x.1,x.2.1,x.2.2.1)
theorem qiY (N:Nat):zZ Tryz.prog WS 64 (qE qBX 2) (K_ N):=zp fun x z h=>qjE N (x.1,x.2.1,x.2.2.1) N x.2.2.2.1 z h
def ql9 (a0:Int) (z:Int):TV×THp:=(xi z,[(50,.cell false (xi a0))])
def W0 (N:Nat) (a0:Int) (a1:List qm):Tree (Int):=
 .bind (Ww N a0 a1 ((a1.length:Nat):Int) 0) fun z1=>
 .sum z1 (fun z2=>
 .ret z2) fun z2=>
 .ret (-1)
def VK (N:Nat) (a0:Int) (a1:List qm):Option (Int):=(W0 N a0 a1).run some
def qmA (N:Nat):List (Nat×qw):=[(2,K_ N)]
def qcI (N:Nat):Ent:=smF ⟨64,[],[.x (.sl 37 qX),.fn 82 [] [.k (.p 50 [] 0)]],[],[(50,.cell false (.x (.i .i64)))]⟩ [(.i .i64),(.sl 37 qX)] (Int) (fun x=>VK N x.1 x.2.1) cs1 fun x=>ql9 x.1
theorem qlu (N:Nat):zf Tryz.prog (qcI N):=
 zd (H:=WS) (L:=qJ (qmA N)) (ts:=[(.i .i64),(.sl 37 qX)]) (T:=fun x=>W0 N x.1 x.2.1) 0 qS9 (qaD N) (qt (by kernel_rfl) ⟨qiY N,trivial⟩) (rg0 (by kernel_rfl)) fun x=>by kernel_rfl
noncomputable def qSz:Code:=Tryz.f49.body.getD .skip
theorem qRI:FnF Tryz.prog 49 Tryz.f49 qSz:=⟨qk,by kernel_rfl,by kernel_rfl,by kernel_rfl⟩
def qEk:TH:={ live:=[(0,[3,4,5]),(1,[3,4,7]),(2,[3,4,7,12]),(3,[6]),(4,[3,4,7,19]),(5,[6]),(6,[3,4,7,22]),(7,[6]),(8,[6])] }
def qEr (N:Nat):List Ent:=[qcI N,XQ N,qCq N,quT]
theorem qAy (N:Nat):qU Tryz.prog (qEr N):=⟨qlu N,Wt N,qGB N,qAX,trivial⟩
def qDI (z:Bool):TV×THp:=(xb z,[])
def qhT (N:Nat) (a0:qe) (a1:qn) (a2:Int):Tree (Bool):=
 .bind (VK N a2 (qn.F a1)) fun r1=>
 .bind (vA N (qn.qz a1) (qe.S a0)) fun r2=>
 .cond (!r2) (
 .ret false) <|
 .cond (decide (r1 < ((0:Int)))) (
 .ret true) <|
 .bind (qM (qn.F a1) r1) fun e3=>
 .cond (!(eqE qh (qm.S e3) (qe.S a0))) (
 .bind (qM (qn.F a1) r1) fun e4=>
 .bind (vA N (qm.S e4) (qe.S a0)) fun r5=>
 .ret r5) <|
 .bind (qM (qn.F a1) r1) fun e4=>
 .bind (qsD N (qe.V a0)) fun r5=>
 .bind (qjV (qm.D e4) r5) fun r6=>
 .ret r6
def YM (N:Nat) (a0:qe) (a1:qn) (a2:Int):Option (Bool):=(qhT N a0 a1 a2).run some
def qDh (N:Nat):List (Nat×qw):=[]
def qiv (N:Nat):Ent:=smF ⟨49,[],[.x qq,.x qZ,.x (.i .i64)],[],[]⟩ [qq,qZ,(.i .i64)] (Bool) (fun x=>YM N x.1 x.2.1 x.2.2.1) cs1 fun _=>qDI
theorem qmV (N:Nat):zf Tryz.prog (qiv N):=
 zd (H:=qEk) (L:=qJ (qDh N)) (ts:=[qq,qZ,(.i .i64)]) (T:=fun x=>qhT N x.1 x.2.1 x.2.2.1) 0 qRI (qAy N) (qt (by kernel_rfl) trivial) (rg0 (by kernel_rfl)) fun x=>by kernel_rfl
def qrx:TH:={ live:=[(0,[2,3]),(1,[2,3,14]),(2,[4]),(3,[2,3,5]),(4,[5,17]),(5,[5,6]),(6,[5,6,21]),(8,[4])],dec:=[10],fresh:=[17] }
def qrM (N:Nat):List Ent:=[qh8]
theorem qnZ (N:Nat):qU Tryz.prog (qrM N):=⟨qlz,trivial⟩
def qrG (a0:qb) (a1:qg) (a2:qa):Unit⊕Unit→TV×THp
 | .inl z=>(.bc true,[(50,.cell false (.v 200250 1)),(50050,.loop [18] 27 [(5,.p 50 [] 0),(17,.fn (.func 79) [] [.p 100020 [] 0,.p 100030 [] 0])] 1600005 16 .ready none 50051),(50051,.dfr true),(100020,.cell false (.tv qj a0)),(100030,.cell false (.tv qo a1)),(200250,.vec false 19 (.sl 19 qf) ([a2]:List qa))])
 | .inr z=>(.bc true,[(50,.cell false .nils),(50050,.loop [18] 27 [(5,.p 50 [] 0),(17,.fn (.func 79) [] [.p 100020 [] 0,.p 100030 [] 0])] 1600005 16 .ready none 50051),(50051,.dfr true),(100020,.cell false (.tv qj a0)),(100030,.cell false (.tv qo a1))])
def qaa (a0:qb) (a1:qg) (a2:qa):Tree (Unit⊕Unit):=
 .bind (J9 a2) fun r1=>
 .cond (!r1) (
 .chk (qh5 1 56) <|
 .ret (.inl ())) <|
 .ret (.inr ())
def Zx (a0:qb) (a1:qg) (a2:qa):Option (Unit⊕Unit):=(qaa a0 a1 a2).run some
def qrJ:List (Nat×qw):=[]
def qg4:Ent:=smR 50050 [.x qf] [(50,.cell false (.k .nils)),(50050,.loop [18] 27 [(5,.k (.p 50 [] 0)),(17,.fn 79 [] [.k (.p 100020 [] 0),.k (.p 100030 [] 0)])] 1600005 16 .ready none 50051),(50051,.dfr true),(100020,.cell false (.x qj)),(100030,.cell false (.x qo))] [qj,qo,qf] (Unit⊕Unit) (fun x=>Zx x.1 x.2.1 x.2.2.1) (csS cs1) fun x=>qrG x.1 x.2.1 x.2.2.1
theorem qqy:zf Tryz.prog (qg4):=
 qNu (H:=qrx) (L:=qJ (qrJ)) (ts:=[qj,qo,qf]) (T:=fun x=>qaa x.1 x.2.1 x.2.2.1) (K:=16) (cid:=1600005) 2 qk (qnZ 0) (by kernel_rfl) (qt (by kernel_rfl) trivial) (rg0 (by kernel_rfl)) (rg0 (by kernel_rfl)) (fun x=>by kernel_rfl) fun x=>by kernel_rfl
def qod:TH:={ live:=[(0,[2,3]),(1,[2,3,14]),(2,[4]),(3,[2,3,5]),(4,[5,17]),(5,[5,6]),(6,[5,6,21]),(8,[4])],dec:=[10],fresh:=[17] }
def qn3 (N:Nat):List Ent:=[qh8]
theorem qmp (N:Nat):qU Tryz.prog (qn3 N):=⟨qlz,trivial⟩
def qn5 (a1:qb) (a2:qg) (z:List qa):TV×THp:=(.bc true,[(50,.cell false (.v 200250 z.length)),(50050,.loop [18] 27 [(5,.p 50 [] 0),(17,.fn (.func 79) [] [.p 100020 [] 0,.p 100030 [] 0])] 1600005 16 .ready none 50051),(50051,.dfr true),(100020,.cell false (.tv qj a1)),(100030,.cell false (.tv qo a2)),(200250,.vec false 19 (.sl 19 qf) z)])
def YJ (a0:List qa) (a1:qb) (a2:qg) (a3:qa):Tree (List qa):=
 .bind (J9 a3) fun r1=>
 .cond (!r1) (
 .chk (zU a0.length a0.length ((a0++[a3]).length) 56) <|
 .ret (a0++[a3])) <|
 .ret a0
def Jp (a0:List qa) (a1:qb) (a2:qg) (a3:qa):Option (List qa):=(YJ a0 a1 a2 a3).run some
def qoh:List (Nat×qw):=[]
def qeT:Ent:=smR 50050 [.x qf] [(50,.cell false (.vs 200250)),(50050,.loop [18] 27 [(5,.k (.p 50 [] 0)),(17,.fn 79 [] [.k (.p 100020 [] 0),.k (.p 100030 [] 0)])] 1600005 16 .ready none 50051),(50051,.dfr true),(100020,.cell false (.x qj)),(100030,.cell false (.x qo)),(200250,.vec false 19)] [(.sl 19 qf),qj,qo,qf] (List qa) (fun x=>Jp x.1 x.2.1 x.2.2.1 x.2.2.2.1) cs1 fun x=>qn5 x.2.1 x.2.2.1
theorem qmX:zf Tryz.prog (qeT):=
 qNu (H:=qod) (L:=qJ (qoh)) (ts:=[(.sl 19 qf),qj,qo,qf]) (T:=fun x=>YJ x.1 x.2.1 x.2.2.1 x.2.2.2.1) (K:=16) (cid:=1600005) 3 qk (qmp 0) (by kernel_rfl) (qt (by kernel_rfl) trivial) (rg0 (by kernel_rfl)) (rg0 (by kernel_rfl)) (fun x=>by kernel_rfl) fun x=>by kernel_rfl
noncomputable def qd4:Code:=Tryz.f79.body.getD .skip
theorem qS0:FnF Tryz.prog 79 Tryz.f79 qd4:=⟨qk,by kernel_rfl,by kernel_rfl,by kernel_rfl⟩
def JR:TH:={ live:=[(0,[0,2,12,13,14]),(1,[0,2,12,13,14,15]),(2,[0,2,5,12,13,14]),(3,[0,2,5,6,12,13,14]),(4,[0,2,5,6,8,12,13,14]),(5,[0,2,5,6,8,12,13,14,32]),(6,[0,2,5,6,8,12,13,14]),(7,[0,2,6,8,12,13,14,37,38,39]),(8,[0,2,6,8,12,13,14,37,38,39,40]),(9,[0,2,6,8,10,12,13,14,37,38,39]),(10,[0,2,6,8,10,12,13,14,37,38,39,48]),(11,[0,2,6,8,12,13,14,37,38,39]),(12,[0,2,6,8,12,13,14,37,38,39]),(13,[0,2,12,13,14,59]),(14,[0,2,12,13,14])],fresh:=[58],nil:=[(4,[⟨.ob 200080 [2],200085,(.sl 4 qB)⟩])] }
def qao (N:Nat):List Ent:=[qiu N,XQ N,qiv N,qg4,qeT]
theorem Ys (N:Nat):qU Tryz.prog (qao N):=⟨qnN N,Wt N,qmV N,qqy,qmX,trivial⟩
abbrev KJ:=qb×qg×qn×Vector UInt8 16×qc×List qa×Int×Int×List qd×Int
abbrev Vt:=List qd×Int×Bool
def WR (f:KJ) (y:Vt):Ex×TSt:=(.exit 2,⟨2,61,[50,50050,50051,100020,100030],[(0,.yl 50050),(2,.p 100030 [] 0),(6,.p 200060 [] 0),(8,.p 200080 [] 0),(12,.tv (.sl 19 qf) f.2.2.2.2.2.1),(13,xi f.2.2.2.2.2.2.1),(14,xi f.2.2.2.2.2.2.2.1),(37,.tv (.sl 4 qB) f.2.2.2.2.2.2.2.2.1),(38,xi f.2.2.2.2.2.2.2.2.2),(39,xi y.2.1),(40,xb y.2.2)],[(50,.cell false .nils),(50050,.loop [18] 27 [(5,.p 50 [] 0),(17,.fn (.func 79) [] [.p 100020 [] 0,.p 100030 [] 0])] 1600005 16 .ready none 50051),(50051,.dfr true),(100020,.cell false (.tv qj f.1)),(100030,.cell false (.tv qo f.2.1)),(200060,.cell false (.tv qZ f.2.2.1)),(200080,.cell false (.ag [.tv (.ba 16) f.2.2.2.1,.tv qh f.2.2.2.2.1,.v 200085 y.1.length])),(200085,.vec false 4 (.sl 4 qB) (y.1:List qd))],false,[]⟩)
def qz2 (N:Nat):List (Nat×qw):=[]
abbrev WM:=List qd×Int
def qlK:SP:=⟨2,61,[50,50050,50051,100020,100030],[(0,.k (.yl 50050)),(2,.k (.p 100030 [] 0)),(6,.k (.p 200060 [] 0)),(8,.k (.p 200080 [] 0)),(12,.x (.sl 19 qf)),(13,.x (.i .i64)),(14,.x (.i .i64)),(37,.x (.sl 4 qB)),(38,.x (.i .i64)),(39,.x (.i .i64))],[(50,.cell false (.k .nils)),(50050,.loop [18] 27 [(5,.k (.p 50 [] 0)),(17,.fn 79 [] [.k (.p 100020 [] 0),.k (.p 100030 [] 0)])] 1600005 16 .ready none 50051),(50051,.dfr true),(100020,.cell false (.x qj)),(100030,.cell false (.x qo)),(200060,.cell false (.x qZ)),(200080,.cell false (.ag [.x (.ba 16),.x qh,.vs 200085])),(200085,.vec false 4)],false,[]⟩
def qAt (f:KJ) (v:WM):TSt:=zq qlK [dv (.sl 4 qB) v.1,dv qj f.1,dv qo f.2.1,dv qZ f.2.2.1,dv (.ba 16) f.2.2.2.1,dv qh f.2.2.2.2.1,dv (.sl 19 qf) f.2.2.2.2.2.1,dv (.i .i64) f.2.2.2.2.2.2.1,dv (.i .i64) f.2.2.2.2.2.2.2.1,dv (.sl 4 qB) f.2.2.2.2.2.2.2.2.1,dv (.i .i64) f.2.2.2.2.2.2.2.2.2,dv (.i .i64) v.2]
def KV (N:Nat) (o_8_2:qb) (o_8_3:qg) (o_8_4:qn) (o_8_5:Vector UInt8 16) (o_8_6:qc) (s12_8:List qa) (s13_8:Int) (s14_8:Int) (s37_8:List qd) (s38_8:Int) (v:WM):Tree (WM⊕Vt):=
 .cond (decide (v.2 < s38_8)) (
 .bind (qM s37_8 v.2) fun e1=>
 .bind (YM N (qd.C e1) o_8_4 (qd.No e1)) fun r2=>
 .cond r2 (
 .chk (zU v.1.length v.1.length ((v.1++[e1]).length) 40) <|
 .chk (qp (v.2 + 1)) <|
 .ret (.inl (v.1++[e1],v.2 + 1))) <|
 .chk (qp (v.2 + 1)) <|
 .ret (.inl (v.1,v.2 + 1))) <|
 .ret (.inr (v.1,v.2,decide (v.2 < s38_8)))
def qlL (N n:Nat) (f:KJ) (v:WM):Option Vt:=qQ (KV N f.1 f.2.1 f.2.2.1 f.2.2.2.1 f.2.2.2.2.1 f.2.2.2.2.2.1 f.2.2.2.2.2.2.1 f.2.2.2.2.2.2.2.1 f.2.2.2.2.2.2.2.2.1 f.2.2.2.2.2.2.2.2.2) some n v
theorem qzN (N:Nat) (f:KJ) (n:Nat) (v:WM) (y:Vt) (h:qlL N n f v=some y):LG Tryz.prog JR 79 (qE (qE qd4 1) 8) (qAt f v) (WR f y):=
 zj qk (E:=qao N) (L:=qJ (qz2 N)) (st:=WR f) (g:=some) (R:=WR f) (Ys N) (qt (by kernel_rfl) trivial) (rg0 (by kernel_rfl)) (fun v=>by kernel_rfl) (qP (st:=WR f) fun y=>by rfl) n v y h
def Y1 (N:Nat) (o_8_2:qb) (o_8_3:qg) (o_8_4:qn) (o_8_5:Vector UInt8 16) (o_8_6:qc) (s12_8:List qa) (s13_8:Int) (s14_8:Int) (s37_8:List qd) (s38_8:Int) (o_8:List qd) (s39_8:Int):Option Vt:=qlL N N (o_8_2,o_8_3,o_8_4,o_8_5,o_8_6,s12_8,s13_8,s14_8,s37_8,s38_8) (o_8,s39_8)
def qlX (N:Nat):qw:=smL qlK [(.sl 4 qB),qj,qo,qZ,(.ba 16),qh,(.sl 19 qf),(.i .i64),(.i .i64),(.sl 4 qB),(.i .i64),(.i .i64)] Vt (fun x=>Y1 N x.2.1 x.2.2.1 x.2.2.2.1 x.2.2.2.2.1 x.2.2.2.2.2.1 x.2.2.2.2.2.2.1 x.2.2.2.2.2.2.2.1 x.2.2.2.2.2.2.2.2.1 x.2.2.2.2.2.2.2.2.2.1 x.2.2.2.2.2.2.2.2.2.2.1 x.1 x.2.2.2.2.2.2.2.2.2.2.2.1) cs1 fun x=>WR (x.2.1,x.2.2.1,x.2.2.2.1,x.2.2.2.2.1,x.2.2.2.2.2.1,x.2.2.2.2.2.2.1,x.2.2.2.2.2.2.2.1,x.2.2.2.2.2.2.2.2.1,x.2.2.2.2.2.2.2.2.2.1,x.2.2.2.2.2.2.2.2.2.2.1)
theorem qkv (N:Nat):zZ Tryz.prog JR 79 (qE (qE qd4 1) 8) (qlX N):=zp fun x z h=>qzN N (x.2.1,x.2.2.1,x.2.2.2.1,x.2.2.2.2.1,x.2.2.2.2.2.1,x.2.2.2.2.2.2.1,x.2.2.2.2.2.2.2.1,x.2.2.2.2.2.2.2.2.1,x.2.2.2.2.2.2.2.2.2.1,x.2.2.2.2.2.2.2.2.2.2.1) N (x.1,x.2.2.2.2.2.2.2.2.2.2.2.1) z h
abbrev Yx:=List qa×qb×qg×qn×Vector UInt8 16×qc×List qa×Int×Int×List qd×Int
abbrev Zy:=List qd×Int×Bool
def V0 (f:Yx) (y:Zy):Ex×TSt:=(.exit 2,⟨2,61,[50,50050,50051,100020,100030],[(0,.yl 50050),(2,.p 100030 [] 0),(6,.p 200060 [] 0),(8,.p 200080 [] 0),(12,.tv (.sl 19 qf) f.2.2.2.2.2.2.1),(13,xi f.2.2.2.2.2.2.2.1),(14,xi f.2.2.2.2.2.2.2.2.1),(37,.tv (.sl 4 qB) f.2.2.2.2.2.2.2.2.2.1),(38,xi f.2.2.2.2.2.2.2.2.2.2),(39,xi y.2.1),(40,xb y.2.2)],[(50,.cell false (.v 200250 f.1.length)),(50050,.loop [18] 27 [(5,.p 50 [] 0),(17,.fn (.func 79) [] [.p 100020 [] 0,.p 100030 [] 0])] 1600005 16 .ready none 50051),(50051,.dfr true),(100020,.cell false (.tv qj f.2.1)),(100030,.cell false (.tv qo f.2.2.1)),(200060,.cell false (.tv qZ f.2.2.2.1)),(200080,.cell false (.ag [.tv (.ba 16) f.2.2.2.2.1,.tv qh f.2.2.2.2.2.1,.v 200085 y.1.length])),(200085,.vec false 4 (.sl 4 qB) (y.1:List qd)),(200250,.vec false 19 (.sl 19 qf) f.1)],false,[]⟩)
def qwc (N:Nat):List (Nat×qw):=[]
abbrev VU:=List qd×Int
def qjk:SP:=⟨2,61,[50,50050,50051,100020,100030],[(0,.k (.yl 50050)),(2,.k (.p 100030 [] 0)),(6,.k (.p 200060 [] 0)),(8,.k (.p 200080 [] 0)),(12,.x (.sl 19 qf)),(13,.x (.i .i64)),(14,.x (.i .i64)),(37,.x (.sl 4 qB)),(38,.x (.i .i64)),(39,.x (.i .i64))],[(50,.cell false (.vs 200250)),(50050,.loop [18] 27 [(5,.k (.p 50 [] 0)),(17,.fn 79 [] [.k (.p 100020 [] 0),.k (.p 100030 [] 0)])] 1600005 16 .ready none 50051),(50051,.dfr true),(100020,.cell false (.x qj)),(100030,.cell false (.x qo)),(200060,.cell false (.x qZ)),(200080,.cell false (.ag [.x (.ba 16),.x qh,.vs 200085])),(200085,.vec false 4),(200250,.vec false 19)],false,[]⟩
def qwf (f:Yx) (v:VU):TSt:=zq qjk [dv (.sl 4 qB) v.1,dv (.sl 19 qf) f.1,dv qj f.2.1,dv qo f.2.2.1,dv qZ f.2.2.2.1,dv (.ba 16) f.2.2.2.2.1,dv qh f.2.2.2.2.2.1,dv (.sl 19 qf) f.2.2.2.2.2.2.1,dv (.i .i64) f.2.2.2.2.2.2.2.1,dv (.i .i64) f.2.2.2.2.2.2.2.2.1,dv (.sl 4 qB) f.2.2.2.2.2.2.2.2.2.1,dv (.i .i64) f.2.2.2.2.2.2.2.2.2.2,dv (.i .i64) v.2]
def qvD (N:Nat) (o_8_2:List qa) (o_8_3:qb) (o_8_4:qg) (o_8_5:qn) (o_8_6:Vector UInt8 16) (o_8_7:qc) (s12_8:List qa) (s13_8:Int) (s14_8:Int) (s37_8:List qd) (s38_8:Int) (v:VU):Tree (VU⊕Zy):=
 .cond (decide (v.2 < s38_8)) (
 .bind (qM s37_8 v.2) fun e1=>
 .bind (YM N (qd.C e1) o_8_5 (qd.No e1)) fun r2=>
 .cond r2 (
 .chk (zU v.1.length v.1.length ((v.1++[e1]).length) 40) <|
 .chk (qp (v.2 + 1)) <|
 .ret (.inl (v.1++[e1],v.2 + 1))) <|
 .chk (qp (v.2 + 1)) <|
 .ret (.inl (v.1,v.2 + 1))) <|
 .ret (.inr (v.1,v.2,decide (v.2 < s38_8)))
def qji (N n:Nat) (f:Yx) (v:VU):Option Zy:=qQ (qvD N f.1 f.2.1 f.2.2.1 f.2.2.2.1 f.2.2.2.2.1 f.2.2.2.2.2.1 f.2.2.2.2.2.2.1 f.2.2.2.2.2.2.2.1 f.2.2.2.2.2.2.2.2.1 f.2.2.2.2.2.2.2.2.2.1 f.2.2.2.2.2.2.2.2.2.2) some n v
theorem qvR (N:Nat) (f:Yx) (n:Nat) (v:VU) (y:Zy) (h:qji N n f v=some y):LG Tryz.prog JR 79 (qE (qE qd4 1) 8) (qwf f v) (V0 f y):=
 zj qk (E:=qao N) (L:=qJ (qwc N)) (st:=V0 f) (g:=some) (R:=V0 f) (Ys N) (qt (by kernel_rfl) trivial) (rg0 (by kernel_rfl)) (fun v=>by kernel_rfl) (qP (st:=V0 f) fun y=>by rfl) n v y h
def KN (N:Nat) (o_8_2:List qa) (o_8_3:qb) (o_8_4:qg) (o_8_5:qn) (o_8_6:Vector UInt8 16) (o_8_7:qc) (s12_8:List qa) (s13_8:Int) (s14_8:Int) (s37_8:List qd) (s38_8:Int) (o_8:List qd) (s39_8:Int):Option Zy:=qji N N (o_8_2,o_8_3,o_8_4,o_8_5,o_8_6,o_8_7,s12_8,s13_8,s14_8,s37_8,s38_8) (o_8,s39_8)
def qjm (N:Nat):qw:=smL qjk [(.sl 4 qB),(.sl 19 qf),qj,qo,qZ,(.ba 16),qh,(.sl 19 qf),(.i .i64),(.i .i64),(.sl 4 qB),(.i .i64),(.i .i64)] Zy (fun x=>KN N x.2.1 x.2.2.1 x.2.2.2.1 x.2.2.2.2.1 x.2.2.2.2.2.1 x.2.2.2.2.2.2.1 x.2.2.2.2.2.2.2.1 x.2.2.2.2.2.2.2.2.1 x.2.2.2.2.2.2.2.2.2.1 x.2.2.2.2.2.2.2.2.2.2.1 x.2.2.2.2.2.2.2.2.2.2.2.1 x.1 x.2.2.2.2.2.2.2.2.2.2.2.2.1) cs1 fun x=>V0 (x.2.1,x.2.2.1,x.2.2.2.1,x.2.2.2.2.1,x.2.2.2.2.2.1,x.2.2.2.2.2.2.1,x.2.2.2.2.2.2.2.1,x.2.2.2.2.2.2.2.2.1,x.2.2.2.2.2.2.2.2.2.1,x.2.2.2.2.2.2.2.2.2.2.1,x.2.2.2.2.2.2.2.2.2.2.2.1)
theorem qiV (N:Nat):zZ Tryz.prog JR 79 (qE (qE qd4 1) 8) (qjm N):=zp fun x z h=>qvR N (x.2.1,x.2.2.1,x.2.2.2.1,x.2.2.2.2.1,x.2.2.2.2.2.1,x.2.2.2.2.2.2.1,x.2.2.2.2.2.2.2.1,x.2.2.2.2.2.2.2.2.1,x.2.2.2.2.2.2.2.2.2.1,x.2.2.2.2.2.2.2.2.2.2.1,x.2.2.2.2.2.2.2.2.2.2.2.1) N (x.1,x.2.2.2.2.2.2.2.2.2.2.2.2.1) z h
abbrev vz:=qb×qg×List qa×Int
abbrev jY:=(Int×Bool)⊕(List qa×Int×Bool)
def vv (f:vz):jY→Ex×TSt
 | .inl y=>(.exit 0,⟨2,61,[50,50050,50051,100020,100030],[(0,.yl 50050),(2,.p 100030 [] 0),(12,.tv (.sl 19 qf) f.2.2.1),(13,xi f.2.2.2),(14,xi y.1),(15,xb y.2)],[(50,.cell false .nils),(50050,.loop [18] 27 [(5,.p 50 [] 0),(17,.fn (.func 79) [] [.p 100020 [] 0,.p 100030 [] 0])] 1600005 16 .ready none 50051),(50051,.dfr true),(100020,.cell false (.tv qj f.1)),(100030,.cell false (.tv qo f.2.1))],false,[]⟩)
 | .inr y=>(.exit 0,⟨2,61,[50,50050,50051,100020,100030],[(0,.yl 50050),(2,.p 100030 [] 0),(12,.tv (.sl 19 qf) f.2.2.1),(13,xi f.2.2.2),(14,xi y.2.1),(15,xb y.2.2)],[(50,.cell false (.v 200250 y.1.length)),(50050,.loop [18] 27 [(5,.p 50 [] 0),(17,.fn (.func 79) [] [.p 100020 [] 0,.p 100030 [] 0])] 1600005 16 .ready none 50051),(50051,.dfr true),(100020,.cell false (.tv qj f.1)),(100030,.cell false (.tv qo f.2.1)),(200250,.vec false 19 (.sl 19 qf) (y.1:List qa))],false,[]⟩)
def ql6 (N:Nat):List (Nat×qw):=[(8,qlX N),(8,qjm N)]
abbrev Q8:=List qa×Int
def qt_:SP:=⟨2,61,[50,50050,50051,100020,100030],[(0,.k (.yl 50050)),(2,.k (.p 100030 [] 0)),(12,.x (.sl 19 qf)),(13,.x (.i .i64)),(14,.x (.i .i64))],[(50,.cell false (.vs 200250)),(50050,.loop [18] 27 [(5,.k (.p 50 [] 0)),(17,.fn 79 [] [.k (.p 100020 [] 0),.k (.p 100030 [] 0)])] 1600005 16 .ready none 50051),(50051,.dfr true),(100020,.cell false (.x qj)),(100030,.cell false (.x qo)),(200250,.vec false 19)],false,[]⟩
def qiM (f:vz) (v:Q8):TSt:=zq qt_ [dv (.sl 19 qf) v.1,dv qj f.1,dv qo f.2.1,dv (.sl 19 qf) f.2.2.1,dv (.i .i64) f.2.2.2,dv (.i .i64) v.2]
def Vk (N:Nat) (o_1:qb) (o_1_2:qg) (s12_1:List qa) (s13_1:Int) (v:Q8):Tree (Q8⊕jY):=
 .cond (decide (v.2 < s13_1)) (
 .bind (qM s12_1 v.2) fun e1=>
 .bind (YQ N o_1_2 (qa.ID e1)) fun r2=>
 .bind (vA N (qn.qz r2.1) (qa.qz e1)) fun r3=>
 .cond r3 (
 .bind (zV [(v.1.length,v.1.length),(([]:List qd).length,0)] (KN N v.1 o_1 o_1_2 r2.1 (qa.ID e1) (qa.qz e1) s12_1 s13_1 v.2 (qa.F e1) (((qa.F e1).length:Nat):Int) [] 0)) fun z4=>
 .chk (z4.1.length=z4.1.length) <|
 .bind (zV [(v.1.length,v.1.length)] (Jp v.1 o_1 o_1_2 (qa.mk (qa.ID e1) (qa.qz e1) z4.1))) fun r5=>
 .chk (qp (v.2 + 1)) <|
 .ret (.inl (r5,v.2 + 1))) <|
 .bind (zV [(v.1.length,v.1.length),(([]:List qd).length,0)] (KN N v.1 o_1 o_1_2 r2.1 (qa.ID e1) (qc.mk 0 0) s12_1 s13_1 v.2 (qa.F e1) (((qa.F e1).length:Nat):Int) [] 0)) fun z4=>
 .chk (z4.1.length=z4.1.length) <|
 .bind (zV [(v.1.length,v.1.length)] (Jp v.1 o_1 o_1_2 (qa.mk (qa.ID e1) (qc.mk 0 0) z4.1))) fun r5=>
 .chk (qp (v.2 + 1)) <|
 .ret (.inl (r5,v.2 + 1))) <|
 .ret (.inr (.inr ((v.1,v.2,decide (v.2 < s13_1)))))
def qhJ (N n:Nat) (f:vz) (v:Q8):Option jY:=qQ (Vk N f.1 f.2.1 f.2.2.1 f.2.2.2) some n v
theorem quc (N:Nat) (f:vz) (n:Nat) (v:Q8) (y:jY) (h:qhJ N n f v=some y):LG Tryz.prog JR 79 (qE qd4 1) (qiM f v) (vv f y):=
 zj qk (E:=qao N) (L:=qJ (ql6 N)) (st:=vv f) (g:=some) (R:=vv f) (Ys N) (qt (by kernel_rfl) ⟨qkv N,qiV N,trivial⟩) (rg0 (by kernel_rfl)) (fun v=>by kernel_rfl) (qP (st:=vv f) fun y=>by rcases y with _ | _<;>rfl) n v y h
abbrev WL:=Int
def ql2:SP:=⟨2,61,[50,50050,50051,100020,100030],[(0,.k (.yl 50050)),(2,.k (.p 100030 [] 0)),(12,.x (.sl 19 qf)),(13,.x (.i .i64)),(14,.x (.i .i64))],[(50,.cell false (.k .nils)),(50050,.loop [18] 27 [(5,.k (.p 50 [] 0)),(17,.fn 79 [] [.k (.p 100020 [] 0),.k (.p 100030 [] 0)])] 1600005 16 .ready none 50051),(50051,.dfr true),(100020,.cell false (.x qj)),(100030,.cell false (.x qo))],false,[]⟩
def qAc (f:vz) (v:WL):TSt:=zq ql2 [dv qj f.1,dv qo f.2.1,dv (.sl 19 qf) f.2.2.1,dv (.i .i64) f.2.2.2,dv (.i .i64) v]
abbrev KR:=Q8⊕jY
def WK (N:Nat) (o_1:qb) (o_1_2:qg) (s12_1:List qa) (s13_1:Int) (v:WL):Tree (WL⊕KR):=
 .cond (decide (v < s13_1)) (
 .bind (qM s12_1 v) fun e1=>
 .bind (YQ N o_1_2 (qa.ID e1)) fun r2=>
 .bind (vA N (qn.qz r2.1) (qa.qz e1)) fun r3=>
 .cond r3 (
 .bind (zV [(([]:List qd).length,0)] (Y1 N o_1 o_1_2 r2.1 (qa.ID e1) (qa.qz e1) s12_1 s13_1 v (qa.F e1) (((qa.F e1).length:Nat):Int) [] 0)) fun z4=>
 .chk (z4.1.length=z4.1.length) <|
 .bind (Zx o_1 o_1_2 (qa.mk (qa.ID e1) (qa.qz e1) z4.1)) fun r5=>
 .sum r5 (fun r6=>
 .chk (qp (v + 1)) <|
 .ret (.inr (.inl ([qa.mk (qa.ID e1) (qa.qz e1) z4.1],v + 1)))) fun r6=>
 .chk (qp (v + 1)) <|
 .ret (.inl (v + 1))) <|
 .bind (zV [(([]:List qd).length,0)] (Y1 N o_1 o_1_2 r2.1 (qa.ID e1) (qc.mk 0 0) s12_1 s13_1 v (qa.F e1) (((qa.F e1).length:Nat):Int) [] 0)) fun z4=>
 .chk (z4.1.length=z4.1.length) <|
 .bind (Zx o_1 o_1_2 (qa.mk (qa.ID e1) (qc.mk 0 0) z4.1)) fun r5=>
 .sum r5 (fun r6=>
 .chk (qp (v + 1)) <|
 .ret (.inr (.inl ([qa.mk (qa.ID e1) (qc.mk 0 0) z4.1],v + 1)))) fun r6=>
 .chk (qp (v + 1)) <|
 .ret (.inl (v + 1))) <|
 .ret (.inr (.inr ((.inl (v,decide (v < s13_1))))))
def qe_ (N n:Nat) (f:vz):KR→Option jY
 | .inl w=>qhJ N n f w
 | .inr w=>some w
def qzR (f:vz):KR→Ex×TSt
 | .inl w=>(.normal,qiM f w)
 | .inr w=>vv f w
def qlJ (N n:Nat) (f:vz) (v:WL):Option jY:=qQ (WK N f.1 f.2.1 f.2.2.1 f.2.2.2) (qe_ N n f) n v
theorem qAH (N:Nat) (f:vz) (n:Nat) (v:WL) (y:jY) (h:qlJ N n f v=some y):LG Tryz.prog JR 79 (qE qd4 1) (qAc f v) (vv f y):=
 zj qk (E:=qao N) (L:=qJ (ql6 N)) (st:=qzR f) (g:=(qe_ N n f)) (R:=vv f) (Ys N) (qt (by kernel_rfl) ⟨qkv N,qiV N,trivial⟩) (rg0 (by kernel_rfl)) (fun v=>by kernel_rfl) (fun w y h=>by
 rcases w with w | w
 ·exact quc N f n w y h
 ·exact qP (st:=vv f) (fun y=>by rcases y with _ | _<;>rfl) w y h
) n v y h
def qio (N:Nat) (o_1:qb) (o_1_2:qg) (s12_1:List qa) (s13_1:Int) (s14_1:Int):Option jY:=qlJ N N (o_1,o_1_2,s12_1,s13_1) s14_1
def ql0 (N:Nat):qw:=smL ql2 [qj,qo,(.sl 19 qf),(.i .i64),(.i .i64)] jY (fun x=>qio N x.1 x.2.1 x.2.2.1 x.2.2.2.1 x.2.2.2.2.1) (csS cs1) fun x=>vv (x.1,x.2.1,x.2.2.1,x.2.2.2.1)
theorem qxh (N:Nat):zZ Tryz.prog JR 79 (qE qd4 1) (ql0 N):=zp fun x z h=>qAH N (x.1,x.2.1,x.2.2.1,x.2.2.2.1) N x.2.2.2.2.1 z h
def qF5 (a0:qb) (a1:qg):Unit⊕List qa→TV×THp
 | .inl z=>(.tup [],[(50,.cell false .nils),(50050,.loop [18] 27 [(5,.p 50 [] 0),(17,.fn (.func 79) [] [.p 100020 [] 0,.p 100030 [] 0])] 1600005 16 .ready none 50051),(50051,.dfr true),(100020,.cell false (.tv qj a0)),(100030,.cell false (.tv qo a1))])
 | .inr z=>(.tup [],[(50,.cell false (.v 200250 z.length)),(50050,.loop [18] 27 [(5,.p 50 [] 0),(17,.fn (.func 79) [] [.p 100020 [] 0,.p 100030 [] 0])] 1600005 16 .ready none 50051),(50051,.dfr true),(100020,.cell false (.tv qj a0)),(100030,.cell false (.tv qo a1)),(200250,.vec false 19 (.sl 19 qf) z)])
def qeo (N:Nat) (a0:qb) (a1:qg):Tree (Unit⊕List qa):=
 .bind (qio N a0 a1 (qb.R a0) (((qb.R a0).length:Nat):Int) 0) fun z1=>
 .sum z1 (fun z2=>
 .ret (.inl ())) fun z2=>
 .ret (.inr z2.1)
def qaA (N:Nat) (a0:qb) (a1:qg):Option (Unit⊕List qa):=(qeo N a0 a1).run some
def qFd (N:Nat):List (Nat×qw):=[(1,ql0 N)]
def qrQ (N:Nat):Ent:=smF ⟨79,[],[.k (.yl 50050)],[.k (.p 100020 [] 0),.k (.p 100030 [] 0)],[(50,.cell false (.k .nils)),(50050,.loop [18] 27 [(5,.k (.p 50 [] 0)),(17,.fn 79 [] [.k (.p 100020 [] 0),.k (.p 100030 [] 0)])] 1600005 16 .ready none 50051),(50051,.dfr true),(100020,.cell false (.x qj)),(100030,.cell false (.x qo))]⟩ [qj,qo] (Unit⊕List qa) (fun x=>qaA N x.1 x.2.1) (csS cs1) fun x=>qF5 x.1 x.2.1
theorem qD_ (N:Nat):zf Tryz.prog (qrQ N):=
 zd (H:=JR) (L:=qJ (qFd N)) (ts:=[qj,qo]) (T:=fun x=>qeo N x.1 x.2.1) 1 qS0 (Ys N) (qt (by kernel_rfl) ⟨qxh N,trivial⟩) (rg0 (by kernel_rfl)) fun x=>by kernel_rfl
noncomputable def qSV:Code:=Tryz.f16.body.getD .skip
theorem qSh:FnF Tryz.prog 16 Tryz.f16 qSV:=⟨qk,by kernel_rfl,by kernel_rfl,by kernel_rfl⟩
def qHF:TH:={ live:=[(0,[2,3]),(1,[2,3,14]),(2,[4]),(3,[2,3,5]),(4,[5,17]),(5,[5,6]),(6,[5,6,21]),(8,[4])],dec:=[10],fresh:=[17] }
def qHC (N:Nat):List Ent:=[qmb N,qrR N,qxB,qrQ N]
theorem qE6 (N:Nat):qU Tryz.prog (qHC N):=⟨qqc N,qEf N,qHD,qD_ N,trivial⟩
def qHr (z:List qa):TV×THp:=(.tv (.sl 19 qf) z,[])
def qge (N:Nat) (a0:qb) (a1:qg):Tree (List qa):=
 .bind (qdZ N a0) fun r1=>
 .cond (!r1) (
 .ret []) <|
 .bind (qhL N a1) fun r2=>
 .cond (!r2) (
 .ret []) <|
 .bind (quU a0 a1) fun r3=>
 .bind (qaA N a0 a1) fun r4=>
 .sum r4 (fun r5=>
 .ret []) fun r5=>
 .chk (r5.length=r5.length) <|
 .ret r5
def Ko (N:Nat) (a0:qb) (a1:qg):Option (List qa):=(qge N a0 a1).run some
def qHt (N:Nat):List (Nat×qw):=[]
def qve (N:Nat):Ent:=smF ⟨16,[],[.x qj,.x qo],[],[]⟩ [qj,qo] (List qa) (fun x=>Ko N x.1 x.2.1) cs1 fun _=>qHr
theorem qF4 (N:Nat):zf Tryz.prog (qve N):=
 zd (H:=qHF) (L:=qJ (qHt N)) (ts:=[qj,qo]) (T:=fun x=>qge N x.1 x.2.1) 0 qSh (qE6 N) (qt (by kernel_rfl) trivial) (rgs (by kernel_rfl)) fun x=>by kernel_rfl
noncomputable def qTs:Code:=Tryz.f80.body.getD .skip
theorem qTm:FnF Tryz.prog 80 Tryz.f80 qTs:=⟨qk,by kernel_rfl,by kernel_rfl,by kernel_rfl⟩
def qtw:TH:={ live:=[(0,[1,3,5]),(1,[1,3,5,7]),(2,[1,3,7,8]),(3,[3,42]),(4,[6]),(5,[3,45]),(6,[6]),(7,[6])],dec:=[18,22,28,33,38] }
def qul (N:Nat):List Ent:=[JH,vu]
theorem qpz (N:Nat):qU Tryz.prog (qul N):=⟨VZ,vV,trivial⟩
def qtS (z:Bool):TV×THp:=(xb z,[])
def qaO (a0:qm) (a1:Int) (a2:qc):Tree (Bool):=
 .bind (QV (qm.S a0)) fun r1=>
 .bind (zN a2 (qm.S a0)) fun r2=>
 .cond (!r1) (
 .ret false) <|
 .cond (!r2) (
 .ret false) <|
 .cond (decide ((qm.No a0)≤a1)) (
 .ret false) <|
 .cond (decide (((8:Int))≤(qm.No a0))) (
 .ret false) <|
 .cond (decide ((qm.Len a0) < ((0:Int)))) (
 .ret false) <|
 .cond (decide (((200:Int)) < (qm.Len a0))) (
 .ret false) <|
 .cond (decide ((qm.Len a0) < ((24:Int)))) (
 .ret (decide ((((qm.B a0).length:Nat):Int)=((0:Int))))) <|
 .chk ((8:Int)≠0) <|
 .chk (qp ((qm.Len a0).tdiv 8)) <|
 .ret (decide ((((qm.B a0).length:Nat):Int)=((qm.Len a0).tdiv 8)))
def Kf (a0:qm) (a1:Int) (a2:qc):Option (Bool):=(qaO a0 a1 a2).run some
def qtm:List (Nat×qw):=[]
def qix:Ent:=smF ⟨80,[],[.x qX,.x (.i .i64),.x qh],[],[]⟩ [qX,(.i .i64),qh] (Bool) (fun x=>Kf x.1 x.2.1 x.2.2.1) cs1 fun _=>qtS
theorem qsv:zf Tryz.prog (qix):=
 zd (H:=qtw) (L:=qJ (qtm)) (ts:=[qX,(.i .i64),qh]) (T:=fun x=>qaO x.1 x.2.1 x.2.2.1) 0 qTm (qpz 0) (qt (by kernel_rfl) trivial) (rg0 (by kernel_rfl)) fun x=>by kernel_rfl
noncomputable def qnL:Code:=Tryz.f42.body.getD .skip
theorem qRi:FnF Tryz.prog 42 Tryz.f42 qnL:=⟨qk,by kernel_rfl,by kernel_rfl,by kernel_rfl⟩
def XL:TH:={ live:=[(0,[1]),(1,[1,3]),(2,[1,3,14]),(3,[1,3]),(4,[1,3,4]),(5,[1,3,4,5]),(6,[1,3,4,38]),(7,[2]),(8,[1,3,4,40]),(9,[1,3,4,6]),(10,[1,3,4,52]),(11,[2]),(12,[1,3,4,7]),(13,[1,3,4,7,8]),(14,[1,3,4,7,8,57]),(15,[1,3,4,7,8]),(16,[1,3,4,8,9]),(17,[1,3,4,8,70]),(18,[2]),(19,[1,3,4,7,8]),(20,[2])],dec:=[27,32] }
def qdM (N:Nat):List Ent:=[JH,qix,Yv N]
theorem qbA (N:Nat):qU Tryz.prog (qdM N):=⟨VZ,qsv,qaX N,trivial⟩
abbrev XJ:=qg×qn×Int
abbrev Qc:=Unit⊕(Int×Int×Bool)
def Z_ (f:XJ):Qc→Ex×TSt
 | .inl y=>(.ret,⟨0,81,[],[(2,.bc false)],[],false,[]⟩)
 | .inr y=>(.exit 2,⟨0,81,[],[(1,.p 10 [] 0),(3,xi f.2.2),(4,.p 40 [] 0),(7,xi y.1),(8,xi y.2.1),(57,xb y.2.2)],[(10,.cell false (.tv qo f.1)),(40,.cell false (.tv qZ f.2.1))],false,[]⟩)
def qpt (N:Nat):List (Nat×qw):=[]
abbrev ZV:=Int×Int
def qfo:SP:=⟨0,81,[],[(1,.k (.p 10 [] 0)),(3,.x (.i .i64)),(4,.k (.p 40 [] 0)),(7,.x (.i .i64)),(8,.x (.i .i64))],[(10,.cell false (.x qo)),(40,.cell false (.x qZ))],false,[]⟩
def qqC (f:XJ) (v:ZV):TSt:=zq qfo [dv qo f.1,dv qZ f.2.1,dv (.i .i64) f.2.2,dv (.i .i64) v.1,dv (.i .i64) v.2]
def XF (N:Nat) (o_14:qg) (o_14_2:qn) (s3_14:Int) (v:ZV):Tree (ZV⊕Qc):=
 .cond (decide (v.2 < (((qn.F o_14_2).length:Nat):Int))) (
 .bind (qM (qn.F o_14_2) v.2) fun e1=>
 .bind (Kf e1 v.1 (qn.qz o_14_2)) fun r2=>
 .cond (!r2) (
 .ret (.inr (.inl ()))) <|
 .bind (qM (qn.F o_14_2) v.2) fun e3=>
 .chk (qp (v.2 + 1)) <|
 .ret (.inl (qm.No e3,v.2 + 1))) <|
 .ret (.inr (.inr ((v.1,v.2,decide (v.2 < (((qn.F o_14_2).length:Nat):Int))))))
def qfg (N n:Nat) (f:XJ) (v:ZV):Option Qc:=qQ (XF N f.1 f.2.1 f.2.2) some n v
theorem qpM (N:Nat) (f:XJ) (n:Nat) (v:ZV) (y:Qc) (h:qfg N n f v=some y):LG Tryz.prog XL 42 (qE (qE qnL 2) 14) (qqC f v) (Z_ f y):=
 zj qk (E:=qdM N) (L:=qJ (qpt N)) (st:=Z_ f) (g:=some) (R:=Z_ f) (qbA N) (qt (by kernel_rfl) trivial) (rg0 (by kernel_rfl)) (fun v=>by kernel_rfl) (qP (st:=Z_ f) fun y=>by rcases y with _ | _<;>rfl) n v y h
def jN (N:Nat) (o_14:qg) (o_14_2:qn) (s3_14:Int) (s7_14:Int) (s8_14:Int):Option Qc:=qfg N N (o_14,o_14_2,s3_14) (s7_14,s8_14)
def qfd (N:Nat):qw:=smL qfo [qo,qZ,(.i .i64),(.i .i64),(.i .i64)] Qc (fun x=>jN N x.1 x.2.1 x.2.2.1 x.2.2.2.1 x.2.2.2.2.1) (csS cs1) fun x=>Z_ (x.1,x.2.1,x.2.2.1)
theorem qn1 (N:Nat):zZ Tryz.prog XL 42 (qE (qE qnL 2) 14) (qfd N):=zp fun x z h=>qpM N (x.1,x.2.1,x.2.2.1) N (x.2.2.2.1,x.2.2.2.2.1) z h
abbrev X5:=qg
abbrev QH:=Unit⊕(Int×Bool)
def Jq (f:X5):QH→Ex×TSt
 | .inl y=>(.ret,⟨0,81,[],[(2,.bc false)],[],false,[]⟩)
 | .inr y=>(.exit 0,⟨0,81,[],[(1,.p 10 [] 0),(3,xi y.1),(14,xb y.2)],[(10,.cell false (.tv qo f))],false,[]⟩)
def qsh (N:Nat):List (Nat×qw):=[(14,qfd N)]
abbrev Jo:=Int
def qgW:SP:=⟨0,81,[],[(1,.k (.p 10 [] 0)),(3,.x (.i .i64))],[(10,.cell false (.x qo))],false,[]⟩
def qrO (f:X5) (v:Jo):TSt:=zq qgW [dv qo f,dv (.i .i64) v]
def X9 (N:Nat) (o_2:qg) (v:Jo):Tree (Jo⊕QH):=
 .cond (decide (v < (((qg.L o_2).length:Nat):Int))) (
 .bind (qM (qg.L o_2) v) fun e1=>
 .bind (QV (qn.qz e1)) fun r2=>
 .cond (!r2) (
 .ret (.inr (.inl ()))) <|
 .cond (decide ((((qn.F e1).length:Nat):Int)=((0:Int)))) (
 .cond (eqE qh (qn.qz e1) (qc.mk 0 0)) (
 .ret (.inr (.inl ()))) <|
 .cond (decide (((0:Int)) < v)) (
 .chk (qp (v - 1)) <|
 .bind (qM (qg.L o_2) (v - 1)) fun e3=>
 .bind (Qq N (qn.ID e3) (qn.ID e1)) fun r4=>
 .cond (!r4) (
 .ret (.inr (.inl ()))) <|
 .bind (jN N o_2 e1 v (-1) 0) fun z5=>
 .sum z5 (fun z6=>
 .ret (.inr (.inl ()))) fun z6=>
 .chk (qp (v + 1)) <|
 .ret (.inl (v + 1))) <|
 .bind (jN N o_2 e1 v (-1) 0) fun z3=>
 .sum z3 (fun z4=>
 .ret (.inr (.inl ()))) fun z4=>
 .chk (qp (v + 1)) <|
 .ret (.inl (v + 1))) <|
 .cond (decide (((0:Int)) < v)) (
 .chk (qp (v - 1)) <|
 .bind (qM (qg.L o_2) (v - 1)) fun e3=>
 .bind (Qq N (qn.ID e3) (qn.ID e1)) fun r4=>
 .cond (!r4) (
 .ret (.inr (.inl ()))) <|
 .bind (jN N o_2 e1 v (-1) 0) fun z5=>
 .sum z5 (fun z6=>
 .ret (.inr (.inl ()))) fun z6=>
 .chk (qp (v + 1)) <|
 .ret (.inl (v + 1))) <|
 .bind (jN N o_2 e1 v (-1) 0) fun z3=>
 .sum z3 (fun z4=>
 .ret (.inr (.inl ()))) fun z4=>
 .chk (qp (v + 1)) <|
 .ret (.inl (v + 1))) <|
 .ret (.inr (.inr ((v,decide (v < (((qg.L o_2).length:Nat):Int))))))
def qhD (N n:Nat) (f:X5) (v:Jo):Option QH:=qQ (X9 N f) some n v
theorem qrn (N:Nat) (f:X5) (n:Nat) (v:Jo) (y:QH) (h:qhD N n f v=some y):LG Tryz.prog XL 42 (qE qnL 2) (qrO f v) (Jq f y):=
 zj qk (E:=qdM N) (L:=qJ (qsh N)) (st:=Jq f) (g:=some) (R:=Jq f) (qbA N) (qt (by kernel_rfl) ⟨qn1 N,trivial⟩) (rg0 (by kernel_rfl)) (fun v=>by kernel_rfl) (qP (st:=Jq f) fun y=>by rcases y with _ | _<;>rfl) n v y h
def qcu (N:Nat) (o_2:qg) (s3_2:Int):Option QH:=qhD N N o_2 s3_2
def qhh (N:Nat):qw:=smL qgW [qo,(.i .i64)] QH (fun x=>qcu N x.1 x.2.1) (csS cs1) fun x=>Jq x.1
theorem qqL (N:Nat):zZ Tryz.prog XL 42 (qE qnL 2) (qhh N):=zp fun x z h=>qrn N x.1 N x.2.1 z h
def qyu (z:Bool):TV×THp:=(xb z,[])
def qdL (N:Nat) (a0:qg):Tree (Bool):=
 .bind (qcu N a0 0) fun z1=>
 .sum z1 (fun z2=>
 .ret false) fun z2=>
 .ret (decide ((((qg.L a0).length:Nat):Int)≤((10:Int))))
def qa4 (N:Nat) (a0:qg):Option (Bool):=(qdL N a0).run some
def qyL (N:Nat):List (Nat×qw):=[(2,qhh N)]
def qkt (N:Nat):Ent:=smF ⟨42,[],[.x qo],[],[]⟩ [qo] (Bool) (fun x=>qa4 N x.1) cs1 fun _=>qyu
theorem qvF (N:Nat):zf Tryz.prog (qkt N):=
 zd (H:=XL) (L:=qJ (qyL N)) (ts:=[qo]) (T:=fun x=>qdL N x.1) 0 qRi (qbA N) (qt (by kernel_rfl) ⟨qqL N,trivial⟩) (rg0 (by kernel_rfl)) fun x=>by kernel_rfl
noncomputable def qBq:Code:=Tryz.f43.body.getD .skip
theorem qTh:FnF Tryz.prog 43 Tryz.f43 qBq:=⟨qk,by kernel_rfl,by kernel_rfl,by kernel_rfl⟩
def qca:TH:={ live:=[(0,[2,3,4]),(1,[2,3,4,6]),(2,[2,3,4,6,11]),(3,[2,3,4,6]),(4,[2,3,4,6,21]),(5,[4,5]),(6,[4,5])],nil:=[(0,[⟨.ob 40 [2],45,(.sl 37 qX)⟩]),(6,[⟨.ob 40 [2],45,(.sl 37 qX)⟩])] }
def qjd (N:Nat):List Ent:=[]
theorem qhg (N:Nat):qU Tryz.prog (qjd N):=trivial
abbrev Xm:=List qm×qg×Vector UInt8 16×Vector UInt8 16×qc
abbrev Qn:=qn⊕(Int×Bool)
def ZP (f:Xm):Qn→Ex×TSt
 | .inl y=>(.ret,⟨0,28,[],[(4,.p 40 [] 0),(5,.bc true)],[(40,.cell false (.tv qZ y))],false,[]⟩)
 | .inr y=>(.exit 0,⟨0,28,[],[(2,.p 20 [] 0),(3,.p 30 [] 0),(4,.p 40 [] 0),(6,xi y.1),(11,xb y.2)],[(20,.cell false (.tv qo f.2.1)),(30,.cell false (.tv (.ba 16) f.2.2.1)),(40,.cell false (.ag [.tv (.ba 16) f.2.2.2.1,.tv qh f.2.2.2.2,.v 45 f.1.length])),(45,.vec false 37 (.sl 37 qX) f.1)],false,[]⟩)
def qqn (N:Nat):List (Nat×qw):=[]
abbrev ZW:=Int
def qf9:SP:=⟨0,28,[],[(2,.k (.p 20 [] 0)),(3,.k (.p 30 [] 0)),(4,.k (.p 40 [] 0)),(6,.x (.i .i64))],[(20,.cell false (.x qo)),(30,.cell false (.x (.ba 16))),(40,.cell false (.ag [.x (.ba 16),.x qh,.vs 45])),(45,.vec false 37)],false,[]⟩
def qqP (f:Xm) (v:ZW):TSt:=zq qf9 [dv (.sl 37 qX) f.1,dv qo f.2.1,dv (.ba 16) f.2.2.1,dv (.ba 16) f.2.2.2.1,dv qh f.2.2.2.2,dv (.i .i64) v]
def Z2 (N:Nat) (o_2:List qm) (o_2_2:qg) (o_2_3:Vector UInt8 16) (o_2_4:Vector UInt8 16) (o_2_5:qc) (v:ZW):Tree (ZW⊕Qn):=
 .cond (decide (v < (((qg.L o_2_2).length:Nat):Int))) (
 .bind (qM (qg.L o_2_2) v) fun e1=>
 .cond (eqE (.ba 16) (qn.ID e1) o_2_3) (
 .bind (qM (qg.L o_2_2) v) fun e2=>
 .ret (.inr (.inl e2))) <|
 .chk (qp (v + 1)) <|
 .ret (.inl (v + 1))) <|
 .ret (.inr (.inr ((v,decide (v < (((qg.L o_2_2).length:Nat):Int))))))
def qfc (N n:Nat) (f:Xm) (v:ZW):Option Qn:=qQ (Z2 N f.1 f.2.1 f.2.2.1 f.2.2.2.1 f.2.2.2.2) some n v
theorem qqr (N:Nat) (f:Xm) (n:Nat) (v:ZW) (y:Qn) (h:qfc N n f v=some y):LG Tryz.prog qca 43 (qE qBq 2) (qqP f v) (ZP f y):=
 zj qk (E:=qjd N) (L:=qJ (qqn N)) (st:=ZP f) (g:=some) (R:=ZP f) (qhg N) (qt (by kernel_rfl) trivial) (rg0 (by kernel_rfl)) (fun v=>by kernel_rfl) (qP (st:=ZP f) fun y=>by rcases y with _ | _<;>rfl) n v y h
def qa6 (N:Nat) (o_2:List qm) (o_2_2:qg) (o_2_3:Vector UInt8 16) (o_2_4:Vector UInt8 16) (o_2_5:qc) (s6_2:Int):Option Qn:=qfc N N (o_2,o_2_2,o_2_3,o_2_4,o_2_5) s6_2
def qfj (N:Nat):qw:=smL qf9 [(.sl 37 qX),qo,(.ba 16),(.ba 16),qh,(.i .i64)] Qn (fun x=>qa6 N x.1 x.2.1 x.2.2.1 x.2.2.2.1 x.2.2.2.2.1 x.2.2.2.2.2.1) (csS cs1) fun x=>ZP (x.1,x.2.1,x.2.2.1,x.2.2.2.1,x.2.2.2.2.1)
theorem qoE (N:Nat):zZ Tryz.prog qca 43 (qE qBq 2) (qfj N):=zp fun x z h=>qqr N (x.1,x.2.1,x.2.2.1,x.2.2.2.1,x.2.2.2.2.1) N x.2.2.2.2.2.1 z h
def qvX (z:qn×Bool):TV×THp:=(.tup [.tv qZ (z.1:qn),xb z.2],[])
def qb8 (N:Nat) (a0:qg) (a1:Vector UInt8 16):Tree (qn×Bool):=
 .bind (zV [(([]:List qm).length,0)] (qa6 N [] a0 a1 ((Vector.replicate 16 0)) (qc.mk 0 0) 0)) fun z1=>
 .sum z1 (fun z2=>
 .ret (z2,true)) fun z2=>
 .chk (0=0) <|
 .ret (qn.mk ((Vector.replicate 16 0)) (qc.mk 0 0) [],false)
def Vq (N:Nat) (a0:qg) (a1:Vector UInt8 16):Option (qn×Bool):=(qb8 N a0 a1).run some
def qvG (N:Nat):List (Nat×qw):=[(2,qfj N)]
def YB (N:Nat):Ent:=smF ⟨43,[],[.x qo,.x (.ba 16)],[],[]⟩ [qo,(.ba 16)] (qn×Bool) (fun x=>Vq N x.1 x.2.1) cs1 fun _=>qvX
theorem qaZ (N:Nat):zf Tryz.prog (YB N):=
 zd (H:=qca) (L:=qJ (qvG N)) (ts:=[qo,(.ba 16)]) (T:=fun x=>qb8 N x.1 x.2.1) 0 qTh (qhg N) (qt (by kernel_rfl) ⟨qoE N,trivial⟩) (rg0 (by kernel_rfl)) fun x=>by kernel_rfl
noncomputable def qCF:Code:=Tryz.f46.body.getD .skip
theorem qTG:FnF Tryz.prog 46 Tryz.f46 qCF:=⟨qk,by kernel_rfl,by kernel_rfl,by kernel_rfl⟩
def qcG:TH:={ live:=[(0,[2,3,4,6]),(1,[2,6,8]),(2,[2,6,8,10]),(3,[2,6,8,10,21]),(4,[2,6,8,10]),(5,[2,6,8,10,31]),(6,[6,7]),(7,[6,7])] }
def qjo (N:Nat):List Ent:=[YB N]
theorem qha (N:Nat):qU Tryz.prog (qjo N):=⟨qaZ N,trivial⟩
abbrev Xu:=qc×Vector UInt8 32×qn×Int
abbrev Qk:=qm⊕(Int×Bool)
def ZO (f:Xu):Qk→Ex×TSt
 | .inl y=>(.ret,⟨0,38,[],[(6,.p 60 [] 0),(7,.bc true)],[(60,.cell false (.tv qX y))],false,[]⟩)
 | .inr y=>(.exit 0,⟨0,38,[],[(2,xi f.2.2.2),(6,.p 60 [] 0),(8,.p 80 [] 0),(10,xi y.1),(21,xb y.2)],[(60,.cell false (.ag [.ic .i64 0,.tv qh f.1,.ic .i64 0,.tv (.ba 32) f.2.1,.nils])),(80,.cell false (.tv qZ f.2.2.1))],false,[]⟩)
def qqb (N:Nat):List (Nat×qw):=[]
abbrev Z0:=Int
def qfT:SP:=⟨0,38,[],[(2,.x (.i .i64)),(6,.k (.p 60 [] 0)),(8,.k (.p 80 [] 0)),(10,.x (.i .i64))],[(60,.cell false (.ag [.k (.ic .i64 0),.x qh,.k (.ic .i64 0),.x (.ba 32),.k .nils])),(80,.cell false (.x qZ))],false,[]⟩
def qp9 (f:Xu) (v:Z0):TSt:=zq qfT [dv qh f.1,dv (.ba 32) f.2.1,dv qZ f.2.2.1,dv (.i .i64) f.2.2.2,dv (.i .i64) v]
def ZC (N:Nat) (o_3:qc) (o_3_2:Vector UInt8 32) (o_3_3:qn) (s2_3:Int) (v:Z0):Tree (Z0⊕Qk):=
 .cond (decide (v < (((qn.F o_3_3).length:Nat):Int))) (
 .bind (qM (qn.F o_3_3) v) fun e1=>
 .cond (decide ((qm.No e1)=s2_3)) (
 .bind (qM (qn.F o_3_3) v) fun e2=>
 .ret (.inr (.inl e2))) <|
 .chk (qp (v + 1)) <|
 .ret (.inl (v + 1))) <|
 .ret (.inr (.inr ((v,decide (v < (((qn.F o_3_3).length:Nat):Int))))))
def qfX (N n:Nat) (f:Xu) (v:Z0):Option Qk:=qQ (ZC N f.1 f.2.1 f.2.2.1 f.2.2.2) some n v
theorem qpK (N:Nat) (f:Xu) (n:Nat) (v:Z0) (y:Qk) (h:qfX N n f v=some y):LG Tryz.prog qcG 46 (qE qCF 3) (qp9 f v) (ZO f y):=
 zj qk (E:=qjo N) (L:=qJ (qqb N)) (st:=ZO f) (g:=some) (R:=ZO f) (qha N) (qt (by kernel_rfl) trivial) (rg0 (by kernel_rfl)) (fun v=>by kernel_rfl) (qP (st:=ZO f) fun y=>by rcases y with _ | _<;>rfl) n v y h
def qaI (N:Nat) (o_3:qc) (o_3_2:Vector UInt8 32) (o_3_3:qn) (s2_3:Int) (s10_3:Int):Option Qk:=qfX N N (o_3,o_3_2,o_3_3,s2_3) s10_3
def qfJ (N:Nat):qw:=smL qfT [qh,(.ba 32),qZ,(.i .i64),(.i .i64)] Qk (fun x=>qaI N x.1 x.2.1 x.2.2.1 x.2.2.2.1 x.2.2.2.2.1) (csS cs1) fun x=>ZO (x.1,x.2.1,x.2.2.1,x.2.2.2.1)
theorem qoe (N:Nat):zZ Tryz.prog qcG 46 (qE qCF 3) (qfJ N):=zp fun x z h=>qpK N (x.1,x.2.1,x.2.2.1,x.2.2.2.1) N x.2.2.2.2.1 z h
def qvM (z:qm×Bool):TV×THp:=(.tup [.tv qX (z.1:qm),xb z.2],[])
def qcv (N:Nat) (a0:qg) (a1:Vector UInt8 16) (a2:Int):Tree (qm×Bool):=
 .bind (Vq N a0 a1) fun r1=>
 .bind (qaI N (qc.mk 0 0) ((Vector.replicate 32 0)) r1.1 a2 0) fun z2=>
 .sum z2 (fun z3=>
 .ret (z3,true)) fun z3=>
 .ret (qm.mk 0 (qc.mk 0 0) 0 ((Vector.replicate 32 0)) [],false)
def KT (N:Nat) (a0:qg) (a1:Vector UInt8 16) (a2:Int):Option (qm×Bool):=(qcv N a0 a1 a2).run some
def qv0 (N:Nat):List (Nat×qw):=[(3,qfJ N)]
def qi3 (N:Nat):Ent:=smF ⟨46,[],[.x qo,.x (.ba 16),.x (.i .i64)],[],[]⟩ [qo,(.ba 16),(.i .i64)] (qm×Bool) (fun x=>KT N x.1 x.2.1 x.2.2.1) cs1 fun _=>qvM
theorem qtU (N:Nat):zf Tryz.prog (qi3 N):=
 zd (H:=qcG) (L:=qJ (qv0 N)) (ts:=[qo,(.ba 16),(.i .i64)]) (T:=fun x=>qcv N x.1 x.2.1 x.2.2.1) 0 qTG (qha N) (qt (by kernel_rfl) ⟨qoe N,trivial⟩) (rg0 (by kernel_rfl)) fun x=>by kernel_rfl
noncomputable def qUe:Code:=Tryz.f19.body.getD .skip
theorem qS2:FnF Tryz.prog 19 Tryz.f19 qUe:=⟨qk,by kernel_rfl,by kernel_rfl,by kernel_rfl⟩
def qpP:TH:={ live:=[(0,[3,4,5,6]),(1,[3,4,5,6,9]),(2,[4,9,11,12]),(3,[4,11,12,13]),(4,[4,11,12,35]),(5,[8]),(6,[4,11,37]),(7,[8]),(8,[4,11,42]),(9,[14]),(10,[8]),(11,[15]),(12,[8])] }
def qpO (N:Nat):List Ent:=[YB N,qi3 N,vu,qe4 N,qcf N]
theorem qna (N:Nat):qU Tryz.prog (qpO N):=⟨qaZ N,qtU N,vV,qkP N,qhO N,trivial⟩
def qqw (z:Bool):TV×THp:=(xb z,[])
def Ku (N:Nat) (a0:qe) (a1:qg) (a2:Vector UInt8 16) (a3:Int):Tree (Bool):=
 .bind (Vq N a1 a2) fun r1=>
 .bind (KT N a1 a2 a3) fun r2=>
 .bind (zN (qn.qz r1.1) (qe.S a0)) fun r3=>
 .cond (!r3) (
 .ret false) <|
 .cond (!r2.2) (
 .ret true) <|
 .cond (!(eqE qh (qm.S r2.1) (qe.S a0))) (
 .bind (zN (qm.S r2.1) (qe.S a0)) fun r4=>
 .ret r4) <|
 .bind (X7 N (qe.V a0)) fun r4=>
 .bind (WN N (qm.D r2.1) r4) fun r5=>
 .ret r5
def J8 (N:Nat) (a0:qe) (a1:qg) (a2:Vector UInt8 16) (a3:Int):Option (Bool):=(Ku N a0 a1 a2 a3).run some
def qqf (N:Nat):List (Nat×qw):=[]
def Kv (N:Nat):Ent:=smF ⟨19,[],[.x qq,.x qo,.x (.ba 16),.x (.i .i64)],[],[]⟩ [qq,qo,(.ba 16),(.i .i64)] (Bool) (fun x=>J8 N x.1 x.2.1 x.2.2.1 x.2.2.2.1) cs1 fun _=>qqw
theorem qeM (N:Nat):zf Tryz.prog (Kv N):=
 zd (H:=qpP) (L:=qJ (qqf N)) (ts:=[qq,qo,(.ba 16),(.i .i64)]) (T:=fun x=>Ku N x.1 x.2.1 x.2.2.1 x.2.2.2.1) 0 qS2 (qna N) (qt (by kernel_rfl) trivial) (rg0 (by kernel_rfl)) fun x=>by kernel_rfl
noncomputable def qmP:Code:=Tryz.f17.body.getD .skip
theorem qR8:FnF Tryz.prog 17 Tryz.f17 qmP:=⟨qk,by kernel_rfl,by kernel_rfl,by kernel_rfl⟩
def Vj:TH:={ live:=[(0,[2,3]),(1,[2,3,5]),(2,[2,3,5,6]),(3,[2,3,25]),(4,[4]),(5,[2,3,7]),(6,[2,3,7,8]),(7,[2,3,7,8,30]),(8,[2,3,7,8]),(9,[2,3,7,8,9]),(10,[2,3,7,8,9,10]),(11,[2,3,7,8,9,10,12]),(12,[2,3,7,8,9,12,13]),(13,[2,3,7,8,9,12,13,53]),(14,[2,3,7,8,9,12,13]),(15,[2,3,7,8,9,12,13,14]),(16,[2,3,7,8,9,12,13,14,61]),(17,[2,3,7,8,9,12,13,14]),(18,[2,3,7,8,9,12,13,14,15]),(19,[2,3,7,8,9,12,13,14,80]),(20,[2,3,7,8,9,12,13,14]),(21,[2,3,7,8,12,97]),(22,[2,3,7,8]),(23,[4])],dec:=[22,92],nil:=[(5,[⟨.sl 7,75,(.sl 19 qf)⟩]),(11,[⟨.ob 120 [2],125,(.sl 4 qB)⟩])] }
def qa2 (N:Nat):List Ent:=[Ka N,qkt N,YB N,vu,Kv N]
theorem KF (N:Nat):qU Tryz.prog (qa2 N):=⟨qb_ N,qvF N,qaZ N,vV,qeM N,trivial⟩
abbrev J_:=List qa×qb×qg×qa×Vector UInt8 16×qc×Int×Bool
abbrev vI:=List qd×Int×Bool
def QU (f:J_) (y:vI):Ex×TSt:=(.exit 2,⟨0,103,[],[(2,.p 20 [] 0),(3,.p 30 [] 0),(7,.v 75 f.1.length),(8,xi f.2.2.2.2.2.2.1),(9,.p 90 [] 0),(12,.p 120 [] 0),(13,xb f.2.2.2.2.2.2.2),(14,xi y.2.1),(61,xb y.2.2)],[(20,.cell false (.tv qj f.2.1)),(30,.cell false (.tv qo f.2.2.1)),(75,.vec false 19 (.sl 19 qf) f.1),(90,.cell false (.tv qf f.2.2.2.1)),(120,.cell false (.ag [.tv (.ba 16) f.2.2.2.2.1,.tv qh f.2.2.2.2.2.1,.v 125 y.1.length])),(125,.vec false 4 (.sl 4 qB) (y.1:List qd))],false,[]⟩)
def qnd (N:Nat):List (Nat×qw):=[]
abbrev QZ:=List qd×Int
def qd3:SP:=⟨0,103,[],[(2,.k (.p 20 [] 0)),(3,.k (.p 30 [] 0)),(7,.vs 75),(8,.x (.i .i64)),(9,.k (.p 90 [] 0)),(12,.k (.p 120 [] 0)),(13,.x .b),(14,.x (.i .i64))],[(20,.cell false (.x qj)),(30,.cell false (.x qo)),(75,.vec false 19),(90,.cell false (.x qf)),(120,.cell false (.ag [.x (.ba 16),.x qh,.vs 125])),(125,.vec false 4)],false,[]⟩
def qnt (f:J_) (v:QZ):TSt:=zq qd3 [dv (.sl 19 qf) f.1,dv (.sl 4 qB) v.1,dv qj f.2.1,dv qo f.2.2.1,dv qf f.2.2.2.1,dv (.ba 16) f.2.2.2.2.1,dv qh f.2.2.2.2.2.1,dv (.i .i64) f.2.2.2.2.2.2.1,dv .b f.2.2.2.2.2.2.2,dv (.i .i64) v.2]
def J6 (N:Nat) (o_16:List qa) (o_16_3:qb) (o_16_4:qg) (o_16_5:qa) (o_16_6:Vector UInt8 16) (o_16_7:qc) (s8_16:Int) (s13_16:Bool) (v:QZ):Tree (QZ⊕vI):=
 .cond (decide (v.2 < (((qa.F o_16_5).length:Nat):Int))) (
 .bind (qM (qa.F o_16_5) v.2) fun e1=>
 .bind (qM (qa.F o_16_5) v.2) fun e2=>
 .bind (J8 N (qd.C e1) o_16_4 (qa.ID o_16_5) (qd.No e2)) fun r3=>
 .cond r3 (
 .bind (qM (qa.F o_16_5) v.2) fun e4=>
 .chk (zU v.1.length v.1.length ((v.1++[e4]).length) 40) <|
 .chk (qp (v.2 + 1)) <|
 .ret (.inl (v.1++[e4],v.2 + 1))) <|
 .chk (qp (v.2 + 1)) <|
 .ret (.inl (v.1,v.2 + 1))) <|
 .ret (.inr (v.1,v.2,decide (v.2 < (((qa.F o_16_5).length:Nat):Int))))
def qdo (N n:Nat) (f:J_) (v:QZ):Option vI:=qQ (J6 N f.1 f.2.1 f.2.2.1 f.2.2.2.1 f.2.2.2.2.1 f.2.2.2.2.2.1 f.2.2.2.2.2.2.1 f.2.2.2.2.2.2.2) some n v
theorem qmU (N:Nat) (f:J_) (n:Nat) (v:QZ) (y:vI) (h:qdo N n f v=some y):LG Tryz.prog Vj 17 (qE (qE qmP 7) 16) (qnt f v) (QU f y):=
 zj qk (E:=qa2 N) (L:=qJ (qnd N)) (st:=QU f) (g:=some) (R:=QU f) (KF N) (qt (by kernel_rfl) trivial) (rg0 (by kernel_rfl)) (fun v=>by kernel_rfl) (qP (st:=QU f) fun y=>by rfl) n v y h
def ZY (N:Nat) (o_16:List qa) (o_16_3:qb) (o_16_4:qg) (o_16_5:qa) (o_16_6:Vector UInt8 16) (o_16_7:qc) (s8_16:Int) (s13_16:Bool) (o_16_2:List qd) (s14_16:Int):Option vI:=qdo N N (o_16,o_16_3,o_16_4,o_16_5,o_16_6,o_16_7,s8_16,s13_16) (o_16_2,s14_16)
def qdt (N:Nat):qw:=smL qd3 [(.sl 19 qf),(.sl 4 qB),qj,qo,qf,(.ba 16),qh,(.i .i64),.b,(.i .i64)] vI (fun x=>ZY N x.1 x.2.2.1 x.2.2.2.1 x.2.2.2.2.1 x.2.2.2.2.2.1 x.2.2.2.2.2.2.1 x.2.2.2.2.2.2.2.1 x.2.2.2.2.2.2.2.2.1 x.2.1 x.2.2.2.2.2.2.2.2.2.1) cs1 fun x=>QU (x.1,x.2.2.1,x.2.2.2.1,x.2.2.2.2.1,x.2.2.2.2.2.1,x.2.2.2.2.2.2.1,x.2.2.2.2.2.2.2.1,x.2.2.2.2.2.2.2.2.1)
theorem qmh (N:Nat):zZ Tryz.prog Vj 17 (qE (qE qmP 7) 16) (qdt N):=zp fun x z h=>qmU N (x.1,x.2.2.1,x.2.2.2.1,x.2.2.2.2.1,x.2.2.2.2.2.1,x.2.2.2.2.2.2.1,x.2.2.2.2.2.2.2.1,x.2.2.2.2.2.2.2.2.1) N (x.2.1,x.2.2.2.2.2.2.2.2.2.1) z h
abbrev VQ:=qb×qg
abbrev vN:=List qa×Int×Bool
def Q9 (f:VQ) (y:vN):Ex×TSt:=(.exit 0,⟨0,103,[],[(2,.p 20 [] 0),(3,.p 30 [] 0),(7,.v 75 y.1.length),(8,xi y.2.1),(30,xb y.2.2)],[(20,.cell false (.tv qj f.1)),(30,.cell false (.tv qo f.2)),(75,.vec false 19 (.sl 19 qf) (y.1:List qa))],false,[]⟩)
def qog (N:Nat):List (Nat×qw):=[(16,qdt N)]
abbrev Zl:=List qa×Int
def qe0:SP:=⟨0,103,[],[(2,.k (.p 20 [] 0)),(3,.k (.p 30 [] 0)),(7,.vs 75),(8,.x (.i .i64))],[(20,.cell false (.x qj)),(30,.cell false (.x qo)),(75,.vec false 19)],false,[]⟩
def qoB (f:VQ) (v:Zl):TSt:=zq qe0 [dv (.sl 19 qf) v.1,dv qj f.1,dv qo f.2,dv (.i .i64) v.2]
def VJ (N:Nat) (o_7_2:qb) (o_7_3:qg) (v:Zl):Tree (Zl⊕vN):=
 .cond (decide (v.2 < (((qb.R o_7_2).length:Nat):Int))) (
 .bind (qM (qb.R o_7_2) v.2) fun e1=>
 .bind (Vq N o_7_3 (qa.ID e1)) fun r2=>
 .bind (zN (qn.qz r2.1) (qa.qz e1)) fun r3=>
 .cond r3 (
 .bind (zV [(([]:List qd).length,0),(v.1.length,v.1.length)] (ZY N v.1 o_7_2 o_7_3 e1 (qa.ID e1) (qa.qz e1) v.2 r3 [] 0)) fun z4=>
 .cond r3 (
 .chk (z4.1.length=z4.1.length) <|
 .chk (zU v.1.length v.1.length ((v.1++[qa.mk (qa.ID e1) (qa.qz e1) z4.1]).length) 56) <|
 .chk (qp (v.2 + 1)) <|
 .ret (.inl (v.1++[qa.mk (qa.ID e1) (qa.qz e1) z4.1],v.2 + 1))) <|
 .cond (decide (((0:Int)) < ((z4.1.length:Nat):Int))) (
 .chk (z4.1.length=z4.1.length) <|
 .chk (zU v.1.length v.1.length ((v.1++[qa.mk (qa.ID e1) (qa.qz e1) z4.1]).length) 56) <|
 .chk (qp (v.2 + 1)) <|
 .ret (.inl (v.1++[qa.mk (qa.ID e1) (qa.qz e1) z4.1],v.2 + 1))) <|
 .chk (qp (v.2 + 1)) <|
 .ret (.inl (v.1,v.2 + 1))) <|
 .bind (zV [(([]:List qd).length,0),(v.1.length,v.1.length)] (ZY N v.1 o_7_2 o_7_3 e1 (qa.ID e1) (qc.mk 0 0) v.2 r3 [] 0)) fun z4=>
 .cond r3 (
 .chk (z4.1.length=z4.1.length) <|
 .chk (zU v.1.length v.1.length ((v.1++[qa.mk (qa.ID e1) (qc.mk 0 0) z4.1]).length) 56) <|
 .chk (qp (v.2 + 1)) <|
 .ret (.inl (v.1++[qa.mk (qa.ID e1) (qc.mk 0 0) z4.1],v.2 + 1))) <|
 .cond (decide (((0:Int)) < ((z4.1.length:Nat):Int))) (
 .chk (z4.1.length=z4.1.length) <|
 .chk (zU v.1.length v.1.length ((v.1++[qa.mk (qa.ID e1) (qc.mk 0 0) z4.1]).length) 56) <|
 .chk (qp (v.2 + 1)) <|
 .ret (.inl (v.1++[qa.mk (qa.ID e1) (qc.mk 0 0) z4.1],v.2 + 1))) <|
 .chk (qp (v.2 + 1)) <|
 .ret (.inl (v.1,v.2 + 1))) <|
 .ret (.inr (v.1,v.2,decide (v.2 < (((qb.R o_7_2).length:Nat):Int))))
def qeW (N n:Nat) (f:VQ) (v:Zl):Option vN:=qQ (VJ N f.1 f.2) some n v
theorem qot (N:Nat) (f:VQ) (n:Nat) (v:Zl) (y:vN) (h:qeW N n f v=some y):LG Tryz.prog Vj 17 (qE qmP 7) (qoB f v) (Q9 f y):=
 zj qk (E:=qa2 N) (L:=qJ (qog N)) (st:=Q9 f) (g:=some) (R:=Q9 f) (KF N) (qt (by kernel_rfl) ⟨qmh N,trivial⟩) (rg0 (by kernel_rfl)) (fun v=>by kernel_rfl) (qP (st:=Q9 f) fun y=>by rfl) n v y h
def qat (N:Nat) (o_7_2:qb) (o_7_3:qg) (o_7:List qa) (s8_7:Int):Option vN:=qeW N N (o_7_2,o_7_3) (o_7,s8_7)
def qeH (N:Nat):qw:=smL qe0 [(.sl 19 qf),qj,qo,(.i .i64)] vN (fun x=>qat N x.2.1 x.2.2.1 x.1 x.2.2.2.1) cs1 fun x=>Q9 (x.2.1,x.2.2.1)
theorem qng (N:Nat):zZ Tryz.prog Vj 17 (qE qmP 7) (qeH N):=zp fun x z h=>qot N (x.2.1,x.2.2.1) N (x.1,x.2.2.2.1) z h
def quH (z:List qa):TV×THp:=(.tv (.sl 19 qf) z,[])
def W2 (N:Nat) (a0:qb) (a1:qg):Tree (List qa):=
 .bind (Jk N a0) fun r1=>
 .bind (qa4 N a1) fun r2=>
 .cond (!r1) (
 .ret []) <|
 .cond (!r2) (
 .ret []) <|
 .bind (zV [(([]:List qa).length,0)] (qat N a0 a1 [] 0)) fun z3=>
 .chk (z3.1.length=z3.1.length) <|
 .ret z3.1
def QS (N:Nat) (a0:qb) (a1:qg):Option (List qa):=(W2 N a0 a1).run some
def qt3 (N:Nat):List (Nat×qw):=[(7,qeH N)]
def qiO (N:Nat):Ent:=smF ⟨17,[],[.x qj,.x qo],[],[]⟩ [qj,qo] (List qa) (fun x=>QS N x.1 x.2.1) cs1 fun _=>quH
theorem qrz (N:Nat):zf Tryz.prog (qiO N):=
 zd (H:=Vj) (L:=qJ (qt3 N)) (ts:=[qj,qo]) (T:=fun x=>W2 N x.1 x.2.1) 0 qR8 (KF N) (qt (by kernel_rfl) ⟨qng N,trivial⟩) (rg0 (by kernel_rfl)) fun x=>by kernel_rfl
noncomputable def qBI:Code:=Tryz.f45.body.getD .skip
theorem qTO:FnF Tryz.prog 45 Tryz.f45 qBI:=⟨qk,by kernel_rfl,by kernel_rfl,by kernel_rfl⟩
def qb7:TH:={ live:=[(0,[2,3]),(1,[2,3,26]),(2,[4]),(3,[2,3,5]),(4,[2,3,5,31]),(5,[2,3,5]),(6,[2,3,5,44]),(7,[4]),(8,[4])],dec:=[11,18] }
def qi2 (N:Nat):List Ent:=[]
theorem qg9 (N:Nat):qU Tryz.prog (qi2 N):=trivial
abbrev Xr:=qa×qa
abbrev Qe:=Unit⊕(Int×Bool)
def ZX (f:Xr):Qe→Ex×TSt
 | .inl y=>(.ret,⟨0,45,[],[(4,.bc false)],[],false,[]⟩)
 | .inr y=>(.exit 0,⟨0,45,[],[(2,.p 20 [] 0),(3,.p 30 [] 0),(5,xi y.1),(31,xb y.2)],[(20,.cell false (.tv qf f.1)),(30,.cell false (.tv qf f.2))],false,[]⟩)
def qqk (N:Nat):List (Nat×qw):=[]
abbrev ZE:=Int
def qfm:SP:=⟨0,45,[],[(2,.k (.p 20 [] 0)),(3,.k (.p 30 [] 0)),(5,.x (.i .i64))],[(20,.cell false (.x qf)),(30,.cell false (.x qf))],false,[]⟩
def qqM (f:Xr) (v:ZE):TSt:=zq qfm [dv qf f.1,dv qf f.2,dv (.i .i64) v]
def Xi (N:Nat) (o_4:qa) (o_4_2:qa) (v:ZE):Tree (ZE⊕Qe):=
 .cond (decide (v < (((qa.F o_4).length:Nat):Int))) (
 .bind (qM (qa.F o_4) v) fun e1=>
 .bind (qM (qa.F o_4_2) v) fun e2=>
 .cond (!(eqE qB e1 e2)) (
 .ret (.inr (.inl ()))) <|
 .chk (qp (v + 1)) <|
 .ret (.inl (v + 1))) <|
 .ret (.inr (.inr ((v,decide (v < (((qa.F o_4).length:Nat):Int))))))
def qfB (N n:Nat) (f:Xr) (v:ZE):Option Qe:=qQ (Xi N f.1 f.2) some n v
theorem qpU (N:Nat) (f:Xr) (n:Nat) (v:ZE) (y:Qe) (h:qfB N n f v=some y):LG Tryz.prog qb7 45 (qE qBI 4) (qqM f v) (ZX f y):=
 zj qk (E:=qi2 N) (L:=qJ (qqk N)) (st:=ZX f) (g:=some) (R:=ZX f) (qg9 N) (qt (by kernel_rfl) trivial) (rg0 (by kernel_rfl)) (fun v=>by kernel_rfl) (qP (st:=ZX f) fun y=>by rcases y with _ | _<;>rfl) n v y h
def qa1 (N:Nat) (o_4:qa) (o_4_2:qa) (s5_4:Int):Option Qe:=qfB N N (o_4,o_4_2) s5_4
def qfV (N:Nat):qw:=smL qfm [qf,qf,(.i .i64)] Qe (fun x=>qa1 N x.1 x.2.1 x.2.2.1) (csS cs1) fun x=>ZX (x.1,x.2.1)
theorem qn6 (N:Nat):zZ Tryz.prog qb7 45 (qE qBI 4) (qfV N):=zp fun x z h=>qpU N (x.1,x.2.1) N x.2.2.1 z h
def qv7 (z:Bool):TV×THp:=(xb z,[])
def qcb (N:Nat) (a0:qa) (a1:qa):Tree (Bool):=
 .cond (!(eqE (.ba 16) (qa.ID a0) (qa.ID a1))) (
 .ret false) <|
 .cond (!(eqE qh (qa.qz a0) (qa.qz a1))) (
 .ret false) <|
 .cond (!decide ((((qa.F a0).length:Nat):Int)=(((qa.F a1).length:Nat):Int))) (
 .ret false) <|
 .bind (qa1 N a0 a1 0) fun z1=>
 .sum z1 (fun z2=>
 .ret false) fun z2=>
 .ret true
def KX (N:Nat) (a0:qa) (a1:qa):Option (Bool):=(qcb N a0 a1).run some
def qwq (N:Nat):List (Nat×qw):=[(4,qfV N)]
def qjg (N:Nat):Ent:=smF ⟨45,[],[.x qf,.x qf],[],[]⟩ [qf,qf] (Bool) (fun x=>KX N x.1 x.2.1) cs1 fun _=>qv7
theorem quI (N:Nat):zf Tryz.prog (qjg N):=
 zd (H:=qb7) (L:=qJ (qwq N)) (ts:=[qf,qf]) (T:=fun x=>qcb N x.1 x.2.1) 0 qTO (qg9 N) (qt (by kernel_rfl) ⟨qn6 N,trivial⟩) (rg0 (by kernel_rfl)) fun x=>by kernel_rfl
noncomputable def qCP:Code:=Tryz.f18.body.getD .skip
theorem qSD:FnF Tryz.prog 18 Tryz.f18 qCP:=⟨qk,by kernel_rfl,by kernel_rfl,by kernel_rfl⟩
def qcm:TH:={ live:=[(0,[2,3]),(1,[2,3,13]),(2,[4]),(3,[2,3,5]),(4,[2,3,5,18]),(5,[2,3,5]),(6,[2,3,5,6]),(7,[2,3,5,33]),(8,[4]),(9,[4])] }
def qjq (N:Nat):List Ent:=[qjg N]
theorem qhf (N:Nat):qU Tryz.prog (qjq N):=⟨quI N,trivial⟩
abbrev Xq:=qb×qb
abbrev Qb:=Unit⊕(Int×Bool)
def ZK (f:Xq):Qb→Ex×TSt
 | .inl y=>(.ret,⟨0,34,[],[(4,.bc false)],[],false,[]⟩)
 | .inr y=>(.exit 0,⟨0,34,[],[(2,.p 20 [] 0),(3,.p 30 [] 0),(5,xi y.1),(18,xb y.2)],[(20,.cell false (.tv qj f.1)),(30,.cell false (.tv qj f.2))],false,[]⟩)
def qq3 (N:Nat):List (Nat×qw):=[]
abbrev Z1:=Int
def qfx:SP:=⟨0,34,[],[(2,.k (.p 20 [] 0)),(3,.k (.p 30 [] 0)),(5,.x (.i .i64))],[(20,.cell false (.x qj)),(30,.cell false (.x qj))],false,[]⟩
def qpi (f:Xq) (v:Z1):TSt:=zq qfx [dv qj f.1,dv qj f.2,dv (.i .i64) v]
def XH (N:Nat) (o_4:qb) (o_4_2:qb) (v:Z1):Tree (Z1⊕Qb):=
 .cond (decide (v < (((qb.R o_4).length:Nat):Int))) (
 .bind (qM (qb.R o_4) v) fun e1=>
 .bind (qM (qb.R o_4_2) v) fun e2=>
 .bind (KX N e1 e2) fun r3=>
 .cond (!r3) (
 .ret (.inr (.inl ()))) <|
 .chk (qp (v + 1)) <|
 .ret (.inl (v + 1))) <|
 .ret (.inr (.inr ((v,decide (v < (((qb.R o_4).length:Nat):Int))))))
def qfF (N n:Nat) (f:Xq) (v:Z1):Option Qb:=qQ (XH N f.1 f.2) some n v
theorem qqF (N:Nat) (f:Xq) (n:Nat) (v:Z1) (y:Qb) (h:qfF N n f v=some y):LG Tryz.prog qcm 18 (qE qCP 4) (qpi f v) (ZK f y):=
 zj qk (E:=qjq N) (L:=qJ (qq3 N)) (st:=ZK f) (g:=some) (R:=ZK f) (qhf N) (qt (by kernel_rfl) trivial) (rg0 (by kernel_rfl)) (fun v=>by kernel_rfl) (qP (st:=ZK f) fun y=>by rcases y with _ | _<;>rfl) n v y h
def qbx (N:Nat) (o_4:qb) (o_4_2:qb) (s5_4:Int):Option Qb:=qfF N N (o_4,o_4_2) s5_4
def qfC (N:Nat):qw:=smL qfx [qj,qj,(.i .i64)] Qb (fun x=>qbx N x.1 x.2.1 x.2.2.1) (csS cs1) fun x=>ZK (x.1,x.2.1)
theorem qoA (N:Nat):zZ Tryz.prog qcm 18 (qE qCP 4) (qfC N):=zp fun x z h=>qqF N (x.1,x.2.1) N x.2.2.1 z h
def qvO (z:Bool):TV×THp:=(xb z,[])
def qcl (N:Nat) (a0:qb) (a1:qb):Tree (Bool):=
 .cond (!decide ((((qb.R a0).length:Nat):Int)=(((qb.R a1).length:Nat):Int))) (
 .ret false) <|
 .bind (qbx N a0 a1 0) fun z1=>
 .sum z1 (fun z2=>
 .ret false) fun z2=>
 .ret true
def WH (N:Nat) (a0:qb) (a1:qb):Option (Bool):=(qcl N a0 a1).run some
def qwh (N:Nat):List (Nat×qw):=[(4,qfC N)]
def qch (N:Nat):Ent:=smF ⟨18,[],[.x qj,.x qj],[],[]⟩ [qj,qj] (Bool) (fun x=>WH N x.1 x.2.1) cs1 fun _=>qvO
theorem qip (N:Nat):zf Tryz.prog (qch N):=
 zd (H:=qcm) (L:=qJ (qwh N)) (ts:=[qj,qj]) (T:=fun x=>qcl N x.1 x.2.1) 0 qSD (qhf N) (qt (by kernel_rfl) ⟨qoA N,trivial⟩) (rg0 (by kernel_rfl)) fun x=>by kernel_rfl
noncomputable def qRl:Code:=Tryz.f15.body.getD .skip
theorem qS5:FnF Tryz.prog 15 Tryz.f15 qRl:=⟨qk,by kernel_rfl,by kernel_rfl,by kernel_rfl⟩
def qvE:TH:={ live:=[(0,[0,1]),(1,[5]),(2,[4])] }
def qwk (N:Nat):List Ent:=[qch N]
theorem qr9 (N:Nat):qU Tryz.prog (qwk N):=⟨qip N,trivial⟩
def qwj (z:Bool):TV×THp:=(xb z,[])
def qci (N:Nat) (a0:List qa) (a1:List qa):Tree (Bool):=
 .bind (WH N (qb.mk a0) (qb.mk a1)) fun r1=>
 .ret r1
def KS (N:Nat) (a0:List qa) (a1:List qa):Option (Bool):=(qci N a0 a1).run some
def qv1 (N:Nat):List (Nat×qw):=[]
def qi5 (N:Nat):Ent:=smF ⟨15,[],[.x (.sl 19 qf),.x (.sl 19 qf)],[],[]⟩ [(.sl 19 qf),(.sl 19 qf)] (Bool) (fun x=>KS N x.1 x.2.1) cs1 fun _=>qwj
theorem qtB (N:Nat):zf Tryz.prog (qi5 N):=
 zd (H:=qvE) (L:=qJ (qv1 N)) (ts:=[(.sl 19 qf),(.sl 19 qf)]) (T:=fun x=>qci N x.1 x.2.1) 0 qS5 (qr9 N) (qt (by kernel_rfl) trivial) (rg0 (by kernel_rfl)) fun x=>by kernel_rfl
noncomputable def qUj:Code:=Tryz.f20.body.getD .skip
theorem qT5:FnF Tryz.prog 20 Tryz.f20 qUj:=⟨qk,by kernel_rfl,by kernel_rfl,by kernel_rfl⟩
def qDp:TH:={ live:=[(0,[3,4,5,6]),(1,[3,4,9]),(2,[8])] }
def qDv (N:Nat):List Ent:=[qiu N,qiv N]
theorem qAz (N:Nat):qU Tryz.prog (qDv N):=⟨qnN N,qmV N,trivial⟩
def qEh (z:Bool):TV×THp:=(xb z,[])
def qhN (N:Nat) (a0:qe) (a1:qg) (a2:Vector UInt8 16) (a3:Int):Tree (Bool):=
 .bind (YQ N a1 a2) fun r1=>
 .bind (YM N a0 r1.1 a3) fun r2=>
 .ret r2
def qgs (N:Nat) (a0:qe) (a1:qg) (a2:Vector UInt8 16) (a3:Int):Option (Bool):=(qhN N a0 a1 a2 a3).run some
def qD7 (N:Nat):List (Nat×qw):=[]
def qoF (N:Nat):Ent:=smF ⟨20,[],[.x qq,.x qo,.x (.ba 16),.x (.i .i64)],[],[]⟩ [qq,qo,(.ba 16),(.i .i64)] (Bool) (fun x=>qgs N x.1 x.2.1 x.2.2.1 x.2.2.2.1) cs1 fun _=>qEh
theorem qBJ (N:Nat):zf Tryz.prog (qoF N):=
 zd (H:=qDp) (L:=qJ (qD7 N)) (ts:=[qq,qo,(.ba 16),(.i .i64)]) (T:=fun x=>qhN N x.1 x.2.1 x.2.2.1 x.2.2.2.1) 0 qT5 (qAz N) (qt (by kernel_rfl) trivial) (rg0 (by kernel_rfl)) fun x=>by kernel_rfl
noncomputable def qLY:Code:=Tryz.f3.body.getD .skip
theorem qUK:FnF Tryz.prog 3 Tryz.f3 qLY:=⟨qk,by kernel_rfl,by kernel_rfl,by kernel_rfl⟩
def qmC:TH:={ live:=[(0,[5,6,7,8,9,10]),(1,[5,6,7,8,9,10,13]),(2,[5,6,7,8,9,10,13,14]),(3,[5,6,7,8,9,10,13,14,15]),(4,[5,6,7,8,9,10,13,14,15,16]),(5,[5,6,7,8,9,10,13,50]),(6,[12]),(7,[5,6,7,8,9,10,17,18]),(8,[5,6,7,9,10,17,18,19,20]),(9,[5,7,9,10,17,18,19,20,21]),(10,[5,7,9,10,18,20,21,22]),(11,[5,7,9,10,18,20,21,22,23]),(12,[12])],dec:=[33,37,41,45,80,83,88] }
def qmn (N:Nat):List Ent:=[qMe,qkA N,qkH N,qd7 N,qAQ N,qkk N,qve N,qiO N,qi5 N,qch N,Kv N,qoF N]
theorem qkK (N:Nat):qU Tryz.prog (qmn N):=⟨qSK,qvv N,qvI N,qjj N,qKC N,qvA N,qF4 N,qrz N,qtB N,qip N,qeM N,qBJ N,trivial⟩
def qmv (z:Bool):TV×THp:=(xb z,[])
def WV (N:Nat) (a0:qb) (a1:qg) (a2:qa) (a3:qe) (a4:Vector UInt8 16) (a5:Int):Tree (Bool):=
 .bind (qOm) fun r1=>
 .bind (qbs N a0) fun r2=>
 .bind (qbg N a1) fun r3=>
 .bind (QY N a2) fun r4=>
 .cond (!r1) (
 .ret r1) <|
 .cond (!r2) (
 .ret r1) <|
 .cond (!r3) (
 .ret r1) <|
 .cond (!r4) (
 .ret r1) <|
 .cond (decide (((300:Int)) < (((qe.V a3).length:Nat):Int))) (
 .ret r1) <|
 .bind (qo5 N a0 a2) fun r5=>
 .bind (qaT N a0 a2) fun r6=>
 .bind (Ko N a0 a1) fun r7=>
 .bind (QS N a0 a1) fun r8=>
 .bind (KS N r7 r8) fun r9=>
 .bind (WH N r5.1 r6.1) fun r10=>
 .bind (J8 N a3 a1 a4 a5) fun r11=>
 .cond r9 (
 .cond r10 (
 .cond (decide (r5.2=r6.2)) (
 .bind (qgs N a3 a1 a4 a5) fun r12=>
 .ret (eqE .b r12 r11)) <|
 .ret false) <|
 .ret false) <|
 .ret false
def vM (N:Nat) (a0:qb) (a1:qg) (a2:qa) (a3:qe) (a4:Vector UInt8 16) (a5:Int):Option (Bool):=(WV N a0 a1 a2 a3 a4 a5).run some
def qmm (N:Nat):List (Nat×qw):=[]
theorem qk3 (N:Nat):qbn Tryz.prog ⟨3,[],[.x qj,.x qo,.x qf,.x qq,.x (.ba 16),.x (.i .i64)],[],[]⟩ [qj,qo,qf,qq,(.ba 16),(.i .i64)] (fun x=>WV N x.1 x.2.1 x.2.2.1 x.2.2.2.1 x.2.2.2.2.1 x.2.2.2.2.2.1) (fun _=>qmv):=
 Yp (H:=qmC) (L:=qJ (qmm N)) 0 qUK (qkK N) (qt (by kernel_rfl) trivial) (rg0 (by kernel_rfl)) fun x=>by kernel_rfl
end Go.Rx
end
set_option maxRecDepth 100000
noncomputable section
namespace Go.Rx
open Go.Proofs
abbrev ve (q:Nat→Bool) (n:Nat):Bool:=qJ4 q n 0
theorem Vi {q:Nat→Bool} {n:Nat}:ve q n=true↔∀ j,j < n→q j=true:=by
 unfold ve; rw [qJV]
 exact ⟨fun h j hj=>h j (Nat.zero_le _) (by omega),fun h j _ hj=>h j (by omega)⟩
theorem qQF {p q:Nat→Bool} {n:Nat} (h:Zj p n 0=none) (hq:∀ j,j < n→p j=!q j):ve q n=true:=
 Vi.2 fun j hj=>by
  have:=qBb h j (Nat.zero_le _) (by omega)
  rw [hq j hj] at this; simpa using this
theorem qQe {p q:Nat→Bool} {n i:Nat} (h:Zj p n 0=some i) (hq:∀ j,j < n→p j=!q j):ve q n=false:=by
 obtain ⟨h1,_,h2,_⟩:=qqA h
 cases e:ve q n with
 | false=>rfl
 | true=>
  have:=Vi.1 e i (by omega)
  rw [hq i (by omega),this] at h1; simp at h1
theorem VC {α Y : Type} {B : Int → Tree (Int ⊕ (α ⊕ (Int × Bool)))} {g : α ⊕ (Int × Bool) → Option Y} {q : Nat → Bool} {n : Nat} {hit : α}
  (h1:∀ k,k < n→(B (k:Int)).run some=some (if q k then .inl ((k + 1:Nat):Int) else .inr (.inl hit))) (h2:(B (n:Int)).run some=some (.inr (.inr (((n:Nat):Int),false)))) {N:Nat} (hN:n < N) :
  qQ B g N ((0:Nat):Int)=g (if ve q n then .inr (((n:Nat):Int),false) else .inl hit):=by
 rw [qdY (p:=fun k=>!q k) (hit:=fun _=>.inl hit) (fin:=.inr (((n:Nat):Int),false)) (n:=n) (fun k hk=>by rw [h1 k hk]; cases q k<;>rfl) h2 N 0 (Nat.zero_le _) (by omega),Nat.sub_zero]
 cases e:Zj (fun k=>!q k) n 0 with
 | none=>rw [qQF e fun _ _=>rfl]; rfl
 | some i=>rw [qQe e fun _ _=>rfl]; rfl
class Jj (N:Nat):Prop where
 h:100000≤N
theorem Jj.of {N:Nat} (h:100000≤N):Jj N:=⟨h⟩
theorem big (N:Nat) [Jj N]:100000≤N:=Jj.h
abbrev zSt:qc:=((0:Int),(0:Int))
abbrev zE:qm:=qm.mk 0 zSt 0 (Vector.replicate 32 0) []
abbrev zL:qn:=qn.mk (Vector.replicate 16 0) zSt []
def qFt (x:qn):Bool:=decide (x.F.length≤12)&&ve (fun k=>decide ((x.F.getD k zE).B.length≤40)) x.F.length
def qpo (m:qg):Bool:=decide (m.L.length≤14)&&ve (fun k=>qFt (m.L.getD k zL)) m.L.length
theorem qza {k:Nat} (h:k≤1000000):qp ((k + 1:Nat):Int):=by unfold qp; omega
theorem qto {c n:Nat}:decide (((c:Nat):Int) < ((n:Nat):Int))=!decide (n≤c):=by
 by_cases h:n≤c
 ·rw [decide_eq_true h,decide_eq_false (by omega)]; rfl
 ·rw [decide_eq_false h,decide_eq_true (by omega)]; rfl
section n
variable {N:Nat} [Jj N]
def stB (a:qc):Bool:=decide (a=zSt)||(decide (0 < a.1)&&decide (a.1≤1099511627776)&&decide (0≤a.2)&&decide (a.2 < 8))
def slB (a b:qc):Bool:=decide (a.1 < b.1∨(a.1=b.1∧a.2 < b.2))
theorem qa5 (a b:qc):eqE qh a b=decide (a=b):=Bool.eq_iff_iff.2 ((Ye qh a b).trans (decide_eq_true_iff (p:=(a:Int×Int)=b)).symm)
theorem quw (a b:Vector UInt8 16):eqE (.ba 16) a b=decide (a=b):=Bool.eq_iff_iff.2 ((Ye (.ba 16) a b).trans (decide_eq_true_iff (p:=(a:Vector UInt8 16)=b)).symm)
theorem qnB (a:qc):qaF a=some (stB a):=by
 unfold qaF qqT
 have e:=qa5 a (qc.mk 0 0)
 simp only [Tree.run,e]
 show (bif decide (a=zSt) then _ else _)=some (decide (a=zSt)||_)
 cases decide (a=zSt) with
 | true=>rfl
 | false=>
  show (bif decide (0 < a.1) then _ else _)=_
  cases decide (0 < a.1) with
  | false=>rfl
  | true=>
   show (bif decide (a.1≤1099511627776) then _ else _)=_
   cases decide (a.1≤1099511627776) with
   | false=>rfl
   | true=>
    show (bif decide (0≤a.2) then _ else _)=_
    cases decide (0≤a.2)<;>rfl
def sgn (a b:Int):Int:=if a < b then -1 else if b < a then 1 else 0
theorem qWe (a b:Int):YX a b=some (sgn a b):=by
 unfold YX qe8 qgu qiw
 simp only [Tree.run,Option.bind_some,decide_true,Bool.not_true,cond_false,sgn]
 by_cases h:a < b
 ·simp [h]
 ·by_cases h2:b < a
  ·simp [h,h2]
  ·simp [h,h2]
theorem qOn (a b:Int):qif N [a,b]=some (if a=0 then b else a):=by
 obtain ⟨n,rfl⟩:∃ n,N=n + 3:=⟨N - 3,by have:=big N; omega⟩
 have e:qlm (n + 3) [a,b] ((([a,b]:List Int).length:Nat):Int) 0=qQ (Vg (n + 3) [a,b] 2) some (n + 3) 0:=rfl
 have r0:(Vg (n + 3) [a,b] 2 0).run some=if a=0 then some (.inl 1) else some (.inr (.inl a)):=by
  unfold Vg
  have g:qM [a,b] 0=some a:=rfl
  have c:qp ((0:Int) + 1):=by unfold qp; omega
  rw [qL,show decide ((0:Int) < 2)=true from rfl,cond_true,run_bind,g,Option.bind_some,qL,qS,qi c]
  by_cases h:a=0
  ·rw [if_pos h,decide_eq_true h]; rfl
  ·rw [if_neg h,decide_eq_false h]; rfl
 have r1:(Vg (n + 3) [a,b] 2 1).run some=if b=0 then some (.inl 2) else some (.inr (.inl b)):=by
  unfold Vg
  have g:qM [a,b] 1=some b:=rfl
  have c:qp ((1:Int) + 1):=by unfold qp; omega
  rw [qL,show decide ((1:Int) < 2)=true from rfl,cond_true,run_bind,g,Option.bind_some,qL,qS,qi c]
  by_cases h:b=0
  ·rw [if_pos h,decide_eq_true h]; rfl
  ·rw [if_neg h,decide_eq_false h]; rfl
 have r2:(Vg (n + 3) [a,b] 2 2).run some=some (.inr (.inr (2,false))):=rfl
 unfold qif qmO
 rw [run_bind,e]
 by_cases h:a=0
 ·rw [if_pos h] at r0
  rw [Zq r0,if_pos h]
  by_cases h2:b=0
  ·rw [if_pos h2] at r1
   rw [Zq r1,zu r2,h2]; rfl
  ·rw [if_neg h2] at r1
   rw [zu r1]; rfl
 ·rw [if_neg h] at r0
  rw [zu r0,if_neg h]; rfl
theorem qWR (a b:Int):sgn a b=-1∨sgn a b=0∨sgn a b=1:=by
 unfold sgn; split
 ·exact .inl rfl
 ·split
  ·exact .inr (.inr rfl)
  ·exact .inr (.inl rfl)
theorem W6 (a b:qc):vA N a b=some (slB a b):=by
 obtain ⟨a1,a2⟩:=a
 obtain ⟨b1,b2⟩:=b
 unfold vA qnX
 simp only [Tree.run,qa5,qWe,Option.bind_some]
 by_cases h:((a1,a2):qc)=(b1,b2)
 ·cases h
  have:slB ((a1,a2):qc) (a1,a2)=false:=decide_eq_false (by simp only; omega)
  rw [this,decide_eq_true rfl]; rfl
 ·rw [decide_eq_false h]
  simp only [Bool.not_false,cond_true]
  show ((qif N [sgn a1 b1,sgn a2 b2]).bind _)=_
  have hs:=qWR a2 b2
  by_cases h1:a1 < b1
  ·rw [show sgn a1 b1=-1 from if_pos h1,qOn,show slB ((a1,a2):qc) (b1,b2)=true from decide_eq_true (.inl h1)]; rfl
  ·by_cases h2:b1 < a1
   ·rw [show sgn a1 b1=1 by unfold sgn; rw [if_neg h1,if_pos h2],qOn,show slB ((a1,a2):qc) (b1,b2)=false from decide_eq_false (by simp only; omega)]; rfl
   ·have he:a1=b1:=by omega
    rw [show sgn a1 b1=0 by unfold sgn; rw [if_neg h1,if_neg h2],qOn,if_pos rfl,Option.bind_some]
    congr 1
    show decide (sgn a2 b2 < 0)=decide (a1 < b1∨(a1=b1∧a2 < b2))
    rw [decide_eq_decide]
    simp only [he,Int.lt_irrefl,false_or,true_and]
    unfold sgn
    split
    ·rename_i h3; simp [h3]
    ·rename_i h3
     split
     ·simp; omega
     ·simp; omega
end n
theorem qhA {m:qg}:qpo m=true↔m.L.length≤14∧∀ k,k < m.L.length→(m.L.getD k zL).F.length≤12∧∀ j,j < (m.L.getD k zL).F.length→((m.L.getD k zL).F.getD j zE).B.length≤40:=by
 unfold qpo
 rw [Bool.and_eq_true,decide_eq_true_iff,Vi]
 refine and_congr Iff.rfl (forall_congr' fun k=>imp_congr_right fun _=>?_)
 unfold qFt
 rw [Bool.and_eq_true,decide_eq_true_iff,Vi]
 exact and_congr Iff.rfl (forall_congr' fun j=>imp_congr_right fun _=>decide_eq_true_iff)
end Go.Rx
end
set_option maxRecDepth 100000
noncomputable section
namespace Go.Rx
open Go.Proofs
def blk (n:Int):Int:=if n < 24 then 0 else n.tdiv 8
def qKl (e:qm) (dead:qc):Bool:=
 decide (0≤e.No)&&(decide (e.No < 8)&&(decide (0≤e.Len)&&(decide (e.Len≤200)&&(decide (((e.B.length:Nat):Int)=blk e.Len)&&(stB e.S&&slB dead e.S)))))
def qjY (l:List qm) (dead:qc) (k:Nat):Bool:=qKl (l.getD k zE) dead&&(decide (k=0)||!decide ((l.getD k zE).No≤(l.getD (k - 1) zE).No))
def qiE (x:qn):Bool:=ve (qjY x.F x.qz) x.F.length&&(stB x.qz&&(decide (0 < x.F.length)||!decide (x.qz=zSt)))
def lbB (a b:Vector UInt8 16):Bool:=!decide (a=b)&&decide (Go.Lib.compareBytes a.toList b.toList < 0)
def qiK (l:List qn) (k:Nat):Bool:=qiE (l.getD k zL)&&(decide (k=0)||lbB (l.getD (k - 1) zL).ID (l.getD k zL).ID)
def qiN (m:qg):Bool:=ve (qiK m.L) m.L.length&&decide (m.L.length≤10)
theorem qUJ {a b:Bool}:(bif a then some b else some false)=some (a&&b):=by cases a<;>rfl
theorem qQt {n:Int} (h:n≤200) (h0:0≤n):qcW n=some (blk n):=by
 unfold qcW qe6 blk
 by_cases h1:n < 24
 ·simp only [Tree.run,decide_eq_true h1,cond_true,if_pos h1]
 ·have e:n.tdiv 8≤n:=by rw [Int.tdiv_eq_ediv_of_nonneg h0]; omega
  have e0:0≤n.tdiv 8:=by rw [Int.tdiv_eq_ediv_of_nonneg h0]; omega
  have h64:qp (n.tdiv 8):=by unfold qp; omega
  simp only [Tree.run,decide_eq_false h1,cond_false,if_neg h1,qi h64]
  exact qi (by decide)
section n
variable {N:Nat} [Jj N]
theorem qSv (e:qm) (dead:qc):qep N e dead=some (qKl e dead):=by
 unfold qep qgx qKl
 simp only [Tree.run]
 by_cases h1:0≤e.No
 ·rw [decide_eq_true h1]
  by_cases h2:e.No < 8
  ·rw [decide_eq_true h2]
   by_cases h3:0≤e.Len
   ·rw [decide_eq_true h3]
    by_cases h4:e.Len≤200
    ·rw [decide_eq_true h4,qQt h4 h3]
     simp only [cond_true,Option.bind_some,qnB,W6,Bool.true_and]
     cases decide (((e.B.length:Nat):Int)=blk e.Len) with
     | false=>rfl
     | true=>exact qUJ
    ·rw [decide_eq_false h4]; rfl
   ·rw [decide_eq_false h3]; rfl
  ·rw [decide_eq_false h2]; rfl
 ·rw [decide_eq_false h1]; rfl
theorem qjI {k:Nat} (h:0 < k):(k:Int) - 1=((k - 1:Nat):Int):=by omega
theorem qsL {k:Nat}:decide ((0:Int) < (k:Int))=!decide (k=0):=by
 by_cases h:k=0
 ·subst h; rfl
 ·rw [decide_eq_false h,decide_eq_true (by omega)]; rfl
theorem qVo {x : qn} (h : x.F.length ≤ 600) :
  qgC N x x.F ((x.F.length:Nat):Int) 0=some (if ve (qjY x.F x.qz) x.F.length then .inr (((x.F.length:Nat):Int),false) else .inl ()):=by
 refine VC (B:=Kc N x x.F ((x.F.length:Nat):Int)) (g:=some) (q:=qjY x.F x.qz) (fun k hk=>?_) ?_ (by have:=big N; omega)
 ·unfold Kc
  have h64:qp ((k + 1:Nat):Int):=qza (by omega)
  simp only [Tree.run,dec_lt hk,cond_true,zo (d:=zE) hk,Option.bind_some,qT,qi h64,qSv,qsL]
  unfold qjY
  cases qKl (x.F.getD k zE) x.qz with
  | false=>rfl
  | true=>
   by_cases h0:k=0
   ·subst h0; rfl
   ·have hp:qp ((k - 1:Nat):Int):=by unfold qp; omega
    have hk1:k - 1 < x.F.length:=by omega
    simp only [decide_eq_false h0,Bool.not_true,Bool.not_false,cond_true,cond_false,qi hp,qjI (Nat.pos_of_ne_zero h0),zo (d:=zE) hk1,Option.bind_some,Bool.false_or,Bool.true_and]
    cases decide ((x.F.getD k zE).No≤(x.F.getD (k - 1) zE).No)<;>rfl
 ·unfold Kc
  simp only [Tree.run,zi (Nat.lt_irrefl _),cond_false]
theorem qVB {x:qn} (h:x.F.length≤600):qgm N x=some (qiE x):=by
 unfold qgm qhZ qiE
 simp only [Tree.run,qVo h,Option.bind_some]
 cases ve (qjY x.F x.qz) x.F.length with
 | false=>rfl
 | true=>
  simp only [reduceIte,Tree.run,qnB,Option.bind_some,qsL,qa5,Bool.true_and]
  have e:eqE qh x.qz (qc.mk 0 0)=decide (x.qz=zSt):=qa5 x.qz (qc.mk 0 0)
  have e2:decide (0 < x.F.length)=!decide (x.F.length=0):=by
   by_cases h:x.F.length=0
   ·rw [decide_eq_true h,decide_eq_false (by omega)]; rfl
   ·rw [decide_eq_false h,decide_eq_true (by omega)]; rfl
  cases stB x.qz with
  | false=>rfl
  | true=>
   rw [e2]
   cases decide (x.F.length=0)<;>rfl
theorem qI4 (a b:Vector UInt8 16):qkI a b=some (lbB a b):=by
 unfold qkI qq7 qbC qh1 qRo lbB
 simp only [Tree.run,Option.bind_some,quw]
 cases decide (a=b)<;>rfl
theorem qWr {m : qg} (h : m.L.length ≤ 600) (hF : ∀ k, k < m.L.length → (m.L.getD k zL).F.length ≤ 600) :
  qiR N m m.L ((m.L.length:Nat):Int) 0=some (if ve (qiK m.L) m.L.length then .inr (((m.L.length:Nat):Int),false) else .inl ()):=by
 refine VC (B:=KM N m m.L ((m.L.length:Nat):Int)) (g:=some) (q:=qiK m.L) (fun k hk=>?_) ?_ (by have:=big N; omega)
 ·unfold KM
  have h64:qp ((k + 1:Nat):Int):=qza (by omega)
  simp only [Tree.run,dec_lt hk,cond_true,zo (d:=zL) hk,Option.bind_some,qT,qi h64,qVB (hF k hk),qsL]
  unfold qiK
  cases qiE (m.L.getD k zL) with
  | false=>rfl
  | true=>
   by_cases h0:k=0
   ·subst h0; rfl
   ·have hp:qp ((k - 1:Nat):Int):=by unfold qp; omega
    have hk1:k - 1 < m.L.length:=by omega
    simp only [decide_eq_false h0,Bool.not_true,Bool.not_false,cond_true,cond_false,qi hp,qjI (Nat.pos_of_ne_zero h0),zo (d:=zL) hk1,Option.bind_some,Bool.false_or,Bool.true_and,qI4]
    cases lbB (m.L.getD (k - 1) zL).ID (m.L.getD k zL).ID<;>rfl
 ·unfold KM
  simp only [Tree.run,zi (Nat.lt_irrefl _),cond_false]
theorem qQx {m:qg} (h:m.L.length≤600) (hF:∀ k,k < m.L.length→(m.L.getD k zL).F.length≤600):qhL N m=some (qiN m):=by
 unfold qhL qjG qiN
 simp only [Tree.run,qWr h hF,Option.bind_some]
 cases ve (qiK m.L) m.L.length with
 | false=>rfl
 | true=>
  simp only [reduceIte,Tree.run,Bool.true_and]
  congr 1
  rw [decide_eq_decide]; omega
end n
theorem qTL {m:qg}:qiN m=true↔(∀ k,k < m.L.length→qiE (m.L.getD k zL)=true∧(k=0∨lbB (m.L.getD (k - 1) zL).ID (m.L.getD k zL).ID=true))∧m.L.length≤10:=by
 unfold qiN
 rw [Bool.and_eq_true,decide_eq_true_iff,Vi]
 refine and_congr (forall_congr' fun k=>imp_congr_right fun _=>?_) Iff.rfl
 show (qiE (m.L.getD k zL)&&(decide (k=0)||lbB (m.L.getD (k - 1) zL).ID (m.L.getD k zL).ID))=true↔_
 rw [Bool.and_eq_true,Bool.or_eq_true,decide_eq_true_iff]
theorem Kz (a:Vector UInt8 16):lbB a a=false:=by unfold lbB; rw [decide_eq_true rfl]; rfl
theorem qPU {x:qn}:qiE x=true↔(∀ k,k < x.F.length→qjY x.F x.qz k=true)∧stB x.qz=true∧(0 < x.F.length∨x.qz≠zSt):=by
 unfold qiE
 rw [Bool.and_eq_true,Bool.and_eq_true,Bool.or_eq_true,Vi,decide_eq_true_iff,Bool.not_eq_true',decide_eq_false_iff_not]
end Go.Rx
end
set_option maxRecDepth 100000
noncomputable section
namespace Go.Rx
abbrev c32 (x:UInt32):Int:=((x.toNat:Nat):Int)
theorem qI3 (x:UInt32):x.toNat < 4294967296:=x.toNat_lt
theorem qdH (n:Nat):IntKind.u32.wrap ((n:Nat):Int)=((n % 4294967296:Nat):Int):=by rw [IntKind.wrap_u32']; omega
theorem qhn (x:UInt32):BitVec.ofInt 32 (c32 x)=x.toBitVec:=by
 apply BitVec.eq_of_toNat_eq
 rw [ofInt_u32 _ (qI3 x)]
 rfl
theorem qCs (x:UInt32):IntKind.u32.wrap ((x.toNat:Nat):Int)=c32 x:=by rw [qdH,Nat.mod_eq_of_lt (qI3 x)]
theorem Yu (x y:UInt32):vg .u32 (c32 x) (c32 y)=c32 (x + y):=by
 unfold vg
 show IntKind.u32.wrap (((x.toNat:Nat):Int) + ((y.toNat:Nat):Int))=_
 rw [← Int.natCast_add,qdH,c32,UInt32.toNat_add]
theorem qgf (x y:UInt32):V4 .u32 (c32 x) (c32 y)=c32 (x ^^^ y):=by
 unfold V4
 rw [show IntKind.u32.bits=32 from rfl,qhn,qhn]
 exact qCs (x ^^^ y)
theorem qt5 (x y:UInt32):Km .u32 (c32 x) (c32 y)=c32 (x &&& y):=by
 unfold Km
 rw [show IntKind.u32.bits=32 from rfl,qhn,qhn]
 exact qCs (x &&& y)
theorem qB9 (x y:UInt32):uOr .u32 (c32 x) (c32 y)=c32 (x ||| y):=by
 unfold uOr
 rw [show IntKind.u32.bits=32 from rfl,qhn,qhn]
 exact qCs (x ||| y)
theorem qWD (x:UInt32):V4 .u32 4294967295 (c32 x)=c32 (~~~x):=by
 have h:(4294967295:Int)=c32 4294967295:=rfl
 rw [h,qgf]
 congr 2
theorem qUs (x:UInt32):qq8 .u32 4294967295 (c32 x)=c32 (~~~x):=by
 unfold qq8
 have h:=qI3 x
 show IntKind.u32.wrap ((4294967295:Int) - ((x.toNat:Nat):Int))=_
 rw [show (4294967295:Int) - ((x.toNat:Nat):Int)=((4294967295 - x.toNat:Nat):Int) by omega,qdH,Nat.mod_eq_of_lt (by omega),c32]
 congr 1
 rw [UInt32.toNat_not]
 rfl
theorem qC6 (x:UInt32) (n:Nat) (h:n < 32):qBl .u32 (c32 x) n=c32 (x <<< UInt32.ofNat n):=by
 unfold qBl
 rw [show c32 x * 2 ^ n=((x.toNat * 2 ^ n:Nat):Int) by push_cast; rfl,qdH,c32,UInt32.toNat_shiftLeft,UInt32.toNat_ofNat_of_lt' (show n < UInt32.size by unfold UInt32.size; omega),Nat.mod_eq_of_lt h,Nat.shiftLeft_eq]
theorem qtT (x:UInt32) (n:Nat) (h:n < 32):Jn (c32 x) n=c32 (x >>> UInt32.ofNat n):=by
 unfold Jn
 rw [show ((2:Int) ^ n)=((2 ^ n:Nat):Int) by push_cast; rfl,Int.fdiv_eq_ediv_of_nonneg _ (Int.natCast_nonneg _),c32,← Int.natCast_ediv,c32,UInt32.toNat_shiftRight,UInt32.toNat_ofNat_of_lt' (show n < UInt32.size by unfold UInt32.size; omega),Nat.mod_eq_of_lt h,Nat.shiftRight_eq_div_pow]
theorem qH2 (x:UInt32):inW (c32 x):=⟨Int.natCast_nonneg _,by have:=qI3 x; show ((x.toNat:Nat):Int) < _; omega⟩
def rot (x:UInt32) (n:Nat):UInt32:=(x <<< UInt32.ofNat (32 - n)) ||| (x >>> UInt32.ofNat n)
end Go.Rx
end
