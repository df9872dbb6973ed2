/- A part of the proof of OpDoes: the law returns true for every input, and its arguments read as before. No condition. -/
import Derived.Laws.BitsAllLaws
import Derived.Test.YtigkkdoljkhcfaaGreatOpDoesF
set_option linter.unusedSimpArgs false
set_option linter.unusedVariables false
set_option linter.unusedSectionVars false
set_option maxRecDepth 100000
noncomputable section
namespace Go.Rx
open Go.Proofs
def qwj:List UInt8:=[0,1,2,2,3,3,3,3,4,4,4,4,4,4,4,4,5,5,5,5,5,5,5,5,5,5,5,5,5,5,5,5,6,6,6,6,6,6,6,6,6,6,6,6,6,6,6,6,6,6,6,6,6,6,6,6,6,6,6,6,6,6,6,6,7,7,7,7,7,7,7,7,7,7,7,7,7,7,7,7,7,7,7,7,7,7,7,7,7,7,7,7,7,7,7,7,7,7,7,7,7,7,7,7,7,7,7,7,7,7,7,7,7,7,7,7,7,7,7,7,7,7,7,7,7,7,7,7,8,8,8,8,8,8,8,8,8,8,8,8,8,8,8,8,8,8,8,8,8,8,8,8,8,8,8,8,8,8,8,8,8,8,8,8,8,8,8,8,8,8,8,8,8,8,8,8,8,8,8,8,8,8,8,8,8,8,8,8,8,8,8,8,8,8,8,8,8,8,8,8,8,8,8,8,8,8,8,8,8,8,8,8,8,8,8,8,8,8,8,8,8,8,8,8,8,8,8,8,8,8,8,8,8,8,8,8,8,8,8,8,8,8,8,8,8,8,8,8,8,8,8,8,8,8,8,8]
noncomputable def qy7:Code:=Tryz.f64.body.getD .skip
theorem qRI:FnF Tryz.prog 64 Tryz.f64 qy7:=⟨qk,by kernel_rfl,by kernel_rfl,by kernel_rfl⟩
def qc9:TH:={ live:=[(0,[1]),(1,[1,7]),(2,[2]),(3,[1,3]),(4,[1,3,12]),(5,[1,3]),(6,[1,3,23]),(7,[2]),(8,[2])] }
def qiT (N:Nat):List Ent:=[]
theorem qg1 (N:Nat):qO Tryz.prog (qiT N):=trivial
abbrev XF:=qa
abbrev QR:=Unit⊕(Int×Bool)
def Jm (f:XF):QR→Ex×TSt
 | .inl y=>(.ret,⟨0,24,[],[(2,.bc false)],[],false,[]⟩)
 | .inr y=>(.exit 0,⟨0,24,[],[(1,.p 10 [] 0),(3,xi y.1),(12,xb y.2)],[(10,.cell false (.tv qh f))],false,[]⟩)
def qqz (N:Nat):List (Nat×qy):=[]
abbrev JI:=Int
def qgB:SP:=⟨0,24,[],[(1,.k (.p 10 [] 0)),(3,.x (.i .i64))],[(10,.cell false (.x qh))],false,[]⟩
def qqH (f:XF) (v:JI):TSt:=zw qgB [dv qh f,dv (.i .i64) v]
def Xv (N:Nat) (o_4:qa) (v:JI):Tree (JI⊕QR):=
 .cond (decide (v < (((qa.F o_4).length:Nat):Int))) (
 .bind (qP (qa.F o_4) v) fun e1=>
 .cond (decide (((300:Int)) < (((qf.V (qg.C e1)).length:Nat):Int))) (
 .ret (.inr (.inl ()))) <|
 .chk (qj (v + 1)) <|
 .ret (.inl (v + 1))) <|
 .ret (.inr (.inr ((v,decide (v < (((qa.F o_4).length:Nat):Int))))))
def qfV (N n:Nat) (f:XF) (v:JI):Option QR:=qQ (Xv N f) some n v
theorem qpE (N:Nat) (f:XF) (n:Nat) (v:JI) (y:QR) (h:qfV N n f v=some y):LG Tryz.prog qc9 64 (qL qy7 4) (qqH f v) (Jm f y):=
 zl qk (E:=qiT N) (L:=qI (qqz N)) (st:=Jm f) (g:=some) (R:=Jm f) (qg1 N) (qq (by kernel_rfl) trivial) (rg0 (by kernel_rfl)) (fun v=>by kernel_rfl) (qU (st:=Jm f) fun y=>by rcases y with _ | _<;>rfl) (js0 rfl) n v y h
def qbA (N:Nat) (o_4:qa) (s3_4:Int):Option QR:=qfV N N o_4 s3_4
def qfX (N:Nat):qy:=smL qgB [qh,(.i .i64)] QR (fun x=>qbA N x.1 x.2.1) (csS cs1) fun x=>Jm x.1
theorem qoN (N:Nat):ji Tryz.prog qc9 64 (qL qy7 4) (qfX N):=zu fun x z h=>qpE N x.1 N x.2.1 z h
def qu2 (z:Bool):TV×THp:=(xb z,[])
def qcX (N:Nat) (a0:qa):Tree (Bool):=
 .cond (decide (((12:Int)) < (((qa.F a0).length:Nat):Int))) (
 .ret false) <|
 .bind (qbA N a0 0) fun z1=>
 .sum z1 (fun z2=>
 .ret false) fun z2=>
 .ret true
def Jj (N:Nat) (a0:qa):Option (Bool):=(qcX N a0).run some
def qvO (N:Nat):List (Nat×qy):=[(4,qfX N)]
def qiX (N:Nat):Ent:=smF ⟨64,[],[.x qh],[],[]⟩ [qh] (Bool) (fun x=>Jj N x.1) cs1 fun _=>qu2
theorem qt4 (N:Nat):q_ Tryz.prog (qiX N):=
 q8 (H:=qc9) (L:=qI (qvO N)) (ts:=[qh]) (T:=fun x=>qcX N x.1) 0 qRI (qg1 N) (qq (by kernel_rfl) ⟨qoN N,trivial⟩) (rg0 (by kernel_rfl)) fun x=>by kernel_rfl
noncomputable def qz0:Code:=Tryz.f23.body.getD .skip
theorem qSH:FnF Tryz.prog 23 Tryz.f23 qz0:=⟨qk,by kernel_rfl,by kernel_rfl,by kernel_rfl⟩
def qdi:TH:={ live:=[(0,[1]),(1,[1,8]),(2,[2]),(3,[1,3]),(4,[1,3,13]),(5,[1,3]),(6,[1,3,4]),(7,[1,3,23]),(8,[2]),(9,[2])] }
def qjv (N:Nat):List Ent:=[qiX N]
theorem qhw (N:Nat):qO Tryz.prog (qjv N):=⟨qt4 N,trivial⟩
abbrev XR:=qc
abbrev QS:=Unit⊕(Int×Bool)
def Ju (f:XR):QS→Ex×TSt
 | .inl y=>(.ret,⟨0,24,[],[(2,.bc false)],[],false,[]⟩)
 | .inr y=>(.exit 0,⟨0,24,[],[(1,.p 10 [] 0),(3,xi y.1),(13,xb y.2)],[(10,.cell false (.tv qn f))],false,[]⟩)
def qqA (N:Nat):List (Nat×qy):=[]
abbrev JL:=Int
def qgc:SP:=⟨0,24,[],[(1,.k (.p 10 [] 0)),(3,.x (.i .i64))],[(10,.cell false (.x qn))],false,[]⟩
def qpG (f:XR) (v:JL):TSt:=zw qgc [dv qn f,dv (.i .i64) v]
def XC (N:Nat) (o_4:qc) (v:JL):Tree (JL⊕QS):=
 .cond (decide (v < (((qc.R o_4).length:Nat):Int))) (
 .bind (qP (qc.R o_4) v) fun e1=>
 .bind (Jj N e1) fun r2=>
 .cond (!r2) (
 .ret (.inr (.inl ()))) <|
 .chk (qj (v + 1)) <|
 .ret (.inl (v + 1))) <|
 .ret (.inr (.inr ((v,decide (v < (((qc.R o_4).length:Nat):Int))))))
def qf3 (N n:Nat) (f:XR) (v:JL):Option QS:=qQ (XC N f) some n v
theorem qqJ (N:Nat) (f:XR) (n:Nat) (v:JL) (y:QS) (h:qf3 N n f v=some y):LG Tryz.prog qdi 23 (qL qz0 4) (qpG f v) (Ju f y):=
 zl qk (E:=qjv N) (L:=qI (qqA N)) (st:=Ju f) (g:=some) (R:=Ju f) (qhw N) (qq (by kernel_rfl) trivial) (rg0 (by kernel_rfl)) (fun v=>by kernel_rfl) (qU (st:=Ju f) fun y=>by rcases y with _ | _<;>rfl) (js0 rfl) n v y h
def qbL (N:Nat) (o_4:qc) (s3_4:Int):Option QS:=qf3 N N o_4 s3_4
def qgx (N:Nat):qy:=smL qgc [qn,(.i .i64)] QS (fun x=>qbL N x.1 x.2.1) (csS cs1) fun x=>Ju x.1
theorem qoM (N:Nat):ji Tryz.prog qdi 23 (qL qz0 4) (qgx N):=zu fun x z h=>qqJ N x.1 N x.2.1 z h
def qwy (z:Bool):TV×THp:=(xb z,[])
def qcY (N:Nat) (a0:qc):Tree (Bool):=
 .cond (decide (((14:Int)) < (((qc.R a0).length:Nat):Int))) (
 .ret false) <|
 .bind (qbL N a0 0) fun z1=>
 .sum z1 (fun z2=>
 .ret false) fun z2=>
 .ret true
def qaE (N:Nat) (a0:qc):Option (Bool):=(qcY N a0).run some
def qwB (N:Nat):List (Nat×qy):=[(4,qgx N)]
def qjt (N:Nat):Ent:=smF ⟨23,[],[.x qn],[],[]⟩ [qn] (Bool) (fun x=>qaE N x.1) cs1 fun _=>qwy
theorem qtf (N:Nat):q_ Tryz.prog (qjt N):=
 q8 (H:=qdi) (L:=qI (qwB N)) (ts:=[qn]) (T:=fun x=>qcY N x.1) 0 qSH (qhw N) (qq (by kernel_rfl) ⟨qoM N,trivial⟩) (rg0 (by kernel_rfl)) fun x=>by kernel_rfl
noncomputable def qy8:Code:=Tryz.f12.body.getD .skip
theorem qTf:FnF Tryz.prog 12 Tryz.f12 qy8:=⟨qk,by kernel_rfl,by kernel_rfl,by kernel_rfl⟩
def qcF:TH:={ live:=[(0,[1]),(1,[1,13]),(2,[2]),(3,[1,3]),(4,[1,3,18]),(5,[1,3]),(6,[1,3,28]),(7,[2]),(8,[2])],dec:=[8] }
def qiY (N:Nat):List Ent:=[]
theorem qha (N:Nat):qO Tryz.prog (qiY N):=trivial
abbrev XH:=qd
abbrev QP:=Unit⊕(Int×Bool)
def JA (f:XH):QP→Ex×TSt
 | .inl y=>(.ret,⟨0,29,[],[(2,.bc false)],[],false,[]⟩)
 | .inr y=>(.exit 0,⟨0,29,[],[(1,.p 10 [] 0),(3,xi y.1),(18,xb y.2)],[(10,.cell false (.tv zk f))],false,[]⟩)
def qqx (N:Nat):List (Nat×qy):=[]
abbrev JK:=Int
def qgE:SP:=⟨0,29,[],[(1,.k (.p 10 [] 0)),(3,.x (.i .i64))],[(10,.cell false (.x zk))],false,[]⟩
def qqf (f:XH) (v:JK):TSt:=zw qgE [dv zk f,dv (.i .i64) v]
def XQ (N:Nat) (o_4:qd) (v:JK):Tree (JK⊕QP):=
 .cond (decide (v < (((qd.P o_4).length:Nat):Int))) (
 .bind (qP (qd.P o_4) v) fun e1=>
 .cond (decide (((300:Int)) < (((qb.Lit e1).length:Nat):Int))) (
 .ret (.inr (.inl ()))) <|
 .chk (qj (v + 1)) <|
 .ret (.inl (v + 1))) <|
 .ret (.inr (.inr ((v,decide (v < (((qd.P o_4).length:Nat):Int))))))
def qgl (N n:Nat) (f:XH) (v:JK):Option QP:=qQ (XQ N f) some n v
theorem qqm (N:Nat) (f:XH) (n:Nat) (v:JK) (y:QP) (h:qgl N n f v=some y):LG Tryz.prog qcF 12 (qL qy8 4) (qqf f v) (JA f y):=
 zl qk (E:=qiY N) (L:=qI (qqx N)) (st:=JA f) (g:=some) (R:=JA f) (qha N) (qq (by kernel_rfl) trivial) (rg0 (by kernel_rfl)) (fun v=>by kernel_rfl) (qU (st:=JA f) fun y=>by rcases y with _ | _<;>rfl) (js0 rfl) n v y h
def qbq (N:Nat) (o_4:qd) (s3_4:Int):Option QP:=qgl N N o_4 s3_4
def qf0 (N:Nat):qy:=smL qgE [zk,(.i .i64)] QP (fun x=>qbq N x.1 x.2.1) (csS cs1) fun x=>JA x.1
theorem qom (N:Nat):ji Tryz.prog qcF 12 (qL qy8 4) (qf0 N):=zu fun x z h=>qqm N x.1 N x.2.1 z h
def qv7 (z:Bool):TV×THp:=(xb z,[])
def Xm (N:Nat) (a0:qd):Tree (Bool):=
 .cond (decide (((80:Int)) < (((qd.P a0).length:Nat):Int))) (
 .ret false) <|
 .cond (decide (((300:Int)) < (((qd.V a0).length:Nat):Int))) (
 .ret false) <|
 .bind (qbq N a0 0) fun z1=>
 .sum z1 (fun z2=>
 .ret false) fun z2=>
 .ret true
def VM (N:Nat) (a0:qd):Option (Bool):=(Xm N a0).run some
def qvm (N:Nat):List (Nat×qy):=[(4,qf0 N)]
def qiU (N:Nat):Ent:=smF ⟨12,[],[.x zk],[],[]⟩ [zk] (Bool) (fun x=>VM N x.1) cs1 fun _=>qv7
theorem qtp (N:Nat):q_ Tryz.prog (qiU N):=
 q8 (H:=qcF) (L:=qI (qvm N)) (ts:=[zk]) (T:=fun x=>Xm N x.1) 0 qTf (qha N) (qq (by kernel_rfl) ⟨qom N,trivial⟩) (rg0 (by kernel_rfl)) fun x=>by kernel_rfl
noncomputable def qQO:Code:=Tryz.f60.body.getD .skip
theorem qTs:FnF Tryz.prog 60 Tryz.f60 qQO:=⟨qk,by kernel_rfl,by kernel_rfl,by kernel_rfl⟩
def qJM:TH:={ live:=[(0,[1]),(1,[2])],dec:=[6,10,15,20] }
def qJ5 (N:Nat):List Ent:=[]
theorem qEY (N:Nat):qO Tryz.prog (qJ5 N):=trivial
def qJX (z:Bool):TV×THp:=(xb z,[])
def qo_ (a0:qe):Tree (Bool):=
 .cond (eqE qm a0 (qe.mk 0 0)) (
 .ret true) <|
 .cond (decide (((0:Int)) < (qe.N a0))) (
 .cond (decide ((qe.N a0)≤((1099511627776:Int)))) (
 .cond (decide (((0:Int))≤(qe.Rep a0))) (
 .ret (decide ((qe.Rep a0) < ((8:Int))))) <|
 .ret false) <|
 .ret false) <|
 .ret false
def qcA (a0:qe):Option (Bool):=(qo_ a0).run some
def qI9:List (Nat×qy):=[]
def qep:Ent:=smF ⟨60,[],[.x qm],[],[]⟩ [qm] (Bool) (fun x=>qcA x.1) cs1 fun _=>qJX
theorem qgL:q_ Tryz.prog (qep):=
 q8 (H:=qJM) (L:=qI (qI9)) (ts:=[qm]) (T:=fun x=>qo_ x.1) 0 qTs (qEY 0) (qq (by kernel_rfl) trivial) (rg0 (by kernel_rfl)) fun x=>by kernel_rfl
noncomputable def qPp:Code:=Tryz.f108.body.getD .skip
theorem qNJ:FnF Tryz.prog 108 Tryz.f108 qPp:=⟨qk,by kernel_rfl,by kernel_rfl,by kernel_rfl⟩
def qLN:TH:={ live:=[(0,[1]),(1,[2])],dec:=[7,12] }
def qLC (N:Nat):List Ent:=[qep]
theorem qGZ (N:Nat):qO Tryz.prog (qLC N):=⟨qgL,trivial⟩
def qMi (z:Bool):TV×THp:=(xb z,[])
def qrO (a0:qf):Tree (Bool):=
 .cond (!(eqE qm (qf.S a0) (qe.mk 0 0))) (
 .bind (qcA (qf.S a0)) fun r1=>
 .cond r1 (
 .ret (decide ((((qf.V a0).length:Nat):Int)≤((200:Int))))) <|
 .ret false) <|
 .ret false
def qfD (a0:qf):Option (Bool):=(qrO a0).run some
def qLi:List (Nat×qy):=[]
def qBy:Ent:=smF ⟨108,[],[.x qt],[],[]⟩ [qt] (Bool) (fun x=>qfD x.1) cs1 fun _=>qMi
theorem qJl:q_ Tryz.prog (qBy):=
 q8 (H:=qLN) (L:=qI (qLi)) (ts:=[qt]) (T:=fun x=>qrO x.1) 0 qNJ (qGZ 0) (qq (by kernel_rfl) trivial) (rg0 (by kernel_rfl)) fun x=>by kernel_rfl
noncomputable def qOl:Code:=Tryz.f143.body.getD .skip
theorem qPg:FnF Tryz.prog 143 Tryz.f143 qOl:=⟨qk,by kernel_rfl,by kernel_rfl,by kernel_rfl⟩
def qBF:TH:={ live:=[(0,[0]),(1,[2])] }
def qBA (N:Nat):List Ent:=[]
theorem qxK (N:Nat):qO Tryz.prog (qBA N):=trivial
def qCA (a0:Int) (z:Unit):TV×THp:=(xb (!decide (a0=a0)),[])
def qhf (a0:Int):Tree (Unit):=
 .ret ()
def qfo (a0:Int):Option (Unit):=(qhf a0).run some
def qBR:List (Nat×qy):=[]
def qns:Ent:=smF ⟨143,[],[.x (.i .i64)],[],[]⟩ [(.i .i64)] (Unit) (fun x=>qfo x.1) cs1 fun x=>qCA x.1
theorem qAf:q_ Tryz.prog (qns):=
 q8 (H:=qBF) (L:=qI (qBR)) (ts:=[(.i .i64)]) (T:=fun x=>qhf x.1) 0 qPg (qxK 0) (qq (by kernel_rfl) trivial) (rg0 (by kernel_rfl)) fun x=>by kernel_rfl
noncomputable def qOR:Code:=Tryz.f127.body.getD .skip
theorem qPu:FnF Tryz.prog 127 Tryz.f127 qOR:=⟨qk,by kernel_rfl,by kernel_rfl,by kernel_rfl⟩
def qxM:TH:={ live:=[(0,[0,1]),(1,[0,1,5]),(2,[0,1,5,6]),(3,[0,1,6,11]),(4,[12]),(5,[4]),(6,[4]),(7,[0,1,13]),(8,[4]),(9,[0,1,16]),(10,[4]),(11,[19]),(12,[4]),(13,[4])] }
def qx9 (N:Nat):List Ent:=[qns]
theorem qtg (N:Nat):qO Tryz.prog (qx9 N):=⟨qAf,trivial⟩
def qyc (z:Int):TV×THp:=(xi z,[])
def qed (a0:Int) (a1:Int):Tree (Int):=
 .bind (qfo a0) fun r1=>
 .bind (qfo a1) fun r2=>
 .cond (!decide (a0=a0)) (
 .cond (!decide (a1=a1)) (
 .ret 0) <|
 .ret (-1)) <|
 .cond (!decide (a1=a1)) (
 .ret 1) <|
 .cond (decide (a0 < a1)) (
 .ret (-1)) <|
 .cond (decide (a1 < a0)) (
 .ret 1) <|
 .ret 0
def Yf (a0:Int) (a1:Int):Option (Int):=(qed a0 a1).run some
def qyb:List (Nat×qy):=[]
def qke:Ent:=smF ⟨127,[],[.x (.i .i64),.x (.i .i64)],[],[]⟩ [(.i .i64),(.i .i64)] (Int) (fun x=>Yf x.1 x.2.1) cs1 fun _=>qyc
theorem qu0:q_ Tryz.prog (qke):=
 q8 (H:=qxM) (L:=qI (qyb)) (ts:=[(.i .i64),(.i .i64)]) (T:=fun x=>qed x.1 x.2.1) 0 qPu (qtg 0) (qq (by kernel_rfl) trivial) (rg0 (by kernel_rfl)) fun x=>by kernel_rfl
noncomputable def quf:Code:=Tryz.f126.body.getD .skip
theorem qPK:FnF Tryz.prog 126 Tryz.f126 quf:=⟨qk,by kernel_rfl,by kernel_rfl,by kernel_rfl⟩
def qma:TH:={ live:=[(0,[0]),(1,[0,3]),(2,[3,6,7,8]),(3,[3,6,7,8,9]),(4,[3,5,6,7,8]),(5,[3,5,6,7,8,14]),(6,[2]),(7,[3,6,7,8]),(8,[2])] }
def quQ (N:Nat):List Ent:=[]
theorem qp4 (N:Nat):qO Tryz.prog (quQ N):=trivial
abbrev qb4:=List Int×Int
abbrev XB:=Int⊕(Int×Bool)
def Yi (f:qb4):XB→Ex×TSt
 | .inl y=>(.ret,⟨0,18,[],[(2,xi y)],[],false,[]⟩)
 | .inr y=>(.exit 0,⟨0,18,[],[(3,.ic .i64 0),(6,.tv (.sl 1 (.i .i64)) f.1),(7,xi f.2),(8,xi y.1),(9,xb y.2)],[],false,[]⟩)
def qA0 (N:Nat):List (Nat×qy):=[]
abbrev Yr:=Int
def qmZ:SP:=⟨0,18,[],[(3,.k (.ic .i64 0)),(6,.x (.sl 1 (.i .i64))),(7,.x (.i .i64)),(8,.x (.i .i64))],[],false,[]⟩
def qAA (f:qb4) (v:Yr):TSt:=zw qmZ [dv (.sl 1 (.i .i64)) f.1,dv (.i .i64) f.2,dv (.i .i64) v]
def JZ (N:Nat) (s6_3:List Int) (s7_3:Int) (v:Yr):Tree (Yr⊕XB):=
 .cond (decide (v < s7_3)) (
 .bind (qP s6_3 v) fun e1=>
 .cond (!decide (e1=((0:Int)))) (
 .ret (.inr (.inl e1))) <|
 .chk (qj (v + 1)) <|
 .ret (.inl (v + 1))) <|
 .ret (.inr (.inr ((v,decide (v < s7_3)))))
def qmX (N n:Nat) (f:qb4) (v:Yr):Option XB:=qQ (JZ N f.1 f.2) some n v
theorem qA_ (N:Nat) (f:qb4) (n:Nat) (v:Yr) (y:XB) (h:qmX N n f v=some y):LG Tryz.prog qma 126 (qL quf 3) (qAA f v) (Yi f y):=
 zl qk (E:=quQ N) (L:=qI (qA0 N)) (st:=Yi f) (g:=some) (R:=Yi f) (qp4 N) (qq (by kernel_rfl) trivial) (rg0 (by kernel_rfl)) (fun v=>by kernel_rfl) (qU (st:=Yi f) fun y=>by rcases y with _ | _<;>rfl) (js0 rfl) n v y h
def qjO (N:Nat) (s6_3:List Int) (s7_3:Int) (s8_3:Int):Option XB:=qmX N N (s6_3,s7_3) s8_3
def qm2 (N:Nat):qy:=smL qmZ [(.sl 1 (.i .i64)),(.i .i64),(.i .i64)] XB (fun x=>qjO N x.1 x.2.1 x.2.2.1) (csS cs1) fun x=>Yi (x.1,x.2.1)
theorem qyX (N:Nat):ji Tryz.prog qma 126 (qL quf 3) (qm2 N):=zu fun x z h=>qA_ N (x.1,x.2.1) N x.2.2.1 z h
def qHp (z:Int):TV×THp:=(xi z,[])
def qmb (N:Nat) (a0:List Int):Tree (Int):=
 .bind (qjO N a0 ((a0.length:Nat):Int) 0) fun z1=>
 .sum z1 (fun z2=>
 .ret z2) fun z2=>
 .ret 0
def qhb (N:Nat) (a0:List Int):Option (Int):=(qmb N a0).run some
def qGi (N:Nat):List (Nat×qy):=[(3,qm2 N)]
def qwg (N:Nat):Ent:=smF ⟨126,[],[.x (.sl 1 (.i .i64))],[],[]⟩ [(.sl 1 (.i .i64))] (Int) (fun x=>qhb N x.1) cs1 fun _=>qHp
theorem qET (N:Nat):q_ Tryz.prog (qwg N):=
 q8 (H:=qma) (L:=qI (qGi N)) (ts:=[(.sl 1 (.i .i64))]) (T:=fun x=>qmb N x.1) 0 qPK (qp4 N) (qq (by kernel_rfl) ⟨qyX N,trivial⟩) (rg0 (by kernel_rfl)) fun x=>by kernel_rfl
noncomputable def qPH:Code:=Tryz.f109.body.getD .skip
theorem qNZ:FnF Tryz.prog 109 Tryz.f109 qPH:=⟨qk,by kernel_rfl,by kernel_rfl,by kernel_rfl⟩
def qHo:TH:={ live:=[(0,[2,3]),(1,[4])],dec:=[8] }
def qHx (N:Nat):List Ent:=[qke,qwg N]
theorem qDv (N:Nat):qO Tryz.prog (qHx N):=⟨qu0,qET N,trivial⟩
def qIs (z:Bool):TV×THp:=(xb z,[])
def qlX (N:Nat) (a0:qe) (a1:qe):Tree (Bool):=
 .cond (!(eqE qm a0 a1)) (
 .bind (Yf (qe.N a0) (qe.N a1)) fun r1=>
 .bind (Yf (qe.Rep a0) (qe.Rep a1)) fun r2=>
 .bind (qhb N [r1,r2]) fun r3=>
 .ret (decide (r3 < ((0:Int))))) <|
 .ret false
def J7 (N:Nat) (a0:qe) (a1:qe):Option (Bool):=(qlX N a0 a1).run some
def qIr (N:Nat):List (Nat×qy):=[]
def qcU (N:Nat):Ent:=smF ⟨109,[],[.x qm,.x qm],[],[]⟩ [qm,qm] (Bool) (fun x=>J7 N x.1 x.2.1) cs1 fun _=>qIs
theorem qfk (N:Nat):q_ Tryz.prog (qcU N):=
 q8 (H:=qHo) (L:=qI (qIr N)) (ts:=[qm,qm]) (T:=fun x=>qlX N x.1 x.2.1) 0 qNZ (qDv N) (qq (by kernel_rfl) trivial) (rg0 (by kernel_rfl)) fun x=>by kernel_rfl
noncomputable def qze:Code:=Tryz.f79.body.getD .skip
theorem qSs:FnF Tryz.prog 79 Tryz.f79 qze:=⟨qk,by kernel_rfl,by kernel_rfl,by kernel_rfl⟩
def qu6:TH:={ live:=[(0,[1]),(1,[1,21]),(2,[2]),(3,[1,23,24,25]),(4,[1,23,24,25,26]),(5,[1,3,4,23,24,25]),(6,[1,4,5,23,24,25]),(7,[1,23,24,25,74]),(8,[2]),(9,[1,23,24,25]),(10,[2])],dec:=[10,15,32,37,40,55,60,66] }
def qDU (N:Nat):List Ent:=[qep,qBy,qcU N]
theorem qys (N:Nat):qO Tryz.prog (qDU N):=⟨qgL,qJl,qfk N,trivial⟩
abbrev qhA:=qa×List qg×Int
abbrev Kv:=Unit⊕(Int×Bool)
def qc6 (f:qhA):Kv→Ex×TSt
 | .inl y=>(.ret,⟨0,76,[],[(2,.bc false)],[],false,[]⟩)
 | .inr y=>(.exit 0,⟨0,76,[],[(1,.p 10 [] 0),(23,.tv (.sl 4 qA) f.2.1),(24,xi f.2.2),(25,xi y.1),(26,xb y.2)],[(10,.cell false (.tv qh f.1))],false,[]⟩)
def qIF (N:Nat):List (Nat×qy):=[]
abbrev qde:=Int
def quS:SP:=⟨0,76,[],[(1,.k (.p 10 [] 0)),(23,.x (.sl 4 qA)),(24,.x (.i .i64)),(25,.x (.i .i64))],[(10,.cell false (.x qh))],false,[]⟩
def qH1 (f:qhA) (v:qde):TSt:=zw quS [dv qh f.1,dv (.sl 4 qA) f.2.1,dv (.i .i64) f.2.2,dv (.i .i64) v]
def qhm (N:Nat) (o_4:qa) (s23_4:List qg) (s24_4:Int) (v:qde):Tree (qde⊕Kv):=
 .cond (decide (v < s24_4)) (
 .bind (qP s23_4 v) fun e1=>
 .cond (decide (v=((0:Int)))) (
 .cond (decide (((0:Int))≤(qg.No e1))) (
 .cond (decide (((8:Int))≤(qg.No e1))) (
 .ret (.inr (.inl ()))) <|
 .bind (qfD (qg.C e1)) fun r2=>
 .cond (!r2) (
 .ret (.inr (.inl ()))) <|
 .bind (J7 N (qa.qW o_4) (qf.S (qg.C e1))) fun r3=>
 .cond (!r3) (
 .ret (.inr (.inl ()))) <|
 .chk (qj (v + 1)) <|
 .ret (.inl (v + 1))) <|
 .cond (decide (((0:Int)) < v)) (
 .chk (qj (v - 1)) <|
 .bind (qP (qa.F o_4) (v - 1)) fun e2=>
 .cond (!(decide ((qg.No e2) < (qg.No e1)))) (
 .ret (.inr (.inl ()))) <|
 .cond (decide (((8:Int))≤(qg.No e1))) (
 .ret (.inr (.inl ()))) <|
 .bind (qfD (qg.C e1)) fun r3=>
 .cond (!r3) (
 .ret (.inr (.inl ()))) <|
 .bind (J7 N (qa.qW o_4) (qf.S (qg.C e1))) fun r4=>
 .cond (!r4) (
 .ret (.inr (.inl ()))) <|
 .chk (qj (v + 1)) <|
 .ret (.inl (v + 1))) <|
 .ret (.inr (.inl ()))) <|
 .cond (decide (((0:Int)) < v)) (
 .chk (qj (v - 1)) <|
 .bind (qP (qa.F o_4) (v - 1)) fun e2=>
 .cond (!(decide ((qg.No e2) < (qg.No e1)))) (
 .ret (.inr (.inl ()))) <|
 .cond (decide (((8:Int))≤(qg.No e1))) (
 .ret (.inr (.inl ()))) <|
 .bind (qfD (qg.C e1)) fun r3=>
 .cond (!r3) (
 .ret (.inr (.inl ()))) <|
 .bind (J7 N (qa.qW o_4) (qf.S (qg.C e1))) fun r4=>
 .cond (!r4) (
 .ret (.inr (.inl ()))) <|
 .chk (qj (v + 1)) <|
 .ret (.inl (v + 1))) <|
 .ret (.inr (.inl ()))) <|
 .ret (.inr (.inr ((v,decide (v < s24_4)))))
def qwE (N n:Nat) (f:qhA) (v:qde):Option Kv:=qQ (qhm N f.1 f.2.1 f.2.2) some n v
theorem qHE (N:Nat) (f:qhA) (n:Nat) (v:qde) (y:Kv) (h:qwE N n f v=some y):LG Tryz.prog qu6 79 (qL qze 4) (qH1 f v) (qc6 f y):=
 zl qk (E:=qDU N) (L:=qI (qIF N)) (st:=qc6 f) (g:=some) (R:=qc6 f) (qys N) (qq (by kernel_rfl) trivial) (rg0 (by kernel_rfl)) (fun v=>by kernel_rfl) (qU (st:=qc6 f) fun y=>by rcases y with _ | _<;>rfl) (js0 rfl) n v y h
def qkR (N:Nat) (o_4:qa) (s23_4:List qg) (s24_4:Int) (s25_4:Int):Option Kv:=qwE N N (o_4,s23_4,s24_4) s25_4
def quP (N:Nat):qy:=smL quS [qh,(.sl 4 qA),(.i .i64),(.i .i64)] Kv (fun x=>qkR N x.1 x.2.1 x.2.2.1 x.2.2.2.1) (csS cs1) fun x=>qc6 (x.1,x.2.1,x.2.2.1)
theorem qFg (N:Nat):ji Tryz.prog qu6 79 (qL qze 4) (quP N):=zu fun x z h=>qHE N (x.1,x.2.1,x.2.2.1) N x.2.2.2.1 z h
def qQr (z:Bool):TV×THp:=(xb z,[])
def quA (N:Nat) (a0:qa):Tree (Bool):=
 .bind (qcA (qa.qW a0)) fun r1=>
 .cond (!r1) (
 .ret false) <|
 .cond (decide ((((qa.F a0).length:Nat):Int)=((0:Int)))) (
 .cond (eqE qm (qa.qW a0) (qe.mk 0 0)) (
 .ret false) <|
 .bind (qkR N a0 (qa.F a0) (((qa.F a0).length:Nat):Int) 0) fun z2=>
 .sum z2 (fun z3=>
 .ret false) fun z3=>
 .ret true) <|
 .bind (qkR N a0 (qa.F a0) (((qa.F a0).length:Nat):Int) 0) fun z2=>
 .sum z2 (fun z3=>
 .ret false) fun z3=>
 .ret true
def qiu (N:Nat) (a0:qa):Option (Bool):=(quA N a0).run some
def qPM (N:Nat):List (Nat×qy):=[(4,quP N)]
def qnk (N:Nat):Ent:=smF ⟨79,[],[.x qh],[],[]⟩ [qh] (Bool) (fun x=>qiu N x.1) cs1 fun _=>qQr
theorem qrC (N:Nat):q_ Tryz.prog (qnk N):=
 q8 (H:=qu6) (L:=qI (qPM N)) (ts:=[qh]) (T:=fun x=>quA N x.1) 0 qSs (qys N) (qq (by kernel_rfl) ⟨qFg N,trivial⟩) (rg0 (by kernel_rfl)) fun x=>by kernel_rfl
noncomputable def qPo:Code:=Tryz.f110.body.getD .skip
theorem qPY:FnF Tryz.prog 110 Tryz.f110 qPo:=⟨qk,by kernel_rfl,by kernel_rfl,by kernel_rfl⟩
def qCe:TH:={ live:=[(0,[0,1]),(1,[4])] }
def qBi (N:Nat):List Ent:=[qBw]
theorem qx3 (N:Nat):qO Tryz.prog (qBi N):=⟨qKw,trivial⟩
def qBd (z:Int):TV×THp:=(xi z,[])
def qhv (a0:List UInt8) (a1:List UInt8):Tree (Int):=
 .bind (qR2 a0 a1) fun r1=>
 .ret r1
def qaU (a0:List UInt8) (a1:List UInt8):Option (Int):=(qhv a0 a1).run some
def qBk:List (Nat×qy):=[]
def qb8:Ent:=smF ⟨110,[],[.x .bl,.x .bl],[],[]⟩ [.bl,.bl] (Int) (fun x=>qaU x.1 x.2.1) cs1 fun _=>qBd
theorem qfF:q_ Tryz.prog (qb8):=
 q8 (H:=qCe) (L:=qI (qBk)) (ts:=[.bl,.bl]) (T:=fun x=>qhv x.1 x.2.1) 0 qPY (qx3 0) (qq (by kernel_rfl) trivial) (rg0 (by kernel_rfl)) fun x=>by kernel_rfl
noncomputable def qRe:Code:=Tryz.f80.body.getD .skip
theorem qQF:FnF Tryz.prog 80 Tryz.f80 qRe:=⟨qk,by kernel_rfl,by kernel_rfl,by kernel_rfl⟩
def qJK:TH:={ live:=[(0,[2,3]),(1,[4])],dec:=[8] }
def qI0 (N:Nat):List Ent:=[qb8]
theorem qE1 (N:Nat):qO Tryz.prog (qI0 N):=⟨qfF,trivial⟩
def qKd (z:Bool):TV×THp:=(xb z,[])
def qn1 (a0:Vector UInt8 16) (a1:Vector UInt8 16):Tree (Bool):=
 .cond (!(eqE (.ba 16) a0 a1)) (
 .bind (qaU a0.toList a1.toList) fun r1=>
 .ret (decide (r1 < ((0:Int))))) <|
 .ret false
def qnr (a0:Vector UInt8 16) (a1:Vector UInt8 16):Option (Bool):=(qn1 a0 a1).run some
def qI6:List (Nat×qy):=[]
def qyz:Ent:=smF ⟨80,[],[.x (.ba 16),.x (.ba 16)],[],[]⟩ [(.ba 16),(.ba 16)] (Bool) (fun x=>qnr x.1 x.2.1) cs1 fun _=>qKd
theorem qIx:q_ Tryz.prog (qyz):=
 q8 (H:=qJK) (L:=qI (qI6)) (ts:=[(.ba 16),(.ba 16)]) (T:=fun x=>qn1 x.1 x.2.1) 0 qQF (qE1 0) (qq (by kernel_rfl) trivial) (rg0 (by kernel_rfl)) fun x=>by kernel_rfl
noncomputable def qAj:Code:=Tryz.f30.body.getD .skip
theorem qRl:FnF Tryz.prog 30 Tryz.f30 qAj:=⟨qk,by kernel_rfl,by kernel_rfl,by kernel_rfl⟩
def qrm:TH:={ live:=[(0,[1]),(1,[1,6,7,8]),(2,[1,6,7,8,9]),(3,[1,3,4,6,7,8]),(4,[1,6,7,8,32]),(5,[2]),(6,[1,6,7,8]),(7,[2])],dec:=[16,19] }
def qB6 (N:Nat):List Ent:=[qnk N,qyz]
theorem qws (N:Nat):qO Tryz.prog (qB6 N):=⟨qrC N,qIx,trivial⟩
abbrev qft:=qc×List qa×Int
abbrev W6:=Unit⊕(Int×Bool)
def qaS (f:qft):W6→Ex×TSt
 | .inl y=>(.ret,⟨0,38,[],[(2,.bc false)],[],false,[]⟩)
 | .inr y=>(.exit 0,⟨0,38,[],[(1,.p 10 [] 0),(6,.tv (.sl 19 qh) f.2.1),(7,xi f.2.2),(8,xi y.1),(9,xb y.2)],[(10,.cell false (.tv qn f.1))],false,[]⟩)
def qFC (N:Nat):List (Nat×qy):=[]
abbrev qaX:=Int
def qsZ:SP:=⟨0,38,[],[(1,.k (.p 10 [] 0)),(6,.x (.sl 19 qh)),(7,.x (.i .i64)),(8,.x (.i .i64))],[(10,.cell false (.x qn))],false,[]⟩
def qFs (f:qft) (v:qaX):TSt:=zw qsZ [dv qn f.1,dv (.sl 19 qh) f.2.1,dv (.i .i64) f.2.2,dv (.i .i64) v]
def qfr (N:Nat) (o_2:qc) (s6_2:List qa) (s7_2:Int) (v:qaX):Tree (qaX⊕W6):=
 .cond (decide (v < s7_2)) (
 .bind (qP s6_2 v) fun e1=>
 .bind (qiu N e1) fun r2=>
 .cond (!r2) (
 .ret (.inr (.inl ()))) <|
 .cond (decide (((0:Int)) < v)) (
 .chk (qj (v - 1)) <|
 .bind (qP (qc.R o_2) (v - 1)) fun e3=>
 .bind (qnr (qa.ID e3) (qa.ID e1)) fun r4=>
 .cond (!r4) (
 .ret (.inr (.inl ()))) <|
 .chk (qj (v + 1)) <|
 .ret (.inl (v + 1))) <|
 .chk (qj (v + 1)) <|
 .ret (.inl (v + 1))) <|
 .ret (.inr (.inr ((v,decide (v < s7_2)))))
def qs3 (N n:Nat) (f:qft) (v:qaX):Option W6:=qQ (qfr N f.1 f.2.1 f.2.2) some n v
theorem qEO (N:Nat) (f:qft) (n:Nat) (v:qaX) (y:W6) (h:qs3 N n f v=some y):LG Tryz.prog qrm 30 (qL qAj 2) (qFs f v) (qaS f y):=
 zl qk (E:=qB6 N) (L:=qI (qFC N)) (st:=qaS f) (g:=some) (R:=qaS f) (qws N) (qq (by kernel_rfl) trivial) (rg0 (by kernel_rfl)) (fun v=>by kernel_rfl) (qU (st:=qaS f) fun y=>by rcases y with _ | _<;>rfl) (js0 rfl) n v y h
def qor (N:Nat) (o_2:qc) (s6_2:List qa) (s7_2:Int) (s8_2:Int):Option W6:=qs3 N N (o_2,s6_2,s7_2) s8_2
def qsQ (N:Nat):qy:=smL qsZ [qn,(.sl 19 qh),(.i .i64),(.i .i64)] W6 (fun x=>qor N x.1 x.2.1 x.2.2.1 x.2.2.2.1) (csS cs1) fun x=>qaS (x.1,x.2.1,x.2.2.1)
theorem qC6 (N:Nat):ji Tryz.prog qrm 30 (qL qAj 2) (qsQ N):=zu fun x z h=>qEO N (x.1,x.2.1,x.2.2.1) N x.2.2.2.1 z h
def qLG (z:Bool):TV×THp:=(xb z,[])
def qsd (N:Nat) (a0:qc):Tree (Bool):=
 .bind (qor N a0 (qc.R a0) (((qc.R a0).length:Nat):Int) 0) fun z1=>
 .sum z1 (fun z2=>
 .ret false) fun z2=>
 .ret (decide ((((qc.R a0).length:Nat):Int)≤((10:Int))))
def qcy (N:Nat) (a0:qc):Option (Bool):=(qsd N a0).run some
def qLh (N:Nat):List (Nat×qy):=[(2,qsQ N)]
def qkP (N:Nat):Ent:=smF ⟨30,[],[.x qn],[],[]⟩ [qn] (Bool) (fun x=>qcy N x.1) cs1 fun _=>qLG
theorem qnG (N:Nat):q_ Tryz.prog (qkP N):=
 q8 (H:=qrm) (L:=qI (qLh N)) (ts:=[qn]) (T:=fun x=>qsd N x.1) 0 qRl (qws N) (qq (by kernel_rfl) ⟨qC6 N,trivial⟩) (rg0 (by kernel_rfl)) fun x=>by kernel_rfl
noncomputable def qSj:Code:=Tryz.f59.body.getD .skip
theorem qQ1:FnF Tryz.prog 59 Tryz.f59 qSj:=⟨qk,by kernel_rfl,by kernel_rfl,by kernel_rfl⟩
def qPO:TH:={ live:=[(0,[1,2]),(1,[1,2,3]),(2,[1,2,3,12]),(3,[1,2,3,12,13]),(4,[2,3]),(5,[1,2,3,12,21]),(6,[2,3]),(7,[1,2,3,35]),(8,[2,3]),(9,[2])] }
def qPd (N:Nat):List Ent:=[]
theorem qJ7 (N:Nat):qO Tryz.prog (qPd N):=trivial
def qNP (z:qd):TV×THp:=(.tv zk z,[])
def qvx (a0:qd):Tree (qd):=
 .cond (decide ((qd.Kind a0)=((1:Int)))) (
 .ret (qd.mk (qd.Kind a0) (qd.ID a0) (qd.S a0) (qd.No a0) (qd.V a0) [] ((Vector.replicate 16 0)) 0 ((Vector.replicate 32 0)))) <|
 .cond (decide ((qd.Kind a0)=((2:Int)))) (
 .ret (qd.mk (qd.Kind a0) (qd.ID a0) (qd.S a0) (qd.No a0) [] [] (qd.zm a0) (qd.jV a0) (qd.D a0))) <|
 .cond (decide ((qd.Kind a0)=((3:Int)))) (
 .ret (qd.mk (qd.Kind a0) (qd.ID a0) (qd.S a0) (qd.No a0) [] (qd.P a0) ((Vector.replicate 16 0)) 0 (qd.D a0))) <|
 .ret (qd.mk (qd.Kind a0) (qd.ID a0) (qd.S a0) 0 [] [] ((Vector.replicate 16 0)) 0 ((Vector.replicate 32 0)))
def qw0 (a0:qd):Option (qd):=(qvx a0).run some
def qO2:List (Nat×qy):=[]
def qEl:Ent:=smF ⟨59,[],[.x zk],[],[]⟩ [zk] (qd) (fun x=>qw0 x.1) cs1 fun _=>qNP
theorem qMW:q_ Tryz.prog (qEl):=
 q8 (H:=qPO) (L:=qI (qO2)) (ts:=[zk]) (T:=fun x=>qvx x.1) 0 qQ1 (qJ7 0) (qq (by kernel_rfl) trivial) (rg0 (by kernel_rfl)) fun x=>by kernel_rfl
noncomputable def qzs:Code:=Tryz.f91.body.getD .skip
theorem qRh:FnF Tryz.prog 91 Tryz.f91 qzs:=⟨qk,by kernel_rfl,by kernel_rfl,by kernel_rfl⟩
def K8:TH:={ live:=[(0,[0,1]),(1,[0,1,10]),(2,[4]),(3,[0,1,12,13]),(4,[0,1,12,13,14]),(5,[0,1,5,12,13]),(6,[0,1,12,13,24]),(7,[4]),(8,[0,1,12,13]),(9,[4])] }
def qgO (N:Nat):List Ent:=[]
theorem qe5 (N:Nat):qO Tryz.prog (qgO N):=trivial
abbrev Vm:=List qb×List qb×Int
abbrev vQ:=Unit⊕(Int×Bool)
def Q9 (f:Vm):vQ→Ex×TSt
 | .inl y=>(.ret,⟨0,26,[],[(4,.bc false)],[],false,[]⟩)
 | .inr y=>(.exit 0,⟨0,26,[],[(0,.tv (.sl 4 qw) f.1),(1,.tv (.sl 4 qw) f.2.1),(12,xi f.2.2),(13,xi y.1),(14,xb y.2)],[],false,[]⟩)
def qmL (N:Nat):List (Nat×qy):=[]
abbrev Zl:=Int
def qd2:SP:=⟨0,26,[],[(0,.x (.sl 4 qw)),(1,.x (.sl 4 qw)),(12,.x (.i .i64)),(13,.x (.i .i64))],[],false,[]⟩
def qmG (f:Vm) (v:Zl):TSt:=zw qd2 [dv (.sl 4 qw) f.1,dv (.sl 4 qw) f.2.1,dv (.i .i64) f.2.2,dv (.i .i64) v]
def Vl (N:Nat) (s0_4:List qb) (s1_4:List qb) (s12_4:Int) (v:Zl):Tree (Zl⊕vQ):=
 .cond (decide (v < s12_4)) (
 .bind (qP s0_4 v) fun e1=>
 .bind (qP s1_4 v) fun e2=>
 .cond (!(eqE qw e1 e2)) (
 .ret (.inr (.inl ()))) <|
 .chk (qj (v + 1)) <|
 .ret (.inl (v + 1))) <|
 .ret (.inr (.inr ((v,decide (v < s12_4)))))
def qdM (N n:Nat) (f:Vm) (v:Zl):Option vQ:=qQ (Vl N f.1 f.2.1 f.2.2) some n v
theorem qmN (N:Nat) (f:Vm) (n:Nat) (v:Zl) (y:vQ) (h:qdM N n f v=some y):LG Tryz.prog K8 91 (qL qzs 4) (qmG f v) (Q9 f y):=
 zl qk (E:=qgO N) (L:=qI (qmL N)) (st:=Q9 f) (g:=some) (R:=Q9 f) (qe5 N) (qq (by kernel_rfl) trivial) (rg0 (by kernel_rfl)) (fun v=>by kernel_rfl) (qU (st:=Q9 f) fun y=>by rcases y with _ | _<;>rfl) (js0 rfl) n v y h
def Kz (N:Nat) (s0_4:List qb) (s1_4:List qb) (s12_4:Int) (s13_4:Int):Option vQ:=qdM N N (s0_4,s1_4,s12_4) s13_4
def qdS (N:Nat):qy:=smL qd2 [(.sl 4 qw),(.sl 4 qw),(.i .i64),(.i .i64)] vQ (fun x=>Kz N x.1 x.2.1 x.2.2.1 x.2.2.2.1) (csS cs1) fun x=>Q9 (x.1,x.2.1,x.2.2.1)
theorem qlK (N:Nat):ji Tryz.prog K8 91 (qL qzs 4) (qdS N):=zu fun x z h=>qmN N (x.1,x.2.1,x.2.2.1) N x.2.2.2.1 z h
def qsz (z:Bool):TV×THp:=(xb z,[])
def qaH (N:Nat) (a0:List qb) (a1:List qb):Tree (Bool):=
 .cond (!decide (((a0.length:Nat):Int)=((a1.length:Nat):Int))) (
 .ret false) <|
 .bind (Kz N a0 a1 ((a0.length:Nat):Int) 0) fun z1=>
 .sum z1 (fun z2=>
 .ret false) fun z2=>
 .ret true
def Ym (N:Nat) (a0:List qb) (a1:List qb):Option (Bool):=(qaH N a0 a1).run some
def qsx (N:Nat):List (Nat×qy):=[(4,qdS N)]
def qhj (N:Nat):Ent:=smF ⟨91,[],[.x (.sl 4 qw),.x (.sl 4 qw)],[],[]⟩ [(.sl 4 qw),(.sl 4 qw)] (Bool) (fun x=>Ym N x.1 x.2.1) cs1 fun _=>qsz
theorem qqn (N:Nat):q_ Tryz.prog (qhj N):=
 q8 (H:=K8) (L:=qI (qsx N)) (ts:=[(.sl 4 qw),(.sl 4 qw)]) (T:=fun x=>qaH N x.1 x.2.1) 0 qRh (qe5 N) (qq (by kernel_rfl) ⟨qlK N,trivial⟩) (rg0 (by kernel_rfl)) fun x=>by kernel_rfl
noncomputable def qRN:Code:=Tryz.f63.body.getD .skip
theorem qSm:FnF Tryz.prog 63 Tryz.f63 qRN:=⟨qk,by kernel_rfl,by kernel_rfl,by kernel_rfl⟩
def qHG:TH:={ live:=[(0,[0,1]),(1,[4])] }
def qIo (N:Nat):List Ent:=[qhj N]
theorem qDa (N:Nat):qO Tryz.prog (qIo N):=⟨qqn N,trivial⟩
def qGs (z:Bool):TV×THp:=(xb z,[])
def qlE (N:Nat) (a0:List qb) (a1:List qb):Tree (Bool):=
 .bind (Ym N a0 a1) fun r1=>
 .ret r1
def qkQ (N:Nat) (a0:List qb) (a1:List qb):Option (Bool):=(qlE N a0 a1).run some
def qHl (N:Nat):List (Nat×qy):=[]
def qvN (N:Nat):Ent:=smF ⟨63,[],[.x (.sl 4 qw),.x (.sl 4 qw)],[],[]⟩ [(.sl 4 qw),(.sl 4 qw)] (Bool) (fun x=>qkQ N x.1 x.2.1) cs1 fun _=>qGs
theorem qEZ (N:Nat):q_ Tryz.prog (qvN N):=
 q8 (H:=qHG) (L:=qI (qHl N)) (ts:=[(.sl 4 qw),(.sl 4 qw)]) (T:=fun x=>qlE N x.1 x.2.1) 0 qSm (qDa N) (qq (by kernel_rfl) trivial) (rg0 (by kernel_rfl)) fun x=>by kernel_rfl
noncomputable def qSE:Code:=Tryz.f20.body.getD .skip
theorem qRU:FnF Tryz.prog 20 Tryz.f20 qSE:=⟨qk,by kernel_rfl,by kernel_rfl,by kernel_rfl⟩
def qQn:TH:={ live:=[(0,[2,3]),(1,[2,3,5]),(2,[4])],dec:=[11,18,25,33,40,47,54,61] }
def qQb (N:Nat):List Ent:=[qvN N]
theorem qI2 (N:Nat):qO Tryz.prog (qQb N):=⟨qEZ N,trivial⟩
def qOd (z:Bool):TV×THp:=(xb z,[])
def qur (N:Nat) (a0:qd) (a1:qd):Tree (Bool):=
 .cond (eqE (.ba 16) (qd.ID a0) (qd.ID a1)) (
 .cond (eqE (.ba 16) (qd.zm a0) (qd.zm a1)) (
 .cond (decide ((qd.No a0)=(qd.No a1))) (
 .cond (decide ((qd.jV a0)=(qd.jV a1))) (
 .cond (decide ((qd.Kind a0)=(qd.Kind a1))) (
 .cond (eqE qm (qd.S a0) (qd.S a1)) (
 .cond (decide ((qd.V a0)=(qd.V a1))) (
 .cond (eqE (.ba 32) (qd.D a0) (qd.D a1)) (
 .bind (qkQ N (qd.P a0) (qd.P a1)) fun r1=>
 .ret r1) <|
 .ret false) <|
 .ret false) <|
 .ret false) <|
 .ret false) <|
 .ret false) <|
 .ret false) <|
 .ret false) <|
 .ret false
def qxd (N:Nat) (a0:qd) (a1:qd):Option (Bool):=(qur N a0 a1).run some
def qPc (N:Nat):List (Nat×qy):=[]
def qEp (N:Nat):Ent:=smF ⟨20,[],[.x zk,.x zk],[],[]⟩ [zk,zk] (Bool) (fun x=>qxd N x.1 x.2.1) cs1 fun _=>qOd
theorem qM9 (N:Nat):q_ Tryz.prog (qEp N):=
 q8 (H:=qQn) (L:=qI (qPc N)) (ts:=[zk,zk]) (T:=fun x=>qur N x.1 x.2.1) 0 qRU (qI2 N) (qq (by kernel_rfl) trivial) (rg0 (by kernel_rfl)) fun x=>by kernel_rfl
noncomputable def qQS:Code:=Tryz.f61.body.getD .skip
theorem qRK:FnF Tryz.prog 61 Tryz.f61 qQS:=⟨qk,by kernel_rfl,by kernel_rfl,by kernel_rfl⟩
def qJw:TH:={ live:=[(0,[0]),(1,[2])],dec:=[5] }
def qJB (N:Nat):List Ent:=[]
theorem qEU (N:Nat):qO Tryz.prog (qJB N):=trivial
def qJY (z:Bool):TV×THp:=(xb z,[])
def qnN (a0:Int):Tree (Bool):=
 .cond (decide (((0:Int))≤a0)) (
 .ret (decide (a0 < ((8:Int))))) <|
 .ret false
def qi5 (a0:Int):Option (Bool):=(qnN a0).run some
def qJb:List (Nat×qy):=[]
def qyx:Ent:=smF ⟨61,[],[.x (.i .i64)],[],[]⟩ [(.i .i64)] (Bool) (fun x=>qi5 x.1) cs1 fun _=>qJY
theorem qIw:q_ Tryz.prog (qyx):=
 q8 (H:=qJw) (L:=qI (qJb)) (ts:=[(.i .i64)]) (T:=fun x=>qnN x.1) 0 qRK (qEU 0) (qq (by kernel_rfl) trivial) (rg0 (by kernel_rfl)) fun x=>by kernel_rfl
noncomputable def qSc:Code:=Tryz.f19.body.getD .skip
theorem qRV:FnF Tryz.prog 19 Tryz.f19 qSc:=⟨qk,by kernel_rfl,by kernel_rfl,by kernel_rfl⟩
def qSF:TH:={ live:=[(0,[1]),(1,[1,23]),(2,[2]),(3,[2])],dec:=[6,11,18,27,32,37,43] }
def qSL (N:Nat):List Ent:=[qEl,qEp N,qep,qyx,qyI N]
theorem qMH (N:Nat):qO Tryz.prog (qSL N):=⟨qMW,qM9 N,qgL,qIw,qGe N,trivial⟩
def qQM (z:Bool):TV×THp:=(xb z,[])
def qAy (N:Nat) (a0:qd):Tree (Bool):=
 .cond (decide ((qd.Kind a0) < ((0:Int)))) (
 .ret false) <|
 .cond (decide (((4:Int))≤(qd.Kind a0))) (
 .ret false) <|
 .bind (qw0 a0) fun r1=>
 .bind (qxd N a0 r1) fun r2=>
 .cond (!r2) (
 .ret false) <|
 .cond (eqE qm (qd.S a0) (qe.mk 0 0)) (
 .ret false) <|
 .bind (qcA (qd.S a0)) fun r3=>
 .cond r3 (
 .bind (qi5 (qd.No a0)) fun r4=>
 .cond r4 (
 .bind (qi5 (qd.jV a0)) fun r5=>
 .cond r5 (
 .cond (decide ((((qd.V a0).length:Nat):Int)≤((200:Int)))) (
 .bind (Wp N (qd.P a0)) fun r6=>
 .ret r6) <|
 .ret false) <|
 .ret false) <|
 .ret false) <|
 .ret false
def qBK (N:Nat) (a0:qd):Option (Bool):=(qAy N a0).run some
def qS7 (N:Nat):List (Nat×qy):=[]
def qHz (N:Nat):Ent:=smF ⟨19,[],[.x zk],[],[]⟩ [zk] (Bool) (fun x=>qBK N x.1) cs1 fun _=>qQM
theorem qPf (N:Nat):q_ Tryz.prog (qHz N):=
 q8 (H:=qSF) (L:=qI (qS7 N)) (ts:=[zk]) (T:=fun x=>qAy N x.1) 0 qRV (qMH N) (qq (by kernel_rfl) trivial) (rg0 (by kernel_rfl)) fun x=>by kernel_rfl
noncomputable def qQY:Code:=Tryz.f95.body.getD .skip
theorem qQB:FnF Tryz.prog 95 Tryz.f95 qQY:=⟨qk,by kernel_rfl,by kernel_rfl,by kernel_rfl⟩
def qGd:TH:={ live:=[(0,[1]),(1,[2])],dec:=[7] }
def qGH (N:Nat):List Ent:=[]
theorem qDg (N:Nat):qO Tryz.prog (qGH N):=trivial
def qHm (z:Bool):TV×THp:=(xb z,[])
def qhe (a0:qa):Tree (Bool):=
 .cond (eqE qm (qa.qW a0) (qe.mk 0 0)) (
 .ret (decide ((((qa.F a0).length:Nat):Int)=((0:Int))))) <|
 .ret false
def K0 (a0:qa):Option (Bool):=(qhe a0).run some
def qHA:List (Nat×qy):=[]
def qv8:Ent:=smF ⟨95,[],[.x qh],[],[]⟩ [qh] (Bool) (fun x=>K0 x.1) cs1 fun _=>qHm
theorem qFB:q_ Tryz.prog (qv8):=
 q8 (H:=qGd) (L:=qI (qHA)) (ts:=[qh]) (T:=fun x=>qhe x.1) 0 qQB (qDg 0) (qq (by kernel_rfl) trivial) (rg0 (by kernel_rfl)) fun x=>by kernel_rfl
noncomputable def qN8:Code:=Tryz.f129.body.getD .skip
theorem qOf:FnF Tryz.prog 129 Tryz.f129 qN8:=⟨qk,by kernel_rfl,by kernel_rfl,by kernel_rfl⟩
def qx1:TH:={ live:=[(0,[0,1]),(1,[0,1,6]),(2,[0,1]),(3,[0,1]),(4,[0,1,16]),(5,[0]),(6,[4])],esc:=true,nil:=[(5,[⟨.sl 0,900001290,(.sl 19 qh)⟩])] }
def qx4 (N:Nat):List Ent:=[]
theorem qte (N:Nat):qO Tryz.prog (qx4 N):=trivial
def qxS:Unit⊕Unit→TV×THp
 | .inl z=>(.v 900001290 0,[(900001290,.vec false 19 (.sl 19 qh) ([]:List qa))])
 | .inr z=>(.nils,[])
def Y1 (a0:Int):Tree (Unit⊕Unit):=
 .cond (decide (a0 < ((0:Int)))) (
 .no) <|
 .chk (qj a0) <|
 .cond (decide (((0:Int)) < a0)) (
 .chk (0 < a0∧a0.toNat * 56≤zg) <|
 .ret (.inl ())) <|
 .ret (.inr ())
def XG (a0:Int):Option (Unit⊕Unit):=(Y1 a0).run some
def qxF:List (Nat×qy):=[]
def qki:Ent:=smF ⟨129,[],[.k .nils,.x (.i .i64)],[],[]⟩ [(.i .i64)] (Unit⊕Unit) (fun x=>XG x.1) (csS cs1) fun _=>qxS
theorem qvK:q_ Tryz.prog (qki):=
 q8 (H:=qx1) (L:=qI (qxF)) (ts:=[(.i .i64)]) (T:=fun x=>Y1 x.1) 0 qOf (qte 0) (qq (by kernel_rfl) trivial) (rg0 (by kernel_rfl)) fun x=>by kernel_rfl
noncomputable def qi3:Code:=Tryz.f112.body.getD .skip
theorem qQk:FnF Tryz.prog 112 Tryz.f112 qi3:=⟨qk,by kernel_rfl,by kernel_rfl,by kernel_rfl⟩
def VB:TH:={ live:=[(0,[0]),(1,[0,3]),(2,[0,3,9,10,11]),(3,[0,3,9,10,11,12]),(4,[0,3,5,9,10,11]),(5,[0,3,9,10,11]),(6,[0,3,9,10,11,20]),(7,[0,3,9,10,11]),(8,[0,3,9,10,11]),(9,[0,6]),(10,[6,25,26,27]),(11,[6,25,26,27,28]),(12,[6,8,25,26,27]),(13,[6,25,26,27]),(14,[6,25,26,27]),(15,[2])],raw:=[129],fresh:=[24],nil:=[(9,[⟨.sl 6,900001290,(.sl 19 qh)⟩])] }
def qbn (N:Nat):List Ent:=[qki]
theorem Kx (N:Nat):qO Tryz.prog (qbn N):=⟨qvK,trivial⟩
abbrev V_:=List (List qa)×List (List qa)×Int
abbrev Qe:=Int×Int×Bool
def ZY (f:V_) (y:Qe):Ex×TSt:=(.exit 0,⟨0,36,[],[(0,.tv (.sl 1 (.sl 19 qh)) f.1),(3,xi y.1),(9,.tv (.sl 1 (.sl 19 qh)) f.2.1),(10,xi f.2.2),(11,xi y.2.1),(12,xb y.2.2)],[],false,[]⟩)
def qoH (N:Nat):List (Nat×qy):=[]
abbrev Z0:=Int×Int
def qe3:SP:=⟨0,36,[],[(0,.x (.sl 1 (.sl 19 qh))),(3,.x (.i .i64)),(9,.x (.sl 1 (.sl 19 qh))),(10,.x (.i .i64)),(11,.x (.i .i64))],[],false,[]⟩
def qnM (f:V_) (v:Z0):TSt:=zw qe3 [dv (.sl 1 (.sl 19 qh)) f.1,dv (.i .i64) v.1,dv (.sl 1 (.sl 19 qh)) f.2.1,dv (.i .i64) f.2.2,dv (.i .i64) v.2]
def Xj (N:Nat) (s0_3:List (List qa)) (s9_3:List (List qa)) (s10_3:Int) (v:Z0):Tree (Z0⊕Qe):=
 .cond (decide (v.2 < s10_3)) (
 .bind (qP s9_3 v.2) fun e1=>
 .chk (qj (v.1 + ((e1.length:Nat):Int))) <|
 .cond (decide ((v.1 + ((e1.length:Nat):Int)) < 0)) (
 .no) <|
 .chk (qj (v.2 + 1)) <|
 .ret (.inl (v.1 + ((e1.length:Nat):Int),v.2 + 1))) <|
 .ret (.inr (v.1,v.2,decide (v.2 < s10_3)))
def qe2 (N n:Nat) (f:V_) (v:Z0):Option Qe:=qQ (Xj N f.1 f.2.1 f.2.2) some n v
theorem qoW (N:Nat) (f:V_) (n:Nat) (v:Z0) (y:Qe) (h:qe2 N n f v=some y):LG Tryz.prog VB 112 (qL qi3 3) (qnM f v) (ZY f y):=
 zl qk (E:=qbn N) (L:=qI (qoH N)) (st:=ZY f) (g:=some) (R:=ZY f) (Kx N) (qq (by kernel_rfl) trivial) (rg0 (by kernel_rfl)) (fun v=>by kernel_rfl) (qU (st:=ZY f) fun y=>by rfl) (js0 rfl) n v y h
def KS (N:Nat) (s0_3:List (List qa)) (s9_3:List (List qa)) (s10_3:Int) (s3_3:Int) (s11_3:Int):Option Qe:=qe2 N N (s0_3,s9_3,s10_3) (s3_3,s11_3)
def qej (N:Nat):qy:=smL qe3 [(.sl 1 (.sl 19 qh)),(.i .i64),(.sl 1 (.sl 19 qh)),(.i .i64),(.i .i64)] Qe (fun x=>KS N x.1 x.2.2.1 x.2.2.2.1 x.2.1 x.2.2.2.2.1) cs1 fun x=>ZY (x.1,x.2.2.1,x.2.2.2.1)
theorem qmt (N:Nat):ji Tryz.prog VB 112 (qL qi3 3) (qej N):=zu fun x z h=>qoW N (x.1,x.2.2.1,x.2.2.2.1) N (x.2.1,x.2.2.2.2.1) z h
abbrev Vn:=List (List qa)×Int
abbrev vS:=List qa×Int×Bool
def Za (f:Vn) (y:vS):Ex×TSt:=(.exit 2,⟨0,36,[],[(6,.v 900001290 y.1.length),(25,.tv (.sl 1 (.sl 19 qh)) f.1),(26,xi f.2),(27,xi y.2.1),(28,xb y.2.2)],[(900001290,.vec false 19 (.sl 19 qh) (y.1:List qa))],false,[]⟩)
def qmd (N:Nat):List (Nat×qy):=[]
abbrev Zi:=List qa×Int
def qd4:SP:=⟨0,36,[],[(6,.vs 900001290),(25,.x (.sl 1 (.sl 19 qh))),(26,.x (.i .i64)),(27,.x (.i .i64))],[(900001290,.vec false 19)],false,[]⟩
def qmJ (f:Vn) (v:Zi):TSt:=zw qd4 [dv (.sl 19 qh) v.1,dv (.sl 1 (.sl 19 qh)) f.1,dv (.i .i64) f.2,dv (.i .i64) v.2]
def Vr (N:Nat) (s25_11:List (List qa)) (s26_11:Int) (v:Zi):Tree (Zi⊕vS):=
 .cond (decide (v.2 < s26_11)) (
 .bind (qP s25_11 v.2) fun e1=>
 .chk (jx v.1.length v.1.length ((v.1++e1).length) 56) <|
 .chk (qj (v.2 + 1)) <|
 .ret (.inl (v.1++e1,v.2 + 1))) <|
 .ret (.inr (v.1,v.2,decide (v.2 < s26_11)))
def qd7 (N n:Nat) (f:Vn) (v:Zi):Option vS:=qQ (Vr N f.1 f.2) some n v
theorem qmP (N:Nat) (f:Vn) (n:Nat) (v:Zi) (y:vS) (h:qd7 N n f v=some y):LG Tryz.prog VB 112 (qL qi3 11) (qmJ f v) (Za f y):=
 zl qk (E:=qbn N) (L:=qI (qmd N)) (st:=Za f) (g:=some) (R:=Za f) (Kx N) (qq (by kernel_rfl) trivial) (rg0 (by kernel_rfl)) (fun v=>by kernel_rfl) (qU (st:=Za f) fun y=>by rfl) (js0 rfl) n v y h
def XS (N:Nat) (s25_11:List (List qa)) (s26_11:Int) (o_11:List qa) (s27_11:Int):Option vS:=qd7 N N (s25_11,s26_11) (o_11,s27_11)
def qdN (N:Nat):qy:=smL qd4 [(.sl 19 qh),(.sl 1 (.sl 19 qh)),(.i .i64),(.i .i64)] vS (fun x=>XS N x.2.1 x.2.2.1 x.1 x.2.2.2.1) cs1 fun x=>Za (x.2.1,x.2.2.1)
theorem qlT (N:Nat):ji Tryz.prog VB 112 (qL qi3 11) (qdN N):=zu fun x z h=>qmP N (x.2.1,x.2.2.1) N (x.1,x.2.2.2.1) z h
def qt9 (z:List qa):TV×THp:=(.tv (.sl 19 qh) z,[])
def qbD (N:Nat) (a0:List (List qa)):Tree (List qa):=
 .bind (KS N a0 a0 ((a0.length:Nat):Int) 0 0) fun z1=>
 .bind (XG z1.1) fun r2=>
 .sum r2 (fun r3=>
 .bind (ju [(([]:List qa).length,0)] (XS N a0 ((a0.length:Nat):Int) [] 0)) fun z4=>
 .chk (z4.1.length=z4.1.length) <|
 .ret z4.1) fun r3=>
 .bind (ju [(([]:List qa).length,0)] (XS N a0 ((a0.length:Nat):Int) [] 0)) fun z4=>
 .chk (z4.1.length=z4.1.length) <|
 .ret z4.1
def Y_ (N:Nat) (a0:List (List qa)):Option (List qa):=(qbD N a0).run some
def qti (N:Nat):List (Nat×qy):=[(3,qej N),(11,qdN N)]
def qh8 (N:Nat):Ent:=smF ⟨112,[],[.x (.sl 1 (.sl 19 qh))],[],[]⟩ [(.sl 1 (.sl 19 qh))] (List qa) (fun x=>Y_ N x.1) cs1 fun _=>qt9
theorem qr3 (N:Nat):q_ Tryz.prog (qh8 N):=
 q8 (H:=VB) (L:=qI (qti N)) (ts:=[(.sl 1 (.sl 19 qh))]) (T:=fun x=>qbD N x.1) 0 qQk (Kx N) (qq (by kernel_rfl) ⟨qmt N,qlT N,trivial⟩) (rg0 (by kernel_rfl)) fun x=>by kernel_rfl
noncomputable def qO5:Code:=Tryz.f103.body.getD .skip
theorem quk:FnF Tryz.prog 103 Tryz.f103 qO5:=⟨qk,by kernel_rfl,by kernel_rfl,by kernel_rfl⟩
def qrf:TH:={ live:=[(0,[0]),(1,[0,4]),(2,[2]),(3,[2])],vecs:=[5] }
def qrL (N:Nat):List Ent:=[]
theorem qn5 (N:Nat):qO Tryz.prog (qrL N):=trivial
def qhI (a0:List qg) (z:Unit):TV×THp:=(.tv (.sl 4 qA) ((([]:List qg))++a0:List qg),[])
def qao (a0:List qg):Tree (Unit):=
 .chk (List.isEmpty a0=false) <|
 .chk (jx ((([]:List qg)).length) 0 (((([]:List qg))++a0).length) 40) <|
 .chk (((([]:List qg))++a0).length=((([]:List qg))++a0).length) <|
 .ret ()
def qcL (a0:List qg):Option (Unit):=(qao a0).run some
def qq1:List (Nat×qy):=[]
theorem qoG:qiM Tryz.prog ⟨103,[],[.x (.sl 4 qA)],[],[]⟩ [(.sl 4 qA)] (fun x=>qao x.1) (fun x=>qhI x.1):=
 qen (H:=qrf) (L:=qI (qq1)) 0 quk (qn5 0) (qq (by kernel_rfl) trivial) (rg0 (by kernel_rfl)) fun x=>by kernel_rfl
def qox:TH:={ live:=[(0,[0]),(1,[0,4]),(2,[2]),(3,[2])],vecs:=[5] }
def qnU (N:Nat):List Ent:=[]
theorem qlZ (N:Nat):qO Tryz.prog (qnU N):=trivial
def qn2 (z:Unit):TV×THp:=(.tv (.sl 4 qA) ([]:List qg),[])
def qeR:Tree (Unit):=
 .chk (0=0) <|
 .chk (0=0) <|
 .ret ()
def qrD:Option (Unit):=(qeR).run some
def qoP:List (Nat×qy):=[]
theorem qlL:qiM Tryz.prog ⟨103,[],[.k (.es 0)],[],[]⟩ [] (fun x=>qeR) (fun _=>qn2):=
 qen (H:=qox) (L:=qI (qoP)) 0 quk (qlZ 0) (qq (by kernel_rfl) trivial) (rg0 (by kernel_rfl)) fun x=>by kernel_rfl
def qoT:TH:={ live:=[(0,[0]),(1,[0,4]),(2,[2]),(3,[2])],vecs:=[5] }
def qou (N:Nat):List Ent:=[]
theorem qlb (N:Nat):qO Tryz.prog (qou N):=trivial
def qnI (z:Unit):TV×THp:=(.tv (.sl 4 qA) ([]:List qg),[])
def qfi:Tree (Unit):=
 .ret ()
def qq3:Option (Unit):=(qfi).run some
def qo5:List (Nat×qy):=[]
theorem qlq:qiM Tryz.prog ⟨103,[],[.k (.es 1)],[],[]⟩ [] (fun x=>qfi) (fun _=>qnI):=
 qen (H:=qoT) (L:=qI (qo5)) 0 quk (qlb 0) (qq (by kernel_rfl) trivial) (rg0 (by kernel_rfl)) fun x=>by kernel_rfl
def qeZ (z:Unit):Unit:=()
def qo6 (z:Unit):Unit:=()
def Zx (a0:List qg):Option (Unit):=
 bif a0.isEmpty then
  (qrD).bind fun z0=>(qq3).bind fun z1=>chk (qeZ z0=qo6 z1) (some (qeZ z0))
 else qcL a0
def qgy:Ent:=smF ⟨103,[],[.x (.sl 4 qA)],[],[]⟩ [(.sl 4 qA)] (Unit) (fun x=>Zx x.1) cs1 fun x=>qhI x.1
theorem qoa:q_ Tryz.prog (qgy):=qiZ fun x z h l=>by
 obtain ⟨a0,_⟩:=x
 replace h:Zx a0=some z:=h
 unfold Zx at h
 rcases quN h with ⟨e,h2⟩ | ⟨_,h2⟩<;>clear h
 ·have e:=List.isEmpty_iff.1 e
  subst e
  obtain ⟨z0,c0,h2⟩:=bind_some h2
  obtain ⟨z1,c1,h2⟩:=bind_some h2
  obtain ⟨hE,h2⟩:=qcp h2
  obtain rfl:=Option.some.inj h2
  refine qwC (t:=(.sl 4 qA)) (x:=[]) rfl (TV.ers []) (TV.ers []) (by exact qlL (()) _ c0 l) ?_
  rw [hE]
  exact (by exact qlq (()) _ c1 l)
 ·exact qoG (a0,()) z h2 l
noncomputable def qQG:Code:=Tryz.f75.body.getD .skip
theorem qS0:FnF Tryz.prog 75 Tryz.f75 qQG:=⟨qk,by kernel_rfl,by kernel_rfl,by kernel_rfl⟩
def qMN:TH:={ live:=[(0,[1,2]),(1,[1,2]),(2,[2])],nil:=[(0,[⟨.ob 20 [2],25,(.sl 4 qA)⟩])] }
def qLP (N:Nat):List Ent:=[qgy]
theorem qIa (N:Nat):qO Tryz.prog (qLP N):=⟨qoa,trivial⟩
def qL3 (a0:qa) (z:Unit):TV×THp:=(.tv qh (qa.mk (qa.ID a0) (qa.qW a0) ((([]:List qg))++(qa.F a0))),[])
def qk0 (a0:qa):Tree (Unit):=
 .bind (Zx (qa.F a0)) fun r1=>
 .ret ()
def qfI (a0:qa):Option (Unit):=(qk0 a0).run some
def qLO:List (Nat×qy):=[]
def qrX:Ent:=smF ⟨75,[],[.x qh],[],[]⟩ [qh] (Unit) (fun x=>qfI x.1) cs1 fun x=>qL3 x.1
theorem qyQ:q_ Tryz.prog (qrX):=
 q8 (H:=qMN) (L:=qI (qLO)) (ts:=[qh]) (T:=fun x=>qk0 x.1) 0 qS0 (qIa 0) (qq (by kernel_rfl) trivial) (rg0 (by kernel_rfl)) fun x=>by kernel_rfl
noncomputable def qQe:Code:=Tryz.f167.body.getD .skip
theorem qOO:FnF Tryz.prog 167 Tryz.f167 qQe:=⟨qk,by kernel_rfl,by kernel_rfl,by kernel_rfl⟩
def qvf:TH:={ live:=[(0,[2,3,4]),(1,[2,3,4,7]),(2,[6]),(3,[12]),(4,[6]),(5,[6])] }
def qvT (N:Nat):List Ent:=[qcU N]
theorem qsw (N:Nat):qO Tryz.prog (qvT N):=⟨qfk N,trivial⟩
def quL (z:Int):TV×THp:=(xi z,[])
def qcM (N:Nat) (a0:qe) (a1:qe):Tree (Int):=
 .bind (J7 N a0 a1) fun r1=>
 .cond r1 (
 .ret (-1)) <|
 .bind (J7 N a1 a0) fun r2=>
 .cond r2 (
 .ret 1) <|
 .ret 0
def qax (N:Nat) (a0:qe) (a1:qe):Option (Int):=(qcM N a0 a1).run some
def qvJ (N:Nat):List (Nat×qy):=[]
def qiW (N:Nat):Ent:=smF ⟨167,[],[.x qm,.x qm,.fn 109 [] []],[],[]⟩ [qm,qm] (Int) (fun x=>qax N x.1 x.2.1) cs1 fun _=>quL
theorem qtz (N:Nat):q_ Tryz.prog (qiW N):=
 q8 (H:=qvf) (L:=qI (qvJ N)) (ts:=[qm,qm]) (T:=fun x=>qcM N x.1 x.2.1) 0 qOO (qsw N) (qq (by kernel_rfl) trivial) (rg0 (by kernel_rfl)) fun x=>by kernel_rfl
noncomputable def qNT:Code:=Tryz.f166.body.getD .skip
theorem qOM:FnF Tryz.prog 166 Tryz.f166 qNT:=⟨qk,by kernel_rfl,by kernel_rfl,by kernel_rfl⟩
def qE3:TH:={ live:=[(0,[0,1]),(1,[2])] }
def qFa (N:Nat):List Ent:=[qiW N]
theorem qAZ (N:Nat):qO Tryz.prog (qFa N):=⟨qtz N,trivial⟩
def qFc (a0:qf) (a1:qf) (z:Int):TV×THp:=(xi z,[(20,.cell false (.tv qt a0)),(30,.cell false (.tv qt a1))])
def qj_ (N:Nat) (a0:qf) (a1:qf):Tree (Int):=
 .bind (qax N (qf.S a0) (qf.S a1)) fun r1=>
 .ret r1
def qiP (N:Nat) (a0:qf) (a1:qf):Option (Int):=(qj_ N a0 a1).run some
def qFn (N:Nat):List (Nat×qy):=[]
def qsO (N:Nat):Ent:=smF ⟨166,[],[],[.k (.p 20 [] 0),.k (.p 30 [] 0)],[(20,.cell false (.x qt)),(30,.cell false (.x qt))]⟩ [qt,qt] (Int) (fun x=>qiP N x.1 x.2.1) cs1 fun x=>qFc x.1 x.2.1
theorem qCG (N:Nat):q_ Tryz.prog (qsO N):=
 q8 (H:=qE3) (L:=qI (qFn N)) (ts:=[qt,qt]) (T:=fun x=>qj_ N x.1 x.2.1) 0 qOM (qAZ N) (qq (by kernel_rfl) trivial) (rg0 (by kernel_rfl)) fun x=>by kernel_rfl
noncomputable def qTa:Code:=Tryz.f29.body.getD .skip
theorem qTn:FnF Tryz.prog 29 Tryz.f29 qTa:=⟨qk,by kernel_rfl,by kernel_rfl,by kernel_rfl⟩
def qQJ:TH:={ live:=[(0,[0,2]),(1,[2])] }
def qRa (N:Nat):List Ent:=[qD7 N]
theorem qM4 (N:Nat):qO Tryz.prog (qRa N):=⟨qB4 N,trivial⟩
def qQQ (z:Vector UInt8 32):TV×THp:=(.tv (.ba 32) z,[])
def qAo (N:Nat) (a0:List UInt8):Tree (Vector UInt8 32):=
 .chk (qkZ (a0:List UInt8).length) <|
 .bind (qk8 N a0) fun r1=>
 .ret r1
def qqd (N:Nat) (a0:List UInt8):Option (Vector UInt8 32):=(qAo N a0).run some
def qQD (N:Nat):List (Nat×qy):=[]
def qz4 (N:Nat):Ent:=smF ⟨29,[],[.x .s],[],[]⟩ [.s] (Vector UInt8 32) (fun x=>qqd N x.1) cs1 fun _=>qQQ
theorem qEu (N:Nat):q_ Tryz.prog (qz4 N):=
 q8 (H:=qQJ) (L:=qI (qQD N)) (ts:=[.s]) (T:=fun x=>qAo N x.1) 0 qTn (qM4 N) (qq (by kernel_rfl) trivial) (rg0 (by kernel_rfl)) fun x=>by kernel_rfl
noncomputable def qP5:Code:=Tryz.f170.body.getD .skip
theorem qOa:FnF Tryz.prog 170 Tryz.f170 qP5:=⟨qk,by kernel_rfl,by kernel_rfl,by kernel_rfl⟩
def qMS:TH:={ live:=[(0,[2,3]),(1,[4])],dec:=[8] }
def qMd (N:Nat):List Ent:=[qb8]
theorem qHk (N:Nat):qO Tryz.prog (qMd N):=⟨qfF,trivial⟩
def qMp (z:Bool):TV×THp:=(xb z,[])
def qrt (a0:Vector UInt8 32) (a1:Vector UInt8 32):Tree (Bool):=
 .cond (!(eqE (.ba 32) a0 a1)) (
 .bind (qaU a0.toList a1.toList) fun r1=>
 .ret (decide (r1 < ((0:Int))))) <|
 .ret false
def qlS (a0:Vector UInt8 32) (a1:Vector UInt8 32):Option (Bool):=(qrt a0 a1).run some
def qLq:List (Nat×qy):=[]
def qBQ:Ent:=smF ⟨170,[],[.x (.ba 32),.x (.ba 32)],[],[]⟩ [(.ba 32),(.ba 32)] (Bool) (fun x=>qlS x.1 x.2.1) cs1 fun _=>qMp
theorem qI8:q_ Tryz.prog (qBQ):=
 q8 (H:=qMS) (L:=qI (qLq)) (ts:=[(.ba 32),(.ba 32)]) (T:=fun x=>qrt x.1 x.2.1) 0 qOa (qHk 0) (qq (by kernel_rfl) trivial) (rg0 (by kernel_rfl)) fun x=>by kernel_rfl
noncomputable def qNM:Code:=Tryz.f169.body.getD .skip
theorem qP0:FnF Tryz.prog 169 Tryz.f169 qNM:=⟨qk,by kernel_rfl,by kernel_rfl,by kernel_rfl⟩
def qtu:TH:={ live:=[(0,[2,3,4]),(1,[2,3,4,7]),(2,[6]),(3,[12]),(4,[6]),(5,[6])] }
def qua (N:Nat):List Ent:=[qBQ]
theorem qpV (N:Nat):qO Tryz.prog (qua N):=⟨qI8,trivial⟩
def qtb (z:Int):TV×THp:=(xi z,[])
def qbd (a0:Vector UInt8 32) (a1:Vector UInt8 32):Tree (Int):=
 .bind (qlS a0 a1) fun r1=>
 .cond r1 (
 .ret (-1)) <|
 .bind (qlS a1 a0) fun r2=>
 .cond r2 (
 .ret 1) <|
 .ret 0
def Y9 (a0:Vector UInt8 32) (a1:Vector UInt8 32):Option (Int):=(qbd a0 a1).run some
def qub:List (Nat×qy):=[]
def qhW:Ent:=smF ⟨169,[],[.x (.ba 32),.x (.ba 32),.fn 170 [] []],[],[]⟩ [(.ba 32),(.ba 32)] (Int) (fun x=>Y9 x.1 x.2.1) cs1 fun _=>qtb
theorem qqM:q_ Tryz.prog (qhW):=
 q8 (H:=qtu) (L:=qI (qub)) (ts:=[(.ba 32),(.ba 32)]) (T:=fun x=>qbd x.1 x.2.1) 0 qP0 (qpV 0) (qq (by kernel_rfl) trivial) (rg0 (by kernel_rfl)) fun x=>by kernel_rfl
noncomputable def qOz:Code:=Tryz.f168.body.getD .skip
theorem qNS:FnF Tryz.prog 168 Tryz.f168 qOz:=⟨qk,by kernel_rfl,by kernel_rfl,by kernel_rfl⟩
def qFJ:TH:={ live:=[(0,[0,1]),(1,[2])] }
def qFL (N:Nat):List Ent:=[qz4 N,qhW]
theorem qBT (N:Nat):qO Tryz.prog (qFL N):=⟨qEu N,qqM,trivial⟩
def qFx (a0:qf) (a1:qf) (z:Int):TV×THp:=(xi z,[(20,.cell false (.tv qt a0)),(30,.cell false (.tv qt a1))])
def qj0 (N:Nat) (a0:qf) (a1:qf):Tree (Int):=
 .bind (qqd N (qf.V a0)) fun r1=>
 .bind (qqd N (qf.V a1)) fun r2=>
 .bind (Y9 r1 r2) fun r3=>
 .ret r3
def qiR (N:Nat) (a0:qf) (a1:qf):Option (Int):=(qj0 N a0 a1).run some
def qE5 (N:Nat):List (Nat×qy):=[]
def qsJ (N:Nat):Ent:=smF ⟨168,[],[],[.k (.p 20 [] 0),.k (.p 30 [] 0)],[(20,.cell false (.x qt)),(30,.cell false (.x qt))]⟩ [qt,qt] (Int) (fun x=>qiR N x.1 x.2.1) cs1 fun x=>qFx x.1 x.2.1
theorem qCS (N:Nat):q_ Tryz.prog (qsJ N):=
 q8 (H:=qFJ) (L:=qI (qE5 N)) (ts:=[qt,qt]) (T:=fun x=>qj0 N x.1 x.2.1) 0 qNS (qBT N) (qq (by kernel_rfl) trivial) (rg0 (by kernel_rfl)) fun x=>by kernel_rfl
noncomputable def qOy:Code:=Tryz.f175.body.getD .skip
theorem qNX:FnF Tryz.prog 175 Tryz.f175 qOy:=⟨qk,by kernel_rfl,by kernel_rfl,by kernel_rfl⟩
def qvc:TH:={ live:=[(0,[0]),(1,[2])] }
def quK (N:Nat):List Ent:=[]
theorem qsj (N:Nat):qO Tryz.prog (quK N):=trivial
def quV (a0:List UInt8) (z:Unit):TV×THp:=(xb (!decide (a0=a0)),[])
def qjx (a0:List UInt8):Tree (Unit):=
 .ret ()
def qam (a0:List UInt8):Option (Unit):=(qjx a0).run some
def qwo:List (Nat×qy):=[]
def qjz:Ent:=smF ⟨175,[],[.x .s],[],[]⟩ [.s] (Unit) (fun x=>qam x.1) cs1 fun x=>quV x.1
theorem qtE:q_ Tryz.prog (qjz):=
 q8 (H:=qvc) (L:=qI (qwo)) (ts:=[.s]) (T:=fun x=>qjx x.1) 0 qNX (qsj 0) (qq (by kernel_rfl) trivial) (rg0 (by kernel_rfl)) fun x=>by kernel_rfl
noncomputable def qPW:Code:=Tryz.f172.body.getD .skip
theorem qOE:FnF Tryz.prog 172 Tryz.f172 qPW:=⟨qk,by kernel_rfl,by kernel_rfl,by kernel_rfl⟩
def qsh:TH:={ live:=[(0,[0,1]),(1,[0,1,5]),(2,[0,1,5,6]),(3,[0,1,6,11]),(4,[12]),(5,[4]),(6,[4]),(7,[0,1,13]),(8,[4]),(9,[0,1,16]),(10,[4]),(11,[19]),(12,[4]),(13,[4])] }
def qqV (N:Nat):List Ent:=[qjz]
theorem qop (N:Nat):qO Tryz.prog (qqV N):=⟨qtE,trivial⟩
def qrJ (z:Int):TV×THp:=(xi z,[])
def qai (a0:List UInt8) (a1:List UInt8):Tree (Int):=
 .bind (qam a0) fun r1=>
 .bind (qam a1) fun r2=>
 .cond (!decide (a0=a0)) (
 .cond (!decide (a1=a1)) (
 .ret 0) <|
 .ret (-1)) <|
 .cond (!decide (a1=a1)) (
 .ret 1) <|
 .cond (Op.bytesLess a0 a1) (
 .ret (-1)) <|
 .cond (!(Op.bytesLess a0 a1||decide (a0=a1))) (
 .ret 1) <|
 .ret 0
def Yc (a0:List UInt8) (a1:List UInt8):Option (Int):=(qai a0 a1).run some
def qrB:List (Nat×qy):=[]
def qgX:Ent:=smF ⟨172,[],[.x .s,.x .s],[],[]⟩ [.s,.s] (Int) (fun x=>Yc x.1 x.2.1) cs1 fun _=>qrJ
theorem qqr:q_ Tryz.prog (qgX):=
 q8 (H:=qsh) (L:=qI (qrB)) (ts:=[.s,.s]) (T:=fun x=>qai x.1 x.2.1) 0 qOE (qop 0) (qq (by kernel_rfl) trivial) (rg0 (by kernel_rfl)) fun x=>by kernel_rfl
noncomputable def qQl:Code:=Tryz.f171.body.getD .skip
theorem qOL:FnF Tryz.prog 171 Tryz.f171 qQl:=⟨qk,by kernel_rfl,by kernel_rfl,by kernel_rfl⟩
def qE0:TH:={ live:=[(0,[0,1]),(1,[2])] }
def qEQ (N:Nat):List Ent:=[qgX]
theorem qBa (N:Nat):qO Tryz.prog (qEQ N):=⟨qqr,trivial⟩
def qFy (a0:qf) (a1:qf) (z:Int):TV×THp:=(xi z,[(20,.cell false (.tv qt a0)),(30,.cell false (.tv qt a1))])
def qj3 (a0:qf) (a1:qf):Tree (Int):=
 .bind (Yc (qf.V a0) (qf.V a1)) fun r1=>
 .ret r1
def qiL (a0:qf) (a1:qf):Option (Int):=(qj3 a0 a1).run some
def qEX:List (Nat×qy):=[]
def qsH:Ent:=smF ⟨171,[],[],[.k (.p 20 [] 0),.k (.p 30 [] 0)],[(20,.cell false (.x qt)),(30,.cell false (.x qt))]⟩ [qt,qt] (Int) (fun x=>qiL x.1 x.2.1) cs1 fun x=>qFy x.1 x.2.1
theorem qDM:q_ Tryz.prog (qsH):=
 q8 (H:=qE0) (L:=qI (qEX)) (ts:=[qt,qt]) (T:=fun x=>qj3 x.1 x.2.1) 0 qOL (qBa 0) (qq (by kernel_rfl) trivial) (rg0 (by kernel_rfl)) fun x=>by kernel_rfl
noncomputable def qgH:Code:=Tryz.f159.body.getD .skip
theorem qQg:FnF Tryz.prog 159 Tryz.f159 qgH:=⟨qk,by kernel_rfl,by kernel_rfl,by kernel_rfl⟩
def qa8:TH:={ live:=[(0,[2,3]),(1,[5]),(2,[13,14]),(3,[13,14,15]),(4,[7,13,14]),(5,[8,13,14]),(6,[8,13,14,20]),(7,[4]),(8,[13,14]),(9,[4])] }
def qe8 (N:Nat):List Ent:=[qsO N,qsJ N,qsH]
theorem qaT (N:Nat):qO Tryz.prog (qe8 N):=⟨qCG N,qCS N,qDM,trivial⟩
abbrev zN:=qf×qf
abbrev zS:=Bool⊕Unit
def zY (f:zN):zS→Ex×TSt
 | .inl y=>(.ret,⟨0,24,[],[(4,xb y)],[],false,[]⟩)
 | .inr y=>(.exit 0,⟨0,24,[],[(13,.ag [.fn (.func 166) [] [.p 20 [] 0,.p 30 [] 0],.fn (.func 168) [] [.p 20 [] 0,.p 30 [] 0],.fn (.func 171) [] [.p 20 [] 0,.p 30 [] 0]]),(14,.ic .i64 3),(15,.bc false)],[(20,.cell false (.tv qt f.1)),(30,.cell false (.tv qt f.2))],false,[]⟩)
def qdK (N:Nat):List (Nat×qy):=[]
abbrev Vc:=Unit
def qxP:SP:=⟨0,24,[],[(13,.ag [.fn 166 [] [.k (.p 20 [] 0),.k (.p 30 [] 0)],.fn 168 [] [.k (.p 20 [] 0),.k (.p 30 [] 0)],.fn 171 [] [.k (.p 20 [] 0),.k (.p 30 [] 0)]]),(14,.k (.ic .i64 3))],[(20,.cell false (.x qt)),(30,.cell false (.x qt))],false,[]⟩
def qkc (f:zN) (v:Vc):TSt:=zw qxP [dv qt f.1,dv qt f.2]
def X5 (N:Nat) (o_3:qf) (o_3_2:qf) (v:Vc):Tree (Vc⊕zS):=
 .ret (.inr (.inr ()))
def qkh (N n:Nat) (f:zN) (v:Vc):Option zS:=qQ (X5 N f.1 f.2) some n v
theorem qxY (N:Nat) (f:zN) (n:Nat) (v:Vc) (y:zS) (h:qkh N n f v=some y):LG Tryz.prog qa8 159 (qL qgH 3) (qkc f v) (zY f y):=
 zl qk (E:=qe8 N) (L:=qI (qdK N)) (st:=zY f) (g:=some) (R:=zY f) (qaT N) (qq (by kernel_rfl) trivial) (rg0 (by kernel_rfl)) (fun v=>by kernel_rfl) (qU (st:=zY f) fun y=>by rcases y with _ | _<;>rfl) (js0 rfl) n v y h
abbrev Vb:=Unit
def qxO:SP:=⟨0,24,[],[(13,.ag [.fn 166 [] [.k (.p 20 [] 0),.k (.p 30 [] 0)],.fn 168 [] [.k (.p 20 [] 0),.k (.p 30 [] 0)],.fn 171 [] [.k (.p 20 [] 0),.k (.p 30 [] 0)]]),(14,.k (.ic .i64 2))],[(20,.cell false (.x qt)),(30,.cell false (.x qt))],false,[]⟩
def qkg (f:zN) (v:Vb):TSt:=zw qxO [dv qt f.1,dv qt f.2]
abbrev qec:=Vc⊕zS
def Vf (N:Nat) (o_3:qf) (o_3_2:qf) (v:Vb):Tree (Vb⊕qec):=
 .chk (0≤(2:Int)∧(2:Int) < ((3:Nat):Int)) <|
 .bind (qiL o_3 o_3_2) fun r1=>
 .cond (!decide (r1=((0:Int)))) (
 .ret (.inr (.inr ((.inl (decide (r1 < ((0:Int))))))))) <|
 .ret (.inr (.inl ()))
def X7 (N n:Nat) (f:zN):qec→Option zS
 | .inl w=>qkh N n f w
 | .inr w=>some w
def qxR (f:zN):qec→Ex×TSt
 | .inl w=>(.normal,qkc f w)
 | .inr w=>zY f w
def qka (N n:Nat) (f:zN) (v:Vb):Option zS:=qQ (Vf N f.1 f.2) (X7 N n f) n v
theorem qxH (N:Nat) (f:zN) (n:Nat) (v:Vb) (y:zS) (h:qka N n f v=some y):LG Tryz.prog qa8 159 (qL qgH 3) (qkg f v) (zY f y):=
 zl qk (E:=qe8 N) (L:=qI (qdK N)) (st:=qxR f) (g:=(X7 N n f)) (R:=zY f) (qaT N) (qq (by kernel_rfl) trivial) (rg0 (by kernel_rfl)) (fun v=>by kernel_rfl) (fun w y h=>by
 rcases w with w | w
 ·exact qxY N f n w y h
 ·exact qU (st:=zY f) (fun y=>by rcases y with _ | _<;>rfl) w y h
) (js0 rfl) n v y h
abbrev J_:=Unit
def qx_:SP:=⟨0,24,[],[(13,.ag [.fn 166 [] [.k (.p 20 [] 0),.k (.p 30 [] 0)],.fn 168 [] [.k (.p 20 [] 0),.k (.p 30 [] 0)],.fn 171 [] [.k (.p 20 [] 0),.k (.p 30 [] 0)]]),(14,.k (.ic .i64 1))],[(20,.cell false (.x qt)),(30,.cell false (.x qt))],false,[]⟩
def qko (f:zN) (v:J_):TSt:=zw qx_ [dv qt f.1,dv qt f.2]
abbrev qeg:=Vb⊕zS
def Va (N:Nat) (o_3:qf) (o_3_2:qf) (v:J_):Tree (J_⊕qeg):=
 .chk (0≤(1:Int)∧(1:Int) < ((3:Nat):Int)) <|
 .bind (qiR N o_3 o_3_2) fun r1=>
 .cond (!decide (r1=((0:Int)))) (
 .ret (.inr (.inr ((.inl (decide (r1 < ((0:Int))))))))) <|
 .ret (.inr (.inl ()))
def X9 (N n:Nat) (f:zN):qeg→Option zS
 | .inl w=>qka N n f w
 | .inr w=>some w
def qxZ (f:zN):qeg→Ex×TSt
 | .inl w=>(.normal,qkg f w)
 | .inr w=>zY f w
def qkf (N n:Nat) (f:zN) (v:J_):Option zS:=qQ (Va N f.1 f.2) (X9 N n f) n v
theorem qx5 (N:Nat) (f:zN) (n:Nat) (v:J_) (y:zS) (h:qkf N n f v=some y):LG Tryz.prog qa8 159 (qL qgH 3) (qko f v) (zY f y):=
 zl qk (E:=qe8 N) (L:=qI (qdK N)) (st:=qxZ f) (g:=(X9 N n f)) (R:=zY f) (qaT N) (qq (by kernel_rfl) trivial) (rg0 (by kernel_rfl)) (fun v=>by kernel_rfl) (fun w y h=>by
 rcases w with w | w
 ·exact qxH N f n w y h
 ·exact qU (st:=zY f) (fun y=>by rcases y with _ | _<;>rfl) w y h
) (js0 rfl) n v y h
abbrev Ki:=Unit
def qp5:SP:=⟨0,24,[],[(13,.ag [.fn 166 [] [.k (.p 20 [] 0),.k (.p 30 [] 0)],.fn 168 [] [.k (.p 20 [] 0),.k (.p 30 [] 0)],.fn 171 [] [.k (.p 20 [] 0),.k (.p 30 [] 0)]]),(14,.k (.ic .i64 0))],[(20,.cell false (.x qt)),(30,.cell false (.x qt))],false,[]⟩
def qDE (f:zN) (v:Ki):TSt:=zw qp5 [dv qt f.1,dv qt f.2]
abbrev qir:=J_⊕zS
def qdm (N:Nat) (o_3:qf) (o_3_2:qf) (v:Ki):Tree (Ki⊕qir):=
 .chk (0≤(0:Int)∧(0:Int) < ((3:Nat):Int)) <|
 .bind (qiP N o_3 o_3_2) fun r1=>
 .cond (!decide (r1=((0:Int)))) (
 .ret (.inr (.inr ((.inl (decide (r1 < ((0:Int))))))))) <|
 .ret (.inr (.inl ()))
def qio (N n:Nat) (f:zN):qir→Option zS
 | .inl w=>qkf N n f w
 | .inr w=>some w
def qDb (f:zN):qir→Ex×TSt
 | .inl w=>(.normal,qko f w)
 | .inr w=>zY f w
def qqw (N n:Nat) (f:zN) (v:Ki):Option zS:=qQ (qdm N f.1 f.2) (qio N n f) n v
theorem qC0 (N:Nat) (f:zN) (n:Nat) (v:Ki) (y:zS) (h:qqw N n f v=some y):LG Tryz.prog qa8 159 (qL qgH 3) (qDE f v) (zY f y):=
 zl qk (E:=qe8 N) (L:=qI (qdK N)) (st:=qDb f) (g:=(qio N n f)) (R:=zY f) (qaT N) (qq (by kernel_rfl) trivial) (rg0 (by kernel_rfl)) (fun v=>by kernel_rfl) (fun w y h=>by
 rcases w with w | w
 ·exact qx5 N f n w y h
 ·exact qU (st:=zY f) (fun y=>by rcases y with _ | _<;>rfl) w y h
) (js0 rfl) n v y h
def qgV (N:Nat) (o_3:qf) (o_3_2:qf):Option zS:=qqw N N (o_3,o_3_2) ()
def qqI (N:Nat):qy:=smL qp5 [qt,qt] zS (fun x=>qgV N x.1 x.2.1) (csS cs1) fun x=>zY (x.1,x.2.1)
theorem qCb (N:Nat):ji Tryz.prog qa8 159 (qL qgH 3) (qqI N):=zu fun x z h=>qC0 N (x.1,x.2.1) N () z h
def qJ0 (z:Bool):TV×THp:=(xb z,[])
def qnJ (N:Nat) (a0:qf) (a1:qf):Tree (Bool):=
 .bind (qgV N a0 a1) fun z1=>
 .sum z1 (fun z2=>
 .ret z2) fun z2=>
 .ret false
def qmS (N:Nat) (a0:qf) (a1:qf):Option (Bool):=(qnJ N a0 a1).run some
def qKa (N:Nat):List (Nat×qy):=[(3,qqI N)]
def qyt (N:Nat):Ent:=smF ⟨159,[],[.x qt,.x qt],[],[]⟩ [qt,qt] (Bool) (fun x=>qmS N x.1 x.2.1) cs1 fun _=>qJ0
theorem qHr (N:Nat):q_ Tryz.prog (qyt N):=
 q8 (H:=qa8) (L:=qI (qKa N)) (ts:=[qt,qt]) (T:=fun x=>qnJ N x.1 x.2.1) 0 qQg (qaT N) (qq (by kernel_rfl) ⟨qCb N,trivial⟩) (rg0 (by kernel_rfl)) fun x=>by kernel_rfl
noncomputable def qOi:Code:=Tryz.f144.body.getD .skip
theorem qQt:FnF Tryz.prog 144 Tryz.f144 qOi:=⟨qk,by kernel_rfl,by kernel_rfl,by kernel_rfl⟩
def qJQ:TH:={ live:=[(0,[2,3,4]),(1,[2,3,4,7]),(2,[4]),(3,[4])] }
def qIW (N:Nat):List Ent:=[qyt N]
theorem qFj (N:Nat):qO Tryz.prog (qIW N):=⟨qHr N,trivial⟩
def qJS (z:qf):TV×THp:=(.tv qt z,[])
def qpf (N:Nat) (a0:qf) (a1:qf):Tree (qf):=
 .bind (qmS N a0 a1) fun r1=>
 .cond r1 (
 .ret a1) <|
 .ret a0
def qm_ (N:Nat) (a0:qf) (a1:qf):Option (qf):=(qpf N a0 a1).run some
def qJ_ (N:Nat):List (Nat×qy):=[]
def qyH (N:Nat):Ent:=smF ⟨144,[],[.x qt,.x qt],[],[]⟩ [qt,qt] (qf) (fun x=>qm_ N x.1 x.2.1) cs1 fun _=>qJS
theorem qIU (N:Nat):q_ Tryz.prog (qyH N):=
 q8 (H:=qJQ) (L:=qI (qJ_ N)) (ts:=[qt,qt]) (T:=fun x=>qpf N x.1 x.2.1) 0 qQt (qFj N) (qq (by kernel_rfl) trivial) (rg0 (by kernel_rfl)) fun x=>by kernel_rfl
noncomputable def qvI:Code:=Tryz.f130.body.getD .skip
theorem qPq:FnF Tryz.prog 130 Tryz.f130 qvI:=⟨qk,by kernel_rfl,by kernel_rfl,by kernel_rfl⟩
def qcx:TH:={ live:=[(0,[0,3]),(1,[0,9,10,11]),(2,[0,9,10,11,12]),(3,[0,5,9,10,11]),(4,[0,5,6,7,9,10,11]),(5,[0,5,6,9,10,11,22]),(6,[0,9,10,11]),(7,[0,9,10,11]),(8,[0,9,10,11])] }
def qi2 (N:Nat):List Ent:=[qyH N]
theorem qhG (N:Nat):qO Tryz.prog (qi2 N):=⟨qIU N,trivial⟩
abbrev Xy:=List qg×Int
abbrev QN:=Nat×List (Int×qf×Nat)×Int×Bool
def Jo (f:Xy) (y:QN):Ex×TSt:=(.exit 0,⟨1,36,[250],[(0,.m 250),(9,.tv (.sl 4 qA) f.1),(10,xi f.2),(11,xi y.2.2.1),(12,xb y.2.2.2)],[(250,.map y.1 (.i .i64) qt (y.2.1:List (Int×qf×Nat)))],false,[]⟩)
def qqi (N:Nat):List (Nat×qy):=[]
abbrev Jk:=Nat×List (Int×qf×Nat)×Int
def qgG:SP:=⟨1,36,[250],[(0,.k (.m 250)),(9,.x (.sl 4 qA)),(10,.x (.i .i64)),(11,.x (.i .i64))],[(250,.map (.i .i64) qt)],false,[]⟩
def qqD (f:Xy) (v:Jk):TSt:=zw qgG [dv .nat v.1,dv (KU (.i .i64) qt) v.2.1,dv (.sl 4 qA) f.1,dv (.i .i64) f.2,dv (.i .i64) v.2.2]
def JE (N:Nat) (s9_2:List qg) (s10_2:Int) (v:Jk):Tree (Jk⊕QN):=
 .cond (decide (v.2.2 < s10_2)) (
 .bind (qP s9_2 v.2.2) fun e1=>
 .opt (fnd (β:=qf) (.i .i64) (qg.No e1) v.2.1) (
 .chk (qj (v.2.2 + 1)) <|
 .ret (.inl ((JV (.i .i64) (qg.No e1) (qg.C e1) v.1 v.2.1).1,(JV (.i .i64) (qg.No e1) (qg.C e1) v.1 v.2.1).2,v.2.2 + 1))) fun e2=>
 .bind (qm_ N e2.1 (qg.C e1)) fun r3=>
 .chk (qj (v.2.2 + 1)) <|
 .ret (.inl ((JV (.i .i64) (qg.No e1) r3 v.1 v.2.1).1,(JV (.i .i64) (qg.No e1) r3 v.1 v.2.1).2,v.2.2 + 1))) <|
 .ret (.inr (v.1,v.2.1,v.2.2,decide (v.2.2 < s10_2)))
def qf2 (N n:Nat) (f:Xy) (v:Jk):Option QN:=qQ (JE N f.1 f.2) some n v
theorem qpj (N:Nat) (f:Xy) (n:Nat) (v:Jk) (y:QN) (h:qf2 N n f v=some y):LG Tryz.prog qcx 130 (qL qvI 2) (qqD f v) (Jo f y):=
 zl qk (E:=qi2 N) (L:=qI (qqi N)) (st:=Jo f) (g:=some) (R:=Jo f) (qhG N) (qq (by kernel_rfl) trivial) (rg0 (by kernel_rfl)) (fun v=>by kernel_rfl) (qU (st:=Jo f) fun y=>by rfl) (js0 rfl) n v y h
def qbJ (N:Nat) (s9_2:List qg) (s10_2:Int) (o_2:Nat) (o_2_2:List (Int×qf×Nat)) (s11_2:Int):Option QN:=qf2 N N (s9_2,s10_2) (o_2,o_2_2,s11_2)
def qgI (N:Nat):qy:=smL qgG [.nat,(KU (.i .i64) qt),(.sl 4 qA),(.i .i64),(.i .i64)] QN (fun x=>qbJ N x.2.2.1 x.2.2.2.1 x.1 x.2.1 x.2.2.2.2.1) cs1 fun x=>Jo (x.2.2.1,x.2.2.2.1)
theorem qoz (N:Nat):ji Tryz.prog qcx 130 (qL qvI 2) (qgI N):=zu fun x z h=>qpj N (x.2.2.1,x.2.2.2.1) N (x.1,x.2.1,x.2.2.2.2.1) z h
def qwU (z:Nat×List (Int×qf×Nat)):TV×THp:=(.tup [],[(250,.map z.1 (.i .i64) qt (z.2:List (Int×qf×Nat)))])
def qcv (N:Nat) (a0:Nat) (a1:List (Int×qf×Nat)) (a2:qa):Tree (Nat×List (Int×qf×Nat)):=
 .bind (qbJ N (qa.F a2) (((qa.F a2).length:Nat):Int) a0 a1 0) fun z1=>
 .ret (z1.1,z1.2.1)
def WC (N:Nat) (a0:Nat) (a1:List (Int×qf×Nat)) (a2:qa):Option (Nat×List (Int×qf×Nat)):=(qcv N a0 a1 a2).run some
def qwz (N:Nat):List (Nat×qy):=[(2,qgI N)]
def qiS (N:Nat):Ent:=smF ⟨130,[],[.k (.m 250),.x qh],[],[(250,.map (.i .i64) qt)]⟩ [.nat,(KU (.i .i64) qt),qh] (Nat×List (Int×qf×Nat)) (fun x=>WC N x.1 x.2.1 x.2.2.1) cs1 fun _=>qwU
theorem qts (N:Nat):q_ Tryz.prog (qiS N):=
 q8 (H:=qcx) (L:=qI (qwz N)) (ts:=[.nat,(KU (.i .i64) qt),qh]) (T:=fun x=>qcv N x.1 x.2.1 x.2.2.1) 0 qPq (qhG N) (qq (by kernel_rfl) ⟨qoz N,trivial⟩) (rg0 (by kernel_rfl)) fun x=>by kernel_rfl
noncomputable def qP3:Code:=Tryz.f131.body.getD .skip
theorem qNB:FnF Tryz.prog 131 Tryz.f131 qP3:=⟨qk,by kernel_rfl,by kernel_rfl,by kernel_rfl⟩
def qJj:TH:={ live:=[(0,[2,3,4]),(1,[2,3,4,7]),(2,[4]),(3,[4])] }
def qJi (N:Nat):List Ent:=[qcU N]
theorem qE8 (N:Nat):qO Tryz.prog (qJi N):=⟨qfk N,trivial⟩
def qJd (z:qe):TV×THp:=(.tv qm z,[])
def qoq (N:Nat) (a0:qe) (a1:qe):Tree (qe):=
 .bind (J7 N a0 a1) fun r1=>
 .cond r1 (
 .ret a1) <|
 .ret a0
def qng (N:Nat) (a0:qe) (a1:qe):Option (qe):=(qoq N a0 a1).run some
def qJZ (N:Nat):List (Nat×qy):=[]
def qyk (N:Nat):Ent:=smF ⟨131,[],[.x qm,.x qm],[],[]⟩ [qm,qm] (qe) (fun x=>qng N x.1 x.2.1) cs1 fun _=>qJd
theorem qGY (N:Nat):q_ Tryz.prog (qyk N):=
 q8 (H:=qJj) (L:=qI (qJZ N)) (ts:=[qm,qm]) (T:=fun x=>qoq N x.1 x.2.1) 0 qNB (qE8 N) (qq (by kernel_rfl) trivial) (rg0 (by kernel_rfl)) fun x=>by kernel_rfl
noncomputable def qNu:Code:=Tryz.f132.body.getD .skip
theorem qP8:FnF Tryz.prog 132 Tryz.f132 qNu:=⟨qk,by kernel_rfl,by kernel_rfl,by kernel_rfl⟩
def qpR:TH:={ live:=[(0,[2,3]),(1,[4])],esc:=true }
def qqh (N:Nat):List Ent:=[]
theorem qmH (N:Nat):qO Tryz.prog (qqh N):=trivial
def qqc (a0:Nat) (a1:List (Int×qf×Nat)) (a2:qe) (z:Unit):TV×THp:=(.fn (.func 145) [] [.p 100020 [] 0,.p 100030 [] 0],[(250,.map a0 (.i .i64) qt a1),(100020,.cell false (.m 250)),(100030,.cell false (.tv qm a2))])
def qgv (a0:Nat) (a1:List (Int×qf×Nat)) (a2:qe):Tree (Unit):=
 .ret ()
def qh0 (a0:Nat) (a1:List (Int×qf×Nat)) (a2:qe):Option (Unit):=(qgv a0 a1 a2).run some
def qpW:List (Nat×qy):=[]
def qf7:Ent:=smF ⟨132,[],[.k (.m 250),.x qm],[],[(250,.map (.i .i64) qt)]⟩ [.nat,(KU (.i .i64) qt),qm] (Unit) (fun x=>qh0 x.1 x.2.1 x.2.2.1) cs1 fun x=>qqc x.1 x.2.1 x.2.2.1
theorem qoI:q_ Tryz.prog (qf7):=
 q8 (H:=qpR) (L:=qI (qpW)) (ts:=[.nat,(KU (.i .i64) qt),qm]) (T:=fun x=>qgv x.1 x.2.1 x.2.2.1) 0 qP8 (qmH 0) (qq (by kernel_rfl) trivial) (rg0 (by kernel_rfl)) fun x=>by kernel_rfl
def qwA:TH:={ live:=[(0,[2,3,4]),(1,[2,3,4,23]),(2,[4,5]),(3,[2,3,4,6]),(4,[2,3,4,6]),(5,[2,3,4,6]),(6,[4,6,7]),(7,[4,7,43]),(8,[7,8]),(10,[4,5])],dec:=[12,17],fresh:=[43] }
def qwY (N:Nat):List Ent:=[]
theorem qrn (N:Nat):qO Tryz.prog (qwY N):=trivial
def qv1 (a0:List qg) (a1:List qg) (a2:Nat) (a3:List (Int×qf×Nat)) (a4:Vector UInt8 16) (a5:qe) (a6:Vector UInt8 16) (a7:qe) (a8:qe) (a9:qg) (z:Unit):TV×THp:=(.bc true,[(40,.cell false (.ag [.tv (.ba 16) a4,.tv qm a5,.v 45 a0.length])),(45,.vec false 4 (.sl 4 qA) a0),(70,.cell false (.ag [.tv (.ba 16) a6,.tv qm a7,.v 75 ((a1++[a9]).length)])),(75,.vec false 4 (.sl 4 qA) (a1++[a9]:List qg)),(250,.map a2 (.i .i64) qt a3),(50080,.loop [44] 52 [(4,.p 40 [] 0),(7,.p 70 [] 0),(43,.fn (.func 145) [] [.p 100020 [] 0,.p 100030 [] 0])] 11300008 113 .ready none 50081),(50081,.dfr true),(100020,.cell false (.m 250)),(100030,.cell false (.tv qm a8))])
def qcN (a0:List qg) (a1:List qg) (a2:Nat) (a3:List (Int×qf×Nat)) (a4:Vector UInt8 16) (a5:qe) (a6:Vector UInt8 16) (a7:qe) (a8:qe) (a9:qg):Tree (Unit):=
 .chk (jx a1.length a1.length ((a1++[a9]).length) 40) <|
 .ret ()
def K4 (a0:List qg) (a1:List qg) (a2:Nat) (a3:List (Int×qf×Nat)) (a4:Vector UInt8 16) (a5:qe) (a6:Vector UInt8 16) (a7:qe) (a8:qe) (a9:qg):Option (Unit):=(qcN a0 a1 a2 a3 a4 a5 a6 a7 a8 a9).run some
def qug:List (Nat×qy):=[]
def qjn:Ent:=smR 50080 [.x qA] [(40,.cell false (.ag [.x (.ba 16),.x qm,.vs 45])),(45,.vec false 4),(70,.cell false (.ag [.x (.ba 16),.x qm,.vs 75])),(75,.vec false 4),(250,.map (.i .i64) qt),(50080,.loop [44] 52 [(4,.k (.p 40 [] 0)),(7,.k (.p 70 [] 0)),(43,.fn 145 [] [.k (.p 100020 [] 0),.k (.p 100030 [] 0)])] 11300008 113 .ready none 50081),(50081,.dfr true),(100020,.cell false (.k (.m 250))),(100030,.cell false (.x qm))] [(.sl 4 qA),(.sl 4 qA),.nat,(KU (.i .i64) qt),(.ba 16),qm,(.ba 16),qm,qm,qA] (Unit) (fun x=>K4 x.1 x.2.1 x.2.2.1 x.2.2.2.1 x.2.2.2.2.1 x.2.2.2.2.2.1 x.2.2.2.2.2.2.1 x.2.2.2.2.2.2.2.1 x.2.2.2.2.2.2.2.2.1 x.2.2.2.2.2.2.2.2.2.1) cs1 fun x=>qv1 x.1 x.2.1 x.2.2.1 x.2.2.2.1 x.2.2.2.2.1 x.2.2.2.2.2.1 x.2.2.2.2.2.2.1 x.2.2.2.2.2.2.2.1 x.2.2.2.2.2.2.2.2.1 x.2.2.2.2.2.2.2.2.2.1
theorem qtF:q_ Tryz.prog (qjn):=
 qV4 (H:=qwA) (L:=qI (qug)) (ts:=[(.sl 4 qA),(.sl 4 qA),.nat,(KU (.i .i64) qt),(.ba 16),qm,(.ba 16),qm,qm,qA]) (T:=fun x=>qcN x.1 x.2.1 x.2.2.1 x.2.2.2.1 x.2.2.2.2.1 x.2.2.2.2.2.1 x.2.2.2.2.2.2.1 x.2.2.2.2.2.2.2.1 x.2.2.2.2.2.2.2.2.1 x.2.2.2.2.2.2.2.2.2.1) (K:=113) (cid:=11300008) 2 qk (qrn 0) (by kernel_rfl) (qq (by kernel_rfl) trivial) (rg0 (by kernel_rfl)) (rg0 (by kernel_rfl)) (fun x=>by kernel_rfl) fun x=>by kernel_rfl
noncomputable def qwe:Code:=Tryz.f145.body.getD .skip
theorem qOP:FnF Tryz.prog 145 Tryz.f145 qwe:=⟨qk,by kernel_rfl,by kernel_rfl,by kernel_rfl⟩
def WX:TH:={ live:=[(0,[0,1,2,7]),(1,[0,1,2,7,8]),(2,[0,1,2,4,7]),(3,[0,1,2,4,5,6,7]),(4,[0,1,2,7,30]),(5,[0,1,2,7])],dec:=[17,23] }
def qdZ (N:Nat):List Ent:=[qcU N,qjn]
theorem qbR (N:Nat):qO Tryz.prog (qdZ N):=⟨qfk N,qtF,trivial⟩
abbrev Jc:=List qg×Nat×List (Int×qf×Nat)×Vector UInt8 16×qe×Vector UInt8 16×qe×qe
abbrev vl:=List qg×Int×Bool
def v8 (f:Jc) (y:vl):Ex×TSt:=(.exit 0,⟨2,32,[40,45,70,75,250,50080,50081,100020,100030],[(0,.yl 50080),(1,.p 100020 [] 0),(2,.p 100030 [] 0),(7,xi y.2.1),(8,xb y.2.2)],[(40,.cell false (.ag [.tv (.ba 16) f.2.2.2.1,.tv qm f.2.2.2.2.1,.v 45 f.1.length])),(45,.vec false 4 (.sl 4 qA) f.1),(70,.cell false (.ag [.tv (.ba 16) f.2.2.2.2.2.1,.tv qm f.2.2.2.2.2.2.1,.v 75 y.1.length])),(75,.vec false 4 (.sl 4 qA) (y.1:List qg)),(250,.map f.2.1 (.i .i64) qt f.2.2.1),(50080,.loop [44] 52 [(4,.p 40 [] 0),(7,.p 70 [] 0),(43,.fn (.func 145) [] [.p 100020 [] 0,.p 100030 [] 0])] 11300008 113 .ready none 50081),(50081,.dfr true),(100020,.cell false (.m 250)),(100030,.cell false (.tv qm f.2.2.2.2.2.2.2))],false,[]⟩)
def qjY (N:Nat):List (Nat×qy):=[]
abbrev v7:=List qg×Int
def qaK:SP:=⟨2,32,[40,45,70,75,250,50080,50081,100020,100030],[(0,.k (.yl 50080)),(1,.k (.p 100020 [] 0)),(2,.k (.p 100030 [] 0)),(7,.x (.i .i64))],[(40,.cell false (.ag [.x (.ba 16),.x qm,.vs 45])),(45,.vec false 4),(70,.cell false (.ag [.x (.ba 16),.x qm,.vs 75])),(75,.vec false 4),(250,.map (.i .i64) qt),(50080,.loop [44] 52 [(4,.k (.p 40 [] 0)),(7,.k (.p 70 [] 0)),(43,.fn 145 [] [.k (.p 100020 [] 0),.k (.p 100030 [] 0)])] 11300008 113 .ready none 50081),(50081,.dfr true),(100020,.cell false (.k (.m 250))),(100030,.cell false (.x qm))],false,[]⟩
def qjU (f:Jc) (v:v7):TSt:=zw qaK [dv (.sl 4 qA) f.1,dv (.sl 4 qA) v.1,dv .nat f.2.1,dv (KU (.i .i64) qt) f.2.2.1,dv (.ba 16) f.2.2.2.1,dv qm f.2.2.2.2.1,dv (.ba 16) f.2.2.2.2.2.1,dv qm f.2.2.2.2.2.2.1,dv qm f.2.2.2.2.2.2.2,dv (.i .i64) v.2]
def Jd (N:Nat) (o_1:List qg) (o_1_3:Nat) (o_1_4:List (Int×qf×Nat)) (o_1_5:Vector UInt8 16) (o_1_6:qe) (o_1_7:Vector UInt8 16) (o_1_8:qe) (o_1_9:qe) (v:v7):Tree (v7⊕vl):=
 .cond (decide (v.2 < ((8:Int)))) (
 .opt (fnd (β:=qf) (.i .i64) v.2 o_1_4) (
 .chk (qj (v.2 + 1)) <|
 .ret (.inl (v.1,v.2 + 1))) fun e1=>
 .bind (J7 N o_1_9 (qf.S e1.1)) fun r2=>
 .cond r2 (
 .bind (ju [(o_1.length,o_1.length),(v.1.length,v.1.length)] (K4 o_1 v.1 o_1_3 o_1_4 o_1_5 o_1_6 o_1_7 o_1_8 o_1_9 (qg.mk v.2 e1.1))) fun r3=>
 .chk (qj (v.2 + 1)) <|
 .ret (.inl (v.1++[qg.mk v.2 e1.1],v.2 + 1))) <|
 .chk (qj (v.2 + 1)) <|
 .ret (.inl (v.1,v.2 + 1))) <|
 .ret (.inr (v.1,v.2,decide (v.2 < ((8:Int)))))
def qaV (N n:Nat) (f:Jc) (v:v7):Option vl:=qQ (Jd N f.1 f.2.1 f.2.2.1 f.2.2.2.1 f.2.2.2.2.1 f.2.2.2.2.2.1 f.2.2.2.2.2.2.1 f.2.2.2.2.2.2.2) some n v
theorem qjJ (N:Nat) (f:Jc) (n:Nat) (v:v7) (y:vl) (h:qaV N n f v=some y):LG Tryz.prog WX 145 (qL qwe 1) (qjU f v) (v8 f y):=
 zl qk (E:=qdZ N) (L:=qI (qjY N)) (st:=v8 f) (g:=some) (R:=v8 f) (qbR N) (qq (by kernel_rfl) trivial) (rg0 (by kernel_rfl)) (fun v=>by kernel_rfl) (qU (st:=v8 f) fun y=>by rfl) (js0 rfl) n v y h
def WM (N:Nat) (o_1:List qg) (o_1_3:Nat) (o_1_4:List (Int×qf×Nat)) (o_1_5:Vector UInt8 16) (o_1_6:qe) (o_1_7:Vector UInt8 16) (o_1_8:qe) (o_1_9:qe) (o_1_2:List qg) (s7_1:Int):Option vl:=qaV N N (o_1,o_1_3,o_1_4,o_1_5,o_1_6,o_1_7,o_1_8,o_1_9) (o_1_2,s7_1)
def qaN (N:Nat):qy:=smL qaK [(.sl 4 qA),(.sl 4 qA),.nat,(KU (.i .i64) qt),(.ba 16),qm,(.ba 16),qm,qm,(.i .i64)] vl (fun x=>WM N x.1 x.2.2.1 x.2.2.2.1 x.2.2.2.2.1 x.2.2.2.2.2.1 x.2.2.2.2.2.2.1 x.2.2.2.2.2.2.2.1 x.2.2.2.2.2.2.2.2.1 x.2.1 x.2.2.2.2.2.2.2.2.2.1) cs1 fun x=>v8 (x.1,x.2.2.1,x.2.2.2.1,x.2.2.2.2.1,x.2.2.2.2.2.1,x.2.2.2.2.2.2.1,x.2.2.2.2.2.2.2.1,x.2.2.2.2.2.2.2.2.1)
theorem qjh (N:Nat):ji Tryz.prog WX 145 (qL qwe 1) (qaN N):=zu fun x z h=>qjJ N (x.1,x.2.2.1,x.2.2.2.1,x.2.2.2.2.1,x.2.2.2.2.2.1,x.2.2.2.2.2.2.1,x.2.2.2.2.2.2.2.1,x.2.2.2.2.2.2.2.2.1) N (x.2.1,x.2.2.2.2.2.2.2.2.2.1) z h
def qmi (a0:List qg) (a2:Nat) (a3:List (Int×qf×Nat)) (a4:Vector UInt8 16) (a5:qe) (a6:Vector UInt8 16) (a7:qe) (a8:qe) (z:List qg):TV×THp:=(.tup [],[(40,.cell false (.ag [.tv (.ba 16) a4,.tv qm a5,.v 45 a0.length])),(45,.vec false 4 (.sl 4 qA) a0),(70,.cell false (.ag [.tv (.ba 16) a6,.tv qm a7,.v 75 z.length])),(75,.vec false 4 (.sl 4 qA) z),(250,.map a2 (.i .i64) qt a3),(50080,.loop [44] 52 [(4,.p 40 [] 0),(7,.p 70 [] 0),(43,.fn (.func 145) [] [.p 100020 [] 0,.p 100030 [] 0])] 11300008 113 .ready none 50081),(50081,.dfr true),(100020,.cell false (.m 250)),(100030,.cell false (.tv qm a8))])
def W5 (N:Nat) (a0:List qg) (a1:List qg) (a2:Nat) (a3:List (Int×qf×Nat)) (a4:Vector UInt8 16) (a5:qe) (a6:Vector UInt8 16) (a7:qe) (a8:qe):Tree (List qg):=
 .bind (ju [(a0.length,a0.length),(a1.length,a1.length)] (WM N a0 a2 a3 a4 a5 a6 a7 a8 a1 0)) fun z1=>
 .ret z1.1
def XU (N:Nat) (a0:List qg) (a1:List qg) (a2:Nat) (a3:List (Int×qf×Nat)) (a4:Vector UInt8 16) (a5:qe) (a6:Vector UInt8 16) (a7:qe) (a8:qe):Option (List qg):=(W5 N a0 a1 a2 a3 a4 a5 a6 a7 a8).run some
def qmw (N:Nat):List (Nat×qy):=[(1,qaN N)]
def qdR (N:Nat):Ent:=smF ⟨145,[],[.k (.yl 50080)],[.k (.p 100020 [] 0),.k (.p 100030 [] 0)],[(40,.cell false (.ag [.x (.ba 16),.x qm,.vs 45])),(45,.vec false 4),(70,.cell false (.ag [.x (.ba 16),.x qm,.vs 75])),(75,.vec false 4),(250,.map (.i .i64) qt),(50080,.loop [44] 52 [(4,.k (.p 40 [] 0)),(7,.k (.p 70 [] 0)),(43,.fn 145 [] [.k (.p 100020 [] 0),.k (.p 100030 [] 0)])] 11300008 113 .ready none 50081),(50081,.dfr true),(100020,.cell false (.k (.m 250))),(100030,.cell false (.x qm))]⟩ [(.sl 4 qA),(.sl 4 qA),.nat,(KU (.i .i64) qt),(.ba 16),qm,(.ba 16),qm,qm] (List qg) (fun x=>XU N x.1 x.2.1 x.2.2.1 x.2.2.2.1 x.2.2.2.2.1 x.2.2.2.2.2.1 x.2.2.2.2.2.2.1 x.2.2.2.2.2.2.2.1 x.2.2.2.2.2.2.2.2.1) cs1 fun x=>qmi x.1 x.2.2.1 x.2.2.2.1 x.2.2.2.2.1 x.2.2.2.2.2.1 x.2.2.2.2.2.2.1 x.2.2.2.2.2.2.2.1 x.2.2.2.2.2.2.2.2.1
theorem ql8 (N:Nat):q_ Tryz.prog (qdR N):=
 q8 (H:=WX) (L:=qI (qmw N)) (ts:=[(.sl 4 qA),(.sl 4 qA),.nat,(KU (.i .i64) qt),(.ba 16),qm,(.ba 16),qm,qm]) (T:=fun x=>W5 N x.1 x.2.1 x.2.2.1 x.2.2.2.1 x.2.2.2.2.1 x.2.2.2.2.2.1 x.2.2.2.2.2.2.1 x.2.2.2.2.2.2.2.1 x.2.2.2.2.2.2.2.2.1) 1 qOP (qbR N) (qq (by kernel_rfl) ⟨qjh N,trivial⟩) (rg0 (by kernel_rfl)) fun x=>by kernel_rfl
noncomputable def qOx:Code:=Tryz.f113.body.getD .skip
theorem qPG:FnF Tryz.prog 113 Tryz.f113 qOx:=⟨qk,by kernel_rfl,by kernel_rfl,by kernel_rfl⟩
def qNh:TH:={ live:=[(0,[2,3,4]),(1,[2,3,4,23]),(2,[4,5]),(3,[2,3,4,6]),(4,[2,3,4,6]),(5,[2,3,4,6]),(6,[4,6,7]),(7,[4,7,43]),(8,[7,8]),(10,[4,5])],dec:=[12,17],fresh:=[43],nil:=[(0,[⟨.ob 40 [2],45,(.sl 4 qA)⟩]),(2,[⟨.ob 40 [2],45,(.sl 4 qA)⟩]),(6,[⟨.ob 70 [2],75,(.sl 4 qA)⟩])] }
def qLU (N:Nat):List Ent:=[qnk N,qiS N,qyk N,qf7,qdR N]
theorem qG6 (N:Nat):qO Tryz.prog (qLU N):=⟨qrC N,qts N,qGY N,qoI,ql8 N,trivial⟩
def qL5 (z:qa×Bool):TV×THp:=(.tup [.tv qh (z.1:qa),xb z.2],[])
def qrg (N:Nat) (a0:qa) (a1:qa):Tree (qa×Bool):=
 .bind (qiu N a0) fun r1=>
 .cond (!r1) (
 .chk (0=0) <|
 .ret (qa.mk ((Vector.replicate 16 0)) (qe.mk 0 0) [],false)) <|
 .bind (qiu N a1) fun r2=>
 .cond (!r2) (
 .chk (0=0) <|
 .ret (qa.mk ((Vector.replicate 16 0)) (qe.mk 0 0) [],false)) <|
 .cond (!(eqE (.ba 16) (qa.ID a0) (qa.ID a1))) (
 .chk (0=0) <|
 .ret (qa.mk ((Vector.replicate 16 0)) (qe.mk 0 0) [],false)) <|
 .bind (WC N 0 [] a0) fun r3=>
 .bind (WC N r3.1 r3.2 a1) fun r4=>
 .bind (qng N (qa.qW a0) (qa.qW a1)) fun r5=>
 .bind (qh0 r4.1 r4.2 r5) fun r6=>
 .bind (ju [(([]:List qg).length,0),(([]:List qg).length,0)] (XU N [] [] r4.1 r4.2 ((Vector.replicate 16 0)) (qe.mk 0 0) (qa.ID a0) r5 r5)) fun r7=>
 .chk (r7.length=r7.length) <|
 .ret (qa.mk (qa.ID a0) r5 r7,true)
def qrd (N:Nat) (a0:qa) (a1:qa):Option (qa×Bool):=(qrg N a0 a1).run some
def qMQ (N:Nat):List (Nat×qy):=[]
def qA3 (N:Nat):Ent:=smF ⟨113,[],[.x qh,.x qh],[],[]⟩ [qh,qh] (qa×Bool) (fun x=>qrd N x.1 x.2.1) cs1 fun _=>qL5
theorem qJO (N:Nat):q_ Tryz.prog (qA3 N):=
 q8 (H:=qNh) (L:=qI (qMQ N)) (ts:=[qh,qh]) (T:=fun x=>qrg N x.1 x.2.1) 0 qPG (qG6 N) (qq (by kernel_rfl) trivial) (rgs (by kernel_rfl)) fun x=>by kernel_rfl
noncomputable def qQi:Code:=Tryz.f155.body.getD .skip
theorem qOk:FnF Tryz.prog 155 Tryz.f155 qQi:=⟨qk,by kernel_rfl,by kernel_rfl,by kernel_rfl⟩
def qx8:TH:={ live:=[(0,[0,2]),(1,[0,2,4]),(2,[0]),(3,[0,2]),(4,[0,2,8]),(5,[0,2]),(6,[0,2]),(7,[0,2,14]),(8,[0,2]),(9,[0,2]),(10,[2])] }
def qyd (N:Nat):List Ent:=[]
theorem qtq (N:Nat):qO Tryz.prog (qyd N):=trivial
def qxB (z:Int):TV×THp:=(xi z,[])
def qkl (a0:Int):Tree (Int):=
 .cond (decide (((4294967296:Int))≤a0)) (
 .chk (0≤(32:Int)) <|
 .cond (decide (65536≤(Ji a0 32))) (
 .chk (0≤(16:Int)) <|
 .cond (decide (256≤(Ji (Ji a0 32) 16))) (
 .chk (0≤(8:Int)) <|
 let w1:Int:=IntKind.u8.wrap (Ji (Ji (Ji a0 32) 16) 8)
 .bind (qP qwj w1) fun e2=>
 .chk (qj ((e2.toNat:Nat):Int)) <|
 .chk (qj (((56:Int)) + ((e2.toNat:Nat):Int))) <|
 .ret (((56:Int)) + ((e2.toNat:Nat):Int))) <|
 .bind (qP qwj (IntKind.u8.wrap (Ji (Ji a0 32) 16))) fun e1=>
 .chk (qj ((e1.toNat:Nat):Int)) <|
 .chk (qj (((48:Int)) + ((e1.toNat:Nat):Int))) <|
 .ret (((48:Int)) + ((e1.toNat:Nat):Int))) <|
 .cond (decide (256≤(Ji a0 32))) (
 .chk (0≤(8:Int)) <|
 .bind (qP qwj (IntKind.u8.wrap (Ji (Ji a0 32) 8))) fun e1=>
 .chk (qj ((e1.toNat:Nat):Int)) <|
 .chk (qj (((40:Int)) + ((e1.toNat:Nat):Int))) <|
 .ret (((40:Int)) + ((e1.toNat:Nat):Int))) <|
 .bind (qP qwj (IntKind.u8.wrap (Ji a0 32))) fun e1=>
 .chk (qj ((e1.toNat:Nat):Int)) <|
 .chk (qj (((32:Int)) + ((e1.toNat:Nat):Int))) <|
 .ret (((32:Int)) + ((e1.toNat:Nat):Int))) <|
 .cond (decide (((65536:Int))≤a0)) (
 .chk (0≤(16:Int)) <|
 .cond (decide (256≤(Ji a0 16))) (
 .chk (0≤(8:Int)) <|
 .bind (qP qwj (IntKind.u8.wrap (Ji (Ji a0 16) 8))) fun e1=>
 .chk (qj ((e1.toNat:Nat):Int)) <|
 .chk (qj (((24:Int)) + ((e1.toNat:Nat):Int))) <|
 .ret (((24:Int)) + ((e1.toNat:Nat):Int))) <|
 .bind (qP qwj (IntKind.u8.wrap (Ji a0 16))) fun e1=>
 .chk (qj ((e1.toNat:Nat):Int)) <|
 .chk (qj (((16:Int)) + ((e1.toNat:Nat):Int))) <|
 .ret (((16:Int)) + ((e1.toNat:Nat):Int))) <|
 .cond (decide (((256:Int))≤a0)) (
 .chk (0≤(8:Int)) <|
 .bind (qP qwj (IntKind.u8.wrap (Ji a0 8))) fun e1=>
 .chk (qj ((e1.toNat:Nat):Int)) <|
 .chk (qj (((8:Int)) + ((e1.toNat:Nat):Int))) <|
 .ret (((8:Int)) + ((e1.toNat:Nat):Int))) <|
 .bind (qP qwj (IntKind.u8.wrap a0)) fun e1=>
 .chk (qj ((e1.toNat:Nat):Int)) <|
 .chk (qj (((0:Int)) + ((e1.toNat:Nat):Int))) <|
 .ret (((0:Int)) + ((e1.toNat:Nat):Int))
def qnu (a0:Int):Option (Int):=(qkl a0).run some
def qxG:List (Nat×qy):=[]
def qkk:Ent:=smF ⟨155,[],[.x (.i .u64)],[],[]⟩ [(.i .u64)] (Int) (fun x=>qnu x.1) cs1 fun _=>qxB
theorem qwf:q_ Tryz.prog (qkk):=
 q8 (H:=qx8) (L:=qI (qxG)) (ts:=[(.i .u64)]) (T:=fun x=>qkl x.1) 0 qOk (qtq 0) (qq (by kernel_rfl) trivial) (rg0 (by kernel_rfl)) fun x=>by kernel_rfl
noncomputable def qNY:Code:=Tryz.f134.body.getD .skip
theorem qQp:FnF Tryz.prog 134 Tryz.f134 qNY:=⟨qk,by kernel_rfl,by kernel_rfl,by kernel_rfl⟩
def qCt:TH:={ live:=[(0,[0]),(1,[2]),(2,[2])] }
def qBU (N:Nat):List Ent:=[qkk]
theorem qxE (N:Nat):qO Tryz.prog (qBU N):=⟨qwf,trivial⟩
def qBj (z:Int):TV×THp:=(xi z,[])
def qm4 (a0:Int):Tree (Int):=
 .bind (qnu a0) fun r1=>
 .ret r1
def qfv (a0:Int):Option (Int):=(qm4 a0).run some
def qAD:List (Nat×qy):=[]
def qnh:Ent:=smF ⟨134,[],[.x (.i .u64)],[],[]⟩ [(.i .u64)] (Int) (fun x=>qfv x.1) cs1 fun _=>qBj
theorem qAm:q_ Tryz.prog (qnh):=
 q8 (H:=qCt) (L:=qI (qAD)) (ts:=[(.i .u64)]) (T:=fun x=>qm4 x.1) 0 qQp (qxE 0) (qq (by kernel_rfl) trivial) (rg0 (by kernel_rfl)) fun x=>by kernel_rfl
noncomputable def qOZ:Code:=Tryz.f115.body.getD .skip
theorem qOT:FnF Tryz.prog 115 Tryz.f115 qOZ:=⟨qk,by kernel_rfl,by kernel_rfl,by kernel_rfl⟩
def qDk:TH:={ live:=[(0,[2,3]),(1,[4])] }
def qC1 (N:Nat):List Ent:=[qb8]
theorem qzy (N:Nat):qO Tryz.prog (qC1 N):=⟨qfF,trivial⟩
def qDf (z:Int):TV×THp:=(xi z,[])
def qqs (a0:Vector UInt8 16) (a1:Vector UInt8 16):Tree (Int):=
 .bind (qaU a0.toList a1.toList) fun r1=>
 .ret r1
def qlz (a0:Vector UInt8 16) (a1:Vector UInt8 16):Option (Int):=(qqs a0 a1).run some
def qC8:List (Nat×qy):=[]
def qql:Ent:=smF ⟨115,[],[.x (.ba 16),.x (.ba 16)],[],[]⟩ [(.ba 16),(.ba 16)] (Int) (fun x=>qlz x.1 x.2.1) cs1 fun _=>qDf
theorem qBX:q_ Tryz.prog (qql):=
 q8 (H:=qDk) (L:=qI (qC8)) (ts:=[(.ba 16),(.ba 16)]) (T:=fun x=>qqs x.1 x.2.1) 0 qOT (qzy 0) (qq (by kernel_rfl) trivial) (rg0 (by kernel_rfl)) fun x=>by kernel_rfl
noncomputable def qjq:Code:=Tryz.f146.body.getD .skip
theorem qNV:FnF Tryz.prog 146 Tryz.f146 qjq:=⟨qk,by kernel_rfl,by kernel_rfl,by kernel_rfl⟩
def jX:TH:={ live:=[(0,[0,1,2,3,8]),(1,[0,1,2,3,8,14]),(2,[0,1,2,3,8]),(3,[0,1,2,3,8,9]),(4,[0,1,2,3,8,9,34]),(5,[0,1,2,3,8,9]),(6,[0,1,2,3,8,9])],dec:=[21] }
def Jf (N:Nat):List Ent:=[qql]
theorem Zq (N:Nat):qO Tryz.prog (Jf N):=⟨qBX,trivial⟩
abbrev vp:=Nat×Int×Int×Int
abbrev ja:=List (Vector UInt8 16)×Int×Bool
def jK (f:vp) (y:ja):Ex×TSt:=(.exit 2,⟨1,53,[75],[(0,.v 75 f.1),(1,xi f.2.1),(2,xi f.2.2.1),(3,.fn (.func 115) [] []),(8,xi f.2.2.2),(9,xi y.2.1),(34,xb y.2.2)],[(75,.vec false 16 (.sl 16 (.ba 16)) (y.1:List (Vector UInt8 16)))],false,[]⟩)
def qdp (N:Nat):List (Nat×qy):=[]
abbrev jG:=List (Vector UInt8 16)×Int
def Xr:SP:=⟨1,53,[75],[(0,.v 75),(1,.x (.i .i64)),(2,.x (.i .i64)),(3,.fn 115 [] []),(8,.x (.i .i64)),(9,.x (.i .i64))],[(75,.vec false 16)],false,[]⟩
def qdn (f:vp) (v:jG):TSt:=zw Xr [dv (.sl 16 (.ba 16)) v.1,dv .nat f.1,dv (.i .i64) f.2.1,dv (.i .i64) f.2.2.1,dv (.i .i64) f.2.2.2,dv (.i .i64) v.2]
def jI (N:Nat) (s0_4:Nat) (s1_4:Int) (s2_4:Int) (s8_4:Int) (v:jG):Tree (jG⊕ja):=
 .cond (decide (s1_4 < v.2)) (
 .chk (0≤v.2∧v.2 < ((s0_4:Nat):Int)) <|
 .bind (jM v.1 s0_4 v.2.toNat) fun e1=>
 .chk (qj (v.2 - 1)) <|
 .chk (0≤(v.2 - 1)∧(v.2 - 1) < ((s0_4:Nat):Int)) <|
 .bind (jM v.1 s0_4 ((v.2 - 1).toNat)) fun e2=>
 .bind (qlz e1 e2) fun r3=>
 .cond (decide (r3 < ((0:Int)))) (
 .chk (qj (v.2 - 1)) <|
 .chk (qj (v.2 - 1)) <|
 .chk (0≤(v.2 - 1)∧(v.2 - 1) < ((s0_4:Nat):Int)) <|
 .bind (jM v.1 s0_4 ((v.2 - 1).toNat)) fun e4=>
 .chk (0≤v.2∧v.2 < ((s0_4:Nat):Int)) <|
 .bind (jM v.1 s0_4 v.2.toNat) fun e5=>
 .chk (0≤v.2∧v.2 < ((s0_4:Nat):Int)) <|
 .chk (qiI v.1.length s0_4 v.2.toNat) <|
 .chk (0≤(v.2 - 1)∧(v.2 - 1) < ((s0_4:Nat):Int)) <|
 .chk (qiI ((v.1.set v.2.toNat e4).length) s0_4 ((v.2 - 1).toNat)) <|
 .chk (qj (v.2 - 1)) <|
 .ret (.inl ((v.1.set v.2.toNat e4).set ((v.2 - 1).toNat) e5,v.2 - 1))) <|
 .ret (.inr (v.1,v.2,decide (r3 < ((0:Int)))))) <|
 .ret (.inr (v.1,v.2,false))
def XE (N n:Nat) (f:vp) (v:jG):Option ja:=qQ (jI N f.1 f.2.1 f.2.2.1 f.2.2.2) some n v
theorem qdE (N:Nat) (f:vp) (n:Nat) (v:jG) (y:ja) (h:XE N n f v=some y):LG Tryz.prog jX 146 (qL (qL qjq 1) 4) (qdn f v) (jK f y):=
 zl qk (E:=Jf N) (L:=qI (qdp N)) (st:=jK f) (g:=some) (R:=jK f) (Zq N) (qq (by kernel_rfl) trivial) (rg0 (by kernel_rfl)) (fun v=>by kernel_rfl) (qU (st:=jK f) fun y=>by rfl) (js0 rfl) n v y h
def Wn (N:Nat) (s0_4:Nat) (s1_4:Int) (s2_4:Int) (s8_4:Int) (o_4:List (Vector UInt8 16)) (s9_4:Int):Option ja:=XE N N (s0_4,s1_4,s2_4,s8_4) (o_4,s9_4)
def XN (N:Nat):qy:=smL Xr [(.sl 16 (.ba 16)),.nat,(.i .i64),(.i .i64),(.i .i64),(.i .i64)] ja (fun x=>Wn N x.2.1 x.2.2.1 x.2.2.2.1 x.2.2.2.2.1 x.1 x.2.2.2.2.2.1) cs1 fun x=>jK (x.2.1,x.2.2.1,x.2.2.2.1,x.2.2.2.2.1)
theorem qcs (N:Nat):ji Tryz.prog jX 146 (qL (qL qjq 1) 4) (XN N):=zu fun x z h=>qdE N (x.2.1,x.2.2.1,x.2.2.2.1,x.2.2.2.2.1) N (x.1,x.2.2.2.2.2.1) z h
abbrev vw:=Nat×Int×Int
abbrev z_:=List (Vector UInt8 16)×Int×Bool
def jD (f:vw) (y:z_):Ex×TSt:=(.exit 0,⟨1,53,[75],[(0,.v 75 f.1),(1,xi f.2.1),(2,xi f.2.2),(3,.fn (.func 115) [] []),(8,xi y.2.1),(14,xb y.2.2)],[(75,.vec false 16 (.sl 16 (.ba 16)) (y.1:List (Vector UInt8 16)))],false,[]⟩)
def qdt (N:Nat):List (Nat×qy):=[(4,XN N)]
abbrev jA:=List (Vector UInt8 16)×Int
def XJ:SP:=⟨1,53,[75],[(0,.v 75),(1,.x (.i .i64)),(2,.x (.i .i64)),(3,.fn 115 [] []),(8,.x (.i .i64))],[(75,.vec false 16)],false,[]⟩
def qdI (f:vw) (v:jA):TSt:=zw XJ [dv (.sl 16 (.ba 16)) v.1,dv .nat f.1,dv (.i .i64) f.2.1,dv (.i .i64) f.2.2,dv (.i .i64) v.2]
def zM (N:Nat) (s0_1:Nat) (s1_1:Int) (s2_1:Int) (v:jA):Tree (jA⊕z_):=
 .cond (decide (v.2 < s2_1)) (
 .bind (Wn N s0_1 s1_1 s2_1 v.2 v.1 v.2) fun z1=>
 .chk (qj (v.2 + 1)) <|
 .ret (.inl (z1.1,v.2 + 1))) <|
 .ret (.inr (v.1,v.2,decide (v.2 < s2_1)))
def XO (N n:Nat) (f:vw) (v:jA):Option z_:=qQ (zM N f.1 f.2.1 f.2.2) some n v
theorem qdl (N:Nat) (f:vw) (n:Nat) (v:jA) (y:z_) (h:XO N n f v=some y):LG Tryz.prog jX 146 (qL qjq 1) (qdI f v) (jD f y):=
 zl qk (E:=Jf N) (L:=qI (qdt N)) (st:=jD f) (g:=some) (R:=jD f) (Zq N) (qq (by kernel_rfl) ⟨qcs N,trivial⟩) (rg0 (by kernel_rfl)) (fun v=>by kernel_rfl) (qU (st:=jD f) fun y=>by rfl) (js0 rfl) n v y h
def vJ (N:Nat) (s0_1:Nat) (s1_1:Int) (s2_1:Int) (o_1:List (Vector UInt8 16)) (s8_1:Int):Option z_:=XO N N (s0_1,s1_1,s2_1) (o_1,s8_1)
def XL (N:Nat):qy:=smL XJ [(.sl 16 (.ba 16)),.nat,(.i .i64),(.i .i64),(.i .i64)] z_ (fun x=>vJ N x.2.1 x.2.2.1 x.2.2.2.1 x.1 x.2.2.2.2.1) cs1 fun x=>jD (x.2.1,x.2.2.1,x.2.2.2.1)
theorem qdf (N:Nat):ji Tryz.prog jX 146 (qL qjq 1) (XL N):=zu fun x z h=>qdl N (x.2.1,x.2.2.1,x.2.2.2.1) N (x.1,x.2.2.2.2.1) z h
def qfL (z:List (Vector UInt8 16)):TV×THp:=(.tup [],[(75,.vec false 16 (.sl 16 (.ba 16)) z)])
def vX (N:Nat) (a0:List (Vector UInt8 16)) (a1:Int) (a2:Int):Tree (List (Vector UInt8 16)):=
 .chk (qj (a1 + 1)) <|
 .bind (vJ N a0.length a1 a2 a0 (a1 + 1)) fun z1=>
 .ret z1.1
def jd (N:Nat) (a0:List (Vector UInt8 16)) (a1:Int) (a2:Int):Option (List (Vector UInt8 16)):=(vX N a0 a1 a2).run some
def qfC (N:Nat):List (Nat×qy):=[(1,XL N)]
def WL (N:Nat):Ent:=smF ⟨146,[],[.vs 75,.x (.i .i64),.x (.i .i64),.fn 115 [] []],[],[(75,.vec false 16)]⟩ [(.sl 16 (.ba 16)),(.i .i64),(.i .i64)] (List (Vector UInt8 16)) (fun x=>jd N x.1 x.2.1 x.2.2.1) cs1 fun _=>qfL
theorem qeE (N:Nat):q_ Tryz.prog (WL N):=
 q8 (H:=jX) (L:=qI (qfC N)) (ts:=[(.sl 16 (.ba 16)),(.i .i64),(.i .i64)]) (T:=fun x=>vX N x.1 x.2.1 x.2.2.1) 0 qNV (Zq N) (qq (by kernel_rfl) ⟨qdf N,trivial⟩) (rg0 (by kernel_rfl)) fun x=>by kernel_rfl
noncomputable def qu9:Code:=Tryz.f133.body.getD .skip
theorem qOe:FnF Tryz.prog 133 Tryz.f133 qu9:=⟨qk,by kernel_rfl,by kernel_rfl,by kernel_rfl⟩
def XW:TH:={ live:=[(0,[0,1,2,3,4,10]),(1,[0,1,2,3,4,10,11]),(2,[0,1,2,3,4,10,11,12]),(3,[0,1,2,3,4,10,11,12,25]),(5,[0,1,2,3,4,10,11,12,32]),(7,[0,1,2,3,4,10,11,12,39]),(8,[0,1,2,3,4,10,11,12]),(9,[0,1,2,3,4,10,11,12]),(10,[0,1,2,3,4,10,11,12,13,14]),(11,[0,1,2,3,4,10,11,12,13,14,56]),(12,[0,1,2,3,4,10,11,12,13]),(13,[0,1,2,3,4,10,11,12,13]),(14,[0,1,2,3,4,10,11,12,13,14]),(15,[0,1,2,3,4,10,11,12,13,75]),(16,[0,1,2,3,4,10,11,12,13,80]),(17,[0,1,2,3,4,10,11,12,13,97]),(18,[0,2,3,4,10,11,15]),(19,[0,1,2,3,4,10,11]),(20,[0,1,2,3,4,12,16,17]),(21,[0,1,2,3,4,11,12,16]),(22,[0,1,2,3,4,11,12,16,18,19]),(23,[0,1,2,3,4,11,16,18,19,20]),(24,[0,1,2,3,4,11,16,18,19,20,125]),(25,[0,1,2,3,4,10,11,16]),(26,[0,2,3,4,10,11,16]),(27,[0,1,2,3,4,10,11]),(28,[0,1,2,3,4,10,11,16]),(29,[0,1,3,4,10,11,16]),(30,[0,1,2,3,4,10,11])],dec:=[69,72,83],raw:=[146] }
def qa3 (N:Nat):List Ent:=[WL N]
theorem KH (N:Nat):qO Tryz.prog (qa3 N):=⟨qeE N,trivial⟩
abbrev QV:=List (Vector UInt8 16)×Int×Int×Int
abbrev jN:=List (Vector UInt8 16)
def vB (f:QV) (y:jN):Ex×TSt:=(.ret,⟨1,148,[75],[],[(75,.vec false 16 (.sl 16 (.ba 16)) y)],false,[]⟩)
def qhK (N:Nat):List (Nat×qy):=[]
abbrev vA:=Unit
def YV:SP:=⟨1,148,[75],[(0,.vs 75),(1,.x (.i .i64)),(2,.x (.i .i64)),(3,.x (.i .i64)),(4,.fn 115 [] []),(10,.k (.bc true)),(11,.k (.bc true))],[(75,.vec false 16)],false,[]⟩
def qhL (f:QV) (v:vA):TSt:=zw YV [dv (.sl 16 (.ba 16)) f.1,dv (.i .i64) f.2.1,dv (.i .i64) f.2.2.1,dv (.i .i64) f.2.2.2]
def QW (N:Nat) (o_2:List (Vector UInt8 16)) (s1_2:Int) (s2_2:Int) (s3_2:Int) (v:vA):Tree (vA⊕jN):=
 .chk (qj (s2_2 - s1_2)) <|
 .cond (decide ((s2_2 - s1_2)≤12)) (
 .bind (ju [(o_2.length,o_2.length)] (jd N o_2 s1_2 s2_2)) fun r1=>
 .ret (.inr r1)) <|
 .cond (decide (s3_2=((0:Int)))) (
 .chk (o_2.length=o_2.length) <|
 .no) <|
 .chk (o_2.length=o_2.length) <|
 .no
def YT (N n:Nat) (f:QV) (v:vA):Option jN:=qQ (QW N f.1 f.2.1 f.2.2.1 f.2.2.2) some n v
theorem qhJ (N:Nat) (f:QV) (n:Nat) (v:vA) (y:jN) (h:YT N n f v=some y):LG Tryz.prog XW 133 (qL qu9 2) (qhL f v) (vB f y):=
 zl qk (E:=qa3 N) (L:=qI (qhK N)) (st:=vB f) (g:=some) (R:=vB f) (KH N) (qq (by kernel_rfl) trivial) (rg0 (by kernel_rfl)) (fun v=>by kernel_rfl) (qU (st:=vB f) fun y=>by rfl) (js0 rfl) n v y h
def Xo (N:Nat) (o_2:List (Vector UInt8 16)) (s1_2:Int) (s2_2:Int) (s3_2:Int):Option jN:=YT N N (o_2,s1_2,s2_2,s3_2) ()
def YU (N:Nat):qy:=smL YV [(.sl 16 (.ba 16)),(.i .i64),(.i .i64),(.i .i64)] jN (fun x=>Xo N x.1 x.2.1 x.2.2.1 x.2.2.2.1) cs1 fun x=>vB (x.1,x.2.1,x.2.2.1,x.2.2.2.1)
theorem qgR (N:Nat):ji Tryz.prog XW 133 (qL qu9 2) (YU N):=zu fun x z h=>qhJ N (x.1,x.2.1,x.2.2.1,x.2.2.2.1) N () z h
def qj1 (z:List (Vector UInt8 16)):TV×THp:=(.tup [],[(75,.vec false 16 (.sl 16 (.ba 16)) z)])
def XZ (N:Nat) (a0:List (Vector UInt8 16)) (a1:Int) (a2:Int) (a3:Int):Tree (List (Vector UInt8 16)):=
 .bind (ju [(a0.length,a0.length)] (Xo N a0 a1 a2 a3)) fun z1=>
 .ret z1
def JY (N:Nat) (a0:List (Vector UInt8 16)) (a1:Int) (a2:Int) (a3:Int):Option (List (Vector UInt8 16)):=(XZ N a0 a1 a2 a3).run some
def qjW (N:Nat):List (Nat×qy):=[(2,YU N)]
def qaQ (N:Nat):Ent:=smF ⟨133,[],[.vs 75,.x (.i .i64),.x (.i .i64),.x (.i .i64),.fn 115 [] []],[],[(75,.vec false 16)]⟩ [(.sl 16 (.ba 16)),(.i .i64),(.i .i64),(.i .i64)] (List (Vector UInt8 16)) (fun x=>JY N x.1 x.2.1 x.2.2.1 x.2.2.2.1) cs1 fun _=>qj1
theorem qjp (N:Nat):q_ Tryz.prog (qaQ N):=
 q8 (H:=XW) (L:=qI (qjW N)) (ts:=[(.sl 16 (.ba 16)),(.i .i64),(.i .i64),(.i .i64)]) (T:=fun x=>XZ N x.1 x.2.1 x.2.2.1 x.2.2.2.1) 0 qOe (KH N) (qq (by kernel_rfl) ⟨qgR N,trivial⟩) (rg0 (by kernel_rfl)) fun x=>by kernel_rfl
noncomputable def qNK:Code:=Tryz.f114.body.getD .skip
theorem qNr:FnF Tryz.prog 114 Tryz.f114 qNK:=⟨qk,by kernel_rfl,by kernel_rfl,by kernel_rfl⟩
def qr9:TH:={ live:=[(0,[0,1,4])],raw:=[133] }
def qq9 (N:Nat):List Ent:=[qnh,qaQ N]
theorem qpa (N:Nat):qO Tryz.prog (qq9 N):=⟨qAm,qjp N,trivial⟩
def qrq (z:List (Vector UInt8 16)):TV×THp:=(.tup [],[(75,.vec false 16 (.sl 16 (.ba 16)) z)])
def qaA (N:Nat) (a0:List (Vector UInt8 16)):Tree (List (Vector UInt8 16)):=
 let w1:Int:=IntKind.u64.wrap ((a0.length:Nat):Int)
 .bind (qfv w1) fun r2=>
 .bind (ju [(a0.length,a0.length)] (JY N a0 0 ((a0.length:Nat):Int) r2)) fun r3=>
 .ret r3
def Yz (N:Nat) (a0:List (Vector UInt8 16)):Option (List (Vector UInt8 16)):=(qaA N a0).run some
def qqR (N:Nat):List (Nat×qy):=[]
def qhr (N:Nat):Ent:=smF ⟨114,[],[.vs 75,.fn 115 [] []],[],[(75,.vec false 16)]⟩ [(.sl 16 (.ba 16))] (List (Vector UInt8 16)) (fun x=>Yz N x.1) cs1 fun _=>qrq
theorem qpT (N:Nat):q_ Tryz.prog (qhr N):=
 q8 (H:=qr9) (L:=qI (qqR N)) (ts:=[(.sl 16 (.ba 16))]) (T:=fun x=>qaA N x.1) 0 qNr (qpa N) (qq (by kernel_rfl) trivial) (rg0 (by kernel_rfl)) fun x=>by kernel_rfl
noncomputable def qlu:Code:=Tryz.f83.body.getD .skip
theorem qR_:FnF Tryz.prog 83 Tryz.f83 qlu:=⟨qk,by kernel_rfl,by kernel_rfl,by kernel_rfl⟩
def qe4:TH:={ live:=[(0,[2,3,4]),(1,[2,3,4,22]),(2,[4,5]),(3,[2,3,4,6]),(4,[2,3,4,6,7]),(5,[4,6,7,30,31,32]),(6,[4,6,7,30,31,32,33]),(7,[4,6,7,9,30,31,32]),(8,[4,6,7,9,10,11,30,31,32]),(9,[4,6,7,9,10,30,31,32,44]),(10,[4,6,7,9,30,31,32]),(11,[4,6,7,30,31,32]),(12,[4,6,7,30,31,32]),(13,[4,6,7,30,31,32]),(14,[4,6,7,67]),(15,[4,5]),(16,[4,6,7]),(17,[4,6,7,12]),(18,[4,6,12,71,72,73]),(19,[4,6,12,71,72,73,74]),(20,[4,6,12,14,71,72,73]),(21,[4,6,12,71,72,73]),(22,[4,6,12,71,72,73]),(23,[4,5])],dec:=[18],raw:=[114],nil:=[(0,[⟨.ob 40 [0],43,(.sl 19 qh)⟩]),(2,[⟨.ob 40 [0],43,(.sl 19 qh)⟩]),(4,[⟨.sl 7,75,(.sl 16 (.ba 16))⟩]),(8,[⟨.ob 100 [2],105,(.sl 4 qA)⟩]),(15,[⟨.ob 40 [0],43,(.sl 19 qh)⟩]),(17,[⟨.ob 120 [0],123,(.sl 19 qh)⟩])] }
def qoS (N:Nat):List Ent:=[qkP N,qh8 N,qrX,qA3 N,qhr N]
theorem qjT (N:Nat):qO Tryz.prog (qoS N):=⟨qnG N,qr3 N,qyQ,qJO N,qpT N,trivial⟩
abbrev qdw:=List qa×List qa×Int
abbrev Ww:=List (Vector UInt8 16)×Nat×List (Vector UInt8 16×qa×Nat)×Int×Bool
def Kt (f:qdw) (y:Ww):Ex×TSt:=(.exit 0,⟨0,87,[],[(4,.p 40 [] 0),(6,.m 240),(7,.v 75 y.1.length),(30,.tv (.sl 19 qh) f.2.1),(31,xi f.2.2),(32,xi y.2.2.2.1),(33,xb y.2.2.2.2)],[(40,.cell false (.ag [.v 43 f.1.length])),(43,.vec false 19 (.sl 19 qh) f.1),(75,.vec false 16 (.sl 16 (.ba 16)) (y.1:List (Vector UInt8 16))),(240,.map y.2.1 (.ba 16) qh (y.2.2.1:List (Vector UInt8 16×qa×Nat)))],false,[]⟩)
def qCW (N:Nat):List (Nat×qy):=[]
abbrev Ks:=List (Vector UInt8 16)×Nat×List (Vector UInt8 16×qa×Nat)×Int
def qpI:SP:=⟨0,87,[],[(4,.k (.p 40 [] 0)),(6,.k (.m 240)),(7,.vs 75),(30,.x (.sl 19 qh)),(31,.x (.i .i64)),(32,.x (.i .i64))],[(40,.cell false (.ag [.vs 43])),(43,.vec false 19),(75,.vec false 16),(240,.map (.ba 16) qh)],false,[]⟩
def qCD (f:qdw) (v:Ks):TSt:=zw qpI [dv (.sl 19 qh) f.1,dv (.sl 16 (.ba 16)) v.1,dv .nat v.2.1,dv (KU (.ba 16) qh) v.2.2.1,dv (.sl 19 qh) f.2.1,dv (.i .i64) f.2.2,dv (.i .i64) v.2.2.2]
def Ku (N:Nat) (o_6:List qa) (s30_6:List qa) (s31_6:Int) (v:Ks):Tree (Ks⊕Ww):=
 .cond (decide (v.2.2.2 < s31_6)) (
 .bind (qP s30_6 v.2.2.2) fun e1=>
 .opt (fnd (β:=qa) (.ba 16) (qa.ID e1) v.2.2.1) (
 .chk (jx v.1.length v.1.length ((v.1++[qa.ID e1]).length) 16) <|
 .bind (qfI e1) fun r3=>
 .chk (qj (v.2.2.2 + 1)) <|
 .ret (.inl (v.1++[qa.ID e1],(JV (.ba 16) (qa.ID e1) (qa.mk (qa.ID e1) (qa.qW e1) ((([]:List qg))++(qa.F e1))) v.2.1 v.2.2.1).1,(JV (.ba 16) (qa.ID e1) (qa.mk (qa.ID e1) (qa.qW e1) ((([]:List qg))++(qa.F e1))) v.2.1 v.2.2.1).2,v.2.2.2 + 1))) fun e2=>
 .bind (qrd N e2.1 e1) fun r3=>
 .chk (qj (v.2.2.2 + 1)) <|
 .ret (.inl (v.1,(JV (.ba 16) (qa.ID e1) r3.1 v.2.1 v.2.2.1).1,(JV (.ba 16) (qa.ID e1) r3.1 v.2.1 v.2.2.1).2,v.2.2.2 + 1))) <|
 .ret (.inr (v.1,v.2.1,v.2.2.1,v.2.2.2,decide (v.2.2.2 < s31_6)))
def qpu (N n:Nat) (f:qdw) (v:Ks):Option Ww:=qQ (Ku N f.1 f.2.1 f.2.2) some n v
theorem qCT (N:Nat) (f:qdw) (n:Nat) (v:Ks) (y:Ww) (h:qpu N n f v=some y):LG Tryz.prog qe4 83 (qL qlu 6) (qCD f v) (Kt f y):=
 zl qk (E:=qoS N) (L:=qI (qCW N)) (st:=Kt f) (g:=some) (R:=Kt f) (qjT N) (qq (by kernel_rfl) trivial) (rg0 (by kernel_rfl)) (fun v=>by kernel_rfl) (qU (st:=Kt f) fun y=>by rfl) (js0 rfl) n v y h
def qlg (N:Nat) (o_6:List qa) (s30_6:List qa) (s31_6:Int) (o_6_2:List (Vector UInt8 16)) (o_6_3:Nat) (o_6_4:List (Vector UInt8 16×qa×Nat)) (s32_6:Int):Option Ww:=qpu N N (o_6,s30_6,s31_6) (o_6_2,o_6_3,o_6_4,s32_6)
def qpX (N:Nat):qy:=smL qpI [(.sl 19 qh),(.sl 16 (.ba 16)),.nat,(KU (.ba 16) qh),(.sl 19 qh),(.i .i64),(.i .i64)] Ww (fun x=>qlg N x.1 x.2.2.2.2.1 x.2.2.2.2.2.1 x.2.1 x.2.2.1 x.2.2.2.1 x.2.2.2.2.2.2.1) cs1 fun x=>Kt (x.1,x.2.2.2.2.1,x.2.2.2.2.2.1)
theorem qBV (N:Nat):ji Tryz.prog qe4 83 (qL qlu 6) (qpX N):=zu fun x z h=>qCT N (x.1,x.2.2.2.2.1,x.2.2.2.2.2.1) N (x.2.1,x.2.2.1,x.2.2.2.1,x.2.2.2.2.2.2.1) z h
abbrev qbW:=List qa×List (Vector UInt8 16)×Nat×List (Vector UInt8 16×qa×Nat)×Nat×Int
abbrev XI:=List qa×Int×Bool
def Yl (f:qbW) (y:XI):Ex×TSt:=(.exit 2,⟨0,87,[],[(4,.p 40 [] 0),(6,.m 240),(12,.p 120 [] 0),(71,.v 75 f.2.2.2.2.1),(72,xi f.2.2.2.2.2),(73,xi y.2.1),(74,xb y.2.2)],[(40,.cell false (.ag [.v 43 f.1.length])),(43,.vec false 19 (.sl 19 qh) f.1),(75,.vec false 16 (.sl 16 (.ba 16)) f.2.1),(120,.cell false (.ag [.v 123 y.1.length])),(123,.vec false 19 (.sl 19 qh) (y.1:List qa)),(240,.map f.2.2.1 (.ba 16) qh f.2.2.2.1)],false,[]⟩)
def qCu (N:Nat):List (Nat×qy):=[]
abbrev Yt:=List qa×Int
def qm3:SP:=⟨0,87,[],[(4,.k (.p 40 [] 0)),(6,.k (.m 240)),(12,.k (.p 120 [] 0)),(71,.v 75),(72,.x (.i .i64)),(73,.x (.i .i64))],[(40,.cell false (.ag [.vs 43])),(43,.vec false 19),(75,.vec false 16),(120,.cell false (.ag [.vs 123])),(123,.vec false 19),(240,.map (.ba 16) qh)],false,[]⟩
def qBN (f:qbW) (v:Yt):TSt:=zw qm3 [dv (.sl 19 qh) f.1,dv (.sl 16 (.ba 16)) f.2.1,dv (.sl 19 qh) v.1,dv .nat f.2.2.1,dv (KU (.ba 16) qh) f.2.2.2.1,dv .nat f.2.2.2.2.1,dv (.i .i64) f.2.2.2.2.2,dv (.i .i64) v.2]
def qbY (N:Nat) (o_19:List qa) (o_19_2:List (Vector UInt8 16)) (o_19_4:Nat) (o_19_5:List (Vector UInt8 16×qa×Nat)) (s71_19:Nat) (s72_19:Int) (v:Yt):Tree (Yt⊕XI):=
 .cond (decide (v.2 < s72_19)) (
 .chk (0≤v.2∧v.2 < ((s71_19:Nat):Int)) <|
 .bind (jM o_19_2 s71_19 v.2.toNat) fun e1=>
 .opt (fnd (β:=qa) (.ba 16) e1 o_19_5) (
 .chk (jx v.1.length v.1.length ((v.1++[qa.mk ((Vector.replicate 16 0)) (qe.mk 0 0) []]).length) 56) <|
 .chk (qj (v.2 + 1)) <|
 .ret (.inl (v.1++[qa.mk ((Vector.replicate 16 0)) (qe.mk 0 0) []],v.2 + 1))) fun e2=>
 .chk (jx v.1.length v.1.length ((v.1++[e2.1]).length) 56) <|
 .chk (qj (v.2 + 1)) <|
 .ret (.inl (v.1++[e2.1],v.2 + 1))) <|
 .ret (.inr (v.1,v.2,decide (v.2 < s72_19)))
def qne (N n:Nat) (f:qbW) (v:Yt):Option XI:=qQ (qbY N f.1 f.2.1 f.2.2.1 f.2.2.2.1 f.2.2.2.2.1 f.2.2.2.2.2) some n v
theorem qCs (N:Nat) (f:qbW) (n:Nat) (v:Yt) (y:XI) (h:qne N n f v=some y):LG Tryz.prog qe4 83 (qL qlu 19) (qBN f v) (Yl f y):=
 zl qk (E:=qoS N) (L:=qI (qCu N)) (st:=Yl f) (g:=some) (R:=Yl f) (qjT N) (qq (by kernel_rfl) trivial) (rg0 (by kernel_rfl)) (fun v=>by kernel_rfl) (qU (st:=Yl f) fun y=>by rfl) (js0 rfl) n v y h
def qjQ (N:Nat) (o_19:List qa) (o_19_2:List (Vector UInt8 16)) (o_19_4:Nat) (o_19_5:List (Vector UInt8 16×qa×Nat)) (s71_19:Nat) (s72_19:Int) (o_19_3:List qa) (s73_19:Int):Option XI:=qne N N (o_19,o_19_2,o_19_4,o_19_5,s71_19,s72_19) (o_19_3,s73_19)
def qm0 (N:Nat):qy:=smL qm3 [(.sl 19 qh),(.sl 16 (.ba 16)),(.sl 19 qh),.nat,(KU (.ba 16) qh),.nat,(.i .i64),(.i .i64)] XI (fun x=>qjQ N x.1 x.2.1 x.2.2.2.1 x.2.2.2.2.1 x.2.2.2.2.2.1 x.2.2.2.2.2.2.1 x.2.2.1 x.2.2.2.2.2.2.2.1) cs1 fun x=>Yl (x.1,x.2.1,x.2.2.2.1,x.2.2.2.2.1,x.2.2.2.2.2.1,x.2.2.2.2.2.2.1)
theorem qzq (N:Nat):ji Tryz.prog qe4 83 (qL qlu 19) (qm0 N):=zu fun x z h=>qCs N (x.1,x.2.1,x.2.2.2.1,x.2.2.2.2.1,x.2.2.2.2.2.1,x.2.2.2.2.2.2.1) N (x.2.2.1,x.2.2.2.2.2.2.2.1) z h
def qJJ (z:qc×Int):TV×THp:=(.tup [.tv qn (z.1:qc),xi z.2],[])
def qiG (N:Nat) (a0:qc) (a1:qc):Tree (qc×Int):=
 .bind (qcy N a0) fun r1=>
 .cond (!r1) (
 .chk (0=0) <|
 .ret (qc.mk [],1)) <|
 .bind (qcy N a1) fun r2=>
 .cond (!r2) (
 .chk (0=0) <|
 .ret (qc.mk [],1)) <|
 .bind (Y_ N [qc.R a0,qc.R a1]) fun r3=>
 .bind (ju [(([]:List qa).length,0),(([]:List (Vector UInt8 16)).length,0)] (qlg N [] r3 ((r3.length:Nat):Int) [] 0 [] 0)) fun z4=>
 .cond (decide (((10:Int)) < ((z4.1.length:Nat):Int))) (
 .chk (0=0) <|
 .ret (qc.mk [],4)) <|
 .bind (ju [(z4.1.length,z4.1.length)] (Yz N z4.1)) fun r5=>
 .bind (ju [(([]:List qa).length,0),(([]:List qa).length,0)] (qjQ N [] r5 z4.2.1 z4.2.2.1 z4.1.length ((z4.1.length:Nat):Int) [] 0)) fun z6=>
 .chk (z6.1.length=z6.1.length) <|
 .ret (qc.mk z6.1,0)
def Yo (N:Nat) (a0:qc) (a1:qc):Option (qc×Int):=(qiG N a0 a1).run some
def qJp (N:Nat):List (Nat×qy):=[(6,qpX N),(19,qm0 N)]
def qyT (N:Nat):Ent:=smF ⟨83,[],[.x qn,.x qn],[],[]⟩ [qn,qn] (qc×Int) (fun x=>Yo N x.1 x.2.1) cs1 fun _=>qJJ
theorem qIp (N:Nat):q_ Tryz.prog (qyT N):=
 q8 (H:=qe4) (L:=qI (qJp N)) (ts:=[qn,qn]) (T:=fun x=>qiG N x.1 x.2.1) 0 qR_ (qjT N) (qq (by kernel_rfl) ⟨qBV N,qzq N,trivial⟩) (rg0 (by kernel_rfl)) fun x=>by kernel_rfl
noncomputable def qz_:Code:=Tryz.f68.body.getD .skip
theorem qS6:FnF Tryz.prog 68 Tryz.f68 qz_:=⟨qk,by kernel_rfl,by kernel_rfl,by kernel_rfl⟩
def qn9:TH:={ live:=[(0,[2,3,4]),(1,[2,3,4,6]),(2,[2,3,4,6,39]),(3,[4,5]),(4,[2,4,47,48,49]),(5,[2,4,47,48,49,50]),(6,[2,4,8,47,48,49]),(7,[2,4,8,47,48,49,54]),(8,[2,4,9,10,47,48,49]),(9,[2,4,9,10,47,48,49,64]),(10,[4,5]),(11,[2,4,47,48,49]),(12,[2,4,47,48,49]),(13,[4,5])],dec:=[19,23,29,34],nil:=[(0,[⟨.ob 40 [0],43,(.sl 19 qh)⟩]),(3,[⟨.ob 40 [0],43,(.sl 19 qh)⟩]),(10,[⟨.ob 40 [0],43,(.sl 19 qh)⟩])] }
def qyL (N:Nat):List Ent:=[qkP N,qv8,qep,qnk N,qyT N]
theorem qsN (N:Nat):qO Tryz.prog (qyL N):=⟨qnG N,qFB,qgL,qrC N,qIp N,trivial⟩
abbrev qdk:=List qa×List qa×Int
abbrev Wy:=(qc×Int×Bool)⊕Int
def Km (f:qdk):Wy→Ex×TSt
 | .inl y=>(.exit 0,⟨0,70,[],[(2,.p 20 [] 0),(4,.p 40 [] 0),(47,.tv (.sl 19 qh) f.2.1),(48,xi f.2.2),(49,xi y.2.1),(50,xb y.2.2)],[(20,.cell false (.tv qn (y.1:qc))),(40,.cell false (.ag [.v 43 f.1.length])),(43,.vec false 19 (.sl 19 qh) f.1)],false,[]⟩)
 | .inr y=>(.ret,⟨0,70,[],[(4,.p 40 [] 0),(5,xi y)],[(40,.cell false (.ag [.v 43 0])),(43,.vec false 19 (.sl 19 qh) ([]:List qa))],false,[]⟩)
def qDe (N:Nat):List (Nat×qy):=[]
abbrev KF:=qc×Int
def qpB:SP:=⟨0,70,[],[(2,.k (.p 20 [] 0)),(4,.k (.p 40 [] 0)),(47,.x (.sl 19 qh)),(48,.x (.i .i64)),(49,.x (.i .i64))],[(20,.cell false (.x qn)),(40,.cell false (.ag [.vs 43])),(43,.vec false 19)],false,[]⟩
def qC4 (f:qdk) (v:KF):TSt:=zw qpB [dv (.sl 19 qh) f.1,dv qn v.1,dv (.sl 19 qh) f.2.1,dv (.i .i64) f.2.2,dv (.i .i64) v.2]
def Ke (N:Nat) (o_5:List qa) (s47_5:List qa) (s48_5:Int) (v:KF):Tree (KF⊕Wy):=
 .cond (decide (v.2 < s48_5)) (
 .bind (qP s47_5 v.2) fun e1=>
 .bind (K0 e1) fun r2=>
 .cond r2 (
 .chk (qj (v.2 + 1)) <|
 .ret (.inl (v.1,v.2 + 1))) <|
 .bind (Yo N v.1 (qc.mk [e1])) fun r3=>
 .cond (!decide (r3.2=0)) (
 .ret (.inr (.inr r3.2))) <|
 .chk (qj (v.2 + 1)) <|
 .ret (.inl (r3.1,v.2 + 1))) <|
 .ret (.inr (.inl (v.1,v.2,decide (v.2 < s48_5))))
def qqj (N n:Nat) (f:qdk) (v:KF):Option Wy:=qQ (Ke N f.1 f.2.1 f.2.2) some n v
theorem qDd (N:Nat) (f:qdk) (n:Nat) (v:KF) (y:Wy) (h:qqj N n f v=some y):LG Tryz.prog qn9 68 (qL qz_ 5) (qC4 f v) (Km f y):=
 zl qk (E:=qyL N) (L:=qI (qDe N)) (st:=Km f) (g:=some) (R:=Km f) (qsN N) (qq (by kernel_rfl) trivial) (rg0 (by kernel_rfl)) (fun v=>by kernel_rfl) (qU (st:=Km f) fun y=>by rcases y with _ | _<;>rfl) (js0 rfl) n v y h
def KD (N:Nat) (o_5:List qa) (s47_5:List qa) (s48_5:Int) (o_5_2:qc) (s49_5:Int):Option Wy:=qqj N N (o_5,s47_5,s48_5) (o_5_2,s49_5)
def qp1 (N:Nat):qy:=smL qpB [(.sl 19 qh),qn,(.sl 19 qh),(.i .i64),(.i .i64)] Wy (fun x=>KD N x.1 x.2.2.1 x.2.2.2.1 x.2.1 x.2.2.2.2.1) (csS cs1) fun x=>Km (x.1,x.2.2.1,x.2.2.2.1)
theorem qAK (N:Nat):ji Tryz.prog qn9 68 (qL qz_ 5) (qp1 N):=zu fun x z h=>qDd N (x.1,x.2.2.1,x.2.2.2.1) N (x.2.1,x.2.2.2.2.1) z h
def qIY (z:qc×Int):TV×THp:=(.tup [.tv qn (z.1:qc),xi z.2],[])
def qo4 (N:Nat) (a0:qc) (a1:qa):Tree (qc×Int):=
 .bind (qcy N a0) fun r1=>
 .cond (!r1) (
 .chk (0=0) <|
 .ret (qc.mk [],1)) <|
 .bind (K0 a1) fun r2=>
 .cond r2 (
 .chk (0=0) <|
 .ret (qc.mk [],1)) <|
 .bind (qcA (qa.qW a1)) fun r3=>
 .cond (!r3) (
 .chk (0=0) <|
 .ret (qc.mk [],1)) <|
 .cond (decide (((0:Int)) < (((qa.F a1).length:Nat):Int))) (
 .bind (qiu N (qa.mk (qa.ID a1) (qe.mk 0 0) (qa.F a1))) fun r4=>
 .cond (!r4) (
 .chk (0=0) <|
 .ret (qc.mk [],1)) <|
 .bind (ju [(([]:List qa).length,0)] (KD N [] [qa.mk (qa.ID a1) (qa.qW a1) [],qa.mk (qa.ID a1) (qe.mk 0 0) (qa.F a1)] (((([qa.mk (qa.ID a1) (qa.qW a1) [],qa.mk (qa.ID a1) (qe.mk 0 0) (qa.F a1)]:List qa)).length:Nat):Int) a0 0)) fun z5=>
 .sum z5 (fun z6=>
 .ret (z6.1,0)) fun z6=>
 .chk (0=0) <|
 .ret (qc.mk [],z6)) <|
 .bind (ju [(([]:List qa).length,0)] (KD N [] [qa.mk (qa.ID a1) (qa.qW a1) [],qa.mk (qa.ID a1) (qe.mk 0 0) (qa.F a1)] (((([qa.mk (qa.ID a1) (qa.qW a1) [],qa.mk (qa.ID a1) (qe.mk 0 0) (qa.F a1)]:List qa)).length:Nat):Int) a0 0)) fun z4=>
 .sum z4 (fun z5=>
 .ret (z5.1,0)) fun z5=>
 .chk (0=0) <|
 .ret (qc.mk [],z5)
def KO (N:Nat) (a0:qc) (a1:qa):Option (qc×Int):=(qo4 N a0 a1).run some
def qJN (N:Nat):List (Nat×qy):=[(5,qp1 N)]
def qyR (N:Nat):Ent:=smF ⟨68,[],[.x qn,.x qh],[],[]⟩ [qn,qh] (qc×Int) (fun x=>KO N x.1 x.2.1) cs1 fun _=>qIY
theorem qIO (N:Nat):q_ Tryz.prog (qyR N):=
 q8 (H:=qn9) (L:=qI (qJN N)) (ts:=[qn,qh]) (T:=fun x=>qo4 N x.1 x.2.1) 0 qS6 (qsN N) (qq (by kernel_rfl) ⟨qAK N,trivial⟩) (rg0 (by kernel_rfl)) fun x=>by kernel_rfl
noncomputable def qSo:Code:=Tryz.f65.body.getD .skip
theorem qRR:FnF Tryz.prog 65 Tryz.f65 qSo:=⟨qk,by kernel_rfl,by kernel_rfl,by kernel_rfl⟩
def qA1:TH:={ live:=[(0,[1]),(1,[2,3])] }
def qBf (N:Nat):List Ent:=[]
theorem qxQ (N:Nat):qO Tryz.prog (qBf N):=trivial
def qAJ (a0:zf) (z:Unit):TV×THp:=(.tup [.tv .s (qd.V (zf.o a0)),.ic .i64 0],[])
def qnd (a0:zf):Tree (Unit):=
 .ret ()
def qjS (a0:zf):Option (Unit):=(qnd a0).run some
def qA5:List (Nat×qy):=[]
def qm8:Ent:=smF ⟨65,[],[.x ve],[],[]⟩ [ve] (Unit) (fun x=>qjS x.1) cs1 fun x=>qAJ x.1
theorem qz9:q_ Tryz.prog (qm8):=
 q8 (H:=qA1) (L:=qI (qA5)) (ts:=[ve]) (T:=fun x=>qnd x.1) 0 qRR (qxQ 0) (qq (by kernel_rfl) trivial) (rg0 (by kernel_rfl)) fun x=>by kernel_rfl
noncomputable def qTg:Code:=Tryz.f74.body.getD .skip
theorem qRP:FnF Tryz.prog 74 Tryz.f74 qTg:=⟨qk,by kernel_rfl,by kernel_rfl,by kernel_rfl⟩
def qFI:TH:={ live:=[(0,[1,2]),(1,[3])] }
def qFv (N:Nat):List Ent:=[]
theorem qBm (N:Nat):qO Tryz.prog (qFv N):=trivial
def qEV (a0:Vector UInt8 16) (a1:qa) (z:Unit):TV×THp:=(xb (eqE (.ba 16) (qa.ID a1) a0),[(30,.cell false (.tv (.ba 16) a0))])
def qj5 (a0:Vector UInt8 16) (a1:qa):Tree (Unit):=
 .ret ()
def qot (a0:Vector UInt8 16) (a1:qa):Option (Unit):=(qj5 a0 a1).run some
def qE6:List (Nat×qy):=[]
def qsT:Ent:=smF ⟨74,[],[.x qh],[.k (.p 30 [] 0)],[(30,.cell false (.x (.ba 16)))]⟩ [(.ba 16),qh] (Unit) (fun x=>qot x.1 x.2.1) cs1 fun x=>qEV x.1 x.2.1
theorem qCM:q_ Tryz.prog (qsT):=
 q8 (H:=qFI) (L:=qI (qE6)) (ts:=[(.ba 16),qh]) (T:=fun x=>qj5 x.1 x.2.1) 0 qRP (qBm 0) (qq (by kernel_rfl) trivial) (rg0 (by kernel_rfl)) fun x=>by kernel_rfl
noncomputable def qy9:Code:=Tryz.f73.body.getD .skip
theorem qTq:FnF Tryz.prog 73 Tryz.f73 qy9:=⟨qk,by kernel_rfl,by kernel_rfl,by kernel_rfl⟩
def YI:TH:={ live:=[(0,[0,1]),(1,[0,1,7,8]),(2,[0,1,7,8,9]),(3,[0,1,5,7,8]),(4,[0,1,5,7,8,16]),(5,[4]),(6,[0,1,7,8]),(7,[4])] }
def qes (N:Nat):List Ent:=[qsT]
theorem qcZ (N:Nat):qO Tryz.prog (qes N):=⟨qCM,trivial⟩
abbrev JQ:=Vector UInt8 16×List qa×Int
abbrev vu:=Int⊕(Int×Bool)
def QF (f:JQ):vu→Ex×TSt
 | .inl y=>(.ret,⟨1,19,[30],[(4,xi y)],[(30,.cell false (.tv (.ba 16) f.1))],false,[]⟩)
 | .inr y=>(.exit 0,⟨1,19,[30],[(0,.tv (.sl 19 qh) f.2.1),(1,.fn (.func 74) [] [.p 30 [] 0]),(7,xi f.2.2),(8,xi y.1),(9,xb y.2)],[(30,.cell false (.tv (.ba 16) f.1))],false,[]⟩)
def qkv (N:Nat):List (Nat×qy):=[]
abbrev Qz:=Int
def qb5:SP:=⟨1,19,[30],[(0,.x (.sl 19 qh)),(1,.fn 74 [] [.k (.p 30 [] 0)]),(7,.x (.i .i64)),(8,.x (.i .i64))],[(30,.cell false (.x (.ba 16)))],false,[]⟩
def qkV (f:JQ) (v:Qz):TSt:=zw qb5 [dv (.ba 16) f.1,dv (.sl 19 qh) f.2.1,dv (.i .i64) f.2.2,dv (.i .i64) v]
def QD (N:Nat) (o_2:Vector UInt8 16) (s0_2:List qa) (s7_2:Int) (v:Qz):Tree (Qz⊕vu):=
 .cond (decide (v < s7_2)) (
 .bind (qP s0_2 v) fun e1=>
 .bind (qot o_2 e1) fun r2=>
 .cond (eqE (.ba 16) (qa.ID e1) o_2) (
 .ret (.inr (.inl v))) <|
 .chk (qj (v + 1)) <|
 .ret (.inl (v + 1))) <|
 .ret (.inr (.inr ((v,decide (v < s7_2)))))
def qcd (N n:Nat) (f:JQ) (v:Qz):Option vu:=qQ (QD N f.1 f.2.1 f.2.2) some n v
theorem qkp (N:Nat) (f:JQ) (n:Nat) (v:Qz) (y:vu) (h:qcd N n f v=some y):LG Tryz.prog YI 73 (qL qy9 2) (qkV f v) (QF f y):=
 zl qk (E:=qes N) (L:=qI (qkv N)) (st:=QF f) (g:=some) (R:=QF f) (qcZ N) (qq (by kernel_rfl) trivial) (rg0 (by kernel_rfl)) (fun v=>by kernel_rfl) (qU (st:=QF f) fun y=>by rcases y with _ | _<;>rfl) (js0 rfl) n v y h
def WZ (N:Nat) (o_2:Vector UInt8 16) (s0_2:List qa) (s7_2:Int) (s8_2:Int):Option vu:=qcd N N (o_2,s0_2,s7_2) s8_2
def qb6 (N:Nat):qy:=smL qb5 [(.ba 16),(.sl 19 qh),(.i .i64),(.i .i64)] vu (fun x=>WZ N x.1 x.2.1 x.2.2.1 x.2.2.2.1) (csS cs1) fun x=>QF (x.1,x.2.1,x.2.2.1)
theorem qjZ (N:Nat):ji Tryz.prog YI 73 (qL qy9 2) (qb6 N):=zu fun x z h=>qkp N (x.1,x.2.1,x.2.2.1) N x.2.2.2.1 z h
def qob (a0:Vector UInt8 16) (z:Int):TV×THp:=(xi z,[(30,.cell false (.tv (.ba 16) a0))])
def YH (N:Nat) (a0:Vector UInt8 16) (a1:List qa):Tree (Int):=
 .bind (WZ N a0 a1 ((a1.length:Nat):Int) 0) fun z1=>
 .sum z1 (fun z2=>
 .ret z2) fun z2=>
 .ret (-1)
def Wa (N:Nat) (a0:Vector UInt8 16) (a1:List qa):Option (Int):=(YH N a0 a1).run some
def qoh (N:Nat):List (Nat×qy):=[(2,qb6 N)]
def qfb (N:Nat):Ent:=smF ⟨73,[],[.x (.sl 19 qh),.fn 74 [] [.k (.p 30 [] 0)]],[],[(30,.cell false (.x (.ba 16)))]⟩ [(.ba 16),(.sl 19 qh)] (Int) (fun x=>Wa N x.1 x.2.1) cs1 fun x=>qob x.1
theorem qmK (N:Nat):q_ Tryz.prog (qfb N):=
 q8 (H:=YI) (L:=qI (qoh N)) (ts:=[(.ba 16),(.sl 19 qh)]) (T:=fun x=>YH N x.1 x.2.1) 0 qTq (qcZ N) (qq (by kernel_rfl) ⟨qjZ N,trivial⟩) (rg0 (by kernel_rfl)) fun x=>by kernel_rfl
noncomputable def qRt:Code:=Tryz.f27.body.getD .skip
theorem qTm:FnF Tryz.prog 27 Tryz.f27 qRt:=⟨qk,by kernel_rfl,by kernel_rfl,by kernel_rfl⟩
def qJP:TH:={ live:=[(0,[2,3,4]),(1,[2,4,6]),(2,[2,4,6,12]),(3,[4,5]),(4,[4,5])],nil:=[(0,[⟨.ob 40 [2],45,(.sl 4 qA)⟩]),(3,[⟨.ob 40 [2],45,(.sl 4 qA)⟩])] }
def qJt (N:Nat):List Ent:=[qfb N,qrX]
theorem qFb (N:Nat):qO Tryz.prog (qJt N):=⟨qmK N,qyQ,trivial⟩
def qJv (z:qa×Bool):TV×THp:=(.tup [.tv qh (z.1:qa),xb z.2],[])
def qoA (N:Nat) (a0:qc) (a1:Vector UInt8 16):Tree (qa×Bool):=
 .bind (Wa N a1 (qc.R a0)) fun r1=>
 .cond (decide (r1 < ((0:Int)))) (
 .chk (0=0) <|
 .ret (qa.mk ((Vector.replicate 16 0)) (qe.mk 0 0) [],false)) <|
 .bind (qP (qc.R a0) r1) fun e2=>
 .bind (qfI e2) fun r3=>
 .ret (qa.mk (qa.ID e2) (qa.qW e2) ((([]:List qg))++(qa.F e2)),true)
def qnn (N:Nat) (a0:qc) (a1:Vector UInt8 16):Option (qa×Bool):=(qoA N a0 a1).run some
def qJr (N:Nat):List (Nat×qy):=[]
def qyg (N:Nat):Ent:=smF ⟨27,[],[.x qn,.x (.ba 16)],[],[]⟩ [qn,(.ba 16)] (qa×Bool) (fun x=>qnn N x.1 x.2.1) cs1 fun _=>qJv
theorem qHW (N:Nat):q_ Tryz.prog (qyg N):=
 q8 (H:=qJP) (L:=qI (qJr N)) (ts:=[qn,(.ba 16)]) (T:=fun x=>qoA N x.1 x.2.1) 0 qTm (qFb N) (qq (by kernel_rfl) trivial) (rg0 (by kernel_rfl)) fun x=>by kernel_rfl
noncomputable def qRC:Code:=Tryz.f77.body.getD .skip
theorem qQN:FnF Tryz.prog 77 Tryz.f77 qRC:=⟨qk,by kernel_rfl,by kernel_rfl,by kernel_rfl⟩
def qGo:TH:={ live:=[(0,[1,2]),(1,[3])] }
def qIn (N:Nat):List Ent:=[]
theorem qCO (N:Nat):qO Tryz.prog (qIn N):=trivial
def qHw (a0:Int) (a1:qg) (z:Unit):TV×THp:=(xb (decide ((qg.No a1)=a0)),[(30,.cell false (xi a0))])
def ql2 (a0:Int) (a1:qg):Tree (Unit):=
 .ret ()
def qri (a0:Int) (a1:qg):Option (Unit):=(ql2 a0 a1).run some
def qG9:List (Nat×qy):=[]
def qvg:Ent:=smF ⟨77,[],[.x qA],[.k (.p 30 [] 0)],[(30,.cell false (.x (.i .i64)))]⟩ [(.i .i64),qA] (Unit) (fun x=>qri x.1 x.2.1) cs1 fun x=>qHw x.1 x.2.1
theorem qFk:q_ Tryz.prog (qvg):=
 q8 (H:=qGo) (L:=qI (qG9)) (ts:=[(.i .i64),qA]) (T:=fun x=>ql2 x.1 x.2.1) 0 qQN (qCO 0) (qq (by kernel_rfl) trivial) (rg0 (by kernel_rfl)) fun x=>by kernel_rfl
noncomputable def qzx:Code:=Tryz.f76.body.getD .skip
theorem qQW:FnF Tryz.prog 76 Tryz.f76 qzx:=⟨qk,by kernel_rfl,by kernel_rfl,by kernel_rfl⟩
def WO:TH:={ live:=[(0,[0,1]),(1,[0,1,7,8]),(2,[0,1,7,8,9]),(3,[0,1,5,7,8]),(4,[0,1,5,7,8,16]),(5,[4]),(6,[0,1,7,8]),(7,[4])] }
def qc0 (N:Nat):List Ent:=[qvg]
theorem qaY (N:Nat):qO Tryz.prog (qc0 N):=⟨qFk,trivial⟩
abbrev Zt:=Int×List qg×Int
abbrev vb:=Int⊕(Int×Bool)
def vO (f:Zt):vb→Ex×TSt
 | .inl y=>(.ret,⟨1,19,[30],[(4,xi y)],[(30,.cell false (xi f.1))],false,[]⟩)
 | .inr y=>(.exit 0,⟨1,19,[30],[(0,.tv (.sl 4 qA) f.2.1),(1,.fn (.func 77) [] [.p 30 [] 0]),(7,xi f.2.2),(8,xi y.1),(9,xb y.2)],[(30,.cell false (xi f.1))],false,[]⟩)
def qjg (N:Nat):List (Nat×qy):=[]
abbrev vL:=Int
def KP:SP:=⟨1,19,[30],[(0,.x (.sl 4 qA)),(1,.fn 77 [] [.k (.p 30 [] 0)]),(7,.x (.i .i64)),(8,.x (.i .i64))],[(30,.cell false (.x (.i .i64)))],false,[]⟩
def qjs (f:Zt) (v:vL):TSt:=zw KP [dv (.i .i64) f.1,dv (.sl 4 qA) f.2.1,dv (.i .i64) f.2.2,dv (.i .i64) v]
def vN (N:Nat) (o_2:Int) (s0_2:List qg) (s7_2:Int) (v:vL):Tree (vL⊕vb):=
 .cond (decide (v < s7_2)) (
 .bind (qP s0_2 v) fun e1=>
 .bind (qri o_2 e1) fun r2=>
 .cond (decide ((qg.No e1)=o_2)) (
 .ret (.inr (.inl v))) <|
 .chk (qj (v + 1)) <|
 .ret (.inl (v + 1))) <|
 .ret (.inr (.inr ((v,decide (v < s7_2)))))
def KM (N n:Nat) (f:Zt) (v:vL):Option vb:=qQ (vN N f.1 f.2.1 f.2.2) some n v
theorem qi8 (N:Nat) (f:Zt) (n:Nat) (v:vL) (y:vb) (h:KM N n f v=some y):LG Tryz.prog WO 76 (qL qzx 2) (qjs f v) (vO f y):=
 zl qk (E:=qc0 N) (L:=qI (qjg N)) (st:=vO f) (g:=some) (R:=vO f) (qaY N) (qq (by kernel_rfl) trivial) (rg0 (by kernel_rfl)) (fun v=>by kernel_rfl) (qU (st:=vO f) fun y=>by rcases y with _ | _<;>rfl) (js0 rfl) n v y h
def Wc (N:Nat) (o_2:Int) (s0_2:List qg) (s7_2:Int) (s8_2:Int):Option vb:=KM N N (o_2,s0_2,s7_2) s8_2
def KQ (N:Nat):qy:=smL KP [(.i .i64),(.sl 4 qA),(.i .i64),(.i .i64)] vb (fun x=>Wc N x.1 x.2.1 x.2.2.1 x.2.2.2.1) (csS cs1) fun x=>vO (x.1,x.2.1,x.2.2.1)
theorem qih (N:Nat):ji Tryz.prog WO 76 (qL qzx 2) (KQ N):=zu fun x z h=>qi8 N (x.1,x.2.1,x.2.2.1) N x.2.2.2.1 z h
def qld (a0:Int) (z:Int):TV×THp:=(xi z,[(30,.cell false (xi a0))])
def WD (N:Nat) (a0:Int) (a1:List qg):Tree (Int):=
 .bind (Wc N a0 a1 ((a1.length:Nat):Int) 0) fun z1=>
 .sum z1 (fun z2=>
 .ret z2) fun z2=>
 .ret (-1)
def VZ (N:Nat) (a0:Int) (a1:List qg):Option (Int):=(WD N a0 a1).run some
def qlB (N:Nat):List (Nat×qy):=[(2,KQ N)]
def qcu (N:Nat):Ent:=smF ⟨76,[],[.x (.sl 4 qA),.fn 77 [] [.k (.p 30 [] 0)]],[],[(30,.cell false (.x (.i .i64)))]⟩ [(.i .i64),(.sl 4 qA)] (Int) (fun x=>VZ N x.1 x.2.1) cs1 fun x=>qld x.1
theorem qkK (N:Nat):q_ Tryz.prog (qcu N):=
 q8 (H:=WO) (L:=qI (qlB N)) (ts:=[(.i .i64),(.sl 4 qA)]) (T:=fun x=>WD N x.1 x.2.1) 0 qQW (qaY N) (qq (by kernel_rfl) ⟨qih N,trivial⟩) (rg0 (by kernel_rfl)) fun x=>by kernel_rfl
noncomputable def qSd:Code:=Tryz.f28.body.getD .skip
theorem qS9:FnF Tryz.prog 28 Tryz.f28 qSd:=⟨qk,by kernel_rfl,by kernel_rfl,by kernel_rfl⟩
def qLj:TH:={ live:=[(0,[2,3,4]),(1,[2,4,6]),(2,[2,4,6,12]),(3,[4,5]),(4,[4,5])] }
def qMv (N:Nat):List Ent:=[qcu N]
theorem qGB (N:Nat):qO Tryz.prog (qMv N):=⟨qkK N,trivial⟩
def qMI (z:qf×Bool):TV×THp:=(.tup [.tv qt (z.1:qf),xb z.2],[])
def qq2 (N:Nat) (a0:qa) (a1:Int):Tree (qf×Bool):=
 .bind (VZ N a1 (qa.F a0)) fun r1=>
 .cond (decide (r1 < ((0:Int)))) (
 .ret (qf.mk (qe.mk 0 0) [],false)) <|
 .bind (qP (qa.F a0) r1) fun e2=>
 .ret (qg.C e2,true)
def qr_ (N:Nat) (a0:qa) (a1:Int):Option (qf×Bool):=(qq2 N a0 a1).run some
def qMk (N:Nat):List (Nat×qy):=[]
def qBt (N:Nat):Ent:=smF ⟨28,[],[.x qh,.x (.i .i64)],[],[]⟩ [qh,(.i .i64)] (qf×Bool) (fun x=>qr_ N x.1 x.2.1) cs1 fun _=>qMI
theorem qJs (N:Nat):q_ Tryz.prog (qBt N):=
 q8 (H:=qLj) (L:=qI (qMk N)) (ts:=[qh,(.i .i64)]) (T:=fun x=>qq2 N x.1 x.2.1) 0 qS9 (qGB N) (qq (by kernel_rfl) trivial) (rg0 (by kernel_rfl)) fun x=>by kernel_rfl
noncomputable def qQ0:Code:=Tryz.f93.body.getD .skip
theorem qSv:FnF Tryz.prog 93 Tryz.f93 qQ0:=⟨qk,by kernel_rfl,by kernel_rfl,by kernel_rfl⟩
def qzQ:TH:={ live:=[(0,[2,3,4]),(1,[2,8]),(2,[10,11]),(3,[10,26]),(4,[6,7]),(5,[6,7])] }
def qAt (N:Nat):List Ent:=[qyg N,qBt N]
theorem qvy (N:Nat):qO Tryz.prog (qAt N):=⟨qHW N,qJs N,trivial⟩
def qzi (z:List UInt8×Int):TV×THp:=(.tup [.tv .s (z.1:List UInt8),xi z.2],[])
def qfA (N:Nat) (a0:zf) (a1:Vector UInt8 16) (a2:Int):Tree (List UInt8×Int):=
 .bind (qnn N (zf.b a0) a1) fun r1=>
 .bind (qr_ N r1.1 a2) fun r2=>
 .cond (!r2.2) (
 .ret ([],6)) <|
 .ret (qf.V r2.1,0)
def Kr (N:Nat) (a0:zf) (a1:Vector UInt8 16) (a2:Int):Option (List UInt8×Int):=(qfA N a0 a1 a2).run some
def qzz (N:Nat):List (Nat×qy):=[]
def qfB (N:Nat):Ent:=smF ⟨93,[],[.x ve,.x (.ba 16),.x (.i .i64)],[],[]⟩ [ve,(.ba 16),(.i .i64)] (List UInt8×Int) (fun x=>Kr N x.1 x.2.1 x.2.2.1) cs1 fun _=>qzi
theorem qkn (N:Nat):q_ Tryz.prog (qfB N):=
 q8 (H:=qzQ) (L:=qI (qzz N)) (ts:=[ve,(.ba 16),(.i .i64)]) (T:=fun x=>qfA N x.1 x.2.1 x.2.2.1) 0 qSv (qvy N) (qq (by kernel_rfl) trivial) (rg0 (by kernel_rfl)) fun x=>by kernel_rfl
noncomputable def qQw:Code:=Tryz.f92.body.getD .skip
theorem qR7:FnF Tryz.prog 92 Tryz.f92 qQw:=⟨qk,by kernel_rfl,by kernel_rfl,by kernel_rfl⟩
def qtZ:TH:={ live:=[(0,[1,2,3]),(1,[1,2,17]),(2,[6,7]),(3,[6,7])],dec:=[10] }
def quc (N:Nat):List Ent:=[qz4 N]
theorem qqK (N:Nat):qO Tryz.prog (quc N):=⟨qEu N,trivial⟩
def qtB (z:List UInt8×Int):TV×THp:=(.tup [.tv .s (z.1:List UInt8),xi z.2],[])
def qbm (N:Nat) (a0:zf) (a1:List UInt8) (a2:Int):Tree (List UInt8×Int):=
 .cond (decide (a2=((0:Int)))) (
 .bind (qqd N a1) fun r1=>
 .cond (!(eqE (.ba 32) r1 (qd.D (zf.o a0)))) (
 .ret ([],7)) <|
 .ret (a1,a2)) <|
 .ret (a1,a2)
def X6 (N:Nat) (a0:zf) (a1:List UInt8) (a2:Int):Option (List UInt8×Int):=(qbm N a0 a1 a2).run some
def qtI (N:Nat):List (Nat×qy):=[]
def qby (N:Nat):Ent:=smF ⟨92,[],[.x ve,.x .s,.x (.i .i64)],[],[]⟩ [ve,.s,(.i .i64)] (List UInt8×Int) (fun x=>X6 N x.1 x.2.1 x.2.2.1) cs1 fun _=>qtB
theorem qhd (N:Nat):q_ Tryz.prog (qby N):=
 q8 (H:=qtZ) (L:=qI (qtI N)) (ts:=[ve,.s,(.i .i64)]) (T:=fun x=>qbm N x.1 x.2.1 x.2.2.1) 0 qR7 (qqK N) (qq (by kernel_rfl) trivial) (rg0 (by kernel_rfl)) fun x=>by kernel_rfl
noncomputable def qQy:Code:=Tryz.f66.body.getD .skip
theorem qQz:FnF Tryz.prog 66 Tryz.f66 qQy:=⟨qk,by kernel_rfl,by kernel_rfl,by kernel_rfl⟩
def qv0:TH:={ live:=[(0,[1]),(1,[2,3])] }
def qwD (N:Nat):List Ent:=[qfB N,qby N]
theorem qsm (N:Nat):qO Tryz.prog (qwD N):=⟨qkn N,qhd N,trivial⟩
def qu4 (z:List UInt8×Int):TV×THp:=(.tup [.tv .s (z.1:List UInt8),xi z.2],[])
def qcQ (N:Nat) (a0:zf):Tree (List UInt8×Int):=
 .bind (Kr N a0 (qd.zm (zf.o a0)) (qd.jV (zf.o a0))) fun r1=>
 .bind (X6 N a0 r1.1 r1.2) fun r2=>
 .ret (r2.1,r2.2)
def qaa (N:Nat) (a0:zf):Option (List UInt8×Int):=(qcQ N a0).run some
def qwS (N:Nat):List (Nat×qy):=[]
def qjy (N:Nat):Ent:=smF ⟨66,[],[.x ve],[],[]⟩ [ve] (List UInt8×Int) (fun x=>qaa N x.1) cs1 fun _=>qu4
theorem qtD (N:Nat):q_ Tryz.prog (qjy N):=
 q8 (H:=qv0) (L:=qI (qwS N)) (ts:=[ve]) (T:=fun x=>qcQ N x.1) 0 qQz (qsm N) (qq (by kernel_rfl) trivial) (rg0 (by kernel_rfl)) fun x=>by kernel_rfl
noncomputable def qRm:Code:=Tryz.f67.body.getD .skip
theorem qQK:FnF Tryz.prog 67 Tryz.f67 qRm:=⟨qk,by kernel_rfl,by kernel_rfl,by kernel_rfl⟩
def qzP:TH:={ live:=[(0,[1]),(1,[1,4,5]),(2,[1,4,5,20]),(3,[2,3]),(4,[1,6,7]),(5,[1,6,31]),(6,[2,3]),(7,[2,3])] }
def qzA (N:Nat):List Ent:=[qfB N,qsI N,qby N]
theorem qwW (N:Nat):qO Tryz.prog (qzA N):=⟨qkn N,qDl N,qhd N,trivial⟩
def qAl (z:List UInt8×Int):TV×THp:=(.tup [.tv .s (z.1:List UInt8),xi z.2],[])
def qfM (N:Nat) (a0:zf):Tree (List UInt8×Int):=
 .bind (Kr N a0 (qd.ID (zf.o a0)) (qd.No (zf.o a0))) fun r1=>
 .cond (!decide (r1.2=0)) (
 .ret ([],r1.2)) <|
 .bind (qiN N r1.1 (qd.P (zf.o a0))) fun r2=>
 .cond (!r2.2) (
 .ret ([],7)) <|
 .bind (X6 N a0 r2.1 0) fun r3=>
 .ret (r3.1,r3.2)
def qdx (N:Nat) (a0:zf):Option (List UInt8×Int):=(qfM N a0).run some
def qy5 (N:Nat):List (Nat×qy):=[]
def ql7 (N:Nat):Ent:=smF ⟨67,[],[.x ve],[],[]⟩ [ve] (List UInt8×Int) (fun x=>qdx N x.1) cs1 fun _=>qAl
theorem qxD (N:Nat):q_ Tryz.prog (ql7 N):=
 q8 (H:=qzP) (L:=qI (qy5 N)) (ts:=[ve]) (T:=fun x=>qfM N x.1) 0 qQK (qwW N) (qq (by kernel_rfl) trivial) (rg0 (by kernel_rfl)) fun x=>by kernel_rfl
noncomputable def qSy:Code:=Tryz.f24.body.getD .skip
theorem qSp:FnF Tryz.prog 24 Tryz.f24 qSy:=⟨qk,by kernel_rfl,by kernel_rfl,by kernel_rfl⟩
def qUa:TH:={ live:=[(0,[2,3,4]),(1,[2,3,4,17]),(2,[4,5]),(3,[2,3,4,6]),(4,[2,3,4,7]),(5,[2,3,4,7,25]),(6,[4,5]),(7,[2,3,4,8,9]),(8,[2,3,4,8,9,44]),(9,[4,5]),(10,[4,5])],dec:=[13,21],nil:=[(0,[⟨.ob 40 [0],43,(.sl 19 qh)⟩]),(2,[⟨.ob 40 [0],43,(.sl 19 qh)⟩]),(9,[⟨.ob 40 [0],43,(.sl 19 qh)⟩])] }
def qUh (N:Nat):List Ent:=[qkP N,qHz N,qyR N,qm8,qjy N,ql7 N]
theorem qQu (N:Nat):qO Tryz.prog (qUh N):=⟨qnG N,qPf N,qIO N,qz9,qtD N,qxD N,trivial⟩
def qUN (z:qc×Int):TV×THp:=(.tup [.tv qn (z.1:qc),xi z.2],[])
def qxt (N:Nat) (a0:qc) (a1:qd):Tree (qc×Int):=
 .bind (qcy N a0) fun r1=>
 .cond (!r1) (
 .chk (0=0) <|
 .ret (qc.mk [],1)) <|
 .bind (qBK N a1) fun r2=>
 .cond (!r2) (
 .chk (0=0) <|
 .ret (qc.mk [],1)) <|
 .cond (decide ((qd.Kind a1)=0)) (
 .chk (0≤(0:Int)∧(0:Int) < ((4:Nat):Int)) <|
 .bind (KO N a0 (qa.mk (qd.ID a1) (qd.S a1) [])) fun r3=>
 .ret (r3.1,r3.2)) <|
 .cond (decide ((qd.Kind a1)=1)) (
 .chk (0≤(1:Int)∧(1:Int) < ((4:Nat):Int)) <|
 .bind (qjS (zf.mk a0 a1)) fun r3=>
 .bind (KO N a0 (qa.mk (qd.ID a1) (qe.mk 0 0) [qg.mk (qd.No a1) (qf.mk (qd.S a1) (qd.V a1))])) fun r4=>
 .ret (r4.1,r4.2)) <|
 .cond (decide ((qd.Kind a1)=2)) (
 .chk (0≤(2:Int)∧(2:Int) < ((4:Nat):Int)) <|
 .bind (qaa N (zf.mk a0 a1)) fun r3=>
 .cond (!decide (r3.2=0)) (
 .chk (0=0) <|
 .ret (qc.mk [],r3.2)) <|
 .bind (KO N a0 (qa.mk (qd.ID a1) (qe.mk 0 0) [qg.mk (qd.No a1) (qf.mk (qd.S a1) r3.1)])) fun r4=>
 .ret (r4.1,r4.2)) <|
 .cond (decide ((qd.Kind a1)=3)) (
 .chk (0≤(3:Int)∧(3:Int) < ((4:Nat):Int)) <|
 .bind (qdx N (zf.mk a0 a1)) fun r3=>
 .cond (!decide (r3.2=0)) (
 .chk (0=0) <|
 .ret (qc.mk [],r3.2)) <|
 .bind (KO N a0 (qa.mk (qd.ID a1) (qe.mk 0 0) [qg.mk (qd.No a1) (qf.mk (qd.S a1) r3.1)])) fun r4=>
 .ret (r4.1,r4.2)) <|
 .no
def qxv (N:Nat) (a0:qc) (a1:qd):Option (qc×Int):=(qxt N a0 a1).run some
def qTU (N:Nat):List (Nat×qy):=[]
def qK2 (N:Nat):Ent:=smF ⟨24,[],[.x qn,.x zk],[],[]⟩ [qn,zk] (qc×Int) (fun x=>qxv N x.1 x.2.1) cs1 fun _=>qUN
theorem qR6 (N:Nat):q_ Tryz.prog (qK2 N):=
 q8 (H:=qUa) (L:=qI (qTU N)) (ts:=[qn,zk]) (T:=fun x=>qxt N x.1 x.2.1) 0 qSp (qQu N) (qq (by kernel_rfl) trivial) (rg0 (by kernel_rfl)) fun x=>by kernel_rfl
noncomputable def qTc:Code:=Tryz.f56.body.getD .skip
theorem qRB:FnF Tryz.prog 56 Tryz.f56 qTc:=⟨qk,by kernel_rfl,by kernel_rfl,by kernel_rfl⟩
def qvX:TH:={ live:=[(0,[1]),(1,[1,5]),(2,[2]),(3,[2])],dec:=[12,17,22] }
def qvS (N:Nat):List Ent:=[]
theorem qrY (N:Nat):qO Tryz.prog (qvS N):=trivial
def qwl (z:Bool):TV×THp:=(xb z,[])
def qc1 (a0:qe):Tree (Bool):=
 .cond (decide ((qe.N a0)=((0:Int)))) (
 .ret (decide ((qe.Rep a0)=((0:Int))))) <|
 .cond (decide (((1:Int))≤(qe.N a0))) (
 .cond (decide ((qe.N a0)≤((1099511627776:Int)))) (
 .cond (decide (((0:Int))≤(qe.Rep a0))) (
 .ret (decide ((qe.Rep a0) < ((8:Int))))) <|
 .ret false) <|
 .ret false) <|
 .ret false
def Jg (a0:qe):Option (Bool):=(qc1 a0).run some
def qwp:List (Nat×qy):=[]
def Xl:Ent:=smF ⟨56,[],[.x qm],[],[]⟩ [qm] (Bool) (fun x=>Jg x.1) cs1 fun _=>qwl
theorem WW:q_ Tryz.prog (Xl):=
 q8 (H:=qvX) (L:=qI (qwp)) (ts:=[qm]) (T:=fun x=>qc1 x.1) 0 qRB (qrY 0) (qq (by kernel_rfl) trivial) (rg0 (by kernel_rfl)) fun x=>by kernel_rfl
noncomputable def qOD:Code:=Tryz.f120.body.getD .skip
theorem qN7:FnF Tryz.prog 120 Tryz.f120 qOD:=⟨qk,by kernel_rfl,by kernel_rfl,by kernel_rfl⟩
def qwq:TH:={ live:=[(0,[1]),(1,[1,3]),(2,[2])],dec:=[8,14] }
def qwx (N:Nat):List Ent:=[Xl]
theorem qq_ (N:Nat):qO Tryz.prog (qwx N):=⟨WW,trivial⟩
def qvE (z:Bool):TV×THp:=(xb z,[])
def qdd (a0:qf):Tree (Bool):=
 .bind (Jg (qf.S a0)) fun r1=>
 .cond r1 (
 .cond (decide (((0:Int)) < (qe.N (qf.S a0)))) (
 .ret (decide ((((qf.V a0).length:Nat):Int)≤((200:Int))))) <|
 .ret false) <|
 .ret false
def qaI (a0:qf):Option (Bool):=(qdd a0).run some
def qup:List (Nat×qy):=[]
def qi0:Ent:=smF ⟨120,[],[.x qt],[],[]⟩ [qt] (Bool) (fun x=>qaI x.1) cs1 fun _=>qvE
theorem qt2:q_ Tryz.prog (qi0):=
 q8 (H:=qwq) (L:=qI (qup)) (ts:=[qt]) (T:=fun x=>qdd x.1) 0 qN7 (qq_ 0) (qq (by kernel_rfl) trivial) (rg0 (by kernel_rfl)) fun x=>by kernel_rfl
noncomputable def qNi:Code:=Tryz.f121.body.getD .skip
theorem qOg:FnF Tryz.prog 121 Tryz.f121 qNi:=⟨qk,by kernel_rfl,by kernel_rfl,by kernel_rfl⟩
def qtW:TH:={ live:=[(0,[2,3]),(1,[4])],dec:=[10,16] }
def qtj (N:Nat):List Ent:=[]
theorem qpl (N:Nat):qO Tryz.prog (qtj N):=trivial
def qtQ (z:Bool):TV×THp:=(xb z,[])
def qbj (a0:qe) (a1:qe):Tree (Bool):=
 .cond (decide ((qe.N a0) < (qe.N a1))) (
 .ret true) <|
 .cond (decide ((qe.N a0)=(qe.N a1))) (
 .ret (decide ((qe.Rep a0) < (qe.Rep a1)))) <|
 .ret false
def jt (a0:qe) (a1:qe):Option (Bool):=(qbj a0 a1).run some
def qtG:List (Nat×qy):=[]
def Vx:Ent:=smF ⟨121,[],[.x qm,.x qm],[],[]⟩ [qm,qm] (Bool) (fun x=>jt x.1 x.2.1) cs1 fun _=>qtQ
theorem We:q_ Tryz.prog (Vx):=
 q8 (H:=qtW) (L:=qI (qtG)) (ts:=[qm,qm]) (T:=fun x=>qbj x.1 x.2.1) 0 qOg (qpl 0) (qq (by kernel_rfl) trivial) (rg0 (by kernel_rfl)) fun x=>by kernel_rfl
noncomputable def qzO:Code:=Tryz.f96.body.getD .skip
theorem qQA:FnF Tryz.prog 96 Tryz.f96 qzO:=⟨qk,by kernel_rfl,by kernel_rfl,by kernel_rfl⟩
def qcR:TH:={ live:=[(0,[1]),(1,[1,3]),(2,[1,25]),(3,[2]),(4,[1,4]),(5,[1,4,5]),(6,[1,4,5,30]),(7,[1,4,5]),(8,[1,4,5,6]),(9,[1,4,5,6,7]),(10,[1,4,5,6,7,8]),(11,[1,5,6,63]),(12,[2]),(13,[1,4,5]),(14,[2])],dec:=[14,19,49,53,59] }
def qjE (N:Nat):List Ent:=[Xl,qi0,Vx]
theorem qhE (N:Nat):qO Tryz.prog (qjE N):=⟨WW,qt2,We,trivial⟩
abbrev Xx:=qa
abbrev QU:=Unit⊕(Int×Int×Bool)
def Jy (f:Xx):QU→Ex×TSt
 | .inl y=>(.ret,⟨0,66,[],[(2,.bc false)],[],false,[]⟩)
 | .inr y=>(.exit 0,⟨0,66,[],[(1,.p 10 [] 0),(4,xi y.1),(5,xi y.2.1),(30,xb y.2.2)],[(10,.cell false (.tv qh f))],false,[]⟩)
def qp6 (N:Nat):List (Nat×qy):=[]
abbrev Jw:=Int×Int
def qgr:SP:=⟨0,66,[],[(1,.k (.p 10 [] 0)),(4,.x (.i .i64)),(5,.x (.i .i64))],[(10,.cell false (.x qh))],false,[]⟩
def qp2 (f:Xx) (v:Jw):TSt:=zw qgr [dv qh f,dv (.i .i64) v.1,dv (.i .i64) v.2]
def XD (N:Nat) (o_6:qa) (v:Jw):Tree (Jw⊕QU):=
 .cond (decide (v.2 < (((qa.F o_6).length:Nat):Int))) (
 .bind (qP (qa.F o_6) v.2) fun e1=>
 .bind (qaI (qg.C e1)) fun r2=>
 .bind (jt (qa.qW o_6) (qf.S (qg.C e1))) fun r3=>
 .cond (!r2) (
 .ret (.inr (.inl ()))) <|
 .cond (!r3) (
 .ret (.inr (.inl ()))) <|
 .cond (decide ((qg.No e1)≤v.1)) (
 .ret (.inr (.inl ()))) <|
 .cond (decide (((8:Int))≤(qg.No e1))) (
 .ret (.inr (.inl ()))) <|
 .chk (qj (v.2 + 1)) <|
 .ret (.inl (qg.No e1,v.2 + 1))) <|
 .ret (.inr (.inr ((v.1,v.2,decide (v.2 < (((qa.F o_6).length:Nat):Int))))))
def qgp (N n:Nat) (f:Xx) (v:Jw):Option QU:=qQ (XD N f) some n v
theorem qpZ (N:Nat) (f:Xx) (n:Nat) (v:Jw) (y:QU) (h:qgp N n f v=some y):LG Tryz.prog qcR 96 (qL qzO 6) (qp2 f v) (Jy f y):=
 zl qk (E:=qjE N) (L:=qI (qp6 N)) (st:=Jy f) (g:=some) (R:=Jy f) (qhE N) (qq (by kernel_rfl) trivial) (rg0 (by kernel_rfl)) (fun v=>by kernel_rfl) (qU (st:=Jy f) fun y=>by rcases y with _ | _<;>rfl) (js0 rfl) n v y h
def WR (N:Nat) (o_6:qa) (s4_6:Int) (s5_6:Int):Option QU:=qgp N N o_6 (s4_6,s5_6)
def qfS (N:Nat):qy:=smL qgr [qh,(.i .i64),(.i .i64)] QU (fun x=>WR N x.1 x.2.1 x.2.2.1) (csS cs1) fun x=>Jy x.1
theorem qn7 (N:Nat):ji Tryz.prog qcR 96 (qL qzO 6) (qfS N):=zu fun x z h=>qpZ N x.1 N (x.2.1,x.2.2.1) z h
def qwO (z:Bool):TV×THp:=(xb z,[])
def qcV (N:Nat) (a0:qa):Tree (Bool):=
 .bind (Jg (qa.qW a0)) fun r1=>
 .cond (!r1) (
 .ret false) <|
 .cond (decide ((((qa.F a0).length:Nat):Int)=((0:Int)))) (
 .cond (eqE qm (qa.qW a0) (qe.mk 0 0)) (
 .ret false) <|
 .bind (WR N a0 (-1) 0) fun z2=>
 .sum z2 (fun z3=>
 .ret false) fun z3=>
 .ret true) <|
 .bind (WR N a0 (-1) 0) fun z2=>
 .sum z2 (fun z3=>
 .ret false) fun z3=>
 .ret true
def Je (N:Nat) (a0:qa):Option (Bool):=(qcV N a0).run some
def quJ (N:Nat):List (Nat×qy):=[(6,qfS N)]
def Yx (N:Nat):Ent:=smF ⟨96,[],[.x qh],[],[]⟩ [qh] (Bool) (fun x=>Je N x.1) cs1 fun _=>qwO
theorem qbu (N:Nat):q_ Tryz.prog (Yx N):=
 q8 (H:=qcR) (L:=qI (quJ N)) (ts:=[qh]) (T:=fun x=>qcV N x.1) 0 qQA (qhE N) (qq (by kernel_rfl) ⟨qn7 N,trivial⟩) (rg0 (by kernel_rfl)) fun x=>by kernel_rfl
noncomputable def qzJ:Code:=Tryz.f97.body.getD .skip
theorem qRT:FnF Tryz.prog 97 Tryz.f97 qzJ:=⟨qk,by kernel_rfl,by kernel_rfl,by kernel_rfl⟩
def qbH:TH:={ live:=[(0,[2,3]),(1,[2,3,5]),(2,[2,3,5,7]),(3,[2,3,5]),(4,[2,3,5,16]),(5,[4]),(6,[4])] }
def qhP (N:Nat):List Ent:=[]
theorem qgD (N:Nat):qO Tryz.prog (qhP N):=trivial
abbrev V6:=Vector UInt8 16×Vector UInt8 16
abbrev Qg:=Bool⊕(Int×Bool)
def Z6 (f:V6):Qg→Ex×TSt
 | .inl y=>(.ret,⟨0,24,[],[(4,xb y)],[],false,[]⟩)
 | .inr y=>(.exit 0,⟨0,24,[],[(2,.p 20 [] 0),(3,.p 30 [] 0),(5,xi y.1),(7,xb y.2)],[(20,.cell false (.tv (.ba 16) f.1)),(30,.cell false (.tv (.ba 16) f.2))],false,[]⟩)
def qnF (N:Nat):List (Nat×qy):=[]
abbrev ZN:=Int
def qeA:SP:=⟨0,24,[],[(2,.k (.p 20 [] 0)),(3,.k (.p 30 [] 0)),(5,.x (.i .i64))],[(20,.cell false (.x (.ba 16))),(30,.cell false (.x (.ba 16)))],false,[]⟩
def qnZ (f:V6) (v:ZN):TSt:=zw qeA [dv (.ba 16) f.1,dv (.ba 16) f.2,dv (.i .i64) v]
def Z1 (N:Nat) (o_2:Vector UInt8 16) (o_2_2:Vector UInt8 16) (v:ZN):Tree (ZN⊕Qg):=
 .cond (decide (v < ((16:Int)))) (
 .chk (0≤v∧v < ((16:Nat):Int)) <|
 .chk (v.toNat < 16) <|
 .chk (0≤v∧v < ((16:Nat):Int)) <|
 .chk (v.toNat < 16) <|
 .cond (!decide ((((o_2.toList.getD v.toNat 0).toNat:Nat):Int)=(((o_2_2.toList.getD v.toNat 0).toNat:Nat):Int))) (
 .chk (0≤v∧v < ((16:Nat):Int)) <|
 .chk (v.toNat < 16) <|
 .chk (0≤v∧v < ((16:Nat):Int)) <|
 .chk (v.toNat < 16) <|
 .ret (.inr (.inl (decide ((((o_2.toList.getD v.toNat 0).toNat:Nat):Int) < (((o_2_2.toList.getD v.toNat 0).toNat:Nat):Int)))))) <|
 .chk (qj (v + 1)) <|
 .ret (.inl (v + 1))) <|
 .ret (.inr (.inr ((v,decide (v < ((16:Int)))))))
def qeO (N n:Nat) (f:V6) (v:ZN):Option Qg:=qQ (Z1 N f.1 f.2) some n v
theorem qod (N:Nat) (f:V6) (n:Nat) (v:ZN) (y:Qg) (h:qeO N n f v=some y):LG Tryz.prog qbH 97 (qL qzJ 2) (qnZ f v) (Z6 f y):=
 zl qk (E:=qhP N) (L:=qI (qnF N)) (st:=Z6 f) (g:=some) (R:=Z6 f) (qgD N) (qq (by kernel_rfl) trivial) (rg0 (by kernel_rfl)) (fun v=>by kernel_rfl) (qU (st:=Z6 f) fun y=>by rcases y with _ | _<;>rfl) (js0 rfl) n v y h
def qag (N:Nat) (o_2:Vector UInt8 16) (o_2_2:Vector UInt8 16) (s5_2:Int):Option Qg:=qeO N N (o_2,o_2_2) s5_2
def qe_ (N:Nat):qy:=smL qeA [(.ba 16),(.ba 16),(.i .i64)] Qg (fun x=>qag N x.1 x.2.1 x.2.2.1) (csS cs1) fun x=>Z6 (x.1,x.2.1)
theorem qmQ (N:Nat):ji Tryz.prog qbH 97 (qL qzJ 2) (qe_ N):=zu fun x z h=>qod N (x.1,x.2.1) N x.2.2.1 z h
def qt0 (z:Bool):TV×THp:=(xb z,[])
def qbi (N:Nat) (a0:Vector UInt8 16) (a1:Vector UInt8 16):Tree (Bool):=
 .bind (qag N a0 a1 0) fun z1=>
 .sum z1 (fun z2=>
 .ret z2) fun z2=>
 .ret false
def X8 (N:Nat) (a0:Vector UInt8 16) (a1:Vector UInt8 16):Option (Bool):=(qbi N a0 a1).run some
def qtw (N:Nat):List (Nat×qy):=[(2,qe_ N)]
def qbp (N:Nat):Ent:=smF ⟨97,[],[.x (.ba 16),.x (.ba 16)],[],[]⟩ [(.ba 16),(.ba 16)] (Bool) (fun x=>X8 N x.1 x.2.1) cs1 fun _=>qt0
theorem qg4 (N:Nat):q_ Tryz.prog (qbp N):=
 q8 (H:=qbH) (L:=qI (qtw N)) (ts:=[(.ba 16),(.ba 16)]) (T:=fun x=>qbi N x.1 x.2.1) 0 qRT (qgD N) (qq (by kernel_rfl) ⟨qmQ N,trivial⟩) (rg0 (by kernel_rfl)) fun x=>by kernel_rfl
noncomputable def qzK:Code:=Tryz.f69.body.getD .skip
theorem qSg:FnF Tryz.prog 69 Tryz.f69 qzK:=⟨qk,by kernel_rfl,by kernel_rfl,by kernel_rfl⟩
def qc_:TH:={ live:=[(0,[1]),(1,[1,3]),(2,[1,3,10]),(3,[1,3]),(4,[1,3,4]),(5,[1,3,20]),(6,[2]),(7,[1,3,22]),(8,[1,3,5]),(9,[1,3,38]),(10,[2]),(11,[2])] }
def qjl (N:Nat):List Ent:=[Yx N,qbp N]
theorem qgS (N:Nat):qO Tryz.prog (qjl N):=⟨qbu N,qg4 N,trivial⟩
abbrev Xw:=qc
abbrev QT:=Unit⊕(Int×Bool)
def JG (f:Xw):QT→Ex×TSt
 | .inl y=>(.ret,⟨0,43,[],[(2,.bc false)],[],false,[]⟩)
 | .inr y=>(.exit 0,⟨0,43,[],[(1,.p 10 [] 0),(3,xi y.1),(10,xb y.2)],[(10,.cell false (.tv qn f))],false,[]⟩)
def qqq (N:Nat):List (Nat×qy):=[]
abbrev Jn:=Int
def qf6:SP:=⟨0,43,[],[(1,.k (.p 10 [] 0)),(3,.x (.i .i64))],[(10,.cell false (.x qn))],false,[]⟩
def qpD (f:Xw) (v:Jn):TSt:=zw qf6 [dv qn f,dv (.i .i64) v]
def Xu (N:Nat) (o_2:qc) (v:Jn):Tree (Jn⊕QT):=
 .cond (decide (v < (((qc.R o_2).length:Nat):Int))) (
 .bind (qP (qc.R o_2) v) fun e1=>
 .bind (Je N e1) fun r2=>
 .cond (!r2) (
 .ret (.inr (.inl ()))) <|
 .cond (decide (((0:Int)) < v)) (
 .chk (qj (v - 1)) <|
 .bind (qP (qc.R o_2) (v - 1)) fun e3=>
 .bind (qP (qc.R o_2) v) fun e4=>
 .bind (X8 N (qa.ID e3) (qa.ID e4)) fun r5=>
 .cond (!r5) (
 .ret (.inr (.inl ()))) <|
 .chk (qj (v + 1)) <|
 .ret (.inl (v + 1))) <|
 .chk (qj (v + 1)) <|
 .ret (.inl (v + 1))) <|
 .ret (.inr (.inr ((v,decide (v < (((qc.R o_2).length:Nat):Int))))))
def qgn (N n:Nat) (f:Xw) (v:Jn):Option QT:=qQ (Xu N f) some n v
theorem qqp (N:Nat) (f:Xw) (n:Nat) (v:Jn) (y:QT) (h:qgn N n f v=some y):LG Tryz.prog qc_ 69 (qL qzK 2) (qpD f v) (JG f y):=
 zl qk (E:=qjl N) (L:=qI (qqq N)) (st:=JG f) (g:=some) (R:=JG f) (qgS N) (qq (by kernel_rfl) trivial) (rg0 (by kernel_rfl)) (fun v=>by kernel_rfl) (qU (st:=JG f) fun y=>by rcases y with _ | _<;>rfl) (js0 rfl) n v y h
def qbr (N:Nat) (o_2:qc) (s3_2:Int):Option QT:=qgn N N o_2 s3_2
def qfZ (N:Nat):qy:=smL qf6 [qn,(.i .i64)] QT (fun x=>qbr N x.1 x.2.1) (csS cs1) fun x=>JG x.1
theorem qo3 (N:Nat):ji Tryz.prog qc_ 69 (qL qzK 2) (qfZ N):=zu fun x z h=>qqp N x.1 N x.2.1 z h
def qul (z:Bool):TV×THp:=(xb z,[])
def qc2 (N:Nat) (a0:qc):Tree (Bool):=
 .bind (qbr N a0 0) fun z1=>
 .sum z1 (fun z2=>
 .ret false) fun z2=>
 .ret (decide ((((qc.R a0).length:Nat):Int)≤((10:Int))))
def Jh (N:Nat) (a0:qc):Option (Bool):=(qc2 N a0).run some
def qwk (N:Nat):List (Nat×qy):=[(2,qfZ N)]
def Yj (N:Nat):Ent:=smF ⟨69,[],[.x qn],[],[]⟩ [qn] (Bool) (fun x=>Jh N x.1) cs1 fun _=>qul
theorem qbx (N:Nat):q_ Tryz.prog (Yj N):=
 q8 (H:=qc_) (L:=qI (qwk N)) (ts:=[qn]) (T:=fun x=>qc2 N x.1) 0 qSg (qgS N) (qq (by kernel_rfl) ⟨qo3 N,trivial⟩) (rg0 (by kernel_rfl)) fun x=>by kernel_rfl
noncomputable def qRb:Code:=Tryz.f57.body.getD .skip
theorem qSX:FnF Tryz.prog 57 Tryz.f57 qRb:=⟨qk,by kernel_rfl,by kernel_rfl,by kernel_rfl⟩
def qt7:TH:={ live:=[(0,[1,2]),(1,[1,2,3]),(2,[1,2,3,13]),(3,[1,2,3]),(4,[1,2,3,19]),(5,[1,2,3]),(6,[1,2,3,25]),(7,[1,2,3]),(8,[1,2,3]),(9,[1,2,3]),(10,[1,2,3,37]),(11,[1,2,3]),(12,[2,3]),(13,[2])] }
def qtx (N:Nat):List Ent:=[]
theorem qqL (N:Nat):qO Tryz.prog (qtx N):=trivial
def qt6 (z:qd):TV×THp:=(.tv zk z,[])
def qbs (a0:qd):Tree (qd):=
 .cond (!decide ((qd.Kind a0)=((0:Int)))) (
 .cond (decide ((qd.Kind a0)=((1:Int)))) (
 .cond (decide ((qd.Kind a0)=((2:Int)))) (
 .cond (decide ((qd.Kind a0)=((3:Int)))) (
 .ret a0) <|
 .ret (qd.mk (qd.Kind a0) (qd.ID a0) (qd.S a0) (qd.No a0) (qd.V a0) [] (qd.zm a0) (qd.jV a0) (qd.D a0))) <|
 .cond (decide ((qd.Kind a0)=((3:Int)))) (
 .ret (qd.mk (qd.Kind a0) (qd.ID a0) (qd.S a0) (qd.No a0) (qd.V a0) (qd.P a0) ((Vector.replicate 16 0)) 0 (qd.D a0))) <|
 .ret (qd.mk (qd.Kind a0) (qd.ID a0) (qd.S a0) (qd.No a0) (qd.V a0) [] ((Vector.replicate 16 0)) 0 ((Vector.replicate 32 0)))) <|
 .cond (decide ((qd.Kind a0)=((2:Int)))) (
 .cond (decide ((qd.Kind a0)=((3:Int)))) (
 .ret (qd.mk (qd.Kind a0) (qd.ID a0) (qd.S a0) (qd.No a0) [] (qd.P a0) (qd.zm a0) (qd.jV a0) (qd.D a0))) <|
 .ret (qd.mk (qd.Kind a0) (qd.ID a0) (qd.S a0) (qd.No a0) [] [] (qd.zm a0) (qd.jV a0) (qd.D a0))) <|
 .cond (decide ((qd.Kind a0)=((3:Int)))) (
 .ret (qd.mk (qd.Kind a0) (qd.ID a0) (qd.S a0) (qd.No a0) [] (qd.P a0) ((Vector.replicate 16 0)) 0 (qd.D a0))) <|
 .ret (qd.mk (qd.Kind a0) (qd.ID a0) (qd.S a0) (qd.No a0) [] [] ((Vector.replicate 16 0)) 0 ((Vector.replicate 32 0)))) <|
 .cond (decide ((qd.Kind a0)=((1:Int)))) (
 .cond (decide ((qd.Kind a0)=((2:Int)))) (
 .cond (decide ((qd.Kind a0)=((3:Int)))) (
 .ret (qd.mk (qd.Kind a0) (qd.ID a0) (qd.S a0) 0 (qd.V a0) (qd.P a0) (qd.zm a0) (qd.jV a0) (qd.D a0))) <|
 .ret (qd.mk (qd.Kind a0) (qd.ID a0) (qd.S a0) 0 (qd.V a0) [] (qd.zm a0) (qd.jV a0) (qd.D a0))) <|
 .cond (decide ((qd.Kind a0)=((3:Int)))) (
 .ret (qd.mk (qd.Kind a0) (qd.ID a0) (qd.S a0) 0 (qd.V a0) (qd.P a0) ((Vector.replicate 16 0)) 0 (qd.D a0))) <|
 .ret (qd.mk (qd.Kind a0) (qd.ID a0) (qd.S a0) 0 (qd.V a0) [] ((Vector.replicate 16 0)) 0 ((Vector.replicate 32 0)))) <|
 .cond (decide ((qd.Kind a0)=((2:Int)))) (
 .cond (decide ((qd.Kind a0)=((3:Int)))) (
 .ret (qd.mk (qd.Kind a0) (qd.ID a0) (qd.S a0) 0 [] (qd.P a0) (qd.zm a0) (qd.jV a0) (qd.D a0))) <|
 .ret (qd.mk (qd.Kind a0) (qd.ID a0) (qd.S a0) 0 [] [] (qd.zm a0) (qd.jV a0) (qd.D a0))) <|
 .cond (decide ((qd.Kind a0)=((3:Int)))) (
 .ret (qd.mk (qd.Kind a0) (qd.ID a0) (qd.S a0) 0 [] (qd.P a0) ((Vector.replicate 16 0)) 0 (qd.D a0))) <|
 .ret (qd.mk (qd.Kind a0) (qd.ID a0) (qd.S a0) 0 [] [] ((Vector.replicate 16 0)) 0 ((Vector.replicate 32 0)))
def Y0 (a0:qd):Option (qd):=(qbs a0).run some
def qs_:List (Nat×qy):=[]
def qh9:Ent:=smF ⟨57,[],[.x zk],[],[]⟩ [zk] (qd) (fun x=>Y0 x.1) cs1 fun _=>qt6
theorem qrZ:q_ Tryz.prog (qh9):=
 q8 (H:=qt7) (L:=qI (qs_)) (ts:=[zk]) (T:=fun x=>qbs x.1) 0 qSX (qqL 0) (qq (by kernel_rfl) trivial) (rg0 (by kernel_rfl)) fun x=>by kernel_rfl
noncomputable def qzk:Code:=Tryz.f55.body.getD .skip
theorem qQ5:FnF Tryz.prog 55 Tryz.f55 qzk:=⟨qk,by kernel_rfl,by kernel_rfl,by kernel_rfl⟩
def qbo:TH:={ live:=[(0,[0,1]),(1,[0,1,10]),(2,[4]),(3,[0,1,5]),(4,[0,1,5,14]),(5,[0,1,5]),(6,[0,1,5,25]),(7,[4]),(8,[4])] }
def qhQ (N:Nat):List Ent:=[]
theorem qgq (N:Nat):qO Tryz.prog (qhQ N):=trivial
abbrev V7:=List qb×List qb
abbrev Qo:=Unit⊕(Int×Bool)
def ZQ (f:V7):Qo→Ex×TSt
 | .inl y=>(.ret,⟨0,26,[],[(4,.bc false)],[],false,[]⟩)
 | .inr y=>(.exit 0,⟨0,26,[],[(0,.tv (.sl 4 qw) f.1),(1,.tv (.sl 4 qw) f.2),(5,xi y.1),(14,xb y.2)],[],false,[]⟩)
def qoB (N:Nat):List (Nat×qy):=[]
abbrev ZZ:=Int
def qeM:SP:=⟨0,26,[],[(0,.x (.sl 4 qw)),(1,.x (.sl 4 qw)),(5,.x (.i .i64))],[],false,[]⟩
def qof (f:V7) (v:ZZ):TSt:=zw qeM [dv (.sl 4 qw) f.1,dv (.sl 4 qw) f.2,dv (.i .i64) v]
def V9 (N:Nat) (s0_4:List qb) (s1_4:List qb) (v:ZZ):Tree (ZZ⊕Qo):=
 .cond (decide (v < ((s0_4.length:Nat):Int))) (
 .bind (qP s0_4 v) fun e1=>
 .bind (qP s1_4 v) fun e2=>
 .cond (!(eqE qw e1 e2)) (
 .ret (.inr (.inl ()))) <|
 .chk (qj (v + 1)) <|
 .ret (.inl (v + 1))) <|
 .ret (.inr (.inr ((v,decide (v < ((s0_4.length:Nat):Int))))))
def qe9 (N n:Nat) (f:V7) (v:ZZ):Option Qo:=qQ (V9 N f.1 f.2) some n v
theorem qoO (N:Nat) (f:V7) (n:Nat) (v:ZZ) (y:Qo) (h:qe9 N n f v=some y):LG Tryz.prog qbo 55 (qL qzk 4) (qof f v) (ZQ f y):=
 zl qk (E:=qhQ N) (L:=qI (qoB N)) (st:=ZQ f) (g:=some) (R:=ZQ f) (qgq N) (qq (by kernel_rfl) trivial) (rg0 (by kernel_rfl)) (fun v=>by kernel_rfl) (qU (st:=ZQ f) fun y=>by rcases y with _ | _<;>rfl) (js0 rfl) n v y h
def qaD (N:Nat) (s0_4:List qb) (s1_4:List qb) (s5_4:Int):Option Qo:=qe9 N N (s0_4,s1_4) s5_4
def qe1 (N:Nat):qy:=smL qeM [(.sl 4 qw),(.sl 4 qw),(.i .i64)] Qo (fun x=>qaD N x.1 x.2.1 x.2.2.1) (csS cs1) fun x=>ZQ (x.1,x.2.1)
theorem qmM (N:Nat):ji Tryz.prog qbo 55 (qL qzk 4) (qe1 N):=zu fun x z h=>qoO N (x.1,x.2.1) N x.2.2.1 z h
def qtr (z:Bool):TV×THp:=(xb z,[])
def qbG (N:Nat) (a0:List qb) (a1:List qb):Tree (Bool):=
 .cond (!decide (((a0.length:Nat):Int)=((a1.length:Nat):Int))) (
 .ret false) <|
 .bind (qaD N a0 a1 0) fun z1=>
 .sum z1 (fun z2=>
 .ret false) fun z2=>
 .ret true
def YX (N:Nat) (a0:List qb) (a1:List qb):Option (Bool):=(qbG N a0 a1).run some
def qth (N:Nat):List (Nat×qy):=[(4,qe1 N)]
def qh6 (N:Nat):Ent:=smF ⟨55,[],[.x (.sl 4 qw),.x (.sl 4 qw)],[],[]⟩ [(.sl 4 qw),(.sl 4 qw)] (Bool) (fun x=>YX N x.1 x.2.1) cs1 fun _=>qtr
theorem qqO (N:Nat):q_ Tryz.prog (qh6 N):=
 q8 (H:=qbo) (L:=qI (qth N)) (ts:=[(.sl 4 qw),(.sl 4 qw)]) (T:=fun x=>qbG N x.1 x.2.1) 0 qQ5 (qgq N) (qq (by kernel_rfl) ⟨qmM N,trivial⟩) (rg0 (by kernel_rfl)) fun x=>by kernel_rfl
noncomputable def qRE:Code:=Tryz.f17.body.getD .skip
theorem qQ8:FnF Tryz.prog 17 Tryz.f17 qRE:=⟨qk,by kernel_rfl,by kernel_rfl,by kernel_rfl⟩
def qtR:TH:={ live:=[(0,[2,3]),(1,[2,3,5]),(2,[4])],dec:=[12,19,26,33,40,47,54,61] }
def qtP (N:Nat):List Ent:=[qh6 N]
theorem qpM (N:Nat):qO Tryz.prog (qtP N):=⟨qqO N,trivial⟩
def qtM (z:Bool):TV×THp:=(xb z,[])
def qbk (N:Nat) (a0:qd) (a1:qd):Tree (Bool):=
 .bind (YX N (qd.P a0) (qd.P a1)) fun r1=>
 .cond r1 (
 .cond (decide ((qd.Kind a0)=(qd.Kind a1))) (
 .cond (eqE (.ba 16) (qd.ID a0) (qd.ID a1)) (
 .cond (eqE qm (qd.S a0) (qd.S a1)) (
 .cond (decide ((qd.No a0)=(qd.No a1))) (
 .cond (decide ((qd.V a0)=(qd.V a1))) (
 .cond (eqE (.ba 16) (qd.zm a0) (qd.zm a1)) (
 .cond (decide ((qd.jV a0)=(qd.jV a1))) (
 .ret (eqE (.ba 32) (qd.D a0) (qd.D a1))) <|
 .ret false) <|
 .ret false) <|
 .ret false) <|
 .ret false) <|
 .ret false) <|
 .ret false) <|
 .ret false) <|
 .ret false
def Y8 (N:Nat) (a0:qd) (a1:qd):Option (Bool):=(qbk N a0 a1).run some
def qtA (N:Nat):List (Nat×qy):=[]
def qh7 (N:Nat):Ent:=smF ⟨17,[],[.x zk,.x zk],[],[]⟩ [zk,zk] (Bool) (fun x=>Y8 N x.1 x.2.1) cs1 fun _=>qtM
theorem qsB (N:Nat):q_ Tryz.prog (qh7 N):=
 q8 (H:=qtR) (L:=qI (qtA N)) (ts:=[zk,zk]) (T:=fun x=>qbk N x.1 x.2.1) 0 qQ8 (qpM N) (qq (by kernel_rfl) trivial) (rg0 (by kernel_rfl)) fun x=>by kernel_rfl
noncomputable def qz8:Code:=Tryz.f58.body.getD .skip
theorem qTu:FnF Tryz.prog 58 Tryz.f58 qz8:=⟨qk,by kernel_rfl,by kernel_rfl,by kernel_rfl⟩
def qcf:TH:={ live:=[(0,[0]),(1,[0,3]),(2,[0,3,4]),(3,[0,3,4,11]),(4,[0,3,4]),(5,[0,3,4,5]),(6,[0,3,4,5,6]),(7,[0,3,4,5,6,7]),(8,[0,3,4,5,75]),(9,[2]),(10,[0,3,4]),(11,[2])],dec:=[21,26,31,36,44,49,55,63,67,71,87] }
def qi9 (N:Nat):List Ent:=[]
theorem qgT (N:Nat):qO Tryz.prog (qi9 N):=trivial
abbrev XK:=List qb
abbrev jE:=Unit⊕(Int×Int×Bool)
def JF (f:XK):jE→Ex×TSt
 | .inl y=>(.ret,⟨0,91,[],[(2,.bc false)],[],false,[]⟩)
 | .inr y=>(.exit 0,⟨0,91,[],[(0,.tv (.sl 4 qw) f),(3,xi y.1),(4,xi y.2.1),(11,xb y.2.2)],[],false,[]⟩)
def qp7 (N:Nat):List (Nat×qy):=[]
abbrev Jq:=Int×Int
def qfT:SP:=⟨0,91,[],[(0,.x (.sl 4 qw)),(3,.x (.i .i64)),(4,.x (.i .i64))],[],false,[]⟩
def qqg (f:XK) (v:Jq):TSt:=zw qfT [dv (.sl 4 qw) f,dv (.i .i64) v.1,dv (.i .i64) v.2]
def JD (N:Nat) (s0_3:List qb) (v:Jq):Tree (Jq⊕jE):=
 .cond (decide (v.2 < ((s0_3.length:Nat):Int))) (
 .bind (qP s0_3 v.2) fun e1=>
 .cond (decide (((0:Int))≤(qb.zm e1))) (
 .cond (decide ((qb.zm e1)≤((200:Int)))) (
 .cond (decide (((1:Int))≤(qb.Len e1))) (
 .cond (decide ((qb.Len e1)≤((200:Int)))) (
 .cond (decide ((qb.zm e1)=((0:Int)))) (
 .cond (decide ((qb.Len e1)=((0:Int)))) (
 .cond (decide (((1:Int))≤(((qb.Lit e1).length:Nat):Int))) (
 .cond (qb.zV e1) (
 .cond (!(decide ((qb.Lit e1)=[]))) (
 .ret (.inr (.inl ()))) <|
 .cond (!(qb.zV e1)) (
 .cond (!(decide ((((qb.Lit e1).length:Nat):Int)≤((200:Int))))) (
 .ret (.inr (.inl ()))) <|
 .chk (qj (v.1 + (qb.Len e1))) <|
 .chk (qj ((v.1 + (qb.Len e1)) + (((qb.Lit e1).length:Nat):Int))) <|
 .chk (qj (v.2 + 1)) <|
 .ret (.inl ((v.1 + (qb.Len e1)) + (((qb.Lit e1).length:Nat):Int),v.2 + 1))) <|
 .chk (qj (v.1 + (qb.Len e1))) <|
 .chk (qj ((v.1 + (qb.Len e1)) + (((qb.Lit e1).length:Nat):Int))) <|
 .chk (qj (v.2 + 1)) <|
 .ret (.inl ((v.1 + (qb.Len e1)) + (((qb.Lit e1).length:Nat):Int),v.2 + 1))) <|
 .cond (!(qb.zV e1)) (
 .cond (!(decide ((((qb.Lit e1).length:Nat):Int)≤((200:Int))))) (
 .ret (.inr (.inl ()))) <|
 .chk (qj (v.1 + (qb.Len e1))) <|
 .chk (qj ((v.1 + (qb.Len e1)) + (((qb.Lit e1).length:Nat):Int))) <|
 .chk (qj (v.2 + 1)) <|
 .ret (.inl ((v.1 + (qb.Len e1)) + (((qb.Lit e1).length:Nat):Int),v.2 + 1))) <|
 .chk (qj (v.1 + (qb.Len e1))) <|
 .chk (qj ((v.1 + (qb.Len e1)) + (((qb.Lit e1).length:Nat):Int))) <|
 .chk (qj (v.2 + 1)) <|
 .ret (.inl ((v.1 + (qb.Len e1)) + (((qb.Lit e1).length:Nat):Int),v.2 + 1))) <|
 .cond (qb.zV e1) (
 .cond (!(decide ((qb.Lit e1)=[]))) (
 .ret (.inr (.inl ()))) <|
 .cond (!(qb.zV e1)) (
 .ret (.inr (.inl ()))) <|
 .chk (qj (v.1 + (qb.Len e1))) <|
 .chk (qj ((v.1 + (qb.Len e1)) + (((qb.Lit e1).length:Nat):Int))) <|
 .chk (qj (v.2 + 1)) <|
 .ret (.inl ((v.1 + (qb.Len e1)) + (((qb.Lit e1).length:Nat):Int),v.2 + 1))) <|
 .cond (!(qb.zV e1)) (
 .ret (.inr (.inl ()))) <|
 .chk (qj (v.1 + (qb.Len e1))) <|
 .chk (qj ((v.1 + (qb.Len e1)) + (((qb.Lit e1).length:Nat):Int))) <|
 .chk (qj (v.2 + 1)) <|
 .ret (.inl ((v.1 + (qb.Len e1)) + (((qb.Lit e1).length:Nat):Int),v.2 + 1))) <|
 .cond (qb.zV e1) (
 .cond (!(decide ((qb.Lit e1)=[]))) (
 .ret (.inr (.inl ()))) <|
 .cond (!(qb.zV e1)) (
 .ret (.inr (.inl ()))) <|
 .chk (qj (v.1 + (qb.Len e1))) <|
 .chk (qj ((v.1 + (qb.Len e1)) + (((qb.Lit e1).length:Nat):Int))) <|
 .chk (qj (v.2 + 1)) <|
 .ret (.inl ((v.1 + (qb.Len e1)) + (((qb.Lit e1).length:Nat):Int),v.2 + 1))) <|
 .cond (!(qb.zV e1)) (
 .ret (.inr (.inl ()))) <|
 .chk (qj (v.1 + (qb.Len e1))) <|
 .chk (qj ((v.1 + (qb.Len e1)) + (((qb.Lit e1).length:Nat):Int))) <|
 .chk (qj (v.2 + 1)) <|
 .ret (.inl ((v.1 + (qb.Len e1)) + (((qb.Lit e1).length:Nat):Int),v.2 + 1))) <|
 .cond (qb.zV e1) (
 .cond (!(decide ((qb.Lit e1)=[]))) (
 .ret (.inr (.inl ()))) <|
 .cond (!(qb.zV e1)) (
 .ret (.inr (.inl ()))) <|
 .chk (qj (v.1 + (qb.Len e1))) <|
 .chk (qj ((v.1 + (qb.Len e1)) + (((qb.Lit e1).length:Nat):Int))) <|
 .chk (qj (v.2 + 1)) <|
 .ret (.inl ((v.1 + (qb.Len e1)) + (((qb.Lit e1).length:Nat):Int),v.2 + 1))) <|
 .cond (!(qb.zV e1)) (
 .ret (.inr (.inl ()))) <|
 .chk (qj (v.1 + (qb.Len e1))) <|
 .chk (qj ((v.1 + (qb.Len e1)) + (((qb.Lit e1).length:Nat):Int))) <|
 .chk (qj (v.2 + 1)) <|
 .ret (.inl ((v.1 + (qb.Len e1)) + (((qb.Lit e1).length:Nat):Int),v.2 + 1))) <|
 .cond (decide ((qb.zm e1)=((0:Int)))) (
 .cond (decide ((qb.Len e1)=((0:Int)))) (
 .cond (decide (((1:Int))≤(((qb.Lit e1).length:Nat):Int))) (
 .cond (qb.zV e1) (
 .ret (.inr (.inl ()))) <|
 .cond (!(qb.zV e1)) (
 .cond (!(decide ((((qb.Lit e1).length:Nat):Int)≤((200:Int))))) (
 .ret (.inr (.inl ()))) <|
 .chk (qj (v.1 + (qb.Len e1))) <|
 .chk (qj ((v.1 + (qb.Len e1)) + (((qb.Lit e1).length:Nat):Int))) <|
 .chk (qj (v.2 + 1)) <|
 .ret (.inl ((v.1 + (qb.Len e1)) + (((qb.Lit e1).length:Nat):Int),v.2 + 1))) <|
 .chk (qj (v.1 + (qb.Len e1))) <|
 .chk (qj ((v.1 + (qb.Len e1)) + (((qb.Lit e1).length:Nat):Int))) <|
 .chk (qj (v.2 + 1)) <|
 .ret (.inl ((v.1 + (qb.Len e1)) + (((qb.Lit e1).length:Nat):Int),v.2 + 1))) <|
 .cond (qb.zV e1) (
 .ret (.inr (.inl ()))) <|
 .cond (!(qb.zV e1)) (
 .ret (.inr (.inl ()))) <|
 .chk (qj (v.1 + (qb.Len e1))) <|
 .chk (qj ((v.1 + (qb.Len e1)) + (((qb.Lit e1).length:Nat):Int))) <|
 .chk (qj (v.2 + 1)) <|
 .ret (.inl ((v.1 + (qb.Len e1)) + (((qb.Lit e1).length:Nat):Int),v.2 + 1))) <|
 .cond (qb.zV e1) (
 .ret (.inr (.inl ()))) <|
 .cond (!(qb.zV e1)) (
 .ret (.inr (.inl ()))) <|
 .chk (qj (v.1 + (qb.Len e1))) <|
 .chk (qj ((v.1 + (qb.Len e1)) + (((qb.Lit e1).length:Nat):Int))) <|
 .chk (qj (v.2 + 1)) <|
 .ret (.inl ((v.1 + (qb.Len e1)) + (((qb.Lit e1).length:Nat):Int),v.2 + 1))) <|
 .cond (qb.zV e1) (
 .ret (.inr (.inl ()))) <|
 .cond (!(qb.zV e1)) (
 .ret (.inr (.inl ()))) <|
 .chk (qj (v.1 + (qb.Len e1))) <|
 .chk (qj ((v.1 + (qb.Len e1)) + (((qb.Lit e1).length:Nat):Int))) <|
 .chk (qj (v.2 + 1)) <|
 .ret (.inl ((v.1 + (qb.Len e1)) + (((qb.Lit e1).length:Nat):Int),v.2 + 1))) <|
 .cond (decide ((qb.zm e1)=((0:Int)))) (
 .cond (decide ((qb.Len e1)=((0:Int)))) (
 .cond (decide (((1:Int))≤(((qb.Lit e1).length:Nat):Int))) (
 .cond (qb.zV e1) (
 .ret (.inr (.inl ()))) <|
 .cond (!(qb.zV e1)) (
 .cond (!(decide ((((qb.Lit e1).length:Nat):Int)≤((200:Int))))) (
 .ret (.inr (.inl ()))) <|
 .chk (qj (v.1 + (qb.Len e1))) <|
 .chk (qj ((v.1 + (qb.Len e1)) + (((qb.Lit e1).length:Nat):Int))) <|
 .chk (qj (v.2 + 1)) <|
 .ret (.inl ((v.1 + (qb.Len e1)) + (((qb.Lit e1).length:Nat):Int),v.2 + 1))) <|
 .chk (qj (v.1 + (qb.Len e1))) <|
 .chk (qj ((v.1 + (qb.Len e1)) + (((qb.Lit e1).length:Nat):Int))) <|
 .chk (qj (v.2 + 1)) <|
 .ret (.inl ((v.1 + (qb.Len e1)) + (((qb.Lit e1).length:Nat):Int),v.2 + 1))) <|
 .cond (qb.zV e1) (
 .ret (.inr (.inl ()))) <|
 .cond (!(qb.zV e1)) (
 .ret (.inr (.inl ()))) <|
 .chk (qj (v.1 + (qb.Len e1))) <|
 .chk (qj ((v.1 + (qb.Len e1)) + (((qb.Lit e1).length:Nat):Int))) <|
 .chk (qj (v.2 + 1)) <|
 .ret (.inl ((v.1 + (qb.Len e1)) + (((qb.Lit e1).length:Nat):Int),v.2 + 1))) <|
 .cond (qb.zV e1) (
 .ret (.inr (.inl ()))) <|
 .cond (!(qb.zV e1)) (
 .ret (.inr (.inl ()))) <|
 .chk (qj (v.1 + (qb.Len e1))) <|
 .chk (qj ((v.1 + (qb.Len e1)) + (((qb.Lit e1).length:Nat):Int))) <|
 .chk (qj (v.2 + 1)) <|
 .ret (.inl ((v.1 + (qb.Len e1)) + (((qb.Lit e1).length:Nat):Int),v.2 + 1))) <|
 .cond (qb.zV e1) (
 .ret (.inr (.inl ()))) <|
 .cond (!(qb.zV e1)) (
 .ret (.inr (.inl ()))) <|
 .chk (qj (v.1 + (qb.Len e1))) <|
 .chk (qj ((v.1 + (qb.Len e1)) + (((qb.Lit e1).length:Nat):Int))) <|
 .chk (qj (v.2 + 1)) <|
 .ret (.inl ((v.1 + (qb.Len e1)) + (((qb.Lit e1).length:Nat):Int),v.2 + 1))) <|
 .cond (decide ((qb.zm e1)=((0:Int)))) (
 .cond (decide ((qb.Len e1)=((0:Int)))) (
 .cond (decide (((1:Int))≤(((qb.Lit e1).length:Nat):Int))) (
 .cond (qb.zV e1) (
 .ret (.inr (.inl ()))) <|
 .cond (!(qb.zV e1)) (
 .cond (!(decide ((((qb.Lit e1).length:Nat):Int)≤((200:Int))))) (
 .ret (.inr (.inl ()))) <|
 .chk (qj (v.1 + (qb.Len e1))) <|
 .chk (qj ((v.1 + (qb.Len e1)) + (((qb.Lit e1).length:Nat):Int))) <|
 .chk (qj (v.2 + 1)) <|
 .ret (.inl ((v.1 + (qb.Len e1)) + (((qb.Lit e1).length:Nat):Int),v.2 + 1))) <|
 .chk (qj (v.1 + (qb.Len e1))) <|
 .chk (qj ((v.1 + (qb.Len e1)) + (((qb.Lit e1).length:Nat):Int))) <|
 .chk (qj (v.2 + 1)) <|
 .ret (.inl ((v.1 + (qb.Len e1)) + (((qb.Lit e1).length:Nat):Int),v.2 + 1))) <|
 .cond (qb.zV e1) (
 .ret (.inr (.inl ()))) <|
 .cond (!(qb.zV e1)) (
 .ret (.inr (.inl ()))) <|
 .chk (qj (v.1 + (qb.Len e1))) <|
 .chk (qj ((v.1 + (qb.Len e1)) + (((qb.Lit e1).length:Nat):Int))) <|
 .chk (qj (v.2 + 1)) <|
 .ret (.inl ((v.1 + (qb.Len e1)) + (((qb.Lit e1).length:Nat):Int),v.2 + 1))) <|
 .cond (qb.zV e1) (
 .ret (.inr (.inl ()))) <|
 .cond (!(qb.zV e1)) (
 .ret (.inr (.inl ()))) <|
 .chk (qj (v.1 + (qb.Len e1))) <|
 .chk (qj ((v.1 + (qb.Len e1)) + (((qb.Lit e1).length:Nat):Int))) <|
 .chk (qj (v.2 + 1)) <|
 .ret (.inl ((v.1 + (qb.Len e1)) + (((qb.Lit e1).length:Nat):Int),v.2 + 1))) <|
 .cond (qb.zV e1) (
 .ret (.inr (.inl ()))) <|
 .cond (!(qb.zV e1)) (
 .ret (.inr (.inl ()))) <|
 .chk (qj (v.1 + (qb.Len e1))) <|
 .chk (qj ((v.1 + (qb.Len e1)) + (((qb.Lit e1).length:Nat):Int))) <|
 .chk (qj (v.2 + 1)) <|
 .ret (.inl ((v.1 + (qb.Len e1)) + (((qb.Lit e1).length:Nat):Int),v.2 + 1))) <|
 .cond (decide ((qb.zm e1)=((0:Int)))) (
 .cond (decide ((qb.Len e1)=((0:Int)))) (
 .cond (decide (((1:Int))≤(((qb.Lit e1).length:Nat):Int))) (
 .cond (qb.zV e1) (
 .ret (.inr (.inl ()))) <|
 .cond (!(qb.zV e1)) (
 .cond (!(decide ((((qb.Lit e1).length:Nat):Int)≤((200:Int))))) (
 .ret (.inr (.inl ()))) <|
 .chk (qj (v.1 + (qb.Len e1))) <|
 .chk (qj ((v.1 + (qb.Len e1)) + (((qb.Lit e1).length:Nat):Int))) <|
 .chk (qj (v.2 + 1)) <|
 .ret (.inl ((v.1 + (qb.Len e1)) + (((qb.Lit e1).length:Nat):Int),v.2 + 1))) <|
 .chk (qj (v.1 + (qb.Len e1))) <|
 .chk (qj ((v.1 + (qb.Len e1)) + (((qb.Lit e1).length:Nat):Int))) <|
 .chk (qj (v.2 + 1)) <|
 .ret (.inl ((v.1 + (qb.Len e1)) + (((qb.Lit e1).length:Nat):Int),v.2 + 1))) <|
 .cond (qb.zV e1) (
 .ret (.inr (.inl ()))) <|
 .cond (!(qb.zV e1)) (
 .ret (.inr (.inl ()))) <|
 .chk (qj (v.1 + (qb.Len e1))) <|
 .chk (qj ((v.1 + (qb.Len e1)) + (((qb.Lit e1).length:Nat):Int))) <|
 .chk (qj (v.2 + 1)) <|
 .ret (.inl ((v.1 + (qb.Len e1)) + (((qb.Lit e1).length:Nat):Int),v.2 + 1))) <|
 .cond (qb.zV e1) (
 .ret (.inr (.inl ()))) <|
 .cond (!(qb.zV e1)) (
 .ret (.inr (.inl ()))) <|
 .chk (qj (v.1 + (qb.Len e1))) <|
 .chk (qj ((v.1 + (qb.Len e1)) + (((qb.Lit e1).length:Nat):Int))) <|
 .chk (qj (v.2 + 1)) <|
 .ret (.inl ((v.1 + (qb.Len e1)) + (((qb.Lit e1).length:Nat):Int),v.2 + 1))) <|
 .cond (qb.zV e1) (
 .ret (.inr (.inl ()))) <|
 .cond (!(qb.zV e1)) (
 .ret (.inr (.inl ()))) <|
 .chk (qj (v.1 + (qb.Len e1))) <|
 .chk (qj ((v.1 + (qb.Len e1)) + (((qb.Lit e1).length:Nat):Int))) <|
 .chk (qj (v.2 + 1)) <|
 .ret (.inl ((v.1 + (qb.Len e1)) + (((qb.Lit e1).length:Nat):Int),v.2 + 1))) <|
 .ret (.inr (.inr ((v.1,v.2,decide (v.2 < ((s0_3.length:Nat):Int))))))
def qgw (N n:Nat) (f:XK) (v:Jq):Option jE:=qQ (JD N f) some n v
theorem qp9 (N:Nat) (f:XK) (n:Nat) (v:Jq) (y:jE) (h:qgw N n f v=some y):LG Tryz.prog qcf 58 (qL qz8 3) (qqg f v) (JF f y):=
 zl qk (E:=qi9 N) (L:=qI (qp7 N)) (st:=JF f) (g:=some) (R:=JF f) (qgT N) (qq (by kernel_rfl) trivial) (rg0 (by kernel_rfl)) (fun v=>by kernel_rfl) (qU (st:=JF f) fun y=>by rcases y with _ | _<;>rfl) (js0 rfl) n v y h
def qbK (N:Nat) (s0_3:List qb) (s3_3:Int) (s4_3:Int):Option jE:=qgw N N s0_3 (s3_3,s4_3)
def qgj (N:Nat):qy:=smL qfT [(.sl 4 qw),(.i .i64),(.i .i64)] jE (fun x=>qbK N x.1 x.2.1 x.2.2.1) (csS cs1) fun x=>JF x.1
theorem qow (N:Nat):ji Tryz.prog qcf 58 (qL qz8 3) (qgj N):=zu fun x z h=>qp9 N x.1 N (x.2.1,x.2.2.1) z h
def qwv (z:Bool):TV×THp:=(xb z,[])
def qcr (N:Nat) (a0:List qb):Tree (Bool):=
 .bind (qbK N a0 0 0) fun z1=>
 .sum z1 (fun z2=>
 .ret false) fun z2=>
 .cond (decide (((a0.length:Nat):Int)≤((60:Int)))) (
 .ret (decide (z2.1≤200))) <|
 .ret false
def WH (N:Nat) (a0:List qb):Option (Bool):=(qcr N a0).run some
def qvo (N:Nat):List (Nat×qy):=[(3,qgj N)]
def qck (N:Nat):Ent:=smF ⟨58,[],[.x (.sl 4 qw)],[],[]⟩ [(.sl 4 qw)] (Bool) (fun x=>WH N x.1) cs1 fun _=>qwv
theorem qhR (N:Nat):q_ Tryz.prog (qck N):=
 q8 (H:=qcf) (L:=qI (qvo N)) (ts:=[(.sl 4 qw)]) (T:=fun x=>qcr N x.1) 0 qTu (qgT N) (qq (by kernel_rfl) ⟨qow N,trivial⟩) (rg0 (by kernel_rfl)) fun x=>by kernel_rfl
noncomputable def qRo:Code:=Tryz.f18.body.getD .skip
theorem qSi:FnF Tryz.prog 18 Tryz.f18 qRo:=⟨qk,by kernel_rfl,by kernel_rfl,by kernel_rfl⟩
def qvV:TH:={ live:=[(0,[1]),(1,[1,3]),(2,[1,3,4]),(3,[1,3,4,5]),(4,[2])],dec:=[17,20,23,29,34,39,44,49,54,59] }
def quX (N:Nat):List Ent:=[Xl,qh9,qh7 N,qck N]
theorem qsc (N:Nat):qO Tryz.prog (quX N):=⟨WW,qrZ,qsB N,qhR N,trivial⟩
def quu (z:Bool):TV×THp:=(xb z,[])
def qc5 (N:Nat) (a0:qd):Tree (Bool):=
 .bind (Jg (qd.S a0)) fun r1=>
 .bind (Y0 a0) fun r2=>
 .bind (Y8 N a0 r2) fun r3=>
 .bind (WH N (qd.P a0)) fun r4=>
 .cond r1 (
 .cond r3 (
 .cond r4 (
 .cond (decide (((0:Int)) < (qe.N (qd.S a0)))) (
 .cond (decide (((0:Int))≤(qd.Kind a0))) (
 .cond (decide ((qd.Kind a0) < ((4:Int)))) (
 .cond (decide (((0:Int))≤(qd.No a0))) (
 .cond (decide ((qd.No a0) < ((8:Int)))) (
 .cond (decide (((0:Int))≤(qd.jV a0))) (
 .cond (decide ((qd.jV a0) < ((8:Int)))) (
 .ret (decide ((((qd.V a0).length:Nat):Int)≤((200:Int))))) <|
 .ret false) <|
 .ret false) <|
 .ret false) <|
 .ret false) <|
 .ret false) <|
 .ret false) <|
 .ret false) <|
 .ret false) <|
 .ret false) <|
 .ret false
def qaf (N:Nat) (a0:qd):Option (Bool):=(qc5 N a0).run some
def quG (N:Nat):List (Nat×qy):=[]
def qjf (N:Nat):Ent:=smF ⟨18,[],[.x zk],[],[]⟩ [zk] (Bool) (fun x=>qaf N x.1) cs1 fun _=>quu
theorem qtO (N:Nat):q_ Tryz.prog (qjf N):=
 q8 (H:=qvV) (L:=qI (quG N)) (ts:=[zk]) (T:=fun x=>qc5 N x.1) 0 qSi (qsc N) (qq (by kernel_rfl) trivial) (rg0 (by kernel_rfl)) fun x=>by kernel_rfl
noncomputable def qNL:Code:=Tryz.f136.body.getD .skip
theorem qNs:FnF Tryz.prog 136 Tryz.f136 qNL:=⟨qk,by kernel_rfl,by kernel_rfl,by kernel_rfl⟩
def qvC:TH:={ live:=[(0,[1,2]),(1,[1,2]),(2,[2])],nil:=[(0,[⟨.ob 20 [2],25,(.sl 4 qA)⟩])] }
def qvs (N:Nat):List Ent:=[]
theorem qqN (N:Nat):qO Tryz.prog (qvs N):=trivial
def qwH (a0:qa) (z:Unit):TV×THp:=(.tv qh a0,[])
def qco (a0:qa):Tree (Unit):=
 .chk (qj9 ((qa.F a0).length) 40) <|
 .chk ((qa.F a0).length=(qa.F a0).length) <|
 .ret ()
def Q0 (a0:qa):Option (Unit):=(qco a0).run some
def qvw:List (Nat×qy):=[]
def qi4:Ent:=smF ⟨136,[],[.x qh],[],[]⟩ [qh] (Unit) (fun x=>Q0 x.1) cs1 fun x=>qwH x.1
theorem qtX:q_ Tryz.prog (qi4):=
 q8 (H:=qvC) (L:=qI (qvw)) (ts:=[qh]) (T:=fun x=>qco x.1) 0 qNs (qqN 0) (qq (by kernel_rfl) trivial) (rg0 (by kernel_rfl)) fun x=>by kernel_rfl
noncomputable def qQo:Code:=Tryz.f157.body.getD .skip
theorem qPI:FnF Tryz.prog 157 Tryz.f157 qQo:=⟨qk,by kernel_rfl,by kernel_rfl,by kernel_rfl⟩
def qvn:TH:={ live:=[(0,[2,3,4]),(1,[2,3,4,5]),(2,[2,3,4,9]),(3,[4]),(4,[4])] }
def qwt (N:Nat):List Ent:=[Vx]
theorem qrU (N:Nat):qO Tryz.prog (qwt N):=⟨We,trivial⟩
def quZ (z:qe):TV×THp:=(.tv qm z,[])
def qdh (a0:qe) (a1:qe):Tree (qe):=
 .bind (jt a0 a1) fun r1=>
 .cond r1 (
 .ret a1) <|
 .ret a0
def qaq (a0:qe) (a1:qe):Option (qe):=(qdh a0 a1).run some
def qvk:List (Nat×qy):=[]
def qjr:Ent:=smF ⟨157,[],[.x qm,.x qm],[],[]⟩ [qm,qm] (qe) (fun x=>qaq x.1 x.2.1) cs1 fun _=>quZ
theorem qtd:q_ Tryz.prog (qjr):=
 q8 (H:=qvn) (L:=qI (qvk)) (ts:=[qm,qm]) (T:=fun x=>qdh x.1 x.2.1) 0 qPI (qrU 0) (qq (by kernel_rfl) trivial) (rg0 (by kernel_rfl)) fun x=>by kernel_rfl
noncomputable def qvb:Code:=Tryz.f100.body.getD .skip
theorem qPJ:FnF Tryz.prog 100 Tryz.f100 qvb:=⟨qk,by kernel_rfl,by kernel_rfl,by kernel_rfl⟩
def qbO:TH:={ live:=[(0,[1,2,4]),(1,[1,2,4,6]),(2,[1,2,4,6,11]),(3,[1,2,4,6]),(4,[1,2,4,6,21]),(5,[4,5]),(6,[4,5])] }
def qhY (N:Nat):List Ent:=[]
theorem qgz (N:Nat):qO Tryz.prog (qhY N):=trivial
abbrev Xc:=qa×qf×Int
abbrev Qp:=qf⊕(Int×Bool)
def ZJ (f:Xc):Qp→Ex×TSt
 | .inl y=>(.ret,⟨0,29,[],[(4,.p 40 [] 0),(5,.bc true)],[(40,.cell false (.tv qt y))],false,[]⟩)
 | .inr y=>(.exit 0,⟨0,29,[],[(1,xi f.2.2),(2,.p 20 [] 0),(4,.p 40 [] 0),(6,xi y.1),(11,xb y.2)],[(20,.cell false (.tv qh f.1)),(40,.cell false (.tv qt f.2.1))],false,[]⟩)
def qoV (N:Nat):List (Nat×qy):=[]
abbrev ZV:=Int
def qeI:SP:=⟨0,29,[],[(1,.x (.i .i64)),(2,.k (.p 20 [] 0)),(4,.k (.p 40 [] 0)),(6,.x (.i .i64))],[(20,.cell false (.x qh)),(40,.cell false (.x qt))],false,[]⟩
def qnW (f:Xc) (v:ZV):TSt:=zw qeI [dv qh f.1,dv qt f.2.1,dv (.i .i64) f.2.2,dv (.i .i64) v]
def Z3 (N:Nat) (o_2:qa) (o_2_2:qf) (s1_2:Int) (v:ZV):Tree (ZV⊕Qp):=
 .cond (decide (v < (((qa.F o_2).length:Nat):Int))) (
 .bind (qP (qa.F o_2) v) fun e1=>
 .cond (decide ((qg.No e1)=s1_2)) (
 .bind (qP (qa.F o_2) v) fun e2=>
 .ret (.inr (.inl (qg.C e2)))) <|
 .chk (qj (v + 1)) <|
 .ret (.inl (v + 1))) <|
 .ret (.inr (.inr ((v,decide (v < (((qa.F o_2).length:Nat):Int))))))
def qeH (N n:Nat) (f:Xc) (v:ZV):Option Qp:=qQ (Z3 N f.1 f.2.1 f.2.2) some n v
theorem qo1 (N:Nat) (f:Xc) (n:Nat) (v:ZV) (y:Qp) (h:qeH N n f v=some y):LG Tryz.prog qbO 100 (qL qvb 2) (qnW f v) (ZJ f y):=
 zl qk (E:=qhY N) (L:=qI (qoV N)) (st:=ZJ f) (g:=some) (R:=ZJ f) (qgz N) (qq (by kernel_rfl) trivial) (rg0 (by kernel_rfl)) (fun v=>by kernel_rfl) (qU (st:=ZJ f) fun y=>by rcases y with _ | _<;>rfl) (js0 rfl) n v y h
def K5 (N:Nat) (o_2:qa) (o_2_2:qf) (s1_2:Int) (s6_2:Int):Option Qp:=qeH N N (o_2,o_2_2,s1_2) s6_2
def qfd (N:Nat):qy:=smL qeI [qh,qt,(.i .i64),(.i .i64)] Qp (fun x=>K5 N x.1 x.2.1 x.2.2.1 x.2.2.2.1) (csS cs1) fun x=>ZJ (x.1,x.2.1,x.2.2.1)
theorem qmx (N:Nat):ji Tryz.prog qbO 100 (qL qvb 2) (qfd N):=zu fun x z h=>qo1 N (x.1,x.2.1,x.2.2.1) N x.2.2.2.1 z h
def qtC (z:qf×Bool):TV×THp:=(.tup [.tv qt (z.1:qf),xb z.2],[])
def qbt (N:Nat) (a0:qa) (a1:Int):Tree (qf×Bool):=
 .bind (K5 N a0 (qf.mk (qe.mk 0 0) []) a1 0) fun z1=>
 .sum z1 (fun z2=>
 .ret (z2,true)) fun z2=>
 .ret (qf.mk (qe.mk 0 0) [],false)
def Qq (N:Nat) (a0:qa) (a1:Int):Option (qf×Bool):=(qbt N a0 a1).run some
def qtl (N:Nat):List (Nat×qy):=[(2,qfd N)]
def qbg (N:Nat):Ent:=smF ⟨100,[],[.x qh,.x (.i .i64)],[],[]⟩ [qh,(.i .i64)] (qf×Bool) (fun x=>Qq N x.1 x.2.1) cs1 fun _=>qtC
theorem qgY (N:Nat):q_ Tryz.prog (qbg N):=
 q8 (H:=qbO) (L:=qI (qtl N)) (ts:=[qh,(.i .i64)]) (T:=fun x=>qbt N x.1 x.2.1) 0 qPJ (qgz N) (qq (by kernel_rfl) ⟨qmx N,trivial⟩) (rg0 (by kernel_rfl)) fun x=>by kernel_rfl
noncomputable def qjd:Code:=Tryz.f138.body.getD .skip
theorem qNR:FnF Tryz.prog 138 Tryz.f138 qjd:=⟨qk,by kernel_rfl,by kernel_rfl,by kernel_rfl⟩
def ZM:TH:={ live:=[(0,[0]),(1,[0,3]),(2,[0,3]),(3,[0,3,15]),(4,[0,3]),(5,[3,4]),(6,[3,4,5]),(7,[3,4,5,6]),(8,[3,4,5,6,24]),(9,[3,4,5,6]),(10,[3,4,5,6]),(11,[3,4,5,6]),(12,[2])] }
def YE (N:Nat):List Ent:=[]
theorem WB (N:Nat):qO Tryz.prog (YE N):=trivial
abbrev JM:=List UInt8
abbrev vv:=List UInt8×Bool
def QB (f:JM) (y:vv):Ex×TSt:=(.exit 0,⟨0,38,[],[(0,.tv .bl f),(3,.v 80 y.1.length),(15,xb y.2)],[(80,.vec false 1 .bl (y.1:List UInt8))],false,[]⟩)
def qkJ (N:Nat):List (Nat×qy):=[]
abbrev QA:=List UInt8
def qcb:SP:=⟨0,38,[],[(0,.x .bl),(3,.vs 80)],[(80,.vec false 1)],false,[]⟩
def qk1 (f:JM) (v:QA):TSt:=zw qcb [dv .bl v,dv .bl f]
def Qy (N:Nat) (s0_3:List UInt8) (v:QA):Tree (QA⊕vv):=
 .chk ((64:Int)≠0) <|
 .cond (!decide ((((v.length:Nat):Int).tmod 64)=56)) (
 .chk (jx v.length v.length ((v++[(UInt8.ofNat 0)]).length) 1) <|
 .ret (.inl (v++[(UInt8.ofNat 0)]))) <|
 .ret (.inr (v,!decide ((((v.length:Nat):Int).tmod 64)=56)))
def qbU (N n:Nat) (f:JM) (v:QA):Option vv:=qQ (Qy N f) some n v
theorem qkx (N:Nat) (f:JM) (n:Nat) (v:QA) (y:vv) (h:qbU N n f v=some y):LG Tryz.prog ZM 138 (qL qjd 3) (qk1 f v) (QB f y):=
 zl qk (E:=YE N) (L:=qI (qkJ N)) (st:=QB f) (g:=some) (R:=QB f) (WB N) (qq (by kernel_rfl) trivial) (rg0 (by kernel_rfl)) (fun v=>by kernel_rfl) (qU (st:=QB f) fun y=>by rfl) (js0 rfl) n v y h
def Vo (N:Nat) (s0_3:List UInt8) (o_3:List UInt8):Option vv:=qbU N N s0_3 o_3
def qbS (N:Nat):qy:=smL qcb [.bl,.bl] vv (fun x=>Vo N x.2.1 x.1) cs1 fun x=>QB x.2.1
theorem qj7 (N:Nat):ji Tryz.prog ZM 138 (qL qjd 3) (qbS N):=zu fun x z h=>qkx N x.2.1 N x.1 z h
abbrev JP:=Int
abbrev vz:=List UInt8×Int×Int×Bool
def Qx (f:JP) (y:vz):Ex×TSt:=(.exit 2,⟨0,38,[],[(3,.v 80 y.1.length),(4,.tv (.i .u64) f),(5,.tv (.i .u64) (y.2.1:Int)),(6,xi y.2.2.1),(24,xb y.2.2.2)],[(80,.vec false 1 .bl (y.1:List UInt8))],false,[]⟩)
def qkE (N:Nat):List (Nat×qy):=[]
abbrev QE:=List UInt8×Int×Int
def qca:SP:=⟨0,38,[],[(3,.vs 80),(4,.x (.i .u64)),(5,.x (.i .u64)),(6,.x (.i .i64))],[(80,.vec false 1)],false,[]⟩
def qkX (f:JP) (v:QE):TSt:=zw qca [dv .bl v.1,dv (.i .u64) f,dv (.i .u64) v.2.1,dv (.i .i64) v.2.2]
def JT (N:Nat) (s4_8:Int) (v:QE):Tree (QE⊕vz):=
 .cond (decide (v.2.2 < ((8:Int)))) (
 .chk (v.2.1≠0) <|
 .chk ((256:Int)≠0) <|
 let w1:Int:=IntKind.u8.wrap ((IntKind.u64.wrap (s4_8.tdiv v.2.1)).tmod 256)
 .chk (inB w1) <|
 .chk (jx v.1.length v.1.length ((v.1++[UInt8.ofNat w1.toNat]).length) 1) <|
 .chk ((256:Int)≠0) <|
 .chk (qj (v.2.2 + 1)) <|
 .ret (.inl (v.1++[UInt8.ofNat w1.toNat],IntKind.u64.wrap (v.2.1.tdiv 256),v.2.2 + 1))) <|
 .ret (.inr (v.1,v.2.1,v.2.2,decide (v.2.2 < ((8:Int)))))
def qcc (N n:Nat) (f:JP) (v:QE):Option vz:=qQ (JT N f) some n v
theorem qkz (N:Nat) (f:JP) (n:Nat) (v:QE) (y:vz) (h:qcc N n f v=some y):LG Tryz.prog ZM 138 (qL qjd 8) (qkX f v) (Qx f y):=
 zl qk (E:=YE N) (L:=qI (qkE N)) (st:=Qx f) (g:=some) (R:=Qx f) (WB N) (qq (by kernel_rfl) trivial) (rg0 (by kernel_rfl)) (fun v=>by kernel_rfl) (qU (st:=Qx f) fun y=>by rfl) (js0 rfl) n v y h
def W4 (N:Nat) (s4_8:Int) (o_8:List UInt8) (s5_8:Int) (s6_8:Int):Option vz:=qcc N N s4_8 (o_8,s5_8,s6_8)
def qb2 (N:Nat):qy:=smL qca [.bl,(.i .u64),(.i .u64),(.i .i64)] vz (fun x=>W4 N x.2.1 x.1 x.2.2.1 x.2.2.2.1) cs1 fun x=>Qx x.2.1
theorem qjX (N:Nat):ji Tryz.prog ZM 138 (qL qjd 8) (qb2 N):=zu fun x z h=>qkz N x.2.1 N (x.1,x.2.2.1,x.2.2.2.1) z h
def qol (z:List UInt8):TV×THp:=(.tv .bl z,[])
def YN (N:Nat) (a0:List UInt8):Tree (List UInt8):=
 .chk (qj9 a0.length 1) <|
 .chk (jx a0.length a0.length ((a0++[(UInt8.ofNat 128)]).length) 1) <|
 .bind (ju [((a0++[(UInt8.ofNat 128)]).length,(a0++[(UInt8.ofNat 128)]).length)] (Vo N a0 (a0++[(UInt8.ofNat 128)]))) fun z1=>
 .chk (qj (((8:Int)) * ((a0.length:Nat):Int))) <|
 let w2:Int:=IntKind.u64.wrap (((8:Int)) * ((a0.length:Nat):Int))
 .bind (ju [(z1.1.length,z1.1.length)] (W4 N w2 z1.1 72057594037927936 0)) fun z3=>
 .chk (z3.1.length=z3.1.length) <|
 .ret z3.1
def Wd (N:Nat) (a0:List UInt8):Option (List UInt8):=(YN N a0).run some
def qoj (N:Nat):List (Nat×qy):=[(3,qbS N),(8,qb2 N)]
def qfh (N:Nat):Ent:=smF ⟨138,[],[.x .bl],[],[]⟩ [.bl] (List UInt8) (fun x=>Wd N x.1) cs1 fun _=>qol
theorem qmh (N:Nat):q_ Tryz.prog (qfh N):=
 q8 (H:=ZM) (L:=qI (qoj N)) (ts:=[.bl]) (T:=fun x=>YN N x.1) 0 qNR (WB N) (qq (by kernel_rfl) ⟨qj7 N,qjX N,trivial⟩) (rg0 (by kernel_rfl)) fun x=>by kernel_rfl
noncomputable def qNq:Code:=Tryz.f140.body.getD .skip
theorem qOh:FnF Tryz.prog 140 Tryz.f140 qNq:=⟨qk,by kernel_rfl,by kernel_rfl,by kernel_rfl⟩
def qp3:TH:={ live:=[(0,[0,1]),(1,[4])] }
def qqC (N:Nat):List Ent:=[]
theorem qmO (N:Nat):qO Tryz.prog (qqC N):=trivial
def qqv (z:Int):TV×THp:=(.tv (.i .u32) z,[])
def Kd (a0:Int) (a1:Int):Tree (Int):=
 .chk (0≤a1) <|
 .chk (0≤(qo0 .u32 ((32:Int)) a1)) <|
 let w1:Int:=qzC .u32 a0 (min (qo0 .u32 ((32:Int)) a1).toNat 32)
 .ret (uOr .u32 (Ji a0 (min a1.toNat 32)) w1)
def zc (a0:Int) (a1:Int):Option (Int):=(Kd a0 a1).run some
def qpp:List (Nat×qy):=[]
def KA:Ent:=smF ⟨140,[],[.x (.i .u32),.x (.i .u32)],[],[]⟩ [(.i .u32),(.i .u32)] (Int) (fun x=>zc x.1 x.2.1) cs1 fun _=>qqv
theorem qez:q_ Tryz.prog (KA):=
 q8 (H:=qp3) (L:=qI (qpp)) (ts:=[(.i .u32),(.i .u32)]) (T:=fun x=>Kd x.1 x.2.1) 0 qOh (qmO 0) (qq (by kernel_rfl) trivial) (rg0 (by kernel_rfl)) fun x=>by kernel_rfl
noncomputable def qja:Code:=Tryz.f139.body.getD .skip
theorem qPe:FnF Tryz.prog 139 Tryz.f139 qja:=⟨qk,by kernel_rfl,by kernel_rfl,by kernel_rfl⟩
def J4:TH:={ live:=[(0,[0]),(1,[0,3]),(2,[0,3,4]),(3,[0,3,4,11]),(4,[0,3,4]),(5,[0,3,4]),(6,[3,5]),(7,[3,5,51]),(8,[3,5]),(9,[3,5,6]),(10,[3,5,6,7]),(11,[3,5,7,8]),(12,[3,5,8,9]),(13,[3,5]),(14,[2])],nil:=[(1,[⟨.sl 3,35,(.sl 1 (.i .u32))⟩])] }
def qak (N:Nat):List Ent:=[KA]
theorem YM (N:Nat):qO Tryz.prog (qak N):=⟨qez,trivial⟩
abbrev Vs:=List UInt8
abbrev vV:=List Int×Int×Bool
def Zg (f:Vs) (y:vV):Ex×TSt:=(.exit 0,⟨0,99,[],[(0,.tv .bl f),(3,.v 35 y.1.length),(4,xi y.2.1),(11,xb y.2.2)],[(35,.vec false 1 (.sl 1 (.i .u32)) (y.1:List Int))],false,[]⟩)
def qmz (N:Nat):List (Nat×qy):=[]
abbrev Zd:=List Int×Int
def qdY:SP:=⟨0,99,[],[(0,.x .bl),(3,.vs 35),(4,.x (.i .i64))],[(35,.vec false 1)],false,[]⟩
def qmF (f:Vs) (v:Zd):TSt:=zw qdY [dv (.sl 1 (.i .u32)) v.1,dv .bl f,dv (.i .i64) v.2]
def Zk (N:Nat) (s0_3:List UInt8) (v:Zd):Tree (Zd⊕vV):=
 .cond (decide (v.2 < ((16:Int)))) (
 .chk (qj (((4:Int)) * v.2)) <|
 .bind (qP s0_3 (((4:Int)) * v.2)) fun e1=>
 let w2:Int:=IntKind.u32.wrap ((e1.toNat:Nat):Int)
 .chk (qj (((4:Int)) * v.2)) <|
 .chk (qj ((((4:Int)) * v.2) + 1)) <|
 .bind (qP s0_3 ((((4:Int)) * v.2) + 1)) fun e3=>
 let w4:Int:=IntKind.u32.wrap ((e3.toNat:Nat):Int)
 let w5:Int:=vn .u32 (ql9 .u32 ((16777216:Int)) w2) (ql9 .u32 ((65536:Int)) w4)
 .chk (qj (((4:Int)) * v.2)) <|
 .chk (qj ((((4:Int)) * v.2) + 2)) <|
 .bind (qP s0_3 ((((4:Int)) * v.2) + 2)) fun e6=>
 let w7:Int:=IntKind.u32.wrap ((e6.toNat:Nat):Int)
 let w8:Int:=vn .u32 w5 (ql9 .u32 ((256:Int)) w7)
 .chk (qj (((4:Int)) * v.2)) <|
 .chk (qj ((((4:Int)) * v.2) + 3)) <|
 .bind (qP s0_3 ((((4:Int)) * v.2) + 3)) fun e9=>
 let w10:Int:=IntKind.u32.wrap ((e9.toNat:Nat):Int)
 .chk (jx v.1.length v.1.length ((v.1++[vn .u32 w8 w10]).length) 4) <|
 .chk (qj (v.2 + 1)) <|
 .ret (.inl (v.1++[vn .u32 w8 w10],v.2 + 1))) <|
 .ret (.inr (v.1,v.2,decide (v.2 < ((16:Int)))))
def qdW (N n:Nat) (f:Vs) (v:Zd):Option vV:=qQ (Zk N f) some n v
theorem qme (N:Nat) (f:Vs) (n:Nat) (v:Zd) (y:vV) (h:qdW N n f v=some y):LG Tryz.prog J4 139 (qL qja 3) (qmF f v) (Zg f y):=
 zl qk (E:=qak N) (L:=qI (qmz N)) (st:=Zg f) (g:=some) (R:=Zg f) (YM N) (qq (by kernel_rfl) trivial) (rg0 (by kernel_rfl)) (fun v=>by kernel_rfl) (qU (st:=Zg f) fun y=>by rfl) (js0 rfl) n v y h
def Jp (N:Nat) (s0_3:List UInt8) (o_3:List Int) (s4_3:Int):Option vV:=qdW N N s0_3 (o_3,s4_3)
def qdU (N:Nat):qy:=smL qdY [(.sl 1 (.i .u32)),.bl,(.i .i64)] vV (fun x=>Jp N x.2.1 x.1 x.2.2.1) cs1 fun x=>Zg x.2.1
theorem qlv (N:Nat):ji Tryz.prog J4 139 (qL qja 3) (qdU N):=zu fun x z h=>qme N x.2.1 N (x.1,x.2.2.1) z h
abbrev Vt:=Unit
abbrev vT:=List Int×Int×Bool
def Q8 (f:Vt) (y:vT):Ex×TSt:=(.exit 2,⟨0,99,[],[(3,.v 35 y.1.length),(5,xi y.2.1),(51,xb y.2.2)],[(35,.vec false 1 (.sl 1 (.i .u32)) (y.1:List Int))],false,[]⟩)
def qms (N:Nat):List (Nat×qy):=[]
abbrev Zm:=List Int×Int
def qd0:SP:=⟨0,99,[],[(3,.vs 35),(5,.x (.i .i64))],[(35,.vec false 1)],false,[]⟩
def qmn (f:Vt) (v:Zm):TSt:=zw qd0 [dv (.sl 1 (.i .u32)) v.1,dv (.i .i64) v.2]
def Zj (N:Nat) (v:Zm):Tree (Zm⊕vT):=
 .cond (decide (v.2 < ((64:Int)))) (
 .chk (qj (v.2 - 15)) <|
 .chk (0≤(v.2 - 15)∧(v.2 - 15) < ((v.1.length:Nat):Int)) <|
 .bind (jM v.1 v.1.length ((v.2 - 15).toNat)) fun e1=>
 .chk (qj (v.2 - 2)) <|
 .chk (0≤(v.2 - 2)∧(v.2 - 2) < ((v.1.length:Nat):Int)) <|
 .bind (jM v.1 v.1.length ((v.2 - 2).toNat)) fun e2=>
 .bind (zc e1 7) fun r3=>
 .bind (zc e1 18) fun r4=>
 .chk (0≤(3:Int)) <|
 .bind (zc e2 17) fun r5=>
 .bind (zc e2 19) fun r6=>
 .chk (0≤(10:Int)) <|
 let w7:Int:=VF .u32 (VF .u32 r5 r6) (Ji e2 10)
 .chk (qj (v.2 - 16)) <|
 .chk (0≤(v.2 - 16)∧(v.2 - 16) < ((v.1.length:Nat):Int)) <|
 .bind (jM v.1 v.1.length ((v.2 - 16).toNat)) fun e8=>
 let w9:Int:=vn .u32 e8 (VF .u32 (VF .u32 r3 r4) (Ji e1 3))
 .chk (qj (v.2 - 7)) <|
 .chk (0≤(v.2 - 7)∧(v.2 - 7) < ((v.1.length:Nat):Int)) <|
 .bind (jM v.1 v.1.length ((v.2 - 7).toNat)) fun e10=>
 .chk (jx v.1.length v.1.length ((v.1++[vn .u32 (vn .u32 w9 e10) w7]).length) 4) <|
 .chk (qj (v.2 + 1)) <|
 .ret (.inl (v.1++[vn .u32 (vn .u32 w9 e10) w7],v.2 + 1))) <|
 .ret (.inr (v.1,v.2,decide (v.2 < ((64:Int)))))
def qd3 (N n:Nat) (f:Vt) (v:Zm):Option vT:=qQ (Zj N) some n v
theorem qmq (N:Nat) (f:Vt) (n:Nat) (v:Zm) (y:vT) (h:qd3 N n f v=some y):LG Tryz.prog J4 139 (qL qja 7) (qmn f v) (Q8 f y):=
 zl qk (E:=qak N) (L:=qI (qms N)) (st:=Q8 f) (g:=some) (R:=Q8 f) (YM N) (qq (by kernel_rfl) trivial) (rg0 (by kernel_rfl)) (fun v=>by kernel_rfl) (qU (st:=Q8 f) fun y=>by rfl) (js0 rfl) n v y h
def KG (N:Nat) (o_7:List Int) (s5_7:Int):Option vT:=qd3 N N () (o_7,s5_7)
def qd1 (N:Nat):qy:=smL qd0 [(.sl 1 (.i .u32)),(.i .i64)] vT (fun x=>KG N x.1 x.2.1) cs1 fun x=>Q8 ()
theorem qlM (N:Nat):ji Tryz.prog J4 139 (qL qja 7) (qd1 N):=zu fun x z h=>qmq N () N (x.1,x.2.1) z h
def qrh (z:List Int):TV×THp:=(.tv (.sl 1 (.i .u32)) z,[])
def K3 (N:Nat) (a0:List UInt8):Tree (List Int):=
 .bind (ju [(([]:List Int).length,0)] (Jp N a0 [] 0)) fun z1=>
 .bind (ju [(z1.1.length,z1.1.length)] (KG N z1.1 16)) fun z2=>
 .chk (z2.1.length=z2.1.length) <|
 .ret z2.1
def Yu (N:Nat) (a0:List UInt8):Option (List Int):=(K3 N a0).run some
def qrv (N:Nat):List (Nat×qy):=[(3,qdU N),(7,qd1 N)]
def qhh (N:Nat):Ent:=smF ⟨139,[],[.x .bl],[],[]⟩ [.bl] (List Int) (fun x=>Yu N x.1) cs1 fun _=>qrh
theorem qqo (N:Nat):q_ Tryz.prog (qhh N):=
 q8 (H:=J4) (L:=qI (qrv N)) (ts:=[.bl]) (T:=fun x=>K3 N x.1) 0 qPe (YM N) (qq (by kernel_rfl) ⟨qlv N,qlM N,trivial⟩) (rg0 (by kernel_rfl)) fun x=>by kernel_rfl
noncomputable def qNm:Code:=Tryz.f141.body.getD .skip
theorem qOm:FnF Tryz.prog 141 Tryz.f141 qNm:=⟨qk,by kernel_rfl,by kernel_rfl,by kernel_rfl⟩
def qy_:TH:={ live:=[(1,[0])] }
def qzH (N:Nat):List Ent:=[]
theorem qwr (N:Nat):qO Tryz.prog (qzH N):=trivial
def qzS (z:Unit):TV×THp:=(.tv (.sl 1 (.i .u32)) ([1116352408,1899447441,3049323471,3921009573,961987163,1508970993,2453635748,2870763221,3624381080,310598401,607225278,1426881987,1925078388,2162078206,2614888103,3248222580,3835390401,4022224774,264347078,604807628,770255983,1249150122,1555081692,1996064986,2554220882,2821834349,2952996808,3210313671,3336571891,3584528711,113926993,338241895,666307205,773529912,1294757372,1396182291,1695183700,1986661051,2177026350,2456956037,2730485921,2820302411,3259730800,3345764771,3516065817,3600352804,4094571909,275423344,430227734,506948616,659060556,883997877,958139571,1322822218,1537002063,1747873779,1955562222,2024104815,2227730452,2361852424,2428436474,2756734187,3204031479,3329325298]:List Int),[])
def qlm:Tree (Unit):=
 .ret ()
def qdo:Option (Unit):=(qlm).run some
def qzD:List (Nat×qy):=[]
def ql1:Ent:=smF ⟨141,[],[],[],[]⟩ [] (Unit) (fun x=>qdo) cs1 fun _=>qzS
theorem qxA:q_ Tryz.prog (ql1):=
 q8 (H:=qy_) (L:=qI (qzD)) (ts:=[]) (T:=fun x=>qlm) 0 qOm (qwr 0) (qq (by kernel_rfl) trivial) (rg0 (by kernel_rfl)) fun x=>by kernel_rfl
noncomputable def Vj:Code:=Tryz.f123.body.getD .skip
theorem qPT:FnF Tryz.prog 123 Tryz.f123 Vj:=⟨qk,by kernel_rfl,by kernel_rfl,by kernel_rfl⟩
def jg:TH:={ live:=[(0,[0,2]),(1,[0,2,3]),(2,[2,3,4]),(3,[2,3,4,5]),(4,[2,3,4,5,24]),(5,[2,3,4,5]),(6,[2,3,4,5,6]),(7,[2,3,4,5,6,7]),(8,[2,3,4,5,6,7,8]),(9,[2,3,4,5,6,7,8,36]),(10,[2,3,4,5,6,7,8]),(11,[2,3,4,5,6,7,8,9]),(12,[2,3,4,5,6,7,8,9,10]),(13,[2,3,4,5,6,7,8,9,10,11]),(14,[2,3,4,5,6,7,8,9,10,11,12]),(15,[2,3,4,5,6,7,8]),(16,[2,3,4,5,7,13]),(17,[2,3,4,5,7,13,132]),(18,[2,3,4,5,7,13]),(19,[2,3,4,5,7,13]),(20,[2,3,14]),(21,[2,3,14,15]),(22,[2,3,14,15,149]),(23,[2,3,14,15]),(24,[2,3,14,15,16]),(25,[2,3,14,15,16,17]),(26,[2,3,14,15,16,17,160]),(27,[2,3,14,15,16,17]),(28,[2,3,14,15,16,17]),(29,[2,3,14,15]),(30,[2])],vecs:=[18] }
def QY (N:Nat):List Ent:=[qfh N,qhh N,KA,ql1]
theorem vW (N:Nat):qO Tryz.prog (QY N):=⟨qmh N,qqo N,qez,qxA,trivial⟩
abbrev jF:=List Int×List Int×Vector UInt8 32×Nat×List UInt8×Int×List Int
abbrev jj:=List Int×Int×Bool
def jJ (f:jF) (y:jj):Ex×TSt:=(.exit 2,⟨0,171,[],[(2,.p 20 [] 0),(3,.v 180 f.2.2.2.1),(4,.tv .bl f.2.2.2.2.1),(5,xi f.2.2.2.2.2.1),(6,.tv (.sl 1 (.i .u32)) f.2.2.2.2.2.2),(7,.tv (.sl 1 (.i .u32)) (y.1:List Int)),(8,xi y.2.1),(36,xb y.2.2)],[(20,.cell false (.tv (.ba 32) f.2.2.1)),(180,.vec false 1 (.sl 1 (.i .u32)) f.1)],false,[]⟩)
def qf_ (N:Nat):List (Nat×qy):=[]
abbrev vE:=List Int×Int
def qlp:SP:=⟨0,171,[],[(2,.k (.p 20 [] 0)),(3,.v 180),(4,.x .bl),(5,.x (.i .i64)),(6,.x (.sl 1 (.i .u32))),(7,.x (.sl 1 (.i .u32))),(8,.x (.i .i64))],[(20,.cell false (.x (.ba 32))),(180,.vec false 1)],false,[]⟩
def qce (f:jF) (v:vE):TSt:=zw qlp [dv (.sl 1 (.i .u32)) f.1,dv (.ba 32) f.2.2.1,dv .nat f.2.2.2.1,dv .bl f.2.2.2.2.1,dv (.i .i64) f.2.2.2.2.2.1,dv (.sl 1 (.i .u32)) f.2.2.2.2.2.2,dv (.sl 1 (.i .u32)) v.1,dv (.i .i64) v.2]
def j8 (N:Nat) (o_9:List Int) (o_9_2:List Int) (o_9_3:Vector UInt8 32) (s3_9:Nat) (s4_9:List UInt8) (s5_9:Int) (s6_9:List Int) (v:vE):Tree (vE⊕jj):=
 .cond (decide (v.2 < ((64:Int)))) (
 .bind (qP v.1 4) fun e1=>
 .bind (qP v.1 0) fun e2=>
 .bind (qP v.1 7) fun e3=>
 .bind (zc e1 6) fun r4=>
 .bind (zc e1 11) fun r5=>
 .bind (zc e1 25) fun r6=>
 let w7:Int:=vn .u32 e3 (VF .u32 (VF .u32 r4 r5) r6)
 .bind (qP v.1 5) fun e8=>
 .bind (qP v.1 6) fun e9=>
 let w10:Int:=YR .u32 (qo0 .u32 ((4294967295:Int)) e1) e9
 let w11:Int:=vn .u32 w7 (uOr .u32 (YR .u32 e1 e8) w10)
 .bind (qdo) fun r12=>
 .bind (qP ([1116352408,1899447441,3049323471,3921009573,961987163,1508970993,2453635748,2870763221,3624381080,310598401,607225278,1426881987,1925078388,2162078206,2614888103,3248222580,3835390401,4022224774,264347078,604807628,770255983,1249150122,1555081692,1996064986,2554220882,2821834349,2952996808,3210313671,3336571891,3584528711,113926993,338241895,666307205,773529912,1294757372,1396182291,1695183700,1986661051,2177026350,2456956037,2730485921,2820302411,3259730800,3345764771,3516065817,3600352804,4094571909,275423344,430227734,506948616,659060556,883997877,958139571,1322822218,1537002063,1747873779,1955562222,2024104815,2227730452,2361852424,2428436474,2756734187,3204031479,3329325298]:List Int) v.2) fun e13=>
 .bind (qP s6_9 v.2) fun e14=>
 .bind (zc e2 2) fun r15=>
 .bind (zc e2 13) fun r16=>
 .bind (zc e2 22) fun r17=>
 .bind (qP v.1 1) fun e18=>
 .bind (qP v.1 2) fun e19=>
 let w20:Int:=uOr .u32 (YR .u32 e2 e18) (YR .u32 e2 e19)
 .bind (qP v.1 1) fun e21=>
 .bind (qP v.1 2) fun e22=>
 let w23:Int:=vn .u32 (VF .u32 (VF .u32 r15 r16) r17) (uOr .u32 w20 (YR .u32 e21 e22))
 let w24:Int:=vn .u32 (vn .u32 (vn .u32 w11 e13) e14) w23
 .bind (qP v.1 1) fun e25=>
 .bind (qP v.1 2) fun e26=>
 .bind (qP v.1 3) fun e27=>
 let w28:Int:=vn .u32 e27 (vn .u32 (vn .u32 w11 e13) e14)
 .bind (qP v.1 5) fun e29=>
 .bind (qP v.1 6) fun e30=>
 .chk (qj (v.2 + 1)) <|
 .ret (.inl ([w24,e2,e25,e26,w28,e1,e29,e30],v.2 + 1))) <|
 .ret (.inr (v.1,v.2,decide (v.2 < ((64:Int)))))
def qcD (N n:Nat) (f:jF) (v:vE):Option jj:=qQ (j8 N f.1 f.2.1 f.2.2.1 f.2.2.2.1 f.2.2.2.2.1 f.2.2.2.2.2.1 f.2.2.2.2.2.2) some n v
theorem qln (N:Nat) (f:jF) (n:Nat) (v:vE) (y:jj) (h:qcD N n f v=some y):LG Tryz.prog jg 123 (qL (qL Vj 4) 9) (qce f v) (jJ f y):=
 zl qk (E:=QY N) (L:=qI (qf_ N)) (st:=jJ f) (g:=some) (R:=jJ f) (vW N) (qq (by kernel_rfl) trivial) (rg0 (by kernel_rfl)) (fun v=>by kernel_rfl) (qU (st:=jJ f) fun y=>by rfl) (js0 rfl) n v y h
abbrev Jt:=Unit
def qgs:SP:=⟨0,171,[],[(2,.k (.p 20 [] 0)),(3,.v 180),(4,.x .bl),(5,.x (.i .i64)),(6,.x (.sl 1 (.i .u32))),(7,.vs 340),(8,.k (.ic .i64 0))],[(20,.cell false (.x (.ba 32))),(180,.vec false 1),(340,.vec false 1)],false,[]⟩
def qpF (f:jF) (v:Jt):TSt:=zw qgs [dv (.sl 1 (.i .u32)) f.1,dv (.sl 1 (.i .u32)) f.2.1,dv (.ba 32) f.2.2.1,dv .nat f.2.2.2.1,dv .bl f.2.2.2.2.1,dv (.i .i64) f.2.2.2.2.2.1,dv (.sl 1 (.i .u32)) f.2.2.2.2.2.2]
abbrev KE:=vE⊕jj
def JJ (N:Nat) (o_9:List Int) (o_9_2:List Int) (o_9_3:Vector UInt8 32) (s3_9:Nat) (s4_9:List UInt8) (s5_9:Int) (s6_9:List Int) (v:Jt):Tree (Jt⊕KE):=
 .chk (0≤(4:Int)∧(4:Int) < ((o_9_2.length:Nat):Int)) <|
 .bind (jM o_9_2 o_9_2.length 4) fun e1=>
 .chk (0≤(0:Int)∧(0:Int) < ((o_9_2.length:Nat):Int)) <|
 .bind (jM o_9_2 o_9_2.length 0) fun e2=>
 .chk (0≤(7:Int)∧(7:Int) < ((o_9_2.length:Nat):Int)) <|
 .bind (jM o_9_2 o_9_2.length 7) fun e3=>
 .bind (zc e1 6) fun r4=>
 .bind (zc e1 11) fun r5=>
 .bind (zc e1 25) fun r6=>
 let w7:Int:=vn .u32 e3 (VF .u32 (VF .u32 r4 r5) r6)
 .chk (0≤(5:Int)∧(5:Int) < ((o_9_2.length:Nat):Int)) <|
 .bind (jM o_9_2 o_9_2.length 5) fun e8=>
 .chk (0≤(6:Int)∧(6:Int) < ((o_9_2.length:Nat):Int)) <|
 .bind (jM o_9_2 o_9_2.length 6) fun e9=>
 let w10:Int:=YR .u32 (qo0 .u32 ((4294967295:Int)) e1) e9
 let w11:Int:=vn .u32 w7 (uOr .u32 (YR .u32 e1 e8) w10)
 .bind (qdo) fun r12=>
 .bind (qP ([1116352408,1899447441,3049323471,3921009573,961987163,1508970993,2453635748,2870763221,3624381080,310598401,607225278,1426881987,1925078388,2162078206,2614888103,3248222580,3835390401,4022224774,264347078,604807628,770255983,1249150122,1555081692,1996064986,2554220882,2821834349,2952996808,3210313671,3336571891,3584528711,113926993,338241895,666307205,773529912,1294757372,1396182291,1695183700,1986661051,2177026350,2456956037,2730485921,2820302411,3259730800,3345764771,3516065817,3600352804,4094571909,275423344,430227734,506948616,659060556,883997877,958139571,1322822218,1537002063,1747873779,1955562222,2024104815,2227730452,2361852424,2428436474,2756734187,3204031479,3329325298]:List Int) 0) fun e13=>
 .bind (qP s6_9 0) fun e14=>
 .bind (zc e2 2) fun r15=>
 .bind (zc e2 13) fun r16=>
 .bind (zc e2 22) fun r17=>
 .chk (0≤(1:Int)∧(1:Int) < ((o_9_2.length:Nat):Int)) <|
 .bind (jM o_9_2 o_9_2.length 1) fun e18=>
 .chk (0≤(2:Int)∧(2:Int) < ((o_9_2.length:Nat):Int)) <|
 .bind (jM o_9_2 o_9_2.length 2) fun e19=>
 let w20:Int:=uOr .u32 (YR .u32 e2 e18) (YR .u32 e2 e19)
 .chk (0≤(1:Int)∧(1:Int) < ((o_9_2.length:Nat):Int)) <|
 .bind (jM o_9_2 o_9_2.length 1) fun e21=>
 .chk (0≤(2:Int)∧(2:Int) < ((o_9_2.length:Nat):Int)) <|
 .bind (jM o_9_2 o_9_2.length 2) fun e22=>
 let w23:Int:=vn .u32 (VF .u32 (VF .u32 r15 r16) r17) (uOr .u32 w20 (YR .u32 e21 e22))
 let w24:Int:=vn .u32 (vn .u32 (vn .u32 w11 e13) e14) w23
 .chk (0≤(1:Int)∧(1:Int) < ((o_9_2.length:Nat):Int)) <|
 .bind (jM o_9_2 o_9_2.length 1) fun e25=>
 .chk (0≤(2:Int)∧(2:Int) < ((o_9_2.length:Nat):Int)) <|
 .bind (jM o_9_2 o_9_2.length 2) fun e26=>
 .chk (0≤(3:Int)∧(3:Int) < ((o_9_2.length:Nat):Int)) <|
 .bind (jM o_9_2 o_9_2.length 3) fun e27=>
 let w28:Int:=vn .u32 e27 (vn .u32 (vn .u32 w11 e13) e14)
 .chk (0≤(5:Int)∧(5:Int) < ((o_9_2.length:Nat):Int)) <|
 .bind (jM o_9_2 o_9_2.length 5) fun e29=>
 .chk (0≤(6:Int)∧(6:Int) < ((o_9_2.length:Nat):Int)) <|
 .bind (jM o_9_2 o_9_2.length 6) fun e30=>
 .ret (.inr (.inl ([w24,e2,e25,e26,w28,e1,e29,e30],1)))
def KK (N n:Nat) (f:jF):KE→Option jj
 | .inl w=>qcD N n f w
 | .inr w=>some w
def qqa (f:jF):KE→Ex×TSt
 | .inl w=>(.normal,qce f w)
 | .inr w=>jJ f w
def qgb (N n:Nat) (f:jF) (v:Jt):Option jj:=qQ (JJ N f.1 f.2.1 f.2.2.1 f.2.2.2.1 f.2.2.2.2.1 f.2.2.2.2.2.1 f.2.2.2.2.2.2) (KK N n f) n v
theorem qqy (N:Nat) (f:jF) (n:Nat) (v:Jt) (y:jj) (h:qgb N n f v=some y):LG Tryz.prog jg 123 (qL (qL Vj 4) 9) (qpF f v) (jJ f y):=
 zl qk (E:=QY N) (L:=qI (qf_ N)) (st:=qqa f) (g:=(KK N n f)) (R:=jJ f) (vW N) (qq (by kernel_rfl) trivial) (rg0 (by kernel_rfl)) (fun v=>by kernel_rfl) (fun w y h=>by
 rcases w with w | w
 ·exact qln N f n w y h
 ·exact qU (st:=jJ f) (fun y=>by rfl) w y h
) (js0 rfl) n v y h
def WU (N:Nat) (o_9:List Int) (o_9_2:List Int) (o_9_3:Vector UInt8 32) (s3_9:Nat) (s4_9:List UInt8) (s5_9:Int) (s6_9:List Int):Option jj:=qgb N N (o_9,o_9_2,o_9_3,s3_9,s4_9,s5_9,s6_9) ()
def qfU (N:Nat):qy:=smL qgs [(.sl 1 (.i .u32)),(.sl 1 (.i .u32)),(.ba 32),.nat,.bl,(.i .i64),(.sl 1 (.i .u32))] jj (fun x=>WU N x.1 x.2.1 x.2.2.1 x.2.2.2.1 x.2.2.2.2.1 x.2.2.2.2.2.1 x.2.2.2.2.2.2.1) cs1 fun x=>jJ (x.1,x.2.1,x.2.2.1,x.2.2.2.1,x.2.2.2.2.1,x.2.2.2.2.2.1,x.2.2.2.2.2.2.1)
theorem qn_ (N:Nat):ji Tryz.prog jg 123 (qL (qL Vj 4) 9) (qfU N):=zu fun x z h=>qqy N (x.1,x.2.1,x.2.2.1,x.2.2.2.1,x.2.2.2.2.1,x.2.2.2.2.2.1,x.2.2.2.2.2.2.1) N () z h
abbrev Xg:=Vector UInt8 32×Nat×List UInt8×Int×List Int
abbrev Ql:=List Int×Int×Bool
def Z8 (f:Xg) (y:Ql):Ex×TSt:=(.exit 4,⟨0,171,[],[(2,.p 20 [] 0),(3,.v 180 f.2.1),(4,.tv .bl f.2.2.1),(5,xi f.2.2.2.1),(7,.tv (.sl 1 (.i .u32)) f.2.2.2.2),(13,xi y.2.1),(132,xb y.2.2)],[(20,.cell false (.tv (.ba 32) f.1)),(180,.vec false 1 (.sl 1 (.i .u32)) (y.1:List Int))],false,[]⟩)
def qoc (N:Nat):List (Nat×qy):=[]
abbrev ZX:=List Int×Int
def qff:SP:=⟨0,171,[],[(2,.k (.p 20 [] 0)),(3,.v 180),(4,.x .bl),(5,.x (.i .i64)),(7,.x (.sl 1 (.i .u32))),(13,.x (.i .i64))],[(20,.cell false (.x (.ba 32))),(180,.vec false 1)],false,[]⟩
def qpd (f:Xg) (v:ZX):TSt:=zw qff [dv (.sl 1 (.i .u32)) v.1,dv (.ba 32) f.1,dv .nat f.2.1,dv .bl f.2.2.1,dv (.i .i64) f.2.2.2.1,dv (.sl 1 (.i .u32)) f.2.2.2.2,dv (.i .i64) v.2]
def V2 (N:Nat) (o_17_2:Vector UInt8 32) (s3_17:Nat) (s4_17:List UInt8) (s5_17:Int) (s7_17:List Int) (v:ZX):Tree (ZX⊕Ql):=
 .cond (decide (v.2 < ((8:Int)))) (
 .chk (0≤v.2∧v.2 < ((s3_17:Nat):Int)) <|
 .bind (jM v.1 s3_17 v.2.toNat) fun e1=>
 .bind (qP s7_17 v.2) fun e2=>
 .chk (0≤v.2∧v.2 < ((s3_17:Nat):Int)) <|
 .chk (qiI v.1.length s3_17 v.2.toNat) <|
 .chk (qj (v.2 + 1)) <|
 .ret (.inl (v.1.set v.2.toNat (vn .u32 e1 e2),v.2 + 1))) <|
 .ret (.inr (v.1,v.2,decide (v.2 < ((8:Int)))))
def qev (N n:Nat) (f:Xg) (v:ZX):Option Ql:=qQ (V2 N f.1 f.2.1 f.2.2.1 f.2.2.2.1 f.2.2.2.2) some n v
theorem qnO (N:Nat) (f:Xg) (n:Nat) (v:ZX) (y:Ql) (h:qev N n f v=some y):LG Tryz.prog jg 123 (qL (qL Vj 4) 17) (qpd f v) (Z8 f y):=
 zl qk (E:=QY N) (L:=qI (qoc N)) (st:=Z8 f) (g:=some) (R:=Z8 f) (vW N) (qq (by kernel_rfl) trivial) (rg0 (by kernel_rfl)) (fun v=>by kernel_rfl) (qU (st:=Z8 f) fun y=>by rfl) (js0 rfl) n v y h
def KX (N:Nat) (o_17_2:Vector UInt8 32) (s3_17:Nat) (s4_17:List UInt8) (s5_17:Int) (s7_17:List Int) (o_17:List Int) (s13_17:Int):Option Ql:=qev N N (o_17_2,s3_17,s4_17,s5_17,s7_17) (o_17,s13_17)
def qey (N:Nat):qy:=smL qff [(.sl 1 (.i .u32)),(.ba 32),.nat,.bl,(.i .i64),(.sl 1 (.i .u32)),(.i .i64)] Ql (fun x=>KX N x.2.1 x.2.2.1 x.2.2.2.1 x.2.2.2.2.1 x.2.2.2.2.2.1 x.1 x.2.2.2.2.2.2.1) cs1 fun x=>Z8 (x.2.1,x.2.2.1,x.2.2.2.1,x.2.2.2.2.1,x.2.2.2.2.2.1)
theorem qmD (N:Nat):ji Tryz.prog jg 123 (qL (qL Vj 4) 17) (qey N):=zu fun x z h=>qnO N (x.2.1,x.2.2.1,x.2.2.2.1,x.2.2.2.2.1,x.2.2.2.2.2.1) N (x.1,x.2.2.2.2.2.2.1) z h
abbrev Xq:=Vector UInt8 32×Nat×List UInt8
abbrev QO:=List Int×Int×Bool
def JC (f:Xq) (y:QO):Ex×TSt:=(.exit 0,⟨0,171,[],[(2,.p 20 [] 0),(3,.v 180 f.2.1),(4,.tv .bl f.2.2),(5,xi y.2.1),(24,xb y.2.2)],[(20,.cell false (.tv (.ba 32) f.1)),(180,.vec false 1 (.sl 1 (.i .u32)) (y.1:List Int))],false,[]⟩)
def qpk (N:Nat):List (Nat×qy):=[(9,qfU N),(17,qey N)]
abbrev JH:=List Int×Int
def qgd:SP:=⟨0,171,[],[(2,.k (.p 20 [] 0)),(3,.v 180),(4,.x .bl),(5,.x (.i .i64))],[(20,.cell false (.x (.ba 32))),(180,.vec false 1)],false,[]⟩
def qpn (f:Xq) (v:JH):TSt:=zw qgd [dv (.sl 1 (.i .u32)) v.1,dv (.ba 32) f.1,dv .nat f.2.1,dv .bl f.2.2,dv (.i .i64) v.2]
def XM (N:Nat) (o_4_2:Vector UInt8 32) (s3_4:Nat) (s4_4:List UInt8) (v:JH):Tree (JH⊕QO):=
 .cond (decide (v.2 < ((s4_4.length:Nat):Int))) (
 .chk (qj (v.2 + 64)) <|
 .chk (0≤v.2∧v.2≤(v.2 + 64)∧(v.2 + 64)≤((s4_4.length:Nat):Int)) <|
 .bind (Yu N ((s4_4.take ((v.2 + 64).toNat)).drop v.2.toNat)) fun r1=>
 .chk (v.1.length=s3_4) <|
 .chk (qj9 v.1.length 4) <|
 .bind (ju [(v.1.length,v.1.length)] (WU N v.1 v.1 o_4_2 s3_4 s4_4 v.2 r1)) fun z2=>
 .bind (KX N o_4_2 s3_4 s4_4 v.2 z2.1 v.1 0) fun z3=>
 .chk (qj (v.2 + 64)) <|
 .ret (.inl (z3.1,v.2 + 64))) <|
 .ret (.inr (v.1,v.2,decide (v.2 < ((s4_4.length:Nat):Int))))
def qge (N n:Nat) (f:Xq) (v:JH):Option QO:=qQ (XM N f.1 f.2.1 f.2.2) some n v
theorem qpL (N:Nat) (f:Xq) (n:Nat) (v:JH) (y:QO) (h:qge N n f v=some y):LG Tryz.prog jg 123 (qL Vj 4) (qpn f v) (JC f y):=
 zl qk (E:=QY N) (L:=qI (qpk N)) (st:=JC f) (g:=some) (R:=JC f) (vW N) (qq (by kernel_rfl) ⟨qn_ N,qmD N,trivial⟩) (rg0 (by kernel_rfl)) (fun v=>by kernel_rfl) (qU (st:=JC f) fun y=>by rfl) (js0 rfl) n v y h
def qbB (N:Nat) (o_4_2:Vector UInt8 32) (s3_4:Nat) (s4_4:List UInt8) (o_4:List Int) (s5_4:Int):Option QO:=qge N N (o_4_2,s3_4,s4_4) (o_4,s5_4)
def qgF (N:Nat):qy:=smL qgd [(.sl 1 (.i .u32)),(.ba 32),.nat,.bl,(.i .i64)] QO (fun x=>qbB N x.2.1 x.2.2.1 x.2.2.2.1 x.1 x.2.2.2.2.1) cs1 fun x=>JC (x.2.1,x.2.2.1,x.2.2.2.1)
theorem qnD (N:Nat):ji Tryz.prog jg 123 (qL Vj 4) (qgF N):=zu fun x z h=>qpL N (x.2.1,x.2.2.1,x.2.2.2.1) N (x.1,x.2.2.2.2.1) z h
abbrev V3:=List Int×Vector UInt8 32×Vector UInt8 32×Nat×Int
abbrev Qh:=Int×Int×Bool
def ZP (f:V3) (y:Qh):Ex×TSt:=(.exit 8,⟨0,171,[],[(2,.p 20 [] 0),(3,.v 180 f.2.2.2.1),(14,.p 140 [] 0),(15,xi f.2.2.2.2),(16,.tv (.i .u32) (y.1:Int)),(17,xi y.2.1),(160,xb y.2.2)],[(20,.cell false (.tv (.ba 32) f.2.1)),(140,.cell false (.tv (.ba 32) f.2.2.1)),(180,.vec false 1 (.sl 1 (.i .u32)) f.1)],false,[]⟩)
def qoU (N:Nat):List (Nat×qy):=[]
abbrev ZC:=Int×Int
def qeQ:SP:=⟨0,171,[],[(2,.k (.p 20 [] 0)),(3,.v 180),(14,.k (.p 140 [] 0)),(15,.x (.i .i64)),(16,.x (.i .u32)),(17,.x (.i .i64))],[(20,.cell false (.x (.ba 32))),(140,.cell false (.x (.ba 32))),(180,.vec false 1)],false,[]⟩
def qo7 (f:V3) (v:ZC):TSt:=zw qeQ [dv (.sl 1 (.i .u32)) f.1,dv (.ba 32) f.2.1,dv (.ba 32) f.2.2.1,dv .nat f.2.2.2.1,dv (.i .i64) f.2.2.2.2,dv (.i .u32) v.1,dv (.i .i64) v.2]
def Xf (N:Nat) (o_26:List Int) (o_26_2:Vector UInt8 32) (o_26_3:Vector UInt8 32) (s3_26:Nat) (s15_26:Int) (v:ZC):Tree (ZC⊕Qh):=
 .cond (decide (v.2 < ((3:Int)))) (
 .chk ((256:Int)≠0) <|
 .chk (qj (v.2 + 1)) <|
 .ret (.inl (IntKind.u32.wrap (v.1.tdiv 256),v.2 + 1))) <|
 .ret (.inr (v.1,v.2,decide (v.2 < ((3:Int)))))
def qeL (N n:Nat) (f:V3) (v:ZC):Option Qh:=qQ (Xf N f.1 f.2.1 f.2.2.1 f.2.2.2.1 f.2.2.2.2) some n v
theorem qpb (N:Nat) (f:V3) (n:Nat) (v:ZC) (y:Qh) (h:qeL N n f v=some y):LG Tryz.prog jg 123 (qL (qL Vj 22) 26) (qo7 f v) (ZP f y):=
 zl qk (E:=QY N) (L:=qI (qoU N)) (st:=ZP f) (g:=some) (R:=ZP f) (vW N) (qq (by kernel_rfl) trivial) (rg0 (by kernel_rfl)) (fun v=>by kernel_rfl) (qU (st:=ZP f) fun y=>by rfl) (js0 rfl) n v y h
def qat (N:Nat) (o_26:List Int) (o_26_2:Vector UInt8 32) (o_26_3:Vector UInt8 32) (s3_26:Nat) (s15_26:Int) (s16_26:Int) (s17_26:Int):Option Qh:=qeL N N (o_26,o_26_2,o_26_3,s3_26,s15_26) (s16_26,s17_26)
def qeu (N:Nat):qy:=smL qeQ [(.sl 1 (.i .u32)),(.ba 32),(.ba 32),.nat,(.i .i64),(.i .u32),(.i .i64)] Qh (fun x=>qat N x.1 x.2.1 x.2.2.1 x.2.2.2.1 x.2.2.2.2.1 x.2.2.2.2.2.1 x.2.2.2.2.2.2.1) cs1 fun x=>ZP (x.1,x.2.1,x.2.2.1,x.2.2.2.1,x.2.2.2.2.1)
theorem qmI (N:Nat):ji Tryz.prog jg 123 (qL (qL Vj 22) 26) (qeu N):=zu fun x z h=>qpb N (x.1,x.2.1,x.2.2.1,x.2.2.2.1,x.2.2.2.2.1) N (x.2.2.2.2.2.1,x.2.2.2.2.2.2.1) z h
abbrev Xa:=List Int×Vector UInt8 32×Nat
abbrev Qa:=Vector UInt8 32×Int×Bool
def ZR (f:Xa) (y:Qa):Ex×TSt:=(.exit 6,⟨0,171,[],[(2,.p 20 [] 0),(3,.v 180 f.2.2),(14,.p 140 [] 0),(15,xi y.2.1),(149,xb y.2.2)],[(20,.cell false (.tv (.ba 32) f.2.1)),(140,.cell false (.tv (.ba 32) (y.1:Vector UInt8 32))),(180,.vec false 1 (.sl 1 (.i .u32)) f.1)],false,[]⟩)
def qoC (N:Nat):List (Nat×qy):=[(26,qeu N)]
abbrev Z7:=Vector UInt8 32×Int
def qel:SP:=⟨0,171,[],[(2,.k (.p 20 [] 0)),(3,.v 180),(14,.k (.p 140 [] 0)),(15,.x (.i .i64))],[(20,.cell false (.x (.ba 32))),(140,.cell false (.x (.ba 32))),(180,.vec false 1)],false,[]⟩
def qoQ (f:Xa) (v:Z7):TSt:=zw qel [dv (.sl 1 (.i .u32)) f.1,dv (.ba 32) f.2.1,dv (.ba 32) v.1,dv .nat f.2.2,dv (.i .i64) v.2]
def Xi (N:Nat) (o_22:List Int) (o_22_2:Vector UInt8 32) (s3_22:Nat) (v:Z7):Tree (Z7⊕Qa):=
 .cond (decide (v.2 < ((32:Int)))) (
 .chk ((4:Int)≠0) <|
 .chk (qj (v.2.tdiv 4)) <|
 .chk (0≤(v.2.tdiv 4)∧(v.2.tdiv 4) < ((s3_22:Nat):Int)) <|
 .bind (jM o_22 s3_22 ((v.2.tdiv 4).toNat)) fun e1=>
 .chk ((4:Int)≠0) <|
 .bind (qat N o_22 o_22_2 v.1 s3_22 v.2 e1 (v.2.tmod 4)) fun z2=>
 .chk ((256:Int)≠0) <|
 .chk (0≤v.2∧v.2 < ((32:Nat):Int)) <|
 .chk (inB (IntKind.u8.wrap (z2.1.tmod 256))) <|
 .chk (v.2.toNat < 32) <|
 .chk (qj (v.2 + 1)) <|
 .ret (.inl (v.1.setIfInBounds v.2.toNat (UInt8.ofNat (IntKind.u8.wrap (z2.1.tmod 256)).toNat),v.2 + 1))) <|
 .ret (.inr (v.1,v.2,decide (v.2 < ((32:Int)))))
def qfe (N n:Nat) (f:Xa) (v:Z7):Option Qa:=qQ (Xi N f.1 f.2.1 f.2.2) some n v
theorem qny (N:Nat) (f:Xa) (n:Nat) (v:Z7) (y:Qa) (h:qfe N n f v=some y):LG Tryz.prog jg 123 (qL Vj 22) (qoQ f v) (ZR f y):=
 zl qk (E:=QY N) (L:=qI (qoC N)) (st:=ZR f) (g:=some) (R:=ZR f) (vW N) (qq (by kernel_rfl) ⟨qmI N,trivial⟩) (rg0 (by kernel_rfl)) (fun v=>by kernel_rfl) (qU (st:=ZR f) fun y=>by rfl) (js0 rfl) n v y h
def qaG (N:Nat) (o_22:List Int) (o_22_2:Vector UInt8 32) (s3_22:Nat) (o_22_3:Vector UInt8 32) (s15_22:Int):Option Qa:=qfe N N (o_22,o_22_2,s3_22) (o_22_3,s15_22)
def qeS (N:Nat):qy:=smL qel [(.sl 1 (.i .u32)),(.ba 32),(.ba 32),.nat,(.i .i64)] Qa (fun x=>qaG N x.1 x.2.1 x.2.2.2.1 x.2.2.1 x.2.2.2.2.1) cs1 fun x=>ZR (x.1,x.2.1,x.2.2.2.1)
theorem qmv (N:Nat):ji Tryz.prog jg 123 (qL Vj 22) (qeS N):=zu fun x z h=>qny N (x.1,x.2.1,x.2.2.2.1) N (x.2.2.1,x.2.2.2.2.1) z h
def qv3 (z:Vector UInt8 32):TV×THp:=(.tv (.ba 32) z,[])
def qci (N:Nat) (a0:List UInt8):Tree (Vector UInt8 32):=
 .bind (Wd N a0) fun r1=>
 .bind (qbB N ((Vector.replicate 32 0)) 8 r1 [1779033703,3144134277,1013904242,2773480762,1359893119,2600822924,528734635,1541459225] 0) fun z2=>
 .bind (qaG N z2.1 ((Vector.replicate 32 0)) 8 ((Vector.replicate 32 0)) 0) fun z3=>
 .ret z3.1
def KV (N:Nat) (a0:List UInt8):Option (Vector UInt8 32):=(qci N a0).run some
def quT (N:Nat):List (Nat×qy):=[(4,qgF N),(22,qeS N)]
def qjD (N:Nat):Ent:=smF ⟨123,[],[.x .bl],[],[]⟩ [.bl] (Vector UInt8 32) (fun x=>KV N x.1) cs1 fun _=>qv3
theorem qtV (N:Nat):q_ Tryz.prog (qjD N):=
 q8 (H:=jg) (L:=qI (quT N)) (ts:=[.bl]) (T:=fun x=>qci N x.1) 0 qPT (vW N) (qq (by kernel_rfl) ⟨qnD N,qmv N,trivial⟩) (rg0 (by kernel_rfl)) fun x=>by kernel_rfl
noncomputable def qPy:Code:=Tryz.f102.body.getD .skip
theorem qPk:FnF Tryz.prog 102 Tryz.f102 qPy:=⟨qk,by kernel_rfl,by kernel_rfl,by kernel_rfl⟩
def qxX:TH:={ live:=[(0,[0,2]),(1,[2])] }
def qx6 (N:Nat):List Ent:=[qjD N]
theorem qt8 (N:Nat):qO Tryz.prog (qx6 N):=⟨qtV N,trivial⟩
def qxT (z:Vector UInt8 32):TV×THp:=(.tv (.ba 32) z,[])
def qei (N:Nat) (a0:List UInt8):Tree (Vector UInt8 32):=
 .chk (qkZ (a0:List UInt8).length) <|
 .bind (KV N a0) fun r1=>
 .ret r1
def vI (N:Nat) (a0:List UInt8):Option (Vector UInt8 32):=(qei N a0).run some
def qya (N:Nat):List (Nat×qy):=[]
def qea (N:Nat):Ent:=smF ⟨102,[],[.x .s],[],[]⟩ [.s] (Vector UInt8 32) (fun x=>vI N x.1) cs1 fun _=>qxT
theorem qjB (N:Nat):q_ Tryz.prog (qea N):=
 q8 (H:=qxX) (L:=qI (qya N)) (ts:=[.s]) (T:=fun x=>qei N x.1) 0 qPk (qt8 N) (qq (by kernel_rfl) trivial) (rg0 (by kernel_rfl)) fun x=>by kernel_rfl
noncomputable def qwd:Code:=Tryz.f174.body.getD .skip
theorem qOA:FnF Tryz.prog 174 Tryz.f174 qwd:=⟨qk,by kernel_rfl,by kernel_rfl,by kernel_rfl⟩
def qbw:TH:={ live:=[(0,[2,3]),(1,[2,3,5]),(2,[2,3,5,7]),(3,[2,3,5]),(4,[2,3,5,16]),(5,[4]),(6,[4])] }
def qh3 (N:Nat):List Ent:=[]
theorem qf1 (N:Nat):qO Tryz.prog (qh3 N):=trivial
abbrev VT:=Vector UInt8 32×Vector UInt8 32
abbrev Qd:=Bool⊕(Int×Bool)
def Z4 (f:VT):Qd→Ex×TSt
 | .inl y=>(.ret,⟨0,24,[],[(4,xb y)],[],false,[]⟩)
 | .inr y=>(.exit 0,⟨0,24,[],[(2,.p 20 [] 0),(3,.p 30 [] 0),(5,xi y.1),(7,xb y.2)],[(20,.cell false (.tv (.ba 32) f.1)),(30,.cell false (.tv (.ba 32) f.2))],false,[]⟩)
def qoF (N:Nat):List (Nat×qy):=[]
abbrev ZW:=Int
def qeo:SP:=⟨0,24,[],[(2,.k (.p 20 [] 0)),(3,.k (.p 30 [] 0)),(5,.x (.i .i64))],[(20,.cell false (.x (.ba 32))),(30,.cell false (.x (.ba 32)))],false,[]⟩
def qn8 (f:VT) (v:ZW):TSt:=zw qeo [dv (.ba 32) f.1,dv (.ba 32) f.2,dv (.i .i64) v]
def ZO (N:Nat) (o_2:Vector UInt8 32) (o_2_2:Vector UInt8 32) (v:ZW):Tree (ZW⊕Qd):=
 .cond (decide (v < ((32:Int)))) (
 .chk (0≤v∧v < ((32:Nat):Int)) <|
 .chk (v.toNat < 32) <|
 .chk (0≤v∧v < ((32:Nat):Int)) <|
 .chk (v.toNat < 32) <|
 .cond (!decide ((((o_2.toList.getD v.toNat 0).toNat:Nat):Int)=(((o_2_2.toList.getD v.toNat 0).toNat:Nat):Int))) (
 .chk (0≤v∧v < ((32:Nat):Int)) <|
 .chk (v.toNat < 32) <|
 .chk (0≤v∧v < ((32:Nat):Int)) <|
 .chk (v.toNat < 32) <|
 .ret (.inr (.inl (decide ((((o_2.toList.getD v.toNat 0).toNat:Nat):Int) < (((o_2_2.toList.getD v.toNat 0).toNat:Nat):Int)))))) <|
 .chk (qj (v + 1)) <|
 .ret (.inl (v + 1))) <|
 .ret (.inr (.inr ((v,decide (v < ((32:Int)))))))
def qer (N n:Nat) (f:VT) (v:ZW):Option Qd:=qQ (ZO N f.1 f.2) some n v
theorem qnQ (N:Nat) (f:VT) (n:Nat) (v:ZW) (y:Qd) (h:qer N n f v=some y):LG Tryz.prog qbw 174 (qL qwd 2) (qn8 f v) (Z4 f y):=
 zl qk (E:=qh3 N) (L:=qI (qoF N)) (st:=Z4 f) (g:=some) (R:=Z4 f) (qf1 N) (qq (by kernel_rfl) trivial) (rg0 (by kernel_rfl)) (fun v=>by kernel_rfl) (qU (st:=Z4 f) fun y=>by rcases y with _ | _<;>rfl) (js0 rfl) n v y h
def K9 (N:Nat) (o_2:Vector UInt8 32) (o_2_2:Vector UInt8 32) (s5_2:Int):Option Qd:=qer N N (o_2,o_2_2) s5_2
def qet (N:Nat):qy:=smL qeo [(.ba 32),(.ba 32),(.i .i64)] Qd (fun x=>K9 N x.1 x.2.1 x.2.2.1) (csS cs1) fun x=>Z4 (x.1,x.2.1)
theorem qmp (N:Nat):ji Tryz.prog qbw 174 (qL qwd 2) (qet N):=zu fun x z h=>qnQ N (x.1,x.2.1) N x.2.2.1 z h
def qtH (z:Bool):TV×THp:=(xb z,[])
def qbI (N:Nat) (a0:Vector UInt8 32) (a1:Vector UInt8 32):Tree (Bool):=
 .bind (K9 N a0 a1 0) fun z1=>
 .sum z1 (fun z2=>
 .ret z2) fun z2=>
 .ret false
def Y3 (N:Nat) (a0:Vector UInt8 32) (a1:Vector UInt8 32):Option (Bool):=(qbI N a0 a1).run some
def qtn (N:Nat):List (Nat×qy):=[(2,qet N)]
def qhN (N:Nat):Ent:=smF ⟨174,[],[.x (.ba 32),.x (.ba 32)],[],[]⟩ [(.ba 32),(.ba 32)] (Bool) (fun x=>Y3 N x.1 x.2.1) cs1 fun _=>qtH
theorem qrs (N:Nat):q_ Tryz.prog (qhN N):=
 q8 (H:=qbw) (L:=qI (qtn N)) (ts:=[(.ba 32),(.ba 32)]) (T:=fun x=>qbI N x.1 x.2.1) 0 qOA (qf1 N) (qq (by kernel_rfl) ⟨qmp N,trivial⟩) (rg0 (by kernel_rfl)) fun x=>by kernel_rfl
noncomputable def quj:Code:=Tryz.f165.body.getD .skip
theorem qOC:FnF Tryz.prog 165 Tryz.f165 quj:=⟨qk,by kernel_rfl,by kernel_rfl,by kernel_rfl⟩
def qbC:TH:={ live:=[(0,[2,3]),(1,[2,3,14]),(2,[5]),(3,[4]),(4,[2,3,6]),(5,[2,3,6,7]),(6,[2,3,6,7,29]),(7,[8]),(8,[4]),(9,[2,3,9]),(10,[2,3,9,38]),(11,[2,3,9]),(12,[2,3,9,45]),(13,[4]),(14,[2,3,9,54]),(15,[4]),(16,[4])] }
def qh2 (N:Nat):List Ent:=[Vx,qea N,qhN N]
theorem qf4 (N:Nat):qO Tryz.prog (qh2 N):=⟨We,qjB N,qrs N,trivial⟩
abbrev Vv:=qf×qf
abbrev vR:=Bool⊕(Int×Bool)
def Zc (f:Vv):vR→Ex×TSt
 | .inl y=>(.ret,⟨0,64,[],[(4,xb y)],[],false,[]⟩)
 | .inr y=>(.exit 0,⟨0,64,[],[(2,.p 20 [] 0),(3,.p 30 [] 0),(9,xi y.1),(38,xb y.2)],[(20,.cell false (.tv qt f.1)),(30,.cell false (.tv qt f.2))],false,[]⟩)
def qmk (N:Nat):List (Nat×qy):=[]
abbrev Q_:=Int
def qd6:SP:=⟨0,64,[],[(2,.k (.p 20 [] 0)),(3,.k (.p 30 [] 0)),(9,.x (.i .i64))],[(20,.cell false (.x qt)),(30,.cell false (.x qt))],false,[]⟩
def qmr (f:Vv) (v:Q_):TSt:=zw qd6 [dv qt f.1,dv qt f.2,dv (.i .i64) v]
def vU (N:Nat) (o_10:qf) (o_10_2:qf) (v:Q_):Tree (Q_⊕vR):=
 .cond (decide (v < (((qf.V o_10_2).length:Nat):Int))) (
 .cond (decide ((((qf.V o_10).length:Nat):Int)≤v)) (
 .ret (.inr (.inl true))) <|
 .bind (qP (qf.V o_10) v) fun e1=>
 .bind (qP (qf.V o_10_2) v) fun e2=>
 .cond (!decide (((e1.toNat:Nat):Int)=((e2.toNat:Nat):Int))) (
 .bind (qP (qf.V o_10) v) fun e3=>
 .bind (qP (qf.V o_10_2) v) fun e4=>
 .ret (.inr (.inl (decide (((e3.toNat:Nat):Int) < ((e4.toNat:Nat):Int)))))) <|
 .chk (qj (v + 1)) <|
 .ret (.inl (v + 1))) <|
 .ret (.inr (.inr ((v,decide (v < (((qf.V o_10_2).length:Nat):Int))))))
def qdP (N n:Nat) (f:Vv) (v:Q_):Option vR:=qQ (vU N f.1 f.2) some n v
theorem qmR (N:Nat) (f:Vv) (n:Nat) (v:Q_) (y:vR) (h:qdP N n f v=some y):LG Tryz.prog qbC 165 (qL quj 10) (qmr f v) (Zc f y):=
 zl qk (E:=qh2 N) (L:=qI (qmk N)) (st:=Zc f) (g:=some) (R:=Zc f) (qf4 N) (qq (by kernel_rfl) trivial) (rg0 (by kernel_rfl)) (fun v=>by kernel_rfl) (qU (st:=Zc f) fun y=>by rcases y with _ | _<;>rfl) (js0 rfl) n v y h
def qgg (N:Nat) (o_10:qf) (o_10_2:qf) (s9_10:Int):Option vR:=qdP N N (o_10,o_10_2) s9_10
def qd9 (N:Nat):qy:=smL qd6 [qt,qt,(.i .i64)] vR (fun x=>qgg N x.1 x.2.1 x.2.2.1) (csS cs1) fun x=>Zc (x.1,x.2.1)
theorem qlR (N:Nat):ji Tryz.prog qbC 165 (qL quj 10) (qd9 N):=zu fun x z h=>qmR N (x.1,x.2.1) N x.2.2.1 z h
def qud (z:Bool):TV×THp:=(xb z,[])
def qbf (N:Nat) (a0:qf) (a1:qf):Tree (Bool):=
 .cond (!(eqE qm (qf.S a0) (qf.S a1))) (
 .bind (jt (qf.S a0) (qf.S a1)) fun r1=>
 .ret r1) <|
 .bind (vI N (qf.V a0)) fun r1=>
 .bind (vI N (qf.V a1)) fun r2=>
 .cond (!(eqE (.ba 32) r1 r2)) (
 .bind (Y3 N r1 r2) fun r3=>
 .ret r3) <|
 .bind (qgg N a0 a1 0) fun z3=>
 .sum z3 (fun z4=>
 .ret z4) fun z4=>
 .ret false
def YZ (N:Nat) (a0:qf) (a1:qf):Option (Bool):=(qbf N a0 a1).run some
def qtJ (N:Nat):List (Nat×qy):=[(10,qd9 N)]
def qhT (N:Nat):Ent:=smF ⟨165,[],[.x qt,.x qt],[],[]⟩ [qt,qt] (Bool) (fun x=>YZ N x.1 x.2.1) cs1 fun _=>qud
theorem qrF (N:Nat):q_ Tryz.prog (qhT N):=
 q8 (H:=qbC) (L:=qI (qtJ N)) (ts:=[qt,qt]) (T:=fun x=>qbf N x.1 x.2.1) 0 qOC (qf4 N) (qq (by kernel_rfl) ⟨qlR N,trivial⟩) (rg0 (by kernel_rfl)) fun x=>by kernel_rfl
noncomputable def qOU:Code:=Tryz.f158.body.getD .skip
theorem qQq:FnF Tryz.prog 158 Tryz.f158 qOU:=⟨qk,by kernel_rfl,by kernel_rfl,by kernel_rfl⟩
def qtU:TH:={ live:=[(0,[2,3,4]),(1,[2,3,4,5]),(2,[2,3,4,9]),(3,[4]),(4,[4])] }
def qto (N:Nat):List Ent:=[qhT N]
theorem qpC (N:Nat):qO Tryz.prog (qto N):=⟨qrF N,trivial⟩
def qt3 (z:qf):TV×THp:=(.tv qt z,[])
def qbM (N:Nat) (a0:qf) (a1:qf):Tree (qf):=
 .bind (YZ N a0 a1) fun r1=>
 .cond r1 (
 .ret a1) <|
 .ret a0
def Y5 (N:Nat) (a0:qf) (a1:qf):Option (qf):=(qbM N a0 a1).run some
def qtL (N:Nat):List (Nat×qy):=[]
def qh4 (N:Nat):Ent:=smF ⟨158,[],[.x qt,.x qt],[],[]⟩ [qt,qt] (qf) (fun x=>Y5 N x.1 x.2.1) cs1 fun _=>qt3
theorem qsq (N:Nat):q_ Tryz.prog (qh4 N):=
 q8 (H:=qtU) (L:=qI (qtL N)) (ts:=[qt,qt]) (T:=fun x=>qbM N x.1 x.2.1) 0 qQq (qpC N) (qq (by kernel_rfl) trivial) (rg0 (by kernel_rfl)) fun x=>by kernel_rfl
noncomputable def qwK:Code:=Tryz.f137.body.getD .skip
theorem qP4:FnF Tryz.prog 137 Tryz.f137 qwK:=⟨qk,by kernel_rfl,by kernel_rfl,by kernel_rfl⟩
def qbl:TH:={ live:=[(0,[2,3,4]),(1,[2,3,4,6]),(2,[2,3,4,6,7]),(3,[2,3,4,31]),(4,[4,5]),(5,[2,3,4,8]),(6,[2,3,4,8,9]),(7,[2,3,4,8,9,42]),(8,[2,3,4,8,9]),(9,[2,3,4,8,9,10,11]),(10,[2,3,4,8,9,10,11,12,13]),(11,[2,3,4,8,9,10,11,12,13,60]),(12,[2,3,4,8,9,10,11,12,13]),(13,[2,3,4,8,9,10,11,12,13,65]),(14,[2,3,4,8,9,10,11,13]),(15,[2,3,4,8,9,10,11,13,14]),(16,[2,3,4,8,9,10,78]),(17,[2,3,4,8,9]),(18,[4,5])],dec:=[21,25,58,73,76],nil:=[(0,[⟨.ob 40 [2],45,(.sl 4 qA)⟩]),(4,[⟨.ob 40 [2],45,(.sl 4 qA)⟩]),(5,[⟨.ob 80 [2],85,(.sl 4 qA)⟩])] }
def qh_ (N:Nat):List Ent:=[Yx N,qjr,qbg N,qh4 N,Vx]
theorem qfW (N:Nat):qO Tryz.prog (qh_ N):=⟨qbu N,qtd,qgY N,qsq N,We,trivial⟩
abbrev V8:=List qg×qa×qa×Vector UInt8 16×qe×Vector UInt8 16×qe
abbrev Qm:=List qg×Int×Bool
def ZF (f:V8) (y:Qm):Ex×TSt:=(.exit 0,⟨0,88,[],[(2,.p 20 [] 0),(3,.p 30 [] 0),(4,.p 40 [] 0),(8,.p 80 [] 0),(9,xi y.2.1),(42,xb y.2.2)],[(20,.cell false (.tv qh f.2.1)),(30,.cell false (.tv qh f.2.2.1)),(40,.cell false (.ag [.tv (.ba 16) f.2.2.2.1,.tv qm f.2.2.2.2.1,.v 45 f.1.length])),(45,.vec false 4 (.sl 4 qA) f.1),(80,.cell false (.ag [.tv (.ba 16) f.2.2.2.2.2.1,.tv qm f.2.2.2.2.2.2,.v 85 y.1.length])),(85,.vec false 4 (.sl 4 qA) (y.1:List qg))],false,[]⟩)
def qon (N:Nat):List (Nat×qy):=[]
abbrev ZH:=List qg×Int
def qeJ:SP:=⟨0,88,[],[(2,.k (.p 20 [] 0)),(3,.k (.p 30 [] 0)),(4,.k (.p 40 [] 0)),(8,.k (.p 80 [] 0)),(9,.x (.i .i64))],[(20,.cell false (.x qh)),(30,.cell false (.x qh)),(40,.cell false (.ag [.x (.ba 16),.x qm,.vs 45])),(45,.vec false 4),(80,.cell false (.ag [.x (.ba 16),.x qm,.vs 85])),(85,.vec false 4)],false,[]⟩
def qnK (f:V8) (v:ZH):TSt:=zw qeJ [dv (.sl 4 qA) f.1,dv (.sl 4 qA) v.1,dv qh f.2.1,dv qh f.2.2.1,dv (.ba 16) f.2.2.2.1,dv qm f.2.2.2.2.1,dv (.ba 16) f.2.2.2.2.2.1,dv qm f.2.2.2.2.2.2,dv (.i .i64) v.2]
def V4 (N:Nat) (o_7:List qg) (o_7_3:qa) (o_7_4:qa) (o_7_5:Vector UInt8 16) (o_7_6:qe) (o_7_7:Vector UInt8 16) (o_7_8:qe) (v:ZH):Tree (ZH⊕Qm):=
 .cond (decide (v.2 < ((8:Int)))) (
 .bind (Qq N o_7_3 v.2) fun r1=>
 .bind (Qq N o_7_4 v.2) fun r2=>
 .cond r1.2 (
 .cond r2.2 (
 .bind (Y5 N r1.1 r2.1) fun r3=>
 .cond (!r1.2) (
 .bind (jt o_7_8 (qf.S r2.1)) fun r4=>
 .cond r1.2 (
 .cond r4 (
 .chk (jx v.1.length v.1.length ((v.1++[qg.mk v.2 r2.1]).length) 40) <|
 .chk (qj (v.2 + 1)) <|
 .ret (.inl (v.1++[qg.mk v.2 r2.1],v.2 + 1))) <|
 .chk (qj (v.2 + 1)) <|
 .ret (.inl (v.1,v.2 + 1))) <|
 .cond r2.2 (
 .cond r4 (
 .chk (jx v.1.length v.1.length ((v.1++[qg.mk v.2 r2.1]).length) 40) <|
 .chk (qj (v.2 + 1)) <|
 .ret (.inl (v.1++[qg.mk v.2 r2.1],v.2 + 1))) <|
 .chk (qj (v.2 + 1)) <|
 .ret (.inl (v.1,v.2 + 1))) <|
 .chk (qj (v.2 + 1)) <|
 .ret (.inl (v.1,v.2 + 1))) <|
 .bind (jt o_7_8 (qf.S r3)) fun r4=>
 .cond r1.2 (
 .cond r4 (
 .chk (jx v.1.length v.1.length ((v.1++[qg.mk v.2 r3]).length) 40) <|
 .chk (qj (v.2 + 1)) <|
 .ret (.inl (v.1++[qg.mk v.2 r3],v.2 + 1))) <|
 .chk (qj (v.2 + 1)) <|
 .ret (.inl (v.1,v.2 + 1))) <|
 .cond r2.2 (
 .cond r4 (
 .chk (jx v.1.length v.1.length ((v.1++[qg.mk v.2 r3]).length) 40) <|
 .chk (qj (v.2 + 1)) <|
 .ret (.inl (v.1++[qg.mk v.2 r3],v.2 + 1))) <|
 .chk (qj (v.2 + 1)) <|
 .ret (.inl (v.1,v.2 + 1))) <|
 .chk (qj (v.2 + 1)) <|
 .ret (.inl (v.1,v.2 + 1))) <|
 .cond (!r1.2) (
 .bind (jt o_7_8 (qf.S r2.1)) fun r3=>
 .cond r1.2 (
 .cond r3 (
 .chk (jx v.1.length v.1.length ((v.1++[qg.mk v.2 r2.1]).length) 40) <|
 .chk (qj (v.2 + 1)) <|
 .ret (.inl (v.1++[qg.mk v.2 r2.1],v.2 + 1))) <|
 .chk (qj (v.2 + 1)) <|
 .ret (.inl (v.1,v.2 + 1))) <|
 .cond r2.2 (
 .cond r3 (
 .chk (jx v.1.length v.1.length ((v.1++[qg.mk v.2 r2.1]).length) 40) <|
 .chk (qj (v.2 + 1)) <|
 .ret (.inl (v.1++[qg.mk v.2 r2.1],v.2 + 1))) <|
 .chk (qj (v.2 + 1)) <|
 .ret (.inl (v.1,v.2 + 1))) <|
 .chk (qj (v.2 + 1)) <|
 .ret (.inl (v.1,v.2 + 1))) <|
 .bind (jt o_7_8 (qf.S r1.1)) fun r3=>
 .cond r1.2 (
 .cond r3 (
 .chk (jx v.1.length v.1.length ((v.1++[qg.mk v.2 r1.1]).length) 40) <|
 .chk (qj (v.2 + 1)) <|
 .ret (.inl (v.1++[qg.mk v.2 r1.1],v.2 + 1))) <|
 .chk (qj (v.2 + 1)) <|
 .ret (.inl (v.1,v.2 + 1))) <|
 .cond r2.2 (
 .cond r3 (
 .chk (jx v.1.length v.1.length ((v.1++[qg.mk v.2 r1.1]).length) 40) <|
 .chk (qj (v.2 + 1)) <|
 .ret (.inl (v.1++[qg.mk v.2 r1.1],v.2 + 1))) <|
 .chk (qj (v.2 + 1)) <|
 .ret (.inl (v.1,v.2 + 1))) <|
 .chk (qj (v.2 + 1)) <|
 .ret (.inl (v.1,v.2 + 1))) <|
 .cond (!r1.2) (
 .bind (jt o_7_8 (qf.S r2.1)) fun r3=>
 .cond r1.2 (
 .cond r3 (
 .chk (jx v.1.length v.1.length ((v.1++[qg.mk v.2 r2.1]).length) 40) <|
 .chk (qj (v.2 + 1)) <|
 .ret (.inl (v.1++[qg.mk v.2 r2.1],v.2 + 1))) <|
 .chk (qj (v.2 + 1)) <|
 .ret (.inl (v.1,v.2 + 1))) <|
 .cond r2.2 (
 .cond r3 (
 .chk (jx v.1.length v.1.length ((v.1++[qg.mk v.2 r2.1]).length) 40) <|
 .chk (qj (v.2 + 1)) <|
 .ret (.inl (v.1++[qg.mk v.2 r2.1],v.2 + 1))) <|
 .chk (qj (v.2 + 1)) <|
 .ret (.inl (v.1,v.2 + 1))) <|
 .chk (qj (v.2 + 1)) <|
 .ret (.inl (v.1,v.2 + 1))) <|
 .bind (jt o_7_8 (qf.S r1.1)) fun r3=>
 .cond r1.2 (
 .cond r3 (
 .chk (jx v.1.length v.1.length ((v.1++[qg.mk v.2 r1.1]).length) 40) <|
 .chk (qj (v.2 + 1)) <|
 .ret (.inl (v.1++[qg.mk v.2 r1.1],v.2 + 1))) <|
 .chk (qj (v.2 + 1)) <|
 .ret (.inl (v.1,v.2 + 1))) <|
 .cond r2.2 (
 .cond r3 (
 .chk (jx v.1.length v.1.length ((v.1++[qg.mk v.2 r1.1]).length) 40) <|
 .chk (qj (v.2 + 1)) <|
 .ret (.inl (v.1++[qg.mk v.2 r1.1],v.2 + 1))) <|
 .chk (qj (v.2 + 1)) <|
 .ret (.inl (v.1,v.2 + 1))) <|
 .chk (qj (v.2 + 1)) <|
 .ret (.inl (v.1,v.2 + 1))) <|
 .ret (.inr (v.1,v.2,decide (v.2 < ((8:Int)))))
def qeV (N n:Nat) (f:V8) (v:ZH):Option Qm:=qQ (V4 N f.1 f.2.1 f.2.2.1 f.2.2.2.1 f.2.2.2.2.1 f.2.2.2.2.2.1 f.2.2.2.2.2.2) some n v
theorem qnP (N:Nat) (f:V8) (n:Nat) (v:ZH) (y:Qm) (h:qeV N n f v=some y):LG Tryz.prog qbl 137 (qL qwK 7) (qnK f v) (ZF f y):=
 zl qk (E:=qh_ N) (L:=qI (qon N)) (st:=ZF f) (g:=some) (R:=ZF f) (qfW N) (qq (by kernel_rfl) trivial) (rg0 (by kernel_rfl)) (fun v=>by kernel_rfl) (qU (st:=ZF f) fun y=>by rfl) (js0 rfl) n v y h
def qad (N:Nat) (o_7:List qg) (o_7_3:qa) (o_7_4:qa) (o_7_5:Vector UInt8 16) (o_7_6:qe) (o_7_7:Vector UInt8 16) (o_7_8:qe) (o_7_2:List qg) (s9_7:Int):Option Qm:=qeV N N (o_7,o_7_3,o_7_4,o_7_5,o_7_6,o_7_7,o_7_8) (o_7_2,s9_7)
def qeP (N:Nat):qy:=smL qeJ [(.sl 4 qA),(.sl 4 qA),qh,qh,(.ba 16),qm,(.ba 16),qm,(.i .i64)] Qm (fun x=>qad N x.1 x.2.2.1 x.2.2.2.1 x.2.2.2.2.1 x.2.2.2.2.2.1 x.2.2.2.2.2.2.1 x.2.2.2.2.2.2.2.1 x.2.1 x.2.2.2.2.2.2.2.2.1) cs1 fun x=>ZF (x.1,x.2.2.1,x.2.2.2.1,x.2.2.2.2.1,x.2.2.2.2.2.1,x.2.2.2.2.2.2.1,x.2.2.2.2.2.2.2.1)
theorem qmm (N:Nat):ji Tryz.prog qbl 137 (qL qwK 7) (qeP N):=zu fun x z h=>qnP N (x.1,x.2.2.1,x.2.2.2.1,x.2.2.2.2.1,x.2.2.2.2.2.1,x.2.2.2.2.2.2.1,x.2.2.2.2.2.2.2.1) N (x.2.1,x.2.2.2.2.2.2.2.2.1) z h
def qs9 (z:qa×Bool):TV×THp:=(.tup [.tv qh (z.1:qa),xb z.2],[])
def qbh (N:Nat) (a0:qa) (a1:qa):Tree (qa×Bool):=
 .bind (Je N a0) fun r1=>
 .bind (Je N a1) fun r2=>
 .cond (!r1) (
 .chk (0=0) <|
 .ret (qa.mk ((Vector.replicate 16 0)) (qe.mk 0 0) [],false)) <|
 .cond (!r2) (
 .chk (0=0) <|
 .ret (qa.mk ((Vector.replicate 16 0)) (qe.mk 0 0) [],false)) <|
 .cond (!(eqE (.ba 16) (qa.ID a0) (qa.ID a1))) (
 .chk (0=0) <|
 .ret (qa.mk ((Vector.replicate 16 0)) (qe.mk 0 0) [],false)) <|
 .bind (qaq (qa.qW a0) (qa.qW a1)) fun r3=>
 .bind (ju [(([]:List qg).length,0),(([]:List qg).length,0)] (qad N [] a0 a1 ((Vector.replicate 16 0)) (qe.mk 0 0) (qa.ID a0) r3 [] 0)) fun z4=>
 .chk (z4.1.length=z4.1.length) <|
 .ret (qa.mk (qa.ID a0) r3 z4.1,true)
def Vh (N:Nat) (a0:qa) (a1:qa):Option (qa×Bool):=(qbh N a0 a1).run some
def qta (N:Nat):List (Nat×qy):=[(7,qeP N)]
def qhO (N:Nat):Ent:=smF ⟨137,[],[.x qh,.x qh],[],[]⟩ [qh,qh] (qa×Bool) (fun x=>Vh N x.1 x.2.1) cs1 fun _=>qs9
theorem qrR (N:Nat):q_ Tryz.prog (qhO N):=
 q8 (H:=qbl) (L:=qI (qta N)) (ts:=[qh,qh]) (T:=fun x=>qbh N x.1 x.2.1) 0 qP4 (qfW N) (qq (by kernel_rfl) ⟨qmm N,trivial⟩) (rg0 (by kernel_rfl)) fun x=>by kernel_rfl
noncomputable def quO:Code:=Tryz.f122.body.getD .skip
theorem qPF:FnF Tryz.prog 122 Tryz.f122 quO:=⟨qk,by kernel_rfl,by kernel_rfl,by kernel_rfl⟩
def qcw:TH:={ live:=[(0,[2,3,4]),(1,[2,3,4,5]),(2,[2,3,4,5,6]),(3,[2,3,4,5,6,7]),(4,[2,3,4,5,6,7,16]),(5,[2,3,4,5,6,7]),(6,[2,3,4,5,6,7,8]),(7,[2,3,4,5,6,7,32]),(8,[2,3,4,5,7]),(9,[2,3,4,5,6,7]),(10,[2,3,4,5,6,7,48]),(11,[2,3,4,5,7,9]),(12,[2,3,4,5,7]),(13,[2,3,4,5,6,7]),(14,[2,3,4,5,6,7]),(15,[3,4,5,77]),(16,[4,5]),(17,[4])],dec:=[29],nil:=[(0,[⟨.ob 40 [0],43,(.sl 19 qh)⟩]),(1,[⟨.ob 50 [0],53,(.sl 19 qh)⟩])] }
def qi6 (N:Nat):List Ent:=[qbp N,qi4,qhO N]
theorem qg_ (N:Nat):qO Tryz.prog (qi6 N):=⟨qg4 N,qtX,qrR N,trivial⟩
abbrev Xt:=List qa×qc×qa
abbrev QQ:=List qa×Bool×Int×Bool
def Jv (f:Xt) (y:QQ):Ex×TSt:=(.exit 0,⟨0,86,[],[(2,.p 20 [] 0),(3,.p 30 [] 0),(4,.p 40 [] 0),(5,.p 50 [] 0),(6,xb y.2.1),(7,xi y.2.2.1),(16,xb y.2.2.2)],[(20,.cell false (.tv qn f.2.1)),(30,.cell false (.tv qh f.2.2)),(40,.cell false (.ag [.v 43 f.1.length])),(43,.vec false 19 (.sl 19 qh) f.1),(50,.cell false (.ag [.v 53 y.1.length])),(53,.vec false 19 (.sl 19 qh) (y.1:List qa))],false,[]⟩)
def qpY (N:Nat):List (Nat×qy):=[]
abbrev JB:=List qa×Bool×Int
def qgA:SP:=⟨0,86,[],[(2,.k (.p 20 [] 0)),(3,.k (.p 30 [] 0)),(4,.k (.p 40 [] 0)),(5,.k (.p 50 [] 0)),(6,.x .b),(7,.x (.i .i64))],[(20,.cell false (.x qn)),(30,.cell false (.x qh)),(40,.cell false (.ag [.vs 43])),(43,.vec false 19),(50,.cell false (.ag [.vs 53])),(53,.vec false 19)],false,[]⟩
def qqE (f:Xt) (v:JB):TSt:=zw qgA [dv (.sl 19 qh) f.1,dv (.sl 19 qh) v.1,dv qn f.2.1,dv qh f.2.2,dv .b v.2.1,dv (.i .i64) v.2.2]
def vD (N:Nat) (o_4:List qa) (o_4_3:qc) (o_4_4:qa) (v:JB):Tree (JB⊕QQ):=
 .cond (decide (v.2.2 < (((qc.R o_4_3).length:Nat):Int))) (
 .bind (qP (qc.R o_4_3) v.2.2) fun e1=>
 .bind (X8 N (qa.ID o_4_4) (qa.ID e1)) fun r2=>
 .cond r2 (
 .cond (!v.2.1) (
 .bind (Q0 o_4_4) fun r3=>
 .chk (jx v.1.length v.1.length ((v.1++[o_4_4]).length) 56) <|
 .bind (qP (qc.R o_4_3) v.2.2) fun e4=>
 .cond (eqE (.ba 16) (qa.ID e4) (qa.ID o_4_4)) (
 .bind (qP (qc.R o_4_3) v.2.2) fun e5=>
 .bind (Vh N e5 o_4_4) fun r6=>
 .chk (jx ((v.1++[o_4_4]).length) ((v.1++[o_4_4]).length) (((v.1++[o_4_4])++[r6.1]).length) 56) <|
 .chk (qj (v.2.2 + 1)) <|
 .ret (.inl ((v.1++[o_4_4])++[r6.1],true,v.2.2 + 1))) <|
 .bind (qP (qc.R o_4_3) v.2.2) fun e5=>
 .bind (Q0 e5) fun r6=>
 .chk (jx ((v.1++[o_4_4]).length) ((v.1++[o_4_4]).length) (((v.1++[o_4_4])++[e5]).length) 56) <|
 .chk (qj (v.2.2 + 1)) <|
 .ret (.inl ((v.1++[o_4_4])++[e5],true,v.2.2 + 1))) <|
 .bind (qP (qc.R o_4_3) v.2.2) fun e3=>
 .cond (eqE (.ba 16) (qa.ID e3) (qa.ID o_4_4)) (
 .bind (qP (qc.R o_4_3) v.2.2) fun e4=>
 .bind (Vh N e4 o_4_4) fun r5=>
 .chk (jx v.1.length v.1.length ((v.1++[r5.1]).length) 56) <|
 .chk (qj (v.2.2 + 1)) <|
 .ret (.inl (v.1++[r5.1],true,v.2.2 + 1))) <|
 .bind (qP (qc.R o_4_3) v.2.2) fun e4=>
 .bind (Q0 e4) fun r5=>
 .chk (jx v.1.length v.1.length ((v.1++[e4]).length) 56) <|
 .chk (qj (v.2.2 + 1)) <|
 .ret (.inl (v.1++[e4],v.2.1,v.2.2 + 1))) <|
 .bind (qP (qc.R o_4_3) v.2.2) fun e3=>
 .cond (eqE (.ba 16) (qa.ID e3) (qa.ID o_4_4)) (
 .bind (qP (qc.R o_4_3) v.2.2) fun e4=>
 .bind (Vh N e4 o_4_4) fun r5=>
 .chk (jx v.1.length v.1.length ((v.1++[r5.1]).length) 56) <|
 .chk (qj (v.2.2 + 1)) <|
 .ret (.inl (v.1++[r5.1],true,v.2.2 + 1))) <|
 .bind (qP (qc.R o_4_3) v.2.2) fun e4=>
 .bind (Q0 e4) fun r5=>
 .chk (jx v.1.length v.1.length ((v.1++[e4]).length) 56) <|
 .chk (qj (v.2.2 + 1)) <|
 .ret (.inl (v.1++[e4],v.2.1,v.2.2 + 1))) <|
 .ret (.inr (v.1,v.2.1,v.2.2,decide (v.2.2 < (((qc.R o_4_3).length:Nat):Int))))
def qfR (N n:Nat) (f:Xt) (v:JB):Option QQ:=qQ (vD N f.1 f.2.1 f.2.2) some n v
theorem qpO (N:Nat) (f:Xt) (n:Nat) (v:JB) (y:QQ) (h:qfR N n f v=some y):LG Tryz.prog qcw 122 (qL quO 4) (qqE f v) (Jv f y):=
 zl qk (E:=qi6 N) (L:=qI (qpY N)) (st:=Jv f) (g:=some) (R:=Jv f) (qg_ N) (qq (by kernel_rfl) trivial) (rg0 (by kernel_rfl)) (fun v=>by kernel_rfl) (qU (st:=Jv f) fun y=>by rfl) (js0 rfl) n v y h
def qhS (N:Nat) (o_4:List qa) (o_4_3:qc) (o_4_4:qa) (o_4_2:List qa) (s6_4:Bool) (s7_4:Int):Option QQ:=qfR N N (o_4,o_4_3,o_4_4) (o_4_2,s6_4,s7_4)
def qgh (N:Nat):qy:=smL qgA [(.sl 19 qh),(.sl 19 qh),qn,qh,.b,(.i .i64)] QQ (fun x=>qhS N x.1 x.2.2.1 x.2.2.2.1 x.2.1 x.2.2.2.2.1 x.2.2.2.2.2.1) cs1 fun x=>Jv (x.1,x.2.2.1,x.2.2.2.1)
theorem qn4 (N:Nat):ji Tryz.prog qcw 122 (qL quO 4) (qgh N):=zu fun x z h=>qpO N (x.1,x.2.2.1,x.2.2.2.1) N (x.2.1,x.2.2.2.2.1,x.2.2.2.2.2.1) z h
def qun (z:qc):TV×THp:=(.tv qn z,[])
def qcm (N:Nat) (a0:qc) (a1:qa):Tree (qc):=
 .bind (ju [(([]:List qa).length,0),(([]:List qa).length,0)] (qhS N [] a0 a1 [] false 0)) fun z1=>
 .cond (!z1.2.1) (
 .bind (Q0 a1) fun r2=>
 .chk (jx z1.1.length z1.1.length ((z1.1++[a1]).length) 56) <|
 .chk ((z1.1++[a1]).length=(z1.1++[a1]).length) <|
 .ret (qc.mk (z1.1++[a1]))) <|
 .chk (z1.1.length=z1.1.length) <|
 .ret (qc.mk z1.1)
def vY (N:Nat) (a0:qc) (a1:qa):Option (qc):=(qcm N a0 a1).run some
def qwn (N:Nat):List (Nat×qy):=[(4,qgh N)]
def qjA (N:Nat):Ent:=smF ⟨122,[],[.x qn,.x qh],[],[]⟩ [qn,qh] (qc) (fun x=>vY N x.1 x.2.1) cs1 fun _=>qun
theorem qtt (N:Nat):q_ Tryz.prog (qjA N):=
 q8 (H:=qcw) (L:=qI (qwn N)) (ts:=[qn,qh]) (T:=fun x=>qcm N x.1 x.2.1) 0 qPF (qg_ N) (qq (by kernel_rfl) ⟨qn4 N,trivial⟩) (rg0 (by kernel_rfl)) fun x=>by kernel_rfl
noncomputable def K2:Code:=Tryz.f98.body.getD .skip
theorem qQ2:FnF Tryz.prog 98 Tryz.f98 K2:=⟨qk,by kernel_rfl,by kernel_rfl,by kernel_rfl⟩
def j_:TH:={ live:=[(0,[2,3,4]),(1,[2,3,4,6]),(2,[2,3,4,6,7]),(3,[2,3,4,20]),(4,[4,5]),(5,[2,3,4,8]),(6,[2,3,4,8,9]),(7,[2,3,4,8,9,27]),(8,[2,3,4,8,9]),(9,[2,3,4,8,9]),(10,[3,4,8,10]),(11,[3,4,8,10,41]),(12,[3,4,8,10]),(13,[3,4,8,10]),(14,[4,8,54]),(15,[4,5]),(16,[4,5])],dec:=[17],nil:=[(0,[⟨.ob 40 [0],43,(.sl 19 qh)⟩]),(4,[⟨.ob 40 [0],43,(.sl 19 qh)⟩]),(5,[⟨.ob 80 [0],83,(.sl 19 qh)⟩]),(15,[⟨.ob 40 [0],43,(.sl 19 qh)⟩])] }
def Zw (N:Nat):List Ent:=[Yj N,qjA N]
theorem QM (N:Nat):qO Tryz.prog (Zw N):=⟨qbx N,qtt N,trivial⟩
abbrev jw:=List qa×List qa×qc×qc
abbrev jc:=Unit⊕(qc×Int×Bool)
def jy (f:jw):jc→Ex×TSt
 | .inl y=>(.exit 0,⟨0,57,[],[(2,.p 20 [] 0),(3,.p 30 [] 0),(4,.p 40 [] 0),(8,.p 80 [] 0),(9,.ic .i64 0),(27,xb (decide (((0:Int)) < (((qc.R f.2.2.1).length:Nat):Int))))],[(20,.cell false (.tv qn f.2.2.1)),(30,.cell false (.tv qn f.2.2.2)),(40,.cell false (.ag [.v 43 f.1.length])),(43,.vec false 19 (.sl 19 qh) f.1),(80,.cell false (.ag [.v 83 f.2.1.length])),(83,.vec false 19 (.sl 19 qh) f.2.1)],false,[]⟩)
 | .inr y=>(.exit 0,⟨0,57,[],[(2,.p 20 [] 0),(3,.p 30 [] 0),(4,.p 40 [] 0),(8,.p 80 [] 0),(9,xi y.2.1),(27,xb y.2.2)],[(20,.cell false (.tv qn f.2.2.1)),(30,.cell false (.tv qn f.2.2.2)),(40,.cell false (.ag [.v 43 f.1.length])),(43,.vec false 19 (.sl 19 qh) f.1),(80,.cell false (.tv qn (y.1:qc)))],false,[]⟩)
def qe7 (N:Nat):List (Nat×qy):=[]
abbrev vq:=qc×Int
def qkO:SP:=⟨0,57,[],[(2,.k (.p 20 [] 0)),(3,.k (.p 30 [] 0)),(4,.k (.p 40 [] 0)),(8,.k (.p 80 [] 0)),(9,.x (.i .i64))],[(20,.cell false (.x qn)),(30,.cell false (.x qn)),(40,.cell false (.ag [.vs 43])),(43,.vec false 19),(80,.cell false (.x qn))],false,[]⟩
def qbV (f:jw) (v:vq):TSt:=zw qkO [dv (.sl 19 qh) f.1,dv qn f.2.2.1,dv qn f.2.2.2,dv qn v.1,dv (.i .i64) v.2]
def QH (N:Nat) (o_7:List qa) (o_7_2:List qa) (o_7_3:qc) (o_7_4:qc) (v:vq):Tree (vq⊕jc):=
 .cond (decide (v.2 < (((qc.R o_7_3).length:Nat):Int))) (
 .bind (qP (qc.R o_7_3) v.2) fun e1=>
 .bind (vY N v.1 e1) fun r2=>
 .chk (qj (v.2 + 1)) <|
 .ret (.inl (r2,v.2 + 1))) <|
 .ret (.inr (.inr ((v.1,v.2,decide (v.2 < (((qc.R o_7_3).length:Nat):Int))))))
def qbX (N n:Nat) (f:jw) (v:vq):Option jc:=qQ (QH N f.1 f.2.1 f.2.2.1 f.2.2.2) some n v
theorem qkT (N:Nat) (f:jw) (n:Nat) (v:vq) (y:jc) (h:qbX N n f v=some y):LG Tryz.prog j_ 98 (qL K2 7) (qbV f v) (jy f y):=
 zl qk (E:=Zw N) (L:=qI (qe7 N)) (st:=jy f) (g:=some) (R:=jy f) (QM N) (qq (by kernel_rfl) trivial) (rg0 (by kernel_rfl)) (fun v=>by kernel_rfl) (qU (st:=jy f) fun y=>by rcases y with _ | _<;>rfl) (js0 rfl) n v y h
abbrev ZG:=Unit
def qfa:SP:=⟨0,57,[],[(2,.k (.p 20 [] 0)),(3,.k (.p 30 [] 0)),(4,.k (.p 40 [] 0)),(8,.k (.p 80 [] 0)),(9,.k (.ic .i64 0))],[(20,.cell false (.x qn)),(30,.cell false (.x qn)),(40,.cell false (.ag [.vs 43])),(43,.vec false 19),(80,.cell false (.ag [.vs 83])),(83,.vec false 19)],false,[]⟩
def qoD (f:jw) (v:ZG):TSt:=zw qfa [dv (.sl 19 qh) f.1,dv (.sl 19 qh) f.2.1,dv qn f.2.2.1,dv qn f.2.2.2]
abbrev YJ:=vq⊕jc
def Xk (N:Nat) (o_7:List qa) (o_7_2:List qa) (o_7_3:qc) (o_7_4:qc) (v:ZG):Tree (ZG⊕YJ):=
 .cond (decide (((0:Int)) < (((qc.R o_7_3).length:Nat):Int))) (
 .bind (qP (qc.R o_7_3) 0) fun e1=>
 .chk (o_7_2.length=o_7_2.length) <|
 .bind (vY N (qc.mk o_7_2) e1) fun r2=>
 .ret (.inr (.inl (r2,1)))) <|
 .ret (.inr (.inr ((.inl ()))))
def YQ (N n:Nat) (f:jw):YJ→Option jc
 | .inl w=>qbX N n f w
 | .inr w=>some w
def qpc (f:jw):YJ→Ex×TSt
 | .inl w=>(.normal,qbV f w)
 | .inr w=>jy f w
def qeG (N n:Nat) (f:jw) (v:ZG):Option jc:=qQ (Xk N f.1 f.2.1 f.2.2.1 f.2.2.2) (YQ N n f) n v
theorem qnz (N:Nat) (f:jw) (n:Nat) (v:ZG) (y:jc) (h:qeG N n f v=some y):LG Tryz.prog j_ 98 (qL K2 7) (qoD f v) (jy f y):=
 zl qk (E:=Zw N) (L:=qI (qe7 N)) (st:=qpc f) (g:=(YQ N n f)) (R:=jy f) (QM N) (qq (by kernel_rfl) trivial) (rg0 (by kernel_rfl)) (fun v=>by kernel_rfl) (fun w y h=>by
 rcases w with w | w
 ·exact qkT N f n w y h
 ·exact qU (st:=jy f) (fun y=>by rcases y with _ | _<;>rfl) w y h
) (js0 rfl) n v y h
def Wi (N:Nat) (o_7:List qa) (o_7_2:List qa) (o_7_3:qc) (o_7_4:qc):Option jc:=qeG N N (o_7,o_7_2,o_7_3,o_7_4) ()
def qeU (N:Nat):qy:=smL qfa [(.sl 19 qh),(.sl 19 qh),qn,qn] jc (fun x=>Wi N x.1 x.2.1 x.2.2.1 x.2.2.2.1) (csS cs1) fun x=>jy (x.1,x.2.1,x.2.2.1,x.2.2.2.1)
theorem qmj (N:Nat):ji Tryz.prog j_ 98 (qL K2 7) (qeU N):=zu fun x z h=>qnz N (x.1,x.2.1,x.2.2.1,x.2.2.2.1) N () z h
abbrev jk:=List qa×List qa×qc
abbrev zW:=Unit⊕(qc×Int×Bool)
def jl (f:jk):zW→Ex×TSt
 | .inl y=>(.exit 2,⟨0,57,[],[(3,.p 30 [] 0),(4,.p 40 [] 0),(8,.p 80 [] 0),(10,.ic .i64 0),(41,xb (decide (((0:Int)) < (((qc.R f.2.2).length:Nat):Int))))],[(30,.cell false (.tv qn f.2.2)),(40,.cell false (.ag [.v 43 f.1.length])),(43,.vec false 19 (.sl 19 qh) f.1),(80,.cell false (.ag [.v 83 f.2.1.length])),(83,.vec false 19 (.sl 19 qh) f.2.1)],false,[]⟩)
 | .inr y=>(.exit 2,⟨0,57,[],[(3,.p 30 [] 0),(4,.p 40 [] 0),(8,.p 80 [] 0),(10,xi y.2.1),(41,xb y.2.2)],[(30,.cell false (.tv qn f.2.2)),(40,.cell false (.ag [.v 43 f.1.length])),(43,.vec false 19 (.sl 19 qh) f.1),(80,.cell false (.tv qn (y.1:qc)))],false,[]⟩)
def qdQ (N:Nat):List (Nat×qy):=[]
abbrev vi:=qc×Int
def qjM:SP:=⟨0,57,[],[(3,.k (.p 30 [] 0)),(4,.k (.p 40 [] 0)),(8,.k (.p 80 [] 0)),(10,.x (.i .i64))],[(30,.cell false (.x qn)),(40,.cell false (.ag [.vs 43])),(43,.vec false 19),(80,.cell false (.x qn))],false,[]⟩
def qaZ (f:jk) (v:vi):TSt:=zw qjM [dv (.sl 19 qh) f.1,dv qn f.2.2,dv qn v.1,dv (.i .i64) v.2]
def v_ (N:Nat) (o_11:List qa) (o_11_2:List qa) (o_11_3:qc) (v:vi):Tree (vi⊕zW):=
 .cond (decide (v.2 < (((qc.R o_11_3).length:Nat):Int))) (
 .bind (qP (qc.R o_11_3) v.2) fun e1=>
 .bind (vY N v.1 e1) fun r2=>
 .chk (qj (v.2 + 1)) <|
 .ret (.inl (r2,v.2 + 1))) <|
 .ret (.inr (.inr ((v.1,v.2,decide (v.2 < (((qc.R o_11_3).length:Nat):Int))))))
def qaW (N n:Nat) (f:jk) (v:vi):Option zW:=qQ (v_ N f.1 f.2.1 f.2.2) some n v
theorem qjK (N:Nat) (f:jk) (n:Nat) (v:vi) (y:zW) (h:qaW N n f v=some y):LG Tryz.prog j_ 98 (qL K2 11) (qaZ f v) (jl f y):=
 zl qk (E:=Zw N) (L:=qI (qdQ N)) (st:=jl f) (g:=some) (R:=jl f) (QM N) (qq (by kernel_rfl) trivial) (rg0 (by kernel_rfl)) (fun v=>by kernel_rfl) (qU (st:=jl f) fun y=>by rcases y with _ | _<;>rfl) (js0 rfl) n v y h
abbrev Zh:=Unit
def qdT:SP:=⟨0,57,[],[(3,.k (.p 30 [] 0)),(4,.k (.p 40 [] 0)),(8,.k (.p 80 [] 0)),(10,.k (.ic .i64 0))],[(30,.cell false (.x qn)),(40,.cell false (.ag [.vs 43])),(43,.vec false 19),(80,.cell false (.ag [.vs 83])),(83,.vec false 19)],false,[]⟩
def qmg (f:jk) (v:Zh):TSt:=zw qdT [dv (.sl 19 qh) f.1,dv (.sl 19 qh) f.2.1,dv qn f.2.2]
abbrev W0:=vi⊕zW
def Vu (N:Nat) (o_11:List qa) (o_11_2:List qa) (o_11_3:qc) (v:Zh):Tree (Zh⊕W0):=
 .cond (decide (((0:Int)) < (((qc.R o_11_3).length:Nat):Int))) (
 .bind (qP (qc.R o_11_3) 0) fun e1=>
 .chk (o_11_2.length=o_11_2.length) <|
 .bind (vY N (qc.mk o_11_2) e1) fun r2=>
 .ret (.inr (.inl (r2,1)))) <|
 .ret (.inr (.inr ((.inl ()))))
def W3 (N n:Nat) (f:jk):W0→Option zW
 | .inl w=>qaW N n f w
 | .inr w=>some w
def qmo (f:jk):W0→Ex×TSt
 | .inl w=>(.normal,qaZ f w)
 | .inr w=>jl f w
def qd5 (N n:Nat) (f:jk) (v:Zh):Option zW:=qQ (Vu N f.1 f.2.1 f.2.2) (W3 N n f) n v
theorem qmB (N:Nat) (f:jk) (n:Nat) (v:Zh) (y:zW) (h:qd5 N n f v=some y):LG Tryz.prog j_ 98 (qL K2 11) (qmg f v) (jl f y):=
 zl qk (E:=Zw N) (L:=qI (qdQ N)) (st:=qmo f) (g:=(W3 N n f)) (R:=jl f) (QM N) (qq (by kernel_rfl) trivial) (rg0 (by kernel_rfl)) (fun v=>by kernel_rfl) (fun w y h=>by
 rcases w with w | w
 ·exact qjK N f n w y h
 ·exact qU (st:=jl f) (fun y=>by rcases y with _ | _<;>rfl) w y h
) (js0 rfl) n v y h
def XA (N:Nat) (o_11:List qa) (o_11_2:List qa) (o_11_3:qc):Option zW:=qd5 N N (o_11,o_11_2,o_11_3) ()
def qd8 (N:Nat):qy:=smL qdT [(.sl 19 qh),(.sl 19 qh),qn] zW (fun x=>XA N x.1 x.2.1 x.2.2.1) (csS cs1) fun x=>jl (x.1,x.2.1,x.2.2.1)
theorem qlw (N:Nat):ji Tryz.prog j_ 98 (qL K2 11) (qd8 N):=zu fun x z h=>qmB N (x.1,x.2.1,x.2.2.1) N () z h
abbrev JN:=List qa×qc
abbrev vr:=qc×Int×Bool
def QC (f:JN) (y:vr):Ex×TSt:=(.exit 2,⟨0,57,[],[(3,.p 30 [] 0),(4,.p 40 [] 0),(8,.p 80 [] 0),(10,xi y.2.1),(41,xb y.2.2)],[(30,.cell false (.tv qn f.2)),(40,.cell false (.ag [.v 43 f.1.length])),(43,.vec false 19 (.sl 19 qh) f.1),(80,.cell false (.tv qn (y.1:qc)))],false,[]⟩)
def qkC (N:Nat):List (Nat×qy):=[]
abbrev QI:=qc×Int
def qb7:SP:=⟨0,57,[],[(3,.k (.p 30 [] 0)),(4,.k (.p 40 [] 0)),(8,.k (.p 80 [] 0)),(10,.x (.i .i64))],[(30,.cell false (.x qn)),(40,.cell false (.ag [.vs 43])),(43,.vec false 19),(80,.cell false (.x qn))],false,[]⟩
def qkS (f:JN) (v:QI):TSt:=zw qb7 [dv (.sl 19 qh) f.1,dv qn f.2,dv qn v.1,dv (.i .i64) v.2]
def JS (N:Nat) (o_11:List qa) (o_11_2:qc) (v:QI):Tree (QI⊕vr):=
 .cond (decide (v.2 < (((qc.R o_11_2).length:Nat):Int))) (
 .bind (qP (qc.R o_11_2) v.2) fun e1=>
 .bind (vY N v.1 e1) fun r2=>
 .chk (qj (v.2 + 1)) <|
 .ret (.inl (r2,v.2 + 1))) <|
 .ret (.inr (v.1,v.2,decide (v.2 < (((qc.R o_11_2).length:Nat):Int))))
def qb0 (N n:Nat) (f:JN) (v:QI):Option vr:=qQ (JS N f.1 f.2) some n v
theorem qkU (N:Nat) (f:JN) (n:Nat) (v:QI) (y:vr) (h:qb0 N n f v=some y):LG Tryz.prog j_ 98 (qL K2 11) (qkS f v) (QC f y):=
 zl qk (E:=Zw N) (L:=qI (qkC N)) (st:=QC f) (g:=some) (R:=QC f) (QM N) (qq (by kernel_rfl) trivial) (rg0 (by kernel_rfl)) (fun v=>by kernel_rfl) (qU (st:=QC f) fun y=>by rfl) (js0 rfl) n v y h
def WY (N:Nat) (o_11:List qa) (o_11_2:qc) (o_11_3:qc) (s10_11:Int):Option vr:=qb0 N N (o_11,o_11_2) (o_11_3,s10_11)
def qbT (N:Nat):qy:=smL qb7 [(.sl 19 qh),qn,qn,(.i .i64)] vr (fun x=>WY N x.1 x.2.1 x.2.2.1 x.2.2.2.1) cs1 fun x=>QC (x.1,x.2.1)
theorem qjV (N:Nat):ji Tryz.prog j_ 98 (qL K2 11) (qbT N):=zu fun x z h=>qkU N (x.1,x.2.1) N (x.2.2.1,x.2.2.2.1) z h
def qtK (z:qc×Int):TV×THp:=(.tup [.tv qn (z.1:qc),xi z.2],[])
def WT (N:Nat) (a0:qc) (a1:qc):Tree (qc×Int):=
 .bind (Jh N a0) fun r1=>
 .bind (Jh N a1) fun r2=>
 .cond (!r1) (
 .chk (0=0) <|
 .ret (qc.mk [],1)) <|
 .cond (!r2) (
 .chk (0=0) <|
 .ret (qc.mk [],1)) <|
 .bind (ju [(([]:List qa).length,0),(([]:List qa).length,0)] (Wi N [] [] a0 a1)) fun z3=>
 .sum z3 (fun z4=>
 .bind (ju [(([]:List qa).length,0),(([]:List qa).length,0)] (XA N [] [] a1)) fun z5=>
 .sum z5 (fun z6=>
 .cond (decide (10 < (((0:Nat):Int)))) (
 .chk (0=0) <|
 .ret (qc.mk [],4)) <|
 .chk (0=0) <|
 .ret (qc.mk [],0)) fun z6=>
 .cond (decide (((10:Int)) < (((qc.R z6.1).length:Nat):Int))) (
 .chk (0=0) <|
 .ret (qc.mk [],4)) <|
 .ret (z6.1,0)) fun z4=>
 .bind (ju [(([]:List qa).length,0)] (WY N [] a1 z4.1 0)) fun z5=>
 .cond (decide (((10:Int)) < (((qc.R z5.1).length:Nat):Int))) (
 .chk (0=0) <|
 .ret (qc.mk [],4)) <|
 .ret (z5.1,0)
def zr (N:Nat) (a0:qc) (a1:qc):Option (qc×Int):=(WT N a0 a1).run some
def qtc (N:Nat):List (Nat×qy):=[(7,qeU N),(11,qd8 N),(11,qbT N)]
def qia (N:Nat):Ent:=smF ⟨98,[],[.x qn,.x qn],[],[]⟩ [qn,qn] (qc×Int) (fun x=>zr N x.1 x.2.1) cs1 fun _=>qtK
theorem qq6 (N:Nat):q_ Tryz.prog (qia N):=
 q8 (H:=j_) (L:=qI (qtc N)) (ts:=[qn,qn]) (T:=fun x=>WT N x.1 x.2.1) 0 qQ2 (QM N) (qq (by kernel_rfl) ⟨qmj N,qlw N,qjV N,trivial⟩) (rg0 (by kernel_rfl)) fun x=>by kernel_rfl
noncomputable def qRn:Code:=Tryz.f70.body.getD .skip
theorem qST:FnF Tryz.prog 70 Tryz.f70 qRn:=⟨qk,by kernel_rfl,by kernel_rfl,by kernel_rfl⟩
def qwa:TH:={ live:=[(0,[2,3,4]),(1,[2,3,4,6]),(2,[2,3,4,6,7]),(3,[2,3,4,6,7,8]),(4,[2,3,4,6,7,8,9]),(5,[2,3,4,6,7,8,9,10]),(6,[2,3,4,8,10,53]),(7,[4,5]),(8,[3,4,8,10,11]),(9,[3,4,8,10,11,12]),(10,[3,4,8,11,12,57]),(11,[3,4,8,11,12]),(12,[4,8,11,12,77]),(13,[4,11,12]),(14,[4,11,12,87]),(15,[4,5]),(16,[4,5])],dec:=[31,35,37,44,49,72],nil:=[(0,[⟨.ob 40 [0],43,(.sl 19 qh)⟩]),(7,[⟨.ob 40 [0],43,(.sl 19 qh)⟩]),(15,[⟨.ob 40 [0],43,(.sl 19 qh)⟩])] }
def qwu (N:Nat):List Ent:=[Yj N,Xl,Yx N,qia N]
theorem qr4 (N:Nat):qO Tryz.prog (qwu N):=⟨qbx N,WW,qbu N,qq6 N,trivial⟩
def qwb (z:qc×Int):TV×THp:=(.tup [.tv qn (z.1:qc),xi z.2],[])
def qcP (N:Nat) (a0:qc) (a1:qa):Tree (qc×Int):=
 .bind (Jh N a0) fun r1=>
 .bind (Jg (qa.qW a1)) fun r2=>
 .bind (Je N (qa.mk (qa.ID a1) (qe.mk 0 0) (qa.F a1))) fun r3=>
 .cond (!r1) (
 .chk (0=0) <|
 .ret (qc.mk [],1)) <|
 .cond (!r2) (
 .chk (0=0) <|
 .ret (qc.mk [],1)) <|
 .cond (eqE qm (qa.qW a1) (qe.mk 0 0)) (
 .cond (decide ((((qa.F a1).length:Nat):Int)=((0:Int)))) (
 .chk (0=0) <|
 .ret (qc.mk [],1)) <|
 .cond (decide (((0:Int)) < (((qa.F a1).length:Nat):Int))) (
 .cond (!r3) (
 .chk (0=0) <|
 .ret (qc.mk [],1)) <|
 .cond (!(eqE qm (qa.qW a1) (qe.mk 0 0))) (
 .bind (zr N a0 (qc.mk [qa.mk (qa.ID a1) (qa.qW a1) []])) fun r4=>
 .cond (decide (r4.2=0)) (
 .cond (decide (((0:Int)) < (((qa.F a1).length:Nat):Int))) (
 .bind (zr N r4.1 (qc.mk [qa.mk (qa.ID a1) (qe.mk 0 0) (qa.F a1)])) fun r5=>
 .cond (!decide (r5.2=0)) (
 .chk (0=0) <|
 .ret (qc.mk [],r5.2)) <|
 .ret (r5.1,0)) <|
 .cond (!decide (r4.2=0)) (
 .chk (0=0) <|
 .ret (qc.mk [],r4.2)) <|
 .ret (r4.1,0)) <|
 .cond (!decide (r4.2=0)) (
 .chk (0=0) <|
 .ret (qc.mk [],r4.2)) <|
 .ret (r4.1,0)) <|
 .cond (decide (((0:Int)) < (((qa.F a1).length:Nat):Int))) (
 .bind (zr N a0 (qc.mk [qa.mk (qa.ID a1) (qe.mk 0 0) (qa.F a1)])) fun r4=>
 .cond (!decide (r4.2=0)) (
 .chk (0=0) <|
 .ret (qc.mk [],r4.2)) <|
 .ret (r4.1,0)) <|
 .ret (a0,0)) <|
 .cond (!(eqE qm (qa.qW a1) (qe.mk 0 0))) (
 .bind (zr N a0 (qc.mk [qa.mk (qa.ID a1) (qa.qW a1) []])) fun r4=>
 .cond (decide (r4.2=0)) (
 .cond (decide (((0:Int)) < (((qa.F a1).length:Nat):Int))) (
 .bind (zr N r4.1 (qc.mk [qa.mk (qa.ID a1) (qe.mk 0 0) (qa.F a1)])) fun r5=>
 .cond (!decide (r5.2=0)) (
 .chk (0=0) <|
 .ret (qc.mk [],r5.2)) <|
 .ret (r5.1,0)) <|
 .cond (!decide (r4.2=0)) (
 .chk (0=0) <|
 .ret (qc.mk [],r4.2)) <|
 .ret (r4.1,0)) <|
 .cond (!decide (r4.2=0)) (
 .chk (0=0) <|
 .ret (qc.mk [],r4.2)) <|
 .ret (r4.1,0)) <|
 .cond (decide (((0:Int)) < (((qa.F a1).length:Nat):Int))) (
 .bind (zr N a0 (qc.mk [qa.mk (qa.ID a1) (qe.mk 0 0) (qa.F a1)])) fun r4=>
 .cond (!decide (r4.2=0)) (
 .chk (0=0) <|
 .ret (qc.mk [],r4.2)) <|
 .ret (r4.1,0)) <|
 .ret (a0,0)) <|
 .cond (decide (((0:Int)) < (((qa.F a1).length:Nat):Int))) (
 .cond (!r3) (
 .chk (0=0) <|
 .ret (qc.mk [],1)) <|
 .cond (!(eqE qm (qa.qW a1) (qe.mk 0 0))) (
 .bind (zr N a0 (qc.mk [qa.mk (qa.ID a1) (qa.qW a1) []])) fun r4=>
 .cond (decide (r4.2=0)) (
 .cond (decide (((0:Int)) < (((qa.F a1).length:Nat):Int))) (
 .bind (zr N r4.1 (qc.mk [qa.mk (qa.ID a1) (qe.mk 0 0) (qa.F a1)])) fun r5=>
 .cond (!decide (r5.2=0)) (
 .chk (0=0) <|
 .ret (qc.mk [],r5.2)) <|
 .ret (r5.1,0)) <|
 .cond (!decide (r4.2=0)) (
 .chk (0=0) <|
 .ret (qc.mk [],r4.2)) <|
 .ret (r4.1,0)) <|
 .cond (!decide (r4.2=0)) (
 .chk (0=0) <|
 .ret (qc.mk [],r4.2)) <|
 .ret (r4.1,0)) <|
 .cond (decide (((0:Int)) < (((qa.F a1).length:Nat):Int))) (
 .bind (zr N a0 (qc.mk [qa.mk (qa.ID a1) (qe.mk 0 0) (qa.F a1)])) fun r4=>
 .cond (!decide (r4.2=0)) (
 .chk (0=0) <|
 .ret (qc.mk [],r4.2)) <|
 .ret (r4.1,0)) <|
 .ret (a0,0)) <|
 .cond (!(eqE qm (qa.qW a1) (qe.mk 0 0))) (
 .bind (zr N a0 (qc.mk [qa.mk (qa.ID a1) (qa.qW a1) []])) fun r4=>
 .cond (decide (r4.2=0)) (
 .cond (decide (((0:Int)) < (((qa.F a1).length:Nat):Int))) (
 .bind (zr N r4.1 (qc.mk [qa.mk (qa.ID a1) (qe.mk 0 0) (qa.F a1)])) fun r5=>
 .cond (!decide (r5.2=0)) (
 .chk (0=0) <|
 .ret (qc.mk [],r5.2)) <|
 .ret (r5.1,0)) <|
 .cond (!decide (r4.2=0)) (
 .chk (0=0) <|
 .ret (qc.mk [],r4.2)) <|
 .ret (r4.1,0)) <|
 .cond (!decide (r4.2=0)) (
 .chk (0=0) <|
 .ret (qc.mk [],r4.2)) <|
 .ret (r4.1,0)) <|
 .cond (decide (((0:Int)) < (((qa.F a1).length:Nat):Int))) (
 .bind (zr N a0 (qc.mk [qa.mk (qa.ID a1) (qe.mk 0 0) (qa.F a1)])) fun r4=>
 .cond (!decide (r4.2=0)) (
 .chk (0=0) <|
 .ret (qc.mk [],r4.2)) <|
 .ret (r4.1,0)) <|
 .ret (a0,0)
def WK (N:Nat) (a0:qc) (a1:qa):Option (qc×Int):=(qcP N a0 a1).run some
def qvd (N:Nat):List (Nat×qy):=[]
def qjc (N:Nat):Ent:=smF ⟨70,[],[.x qn,.x qh],[],[]⟩ [qn,qh] (qc×Int) (fun x=>WK N x.1 x.2.1) cs1 fun _=>qwb
theorem qtS (N:Nat):q_ Tryz.prog (qjc N):=
 q8 (H:=qwa) (L:=qI (qvd N)) (ts:=[qn,qh]) (T:=fun x=>qcP N x.1 x.2.1) 0 qST (qr4 N) (qq (by kernel_rfl) trivial) (rg0 (by kernel_rfl)) fun x=>by kernel_rfl
noncomputable def qAv:Code:=Tryz.f99.body.getD .skip
theorem qSQ:FnF Tryz.prog 99 Tryz.f99 qAv:=⟨qk,by kernel_rfl,by kernel_rfl,by kernel_rfl⟩
def qbz:TH:={ live:=[(0,[2,3,4]),(1,[2,3,4,6]),(2,[2,3,4,6,11]),(3,[2,3,4,6]),(4,[2,3,4,6,21]),(5,[4,5]),(6,[4,5])],nil:=[(0,[⟨.ob 40 [2],45,(.sl 4 qA)⟩]),(6,[⟨.ob 40 [2],45,(.sl 4 qA)⟩])] }
def qh1 (N:Nat):List Ent:=[]
theorem qgu (N:Nat):qO Tryz.prog (qh1 N):=trivial
abbrev VO:=List qg×qc×Vector UInt8 16×Vector UInt8 16×qe
abbrev Qb:=qa⊕(Int×Bool)
def Z5 (f:VO):Qb→Ex×TSt
 | .inl y=>(.ret,⟨0,28,[],[(4,.p 40 [] 0),(5,.bc true)],[(40,.cell false (.tv qh y))],false,[]⟩)
 | .inr y=>(.exit 0,⟨0,28,[],[(2,.p 20 [] 0),(3,.p 30 [] 0),(4,.p 40 [] 0),(6,xi y.1),(11,xb y.2)],[(20,.cell false (.tv qn f.2.1)),(30,.cell false (.tv (.ba 16) f.2.2.1)),(40,.cell false (.ag [.tv (.ba 16) f.2.2.2.1,.tv qm f.2.2.2.2,.v 45 f.1.length])),(45,.vec false 4 (.sl 4 qA) f.1)],false,[]⟩)
def qok (N:Nat):List (Nat×qy):=[]
abbrev ZS:=Int
def qeC:SP:=⟨0,28,[],[(2,.k (.p 20 [] 0)),(3,.k (.p 30 [] 0)),(4,.k (.p 40 [] 0)),(6,.x (.i .i64))],[(20,.cell false (.x qn)),(30,.cell false (.x (.ba 16))),(40,.cell false (.ag [.x (.ba 16),.x qm,.vs 45])),(45,.vec false 4)],false,[]⟩
def qoR (f:VO) (v:ZS):TSt:=zw qeC [dv (.sl 4 qA) f.1,dv qn f.2.1,dv (.ba 16) f.2.2.1,dv (.ba 16) f.2.2.2.1,dv qm f.2.2.2.2,dv (.i .i64) v]
def ZI (N:Nat) (o_2:List qg) (o_2_2:qc) (o_2_3:Vector UInt8 16) (o_2_4:Vector UInt8 16) (o_2_5:qe) (v:ZS):Tree (ZS⊕Qb):=
 .cond (decide (v < (((qc.R o_2_2).length:Nat):Int))) (
 .bind (qP (qc.R o_2_2) v) fun e1=>
 .cond (eqE (.ba 16) (qa.ID e1) o_2_3) (
 .bind (qP (qc.R o_2_2) v) fun e2=>
 .ret (.inr (.inl e2))) <|
 .chk (qj (v + 1)) <|
 .ret (.inl (v + 1))) <|
 .ret (.inr (.inr ((v,decide (v < (((qc.R o_2_2).length:Nat):Int))))))
def qeK (N n:Nat) (f:VO) (v:ZS):Option Qb:=qQ (ZI N f.1 f.2.1 f.2.2.1 f.2.2.2.1 f.2.2.2.2) some n v
theorem qnC (N:Nat) (f:VO) (n:Nat) (v:ZS) (y:Qb) (h:qeK N n f v=some y):LG Tryz.prog qbz 99 (qL qAv 2) (qoR f v) (Z5 f y):=
 zl qk (E:=qh1 N) (L:=qI (qok N)) (st:=Z5 f) (g:=some) (R:=Z5 f) (qgu N) (qq (by kernel_rfl) trivial) (rg0 (by kernel_rfl)) (fun v=>by kernel_rfl) (qU (st:=Z5 f) fun y=>by rcases y with _ | _<;>rfl) (js0 rfl) n v y h
def qay (N:Nat) (o_2:List qg) (o_2_2:qc) (o_2_3:Vector UInt8 16) (o_2_4:Vector UInt8 16) (o_2_5:qe) (s6_2:Int):Option Qb:=qeK N N (o_2,o_2_2,o_2_3,o_2_4,o_2_5) s6_2
def qek (N:Nat):qy:=smL qeC [(.sl 4 qA),qn,(.ba 16),(.ba 16),qm,(.i .i64)] Qb (fun x=>qay N x.1 x.2.1 x.2.2.1 x.2.2.2.1 x.2.2.2.2.1 x.2.2.2.2.2.1) (csS cs1) fun x=>Z5 (x.1,x.2.1,x.2.2.1,x.2.2.2.1,x.2.2.2.2.1)
theorem qmC (N:Nat):ji Tryz.prog qbz 99 (qL qAv 2) (qek N):=zu fun x z h=>qnC N (x.1,x.2.1,x.2.2.1,x.2.2.2.1,x.2.2.2.2.1) N x.2.2.2.2.2.1 z h
def qtk (z:qa×Bool):TV×THp:=(.tup [.tv qh (z.1:qa),xb z.2],[])
def qbP (N:Nat) (a0:qc) (a1:Vector UInt8 16):Tree (qa×Bool):=
 .bind (ju [(([]:List qg).length,0)] (qay N [] a0 a1 ((Vector.replicate 16 0)) (qe.mk 0 0) 0)) fun z1=>
 .sum z1 (fun z2=>
 .ret (z2,true)) fun z2=>
 .chk (0=0) <|
 .ret (qa.mk ((Vector.replicate 16 0)) (qe.mk 0 0) [],false)
def X3 (N:Nat) (a0:qc) (a1:Vector UInt8 16):Option (qa×Bool):=(qbP N a0 a1).run some
def qtN (N:Nat):List (Nat×qy):=[(2,qek N)]
def qhV (N:Nat):Ent:=smF ⟨99,[],[.x qn,.x (.ba 16)],[],[]⟩ [qn,(.ba 16)] (qa×Bool) (fun x=>X3 N x.1 x.2.1) cs1 fun _=>qtk
theorem qrT (N:Nat):q_ Tryz.prog (qhV N):=
 q8 (H:=qbz) (L:=qI (qtN N)) (ts:=[qn,(.ba 16)]) (T:=fun x=>qbP N x.1 x.2.1) 0 qSQ (qgu N) (qq (by kernel_rfl) ⟨qmC N,trivial⟩) (rg0 (by kernel_rfl)) fun x=>by kernel_rfl
noncomputable def quw:Code:=Tryz.f101.body.getD .skip
theorem qO6:FnF Tryz.prog 101 Tryz.f101 quw:=⟨qk,by kernel_rfl,by kernel_rfl,by kernel_rfl⟩
def KT:TH:={ live:=[(0,[0,1]),(1,[0,1,6]),(2,[0,1,13]),(3,[4,5]),(4,[0,1,7]),(5,[0,1,7,8]),(6,[0,1,7,8,17]),(7,[0,1,7,8]),(8,[0,1,7,8,9]),(9,[0,1,7,8,9,25]),(10,[0,1,7,8,9,33]),(11,[4,5]),(12,[0,1,7,8]),(13,[0,1,7,8]),(14,[4,5])] }
def qhs (N:Nat):List Ent:=[qck N]
theorem qfg (N:Nat):qO Tryz.prog (qhs N):=⟨qhR N,trivial⟩
abbrev Vp:=List UInt8×List qb
abbrev vP:=Unit⊕(List UInt8×Int×Bool)
def Zf (f:Vp):vP→Ex×TSt
 | .inl y=>(.ret,⟨0,50,[],[(4,.tv .s ([]:List UInt8)),(5,.bc false)],[],false,[]⟩)
 | .inr y=>(.exit 0,⟨0,50,[],[(0,.tv .s f.1),(1,.tv (.sl 4 qw) f.2),(7,.tv .s (y.1:List UInt8)),(8,xi y.2.1),(17,xb y.2.2)],[],false,[]⟩)
def qmA (N:Nat):List (Nat×qy):=[]
abbrev Ze:=List UInt8×Int
def qdX:SP:=⟨0,50,[],[(0,.x .s),(1,.x (.sl 4 qw)),(7,.x .s),(8,.x (.i .i64))],[],false,[]⟩
def qml (f:Vp) (v:Ze):TSt:=zw qdX [dv .s f.1,dv (.sl 4 qw) f.2,dv .s v.1,dv (.i .i64) v.2]
def zQ (N:Nat) (s0_6:List UInt8) (s1_6:List qb) (v:Ze):Tree (Ze⊕vP):=
 .cond (decide (v.2 < ((s1_6.length:Nat):Int))) (
 .bind (qP s1_6 v.2) fun e1=>
 .cond (qb.zV e1) (
 .chk (qj ((qb.zm e1) + (qb.Len e1))) <|
 .cond (decide (((s0_6.length:Nat):Int) < ((qb.zm e1) + (qb.Len e1)))) (
 .ret (.inr (.inl ()))) <|
 .chk (qj ((qb.zm e1) + (qb.Len e1))) <|
 .chk (0≤(qb.zm e1)∧(qb.zm e1)≤((qb.zm e1) + (qb.Len e1))∧((qb.zm e1) + (qb.Len e1))≤((s0_6.length:Nat):Int)) <|
 .chk (qku (v.1.length + ((s0_6.take (((qb.zm e1) + (qb.Len e1)).toNat)).drop ((qb.zm e1).toNat)).length)) <|
 .chk (qj (v.2 + 1)) <|
 .ret (.inl (v.1++((s0_6.take (((qb.zm e1) + (qb.Len e1)).toNat)).drop ((qb.zm e1).toNat)),v.2 + 1))) <|
 .chk (qku (v.1.length + (qb.Lit e1).length)) <|
 .chk (qj (v.2 + 1)) <|
 .ret (.inl (v.1++(qb.Lit e1),v.2 + 1))) <|
 .ret (.inr (.inr ((v.1,v.2,decide (v.2 < ((s1_6.length:Nat):Int))))))
def qdO (N n:Nat) (f:Vp) (v:Ze):Option vP:=qQ (zQ N f.1 f.2) some n v
theorem qmu (N:Nat) (f:Vp) (n:Nat) (v:Ze) (y:vP) (h:qdO N n f v=some y):LG Tryz.prog KT 101 (qL quw 6) (qml f v) (Zf f y):=
 zl qk (E:=qhs N) (L:=qI (qmA N)) (st:=Zf f) (g:=some) (R:=Zf f) (qfg N) (qq (by kernel_rfl) trivial) (rg0 (by kernel_rfl)) (fun v=>by kernel_rfl) (qU (st:=Zf f) fun y=>by rcases y with _ | _<;>rfl) (js0 rfl) n v y h
def Kh (N:Nat) (s0_6:List UInt8) (s1_6:List qb) (s7_6:List UInt8) (s8_6:Int):Option vP:=qdO N N (s0_6,s1_6) (s7_6,s8_6)
def qdV (N:Nat):qy:=smL qdX [.s,(.sl 4 qw),.s,(.i .i64)] vP (fun x=>Kh N x.1 x.2.1 x.2.2.1 x.2.2.2.1) (csS cs1) fun x=>Zf (x.1,x.2.1)
theorem qlW (N:Nat):ji Tryz.prog KT 101 (qL quw 6) (qdV N):=zu fun x z h=>qmu N (x.1,x.2.1) N (x.2.2.1,x.2.2.2.1) z h
def qrM (z:List UInt8×Bool):TV×THp:=(.tup [.tv .s (z.1:List UInt8),xb z.2],[])
def qav (N:Nat) (a0:List UInt8) (a1:List qb):Tree (List UInt8×Bool):=
 .bind (WH N a1) fun r1=>
 .cond (!r1) (
 .ret ([],false)) <|
 .bind (Kh N a0 a1 [] 0) fun z2=>
 .sum z2 (fun z3=>
 .ret ([],false)) fun z3=>
 .ret (z3.1,true)
def Xp (N:Nat) (a0:List UInt8) (a1:List qb):Option (List UInt8×Bool):=(qav N a0 a1).run some
def qsl (N:Nat):List (Nat×qy):=[(6,qdV N)]
def qhc (N:Nat):Ent:=smF ⟨101,[],[.x .s,.x (.sl 4 qw)],[],[]⟩ [.s,(.sl 4 qw)] (List UInt8×Bool) (fun x=>Xp N x.1 x.2.1) cs1 fun _=>qrM
theorem qpz (N:Nat):q_ Tryz.prog (qhc N):=
 q8 (H:=KT) (L:=qI (qsl N)) (ts:=[.s,(.sl 4 qw)]) (T:=fun x=>qav N x.1 x.2.1) 0 qO6 (qfg N) (qq (by kernel_rfl) ⟨qlW N,trivial⟩) (rg0 (by kernel_rfl)) fun x=>by kernel_rfl
noncomputable def qQE:Code:=Tryz.f71.body.getD .skip
theorem qRk:FnF Tryz.prog 71 Tryz.f71 qQE:=⟨qk,by kernel_rfl,by kernel_rfl,by kernel_rfl⟩
def qst:TH:={ live:=[(0,[2,3]),(1,[2,3,17]),(2,[4,5]),(3,[2,3,6]),(4,[2,3,6,7]),(5,[2,3,6,7,26]),(6,[2,3,6]),(7,[2,3,6,7]),(8,[3,7,8]),(9,[3,10,11]),(10,[3,10,44]),(11,[4,5]),(12,[3,10,12]),(13,[3,10,12,49]),(14,[3,13,14]),(15,[3,13,59]),(16,[4,5]),(17,[3,12]),(18,[12,65]),(19,[4,5]),(20,[4,5])] }
def qsf (N:Nat):List Ent:=[qhV N,qbg N,qhc N,qea N]
theorem qnY (N:Nat):qO Tryz.prog (qsf N):=⟨qrT N,qgY N,qpz N,qjB N,trivial⟩
def qqX (z:List UInt8×Int):TV×THp:=(.tup [.tv .s (z.1:List UInt8),xi z.2],[])
def qab (N:Nat) (a0:qc) (a1:qd):Tree (List UInt8×Int):=
 .cond (decide ((qd.Kind a1)=((1:Int)))) (
 .ret (qd.V a1,0)) <|
 .cond (decide ((qd.Kind a1)=((2:Int)))) (
 .bind (X3 N a0 (qd.zm a1)) fun r1=>
 .bind (Qq N r1.1 (qd.jV a1)) fun r2=>
 .cond (!r2.2) (
 .ret ([],6)) <|
 .cond (decide ((qd.Kind a1)=((3:Int)))) (
 .bind (Xp N (qf.V r2.1) (qd.P a1)) fun r3=>
 .cond (!r3.2) (
 .ret ([],7)) <|
 .bind (vI N r3.1) fun r4=>
 .cond (!(eqE (.ba 32) r4 (qd.D a1))) (
 .ret ([],7)) <|
 .ret (r3.1,0)) <|
 .bind (vI N (qf.V r2.1)) fun r3=>
 .cond (!(eqE (.ba 32) r3 (qd.D a1))) (
 .ret ([],7)) <|
 .ret (qf.V r2.1,0)) <|
 .bind (X3 N a0 (qd.ID a1)) fun r1=>
 .bind (Qq N r1.1 (qd.No a1)) fun r2=>
 .cond (!r2.2) (
 .ret ([],6)) <|
 .cond (decide ((qd.Kind a1)=((3:Int)))) (
 .bind (Xp N (qf.V r2.1) (qd.P a1)) fun r3=>
 .cond (!r3.2) (
 .ret ([],7)) <|
 .bind (vI N r3.1) fun r4=>
 .cond (!(eqE (.ba 32) r4 (qd.D a1))) (
 .ret ([],7)) <|
 .ret (r3.1,0)) <|
 .bind (vI N (qf.V r2.1)) fun r3=>
 .cond (!(eqE (.ba 32) r3 (qd.D a1))) (
 .ret ([],7)) <|
 .ret (qf.V r2.1,0)
def Yk (N:Nat) (a0:qc) (a1:qd):Option (List UInt8×Int):=(qab N a0 a1).run some
def qrS (N:Nat):List (Nat×qy):=[]
def qg9 (N:Nat):Ent:=smF ⟨71,[],[.x qn,.x zk],[],[]⟩ [qn,zk] (List UInt8×Int) (fun x=>Yk N x.1 x.2.1) cs1 fun _=>qqX
theorem qqb (N:Nat):q_ Tryz.prog (qg9 N):=
 q8 (H:=qst) (L:=qI (qrS N)) (ts:=[qn,zk]) (T:=fun x=>qab N x.1 x.2.1) 0 qRk (qnY N) (qq (by kernel_rfl) trivial) (rg0 (by kernel_rfl)) fun x=>by kernel_rfl
noncomputable def qQv:Code:=Tryz.f25.body.getD .skip
theorem qTe:FnF Tryz.prog 25 Tryz.f25 qQv:=⟨qk,by kernel_rfl,by kernel_rfl,by kernel_rfl⟩
def qxC:TH:={ live:=[(0,[2,3,4]),(1,[2,3,4,6]),(2,[2,3,4,6,7]),(3,[2,3,4,23]),(4,[4,5]),(5,[2,3,4,27]),(6,[4,8,9]),(7,[4,5]),(8,[2,3,4,10,11]),(9,[2,3,4,10,11,47]),(10,[4,5]),(11,[4,12,13]),(12,[4,5])],dec:=[20],nil:=[(0,[⟨.ob 40 [0],43,(.sl 19 qh)⟩]),(4,[⟨.ob 40 [0],43,(.sl 19 qh)⟩]),(10,[⟨.ob 40 [0],43,(.sl 19 qh)⟩])] }
def qxU (N:Nat):List Ent:=[Yj N,qjf N,qjc N,qg9 N]
theorem qt_ (N:Nat):qO Tryz.prog (qxU N):=⟨qbx N,qtO N,qtS N,qqb N,trivial⟩
def qxJ (z:qc×Int):TV×THp:=(.tup [.tv qn (z.1:qc),xi z.2],[])
def qef (N:Nat) (a0:qc) (a1:qd):Tree (qc×Int):=
 .bind (Jh N a0) fun r1=>
 .bind (qaf N a1) fun r2=>
 .cond (!r1) (
 .chk (0=0) <|
 .ret (qc.mk [],1)) <|
 .cond (!r2) (
 .chk (0=0) <|
 .ret (qc.mk [],1)) <|
 .cond (decide ((qd.Kind a1)=((0:Int)))) (
 .bind (WK N a0 (qa.mk (qd.ID a1) (qd.S a1) [])) fun r3=>
 .ret (r3.1,r3.2)) <|
 .bind (Yk N a0 a1) fun r3=>
 .cond (!decide (r3.2=0)) (
 .chk (0=0) <|
 .ret (qc.mk [],r3.2)) <|
 .bind (WK N a0 (qa.mk (qd.ID a1) (qe.mk 0 0) [qg.mk (qd.No a1) (qf.mk (qd.S a1) r3.1)])) fun r4=>
 .ret (r4.1,r4.2)
def qb9 (N:Nat) (a0:qc) (a1:qd):Option (qc×Int):=(qef N a0 a1).run some
def qx2 (N:Nat):List (Nat×qy):=[]
def qkm (N:Nat):Ent:=smF ⟨25,[],[.x qn,.x zk],[],[]⟩ [qn,zk] (qc×Int) (fun x=>qb9 N x.1 x.2.1) cs1 fun _=>qxJ
theorem qwN (N:Nat):q_ Tryz.prog (qkm N):=
 q8 (H:=qxC) (L:=qI (qx2 N)) (ts:=[qn,zk]) (T:=fun x=>qef N x.1 x.2.1) 0 qTe (qt_ N) (qq (by kernel_rfl) trivial) (rg0 (by kernel_rfl)) fun x=>by kernel_rfl
noncomputable def qAx:Code:=Tryz.f72.body.getD .skip
theorem qQV:FnF Tryz.prog 72 Tryz.f72 qAx:=⟨qk,by kernel_rfl,by kernel_rfl,by kernel_rfl⟩
def qbN:TH:={ live:=[(0,[2,3]),(1,[2,3,26]),(2,[4]),(3,[2,3,5]),(4,[2,3,5,31]),(5,[2,3,5]),(6,[2,3,5,44]),(7,[4]),(8,[4])],dec:=[11,18] }
def qh5 (N:Nat):List Ent:=[]
theorem qgi (N:Nat):qO Tryz.prog (qh5 N):=trivial
abbrev V0:=qa×qa
abbrev Qk:=Unit⊕(Int×Bool)
def ZE (f:V0):Qk→Ex×TSt
 | .inl y=>(.ret,⟨0,45,[],[(4,.bc false)],[],false,[]⟩)
 | .inr y=>(.exit 0,⟨0,45,[],[(2,.p 20 [] 0),(3,.p 30 [] 0),(5,xi y.1),(31,xb y.2)],[(20,.cell false (.tv qh f.1)),(30,.cell false (.tv qh f.2))],false,[]⟩)
def qov (N:Nat):List (Nat×qy):=[]
abbrev ZD:=Int
def qe0:SP:=⟨0,45,[],[(2,.k (.p 20 [] 0)),(3,.k (.p 30 [] 0)),(5,.x (.i .i64))],[(20,.cell false (.x qh)),(30,.cell false (.x qh))],false,[]⟩
def qnT (f:V0) (v:ZD):TSt:=zw qe0 [dv qh f.1,dv qh f.2,dv (.i .i64) v]
def Xh (N:Nat) (o_4:qa) (o_4_2:qa) (v:ZD):Tree (ZD⊕Qk):=
 .cond (decide (v < (((qa.F o_4).length:Nat):Int))) (
 .bind (qP (qa.F o_4) v) fun e1=>
 .bind (qP (qa.F o_4_2) v) fun e2=>
 .cond (!(eqE qA e1 e2)) (
 .ret (.inr (.inl ()))) <|
 .chk (qj (v + 1)) <|
 .ret (.inl (v + 1))) <|
 .ret (.inr (.inr ((v,decide (v < (((qa.F o_4).length:Nat):Int))))))
def qeB (N n:Nat) (f:V0) (v:ZD):Option Qk:=qQ (Xh N f.1 f.2) some n v
theorem qo8 (N:Nat) (f:V0) (n:Nat) (v:ZD) (y:Qk) (h:qeB N n f v=some y):LG Tryz.prog qbN 72 (qL qAx 4) (qnT f v) (ZE f y):=
 zl qk (E:=qh5 N) (L:=qI (qov N)) (st:=ZE f) (g:=some) (R:=ZE f) (qgi N) (qq (by kernel_rfl) trivial) (rg0 (by kernel_rfl)) (fun v=>by kernel_rfl) (qU (st:=ZE f) fun y=>by rcases y with _ | _<;>rfl) (js0 rfl) n v y h
def K_ (N:Nat) (o_4:qa) (o_4_2:qa) (s5_4:Int):Option Qk:=qeB N N (o_4,o_4_2) s5_4
def qex (N:Nat):qy:=smL qe0 [qh,qh,(.i .i64)] Qk (fun x=>K_ N x.1 x.2.1 x.2.2.1) (csS cs1) fun x=>ZE (x.1,x.2.1)
theorem qmE (N:Nat):ji Tryz.prog qbN 72 (qL qAx 4) (qex N):=zu fun x z h=>qo8 N (x.1,x.2.1) N x.2.2.1 z h
def qs8 (z:Bool):TV×THp:=(xb z,[])
def qbv (N:Nat) (a0:qa) (a1:qa):Tree (Bool):=
 .cond (!(eqE (.ba 16) (qa.ID a0) (qa.ID a1))) (
 .ret false) <|
 .cond (!(eqE qm (qa.qW a0) (qa.qW a1))) (
 .ret false) <|
 .cond (!decide ((((qa.F a0).length:Nat):Int)=(((qa.F a1).length:Nat):Int))) (
 .ret false) <|
 .bind (K_ N a0 a1 0) fun z1=>
 .sum z1 (fun z2=>
 .ret false) fun z2=>
 .ret true
def YY (N:Nat) (a0:qa) (a1:qa):Option (Bool):=(qbv N a0 a1).run some
def qty (N:Nat):List (Nat×qy):=[(4,qex N)]
def qhM (N:Nat):Ent:=smF ⟨72,[],[.x qh,.x qh],[],[]⟩ [qh,qh] (Bool) (fun x=>YY N x.1 x.2.1) cs1 fun _=>qs8
theorem qqW (N:Nat):q_ Tryz.prog (qhM N):=
 q8 (H:=qbN) (L:=qI (qty N)) (ts:=[qh,qh]) (T:=fun x=>qbv N x.1 x.2.1) 0 qQV (qgi N) (qq (by kernel_rfl) ⟨qmE N,trivial⟩) (rg0 (by kernel_rfl)) fun x=>by kernel_rfl
noncomputable def qzL:Code:=Tryz.f26.body.getD .skip
theorem qRw:FnF Tryz.prog 26 Tryz.f26 qzL:=⟨qk,by kernel_rfl,by kernel_rfl,by kernel_rfl⟩
def qbQ:TH:={ live:=[(0,[2,3]),(1,[2,3,13]),(2,[4]),(3,[2,3,5]),(4,[2,3,5,18]),(5,[2,3,5]),(6,[2,3,5,6]),(7,[2,3,5,33]),(8,[4]),(9,[4])] }
def qhU (N:Nat):List Ent:=[qhM N]
theorem qfQ (N:Nat):qO Tryz.prog (qhU N):=⟨qqW N,trivial⟩
abbrev VQ:=qc×qc
abbrev Qj:=Unit⊕(Int×Bool)
def ZK (f:VQ):Qj→Ex×TSt
 | .inl y=>(.ret,⟨0,34,[],[(4,.bc false)],[],false,[]⟩)
 | .inr y=>(.exit 0,⟨0,34,[],[(2,.p 20 [] 0),(3,.p 30 [] 0),(5,xi y.1),(18,xb y.2)],[(20,.cell false (.tv qn f.1)),(30,.cell false (.tv qn f.2))],false,[]⟩)
def qn0 (N:Nat):List (Nat×qy):=[]
abbrev Z2:=Int
def qeT:SP:=⟨0,34,[],[(2,.k (.p 20 [] 0)),(3,.k (.p 30 [] 0)),(5,.x (.i .i64))],[(20,.cell false (.x qn)),(30,.cell false (.x qn))],false,[]⟩
def qnx (f:VQ) (v:Z2):TSt:=zw qeT [dv qn f.1,dv qn f.2,dv (.i .i64) v]
def VV (N:Nat) (o_4:qc) (o_4_2:qc) (v:Z2):Tree (Z2⊕Qj):=
 .cond (decide (v < (((qc.R o_4).length:Nat):Int))) (
 .bind (qP (qc.R o_4) v) fun e1=>
 .bind (qP (qc.R o_4_2) v) fun e2=>
 .bind (YY N e1 e2) fun r3=>
 .cond (!r3) (
 .ret (.inr (.inl ()))) <|
 .chk (qj (v + 1)) <|
 .ret (.inl (v + 1))) <|
 .ret (.inr (.inr ((v,decide (v < (((qc.R o_4).length:Nat):Int))))))
def qem (N n:Nat) (f:VQ) (v:Z2):Option Qj:=qQ (VV N f.1 f.2) some n v
theorem qpe (N:Nat) (f:VQ) (n:Nat) (v:Z2) (y:Qj) (h:qem N n f v=some y):LG Tryz.prog qbQ 26 (qL qzL 4) (qnx f v) (ZK f y):=
 zl qk (E:=qhU N) (L:=qI (qn0 N)) (st:=ZK f) (g:=some) (R:=ZK f) (qfQ N) (qq (by kernel_rfl) trivial) (rg0 (by kernel_rfl)) (fun v=>by kernel_rfl) (qU (st:=ZK f) fun y=>by rcases y with _ | _<;>rfl) (js0 rfl) n v y h
def qac (N:Nat) (o_4:qc) (o_4_2:qc) (s5_4:Int):Option Qj:=qem N N (o_4,o_4_2) s5_4
def qeF (N:Nat):qy:=smL qeT [qn,qn,(.i .i64)] Qj (fun x=>qac N x.1 x.2.1 x.2.2.1) (csS cs1) fun x=>ZK (x.1,x.2.1)
theorem qmc (N:Nat):ji Tryz.prog qbQ 26 (qL qzL 4) (qeF N):=zu fun x z h=>qpe N (x.1,x.2.1) N x.2.2.1 z h
def qtY (z:Bool):TV×THp:=(xb z,[])
def qbE (N:Nat) (a0:qc) (a1:qc):Tree (Bool):=
 .cond (!decide ((((qc.R a0).length:Nat):Int)=(((qc.R a1).length:Nat):Int))) (
 .ret false) <|
 .bind (qac N a0 a1 0) fun z1=>
 .sum z1 (fun z2=>
 .ret false) fun z2=>
 .ret true
def Y6 (N:Nat) (a0:qc) (a1:qc):Option (Bool):=(qbE N a0 a1).run some
def qtv (N:Nat):List (Nat×qy):=[(4,qeF N)]
def qib (N:Nat):Ent:=smF ⟨26,[],[.x qn,.x qn],[],[]⟩ [qn,qn] (Bool) (fun x=>Y6 N x.1 x.2.1) cs1 fun _=>qtY
theorem qsn (N:Nat):q_ Tryz.prog (qib N):=
 q8 (H:=qbQ) (L:=qI (qtv N)) (ts:=[qn,qn]) (T:=fun x=>qbE N x.1 x.2.1) 0 qRw (qfQ N) (qq (by kernel_rfl) ⟨qmc N,trivial⟩) (rg0 (by kernel_rfl)) fun x=>by kernel_rfl
noncomputable def qKD:Code:=Tryz.f4.body.getD .skip
theorem qUO:FnF Tryz.prog 4 Tryz.f4 qKD:=⟨qk,by kernel_rfl,by kernel_rfl,by kernel_rfl⟩
def qqk:TH:={ live:=[(0,[2,3]),(1,[2,3,5]),(2,[2,3,5,6]),(3,[2,3,5,6,7]),(4,[2,3,5,27]),(5,[4]),(6,[2,3,8,9]),(7,[8,9,10,11]),(8,[9,11,12]),(9,[4])],dec:=[20,24,45] }
def qpQ (N:Nat):List Ent:=[qF8,qjt N,qiU N,qK2 N,qkm N,qib N]
theorem qmf (N:Nat):qO Tryz.prog (qpQ N):=⟨qNw,qtf N,qtp N,qR6 N,qwN N,qsn N,trivial⟩
def qpU (z:Bool):TV×THp:=(xb z,[])
def Kc (N:Nat) (a0:qc) (a1:qd):Tree (Bool):=
 .bind (qIV) fun r1=>
 .bind (qaE N a0) fun r2=>
 .bind (VM N a1) fun r3=>
 .cond (!r1) (
 .ret r1) <|
 .cond (!r2) (
 .ret r1) <|
 .cond (!r3) (
 .ret r1) <|
 .bind (qxv N a0 a1) fun r4=>
 .bind (qb9 N a0 a1) fun r5=>
 .bind (Y6 N r4.1 r5.1) fun r6=>
 .cond r6 (
 .ret (decide (r4.2=r5.2))) <|
 .ret false
def ZB (N:Nat) (a0:qc) (a1:qd):Option (Bool):=(Kc N a0 a1).run some
def qqB (N:Nat):List (Nat×qy):=[]
theorem qmy (N:Nat):qiM Tryz.prog ⟨4,[],[.x qn,.x zk],[],[]⟩ [qn,zk] (fun x=>Kc N x.1 x.2.1) (fun _=>qpU):=
 qen (H:=qqk) (L:=qI (qqB N)) 0 qUO (qmf N) (qq (by kernel_rfl) trivial) (rg0 (by kernel_rfl)) fun x=>by kernel_rfl
end Go.Rx
end
set_option maxRecDepth 100000
noncomputable section
namespace Go.Rx
open Go.Proofs
abbrev QK (q:Nat→Bool) (n:Nat):Bool:=qHU q n 0
theorem Zn {q:Nat→Bool} {n:Nat}:QK q n=true↔∀ j,j < n→q j=true:=by
 unfold QK; rw [qH6]
 exact ⟨fun h j hj=>h j (Nat.zero_le _) (by omega),fun h j _ hj=>h j (by omega)⟩
theorem qOI {p q:Nat→Bool} {n:Nat} (h:Jz p n 0=none) (hq:∀ j,j < n→p j=!q j):QK q n=true:=
 Zn.2 fun j hj=>by
  have:=qyu h j (Nat.zero_le _) (by omega)
  rw [hq j hj] at this; simpa using this
theorem qPP {p q:Nat→Bool} {n i:Nat} (h:Jz p n 0=some i) (hq:∀ j,j < n→p j=!q j):QK q n=false:=by
 obtain ⟨h1,_,h2,_⟩:=qpg h
 cases e:QK q n with
 | false=>rfl
 | true=>
  have:=Zn.1 e i (by omega)
  rw [hq i (by omega),this] at h1; simp at h1
theorem Wk {α Y : Type} {B : Int → Tree (Int ⊕ (α ⊕ (Int × Bool)))} {g : α ⊕ (Int × Bool) → Option Y} {q : Nat → Bool} {n : Nat} {hit : α}
    (h1:∀ k,k < n→(B (k:Int)).run some=some (if q k then .inl ((k + 1:Nat):Int) else .inr (.inl hit))) (h2:(B (n:Int)).run some=some (.inr (.inr (((n:Nat):Int),false)))) {N:Nat} (hN:n < N) :
    qQ B g N ((0:Nat):Int)=g (if QK q n then .inr (((n:Nat):Int),false) else .inl hit):=by
 rw [qfY (p:=fun k=>!q k) (hit:=fun _=>.inl hit) (fin:=.inr (((n:Nat):Int),false)) (n:=n) (fun k hk=>by rw [h1 k hk]; cases q k<;>rfl) h2 N 0 (Nat.zero_le _) (by omega),Nat.sub_zero]
 cases e:Jz (fun k=>!q k) n 0 with
 | none=>rw [qOI e fun _ _=>rfl]; rfl
 | some i=>rw [qPP e fun _ _=>rfl]; rfl
theorem qCv {V W Y : Type} {B : V → Tree (V ⊕ W)} {g : W → Option Y} {at_ : Nat → V} {q : Nat → Bool} {n : Nat} {hit fin : W}
    (h1:∀ k,k < n→(B (at_ k)).run some=some (if q k then .inl (at_ (k + 1)) else .inr hit)) (h2:(B (at_ n)).run some=some (.inr fin)) :
    ∀ (m k:Nat),k + m=n→∀ N,m < N→(∀ j,j < k→q j=true)→qQ B g N (at_ k)=g (if QK q n then fin else hit)
 | 0,k,hk,N + 1,_,hq=>by
  obtain rfl:k=n:=by omega
  rw [zh h2,if_pos (Zn.2 hq)]
 | m + 1,k,hk,N + 1,hN,hq=>by
  have h:=h1 k (by omega)
  cases e:q k with
  | true=>
   rw [e,if_pos rfl] at h
   rw [vM h]
   exact qCv h1 h2 m (k + 1) (by omega) N (by omega) fun j hj=>by
    by_cases ej:j=k
    ·rw [ej]; exact e
    ·exact hq j (by omega)
  | false=>
   rw [e,if_neg (by simp)] at h
   rw [zh h,if_neg (fun ha=>by have:=Zn.1 ha k (by omega); rw [e] at this; cases this)]
 | _,_,_,0,hN,_=>by omega
theorem qry {α:Type} {d:α} {l:List α} {k:Nat} (h:k < l.length):l.take (k + 1)=l.take k++[l.getD k d]:=by
 rw [List.take_succ_eq_append_getElem h,List.getD_eq_getElem?_getD,List.getElem?_eq_getElem h]; rfl
class QJ (N:Nat):Prop where
 h:100000≤N
theorem QJ.of {N:Nat} (h:100000≤N):QJ N:=⟨h⟩
theorem big (N:Nat) [QJ N]:100000≤N:=QJ.h
abbrev zSt:qe:=((0:Int),(0:Int))
theorem qSw {c n:Nat}:decide (((c:Nat):Int) < ((n:Nat):Int))=!decide (n≤c):=by
 by_cases h:n≤c
 ·rw [decide_eq_true h,decide_eq_false (by omega)]; rfl
 ·rw [decide_eq_false h,decide_eq_true (by omega)]; rfl
def stB (a:qe):Bool:=decide (a=zSt)||(decide (0 < a.1)&&decide (a.1≤1099511627776)&&decide (0≤a.2)&&decide (a.2 < 8))
def slB (a b:qe):Bool:=decide (a.1 < b.1∨(a.1=b.1∧a.2 < b.2))
theorem qhn (a b:qe):eqE qm a b=decide (a=b):=Bool.eq_iff_iff.2 ((Xz qm a b).trans (decide_eq_true_iff (p:=(a:Int×Int)=b)).symm)
theorem qhl (a b:Vector UInt8 16):eqE (.ba 16) a b=decide (a=b):=Bool.eq_iff_iff.2 ((Xz (.ba 16) a b).trans (decide_eq_true_iff (p:=(a:Vector UInt8 16)=b)).symm)
theorem qr1 (a:qe):qcA a=some (stB a):=by
 unfold qcA qo_
 have e:=qhn a (qe.mk 0 0)
 simp only [Tree.run,e]
 show (bif decide (a=zSt) then _ else _)=some (decide (a=zSt)||_)
 cases decide (a=zSt) with
 | true=>rfl
 | false=>
  show (bif decide (0 < a.1) then _ else _)=_
  cases decide (0 < a.1) with
  | false=>rfl
  | true=>
   show (bif decide (a.1≤1099511627776) then _ else _)=_
   cases decide (a.1≤1099511627776) with
   | false=>rfl
   | true=>
    show (bif decide (0≤a.2) then _ else _)=_
    cases decide (0≤a.2)<;>rfl
end Go.Rx
end
set_option maxRecDepth 100000
noncomputable section
namespace Go.Rx
open Go.Proofs
abbrev zP:qb:=(false,0,0,[])
def inP (a lo hi:Int):Bool:=decide (lo≤a)&&decide (a≤hi)
def vm (p:qb):Bool:=bif p.zV then inP p.zm 0 200&&inP p.Len 1 200&&decide (p.Lit=[]) else decide (p=(false,0,0,p.Lit))&&inP (p.Lit.length:Nat) 1 200
theorem qGx (a b:qb):eqE qw a b=decide (a=b):=Bool.eq_iff_iff.2 ((Xz qw a b).trans (decide_eq_true_iff (p:=(a:Bool×Int×Int×List UInt8)=b)).symm)
theorem qH2 (a lo hi:Int):qid a lo hi=some (inP a lo hi):=by
 unfold qid qrG inP
 exact jb rfl (fun h=>qp (by rw [h]; rfl)) fun h=>qp (by rw [h]; rfl)
theorem qQ4 (p:qb):qmU p=some (vm p):=by
 unfold qmU qnR vm
 refine jb rfl (fun h=>?_) fun h=>?_
 ·rw [h]
  refine ql (qH2 _ _ _) <| jb rfl (fun h1=>?_) fun h1=>qp (by rw [h1]; rfl)
  refine ql (qH2 _ _ _) <| jb rfl (fun h2=>?_) fun h2=>qp (by rw [h1,h2]; rfl)
  exact qp (by rw [h1,h2]; rfl)
 ·rw [h]
  exact jb (qGx _ _) (fun h1=>ql (qH2 _ _ _) (qp (by rw [show decide (p=(false,0,0,p.Lit))=true from h1]; rfl))) fun h1=>qp (by rw [show decide (p=(false,0,0,p.Lit))=false from h1]; rfl)
def qbe (l:List qb) (k:Nat):Int:=((l.take k).map fun p=>p.Len + ((p.Lit.length:Nat):Int)).sum
def Wu (l:List qb):Bool:=QK (fun k=>vm (l.getD k zP)) l.length&&decide (l.length≤60)&&decide (qbe l l.length≤200)
theorem qu1 {l:List qb} {k:Nat} (h:k < l.length):qbe l (k + 1)=qbe l k + ((l.getD k zP).Len + (((l.getD k zP).Lit.length:Nat):Int)):=by
 unfold qbe
 rw [qry (d:=zP) h,List.map_append,List.sum_append]; simp
theorem qnb {p:qb} (h:vm p=true):0≤p.Len + ((p.Lit.length:Nat):Int)∧p.Len + ((p.Lit.length:Nat):Int)≤200∧0≤p.Len:=by
 unfold vm inP at h
 cases e:p.zV with
 | true=>
  rw [e,cond_true] at h
  simp only [Bool.and_eq_true,decide_eq_true_eq] at h
  obtain ⟨⟨_,h1,h2⟩,h3⟩:=h
  rw [h3]; simp only [List.length_nil]; omega
 | false=>
  rw [e,cond_false] at h
  simp only [Bool.and_eq_true,decide_eq_true_eq] at h
  obtain ⟨h1,h2,h3⟩:=h
  have:p.Len=0:=by rw [h1]; rfl
  omega
theorem qC2 {l:List qb}:∀ {k:Nat},k≤l.length→(∀ j,j < k→vm (l.getD j zP)=true)→0≤qbe l k∧qbe l k≤200 * (k:Int)
 | 0,_,_=>by unfold qbe; simp
 | k + 1,hk,h=>by
  have h1:=qC2 (k:=k) (by omega) fun j hj=>h j (by omega)
  have h2:=qnb (h k (by omega))
  rw [qu1 (by omega)]; omega
theorem qrl {V W Y : Type} {B : V → Tree (V ⊕ W)} {g : W → Option Y} {at_ : Nat → V} {q : Nat → Bool} {n : Nat} {hit fin : W}
    (h1:∀ k,k < n→(∀ j,j < k→q j=true)→(B (at_ k)).run some=some (if q k then .inl (at_ (k + 1)) else .inr hit)) (h2:(B (at_ n)).run some=some (.inr fin)) :
    ∀ (m k:Nat),k + m=n→∀ N,m < N→(∀ j,j < k→q j=true)→qQ B g N (at_ k)=g (if QK q n then fin else hit)
 | 0,k,hk,N + 1,_,hq=>by
  obtain rfl:k=n:=by omega
  rw [zh h2,if_pos (Zn.2 hq)]
 | m + 1,k,hk,N + 1,hN,hq=>by
  have h:=h1 k (by omega) hq
  cases e:q k with
  | true=>
   rw [e,if_pos rfl] at h
   rw [vM h]
   exact qrl h1 h2 m (k + 1) (by omega) N (by omega) fun j hj=>by
    by_cases ej:j=k
    ·rw [ej]; exact e
    ·exact hq j (by omega)
  | false=>
   rw [e,if_neg (by simp)] at h
   rw [zh h,if_neg (fun ha=>by have:=Zn.1 ha k (by omega); rw [e] at this; cases this)]
 | _,_,_,0,hN,_=>by omega
section
variable {N:Nat} [QJ N]
theorem qNG {l : List qb} (hl : l.length < N) (hl2 : l.length ≤ 1000000000000000) :
    qlI N l l ((l.length:Nat):Int) 0 0=some (if QK (fun k=>vm (l.getD k zP)) l.length then .inr (qbe l l.length,((l.length:Nat):Int),false) else .inl ()):=by
 refine (qrl (B:=qdz N l l ((l.length:Nat):Int)) (g:=some) (at_:=fun k=>(qbe l k,(k:Int))) (q:=fun k=>vm (l.getD k zP)) (n:=l.length) (hit:=.inl ()) (fin:=.inr (qbe l l.length,((l.length:Nat):Int),false)) (fun k hk hq=>?_) ?_ l.length 0 (by omega) N (by omega) (fun j hj=>by omega)).trans ?_
 ·unfold qdz
  refine w_t (dec_lt hk) <| ql (zB (d:=zP) hk) <| ql (qQ4 _) <| jb rfl (fun h=>?_) fun h=>?_
  ·have h':vm (l.getD k zP)=false:=by rw [Bool.not_eq_true'] at h; exact h
   rw [h']; exact qp rfl
  ·have h':vm (l.getD k zP)=true:=by rw [Bool.not_eq_false'] at h; exact h
   have h1:=qC2 (k:=k) (Nat.le_of_lt hk) hq
   have h2:=qnb h'
   rw [h']
   refine qF (show qj ((l.getD k zP).Len + (((l.getD k zP).Lit.length:Nat):Int)) by unfold qj; omega) <| qF (show qj (qbe l k + ((l.getD k zP).Len + (((l.getD k zP).Lit.length:Nat):Int))) by unfold qj; omega) <| qF (zT (by omega)) <| qp ?_
   rw [if_pos rfl,qu1 hk,qZ]
 ·unfold qdz
  exact w_f (zo (Nat.lt_irrefl _)) (qp (by rw [zo (Nat.lt_irrefl _)]))
 ·split<;>rfl
theorem qEm {l:List qb} (hl:l.length < N) (hl2:l.length≤1000000000000000):Wp N l=some (Wu l):=by
 unfold Wp qph Wu
 refine ql (qNG hl hl2) ?_
 cases QK (fun k=>vm (l.getD k zP)) l.length with
 | false=>rfl
 | true=>
  refine w_r rfl <| jb (c:=decide (l.length≤60)) (decide_eq_decide.2 (by omega)) (fun h=>qp ?_) fun h=>qp ?_
  ·rw [h]; rfl
  ·rw [h]; rfl
end
section
variable {N:Nat}
theorem qSZ {l m : List qb} (hl : l.length < N) (hm : m.length = l.length) (hl2 : l.length ≤ 1000000000000000) :
    Kz N l m ((l.length:Nat):Int) 0=some (if QK (fun k=>decide (l.getD k zP=m.getD k zP)) l.length then .inr (((l.length:Nat):Int),false) else .inl ()):=by
 refine (Wk (B:=Vl N l m ((l.length:Nat):Int)) (g:=some) (q:=fun k=>decide (l.getD k zP=m.getD k zP)) (n:=l.length) (hit:=()) (fun k hk=>?_) ?_ hl)
 ·unfold Vl
  refine w_t (dec_lt hk) <| ql (zB (d:=zP) hk) <| ql (zB (d:=zP) (by omega)) <| jb rfl (fun h=>?_) fun h=>?_
  ·have h':decide (l.getD k zP=m.getD k zP)=false:=by rw [qGx,Bool.not_eq_true'] at h; exact h
   rw [h']; exact qp rfl
  ·have h':decide (l.getD k zP=m.getD k zP)=true:=by rw [qGx,Bool.not_eq_false'] at h; exact h
   rw [h']; exact qF (zT (by omega)) <| qp (by rw [qZ]; rfl)
 ·unfold Vl
  exact w_f (zo (Nat.lt_irrefl _)) (qp (by rw [zo (Nat.lt_irrefl _)]))
theorem qsY {α:Type} {d:α} {l m:List α} (h:m.length=l.length) (hg:∀ k,k < l.length→l.getD k d=m.getD k d):l=m:=by
 refine List.ext_getElem h.symm fun i h1 h2=>?_
 have:=hg i h1
 rw [List.getD_eq_getElem?_getD,List.getD_eq_getElem?_getD,List.getElem?_eq_getElem h1,List.getElem?_eq_getElem h2] at this
 exact this
theorem qSn {l m:List qb} (hl:l.length < N) (hl2:l.length≤1000000000000000):qkQ N l m=some (decide (l=m)):=by
 have e:Ym N l m=some (decide (l=m)):=by
  unfold Ym qaH
  by_cases hm:m.length=l.length
  ·refine w_f (by rw [decide_eq_true (by omega)]; rfl) <| ql (qSZ hl hm hl2) ?_
   cases e:QK (fun k=>decide (l.getD k zP=m.getD k zP)) l.length with
   | true=>
    have:l=m:=qsY hm fun k hk=>of_decide_eq_true (Zn.1 e k hk)
    exact w_r rfl (qp (by rw [decide_eq_true this]))
   | false=>
    have:¬ l=m:=fun h=>by
     rw [Zn.2 (fun k _=>by rw [h]; exact decide_eq_true rfl)] at e; cases e
    exact w_l rfl (qp (by rw [decide_eq_false this]))
  ·exact w_t (by rw [decide_eq_false (by omega)]; rfl) (qp (by rw [decide_eq_false (fun h=>hm (by rw [h]))]))
 unfold qkQ qlE
 exact ql e (qp rfl)
theorem qLg (a b:Vector UInt8 32):eqE (.ba 32) a b=decide (a=b):=Bool.eq_iff_iff.2 ((Xz (.ba 32) a b).trans (decide_eq_true_iff (p:=(a:Vector UInt8 32)=b)).symm)
theorem qP2 {a b:qd} (hl:(qd.P a).length < N) (hl2:(qd.P a).length≤1000000000000000):qxd N a b=some (decide (a=b)):=by
 unfold qxd qur
 have no:∀ {p:Prop} [Decidable p],(a=b→p)→decide p=false→some false=some (decide (a=b)):=fun hp h=>by rw [decide_eq_false (fun e=>of_decide_eq_false h (hp e))]
 refine jb (qhl _ _) (fun h1=>?_) fun h1=>qp (no (fun e=>by rw [e]) h1)
 refine jb (qhl _ _) (fun h2=>?_) fun h2=>qp (no (fun e=>by rw [e]) h2)
 refine jb rfl (fun h3=>?_) fun h3=>qp (no (fun e=>by rw [e]) h3)
 refine jb rfl (fun h4=>?_) fun h4=>qp (no (fun e=>by rw [e]) h4)
 refine jb rfl (fun h5=>?_) fun h5=>qp (no (fun e=>by rw [e]) h5)
 refine jb (qhn _ _) (fun h6=>?_) fun h6=>qp (no (fun e=>by rw [e]) h6)
 refine jb rfl (fun h7=>?_) fun h7=>qp (no (fun e=>by rw [e]) h7)
 refine jb (qLg _ _) (fun h8=>?_) fun h8=>qp (no (fun e=>by rw [e]) h8)
 refine ql (qSn hl hl2) <| qp ?_
 have key:qd.P a=qd.P b↔a=b:=by
  obtain ⟨a1,a2,a3,a4,a5,a6,a7,a8,a9⟩:=a
  obtain ⟨b1,b2,b3,b4,b5,b6,b7,b8,b9⟩:=b
  have e1:a2=b2:=of_decide_eq_true h1
  have e2:a7=b7:=of_decide_eq_true h2
  have e3:a4=b4:=of_decide_eq_true h3
  have e4:a8=b8:=of_decide_eq_true h4
  have e5:a1=b1:=of_decide_eq_true h5
  have e6:a3=b3:=of_decide_eq_true h6
  have e7:a5=b5:=of_decide_eq_true h7
  have e8:a9=b9:=of_decide_eq_true h8
  subst e1 e2 e3 e4 e5 e6 e7 e8
  exact ⟨fun h=>by have h:a6=b6:=h; rw [h],fun h=>by rw [h]⟩
 exact congrArg some (decide_eq_decide.2 key)
end
theorem qD2 (a:Int):qi5 a=some (decide (0≤a)&&decide (a < 8)):=by
 unfold qi5 qnN
 exact jb rfl (fun h=>qp (by rw [h]; rfl)) fun h=>qp (by rw [h]; rfl)
end Go.Rx
end
set_option maxRecDepth 100000
noncomputable section
namespace Go.Rx
open Go.Proofs
abbrev zI:Vector UInt8 16:=Vector.replicate 16 0
abbrev zD:Vector UInt8 32:=Vector.replicate 32 0
def qw3 (o:qd):qd:=
 if o.Kind=1 then .mk o.Kind o.ID o.S o.No o.V [] zI 0 zD
 else if o.Kind=2 then .mk o.Kind o.ID o.S o.No [] [] o.zm o.jV o.D
 else if o.Kind=3 then .mk o.Kind o.ID o.S o.No [] o.P zI 0 o.D
 else .mk o.Kind o.ID o.S 0 [] [] zI 0 zD
def qF1 (a:Int):Bool:=decide (0≤a)&&decide (a < 8)
def opB (o:qd):Bool:=!decide (o.Kind < 0)&&!decide (4≤o.Kind)&&decide (o=qw3 o)&&!decide (o.S=zSt)&&stB o.S&&qF1 o.No&&qF1 o.jV&&decide ((o.V.length:Int)≤200)&&Wu o.P
theorem qDo {o:qd}:opB o=true↔(0≤o.Kind∧o.Kind < 4)∧o=qw3 o∧o.S≠zSt∧stB o.S=true∧(0≤o.No∧o.No < 8)∧(0≤o.jV∧o.jV < 8)∧o.V.length≤200∧Wu o.P=true:=by
 unfold opB qF1
 simp only [Bool.and_eq_true,Bool.not_eq_true',decide_eq_false_iff_not,decide_eq_true_iff]
 constructor
 ·rintro ⟨⟨⟨⟨⟨⟨⟨⟨h1,h2⟩,h3⟩,h4⟩,h5⟩,h6⟩,h7⟩,h8⟩,h9⟩
  exact ⟨by omega,h3,h4,h5,h6,h7,by omega,h9⟩
 ·rintro ⟨h1,h3,h4,h5,h6,h7,h8,h9⟩
  exact ⟨⟨⟨⟨⟨⟨⟨⟨by omega,by omega⟩,h3⟩,h4⟩,h5⟩,h6⟩,h7⟩,by omega⟩,h9⟩
theorem qTI (o:qd):qw0 o=some (qw3 o):=by
 unfold qw0 qvx qw3
 refine jb rfl (fun h=>qp ?_) fun h=>jb rfl (fun h2=>qp ?_) fun h2=>jb rfl (fun h3=>qp ?_) fun h3=>qp ?_
 ·rw [if_pos (of_decide_eq_true h)]
 ·rw [if_neg (of_decide_eq_false h),if_pos (of_decide_eq_true h2)]
 ·rw [if_neg (of_decide_eq_false h),if_neg (of_decide_eq_false h2),if_pos (of_decide_eq_true h3)]
 ·rw [if_neg (of_decide_eq_false h),if_neg (of_decide_eq_false h2),if_neg (of_decide_eq_false h3)]
section
variable {N:Nat} [QJ N]
theorem qGv {o:qd} (hl:(qd.P o).length < N) (hl2:(qd.P o).length≤1000000000000000):qBK N o=some (opB o):=by
 unfold qBK qAy opB
 refine jb rfl (fun h1=>qp (by rw [h1]; rfl)) fun h1=>?_
 refine jb rfl (fun h2=>qp (by rw [h1,h2]; rfl)) fun h2=>?_
 refine ql (qTI o) <| ql (qP2 hl hl2) ?_
 refine jb rfl (fun h3=>qp ?_) fun h3=>?_
 ·rw [Bool.not_eq_true'] at h3
  rw [h1,h2,h3]; rfl
 rw [Bool.not_eq_false'] at h3
 refine jb (qhn _ _) (fun h4=>qp ?_) fun h4=>?_
 ·have h4:decide (o.S=zSt)=true:=h4
  rw [h1,h2,h3,h4]; rfl
 have h4:decide (o.S=zSt)=false:=h4
 refine ql (qr1 _) <| jb rfl (fun h5=>?_) fun h5=>qp (by rw [h1,h2,h3,h4,h5]; rfl)
 refine ql (qD2 _) <| jb (show _=qF1 o.No from rfl) (fun h6=>?_) fun h6=>qp (by rw [h1,h2,h3,h4,h5,h6]; rfl)
 refine ql (qD2 _) <| jb (show _=qF1 o.jV from rfl) (fun h7=>?_) fun h7=>qp (by rw [h1,h2,h3,h4,h5,h6,h7]; rfl)
 refine jb rfl (fun h8=>?_) fun h8=>qp (by rw [h1,h2,h3,h4,h5,h6,h7,h8]; rfl)
 exact ql (qEm hl hl2) <| qp (by rw [h1,h2,h3,h4,h5,h6,h7,h8]; rfl)
end
end Go.Rx
end
set_option maxRecDepth 100000
noncomputable section
namespace Go.Rx
open Go.Proofs
section n
variable {N:Nat} [QJ N]
def sgn (a b:Int):Int:=if a < b then -1 else if b < a then 1 else 0
theorem qVh (a b:Int):Yf a b=some (sgn a b):=by
 unfold Yf qed qfo qhf
 simp only [Tree.run,Option.bind_some,decide_true,Bool.not_true,cond_false,sgn]
 by_cases h:a < b
 ·simp [h]
 ·by_cases h2:b < a
  ·simp [h,h2]
  ·simp [h,h2]
theorem qME (a b:Int):qhb N [a,b]=some (if a=0 then b else a):=by
 obtain ⟨n,rfl⟩:∃ n,N=n + 3:=⟨N - 3,by have:=big N; omega⟩
 have e:qjO (n + 3) [a,b] ((([a,b]:List Int).length:Nat):Int) 0=qQ (JZ (n + 3) [a,b] 2) some (n + 3) 0:=rfl
 have r0:(JZ (n + 3) [a,b] 2 0).run some=if a=0 then some (.inl 1) else some (.inr (.inl a)):=by
  unfold JZ
  have g:qP [a,b] 0=some a:=rfl
  have c:qj ((0:Int) + 1):=by unfold qj; omega
  rw [qG,show decide ((0:Int) < 2)=true from rfl,cond_true,run_bind,g,Option.bind_some,qG,qM,qi c]
  by_cases h:a=0
  ·rw [if_pos h,decide_eq_true h]; rfl
  ·rw [if_neg h,decide_eq_false h]; rfl
 have r1:(JZ (n + 3) [a,b] 2 1).run some=if b=0 then some (.inl 2) else some (.inr (.inl b)):=by
  unfold JZ
  have g:qP [a,b] 1=some b:=rfl
  have c:qj ((1:Int) + 1):=by unfold qj; omega
  rw [qG,show decide ((1:Int) < 2)=true from rfl,cond_true,run_bind,g,Option.bind_some,qG,qM,qi c]
  by_cases h:b=0
  ·rw [if_pos h,decide_eq_true h]; rfl
  ·rw [if_neg h,decide_eq_false h]; rfl
 have r2:(JZ (n + 3) [a,b] 2 2).run some=some (.inr (.inr (2,false))):=rfl
 unfold qhb qmb
 rw [run_bind,e]
 by_cases h:a=0
 ·rw [if_pos h] at r0
  rw [vM r0,if_pos h]
  by_cases h2:b=0
  ·rw [if_pos h2] at r1
   rw [vM r1,zh r2,h2]; rfl
  ·rw [if_neg h2] at r1
   rw [zh r1]; rfl
 ·rw [if_neg h] at r0
  rw [zh r0,if_neg h]; rfl
theorem qWb (a b:Int):sgn a b=-1∨sgn a b=0∨sgn a b=1:=by
 unfold sgn; split
 ·exact .inl rfl
 ·split
  ·exact .inr (.inr rfl)
  ·exact .inr (.inl rfl)
theorem qje (a b:qe):J7 N a b=some (slB a b):=by
 obtain ⟨a1,a2⟩:=a
 obtain ⟨b1,b2⟩:=b
 unfold J7 qlX
 simp only [Tree.run,qhn,qVh,Option.bind_some]
 by_cases h:((a1,a2):qe)=(b1,b2)
 ·cases h
  have:slB ((a1,a2):qe) (a1,a2)=false:=decide_eq_false (by simp only; omega)
  rw [this,decide_eq_true rfl]; rfl
 ·rw [decide_eq_false h]
  simp only [Bool.not_false,cond_true]
  show ((qhb N [sgn a1 b1,sgn a2 b2]).bind _)=_
  have hs:=qWb a2 b2
  by_cases h1:a1 < b1
  ·rw [show sgn a1 b1=-1 from if_pos h1,qME,show slB ((a1,a2):qe) (b1,b2)=true from decide_eq_true (.inl h1)]; rfl
  ·by_cases h2:b1 < a1
   ·rw [show sgn a1 b1=1 by unfold sgn; rw [if_neg h1,if_pos h2],qME,show slB ((a1,a2):qe) (b1,b2)=false from decide_eq_false (by simp only; omega)]; rfl
   ·have he:a1=b1:=by omega
    rw [show sgn a1 b1=0 by unfold sgn; rw [if_neg h1,if_neg h2],qME,if_pos rfl,Option.bind_some]
    congr 1
    show decide (sgn a2 b2 < 0)=decide (a1 < b1∨(a1=b1∧a2 < b2))
    rw [decide_eq_decide]
    simp only [he,Int.lt_irrefl,false_or,true_and]
    unfold sgn
    split
    ·rename_i h3; simp [h3]
    ·rename_i h3
     split
     ·simp; omega
     ·simp; omega
end n
end Go.Rx
end
set_option maxRecDepth 100000
noncomputable section
namespace Go.Rx
open Go.Proofs
def lbB (a b:Vector UInt8 16):Bool:=!decide (a=b)&&decide (Go.Lib.compareBytes a.toList b.toList < 0)
section n
variable {N:Nat} [QJ N]
theorem qzt {k:Nat} (h:0 < k):(k:Int) - 1=((k - 1:Nat):Int):=by omega
theorem qK5 {k:Nat}:decide ((0:Int) < (k:Int))=!decide (k=0):=by
 by_cases h:k=0
 ·subst h; rfl
 ·rw [decide_eq_false h,decide_eq_true (by omega)]; rfl
theorem qS5 (a b:Vector UInt8 16):qnr a b=some (lbB a b):=by
 unfold qnr qn1 qaU qhv qR2 lbB
 simp only [Tree.run,Option.bind_some,qhl]
 cases decide (a=b)<;>rfl
end n
theorem YP (a:Vector UInt8 16):lbB a a=false:=by unfold lbB; rw [decide_eq_true rfl]; rfl
end Go.Rx
end
set_option maxRecDepth 100000
noncomputable section
namespace Go.Rx
abbrev c32 (x:UInt32):Int:=((x.toNat:Nat):Int)
theorem qGl (x:UInt32):x.toNat < 4294967296:=x.toNat_lt
theorem qct (n:Nat):IntKind.u32.wrap ((n:Nat):Int)=((n % 4294967296:Nat):Int):=by rw [IntKind.wrap_u32']; omega
theorem qga (x:UInt32):BitVec.ofInt 32 (c32 x)=x.toBitVec:=by
 apply BitVec.eq_of_toNat_eq
 rw [ofInt_u32 _ (qGl x)]
 rfl
theorem qAc (x:UInt32):IntKind.u32.wrap ((x.toNat:Nat):Int)=c32 x:=by rw [qct,Nat.mod_eq_of_lt (qGl x)]
theorem WS (x y:UInt32):vn .u32 (c32 x) (c32 y)=c32 (x + y):=by
 unfold vn
 show IntKind.u32.wrap (((x.toNat:Nat):Int) + ((y.toNat:Nat):Int))=_
 rw [← Int.natCast_add,qct,c32,UInt32.toNat_add]
theorem qfs (x y:UInt32):VF .u32 (c32 x) (c32 y)=c32 (x ^^^ y):=by
 unfold VF
 rw [show IntKind.u32.bits=32 from rfl,qga,qga]
 exact qAc (x ^^^ y)
theorem qr5 (x y:UInt32):YR .u32 (c32 x) (c32 y)=c32 (x &&& y):=by
 unfold YR
 rw [show IntKind.u32.bits=32 from rfl,qga,qga]
 exact qAc (x &&& y)
theorem qz2 (x y:UInt32):uOr .u32 (c32 x) (c32 y)=c32 (x ||| y):=by
 unfold uOr
 rw [show IntKind.u32.bits=32 from rfl,qga,qga]
 exact qAc (x ||| y)
theorem qVT (x:UInt32):VF .u32 4294967295 (c32 x)=c32 (~~~x):=by
 have h:(4294967295:Int)=c32 4294967295:=rfl
 rw [h,qfs]
 congr 2
theorem qTD (x:UInt32):qo0 .u32 4294967295 (c32 x)=c32 (~~~x):=by
 unfold qo0
 have h:=qGl x
 show IntKind.u32.wrap ((4294967295:Int) - ((x.toNat:Nat):Int))=_
 rw [show (4294967295:Int) - ((x.toNat:Nat):Int)=((4294967295 - x.toNat:Nat):Int) by omega,qct,Nat.mod_eq_of_lt (by omega),c32]
 congr 1
 rw [UInt32.toNat_not]
 rfl
theorem qCn (x:UInt32) (n:Nat) (h:n < 32):qzC .u32 (c32 x) n=c32 (x <<< UInt32.ofNat n):=by
 unfold qzC
 rw [show c32 x * 2 ^ n=((x.toNat * 2 ^ n:Nat):Int) by push_cast; rfl,qct,c32,UInt32.toNat_shiftLeft,UInt32.toNat_ofNat_of_lt' (show n < UInt32.size by unfold UInt32.size; omega),Nat.mod_eq_of_lt h,Nat.shiftLeft_eq]
theorem qrV (x:UInt32) (n:Nat) (h:n < 32):Ji (c32 x) n=c32 (x >>> UInt32.ofNat n):=by
 unfold Ji
 rw [show ((2:Int) ^ n)=((2 ^ n:Nat):Int) by push_cast; rfl,Int.fdiv_eq_ediv_of_nonneg _ (Int.natCast_nonneg _),c32,← Int.natCast_ediv,c32,UInt32.toNat_shiftRight,UInt32.toNat_ofNat_of_lt' (show n < UInt32.size by unfold UInt32.size; omega),Nat.mod_eq_of_lt h,Nat.shiftRight_eq_div_pow]
theorem qFT (x:UInt32):inW (c32 x):=⟨Int.natCast_nonneg _,by have:=qGl x; show ((x.toNat:Nat):Int) < _; omega⟩
def rot (x:UInt32) (n:Nat):UInt32:=(x <<< UInt32.ofNat (32 - n)) ||| (x >>> UInt32.ofNat n)
end Go.Rx
end
set_option maxRecDepth 100000
noncomputable section
namespace Go.Rx
open Go.Proofs
theorem qU6:∀ n < 32,0 < n→YR .u64 (IntKind.u64.wrap (0 - ((n:Nat):Int))) 31=((32 - n:Nat):Int):=by decide +kernel
theorem qUv:∀ n < 32,0 < n→qo0 .u64 (32:Int) ((32 - n:Nat):Int)=((n:Nat):Int):=by decide +kernel
theorem qle (x:UInt32) (n:Nat) (h:n < 32) (h0:0 < n):jz (c32 x) ((n:Nat):Int)=some (c32 (rot x n)):=by
 unfold jz qnV YC WI
 have h64:qj (0 - ((n:Nat):Int)):=by unfold qj; omega
 simp only [run_bind,qM,qS,qi h64,qU6 n h h0,qUv n h h0]
 rw [qi (show (0:Int)≤((32 - n:Nat):Int) by omega),qi (show (0:Int)≤((n:Nat):Int) by omega),Int.toNat_natCast,Int.toNat_natCast,Nat.min_eq_left (show 32 - n≤32 by omega),Nat.min_eq_left (show n≤32 by omega),qCn x _ (by omega),qrV x n h,qz2]
 rfl
abbrev wAt {n:Nat} (v:Vector UInt32 n) (k:Nat):UInt32:=v.toList.getD k 0
abbrev bAt (l:List UInt8) (k:Nat):UInt32:=(l.getD k 0).toUInt32
def qjF (b:List UInt8) (k:Nat) (w:Vector UInt32 64):Vector UInt32 64:=
 if k < 16 then w.setIfInBounds k ((bAt b (4 * k) <<< UInt32.ofNat 24) ||| (bAt b (4 * k + 1) <<< UInt32.ofNat 16) ||| (bAt b (4 * k + 2) <<< UInt32.ofNat 8) ||| bAt b (4 * k + 3))
 else w.setIfInBounds k (wAt w (k - 16) + wAt w (k - 7) + (rot (wAt w (k - 15)) 7 ^^^ rot (wAt w (k - 15)) 18 ^^^ (wAt w (k - 15) >>> UInt32.ofNat 3)) + (rot (wAt w (k - 2)) 17 ^^^ rot (wAt w (k - 2)) 19 ^^^ (wAt w (k - 2) >>> UInt32.ofNat 10)))
def qr8 (b:List UInt8):Vector UInt32 64:=zZ (qjF b) 64 0 (Vector.replicate 64 0)
theorem qvh (c:UInt8):IntKind.u32.wrap ((c.toNat:Nat):Int)=c32 c.toUInt32:=by
 rw [qct,Nat.mod_eq_of_lt (by have:=c.toNat_lt; omega),c32,UInt8.toNat_toUInt32]
theorem qVJ {N:Nat} {o:Vector UInt32 64} {b:List UInt8} {w:Vector UInt32 64} {k:Nat} (hb:b.length=64) (hk:k < 16):(Zp N o b (w,(k:Int))).run some=some (.inl (qjF b k w,((k + 1:Nat):Int))):=by
 have g:∀ j < 4,qP b ((4:Int) * (k:Int) + ((j:Nat):Int))=some (b.getD (4 * k + j) 0):=fun j hj=>by
  rw [show (4:Int) * (k:Int) + ((j:Nat):Int)=((4 * k + j:Nat):Int) by omega]; exact zB (by omega)
 have g0:qP b ((4:Int) * (k:Int))=some (b.getD (4 * k) 0):=by have:=g 0 (by omega); simpa using this
 have g1:qP b ((4:Int) * (k:Int) + 1)=some (b.getD (4 * k + 1) 0):=g 1 (by omega)
 have g2:qP b ((4:Int) * (k:Int) + 2)=some (b.getD (4 * k + 2) 0):=g 2 (by omega)
 have g3:qP b ((4:Int) * (k:Int) + 3)=some (b.getD (4 * k + 3) 0):=g 3 (by omega)
 have c0:qj ((4:Int) * (k:Int)):=by unfold qj; omega
 have c1:qj ((4:Int) * (k:Int) + 1):=by unfold qj; omega
 have c2:qj ((4:Int) * (k:Int) + 2):=by unfold qj; omega
 have c3:qj ((4:Int) * (k:Int) + 3):=by unfold qj; omega
 have c4:qj ((k:Int) + 1):=by unfold qj; omega
 have d1:decide ((k:Int) < 64)=true:=decide_eq_true (by omega)
 have d2:decide ((k:Int) < 16)=true:=decide_eq_true (by omega)
 have p8:(0:Int)≤8:=by omega
 have p16:(0:Int)≤16:=by omega
 have p24:(0:Int)≤24:=by omega
 have pk:(0:Int)≤(k:Int)∧(k:Int) < ((64:Nat):Int):=by omega
 have pk2:k < 64:=by omega
 unfold Zp qjF
 rw [if_pos hk]
 simp only [qG,run_bind,qM,qS,d1,d2,cond_true,qi c0,qi c1,qi c2,qi c3,g0,g1,g2,g3,Option.bind_some,qi p8,qi p16,qi p24,qvh,qCn _ 24 (by omega),qCn _ 16 (by omega),qCn _ 8 (by omega),qz2,qi (qFT _),qi pk,UInt32.ofNat_toNat,Int.toNat_natCast,qi pk2,qi c4]
 rw [qZ]
theorem qVG {N:Nat} {o:Vector UInt32 64} {b:List UInt8} {w:Vector UInt32 64} {k:Nat} (h1:¬ k < 16) (hk:k < 64):(Zp N o b (w,(k:Int))).run some=some (.inl (qjF b k w,((k + 1:Nat):Int))):=by
 have c4:qj ((k:Int) + 1):=by unfold qj; omega
 have d1:decide ((k:Int) < 64)=true:=decide_eq_true (by omega)
 have d2:decide ((k:Int) < 16)=false:=decide_eq_false (by omega)
 have e15:(k:Int) - 15=((k - 15:Nat):Int):=by omega
 have e2:(k:Int) - 2=((k - 2:Nat):Int):=by omega
 have e16:(k:Int) - 16=((k - 16:Nat):Int):=by omega
 have e7:(k:Int) - 7=((k - 7:Nat):Int):=by omega
 have i15:qj (((k - 15:Nat)):Int):=by unfold qj; omega
 have i2:qj (((k - 2:Nat)):Int):=by unfold qj; omega
 have i16:qj (((k - 16:Nat)):Int):=by unfold qj; omega
 have i7:qj (((k - 7:Nat)):Int):=by unfold qj; omega
 have p15:(0:Int)≤((k - 15:Nat):Int)∧((k - 15:Nat):Int) < ((64:Nat):Int):=by omega
 have p2:(0:Int)≤((k - 2:Nat):Int)∧((k - 2:Nat):Int) < ((64:Nat):Int):=by omega
 have p16:(0:Int)≤((k - 16:Nat):Int)∧((k - 16:Nat):Int) < ((64:Nat):Int):=by omega
 have p7:(0:Int)≤((k - 7:Nat):Int)∧((k - 7:Nat):Int) < ((64:Nat):Int):=by omega
 have q15:k - 15 < 64:=by omega
 have q2:k - 2 < 64:=by omega
 have q16:k - 16 < 64:=by omega
 have q7:k - 7 < 64:=by omega
 have p3:(0:Int)≤3:=by omega
 have p10:(0:Int)≤10:=by omega
 have pk:(0:Int)≤(k:Int)∧(k:Int) < ((64:Nat):Int):=by omega
 have r7:=fun x=>qle x 7 (by omega) (by omega)
 have r18:=fun x=>qle x 18 (by omega) (by omega)
 have r17:=fun x=>qle x 17 (by omega) (by omega)
 have r19:=fun x=>qle x 19 (by omega) (by omega)
 unfold Zp qjF
 rw [if_neg h1]
 simp only [qG,run_bind,qM,qS,d1,d2,cond_true,cond_false]
 rw [e15,e2,e16,e7]
 rw [qi i15,qi p15,Int.toNat_natCast,qi q15,qi i2,qi p2,Int.toNat_natCast,qi q2,qi i16,qi p16,Int.toNat_natCast,qi q16,qi i7,qi p7,Int.toNat_natCast,qi q7]
 show (Option.bind (jz (c32 (wAt w (k - 15))) ((7:Nat):Int)) _)=_
 rw [r7,Option.bind_some]
 show (Option.bind (jz (c32 (wAt w (k - 15))) ((18:Nat):Int)) _)=_
 rw [r18,Option.bind_some,qi p3]
 show (Option.bind (jz (c32 (wAt w (k - 2))) ((17:Nat):Int)) _)=_
 rw [r17,Option.bind_some]
 show (Option.bind (jz (c32 (wAt w (k - 2))) ((19:Nat):Int)) _)=_
 rw [r19,Option.bind_some,qi p10,qi pk]
 simp only [qfs,WS,qrV _ 3 (by omega),qrV _ 10 (by omega),qi (qFT _),Int.toNat_natCast,UInt32.ofNat_toNat,qi hk,qi c4]
 rw [qZ]
theorem qSK {N:Nat} {b:List UInt8} (hN:64 < N) (hb:b.length=64):qgU N b=some (qr8 b):=by
 have key:qhD N (Vector.replicate 64 0) b (Vector.replicate 64 0) 0=some (qr8 b,(64:Int),false):=by
  refine (jW (σ:=Vector UInt32 64) (B:=Zp N (Vector.replicate 64 0) b) (g:=some) (at_:=fun k s=>(s,(k:Int))) (I:=fun _ _=>True) (f:=qjF b) (n:=64)
   (fin:=fun s=>(s,(64:Int),false)) (fun k s hk _=>⟨?_,trivial⟩) (fun s _=>?_) N 0 (Vector.replicate 64 0) trivial (Nat.zero_le _) (by omega))
  ·by_cases h:k < 16
   ·exact qVJ hb h
   ·exact qVG h hk
  ·unfold Zp
   rfl
 unfold qgU qii
 rw [run_bind,key,Option.bind_some,qS]
def tW (K w:Vector UInt32 64) (i:Nat) (x:Vector UInt32 8):UInt32:=wAt x 7 + (rot (wAt x 4) 6 ^^^ rot (wAt x 4) 11 ^^^ rot (wAt x 4) 25) + ((wAt x 4 &&& wAt x 5) ^^^ (~~~(wAt x 4) &&& wAt x 6)) + wAt K i + wAt w i
def uW (x:Vector UInt32 8):UInt32:=(rot (wAt x 0) 2 ^^^ rot (wAt x 0) 13 ^^^ rot (wAt x 0) 22) + ((wAt x 0 &&& wAt x 1) ^^^ (wAt x 0 &&& wAt x 2) ^^^ (wAt x 1 &&& wAt x 2))
def qig (K w:Vector UInt32 64) (i:Nat) (x:Vector UInt32 8):Vector UInt32 8:=
 ((qaJ x 1 7).setIfInBounds 0 (tW K w i x + uW x)).setIfInBounds 4 (wAt ((qaJ x 1 7).setIfInBounds 0 (tW K w i x + uW x)) 4 + tW K w i x)
def qAs (x:Vector UInt32 8) (k:Nat) (s:Vector UInt32 8):Vector UInt32 8:=s.setIfInBounds k (wAt s k + wAt x k)
def qrI (s:Vector UInt32 8) (K:Vector UInt32 64) (b:List UInt8):Vector UInt32 8:=zZ (qAs (zZ (qig K (qr8 b)) 64 0 s)) 8 0 s
theorem qVv {N:Nat} {s:Vector UInt32 8} {K w:Vector UInt32 64} {x:Vector UInt32 8} {k:Nat} (hk:k < 64):(VA N s K w (x,(k:Int))).run some=some (.inl (qig K w k x,((k + 1:Nat):Int))):=by
 have c4:qj ((k:Int) + 1):=by unfold qj; omega
 have d1:decide ((k:Int) < 64)=true:=decide_eq_true (by omega)
 have pk:(0:Int)≤(k:Int)∧(k:Int) < ((64:Nat):Int):=by omega
 have hj:∀ j < 8,(0:Int)≤((j:Nat):Int)∧((j:Nat):Int) < ((8:Nat):Int):=fun j hj=>by omega
 have j0:(0:Int)≤(0:Int)∧(0:Int) < ((8:Nat):Int):=hj 0 (by omega)
 have j1:(0:Int)≤(1:Int)∧(1:Int) < ((8:Nat):Int):=hj 1 (by omega)
 have j2:(0:Int)≤(2:Int)∧(2:Int) < ((8:Nat):Int):=hj 2 (by omega)
 have j4:(0:Int)≤(4:Int)∧(4:Int) < ((8:Nat):Int):=hj 4 (by omega)
 have j5:(0:Int)≤(5:Int)∧(5:Int) < ((8:Nat):Int):=hj 5 (by omega)
 have j6:(0:Int)≤(6:Int)∧(6:Int) < ((8:Nat):Int):=hj 6 (by omega)
 have j7:(0:Int)≤(7:Int)∧(7:Int) < ((8:Nat):Int):=hj 7 (by omega)
 have n0:0 < 8:=by omega
 have n1:1 < 8:=by omega
 have n2:2 < 8:=by omega
 have n4:4 < 8:=by omega
 have n5:5 < 8:=by omega
 have n6:6 < 8:=by omega
 have n7:7 < 8:=by omega
 have r:=fun x n h h0=>qle x n h h0
 unfold VA qig tW uW
 rw [qG,d1,cond_true]
 simp only [run_bind,qM,qS]
 rw [qi j0,qi n0,qi j4,qi n4,qi j7,qi n7]
 show (Option.bind (jz (c32 (wAt x 4)) ((6:Nat):Int)) _)=_
 rw [r _ 6 (by omega) (by omega),Option.bind_some]
 show (Option.bind (jz (c32 (wAt x 4)) ((11:Nat):Int)) _)=_
 rw [r _ 11 (by omega) (by omega),Option.bind_some]
 show (Option.bind (jz (c32 (wAt x 4)) ((25:Nat):Int)) _)=_
 rw [r _ 25 (by omega) (by omega),Option.bind_some,qi j5,qi n5,qi j6,qi n6,qi pk,Int.toNat_natCast,qi hk]
 rw [qi pk,qi hk]
 show (Option.bind (jz (c32 (wAt x 0)) ((2:Nat):Int)) _)=_
 rw [r _ 2 (by omega) (by omega),Option.bind_some]
 show (Option.bind (jz (c32 (wAt x 0)) ((13:Nat):Int)) _)=_
 rw [r _ 13 (by omega) (by omega),Option.bind_some]
 show (Option.bind (jz (c32 (wAt x 0)) ((22:Nat):Int)) _)=_
 rw [r _ 22 (by omega) (by omega),Option.bind_some]
 rw [qi j1,qi n1,qi j2,qi n2,qi j1,qi n1,qi j2,qi n2,qi j0]
 simp only [qfs,qr5,qVT,WS,qi (qFT _),Int.toNat_natCast,UInt32.ofNat_toNat,qi n0,qi j4,qi n4,qi c4]
 rw [qZ]
theorem qK8 {N:Nat} {s:Vector UInt32 8} {K:Vector UInt32 64} {b:List UInt8} (hN:64 < N) (hb:b.length=64):KC N s K b=some (qrI s K b):=by
 have k1:qd_ N s K (qr8 b) s 0=some (zZ (qig K (qr8 b)) 64 0 s,(64:Int),false):=by
  refine (jW (σ:=Vector UInt32 8) (B:=VA N s K (qr8 b)) (g:=some) (at_:=fun k s=>(s,(k:Int))) (I:=fun _ _=>True) (f:=qig K (qr8 b)) (n:=64)
   (fin:=fun s=>(s,(64:Int),false)) (fun k x hk _=>⟨qVv hk,trivial⟩) (fun x _=>?_) N 0 s trivial (Nat.zero_le _) (by omega))
  unfold VA
  rfl
 have k2:∀ x:Vector UInt32 8,qcB N K x s 0=some (zZ (qAs x) 8 0 s,(8:Int),false):=fun x=>by
  refine (jW (σ:=Vector UInt32 8) (B:=Wh N K x) (g:=some) (at_:=fun k s=>(s,(k:Int))) (I:=fun _ _=>True) (f:=qAs x) (n:=8)
   (fin:=fun s=>(s,(8:Int),false)) (fun k y hk _=>⟨?_,trivial⟩) (fun y _=>?_) N 0 s trivial (Nat.zero_le _) (by omega))
  ·have c4:qj ((k:Int) + 1):=by unfold qj; omega
   have d1:decide ((k:Int) < 8)=true:=decide_eq_true (by omega)
   have pk:(0:Int)≤(k:Int)∧(k:Int) < ((8:Nat):Int):=by omega
   unfold Wh qAs
   simp only [qG,run_bind,qM,qS,d1,cond_true]
   rw [qi pk,Int.toNat_natCast,qi hk,qi pk,qi hk,qi pk]
   simp only [WS,qi (qFT _),Int.toNat_natCast,UInt32.ofNat_toNat,qi hk,qi c4]
   rw [qZ]
  ·unfold Wh
   rfl
 unfold KC qfG
 rw [run_bind,qSK hN hb,Option.bind_some,run_bind,k1,Option.bind_some,run_bind,k2,Option.bind_some,qS]
 rfl
end Go.Rx
end
