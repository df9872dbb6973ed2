/- A machine over pure data, sound for the model: a part of the proof of the laws. No condition. -/
import Derived.Calls
import Derived.Orders
import Derived.Laws.StructEq
import Derived.Stop.BytesEq
import Derived.Laws.BytesString
import Derived.Laws.Cells
import Derived.Laws.Tables
import Derived.Laws.Strings
set_option linter.unusedSimpArgs false
set_option linter.unusedVariables false
set_option linter.unusedSectionVars false
noncomputable section
namespace Go.Rx
inductive PV where
 | b (x:Bool)
 | i (k:IntKind) (n:Int)
 | s (x:List UInt8)
 | ba (n:Nat) (x:Vector UInt8 n)
 | wa (n:Nat) (x:Vector UInt32 n)
 | ag (xs:List PV)
 | l (sz:Nat) (xs:List PV)
 | bl (xs:List UInt8)
 deriving Inhabited
mutual
def PV.size:PV→Nat
 | .ba n _=>n
 | .wa n _=>n
 | .ag xs=>PV.jo xs
 | .b _ | .i _ _ | .s _ | .l _ _ | .bl _=>1
def PV.jo:List PV→Nat
 | []=>0
 | x::xs=>x.size + PV.jo xs
end
def u8 (c:UInt8):PV:=.i .u8 c.toNat
def u32 (c:UInt32):PV:=.i .u32 c.toNat
def PV.len:PV→Nat
 | .l _ xs=>xs.length
 | .bl xs=>xs.length
 | _=>0
def PV.JY:PV→Bool
 | .l _ _ | .bl _=>true
 | _=>false
def PV.zl:PV→Nat→Option PV
 | .l _ xs,k=>xs[k]?
 | .bl xs,k=>(xs[k]?).map u8
 | _,_=>none
def PV.app:PV→PV→Option PV
 | .l sz xs,.l sz' ys=>match sz == sz' with
  | true=>some (.l sz (xs++ys))
  | false=>none
 | .bl xs,.bl ys=>some (.bl (xs++ys))
 | .bl xs,.s ys=>some (.bl (xs++ys))
 | _,_=>none
def PV.sub:PV→Nat→Nat→PV
 | .l sz xs,lo,hi=>.l sz ((xs.take hi).drop lo)
 | .bl xs,lo,hi=>.bl ((xs.take hi).drop lo)
 | x,_,_=>x
inductive AV where
 | pv (x:PV)
 | ag (xs:List AV)
 | nils
 | v (l n:Nat)
 | p (l:Nat) (path:List Nat) (off:Nat)
 | pe (l n:Nat) (path:List Nat) (off:Nat)
 | ro (x:PV)
 | nilp
 | m (l:Nat)
 | nilm
 | fn (f:Fn) (first cap:List AV)
 | nilf
 | iface (t:TypeId) (x:AV)
 | nili
 | tup (xs:List AV)
 | yl (l:Nat)
 | es (k:Nat)
 | undef
 deriving Inhabited
mutual
def AV.size:AV→Nat
 | .pv x=>x.size
 | .ag xs=>AV.jo xs
 | .nils | .v .. | .p .. | .pe .. | .ro _ | .nilp | .m _ | .nilm | .fn .. | .nilf | .iface .. | .nili | .tup _ | .yl _ | .es _ | .undef=>1
def AV.jo:List AV→Nat
 | []=>0
 | x::xs=>x.size + AV.jo xs
end
mutual
def AV.names:AV→List Nat
 | .v l _ | .p l _ _ | .pe l _ _ _ | .m l | .yl l=>[l]
 | .ag xs | .tup xs=>AV.q9 xs
 | .fn _ a b=>AV.q9 a++AV.q9 b
 | .iface _ x=>x.names
 | .pv _ | .nils | .ro _ | .nilp | .nilm | .nilf | .nili | .undef | .es _=>[]
def AV.q9:List AV→List Nat
 | []=>[]
 | x::xs=>x.names++AV.q9 xs
end
def AV.isAgg:AV→Bool
 | .pv (.ba ..) | .pv (.wa ..) | .pv (.ag _) | .ag _=>true
 | _=>false
def AV.Z7:List AV→Option (List PV)
 | []=>some []
 | .pv x::xs=>(AV.Z7 xs).map (x::·)
 | _::_=>none
def AV.mk (xs:List AV):AV:=
 match AV.Z7 xs with
 | some ys=>.pv (.ag ys)
 | none=>.ag xs
def AV.at:List Nat→AV→Option AV
 | [],x=>some x
 | k::r,.pv (.ag xs)=>match xs[k]? with
  | some y=>AV.at r (.pv y)
  | none=>none
 | k::r,.ag xs=>match xs[k]? with
  | some y=>AV.at r y
  | none=>none
 | [k],.pv (.ba _ x)=>some (.pv (u8 (x.toList.getD k 0)))
 | [k],.pv (.wa _ x)=>some (.pv (u32 (x.toList.getD k 0)))
 | _::_,_=>none
def AV.zN:List Nat→AV→Option Nat
 | [],_=>some 0
 | k::r,.pv (.ag xs)=>match xs[k]? with
  | some y=>(AV.zN r (.pv y)).map (PV.jo (xs.take k) + ·)
  | none=>none
 | k::r,.ag xs=>match xs[k]? with
  | some y=>(AV.zN r y).map (AV.jo (xs.take k) + ·)
  | none=>none
 | [k],.pv (.ba _ _)=>some k
 | [k],.pv (.wa _ _)=>some k
 | _::_,_=>none
def AV.inR:List Nat→AV→List Prop
 | [],_=>[]
 | k::r,.pv (.ag xs)=>match xs[k]? with
  | some y=>AV.inR r (.pv y)
  | none=>[]
 | k::r,.ag xs=>match xs[k]? with
  | some y=>AV.inR r y
  | none=>[]
 | [k],.pv (.ba n _)=>[k < n]
 | [k],.pv (.wa n _)=>[k < n]
 | _::_,_=>[]
inductive jc where
 | cell (ro:Bool) (x:AV)
 | vec (fz:Bool) (sz:Nat) (x:PV)
 | fns (xs:List AV)
 | map (clock:Nat) (es:List (PV×AV×Nat))
 | loop (params:List Tmp) (n:Nat) (slots:List (Nat×AV)) (assign body:Code) (fn:FuncId) (state:LoopState) (pending:Option Code) (d:Nat)
 | dfr (o:Bool)
 deriving Inhabited
def AV.Y1:AV→Bool
 | .pv _=>true
 | _=>false
def jc.names:jc→List Nat
 | .cell _ x=>x.names
 | .vec ..=>[]
 | .fns xs=>AV.q9 xs
 | .map _ _=>[]
 | .loop _ _ sl _ _ _ _ _ d=>d::AV.q9 (sl.map (·.2))
 | .dfr _=>[]
abbrev Sl:=List (Nat×AV)
abbrev Ob:=List (Nat×jc)
@[irreducible] def get {α:Type} (h:List (Nat×α)) (k:Nat):Option α:=@List.rec (Nat×α) (fun _=>Option α) none (fun e _ ih=>@Bool.rec (fun _=>Option α) ih (some e.2) (Nat.beq e.1 k)) h
theorem get_nil {α:Type} (k:Nat):get ([]:List (Nat×α)) k=none:=by with_unfolding_all rfl
theorem zK {α:Type} (a:Nat) (x:α) (r:List (Nat×α)) (k:Nat):get ((a,x)::r) k=if a=k then some x else get r k:=by
 have e0:get ((a,x)::r) k=@Bool.rec (fun _=>Option α) (get r k) (some x) (Nat.beq a k):=by with_unfolding_all rfl
 rw [e0]
 by_cases h:a=k
 ·subst h; rw [if_pos rfl,show Nat.beq a a=true from Nat.beq_refl a]
 ·rw [if_neg h]
  cases e:Nat.beq a k with
  | true=>exact (h (Nat.eq_of_beq_eq_true e)).elim
  | false=>rfl
@[irreducible] def ins {α:Type} (k:Nat) (x:α) (h:List (Nat×α)):List (Nat×α):=@List.rec (Nat×α) (fun _=>List (Nat×α)) [(k,x)] (fun e r ih=>@Bool.rec (fun _=>List (Nat×α)) ((k,x)::e::r) (@Bool.rec (fun _=>List (Nat×α)) (e::ih) ((k,x)::r) (Nat.beq e.1 k)) (Nat.ble e.1 k)) h
theorem qpo {α:Type} (k:Nat) (x:α):ins k x []=[(k,x)]:=by with_unfolding_all rfl
theorem qqT {α:Type} (k:Nat) (x:α) (a:Nat) (y:α) (r:List (Nat×α)):ins k x ((a,y)::r)=if k < a then (k,x)::(a,y)::r else if k=a then (k,x)::r else (a,y)::ins k x r:=by
 have e0:ins k x ((a,y)::r)=@Bool.rec (fun _=>List (Nat×α)) ((k,x)::(a,y)::r) (@Bool.rec (fun _=>List (Nat×α)) ((a,y)::ins k x r) ((k,x)::r) (Nat.beq a k)) (Nat.ble a k):=by with_unfolding_all rfl
 rw [e0]
 by_cases h:k < a
 ·rw [if_pos h]
  cases e:Nat.ble a k with
  | true=>exact absurd (Nat.le_of_ble_eq_true e) (by omega)
  | false=>rfl
 ·rw [if_neg h,show Nat.ble a k=true from Nat.ble_eq_true_of_le (by omega)]
  by_cases h2:k=a
  ·subst h2; rw [if_pos rfl,show Nat.beq k k=true from Nat.beq_refl k]
  ·rw [if_neg h2]
   cases e:Nat.beq a k with
   | true=>exact (h2 (Nat.eq_of_beq_eq_true e).symm).elim
   | false=>rfl
def WS {α:Type}:List (Nat×α)→List (Nat×α)→List (Nat×α)
 | [],h=>h
 | (k,x)::r,h=>ins k x (WS r h)
def only {α:Type} (ks:List Nat) (h:List (Nat×α)):List (Nat×α):=h.filter fun e=>ks.contains e.1
def dom {α:Type} (h:List (Nat×α)):List Nat:=h.map (·.1)
structure St where
 lvl:Nat
 n:Nat
 keep:List Nat
 sl:Sl
 ob:Ob
 rnd:Bool:=false
 dfs:List Nat:=[]
 deriving Inhabited
inductive TK where
 | bool | int (k:IntKind) | str | ptr (e:TypeId) | slice (e:TypeId) | map (k e:TypeId) | func | iface
 | bytes (n:Nat)
 | words (n:Nat)
 | arr (n:Nat) (e:TypeId)
 | struct (fs:List (TypeId×Nat))
 | tuple
 deriving Inhabited
def qE (P:Program) (t:TypeId):Nat:=((P.info? t).map (·.size)).getD 0
def bytesOf (P:Program) (t:TypeId):Nat:=((P.info? t).map (·.bytes)).getD 0
def qy (P:Program) (t:TypeId):Option TK:=
 match P.underlying t with
 | some .bool=>some .bool
 | some (.int k)=>some (.int k)
 | some .string=>some .str
 | some (.pointer e)=>some (.ptr e)
 | some (.slice e)=>match P.info? e with
  | some _=>some (.slice e)
  | none=>none
 | some (.map k e)=>some (.map k e)
 | some (.func ..)=>some .func
 | some (.interface _)=>some .iface
 | some (.array n e)=>match P.underlying e with
  | some (.int .u8)=>match qE P e == 1 with
   | true=>some (.bytes n)
   | false=>none
  | some (.int .u32)=>match qE P e == 1 with
   | true=>some (.words n)
   | false=>none
  | some _=>some (.arr n e)
  | none=>none
 | some (.struct fs)=>some (.struct (fs.toList.map fun f=>(f.type,f.offset)))
 | some (.tuple _)=>some .tuple
 | _=>none
mutual
def fit (P:Program):Nat→TypeId→AV→Bool
 | 0,_,_=>false
 | d + 1,t,x=>
  match qy P t,x with
  | some .bool,.pv (.b _)=>true
  | some (.int k),.pv (.i k' _)=>k == k'
  | some .str,.pv (.s _)=>true
  | some (.bytes n),.pv (.ba m _)=>n == m
  | some (.words n),.pv (.wa m _)=>n == m
  | some (.slice e),.pv (.l sz _)=>sz == qE P e&&!(qy P e matches some (.int .u8))
  | some (.slice e),.pv (.bl _)=>qE P e == 1&&(qy P e matches some (.int .u8))
  | some (.slice _),.nils=>true
  | some (.slice _),.v _ _=>true
  | some (.ptr _),.p _ _ _=>true
  | some (.ptr _),.pe _ _ _ _=>true
  | some (.ptr _),.ro _=>true
  | some (.ptr _),.nilp=>true
  | some (.map _ _),.m _=>true
  | some (.map _ _),.nilm=>true
  | some .func,.fn _ _ _=>true
  | some .func,.nilf=>true
  | some (.slice _),.es _=>true
  | some .func,.yl _=>true
  | some .iface,.iface _ _=>true
  | some .iface,.nili=>true
  | some (.arr n e),.pv (.ag xs)=>xs.length == n&&xs.all fun x=>qE P e == x.size&&fit P d e (.pv x)
  | some (.arr n e),.ag xs=>xs.length == n&&xs.all fun x=>qE P e == x.size&&fit P d e x
  | some (.struct fs),.pv (.ag xs)=>fits P d fs (xs.map .pv) 0
  | some (.struct fs),.ag xs=>fits P d fs xs 0
  | _,_=>false
def fits (P:Program):Nat→List (TypeId×Nat)→List AV→Nat→Bool
 | 0,_,_,_=>false
 | _ + 1,[],[],_=>true
 | d + 1,(t,o)::fs,x::xs,n=>o == n&&qE P t == x.size&&fit P d t x&&fits P d fs xs (n + x.size)
 | _ + 1,_,_,_=>false
end
def zj (P:Program) (t:TypeId) (x:AV):Bool:=qE P t == x.size&&fit P 30 t x
end Go.Rx
end
noncomputable section
namespace Go.Rx
def qid (P:Program):Nat→TypeId→Option AV
 | 0,_=>none
 | d + 1,t=>
  match qy P t with
  | some .bool=>some (.pv (.b false))
  | some (.int k)=>some (.pv (.i k 0))
  | some .str=>some (.pv (.s []))
  | some (.ptr _)=>some .nilp
  | some (.slice _)=>some .nils
  | some (.map _ _)=>some .nilm
  | some .func=>some .nilf
  | some .iface=>some .nili
  | some (.bytes n)=>some (.pv (.ba n (Vector.replicate n 0)))
  | some (.words n)=>some (.pv (.wa n (Vector.replicate n 0)))
  | some (.arr n e)=>(qid P d e).map fun z=>AV.mk (List.replicate n z)
  | some (.struct fs)=>(fs.mapM fun f=>qid P d f.1).map AV.mk
  | _=>none
def qO3:Value→Value→Bool
 | .bool a,.bool b=>a == b
 | .int k a,.int j b=>k == j&&a == b
 | .string a,.string b=>a.size == 0&&b.size == 0
 | .pointer none,.pointer none=>true
 | .slice none 0 0,.slice none 0 0=>true
 | .map none,.map none=>true
 | .nilFunc,.nilFunc=>true
 | .nilIface,.nilIface=>true
 | _,_=>false
mutual
def qbL:PV→Option (List Value)
 | .b x=>some [.bool x]
 | .i k n=>some [.int k n]
 | .s []=>some [.string ⟨#[]⟩]
 | .ba _ x=>some (x.toList.map fun c=>.int .u8 c.toNat)
 | .wa _ x=>some (x.toList.map fun c=>.int .u32 c.toNat)
 | .ag xs=>qpM xs
 | _=>none
def qpM:List PV→Option (List Value)
 | []=>some []
 | x::xs=>match qbL x,qpM xs with
  | some a,some b=>some (a++b)
  | _,_=>none
end
mutual
def Vz:AV→Option (List Value)
 | .pv x=>qbL x
 | .ag xs=>qtL xs
 | .nils=>some [.slice none 0 0]
 | .nilp=>some [.pointer none]
 | .nilm=>some [.map none]
 | .nilf=>some [.nilFunc]
 | .nili=>some [.nilIface]
 | _=>none
def qtL:List AV→Option (List Value)
 | []=>some []
 | x::xs=>match Vz x,qtL xs with
  | some a,some b=>some (a++b)
  | _,_=>none
end
def allEq:List Value→List Value→Bool
 | [],[]=>true
 | a::as0,b::bs=>qO3 a b&&allEq as0 bs
 | _,_=>false
def qQb:Value→Bool
 | .agg _=>true
 | _=>false
def zOK (P:Program) (t:TypeId) (x:AV):Bool:=
 match (P.info? t).bind (·.zero),Vz x with
 | some z,some cs=>allEq z.cells.toList cs&&qQb z == x.isAgg
 | _,_=>false
def zeroOf (P:Program) (t:TypeId):Option AV:=
 match qid P 20 t with
 | some x=>if zOK P t x&&zj P t x then some x else none
 | none=>none
def ofConst:Value→AV
 | .bool x=>.pv (.b x)
 | .int k n=>.pv (.i k n)
 | .string x=>.pv (.s x.data.toList)
 | .pointer none=>.nilp
 | .slice none 0 0=>.nils
 | .map none=>.nilm
 | .nilFunc=>.nilf
 | .nilIface=>.nili
 | _=>.undef
def All:List Prop→Prop
 | []=>True
 | [p]=>p
 | p::ps=>p∧All ps
abbrev R (α:Type):=Option (α×List Prop)
def qA {α:Type} (x:α):R α:=some (x,[])
def owe {α:Type} (p:Prop) (x:α):R α:=some (x,[p])
def Wp (ps:List Prop):R Unit:=some ((),ps)
def R.with {α β:Type} (x:R α) (f:α→R β):R β:=match x with
 | some (a,ps)=>match f a with
  | some (b,qs)=>some (b,ps++qs)
  | none=>none
 | none=>none
def qR {α:Type} (b:Bool) (x:R α):R α:=match b with
 | true=>x
 | false=>none
inductive Out where
 | ret (r:AV)
 | pan (v:AV)
 deriving Inhabited
inductive Ans where
 | pv (y:PV)
 | nat (k:Nat)
 | two (a b:Nat)
 | byte (c:UInt8)
 | word (c:UInt32)
 | call (o:Out) (h:Ob)
 | found (x:Option (AV×Nat))
 | ents (clock:Nat) (es:List (PV×AV×Nat))
 | entry (x:Option (AV×Nat)) (clock:Nat) (es:List (PV×AV×Nat))
 deriving Inhabited
def qvf (op:BinOp) (k:IntKind) (a b:Int):R PV:=
 match op with
 | .add=>qA (.i k (k.wrap (a + b)))
 | .sub=>qA (.i k (k.wrap (a - b)))
 | .mul=>qA (.i k (k.wrap (a * b)))
 | .quo=>owe (b≠0) (.i k (k.wrap (a.tdiv b)))
 | .rem=>owe (b≠0) (.i k (a.tmod b))
 | .and=>qA (.i k (k.wrap (BitVec.ofInt k.bits a &&& BitVec.ofInt k.bits b).toNat))
 | .or=>qA (.i k (k.wrap (BitVec.ofInt k.bits a ||| BitVec.ofInt k.bits b).toNat))
 | .xor=>qA (.i k (k.wrap (BitVec.ofInt k.bits a ^^^ BitVec.ofInt k.bits b).toNat))
 | .andNot=>qA (.i k (k.wrap (BitVec.ofInt k.bits a &&& ~~~BitVec.ofInt k.bits b).toNat))
 | .eql=>qA (.b (decide (a=b)))
 | .neq=>qA (.b (!decide (a=b)))
 | .lss=>qA (.b (decide (a < b)))
 | .leq=>qA (.b (decide (a≤b)))
 | .gtr=>qA (.b (decide (b < a)))
 | .geq=>qA (.b (decide (b≤a)))
 | _=>none
def qqW (op:BinOp) (k:IntKind) (a b:Int):R PV:=
 match op with
 | .shl=>owe (0≤b) (.i k (k.wrap (a * 2 ^ min b.toNat k.bits)))
 | .shr=>owe (0≤b) (.i k (a.fdiv (2 ^ min b.toNat k.bits)))
 | _=>none
def qDs:BinOp→Bool
 | .shl | .shr=>true
 | _=>false
def qAH (op:BinOp) (a b:List UInt8):R PV:=
 match op with
 | .add=>owe (a.length + b.length≤9223372036854775807) (.s (a++b))
 | .eql=>qA (.b (decide (a=b)))
 | .neq=>qA (.b (!decide (a=b)))
 | .lss=>qA (.b (Op.bytesLess a b))
 | .leq=>qA (.b (Op.bytesLess a b||decide (a=b)))
 | .gtr=>qA (.b (!(Op.bytesLess a b||decide (a=b))))
 | .geq=>qA (.b (!Op.bytesLess a b))
 | _=>none
mutual
def PV.eqb:PV→PV→Option Bool
 | .b x,.b y=>some (decide (x=y))
 | .i k x,.i j y=>match decide (k=j) with
  | true=>some (decide (x=y))
  | false=>none
 | .s x,.s y=>some (decide (x=y))
 | .ba _ x,.ba _ y=>some (decide (x.toList=y.toList))
 | .wa _ x,.wa _ y=>some (decide (x.toList=y.toList))
 | .ag xs,.ag ys=>PV.qn7 xs ys
 | _,_=>none
def PV.qn7:List PV→List PV→Option Bool
 | [],[]=>some true
 | x::xs,y::ys=>match PV.eqb x y,PV.qn7 xs ys with
  | some c,some e=>some (c&&e)
  | _,_=>none
 | _,_=>none
end
mutual
def eqT (P:Program):Nat→TypeId→Bool
 | 0,_=>false
 | d + 1,t=>match qy P t with
  | some .bool=>true
  | some (.int _)=>true
  | some .str=>true
  | some (.bytes _)=>true
  | some (.struct fs)=>!P.stoodInHeld t&&(P.fieldsOf t).toList.all (fun f=>f.name != "_")&&qu9 P d (fs.map (·.1))
  | _=>false
def qu9 (P:Program):Nat→List TypeId→Bool
 | 0,_=>false
 | _ + 1,[]=>true
 | d + 1,t::ts=>eqT P d t&&qu9 P d ts
end
def eqA (P:Program) (t:TypeId) (x y:AV):R Bool:=match qy P t,x,y with
 | some (.slice _),.pv (.l _ xs),.nils=>owe (xs≠[]) false
 | some (.slice _),.pv (.bl xs),.nils=>owe (xs≠[]) false
 | some (.slice _),.v _ n,.nils=>owe (n≠0) false
 | some (.slice _),.nils,.nils=>qA true
 | some (.ptr _),.nilp,.nilp=>qA true
 | some (.ptr _),.p _ _ _,.nilp=>qA false
 | some (.ptr _),.pe _ _ _ _,.nilp=>qA false
 | some (.ptr _),.ro _,.nilp=>qA false
 | some .func,.nilf,.nilf=>qA true
 | some .func,.fn _ _ _,.nilf=>qA false
 | some (.map _ _),.nilm,.nilm=>qA true
 | some (.map _ _),.m _,.nilm=>qA false
 | some .iface,.iface _ _,.nili=>qA false
 | some (.slice _),.es k,.nils=>qA (Nat.beq k 1)
 | _,.pv x,.pv y=>qR (zj P t (.pv x)&&zj P t (.pv y)&&eqT P 30 t&&!(P.eqGuardType P.depth t)) (match PV.eqb x y with
  | some b=>qA b
  | none=>none)
 | _,_,_=>none
def rPV (x:R PV):R AV:=match x with
 | some (y,ps)=>some (.pv y,ps)
 | none=>none
def qyW (P:Program) (op:BinOp) (t:TypeId) (x y:AV):R AV:=
 match x,y with
 | .pv (.i k a),.pv (.i j b)=>match qDs op with
  | true=>rPV (qqW op k a b)
  | false=>qR (decide (k=j)) (rPV (qvf op k a b))
 | .pv (.s a),.pv (.s b)=>rPV (qAH op a b)
 | x,y=>match op with
  | .eql=>match eqA P t x y with
   | some (b,ps)=>some (.pv (.b b),ps)
   | none=>none
  | .neq=>match eqA P t x y with
   | some (b,ps)=>some (.pv (.b (!b)),ps)
   | none=>none
  | _=>none
def unA (op:UnOp) (x:AV):R AV:=
 match op,x with
 | .not,.pv (.b x)=>qA (.pv (.b (!x)))
 | .neg,.pv (.i k n)=>qA (.pv (.i k (k.wrap (0 - n))))
 | .xor,.pv (.i k n)=>rPV (qvf .xor k (if k.signed then -1 else k.max) n)
 | _,_=>none
def Jm (P:Program) (e:TypeId):Bool:=match qy P e with
 | some (.int .u8)=>true
 | _=>false
def qjW (P:Program) (src dst:TypeId) (x:AV):R AV:=
 match qy P src,qy P dst,x with
 | some (.int _),some (.int k),.pv (.i _ n)=>qA (.pv (.i k (k.wrap n)))
 | some .str,some .str,.pv (.s x)=>qA (.pv (.s x))
 | some .str,some (.slice e),.pv (.s x)=>qR (Jm P e) (owe (x.length≤140737488355328) (.pv (.bl x)))
 | some (.slice e),some .str,.pv (.bl x)=>qR (Jm P e) (qA (.pv (.s x)))
 | some (.slice e),some .str,.nils=>qR (Jm P e) (qA (.pv (.s [])))
 | _,_,_=>none
def idx (an:Option Ans) (i:Int) (n:Nat):R Nat:=match an with
 | some (.nat k)=>owe (i=k∧k < n) k
 | _=>owe (0≤i∧i < n) i.toNat
def elemAt (an:Option Ans) (x:PV) (i:Int):R PV:=match an with
 | some (.pv y)=>owe (0≤i∧x.zl i.toNat=some y) y
 | _=>match x.zl i.toNat with
  | some y=>owe (0≤i) y
  | none=>none
def asInt:AV→Option Int
 | .pv (.i _ n)=>some n
 | _=>none
def bounds (an:Option Ans) (lo hi:Option AV) (n:Nat):R (Nat×Nat):=
 match (match lo with | none=>some 0 | some l=>asInt l),(match hi with | none=>some (n:Int) | some h=>asInt h) with
 | some l,some h=>match an with
  | some (.two a b)=>owe (l=a∧h=b∧a≤b∧b≤n) (a,b)
  | _=>owe (0≤l∧l≤h∧h≤n) (l.toNat,h.toNat)
 | _,_=>none
def asByte (an:Option Ans):PV→R UInt8
 | .i .u8 n=>match an with
  | some (.byte c)=>owe (n=c.toNat) c
  | _=>owe (0≤n∧n < 256) (UInt8.ofNat n.toNat)
 | _=>none
def qAY (an:Option Ans):PV→R UInt32
 | .i .u32 n=>match an with
  | some (.word c)=>owe (n=c.toNat) c
  | _=>owe (0≤n∧n < 4294967296) (UInt32.ofNat n.toNat)
 | _=>none
def qhf (an:Option Ans):List PV→R (List UInt8)
 | []=>qA []
 | x::xs=>(asByte an x).with fun c=>(qhf an xs).with fun cs=>qA (c::cs)
def qdI (an:Option Ans):PV→Nat→PV→R PV
 | .l sz xs,k,x=>qR (x.size == sz) (qA (.l sz (xs.set k x)))
 | .bl xs,k,x=>(asByte an x).with fun c=>qA (.bl (xs.set k c))
 | _,_,_=>none
def qhG (P:Program) (an:Option Ans) (e:TypeId) (xs:List PV):R PV:=match Jm P e with
 | true=>qR (qE P e == 1) ((qhf an xs).with fun cs=>qA (.bl cs))
 | false=>qR (xs.all (fun x=>x.size == qE P e&&fit P 30 e (.pv x))) (qA (.l (qE P e) xs))
def Qy (P:Program) (e:TypeId):PV:=match Jm P e with
 | true=>.bl []
 | false=>.l (qE P e) []
def qcH (P:Program) (e:TypeId):Bool:=match Jm P e with
 | true=>qE P e == 1
 | false=>true
def qc7:Nat→List (Nat×Operand)→Bool
 | _,[]=>true
 | n,(i,_)::r=>i == n&&qc7 (n + 1) r
def setAt (an:Option Ans):List Nat→AV→AV→R AV
 | [],_,y=>qA y
 | k::r,.pv (.ag xs),y=>match xs[k]? with
  | some z=>(setAt an r (.pv z) y).with fun z'=>qA (AV.mk ((xs.map AV.pv).set k z'))
  | none=>none
 | k::r,.ag xs,y=>match xs[k]? with
  | some z=>(setAt an r z y).with fun z'=>qA (AV.mk (xs.set k z'))
  | none=>none
 | [k],.pv (.ba n x),.pv y=>(asByte an y).with fun c=>owe (k < n) (.pv (.ba n (x.setIfInBounds k c)))
 | [k],.pv (.wa n x),.pv y=>(qAY an y).with fun c=>owe (k < n) (.pv (.wa n (x.setIfInBounds k c)))
 | _::_,_,_=>none
def qb3 (P:Program) (t:TypeId) (an:Option Ans) (z:AV):List (Nat×AV)→R AV
 | []=>qA z
 | (i,x)::r=>qR (match AV.at [i] z with | some y=>y.size == x.size | none=>false) ((setAt an [i] z x).with fun z'=>qR (zj P t z') (qb3 P t an z' r))
def ZQ (P:Program) (t:TypeId):Bool:=((P.info? t).bind (·.zero)).isSome&&(P.underlying t).isSome
def qa3 (P:Program) (t:TypeId) (f:Nat):Option (TypeId×Nat):=
 match qy P t with
 | some (.struct fs)=>fs[f]?
 | _=>none
def qN6 (n:Nat) (bs:List UInt8):Vector UInt8 n:=Vector.ofFn fun i=>bs.getD i 0
def ofO {α:Type} (x:Option α):R α:=match x with
 | some y=>qA y
 | none=>none
def AV.Ja:AV→Bool
 | .tup _ | .undef=>false
 | _=>true
def q6 (P:Program) (mkVec:Bool) (an:Option Ans) (val:Operand→AV):Op→R AV
 | .move x=>qA (val x)
 | .assign x=>qA (val x)
 | .pick c a b=>match val c with
  | .pv (.b x)=>match val a,val b with
   | .pv (.b y),.pv (.b z)=>qA (.pv (.b (match x with | true=>y | false=>z)))
   | y,z=>qA (match x with | true=>y | false=>z)
  | _=>none
 | .binOp op t x y _=>qyW P op t (val x) (val y)
 | .unOp op _ x=>unA op (val x)
 | .convert s d x=>qjW P s d (val x)
 | .nilCheck x=>match val x with
  | .p a b c=>qA (.p a b c)
  | .pe a b c d=>qA (.pe a b c d)
  | .ro x=>qA (.ro x)
  | .fn (.func f) a b=>qA (.fn (.func f) a b)
  | _=>none
 | .makeInterface t x=>match qy P t with
  | some .iface=>none
  | some _=>qR (zj P t (val x)) (qA (.iface t (val x)))
  | none=>none
 | .makeFunc f a b=>match f with
  | .func k=>qR ((a.toList.map val).all AV.Ja&&(b.toList.map val).all AV.Ja) (qA (.fn (.func k) (a.toList.map val) (b.toList.map val)))
  | _=>none
 | .extract x i=>match val x with
  | .tup xs=>ofO xs[i]?
  | _=>none
 | .build t parts=>match zeroOf P t with
  | some z=>qR z.isAgg (qb3 P t an z (parts.toList.map fun q=>(q.1,val q.2)))
  | none=>none
 | .buildSlice t n parts=>match qy P t with
  | some (.slice e)=>qR (!mkVec&&qc7 0 parts.toList&&n == parts.size&&n * qE P e≤16777216&&ZQ P e)
   (match AV.Z7 (parts.toList.map fun q=>val q.2) with
    | some xs=>rPV (qhG P an e xs)
    | none=>none)
  | _=>none
 | .field t x f=>match qa3 P t f with
  | some _=>qR (zj P t (val x)) (ofO (AV.at [f] (val x)))
  | none=>none
 | .index t x i=>match qy P t,val x,asInt (val i) with
  | some .str,.pv (.s bs),some i=>rPV (elemAt an (.bl bs) i)
  | some (.arr n _),x,some i=>qR (zj P t x) ((idx an i n).with fun k=>ofO (AV.at [k] x))
  | some (.bytes n),.pv (.ba m bs),some i=>qR (n == m) ((idx an i n).with fun k=>qA (.pv (u8 (bs.toList.getD k 0))))
  | some (.words n),.pv (.wa m bs),some i=>qR (n == m) ((idx an i n).with fun k=>qA (.pv (u32 (bs.toList.getD k 0))))
  | _,_,_=>none
 | .fieldAddr t x f=>match qa3 P t f,val x with
  | some (u,o),.p l path off=>qR (!(qE P u == 0)) (qA (.p l (path++[f]) (off + o)))
  | some (u,o),.pe l n path off=>qR (!(qE P u == 0)) (qA (.pe l n (path++[f]) (off + o)))
  | some (u,_),.ro x=>qR (!(qE P u == 0)&&zj P t (.pv x)) (match AV.at [f] (.pv x) with
   | some (.pv y)=>qA (.ro y)
   | _=>none)
  | _,_=>none
 | .indexAddr t x i=>match qy P t,val x,asInt (val i) with
  | some (.slice e),.pv x,some i=>(elemAt an x i).with fun y=>qR (y.size == qE P e) (qA (.ro y))
  | some (.slice e),.v l n,some i=>(idx an i n).with fun k=>qA (.pe l n [k] (k * qE P e))
  | some (.arr n e),.p l path off,some i=>(idx an i n).with fun k=>qA (.p l (path++[k]) (off + k * qE P e))
  | some (.bytes n),.p l path off,some i=>(idx an i n).with fun k=>qA (.p l (path++[k]) (off + k))
  | some (.words n),.p l path off,some i=>(idx an i n).with fun k=>qA (.p l (path++[k]) (off + k))
  | some (.words n),.ro (.wa m bs),some i=>qR (n == m) ((idx an i n).with fun k=>qA (.ro (u32 (bs.toList.getD k 0))))
  | some (.bytes n),.ro (.ba m bs),some i=>qR (n == m) ((idx an i n).with fun k=>qA (.ro (u8 (bs.toList.getD k 0))))
  | _,_,_=>none
 | .slice t x lo hi none=>match qy P t,val x with
  | some .str,.pv (.s bs)=>(bounds an (lo.map val) (hi.map val) bs.length).with fun (l,h)=>qA (.pv (.s ((bs.take h).drop l)))
  | some (.slice e),.pv x=>qR (x.JY&&zj P t (.pv x)) ((bounds an (lo.map val) (hi.map val) x.len).with fun (l,h)=>qA (.pv (x.sub l h)))
  | some (.slice _),.nils=>(bounds an (lo.map val) (hi.map val) 0).with fun _=>qA .nils
  | some (.bytes n),.ro (.ba m bs)=>qR (n == m&&lo.isNone&&hi.isNone) (qA (.pv (.bl bs.toList)))
  | _,_=>none
 | .slice t x lo (some hi) (some mx)=>match qy P t,val x,asInt (val mx) with
  | some (.slice _),.pv x,some m=>qR (x.JY&&zj P t (.pv x)) ((bounds an (lo.map val) (some (val hi)) x.len).with fun (l,h)=>owe ((h:Int)≤m∧m≤(x.len:Int)) (.pv (x.sub l h)))
  | _,_,_=>none
 | .sliceToArrayPointer t x=>match qy P t,val x with
  | some (.bytes n),.pv (.bl bs)=>owe (n≤bs.length∧n≠0) (.ro (.ba n (qN6 n bs)))
  | _,_=>none
 | .typeAssert x _ t commaOk=>match qy P t,val x with
  | some .iface,_=>none
  | some _,.iface u y=>match decide (u=t) with
   | true=>qA (match commaOk with | true=>.tup [y,.pv (.b true)] | false=>y)
   | false=>match commaOk,zeroOf P t with
    | true,some z=>qA (.tup [z,.pv (.b false)])
    | _,_=>none
  | some _,.nili=>match commaOk,zeroOf P t with
   | true,some z=>qA (.tup [z,.pv (.b false)])
   | _,_=>none
  | _,_=>none
 | .call c=>match c.callee with
  | .builtin .len=>match c.argTypes.toList.map (qy P),c.args.toList.map val with
   | [some .str],[.pv (.s bs)]=>qA (.pv (.i .i64 bs.length))
   | [some (.slice _)],[.pv (.l _ xs)]=>qA (.pv (.i .i64 xs.length))
   | [some (.slice _)],[.pv (.bl xs)]=>qA (.pv (.i .i64 xs.length))
   | [some (.slice _)],[.v _ n]=>qA (.pv (.i .i64 n))
   | [some (.slice _)],[.nils]=>qA (.pv (.i .i64 0))
   | [some (.map _ _)],[.nilm]=>qA (.pv (.i .i64 0))
   | [some (.slice _)],[.es _]=>qA (.pv (.i .i64 0))
   | _,_=>none
  | .builtin .min=>match c.args.toList.map val with
   | [.pv (.i .i64 a),.pv (.i .i64 b)]=>qA (.pv (.i .i64 (if b < a then b else a)))
   | _=>none
  | .builtin .max=>match c.args.toList.map val with
   | [.pv (.i .i64 a),.pv (.i .i64 b)]=>qA (.pv (.i .i64 (if a < b then b else a)))
   | _=>none
  | _=>none
 | _=>none
abbrev jN:=List (PV×AV×Nat)
mutual
def PV.alike:PV→PV→Bool
 | .b _,.b _=>true
 | .i k _,.i j _=>decide (k=j)
 | .s _,.s _=>true
 | .ba n _,.ba m _=>Nat.beq n m
 | .wa n _,.wa m _=>Nat.beq n m
 | .ag xs,.ag ys=>PV.QT xs ys
 | _,_=>false
def PV.QT:List PV→List PV→Bool
 | [],[]=>true
 | x::xs,y::ys=>match PV.alike x y with
  | true=>PV.QT xs ys
  | false=>false
 | _,_=>false
end
def KM (k j:PV):Option Bool:=match PV.alike k j with
 | true=>PV.eqb k j
 | false=>none
def Z9 (k:PV):jN→Option (Option Nat)
 | []=>some none
 | (j,_,_)::r=>match KM k j with
  | some true=>some (some 0)
  | some false=>match Z9 k r with
   | some i=>some (i.map (· + 1))
   | none=>none
  | none=>none
def Vb (k:PV):jN→Option (Option (AV×Nat))
 | []=>some none
 | (j,x,n)::r=>match KM k j with
  | some true=>some (some (x,n))
  | some false=>Vb k r
  | none=>none
def qaF (k:PV) (x:AV) (clock:Nat):jN→Option (Nat×jN)
 | []=>some (clock + 1,[(k,x,clock)])
 | (j,y,n)::r=>match KM k j with
  | some true=>some (clock,(k,x,n)::r)
  | some false=>match qaF k x clock r with
   | some (c,es)=>some (c,(j,y,n)::es)
   | none=>none
  | none=>none
def qbY (k:PV):jN→Option jN
 | []=>some []
 | (j,y,n)::r=>match KM k j with
  | some true=>some r
  | some false=>match qbY k r with
   | some es=>some ((j,y,n)::es)
   | none=>none
  | none=>none
def qgd (born:Int) (x:AV):jN→Option jN
 | []=>none
 | (j,y,n)::r=>match decide ((n:Int)=born) with
  | true=>some ((j,x,n)::r)
  | false=>match qgd born x r with
   | some es=>some ((j,y,n)::es)
   | none=>none
def qjX (an:Option Ans) (k:PV) (es:jN):R (Option (AV×Nat)):=match an with
 | some (.found r)=>owe (Vb k es=some r) r
 | _=>ofO (Vb k es)
def qns (an:Option Ans) (k:PV) (x:AV) (clock:Nat) (es:jN):R (Nat×jN):=match an with
 | some (.ents c es')=>owe (qaF k x clock es=some (c,es')) (c,es')
 | _=>ofO (qaF k x clock es)
def qNI (an:Option Ans) (k:PV) (es:jN):R jN:=match an with
 | some (.ents _ es')=>owe (qbY k es=some es') es'
 | _=>ofO (qbY k es)
def atO (an:Option Ans) (born:Int) (x:AV) (es:jN):R jN:=match an with
 | some (.ents _ es')=>owe (qgd born x es=some es') es'
 | _=>ofO (qgd born x es)
def partAt (P:Program) (t:TypeId) (path:List Nat) (off:Nat) (c:AV):R AV:=
 match AV.zN path c,AV.at path c with
 | some o,some x=>qR (o == off&&zj P t x) (some (x,AV.inR path c))
 | _,_=>none
def qG0 (an:Option Ans) (sz:Nat) (x:PV) (path:List Nat) (off:Nat):R PV:=
 match path with
 | k::r=>(elemAt an x k).with fun y=>match AV.zN r (.pv y),AV.at r (.pv y) with
  | some o,some (.pv z)=>some (z,(off=k * sz + o)::AV.inR r (.pv y))
  | _,_=>none
 | []=>none
def jO (P:Program) (an:Option Ans) (val:Operand→AV) (h:Ob):Op→R AV
 | .load t a=>match val a with
  | .ro x=>qR (zj P t (.pv x)) (qA (.pv x))
  | .p l path off=>match get h l with
   | some (.cell _ c)=>partAt P t path off c
   | _=>none
  | .pe l n path off=>match get h l with
   | some (.vec _ sz x)=>(qG0 an sz x path off).with fun z=>qR (zj P t (.pv z)) (owe (x.len=n) (.pv z))
   | some (.fns xs)=>match path with
    | [k]=>match xs[k]? with
     | some x=>qR (off == k&&zj P t x&&xs.length == n) (qA x)
     | none=>none
    | _=>none
   | _=>none
  | _=>none
 | .lookup t m k commaOk=>match qy P t,val m,val k with
  | some (.map kt e),.m l,.pv k=>match get h l with
   | some (.map _ es)=>qR (zj P kt (.pv k)&&eqT P 30 kt) ((qjX an k es).with fun
    | some (x,_)=>match commaOk with
     | true=>qR x.Ja (qA (.tup [x,.pv (.b true)]))
     | false=>qA x
    | none=>(ofO (zeroOf P e)).with fun z=>qA (match commaOk with | true=>.tup [z,.pv (.b false)] | false=>z))
   | _=>none
  | _,_,_=>none
 | .call c=>match c.callee with
  | .builtin .len=>match c.argTypes.toList.map (qy P),c.args.toList.map val with
   | [some (.map _ _)],[.m l]=>match get h l with
    | some (.map _ es)=>qA (.pv (.i .i64 es.length))
    | _=>none
   | _,_=>none
  | _=>none
 | _=>none
abbrev Sn (α:Type):=Option (α×List Nat×List Prop)
mutual
def snap (h:Ob):AV→Sn PV
 | .pv x=>some (x,[],[])
 | .v l n=>match get h l with
  | some (.vec _ _ x)=>some (x,[l],[x.len=n])
  | _=>none
 | .ag xs=>match qmB h xs with
  | some (ys,a,ps)=>some (.ag ys,a,ps)
  | none=>none
 | _=>none
def qmB (h:Ob):List AV→Sn (List PV)
 | []=>some ([],[],[])
 | x::xs=>match snap h x,qmB h xs with
  | some (y,a,ps),some (ys,b,qs)=>some (y::ys,a++b,ps++qs)
  | _,_=>none
end
def qOL:jc→jc
 | .vec _ sz x=>.vec true sz x
 | o=>o
def freeze:List Nat→Ob→Ob
 | [],h=>h
 | l::r,h=>match get h l with
  | some o=>freeze r (ins l (qOL o) h)
  | none=>freeze r h
mutual
def qbt (P:Program) (h:Ob):Nat→TypeId→AV→Sn AV
 | 0,_,_=>none
 | d + 1,t,x=>match x with
  | .nils=>match qy P t with
   | some (.slice e)=>some (.pv (Qy P e),[],[])
   | _=>none
  | .v l n=>match snap h (.v l n) with
   | some (y,a,ps)=>some (.pv y,a,ps)
   | none=>none
  | .ag xs=>match qy P t with
   | some (.struct fs)=>match jZ P h d (fs.map (·.1)) xs with
    | some (ys,a,ps)=>some (AV.mk ys,a,ps)
    | none=>none
   | _=>some (.ag xs,[],[])
  | x=>some (x,[],[])
def jZ (P:Program) (h:Ob):Nat→List TypeId→List AV→Sn (List AV)
 | 0,_,_=>none
 | d + 1,t::ts,x::xs=>match qbt P h d t x,jZ P h d ts xs with
  | some (y,a,ps),some (ys,b,qs)=>some (y::ys,a++b,ps++qs)
  | _,_=>none
 | _ + 1,[],[]=>some ([],[],[])
 | _ + 1,_,_=>none
end
structure Hint where
 live:FuncId→Nat→List Nat
 esc:FuncId→Bool
 raw:FuncId→Bool
 fresh:FuncId→Nat→Bool
 vecs:FuncId→Nat→Bool
abbrev Vn:=Nat→AV→List AV→Ob→Out→Ob→Prop
def nm (lvl d k:Nat):Nat:=(lvl * 10000 + d) * 10 + k
def qrl (h:Ob) (l:Nat):List Nat:=match get h l with
 | some o=>o.names
 | none=>[]
@[irreducible] def has (ns:List Nat) (n:Nat):Bool:=@List.rec Nat (fun _=>Bool) false (fun a _ ih=>@Bool.rec (fun _=>Bool) ih true (Nat.beq a n)) ns
theorem qv3 (n:Nat):has [] n=false:=by with_unfolding_all rfl
theorem qzF (a:Nat) (r:List Nat) (n:Nat):has (a::r) n=(Nat.beq a n||has r n):=by
 have e0:has (a::r) n=@Bool.rec (fun _=>Bool) (has r n) true (Nat.beq a n):=by with_unfolding_all rfl
 rw [e0]
 cases Nat.beq a n<;>rfl
def reach (h:Ob):Nat→List Nat→List Nat→List Nat
 | 0,_,seen=>seen
 | _ + 1,[],seen=>seen
 | n + 1,l::todo,seen=>match has seen l with
  | true=>reach h n todo seen
  | false=>reach h n (qrl h l++todo) (l::seen)
def qgD (ns ms:List Nat):Bool:=ns.all (has ms)
def jI (ns:List Nat) (h:Ob):Bool:=qgD ns (dom h)&&h.all fun e=>qgD e.2.names (dom h)
@[irreducible] def qD {α:Type} (ks:List Nat) (h:List (Nat×α)):List (Nat×α):=@List.rec (Nat×α) (fun _=>List (Nat×α)) [] (fun e _ ih=>@Bool.rec (fun _=>List (Nat×α)) ih (e::ih) (has ks e.1)) h
theorem qaT {α:Type} (ks:List Nat):∀ h:List (Nat×α),qD ks h=h.filter fun e=>has ks e.1
 | []=>by with_unfolding_all rfl
 | e::r=>by
  have e0:qD ks (e::r)=@Bool.rec (fun _=>List (Nat×α)) (qD ks r) (e::qD ks r) (has ks e.1):=by with_unfolding_all rfl
  rw [e0,List.filter_cons,qaT ks r]
  cases has ks e.1<;>rfl
def newObj (d:Option Tmp) (lvl:Nat) (h:Ob) (o:jc) (r:Nat→AV):R (Out×Ob):=
 match d with
 | some d=>match get h (nm lvl d 0) with
  | none=>qA (.ret (r (nm lvl d 0)),ins (nm lvl d 0) o h)
  | some _=>none
 | none=>none
def TK.qe3:TK→Bool
 | .slice _=>true
 | .str=>true
 | _=>false
def zi:Nat:=140737488355328
def qaB (h:Ob):AV→R PV
 | .pv x=>qA x
 | .v l n=>match get h l with
  | some (.vec _ _ x)=>owe (x.len=n) x
  | _=>none
 | _=>none
def done (l:Nat) (o:jc) (h:Ob):R (Out×Ob):=qA (.ret (.tup []),ins l o h)
def qpb (P:Program) (an:Option Ans) (h:Ob) (e:TypeId) (j_:List AV):Option ((PV×Ob)×List Prop):=match jI (AV.q9 j_) h&&j_.all AV.Ja with
 | true=>match jZ P h 30 (j_.map fun _=>e) j_ with
  | some (rs,fz,ps)=>match AV.Z7 rs with
   | some xs=>match qhG P an e xs with
    | some (x,qs)=>some ((x,freeze fz h),ps++qs)
    | none=>none
   | none=>none
  | none=>none
 | false=>none
def zd (P:Program) (lvl:Nat) (d:Option Tmp) (an:Option Ans) (val:Operand→AV) (h:Ob):Op→R (Out×Ob)
 | .alloc t=>match zeroOf P t with
  | some z=>newObj d lvl h (.cell false z) fun l=>.p l [] 0
  | none=>none
 | .box t x=>qR (zj P t (val x)) (newObj d lvl h (.cell false (val x)) fun l=>.p l [] 0)
 | .buildSlice t n parts=>match qy P t with
  | some (.slice e)=>qR (qc7 0 parts.toList&&n == parts.size&&n * qE P e≤16777216&&ZQ P e)
   (match AV.Z7 (parts.toList.map fun q=>val q.2) with
    | some xs=>qR (Nat.blt 0 (qE P e)) ((qhG P an e xs).with fun x=>newObj d lvl h (.vec false (qE P e) x) fun l=>.v l n)
    | none=>match qpb P an h e (parts.toList.map fun q=>val q.2) with
     | some ((x,h'),ps)=>some ((.ret (.pv x),h'),ps)
     | none=>qR (qE P e == 1&&(parts.toList.map fun q=>val q.2).all (fun x=>zj P e x)) (newObj d lvl h (.fns (parts.toList.map fun q=>val q.2)) fun l=>.v l n))
  | _=>none
 | .makeMap t none=>match qy P t with
  | some (.map _ _)=>newObj d lvl h (.map 0 []) fun l=>.m l
  | _=>none
 | .makeSlice t n c=>match qy P t,val n,val c with
  | some (.slice e),.pv (.i .i64 n),.pv (.i .i64 c)=>match an,zeroOf P e with
   | some (.nat k),some (.pv z)=>qR (Nat.blt 0 (qE P e)&&Nat.blt 0 (bytesOf P e)&&qcH P e) ((owe (n=k∧c=k∧k * bytesOf P e≤zi) ()).with fun _=>
    newObj d lvl h (.vec false (qE P e) (match Jm P e with | true=>.bl (List.replicate k 0) | false=>.l (qE P e) (List.replicate k z))) fun l=>.v l k)
   | _,_=>none
  | _,_,_=>none
 | .store t a x=>match val a with
  | .p l path off=>match get h l with
   | some (.cell false c)=>match AV.zN path c,AV.at path c with
    | some o,some y=>qR (o == off&&zj P t (val x)&&y.size == (val x).size) ((Wp (AV.inR path c)).with fun _=>(setAt an path c (val x)).with fun c'=>done l (.cell false c') h)
    | _,_=>none
   | _=>none
  | .pe l n path off=>match get h l,val x with
   | some (.vec false sz s),.pv x=>match path with
    | [k]=>qR (zj P t (.pv x)&&x.size == sz) ((Wp [s.len=n,k < n,off=k * sz]).with fun _=>(qdI an s k x).with fun s'=>done l (.vec false sz s') h)
    | k::r=>(elemAt an s k).with fun y=>match AV.zN r (.pv y),AV.at r (.pv y) with
     | some o,some z=>qR (zj P t (.pv x)&&z.size == x.size) ((Wp [s.len=n,off=k * sz + o]).with fun _=>(Wp (AV.inR r (.pv y))).with fun _=>(setAt none r (.pv y) (.pv x)).with fun
      | .pv y'=>(qdI none s k y').with fun s'=>done l (.vec false sz s') h
      | _=>none)
     | _,_=>none
    | []=>none
   | _,_=>none
  | _=>none
 | .mapUpdate t m k x=>match qy P t,val m,val k with
  | some (.map kt e),.m l,.pv k=>match get h l with
   | some (.map c es)=>qR (zj P kt (.pv k)&&eqT P 30 kt&&zj P e (val x)&&(val x).Y1) ((qns an k (val x) c es).with fun r=>done l (.map r.1 r.2) h)
   | _=>none
  | _,_,_=>none
 | .insert t m k x=>match qy P t,val m,val k with
  | some (.map kt e),.m l,.pv k=>match get h l with
   | some (.map c es)=>qR (zj P kt (.pv k)&&eqT P 30 kt&&zj P e (val x)&&(val x).Y1) ((qns an k (val x) c es).with fun r=>done l (.map r.1 r.2) h)
   | _=>none
  | _,_,_=>none
 | .mapEntry t m k=>match qy P t,val m,val k with
  | some (.map kt e),.m l,.pv k=>match get h l with
   | some (.map c es)=>qR (zj P kt (.pv k)&&eqT P 30 kt) ((qjX (match an with | some (.entry r _ _)=>some (.found r) | _=>none) k es).with fun
    | some (x,n)=>qR x.Y1 ((qns (match an with | some (.entry _ c' es')=>some (.ents c' es') | _=>none) k x c es).with fun r=>qA (.ret (.tup [x,.pv (.i .i64 n)]),ins l (.map r.1 r.2) h))
    | none=>(ofO (zeroOf P e)).with fun z=>qR z.Y1 <| (qns (match an with | some (.entry _ c' es')=>some (.ents c' es') | _=>none) k z c es).with fun r=>qA (.ret (.tup [z,.pv (.i .i64 c)]),ins l (.map r.1 r.2) h))
   | _=>none
  | _,_,_=>none
 | .entryStore t m s x=>match qy P t,val m,val s with
  | some (.map _ e),.m l,.pv (.i _ born)=>match get h l with
   | some (.map c es)=>qR (zj P e (val x)&&(val x).Y1) ((atO an born (val x) es).with fun es'=>done l (.map c es') h)
   | _=>none
  | _,_,_=>none
 | .slice t x lo hi none=>match val x with
  | .v l n=>match qy P t,get h l with
   | some (.slice e),some (.vec _ sz s)=>qR (sz == qE P e) ((bounds an (lo.map val) (hi.map val) n).with fun (a,b)=>(owe (s.len=n) ()).with fun _=>qA (.ret (.pv (s.sub a b)),ins l (.vec true sz s) h))
   | _,_=>none
  | .p l path off=>match qy P t,get h l,lo,hi with
   | some (.bytes n),some (.cell _ c),none,none=>match AV.zN path c,AV.at path c with
    | some o,some (.pv (.ba m bs))=>qR (o == off&&m == n) ((Wp (AV.inR path c)).with fun _=>qA (.ret (.pv (.bl bs.toList)),ins l (.cell true c) h))
    | _,_=>none
   | _,_,_,_=>none
  | _=>none
 | .call c=>match c.callee with
  | .builtin .append=>match c.argTypes.toList,c.args.toList.map val with
   | [t,u],[a,x]=>match qy P t,qy P u with
    | some (.slice e),some uk=>qR (uk.qe3&&Nat.blt 0 (qE P e)&&Nat.blt 0 (bytesOf P e)&&(zeroOf P e).isSome&&qcH P e) (match a with
     | .nils=>match x with
      | .nils=>qA (.ret .nils,h)
      | .es _=>qA (.ret .nils,h)
      | x=>match an with
       | some (.nat 0)=>(qaB h x).with fun y=>(ofO ((Qy P e).app y)).with fun s=>(owe (s.len=0) ()).with fun _=>qA (.ret .nils,h)
       | _=>(qaB h x).with fun y=>(ofO ((Qy P e).app y)).with fun s=>(Wp [s.len * bytesOf P e≤zi]).with fun _=>newObj d lvl h (.vec false (qE P e) s) fun l=>.v l s.len
     | .v l n=>match get h l with
      | some (.vec fz sz s)=>match x with
       | .nils=>(owe (s.len=n) ()).with fun _=>qA (.ret (.v l n),h)
       | .es _=>(owe (s.len=n) ()).with fun _=>qA (.ret (.v l n),h)
       | x=>qR (sz == qE P e) ((qaB h x).with fun y=>(ofO (s.app y)).with fun s'=>(Wp [s.len=n,s'.len * bytesOf P e≤zi]).with fun _=>qA (.ret (.v l s'.len),ins l (.vec fz sz s') h))
      | _=>none
     | _=>none)
    | _,_=>none
   | _,_=>none
  | .builtin .delete=>match c.argTypes.toList,c.args.toList.map val with
   | [t,_],[.m l,.pv k]=>match qy P t,get h l with
    | some (.map kt _),some (.map c es)=>qR (zj P kt (.pv k)&&eqT P 30 kt) ((qNI an k es).with fun es'=>done l (.map c es') h)
    | _,_=>none
   | _,_=>none
  | _=>none
 | _=>none
def Qk (P:Program) (hn:Hint) (C:Vn) (K lvl:Nat) (d:Option Tmp) (an:Option Ans) (f:AV) (ts:List TypeId) (args:List AV) (h:Ob):R (Out×Ob):=
 match an with
 | some (.call (.ret r) h')=>
  qR (jI (f.names++AV.q9 args) h&&f.Ja&&args.all AV.Ja)
  (match (match (match f with | .fn (.func k) _ _=>hn.raw k | _=>false) with
   | true=>some (args,[],[])
   | false=>jZ P h 30 ts args) with
  | none=>none
  | some (args,fz,ps)=>
   match (match d with | some d=>hn.fresh K d | none=>false) with
   | true=>some ((.ret r,h'),ps++[C lvl f args (freeze fz h) (.ret r) h'])
   | false=>match tupS h' r with
    | some (r',fz',qs)=>qR (jI r'.names (qD (dom h) (freeze fz' h'))) (some ((.ret r',qD (dom h) (freeze fz' h')),ps++[C lvl f args (freeze fz h) (.ret r) h']++qs))
    | none=>none)
 | _=>none
where
 tupL (h:Ob):List AV→Sn (List AV)
  | []=>some ([],[],[])
  | .v l n::xs=>match snap h (.v l n),tupL h xs with
   | some (y,a,ps),some (ys,b,qs)=>some (.pv y::ys,a++b,ps++qs)
   | _,_=>none
  | x::xs=>match tupL h xs with
   | some (ys,b,qs)=>some (x::ys,b,qs)
   | none=>none
 tupS (h:Ob):AV→Sn AV
  | .v l n=>match snap h (.v l n) with
   | some (y,a,ps)=>some (.pv y,a,ps)
   | none=>none
  | .tup xs=>match tupL h xs with
   | some (ys,b,qs)=>some (.tup ys,b,qs)
   | none=>none
  | x=>some (x,[],[])
end Go.Rx
end
noncomputable section
namespace Go.Rx
inductive Ex where
 | normal
 | exit (id:Nat)
 | goto (l:Nat)
 | ret
 | pan (v:AV)
 deriving Inhabited
structure Orc where
 an:List (Nat×Ans):=[]
 nv:List (Nat×AV):=[]
 no:List (Nat×Nat×jc):=[]
 lo:List (Nat×Ex×St):=[]
def ZC (σ:St):Operand→AV
 | .tmp t=>match get σ.sl t with
  | some x=>x
  | none=>.undef
 | .const v=>ofConst v
 | .func f=>.fn (.func f) [] []
 | .global _=>.undef
def zS (val:Operand→AV) (ob:Ob):Op→List Nat
 | .load _ a | .store _ a _=>(val a).names
 | .lookup _ m _ _ | .mapUpdate _ m _ _ | .insert _ m _ _ | .mapEntry _ m _ | .entryStore _ m _ _=>(val m).names
 | .slice _ x _ _ _=>(val x).names
 | .buildSlice _ _ ps=>AV.q9 (ps.toList.map fun q=>val q.2)
 | .call c=>match c.callee with
  | .builtin .append=>match c.args.toList with
   | [a,x]=>(val a).names++(val x).names
   | _=>[]
  | .builtin _=>match c.args.toList with
   | a::_=>(val a).names
   | _=>[]
  | .value f=>reach ob 200 ((val f).names++AV.q9 (c.args.toList.map val)) []
  | _=>[]
 | _=>[]
inductive Eff where
 | val (r:AV)
 | read (T:List Nat) (r:AV)
 | write (T:List Nat) (o:Out) (h:Ob)
 deriving Inhabited
def Out.names:Out→List Nat
 | .ret r=>r.names
 | .pan v=>v.names
inductive SR where
 | next (σ:St) (lab:List Nat)
 | pan (v:AV) (σ:St)
def put (d:Option Tmp) (r:AV) (sl:Sl):Sl:=match d with
 | some d=>ins d r sl
 | none=>sl
def merge (T:List Nat) (h ob:Ob):Ob:=WS h (ob.filter fun e=>!has T e.1)
section
variable (P:Program) (hn:Hint) (C:Vn) (K:FuncId)
def ZL (lvl:Nat) (d:Option Tmp) (an:Option Ans) (val:Operand→AV) (ob:Ob) (o:Op):R Eff:=
 match q6 P (match d with | some d=>hn.vecs K d | none=>false) an val o with
 | some (r,ps)=>some (.val r,ps)
 | none=>match jO P an val (qD (zS val ob o) ob) o with
  | some (r,ps)=>some (.read (zS val ob o) r,ps)
  | none=>match (match o with
   | .call { callee:=.value f,args,argTypes }=>Qk P hn C K lvl d an (val f) argTypes.toList (args.toList.map val) (qD (zS val ob o) ob)
   | o=>zd P lvl d an val (qD (zS val ob o) ob) o) with
   | some ((out,h),ps)=>some (.write (zS val ob o) out h,ps)
   | none=>none
def qfp (σ:St) (d:Option Tmp):Bool:=match d with
 | some d=>Nat.blt d σ.n
 | none=>true
def YV (O:Orc) (key:Nat) (r:AV):R AV:=match get O.nv key with
 | some x=>owe (r=x) x
 | none=>qA r
def qm3 (O:Orc) (key:Nat) (h:Ob):R Ob:=match get O.no key with
 | some (l,o')=>match get h l with
  | some o=>qR (qgD o'.names o.names) (owe (o=o') (ins l o' h))
  | none=>none
 | none=>qA h
def jq (O:Orc) (key:Nat) (d:Option Tmp) (σ:St):Eff→R SR
 | .val r=>(YV O key r).with fun r=>qR (qfp σ d) (qA (.next { σ with sl:=put d r σ.sl } []))
 | .read T r=>(YV O key r).with fun r=>qR (qfp σ d) (qA (.next { σ with sl:=put d r σ.sl } T))
 | .write T o h=>(qm3 O key h).with fun h=>
  qR ((dom h).all (fun n=>has T n||!has (dom σ.ob) n)&&T.all (fun n=>!has (dom σ.ob) n||has (dom h) n))
   (match o with
    | .ret r=>(YV O key r).with fun r=>qR (qfp σ d) (qA (.next { σ with sl:=put d r σ.sl,ob:=merge T h σ.ob } (T++dom h)))
    | .pan _=>none)
def qaU (ops:Array Oper) (σ:St) (o:Oper):Option Bool:=
 match o.guard with
 | none=>some true
 | some (j,want)=>match ops[j]? with
  | some { dst:=some t,.. }=>match get σ.sl t with
   | some (.pv (.b x))=>some (match x,want with | true,true=>true | false,false=>true | _,_=>false)
   | some (.tup [])=>some false
   | _=>none
  | _=>some false
def qbw (O:Orc) (key:Nat) (ops:Array Oper) (o:Oper) (σ:St):R SR:=
 match qaU ops σ o with
 | some true=>(ZL P hn C K σ.lvl o.dst (get O.an key) (ZC σ) σ.ob o.op).with fun e=>jq O key o.dst σ e
 | some false=>qR (qfp σ o.dst) (qA (.next { σ with sl:=put o.dst (.tup []) σ.sl } []))
 | none=>none
def qbK (O:Orc) (ops:Array Oper):Nat→List Oper→St→R (Ex×St×List (List Nat))
 | _,[],σ=>qA (.normal,σ,[])
 | key,o::r,σ=>(qbw P hn C K O key ops o σ).with fun
  | .next σ' lab=>(qbK O ops (key + 1) r σ').with fun (e,σ'',labs)=>qA (e,σ'',lab::labs)
  | .pan _ _=>none
def gc (live:List Nat) (σ:St):Option St:=
 let sl:=qD live σ.sl
 let ob:=qD (reach σ.ob 500 (AV.q9 (sl.map (·.2))++σ.keep) []) σ.ob
 match jI (AV.q9 (sl.map (·.2))) ob&&qgD σ.keep (dom ob) with
 | true=>some { σ with sl,ob }
 | false=>none
def Zl:Op→Bool
 | .move _ | .assign _ | .pick .. | .binOp .. | .unOp .. | .convert .. | .nilCheck _ | .makeInterface .. | .makeFunc .. | .extract .. | .build .. | .field .. | .index .. | .fieldAddr .. | .indexAddr .. | .sliceToArrayPointer .. | .typeAssert ..=>true
 | _=>false
def Qs:Op→Bool
 | .load .. | .lookup ..=>true
 | .call { callee:=.builtin .len,.. }=>true
 | o=>Zl o
def looks (ops:Array Oper) (o:Oper):List Tmp:=
 (o.op.operands.toList).filterMap (fun | .tmp t=>some t | _=>none)++(match o.guard with | some (g,_)=>((ops[g]?).bind (·.dst)).toList | none=>[])
def qc4 (ops:Array Oper) (x y:Oper):Bool:=
 (match x.dst with | some d=>!has (looks ops y) d&&!(y.dst == some d) | none=>true) &&
 (match y.dst with | some d=>!has (looks ops x) d | none=>true)
def qco (ops:Array Oper):List (List Nat):=
 ops.toList.foldl (fun acc o=>acc++[o.after.toList.foldl (fun s e=>if Region.binds .any e then (e.on::(acc.getD e.on []))++s else s) []]) []
def qCX (n:Nat):List (Nat×Nat):=(List.range n).flatMap fun j=>(List.range j).map fun i=>(i,j)
def unordered (ops:Array Oper):List (Nat×Nat):=
 (qCX ops.size).filter fun ij=>!has ((qco ops).getD ij.2 []) ij.1
def qh7 (ops:Array Oper):Bool:=
 (unordered ops).all (fun ij=>match ops[ij.1]?,ops[ij.2]? with
  | some x,some y=>qc4 ops x y
  | _,_=>false) &&
 (ops.toList.zipIdx.all fun oi=>oi.1.after.toList.all (fun e=>!Region.binds .any e||Nat.blt e.on oi.2)&&(match oi.1.op with | .select _ _=>false | _=>true))
def qb4 (ops:Array Oper):List (Nat×Nat):=
 (unordered ops).filter fun ij=>match ops[ij.1]?,ops[ij.2]? with
  | some x,some y=>!(Zl x.op||Zl y.op||(Qs x.op&&Qs y.op))
  | _,_=>true
def qzo (a b:List Nat):Bool:=a.all fun n=>!has b n
def qhg (labs:List (List Nat)) (ps:List (Nat×Nat)):Bool:=
 ps.all fun ij=>qzo (labs.getD ij.1 []) (labs.getD ij.2 [])
def qly {α:Type}:List (Nat×α)→Bool
 | []=>true
 | [_]=>true
 | e::e'::r=>Nat.blt e.1 e'.1&&qly (e'::r)
abbrev CR:=R (Ex×St)
def qcA (O:Orc) (id:Nat) (ops:Array Oper) (draw:Bool) (σ:St):CR:=
 (qbK P hn C K O ops (id * 1000) ops.toList σ).with fun (e,σ',labs)=>match e with
  | .normal=>qR (!draw||(qh7 ops&&qhg labs (qb4 ops)&&qly σ.sl&&qly σ.ob)) (match gc (hn.live K id) σ' with
   | some σ''=>qA (.normal,σ'')
   | none=>none)
  | _=>none
def qPc (f:Orc→St→CR):Nat→St→Ex→St→Prop
 | 0,_,_,_=>False
 | n + 1,σ,e,σ'=>∃ O e₁ σ₁ ps,f O σ=some ((e₁,σ₁),ps)∧All ps∧match e₁ with
  | .normal=>qPc f n σ₁ e σ'
  | _=>e₁=e∧σ₁=σ'
def K0 (f:Orc→St→CR) (σ:St) (e:Ex) (σ':St):Prop:=∃ n,qPc f n σ e σ'
def zQ:Code→Nat
 | .region id _ _=>id
 | .seq a _=>zQ a
 | .block _ a | .loop a | .scope a=>zQ a
 | _=>0
def qiA:Bool→Bool→Bool
 | true,true=>true
 | false,false=>true
 | _,_=>false
def qd8:List Tmp→List AV→Sl→Sl
 | t::ts,x::xs,sl=>qd8 ts xs (ins t x sl)
 | _,_,sl=>sl
def qkk:LoopState→Bool
 | .busy=>false
 | _=>true
def qlP (k:FuncId):Bool:=match P.funcs[k]? with
 | some fn=>fn.body.isSome&&!(fn.name == "runtime.NumGoroutine")
 | none=>false
def js (lvl:Nat) (as0 bd:Code):Nat:=nm lvl (5000 + zQ (.seq as0 bd)) 0
def J4 (lvl:Nat) (as0 bd:Code):Nat:=nm lvl (5000 + zQ (.seq as0 bd)) 1
def Zs (ps:Array Tmp) (as0 bd:Code) (σ:St):Ob:=ins (js σ.lvl as0 bd) (.loop ps.toList σ.n σ.sl as0 bd K .ready none (J4 σ.lvl as0 bd)) (ins (J4 σ.lvl as0 bd) (.dfr true) σ.ob)
def Jl (l:Nat) (ob:Ob):Ob:=ob.filter fun e=>!Nat.beq e.1 l
def qh4 (O:Orc) (g:Operand) (ps:Array Tmp) (as0 bd:Code) (σ:St):CR:=
 match σ.rnd,ZC σ g with
 | false,.fn (.func k) first cap=>
  match get σ.ob (js σ.lvl as0 bd),get σ.ob (J4 σ.lvl as0 bd),get O.an (zQ (.seq as0 bd) * 1000 + 999) with
  | none,none,some (.call (.ret r) h')=>
   match get h' (js σ.lvl as0 bd) with
   | some (.loop _ _ _ _ _ _ st pe _)=>
    qR (jI (js σ.lvl as0 bd::(AV.q9 first++AV.q9 cap)) (qD (reach (Zs K ps as0 bd σ) 300 (js σ.lvl as0 bd::(AV.q9 first++AV.q9 cap)) []) (Zs K ps as0 bd σ)) &&
     jI [] (Jl (js σ.lvl as0 bd) (merge (reach (Zs K ps as0 bd σ) 300 (js σ.lvl as0 bd::(AV.q9 first++AV.q9 cap)) []) h' (Zs K ps as0 bd σ))) &&
     (dom h').all (fun n=>has (reach (Zs K ps as0 bd σ) 300 (js σ.lvl as0 bd::(AV.q9 first++AV.q9 cap)) []) n||!has (dom (Zs K ps as0 bd σ)) n) &&
     qkk st&&qlP P k&&!has σ.keep (J4 σ.lvl as0 bd)&&!(Nat.beq (js σ.lvl as0 bd) (J4 σ.lvl as0 bd)))
     (match (match pe with | none=>some Ex.normal | some .ret=>some .ret | some (.exit i)=>some (.exit i) | _=>none) with
     | some e => some ((e, { σ with ob := Jl (js σ.lvl as0 bd) (merge (reach (Zs K ps as0 bd σ) 300 (js σ.lvl as0 bd :: (AV.q9 first ++ AV.q9 cap)) []) h' (Zs K ps as0 bd σ)), keep := J4 σ.lvl as0 bd :: σ.keep, dfs := J4 σ.lvl as0 bd :: σ.dfs }),
         [C σ.lvl (.fn (.func k) first cap) [.yl (js σ.lvl as0 bd)] (qD (reach (Zs K ps as0 bd σ) 300 (js σ.lvl as0 bd::(AV.q9 first++AV.q9 cap)) []) (Zs K ps as0 bd σ)) (.ret r) h'])
     | none=>none)
   | _=>none
  | _,_,_=>none
 | _,_=>none
def Vo:Code→Orc→St→CR
 | .skip,_,σ=>qA (.normal,σ)
 | .label _,_,σ=>qA (.normal,σ)
 | .region id ops draw,O,σ=>qcA P hn C K O id ops draw σ
 | .seq a b,O,σ=>(Vo a O σ).with fun r=>match r.1 with
  | .normal=>Vo b O r.2
  | _=>qA r
 | .cond c a b,O,σ=>match ZC σ c with
  | .pv (.b true)=>Vo a O σ
  | .pv (.b false)=>Vo b O σ
  | _=>none
 | .block id c,O,σ=>(Vo c O σ).with fun r=>match r.1 with
  | .exit i=>match Nat.beq i id with
   | true=>qA (.normal,r.2)
   | false=>qA r
  | _=>qA r
 | .loop c,O,σ=>match get O.lo (zQ c) with
  | some (e,σ')=>qR (qiA σ'.rnd σ.rnd) (some ((e,σ'),[K0 (Vo c) σ e σ']))
  | none=>none
 | .exit id,_,σ=>qA (.exit id,σ)
 | .goto l,_,σ=>qA (.goto l,σ)
 | .ret,_,σ=>qA (.ret,σ)
 | .rangeFunc g ps as0 bd,O,σ=>qh4 P C K O g ps as0 bd σ
 | .scope c,O,σ=>(Vo c O σ).with fun r=>match r.1 with
  | .goto _=>none
  | _=>qA r
 | .refuse _,_,_=>none
end
def number:Nat→List AV→Sl
 | _,[]=>[]
 | n,x::xs=>(n,x)::number (n + 1) xs
def Yv (P:Program) (σ:St):List ResultVar→R (List AV)
 | []=>qA []
 | .tmp t::r=>match get σ.sl t with
  | some x=>qR x.Ja ((Yv P σ r).with fun xs=>qA (x::xs))
  | none=>none
 | .cell a t::r=>match get σ.sl a with
  | some (.p l path off)=>match get σ.ob l with
   | some (.cell _ c)=>(partAt P t path off c).with fun x=>(Yv P σ r).with fun xs=>qA (x::xs)
   | _=>none
  | _=>none
def shut:List Nat→Ob→Option Ob
 | [],ob=>some ob
 | d::r,ob=>match get ob d with
  | some (.dfr true)=>shut r (ins d (.dfr false) ob)
  | _=>none
def qo2 (P:Program) (hn:Hint) (K:FuncId) (fn:Func) (σ:St):R (Out×Ob):=
 (Yv P σ fn.results.toList).with fun rs=>match (match hn.esc K with | true=>some (rs,[],[]) | false=>jZ P σ.ob 30 fn.resultTypes.toList rs) with
  | none=>none
  | some (rs,fz,ps)=>
   let ob:=freeze fz σ.ob
   let h:=qD (reach ob 500 (AV.q9 rs++σ.keep) []) ob
   match jI (AV.q9 rs) h&&qgD σ.keep (dom h) with
   | true=>some ((.ret (match rs with | [x]=>x | rs=>.tup rs),h),ps)
   | false=>none
def leave (P:Program) (hn:Hint) (K:FuncId) (fn:Func) (σ:St):R (Out×Ob):=match shut σ.dfs σ.ob with
 | some ob=>qo2 P hn K fn { σ with ob:=ob,dfs:=[],keep:=σ.keep.filter fun n=>!has σ.dfs n }
 | none=>none
def qkv:Ex→Option (Option Code)
 | .normal=>some none
 | .ret=>some (some .ret)
 | .exit i=>some (some (.exit i))
 | _=>none
end Go.Rx
end
noncomputable section
namespace Go.Rx
section lists
variable {α:Type}
theorem qT (h:List (Nat×α)) (k:Nat) (x:α) (j:Nat):get (ins k x h) j=if k=j then some x else get h j:=by
 induction h with
 | nil=>simp [qpo,qqT,get_nil,zK]
 | cons e r ih=>
  obtain ⟨a,y⟩:=e
  simp only [qpo,qqT]
  split
  ·simp [get_nil,zK]
  ·split
   ·rename_i h1 h2; subst h2; simp only [get_nil,zK]; split<;>simp_all
   ·simp only [get_nil,zK,ih]; split<;>rename_i h1 h2 h3
    ·subst h3; rw [if_neg (by omega)]
    ·rfl
theorem qO9 (l h:List (Nat×α)) (j:Nat):get (WS l h) j=match get l j with | some x=>some x | none=>get h j:=by
 induction l with
 | nil=>simp [WS,get_nil,zK]
 | cons e r ih=>
  obtain ⟨a,y⟩:=e
  simp only [WS,qT,get_nil,zK,ih]
  split<;>simp
theorem get_filter (h:List (Nat×α)) (p:Nat→Bool) (j:Nat):get (h.filter fun e=>p e.1) j=if p j then get h j else none:=by
 induction h with
 | nil=>simp [get_nil,zK]
 | cons e r ih=>
  obtain ⟨a,y⟩:=e
  simp only [List.filter_cons]
  split
  ·simp only [get_nil,zK,ih]; split
   ·rename_i h1 h2; subst h2; simp_all
   ·rfl
  ·simp only [get_nil,zK,ih]
   rename_i h1
   split
   ·split
    ·rename_i h2 h3; subst h3; simp_all
    ·rfl
   ·rfl
theorem Qn (ns:List Nat) (n:Nat):has ns n=true↔n∈ns:=by
 induction ns with
 | nil=>simp [qv3,qzF]
 | cons a r ih=>
  simp only [qv3,qzF,Bool.or_eq_true,ih,List.mem_cons,Nat.beq_eq_true_eq]
  exact or_congr ⟨fun h=>(Nat.eq_of_beq_eq_true h).symm,fun h=>by subst h; exact Nat.beq_refl _⟩ Iff.rfl
theorem vG (h:List (Nat×α)) (ks:List Nat) (j:Nat):get (qD ks h) j=if has ks j then get h j else none:=by
 rw [qaT]; exact get_filter h (has ks) j
theorem qpB (h:List (Nat×α)) (n:Nat):n∈dom h↔∃ x,get h n=some x:=by
 induction h with
 | nil=>simp [dom,get_nil,zK]
 | cons e r ih=>
  obtain ⟨a,y⟩:=e
  simp only [dom,List.map_cons,List.mem_cons,get_nil,zK]
  by_cases h:a=n
  ·simp [h]
  ·simp only [h,if_false]
   rw [← ih]; simp [dom]; intro h'; exact absurd h'.symm h
theorem Wy (h:List (Nat×α)) (n:Nat):has (dom h) n=true↔∃ x,get h n=some x:=by rw [Qn,qpB]
theorem Yt (h:List (Nat×α)) (n:Nat):has (dom h) n=false↔get h n=none:=by
 cases hh:has (dom h) n with
 | true=>obtain ⟨x,hx⟩:=(Wy h n).1 hh; simp [hx]
 | false=>
  simp only [true_iff]
  cases hg:get h n with
  | none=>rfl
  | some x=>have:=(Wy h n).2 ⟨x,hg⟩; simp [this] at hh
def Srt (h:List (Nat×α)):Prop:=h.Pairwise fun a b=>a.1 < b.1
theorem Srt.ins {h:List (Nat×α)} (hs:Srt h) (k:Nat) (x:α):Srt (ins k x h)∧∀ e∈Rx.ins k x h,e.1=k∨∃ y,(e.1,y)∈h:=by
 induction h with
 | nil=>simp [qpo,Srt]
 | cons e r ih=>
  obtain ⟨a,y⟩:=e
  have hr:Srt r:=(List.pairwise_cons.1 hs).2
  have ha:=(List.pairwise_cons.1 hs).1
  simp only [qqT]
  split
  ·rename_i hlt
   refine ⟨List.pairwise_cons.2 ⟨?_,hs⟩,?_⟩
   ·intro e he
    rcases List.mem_cons.1 he with rfl | he
    ·exact hlt
    ·exact Nat.lt_trans hlt (ha e he)
   ·intro e he
    rcases List.mem_cons.1 he with rfl | he
    ·exact .inl rfl
    ·exact .inr ⟨e.2,he⟩
  ·split
   ·rename_i h1 h2; subst h2
    refine ⟨List.pairwise_cons.2 ⟨ha,hr⟩,?_⟩
    intro e he
    rcases List.mem_cons.1 he with rfl | he
    ·exact .inl rfl
    ·exact .inr ⟨e.2,List.mem_cons_of_mem _ he⟩
   ·rename_i h1 h2
    obtain ⟨h3,h4⟩:=ih hr
    refine ⟨List.pairwise_cons.2 ⟨?_,h3⟩,?_⟩
    ·intro e he
     rcases h4 e he with h | ⟨y',h⟩
     ·simp only at h1 h2 ⊢; omega
     ·exact ha (e.1,y') h
    ·intro e he
     rcases List.mem_cons.1 he with rfl | he
     ·exact .inr ⟨y,by simp⟩
     ·rcases h4 e he with h | ⟨y',h⟩
      ·exact .inl h
      ·exact .inr ⟨y',List.mem_cons_of_mem _ h⟩
theorem Srt.WS {h:List (Nat×α)} (hs:Srt h) (l:List (Nat×α)):Srt (WS l h):=by
 induction l with
 | nil=>exact hs
 | cons e r ih=>exact (Srt.ins ih _ _).1
theorem Srt.filter {h:List (Nat×α)} (hs:Srt h) (p:Nat×α→Bool):Srt (h.filter p):=List.Pairwise.filter _ hs
theorem Srt.ext:∀ {h h':List (Nat×α)},Srt h→Srt h'→(∀ k,get h k=get h' k)→h=h'
 | [],[],_,_,_=>rfl
 | [],(a,x)::r,_,_,he=>by have:=he a; simp [get_nil,zK] at this
 | (a,x)::r,[],_,_,he=>by have:=he a; simp [get_nil,zK] at this
 | (a,x)::r,(b,y)::r',hs,hs',he=>by
  have hr:=(List.pairwise_cons.1 hs).2
  have hr':=(List.pairwise_cons.1 hs').2
  have ha:=(List.pairwise_cons.1 hs).1
  have hb:=(List.pairwise_cons.1 hs').1
  have low:∀ (r:List (Nat×α)) (a:Nat),(∀ e∈r,a < e.1)→∀ k,k≤a→get r k=none:=by
   intro r a h k hk
   induction r with
   | nil=>exact get_nil _
   | cons e t ih=>
    obtain ⟨c,z⟩:=e
    have:=h (c,z) (by simp)
    simp only at this
    simp only [get_nil,zK]; rw [if_neg (by omega)]
    exact ih fun e he=>h e (List.mem_cons_of_mem _ he)
  have hab:a=b:=by
   rcases Nat.lt_trichotomy a b with h | h | h
   ·have:=he a; simp [get_nil,zK] at this; rw [if_neg (by omega),low r' b hb a (by omega)] at this; simp at this
   ·exact h
   ·have:=he b; simp [get_nil,zK] at this; rw [if_neg (by omega),low r a ha b (by omega)] at this; simp at this
  subst hab
  have hxy:x=y:=by have:=he a; simpa [get_nil,zK] using this
  subst hxy
  congr 1
  refine Srt.ext hr hr' fun k=>?_
  by_cases hk:k≤a
  ·rw [low r a ha k hk,low r' a hb k hk]
  ·have:=he k; simp only [get_nil,zK] at this; rwa [if_neg (by omega),if_neg (by omega)] at this
end lists
abbrev Gh:=Nat→Nat→Prop
abbrev Hm:=Nat→Nat×Nat
def Qq (w:World) (b off:Nat) (cs:List Value):Prop:=∀ j,j < cs.length→w.cell? ⟨b,off + j,none⟩=cs[j]?
def inG (G:Gh) (b off n:Nat):Prop:=∀ j,j < n→G b (off + j)
def cu8 (c:UInt8):Value:=.int .u8 c.toNat
def qqw (c:UInt32):Value:=.int .u32 c.toNat
mutual
def qG (G:Gh) (w:World):PV→List Value→Prop
 | .b x,cs=>cs=[.bool x]
 | .i k n,cs=>cs=[.int k n]
 | .s x,cs=>cs=[.string ⟨x.toArray⟩]
 | .ba _ x,cs=>cs=x.toList.map cu8
 | .wa _ x,cs=>cs=x.toList.map qqw
 | .ag xs,cs=>zt G w xs cs
 | .l sz xs, cs => ∃ a cap, cs = [.slice a xs.length cap] ∧ xs.length ≤ cap ∧ (∀ x ∈ xs, x.size = sz) ∧
     (xs=[]∨∃ b off vs,a=some ⟨b,off,none⟩∧zt G w xs vs∧Qq w b off vs∧inG G b off vs.length)
 | .bl xs, cs => ∃ a cap, cs = [.slice a xs.length cap] ∧ xs.length ≤ cap ∧
     (xs=[]∨∃ b off,a=some ⟨b,off,none⟩∧Qq w b off (xs.map cu8)∧inG G b off xs.length)
def zt (G:Gh) (w:World):List PV→List Value→Prop
 | [],cs=>cs=[]
 | x::xs,cs=>∃ c d,cs=c++d∧qG G w x c∧zt G w xs d
end
structure J0 (G:Gh) (w:World) (G':Gh) (w':World):Prop where
 sub:∀ b o,G b o→G' b o
 same:∀ b o,G b o→w'.cell? ⟨b,o,none⟩=w.cell? ⟨b,o,none⟩
theorem J0.refl (G:Gh) (w:World):J0 G w G w:=⟨fun _ _ h=>h,fun _ _ _=>rfl⟩
theorem J0.trans {G G' G'':Gh} {w w' w'':World} (h:J0 G w G' w') (k:J0 G' w' G'' w''):J0 G w G'' w'':=
 ⟨fun b o x=>k.sub b o (h.sub b o x),fun b o x=>(k.same b o (h.sub b o x)).trans (h.same b o x)⟩
theorem J0.cells {G G':Gh} {w w':World} (h:J0 G w G' w') {b off:Nat} {cs:List Value} (hc:Qq w b off cs) (hg:inG G b off cs.length):Qq w' b off cs:=
 fun j hj=>(h.same _ _ (hg j hj)).trans (hc j hj)
theorem J0.inG {G G':Gh} {w w':World} (h:J0 G w G' w') {b off n:Nat} (hg:inG G b off n):inG G' b off n:=fun j hj=>h.sub _ _ (hg j hj)
mutual
theorem qG.mono {G G':Gh} {w w':World} (h:J0 G w G' w'):∀ (x:PV) (cs:List Value),qG G w x cs→qG G' w' x cs
 | .b _,_,hr=>hr
 | .i _ _,_,hr=>hr
 | .s _,_,hr=>hr
 | .ba _ _,_,hr=>hr
 | .wa _ _,_,hr=>hr
 | .ag xs,cs,hr=>zt.mono h xs cs hr
 | .l sz xs,cs,⟨a,cap,h1,h2,h3,h4⟩=>⟨a,cap,h1,h2,h3,h4.imp id fun ⟨b,off,vs,ha,hp,hc,hg⟩=>⟨b,off,vs,ha,zt.mono h xs vs hp,h.cells hc hg,h.inG hg⟩⟩
 | .bl xs,cs,⟨a,cap,h1,h2,h4⟩=>⟨a,cap,h1,h2,h4.imp id fun ⟨b,off,ha,hc,hg⟩=>⟨b,off,ha,h.cells hc (by simpa using hg),h.inG hg⟩⟩
theorem zt.mono {G G':Gh} {w w':World} (h:J0 G w G' w'):∀ (x:List PV) (cs:List Value),zt G w x cs→zt G' w' x cs
 | [],_,hr=>hr
 | x::xs,_,⟨c,d,e,h1,h2⟩=>⟨c,d,e,qG.mono h x c h1,zt.mono h xs d h2⟩
end
mutual
theorem qG.len {G:Gh} {w:World}:∀ (x:PV) (cs:List Value),qG G w x cs→cs.length=x.size
 | .b _,_,hr=>by simp [qG] at hr; simp [hr,PV.size]
 | .i _ _,_,hr=>by simp [qG] at hr; simp [hr,PV.size]
 | .s _,_,hr=>by simp [qG] at hr; simp [hr,PV.size]
 | .ba _ _,_,hr=>by simp [qG] at hr; simp [hr,PV.size]
 | .wa _ _,_,hr=>by simp [qG] at hr; simp [hr,PV.size]
 | .ag xs,cs,hr=>by simpa [PV.size] using zt.len xs cs hr
 | .l sz xs,cs,⟨a,cap,h1,h2,h3,h4⟩=>by simp [h1,PV.size]
 | .bl xs,cs,⟨a,cap,h1,h2,h4⟩=>by simp [h1,PV.size]
theorem zt.len {G:Gh} {w:World}:∀ (x:List PV) (cs:List Value),zt G w x cs→cs.length=PV.jo x
 | [],_,hr=>by simp [zt] at hr; simp [hr,PV.jo]
 | x::xs,_,⟨c,d,e,h1,h2⟩=>by simp [e,PV.jo,qG.len x c h1,zt.len xs d h2]
end
theorem PV.WO (sz:Nat):∀ (xs:List PV),(∀ x∈xs,x.size=sz)→PV.jo xs=xs.length * sz
 | [],_=>by simp [PV.jo]
 | x::xs,h=>by
  simp only [PV.jo,List.length_cons,h x (by simp),PV.WO sz xs fun y hy=>h y (by simp [hy])]
  rw [Nat.succ_mul]; omega
theorem zt.append {G:Gh} {w:World}:∀ (xs ys:List PV) (c d:List Value),zt G w xs c→zt G w ys d→zt G w (xs++ys) (c++d)
 | [],_,_,_,h,k=>by simp [zt] at h; subst h; simpa using k
 | x::xs,ys,_,d,⟨c1,c2,e,h1,h2⟩,k=>⟨c1,c2++d,by simp [e],h1,zt.append xs ys c2 d h2 k⟩
theorem zt.split {G:Gh} {w:World}:∀ (xs ys:List PV) (cs:List Value),zt G w (xs++ys) cs→∃ c d,cs=c++d∧zt G w xs c∧zt G w ys d
 | [],_,cs,h=>⟨[],cs,rfl,rfl,h⟩
 | x::xs,ys,_,⟨c1,c2,e,h1,h2⟩=>by
  obtain ⟨c,d,e',h3,h4⟩:=zt.split xs ys c2 h2
  exact ⟨c1++c,d,by simp [e,e'],⟨c1,c,rfl,h1,h3⟩,h4⟩
theorem zt.at {G : Gh} {w : World} {xs : List PV} {cs : List Value} (h : zt G w xs cs) {k : Nat} {y : PV} (hy : xs[k]? = some y) :
    ∃ c d e,cs=c++d++e∧qG G w y d∧c.length=PV.jo (xs.take k)∧zt G w (xs.take k) c∧zt G w (xs.drop (k + 1)) e:=by
 obtain ⟨hk,hy'⟩:=List.getElem?_eq_some_iff.1 hy
 have hx:xs=xs.take k++(y::xs.drop (k + 1)):=by rw [← hy',List.getElem_cons_drop]; simp
 rw [hx] at h
 obtain ⟨c,d,e,h1,d1,d2,e',h2,h3⟩:=zt.split _ _ _ h
 exact ⟨c,d1,d2,by simp [e,e'],h2,zt.len _ _ h1,h1,h3⟩
def zp (agg:Bool) (cs:List Value) (v:Value):Prop:=match agg with
 | true=>v=.agg cs.toArray
 | false=>cs=[v]
mutual
def qm (ob:Ob) (γ:Hm) (G:Gh) (w:World):AV→List Value→Prop
 | .pv x,cs=>qG G w x cs
 | .ag xs,cs=>zh ob γ G w xs cs
 | .nils,cs=>cs=[.slice none 0 0]
 | .v l n, cs => ∃ a cap, cs = [.slice a n cap] ∧ n ≤ cap ∧
     ((∃ fz sz x,get ob l=some (.vec fz sz x)∧n≤x.len∧(cap≠0→∃ b,a=some ⟨b,0,none⟩∧(x.len=n→b=(γ l).1))∧(x.len=n→cap=(γ l).2))∨(∃ xs b,a=some ⟨b,0,none⟩∧get ob l=some (.fns xs)∧n=xs.length∧(b,cap)=γ l))
 | .p l _ off,cs=>cs=[.pointer (some ⟨(γ l).1,off,none⟩)]∧∃ ro c,get ob l=some (.cell ro c)
 | .pe l n _ off, cs => ∃ b, cs = [.pointer (some ⟨b, off, none⟩)] ∧
     ((∃ fz sz x,get ob l=some (.vec fz sz x)∧n≤x.len∧(x.len=n→b=(γ l).1))∨(∃ xs,get ob l=some (.fns xs)∧n=xs.length∧b=(γ l).1))
 | .ro x,cs=>∃ b off vs,cs=[.pointer (some ⟨b,off,none⟩)]∧qG G w x vs∧Qq w b off vs∧inG G b off vs.length
 | .nilp,cs=>cs=[.pointer none]
 | .m l,cs=>cs=[.map (some (γ l).1)]∧∃ c es,get ob l=some (.map c es)
 | .nilm,cs=>cs=[.map none]
 | .fn f a c,cs=>∃ va vc,cs=[.func f va.toArray vc.toArray]∧zB ob γ G w a va∧zB ob γ G w c vc
 | .nilf,cs=>cs=[.nilFunc]
 | .iface t x,cs=>∃ c v,cs=[.iface t v]∧qm ob γ G w x c∧zp x.isAgg c v
 | .nili,cs=>cs=[.nilIface]
 | .yl l,cs=>cs=[.func (.yield (γ l).1) #[] #[]]∧∃ ps n sl as0 bd fn st pe d,get ob l=some (.loop ps n sl as0 bd fn st pe d)
 | .es k,cs=>∃ a cap,cs=[.slice a 0 cap]∧a.isNone=Nat.beq k 1
 | .tup _,_=>False
 | .undef,_=>False
def zh (ob:Ob) (γ:Hm) (G:Gh) (w:World):List AV→List Value→Prop
 | [],cs=>cs=[]
 | x::xs,cs=>∃ c d,cs=c++d∧qm ob γ G w x c∧zh ob γ G w xs d
def zB (ob:Ob) (γ:Hm) (G:Gh) (w:World):List AV→List Value→Prop
 | [],vs=>vs=[]
 | x::xs,vs=>∃ c v r,vs=v::r∧qm ob γ G w x c∧zp x.isAgg c v∧zB ob γ G w xs r
end
def qM (ob:Ob) (γ:Hm) (G:Gh) (w:World) (x:AV) (v:Value):Prop:=match x with
 | .undef=>True
 | .tup xs=>∃ vs,v=.tuple vs.toArray∧zB ob γ G w xs vs
 | x=>∃ c,qm ob γ G w x c∧zp x.isAgg c v
def zu (G:Gh) (w:World) (sz:Nat):PV→List Value→Prop
 | .l sz' xs,cs=>sz'=sz∧zt G w xs cs∧∀ x∈xs,x.size=sz
 | .bl xs,cs=>sz=1∧cs=xs.map cu8
 | _,_=>False
def q_ (ob:Ob) (γ:Hm) (G:Gh) (w:World):jN→List MapEntry→Prop
 | [],es=>es=[]
 | (k,x,n)::r,es=>∃ e t,es=e::t∧qM ob γ G w (.pv k) e.key∧(qM ob γ G w x e.val∧x.Y1=true)∧e.born=n∧q_ ob γ G w r t
def qcY (w:World) (b:Nat) (cs:List Value):Prop:=∃ el fr,w.heap[b]?=some (.cells cs.toArray el fr)∧∀ o,o < cs.length→¬ (fr.1≤o∧o < fr.2)
def zq (ob:Ob) (γ:Hm) (G:Gh) (w:World) (l:Nat):jc→Prop
 | .cell ro c=>∃ cs,qcY w (γ l).1 cs∧qm ob γ G w c cs∧match ro with
  | true=>inG G (γ l).1 0 cs.length
  | false=>∀ o,¬ G (γ l).1 o
 | .vec fz sz x=>0 < sz∧∃ cs sp,zu G w sz x cs∧(γ l).2 * sz=(cs++sp).length∧((γ l).2≠0→qcY w (γ l).1 (cs++sp)∧(∀ o,G (γ l).1 o→fz=true∧o < cs.length)∧(fz=true→inG G (γ l).1 0 cs.length))
 | .fns xs=>∃ cs,qcY w (γ l).1 cs∧zh ob γ G w xs cs∧(∀ x∈xs,x.size=1)∧(∀ o,¬ G (γ l).1 o)∧(γ l).2=xs.length
 | .map c es=>∃ ents,w.heap[(γ l).1]?=some (.map ents c)∧q_ ob γ G w es ents.toList∧(∀ e∈es,e.2.2 < c)∧(es.map (·.2.2)).Nodup∧∀ o,¬ G (γ l).1 o
 | .loop ps n sl as0 bd _ st pe d => ∃ tmps fn, w.heap[(γ l).1]? = some (.loop { state := st, pending := pe, fn := fn, tmps := tmps, params := ps.toArray, assign := as0, body := bd, defers := (γ d).1 }) ∧ tmps.size = n ∧
     (∀ t x,get sl t=some x→∃ v,tmps[t]?=some v∧qM ob γ G w x v)∧(∃ b,get ob d=some (.dfr b))∧∀ o,¬ G (γ l).1 o
 | .dfr b=>w.heap[(γ l).1]?=some (.deferred (match b with | true=>some [] | false=>none))∧∀ o,¬ G (γ l).1 o
def live (γ:Hm) (l:Nat):jc→Prop
 | .vec _ _ _=>(γ l).2≠0
 | _=>True
theorem jJ {γ γ':Hm} {l:Nat} {o:jc} (e:γ' l=γ l):live γ' l o↔live γ l o:=by
 cases o<;>simp only [live,e]
structure qL (ob:Ob) (γ:Hm) (G:Gh) (w:World):Prop where
 obj:∀ l o,get ob l=some o→zq ob γ G w l o
 inj:∀ l l' o o',get ob l=some o→get ob l'=some o'→live γ l o→live γ l' o'→(γ l).1=(γ l').1→l=l'
 gok:∀ b o,G b o→b < w.heap.size
 closed:∀ l o,get ob l=some o→∀ n∈o.names,∃ o',get ob n=some o'
def Vt (γ' γ:Hm) (l:Nat) (o o':jc):Prop:=match o,o' with
 | .vec _ _ x,.vec _ _ y=>x.len≤y.len∧(x.len=y.len→γ' l=γ l)
 | .cell _ _,.cell _ _=>γ' l=γ l
 | .fns xs,.fns ys=>xs.length=ys.length∧γ' l=γ l
 | .map _ _,.map _ _=>γ' l=γ l
 | .loop ..,.loop ..=>γ' l=γ l
 | .dfr _,.dfr _=>γ' l=γ l
 | _,_=>False
theorem qka {ob:Ob} {γ γ':Hm} {G:Gh} {w:World} {l:Nat} {o:jc} (h:zq ob γ G w l o) (e:γ' l=γ l):Vt γ' γ l o o:=by
 cases o
 ·exact e
 ·exact ⟨Nat.le_refl _,fun _=>e⟩
 ·exact ⟨rfl,e⟩
 ·exact e
 ·exact e
 ·exact e
def WV (w w':World):Prop:=w'.os=w.os∧w'.output=w.output
structure Trans (ob:Ob) (γ:Hm) (G:Gh) (w:World) (ob':Ob) (γ':Hm) (G':Gh) (w':World):Prop where
 keeps:J0 G w G' w'
 size:w.heap.size≤w'.heap.size
 frame:∀ b,b < w.heap.size→(∀ l o,get ob l=some o→live γ l o→(γ l).1≠b)→w'.heap[b]?=w.heap[b]?
 gnew:∀ b o,G' b o→¬ G b o→w.heap.size≤b∨∃ l x,get ob l=some x∧live γ l x∧(γ l).1=b
 kept:∀ l o,get ob l=some o→∃ o',get ob' l=some o'∧Vt γ' γ l o o'
 fresh:∀ l o,get ob' l=some o→live γ' l o→w.heap.size≤(γ' l).1∨∃ l₀ o₀,get ob l₀=some o₀∧live γ l₀ o₀∧(γ l₀).1=(γ' l).1
 io:WV w w'
end Go.Rx
end
noncomputable section
namespace Go.Rx
def upd (γ:Hm) (l:Nat) (h:Nat×Nat):Hm:=fun j=>if j=l then h else γ j
theorem jg (γ:Hm) (l:Nat) (h:Nat×Nat):upd γ l h l=h:=by simp [upd]
theorem zM (γ:Hm) {l j:Nat} (h:Nat×Nat) (hj:j≠l):upd γ l h j=γ j:=by simp [upd,hj]
section step
variable {ob ob':Ob} {γ γ':Hm} {G G':Gh} {w w':World}
mutual
theorem qm.step (T:Trans ob γ G w ob' γ' G' w'):∀ (x:AV) (cs:List Value),qm ob γ G w x cs→qm ob' γ' G' w' x cs
 | .pv x,cs,h=>by
  simp only [qm] at h ⊢
  exact qG.mono T.keeps x cs h
 | .ag xs,cs,h=>by
  simp only [qm] at h ⊢
  exact zh.step T xs cs h
 | .nils,_,h=>h
 | .v l n,cs,h=>by
  simp only [qm] at h ⊢
  obtain ⟨a,cap,h1,h2,h3⟩:=h
  refine ⟨a,cap,h1,h2,?_⟩
  rcases h3 with ⟨fz,sz,x,hg,hn,hc,hd⟩ | ⟨xs,b,hb,hg,hn,hc⟩
  ·obtain ⟨o',hg',hm⟩:=T.kept l _ hg
   cases o'<;>simp only [Vt] at hm
   rename_i fz' sz' y
   refine .inl ⟨fz',sz',y,hg',by omega,fun e=>?_,fun e=>?_⟩
   ·obtain ⟨b,h4,h5⟩:=hc e
    exact ⟨b,h4,fun e=>by rw [hm.2 (by omega)]; exact h5 (by omega)⟩
   ·rw [hm.2 (by omega)]; exact hd (by omega)
  ·obtain ⟨o',hg',hm⟩:=T.kept l _ hg
   cases o'<;>simp only [Vt] at hm
   rename_i ys
   exact .inr ⟨ys,b,hb,hg',by omega,by rw [hm.2]; exact hc⟩
 | .p l path off,cs,h=>by
  simp only [qm] at h ⊢
  obtain ⟨h1,ro,c,hg⟩:=h
  obtain ⟨o',hg',hm⟩:=T.kept l _ hg
  cases o'<;>simp only [Vt] at hm
  rename_i ro' c'
  exact ⟨by rw [hm]; exact h1,ro',c',hg'⟩
 | .pe l n path off,cs,h=>by
  simp only [qm] at h ⊢
  obtain ⟨b,h1,h3⟩:=h
  refine ⟨b,h1,?_⟩
  rcases h3 with ⟨fz,sz,x,hg,hn,hc⟩ | ⟨xs,hg,hn,hc⟩
  ·obtain ⟨o',hg',hm⟩:=T.kept l _ hg
   cases o'<;>simp only [Vt] at hm
   rename_i fz' sz' y
   refine .inl ⟨fz',sz',y,hg',by omega,fun e=>?_⟩
   rw [hm.2 (by omega)]; exact hc (by omega)
  ·obtain ⟨o',hg',hm⟩:=T.kept l _ hg
   cases o'<;>simp only [Vt] at hm
   rename_i ys
   exact .inr ⟨ys,hg',by omega,by rw [hm.2]; exact hc⟩
 | .ro x,cs,h=>by
  simp only [qm] at h ⊢
  obtain ⟨b,off,vs,h1,h2,h3,h4⟩:=h
  exact ⟨b,off,vs,h1,qG.mono T.keeps x vs h2,T.keeps.cells h3 h4,T.keeps.inG h4⟩
 | .nilp,_,h=>h
 | .m l,cs,h=>by
  simp only [qm] at h ⊢
  obtain ⟨h1,c,es,hg⟩:=h
  obtain ⟨o',hg',hm⟩:=T.kept l _ hg
  cases o'<;>simp only [Vt] at hm
  rename_i c' es'
  exact ⟨by rw [hm]; exact h1,c',es',hg'⟩
 | .nilm,_,h=>h
 | .fn f a c,cs,h=>by
  simp only [qm] at h ⊢
  obtain ⟨va,vc,h1,h2,h3⟩:=h
  exact ⟨va,vc,h1,zB.step T a va h2,zB.step T c vc h3⟩
 | .nilf,_,h=>h
 | .iface t x,cs,h=>by
  simp only [qm] at h ⊢
  obtain ⟨c,v,h1,h2,h3⟩:=h
  exact ⟨c,v,h1,qm.step T x c h2,h3⟩
 | .nili,_,h=>h
 | .yl l,cs,h=>by
  simp only [qm] at h ⊢
  obtain ⟨h1,ps,n,sl,as0,bd,fn,st,pe,d,hg⟩:=h
  obtain ⟨o',hg',hm⟩:=T.kept l _ hg
  cases o'<;>simp only [Vt] at hm
  exact ⟨by rw [hm]; exact h1,_,_,_,_,_,_,_,_,_,hg'⟩
 | .es _,_,h=>h
 | .tup _,_,h=>h
 | .undef,_,h=>h
theorem zh.step (T:Trans ob γ G w ob' γ' G' w'):∀ (x:List AV) (cs:List Value),zh ob γ G w x cs→zh ob' γ' G' w' x cs
 | [],_,h=>h
 | x::xs,cs,h=>by
  simp only [zh] at h ⊢
  obtain ⟨c,d,e,h1,h2⟩:=h
  exact ⟨c,d,e,qm.step T x c h1,zh.step T xs d h2⟩
theorem zB.step (T:Trans ob γ G w ob' γ' G' w'):∀ (x:List AV) (vs:List Value),zB ob γ G w x vs→zB ob' γ' G' w' x vs
 | [],_,h=>h
 | x::xs,vs,h=>by
  simp only [zB] at h ⊢
  obtain ⟨c,v,r,e,h1,h2,h3⟩:=h
  exact ⟨c,v,r,e,qm.step T x c h1,h2,zB.step T xs r h3⟩
end
theorem qM.step (T:Trans ob γ G w ob' γ' G' w') (x:AV) (v:Value) (h:qM ob γ G w x v):qM ob' γ' G' w' x v:=by
 unfold qM at h ⊢
 cases x<;>simp only at h ⊢<;>first
  | trivial
  | (obtain ⟨vs,h1,h2⟩:=h; exact ⟨vs,h1,zB.step T _ vs h2⟩)
  | (obtain ⟨c,h1,h2⟩:=h; exact ⟨c,qm.step T _ c h1,h2⟩)
theorem q_.step (T:Trans ob γ G w ob' γ' G' w'):∀ (es:jN) (l:List MapEntry),q_ ob γ G w es l→q_ ob' γ' G' w' es l
 | [],_,h=>h
 | (k,x,n)::r,l,h=>by
  simp only [q_] at h ⊢
  obtain ⟨e,t,h1,h2,h3,h4,h5⟩:=h
  exact ⟨e,t,h1,qM.step T _ _ h2,⟨qM.step T _ _ h3.1,h3.2⟩,h4,q_.step T r t h5⟩
theorem zu.mono (K:J0 G w G' w') {sz:Nat}:∀ {x:PV} {cs:List Value},zu G w sz x cs→zu G' w' sz x cs:=by
 intro x cs h
 cases x<;>simp only [zu] at h ⊢
 ·exact ⟨h.1,zt.mono K _ _ h.2.1,h.2.2⟩
 ·exact h
theorem zq.step (T : Trans ob γ G w ob' γ' G' w') {l : Nat} {o : jc} (hb : live γ l o → w'.heap[(γ l).1]? = w.heap[(γ l).1]?) (hγ : γ' l = γ l)
    (hG:live γ l o→∀ i,G' (γ l).1 i↔G (γ l).1 i) (h:zq ob γ G w l o):zq ob' γ' G' w' l o:=by
 cases o with
 | cell ro c=>
  have hb:=hb trivial
  replace hG:=hG trivial
  simp only [zq,hγ,qcY,hb] at h ⊢
  obtain ⟨cs,h1,h2,h3⟩:=h
  refine ⟨cs,h1,qm.step T _ _ h2,?_⟩
  split at h3
  ·exact fun j hj=>(hG _).2 (h3 j hj)
  ·exact fun j hj=>h3 j ((hG _).1 hj)
 | vec fz sz x=>
  simp only [zq,hγ] at h ⊢
  obtain ⟨h0,cs,sp,h2,h3,h1⟩:=h
  refine ⟨h0,cs,sp,zu.mono T.keeps h2,h3,fun hl=>?_⟩
  obtain ⟨h1,h4,h5⟩:=h1 hl
  have hb:=hb hl
  have hG:=hG hl
  simp only [qcY,hb] at h1 ⊢
  exact ⟨h1,fun j hj=>h4 j ((hG _).1 hj),fun e j hj=>(hG _).2 (h5 e j hj)⟩
 | fns xs=>
  have hb:=hb trivial
  have hG:=hG trivial
  simp only [zq,hγ,qcY,hb] at h ⊢
  obtain ⟨cs,h1,h2,h3,h4,h5⟩:=h
  exact ⟨cs,h1,zh.step T _ _ h2,h3,fun j hj=>h4 j ((hG _).1 hj),h5⟩
 | map c es=>
  have hb:=hb trivial
  have hG:=hG trivial
  simp only [zq,hγ,hb] at h ⊢
  obtain ⟨ents,h1,h2,h3,h4,h5⟩:=h
  exact ⟨ents,h1,q_.step T _ _ h2,h3,h4,fun j hj=>h5 j ((hG _).1 hj)⟩
 | loop ps n sl as0 bd fn st pe d=>
  have hb:=hb trivial
  have hG:=hG trivial
  simp only [zq,hγ,hb] at h ⊢
  obtain ⟨tmps,fn',h1,h2,h3,⟨b,h4⟩,h5⟩:=h
  obtain ⟨o',hg',hm⟩:=T.kept _ _ h4
  cases o'<;>simp only [Vt] at hm
  refine ⟨tmps,fn',by rw [hm]; exact h1,h2,fun t x hx=>?_,⟨_,hg'⟩,fun j hj=>h5 j ((hG _).1 hj)⟩
  obtain ⟨v,g1,g2⟩:=h3 t x hx
  exact ⟨v,g1,qM.step T _ _ g2⟩
 | dfr b=>
  have hb:=hb trivial
  have hG:=hG trivial
  simp only [zq,hγ,hb] at h ⊢
  exact ⟨h.1,fun j hj=>h.2 j ((hG _).1 hj)⟩
end step
theorem zq.lt {ob:Ob} {γ:Hm} {G:Gh} {w:World} {l:Nat} {o:jc} (h:zq ob γ G w l o) (hl:live γ l o):(γ l).1 < w.heap.size:=by
 have key:∀ x,w.heap[(γ l).1]?=some x→(γ l).1 < w.heap.size:=fun x hx=>(Array.getElem?_eq_some_iff.1 hx).1
 cases o<;>simp only [zq,qcY] at h
 ·obtain ⟨cs,⟨el,fr,h1,_⟩,_⟩:=h; exact key _ h1
 ·obtain ⟨_,cs,sp,_,_,h⟩:=h; obtain ⟨⟨el,fr,h1,_⟩,_⟩:=h hl; exact key _ h1
 ·obtain ⟨cs,⟨el,fr,h1,_⟩,_⟩:=h; exact key _ h1
 ·obtain ⟨ents,h1,_⟩:=h; exact key _ h1
 ·obtain ⟨tmps,fn',h1,_⟩:=h; exact key _ h1
 ·exact key _ h.1
theorem qAN {ob : Ob} {γ : Hm} {G : Gh} {w : World} (H : qL ob γ G w) (l : Nat) (o' : jc) (hm : Nat × Nat) (G' : Gh) (w' : World)
    (hsz:w.heap.size≤w'.heap.size) (hfr:∀ b,b < w.heap.size→b≠hm.1→w'.heap[b]?=w.heap[b]?) (hk:J0 G w G' w')
    (hg:∀ b o,G' b o→¬ G b o→b=hm.1) (hlt:hm.1 < w'.heap.size)
    (hhome:w.heap.size≤hm.1∨∃ o,get ob l=some o∧live γ l o∧(γ l).1=hm.1)
    (hstep:∀ o,get ob l=some o→Vt (upd γ l hm) γ l o o')
    (hcl:∀ n∈o'.names,∃ o,get (ins l o' ob) n=some o)
    (hobj:Trans ob γ G w (ins l o' ob) (upd γ l hm) G' w'→zq (ins l o' ob) (upd γ l hm) G' w' l o') (hio:WV w w':=by exact ⟨rfl,rfl⟩) :
    qL (ins l o' ob) (upd γ l hm) G' w'∧Trans ob γ G w (ins l o' ob) (upd γ l hm) G' w':=by
 have hT:Trans ob γ G w (ins l o' ob) (upd γ l hm) G' w':=by
  refine ⟨hk,hsz,?_,?_,?_,?_,hio⟩
  ·intro b hb hno
   refine hfr b hb fun e=>?_
   rcases hhome with h | ⟨o,ho,hv,he⟩
   ·omega
   ·exact hno l o ho hv (by rw [he,e])
  ·intro b o h1 h2
   have:=hg b o h1 h2
   rcases hhome with h | ⟨x,ho,hv,he⟩
   ·exact .inl (by omega)
   ·exact .inr ⟨l,x,ho,hv,by rw [he,this]⟩
  ·intro j o hj
   by_cases e:j=l
   ·subst e
    refine ⟨o',by simp [qT],?_⟩
    exact hstep o hj
   ·refine ⟨o,by rw [qT,if_neg (fun h=>e h.symm)]; exact hj,?_⟩
    exact qka (H.obj j o hj) (zM γ hm e)
  ·intro j o hj hv
   by_cases e:j=l
   ·subst e
    rw [jg]
    rcases hhome with h | ⟨x,ho,hx,he⟩
    ·exact .inl h
    ·exact .inr ⟨j,x,ho,hx,he⟩
   ·rw [qT,if_neg (fun h=>e h.symm)] at hj
    exact .inr ⟨j,o,hj,(jJ (zM γ hm e)).1 hv,by rw [zM γ hm e]⟩
 refine ⟨⟨?_,?_,?_,?_⟩,hT⟩
 ·intro j o hj
  by_cases e:j=l
  ·subst e
   rw [qT,if_pos rfl] at hj
   cases hj
   exact hobj hT
  ·rw [qT,if_neg (fun h=>e h.symm)] at hj
   have h0:=H.obj j o hj
   have hne:live γ j o→(γ j).1≠hm.1:=fun hv=>by
    rcases hhome with h | ⟨x,ho,hx,he⟩
    ·have:=h0.lt hv; omega
    ·intro h; exact e (H.inj j l o x hj ho hv hx (by rw [h,he]))
   refine zq.step hT (fun hv=>hfr _ (h0.lt hv) (hne hv)) (zM γ hm e) (fun hv i=>⟨fun h=>?_,hk.sub _ _⟩) h0
   by_cases hgi:G (γ j).1 i
   ·exact hgi
   ·exact absurd (hg _ _ h hgi) (hne hv)
 ·intro j j' o o₁ h1 h2 v1 v2 he
  by_cases e:j=l<;>by_cases e':j'=l
  ·rw [e,e']
  ·subst e
   rw [qT,if_neg (fun h=>e' h.symm)] at h2
   rw [jg,zM γ hm e'] at he
   have v2:=(jJ (zM γ hm e')).1 v2
   rcases hhome with h | ⟨x,ho,hv,hx⟩
   ·have:=(H.obj j' _ h2).lt v2; omega
   ·exact H.inj j j' x o₁ ho h2 hv v2 (by rw [hx,he])
  ·subst e'
   rw [qT,if_neg (fun h=>e h.symm)] at h1
   rw [jg,zM γ hm e] at he
   have v1:=(jJ (zM γ hm e)).1 v1
   rcases hhome with h | ⟨x,ho,hv,hx⟩
   ·have:=(H.obj j _ h1).lt v1; omega
   ·exact H.inj j j' o x h1 ho v1 hv (by rw [hx,he])
  ·rw [qT,if_neg (fun h=>e h.symm)] at h1
   rw [qT,if_neg (fun h=>e' h.symm)] at h2
   rw [zM γ hm e,zM γ hm e'] at he
   exact H.inj j j' o o₁ h1 h2 ((jJ (zM γ hm e)).1 v1) ((jJ (zM γ hm e')).1 v2) he
 ·intro b o hb
  by_cases hgb:G b o
  ·exact Nat.lt_of_lt_of_le (H.gok b o hgb) hsz
  ·rw [hg b o hb hgb]; exact hlt
 ·intro j o hj n hn
  by_cases e:j=l
  ·subst e
   rw [qT,if_pos rfl] at hj
   cases hj
   exact hcl n hn
  ·rw [qT,if_neg (fun h=>e h.symm)] at hj
   obtain ⟨x,hx⟩:=H.closed j o hj n hn
   by_cases en:n=l
   ·exact ⟨o',by simp [qT,en]⟩
   ·exact ⟨x,by rw [qT,if_neg (fun h=>en h.symm)]; exact hx⟩
theorem qwx {ob : Ob} {γ : Hm} {G : Gh} {w : World} (H : qL ob γ G w) (l : Nat) {fz : Bool} {sz b : Nat} {x : PV} (h0 : 0 < sz) (hr : zu G w sz x [])
    (hstep:∀ o,get ob l=some o→Vt (upd γ l (b,0)) γ l o (.vec fz sz x)) :
    qL (ins l (.vec fz sz x) ob) (upd γ l (b,0)) G w∧Trans ob γ G w (ins l (.vec fz sz x) ob) (upd γ l (b,0)) G w:=by
 have hd:¬ live (upd γ l (b,0)) l (.vec fz sz x):=by simp [live,jg]
 have hT:Trans ob γ G w (ins l (.vec fz sz x) ob) (upd γ l (b,0)) G w:=by
  refine ⟨⟨fun _ _ h=>h,fun _ _ _=>rfl⟩,Nat.le_refl _,fun _ _ _=>rfl,fun _ _ h h'=>absurd h h',?_,?_,⟨rfl,rfl⟩⟩
  ·intro j o hj
   by_cases e:j=l
   ·subst e
    exact ⟨_,by rw [qT,if_pos rfl],hstep o hj⟩
   ·exact ⟨o,by rw [qT,if_neg (fun h=>e h.symm)]; exact hj,qka (H.obj j o hj) (zM γ _ e)⟩
  ·intro j o hj hv
   by_cases e:j=l
   ·subst e
    rw [qT,if_pos rfl] at hj
    cases hj
    exact absurd hv hd
   ·rw [qT,if_neg (fun h=>e h.symm)] at hj
    exact .inr ⟨j,o,hj,(jJ (zM γ _ e)).1 hv,by rw [zM γ _ e]⟩
 refine ⟨⟨?_,?_,H.gok,?_⟩,hT⟩
 ·intro j o hj
  by_cases e:j=l
  ·subst e
   rw [qT,if_pos rfl] at hj
   cases hj
   simp only [zq,jg]
   exact ⟨h0,[],[],hr,by simp,fun h=>absurd rfl h⟩
  ·rw [qT,if_neg (fun h=>e h.symm)] at hj
   exact zq.step hT (fun _=>rfl) (zM γ _ e) (fun _ _=>Iff.rfl) (H.obj j o hj)
 ·intro j j' o o₁ h1 h2 v1 v2 he
  by_cases e:j=l
  ·subst e
   rw [qT,if_pos rfl] at h1
   cases h1
   exact absurd v1 hd
  ·by_cases e':j'=l
   ·subst e'
    rw [qT,if_pos rfl] at h2
    cases h2
    exact absurd v2 hd
   ·rw [qT,if_neg (fun h=>e h.symm)] at h1
    rw [qT,if_neg (fun h=>e' h.symm)] at h2
    rw [zM γ _ e,zM γ _ e'] at he
    exact H.inj j j' o o₁ h1 h2 ((jJ (zM γ _ e)).1 v1) ((jJ (zM γ _ e')).1 v2) he
 ·intro j o hj n hn
  by_cases e:j=l
  ·subst e
   rw [qT,if_pos rfl] at hj
   cases hj
   simp [jc.names] at hn
  ·rw [qT,if_neg (fun h=>e h.symm)] at hj
   obtain ⟨x,hx⟩:=H.closed j o hj n hn
   by_cases en:n=l
   ·exact ⟨_,by rw [qT,if_pos en.symm]⟩
   ·exact ⟨x,by rw [qT,if_neg (fun h=>en h.symm)]; exact hx⟩
theorem qo7 {ob : Ob} {γ : Hm} {G : Gh} {w : World} (H : qL ob γ G w) (G' : Gh) (w' : World)
    (hsz:w.heap.size≤w'.heap.size) (hfr:∀ b,b < w.heap.size→w'.heap[b]?=w.heap[b]?)
    (hsub:∀ b o,G b o→G' b o) (hg:∀ b o,G' b o→¬ G b o→w.heap.size≤b∧b < w'.heap.size) (hio:WV w w':=by exact ⟨rfl,rfl⟩) :
    qL ob γ G' w'∧Trans ob γ G w ob γ G' w':=by
 have hk:J0 G w G' w':=⟨hsub,fun b o h=>by simp only [World.cell?,hfr b (H.gok b o h)]⟩
 have hT:Trans ob γ G w ob γ G' w':=by
  refine ⟨hk,hsz,fun b hb _=>hfr b hb,fun b o h1 h2=>.inl (hg b o h1 h2).1,?_,fun l o h hv=>.inr ⟨l,o,h,hv,rfl⟩,hio⟩
  intro j o hj
  exact ⟨o,hj,qka (H.obj j o hj) rfl⟩
 refine ⟨⟨?_,H.inj,?_,H.closed⟩,hT⟩
 ·intro j o hj
  have h0:=H.obj j o hj
  refine zq.step hT (fun hv=>hfr _ (h0.lt hv)) rfl (fun hv i=>⟨fun h=>?_,hsub _ _⟩) h0
  by_cases hgi:G (γ j).1 i
  ·exact hgi
  ·have:=(hg _ _ h hgi).1; have:=h0.lt hv; omega
 ·intro b o hb
  by_cases hgb:G b o
  ·exact Nat.lt_of_lt_of_le (H.gok b o hgb) hsz
  ·exact (hg b o hb hgb).2
theorem Trans.refl {ob:Ob} {γ:Hm} {G:Gh} {w:World} (H:qL ob γ G w):Trans ob γ G w ob γ G w:=
 (qo7 H G w (Nat.le_refl _) (fun _ _=>rfl) (fun _ _ h=>h) (fun b o h k=>absurd h k)).2
theorem Trans.trans {ob ob' ob'' : Ob} {γ γ' γ'' : Hm} {G G' G'' : Gh} {w w' w'' : World} (H : qL ob γ G w)
    (h:Trans ob γ G w ob' γ' G' w') (k:Trans ob' γ' G' w' ob'' γ'' G'' w''):Trans ob γ G w ob'' γ'' G'' w'':=by
 refine ⟨h.keeps.trans k.keeps,Nat.le_trans h.size k.size,?_,?_,?_,?_,k.io.1.trans h.io.1,k.io.2.trans h.io.2⟩
 ·intro b hb hno
  rw [k.frame b (Nat.lt_of_lt_of_le hb h.size),h.frame b hb hno]
  intro l o hl hv e
  rcases h.fresh l o hl hv with h1 | ⟨l₀,o₀,h1,hx,h2⟩
  ·omega
  ·exact hno l₀ o₀ h1 hx (by rw [h2,e])
 ·intro b o h1 h2
  by_cases h3:G' b o
  ·exact h.gnew b o h3 h2
  ·rcases k.gnew b o h1 h3 with h4 | ⟨l,x,h4,hv,h5⟩
   ·exact .inl (Nat.le_trans h.size h4)
   ·rcases h.fresh l x h4 hv with h6 | ⟨l₀,o₀,h6,hx,h7⟩
    ·exact .inl (by omega)
    ·exact .inr ⟨l₀,o₀,h6,hx,by rw [h7,h5]⟩
 ·intro l o hl
  obtain ⟨o',h1,h2⟩:=h.kept l o hl
  obtain ⟨o'',h3,h4⟩:=k.kept l o' h1
  refine ⟨o'',h3,?_⟩
  cases o<;>cases o'<;>simp only [Vt] at h2<;>cases o''<;>simp only [Vt] at h4 ⊢
  ·rw [h4,h2]
  ·refine ⟨by omega,fun e=>?_⟩
   rw [h4.2 (by omega),h2.2 (by omega)]
  ·exact ⟨by omega,by rw [h4.2,h2.2]⟩
  ·rw [h4,h2]
  ·rw [h4,h2]
  ·rw [h4,h2]
 ·intro l o hl hv
  rcases k.fresh l o hl hv with h1 | ⟨l₀,o₀,h1,hx,h2⟩
  ·exact .inl (Nat.le_trans h.size h1)
  ·rcases h.fresh l₀ o₀ h1 hx with h3 | ⟨l₁,o₁,h3,hy,h4⟩
   ·exact .inl (by omega)
   ·exact .inr ⟨l₁,o₁,h3,hy,by rw [h4,h2]⟩
end Go.Rx
end
noncomputable section
namespace Go.Rx
theorem Vp:∀ {ps qs:List Prop},All (ps++qs)→All ps∧All qs
 | [],qs,h=>⟨trivial,h⟩
 | [p],[],h=>⟨h,trivial⟩
 | [p],q::qs,h=>⟨h.1,h.2⟩
 | p::p'::ps,qs,h=>by
  have h':p∧All ((p'::ps)++qs):=h
  have:=Vp (ps:=p'::ps) h'.2
  exact ⟨⟨h'.1,this.1⟩,this.2⟩
theorem qJ {α β : Type} {x : R α} {f : α → R β} {b : β} {qs : List Prop} (h : x.with f = some (b, qs)) (hq : All qs) :
    ∃ a ps ps',x=some (a,ps)∧f a=some (b,ps')∧All ps∧All ps':=by
 unfold R.with at h
 split at h
 ·split at h
  ·simp only [Option.some.injEq,Prod.mk.injEq] at h
   obtain ⟨rfl,rfl⟩:=h
   have:=Vp hq
   rename_i a ps _ b' ps' hf
   exact ⟨a,ps,ps',rfl,hf,this.1,this.2⟩
  ·simp at h
 ·simp at h
theorem qO {α:Type} {b:Bool} {x:R α} {r:α×List Prop} (h:qR b x=some r):b=true∧x=some r:=by
 cases b<;>simp [qR] at h ⊢
 exact h
theorem zG {α:Type} {p:Prop} {x y:α} {ps:List Prop} (h:owe p x=some (y,ps)) (hp:All ps):y=x∧p:=by
 simp only [owe,Option.some.injEq,Prod.mk.injEq] at h
 obtain ⟨rfl,rfl⟩:=h
 exact ⟨rfl,hp⟩
theorem qq {α:Type} {x y:α} {ps:List Prop} (h:qA x=some (y,ps)):y=x:=by
 simp only [qA,Option.some.injEq,Prod.mk.injEq] at h
 exact h.1.symm
theorem Jh {α:Type} {x:Option α} {y:α} {ps:List Prop} (h:ofO x=some (y,ps)):x=some y:=by
 unfold ofO at h
 split at h
 ·rw [qq h]
 ·simp at h
theorem qhk {x:R PV} {y:AV} {ps:List Prop} (h:rPV x=some (y,ps)):∃ z,x=some (z,ps)∧y=.pv z:=by
 unfold rPV at h
 split at h
 ·simp only [Option.some.injEq,Prod.mk.injEq] at h
  obtain ⟨rfl,rfl⟩:=h
  exact ⟨_,rfl,rfl⟩
 ·simp at h
section types
variable {P:Program} {t:TypeId} (w:World)
theorem qV0 {k:TK} (h:qy P t=some k):∃ d,P.underlying t=some d:=by
 unfold qy at h
 cases hu:P.underlying t with
 | none=>simp [hu] at h
 | some d=>exact ⟨d,rfl⟩
theorem Wj {d:TypeDesc} (h:P.underlying t=some d):∃ i,P.info? t=some i:=by
 unfold Program.underlying at h
 cases hi:P.info? t with
 | none=>simp [hi] at h
 | some i=>exact ⟨i,rfl⟩
theorem qvp (h:qy P t=some .bool):P.underlying t=some .bool:=by
 unfold qy at h; repeat' split at h
 all_goals simp_all
theorem qhh {k:IntKind} (h:qy P t=some (.int k)):P.underlying t=some (.int k):=by
 unfold qy at h; repeat' split at h
 all_goals simp_all
theorem Xa (h:qy P t=some .str):P.underlying t=some .string:=by
 unfold qy at h; repeat' split at h
 all_goals simp_all
theorem qk1 {e:TypeId} (h:qy P t=some (.ptr e)):P.underlying t=some (.pointer e):=by
 unfold qy at h; repeat' split at h
 all_goals simp_all
theorem zC {e:TypeId} (h:qy P t=some (.slice e)):P.underlying t=some (.slice e):=by
 unfold qy at h; repeat' split at h
 all_goals simp_all
theorem V9 {a e:TypeId} (h:qy P t=some (.map a e)):P.underlying t=some (.map a e):=by
 unfold qy at h; repeat' split at h
 all_goals simp_all
theorem quL (h:qy P t=some .func):∃ a b c,P.underlying t=some (.func a b c):=by
 unfold qy at h; repeat' split at h
 all_goals simp_all
theorem qBn (h:qy P t=some .iface):∃ a,P.underlying t=some (.interface a):=by
 unfold qy at h; repeat' split at h
 all_goals simp_all
theorem Vm {n:Nat} (h:qy P t=some (.bytes n)):∃ e,P.underlying t=some (.array n e)∧P.underlying e=some (.int .u8)∧qE P e=1:=by
 unfold qy at h; repeat' split at h
 all_goals simp_all
theorem qfj {n:Nat} (h:qy P t=some (.words n)):∃ e,P.underlying t=some (.array n e)∧P.underlying e=some (.int .u32)∧qE P e=1:=by
 unfold qy at h; repeat' split at h
 all_goals simp_all
theorem qzz {n:Nat} {e:TypeId} (h:qy P t=some (.arr n e)):P.underlying t=some (.array n e):=by
 unfold qy at h; repeat' split at h
 all_goals simp_all
theorem qdE {fs:List (TypeId×Nat)} (h:qy P t=some (.struct fs)):∃ gs,P.underlying t=some (.struct gs)∧fs=gs.toList.map fun f=>(f.type,f.offset):=by
 unfold qy at h; repeat' split at h
 all_goals simp_all
theorem qbR {d:TypeDesc} (h:P.underlying t=some d):(sizeOf t).run P w=.ok (qE P t) w:=by
 obtain ⟨i,hi⟩:=Wj h
 simp [sizeOf,typeInfo,hi,qE]
def qHy:TypeDesc→Bool
 | .struct _ | .array _ _=>true
 | _=>false
theorem qcN {d:TypeDesc} (h:P.underlying t=some d):(isAgg t).run P w=.ok (qHy d) w:=by
 simp only [isAgg,Sem.run_bind,run_underlying h,Result.andThen_ok]
 cases d<;>rfl
theorem qaY {d:Nat} {x:AV} (h:fit P d t x=true):∃ td,P.underlying t=some td∧qHy td=x.isAgg:=by
 cases d with
 | zero=>simp [fit] at h
 | succ d=>
  unfold fit at h
  split at h<;>first
   | (simp at h; done)
   | (rename_i hk; exact ⟨_,qvp hk,rfl⟩)
   | (rename_i hk; exact ⟨_,qhh hk,rfl⟩)
   | (rename_i hk; exact ⟨_,Xa hk,rfl⟩)
   | (rename_i hk; obtain ⟨e,he,_⟩:=Vm hk; exact ⟨_,he,rfl⟩)
   | (rename_i hk; obtain ⟨e,he,_⟩:=qfj hk; exact ⟨_,he,rfl⟩)
   | (rename_i hk; exact ⟨_,zC hk,rfl⟩)
   | (rename_i hk; exact ⟨_,qk1 hk,rfl⟩)
   | (rename_i hk; exact ⟨_,V9 hk,rfl⟩)
   | (rename_i hk; obtain ⟨a,b,c,he⟩:=quL hk; exact ⟨_,he,rfl⟩)
   | (rename_i hk; obtain ⟨a,he⟩:=qBn hk; exact ⟨_,he,rfl⟩)
   | (rename_i hk; exact ⟨_,qzz hk,rfl⟩)
   | (rename_i hk; obtain ⟨gs,he,_⟩:=qdE hk; exact ⟨_,he,rfl⟩)
end types
section j_
variable {ob:Ob} {γ:Hm} {G:Gh} {w:World} {v:Value}
theorem Kk {x:Bool}:qM ob γ G w (.pv (.b x)) v↔v=.bool x:=by simp [qM,qm,qG,AV.isAgg,zp,eq_comm]
theorem jr {k:IntKind} {n:Int}:qM ob γ G w (.pv (.i k n)) v↔v=.int k n:=by simp [qM,qm,qG,AV.isAgg,zp,eq_comm]
theorem qaK {x:List UInt8}:qM ob γ G w (.pv (.s x)) v↔v=.string ⟨x.toArray⟩:=by simp [qM,qm,qG,AV.isAgg,zp,eq_comm]
theorem jT:qM ob γ G w .nils v↔v=.slice none 0 0:=by simp [qM,qm,AV.isAgg,zp,eq_comm]
theorem qip:qM ob γ G w .nilp v↔v=.pointer none:=by simp [qM,qm,AV.isAgg,zp,eq_comm]
theorem qnj:qM ob γ G w .nilm v↔v=.map none:=by simp [qM,qm,AV.isAgg,zp,eq_comm]
theorem qtG:qM ob γ G w .nilf v↔v=.nilFunc:=by simp [qM,qm,AV.isAgg,zp,eq_comm]
theorem quK:qM ob γ G w .nili v↔v=.nilIface:=by simp [qM,qm,AV.isAgg,zp,eq_comm]
theorem zy {x:AV} (hx:x.isAgg=false) (h:qm ob γ G w x [v]):qM ob γ G w x v:=by
 unfold qM
 cases x<;>simp only [qm] at h ⊢
 all_goals first
  | exact ⟨[v],h,by rw [hx]; rfl⟩
  | exact h.elim
  | trivial
theorem qkK {x:AV} {cs:List Value} (hx:x.isAgg=true) (h:qm ob γ G w x cs):qM ob γ G w x (.agg cs.toArray):=by
 unfold qM
 cases x<;>simp only [qm] at h ⊢
 all_goals first
  | exact ⟨cs,h,by rw [hx]; rfl⟩
  | exact h.elim
  | trivial
theorem qeY {x:AV} {cs:List Value} (h:qm ob γ G w x cs) (ho:zp x.isAgg cs v):qM ob γ G w x v:=by
 cases ha:x.isAgg with
 | true=>rw [ha] at ho; simp only [zp] at ho; subst ho; exact qkK ha h
 | false=>rw [ha] at ho; simp only [zp] at ho; subst ho; exact zy ha h
theorem qq8 {x:AV} (h:qM ob γ G w x v):(∃ xs,x=.tup xs)∨x=.undef∨∃ cs,qm ob γ G w x cs∧zp x.isAgg cs v:=by
 unfold qM at h
 cases x<;>simp only at h
 all_goals first
  | exact .inr (.inr h)
  | exact .inl ⟨_,rfl⟩
  | exact .inr (.inl rfl)
theorem QH {x:PV}:qM ob γ G w (.pv x) v↔∃ cs,qG G w x cs∧zp (AV.isAgg (.pv x)) cs v:=by
 unfold qM; simp only [qm]
theorem qaa {P:Program} {d:Nat} {t:TypeId} {x:AV} (hf:fit P d t x=true) (h:qM ob γ G w x v):∃ cs,qm ob γ G w x cs∧zp x.isAgg cs v:=by
 rcases qq8 h with ⟨xs,rfl⟩ | rfl | h
 ·cases d<;>simp [fit] at hf
 ·cases d<;>simp [fit] at hf
 ·exact h
mutual
theorem qm.len:∀ (x:AV) (cs:List Value),qm ob γ G w x cs→cs.length=x.size
 | .pv x,cs,h=>by simp only [qm] at h; simpa [AV.size] using qG.len x cs h
 | .ag xs,cs,h=>by simp only [qm] at h; simpa [AV.size] using zh.len xs cs h
 | .nils,cs,h=>by simp [qm] at h; simp [h,AV.size]
 | .v _ _,cs,h=>by simp only [qm] at h; obtain ⟨b,cap,h,_⟩:=h; simp [h,AV.size]
 | .p _ _ _,cs,h=>by simp only [qm] at h; obtain ⟨h,_⟩:=h; simp [h,AV.size]
 | .pe _ _ _ _,cs,h=>by simp only [qm] at h; obtain ⟨b,h,_⟩:=h; simp [h,AV.size]
 | .ro _,cs,h=>by simp only [qm] at h; obtain ⟨b,o,vs,h,_⟩:=h; simp [h,AV.size]
 | .nilp,cs,h=>by simp [qm] at h; simp [h,AV.size]
 | .m _,cs,h=>by simp only [qm] at h; obtain ⟨h,_⟩:=h; simp [h,AV.size]
 | .nilm,cs,h=>by simp [qm] at h; simp [h,AV.size]
 | .fn _ _ _,cs,h=>by simp only [qm] at h; obtain ⟨a,b,h,_⟩:=h; simp [h,AV.size]
 | .nilf,cs,h=>by simp [qm] at h; simp [h,AV.size]
 | .iface _ _,cs,h=>by simp only [qm] at h; obtain ⟨a,b,h,_⟩:=h; simp [h,AV.size]
 | .nili,cs,h=>by simp [qm] at h; simp [h,AV.size]
 | .yl _,cs,h=>by simp only [qm] at h; obtain ⟨h,_⟩:=h; simp [h,AV.size]
 | .es _,cs,h=>by simp only [qm] at h; obtain ⟨a,cap,h,_⟩:=h; simp [h,AV.size]
 | .tup _,cs,h=>by simp [qm] at h
 | .undef,cs,h=>by simp [qm] at h
theorem zh.len:∀ (x:List AV) (cs:List Value),zh ob γ G w x cs→cs.length=AV.jo x
 | [],cs,h=>by simp [zh] at h; simp [h,AV.jo]
 | x::xs,cs,h=>by
  simp only [zh] at h
  obtain ⟨c,d,e,h1,h2⟩:=h
  simp [e,AV.jo,qm.len x c h1,zh.len xs d h2]
end
theorem qGm {agg:Bool} {cs:List Value} (h:zp agg cs v) (hna:agg=false→∀ c,v≠.agg c):v.cells=cs.toArray:=by
 cases agg
 ·simp only [zp] at h; subst h
  cases v<;>first | rfl | exact absurd rfl (hna rfl _)
 ·simp only [zp] at h; subst h; rfl
theorem qLS {x:PV} {cs:List Value} (hx:AV.isAgg (.pv x)=false) (h:qG G w x cs):∃ v,cs=[v]∧v.oneCell'=true:=by
 cases x<;>simp only [qG] at h<;>first
  | (simp [AV.isAgg] at hx; done)
  | (subst h; exact ⟨_,rfl,rfl⟩)
  | (obtain ⟨a,cap,h,_⟩:=h; subst h; exact ⟨_,rfl,rfl⟩)
theorem ju {x:AV} {cs:List Value} (hx:x.isAgg=false) (h:qm ob γ G w x cs):∃ v,cs=[v]∧v.oneCell'=true:=by
 cases x<;>simp only [qm] at h
 case pv x=>exact qLS hx h
 case ag=>simp [AV.isAgg] at hx
 all_goals first
  | exact h.elim
  | (subst h; exact ⟨_,rfl,rfl⟩)
  | (obtain ⟨h,_⟩:=h; subst h; exact ⟨_,rfl,rfl⟩)
  | (obtain ⟨a,h,_⟩:=h; subst h; exact ⟨_,rfl,rfl⟩)
  | (obtain ⟨a,b,h,_⟩:=h; subst h; exact ⟨_,rfl,rfl⟩)
  | (obtain ⟨a,b,c,h,_⟩:=h; subst h; exact ⟨_,rfl,rfl⟩)
theorem KG {x:AV} {cs:List Value} (h:qm ob γ G w x cs) (ho:zp x.isAgg cs v):v.cells=cs.toArray:=by
 refine qGm ho fun e c hc=>?_
 obtain ⟨u,hu,h1⟩:=ju e h
 rw [e] at ho; simp only [zp] at ho
 rw [ho] at hu; cases hu; subst hc; simp [Value.oneCell'] at h1
mutual
theorem qG.qey:∀ (x:PV) (cs:List Value),qG G w x cs→∀ c∈cs,c.oneCell'=true
 | .b _,cs,h=>by simp only [qG] at h; subst h; simp [Value.oneCell']
 | .i _ _,cs,h=>by simp only [qG] at h; subst h; simp [Value.oneCell']
 | .s _,cs,h=>by simp only [qG] at h; subst h; simp [Value.oneCell']
 | .ba _ _,cs,h=>by simp only [qG] at h; subst h; simp [Value.oneCell',cu8]
 | .wa _ _,cs,h=>by simp only [qG] at h; subst h; simp [Value.oneCell',qqw]
 | .ag xs,cs,h=>zt.qey xs cs h
 | .l _ _,cs,h=>by simp only [qG] at h; obtain ⟨a,cap,h,_⟩:=h; subst h; simp [Value.oneCell']
 | .bl _,cs,h=>by simp only [qG] at h; obtain ⟨a,cap,h,_⟩:=h; subst h; simp [Value.oneCell']
theorem zt.qey:∀ (x:List PV) (cs:List Value),zt G w x cs→∀ c∈cs,c.oneCell'=true
 | [],cs,h=>by simp only [zt] at h; subst h; simp
 | x::xs,cs,h=>by
  obtain ⟨c,d,e,h1,h2⟩:=h
  intro u hu
  rw [e] at hu
  rcases List.mem_append.1 hu with hu | hu
  ·exact qG.qey x c h1 u hu
  ·exact zt.qey xs d h2 u hu
end
mutual
theorem qm.qey:∀ (x:AV) (cs:List Value),qm ob γ G w x cs→∀ c∈cs,c.oneCell'=true
 | .pv x,cs,h=>by simp only [qm] at h; exact qG.qey x cs h
 | .ag xs,cs,h=>by simp only [qm] at h; exact zh.qey xs cs h
 | .nils,cs,h=>by obtain ⟨v,rfl,h1⟩:=ju rfl h; simpa using h1
 | .v _ _,cs,h=>by obtain ⟨v,rfl,h1⟩:=ju rfl h; simpa using h1
 | .p _ _ _,cs,h=>by obtain ⟨v,rfl,h1⟩:=ju rfl h; simpa using h1
 | .pe _ _ _ _,cs,h=>by obtain ⟨v,rfl,h1⟩:=ju rfl h; simpa using h1
 | .ro _,cs,h=>by obtain ⟨v,rfl,h1⟩:=ju rfl h; simpa using h1
 | .nilp,cs,h=>by obtain ⟨v,rfl,h1⟩:=ju rfl h; simpa using h1
 | .m _,cs,h=>by obtain ⟨v,rfl,h1⟩:=ju rfl h; simpa using h1
 | .nilm,cs,h=>by obtain ⟨v,rfl,h1⟩:=ju rfl h; simpa using h1
 | .fn _ _ _,cs,h=>by obtain ⟨v,rfl,h1⟩:=ju rfl h; simpa using h1
 | .nilf,cs,h=>by obtain ⟨v,rfl,h1⟩:=ju rfl h; simpa using h1
 | .iface _ _,cs,h=>by obtain ⟨v,rfl,h1⟩:=ju rfl h; simpa using h1
 | .nili,cs,h=>by obtain ⟨v,rfl,h1⟩:=ju rfl h; simpa using h1
 | .yl _,cs,h=>by obtain ⟨v,rfl,h1⟩:=ju rfl h; simpa using h1
 | .es _,cs,h=>by obtain ⟨v,rfl,h1⟩:=ju rfl h; simpa using h1
 | .tup _,cs,h=>by obtain ⟨v,rfl,h1⟩:=ju rfl h; simpa using h1
 | .undef,cs,h=>by obtain ⟨v,rfl,h1⟩:=ju rfl h; simpa using h1
theorem zh.qey:∀ (x:List AV) (cs:List Value),zh ob γ G w x cs→∀ c∈cs,c.oneCell'=true
 | [],cs,h=>by simp only [zh] at h; subst h; simp
 | x::xs,cs,h=>by
  simp only [zh] at h
  obtain ⟨c,d,e,h1,h2⟩:=h
  intro u hu
  rw [e] at hu
  rcases List.mem_append.1 hu with hu | hu
  ·exact qm.qey x c h1 u hu
  ·exact zh.qey xs d h2 u hu
end
theorem AV.qm5 (xs:List PV):AV.jo (xs.map AV.pv)=PV.jo xs:=by
 induction xs with
 | nil=>rfl
 | cons x xs ih=>simp [AV.jo,PV.jo,AV.size,ih]
theorem qcu:∀ (xs:List PV) (cs:List Value),zh ob γ G w (xs.map AV.pv) cs↔zt G w xs cs
 | [],cs=>by simp [zh,zt]
 | x::xs,cs=>by
  simp only [List.map_cons,zh,zt,qm]
  exact exists_congr fun c=>exists_congr fun d=>and_congr Iff.rfl (and_congr Iff.rfl (qcu xs d))
theorem zh.append:∀ (xs ys:List AV) (c d:List Value),zh ob γ G w xs c→zh ob γ G w ys d→zh ob γ G w (xs++ys) (c++d)
 | [],_,_,_,h,k=>by simp [zh] at h; subst h; simpa using k
 | x::xs,ys,_,d,h,k=>by
  simp only [zh] at h
  obtain ⟨c1,c2,e,h1,h2⟩:=h
  simp only [List.cons_append,zh]
  exact ⟨c1,c2++d,by simp [e],h1,zh.append xs ys c2 d h2 k⟩
theorem zh.split:∀ (xs ys:List AV) (cs:List Value),zh ob γ G w (xs++ys) cs→∃ c d,cs=c++d∧zh ob γ G w xs c∧zh ob γ G w ys d
 | [],_,cs,h=>⟨[],cs,rfl,by simp [zh],h⟩
 | x::xs,ys,_,h=>by
  simp only [List.cons_append,zh] at h
  obtain ⟨c1,c2,e,h1,h2⟩:=h
  obtain ⟨c,d,e',h3,h4⟩:=zh.split xs ys c2 h2
  exact ⟨c1++c,d,by simp [e,e'],by simp only [zh]; exact ⟨c1,c,rfl,h1,h3⟩,h4⟩
theorem zh.at {xs : List AV} {cs : List Value} (h : zh ob γ G w xs cs) {k : Nat} {y : AV} (hy : xs[k]? = some y) :
    ∃ c d e,cs=c++d++e∧qm ob γ G w y d∧c.length=AV.jo (xs.take k)∧zh ob γ G w (xs.take k) c∧zh ob γ G w (xs.drop (k + 1)) e:=by
 obtain ⟨hk,hy'⟩:=List.getElem?_eq_some_iff.1 hy
 have hx:xs=xs.take k++(y::xs.drop (k + 1)):=by rw [← hy',List.getElem_cons_drop]; simp
 rw [hx] at h
 obtain ⟨c,d,e,h1,h2⟩:=zh.split _ _ _ h
 simp only [zh] at h2
 obtain ⟨d1,d2,e',h2,h3⟩:=h2
 exact ⟨c,d1,d2,by simp [e,e'],h2,zh.len _ _ h1,h1,h3⟩
theorem qy6 {P : Program} : ∀ (d : Nat) (fs : List (TypeId × Nat)) (xs : List AV) (n : Nat), fits P d fs xs n = true → ∀ (f u o : Nat) (y : AV), fs[f]? = some (u, o) → xs[f]? = some y →
    o=n + AV.jo (xs.take f)∧qE P u=y.size∧∃ d',fit P d' u y=true
 | 0,_,_,_,h=>by simp [fits] at h
 | d + 1,[],[],n,h=>by simp
 | d + 1,[],x::xs,n,h=>by simp
 | d + 1,(t,o)::fs,[],n,h=>by simp
 | d + 1,(t,o)::fs,x::xs,n,h=>by
  simp only [fits,Bool.and_eq_true,beq_iff_eq] at h
  obtain ⟨⟨⟨h1,h2⟩,h3⟩,h4⟩:=h
  intro f u o' y hf hy
  cases f with
  | zero=>
   simp only [List.getElem?_cons_zero,Option.some.injEq,Prod.mk.injEq] at hf hy
   obtain ⟨rfl,rfl⟩:=hf
   subst hy
   exact ⟨by simp [AV.jo,h1],h2,d,h3⟩
  | succ f=>
   simp only [List.getElem?_cons_succ] at hf hy
   obtain ⟨e1,e2,e3⟩:=qy6 d fs xs _ h4 f u o' y hf hy
   exact ⟨by simp only [List.take_succ_cons,AV.jo]; omega,e2,e3⟩
theorem qrJ {P : Program} {d : Nat} {u : TypeId} {y : AV} {c cs e : List Value} (hf : fit P d u y = true) (hs : qE P u = y.size) (hy : qm ob γ G w y cs) (w' : World) :
    ∃ v',(part u (c++cs++e).toArray c.length).run P w'=.ok v' w'∧qM ob γ G w y v'∧zp y.isAgg cs v':=by
 obtain ⟨td,hu,ha⟩:=qaY hf
 have hl:=qm.len y cs hy
 cases hag:y.isAgg with
 | true=>
  rw [hag] at ha
  refine ⟨.agg cs.toArray,?_,qkK hag hy,rfl⟩
  simp only [part,Sem.run_bind,qcN w' hu,Result.andThen_ok,ha,if_true,qbR w' hu,Sem.run_pure,hs,← hl]
  congr 2
  apply Array.ext'
  simp
 | false=>
  rw [hag] at ha
  obtain ⟨v',rfl,h1⟩:=ju hag hy
  refine ⟨v',?_,zy hag hy,rfl⟩
  simp only [part,Sem.run_bind,qcN w' hu,Result.andThen_ok,ha,Bool.false_eq_true,if_false]
  have:(c++[v']++e).toArray[c.length]?=some v':=by simp
  rw [this]; rfl
theorem qug {P : Program} {d t : Nat} {fs : List (TypeId × Nat)} {x : AV} (hk : qy P t = some (.struct fs)) (hf : fit P d t x = true) {cs : List Value} (hr : qm ob γ G w x cs) :
    ∃ xs d',(x=.ag xs∨∃ ys,x=.pv (.ag ys)∧xs=ys.map AV.pv)∧fits P d' fs xs 0=true∧zh ob γ G w xs cs:=by
 cases d with
 | zero=>simp [fit] at hf
 | succ d=>
  unfold fit at hf
  split at hf<;>first
   | (rename_i hk'; rw [hk] at hk'; simp at hk'; done)
   | (simp at hf; done)
   | skip
  ·rename_i hk'
   rw [hk] at hk'; simp only [Option.some.injEq,TK.struct.injEq] at hk'; subst hk'
   exact ⟨_,d,.inr ⟨_,rfl,rfl⟩,hf,(qcu _ _).2 (by simpa only [qm,qG] using hr)⟩
  ·rename_i hk'
   rw [hk] at hk'; simp only [Option.some.injEq,TK.struct.injEq] at hk'; subst hk'
   exact ⟨_,d,.inl rfl,hf,by simpa only [qm] using hr⟩
end j_
end Go.Rx
end
noncomputable section
namespace Go.Rx
section j_
variable {ob:Ob} {γ:Hm} {G:Gh} {w:World} {v:Value}
theorem qcW:∀ {xs:List AV} {ys:List PV},AV.Z7 xs=some ys→xs=ys.map AV.pv
 | [],ys,h=>by simp [AV.Z7] at h; simp [← h]
 | x::xs,ys,h=>by
  cases x<;>simp only [AV.Z7] at h<;>try (simp at h; done)
  cases hx:AV.Z7 xs with
  | none=>simp [hx] at h
  | some zs=>simp [hx] at h; subst h; simp [qcW hx]
theorem qDB {xs:List AV} {cs:List Value}:qm ob γ G w (AV.mk xs) cs↔zh ob γ G w xs cs:=by
 unfold AV.mk
 split
 ·rename_i ys h
  rw [qcW h,qcu]; simp only [qm,qG]
 ·simp only [qm]
theorem qTy (xs:List AV):(AV.mk xs).isAgg=true:=by unfold AV.mk; split<;>rfl
theorem qgl {cs:List Value} {k:Nat} {u:Value} (h:cs[k]?=some u):cs=cs.take k++[u]++cs.drop (k + 1):=by
 obtain ⟨hk,h'⟩:=List.getElem?_eq_some_iff.1 h
 rw [← h']; simp
theorem qrX {n:Nat} {x:Vector UInt8 n} {k:Nat} (hk:k < n):(x.toList.map cu8)[k]?=some (cu8 (x.toList.getD k 0)):=by
 have:k < x.toList.length:=by simpa using hk
 simp [List.getD_eq_getElem?_getD,List.getElem?_eq_getElem this]
theorem qza {n:Nat} {x:Vector UInt32 n} {k:Nat} (hk:k < n):(x.toList.map qqw)[k]?=some (qqw (x.toList.getD k 0)):=by
 have:k < x.toList.length:=by simpa using hk
 simp [List.getD_eq_getElem?_getD,List.getElem?_eq_getElem this]
theorem qeQ : ∀ (path : List Nat) (x y : AV) (o : Nat) (cs : List Value), AV.at path x = some y → AV.zN path x = some o → All (AV.inR path x) → qm ob γ G w x cs →
    ∃ c d e,cs=c++d++e∧c.length=o∧qm ob γ G w y d:=by
 intro path
 induction path with
 | nil=>
  intro x y o cs h1 h2 _ hr
  simp only [AV.at,AV.zN,Option.some.injEq] at h1 h2
  subst h1; subst h2
  exact ⟨[],cs,[],by simp,rfl,hr⟩
 | cons k r ih=>
  intro x y o cs h1 h2 hi hr
  cases x with
  | pv z=>
   cases z with
   | ag xs=>
    simp only [AV.at,AV.zN,AV.inR] at h1 h2 hi
    cases hx:xs[k]? with
    | none=>simp [hx] at h1
    | some z=>
     simp only [hx] at h1 h2 hi
     cases ho:AV.zN r (.pv z) with
     | none=>simp [ho] at h2
     | some o'=>
      simp only [ho,Option.map_some,Option.some.injEq] at h2
      simp only [qm,qG] at hr
      obtain ⟨c,d,e,e1,h3,h4,_⟩:=zt.at hr hx
      obtain ⟨c',d',e',e2,h5,h6⟩:=ih (.pv z) y o' d h1 ho hi (by simpa only [qm] using h3)
      exact ⟨c++c',d',e'++e,by simp [e1,e2],by simp; omega,h6⟩
   | ba n x=>
    cases r with
    | cons a r=>simp [AV.at] at h1
    | nil=>
     simp only [AV.at,AV.zN,AV.inR,Option.some.injEq] at h1 h2 hi
     subst h1; subst h2
     simp only [qm,qG] at hr
     subst hr
     exact ⟨_,_,_,qgl (qrX hi),by simp; have h9:k < n:=hi; omega,by simp [qm,qG,u8,cu8]⟩
   | wa n x=>
    cases r with
    | cons a r=>simp [AV.at] at h1
    | nil=>
     simp only [AV.at,AV.zN,AV.inR,Option.some.injEq] at h1 h2 hi
     subst h1; subst h2
     simp only [qm,qG] at hr
     subst hr
     exact ⟨_,_,_,qgl (qza hi),by simp; have h9:k < n:=hi; omega,by simp [qm,qG,u32,qqw]⟩
   | _=>cases r<;>simp [AV.at] at h1
  | ag xs=>
   simp only [AV.at,AV.zN,AV.inR] at h1 h2 hi
   cases hx:xs[k]? with
   | none=>simp [hx] at h1
   | some z=>
    simp only [hx] at h1 h2 hi
    cases ho:AV.zN r z with
    | none=>simp [ho] at h2
    | some o'=>
     simp only [ho,Option.map_some,Option.some.injEq] at h2
     simp only [qm] at hr
     obtain ⟨c,d,e,e1,h3,h4,_⟩:=zh.at hr hx
     obtain ⟨c',d',e',e2,h5,h6⟩:=ih z y o' d h1 ho hi h3
     exact ⟨c++c',d',e'++e,by simp [e1,e2],by simp; omega,h6⟩
  | _=>cases r<;>simp [AV.at] at h1
mutual
theorem qsv:∀ (xs:List PV) (k:Nat) (z:PV),xs[k]?=some z→PV.jo (xs.take k) + z.size≤PV.jo xs
 | [],k,z,h=>by simp at h
 | x::xs,0,z,h=>by simp at h; subst h; simp [PV.jo]
 | x::xs,k + 1,z,h=>by
  have:=qsv xs k z (by simpa using h)
  simp only [List.take_succ_cons,PV.jo]; omega
end
theorem qpm:∀ (xs:List AV) (k:Nat) (z:AV),xs[k]?=some z→AV.jo (xs.take k) + z.size≤AV.jo xs
 | [],k,z,h=>by simp at h
 | x::xs,0,z,h=>by simp at h; subst h; simp [AV.jo]
 | x::xs,k + 1,z,h=>by
  have:=qpm xs k z (by simpa using h)
  simp only [List.take_succ_cons,AV.jo]; omega
theorem qRO {α:Type} {xs:List α} {k:Nat} {z:α} (h:xs[k]?=some z) (y:α):xs.set k y=xs.take k++(y::xs.drop (k + 1)):=by
 obtain ⟨hk,_⟩:=List.getElem?_eq_some_iff.1 h
 exact List.set_eq_take_append_cons_drop.trans (by rw [if_pos hk])
theorem zh.set {xs : List AV} {cs : List Value} (h : zh ob γ G w xs cs) {k : Nat} {z : AV} (hz : xs[k]? = some z) {c d e : List Value} (hcs : cs = c ++ d ++ e) (hc : c.length = AV.jo (xs.take k)) (hd : d.length = z.size)
    {y:AV} {dy:List Value} (hy:qm ob γ G w y dy):zh ob γ G w (xs.set k y) (c++dy++e):=by
 obtain ⟨c',d',e',e1,h1,h2,h3,h4⟩:=zh.at h hz
 have hl:=qm.len _ _ h1
 have e2:c=c'∧d=d'∧e=e':=by
  rw [hcs] at e1
  simp only [List.append_assoc] at e1
  obtain ⟨e3,e4⟩:=List.append_inj e1 (by omega)
  obtain ⟨e5,e6⟩:=List.append_inj e4 (by omega)
  exact ⟨e3,e5,e6⟩
 obtain ⟨rfl,rfl,rfl⟩:=e2
 rw [qRO hz]
 rw [List.append_assoc]
 refine zh.append _ _ _ _ h3 ?_
 simp only [zh]
 exact ⟨dy,e,rfl,hy,h4⟩
theorem qhH {an:Option Ans} {y:PV} {c:UInt8} {ps:List Prop} (h:asByte an y=some (c,ps)) (hp:All ps):∃ n,y=.i .u8 n∧n=c.toNat:=by
 unfold asByte at h
 split at h
 ·split at h
  ·obtain ⟨rfl,h1⟩:=zG h hp
   exact ⟨_,rfl,h1⟩
  ·obtain ⟨rfl,h1⟩:=zG h hp
   refine ⟨_,rfl,?_⟩
   rename_i n _ _
   rw [UInt8.toNat_ofNat']
   rw [Nat.mod_eq_of_lt (by omega)]; omega
 ·simp at h
theorem qx6 {an:Option Ans} {y:PV} {c:UInt32} {ps:List Prop} (h:qAY an y=some (c,ps)) (hp:All ps):∃ n,y=.i .u32 n∧n=c.toNat:=by
 unfold qAY at h
 split at h
 ·split at h
  ·obtain ⟨rfl,h1⟩:=zG h hp
   exact ⟨_,rfl,h1⟩
  ·obtain ⟨rfl,h1⟩:=zG h hp
   refine ⟨_,rfl,?_⟩
   rename_i n _ _
   rw [UInt32.toNat_ofNat']
   rw [Nat.mod_eq_of_lt (by omega)]; omega
 ·simp at h
theorem qRn:∀ (path:List Nat) (x z:AV) (o:Nat),AV.at path x=some z→AV.zN path x=some o→All (AV.inR path x)→o + z.size≤x.size:=by
 intro path
 induction path with
 | nil=>intro x z o h1 h2 _; simp only [AV.at,AV.zN,Option.some.injEq] at h1 h2; subst h1; subst h2; simp
 | cons k r ih=>
  intro x z o h1 h2 hi
  cases x with
  | pv u=>
   cases u with
   | ag xs=>
    simp only [AV.at,AV.zN,AV.inR] at h1 h2 hi
    cases hx:xs[k]? with
    | none=>simp [hx] at h1
    | some u=>
     simp only [hx] at h1 h2 hi
     cases ho:AV.zN r (.pv u) with
     | none=>simp [ho] at h2
     | some o'=>
      simp only [ho,Option.map_some,Option.some.injEq] at h2
      have:=ih _ _ _ h1 ho hi
      have h3:=qsv xs k u hx
      simp only [AV.size,PV.size] at this ⊢; omega
   | ba n xs=>
    cases r with
    | cons a r=>simp [AV.at] at h1
    | nil=>simp only [AV.at,AV.zN,AV.inR,Option.some.injEq] at h1 h2 hi; subst h1; subst h2; simp only [AV.size,PV.size,u8]; exact hi
   | wa n xs=>
    cases r with
    | cons a r=>simp [AV.at] at h1
    | nil=>simp only [AV.at,AV.zN,AV.inR,Option.some.injEq] at h1 h2 hi; subst h1; subst h2; simp only [AV.size,PV.size,u32]; exact hi
   | _=>cases r<;>simp [AV.at] at h1
  | ag xs=>
   simp only [AV.at,AV.zN,AV.inR] at h1 h2 hi
   cases hx:xs[k]? with
   | none=>simp [hx] at h1
   | some u=>
    simp only [hx] at h1 h2 hi
    cases ho:AV.zN r u with
    | none=>simp [ho] at h2
    | some o'=>
     simp only [ho,Option.map_some,Option.some.injEq] at h2
     have:=ih _ _ _ h1 ho hi
     have h3:=qpm xs k u hx
     simp only [AV.size] at this ⊢; omega
  | _=>cases r<;>simp [AV.at] at h1
theorem qI6 {α : Type} {c d e c1 d1 e1 : List α} (h : c ++ d ++ e = c1 ++ d1 ++ e1) (h1 : c1.length ≤ c.length) (h2 : c.length + d.length ≤ c1.length + d1.length) :
    ∃ c2 e2,c=c1++c2∧d1=c2++d++e2∧e=e2++e1:=by
 rw [List.append_assoc,List.append_assoc] at h
 rcases List.append_eq_append_iff.1 h with ⟨t,ha,hb⟩ | ⟨t,ha,hb⟩
 ·
  have ht:t=[]:=List.length_eq_zero_iff.1 (by have:=congrArg List.length ha; simp at this; omega)
  subst ht
  simp only [List.append_nil] at ha
  simp only [List.nil_append] at hb
  subst ha
  rcases List.append_eq_append_iff.1 hb with ⟨s,hc,hd⟩ | ⟨s,hc,hd⟩
  ·exact ⟨[],s,by simp,by simp [hc],hd⟩
  ·have hs:s=[]:=List.length_eq_zero_iff.1 (by have:=congrArg List.length hc; simp at this; omega)
   subst hs
   exact ⟨[],[],by simp,by simpa using hc.symm,by simpa using hd.symm⟩
 ·
  subst ha
  rw [← List.append_assoc] at hb
  rcases List.append_eq_append_iff.1 hb with ⟨s,hc,hd⟩ | ⟨s,hc,hd⟩
  ·have hs:s=[]:=List.length_eq_zero_iff.1 (by have:=congrArg List.length hc; simp at this h2; omega)
   subst hs
   exact ⟨t,[],rfl,by simpa using hc.symm,by simpa using hd.symm⟩
  ·exact ⟨t,s,rfl,hc,hd⟩
theorem qoa {an : Option Ans} : ∀ (path : List Nat) (x y x' z : AV) (o : Nat) (c d e dy : List Value) (ps : List Prop), setAt an path x y = some (x', ps) → All ps → All (AV.inR path x) →
    AV.at path x=some z→AV.zN path x=some o→c.length=o→d.length=z.size→qm ob γ G w x (c++d++e)→qm ob γ G w y dy→qm ob γ G w x' (c++dy++e):=by
 intro path
 induction path with
 | nil=>
  intro x y x' z o c d e dy ps h1 _ _ h2 h3 hc hd hr hy
  simp only [setAt,AV.at,AV.zN,Option.some.injEq] at h1 h2 h3
  have:=qq h1
  subst this; subst h2; subst h3
  have hl:=qm.len _ _ hr
  have:c=[]:=List.length_eq_zero_iff.1 hc
  subst this
  simp at hl
  have:e=[]:=List.length_eq_zero_iff.1 (by omega)
  subst this
  simpa using hy
 | cons k r ih=>
  intro x y x' z o c d e dy ps h1 hp hi h2 h3 hc hd hr hy
  cases x with
  | pv u=>
   cases u with
   | ag xs=>
    simp only [setAt,AV.at,AV.zN,AV.inR] at h1 h2 h3 hi
    cases hx:xs[k]? with
    | none=>simp [hx] at h1
    | some u=>
     simp only [hx] at h1 h2 h3 hi
     obtain ⟨u',ps1,ps2,e1,e2,hp1,_⟩:=qJ h1 hp
     have:=qq e2; subst this
     cases ho:AV.zN r (.pv u) with
     | none=>simp [ho] at h3
     | some o'=>
      simp only [ho,Option.map_some,Option.some.injEq] at h3
      simp only [qm,qG] at hr
      obtain ⟨c1,d1,e1',f1,h5,h6,h7,h8⟩:=zt.at hr hx
      have hl1:=qG.len _ _ h5
      have hat:=qRn r (.pv u) z o' h2 ho hi
      simp only [AV.size] at hat
      obtain ⟨c2,e2',rfl,rfl,rfl⟩:=qI6 f1 (by omega) (by omega)
      have hcl:c2.length=o':=by simp at hc; omega
      have hin2:=ih (.pv u) y u' z o' c2 d e2' dy ps1 e1 hp1 hi h2 ho hcl hd (by simpa only [qm] using h5) hy
      rw [qDB]
      have:=zh.set (xs:=xs.map AV.pv) (cs:=c1++(c2++d++e2')++e1') ((qcu _ _).2 (by rw [← f1]; exact hr)) (k:=k) (z:=.pv u) (by simp [hx]) rfl
       (by rw [← List.map_take,AV.qm5]; exact h6) (by simp only [AV.size]; exact hl1) hin2
      simpa [List.append_assoc] using this
   | ba n xs=>
    cases r with
    | cons a r=>simp [AV.at] at h2
    | nil=>
     cases y with
     | pv y=>
      simp only [setAt] at h1
      obtain ⟨b,ps1,ps2,e1,e2,hp1,hp2⟩:=qJ h1 hp
      obtain ⟨n',rfl,hn⟩:=qhH e1 hp1
      obtain ⟨rfl,hk⟩:=zG e2 hp2
      simp only [AV.at,AV.zN,Option.some.injEq] at h2 h3
      subst h2; subst h3
      simp only [qm,qG] at hr hy ⊢
      subst hy
      simp only [AV.size,u8,PV.size] at hd
      obtain ⟨d0,rfl⟩:=List.length_eq_one_iff.1 hd
      have hset:(xs.setIfInBounds k b).toList=xs.toList.set k b:=by simp
      rw [hset,List.map_set,← hr,← hc]
      simp [cu8,hn]
     | _=>simp [setAt] at h1
   | wa n xs=>
    cases r with
    | cons a r=>simp [AV.at] at h2
    | nil=>
     cases y with
     | pv y=>
      simp only [setAt] at h1
      obtain ⟨b,ps1,ps2,e1,e2,hp1,hp2⟩:=qJ h1 hp
      obtain ⟨n',rfl,hn⟩:=qx6 e1 hp1
      obtain ⟨rfl,hk⟩:=zG e2 hp2
      simp only [AV.at,AV.zN,Option.some.injEq] at h2 h3
      subst h2; subst h3
      simp only [qm,qG] at hr hy ⊢
      subst hy
      simp only [AV.size,u32,PV.size] at hd
      obtain ⟨d0,rfl⟩:=List.length_eq_one_iff.1 hd
      have hset:(xs.setIfInBounds k b).toList=xs.toList.set k b:=by simp
      rw [hset,List.map_set,← hr,← hc]
      simp [qqw,hn]
     | _=>simp [setAt] at h1
   | _=>cases r<;>simp [AV.at] at h2
  | ag xs=>
   simp only [setAt,AV.at,AV.zN,AV.inR] at h1 h2 h3 hi
   cases hx:xs[k]? with
   | none=>simp [hx] at h1
   | some u=>
    simp only [hx] at h1 h2 h3 hi
    obtain ⟨u',ps1,ps2,e1,e2,hp1,_⟩:=qJ h1 hp
    have:=qq e2; subst this
    cases ho:AV.zN r u with
    | none=>simp [ho] at h3
    | some o'=>
     simp only [ho,Option.map_some,Option.some.injEq] at h3
     simp only [qm] at hr
     obtain ⟨c1,d1,e1',f1,h5,h6,h7,h8⟩:=zh.at hr hx
     have hl1:=qm.len _ _ h5
     have hat:=qRn r u z o' h2 ho hi
     obtain ⟨c2,e2',rfl,rfl,rfl⟩:=qI6 f1 (by omega) (by omega)
     have hcl:c2.length=o':=by simp at hc; omega
     have hin2:=ih u y u' z o' c2 d e2' dy ps1 e1 hp1 hi h2 ho hcl hd h5 hy
     rw [qDB]
     have:=zh.set (xs:=xs) (cs:=c1++(c2++d++e2')++e1') (by rw [← f1]; exact hr) (k:=k) (z:=u) hx rfl h6 hl1 hin2
     simpa [List.append_assoc] using this
  | _=>cases r<;>simp [AV.at] at h2
end j_
end Go.Rx
end
noncomputable section
namespace Go.Rx
section eq
variable {P:Program} {ob:Ob} {γ:Hm} {G:Gh} {w:World}
theorem qU8:cu8=Extern.Stop.cell:=rfl
theorem qU {cs:List Value} {v:Value} (h:zp false cs v):cs=[v]:=h
theorem VC {cs:List Value} {v:Value} (h:zp true cs v):v=.agg cs.toArray:=h
theorem qf8 {t:TypeId} {gs:Array Field} (h:P.underlying t=some (.struct gs)):P.fieldsOf t=gs:=by simp [Program.fieldsOf,h]
theorem qiX (a b:List UInt8):(a == b)=decide (a=b):=by
 by_cases h:a=b<;>simp [h]
def qY9 (P:Program) (d:Nat):Prop:=
 ∀ (G:Gh) (w w':World) (t:TypeId) (x y:PV) (b:Bool) (cs ds:List Value) (v u:Value) (f g n:Nat),eqT P d t=true→fit P f t (.pv x)=true→fit P g t (.pv y)=true→PV.eqb x y=some b→
  qG G w x cs→qG G w y ds→zp (AV.isAgg (.pv x)) cs v→zp (AV.isAgg (.pv y)) ds u→d + 1≤n→(Op.equalIn n t v u).run P w'=.ok b w'
def qYI (P:Program) (d:Nat):Prop:=
 ∀ (G:Gh) (w w':World) (gl:List Field) (xs ys:List PV) (off:Nat) (c0 c1 d0 d1:List Value) (b:Bool) (f g n:Nat),qu9 P d (gl.map (·.type))=true→(∀ x∈gl,x.name ≠ "_")→
  fits P f (gl.map fun x=>(x.type,x.offset)) (xs.map AV.pv) off=true→fits P g (gl.map fun x=>(x.type,x.offset)) (ys.map AV.pv) off=true→PV.qn7 xs ys=some b→
  zt G w xs c1→zt G w ys d1→c0.length=off→d0.length=off→d≤n→(Op.eqFields n (c0++c1).toArray (d0++d1).toArray gl).run P w'=.ok b w'
theorem qnG {d : Nat} {u : TypeId} {y : PV} {c cs e : List Value} (hf : fit P d u (.pv y) = true) (hs : qE P u = y.size) (hy : qG G w y cs) (w' : World) :
    ∃ v',(part u (c++cs++e).toArray c.length).run P w'=.ok v' w'∧zp (AV.isAgg (.pv y)) cs v':=by
 obtain ⟨v',h1,_,h2⟩:=qrJ (ob:=[]) (γ:=fun _=>(0,0)) (G:=G) (w:=w) (y:=.pv y) (c:=c) (cs:=cs) (e:=e) hf (by simpa [AV.size] using hs) (by simpa only [qm] using hy) w'
 exact ⟨v',h1,h2⟩
theorem qP8 (d:Nat):qY9 P d∧qYI P d:=by
 induction d with
 | zero=>exact ⟨fun _ _ _ _ _ _ _ _ _ _ _ _ _ _ h=>by simp [eqT] at h,fun _ _ _ _ _ _ _ _ _ _ _ _ _ _ _ h=>by simp [qu9] at h⟩
 | succ d ih=>
  constructor
  ·intro G w w' t x y b cs ds v u f g n ht hx hy he hrx hry hv hu hn
   obtain ⟨n,rfl⟩:∃ m,n=m + 1:=⟨n - 1,by omega⟩
   unfold eqT at ht
   cases f with
   | zero=>simp [fit] at hx
   | succ f=>
   cases g with
   | zero=>simp [fit] at hy
   | succ g=>
   split at ht
   ·rename_i hk
    unfold fit at hx hy
    rw [hk] at hx hy
    cases x<;>simp only [Bool.false_eq_true] at hx
    cases y<;>simp only [Bool.false_eq_true] at hy
    simp only [qG] at hrx hry
    subst hrx; subst hry
    cases (qU hv); cases (qU hu)
    simp only [PV.eqb,Option.some.injEq] at he
    rw [run_equalIn_bool' w' n t _ _ (qvp hk),← he]
    congr 1
   ·rename_i k hk
    unfold fit at hx hy
    rw [hk] at hx hy
    cases x<;>simp only [Bool.false_eq_true,beq_iff_eq] at hx
    cases y<;>simp only [Bool.false_eq_true,beq_iff_eq] at hy
    simp only [qG] at hrx hry
    subst hrx; subst hry
    cases (qU hv); cases (qU hu)
    subst hx; subst hy
    simp only [PV.eqb,decide_true,Option.some.injEq] at he
    rw [run_equalIn_int w' n t _ _ _ _ (qhh hk),← he]
    congr 1
   ·rename_i hk
    unfold fit at hx hy
    rw [hk] at hx hy
    cases x<;>simp only [Bool.false_eq_true] at hx
    cases y<;>simp only [Bool.false_eq_true] at hy
    simp only [qG] at hrx hry
    subst hrx; subst hry
    cases (qU hv); cases (qU hu)
    simp only [PV.eqb,Option.some.injEq] at he
    rw [run_equalIn_string w' n t _ _ (Xa hk),← he]
    congr 1
    rw [ByteArray.toList_eq,ByteArray.toList_eq]
    exact qiX _ _
   ·rename_i m hk
    unfold fit at hx hy
    rw [hk] at hx hy
    cases x<;>simp only [Bool.false_eq_true,beq_iff_eq] at hx
    cases y<;>simp only [Bool.false_eq_true,beq_iff_eq] at hy
    simp only [qG] at hrx hry
    subst hrx; subst hry
    have hv':=VC hv
    have hu':=VC hu
    subst hv'; subst hu'
    subst hx; subst hy
    simp only [PV.eqb,Option.some.injEq] at he
    obtain ⟨e,h1,h2,h3⟩:=Vm hk
    obtain ⟨n',rfl⟩:∃ m,n=m + 1:=⟨n - 1,by omega⟩
    rename_i a _ c
    rw [qU8,run_equalIn_bytes w' n' t e m h1 h2 (fun w=>by rw [qbR w h2,h3]) _ _ (by simp) (by simp),← he]
    congr 1
    exact qiX _ _
   ·rename_i fs hk
    simp only [Bool.and_eq_true,Bool.not_eq_true',List.all_eq_true,bne_iff_ne] at ht
    obtain ⟨⟨h1,h2⟩,h3⟩:=ht
    obtain ⟨gs,h4,rfl⟩:=qdE hk
    unfold fit at hx hy
    rw [hk] at hx hy
    cases x<;>simp only [Bool.false_eq_true] at hx
    cases y<;>simp only [Bool.false_eq_true] at hy
    simp only [qG] at hrx hry
    have hv':=VC hv
    have hu':=VC hu
    subst hv'; subst hu'
    simp only [PV.eqb] at he
    rw [run_equalIn_agg w' n t _ _ (by rw [qf8 h4]; exact h4) h1,qf8 h4]
    rw [qf8 h4] at h2
    have:=ih.2 G w w' gs.toList _ _ 0 [] cs [] ds b f g n (by rw [List.map_map] at h3; exact h3) h2 hx hy he hrx hry rfl rfl (by omega)
    simpa using this
   ·simp at ht
  ·intro G w w' gl xs ys off c0 c1 d0 d1 b f g n ht hnm hx hy he hrx hry hc hd hn
   obtain ⟨n,rfl⟩:∃ m,n=m + 1:=⟨n - 1,by omega⟩
   cases gl with
   | nil=>
    cases f with
    | zero=>simp [fits] at hx
    | succ f=>
    cases g with
    | zero=>simp [fits] at hy
    | succ g=>
    cases xs with
    | cons x xs=>simp [fits] at hx
    | nil=>
    cases ys with
    | cons y ys=>simp [fits] at hy
    | nil=>
     simp only [PV.qn7,Option.some.injEq] at he
     subst he
     simp [Op.eqFields]
   | cons fl gl=>
    cases f with
    | zero=>simp [fits] at hx
    | succ f=>
    cases g with
    | zero=>simp [fits] at hy
    | succ g=>
    cases xs with
    | nil=>simp [fits] at hx
    | cons x xs=>
    cases ys with
    | nil=>simp [fits] at hy
    | cons y ys=>
     simp only [List.map_cons,qu9,Bool.and_eq_true] at ht
     simp only [List.map_cons,fits,Bool.and_eq_true,beq_iff_eq,AV.size] at hx hy
     obtain ⟨⟨⟨x1,x2⟩,x3⟩,x4⟩:=hx
     obtain ⟨⟨⟨y1,y2⟩,y3⟩,y4⟩:=hy
     simp only [PV.qn7] at he
     cases e1:PV.eqb x y with
     | none=>simp [e1] at he
     | some r=>
     cases e2:PV.qn7 xs ys with
     | none=>simp [e1,e2] at he
     | some r'=>
     simp only [e1,e2,Option.some.injEq] at he
     obtain ⟨ca,cb,rfl,hxa,hxb⟩:=hrx
     obtain ⟨da,db,rfl,hya,hyb⟩:=hry
     have hla:=qG.len _ _ hxa
     have hld:=qG.len _ _ hya
     obtain ⟨v1,p1,q1⟩:=qnG (c:=c0) (e:=cb) x3 x2 hxa w'
     obtain ⟨u1,p2,q2⟩:=qnG (c:=d0) (e:=db) y3 y2 hya w'
     have p3:=ih.1 G w w' fl.type x y r ca da v1 u1 f g (n + 1) ht.1 x3 y3 e1 hxa hya q1 q2 (by omega)
     have hoff:fl.offset=c0.length:=by omega
     have hoff':fl.offset=d0.length:=by omega
     rw [← List.append_assoc,← List.append_assoc]
     simp only [Op.eqFields]
     rw [if_pos (hnm fl (by simp))]
     simp only [Sem.run_bind]
     rw [hoff,p1]
     simp only [Result.andThen_ok]
     rw [← hoff,hoff',p2]
     simp only [Result.andThen_ok,p3]
     cases r with
     | false=>simp [← he]
     | true=>
      simp only [Bool.not_true,Bool.false_eq_true,if_false]
      have:=ih.2 G w w' gl xs ys (off + x.size) (c0++ca) cb (d0++da) db r' f g (n + 1) ht.2 (fun z hz=>hnm z (by simp [hz])) x4 (by rw [← x2,y2]; exact y4) e2 hxb hyb (by simp; omega) (by simp; omega) (by omega)
      rw [this,← he]; simp
end eq
end Go.Rx
end
noncomputable section
namespace Go.Rx
section g
variable {P:Program} {ob:Ob} {γ:Hm} {G:Gh} {w:World}
theorem qTK {a b:Value} (h:qO3 a b=true):a=b:=by
 unfold qO3 at h
 split at h<;>simp_all
theorem qHA:∀ {a b:List Value},allEq a b=true→a=b
 | [],[],_=>rfl
 | [],_::_,h=>by simp [allEq] at h
 | _::_,[],h=>by simp [allEq] at h
 | x::xs,y::ys,h=>by
  simp only [allEq,Bool.and_eq_true] at h
  rw [qTK h.1,qHA h.2]
mutual
theorem qvB:∀ (x:PV) (cs:List Value),qbL x=some cs→qG G w x cs
 | .b _,cs,h=>by simp [qbL] at h; simp [qG,← h]
 | .i _ _,cs,h=>by simp [qbL] at h; simp [qG,← h]
 | .s x,cs,h=>by
  cases x<;>simp [qbL] at h
  simp [qG,← h]
 | .ba _ _,cs,h=>by simp only [qbL,Option.some.injEq] at h; rw [qG,← h]; rfl
 | .wa _ _,cs,h=>by simp only [qbL,Option.some.injEq] at h; rw [qG,← h]; rfl
 | .ag xs,cs,h=>by simp only [qbL] at h; rw [qG]; exact qsb xs cs h
 | .l _ _,cs,h=>by simp [qbL] at h
 | .bl _,cs,h=>by simp [qbL] at h
theorem qsb:∀ (x:List PV) (cs:List Value),qpM x=some cs→zt G w x cs
 | [],cs,h=>by simp [qpM] at h; simp [zt,h]
 | x::xs,cs,h=>by
  simp only [qpM] at h
  split at h
  ·rename_i a b h1 h2
   simp only [Option.some.injEq] at h
   exact ⟨a,b,h.symm,qvB x a h1,qsb xs b h2⟩
  ·simp at h
end
mutual
theorem qyc:∀ (x:AV) (cs:List Value),Vz x=some cs→qm ob γ G w x cs
 | .pv x,cs,h=>by simp only [Vz] at h; rw [qm]; exact qvB x cs h
 | .ag xs,cs,h=>by simp only [Vz] at h; rw [qm]; exact qvh xs cs h
 | .nils,cs,h=>by simp [Vz] at h; simp [qm,← h]
 | .nilp,cs,h=>by simp [Vz] at h; simp [qm,← h]
 | .nilm,cs,h=>by simp [Vz] at h; simp [qm,← h]
 | .nilf,cs,h=>by simp [Vz] at h; simp [qm,← h]
 | .nili,cs,h=>by simp [Vz] at h; simp [qm,← h]
 | .v _ _,cs,h=>by simp [Vz] at h
 | .p _ _ _,cs,h=>by simp [Vz] at h
 | .pe _ _ _ _,cs,h=>by simp [Vz] at h
 | .ro _,cs,h=>by simp [Vz] at h
 | .m _,cs,h=>by simp [Vz] at h
 | .fn _ _ _,cs,h=>by simp [Vz] at h
 | .iface _ _,cs,h=>by simp [Vz] at h
 | .yl _,cs,h=>by simp [Vz] at h
 | .es _,cs,h=>by simp [Vz] at h
 | .tup _,cs,h=>by simp [Vz] at h
 | .undef,cs,h=>by simp [Vz] at h
theorem qvh:∀ (x:List AV) (cs:List Value),qtL x=some cs→zh ob γ G w x cs
 | [],cs,h=>by simp [qtL] at h; simp [zh,h]
 | x::xs,cs,h=>by
  simp only [qtL] at h
  split at h
  ·rename_i a b h1 h2
   simp only [Option.some.injEq] at h
   rw [zh]
   exact ⟨a,b,h.symm,qyc x a h1,qvh xs b h2⟩
  ·simp at h
end
theorem Wd {t : TypeId} {z : AV} (h : zeroOf P t = some z) :
    ∃ zv cs,(∀ w':World,(zeroValue t).run P w'=.ok zv w')∧qm ob γ G w z cs∧zp z.isAgg cs zv∧zv.cells=cs.toArray∧zj P t z=true:=by
 unfold zeroOf at h
 split at h
 ·split at h
  ·rename_i x hx hc
   simp only [Option.some.injEq] at h; subst h
   simp only [Bool.and_eq_true] at hc
   obtain ⟨h1,h2⟩:=hc
   unfold zOK at h1
   split at h1
   ·rename_i zv cs h3 h4
    simp only [Bool.and_eq_true,beq_iff_eq] at h1
    have h5:=qHA h1.1
    have hr:qm ob γ G w x cs:=qyc x cs h4
    have hof:zp x.isAgg cs zv:=by
     rw [← h1.2]
     cases zv<;>simp only [qQb,zp]<;>simp only [Value.cells] at h5<;>(first | (simp_all; done) | (subst h5; rfl) | (rw [← h5]))
    refine ⟨zv,cs,?_,hr,hof,KG hr hof,h2⟩
    intro w'
    cases hi:P.info? t with
    | none=>simp [hi] at h3
    | some i=>
     simp only [hi,Option.bind_some] at h3
     simp [zeroValue,typeInfo,hi,h3]
   ·simp at h1
  ·simp at h
 ·simp at h
theorem qSv {v:Value}:qM ob γ G w (ofConst v) v:=by
 unfold ofConst
 split
 ·simp [Kk]
 ·simp [jr]
 ·rw [qaK]
 ·simp [qip]
 ·simp [jT]
 ·simp [qnj]
 ·simp [qtG]
 ·simp [quK]
 ·simp [qM]
theorem qKm {op : BinOp} {k : IntKind} {a b : Int} {r : PV} {ps : List Prop} (hs : qvf op k a b = some (r, ps)) (hp : All ps) (hsh : qDs op = false) (t : TypeId) :
    ∃ v,(binOp op t (.int k a) (.int k b)).run P w=.ok v w∧qM ob γ G w (.pv r) v:=by
 unfold qvf at hs
 split at hs
 case h_4=>
  obtain ⟨rfl,hb⟩:=zG hs hp
  exact ⟨_,by simp [binOp,Op.intDiv,hb],jr.2 rfl⟩
 case h_5=>
  obtain ⟨rfl,hb⟩:=zG hs hp
  exact ⟨_,by simp [binOp,Op.intDiv,hb],jr.2 rfl⟩
 all_goals first
  | (simp at hs; done)
  | (rw [qq hs]; exact ⟨_,by simp only [binOp,ne_eq,not_true_eq_false,if_false]; rfl,jr.2 rfl⟩)
  | (rw [qq hs]; exact ⟨_,by simp only [binOp,ne_eq,not_true_eq_false,if_false,Op.intCmp,Sem.run_pure]; rfl,Kk.2 (by first | rfl | (congr 1; rw [Bool.eq_iff_iff]; simp))⟩)
theorem qCZ {op : BinOp} {k j : IntKind} {a b : Int} {r : PV} {ps : List Prop} (hs : qqW op k a b = some (r, ps)) (hp : All ps) (t : TypeId) :
    ∃ v,(binOp op t (.int k a) (.int j b)).run P w=.ok v w∧qM ob γ G w (.pv r) v:=by
 unfold qqW at hs
 split at hs
 ·obtain ⟨rfl,hb⟩:=zG hs hp
  exact ⟨_,by simp only [binOp,Op.shift]; rw [if_neg (by omega)]; rfl,jr.2 rfl⟩
 ·obtain ⟨rfl,hb⟩:=zG hs hp
  exact ⟨_,by simp only [binOp,Op.shift]; rw [if_neg (by omega)]; rfl,jr.2 rfl⟩
 ·simp at hs
theorem qMV (a b:List UInt8):(a == b)=decide (a=b):=qiX a b
theorem qHP {op : BinOp} {a b : List UInt8} {r : PV} {ps : List Prop} (hs : qAH op a b = some (r, ps)) (hp : All ps) (t : TypeId) :
    ∃ v,(binOp op t (.string ⟨a.toArray⟩) (.string ⟨b.toArray⟩)).run P w=.ok v w∧qM ob γ G w (.pv r) v:=by
 unfold qAH at hs
 have hl:∀ x:List UInt8,(ByteArray.mk x.toArray).toList=x:=fun x=>by rw [ByteArray.toList_eq]
 split at hs
 ·obtain ⟨rfl,hb⟩:=zG hs hp
  refine ⟨.string (⟨a.toArray⟩++⟨b.toArray⟩),?_,qaK.2 ?_⟩
  ·simp only [binOp,Op.stringOp]
   rw [if_neg]
   ·rfl
   ·simp only [ByteArray.size,List.size_toArray,IntKind.max,IntKind.signed,IntKind.bits]
    omega
  ·congr 1
 all_goals first
  | (simp at hs; done)
  | (rw [qq hs]; exact ⟨_,by simp only [binOp,Op.stringOp,hl,Sem.run_pure]; rfl,Kk.2 (by simp only [qMV])⟩)
theorem qGJ {op : BinOp} {t : TypeId} {ox oy : Operand} {x y : Value} (h1 : ∀ a b, x = .agg a → y = .agg b → P.eqGuardType P.depth t = false) (h2 : x = .nilIface → y = .nilIface → False) :
    (eqGuard op t ox oy x y).run P w=.ok () w:=by
 cases op
 case eql=>
  cases x
  case agg=>cases y<;>first | exact run_eqGuard_agg w _ t ox oy _ _ (h1 _ _ rfl rfl) | rfl
  case nilIface=>cases y<;>first | exact (h2 rfl rfl).elim | rfl
  all_goals rfl
 case neq=>
  cases x
  case agg=>cases y<;>first | exact run_eqGuard_agg w _ t ox oy _ _ (h1 _ _ rfl rfl) | rfl
  case nilIface=>cases y<;>first | exact (h2 rfl rfl).elim | rfl
  all_goals rfl
 all_goals rfl
theorem qh0 {t e:TypeId} (h:P.underlying t=some (.slice e)) (a:Option Addr) (l c:Nat):(Op.equal t (.slice a l c) (.slice none 0 0)).run P w=.ok a.isNone w:=by
 have:∀ d,(Op.equalIn (d + 1) t (.slice a l c) (.slice none 0 0)).run P w=.ok a.isNone w:=fun d=>by cases a<;>simp [Op.equalIn,run_underlying h]
 exact this 9999
theorem qwv {t e:TypeId} (h:P.underlying t=some (.pointer e)) (a:Option Addr):(Op.equal t (.pointer a) (.pointer none)).run P w=.ok a.isNone w:=by
 have:∀ d,(Op.equalIn (d + 1) t (.pointer a) (.pointer none)).run P w=.ok a.isNone w:=fun d=>by cases a<;>simp [Op.equalIn,run_underlying h]
 exact this 9999
theorem qUD {t:TypeId} {a b c} (h:P.underlying t=some (.func a b c)):(Op.equal t .nilFunc .nilFunc).run P w=.ok true w:=by
 have:∀ d,(Op.equalIn (d + 1) t .nilFunc .nilFunc).run P w=.ok true w:=fun d=>by simp [Op.equalIn,run_underlying h]
 exact this 9999
theorem qSc {t:TypeId} {a b c} (h:P.underlying t=some (.func a b c)) (f x y):(Op.equal t (.func f x y) .nilFunc).run P w=.ok false w:=by
 have:∀ d,(Op.equalIn (d + 1) t (.func f x y) .nilFunc).run P w=.ok false w:=fun d=>by simp [Op.equalIn,run_underlying h]
 exact this 9999
theorem qM0 {t k e:TypeId} (h:P.underlying t=some (.map k e)) (a:Option Nat):(Op.equal t (.map a) (.map none)).run P w=.ok a.isNone w:=by
 have:∀ d,(Op.equalIn (d + 1) t (.map a) (.map none)).run P w=.ok a.isNone w:=fun d=>by cases a<;>simp [Op.equalIn,run_underlying h]
 exact this 9999
theorem qQn {t:TypeId} {a} (h:P.underlying t=some (.interface a)) (u x):(Op.equal t (.iface u x) .nilIface).run P w=.ok false w:=by
 have:∀ d,(Op.equalIn (d + 1) t (.iface u x) .nilIface).run P w=.ok false w:=fun d=>by simp [Op.equalIn,run_underlying h]
 exact this 9999
theorem quw {t : TypeId} {x y : AV} {b : Bool} {ps : List Prop} (hs : eqA P t x y = some (b, ps)) (hp : All ps) {vx vy : Value} (hx : qM ob γ G w x vx) (hy : qM ob γ G w y vy) :
    (Op.equal t vx vy).run P w=.ok b w∧(∀ c d,vx=.agg c→vy=.agg d→P.eqGuardType P.depth t=false)∧(vx=.nilIface→vy=.nilIface→False)∧
     (∀ k a j c,vx=.int k a→vy=.int j c→k=j∧b=(a == c))∧(∀ a c,vx=.string a→vy=.string c→b=(a.toList == c.toList)):=by
 unfold eqA at hs
 split at hs
 case h_1 sz xs hk=>
  obtain ⟨rfl,hne⟩:=zG hs hp
  rw [jT] at hy; subst hy
  obtain ⟨cs,hr,ho⟩:=QH.1 hx
  simp only [qG] at hr
  obtain ⟨a,cap,rfl,_,_,hh⟩:=hr
  cases (qU ho)
  rcases hh with hh | ⟨bb,off,vs,rfl,_⟩
  ·exact absurd hh hne
  ·exact ⟨qh0 (zC hk) _ _ _,by simp,by simp,by simp,by simp⟩
 case h_2 xs hk=>
  obtain ⟨rfl,hne⟩:=zG hs hp
  rw [jT] at hy; subst hy
  obtain ⟨cs,hr,ho⟩:=QH.1 hx
  simp only [qG] at hr
  obtain ⟨a,cap,rfl,_,hh⟩:=hr
  cases (qU ho)
  rcases hh with hh | ⟨bb,off,rfl,_⟩
  ·exact absurd hh hne
  ·exact ⟨qh0 (zC hk) _ _ _,by simp,by simp,by simp,by simp⟩
 case h_3 l n hk=>
  obtain ⟨rfl,hne⟩:=zG hs hp
  rw [jT] at hy; subst hy
  simp only [qM,qm,AV.isAgg] at hx
  obtain ⟨cs,⟨a,cap,rfl,hc,hh⟩,ho⟩:=hx
  cases (qU ho)
  have:∃ b,a=some ⟨b,0,none⟩:=by
   rcases hh with ⟨fz,sz,x,_,_,h1,_⟩ | ⟨xs,b,h1,_⟩
   ·obtain ⟨b,h1,_⟩:=h1 (Nat.ne_of_gt (Nat.lt_of_lt_of_le (Nat.pos_of_ne_zero hne) hc)); exact ⟨b,h1⟩
   ·exact ⟨b,h1⟩
  obtain ⟨b,rfl⟩:=this
  exact ⟨qh0 (zC hk) _ _ _,by simp,by simp,by simp,by simp⟩
 case h_4 hk=>
  rw [qq hs]
  rw [jT] at hx hy; subst hx; subst hy
  exact ⟨qh0 (zC hk) _ _ _,by simp,by simp,by simp,by simp⟩
 case h_5 hk=>
  rw [qq hs]
  rw [qip] at hx hy; subst hx; subst hy
  exact ⟨qwv (qk1 hk) _,by simp,by simp,by simp,by simp⟩
 case h_6 hk=>
  rw [qq hs]
  rw [qip] at hy; subst hy
  simp only [qM,qm,AV.isAgg] at hx
  obtain ⟨cs,⟨rfl,_⟩,ho⟩:=hx
  cases (qU ho)
  exact ⟨qwv (qk1 hk) _,by simp,by simp,by simp,by simp⟩
 case h_7 hk=>
  rw [qq hs]
  rw [qip] at hy; subst hy
  simp only [qM,qm,AV.isAgg] at hx
  obtain ⟨cs,⟨bb,rfl,_⟩,ho⟩:=hx
  cases (qU ho)
  exact ⟨qwv (qk1 hk) _,by simp,by simp,by simp,by simp⟩
 case h_8 hk=>
  rw [qq hs]
  rw [qip] at hy; subst hy
  simp only [qM,qm,AV.isAgg] at hx
  obtain ⟨cs,⟨bb,off,vs,rfl,_⟩,ho⟩:=hx
  cases (qU ho)
  exact ⟨qwv (qk1 hk) _,by simp,by simp,by simp,by simp⟩
 case h_9 hk=>
  rw [qq hs]
  rw [qtG] at hx hy; subst hx; subst hy
  obtain ⟨a1,a2,a3,hu⟩:=quL hk
  exact ⟨qUD hu,by simp,by simp,by simp,by simp⟩
 case h_10 hk=>
  rw [qq hs]
  rw [qtG] at hy; subst hy
  simp only [qM,qm,AV.isAgg] at hx
  obtain ⟨cs,⟨va,vc,rfl,_⟩,ho⟩:=hx
  cases (qU ho)
  obtain ⟨a1,a2,a3,hu⟩:=quL hk
  exact ⟨qSc hu _ _ _,by simp,by simp,by simp,by simp⟩
 case h_11 hk=>
  rw [qq hs]
  rw [qnj] at hx hy; subst hx; subst hy
  exact ⟨qM0 (V9 hk) _,by simp,by simp,by simp,by simp⟩
 case h_12 hk=>
  rw [qq hs]
  rw [qnj] at hy; subst hy
  simp only [qM,qm,AV.isAgg] at hx
  obtain ⟨cs,⟨rfl,_⟩,ho⟩:=hx
  cases (qU ho)
  exact ⟨qM0 (V9 hk) _,by simp,by simp,by simp,by simp⟩
 case h_13 hk=>
  rw [qq hs]
  rw [quK] at hy; subst hy
  simp only [qM,qm,AV.isAgg] at hx
  obtain ⟨cs,⟨c,v,rfl,_⟩,ho⟩:=hx
  cases (qU ho)
  obtain ⟨a1,hu⟩:=qBn hk
  exact ⟨qQn hu _ _,by simp,by simp,by simp,by simp⟩
 case h_14 k hk=>
  rw [qq hs]
  rw [jT] at hy; subst hy
  simp only [qM,qm,AV.isAgg] at hx
  obtain ⟨cs,⟨a,cap,rfl,hn⟩,ho⟩:=hx
  cases (qU ho)
  rw [← hn]
  exact ⟨qh0 (zC hk) _ _ _,by simp,by simp,by simp,by simp⟩
 case h_15=>
  rename_i x y
  obtain ⟨hc,hs⟩:=qO hs
  simp only [Bool.and_eq_true,Bool.not_eq_true'] at hc
  obtain ⟨⟨⟨h1,h2⟩,h3⟩,h4⟩:=hc
  split at hs
  ·rename_i b' he
   rw [qq hs]
   obtain ⟨cs,hr,ho⟩:=QH.1 hx
   obtain ⟨ds,hr',ho'⟩:=QH.1 hy
   simp only [zj,Bool.and_eq_true] at h1 h2
   have key:=(qP8 (P:=P) 30).1 G w w t x y b' cs ds vx vy 30 30 10000 h3 h1.2 h2.2 he hr hr' ho ho' (by omega)
   refine ⟨key,fun _ _ _ _=>h4,?_,?_,?_⟩
   ·rintro rfl _
    cases x<;>simp only [qG] at hr<;>simp only [AV.isAgg,zp] at ho<;>simp_all
   ·rintro k a j c rfl rfl
    have hx':x=.i k a:=by cases x<;>simp only [qG] at hr<;>simp only [AV.isAgg,zp] at ho<;>simp_all
    have hy':y=.i j c:=by cases y<;>simp only [qG] at hr'<;>simp only [AV.isAgg,zp] at ho'<;>simp_all
    subst hx'; subst hy'
    simp only [PV.eqb] at he
    by_cases hkj:k=j
    ·subst hkj
     simp only [decide_true,Option.some.injEq] at he
     exact ⟨rfl,by rw [← he,Bool.eq_iff_iff]; simp⟩
    ·simp [hkj] at he
   ·rintro a c rfl rfl
    have hx':∃ s,x=.s s∧a=⟨s.toArray⟩:=by cases x<;>simp only [qG] at hr<;>simp only [AV.isAgg,zp] at ho<;>simp_all
    have hy':∃ s,y=.s s∧c=⟨s.toArray⟩:=by cases y<;>simp only [qG] at hr'<;>simp only [AV.isAgg,zp] at ho'<;>simp_all
    obtain ⟨s1,rfl,rfl⟩:=hx'
    obtain ⟨s2,rfl,rfl⟩:=hy'
    simp only [PV.eqb,Option.some.injEq] at he
    rw [ByteArray.toList_eq,ByteArray.toList_eq,qMV,← he]
  ·simp at hs
 case h_16=>simp at hs
end g
end Go.Rx
end
noncomputable section
namespace Go.Rx
section g
variable {P:Program} {ob:Ob} {γ:Hm} {G:Gh} {w:World}
def Xj:Value→Bool
 | .int .. | .float .. | .complex .. | .string ..=>true
 | _=>false
theorem qWP {t:TypeId} {vx vy:Value} (h:Xj vx=false):(binOp .eql t vx vy).run P w=((Op.equal t vx vy).run P w).andThen fun b w'=>.ok (.bool b) w':=by
 cases vx<;>first | (simp [Xj] at h; done) | (cases vy<;>(simp only [binOp,Sem.run_bind]; rfl))
theorem qWS {t:TypeId} {vx vy:Value} (h:Xj vx=false):(binOp .neq t vx vy).run P w=((Op.equal t vx vy).run P w).andThen fun b w'=>.ok (.bool (!b)) w':=by
 cases vx<;>first | (simp [Xj] at h; done) | (cases vy<;>(simp only [binOp,Sem.run_bind]; rfl))
theorem qUV {x:PV} {cs:List Value} {v:Value} (h:qG G w x cs) (ho:zp (AV.isAgg (.pv x)) cs v) (hv:Xj v=true):(∃ k n,v=.int k n)∨∃ s,v=.string s:=by
 cases x<;>simp only [qG] at h<;>simp only [AV.isAgg,zp] at ho
 case l=>obtain ⟨a,cap,h,_⟩:=h; rw [h] at ho; cases ho; simp [Xj] at hv
 case bl=>obtain ⟨a,cap,h,_⟩:=h; rw [h] at ho; cases ho; simp [Xj] at hv
 all_goals (subst ho; first | (simp [Xj] at hv; done) | (cases h; first | (simp [Xj] at hv; done) | exact .inl ⟨_,_,rfl⟩ | exact .inr ⟨_,rfl⟩))
theorem qQ5 {t : TypeId} {f g : Nat} {x y : PV} {cs ds : List Value} {v u : Value} (h : qG G w x cs) (ho : zp (AV.isAgg (.pv x)) cs v) (h' : qG G w y ds) (ho' : zp (AV.isAgg (.pv y)) ds u)
    (hx:fit P f t (.pv x)=true) (hy:fit P g t (.pv y)=true) (hv:Xj v=true):(∃ k a c,v=.int k a∧u=.int k c)∨∃ a c,v=.string a∧u=.string c:=by
 cases f with
 | zero=>simp [fit] at hx
 | succ f=>
 cases g with
 | zero=>simp [fit] at hy
 | succ g=>
 unfold fit at hx hy
 rcases qUV h ho hv with ⟨k,n,rfl⟩ | ⟨s,rfl⟩
 ·have:x=.i k n:=by cases x<;>simp only [qG] at h<;>simp only [AV.isAgg,zp] at ho<;>simp_all
  subst this
  cases hk:qy P t with
  | none=>simp [hk] at hx
  | some kk=>
   rw [hk] at hx hy
   cases kk<;>simp only [Bool.false_eq_true,beq_iff_eq] at hx
   cases y<;>simp only [Bool.false_eq_true,beq_iff_eq] at hy
   simp only [qG] at h'
   subst h'; cases (qU ho')
   exact .inl ⟨k,n,_,rfl,by rw [← hx,hy]⟩
 ·have:∃ z,x=.s z:=by cases x<;>simp only [qG] at h<;>simp only [AV.isAgg,zp] at ho<;>simp_all
  obtain ⟨z,rfl⟩:=this
  cases hk:qy P t with
  | none=>simp [hk] at hx
  | some kk=>
   rw [hk] at hx hy
   cases kk<;>simp only [Bool.false_eq_true] at hx
   cases y<;>simp only [Bool.false_eq_true] at hy
   simp only [qG] at h'
   subst h'; cases (qU ho')
   exact .inr ⟨s,_,rfl,rfl⟩
theorem qMW {t : TypeId} {x y : AV} {b : Bool} {ps : List Prop} (hs : eqA P t x y = some (b, ps)) (hp : All ps) {vx vy : Value} (hx : qM ob γ G w x vx) (hy : qM ob γ G w y vy) :
    (binOp .eql t vx vy).run P w=.ok (.bool b) w∧(binOp .neq t vx vy).run P w=.ok (.bool (!b)) w:=by
 obtain ⟨h1,h2,h3,h4,h5⟩:=quw hs hp hx hy
 cases hv:Xj vx with
 | false=>exact ⟨by rw [qWP hv,h1]; rfl,by rw [qWS hv,h1]; rfl⟩
 | true=>
  have key:(∃ k a c,vx=.int k a∧vy=.int k c)∨∃ a c,vx=.string a∧vy=.string c:=by
   unfold eqA at hs
   split at hs
   case h_15=>
    rename_i x y
    obtain ⟨hc,hs⟩:=qO hs
    simp only [Bool.and_eq_true,Bool.not_eq_true',zj] at hc
    obtain ⟨cs,hr,ho⟩:=QH.1 hx
    obtain ⟨ds,hr',ho'⟩:=QH.1 hy
    exact qQ5 hr ho hr' ho' hc.1.1.1.2 hc.1.1.2.2 hv
   case h_16=>simp at hs
   all_goals (exfalso; simp only [qM,qm,qG,AV.isAgg] at hx)
   case h_1=>obtain ⟨cs,⟨a,cap,rfl,_⟩,ho⟩:=hx; cases (qU ho); simp [Xj] at hv
   case h_2=>obtain ⟨cs,⟨a,cap,rfl,_⟩,ho⟩:=hx; cases (qU ho); simp [Xj] at hv
   case h_3=>obtain ⟨cs,⟨a,cap,rfl,_⟩,ho⟩:=hx; cases (qU ho); simp [Xj] at hv
   case h_4=>obtain ⟨cs,rfl,ho⟩:=hx; cases (qU ho); simp [Xj] at hv
   case h_5=>obtain ⟨cs,rfl,ho⟩:=hx; cases (qU ho); simp [Xj] at hv
   case h_6=>obtain ⟨cs,⟨rfl,_⟩,ho⟩:=hx; cases (qU ho); simp [Xj] at hv
   case h_7=>obtain ⟨cs,⟨a,rfl,_⟩,ho⟩:=hx; cases (qU ho); simp [Xj] at hv
   case h_8=>obtain ⟨cs,⟨a,b,c,rfl,_⟩,ho⟩:=hx; cases (qU ho); simp [Xj] at hv
   case h_9=>obtain ⟨cs,rfl,ho⟩:=hx; cases (qU ho); simp [Xj] at hv
   case h_10=>obtain ⟨cs,⟨a,b,rfl,_⟩,ho⟩:=hx; cases (qU ho); simp [Xj] at hv
   case h_11=>obtain ⟨cs,rfl,ho⟩:=hx; cases (qU ho); simp [Xj] at hv
   case h_12=>obtain ⟨cs,⟨rfl,_⟩,ho⟩:=hx; cases (qU ho); simp [Xj] at hv
   case h_13=>obtain ⟨cs,⟨a,b,rfl,_⟩,ho⟩:=hx; cases (qU ho); simp [Xj] at hv
   case h_14=>obtain ⟨cs,⟨a,cap,rfl,_⟩,ho⟩:=hx; cases (qU ho); simp [Xj] at hv
  rcases key with ⟨k,a,c,rfl,rfl⟩ | ⟨a,c,rfl,rfl⟩
  ·obtain ⟨_,hb⟩:=h4 _ _ _ _ rfl rfl
   subst hb
   exact ⟨by simp only [binOp,ne_eq,not_true_eq_false,if_false]; rfl,by simp only [binOp,ne_eq,not_true_eq_false,if_false]; rfl⟩
  ·have hb:=h5 _ _ rfl rfl
   subst hb
   exact ⟨by simp only [binOp,Op.stringOp]; rfl,by simp only [binOp,Op.stringOp]; rfl⟩
theorem qBD {op : BinOp} {t : TypeId} {x y r : AV} {ps : List Prop} (hs : qyW P op t x y = some (r, ps)) (hp : All ps) {vx vy : Value} (hx : qM ob γ G w x vx) (hy : qM ob γ G w y vy) (ox oy : Operand) :
    ∃ v,(do eqGuard op t ox oy vx vy; binOp op t vx vy:Sem Value).run P w=.ok v w∧qM ob γ G w r v:=by
 have guard0 : ∀ {a b : Value}, (∀ c d, a = .agg c → b = .agg d → P.eqGuardType P.depth t = false) → (a = .nilIface → b = .nilIface → False) →
     (do eqGuard op t ox oy a b; binOp op t a b:Sem Value).run P w=(binOp op t a b).run P w:=fun h1 h2=>by
  rw [Sem.run_bind,qGJ h1 h2]; rfl
 unfold qyW at hs
 split at hs
 ·rename_i k a j b
  rw [jr] at hx hy; subst hx; subst hy
  rw [guard0 (by simp) (by simp)]
  split at hs
  ·obtain ⟨z,hz,rfl⟩:=qhk hs
   exact qCZ hz hp t
  ·rename_i hsh
   obtain ⟨hk,hs'⟩:=qO hs
   simp only [decide_eq_true_eq] at hk; subst hk
   obtain ⟨z,hz,rfl⟩:=qhk hs'
   exact qKm hz hp hsh t
 ·rename_i a b
  rw [qaK] at hx hy; subst hx; subst hy
  rw [guard0 (by simp) (by simp)]
  obtain ⟨z,hz,rfl⟩:=qhk hs
  exact qHP hz hp t
 ·rename_i x y _ _
  split at hs
  ·split at hs
   ·rename_i b ps' he
    simp only [Option.some.injEq,Prod.mk.injEq] at hs
    obtain ⟨rfl,rfl⟩:=hs
    obtain ⟨h1,h2,h3,h4,h5⟩:=quw he hp hx hy
    rw [guard0 h2 h3]
    exact ⟨_,(qMW he hp hx hy).1,Kk.2 rfl⟩
   ·simp at hs
  ·split at hs
   ·rename_i b ps' he
    simp only [Option.some.injEq,Prod.mk.injEq] at hs
    obtain ⟨rfl,rfl⟩:=hs
    obtain ⟨h1,h2,h3,h4,h5⟩:=quw he hp hx hy
    rw [guard0 h2 h3]
    exact ⟨_,(qMW he hp hx hy).2,Kk.2 rfl⟩
   ·simp at hs
  ·simp at hs
theorem qSY {op : UnOp} {x r : AV} {ps : List Prop} (hs : unA op x = some (r, ps)) (hp : All ps) {vx : Value} (hx : qM ob γ G w x vx) :
    ∃ v,(Op.unary op vx).run P w=.ok v w∧qM ob γ G w r v:=by
 unfold unA at hs
 split at hs
 ·rw [qq hs]; rw [Kk] at hx; subst hx
  exact ⟨_,rfl,Kk.2 rfl⟩
 ·rw [qq hs]; rw [jr] at hx; subst hx
  exact ⟨_,rfl,jr.2 rfl⟩
 ·rw [jr] at hx; subst hx
  obtain ⟨z,hz,rfl⟩:=qhk hs
  rw [qq hz]
  exact ⟨_,rfl,jr.2 rfl⟩
 ·simp at hs
end g
end Go.Rx
end
noncomputable section
namespace Go.Rx
section g
variable {P:Program} {ob:Ob} {γ:Hm} {G:Gh} {w:World}
theorem Wl (b off j:Nat):(⟨b,off,none⟩:Addr).add j=⟨b,off + j,none⟩:=by
 unfold Addr.add; split
 ·rename_i h; subst h; rfl
 ·rfl
theorem qcn (w:World) (o:Obj) (b:Nat) (hb:b < w.heap.size):(w.heap.push o)[b]?=w.heap[b]?:=by
 rw [Array.getElem?_push_lt hb,Array.getElem?_eq_getElem hb]
theorem qy2 (H : qL ob γ G w) {w' : World} {cs sp : List Value} {el : TypeId} {fr : Nat × Nat} (hw : w'.heap = w.heap.push (.cells (cs ++ sp).toArray el fr)) (hio : WV w w' := by exact ⟨rfl, rfl⟩) :
    ∃ G',qL ob γ G' w'∧Trans ob γ G w ob γ G' w'∧Qq w' w.heap.size 0 cs∧inG G' w.heap.size 0 cs.length:=by
 refine ⟨fun b o=>G b o∨(b=w.heap.size∧o < cs.length),?_⟩
 have h:=qo7 H (fun b o=>G b o∨(b=w.heap.size∧o < cs.length)) w' (by rw [hw]; simp) (fun b hb=>by rw [hw]; exact qcn w _ b hb) (fun _ _ h=>.inl h)
  (fun b o h1 h2=>by
   rcases h1 with h1 | ⟨rfl,_⟩
   ·exact absurd h1 h2
   ·exact ⟨Nat.le_refl _,by rw [hw]; simp⟩) hio
 refine ⟨h.1,h.2,fun j hj=>?_,fun j hj=>.inr ⟨rfl,by simpa using hj⟩⟩
 simp only [World.cell?,hw,Array.getElem?_push_size,Nat.zero_add,Option.isSome_none,Bool.false_eq_true,if_false,List.getElem?_toArray]
 rw [List.getElem?_append_left hj]
def Kb (P:Program) (ob:Ob) (γ:Hm) (G:Gh) (w:World) (s:Sem Value) (r:AV):Prop:=
 ∃ v G' w',s.run P w=.ok v w'∧qL ob γ G' w'∧Trans ob γ G w ob γ G' w'∧qM ob γ G' w' r v
theorem Kb.same (H:qL ob γ G w) {s:Sem Value} {r:AV} {v:Value} (h:s.run P w=.ok v w) (hr:qM ob γ G w r v):Kb P ob γ G w s r:=
 ⟨v,G,w,h,H,Trans.refl H,hr⟩
theorem qLH {α:Type} (a:Array α) (x:α) (f:α→α):(a.push x).modify a.size f=a.push (f x):=by
 apply Array.ext
 ·simp
 ·intro i h1 h2
  simp only [Array.size_modify,Array.size_push] at h1
  by_cases hi:i=a.size
  ·subst hi; rw [Array.getElem_modify_self]; simp
  ·rw [Array.getElem_modify_of_ne (fun h=>hi h.symm),Array.getElem_push_lt (by omega),Array.getElem_push_lt (by omega)]
theorem qkr {e:TypeId} (h:Jm P e=true):P.underlying e=some (.int .u8):=by
 unfold Jm at h
 split at h
 ·rename_i hk; exact qhh hk
 ·simp at h
theorem qDR (qR old:Nat) (e:TypeId) (t:Nat):∃ sp,(Question.appendCap qR old e).cut t=qR + sp:=⟨_,rfl⟩
theorem qKN (H : qL ob γ G w) {src dst : TypeId} {x r : AV} {ps : List Prop} (hs : qjW P src dst x = some (r, ps)) (hp : All ps) {vx : Value} (hx : qM ob γ G w x vx) :
    Kb P ob γ G w (convert src dst vx) r:=by
 unfold qjW at hs
 split at hs
 ·rename_i k1 k k2 n h1 h2
  rw [qq hs]; rw [jr] at hx; subst hx
  exact .same H (by simp [convert,run_underlying (qhh h1),run_underlying (qhh h2),Conv.intToInt]) (jr.2 rfl)
 ·rename_i x h1 h2
  rw [qq hs]; rw [qaK] at hx; subst hx
  exact .same H (by simp [convert,run_underlying (Xa h1),run_underlying (Xa h2)]) (qaK.2 rfl)
 ·rename_i e x h1 h2
  obtain ⟨hu,hs⟩:=qO hs
  obtain ⟨rfl,hl⟩:=zG hs hp
  rw [qaK] at hx; subst hx
  have hu':=qkr hu
  obtain ⟨sp,hsp⟩:=qDR x.length 0 e (w.tape w.drawn (.appendCap x.length 0 e))
  have hsz:(ByteArray.mk x.toArray).size=x.length:=rfl
  have hcells:(Array.map (fun b=>Value.int .u8 b.toNat) (ByteArray.mk x.toArray).data++Array.replicate sp (Value.int .u8 0):Array Value)=(x.map cu8++List.replicate sp (Value.int .u8 0)).toArray:=by
   apply Array.ext'; simp [cu8]
  have key : ∃ w' fr, (convert src dst (.string ⟨x.toArray⟩)).run P w = .ok (.slice (some ⟨w.heap.size, 0, none⟩) x.length (x.length + sp)) w' ∧
      w'.heap=w.heap.push (.cells (x.map cu8++List.replicate sp (Value.int .u8 0)).toArray e fr)∧WV w w':=by
   refine ⟨World.freeze { w with heap:=w.heap.push (.cells (x.map cu8++List.replicate sp (Value.int .u8 0)).toArray e),drawn:=w.drawn + 1 } ⟨w.heap.size,(x.map cu8++List.replicate sp (Value.int .u8 0)).toArray.size,none⟩ 1,((x.map cu8++List.replicate sp (Value.int .u8 0)).toArray.size,(x.map cu8++List.replicate sp (Value.int .u8 0)).toArray.size + 1),?_,?_⟩
   rotate_left
   ·simp only [World.freeze,Nat.one_ne_zero,if_false,qLH]
    exact ⟨rfl,rfl,rfl⟩
   ·simp only [convert,Sem.run_bind,run_underlying (Xa h1),run_underlying (zC h2),Result.andThen_ok,run_underlying hu',Conv.stringToBytes,run_choose,Question.forced,Bool.false_eq_true,if_false,hsz,hsp,newRow,run_newObj,Sem.run_pure,Nat.add_sub_cancel_left,markStringish,run_shape,World.shape?,Array.getElem?_push_size,run_freeze,hcells]
  obtain ⟨w',fr,h3,h4,hio⟩:=key
  obtain ⟨G',h5,h6,h7,h8⟩:=qy2 H h4 hio
  refine ⟨_,G',w',h3,h5,h6,zy rfl ?_⟩
  simp only [qm,qG]
  exact ⟨_,_,rfl,by omega,.inr ⟨w.heap.size,0,rfl,h7,by simpa using h8⟩⟩
 ·rename_i e x h1 h2
  obtain ⟨hu,hs⟩:=qO hs
  rw [qq hs]
  have hu':=qkr hu
  obtain ⟨cs,hr,ho⟩:=QH.1 hx
  simp only [qG] at hr
  obtain ⟨a,cap,rfl,_,hh⟩:=hr
  cases (qU ho)
  have fold:∀ (l:List UInt8) (acc:ByteArray),(l.map fun c=>((c.toNat:Nat):Int)).foldl (fun r n=>r.push (UInt8.ofNat n.toNat)) acc=⟨acc.data++l.toArray⟩:=by
   intro l
   induction l with
   | nil=>intro acc; obtain ⟨d⟩:=acc; simp
   | cons c l ih=>
    intro acc
    simp only [List.map_cons,List.foldl_cons,ih]
    obtain ⟨d⟩:=acc
    simp [ByteArray.push]
  refine .same H (v:=.string ⟨x.toArray⟩) ?_ (qaK.2 rfl)
  simp only [convert,Sem.run_bind,run_underlying (zC h1),run_underlying (Xa h2),Result.andThen_ok,run_underlying hu']
  rcases hh with rfl | ⟨b,off,rfl,h3,h4⟩
  ·cases a with
   | none=>rfl
   | some a=>
    rw [run_bytesToString w a _ _ [] (by simp [loadCells,loadCellsFrom])]
    rfl
  ·rw [run_bytesToString w ⟨b,off,none⟩ x.length cap (x.map fun c=>((c.toNat:Nat):Int)) ?_,fold]
   ·simp
   ·have := run_loadCells_list (P := P) (w := w) ⟨b, off, none⟩ (x.map cu8) (fun j v hv => by
       rw [Wl,h3 j (List.getElem?_eq_some_iff.1 hv).1]; exact hv)
    have e:(x.map fun c=>((c.toNat:Nat):Int)).map (Value.int .u8)=x.map cu8:=by rw [List.map_map]; rfl
    rw [e,← this]; simp
 ·rename_i e h1 h2
  obtain ⟨hu,hs⟩:=qO hs
  rw [qq hs]
  have hu':=qkr hu
  rw [jT] at hx; subst hx
  exact .same H (by simp [convert,run_underlying (zC h1),run_underlying (Xa h2),run_underlying hu',Conv.bytesToString]; rfl) (qaK.2 rfl)
 ·simp at hs
end g
end Go.Rx
end
noncomputable section
namespace Go.Rx
section g
variable {P:Program} {ob:Ob} {γ:Hm} {G:Gh} {w:World}
theorem qqe {x:AV} {n:Int} (h:asInt x=some n):∃ k,x=.pv (.i k n):=by
 unfold asInt at h
 split at h
 ·simp only [Option.some.injEq] at h; subst h; exact ⟨_,rfl⟩
 ·simp at h
theorem qaj {an:Option Ans} {i:Int} {n k:Nat} {ps:List Prop} (h:idx an i n=some (k,ps)) (hp:All ps):i=k∧k < n:=by
 unfold idx at h
 split at h
 ·obtain ⟨rfl,h⟩:=zG h hp; exact h
 ·obtain ⟨rfl,h⟩:=zG h hp
  exact ⟨by omega,by omega⟩
theorem qd0 {an:Option Ans} {x y:PV} {i:Int} {ps:List Prop} (h:elemAt an x i=some (y,ps)) (hp:All ps):0≤i∧x.zl i.toNat=some y:=by
 unfold elemAt at h
 split at h
 ·obtain ⟨rfl,h⟩:=zG h hp; exact h
 ·split at h
  ·rename_i z hz
   obtain ⟨rfl,h'⟩:=zG h hp
   exact ⟨h',hz⟩
  ·simp at h
theorem qxO {an : Option Ans} {lo hi : Option AV} {n a b : Nat} {ps : List Prop} (h : bounds an lo hi n = some ((a, b), ps)) (hp : All ps) :
    a≤b∧b≤n∧(∀ x,lo=some x→∃ k,x=.pv (.i k a))∧(lo=none→a=0)∧(∀ x,hi=some x→∃ k,x=.pv (.i k b))∧(hi=none→b=n):=by
 unfold bounds at h
 split at h
 ·rename_i l hh e1 e2
  have h1:(l:Int)=a∧(hh:Int)=b∧a≤b∧b≤n:=by
   split at h
   ·obtain ⟨he,h⟩:=zG h hp
    simp only [Prod.mk.injEq] at he
    obtain ⟨rfl,rfl⟩:=he
    exact h
   ·obtain ⟨he,h⟩:=zG h hp
    simp only [Prod.mk.injEq] at he
    obtain ⟨rfl,rfl⟩:=he
    omega
  obtain ⟨rfl,rfl,h2,h3⟩:=h1
  refine ⟨h2,h3,?_,?_,?_,?_⟩
  ·rintro x rfl; exact qqe e1
  ·rintro rfl; simp at e1; omega
  ·rintro x rfl; exact qqe e2
  ·rintro rfl; simp at e2; omega
 ·simp at h
theorem qyy {x y:PV} {k:Nat} (h:x.zl k=some y):k < x.len:=by
 cases x<;>simp only [PV.zl] at h<;>try (simp at h; done)
 ·exact (List.getElem?_eq_some_iff.1 h).1
 ·rename_i bs
  cases hb:bs[k]? with
  | none=>simp [hb] at h
  | some c=>exact (List.getElem?_eq_some_iff.1 hb).1
theorem qYl {x y : PV} {cs : List Value} {k : Nat} (h : qG G w x cs) (hy : x.zl k = some y) :
    ∃ b off cap ds,cs=[.slice (some ⟨b,off,none⟩) x.len cap]∧qG G w y ds∧Qq w b (off + k * y.size) ds∧inG G b (off + k * y.size) ds.length:=by
 cases x<;>simp only [PV.zl] at hy<;>try (simp at hy; done)
 ·rename_i sz xs
  simp only [qG] at h
  obtain ⟨a,cap,rfl,_,hsz,hh⟩:=h
  rcases hh with rfl | ⟨b,off,vs,rfl,h1,h2,h3⟩
  ·simp at hy
  ·obtain ⟨c,d,e,rfl,h4,h5,_⟩:=zt.at h1 hy
   have hmem:=List.mem_of_getElem? hy
   have hys:=hsz _ hmem
   have hc:c.length=k * y.size:=by
    rw [h5,PV.WO sz _ (fun z hz=>hsz z (List.mem_of_mem_take hz)),hys,List.length_take,Nat.min_eq_left (Nat.le_of_lt (List.getElem?_eq_some_iff.1 hy).1)]
   refine ⟨b,off,cap,d,rfl,h4,fun j hj=>?_,fun j hj=>?_⟩
   ·have:=h2 (c.length + j) (by simp; omega)
    rw [← hc,Nat.add_assoc,this,List.append_assoc,List.getElem?_append_right (by omega),Nat.add_sub_cancel_left,List.getElem?_append_left hj]
   ·have:=h3 (c.length + j) (by simp; omega)
    rw [← hc,Nat.add_assoc]; exact this
 ·rename_i bs
  simp only [qG] at h
  obtain ⟨a,cap,rfl,_,hh⟩:=h
  cases hb:bs[k]? with
  | none=>simp [hb] at hy
  | some c=>
   simp only [hb,Option.map_some,Option.some.injEq] at hy
   subst hy
   rcases hh with rfl | ⟨b,off,rfl,h2,h3⟩
   ·simp at hb
   ·have hk:=(List.getElem?_eq_some_iff.1 hb).1
    refine ⟨b,off,cap,[cu8 c],rfl,by simp [qG,u8,cu8],fun j hj=>?_,fun j hj=>?_⟩
    ·simp at hj; subst hj
     have:=h2 k (by simpa using hk)
     simp only [u8,PV.size,Nat.mul_one,Nat.add_zero]
     rw [this]; simp [hb]
    ·simp at hj; subst hj
     have:=h3 k hk
     simpa [u8,PV.size] using this
theorem WD {x:AV} {n:Int} {v:Value} (h:asInt x=some n) (hv:qM ob γ G w x v):∃ k,v=.int k n:=by
 obtain ⟨k,rfl⟩:=qqe h
 exact ⟨k,jr.1 hv⟩
theorem Vq {k:IntKind} {n:Int}:(asIntOf (.int k n)).run P w=.ok (k,n) w:=rfl
theorem qbD {b off:Nat} {c d e:List Value} (h:Qq w b off (c++d++e)):Qq w b (off + c.length) d:=fun j hj=>by
 have:=h (c.length + j) (by simp; omega)
 rw [Nat.add_assoc,this,List.append_assoc,List.getElem?_append_right (by omega),Nat.add_sub_cancel_left,List.getElem?_append_left hj]
theorem qwp {b off n:Nat} (h:inG G b off n) {o m:Nat} (hm:o + m≤n):inG G b (off + o) m:=fun j hj=>by
 have:=h (o + j) (by omega)
 rwa [Nat.add_assoc]
theorem qz2 {α:Type} (xs:List α) {a b:Nat} (h:a≤b):xs=xs.take a++(xs.take b).drop a++xs.drop b:=by
 conv=>lhs; rw [← List.take_append_drop b xs,← List.take_append_drop a (xs.take b),List.take_take,Nat.min_eq_left h]
def qp6:PV→Nat
 | .l s _=>s
 | _=>1
theorem qJo {x : PV} {a b cap m : Nat} {ad : Option Addr} (hs : x.JY = true) (hx : qG G w x [.slice ad x.len cap]) (h1 : a ≤ b) (h2 : b ≤ x.len) (hm : b ≤ m) :
    qG G w (x.sub a b) [.slice (if m=a then ad else ad.map (·.add (a * qp6 x))) (b - a) (m - a)]:=by
 cases x<;>simp only [PV.JY,Bool.false_eq_true] at hs
 ·rename_i sz xs
  simp only [PV.len] at hx h2
  simp only [qG] at hx
  obtain ⟨ad',cap',e,h3,h4,h5⟩:=hx
  simp only [List.cons.injEq,Value.slice.injEq,and_true,true_and] at e
  obtain ⟨rfl,rfl⟩:=e
  have hlen:((xs.take b).drop a).length=b - a:=by simp; omega
  simp only [PV.sub,qG,hlen]
  refine ⟨_,_,rfl,by omega,fun z hz=>h4 z (List.mem_of_mem_take (List.mem_of_mem_drop hz)),?_⟩
  by_cases hab:a=b
  ·exact .inl (List.length_eq_zero_iff.1 (by omega))
  ·right
   rcases h5 with rfl | ⟨bb,off,vs,rfl,h6,h7,h8⟩
   ·simp at h2; omega
   ·rw [qz2 xs h1] at h6
    obtain ⟨c,d,rfl,h9,h10⟩:=zt.split _ _ _ h6
    obtain ⟨c,e,rfl,h11,h12⟩:=zt.split _ _ _ h9
    have hc:c.length=a * sz:=by
     rw [zt.len _ _ h11,PV.WO sz _ (fun z hz=>h4 z (List.mem_of_mem_take hz)),List.length_take,Nat.min_eq_left (by omega)]
    refine ⟨bb,off + a * sz,e,by rw [if_neg (by omega)]; simp [qp6,Wl],h12,?_,?_⟩
    ·rw [← hc]; exact qbD h7
    ·rw [← hc]; exact qwp h8 (by simp)
 ·rename_i xs
  simp only [PV.len] at hx h2
  simp only [qG] at hx
  obtain ⟨ad',cap',e,h3,h5⟩:=hx
  simp only [List.cons.injEq,Value.slice.injEq,and_true,true_and] at e
  obtain ⟨rfl,rfl⟩:=e
  have hlen:((xs.take b).drop a).length=b - a:=by simp; omega
  simp only [PV.sub,qG,hlen]
  refine ⟨_,_,rfl,by omega,?_⟩
  by_cases hab:a=b
  ·exact .inl (List.length_eq_zero_iff.1 (by omega))
  ·right
   rcases h5 with rfl | ⟨bb,off,rfl,h7,h8⟩
   ·simp at h2; omega
   ·rw [qz2 xs h1,List.map_append,List.map_append] at h7
    have hc:((xs.take a).map cu8).length=a:=by simp; omega
    refine ⟨bb,off + a,by rw [if_neg (by omega)]; simp [qp6,Wl],?_,?_⟩
    ·have:=qbD h7; rwa [hc] at this
    ·exact qwp h8 (by omega)
theorem qMP {x : PV} {a b cap : Nat} {ad : Option Addr} (hs : x.JY = true) (hx : qG G w x [.slice ad x.len cap]) (h1 : a ≤ b) (h2 : b ≤ x.len) :
    qG G w (x.sub a b) [.slice (if cap=a then ad else ad.map (·.add (a * qp6 x))) (b - a) (cap - a)]:=by
 refine qJo hs hx h1 h2 ?_
 cases x<;>simp only [PV.JY,Bool.false_eq_true] at hs
 ·simp only [qG] at hx
  obtain ⟨ad',cap',e,h3,_⟩:=hx
  simp only [PV.len,List.cons.injEq,Value.slice.injEq,and_true,true_and] at e h2
  omega
 ·simp only [qG] at hx
  obtain ⟨ad',cap',e,h3,_⟩:=hx
  simp only [PV.len,List.cons.injEq,Value.slice.injEq,and_true,true_and] at e h2
  omega
end g
end Go.Rx
end
noncomputable section
namespace Go.Rx
section g
variable {P:Program} {ob:Ob} {γ:Hm} {G:Gh} {w:World}
theorem qjV {d : Nat} {t : TypeId} {fs : List (TypeId × Nat)} {x : AV} (hk : qy P t = some (.struct fs)) (hf : fit P d t x = true) :
    ∃ d',(∃ xs,x=.pv (.ag xs)∧fits P d' fs (xs.map AV.pv) 0=true)∨(∃ xs,x=.ag xs∧fits P d' fs xs 0=true):=by
 cases d with
 | zero=>simp [fit] at hf
 | succ d=>
  unfold fit at hf
  simp only [hk] at hf
  split at hf<;>try (simp at *; done)
  ·rename_i h; simp only [Option.some.injEq,TK.struct.injEq] at h; subst h; exact ⟨d,.inl ⟨_,rfl,hf⟩⟩
  ·rename_i h; simp only [Option.some.injEq,TK.struct.injEq] at h; subst h; exact ⟨d,.inr ⟨_,rfl,hf⟩⟩
theorem qEe {d : Nat} {t e : TypeId} {n : Nat} {x : AV} (hk : qy P t = some (.arr n e)) (hf : fit P d t x = true) :
    ∃ d',(∃ xs,x=.pv (.ag xs)∧xs.length=n∧∀ y∈xs,qE P e=y.size∧fit P d' e (.pv y)=true)∨(∃ xs,x=.ag xs∧xs.length=n∧∀ y∈xs,qE P e=y.size∧fit P d' e y=true):=by
 cases d with
 | zero=>simp [fit] at hf
 | succ d=>
  unfold fit at hf
  simp only [hk] at hf
  split at hf<;>try (simp at *; done)
  ·rename_i h; simp only [Option.some.injEq,TK.arr.injEq] at h; obtain ⟨rfl,rfl⟩:=h
   simp only [Bool.and_eq_true,List.all_eq_true,beq_iff_eq] at hf
   exact ⟨d,.inl ⟨_,rfl,hf.1,fun y hy=>⟨(hf.2 y hy).1,(hf.2 y hy).2⟩⟩⟩
  ·rename_i h; simp only [Option.some.injEq,TK.arr.injEq] at h; obtain ⟨rfl,rfl⟩:=h
   simp only [Bool.and_eq_true,List.all_eq_true,beq_iff_eq] at hf
   exact ⟨d,.inr ⟨_,rfl,hf.1,fun y hy=>⟨(hf.2 y hy).1,(hf.2 y hy).2⟩⟩⟩
theorem qEV {d:Nat} {t:TypeId} {n:Nat} {x:AV} (hk:qy P t=some (.bytes n)) (hf:fit P d t x=true):∃ b:Vector UInt8 n,x=.pv (.ba n b):=by
 cases d with
 | zero=>simp [fit] at hf
 | succ d=>
  unfold fit at hf
  simp only [hk] at hf
  split at hf<;>try (simp at *; done)
  rename_i h; simp only [Option.some.injEq,TK.bytes.injEq] at h; subst h
  simp only [beq_iff_eq] at hf; subst hf
  exact ⟨_,rfl⟩
theorem qSV {d:Nat} {t:TypeId} {n:Nat} {x:AV} (hk:qy P t=some (.words n)) (hf:fit P d t x=true):∃ b:Vector UInt32 n,x=.pv (.wa n b):=by
 cases d with
 | zero=>simp [fit] at hf
 | succ d=>
  unfold fit at hf
  simp only [hk] at hf
  split at hf<;>try (simp at *; done)
  rename_i h; simp only [Option.some.injEq,TK.words.injEq] at h; subst h
  simp only [beq_iff_eq] at hf; subst hf
  exact ⟨_,rfl⟩
theorem qYz {d:Nat} {t:TypeId} {n:Nat} {b:Vector UInt8 n} (hf:fit P d t (.pv (.ba n b))=true):qy P t=some (.bytes n):=by
 cases d with
 | zero=>simp [fit] at hf
 | succ d=>
  unfold fit at hf
  split at hf<;>rename_i h<;>try (cases h; done)
  all_goals try (simp at hf; done)
  rename_i h'; cases h; simp only [beq_iff_eq] at hf; subst hf; exact h'
theorem qYp {d:Nat} {t:TypeId} {n:Nat} {b:Vector UInt32 n} (hf:fit P d t (.pv (.wa n b))=true):qy P t=some (.words n):=by
 cases d with
 | zero=>simp [fit] at hf
 | succ d=>
  unfold fit at hf
  split at hf<;>rename_i h<;>try (cases h; done)
  all_goals try (simp at hf; done)
  rename_i h'; cases h; simp only [beq_iff_eq] at hf; subst hf; exact h'
theorem qYm {d : Nat} {t : TypeId} {xs : List AV} {x : AV} (hx : x = .ag xs ∨ ∃ ys, x = .pv (.ag ys) ∧ xs = ys.map AV.pv) (hf : fit P d t x = true) :
    (∃ fs d',qy P t=some (.struct fs)∧fits P d' fs xs 0=true)∨(∃ n e d',qy P t=some (.arr n e)∧xs.length=n∧∀ y∈xs,qE P e=y.size∧fit P d' e y=true):=by
 cases d with
 | zero=>simp [fit] at hf
 | succ d=>
  cases hk:qy P t with
  | none=>rcases hx with rfl | ⟨ys,rfl,rfl⟩<;>(unfold fit at hf; simp [hk] at hf)
  | some k=>
   cases k
   case arr n e=>
    right
    obtain ⟨d',h⟩:=qEe hk hf
    refine ⟨n,e,d',rfl,?_⟩
    rcases h with ⟨zs,h1,h2,h3⟩ | ⟨zs,h1,h2,h3⟩<;>rcases hx with rfl | ⟨ys,rfl,rfl⟩<;>cases h1
    ·exact ⟨by simpa using h2,fun y hy=>by obtain ⟨z,hz,rfl⟩:=List.mem_map.1 hy; exact h3 z hz⟩
    ·exact ⟨h2,h3⟩
   case struct fs=>
    left
    obtain ⟨d',h⟩:=qjV hk hf
    refine ⟨fs,d',rfl,?_⟩
    rcases h with ⟨zs,h1,h2⟩ | ⟨zs,h1,h2⟩<;>rcases hx with rfl | ⟨ys,rfl,rfl⟩<;>cases h1<;>exact h2
   all_goals (rcases hx with rfl | ⟨ys,rfl,rfl⟩<;>(unfold fit at hf; simp [hk] at hf))
theorem qFd (off : Nat) : ∀ (dy : List Value) (k : Nat) (c d e : List Value), d.length = dy.length → c.length = off + k →
    (dy.zipIdx k).foldl (fun cs q=>cs.setIfInBounds (off + q.2) q.1) (c++d++e).toArray=(c++dy++e).toArray
 | [],k,c,d,e,h,_=>by simp at h; subst h; rfl
 | v::dy,k,c,d,e,h,hc=>by
  cases d with
  | nil=>simp at h
  | cons d0 d=>
   simp only [List.zipIdx_cons,List.foldl_cons]
   have:(c++d0::d++e).toArray.setIfInBounds (off + k) v=((c++[v])++d++e).toArray:=by
    apply Array.ext'
    rw [Array.toList_setIfInBounds,← hc]
    simp
   rw [this,qFd off dy (k + 1) (c++[v]) d e (by simpa using h) (by simp; omega)]
   simp
theorem qIa {place : Nat → Option (Nat × Nat)} {i o sz : Nat} {v : Value} {c d e dy : List Value} {rest : List (Nat × Value)} (hp : place i = some (o, sz)) (hv : v.cells = dy.toArray) (hd : d.length = sz) (hy : dy.length = sz) (hc : c.length = o) :
    Instr.fill place (c++d++e).toArray ((i,v)::rest)=Instr.fill place (c++dy++e).toArray rest:=by
 simp only [Instr.fill,hp,hv]
 rw [if_neg]
 ·congr 1
  rw [← qFd o dy 0 c d e (by omega) (by omega)]
  rw [← Array.foldl_toList]
  simp
 ·simp; omega
def qkN (P:Program) (t:TypeId) (place:Nat→Option (Nat×Nat)):Prop:=
 ∀ (z y:AV) (i:Nat),zj P t z=true→AV.at [i] z=some y→All (AV.inR [i] z)→∃ o,AV.zN [i] z=some o∧place i=some (o,y.size)
theorem qmz {xs:List AV} {i:Nat}:AV.at [i] (.ag xs)=xs[i]?:=by simp only [AV.at]; split<;>simp_all
theorem qkc {xs:List PV} {i:Nat}:AV.at [i] (.pv (.ag xs))=(xs[i]?).map .pv:=by simp only [AV.at]; split<;>simp_all
theorem qGk {t:TypeId} {fs:List (TypeId×Nat)} (hk:qy P t=some (.struct fs)):qkN P t fun i=>(fs[i]?).map fun f=>(f.2,qE P f.1):=by
 intro z y i hf ha _
 simp only [zj,Bool.and_eq_true] at hf
 obtain ⟨_,hf⟩:=hf
 have key:∀ (xs:List AV) (n:Nat),fits P n fs xs 0=true→xs[i]?=some y→∃ f,fs[i]?=some f∧f.2=AV.jo (xs.take i)∧qE P f.1=y.size:=by
  intro xs n h hy
  have hlen:∀ (n:Nat) (fs:List (TypeId×Nat)) (xs:List AV) (o:Nat),fits P n fs xs o=true→fs.length=xs.length:=by
   intro n
   induction n with
   | zero=>intro fs xs o h; simp [fits] at h
   | succ n ih=>
    intro fs xs o h
    cases fs with
    | nil=>cases xs<;>simp [fits] at h ⊢
    | cons f fs=>
     cases xs with
     | nil=>simp [fits] at h
     | cons x xs=>
      simp only [fits,Bool.and_eq_true] at h
      simp [ih _ _ _ h.2]
  have hl:=hlen n fs xs 0 h
  have hi:=(List.getElem?_eq_some_iff.1 hy).1
  have hfi:fs[i]?=some fs[i]:=List.getElem?_eq_getElem (by omega)
  obtain ⟨h1,h2,_⟩:=qy6 n fs xs 0 h i fs[i].1 fs[i].2 y (by rw [hfi]) hy
  exact ⟨_,hfi,by omega,h2⟩
 obtain ⟨d',⟨xs,rfl,hf1⟩ | ⟨xs,rfl,hf1⟩⟩:=qjV hk hf
 ·rw [qkc] at ha
  obtain ⟨f,h1,h2,h3⟩:=key (xs.map .pv) _ hf1 (by simpa using ha)
  cases hx:xs[i]? with
  | none=>simp [hx] at ha
  | some u=>
   refine ⟨f.2,?_,by simp [h1,h3]⟩
   rw [h2,← List.map_take,AV.qm5]
   simp [AV.zN,hx]
 ·rw [qmz] at ha
  obtain ⟨f,h1,h2,h3⟩:=key xs _ hf1 ha
  refine ⟨f.2,?_,by simp [h1,h3]⟩
  rw [h2]
  simp [AV.zN,ha]
theorem qmJ (sz:Nat):∀ (xs:List AV),(∀ x∈xs,x.size=sz)→AV.jo xs=xs.length * sz
 | [],_=>by simp [AV.jo]
 | x::xs,h=>by
  simp only [AV.jo,List.length_cons,h x (by simp),qmJ sz xs fun y hy=>h y (by simp [hy])]
  rw [Nat.succ_mul]; omega
theorem qO1 {t e:TypeId} {n:Nat} (hk:qy P t=some (.arr n e)):qkN P t fun i=>some (i * qE P e,qE P e):=by
 intro z y i hf ha _
 simp only [zj,Bool.and_eq_true] at hf
 obtain ⟨d',⟨xs,rfl,hl,hf⟩ | ⟨xs,rfl,hl,hf⟩⟩:=qEe hk hf.2
 ·rw [qkc] at ha
  cases hx:xs[i]? with
  | none=>simp [hx] at ha
  | some u=>
   simp only [hx,Option.map_some,Option.some.injEq] at ha
   subst ha
   have hu:=hf u (List.mem_of_getElem? hx)
   refine ⟨i * qE P e,?_,by simp only [AV.size,hu.1]⟩
   have:PV.jo (xs.take i)=i * qE P e:=by
    rw [PV.WO (qE P e) _ (fun z hz=>((hf z (List.mem_of_mem_take hz)).1).symm),List.length_take,Nat.min_eq_left (Nat.le_of_lt (List.getElem?_eq_some_iff.1 hx).1)]
   simp [AV.zN,hx,this]
 ·rw [qmz] at ha
  have hu:=hf y (List.mem_of_getElem? ha)
  refine ⟨i * qE P e,?_,by rw [hu.1]⟩
  have:AV.jo (xs.take i)=i * qE P e:=by
   rw [qmJ (qE P e) _ (fun z hz=>((hf z (List.mem_of_mem_take hz)).1).symm),List.length_take,Nat.min_eq_left (Nat.le_of_lt (List.getElem?_eq_some_iff.1 ha).1)]
  simp [AV.zN,ha,this]
theorem qIz {t e:TypeId} {n:Nat} (hk:qy P t=some (.bytes n)) (he:qE P e=1):qkN P t fun i=>some (i * qE P e,qE P e):=by
 intro z y i hf ha _
 simp only [zj,Bool.and_eq_true] at hf
 obtain ⟨b,rfl⟩:=qEV hk hf.2
 simp only [AV.at,Option.some.injEq] at ha
 subst ha
 exact ⟨i,by simp [AV.zN],by simp [he,AV.size,PV.size,u8]⟩
theorem qHv {t e:TypeId} {n:Nat} (hk:qy P t=some (.words n)) (he:qE P e=1):qkN P t fun i=>some (i * qE P e,qE P e):=by
 intro z y i hf ha _
 simp only [zj,Bool.and_eq_true] at hf
 obtain ⟨b,rfl⟩:=qSV hk hf.2
 simp only [AV.at,Option.some.injEq] at ha
 subst ha
 exact ⟨i,by simp [AV.zN],by simp [he,AV.size,PV.size,u32]⟩
theorem qRJ {an:Option Ans} {i:Nat} {z x z':AV} {ps:List Prop} (hs:setAt an [i] z x=some (z',ps)) (hp:All ps):All (AV.inR [i] z):=by
 cases z with
 | pv u=>
  cases u with
  | ag xs=>simp only [AV.inR]; split<;>trivial
  | ba n xs=>
   cases x<;>simp only [setAt] at hs<;>try (simp at hs; done)
   obtain ⟨b,ps1,ps2,e1,e2,hp1,hp2⟩:=qJ hs hp
   exact (zG e2 hp2).2
  | wa n xs=>
   cases x<;>simp only [setAt] at hs<;>try (simp at hs; done)
   obtain ⟨b,ps1,ps2,e1,e2,hp1,hp2⟩:=qJ hs hp
   exact (zG e2 hp2).2
  | _=>trivial
 | ag xs=>simp only [AV.inR]; split<;>trivial
 | _=>trivial
def qIR (ob:Ob) (γ:Hm) (G:Gh) (w:World):List (Nat×AV)→List (Nat×Value)→Prop
 | [],vs=>vs=[]
 | (i,x)::r,vs=>∃ v t,vs=(i,v)::t∧qM ob γ G w x v∧qIR ob γ G w r t
theorem qCp:∀ (n:Nat),(∀ (fs:List (TypeId×Nat)) (xs:List AV) (o:Nat),fits P n fs xs o=true→∀ x∈xs,∃ d u,fit P d u x=true)
 | 0,fs,xs,o,h=>by simp [fits] at h
 | n + 1,fs,xs,o,h=>by
  cases fs with
  | nil=>cases xs<;>simp [fits] at h ⊢
  | cons f fs=>
   cases xs with
   | nil=>simp [fits] at h
   | cons x xs=>
    simp only [fits,Bool.and_eq_true] at h
    intro y hy
    rcases List.mem_cons.1 hy with rfl | hy
    ·exact ⟨n,f.1,h.1.2⟩
    ·exact qCp n fs xs _ h.2 y hy
theorem qEY {d:Nat} {t:TypeId} {xs:List AV} (hf:fit P d t (AV.mk xs)=true):∀ x∈xs,∃ d u,fit P d u x=true:=by
 have:AV.mk xs=.ag xs∨∃ ys,AV.mk xs=.pv (.ag ys)∧xs=ys.map AV.pv:=by
  unfold AV.mk
  split
  ·rename_i ys hys; exact .inr ⟨ys,rfl,qcW hys⟩
  ·exact .inl rfl
 rcases qYm this hf with ⟨fs,d',_,h⟩ | ⟨n,e,d',_,_,h⟩
 ·exact qCp _ _ _ _ h
 ·exact fun x hx=>⟨d',e,(h x hx).2⟩
theorem qPf {an:Option Ans} {t:TypeId} {i d:Nat} {z x z' y:AV} {ps:List Prop} (hs:setAt an [i] z x=some (z',ps)) (hp:All ps) (hf:fit P d t z'=true) (ha:AV.at [i] z=some y):∃ d u,fit P d u x=true:=by
 cases z with
 | pv u=>
  cases u with
  | ag xs=>
   simp only [setAt] at hs
   split at hs
   ·rename_i q hq
    obtain ⟨z2,q1,q2,g1,g2,_,_⟩:=qJ hs hp
    rw [qq g1] at g2
    rw [qq g2] at hf
    refine qEY hf x ?_
    exact List.mem_iff_getElem?.2 ⟨i,by rw [List.getElem?_set_self (by simpa using (List.getElem?_eq_some_iff.1 hq).1)]⟩
   ·simp at hs
  | ba n xs=>
   cases x<;>simp only [setAt] at hs<;>try (simp at hs; done)
   obtain ⟨b,q1,q2,e1,e2,hq1,hq2⟩:=qJ hs hp
   obtain ⟨n',rfl,hn⟩:=qhH e1 hq1
   rw [(zG e2 hq2).1] at hf
   obtain ⟨e,_,he2,_⟩:=Vm (qYz hf)
   exact ⟨1,e,by simp [fit,qy,he2]⟩
  | wa n xs=>
   cases x<;>simp only [setAt] at hs<;>try (simp at hs; done)
   obtain ⟨b,q1,q2,e1,e2,hq1,hq2⟩:=qJ hs hp
   obtain ⟨n',rfl,hn⟩:=qx6 e1 hq1
   rw [(zG e2 hq2).1] at hf
   obtain ⟨e,_,he2,_⟩:=qfj (qYp hf)
   exact ⟨1,e,by simp [fit,qy,he2]⟩
  | _=>simp [AV.at] at ha
 | ag xs=>
  simp only [setAt] at hs
  split at hs
  ·rename_i q hq
   obtain ⟨z2,q1,q2,g1,g2,_,_⟩:=qJ hs hp
   rw [qq g1] at g2
   rw [qq g2] at hf
   refine qEY hf x ?_
   exact List.mem_iff_getElem?.2 ⟨i,by rw [List.getElem?_set_self (by simpa using (List.getElem?_eq_some_iff.1 hq).1)]⟩
  ·simp at hs
 | _=>simp [AV.at] at ha
theorem qBh {t : TypeId} {place : Nat → Option (Nat × Nat)} (hpl : qkN P t place) {an : Option Ans} : ∀ (parts : List (Nat × AV)) (z r : AV) (ps : List Prop) (cs : List Value) (vs : List (Nat × Value)),
    qb3 P t an z parts=some (r,ps)→All ps→zj P t z=true→qm ob γ G w z cs→qIR ob γ G w parts vs→∃ cs',Instr.fill place cs.toArray vs=some cs'.toArray∧qm ob γ G w r cs'∧zj P t r=true
 | [],z,r,ps,cs,vs,hs,_,hf,hr,hv=>by
  simp only [qIR] at hv; subst hv
  simp only [qb3] at hs
  rw [qq hs]
  exact ⟨cs,rfl,hr,hf⟩
 | (i,x)::rest,z,r,ps,cs,vs,hs,hp,hf,hr,hv=>by
  simp only [qIR] at hv
  obtain ⟨v,tl,rfl,hx,htl⟩:=hv
  simp only [qb3] at hs
  obtain ⟨hat,hs⟩:=qO hs
  obtain ⟨z',ps1,ps2,h1,h2,hp1,hp2⟩:=qJ hs hp
  obtain ⟨hf',h2⟩:=qO h2
  cases ha:AV.at [i] z with
  | none=>simp [ha] at hat
  | some y=>
   simp only [ha,beq_iff_eq] at hat
   have hin:=qRJ h1 hp1
   obtain ⟨o,ho,hpi⟩:=hpl z y i hf ha hin
   obtain ⟨c,d,e,rfl,hc,hd⟩:=qeQ _ _ _ _ _ ha ho hin hr
   have hdl:=qm.len _ _ hd
   have hxs:∃ dy,qm ob γ G w x dy∧v.cells=dy.toArray:=by
    have:∃ d u,fit P d u x=true:=qPf h1 hp1 (by simp only [zj,Bool.and_eq_true] at hf'; exact hf'.2) ha
    obtain ⟨d,u,hfx⟩:=this
    obtain ⟨cs,g1,g2⟩:=qaa hfx hx
    exact ⟨cs,g1,KG g1 g2⟩
   obtain ⟨dy,hdy,hvc⟩:=hxs
   have hdyl:=qm.len _ _ hdy
   rw [qIa hpi hvc hdl (by omega) hc]
   exact qBh hpl rest z' r ps2 _ tl h2 hp2 hf' (qoa [i] z x z' y o c d e dy ps1 h1 hp1 hin ha ho hc hdl hr hdy) htl
end g
end Go.Rx
end
noncomputable section
namespace Go.Rx
section g
variable {P:Program} {ob:Ob} {γ:Hm} {G:Gh} {w:World}
def jt (ob:Ob) (γ:Hm) (G:Gh) (w:World) (val:Operand→AV) (ρ:Operand→Value):Prop:=∀ x,qM ob γ G w (val x) (ρ x)
theorem jt.step {ob':Ob} {γ':Hm} {G':Gh} {w':World} {val:Operand→AV} {ρ:Operand→Value} (T:Trans ob γ G w ob' γ' G' w') (S:jt ob γ G w val ρ):jt ob' γ' G' w' val ρ:=
 fun x=>qM.step T _ _ (S x)
theorem qMs {val:Operand→AV} {ρ:Operand→Value} (S:jt ob γ G w val ρ):∀ (l:List (Nat×Operand)),qIR ob γ G w (l.map fun q=>(q.1,val q.2)) (l.map fun q=>(q.1,ρ q.2))
 | []=>rfl
 | (i,x)::r=>⟨ρ x,_,rfl,S x,qMs S r⟩
theorem qWB {t:TypeId} {d:TypeDesc} (h:P.underlying t=some d):∃ i,P.info? t=some i∧i.size=qE P t:=by
 obtain ⟨i,hi⟩:=Wj h
 exact ⟨i,hi,by simp [qE,hi]⟩
theorem qr1 {t : TypeId} {gs : Array Field} {n : Nat} {xs : List AV} {o : Nat} (hf : fits P n (gs.toList.map fun f => (f.type, f.offset)) xs o = true) :
    gs.toList.mapM (fun f=>(P.info? f.type).map fun i=>(f.offset,i.size))=some (gs.toList.map fun f=>(f.offset,qE P f.type)):=by
 generalize gs.toList=l at hf
 induction l generalizing n xs o with
 | nil=>rfl
 | cons f l ih=>
  cases n with
  | zero=>simp [fits] at hf
  | succ n=>
   cases xs with
   | nil=>simp [fits] at hf
   | cons x xs=>
    simp only [List.map_cons,fits,Bool.and_eq_true] at hf
    obtain ⟨td,hu,_⟩:=qaY hf.1.2
    obtain ⟨i,hi,hs⟩:=qWB hu
    rw [List.mapM_cons,ih hf.2]
    simp [hi,hs]
theorem qLg {t : TypeId} {an : Option Ans} {z r : AV} {ps : List Prop} {parts : Array (Nat × Operand)} {val : Operand → AV} {ρ : Operand → Value} (S : jt ob γ G w val ρ) (hz : zeroOf P t = some z)
    (hag:z.isAgg=true) (hs:qb3 P t an z (parts.toList.map fun q=>(q.1,val q.2))=some (r,ps)) (hp:All ps) :
    ∃ v,(Instr.build t (parts.map fun q=>(q.1,ρ q.2))).run P w=.ok v w∧qM ob γ G w r v:=by
 obtain ⟨zv,cs,hzv,hr,ho,hcells,hfz⟩:=Wd (ob:=ob) (γ:=γ) (G:=G) (w:=w) hz
 have hfz':=hfz
 simp only [zj,Bool.and_eq_true] at hfz'
 obtain ⟨td,hu,ha⟩:=qaY hfz'.2
 rw [hag] at ha
 have hpars:=qMs S parts.toList
 have hlist:(parts.map fun q=>(q.1,ρ q.2)).toList=parts.toList.map fun q=>(q.1,ρ q.2):=by simp
 have hagg:∀ {x:AV},zj P t x=true→x.isAgg=true:=fun hx=>by
  simp only [zj,Bool.and_eq_true] at hx
  obtain ⟨td',hu',ha'⟩:=qaY hx.2
  rw [hu] at hu'; cases hu'; rw [← ha',ha]
 have key:∀ {place:Nat→Option (Nat×Nat)},qkN P t place→∃ cs':List Value,Instr.fill place cs.toArray (parts.toList.map fun q=>(q.1,ρ q.2))=some cs'.toArray∧qM ob γ G w r (.agg cs'.toArray):=fun hpl=>by
  obtain ⟨cs',h1,h2,h3⟩:=qBh hpl _ _ _ _ _ _ hs hp hfz hr hpars
  exact ⟨cs',h1,qkK (hagg h3) h2⟩
 cases td with
 | struct gs=>
  have hk:qy P t=some (.struct (gs.toList.map fun f=>(f.type,f.offset))):=by simp [qy,hu]
  obtain ⟨cs',h1,h2⟩:=key (qGk hk)
  obtain ⟨d',hff⟩:=qjV hk hfz'.2
  have hpl:gs.toList.mapM (fun f=>(P.info? f.type).map fun i=>(f.offset,i.size))=some (gs.toList.map fun f=>(f.offset,qE P f.type)):=by
   rcases hff with ⟨xs,_,h⟩ | ⟨xs,_,h⟩
   ·exact qr1 (t:=t) h
   ·exact qr1 (t:=t) h
  refine ⟨.agg cs'.toArray,?_,h2⟩
  have hrun:=Go.run_places (P:=P) w gs.toList _ hpl
  have he:(fun (i:Nat)=>((gs.toList.map fun f=>(f.offset,qE P f.type)).toArray)[i]?)=(fun (i:Nat)=>((gs.toList.map fun f=>(f.type,f.offset))[i]?).map fun (f:TypeId×Nat)=>(f.2,qE P f.1)):=by
   funext i; simp; cases gs[i]?<;>rfl
  rw [← he] at h1
  simp only [Instr.build,Sem.run_bind,hzv,Result.andThen_ok,run_underlying hu,hcells,hlist,Array.mapM_eq_mapM_toList,Sem.run_map,bind_pure_comp,hrun,h1,Sem.run_pure]
 | array n e=>
  have hpl':(∃ d,P.underlying e=some d):=by
   cases he:P.underlying e with
   | some d=>exact ⟨d,rfl⟩
   | none=>
    exfalso
    have:=hfz'.2
    unfold fit at this
    simp [qy,hu,he] at this
  obtain ⟨de,hde⟩:=hpl'
  have hpl:qkN P t fun i=>some (i * qE P e,qE P e):=by
   cases hk:qy P t with
   | none=>
    exfalso
    have:=hfz'.2
    unfold fit at this
    simp [hk] at this
   | some k=>
    have hk':=hk
    simp only [qy,hu] at hk'
    split at hk'
    ·split at hk'<;>simp only [Option.some.injEq,reduceCtorEq] at hk'
     subst hk'
     rename_i hb
     exact qIz hk (by simpa using hb)
    ·split at hk'<;>simp only [Option.some.injEq,reduceCtorEq] at hk'
     subst hk'
     rename_i hb
     exact qHv hk (by simpa using hb)
    ·simp only [Option.some.injEq] at hk'
     subst hk'
     exact qO1 hk
    ·simp at hk'
  obtain ⟨cs',h1,h2⟩:=key hpl
  refine ⟨.agg cs'.toArray,?_,h2⟩
  simp only [Instr.build,Sem.run_bind,hzv,Result.andThen_ok,run_underlying hu,hcells,hlist,qbR w hde,h1,Sem.run_pure]
 | _=>simp [qHy] at ha
def Yg (sz:Nat):Nat→List (Nat×Value)→List (List Value)→Prop
 | _,[],[]=>True
 | k,(i,v)::r,c::cs=>i=k∧v.cells=c.toArray∧c.length=sz∧Yg sz (k + 1) r cs
 | _,_,_=>False
theorem qAl {sz : Nat} : ∀ (parts : List (Nat × Value)) (k : Nat) (D R : List Value) (css : List (List Value)), Yg sz k parts css → D.length = k * sz → R.length = css.length * sz →
    Instr.fill (fun i=>some (i * sz,sz)) (D++R).toArray parts=some (D++css.flatten).toArray
 | [],k,D,R,css,h,_,hR=>by
  cases css with
  | cons=>simp [Yg] at h
  | nil=>simp at hR; subst hR; simp [Instr.fill]
 | (i,v)::r,k,D,R,css,h,hD,hR=>by
  cases css with
  | nil=>simp [Yg] at h
  | cons c css=>
   simp only [Yg] at h
   obtain ⟨rfl,hv,hc,hr⟩:=h
   have hR':R=R.take sz++R.drop sz:=(List.take_append_drop sz R).symm
   have hl:(R.take sz).length=sz:=by simp [List.length_take,hR,Nat.succ_mul]
   have:(D++R).toArray=(D++R.take sz++R.drop sz).toArray:=by rw [List.append_assoc,← hR']
   rw [this,qIa rfl hv hl hc (by omega),qAl r (i + 1) (D++c) (R.drop sz) css hr (by simp [hc,hD,Nat.succ_mul]) (by simp [hR,Nat.succ_mul])]
   simp
theorem qjI {sz:Nat}:∀ {parts:List (Nat×Value)} {k:Nat} {css:List (List Value)},Yg sz k parts css→parts.length=css.length∧css.flatten.length=css.length * sz
 | [],_,[],_=>by simp
 | [],_,_::_,h=>by simp [Yg] at h
 | _::_,_,[],h=>by simp [Yg] at h
 | (i,v)::r,k,c::css,h=>by
  simp only [Yg] at h
  have:=qjI h.2.2.2
  simp [this.1,this.2,h.2.2.1,Nat.succ_mul,List.length_flatten] at *
  omega
theorem qgS {t e : TypeId} {n : Nat} {parts : List (Nat × Value)} {css : List (List Value)} (hu : P.underlying t = some (.slice e)) (he : ∃ d, P.underlying e = some d) (hz : ZQ P e = true)
    (hn:n * qE P e≤16777216) (hd:Yg (qE P e) 0 parts css) (hl:n=parts.length) :
    (Instr.buildSlice t n parts.toArray).run P w=.ok (.slice (some ⟨w.heap.size,0,none⟩) n n) { w with heap:=w.heap.push (.cells css.flatten.toArray e) }:=by
 obtain ⟨de,hde⟩:=he
 have hzero:∃ z,(zeroValue e).run P w=.ok z w:=by
  simp only [ZQ,Bool.and_eq_true] at hz
  cases hi:P.info? e with
  | none=>simp [hi] at hz
  | some i=>
   simp only [hi,Option.bind_some] at hz
   obtain ⟨z,hz'⟩:=Option.isSome_iff_exists.1 hz.1
   exact ⟨z,by simp [zeroValue,typeInfo,hi,hz']⟩
 obtain ⟨z,hz'⟩:=hzero
 obtain ⟨h1,h2⟩:=qjI hd
 have fl:∀ R:Array Value,R.size=n * qE P e→Instr.fill (fun i=>some (i * qE P e,qE P e)) R parts=some css.flatten.toArray:=fun R hR=>by
  have:=qAl parts 0 [] R.toList css hd (by simp) (by simp [hR]; rw [hl,h1])
  simpa using this
 simp only [Instr.buildSlice,Sem.run_bind,run_underlying hu,Result.andThen_ok,qbR w hde]
 rw [if_neg (by omega)]
 by_cases h0:n * qE P e=0
 ·rw [if_pos h0]
  rw [pure_bind,fl _ (by simp)]
  simp [newRow]
 ·rw [if_neg h0]
  simp only [bind_assoc,Sem.run_bind,hz',Sem.run_pure,pure_bind,Result.andThen_ok]
  rw [fl _ (by simp)]
  simp [newRow]
theorem qvV {an:Option Ans}:∀ {xs:List PV} {cs:List UInt8} {ps:List Prop},qhf an xs=some (cs,ps)→All ps→xs=cs.map u8
 | [],cs,ps,h,_=>by simp only [qhf] at h; rw [qq h]; rfl
 | x::xs,cs,ps,h,hp=>by
  simp only [qhf] at h
  obtain ⟨c,p1,p2,h1,h2,hp1,hp2⟩:=qJ h hp
  obtain ⟨cs',p3,p4,h3,h4,hp3,hp4⟩:=qJ h2 hp2
  rw [qq h4]
  obtain ⟨n,rfl,rfl⟩:=qhH h1 hp1
  simp [qvV h3 hp3,u8]
def j_ (G:Gh) (w:World):List PV→List Value→List (List Value)→Prop
 | [],[],[]=>True
 | x::xs,v::vs,c::cs=>qG G w x c∧v.cells=c.toArray∧j_ G w xs vs cs
 | _,_,_=>False
theorem qE3:∀ {xs:List PV} {vs:List Value} {css:List (List Value)},j_ G w xs vs css→zt G w xs css.flatten
 | [],[],[],_=>rfl
 | [],[],_::_,h=>by simp [j_] at h
 | [],_::_,_,h=>by simp [j_] at h
 | _::_,[],_,h=>by simp [j_] at h
 | _::_,_::_,[],h=>by simp [j_] at h
 | x::xs,v::vs,c::css,h=>by
  simp only [j_] at h
  exact ⟨c,css.flatten,by simp,h.1,qE3 h.2.2⟩
theorem qrw {sz:Nat}:∀ {xs:List PV} {parts:List (Nat×Value)} {css:List (List Value)} {k:Nat},j_ G w xs (parts.map (·.2)) css→(∀ x∈xs,x.size=sz)→(∀ j q,parts[j]?=some q→q.1=k + j)→Yg sz k parts css
 | [],[],[],_,_,_,_=>trivial
 | [],[],_::_,_,h,_,_=>by simp [j_] at h
 | [],_::_,_,_,h,_,_=>by simp [j_] at h
 | _::_,[],_,_,h,_,_=>by simp [j_] at h
 | _::_,_::_,[],_,h,_,_=>by simp [j_] at h
 | x::xs,(i,v)::r,c::css,k,h,hsz,hi=>by
  simp only [List.map_cons,j_] at h
  refine ⟨by simpa using hi 0 (i,v) rfl,h.2.1,by rw [qG.len _ _ h.1,hsz x (by simp)],qrw h.2.2 (fun y hy=>hsz y (by simp [hy])) fun j q hq=>?_⟩
  have:=hi (j + 1) q (by simpa using hq)
  omega
theorem qAV:∀ {cs:List UInt8} {fl:List Value},zt G w (cs.map u8) fl→fl=cs.map cu8
 | [],_,h=>h
 | c::cs,_,⟨c1,d,e,h1,h2⟩=>by
  simp only [u8,qG] at h1
  rw [e,h1,qAV h2]; rfl
theorem qxV {an : Option Ans} {e : TypeId} {xs : List PV} {s : PV} {ps : List Prop} (hs : qhG P an e xs = some (s, ps)) (hp : All ps) {css : List (List Value)} {vs : List Value} (hv : j_ G w xs vs css) :
    zu G w (qE P e) s css.flatten∧s.len=xs.length∧s.JY=true∧(∀ x∈xs,x.size=qE P e)∧(xs≠[]→∃ d,P.underlying e=some d):=by
 unfold qhG at hs
 have hf:=qE3 hv
 split at hs
 ·rename_i hu
  obtain ⟨h1,hs⟩:=qO hs
  obtain ⟨cs,p1,p2,h2,h3,hp1,hp2⟩:=qJ hs hp
  rw [qq h3]
  have hx:=qvV h2 hp1
  subst hx
  simp only [beq_iff_eq] at h1
  refine ⟨⟨h1,?_⟩,by simp [PV.len],rfl,?_,fun _=>⟨_,qkr hu⟩⟩
  ·exact qAV hf
  ·intro x hx
   obtain ⟨c,_,rfl⟩:=List.mem_map.1 hx
   simp [u8,PV.size,h1]
 ·obtain ⟨h1,hs⟩:=qO hs
  rw [qq hs]
  simp only [List.all_eq_true,Bool.and_eq_true,beq_iff_eq] at h1
  refine ⟨⟨rfl,hf,fun x hx=>(h1 x hx).1⟩,rfl,rfl,fun x hx=>(h1 x hx).1,fun hne=>?_⟩
  cases xs with
  | nil=>exact absurd rfl hne
  | cons x xs=>obtain ⟨td,h,_⟩:=qaY (h1 x (by simp)).2; exact ⟨td,h⟩
theorem qC7 {sz:Nat} {s:PV} {cs:List Value} (h:zu G w sz s cs) {b off cap:Nat} (hc:Qq w b off cs) (hg:inG G b off cs.length) (hcap:s.len≤cap):qG G w s [.slice (some ⟨b,off,none⟩) s.len cap]:=by
 cases s<;>simp only [zu] at h
 ·obtain ⟨rfl,h1,h2⟩:=h
  simp only [qG]
  exact ⟨_,_,rfl,hcap,h2,.inr ⟨b,off,cs,rfl,h1,hc,hg⟩⟩
 ·obtain ⟨_,rfl⟩:=h
  simp only [qG]
  exact ⟨_,_,rfl,hcap,.inr ⟨b,off,rfl,hc,by simpa using hg⟩⟩
theorem qtr:∀ (l:List (Nat×Operand)) (k:Nat),qc7 k l=true→∀ (j:Nat) (q:Nat×Operand),l[j]?=some q→q.1=k + j
 | [],_,_,j,q,h=>by simp at h
 | (i,x)::r,k,hd,j,q,h=>by
  simp only [qc7,Bool.and_eq_true,beq_iff_eq] at hd
  cases j with
  | zero=>simp at h; subst h; simpa using hd.1
  | succ j=>have:=qtr r (k + 1) hd.2 j q (by simpa using h); omega
theorem qMo {val:Operand→AV} {ρ:Operand→Value} (S:jt ob γ G w val ρ):∀ (l:List (Nat×Operand)) (xs:List PV),l.map (fun q=>val q.2)=xs.map AV.pv→∃ css,j_ G w xs (l.map fun q=>ρ q.2) css
 | [],xs,h=>by cases xs<;>simp at h ⊢; exact ⟨[],trivial⟩
 | (i,o)::r,xs,h=>by
  cases xs with
  | nil=>simp at h
  | cons x xs=>
   simp only [List.map_cons,List.cons.injEq] at h
   obtain ⟨css,hc⟩:=qMo S r xs h.2
   have:=S o
   rw [h.1] at this
   obtain ⟨c,h1,h2⟩:=QH.1 this
   exact ⟨c::css,h1,KG (ob:=ob) (γ:=γ) (x:=.pv x) (by simpa only [qm] using h1) h2,hc⟩
theorem qpU {t e : TypeId} {n : Nat} {parts : Array (Nat × Operand)} {val : Operand → AV} {ρ : Operand → Value} (S : jt ob γ G w val ρ) (hk : qy P t = some (.slice e)) (hd : qc7 0 parts.toList = true) (hn : n = parts.size)
    (hm:n * qE P e≤16777216) (hz:ZQ P e=true) {an:Option Ans} {xs:List PV} (hx:AV.Z7 (parts.toList.map fun q=>val q.2)=some xs) {s:PV} {ps:List Prop} (hs:qhG P an e xs=some (s,ps)) (hp:All ps) :
    ∃ cs,(Instr.buildSlice t n (parts.map fun q=>(q.1,ρ q.2))).run P w=.ok (.slice (some ⟨w.heap.size,0,none⟩) s.len s.len) { w with heap:=w.heap.push (.cells cs.toArray e) }∧zu G w (qE P e) s cs∧s.JY=true∧s.len=n∧cs.length=n * qE P e:=by
 obtain ⟨css,hv⟩:=qMo S parts.toList xs (qcW hx)
 obtain ⟨h1,h2,h3,h4,h5⟩:=qxV hs hp hv
 have hxl:xs.length=n:=by
  have:=congrArg List.length (qcW hx)
  simp at this; omega
 have hmap:(parts.map fun q=>(q.1,ρ q.2))=(parts.toList.map fun q=>(q.1,ρ q.2)).toArray:=by apply Array.ext'; simp
 have hdn:Yg (qE P e) 0 (parts.toList.map fun q=>(q.1,ρ q.2)) css:=by
  refine qrw (xs:=xs) (by simpa [Function.comp_def] using hv) h4 fun j q hq=>?_
  simp only [List.getElem?_map,Option.map_eq_some_iff] at hq
  obtain ⟨p,hp1,rfl⟩:=hq
  exact qtr _ 0 hd j p hp1
 have he:∃ d,P.underlying e=some d:=by
  simp only [ZQ,Bool.and_eq_true] at hz
  exact Option.isSome_iff_exists.1 hz.2
 refine ⟨css.flatten,?_,h1,h3,by omega,?_⟩
 ·rw [hmap,qgS (zC hk) he hz hm hdn (by simp [hn]),h2,hxl]
 ·rw [(qjI hdn).2,← (qjI hdn).1]; simp [hn]
end g
end Go.Rx
end
noncomputable section
namespace Go.Rx
section g
variable {P:Program} {ob:Ob} {γ:Hm} {G:Gh} {w:World}
def qcQ (P:Program) (ob:Ob) (γ:Hm) (G:Gh) (w:World) (s:Sem Next) (r:AV):Prop:=
 ∃ v G' w',s.run P w=.ok (.value v) w'∧qL ob γ G' w'∧Trans ob γ G w ob γ G' w'∧qM ob γ G' w' r v
theorem qcQ.same (H:qL ob γ G w) {s:Sem Next} {r:AV} {v:Value} (h:s.run P w=.ok (.value v) w) (hr:qM ob γ G w r v):qcQ P ob γ G w s r:=
 ⟨v,G,w,h,H,Trans.refl H,hr⟩
theorem qcQ.of0 {s:Sem Value} {r:AV} (h:Kb P ob γ G w s r):qcQ P ob γ G w (do pure (Next.value (← s))) r:=by
 obtain ⟨v,G',w',h1,h2,h3,h4⟩:=h
 exact ⟨v,G',w',by simp [h1],h2,h3,h4⟩
theorem qhP {x:AV} {v:Value} (hs:x.Ja=true) (h:qM ob γ G w x v):∃ cs,qm ob γ G w x cs∧zp x.isAgg cs v:=by
 rcases qq8 h with ⟨xs,rfl⟩ | rfl | h
 ·simp [AV.Ja] at hs
 ·simp [AV.Ja] at hs
 ·exact h
theorem qpc {val:Operand→AV} {ρ:Operand→Value} (S:jt ob γ G w val ρ):∀ (l:List Operand),(l.map val).all AV.Ja=true→zB ob γ G w (l.map val) (l.map ρ)
 | [],_=>rfl
 | x::r,h=>by
  simp only [List.map_cons,List.all_cons,Bool.and_eq_true] at h
  obtain ⟨c,h1,h2⟩:=qhP h.1 (S x)
  simp only [List.map_cons,zB]
  exact ⟨c,_,_,rfl,h1,h2,qpc S r (by simpa using h.2)⟩
theorem qys:∀ {xs:List AV} {vs:List Value} {i:Nat} {x:AV},zB ob γ G w xs vs→xs[i]?=some x→∃ v,vs[i]?=some v∧qM ob γ G w x v
 | [],_,i,x,_,h=>by simp at h
 | y::ys,vs,i,x,h,hi=>by
  simp only [zB] at h
  obtain ⟨c,v,r,rfl,h1,h2,h3⟩:=h
  cases i with
  | zero=>simp at hi; subst hi; exact ⟨v,rfl,qeY h1 h2⟩
  | succ i=>obtain ⟨v',h4,h5⟩:=qys h3 (by simpa using hi); exact ⟨v',by simpa using h4,h5⟩
theorem qxQ {t : TypeId} {f u o : Nat} {x r : AV} {v : Value} (hk : qa3 P t f = some (u, o)) (hf : zj P t x = true) (ha : AV.at [f] x = some r) (h : qM ob γ G w x v) :
    ∃ v',(Instr.field t v f).run P w=.ok v' w∧qM ob γ G w r v'∧qE P u=r.size∧AV.zN [f] x=some o:=by
 unfold qa3 at hk
 split at hk
 ·rename_i fs hks
  simp only [zj,Bool.and_eq_true] at hf
  obtain ⟨cs,hr,ho⟩:=qaa hf.2 h
  obtain ⟨xs,d',hx,hfs,hrs⟩:=qug hks hf.2 hr
  obtain ⟨gs,hu,rfl⟩:=qdE hks
  have hxs:xs[f]?=some r:=by
   rcases hx with rfl | ⟨ys,rfl,rfl⟩
   ·rwa [qmz] at ha
   ·rw [qkc] at ha; simpa using ha
  have hoff:AV.zN [f] x=some (AV.jo (xs.take f)):=by
   rcases hx with rfl | ⟨ys,rfl,rfl⟩
   ·simp [AV.zN,hxs]
   ·simp only [List.getElem?_map,Option.map_eq_some_iff] at hxs
    obtain ⟨y,hy,rfl⟩:=hxs
    simp [AV.zN,hy,← List.map_take,AV.qm5]
  obtain ⟨h1,h2,d2,h3⟩:=qy6 _ _ _ _ hfs f u o r hk hxs
  obtain ⟨c,d,e,rfl,h4,h5,_,_⟩:=zh.at hrs hxs
  have hag:x.isAgg=true:=by rcases hx with rfl | ⟨ys,rfl,rfl⟩<;>rfl
  rw [hag] at ho
  simp only [zp] at ho
  subst ho
  obtain ⟨v',h6,h7,_⟩:=qrJ h3 h2 h4 (c:=c) (e:=e) w
  have hg:∃ g,gs[f]?=some g∧g.type=u∧g.offset=o:=by
   simp only [List.getElem?_map,Option.map_eq_some_iff,Prod.mk.injEq] at hk
   obtain ⟨g,hg,rfl,rfl⟩:=hk
   exact ⟨g,by simpa using hg,rfl,rfl⟩
  obtain ⟨g,hg,rfl,rfl⟩:=hg
  have ho:g.offset=c.length:=by omega
  refine ⟨v',?_,h7,h2,by rw [hoff]; congr 1; omega⟩
  simp only [Instr.field,Sem.run_bind,run_underlying hu,Result.andThen_ok,hg,asAgg,Sem.run_pure,ho]
  exact h6
 ·simp at hk
theorem qA0 {t e : TypeId} {n k : Nat} {kd : IntKind} {x r : AV} {v : Value} (hk : qy P t = some (.arr n e)) (hf : zj P t x = true) (ha : AV.at [k] x = some r) (hkn : k < n) (h : qM ob γ G w x v) :
    ∃ v',(Instr.index t v (.int kd k)).run P w=.ok v' w∧qM ob γ G w r v':=by
 simp only [zj,Bool.and_eq_true] at hf
 obtain ⟨cs,hr,ho⟩:=qaa hf.2 h
 have key:∃ xs d,x.isAgg=true∧zh ob γ G w xs cs∧xs[k]?=some r∧∀ y∈xs,qE P e=y.size∧fit P d e y=true:=by
  obtain ⟨d',⟨xs,rfl,hl,hf⟩ | ⟨xs,rfl,hl,hf⟩⟩:=qEe hk hf.2
  ·refine ⟨xs.map .pv,d',rfl,(qcu _ _).2 (by simpa only [qm,qG] using hr),?_,fun y hy=>?_⟩
   ·rw [qkc] at ha; simpa using ha
   ·obtain ⟨z,hz,rfl⟩:=List.mem_map.1 hy; exact hf z hz
  ·exact ⟨xs,d',rfl,by simpa only [qm] using hr,by rwa [qmz] at ha,hf⟩
 obtain ⟨xs,d,hag,hrs,hxs,hall⟩:=key
 rw [hag] at ho
 simp only [zp] at ho
 subst ho
 have hr0:=hall r (List.mem_of_getElem? hxs)
 obtain ⟨c,d1,e1,rfl,h4,h5,_,_⟩:=zh.at hrs hxs
 have hc:k * qE P e=c.length:=by
  rw [h5,qmJ (qE P e) _ (fun z hz=>((hall z (List.mem_of_mem_take hz)).1).symm),List.length_take,Nat.min_eq_left (Nat.le_of_lt (List.getElem?_eq_some_iff.1 hxs).1)]
 obtain ⟨v',h6,h7,_⟩:=qrJ hr0.2 hr0.1 h4 (c:=c) (e:=e1) w
 obtain ⟨td,hu,_⟩:=qaY hr0.2
 refine ⟨v',?_,h7⟩
 simp only [Instr.index,Sem.run_bind,Vq,Result.andThen_ok,run_underlying (qzz hk)]
 rw [if_pos (by omega)]
 simp only [Sem.run_bind,qbR w hu,Result.andThen_ok,Int.toNat_natCast,hc]
 exact h6
theorem qks {t e : TypeId} {n k : Nat} {kd : IntKind} {cs : List Value} {c : Value} {td : TypeDesc} (hu : P.underlying t = some (.array n e)) (he : P.underlying e = some td) (hna : qHy td = false) (hsz : qE P e = 1) (hkn : k < n) (hc : cs[k]? = some c) :
    (Instr.index t (.agg cs.toArray) (.int kd k)).run P w=.ok c w:=by
 simp only [Instr.index,Sem.run_bind,Vq,Result.andThen_ok,run_underlying hu]
 rw [if_pos (by omega)]
 simp only [Sem.run_bind,qbR w he,Result.andThen_ok,Int.toNat_natCast,hsz,part,qcN w he,hna,Bool.false_eq_true,if_false,Nat.mul_one,List.getElem?_toArray,hc,Sem.run_pure]
theorem QZ {k:IntKind} {a y:Nat} {code} (h:a≤y):(Instr.sliceBound (.int k a) y code).run P w=.ok a w:=by
 simp only [Instr.sliceBound,Sem.run_bind,Vq,Result.andThen_ok]
 rw [if_pos (by omega)]
 simp
theorem qcL {lo hi : Option Operand} {val : Operand → AV} {ρ : Operand → Value} (S : jt ob γ G w val ρ) {an : Option Ans} {n a b cap : Nat} {ps : List Prop} {f : Bool} (h : bounds an (lo.map val) (hi.map val) n = some ((a, b), ps)) (hp : All ps) (hc : n ≤ cap) :
    (Instr.sliceBounds f n cap (lo.map ρ) (hi.map ρ) none).run P w=.ok (a,b,cap) w∧a≤b∧b≤n:=by
 obtain ⟨h1,h2,h3,h4,h5,h6⟩:=qxO h hp
 refine ⟨?_,h1,h2⟩
 have hlo:∀ x,lo=some x→∃ k,ρ x=.int k a:=fun x hx=>by
  obtain ⟨k,hk⟩:=h3 (val x) (by rw [hx]; rfl)
  have:=S x; rw [hk] at this; exact ⟨k,jr.1 this⟩
 have hhi:∀ x,hi=some x→∃ k,ρ x=.int k b:=fun x hx=>by
  obtain ⟨k,hk⟩:=h5 (val x) (by rw [hx]; rfl)
  have:=S x; rw [hk] at this; exact ⟨k,jr.1 this⟩
 cases lo with
 | none=>
  have ha:a=0:=h4 rfl
  subst ha
  cases hi with
  | none=>
   have hb:b=n:=h6 rfl
   subst hb
   simp [Instr.sliceBounds]
  | some y=>
   obtain ⟨k,hk⟩:=hhi y rfl
   simp [Instr.sliceBounds,hk,QZ (P:=P) (w:=w) (Nat.le_trans h2 hc)]
 | some x=>
  obtain ⟨k,hk⟩:=hlo x rfl
  cases hi with
  | none=>
   have hb:b=n:=h6 rfl
   subst hb
   simp [Instr.sliceBounds,hk,QZ (P:=P) (w:=w) h1]
  | some y=>
   obtain ⟨j,hj⟩:=hhi y rfl
   simp [Instr.sliceBounds,hk,hj,QZ (P:=P) (w:=w) (Nat.le_trans h2 hc),QZ (P:=P) (w:=w) h1]
end g
end Go.Rx
end
noncomputable section
namespace Go.Rx
section g
variable {P:Program} {ob:Ob} {γ:Hm} {G:Gh} {w:World}
theorem vT {t e:TypeId} (h:qy P t=some (.slice e)):∃ i,P.info? e=some i:=by
 unfold qy at h
 repeat' split at h
 all_goals simp_all
theorem Zt {e:TypeId} (h:∃ i,P.info? e=some i):(sizeOf e).run P w=.ok (qE P e) w:=by
 obtain ⟨i,hi⟩:=h
 simp [sizeOf,typeInfo,hi,qE]
theorem qWv {e:TypeId} (h:qE P e≠0):∃ i,P.info? e=some i:=by
 unfold qE at h
 cases hi:P.info? e with
 | none=>simp [hi] at h
 | some i=>exact ⟨i,rfl⟩
theorem qGF {t e:TypeId} {n:Nat} (h:qy P t=some (.arr n e)):∃ i,P.info? e=some i:=by
 unfold qy at h
 repeat' split at h
 all_goals try (simp at h; done)
 rename_i h1 _ _ _ _ h2
 simp only [Option.some.injEq,TK.arr.injEq] at h
 obtain ⟨rfl,rfl⟩:=h
 exact Wj h2
theorem zx {x:AV} {v:Value} (hs:x.Ja=true) (ha:x.isAgg=false) (h:qM ob γ G w x v):qm ob γ G w x [v]:=by
 obtain ⟨cs,h1,h2⟩:=qhP hs h
 rw [ha] at h2
 cases (qU h2)
 exact h1
theorem qMh {d:Nat} {t e:TypeId} {x:PV} (hk:qy P t=some (.slice e)) (hf:fit P d t (.pv x)=true):qp6 x=qE P e:=by
 cases d with
 | zero=>simp [fit] at hf
 | succ d=>
  unfold fit at hf
  simp only [hk] at hf
  cases x<;>simp only [Bool.and_eq_true,beq_iff_eq] at hf<;>try (simp at hf; done)
  ·exact hf.1
  ·exact hf.1.symm
theorem qKK {t:TypeId} {f u o:Nat} (hk:qa3 P t f=some (u,o)):∃ gs g,P.underlying t=some (.struct gs)∧gs[f]?=some g∧g.type=u∧g.offset=o:=by
 unfold qa3 at hk
 split at hk
 ·rename_i fs hks
  obtain ⟨gs,hu,rfl⟩:=qdE hks
  simp only [List.getElem?_map,Option.map_eq_some_iff,Prod.mk.injEq] at hk
  obtain ⟨g,hg,rfl,rfl⟩:=hk
  exact ⟨gs,g,hu,by simpa using hg,rfl,rfl⟩
 ·simp at hk
theorem qnX {t : TypeId} {f u o b off : Nat} (hk : qa3 P t f = some (u, o)) (hz : qE P u ≠ 0) :
    (Instr.fieldAt t (.pointer (some ⟨b,off,none⟩)) f).run P w=.ok (.pointer (some ⟨b,off + o,none⟩)) w:=by
 obtain ⟨gs,g,hu,hg,rfl,rfl⟩:=qKK hk
 simp only [Instr.fieldAt,Sem.run_bind,run_underlying hu,Result.andThen_ok,hg,Instr.sureAddr,Sem.run_pure,fieldPlace,Zt (qWv hz),if_neg hz,Wl]
theorem qdW {t e : TypeId} {n k b off : Nat} {kd : IntKind} (hu : P.underlying t = some (.array n e)) (he : ∃ i, P.info? e = some i) (hkn : k < n) :
    (Instr.indexAt t (.pointer (some ⟨b,off,none⟩)) (.int kd k)).run P w=.ok (.pointer (some ⟨b,off + k * qE P e,none⟩)) w:=by
 simp only [Instr.indexAt,Sem.run_bind,Vq,Result.andThen_ok,run_underlying hu,Instr.sureAddr,Sem.run_pure]
 rw [if_pos (by omega)]
 simp only [Sem.run_bind,Zt he,Result.andThen_ok,Int.toNat_natCast,Wl,Sem.run_pure]
theorem qrZ {t e : TypeId} {n cap k b off : Nat} {kd : IntKind} (hk : qy P t = some (.slice e)) (hkn : k < n) :
    (Instr.indexAt t (.slice (some ⟨b,off,none⟩) n cap) (.int kd k)).run P w=.ok (.pointer (some ⟨b,off + k * qE P e,none⟩)) w:=by
 simp only [Instr.indexAt,Sem.run_bind,Vq,Result.andThen_ok,run_underlying (zC hk),Sem.run_pure]
 rw [if_pos (by omega)]
 simp only [Sem.run_bind,Zt (vT hk),Result.andThen_ok,Int.toNat_natCast,Wl,Sem.run_pure]
theorem qYw (bs:List UInt8) (i:Nat):(ByteArray.mk bs.toArray)[i]?=bs[i]?:=by
 by_cases h:i < (ByteArray.mk bs.toArray).size
 ·rw [ByteArray.getElem?_lt' _ _ h]
  have h':i < bs.length:=by simpa [ByteArray.size] using h
  rw [List.getElem?_eq_getElem h']
  rfl
 ·rw [ByteArray.getElem?_ge' _ _ h]
  have h':¬ i < bs.length:=by simpa [ByteArray.size] using h
  rw [List.getElem?_eq_none (by omega)]
theorem qjQ (bs:List UInt8) (a b:Nat):(ByteArray.mk bs.toArray).extract a b=⟨((bs.take b).drop a).toArray⟩:=by
 apply ByteArray.ext
 rw [ByteArray.data_extract]
 apply Array.ext'
 simp [List.extract_eq_take_drop,List.drop_take]
theorem qB8 (H : qL ob γ G w) {mk : Bool} {an : Option Ans} {val : Operand → AV} {ρ : Operand → Value} (S : jt ob γ G w val ρ) {t f : Nat} {x : Operand} {r : AV} {ps : List Prop}
    (hs:q6 P mk an val (.fieldAddr t x f)=some (r,ps)) (hp:All ps):Kb P ob γ G w (Instr.fieldAt t (ρ x) f) r:=by
 simp only [q6] at hs
 have hx:=S x
 split at hs
 ·rename_i u o l path off hk hv
  obtain ⟨hz,hs⟩:=qO hs
  simp only [Bool.not_eq_true',beq_eq_false_iff_ne] at hz
  rw [hv] at hx
  have:=zx rfl rfl hx
  simp only [qm] at this
  obtain ⟨h1,h2⟩:=this
  simp only [List.cons.injEq,and_true] at h1
  rw [qq hs,h1]
  refine .same H (qnX hk hz) (zy rfl ?_)
  simp only [qm]; exact ⟨trivial,h2⟩
 ·rename_i u o l n path off hk hv
  obtain ⟨hz,hs⟩:=qO hs
  simp only [Bool.not_eq_true',beq_eq_false_iff_ne] at hz
  rw [hv] at hx
  have:=zx rfl rfl hx
  simp only [qm] at this
  obtain ⟨b,h1,h2⟩:=this
  simp only [List.cons.injEq,and_true] at h1
  rw [qq hs,h1]
  refine .same H (qnX hk hz) (zy rfl ?_)
  simp only [qm]; exact ⟨b,rfl,h2⟩
 ·rename_i u o y hk hv
  obtain ⟨hz,hs⟩:=qO hs
  simp only [Bool.and_eq_true,Bool.not_eq_true',beq_eq_false_iff_ne] at hz
  split at hs
  ·rename_i z hz'
   rw [hv] at hx
   have:=zx rfl rfl hx
   simp only [qm] at this
   obtain ⟨b,off,vs,h1,h2,h3,h4⟩:=this
   simp only [List.cons.injEq,and_true] at h1
   have hag:AV.isAgg (.pv y)=true:=by
    cases y<;>first | rfl | (simp [AV.at] at hz'; done)
   obtain ⟨v',_,_,h5,h6⟩:=qxQ (ob:=ob) (γ:=γ) (G:=G) (w:=w) hk hz.2 hz' (qkK (x:=.pv y) hag (by simpa only [qm] using h2))
   have hin:All (AV.inR [f] (.pv y)):=by
    unfold qa3 at hk
    split at hk
    ·rename_i hks
     simp only [zj,Bool.and_eq_true] at hz
     obtain ⟨d',⟨xs,hxs,_⟩ | ⟨xs,hxs,_⟩⟩:=qjV hks hz.2.2
     ·rw [hxs]; simp only [AV.inR]; split<;>trivial
     ·cases hxs
    ·simp at hk
   obtain ⟨c,d,e,rfl,h7,h8⟩:=qeQ (ob:=ob) (γ:=γ) [f] (.pv y) (.pv z) o vs hz' h6 hin (by simpa only [qm] using h2)
   rw [qq hs,h1]
   refine .same H (qnX hk hz.1) (zy rfl ?_)
   simp only [qm] at h8 ⊢
   exact ⟨b,off + o,d,rfl,h8,by rw [← h7]; exact qbD h3,by rw [← h7]; exact qwp h4 (by simp)⟩
  ·simp at hs
 ·simp at hs
theorem qAQ (H : qL ob γ G w) {mk : Bool} {an : Option Ans} {val : Operand → AV} {ρ : Operand → Value} (S : jt ob γ G w val ρ) {t : Nat} {x i : Operand} {r : AV} {ps : List Prop}
    (hs:q6 P mk an val (.indexAddr t x i)=some (r,ps)) (hp:All ps):Kb P ob γ G w (Instr.indexAt t (ρ x) (ρ i)) r:=by
 simp only [q6] at hs
 have hx:=S x
 have hi:=S i
 split at hs
 ·rename_i e y n hk hv hn
  obtain ⟨kd,hi⟩:=WD hn hi
  obtain ⟨z,p1,p2,h1,h2,hp1,hp2⟩:=qJ hs hp
  obtain ⟨hsz,h2⟩:=qO h2
  simp only [beq_iff_eq] at hsz
  rw [hv] at hx
  have hy:=zx rfl (by cases y<;>first | rfl | (obtain ⟨_,h⟩:=qd0 h1 hp1; simp [PV.zl] at h)) hx
  simp only [qm] at hy
  obtain ⟨h0,h3⟩:=qd0 h1 hp1
  obtain ⟨b,off,cap,ds,h4,h5,h6,h7⟩:=qYl hy h3
  simp only [List.cons.injEq,and_true] at h4
  rw [qq h2,h4,hi,show n=((n.toNat:Nat):Int) by omega]
  refine .same H (qrZ hk (qyy h3)) (zy rfl ?_)
  simp only [qm]
  rw [← hsz]
  exact ⟨b,_,ds,rfl,h5,h6,h7⟩
 ·rename_i e l n m hk hv hn
  obtain ⟨kd,hi⟩:=WD hn hi
  obtain ⟨k,p1,p2,h1,h2,hp1,hp2⟩:=qJ hs hp
  obtain ⟨rfl,hkn⟩:=qaj h1 hp1
  rw [hv] at hx
  have:=zx rfl rfl hx
  simp only [qm] at this
  obtain ⟨a,cap,h3,h4,h5⟩:=this
  simp only [List.cons.injEq,and_true] at h3
  obtain ⟨b,rfl⟩:∃ b,a=some ⟨b,0,none⟩:=by
   rcases h5 with ⟨fz,sz,x,_,_,h1,_⟩ | ⟨xs,b,h1,_⟩
   ·obtain ⟨b,h1,_⟩:=h1 (Nat.ne_of_gt (Nat.lt_of_lt_of_le (Nat.zero_lt_of_lt hkn) h4)); exact ⟨b,h1⟩
   ·exact ⟨b,h1⟩
  rw [qq h2,h3,hi]
  refine .same H (qrZ hk hkn) (zy rfl ?_)
  simp only [qm]
  refine ⟨b,by simp,?_⟩
  rcases h5 with ⟨fz,sz,s,h6,h7,h8,h9⟩ | ⟨xs,b',e,h6,h7,h8⟩
  ·refine .inl ⟨fz,sz,s,h6,h7,fun h=>?_⟩
   obtain ⟨b2,e,h8⟩:=h8 (Nat.ne_of_gt (Nat.lt_of_lt_of_le (Nat.zero_lt_of_lt hkn) h4))
   cases e
   exact h8 h
  ·cases e
   exact .inr ⟨xs,h6,h7,by rw [← h8]⟩
 ·rename_i n e l path off m hk hv hn
  obtain ⟨kd,hi⟩:=WD hn hi
  obtain ⟨k,p1,p2,h1,h2,hp1,hp2⟩:=qJ hs hp
  obtain ⟨rfl,hkn⟩:=qaj h1 hp1
  rw [hv] at hx
  have:=zx rfl rfl hx
  simp only [qm] at this
  obtain ⟨h3,h4⟩:=this
  simp only [List.cons.injEq,and_true] at h3
  rw [qq h2,h3,hi]
  refine .same H (qdW (qzz hk) (qGF hk) hkn) (zy rfl ?_)
  simp only [qm]; exact ⟨trivial,h4⟩
 ·rename_i n l path off m hk hv hn
  obtain ⟨kd,hi⟩:=WD hn hi
  obtain ⟨k,p1,p2,h1,h2,hp1,hp2⟩:=qJ hs hp
  obtain ⟨rfl,hkn⟩:=qaj h1 hp1
  rw [hv] at hx
  have:=zx rfl rfl hx
  simp only [qm] at this
  obtain ⟨h3,h4⟩:=this
  simp only [List.cons.injEq,and_true] at h3
  obtain ⟨e,hu,he,hse⟩:=Vm hk
  rw [qq h2,h3,hi]
  refine .same H (qdW hu (Wj he) hkn) (zy rfl ?_)
  simp only [qm,hse,Nat.mul_one]; exact ⟨trivial,h4⟩
 ·rename_i n l path off m hk hv hn
  obtain ⟨kd,hi⟩:=WD hn hi
  obtain ⟨k,p1,p2,h1,h2,hp1,hp2⟩:=qJ hs hp
  obtain ⟨rfl,hkn⟩:=qaj h1 hp1
  rw [hv] at hx
  have:=zx rfl rfl hx
  simp only [qm] at this
  obtain ⟨h3,h4⟩:=this
  simp only [List.cons.injEq,and_true] at h3
  obtain ⟨e,hu,he,hse⟩:=qfj hk
  rw [qq h2,h3,hi]
  refine .same H (qdW hu (Wj he) hkn) (zy rfl ?_)
  simp only [qm,hse,Nat.mul_one]; exact ⟨trivial,h4⟩
 ·rename_i n m bs j hk hv hn
  obtain ⟨kd,hi⟩:=WD hn hi
  obtain ⟨hnm,hs⟩:=qO hs
  simp only [beq_iff_eq] at hnm; subst hnm
  obtain ⟨k,p1,p2,h1,h2,hp1,hp2⟩:=qJ hs hp
  obtain ⟨rfl,hkn⟩:=qaj h1 hp1
  rw [hv] at hx
  have:=zx rfl rfl hx
  simp only [qm,qG] at this
  obtain ⟨b,off,vs,h3,rfl,h4,h5⟩:=this
  simp only [List.cons.injEq,and_true] at h3
  obtain ⟨e,hu,he,hse⟩:=qfj hk
  rw [qq h2,h3,hi]
  refine .same H (qdW hu (Wj he) hkn) (zy rfl ?_)
  simp only [qm,qG,hse,Nat.mul_one,u32]
  refine ⟨b,off + k,_,rfl,rfl,fun j hj=>?_,fun j hj=>?_⟩
  ·simp at hj; subst hj
   rw [Nat.add_zero,h4 k (by simpa using hkn),qza hkn]; rfl
  ·simp at hj; subst hj
   exact h5 k (by simpa using hkn)
 ·rename_i n m bs j hk hv hn
  obtain ⟨kd,hi⟩:=WD hn hi
  obtain ⟨hnm,hs⟩:=qO hs
  simp only [beq_iff_eq] at hnm; subst hnm
  obtain ⟨k,p1,p2,h1,h2,hp1,hp2⟩:=qJ hs hp
  obtain ⟨rfl,hkn⟩:=qaj h1 hp1
  rw [hv] at hx
  have:=zx rfl rfl hx
  simp only [qm,qG] at this
  obtain ⟨b,off,vs,h3,rfl,h4,h5⟩:=this
  simp only [List.cons.injEq,and_true] at h3
  obtain ⟨e,hu,he,hse⟩:=Vm hk
  rw [qq h2,h3,hi]
  refine .same H (qdW hu (Wj he) hkn) (zy rfl ?_)
  simp only [qm,qG,hse,Nat.mul_one,u8]
  refine ⟨b,off + k,_,rfl,rfl,fun j hj=>?_,fun j hj=>?_⟩
  ·simp at hj; subst hj
   rw [Nat.add_zero,h4 k (by simpa using hkn),qrX hkn]; rfl
  ·simp at hj; subst hj
   exact h5 k (by simpa using hkn)
 ·simp at hs
end g
end Go.Rx
end
noncomputable section
namespace Go.Rx
section g
variable {P:Program} {ob:Ob} {γ:Hm} {G:Gh} {w:World}
theorem qLZ (H : qL ob γ G w) {mk : Bool} {an : Option Ans} {val : Operand → AV} {ρ : Operand → Value} (S : jt ob γ G w val ρ) {t : Nat} {x i : Operand} {r : AV} {ps : List Prop}
    (hs:q6 P mk an val (.index t x i)=some (r,ps)) (hp:All ps):Kb P ob γ G w (Instr.index t (ρ x) (ρ i)) r:=by
 simp only [q6] at hs
 have hx:=S x
 have hi:=S i
 split at hs
 ·rename_i bs n hk hv hn
  obtain ⟨kd,hi⟩:=WD hn hi
  obtain ⟨z,h1,rfl⟩:=qhk hs
  obtain ⟨h0,h2⟩:=qd0 h1 hp
  rw [hv,qaK] at hx
  simp only [PV.zl,Option.map_eq_some_iff] at h2
  obtain ⟨c,hc,rfl⟩:=h2
  refine .same H (v:=.int .u8 c.toNat) ?_ (by simp only [u8]; exact jr.2 rfl)
  rw [hx,hi]
  simp only [Instr.index,Sem.run_bind,Vq,Result.andThen_ok,run_underlying (Xa hk)]
  rw [if_pos h0,qYw,hc]
  rfl
 ·rename_i n e y m hk hn
  obtain ⟨kd,hi⟩:=WD hn hi
  obtain ⟨hf,hs⟩:=qO hs
  obtain ⟨k,p1,p2,h1,h2,hp1,hp2⟩:=qJ hs hp
  obtain ⟨rfl,hkn⟩:=qaj h1 hp1
  have ha:=Jh h2
  rw [hi]
  obtain ⟨v',h3,h4⟩:=qA0 (kd:=kd) hk hf ha hkn hx
  exact .same H h3 h4
 ·rename_i n m bs j hk hv hn
  obtain ⟨kd,hi⟩:=WD hn hi
  obtain ⟨hnm,hs⟩:=qO hs
  simp only [beq_iff_eq] at hnm; subst hnm
  obtain ⟨k,p1,p2,h1,h2,hp1,hp2⟩:=qJ hs hp
  obtain ⟨rfl,hkn⟩:=qaj h1 hp1
  obtain ⟨e,hu,he,hse⟩:=Vm hk
  rw [hv] at hx
  obtain ⟨cs,hr,ho⟩:=QH.1 hx
  simp only [qG] at hr
  subst hr
  have ho':=VC ho
  rw [qq h2,ho',hi]
  exact .same H (qks hu he rfl hse hkn (qrX hkn)) (by simp only [u8]; exact jr.2 rfl)
 ·rename_i n m bs j hk hv hn
  obtain ⟨kd,hi⟩:=WD hn hi
  obtain ⟨hnm,hs⟩:=qO hs
  simp only [beq_iff_eq] at hnm; subst hnm
  obtain ⟨k,p1,p2,h1,h2,hp1,hp2⟩:=qJ hs hp
  obtain ⟨rfl,hkn⟩:=qaj h1 hp1
  obtain ⟨e,hu,he,hse⟩:=qfj hk
  rw [hv] at hx
  obtain ⟨cs,hr,ho⟩:=QH.1 hx
  simp only [qG] at hr
  subst hr
  have ho':=VC ho
  rw [qq h2,ho',hi]
  exact .same H (qks hu he rfl hse hkn (qza hkn)) (by simp only [u32]; exact jr.2 rfl)
 ·simp at hs
theorem qLw (H : qL ob γ G w) {mk : Bool} {an : Option Ans} {val : Operand → AV} {ρ : Operand → Value} (S : jt ob γ G w val ρ) {t : Nat} {x : Operand} {lo hi : Option Operand} {r : AV} {ps : List Prop}
    (hs:q6 P mk an val (.slice t x lo hi none)=some (r,ps)) (hp:All ps):Kb P ob γ G w (Instr.sliceAt t (ρ x) (lo.map ρ) (hi.map ρ) none) r:=by
 simp only [q6] at hs
 have hx:=S x
 split at hs
 ·rename_i bs hk hv
  obtain ⟨⟨a,b⟩,p1,p2,h1,h2,hp1,hp2⟩:=qJ hs hp
  have hb:=qcL (P:=P) (f:=false) S h1 hp1 (Nat.le_refl _)
  rw [hv,qaK] at hx
  rw [qq h2,hx]
  refine .same H (v:=.string ⟨((bs.take b).drop a).toArray⟩) ?_ (qaK.2 rfl)
  simp only [Instr.sliceAt,Sem.run_bind,run_underlying (Xa hk),Result.andThen_ok,Instr.slice,Option.map_none,Option.isSome_none,Bool.false_eq_true,if_false,Sem.run_pure,
   show (ByteArray.mk bs.toArray).size=bs.length from rfl,hb.1,qjQ]
 ·rename_i e y hk hv
  obtain ⟨hc,hs⟩:=qO hs
  simp only [Bool.and_eq_true,zj] at hc
  obtain ⟨⟨a,b⟩,p1,p2,h1,h2,hp1,hp2⟩:=qJ hs hp
  rw [hv] at hx
  obtain ⟨cs,hr,ho⟩:=QH.1 hx
  have hna:AV.isAgg (.pv y)=false:=by cases y<;>first | rfl | (simp [PV.JY] at hc)
  rw [hna] at ho
  have hcs:=qU ho
  subst hcs
  obtain ⟨ad,cap,hv2,hcap⟩:∃ ad cap,ρ x=.slice ad y.len cap∧y.len≤cap:=by
   cases y<;>simp only [PV.JY,Bool.false_eq_true,false_and] at hc
   ·simp only [qG] at hr
    obtain ⟨ad,cap,h,h',_⟩:=hr
    simp only [List.cons.injEq,and_true] at h
    exact ⟨ad,cap,h,h'⟩
   ·simp only [qG] at hr
    obtain ⟨ad,cap,h,h',_⟩:=hr
    simp only [List.cons.injEq,and_true] at h
    exact ⟨ad,cap,h,h'⟩
  have hb:=qcL (P:=P) (f:=true) S h1 hp1 hcap
  rw [hv2] at hr
  have hsub:=qMP hc.1 hr hb.2.1 hb.2.2
  rw [qMh hk hc.2.2] at hsub
  rw [qq h2,hv2]
  refine .same H ?_ (zy (by cases y<;>first | rfl | (simp [PV.JY] at hc)) (by simpa only [qm] using hsub))
  simp only [Instr.sliceAt,Sem.run_bind,run_underlying (zC hk),Result.andThen_ok,Instr.slice,Option.map_none,hb.1,Zt (vT hk),Sem.run_pure]
 ·rename_i e hk hv
  obtain ⟨⟨a,b⟩,p1,p2,h1,h2,hp1,hp2⟩:=qJ hs hp
  have hb:=qcL (P:=P) (f:=true) S h1 hp1 (Nat.le_refl _)
  have ha:a=0:=by omega
  have hb':b=0:=by omega
  subst ha; subst hb'
  rw [hv,jT] at hx
  rw [qq h2,hx]
  refine .same H (v:=.slice none 0 0) ?_ (jT.2 rfl)
  simp only [Instr.sliceAt,Sem.run_bind,run_underlying (zC hk),Result.andThen_ok,Instr.slice,Option.map_none,hb.1,Zt (vT hk),Sem.run_pure]
  rfl
 ·rename_i n m bs hk hv
  obtain ⟨hc,h9⟩:=qO hs
  simp only [Bool.and_eq_true,beq_iff_eq,Option.isNone_iff_eq_none] at hc
  obtain ⟨⟨rfl,rfl⟩,rfl⟩:=hc
  obtain ⟨e,hu,he,hse⟩:=Vm hk
  rw [hv] at hx
  obtain ⟨c,hr,ho⟩:=hx
  simp only [qm] at hr
  obtain ⟨b,off,vs,rfl,h1,h2,h3⟩:=hr
  have hcs:=qU ho
  simp only [List.cons.injEq,and_true] at hcs
  simp only [qG] at h1
  subst h1
  rw [qq h9]
  rw [show ρ x=.pointer (some ⟨b,off,none⟩) from hcs.symm]
  refine .same H (v:=.slice (some ⟨b,off,none⟩) n n) ?_ (zy rfl ?_)
  ·have hb:(Instr.sliceBounds false n n none none none).run P w=.ok (0,n,n) w:=by simp [Instr.sliceBounds]
   simp only [Instr.sliceAt,Sem.run_bind,run_underlying hu,Result.andThen_ok,Instr.sureAddr,Sem.run_pure,Option.map_none,hb,Zt (Wj he),hse]
   split<;>simp [Addr.add]
  ·simp only [qm,qG]
   refine ⟨some ⟨b,off,none⟩,n,by simp,by simp,.inr ⟨b,off,rfl,by simpa using h2,by simpa using h3⟩⟩
 ·simp at hs
theorem qJi (H : qL ob γ G w) {mk : Bool} {an : Option Ans} {val : Operand → AV} {ρ : Operand → Value} (S : jt ob γ G w val ρ) {t : Nat} {x : Operand} {lo : Option Operand} {hi mx : Operand} {r : AV} {ps : List Prop}
    (hs:q6 P mk an val (.slice t x lo (some hi) (some mx))=some (r,ps)) (hp:All ps):Kb P ob γ G w (Instr.sliceAt t (ρ x) (lo.map ρ) (some (ρ hi)) (some (ρ mx))) r:=by
 simp only [q6] at hs
 have hx:=S x
 split at hs
 case h_2=>simp at hs
 rename_i e y m hk hv hm
 obtain ⟨hc,hs⟩:=qO hs
 simp only [Bool.and_eq_true,zj] at hc
 obtain ⟨⟨a,b⟩,p1,p2,h1,h2,hp1,hp2⟩:=qJ hs hp
 obtain ⟨rfl,hbm,hml⟩:=zG h2 hp2
 obtain ⟨hab,hbn,hlo,hlo0,hhi,hhi0⟩:=qxO h1 hp1
 rw [hv] at hx
 obtain ⟨cs,hr,ho⟩:=QH.1 hx
 have hna:AV.isAgg (.pv y)=false:=by cases y<;>first | rfl | (simp [PV.JY] at hc)
 rw [hna] at ho
 have hcs:=qU ho
 subst hcs
 obtain ⟨ad,cap,hv2,hcap⟩:∃ ad cap,ρ x=.slice ad y.len cap∧y.len≤cap:=by
  cases y<;>simp only [PV.JY,Bool.false_eq_true,false_and] at hc
  ·simp only [qG] at hr
   obtain ⟨ad,cap,h,h',_⟩:=hr
   simp only [List.cons.injEq,and_true] at h
   exact ⟨ad,cap,h,h'⟩
  ·simp only [qG] at hr
   obtain ⟨ad,cap,h,h',_⟩:=hr
   simp only [List.cons.injEq,and_true] at h
   exact ⟨ad,cap,h,h'⟩
 rw [hv2] at hr
 obtain ⟨kh,hh⟩:∃ k,ρ hi=.int k b:=by
  obtain ⟨k,hk⟩:=hhi (val hi) rfl
  have:=S hi; rw [hk] at this; exact ⟨k,jr.1 this⟩
 obtain ⟨km,hmm⟩:=WD hm (S mx)
 obtain ⟨m',rfl⟩:∃ m':Nat,m=m':=⟨m.toNat,by omega⟩
 have hsub:=qJo (m:=m') hc.1 hr hab hbn (by omega)
 rw [qMh hk hc.2.2] at hsub
 rw [hv2,hh,hmm]
 have hb:(Instr.sliceBounds true y.len cap (lo.map ρ) (some (.int kh b)) (some (.int km m'))).run P w=.ok (a,b,m') w:=by
  have e1:(Instr.sliceBound (.int km m') cap .slice3Acap).run P w=.ok m' w:=QZ (by omega)
  have e2:(Instr.sliceBound (.int kh b) m' .slice3B).run P w=.ok b w:=QZ (by omega)
  cases lo with
  | none=>
   have ha:a=0:=hlo0 rfl
   subst ha
   simp [Instr.sliceBounds,e1,e2]
  | some z=>
   obtain ⟨k,hk⟩:=hlo (val z) rfl
   have hz:=S z
   rw [hk] at hz
   have hz:=jr.1 hz
   have e3:(Instr.sliceBound (.int k a) b .slice3C).run P w=.ok a w:=QZ (by omega)
   simp [Instr.sliceBounds,e1,e2,e3,hz]
 refine .same H ?_ (zy (by cases y<;>first | rfl | (simp [PV.JY] at hc)) (by simpa only [qm] using hsub))
 simp only [Instr.sliceAt,Sem.run_bind,run_underlying (zC hk),Result.andThen_ok,Instr.slice,hb,Zt (vT hk),Sem.run_pure]
theorem qxF {n:Nat} {bs:List UInt8} (h:n≤bs.length):(qN6 n bs).toList=bs.take n:=by
 apply List.ext_getElem
 ·simp; omega
 ·intro i h1 h2
  simp only [Vector.length_toList] at h1
  simp [qN6,List.getD_eq_getElem?_getD,List.getElem?_eq_getElem (show i < bs.length by omega)]
theorem qFT (H : qL ob γ G w) {mk : Bool} {an : Option Ans} {val : Operand → AV} {ρ : Operand → Value} (S : jt ob γ G w val ρ) {t : Nat} {x : Operand} {r : AV} {ps : List Prop}
    (hs:q6 P mk an val (.sliceToArrayPointer t x)=some (r,ps)) (hp:All ps):Kb P ob γ G w (Instr.arrayAt t (ρ x)) r:=by
 simp only [q6] at hs
 have hx:=S x
 split at hs
 ·rename_i n bs hk hv
  obtain ⟨rfl,h1,h2⟩:=zG hs hp
  rw [hv] at hx
  have:=zx rfl rfl hx
  simp only [qm,qG] at this
  obtain ⟨ad,cap,h3,h4,h5⟩:=this
  simp only [List.cons.injEq,and_true] at h3
  obtain ⟨e,hu,he,hse⟩:=Vm hk
  rcases h5 with rfl | ⟨b,off,rfl,h6,h7⟩
  ·simp at h1; omega
  ·rw [h3]
   refine .same H (v:=.pointer (some ⟨b,off,none⟩)) ?_ (zy rfl ?_)
   ·simp only [Instr.arrayAt,Sem.run_bind,run_underlying hu,Result.andThen_ok]
    rw [if_neg (by omega)]
    rfl
   ·simp only [qm,qG]
    refine ⟨b,off,_,rfl,rfl,?_,?_⟩
    ·rw [qxF h1]
     intro j hj
     simp at hj
     rw [h6 j (by simp; omega)]
     simp [List.getElem?_take]
     omega
    ·rw [qxF h1]
     intro j hj
     simp at hj
     exact h7 j (by omega)
 ·simp at hs
theorem qhp {t:TypeId} {k:TK} (h:qy P t=some k) (hk:k≠.iface):∃ d,P.underlying t=some d∧∀ ms,d≠.interface ms:=by
 obtain ⟨d,hd⟩:=qV0 h
 refine ⟨d,hd,fun ms e=>?_⟩
 subst e
 simp [qy,hd] at h
 exact hk h.symm
theorem qze (H : qL ob γ G w) {mk : Bool} {an : Option Ans} {val : Operand → AV} {ρ : Operand → Value} (S : jt ob γ G w val ρ) {t xt : Nat} {x : Operand} {ok : Bool} {r : AV} {ps : List Prop}
    (hs:q6 P mk an val (.typeAssert x xt t ok)=some (r,ps)) (hp:All ps):Kb P ob γ G w (Instr.typeAssert (ρ x) xt t ok) r:=by
 simp only [q6] at hs
 have hx:=S x
 have hzero:∀ {z:AV},zeroOf P t=some z→∃ zv,(∀ w':World,(zeroValue t).run P w'=.ok zv w')∧zB ob γ G w [z,.pv (.b false)] [zv,.bool false]:=fun hz=>by
  obtain ⟨zv,cs,h1,h2,h3,_,_⟩:=Wd (ob:=ob) (γ:=γ) (G:=G) (w:=w) hz
  refine ⟨zv,h1,?_⟩
  simp only [zB]
  exact ⟨cs,zv,_,rfl,h2,h3,[.bool false],.bool false,[],rfl,by simp [qm,qG],rfl,rfl⟩
 split at hs
 ·simp at hs
 ·rename_i k u y hni hk hv
  obtain ⟨d,hd,hnd⟩:=qhp hk hni
  rw [hv] at hx
  have:=zx rfl rfl hx
  simp only [qm] at this
  obtain ⟨c,v,h1,h2,h3⟩:=this
  simp only [List.cons.injEq,and_true] at h1
  rw [h1]
  split at hs
  ·rename_i he
   simp only [decide_eq_true_eq] at he
   rw [qq hs]
   cases ok with
   | false=>
    refine .same H (v:=v) ?_ (qeY h2 h3)
    simp only [Instr.typeAssert,Sem.run_bind,run_underlying hd,Result.andThen_ok]
    cases d<;>first | exact absurd rfl (hnd _) | (simp [he]; done)
   | true=>
    refine .same H (v:=.tuple #[v,.bool true]) ?_ ?_
    ·simp only [Instr.typeAssert,Sem.run_bind,run_underlying hd,Result.andThen_ok]
     cases d<;>first | exact absurd rfl (hnd _) | (simp [he]; done)
    ·exact ⟨[v,.bool true],rfl,by simp only [zB]; exact ⟨c,v,_,rfl,h2,h3,[.bool true],.bool true,[],rfl,by simp [qm,qG],rfl,rfl⟩⟩
  ·rename_i he
   simp only [decide_eq_false_iff_not] at he
   split at hs
   ·rename_i z hz
    obtain ⟨zv,h4,h5⟩:=hzero hz
    rw [qq hs]
    refine .same H (v:=.tuple #[zv,.bool false]) ?_ ⟨_,rfl,h5⟩
    simp only [Instr.typeAssert,Sem.run_bind,run_underlying hd,Result.andThen_ok]
    cases d<;>first | exact absurd rfl (hnd _) | (simp [he,h4]; done)
   ·simp at hs
 ·rename_i k hni hk hv
  obtain ⟨d,hd,hnd⟩:=qhp hk hni
  rw [hv,quK] at hx
  rw [hx]
  split at hs
  ·rename_i z hz
   obtain ⟨zv,h4,h5⟩:=hzero hz
   rw [qq hs]
   refine .same H (v:=.tuple #[zv,.bool false]) ?_ ⟨_,rfl,h5⟩
   simp only [Instr.typeAssert,Sem.run_bind,run_underlying hd,Result.andThen_ok]
   cases d<;>first | exact absurd rfl (hnd _) | (simp [h4]; done)
  ·simp at hs
 ·simp at hs
theorem qha (t ty : TypeId) {d : TypeDesc} {v : Value} {n : Int} (hu : P.underlying t = some d) (h : (∃ s, d = .string ∧ v = .string s ∧ n = s.size) ∨ (∃ e a m c, d = .slice e ∧ v = .slice a m c ∧ n = m) ∨ (∃ k e, d = .map k e ∧ v = .map none ∧ n = 0)) :
    (Builtin.len_ #[t] ty #[v]).run P w=.ok (.int .i64 n) w:=by
 rcases h with ⟨s,rfl,rfl,rfl⟩ | ⟨e,a,m,c,rfl,rfl,rfl⟩ | ⟨k,e,rfl,rfl,rfl⟩<;>simp [Builtin.len_,run_underlying hu,goInt]
theorem qNS (H : qL ob γ G w) {mk : Bool} {an : Option Ans} {val : Operand → AV} {ρ : Operand → Value} (S : jt ob γ G w val ρ) {c : Call} {ty : TypeId} {r : AV} {ps : List Prop}
    (hs:q6 P mk an val (.call c)=some (r,ps)) (hp:All ps):qcQ P ob γ G w (do let d ← resolve ρ c ty; invoke d.target d.args) r:=by
 simp only [q6] at hs
 have hmap:∀ {l:List AV},c.args.toList.map val=l→∃ vs:List Value,c.args.map ρ=vs.toArray∧vs.length=l.length∧∀ (i:Nat) (x:AV) (v:Value),l[i]?=some x→vs[i]?=some v→qM ob γ G w x v:=by
  rintro _ rfl
  refine ⟨c.args.toList.map ρ,by apply Array.ext'; simp,by simp,fun i x v h1 h2=>?_⟩
  simp only [List.getElem?_map,Option.map_eq_some_iff] at h1 h2
  obtain ⟨o,ho,rfl⟩:=h1
  obtain ⟨o',ho',rfl⟩:=h2
  rw [ho] at ho'; cases ho'
  exact S o
 have htypes:∀ {k:TK},c.argTypes.toList.map (qy P)=[some k]→∃ t,c.argTypes=#[t]∧qy P t=some k:=by
  intro k h
  cases hl:c.argTypes.toList with
  | nil=>simp [hl] at h
  | cons t l=>
   cases l with
   | nil=>simp [hl] at h; exact ⟨t,Array.ext' hl,h⟩
   | cons=>simp [hl] at h
 have one:∀ {x:AV},c.args.toList.map val=[x]→∃ v,c.args.map ρ=#[v]∧qM ob γ G w x v:=fun h=>by
  obtain ⟨vs,h1,h2,h3⟩:=hmap h
  obtain ⟨v,rfl⟩:=List.length_eq_one_iff.1 h2
  exact ⟨v,h1,h3 0 _ v rfl rfl⟩
 have two:∀ {x y:AV},c.args.toList.map val=[x,y]→∃ v u,c.args.map ρ=#[v,u]∧qM ob γ G w x v∧qM ob γ G w y u:=fun h=>by
  obtain ⟨vs,h1,h2,h3⟩:=hmap h
  obtain ⟨v,u,rfl⟩:∃ v u,vs=[v,u]:=by
   match vs,h2 with
   | [v,u],_=>exact ⟨v,u,rfl⟩
  exact ⟨v,u,h1,h3 0 _ v rfl rfl,h3 1 _ u rfl rfl⟩
 split at hs
 ·rename_i hc
  have fin:∀ {t:TypeId} {v:Value} {n:Nat},c.argTypes=#[t]→c.args.map ρ=#[v]→(∀ ty,(Builtin.len_ #[t] ty #[v]).run P w=.ok (.int .i64 n) w)→qcQ P ob γ G w (do let d ← resolve ρ c ty; invoke d.target d.args) (.pv (.i .i64 n)):=fun h1 h2 h3=>by
   refine .same H (v:=.int .i64 _) ?_ (jr.2 rfl)
   simp only [resolve,hc,Sem.run_bind,Sem.run_pure,Result.andThen_ok,invoke,builtin,h1,h2,h3]
  split at hs
  ·rename_i ht ha
   obtain ⟨t,h1,h2⟩:=htypes ht
   obtain ⟨v,h3,h4⟩:=one ha
   rw [qq hs]
   rw [qaK] at h4; subst h4
   exact fin h1 h3 fun ty=>qha t ty (Xa h2) (.inl ⟨_,rfl,rfl,rfl⟩)
  ·rename_i ht ha
   obtain ⟨t,h1,h2⟩:=htypes ht
   obtain ⟨v,h3,h4⟩:=one ha
   rw [qq hs]
   have:=zx rfl rfl h4
   simp only [qm,qG] at this
   obtain ⟨a,cap,h5,_⟩:=this
   simp only [List.cons.injEq,and_true] at h5
   subst h5
   exact fin h1 h3 fun ty=>qha t ty (zC h2) (.inr (.inl ⟨_,_,_,_,rfl,rfl,rfl⟩))
  ·rename_i ht ha
   obtain ⟨t,h1,h2⟩:=htypes ht
   obtain ⟨v,h3,h4⟩:=one ha
   rw [qq hs]
   have:=zx rfl rfl h4
   simp only [qm,qG] at this
   obtain ⟨a,cap,h5,_⟩:=this
   simp only [List.cons.injEq,and_true] at h5
   subst h5
   exact fin h1 h3 fun ty=>qha t ty (zC h2) (.inr (.inl ⟨_,_,_,_,rfl,rfl,rfl⟩))
  ·rename_i ht ha
   obtain ⟨t,h1,h2⟩:=htypes ht
   obtain ⟨v,h3,h4⟩:=one ha
   rw [qq hs]
   have:=zx rfl rfl h4
   simp only [qm] at this
   obtain ⟨b,cap,h5,_⟩:=this
   simp only [List.cons.injEq,and_true] at h5
   subst h5
   exact fin h1 h3 fun ty=>qha t ty (zC h2) (.inr (.inl ⟨_,_,_,_,rfl,rfl,rfl⟩))
  ·rename_i ht ha
   obtain ⟨t,h1,h2⟩:=htypes ht
   obtain ⟨v,h3,h4⟩:=one ha
   rw [qq hs]
   rw [jT] at h4; subst h4
   exact fin (n:=0) h1 h3 fun ty=>qha t ty (zC h2) (.inr (.inl ⟨_,_,_,_,rfl,rfl,rfl⟩))
  ·rename_i ht ha
   obtain ⟨t,h1,h2⟩:=htypes ht
   obtain ⟨v,h3,h4⟩:=one ha
   rw [qq hs]
   rw [qnj] at h4; subst h4
   exact fin (n:=0) h1 h3 fun ty=>qha t ty (V9 h2) (.inr (.inr ⟨_,_,rfl,rfl,rfl⟩))
  ·rename_i ht ha
   obtain ⟨t,h1,h2⟩:=htypes ht
   obtain ⟨v,h3,h4⟩:=one ha
   rw [qq hs]
   simp only [qM,qm,AV.isAgg] at h4
   obtain ⟨cs,⟨a,cap,rfl,_⟩,ho⟩:=h4
   cases (qU ho)
   exact fin (n:=0) h1 h3 fun ty=>qha t ty (zC h2) (.inr (.inl ⟨_,_,_,_,rfl,rfl,rfl⟩))
  ·simp at hs
 ·rename_i hc
  split at hs
  ·rename_i a b ha
   obtain ⟨v,u,h1,h2,h3⟩:=two ha
   rw [jr] at h2 h3; subst h2; subst h3
   rw [qq hs]
   refine .same H (v:=.int .i64 (if b < a then b else a)) ?_ (jr.2 rfl)
   simp [resolve,hc,invoke,builtin,h1,Builtin.min_,Builtin.min2]
  ·simp at hs
 ·rename_i hc
  split at hs
  ·rename_i a b ha
   obtain ⟨v,u,h1,h2,h3⟩:=two ha
   rw [jr] at h2 h3; subst h2; subst h3
   rw [qq hs]
   refine .same H (v:=.int .i64 (if a < b then b else a)) ?_ (jr.2 rfl)
   simp [resolve,hc,invoke,builtin,h1,Builtin.max_,Builtin.max2]
  ·simp at hs
 ·simp at hs
theorem qHd (H : qL ob γ G w) {mk : Bool} {an : Option Ans} {val : Operand → AV} {ρ : Operand → Value} (S : jt ob γ G w val ρ) {o : Oper} {r : AV} {ps : List Prop}
    (hs:q6 P mk an val o.op=some (r,ps)) (hp:All ps):qcQ P ob γ G w (execOp ρ o) r:=by
 cases ho:o.op<;>rw [ho] at hs
 case move x=>
  simp only [q6] at hs
  rw [qq hs]
  exact .same H (by simp only [execOp,ho]; rfl) (S x)
 case assign x=>
  simp only [q6] at hs
  rw [qq hs]
  exact .same H (by simp only [execOp,ho]; rfl) (S x)
 case pick c a b=>
  simp only [q6] at hs
  have hc:=S c
  split at hs
  ·rename_i x hx
   rw [hx,Kk] at hc
   have hr:r=if x then val a else val b:=by
    clear hc hx
    generalize val a=y at hs ⊢
    generalize val b=z at hs ⊢
    split at hs
    ·rw [qq hs]
     cases x<;>rfl
    ·rw [qq hs]
     cases x<;>rfl
   refine .same H (v:=if x then ρ a else ρ b) ?_ ?_
   ·simp only [execOp,ho,hc,asBool,Sem.run_bind,Sem.run_pure,Result.andThen_ok]
   ·rw [hr]; cases x
    ·exact S b
    ·exact S a
  ·simp at hs
 case binOp op t x y _=>
  simp only [q6] at hs
  obtain ⟨v,h1,h2⟩:=qBD hs hp (S x) (S y) x y
  simp only [execOp,ho]
  exact .of0 (.same H h1 h2)
 case unOp op _ x=>
  simp only [q6] at hs
  obtain ⟨v,h1,h2⟩:=qSY (P:=P) hs hp (S x)
  simp only [execOp,ho]
  exact .of0 (.same H h1 h2)
 case convert s d x=>
  simp only [q6] at hs
  simp only [execOp,ho]
  exact .of0 (qKN H hs hp (S x))
 case nilCheck x=>
  simp only [q6] at hs
  have hx:=S x
  split at hs
  ·rename_i h
   rw [h] at hx
   rw [qq hs]
   have:=zx rfl rfl hx
   simp only [qm] at this
   simp only [List.cons.injEq,and_true] at this
   exact .same H (v:=ρ x) (by simp only [execOp,ho,this.1]; rfl) hx
  ·rename_i h
   rw [h] at hx
   rw [qq hs]
   have:=zx rfl rfl hx
   simp only [qm] at this
   obtain ⟨b,h1,_⟩:=this
   simp only [List.cons.injEq,and_true] at h1
   exact .same H (v:=ρ x) (by simp only [execOp,ho,h1]; rfl) hx
  ·rename_i h
   rw [h] at hx
   rw [qq hs]
   have:=zx rfl rfl hx
   simp only [qm] at this
   obtain ⟨b,off,vs,h1,_⟩:=this
   simp only [List.cons.injEq,and_true] at h1
   exact .same H (v:=ρ x) (by simp only [execOp,ho,h1]; rfl) hx
  ·rename_i h
   rw [h] at hx
   rw [qq hs]
   have:=zx rfl rfl hx
   simp only [qm] at this
   obtain ⟨va,vc,h1,_⟩:=this
   simp only [List.cons.injEq,and_true] at h1
   exact .same H (v:=ρ x) (by simp only [execOp,ho,h1]; rfl) hx
  ·simp at hs
 case makeInterface t x=>
  simp only [q6] at hs
  split at hs
  ·simp at hs
  ·rename_i k hni hk
   obtain ⟨hf,hs⟩:=qO hs
   obtain ⟨d,hd,hnd⟩:=qhp hk hni
   rw [qq hs]
   simp only [zj,Bool.and_eq_true] at hf
   obtain ⟨cs,h1,h2⟩:=qaa hf.2 (S x)
   simp only [execOp,ho]
   refine .of0 (.same H (v:=.iface t (ρ x)) ?_ (zy rfl ?_))
   ·simp only [Instr.makeInterface,Sem.run_bind,run_underlying hd,Result.andThen_ok]
    cases d<;>first | exact absurd rfl (hnd _) | rfl
   ·simp only [qm]; exact ⟨cs,ρ x,rfl,h1,h2⟩
  ·simp at hs
 case makeFunc f a b=>
  simp only [q6] at hs
  split at hs
  ·rename_i k
   obtain ⟨hf,hs⟩:=qO hs
   simp only [Bool.and_eq_true] at hf
   rw [qq hs]
   simp only [execOp,ho]
   refine .of0 (.same H (v:=.func (.func k) (a.map ρ) (b.map ρ)) rfl (zy rfl ?_))
   simp only [qm]
   exact ⟨a.toList.map ρ,b.toList.map ρ,by congr 2<;>(apply Array.ext'; simp),qpc S _ hf.1,qpc S _ hf.2⟩
  ·simp at hs
 case extract x i=>
  simp only [q6] at hs
  have hx:=S x
  split at hs
  ·rename_i xs h
   rw [h] at hx
   obtain ⟨vs,h1,h2⟩:=hx
   obtain ⟨v,h3,h4⟩:=qys h2 (Jh hs)
   simp only [execOp,ho]
   exact .of0 (.same H (v:=v) (by simp [Instr.extract,h1,h3]) h4)
  ·simp at hs
 case build t parts=>
  simp only [q6] at hs
  split at hs
  ·rename_i z hz
   obtain ⟨hag,hs⟩:=qO hs
   obtain ⟨v,h1,h2⟩:=qLg S hz hag hs hp
   simp only [execOp,ho]
   exact .of0 (.same H h1 h2)
  ·simp at hs
 case buildSlice t n parts=>
  simp only [q6] at hs
  split at hs
  ·rename_i e hk
   obtain ⟨hc,hs⟩:=qO hs
   simp only [Bool.and_eq_true,decide_eq_true_eq,beq_iff_eq] at hc
   obtain ⟨⟨⟨⟨_,hd⟩,hn⟩,hm⟩,hz⟩:=hc
   split at hs
   ·rename_i xs hx
    obtain ⟨s,hs',rfl⟩:=qhk hs
    obtain ⟨cs,h1,h2,h3,h4,h5⟩:=qpU S hk hd hn hm hz hx hs' hp
    simp only [execOp,ho]
    obtain ⟨G',g1,g2,g3,g4⟩:=qy2 (sp:=[]) H (w':={ w with heap:=w.heap.push (.cells cs.toArray e) }) (cs:=cs) (el:=e) (fr:=(0,0)) (by simp)
    refine .of0 ⟨_,G',_,h1,g1,g2,zy (by cases s<;>first | rfl | (simp [PV.JY] at h3)) ?_⟩
    simp only [qm]
    exact qC7 (zu.mono g2.keeps h2) g3 g4 (Nat.le_refl _)
   ·simp at hs
  ·simp at hs
 case field t x f=>
  simp only [q6] at hs
  split at hs
  ·rename_i q hk
   obtain ⟨u,off⟩:=q
   obtain ⟨hf,hs⟩:=qO hs
   obtain ⟨v,h1,h2,_⟩:=qxQ hk hf (Jh hs) (S x)
   simp only [execOp,ho]
   exact .of0 (.same H h1 h2)
  ·simp at hs
 case index t x i=>simp only [execOp,ho]; exact .of0 (qLZ H S hs hp)
 case fieldAddr t x f=>simp only [execOp,ho]; exact .of0 (qB8 H S hs hp)
 case indexAddr t x i=>simp only [execOp,ho]; exact .of0 (qAQ H S hs hp)
 case slice t x lo hi mx=>
  cases mx with
  | some m=>
   cases hi with
   | none=>simp [q6] at hs
   | some hi=>simp only [execOp,ho]; exact .of0 (qJi H S hs hp)
  | none=>simp only [execOp,ho]; exact .of0 (qLw H S hs hp)
 case sliceToArrayPointer t x=>simp only [execOp,ho]; exact .of0 (qFT H S hs hp)
 case typeAssert x xt t ok=>simp only [execOp,ho]; exact .of0 (qze H S hs hp)
 case call c=>simp only [execOp,ho]; exact qNS H S hs hp
 all_goals (simp [q6] at hs)
end g
end Go.Rx
end
noncomputable section
namespace Go.Rx
section g
variable {P:Program} {ob:Ob} {γ:Hm} {G:Gh} {w:World}
theorem XM {b:Nat} {cs:List Value} (h:qcY w b cs):Qq w b 0 cs:=by
 obtain ⟨el,fr,h,_⟩:=h
 intro j hj
 simp only [World.cell?,h,Option.isSome_none,Bool.false_eq_true,if_false,Nat.zero_add,List.getElem?_toArray]
theorem zu.len {sz:Nat} {s:PV} {cs:List Value} (h:zu G w sz s cs):cs.length=s.len * sz:=by
 cases s<;>simp only [zu] at h
 ·obtain ⟨rfl,h1,h2⟩:=h
  rw [zt.len _ _ h1,PV.WO _ _ h2]; rfl
 ·obtain ⟨rfl,rfl⟩:=h
  simp [PV.len]
theorem qEu {γ:Hm} {l sz:Nat} {cs sp:List Value} (hcap:(γ l).2 * sz=(cs++sp).length) (h:(γ l).2≠0→qcY w (γ l).1 (cs++sp)):Qq w (γ l).1 0 (cs++sp):=by
 by_cases e:(γ l).2=0
 ·rw [e,Nat.zero_mul] at hcap
  intro j hj
  omega
 ·exact XM (h e)
theorem qTq {l sz:Nat} {fz:Bool} {x:PV} (h:zq ob γ G w l (.vec fz sz x)) (hl:0 < x.len):live γ l (.vec fz sz x):=by
 simp only [zq] at h
 obtain ⟨h0,cs,sp,hr,hcap,_⟩:=h
 intro e
 rw [e,Nat.zero_mul,List.length_append,zu.len hr] at hcap
 have:=Nat.mul_pos hl h0
 omega
theorem qp9 {t : TypeId} {x : AV} {cs : List Value} {b off : Nat} (hf : zj P t x = true) (hr : qm ob γ G w x cs) (hc : Qq w b off cs) :
    ∃ v,(loadVar t ⟨b,off,none⟩).run P w=.ok v w∧qM ob γ G w x v:=by
 simp only [zj,Bool.and_eq_true,beq_iff_eq] at hf
 obtain ⟨td,hu,ha⟩:=qaY hf.2
 have hl:=qm.len x cs hr
 cases hag:x.isAgg with
 | true=>
  rw [hag] at ha
  refine ⟨.agg cs.toArray,?_,qkK hag hr⟩
  have:=run_loadCells_list (P:=P) w ⟨b,off,none⟩ cs (fun j v hv=>by
   rw [Wl,hc j (List.getElem?_eq_some_iff.1 hv).1]; exact hv)
  simp only [loadVar,Sem.run_bind,qcN w hu,Result.andThen_ok,ha,if_true,qbR w hu,hf.1,← hl,this,Sem.run_pure]
 | false=>
  rw [hag] at ha
  obtain ⟨v,rfl,_⟩:=ju hag hr
  refine ⟨v,?_,zy hag hr⟩
  have h0:=hc 0 (by simp)
  simp only [Nat.add_zero,List.getElem?_cons_zero] at h0
  simp only [loadVar,Sem.run_bind,qcN w hu,Result.andThen_ok,ha,Bool.false_eq_true,if_false,run_load,h0]
theorem qvK {t : TypeId} {path : List Nat} {off : Nat} {c r : AV} {cs : List Value} {b : Nat} {ps : List Prop} (hs : partAt P t path off c = some (r, ps)) (hp : All ps) (hr : qm ob γ G w c cs) (hc : Qq w b 0 cs) :
    ∃ v,(loadVar t ⟨b,off,none⟩).run P w=.ok v w∧qM ob γ G w r v:=by
 unfold partAt at hs
 split at hs
 ·rename_i o x h1 h2
  obtain ⟨h3,hs⟩:=qO hs
  simp only [Bool.and_eq_true,beq_iff_eq] at h3
  simp only [Option.some.injEq,Prod.mk.injEq] at hs
  obtain ⟨rfl,rfl⟩:=hs
  obtain ⟨c1,d,e,rfl,h4,h5⟩:=qeQ _ _ _ _ _ h2 h1 hp hr
  refine qp9 h3.2 h5 ?_
  rw [← h3.1,← h4]
  have:=qbD hc
  rwa [Nat.zero_add] at this
 ·simp at hs
theorem qAn {sz k:Nat} {x y:PV} {cs:List Value} (h:zu G w sz x cs) (hy:x.zl k=some y):∃ c d e,cs=c++d++e∧c.length=k * sz∧qG G w y d∧y.size=sz:=by
 cases x<;>simp only [zu] at h
 ·obtain ⟨rfl,h1,h2⟩:=h
  simp only [PV.zl] at hy
  obtain ⟨c,d,e,rfl,h3,h4,_⟩:=zt.at h1 hy
  refine ⟨c,d,e,rfl,?_,h3,h2 _ (List.mem_of_getElem? hy)⟩
  rw [h4,PV.WO _ _ (fun z hz=>h2 z (List.mem_of_mem_take hz)),List.length_take,Nat.min_eq_left (Nat.le_of_lt (List.getElem?_eq_some_iff.1 hy).1)]
 ·obtain ⟨rfl,rfl⟩:=h
  simp only [PV.zl,Option.map_eq_some_iff] at hy
  obtain ⟨c,hc,rfl⟩:=hy
  refine ⟨_,_,_,qgl (k:=k) (u:=cu8 c) (by simp [hc]),?_,by simp [qG,u8,cu8],by simp [u8,PV.size]⟩
  have:=(List.getElem?_eq_some_iff.1 hc).1
  simp; omega
theorem qK7 {an : Option Ans} {sz off b : Nat} {x z : PV} {path : List Nat} {cs sp : List Value} {ps : List Prop} (hs : qG0 an sz x path off = some (z, ps)) (hp : All ps) (hr : zu G w sz x cs) (hc : Qq w b 0 (cs ++ sp)) :
    ∃ d,qG G w z d∧Qq w b off d:=by
 unfold qG0 at hs
 split at hs
 ·rename_i k r
  obtain ⟨y,p1,p2,h1,h2,hp1,hp2⟩:=qJ hs hp
  obtain ⟨h0,hy⟩:=qd0 h1 hp1
  split at h2
  ·rename_i o z' h3 h4
   simp only [Option.some.injEq,Prod.mk.injEq] at h2
   obtain ⟨rfl,rfl⟩:=h2
   have hp2':off=k * sz + o∧All (AV.inR r (.pv y)):=by
    cases hq:AV.inR r (.pv y) with
    | nil=>rw [hq] at hp2; exact ⟨hp2,trivial⟩
    | cons q qs=>rw [hq] at hp2; exact hp2
   obtain ⟨c,d,e,rfl,h5,h6,h7⟩:=qAn hr (by simpa using hy)
   obtain ⟨c',d',e',rfl,h8,h9⟩:=qeQ (ob:=[]) (γ:=fun _=>(0,0)) r (.pv y) (.pv z') o d h4 h3 hp2'.2 (by simpa only [qm] using h6)
   refine ⟨d',by simpa only [qm] using h9,?_⟩
   have:=qbD (c:=c++c') (d:=d') (e:=e'++e++sp) (b:=b) (off:=0) (w:=w) (by simpa using hc)
   rw [hp2'.1,← h5,← h8]
   simpa using this
  ·simp at h2
 ·simp at hs
theorem qKo (H : qL ob γ G w) {an : Option Ans} {val : Operand → AV} {ρ : Operand → Value} (S : jt ob γ G w val ρ) {h : Ob} (hh : ∀ l o, get h l = some o → get ob l = some o) {t : TypeId} {a : Operand} {r : AV} {ps : List Prop}
    (hs:jO P an val h (.load t a)=some (r,ps)) (hp:All ps):∃ v,(Instr.loadAt t (ρ a)).run P w=.ok v w∧qM ob γ G w r v:=by
 simp only [jO] at hs
 have ha:=S a
 have fin:∀ {ad:Addr} {v:Value},ρ a=.pointer (some ad)→(loadVar t ad).run P w=.ok v w→(Instr.loadAt t (ρ a)).run P w=.ok v w:=fun e h=>by
  rw [e]; simp only [Instr.loadAt,Instr.sureAddr,Sem.run_bind,Sem.run_pure,Result.andThen_ok,h]
 split at hs
 ·rename_i x hx
  rw [hx] at ha
  obtain ⟨hf,hs⟩:=qO hs
  rw [qq hs]
  have:=zx rfl rfl ha
  simp only [qm] at this
  obtain ⟨b,off,vs,h1,h2,h3,_⟩:=this
  simp only [List.cons.injEq,and_true] at h1
  obtain ⟨v,h4,h5⟩:=qp9 (ob:=ob) (γ:=γ) (x:=.pv x) hf (by simpa only [qm] using h2) h3
  exact ⟨v,fin h1 h4,h5⟩
 ·rename_i l path off hx
  rw [hx] at ha
  split at hs
  ·rename_i ro c hg
   have h0:=H.obj _ _ (hh _ _ hg)
   simp only [zq] at h0
   obtain ⟨cs,h1,h2,_⟩:=h0
   have:=zx rfl rfl ha
   simp only [qm] at this
   obtain ⟨h3,_⟩:=this
   simp only [List.cons.injEq,and_true] at h3
   obtain ⟨v,h4,h5⟩:=qvK hs hp h2 (XM h1)
   exact ⟨v,fin h3 h4,h5⟩
  ·simp at hs
 ·rename_i l n path off hx
  rw [hx] at ha
  have:=zx rfl rfl ha
  simp only [qm] at this
  obtain ⟨b,h3,h4⟩:=this
  simp only [List.cons.injEq,and_true] at h3
  split at hs
  ·rename_i fz sz x hg
   have hg':=hh _ _ hg
   have h0:=H.obj _ _ hg'
   simp only [zq] at h0
   obtain ⟨hsz,cs,sp,h2,hcap,h1⟩:=h0
   have h1:=qEu hcap fun e=>(h1 e).1
   obtain ⟨z,p1,p2,e1,e2,hp1,hp2⟩:=qJ hs hp
   obtain ⟨hf,e2⟩:=qO e2
   obtain ⟨rfl,hn⟩:=zG e2 hp2
   obtain ⟨d,h5,h6⟩:=qK7 e1 hp1 h2 h1
   obtain ⟨v,h7,h8⟩:=qp9 (ob:=ob) (γ:=γ) (x:=.pv z) hf (by simpa only [qm] using h5) h6
   have hb:b=(γ l).1:=by
    rcases h4 with ⟨fz',sz',x',g1,g2,g3⟩ | ⟨xs,g1,_⟩
    ·rw [hg'] at g1; cases g1; exact g3 hn
    ·rw [hg'] at g1; cases g1
   subst hb
   exact ⟨v,fin h3 h7,h8⟩
  ·rename_i xs hg
   have hg':=hh _ _ hg
   have h0:=H.obj _ _ hg'
   simp only [zq] at h0
   obtain ⟨cs,h1,h2,h5,_⟩:=h0
   split at hs
   ·rename_i k
    split at hs
    ·rename_i x hx'
     obtain ⟨hc,hs⟩:=qO hs
     simp only [Bool.and_eq_true,beq_iff_eq] at hc
     rw [qq hs]
     obtain ⟨c,d,e,rfl,h6,h7,_⟩:=zh.at h2 hx'
     have hcl:c.length=off:=by
      rw [h7,qmJ 1 _ (fun z hz=>h5 z (List.mem_of_mem_take hz)),List.length_take,Nat.min_eq_left (Nat.le_of_lt (List.getElem?_eq_some_iff.1 hx').1)]
      omega
     have hcd:=qbD (XM h1)
     rw [Nat.zero_add,hcl] at hcd
     obtain ⟨v,h8,h9⟩:=qp9 hc.1.2 h6 hcd
     have hb:b=(γ l).1:=by
      rcases h4 with ⟨fz',sz',x',g1,g2,g3⟩ | ⟨xs',g1,_,g3⟩
      ·rw [hg'] at g1; cases g1
      ·exact g3
     subst hb
     exact ⟨v,fin h3 h8,h9⟩
    ·simp at hs
   ·simp at hs
  ·simp at hs
 ·simp at hs
end g
end Go.Rx
end
noncomputable section
namespace Go.Rx
section g
variable {P:Program} {ob:Ob} {γ:Hm} {G:Gh} {w:World}
mutual
theorem qp3:∀ (x y:PV),PV.alike x y=true→x.size=y.size
 | .b _,y,h=>by cases y<;>simp [PV.alike,PV.size] at h ⊢
 | .i _ _,y,h=>by cases y<;>simp [PV.alike,PV.size] at h ⊢
 | .s _,y,h=>by cases y<;>simp [PV.alike,PV.size] at h ⊢
 | .ba n _,y,h=>by cases y<;>simp [PV.alike,PV.size] at h ⊢; exact h
 | .wa n _,y,h=>by cases y<;>simp [PV.alike,PV.size] at h ⊢; exact h
 | .ag xs,y,h=>by
  cases y<;>simp only [PV.alike,Bool.false_eq_true] at h
  simp only [PV.size]; exact qx7 xs _ h
 | .l _ _,y,h=>by cases y<;>simp [PV.alike] at h
 | .bl _,y,h=>by cases y<;>simp [PV.alike] at h
theorem qx7:∀ (xs ys:List PV),PV.QT xs ys=true→PV.jo xs=PV.jo ys
 | [],ys,h=>by cases ys<;>simp [PV.QT,PV.jo] at h ⊢
 | x::xs,ys,h=>by
  cases ys with
  | nil=>simp [PV.QT] at h
  | cons y ys=>
   simp only [PV.QT] at h
   split at h
   ·rename_i h1; simp only [PV.jo]; rw [qp3 x y h1,qx7 xs ys h]
   ·simp at h
end
theorem qB2:∀ (xs ys:List PV),PV.QT xs ys=true→xs.length=ys.length
 | [],ys,h=>by cases ys<;>simp [PV.QT] at h ⊢
 | x::xs,ys,h=>by
  cases ys with
  | nil=>simp [PV.QT] at h
  | cons y ys=>
   simp only [PV.QT] at h
   split at h
   ·simp [qB2 xs ys h]
   ·simp at h
theorem qBI:∀ (xs ys:List PV),PV.QT xs ys=true→∀ y∈ys,∃ x∈xs,PV.alike x y=true
 | [],ys,h=>by cases ys<;>simp [PV.QT] at h ⊢
 | x::xs,ys,h=>by
  cases ys with
  | nil=>simp
  | cons y ys=>
   simp only [PV.QT] at h
   split at h
   ·rename_i h1
    intro z hz
    rcases List.mem_cons.1 hz with rfl | hz
    ·exact ⟨x,by simp,h1⟩
    ·obtain ⟨u,hu,h2⟩:=qBI xs ys h z hz; exact ⟨u,by simp [hu],h2⟩
   ·simp at h
theorem qQQ (d : Nat) : (∀ (t : TypeId) (x y : PV), PV.alike x y = true → fit P d t (.pv x) = true → fit P d t (.pv y) = true) ∧
    (∀ (fs:List (TypeId×Nat)) (xs ys:List PV) (n:Nat),PV.QT xs ys=true→fits P d fs (xs.map AV.pv) n=true→fits P d fs (ys.map AV.pv) n=true):=by
 induction d with
 | zero=>exact ⟨fun _ _ _ _ h=>by simp [fit] at h,fun _ _ _ _ _ h=>by simp [fits] at h⟩
 | succ d ih=>
  constructor
  ·intro t x y ha hf
   unfold fit at hf ⊢
   cases hk:qy P t with
   | none=>simp [hk] at hf
   | some k=>
    simp only [hk] at hf ⊢
    cases x<;>cases y<;>simp only [PV.alike,Bool.false_eq_true] at ha
    ·cases k<;>simp at hf ⊢
    ·simp only [decide_eq_true_eq] at ha; subst ha
     cases k<;>simp at hf ⊢; exact hf
    ·cases k<;>simp at hf ⊢
    ·have:=Nat.eq_of_beq_eq_true ha; subst this
     cases k<;>simp at hf ⊢; exact hf
    ·have:=Nat.eq_of_beq_eq_true ha; subst this
     cases k<;>simp at hf ⊢; exact hf
    ·rename_i xs ys
     cases k<;>simp only [Bool.false_eq_true] at hf
     ·rename_i n e
      simp only [Bool.and_eq_true,List.all_eq_true,beq_iff_eq] at hf ⊢
      refine ⟨by rw [← qB2 xs ys ha]; exact hf.1,fun y hy=>?_⟩
      obtain ⟨x,hx,h1⟩:=qBI xs ys ha y hy
      have h2:=hf.2 x hx
      refine ⟨?_,ih.1 e x y h1 h2.2⟩
      rw [h2.1]; exact qp3 x y h1
     ·exact ih.2 _ xs ys 0 ha hf
  ·intro fs xs ys n ha hf
   cases xs with
   | nil=>
    cases ys with
    | nil=>exact hf
    | cons=>simp [PV.QT] at ha
   | cons x xs=>
    cases ys with
    | nil=>simp [PV.QT] at ha
    | cons y ys=>
     simp only [PV.QT] at ha
     split at ha
     ·rename_i h1
      cases fs with
      | nil=>simp [fits] at hf
      | cons f fs=>
       simp only [List.map_cons,fits,Bool.and_eq_true,beq_iff_eq] at hf ⊢
       have hs:=qp3 x y h1
       simp only [AV.size] at hf ⊢
       rw [← hs]
       exact ⟨⟨⟨hf.1.1.1,hf.1.1.2⟩,ih.1 _ x y h1 hf.1.2⟩,ih.2 fs xs ys _ ha hf.2⟩
     ·simp at ha
mutual
theorem qI5:∀ (x y:PV) (cs ds:List Value),PV.alike x y=true→PV.eqb x y=some true→qG G w x cs→qG G w y ds→cs=ds
 | .b _,y,cs,ds,ha,he,h1,h2=>by
  cases y<;>simp only [PV.alike,Bool.false_eq_true] at ha
  simp only [PV.eqb,Option.some.injEq,decide_eq_true_eq] at he; subst he
  simp only [qG] at h1 h2; rw [h1,h2]
 | .i _ _,y,cs,ds,ha,he,h1,h2=>by
  cases y<;>simp only [PV.alike,Bool.false_eq_true] at ha
  simp only [decide_eq_true_eq] at ha; subst ha
  simp only [PV.eqb,decide_true,Option.some.injEq,decide_eq_true_eq] at he; subst he
  simp only [qG] at h1 h2; rw [h1,h2]
 | .s _,y,cs,ds,ha,he,h1,h2=>by
  cases y<;>simp only [PV.alike,Bool.false_eq_true] at ha
  simp only [PV.eqb,Option.some.injEq,decide_eq_true_eq] at he; subst he
  simp only [qG] at h1 h2; rw [h1,h2]
 | .ba n _,y,cs,ds,ha,he,h1,h2=>by
  cases y<;>simp only [PV.alike,Bool.false_eq_true] at ha
  simp only [PV.eqb,Option.some.injEq,decide_eq_true_eq] at he
  simp only [qG] at h1 h2; rw [h1,h2,he]
 | .wa n _,y,cs,ds,ha,he,h1,h2=>by
  cases y<;>simp only [PV.alike,Bool.false_eq_true] at ha
  simp only [PV.eqb,Option.some.injEq,decide_eq_true_eq] at he
  simp only [qG] at h1 h2; rw [h1,h2,he]
 | .ag xs,y,cs,ds,ha,he,h1,h2=>by
  cases y<;>simp only [PV.alike,Bool.false_eq_true] at ha
  simp only [PV.eqb] at he
  simp only [qG] at h1 h2
  exact qFh xs _ cs ds ha he h1 h2
 | .l _ _,y,cs,ds,ha,he,h1,h2=>by cases y<;>simp [PV.alike] at ha
 | .bl _,y,cs,ds,ha,he,h1,h2=>by cases y<;>simp [PV.alike] at ha
theorem qFh:∀ (xs ys:List PV) (cs ds:List Value),PV.QT xs ys=true→PV.qn7 xs ys=some true→zt G w xs cs→zt G w ys ds→cs=ds
 | [],ys,cs,ds,ha,he,h1,h2=>by
  cases ys with
  | nil=>simp only [zt] at h1 h2; rw [h1,h2]
  | cons=>simp [PV.QT] at ha
 | x::xs,ys,cs,ds,ha,he,h1,h2=>by
  cases ys with
  | nil=>simp [PV.QT] at ha
  | cons y ys=>
   simp only [PV.QT] at ha
   split at ha
   ·rename_i h3
    simp only [PV.qn7] at he
    split at he
    ·rename_i c e h4 h5
     simp only [Option.some.injEq,Bool.and_eq_true] at he
     obtain ⟨rfl,rfl⟩:=he
     obtain ⟨c1,d1,rfl,g1,g2⟩:=h1
     obtain ⟨c2,d2,rfl,g3,g4⟩:=h2
     rw [qI5 x y c1 c2 h3 h4 g1 g3,qFh xs ys d1 d2 ha h5 g2 g4]
    ·simp at he
   ·simp at ha
end
def qY4 (P:Program) (d:Nat):Prop:=
 ∀ (G:Gh) (w w':World) (em:Bool) (t:TypeId) (x:PV) (cs:List Value) (v:Value) (f n:Nat),eqT P d t=true→fit P f t (.pv x)=true→qG G w x cs→zp (AV.isAgg (.pv x)) cs v→d + 1≤n→(Instr.checkKey em n t v).run P w'=.ok () w'
theorem qIY:∀ (d:Nat) (ts:List TypeId),qu9 P d ts=true→∀ t∈ts,∃ e,e < d∧eqT P e t=true
 | 0,ts,h=>by simp [qu9] at h
 | d + 1,[],h=>by simp
 | d + 1,t::ts,h=>by
  simp only [qu9,Bool.and_eq_true] at h
  intro u hu
  rcases List.mem_cons.1 hu with rfl | hu
  ·exact ⟨d,by omega,h.1⟩
  ·obtain ⟨e,h1,h2⟩:=qIY d ts h.2 u hu; exact ⟨e,by omega,h2⟩
theorem qhM {em:Bool} {n:Nat} {t:TypeId} {v:Value} {d:TypeDesc} (hu:P.underlying t=some d) (h:d=.bool∨(∃ k,d=.int k)∨d=.string):(Instr.checkKey em (n + 1) t v).run P w=.ok () w:=by
 rcases h with rfl | ⟨k,rfl⟩ | rfl<;>simp [Instr.checkKey,run_underlying hu]
theorem qQu (d:Nat):qY4 P d:=by
 induction d using Nat.strongRecOn with
 | _ d ih=>
 intro G w w' em t x cs v f n ht hx hr ho hn
 obtain ⟨n,rfl⟩:∃ m,n=m + 1:=⟨n - 1,by omega⟩
 cases d with
 | zero=>simp [eqT] at ht
 | succ d=>
 unfold eqT at ht
 split at ht
 ·rename_i hk; exact qhM (qvp hk) (.inl rfl)
 ·rename_i k hk; exact qhM (qhh hk) (.inr (.inl ⟨_,rfl⟩))
 ·rename_i hk; exact qhM (Xa hk) (.inr (.inr rfl))
 ·rename_i m hk
  obtain ⟨b,hb⟩:=qEV hk hx
  cases hb
  simp only [qG] at hr
  subst hr
  have hv:=VC ho
  subst hv
  obtain ⟨e,h1,h2,h3⟩:=Vm hk
  obtain ⟨n',rfl⟩:∃ m,n=m + 1:=⟨n - 1,by omega⟩
  rw [Instr.checkKey]
  simp only [Sem.run_bind,run_underlying h1,Result.andThen_ok]
  simp only [Std.Legacy.Range.forIn_eq_forIn_range',Std.Legacy.Range.size,Nat.sub_zero,Nat.add_one_sub_one,Nat.div_one]
  have each:∀ i∈List.range' 0 m,i < m:=fun i hi=>by simp [List.mem_range'] at hi; omega
  generalize List.range' 0 m=is at each
  induction is with
  | nil=>simp
  | cons i is ih2=>
   have hp:(part e (b.toList.map cu8).toArray (i * qE P e)).run P w'=.ok (cu8 (b.toList.getD i 0)) w':=by
    simp only [part,Sem.run_bind,qcN w' h2,Result.andThen_ok,qHy,Bool.false_eq_true,if_false,h3,Nat.mul_one,List.getElem?_toArray,qrX (each i (by simp)),Sem.run_pure]
   simp only [List.forIn_cons,Sem.run_bind,qbR w' h2,Result.andThen_ok,hp,qhM (em:=em) (n:=n') (w:=w') (v:=cu8 (b.toList.getD i 0)) h2 (.inr (.inl ⟨_,rfl⟩)),Sem.run_pure]
   exact ih2 (fun y hy=>each y (by simp [hy]))
 ·rename_i fs hk
  simp only [Bool.and_eq_true,Bool.not_eq_true',List.all_eq_true,bne_iff_ne] at ht
  obtain ⟨⟨_,h2⟩,h3⟩:=ht
  obtain ⟨gs,h4,rfl⟩:=qdE hk
  rw [qf8 h4] at h2
  obtain ⟨xs,d',hxs,hfs,hrs⟩:=qug (ob:=[]) (γ:=fun _=>(0,0)) (G:=G) (w:=w) hk hx (by simpa only [qm] using hr)
  have hag:AV.isAgg (.pv x)=true:=by rcases hxs with h | ⟨ys,h,_⟩<;>(cases h; try rfl)
  rw [hag] at ho
  have hv:=VC ho
  subst hv
  rw [Instr.checkKey]
  simp only [Sem.run_bind,run_underlying h4,Result.andThen_ok]
  rw [← Array.forIn_toList]
  have hall:=qIY d _ h3
  have hpv:∀ y∈xs,∃ z,y=AV.pv z:=by
   rcases hxs with h | ⟨ys,h,rfl⟩
   ·cases h
   ·intro y hy; obtain ⟨z,_,rfl⟩:=List.mem_map.1 hy; exact ⟨z,rfl⟩
  have key : ∀ (L : List Field) (ys : List AV) (m : Nat) (c0 c1 : List Value), fits P m (L.map fun f => (f.type, f.offset)) ys c0.length = true → (∀ f ∈ L, f.name ≠ "_") → (∀ f ∈ L, ∃ e, e < d ∧ eqT P e f.type = true) → (∀ y ∈ ys, ∃ z, y = AV.pv z) →
      zh [] (fun _=>(0,0)) G w ys c1→(forIn L PUnit.unit fun f (_:PUnit)=>do
       if f.name ≠ "_" then Instr.checkKey em n f.type (← part f.type (c0++c1).toArray f.offset)
       pure (ForInStep.yield PUnit.unit):Sem PUnit).run P w'=.ok PUnit.unit w':=by
   intro L
   induction L with
   | nil=>intro ys m c0 c1 _ _ _ _ _; simp
   | cons f L ih2=>
    intro ys m c0 c1 hf hn2 he hz hr2
    cases m with
    | zero=>simp [fits] at hf
    | succ m=>
    cases ys with
    | nil=>simp [fits] at hf
    | cons y ys=>
     simp only [List.map_cons,fits,Bool.and_eq_true,beq_iff_eq] at hf
     simp only [zh] at hr2
     obtain ⟨c,e,rfl,g1,g2⟩:=hr2
     obtain ⟨z,rfl⟩:=hz _ (List.mem_cons_self ..)
     obtain ⟨v',p1,p2⟩:=qnG (P:=P) (c:=c0) (e:=e) hf.1.2 hf.1.1.2 (by simpa only [qm] using g1) w'
     obtain ⟨e1,he1,he2⟩:=he f (by simp)
     have p3:=ih e1 (by omega) G w w' em f.type z c v' m n he2 hf.1.2 (by simpa only [qm] using g1) p2 (by omega)
     have hn3:=hn2 f (by simp)
     rw [List.append_assoc] at p1
     rw [← hf.1.1.1] at p1
     simp only [List.forIn_cons,Sem.run_bind,hn3,ne_eq,not_false_eq_true,if_true,Result.andThen_ok,p1,p3,Sem.run_pure]
     have:=ih2 ys m (c0++c) e (by simpa [qm.len _ _ g1] using hf.2) (fun y hy=>hn2 y (by simp [hy])) (fun y hy=>he y (by simp [hy])) (fun y hy=>hz y (by simp [hy])) g2
     rw [List.append_assoc] at this
     exact this
  have:=key gs.toList xs d' [] cs hfs h2 (fun f hf=>by
   obtain ⟨e,h5,h6⟩:=hall f.type (List.mem_map.2 ⟨(f.type,f.offset),List.mem_map.2 ⟨f,hf,rfl⟩,rfl⟩)
   exact ⟨e,h5,h6⟩) hpv hrs
  rw [List.nil_append] at this
  exact congrArg (fun r=>r.andThen fun _ w=>Result.ok () w) this
 ·simp at ht
end g
end Go.Rx
end
noncomputable section
namespace Go.Rx
section g
variable {P:Program} {ob:Ob} {γ:Hm} {G:Gh} {w:World}
theorem qrR {k:PV}:∀ {es:jN} {r:Option (AV×Nat)},Vb k es=some r→∃ i,Z9 k es=some i∧r=i.bind fun i=>(es[i]?).map fun e=>e.2
 | [],r,h=>by simp [Vb] at h; exact ⟨none,rfl,by simp [← h]⟩
 | (j,x,n)::es,r,h=>by
  simp only [Vb] at h
  split at h
  ·rename_i hk; simp only [Option.some.injEq] at h; exact ⟨some 0,by simp [Z9,hk],by simp [← h]⟩
  ·rename_i hk
   obtain ⟨i,h1,h2⟩:=qrR h
   refine ⟨i.map (· + 1),by simp [Z9,hk,h1],?_⟩
   rw [h2]; cases i<;>simp
  ·simp at h
theorem qFa {k:PV}:∀ {es:jN} {i:Nat},Z9 k es=some (some i)→∃ j x n,es[i]?=some (j,x,n)∧KM k j=some true
 | [],i,h=>by simp [Z9] at h
 | (j,x,n)::es,i,h=>by
  simp only [Z9] at h
  split at h
  ·rename_i hk; simp only [Option.some.injEq] at h; subst h; exact ⟨j,x,n,rfl,hk⟩
  ·rename_i hk
   split at h
   ·rename_i i' hi
    simp only [Option.some.injEq] at h
    cases i' with
    | none=>simp at h
    | some i'=>
     simp only [Option.map_some,Option.some.injEq] at h
     subst h
     obtain ⟨j',x',n',h1,h2⟩:=qFa hi
     exact ⟨j',x',n',by simpa using h1,h2⟩
   ·simp at h
  ·simp at h
theorem qtc {k : PV} {x : AV} {c : Nat} : ∀ {es : jN} {c' : Nat} {es' : jN}, qaF k x c es = some (c', es') →
    (Z9 k es=some none∧c'=c + 1∧es'=es++[(k,x,c)])∨(∃ i j y n,Z9 k es=some (some i)∧es[i]?=some (j,y,n)∧KM k j=some true∧c'=c∧es'=es.set i (k,x,n))
 | [],c',es',h=>by simp [qaF] at h; exact .inl ⟨rfl,h.1.symm,by simp [h.2]⟩
 | (j,y,n)::es,c',es',h=>by
  simp only [qaF] at h
  split at h
  ·rename_i hk
   simp only [Option.some.injEq,Prod.mk.injEq] at h
   exact .inr ⟨0,j,y,n,by simp [Z9,hk],rfl,hk,h.1.symm,by simp [h.2]⟩
  ·rename_i hk
   split at h
   ·rename_i c1 es1 h1
    simp only [Option.some.injEq,Prod.mk.injEq] at h
    obtain ⟨rfl,rfl⟩:=h
    rcases qtc h1 with ⟨h2,h3,h4⟩ | ⟨i,j',y',n',h2,h3,h4,h5,h6⟩
    ·exact .inl ⟨by simp [Z9,hk,h2],h3,by simp [h4]⟩
    ·exact .inr ⟨i + 1,j',y',n',by simp [Z9,hk,h2],by simpa using h3,h4,h5,by simp [h6]⟩
   ·simp at h
  ·simp at h
theorem qEN {k:PV}:∀ {es es':jN},qbY k es=some es'→(Z9 k es=some none∧es'=es)∨(∃ i,Z9 k es=some (some i)∧i < es.length∧es'=es.eraseIdx i)
 | [],es',h=>by simp [qbY] at h; exact .inl ⟨rfl,by simp [h]⟩
 | (j,y,n)::es,es',h=>by
  simp only [qbY] at h
  split at h
  ·rename_i hk
   simp only [Option.some.injEq] at h
   exact .inr ⟨0,by simp [Z9,hk],by simp,by simp [h]⟩
  ·rename_i hk
   split at h
   ·rename_i es1 h1
    simp only [Option.some.injEq] at h
    subst h
    rcases qEN h1 with ⟨h2,h3⟩ | ⟨i,h2,h3,h4⟩
    ·exact .inl ⟨by simp [Z9,hk,h2],by simp [h3]⟩
    ·exact .inr ⟨i + 1,by simp [Z9,hk,h2],by simp; omega,by simp [h4]⟩
   ·simp at h
  ·simp at h
theorem qJF {b:Int} {x:AV}:∀ {es es':jN},qgd b x es=some es'→∃ (i:Nat) (j:PV) (y:AV) (n:Nat),es[i]?=some (j,y,n)∧(n:Int)=b∧es'=es.set i (j,x,n)∧∀ (i':Nat) (e:PV×AV×Nat),i' < i→es[i']?=some e→(e.2.2:Int)≠b
 | [],es',h=>by simp [qgd] at h
 | (j,y,n)::es,es',h=>by
  simp only [qgd] at h
  split at h
  ·rename_i hk
   simp only [decide_eq_true_eq] at hk
   simp only [Option.some.injEq] at h
   exact ⟨0,j,y,n,rfl,hk,by simp [h],fun i' e h=>by omega⟩
  ·rename_i hk
   simp only [decide_eq_false_iff_not] at hk
   split at h
   ·rename_i es1 h1
    simp only [Option.some.injEq] at h
    subst h
    obtain ⟨i,j',y',n',h2,h3,h4,h5⟩:=qJF h1
    refine ⟨i + 1,j',y',n',by simpa using h2,h3,by simp [h4],fun i' e hi' he=>?_⟩
    cases i' with
    | zero=>simp at he; subst he; exact hk
    | succ i'=>exact h5 i' e (by omega) (by simpa using he)
   ·simp at h
theorem q_.len:∀ {es:jN} {l:List MapEntry},q_ ob γ G w es l→es.length=l.length
 | [],l,h=>by simp only [q_] at h; subst h; rfl
 | (k,x,n)::es,l,h=>by
  simp only [q_] at h
  obtain ⟨e,t,rfl,_,_,_,h⟩:=h
  simp [q_.len h]
theorem q_.at:∀ {es:jN} {l:List MapEntry} {i:Nat} {k:PV} {x:AV} {n:Nat},q_ ob γ G w es l→es[i]?=some (k,x,n)→∃ e,l[i]?=some e∧qM ob γ G w (.pv k) e.key∧(qM ob γ G w x e.val∧x.Y1=true)∧e.born=n
 | [],l,i,k,x,n,_,h=>by simp at h
 | (k',x',n')::es,l,i,k,x,n,h,hi=>by
  simp only [q_] at h
  obtain ⟨e,t,rfl,h1,h2,h3,h4⟩:=h
  cases i with
  | zero=>simp at hi; obtain ⟨rfl,rfl,rfl⟩:=hi; exact ⟨e,rfl,h1,h2,h3⟩
  | succ i=>obtain ⟨e',h5,h6⟩:=q_.at h4 (by simpa using hi); exact ⟨e',by simpa using h5,h6⟩
theorem q_.set:∀ {es:jN} {l:List MapEntry} {i:Nat} {k:PV} {x:AV} {n:Nat} {e:MapEntry},q_ ob γ G w es l→qM ob γ G w (.pv k) e.key→(qM ob γ G w x e.val∧x.Y1=true)→e.born=n→q_ ob γ G w (es.set i (k,x,n)) (l.set i e)
 | [],l,i,k,x,n,e,h,_,_,_=>by simp only [q_] at h; subst h; simp [q_]
 | (k',x',n')::es,l,i,k,x,n,e,h,g1,g2,g3=>by
  simp only [q_] at h
  obtain ⟨e',t,rfl,h1,h2,h3,h4⟩:=h
  cases i with
  | zero=>simp only [List.set_cons_zero,q_]; exact ⟨e,t,rfl,g1,g2,g3,h4⟩
  | succ i=>simp only [List.set_cons_succ,q_]; exact ⟨e',_,rfl,h1,h2,h3,q_.set h4 g1 g2 g3⟩
theorem q_.push:∀ {es:jN} {l:List MapEntry} {k:PV} {x:AV} {n:Nat} {e:MapEntry},q_ ob γ G w es l→qM ob γ G w (.pv k) e.key→(qM ob γ G w x e.val∧x.Y1=true)→e.born=n→q_ ob γ G w (es++[(k,x,n)]) (l++[e])
 | [],l,k,x,n,e,h,g1,g2,g3=>by simp only [q_] at h; subst h; simp only [List.nil_append,q_]; exact ⟨e,[],rfl,g1,g2,g3,rfl⟩
 | (k',x',n')::es,l,k,x,n,e,h,g1,g2,g3=>by
  simp only [q_] at h
  obtain ⟨e',t,rfl,h1,h2,h3,h4⟩:=h
  simp only [List.cons_append,q_]; exact ⟨e',_,rfl,h1,h2,h3,q_.push h4 g1 g2 g3⟩
theorem q_.erase:∀ {es:jN} {l:List MapEntry} {i:Nat},q_ ob γ G w es l→q_ ob γ G w (es.eraseIdx i) (l.eraseIdx i)
 | [],l,i,h=>by simp only [q_] at h; subst h; simp [q_]
 | (k',x',n')::es,l,i,h=>by
  simp only [q_] at h
  obtain ⟨e',t,rfl,h1,h2,h3,h4⟩:=h
  cases i with
  | zero=>simpa using h4
  | succ i=>simp only [List.eraseIdx_cons_succ,q_]; exact ⟨e',_,rfl,h1,h2,h3,q_.erase h4⟩
theorem qQI {kt:TypeId} {k j:PV} {b:Bool} (hf:fit P 30 kt (.pv k)=true) (h:KM k j=some b):fit P 30 kt (.pv j)=true∧PV.alike k j=true∧PV.eqb k j=some b:=by
 unfold KM at h
 split at h
 ·rename_i ha; exact ⟨(qQQ 30).1 kt k j ha hf,ha,h⟩
 ·simp at h
theorem qFb {kt:TypeId} {k j:PV} {b:Bool} {vk vj:Value} (ht:eqT P 30 kt=true) (hf:fit P 30 kt (.pv k)=true) (h:KM k j=some b) (hk:qM ob γ G w (.pv k) vk) (hj:qM ob γ G w (.pv j) vj):(Op.equal kt vk vj).run P w=.ok b w:=by
 obtain ⟨h1,_,h2⟩:=qQI hf h
 obtain ⟨cs,hr,ho⟩:=QH.1 hk
 obtain ⟨ds,hr',ho'⟩:=QH.1 hj
 exact (qP8 (P:=P) 30).1 G w w kt k j b cs ds vk vj 30 30 10000 ht hf h1 h2 hr hr' ho ho' (by omega)
theorem qXK (x y:List UInt8):((ByteArray.mk x.toArray) == (ByteArray.mk y.toArray))=decide (x=y):=by
 change (x.toArray == y.toArray)=decide (x=y)
 rw [Bool.eq_iff_iff]; simp
theorem qMt {d:TypeDesc} {k j:PV} {b:Bool} {vk vj:Value} (h:KM k j=some b) (hk:qM ob γ G w (.pv k) vk) (hj:qM ob γ G w (.pv j) vj):Instr.sameNow d vk vj=some b∨Instr.sameNow d vk vj=none:=by
 unfold KM at h
 split at h
 ·rename_i ha
  obtain ⟨cs,hr,ho⟩:=QH.1 hk
  obtain ⟨ds,hr',ho'⟩:=QH.1 hj
  cases k<;>cases j<;>simp only [PV.alike,Bool.false_eq_true] at ha<;>simp only [qG] at hr hr'<;>simp only [AV.isAgg,zp] at ho ho'
  ·rw [hr] at ho; rw [hr'] at ho'; cases ho; cases ho'
   simp only [PV.eqb] at h
   cases d<;>first | (right; rfl) | (left; simp only [Instr.sameNow]; rw [← h]; congr 1)
  ·rw [hr] at ho; rw [hr'] at ho'; cases ho; cases ho'
   simp only [decide_eq_true_eq] at ha; subst ha
   simp only [PV.eqb,decide_true] at h
   cases d<;>first | (right; rfl) | (left; simp only [Instr.sameNow,if_true]; rw [← h]; congr 1)
  ·rw [hr] at ho; rw [hr'] at ho'; cases ho; cases ho'
   simp only [PV.eqb] at h
   cases d<;>first | (right; rfl) | (left; simp only [Instr.sameNow]; rw [← h]; congr 1; exact qXK _ _)
  all_goals (subst ho; subst ho'; right; cases d<;>rfl)
 ·simp at h
def hit (l:List MapEntry) (o:Nat) (r:Option Nat):Option (Nat×Value):=r.bind fun i=>(l[i]?).map fun e=>(o + i,e.val)
theorem qA2 {d : TypeDesc} {k : PV} {vk : Value} (hk : qM ob γ G w (.pv k) vk) : ∀ {es : jN} {l : List MapEntry} {r : Option Nat} (o : Nat), q_ ob γ G w es l → Z9 k es = some r →
    Instr.findNow d vk l o=some (hit l o r)∨Instr.findNow d vk l o=none
 | [],l,r,o,h,hr=>by simp only [q_] at h; subst h; simp [Z9] at hr; subst hr; exact .inl rfl
 | (j,x,n)::es,l,r,o,h,hr=>by
  simp only [q_] at h
  obtain ⟨e,t,rfl,h1,h2,h3,h4⟩:=h
  simp only [Z9] at hr
  split at hr
  ·rename_i hq
   simp only [Option.some.injEq] at hr; subst hr
   simp only [Instr.findNow]
   rcases qMt (d:=d) hq hk h1 with h5 | h5<;>rw [h5]
   ·exact .inl rfl
   ·exact .inr rfl
  ·rename_i hq
   split at hr
   ·rename_i i hi
    simp only [Option.some.injEq] at hr; subst hr
    simp only [Instr.findNow]
    rcases qMt (d:=d) hq hk h1 with h5 | h5<;>rw [h5]
    ·rcases qA2 (d:=d) hk (o + 1) h4 hi with h6 | h6
     ·left; simp only [h6]
      cases i with
      | none=>rfl
      | some i=>simp only [hit,Option.bind_some,Option.map_some,List.getElem?_cons_succ]; cases t[i]?<;>simp; omega
     ·exact .inr h6
    ·exact .inr rfl
   ·simp at hr
  ·simp at hr
theorem qr0 {kt : TypeId} {k : PV} {vk : Value} (ht : eqT P 30 kt = true) (hf : fit P 30 kt (.pv k) = true) (hk : qM ob γ G w (.pv k) vk) : ∀ {es : jN} {l : List MapEntry} {r : Option Nat} (o : Nat), q_ ob γ G w es l → Z9 k es = some r →
    (Instr.findAsking kt vk l o).run P w=.ok (hit l o r) w
 | [],l,r,o,h,hr=>by simp only [q_] at h; subst h; simp [Z9] at hr; subst hr; rfl
 | (j,x,n)::es,l,r,o,h,hr=>by
  simp only [q_] at h
  obtain ⟨e,t,rfl,h1,h2,h3,h4⟩:=h
  simp only [Z9] at hr
  split at hr
  ·rename_i hq
   simp only [Option.some.injEq] at hr; subst hr
   simp [Instr.findAsking,qFb ht hf hq hk h1,hit]
  ·rename_i hq
   split at hr
   ·rename_i i hi
    simp only [Option.some.injEq] at hr; subst hr
    have:=qr0 ht hf hk (o + 1) h4 hi
    simp only [Instr.findAsking,Sem.run_bind,qFb ht hf hq hk h1,Result.andThen_ok,Bool.false_eq_true,if_false,this]
    congr 1
    cases i with
    | none=>rfl
    | some i=>simp only [hit,Option.bind_some,Option.map_some,List.getElem?_cons_succ]; cases t[i]?<;>simp; omega
   ·simp at hr
  ·simp at hr
theorem qai {kt : TypeId} {k : PV} {vk : Value} (ht : eqT P 30 kt = true) (hf : fit P 30 kt (.pv k) = true) (hk : qM ob γ G w (.pv k) vk) {es : jN} {l : List MapEntry} {r : Option Nat} (h : q_ ob γ G w es l) (hr : Z9 k es = some r) :
    (Instr.findKey kt vk l).run P w=.ok (hit l 0 r) w:=by
 obtain ⟨td,hu,_⟩:=qaY hf
 simp only [Instr.findKey,Sem.run_bind,run_underlying hu,Result.andThen_ok]
 rcases qA2 (d:=td) hk 0 h hr with h1 | h1<;>simp only [h1]
 ·rfl
 ·exact qr0 ht hf hk 0 h hr
theorem Yw {kt:TypeId} {k:PV} {vk:Value} (ht:eqT P 30 kt=true) (hf:fit P 30 kt (.pv k)=true) (hk:qM ob γ G w (.pv k) vk) (em:Bool):(Instr.checkKey em 10000 kt vk).run P w=.ok () w:=by
 obtain ⟨cs,hr,ho⟩:=QH.1 hk
 exact qQu 30 G w w em kt k cs vk 30 10000 ht hf hr ho (by omega)
theorem XE {r:Nat} {es:Array MapEntry} {clock:Nat} (hb:w.heap[r]?=some (.map es clock)):(getObj r).run P w=.ok (.map es clock) w:=by simp [getObj,Sem.run,hb]
theorem qag {r:Nat} {es:Array MapEntry} {clock:Nat} (o:Obj) (hb:w.heap[r]?=some (.map es clock)):(setObj r o).run P w=.ok () { w with heap:=w.heap.setIfInBounds r o }:=by simp [setObj,Sem.run,hb]
theorem qDY (H : qL ob γ G w) {an : Option Ans} {val : Operand → AV} {ρ : Operand → Value} (S : jt ob γ G w val ρ) {h : Ob} (hh : ∀ l o, get h l = some o → get ob l = some o) {t : TypeId} {m k : Operand} {ok : Bool} {r : AV} {ps : List Prop}
    (hs:jO P an val h (.lookup t m k ok)=some (r,ps)) (hp:All ps):∃ v,(Instr.lookup t (ρ m) (ρ k) ok).run P w=.ok v w∧qM ob γ G w r v:=by
 simp only [jO] at hs
 split at hs
 ·rename_i kt e l kk h1 h2 h3
  split at hs
  ·rename_i c es hg
   obtain ⟨hc,hs⟩:=qO hs
   simp only [Bool.and_eq_true,zj] at hc
   obtain ⟨fr,p1,p2,e1,e2,hp1,hp2⟩:=qJ hs hp
   have hfind:Vb kk es=some fr:=by
    unfold qjX at e1
    split at e1
    ·obtain ⟨rfl,h⟩:=zG e1 hp1; exact h
    ·exact Jh e1
   obtain ⟨i,hi,rfl⟩:=qrR hfind
   have hk:=S k
   rw [h3] at hk
   have hm:=S m
   rw [h2] at hm
   have:=zx rfl rfl hm
   simp only [qm] at this
   obtain ⟨h4,_⟩:=this
   simp only [List.cons.injEq,and_true] at h4
   have h0:=H.obj _ _ (hh _ _ hg)
   simp only [zq] at h0
   obtain ⟨ents,hb,hents,_⟩:=h0
   have run : ∀ {v : Value} {ok' : Bool}, (match hit ents.toList 0 i with | some (_, v) => (pure (v, true) : Sem (Value × Bool)) | none => do pure (← zeroValue e, false)).run P w = .ok (v, ok') w →
       (Instr.lookup t (ρ m) (ρ k) ok).run P w=.ok (if ok then .tuple #[v,.bool ok'] else v) w:=fun {v ok'} hrun=>by
    rw [h4]
    simp only [Instr.lookup,Sem.run_bind,run_underlying (V9 h1),Result.andThen_ok,XE hb,Sem.run_pure,pure_bind,Yw hc.2 hc.1.2 hk,qai hc.2 hc.1.2 hk hents hi]
    generalize hit ents.toList 0 i=q at hrun ⊢
    cases q with
    | none=>
     simp only [Sem.run_bind,Sem.run_pure] at hrun ⊢
     cases hz:(zeroValue e).run P w with
     | ok a w1=>rw [hz] at hrun; cases hrun; rfl
     | halt a w1=>rw [hz] at hrun; cases hrun
    | some q=>simp only [Sem.run_pure,Result.andThen_ok] at hrun ⊢; cases hrun; rfl
   cases i with
   | none=>
    simp only [Option.bind_none] at e2
    obtain ⟨z,p3,p4,e3,e4,_,_⟩:=qJ e2 hp2
    obtain ⟨zv,cs,hz1,hz2,hz3,_,_⟩:=Wd (ob:=ob) (γ:=γ) (G:=G) (w:=w) (Jh e3)
    refine ⟨_,run (v:=zv) (ok':=false) (by simp [hit,hz1]),?_⟩
    rw [qq e4]
    cases ok
    ·exact qeY hz2 hz3
    ·exact ⟨[zv,.bool false],rfl,by simp only [zB]; exact ⟨cs,zv,_,rfl,hz2,hz3,[.bool false],.bool false,[],rfl,by simp [qm,qG],rfl,rfl⟩⟩
   | some i=>
    obtain ⟨j,x,n,h5,h6⟩:=qFa hi
    obtain ⟨en,h7,h8,h9,h10⟩:=q_.at hents h5
    simp only [Option.bind_some,h5,Option.map_some] at e2
    refine ⟨_,run (v:=en.val) (ok':=true) (by simp only [hit,Option.bind_some,h7,Option.map_some]; rfl),?_⟩
    cases ok with
    | false=>rw [qq e2]; exact h9.1
    | true=>
     obtain ⟨hsol,e2⟩:=qO e2
     rw [qq e2]
     obtain ⟨cs,g1,g2⟩:=qhP hsol h9.1
     exact ⟨[en.val,.bool true],rfl,by simp only [zB]; exact ⟨cs,en.val,_,rfl,g1,g2,[.bool true],.bool true,[],rfl,by simp [qm,qG],rfl,rfl⟩⟩
  ·simp at hs
 ·simp at hs
end g
end Go.Rx
end
noncomputable section
namespace Go.Rx
section g
variable {P:Program} {ob:Ob} {γ:Hm} {G:Gh} {w:World}
theorem qlT (γ:Hm) (l:Nat):upd γ l (γ l)=γ:=by
 funext j; unfold upd; split
 ·rename_i h; rw [h]
 ·rfl
theorem XW (H : qL ob γ G w) {l : Nat} {o : jc} (ho : get ob l = some o) (o' : jc) (G' : Gh) (w' : World) (hsz : w'.heap.size = w.heap.size) (hfr : ∀ b, b ≠ (γ l).1 → w'.heap[b]? = w.heap[b]?) (hk : J0 G w G' w')
    (hg:∀ b i,G' b i→¬ G b i→b=(γ l).1) (hm:Vt γ γ l o o') (hcl:∀ n∈o'.names,∃ x,get (ins l o' ob) n=some x) (hobj:Trans ob γ G w (ins l o' ob) γ G' w'→zq (ins l o' ob) γ G' w' l o') (hio:WV w w':=by exact ⟨rfl,rfl⟩) (hv:live γ l o:=by trivial) :
    qL (ins l o' ob) γ G' w'∧Trans ob γ G w (ins l o' ob) γ G' w':=by
 have:=qAN H l o' (γ l) G' w' (by omega) (fun b _ hb=>hfr b hb) hk hg (by have:=(H.obj l o ho).lt hv; omega) (.inr ⟨o,ho,hv,rfl⟩)
  (fun x hx=>by rw [ho] at hx; cases hx; rw [qlT]; exact hm) hcl (by rw [qlT]; exact hobj) hio
 rw [qlT] at this
 exact this
theorem XS {b:Nat} (hno:∀ i,¬ G b i) {w':World} (hfr:∀ b',b'≠b→w'.heap[b']?=w.heap[b']?):J0 G w G w':=
 ⟨fun _ _ h=>h,fun b' i h=>by
  have:b'≠b:=by rintro rfl; exact hno i h
  simp only [World.cell?,hfr b' this]⟩
theorem ZU {α:Type} (a:Array α) (i j:Nat) (x:α) (h:j≠i):(a.setIfInBounds i x)[j]?=a[j]?:=by
 rw [Array.getElem?_setIfInBounds_ne (fun e=>h e.symm)]
theorem YD {α:Type} (a:Array α) (i:Nat) (x:α) (h:i < a.size):(a.setIfInBounds i x)[i]?=some x:=by
 rw [Array.getElem?_setIfInBounds_self_of_lt h]
mutual
theorem WJ:∀ (x:AV) (cs:List Value),qm ob γ G w x cs→∀ n∈x.names,∃ o,get ob n=some o
 | .pv _,_,_,n,hn=>by simp [AV.names] at hn
 | .ag xs,cs,h,n,hn=>by simp only [qm] at h; simp only [AV.names] at hn; exact qob xs cs h n hn
 | .nils,_,_,n,hn=>by simp [AV.names] at hn
 | .v l m,cs,h,n,hn=>by
  simp only [AV.names,List.mem_singleton] at hn; subst hn
  simp only [qm] at h
  obtain ⟨b,cap,_,_,⟨fz,sz,x,h,_⟩ | ⟨xs,_,_,h,_⟩⟩:=h
  ·exact ⟨_,h⟩
  ·exact ⟨_,h⟩
 | .p l path off,cs,h,n,hn=>by
  simp only [AV.names,List.mem_singleton] at hn; subst hn
  simp only [qm] at h
  obtain ⟨_,ro,c,h⟩:=h
  exact ⟨_,h⟩
 | .pe l m path off,cs,h,n,hn=>by
  simp only [AV.names,List.mem_singleton] at hn; subst hn
  simp only [qm] at h
  obtain ⟨b,_,⟨fz,sz,x,h,_⟩ | ⟨xs,h,_⟩⟩:=h
  ·exact ⟨_,h⟩
  ·exact ⟨_,h⟩
 | .ro _,_,_,n,hn=>by simp [AV.names] at hn
 | .nilp,_,_,n,hn=>by simp [AV.names] at hn
 | .m l,cs,h,n,hn=>by
  simp only [AV.names,List.mem_singleton] at hn; subst hn
  simp only [qm] at h
  obtain ⟨_,c,es,h⟩:=h
  exact ⟨_,h⟩
 | .nilm,_,_,n,hn=>by simp [AV.names] at hn
 | .fn f a c,cs,h,n,hn=>by
  simp only [qm] at h
  obtain ⟨va,vc,_,h1,h2⟩:=h
  simp only [AV.names,List.mem_append] at hn
  rcases hn with hn | hn
  ·exact qj_ a va h1 n hn
  ·exact qj_ c vc h2 n hn
 | .nilf,_,_,n,hn=>by simp [AV.names] at hn
 | .iface t x,cs,h,n,hn=>by
  simp only [qm] at h
  obtain ⟨c,v,_,h1,_⟩:=h
  simp only [AV.names] at hn
  exact WJ x c h1 n hn
 | .nili,_,_,n,hn=>by simp [AV.names] at hn
 | .yl l,_,h,n,hn=>by
  simp only [qm] at h
  simp only [AV.names,List.mem_singleton] at hn; subst hn
  obtain ⟨_,ps,m,sl,as0,bd,fn,st,pe,d,hg⟩:=h
  exact ⟨_,hg⟩
 | .es _,_,h,n,hn=>by simp [AV.names] at hn
 | .tup _,_,h,n,hn=>by simp [qm] at h
 | .undef,_,h,n,hn=>by simp [qm] at h
theorem qob:∀ (xs:List AV) (cs:List Value),zh ob γ G w xs cs→∀ n∈AV.q9 xs,∃ o,get ob n=some o
 | [],_,_,n,hn=>by simp [AV.q9] at hn
 | x::xs,cs,h,n,hn=>by
  simp only [zh] at h
  obtain ⟨c,d,_,h1,h2⟩:=h
  simp only [AV.q9,List.mem_append] at hn
  rcases hn with hn | hn
  ·exact WJ x c h1 n hn
  ·exact qob xs d h2 n hn
theorem qj_:∀ (xs:List AV) (vs:List Value),zB ob γ G w xs vs→∀ n∈AV.q9 xs,∃ o,get ob n=some o
 | [],_,_,n,hn=>by simp [AV.q9] at hn
 | x::xs,vs,h,n,hn=>by
  simp only [zB] at h
  obtain ⟨c,v,r,_,h1,_,h2⟩:=h
  simp only [AV.q9,List.mem_append] at hn
  rcases hn with hn | hn
  ·exact WJ x c h1 n hn
  ·exact qj_ xs r h2 n hn
end
theorem qqX {x:AV} {v:Value} (h:qM ob γ G w x v):∀ n∈x.names,∃ o,get ob n=some o:=by
 intro n hn
 rcases qq8 h with ⟨xs,rfl⟩ | rfl | ⟨cs,h1,_⟩
 ·obtain ⟨vs,_,h2⟩:=h
  simp only [AV.names] at hn
  exact qj_ xs vs h2 n hn
 ·simp [AV.names] at hn
 ·exact WJ x cs h1 n hn
def XV (P:Program) (ob:Ob) (γ:Hm) (G:Gh) (w:World) (s:Sem Value) (r:AV) (ob':Ob):Prop:=
 ∃ v γ' G' w',s.run P w=.ok v w'∧qL ob' γ' G' w'∧Trans ob γ G w ob' γ' G' w'∧qM ob' γ' G' w' r v
theorem qeH (H : qL ob γ G w) {l c : Nat} {es : jN} (ho : get ob l = some (.map c es)) {c' : Nat} {es' : jN} {ents' : Array MapEntry}
    (hr:q_ ob γ G w es' ents'.toList) (hlt:∀ e∈es',e.2.2 < c') (hnd:(es'.map (·.2.2)).Nodup) :
    qL (ins l (.map c' es') ob) γ G { w with heap:=w.heap.setIfInBounds (γ l).1 (.map ents' c') }∧Trans ob γ G w (ins l (.map c' es') ob) γ G { w with heap:=w.heap.setIfInBounds (γ l).1 (.map ents' c') }:=by
 have h0:=H.obj l _ ho
 have hb:=h0.lt trivial
 simp only [zq] at h0
 obtain ⟨ents,h1,h2,h3,h4,h5⟩:=h0
 refine XW H ho (.map c' es') G _ (by simp) (fun b hb=>by simp only; exact ZU _ _ _ _ hb) (XS h5 fun b' hb'=>by simp only; exact ZU _ _ _ _ hb') (fun _ _ h h'=>absurd h h') rfl ?_ ?_
 ·intro n hnn
  simp [jc.names] at hnn
 ·intro T
  simp only [zq]
  exact ⟨ents',YD _ _ _ hb,q_.step T _ _ hr,hlt,hnd,h5⟩
theorem qPg {x:AV} (h:x.Y1=true):x.Ja=true:=by cases x<;>first | rfl | (simp [AV.Y1] at h)
theorem qn2 {α:Type} (a:Array α) (i:Nat) (f:α→α) (x:α) (h:a.toList[i]?=some x):(a.modify i f).toList=a.toList.set i (f x):=by
 have hi:i < a.size:=by simpa using (List.getElem?_eq_some_iff.1 h).1
 apply List.ext_getElem
 ·simp
 ·intro j h1 h2
  simp only [Array.getElem_toList,Array.getElem_modify,List.getElem_set]
  split
  ·rename_i e; subst e
   obtain ⟨_,h⟩:=List.getElem?_eq_some_iff.1 h
   simp at h; simp [h]
  ·rfl
theorem qJf {v:Value}:∃ w',(Instr.keyThatStays v v).run P w=.ok v w'∧w'.heap=w.heap∧w'.tape=w.tape∧WV w w':=by
 unfold Instr.keyThatStays
 by_cases h:Instr.sameBits 10000 v v=true
 ·exact ⟨w,by rw [if_pos h]; rfl,rfl,rfl,rfl,rfl⟩
 ·refine ⟨{ w with drawn:=w.drawn + 1 },?_,rfl,rfl,rfl,rfl⟩
  rw [if_neg h]
  simp only [Sem.run_bind,run_choose,Question.forced]
  simp
theorem qHZ {k j:PV} {vk vj:Value} (h:KM k j=some true) (hk:qM ob γ G w (.pv k) vk) (hj:qM ob γ G w (.pv j) vj):vj=vk:=by
 unfold KM at h
 split at h
 ·rename_i ha
  obtain ⟨cs,hr,ho⟩:=QH.1 hk
  obtain ⟨ds,hr',ho'⟩:=QH.1 hj
  have:=qI5 k j cs ds ha h hr hr'
  subst this
  have hag:AV.isAgg (.pv k)=AV.isAgg (.pv j):=by cases k<;>cases j<;>first | rfl | (simp [PV.alike] at ha)
  rw [hag] at ho
  cases hq:AV.isAgg (.pv j) with
  | true=>rw [hq] at ho ho'; simp only [zp] at ho ho'; rw [ho,ho']
  | false=>rw [hq] at ho ho'; simp only [zp] at ho ho'; rw [ho] at ho'; simpa using ho'.symm
 ·simp at h
theorem qxD {w':World} (h:w'.heap=w.heap) (H:qL ob γ G w) (hio:WV w w':=by exact ⟨rfl,rfl⟩):qL ob γ G w'∧Trans ob γ G w ob γ G w':=
 qo7 H G w' (by rw [h]; exact Nat.le_refl _) (fun b _=>by rw [h]) (fun _ _ h=>h) (fun b o h1 h2=>absurd h1 h2) hio
theorem qt6 {es:jN} {i:Nat} {j k:PV} {x y:AV} {n:Nat} (h:es[i]?=some (j,y,n)):(es.set i (k,x,n)).map (·.2.2)=es.map (·.2.2):=by
 rw [List.map_set]
 apply List.ext_getElem?
 intro q
 rw [List.getElem?_set]
 split
 ·rename_i e; subst e
  split
  ·simp [h]
  ·rename_i h2; simp at h2; rw [List.getElem?_eq_none (by simpa using h2)]
 ·rfl
theorem qq7 {es:jN} {i c:Nat} {j k:PV} {x y:AV} {n:Nat} (h:es[i]?=some (j,y,n)) (hlt:∀ e∈es,e.2.2 < c):∀ e∈es.set i (k,x,n),e.2.2 < c:=by
 intro e he
 rcases List.mem_or_eq_of_mem_set he with h1 | rfl
 ·exact hlt e h1
 ·exact hlt (j,y,n) (List.mem_of_getElem? h)
theorem qAJ (H : qL ob γ G w) {val : Operand → AV} {ρ : Operand → Value} (S : jt ob γ G w val ρ) {t kt e : TypeId} {m k x : Operand} {l c c' : Nat} {kk : PV} {es es' : jN}
    (h1:qy P t=some (.map kt e)) (h2:val m=.m l) (h3:val k=.pv kk) (hg:get ob l=some (.map c es)) (hf:fit P 30 kt (.pv kk)=true) (ht:eqT P 30 kt=true) (hpv:(val x).Y1=true) (hput:qaF kk (val x) c es=some (c',es')) :
    ∃ G' w',(Instr.mapUpdate t (ρ m) (ρ k) (ρ x)).run P w=.ok () w'∧qL (ins l (.map c' es') ob) γ G' w'∧Trans ob γ G w (ins l (.map c' es') ob) γ G' w':=by
 have hk:=S k
 rw [h3] at hk
 have hm:=S m
 rw [h2] at hm
 have:=zx rfl rfl hm
 simp only [qm] at this
 obtain ⟨h4,_⟩:=this
 simp only [List.cons.injEq,and_true] at h4
 have h0:=H.obj _ _ hg
 simp only [zq] at h0
 obtain ⟨ents,hb,hents,hlt,hnd,hng⟩:=h0
 rcases qtc hput with ⟨hi,rfl,rfl⟩ | ⟨i,j,y,n,hi,h5,h6,hcc,rfl⟩
 ·have hT := qeH H hg (c' := c + 1) (es' := es ++ [(kk, val x, c)]) (ents' := ents.push { key := ρ k, val := ρ x, born := c }) (by simpa using q_.push (e := { key := ρ k, val := ρ x, born := c }) hents hk ⟨S x, hpv⟩ rfl)
     (fun e he=>by
      rcases List.mem_append.1 he with he | he
      ·have:=hlt e he; omega
      ·simp at he; subst he; simp)
     (by
      simp only [List.map_append,List.map_cons,List.map_nil]
      refine List.nodup_append.2 ⟨hnd,by simp,fun a ha b hb=>?_⟩
      simp at hb; subst hb
      obtain ⟨e,he,rfl⟩:=List.mem_map.1 ha
      have:=hlt e he; omega)
  refine ⟨G,_,?_,hT.1,hT.2⟩
  rw [h4]
  simp only [Instr.mapUpdate,Sem.run_bind,run_underlying (V9 h1),Result.andThen_ok,XE hb,Yw ht hf hk,qai ht hf hk hents hi,hit,Option.bind_none,qag _ hb]
 ·subst hcc
  obtain ⟨en,h7,h8,h9,h10⟩:=q_.at hents h5
  have hv:=qHZ h6 hk h8
  obtain ⟨w1,hw1,hw2,hw3,hio⟩:=qJf (P:=P) (w:=w) (v:=ρ k)
  have H1:=qxD hw2 H hio
  have hents1:q_ ob γ G w1 es ents.toList:=q_.step H1.2 _ _ hents
  have hT:=qeH H1.1 hg (es':=es.set i (kk,val x,n)) (ents':=ents.modify i fun e=>{ e with key:=ρ k,val:=ρ x })
   (by
    rw [qn2 _ _ _ _ h7]
    exact q_.set hents1 (qM.step H1.2 _ _ hk) ⟨qM.step H1.2 _ _ (S x),hpv⟩ h10)
   (qq7 h5 hlt) (by rw [qt6 h5]; exact hnd)
  refine ⟨G,_,?_,hT.1,H1.2.trans H hT.2⟩
  rw [h4]
  have h7':ents[i]?=some en:=by simpa using h7
  simp only [Instr.mapUpdate,Sem.run_bind,run_underlying (V9 h1),Result.andThen_ok,XE hb,Yw ht hf hk,qai ht hf hk hents hi,hit,Option.bind_some,h7,Option.map_some,h7',Option.getD_some,hv,Nat.zero_add,hw1]
  rw [qag (es:=ents) _ (by rw [hw2]; exact hb)]
theorem qoS (H : qL ob γ G w) {val : Operand → AV} {ρ : Operand → Value} (S : jt ob γ G w val ρ) {t kt e : TypeId} {m k : Operand} {l c c' : Nat} {kk : PV} {es es' : jN} {r : Option (AV × Nat)} {y : AV} {b : Int}
    (h1:qy P t=some (.map kt e)) (h2:val m=.m l) (h3:val k=.pv kk) (hg:get ob l=some (.map c es)) (hf:fit P 30 kt (.pv kk)=true) (ht:eqT P 30 kt=true) (hfind:Vb kk es=some r)
    (hr:match r with | some (x,n)=>y=x∧b=n | none=>zeroOf P e=some y∧b=c∧y.Y1=true) (hput:qaF kk y c es=some (c',es')) :
    XV P ob γ G w (Instr.mapEntry t (ρ m) (ρ k)) (.tup [y,.pv (.i .i64 b)]) (ins l (.map c' es') ob):=by
 have hk:=S k
 rw [h3] at hk
 have hm:=S m
 rw [h2] at hm
 have:=zx rfl rfl hm
 simp only [qm] at this
 obtain ⟨h4,_⟩:=this
 simp only [List.cons.injEq,and_true] at h4
 have h0:=H.obj _ _ hg
 simp only [zq] at h0
 obtain ⟨ents,hb,hents,hlt,hnd,hng⟩:=h0
 have two:∀ {ob:Ob} {γ:Hm} {G:Gh} {w:World} {x:AV} {v:Value} {cs:List Value} {n:Int},qm ob γ G w x cs→zp x.isAgg cs v→qM ob γ G w (.tup [x,.pv (.i .i64 n)]) (.tuple #[v,.int .i64 n]):=fun g1 g2=>
  ⟨[_,_],rfl,by simp only [zB]; exact ⟨_,_,_,rfl,g1,g2,[_],_,[],rfl,by simp only [qm,qG],rfl,rfl⟩⟩
 obtain ⟨i',hi',hri⟩:=qrR hfind
 rcases qtc hput with ⟨hi,rfl,rfl⟩ | ⟨i,j,y',n,hi,h5,h6,hcc,rfl⟩
 ·rw [hi] at hi'; cases hi'
  simp only [Option.bind_none] at hri
  subst hri
  obtain ⟨hz,rfl,hpv⟩:=hr
  obtain ⟨zv,cs,hz1,hz2,hz3,_,_⟩:=Wd (ob:=ob) (γ:=γ) (G:=G) (w:=w) hz
  have hT:=qeH H hg (c':=c + 1) (es':=es++[(kk,y,c)]) (ents':=ents.push { key:=ρ k,val:=zv,born:=c }) (by simpa using q_.push (e:={ key:=ρ k,val:=zv,born:=c }) hents hk ⟨qeY hz2 hz3,hpv⟩ rfl)
   (fun e he=>by
    rcases List.mem_append.1 he with he | he
    ·have:=hlt e he; omega
    ·simp at he; subst he; simp)
   (by
    simp only [List.map_append,List.map_cons,List.map_nil]
    refine List.nodup_append.2 ⟨hnd,by simp,fun a ha b hb=>?_⟩
    simp at hb; subst hb
    obtain ⟨e,he,rfl⟩:=List.mem_map.1 ha
    have:=hlt e he; omega)
  refine ⟨.tuple #[zv,.int .i64 c],γ,G,_,?_,hT.1,hT.2,two (qm.step hT.2 _ _ hz2) hz3⟩
  rw [h4]
  simp only [Instr.mapEntry,Sem.run_bind,run_underlying (V9 h1),Result.andThen_ok,XE hb,Yw ht hf hk,qai ht hf hk hents hi,hit,Option.bind_none,hz1,qag _ hb,Sem.run_pure,goInt]
 ·subst hcc
  rw [hi] at hi'; cases hi'
  simp only [Option.bind_some,h5,Option.map_some] at hri
  subst hri
  obtain ⟨rfl,rfl⟩:=hr
  obtain ⟨en,h7,h8,h9,h10⟩:=q_.at hents h5
  have hv:=qHZ h6 hk h8
  obtain ⟨w1,hw1,hw2,hw3,hio⟩:=qJf (P:=P) (w:=w) (v:=ρ k)
  have H1:=qxD hw2 H hio
  have hents1:q_ ob γ G w1 es ents.toList:=q_.step H1.2 _ _ hents
  have hT:=qeH H1.1 hg (es':=es.set i (kk,y,n)) (ents':=ents.modify i fun e=>{ e with key:=ρ k })
   (by
    rw [qn2 _ _ _ _ h7]
    exact q_.set hents1 (qM.step H1.2 _ _ hk) ⟨qM.step H1.2 _ _ h9.1,h9.2⟩ h10)
   (qq7 h5 hlt) (by rw [qt6 h5]; exact hnd)
  obtain ⟨cs,g1,g2⟩:=qhP (qPg h9.2) h9.1
  refine ⟨.tuple #[en.val,.int .i64 n],γ,G,_,?_,hT.1,H1.2.trans H hT.2,two (qm.step (H1.2.trans H hT.2) _ _ g1) g2⟩
  rw [h4]
  have h7':ents[i]?=some en:=by simpa using h7
  simp only [Instr.mapEntry,Sem.run_bind,run_underlying (V9 h1),Result.andThen_ok,XE hb,Yw ht hf hk,qai ht hf hk hents hi,hit,Option.bind_some,h7,Option.map_some,h7',Option.getD_some,hv,Nat.zero_add,hw1]
  rw [qag (es:=ents) _ (by rw [hw2]; exact hb)]
  simp only [Result.andThen_ok,Sem.run_pure,goInt,h10]
theorem qzN (H : qL ob γ G w) {val : Operand → AV} {ρ : Operand → Value} (S : jt ob γ G w val ρ) {t : TypeId} {m s x : Operand} {l c : Nat} {kd : IntKind} {born : Int} {es es' : jN}
    (h2:val m=.m l) (h3:val s=.pv (.i kd born)) (hg:get ob l=some (.map c es)) (hpv:(val x).Y1=true) (hat:qgd born (val x) es=some es') :
    ∃ G' w',(Instr.entryStore t (ρ m) (ρ s) (ρ x)).run P w=.ok () w'∧qL (ins l (.map c es') ob) γ G' w'∧Trans ob γ G w (ins l (.map c es') ob) γ G' w':=by
 have hs:=S s
 rw [h3,jr] at hs
 have hm:=S m
 rw [h2] at hm
 have:=zx rfl rfl hm
 simp only [qm] at this
 obtain ⟨h4,_⟩:=this
 simp only [List.cons.injEq,and_true] at h4
 have h0:=H.obj _ _ hg
 simp only [zq] at h0
 obtain ⟨ents,hb,hents,hlt,hnd,hng⟩:=h0
 obtain ⟨i,j,y,n,h5,h6,rfl,h8⟩:=qJF hat
 obtain ⟨en,h7,g8,g9,g10⟩:=q_.at hents h5
 have hT:=qeH H hg (c':=c) (es':=es.set i (j,val x,n)) (ents':=ents.modify i fun e=>{ e with val:=ρ x })
  (by
   rw [qn2 _ _ _ _ h7]
   exact q_.set hents g8 ⟨S x,hpv⟩ g10)
  (qq7 h5 hlt) (by rw [qt6 h5]; exact hnd)
 refine ⟨G,_,?_,hT.1,hT.2⟩
 rw [h4,hs]
 have hidx:ents.findIdx? (fun e=>(e.born:Int) == born)=some i:=by
  rw [Array.findIdx?_eq_some_iff_getElem]
  have hil:i < ents.size:=by simpa using (List.getElem?_eq_some_iff.1 h7).1
  refine ⟨hil,?_,fun k hk=>?_⟩
  ·have:=(List.getElem?_eq_some_iff.1 h7).2
   simp at this
   simp [this,g10,h6]
  ·have hkl:k < es.length:=by rw [q_.len hents]; simp; omega
   obtain ⟨e',q1,q2,q3,q4⟩:=q_.at (i:=k) (k:=es[k].1) (x:=es[k].2.1) (n:=es[k].2.2) hents (List.getElem?_eq_getElem hkl)
   have:=h8 k _ hk (List.getElem?_eq_getElem hkl)
   have q5:=(List.getElem?_eq_some_iff.1 q1).2
   simp at q5
   simp [q5,q4,this]
 simp only [Instr.entryStore,Sem.run_bind,XE hb,Result.andThen_ok,Go.asInt,Vq,Sem.run_pure,hidx,qag _ hb]
theorem qHq (H : qL ob γ G w) {val : Operand → AV} {ρ : Operand → Value} (S : jt ob γ G w val ρ) {t u kt e ty : TypeId} {m k : Operand} {l c : Nat} {kk : PV} {es es' : jN}
    (h1:qy P t=some (.map kt e)) (h2:val m=.m l) (h3:val k=.pv kk) (hg:get ob l=some (.map c es)) (hf:fit P 30 kt (.pv kk)=true) (ht:eqT P 30 kt=true) (hdel:qbY kk es=some es') :
    ∃ G' w',(Builtin.delete_ #[t,u] ty #[ρ m,ρ k]).run P w=.ok (.tuple #[]) w'∧qL (ins l (.map c es') ob) γ G' w'∧Trans ob γ G w (ins l (.map c es') ob) γ G' w':=by
 have hk:=S k
 rw [h3] at hk
 have hm:=S m
 rw [h2] at hm
 have:=zx rfl rfl hm
 simp only [qm] at this
 obtain ⟨h4,_⟩:=this
 simp only [List.cons.injEq,and_true] at h4
 have h0:=H.obj _ _ hg
 simp only [zq] at h0
 obtain ⟨ents,hb,hents,hlt,hnd,hng⟩:=h0
 rcases qEN hdel with ⟨hi,rfl⟩ | ⟨i,hi,hil,rfl⟩
 ·have hT:=qeH H hg (ents':=ents) hents hlt hnd
  refine ⟨G,_,?_,hT.1,hT.2⟩
  rw [h4]
  simp [Builtin.delete_,run_underlying (V9 h1),XE hb,Yw ht hf hk,qai ht hf hk hents hi,hit,qag _ hb]
 ·have h5:es[i]?=some (es[i].1,es[i].2.1,es[i].2.2):=List.getElem?_eq_getElem hil
  obtain ⟨en,h7,h8,h9,h10⟩:=q_.at hents h5
  have hT:=qeH H hg (c':=c) (es':=es.eraseIdx i) (ents':=ents.eraseIdxIfInBounds i)
   (by
    have:(ents.eraseIdxIfInBounds i).toList=ents.toList.eraseIdx i:=by simp
    rw [this]
    exact q_.erase hents)
   (fun e he=>hlt e (List.mem_of_mem_eraseIdx he))
   (hnd.sublist ((List.eraseIdx_sublist es i).map _))
  refine ⟨G,_,?_,hT.1,hT.2⟩
  rw [h4]
  have h7':ents[i]?=some en:=by simpa using h7
  simp [Builtin.delete_,run_underlying (V9 h1),XE hb,Yw ht hf hk,qai ht hf hk hents hi,hit,qag _ hb,h7']
end g
end Go.Rx
end
