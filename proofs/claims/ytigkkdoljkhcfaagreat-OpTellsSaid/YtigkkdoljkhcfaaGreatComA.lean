/- A machine over pure data, sound for the model: a part of the proof of the laws. No condition. -/
import Derived.Calls
import Derived.Orders
import Derived.Laws.StructEq
import Derived.Stop.BytesEq
import Derived.Laws.BytesString
import Derived.Laws.Cells
import Derived.Laws.Tables
import Derived.Laws.Strings
set_option linter.unusedSimpArgs false
set_option linter.unusedVariables false
set_option linter.unusedSectionVars false
noncomputable section
namespace Go.Rx
inductive PV where
 | b (x:Bool)
 | i (k:IntKind) (n:Int)
 | s (x:List UInt8)
 | ba (n:Nat) (x:Vector UInt8 n)
 | wa (n:Nat) (x:Vector UInt32 n)
 | ag (xs:List PV)
 | l (sz:Nat) (xs:List PV)
 | bl (xs:List UInt8)
 deriving Inhabited
mutual
def PV.size:PV→Nat
 | .ba n _=>n
 | .wa n _=>n
 | .ag xs=>PV.zu xs
 | .b _ | .i _ _ | .s _ | .l _ _ | .bl _=>1
def PV.zu:List PV→Nat
 | []=>0
 | x::xs=>x.size + PV.zu xs
end
def u8 (c:UInt8):PV:=.i .u8 c.toNat
def u32 (c:UInt32):PV:=.i .u32 c.toNat
def PV.len:PV→Nat
 | .l _ xs=>xs.length
 | .bl xs=>xs.length
 | _=>0
def PV.Zi:PV→Bool
 | .l _ _ | .bl _=>true
 | _=>false
def PV.zh:PV→Nat→Option PV
 | .l _ xs,k=>xs[k]?
 | .bl xs,k=>(xs[k]?).map u8
 | _,_=>none
def PV.app:PV→PV→Option PV
 | .l sz xs,.l sz' ys=>match sz == sz' with
  | true=>some (.l sz (xs++ys))
  | false=>none
 | .bl xs,.bl ys=>some (.bl (xs++ys))
 | .bl xs,.s ys=>some (.bl (xs++ys))
 | _,_=>none
def PV.sub:PV→Nat→Nat→PV
 | .l sz xs,lo,hi=>.l sz ((xs.take hi).drop lo)
 | .bl xs,lo,hi=>.bl ((xs.take hi).drop lo)
 | x,_,_=>x
inductive AV where
 | pv (x:PV)
 | ag (xs:List AV)
 | nils
 | v (l n:Nat)
 | p (l:Nat) (path:List Nat) (off:Nat)
 | pe (l n:Nat) (path:List Nat) (off:Nat)
 | ro (x:PV)
 | nilp
 | m (l:Nat)
 | nilm
 | fn (f:Fn) (first cap:List AV)
 | nilf
 | iface (t:TypeId) (x:AV)
 | nili
 | tup (xs:List AV)
 | yl (l:Nat)
 | es (k:Nat)
 | undef
 deriving Inhabited
mutual
def AV.size:AV→Nat
 | .pv x=>x.size
 | .ag xs=>AV.zu xs
 | .nils | .v .. | .p .. | .pe .. | .ro _ | .nilp | .m _ | .nilm | .fn .. | .nilf | .iface .. | .nili | .tup _ | .yl _ | .es _ | .undef=>1
def AV.zu:List AV→Nat
 | []=>0
 | x::xs=>x.size + AV.zu xs
end
mutual
def AV.names:AV→List Nat
 | .v l _ | .p l _ _ | .pe l _ _ _ | .m l | .yl l=>[l]
 | .ag xs | .tup xs=>AV.qJ xs
 | .fn _ a b=>AV.qJ a++AV.qJ b
 | .iface _ x=>x.names
 | .pv _ | .nils | .ro _ | .nilp | .nilm | .nilf | .nili | .undef | .es _=>[]
def AV.qJ:List AV→List Nat
 | []=>[]
 | x::xs=>x.names++AV.qJ xs
end
def AV.isAgg:AV→Bool
 | .pv (.ba ..) | .pv (.wa ..) | .pv (.ag _) | .ag _=>true
 | _=>false
def AV.QA:List AV→Option (List PV)
 | []=>some []
 | .pv x::xs=>(AV.QA xs).map (x::·)
 | _::_=>none
def AV.mk (xs:List AV):AV:=
 match AV.QA xs with
 | some ys=>.pv (.ag ys)
 | none=>.ag xs
def AV.at:List Nat→AV→Option AV
 | [],x=>some x
 | k::r,.pv (.ag xs)=>match xs[k]? with
  | some y=>AV.at r (.pv y)
  | none=>none
 | k::r,.ag xs=>match xs[k]? with
  | some y=>AV.at r y
  | none=>none
 | [k],.pv (.ba _ x)=>some (.pv (u8 (x.toList.getD k 0)))
 | [k],.pv (.wa _ x)=>some (.pv (u32 (x.toList.getD k 0)))
 | _::_,_=>none
def AV.za:List Nat→AV→Option Nat
 | [],_=>some 0
 | k::r,.pv (.ag xs)=>match xs[k]? with
  | some y=>(AV.za r (.pv y)).map (PV.zu (xs.take k) + ·)
  | none=>none
 | k::r,.ag xs=>match xs[k]? with
  | some y=>(AV.za r y).map (AV.zu (xs.take k) + ·)
  | none=>none
 | [k],.pv (.ba _ _)=>some k
 | [k],.pv (.wa _ _)=>some k
 | _::_,_=>none
def AV.inR:List Nat→AV→List Prop
 | [],_=>[]
 | k::r,.pv (.ag xs)=>match xs[k]? with
  | some y=>AV.inR r (.pv y)
  | none=>[]
 | k::r,.ag xs=>match xs[k]? with
  | some y=>AV.inR r y
  | none=>[]
 | [k],.pv (.ba n _)=>[k < n]
 | [k],.pv (.wa n _)=>[k < n]
 | _::_,_=>[]
inductive zm where
 | cell (ro:Bool) (x:AV)
 | vec (fz:Bool) (sz:Nat) (x:PV)
 | fns (xs:List AV)
 | map (clock:Nat) (es:List (PV×AV×Nat))
 | loop (params:List Tmp) (n:Nat) (slots:List (Nat×AV)) (assign body:Code) (fn:FuncId) (state:LoopState) (pending:Option Code) (d:Nat)
 | dfr (o:Bool)
 deriving Inhabited
def AV.Xo:AV→Bool
 | .pv _=>true
 | _=>false
def zm.names:zm→List Nat
 | .cell _ x=>x.names
 | .vec ..=>[]
 | .fns xs=>AV.qJ xs
 | .map _ _=>[]
 | .loop _ _ sl _ _ _ _ _ d=>d::AV.qJ (sl.map (·.2))
 | .dfr _=>[]
abbrev Sl:=List (Nat×AV)
abbrev Ob:=List (Nat×zm)
@[irreducible] def get {α:Type} (h:List (Nat×α)) (k:Nat):Option α:=@List.rec (Nat×α) (fun _=>Option α) none (fun e _ ih=>@Bool.rec (fun _=>Option α) ih (some e.2) (Nat.beq e.1 k)) h
theorem get_nil {α:Type} (k:Nat):get ([]:List (Nat×α)) k=none:=by with_unfolding_all rfl
theorem q8 {α:Type} (a:Nat) (x:α) (r:List (Nat×α)) (k:Nat):get ((a,x)::r) k=if a=k then some x else get r k:=by
 have e0:get ((a,x)::r) k=@Bool.rec (fun _=>Option α) (get r k) (some x) (Nat.beq a k):=by with_unfolding_all rfl
 rw [e0]
 by_cases h:a=k
 ·subst h; rw [if_pos rfl,show Nat.beq a a=true from Nat.beq_refl a]
 ·rw [if_neg h]
  cases e:Nat.beq a k with
  | true=>exact (h (Nat.eq_of_beq_eq_true e)).elim
  | false=>rfl
@[irreducible] def ins {α:Type} (k:Nat) (x:α) (h:List (Nat×α)):List (Nat×α):=@List.rec (Nat×α) (fun _=>List (Nat×α)) [(k,x)] (fun e r ih=>@Bool.rec (fun _=>List (Nat×α)) ((k,x)::e::r) (@Bool.rec (fun _=>List (Nat×α)) (e::ih) ((k,x)::r) (Nat.beq e.1 k)) (Nat.ble e.1 k)) h
theorem qhr {α:Type} (k:Nat) (x:α):ins k x []=[(k,x)]:=by with_unfolding_all rfl
theorem qi0 {α:Type} (k:Nat) (x:α) (a:Nat) (y:α) (r:List (Nat×α)):ins k x ((a,y)::r)=if k < a then (k,x)::(a,y)::r else if k=a then (k,x)::r else (a,y)::ins k x r:=by
 have e0:ins k x ((a,y)::r)=@Bool.rec (fun _=>List (Nat×α)) ((k,x)::(a,y)::r) (@Bool.rec (fun _=>List (Nat×α)) ((a,y)::ins k x r) ((k,x)::r) (Nat.beq a k)) (Nat.ble a k):=by with_unfolding_all rfl
 rw [e0]
 by_cases h:k < a
 ·rw [if_pos h]
  cases e:Nat.ble a k with
  | true=>exact absurd (Nat.le_of_ble_eq_true e) (by omega)
  | false=>rfl
 ·rw [if_neg h,show Nat.ble a k=true from Nat.ble_eq_true_of_le (by omega)]
  by_cases h2:k=a
  ·subst h2; rw [if_pos rfl,show Nat.beq k k=true from Nat.beq_refl k]
  ·rw [if_neg h2]
   cases e:Nat.beq a k with
   | true=>exact (h2 (Nat.eq_of_beq_eq_true e).symm).elim
   | false=>rfl
def Vl {α:Type}:List (Nat×α)→List (Nat×α)→List (Nat×α)
 | [],h=>h
 | (k,x)::r,h=>ins k x (Vl r h)
def only {α:Type} (ks:List Nat) (h:List (Nat×α)):List (Nat×α):=h.filter fun e=>ks.contains e.1
def dom {α:Type} (h:List (Nat×α)):List Nat:=h.map (·.1)
structure St where
 lvl:Nat
 n:Nat
 keep:List Nat
 sl:Sl
 ob:Ob
 rnd:Bool:=false
 dfs:List Nat:=[]
 deriving Inhabited
inductive TK where
 | bool | int (k:IntKind) | str | ptr (e:TypeId) | slice (e:TypeId) | map (k e:TypeId) | func | iface
 | bytes (n:Nat)
 | words (n:Nat)
 | arr (n:Nat) (e:TypeId)
 | struct (fs:List (TypeId×Nat))
 | tuple
 deriving Inhabited
def qq (P:Program) (t:TypeId):Nat:=((P.info? t).map (·.size)).getD 0
def bytesOf (P:Program) (t:TypeId):Nat:=((P.info? t).map (·.bytes)).getD 0
def qm (P:Program) (t:TypeId):Option TK:=
 match P.underlying t with
 | some .bool=>some .bool
 | some (.int k)=>some (.int k)
 | some .string=>some .str
 | some (.pointer e)=>some (.ptr e)
 | some (.slice e)=>match P.info? e with
  | some _=>some (.slice e)
  | none=>none
 | some (.map k e)=>some (.map k e)
 | some (.func ..)=>some .func
 | some (.interface _)=>some .iface
 | some (.array n e)=>match P.underlying e with
  | some (.int .u8)=>match qq P e == 1 with
   | true=>some (.bytes n)
   | false=>none
  | some (.int .u32)=>match qq P e == 1 with
   | true=>some (.words n)
   | false=>none
  | some _=>some (.arr n e)
  | none=>none
 | some (.struct fs)=>some (.struct (fs.toList.map fun f=>(f.type,f.offset)))
 | some (.tuple _)=>some .tuple
 | _=>none
mutual
def fit (P:Program):Nat→TypeId→AV→Bool
 | 0,_,_=>false
 | d + 1,t,x=>
  match qm P t,x with
  | some .bool,.pv (.b _)=>true
  | some (.int k),.pv (.i k' _)=>k == k'
  | some .str,.pv (.s _)=>true
  | some (.bytes n),.pv (.ba m _)=>n == m
  | some (.words n),.pv (.wa m _)=>n == m
  | some (.slice e),.pv (.l sz _)=>sz == qq P e&&!(qm P e matches some (.int .u8))
  | some (.slice e),.pv (.bl _)=>qq P e == 1&&(qm P e matches some (.int .u8))
  | some (.slice _),.nils=>true
  | some (.slice _),.v _ _=>true
  | some (.ptr _),.p _ _ _=>true
  | some (.ptr _),.pe _ _ _ _=>true
  | some (.ptr _),.ro _=>true
  | some (.ptr _),.nilp=>true
  | some (.map _ _),.m _=>true
  | some (.map _ _),.nilm=>true
  | some .func,.fn _ _ _=>true
  | some .func,.nilf=>true
  | some (.slice _),.es _=>true
  | some .func,.yl _=>true
  | some .iface,.iface _ _=>true
  | some .iface,.nili=>true
  | some (.arr n e),.pv (.ag xs)=>xs.length == n&&xs.all fun x=>qq P e == x.size&&fit P d e (.pv x)
  | some (.arr n e),.ag xs=>xs.length == n&&xs.all fun x=>qq P e == x.size&&fit P d e x
  | some (.struct fs),.pv (.ag xs)=>fits P d fs (xs.map .pv) 0
  | some (.struct fs),.ag xs=>fits P d fs xs 0
  | _,_=>false
def fits (P:Program):Nat→List (TypeId×Nat)→List AV→Nat→Bool
 | 0,_,_,_=>false
 | _ + 1,[],[],_=>true
 | d + 1,(t,o)::fs,x::xs,n=>o == n&&qq P t == x.size&&fit P d t x&&fits P d fs xs (n + x.size)
 | _ + 1,_,_,_=>false
end
def qO (P:Program) (t:TypeId) (x:AV):Bool:=qq P t == x.size&&fit P 30 t x
end Go.Rx
end
noncomputable section
namespace Go.Rx
def qc8 (P:Program):Nat→TypeId→Option AV
 | 0,_=>none
 | d + 1,t=>
  match qm P t with
  | some .bool=>some (.pv (.b false))
  | some (.int k)=>some (.pv (.i k 0))
  | some .str=>some (.pv (.s []))
  | some (.ptr _)=>some .nilp
  | some (.slice _)=>some .nils
  | some (.map _ _)=>some .nilm
  | some .func=>some .nilf
  | some .iface=>some .nili
  | some (.bytes n)=>some (.pv (.ba n (Vector.replicate n 0)))
  | some (.words n)=>some (.pv (.wa n (Vector.replicate n 0)))
  | some (.arr n e)=>(qc8 P d e).map fun z=>AV.mk (List.replicate n z)
  | some (.struct fs)=>(fs.mapM fun f=>qc8 P d f.1).map AV.mk
  | _=>none
def qy0:Value→Value→Bool
 | .bool a,.bool b=>a == b
 | .int k a,.int j b=>k == j&&a == b
 | .string a,.string b=>a.size == 0&&b.size == 0
 | .pointer none,.pointer none=>true
 | .slice none 0 0,.slice none 0 0=>true
 | .map none,.map none=>true
 | .nilFunc,.nilFunc=>true
 | .nilIface,.nilIface=>true
 | _,_=>false
mutual
def W7:PV→Option (List Value)
 | .b x=>some [.bool x]
 | .i k n=>some [.int k n]
 | .s []=>some [.string ⟨#[]⟩]
 | .ba _ x=>some (x.toList.map fun c=>.int .u8 c.toNat)
 | .wa _ x=>some (x.toList.map fun c=>.int .u32 c.toNat)
 | .ag xs=>qhR xs
 | _=>none
def qhR:List PV→Option (List Value)
 | []=>some []
 | x::xs=>match W7 x,qhR xs with
  | some a,some b=>some (a++b)
  | _,_=>none
end
mutual
def ZH:AV→Option (List Value)
 | .pv x=>W7 x
 | .ag xs=>qkS xs
 | .nils=>some [.slice none 0 0]
 | .nilp=>some [.pointer none]
 | .nilm=>some [.map none]
 | .nilf=>some [.nilFunc]
 | .nili=>some [.nilIface]
 | _=>none
def qkS:List AV→Option (List Value)
 | []=>some []
 | x::xs=>match ZH x,qkS xs with
  | some a,some b=>some (a++b)
  | _,_=>none
end
def allEq:List Value→List Value→Bool
 | [],[]=>true
 | a::as0,b::bs=>qy0 a b&&allEq as0 bs
 | _,_=>false
def qBs:Value→Bool
 | .agg _=>true
 | _=>false
def zOK (P:Program) (t:TypeId) (x:AV):Bool:=
 match (P.info? t).bind (·.zero),ZH x with
 | some z,some cs=>allEq z.cells.toList cs&&qBs z == x.isAgg
 | _,_=>false
def zeroOf (P:Program) (t:TypeId):Option AV:=
 match qc8 P 20 t with
 | some x=>if zOK P t x&&qO P t x then some x else none
 | none=>none
def ofConst:Value→AV
 | .bool x=>.pv (.b x)
 | .int k n=>.pv (.i k n)
 | .string x=>.pv (.s x.data.toList)
 | .pointer none=>.nilp
 | .slice none 0 0=>.nils
 | .map none=>.nilm
 | .nilFunc=>.nilf
 | .nilIface=>.nili
 | _=>.undef
def All:List Prop→Prop
 | []=>True
 | [p]=>p
 | p::ps=>p∧All ps
abbrev R (α:Type):=Option (α×List Prop)
def qo {α:Type} (x:α):R α:=some (x,[])
def owe {α:Type} (p:Prop) (x:α):R α:=some (x,[p])
def JR (ps:List Prop):R Unit:=some ((),ps)
def R.with {α β:Type} (x:R α) (f:α→R β):R β:=match x with
 | some (a,ps)=>match f a with
  | some (b,qs)=>some (b,ps++qs)
  | none=>none
 | none=>none
def qD {α:Type} (b:Bool) (x:R α):R α:=match b with
 | true=>x
 | false=>none
inductive Out where
 | ret (r:AV)
 | pan (v:AV)
 deriving Inhabited
inductive Ans where
 | pv (y:PV)
 | nat (k:Nat)
 | two (a b:Nat)
 | byte (c:UInt8)
 | word (c:UInt32)
 | call (o:Out) (h:Ob)
 | found (x:Option (AV×Nat))
 | ents (clock:Nat) (es:List (PV×AV×Nat))
 | entry (x:Option (AV×Nat)) (clock:Nat) (es:List (PV×AV×Nat))
 deriving Inhabited
def qmh (op:BinOp) (k:IntKind) (a b:Int):R PV:=
 match op with
 | .add=>qo (.i k (k.wrap (a + b)))
 | .sub=>qo (.i k (k.wrap (a - b)))
 | .mul=>qo (.i k (k.wrap (a * b)))
 | .quo=>owe (b≠0) (.i k (k.wrap (a.tdiv b)))
 | .rem=>owe (b≠0) (.i k (a.tmod b))
 | .and=>qo (.i k (k.wrap (BitVec.ofInt k.bits a &&& BitVec.ofInt k.bits b).toNat))
 | .or=>qo (.i k (k.wrap (BitVec.ofInt k.bits a ||| BitVec.ofInt k.bits b).toNat))
 | .xor=>qo (.i k (k.wrap (BitVec.ofInt k.bits a ^^^ BitVec.ofInt k.bits b).toNat))
 | .andNot=>qo (.i k (k.wrap (BitVec.ofInt k.bits a &&& ~~~BitVec.ofInt k.bits b).toNat))
 | .eql=>qo (.b (decide (a=b)))
 | .neq=>qo (.b (!decide (a=b)))
 | .lss=>qo (.b (decide (a < b)))
 | .leq=>qo (.b (decide (a≤b)))
 | .gtr=>qo (.b (decide (b < a)))
 | .geq=>qo (.b (decide (b≤a)))
 | _=>none
def qil (op:BinOp) (k:IntKind) (a b:Int):R PV:=
 match op with
 | .shl=>owe (0≤b) (.i k (k.wrap (a * 2 ^ min b.toNat k.bits)))
 | .shr=>owe (0≤b) (.i k (a.fdiv (2 ^ min b.toNat k.bits)))
 | _=>none
def qq7:BinOp→Bool
 | .shl | .shr=>true
 | _=>false
def qpz (op:BinOp) (a b:List UInt8):R PV:=
 match op with
 | .add=>owe (a.length + b.length≤9223372036854775807) (.s (a++b))
 | .eql=>qo (.b (decide (a=b)))
 | .neq=>qo (.b (!decide (a=b)))
 | .lss=>qo (.b (Op.bytesLess a b))
 | .leq=>qo (.b (Op.bytesLess a b||decide (a=b)))
 | .gtr=>qo (.b (!(Op.bytesLess a b||decide (a=b))))
 | .geq=>qo (.b (!Op.bytesLess a b))
 | _=>none
mutual
def PV.eqb:PV→PV→Option Bool
 | .b x,.b y=>some (decide (x=y))
 | .i k x,.i j y=>match decide (k=j) with
  | true=>some (decide (x=y))
  | false=>none
 | .s x,.s y=>some (decide (x=y))
 | .ba _ x,.ba _ y=>some (decide (x.toList=y.toList))
 | .wa _ x,.wa _ y=>some (decide (x.toList=y.toList))
 | .ag xs,.ag ys=>PV.qfX xs ys
 | _,_=>none
def PV.qfX:List PV→List PV→Option Bool
 | [],[]=>some true
 | x::xs,y::ys=>match PV.eqb x y,PV.qfX xs ys with
  | some c,some e=>some (c&&e)
  | _,_=>none
 | _,_=>none
end
mutual
def eqT (P:Program):Nat→TypeId→Bool
 | 0,_=>false
 | d + 1,t=>match qm P t with
  | some .bool=>true
  | some (.int _)=>true
  | some .str=>true
  | some (.bytes _)=>true
  | some (.struct fs)=>!P.stoodInHeld t&&(P.fieldsOf t).toList.all (fun f=>f.name != "_")&&qmq P d (fs.map (·.1))
  | _=>false
def qmq (P:Program):Nat→List TypeId→Bool
 | 0,_=>false
 | _ + 1,[]=>true
 | d + 1,t::ts=>eqT P d t&&qmq P d ts
end
def eqA (P:Program) (t:TypeId) (x y:AV):R Bool:=match qm P t,x,y with
 | some (.slice _),.pv (.l _ xs),.nils=>owe (xs≠[]) false
 | some (.slice _),.pv (.bl xs),.nils=>owe (xs≠[]) false
 | some (.slice _),.v _ n,.nils=>owe (n≠0) false
 | some (.slice _),.nils,.nils=>qo true
 | some (.ptr _),.nilp,.nilp=>qo true
 | some (.ptr _),.p _ _ _,.nilp=>qo false
 | some (.ptr _),.pe _ _ _ _,.nilp=>qo false
 | some (.ptr _),.ro _,.nilp=>qo false
 | some .func,.nilf,.nilf=>qo true
 | some .func,.fn _ _ _,.nilf=>qo false
 | some (.map _ _),.nilm,.nilm=>qo true
 | some (.map _ _),.m _,.nilm=>qo false
 | some .iface,.iface _ _,.nili=>qo false
 | some (.slice _),.es k,.nils=>qo (Nat.beq k 1)
 | _,.pv x,.pv y=>qD (qO P t (.pv x)&&qO P t (.pv y)&&eqT P 30 t&&!(P.eqGuardType P.depth t)) (match PV.eqb x y with
  | some b=>qo b
  | none=>none)
 | _,_,_=>none
def rPV (x:R PV):R AV:=match x with
 | some (y,ps)=>some (.pv y,ps)
 | none=>none
def qox (P:Program) (op:BinOp) (t:TypeId) (x y:AV):R AV:=
 match x,y with
 | .pv (.i k a),.pv (.i j b)=>match qq7 op with
  | true=>rPV (qil op k a b)
  | false=>qD (decide (k=j)) (rPV (qmh op k a b))
 | .pv (.s a),.pv (.s b)=>rPV (qpz op a b)
 | x,y=>match op with
  | .eql=>match eqA P t x y with
   | some (b,ps)=>some (.pv (.b b),ps)
   | none=>none
  | .neq=>match eqA P t x y with
   | some (b,ps)=>some (.pv (.b (!b)),ps)
   | none=>none
  | _=>none
def unA (op:UnOp) (x:AV):R AV:=
 match op,x with
 | .not,.pv (.b x)=>qo (.pv (.b (!x)))
 | .neg,.pv (.i k n)=>qo (.pv (.i k (k.wrap (0 - n))))
 | .xor,.pv (.i k n)=>rPV (qmh .xor k (if k.signed then -1 else k.max) n)
 | _,_=>none
def QD (P:Program) (e:TypeId):Bool:=match qm P e with
 | some (.int .u8)=>true
 | _=>false
def qdZ (P:Program) (src dst:TypeId) (x:AV):R AV:=
 match qm P src,qm P dst,x with
 | some (.int _),some (.int k),.pv (.i _ n)=>qo (.pv (.i k (k.wrap n)))
 | some .str,some .str,.pv (.s x)=>qo (.pv (.s x))
 | some .str,some (.slice e),.pv (.s x)=>qD (QD P e) (owe (x.length≤140737488355328) (.pv (.bl x)))
 | some (.slice e),some .str,.pv (.bl x)=>qD (QD P e) (qo (.pv (.s x)))
 | some (.slice e),some .str,.nils=>qD (QD P e) (qo (.pv (.s [])))
 | _,_,_=>none
def idx (an:Option Ans) (i:Int) (n:Nat):R Nat:=match an with
 | some (.nat k)=>owe (i=k∧k < n) k
 | _=>owe (0≤i∧i < n) i.toNat
def elemAt (an:Option Ans) (x:PV) (i:Int):R PV:=match an with
 | some (.pv y)=>owe (0≤i∧x.zh i.toNat=some y) y
 | _=>match x.zh i.toNat with
  | some y=>owe (0≤i) y
  | none=>none
def asInt:AV→Option Int
 | .pv (.i _ n)=>some n
 | _=>none
def bounds (an:Option Ans) (lo hi:Option AV) (n:Nat):R (Nat×Nat):=
 match (match lo with | none=>some 0 | some l=>asInt l),(match hi with | none=>some (n:Int) | some h=>asInt h) with
 | some l,some h=>match an with
  | some (.two a b)=>owe (l=a∧h=b∧a≤b∧b≤n) (a,b)
  | _=>owe (0≤l∧l≤h∧h≤n) (l.toNat,h.toNat)
 | _,_=>none
def asByte (an:Option Ans):PV→R UInt8
 | .i .u8 n=>match an with
  | some (.byte c)=>owe (n=c.toNat) c
  | _=>owe (0≤n∧n < 256) (UInt8.ofNat n.toNat)
 | _=>none
def qql (an:Option Ans):PV→R UInt32
 | .i .u32 n=>match an with
  | some (.word c)=>owe (n=c.toNat) c
  | _=>owe (0≤n∧n < 4294967296) (UInt32.ofNat n.toNat)
 | _=>none
def qcu (an:Option Ans):List PV→R (List UInt8)
 | []=>qo []
 | x::xs=>(asByte an x).with fun c=>(qcu an xs).with fun cs=>qo (c::cs)
def KJ (an:Option Ans):PV→Nat→PV→R PV
 | .l sz xs,k,x=>qD (x.size == sz) (qo (.l sz (xs.set k x)))
 | .bl xs,k,x=>(asByte an x).with fun c=>qo (.bl (xs.set k c))
 | _,_,_=>none
def qcN (P:Program) (an:Option Ans) (e:TypeId) (xs:List PV):R PV:=match QD P e with
 | true=>qD (qq P e == 1) ((qcu an xs).with fun cs=>qo (.bl cs))
 | false=>qD (xs.all (fun x=>x.size == qq P e&&fit P 30 e (.pv x))) (qo (.l (qq P e) xs))
def jO (P:Program) (e:TypeId):PV:=match QD P e with
 | true=>.bl []
 | false=>.l (qq P e) []
def Y8 (P:Program) (e:TypeId):Bool:=match QD P e with
 | true=>qq P e == 1
 | false=>true
def Y3:Nat→List (Nat×Operand)→Bool
 | _,[]=>true
 | n,(i,_)::r=>i == n&&Y3 (n + 1) r
def setAt (an:Option Ans):List Nat→AV→AV→R AV
 | [],_,y=>qo y
 | k::r,.pv (.ag xs),y=>match xs[k]? with
  | some z=>(setAt an r (.pv z) y).with fun z'=>qo (AV.mk ((xs.map AV.pv).set k z'))
  | none=>none
 | k::r,.ag xs,y=>match xs[k]? with
  | some z=>(setAt an r z y).with fun z'=>qo (AV.mk (xs.set k z'))
  | none=>none
 | [k],.pv (.ba n x),.pv y=>(asByte an y).with fun c=>owe (k < n) (.pv (.ba n (x.setIfInBounds k c)))
 | [k],.pv (.wa n x),.pv y=>(qql an y).with fun c=>owe (k < n) (.pv (.wa n (x.setIfInBounds k c)))
 | _::_,_,_=>none
def YU (P:Program) (t:TypeId) (an:Option Ans) (z:AV):List (Nat×AV)→R AV
 | []=>qo z
 | (i,x)::r=>qD (match AV.at [i] z with | some y=>y.size == x.size | none=>false) ((setAt an [i] z x).with fun z'=>qD (qO P t z') (YU P t an z' r))
def Qn (P:Program) (t:TypeId):Bool:=((P.info? t).bind (·.zero)).isSome&&(P.underlying t).isSome
def Wu (P:Program) (t:TypeId) (f:Nat):Option (TypeId×Nat):=
 match qm P t with
 | some (.struct fs)=>fs[f]?
 | _=>none
def jA (n:Nat) (bs:List UInt8):Vector UInt8 n:=Vector.ofFn fun i=>bs.getD i 0
def ofO {α:Type} (x:Option α):R α:=match x with
 | some y=>qo y
 | none=>none
def AV.Qz:AV→Bool
 | .tup _ | .undef=>false
 | _=>true
def qH (P:Program) (mkVec:Bool) (an:Option Ans) (val:Operand→AV):Op→R AV
 | .move x=>qo (val x)
 | .assign x=>qo (val x)
 | .pick c a b=>match val c with
  | .pv (.b x)=>match val a,val b with
   | .pv (.b y),.pv (.b z)=>qo (.pv (.b (match x with | true=>y | false=>z)))
   | y,z=>qo (match x with | true=>y | false=>z)
  | _=>none
 | .binOp op t x y _=>qox P op t (val x) (val y)
 | .unOp op _ x=>unA op (val x)
 | .convert s d x=>qdZ P s d (val x)
 | .nilCheck x=>match val x with
  | .p a b c=>qo (.p a b c)
  | .pe a b c d=>qo (.pe a b c d)
  | .ro x=>qo (.ro x)
  | .fn (.func f) a b=>qo (.fn (.func f) a b)
  | _=>none
 | .makeInterface t x=>match qm P t with
  | some .iface=>none
  | some _=>qD (qO P t (val x)) (qo (.iface t (val x)))
  | none=>none
 | .makeFunc f a b=>match f with
  | .func k=>qD ((a.toList.map val).all AV.Qz&&(b.toList.map val).all AV.Qz) (qo (.fn (.func k) (a.toList.map val) (b.toList.map val)))
  | _=>none
 | .extract x i=>match val x with
  | .tup xs=>ofO xs[i]?
  | _=>none
 | .build t parts=>match zeroOf P t with
  | some z=>qD z.isAgg (YU P t an z (parts.toList.map fun q=>(q.1,val q.2)))
  | none=>none
 | .buildSlice t n parts=>match qm P t with
  | some (.slice e)=>qD (!mkVec&&Y3 0 parts.toList&&n == parts.size&&n * qq P e≤16777216&&Qn P e)
   (match AV.QA (parts.toList.map fun q=>val q.2) with
    | some xs=>rPV (qcN P an e xs)
    | none=>none)
  | _=>none
 | .field t x f=>match Wu P t f with
  | some _=>qD (qO P t (val x)) (ofO (AV.at [f] (val x)))
  | none=>none
 | .index t x i=>match qm P t,val x,asInt (val i) with
  | some .str,.pv (.s bs),some i=>rPV (elemAt an (.bl bs) i)
  | some (.arr n _),x,some i=>qD (qO P t x) ((idx an i n).with fun k=>ofO (AV.at [k] x))
  | some (.bytes n),.pv (.ba m bs),some i=>qD (n == m) ((idx an i n).with fun k=>qo (.pv (u8 (bs.toList.getD k 0))))
  | some (.words n),.pv (.wa m bs),some i=>qD (n == m) ((idx an i n).with fun k=>qo (.pv (u32 (bs.toList.getD k 0))))
  | _,_,_=>none
 | .fieldAddr t x f=>match Wu P t f,val x with
  | some (u,o),.p l path off=>qD (!(qq P u == 0)) (qo (.p l (path++[f]) (off + o)))
  | some (u,o),.pe l n path off=>qD (!(qq P u == 0)) (qo (.pe l n (path++[f]) (off + o)))
  | some (u,_),.ro x=>qD (!(qq P u == 0)&&qO P t (.pv x)) (match AV.at [f] (.pv x) with
   | some (.pv y)=>qo (.ro y)
   | _=>none)
  | _,_=>none
 | .indexAddr t x i=>match qm P t,val x,asInt (val i) with
  | some (.slice e),.pv x,some i=>(elemAt an x i).with fun y=>qD (y.size == qq P e) (qo (.ro y))
  | some (.slice e),.v l n,some i=>(idx an i n).with fun k=>qo (.pe l n [k] (k * qq P e))
  | some (.arr n e),.p l path off,some i=>(idx an i n).with fun k=>qo (.p l (path++[k]) (off + k * qq P e))
  | some (.bytes n),.p l path off,some i=>(idx an i n).with fun k=>qo (.p l (path++[k]) (off + k))
  | some (.words n),.p l path off,some i=>(idx an i n).with fun k=>qo (.p l (path++[k]) (off + k))
  | some (.words n),.ro (.wa m bs),some i=>qD (n == m) ((idx an i n).with fun k=>qo (.ro (u32 (bs.toList.getD k 0))))
  | some (.bytes n),.ro (.ba m bs),some i=>qD (n == m) ((idx an i n).with fun k=>qo (.ro (u8 (bs.toList.getD k 0))))
  | _,_,_=>none
 | .slice t x lo hi none=>match qm P t,val x with
  | some .str,.pv (.s bs)=>(bounds an (lo.map val) (hi.map val) bs.length).with fun (l,h)=>qo (.pv (.s ((bs.take h).drop l)))
  | some (.slice e),.pv x=>qD (x.Zi&&qO P t (.pv x)) ((bounds an (lo.map val) (hi.map val) x.len).with fun (l,h)=>qo (.pv (x.sub l h)))
  | some (.slice _),.nils=>(bounds an (lo.map val) (hi.map val) 0).with fun _=>qo .nils
  | some (.bytes n),.ro (.ba m bs)=>qD (n == m&&lo.isNone&&hi.isNone) (qo (.pv (.bl bs.toList)))
  | _,_=>none
 | .slice t x lo (some hi) (some mx)=>match qm P t,val x,asInt (val mx) with
  | some (.slice _),.pv x,some m=>qD (x.Zi&&qO P t (.pv x)) ((bounds an (lo.map val) (some (val hi)) x.len).with fun (l,h)=>owe ((h:Int)≤m∧m≤(x.len:Int)) (.pv (x.sub l h)))
  | _,_,_=>none
 | .sliceToArrayPointer t x=>match qm P t,val x with
  | some (.bytes n),.pv (.bl bs)=>owe (n≤bs.length∧n≠0) (.ro (.ba n (jA n bs)))
  | _,_=>none
 | .typeAssert x _ t commaOk=>match qm P t,val x with
  | some .iface,_=>none
  | some _,.iface u y=>match decide (u=t) with
   | true=>qo (match commaOk with | true=>.tup [y,.pv (.b true)] | false=>y)
   | false=>match commaOk,zeroOf P t with
    | true,some z=>qo (.tup [z,.pv (.b false)])
    | _,_=>none
  | some _,.nili=>match commaOk,zeroOf P t with
   | true,some z=>qo (.tup [z,.pv (.b false)])
   | _,_=>none
  | _,_=>none
 | .call c=>match c.callee with
  | .builtin .len=>match c.argTypes.toList.map (qm P),c.args.toList.map val with
   | [some .str],[.pv (.s bs)]=>qo (.pv (.i .i64 bs.length))
   | [some (.slice _)],[.pv (.l _ xs)]=>qo (.pv (.i .i64 xs.length))
   | [some (.slice _)],[.pv (.bl xs)]=>qo (.pv (.i .i64 xs.length))
   | [some (.slice _)],[.v _ n]=>qo (.pv (.i .i64 n))
   | [some (.slice _)],[.nils]=>qo (.pv (.i .i64 0))
   | [some (.map _ _)],[.nilm]=>qo (.pv (.i .i64 0))
   | [some (.slice _)],[.es _]=>qo (.pv (.i .i64 0))
   | _,_=>none
  | .builtin .min=>match c.args.toList.map val with
   | [.pv (.i .i64 a),.pv (.i .i64 b)]=>qo (.pv (.i .i64 (if b < a then b else a)))
   | _=>none
  | .builtin .max=>match c.args.toList.map val with
   | [.pv (.i .i64 a),.pv (.i .i64 b)]=>qo (.pv (.i .i64 (if a < b then b else a)))
   | _=>none
  | _=>none
 | _=>none
abbrev zT:=List (PV×AV×Nat)
mutual
def PV.alike:PV→PV→Bool
 | .b _,.b _=>true
 | .i k _,.i j _=>decide (k=j)
 | .s _,.s _=>true
 | .ba n _,.ba m _=>Nat.beq n m
 | .wa n _,.wa m _=>Nat.beq n m
 | .ag xs,.ag ys=>PV.vi xs ys
 | _,_=>false
def PV.vi:List PV→List PV→Bool
 | [],[]=>true
 | x::xs,y::ys=>match PV.alike x y with
  | true=>PV.vi xs ys
  | false=>false
 | _,_=>false
end
def X4 (k j:PV):Option Bool:=match PV.alike k j with
 | true=>PV.eqb k j
 | false=>none
def QB (k:PV):zT→Option (Option Nat)
 | []=>some none
 | (j,_,_)::r=>match X4 k j with
  | some true=>some (some 0)
  | some false=>match QB k r with
   | some i=>some (i.map (· + 1))
   | none=>none
  | none=>none
def Zp (k:PV):zT→Option (Option (AV×Nat))
 | []=>some none
 | (j,x,n)::r=>match X4 k j with
  | some true=>some (some (x,n))
  | some false=>Zp k r
  | none=>none
def Wr (k:PV) (x:AV) (clock:Nat):zT→Option (Nat×zT)
 | []=>some (clock + 1,[(k,x,clock)])
 | (j,y,n)::r=>match X4 k j with
  | some true=>some (clock,(k,x,n)::r)
  | some false=>match Wr k x clock r with
   | some (c,es)=>some (c,(j,y,n)::es)
   | none=>none
  | none=>none
def YC (k:PV):zT→Option zT
 | []=>some []
 | (j,y,n)::r=>match X4 k j with
  | some true=>some r
  | some false=>match YC k r with
   | some es=>some ((j,y,n)::es)
   | none=>none
  | none=>none
def qbf (born:Int) (x:AV):zT→Option zT
 | []=>none
 | (j,y,n)::r=>match decide ((n:Int)=born) with
  | true=>some ((j,x,n)::r)
  | false=>match qbf born x r with
   | some es=>some ((j,y,n)::es)
   | none=>none
def qdV (an:Option Ans) (k:PV) (es:zT):R (Option (AV×Nat)):=match an with
 | some (.found r)=>owe (Zp k es=some r) r
 | _=>ofO (Zp k es)
def qf_ (an:Option Ans) (k:PV) (x:AV) (clock:Nat) (es:zT):R (Nat×zT):=match an with
 | some (.ents c es')=>owe (Wr k x clock es=some (c,es')) (c,es')
 | _=>ofO (Wr k x clock es)
def qzu (an:Option Ans) (k:PV) (es:zT):R zT:=match an with
 | some (.ents _ es')=>owe (YC k es=some es') es'
 | _=>ofO (YC k es)
def atO (an:Option Ans) (born:Int) (x:AV) (es:zT):R zT:=match an with
 | some (.ents _ es')=>owe (qbf born x es=some es') es'
 | _=>ofO (qbf born x es)
def partAt (P:Program) (t:TypeId) (path:List Nat) (off:Nat) (c:AV):R AV:=
 match AV.za path c,AV.at path c with
 | some o,some x=>qD (o == off&&qO P t x) (some (x,AV.inR path c))
 | _,_=>none
def qtO (an:Option Ans) (sz:Nat) (x:PV) (path:List Nat) (off:Nat):R PV:=
 match path with
 | k::r=>(elemAt an x k).with fun y=>match AV.za r (.pv y),AV.at r (.pv y) with
  | some o,some (.pv z)=>some (z,(off=k * sz + o)::AV.inR r (.pv y))
  | _,_=>none
 | []=>none
def zR (P:Program) (an:Option Ans) (val:Operand→AV) (h:Ob):Op→R AV
 | .load t a=>match val a with
  | .ro x=>qD (qO P t (.pv x)) (qo (.pv x))
  | .p l path off=>match get h l with
   | some (.cell _ c)=>partAt P t path off c
   | _=>none
  | .pe l n path off=>match get h l with
   | some (.vec _ sz x)=>(qtO an sz x path off).with fun z=>qD (qO P t (.pv z)) (owe (x.len=n) (.pv z))
   | some (.fns xs)=>match path with
    | [k]=>match xs[k]? with
     | some x=>qD (off == k&&qO P t x&&xs.length == n) (qo x)
     | none=>none
    | _=>none
   | _=>none
  | _=>none
 | .lookup t m k commaOk=>match qm P t,val m,val k with
  | some (.map kt e),.m l,.pv k=>match get h l with
   | some (.map _ es)=>qD (qO P kt (.pv k)&&eqT P 30 kt) ((qdV an k es).with fun
    | some (x,_)=>match commaOk with
     | true=>qD x.Qz (qo (.tup [x,.pv (.b true)]))
     | false=>qo x
    | none=>(ofO (zeroOf P e)).with fun z=>qo (match commaOk with | true=>.tup [z,.pv (.b false)] | false=>z))
   | _=>none
  | _,_,_=>none
 | .call c=>match c.callee with
  | .builtin .len=>match c.argTypes.toList.map (qm P),c.args.toList.map val with
   | [some (.map _ _)],[.m l]=>match get h l with
    | some (.map _ es)=>qo (.pv (.i .i64 es.length))
    | _=>none
   | _,_=>none
  | _=>none
 | _=>none
abbrev Sn (α:Type):=Option (α×List Nat×List Prop)
mutual
def snap (h:Ob):AV→Sn PV
 | .pv x=>some (x,[],[])
 | .v l n=>match get h l with
  | some (.vec _ _ x)=>some (x,[l],[x.len=n])
  | _=>none
 | .ag xs=>match qfw h xs with
  | some (ys,a,ps)=>some (.ag ys,a,ps)
  | none=>none
 | _=>none
def qfw (h:Ob):List AV→Sn (List PV)
 | []=>some ([],[],[])
 | x::xs=>match snap h x,qfw h xs with
  | some (y,a,ps),some (ys,b,qs)=>some (y::ys,a++b,ps++qs)
  | _,_=>none
end
def qzJ:zm→zm
 | .vec _ sz x=>.vec true sz x
 | o=>o
def freeze:List Nat→Ob→Ob
 | [],h=>h
 | l::r,h=>match get h l with
  | some o=>freeze r (ins l (qzJ o) h)
  | none=>freeze r h
mutual
def W2 (P:Program) (h:Ob):Nat→TypeId→AV→Sn AV
 | 0,_,_=>none
 | d + 1,t,x=>match x with
  | .nils=>match qm P t with
   | some (.slice e)=>some (.pv (jO P e),[],[])
   | _=>none
  | .v l n=>match snap h (.v l n) with
   | some (y,a,ps)=>some (.pv y,a,ps)
   | none=>none
  | .ag xs=>match qm P t with
   | some (.struct fs)=>match zY P h d (fs.map (·.1)) xs with
    | some (ys,a,ps)=>some (AV.mk ys,a,ps)
    | none=>none
   | _=>some (.ag xs,[],[])
  | x=>some (x,[],[])
def zY (P:Program) (h:Ob):Nat→List TypeId→List AV→Sn (List AV)
 | 0,_,_=>none
 | d + 1,t::ts,x::xs=>match W2 P h d t x,zY P h d ts xs with
  | some (y,a,ps),some (ys,b,qs)=>some (y::ys,a++b,ps++qs)
  | _,_=>none
 | _ + 1,[],[]=>some ([],[],[])
 | _ + 1,_,_=>none
end
structure Hint where
 live:FuncId→Nat→List Nat
 esc:FuncId→Bool
 raw:FuncId→Bool
 fresh:FuncId→Nat→Bool
 vecs:FuncId→Nat→Bool
abbrev Zf:=Nat→AV→List AV→Ob→Out→Ob→Prop
def nm (lvl d k:Nat):Nat:=(lvl * 10000 + d) * 10 + k
def qiX (h:Ob) (l:Nat):List Nat:=match get h l with
 | some o=>o.names
 | none=>[]
@[irreducible] def has (ns:List Nat) (n:Nat):Bool:=@List.rec Nat (fun _=>Bool) false (fun a _ ih=>@Bool.rec (fun _=>Bool) ih true (Nat.beq a n)) ns
theorem qmC (n:Nat):has [] n=false:=by with_unfolding_all rfl
theorem qoh (a:Nat) (r:List Nat) (n:Nat):has (a::r) n=(Nat.beq a n||has r n):=by
 have e0:has (a::r) n=@Bool.rec (fun _=>Bool) (has r n) true (Nat.beq a n):=by with_unfolding_all rfl
 rw [e0]
 cases Nat.beq a n<;>rfl
def reach (h:Ob):Nat→List Nat→List Nat→List Nat
 | 0,_,seen=>seen
 | _ + 1,[],seen=>seen
 | n + 1,l::todo,seen=>match has seen l with
  | true=>reach h n todo seen
  | false=>reach h n (qiX h l++todo) (l::seen)
def qbj (ns ms:List Nat):Bool:=ns.all (has ms)
def zL (ns:List Nat) (h:Ob):Bool:=qbj ns (dom h)&&h.all fun e=>qbj e.2.names (dom h)
@[irreducible] def qp {α:Type} (ks:List Nat) (h:List (Nat×α)):List (Nat×α):=@List.rec (Nat×α) (fun _=>List (Nat×α)) [] (fun e _ ih=>@Bool.rec (fun _=>List (Nat×α)) ih (e::ih) (has ks e.1)) h
theorem Wv {α:Type} (ks:List Nat):∀ h:List (Nat×α),qp ks h=h.filter fun e=>has ks e.1
 | []=>by with_unfolding_all rfl
 | e::r=>by
  have e0:qp ks (e::r)=@Bool.rec (fun _=>List (Nat×α)) (qp ks r) (e::qp ks r) (has ks e.1):=by with_unfolding_all rfl
  rw [e0,List.filter_cons,Wv ks r]
  cases has ks e.1<;>rfl
def newObj (d:Option Tmp) (lvl:Nat) (h:Ob) (o:zm) (r:Nat→AV):R (Out×Ob):=
 match d with
 | some d=>match get h (nm lvl d 0) with
  | none=>qo (.ret (r (nm lvl d 0)),ins (nm lvl d 0) o h)
  | some _=>none
 | none=>none
def TK.qa5:TK→Bool
 | .slice _=>true
 | .str=>true
 | _=>false
def qN:Nat:=140737488355328
def We (h:Ob):AV→R PV
 | .pv x=>qo x
 | .v l n=>match get h l with
  | some (.vec _ _ x)=>owe (x.len=n) x
  | _=>none
 | _=>none
def done (l:Nat) (o:zm) (h:Ob):R (Out×Ob):=qo (.ret (.tup []),ins l o h)
def qh6 (P:Program) (an:Option Ans) (h:Ob) (e:TypeId) (zZ:List AV):Option ((PV×Ob)×List Prop):=match zL (AV.qJ zZ) h&&zZ.all AV.Qz with
 | true=>match zY P h 30 (zZ.map fun _=>e) zZ with
  | some (rs,fz,ps)=>match AV.QA rs with
   | some xs=>match qcN P an e xs with
    | some (x,qs)=>some ((x,freeze fz h),ps++qs)
    | none=>none
   | none=>none
  | none=>none
 | false=>none
def qL (P:Program) (lvl:Nat) (d:Option Tmp) (an:Option Ans) (val:Operand→AV) (h:Ob):Op→R (Out×Ob)
 | .alloc t=>match zeroOf P t with
  | some z=>newObj d lvl h (.cell false z) fun l=>.p l [] 0
  | none=>none
 | .box t x=>qD (qO P t (val x)) (newObj d lvl h (.cell false (val x)) fun l=>.p l [] 0)
 | .buildSlice t n parts=>match qm P t with
  | some (.slice e)=>qD (Y3 0 parts.toList&&n == parts.size&&n * qq P e≤16777216&&Qn P e)
   (match AV.QA (parts.toList.map fun q=>val q.2) with
    | some xs=>qD (Nat.blt 0 (qq P e)) ((qcN P an e xs).with fun x=>newObj d lvl h (.vec false (qq P e) x) fun l=>.v l n)
    | none=>match qh6 P an h e (parts.toList.map fun q=>val q.2) with
     | some ((x,h'),ps)=>some ((.ret (.pv x),h'),ps)
     | none=>qD (qq P e == 1&&(parts.toList.map fun q=>val q.2).all (fun x=>qO P e x)) (newObj d lvl h (.fns (parts.toList.map fun q=>val q.2)) fun l=>.v l n))
  | _=>none
 | .makeMap t none=>match qm P t with
  | some (.map _ _)=>newObj d lvl h (.map 0 []) fun l=>.m l
  | _=>none
 | .makeSlice t n c=>match qm P t,val n,val c with
  | some (.slice e),.pv (.i .i64 n),.pv (.i .i64 c)=>match an,zeroOf P e with
   | some (.nat k),some (.pv z)=>qD (Nat.blt 0 (qq P e)&&Nat.blt 0 (bytesOf P e)&&Y8 P e) ((owe (n=k∧c=k∧k * bytesOf P e≤qN) ()).with fun _=>
    newObj d lvl h (.vec false (qq P e) (match QD P e with | true=>.bl (List.replicate k 0) | false=>.l (qq P e) (List.replicate k z))) fun l=>.v l k)
   | _,_=>none
  | _,_,_=>none
 | .store t a x=>match val a with
  | .p l path off=>match get h l with
   | some (.cell false c)=>match AV.za path c,AV.at path c with
    | some o,some y=>qD (o == off&&qO P t (val x)&&y.size == (val x).size) ((JR (AV.inR path c)).with fun _=>(setAt an path c (val x)).with fun c'=>done l (.cell false c') h)
    | _,_=>none
   | _=>none
  | .pe l n path off=>match get h l,val x with
   | some (.vec false sz s),.pv x=>match path with
    | [k]=>qD (qO P t (.pv x)&&x.size == sz) ((JR [s.len=n,k < n,off=k * sz]).with fun _=>(KJ an s k x).with fun s'=>done l (.vec false sz s') h)
    | k::r=>(elemAt an s k).with fun y=>match AV.za r (.pv y),AV.at r (.pv y) with
     | some o,some z=>qD (qO P t (.pv x)&&z.size == x.size) ((JR [s.len=n,off=k * sz + o]).with fun _=>(JR (AV.inR r (.pv y))).with fun _=>(setAt none r (.pv y) (.pv x)).with fun
      | .pv y'=>(KJ none s k y').with fun s'=>done l (.vec false sz s') h
      | _=>none)
     | _,_=>none
    | []=>none
   | _,_=>none
  | _=>none
 | .mapUpdate t m k x=>match qm P t,val m,val k with
  | some (.map kt e),.m l,.pv k=>match get h l with
   | some (.map c es)=>qD (qO P kt (.pv k)&&eqT P 30 kt&&qO P e (val x)&&(val x).Xo) ((qf_ an k (val x) c es).with fun r=>done l (.map r.1 r.2) h)
   | _=>none
  | _,_,_=>none
 | .insert t m k x=>match qm P t,val m,val k with
  | some (.map kt e),.m l,.pv k=>match get h l with
   | some (.map c es)=>qD (qO P kt (.pv k)&&eqT P 30 kt&&qO P e (val x)&&(val x).Xo) ((qf_ an k (val x) c es).with fun r=>done l (.map r.1 r.2) h)
   | _=>none
  | _,_,_=>none
 | .mapEntry t m k=>match qm P t,val m,val k with
  | some (.map kt e),.m l,.pv k=>match get h l with
   | some (.map c es)=>qD (qO P kt (.pv k)&&eqT P 30 kt) ((qdV (match an with | some (.entry r _ _)=>some (.found r) | _=>none) k es).with fun
    | some (x,n)=>qD x.Xo ((qf_ (match an with | some (.entry _ c' es')=>some (.ents c' es') | _=>none) k x c es).with fun r=>qo (.ret (.tup [x,.pv (.i .i64 n)]),ins l (.map r.1 r.2) h))
    | none=>(ofO (zeroOf P e)).with fun z=>qD z.Xo <| (qf_ (match an with | some (.entry _ c' es')=>some (.ents c' es') | _=>none) k z c es).with fun r=>qo (.ret (.tup [z,.pv (.i .i64 c)]),ins l (.map r.1 r.2) h))
   | _=>none
  | _,_,_=>none
 | .entryStore t m s x=>match qm P t,val m,val s with
  | some (.map _ e),.m l,.pv (.i _ born)=>match get h l with
   | some (.map c es)=>qD (qO P e (val x)&&(val x).Xo) ((atO an born (val x) es).with fun es'=>done l (.map c es') h)
   | _=>none
  | _,_,_=>none
 | .slice t x lo hi none=>match val x with
  | .v l n=>match qm P t,get h l with
   | some (.slice e),some (.vec _ sz s)=>qD (sz == qq P e) ((bounds an (lo.map val) (hi.map val) n).with fun (a,b)=>(owe (s.len=n) ()).with fun _=>qo (.ret (.pv (s.sub a b)),ins l (.vec true sz s) h))
   | _,_=>none
  | .p l path off=>match qm P t,get h l,lo,hi with
   | some (.bytes n),some (.cell _ c),none,none=>match AV.za path c,AV.at path c with
    | some o,some (.pv (.ba m bs))=>qD (o == off&&m == n) ((JR (AV.inR path c)).with fun _=>qo (.ret (.pv (.bl bs.toList)),ins l (.cell true c) h))
    | _,_=>none
   | _,_,_,_=>none
  | _=>none
 | .call c=>match c.callee with
  | .builtin .append=>match c.argTypes.toList,c.args.toList.map val with
   | [t,u],[a,x]=>match qm P t,qm P u with
    | some (.slice e),some uk=>qD (uk.qa5&&Nat.blt 0 (qq P e)&&Nat.blt 0 (bytesOf P e)&&(zeroOf P e).isSome&&Y8 P e) (match a with
     | .nils=>match x with
      | .nils=>qo (.ret .nils,h)
      | .es _=>qo (.ret .nils,h)
      | x=>match an with
       | some (.nat 0)=>(We h x).with fun y=>(ofO ((jO P e).app y)).with fun s=>(owe (s.len=0) ()).with fun _=>qo (.ret .nils,h)
       | _=>(We h x).with fun y=>(ofO ((jO P e).app y)).with fun s=>(JR [s.len * bytesOf P e≤qN]).with fun _=>newObj d lvl h (.vec false (qq P e) s) fun l=>.v l s.len
     | .v l n=>match get h l with
      | some (.vec fz sz s)=>match x with
       | .nils=>(owe (s.len=n) ()).with fun _=>qo (.ret (.v l n),h)
       | .es _=>(owe (s.len=n) ()).with fun _=>qo (.ret (.v l n),h)
       | x=>qD (sz == qq P e) ((We h x).with fun y=>(ofO (s.app y)).with fun s'=>(JR [s.len=n,s'.len * bytesOf P e≤qN]).with fun _=>qo (.ret (.v l s'.len),ins l (.vec fz sz s') h))
      | _=>none
     | _=>none)
    | _,_=>none
   | _,_=>none
  | .builtin .delete=>match c.argTypes.toList,c.args.toList.map val with
   | [t,_],[.m l,.pv k]=>match qm P t,get h l with
    | some (.map kt _),some (.map c es)=>qD (qO P kt (.pv k)&&eqT P 30 kt) ((qzu an k es).with fun es'=>done l (.map c es') h)
    | _,_=>none
   | _,_=>none
  | _=>none
 | _=>none
def jD (P:Program) (hn:Hint) (C:Zf) (K lvl:Nat) (d:Option Tmp) (an:Option Ans) (f:AV) (ts:List TypeId) (args:List AV) (h:Ob):R (Out×Ob):=
 match an with
 | some (.call (.ret r) h')=>
  qD (zL (f.names++AV.qJ args) h&&f.Qz&&args.all AV.Qz)
  (match (match (match f with | .fn (.func k) _ _=>hn.raw k | _=>false) with
   | true=>some (args,[],[])
   | false=>zY P h 30 ts args) with
  | none=>none
  | some (args,fz,ps)=>
   match (match d with | some d=>hn.fresh K d | none=>false) with
   | true=>some ((.ret r,h'),ps++[C lvl f args (freeze fz h) (.ret r) h'])
   | false=>match tupS h' r with
    | some (r',fz',qs)=>qD (zL r'.names (qp (dom h) (freeze fz' h'))) (some ((.ret r',qp (dom h) (freeze fz' h')),ps++[C lvl f args (freeze fz h) (.ret r) h']++qs))
    | none=>none)
 | _=>none
where
 tupL (h:Ob):List AV→Sn (List AV)
  | []=>some ([],[],[])
  | .v l n::xs=>match snap h (.v l n),tupL h xs with
   | some (y,a,ps),some (ys,b,qs)=>some (.pv y::ys,a++b,ps++qs)
   | _,_=>none
  | x::xs=>match tupL h xs with
   | some (ys,b,qs)=>some (x::ys,b,qs)
   | none=>none
 tupS (h:Ob):AV→Sn AV
  | .v l n=>match snap h (.v l n) with
   | some (y,a,ps)=>some (.pv y,a,ps)
   | none=>none
  | .tup xs=>match tupL h xs with
   | some (ys,b,qs)=>some (.tup ys,b,qs)
   | none=>none
  | x=>some (x,[],[])
end Go.Rx
end
noncomputable section
namespace Go.Rx
inductive Ex where
 | normal
 | exit (id:Nat)
 | goto (l:Nat)
 | ret
 | pan (v:AV)
 deriving Inhabited
structure Orc where
 an:List (Nat×Ans):=[]
 nv:List (Nat×AV):=[]
 no:List (Nat×Nat×zm):=[]
 lo:List (Nat×Ex×St):=[]
def vS (σ:St):Operand→AV
 | .tmp t=>match get σ.sl t with
  | some x=>x
  | none=>.undef
 | .const v=>ofConst v
 | .func f=>.fn (.func f) [] []
 | .global _=>.undef
def zc (val:Operand→AV) (ob:Ob):Op→List Nat
 | .load _ a | .store _ a _=>(val a).names
 | .lookup _ m _ _ | .mapUpdate _ m _ _ | .insert _ m _ _ | .mapEntry _ m _ | .entryStore _ m _ _=>(val m).names
 | .slice _ x _ _ _=>(val x).names
 | .buildSlice _ _ ps=>AV.qJ (ps.toList.map fun q=>val q.2)
 | .call c=>match c.callee with
  | .builtin .append=>match c.args.toList with
   | [a,x]=>(val a).names++(val x).names
   | _=>[]
  | .builtin _=>match c.args.toList with
   | a::_=>(val a).names
   | _=>[]
  | .value f=>reach ob 200 ((val f).names++AV.qJ (c.args.toList.map val)) []
  | _=>[]
 | _=>[]
inductive Eff where
 | val (r:AV)
 | read (T:List Nat) (r:AV)
 | write (T:List Nat) (o:Out) (h:Ob)
 deriving Inhabited
def Out.names:Out→List Nat
 | .ret r=>r.names
 | .pan v=>v.names
inductive SR where
 | next (σ:St) (lab:List Nat)
 | pan (v:AV) (σ:St)
def put (d:Option Tmp) (r:AV) (sl:Sl):Sl:=match d with
 | some d=>ins d r sl
 | none=>sl
def merge (T:List Nat) (h ob:Ob):Ob:=Vl h (ob.filter fun e=>!has T e.1)
section
variable (P:Program) (hn:Hint) (C:Zf) (K:FuncId)
def v7 (lvl:Nat) (d:Option Tmp) (an:Option Ans) (val:Operand→AV) (ob:Ob) (o:Op):R Eff:=
 match qH P (match d with | some d=>hn.vecs K d | none=>false) an val o with
 | some (r,ps)=>some (.val r,ps)
 | none=>match zR P an val (qp (zc val ob o) ob) o with
  | some (r,ps)=>some (.read (zc val ob o) r,ps)
  | none=>match (match o with
   | .call { callee:=.value f,args,argTypes }=>jD P hn C K lvl d an (val f) argTypes.toList (args.toList.map val) (qp (zc val ob o) ob)
   | o=>qL P lvl d an val (qp (zc val ob o) ob) o) with
   | some ((out,h),ps)=>some (.write (zc val ob o) out h,ps)
   | none=>none
def qbt (σ:St) (d:Option Tmp):Bool:=match d with
 | some d=>Nat.blt d σ.n
 | none=>true
def V0 (O:Orc) (key:Nat) (r:AV):R AV:=match get O.nv key with
 | some x=>owe (r=x) x
 | none=>qo r
def qfH (O:Orc) (key:Nat) (h:Ob):R Ob:=match get O.no key with
 | some (l,o')=>match get h l with
  | some o=>qD (qbj o'.names o.names) (owe (o=o') (ins l o' h))
  | none=>none
 | none=>qo h
def zx (O:Orc) (key:Nat) (d:Option Tmp) (σ:St):Eff→R SR
 | .val r=>(V0 O key r).with fun r=>qD (qbt σ d) (qo (.next { σ with sl:=put d r σ.sl } []))
 | .read T r=>(V0 O key r).with fun r=>qD (qbt σ d) (qo (.next { σ with sl:=put d r σ.sl } T))
 | .write T o h=>(qfH O key h).with fun h=>
  qD ((dom h).all (fun n=>has T n||!has (dom σ.ob) n)&&T.all (fun n=>!has (dom σ.ob) n||has (dom h) n))
   (match o with
    | .ret r=>(V0 O key r).with fun r=>qD (qbt σ d) (qo (.next { σ with sl:=put d r σ.sl,ob:=merge T h σ.ob } (T++dom h)))
    | .pan _=>none)
def Wy (ops:Array Oper) (σ:St) (o:Oper):Option Bool:=
 match o.guard with
 | none=>some true
 | some (j,want)=>match ops[j]? with
  | some { dst:=some t,.. }=>match get σ.sl t with
   | some (.pv (.b x))=>some (match x,want with | true,true=>true | false,false=>true | _,_=>false)
   | some (.tup [])=>some false
   | _=>none
  | _=>some false
def W1 (O:Orc) (key:Nat) (ops:Array Oper) (o:Oper) (σ:St):R SR:=
 match Wy ops σ o with
 | some true=>(v7 P hn C K σ.lvl o.dst (get O.an key) (vS σ) σ.ob o.op).with fun e=>zx O key o.dst σ e
 | some false=>qD (qbt σ o.dst) (qo (.next { σ with sl:=put o.dst (.tup []) σ.sl } []))
 | none=>none
def W5 (O:Orc) (ops:Array Oper):Nat→List Oper→St→R (Ex×St×List (List Nat))
 | _,[],σ=>qo (.normal,σ,[])
 | key,o::r,σ=>(W1 P hn C K O key ops o σ).with fun
  | .next σ' lab=>(W5 O ops (key + 1) r σ').with fun (e,σ'',labs)=>qo (e,σ'',lab::labs)
  | .pan _ _=>none
def gc (live:List Nat) (σ:St):Option St:=
 let sl:=qp live σ.sl
 let ob:=qp (reach σ.ob 500 (AV.qJ (sl.map (·.2))++σ.keep) []) σ.ob
 match zL (AV.qJ (sl.map (·.2))) ob&&qbj σ.keep (dom ob) with
 | true=>some { σ with sl,ob }
 | false=>none
def vG:Op→Bool
 | .move _ | .assign _ | .pick .. | .binOp .. | .unOp .. | .convert .. | .nilCheck _ | .makeInterface .. | .makeFunc .. | .extract .. | .build .. | .field .. | .index .. | .fieldAddr .. | .indexAddr .. | .sliceToArrayPointer .. | .typeAssert ..=>true
 | _=>false
def jK:Op→Bool
 | .load .. | .lookup ..=>true
 | .call { callee:=.builtin .len,.. }=>true
 | o=>vG o
def looks (ops:Array Oper) (o:Oper):List Tmp:=
 (o.op.operands.toList).filterMap (fun | .tmp t=>some t | _=>none)++(match o.guard with | some (g,_)=>((ops[g]?).bind (·.dst)).toList | none=>[])
def Kb (ops:Array Oper) (x y:Oper):Bool:=
 (match x.dst with | some d=>!has (looks ops y) d&&!(y.dst == some d) | none=>true) &&
 (match y.dst with | some d=>!has (looks ops x) d | none=>true)
def Yh (ops:Array Oper):List (List Nat):=
 ops.toList.foldl (fun acc o=>acc++[o.after.toList.foldl (fun s e=>if Region.binds .any e then (e.on::(acc.getD e.on []))++s else s) []]) []
def qrM (n:Nat):List (Nat×Nat):=(List.range n).flatMap fun j=>(List.range j).map fun i=>(i,j)
def unordered (ops:Array Oper):List (Nat×Nat):=
 (qrM ops.size).filter fun ij=>!has ((Yh ops).getD ij.2 []) ij.1
def qcR (ops:Array Oper):Bool:=
 (unordered ops).all (fun ij=>match ops[ij.1]?,ops[ij.2]? with
  | some x,some y=>Kb ops x y
  | _,_=>false) &&
 (ops.toList.zipIdx.all fun oi=>oi.1.after.toList.all (fun e=>!Region.binds .any e||Nat.blt e.on oi.2)&&(match oi.1.op with | .select _ _=>false | _=>true))
def W4 (ops:Array Oper):List (Nat×Nat):=
 (unordered ops).filter fun ij=>match ops[ij.1]?,ops[ij.2]? with
  | some x,some y=>!(vG x.op||vG y.op||(jK x.op&&jK y.op))
  | _,_=>true
def qof (a b:List Nat):Bool:=a.all fun n=>!has b n
def qch (labs:List (List Nat)) (ps:List (Nat×Nat)):Bool:=
 ps.all fun ij=>qof (labs.getD ij.1 []) (labs.getD ij.2 [])
def qef {α:Type}:List (Nat×α)→Bool
 | []=>true
 | [_]=>true
 | e::e'::r=>Nat.blt e.1 e'.1&&qef (e'::r)
abbrev CR:=R (Ex×St)
def Y2 (O:Orc) (id:Nat) (ops:Array Oper) (draw:Bool) (σ:St):CR:=
 (W5 P hn C K O ops (id * 1000) ops.toList σ).with fun (e,σ',labs)=>match e with
  | .normal=>qD (!draw||(qcR ops&&qch labs (W4 ops)&&qef σ.sl&&qef σ.ob)) (match gc (hn.live K id) σ' with
   | some σ''=>qo (.normal,σ'')
   | none=>none)
  | _=>none
def qzb (f:Orc→St→CR):Nat→St→Ex→St→Prop
 | 0,_,_,_=>False
 | n + 1,σ,e,σ'=>∃ O e₁ σ₁ ps,f O σ=some ((e₁,σ₁),ps)∧All ps∧match e₁ with
  | .normal=>qzb f n σ₁ e σ'
  | _=>e₁=e∧σ₁=σ'
def XV (f:Orc→St→CR) (σ:St) (e:Ex) (σ':St):Prop:=∃ n,qzb f n σ e σ'
def qX:Code→Nat
 | .region id _ _=>id
 | .seq a _=>qX a
 | .block _ a | .loop a | .scope a=>qX a
 | _=>0
def qdo:Bool→Bool→Bool
 | true,true=>true
 | false,false=>true
 | _,_=>false
def KQ:List Tmp→List AV→Sl→Sl
 | t::ts,x::xs,sl=>KQ ts xs (ins t x sl)
 | _,_,sl=>sl
def qd8:LoopState→Bool
 | .busy=>false
 | _=>true
def qeV (k:FuncId):Bool:=match P.funcs[k]? with
 | some fn=>fn.body.isSome&&!(fn.name == "runtime.NumGoroutine")
 | none=>false
def zA (lvl:Nat) (as0 bd:Code):Nat:=nm lvl (5000 + qX (.seq as0 bd)) 0
def Zo (lvl:Nat) (as0 bd:Code):Nat:=nm lvl (5000 + qX (.seq as0 bd)) 1
def vP (ps:Array Tmp) (as0 bd:Code) (σ:St):Ob:=ins (zA σ.lvl as0 bd) (.loop ps.toList σ.n σ.sl as0 bd K .ready none (Zo σ.lvl as0 bd)) (ins (Zo σ.lvl as0 bd) (.dfr true) σ.ob)
def QH (l:Nat) (ob:Ob):Ob:=ob.filter fun e=>!Nat.beq e.1 l
def qcU (O:Orc) (g:Operand) (ps:Array Tmp) (as0 bd:Code) (σ:St):CR:=
 match σ.rnd,vS σ g with
 | false,.fn (.func k) first cap=>
  match get σ.ob (zA σ.lvl as0 bd),get σ.ob (Zo σ.lvl as0 bd),get O.an (qX (.seq as0 bd) * 1000 + 999) with
  | none,none,some (.call (.ret r) h')=>
   match get h' (zA σ.lvl as0 bd) with
   | some (.loop _ _ _ _ _ _ st pe _)=>
    qD (zL (zA σ.lvl as0 bd::(AV.qJ first++AV.qJ cap)) (qp (reach (vP K ps as0 bd σ) 300 (zA σ.lvl as0 bd::(AV.qJ first++AV.qJ cap)) []) (vP K ps as0 bd σ)) &&
     zL [] (QH (zA σ.lvl as0 bd) (merge (reach (vP K ps as0 bd σ) 300 (zA σ.lvl as0 bd::(AV.qJ first++AV.qJ cap)) []) h' (vP K ps as0 bd σ))) &&
     (dom h').all (fun n=>has (reach (vP K ps as0 bd σ) 300 (zA σ.lvl as0 bd::(AV.qJ first++AV.qJ cap)) []) n||!has (dom (vP K ps as0 bd σ)) n) &&
     qd8 st&&qeV P k&&!has σ.keep (Zo σ.lvl as0 bd)&&!(Nat.beq (zA σ.lvl as0 bd) (Zo σ.lvl as0 bd)))
     (match (match pe with | none=>some Ex.normal | some .ret=>some .ret | some (.exit i)=>some (.exit i) | _=>none) with
     | some e => some ((e, { σ with ob := QH (zA σ.lvl as0 bd) (merge (reach (vP K ps as0 bd σ) 300 (zA σ.lvl as0 bd :: (AV.qJ first ++ AV.qJ cap)) []) h' (vP K ps as0 bd σ)), keep := Zo σ.lvl as0 bd :: σ.keep, dfs := Zo σ.lvl as0 bd :: σ.dfs }),
         [C σ.lvl (.fn (.func k) first cap) [.yl (zA σ.lvl as0 bd)] (qp (reach (vP K ps as0 bd σ) 300 (zA σ.lvl as0 bd::(AV.qJ first++AV.qJ cap)) []) (vP K ps as0 bd σ)) (.ret r) h'])
     | none=>none)
   | _=>none
  | _,_,_=>none
 | _,_=>none
def ZQ:Code→Orc→St→CR
 | .skip,_,σ=>qo (.normal,σ)
 | .label _,_,σ=>qo (.normal,σ)
 | .region id ops draw,O,σ=>Y2 P hn C K O id ops draw σ
 | .seq a b,O,σ=>(ZQ a O σ).with fun r=>match r.1 with
  | .normal=>ZQ b O r.2
  | _=>qo r
 | .cond c a b,O,σ=>match vS σ c with
  | .pv (.b true)=>ZQ a O σ
  | .pv (.b false)=>ZQ b O σ
  | _=>none
 | .block id c,O,σ=>(ZQ c O σ).with fun r=>match r.1 with
  | .exit i=>match Nat.beq i id with
   | true=>qo (.normal,r.2)
   | false=>qo r
  | _=>qo r
 | .loop c,O,σ=>match get O.lo (qX c) with
  | some (e,σ')=>qD (qdo σ'.rnd σ.rnd) (some ((e,σ'),[XV (ZQ c) σ e σ']))
  | none=>none
 | .exit id,_,σ=>qo (.exit id,σ)
 | .goto l,_,σ=>qo (.goto l,σ)
 | .ret,_,σ=>qo (.ret,σ)
 | .rangeFunc g ps as0 bd,O,σ=>qcU P C K O g ps as0 bd σ
 | .scope c,O,σ=>(ZQ c O σ).with fun r=>match r.1 with
  | .goto _=>none
  | _=>qo r
 | .refuse _,_,_=>none
end
def number:Nat→List AV→Sl
 | _,[]=>[]
 | n,x::xs=>(n,x)::number (n + 1) xs
def VN (P:Program) (σ:St):List ResultVar→R (List AV)
 | []=>qo []
 | .tmp t::r=>match get σ.sl t with
  | some x=>qD x.Qz ((VN P σ r).with fun xs=>qo (x::xs))
  | none=>none
 | .cell a t::r=>match get σ.sl a with
  | some (.p l path off)=>match get σ.ob l with
   | some (.cell _ c)=>(partAt P t path off c).with fun x=>(VN P σ r).with fun xs=>qo (x::xs)
   | _=>none
  | _=>none
def shut:List Nat→Ob→Option Ob
 | [],ob=>some ob
 | d::r,ob=>match get ob d with
  | some (.dfr true)=>shut r (ins d (.dfr false) ob)
  | _=>none
def qhD (P:Program) (hn:Hint) (K:FuncId) (fn:Func) (σ:St):R (Out×Ob):=
 (VN P σ fn.results.toList).with fun rs=>match (match hn.esc K with | true=>some (rs,[],[]) | false=>zY P σ.ob 30 fn.resultTypes.toList rs) with
  | none=>none
  | some (rs,fz,ps)=>
   let ob:=freeze fz σ.ob
   let h:=qp (reach ob 500 (AV.qJ rs++σ.keep) []) ob
   match zL (AV.qJ rs) h&&qbj σ.keep (dom h) with
   | true=>some ((.ret (match rs with | [x]=>x | rs=>.tup rs),h),ps)
   | false=>none
def leave (P:Program) (hn:Hint) (K:FuncId) (fn:Func) (σ:St):R (Out×Ob):=match shut σ.dfs σ.ob with
 | some ob=>qhD P hn K fn { σ with ob:=ob,dfs:=[],keep:=σ.keep.filter fun n=>!has σ.dfs n }
 | none=>none
def qep:Ex→Option (Option Code)
 | .normal=>some none
 | .ret=>some (some .ret)
 | .exit i=>some (some (.exit i))
 | _=>none
end Go.Rx
end
noncomputable section
namespace Go.Rx
section lists
variable {α:Type}
theorem qE (h:List (Nat×α)) (k:Nat) (x:α) (j:Nat):get (ins k x h) j=if k=j then some x else get h j:=by
 induction h with
 | nil=>simp [qhr,qi0,get_nil,q8]
 | cons e r ih=>
  obtain ⟨a,y⟩:=e
  simp only [qhr,qi0]
  split
  ·simp [get_nil,q8]
  ·split
   ·rename_i h1 h2; subst h2; simp only [get_nil,q8]; split<;>simp_all
   ·simp only [get_nil,q8,ih]; split<;>rename_i h1 h2 h3
    ·subst h3; rw [if_neg (by omega)]
    ·rfl
theorem qzG (l h:List (Nat×α)) (j:Nat):get (Vl l h) j=match get l j with | some x=>some x | none=>get h j:=by
 induction l with
 | nil=>simp [Vl,get_nil,q8]
 | cons e r ih=>
  obtain ⟨a,y⟩:=e
  simp only [Vl,qE,get_nil,q8,ih]
  split<;>simp
theorem get_filter (h:List (Nat×α)) (p:Nat→Bool) (j:Nat):get (h.filter fun e=>p e.1) j=if p j then get h j else none:=by
 induction h with
 | nil=>simp [get_nil,q8]
 | cons e r ih=>
  obtain ⟨a,y⟩:=e
  simp only [List.filter_cons]
  split
  ·simp only [get_nil,q8,ih]; split
   ·rename_i h1 h2; subst h2; simp_all
   ·rfl
  ·simp only [get_nil,q8,ih]
   rename_i h1
   split
   ·split
    ·rename_i h2 h3; subst h3; simp_all
    ·rfl
   ·rfl
theorem jG (ns:List Nat) (n:Nat):has ns n=true↔n∈ns:=by
 induction ns with
 | nil=>simp [qmC,qoh]
 | cons a r ih=>
  simp only [qmC,qoh,Bool.or_eq_true,ih,List.mem_cons,Nat.beq_eq_true_eq]
  exact or_congr ⟨fun h=>(Nat.eq_of_beq_eq_true h).symm,fun h=>by subst h; exact Nat.beq_refl _⟩ Iff.rfl
theorem jk (h:List (Nat×α)) (ks:List Nat) (j:Nat):get (qp ks h) j=if has ks j then get h j else none:=by
 rw [Wv]; exact get_filter h (has ks) j
theorem qh1 (h:List (Nat×α)) (n:Nat):n∈dom h↔∃ x,get h n=some x:=by
 induction h with
 | nil=>simp [dom,get_nil,q8]
 | cons e r ih=>
  obtain ⟨a,y⟩:=e
  simp only [dom,List.map_cons,List.mem_cons,get_nil,q8]
  by_cases h:a=n
  ·simp [h]
  ·simp only [h,if_false]
   rw [← ih]; simp [dom]; intro h'; exact absurd h'.symm h
theorem JW (h:List (Nat×α)) (n:Nat):has (dom h) n=true↔∃ x,get h n=some x:=by rw [jG,qh1]
theorem VI (h:List (Nat×α)) (n:Nat):has (dom h) n=false↔get h n=none:=by
 cases hh:has (dom h) n with
 | true=>obtain ⟨x,hx⟩:=(JW h n).1 hh; simp [hx]
 | false=>
  simp only [true_iff]
  cases hg:get h n with
  | none=>rfl
  | some x=>have:=(JW h n).2 ⟨x,hg⟩; simp [this] at hh
def Srt (h:List (Nat×α)):Prop:=h.Pairwise fun a b=>a.1 < b.1
theorem Srt.ins {h:List (Nat×α)} (hs:Srt h) (k:Nat) (x:α):Srt (ins k x h)∧∀ e∈Rx.ins k x h,e.1=k∨∃ y,(e.1,y)∈h:=by
 induction h with
 | nil=>simp [qhr,Srt]
 | cons e r ih=>
  obtain ⟨a,y⟩:=e
  have hr:Srt r:=(List.pairwise_cons.1 hs).2
  have ha:=(List.pairwise_cons.1 hs).1
  simp only [qi0]
  split
  ·rename_i hlt
   refine ⟨List.pairwise_cons.2 ⟨?_,hs⟩,?_⟩
   ·intro e he
    rcases List.mem_cons.1 he with rfl | he
    ·exact hlt
    ·exact Nat.lt_trans hlt (ha e he)
   ·intro e he
    rcases List.mem_cons.1 he with rfl | he
    ·exact .inl rfl
    ·exact .inr ⟨e.2,he⟩
  ·split
   ·rename_i h1 h2; subst h2
    refine ⟨List.pairwise_cons.2 ⟨ha,hr⟩,?_⟩
    intro e he
    rcases List.mem_cons.1 he with rfl | he
    ·exact .inl rfl
    ·exact .inr ⟨e.2,List.mem_cons_of_mem _ he⟩
   ·rename_i h1 h2
    obtain ⟨h3,h4⟩:=ih hr
    refine ⟨List.pairwise_cons.2 ⟨?_,h3⟩,?_⟩
    ·intro e he
     rcases h4 e he with h | ⟨y',h⟩
     ·simp only at h1 h2 ⊢; omega
     ·exact ha (e.1,y') h
    ·intro e he
     rcases List.mem_cons.1 he with rfl | he
     ·exact .inr ⟨y,by simp⟩
     ·rcases h4 e he with h | ⟨y',h⟩
      ·exact .inl h
      ·exact .inr ⟨y',List.mem_cons_of_mem _ h⟩
theorem Srt.Vl {h:List (Nat×α)} (hs:Srt h) (l:List (Nat×α)):Srt (Vl l h):=by
 induction l with
 | nil=>exact hs
 | cons e r ih=>exact (Srt.ins ih _ _).1
theorem Srt.filter {h:List (Nat×α)} (hs:Srt h) (p:Nat×α→Bool):Srt (h.filter p):=List.Pairwise.filter _ hs
theorem Srt.ext:∀ {h h':List (Nat×α)},Srt h→Srt h'→(∀ k,get h k=get h' k)→h=h'
 | [],[],_,_,_=>rfl
 | [],(a,x)::r,_,_,he=>by have:=he a; simp [get_nil,q8] at this
 | (a,x)::r,[],_,_,he=>by have:=he a; simp [get_nil,q8] at this
 | (a,x)::r,(b,y)::r',hs,hs',he=>by
  have hr:=(List.pairwise_cons.1 hs).2
  have hr':=(List.pairwise_cons.1 hs').2
  have ha:=(List.pairwise_cons.1 hs).1
  have hb:=(List.pairwise_cons.1 hs').1
  have low:∀ (r:List (Nat×α)) (a:Nat),(∀ e∈r,a < e.1)→∀ k,k≤a→get r k=none:=by
   intro r a h k hk
   induction r with
   | nil=>exact get_nil _
   | cons e t ih=>
    obtain ⟨c,z⟩:=e
    have:=h (c,z) (by simp)
    simp only at this
    simp only [get_nil,q8]; rw [if_neg (by omega)]
    exact ih fun e he=>h e (List.mem_cons_of_mem _ he)
  have hab:a=b:=by
   rcases Nat.lt_trichotomy a b with h | h | h
   ·have:=he a; simp [get_nil,q8] at this; rw [if_neg (by omega),low r' b hb a (by omega)] at this; simp at this
   ·exact h
   ·have:=he b; simp [get_nil,q8] at this; rw [if_neg (by omega),low r a ha b (by omega)] at this; simp at this
  subst hab
  have hxy:x=y:=by have:=he a; simpa [get_nil,q8] using this
  subst hxy
  congr 1
  refine Srt.ext hr hr' fun k=>?_
  by_cases hk:k≤a
  ·rw [low r a ha k hk,low r' a hb k hk]
  ·have:=he k; simp only [get_nil,q8] at this; rwa [if_neg (by omega),if_neg (by omega)] at this
end lists
abbrev Gh:=Nat→Nat→Prop
abbrev Hm:=Nat→Nat×Nat
def jJ (w:World) (b off:Nat) (cs:List Value):Prop:=∀ j,j < cs.length→w.cell? ⟨b,off + j,none⟩=cs[j]?
def inG (G:Gh) (b off n:Nat):Prop:=∀ j,j < n→G b (off + j)
def cu8 (c:UInt8):Value:=.int .u8 c.toNat
def qiA (c:UInt32):Value:=.int .u32 c.toNat
mutual
def qv (G:Gh) (w:World):PV→List Value→Prop
 | .b x,cs=>cs=[.bool x]
 | .i k n,cs=>cs=[.int k n]
 | .s x,cs=>cs=[.string ⟨x.toArray⟩]
 | .ba _ x,cs=>cs=x.toList.map cu8
 | .wa _ x,cs=>cs=x.toList.map qiA
 | .ag xs,cs=>qU G w xs cs
 | .l sz xs, cs => ∃ a cap, cs = [.slice a xs.length cap] ∧ xs.length ≤ cap ∧ (∀ x ∈ xs, x.size = sz) ∧
     (xs=[]∨∃ b off vs,a=some ⟨b,off,none⟩∧qU G w xs vs∧jJ w b off vs∧inG G b off vs.length)
 | .bl xs, cs => ∃ a cap, cs = [.slice a xs.length cap] ∧ xs.length ≤ cap ∧
     (xs=[]∨∃ b off,a=some ⟨b,off,none⟩∧jJ w b off (xs.map cu8)∧inG G b off xs.length)
def qU (G:Gh) (w:World):List PV→List Value→Prop
 | [],cs=>cs=[]
 | x::xs,cs=>∃ c d,cs=c++d∧qv G w x c∧qU G w xs d
end
structure Ze (G:Gh) (w:World) (G':Gh) (w':World):Prop where
 sub:∀ b o,G b o→G' b o
 same:∀ b o,G b o→w'.cell? ⟨b,o,none⟩=w.cell? ⟨b,o,none⟩
theorem Ze.refl (G:Gh) (w:World):Ze G w G w:=⟨fun _ _ h=>h,fun _ _ _=>rfl⟩
theorem Ze.trans {G G' G'':Gh} {w w' w'':World} (h:Ze G w G' w') (k:Ze G' w' G'' w''):Ze G w G'' w'':=
 ⟨fun b o x=>k.sub b o (h.sub b o x),fun b o x=>(k.same b o (h.sub b o x)).trans (h.same b o x)⟩
theorem Ze.cells {G G':Gh} {w w':World} (h:Ze G w G' w') {b off:Nat} {cs:List Value} (hc:jJ w b off cs) (hg:inG G b off cs.length):jJ w' b off cs:=
 fun j hj=>(h.same _ _ (hg j hj)).trans (hc j hj)
theorem Ze.inG {G G':Gh} {w w':World} (h:Ze G w G' w') {b off n:Nat} (hg:inG G b off n):inG G' b off n:=fun j hj=>h.sub _ _ (hg j hj)
mutual
theorem qv.mono {G G':Gh} {w w':World} (h:Ze G w G' w'):∀ (x:PV) (cs:List Value),qv G w x cs→qv G' w' x cs
 | .b _,_,hr=>hr
 | .i _ _,_,hr=>hr
 | .s _,_,hr=>hr
 | .ba _ _,_,hr=>hr
 | .wa _ _,_,hr=>hr
 | .ag xs,cs,hr=>qU.mono h xs cs hr
 | .l sz xs,cs,⟨a,cap,h1,h2,h3,h4⟩=>⟨a,cap,h1,h2,h3,h4.imp id fun ⟨b,off,vs,ha,hp,hc,hg⟩=>⟨b,off,vs,ha,qU.mono h xs vs hp,h.cells hc hg,h.inG hg⟩⟩
 | .bl xs,cs,⟨a,cap,h1,h2,h4⟩=>⟨a,cap,h1,h2,h4.imp id fun ⟨b,off,ha,hc,hg⟩=>⟨b,off,ha,h.cells hc (by simpa using hg),h.inG hg⟩⟩
theorem qU.mono {G G':Gh} {w w':World} (h:Ze G w G' w'):∀ (x:List PV) (cs:List Value),qU G w x cs→qU G' w' x cs
 | [],_,hr=>hr
 | x::xs,_,⟨c,d,e,h1,h2⟩=>⟨c,d,e,qv.mono h x c h1,qU.mono h xs d h2⟩
end
mutual
theorem qv.len {G:Gh} {w:World}:∀ (x:PV) (cs:List Value),qv G w x cs→cs.length=x.size
 | .b _,_,hr=>by simp [qv] at hr; simp [hr,PV.size]
 | .i _ _,_,hr=>by simp [qv] at hr; simp [hr,PV.size]
 | .s _,_,hr=>by simp [qv] at hr; simp [hr,PV.size]
 | .ba _ _,_,hr=>by simp [qv] at hr; simp [hr,PV.size]
 | .wa _ _,_,hr=>by simp [qv] at hr; simp [hr,PV.size]
 | .ag xs,cs,hr=>by simpa [PV.size] using qU.len xs cs hr
 | .l sz xs,cs,⟨a,cap,h1,h2,h3,h4⟩=>by simp [h1,PV.size]
 | .bl xs,cs,⟨a,cap,h1,h2,h4⟩=>by simp [h1,PV.size]
theorem qU.len {G:Gh} {w:World}:∀ (x:List PV) (cs:List Value),qU G w x cs→cs.length=PV.zu x
 | [],_,hr=>by simp [qU] at hr; simp [hr,PV.zu]
 | x::xs,_,⟨c,d,e,h1,h2⟩=>by simp [e,PV.zu,qv.len x c h1,qU.len xs d h2]
end
theorem PV.YN (sz:Nat):∀ (xs:List PV),(∀ x∈xs,x.size=sz)→PV.zu xs=xs.length * sz
 | [],_=>by simp [PV.zu]
 | x::xs,h=>by
  simp only [PV.zu,List.length_cons,h x (by simp),PV.YN sz xs fun y hy=>h y (by simp [hy])]
  rw [Nat.succ_mul]; omega
theorem qU.append {G:Gh} {w:World}:∀ (xs ys:List PV) (c d:List Value),qU G w xs c→qU G w ys d→qU G w (xs++ys) (c++d)
 | [],_,_,_,h,k=>by simp [qU] at h; subst h; simpa using k
 | x::xs,ys,_,d,⟨c1,c2,e,h1,h2⟩,k=>⟨c1,c2++d,by simp [e],h1,qU.append xs ys c2 d h2 k⟩
theorem qU.split {G:Gh} {w:World}:∀ (xs ys:List PV) (cs:List Value),qU G w (xs++ys) cs→∃ c d,cs=c++d∧qU G w xs c∧qU G w ys d
 | [],_,cs,h=>⟨[],cs,rfl,rfl,h⟩
 | x::xs,ys,_,⟨c1,c2,e,h1,h2⟩=>by
  obtain ⟨c,d,e',h3,h4⟩:=qU.split xs ys c2 h2
  exact ⟨c1++c,d,by simp [e,e'],⟨c1,c,rfl,h1,h3⟩,h4⟩
theorem qU.at {G : Gh} {w : World} {xs : List PV} {cs : List Value} (h : qU G w xs cs) {k : Nat} {y : PV} (hy : xs[k]? = some y) :
    ∃ c d e,cs=c++d++e∧qv G w y d∧c.length=PV.zu (xs.take k)∧qU G w (xs.take k) c∧qU G w (xs.drop (k + 1)) e:=by
 obtain ⟨hk,hy'⟩:=List.getElem?_eq_some_iff.1 hy
 have hx:xs=xs.take k++(y::xs.drop (k + 1)):=by rw [← hy',List.getElem_cons_drop]; simp
 rw [hx] at h
 obtain ⟨c,d,e,h1,d1,d2,e',h2,h3⟩:=qU.split _ _ _ h
 exact ⟨c,d1,d2,by simp [e,e'],h2,qU.len _ _ h1,h1,h3⟩
def qQ (agg:Bool) (cs:List Value) (v:Value):Prop:=match agg with
 | true=>v=.agg cs.toArray
 | false=>cs=[v]
mutual
def qg (ob:Ob) (γ:Hm) (G:Gh) (w:World):AV→List Value→Prop
 | .pv x,cs=>qv G w x cs
 | .ag xs,cs=>qM ob γ G w xs cs
 | .nils,cs=>cs=[.slice none 0 0]
 | .v l n, cs => ∃ a cap, cs = [.slice a n cap] ∧ n ≤ cap ∧
     ((∃ fz sz x,get ob l=some (.vec fz sz x)∧n≤x.len∧(cap≠0→∃ b,a=some ⟨b,0,none⟩∧(x.len=n→b=(γ l).1))∧(x.len=n→cap=(γ l).2))∨(∃ xs b,a=some ⟨b,0,none⟩∧get ob l=some (.fns xs)∧n=xs.length∧(b,cap)=γ l))
 | .p l _ off,cs=>cs=[.pointer (some ⟨(γ l).1,off,none⟩)]∧∃ ro c,get ob l=some (.cell ro c)
 | .pe l n _ off, cs => ∃ b, cs = [.pointer (some ⟨b, off, none⟩)] ∧
     ((∃ fz sz x,get ob l=some (.vec fz sz x)∧n≤x.len∧(x.len=n→b=(γ l).1))∨(∃ xs,get ob l=some (.fns xs)∧n=xs.length∧b=(γ l).1))
 | .ro x,cs=>∃ b off vs,cs=[.pointer (some ⟨b,off,none⟩)]∧qv G w x vs∧jJ w b off vs∧inG G b off vs.length
 | .nilp,cs=>cs=[.pointer none]
 | .m l,cs=>cs=[.map (some (γ l).1)]∧∃ c es,get ob l=some (.map c es)
 | .nilm,cs=>cs=[.map none]
 | .fn f a c,cs=>∃ va vc,cs=[.func f va.toArray vc.toArray]∧q9 ob γ G w a va∧q9 ob γ G w c vc
 | .nilf,cs=>cs=[.nilFunc]
 | .iface t x,cs=>∃ c v,cs=[.iface t v]∧qg ob γ G w x c∧qQ x.isAgg c v
 | .nili,cs=>cs=[.nilIface]
 | .yl l,cs=>cs=[.func (.yield (γ l).1) #[] #[]]∧∃ ps n sl as0 bd fn st pe d,get ob l=some (.loop ps n sl as0 bd fn st pe d)
 | .es k,cs=>∃ a cap,cs=[.slice a 0 cap]∧a.isNone=Nat.beq k 1
 | .tup _,_=>False
 | .undef,_=>False
def qM (ob:Ob) (γ:Hm) (G:Gh) (w:World):List AV→List Value→Prop
 | [],cs=>cs=[]
 | x::xs,cs=>∃ c d,cs=c++d∧qg ob γ G w x c∧qM ob γ G w xs d
def q9 (ob:Ob) (γ:Hm) (G:Gh) (w:World):List AV→List Value→Prop
 | [],vs=>vs=[]
 | x::xs,vs=>∃ c v r,vs=v::r∧qg ob γ G w x c∧qQ x.isAgg c v∧q9 ob γ G w xs r
end
def qx (ob:Ob) (γ:Hm) (G:Gh) (w:World) (x:AV) (v:Value):Prop:=match x with
 | .undef=>True
 | .tup xs=>∃ vs,v=.tuple vs.toArray∧q9 ob γ G w xs vs
 | x=>∃ c,qg ob γ G w x c∧qQ x.isAgg c v
def qV (G:Gh) (w:World) (sz:Nat):PV→List Value→Prop
 | .l sz' xs,cs=>sz'=sz∧qU G w xs cs∧∀ x∈xs,x.size=sz
 | .bl xs,cs=>sz=1∧cs=xs.map cu8
 | _,_=>False
def qK (ob:Ob) (γ:Hm) (G:Gh) (w:World):zT→List MapEntry→Prop
 | [],es=>es=[]
 | (k,x,n)::r,es=>∃ e t,es=e::t∧qx ob γ G w (.pv k) e.key∧(qx ob γ G w x e.val∧x.Xo=true)∧e.born=n∧qK ob γ G w r t
def Y_ (w:World) (b:Nat) (cs:List Value):Prop:=∃ el fr,w.heap[b]?=some (.cells cs.toArray el fr)∧∀ o,o < cs.length→¬ (fr.1≤o∧o < fr.2)
def qR (ob:Ob) (γ:Hm) (G:Gh) (w:World) (l:Nat):zm→Prop
 | .cell ro c=>∃ cs,Y_ w (γ l).1 cs∧qg ob γ G w c cs∧match ro with
  | true=>inG G (γ l).1 0 cs.length
  | false=>∀ o,¬ G (γ l).1 o
 | .vec fz sz x=>0 < sz∧∃ cs sp,qV G w sz x cs∧(γ l).2 * sz=(cs++sp).length∧((γ l).2≠0→Y_ w (γ l).1 (cs++sp)∧(∀ o,G (γ l).1 o→fz=true∧o < cs.length)∧(fz=true→inG G (γ l).1 0 cs.length))
 | .fns xs=>∃ cs,Y_ w (γ l).1 cs∧qM ob γ G w xs cs∧(∀ x∈xs,x.size=1)∧(∀ o,¬ G (γ l).1 o)∧(γ l).2=xs.length
 | .map c es=>∃ ents,w.heap[(γ l).1]?=some (.map ents c)∧qK ob γ G w es ents.toList∧(∀ e∈es,e.2.2 < c)∧(es.map (·.2.2)).Nodup∧∀ o,¬ G (γ l).1 o
 | .loop ps n sl as0 bd _ st pe d => ∃ tmps fn, w.heap[(γ l).1]? = some (.loop { state := st, pending := pe, fn := fn, tmps := tmps, params := ps.toArray, assign := as0, body := bd, defers := (γ d).1 }) ∧ tmps.size = n ∧
     (∀ t x,get sl t=some x→∃ v,tmps[t]?=some v∧qx ob γ G w x v)∧(∃ b,get ob d=some (.dfr b))∧∀ o,¬ G (γ l).1 o
 | .dfr b=>w.heap[(γ l).1]?=some (.deferred (match b with | true=>some [] | false=>none))∧∀ o,¬ G (γ l).1 o
def live (γ:Hm) (l:Nat):zm→Prop
 | .vec _ _ _=>(γ l).2≠0
 | _=>True
theorem zM {γ γ':Hm} {l:Nat} {o:zm} (e:γ' l=γ l):live γ' l o↔live γ l o:=by
 cases o<;>simp only [live,e]
structure qC (ob:Ob) (γ:Hm) (G:Gh) (w:World):Prop where
 obj:∀ l o,get ob l=some o→qR ob γ G w l o
 inj:∀ l l' o o',get ob l=some o→get ob l'=some o'→live γ l o→live γ l' o'→(γ l).1=(γ l').1→l=l'
 gok:∀ b o,G b o→b < w.heap.size
 closed:∀ l o,get ob l=some o→∀ n∈o.names,∃ o',get ob n=some o'
def ZK (γ' γ:Hm) (l:Nat) (o o':zm):Prop:=match o,o' with
 | .vec _ _ x,.vec _ _ y=>x.len≤y.len∧(x.len=y.len→γ' l=γ l)
 | .cell _ _,.cell _ _=>γ' l=γ l
 | .fns xs,.fns ys=>xs.length=ys.length∧γ' l=γ l
 | .map _ _,.map _ _=>γ' l=γ l
 | .loop ..,.loop ..=>γ' l=γ l
 | .dfr _,.dfr _=>γ' l=γ l
 | _,_=>False
theorem qdP {ob:Ob} {γ γ':Hm} {G:Gh} {w:World} {l:Nat} {o:zm} (h:qR ob γ G w l o) (e:γ' l=γ l):ZK γ' γ l o o:=by
 cases o
 ·exact e
 ·exact ⟨Nat.le_refl _,fun _=>e⟩
 ·exact ⟨rfl,e⟩
 ·exact e
 ·exact e
 ·exact e
def Ve (w w':World):Prop:=w'.os=w.os∧w'.output=w.output
structure Trans (ob:Ob) (γ:Hm) (G:Gh) (w:World) (ob':Ob) (γ':Hm) (G':Gh) (w':World):Prop where
 keeps:Ze G w G' w'
 size:w.heap.size≤w'.heap.size
 frame:∀ b,b < w.heap.size→(∀ l o,get ob l=some o→live γ l o→(γ l).1≠b)→w'.heap[b]?=w.heap[b]?
 gnew:∀ b o,G' b o→¬ G b o→w.heap.size≤b∨∃ l x,get ob l=some x∧live γ l x∧(γ l).1=b
 kept:∀ l o,get ob l=some o→∃ o',get ob' l=some o'∧ZK γ' γ l o o'
 fresh:∀ l o,get ob' l=some o→live γ' l o→w.heap.size≤(γ' l).1∨∃ l₀ o₀,get ob l₀=some o₀∧live γ l₀ o₀∧(γ l₀).1=(γ' l).1
 io:Ve w w'
end Go.Rx
end
noncomputable section
namespace Go.Rx
def upd (γ:Hm) (l:Nat) (h:Nat×Nat):Hm:=fun j=>if j=l then h else γ j
theorem zp (γ:Hm) (l:Nat) (h:Nat×Nat):upd γ l h l=h:=by simp [upd]
theorem q_ (γ:Hm) {l j:Nat} (h:Nat×Nat) (hj:j≠l):upd γ l h j=γ j:=by simp [upd,hj]
section step
variable {ob ob':Ob} {γ γ':Hm} {G G':Gh} {w w':World}
mutual
theorem qg.step (T:Trans ob γ G w ob' γ' G' w'):∀ (x:AV) (cs:List Value),qg ob γ G w x cs→qg ob' γ' G' w' x cs
 | .pv x,cs,h=>by
  simp only [qg] at h ⊢
  exact qv.mono T.keeps x cs h
 | .ag xs,cs,h=>by
  simp only [qg] at h ⊢
  exact qM.step T xs cs h
 | .nils,_,h=>h
 | .v l n,cs,h=>by
  simp only [qg] at h ⊢
  obtain ⟨a,cap,h1,h2,h3⟩:=h
  refine ⟨a,cap,h1,h2,?_⟩
  rcases h3 with ⟨fz,sz,x,hg,hn,hc,hd⟩ | ⟨xs,b,hb,hg,hn,hc⟩
  ·obtain ⟨o',hg',hm⟩:=T.kept l _ hg
   cases o'<;>simp only [ZK] at hm
   rename_i fz' sz' y
   refine .inl ⟨fz',sz',y,hg',by omega,fun e=>?_,fun e=>?_⟩
   ·obtain ⟨b,h4,h5⟩:=hc e
    exact ⟨b,h4,fun e=>by rw [hm.2 (by omega)]; exact h5 (by omega)⟩
   ·rw [hm.2 (by omega)]; exact hd (by omega)
  ·obtain ⟨o',hg',hm⟩:=T.kept l _ hg
   cases o'<;>simp only [ZK] at hm
   rename_i ys
   exact .inr ⟨ys,b,hb,hg',by omega,by rw [hm.2]; exact hc⟩
 | .p l path off,cs,h=>by
  simp only [qg] at h ⊢
  obtain ⟨h1,ro,c,hg⟩:=h
  obtain ⟨o',hg',hm⟩:=T.kept l _ hg
  cases o'<;>simp only [ZK] at hm
  rename_i ro' c'
  exact ⟨by rw [hm]; exact h1,ro',c',hg'⟩
 | .pe l n path off,cs,h=>by
  simp only [qg] at h ⊢
  obtain ⟨b,h1,h3⟩:=h
  refine ⟨b,h1,?_⟩
  rcases h3 with ⟨fz,sz,x,hg,hn,hc⟩ | ⟨xs,hg,hn,hc⟩
  ·obtain ⟨o',hg',hm⟩:=T.kept l _ hg
   cases o'<;>simp only [ZK] at hm
   rename_i fz' sz' y
   refine .inl ⟨fz',sz',y,hg',by omega,fun e=>?_⟩
   rw [hm.2 (by omega)]; exact hc (by omega)
  ·obtain ⟨o',hg',hm⟩:=T.kept l _ hg
   cases o'<;>simp only [ZK] at hm
   rename_i ys
   exact .inr ⟨ys,hg',by omega,by rw [hm.2]; exact hc⟩
 | .ro x,cs,h=>by
  simp only [qg] at h ⊢
  obtain ⟨b,off,vs,h1,h2,h3,h4⟩:=h
  exact ⟨b,off,vs,h1,qv.mono T.keeps x vs h2,T.keeps.cells h3 h4,T.keeps.inG h4⟩
 | .nilp,_,h=>h
 | .m l,cs,h=>by
  simp only [qg] at h ⊢
  obtain ⟨h1,c,es,hg⟩:=h
  obtain ⟨o',hg',hm⟩:=T.kept l _ hg
  cases o'<;>simp only [ZK] at hm
  rename_i c' es'
  exact ⟨by rw [hm]; exact h1,c',es',hg'⟩
 | .nilm,_,h=>h
 | .fn f a c,cs,h=>by
  simp only [qg] at h ⊢
  obtain ⟨va,vc,h1,h2,h3⟩:=h
  exact ⟨va,vc,h1,q9.step T a va h2,q9.step T c vc h3⟩
 | .nilf,_,h=>h
 | .iface t x,cs,h=>by
  simp only [qg] at h ⊢
  obtain ⟨c,v,h1,h2,h3⟩:=h
  exact ⟨c,v,h1,qg.step T x c h2,h3⟩
 | .nili,_,h=>h
 | .yl l,cs,h=>by
  simp only [qg] at h ⊢
  obtain ⟨h1,ps,n,sl,as0,bd,fn,st,pe,d,hg⟩:=h
  obtain ⟨o',hg',hm⟩:=T.kept l _ hg
  cases o'<;>simp only [ZK] at hm
  exact ⟨by rw [hm]; exact h1,_,_,_,_,_,_,_,_,_,hg'⟩
 | .es _,_,h=>h
 | .tup _,_,h=>h
 | .undef,_,h=>h
theorem qM.step (T:Trans ob γ G w ob' γ' G' w'):∀ (x:List AV) (cs:List Value),qM ob γ G w x cs→qM ob' γ' G' w' x cs
 | [],_,h=>h
 | x::xs,cs,h=>by
  simp only [qM] at h ⊢
  obtain ⟨c,d,e,h1,h2⟩:=h
  exact ⟨c,d,e,qg.step T x c h1,qM.step T xs d h2⟩
theorem q9.step (T:Trans ob γ G w ob' γ' G' w'):∀ (x:List AV) (vs:List Value),q9 ob γ G w x vs→q9 ob' γ' G' w' x vs
 | [],_,h=>h
 | x::xs,vs,h=>by
  simp only [q9] at h ⊢
  obtain ⟨c,v,r,e,h1,h2,h3⟩:=h
  exact ⟨c,v,r,e,qg.step T x c h1,h2,q9.step T xs r h3⟩
end
theorem qx.step (T:Trans ob γ G w ob' γ' G' w') (x:AV) (v:Value) (h:qx ob γ G w x v):qx ob' γ' G' w' x v:=by
 unfold qx at h ⊢
 cases x<;>simp only at h ⊢<;>first
  | trivial
  | (obtain ⟨vs,h1,h2⟩:=h; exact ⟨vs,h1,q9.step T _ vs h2⟩)
  | (obtain ⟨c,h1,h2⟩:=h; exact ⟨c,qg.step T _ c h1,h2⟩)
theorem qK.step (T:Trans ob γ G w ob' γ' G' w'):∀ (es:zT) (l:List MapEntry),qK ob γ G w es l→qK ob' γ' G' w' es l
 | [],_,h=>h
 | (k,x,n)::r,l,h=>by
  simp only [qK] at h ⊢
  obtain ⟨e,t,h1,h2,h3,h4,h5⟩:=h
  exact ⟨e,t,h1,qx.step T _ _ h2,⟨qx.step T _ _ h3.1,h3.2⟩,h4,qK.step T r t h5⟩
theorem qV.mono (K:Ze G w G' w') {sz:Nat}:∀ {x:PV} {cs:List Value},qV G w sz x cs→qV G' w' sz x cs:=by
 intro x cs h
 cases x<;>simp only [qV] at h ⊢
 ·exact ⟨h.1,qU.mono K _ _ h.2.1,h.2.2⟩
 ·exact h
theorem qR.step (T : Trans ob γ G w ob' γ' G' w') {l : Nat} {o : zm} (hb : live γ l o → w'.heap[(γ l).1]? = w.heap[(γ l).1]?) (hγ : γ' l = γ l)
    (hG:live γ l o→∀ i,G' (γ l).1 i↔G (γ l).1 i) (h:qR ob γ G w l o):qR ob' γ' G' w' l o:=by
 cases o with
 | cell ro c=>
  have hb:=hb trivial
  replace hG:=hG trivial
  simp only [qR,hγ,Y_,hb] at h ⊢
  obtain ⟨cs,h1,h2,h3⟩:=h
  refine ⟨cs,h1,qg.step T _ _ h2,?_⟩
  split at h3
  ·exact fun j hj=>(hG _).2 (h3 j hj)
  ·exact fun j hj=>h3 j ((hG _).1 hj)
 | vec fz sz x=>
  simp only [qR,hγ] at h ⊢
  obtain ⟨h0,cs,sp,h2,h3,h1⟩:=h
  refine ⟨h0,cs,sp,qV.mono T.keeps h2,h3,fun hl=>?_⟩
  obtain ⟨h1,h4,h5⟩:=h1 hl
  have hb:=hb hl
  have hG:=hG hl
  simp only [Y_,hb] at h1 ⊢
  exact ⟨h1,fun j hj=>h4 j ((hG _).1 hj),fun e j hj=>(hG _).2 (h5 e j hj)⟩
 | fns xs=>
  have hb:=hb trivial
  have hG:=hG trivial
  simp only [qR,hγ,Y_,hb] at h ⊢
  obtain ⟨cs,h1,h2,h3,h4,h5⟩:=h
  exact ⟨cs,h1,qM.step T _ _ h2,h3,fun j hj=>h4 j ((hG _).1 hj),h5⟩
 | map c es=>
  have hb:=hb trivial
  have hG:=hG trivial
  simp only [qR,hγ,hb] at h ⊢
  obtain ⟨ents,h1,h2,h3,h4,h5⟩:=h
  exact ⟨ents,h1,qK.step T _ _ h2,h3,h4,fun j hj=>h5 j ((hG _).1 hj)⟩
 | loop ps n sl as0 bd fn st pe d=>
  have hb:=hb trivial
  have hG:=hG trivial
  simp only [qR,hγ,hb] at h ⊢
  obtain ⟨tmps,fn',h1,h2,h3,⟨b,h4⟩,h5⟩:=h
  obtain ⟨o',hg',hm⟩:=T.kept _ _ h4
  cases o'<;>simp only [ZK] at hm
  refine ⟨tmps,fn',by rw [hm]; exact h1,h2,fun t x hx=>?_,⟨_,hg'⟩,fun j hj=>h5 j ((hG _).1 hj)⟩
  obtain ⟨v,g1,g2⟩:=h3 t x hx
  exact ⟨v,g1,qx.step T _ _ g2⟩
 | dfr b=>
  have hb:=hb trivial
  have hG:=hG trivial
  simp only [qR,hγ,hb] at h ⊢
  exact ⟨h.1,fun j hj=>h.2 j ((hG _).1 hj)⟩
end step
theorem qR.lt {ob:Ob} {γ:Hm} {G:Gh} {w:World} {l:Nat} {o:zm} (h:qR ob γ G w l o) (hl:live γ l o):(γ l).1 < w.heap.size:=by
 have key:∀ x,w.heap[(γ l).1]?=some x→(γ l).1 < w.heap.size:=fun x hx=>(Array.getElem?_eq_some_iff.1 hx).1
 cases o<;>simp only [qR,Y_] at h
 ·obtain ⟨cs,⟨el,fr,h1,_⟩,_⟩:=h; exact key _ h1
 ·obtain ⟨_,cs,sp,_,_,h⟩:=h; obtain ⟨⟨el,fr,h1,_⟩,_⟩:=h hl; exact key _ h1
 ·obtain ⟨cs,⟨el,fr,h1,_⟩,_⟩:=h; exact key _ h1
 ·obtain ⟨ents,h1,_⟩:=h; exact key _ h1
 ·obtain ⟨tmps,fn',h1,_⟩:=h; exact key _ h1
 ·exact key _ h.1
theorem qpN {ob : Ob} {γ : Hm} {G : Gh} {w : World} (H : qC ob γ G w) (l : Nat) (o' : zm) (hm : Nat × Nat) (G' : Gh) (w' : World)
    (hsz:w.heap.size≤w'.heap.size) (hfr:∀ b,b < w.heap.size→b≠hm.1→w'.heap[b]?=w.heap[b]?) (hk:Ze G w G' w')
    (hg:∀ b o,G' b o→¬ G b o→b=hm.1) (hlt:hm.1 < w'.heap.size)
    (hhome:w.heap.size≤hm.1∨∃ o,get ob l=some o∧live γ l o∧(γ l).1=hm.1)
    (hstep:∀ o,get ob l=some o→ZK (upd γ l hm) γ l o o')
    (hcl:∀ n∈o'.names,∃ o,get (ins l o' ob) n=some o)
    (hobj:Trans ob γ G w (ins l o' ob) (upd γ l hm) G' w'→qR (ins l o' ob) (upd γ l hm) G' w' l o') (hio:Ve w w':=by exact ⟨rfl,rfl⟩) :
    qC (ins l o' ob) (upd γ l hm) G' w'∧Trans ob γ G w (ins l o' ob) (upd γ l hm) G' w':=by
 have hT:Trans ob γ G w (ins l o' ob) (upd γ l hm) G' w':=by
  refine ⟨hk,hsz,?_,?_,?_,?_,hio⟩
  ·intro b hb hno
   refine hfr b hb fun e=>?_
   rcases hhome with h | ⟨o,ho,hv,he⟩
   ·omega
   ·exact hno l o ho hv (by rw [he,e])
  ·intro b o h1 h2
   have:=hg b o h1 h2
   rcases hhome with h | ⟨x,ho,hv,he⟩
   ·exact .inl (by omega)
   ·exact .inr ⟨l,x,ho,hv,by rw [he,this]⟩
  ·intro j o hj
   by_cases e:j=l
   ·subst e
    refine ⟨o',by simp [qE],?_⟩
    exact hstep o hj
   ·refine ⟨o,by rw [qE,if_neg (fun h=>e h.symm)]; exact hj,?_⟩
    exact qdP (H.obj j o hj) (q_ γ hm e)
  ·intro j o hj hv
   by_cases e:j=l
   ·subst e
    rw [zp]
    rcases hhome with h | ⟨x,ho,hx,he⟩
    ·exact .inl h
    ·exact .inr ⟨j,x,ho,hx,he⟩
   ·rw [qE,if_neg (fun h=>e h.symm)] at hj
    exact .inr ⟨j,o,hj,(zM (q_ γ hm e)).1 hv,by rw [q_ γ hm e]⟩
 refine ⟨⟨?_,?_,?_,?_⟩,hT⟩
 ·intro j o hj
  by_cases e:j=l
  ·subst e
   rw [qE,if_pos rfl] at hj
   cases hj
   exact hobj hT
  ·rw [qE,if_neg (fun h=>e h.symm)] at hj
   have h0:=H.obj j o hj
   have hne:live γ j o→(γ j).1≠hm.1:=fun hv=>by
    rcases hhome with h | ⟨x,ho,hx,he⟩
    ·have:=h0.lt hv; omega
    ·intro h; exact e (H.inj j l o x hj ho hv hx (by rw [h,he]))
   refine qR.step hT (fun hv=>hfr _ (h0.lt hv) (hne hv)) (q_ γ hm e) (fun hv i=>⟨fun h=>?_,hk.sub _ _⟩) h0
   by_cases hgi:G (γ j).1 i
   ·exact hgi
   ·exact absurd (hg _ _ h hgi) (hne hv)
 ·intro j j' o o₁ h1 h2 v1 v2 he
  by_cases e:j=l<;>by_cases e':j'=l
  ·rw [e,e']
  ·subst e
   rw [qE,if_neg (fun h=>e' h.symm)] at h2
   rw [zp,q_ γ hm e'] at he
   have v2:=(zM (q_ γ hm e')).1 v2
   rcases hhome with h | ⟨x,ho,hv,hx⟩
   ·have:=(H.obj j' _ h2).lt v2; omega
   ·exact H.inj j j' x o₁ ho h2 hv v2 (by rw [hx,he])
  ·subst e'
   rw [qE,if_neg (fun h=>e h.symm)] at h1
   rw [zp,q_ γ hm e] at he
   have v1:=(zM (q_ γ hm e)).1 v1
   rcases hhome with h | ⟨x,ho,hv,hx⟩
   ·have:=(H.obj j _ h1).lt v1; omega
   ·exact H.inj j j' o x h1 ho v1 hv (by rw [hx,he])
  ·rw [qE,if_neg (fun h=>e h.symm)] at h1
   rw [qE,if_neg (fun h=>e' h.symm)] at h2
   rw [q_ γ hm e,q_ γ hm e'] at he
   exact H.inj j j' o o₁ h1 h2 ((zM (q_ γ hm e)).1 v1) ((zM (q_ γ hm e')).1 v2) he
 ·intro b o hb
  by_cases hgb:G b o
  ·exact Nat.lt_of_lt_of_le (H.gok b o hgb) hsz
  ·rw [hg b o hb hgb]; exact hlt
 ·intro j o hj n hn
  by_cases e:j=l
  ·subst e
   rw [qE,if_pos rfl] at hj
   cases hj
   exact hcl n hn
  ·rw [qE,if_neg (fun h=>e h.symm)] at hj
   obtain ⟨x,hx⟩:=H.closed j o hj n hn
   by_cases en:n=l
   ·exact ⟨o',by simp [qE,en]⟩
   ·exact ⟨x,by rw [qE,if_neg (fun h=>en h.symm)]; exact hx⟩
theorem qmV {ob : Ob} {γ : Hm} {G : Gh} {w : World} (H : qC ob γ G w) (l : Nat) {fz : Bool} {sz b : Nat} {x : PV} (h0 : 0 < sz) (hr : qV G w sz x [])
    (hstep:∀ o,get ob l=some o→ZK (upd γ l (b,0)) γ l o (.vec fz sz x)) :
    qC (ins l (.vec fz sz x) ob) (upd γ l (b,0)) G w∧Trans ob γ G w (ins l (.vec fz sz x) ob) (upd γ l (b,0)) G w:=by
 have hd:¬ live (upd γ l (b,0)) l (.vec fz sz x):=by simp [live,zp]
 have hT:Trans ob γ G w (ins l (.vec fz sz x) ob) (upd γ l (b,0)) G w:=by
  refine ⟨⟨fun _ _ h=>h,fun _ _ _=>rfl⟩,Nat.le_refl _,fun _ _ _=>rfl,fun _ _ h h'=>absurd h h',?_,?_,⟨rfl,rfl⟩⟩
  ·intro j o hj
   by_cases e:j=l
   ·subst e
    exact ⟨_,by rw [qE,if_pos rfl],hstep o hj⟩
   ·exact ⟨o,by rw [qE,if_neg (fun h=>e h.symm)]; exact hj,qdP (H.obj j o hj) (q_ γ _ e)⟩
  ·intro j o hj hv
   by_cases e:j=l
   ·subst e
    rw [qE,if_pos rfl] at hj
    cases hj
    exact absurd hv hd
   ·rw [qE,if_neg (fun h=>e h.symm)] at hj
    exact .inr ⟨j,o,hj,(zM (q_ γ _ e)).1 hv,by rw [q_ γ _ e]⟩
 refine ⟨⟨?_,?_,H.gok,?_⟩,hT⟩
 ·intro j o hj
  by_cases e:j=l
  ·subst e
   rw [qE,if_pos rfl] at hj
   cases hj
   simp only [qR,zp]
   exact ⟨h0,[],[],hr,by simp,fun h=>absurd rfl h⟩
  ·rw [qE,if_neg (fun h=>e h.symm)] at hj
   exact qR.step hT (fun _=>rfl) (q_ γ _ e) (fun _ _=>Iff.rfl) (H.obj j o hj)
 ·intro j j' o o₁ h1 h2 v1 v2 he
  by_cases e:j=l
  ·subst e
   rw [qE,if_pos rfl] at h1
   cases h1
   exact absurd v1 hd
  ·by_cases e':j'=l
   ·subst e'
    rw [qE,if_pos rfl] at h2
    cases h2
    exact absurd v2 hd
   ·rw [qE,if_neg (fun h=>e h.symm)] at h1
    rw [qE,if_neg (fun h=>e' h.symm)] at h2
    rw [q_ γ _ e,q_ γ _ e'] at he
    exact H.inj j j' o o₁ h1 h2 ((zM (q_ γ _ e)).1 v1) ((zM (q_ γ _ e')).1 v2) he
 ·intro j o hj n hn
  by_cases e:j=l
  ·subst e
   rw [qE,if_pos rfl] at hj
   cases hj
   simp [zm.names] at hn
  ·rw [qE,if_neg (fun h=>e h.symm)] at hj
   obtain ⟨x,hx⟩:=H.closed j o hj n hn
   by_cases en:n=l
   ·exact ⟨_,by rw [qE,if_pos en.symm]⟩
   ·exact ⟨x,by rw [qE,if_neg (fun h=>en h.symm)]; exact hx⟩
theorem qmJ {ob : Ob} {γ : Hm} {G : Gh} {w : World} (H : qC ob γ G w) (G' : Gh) (w' : World)
    (hsz:w.heap.size≤w'.heap.size) (hfr:∀ b,b < w.heap.size→w'.heap[b]?=w.heap[b]?)
    (hsub:∀ b o,G b o→G' b o) (hg:∀ b o,G' b o→¬ G b o→w.heap.size≤b∧b < w'.heap.size) (hio:Ve w w':=by exact ⟨rfl,rfl⟩) :
    qC ob γ G' w'∧Trans ob γ G w ob γ G' w':=by
 have hk:Ze G w G' w':=⟨hsub,fun b o h=>by simp only [World.cell?,hfr b (H.gok b o h)]⟩
 have hT:Trans ob γ G w ob γ G' w':=by
  refine ⟨hk,hsz,fun b hb _=>hfr b hb,fun b o h1 h2=>.inl (hg b o h1 h2).1,?_,fun l o h hv=>.inr ⟨l,o,h,hv,rfl⟩,hio⟩
  intro j o hj
  exact ⟨o,hj,qdP (H.obj j o hj) rfl⟩
 refine ⟨⟨?_,H.inj,?_,H.closed⟩,hT⟩
 ·intro j o hj
  have h0:=H.obj j o hj
  refine qR.step hT (fun hv=>hfr _ (h0.lt hv)) rfl (fun hv i=>⟨fun h=>?_,hsub _ _⟩) h0
  by_cases hgi:G (γ j).1 i
  ·exact hgi
  ·have:=(hg _ _ h hgi).1; have:=h0.lt hv; omega
 ·intro b o hb
  by_cases hgb:G b o
  ·exact Nat.lt_of_lt_of_le (H.gok b o hgb) hsz
  ·exact (hg b o hb hgb).2
theorem Trans.refl {ob:Ob} {γ:Hm} {G:Gh} {w:World} (H:qC ob γ G w):Trans ob γ G w ob γ G w:=
 (qmJ H G w (Nat.le_refl _) (fun _ _=>rfl) (fun _ _ h=>h) (fun b o h k=>absurd h k)).2
theorem Trans.trans {ob ob' ob'' : Ob} {γ γ' γ'' : Hm} {G G' G'' : Gh} {w w' w'' : World} (H : qC ob γ G w)
    (h:Trans ob γ G w ob' γ' G' w') (k:Trans ob' γ' G' w' ob'' γ'' G'' w''):Trans ob γ G w ob'' γ'' G'' w'':=by
 refine ⟨h.keeps.trans k.keeps,Nat.le_trans h.size k.size,?_,?_,?_,?_,k.io.1.trans h.io.1,k.io.2.trans h.io.2⟩
 ·intro b hb hno
  rw [k.frame b (Nat.lt_of_lt_of_le hb h.size),h.frame b hb hno]
  intro l o hl hv e
  rcases h.fresh l o hl hv with h1 | ⟨l₀,o₀,h1,hx,h2⟩
  ·omega
  ·exact hno l₀ o₀ h1 hx (by rw [h2,e])
 ·intro b o h1 h2
  by_cases h3:G' b o
  ·exact h.gnew b o h3 h2
  ·rcases k.gnew b o h1 h3 with h4 | ⟨l,x,h4,hv,h5⟩
   ·exact .inl (Nat.le_trans h.size h4)
   ·rcases h.fresh l x h4 hv with h6 | ⟨l₀,o₀,h6,hx,h7⟩
    ·exact .inl (by omega)
    ·exact .inr ⟨l₀,o₀,h6,hx,by rw [h7,h5]⟩
 ·intro l o hl
  obtain ⟨o',h1,h2⟩:=h.kept l o hl
  obtain ⟨o'',h3,h4⟩:=k.kept l o' h1
  refine ⟨o'',h3,?_⟩
  cases o<;>cases o'<;>simp only [ZK] at h2<;>cases o''<;>simp only [ZK] at h4 ⊢
  ·rw [h4,h2]
  ·refine ⟨by omega,fun e=>?_⟩
   rw [h4.2 (by omega),h2.2 (by omega)]
  ·exact ⟨by omega,by rw [h4.2,h2.2]⟩
  ·rw [h4,h2]
  ·rw [h4,h2]
  ·rw [h4,h2]
 ·intro l o hl hv
  rcases k.fresh l o hl hv with h1 | ⟨l₀,o₀,h1,hx,h2⟩
  ·exact .inl (Nat.le_trans h.size h1)
  ·rcases h.fresh l₀ o₀ h1 hx with h3 | ⟨l₁,o₁,h3,hy,h4⟩
   ·exact .inl (by omega)
   ·exact .inr ⟨l₁,o₁,h3,hy,by rw [h4,h2]⟩
end Go.Rx
end
noncomputable section
namespace Go.Rx
theorem ZL:∀ {ps qs:List Prop},All (ps++qs)→All ps∧All qs
 | [],qs,h=>⟨trivial,h⟩
 | [p],[],h=>⟨h,trivial⟩
 | [p],q::qs,h=>⟨h.1,h.2⟩
 | p::p'::ps,qs,h=>by
  have h':p∧All ((p'::ps)++qs):=h
  have:=ZL (ps:=p'::ps) h'.2
  exact ⟨⟨h'.1,this.1⟩,this.2⟩
theorem qu {α β : Type} {x : R α} {f : α → R β} {b : β} {qs : List Prop} (h : x.with f = some (b, qs)) (hq : All qs) :
    ∃ a ps ps',x=some (a,ps)∧f a=some (b,ps')∧All ps∧All ps':=by
 unfold R.with at h
 split at h
 ·split at h
  ·simp only [Option.some.injEq,Prod.mk.injEq] at h
   obtain ⟨rfl,rfl⟩:=h
   have:=ZL hq
   rename_i a ps _ b' ps' hf
   exact ⟨a,ps,ps',rfl,hf,this.1,this.2⟩
  ·simp at h
 ·simp at h
theorem qA {α:Type} {b:Bool} {x:R α} {r:α×List Prop} (h:qD b x=some r):b=true∧x=some r:=by
 cases b<;>simp [qD] at h ⊢
 exact h
theorem q6 {α:Type} {p:Prop} {x y:α} {ps:List Prop} (h:owe p x=some (y,ps)) (hp:All ps):y=x∧p:=by
 simp only [owe,Option.some.injEq,Prod.mk.injEq] at h
 obtain ⟨rfl,rfl⟩:=h
 exact ⟨rfl,hp⟩
theorem qh {α:Type} {x y:α} {ps:List Prop} (h:qo x=some (y,ps)):y=x:=by
 simp only [qo,Option.some.injEq,Prod.mk.injEq] at h
 exact h.1.symm
theorem QG {α:Type} {x:Option α} {y:α} {ps:List Prop} (h:ofO x=some (y,ps)):x=some y:=by
 unfold ofO at h
 split at h
 ·rw [qh h]
 ·simp at h
theorem qcB {x:R PV} {y:AV} {ps:List Prop} (h:rPV x=some (y,ps)):∃ z,x=some (z,ps)∧y=.pv z:=by
 unfold rPV at h
 split at h
 ·simp only [Option.some.injEq,Prod.mk.injEq] at h
  obtain ⟨rfl,rfl⟩:=h
  exact ⟨_,rfl,rfl⟩
 ·simp at h
section types
variable {P:Program} {t:TypeId} (w:World)
theorem qDj {k:TK} (h:qm P t=some k):∃ d,P.underlying t=some d:=by
 unfold qm at h
 cases hu:P.underlying t with
 | none=>simp [hu] at h
 | some d=>exact ⟨d,rfl⟩
theorem JQ {d:TypeDesc} (h:P.underlying t=some d):∃ i,P.info? t=some i:=by
 unfold Program.underlying at h
 cases hi:P.info? t with
 | none=>simp [hi] at h
 | some i=>exact ⟨i,rfl⟩
theorem qlf (h:qm P t=some .bool):P.underlying t=some .bool:=by
 unfold qm at h; repeat' split at h
 all_goals simp_all
theorem qcl {k:IntKind} (h:qm P t=some (.int k)):P.underlying t=some (.int k):=by
 unfold qm at h; repeat' split at h
 all_goals simp_all
theorem Jn (h:qm P t=some .str):P.underlying t=some .string:=by
 unfold qm at h; repeat' split at h
 all_goals simp_all
theorem qei {e:TypeId} (h:qm P t=some (.ptr e)):P.underlying t=some (.pointer e):=by
 unfold qm at h; repeat' split at h
 all_goals simp_all
theorem qZ {e:TypeId} (h:qm P t=some (.slice e)):P.underlying t=some (.slice e):=by
 unfold qm at h; repeat' split at h
 all_goals simp_all
theorem Jd {a e:TypeId} (h:qm P t=some (.map a e)):P.underlying t=some (.map a e):=by
 unfold qm at h; repeat' split at h
 all_goals simp_all
theorem qk3 (h:qm P t=some .func):∃ a b c,P.underlying t=some (.func a b c):=by
 unfold qm at h; repeat' split at h
 all_goals simp_all
theorem qpP (h:qm P t=some .iface):∃ a,P.underlying t=some (.interface a):=by
 unfold qm at h; repeat' split at h
 all_goals simp_all
theorem ZB {n:Nat} (h:qm P t=some (.bytes n)):∃ e,P.underlying t=some (.array n e)∧P.underlying e=some (.int .u8)∧qq P e=1:=by
 unfold qm at h; repeat' split at h
 all_goals simp_all
theorem qbm {n:Nat} (h:qm P t=some (.words n)):∃ e,P.underlying t=some (.array n e)∧P.underlying e=some (.int .u32)∧qq P e=1:=by
 unfold qm at h; repeat' split at h
 all_goals simp_all
theorem qn9 {n:Nat} {e:TypeId} (h:qm P t=some (.arr n e)):P.underlying t=some (.array n e):=by
 unfold qm at h; repeat' split at h
 all_goals simp_all
theorem KF {fs:List (TypeId×Nat)} (h:qm P t=some (.struct fs)):∃ gs,P.underlying t=some (.struct gs)∧fs=gs.toList.map fun f=>(f.type,f.offset):=by
 unfold qm at h; repeat' split at h
 all_goals simp_all
theorem YJ {d:TypeDesc} (h:P.underlying t=some d):(sizeOf t).run P w=.ok (qq P t) w:=by
 obtain ⟨i,hi⟩:=JQ h
 simp [sizeOf,typeInfo,hi,qq]
def qv4:TypeDesc→Bool
 | .struct _ | .array _ _=>true
 | _=>false
theorem Ka {d:TypeDesc} (h:P.underlying t=some d):(isAgg t).run P w=.ok (qv4 d) w:=by
 simp only [isAgg,Sem.run_bind,run_underlying h,Result.andThen_ok]
 cases d<;>rfl
theorem Ws {d:Nat} {x:AV} (h:fit P d t x=true):∃ td,P.underlying t=some td∧qv4 td=x.isAgg:=by
 cases d with
 | zero=>simp [fit] at h
 | succ d=>
  unfold fit at h
  split at h<;>first
   | (simp at h; done)
   | (rename_i hk; exact ⟨_,qlf hk,rfl⟩)
   | (rename_i hk; exact ⟨_,qcl hk,rfl⟩)
   | (rename_i hk; exact ⟨_,Jn hk,rfl⟩)
   | (rename_i hk; obtain ⟨e,he,_⟩:=ZB hk; exact ⟨_,he,rfl⟩)
   | (rename_i hk; obtain ⟨e,he,_⟩:=qbm hk; exact ⟨_,he,rfl⟩)
   | (rename_i hk; exact ⟨_,qZ hk,rfl⟩)
   | (rename_i hk; exact ⟨_,qei hk,rfl⟩)
   | (rename_i hk; exact ⟨_,Jd hk,rfl⟩)
   | (rename_i hk; obtain ⟨a,b,c,he⟩:=qk3 hk; exact ⟨_,he,rfl⟩)
   | (rename_i hk; obtain ⟨a,he⟩:=qpP hk; exact ⟨_,he,rfl⟩)
   | (rename_i hk; exact ⟨_,qn9 hk,rfl⟩)
   | (rename_i hk; obtain ⟨gs,he,_⟩:=KF hk; exact ⟨_,he,rfl⟩)
end types
section zZ
variable {ob:Ob} {γ:Hm} {G:Gh} {w:World} {v:Value}
theorem Wn {x:Bool}:qx ob γ G w (.pv (.b x)) v↔v=.bool x:=by simp [qx,qg,qv,AV.isAgg,qQ,eq_comm]
theorem zB {k:IntKind} {n:Int}:qx ob γ G w (.pv (.i k n)) v↔v=.int k n:=by simp [qx,qg,qv,AV.isAgg,qQ,eq_comm]
theorem Wg {x:List UInt8}:qx ob γ G w (.pv (.s x)) v↔v=.string ⟨x.toArray⟩:=by simp [qx,qg,qv,AV.isAgg,qQ,eq_comm]
theorem zX:qx ob γ G w .nils v↔v=.slice none 0 0:=by simp [qx,qg,AV.isAgg,qQ,eq_comm]
theorem qdn:qx ob γ G w .nilp v↔v=.pointer none:=by simp [qx,qg,AV.isAgg,qQ,eq_comm]
theorem qfD:qx ob γ G w .nilm v↔v=.map none:=by simp [qx,qg,AV.isAgg,qQ,eq_comm]
theorem qma:qx ob γ G w .nilf v↔v=.nilFunc:=by simp [qx,qg,AV.isAgg,qQ,eq_comm]
theorem qlt:qx ob γ G w .nili v↔v=.nilIface:=by simp [qx,qg,AV.isAgg,qQ,eq_comm]
theorem qY {x:AV} (hx:x.isAgg=false) (h:qg ob γ G w x [v]):qx ob γ G w x v:=by
 unfold qx
 cases x<;>simp only [qg] at h ⊢
 all_goals first
  | exact ⟨[v],h,by rw [hx]; rfl⟩
  | exact h.elim
  | trivial
theorem qeW {x:AV} {cs:List Value} (hx:x.isAgg=true) (h:qg ob γ G w x cs):qx ob γ G w x (.agg cs.toArray):=by
 unfold qx
 cases x<;>simp only [qg] at h ⊢
 all_goals first
  | exact ⟨cs,h,by rw [hx]; rfl⟩
  | exact h.elim
  | trivial
theorem qba {x:AV} {cs:List Value} (h:qg ob γ G w x cs) (ho:qQ x.isAgg cs v):qx ob γ G w x v:=by
 cases ha:x.isAgg with
 | true=>rw [ha] at ho; simp only [qQ] at ho; subst ho; exact qeW ha h
 | false=>rw [ha] at ho; simp only [qQ] at ho; subst ho; exact qY ha h
theorem qi_ {x:AV} (h:qx ob γ G w x v):(∃ xs,x=.tup xs)∨x=.undef∨∃ cs,qg ob γ G w x cs∧qQ x.isAgg cs v:=by
 unfold qx at h
 cases x<;>simp only at h
 all_goals first
  | exact .inr (.inr h)
  | exact .inl ⟨_,rfl⟩
  | exact .inr (.inl rfl)
theorem jU {x:PV}:qx ob γ G w (.pv x) v↔∃ cs,qv G w x cs∧qQ (AV.isAgg (.pv x)) cs v:=by
 unfold qx; simp only [qg]
theorem XU {P:Program} {d:Nat} {t:TypeId} {x:AV} (hf:fit P d t x=true) (h:qx ob γ G w x v):∃ cs,qg ob γ G w x cs∧qQ x.isAgg cs v:=by
 rcases qi_ h with ⟨xs,rfl⟩ | rfl | h
 ·cases d<;>simp [fit] at hf
 ·cases d<;>simp [fit] at hf
 ·exact h
mutual
theorem qg.len:∀ (x:AV) (cs:List Value),qg ob γ G w x cs→cs.length=x.size
 | .pv x,cs,h=>by simp only [qg] at h; simpa [AV.size] using qv.len x cs h
 | .ag xs,cs,h=>by simp only [qg] at h; simpa [AV.size] using qM.len xs cs h
 | .nils,cs,h=>by simp [qg] at h; simp [h,AV.size]
 | .v _ _,cs,h=>by simp only [qg] at h; obtain ⟨b,cap,h,_⟩:=h; simp [h,AV.size]
 | .p _ _ _,cs,h=>by simp only [qg] at h; obtain ⟨h,_⟩:=h; simp [h,AV.size]
 | .pe _ _ _ _,cs,h=>by simp only [qg] at h; obtain ⟨b,h,_⟩:=h; simp [h,AV.size]
 | .ro _,cs,h=>by simp only [qg] at h; obtain ⟨b,o,vs,h,_⟩:=h; simp [h,AV.size]
 | .nilp,cs,h=>by simp [qg] at h; simp [h,AV.size]
 | .m _,cs,h=>by simp only [qg] at h; obtain ⟨h,_⟩:=h; simp [h,AV.size]
 | .nilm,cs,h=>by simp [qg] at h; simp [h,AV.size]
 | .fn _ _ _,cs,h=>by simp only [qg] at h; obtain ⟨a,b,h,_⟩:=h; simp [h,AV.size]
 | .nilf,cs,h=>by simp [qg] at h; simp [h,AV.size]
 | .iface _ _,cs,h=>by simp only [qg] at h; obtain ⟨a,b,h,_⟩:=h; simp [h,AV.size]
 | .nili,cs,h=>by simp [qg] at h; simp [h,AV.size]
 | .yl _,cs,h=>by simp only [qg] at h; obtain ⟨h,_⟩:=h; simp [h,AV.size]
 | .es _,cs,h=>by simp only [qg] at h; obtain ⟨a,cap,h,_⟩:=h; simp [h,AV.size]
 | .tup _,cs,h=>by simp [qg] at h
 | .undef,cs,h=>by simp [qg] at h
theorem qM.len:∀ (x:List AV) (cs:List Value),qM ob γ G w x cs→cs.length=AV.zu x
 | [],cs,h=>by simp [qM] at h; simp [h,AV.zu]
 | x::xs,cs,h=>by
  simp only [qM] at h
  obtain ⟨c,d,e,h1,h2⟩:=h
  simp [e,AV.zu,qg.len x c h1,qM.len xs d h2]
end
theorem qtw {agg:Bool} {cs:List Value} (h:qQ agg cs v) (hna:agg=false→∀ c,v≠.agg c):v.cells=cs.toArray:=by
 cases agg
 ·simp only [qQ] at h; subst h
  cases v<;>first | rfl | exact absurd rfl (hna rfl _)
 ·simp only [qQ] at h; subst h; rfl
theorem qwZ {x:PV} {cs:List Value} (hx:AV.isAgg (.pv x)=false) (h:qv G w x cs):∃ v,cs=[v]∧v.oneCell'=true:=by
 cases x<;>simp only [qv] at h<;>first
  | (simp [AV.isAgg] at hx; done)
  | (subst h; exact ⟨_,rfl,rfl⟩)
  | (obtain ⟨a,cap,h,_⟩:=h; subst h; exact ⟨_,rfl,rfl⟩)
theorem zE {x:AV} {cs:List Value} (hx:x.isAgg=false) (h:qg ob γ G w x cs):∃ v,cs=[v]∧v.oneCell'=true:=by
 cases x<;>simp only [qg] at h
 case pv x=>exact qwZ hx h
 case ag=>simp [AV.isAgg] at hx
 all_goals first
  | exact h.elim
  | (subst h; exact ⟨_,rfl,rfl⟩)
  | (obtain ⟨h,_⟩:=h; subst h; exact ⟨_,rfl,rfl⟩)
  | (obtain ⟨a,h,_⟩:=h; subst h; exact ⟨_,rfl,rfl⟩)
  | (obtain ⟨a,b,h,_⟩:=h; subst h; exact ⟨_,rfl,rfl⟩)
  | (obtain ⟨a,b,c,h,_⟩:=h; subst h; exact ⟨_,rfl,rfl⟩)
theorem XB {x:AV} {cs:List Value} (h:qg ob γ G w x cs) (ho:qQ x.isAgg cs v):v.cells=cs.toArray:=by
 refine qtw ho fun e c hc=>?_
 obtain ⟨u,hu,h1⟩:=zE e h
 rw [e] at ho; simp only [qQ] at ho
 rw [ho] at hu; cases hu; subst hc; simp [Value.oneCell'] at h1
mutual
theorem qv.qax:∀ (x:PV) (cs:List Value),qv G w x cs→∀ c∈cs,c.oneCell'=true
 | .b _,cs,h=>by simp only [qv] at h; subst h; simp [Value.oneCell']
 | .i _ _,cs,h=>by simp only [qv] at h; subst h; simp [Value.oneCell']
 | .s _,cs,h=>by simp only [qv] at h; subst h; simp [Value.oneCell']
 | .ba _ _,cs,h=>by simp only [qv] at h; subst h; simp [Value.oneCell',cu8]
 | .wa _ _,cs,h=>by simp only [qv] at h; subst h; simp [Value.oneCell',qiA]
 | .ag xs,cs,h=>qU.qax xs cs h
 | .l _ _,cs,h=>by simp only [qv] at h; obtain ⟨a,cap,h,_⟩:=h; subst h; simp [Value.oneCell']
 | .bl _,cs,h=>by simp only [qv] at h; obtain ⟨a,cap,h,_⟩:=h; subst h; simp [Value.oneCell']
theorem qU.qax:∀ (x:List PV) (cs:List Value),qU G w x cs→∀ c∈cs,c.oneCell'=true
 | [],cs,h=>by simp only [qU] at h; subst h; simp
 | x::xs,cs,h=>by
  obtain ⟨c,d,e,h1,h2⟩:=h
  intro u hu
  rw [e] at hu
  rcases List.mem_append.1 hu with hu | hu
  ·exact qv.qax x c h1 u hu
  ·exact qU.qax xs d h2 u hu
end
mutual
theorem qg.qax:∀ (x:AV) (cs:List Value),qg ob γ G w x cs→∀ c∈cs,c.oneCell'=true
 | .pv x,cs,h=>by simp only [qg] at h; exact qv.qax x cs h
 | .ag xs,cs,h=>by simp only [qg] at h; exact qM.qax xs cs h
 | .nils,cs,h=>by obtain ⟨v,rfl,h1⟩:=zE rfl h; simpa using h1
 | .v _ _,cs,h=>by obtain ⟨v,rfl,h1⟩:=zE rfl h; simpa using h1
 | .p _ _ _,cs,h=>by obtain ⟨v,rfl,h1⟩:=zE rfl h; simpa using h1
 | .pe _ _ _ _,cs,h=>by obtain ⟨v,rfl,h1⟩:=zE rfl h; simpa using h1
 | .ro _,cs,h=>by obtain ⟨v,rfl,h1⟩:=zE rfl h; simpa using h1
 | .nilp,cs,h=>by obtain ⟨v,rfl,h1⟩:=zE rfl h; simpa using h1
 | .m _,cs,h=>by obtain ⟨v,rfl,h1⟩:=zE rfl h; simpa using h1
 | .nilm,cs,h=>by obtain ⟨v,rfl,h1⟩:=zE rfl h; simpa using h1
 | .fn _ _ _,cs,h=>by obtain ⟨v,rfl,h1⟩:=zE rfl h; simpa using h1
 | .nilf,cs,h=>by obtain ⟨v,rfl,h1⟩:=zE rfl h; simpa using h1
 | .iface _ _,cs,h=>by obtain ⟨v,rfl,h1⟩:=zE rfl h; simpa using h1
 | .nili,cs,h=>by obtain ⟨v,rfl,h1⟩:=zE rfl h; simpa using h1
 | .yl _,cs,h=>by obtain ⟨v,rfl,h1⟩:=zE rfl h; simpa using h1
 | .es _,cs,h=>by obtain ⟨v,rfl,h1⟩:=zE rfl h; simpa using h1
 | .tup _,cs,h=>by obtain ⟨v,rfl,h1⟩:=zE rfl h; simpa using h1
 | .undef,cs,h=>by obtain ⟨v,rfl,h1⟩:=zE rfl h; simpa using h1
theorem qM.qax:∀ (x:List AV) (cs:List Value),qM ob γ G w x cs→∀ c∈cs,c.oneCell'=true
 | [],cs,h=>by simp only [qM] at h; subst h; simp
 | x::xs,cs,h=>by
  simp only [qM] at h
  obtain ⟨c,d,e,h1,h2⟩:=h
  intro u hu
  rw [e] at hu
  rcases List.mem_append.1 hu with hu | hu
  ·exact qg.qax x c h1 u hu
  ·exact qM.qax xs d h2 u hu
end
theorem AV.qfv (xs:List PV):AV.zu (xs.map AV.pv)=PV.zu xs:=by
 induction xs with
 | nil=>rfl
 | cons x xs ih=>simp [AV.zu,PV.zu,AV.size,ih]
theorem YR:∀ (xs:List PV) (cs:List Value),qM ob γ G w (xs.map AV.pv) cs↔qU G w xs cs
 | [],cs=>by simp [qM,qU]
 | x::xs,cs=>by
  simp only [List.map_cons,qM,qU,qg]
  exact exists_congr fun c=>exists_congr fun d=>and_congr Iff.rfl (and_congr Iff.rfl (YR xs d))
theorem qM.append:∀ (xs ys:List AV) (c d:List Value),qM ob γ G w xs c→qM ob γ G w ys d→qM ob γ G w (xs++ys) (c++d)
 | [],_,_,_,h,k=>by simp [qM] at h; subst h; simpa using k
 | x::xs,ys,_,d,h,k=>by
  simp only [qM] at h
  obtain ⟨c1,c2,e,h1,h2⟩:=h
  simp only [List.cons_append,qM]
  exact ⟨c1,c2++d,by simp [e],h1,qM.append xs ys c2 d h2 k⟩
theorem qM.split:∀ (xs ys:List AV) (cs:List Value),qM ob γ G w (xs++ys) cs→∃ c d,cs=c++d∧qM ob γ G w xs c∧qM ob γ G w ys d
 | [],_,cs,h=>⟨[],cs,rfl,by simp [qM],h⟩
 | x::xs,ys,_,h=>by
  simp only [List.cons_append,qM] at h
  obtain ⟨c1,c2,e,h1,h2⟩:=h
  obtain ⟨c,d,e',h3,h4⟩:=qM.split xs ys c2 h2
  exact ⟨c1++c,d,by simp [e,e'],by simp only [qM]; exact ⟨c1,c,rfl,h1,h3⟩,h4⟩
theorem qM.at {xs : List AV} {cs : List Value} (h : qM ob γ G w xs cs) {k : Nat} {y : AV} (hy : xs[k]? = some y) :
    ∃ c d e,cs=c++d++e∧qg ob γ G w y d∧c.length=AV.zu (xs.take k)∧qM ob γ G w (xs.take k) c∧qM ob γ G w (xs.drop (k + 1)) e:=by
 obtain ⟨hk,hy'⟩:=List.getElem?_eq_some_iff.1 hy
 have hx:xs=xs.take k++(y::xs.drop (k + 1)):=by rw [← hy',List.getElem_cons_drop]; simp
 rw [hx] at h
 obtain ⟨c,d,e,h1,h2⟩:=qM.split _ _ _ h
 simp only [qM] at h2
 obtain ⟨d1,d2,e',h2,h3⟩:=h2
 exact ⟨c,d1,d2,by simp [e,e'],h2,qM.len _ _ h1,h1,h3⟩
theorem qoF {P : Program} : ∀ (d : Nat) (fs : List (TypeId × Nat)) (xs : List AV) (n : Nat), fits P d fs xs n = true → ∀ (f u o : Nat) (y : AV), fs[f]? = some (u, o) → xs[f]? = some y →
    o=n + AV.zu (xs.take f)∧qq P u=y.size∧∃ d',fit P d' u y=true
 | 0,_,_,_,h=>by simp [fits] at h
 | d + 1,[],[],n,h=>by simp
 | d + 1,[],x::xs,n,h=>by simp
 | d + 1,(t,o)::fs,[],n,h=>by simp
 | d + 1,(t,o)::fs,x::xs,n,h=>by
  simp only [fits,Bool.and_eq_true,beq_iff_eq] at h
  obtain ⟨⟨⟨h1,h2⟩,h3⟩,h4⟩:=h
  intro f u o' y hf hy
  cases f with
  | zero=>
   simp only [List.getElem?_cons_zero,Option.some.injEq,Prod.mk.injEq] at hf hy
   obtain ⟨rfl,rfl⟩:=hf
   subst hy
   exact ⟨by simp [AV.zu,h1],h2,d,h3⟩
  | succ f=>
   simp only [List.getElem?_cons_succ] at hf hy
   obtain ⟨e1,e2,e3⟩:=qoF d fs xs _ h4 f u o' y hf hy
   exact ⟨by simp only [List.take_succ_cons,AV.zu]; omega,e2,e3⟩
theorem qic {P : Program} {d : Nat} {u : TypeId} {y : AV} {c cs e : List Value} (hf : fit P d u y = true) (hs : qq P u = y.size) (hy : qg ob γ G w y cs) (w' : World) :
    ∃ v',(part u (c++cs++e).toArray c.length).run P w'=.ok v' w'∧qx ob γ G w y v'∧qQ y.isAgg cs v':=by
 obtain ⟨td,hu,ha⟩:=Ws hf
 have hl:=qg.len y cs hy
 cases hag:y.isAgg with
 | true=>
  rw [hag] at ha
  refine ⟨.agg cs.toArray,?_,qeW hag hy,rfl⟩
  simp only [part,Sem.run_bind,Ka w' hu,Result.andThen_ok,ha,if_true,YJ w' hu,Sem.run_pure,hs,← hl]
  congr 2
  apply Array.ext'
  simp
 | false=>
  rw [hag] at ha
  obtain ⟨v',rfl,h1⟩:=zE hag hy
  refine ⟨v',?_,qY hag hy,rfl⟩
  simp only [part,Sem.run_bind,Ka w' hu,Result.andThen_ok,ha,Bool.false_eq_true,if_false]
  have:(c++[v']++e).toArray[c.length]?=some v':=by simp
  rw [this]; rfl
theorem ql6 {P : Program} {d t : Nat} {fs : List (TypeId × Nat)} {x : AV} (hk : qm P t = some (.struct fs)) (hf : fit P d t x = true) {cs : List Value} (hr : qg ob γ G w x cs) :
    ∃ xs d',(x=.ag xs∨∃ ys,x=.pv (.ag ys)∧xs=ys.map AV.pv)∧fits P d' fs xs 0=true∧qM ob γ G w xs cs:=by
 cases d with
 | zero=>simp [fit] at hf
 | succ d=>
  unfold fit at hf
  split at hf<;>first
   | (rename_i hk'; rw [hk] at hk'; simp at hk'; done)
   | (simp at hf; done)
   | skip
  ·rename_i hk'
   rw [hk] at hk'; simp only [Option.some.injEq,TK.struct.injEq] at hk'; subst hk'
   exact ⟨_,d,.inr ⟨_,rfl,rfl⟩,hf,(YR _ _).2 (by simpa only [qg,qv] using hr)⟩
  ·rename_i hk'
   rw [hk] at hk'; simp only [Option.some.injEq,TK.struct.injEq] at hk'; subst hk'
   exact ⟨_,d,.inl rfl,hf,by simpa only [qg] using hr⟩
end zZ
end Go.Rx
end
noncomputable section
namespace Go.Rx
section zZ
variable {ob:Ob} {γ:Hm} {G:Gh} {w:World} {v:Value}
theorem Y6:∀ {xs:List AV} {ys:List PV},AV.QA xs=some ys→xs=ys.map AV.pv
 | [],ys,h=>by simp [AV.QA] at h; simp [← h]
 | x::xs,ys,h=>by
  cases x<;>simp only [AV.QA] at h<;>try (simp at h; done)
  cases hx:AV.QA xs with
  | none=>simp [hx] at h
  | some zs=>simp [hx] at h; subst h; simp [Y6 hx]
theorem qre {xs:List AV} {cs:List Value}:qg ob γ G w (AV.mk xs) cs↔qM ob γ G w xs cs:=by
 unfold AV.mk
 split
 ·rename_i ys h
  rw [Y6 h,YR]; simp only [qg,qv]
 ·simp only [qg]
theorem qCu (xs:List AV):(AV.mk xs).isAgg=true:=by unfold AV.mk; split<;>rfl
theorem qbF {cs:List Value} {k:Nat} {u:Value} (h:cs[k]?=some u):cs=cs.take k++[u]++cs.drop (k + 1):=by
 obtain ⟨hk,h'⟩:=List.getElem?_eq_some_iff.1 h
 rw [← h']; simp
theorem qiZ {n:Nat} {x:Vector UInt8 n} {k:Nat} (hk:k < n):(x.toList.map cu8)[k]?=some (cu8 (x.toList.getD k 0)):=by
 have:k < x.toList.length:=by simpa using hk
 simp [List.getD_eq_getElem?_getD,List.getElem?_eq_getElem this]
theorem qoP {n:Nat} {x:Vector UInt32 n} {k:Nat} (hk:k < n):(x.toList.map qiA)[k]?=some (qiA (x.toList.getD k 0)):=by
 have:k < x.toList.length:=by simpa using hk
 simp [List.getD_eq_getElem?_getD,List.getElem?_eq_getElem this]
theorem qaq : ∀ (path : List Nat) (x y : AV) (o : Nat) (cs : List Value), AV.at path x = some y → AV.za path x = some o → All (AV.inR path x) → qg ob γ G w x cs →
    ∃ c d e,cs=c++d++e∧c.length=o∧qg ob γ G w y d:=by
 intro path
 induction path with
 | nil=>
  intro x y o cs h1 h2 _ hr
  simp only [AV.at,AV.za,Option.some.injEq] at h1 h2
  subst h1; subst h2
  exact ⟨[],cs,[],by simp,rfl,hr⟩
 | cons k r ih=>
  intro x y o cs h1 h2 hi hr
  cases x with
  | pv z=>
   cases z with
   | ag xs=>
    simp only [AV.at,AV.za,AV.inR] at h1 h2 hi
    cases hx:xs[k]? with
    | none=>simp [hx] at h1
    | some z=>
     simp only [hx] at h1 h2 hi
     cases ho:AV.za r (.pv z) with
     | none=>simp [ho] at h2
     | some o'=>
      simp only [ho,Option.map_some,Option.some.injEq] at h2
      simp only [qg,qv] at hr
      obtain ⟨c,d,e,e1,h3,h4,_⟩:=qU.at hr hx
      obtain ⟨c',d',e',e2,h5,h6⟩:=ih (.pv z) y o' d h1 ho hi (by simpa only [qg] using h3)
      exact ⟨c++c',d',e'++e,by simp [e1,e2],by simp; omega,h6⟩
   | ba n x=>
    cases r with
    | cons a r=>simp [AV.at] at h1
    | nil=>
     simp only [AV.at,AV.za,AV.inR,Option.some.injEq] at h1 h2 hi
     subst h1; subst h2
     simp only [qg,qv] at hr
     subst hr
     exact ⟨_,_,_,qbF (qiZ hi),by simp; have h9:k < n:=hi; omega,by simp [qg,qv,u8,cu8]⟩
   | wa n x=>
    cases r with
    | cons a r=>simp [AV.at] at h1
    | nil=>
     simp only [AV.at,AV.za,AV.inR,Option.some.injEq] at h1 h2 hi
     subst h1; subst h2
     simp only [qg,qv] at hr
     subst hr
     exact ⟨_,_,_,qbF (qoP hi),by simp; have h9:k < n:=hi; omega,by simp [qg,qv,u32,qiA]⟩
   | _=>cases r<;>simp [AV.at] at h1
  | ag xs=>
   simp only [AV.at,AV.za,AV.inR] at h1 h2 hi
   cases hx:xs[k]? with
   | none=>simp [hx] at h1
   | some z=>
    simp only [hx] at h1 h2 hi
    cases ho:AV.za r z with
    | none=>simp [ho] at h2
    | some o'=>
     simp only [ho,Option.map_some,Option.some.injEq] at h2
     simp only [qg] at hr
     obtain ⟨c,d,e,e1,h3,h4,_⟩:=qM.at hr hx
     obtain ⟨c',d',e',e2,h5,h6⟩:=ih z y o' d h1 ho hi h3
     exact ⟨c++c',d',e'++e,by simp [e1,e2],by simp; omega,h6⟩
  | _=>cases r<;>simp [AV.at] at h1
mutual
theorem qjE:∀ (xs:List PV) (k:Nat) (z:PV),xs[k]?=some z→PV.zu (xs.take k) + z.size≤PV.zu xs
 | [],k,z,h=>by simp at h
 | x::xs,0,z,h=>by simp at h; subst h; simp [PV.zu]
 | x::xs,k + 1,z,h=>by
  have:=qjE xs k z (by simpa using h)
  simp only [List.take_succ_cons,PV.zu]; omega
end
theorem qhd:∀ (xs:List AV) (k:Nat) (z:AV),xs[k]?=some z→AV.zu (xs.take k) + z.size≤AV.zu xs
 | [],k,z,h=>by simp at h
 | x::xs,0,z,h=>by simp at h; subst h; simp [AV.zu]
 | x::xs,k + 1,z,h=>by
  have:=qhd xs k z (by simpa using h)
  simp only [List.take_succ_cons,AV.zu]; omega
theorem qz4 {α:Type} {xs:List α} {k:Nat} {z:α} (h:xs[k]?=some z) (y:α):xs.set k y=xs.take k++(y::xs.drop (k + 1)):=by
 obtain ⟨hk,_⟩:=List.getElem?_eq_some_iff.1 h
 exact List.set_eq_take_append_cons_drop.trans (by rw [if_pos hk])
theorem qM.set {xs : List AV} {cs : List Value} (h : qM ob γ G w xs cs) {k : Nat} {z : AV} (hz : xs[k]? = some z) {c d e : List Value} (hcs : cs = c ++ d ++ e) (hc : c.length = AV.zu (xs.take k)) (hd : d.length = z.size)
    {y:AV} {dy:List Value} (hy:qg ob γ G w y dy):qM ob γ G w (xs.set k y) (c++dy++e):=by
 obtain ⟨c',d',e',e1,h1,h2,h3,h4⟩:=qM.at h hz
 have hl:=qg.len _ _ h1
 have e2:c=c'∧d=d'∧e=e':=by
  rw [hcs] at e1
  simp only [List.append_assoc] at e1
  obtain ⟨e3,e4⟩:=List.append_inj e1 (by omega)
  obtain ⟨e5,e6⟩:=List.append_inj e4 (by omega)
  exact ⟨e3,e5,e6⟩
 obtain ⟨rfl,rfl,rfl⟩:=e2
 rw [qz4 hz]
 rw [List.append_assoc]
 refine qM.append _ _ _ _ h3 ?_
 simp only [qM]
 exact ⟨dy,e,rfl,hy,h4⟩
theorem qcP {an:Option Ans} {y:PV} {c:UInt8} {ps:List Prop} (h:asByte an y=some (c,ps)) (hp:All ps):∃ n,y=.i .u8 n∧n=c.toNat:=by
 unfold asByte at h
 split at h
 ·split at h
  ·obtain ⟨rfl,h1⟩:=q6 h hp
   exact ⟨_,rfl,h1⟩
  ·obtain ⟨rfl,h1⟩:=q6 h hp
   refine ⟨_,rfl,?_⟩
   rename_i n _ _
   rw [UInt8.toNat_ofNat']
   rw [Nat.mod_eq_of_lt (by omega)]; omega
 ·simp at h
theorem qnN {an:Option Ans} {y:PV} {c:UInt32} {ps:List Prop} (h:qql an y=some (c,ps)) (hp:All ps):∃ n,y=.i .u32 n∧n=c.toNat:=by
 unfold qql at h
 split at h
 ·split at h
  ·obtain ⟨rfl,h1⟩:=q6 h hp
   exact ⟨_,rfl,h1⟩
  ·obtain ⟨rfl,h1⟩:=q6 h hp
   refine ⟨_,rfl,?_⟩
   rename_i n _ _
   rw [UInt32.toNat_ofNat']
   rw [Nat.mod_eq_of_lt (by omega)]; omega
 ·simp at h
theorem qA2:∀ (path:List Nat) (x z:AV) (o:Nat),AV.at path x=some z→AV.za path x=some o→All (AV.inR path x)→o + z.size≤x.size:=by
 intro path
 induction path with
 | nil=>intro x z o h1 h2 _; simp only [AV.at,AV.za,Option.some.injEq] at h1 h2; subst h1; subst h2; simp
 | cons k r ih=>
  intro x z o h1 h2 hi
  cases x with
  | pv u=>
   cases u with
   | ag xs=>
    simp only [AV.at,AV.za,AV.inR] at h1 h2 hi
    cases hx:xs[k]? with
    | none=>simp [hx] at h1
    | some u=>
     simp only [hx] at h1 h2 hi
     cases ho:AV.za r (.pv u) with
     | none=>simp [ho] at h2
     | some o'=>
      simp only [ho,Option.map_some,Option.some.injEq] at h2
      have:=ih _ _ _ h1 ho hi
      have h3:=qjE xs k u hx
      simp only [AV.size,PV.size] at this ⊢; omega
   | ba n xs=>
    cases r with
    | cons a r=>simp [AV.at] at h1
    | nil=>simp only [AV.at,AV.za,AV.inR,Option.some.injEq] at h1 h2 hi; subst h1; subst h2; simp only [AV.size,PV.size,u8]; exact hi
   | wa n xs=>
    cases r with
    | cons a r=>simp [AV.at] at h1
    | nil=>simp only [AV.at,AV.za,AV.inR,Option.some.injEq] at h1 h2 hi; subst h1; subst h2; simp only [AV.size,PV.size,u32]; exact hi
   | _=>cases r<;>simp [AV.at] at h1
  | ag xs=>
   simp only [AV.at,AV.za,AV.inR] at h1 h2 hi
   cases hx:xs[k]? with
   | none=>simp [hx] at h1
   | some u=>
    simp only [hx] at h1 h2 hi
    cases ho:AV.za r u with
    | none=>simp [ho] at h2
    | some o'=>
     simp only [ho,Option.map_some,Option.some.injEq] at h2
     have:=ih _ _ _ h1 ho hi
     have h3:=qhd xs k u hx
     simp only [AV.size] at this ⊢; omega
  | _=>cases r<;>simp [AV.at] at h1
theorem qut {α : Type} {c d e c1 d1 e1 : List α} (h : c ++ d ++ e = c1 ++ d1 ++ e1) (h1 : c1.length ≤ c.length) (h2 : c.length + d.length ≤ c1.length + d1.length) :
    ∃ c2 e2,c=c1++c2∧d1=c2++d++e2∧e=e2++e1:=by
 rw [List.append_assoc,List.append_assoc] at h
 rcases List.append_eq_append_iff.1 h with ⟨t,ha,hb⟩ | ⟨t,ha,hb⟩
 ·
  have ht:t=[]:=List.length_eq_zero_iff.1 (by have:=congrArg List.length ha; simp at this; omega)
  subst ht
  simp only [List.append_nil] at ha
  simp only [List.nil_append] at hb
  subst ha
  rcases List.append_eq_append_iff.1 hb with ⟨s,hc,hd⟩ | ⟨s,hc,hd⟩
  ·exact ⟨[],s,by simp,by simp [hc],hd⟩
  ·have hs:s=[]:=List.length_eq_zero_iff.1 (by have:=congrArg List.length hc; simp at this; omega)
   subst hs
   exact ⟨[],[],by simp,by simpa using hc.symm,by simpa using hd.symm⟩
 ·
  subst ha
  rw [← List.append_assoc] at hb
  rcases List.append_eq_append_iff.1 hb with ⟨s,hc,hd⟩ | ⟨s,hc,hd⟩
  ·have hs:s=[]:=List.length_eq_zero_iff.1 (by have:=congrArg List.length hc; simp at this h2; omega)
   subst hs
   exact ⟨t,[],rfl,by simpa using hc.symm,by simpa using hd.symm⟩
  ·exact ⟨t,s,rfl,hc,hd⟩
theorem qgQ {an : Option Ans} : ∀ (path : List Nat) (x y x' z : AV) (o : Nat) (c d e dy : List Value) (ps : List Prop), setAt an path x y = some (x', ps) → All ps → All (AV.inR path x) →
    AV.at path x=some z→AV.za path x=some o→c.length=o→d.length=z.size→qg ob γ G w x (c++d++e)→qg ob γ G w y dy→qg ob γ G w x' (c++dy++e):=by
 intro path
 induction path with
 | nil=>
  intro x y x' z o c d e dy ps h1 _ _ h2 h3 hc hd hr hy
  simp only [setAt,AV.at,AV.za,Option.some.injEq] at h1 h2 h3
  have:=qh h1
  subst this; subst h2; subst h3
  have hl:=qg.len _ _ hr
  have:c=[]:=List.length_eq_zero_iff.1 hc
  subst this
  simp at hl
  have:e=[]:=List.length_eq_zero_iff.1 (by omega)
  subst this
  simpa using hy
 | cons k r ih=>
  intro x y x' z o c d e dy ps h1 hp hi h2 h3 hc hd hr hy
  cases x with
  | pv u=>
   cases u with
   | ag xs=>
    simp only [setAt,AV.at,AV.za,AV.inR] at h1 h2 h3 hi
    cases hx:xs[k]? with
    | none=>simp [hx] at h1
    | some u=>
     simp only [hx] at h1 h2 h3 hi
     obtain ⟨u',ps1,ps2,e1,e2,hp1,_⟩:=qu h1 hp
     have:=qh e2; subst this
     cases ho:AV.za r (.pv u) with
     | none=>simp [ho] at h3
     | some o'=>
      simp only [ho,Option.map_some,Option.some.injEq] at h3
      simp only [qg,qv] at hr
      obtain ⟨c1,d1,e1',f1,h5,h6,h7,h8⟩:=qU.at hr hx
      have hl1:=qv.len _ _ h5
      have hat:=qA2 r (.pv u) z o' h2 ho hi
      simp only [AV.size] at hat
      obtain ⟨c2,e2',rfl,rfl,rfl⟩:=qut f1 (by omega) (by omega)
      have hcl:c2.length=o':=by simp at hc; omega
      have hin2:=ih (.pv u) y u' z o' c2 d e2' dy ps1 e1 hp1 hi h2 ho hcl hd (by simpa only [qg] using h5) hy
      rw [qre]
      have:=qM.set (xs:=xs.map AV.pv) (cs:=c1++(c2++d++e2')++e1') ((YR _ _).2 (by rw [← f1]; exact hr)) (k:=k) (z:=.pv u) (by simp [hx]) rfl
       (by rw [← List.map_take,AV.qfv]; exact h6) (by simp only [AV.size]; exact hl1) hin2
      simpa [List.append_assoc] using this
   | ba n xs=>
    cases r with
    | cons a r=>simp [AV.at] at h2
    | nil=>
     cases y with
     | pv y=>
      simp only [setAt] at h1
      obtain ⟨b,ps1,ps2,e1,e2,hp1,hp2⟩:=qu h1 hp
      obtain ⟨n',rfl,hn⟩:=qcP e1 hp1
      obtain ⟨rfl,hk⟩:=q6 e2 hp2
      simp only [AV.at,AV.za,Option.some.injEq] at h2 h3
      subst h2; subst h3
      simp only [qg,qv] at hr hy ⊢
      subst hy
      simp only [AV.size,u8,PV.size] at hd
      obtain ⟨d0,rfl⟩:=List.length_eq_one_iff.1 hd
      have hset:(xs.setIfInBounds k b).toList=xs.toList.set k b:=by simp
      rw [hset,List.map_set,← hr,← hc]
      simp [cu8,hn]
     | _=>simp [setAt] at h1
   | wa n xs=>
    cases r with
    | cons a r=>simp [AV.at] at h2
    | nil=>
     cases y with
     | pv y=>
      simp only [setAt] at h1
      obtain ⟨b,ps1,ps2,e1,e2,hp1,hp2⟩:=qu h1 hp
      obtain ⟨n',rfl,hn⟩:=qnN e1 hp1
      obtain ⟨rfl,hk⟩:=q6 e2 hp2
      simp only [AV.at,AV.za,Option.some.injEq] at h2 h3
      subst h2; subst h3
      simp only [qg,qv] at hr hy ⊢
      subst hy
      simp only [AV.size,u32,PV.size] at hd
      obtain ⟨d0,rfl⟩:=List.length_eq_one_iff.1 hd
      have hset:(xs.setIfInBounds k b).toList=xs.toList.set k b:=by simp
      rw [hset,List.map_set,← hr,← hc]
      simp [qiA,hn]
     | _=>simp [setAt] at h1
   | _=>cases r<;>simp [AV.at] at h2
  | ag xs=>
   simp only [setAt,AV.at,AV.za,AV.inR] at h1 h2 h3 hi
   cases hx:xs[k]? with
   | none=>simp [hx] at h1
   | some u=>
    simp only [hx] at h1 h2 h3 hi
    obtain ⟨u',ps1,ps2,e1,e2,hp1,_⟩:=qu h1 hp
    have:=qh e2; subst this
    cases ho:AV.za r u with
    | none=>simp [ho] at h3
    | some o'=>
     simp only [ho,Option.map_some,Option.some.injEq] at h3
     simp only [qg] at hr
     obtain ⟨c1,d1,e1',f1,h5,h6,h7,h8⟩:=qM.at hr hx
     have hl1:=qg.len _ _ h5
     have hat:=qA2 r u z o' h2 ho hi
     obtain ⟨c2,e2',rfl,rfl,rfl⟩:=qut f1 (by omega) (by omega)
     have hcl:c2.length=o':=by simp at hc; omega
     have hin2:=ih u y u' z o' c2 d e2' dy ps1 e1 hp1 hi h2 ho hcl hd h5 hy
     rw [qre]
     have:=qM.set (xs:=xs) (cs:=c1++(c2++d++e2')++e1') (by rw [← f1]; exact hr) (k:=k) (z:=u) hx rfl h6 hl1 hin2
     simpa [List.append_assoc] using this
  | _=>cases r<;>simp [AV.at] at h2
end zZ
end Go.Rx
end
noncomputable section
namespace Go.Rx
section eq
variable {P:Program} {ob:Ob} {γ:Hm} {G:Gh} {w:World}
theorem qDm:cu8=Extern.Stop.cell:=rfl
theorem qG {cs:List Value} {v:Value} (h:qQ false cs v):cs=[v]:=h
theorem ZZ {cs:List Value} {v:Value} (h:qQ true cs v):v=.agg cs.toArray:=h
theorem qbg {t:TypeId} {gs:Array Field} (h:P.underlying t=some (.struct gs)):P.fieldsOf t=gs:=by simp [Program.fieldsOf,h]
theorem qds (a b:List UInt8):(a == b)=decide (a=b):=by
 by_cases h:a=b<;>simp [h]
def qGl (P:Program) (d:Nat):Prop:=
 ∀ (G:Gh) (w w':World) (t:TypeId) (x y:PV) (b:Bool) (cs ds:List Value) (v u:Value) (f g n:Nat),eqT P d t=true→fit P f t (.pv x)=true→fit P g t (.pv y)=true→PV.eqb x y=some b→
  qv G w x cs→qv G w y ds→qQ (AV.isAgg (.pv x)) cs v→qQ (AV.isAgg (.pv y)) ds u→d + 1≤n→(Op.equalIn n t v u).run P w'=.ok b w'
def qGc (P:Program) (d:Nat):Prop:=
 ∀ (G:Gh) (w w':World) (gl:List Field) (xs ys:List PV) (off:Nat) (c0 c1 d0 d1:List Value) (b:Bool) (f g n:Nat),qmq P d (gl.map (·.type))=true→(∀ x∈gl,x.name ≠ "_")→
  fits P f (gl.map fun x=>(x.type,x.offset)) (xs.map AV.pv) off=true→fits P g (gl.map fun x=>(x.type,x.offset)) (ys.map AV.pv) off=true→PV.qfX xs ys=some b→
  qU G w xs c1→qU G w ys d1→c0.length=off→d0.length=off→d≤n→(Op.eqFields n (c0++c1).toArray (d0++d1).toArray gl).run P w'=.ok b w'
theorem qgY {d : Nat} {u : TypeId} {y : PV} {c cs e : List Value} (hf : fit P d u (.pv y) = true) (hs : qq P u = y.size) (hy : qv G w y cs) (w' : World) :
    ∃ v',(part u (c++cs++e).toArray c.length).run P w'=.ok v' w'∧qQ (AV.isAgg (.pv y)) cs v':=by
 obtain ⟨v',h1,_,h2⟩:=qic (ob:=[]) (γ:=fun _=>(0,0)) (G:=G) (w:=w) (y:=.pv y) (c:=c) (cs:=cs) (e:=e) hf (by simpa [AV.size] using hs) (by simpa only [qg] using hy) w'
 exact ⟨v',h1,h2⟩
theorem qBw (d:Nat):qGl P d∧qGc P d:=by
 induction d with
 | zero=>exact ⟨fun _ _ _ _ _ _ _ _ _ _ _ _ _ _ h=>by simp [eqT] at h,fun _ _ _ _ _ _ _ _ _ _ _ _ _ _ _ h=>by simp [qmq] at h⟩
 | succ d ih=>
  constructor
  ·intro G w w' t x y b cs ds v u f g n ht hx hy he hrx hry hv hu hn
   obtain ⟨n,rfl⟩:∃ m,n=m + 1:=⟨n - 1,by omega⟩
   unfold eqT at ht
   cases f with
   | zero=>simp [fit] at hx
   | succ f=>
   cases g with
   | zero=>simp [fit] at hy
   | succ g=>
   split at ht
   ·rename_i hk
    unfold fit at hx hy
    rw [hk] at hx hy
    cases x<;>simp only [Bool.false_eq_true] at hx
    cases y<;>simp only [Bool.false_eq_true] at hy
    simp only [qv] at hrx hry
    subst hrx; subst hry
    cases (qG hv); cases (qG hu)
    simp only [PV.eqb,Option.some.injEq] at he
    rw [run_equalIn_bool' w' n t _ _ (qlf hk),← he]
    congr 1
   ·rename_i k hk
    unfold fit at hx hy
    rw [hk] at hx hy
    cases x<;>simp only [Bool.false_eq_true,beq_iff_eq] at hx
    cases y<;>simp only [Bool.false_eq_true,beq_iff_eq] at hy
    simp only [qv] at hrx hry
    subst hrx; subst hry
    cases (qG hv); cases (qG hu)
    subst hx; subst hy
    simp only [PV.eqb,decide_true,Option.some.injEq] at he
    rw [run_equalIn_int w' n t _ _ _ _ (qcl hk),← he]
    congr 1
   ·rename_i hk
    unfold fit at hx hy
    rw [hk] at hx hy
    cases x<;>simp only [Bool.false_eq_true] at hx
    cases y<;>simp only [Bool.false_eq_true] at hy
    simp only [qv] at hrx hry
    subst hrx; subst hry
    cases (qG hv); cases (qG hu)
    simp only [PV.eqb,Option.some.injEq] at he
    rw [run_equalIn_string w' n t _ _ (Jn hk),← he]
    congr 1
    rw [ByteArray.toList_eq,ByteArray.toList_eq]
    exact qds _ _
   ·rename_i m hk
    unfold fit at hx hy
    rw [hk] at hx hy
    cases x<;>simp only [Bool.false_eq_true,beq_iff_eq] at hx
    cases y<;>simp only [Bool.false_eq_true,beq_iff_eq] at hy
    simp only [qv] at hrx hry
    subst hrx; subst hry
    have hv':=ZZ hv
    have hu':=ZZ hu
    subst hv'; subst hu'
    subst hx; subst hy
    simp only [PV.eqb,Option.some.injEq] at he
    obtain ⟨e,h1,h2,h3⟩:=ZB hk
    obtain ⟨n',rfl⟩:∃ m,n=m + 1:=⟨n - 1,by omega⟩
    rename_i a _ c
    rw [qDm,run_equalIn_bytes w' n' t e m h1 h2 (fun w=>by rw [YJ w h2,h3]) _ _ (by simp) (by simp),← he]
    congr 1
    exact qds _ _
   ·rename_i fs hk
    simp only [Bool.and_eq_true,Bool.not_eq_true',List.all_eq_true,bne_iff_ne] at ht
    obtain ⟨⟨h1,h2⟩,h3⟩:=ht
    obtain ⟨gs,h4,rfl⟩:=KF hk
    unfold fit at hx hy
    rw [hk] at hx hy
    cases x<;>simp only [Bool.false_eq_true] at hx
    cases y<;>simp only [Bool.false_eq_true] at hy
    simp only [qv] at hrx hry
    have hv':=ZZ hv
    have hu':=ZZ hu
    subst hv'; subst hu'
    simp only [PV.eqb] at he
    rw [run_equalIn_agg w' n t _ _ (by rw [qbg h4]; exact h4) h1,qbg h4]
    rw [qbg h4] at h2
    have:=ih.2 G w w' gs.toList _ _ 0 [] cs [] ds b f g n (by rw [List.map_map] at h3; exact h3) h2 hx hy he hrx hry rfl rfl (by omega)
    simpa using this
   ·simp at ht
  ·intro G w w' gl xs ys off c0 c1 d0 d1 b f g n ht hnm hx hy he hrx hry hc hd hn
   obtain ⟨n,rfl⟩:∃ m,n=m + 1:=⟨n - 1,by omega⟩
   cases gl with
   | nil=>
    cases f with
    | zero=>simp [fits] at hx
    | succ f=>
    cases g with
    | zero=>simp [fits] at hy
    | succ g=>
    cases xs with
    | cons x xs=>simp [fits] at hx
    | nil=>
    cases ys with
    | cons y ys=>simp [fits] at hy
    | nil=>
     simp only [PV.qfX,Option.some.injEq] at he
     subst he
     simp [Op.eqFields]
   | cons fl gl=>
    cases f with
    | zero=>simp [fits] at hx
    | succ f=>
    cases g with
    | zero=>simp [fits] at hy
    | succ g=>
    cases xs with
    | nil=>simp [fits] at hx
    | cons x xs=>
    cases ys with
    | nil=>simp [fits] at hy
    | cons y ys=>
     simp only [List.map_cons,qmq,Bool.and_eq_true] at ht
     simp only [List.map_cons,fits,Bool.and_eq_true,beq_iff_eq,AV.size] at hx hy
     obtain ⟨⟨⟨x1,x2⟩,x3⟩,x4⟩:=hx
     obtain ⟨⟨⟨y1,y2⟩,y3⟩,y4⟩:=hy
     simp only [PV.qfX] at he
     cases e1:PV.eqb x y with
     | none=>simp [e1] at he
     | some r=>
     cases e2:PV.qfX xs ys with
     | none=>simp [e1,e2] at he
     | some r'=>
     simp only [e1,e2,Option.some.injEq] at he
     obtain ⟨ca,cb,rfl,hxa,hxb⟩:=hrx
     obtain ⟨da,db,rfl,hya,hyb⟩:=hry
     have hla:=qv.len _ _ hxa
     have hld:=qv.len _ _ hya
     obtain ⟨v1,p1,q1⟩:=qgY (c:=c0) (e:=cb) x3 x2 hxa w'
     obtain ⟨u1,p2,q2⟩:=qgY (c:=d0) (e:=db) y3 y2 hya w'
     have p3:=ih.1 G w w' fl.type x y r ca da v1 u1 f g (n + 1) ht.1 x3 y3 e1 hxa hya q1 q2 (by omega)
     have hoff:fl.offset=c0.length:=by omega
     have hoff':fl.offset=d0.length:=by omega
     rw [← List.append_assoc,← List.append_assoc]
     simp only [Op.eqFields]
     rw [if_pos (hnm fl (by simp))]
     simp only [Sem.run_bind]
     rw [hoff,p1]
     simp only [Result.andThen_ok]
     rw [← hoff,hoff',p2]
     simp only [Result.andThen_ok,p3]
     cases r with
     | false=>simp [← he]
     | true=>
      simp only [Bool.not_true,Bool.false_eq_true,if_false]
      have:=ih.2 G w w' gl xs ys (off + x.size) (c0++ca) cb (d0++da) db r' f g (n + 1) ht.2 (fun z hz=>hnm z (by simp [hz])) x4 (by rw [← x2,y2]; exact y4) e2 hxb hyb (by simp; omega) (by simp; omega) (by omega)
      rw [this,← he]; simp
end eq
end Go.Rx
end
noncomputable section
namespace Go.Rx
section g
variable {P:Program} {ob:Ob} {γ:Hm} {G:Gh} {w:World}
theorem qCh {a b:Value} (h:qy0 a b=true):a=b:=by
 unfold qy0 at h
 split at h<;>simp_all
theorem qtP:∀ {a b:List Value},allEq a b=true→a=b
 | [],[],_=>rfl
 | [],_::_,h=>by simp [allEq] at h
 | _::_,[],h=>by simp [allEq] at h
 | x::xs,y::ys,h=>by
  simp only [allEq,Bool.and_eq_true] at h
  rw [qCh h.1,qtP h.2]
mutual
theorem qkE:∀ (x:PV) (cs:List Value),W7 x=some cs→qv G w x cs
 | .b _,cs,h=>by simp [W7] at h; simp [qv,← h]
 | .i _ _,cs,h=>by simp [W7] at h; simp [qv,← h]
 | .s x,cs,h=>by
  cases x<;>simp [W7] at h
  simp [qv,← h]
 | .ba _ _,cs,h=>by simp only [W7,Option.some.injEq] at h; rw [qv,← h]; rfl
 | .wa _ _,cs,h=>by simp only [W7,Option.some.injEq] at h; rw [qv,← h]; rfl
 | .ag xs,cs,h=>by simp only [W7] at h; rw [qv]; exact qjD xs cs h
 | .l _ _,cs,h=>by simp [W7] at h
 | .bl _,cs,h=>by simp [W7] at h
theorem qjD:∀ (x:List PV) (cs:List Value),qhR x=some cs→qU G w x cs
 | [],cs,h=>by simp [qhR] at h; simp [qU,h]
 | x::xs,cs,h=>by
  simp only [qhR] at h
  split at h
  ·rename_i a b h1 h2
   simp only [Option.some.injEq] at h
   exact ⟨a,b,h.symm,qkE x a h1,qjD xs b h2⟩
  ·simp at h
end
mutual
theorem qnj:∀ (x:AV) (cs:List Value),ZH x=some cs→qg ob γ G w x cs
 | .pv x,cs,h=>by simp only [ZH] at h; rw [qg]; exact qkE x cs h
 | .ag xs,cs,h=>by simp only [ZH] at h; rw [qg]; exact qlP xs cs h
 | .nils,cs,h=>by simp [ZH] at h; simp [qg,← h]
 | .nilp,cs,h=>by simp [ZH] at h; simp [qg,← h]
 | .nilm,cs,h=>by simp [ZH] at h; simp [qg,← h]
 | .nilf,cs,h=>by simp [ZH] at h; simp [qg,← h]
 | .nili,cs,h=>by simp [ZH] at h; simp [qg,← h]
 | .v _ _,cs,h=>by simp [ZH] at h
 | .p _ _ _,cs,h=>by simp [ZH] at h
 | .pe _ _ _ _,cs,h=>by simp [ZH] at h
 | .ro _,cs,h=>by simp [ZH] at h
 | .m _,cs,h=>by simp [ZH] at h
 | .fn _ _ _,cs,h=>by simp [ZH] at h
 | .iface _ _,cs,h=>by simp [ZH] at h
 | .yl _,cs,h=>by simp [ZH] at h
 | .es _,cs,h=>by simp [ZH] at h
 | .tup _,cs,h=>by simp [ZH] at h
 | .undef,cs,h=>by simp [ZH] at h
theorem qlP:∀ (x:List AV) (cs:List Value),qkS x=some cs→qM ob γ G w x cs
 | [],cs,h=>by simp [qkS] at h; simp [qM,h]
 | x::xs,cs,h=>by
  simp only [qkS] at h
  split at h
  ·rename_i a b h1 h2
   simp only [Option.some.injEq] at h
   rw [qM]
   exact ⟨a,b,h.symm,qnj x a h1,qlP xs b h2⟩
  ·simp at h
end
theorem JM {t : TypeId} {z : AV} (h : zeroOf P t = some z) :
    ∃ zv cs,(∀ w':World,(zeroValue t).run P w'=.ok zv w')∧qg ob γ G w z cs∧qQ z.isAgg cs zv∧zv.cells=cs.toArray∧qO P t z=true:=by
 unfold zeroOf at h
 split at h
 ·split at h
  ·rename_i x hx hc
   simp only [Option.some.injEq] at h; subst h
   simp only [Bool.and_eq_true] at hc
   obtain ⟨h1,h2⟩:=hc
   unfold zOK at h1
   split at h1
   ·rename_i zv cs h3 h4
    simp only [Bool.and_eq_true,beq_iff_eq] at h1
    have h5:=qtP h1.1
    have hr:qg ob γ G w x cs:=qnj x cs h4
    have hof:qQ x.isAgg cs zv:=by
     rw [← h1.2]
     cases zv<;>simp only [qBs,qQ]<;>simp only [Value.cells] at h5<;>(first | (simp_all; done) | (subst h5; rfl) | (rw [← h5]))
    refine ⟨zv,cs,?_,hr,hof,XB hr hof,h2⟩
    intro w'
    cases hi:P.info? t with
    | none=>simp [hi] at h3
    | some i=>
     simp only [hi,Option.bind_some] at h3
     simp [zeroValue,typeInfo,hi,h3]
   ·simp at h1
  ·simp at h
 ·simp at h
theorem qz1 {v:Value}:qx ob γ G w (ofConst v) v:=by
 unfold ofConst
 split
 ·simp [Wn]
 ·simp [zB]
 ·rw [Wg]
 ·simp [qdn]
 ·simp [zX]
 ·simp [qfD]
 ·simp [qma]
 ·simp [qlt]
 ·simp [qx]
theorem qvS {op : BinOp} {k : IntKind} {a b : Int} {r : PV} {ps : List Prop} (hs : qmh op k a b = some (r, ps)) (hp : All ps) (hsh : qq7 op = false) (t : TypeId) :
    ∃ v,(binOp op t (.int k a) (.int k b)).run P w=.ok v w∧qx ob γ G w (.pv r) v:=by
 unfold qmh at hs
 split at hs
 case h_4=>
  obtain ⟨rfl,hb⟩:=q6 hs hp
  exact ⟨_,by simp [binOp,Op.intDiv,hb],zB.2 rfl⟩
 case h_5=>
  obtain ⟨rfl,hb⟩:=q6 hs hp
  exact ⟨_,by simp [binOp,Op.intDiv,hb],zB.2 rfl⟩
 all_goals first
  | (simp at hs; done)
  | (rw [qh hs]; exact ⟨_,by simp only [binOp,ne_eq,not_true_eq_false,if_false]; rfl,zB.2 rfl⟩)
  | (rw [qh hs]; exact ⟨_,by simp only [binOp,ne_eq,not_true_eq_false,if_false,Op.intCmp,Sem.run_pure]; rfl,Wn.2 (by first | rfl | (congr 1; rw [Bool.eq_iff_iff]; simp))⟩)
theorem qqZ {op : BinOp} {k j : IntKind} {a b : Int} {r : PV} {ps : List Prop} (hs : qil op k a b = some (r, ps)) (hp : All ps) (t : TypeId) :
    ∃ v,(binOp op t (.int k a) (.int j b)).run P w=.ok v w∧qx ob γ G w (.pv r) v:=by
 unfold qil at hs
 split at hs
 ·obtain ⟨rfl,hb⟩:=q6 hs hp
  exact ⟨_,by simp only [binOp,Op.shift]; rw [if_neg (by omega)]; rfl,zB.2 rfl⟩
 ·obtain ⟨rfl,hb⟩:=q6 hs hp
  exact ⟨_,by simp only [binOp,Op.shift]; rw [if_neg (by omega)]; rfl,zB.2 rfl⟩
 ·simp at hs
theorem qxo (a b:List UInt8):(a == b)=decide (a=b):=qds a b
theorem qt4 {op : BinOp} {a b : List UInt8} {r : PV} {ps : List Prop} (hs : qpz op a b = some (r, ps)) (hp : All ps) (t : TypeId) :
    ∃ v,(binOp op t (.string ⟨a.toArray⟩) (.string ⟨b.toArray⟩)).run P w=.ok v w∧qx ob γ G w (.pv r) v:=by
 unfold qpz at hs
 have hl:∀ x:List UInt8,(ByteArray.mk x.toArray).toList=x:=fun x=>by rw [ByteArray.toList_eq]
 split at hs
 ·obtain ⟨rfl,hb⟩:=q6 hs hp
  refine ⟨.string (⟨a.toArray⟩++⟨b.toArray⟩),?_,Wg.2 ?_⟩
  ·simp only [binOp,Op.stringOp]
   rw [if_neg]
   ·rfl
   ·simp only [ByteArray.size,List.size_toArray,IntKind.max,IntKind.signed,IntKind.bits]
    omega
  ·congr 1
 all_goals first
  | (simp at hs; done)
  | (rw [qh hs]; exact ⟨_,by simp only [binOp,Op.stringOp,hl,Sem.run_pure]; rfl,Wn.2 (by simp only [qxo])⟩)
theorem qs8 {op : BinOp} {t : TypeId} {ox oy : Operand} {x y : Value} (h1 : ∀ a b, x = .agg a → y = .agg b → P.eqGuardType P.depth t = false) (h2 : x = .nilIface → y = .nilIface → False) :
    (eqGuard op t ox oy x y).run P w=.ok () w:=by
 cases op
 case eql=>
  cases x
  case agg=>cases y<;>first | exact run_eqGuard_agg w _ t ox oy _ _ (h1 _ _ rfl rfl) | rfl
  case nilIface=>cases y<;>first | exact (h2 rfl rfl).elim | rfl
  all_goals rfl
 case neq=>
  cases x
  case agg=>cases y<;>first | exact run_eqGuard_agg w _ t ox oy _ _ (h1 _ _ rfl rfl) | rfl
  case nilIface=>cases y<;>first | exact (h2 rfl rfl).elim | rfl
  all_goals rfl
 all_goals rfl
theorem qdb {t e:TypeId} (h:P.underlying t=some (.slice e)) (a:Option Addr) (l c:Nat):(Op.equal t (.slice a l c) (.slice none 0 0)).run P w=.ok a.isNone w:=by
 have:∀ d,(Op.equalIn (d + 1) t (.slice a l c) (.slice none 0 0)).run P w=.ok a.isNone w:=fun d=>by cases a<;>simp [Op.equalIn,run_underlying h]
 exact this 9999
theorem qmz {t e:TypeId} (h:P.underlying t=some (.pointer e)) (a:Option Addr):(Op.equal t (.pointer a) (.pointer none)).run P w=.ok a.isNone w:=by
 have:∀ d,(Op.equalIn (d + 1) t (.pointer a) (.pointer none)).run P w=.ok a.isNone w:=fun d=>by cases a<;>simp [Op.equalIn,run_underlying h]
 exact this 9999
theorem qDr {t:TypeId} {a b c} (h:P.underlying t=some (.func a b c)):(Op.equal t .nilFunc .nilFunc).run P w=.ok true w:=by
 have:∀ d,(Op.equalIn (d + 1) t .nilFunc .nilFunc).run P w=.ok true w:=fun d=>by simp [Op.equalIn,run_underlying h]
 exact this 9999
theorem qAs {t:TypeId} {a b c} (h:P.underlying t=some (.func a b c)) (f x y):(Op.equal t (.func f x y) .nilFunc).run P w=.ok false w:=by
 have:∀ d,(Op.equalIn (d + 1) t (.func f x y) .nilFunc).run P w=.ok false w:=fun d=>by simp [Op.equalIn,run_underlying h]
 exact this 9999
theorem qyd {t k e:TypeId} (h:P.underlying t=some (.map k e)) (a:Option Nat):(Op.equal t (.map a) (.map none)).run P w=.ok a.isNone w:=by
 have:∀ d,(Op.equalIn (d + 1) t (.map a) (.map none)).run P w=.ok a.isNone w:=fun d=>by cases a<;>simp [Op.equalIn,run_underlying h]
 exact this 9999
theorem qAQ {t:TypeId} {a} (h:P.underlying t=some (.interface a)) (u x):(Op.equal t (.iface u x) .nilIface).run P w=.ok false w:=by
 have:∀ d,(Op.equalIn (d + 1) t (.iface u x) .nilIface).run P w=.ok false w:=fun d=>by simp [Op.equalIn,run_underlying h]
 exact this 9999
theorem qlZ {t : TypeId} {x y : AV} {b : Bool} {ps : List Prop} (hs : eqA P t x y = some (b, ps)) (hp : All ps) {vx vy : Value} (hx : qx ob γ G w x vx) (hy : qx ob γ G w y vy) :
    (Op.equal t vx vy).run P w=.ok b w∧(∀ c d,vx=.agg c→vy=.agg d→P.eqGuardType P.depth t=false)∧(vx=.nilIface→vy=.nilIface→False)∧
     (∀ k a j c,vx=.int k a→vy=.int j c→k=j∧b=(a == c))∧(∀ a c,vx=.string a→vy=.string c→b=(a.toList == c.toList)):=by
 unfold eqA at hs
 split at hs
 case h_1 sz xs hk=>
  obtain ⟨rfl,hne⟩:=q6 hs hp
  rw [zX] at hy; subst hy
  obtain ⟨cs,hr,ho⟩:=jU.1 hx
  simp only [qv] at hr
  obtain ⟨a,cap,rfl,_,_,hh⟩:=hr
  cases (qG ho)
  rcases hh with hh | ⟨bb,off,vs,rfl,_⟩
  ·exact absurd hh hne
  ·exact ⟨qdb (qZ hk) _ _ _,by simp,by simp,by simp,by simp⟩
 case h_2 xs hk=>
  obtain ⟨rfl,hne⟩:=q6 hs hp
  rw [zX] at hy; subst hy
  obtain ⟨cs,hr,ho⟩:=jU.1 hx
  simp only [qv] at hr
  obtain ⟨a,cap,rfl,_,hh⟩:=hr
  cases (qG ho)
  rcases hh with hh | ⟨bb,off,rfl,_⟩
  ·exact absurd hh hne
  ·exact ⟨qdb (qZ hk) _ _ _,by simp,by simp,by simp,by simp⟩
 case h_3 l n hk=>
  obtain ⟨rfl,hne⟩:=q6 hs hp
  rw [zX] at hy; subst hy
  simp only [qx,qg,AV.isAgg] at hx
  obtain ⟨cs,⟨a,cap,rfl,hc,hh⟩,ho⟩:=hx
  cases (qG ho)
  have:∃ b,a=some ⟨b,0,none⟩:=by
   rcases hh with ⟨fz,sz,x,_,_,h1,_⟩ | ⟨xs,b,h1,_⟩
   ·obtain ⟨b,h1,_⟩:=h1 (Nat.ne_of_gt (Nat.lt_of_lt_of_le (Nat.pos_of_ne_zero hne) hc)); exact ⟨b,h1⟩
   ·exact ⟨b,h1⟩
  obtain ⟨b,rfl⟩:=this
  exact ⟨qdb (qZ hk) _ _ _,by simp,by simp,by simp,by simp⟩
 case h_4 hk=>
  rw [qh hs]
  rw [zX] at hx hy; subst hx; subst hy
  exact ⟨qdb (qZ hk) _ _ _,by simp,by simp,by simp,by simp⟩
 case h_5 hk=>
  rw [qh hs]
  rw [qdn] at hx hy; subst hx; subst hy
  exact ⟨qmz (qei hk) _,by simp,by simp,by simp,by simp⟩
 case h_6 hk=>
  rw [qh hs]
  rw [qdn] at hy; subst hy
  simp only [qx,qg,AV.isAgg] at hx
  obtain ⟨cs,⟨rfl,_⟩,ho⟩:=hx
  cases (qG ho)
  exact ⟨qmz (qei hk) _,by simp,by simp,by simp,by simp⟩
 case h_7 hk=>
  rw [qh hs]
  rw [qdn] at hy; subst hy
  simp only [qx,qg,AV.isAgg] at hx
  obtain ⟨cs,⟨bb,rfl,_⟩,ho⟩:=hx
  cases (qG ho)
  exact ⟨qmz (qei hk) _,by simp,by simp,by simp,by simp⟩
 case h_8 hk=>
  rw [qh hs]
  rw [qdn] at hy; subst hy
  simp only [qx,qg,AV.isAgg] at hx
  obtain ⟨cs,⟨bb,off,vs,rfl,_⟩,ho⟩:=hx
  cases (qG ho)
  exact ⟨qmz (qei hk) _,by simp,by simp,by simp,by simp⟩
 case h_9 hk=>
  rw [qh hs]
  rw [qma] at hx hy; subst hx; subst hy
  obtain ⟨a1,a2,a3,hu⟩:=qk3 hk
  exact ⟨qDr hu,by simp,by simp,by simp,by simp⟩
 case h_10 hk=>
  rw [qh hs]
  rw [qma] at hy; subst hy
  simp only [qx,qg,AV.isAgg] at hx
  obtain ⟨cs,⟨va,vc,rfl,_⟩,ho⟩:=hx
  cases (qG ho)
  obtain ⟨a1,a2,a3,hu⟩:=qk3 hk
  exact ⟨qAs hu _ _ _,by simp,by simp,by simp,by simp⟩
 case h_11 hk=>
  rw [qh hs]
  rw [qfD] at hx hy; subst hx; subst hy
  exact ⟨qyd (Jd hk) _,by simp,by simp,by simp,by simp⟩
 case h_12 hk=>
  rw [qh hs]
  rw [qfD] at hy; subst hy
  simp only [qx,qg,AV.isAgg] at hx
  obtain ⟨cs,⟨rfl,_⟩,ho⟩:=hx
  cases (qG ho)
  exact ⟨qyd (Jd hk) _,by simp,by simp,by simp,by simp⟩
 case h_13 hk=>
  rw [qh hs]
  rw [qlt] at hy; subst hy
  simp only [qx,qg,AV.isAgg] at hx
  obtain ⟨cs,⟨c,v,rfl,_⟩,ho⟩:=hx
  cases (qG ho)
  obtain ⟨a1,hu⟩:=qpP hk
  exact ⟨qAQ hu _ _,by simp,by simp,by simp,by simp⟩
 case h_14 k hk=>
  rw [qh hs]
  rw [zX] at hy; subst hy
  simp only [qx,qg,AV.isAgg] at hx
  obtain ⟨cs,⟨a,cap,rfl,hn⟩,ho⟩:=hx
  cases (qG ho)
  rw [← hn]
  exact ⟨qdb (qZ hk) _ _ _,by simp,by simp,by simp,by simp⟩
 case h_15=>
  rename_i x y
  obtain ⟨hc,hs⟩:=qA hs
  simp only [Bool.and_eq_true,Bool.not_eq_true'] at hc
  obtain ⟨⟨⟨h1,h2⟩,h3⟩,h4⟩:=hc
  split at hs
  ·rename_i b' he
   rw [qh hs]
   obtain ⟨cs,hr,ho⟩:=jU.1 hx
   obtain ⟨ds,hr',ho'⟩:=jU.1 hy
   simp only [qO,Bool.and_eq_true] at h1 h2
   have key:=(qBw (P:=P) 30).1 G w w t x y b' cs ds vx vy 30 30 10000 h3 h1.2 h2.2 he hr hr' ho ho' (by omega)
   refine ⟨key,fun _ _ _ _=>h4,?_,?_,?_⟩
   ·rintro rfl _
    cases x<;>simp only [qv] at hr<;>simp only [AV.isAgg,qQ] at ho<;>simp_all
   ·rintro k a j c rfl rfl
    have hx':x=.i k a:=by cases x<;>simp only [qv] at hr<;>simp only [AV.isAgg,qQ] at ho<;>simp_all
    have hy':y=.i j c:=by cases y<;>simp only [qv] at hr'<;>simp only [AV.isAgg,qQ] at ho'<;>simp_all
    subst hx'; subst hy'
    simp only [PV.eqb] at he
    by_cases hkj:k=j
    ·subst hkj
     simp only [decide_true,Option.some.injEq] at he
     exact ⟨rfl,by rw [← he,Bool.eq_iff_iff]; simp⟩
    ·simp [hkj] at he
   ·rintro a c rfl rfl
    have hx':∃ s,x=.s s∧a=⟨s.toArray⟩:=by cases x<;>simp only [qv] at hr<;>simp only [AV.isAgg,qQ] at ho<;>simp_all
    have hy':∃ s,y=.s s∧c=⟨s.toArray⟩:=by cases y<;>simp only [qv] at hr'<;>simp only [AV.isAgg,qQ] at ho'<;>simp_all
    obtain ⟨s1,rfl,rfl⟩:=hx'
    obtain ⟨s2,rfl,rfl⟩:=hy'
    simp only [PV.eqb,Option.some.injEq] at he
    rw [ByteArray.toList_eq,ByteArray.toList_eq,qxo,← he]
  ·simp at hs
 case h_16=>simp at hs
end g
end Go.Rx
end
noncomputable section
namespace Go.Rx
section g
variable {P:Program} {ob:Ob} {γ:Hm} {G:Gh} {w:World}
def Jj:Value→Bool
 | .int .. | .float .. | .complex .. | .string ..=>true
 | _=>false
theorem qE0 {t:TypeId} {vx vy:Value} (h:Jj vx=false):(binOp .eql t vx vy).run P w=((Op.equal t vx vy).run P w).andThen fun b w'=>.ok (.bool b) w':=by
 cases vx<;>first | (simp [Jj] at h; done) | (cases vy<;>(simp only [binOp,Sem.run_bind]; rfl))
theorem qEy {t:TypeId} {vx vy:Value} (h:Jj vx=false):(binOp .neq t vx vy).run P w=((Op.equal t vx vy).run P w).andThen fun b w'=>.ok (.bool (!b)) w':=by
 cases vx<;>first | (simp [Jj] at h; done) | (cases vy<;>(simp only [binOp,Sem.run_bind]; rfl))
theorem qDR {x:PV} {cs:List Value} {v:Value} (h:qv G w x cs) (ho:qQ (AV.isAgg (.pv x)) cs v) (hv:Jj v=true):(∃ k n,v=.int k n)∨∃ s,v=.string s:=by
 cases x<;>simp only [qv] at h<;>simp only [AV.isAgg,qQ] at ho
 case l=>obtain ⟨a,cap,h,_⟩:=h; rw [h] at ho; cases ho; simp [Jj] at hv
 case bl=>obtain ⟨a,cap,h,_⟩:=h; rw [h] at ho; cases ho; simp [Jj] at hv
 all_goals (subst ho; first | (simp [Jj] at hv; done) | (cases h; first | (simp [Jj] at hv; done) | exact .inl ⟨_,_,rfl⟩ | exact .inr ⟨_,rfl⟩))
theorem qA7 {t : TypeId} {f g : Nat} {x y : PV} {cs ds : List Value} {v u : Value} (h : qv G w x cs) (ho : qQ (AV.isAgg (.pv x)) cs v) (h' : qv G w y ds) (ho' : qQ (AV.isAgg (.pv y)) ds u)
    (hx:fit P f t (.pv x)=true) (hy:fit P g t (.pv y)=true) (hv:Jj v=true):(∃ k a c,v=.int k a∧u=.int k c)∨∃ a c,v=.string a∧u=.string c:=by
 cases f with
 | zero=>simp [fit] at hx
 | succ f=>
 cases g with
 | zero=>simp [fit] at hy
 | succ g=>
 unfold fit at hx hy
 rcases qDR h ho hv with ⟨k,n,rfl⟩ | ⟨s,rfl⟩
 ·have:x=.i k n:=by cases x<;>simp only [qv] at h<;>simp only [AV.isAgg,qQ] at ho<;>simp_all
  subst this
  cases hk:qm P t with
  | none=>simp [hk] at hx
  | some kk=>
   rw [hk] at hx hy
   cases kk<;>simp only [Bool.false_eq_true,beq_iff_eq] at hx
   cases y<;>simp only [Bool.false_eq_true,beq_iff_eq] at hy
   simp only [qv] at h'
   subst h'; cases (qG ho')
   exact .inl ⟨k,n,_,rfl,by rw [← hx,hy]⟩
 ·have:∃ z,x=.s z:=by cases x<;>simp only [qv] at h<;>simp only [AV.isAgg,qQ] at ho<;>simp_all
  obtain ⟨z,rfl⟩:=this
  cases hk:qm P t with
  | none=>simp [hk] at hx
  | some kk=>
   rw [hk] at hx hy
   cases kk<;>simp only [Bool.false_eq_true] at hx
   cases y<;>simp only [Bool.false_eq_true] at hy
   simp only [qv] at h'
   subst h'; cases (qG ho')
   exact .inr ⟨s,_,rfl,rfl⟩
theorem qxW {t : TypeId} {x y : AV} {b : Bool} {ps : List Prop} (hs : eqA P t x y = some (b, ps)) (hp : All ps) {vx vy : Value} (hx : qx ob γ G w x vx) (hy : qx ob γ G w y vy) :
    (binOp .eql t vx vy).run P w=.ok (.bool b) w∧(binOp .neq t vx vy).run P w=.ok (.bool (!b)) w:=by
 obtain ⟨h1,h2,h3,h4,h5⟩:=qlZ hs hp hx hy
 cases hv:Jj vx with
 | false=>exact ⟨by rw [qE0 hv,h1]; rfl,by rw [qEy hv,h1]; rfl⟩
 | true=>
  have key:(∃ k a c,vx=.int k a∧vy=.int k c)∨∃ a c,vx=.string a∧vy=.string c:=by
   unfold eqA at hs
   split at hs
   case h_15=>
    rename_i x y
    obtain ⟨hc,hs⟩:=qA hs
    simp only [Bool.and_eq_true,Bool.not_eq_true',qO] at hc
    obtain ⟨cs,hr,ho⟩:=jU.1 hx
    obtain ⟨ds,hr',ho'⟩:=jU.1 hy
    exact qA7 hr ho hr' ho' hc.1.1.1.2 hc.1.1.2.2 hv
   case h_16=>simp at hs
   all_goals (exfalso; simp only [qx,qg,qv,AV.isAgg] at hx)
   case h_1=>obtain ⟨cs,⟨a,cap,rfl,_⟩,ho⟩:=hx; cases (qG ho); simp [Jj] at hv
   case h_2=>obtain ⟨cs,⟨a,cap,rfl,_⟩,ho⟩:=hx; cases (qG ho); simp [Jj] at hv
   case h_3=>obtain ⟨cs,⟨a,cap,rfl,_⟩,ho⟩:=hx; cases (qG ho); simp [Jj] at hv
   case h_4=>obtain ⟨cs,rfl,ho⟩:=hx; cases (qG ho); simp [Jj] at hv
   case h_5=>obtain ⟨cs,rfl,ho⟩:=hx; cases (qG ho); simp [Jj] at hv
   case h_6=>obtain ⟨cs,⟨rfl,_⟩,ho⟩:=hx; cases (qG ho); simp [Jj] at hv
   case h_7=>obtain ⟨cs,⟨a,rfl,_⟩,ho⟩:=hx; cases (qG ho); simp [Jj] at hv
   case h_8=>obtain ⟨cs,⟨a,b,c,rfl,_⟩,ho⟩:=hx; cases (qG ho); simp [Jj] at hv
   case h_9=>obtain ⟨cs,rfl,ho⟩:=hx; cases (qG ho); simp [Jj] at hv
   case h_10=>obtain ⟨cs,⟨a,b,rfl,_⟩,ho⟩:=hx; cases (qG ho); simp [Jj] at hv
   case h_11=>obtain ⟨cs,rfl,ho⟩:=hx; cases (qG ho); simp [Jj] at hv
   case h_12=>obtain ⟨cs,⟨rfl,_⟩,ho⟩:=hx; cases (qG ho); simp [Jj] at hv
   case h_13=>obtain ⟨cs,⟨a,b,rfl,_⟩,ho⟩:=hx; cases (qG ho); simp [Jj] at hv
   case h_14=>obtain ⟨cs,⟨a,cap,rfl,_⟩,ho⟩:=hx; cases (qG ho); simp [Jj] at hv
  rcases key with ⟨k,a,c,rfl,rfl⟩ | ⟨a,c,rfl,rfl⟩
  ·obtain ⟨_,hb⟩:=h4 _ _ _ _ rfl rfl
   subst hb
   exact ⟨by simp only [binOp,ne_eq,not_true_eq_false,if_false]; rfl,by simp only [binOp,ne_eq,not_true_eq_false,if_false]; rfl⟩
  ·have hb:=h5 _ _ rfl rfl
   subst hb
   exact ⟨by simp only [binOp,Op.stringOp]; rfl,by simp only [binOp,Op.stringOp]; rfl⟩
theorem qqh {op : BinOp} {t : TypeId} {x y r : AV} {ps : List Prop} (hs : qox P op t x y = some (r, ps)) (hp : All ps) {vx vy : Value} (hx : qx ob γ G w x vx) (hy : qx ob γ G w y vy) (ox oy : Operand) :
    ∃ v,(do eqGuard op t ox oy vx vy; binOp op t vx vy:Sem Value).run P w=.ok v w∧qx ob γ G w r v:=by
 have guard0 : ∀ {a b : Value}, (∀ c d, a = .agg c → b = .agg d → P.eqGuardType P.depth t = false) → (a = .nilIface → b = .nilIface → False) →
     (do eqGuard op t ox oy a b; binOp op t a b:Sem Value).run P w=(binOp op t a b).run P w:=fun h1 h2=>by
  rw [Sem.run_bind,qs8 h1 h2]; rfl
 unfold qox at hs
 split at hs
 ·rename_i k a j b
  rw [zB] at hx hy; subst hx; subst hy
  rw [guard0 (by simp) (by simp)]
  split at hs
  ·obtain ⟨z,hz,rfl⟩:=qcB hs
   exact qqZ hz hp t
  ·rename_i hsh
   obtain ⟨hk,hs'⟩:=qA hs
   simp only [decide_eq_true_eq] at hk; subst hk
   obtain ⟨z,hz,rfl⟩:=qcB hs'
   exact qvS hz hp hsh t
 ·rename_i a b
  rw [Wg] at hx hy; subst hx; subst hy
  rw [guard0 (by simp) (by simp)]
  obtain ⟨z,hz,rfl⟩:=qcB hs
  exact qt4 hz hp t
 ·rename_i x y _ _
  split at hs
  ·split at hs
   ·rename_i b ps' he
    simp only [Option.some.injEq,Prod.mk.injEq] at hs
    obtain ⟨rfl,rfl⟩:=hs
    obtain ⟨h1,h2,h3,h4,h5⟩:=qlZ he hp hx hy
    rw [guard0 h2 h3]
    exact ⟨_,(qxW he hp hx hy).1,Wn.2 rfl⟩
   ·simp at hs
  ·split at hs
   ·rename_i b ps' he
    simp only [Option.some.injEq,Prod.mk.injEq] at hs
    obtain ⟨rfl,rfl⟩:=hs
    obtain ⟨h1,h2,h3,h4,h5⟩:=qlZ he hp hx hy
    rw [guard0 h2 h3]
    exact ⟨_,(qxW he hp hx hy).2,Wn.2 rfl⟩
   ·simp at hs
  ·simp at hs
theorem qzV {op : UnOp} {x r : AV} {ps : List Prop} (hs : unA op x = some (r, ps)) (hp : All ps) {vx : Value} (hx : qx ob γ G w x vx) :
    ∃ v,(Op.unary op vx).run P w=.ok v w∧qx ob γ G w r v:=by
 unfold unA at hs
 split at hs
 ·rw [qh hs]; rw [Wn] at hx; subst hx
  exact ⟨_,rfl,Wn.2 rfl⟩
 ·rw [qh hs]; rw [zB] at hx; subst hx
  exact ⟨_,rfl,zB.2 rfl⟩
 ·rw [zB] at hx; subst hx
  obtain ⟨z,hz,rfl⟩:=qcB hs
  rw [qh hz]
  exact ⟨_,rfl,zB.2 rfl⟩
 ·simp at hs
end g
end Go.Rx
end
noncomputable section
namespace Go.Rx
section g
variable {P:Program} {ob:Ob} {γ:Hm} {G:Gh} {w:World}
theorem JO (b off j:Nat):(⟨b,off,none⟩:Addr).add j=⟨b,off + j,none⟩:=by
 unfold Addr.add; split
 ·rename_i h; subst h; rfl
 ·rfl
theorem Yv (w:World) (o:Obj) (b:Nat) (hb:b < w.heap.size):(w.heap.push o)[b]?=w.heap[b]?:=by
 rw [Array.getElem?_push_lt hb,Array.getElem?_eq_getElem hb]
theorem qoH (H : qC ob γ G w) {w' : World} {cs sp : List Value} {el : TypeId} {fr : Nat × Nat} (hw : w'.heap = w.heap.push (.cells (cs ++ sp).toArray el fr)) (hio : Ve w w' := by exact ⟨rfl, rfl⟩) :
    ∃ G',qC ob γ G' w'∧Trans ob γ G w ob γ G' w'∧jJ w' w.heap.size 0 cs∧inG G' w.heap.size 0 cs.length:=by
 refine ⟨fun b o=>G b o∨(b=w.heap.size∧o < cs.length),?_⟩
 have h:=qmJ H (fun b o=>G b o∨(b=w.heap.size∧o < cs.length)) w' (by rw [hw]; simp) (fun b hb=>by rw [hw]; exact Yv w _ b hb) (fun _ _ h=>.inl h)
  (fun b o h1 h2=>by
   rcases h1 with h1 | ⟨rfl,_⟩
   ·exact absurd h1 h2
   ·exact ⟨Nat.le_refl _,by rw [hw]; simp⟩) hio
 refine ⟨h.1,h.2,fun j hj=>?_,fun j hj=>.inr ⟨rfl,by simpa using hj⟩⟩
 simp only [World.cell?,hw,Array.getElem?_push_size,Nat.zero_add,Option.isSome_none,Bool.false_eq_true,if_false,List.getElem?_toArray]
 rw [List.getElem?_append_left hj]
def Xm (P:Program) (ob:Ob) (γ:Hm) (G:Gh) (w:World) (s:Sem Value) (r:AV):Prop:=
 ∃ v G' w',s.run P w=.ok v w'∧qC ob γ G' w'∧Trans ob γ G w ob γ G' w'∧qx ob γ G' w' r v
theorem Xm.same (H:qC ob γ G w) {s:Sem Value} {r:AV} {v:Value} (h:s.run P w=.ok v w) (hr:qx ob γ G w r v):Xm P ob γ G w s r:=
 ⟨v,G,w,h,H,Trans.refl H,hr⟩
theorem qv8 {α:Type} (a:Array α) (x:α) (f:α→α):(a.push x).modify a.size f=a.push (f x):=by
 apply Array.ext
 ·simp
 ·intro i h1 h2
  simp only [Array.size_modify,Array.size_push] at h1
  by_cases hi:i=a.size
  ·subst hi; rw [Array.getElem_modify_self]; simp
  ·rw [Array.getElem_modify_of_ne (fun h=>hi h.symm),Array.getElem_push_lt (by omega),Array.getElem_push_lt (by omega)]
theorem qeN {e:TypeId} (h:QD P e=true):P.underlying e=some (.int .u8):=by
 unfold QD at h
 split at h
 ·rename_i hk; exact qcl hk
 ·simp at h
theorem qrO (qD old:Nat) (e:TypeId) (t:Nat):∃ sp,(Question.appendCap qD old e).cut t=qD + sp:=⟨_,rfl⟩
theorem qxl (H : qC ob γ G w) {src dst : TypeId} {x r : AV} {ps : List Prop} (hs : qdZ P src dst x = some (r, ps)) (hp : All ps) {vx : Value} (hx : qx ob γ G w x vx) :
    Xm P ob γ G w (convert src dst vx) r:=by
 unfold qdZ at hs
 split at hs
 ·rename_i k1 k k2 n h1 h2
  rw [qh hs]; rw [zB] at hx; subst hx
  exact .same H (by simp [convert,run_underlying (qcl h1),run_underlying (qcl h2),Conv.intToInt]) (zB.2 rfl)
 ·rename_i x h1 h2
  rw [qh hs]; rw [Wg] at hx; subst hx
  exact .same H (by simp [convert,run_underlying (Jn h1),run_underlying (Jn h2)]) (Wg.2 rfl)
 ·rename_i e x h1 h2
  obtain ⟨hu,hs⟩:=qA hs
  obtain ⟨rfl,hl⟩:=q6 hs hp
  rw [Wg] at hx; subst hx
  have hu':=qeN hu
  obtain ⟨sp,hsp⟩:=qrO x.length 0 e (w.tape w.drawn (.appendCap x.length 0 e))
  have hsz:(ByteArray.mk x.toArray).size=x.length:=rfl
  have hcells:(Array.map (fun b=>Value.int .u8 b.toNat) (ByteArray.mk x.toArray).data++Array.replicate sp (Value.int .u8 0):Array Value)=(x.map cu8++List.replicate sp (Value.int .u8 0)).toArray:=by
   apply Array.ext'; simp [cu8]
  have key : ∃ w' fr, (convert src dst (.string ⟨x.toArray⟩)).run P w = .ok (.slice (some ⟨w.heap.size, 0, none⟩) x.length (x.length + sp)) w' ∧
      w'.heap=w.heap.push (.cells (x.map cu8++List.replicate sp (Value.int .u8 0)).toArray e fr)∧Ve w w':=by
   refine ⟨World.freeze { w with heap:=w.heap.push (.cells (x.map cu8++List.replicate sp (Value.int .u8 0)).toArray e),drawn:=w.drawn + 1 } ⟨w.heap.size,(x.map cu8++List.replicate sp (Value.int .u8 0)).toArray.size,none⟩ 1,((x.map cu8++List.replicate sp (Value.int .u8 0)).toArray.size,(x.map cu8++List.replicate sp (Value.int .u8 0)).toArray.size + 1),?_,?_⟩
   rotate_left
   ·simp only [World.freeze,Nat.one_ne_zero,if_false,qv8]
    exact ⟨rfl,rfl,rfl⟩
   ·simp only [convert,Sem.run_bind,run_underlying (Jn h1),run_underlying (qZ h2),Result.andThen_ok,run_underlying hu',Conv.stringToBytes,run_choose,Question.forced,Bool.false_eq_true,if_false,hsz,hsp,newRow,run_newObj,Sem.run_pure,Nat.add_sub_cancel_left,markStringish,run_shape,World.shape?,Array.getElem?_push_size,run_freeze,hcells]
  obtain ⟨w',fr,h3,h4,hio⟩:=key
  obtain ⟨G',h5,h6,h7,h8⟩:=qoH H h4 hio
  refine ⟨_,G',w',h3,h5,h6,qY rfl ?_⟩
  simp only [qg,qv]
  exact ⟨_,_,rfl,by omega,.inr ⟨w.heap.size,0,rfl,h7,by simpa using h8⟩⟩
 ·rename_i e x h1 h2
  obtain ⟨hu,hs⟩:=qA hs
  rw [qh hs]
  have hu':=qeN hu
  obtain ⟨cs,hr,ho⟩:=jU.1 hx
  simp only [qv] at hr
  obtain ⟨a,cap,rfl,_,hh⟩:=hr
  cases (qG ho)
  have fold:∀ (l:List UInt8) (acc:ByteArray),(l.map fun c=>((c.toNat:Nat):Int)).foldl (fun r n=>r.push (UInt8.ofNat n.toNat)) acc=⟨acc.data++l.toArray⟩:=by
   intro l
   induction l with
   | nil=>intro acc; obtain ⟨d⟩:=acc; simp
   | cons c l ih=>
    intro acc
    simp only [List.map_cons,List.foldl_cons,ih]
    obtain ⟨d⟩:=acc
    simp [ByteArray.push]
  refine .same H (v:=.string ⟨x.toArray⟩) ?_ (Wg.2 rfl)
  simp only [convert,Sem.run_bind,run_underlying (qZ h1),run_underlying (Jn h2),Result.andThen_ok,run_underlying hu']
  rcases hh with rfl | ⟨b,off,rfl,h3,h4⟩
  ·cases a with
   | none=>rfl
   | some a=>
    rw [run_bytesToString w a _ _ [] (by simp [loadCells,loadCellsFrom])]
    rfl
  ·rw [run_bytesToString w ⟨b,off,none⟩ x.length cap (x.map fun c=>((c.toNat:Nat):Int)) ?_,fold]
   ·simp
   ·have := run_loadCells_list (P := P) (w := w) ⟨b, off, none⟩ (x.map cu8) (fun j v hv => by
       rw [JO,h3 j (List.getElem?_eq_some_iff.1 hv).1]; exact hv)
    have e:(x.map fun c=>((c.toNat:Nat):Int)).map (Value.int .u8)=x.map cu8:=by rw [List.map_map]; rfl
    rw [e,← this]; simp
 ·rename_i e h1 h2
  obtain ⟨hu,hs⟩:=qA hs
  rw [qh hs]
  have hu':=qeN hu
  rw [zX] at hx; subst hx
  exact .same H (by simp [convert,run_underlying (qZ h1),run_underlying (Jn h2),run_underlying hu',Conv.bytesToString]; rfl) (Wg.2 rfl)
 ·simp at hs
end g
end Go.Rx
end
noncomputable section
namespace Go.Rx
section g
variable {P:Program} {ob:Ob} {γ:Hm} {G:Gh} {w:World}
theorem qiR {x:AV} {n:Int} (h:asInt x=some n):∃ k,x=.pv (.i k n):=by
 unfold asInt at h
 split at h
 ·simp only [Option.some.injEq] at h; subst h; exact ⟨_,rfl⟩
 ·simp at h
theorem X1 {an:Option Ans} {i:Int} {n k:Nat} {ps:List Prop} (h:idx an i n=some (k,ps)) (hp:All ps):i=k∧k < n:=by
 unfold idx at h
 split at h
 ·obtain ⟨rfl,h⟩:=q6 h hp; exact h
 ·obtain ⟨rfl,h⟩:=q6 h hp
  exact ⟨by omega,by omega⟩
theorem qaa {an:Option Ans} {x y:PV} {i:Int} {ps:List Prop} (h:elemAt an x i=some (y,ps)) (hp:All ps):0≤i∧x.zh i.toNat=some y:=by
 unfold elemAt at h
 split at h
 ·obtain ⟨rfl,h⟩:=q6 h hp; exact h
 ·split at h
  ·rename_i z hz
   obtain ⟨rfl,h'⟩:=q6 h hp
   exact ⟨h',hz⟩
  ·simp at h
theorem qnD {an : Option Ans} {lo hi : Option AV} {n a b : Nat} {ps : List Prop} (h : bounds an lo hi n = some ((a, b), ps)) (hp : All ps) :
    a≤b∧b≤n∧(∀ x,lo=some x→∃ k,x=.pv (.i k a))∧(lo=none→a=0)∧(∀ x,hi=some x→∃ k,x=.pv (.i k b))∧(hi=none→b=n):=by
 unfold bounds at h
 split at h
 ·rename_i l hh e1 e2
  have h1:(l:Int)=a∧(hh:Int)=b∧a≤b∧b≤n:=by
   split at h
   ·obtain ⟨he,h⟩:=q6 h hp
    simp only [Prod.mk.injEq] at he
    obtain ⟨rfl,rfl⟩:=he
    exact h
   ·obtain ⟨he,h⟩:=q6 h hp
    simp only [Prod.mk.injEq] at he
    obtain ⟨rfl,rfl⟩:=he
    omega
  obtain ⟨rfl,rfl,h2,h3⟩:=h1
  refine ⟨h2,h3,?_,?_,?_,?_⟩
  ·rintro x rfl; exact qiR e1
  ·rintro rfl; simp at e1; omega
  ·rintro x rfl; exact qiR e2
  ·rintro rfl; simp at e2; omega
 ·simp at h
theorem qn3 {x y:PV} {k:Nat} (h:x.zh k=some y):k < x.len:=by
 cases x<;>simp only [PV.zh] at h<;>try (simp at h; done)
 ·exact (List.getElem?_eq_some_iff.1 h).1
 ·rename_i bs
  cases hb:bs[k]? with
  | none=>simp [hb] at h
  | some c=>exact (List.getElem?_eq_some_iff.1 hb).1
theorem qFt {x y : PV} {cs : List Value} {k : Nat} (h : qv G w x cs) (hy : x.zh k = some y) :
    ∃ b off cap ds,cs=[.slice (some ⟨b,off,none⟩) x.len cap]∧qv G w y ds∧jJ w b (off + k * y.size) ds∧inG G b (off + k * y.size) ds.length:=by
 cases x<;>simp only [PV.zh] at hy<;>try (simp at hy; done)
 ·rename_i sz xs
  simp only [qv] at h
  obtain ⟨a,cap,rfl,_,hsz,hh⟩:=h
  rcases hh with rfl | ⟨b,off,vs,rfl,h1,h2,h3⟩
  ·simp at hy
  ·obtain ⟨c,d,e,rfl,h4,h5,_⟩:=qU.at h1 hy
   have hmem:=List.mem_of_getElem? hy
   have hys:=hsz _ hmem
   have hc:c.length=k * y.size:=by
    rw [h5,PV.YN sz _ (fun z hz=>hsz z (List.mem_of_mem_take hz)),hys,List.length_take,Nat.min_eq_left (Nat.le_of_lt (List.getElem?_eq_some_iff.1 hy).1)]
   refine ⟨b,off,cap,d,rfl,h4,fun j hj=>?_,fun j hj=>?_⟩
   ·have:=h2 (c.length + j) (by simp; omega)
    rw [← hc,Nat.add_assoc,this,List.append_assoc,List.getElem?_append_right (by omega),Nat.add_sub_cancel_left,List.getElem?_append_left hj]
   ·have:=h3 (c.length + j) (by simp; omega)
    rw [← hc,Nat.add_assoc]; exact this
 ·rename_i bs
  simp only [qv] at h
  obtain ⟨a,cap,rfl,_,hh⟩:=h
  cases hb:bs[k]? with
  | none=>simp [hb] at hy
  | some c=>
   simp only [hb,Option.map_some,Option.some.injEq] at hy
   subst hy
   rcases hh with rfl | ⟨b,off,rfl,h2,h3⟩
   ·simp at hb
   ·have hk:=(List.getElem?_eq_some_iff.1 hb).1
    refine ⟨b,off,cap,[cu8 c],rfl,by simp [qv,u8,cu8],fun j hj=>?_,fun j hj=>?_⟩
    ·simp at hj; subst hj
     have:=h2 k (by simpa using hk)
     simp only [u8,PV.size,Nat.mul_one,Nat.add_zero]
     rw [this]; simp [hb]
    ·simp at hj; subst hj
     have:=h3 k hk
     simpa [u8,PV.size] using this
theorem J3 {x:AV} {n:Int} {v:Value} (h:asInt x=some n) (hv:qx ob γ G w x v):∃ k,v=.int k n:=by
 obtain ⟨k,rfl⟩:=qiR h
 exact ⟨k,zB.1 hv⟩
theorem ZF {k:IntKind} {n:Int}:(asIntOf (.int k n)).run P w=.ok (k,n) w:=rfl
theorem YT {b off:Nat} {c d e:List Value} (h:jJ w b off (c++d++e)):jJ w b (off + c.length) d:=fun j hj=>by
 have:=h (c.length + j) (by simp; omega)
 rw [Nat.add_assoc,this,List.append_assoc,List.getElem?_append_right (by omega),Nat.add_sub_cancel_left,List.getElem?_append_left hj]
theorem qmF {b off n:Nat} (h:inG G b off n) {o m:Nat} (hm:o + m≤n):inG G b (off + o) m:=fun j hj=>by
 have:=h (o + j) (by omega)
 rwa [Nat.add_assoc]
theorem qpo {α:Type} (xs:List α) {a b:Nat} (h:a≤b):xs=xs.take a++(xs.take b).drop a++xs.drop b:=by
 conv=>lhs; rw [← List.take_append_drop b xs,← List.take_append_drop a (xs.take b),List.take_take,Nat.min_eq_left h]
def qiq:PV→Nat
 | .l s _=>s
 | _=>1
theorem quE {x : PV} {a b cap m : Nat} {ad : Option Addr} (hs : x.Zi = true) (hx : qv G w x [.slice ad x.len cap]) (h1 : a ≤ b) (h2 : b ≤ x.len) (hm : b ≤ m) :
    qv G w (x.sub a b) [.slice (if m=a then ad else ad.map (·.add (a * qiq x))) (b - a) (m - a)]:=by
 cases x<;>simp only [PV.Zi,Bool.false_eq_true] at hs
 ·rename_i sz xs
  simp only [PV.len] at hx h2
  simp only [qv] at hx
  obtain ⟨ad',cap',e,h3,h4,h5⟩:=hx
  simp only [List.cons.injEq,Value.slice.injEq,and_true,true_and] at e
  obtain ⟨rfl,rfl⟩:=e
  have hlen:((xs.take b).drop a).length=b - a:=by simp; omega
  simp only [PV.sub,qv,hlen]
  refine ⟨_,_,rfl,by omega,fun z hz=>h4 z (List.mem_of_mem_take (List.mem_of_mem_drop hz)),?_⟩
  by_cases hab:a=b
  ·exact .inl (List.length_eq_zero_iff.1 (by omega))
  ·right
   rcases h5 with rfl | ⟨bb,off,vs,rfl,h6,h7,h8⟩
   ·simp at h2; omega
   ·rw [qpo xs h1] at h6
    obtain ⟨c,d,rfl,h9,h10⟩:=qU.split _ _ _ h6
    obtain ⟨c,e,rfl,h11,h12⟩:=qU.split _ _ _ h9
    have hc:c.length=a * sz:=by
     rw [qU.len _ _ h11,PV.YN sz _ (fun z hz=>h4 z (List.mem_of_mem_take hz)),List.length_take,Nat.min_eq_left (by omega)]
    refine ⟨bb,off + a * sz,e,by rw [if_neg (by omega)]; simp [qiq,JO],h12,?_,?_⟩
    ·rw [← hc]; exact YT h7
    ·rw [← hc]; exact qmF h8 (by simp)
 ·rename_i xs
  simp only [PV.len] at hx h2
  simp only [qv] at hx
  obtain ⟨ad',cap',e,h3,h5⟩:=hx
  simp only [List.cons.injEq,Value.slice.injEq,and_true,true_and] at e
  obtain ⟨rfl,rfl⟩:=e
  have hlen:((xs.take b).drop a).length=b - a:=by simp; omega
  simp only [PV.sub,qv,hlen]
  refine ⟨_,_,rfl,by omega,?_⟩
  by_cases hab:a=b
  ·exact .inl (List.length_eq_zero_iff.1 (by omega))
  ·right
   rcases h5 with rfl | ⟨bb,off,rfl,h7,h8⟩
   ·simp at h2; omega
   ·rw [qpo xs h1,List.map_append,List.map_append] at h7
    have hc:((xs.take a).map cu8).length=a:=by simp; omega
    refine ⟨bb,off + a,by rw [if_neg (by omega)]; simp [qiq,JO],?_,?_⟩
    ·have:=YT h7; rwa [hc] at this
    ·exact qmF h8 (by omega)
theorem qxz {x : PV} {a b cap : Nat} {ad : Option Addr} (hs : x.Zi = true) (hx : qv G w x [.slice ad x.len cap]) (h1 : a ≤ b) (h2 : b ≤ x.len) :
    qv G w (x.sub a b) [.slice (if cap=a then ad else ad.map (·.add (a * qiq x))) (b - a) (cap - a)]:=by
 refine quE hs hx h1 h2 ?_
 cases x<;>simp only [PV.Zi,Bool.false_eq_true] at hs
 ·simp only [qv] at hx
  obtain ⟨ad',cap',e,h3,_⟩:=hx
  simp only [PV.len,List.cons.injEq,Value.slice.injEq,and_true,true_and] at e h2
  omega
 ·simp only [qv] at hx
  obtain ⟨ad',cap',e,h3,_⟩:=hx
  simp only [PV.len,List.cons.injEq,Value.slice.injEq,and_true,true_and] at e h2
  omega
end g
end Go.Rx
end
noncomputable section
namespace Go.Rx
section g
variable {P:Program} {ob:Ob} {γ:Hm} {G:Gh} {w:World}
theorem qd3 {d : Nat} {t : TypeId} {fs : List (TypeId × Nat)} {x : AV} (hk : qm P t = some (.struct fs)) (hf : fit P d t x = true) :
    ∃ d',(∃ xs,x=.pv (.ag xs)∧fits P d' fs (xs.map AV.pv) 0=true)∨(∃ xs,x=.ag xs∧fits P d' fs xs 0=true):=by
 cases d with
 | zero=>simp [fit] at hf
 | succ d=>
  unfold fit at hf
  simp only [hk] at hf
  split at hf<;>try (simp at *; done)
  ·rename_i h; simp only [Option.some.injEq,TK.struct.injEq] at h; subst h; exact ⟨d,.inl ⟨_,rfl,hf⟩⟩
  ·rename_i h; simp only [Option.some.injEq,TK.struct.injEq] at h; subst h; exact ⟨d,.inr ⟨_,rfl,hf⟩⟩
theorem qq4 {d : Nat} {t e : TypeId} {n : Nat} {x : AV} (hk : qm P t = some (.arr n e)) (hf : fit P d t x = true) :
    ∃ d',(∃ xs,x=.pv (.ag xs)∧xs.length=n∧∀ y∈xs,qq P e=y.size∧fit P d' e (.pv y)=true)∨(∃ xs,x=.ag xs∧xs.length=n∧∀ y∈xs,qq P e=y.size∧fit P d' e y=true):=by
 cases d with
 | zero=>simp [fit] at hf
 | succ d=>
  unfold fit at hf
  simp only [hk] at hf
  split at hf<;>try (simp at *; done)
  ·rename_i h; simp only [Option.some.injEq,TK.arr.injEq] at h; obtain ⟨rfl,rfl⟩:=h
   simp only [Bool.and_eq_true,List.all_eq_true,beq_iff_eq] at hf
   exact ⟨d,.inl ⟨_,rfl,hf.1,fun y hy=>⟨(hf.2 y hy).1,(hf.2 y hy).2⟩⟩⟩
  ·rename_i h; simp only [Option.some.injEq,TK.arr.injEq] at h; obtain ⟨rfl,rfl⟩:=h
   simp only [Bool.and_eq_true,List.all_eq_true,beq_iff_eq] at hf
   exact ⟨d,.inr ⟨_,rfl,hf.1,fun y hy=>⟨(hf.2 y hy).1,(hf.2 y hy).2⟩⟩⟩
theorem qr_ {d:Nat} {t:TypeId} {n:Nat} {x:AV} (hk:qm P t=some (.bytes n)) (hf:fit P d t x=true):∃ b:Vector UInt8 n,x=.pv (.ba n b):=by
 cases d with
 | zero=>simp [fit] at hf
 | succ d=>
  unfold fit at hf
  simp only [hk] at hf
  split at hf<;>try (simp at *; done)
  rename_i h; simp only [Option.some.injEq,TK.bytes.injEq] at h; subst h
  simp only [beq_iff_eq] at hf; subst hf
  exact ⟨_,rfl⟩
theorem qBA {d:Nat} {t:TypeId} {n:Nat} {x:AV} (hk:qm P t=some (.words n)) (hf:fit P d t x=true):∃ b:Vector UInt32 n,x=.pv (.wa n b):=by
 cases d with
 | zero=>simp [fit] at hf
 | succ d=>
  unfold fit at hf
  simp only [hk] at hf
  split at hf<;>try (simp at *; done)
  rename_i h; simp only [Option.some.injEq,TK.words.injEq] at h; subst h
  simp only [beq_iff_eq] at hf; subst hf
  exact ⟨_,rfl⟩
theorem qFJ {d:Nat} {t:TypeId} {n:Nat} {b:Vector UInt8 n} (hf:fit P d t (.pv (.ba n b))=true):qm P t=some (.bytes n):=by
 cases d with
 | zero=>simp [fit] at hf
 | succ d=>
  unfold fit at hf
  split at hf<;>rename_i h<;>try (cases h; done)
  all_goals try (simp at hf; done)
  rename_i h'; cases h; simp only [beq_iff_eq] at hf; subst hf; exact h'
theorem qFu {d:Nat} {t:TypeId} {n:Nat} {b:Vector UInt32 n} (hf:fit P d t (.pv (.wa n b))=true):qm P t=some (.words n):=by
 cases d with
 | zero=>simp [fit] at hf
 | succ d=>
  unfold fit at hf
  split at hf<;>rename_i h<;>try (cases h; done)
  all_goals try (simp at hf; done)
  rename_i h'; cases h; simp only [beq_iff_eq] at hf; subst hf; exact h'
theorem qFD {d : Nat} {t : TypeId} {xs : List AV} {x : AV} (hx : x = .ag xs ∨ ∃ ys, x = .pv (.ag ys) ∧ xs = ys.map AV.pv) (hf : fit P d t x = true) :
    (∃ fs d',qm P t=some (.struct fs)∧fits P d' fs xs 0=true)∨(∃ n e d',qm P t=some (.arr n e)∧xs.length=n∧∀ y∈xs,qq P e=y.size∧fit P d' e y=true):=by
 cases d with
 | zero=>simp [fit] at hf
 | succ d=>
  cases hk:qm P t with
  | none=>rcases hx with rfl | ⟨ys,rfl,rfl⟩<;>(unfold fit at hf; simp [hk] at hf)
  | some k=>
   cases k
   case arr n e=>
    right
    obtain ⟨d',h⟩:=qq4 hk hf
    refine ⟨n,e,d',rfl,?_⟩
    rcases h with ⟨zs,h1,h2,h3⟩ | ⟨zs,h1,h2,h3⟩<;>rcases hx with rfl | ⟨ys,rfl,rfl⟩<;>cases h1
    ·exact ⟨by simpa using h2,fun y hy=>by obtain ⟨z,hz,rfl⟩:=List.mem_map.1 hy; exact h3 z hz⟩
    ·exact ⟨h2,h3⟩
   case struct fs=>
    left
    obtain ⟨d',h⟩:=qd3 hk hf
    refine ⟨fs,d',rfl,?_⟩
    rcases h with ⟨zs,h1,h2⟩ | ⟨zs,h1,h2⟩<;>rcases hx with rfl | ⟨ys,rfl,rfl⟩<;>cases h1<;>exact h2
   all_goals (rcases hx with rfl | ⟨ys,rfl,rfl⟩<;>(unfold fit at hf; simp [hk] at hf))
theorem qsc (off : Nat) : ∀ (dy : List Value) (k : Nat) (c d e : List Value), d.length = dy.length → c.length = off + k →
    (dy.zipIdx k).foldl (fun cs q=>cs.setIfInBounds (off + q.2) q.1) (c++d++e).toArray=(c++dy++e).toArray
 | [],k,c,d,e,h,_=>by simp at h; subst h; rfl
 | v::dy,k,c,d,e,h,hc=>by
  cases d with
  | nil=>simp at h
  | cons d0 d=>
   simp only [List.zipIdx_cons,List.foldl_cons]
   have:(c++d0::d++e).toArray.setIfInBounds (off + k) v=((c++[v])++d++e).toArray:=by
    apply Array.ext'
    rw [Array.toList_setIfInBounds,← hc]
    simp
   rw [this,qsc off dy (k + 1) (c++[v]) d e (by simpa using h) (by simp; omega)]
   simp
theorem qt3 {place : Nat → Option (Nat × Nat)} {i o sz : Nat} {v : Value} {c d e dy : List Value} {rest : List (Nat × Value)} (hp : place i = some (o, sz)) (hv : v.cells = dy.toArray) (hd : d.length = sz) (hy : dy.length = sz) (hc : c.length = o) :
    Instr.fill place (c++d++e).toArray ((i,v)::rest)=Instr.fill place (c++dy++e).toArray rest:=by
 simp only [Instr.fill,hp,hv]
 rw [if_neg]
 ·congr 1
  rw [← qsc o dy 0 c d e (by omega) (by omega)]
  rw [← Array.foldl_toList]
  simp
 ·simp; omega
def qeP (P:Program) (t:TypeId) (place:Nat→Option (Nat×Nat)):Prop:=
 ∀ (z y:AV) (i:Nat),qO P t z=true→AV.at [i] z=some y→All (AV.inR [i] z)→∃ o,AV.za [i] z=some o∧place i=some (o,y.size)
theorem qfP {xs:List AV} {i:Nat}:AV.at [i] (.ag xs)=xs[i]?:=by simp only [AV.at]; split<;>simp_all
theorem qd0 {xs:List PV} {i:Nat}:AV.at [i] (.pv (.ag xs))=(xs[i]?).map .pv:=by simp only [AV.at]; split<;>simp_all
theorem qtm {t:TypeId} {fs:List (TypeId×Nat)} (hk:qm P t=some (.struct fs)):qeP P t fun i=>(fs[i]?).map fun f=>(f.2,qq P f.1):=by
 intro z y i hf ha _
 simp only [qO,Bool.and_eq_true] at hf
 obtain ⟨_,hf⟩:=hf
 have key:∀ (xs:List AV) (n:Nat),fits P n fs xs 0=true→xs[i]?=some y→∃ f,fs[i]?=some f∧f.2=AV.zu (xs.take i)∧qq P f.1=y.size:=by
  intro xs n h hy
  have hlen:∀ (n:Nat) (fs:List (TypeId×Nat)) (xs:List AV) (o:Nat),fits P n fs xs o=true→fs.length=xs.length:=by
   intro n
   induction n with
   | zero=>intro fs xs o h; simp [fits] at h
   | succ n ih=>
    intro fs xs o h
    cases fs with
    | nil=>cases xs<;>simp [fits] at h ⊢
    | cons f fs=>
     cases xs with
     | nil=>simp [fits] at h
     | cons x xs=>
      simp only [fits,Bool.and_eq_true] at h
      simp [ih _ _ _ h.2]
  have hl:=hlen n fs xs 0 h
  have hi:=(List.getElem?_eq_some_iff.1 hy).1
  have hfi:fs[i]?=some fs[i]:=List.getElem?_eq_getElem (by omega)
  obtain ⟨h1,h2,_⟩:=qoF n fs xs 0 h i fs[i].1 fs[i].2 y (by rw [hfi]) hy
  exact ⟨_,hfi,by omega,h2⟩
 obtain ⟨d',⟨xs,rfl,hf1⟩ | ⟨xs,rfl,hf1⟩⟩:=qd3 hk hf
 ·rw [qd0] at ha
  obtain ⟨f,h1,h2,h3⟩:=key (xs.map .pv) _ hf1 (by simpa using ha)
  cases hx:xs[i]? with
  | none=>simp [hx] at ha
  | some u=>
   refine ⟨f.2,?_,by simp [h1,h3]⟩
   rw [h2,← List.map_take,AV.qfv]
   simp [AV.za,hx]
 ·rw [qfP] at ha
  obtain ⟨f,h1,h2,h3⟩:=key xs _ hf1 ha
  refine ⟨f.2,?_,by simp [h1,h3]⟩
  rw [h2]
  simp [AV.za,ha]
theorem qfF (sz:Nat):∀ (xs:List AV),(∀ x∈xs,x.size=sz)→AV.zu xs=xs.length * sz
 | [],_=>by simp [AV.zu]
 | x::xs,h=>by
  simp only [AV.zu,List.length_cons,h x (by simp),qfF sz xs fun y hy=>h y (by simp [hy])]
  rw [Nat.succ_mul]; omega
theorem qy4 {t e:TypeId} {n:Nat} (hk:qm P t=some (.arr n e)):qeP P t fun i=>some (i * qq P e,qq P e):=by
 intro z y i hf ha _
 simp only [qO,Bool.and_eq_true] at hf
 obtain ⟨d',⟨xs,rfl,hl,hf⟩ | ⟨xs,rfl,hl,hf⟩⟩:=qq4 hk hf.2
 ·rw [qd0] at ha
  cases hx:xs[i]? with
  | none=>simp [hx] at ha
  | some u=>
   simp only [hx,Option.map_some,Option.some.injEq] at ha
   subst ha
   have hu:=hf u (List.mem_of_getElem? hx)
   refine ⟨i * qq P e,?_,by simp only [AV.size,hu.1]⟩
   have:PV.zu (xs.take i)=i * qq P e:=by
    rw [PV.YN (qq P e) _ (fun z hz=>((hf z (List.mem_of_mem_take hz)).1).symm),List.length_take,Nat.min_eq_left (Nat.le_of_lt (List.getElem?_eq_some_iff.1 hx).1)]
   simp [AV.za,hx,this]
 ·rw [qfP] at ha
  have hu:=hf y (List.mem_of_getElem? ha)
  refine ⟨i * qq P e,?_,by rw [hu.1]⟩
  have:AV.zu (xs.take i)=i * qq P e:=by
   rw [qfF (qq P e) _ (fun z hz=>((hf z (List.mem_of_mem_take hz)).1).symm),List.length_take,Nat.min_eq_left (Nat.le_of_lt (List.getElem?_eq_some_iff.1 ha).1)]
  simp [AV.za,ha,this]
theorem qus {t e:TypeId} {n:Nat} (hk:qm P t=some (.bytes n)) (he:qq P e=1):qeP P t fun i=>some (i * qq P e,qq P e):=by
 intro z y i hf ha _
 simp only [qO,Bool.and_eq_true] at hf
 obtain ⟨b,rfl⟩:=qr_ hk hf.2
 simp only [AV.at,Option.some.injEq] at ha
 subst ha
 exact ⟨i,by simp [AV.za],by simp [he,AV.size,PV.size,u8]⟩
theorem qvj {t e:TypeId} {n:Nat} (hk:qm P t=some (.words n)) (he:qq P e=1):qeP P t fun i=>some (i * qq P e,qq P e):=by
 intro z y i hf ha _
 simp only [qO,Bool.and_eq_true] at hf
 obtain ⟨b,rfl⟩:=qBA hk hf.2
 simp only [AV.at,Option.some.injEq] at ha
 subst ha
 exact ⟨i,by simp [AV.za],by simp [he,AV.size,PV.size,u32]⟩
theorem qAJ {an:Option Ans} {i:Nat} {z x z':AV} {ps:List Prop} (hs:setAt an [i] z x=some (z',ps)) (hp:All ps):All (AV.inR [i] z):=by
 cases z with
 | pv u=>
  cases u with
  | ag xs=>simp only [AV.inR]; split<;>trivial
  | ba n xs=>
   cases x<;>simp only [setAt] at hs<;>try (simp at hs; done)
   obtain ⟨b,ps1,ps2,e1,e2,hp1,hp2⟩:=qu hs hp
   exact (q6 e2 hp2).2
  | wa n xs=>
   cases x<;>simp only [setAt] at hs<;>try (simp at hs; done)
   obtain ⟨b,ps1,ps2,e1,e2,hp1,hp2⟩:=qu hs hp
   exact (q6 e2 hp2).2
  | _=>trivial
 | ag xs=>simp only [AV.inR]; split<;>trivial
 | _=>trivial
def quQ (ob:Ob) (γ:Hm) (G:Gh) (w:World):List (Nat×AV)→List (Nat×Value)→Prop
 | [],vs=>vs=[]
 | (i,x)::r,vs=>∃ v t,vs=(i,v)::t∧qx ob γ G w x v∧quQ ob γ G w r t
theorem qo9:∀ (n:Nat),(∀ (fs:List (TypeId×Nat)) (xs:List AV) (o:Nat),fits P n fs xs o=true→∀ x∈xs,∃ d u,fit P d u x=true)
 | 0,fs,xs,o,h=>by simp [fits] at h
 | n + 1,fs,xs,o,h=>by
  cases fs with
  | nil=>cases xs<;>simp [fits] at h ⊢
  | cons f fs=>
   cases xs with
   | nil=>simp [fits] at h
   | cons x xs=>
    simp only [fits,Bool.and_eq_true] at h
    intro y hy
    rcases List.mem_cons.1 hy with rfl | hy
    ·exact ⟨n,f.1,h.1.2⟩
    ·exact qo9 n fs xs _ h.2 y hy
theorem qso {d:Nat} {t:TypeId} {xs:List AV} (hf:fit P d t (AV.mk xs)=true):∀ x∈xs,∃ d u,fit P d u x=true:=by
 have:AV.mk xs=.ag xs∨∃ ys,AV.mk xs=.pv (.ag ys)∧xs=ys.map AV.pv:=by
  unfold AV.mk
  split
  ·rename_i ys hys; exact .inr ⟨ys,rfl,Y6 hys⟩
  ·exact .inl rfl
 rcases qFD this hf with ⟨fs,d',_,h⟩ | ⟨n,e,d',_,_,h⟩
 ·exact qo9 _ _ _ _ h
 ·exact fun x hx=>⟨d',e,(h x hx).2⟩
theorem qzr {an:Option Ans} {t:TypeId} {i d:Nat} {z x z' y:AV} {ps:List Prop} (hs:setAt an [i] z x=some (z',ps)) (hp:All ps) (hf:fit P d t z'=true) (ha:AV.at [i] z=some y):∃ d u,fit P d u x=true:=by
 cases z with
 | pv u=>
  cases u with
  | ag xs=>
   simp only [setAt] at hs
   split at hs
   ·rename_i q hq
    obtain ⟨z2,q1,q2,g1,g2,_,_⟩:=qu hs hp
    rw [qh g1] at g2
    rw [qh g2] at hf
    refine qso hf x ?_
    exact List.mem_iff_getElem?.2 ⟨i,by rw [List.getElem?_set_self (by simpa using (List.getElem?_eq_some_iff.1 hq).1)]⟩
   ·simp at hs
  | ba n xs=>
   cases x<;>simp only [setAt] at hs<;>try (simp at hs; done)
   obtain ⟨b,q1,q2,e1,e2,hq1,hq2⟩:=qu hs hp
   obtain ⟨n',rfl,hn⟩:=qcP e1 hq1
   rw [(q6 e2 hq2).1] at hf
   obtain ⟨e,_,he2,_⟩:=ZB (qFJ hf)
   exact ⟨1,e,by simp [fit,qm,he2]⟩
  | wa n xs=>
   cases x<;>simp only [setAt] at hs<;>try (simp at hs; done)
   obtain ⟨b,q1,q2,e1,e2,hq1,hq2⟩:=qu hs hp
   obtain ⟨n',rfl,hn⟩:=qnN e1 hq1
   rw [(q6 e2 hq2).1] at hf
   obtain ⟨e,_,he2,_⟩:=qbm (qFu hf)
   exact ⟨1,e,by simp [fit,qm,he2]⟩
  | _=>simp [AV.at] at ha
 | ag xs=>
  simp only [setAt] at hs
  split at hs
  ·rename_i q hq
   obtain ⟨z2,q1,q2,g1,g2,_,_⟩:=qu hs hp
   rw [qh g1] at g2
   rw [qh g2] at hf
   refine qso hf x ?_
   exact List.mem_iff_getElem?.2 ⟨i,by rw [List.getElem?_set_self (by simpa using (List.getElem?_eq_some_iff.1 hq).1)]⟩
  ·simp at hs
 | _=>simp [AV.at] at ha
theorem qpj {t : TypeId} {place : Nat → Option (Nat × Nat)} (hpl : qeP P t place) {an : Option Ans} : ∀ (parts : List (Nat × AV)) (z r : AV) (ps : List Prop) (cs : List Value) (vs : List (Nat × Value)),
    YU P t an z parts=some (r,ps)→All ps→qO P t z=true→qg ob γ G w z cs→quQ ob γ G w parts vs→∃ cs',Instr.fill place cs.toArray vs=some cs'.toArray∧qg ob γ G w r cs'∧qO P t r=true
 | [],z,r,ps,cs,vs,hs,_,hf,hr,hv=>by
  simp only [quQ] at hv; subst hv
  simp only [YU] at hs
  rw [qh hs]
  exact ⟨cs,rfl,hr,hf⟩
 | (i,x)::rest,z,r,ps,cs,vs,hs,hp,hf,hr,hv=>by
  simp only [quQ] at hv
  obtain ⟨v,tl,rfl,hx,htl⟩:=hv
  simp only [YU] at hs
  obtain ⟨hat,hs⟩:=qA hs
  obtain ⟨z',ps1,ps2,h1,h2,hp1,hp2⟩:=qu hs hp
  obtain ⟨hf',h2⟩:=qA h2
  cases ha:AV.at [i] z with
  | none=>simp [ha] at hat
  | some y=>
   simp only [ha,beq_iff_eq] at hat
   have hin:=qAJ h1 hp1
   obtain ⟨o,ho,hpi⟩:=hpl z y i hf ha hin
   obtain ⟨c,d,e,rfl,hc,hd⟩:=qaq _ _ _ _ _ ha ho hin hr
   have hdl:=qg.len _ _ hd
   have hxs:∃ dy,qg ob γ G w x dy∧v.cells=dy.toArray:=by
    have:∃ d u,fit P d u x=true:=qzr h1 hp1 (by simp only [qO,Bool.and_eq_true] at hf'; exact hf'.2) ha
    obtain ⟨d,u,hfx⟩:=this
    obtain ⟨cs,g1,g2⟩:=XU hfx hx
    exact ⟨cs,g1,XB g1 g2⟩
   obtain ⟨dy,hdy,hvc⟩:=hxs
   have hdyl:=qg.len _ _ hdy
   rw [qt3 hpi hvc hdl (by omega) hc]
   exact qpj hpl rest z' r ps2 _ tl h2 hp2 hf' (qgQ [i] z x z' y o c d e dy ps1 h1 hp1 hin ha ho hc hdl hr hdy) htl
end g
end Go.Rx
end
noncomputable section
namespace Go.Rx
section g
variable {P:Program} {ob:Ob} {γ:Hm} {G:Gh} {w:World}
def zC (ob:Ob) (γ:Hm) (G:Gh) (w:World) (val:Operand→AV) (ρ:Operand→Value):Prop:=∀ x,qx ob γ G w (val x) (ρ x)
theorem zC.step {ob':Ob} {γ':Hm} {G':Gh} {w':World} {val:Operand→AV} {ρ:Operand→Value} (T:Trans ob γ G w ob' γ' G' w') (S:zC ob γ G w val ρ):zC ob' γ' G' w' val ρ:=
 fun x=>qx.step T _ _ (S x)
theorem qxF {val:Operand→AV} {ρ:Operand→Value} (S:zC ob γ G w val ρ):∀ (l:List (Nat×Operand)),quQ ob γ G w (l.map fun q=>(q.1,val q.2)) (l.map fun q=>(q.1,ρ q.2))
 | []=>rfl
 | (i,x)::r=>⟨ρ x,_,rfl,S x,qxF S r⟩
theorem qER {t:TypeId} {d:TypeDesc} (h:P.underlying t=some d):∃ i,P.info? t=some i∧i.size=qq P t:=by
 obtain ⟨i,hi⟩:=JQ h
 exact ⟨i,hi,by simp [qq,hi]⟩
theorem qjN {t : TypeId} {gs : Array Field} {n : Nat} {xs : List AV} {o : Nat} (hf : fits P n (gs.toList.map fun f => (f.type, f.offset)) xs o = true) :
    gs.toList.mapM (fun f=>(P.info? f.type).map fun i=>(f.offset,i.size))=some (gs.toList.map fun f=>(f.offset,qq P f.type)):=by
 generalize gs.toList=l at hf
 induction l generalizing n xs o with
 | nil=>rfl
 | cons f l ih=>
  cases n with
  | zero=>simp [fits] at hf
  | succ n=>
   cases xs with
   | nil=>simp [fits] at hf
   | cons x xs=>
    simp only [List.map_cons,fits,Bool.and_eq_true] at hf
    obtain ⟨td,hu,_⟩:=Ws hf.1.2
    obtain ⟨i,hi,hs⟩:=qER hu
    rw [List.mapM_cons,ih hf.2]
    simp [hi,hs]
theorem qw0 {t : TypeId} {an : Option Ans} {z r : AV} {ps : List Prop} {parts : Array (Nat × Operand)} {val : Operand → AV} {ρ : Operand → Value} (S : zC ob γ G w val ρ) (hz : zeroOf P t = some z)
    (hag:z.isAgg=true) (hs:YU P t an z (parts.toList.map fun q=>(q.1,val q.2))=some (r,ps)) (hp:All ps) :
    ∃ v,(Instr.build t (parts.map fun q=>(q.1,ρ q.2))).run P w=.ok v w∧qx ob γ G w r v:=by
 obtain ⟨zv,cs,hzv,hr,ho,hcells,hfz⟩:=JM (ob:=ob) (γ:=γ) (G:=G) (w:=w) hz
 have hfz':=hfz
 simp only [qO,Bool.and_eq_true] at hfz'
 obtain ⟨td,hu,ha⟩:=Ws hfz'.2
 rw [hag] at ha
 have hpars:=qxF S parts.toList
 have hlist:(parts.map fun q=>(q.1,ρ q.2)).toList=parts.toList.map fun q=>(q.1,ρ q.2):=by simp
 have hagg:∀ {x:AV},qO P t x=true→x.isAgg=true:=fun hx=>by
  simp only [qO,Bool.and_eq_true] at hx
  obtain ⟨td',hu',ha'⟩:=Ws hx.2
  rw [hu] at hu'; cases hu'; rw [← ha',ha]
 have key:∀ {place:Nat→Option (Nat×Nat)},qeP P t place→∃ cs':List Value,Instr.fill place cs.toArray (parts.toList.map fun q=>(q.1,ρ q.2))=some cs'.toArray∧qx ob γ G w r (.agg cs'.toArray):=fun hpl=>by
  obtain ⟨cs',h1,h2,h3⟩:=qpj hpl _ _ _ _ _ _ hs hp hfz hr hpars
  exact ⟨cs',h1,qeW (hagg h3) h2⟩
 cases td with
 | struct gs=>
  have hk:qm P t=some (.struct (gs.toList.map fun f=>(f.type,f.offset))):=by simp [qm,hu]
  obtain ⟨cs',h1,h2⟩:=key (qtm hk)
  obtain ⟨d',hff⟩:=qd3 hk hfz'.2
  have hpl:gs.toList.mapM (fun f=>(P.info? f.type).map fun i=>(f.offset,i.size))=some (gs.toList.map fun f=>(f.offset,qq P f.type)):=by
   rcases hff with ⟨xs,_,h⟩ | ⟨xs,_,h⟩
   ·exact qjN (t:=t) h
   ·exact qjN (t:=t) h
  refine ⟨.agg cs'.toArray,?_,h2⟩
  have hrun:=Go.run_places (P:=P) w gs.toList _ hpl
  have he:(fun (i:Nat)=>((gs.toList.map fun f=>(f.offset,qq P f.type)).toArray)[i]?)=(fun (i:Nat)=>((gs.toList.map fun f=>(f.type,f.offset))[i]?).map fun (f:TypeId×Nat)=>(f.2,qq P f.1)):=by
   funext i; simp; cases gs[i]?<;>rfl
  rw [← he] at h1
  simp only [Instr.build,Sem.run_bind,hzv,Result.andThen_ok,run_underlying hu,hcells,hlist,Array.mapM_eq_mapM_toList,Sem.run_map,bind_pure_comp,hrun,h1,Sem.run_pure]
 | array n e=>
  have hpl':(∃ d,P.underlying e=some d):=by
   cases he:P.underlying e with
   | some d=>exact ⟨d,rfl⟩
   | none=>
    exfalso
    have:=hfz'.2
    unfold fit at this
    simp [qm,hu,he] at this
  obtain ⟨de,hde⟩:=hpl'
  have hpl:qeP P t fun i=>some (i * qq P e,qq P e):=by
   cases hk:qm P t with
   | none=>
    exfalso
    have:=hfz'.2
    unfold fit at this
    simp [hk] at this
   | some k=>
    have hk':=hk
    simp only [qm,hu] at hk'
    split at hk'
    ·split at hk'<;>simp only [Option.some.injEq,reduceCtorEq] at hk'
     subst hk'
     rename_i hb
     exact qus hk (by simpa using hb)
    ·split at hk'<;>simp only [Option.some.injEq,reduceCtorEq] at hk'
     subst hk'
     rename_i hb
     exact qvj hk (by simpa using hb)
    ·simp only [Option.some.injEq] at hk'
     subst hk'
     exact qy4 hk
    ·simp at hk'
  obtain ⟨cs',h1,h2⟩:=key hpl
  refine ⟨.agg cs'.toArray,?_,h2⟩
  simp only [Instr.build,Sem.run_bind,hzv,Result.andThen_ok,run_underlying hu,hcells,hlist,YJ w hde,h1,Sem.run_pure]
 | _=>simp [qv4] at ha
def Vi (sz:Nat):Nat→List (Nat×Value)→List (List Value)→Prop
 | _,[],[]=>True
 | k,(i,v)::r,c::cs=>i=k∧v.cells=c.toArray∧c.length=sz∧Vi sz (k + 1) r cs
 | _,_,_=>False
theorem qps {sz : Nat} : ∀ (parts : List (Nat × Value)) (k : Nat) (D R : List Value) (css : List (List Value)), Vi sz k parts css → D.length = k * sz → R.length = css.length * sz →
    Instr.fill (fun i=>some (i * sz,sz)) (D++R).toArray parts=some (D++css.flatten).toArray
 | [],k,D,R,css,h,_,hR=>by
  cases css with
  | cons=>simp [Vi] at h
  | nil=>simp at hR; subst hR; simp [Instr.fill]
 | (i,v)::r,k,D,R,css,h,hD,hR=>by
  cases css with
  | nil=>simp [Vi] at h
  | cons c css=>
   simp only [Vi] at h
   obtain ⟨rfl,hv,hc,hr⟩:=h
   have hR':R=R.take sz++R.drop sz:=(List.take_append_drop sz R).symm
   have hl:(R.take sz).length=sz:=by simp [List.length_take,hR,Nat.succ_mul]
   have:(D++R).toArray=(D++R.take sz++R.drop sz).toArray:=by rw [List.append_assoc,← hR']
   rw [this,qt3 rfl hv hl hc (by omega),qps r (i + 1) (D++c) (R.drop sz) css hr (by simp [hc,hD,Nat.succ_mul]) (by simp [hR,Nat.succ_mul])]
   simp
theorem qdO {sz:Nat}:∀ {parts:List (Nat×Value)} {k:Nat} {css:List (List Value)},Vi sz k parts css→parts.length=css.length∧css.flatten.length=css.length * sz
 | [],_,[],_=>by simp
 | [],_,_::_,h=>by simp [Vi] at h
 | _::_,_,[],h=>by simp [Vi] at h
 | (i,v)::r,k,c::css,h=>by
  simp only [Vi] at h
  have:=qdO h.2.2.2
  simp [this.1,this.2,h.2.2.1,Nat.succ_mul,List.length_flatten] at *
  omega
theorem qcE {t e : TypeId} {n : Nat} {parts : List (Nat × Value)} {css : List (List Value)} (hu : P.underlying t = some (.slice e)) (he : ∃ d, P.underlying e = some d) (hz : Qn P e = true)
    (hn:n * qq P e≤16777216) (hd:Vi (qq P e) 0 parts css) (hl:n=parts.length) :
    (Instr.buildSlice t n parts.toArray).run P w=.ok (.slice (some ⟨w.heap.size,0,none⟩) n n) { w with heap:=w.heap.push (.cells css.flatten.toArray e) }:=by
 obtain ⟨de,hde⟩:=he
 have hzero:∃ z,(zeroValue e).run P w=.ok z w:=by
  simp only [Qn,Bool.and_eq_true] at hz
  cases hi:P.info? e with
  | none=>simp [hi] at hz
  | some i=>
   simp only [hi,Option.bind_some] at hz
   obtain ⟨z,hz'⟩:=Option.isSome_iff_exists.1 hz.1
   exact ⟨z,by simp [zeroValue,typeInfo,hi,hz']⟩
 obtain ⟨z,hz'⟩:=hzero
 obtain ⟨h1,h2⟩:=qdO hd
 have fl:∀ R:Array Value,R.size=n * qq P e→Instr.fill (fun i=>some (i * qq P e,qq P e)) R parts=some css.flatten.toArray:=fun R hR=>by
  have:=qps parts 0 [] R.toList css hd (by simp) (by simp [hR]; rw [hl,h1])
  simpa using this
 simp only [Instr.buildSlice,Sem.run_bind,run_underlying hu,Result.andThen_ok,YJ w hde]
 rw [if_neg (by omega)]
 by_cases h0:n * qq P e=0
 ·rw [if_pos h0]
  rw [pure_bind,fl _ (by simp)]
  simp [newRow]
 ·rw [if_neg h0]
  simp only [bind_assoc,Sem.run_bind,hz',Sem.run_pure,pure_bind,Result.andThen_ok]
  rw [fl _ (by simp)]
  simp [newRow]
theorem qky {an:Option Ans}:∀ {xs:List PV} {cs:List UInt8} {ps:List Prop},qcu an xs=some (cs,ps)→All ps→xs=cs.map u8
 | [],cs,ps,h,_=>by simp only [qcu] at h; rw [qh h]; rfl
 | x::xs,cs,ps,h,hp=>by
  simp only [qcu] at h
  obtain ⟨c,p1,p2,h1,h2,hp1,hp2⟩:=qu h hp
  obtain ⟨cs',p3,p4,h3,h4,hp3,hp4⟩:=qu h2 hp2
  rw [qh h4]
  obtain ⟨n,rfl,rfl⟩:=qcP h1 hp1
  simp [qky h3 hp3,u8]
def zZ (G:Gh) (w:World):List PV→List Value→List (List Value)→Prop
 | [],[],[]=>True
 | x::xs,v::vs,c::cs=>qv G w x c∧v.cells=c.toArray∧zZ G w xs vs cs
 | _,_,_=>False
theorem qsp:∀ {xs:List PV} {vs:List Value} {css:List (List Value)},zZ G w xs vs css→qU G w xs css.flatten
 | [],[],[],_=>rfl
 | [],[],_::_,h=>by simp [zZ] at h
 | [],_::_,_,h=>by simp [zZ] at h
 | _::_,[],_,h=>by simp [zZ] at h
 | _::_,_::_,[],h=>by simp [zZ] at h
 | x::xs,v::vs,c::css,h=>by
  simp only [zZ] at h
  exact ⟨c,css.flatten,by simp,h.1,qsp h.2.2⟩
theorem qin {sz:Nat}:∀ {xs:List PV} {parts:List (Nat×Value)} {css:List (List Value)} {k:Nat},zZ G w xs (parts.map (·.2)) css→(∀ x∈xs,x.size=sz)→(∀ j q,parts[j]?=some q→q.1=k + j)→Vi sz k parts css
 | [],[],[],_,_,_,_=>trivial
 | [],[],_::_,_,h,_,_=>by simp [zZ] at h
 | [],_::_,_,_,h,_,_=>by simp [zZ] at h
 | _::_,[],_,_,h,_,_=>by simp [zZ] at h
 | _::_,_::_,[],_,h,_,_=>by simp [zZ] at h
 | x::xs,(i,v)::r,c::css,k,h,hsz,hi=>by
  simp only [List.map_cons,zZ] at h
  refine ⟨by simpa using hi 0 (i,v) rfl,h.2.1,by rw [qv.len _ _ h.1,hsz x (by simp)],qin h.2.2 (fun y hy=>hsz y (by simp [hy])) fun j q hq=>?_⟩
  have:=hi (j + 1) q (by simpa using hq)
  omega
theorem qpK:∀ {cs:List UInt8} {fl:List Value},qU G w (cs.map u8) fl→fl=cs.map cu8
 | [],_,h=>h
 | c::cs,_,⟨c1,d,e,h1,h2⟩=>by
  simp only [u8,qv] at h1
  rw [e,h1,qpK h2]; rfl
theorem qnI {an : Option Ans} {e : TypeId} {xs : List PV} {s : PV} {ps : List Prop} (hs : qcN P an e xs = some (s, ps)) (hp : All ps) {css : List (List Value)} {vs : List Value} (hv : zZ G w xs vs css) :
    qV G w (qq P e) s css.flatten∧s.len=xs.length∧s.Zi=true∧(∀ x∈xs,x.size=qq P e)∧(xs≠[]→∃ d,P.underlying e=some d):=by
 unfold qcN at hs
 have hf:=qsp hv
 split at hs
 ·rename_i hu
  obtain ⟨h1,hs⟩:=qA hs
  obtain ⟨cs,p1,p2,h2,h3,hp1,hp2⟩:=qu hs hp
  rw [qh h3]
  have hx:=qky h2 hp1
  subst hx
  simp only [beq_iff_eq] at h1
  refine ⟨⟨h1,?_⟩,by simp [PV.len],rfl,?_,fun _=>⟨_,qeN hu⟩⟩
  ·exact qpK hf
  ·intro x hx
   obtain ⟨c,_,rfl⟩:=List.mem_map.1 hx
   simp [u8,PV.size,h1]
 ·obtain ⟨h1,hs⟩:=qA hs
  rw [qh hs]
  simp only [List.all_eq_true,Bool.and_eq_true,beq_iff_eq] at h1
  refine ⟨⟨rfl,hf,fun x hx=>(h1 x hx).1⟩,rfl,rfl,fun x hx=>(h1 x hx).1,fun hne=>?_⟩
  cases xs with
  | nil=>exact absurd rfl hne
  | cons x xs=>obtain ⟨td,h,_⟩:=Ws (h1 x (by simp)).2; exact ⟨td,h⟩
theorem qri {sz:Nat} {s:PV} {cs:List Value} (h:qV G w sz s cs) {b off cap:Nat} (hc:jJ w b off cs) (hg:inG G b off cs.length) (hcap:s.len≤cap):qv G w s [.slice (some ⟨b,off,none⟩) s.len cap]:=by
 cases s<;>simp only [qV] at h
 ·obtain ⟨rfl,h1,h2⟩:=h
  simp only [qv]
  exact ⟨_,_,rfl,hcap,h2,.inr ⟨b,off,cs,rfl,h1,hc,hg⟩⟩
 ·obtain ⟨_,rfl⟩:=h
  simp only [qv]
  exact ⟨_,_,rfl,hcap,.inr ⟨b,off,rfl,hc,by simpa using hg⟩⟩
theorem qkO:∀ (l:List (Nat×Operand)) (k:Nat),Y3 k l=true→∀ (j:Nat) (q:Nat×Operand),l[j]?=some q→q.1=k + j
 | [],_,_,j,q,h=>by simp at h
 | (i,x)::r,k,hd,j,q,h=>by
  simp only [Y3,Bool.and_eq_true,beq_iff_eq] at hd
  cases j with
  | zero=>simp at h; subst h; simpa using hd.1
  | succ j=>have:=qkO r (k + 1) hd.2 j q (by simpa using h); omega
theorem qx4 {val:Operand→AV} {ρ:Operand→Value} (S:zC ob γ G w val ρ):∀ (l:List (Nat×Operand)) (xs:List PV),l.map (fun q=>val q.2)=xs.map AV.pv→∃ css,zZ G w xs (l.map fun q=>ρ q.2) css
 | [],xs,h=>by cases xs<;>simp at h ⊢; exact ⟨[],trivial⟩
 | (i,o)::r,xs,h=>by
  cases xs with
  | nil=>simp at h
  | cons x xs=>
   simp only [List.map_cons,List.cons.injEq] at h
   obtain ⟨css,hc⟩:=qx4 S r xs h.2
   have:=S o
   rw [h.1] at this
   obtain ⟨c,h1,h2⟩:=jU.1 this
   exact ⟨c::css,h1,XB (ob:=ob) (γ:=γ) (x:=.pv x) (by simpa only [qg] using h1) h2,hc⟩
theorem qhY {t e : TypeId} {n : Nat} {parts : Array (Nat × Operand)} {val : Operand → AV} {ρ : Operand → Value} (S : zC ob γ G w val ρ) (hk : qm P t = some (.slice e)) (hd : Y3 0 parts.toList = true) (hn : n = parts.size)
    (hm:n * qq P e≤16777216) (hz:Qn P e=true) {an:Option Ans} {xs:List PV} (hx:AV.QA (parts.toList.map fun q=>val q.2)=some xs) {s:PV} {ps:List Prop} (hs:qcN P an e xs=some (s,ps)) (hp:All ps) :
    ∃ cs,(Instr.buildSlice t n (parts.map fun q=>(q.1,ρ q.2))).run P w=.ok (.slice (some ⟨w.heap.size,0,none⟩) s.len s.len) { w with heap:=w.heap.push (.cells cs.toArray e) }∧qV G w (qq P e) s cs∧s.Zi=true∧s.len=n∧cs.length=n * qq P e:=by
 obtain ⟨css,hv⟩:=qx4 S parts.toList xs (Y6 hx)
 obtain ⟨h1,h2,h3,h4,h5⟩:=qnI hs hp hv
 have hxl:xs.length=n:=by
  have:=congrArg List.length (Y6 hx)
  simp at this; omega
 have hmap:(parts.map fun q=>(q.1,ρ q.2))=(parts.toList.map fun q=>(q.1,ρ q.2)).toArray:=by apply Array.ext'; simp
 have hdn:Vi (qq P e) 0 (parts.toList.map fun q=>(q.1,ρ q.2)) css:=by
  refine qin (xs:=xs) (by simpa [Function.comp_def] using hv) h4 fun j q hq=>?_
  simp only [List.getElem?_map,Option.map_eq_some_iff] at hq
  obtain ⟨p,hp1,rfl⟩:=hq
  exact qkO _ 0 hd j p hp1
 have he:∃ d,P.underlying e=some d:=by
  simp only [Qn,Bool.and_eq_true] at hz
  exact Option.isSome_iff_exists.1 hz.2
 refine ⟨css.flatten,?_,h1,h3,by omega,?_⟩
 ·rw [hmap,qcE (qZ hk) he hz hm hdn (by simp [hn]),h2,hxl]
 ·rw [(qdO hdn).2,← (qdO hdn).1]; simp [hn]
end g
end Go.Rx
end
noncomputable section
namespace Go.Rx
section g
variable {P:Program} {ob:Ob} {γ:Hm} {G:Gh} {w:World}
def Ke (P:Program) (ob:Ob) (γ:Hm) (G:Gh) (w:World) (s:Sem Next) (r:AV):Prop:=
 ∃ v G' w',s.run P w=.ok (.value v) w'∧qC ob γ G' w'∧Trans ob γ G w ob γ G' w'∧qx ob γ G' w' r v
theorem Ke.same (H:qC ob γ G w) {s:Sem Next} {r:AV} {v:Value} (h:s.run P w=.ok (.value v) w) (hr:qx ob γ G w r v):Ke P ob γ G w s r:=
 ⟨v,G,w,h,H,Trans.refl H,hr⟩
theorem Ke.of0 {s:Sem Value} {r:AV} (h:Xm P ob γ G w s r):Ke P ob γ G w (do pure (Next.value (← s))) r:=by
 obtain ⟨v,G',w',h1,h2,h3,h4⟩:=h
 exact ⟨v,G',w',by simp [h1],h2,h3,h4⟩
theorem qdd {x:AV} {v:Value} (hs:x.Qz=true) (h:qx ob γ G w x v):∃ cs,qg ob γ G w x cs∧qQ x.isAgg cs v:=by
 rcases qi_ h with ⟨xs,rfl⟩ | rfl | h
 ·simp [AV.Qz] at hs
 ·simp [AV.Qz] at hs
 ·exact h
theorem qhZ {val:Operand→AV} {ρ:Operand→Value} (S:zC ob γ G w val ρ):∀ (l:List Operand),(l.map val).all AV.Qz=true→q9 ob γ G w (l.map val) (l.map ρ)
 | [],_=>rfl
 | x::r,h=>by
  simp only [List.map_cons,List.all_cons,Bool.and_eq_true] at h
  obtain ⟨c,h1,h2⟩:=qdd h.1 (S x)
  simp only [List.map_cons,q9]
  exact ⟨c,_,_,rfl,h1,h2,qhZ S r (by simpa using h.2)⟩
theorem qor:∀ {xs:List AV} {vs:List Value} {i:Nat} {x:AV},q9 ob γ G w xs vs→xs[i]?=some x→∃ v,vs[i]?=some v∧qx ob γ G w x v
 | [],_,i,x,_,h=>by simp at h
 | y::ys,vs,i,x,h,hi=>by
  simp only [q9] at h
  obtain ⟨c,v,r,rfl,h1,h2,h3⟩:=h
  cases i with
  | zero=>simp at hi; subst hi; exact ⟨v,rfl,qba h1 h2⟩
  | succ i=>obtain ⟨v',h4,h5⟩:=qor h3 (by simpa using hi); exact ⟨v',by simpa using h4,h5⟩
theorem qnx {t : TypeId} {f u o : Nat} {x r : AV} {v : Value} (hk : Wu P t f = some (u, o)) (hf : qO P t x = true) (ha : AV.at [f] x = some r) (h : qx ob γ G w x v) :
    ∃ v',(Instr.field t v f).run P w=.ok v' w∧qx ob γ G w r v'∧qq P u=r.size∧AV.za [f] x=some o:=by
 unfold Wu at hk
 split at hk
 ·rename_i fs hks
  simp only [qO,Bool.and_eq_true] at hf
  obtain ⟨cs,hr,ho⟩:=XU hf.2 h
  obtain ⟨xs,d',hx,hfs,hrs⟩:=ql6 hks hf.2 hr
  obtain ⟨gs,hu,rfl⟩:=KF hks
  have hxs:xs[f]?=some r:=by
   rcases hx with rfl | ⟨ys,rfl,rfl⟩
   ·rwa [qfP] at ha
   ·rw [qd0] at ha; simpa using ha
  have hoff:AV.za [f] x=some (AV.zu (xs.take f)):=by
   rcases hx with rfl | ⟨ys,rfl,rfl⟩
   ·simp [AV.za,hxs]
   ·simp only [List.getElem?_map,Option.map_eq_some_iff] at hxs
    obtain ⟨y,hy,rfl⟩:=hxs
    simp [AV.za,hy,← List.map_take,AV.qfv]
  obtain ⟨h1,h2,d2,h3⟩:=qoF _ _ _ _ hfs f u o r hk hxs
  obtain ⟨c,d,e,rfl,h4,h5,_,_⟩:=qM.at hrs hxs
  have hag:x.isAgg=true:=by rcases hx with rfl | ⟨ys,rfl,rfl⟩<;>rfl
  rw [hag] at ho
  simp only [qQ] at ho
  subst ho
  obtain ⟨v',h6,h7,_⟩:=qic h3 h2 h4 (c:=c) (e:=e) w
  have hg:∃ g,gs[f]?=some g∧g.type=u∧g.offset=o:=by
   simp only [List.getElem?_map,Option.map_eq_some_iff,Prod.mk.injEq] at hk
   obtain ⟨g,hg,rfl,rfl⟩:=hk
   exact ⟨g,by simpa using hg,rfl,rfl⟩
  obtain ⟨g,hg,rfl,rfl⟩:=hg
  have ho:g.offset=c.length:=by omega
  refine ⟨v',?_,h7,h2,by rw [hoff]; congr 1; omega⟩
  simp only [Instr.field,Sem.run_bind,run_underlying hu,Result.andThen_ok,hg,asAgg,Sem.run_pure,ho]
  exact h6
 ·simp at hk
theorem qqj {t e : TypeId} {n k : Nat} {kd : IntKind} {x r : AV} {v : Value} (hk : qm P t = some (.arr n e)) (hf : qO P t x = true) (ha : AV.at [k] x = some r) (hkn : k < n) (h : qx ob γ G w x v) :
    ∃ v',(Instr.index t v (.int kd k)).run P w=.ok v' w∧qx ob γ G w r v':=by
 simp only [qO,Bool.and_eq_true] at hf
 obtain ⟨cs,hr,ho⟩:=XU hf.2 h
 have key:∃ xs d,x.isAgg=true∧qM ob γ G w xs cs∧xs[k]?=some r∧∀ y∈xs,qq P e=y.size∧fit P d e y=true:=by
  obtain ⟨d',⟨xs,rfl,hl,hf⟩ | ⟨xs,rfl,hl,hf⟩⟩:=qq4 hk hf.2
  ·refine ⟨xs.map .pv,d',rfl,(YR _ _).2 (by simpa only [qg,qv] using hr),?_,fun y hy=>?_⟩
   ·rw [qd0] at ha; simpa using ha
   ·obtain ⟨z,hz,rfl⟩:=List.mem_map.1 hy; exact hf z hz
  ·exact ⟨xs,d',rfl,by simpa only [qg] using hr,by rwa [qfP] at ha,hf⟩
 obtain ⟨xs,d,hag,hrs,hxs,hall⟩:=key
 rw [hag] at ho
 simp only [qQ] at ho
 subst ho
 have hr0:=hall r (List.mem_of_getElem? hxs)
 obtain ⟨c,d1,e1,rfl,h4,h5,_,_⟩:=qM.at hrs hxs
 have hc:k * qq P e=c.length:=by
  rw [h5,qfF (qq P e) _ (fun z hz=>((hall z (List.mem_of_mem_take hz)).1).symm),List.length_take,Nat.min_eq_left (Nat.le_of_lt (List.getElem?_eq_some_iff.1 hxs).1)]
 obtain ⟨v',h6,h7,_⟩:=qic hr0.2 hr0.1 h4 (c:=c) (e:=e1) w
 obtain ⟨td,hu,_⟩:=Ws hr0.2
 refine ⟨v',?_,h7⟩
 simp only [Instr.index,Sem.run_bind,ZF,Result.andThen_ok,run_underlying (qn9 hk)]
 rw [if_pos (by omega)]
 simp only [Sem.run_bind,YJ w hu,Result.andThen_ok,Int.toNat_natCast,hc]
 exact h6
theorem qed {t e : TypeId} {n k : Nat} {kd : IntKind} {cs : List Value} {c : Value} {td : TypeDesc} (hu : P.underlying t = some (.array n e)) (he : P.underlying e = some td) (hna : qv4 td = false) (hsz : qq P e = 1) (hkn : k < n) (hc : cs[k]? = some c) :
    (Instr.index t (.agg cs.toArray) (.int kd k)).run P w=.ok c w:=by
 simp only [Instr.index,Sem.run_bind,ZF,Result.andThen_ok,run_underlying hu]
 rw [if_pos (by omega)]
 simp only [Sem.run_bind,YJ w he,Result.andThen_ok,Int.toNat_natCast,hsz,part,Ka w he,hna,Bool.false_eq_true,if_false,Nat.mul_one,List.getElem?_toArray,hc,Sem.run_pure]
theorem vn {k:IntKind} {a y:Nat} {code} (h:a≤y):(Instr.sliceBound (.int k a) y code).run P w=.ok a w:=by
 simp only [Instr.sliceBound,Sem.run_bind,ZF,Result.andThen_ok]
 rw [if_pos (by omega)]
 simp
theorem Kg {lo hi : Option Operand} {val : Operand → AV} {ρ : Operand → Value} (S : zC ob γ G w val ρ) {an : Option Ans} {n a b cap : Nat} {ps : List Prop} {f : Bool} (h : bounds an (lo.map val) (hi.map val) n = some ((a, b), ps)) (hp : All ps) (hc : n ≤ cap) :
    (Instr.sliceBounds f n cap (lo.map ρ) (hi.map ρ) none).run P w=.ok (a,b,cap) w∧a≤b∧b≤n:=by
 obtain ⟨h1,h2,h3,h4,h5,h6⟩:=qnD h hp
 refine ⟨?_,h1,h2⟩
 have hlo:∀ x,lo=some x→∃ k,ρ x=.int k a:=fun x hx=>by
  obtain ⟨k,hk⟩:=h3 (val x) (by rw [hx]; rfl)
  have:=S x; rw [hk] at this; exact ⟨k,zB.1 this⟩
 have hhi:∀ x,hi=some x→∃ k,ρ x=.int k b:=fun x hx=>by
  obtain ⟨k,hk⟩:=h5 (val x) (by rw [hx]; rfl)
  have:=S x; rw [hk] at this; exact ⟨k,zB.1 this⟩
 cases lo with
 | none=>
  have ha:a=0:=h4 rfl
  subst ha
  cases hi with
  | none=>
   have hb:b=n:=h6 rfl
   subst hb
   simp [Instr.sliceBounds]
  | some y=>
   obtain ⟨k,hk⟩:=hhi y rfl
   simp [Instr.sliceBounds,hk,vn (P:=P) (w:=w) (Nat.le_trans h2 hc)]
 | some x=>
  obtain ⟨k,hk⟩:=hlo x rfl
  cases hi with
  | none=>
   have hb:b=n:=h6 rfl
   subst hb
   simp [Instr.sliceBounds,hk,vn (P:=P) (w:=w) h1]
  | some y=>
   obtain ⟨j,hj⟩:=hhi y rfl
   simp [Instr.sliceBounds,hk,hj,vn (P:=P) (w:=w) (Nat.le_trans h2 hc),vn (P:=P) (w:=w) h1]
end g
end Go.Rx
end
noncomputable section
namespace Go.Rx
section g
variable {P:Program} {ob:Ob} {γ:Hm} {G:Gh} {w:World}
theorem jt {t e:TypeId} (h:qm P t=some (.slice e)):∃ i,P.info? e=some i:=by
 unfold qm at h
 repeat' split at h
 all_goals simp_all
theorem vO {e:TypeId} (h:∃ i,P.info? e=some i):(sizeOf e).run P w=.ok (qq P e) w:=by
 obtain ⟨i,hi⟩:=h
 simp [sizeOf,typeInfo,hi,qq]
theorem qFd {e:TypeId} (h:qq P e≠0):∃ i,P.info? e=some i:=by
 unfold qq at h
 cases hi:P.info? e with
 | none=>simp [hi] at h
 | some i=>exact ⟨i,rfl⟩
theorem qsT {t e:TypeId} {n:Nat} (h:qm P t=some (.arr n e)):∃ i,P.info? e=some i:=by
 unfold qm at h
 repeat' split at h
 all_goals try (simp at h; done)
 rename_i h1 _ _ _ _ h2
 simp only [Option.some.injEq,TK.arr.injEq] at h
 obtain ⟨rfl,rfl⟩:=h
 exact JQ h2
theorem qW {x:AV} {v:Value} (hs:x.Qz=true) (ha:x.isAgg=false) (h:qx ob γ G w x v):qg ob γ G w x [v]:=by
 obtain ⟨cs,h1,h2⟩:=qdd hs h
 rw [ha] at h2
 cases (qG h2)
 exact h1
theorem qx6 {d:Nat} {t e:TypeId} {x:PV} (hk:qm P t=some (.slice e)) (hf:fit P d t (.pv x)=true):qiq x=qq P e:=by
 cases d with
 | zero=>simp [fit] at hf
 | succ d=>
  unfold fit at hf
  simp only [hk] at hf
  cases x<;>simp only [Bool.and_eq_true,beq_iff_eq] at hf<;>try (simp at hf; done)
  ·exact hf.1
  ·exact hf.1.symm
theorem qv_ {t:TypeId} {f u o:Nat} (hk:Wu P t f=some (u,o)):∃ gs g,P.underlying t=some (.struct gs)∧gs[f]?=some g∧g.type=u∧g.offset=o:=by
 unfold Wu at hk
 split at hk
 ·rename_i fs hks
  obtain ⟨gs,hu,rfl⟩:=KF hks
  simp only [List.getElem?_map,Option.map_eq_some_iff,Prod.mk.injEq] at hk
  obtain ⟨g,hg,rfl,rfl⟩:=hk
  exact ⟨gs,g,hu,by simpa using hg,rfl,rfl⟩
 ·simp at hk
theorem qf7 {t : TypeId} {f u o b off : Nat} (hk : Wu P t f = some (u, o)) (hz : qq P u ≠ 0) :
    (Instr.fieldAt t (.pointer (some ⟨b,off,none⟩)) f).run P w=.ok (.pointer (some ⟨b,off + o,none⟩)) w:=by
 obtain ⟨gs,g,hu,hg,rfl,rfl⟩:=qv_ hk
 simp only [Instr.fieldAt,Sem.run_bind,run_underlying hu,Result.andThen_ok,hg,Instr.sureAddr,Sem.run_pure,fieldPlace,vO (qFd hz),if_neg hz,JO]
theorem KR {t e : TypeId} {n k b off : Nat} {kd : IntKind} (hu : P.underlying t = some (.array n e)) (he : ∃ i, P.info? e = some i) (hkn : k < n) :
    (Instr.indexAt t (.pointer (some ⟨b,off,none⟩)) (.int kd k)).run P w=.ok (.pointer (some ⟨b,off + k * qq P e,none⟩)) w:=by
 simp only [Instr.indexAt,Sem.run_bind,ZF,Result.andThen_ok,run_underlying hu,Instr.sureAddr,Sem.run_pure]
 rw [if_pos (by omega)]
 simp only [Sem.run_bind,vO he,Result.andThen_ok,Int.toNat_natCast,JO,Sem.run_pure]
theorem qjA {t e : TypeId} {n cap k b off : Nat} {kd : IntKind} (hk : qm P t = some (.slice e)) (hkn : k < n) :
    (Instr.indexAt t (.slice (some ⟨b,off,none⟩) n cap) (.int kd k)).run P w=.ok (.pointer (some ⟨b,off + k * qq P e,none⟩)) w:=by
 simp only [Instr.indexAt,Sem.run_bind,ZF,Result.andThen_ok,run_underlying (qZ hk),Sem.run_pure]
 rw [if_pos (by omega)]
 simp only [Sem.run_bind,vO (jt hk),Result.andThen_ok,Int.toNat_natCast,JO,Sem.run_pure]
theorem qFA (bs:List UInt8) (i:Nat):(ByteArray.mk bs.toArray)[i]?=bs[i]?:=by
 by_cases h:i < (ByteArray.mk bs.toArray).size
 ·rw [ByteArray.getElem?_lt' _ _ h]
  have h':i < bs.length:=by simpa [ByteArray.size] using h
  rw [List.getElem?_eq_getElem h']
  rfl
 ·rw [ByteArray.getElem?_ge' _ _ h]
  have h':¬ i < bs.length:=by simpa [ByteArray.size] using h
  rw [List.getElem?_eq_none (by omega)]
theorem qqe (bs:List UInt8) (a b:Nat):(ByteArray.mk bs.toArray).extract a b=⟨((bs.take b).drop a).toArray⟩:=by
 apply ByteArray.ext
 rw [ByteArray.data_extract]
 apply Array.ext'
 simp [List.extract_eq_take_drop,List.drop_take]
theorem qqk (H : qC ob γ G w) {mk : Bool} {an : Option Ans} {val : Operand → AV} {ρ : Operand → Value} (S : zC ob γ G w val ρ) {t f : Nat} {x : Operand} {r : AV} {ps : List Prop}
    (hs:qH P mk an val (.fieldAddr t x f)=some (r,ps)) (hp:All ps):Xm P ob γ G w (Instr.fieldAt t (ρ x) f) r:=by
 simp only [qH] at hs
 have hx:=S x
 split at hs
 ·rename_i u o l path off hk hv
  obtain ⟨hz,hs⟩:=qA hs
  simp only [Bool.not_eq_true',beq_eq_false_iff_ne] at hz
  rw [hv] at hx
  have:=qW rfl rfl hx
  simp only [qg] at this
  obtain ⟨h1,h2⟩:=this
  simp only [List.cons.injEq,and_true] at h1
  rw [qh hs,h1]
  refine .same H (qf7 hk hz) (qY rfl ?_)
  simp only [qg]; exact ⟨trivial,h2⟩
 ·rename_i u o l n path off hk hv
  obtain ⟨hz,hs⟩:=qA hs
  simp only [Bool.not_eq_true',beq_eq_false_iff_ne] at hz
  rw [hv] at hx
  have:=qW rfl rfl hx
  simp only [qg] at this
  obtain ⟨b,h1,h2⟩:=this
  simp only [List.cons.injEq,and_true] at h1
  rw [qh hs,h1]
  refine .same H (qf7 hk hz) (qY rfl ?_)
  simp only [qg]; exact ⟨b,rfl,h2⟩
 ·rename_i u o y hk hv
  obtain ⟨hz,hs⟩:=qA hs
  simp only [Bool.and_eq_true,Bool.not_eq_true',beq_eq_false_iff_ne] at hz
  split at hs
  ·rename_i z hz'
   rw [hv] at hx
   have:=qW rfl rfl hx
   simp only [qg] at this
   obtain ⟨b,off,vs,h1,h2,h3,h4⟩:=this
   simp only [List.cons.injEq,and_true] at h1
   have hag:AV.isAgg (.pv y)=true:=by
    cases y<;>first | rfl | (simp [AV.at] at hz'; done)
   obtain ⟨v',_,_,h5,h6⟩:=qnx (ob:=ob) (γ:=γ) (G:=G) (w:=w) hk hz.2 hz' (qeW (x:=.pv y) hag (by simpa only [qg] using h2))
   have hin:All (AV.inR [f] (.pv y)):=by
    unfold Wu at hk
    split at hk
    ·rename_i hks
     simp only [qO,Bool.and_eq_true] at hz
     obtain ⟨d',⟨xs,hxs,_⟩ | ⟨xs,hxs,_⟩⟩:=qd3 hks hz.2.2
     ·rw [hxs]; simp only [AV.inR]; split<;>trivial
     ·cases hxs
    ·simp at hk
   obtain ⟨c,d,e,rfl,h7,h8⟩:=qaq (ob:=ob) (γ:=γ) [f] (.pv y) (.pv z) o vs hz' h6 hin (by simpa only [qg] using h2)
   rw [qh hs,h1]
   refine .same H (qf7 hk hz.1) (qY rfl ?_)
   simp only [qg] at h8 ⊢
   exact ⟨b,off + o,d,rfl,h8,by rw [← h7]; exact YT h3,by rw [← h7]; exact qmF h4 (by simp)⟩
  ·simp at hs
 ·simp at hs
theorem qpu (H : qC ob γ G w) {mk : Bool} {an : Option Ans} {val : Operand → AV} {ρ : Operand → Value} (S : zC ob γ G w val ρ) {t : Nat} {x i : Operand} {r : AV} {ps : List Prop}
    (hs:qH P mk an val (.indexAddr t x i)=some (r,ps)) (hp:All ps):Xm P ob γ G w (Instr.indexAt t (ρ x) (ρ i)) r:=by
 simp only [qH] at hs
 have hx:=S x
 have hi:=S i
 split at hs
 ·rename_i e y n hk hv hn
  obtain ⟨kd,hi⟩:=J3 hn hi
  obtain ⟨z,p1,p2,h1,h2,hp1,hp2⟩:=qu hs hp
  obtain ⟨hsz,h2⟩:=qA h2
  simp only [beq_iff_eq] at hsz
  rw [hv] at hx
  have hy:=qW rfl (by cases y<;>first | rfl | (obtain ⟨_,h⟩:=qaa h1 hp1; simp [PV.zh] at h)) hx
  simp only [qg] at hy
  obtain ⟨h0,h3⟩:=qaa h1 hp1
  obtain ⟨b,off,cap,ds,h4,h5,h6,h7⟩:=qFt hy h3
  simp only [List.cons.injEq,and_true] at h4
  rw [qh h2,h4,hi,show n=((n.toNat:Nat):Int) by omega]
  refine .same H (qjA hk (qn3 h3)) (qY rfl ?_)
  simp only [qg]
  rw [← hsz]
  exact ⟨b,_,ds,rfl,h5,h6,h7⟩
 ·rename_i e l n m hk hv hn
  obtain ⟨kd,hi⟩:=J3 hn hi
  obtain ⟨k,p1,p2,h1,h2,hp1,hp2⟩:=qu hs hp
  obtain ⟨rfl,hkn⟩:=X1 h1 hp1
  rw [hv] at hx
  have:=qW rfl rfl hx
  simp only [qg] at this
  obtain ⟨a,cap,h3,h4,h5⟩:=this
  simp only [List.cons.injEq,and_true] at h3
  obtain ⟨b,rfl⟩:∃ b,a=some ⟨b,0,none⟩:=by
   rcases h5 with ⟨fz,sz,x,_,_,h1,_⟩ | ⟨xs,b,h1,_⟩
   ·obtain ⟨b,h1,_⟩:=h1 (Nat.ne_of_gt (Nat.lt_of_lt_of_le (Nat.zero_lt_of_lt hkn) h4)); exact ⟨b,h1⟩
   ·exact ⟨b,h1⟩
  rw [qh h2,h3,hi]
  refine .same H (qjA hk hkn) (qY rfl ?_)
  simp only [qg]
  refine ⟨b,by simp,?_⟩
  rcases h5 with ⟨fz,sz,s,h6,h7,h8,h9⟩ | ⟨xs,b',e,h6,h7,h8⟩
  ·refine .inl ⟨fz,sz,s,h6,h7,fun h=>?_⟩
   obtain ⟨b2,e,h8⟩:=h8 (Nat.ne_of_gt (Nat.lt_of_lt_of_le (Nat.zero_lt_of_lt hkn) h4))
   cases e
   exact h8 h
  ·cases e
   exact .inr ⟨xs,h6,h7,by rw [← h8]⟩
 ·rename_i n e l path off m hk hv hn
  obtain ⟨kd,hi⟩:=J3 hn hi
  obtain ⟨k,p1,p2,h1,h2,hp1,hp2⟩:=qu hs hp
  obtain ⟨rfl,hkn⟩:=X1 h1 hp1
  rw [hv] at hx
  have:=qW rfl rfl hx
  simp only [qg] at this
  obtain ⟨h3,h4⟩:=this
  simp only [List.cons.injEq,and_true] at h3
  rw [qh h2,h3,hi]
  refine .same H (KR (qn9 hk) (qsT hk) hkn) (qY rfl ?_)
  simp only [qg]; exact ⟨trivial,h4⟩
 ·rename_i n l path off m hk hv hn
  obtain ⟨kd,hi⟩:=J3 hn hi
  obtain ⟨k,p1,p2,h1,h2,hp1,hp2⟩:=qu hs hp
  obtain ⟨rfl,hkn⟩:=X1 h1 hp1
  rw [hv] at hx
  have:=qW rfl rfl hx
  simp only [qg] at this
  obtain ⟨h3,h4⟩:=this
  simp only [List.cons.injEq,and_true] at h3
  obtain ⟨e,hu,he,hse⟩:=ZB hk
  rw [qh h2,h3,hi]
  refine .same H (KR hu (JQ he) hkn) (qY rfl ?_)
  simp only [qg,hse,Nat.mul_one]; exact ⟨trivial,h4⟩
 ·rename_i n l path off m hk hv hn
  obtain ⟨kd,hi⟩:=J3 hn hi
  obtain ⟨k,p1,p2,h1,h2,hp1,hp2⟩:=qu hs hp
  obtain ⟨rfl,hkn⟩:=X1 h1 hp1
  rw [hv] at hx
  have:=qW rfl rfl hx
  simp only [qg] at this
  obtain ⟨h3,h4⟩:=this
  simp only [List.cons.injEq,and_true] at h3
  obtain ⟨e,hu,he,hse⟩:=qbm hk
  rw [qh h2,h3,hi]
  refine .same H (KR hu (JQ he) hkn) (qY rfl ?_)
  simp only [qg,hse,Nat.mul_one]; exact ⟨trivial,h4⟩
 ·rename_i n m bs j hk hv hn
  obtain ⟨kd,hi⟩:=J3 hn hi
  obtain ⟨hnm,hs⟩:=qA hs
  simp only [beq_iff_eq] at hnm; subst hnm
  obtain ⟨k,p1,p2,h1,h2,hp1,hp2⟩:=qu hs hp
  obtain ⟨rfl,hkn⟩:=X1 h1 hp1
  rw [hv] at hx
  have:=qW rfl rfl hx
  simp only [qg,qv] at this
  obtain ⟨b,off,vs,h3,rfl,h4,h5⟩:=this
  simp only [List.cons.injEq,and_true] at h3
  obtain ⟨e,hu,he,hse⟩:=qbm hk
  rw [qh h2,h3,hi]
  refine .same H (KR hu (JQ he) hkn) (qY rfl ?_)
  simp only [qg,qv,hse,Nat.mul_one,u32]
  refine ⟨b,off + k,_,rfl,rfl,fun j hj=>?_,fun j hj=>?_⟩
  ·simp at hj; subst hj
   rw [Nat.add_zero,h4 k (by simpa using hkn),qoP hkn]; rfl
  ·simp at hj; subst hj
   exact h5 k (by simpa using hkn)
 ·rename_i n m bs j hk hv hn
  obtain ⟨kd,hi⟩:=J3 hn hi
  obtain ⟨hnm,hs⟩:=qA hs
  simp only [beq_iff_eq] at hnm; subst hnm
  obtain ⟨k,p1,p2,h1,h2,hp1,hp2⟩:=qu hs hp
  obtain ⟨rfl,hkn⟩:=X1 h1 hp1
  rw [hv] at hx
  have:=qW rfl rfl hx
  simp only [qg,qv] at this
  obtain ⟨b,off,vs,h3,rfl,h4,h5⟩:=this
  simp only [List.cons.injEq,and_true] at h3
  obtain ⟨e,hu,he,hse⟩:=ZB hk
  rw [qh h2,h3,hi]
  refine .same H (KR hu (JQ he) hkn) (qY rfl ?_)
  simp only [qg,qv,hse,Nat.mul_one,u8]
  refine ⟨b,off + k,_,rfl,rfl,fun j hj=>?_,fun j hj=>?_⟩
  ·simp at hj; subst hj
   rw [Nat.add_zero,h4 k (by simpa using hkn),qiZ hkn]; rfl
  ·simp at hj; subst hj
   exact h5 k (by simpa using hkn)
 ·simp at hs
end g
end Go.Rx
end
noncomputable section
namespace Go.Rx
section g
variable {P:Program} {ob:Ob} {γ:Hm} {G:Gh} {w:World}
theorem qwj (H : qC ob γ G w) {mk : Bool} {an : Option Ans} {val : Operand → AV} {ρ : Operand → Value} (S : zC ob γ G w val ρ) {t : Nat} {x i : Operand} {r : AV} {ps : List Prop}
    (hs:qH P mk an val (.index t x i)=some (r,ps)) (hp:All ps):Xm P ob γ G w (Instr.index t (ρ x) (ρ i)) r:=by
 simp only [qH] at hs
 have hx:=S x
 have hi:=S i
 split at hs
 ·rename_i bs n hk hv hn
  obtain ⟨kd,hi⟩:=J3 hn hi
  obtain ⟨z,h1,rfl⟩:=qcB hs
  obtain ⟨h0,h2⟩:=qaa h1 hp
  rw [hv,Wg] at hx
  simp only [PV.zh,Option.map_eq_some_iff] at h2
  obtain ⟨c,hc,rfl⟩:=h2
  refine .same H (v:=.int .u8 c.toNat) ?_ (by simp only [u8]; exact zB.2 rfl)
  rw [hx,hi]
  simp only [Instr.index,Sem.run_bind,ZF,Result.andThen_ok,run_underlying (Jn hk)]
  rw [if_pos h0,qFA,hc]
  rfl
 ·rename_i n e y m hk hn
  obtain ⟨kd,hi⟩:=J3 hn hi
  obtain ⟨hf,hs⟩:=qA hs
  obtain ⟨k,p1,p2,h1,h2,hp1,hp2⟩:=qu hs hp
  obtain ⟨rfl,hkn⟩:=X1 h1 hp1
  have ha:=QG h2
  rw [hi]
  obtain ⟨v',h3,h4⟩:=qqj (kd:=kd) hk hf ha hkn hx
  exact .same H h3 h4
 ·rename_i n m bs j hk hv hn
  obtain ⟨kd,hi⟩:=J3 hn hi
  obtain ⟨hnm,hs⟩:=qA hs
  simp only [beq_iff_eq] at hnm; subst hnm
  obtain ⟨k,p1,p2,h1,h2,hp1,hp2⟩:=qu hs hp
  obtain ⟨rfl,hkn⟩:=X1 h1 hp1
  obtain ⟨e,hu,he,hse⟩:=ZB hk
  rw [hv] at hx
  obtain ⟨cs,hr,ho⟩:=jU.1 hx
  simp only [qv] at hr
  subst hr
  have ho':=ZZ ho
  rw [qh h2,ho',hi]
  exact .same H (qed hu he rfl hse hkn (qiZ hkn)) (by simp only [u8]; exact zB.2 rfl)
 ·rename_i n m bs j hk hv hn
  obtain ⟨kd,hi⟩:=J3 hn hi
  obtain ⟨hnm,hs⟩:=qA hs
  simp only [beq_iff_eq] at hnm; subst hnm
  obtain ⟨k,p1,p2,h1,h2,hp1,hp2⟩:=qu hs hp
  obtain ⟨rfl,hkn⟩:=X1 h1 hp1
  obtain ⟨e,hu,he,hse⟩:=qbm hk
  rw [hv] at hx
  obtain ⟨cs,hr,ho⟩:=jU.1 hx
  simp only [qv] at hr
  subst hr
  have ho':=ZZ ho
  rw [qh h2,ho',hi]
  exact .same H (qed hu he rfl hse hkn (qoP hkn)) (by simp only [u32]; exact zB.2 rfl)
 ·simp at hs
theorem qwa (H : qC ob γ G w) {mk : Bool} {an : Option Ans} {val : Operand → AV} {ρ : Operand → Value} (S : zC ob γ G w val ρ) {t : Nat} {x : Operand} {lo hi : Option Operand} {r : AV} {ps : List Prop}
    (hs:qH P mk an val (.slice t x lo hi none)=some (r,ps)) (hp:All ps):Xm P ob γ G w (Instr.sliceAt t (ρ x) (lo.map ρ) (hi.map ρ) none) r:=by
 simp only [qH] at hs
 have hx:=S x
 split at hs
 ·rename_i bs hk hv
  obtain ⟨⟨a,b⟩,p1,p2,h1,h2,hp1,hp2⟩:=qu hs hp
  have hb:=Kg (P:=P) (f:=false) S h1 hp1 (Nat.le_refl _)
  rw [hv,Wg] at hx
  rw [qh h2,hx]
  refine .same H (v:=.string ⟨((bs.take b).drop a).toArray⟩) ?_ (Wg.2 rfl)
  simp only [Instr.sliceAt,Sem.run_bind,run_underlying (Jn hk),Result.andThen_ok,Instr.slice,Option.map_none,Option.isSome_none,Bool.false_eq_true,if_false,Sem.run_pure,
   show (ByteArray.mk bs.toArray).size=bs.length from rfl,hb.1,qqe]
 ·rename_i e y hk hv
  obtain ⟨hc,hs⟩:=qA hs
  simp only [Bool.and_eq_true,qO] at hc
  obtain ⟨⟨a,b⟩,p1,p2,h1,h2,hp1,hp2⟩:=qu hs hp
  rw [hv] at hx
  obtain ⟨cs,hr,ho⟩:=jU.1 hx
  have hna:AV.isAgg (.pv y)=false:=by cases y<;>first | rfl | (simp [PV.Zi] at hc)
  rw [hna] at ho
  have hcs:=qG ho
  subst hcs
  obtain ⟨ad,cap,hv2,hcap⟩:∃ ad cap,ρ x=.slice ad y.len cap∧y.len≤cap:=by
   cases y<;>simp only [PV.Zi,Bool.false_eq_true,false_and] at hc
   ·simp only [qv] at hr
    obtain ⟨ad,cap,h,h',_⟩:=hr
    simp only [List.cons.injEq,and_true] at h
    exact ⟨ad,cap,h,h'⟩
   ·simp only [qv] at hr
    obtain ⟨ad,cap,h,h',_⟩:=hr
    simp only [List.cons.injEq,and_true] at h
    exact ⟨ad,cap,h,h'⟩
  have hb:=Kg (P:=P) (f:=true) S h1 hp1 hcap
  rw [hv2] at hr
  have hsub:=qxz hc.1 hr hb.2.1 hb.2.2
  rw [qx6 hk hc.2.2] at hsub
  rw [qh h2,hv2]
  refine .same H ?_ (qY (by cases y<;>first | rfl | (simp [PV.Zi] at hc)) (by simpa only [qg] using hsub))
  simp only [Instr.sliceAt,Sem.run_bind,run_underlying (qZ hk),Result.andThen_ok,Instr.slice,Option.map_none,hb.1,vO (jt hk),Sem.run_pure]
 ·rename_i e hk hv
  obtain ⟨⟨a,b⟩,p1,p2,h1,h2,hp1,hp2⟩:=qu hs hp
  have hb:=Kg (P:=P) (f:=true) S h1 hp1 (Nat.le_refl _)
  have ha:a=0:=by omega
  have hb':b=0:=by omega
  subst ha; subst hb'
  rw [hv,zX] at hx
  rw [qh h2,hx]
  refine .same H (v:=.slice none 0 0) ?_ (zX.2 rfl)
  simp only [Instr.sliceAt,Sem.run_bind,run_underlying (qZ hk),Result.andThen_ok,Instr.slice,Option.map_none,hb.1,vO (jt hk),Sem.run_pure]
  rfl
 ·rename_i n m bs hk hv
  obtain ⟨hc,h9⟩:=qA hs
  simp only [Bool.and_eq_true,beq_iff_eq,Option.isNone_iff_eq_none] at hc
  obtain ⟨⟨rfl,rfl⟩,rfl⟩:=hc
  obtain ⟨e,hu,he,hse⟩:=ZB hk
  rw [hv] at hx
  obtain ⟨c,hr,ho⟩:=hx
  simp only [qg] at hr
  obtain ⟨b,off,vs,rfl,h1,h2,h3⟩:=hr
  have hcs:=qG ho
  simp only [List.cons.injEq,and_true] at hcs
  simp only [qv] at h1
  subst h1
  rw [qh h9]
  rw [show ρ x=.pointer (some ⟨b,off,none⟩) from hcs.symm]
  refine .same H (v:=.slice (some ⟨b,off,none⟩) n n) ?_ (qY rfl ?_)
  ·have hb:(Instr.sliceBounds false n n none none none).run P w=.ok (0,n,n) w:=by simp [Instr.sliceBounds]
   simp only [Instr.sliceAt,Sem.run_bind,run_underlying hu,Result.andThen_ok,Instr.sureAddr,Sem.run_pure,Option.map_none,hb,vO (JQ he),hse]
   split<;>simp [Addr.add]
  ·simp only [qg,qv]
   refine ⟨some ⟨b,off,none⟩,n,by simp,by simp,.inr ⟨b,off,rfl,by simpa using h2,by simpa using h3⟩⟩
 ·simp at hs
theorem qtX (H : qC ob γ G w) {mk : Bool} {an : Option Ans} {val : Operand → AV} {ρ : Operand → Value} (S : zC ob γ G w val ρ) {t : Nat} {x : Operand} {lo : Option Operand} {hi mx : Operand} {r : AV} {ps : List Prop}
    (hs:qH P mk an val (.slice t x lo (some hi) (some mx))=some (r,ps)) (hp:All ps):Xm P ob γ G w (Instr.sliceAt t (ρ x) (lo.map ρ) (some (ρ hi)) (some (ρ mx))) r:=by
 simp only [qH] at hs
 have hx:=S x
 split at hs
 case h_2=>simp at hs
 rename_i e y m hk hv hm
 obtain ⟨hc,hs⟩:=qA hs
 simp only [Bool.and_eq_true,qO] at hc
 obtain ⟨⟨a,b⟩,p1,p2,h1,h2,hp1,hp2⟩:=qu hs hp
 obtain ⟨rfl,hbm,hml⟩:=q6 h2 hp2
 obtain ⟨hab,hbn,hlo,hlo0,hhi,hhi0⟩:=qnD h1 hp1
 rw [hv] at hx
 obtain ⟨cs,hr,ho⟩:=jU.1 hx
 have hna:AV.isAgg (.pv y)=false:=by cases y<;>first | rfl | (simp [PV.Zi] at hc)
 rw [hna] at ho
 have hcs:=qG ho
 subst hcs
 obtain ⟨ad,cap,hv2,hcap⟩:∃ ad cap,ρ x=.slice ad y.len cap∧y.len≤cap:=by
  cases y<;>simp only [PV.Zi,Bool.false_eq_true,false_and] at hc
  ·simp only [qv] at hr
   obtain ⟨ad,cap,h,h',_⟩:=hr
   simp only [List.cons.injEq,and_true] at h
   exact ⟨ad,cap,h,h'⟩
  ·simp only [qv] at hr
   obtain ⟨ad,cap,h,h',_⟩:=hr
   simp only [List.cons.injEq,and_true] at h
   exact ⟨ad,cap,h,h'⟩
 rw [hv2] at hr
 obtain ⟨kh,hh⟩:∃ k,ρ hi=.int k b:=by
  obtain ⟨k,hk⟩:=hhi (val hi) rfl
  have:=S hi; rw [hk] at this; exact ⟨k,zB.1 this⟩
 obtain ⟨km,hmm⟩:=J3 hm (S mx)
 obtain ⟨m',rfl⟩:∃ m':Nat,m=m':=⟨m.toNat,by omega⟩
 have hsub:=quE (m:=m') hc.1 hr hab hbn (by omega)
 rw [qx6 hk hc.2.2] at hsub
 rw [hv2,hh,hmm]
 have hb:(Instr.sliceBounds true y.len cap (lo.map ρ) (some (.int kh b)) (some (.int km m'))).run P w=.ok (a,b,m') w:=by
  have e1:(Instr.sliceBound (.int km m') cap .slice3Acap).run P w=.ok m' w:=vn (by omega)
  have e2:(Instr.sliceBound (.int kh b) m' .slice3B).run P w=.ok b w:=vn (by omega)
  cases lo with
  | none=>
   have ha:a=0:=hlo0 rfl
   subst ha
   simp [Instr.sliceBounds,e1,e2]
  | some z=>
   obtain ⟨k,hk⟩:=hlo (val z) rfl
   have hz:=S z
   rw [hk] at hz
   have hz:=zB.1 hz
   have e3:(Instr.sliceBound (.int k a) b .slice3C).run P w=.ok a w:=vn (by omega)
   simp [Instr.sliceBounds,e1,e2,e3,hz]
 refine .same H ?_ (qY (by cases y<;>first | rfl | (simp [PV.Zi] at hc)) (by simpa only [qg] using hsub))
 simp only [Instr.sliceAt,Sem.run_bind,run_underlying (qZ hk),Result.andThen_ok,Instr.slice,hb,vO (jt hk),Sem.run_pure]
theorem qnH {n:Nat} {bs:List UInt8} (h:n≤bs.length):(jA n bs).toList=bs.take n:=by
 apply List.ext_getElem
 ·simp; omega
 ·intro i h1 h2
  simp only [Vector.length_toList] at h1
  simp [jA,List.getD_eq_getElem?_getD,List.getElem?_eq_getElem (show i < bs.length by omega)]
theorem qs_ (H : qC ob γ G w) {mk : Bool} {an : Option Ans} {val : Operand → AV} {ρ : Operand → Value} (S : zC ob γ G w val ρ) {t : Nat} {x : Operand} {r : AV} {ps : List Prop}
    (hs:qH P mk an val (.sliceToArrayPointer t x)=some (r,ps)) (hp:All ps):Xm P ob γ G w (Instr.arrayAt t (ρ x)) r:=by
 simp only [qH] at hs
 have hx:=S x
 split at hs
 ·rename_i n bs hk hv
  obtain ⟨rfl,h1,h2⟩:=q6 hs hp
  rw [hv] at hx
  have:=qW rfl rfl hx
  simp only [qg,qv] at this
  obtain ⟨ad,cap,h3,h4,h5⟩:=this
  simp only [List.cons.injEq,and_true] at h3
  obtain ⟨e,hu,he,hse⟩:=ZB hk
  rcases h5 with rfl | ⟨b,off,rfl,h6,h7⟩
  ·simp at h1; omega
  ·rw [h3]
   refine .same H (v:=.pointer (some ⟨b,off,none⟩)) ?_ (qY rfl ?_)
   ·simp only [Instr.arrayAt,Sem.run_bind,run_underlying hu,Result.andThen_ok]
    rw [if_neg (by omega)]
    rfl
   ·simp only [qg,qv]
    refine ⟨b,off,_,rfl,rfl,?_,?_⟩
    ·rw [qnH h1]
     intro j hj
     simp at hj
     rw [h6 j (by simp; omega)]
     simp [List.getElem?_take]
     omega
    ·rw [qnH h1]
     intro j hj
     simp at hj
     exact h7 j (by omega)
 ·simp at hs
theorem qcC {t:TypeId} {k:TK} (h:qm P t=some k) (hk:k≠.iface):∃ d,P.underlying t=some d∧∀ ms,d≠.interface ms:=by
 obtain ⟨d,hd⟩:=qDj h
 refine ⟨d,hd,fun ms e=>?_⟩
 subst e
 simp [qm,hd] at h
 exact hk h.symm
theorem qoq (H : qC ob γ G w) {mk : Bool} {an : Option Ans} {val : Operand → AV} {ρ : Operand → Value} (S : zC ob γ G w val ρ) {t xt : Nat} {x : Operand} {ok : Bool} {r : AV} {ps : List Prop}
    (hs:qH P mk an val (.typeAssert x xt t ok)=some (r,ps)) (hp:All ps):Xm P ob γ G w (Instr.typeAssert (ρ x) xt t ok) r:=by
 simp only [qH] at hs
 have hx:=S x
 have hzero:∀ {z:AV},zeroOf P t=some z→∃ zv,(∀ w':World,(zeroValue t).run P w'=.ok zv w')∧q9 ob γ G w [z,.pv (.b false)] [zv,.bool false]:=fun hz=>by
  obtain ⟨zv,cs,h1,h2,h3,_,_⟩:=JM (ob:=ob) (γ:=γ) (G:=G) (w:=w) hz
  refine ⟨zv,h1,?_⟩
  simp only [q9]
  exact ⟨cs,zv,_,rfl,h2,h3,[.bool false],.bool false,[],rfl,by simp [qg,qv],rfl,rfl⟩
 split at hs
 ·simp at hs
 ·rename_i k u y hni hk hv
  obtain ⟨d,hd,hnd⟩:=qcC hk hni
  rw [hv] at hx
  have:=qW rfl rfl hx
  simp only [qg] at this
  obtain ⟨c,v,h1,h2,h3⟩:=this
  simp only [List.cons.injEq,and_true] at h1
  rw [h1]
  split at hs
  ·rename_i he
   simp only [decide_eq_true_eq] at he
   rw [qh hs]
   cases ok with
   | false=>
    refine .same H (v:=v) ?_ (qba h2 h3)
    simp only [Instr.typeAssert,Sem.run_bind,run_underlying hd,Result.andThen_ok]
    cases d<;>first | exact absurd rfl (hnd _) | (simp [he]; done)
   | true=>
    refine .same H (v:=.tuple #[v,.bool true]) ?_ ?_
    ·simp only [Instr.typeAssert,Sem.run_bind,run_underlying hd,Result.andThen_ok]
     cases d<;>first | exact absurd rfl (hnd _) | (simp [he]; done)
    ·exact ⟨[v,.bool true],rfl,by simp only [q9]; exact ⟨c,v,_,rfl,h2,h3,[.bool true],.bool true,[],rfl,by simp [qg,qv],rfl,rfl⟩⟩
  ·rename_i he
   simp only [decide_eq_false_iff_not] at he
   split at hs
   ·rename_i z hz
    obtain ⟨zv,h4,h5⟩:=hzero hz
    rw [qh hs]
    refine .same H (v:=.tuple #[zv,.bool false]) ?_ ⟨_,rfl,h5⟩
    simp only [Instr.typeAssert,Sem.run_bind,run_underlying hd,Result.andThen_ok]
    cases d<;>first | exact absurd rfl (hnd _) | (simp [he,h4]; done)
   ·simp at hs
 ·rename_i k hni hk hv
  obtain ⟨d,hd,hnd⟩:=qcC hk hni
  rw [hv,qlt] at hx
  rw [hx]
  split at hs
  ·rename_i z hz
   obtain ⟨zv,h4,h5⟩:=hzero hz
   rw [qh hs]
   refine .same H (v:=.tuple #[zv,.bool false]) ?_ ⟨_,rfl,h5⟩
   simp only [Instr.typeAssert,Sem.run_bind,run_underlying hd,Result.andThen_ok]
   cases d<;>first | exact absurd rfl (hnd _) | (simp [h4]; done)
  ·simp at hs
 ·simp at hs
theorem qcD (t ty : TypeId) {d : TypeDesc} {v : Value} {n : Int} (hu : P.underlying t = some d) (h : (∃ s, d = .string ∧ v = .string s ∧ n = s.size) ∨ (∃ e a m c, d = .slice e ∧ v = .slice a m c ∧ n = m) ∨ (∃ k e, d = .map k e ∧ v = .map none ∧ n = 0)) :
    (Builtin.len_ #[t] ty #[v]).run P w=.ok (.int .i64 n) w:=by
 rcases h with ⟨s,rfl,rfl,rfl⟩ | ⟨e,a,m,c,rfl,rfl,rfl⟩ | ⟨k,e,rfl,rfl,rfl⟩<;>simp [Builtin.len_,run_underlying hu,goInt]
theorem qyk (H : qC ob γ G w) {mk : Bool} {an : Option Ans} {val : Operand → AV} {ρ : Operand → Value} (S : zC ob γ G w val ρ) {c : Call} {ty : TypeId} {r : AV} {ps : List Prop}
    (hs:qH P mk an val (.call c)=some (r,ps)) (hp:All ps):Ke P ob γ G w (do let d ← resolve ρ c ty; invoke d.target d.args) r:=by
 simp only [qH] at hs
 have hmap:∀ {l:List AV},c.args.toList.map val=l→∃ vs:List Value,c.args.map ρ=vs.toArray∧vs.length=l.length∧∀ (i:Nat) (x:AV) (v:Value),l[i]?=some x→vs[i]?=some v→qx ob γ G w x v:=by
  rintro _ rfl
  refine ⟨c.args.toList.map ρ,by apply Array.ext'; simp,by simp,fun i x v h1 h2=>?_⟩
  simp only [List.getElem?_map,Option.map_eq_some_iff] at h1 h2
  obtain ⟨o,ho,rfl⟩:=h1
  obtain ⟨o',ho',rfl⟩:=h2
  rw [ho] at ho'; cases ho'
  exact S o
 have htypes:∀ {k:TK},c.argTypes.toList.map (qm P)=[some k]→∃ t,c.argTypes=#[t]∧qm P t=some k:=by
  intro k h
  cases hl:c.argTypes.toList with
  | nil=>simp [hl] at h
  | cons t l=>
   cases l with
   | nil=>simp [hl] at h; exact ⟨t,Array.ext' hl,h⟩
   | cons=>simp [hl] at h
 have one:∀ {x:AV},c.args.toList.map val=[x]→∃ v,c.args.map ρ=#[v]∧qx ob γ G w x v:=fun h=>by
  obtain ⟨vs,h1,h2,h3⟩:=hmap h
  obtain ⟨v,rfl⟩:=List.length_eq_one_iff.1 h2
  exact ⟨v,h1,h3 0 _ v rfl rfl⟩
 have two:∀ {x y:AV},c.args.toList.map val=[x,y]→∃ v u,c.args.map ρ=#[v,u]∧qx ob γ G w x v∧qx ob γ G w y u:=fun h=>by
  obtain ⟨vs,h1,h2,h3⟩:=hmap h
  obtain ⟨v,u,rfl⟩:∃ v u,vs=[v,u]:=by
   match vs,h2 with
   | [v,u],_=>exact ⟨v,u,rfl⟩
  exact ⟨v,u,h1,h3 0 _ v rfl rfl,h3 1 _ u rfl rfl⟩
 split at hs
 ·rename_i hc
  have fin:∀ {t:TypeId} {v:Value} {n:Nat},c.argTypes=#[t]→c.args.map ρ=#[v]→(∀ ty,(Builtin.len_ #[t] ty #[v]).run P w=.ok (.int .i64 n) w)→Ke P ob γ G w (do let d ← resolve ρ c ty; invoke d.target d.args) (.pv (.i .i64 n)):=fun h1 h2 h3=>by
   refine .same H (v:=.int .i64 _) ?_ (zB.2 rfl)
   simp only [resolve,hc,Sem.run_bind,Sem.run_pure,Result.andThen_ok,invoke,builtin,h1,h2,h3]
  split at hs
  ·rename_i ht ha
   obtain ⟨t,h1,h2⟩:=htypes ht
   obtain ⟨v,h3,h4⟩:=one ha
   rw [qh hs]
   rw [Wg] at h4; subst h4
   exact fin h1 h3 fun ty=>qcD t ty (Jn h2) (.inl ⟨_,rfl,rfl,rfl⟩)
  ·rename_i ht ha
   obtain ⟨t,h1,h2⟩:=htypes ht
   obtain ⟨v,h3,h4⟩:=one ha
   rw [qh hs]
   have:=qW rfl rfl h4
   simp only [qg,qv] at this
   obtain ⟨a,cap,h5,_⟩:=this
   simp only [List.cons.injEq,and_true] at h5
   subst h5
   exact fin h1 h3 fun ty=>qcD t ty (qZ h2) (.inr (.inl ⟨_,_,_,_,rfl,rfl,rfl⟩))
  ·rename_i ht ha
   obtain ⟨t,h1,h2⟩:=htypes ht
   obtain ⟨v,h3,h4⟩:=one ha
   rw [qh hs]
   have:=qW rfl rfl h4
   simp only [qg,qv] at this
   obtain ⟨a,cap,h5,_⟩:=this
   simp only [List.cons.injEq,and_true] at h5
   subst h5
   exact fin h1 h3 fun ty=>qcD t ty (qZ h2) (.inr (.inl ⟨_,_,_,_,rfl,rfl,rfl⟩))
  ·rename_i ht ha
   obtain ⟨t,h1,h2⟩:=htypes ht
   obtain ⟨v,h3,h4⟩:=one ha
   rw [qh hs]
   have:=qW rfl rfl h4
   simp only [qg] at this
   obtain ⟨b,cap,h5,_⟩:=this
   simp only [List.cons.injEq,and_true] at h5
   subst h5
   exact fin h1 h3 fun ty=>qcD t ty (qZ h2) (.inr (.inl ⟨_,_,_,_,rfl,rfl,rfl⟩))
  ·rename_i ht ha
   obtain ⟨t,h1,h2⟩:=htypes ht
   obtain ⟨v,h3,h4⟩:=one ha
   rw [qh hs]
   rw [zX] at h4; subst h4
   exact fin (n:=0) h1 h3 fun ty=>qcD t ty (qZ h2) (.inr (.inl ⟨_,_,_,_,rfl,rfl,rfl⟩))
  ·rename_i ht ha
   obtain ⟨t,h1,h2⟩:=htypes ht
   obtain ⟨v,h3,h4⟩:=one ha
   rw [qh hs]
   rw [qfD] at h4; subst h4
   exact fin (n:=0) h1 h3 fun ty=>qcD t ty (Jd h2) (.inr (.inr ⟨_,_,rfl,rfl,rfl⟩))
  ·rename_i ht ha
   obtain ⟨t,h1,h2⟩:=htypes ht
   obtain ⟨v,h3,h4⟩:=one ha
   rw [qh hs]
   simp only [qx,qg,AV.isAgg] at h4
   obtain ⟨cs,⟨a,cap,rfl,_⟩,ho⟩:=h4
   cases (qG ho)
   exact fin (n:=0) h1 h3 fun ty=>qcD t ty (qZ h2) (.inr (.inl ⟨_,_,_,_,rfl,rfl,rfl⟩))
  ·simp at hs
 ·rename_i hc
  split at hs
  ·rename_i a b ha
   obtain ⟨v,u,h1,h2,h3⟩:=two ha
   rw [zB] at h2 h3; subst h2; subst h3
   rw [qh hs]
   refine .same H (v:=.int .i64 (if b < a then b else a)) ?_ (zB.2 rfl)
   simp [resolve,hc,invoke,builtin,h1,Builtin.min_,Builtin.min2]
  ·simp at hs
 ·rename_i hc
  split at hs
  ·rename_i a b ha
   obtain ⟨v,u,h1,h2,h3⟩:=two ha
   rw [zB] at h2 h3; subst h2; subst h3
   rw [qh hs]
   refine .same H (v:=.int .i64 (if a < b then b else a)) ?_ (zB.2 rfl)
   simp [resolve,hc,invoke,builtin,h1,Builtin.max_,Builtin.max2]
  ·simp at hs
 ·simp at hs
theorem quK (H : qC ob γ G w) {mk : Bool} {an : Option Ans} {val : Operand → AV} {ρ : Operand → Value} (S : zC ob γ G w val ρ) {o : Oper} {r : AV} {ps : List Prop}
    (hs:qH P mk an val o.op=some (r,ps)) (hp:All ps):Ke P ob γ G w (execOp ρ o) r:=by
 cases ho:o.op<;>rw [ho] at hs
 case move x=>
  simp only [qH] at hs
  rw [qh hs]
  exact .same H (by simp only [execOp,ho]; rfl) (S x)
 case assign x=>
  simp only [qH] at hs
  rw [qh hs]
  exact .same H (by simp only [execOp,ho]; rfl) (S x)
 case pick c a b=>
  simp only [qH] at hs
  have hc:=S c
  split at hs
  ·rename_i x hx
   rw [hx,Wn] at hc
   have hr:r=if x then val a else val b:=by
    clear hc hx
    generalize val a=y at hs ⊢
    generalize val b=z at hs ⊢
    split at hs
    ·rw [qh hs]
     cases x<;>rfl
    ·rw [qh hs]
     cases x<;>rfl
   refine .same H (v:=if x then ρ a else ρ b) ?_ ?_
   ·simp only [execOp,ho,hc,asBool,Sem.run_bind,Sem.run_pure,Result.andThen_ok]
   ·rw [hr]; cases x
    ·exact S b
    ·exact S a
  ·simp at hs
 case binOp op t x y _=>
  simp only [qH] at hs
  obtain ⟨v,h1,h2⟩:=qqh hs hp (S x) (S y) x y
  simp only [execOp,ho]
  exact .of0 (.same H h1 h2)
 case unOp op _ x=>
  simp only [qH] at hs
  obtain ⟨v,h1,h2⟩:=qzV (P:=P) hs hp (S x)
  simp only [execOp,ho]
  exact .of0 (.same H h1 h2)
 case convert s d x=>
  simp only [qH] at hs
  simp only [execOp,ho]
  exact .of0 (qxl H hs hp (S x))
 case nilCheck x=>
  simp only [qH] at hs
  have hx:=S x
  split at hs
  ·rename_i h
   rw [h] at hx
   rw [qh hs]
   have:=qW rfl rfl hx
   simp only [qg] at this
   simp only [List.cons.injEq,and_true] at this
   exact .same H (v:=ρ x) (by simp only [execOp,ho,this.1]; rfl) hx
  ·rename_i h
   rw [h] at hx
   rw [qh hs]
   have:=qW rfl rfl hx
   simp only [qg] at this
   obtain ⟨b,h1,_⟩:=this
   simp only [List.cons.injEq,and_true] at h1
   exact .same H (v:=ρ x) (by simp only [execOp,ho,h1]; rfl) hx
  ·rename_i h
   rw [h] at hx
   rw [qh hs]
   have:=qW rfl rfl hx
   simp only [qg] at this
   obtain ⟨b,off,vs,h1,_⟩:=this
   simp only [List.cons.injEq,and_true] at h1
   exact .same H (v:=ρ x) (by simp only [execOp,ho,h1]; rfl) hx
  ·rename_i h
   rw [h] at hx
   rw [qh hs]
   have:=qW rfl rfl hx
   simp only [qg] at this
   obtain ⟨va,vc,h1,_⟩:=this
   simp only [List.cons.injEq,and_true] at h1
   exact .same H (v:=ρ x) (by simp only [execOp,ho,h1]; rfl) hx
  ·simp at hs
 case makeInterface t x=>
  simp only [qH] at hs
  split at hs
  ·simp at hs
  ·rename_i k hni hk
   obtain ⟨hf,hs⟩:=qA hs
   obtain ⟨d,hd,hnd⟩:=qcC hk hni
   rw [qh hs]
   simp only [qO,Bool.and_eq_true] at hf
   obtain ⟨cs,h1,h2⟩:=XU hf.2 (S x)
   simp only [execOp,ho]
   refine .of0 (.same H (v:=.iface t (ρ x)) ?_ (qY rfl ?_))
   ·simp only [Instr.makeInterface,Sem.run_bind,run_underlying hd,Result.andThen_ok]
    cases d<;>first | exact absurd rfl (hnd _) | rfl
   ·simp only [qg]; exact ⟨cs,ρ x,rfl,h1,h2⟩
  ·simp at hs
 case makeFunc f a b=>
  simp only [qH] at hs
  split at hs
  ·rename_i k
   obtain ⟨hf,hs⟩:=qA hs
   simp only [Bool.and_eq_true] at hf
   rw [qh hs]
   simp only [execOp,ho]
   refine .of0 (.same H (v:=.func (.func k) (a.map ρ) (b.map ρ)) rfl (qY rfl ?_))
   simp only [qg]
   exact ⟨a.toList.map ρ,b.toList.map ρ,by congr 2<;>(apply Array.ext'; simp),qhZ S _ hf.1,qhZ S _ hf.2⟩
  ·simp at hs
 case extract x i=>
  simp only [qH] at hs
  have hx:=S x
  split at hs
  ·rename_i xs h
   rw [h] at hx
   obtain ⟨vs,h1,h2⟩:=hx
   obtain ⟨v,h3,h4⟩:=qor h2 (QG hs)
   simp only [execOp,ho]
   exact .of0 (.same H (v:=v) (by simp [Instr.extract,h1,h3]) h4)
  ·simp at hs
 case build t parts=>
  simp only [qH] at hs
  split at hs
  ·rename_i z hz
   obtain ⟨hag,hs⟩:=qA hs
   obtain ⟨v,h1,h2⟩:=qw0 S hz hag hs hp
   simp only [execOp,ho]
   exact .of0 (.same H h1 h2)
  ·simp at hs
 case buildSlice t n parts=>
  simp only [qH] at hs
  split at hs
  ·rename_i e hk
   obtain ⟨hc,hs⟩:=qA hs
   simp only [Bool.and_eq_true,decide_eq_true_eq,beq_iff_eq] at hc
   obtain ⟨⟨⟨⟨_,hd⟩,hn⟩,hm⟩,hz⟩:=hc
   split at hs
   ·rename_i xs hx
    obtain ⟨s,hs',rfl⟩:=qcB hs
    obtain ⟨cs,h1,h2,h3,h4,h5⟩:=qhY S hk hd hn hm hz hx hs' hp
    simp only [execOp,ho]
    obtain ⟨G',g1,g2,g3,g4⟩:=qoH (sp:=[]) H (w':={ w with heap:=w.heap.push (.cells cs.toArray e) }) (cs:=cs) (el:=e) (fr:=(0,0)) (by simp)
    refine .of0 ⟨_,G',_,h1,g1,g2,qY (by cases s<;>first | rfl | (simp [PV.Zi] at h3)) ?_⟩
    simp only [qg]
    exact qri (qV.mono g2.keeps h2) g3 g4 (Nat.le_refl _)
   ·simp at hs
  ·simp at hs
 case field t x f=>
  simp only [qH] at hs
  split at hs
  ·rename_i q hk
   obtain ⟨u,off⟩:=q
   obtain ⟨hf,hs⟩:=qA hs
   obtain ⟨v,h1,h2,_⟩:=qnx hk hf (QG hs) (S x)
   simp only [execOp,ho]
   exact .of0 (.same H h1 h2)
  ·simp at hs
 case index t x i=>simp only [execOp,ho]; exact .of0 (qwj H S hs hp)
 case fieldAddr t x f=>simp only [execOp,ho]; exact .of0 (qqk H S hs hp)
 case indexAddr t x i=>simp only [execOp,ho]; exact .of0 (qpu H S hs hp)
 case slice t x lo hi mx=>
  cases mx with
  | some m=>
   cases hi with
   | none=>simp [qH] at hs
   | some hi=>simp only [execOp,ho]; exact .of0 (qtX H S hs hp)
  | none=>simp only [execOp,ho]; exact .of0 (qwa H S hs hp)
 case sliceToArrayPointer t x=>simp only [execOp,ho]; exact .of0 (qs_ H S hs hp)
 case typeAssert x xt t ok=>simp only [execOp,ho]; exact .of0 (qoq H S hs hp)
 case call c=>simp only [execOp,ho]; exact qyk H S hs hp
 all_goals (simp [qH] at hs)
end g
end Go.Rx
end
noncomputable section
namespace Go.Rx
section g
variable {P:Program} {ob:Ob} {γ:Hm} {G:Gh} {w:World}
theorem Jz {b:Nat} {cs:List Value} (h:Y_ w b cs):jJ w b 0 cs:=by
 obtain ⟨el,fr,h,_⟩:=h
 intro j hj
 simp only [World.cell?,h,Option.isSome_none,Bool.false_eq_true,if_false,Nat.zero_add,List.getElem?_toArray]
theorem qV.len {sz:Nat} {s:PV} {cs:List Value} (h:qV G w sz s cs):cs.length=s.len * sz:=by
 cases s<;>simp only [qV] at h
 ·obtain ⟨rfl,h1,h2⟩:=h
  rw [qU.len _ _ h1,PV.YN _ _ h2]; rfl
 ·obtain ⟨rfl,rfl⟩:=h
  simp [PV.len]
theorem qrT {γ:Hm} {l sz:Nat} {cs sp:List Value} (hcap:(γ l).2 * sz=(cs++sp).length) (h:(γ l).2≠0→Y_ w (γ l).1 (cs++sp)):jJ w (γ l).1 0 (cs++sp):=by
 by_cases e:(γ l).2=0
 ·rw [e,Nat.zero_mul] at hcap
  intro j hj
  omega
 ·exact Jz (h e)
theorem qCK {l sz:Nat} {fz:Bool} {x:PV} (h:qR ob γ G w l (.vec fz sz x)) (hl:0 < x.len):live γ l (.vec fz sz x):=by
 simp only [qR] at h
 obtain ⟨h0,cs,sp,hr,hcap,_⟩:=h
 intro e
 rw [e,Nat.zero_mul,List.length_append,qV.len hr] at hcap
 have:=Nat.mul_pos hl h0
 omega
theorem qi6 {t : TypeId} {x : AV} {cs : List Value} {b off : Nat} (hf : qO P t x = true) (hr : qg ob γ G w x cs) (hc : jJ w b off cs) :
    ∃ v,(loadVar t ⟨b,off,none⟩).run P w=.ok v w∧qx ob γ G w x v:=by
 simp only [qO,Bool.and_eq_true,beq_iff_eq] at hf
 obtain ⟨td,hu,ha⟩:=Ws hf.2
 have hl:=qg.len x cs hr
 cases hag:x.isAgg with
 | true=>
  rw [hag] at ha
  refine ⟨.agg cs.toArray,?_,qeW hag hr⟩
  have:=run_loadCells_list (P:=P) w ⟨b,off,none⟩ cs (fun j v hv=>by
   rw [JO,hc j (List.getElem?_eq_some_iff.1 hv).1]; exact hv)
  simp only [loadVar,Sem.run_bind,Ka w hu,Result.andThen_ok,ha,if_true,YJ w hu,hf.1,← hl,this,Sem.run_pure]
 | false=>
  rw [hag] at ha
  obtain ⟨v,rfl,_⟩:=zE hag hr
  refine ⟨v,?_,qY hag hr⟩
  have h0:=hc 0 (by simp)
  simp only [Nat.add_zero,List.getElem?_cons_zero] at h0
  simp only [loadVar,Sem.run_bind,Ka w hu,Result.andThen_ok,ha,Bool.false_eq_true,if_false,run_load,h0]
theorem qlK {t : TypeId} {path : List Nat} {off : Nat} {c r : AV} {cs : List Value} {b : Nat} {ps : List Prop} (hs : partAt P t path off c = some (r, ps)) (hp : All ps) (hr : qg ob γ G w c cs) (hc : jJ w b 0 cs) :
    ∃ v,(loadVar t ⟨b,off,none⟩).run P w=.ok v w∧qx ob γ G w r v:=by
 unfold partAt at hs
 split at hs
 ·rename_i o x h1 h2
  obtain ⟨h3,hs⟩:=qA hs
  simp only [Bool.and_eq_true,beq_iff_eq] at h3
  simp only [Option.some.injEq,Prod.mk.injEq] at hs
  obtain ⟨rfl,rfl⟩:=hs
  obtain ⟨c1,d,e,rfl,h4,h5⟩:=qaq _ _ _ _ _ h2 h1 hp hr
  refine qi6 h3.2 h5 ?_
  rw [← h3.1,← h4]
  have:=YT hc
  rwa [Nat.zero_add] at this
 ·simp at hs
theorem qpM {sz k:Nat} {x y:PV} {cs:List Value} (h:qV G w sz x cs) (hy:x.zh k=some y):∃ c d e,cs=c++d++e∧c.length=k * sz∧qv G w y d∧y.size=sz:=by
 cases x<;>simp only [qV] at h
 ·obtain ⟨rfl,h1,h2⟩:=h
  simp only [PV.zh] at hy
  obtain ⟨c,d,e,rfl,h3,h4,_⟩:=qU.at h1 hy
  refine ⟨c,d,e,rfl,?_,h3,h2 _ (List.mem_of_getElem? hy)⟩
  rw [h4,PV.YN _ _ (fun z hz=>h2 z (List.mem_of_mem_take hz)),List.length_take,Nat.min_eq_left (Nat.le_of_lt (List.getElem?_eq_some_iff.1 hy).1)]
 ·obtain ⟨rfl,rfl⟩:=h
  simp only [PV.zh,Option.map_eq_some_iff] at hy
  obtain ⟨c,hc,rfl⟩:=hy
  refine ⟨_,_,_,qbF (k:=k) (u:=cu8 c) (by simp [hc]),?_,by simp [qv,u8,cu8],by simp [u8,PV.size]⟩
  have:=(List.getElem?_eq_some_iff.1 hc).1
  simp; omega
theorem qwh {an : Option Ans} {sz off b : Nat} {x z : PV} {path : List Nat} {cs sp : List Value} {ps : List Prop} (hs : qtO an sz x path off = some (z, ps)) (hp : All ps) (hr : qV G w sz x cs) (hc : jJ w b 0 (cs ++ sp)) :
    ∃ d,qv G w z d∧jJ w b off d:=by
 unfold qtO at hs
 split at hs
 ·rename_i k r
  obtain ⟨y,p1,p2,h1,h2,hp1,hp2⟩:=qu hs hp
  obtain ⟨h0,hy⟩:=qaa h1 hp1
  split at h2
  ·rename_i o z' h3 h4
   simp only [Option.some.injEq,Prod.mk.injEq] at h2
   obtain ⟨rfl,rfl⟩:=h2
   have hp2':off=k * sz + o∧All (AV.inR r (.pv y)):=by
    cases hq:AV.inR r (.pv y) with
    | nil=>rw [hq] at hp2; exact ⟨hp2,trivial⟩
    | cons q qs=>rw [hq] at hp2; exact hp2
   obtain ⟨c,d,e,rfl,h5,h6,h7⟩:=qpM hr (by simpa using hy)
   obtain ⟨c',d',e',rfl,h8,h9⟩:=qaq (ob:=[]) (γ:=fun _=>(0,0)) r (.pv y) (.pv z') o d h4 h3 hp2'.2 (by simpa only [qg] using h6)
   refine ⟨d',by simpa only [qg] using h9,?_⟩
   have:=YT (c:=c++c') (d:=d') (e:=e'++e++sp) (b:=b) (off:=0) (w:=w) (by simpa using hc)
   rw [hp2'.1,← h5,← h8]
   simpa using this
  ·simp at h2
 ·simp at hs
theorem quV (H : qC ob γ G w) {an : Option Ans} {val : Operand → AV} {ρ : Operand → Value} (S : zC ob γ G w val ρ) {h : Ob} (hh : ∀ l o, get h l = some o → get ob l = some o) {t : TypeId} {a : Operand} {r : AV} {ps : List Prop}
    (hs:zR P an val h (.load t a)=some (r,ps)) (hp:All ps):∃ v,(Instr.loadAt t (ρ a)).run P w=.ok v w∧qx ob γ G w r v:=by
 simp only [zR] at hs
 have ha:=S a
 have fin:∀ {ad:Addr} {v:Value},ρ a=.pointer (some ad)→(loadVar t ad).run P w=.ok v w→(Instr.loadAt t (ρ a)).run P w=.ok v w:=fun e h=>by
  rw [e]; simp only [Instr.loadAt,Instr.sureAddr,Sem.run_bind,Sem.run_pure,Result.andThen_ok,h]
 split at hs
 ·rename_i x hx
  rw [hx] at ha
  obtain ⟨hf,hs⟩:=qA hs
  rw [qh hs]
  have:=qW rfl rfl ha
  simp only [qg] at this
  obtain ⟨b,off,vs,h1,h2,h3,_⟩:=this
  simp only [List.cons.injEq,and_true] at h1
  obtain ⟨v,h4,h5⟩:=qi6 (ob:=ob) (γ:=γ) (x:=.pv x) hf (by simpa only [qg] using h2) h3
  exact ⟨v,fin h1 h4,h5⟩
 ·rename_i l path off hx
  rw [hx] at ha
  split at hs
  ·rename_i ro c hg
   have h0:=H.obj _ _ (hh _ _ hg)
   simp only [qR] at h0
   obtain ⟨cs,h1,h2,_⟩:=h0
   have:=qW rfl rfl ha
   simp only [qg] at this
   obtain ⟨h3,_⟩:=this
   simp only [List.cons.injEq,and_true] at h3
   obtain ⟨v,h4,h5⟩:=qlK hs hp h2 (Jz h1)
   exact ⟨v,fin h3 h4,h5⟩
  ·simp at hs
 ·rename_i l n path off hx
  rw [hx] at ha
  have:=qW rfl rfl ha
  simp only [qg] at this
  obtain ⟨b,h3,h4⟩:=this
  simp only [List.cons.injEq,and_true] at h3
  split at hs
  ·rename_i fz sz x hg
   have hg':=hh _ _ hg
   have h0:=H.obj _ _ hg'
   simp only [qR] at h0
   obtain ⟨hsz,cs,sp,h2,hcap,h1⟩:=h0
   have h1:=qrT hcap fun e=>(h1 e).1
   obtain ⟨z,p1,p2,e1,e2,hp1,hp2⟩:=qu hs hp
   obtain ⟨hf,e2⟩:=qA e2
   obtain ⟨rfl,hn⟩:=q6 e2 hp2
   obtain ⟨d,h5,h6⟩:=qwh e1 hp1 h2 h1
   obtain ⟨v,h7,h8⟩:=qi6 (ob:=ob) (γ:=γ) (x:=.pv z) hf (by simpa only [qg] using h5) h6
   have hb:b=(γ l).1:=by
    rcases h4 with ⟨fz',sz',x',g1,g2,g3⟩ | ⟨xs,g1,_⟩
    ·rw [hg'] at g1; cases g1; exact g3 hn
    ·rw [hg'] at g1; cases g1
   subst hb
   exact ⟨v,fin h3 h7,h8⟩
  ·rename_i xs hg
   have hg':=hh _ _ hg
   have h0:=H.obj _ _ hg'
   simp only [qR] at h0
   obtain ⟨cs,h1,h2,h5,_⟩:=h0
   split at hs
   ·rename_i k
    split at hs
    ·rename_i x hx'
     obtain ⟨hc,hs⟩:=qA hs
     simp only [Bool.and_eq_true,beq_iff_eq] at hc
     rw [qh hs]
     obtain ⟨c,d,e,rfl,h6,h7,_⟩:=qM.at h2 hx'
     have hcl:c.length=off:=by
      rw [h7,qfF 1 _ (fun z hz=>h5 z (List.mem_of_mem_take hz)),List.length_take,Nat.min_eq_left (Nat.le_of_lt (List.getElem?_eq_some_iff.1 hx').1)]
      omega
     have hcd:=YT (Jz h1)
     rw [Nat.zero_add,hcl] at hcd
     obtain ⟨v,h8,h9⟩:=qi6 hc.1.2 h6 hcd
     have hb:b=(γ l).1:=by
      rcases h4 with ⟨fz',sz',x',g1,g2,g3⟩ | ⟨xs',g1,_,g3⟩
      ·rw [hg'] at g1; cases g1
      ·exact g3
     subst hb
     exact ⟨v,fin h3 h8,h9⟩
    ·simp at hs
   ·simp at hs
  ·simp at hs
 ·simp at hs
end g
end Go.Rx
end
noncomputable section
namespace Go.Rx
section g
variable {P:Program} {ob:Ob} {γ:Hm} {G:Gh} {w:World}
mutual
theorem qix:∀ (x y:PV),PV.alike x y=true→x.size=y.size
 | .b _,y,h=>by cases y<;>simp [PV.alike,PV.size] at h ⊢
 | .i _ _,y,h=>by cases y<;>simp [PV.alike,PV.size] at h ⊢
 | .s _,y,h=>by cases y<;>simp [PV.alike,PV.size] at h ⊢
 | .ba n _,y,h=>by cases y<;>simp [PV.alike,PV.size] at h ⊢; exact h
 | .wa n _,y,h=>by cases y<;>simp [PV.alike,PV.size] at h ⊢; exact h
 | .ag xs,y,h=>by
  cases y<;>simp only [PV.alike,Bool.false_eq_true] at h
  simp only [PV.size]; exact qnf xs _ h
 | .l _ _,y,h=>by cases y<;>simp [PV.alike] at h
 | .bl _,y,h=>by cases y<;>simp [PV.alike] at h
theorem qnf:∀ (xs ys:List PV),PV.vi xs ys=true→PV.zu xs=PV.zu ys
 | [],ys,h=>by cases ys<;>simp [PV.vi,PV.zu] at h ⊢
 | x::xs,ys,h=>by
  cases ys with
  | nil=>simp [PV.vi] at h
  | cons y ys=>
   simp only [PV.vi] at h
   split at h
   ·rename_i h1; simp only [PV.zu]; rw [qix x y h1,qnf xs ys h]
   ·simp at h
end
theorem qpp:∀ (xs ys:List PV),PV.vi xs ys=true→xs.length=ys.length
 | [],ys,h=>by cases ys<;>simp [PV.vi] at h ⊢
 | x::xs,ys,h=>by
  cases ys with
  | nil=>simp [PV.vi] at h
  | cons y ys=>
   simp only [PV.vi] at h
   split at h
   ·simp [qpp xs ys h]
   ·simp at h
theorem qpW:∀ (xs ys:List PV),PV.vi xs ys=true→∀ y∈ys,∃ x∈xs,PV.alike x y=true
 | [],ys,h=>by cases ys<;>simp [PV.vi] at h ⊢
 | x::xs,ys,h=>by
  cases ys with
  | nil=>simp
  | cons y ys=>
   simp only [PV.vi] at h
   split at h
   ·rename_i h1
    intro z hz
    rcases List.mem_cons.1 hz with rfl | hz
    ·exact ⟨x,by simp,h1⟩
    ·obtain ⟨u,hu,h2⟩:=qpW xs ys h z hz; exact ⟨u,by simp [hu],h2⟩
   ·simp at h
theorem qBx (d : Nat) : (∀ (t : TypeId) (x y : PV), PV.alike x y = true → fit P d t (.pv x) = true → fit P d t (.pv y) = true) ∧
    (∀ (fs:List (TypeId×Nat)) (xs ys:List PV) (n:Nat),PV.vi xs ys=true→fits P d fs (xs.map AV.pv) n=true→fits P d fs (ys.map AV.pv) n=true):=by
 induction d with
 | zero=>exact ⟨fun _ _ _ _ h=>by simp [fit] at h,fun _ _ _ _ _ h=>by simp [fits] at h⟩
 | succ d ih=>
  constructor
  ·intro t x y ha hf
   unfold fit at hf ⊢
   cases hk:qm P t with
   | none=>simp [hk] at hf
   | some k=>
    simp only [hk] at hf ⊢
    cases x<;>cases y<;>simp only [PV.alike,Bool.false_eq_true] at ha
    ·cases k<;>simp at hf ⊢
    ·simp only [decide_eq_true_eq] at ha; subst ha
     cases k<;>simp at hf ⊢; exact hf
    ·cases k<;>simp at hf ⊢
    ·have:=Nat.eq_of_beq_eq_true ha; subst this
     cases k<;>simp at hf ⊢; exact hf
    ·have:=Nat.eq_of_beq_eq_true ha; subst this
     cases k<;>simp at hf ⊢; exact hf
    ·rename_i xs ys
     cases k<;>simp only [Bool.false_eq_true] at hf
     ·rename_i n e
      simp only [Bool.and_eq_true,List.all_eq_true,beq_iff_eq] at hf ⊢
      refine ⟨by rw [← qpp xs ys ha]; exact hf.1,fun y hy=>?_⟩
      obtain ⟨x,hx,h1⟩:=qpW xs ys ha y hy
      have h2:=hf.2 x hx
      refine ⟨?_,ih.1 e x y h1 h2.2⟩
      rw [h2.1]; exact qix x y h1
     ·exact ih.2 _ xs ys 0 ha hf
  ·intro fs xs ys n ha hf
   cases xs with
   | nil=>
    cases ys with
    | nil=>exact hf
    | cons=>simp [PV.vi] at ha
   | cons x xs=>
    cases ys with
    | nil=>simp [PV.vi] at ha
    | cons y ys=>
     simp only [PV.vi] at ha
     split at ha
     ·rename_i h1
      cases fs with
      | nil=>simp [fits] at hf
      | cons f fs=>
       simp only [List.map_cons,fits,Bool.and_eq_true,beq_iff_eq] at hf ⊢
       have hs:=qix x y h1
       simp only [AV.size] at hf ⊢
       rw [← hs]
       exact ⟨⟨⟨hf.1.1.1,hf.1.1.2⟩,ih.1 _ x y h1 hf.1.2⟩,ih.2 fs xs ys _ ha hf.2⟩
     ·simp at ha
mutual
theorem qu3:∀ (x y:PV) (cs ds:List Value),PV.alike x y=true→PV.eqb x y=some true→qv G w x cs→qv G w y ds→cs=ds
 | .b _,y,cs,ds,ha,he,h1,h2=>by
  cases y<;>simp only [PV.alike,Bool.false_eq_true] at ha
  simp only [PV.eqb,Option.some.injEq,decide_eq_true_eq] at he; subst he
  simp only [qv] at h1 h2; rw [h1,h2]
 | .i _ _,y,cs,ds,ha,he,h1,h2=>by
  cases y<;>simp only [PV.alike,Bool.false_eq_true] at ha
  simp only [decide_eq_true_eq] at ha; subst ha
  simp only [PV.eqb,decide_true,Option.some.injEq,decide_eq_true_eq] at he; subst he
  simp only [qv] at h1 h2; rw [h1,h2]
 | .s _,y,cs,ds,ha,he,h1,h2=>by
  cases y<;>simp only [PV.alike,Bool.false_eq_true] at ha
  simp only [PV.eqb,Option.some.injEq,decide_eq_true_eq] at he; subst he
  simp only [qv] at h1 h2; rw [h1,h2]
 | .ba n _,y,cs,ds,ha,he,h1,h2=>by
  cases y<;>simp only [PV.alike,Bool.false_eq_true] at ha
  simp only [PV.eqb,Option.some.injEq,decide_eq_true_eq] at he
  simp only [qv] at h1 h2; rw [h1,h2,he]
 | .wa n _,y,cs,ds,ha,he,h1,h2=>by
  cases y<;>simp only [PV.alike,Bool.false_eq_true] at ha
  simp only [PV.eqb,Option.some.injEq,decide_eq_true_eq] at he
  simp only [qv] at h1 h2; rw [h1,h2,he]
 | .ag xs,y,cs,ds,ha,he,h1,h2=>by
  cases y<;>simp only [PV.alike,Bool.false_eq_true] at ha
  simp only [PV.eqb] at he
  simp only [qv] at h1 h2
  exact qsB xs _ cs ds ha he h1 h2
 | .l _ _,y,cs,ds,ha,he,h1,h2=>by cases y<;>simp [PV.alike] at ha
 | .bl _,y,cs,ds,ha,he,h1,h2=>by cases y<;>simp [PV.alike] at ha
theorem qsB:∀ (xs ys:List PV) (cs ds:List Value),PV.vi xs ys=true→PV.qfX xs ys=some true→qU G w xs cs→qU G w ys ds→cs=ds
 | [],ys,cs,ds,ha,he,h1,h2=>by
  cases ys with
  | nil=>simp only [qU] at h1 h2; rw [h1,h2]
  | cons=>simp [PV.vi] at ha
 | x::xs,ys,cs,ds,ha,he,h1,h2=>by
  cases ys with
  | nil=>simp [PV.vi] at ha
  | cons y ys=>
   simp only [PV.vi] at ha
   split at ha
   ·rename_i h3
    simp only [PV.qfX] at he
    split at he
    ·rename_i c e h4 h5
     simp only [Option.some.injEq,Bool.and_eq_true] at he
     obtain ⟨rfl,rfl⟩:=he
     obtain ⟨c1,d1,rfl,g1,g2⟩:=h1
     obtain ⟨c2,d2,rfl,g3,g4⟩:=h2
     rw [qu3 x y c1 c2 h3 h4 g1 g3,qsB xs ys d1 d2 ha h5 g2 g4]
    ·simp at he
   ·simp at ha
end
def qGo (P:Program) (d:Nat):Prop:=
 ∀ (G:Gh) (w w':World) (em:Bool) (t:TypeId) (x:PV) (cs:List Value) (v:Value) (f n:Nat),eqT P d t=true→fit P f t (.pv x)=true→qv G w x cs→qQ (AV.isAgg (.pv x)) cs v→d + 1≤n→(Instr.checkKey em n t v).run P w'=.ok () w'
theorem qvC:∀ (d:Nat) (ts:List TypeId),qmq P d ts=true→∀ t∈ts,∃ e,e < d∧eqT P e t=true
 | 0,ts,h=>by simp [qmq] at h
 | d + 1,[],h=>by simp
 | d + 1,t::ts,h=>by
  simp only [qmq,Bool.and_eq_true] at h
  intro u hu
  rcases List.mem_cons.1 hu with rfl | hu
  ·exact ⟨d,by omega,h.1⟩
  ·obtain ⟨e,h1,h2⟩:=qvC d ts h.2 u hu; exact ⟨e,by omega,h2⟩
theorem qcG {em:Bool} {n:Nat} {t:TypeId} {v:Value} {d:TypeDesc} (hu:P.underlying t=some d) (h:d=.bool∨(∃ k,d=.int k)∨d=.string):(Instr.checkKey em (n + 1) t v).run P w=.ok () w:=by
 rcases h with rfl | ⟨k,rfl⟩ | rfl<;>simp [Instr.checkKey,run_underlying hu]
theorem qA9 (d:Nat):qGo P d:=by
 induction d using Nat.strongRecOn with
 | _ d ih=>
 intro G w w' em t x cs v f n ht hx hr ho hn
 obtain ⟨n,rfl⟩:∃ m,n=m + 1:=⟨n - 1,by omega⟩
 cases d with
 | zero=>simp [eqT] at ht
 | succ d=>
 unfold eqT at ht
 split at ht
 ·rename_i hk; exact qcG (qlf hk) (.inl rfl)
 ·rename_i k hk; exact qcG (qcl hk) (.inr (.inl ⟨_,rfl⟩))
 ·rename_i hk; exact qcG (Jn hk) (.inr (.inr rfl))
 ·rename_i m hk
  obtain ⟨b,hb⟩:=qr_ hk hx
  cases hb
  simp only [qv] at hr
  subst hr
  have hv:=ZZ ho
  subst hv
  obtain ⟨e,h1,h2,h3⟩:=ZB hk
  obtain ⟨n',rfl⟩:∃ m,n=m + 1:=⟨n - 1,by omega⟩
  rw [Instr.checkKey]
  simp only [Sem.run_bind,run_underlying h1,Result.andThen_ok]
  simp only [Std.Legacy.Range.forIn_eq_forIn_range',Std.Legacy.Range.size,Nat.sub_zero,Nat.add_one_sub_one,Nat.div_one]
  have each:∀ i∈List.range' 0 m,i < m:=fun i hi=>by simp [List.mem_range'] at hi; omega
  generalize List.range' 0 m=is at each
  induction is with
  | nil=>simp
  | cons i is ih2=>
   have hp:(part e (b.toList.map cu8).toArray (i * qq P e)).run P w'=.ok (cu8 (b.toList.getD i 0)) w':=by
    simp only [part,Sem.run_bind,Ka w' h2,Result.andThen_ok,qv4,Bool.false_eq_true,if_false,h3,Nat.mul_one,List.getElem?_toArray,qiZ (each i (by simp)),Sem.run_pure]
   simp only [List.forIn_cons,Sem.run_bind,YJ w' h2,Result.andThen_ok,hp,qcG (em:=em) (n:=n') (w:=w') (v:=cu8 (b.toList.getD i 0)) h2 (.inr (.inl ⟨_,rfl⟩)),Sem.run_pure]
   exact ih2 (fun y hy=>each y (by simp [hy]))
 ·rename_i fs hk
  simp only [Bool.and_eq_true,Bool.not_eq_true',List.all_eq_true,bne_iff_ne] at ht
  obtain ⟨⟨_,h2⟩,h3⟩:=ht
  obtain ⟨gs,h4,rfl⟩:=KF hk
  rw [qbg h4] at h2
  obtain ⟨xs,d',hxs,hfs,hrs⟩:=ql6 (ob:=[]) (γ:=fun _=>(0,0)) (G:=G) (w:=w) hk hx (by simpa only [qg] using hr)
  have hag:AV.isAgg (.pv x)=true:=by rcases hxs with h | ⟨ys,h,_⟩<;>(cases h; try rfl)
  rw [hag] at ho
  have hv:=ZZ ho
  subst hv
  rw [Instr.checkKey]
  simp only [Sem.run_bind,run_underlying h4,Result.andThen_ok]
  rw [← Array.forIn_toList]
  have hall:=qvC d _ h3
  have hpv:∀ y∈xs,∃ z,y=AV.pv z:=by
   rcases hxs with h | ⟨ys,h,rfl⟩
   ·cases h
   ·intro y hy; obtain ⟨z,_,rfl⟩:=List.mem_map.1 hy; exact ⟨z,rfl⟩
  have key : ∀ (L : List Field) (ys : List AV) (m : Nat) (c0 c1 : List Value), fits P m (L.map fun f => (f.type, f.offset)) ys c0.length = true → (∀ f ∈ L, f.name ≠ "_") → (∀ f ∈ L, ∃ e, e < d ∧ eqT P e f.type = true) → (∀ y ∈ ys, ∃ z, y = AV.pv z) →
      qM [] (fun _=>(0,0)) G w ys c1→(forIn L PUnit.unit fun f (_:PUnit)=>do
       if f.name ≠ "_" then Instr.checkKey em n f.type (← part f.type (c0++c1).toArray f.offset)
       pure (ForInStep.yield PUnit.unit):Sem PUnit).run P w'=.ok PUnit.unit w':=by
   intro L
   induction L with
   | nil=>intro ys m c0 c1 _ _ _ _ _; simp
   | cons f L ih2=>
    intro ys m c0 c1 hf hn2 he hz hr2
    cases m with
    | zero=>simp [fits] at hf
    | succ m=>
    cases ys with
    | nil=>simp [fits] at hf
    | cons y ys=>
     simp only [List.map_cons,fits,Bool.and_eq_true,beq_iff_eq] at hf
     simp only [qM] at hr2
     obtain ⟨c,e,rfl,g1,g2⟩:=hr2
     obtain ⟨z,rfl⟩:=hz _ (List.mem_cons_self ..)
     obtain ⟨v',p1,p2⟩:=qgY (P:=P) (c:=c0) (e:=e) hf.1.2 hf.1.1.2 (by simpa only [qg] using g1) w'
     obtain ⟨e1,he1,he2⟩:=he f (by simp)
     have p3:=ih e1 (by omega) G w w' em f.type z c v' m n he2 hf.1.2 (by simpa only [qg] using g1) p2 (by omega)
     have hn3:=hn2 f (by simp)
     rw [List.append_assoc] at p1
     rw [← hf.1.1.1] at p1
     simp only [List.forIn_cons,Sem.run_bind,hn3,ne_eq,not_false_eq_true,if_true,Result.andThen_ok,p1,p3,Sem.run_pure]
     have:=ih2 ys m (c0++c) e (by simpa [qg.len _ _ g1] using hf.2) (fun y hy=>hn2 y (by simp [hy])) (fun y hy=>he y (by simp [hy])) (fun y hy=>hz y (by simp [hy])) g2
     rw [List.append_assoc] at this
     exact this
  have:=key gs.toList xs d' [] cs hfs h2 (fun f hf=>by
   obtain ⟨e,h5,h6⟩:=hall f.type (List.mem_map.2 ⟨(f.type,f.offset),List.mem_map.2 ⟨f,hf,rfl⟩,rfl⟩)
   exact ⟨e,h5,h6⟩) hpv hrs
  rw [List.nil_append] at this
  exact congrArg (fun r=>r.andThen fun _ w=>Result.ok () w) this
 ·simp at ht
end g
end Go.Rx
end
noncomputable section
namespace Go.Rx
section g
variable {P:Program} {ob:Ob} {γ:Hm} {G:Gh} {w:World}
theorem qiQ {k:PV}:∀ {es:zT} {r:Option (AV×Nat)},Zp k es=some r→∃ i,QB k es=some i∧r=i.bind fun i=>(es[i]?).map fun e=>e.2
 | [],r,h=>by simp [Zp] at h; exact ⟨none,rfl,by simp [← h]⟩
 | (j,x,n)::es,r,h=>by
  simp only [Zp] at h
  split at h
  ·rename_i hk; simp only [Option.some.injEq] at h; exact ⟨some 0,by simp [QB,hk],by simp [← h]⟩
  ·rename_i hk
   obtain ⟨i,h1,h2⟩:=qiQ h
   refine ⟨i.map (· + 1),by simp [QB,hk,h1],?_⟩
   rw [h2]; cases i<;>simp
  ·simp at h
theorem qr0 {k:PV}:∀ {es:zT} {i:Nat},QB k es=some (some i)→∃ j x n,es[i]?=some (j,x,n)∧X4 k j=some true
 | [],i,h=>by simp [QB] at h
 | (j,x,n)::es,i,h=>by
  simp only [QB] at h
  split at h
  ·rename_i hk; simp only [Option.some.injEq] at h; subst h; exact ⟨j,x,n,rfl,hk⟩
  ·rename_i hk
   split at h
   ·rename_i i' hi
    simp only [Option.some.injEq] at h
    cases i' with
    | none=>simp at h
    | some i'=>
     simp only [Option.map_some,Option.some.injEq] at h
     subst h
     obtain ⟨j',x',n',h1,h2⟩:=qr0 hi
     exact ⟨j',x',n',by simpa using h1,h2⟩
   ·simp at h
  ·simp at h
theorem qk0 {k : PV} {x : AV} {c : Nat} : ∀ {es : zT} {c' : Nat} {es' : zT}, Wr k x c es = some (c', es') →
    (QB k es=some none∧c'=c + 1∧es'=es++[(k,x,c)])∨(∃ i j y n,QB k es=some (some i)∧es[i]?=some (j,y,n)∧X4 k j=some true∧c'=c∧es'=es.set i (k,x,n))
 | [],c',es',h=>by simp [Wr] at h; exact .inl ⟨rfl,h.1.symm,by simp [h.2]⟩
 | (j,y,n)::es,c',es',h=>by
  simp only [Wr] at h
  split at h
  ·rename_i hk
   simp only [Option.some.injEq,Prod.mk.injEq] at h
   exact .inr ⟨0,j,y,n,by simp [QB,hk],rfl,hk,h.1.symm,by simp [h.2]⟩
  ·rename_i hk
   split at h
   ·rename_i c1 es1 h1
    simp only [Option.some.injEq,Prod.mk.injEq] at h
    obtain ⟨rfl,rfl⟩:=h
    rcases qk0 h1 with ⟨h2,h3,h4⟩ | ⟨i,j',y',n',h2,h3,h4,h5,h6⟩
    ·exact .inl ⟨by simp [QB,hk,h2],h3,by simp [h4]⟩
    ·exact .inr ⟨i + 1,j',y',n',by simp [QB,hk,h2],by simpa using h3,h4,h5,by simp [h6]⟩
   ·simp at h
  ·simp at h
theorem qsH {k:PV}:∀ {es es':zT},YC k es=some es'→(QB k es=some none∧es'=es)∨(∃ i,QB k es=some (some i)∧i < es.length∧es'=es.eraseIdx i)
 | [],es',h=>by simp [YC] at h; exact .inl ⟨rfl,by simp [h]⟩
 | (j,y,n)::es,es',h=>by
  simp only [YC] at h
  split at h
  ·rename_i hk
   simp only [Option.some.injEq] at h
   exact .inr ⟨0,by simp [QB,hk],by simp,by simp [h]⟩
  ·rename_i hk
   split at h
   ·rename_i es1 h1
    simp only [Option.some.injEq] at h
    subst h
    rcases qsH h1 with ⟨h2,h3⟩ | ⟨i,h2,h3,h4⟩
    ·exact .inl ⟨by simp [QB,hk,h2],by simp [h3]⟩
    ·exact .inr ⟨i + 1,by simp [QB,hk,h2],by simp; omega,by simp [h4]⟩
   ·simp at h
  ·simp at h
theorem qt2 {b:Int} {x:AV}:∀ {es es':zT},qbf b x es=some es'→∃ (i:Nat) (j:PV) (y:AV) (n:Nat),es[i]?=some (j,y,n)∧(n:Int)=b∧es'=es.set i (j,x,n)∧∀ (i':Nat) (e:PV×AV×Nat),i' < i→es[i']?=some e→(e.2.2:Int)≠b
 | [],es',h=>by simp [qbf] at h
 | (j,y,n)::es,es',h=>by
  simp only [qbf] at h
  split at h
  ·rename_i hk
   simp only [decide_eq_true_eq] at hk
   simp only [Option.some.injEq] at h
   exact ⟨0,j,y,n,rfl,hk,by simp [h],fun i' e h=>by omega⟩
  ·rename_i hk
   simp only [decide_eq_false_iff_not] at hk
   split at h
   ·rename_i es1 h1
    simp only [Option.some.injEq] at h
    subst h
    obtain ⟨i,j',y',n',h2,h3,h4,h5⟩:=qt2 h1
    refine ⟨i + 1,j',y',n',by simpa using h2,h3,by simp [h4],fun i' e hi' he=>?_⟩
    cases i' with
    | zero=>simp at he; subst he; exact hk
    | succ i'=>exact h5 i' e (by omega) (by simpa using he)
   ·simp at h
theorem qK.len:∀ {es:zT} {l:List MapEntry},qK ob γ G w es l→es.length=l.length
 | [],l,h=>by simp only [qK] at h; subst h; rfl
 | (k,x,n)::es,l,h=>by
  simp only [qK] at h
  obtain ⟨e,t,rfl,_,_,_,h⟩:=h
  simp [qK.len h]
theorem qK.at:∀ {es:zT} {l:List MapEntry} {i:Nat} {k:PV} {x:AV} {n:Nat},qK ob γ G w es l→es[i]?=some (k,x,n)→∃ e,l[i]?=some e∧qx ob γ G w (.pv k) e.key∧(qx ob γ G w x e.val∧x.Xo=true)∧e.born=n
 | [],l,i,k,x,n,_,h=>by simp at h
 | (k',x',n')::es,l,i,k,x,n,h,hi=>by
  simp only [qK] at h
  obtain ⟨e,t,rfl,h1,h2,h3,h4⟩:=h
  cases i with
  | zero=>simp at hi; obtain ⟨rfl,rfl,rfl⟩:=hi; exact ⟨e,rfl,h1,h2,h3⟩
  | succ i=>obtain ⟨e',h5,h6⟩:=qK.at h4 (by simpa using hi); exact ⟨e',by simpa using h5,h6⟩
theorem qK.set:∀ {es:zT} {l:List MapEntry} {i:Nat} {k:PV} {x:AV} {n:Nat} {e:MapEntry},qK ob γ G w es l→qx ob γ G w (.pv k) e.key→(qx ob γ G w x e.val∧x.Xo=true)→e.born=n→qK ob γ G w (es.set i (k,x,n)) (l.set i e)
 | [],l,i,k,x,n,e,h,_,_,_=>by simp only [qK] at h; subst h; simp [qK]
 | (k',x',n')::es,l,i,k,x,n,e,h,g1,g2,g3=>by
  simp only [qK] at h
  obtain ⟨e',t,rfl,h1,h2,h3,h4⟩:=h
  cases i with
  | zero=>simp only [List.set_cons_zero,qK]; exact ⟨e,t,rfl,g1,g2,g3,h4⟩
  | succ i=>simp only [List.set_cons_succ,qK]; exact ⟨e',_,rfl,h1,h2,h3,qK.set h4 g1 g2 g3⟩
theorem qK.push:∀ {es:zT} {l:List MapEntry} {k:PV} {x:AV} {n:Nat} {e:MapEntry},qK ob γ G w es l→qx ob γ G w (.pv k) e.key→(qx ob γ G w x e.val∧x.Xo=true)→e.born=n→qK ob γ G w (es++[(k,x,n)]) (l++[e])
 | [],l,k,x,n,e,h,g1,g2,g3=>by simp only [qK] at h; subst h; simp only [List.nil_append,qK]; exact ⟨e,[],rfl,g1,g2,g3,rfl⟩
 | (k',x',n')::es,l,k,x,n,e,h,g1,g2,g3=>by
  simp only [qK] at h
  obtain ⟨e',t,rfl,h1,h2,h3,h4⟩:=h
  simp only [List.cons_append,qK]; exact ⟨e',_,rfl,h1,h2,h3,qK.push h4 g1 g2 g3⟩
theorem qK.erase:∀ {es:zT} {l:List MapEntry} {i:Nat},qK ob γ G w es l→qK ob γ G w (es.eraseIdx i) (l.eraseIdx i)
 | [],l,i,h=>by simp only [qK] at h; subst h; simp [qK]
 | (k',x',n')::es,l,i,h=>by
  simp only [qK] at h
  obtain ⟨e',t,rfl,h1,h2,h3,h4⟩:=h
  cases i with
  | zero=>simpa using h4
  | succ i=>simp only [List.eraseIdx_cons_succ,qK]; exact ⟨e',_,rfl,h1,h2,h3,qK.erase h4⟩
theorem qAY {kt:TypeId} {k j:PV} {b:Bool} (hf:fit P 30 kt (.pv k)=true) (h:X4 k j=some b):fit P 30 kt (.pv j)=true∧PV.alike k j=true∧PV.eqb k j=some b:=by
 unfold X4 at h
 split at h
 ·rename_i ha; exact ⟨(qBx 30).1 kt k j ha hf,ha,h⟩
 ·simp at h
theorem qsx {kt:TypeId} {k j:PV} {b:Bool} {vk vj:Value} (ht:eqT P 30 kt=true) (hf:fit P 30 kt (.pv k)=true) (h:X4 k j=some b) (hk:qx ob γ G w (.pv k) vk) (hj:qx ob γ G w (.pv j) vj):(Op.equal kt vk vj).run P w=.ok b w:=by
 obtain ⟨h1,_,h2⟩:=qAY hf h
 obtain ⟨cs,hr,ho⟩:=jU.1 hk
 obtain ⟨ds,hr',ho'⟩:=jU.1 hj
 exact (qBw (P:=P) 30).1 G w w kt k j b cs ds vk vj 30 30 10000 ht hf h1 h2 hr hr' ho ho' (by omega)
theorem qFR (x y:List UInt8):((ByteArray.mk x.toArray) == (ByteArray.mk y.toArray))=decide (x=y):=by
 change (x.toArray == y.toArray)=decide (x=y)
 rw [Bool.eq_iff_iff]; simp
theorem qyc {d:TypeDesc} {k j:PV} {b:Bool} {vk vj:Value} (h:X4 k j=some b) (hk:qx ob γ G w (.pv k) vk) (hj:qx ob γ G w (.pv j) vj):Instr.sameNow d vk vj=some b∨Instr.sameNow d vk vj=none:=by
 unfold X4 at h
 split at h
 ·rename_i ha
  obtain ⟨cs,hr,ho⟩:=jU.1 hk
  obtain ⟨ds,hr',ho'⟩:=jU.1 hj
  cases k<;>cases j<;>simp only [PV.alike,Bool.false_eq_true] at ha<;>simp only [qv] at hr hr'<;>simp only [AV.isAgg,qQ] at ho ho'
  ·rw [hr] at ho; rw [hr'] at ho'; cases ho; cases ho'
   simp only [PV.eqb] at h
   cases d<;>first | (right; rfl) | (left; simp only [Instr.sameNow]; rw [← h]; congr 1)
  ·rw [hr] at ho; rw [hr'] at ho'; cases ho; cases ho'
   simp only [decide_eq_true_eq] at ha; subst ha
   simp only [PV.eqb,decide_true] at h
   cases d<;>first | (right; rfl) | (left; simp only [Instr.sameNow,if_true]; rw [← h]; congr 1)
  ·rw [hr] at ho; rw [hr'] at ho'; cases ho; cases ho'
   simp only [PV.eqb] at h
   cases d<;>first | (right; rfl) | (left; simp only [Instr.sameNow]; rw [← h]; congr 1; exact qFR _ _)
  all_goals (subst ho; subst ho'; right; cases d<;>rfl)
 ·simp at h
def hit (l:List MapEntry) (o:Nat) (r:Option Nat):Option (Nat×Value):=r.bind fun i=>(l[i]?).map fun e=>(o + i,e.val)
theorem qpJ {d : TypeDesc} {k : PV} {vk : Value} (hk : qx ob γ G w (.pv k) vk) : ∀ {es : zT} {l : List MapEntry} {r : Option Nat} (o : Nat), qK ob γ G w es l → QB k es = some r →
    Instr.findNow d vk l o=some (hit l o r)∨Instr.findNow d vk l o=none
 | [],l,r,o,h,hr=>by simp only [qK] at h; subst h; simp [QB] at hr; subst hr; exact .inl rfl
 | (j,x,n)::es,l,r,o,h,hr=>by
  simp only [qK] at h
  obtain ⟨e,t,rfl,h1,h2,h3,h4⟩:=h
  simp only [QB] at hr
  split at hr
  ·rename_i hq
   simp only [Option.some.injEq] at hr; subst hr
   simp only [Instr.findNow]
   rcases qyc (d:=d) hq hk h1 with h5 | h5<;>rw [h5]
   ·exact .inl rfl
   ·exact .inr rfl
  ·rename_i hq
   split at hr
   ·rename_i i hi
    simp only [Option.some.injEq] at hr; subst hr
    simp only [Instr.findNow]
    rcases qyc (d:=d) hq hk h1 with h5 | h5<;>rw [h5]
    ·rcases qpJ (d:=d) hk (o + 1) h4 hi with h6 | h6
     ·left; simp only [h6]
      cases i with
      | none=>rfl
      | some i=>simp only [hit,Option.bind_some,Option.map_some,List.getElem?_cons_succ]; cases t[i]?<;>simp; omega
     ·exact .inr h6
    ·exact .inr rfl
   ·simp at hr
  ·simp at hr
theorem qjF {kt : TypeId} {k : PV} {vk : Value} (ht : eqT P 30 kt = true) (hf : fit P 30 kt (.pv k) = true) (hk : qx ob γ G w (.pv k) vk) : ∀ {es : zT} {l : List MapEntry} {r : Option Nat} (o : Nat), qK ob γ G w es l → QB k es = some r →
    (Instr.findAsking kt vk l o).run P w=.ok (hit l o r) w
 | [],l,r,o,h,hr=>by simp only [qK] at h; subst h; simp [QB] at hr; subst hr; rfl
 | (j,x,n)::es,l,r,o,h,hr=>by
  simp only [qK] at h
  obtain ⟨e,t,rfl,h1,h2,h3,h4⟩:=h
  simp only [QB] at hr
  split at hr
  ·rename_i hq
   simp only [Option.some.injEq] at hr; subst hr
   simp [Instr.findAsking,qsx ht hf hq hk h1,hit]
  ·rename_i hq
   split at hr
   ·rename_i i hi
    simp only [Option.some.injEq] at hr; subst hr
    have:=qjF ht hf hk (o + 1) h4 hi
    simp only [Instr.findAsking,Sem.run_bind,qsx ht hf hq hk h1,Result.andThen_ok,Bool.false_eq_true,if_false,this]
    congr 1
    cases i with
    | none=>rfl
    | some i=>simp only [hit,Option.bind_some,Option.map_some,List.getElem?_cons_succ]; cases t[i]?<;>simp; omega
   ·simp at hr
  ·simp at hr
theorem Wb {kt : TypeId} {k : PV} {vk : Value} (ht : eqT P 30 kt = true) (hf : fit P 30 kt (.pv k) = true) (hk : qx ob γ G w (.pv k) vk) {es : zT} {l : List MapEntry} {r : Option Nat} (h : qK ob γ G w es l) (hr : QB k es = some r) :
    (Instr.findKey kt vk l).run P w=.ok (hit l 0 r) w:=by
 obtain ⟨td,hu,_⟩:=Ws hf
 simp only [Instr.findKey,Sem.run_bind,run_underlying hu,Result.andThen_ok]
 rcases qpJ (d:=td) hk 0 h hr with h1 | h1<;>simp only [h1]
 ·rfl
 ·exact qjF ht hf hk 0 h hr
theorem VM {kt:TypeId} {k:PV} {vk:Value} (ht:eqT P 30 kt=true) (hf:fit P 30 kt (.pv k)=true) (hk:qx ob γ G w (.pv k) vk) (em:Bool):(Instr.checkKey em 10000 kt vk).run P w=.ok () w:=by
 obtain ⟨cs,hr,ho⟩:=jU.1 hk
 exact qA9 30 G w w em kt k cs vk 30 10000 ht hf hr ho (by omega)
theorem Jx {r:Nat} {es:Array MapEntry} {clock:Nat} (hb:w.heap[r]?=some (.map es clock)):(getObj r).run P w=.ok (.map es clock) w:=by simp [getObj,Sem.run,hb]
theorem X5 {r:Nat} {es:Array MapEntry} {clock:Nat} (o:Obj) (hb:w.heap[r]?=some (.map es clock)):(setObj r o).run P w=.ok () { w with heap:=w.heap.setIfInBounds r o }:=by simp [setObj,Sem.run,hb]
theorem qrc (H : qC ob γ G w) {an : Option Ans} {val : Operand → AV} {ρ : Operand → Value} (S : zC ob γ G w val ρ) {h : Ob} (hh : ∀ l o, get h l = some o → get ob l = some o) {t : TypeId} {m k : Operand} {ok : Bool} {r : AV} {ps : List Prop}
    (hs:zR P an val h (.lookup t m k ok)=some (r,ps)) (hp:All ps):∃ v,(Instr.lookup t (ρ m) (ρ k) ok).run P w=.ok v w∧qx ob γ G w r v:=by
 simp only [zR] at hs
 split at hs
 ·rename_i kt e l kk h1 h2 h3
  split at hs
  ·rename_i c es hg
   obtain ⟨hc,hs⟩:=qA hs
   simp only [Bool.and_eq_true,qO] at hc
   obtain ⟨fr,p1,p2,e1,e2,hp1,hp2⟩:=qu hs hp
   have hfind:Zp kk es=some fr:=by
    unfold qdV at e1
    split at e1
    ·obtain ⟨rfl,h⟩:=q6 e1 hp1; exact h
    ·exact QG e1
   obtain ⟨i,hi,rfl⟩:=qiQ hfind
   have hk:=S k
   rw [h3] at hk
   have hm:=S m
   rw [h2] at hm
   have:=qW rfl rfl hm
   simp only [qg] at this
   obtain ⟨h4,_⟩:=this
   simp only [List.cons.injEq,and_true] at h4
   have h0:=H.obj _ _ (hh _ _ hg)
   simp only [qR] at h0
   obtain ⟨ents,hb,hents,_⟩:=h0
   have run : ∀ {v : Value} {ok' : Bool}, (match hit ents.toList 0 i with | some (_, v) => (pure (v, true) : Sem (Value × Bool)) | none => do pure (← zeroValue e, false)).run P w = .ok (v, ok') w →
       (Instr.lookup t (ρ m) (ρ k) ok).run P w=.ok (if ok then .tuple #[v,.bool ok'] else v) w:=fun {v ok'} hrun=>by
    rw [h4]
    simp only [Instr.lookup,Sem.run_bind,run_underlying (Jd h1),Result.andThen_ok,Jx hb,Sem.run_pure,pure_bind,VM hc.2 hc.1.2 hk,Wb hc.2 hc.1.2 hk hents hi]
    generalize hit ents.toList 0 i=q at hrun ⊢
    cases q with
    | none=>
     simp only [Sem.run_bind,Sem.run_pure] at hrun ⊢
     cases hz:(zeroValue e).run P w with
     | ok a w1=>rw [hz] at hrun; cases hrun; rfl
     | halt a w1=>rw [hz] at hrun; cases hrun
    | some q=>simp only [Sem.run_pure,Result.andThen_ok] at hrun ⊢; cases hrun; rfl
   cases i with
   | none=>
    simp only [Option.bind_none] at e2
    obtain ⟨z,p3,p4,e3,e4,_,_⟩:=qu e2 hp2
    obtain ⟨zv,cs,hz1,hz2,hz3,_,_⟩:=JM (ob:=ob) (γ:=γ) (G:=G) (w:=w) (QG e3)
    refine ⟨_,run (v:=zv) (ok':=false) (by simp [hit,hz1]),?_⟩
    rw [qh e4]
    cases ok
    ·exact qba hz2 hz3
    ·exact ⟨[zv,.bool false],rfl,by simp only [q9]; exact ⟨cs,zv,_,rfl,hz2,hz3,[.bool false],.bool false,[],rfl,by simp [qg,qv],rfl,rfl⟩⟩
   | some i=>
    obtain ⟨j,x,n,h5,h6⟩:=qr0 hi
    obtain ⟨en,h7,h8,h9,h10⟩:=qK.at hents h5
    simp only [Option.bind_some,h5,Option.map_some] at e2
    refine ⟨_,run (v:=en.val) (ok':=true) (by simp only [hit,Option.bind_some,h7,Option.map_some]; rfl),?_⟩
    cases ok with
    | false=>rw [qh e2]; exact h9.1
    | true=>
     obtain ⟨hsol,e2⟩:=qA e2
     rw [qh e2]
     obtain ⟨cs,g1,g2⟩:=qdd hsol h9.1
     exact ⟨[en.val,.bool true],rfl,by simp only [q9]; exact ⟨cs,en.val,_,rfl,g1,g2,[.bool true],.bool true,[],rfl,by simp [qg,qv],rfl,rfl⟩⟩
  ·simp at hs
 ·simp at hs
end g
end Go.Rx
end
noncomputable section
namespace Go.Rx
section g
variable {P:Program} {ob:Ob} {γ:Hm} {G:Gh} {w:World}
theorem qec (γ:Hm) (l:Nat):upd γ l (γ l)=γ:=by
 funext j; unfold upd; split
 ·rename_i h; rw [h]
 ·rfl
theorem JC (H : qC ob γ G w) {l : Nat} {o : zm} (ho : get ob l = some o) (o' : zm) (G' : Gh) (w' : World) (hsz : w'.heap.size = w.heap.size) (hfr : ∀ b, b ≠ (γ l).1 → w'.heap[b]? = w.heap[b]?) (hk : Ze G w G' w')
    (hg:∀ b i,G' b i→¬ G b i→b=(γ l).1) (hm:ZK γ γ l o o') (hcl:∀ n∈o'.names,∃ x,get (ins l o' ob) n=some x) (hobj:Trans ob γ G w (ins l o' ob) γ G' w'→qR (ins l o' ob) γ G' w' l o') (hio:Ve w w':=by exact ⟨rfl,rfl⟩) (hv:live γ l o:=by trivial) :
    qC (ins l o' ob) γ G' w'∧Trans ob γ G w (ins l o' ob) γ G' w':=by
 have:=qpN H l o' (γ l) G' w' (by omega) (fun b _ hb=>hfr b hb) hk hg (by have:=(H.obj l o ho).lt hv; omega) (.inr ⟨o,ho,hv,rfl⟩)
  (fun x hx=>by rw [ho] at hx; cases hx; rw [qec]; exact hm) hcl (by rw [qec]; exact hobj) hio
 rw [qec] at this
 exact this
theorem JA {b:Nat} (hno:∀ i,¬ G b i) {w':World} (hfr:∀ b',b'≠b→w'.heap[b']?=w.heap[b']?):Ze G w G w':=
 ⟨fun _ _ h=>h,fun b' i h=>by
  have:b'≠b:=by rintro rfl; exact hno i h
  simp only [World.cell?,hfr b' this]⟩
theorem Qj {α:Type} (a:Array α) (i j:Nat) (x:α) (h:j≠i):(a.setIfInBounds i x)[j]?=a[j]?:=by
 rw [Array.getElem?_setIfInBounds_ne (fun e=>h e.symm)]
theorem Vp {α:Type} (a:Array α) (i:Nat) (x:α) (h:i < a.size):(a.setIfInBounds i x)[i]?=some x:=by
 rw [Array.getElem?_setIfInBounds_self_of_lt h]
mutual
theorem J7:∀ (x:AV) (cs:List Value),qg ob γ G w x cs→∀ n∈x.names,∃ o,get ob n=some o
 | .pv _,_,_,n,hn=>by simp [AV.names] at hn
 | .ag xs,cs,h,n,hn=>by simp only [qg] at h; simp only [AV.names] at hn; exact qgS xs cs h n hn
 | .nils,_,_,n,hn=>by simp [AV.names] at hn
 | .v l m,cs,h,n,hn=>by
  simp only [AV.names,List.mem_singleton] at hn; subst hn
  simp only [qg] at h
  obtain ⟨b,cap,_,_,⟨fz,sz,x,h,_⟩ | ⟨xs,_,_,h,_⟩⟩:=h
  ·exact ⟨_,h⟩
  ·exact ⟨_,h⟩
 | .p l path off,cs,h,n,hn=>by
  simp only [AV.names,List.mem_singleton] at hn; subst hn
  simp only [qg] at h
  obtain ⟨_,ro,c,h⟩:=h
  exact ⟨_,h⟩
 | .pe l m path off,cs,h,n,hn=>by
  simp only [AV.names,List.mem_singleton] at hn; subst hn
  simp only [qg] at h
  obtain ⟨b,_,⟨fz,sz,x,h,_⟩ | ⟨xs,h,_⟩⟩:=h
  ·exact ⟨_,h⟩
  ·exact ⟨_,h⟩
 | .ro _,_,_,n,hn=>by simp [AV.names] at hn
 | .nilp,_,_,n,hn=>by simp [AV.names] at hn
 | .m l,cs,h,n,hn=>by
  simp only [AV.names,List.mem_singleton] at hn; subst hn
  simp only [qg] at h
  obtain ⟨_,c,es,h⟩:=h
  exact ⟨_,h⟩
 | .nilm,_,_,n,hn=>by simp [AV.names] at hn
 | .fn f a c,cs,h,n,hn=>by
  simp only [qg] at h
  obtain ⟨va,vc,_,h1,h2⟩:=h
  simp only [AV.names,List.mem_append] at hn
  rcases hn with hn | hn
  ·exact qdT a va h1 n hn
  ·exact qdT c vc h2 n hn
 | .nilf,_,_,n,hn=>by simp [AV.names] at hn
 | .iface t x,cs,h,n,hn=>by
  simp only [qg] at h
  obtain ⟨c,v,_,h1,_⟩:=h
  simp only [AV.names] at hn
  exact J7 x c h1 n hn
 | .nili,_,_,n,hn=>by simp [AV.names] at hn
 | .yl l,_,h,n,hn=>by
  simp only [qg] at h
  simp only [AV.names,List.mem_singleton] at hn; subst hn
  obtain ⟨_,ps,m,sl,as0,bd,fn,st,pe,d,hg⟩:=h
  exact ⟨_,hg⟩
 | .es _,_,h,n,hn=>by simp [AV.names] at hn
 | .tup _,_,h,n,hn=>by simp [qg] at h
 | .undef,_,h,n,hn=>by simp [qg] at h
theorem qgS:∀ (xs:List AV) (cs:List Value),qM ob γ G w xs cs→∀ n∈AV.qJ xs,∃ o,get ob n=some o
 | [],_,_,n,hn=>by simp [AV.qJ] at hn
 | x::xs,cs,h,n,hn=>by
  simp only [qM] at h
  obtain ⟨c,d,_,h1,h2⟩:=h
  simp only [AV.qJ,List.mem_append] at hn
  rcases hn with hn | hn
  ·exact J7 x c h1 n hn
  ·exact qgS xs d h2 n hn
theorem qdT:∀ (xs:List AV) (vs:List Value),q9 ob γ G w xs vs→∀ n∈AV.qJ xs,∃ o,get ob n=some o
 | [],_,_,n,hn=>by simp [AV.qJ] at hn
 | x::xs,vs,h,n,hn=>by
  simp only [q9] at h
  obtain ⟨c,v,r,_,h1,_,h2⟩:=h
  simp only [AV.qJ,List.mem_append] at hn
  rcases hn with hn | hn
  ·exact J7 x c h1 n hn
  ·exact qdT xs r h2 n hn
end
theorem qiG {x:AV} {v:Value} (h:qx ob γ G w x v):∀ n∈x.names,∃ o,get ob n=some o:=by
 intro n hn
 rcases qi_ h with ⟨xs,rfl⟩ | rfl | ⟨cs,h1,_⟩
 ·obtain ⟨vs,_,h2⟩:=h
  simp only [AV.names] at hn
  exact qdT xs vs h2 n hn
 ·simp [AV.names] at hn
 ·exact J7 x cs h1 n hn
def JD (P:Program) (ob:Ob) (γ:Hm) (G:Gh) (w:World) (s:Sem Value) (r:AV) (ob':Ob):Prop:=
 ∃ v γ' G' w',s.run P w=.ok v w'∧qC ob' γ' G' w'∧Trans ob γ G w ob' γ' G' w'∧qx ob' γ' G' w' r v
theorem qaw (H : qC ob γ G w) {l c : Nat} {es : zT} (ho : get ob l = some (.map c es)) {c' : Nat} {es' : zT} {ents' : Array MapEntry}
    (hr:qK ob γ G w es' ents'.toList) (hlt:∀ e∈es',e.2.2 < c') (hnd:(es'.map (·.2.2)).Nodup) :
    qC (ins l (.map c' es') ob) γ G { w with heap:=w.heap.setIfInBounds (γ l).1 (.map ents' c') }∧Trans ob γ G w (ins l (.map c' es') ob) γ G { w with heap:=w.heap.setIfInBounds (γ l).1 (.map ents' c') }:=by
 have h0:=H.obj l _ ho
 have hb:=h0.lt trivial
 simp only [qR] at h0
 obtain ⟨ents,h1,h2,h3,h4,h5⟩:=h0
 refine JC H ho (.map c' es') G _ (by simp) (fun b hb=>by simp only; exact Qj _ _ _ _ hb) (JA h5 fun b' hb'=>by simp only; exact Qj _ _ _ _ hb') (fun _ _ h h'=>absurd h h') rfl ?_ ?_
 ·intro n hnn
  simp [zm.names] at hnn
 ·intro T
  simp only [qR]
  exact ⟨ents',Vp _ _ _ hb,qK.step T _ _ hr,hlt,hnd,h5⟩
theorem qzD {x:AV} (h:x.Xo=true):x.Qz=true:=by cases x<;>first | rfl | (simp [AV.Xo] at h)
theorem qgM {α:Type} (a:Array α) (i:Nat) (f:α→α) (x:α) (h:a.toList[i]?=some x):(a.modify i f).toList=a.toList.set i (f x):=by
 have hi:i < a.size:=by simpa using (List.getElem?_eq_some_iff.1 h).1
 apply List.ext_getElem
 ·simp
 ·intro j h1 h2
  simp only [Array.getElem_toList,Array.getElem_modify,List.getElem_set]
  split
  ·rename_i e; subst e
   obtain ⟨_,h⟩:=List.getElem?_eq_some_iff.1 h
   simp at h; simp [h]
  ·rfl
theorem qua {v:Value}:∃ w',(Instr.keyThatStays v v).run P w=.ok v w'∧w'.heap=w.heap∧w'.tape=w.tape∧Ve w w':=by
 unfold Instr.keyThatStays
 by_cases h:Instr.sameBits 10000 v v=true
 ·exact ⟨w,by rw [if_pos h]; rfl,rfl,rfl,rfl,rfl⟩
 ·refine ⟨{ w with drawn:=w.drawn + 1 },?_,rfl,rfl,rfl,rfl⟩
  rw [if_neg h]
  simp only [Sem.run_bind,run_choose,Question.forced]
  simp
theorem qvK {k j:PV} {vk vj:Value} (h:X4 k j=some true) (hk:qx ob γ G w (.pv k) vk) (hj:qx ob γ G w (.pv j) vj):vj=vk:=by
 unfold X4 at h
 split at h
 ·rename_i ha
  obtain ⟨cs,hr,ho⟩:=jU.1 hk
  obtain ⟨ds,hr',ho'⟩:=jU.1 hj
  have:=qu3 k j cs ds ha h hr hr'
  subst this
  have hag:AV.isAgg (.pv k)=AV.isAgg (.pv j):=by cases k<;>cases j<;>first | rfl | (simp [PV.alike] at ha)
  rw [hag] at ho
  cases hq:AV.isAgg (.pv j) with
  | true=>rw [hq] at ho ho'; simp only [qQ] at ho ho'; rw [ho,ho']
  | false=>rw [hq] at ho ho'; simp only [qQ] at ho ho'; rw [ho] at ho'; simpa using ho'.symm
 ·simp at h
theorem qnw {w':World} (h:w'.heap=w.heap) (H:qC ob γ G w) (hio:Ve w w':=by exact ⟨rfl,rfl⟩):qC ob γ G w'∧Trans ob γ G w ob γ G w':=
 qmJ H G w' (by rw [h]; exact Nat.le_refl _) (fun b _=>by rw [h]) (fun _ _ h=>h) (fun b o h1 h2=>absurd h1 h2) hio
theorem qlx {es:zT} {i:Nat} {j k:PV} {x y:AV} {n:Nat} (h:es[i]?=some (j,y,n)):(es.set i (k,x,n)).map (·.2.2)=es.map (·.2.2):=by
 rw [List.map_set]
 apply List.ext_getElem?
 intro q
 rw [List.getElem?_set]
 split
 ·rename_i e; subst e
  split
  ·simp [h]
  ·rename_i h2; simp at h2; rw [List.getElem?_eq_none (by simpa using h2)]
 ·rfl
theorem qi8 {es:zT} {i c:Nat} {j k:PV} {x y:AV} {n:Nat} (h:es[i]?=some (j,y,n)) (hlt:∀ e∈es,e.2.2 < c):∀ e∈es.set i (k,x,n),e.2.2 < c:=by
 intro e he
 rcases List.mem_or_eq_of_mem_set he with h1 | rfl
 ·exact hlt e h1
 ·exact hlt (j,y,n) (List.mem_of_getElem? h)
theorem qqz (H : qC ob γ G w) {val : Operand → AV} {ρ : Operand → Value} (S : zC ob γ G w val ρ) {t kt e : TypeId} {m k x : Operand} {l c c' : Nat} {kk : PV} {es es' : zT}
    (h1:qm P t=some (.map kt e)) (h2:val m=.m l) (h3:val k=.pv kk) (hg:get ob l=some (.map c es)) (hf:fit P 30 kt (.pv kk)=true) (ht:eqT P 30 kt=true) (hpv:(val x).Xo=true) (hput:Wr kk (val x) c es=some (c',es')) :
    ∃ G' w',(Instr.mapUpdate t (ρ m) (ρ k) (ρ x)).run P w=.ok () w'∧qC (ins l (.map c' es') ob) γ G' w'∧Trans ob γ G w (ins l (.map c' es') ob) γ G' w':=by
 have hk:=S k
 rw [h3] at hk
 have hm:=S m
 rw [h2] at hm
 have:=qW rfl rfl hm
 simp only [qg] at this
 obtain ⟨h4,_⟩:=this
 simp only [List.cons.injEq,and_true] at h4
 have h0:=H.obj _ _ hg
 simp only [qR] at h0
 obtain ⟨ents,hb,hents,hlt,hnd,hng⟩:=h0
 rcases qk0 hput with ⟨hi,rfl,rfl⟩ | ⟨i,j,y,n,hi,h5,h6,hcc,rfl⟩
 ·have hT := qaw H hg (c' := c + 1) (es' := es ++ [(kk, val x, c)]) (ents' := ents.push { key := ρ k, val := ρ x, born := c }) (by simpa using qK.push (e := { key := ρ k, val := ρ x, born := c }) hents hk ⟨S x, hpv⟩ rfl)
     (fun e he=>by
      rcases List.mem_append.1 he with he | he
      ·have:=hlt e he; omega
      ·simp at he; subst he; simp)
     (by
      simp only [List.map_append,List.map_cons,List.map_nil]
      refine List.nodup_append.2 ⟨hnd,by simp,fun a ha b hb=>?_⟩
      simp at hb; subst hb
      obtain ⟨e,he,rfl⟩:=List.mem_map.1 ha
      have:=hlt e he; omega)
  refine ⟨G,_,?_,hT.1,hT.2⟩
  rw [h4]
  simp only [Instr.mapUpdate,Sem.run_bind,run_underlying (Jd h1),Result.andThen_ok,Jx hb,VM ht hf hk,Wb ht hf hk hents hi,hit,Option.bind_none,X5 _ hb]
 ·subst hcc
  obtain ⟨en,h7,h8,h9,h10⟩:=qK.at hents h5
  have hv:=qvK h6 hk h8
  obtain ⟨w1,hw1,hw2,hw3,hio⟩:=qua (P:=P) (w:=w) (v:=ρ k)
  have H1:=qnw hw2 H hio
  have hents1:qK ob γ G w1 es ents.toList:=qK.step H1.2 _ _ hents
  have hT:=qaw H1.1 hg (es':=es.set i (kk,val x,n)) (ents':=ents.modify i fun e=>{ e with key:=ρ k,val:=ρ x })
   (by
    rw [qgM _ _ _ _ h7]
    exact qK.set hents1 (qx.step H1.2 _ _ hk) ⟨qx.step H1.2 _ _ (S x),hpv⟩ h10)
   (qi8 h5 hlt) (by rw [qlx h5]; exact hnd)
  refine ⟨G,_,?_,hT.1,H1.2.trans H hT.2⟩
  rw [h4]
  have h7':ents[i]?=some en:=by simpa using h7
  simp only [Instr.mapUpdate,Sem.run_bind,run_underlying (Jd h1),Result.andThen_ok,Jx hb,VM ht hf hk,Wb ht hf hk hents hi,hit,Option.bind_some,h7,Option.map_some,h7',Option.getD_some,hv,Nat.zero_add,hw1]
  rw [X5 (es:=ents) _ (by rw [hw2]; exact hb)]
theorem qhT (H : qC ob γ G w) {val : Operand → AV} {ρ : Operand → Value} (S : zC ob γ G w val ρ) {t kt e : TypeId} {m k : Operand} {l c c' : Nat} {kk : PV} {es es' : zT} {r : Option (AV × Nat)} {y : AV} {b : Int}
    (h1:qm P t=some (.map kt e)) (h2:val m=.m l) (h3:val k=.pv kk) (hg:get ob l=some (.map c es)) (hf:fit P 30 kt (.pv kk)=true) (ht:eqT P 30 kt=true) (hfind:Zp kk es=some r)
    (hr:match r with | some (x,n)=>y=x∧b=n | none=>zeroOf P e=some y∧b=c∧y.Xo=true) (hput:Wr kk y c es=some (c',es')) :
    JD P ob γ G w (Instr.mapEntry t (ρ m) (ρ k)) (.tup [y,.pv (.i .i64 b)]) (ins l (.map c' es') ob):=by
 have hk:=S k
 rw [h3] at hk
 have hm:=S m
 rw [h2] at hm
 have:=qW rfl rfl hm
 simp only [qg] at this
 obtain ⟨h4,_⟩:=this
 simp only [List.cons.injEq,and_true] at h4
 have h0:=H.obj _ _ hg
 simp only [qR] at h0
 obtain ⟨ents,hb,hents,hlt,hnd,hng⟩:=h0
 have two:∀ {ob:Ob} {γ:Hm} {G:Gh} {w:World} {x:AV} {v:Value} {cs:List Value} {n:Int},qg ob γ G w x cs→qQ x.isAgg cs v→qx ob γ G w (.tup [x,.pv (.i .i64 n)]) (.tuple #[v,.int .i64 n]):=fun g1 g2=>
  ⟨[_,_],rfl,by simp only [q9]; exact ⟨_,_,_,rfl,g1,g2,[_],_,[],rfl,by simp only [qg,qv],rfl,rfl⟩⟩
 obtain ⟨i',hi',hri⟩:=qiQ hfind
 rcases qk0 hput with ⟨hi,rfl,rfl⟩ | ⟨i,j,y',n,hi,h5,h6,hcc,rfl⟩
 ·rw [hi] at hi'; cases hi'
  simp only [Option.bind_none] at hri
  subst hri
  obtain ⟨hz,rfl,hpv⟩:=hr
  obtain ⟨zv,cs,hz1,hz2,hz3,_,_⟩:=JM (ob:=ob) (γ:=γ) (G:=G) (w:=w) hz
  have hT:=qaw H hg (c':=c + 1) (es':=es++[(kk,y,c)]) (ents':=ents.push { key:=ρ k,val:=zv,born:=c }) (by simpa using qK.push (e:={ key:=ρ k,val:=zv,born:=c }) hents hk ⟨qba hz2 hz3,hpv⟩ rfl)
   (fun e he=>by
    rcases List.mem_append.1 he with he | he
    ·have:=hlt e he; omega
    ·simp at he; subst he; simp)
   (by
    simp only [List.map_append,List.map_cons,List.map_nil]
    refine List.nodup_append.2 ⟨hnd,by simp,fun a ha b hb=>?_⟩
    simp at hb; subst hb
    obtain ⟨e,he,rfl⟩:=List.mem_map.1 ha
    have:=hlt e he; omega)
  refine ⟨.tuple #[zv,.int .i64 c],γ,G,_,?_,hT.1,hT.2,two (qg.step hT.2 _ _ hz2) hz3⟩
  rw [h4]
  simp only [Instr.mapEntry,Sem.run_bind,run_underlying (Jd h1),Result.andThen_ok,Jx hb,VM ht hf hk,Wb ht hf hk hents hi,hit,Option.bind_none,hz1,X5 _ hb,Sem.run_pure,goInt]
 ·subst hcc
  rw [hi] at hi'; cases hi'
  simp only [Option.bind_some,h5,Option.map_some] at hri
  subst hri
  obtain ⟨rfl,rfl⟩:=hr
  obtain ⟨en,h7,h8,h9,h10⟩:=qK.at hents h5
  have hv:=qvK h6 hk h8
  obtain ⟨w1,hw1,hw2,hw3,hio⟩:=qua (P:=P) (w:=w) (v:=ρ k)
  have H1:=qnw hw2 H hio
  have hents1:qK ob γ G w1 es ents.toList:=qK.step H1.2 _ _ hents
  have hT:=qaw H1.1 hg (es':=es.set i (kk,y,n)) (ents':=ents.modify i fun e=>{ e with key:=ρ k })
   (by
    rw [qgM _ _ _ _ h7]
    exact qK.set hents1 (qx.step H1.2 _ _ hk) ⟨qx.step H1.2 _ _ h9.1,h9.2⟩ h10)
   (qi8 h5 hlt) (by rw [qlx h5]; exact hnd)
  obtain ⟨cs,g1,g2⟩:=qdd (qzD h9.2) h9.1
  refine ⟨.tuple #[en.val,.int .i64 n],γ,G,_,?_,hT.1,H1.2.trans H hT.2,two (qg.step (H1.2.trans H hT.2) _ _ g1) g2⟩
  rw [h4]
  have h7':ents[i]?=some en:=by simpa using h7
  simp only [Instr.mapEntry,Sem.run_bind,run_underlying (Jd h1),Result.andThen_ok,Jx hb,VM ht hf hk,Wb ht hf hk hents hi,hit,Option.bind_some,h7,Option.map_some,h7',Option.getD_some,hv,Nat.zero_add,hw1]
  rw [X5 (es:=ents) _ (by rw [hw2]; exact hb)]
  simp only [Result.andThen_ok,Sem.run_pure,goInt,h10]
theorem qnT (H : qC ob γ G w) {val : Operand → AV} {ρ : Operand → Value} (S : zC ob γ G w val ρ) {t : TypeId} {m s x : Operand} {l c : Nat} {kd : IntKind} {born : Int} {es es' : zT}
    (h2:val m=.m l) (h3:val s=.pv (.i kd born)) (hg:get ob l=some (.map c es)) (hpv:(val x).Xo=true) (hat:qbf born (val x) es=some es') :
    ∃ G' w',(Instr.entryStore t (ρ m) (ρ s) (ρ x)).run P w=.ok () w'∧qC (ins l (.map c es') ob) γ G' w'∧Trans ob γ G w (ins l (.map c es') ob) γ G' w':=by
 have hs:=S s
 rw [h3,zB] at hs
 have hm:=S m
 rw [h2] at hm
 have:=qW rfl rfl hm
 simp only [qg] at this
 obtain ⟨h4,_⟩:=this
 simp only [List.cons.injEq,and_true] at h4
 have h0:=H.obj _ _ hg
 simp only [qR] at h0
 obtain ⟨ents,hb,hents,hlt,hnd,hng⟩:=h0
 obtain ⟨i,j,y,n,h5,h6,rfl,h8⟩:=qt2 hat
 obtain ⟨en,h7,g8,g9,g10⟩:=qK.at hents h5
 have hT:=qaw H hg (c':=c) (es':=es.set i (j,val x,n)) (ents':=ents.modify i fun e=>{ e with val:=ρ x })
  (by
   rw [qgM _ _ _ _ h7]
   exact qK.set hents g8 ⟨S x,hpv⟩ g10)
  (qi8 h5 hlt) (by rw [qlx h5]; exact hnd)
 refine ⟨G,_,?_,hT.1,hT.2⟩
 rw [h4,hs]
 have hidx:ents.findIdx? (fun e=>(e.born:Int) == born)=some i:=by
  rw [Array.findIdx?_eq_some_iff_getElem]
  have hil:i < ents.size:=by simpa using (List.getElem?_eq_some_iff.1 h7).1
  refine ⟨hil,?_,fun k hk=>?_⟩
  ·have:=(List.getElem?_eq_some_iff.1 h7).2
   simp at this
   simp [this,g10,h6]
  ·have hkl:k < es.length:=by rw [qK.len hents]; simp; omega
   obtain ⟨e',q1,q2,q3,q4⟩:=qK.at (i:=k) (k:=es[k].1) (x:=es[k].2.1) (n:=es[k].2.2) hents (List.getElem?_eq_getElem hkl)
   have:=h8 k _ hk (List.getElem?_eq_getElem hkl)
   have q5:=(List.getElem?_eq_some_iff.1 q1).2
   simp at q5
   simp [q5,q4,this]
 simp only [Instr.entryStore,Sem.run_bind,Jx hb,Result.andThen_ok,Go.asInt,ZF,Sem.run_pure,hidx,X5 _ hb]
theorem qu7 (H : qC ob γ G w) {val : Operand → AV} {ρ : Operand → Value} (S : zC ob γ G w val ρ) {t u kt e ty : TypeId} {m k : Operand} {l c : Nat} {kk : PV} {es es' : zT}
    (h1:qm P t=some (.map kt e)) (h2:val m=.m l) (h3:val k=.pv kk) (hg:get ob l=some (.map c es)) (hf:fit P 30 kt (.pv kk)=true) (ht:eqT P 30 kt=true) (hdel:YC kk es=some es') :
    ∃ G' w',(Builtin.delete_ #[t,u] ty #[ρ m,ρ k]).run P w=.ok (.tuple #[]) w'∧qC (ins l (.map c es') ob) γ G' w'∧Trans ob γ G w (ins l (.map c es') ob) γ G' w':=by
 have hk:=S k
 rw [h3] at hk
 have hm:=S m
 rw [h2] at hm
 have:=qW rfl rfl hm
 simp only [qg] at this
 obtain ⟨h4,_⟩:=this
 simp only [List.cons.injEq,and_true] at h4
 have h0:=H.obj _ _ hg
 simp only [qR] at h0
 obtain ⟨ents,hb,hents,hlt,hnd,hng⟩:=h0
 rcases qsH hdel with ⟨hi,rfl⟩ | ⟨i,hi,hil,rfl⟩
 ·have hT:=qaw H hg (ents':=ents) hents hlt hnd
  refine ⟨G,_,?_,hT.1,hT.2⟩
  rw [h4]
  simp [Builtin.delete_,run_underlying (Jd h1),Jx hb,VM ht hf hk,Wb ht hf hk hents hi,hit,X5 _ hb]
 ·have h5:es[i]?=some (es[i].1,es[i].2.1,es[i].2.2):=List.getElem?_eq_getElem hil
  obtain ⟨en,h7,h8,h9,h10⟩:=qK.at hents h5
  have hT:=qaw H hg (c':=c) (es':=es.eraseIdx i) (ents':=ents.eraseIdxIfInBounds i)
   (by
    have:(ents.eraseIdxIfInBounds i).toList=ents.toList.eraseIdx i:=by simp
    rw [this]
    exact qK.erase hents)
   (fun e he=>hlt e (List.mem_of_mem_eraseIdx he))
   (hnd.sublist ((List.eraseIdx_sublist es i).map _))
  refine ⟨G,_,?_,hT.1,hT.2⟩
  rw [h4]
  have h7':ents[i]?=some en:=by simpa using h7
  simp [Builtin.delete_,run_underlying (Jd h1),Jx hb,VM ht hf hk,Wb ht hf hk hents hi,hit,X5 _ hb,h7']
end g
end Go.Rx
end
