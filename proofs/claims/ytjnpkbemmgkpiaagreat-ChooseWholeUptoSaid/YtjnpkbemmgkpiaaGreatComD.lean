/- A machine over pure data, sound for the model: a part of the proof of the laws. No condition. -/
import Derived.Lib.BytesEntry
import Derived.Test.YtjnpkbemmgkpiaaGreatComC
set_option linter.unusedSimpArgs false
set_option linter.unusedVariables false
set_option linter.unusedSectionVars false
noncomputable section
namespace Go.Rx
variable {α β γ:Type} [CT]
abbrev xi (n:Int):TV:=.tv (.i .i64) n
abbrev xb (b:Bool):TV:=.tv .b b
abbrev dv (t:Ty) (x:El t):DV:=⟨t,x⟩
def Ys (k:IntKind) (a b:Int):Int:=k.wrap (a + b)
def qX8 (k:IntKind) (a b:Int):Int:=k.wrap (a - b)
def qXL (k:IntKind) (a b:Int):Int:=k.wrap (a * b)
def qfx (k:IntKind) (a:Int) (n:Nat):Int:=k.wrap (a * 2 ^ n)
def Zz (a:Int) (n:Nat):Int:=a.fdiv (2 ^ n)
def qlO (k:IntKind) (a b:Int):Int:=k.wrap (BitVec.ofInt k.bits a &&& BitVec.ofInt k.bits b).toNat
def uOr (k:IntKind) (a b:Int):Int:=k.wrap (BitVec.ofInt k.bits a ||| BitVec.ofInt k.bits b).toNat
def qeI (k:IntKind) (a b:Int):Int:=k.wrap (BitVec.ofInt k.bits a ^^^ BitVec.ofInt k.bits b).toNat
def qv8 (k:IntKind) (a b:Int):Int:=k.wrap (BitVec.ofInt k.bits a &&& ~~~BitVec.ofInt k.bits b).toNat
def LG (P:Program) (H:TH) (K:FuncId) (c:Code) (σ:TSt) (x:Ex×TSt):Prop:=∃ n,qhA (ZF P H.hn (Valid P) K c) n σ.er x.1 x.2.er
structure RA where
 args:List TV
 h:THp
def qwo (args:List VP) (hp:List (Nat×OP)) (ds:List DV):RA:=
 let V:=(vw hp ds).1
 let o:=Zy V hp V (vw hp ds).2
 ⟨(J6 V args o.2).1,o.1⟩
def mtR (l:Nat) (pa:List VP) (hp:List (Nat×OP)) (f:TV) (args:List TV) (h:THp):Mt:=match f with
 | .yl l'=>match Zn hp h with
  | some (d0,V)=>qdv (Nat.beq l l') (K6 (some (d0,[])) (K6 (Y9 V hp h) (qiU V pa args)))
  | none=>none
 | _=>none
theorem qYe {l : Nat} {pa : List VP} {hp : List (Nat × OP)} {f : TV} {args : List TV} {h : THp} {ds : List DV} {ls : List (Nat × Nat)} (hm : mtR l pa hp f args h = some (ds, ls)) (hl : Z0 ls) :
    f.er=.yl l∧TV.ers args=TV.ers (qwo pa hp ds).args∧erO h=erO (qwo pa hp ds).h:=by
 unfold mtR at hm
 split at hm
 ·split at hm
  ·rename_i d0 V h0
   obtain ⟨h1,hm⟩:=Zo hm
   obtain ⟨d1,p1,d2,p2,e1,e2,rfl,rfl⟩:=Q1 hm
   simp only [Option.some.injEq,Prod.mk.injEq] at e1
   obtain ⟨rfl,rfl⟩:=e1
   obtain ⟨d3,p3,d4,p4,e3,e4,rfl,rfl⟩:=Q1 e2
   obtain ⟨_,hl⟩:=hl.app
   obtain ⟨hl1,hl2⟩:=hl.app
   have g0:=qcr _ _ _ _ h0 (d3++d4)
   obtain ⟨g1,g2⟩:=qeZ _ _ _ _ _ _ h0 e3 hl1 d4
   obtain ⟨g3,g4⟩:=qcC _ _ _ _ e4 hl2 []
   rw [List.append_nil] at g3
   simp only [qwo,g0,g1,g2,g3,TV.er,Nat.eq_of_beq_eq_true h1,and_self]
  ·simp at hm
 ·simp at hm
def smR (l:Nat) (pa:List VP) (hp:List (Nat×OP)) (ts:List Ty) (Z:Type) (F:Xs ts→Option Z) (c:CS Z) (out:Xs ts→Z→TV×THp):Ent:=fun f args h=>match mtR l pa hp f args h with
 | some (ds,ls)=>match qvM ts ds with
  | some x=>some ⟨Z,zY ls (F x),fun α k z=>c.cs α (fun z=>k (out x z)) z⟩
  | none=>none
 | none=>none
def qG3 (h:THp) (l:Nat):Option Nat:=match get h l with
 | some (.loop _ _ _ cid _ _ _ _)=>some cid
 | _=>none
theorem qOM {P : Program} {H : TH} {E : List Ent} {L : qa8} {K : FuncId} {l cid : Nat} {pa : List VP} {hp : List (Nat × OP)} {ts : List Ty} {Z : Type} {T : Xs ts → Tree Z} {cs : CS Z} {out : Xs ts → Z → TV × THp} (lvl : Nat) (hd : P.follows .mixedOrders = true) (hE : qQ P E)
    (ha:outer (CT.ct cid).1=[]) (hL:∀ b∈outer (CT.ct cid).2,qdX P H L K b) (hr1:jK K (CT.ct cid).1) (hr2:jK K (CT.ct cid).2) (hc:∀ x,qG3 (qwo pa hp (dsX ts x)).h l=some cid)
    (hb:∀ x,qAj P H (env E) L K lvl l (qwo pa hp (dsX ts x)).args (qwo pa hp (dsX ts x)).h (fun r h'=>.ret (r.er,erO h'))=(T x).map fun z=>((out x z).1.er,erO (out x z).2)) (hS1:qau P H L K (CT.ct cid).1:=by exact js0 rfl) (hS2:qau P H L K (CT.ct cid).2:=by exact js0 rfl) :
    ze P (smR l pa hp ts Z (fun x=>(T x).run some) cs out):=by
 intro f args h rs hs y hy α k z hz
 unfold smR at hs
 split at hs
 ·rename_i ds ls hm
  split at hs
  ·rename_i x hx
   simp only [Option.some.injEq] at hs
   subst hs
   obtain ⟨hl,hF⟩:=qfY hy
   have:=qv7 hx
   subst this
   obtain ⟨e1,e2,e3⟩:=qYe hm hl
   refine ⟨out x y,fun lv=>?_,cs.ok α _ y z hz⟩
   rw [e1,e2,e3]
   obtain ⟨a,h1,h2⟩:=Tree.J9 hF
   simp only [Option.some.injEq] at h2
   subst h2
   have h3:=Tree.YW (g:=fun z=>((out x z).1.er,erO (out x z).2)) h1
   rw [← hb x] at h3
   obtain ⟨r,h',h4,h5⟩:=qFj (qoZ hE) hd h3 (fun ps n sl cid' fn d hg=>by
    have:=hc x
    unfold qG3 at this
    rw [hg] at this
    simp only [Option.some.injEq] at this
    subst this
    refine ⟨fun b hb=>?_,hr1,hr2,hS1,hS2⟩
    rw [ha,List.nil_append] at hb
    exact hL b hb) lv
   have h5:(r.er,erO h')=((out x a).1.er,erO (out x a).2):=h5
   simp only [Prod.mk.injEq] at h5
   rw [← h5.1,← h5.2]
   exact h4
  ·simp at hs
 ·simp at hs
def YK (r:Nat):Code→Option (Code×Code)
 | .seq a b=>match YK r a with
  | some x=>some x
  | none=>YK r b
 | .cond _ a b=>match YK r a with
  | some x=>some x
  | none=>YK r b
 | .block _ c=>YK r c
 | .loop c=>YK r c
 | .scope c=>YK r c
 | .rangeFunc _ _ a b=>match Nat.beq (zQ (.seq a b)) r with
  | true=>some (a,b)
  | false=>match YK r a with
   | some x=>some x
   | none=>YK r b
 | _=>none
def qvL (t:Ty) (x:El t):Prop:=match t,x with
 | .bl,x=>x=([]:List UInt8)
 | .sl _ u,x=>x=([]:List (El u))
 | _,_=>False
theorem qif {P : Program} {l : Nat} {f : AV} {h h' : Ob} {o : Out} {t : Ty} {x : El t} (hx : qvL t x) (pre post : List AV) (h0 : Valid P l f (pre ++ .es 0 :: post) h o h') (h1 : Valid P l f (pre ++ .es 1 :: post) h o h') :
    Valid P l f (pre++.pv (qF t x)::post) h o h':=by
 refine Valid.maybe ?_ pre post h0 h1
 unfold qvL at hx
 split at hx
 ·left; subst hx; rfl
 ·right; subst hx; exact ⟨_,rfl⟩
 ·exact hx.elim
theorem qM9 {P:Program} {l n sz:Nat} {f:AV} {args:List AV} {h h' ho:Ob} {x:PV} (hx:qf0 x=some sz) (hl:get h' n=none) (he:ho=ins n (.vec false sz x) h') (hv:Valid P l f args h (.ret .nils) h'):Valid P l f args h (.ret (.v n 0)) ho:=by
 subst he
 intro γ G w vf vas H hf ha
 obtain ⟨r,e,hc⟩:=hv γ G w vf vas H hf ha
 cases e
 refine ⟨_,rfl,hc.mono ?_⟩
 rintro v w' ⟨γ',G',h1,h2,h3⟩
 obtain ⟨g1,g2,g3⟩:=qyU h1 hx hl
 rw [jT] at h3
 subst h3
 exact ⟨_,G',g1,h2.then g2,zy rfl g3⟩
end Go.Rx
end
noncomputable section
namespace Go.Rx
def Zq:Code→List Code
 | .seq a b=>Zq a++Zq b
 | .cond _ a b=>Zq a++Zq b
 | .block _ c=>Zq c
 | .scope c=>Zq c
 | .loop c=>c::Zq c
 | .rangeFunc _ _ a b=>a::b::(Zq a++Zq b)
 | _=>[]
def loops:Code→List Code
 | .seq a b=>loops a++loops b
 | .cond _ a b=>loops a++loops b
 | .block _ c=>loops c
 | .scope c=>loops c
 | .loop c=>c::loops c
 | .rangeFunc _ _ a b=>loops a++loops b
 | _=>[]
theorem Jd:∀ (c:Code) {b:Code},b∈outer c→b∈loops c
 | .seq x y,b,h=>by
  rcases List.mem_append.1 h with h | h
  ·exact List.mem_append_left _ (Jd x h)
  ·exact List.mem_append_right _ (Jd y h)
 | .cond _ x y,b,h=>by
  rcases List.mem_append.1 h with h | h
  ·exact List.mem_append_left _ (Jd x h)
  ·exact List.mem_append_right _ (Jd y h)
 | .block _ c,b,h=>Jd (b:=b) c h
 | .scope c,b,h=>Jd (b:=b) c h
 | .loop c,b,h=>by rw [List.mem_singleton.1 h]; exact List.mem_cons_self ..
 | .skip,_,h | .label _,_,h | .region ..,_,h | .exit _,_,h | .goto _,_,h | .ret,_,h | .rangeFunc ..,_,h | .refuse _,_,h=>by simp [outer] at h
theorem Q0:∀ (c:Code) {u b:Code},u∈Zq c→b∈outer u→b∈loops c
 | .seq x y,u,b,h,hb=>by
  rcases List.mem_append.1 h with h | h
  ·exact List.mem_append_left _ (Q0 x h hb)
  ·exact List.mem_append_right _ (Q0 y h hb)
 | .cond _ x y,u,b,h,hb=>by
  rcases List.mem_append.1 h with h | h
  ·exact List.mem_append_left _ (Q0 x h hb)
  ·exact List.mem_append_right _ (Q0 y h hb)
 | .block _ c,u,b,h,hb=>Q0 (u:=u) (b:=b) c h hb
 | .scope c,u,b,h,hb=>Q0 (u:=u) (b:=b) c h hb
 | .loop c,u,b,h,hb=>by
  rcases List.mem_cons.1 h with rfl | h
  ·exact List.mem_cons_of_mem _ (Jd _ hb)
  ·exact List.mem_cons_of_mem _ (Q0 c h hb)
 | .rangeFunc _ _ x y,u,b,h,hb=>by
  rcases List.mem_cons.1 h with rfl | h
  ·exact List.mem_append_left _ (Jd _ hb)
  ·rcases List.mem_cons.1 h with rfl | h
   ·exact List.mem_append_right _ (Jd _ hb)
   ·rcases List.mem_append.1 h with h | h
    ·exact List.mem_append_left _ (Q0 x h hb)
    ·exact List.mem_append_right _ (Q0 y h hb)
 | .skip,_,_,h,_ | .label _,_,_,h,_ | .region ..,_,_,h,_ | .exit _,_,_,h,_ | .goto _,_,_,h,_ | .ret,_,_,h,_ | .refuse _,_,_,h,_=>by simp [Zq] at h
theorem ZD:∀ (c:Code) {b:Code},b∈loops c→b∈Zq c
 | .seq x y,b,h=>by
  rcases List.mem_append.1 h with h | h
  ·exact List.mem_append_left _ (ZD x h)
  ·exact List.mem_append_right _ (ZD y h)
 | .cond _ x y,b,h=>by
  rcases List.mem_append.1 h with h | h
  ·exact List.mem_append_left _ (ZD x h)
  ·exact List.mem_append_right _ (ZD y h)
 | .block _ c,b,h=>ZD (b:=b) c h
 | .scope c,b,h=>ZD (b:=b) c h
 | .loop c,b,h=>by
  rcases List.mem_cons.1 h with rfl | h
  ·exact List.mem_cons_self ..
  ·exact List.mem_cons_of_mem _ (ZD c h)
 | .rangeFunc _ _ x y,b,h=>by
  refine List.mem_cons_of_mem _ (List.mem_cons_of_mem _ ?_)
  rcases List.mem_append.1 h with h | h
  ·exact List.mem_append_left _ (ZD x h)
  ·exact List.mem_append_right _ (ZD y h)
 | .skip,_,h | .label _,_,h | .region ..,_,h | .exit _,_,h | .goto _,_,h | .ret,_,h | .refuse _,_,h=>by simp [loops] at h
theorem jL {r:Nat}:∀ (c:Code) {x:Code×Code},YK r c=some x→x.1∈Zq c∧x.2∈Zq c
 | .seq a b,x,h=>by
  simp only [YK] at h
  split at h
  ·rename_i e
   simp only [Option.some.injEq] at h; subst h
   exact ⟨List.mem_append_left _ (jL a e).1,List.mem_append_left _ (jL a e).2⟩
  ·exact ⟨List.mem_append_right _ (jL b h).1,List.mem_append_right _ (jL b h).2⟩
 | .cond _ a b,x,h=>by
  simp only [YK] at h
  split at h
  ·rename_i e
   simp only [Option.some.injEq] at h; subst h
   exact ⟨List.mem_append_left _ (jL a e).1,List.mem_append_left _ (jL a e).2⟩
  ·exact ⟨List.mem_append_right _ (jL b h).1,List.mem_append_right _ (jL b h).2⟩
 | .block _ c,x,h=>jL (x:=x) c h
 | .scope c,x,h=>jL (x:=x) c h
 | .loop c,x,h=>⟨List.mem_cons_of_mem _ (jL c h).1,List.mem_cons_of_mem _ (jL c h).2⟩
 | .rangeFunc _ _ a b,x,h=>by
  simp only [YK] at h
  split at h
  ·simp only [Option.some.injEq] at h; subst h
   exact ⟨List.mem_cons_self ..,List.mem_cons_of_mem _ (List.mem_cons_self ..)⟩
  ·split at h
   ·rename_i e
    simp only [Option.some.injEq] at h; subst h
    exact ⟨List.mem_cons_of_mem _ (List.mem_cons_of_mem _ (List.mem_append_left _ (jL a e).1)),List.mem_cons_of_mem _ (List.mem_cons_of_mem _ (List.mem_append_left _ (jL a e).2))⟩
   ·exact ⟨List.mem_cons_of_mem _ (List.mem_cons_of_mem _ (List.mem_append_right _ (jL b h).1)),List.mem_cons_of_mem _ (List.mem_cons_of_mem _ (List.mem_append_right _ (jL b h).2))⟩
 | .skip,_,h | .label _,_,h | .region ..,_,h | .exit _,_,h | .goto _,_,h | .ret,_,h | .refuse _,_,h=>by simp [YK] at h
def ctF (P:Program) (cid:Nat):Code×Code:=match P.funcs[cid / 100000]? with
 | some f=>((YK (cid % 100000) (f.body.getD .skip)).getD (.skip,.skip))
 | none=>(.skip,.skip)
def noR (c:Code):Bool:=(ranges c).isEmpty&&(Zq c).all fun u=>(ranges u).isEmpty
section m
variable [CT] (P:Program) (HH:FuncId→TH) (ks:List FuncId)
def qpq (H:TH) (E:Env) (L:qa8) (K:FuncId) (b:Code):Nat→TSt→Option (Ex×TSt)
 | 0,_=>none
 | n + 1,σ=>match (VR P H E L K b σ fun e σ=>.ret (e,σ)).run some with
  | some (.normal,σ')=>qpq H E L K b n σ'
  | some (e,σ')=>some (e,σ')
  | none=>none
def qjP (H:TH) (E:Env) (K:FuncId) (us:List Code) (N:Nat):Nat→qa8
 | 0,_,_=>none
 | m + 1,key,σ=>match Nat.ble 1000000 key with
  | true=>none
  | false=>match get (us.map fun b=>(zQ b,b)) key with
   | some b=>some ⟨Ex×TSt,qpq P H E (qjP H E K us N m) K b N σ,fun _ κ y=>κ y⟩
   | none=>none
def qBQ (k:FuncId) (c:Code):Bool:=qcp ((loops c).map zQ)&&(has ks k||noR c)
def qJM:(t:Ty)→El t→Bool
 | .bl,x=>List.isEmpty (α:=UInt8) x
 | .sl _ u,x=>List.isEmpty (α:=El u) x
 | _,_=>false
def qyw:List TV→Option (List TV×TV×List TV)
 | []=>none
 | .tv t x::r=>match qJM t x with
  | true=>some ([],.tv t x,r)
  | false=>match qyw r with
   | some (a,y,b)=>some (.tv t x::a,y,b)
   | none=>none
 | z::r=>match qyw r with
  | some (a,y,b)=>some (z::a,y,b)
  | none=>none
def qOg (x y:Option (TV×THp)):Option (TV×THp):=match x,y with
 | some (.tv t a,[]),some (.tv u b,[])=>match cast? u t b with
  | some b'=>match eqE t a b' with
   | true=>some (.tv t a,[])
   | false=>none
  | none=>none
 | _,_=>none
def qJ6 (E:Env) (N:Nat) (H:TH) (k:FuncId) (fn:Func) (c:Code) (lvl:Nat) (args:List TV) (h:THp):Option (TV×THp):=(qJ_ P H E (qjP P H E k (loops c) N 20) k fn c lvl args h fun r h=>.ret (r,h)).run some
def hiL (lvl:Nat) (h:THp):Nat:=(dom h).foldr (fun l m=>match Nat.blt l 900000000 with | true=>Nat.max (l / 100000) m | false=>m) lvl
def qNJ (E:Env) (N:Nat) (lvl:Nat) (f:TV) (args:List TV) (h:THp):Option (Rs' (TV×THp)):=match f with
 | .fn (.func k) first cap=>match P.funcs[k]? with
  | some fn=>match fn.body with
   | some c=>match qBQ ks k c&&!(fn.name == "runtime.NumGoroutine") with
    | true => some ⟨TV × THp, match qJ6 P E N (HH k) k fn c (hiL lvl h) (first ++ args ++ cap) h with
        | some y=>some y
        | none=>match qyw args with
         | some (a,_,b)=>qOg (qJ6 P E N { HH k with esc:=false } k fn c (hiL lvl h) (first++(a++.es 0::b)++cap) h) (qJ6 P E N { HH k with esc:=false } k fn c (hiL lvl h) (first++(a++.es 1::b)++cap) h)
         | none=>none,fun _ κ y=>κ y⟩
    | false=>none
   | none=>none
  | none=>none
 | .yl l=>match qG3 h l with
  | some cid=>match P.funcs[cid / 100000]? with
   | some fn=>match fn.body with
    | some c=>match qBQ ks (cid / 100000) c with
     | true=>some ⟨TV×THp,(qAj P (HH (cid / 100000)) E (qjP P (HH (cid / 100000)) E (cid / 100000) (loops c) N 20) (cid / 100000) (lvl + 1) l args h fun r h=>.ret (r,h)).run some,fun _ κ y=>κ y⟩
     | false=>none
    | none=>none
   | none=>none
  | none=>none
 | _=>none
def qGP (base:List Ent) (N:Nat):Nat→Env
 | 0=>env base
 | n + 1=>fun lvl f args h=>match env base lvl f args h with
  | some rs=>some rs
  | none=>qNJ P HH ks (qGP base N n) N lvl f args h
end m
section o
variable [CT] {P:Program} {HH:FuncId→TH} {ks:List FuncId}
theorem qBd (hm:P.follows .mixedOrders=true) {H:TH} {E:Env} {L:qa8} {K:FuncId} {b:Code} (hE:KS P E) (hL:∀ c∈outer b,qdX P H L K c) (hr:jK K b) (hS:qau P H L K b):∀ (n:Nat) (σ:TSt) (y:Ex×TSt),qpq P H E L K b n σ=some y→∃ m,qhA (ZF P H.hn (Valid P) K b) m σ.er y.1 y.2.er
 | 0,_,_,h=>by simp [qpq] at h
 | n + 1,σ,y,h=>by
  simp only [qpq] at h
  have key:∀ x,(VR P H E L K b σ fun e σ=>.ret (e,σ)).run some=some x→ZF P H.hn (Valid P) K b σ.er x.1 x.2.er:=fun x hx=>by
   obtain ⟨a,h1,h2⟩:=Tree.J9 hx
   simp only [Option.some.injEq] at h2
   subst h2
   obtain ⟨e,σ',h3,h4⟩:=X_ hm hE b σ _ _ hL hr hS h1
   have h4:(e,σ')=a:=h4
   rw [← h4]; exact h3
  split at h
  ·rename_i σ' hx
   obtain ⟨m,hm⟩:=qBd hm hE hL hr hS n σ' y h
   exact ⟨m + 1,.normal,σ'.er,key _ hx,hm⟩
  ·rename_i e σ' hne hx
   simp only [Option.some.injEq] at h
   subst h
   refine ⟨1,e,σ'.er,key _ hx,?_⟩
   cases e<;>first | exact (hne rfl).elim | exact ⟨rfl,rfl⟩
  ·simp at h
theorem qcF {H:TH} {E:Env} {K:FuncId} {us:List Code} {N:Nat}:∀ {m:Nat} {c:Code},qau P H (qjP P H E K us N m) K c
 | 0,_,_,_,_,_,_,h=>by simp [qjP] at h
 | m + 1,c,b,hb,_,σ,rs,h=>by
  simp only [qjP,Nat.ble_eq_true_of_le (qex c hb)] at h
  cases h
theorem qy4 (hm:P.follows .mixedOrders=true) {H:TH} {E:Env} {K:FuncId} {c:Code} {N:Nat} (hE:KS P E) (hd:qcp ((loops c).map zQ)=true) (hr:∀ u∈Zq c,jK K u):∀ (m:Nat),∀ b∈loops c,qdX P H (qjP P H E K (loops c) N m) K b
 | 0,_,_,_,_,h,_,_,_,_,_,_=>by simp [qjP] at h
 | m + 1,b,hb,σ,rs,h,y,hy,α,k,z,hz=>by
  simp only [qjP,qlU hd hb] at h
  split at h
  ·cases h
  simp only [Option.some.injEq] at h
  subst h
  obtain ⟨n,hn⟩:=qBd hm hE (fun b' hb'=>qy4 hm hE hd hr m b' (Q0 c (ZD c hb) hb')) (hr b (ZD c hb)) qcF N σ y hy
  exact ⟨y,⟨_,vR.refl _,n,hn⟩,hz⟩
theorem qXX {K:FuncId} {c:Code} (h:noR c=true):jK K c∧∀ u∈Zq c,jK K u:=by
 unfold noR at h
 simp only [Bool.and_eq_true,List.all_eq_true,List.isEmpty_iff] at h
 exact ⟨rg0 h.1,fun u hu=>rg0 (h.2 u hu)⟩
end o
def qtd [CT] (P:Program):List FuncId→Prop
 | []=>True
 | k::r=>(∀ fn c,P.funcs[k]?=some fn→fn.body=some c→jK k c∧∀ u∈Zq c,jK k u)∧qtd P r
theorem qJX [CT] {P:Program}:∀ {ks:List FuncId} {k:FuncId},qtd P ks→has ks k=true→∀ fn c,P.funcs[k]?=some fn→fn.body=some c→jK k c∧∀ u∈Zq c,jK k u
 | [],k,_,h=>by simp [qv3,qzF] at h
 | a::r,k,hk,h=>by
  have:=(Qn _ _).1 h
  rcases List.mem_cons.1 this with rfl | h
  ·exact hk.1
  ·exact qJX hk.2 ((Qn _ _).2 h)
theorem qqn [CT] {P : Program} {K : FuncId} {fn : Func} {c : Code} (hf : P.funcs[K]? = some fn) (hb : fn.body = some c) (h : (c :: Zq c).map (fun u => (ranges u).map fun x => CT.ct (qms K x.1 x.2)) = (c :: Zq c).map ranges) :
    ∀ fn c,P.funcs[K]?=some fn→fn.body=some c→jK K c∧∀ u∈Zq c,jK K u:=by
 intro fn' c' h1 h2
 rw [hf] at h1
 obtain rfl:=Option.some.inj h1
 rw [hb] at h2
 obtain rfl:=Option.some.inj h2
 have key:∀ u∈c::Zq c,jK K u:=fun u hu=>rgs (List.map_inj_left.1 h u hu)
 exact ⟨key c (List.mem_cons_self ..),fun u hu=>key u (List.mem_cons_of_mem _ hu)⟩
theorem qKd [CT] {P:Program} {ks:List FuncId} (hks:qtd P ks) {k:FuncId} {fn:Func} {c:Code} (hf:P.funcs[k]?=some fn) (hb:fn.body=some c) (h:qBQ ks k c=true):qcp ((loops c).map zQ)=true∧jK k c∧∀ u∈Zq c,jK k u:=by
 unfold qBQ at h
 simp only [Bool.and_eq_true,Bool.or_eq_true] at h
 rcases h.2 with h2 | h2
 ·exact ⟨h.1,qJX hks h2 fn c hf hb⟩
 ·exact ⟨h.1,qXX h2⟩
theorem qPR:∀ (t:Ty) (x:El t),qJM t x=true→qvL t x
 | .bl,x,h=>List.isEmpty_iff.1 h
 | .sl _ u,x,h=>List.isEmpty_iff.1 h
 | .b,x,h | .i _,x,h | .s,x,h | .ba _,x,h | .wa _,x,h | .ag _,x,h | .nat,x,h=>by simp [qJM] at h
theorem qMn:∀ (l a b:List TV) (y:TV),qyw l=some (a,y,b)→l=a++y::b∧∃ t x,y=.tv t x∧qvL t x
 | [],a,b,y,h=>by simp [qyw] at h
 | z::r,a,b,y,h=>by
  have other:(match qyw r with | some (a,y,b)=>some (z::a,y,b) | none=>none)=some (a,y,b)→z::r=a++y::b∧∃ t x,y=.tv t x∧qvL t x:=fun h=>by
   split at h
   ·rename_i a' y' b' hr
    simp only [Option.some.injEq,Prod.mk.injEq] at h
    obtain ⟨rfl,rfl,rfl⟩:=h
    obtain ⟨h1,h2⟩:=qMn r _ _ _ hr
    exact ⟨by rw [h1]; rfl,h2⟩
   ·simp at h
  cases z with
  | tv t x=>
   simp only [qyw] at h
   split at h
   ·rename_i he
    simp only [Option.some.injEq,Prod.mk.injEq] at h
    obtain ⟨rfl,rfl,rfl⟩:=h
    exact ⟨rfl,t,x,rfl,qPR t x he⟩
   ·exact other h
  | _=>exact other h
theorem qTY {x y:Option (TV×THp)} {z:TV×THp} (h:qOg x y=some z):∃ w,x=some z∧y=some w∧w.1.er=z.1.er∧w.2=z.2:=by
 unfold qOg at h
 split at h
 ·rename_i t a u b
  split at h
  ·rename_i b' hc
   split at h
   ·rename_i he
    simp only [Option.some.injEq] at h
    subst h
    obtain ⟨rfl,h3⟩:=cast?_some hc
    have:=eq_of_heq h3
    subst this
    have:=(Q2 _ _ _).1 he
    subst this
    exact ⟨_,rfl,rfl,rfl,rfl⟩
   ·simp at h
  ·simp at h
 ·simp at h
theorem qDt [CT] {P : Program} {ks : List FuncId} {E : Env} {N : Nat} (hd : P.follows .mixedOrders = true) (hks : qtd P ks) (hE : KS P E) {H : TH} {k : FuncId} {fn : Func} {c : Code} (hf : P.funcs[k]? = some fn) (hb : fn.body = some c) (hg : (qBQ ks k c && !(fn.name == "runtime.NumGoroutine")) = true)
    {lvl:Nat} {first args cap:List TV} {h:THp} {y:TV×THp} (hy:qJ6 P E N H k fn c lvl (first++args++cap) h=some y) (l:Nat):Valid P l (.fn (.func k) (TV.ers first) (TV.ers cap)) (TV.ers args) (erO h) (.ret y.1.er) (erO y.2):=by
 simp only [Bool.and_eq_true,Bool.not_eq_true'] at hg
 obtain ⟨g1,g2,g3⟩:=qKd hks hf hb hg.1
 unfold qJ6 at hy
 obtain ⟨a,h1,h2⟩:=Tree.J9 hy
 simp only [Option.some.injEq] at h2
 subst h2
 obtain ⟨r,h',h3,h4⟩:=qMg (K:=k) hE (fun b hb'=>qy4 hd hE g1 g3 20 b (Jd c hb')) g2 hd hf hb hg.2 qcF h1 l
 have h4:(r,h')=a:=h4
 subst h4
 exact h3
theorem qMk [CT] (P:Program) (hct:∀ cid,CT.ct cid=ctF P cid) {HH:FuncId→TH} {ks:List FuncId} {E:Env} {N:Nat} (hd:P.follows .mixedOrders=true):qtd P ks→KS P E→KS P (qNJ P HH ks E N):=by
 intro hks hE lvl f args h rs hrs y hy α κ z hz
 unfold qNJ at hrs
 split at hrs
 ·rename_i k first cap
  split at hrs
  ·rename_i fn hf
   split at hrs
   ·rename_i c hb
    split at hrs
    ·rename_i hg
     simp only [Option.some.injEq] at hrs
     subst hrs
     refine ⟨y,?_,hz⟩
     simp only at hy
     split at hy
     ·rename_i y' h1
      simp only [Option.some.injEq] at hy
      subst hy
      exact qDt hd hks hE hf hb hg h1 lvl
     ·split at hy
      ·rename_i a x b hc
       obtain ⟨w,h1,h2,h3,h4⟩:=qTY hy
       obtain ⟨rfl,t,x',rfl,he⟩:=qMn _ _ _ _ hc
       have v0:=qDt hd hks hE hf hb hg h1 lvl
       have v1:=qDt hd hks hE hf hb hg h2 lvl
       rw [h3,h4] at v1
       rw [qke] at v0 v1 ⊢
       exact qif he (TV.ers a) (TV.ers b) v0 v1
      ·simp at hy
    ·simp at hrs
   ·simp at hrs
  ·simp at hrs
 ·rename_i l
  split at hrs
  ·rename_i cid hcid
   split at hrs
   ·rename_i fn hf
    split at hrs
    ·rename_i c hb
     split at hrs
     ·rename_i hg
      simp only [Option.some.injEq] at hrs
      subst hrs
      obtain ⟨g1,g2,g3⟩:=qKd hks hf hb hg
      obtain ⟨a,h1,h2⟩:=Tree.J9 hy
      simp only [Option.some.injEq] at h2
      subst h2
      have hct:((CT.ct cid).1∈Zq c∧(CT.ct cid).2∈Zq c)∨((CT.ct cid).1=.skip∧(CT.ct cid).2=.skip):=by
       rw [hct cid]
       simp only [ctF,hf,hb,Option.getD_some]
       cases hr:YK (cid % 100000) c with
       | none=>exact .inr ⟨rfl,rfl⟩
       | some x=>exact .inl (jL c hr)
      obtain ⟨r,h',h3,h4⟩:=qFj (K:=cid / 100000) hE hd h1 (fun ps n sl cid' fn' d hgl=>by
       unfold qG3 at hcid
       rw [hgl] at hcid
       simp only [Option.some.injEq] at hcid
       subst hcid
       rcases hct with ⟨u1,u2⟩ | ⟨u1,u2⟩
       ·refine ⟨fun b hb'=>qy4 hd hE g1 g3 20 b ?_,g3 _ u1,g3 _ u2,qcF,qcF⟩
        rcases List.mem_append.1 hb' with h5 | h5
        ·exact Q0 c u1 h5
        ·exact Q0 c u2 h5
       ·rw [u1,u2]
        exact ⟨fun b hb'=>by simp [outer] at hb',rg0 rfl,rg0 rfl,qcF,qcF⟩) lvl
      have h4:(r,h')=a:=h4
      subst h4
      exact ⟨(r,h'),h3,hz⟩
     ·simp at hrs
    ·simp at hrs
   ·simp at hrs
  ·simp at hrs
 ·simp at hrs
theorem qT2 [CT] (P:Program) (hct:∀ cid,CT.ct cid=ctF P cid) {HH:FuncId→TH} {ks:List FuncId} {base:List Ent} {N:Nat} (hd:P.follows .mixedOrders=true) (hb:qQ P base) (hks:qtd P ks):∀ n,KS P (qGP P HH ks base N n):=by
 intro n
 induction n with
 | zero=>exact qoZ hb
 | succ n ih=>
  intro lvl f args h rs hrs y hy α κ z hz
  simp only [qGP] at hrs
  split at hrs
  ·rename_i rs' h1
   simp only [Option.some.injEq] at hrs
   subst hrs
   exact qoZ hb lvl f args h _ h1 y hy α κ z hz
  ·exact qMk P hct hd hks ih lvl f args h rs hrs y hy α κ z hz
def qOA [CT] (P:Program) (HH:FuncId→TH) (ks:List FuncId) (base:List Ent) (N n K:Nat):Option (AV×Ob):=match qNJ P HH ks (qGP P HH ks base N n) N 0 (.fn (.func K) [] []) [] [] with
 | some rs=>Option.bind rs.o fun y=>(rs.cse (AV×Ob) (fun x=>.ret (x.1.er,erO x.2)) y).run some
 | none=>none
theorem qWF [CT] (P : Program) (hct : ∀ cid, CT.ct cid = ctF P cid) {HH : FuncId → TH} {ks : List FuncId} {base : List Ent} {N n K : Nat} {b : Bool} (hd : P.follows .mixedOrders = true) (hb : qQ P base) (hks : qtd P ks)
    (h:qOA P HH ks base N n K=some (.pv (.b b),[])):ze P (smF ⟨K,[],[],[],[]⟩ [] Bool (fun _=>some b) cs1 fun _ z=>(xb z,[])):=by
 refine qd5 fun x z hz l=>?_
 obtain rfl:=Option.some.inj hz
 unfold qOA at h
 split at h
 ·rename_i rs h1
  obtain ⟨y,h3,h4⟩:=Option.bind_eq_some_iff.1 h
  obtain ⟨a,h5,h6⟩:=Tree.J9 h4
  simp only [Option.some.injEq] at h6
  subst h6
  obtain ⟨x',h7,h8⟩:=qMk P hct hd hks (qT2 P hct hd hb hks n) _ _ _ _ rs h1 y h3 _ _ _ h5
  have h8:(x'.1.er,erO x'.2)=(AV.pv (.b b),[]):=h8
  simp only [Prod.mk.injEq] at h8
  rw [h8.1,h8.2] at h7
  exact h7
 ·simp at h
end Go.Rx
end
noncomputable section
namespace Go.Rx
theorem qYi [CT] {P:Program} {p:FP} {ts:List Ty} {Z:Type} {F G:Xs ts→Option Z} {c:CS Z} {out:Xs ts→Z→TV×THp} (h:ze P (smF p ts Z F c out)) (hg:∀ x z,G x=some z→F x=some z):ze P (smF p ts Z G c out):=by
 intro f args hp rs hs y hy α k z hz
 unfold smF at hs
 split at hs
 ·rename_i ds ls hm
  split at hs
  ·rename_i x hx
   simp only [Option.some.injEq] at hs
   subst hs
   obtain ⟨hl,hG⟩:=qfY hy
   refine h f args hp ⟨Z,zY ls (F x),fun α k z=>c.cs α (fun z=>k (out x z)) z⟩ ?_ y ?_ α k z hz
   ·unfold smF; rw [hm]; simp only [hx]
   ·show zY ls (F x)=some y
    have hy:zY ls (G x)=some y:=hy
    rw [hG] at hy
    rw [hg x y hG]; exact hy
  ·simp at hs
 ·simp at hs
def qJH {Z:Type}:List (List UInt8×Z)→List UInt8→Option Z
 | [],_=>none
 | (a,z)::r,x=>bif dS a x then some z else qJH r x
def qNp {Z:Type} (F:List UInt8→Option Z):List (List UInt8×Z)→Prop
 | []=>True
 | (a,z)::r=>F a=some z∧qNp F r
theorem qMB {Z:Type} {F:List UInt8→Option Z}:∀ {l:List (List UInt8×Z)},qNp F l→∀ x z,qJH l x=some z→F x=some z
 | [],_,_,_,h=>by simp [qJH] at h
 | (a,y)::r,ht,x,z,h=>by
  unfold qJH at h
  cases e:dS a x with
  | true=>
   rw [e] at h
   rw [← (qBf a x).1 e,ht.1]; exact h
  | false=>rw [e] at h; exact qMB ht.2 x z h
end Go.Rx
namespace Go.Rx
end Go.Rx
end
noncomputable section
namespace Go.Rx
theorem qVE {α:Type} (l:List α) (k:Nat):zl l (k:Int)=l[k]?:=by simp [zl]
theorem qXC {α:Type} {l:List α} {k:Nat} (h:k < l.length):zl l (k:Int)=some l[k]:=by rw [qVE,List.getElem?_eq_getElem h]
theorem zf (k:Nat):(k:Int) + 1=((k + 1:Nat):Int):=by omega
theorem dec_lt {a b:Nat} (h:a < b):decide ((a:Int) < (b:Int))=true:=decide_eq_true (by omega)
theorem zn {a b:Nat} (h:¬ a < b):decide ((a:Int) < (b:Int))=false:=decide_eq_false (by omega)
end Go.Rx
end
noncomputable section
namespace Go.Rx
section m
variable {κ ν:Type} [DecidableEq κ]
def qzm (k:κ) (m:List (κ×ν×Nat)):Option ν:=(qmX k m).map (·.1)
theorem qty {k:κ} {e:κ×ν×Nat} {m:List (κ×ν×Nat)}:qzm k (e::m)=if k=e.1 then some e.2.1 else qzm k m:=by
 unfold qzm
 rw [qmX]
 split<;>rfl
theorem qyX {k k':κ} {x:ν} {c:Nat}:∀ {m:List (κ×ν×Nat)},qzm k' (qkJ k x c m).2=if k'=k then some x else qzm k' m
 | []=>by simp only [qkJ,qty]
 | e::m=>by
  unfold qkJ
  split
  ·rename_i h
   subst h
   simp only [qty]
   split<;>rfl
  ·rename_i h
   simp only [qty,qyX (m:=m)]
   split
   ·rename_i h1
    subst h1
    rw [if_neg (fun h2=>h h2.symm)]
   ·rfl
end m
end Go.Rx
end
noncomputable section
namespace Go.Rx
theorem zO {α:Type} {l:List α} {k:Nat} {d:α} (h:k < l.length):zl l (k:Int)=some (l.getD k d):=by
 rw [qXC h]; simp [List.getD,List.getElem?_eq_getElem h]
def Qm (p:Nat→Bool):Nat→Nat→Option Nat
 | 0,_=>none
 | m + 1,k=>if p k then some k else Qm p m (k + 1)
def qIC (q:Nat→Bool):Nat→Nat→Bool
 | 0,_=>true
 | m + 1,k=>q k&&qIC q m (k + 1)
theorem qoh {p:Nat→Bool}:∀ {m k i:Nat},Qm p m k=some i→p i=true∧k≤i∧i < k + m∧∀ j,k≤j→j < i→p j=false
 | 0,k,i,h=>by simp [Qm] at h
 | m + 1,k,i,h=>by
  unfold Qm at h
  split at h
  ·simp at h; subst h
   exact ⟨by assumption,by omega,by omega,fun j h1 h2=>by omega⟩
  ·obtain ⟨h1,h2,h3,h4⟩:=qoh h
   refine ⟨h1,by omega,by omega,fun j h5 h6=>?_⟩
   by_cases hj:j=k
   ·subst hj; simp_all
   ·exact h4 j (by omega) h6
theorem qx5 {p:Nat→Bool}:∀ {m k:Nat},Qm p m k=none→∀ j,k≤j→j < k + m→p j=false
 | 0,k,_,j,h1,h2=>by omega
 | m + 1,k,h,j,h1,h2=>by
  unfold Qm at h
  split at h
  ·simp at h
  ·by_cases hj:j=k
   ·subst hj; simp_all
   ·exact qx5 h j (by omega) (by omega)
theorem qlM {p q:Nat→Bool}:∀ {m k:Nat},(∀ j,k≤j→j < k + m→p j=q j)→Qm p m k=Qm q m k
 | 0,_,_=>rfl
 | m + 1,k,h=>by
  unfold Qm
  rw [h k (by omega) (by omega),qlM (fun j h1 h2=>h j (by omega) (by omega))]
theorem qJ0 {q:Nat→Bool}:∀ {m k:Nat},qIC q m k=true↔∀ j,k≤j→j < k + m→q j=true
 | 0,k=>by simp [qIC]; intro j h1 h2; omega
 | m + 1,k=>by
  unfold qIC
  rw [Bool.and_eq_true,qJ0]
  constructor
  ·intro h j h1 h2
   by_cases hj:j=k
   ·subst hj; exact h.1
   ·exact h.2 j (by omega) (by omega)
  ·intro h
   exact ⟨h k (by omega) (by omega),fun j h1 h2=>h j (by omega) (by omega)⟩
end Go.Rx
end
noncomputable section
namespace Go.Rx
variable {P:Program} {G:Gh} {w:World}
theorem qIP (x:List UInt8):Go.Lib.bytesOf (x.map fun c=>(c.toNat:Int))=x:=by
 unfold Go.Lib.bytesOf
 rw [List.map_map]
 conv=>rhs; rw [← List.map_id x]
 refine List.map_congr_left fun c _=>?_
 simp
theorem qAE {x:List UInt8} {v:Value} (h:qG G w (.bl x) [v]):(Extern.Bytes.bytesOf v).run P w=.ok ⟨x.toArray⟩ w:=by
 obtain ⟨a,cap,h1,h2,h3⟩:=h
 simp only [List.cons.injEq,and_true] at h1
 subst h1
 rcases h3 with rfl | ⟨b,off,rfl,hc,_⟩
 ·cases a<;>rfl
 ·have hl := Go.Lib.run_loadBytesX (P := P) w (x.map fun c => (c.toNat : Int)) ⟨b, off, none⟩ .empty (fun j n hj => by
     simp only [List.getElem?_map,Option.map_eq_some_iff] at hj
     obtain ⟨c,hj,rfl⟩:=hj
     have hjl:=(List.getElem?_eq_some_iff.1 hj).1
     have e:(⟨b,off,none⟩:Addr).add j=⟨b,off + j,none⟩:=by unfold Addr.add; split<;>simp_all
     rw [e,hc j (by simpa using hjl),List.getElem?_map,hj]
     rfl)
  rw [qIP,List.length_map] at hl
  show (Extern.Bytes.loadBytes ⟨b,off,none⟩ x.length .empty).run P w=_
  rw [hl]
  congr 1
  apply ByteArray.ext
  show (#[]:Array UInt8)++x.toArray=x.toArray
  simp
theorem qRj {K : FuncId} {fn : Func} (hf : P.funcs[K]? = some fn) (hb : fn.body = none) (hn : (fn.name == "runtime.NumGoroutine") = false) (h1 : Extern.findNext fn = none) (h2 : Extern.find fn = some Extern.BytealgCompare.compare) (x y : List UInt8) (l : Nat) :
    Valid P l (.fn (.func K) [] []) [.pv (.bl x),.pv (.bl y)] [] (.ret (.pv (.i .i64 (Go.Lib.compareBytes x y)))) []:=by
 intro γ G w vf vas H hvf hva
 have h0:=zx rfl rfl hvf
 simp only [qm] at h0
 obtain ⟨va,vc,h0,ha,hc⟩:=h0
 simp only [zB] at ha hc
 subst ha; subst hc
 simp only [List.cons.injEq,and_true] at h0
 subst h0
 simp only [zB] at hva
 obtain ⟨c1,v1,r1,rfl,hc1,ho1,c2,v2,r2,rfl,hc2,ho2,rfl⟩:=hva
 simp only [qm] at hc1 hc2
 have e1:c1=[v1]:=ho1
 have e2:c2=[v2]:=ho2
 subst e1; subst e2
 refine ⟨_,rfl,?_⟩
 unfold X2
 have hx:=qAE (P:=P) hc1
 have hy:=qAE (P:=P) hc2
 have hrun:(do let d ← Deferred.ofValue (.func (.func K) ([]:List Value).toArray ([]:List Value).toArray) [v1,v2].toArray; invoke d.target d.args:Sem Next).run P w=.ok (.value (.int .i64 (Go.Lib.compareBytes x y))) w:=by
  have e:(Extern.BytealgCompare.compare [v1,v2].toArray).run P w=.ok (.int .i64 (Go.Lib.compareBytes x y)) w:=by
   show (do pure (goInt (Extern.BytealgCompare.cmp (← Extern.Bytes.bytesOf v1) (← Extern.Bytes.bytesOf v2))):Sem Value).run P w=_
   simp only [Sem.run_bind,Sem.run_pure,Result.andThen,hx,hy]
   rw [Go.Lib.cmp_eq]
   rfl
  simp only [Deferred.ofValue,Sem.run_bind,Sem.run_pure,Result.andThen_ok,invoke,callFunc,run_program,hf,hn,hb,h1,h2,Option.isNone_none,Bool.false_eq_true,if_false,if_true,run_mark]
  simp only [Array.append_empty,List.append_toArray,List.nil_append,List.append_nil]
  rw [e]
  rfl
 rw [hrun]
 refine ⟨γ,G,H,Trans.refl H,?_⟩
 exact ⟨_,rfl,rfl⟩
end Go.Rx
end
noncomputable section
namespace Go.Rx
def qT_ (x y:List UInt8):Option Int:=some (Go.Lib.compareBytes x y)
def qXV (K:FuncId):Ent:=smF ⟨K,[],[.x .bl,.x .bl],[],[]⟩ [.bl,.bl] Int (fun x=>qT_ x.1 x.2.1) cs1 fun _ z=>(xi z,[])
theorem qWK [CT] {P:Program} {K:FuncId} {fn:Func} (hf:P.funcs[K]?=some fn) (hb:fn.body=none) (hn:(fn.name == "runtime.NumGoroutine")=false) (h1:Extern.findNext fn=none) (h2:Extern.find fn=some Extern.BytealgCompare.compare):ze P (qXV K):=
 qd5 fun x z h l=>by
  obtain ⟨a,b,_⟩:=x
  obtain rfl:=Option.some.inj h
  exact qRj hf hb hn h1 h2 a b l
end Go.Rx
end
