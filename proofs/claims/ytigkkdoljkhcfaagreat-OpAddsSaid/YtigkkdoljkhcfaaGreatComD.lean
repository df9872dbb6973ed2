/- A machine over pure data, sound for the model: a part of the proof of the laws. No condition. -/
import Derived.Lib.BytesEntry
import Derived.Test.YtigkkdoljkhcfaaGreatComC
set_option linter.unusedSimpArgs false
set_option linter.unusedVariables false
set_option linter.unusedSectionVars false
noncomputable section
namespace Go.Rx
variable {α β γ:Type} [CT]
abbrev xi (n:Int):TV:=.tv (.i .i64) n
abbrev xb (b:Bool):TV:=.tv .b b
abbrev dv (t:Ty) (x:El t):DV:=⟨t,x⟩
def qaE (k:IntKind) (a b:Int):Int:=k.wrap (a + b)
def qJR (k:IntKind) (a b:Int):Int:=k.wrap (a - b)
def qKk (k:IntKind) (a b:Int):Int:=k.wrap (a * b)
def qsD (k:IntKind) (a:Int) (n:Nat):Int:=k.wrap (a * 2 ^ n)
def ZT (a:Int) (n:Nat):Int:=a.fdiv (2 ^ n)
def qfm (k:IntKind) (a b:Int):Int:=k.wrap (BitVec.ofInt k.bits a &&& BitVec.ofInt k.bits b).toNat
def uOr (k:IntKind) (a b:Int):Int:=k.wrap (BitVec.ofInt k.bits a ||| BitVec.ofInt k.bits b).toNat
def qav (k:IntKind) (a b:Int):Int:=k.wrap (BitVec.ofInt k.bits a ^^^ BitVec.ofInt k.bits b).toNat
def LG (P:Program) (H:TH) (K:FuncId) (c:Code) (σ:TSt) (x:Ex×TSt):Prop:=∃ n,qcK (Qu P H.hn (Valid P) K c) n σ.er x.1 x.2.er
structure RA where
 args:List TV
 h:THp
def qm9 (args:List VP) (hp:List (Nat×OP)) (ds:List DV):RA:=
 let V:=(jD hp ds).1
 let o:=Qn V hp V (jD hp ds).2
 ⟨(Zs V args o.2).1,o.1⟩
def mtR (l:Nat) (pa:List VP) (hp:List (Nat×OP)) (f:TV) (args:List TV) (h:THp):Mt:=match f with
 | .yl l'=>match Qb hp h with
  | some (d0,V)=>KD (Nat.beq l l') (XP (some (d0,[])) (XP (Xi V hp h) (qdt V pa args)))
  | none=>none
 | _=>none
theorem qJU {l : Nat} {pa : List VP} {hp : List (Nat × OP)} {f : TV} {args : List TV} {h : THp} {ds : List DV} {ls : List (Nat × Nat)} (hm : mtR l pa hp f args h = some (ds, ls)) (hl : QF ls) :
    f.er=.yl l∧TV.ers args=TV.ers (qm9 pa hp ds).args∧erO h=erO (qm9 pa hp ds).h:=by
 unfold mtR at hm
 split at hm
 ·split at hm
  ·rename_i d0 V h0
   obtain ⟨h1,hm⟩:=Qe hm
   obtain ⟨d1,p1,d2,p2,e1,e2,rfl,rfl⟩:=vR hm
   simp only [Option.some.injEq,Prod.mk.injEq] at e1
   obtain ⟨rfl,rfl⟩:=e1
   obtain ⟨d3,p3,d4,p4,e3,e4,rfl,rfl⟩:=vR e2
   obtain ⟨_,hl⟩:=hl.app
   obtain ⟨hl1,hl2⟩:=hl.app
   have g0:=Yr _ _ _ _ h0 (d3++d4)
   obtain ⟨g1,g2⟩:=qaR _ _ _ _ _ _ h0 e3 hl1 d4
   obtain ⟨g3,g4⟩:=Ka _ _ _ _ e4 hl2 []
   rw [List.append_nil] at g3
   simp only [qm9,g0,g1,g2,g3,TV.er,Nat.eq_of_beq_eq_true h1,and_self]
  ·simp at hm
 ·simp at hm
def smR (l:Nat) (pa:List VP) (hp:List (Nat×OP)) (ts:List Ty) (Z:Type) (F:Xs ts→Option Z) (c:CS Z) (out:Xs ts→Z→TV×THp):Ent:=fun f args h=>match mtR l pa hp f args h with
 | some (ds,ls)=>match qmw ts ds with
  | some x=>some ⟨Z,vg ls (F x),fun α k z=>c.cs α (fun z=>k (out x z)) z⟩
  | none=>none
 | none=>none
def qvd (h:THp) (l:Nat):Option Nat:=match get h l with
 | some (.loop _ _ _ cid _ _ _ _)=>some cid
 | _=>none
theorem qKO {P : Program} {H : TH} {E : List Ent} {L : WQ} {K : FuncId} {l cid : Nat} {pa : List VP} {hp : List (Nat × OP)} {ts : List Ty} {Z : Type} {T : Xs ts → Tree Z} {cs : CS Z} {out : Xs ts → Z → TV × THp} (lvl : Nat) (hd : P.follows .mixedOrders = true) (hE : qT P E)
    (ha:outer (CT.ct cid).1=[]) (hL:∀ b∈outer (CT.ct cid).2,K5 P H L K b) (hr1:ji K (CT.ct cid).1) (hr2:ji K (CT.ct cid).2) (hc:∀ x,qvd (qm9 pa hp (dsX ts x)).h l=some cid)
    (hb:∀ x,qq4 P H (env E) L K lvl l (qm9 pa hp (dsX ts x)).args (qm9 pa hp (dsX ts x)).h (fun r h'=>.ret (r.er,erO h'))=(T x).map fun z=>((out x z).1.er,erO (out x z).2)) (hS1:Wi P H L K (CT.ct cid).1:=by exact js0 rfl) (hS2:Wi P H L K (CT.ct cid).2:=by exact js0 rfl) :
    zc P (smR l pa hp ts Z (fun x=>(T x).run some) cs out):=by
 intro f args h rs hs y hy α k z hz
 unfold smR at hs
 split at hs
 ·rename_i ds ls hm
  split at hs
  ·rename_i x hx
   simp only [Option.some.injEq] at hs
   subst hs
   obtain ⟨hl,hF⟩:=qbC hy
   have:=qm6 hx
   subst this
   obtain ⟨e1,e2,e3⟩:=qJU hm hl
   refine ⟨out x y,fun lv=>?_,cs.ok α _ y z hz⟩
   rw [e1,e2,e3]
   obtain ⟨a,h1,h2⟩:=Tree.Zx hF
   simp only [Option.some.injEq] at h2
   subst h2
   have h3:=Tree.Xl (g:=fun z=>((out x z).1.er,erO (out x z).2)) h1
   rw [← hb x] at h3
   obtain ⟨r,h',h4,h5⟩:=qth (qhK hE) hd h3 (fun ps n sl cid' fn d hg=>by
    have:=hc x
    unfold qvd at this
    rw [hg] at this
    simp only [Option.some.injEq] at this
    subst this
    refine ⟨fun b hb=>?_,hr1,hr2,hS1,hS2⟩
    rw [ha,List.nil_append] at hb
    exact hL b hb) lv
   have h5:(r.er,erO h')=((out x a).1.er,erO (out x a).2):=h5
   simp only [Prod.mk.injEq] at h5
   rw [← h5.1,← h5.2]
   exact h4
  ·simp at hs
 ·simp at hs
def V5 (r:Nat):Code→Option (Code×Code)
 | .seq a b=>match V5 r a with
  | some x=>some x
  | none=>V5 r b
 | .cond _ a b=>match V5 r a with
  | some x=>some x
  | none=>V5 r b
 | .block _ c=>V5 r c
 | .loop c=>V5 r c
 | .scope c=>V5 r c
 | .rangeFunc _ _ a b=>match Nat.beq (zq (.seq a b)) r with
  | true=>some (a,b)
  | false=>match V5 r a with
   | some x=>some x
   | none=>V5 r b
 | _=>none
def qlP (t:Ty) (x:El t):Prop:=match t,x with
 | .bl,x=>x=([]:List UInt8)
 | .sl _ u,x=>x=([]:List (El u))
 | _,_=>False
theorem qmU {P : Program} {l : Nat} {f : AV} {h h' : Ob} {o : Out} {t : Ty} {x : El t} (hx : qlP t x) (pre post : List AV) (h0 : Valid P l f (pre ++ .es 0 :: post) h o h') (h1 : Valid P l f (pre ++ .es 1 :: post) h o h') :
    Valid P l f (pre++.pv (qw t x)::post) h o h':=by
 refine Valid.maybe ?_ pre post h0 h1
 unfold qlP at hx
 split at hx
 ·left; subst hx; rfl
 ·right; subst hx; exact ⟨_,rfl⟩
 ·exact hx.elim
theorem qJh {P:Program} {l n sz:Nat} {f:AV} {args:List AV} {h h' ho:Ob} {x:PV} (hx:qbk x=some sz) (hl:get h' n=none) (he:ho=ins n (.vec false sz x) h') (hv:Valid P l f args h (.ret .nils) h'):Valid P l f args h (.ret (.v n 0)) ho:=by
 subst he
 intro γ G w vf vas H hf ha
 obtain ⟨r,e,hc⟩:=hv γ G w vf vas H hf ha
 cases e
 refine ⟨_,rfl,hc.mono ?_⟩
 rintro v w' ⟨γ',G',h1,h2,h3⟩
 obtain ⟨g1,g2,g3⟩:=qpU h1 hx hl
 rw [jr] at h3
 subst h3
 exact ⟨_,G',g1,h2.then g2,zg rfl g3⟩
end Go.Rx
end
noncomputable section
namespace Go.Rx
def Qd:Code→List Code
 | .seq a b=>Qd a++Qd b
 | .cond _ a b=>Qd a++Qd b
 | .block _ c=>Qd c
 | .scope c=>Qd c
 | .loop c=>c::Qd c
 | .rangeFunc _ _ a b=>a::b::(Qd a++Qd b)
 | _=>[]
def loops:Code→List Code
 | .seq a b=>loops a++loops b
 | .cond _ a b=>loops a++loops b
 | .block _ c=>loops c
 | .scope c=>loops c
 | .loop c=>c::loops c
 | .rangeFunc _ _ a b=>loops a++loops b
 | _=>[]
theorem QV:∀ (c:Code) {b:Code},b∈outer c→b∈loops c
 | .seq x y,b,h=>by
  rcases List.mem_append.1 h with h | h
  ·exact List.mem_append_left _ (QV x h)
  ·exact List.mem_append_right _ (QV y h)
 | .cond _ x y,b,h=>by
  rcases List.mem_append.1 h with h | h
  ·exact List.mem_append_left _ (QV x h)
  ·exact List.mem_append_right _ (QV y h)
 | .block _ c,b,h=>QV (b:=b) c h
 | .scope c,b,h=>QV (b:=b) c h
 | .loop c,b,h=>by rw [List.mem_singleton.1 h]; exact List.mem_cons_self ..
 | .skip,_,h | .label _,_,h | .region ..,_,h | .exit _,_,h | .goto _,_,h | .ret,_,h | .rangeFunc ..,_,h | .refuse _,_,h=>by simp [outer] at h
theorem vQ:∀ (c:Code) {u b:Code},u∈Qd c→b∈outer u→b∈loops c
 | .seq x y,u,b,h,hb=>by
  rcases List.mem_append.1 h with h | h
  ·exact List.mem_append_left _ (vQ x h hb)
  ·exact List.mem_append_right _ (vQ y h hb)
 | .cond _ x y,u,b,h,hb=>by
  rcases List.mem_append.1 h with h | h
  ·exact List.mem_append_left _ (vQ x h hb)
  ·exact List.mem_append_right _ (vQ y h hb)
 | .block _ c,u,b,h,hb=>vQ (u:=u) (b:=b) c h hb
 | .scope c,u,b,h,hb=>vQ (u:=u) (b:=b) c h hb
 | .loop c,u,b,h,hb=>by
  rcases List.mem_cons.1 h with rfl | h
  ·exact List.mem_cons_of_mem _ (QV _ hb)
  ·exact List.mem_cons_of_mem _ (vQ c h hb)
 | .rangeFunc _ _ x y,u,b,h,hb=>by
  rcases List.mem_cons.1 h with rfl | h
  ·exact List.mem_append_left _ (QV _ hb)
  ·rcases List.mem_cons.1 h with rfl | h
   ·exact List.mem_append_right _ (QV _ hb)
   ·rcases List.mem_append.1 h with h | h
    ·exact List.mem_append_left _ (vQ x h hb)
    ·exact List.mem_append_right _ (vQ y h hb)
 | .skip,_,_,h,_ | .label _,_,_,h,_ | .region ..,_,_,h,_ | .exit _,_,_,h,_ | .goto _,_,_,h,_ | .ret,_,_,h,_ | .refuse _,_,_,h,_=>by simp [Qd] at h
theorem Qm:∀ (c:Code) {b:Code},b∈loops c→b∈Qd c
 | .seq x y,b,h=>by
  rcases List.mem_append.1 h with h | h
  ·exact List.mem_append_left _ (Qm x h)
  ·exact List.mem_append_right _ (Qm y h)
 | .cond _ x y,b,h=>by
  rcases List.mem_append.1 h with h | h
  ·exact List.mem_append_left _ (Qm x h)
  ·exact List.mem_append_right _ (Qm y h)
 | .block _ c,b,h=>Qm (b:=b) c h
 | .scope c,b,h=>Qm (b:=b) c h
 | .loop c,b,h=>by
  rcases List.mem_cons.1 h with rfl | h
  ·exact List.mem_cons_self ..
  ·exact List.mem_cons_of_mem _ (Qm c h)
 | .rangeFunc _ _ x y,b,h=>by
  refine List.mem_cons_of_mem _ (List.mem_cons_of_mem _ ?_)
  rcases List.mem_append.1 h with h | h
  ·exact List.mem_append_left _ (Qm x h)
  ·exact List.mem_append_right _ (Qm y h)
 | .skip,_,h | .label _,_,h | .region ..,_,h | .exit _,_,h | .goto _,_,h | .ret,_,h | .refuse _,_,h=>by simp [loops] at h
theorem jj {r:Nat}:∀ (c:Code) {x:Code×Code},V5 r c=some x→x.1∈Qd c∧x.2∈Qd c
 | .seq a b,x,h=>by
  simp only [V5] at h
  split at h
  ·rename_i e
   simp only [Option.some.injEq] at h; subst h
   exact ⟨List.mem_append_left _ (jj a e).1,List.mem_append_left _ (jj a e).2⟩
  ·exact ⟨List.mem_append_right _ (jj b h).1,List.mem_append_right _ (jj b h).2⟩
 | .cond _ a b,x,h=>by
  simp only [V5] at h
  split at h
  ·rename_i e
   simp only [Option.some.injEq] at h; subst h
   exact ⟨List.mem_append_left _ (jj a e).1,List.mem_append_left _ (jj a e).2⟩
  ·exact ⟨List.mem_append_right _ (jj b h).1,List.mem_append_right _ (jj b h).2⟩
 | .block _ c,x,h=>jj (x:=x) c h
 | .scope c,x,h=>jj (x:=x) c h
 | .loop c,x,h=>⟨List.mem_cons_of_mem _ (jj c h).1,List.mem_cons_of_mem _ (jj c h).2⟩
 | .rangeFunc _ _ a b,x,h=>by
  simp only [V5] at h
  split at h
  ·simp only [Option.some.injEq] at h; subst h
   exact ⟨List.mem_cons_self ..,List.mem_cons_of_mem _ (List.mem_cons_self ..)⟩
  ·split at h
   ·rename_i e
    simp only [Option.some.injEq] at h; subst h
    exact ⟨List.mem_cons_of_mem _ (List.mem_cons_of_mem _ (List.mem_append_left _ (jj a e).1)),List.mem_cons_of_mem _ (List.mem_cons_of_mem _ (List.mem_append_left _ (jj a e).2))⟩
   ·exact ⟨List.mem_cons_of_mem _ (List.mem_cons_of_mem _ (List.mem_append_right _ (jj b h).1)),List.mem_cons_of_mem _ (List.mem_cons_of_mem _ (List.mem_append_right _ (jj b h).2))⟩
 | .skip,_,h | .label _,_,h | .region ..,_,h | .exit _,_,h | .goto _,_,h | .ret,_,h | .refuse _,_,h=>by simp [V5] at h
def ctF (P:Program) (cid:Nat):Code×Code:=match P.funcs[cid / 100000]? with
 | some f=>((V5 (cid % 100000) (f.body.getD .skip)).getD (.skip,.skip))
 | none=>(.skip,.skip)
def noR (c:Code):Bool:=(ranges c).isEmpty&&(Qd c).all fun u=>(ranges u).isEmpty
section m
variable [CT] (P:Program) (HH:FuncId→TH) (ks:List FuncId)
def qh7 (H:TH) (E:Env) (L:WQ) (K:FuncId) (b:Code):Nat→TSt→Option (Ex×TSt)
 | 0,_=>none
 | n + 1,σ=>match (Je P H E L K b σ fun e σ=>.ret (e,σ)).run some with
  | some (.normal,σ')=>qh7 H E L K b n σ'
  | some (e,σ')=>some (e,σ')
  | none=>none
def qeq (H:TH) (E:Env) (K:FuncId) (us:List Code) (N:Nat):Nat→WQ
 | 0,_,_=>none
 | m + 1,key,σ=>match Nat.ble 1000000 key with
  | true=>none
  | false=>match get (us.map fun b=>(zq b,b)) key with
   | some b=>some ⟨Ex×TSt,qh7 P H E (qeq H E K us N m) K b N σ,fun _ κ y=>κ y⟩
   | none=>none
def qqG (k:FuncId) (c:Code):Bool:=Ya ((loops c).map zq)&&(has ks k||noR c)
def qvw:(t:Ty)→El t→Bool
 | .bl,x=>List.isEmpty (α:=UInt8) x
 | .sl _ u,x=>List.isEmpty (α:=El u) x
 | _,_=>false
def qpK:List TV→Option (List TV×TV×List TV)
 | []=>none
 | .tv t x::r=>match qvw t x with
  | true=>some ([],.tv t x,r)
  | false=>match qpK r with
   | some (a,y,b)=>some (.tv t x::a,y,b)
   | none=>none
 | z::r=>match qpK r with
  | some (a,y,b)=>some (z::a,y,b)
  | none=>none
def qCW (x y:Option (TV×THp)):Option (TV×THp):=match x,y with
 | some (.tv t a,[]),some (.tv u b,[])=>match cast? u t b with
  | some b'=>match eqE t a b' with
   | true=>some (.tv t a,[])
   | false=>none
  | none=>none
 | _,_=>none
def qvy (E:Env) (N:Nat) (H:TH) (k:FuncId) (fn:Func) (c:Code) (lvl:Nat) (args:List TV) (h:THp):Option (TV×THp):=(qvW P H E (qeq P H E k (loops c) N 20) k fn c lvl args h fun r h=>.ret (r,h)).run some
def qCl (E:Env) (N:Nat) (lvl:Nat) (f:TV) (args:List TV) (h:THp):Option (Rs' (TV×THp)):=match f with
 | .fn (.func k) first cap=>match P.funcs[k]? with
  | some fn=>match fn.body with
   | some c=>match qqG ks k c&&!(fn.name == "runtime.NumGoroutine") with
    | true => some ⟨TV × THp, match qvy P E N (HH k) k fn c lvl (first ++ args ++ cap) h with
        | some y=>some y
        | none=>match qpK args with
         | some (a,_,b)=>qCW (qvy P E N { HH k with esc:=false } k fn c lvl (first++(a++.es 0::b)++cap) h) (qvy P E N { HH k with esc:=false } k fn c lvl (first++(a++.es 1::b)++cap) h)
         | none=>none,fun _ κ y=>κ y⟩
    | false=>none
   | none=>none
  | none=>none
 | .yl l=>match qvd h l with
  | some cid=>match P.funcs[cid / 100000]? with
   | some fn=>match fn.body with
    | some c=>match qqG ks (cid / 100000) c with
     | true=>some ⟨TV×THp,(qq4 P (HH (cid / 100000)) E (qeq P (HH (cid / 100000)) E (cid / 100000) (loops c) N 20) (cid / 100000) (lvl + 1) l args h fun r h=>.ret (r,h)).run some,fun _ κ y=>κ y⟩
     | false=>none
    | none=>none
   | none=>none
  | none=>none
 | _=>none
def qvi (base:List Ent) (N:Nat):Nat→Env
 | 0=>env base
 | n + 1=>fun lvl f args h=>match env base lvl f args h with
  | some rs=>some rs
  | none=>qCl P HH ks (qvi base N n) N lvl f args h
end m
section o
variable [CT] {P:Program} {HH:FuncId→TH} {ks:List FuncId}
theorem qrn (hm:P.follows .mixedOrders=true) {H:TH} {E:Env} {L:WQ} {K:FuncId} {b:Code} (hE:X6 P E) (hL:∀ c∈outer b,K5 P H L K c) (hr:ji K b) (hS:Wi P H L K b):∀ (n:Nat) (σ:TSt) (y:Ex×TSt),qh7 P H E L K b n σ=some y→∃ m,qcK (Qu P H.hn (Valid P) K b) m σ.er y.1 y.2.er
 | 0,_,_,h=>by simp [qh7] at h
 | n + 1,σ,y,h=>by
  simp only [qh7] at h
  have key:∀ x,(Je P H E L K b σ fun e σ=>.ret (e,σ)).run some=some x→Qu P H.hn (Valid P) K b σ.er x.1 x.2.er:=fun x hx=>by
   obtain ⟨a,h1,h2⟩:=Tree.Zx hx
   simp only [Option.some.injEq] at h2
   subst h2
   obtain ⟨e,σ',h3,h4⟩:=J1 hm hE b σ _ _ hL hr hS h1
   have h4:(e,σ')=a:=h4
   rw [← h4]; exact h3
  split at h
  ·rename_i σ' hx
   obtain ⟨m,hm⟩:=qrn hm hE hL hr hS n σ' y h
   exact ⟨m + 1,.normal,σ'.er,key _ hx,hm⟩
  ·rename_i e σ' hne hx
   simp only [Option.some.injEq] at h
   subst h
   refine ⟨1,e,σ'.er,key _ hx,?_⟩
   cases e<;>first | exact (hne rfl).elim | exact ⟨rfl,rfl⟩
  ·simp at h
theorem Kc {H:TH} {E:Env} {K:FuncId} {us:List Code} {N:Nat}:∀ {m:Nat} {c:Code},Wi P H (qeq P H E K us N m) K c
 | 0,_,_,_,_,_,_,h=>by simp [qeq] at h
 | m + 1,c,b,hb,_,σ,rs,h=>by
  simp only [qeq,Nat.ble_eq_true_of_le (qar c hb)] at h
  cases h
theorem qpz (hm:P.follows .mixedOrders=true) {H:TH} {E:Env} {K:FuncId} {c:Code} {N:Nat} (hE:X6 P E) (hd:Ya ((loops c).map zq)=true) (hr:∀ u∈Qd c,ji K u):∀ (m:Nat),∀ b∈loops c,K5 P H (qeq P H E K (loops c) N m) K b
 | 0,_,_,_,_,h,_,_,_,_,_,_=>by simp [qeq] at h
 | m + 1,b,hb,σ,rs,h,y,hy,α,k,z,hz=>by
  simp only [qeq,qfl hd hb] at h
  split at h
  ·cases h
  simp only [Option.some.injEq] at h
  subst h
  obtain ⟨n,hn⟩:=qrn hm hE (fun b' hb'=>qpz hm hE hd hr m b' (vQ c (Qm c hb) hb')) (hr b (Qm c hb)) Kc N σ y hy
  exact ⟨y,⟨_,jS.refl _,n,hn⟩,hz⟩
theorem qKf {K:FuncId} {c:Code} (h:noR c=true):ji K c∧∀ u∈Qd c,ji K u:=by
 unfold noR at h
 simp only [Bool.and_eq_true,List.all_eq_true,List.isEmpty_iff] at h
 exact ⟨rg0 h.1,fun u hu=>rg0 (h.2 u hu)⟩
end o
def qmF [CT] (P:Program):List FuncId→Prop
 | []=>True
 | k::r=>(∀ fn c,P.funcs[k]?=some fn→fn.body=some c→ji k c∧∀ u∈Qd c,ji k u)∧qmF P r
theorem qvN [CT] {P:Program}:∀ {ks:List FuncId} {k:FuncId},qmF P ks→has ks k=true→∀ fn c,P.funcs[k]?=some fn→fn.body=some c→ji k c∧∀ u∈Qd c,ji k u
 | [],k,_,h=>by simp [qnp,qpn] at h
 | a::r,k,hk,h=>by
  have:=(vn _ _).1 h
  rcases List.mem_cons.1 this with rfl | h
  ·exact hk.1
  ·exact qvN hk.2 ((vn _ _).2 h)
theorem qF_ [CT] {P : Program} {K : FuncId} {fn : Func} {c : Code} (hf : P.funcs[K]? = some fn) (hb : fn.body = some c) (h : (c :: Qd c).map (fun u => (ranges u).map fun x => CT.ct (qgi K x.1 x.2)) = (c :: Qd c).map ranges) :
    ∀ fn c,P.funcs[K]?=some fn→fn.body=some c→ji K c∧∀ u∈Qd c,ji K u:=by
 intro fn' c' h1 h2
 rw [hf] at h1
 obtain rfl:=Option.some.inj h1
 rw [hb] at h2
 obtain rfl:=Option.some.inj h2
 have key:∀ u∈c::Qd c,ji K u:=fun u hu=>rgs (List.map_inj_left.1 h u hu)
 exact ⟨key c (List.mem_cons_self ..),fun u hu=>key u (List.mem_cons_of_mem _ hu)⟩
theorem qvI [CT] {P:Program} {ks:List FuncId} (hks:qmF P ks) {k:FuncId} {fn:Func} {c:Code} (hf:P.funcs[k]?=some fn) (hb:fn.body=some c) (h:qqG ks k c=true):Ya ((loops c).map zq)=true∧ji k c∧∀ u∈Qd c,ji k u:=by
 unfold qqG at h
 simp only [Bool.and_eq_true,Bool.or_eq_true] at h
 rcases h.2 with h2 | h2
 ·exact ⟨h.1,qvN hks h2 fn c hf hb⟩
 ·exact ⟨h.1,qKf h2⟩
theorem qDt:∀ (t:Ty) (x:El t),qvw t x=true→qlP t x
 | .bl,x,h=>List.isEmpty_iff.1 h
 | .sl _ u,x,h=>List.isEmpty_iff.1 h
 | .b,x,h | .i _,x,h | .s,x,h | .ba _,x,h | .wa _,x,h | .ag _,x,h | .nat,x,h=>by simp [qvw] at h
theorem qAG:∀ (l a b:List TV) (y:TV),qpK l=some (a,y,b)→l=a++y::b∧∃ t x,y=.tv t x∧qlP t x
 | [],a,b,y,h=>by simp [qpK] at h
 | z::r,a,b,y,h=>by
  have other:(match qpK r with | some (a,y,b)=>some (z::a,y,b) | none=>none)=some (a,y,b)→z::r=a++y::b∧∃ t x,y=.tv t x∧qlP t x:=fun h=>by
   split at h
   ·rename_i a' y' b' hr
    simp only [Option.some.injEq,Prod.mk.injEq] at h
    obtain ⟨rfl,rfl,rfl⟩:=h
    obtain ⟨h1,h2⟩:=qAG r _ _ _ hr
    exact ⟨by rw [h1]; rfl,h2⟩
   ·simp at h
  cases z with
  | tv t x=>
   simp only [qpK] at h
   split at h
   ·rename_i he
    simp only [Option.some.injEq,Prod.mk.injEq] at h
    obtain ⟨rfl,rfl,rfl⟩:=h
    exact ⟨rfl,t,x,rfl,qDt t x he⟩
   ·exact other h
  | _=>exact other h
theorem qGu {x y:Option (TV×THp)} {z:TV×THp} (h:qCW x y=some z):∃ w,x=some z∧y=some w∧w.1.er=z.1.er∧w.2=z.2:=by
 unfold qCW at h
 split at h
 ·rename_i t a u b
  split at h
  ·rename_i b' hc
   split at h
   ·rename_i he
    simp only [Option.some.injEq] at h
    subst h
    obtain ⟨rfl,h3⟩:=cast?_some hc
    have:=eq_of_heq h3
    subst this
    have:=(Qj _ _ _).1 he
    subst this
    exact ⟨_,rfl,rfl,rfl,rfl⟩
   ·simp at h
  ·simp at h
 ·simp at h
theorem qsY [CT] {P : Program} {ks : List FuncId} {E : Env} {N : Nat} (hd : P.follows .mixedOrders = true) (hks : qmF P ks) (hE : X6 P E) {H : TH} {k : FuncId} {fn : Func} {c : Code} (hf : P.funcs[k]? = some fn) (hb : fn.body = some c) (hg : (qqG ks k c && !(fn.name == "runtime.NumGoroutine")) = true)
    {lvl:Nat} {first args cap:List TV} {h:THp} {y:TV×THp} (hy:qvy P E N H k fn c lvl (first++args++cap) h=some y) (l:Nat):Valid P l (.fn (.func k) (TV.ers first) (TV.ers cap)) (TV.ers args) (erO h) (.ret y.1.er) (erO y.2):=by
 simp only [Bool.and_eq_true,Bool.not_eq_true'] at hg
 obtain ⟨g1,g2,g3⟩:=qvI hks hf hb hg.1
 unfold qvy at hy
 obtain ⟨a,h1,h2⟩:=Tree.Zx hy
 simp only [Option.some.injEq] at h2
 subst h2
 obtain ⟨r,h',h3,h4⟩:=qAM (K:=k) hE (fun b hb'=>qpz hd hE g1 g3 20 b (QV c hb')) g2 hd hf hb hg.2 Kc h1 l
 have h4:(r,h')=a:=h4
 subst h4
 exact h3
theorem qAA [CT] (P:Program) (hct:∀ cid,CT.ct cid=ctF P cid) {HH:FuncId→TH} {ks:List FuncId} {E:Env} {N:Nat} (hd:P.follows .mixedOrders=true):qmF P ks→X6 P E→X6 P (qCl P HH ks E N):=by
 intro hks hE lvl f args h rs hrs y hy α κ z hz
 unfold qCl at hrs
 split at hrs
 ·rename_i k first cap
  split at hrs
  ·rename_i fn hf
   split at hrs
   ·rename_i c hb
    split at hrs
    ·rename_i hg
     simp only [Option.some.injEq] at hrs
     subst hrs
     refine ⟨y,?_,hz⟩
     simp only at hy
     split at hy
     ·rename_i y' h1
      simp only [Option.some.injEq] at hy
      subst hy
      exact qsY hd hks hE hf hb hg h1 lvl
     ·split at hy
      ·rename_i a x b hc
       obtain ⟨w,h1,h2,h3,h4⟩:=qGu hy
       obtain ⟨rfl,t,x',rfl,he⟩:=qAG _ _ _ _ hc
       have v0:=qsY hd hks hE hf hb hg h1 lvl
       have v1:=qsY hd hks hE hf hb hg h2 lvl
       rw [h3,h4] at v1
       rw [qev] at v0 v1 ⊢
       exact qmU he (TV.ers a) (TV.ers b) v0 v1
      ·simp at hy
    ·simp at hrs
   ·simp at hrs
  ·simp at hrs
 ·rename_i l
  split at hrs
  ·rename_i cid hcid
   split at hrs
   ·rename_i fn hf
    split at hrs
    ·rename_i c hb
     split at hrs
     ·rename_i hg
      simp only [Option.some.injEq] at hrs
      subst hrs
      obtain ⟨g1,g2,g3⟩:=qvI hks hf hb hg
      obtain ⟨a,h1,h2⟩:=Tree.Zx hy
      simp only [Option.some.injEq] at h2
      subst h2
      have hct:((CT.ct cid).1∈Qd c∧(CT.ct cid).2∈Qd c)∨((CT.ct cid).1=.skip∧(CT.ct cid).2=.skip):=by
       rw [hct cid]
       simp only [ctF,hf,hb,Option.getD_some]
       cases hr:V5 (cid % 100000) c with
       | none=>exact .inr ⟨rfl,rfl⟩
       | some x=>exact .inl (jj c hr)
      obtain ⟨r,h',h3,h4⟩:=qth (K:=cid / 100000) hE hd h1 (fun ps n sl cid' fn' d hgl=>by
       unfold qvd at hcid
       rw [hgl] at hcid
       simp only [Option.some.injEq] at hcid
       subst hcid
       rcases hct with ⟨u1,u2⟩ | ⟨u1,u2⟩
       ·refine ⟨fun b hb'=>qpz hd hE g1 g3 20 b ?_,g3 _ u1,g3 _ u2,Kc,Kc⟩
        rcases List.mem_append.1 hb' with h5 | h5
        ·exact vQ c u1 h5
        ·exact vQ c u2 h5
       ·rw [u1,u2]
        exact ⟨fun b hb'=>by simp [outer] at hb',rg0 rfl,rg0 rfl,Kc,Kc⟩) lvl
      have h4:(r,h')=a:=h4
      subst h4
      exact ⟨(r,h'),h3,hz⟩
     ·simp at hrs
    ·simp at hrs
   ·simp at hrs
  ·simp at hrs
 ·simp at hrs
theorem qHa [CT] (P:Program) (hct:∀ cid,CT.ct cid=ctF P cid) {HH:FuncId→TH} {ks:List FuncId} {base:List Ent} {N:Nat} (hd:P.follows .mixedOrders=true) (hb:qT P base) (hks:qmF P ks):∀ n,X6 P (qvi P HH ks base N n):=by
 intro n
 induction n with
 | zero=>exact qhK hb
 | succ n ih=>
  intro lvl f args h rs hrs y hy α κ z hz
  simp only [qvi] at hrs
  split at hrs
  ·rename_i rs' h1
   simp only [Option.some.injEq] at hrs
   subst hrs
   exact qhK hb lvl f args h _ h1 y hy α κ z hz
  ·exact qAA P hct hd hks ih lvl f args h rs hrs y hy α κ z hz
def qBS [CT] (P:Program) (HH:FuncId→TH) (ks:List FuncId) (base:List Ent) (N n K:Nat):Option (AV×Ob):=match qCl P HH ks (qvi P HH ks base N n) N 0 (.fn (.func K) [] []) [] [] with
 | some rs=>Option.bind rs.o fun y=>(rs.cse (AV×Ob) (fun x=>.ret (x.1.er,erO x.2)) y).run some
 | none=>none
theorem qJd [CT] (P : Program) (hct : ∀ cid, CT.ct cid = ctF P cid) {HH : FuncId → TH} {ks : List FuncId} {base : List Ent} {N n K : Nat} {b : Bool} (hd : P.follows .mixedOrders = true) (hb : qT P base) (hks : qmF P ks)
    (h:qBS P HH ks base N n K=some (.pv (.b b),[])):zc P (smF ⟨K,[],[],[],[]⟩ [] Bool (fun _=>some b) cs1 fun _ z=>(xb z,[])):=by
 refine qdg fun x z hz l=>?_
 obtain rfl:=Option.some.inj hz
 unfold qBS at h
 split at h
 ·rename_i rs h1
  obtain ⟨y,h3,h4⟩:=Option.bind_eq_some_iff.1 h
  obtain ⟨a,h5,h6⟩:=Tree.Zx h4
  simp only [Option.some.injEq] at h6
  subst h6
  obtain ⟨x',h7,h8⟩:=qAA P hct hd hks (qHa P hct hd hb hks n) _ _ _ _ rs h1 y h3 _ _ _ h5
  have h8:(x'.1.er,erO x'.2)=(AV.pv (.b b),[]):=h8
  simp only [Prod.mk.injEq] at h8
  rw [h8.1,h8.2] at h7
  exact h7
 ·simp at h
end Go.Rx
end
noncomputable section
namespace Go.Rx
theorem qKs [CT] {P:Program} {p:FP} {ts:List Ty} {Z:Type} {F G:Xs ts→Option Z} {c:CS Z} {out:Xs ts→Z→TV×THp} (h:zc P (smF p ts Z F c out)) (hg:∀ x z,G x=some z→F x=some z):zc P (smF p ts Z G c out):=by
 intro f args hp rs hs y hy α k z hz
 unfold smF at hs
 split at hs
 ·rename_i ds ls hm
  split at hs
  ·rename_i x hx
   simp only [Option.some.injEq] at hs
   subst hs
   obtain ⟨hl,hG⟩:=qbC hy
   refine h f args hp ⟨Z,vg ls (F x),fun α k z=>c.cs α (fun z=>k (out x z)) z⟩ ?_ y ?_ α k z hz
   ·unfold smF; rw [hm]; simp only [hx]
   ·show vg ls (F x)=some y
    have hy:vg ls (G x)=some y:=hy
    rw [hG] at hy
    rw [hg x y hG]; exact hy
  ·simp at hs
 ·simp at hs
def qwy {Z:Type}:List (List UInt8×Z)→List UInt8→Option Z
 | [],_=>none
 | (a,z)::r,x=>bif dS a x then some z else qwy r x
def qBr {Z:Type} (F:List UInt8→Option Z):List (List UInt8×Z)→Prop
 | []=>True
 | (a,z)::r=>F a=some z∧qBr F r
theorem qAD {Z:Type} {F:List UInt8→Option Z}:∀ {l:List (List UInt8×Z)},qBr F l→∀ x z,qwy l x=some z→F x=some z
 | [],_,_,_,h=>by simp [qwy] at h
 | (a,y)::r,ht,x,z,h=>by
  unfold qwy at h
  cases e:dS a x with
  | true=>
   rw [e] at h
   rw [← (qqC a x).1 e,ht.1]; exact h
  | false=>rw [e] at h; exact qAD ht.2 x z h
end Go.Rx
namespace Go.Rx
end Go.Rx
end
noncomputable section
namespace Go.Rx
theorem qGW {α:Type} (l:List α) (k:Nat):zn l (k:Int)=l[k]?:=by simp [zn]
theorem qJC {α:Type} {l:List α} {k:Nat} (h:k < l.length):zn l (k:Int)=some l[k]:=by rw [qGW,List.getElem?_eq_getElem h]
theorem zB (k:Nat):(k:Int) + 1=((k + 1:Nat):Int):=by omega
theorem dec_lt {a b:Nat} (h:a < b):decide ((a:Int) < (b:Int))=true:=decide_eq_true (by omega)
theorem jt {a b:Nat} (h:¬ a < b):decide ((a:Int) < (b:Int))=false:=decide_eq_false (by omega)
end Go.Rx
end
noncomputable section
namespace Go.Rx
section m
variable {κ ν:Type} [DecidableEq κ]
def qoM (k:κ) (m:List (κ×ν×Nat)):Option ν:=(qge k m).map (·.1)
theorem ql4 {k:κ} {e:κ×ν×Nat} {m:List (κ×ν×Nat)}:qoM k (e::m)=if k=e.1 then some e.2.1 else qoM k m:=by
 unfold qoM
 rw [qge]
 split<;>rfl
theorem qo2 {k k':κ} {x:ν} {c:Nat}:∀ {m:List (κ×ν×Nat)},qoM k' (qeX k x c m).2=if k'=k then some x else qoM k' m
 | []=>by simp only [qeX,ql4]
 | e::m=>by
  unfold qeX
  split
  ·rename_i h
   subst h
   simp only [ql4]
   split<;>rfl
  ·rename_i h
   simp only [ql4,qo2 (m:=m)]
   split
   ·rename_i h1
    subst h1
    rw [if_neg (fun h2=>h h2.symm)]
   ·rfl
end m
end Go.Rx
end
noncomputable section
namespace Go.Rx
theorem jV {α:Type} {l:List α} {k:Nat} {d:α} (h:k < l.length):zn l (k:Int)=some (l.getD k d):=by
 rw [qJC h]; simp [List.getD,List.getElem?_eq_getElem h]
def Jo (p:Nat→Bool):Nat→Nat→Option Nat
 | 0,_=>none
 | m + 1,k=>if p k then some k else Jo p m (k + 1)
def qxL (q:Nat→Bool):Nat→Nat→Bool
 | 0,_=>true
 | m + 1,k=>q k&&qxL q m (k + 1)
theorem qgr {p:Nat→Bool}:∀ {m k i:Nat},Jo p m k=some i→p i=true∧k≤i∧i < k + m∧∀ j,k≤j→j < i→p j=false
 | 0,k,i,h=>by simp [Jo] at h
 | m + 1,k,i,h=>by
  unfold Jo at h
  split at h
  ·simp at h; subst h
   exact ⟨by assumption,by omega,by omega,fun j h1 h2=>by omega⟩
  ·obtain ⟨h1,h2,h3,h4⟩:=qgr h
   refine ⟨h1,by omega,by omega,fun j h5 h6=>?_⟩
   by_cases hj:j=k
   ·subst hj; simp_all
   ·exact h4 j (by omega) h6
theorem qoe {p:Nat→Bool}:∀ {m k:Nat},Jo p m k=none→∀ j,k≤j→j < k + m→p j=false
 | 0,k,_,j,h1,h2=>by omega
 | m + 1,k,h,j,h1,h2=>by
  unfold Jo at h
  split at h
  ·simp at h
  ·by_cases hj:j=k
   ·subst hj; simp_all
   ·exact qoe h j (by omega) (by omega)
theorem qyb {q:Nat→Bool}:∀ {m k:Nat},qxL q m k=true↔∀ j,k≤j→j < k + m→q j=true
 | 0,k=>by simp [qxL]; intro j h1 h2; omega
 | m + 1,k=>by
  unfold qxL
  rw [Bool.and_eq_true,qyb]
  constructor
  ·intro h j h1 h2
   by_cases hj:j=k
   ·subst hj; exact h.1
   ·exact h.2 j (by omega) (by omega)
  ·intro h
   exact ⟨h k (by omega) (by omega),fun j h1 h2=>h j (by omega) (by omega)⟩
end Go.Rx
end
noncomputable section
namespace Go.Rx
variable {P:Program} {G:Gh} {w:World}
theorem qxN (x:List UInt8):Go.Lib.bytesOf (x.map fun c=>(c.toNat:Int))=x:=by
 unfold Go.Lib.bytesOf
 rw [List.map_map]
 conv=>rhs; rw [← List.map_id x]
 refine List.map_congr_left fun c _=>?_
 simp
theorem qqZ {x:List UInt8} {v:Value} (h:qx G w (.bl x) [v]):(Extern.Bytes.bytesOf v).run P w=.ok ⟨x.toArray⟩ w:=by
 obtain ⟨a,cap,h1,h2,h3⟩:=h
 simp only [List.cons.injEq,and_true] at h1
 subst h1
 rcases h3 with rfl | ⟨b,off,rfl,hc,_⟩
 ·cases a<;>rfl
 ·have hl := Go.Lib.run_loadBytesX (P := P) w (x.map fun c => (c.toNat : Int)) ⟨b, off, none⟩ .empty (fun j n hj => by
     simp only [List.getElem?_map,Option.map_eq_some_iff] at hj
     obtain ⟨c,hj,rfl⟩:=hj
     have hjl:=(List.getElem?_eq_some_iff.1 hj).1
     have e:(⟨b,off,none⟩:Addr).add j=⟨b,off + j,none⟩:=by unfold Addr.add; split<;>simp_all
     rw [e,hc j (by simpa using hjl),List.getElem?_map,hj]
     rfl)
  rw [qxN,List.length_map] at hl
  show (Extern.Bytes.loadBytes ⟨b,off,none⟩ x.length .empty).run P w=_
  rw [hl]
  congr 1
  apply ByteArray.ext
  show (#[]:Array UInt8)++x.toArray=x.toArray
  simp
theorem qE7 {K : FuncId} {fn : Func} (hf : P.funcs[K]? = some fn) (hb : fn.body = none) (hn : (fn.name == "runtime.NumGoroutine") = false) (h1 : Extern.findNext fn = none) (h2 : Extern.find fn = some Extern.BytealgCompare.compare) (x y : List UInt8) (l : Nat) :
    Valid P l (.fn (.func K) [] []) [.pv (.bl x),.pv (.bl y)] [] (.ret (.pv (.i .i64 (Go.Lib.compareBytes x y)))) []:=by
 intro γ G w vf vas H hvf hva
 have h0:=zf rfl rfl hvf
 simp only [qi] at h0
 obtain ⟨va,vc,h0,ha,hc⟩:=h0
 simp only [zh] at ha hc
 subst ha; subst hc
 simp only [List.cons.injEq,and_true] at h0
 subst h0
 simp only [zh] at hva
 obtain ⟨c1,v1,r1,rfl,hc1,ho1,c2,v2,r2,rfl,hc2,ho2,rfl⟩:=hva
 simp only [qi] at hc1 hc2
 have e1:c1=[v1]:=ho1
 have e2:c2=[v2]:=ho2
 subst e1; subst e2
 refine ⟨_,rfl,?_⟩
 unfold JU
 have hx:=qqZ (P:=P) hc1
 have hy:=qqZ (P:=P) hc2
 have hrun:(do let d ← Deferred.ofValue (.func (.func K) ([]:List Value).toArray ([]:List Value).toArray) [v1,v2].toArray; invoke d.target d.args:Sem Next).run P w=.ok (.value (.int .i64 (Go.Lib.compareBytes x y))) w:=by
  have e:(Extern.BytealgCompare.compare [v1,v2].toArray).run P w=.ok (.int .i64 (Go.Lib.compareBytes x y)) w:=by
   show (do pure (goInt (Extern.BytealgCompare.cmp (← Extern.Bytes.bytesOf v1) (← Extern.Bytes.bytesOf v2))):Sem Value).run P w=_
   simp only [Sem.run_bind,Sem.run_pure,Result.andThen,hx,hy]
   rw [Go.Lib.cmp_eq]
   rfl
  simp only [Deferred.ofValue,Sem.run_bind,Sem.run_pure,Result.andThen_ok,invoke,callFunc,run_program,hf,hn,hb,h1,h2,Option.isNone_none,Bool.false_eq_true,if_false,if_true,run_mark]
  simp only [Array.append_empty,List.append_toArray,List.nil_append,List.append_nil]
  rw [e]
  rfl
 rw [hrun]
 refine ⟨γ,G,H,Trans.refl H,?_⟩
 exact ⟨_,rfl,rfl⟩
end Go.Rx
end
noncomputable section
namespace Go.Rx
def qGe (x y:List UInt8):Option Int:=some (Go.Lib.compareBytes x y)
def qKD (K:FuncId):Ent:=smF ⟨K,[],[.x .bl,.x .bl],[],[]⟩ [.bl,.bl] Int (fun x=>qGe x.1 x.2.1) cs1 fun _ z=>(xi z,[])
theorem qJo [CT] {P:Program} {K:FuncId} {fn:Func} (hf:P.funcs[K]?=some fn) (hb:fn.body=none) (hn:(fn.name == "runtime.NumGoroutine")=false) (h1:Extern.findNext fn=none) (h2:Extern.find fn=some Extern.BytealgCompare.compare):zc P (qKD K):=
 qdg fun x z h l=>by
  obtain ⟨a,b,_⟩:=x
  obtain rfl:=Option.some.inj h
  exact qE7 hf hb hn h1 h2 a b l
end Go.Rx
end
