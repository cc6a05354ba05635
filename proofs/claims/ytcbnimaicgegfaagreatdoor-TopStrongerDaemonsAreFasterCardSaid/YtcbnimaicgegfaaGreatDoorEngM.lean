import Derived.Test.YtcbnimaicgegfaaGreatDoorEngI
import Derived.IntWalk
set_option linter.all false
namespace Go.Eng
inductive DI where
 | op (ix:Nat) (si:SI)
 | eff (ix:Nat) (pend:List Nat) (held:List (Option Nat×Nat×Nat)) (si:SI)
def DI.ix:DI->Nat
 | .op i _=>i
 | .eff i _ _ _=>i
def DI.si:DI->SI
 | .op _ s=>s
 | .eff _ _ _ s=>s
def Q2a:V->Option Nat
 | .loc k _=>some k
 | .vec k _ _ _=>some k
 | .oel k _ _ _=>some k
 | _=>none
def J40 (env:Env):List Nat->Own->Own->(Own->Own->Prop)->Prop
 | [],own,a,K=>K own a
 | t::r,own,a,K=>match look env t with
   | some v=>match Q2a v with
     | some k=>match look own k with
       | some b=>X1q k own fun own'=>J40 env r own' ((k,b)::a) K
       | none=>False
     | none=>J40 env r own a K
   | none=>False
def J87 (env:Env) (own:Own) (G:Prop):List (Option Nat×Nat×Nat)->Prop
 | []=>G
 | (sz,n,t)::r=>match look env t with
   | some (.raw _)=>J87 env own G r
   | some v=>match look env n with
     | some p=>J39 own sz p (fun a=>a=v)/\J87 env own G r
     | none=>False
   | none=>False
def X8k {α:Type}:List α->List α->(List α->Prop)->Prop
 | [],l,K=>K l
 | x::r,l,K=>X8k r l fun a=>K (x::a)
def J6X (env:Env) (g:Option (Nat×Bool)) (A B:Prop):Prop :=
 match g with
 | none=>A
 | some (t,a)=>match look env t with
   | some (.bool b)=>match Bool.xor b a with
     | false=>A
     | true=>B
   | some (.raw (.tuple _))=>B
   | _=>False
def J1N (P:Program):List DI->Env->Own->List Nat->(Env->Own->List Nat->Prop)->Prop
 | [],env,own,ks,K=>K env own ks
 | .op _ ⟨d,op,g⟩::r,env,own,ks,K=>J6X env g
    (vop P op env own ks fun v own ks=>match d with
      | some t=>J1N P r ((t,v)::env) own ks K
      | none=>J1N P r env own ks K)
    (match d with
      | some t=>J1N P r ((t,.raw (.tuple #[]))::env) own ks K
      | none=>J1N P r env own ks K)
 | .eff _ c held ⟨d,op,g⟩::r,env,own,ks,K=>J6X env g
    (J40 env c own [] fun f e=>vop P op env f ks fun v b ks=>J87 env b (X8k e b fun own=>match d with
      | some t=>J1N P r ((t,v)::env) own ks K
      | none=>J1N P r env own ks K) held)
    (match d with
      | some t=>J1N P r ((t,.raw (.tuple #[]))::env) own ks K
      | none=>J1N P r env own ks K)
def J1w (o:Oper):List Nat:=(o.after.toList.filter (Region.binds .any)).map (·.on)
def Q7A:List Nat->List Nat->List Nat
 | [],l=>l
 | x::r,l=>match J1b x l with|true=>Q7A r l|false=>Q7A r (x::l)
def X8O:List Oper->List (List Nat)->List (List Nat)
 | [],a=>a
 | o::r,a=>X8O r (a++[(J1w o).foldl (fun l j=>Q7A (j::(a.getD j [])) l) []])
def J3e:List X->List Nat
 | []=>[]
 | .t n::r=>n::J3e r
 | .k _::r=>J3e r
def SI.uses (s:SI):List Nat:=J3e s.op.xs++(match s.guard with|some (t,_)=>[t]|none=>[])
def X72 (A:List (List Nat)) (eff:Nat->Bool):Nat->List Nat->List Nat->List Nat
 | 0,_,done=>done
 | fuel+1,rest,done =>
   let step:=rest.foldl (fun(p:List Nat×List Nat) i =>
    if !eff i&&(A.getD i []).all (fun j=>J1b j p.1) then (p.1++[i],p.2) else (p.1,p.2++[i])) (done,[])
   match step.2 with
   | []=>step.1
   | i::_=>X72 A eff fuel (step.2.filter (fun j=>!Nat.beq j i)) (step.1++[i])
def J5g (A:List (List Nat)) (a:List SI):List Nat->List Nat->List DI
 | [],_=>[]
 | i::r,done=>match a[i]? with
   | some c=>match c.op.isEff with
     | false=>.op i c::J5g A a r (done++[i])
     | true =>
       let free:=done.filter fun j=>!J1b j (A.getD i []);let b:=free.filterMap fun j=>match a[j]? with|some s=>(match s.op.isNew with|true=>s.dst|false=>none)|none=>none
       let held:=free.filterMap fun j=>match a[j]? with
        | some s=>(match s.op,s.dst with | .load z (.t n),some t=>some (z,n,t)|_,_=>none)
        | none=>none
       .eff i b held c::J5g A a r (done++[i])
   | none=>[]
def DI.isEff:DI->Bool
 | .op _ _=>false
 | .eff _ _ _ _=>true
def X9K (z:Option Nat) (n t:Nat):List (Option Nat×Nat×Nat)->Bool
 | []=>false
 | (a,c,b)::r=>(decide (a=z)&&Nat.beq c n&&Nat.beq b t) || X9K z n t r
def X2g (a:List Nat) (held:List (Option Nat×Nat×Nat)) (s:SI):Bool :=
 match s.op with
 | .load z x=>match x,s.dst with
   | .t n,some t=>X9K z n t held
   | _,_=>false
 | op=>match op.isNew with
   | true=>match s.dst with|some t=>J1b t a|none=>false
   | false=>true
def X3m (A:List (List Nat)) (pre:List DI) (d:DI) (post:List DI):Bool :=
 pre.all (fun a=>!J1b d.ix (A.getD a.ix [])) &&
 (match d.si.dst with
   | some t=>pre.all (fun a=>decide (a.si.dst≠some t))&&pre.all (fun a=>!J1b t a.si.uses || (d.isEff&&J1b a.ix (A.getD d.ix [])))&&(d.isEff || !J1b t d.si.uses)
   | none=>true) &&
 pre.all (fun a=>a.isEff || (match a.si.dst with|some t=>!J1b t d.si.uses || J1b a.ix (A.getD d.ix [])|none=>true)) &&
 (match d with
   | .op _ b=>!b.op.isEff&&(!b.op.isNew || b.dst.isSome)&&(match b.op with | .load _ (.k _)=>false|_=>true)
   | .eff e c held b=>b.op.isEff&&post.all (fun a=>J1b e (A.getD a.ix []))&&pre.all (fun a=>a.isEff || J1b a.ix (A.getD e []) || X2g c held a.si))
def J60 (A:List (List Nat)):List DI->List DI->Bool
 | _,[]=>true
 | pre,d::post=>X3m A pre d post&&J60 A (pre++[d]) post
def ancB (A:List (List Nat)) (ops:Array Oper):Bool :=
 (List.range ops.size).all fun i=>match ops[i]? with
   | some o=>(J1w o).all (fun j=>Nat.ble (j+1) i)&&(A.getD i []).all (fun e=>J1b e (J1w o) || (J1w o).any (fun j=>J1b e (A.getD j [])))
   | none=>false
def J1x:List Nat->Bool
 | []=>true
 | x::r=>!J1b x r&&J1x r
def X4I (n:Nat) (l:List DI):Bool :=
 Nat.beq l.length n&&(List.range n).all (fun i=>J1b i (l.map DI.ix))&&(l.map DI.ix).all (fun i=>Nat.ble (i+1) n)&&J1x (l.map DI.ix)
def Q8E (P:Program) (N:Nat) (ops:Array Oper):Option (List DI) :=
 match X3K P N ops ops.toList with
 | some a =>
   let A:=X8O ops.toList [];let c:=X72 A (fun i=>match a[i]? with|some s=>s.op.isEff|none=>true) (ops.size+1) (List.range ops.size) [];let l:=J5g A a c []
   match J60 A [] l&&ancB A ops&&X4I ops.size l with
   | true=>some l
   | false=>none
 | none=>none
theorem J22:∀{l:List Nat},J1x l=true->l.Nodup
 | [],_=>by simp
 | x::r,h=>by
   simp only[J1x,Qg,Zp] at h;refine Q2.2 ⟨fun a=>?_,J22 h.2⟩;rw[J0k.2 a] at h;cases h.1
theorem Q4V {z:Option Nat} {n t:Nat}:∀{l:List (Option Nat×Nat×Nat)},X9K z n t l=true->(z,n,t)∈l
 | [],h=>by simp[X9K] at h
 | (c,e,d)::r,h=>by
   simp only[X9K,Xv,Qg,Qa] at h;rcases h with ⟨⟨rfl,b⟩,a⟩|h
   . have b:=Qc b;have a:=Qc a;subst b a;simp
   . exact Xz _ (Q4V h)
structure Y1O (anc:Nat->List Nat) (pre:List DI) (d:DI) (post:List DI):Prop where
 order:∀d',d'∈pre->d.ix∉anc d'.ix
 dst:∀t,d.si.dst=some t->∀d',d'∈pre->d'.si.dst≠some t
 reads:∀t,d.si.dst=some t->∀d',d'∈pre->t∈d'.si.uses->d.isEff=true/\d'.ix∈anc d.ix
 self:∀t,d.si.dst=some t->d.isEff=false->t∉d.si.uses
 uses:∀d',d'∈pre->d'.isEff=false->∀t,d'.si.dst=some t->t∈d.si.uses->d'.ix∈anc d.ix
 op:d.isEff=false->d.si.op.isEff=false/\(d.si.op.isNew=true->d.si.dst≠none)/\(∀z x,d.si.op=.load z x->∃n,x=.t n)
 eff:∀ix pend held si,d=.eff ix pend held si->si.op.isEff=true/\(∀d',d'∈post->ix∈anc d'.ix)/\(∀d',d'∈pre->d'.isEff=false->d'.ix∉anc ix->X2g pend held d'.si=true)
theorem X0t {A:List (List Nat)} {pre:List DI} {d:DI} {post:List DI} (h:X3m A pre d post=true):Y1O (fun i=>A.getD i []) pre d post:=by
 simp only[X3m,Qg] at h;obtain⟨⟨⟨r,f⟩,q⟩,c⟩:=h;refine⟨?_,?_,?_,?_,?_,?_,?_⟩
 . intro b a j;have:=Qy.1 r b a;rw[J0k.2 j] at this;cases this
 . intro t g b a;rw[g] at f;simp only[Qg] at f;have:=Qy.1 f.1.1 b a;simpa using this
 . intro t g b a j;rw[g] at f;simp only[Qg] at f;have:=Qy.1 f.1.2 b a;simp only[Xv,Qg,Zp] at this;rcases this with h|h
   . rw[J0k.2 j] at h;cases h
   . exact⟨h.1,J0k.1 h.2⟩
 . intro t g he j;rw[g] at f;simp only[Qg,Xv,Zp] at f;rcases f.2 with h|h
   . rw[he] at h;cases h
   . rw[J0k.2 j] at h;cases h
 . intro b a he t g j;have:=Qy.1 q b a;rw[he,g] at this;simp only[Ju,Xv,Zp] at this;rcases this with h|h
   . rw[J0k.2 j] at h;cases h
   . exact J0k.1 h
 . intro he;cases d with
   | op p o =>
     simp only[Qg,Zp,Xv] at c;refine⟨c.1.1,fun l=>?_,fun z x e=>?_⟩
     . rcases c.1.2 with h|h
       . simp only[DI.si] at l;rw[h] at l;cases l
       . intro e;simp only[DI.si] at e;rw[e] at h;cases h
     . simp only[DI.si] at e;rw[e] at c;cases x with
       | t n=>exact⟨n,rfl⟩
       | k v=>simp at c
   | eff=>cases he
 . intro p m held o e;subst e;simp only[Qg] at c;refine⟨c.1.1,fun b a=>J0k.1 (Qy.1 c.1.2 b a),fun b a he l=>?_⟩;have:=Qy.1 c.2 b a;simp only[Xv] at this;rcases this with (h|h)|h
   . rw[he] at h;cases h
   . exact(l (J0k.1 h)).elim
   . exact h
theorem J2Z {n:Nat}:∀{xs:List X},.t n∈xs->n∈J3e xs
 | [],h=>by simp at h
 | .t m::r,h=>by
   rcases Qj.1 h with e|e
   . cases e;simp[J3e]
   . simp[J3e,J2Z e]
 | .k v::r,h=>by
   rcases Qj.1 h with e|e
   . cases e
   . simpa[J3e] using J2Z e
theorem J4y {env:Env} {t n:Nat} {v:V} (h:t≠n):look ((t,v)::env) n=look env n:=by
 have b:Nat.beq t n=false:=by
  rw[<- Xb];exact fun a=>h (Qc a)
 show(match Nat.beq t n with|true=>some v|false=>look env n)=_;rw[b]
theorem J6S {env:Env} {t:Nat} {v:V}:look ((t,v)::env) t=some v:=by
 simp[look]
theorem XOk.congr {M:Nat->Prop} {w:World} {σ:Sg} {env env':Env} {a:Act} {x:X} (h:∀n,x=.t n->look env' n=look env n) (b:XOk M w σ env' a x):XOk M w σ env a x :=
 fun n e v c=>b n e v (by rw[h n e];exact c)
theorem J89.ext {P:Program} {o:Oper} {xs:List X} {env env':Env} {v:V} (h:J89 P o xs env v) (he:∀n,n∈J3e xs->look env' n=look env n):J89 P o xs env' v :=
 fun M w σ a ok=>h M w σ a fun x b=>(ok x b).congr fun n e=>he n (J2Z (e▸b))
theorem Q64.ext {P:Program} {o:Oper} {xs:List X} {env env':Env} {k:Nat} {b:Blk} {v:V} (h:Q64 P o xs env k b v) (he:∀n,n∈J3e xs->look env' n=look env n):Q64 P o xs env' k b v :=
 fun M w σ a own ks ok=>h M w σ a own ks fun x c=>(ok x c).congr fun n e=>he n (J2Z (e▸c))
inductive LK where
 | pure (v:V)
 | load (t:TypeId) (n:Nat) (z:Option Nat) (p v:V)
 | new (k:Nat) (b:Blk) (v:V)
 | skip
def LK.val:LK->V
 | .pure v=>v
 | .load _ _ _ _ v=>v
 | .new _ _ v=>v
 | .skip=>.raw (.tuple #[])
def LK.newk:LK->Option (Nat×Blk)
 | .new k b _=>some (k,b)
 | _=>none
structure LT where
 d:DI
 k:LK
def J2f (env:Env) (g:Option (Nat×Bool)) (run:Bool):Prop :=
 match g with
 | none=>run=true
 | some (t,a)=>(∃b,look env t=some (.bool b)/\run=(b == a))\/(run=false/\∃us,look env t=some (.raw (.tuple us)))
def LOk (P:Program) (N:Nat) (ops:Array Oper) (env:Env) (own:Own) (l:LT):Prop :=
 ∃o,ops[l.d.ix]?=some o/\cSI P N ops o=some l.d.si/\(∀t,l.d.si.dst=some t->look env t=some l.k.val) /\
 match l.k with
 | .pure v=>J2f env l.d.si.guard true/\J89 P o l.d.si.op.xs env v
 | .load t n z p v=>J2f env l.d.si.guard true/\l.d.si.op=.load z (.t n)/\o.op=.load t (.tmp n)/\J4i P t=some z/\look env n=some p/\Q2Q P t p v own/\(∀u,v≠.raw u)
 | .new k b v=>J2f env l.d.si.guard true/\Q64 P o l.d.si.op.xs env k b v/\Q2a v=some k/\l.d.si.op.isNew=true
 | .skip=>J2f env l.d.si.guard false
theorem J2f.ext {env env':Env} {g:Option (Nat×Bool)} {run:Bool} (h:J2f env g run) (he:∀t b,g=some (t,b)->look env' t=look env t):J2f env' g run:=by
 unfold J2f at h ⊢;split
 . exact h
 . rcases h with ⟨b,c,a⟩ | ⟨c,us,a⟩
   . exact .inl ⟨b,by rw[he _ _ rfl];exact c,a⟩
   . exact .inr ⟨c,us,by rw[he _ _ rfl];exact a⟩
theorem LOk.ext {P:Program} {N:Nat} {ops:Array Oper} {env env':Env} {own own':Own} {l:LT} (h:LOk P N ops env own l) (he:∀n,n∈l.d.si.uses->look env' n=look env n)
 (hd:∀t,l.d.si.dst=some t->look env' t=look env t) (q:∀t n z p v,l.k=.load t n z p v->look env n=some p->J4i P t=some z->Q2Q P t p v own->Q2Q P t p v own'):LOk P N ops env' own' l:=by
 obtain⟨o,u,s,r,a⟩:=h;have c:∀n,n∈J3e l.d.si.op.xs->look env' n=look env n:=fun n m=>he n (by simp[SI.uses,m]);have hg:∀t b,l.d.si.guard=some (t,b)->look env' t=look env t:=fun t b e=>he t (by simp[SI.uses,e]);refine⟨o,u,s,fun t f=>by rw[hd t f];exact r t f,?_⟩;cases hk:l.k<;>rw[hk] at a<;>simp only at a ⊢
 . exact⟨a.1.ext hg,a.2.ext c⟩
 . obtain⟨A,j,y,i,g,x,w⟩:=a;refine⟨A.ext hg,j,y,i,?_,q _ _ _ _ _ hk g i x,w⟩;rw[c _ (by rw[j];simp[SOp.xs,J3e])];exact g
 . exact⟨a.1.ext hg,a.2.1.ext c,a.2.2⟩
 . exact a.ext hg
structure Inv (P:Program) (N Bd:Nat) (ops:Array Oper) (anc:Nat->List Nat) (σ0:Sg) (ks0 Z:List Nat) (pre rest:List DI) (late:List LT) (env:Env) (own:Own) (ks:List Nat) (B:Own)
 (M:Nat->Prop) (w:World) (σ:Sg) (a:Act) (listed:Array Bool):Prop where
 size:a.tmps.size=N
 defers:X1g Bd M w σ B a.defers
 lsize:listed.size=ops.size
 sub:∀l,l∈late->l.d∈pre/\l.d.isEff=false
 nd:(late.map (·.d.ix)).Nodup
 part:∀i,i<ops.size->(listed.getD i true=false↔(i∈late.map (·.d.ix)\/i∈rest.map DI.ix))
 closed:∀i o,ops[i]?=some o->listed.getD i true=true->∀j,j∈J1w o->listed.getD j false=true
 envd:∀t v,look env t=some v->(∀l,l∈late->l.d.si.dst≠some t)->Den M w σ v (a.tmps.getD t undef)
 heap:J0T M w σ B ks
 ownc:∀k b,(k,b)∈own↔((k,b)∈B\/∃l,l∈late/\l.k.newk=some (k,b))
 ownnd:(own.map (·.1)).Nodup
 unborn:∀l,l∈late->∀k b,l.k.newk=some (k,b)->σ k=none/\k∉ks
 unb2:∀l l',l∈late->l'∈late->∀k b b',l.k.newk=some (k,b)->l'.k.newk=some (k,b')->l.d.ix=l'.d.ix
 facts:∀l,l∈late->LOk P N ops env own l
 disj:∀l,l∈late->l.d.ix∉rest.map DI.ix
 kd1:∀k,k∈ks->k∈ks0
 kd2:∀l,l∈late->∀k b,l.k.newk=some (k,b)->k∈ks0
 kd3:∀q,σ0 q=none->q∉ks0->σ q=none
 kd4:∀k,k∈own.map (·.1)->k∈Z
 kd5:∀k,k∈ks0->k∈Z
 u1:∀d d',d∈pre->d'∈pre->d.isEff=false->∀t,d.si.dst=some t->t∈d'.si.uses->d.ix∈anc d'.ix
 dd:∀d d',d∈pre->d'∈pre->d.ix≠d'.ix->∀t,d.si.dst=some t->d'.si.dst≠some t
structure J92 (ops:Array Oper) (anc:Nat->List Nat):Prop where
 edge:∀i o,ops[i]?=some o->∀j,j∈J1w o->j<i
 anc:∀i o,ops[i]?=some o->∀e,e∈anc i->e∈J1w o\/∃j,j∈J1w o/\e∈anc j
theorem J6D {ops:Array Oper} {anc:Nat->List Nat} (st:J92 ops anc) {listed:Array Bool} (n:listed.size=ops.size)
 (closed:∀i o,ops[i]?=some o->listed.getD i true=true->∀j,j∈J1w o->listed.getD j false=true) :
 ∀i o,ops[i]?=some o->(∀j,j∈J1w o->listed.getD j false=true)->∀e,e∈anc i->listed.getD e false=true:=by
 intro i
 induction i using Nat.strongRecOn with
 | _ i l =>
   intro o b he e m;rcases st.anc i o b e m with h | ⟨j,k,f⟩
   . exact he e h
   . have c:=st.edge i o b j k;have p:i<ops.size:=(Xl.1 b).1;have a:j<ops.size:=by omega
     have g:=he j k;have d:listed.getD j true=true:=by
      rw[Qx,Z3 (by omega)] at g ⊢;simpa using g
     exact l j c ops[j] (by simp[a]) (closed j ops[j] (by simp[a]) d) e f
theorem J7o {listed:Array Bool} {i j:Nat} {d:Bool} (h:i<listed.size):(listed.setIfInBounds i true).getD j d=if i=j then true else listed.getD j d:=by
 rw[Qx,Yn];split
 . simp
 . rw[Qx]
theorem J7X {ops:Array Oper} {listed:Array Bool} {i:Nat}:i∈Region.ready .any ops listed↔i<ops.size/\listed.getD i true=false/\∃o,ops[i]?=some o/\∀j,j∈J1w o->listed.getD j false=true:=by
 unfold Region.ready;simp only[Zx,Q7,Qg,Zp];constructor
 . rintro⟨b,f,a⟩;refine⟨b,f,ops[i],by simp[b],?_⟩;rw[Z3 b] at a;simp only[Zi,Xp] at a;intro j g;simp only[J1w,Qi,Zx] at g;obtain⟨e,⟨d,c⟩,rfl⟩:=g;rw[Kk] at a;have:=a e (by simpa using d);rw[c] at this;simpa using this
 . rintro⟨b,f,o,h,a⟩;refine⟨b,f,?_⟩;rw[h];simp only[Zi,Xp];rw[Kk];intro e he;cases k:Region.binds .any e with
   | false=>rfl
   | true =>
     have:=a e.on (by simp only[J1w,Qi,Zx];exact⟨e,⟨by simpa using he,k⟩,rfl⟩);rw[this];rfl
section
variable {P:Program} {N Bd:Nat} {ops:Array Oper} {anc:Nat->List Nat} {σ0:Sg} {ks0 Z:List Nat} {pre rest:List DI} {late:List LT} {env:Env} {own:Own} {ks:List Nat} {B:Own} {M:Nat->Prop} {w:World} {σ:Sg} {a:Act} {listed:Array Bool}
theorem Inv.used (st:J92 ops anc) (h:Inv P N Bd ops anc σ0 ks0 Z pre rest late env own ks B M w σ a listed) {l:LT} (p:l∈late) {o:Oper} (n:ops[l.d.ix]?=some o) (m:∀j,j∈J1w o->listed.getD j false=true) :
 ∀t,t∈l.d.si.uses->∀b,b∈late->b.d.si.dst≠some t:=by
 intro t k b c hd;have q:=h.u1 b.d l.d (h.sub b c).1 (h.sub l p).1 (h.sub b c).2 t hd k;have i:=J6D st h.lsize h.closed _ o n m _ q;have g:b.d.ix<ops.size:=by
  obtain⟨r,f,_⟩:=h.facts b c;exact(Xl.1 f).1
 have e:=(h.part _ g).2 (.inl (Qi.2 ⟨b,c,rfl⟩));have s:=h.lsize;rw[Qx,Z3 (by omega)] at i e;simp at i e;rw[i] at e;cases e
theorem J1U {a:Act} {o:Oper} {env:Env} {M:Nat->Prop} {w:World} {σ:Sg} {e:SI} {run:Bool} (l:cSI P N ops o=some e) (hg:J2f env e.guard run)
 (hd:∀t,t∈e.uses->∀v,look env t=some v->Den M w σ v (a.tmps.getD t undef)):Region.wanted o (yielded ops a.tmps)=run:=by
 obtain⟨op,_,_,f⟩:=J51 l;rcases f with ⟨d,rfl⟩ | ⟨j,b,t,d,k,rfl⟩
 . simp only[J2f] at hg;subst hg;simp[Region.wanted,d]
 . rcases hg with ⟨m,i,h⟩ | ⟨h,us,i⟩
   . have c:=hd t (by simp[SI.uses]) _ i;have g:a.tmps.getD t undef=.bool m:=by
      generalize a.tmps.getD t undef=q at c;cases c;rfl
     rw[Q1f d k g,h]
   . have c:=hd t (by simp[SI.uses]) _ i;have g:a.tmps.getD t undef=.tuple us:=by
      generalize a.tmps.getD t undef=q at c;cases c;rfl
     rw[J9b d k g,h]
theorem J1m {late:List LT} {l x:LT}:x∈late.filter (fun y=>!Nat.beq y.d.ix l.d.ix)↔x∈late/\x.d.ix≠l.d.ix:=by
 simp only[Zx,Zp];constructor
 . rintro⟨b,a⟩;exact⟨b,fun e=>by rw[e] at a;simp at a⟩
 . rintro⟨b,a⟩;refine⟨b,?_⟩;rw[<- Xb];exact fun h=>a (Qc h)
theorem Inv.ran (h:Inv P N Bd ops anc σ0 ks0 Z pre rest late env own ks B M w σ a listed) {l:LT} (D:l∈late) {o:Oper} (ho:ops[l.d.ix]?=some o) (z:o.dst=l.d.si.dst) (hr:∀j,j∈J1w o->listed.getD j false=true)
 (hN:∀t,l.d.si.dst=some t->t<N) {L:Nat->Prop} {w':World} {f:Sg} {O:Own} {u:Value} (hv:Den L w' f l.k.val u) (r:J0T L w' f O ks) (Q:Tr M w σ B L w' f O)
 (hB:∀k b,(k,b)∈O↔((k,b)∈B\/l.k.newk=some (k,b))) (F:∀k,f k≠none->σ k≠none\/∃b,l.k.newk=some (k,b)) :
 Inv P N Bd ops anc σ0 ks0 Z pre rest (late.filter (fun y=>!Nat.beq y.d.ix l.d.ix)) env own ks O L w' f (a.put o.dst u) (listed.setIfInBounds l.d.ix true):=by
 have hE:=Q.ext h.heap.own;have X:l.d.ix<ops.size:=(Xl.1 ho).1;have I:l.d.ix<listed.size:=by rw[h.lsize];exact X
 have s:∀x,x∈late->x.d.ix=l.d.ix->x=l:=by
  intro x c e;have:=h.nd;obtain⟨i,p⟩:=Yt c;obtain⟨j,C⟩:=Yt D;have a0:i=j:=by
   have a1:=(Qs.1 p).1;have Y:=(Qs.1 C).1;refine(List.getElem_inj (xs:=late.map (·.d.ix)) (h₀:=by simpa using a1) (h₁:=by simpa using Y) this).1 ?_;simp only[List.getElem_map];rw[(Qs.1 p).2,(Qs.1 C).2];exact e
  subst a0;rw[p] at C;exact Yl C
 refine⟨?_,?_,?_,?_,?_,?_,?_,?_,r,?_,h.ownnd,?_,?_,?_,?_,h.kd1,?_,?_,h.kd4,h.kd5,h.u1,h.dd⟩
 . cases o.dst<;>simp[Act.put,h.size]
 . have hd:=h.defers.tr Q;cases o.dst<;>exact hd
 . simp[h.lsize]
 . intro x c;exact h.sub x (J1m.1 c).1
 . exact h.nd.sublist (List.Sublist.map _ (J7))
 . intro i p;rw[J7o I];by_cases e:l.d.ix=i
   . subst e;rw[Qe rfl];constructor
     . intro r;cases r
     . intro r;exfalso;rcases r with r|r
       . obtain⟨x,c,e⟩:=Qi.1 r;exact(J1m.1 c).2 e
       . exact h.disj l D r
   . rw[Qb e,h.part i p];constructor
     . rintro (g|g)
       . obtain⟨x,c,E⟩:=Qi.1 g;exact .inl (Qi.2 ⟨x,J1m.2 ⟨c,fun a2=>e (by rw[<- a2,E])⟩,E⟩)
       . exact .inr g
     . rintro (g|g)
       . obtain⟨x,c,E⟩:=Qi.1 g;exact .inl (Qi.2 ⟨x,(J1m.1 c).1,E⟩)
       . exact .inr g
 . intro i o' n p j C;rw[J7o I] at p ⊢;by_cases ej:l.d.ix=j
   . rw[Qe ej]
   . rw[Qb ej];by_cases e:l.d.ix=i
     . subst e;rw[ho] at n;cases n;exact hr j C
     . rw[Qb e] at p;exact h.closed i o' n p j C
 . intro t v A U;by_cases e:l.d.si.dst=some t
   . obtain⟨o',n,_,h3,_⟩:=h.facts l D;have:=h3 t e;rw[this] at A;cases A;rw[z,e];have ht:t<a.tmps.size:=by rw[h.size];exact hN t e
     simpa[Act.put,Array.getD,ht] using hv
   . have H:=h.envd t v A (fun x c=>by
      by_cases J:x.d.ix=l.d.ix
      . rw[s x c J];exact e
      . exact U x (J1m.2 ⟨c,J⟩))
     have he:(a.put o.dst u).tmps.getD t undef=a.tmps.getD t undef:=by
      rw[z];cases hd:l.d.si.dst with
      | none=>rfl
      | some t' =>
        have V:t'≠t:=fun E=>e (by rw[hd,E]);simp only[Act.put,Qx,Yn,Qb V]
     rw[he];exact H.mono hE Q.le
 . intro k b;rw[h.ownc,hB];constructor
   . rintro (g | ⟨x,c,hk⟩)
     . exact .inl (.inl g)
     . by_cases J:x.d.ix=l.d.ix
       . rw[s x c J] at hk;exact .inl (.inr hk)
       . exact .inr ⟨x,J1m.2 ⟨c,J⟩,hk⟩
   . rintro ((g|hk) | ⟨x,c,hk⟩)
     . exact .inl g
     . exact .inr ⟨l,D,hk⟩
     . exact .inr ⟨x,(J1m.1 c).1,hk⟩
 . intro x c k b hk;obtain⟨G,R⟩:=J1m.1 c;obtain⟨q1,q2⟩:=h.unborn x G k b hk;refine⟨?_,q2⟩;cases T:f k with
   | none=>rfl
   | some y =>
     exfalso;rcases F k (by rw[T];simp) with W | ⟨K,m⟩
     . exact W q1
     . exact R (h.unb2 x l G D k b K hk m)
 . intro x x' c S k b K hk m;exact h.unb2 x x' (J1m.1 c).1 (J1m.1 S).1 k b K hk m
 . intro x c;exact h.facts x (J1m.1 c).1
 . intro x c;exact h.disj x (J1m.1 c).1
 . intro x c;exact h.kd2 x (J1m.1 c).1
 . intro q h1 h2;cases T:f q with
   | none=>rfl
   | some y =>
     exfalso;rcases F q (by rw[T];simp) with W | ⟨K,m⟩
     . exact W (h.kd3 q h1 h2)
     . exact h2 (h.kd2 l D q K m)
end
section
variable {P:Program} {N Bd:Nat} {ops:Array Oper} {anc:Nat->List Nat} {σ0:Sg} {ks0 Z:List Nat} {pre rest:List DI} {late:List LT} {env:Env} {own:Own} {ks:List Nat} {B:Own} {M:Nat->Prop} {w:World} {σ:Sg} {a:Act} {listed:Array Bool}
theorem J68 {r:Option Nat} {Q:Exit->Act->World->Prop} {K:Act->World->Prop} {i:Nat} {o:Oper} (c:ops[i]?=some o) (b:Region.wanted o (yielded ops a.tmps)=true) (h:o.wpIn (FR r) 0 P a w K Q):wpOpIn (FR r) 0 P ops Q i K a w:=by
 unfold wpOpIn;rw[c];simp only[b,Zl];exact h
theorem Q1d {r:Option Nat} {Q:Exit->Act->World->Prop} {K:Act->World->Prop} {i:Nat} {o:Oper} (c:ops[i]?=some o) (b:Region.wanted o (yielded ops a.tmps)=false) (h:K (a.put o.dst undef) w):wpOpIn (FR r) 0 P ops Q i K a w:=by
 unfold wpOpIn;rw[c];simp only[b];exact⟨fun _ _=>trivial,h⟩
theorem Inv.late_step (S:Option Nat) (st:J92 ops anc) (h:Inv P N Bd ops anc σ0 ks0 Z pre rest late env own ks B M w σ a listed) {l:LT} (G:l∈late) {o:Oper} (A:ops[l.d.ix]?=some o) (J:∀j,j∈J1w o->listed.getD j false=true)
 {Q:Exit->Act->World->Prop} {K:Act->World->Prop}
 (X:∀B' Y w' C a',Inv P N Bd ops anc σ0 ks0 Z pre rest (late.filter (fun y=>!Nat.beq y.d.ix l.d.ix)) env own ks B' Y w' C a' (listed.setIfInBounds l.d.ix true)->Tr M w σ B Y w' C B'->K a' w') :
 wpOpIn (FR S) 0 P ops Q l.d.ix K a w:=by
 obtain⟨o',L,R,a5,hk⟩:=h.facts l G;rw[A] at L;cases L;obtain⟨a0,s,hN,O⟩:=J51 R;have m:o.dst=l.d.si.dst:=by rcases O with ⟨_,e⟩ | ⟨_,_,_,_,_,e⟩<;>rw[e]
 have a3:a0=l.d.si.op:=by rcases O with ⟨_,e⟩ | ⟨_,_,_,_,_,e⟩<;>rw[e]
 subst a3;have D:∀t,l.d.si.dst=some t->t<N:=fun t ht=>hN t (by rw[m];exact ht);have hu:=h.used st G A J;have i:∀t,t∈l.d.si.uses->∀v,look env t=some v->Den M w σ v (a.tmps.getD t undef):=fun t ht v hv=>h.envd t v hv (hu t ht);have ok:∀x,x∈l.d.si.op.xs->XOk M w σ env a x:=fun x hx n e v hv=>i n (by simp only[SI.uses,Qr];exact .inl (J2Z (e▸hx))) v hv;cases f:l.k with
 | pure v =>
   rw[f] at hk;obtain⟨g,pf⟩:=hk;refine J68 A (J1U R g i) (J3D S (J2s s) (Q4g pf ok fun u a2=>?_));refine X B M w σ _ (h.ran G A m J D (u:=u) (by rw[f];exact a2) h.heap (Tr.refl _ _ _ _) (fun k b=>by rw[f];simp[LK.newk]) (fun k hk=>.inl hk)) (Tr.refl _ _ _ _)
 | load t n z p v =>
   rw[f] at hk;obtain⟨g,e1,e2,e3,e4,lf,_⟩:=hk;have hp:Den M w σ p (a.tmps.getD n undef):=i n (by simp only[SI.uses,Qr,e1];exact .inl (by simp[SOp.xs,J3e])) p e4;have E:∀k,p.readKey=some k->σ k≠none:=by
    intro k hk hn;generalize a.tmps.getD n undef=q at hp;cases hp<;>simp only[V.readKey,Qf,reduceCtorEq] at hk<;>(subst hk;rename_i W;rw[hn] at W;cases W)
   obtain⟨r,r1,T⟩:=lf M w σ _ hp (fun k b hk F=>by
    rcases (h.ownc k b).1 (J0g F) with hB | ⟨x,hx,a1⟩
    . exact h.heap.own.blk k b hB
    . exact(E k hk (h.unborn x hx k b a1).1).elim)
   have I:(execOp a.eval o).run P w=.ok (.value r) w:=by
    obtain⟨dst,op,type,pos,after,guard⟩:=o;simp only at e2;subst e2;exact J1c r1
   refine J68 A (J1U R g i) (J3D S (J2s s) (J0w I ?_));refine X B M w σ _ (h.ran G A m J D (u:=r) (by rw[f];exact T) h.heap (Tr.refl _ _ _ _) (fun k b=>by rw[f];simp[LK.newk]) (fun k hk=>.inl hk)) (Tr.refl _ _ _ _)
 | new k b v =>
   rw[f] at hk;obtain⟨g,af,_,_⟩:=hk;obtain⟨H,a4⟩:=h.unborn l G k b (by rw[f];rfl);have W:J0T M w σ B (k::ks):=⟨h.heap.own,fun q U=>by rcases Qj.1 U with e|e;(subst e;exact H);exact h.heap.fresh q e,Q2.2 ⟨a4,h.heap.knodup⟩⟩;obtain⟨u,w',Y,C,r1,T,r3,r4,_,r5⟩:=af M w σ a B ks ok W;refine J68 A (J1U R g i) (J3D S (J2s s) (J0w r1 ?_));refine X _ Y w' C _ (h.ran G A m J D (u:=u) (by rw[f];exact r4) T r3 (fun q c=>by rw[f];simp only[LK.newk,Qj,Qf,Qu];constructor;(rintro (x|x);exact .inr ⟨x.1.symm,x.2.symm⟩;exact .inl x);(rintro (x|x);exact .inr x;exact .inl ⟨x.1.symm,x.2.symm⟩)) (fun q U=>?_)) r3
   . by_cases e:σ q=none
     . right;rw[f];by_cases eq:q=k
       . subst eq;exact⟨b,rfl⟩
       . exfalso;by_cases em:q∈ks
         . exact U (T.fresh q em)
         . exact U (r5.2.1 q e (by simp[eq,em]))
     . exact .inl e
 | skip =>
   rw[f] at hk;refine Q1d A (J1U R hk i) ?_;refine X B M w σ _ (h.ran G A m J D (u:=undef) (by rw[f];exact .raw _ _) h.heap (Tr.refl _ _ _ _) (fun k b=>by rw[f];simp[LK.newk]) (fun k hk=>.inl hk)) (Tr.refl _ _ _ _)
end
section
variable {P:Program} {N Bd:Nat} {ops:Array Oper} {anc:Nat->List Nat} {σ0:Sg} {ks0 Z:List Nat} {pre post:List DI} {late:List LT} {env:Env} {own:Own} {ks:List Nat} {B:Own} {M:Nat->Prop} {w:World} {σ:Sg} {a:Act} {listed:Array Bool}
theorem Inv.push {D:SI} {I:Nat} (O:Y1O anc pre (.op I D) post) (a1:I∉post.map DI.ix) (h:Inv P N Bd ops anc σ0 ks0 Z pre (.op I D::post) late env own ks B M w σ a listed) (lk:LK)
 (own':Own) (H:List Nat) (hf:LOk P N ops (J8T env D.dst lk.val) own' ⟨.op I D,lk⟩)
 (j:(lk.newk=none/\own'=own/\H=ks)\/∃k b,lk.newk=some (k,b)/\ks=k::H/\own'=(k,b)::own) :
 Inv P N Bd ops anc σ0 ks0 Z (pre++[.op I D]) post (⟨.op I D,lk⟩::late) (J8T env D.dst lk.val) own' H B M w σ a listed:=by
 have s:∀k,k∈ks->∀b,(k,b)∉own:=fun k hk b U=>by
  rcases (h.ownc k b).1 U with hB | ⟨x,hx,J⟩
  . obtain⟨y,hy⟩:=h.heap.own.key hB;rw[h.heap.fresh k hk] at hy;cases hy
  . exact(h.unborn x hx k b J).2 hk
 have o:∀t,D.dst≠some t->look (J8T env D.dst lk.val) t=look env t:=by
  intro t E;unfold J8T;split
  . rename_i t' e;exact J4y (fun V=>E (by rw[e,V]))
  . rfl
 refine⟨h.size,h.defers,h.lsize,?_,?_,?_,h.closed,?_,?_,?_,?_,?_,?_,?_,?_,?_,?_,h.kd3,?_,h.kd5,?_,?_⟩
 . intro l g;rcases Qj.1 g with e|g
   . subst e;exact⟨by simp,rfl⟩
   . exact⟨X0 _ (h.sub l g).1,(h.sub l g).2⟩
 . simp only[Qv,Q2];refine⟨fun U=>?_,h.nd⟩;obtain⟨l,g,e⟩:=Qi.1 U;exact h.disj l g (by rw[e];simp[DI.ix])
 . intro i hi;rw[h.part i hi];simp only[Qv,Qj,DI.ix];constructor
   . rintro (x|x|x)
     . exact .inl (.inr x)
     . exact .inl (.inl x)
     . exact .inr x
   . rintro ((x|x)|x)
     . exact .inr (.inl x)
     . exact .inl x
     . exact .inr (.inr x)
 . intro t v hv T;have A:D.dst≠some t:=T ⟨.op I D,lk⟩ (by simp);rw[o t A] at hv;exact h.envd t v hv fun l g=>T l (by simp[g])
 . rcases j with ⟨_,_,e⟩ | ⟨k,b,_,e,_⟩
   . rw[e];exact h.heap
   . have G:=h.heap;rw[e] at G;exact⟨G.own,fun q S=>G.fresh q (by simp[S]),(Q2.1 G.knodup).2⟩
 . intro k b;rcases j with ⟨m,e2,_⟩ | ⟨X,Q,m,_,e2⟩
   . rw[e2,h.ownc];constructor
     . rintro (x | ⟨l,g,x⟩)
       . exact .inl x
       . exact .inr ⟨l,by simp[g],x⟩
     . rintro (x | ⟨l,g,x⟩)
       . exact .inl x
       . rcases Qj.1 g with e|g
         . subst e;rw[m] at x;cases x
         . exact .inr ⟨l,g,x⟩
   . rw[e2,Qj,h.ownc];constructor
     . rintro (x|x | ⟨l,g,x⟩)
       . cases x;exact .inr ⟨⟨.op I D,lk⟩,by simp,m⟩
       . exact .inl x
       . exact .inr ⟨l,by simp[g],x⟩
     . rintro (x | ⟨l,g,x⟩)
       . exact .inr (.inl x)
       . rcases Qj.1 g with e|g
         . subst e;rw[m] at x;cases x;exact .inl rfl
         . exact .inr (.inr ⟨l,g,x⟩)
 . rcases j with ⟨_,e,_⟩ | ⟨k,b,_,m,e2⟩
   . rw[e];exact h.ownnd
   . rw[e2];simp only[Qv,Q2];refine⟨fun U=>?_,h.ownnd⟩;obtain⟨⟨q,c⟩,S,e⟩:=Qi.1 U;simp only at e;subst e;exact s q (by rw[m];simp) c S
 . intro l g k b hk;have R:∀q,q∈H->q∈ks:=by
    rcases j with ⟨_,_,e⟩ | ⟨_,_,_,e,_⟩
    . rw[e];exact fun _ x=>x
    . rw[e];exact fun _ x=>Xz _ x
   rcases Qj.1 g with e|g
   . subst e;rcases j with ⟨m,_,_⟩ | ⟨X,Q,m,e2,_⟩
     . rw[m] at hk;cases hk
     . rw[m] at hk;cases hk;have G:=h.heap;rw[e2] at G;exact⟨G.fresh k (by simp),(Q2.1 G.knodup).1⟩
   . obtain⟨q1,q2⟩:=h.unborn l g k b hk;exact⟨q1,fun x=>q2 (R k x)⟩
 . intro l l' g C k b Q hk L;have F:∀x,x∈late->∀c c',x.k.newk=some (k,c)->lk.newk=some (k,c')->False:=by
    intro x hx c c' J r;rcases j with ⟨m,_,_⟩ | ⟨X,Q,m,e2,_⟩
    . rw[m] at r;cases r
    . rw[m] at r;cases r;exact(h.unborn x hx k c J).2 (by rw[e2];simp)
   rcases Qj.1 g with e|g
   . subst e;rcases Qj.1 C with V|C
     . subst V;rfl
     . exact(F l' C Q b L hk).elim
   . rcases Qj.1 C with V|C
     . subst V;exact(F l g b Q hk L).elim
     . exact h.unb2 l l' g C k b Q hk L
 . intro l g;rcases Qj.1 g with e|g
   . subst e;exact hf
   . refine(h.facts l g).ext ?_ ?_ ?_
     . intro n hn;refine o n fun e=>?_;have:=(O.reads n e l.d (h.sub l g).1 hn).1;cases this
     . intro t E;refine o t fun e=>?_;exact O.dst t e l.d (h.sub l g).1 E
     . intro t n z p v _ _ _ lf;rcases j with ⟨_,e,_⟩ | ⟨k,b,_,m,e2⟩
       . rw[e];exact lf
       . rw[e2];intro M1 w1 a0 u hd hb;refine lf M1 w1 a0 u hd fun q c S r=>hb q c S ?_;have A:k≠q:=fun e=>by
          subst e;exact s k (by rw[m];simp) c (J0g r)
         have a2:Nat.beq k q=false:=by
          rw[<- Xb];exact fun G=>A (Qc G)
         show(match Nat.beq k q with|true=>some b|false=>look own q)=_;rw[a2];exact r
 . intro l g;rcases Qj.1 g with e|g
   . subst e;exact a1
   . exact fun x=>h.disj l g (by simp[x])
 . intro k hk;refine h.kd1 k ?_;rcases j with ⟨_,_,e⟩ | ⟨_,_,_,e,_⟩
   . rw[e] at hk;exact hk
   . rw[e];exact Xz _ hk
 . intro l g k b hk;rcases Qj.1 g with e|g
   . subst e;rcases j with ⟨m,_,_⟩ | ⟨X,Q,m,e2,_⟩
     . rw[m] at hk;cases hk
     . rw[m] at hk;cases hk;exact h.kd1 k (by rw[e2];simp)
   . exact h.kd2 l g k b hk
 . intro k hk;rcases j with ⟨_,e,_⟩ | ⟨X,b,_,m,e2⟩
   . rw[e] at hk;exact h.kd4 k hk
   . rw[e2] at hk;simp only[Qv,Qj] at hk;rcases hk with e|e
     . subst e;exact h.kd5 _ (h.kd1 _ (by rw[m];simp))
     . exact h.kd4 k e
 . intro d W hd f he t E Y;rcases Qr.1 hd with hd|hd
   . rcases Qr.1 f with f|f
     . exact h.u1 d W hd f he t E Y
     . simp only[Q0] at f;subst f;exact O.uses d hd he t E Y
   . simp only[Q0] at hd;subst hd;rcases Qr.1 f with f|f
     . have:=(O.reads t E W f Y).1;cases this
     . simp only[Q0] at f;subst f;exact(O.self t E rfl Y).elim
 . intro d W hd f A t E K;rcases Qr.1 hd with hd|hd
   . rcases Qr.1 f with f|f
     . exact h.dd d W hd f A t E K
     . simp only[Q0] at f;subst f;exact O.dst t K d hd E
   . simp only[Q0] at hd;subst hd;rcases Qr.1 f with f|f
     . exact O.dst t E W f K
     . simp only[Q0] at f;subst f;exact A rfl
theorem J6W {env:Env} {g:Option (Nat×Bool)} {A C:Prop} (h:J6X env g A C):(J2f env g true/\A)\/(J2f env g false/\C):=by
 unfold J6X at h;split at h
 . exact .inl ⟨rfl,h⟩
 . rename_i t a;split at h
   . rename_i b c;split at h
     . rename_i d;exact .inl ⟨.inl ⟨b,c,by revert d;cases b<;>cases a<;>decide⟩,h⟩
     . rename_i d;exact .inr ⟨.inl ⟨b,c,by revert d;cases b<;>cases a<;>decide⟩,h⟩
   . rename_i us c;exact .inr ⟨.inr ⟨rfl,us,c⟩,h⟩
   . exact h.elim
theorem J2Y {P:Program} {post:List DI} {env:Env} {d:Option Nat} {v:V} {own:Own} {ks:List Nat} {K:Env->Own->List Nat->Prop}
 (h:match d with|some t=>J1N P post ((t,v)::env) own ks K|none=>J1N P post env own ks K):J1N P post (J8T env d v) own ks K:=by
 unfold J8T;cases d<;>exact h
theorem Inv.absorb {E:SI} {F:Nat} {o:Oper} (Q:ops[F]?=some o) (u:cSI P N ops o=some E) (I:Y1O anc pre (.op F E) post) (D:F∉post.map DI.ix)
 (h:Inv P N Bd ops anc σ0 ks0 Z pre (.op F E::post) late env own ks B M w σ a listed) {K:Env->Own->List Nat->Prop} (G:J1N P (.op F E::post) env own ks K) :
 ∃lk env' own' C,Inv P N Bd ops anc σ0 ks0 Z (pre++[.op F E]) post (⟨.op F E,lk⟩::late) env' own' C B M w σ a listed/\J1N P post env' own' C K:=by
 obtain⟨d,op,g⟩:=E;obtain⟨s,j,hN,J⟩:=J51 u;have a0:o.dst=d:=by rcases J with ⟨_,e⟩ | ⟨_,_,_,_,_,e⟩<;>(cases e;rfl)
 have U:s=op:=by rcases J with ⟨_,e⟩ | ⟨_,_,_,_,_,e⟩<;>(cases e;rfl)
 subst U;obtain⟨c1,c2,c3⟩:=I.op rfl;have y:∀n,n∈SI.uses ⟨d,s,g⟩->∀v,look (J8T env d v) n=look env n:=by
  intro n A v;unfold J8T;split
  . rename_i t;refine J4y fun e=>?_;subst e;exact I.self t rfl rfl A
  . rfl
 have S:∀n,n∈J3e s.xs->∀v,look (J8T env d v) n=look env n:=fun n A=>y n (by simp[SI.uses,A]);have hg:∀run v,J2f env g run->J2f (J8T env d v) g run:=fun run v Y=>Y.ext fun t b e=>y t (by simp[SI.uses,e]) v;have i:∀v t,d=some t->look (J8T env d v) t=some v:=by
  intro v t e;subst e;exact J6S
 rcases J6W G with ⟨O,G⟩ | ⟨O,G⟩
 . by_cases A:s.isNew=true
   . obtain⟨k,C,b,v,rfl,L,af,T⟩:=Q1W j A G;refine⟨_,_,_,_,h.push I D (.new k b v) ((k,b)::own) C ⟨o,Q,u,fun t H=>i v t H,hg _ v O,af.ext fun n A=>S n A v,?_,A⟩ (.inr ⟨k,b,rfl,rfl,rfl⟩),J2Y L⟩;rcases T with e | ⟨_,_,e⟩|e<;>(rw[e];rfl)
   . by_cases hl:∃z x,s=.load z x
     . obtain⟨z,x,rfl⟩:=hl;obtain⟨n,rfl⟩:=c3 z x rfl;obtain⟨t,x0,p,v,e1,e2,L,l,hp,lf,V⟩:=J9B j G;have R:x0=.tmp n/\look env n=some p:=by
        have hw:=J2r j;rw[e1] at hw;cases hw with
        | load _ _ _ _ _ r =>
          cases x0 with
          | tmp m =>
            simp only[cX,Qf,X.t.injEq] at r;subst r;refine⟨rfl,?_⟩;simp only[X.get] at l;split at l
            . rename_i q hq;rw[hq,l]
            . exact l.elim
          | const c=>simp only[cX,Qt] at r;obtain⟨_,_,Y⟩:=r;cases Y
          | global g=>cases r
          | func f=>simp[cX] at r
       obtain⟨rfl,W⟩:=R;refine⟨_,_,_,_,h.push I D (.load t n z p v) own ks ⟨o,Q,u,fun t H=>i v t H,hg _ v O,rfl,e1,e2,?_,lf,V⟩ (.inl ⟨rfl,rfl,rfl⟩),J2Y L⟩;rw[S n (by simp[SOp.xs,J3e])];exact W
     . obtain⟨v,L,pf⟩:=J9r j (by simpa using A) c1 (fun z x e=>hl ⟨z,x,e⟩) G;exact⟨_,_,_,_,h.push I D (.pure v) own ks ⟨o,Q,u,fun t H=>i v t H,hg _ v O,pf.ext fun n A=>S n A v⟩ (.inl ⟨rfl,rfl,rfl⟩),J2Y L⟩
 . exact⟨_,_,_,_,h.push I D .skip own ks ⟨o,Q,u,fun t H=>i _ t H,hg _ _ O⟩ (.inl ⟨rfl,rfl,rfl⟩),J2Y G⟩
end
theorem J9x {α:Type}:∀{l:List (Nat×α)} {k:Nat} {a b:α},(l.map (·.1)).Nodup->(k,a)∈l->(k,b)∈l->a=b
 | [],_,_,_,_,h,_=>by simp at h
 | p::l,k,a,b,d,f,c=>by
   simp only[Qv,Q2] at d;rcases Qj.1 f with e|f
   . rcases Qj.1 c with g|c
     . rw[<- e] at g;cases g;rfl
     . exact(d.1 (by rw[<- e];exact Qi.2 ⟨_,c,rfl⟩)).elim
   . rcases Qj.1 c with g|c
     . exact(d.1 (by rw[<- g];exact Qi.2 ⟨_,f,rfl⟩)).elim
     . exact J9x d.2 f c
theorem J8d {α:Type}:∀{l m:List (Nat×α)} {k:Nat},(∀b,(k,b)∉l)->look (l++m) k=look m k
 | [],_,_,_=>rfl
 | (q,b)::l,m,k,h=>by
   have a:q≠k:=fun e=>h b (by simp[e]);have c:Nat.beq q k=false:=by
    rw[<- Xb];exact fun d=>a (Qc d)
   show(match Nat.beq q k with|true=>some b|false=>look (l++m) k)=_;rw[c];exact J8d fun b c=>h b (by simp[c])
theorem J4r {env:Env}:∀(j:List Nat) (own a:Own) (K:Own->Own->Prop),J40 env j own a K->(own.map (·.1)).Nodup->(a.map (·.1)).Nodup->(∀k,k∈own.map (·.1)->k∉a.map (·.1)) ->
 ∃A C,K A C/\(A.map (·.1)).Nodup/\(C.map (·.1)).Nodup/\(∀k,k∈A.map (·.1)->k∉C.map (·.1))/\(∀k b,((k,b)∈own\/(k,b)∈a)↔((k,b)∈A\/(k,b)∈C))/\(∀k b,(k,b)∈A->(k,b)∈own) /\
  ∀t,t∈j->∀v k,look env t=some v->Q2a v=some k->∀b,(k,b)∉A
 | [],own,a,K,h,o,w,n=>⟨own,a,h,o,w,n,fun _ _=>Jb,fun _ _ h=>h,by simp⟩
 | t::r,own,a,K,h,o,w,n=>by
   unfold J40 at h;split at h
   . rename_i v O;split at h
     . rename_i k hk;split at h
       . rename_i b S;obtain⟨own',h,Q,y⟩:=J3Q _ _ _ h o;have i:=J0g S;have s:k∉a.map (·.1):=n k (Qi.2 ⟨_,i,rfl⟩);have u:∀q,q∈own'.map (·.1)->q∈own.map (·.1)/\q≠k:=by
          intro q p;obtain⟨⟨P,c⟩,R,e⟩:=Qi.1 p;simp only at e;subst e;obtain⟨D,B⟩:=(y P c).1 R;exact⟨Qi.2 ⟨_,B,rfl⟩,D⟩
         obtain⟨A,C,H,N,M,L,J,z,I⟩:=J4r r own' ((k,b)::a) K h Q (by simp only[Qv,Q2];exact⟨s,w⟩) (fun q p=>by
          obtain⟨D,B⟩:=u q p;simp only[Qv,Qj,not_or];exact⟨B,n q D⟩)
         have m:∀c,(k,c)∈own->c=b:=fun c l=>J9x o l i;refine⟨A,C,H,N,M,L,?_,?_,?_⟩
         . intro q c;rw[<- J];simp only[Qj,Qu,y];constructor
           . rintro (x|x)
             . by_cases e:q=k
               . subst e;exact .inr (.inl ⟨rfl,m c x⟩)
               . exact .inl ⟨e,x⟩
             . exact .inr (.inr x)
           . rintro (⟨_,x⟩ | ⟨T,e2⟩|x)
             . exact .inl x
             . subst T e2;exact .inl i
             . exact .inr x
         . intro q c p;exact((y q c).1 (z q c p)).2
         . intro F f E G d g c l;rcases Qj.1 f with e|f
           . subst e;rw[O] at d;cases d;rw[hk] at g;cases g;exact((y k c).1 (z k c l)).1 rfl
           . exact I F f E G d g c l
       . exact h.elim
     . rename_i hk;obtain⟨A,C,H,N,M,L,J,z,I⟩:=J4r r own a K h o w n;refine⟨A,C,H,N,M,L,J,z,?_⟩;intro F f E G d g c l;rcases Qj.1 f with e|f
       . subst e;rw[O] at d;cases d;rw[hk] at g;cases g
       . exact I F f E G d g c l
   . exact h.elim
theorem J90 {α:Type}:∀(l m:List α) (K:List α->Prop),X8k l m K->K (l++m)
 | [],_,_,h=>h
 | x::l,m,K,h=>J90 l m (fun a=>K (x::a)) h
theorem J5h {env:Env} {own:Own} {G:Prop}:∀(l:List (Option Nat×Nat×Nat)),J87 env own G l->G/\∀z n t,(z,n,t)∈l->∀p v,look env n=some p->look env t=some v->(∃u,v=.raw u)\/J39 own z p (fun m=>m=v)
 | [],h=>⟨h,by simp⟩
 | (z,n,t)::r,h=>by
   unfold J87 at h;split at h
   . rename_i u o;obtain⟨g,j⟩:=J5h r h;refine⟨g,fun c f d b p v hp a=>?_⟩;rcases Qj.1 b with e|b
     . cases e;rw[o] at a;cases a;exact .inl ⟨_,rfl⟩
     . exact j c f d b p v hp a
   . rename_i v0 _ i;split at h
     . rename_i s k;obtain⟨q,h⟩:=h;obtain⟨g,j⟩:=J5h r h;refine⟨g,fun c f d b p v hp a=>?_⟩;rcases Qj.1 b with e|b
       . cases e;rw[i] at a;rw[k] at hp;cases a;cases hp;exact .inr q
       . exact j c f d b p v hp a
     . exact h.elim
   . exact h.elim
theorem J9H {M P:Nat->Prop} {w w':World} {σ d:Sg} {B A z C:Own} {ks s:List Nat} (m:J0T M w σ B ks) (Y:∀k b,(k,b)∈A->(k,b)∈B) (v:∀k b,(k,b)∈C->(k,b)∈B)
 (K:∀k,k∈A.map (·.1)->k∉C.map (·.1)) (S:(C.map (·.1)).Nodup) (L:J0T P w' d z s) (f:Tr M w σ A P w' d z) (kd:Kd σ A ks d z s) :
 J0T P w' d (z++C) s/\Tr M w σ B P w' d (z++C):=by
 have g:∀n,J0x w σ A n->J0x w σ B n:=fun n ⟨k,b,a,e⟩=>⟨k,b,Y k b a,e⟩;have h:∀n,J0x w σ C n->J0x w σ B n/\¬ J0x w σ A n:=by
  rintro n ⟨k,b,a,e⟩;refine⟨⟨k,b,v k b a,e⟩,?_⟩;rintro⟨q,c,F,e'⟩;have l:q≠k:=fun ee=>by
   subst ee;exact K q (Qi.2 ⟨_,F,rfl⟩) (Qi.2 ⟨_,a,rfl⟩)
  exact m.own.apart q c k b n (Y q c F) (v k b a) l e' e
 have o:∀k b,(k,b)∈C->∃x,σ k=some x:=fun k b a=>m.own.key (v k b a);have Q:∀k b n,(k,b)∈C->(J0n w' d k b n↔J0n w σ k b n):=fun k b n a=>J0U f.le (o k b a) fun U R=>by
  obtain⟨H,D⟩:=h U ⟨k,b,a,.inl R⟩;exact f.adv.same U (J0p m.own H).2 D
 have hE:Ext M w P w':=f.adv.ext fun n u=>(J0p m.own (g n u)).1;have r:∀k,k∈z.map (·.1)->k∉C.map (·.1):=by
  intro k hk X;obtain⟨⟨q,c⟩,a,e⟩:=Qi.1 X;simp only at e;subst e;rcases kd.2.2 q hk with x|x
  . exact K q x X
  . obtain⟨y,W⟩:=o q c a;rw[m.fresh q x] at W;cases W
 refine⟨⟨⟨?_,?_,?_⟩,L.fresh,L.knodup⟩,⟨⟨f.adv.os,f.adv.tape,f.adv.output,f.adv.size,?_,?_⟩,?_,f.le⟩⟩
 . intro k b a;rcases Qr.1 a with a|a
   . exact L.own.blk k b a
   . refine(m.own.blk k b (v k b a)).mono hE f.le fun n u=>?_;obtain⟨H,D⟩:=h n ⟨k,b,a,u⟩;obtain⟨Z,V⟩:=J0p m.own H;exact⟨(f.adv.muts n V D).2 Z,f.adv.same n V D⟩
 . rw[Zj,X4];refine⟨L.own.nodup,S,fun k hk q F e=>?_⟩;subst e;exact r k hk F
 . intro k b E G n p i l N e2;have j:∀q c I O,(q,c)∈z->(I,O)∈C->J0n w' d q c n->J0n w' d I O n->False:=by
    intro q c I O F J x T;rw[Q I O n J] at T;obtain⟨H,D⟩:=h n ⟨I,O,J,T⟩;have a0:=(J0p m.own H).2;rcases f.new n ⟨q,c,F,x⟩ with y|y
    . exact D y
    . omega
   rcases Qr.1 p with p|p
   . rcases Qr.1 i with i|i
     . exact L.own.apart k b E G n p i l N e2
     . exact j k b E G p i N e2
   . rcases Qr.1 i with i|i
     . exact j E G k b i p e2 N
     . rw[Q k b n p] at N;rw[Q E G n i] at e2;exact m.own.apart k b E G n (v k b p) (v E G i) l N e2
 . intro n u t;exact f.adv.same n u fun x=>t (g n x)
 . intro n u t;exact f.adv.muts n u fun x=>t (g n x)
 . rintro n ⟨k,b,a,e⟩;rcases Qr.1 a with a|a
   . rcases f.new n ⟨k,b,a,e⟩ with x|x
     . exact .inl (g n x)
     . exact .inr x
   . rw[Q k b n a] at e;exact .inl ⟨k,b,v k b a,e⟩
section
variable {P:Program} {N Bd:Nat} {ops:Array Oper} {anc:Nat->List Nat} {σ0:Sg} {ks0 Z:List Nat} {pre post:List DI} {late:List LT} {env:Env} {own:Own} {ks:List Nat} {B:Own} {M:Nat->Prop} {w:World} {σ:Sg} {a:Act} {listed:Array Bool}
theorem Inv.eff_done {e:DI} (a5:e.isEff=true) (U:Y1O anc pre e post) (a4:e.ix∉post.map DI.ix) {o:Oper} (ho:ops[e.ix]?=some o) (E:o.dst=e.si.dst)
 (h:Inv P N Bd ops anc σ0 ks0 Z pre (e::post) late env own ks B M w σ a listed) (hr:∀j,j∈J1w o->listed.getD j false=true) (hN:∀t,e.si.dst=some t->t<N)
 (H:∀l,l∈late->l.d.ix∉anc e.ix)
 {M':Nat->Prop} {w':World} {r:Sg} {B' own':Own} {F:List Nat} {u:Value} {v:V} (hv:Den M' w' r v u) (C:J0T M' w' r B' F) (tr:Tr M w σ B M' w' r B')
 (S:∀q,q∈F->q∈ks) (J:∀q,σ q=none->q∉ks->r q=none)
 (a1:∀k b,(k,b)∈own'↔((k,b)∈B'\/∃l,l∈late/\l.k.newk=some (k,b))) (L:(own'.map (·.1)).Nodup) (a0:∀k,k∈own'.map (·.1)->k∈own.map (·.1)\/k∈ks)
 (a3:∀l,l∈late->∀t n z p v,l.k=.load t n z p v->look env n=some p->J4i P t=some z->Q2Q P t p v own->Q2Q P t p v own') :
 Inv P N Bd ops anc σ0 ks0 Z (pre++[e]) post late (J8T env e.si.dst v) own' F B' M' w' r (a.put o.dst u) (listed.setIfInBounds e.ix true):=by
 have hE:=tr.ext h.heap.own;have a2:e.ix<ops.size:=(Xl.1 ho).1;have R:e.ix<listed.size:=by rw[h.lsize];exact a2
 have f:∀t,e.si.dst≠some t->look (J8T env e.si.dst v) t=look env t:=by
  intro t c;unfold J8T;split
  . rename_i t' X;exact J4y (fun a6=>c (by rw[X,a6]))
  . rfl
 have Q:∀l,l∈late->∀t,e.si.dst=some t->l.d.si.dst≠some t/\t∉l.d.si.uses:=by
  intro l g t c;refine⟨U.dst t c l.d (h.sub l g).1,fun K=>?_⟩;exact H l g (U.reads t c l.d (h.sub l g).1 K).2
 refine⟨?_,?_,?_,?_,h.nd,?_,?_,?_,C,a1,L,?_,h.unb2,?_,?_,?_,h.kd2,?_,?_,h.kd5,?_,?_⟩
 . cases o.dst<;>simp[Act.put,h.size]
 . have hd:=h.defers.tr tr;cases o.dst<;>exact hd
 . simp[h.lsize]
 . intro l g;exact⟨X0 _ (h.sub l g).1,(h.sub l g).2⟩
 . intro i T;rw[J7o R];by_cases s:e.ix=i
   . subst s;rw[Qe rfl];constructor
     . intro C;cases C
     . intro C;exfalso;rcases C with C|C
       . obtain⟨x,I,X⟩:=Qi.1 C;exact h.disj x I (by rw[X];simp)
       . exact a4 C
   . rw[Qb s,h.part i T];simp only[Qv,Qj];constructor
     . rintro (x|x|x)
       . exact .inl x
       . exact(s x.symm).elim
       . exact .inr x
     . rintro (x|x)
       . exact .inl x
       . exact .inr (.inr x)
 . intro i o' G T j hj;rw[J7o R] at T ⊢;by_cases ej:e.ix=j
   . rw[Qe ej]
   . rw[Qb ej];by_cases s:e.ix=i
     . subst s;rw[ho] at G;cases G;exact hr j hj
     . rw[Qb s] at T;exact h.closed i o' G T j hj
 . intro t x I hn;by_cases W:e.si.dst=some t
   . have:look (J8T env e.si.dst v) t=some v:=by rw[W];exact J6S
     rw[this] at I;cases I;rw[E,W];have c:t<a.tmps.size:=by rw[h.size];exact hN t W
     simpa[Act.put,Array.getD,c] using hv
   . rw[f t W] at I;have O:=h.envd t x I hn;have he:(a.put o.dst u).tmps.getD t undef=a.tmps.getD t undef:=by
      rw[E];cases hd:e.si.dst with
      | none=>rfl
      | some t' =>
        have A:t'≠t:=fun X=>W (by rw[hd,X]);simp only[Act.put,Qx,Yn,Qb A]
     rw[he];exact O.mono hE tr.le
 . intro l g k b hk;obtain⟨q1,q2⟩:=h.unborn l g k b hk;exact⟨J k q1 q2,fun x=>q2 (S k x)⟩
 . intro l g;refine(h.facts l g).ext ?_ ?_ (a3 l g)
   . intro n hn;exact f n fun s=>(Q l g n s).2 hn
   . intro t c;exact f t fun s=>(Q l g t s).1 c
 . intro l g x;exact h.disj l g (by simp only[Qv,Qj];exact .inr x)
 . intro k hk;exact h.kd1 k (S k hk)
 . intro q h1 h2;exact J q (h.kd3 q h1 h2) fun x=>h2 (h.kd1 q x)
 . intro k hk;rcases a0 k hk with x|x
   . exact h.kd4 k x
   . exact h.kd5 k (h.kd1 k x)
 . intro d Y hd D he t c K;rcases Qr.1 hd with m|m
   . rcases Qr.1 D with g2|g2
     . exact h.u1 d Y m g2 he t c K
     . simp only[Q0] at g2;rw[g2] at K ⊢;exact U.uses d m he t c K
   . simp only[Q0] at m;rw[m,a5] at he;cases he
 . intro d Y hd D A t c y;rcases Qr.1 hd with m|m
   . rcases Qr.1 D with g2|g2
     . exact h.dd d Y m g2 A t c y
     . simp only[Q0] at g2;rw[g2] at y;exact U.dst t y d m c
   . simp only[Q0] at m;rcases Qr.1 D with g2|g2
     . rw[m] at c;exact U.dst t c Y g2 y
     . simp only[Q0] at g2;exact A (by rw[m,g2])
theorem Inv.eff_step (r:Option Nat) (st:J92 ops anc) {E:Nat} {f:List Nat} {held:List (Option Nat×Nat×Nat)} {si:SI} {o:Oper} (ho:ops[E]?=some o) (Y:cSI P N ops o=some si)
 (hc:Y1O anc pre (.eff E f held si) post) (aj:E∉post.map DI.ix) (h:Inv P N Bd ops anc σ0 ks0 Z pre (.eff E f held si::post) late env own ks B M w σ a listed)
 (hr:∀j,j∈J1w o->listed.getD j false=true) {K0:Env->Own->List Nat->Prop} (L:J1N P (.eff E f held si::post) env own ks K0)
 {Q:Exit->Act->World->Prop} {K:Act->World->Prop}
 (hK:∀env' own' W B' M' w' V a',Inv P N Bd ops anc σ0 ks0 Z (pre++[.eff E f held si]) post late env' own' W B' M' w' V a' (listed.setIfInBounds E true)->J1N P post env' own' W K0->Tr M w σ B M' w' V B'->K a' w') :
 wpOpIn (FR r) 0 P ops Q E K a w:=by
 obtain⟨d,op,g⟩:=si;obtain⟨I,ae,hN,al⟩:=J51 Y;have T:o.dst=d:=by rcases al with ⟨_,e⟩ | ⟨_,_,_,_,_,e⟩<;>(cases e;rfl)
 have ax:I=op:=by rcases al with ⟨_,e⟩ | ⟨_,_,_,_,_,e⟩<;>(cases e;rfl)
 subst ax;obtain⟨c1,_,c3⟩:=hc.eff E f held _ rfl;have ad:∀l,l∈late->listed.getD l.d.ix false=false:=by
  intro l m;obtain⟨o',a0,_⟩:=h.facts l m;have az:=(Xl.1 a0).1;have h3:=(h.part _ az).2 (.inl (Qi.2 ⟨l,m,rfl⟩));have hs:=h.lsize;rw[Qx,Z3 (by omega)] at h3 ⊢;simpa using h3
 have i:∀l,l∈late->l.d.ix∉anc E:=by
  intro l m D;have:=J6D st h.lsize h.closed E o ho hr _ D;rw[ad l m] at this;cases this
 have U:∀t,t∈SI.uses ⟨d,I,g⟩->∀v,look env t=some v->Den M w σ v (a.tmps.getD t undef):=by
  intro t ht v L;refine h.envd t v L fun l m e=>?_;exact i l m (hc.uses l.d (h.sub l m).1 (h.sub l m).2 t e ht)
 have ok:∀x,x∈I.xs->XOk M w σ env a x:=fun x hx n e v L=>U n (by simp only[SI.uses,Qr];exact .inl (J2Z (e▸hx))) v L;have ao:∀t,d=some t->t<N:=fun t ht=>hN t (by rw[T];exact ht);rcases J6W L with ⟨gk,L⟩ | ⟨gk,L⟩
 . obtain⟨A,C,L,a1,a2,a3,a4,a5,a6⟩:=J4r _ _ _ _ L h.ownnd (by simp) (by simp);have H:∀k b,(k,b)∈own↔((k,b)∈A\/(k,b)∈C):=fun k b=>by rw[<- a4];simp
   have ac:∀k b,(k,b)∈A->(k,b)∈B:=by
    intro k b D;rcases (h.ownc k b).1 (a5 k b D) with x | ⟨l,m,hk⟩
    . exact x
    . exfalso;have hp:=c3 l.d (h.sub l m).1 (h.sub l m).2 (i l m);obtain⟨o',a0,_,s,R⟩:=h.facts l m;cases G:l.k with
      | new k' b' v =>
        rw[G] at hk R s;cases hk;obtain⟨_,_,ai,O⟩:=R;have:∃t,l.d.si.dst=some t/\t∈f:=by
         unfold X2g at hp;split at hp
         . rename_i z x e;rw[e] at O;cases O
         . split at hp
           . split at hp
             . rename_i t e;exact⟨t,e,J0k.1 hp⟩
             . cases hp
           . rename_i ag;rw[O] at ag;cases ag
        obtain⟨t,ht,aw⟩:=this;exact a6 t aw v k (s t ht) ai b D
      | pure v=>rw[G] at hk;cases hk
      | load _ _ _ _ _=>rw[G] at hk;cases hk
      | skip=>rw[G] at hk;cases hk
   let CB:Own:=B.filter fun p=>decide (p.1∉A.map (·.1));have ab:∀k b,(k,b)∈CB↔((k,b)∈B/\k∉A.map (·.1)):=fun k b=>by simp[CB]
   have aa:=J5S (own':=A) h.heap ac a1;refine J68 ho (J1U Y gk U) (Oper.wpIn_mono ?_ (X0d ae c1 L ok aa.1 Q r));rintro a' w' ⟨u,M',V,v,A',W,rfl,au,ak,tr,kd,a8⟩;obtain⟨a9,av⟩:=J5h _ a8;have a9:=J90 _ _ _ a9;have X:=J9H (C:=CB) h.heap ac (fun k b D=>((ab k b).1 D).1) (fun k hk b2=>by
    obtain⟨⟨q,c⟩,D,e⟩:=Qi.1 b2;simp only at e;subst e;exact((ab q c).1 D).2 hk) (h.heap.own.nodup.sublist (List.Sublist.map _ J7)) ak tr kd
   have J:∀k,k∈A'.map (·.1)->k∉C.map (·.1):=by
    intro k hk an;rcases kd.2.2 k hk with x|x
    . exact a3 k x an
    . obtain⟨⟨q,c⟩,D,e⟩:=Qi.1 an;simp only at e;subst e;rcases (h.ownc q c).1 ((H q c).2 (.inr D)) with y | ⟨l,m,y⟩
      . obtain⟨z,hz⟩:=h.heap.own.key y;rw[h.heap.fresh q x] at hz;cases hz
      . exact(h.unborn l m q c y).2 x
   have S:=h.eff_done (e:=.eff E f held ⟨d,I,g⟩) rfl hc aj ho T hr ao i (own':=C++A') au X.1 X.2 kd.1 kd.2.1
    (fun k b=>by
      rw[Qr,Qr,ab];constructor
      . rintro (x|x)
        . rcases (h.ownc k b).1 ((H k b).2 (.inr x)) with y|y
          . exact .inl (.inr ⟨y,fun z=>a3 k z (Qi.2 ⟨_,x,rfl⟩)⟩)
          . exact .inr y
        . exact .inl (.inl x)
      . rintro ((x | ⟨x,y⟩)|x)
        . exact .inr x
        . rcases (H k b).1 ((h.ownc k b).2 (.inl x)) with z|z
          . exact(y (Qi.2 ⟨_,z,rfl⟩)).elim
          . exact .inl z
        . rcases (H k b).1 ((h.ownc k b).2 (.inr x)) with z|z
          . exfalso;obtain⟨l,m,hk⟩:=x;obtain⟨y,hy⟩:=h.heap.own.key (ac k b z);rw[(h.unborn l m k b hk).1] at hy;cases hy
          . exact .inl z)
    (by
      rw[Zj,X4];exact⟨a2,ak.own.nodup,fun k hk q hq e=>by subst e;exact J k hq hk⟩)
    (fun k hk=>by
      rw[Zj,Qr] at hk;rcases hk with x|x
      . obtain⟨⟨q,c⟩,D,e⟩:=Qi.1 x;exact .inl (Qi.2 ⟨_,(H q c).2 (.inr D),e⟩)
      . rcases kd.2.2 k x with y|y
        . obtain⟨⟨q,c⟩,D,e⟩:=Qi.1 y;exact .inl (Qi.2 ⟨_,(H q c).2 (.inl D),e⟩)
        . exact .inr y)
    (fun l m t n z p v' G hp hz lf=>by
      have F:=c3 l.d (h.sub l m).1 (h.sub l m).2 (i l m);obtain⟨o',a0,_,s,R⟩:=h.facts l m;rw[G] at s R;obtain⟨_,e1,_,_,_,_,ay⟩:=R;unfold X2g at F;rw[e1] at F;simp only at F;split at F
      . rename_i n' t' en et;cases en;have b0:=Q4V F;rcases av z n t' b0 p v' hp (s t' et) with ⟨uu,af⟩|a7
        . exact(ay uu af).elim
        . have ar:=X2G hz a7;intro M1 w1 aq u1 b1 b3;refine ar M1 w1 aq u1 b1 fun q c hq ah=>b3 q c hq ?_;rw[J8d (fun b hb=>J q (Qi.2 ⟨_,J0g ah,rfl⟩) (Qi.2 ⟨_,hb,rfl⟩))];exact ah
      . cases F)
   exact hK _ _ _ _ M' w' V _ S (J2Y a9) X.2
 . refine Q1d ho (J1U Y gk U) ?_;have S:=h.eff_done (e:=.eff E f held ⟨d,I,g⟩) rfl hc aj ho T hr ao i (v:=.raw (.tuple #[])) (u:=undef) (.raw _ _) h.heap (Tr.refl _ _ _ _) (fun _ x=>x) (fun _ x _=>x) h.ownc h.ownnd (fun _ x=>.inl x)
    (fun _ _ _ _ _ _ _ _ _ _ lf=>lf)
   exact hK _ _ _ _ M w σ _ S (J2Y L) (Tr.refl _ _ _ _)
end
theorem Q5G {P:Program} {N:Nat} {ops:Array Oper}:∀{l:List Oper} {b:List SI},X3K P N ops l=some b->∀(i:Nat) (s:SI),b[i]?=some s->∃o,l[i]?=some o/\cSI P N ops o=some s
 | [],b,h,i,s,a=>by simp[X3K] at h;subst h;simp at a
 | o::l,b,h,i,s,a=>by
   unfold X3K at h;split at h<;>simp only[Qf,reduceCtorEq] at h;rename_i k c j g;subst h;cases i with
   | zero=>simp at a;subst a;exact⟨o,by simp,j⟩
   | succ i =>
     obtain⟨d,f,e⟩:=Q5G g i s (by simpa using a);exact⟨d,by simpa using f,e⟩
theorem J5f {A:List (List Nat)} {a:List SI}:∀{c done:List Nat} {d:DI},d∈J5g A a c done->a[d.ix]?=some d.si
 | [],_,d,h=>by simp[J5g] at h
 | i::r,done,d,h=>by
   unfold J5g at h;split at h
   . rename_i f b;split at h
     . rcases Qj.1 h with e|h
       . subst e;exact b
       . exact J5f h
     . simp only[Qj] at h;rcases h with e|h
       . subst e;exact b
       . exact J5f h
   . simp at h
theorem J8E {A:List (List Nat)} {pre:List DI} {d:DI} {post:List DI} (h:J60 A pre (d::post)=true):X3m A pre d post=true/\J60 A (pre++[d]) post=true:=by
 simpa[J60] using h
section
variable {P:Program} {N Bd:Nat} {ops:Array Oper} {A:List (List Nat)} {σ0:Sg} {ks0 Z:List Nat} {B:Own} {M:Nat->Prop} {w:World} {σ:Sg} {a:Act} {listed:Array Bool} {K:Env->Own->List Nat->Prop}
theorem Inv.norm:∀(rest pre:List DI) (late:List LT) (env:Env) (own:Own) (ks:List Nat),Inv P N Bd ops (fun i=>A.getD i []) σ0 ks0 Z pre rest late env own ks B M w σ a listed->J60 A pre rest=true ->
 (∀d,d∈rest->∃o,ops[d.ix]?=some o/\cSI P N ops o=some d.si)->(rest.map DI.ix).Nodup->J1N P rest env own ks K ->
 ∃k b e env' own' j,Inv P N Bd ops (fun i=>A.getD i []) σ0 ks0 Z k b e env' own' j B M w σ a listed/\J60 A k b=true/\(∀d,d∈b->d∈rest)/\(b.map DI.ix).Nodup /\
  J1N P b env' own' j K/\e.length+b.length=late.length+rest.length/\(b=[]\/∃t c held r post,b=.eff t c held r::post)
 | [],pre,late,env,own,ks,h,v,_,n,u=>⟨pre,[],late,env,own,ks,h,v,fun _ h=>h,n,u,rfl,.inl rfl⟩
 | .eff t c held r::post,pre,late,env,own,ks,h,v,_,n,u=>⟨pre,_,late,env,own,ks,h,v,fun _ h=>h,n,u,rfl,.inr ⟨t,c,held,r,post,rfl⟩⟩
 | .op t r::post,pre,late,env,own,ks,h,v,z,n,u=>by
   obtain⟨O,L⟩:=J8E v;obtain⟨o,I,y⟩:=z (.op t r) (by simp);simp only[Qv,Q2] at n;have p:=X0t O;obtain⟨lk,env',own',j,J,x⟩:=h.absorb I y p n.1 u;obtain⟨l,f,g,q,m,s,r1,H,G,F,E,D,C⟩:=Inv.norm post _ _ env' own' j J L (fun d hd=>z d (by simp[hd])) n.2 x;exact⟨l,f,g,q,m,s,r1,H,fun d hd=>Xz _ (G d hd),F,E,by simp only[List.length_cons] at D ⊢;omega,C⟩
theorem X28 (r:Option Nat) (st:J92 ops (fun i=>A.getD i [])) {Q:Exit->Act->World->Prop}:∀(fuel:Nat) (rest pre:List DI) (late:List LT) (env:Env) (own:Own) (ks:List Nat) (B:Own) (M:Nat->Prop) (w:World) (σ:Sg) (a:Act) (listed:Array Bool),
 Inv P N Bd ops (fun i=>A.getD i []) σ0 ks0 Z pre rest late env own ks B M w σ a listed->J60 A pre rest=true ->
 (∀d,d∈rest->∃o,ops[d.ix]?=some o/\cSI P N ops o=some d.si)->(rest.map DI.ix).Nodup->J1N P rest env own ks K->late.length+rest.length<=fuel ->
 (∀env' own' k U T w' g S c b,Inv P N Bd ops (fun i=>A.getD i []) σ0 ks0 Z c [] [] env' own' k U T w' g S b->Tr M w σ B T w' g U->K env' own' k->Q .normal S w') ->
 wpAnyIn (FR r) 0 P .any ops Q fuel listed a w:=by
 intro fuel
 induction fuel with
 | zero =>
   intro rest pre late env own ks B M w σ a listed h hc X H E hf Y;have e1:late=[]:=Xg (by omega);have e2:rest=[]:=Xg (by omega);subst e1 e2;refine⟨?_,Y env own ks B M w σ a pre listed h (Tr.refl _ _ _ _) E⟩;rw[Y9];intro i I;obtain⟨h1,h2,_⟩:=J7X.1 I;rcases (h.part i h1).1 h2 with x|x<;>simp at x
 | succ fuel ih =>
   intro rest pre late env own ks B M w σ a listed h hc X H E hf Y;obtain⟨pre,rest,late,env,own,ks,h,hc,W,H,E,a0,G⟩:=Inv.norm rest pre late env own ks h hc X H E;have p:∀d,d∈rest->∃o,ops[d.ix]?=some o/\cSI P N ops o=some d.si:=fun d hd=>X d (W d hd);refine⟨?_,?_⟩
   . intro a4;have z:∀i,i<ops.size->listed.getD i true=true:=by
      intro i
      induction i using Nat.strongRecOn with
      | _ i a1 =>
        intro I;cases s:listed.getD i true with
        | true=>rfl
        | false =>
          exfalso;have:i∈Region.ready .any ops listed:=by
           refine J7X.2 ⟨I,s,ops[i],by simp[I],fun j hj=>?_⟩;have a5:=st.edge i ops[i] (by simp[I]) j hj;have:=a1 j a5 (by omega);have X:=h.lsize;rw[Qx,Z3 (by omega)] at this ⊢;simpa using this
          rw[a4] at this;simp at this
     have e1:late=[]:=by
      rw[Y9];intro l s;obtain⟨o',F,_⟩:=h.facts l s;have f:=(Xl.1 F).1;have:=(h.part _ f).2 (.inl (Qi.2 ⟨l,s,rfl⟩));rw[z _ f] at this;cases this
     have e2:rest=[]:=by
      rw[Y9];intro d hd;obtain⟨o',F,_⟩:=p d hd;have f:=(Xl.1 F).1;have:=(h.part _ f).2 (.inr (Qi.2 ⟨d,hd,rfl⟩));rw[z _ f] at this;cases this
     subst e1 e2;exact Y env own ks B M w σ a pre listed h (Tr.refl _ _ _ _) E
   . intro i I;obtain⟨h1,h2,o,ho,hr⟩:=J7X.1 I;rcases (h.part i h1).1 h2 with x|x
     . obtain⟨l,s,e⟩:=Qi.1 x;subst e;refine h.late_step r st s ho hr fun U T w' g S h' tr=>?_;refine ih rest pre _ env own ks U T w' g S _ h' hc p H E ?_ fun env' own' k O M'' C m L c b r1 r2 r3=>Y env' own' k O M'' C m L c b r1 (tr.trans r2) r3;have:(late.filter (fun y=>!Nat.beq y.d.ix l.d.ix)).length<late.length:=by
        refine List.length_filter_lt_length_iff_exists.2 ⟨l,s,by simp⟩
       omega
     . rcases G with e | ⟨R,n,held,si,post,e⟩
       . subst e;simp at x
       . subst e;obtain⟨c1,c2⟩:=J8E hc;have t:=X0t c1;simp only[Qv,Q2] at H;have a6:i=R:=by
          simp only[Qv,Qj,DI.ix] at x;rcases x with x|x
          . exact x
          . exfalso;obtain⟨d',a7,e'⟩:=Qi.1 x;have v:=(t.eff R n held si rfl).2.1 d' a7;rw[e'] at v;have s:=J6D st h.lsize h.closed i o ho hr R v;obtain⟨o2,q,_⟩:=p (.eff R n held si) (by simp);have f:R<ops.size:=(Xl.1 q).1;have u:=(h.part R f).2 (.inr (by simp[DI.ix]));have X:=h.lsize;rw[Qx,Z3 (by omega)] at s u;simp at s u;rw[s] at u;cases u
         subst a6;obtain⟨o2,q,a3⟩:=p (.eff i n held si) (by simp);simp only[DI.ix] at q;rw[ho] at q;cases q;refine h.eff_step r st ho a3 t H.1 hr E fun env' own' k U T w' g S h' a2 tr=>?_;refine ih post _ late env' own' k U T w' g S _ h' c2 (fun d hd=>p d (by simp[hd])) H.2 a2 ?_ fun J D V O M'' C m L c b r1 r2 r3=>Y J D V O M'' C m L c b r1 (tr.trans r2) r3;simp only[List.length_cons] at a0;omega
end
theorem Q26 {P:Program} (H:P.follows .mixedOrders=true) (r:Option Nat) {N B id:Nat} {ops:Array Oper} {pl:List DI} (hp:Q8E P N ops=some pl) {env:Env} {own:Own} {ks:List Nat} {K:Env->Own->List Nat->Prop}
 (h:J1N P pl env own ks K) {M:Nat->Prop} {w:World} {σ:Sg} {a:Act} (g:Sim N B M w σ ⟨env,own,ks⟩ a) {Q:Exit->Act->World->Prop}
 (hq:∀env' own' n S w' m R,Sim N B S w' m ⟨env',own',n⟩ R->Tr M w σ own S w' m own'->Kd σ own ks m own' n->K env' own' n->Q .normal R w'):(Code.region id ops true).wpIn (FR r) 0 P Q a w:=by
 unfold Q8E at hp;split at hp
 . rename_i D F;simp only at hp;split at hp
   . rename_i y;cases hp;simp only[Qg] at y;obtain⟨⟨C,z⟩,f⟩:=y;have U:J92 ops (fun i=>(X8O ops.toList []).getD i []):=by
      constructor
      . intro i o A j Y;have u:i<ops.size:=(Xl.1 A).1;have:=Qy.1 z i (Q7.2 u);rw[A] at this;simp only[Qg] at this;exact Qq (Qy.1 this.1 j Y)
      . intro i o A e he;have u:i<ops.size:=(Xl.1 A).1;have:=Qy.1 z i (Q7.2 u);rw[A] at this;simp only[Qg] at this;have O:=Qy.1 this.2 e he;simp only[Xv] at O;rcases O with x|x
        . exact .inl (J0k.1 x)
        . obtain⟨j,Y,H⟩:=List.any_eq_true.1 x;exact .inr ⟨j,Y,J0k.1 H⟩
     simp only[X4I,Qg] at f;obtain⟨⟨⟨p,J⟩,_⟩,G⟩:=f;have p:=Qc p;generalize V:J5g (X8O ops.toList []) D (X72 (X8O ops.toList []) (fun i=>match D[i]? with|some s=>s.op.isEff|none=>true) (ops.size+1) (List.range ops.size) []) []=pl at *;have L:∀i,i<ops.size->i∈pl.map DI.ix:=fun i u=>J0k.1 (Qy.1 J i (Q7.2 u));have W:(pl.map DI.ix).Nodup:=J22 G;have hs:∀d,d∈pl->∃o,ops[d.ix]?=some o/\cSI P N ops o=some d.si:=by
      intro d hd;rw[<- V] at hd;obtain⟨o,h1,O⟩:=Q5G F d.ix d.si (J5f hd);exact⟨o,by simpa using h1,O⟩
     have c:=Q9J g.heap;have hE:=c.2.ext g.heap.own;refine wpIn_region_any H ?_;have I:Inv P N B ops (fun i=>(X8O ops.toList []).getD i []) σ ks (own.map (·.1)++ks) [] pl [] env own ks own M w.drew σ a (Array.replicate ops.size false):=by
      refine⟨g.size,g.defers.tr c.2,by simp,by simp,by simp,?_,?_,?_,c.1,?_,g.heap.own.nodup,by simp,by simp,by simp,by simp,fun _ h=>h,by simp,fun _ h _=>h,?_,?_,by simp,by simp⟩
      . intro i u;constructor
        . intro _;exact .inr (L i u)
        . intro _;simp[Array.getD,u]
      . intro i o A u;have X:i<ops.size:=(Xl.1 A).1;simp[Array.getD,X] at u
      . intro t v T _;exact(g.env t v T).mono hE (Sg.le_refl _)
      . intro k b;simp
      . intro k hk;exact X0 _ hk
      . intro k hk;exact Vm _ hk
     refine X28 r U ops.size pl [] [] env own ks own M w.drew σ a _ I C hs W h (by simp[p]) ?_;intro env' own' n B' S w' m R Z E r1 r2 r3;have q:=J5S (own':=own') r1.heap (fun k b H=>by
      rcases (r1.ownc k b).1 H with x | ⟨l,hl,_⟩
      . exact x
      . simp at hl) r1.ownnd
     refine hq env' own' n S w' m R ⟨fun t v T=>r1.envd t v T (by simp),q.1,r1.size,r1.defers.tr q.2⟩ ((c.2.trans r2).trans q.2) ⟨r1.kd1,r1.kd3,fun k hk=>Qr.1 (r1.kd4 k hk)⟩ r3
   . cases hp
 . cases hp
inductive SC where
 | skip
 | ops (l:List SI)
 | draw (l:List DI)
 | seq (a b:SC)
 | cond (c:X) (a b:SC)
 | block (id:Nat) (b:SC)
 | loop (b:SC)
 | exit (id:Nat)
 | ret
 | rf (g:X) (ps:List Nat) (a b:SC)
def Q9n (N:Nat):List Nat->Bool
 | []=>true
 | p::r=>match Nat.ble (p+1) N with|true=>Q9n N r|false=>false
def badC:SC:=.cond (.k .nilptr) .skip .skip
def J1p (P:Program) (N:Nat):Code->Option SC
 | .skip=>some .skip
 | .region _ ops false=>match X3K P N ops ops.toList with|some l=>some (.ops l)|none=>some badC
 | .region _ ops true=>match Q8E P N ops with|some l=>some (.draw l)|none=>some badC
 | .seq a b=>match J1p P N a,J1p P N b with|some a,some b=>some (.seq a b)|_,_=>none
 | .cond c a b=>match cX c,J1p P N a,J1p P N b with|some c,some a,some b=>some (.cond c a b)|_,_,_=>none
 | .block id b=>(J1p P N b).map (.block id)
 | .loop b=>(J1p P N b).map .loop
 | .exit id=>some (.exit id)
 | .ret=>some .ret
 | .rangeFunc g d a b=>match cX g,J1p P N a,J1p P N b with
   | some g,some f,some e=>match Q9n N d.toList with
     | true=>some (.rf g d.toList f e)
     | false=>none
   | _,_,_=>none
 | _=>none
structure BK where
 ks:List Nat
 r:Option Nat
def RIn (a r:Option Nat) (σb:Sg):Prop:=(a=none/\r=none)\/∃k l b,a=some k/\r=some l/\σb k=some (some l,0,b)
structure Q04 (P:Program) (N:Nat) (bk:BK) (b:SC) (env:Env) (own:Own) (ks:List Nat) (K:Out->Prop):Prop where
 out:∀r σb,RIn bk.r r σb->∀c,J1p P N c=some b->∀B M w σ a,(∀k,k∈bk.ks->σb k=none)->σb.le σ->Sim N B M w σ ⟨env,own,ks⟩ a->(Code.loop c).wpIn (FR r) 0 P (XP N B σb M w σ own ks K) a w
structure X1e (P:Program) (N:Nat) (kr:Option Nat) (g:X) (ps:List Nat) (sa sb:SC) (env:Env) (own:Own) (ks:List Nat) (K:Out->Prop):Prop where
 out:∀r σb,RIn kr r σb->∀g0 a b,cX g0=some g->J1p P N a=some sa->J1p P N b=some sb->∀B M w σ act,σb.le σ->Sim N B M w σ ⟨env,own,ks⟩ act ->
  (Code.rangeFunc g0 ps.toArray a b).wpIn (FR r) 0 P (XP N B σb M w σ own ks K) act w
inductive Y1P (A B:Prop):Prop where
 | mk (ha:A) (hb:B):Y1P A B
def vc (P:Program) (N:Nat) (bk:BK):SC->Env->Own->List Nat->(Out->Prop)->Prop
 | .skip,env,own,ks,K=>K (.normal ⟨env,own,ks⟩)
 | .ops l,env,own,ks,K=>J53 P l env own ks fun env own ks=>K (.normal ⟨env,own,ks⟩)
 | .draw l,env,own,ks,K=>J1N P l env own ks fun env own ks=>K (.normal ⟨env,own,ks⟩)
 | .seq a b,env,own,ks,K=>vc P N bk a env own ks fun o=>match o with
   | .normal ⟨env,own,ks⟩=>vc P N bk b env own ks K
   | o=>K o
 | .cond c a b,env,own,ks,K=>c.get env fun v=>match v with
   | .bool x=>match x with
     | true=>vc P N bk a env own ks K
     | false=>vc P N bk b env own ks K
   | .anyb=>Y1P (vc P N bk a env own ks K) (vc P N bk b env own ks K)
   | _=>False
 | .block id b,env,own,ks,K=>vc P N bk b env own ks fun o=>match o with
   | .exit d st=>match Nat.beq d id with|true=>K (.normal st)|false=>K (.exit d st)
   | o=>K o
 | .loop b,env,own,ks,K=>Q04 P N bk b env own ks K
 | .exit id,env,own,ks,K=>K (.exit id ⟨env,own,ks⟩)
 | .ret,env,own,ks,K=>K (.ret ⟨env,own,ks⟩)
 | .rf g e a b,env,own,ks,K=>X1e P N bk.r g e a b env own ks K
theorem XP.tr {N B:Nat} {σb:Sg} {M g:Nat->Prop} {w f:World} {σ c:Sg} {own b:Own} {ks d:List Nat} {K:Out->Prop} (t:Tr0 M w σ own g f c b) (q:Kd σ own ks c b d) {e:Exit} {a:Act} {w':World} (h:XP N B σb g f c b d K e a w'):XP N B σb M w σ own ks K e a w':=by
 obtain⟨o,i,st',n,m,j,k,l⟩:=h;exact⟨o,i,st',n,t.trans m,q.trans j,k,l⟩
theorem J4L {P:Program} (X:P.follows .mixedOrders=true) {N B:Nat} {bk:BK} {σb:Sg} (U:∀k,k∈bk.ks->σb k=none) (r:Option Nat) (W:RIn bk.r r σb):∀(c:Code) (m:SC) (K:Out->Prop) (env:Env) (own:Own) (ks:List Nat) (M:Nat->Prop) (w:World) (σ:Sg) (a:Act),
 J1p P N c=some m->vc P N bk m env own ks K->Sim N B M w σ ⟨env,own,ks⟩ a->σb.le σ->c.wpIn (FR r) 0 P (XP N B σb M w σ own ks K) a w:=by
 intro c
 induction c with
 | skip =>
   intro m K env own ks M w σ a i h d f;simp[J1p] at i;subst i;exact wpIn_skip ⟨M,σ,_,d,Tr0.refl _ _ _ _,Kd.refl _ _ _,f,h⟩
 | region id ops draw =>
   intro m K env own ks M w σ a i h d f;cases draw with
   | false =>
     simp only[J1p] at i;split at i
     case h_2=>cases i;exact(show False from h).elim
     rename_i l T;cases i;exact wpIn_region_list (J4K r ops.toList l env own ks _ M w σ a T h d fun env' own' A o w' j L s t q k=>⟨o,j,_,s,t.t0,q,Sg.le_trans f t.le,k⟩)
   | true =>
     simp only[J1p] at i;split at i
     case h_2=>cases i;exact(show False from h).elim
     rename_i l T;cases i;exact Q26 X r T h d fun env' own' A o w' j L s t q k=>⟨o,j,_,s,t.t0,q,Sg.le_trans f t.le,k⟩
 | seq x y z u =>
   intro m K env own ks M w σ a i h d f;simp only[J1p] at i;split at i<;>simp only[Qf,reduceCtorEq] at i;rename_i I H G F;subst i;refine wpIn_seq (wpIn_mono (z I _ env own ks M w σ a G h d f) ?_);intro e L w' R;obtain⟨o,j,st',D,t1,q1,E,p⟩:=R;cases e<;>first
    | (obtain⟨env',own',A⟩:=st'
       exact wpIn_mono (u H K env' own' A o w' j L F p D E) fun e a w h=>XP.tr t1 q1 h)
    | exact⟨o,j,st',D,t1,q1,E,p⟩
 | cond c x y z u =>
   intro m K env own ks M w σ a i h d f;simp only[J1p] at i;split at i<;>simp only[Qf,reduceCtorEq] at i;rename_i c' I H G F J;subst i;obtain⟨v,h,S⟩:=J0f G h;have hd:=S M w σ a (fun n _ v S=>d.env n v S);split at h
   . rename_i b;have C:a.eval c=.bool b:=by
      generalize a.eval c=q at hd;cases hd;rfl
     refine wpIn_cond C ?_;cases b
     . exact u H K env own ks M w σ a J h d f
     . exact z I K env own ks M w σ a F h d f
   . obtain⟨b,C⟩:∃b,a.eval c=.bool b:=by
      generalize a.eval c=q at hd;cases hd;exact⟨_,rfl⟩
     refine wpIn_cond C ?_;cases b
     . exact u H K env own ks M w σ a J h.2 d f
     . exact z I K env own ks M w σ a F h.1 d f
   . exact h.elim
 | block id b V =>
   intro m K env own ks M w σ a i h d f;simp only[J1p,Qt] at i;obtain⟨O,C,rfl⟩:=i;refine wpIn_block (wpIn_mono (V O _ env own ks M w σ a C h d f) ?_);intro e L w' R;obtain⟨o,j,st',D,t1,q1,E,p⟩:=R;cases e with
   | exit Q =>
     simp only at p;simp only[Exit.inBlock];split
     . rename_i he;subst he;simp only[Vh] at p;exact⟨o,j,st',D,t1,q1,E,p⟩
     . rename_i he;have:Nat.beq Q id=false:=by
        rw[<- Xb];intro Y;exact he (Qc Y)
       simp only[this] at p;exact⟨o,j,st',D,t1,q1,E,p⟩
   | _=>exact⟨o,j,st',D,t1,q1,E,p⟩
 | loop b V =>
   intro m K env own ks M w σ a i h d f;simp only[J1p,Qt] at i;obtain⟨O,C,rfl⟩:=i;exact h.out r σb W b C B M w σ a U f d
 | exit id =>
   intro m K env own ks M w σ a i h d f;simp[J1p] at i;subst i;exact wpIn_exit ⟨M,σ,_,d,Tr0.refl _ _ _ _,Kd.refl _ _ _,f,h⟩
 | ret =>
   intro m K env own ks M w σ a i h d f;simp[J1p] at i;subst i;exact wpIn_ret ⟨M,σ,_,d,Tr0.refl _ _ _ _,Kd.refl _ _ _,f,h⟩
 | rangeFunc g ps x y _ _ =>
   intro m K env own ks M w σ a i h d f;simp only[J1p] at i;split at i<;>first|(cases i;done)|skip
   rename_i g' Z O G F J;split at i<;>first|(cases i;done)|skip
   cases i;have:=h.out r σb W g x y G F J B M w σ a f d;simpa using this
 | _=>intro m K env own ks M w σ a i;simp[J1p] at i
structure J3b (N:Nat) (chg:List Nat) (st' st'':St):Prop where
 out:∀B M w σ a,Sim N B M w σ st' a->∃M' σ',Sim N B M' w σ' st'' a/\Tr0 M w σ st'.own M' w σ' st''.own/\∀k,k∉st''.ks->k∉chg->σ' k=σ k
structure Head (okeys:List Nat) (ks:List Nat) (st:St):Prop where
 ks:st.ks=ks
 own:∀k,k∈st.own.map (·.1)->k∈okeys
theorem Q9p {P:Program} (hm:P.follows .mixedOrders=true) {N:Nat} {bk:BK} {b:SC} {env:Env} {own:Own} {ks:List Nat} {K:Out->Prop} (chg L ks0:List Nat)
 (Q:∀k,k∈chg->k∈bk.ks/\(k∈own.map (·.1)\/k∈ks)) (f:∀k,k∈ks0->k∈ks) (a3:∀k,k∈L->k∈own.map (·.1)\/k∈ks)
 (I:Nat->St->Prop) (n:Nat) (S:St) (ab:J3b N chg ⟨env,own,ks⟩ S) (h0:I n S)
 (hh:∀n st,I n st->Head L ks0 st)
 (step:∀n env own ks,I n ⟨env,own,ks⟩->vc P N bk b env own ks fun o=>match o with
   | .normal st=>∃m st',m<n/\J3b N chg st st'/\I m st'
   | o=>K o):Q04 P N bk b env own ks K:=by
 constructor;intro r σb hr c hc B M w σ a a0 O T b k cs ac a1 y;have a7:∀q,q∈chg->σ q=none->q∈ks:=by
  intro q p h1;rcases (Q q p).2 with h|h
  . obtain⟨⟨q',b'⟩,ad,e⟩:=Qi.1 h;simp only at e;subst e;obtain⟨x,hx⟩:=T.heap.own.key ad;rw[h1] at hx;cases hx
  . exact h
 have key:∀(n:Nat) (st:St) (G:Nat->Prop) (j:World) (d:Sg) (F:Act),I n st->Sim N B G j d st F->Kd σ own ks d st.own ks0->σb.le d ->
  ∃e a' w',(∃M' i st',Sim N B M' w' i st' a'/\Tr0 G j d st.own M' w' i st'.own/\Kd σ own ks i st'.own st'.ks/\σb.le i/\(match e with
   | .normal=>K (.normal st')
   | .exit id=>K (.exit id st')
   | .ret=>K (.ret st')
   | _=>False))/\ArrivesIn (Machine.fenced P (FR r)) P (lone (b.atR F (.code c::.inLoop c::k)) cs j) b k cs e a' w':=by
  intro n
  induction n using Nat.strongRecOn with
  | _ n ih =>
    intro st G j d F hI hs X af;obtain⟨D,C,g⟩:=st;have hd:=hh n _ hI;have ag:g=ks0:=hd.ks;subst ag;have hb:=J4L hm a0 r hr c _ _ D C g G j d F hc (step n D C g hI) hs af;obtain⟨e,E,A,p,s⟩:=hb b (.inLoop c::k) cs ac a1 y;obtain⟨R,u,J,s2,t2,q2,l2,k2⟩:=p;cases e with
    | normal =>
      obtain⟨m,H,ae,V,a8⟩:=k2;obtain⟨a9,t,s3,t3,z3⟩:=V.out B R A u E s2;have Y:=hh m _ a8;have a5:Kd σ own ks t H.own g:=by
       refine⟨f,fun q h1 h2=>?_,fun q p=>a3 q (Y.own q p)⟩;rw[z3 q (by rw[Y.ks];exact fun h=>h2 (f q h)) (fun hc=>h2 (a7 q hc h1))];exact(X.trans q2).2.1 q h1 h2
      have a4:σb.le t:=by
       intro q x p;rw[z3 q ?_ ?_]
       . exact l2 q x p
       . rw[Y.ks];intro z;have:=O q x p;rw[T.heap.fresh q (f q z)] at this;cases this
       . intro z;rw[a0 q (Q q z).1] at p;cases p
      obtain⟨e',a',w',⟨M',i,st',r1,r2,r3,U,r4⟩,a2⟩:=ih m ae H a9 A t E a8 s3 a5 a4;exact⟨e',a',w',⟨M',i,st',r1,(t2.trans t3).trans r2,r3,U,r4⟩,.of_steps (StepsIn.trans s (.one (fenced_calm a1 y rfl) stepR_inLoop)) a2⟩
    | exit id=>exact⟨_,E,A,⟨R,u,J,s2,t2,X.trans q2,l2,k2⟩,.pass (x:=.inLoop c) rfl (fun _ _=>.inl (by simp)) s⟩
    | goto l=>exact k2.elim
    | ret=>exact⟨_,E,A,⟨R,u,J,s2,t2,X.trans q2,l2,k2⟩,.pass (x:=.inLoop c) rfl (fun _ _=>.inl (by simp)) s⟩
    | panic ch=>exact k2.elim
    | outgrown=>exact k2.elim
 obtain⟨aa,v,s0,t0,z0⟩:=ab.out B M w σ a T;have Z:=hh n _ h0;have a6:Kd σ own ks v S.own ks0:=by
  refine⟨f,fun q h1 h2=>?_,fun q p=>a3 q (Z.own q p)⟩;rw[z0 q (by rw[Z.ks];exact fun h=>h2 (f q h)) (fun hc=>h2 (a7 q hc h1))];exact h1
 have W:σb.le v:=by
  intro q x p;rw[z0 q ?_ ?_]
  . exact O q x p
  . rw[Z.ks];intro z;have:=O q x p;rw[T.heap.fresh q (f q z)] at this;cases this
  . intro z;rw[a0 q (Q q z).1] at p;cases p
 obtain⟨e,a',w',⟨M',i,st',r1,r2,r3,U,r4⟩,s⟩:=key n S aa w v a h0 s0 a6 W;exact⟨e,a',w',⟨M',i,st',r1,t0.trans r2,r3,U,r4⟩,.of_steps (.one (fenced_calm a1 y rfl) stepR_loop) s⟩
def J8w:Nat->List V->Env
 | _,[]=>[]
 | i,v::r=>(i,v)::J8w (i+1) r
theorem J9A:∀(b:List V) (i t:Nat) (v:V),look (J8w i b) t=some v->i<=t/\b[t-i]?=some v
 | [],i,t,v,h=>by simp[J8w,look] at h
 | x::r,i,t,v,h=>by
   unfold J8w look at h;split at h
   . rename_i a;have:=Qc a;subst this;simp at h;subst h;simp
   . rename_i a;have c:i≠t:=fun e=>by subst e;simp at a
     obtain⟨f,d⟩:=J9A r (i+1) t v h;refine⟨by omega,?_⟩;rw[show t-i=(t-(i+1))+1 by omega];simpa using d
inductive RV where
 | tmp (t:Nat)
 | cell (a:Nat) (sz:Option Nat)
def Q5H (P:Program):List ResultVar->Option (List RV)
 | []=>some []
 | .tmp t::r=>(Q5H P r).map (.tmp t::·)
 | .cell a T::r=>match J4i P T,Q5H P r with
   | some z,some l=>some (.cell a z::l)
   | _,_=>none
def Q1P (env:Env) (own:Own):List RV->(List V->Prop)->Prop
 | [],K=>K []
 | .tmp t::r,K=>match look env t with
   | some v=>Q1P env own r fun b=>K (v::b)
   | none=>False
 | .cell a z::r,K=>match look env a with
   | some p=>J39 own z p fun v=>Q1P env own r fun b=>K (v::b)
   | none=>False
def Q65 (a:List V) (K:V->Prop):Prop :=
 match a with
 | [v]=>K v
 | a=>K (.tup a)
theorem Q0z {P:Program} {T:TypeId} {q r:Value} {w:World} (h:(Instr.loadAt T q).run P w=.ok r w):(do loadVar T (<- asAddr q):Sem Value).run P w=.ok r w:=by
 cases q with
 | pointer a =>
   cases a with
   | none=>cases h
   | some a=>exact h
 | _=>cases h
def Q8k (tmps:Array Value):ResultVar->Sem Value
 | .tmp t=>pure (tmps.getD t undef)
 | .cell a t=>do loadVar t (<- asAddr (tmps.getD a undef))
theorem Q6k (fn:Func) (tmps:Array Value):results fn tmps=(do let b <- fn.results.mapM (Q8k tmps);pure (if h:b.size=1 then b[0] else .tuple b)):=by
 have:(fun r:ResultVar=>match r with | .tmp t=>(pure (tmps.getD t undef):Sem Value) | .cell a t=>do loadVar t (<- asAddr (tmps.getD a undef)))=Q8k tmps:=by
  funext r;cases r<;>rfl
 unfold results;rw[<- this];rfl
theorem J6f {P:Program} {env:Env} {own:Own}:∀(rs:List ResultVar) (l:List RV) (K:List V->Prop),Q5H P rs=some l->Q1P env own l K ->
 ∃j,K j/\∀M w σ (a:Act),J4J M w σ env a->J2N M w σ own ->
  ∃us:List Value,j.length=us.length/\us.length=rs.length/\(∀(i:Nat) (v:V) (u:Value),j[i]?=some v->us[i]?=some u->Den M w σ v u) /\
   (rs.mapM (Q8k a.tmps)).run P w=.ok us w
 | [],l,K,e,h=>by
   simp[Q5H] at e;subst e;exact⟨[],h,fun M w σ a _ _=>⟨[],rfl,rfl,by simp,rfl⟩⟩
 | .tmp t::rs,l,K,e,h=>by
   simp only[Q5H,Qt] at e;obtain⟨A,C,rfl⟩:=e;simp only[Q1P] at h;split at h
   . rename_i v E;obtain⟨j,B,g⟩:=J6f rs A _ C h;refine⟨_,B,fun M w σ a he m=>?_⟩;obtain⟨us,s,f,q,o⟩:=g M w σ a he m;refine⟨a.tmps.getD t undef::us,by simp[s],by simp[f],?_,?_⟩
     . intro i n y c d;cases i with
       | zero=>simp at c d;subst c d;simpa using he t v E
       | succ i=>exact q i n y (by simpa using c) (by simpa using d)
     . rw[J3];simp only[Sem.run_bind,Q8k,Sem.run_pure,Result.andThen_ok,o]
   . exact h.elim
 | .cell x T::rs,l,K,e,h=>by
   simp only[Q5H] at e;split at e<;>simp only[Qf,reduceCtorEq] at e;rename_i z A hz C;subst e;simp only[Q1P] at h;split at h
   . rename_i p hp;obtain⟨v,h,G⟩:=J4l hz h;obtain⟨j,B,g⟩:=J6f rs A _ C h;refine⟨_,B,fun M w σ a he m=>?_⟩;obtain⟨us,s,f,q,o⟩:=g M w σ a he m;have hd:=he x p hp;obtain⟨r,r1,D⟩:=G M w σ _ hd (fun k b _ hk=>m.blk k b (J0g hk));have F:(Q8k a.tmps (.cell x T)).run P w=.ok r w:=Q0z r1;refine⟨r::us,by simp[s],by simp[f],?_,?_⟩
     . intro i n y c d;cases i with
       | zero=>simp at c d;subst c d;exact D
       | succ i=>exact q i n y (by simpa using c) (by simpa using d)
     . rw[J3];simp only[Sem.run_bind,F,Sem.run_pure,Result.andThen_ok,o]
   . exact h.elim
theorem J8f {P:Program} {fn:Func} {tmps:Array Value} {R:Ending->World->Prop} {B:Nat} {σ:Sg} {own:Own} {ks:List Nat} {M:Nat->Prop}:∀(p:List Deferred) (w:World),X1g B M w σ own p->J0T M w σ own ks ->
 (∀w',J0T M w' σ own ks->Ext M w M w'->w'.os=w.os->J0S w' w->w'.output=w.output->w'.heap.size=w.heap.size->(∀b,b<B->w'.heap[b]?=w.heap[b]?)->(∀b,J0x w σ own b->w'.heap[b]?=w.heap[b]?)->∃v,(results fn tmps).run P w'=.ok v w'/\R (.returned v) w') ->
 LeavesInM (FR none) 0 P fn tmps R p .returning w
 | [],w,_,c,h=>h w c ⟨fun _ _ h=>⟨h,rfl⟩,Qd _⟩ rfl (.refl _) rfl rfl (fun _ _=>rfl) (fun _ _=>rfl)
 | d::p,w,hg,c,h=>by
   obtain⟨D,rfl,Z,N,C,L⟩:=hg.mark d (by simp);refine⟨by simp,.inl ⟨D,_,rfl,run_takeDeferred N,?_⟩⟩;have m:=Q2.1 hg.nodup;have A:Ext M w M (w.putObj D (.deferred none)):=⟨fun b f o=>⟨o,World.putObj_heap_other fun e=>o (e▸L)⟩,by simp⟩;have a:∀b,J0x w σ own b->(w.putObj D (.deferred none)).heap[b]?=w.heap[b]?:=fun b f=>World.putObj_heap_other fun e=>C (e▸f);have g:∀k b n,(k,b)∈own->(J0n (w.putObj D (.deferred none)) σ k b n↔J0n w σ k b n):=fun k b n l=>J0U (Sg.le_refl _) (c.own.key l) fun K q=>a K ⟨k,b,l,.inl q⟩;have i:∀n,J0x (w.putObj D (.deferred none)) σ own n↔J0x w σ own n:=fun n=>J2S c.own (Sg.le_refl _) a;have s:J0T M (w.putObj D (.deferred none)) σ own ks :=
    ⟨⟨fun k b l=>(c.own.blk k b l).mono A (Sg.le_refl _) fun n z=>⟨(J0p c.own ⟨k,b,l,z⟩).1,World.putObj_heap_other fun e=>C (e▸⟨k,b,l,z⟩)⟩,c.own.nodup,fun k b y E n u t r O e2=>c.own.apart k b y E n u t r ((g k b n u).1 O) ((g y E n t).1 e2)⟩,c.fresh,c.knodup⟩
   refine J8f p _ ⟨by simpa using hg.base,fun S j=>?_,m.2⟩ s fun w' Y G X F W V U T=>?_
   . obtain⟨H,e,q1,q2,q3,q4⟩:=hg.mark S (by simp[j]);refine⟨H,e,q1,?_,fun x=>q3 ((i H).1 x),q4⟩;rw[World.putObj_heap_other fun Q=>m.1 (by rw[e,Q] at j;exact j)];exact q2
   . refine h w' Y ⟨fun b f o=>?_,by have:=G.size;simp at this;exact this⟩ X ⟨F.eq,F.le⟩ W (by simpa using V) (fun b f=>?_) (fun b f=>(T b ((i b).2 f)).trans (a b f))
     . obtain⟨J,I⟩:=G.keep b (by simpa using f) o;exact⟨J,I.trans (A.keep b f o).2⟩
     . rw[U b f];exact World.putObj_heap_other (by omega)
theorem Q2F {P:Program} (hm:P.follows .mixedOrders=true) {f:FuncId} {fn:Func} {c:Code} {L:SC} {rs:List RV} (hf:P.funcs[f]?=some fn) (k:fn.body=some c) (hc:J1p P fn.ntmps c=some L)
 (hr:Q5H P fn.results.toList=some rs) {args:List V} {own:Own} {ks:List Nat} {K:V->Own->List Nat->Prop} (T:args.length<=fn.ntmps)
 (h:vc P fn.ntmps ⟨ks,none⟩ L (J8w 0 args) own ks fun o=>match o with
   | .normal ⟨env,own,ks⟩=>Q1P env own rs fun m=>Q65 m fun v=>K v own ks
   | .ret ⟨env,own,ks⟩=>Q1P env own rs fun m=>Q65 m fun v=>K v own ks
   | .exit _ _=>False):J0N P f args own ks K:=by
 constructor;intro M w σ us B hd U;refine callsIn_wide.1 (callsIn_of_wp_marks (F:=Fence.wide) (n:=0) hf k trivial ?_);have J:Sim fn.ntmps w.heap.size M w σ ⟨J8w 0 args,own,ks⟩ { tmps:=us.toArray++Array.replicate (fn.ntmps-us.toArray.size) undef,defers:=[] }:=by
  refine⟨?_,U,by simp;omega,.nil (Qd _)⟩;intro t v hv;obtain⟨_,R⟩:=J9A args 0 t v hv;simp only[Nat.sub_zero] at R;have p:t<us.length:=by rw[<- B];exact(Qs.1 R).1
  have hg:(us.toArray++Array.replicate (fn.ntmps-us.toArray.size) undef).getD t undef=us[t]:=by
   rw[Qx,Ze (by simpa using p)];simp[p]
  rw[hg];exact hd t v _ R (by simp[p])
 refine wpIn_mono (J4L hm (bk:=⟨ks,none⟩) (σb:=σ) U.fresh none (.inl ⟨rfl,rfl⟩) c L _ _ own ks M w σ _ hc h J (Sg.le_refl _)) ?_;intro e x w' hx;obtain⟨l,a,⟨env',own',d⟩,E,t1,q1,l1,N⟩:=hx;have D:(Q1P env' own' rs fun m=>Q65 m fun v=>K v own' d)->LeavesInM (FR none) 0 P fn x.tmps (fun e w'=>∃l a S own' d u,e=Ending.returned u/\Den l w' a S u/\J0T l w' a own' d/\Tr M w σ own l w' a own'/\Kd σ own ks a own' d/\K S own' d) x.defers .returning w':=by
  intro hk;refine J8f x.defers w' E.defers E.heap fun i g hE os y output a1 A q=>?_;have C:J4J l i a env' x:=E.env.mono hE (Sg.le_refl _);obtain⟨m,r,O⟩:=J6f _ _ _ hr hk;obtain⟨j,H,a0,s,Z⟩:=O l i a x C g.own;have z:(results fn x.tmps).run P i=.ok (if h:j.toArray.size=1 then j.toArray[0] else .tuple j.toArray) i:=by
   rw[Q6k,Array.mapM_eq_mapM_toList,map_eq_pure_bind];simp only[Sem.run_bind,Z,Result.andThen_ok,Sem.run_pure]
  have I:Tr M w σ own l i a own':=⟨⟨os.trans t1.adv.os,y.trans t1.adv.tape,output.trans t1.adv.output,by have:=t1.adv.size;omega,fun b k Q=>(A b k).trans (t1.adv.same b k Q),fun b k Q=>t1.adv.muts b k Q⟩,fun b k=>t1.new b ((J2S E.heap.own (Sg.le_refl _) q).1 k),l1⟩;refine⟨_,z,l,a,?_⟩
  match m,j,H,s,r with
  | [v],[u],_,s,r=>exact⟨v,own',d,u,by simp,s 0 v u (by simp) (by simp),g,I,q1,r⟩
  | [],[],_,s,r=>exact⟨.tup [],own',d,.tuple #[],by simp,.tup _ [] [] rfl (by simp),g,I,q1,r⟩
  | v1::X::W,H::G::Y,T,s,r=>exact⟨.tup (v1::X::W),own',d,.tuple (H::G::Y).toArray,by simp,.tup _ _ _ T s,g,I,q1,r⟩
 cases e with
 | normal=>exact D N
 | ret=>exact D N
 | _=>exact N.elim
def KS:List Nat:=[0,1,2,3,4,5,6,7,8,9,10,11,12,13,14,15,16,17,18,19,20,21,22,23,24,25,26,27,28,29]
theorem J52:KS.Nodup:=by decide
def V.flat1:V->Bool
 | .bool _ | .int _ _ | .str _ | .nilptr | .nilslice | .nilmap | .nilfunc | .niliface | .raw _=>true
 | _=>false
def V.flat:V->Bool
 | .agg cs=>J3a V.flat1 cs
 | .tup cs=>J3a V.flat1 cs
 | v=>v.flat1
theorem Den.flat1 {M c:Nat->Prop} {w w':World} {σ a:Sg} {v:V} {u:Value} (h:Den M w σ v u) (b:v.flat1=true):Den c w' a v u:=by
 cases h<;>first|(simp[V.flat1] at b;done)|constructor
theorem Den.flat {M f:Nat->Prop} {w w':World} {σ b:Sg} {v:V} {u:Value} (h:Den M w σ v u) (c:v.flat=true):Den f w' b v u:=by
 cases v with
 | agg cs=>cases h with|agg _ _ us d hd=>exact .agg _ _ _ d fun i v u a e=>(hd i v u a e).flat1 (J0v c v (Qw a))
 | tup cs=>cases h with|tup _ _ us d hd=>exact .tup _ _ _ d fun i v u a e=>(hd i v u a e).flat1 (J0v c v (Qw a))
 | _=>exact h.flat1 c
theorem J3k {M:Nat->Prop} {w:World} (ks:List Nat) (hk:ks.Nodup):J0T M w Sg.none [] ks :=
 ⟨⟨fun _ _ h=>by simp at h,by simp,fun _ _ _ _ _ h=>by simp at h⟩,fun _ _=>rfl,hk⟩
theorem J0R {w:World} {σ:Sg} {b:Nat}:¬ J0x w σ [] b:=fun⟨_,_,h,_⟩=>by simp at h
theorem J3O {M i y M'':Nat->Prop} {w w':World} {σ l:Sg} {own own':Own} {ks:List Nat} (h:J0T M w σ own ks) (c:Tr i w Sg.none [] y w' l own')
 (p:∀b,b<w.heap.size->(M'' b↔M b)):J0T M'' w' σ own ks/\Tr M w σ own M'' w' σ own:=by
 have v:Ext M w M'' w':=⟨fun b a u=>⟨fun f=>u ((p b a).1 f),c.adv.same b a J0R⟩,c.adv.size⟩;have d:∀b,J0x w σ own b->w'.heap[b]?=w.heap[b]?:=fun b a=>c.adv.same b (J0p h.own a).2 J0R;have e:∀k b n,(k,b)∈own->(J0n w' σ k b n↔J0n w σ k b n):=fun k b n f=>J0U (Sg.le_refl _) (h.own.key f) fun s m=>d s ⟨k,b,f,.inl m⟩;refine⟨⟨⟨fun k b f=>?_,h.own.nodup,fun k b q r n j g o x e2=>h.own.apart k b q r n j g o ((e k b n j).1 x) ((e q r n g).1 e2)⟩,h.fresh,h.knodup⟩,⟨⟨c.adv.os,c.adv.tape,c.adv.output,c.adv.size,fun b a _=>c.adv.same b a J0R,fun b a _=>p b a⟩,fun b a=>.inl ((J2S h.own (Sg.le_refl _) d).1 a),Sg.le_refl _⟩⟩;refine(h.own.blk k b f).mono v (Sg.le_refl _) fun n t=>?_;obtain⟨j,g⟩:=J0p h.own ⟨k,b,f,t⟩;exact⟨(p n g).2 j,c.adv.same n g J0R⟩
theorem J0Y {n:Int} (b:-9223372036854775808<=n) (a:n<=9223372036854775807):IntKind.i64.wrap n=n:=by
 simp only[IntKind.wrap,IntKind.bits,IntKind.signed,Zm]
 first|(split<;>omega)|(simp;omega)
theorem Ar.i64 {n:Int} {K:Int->Prop} (c:-9223372036854775808<=n) (b:n<=9223372036854775807) (a:K n):Ar .i64 n K:=⟨n,(J0Y c b).symm,a⟩
theorem J67 {n:Int} (b:0<=n) (a:n<=4294967295):IntKind.u32.wrap n=n:=by
 simp only[IntKind.wrap,IntKind.bits,IntKind.signed,Zk]
 first|(split<;>omega)|(simp;omega)
theorem Ar.u32 {n:Int} {K:Int->Prop} (c:0<=n) (b:n<=4294967295) (a:K n):Ar .u32 n K:=⟨n,(J67 c b).symm,a⟩
theorem Ix.nat {m n:Nat} {K:Nat->Prop} (h:m<n) (a:K m):Ix (m:Int) n K:=⟨m,rfl,h,a⟩
theorem Ix.int {i:Int} {n:Nat} {K:Nat->Prop} (c:0<=i) (h:i<n) (b:K i.toNat):Ix i n K:=⟨i.toNat,by omega,by omega,b⟩
end Go.Eng
