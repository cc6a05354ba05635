import Derived.Test.YtojoidgjneapfaaEngI
import Derived.IntWalk
namespace Go.Eng
inductive DI where
 | op (ix:Nat) (si:SI)
 | eff (ix:Nat) (pend:List Nat) (held:List (Option Nat×Nat×Nat)) (si:SI)
def DI.ix:DI->Nat
 | .op i _=>i
 | .eff i _ _ _=>i
def DI.si:DI->SI
 | .op _ s=>s
 | .eff _ _ _ s=>s
def J9T:V->Option Nat
 | .loc k _=>some k
 | .vec k _ _ _=>some k
 | .oel k _ _ _=>some k
 | _=>none
def J40 (env:Env):List Nat->Own->Own->(Own->Own->Prop)->Prop
 | [],own,acc,K=>K own acc
 | t::r,own,acc,K=>match look env t with
   | some v=>match J9T v with
     | some k=>match look own k with
       | some b=>Q3I k own fun own'=>J40 env r own' ((k,b)::acc) K
       | none=>False
     | none=>J40 env r own acc K
   | none=>False
def J8P (env:Env) (own:Own) (G:Prop):List (Option Nat×Nat×Nat)->Prop
 | []=>G
 | (sz,n,t)::r=>match look env t with
   | some (.raw _)=>J8P env own G r
   | some v=>match look env n with
     | some p=>J37 own sz p (fun v'=>v'=v)/\J8P env own G r
     | none=>False
   | none=>False
def Q5k {α:Type}:List α->List α->(List α->Prop)->Prop
 | [],l,K=>K l
 | x::r,l,K=>Q5k r l fun l'=>K (x::l')
def J5d (env:Env) (g:Option (Nat×Bool)) (A B:Prop):Prop :=
 match g with
 | none=>A
 | some (t,want)=>match look env t with
   | some (.bool b)=>match Bool.xor b want with
     | false=>A
     | true=>B
   | some (.raw (.tuple _))=>B
   | _=>False
def J1w (P:Program):List DI->Env->Own->List Nat->(Env->Own->List Nat->Prop)->Prop
 | [],env,own,ks,K=>K env own ks
 | .op _ ⟨d,op,g⟩::r,env,own,ks,K=>J5d env g
    (vop P op env own ks fun v own ks=>match d with
      | some t=>J1w P r ((t,v)::env) own ks K
      | none=>J1w P r env own ks K)
    (match d with
      | some t=>J1w P r ((t,.raw (.tuple #[]))::env) own ks K
      | none=>J1w P r env own ks K)
 | .eff _ pend held ⟨d,op,g⟩::r,env,own,ks,K=>J5d env g
    (J40 env pend own [] fun ownA ownB=>vop P op env ownA ks fun v ownA' ks=>J8P env ownA' (Q5k ownB ownA' fun own=>match d with
      | some t=>J1w P r ((t,v)::env) own ks K
      | none=>J1w P r env own ks K) held)
    (match d with
      | some t=>J1w P r ((t,.raw (.tuple #[]))::env) own ks K
      | none=>J1w P r env own ks K)
def J01 (o:Oper):List Nat:=(o.after.toList.filter (Region.binds .any)).map (·.on)
def J89:List Nat->List Nat->List Nat
 | [],l=>l
 | x::r,l=>match J09 x l with|true=>J89 r l|false=>J89 r (x::l)
def Q4d:List Oper->List (List Nat)->List (List Nat)
 | [],acc=>acc
 | o::r,acc=>Q4d r (acc++[(J01 o).foldl (fun l j=>J89 (j::(acc.getD j [])) l) []])
def J1S:List X->List Nat
 | []=>[]
 | .t n::r=>n::J1S r
 | .k _::r=>J1S r
def SI.uses (s:SI):List Nat:=J1S s.op.xs++(match s.guard with|some (t,_)=>[t]|none=>[])
def Q3P (A:List (List Nat)) (eff:Nat->Bool):Nat->List Nat->List Nat->List Nat
 | 0,_,done=>done
 | fuel+1,rest,done =>
   let step:=rest.foldl (fun(p:List Nat×List Nat) i =>
    if !eff i&&(A.getD i []).all (fun j=>J09 j p.1) then (p.1++[i],p.2) else (p.1,p.2++[i])) (done,[])
   match step.2 with
   | []=>step.1
   | i::_=>Q3P A eff fuel (step.2.filter (fun j=>!Nat.beq j i)) (step.1++[i])
def J22 (A:List (List Nat)) (sis:List SI):List Nat->List Nat->List DI
 | [],_=>[]
 | i::r,done=>match sis[i]? with
   | some si=>match si.op.isEff with
     | false=>.op i si::J22 A sis r (done++[i])
     | true =>
       let free:=done.filter fun j=>!J09 j (A.getD i []);let pend:=free.filterMap fun j=>match sis[j]? with|some s=>(match s.op.isNew with|true=>s.dst|false=>none)|none=>none
       let held:=free.filterMap fun j=>match sis[j]? with
        | some s=>(match s.op,s.dst with | .load z (.t n),some t=>some (z,n,t)|_,_=>none)
        | none=>none
       .eff i pend held si::J22 A sis r (done++[i])
   | none=>[]
def DI.isEff:DI->Bool
 | .op _ _=>false
 | .eff _ _ _ _=>true
def Q4Q (z:Option Nat) (n t:Nat):List (Option Nat×Nat×Nat)->Bool
 | []=>false
 | (z',n',t')::r=>(decide (z'=z)&&Nat.beq n' n&&Nat.beq t' t) || Q4Q z n t r
def Q1v (pend:List Nat) (held:List (Option Nat×Nat×Nat)) (s:SI):Bool :=
 match s.op with
 | .load z x=>match x,s.dst with
   | .t n,some t=>Q4Q z n t held
   | _,_=>false
 | op=>match op.isNew with
   | true=>match s.dst with|some t=>J09 t pend|none=>false
   | false=>true
def Q18 (A:List (List Nat)) (pre:List DI) (d:DI) (post:List DI):Bool :=
 pre.all (fun d'=>!J09 d.ix (A.getD d'.ix [])) &&
 (match d.si.dst with
   | some t=>pre.all (fun d'=>decide (d'.si.dst≠some t))&&pre.all (fun d'=>!J09 t d'.si.uses || (d.isEff&&J09 d'.ix (A.getD d.ix [])))&&(d.isEff || !J09 t d.si.uses)
   | none=>true) &&
 pre.all (fun d'=>d'.isEff || (match d'.si.dst with|some t=>!J09 t d.si.uses || J09 d'.ix (A.getD d.ix [])|none=>true)) &&
 (match d with
   | .op _ si=>!si.op.isEff&&(!si.op.isNew || si.dst.isSome)&&(match si.op with | .load _ (.k _)=>false|_=>true)
   | .eff ix pend held si=>si.op.isEff&&post.all (fun d'=>J09 ix (A.getD d'.ix []))&&pre.all (fun d'=>d'.isEff || J09 d'.ix (A.getD ix []) || Q1v pend held d'.si))
def J3L (A:List (List Nat)):List DI->List DI->Bool
 | _,[]=>true
 | pre,d::post=>Q18 A pre d post&&J3L A (pre++[d]) post
def ancB (A:List (List Nat)) (ops:Array Oper):Bool :=
 (List.range ops.size).all fun i=>match ops[i]? with
   | some o=>(J01 o).all (fun j=>Nat.ble (j+1) i)&&(A.getD i []).all (fun e=>J09 e (J01 o) || (J01 o).any (fun j=>J09 e (A.getD j [])))
   | none=>false
def J08:List Nat->Bool
 | []=>true
 | x::r=>!J09 x r&&J08 r
def Q2A (n:Nat) (l:List DI):Bool :=
 Nat.beq l.length n&&(List.range n).all (fun i=>J09 i (l.map DI.ix))&&(l.map DI.ix).all (fun i=>Nat.ble (i+1) n)&&J08 (l.map DI.ix)
def J9A (P:Program) (N:Nat) (ops:Array Oper):Option (List DI) :=
 match Q2c P N ops ops.toList with
 | some sis =>
   let A:=Q4d ops.toList [];let c:=Q3P A (fun i=>match sis[i]? with|some s=>s.op.isEff|none=>true) (ops.size+1) (List.range ops.size) [];let l:=J22 A sis c []
   match J3L A [] l&&ancB A ops&&Q2A ops.size l with
   | true=>some l
   | false=>none
 | none=>none
theorem J1E:∀{l:List Nat},J08 l=true->l.Nodup
 | [],_=>by simp
 | x::r,h=>by
   simp only[J08,Bool.and_eq_true,Bool.not_eq_true'] at h;refine List.nodup_cons.2 ⟨fun hm=>?_,J1E h.2⟩;rw[J0m.2 hm] at h;cases h.1
theorem J71 {z:Option Nat} {n t:Nat}:∀{l:List (Option Nat×Nat×Nat)},Q4Q z n t l=true->(z,n,t)∈l
 | [],h=>by simp[Q4Q] at h
 | (z',n',t')::r,h=>by
   simp only[Q4Q,Bool.or_eq_true,Bool.and_eq_true,decide_eq_true_eq] at h;rcases h with ⟨⟨rfl,h1⟩,h2⟩|h
   . have h1:=Nat.eq_of_beq_eq_true h1;have h2:=Nat.eq_of_beq_eq_true h2;subst h1 h2;simp
   . exact List.mem_cons_of_mem _ (J71 h)
structure Q5f (anc:Nat->List Nat) (pre:List DI) (d:DI) (post:List DI):Prop where
 order:∀d',d'∈pre->d.ix∉anc d'.ix
 dst:∀t,d.si.dst=some t->∀d',d'∈pre->d'.si.dst≠some t
 reads:∀t,d.si.dst=some t->∀d',d'∈pre->t∈d'.si.uses->d.isEff=true/\d'.ix∈anc d.ix
 self:∀t,d.si.dst=some t->d.isEff=false->t∉d.si.uses
 uses:∀d',d'∈pre->d'.isEff=false->∀t,d'.si.dst=some t->t∈d.si.uses->d'.ix∈anc d.ix
 op:d.isEff=false->d.si.op.isEff=false/\(d.si.op.isNew=true->d.si.dst≠none)/\(∀z x,d.si.op=.load z x->∃n,x=.t n)
 eff:∀ix pend held si,d=.eff ix pend held si->si.op.isEff=true/\(∀d',d'∈post->ix∈anc d'.ix)/\(∀d',d'∈pre->d'.isEff=false->d'.ix∉anc ix->Q1v pend held d'.si=true)
theorem Q0l {A:List (List Nat)} {pre:List DI} {d:DI} {post:List DI} (h:Q18 A pre d post=true):Q5f (fun i=>A.getD i []) pre d post:=by
 simp only[Q18,Bool.and_eq_true] at h;obtain⟨⟨⟨h1,h2⟩,h3⟩,h4⟩:=h;refine⟨?_,?_,?_,?_,?_,?_,?_⟩
 . intro d' hd' hm;have:=List.all_eq_true.1 h1 d' hd';rw[J0m.2 hm] at this;cases this
 . intro t ht d' hd';rw[ht] at h2;simp only[Bool.and_eq_true] at h2;have:=List.all_eq_true.1 h2.1.1 d' hd';simpa using this
 . intro t ht d' hd' hm;rw[ht] at h2;simp only[Bool.and_eq_true] at h2;have:=List.all_eq_true.1 h2.1.2 d' hd';simp only[Bool.or_eq_true,Bool.and_eq_true,Bool.not_eq_true'] at this;rcases this with h|h
   . rw[J0m.2 hm] at h;cases h
   . exact⟨h.1,J0m.1 h.2⟩
 . intro t ht he hm;rw[ht] at h2;simp only[Bool.and_eq_true,Bool.or_eq_true,Bool.not_eq_true'] at h2;rcases h2.2 with h|h
   . rw[he] at h;cases h
   . rw[J0m.2 hm] at h;cases h
 . intro d' hd' he t ht hm;have:=List.all_eq_true.1 h3 d' hd';rw[he,ht] at this;simp only[Bool.false_or,Bool.or_eq_true,Bool.not_eq_true'] at this;rcases this with h|h
   . rw[J0m.2 hm] at h;cases h
   . exact J0m.1 h
 . intro he;cases d with
   | op ix si =>
     simp only[Bool.and_eq_true,Bool.not_eq_true',Bool.or_eq_true] at h4;refine⟨h4.1.1,fun hn=>?_,fun z x e=>?_⟩
     . rcases h4.1.2 with h|h
       . simp only[DI.si] at hn;rw[h] at hn;cases hn
       . intro e;simp only[DI.si] at e;rw[e] at h;cases h
     . simp only[DI.si] at e;rw[e] at h4;cases x with
       | t n=>exact⟨n,rfl⟩
       | k v=>simp at h4
   | eff=>cases he
 . intro ix pend held si e;subst e;simp only[Bool.and_eq_true] at h4;refine⟨h4.1.1,fun d' hd'=>J0m.1 (List.all_eq_true.1 h4.1.2 d' hd'),fun d' hd' he hn=>?_⟩;have:=List.all_eq_true.1 h4.2 d' hd';simp only[Bool.or_eq_true] at this;rcases this with (h|h)|h
   . rw[he] at h;cases h
   . exact(hn (J0m.1 h)).elim
   . exact h
theorem J1C {n:Nat}:∀{xs:List X},.t n∈xs->n∈J1S xs
 | [],h=>by simp at h
 | .t m::r,h=>by
   rcases List.mem_cons.1 h with e|e
   . cases e;simp[J1S]
   . simp[J1S,J1C e]
 | .k v::r,h=>by
   rcases List.mem_cons.1 h with e|e
   . cases e
   . simpa[J1S] using J1C e
theorem J2y {env:Env} {t n:Nat} {v:V} (h:t≠n):look ((t,v)::env) n=look env n:=by
 have hb:Nat.beq t n=false:=by
  rw[<- Bool.not_eq_true];exact fun hh=>h (Nat.eq_of_beq_eq_true hh)
 show(match Nat.beq t n with|true=>some v|false=>look env n)=_;rw[hb]
theorem J3I {env:Env} {t:Nat} {v:V}:look ((t,v)::env) t=some v:=by
 simp[look]
theorem XOk.congr {M:Nat->Prop} {w:World} {σ:Sg} {env env':Env} {a:Act} {x:X} (h:∀n,x=.t n->look env' n=look env n) (hx:XOk M w σ env' a x):XOk M w σ env a x :=
 fun n e v hv=>hx n e v (by rw[h n e];exact hv)
theorem J4V.ext {P:Program} {o:Oper} {xs:List X} {env env':Env} {v:V} (h:J4V P o xs env v) (he:∀n,n∈J1S xs->look env' n=look env n):J4V P o xs env' v :=
 fun M w σ a ok=>h M w σ a fun x hx=>(ok x hx).congr fun n e=>he n (J1C (e▸hx))
theorem J8S.ext {P:Program} {o:Oper} {xs:List X} {env env':Env} {k:Nat} {b:Blk} {v:V} (h:J8S P o xs env k b v) (he:∀n,n∈J1S xs->look env' n=look env n):J8S P o xs env' k b v :=
 fun M w σ a own ks ok=>h M w σ a own ks fun x hx=>(ok x hx).congr fun n e=>he n (J1C (e▸hx))
inductive LK where
 | pure (v:V)
 | load (t:TypeId) (n:Nat) (z:Option Nat) (p v:V)
 | new (k:Nat) (b:Blk) (v:V)
 | skip
def LK.val:LK->V
 | .pure v=>v
 | .load _ _ _ _ v=>v
 | .new _ _ v=>v
 | .skip=>.raw (.tuple #[])
def LK.newk:LK->Option (Nat×Blk)
 | .new k b _=>some (k,b)
 | _=>none
structure LT where
 d:DI
 k:LK
def J1m (env:Env) (g:Option (Nat×Bool)) (run:Bool):Prop :=
 match g with
 | none=>run=true
 | some (t,want)=>(∃b,look env t=some (.bool b)/\run=(b == want))\/(run=false/\∃us,look env t=some (.raw (.tuple us)))
def LOk (P:Program) (N:Nat) (ops:Array Oper) (env:Env) (own:Own) (l:LT):Prop :=
 ∃o,ops[l.d.ix]?=some o/\cSI P N ops o=some l.d.si/\(∀t,l.d.si.dst=some t->look env t=some l.k.val) /\
 match l.k with
 | .pure v=>J1m env l.d.si.guard true/\J4V P o l.d.si.op.xs env v
 | .load t n z p v=>J1m env l.d.si.guard true/\l.d.si.op=.load z (.t n)/\o.op=.load t (.tmp n)/\J2o P t=some z/\look env n=some p/\J61 P t p v own/\(∀u,v≠.raw u)
 | .new k b v=>J1m env l.d.si.guard true/\J8S P o l.d.si.op.xs env k b v/\J9T v=some k/\l.d.si.op.isNew=true
 | .skip=>J1m env l.d.si.guard false
theorem J1m.ext {env env':Env} {g:Option (Nat×Bool)} {run:Bool} (h:J1m env g run) (he:∀t b,g=some (t,b)->look env' t=look env t):J1m env' g run:=by
 unfold J1m at h ⊢;split
 . exact h
 . rcases h with ⟨b,h1,h2⟩ | ⟨h1,us,h2⟩
   . exact .inl ⟨b,by rw[he _ _ rfl];exact h1,h2⟩
   . exact .inr ⟨h1,us,by rw[he _ _ rfl];exact h2⟩
theorem LOk.ext {P:Program} {N:Nat} {ops:Array Oper} {env env':Env} {own own':Own} {l:LT} (h:LOk P N ops env own l) (he:∀n,n∈l.d.si.uses->look env' n=look env n)
 (hd:∀t,l.d.si.dst=some t->look env' t=look env t) (hl:∀t n z p v,l.k=.load t n z p v->look env n=some p->J2o P t=some z->J61 P t p v own->J61 P t p v own'):LOk P N ops env' own' l:=by
 obtain⟨o,h1,h2,h3,h4⟩:=h;have hx:∀n,n∈J1S l.d.si.op.xs->look env' n=look env n:=fun n hn=>he n (by simp[SI.uses,hn]);have hg:∀t b,l.d.si.guard=some (t,b)->look env' t=look env t:=fun t b e=>he t (by simp[SI.uses,e]);refine⟨o,h1,h2,fun t ht=>by rw[hd t ht];exact h3 t ht,?_⟩;cases hk:l.k<;>rw[hk] at h4<;>simp only at h4 ⊢
 . exact⟨h4.1.ext hg,h4.2.ext hx⟩
 . obtain⟨a1,a2,a3,a4,a5,a6,a7⟩:=h4;refine⟨a1.ext hg,a2,a3,a4,?_,hl _ _ _ _ _ hk a5 a4 a6,a7⟩;rw[hx _ (by rw[a2];simp[SOp.xs,J1S])];exact a5
 . exact⟨h4.1.ext hg,h4.2.1.ext hx,h4.2.2⟩
 . exact h4.ext hg
structure Inv (P:Program) (N Bd:Nat) (ops:Array Oper) (anc:Nat->List Nat) (σ0:Sg) (ks0 Z:List Nat) (pre rest:List DI) (late:List LT) (env:Env) (own:Own) (ks:List Nat) (B:Own)
 (M:Nat->Prop) (w:World) (σ:Sg) (a:Act) (listed:Array Bool):Prop where
 size:a.tmps.size=N
 defers:Q0E Bd M w σ B a.defers
 lsize:listed.size=ops.size
 sub:∀l,l∈late->l.d∈pre/\l.d.isEff=false
 nd:(late.map (·.d.ix)).Nodup
 part:∀i,i<ops.size->(listed.getD i true=false↔(i∈late.map (·.d.ix)\/i∈rest.map DI.ix))
 closed:∀i o,ops[i]?=some o->listed.getD i true=true->∀j,j∈J01 o->listed.getD j false=true
 envd:∀t v,look env t=some v->(∀l,l∈late->l.d.si.dst≠some t)->Den M w σ v (a.tmps.getD t undef)
 heap:J0G M w σ B ks
 ownc:∀k b,(k,b)∈own↔((k,b)∈B\/∃l,l∈late/\l.k.newk=some (k,b))
 ownnd:(own.map (·.1)).Nodup
 unborn:∀l,l∈late->∀k b,l.k.newk=some (k,b)->σ k=none/\k∉ks
 unb2:∀l l',l∈late->l'∈late->∀k b b',l.k.newk=some (k,b)->l'.k.newk=some (k,b')->l.d.ix=l'.d.ix
 facts:∀l,l∈late->LOk P N ops env own l
 disj:∀l,l∈late->l.d.ix∉rest.map DI.ix
 kd1:∀k,k∈ks->k∈ks0
 kd2:∀l,l∈late->∀k b,l.k.newk=some (k,b)->k∈ks0
 kd3:∀q,σ0 q=none->q∉ks0->σ q=none
 kd4:∀k,k∈own.map (·.1)->k∈Z
 kd5:∀k,k∈ks0->k∈Z
 u1:∀d d',d∈pre->d'∈pre->d.isEff=false->∀t,d.si.dst=some t->t∈d'.si.uses->d.ix∈anc d'.ix
 dd:∀d d',d∈pre->d'∈pre->d.ix≠d'.ix->∀t,d.si.dst=some t->d'.si.dst≠some t
structure J5s (ops:Array Oper) (anc:Nat->List Nat):Prop where
 edge:∀i o,ops[i]?=some o->∀j,j∈J01 o->j<i
 anc:∀i o,ops[i]?=some o->∀e,e∈anc i->e∈J01 o\/∃j,j∈J01 o/\e∈anc j
theorem J3E {ops:Array Oper} {anc:Nat->List Nat} (st:J5s ops anc) {listed:Array Bool} (hs:listed.size=ops.size)
 (closed:∀i o,ops[i]?=some o->listed.getD i true=true->∀j,j∈J01 o->listed.getD j false=true) :
 ∀i o,ops[i]?=some o->(∀j,j∈J01 o->listed.getD j false=true)->∀e,e∈anc i->listed.getD e false=true:=by
 intro i
 induction i using Nat.strongRecOn with
 | _ i ih =>
   intro o ho he e hm;rcases st.anc i o ho e hm with h | ⟨j,hj,hje⟩
   . exact he e h
   . have hlt:=st.edge i o ho j hj;have hi:i<ops.size:=(Array.getElem?_eq_some_iff.1 ho).1;have hjs:j<ops.size:=by omega
     have hl:=he j hj;have hl':listed.getD j true=true:=by
      rw[Array.getD_eq_getD_getElem?,Array.getElem?_eq_getElem (by omega)] at hl ⊢;simpa using hl
     exact ih j hlt ops[j] (by simp[hjs]) (closed j ops[j] (by simp[hjs]) hl') e hje
theorem J31 {listed:Array Bool} {i j:Nat} {d:Bool} (h:i<listed.size):(listed.setIfInBounds i true).getD j d=if i=j then true else listed.getD j d:=by
 rw[Array.getD_eq_getD_getElem?,Array.getElem?_setIfInBounds];split
 . simp
 . rw[Array.getD_eq_getD_getElem?]
theorem J4j {ops:Array Oper} {listed:Array Bool} {i:Nat}:i∈Region.ready .any ops listed↔i<ops.size/\listed.getD i true=false/\∃o,ops[i]?=some o/\∀j,j∈J01 o->listed.getD j false=true:=by
 unfold Region.ready;simp only[List.mem_filter,List.mem_range,Bool.and_eq_true,Bool.not_eq_true'];constructor
 . rintro⟨h1,h2,h3⟩;refine⟨h1,h2,ops[i],by simp[h1],?_⟩;rw[Array.getElem?_eq_getElem h1] at h3;simp only[Option.map_some,Option.getD_some] at h3;intro j hj;simp only[J01,List.mem_map,List.mem_filter] at hj;obtain⟨e,⟨he1,he2⟩,rfl⟩:=hj;rw[Array.all_eq_true_iff_forall_mem] at h3;have:=h3 e (by simpa using he1);rw[he2] at this;simpa using this
 . rintro⟨h1,h2,o,ho,h3⟩;refine⟨h1,h2,?_⟩;rw[ho];simp only[Option.map_some,Option.getD_some];rw[Array.all_eq_true_iff_forall_mem];intro e he;cases hb:Region.binds .any e with
   | false=>rfl
   | true =>
     have:=h3 e.on (by simp only[J01,List.mem_map,List.mem_filter];exact⟨e,⟨by simpa using he,hb⟩,rfl⟩);rw[this];rfl
section
variable {P:Program} {N Bd:Nat} {ops:Array Oper} {anc:Nat->List Nat} {σ0:Sg} {ks0 Z:List Nat} {pre rest:List DI} {late:List LT} {env:Env} {own:Own} {ks:List Nat} {B:Own} {M:Nat->Prop} {w:World} {σ:Sg} {a:Act} {listed:Array Bool}
theorem Inv.used (st:J5s ops anc) (h:Inv P N Bd ops anc σ0 ks0 Z pre rest late env own ks B M w σ a listed) {l:LT} (hl:l∈late) {o:Oper} (ho:ops[l.d.ix]?=some o) (hr:∀j,j∈J01 o->listed.getD j false=true) :
 ∀t,t∈l.d.si.uses->∀l',l'∈late->l'.d.si.dst≠some t:=by
 intro t ht l' hl' hd;have h1:=h.u1 l'.d l.d (h.sub l' hl').1 (h.sub l hl).1 (h.sub l' hl').2 t hd ht;have h2:=J3E st h.lsize h.closed _ o ho hr _ h1;have hlt:l'.d.ix<ops.size:=by
  obtain⟨o',ho',_⟩:=h.facts l' hl';exact(Array.getElem?_eq_some_iff.1 ho').1
 have h3:=(h.part _ hlt).2 (.inl (List.mem_map.2 ⟨l',hl',rfl⟩));have hs:=h.lsize;rw[Array.getD_eq_getD_getElem?,Array.getElem?_eq_getElem (by omega)] at h2 h3;simp at h2 h3;rw[h2] at h3;cases h3
theorem J1d {a:Act} {o:Oper} {env:Env} {M:Nat->Prop} {w:World} {σ:Sg} {si:SI} {run:Bool} (hc:cSI P N ops o=some si) (hg:J1m env si.guard run)
 (hd:∀t,t∈si.uses->∀v,look env t=some v->Den M w σ v (a.tmps.getD t undef)):Region.wanted o (yielded ops a.tmps)=run:=by
 obtain⟨op,_,_,hgd⟩:=J3o hc;rcases hgd with ⟨h1,rfl⟩ | ⟨j,b,t,h1,h2,rfl⟩
 . simp only[J1m] at hg;subst hg;simp[Region.wanted,h1]
 . rcases hg with ⟨bb,h3,h4⟩ | ⟨h4,us,h3⟩
   . have hden:=hd t (by simp[SI.uses]) _ h3;have hb:a.tmps.getD t undef=.bool bb:=by
      generalize a.tmps.getD t undef=q at hden;cases hden;rfl
     rw[J6e h1 h2 hb,h4]
   . have hden:=hd t (by simp[SI.uses]) _ h3;have hb:a.tmps.getD t undef=.tuple us:=by
      generalize a.tmps.getD t undef=q at hden;cases hden;rfl
     rw[J4X h1 h2 hb,h4]
theorem J0V {late:List LT} {l x:LT}:x∈late.filter (fun y=>!Nat.beq y.d.ix l.d.ix)↔x∈late/\x.d.ix≠l.d.ix:=by
 simp only[List.mem_filter,Bool.not_eq_true'];constructor
 . rintro⟨h1,h2⟩;exact⟨h1,fun e=>by rw[e] at h2;simp at h2⟩
 . rintro⟨h1,h2⟩;refine⟨h1,?_⟩;rw[<- Bool.not_eq_true];exact fun h=>h2 (Nat.eq_of_beq_eq_true h)
theorem Inv.ran (h:Inv P N Bd ops anc σ0 ks0 Z pre rest late env own ks B M w σ a listed) {l:LT} (hl:l∈late) {o:Oper} (ho:ops[l.d.ix]?=some o) (hdst:o.dst=l.d.si.dst) (hr:∀j,j∈J01 o->listed.getD j false=true)
 (hN:∀t,l.d.si.dst=some t->t<N) {M':Nat->Prop} {w':World} {σ':Sg} {B':Own} {u:Value} (hv:Den M' w' σ' l.k.val u) (hh:J0G M' w' σ' B' ks) (tr:Tr M w σ B M' w' σ' B')
 (hB:∀k b,(k,b)∈B'↔((k,b)∈B\/l.k.newk=some (k,b))) (hσ:∀k,σ' k≠none->σ k≠none\/∃b,l.k.newk=some (k,b)) :
 Inv P N Bd ops anc σ0 ks0 Z pre rest (late.filter (fun y=>!Nat.beq y.d.ix l.d.ix)) env own ks B' M' w' σ' (a.put o.dst u) (listed.setIfInBounds l.d.ix true):=by
 have hE:=tr.ext h.heap.own;have hlt:l.d.ix<ops.size:=(Array.getElem?_eq_some_iff.1 ho).1;have hls:l.d.ix<listed.size:=by rw[h.lsize];exact hlt
 have same:∀x,x∈late->x.d.ix=l.d.ix->x=l:=by
  intro x hx e;have:=h.nd;obtain⟨i,hi⟩:=List.getElem?_of_mem hx;obtain⟨j,hj⟩:=List.getElem?_of_mem hl;have hij:i=j:=by
   have hi':=(List.getElem?_eq_some_iff.1 hi).1;have hj':=(List.getElem?_eq_some_iff.1 hj).1;refine(List.getElem_inj (xs:=late.map (·.d.ix)) (h₀:=by simpa using hi') (h₁:=by simpa using hj') this).1 ?_;simp only[List.getElem_map];rw[(List.getElem?_eq_some_iff.1 hi).2,(List.getElem?_eq_some_iff.1 hj).2];exact e
  subst hij;rw[hi] at hj;exact Option.some.inj hj
 refine⟨?_,?_,?_,?_,?_,?_,?_,?_,hh,?_,h.ownnd,?_,?_,?_,?_,h.kd1,?_,?_,h.kd4,h.kd5,h.u1,h.dd⟩
 . cases o.dst<;>simp[Act.put,h.size]
 . have hd:=h.defers.tr tr;cases o.dst<;>exact hd
 . simp[h.lsize]
 . intro x hx;exact h.sub x (J0V.1 hx).1
 . exact h.nd.sublist (List.Sublist.map _ (List.filter_sublist))
 . intro i hi;rw[J31 hls];by_cases e:l.d.ix=i
   . subst e;rw[if_pos rfl];constructor
     . intro hh;cases hh
     . intro hh;exfalso;rcases hh with hh|hh
       . obtain⟨x,hx,e⟩:=List.mem_map.1 hh;exact(J0V.1 hx).2 e
       . exact h.disj l hl hh
   . rw[if_neg e,h.part i hi];constructor
     . rintro (hm|hm)
       . obtain⟨x,hx,e'⟩:=List.mem_map.1 hm;exact .inl (List.mem_map.2 ⟨x,J0V.2 ⟨hx,fun e''=>e (by rw[<- e'',e'])⟩,e'⟩)
       . exact .inr hm
     . rintro (hm|hm)
       . obtain⟨x,hx,e'⟩:=List.mem_map.1 hm;exact .inl (List.mem_map.2 ⟨x,(J0V.1 hx).1,e'⟩)
       . exact .inr hm
 . intro i o' ho' hi j hj;rw[J31 hls] at hi ⊢;by_cases ej:l.d.ix=j
   . rw[if_pos ej]
   . rw[if_neg ej];by_cases e:l.d.ix=i
     . subst e;rw[ho] at ho';cases ho';exact hr j hj
     . rw[if_neg e] at hi;exact h.closed i o' ho' hi j hj
 . intro t v hv' hnl;by_cases e:l.d.si.dst=some t
   . obtain⟨o',ho',_,h3,_⟩:=h.facts l hl;have:=h3 t e;rw[this] at hv';cases hv';rw[hdst,e];have ht:t<a.tmps.size:=by rw[h.size];exact hN t e
     simpa[Act.put,Array.getD,ht] using hv
   . have hold:=h.envd t v hv' (fun x hx=>by
      by_cases ex:x.d.ix=l.d.ix
      . rw[same x hx ex];exact e
      . exact hnl x (J0V.2 ⟨hx,ex⟩))
     have he:(a.put o.dst u).tmps.getD t undef=a.tmps.getD t undef:=by
      rw[hdst];cases hd:l.d.si.dst with
      | none=>rfl
      | some t' =>
        have hne:t'≠t:=fun e'=>e (by rw[hd,e']);simp only[Act.put,Array.getD_eq_getD_getElem?,Array.getElem?_setIfInBounds,if_neg hne]
     rw[he];exact hold.mono hE tr.le
 . intro k b;rw[h.ownc,hB];constructor
   . rintro (hm | ⟨x,hx,hk⟩)
     . exact .inl (.inl hm)
     . by_cases ex:x.d.ix=l.d.ix
       . rw[same x hx ex] at hk;exact .inl (.inr hk)
       . exact .inr ⟨x,J0V.2 ⟨hx,ex⟩,hk⟩
   . rintro ((hm|hk) | ⟨x,hx,hk⟩)
     . exact .inl hm
     . exact .inr ⟨l,hl,hk⟩
     . exact .inr ⟨x,(J0V.1 hx).1,hk⟩
 . intro x hx k b hk;obtain⟨hx1,hx2⟩:=J0V.1 hx;obtain⟨q1,q2⟩:=h.unborn x hx1 k b hk;refine⟨?_,q2⟩;cases hs:σ' k with
   | none=>rfl
   | some y =>
     exfalso;rcases hσ k (by rw[hs];simp) with hn | ⟨b',hk'⟩
     . exact hn q1
     . exact hx2 (h.unb2 x l hx1 hl k b b' hk hk')
 . intro x x' hx hx' k b b' hk hk';exact h.unb2 x x' (J0V.1 hx).1 (J0V.1 hx').1 k b b' hk hk'
 . intro x hx;exact h.facts x (J0V.1 hx).1
 . intro x hx;exact h.disj x (J0V.1 hx).1
 . intro x hx;exact h.kd2 x (J0V.1 hx).1
 . intro q h1 h2;cases hs:σ' q with
   | none=>rfl
   | some y =>
     exfalso;rcases hσ q (by rw[hs];simp) with hn | ⟨b',hk'⟩
     . exact hn (h.kd3 q h1 h2)
     . exact h2 (h.kd2 l hl q b' hk')
end
section
variable {P:Program} {N Bd:Nat} {ops:Array Oper} {anc:Nat->List Nat} {σ0:Sg} {ks0 Z:List Nat} {pre rest:List DI} {late:List LT} {env:Env} {own:Own} {ks:List Nat} {B:Own} {M:Nat->Prop} {w:World} {σ:Sg} {a:Act} {listed:Array Bool}
theorem J3T {r:Option Nat} {Q:Exit->Act->World->Prop} {K:Act->World->Prop} {i:Nat} {o:Oper} (ho:ops[i]?=some o) (hw:Region.wanted o (yielded ops a.tmps)=true) (h:o.wpIn (FR r) 0 P a w K Q):wpOpIn (FR r) 0 P ops Q i K a w:=by
 unfold wpOpIn;rw[ho];simp only[hw,if_true];exact h
theorem J6c {r:Option Nat} {Q:Exit->Act->World->Prop} {K:Act->World->Prop} {i:Nat} {o:Oper} (ho:ops[i]?=some o) (hw:Region.wanted o (yielded ops a.tmps)=false) (h:K (a.put o.dst undef) w):wpOpIn (FR r) 0 P ops Q i K a w:=by
 unfold wpOpIn;rw[ho];simp only[hw];exact⟨fun _ _=>trivial,h⟩
theorem Inv.late_step (ro:Option Nat) (st:J5s ops anc) (h:Inv P N Bd ops anc σ0 ks0 Z pre rest late env own ks B M w σ a listed) {l:LT} (hl:l∈late) {o:Oper} (ho:ops[l.d.ix]?=some o) (hr:∀j,j∈J01 o->listed.getD j false=true)
 {Q:Exit->Act->World->Prop} {K:Act->World->Prop}
 (hK:∀B' M' w' σ' a',Inv P N Bd ops anc σ0 ks0 Z pre rest (late.filter (fun y=>!Nat.beq y.d.ix l.d.ix)) env own ks B' M' w' σ' a' (listed.setIfInBounds l.d.ix true)->Tr M w σ B M' w' σ' B'->K a' w') :
 wpOpIn (FR ro) 0 P ops Q l.d.ix K a w:=by
 obtain⟨o',ho',hc,hval,hk⟩:=h.facts l hl;rw[ho] at ho';cases ho';obtain⟨sop,hsop,hN,hgd⟩:=J3o hc;have hdst:o.dst=l.d.si.dst:=by rcases hgd with ⟨_,e⟩ | ⟨_,_,_,_,_,e⟩<;>rw[e]
 have hop:sop=l.d.si.op:=by rcases hgd with ⟨_,e⟩ | ⟨_,_,_,_,_,e⟩<;>rw[e]
 subst hop;have hN':∀t,l.d.si.dst=some t->t<N:=fun t ht=>hN t (by rw[hdst];exact ht);have hu:=h.used st hl ho hr;have hden:∀t,t∈l.d.si.uses->∀v,look env t=some v->Den M w σ v (a.tmps.getD t undef):=fun t ht v hv=>h.envd t v hv (hu t ht);have ok:∀x,x∈l.d.si.op.xs->XOk M w σ env a x:=fun x hx n e v hv=>hden n (by simp only[SI.uses,List.mem_append];exact .inl (J1C (e▸hx))) v hv;cases hlk:l.k with
 | pure v =>
   rw[hlk] at hk;obtain⟨g,pf⟩:=hk;refine J3T ho (J1d hc g hden) (J15 ro (J1p hsop) (J7F pf ok fun u hu'=>?_));refine hK B M w σ _ (h.ran hl ho hdst hr hN' (u:=u) (by rw[hlk];exact hu') h.heap (Tr.refl _ _ _ _) (fun k b=>by rw[hlk];simp[LK.newk]) (fun k hk=>.inl hk)) (Tr.refl _ _ _ _)
 | load t n z p v =>
   rw[hlk] at hk;obtain⟨g,e1,e2,e3,e4,lf,_⟩:=hk;have hp:Den M w σ p (a.tmps.getD n undef):=hden n (by simp only[SI.uses,List.mem_append,e1];exact .inl (by simp[SOp.xs,J1S])) p e4;have hsome:∀k,p.readKey=some k->σ k≠none:=by
    intro k hk hn;generalize a.tmps.getD n undef=q at hp;cases hp<;>simp only[V.readKey,Option.some.injEq,reduceCtorEq] at hk<;>(subst hk;rename_i hh;rw[hn] at hh;cases hh)
   obtain⟨r,r1,r2⟩:=lf M w σ _ hp (fun k b hk hlook=>by
    rcases (h.ownc k b).1 (J0c hlook) with hB | ⟨x,hx,hxk⟩
    . exact h.heap.own.blk k b hB
    . exact(hsome k hk (h.unborn x hx k b hxk).1).elim)
   have hrun:(execOp a.eval o).run P w=.ok (.value r) w:=by
    obtain⟨dst,op,type,pos,after,guard⟩:=o;simp only at e2;subst e2;exact J0S r1
   refine J3T ho (J1d hc g hden) (J15 ro (J1p hsop) (J0r hrun ?_));refine hK B M w σ _ (h.ran hl ho hdst hr hN' (u:=r) (by rw[hlk];exact r2) h.heap (Tr.refl _ _ _ _) (fun k b=>by rw[hlk];simp[LK.newk]) (fun k hk=>.inl hk)) (Tr.refl _ _ _ _)
 | new k b v =>
   rw[hlk] at hk;obtain⟨g,af,_,_⟩:=hk;obtain⟨hσk,hks⟩:=h.unborn l hl k b (by rw[hlk];rfl);have hh:J0G M w σ B (k::ks):=⟨h.heap.own,fun q hq=>by rcases List.mem_cons.1 hq with e|e;(subst e;exact hσk);exact h.heap.fresh q e,List.nodup_cons.2 ⟨hks,h.heap.knodup⟩⟩;obtain⟨u,w',M',σ',r1,r2,r3,r4,_,r5⟩:=af M w σ a B ks ok hh;refine J3T ho (J1d hc g hden) (J15 ro (J1p hsop) (J0r r1 ?_));refine hK _ M' w' σ' _ (h.ran hl ho hdst hr hN' (u:=u) (by rw[hlk];exact r4) r2 r3 (fun q c=>by rw[hlk];simp only[LK.newk,List.mem_cons,Option.some.injEq,Prod.mk.injEq];constructor;(rintro (x|x);exact .inr ⟨x.1.symm,x.2.symm⟩;exact .inl x);(rintro (x|x);exact .inr x;exact .inl ⟨x.1.symm,x.2.symm⟩)) (fun q hq=>?_)) r3
   . by_cases e:σ q=none
     . right;rw[hlk];by_cases eq:q=k
       . subst eq;exact⟨b,rfl⟩
       . exfalso;by_cases em:q∈ks
         . exact hq (r2.fresh q em)
         . exact hq (r5.2.1 q e (by simp[eq,em]))
     . exact .inl e
 | skip =>
   rw[hlk] at hk;refine J6c ho (J1d hc hk hden) ?_;refine hK B M w σ _ (h.ran hl ho hdst hr hN' (u:=undef) (by rw[hlk];exact .raw _ _) h.heap (Tr.refl _ _ _ _) (fun k b=>by rw[hlk];simp[LK.newk]) (fun k hk=>.inl hk)) (Tr.refl _ _ _ _)
end
section
variable {P:Program} {N Bd:Nat} {ops:Array Oper} {anc:Nat->List Nat} {σ0:Sg} {ks0 Z:List Nat} {pre post:List DI} {late:List LT} {env:Env} {own:Own} {ks:List Nat} {B:Own} {M:Nat->Prop} {w:World} {σ:Sg} {a:Act} {listed:Array Bool}
theorem Inv.push {si:SI} {ix:Nat} (hc:Q5f anc pre (.op ix si) post) (hix:ix∉post.map DI.ix) (h:Inv P N Bd ops anc σ0 ks0 Z pre (.op ix si::post) late env own ks B M w σ a listed) (lk:LK)
 (own':Own) (ks':List Nat) (hf:LOk P N ops (J4N env si.dst lk.val) own' ⟨.op ix si,lk⟩)
 (hnew:(lk.newk=none/\own'=own/\ks'=ks)\/∃k b,lk.newk=some (k,b)/\ks=k::ks'/\own'=(k,b)::own) :
 Inv P N Bd ops anc σ0 ks0 Z (pre++[.op ix si]) post (⟨.op ix si,lk⟩::late) (J4N env si.dst lk.val) own' ks' B M w σ a listed:=by
 have hnotin:∀k,k∈ks->∀b,(k,b)∉own:=fun k hk b hm=>by
  rcases (h.ownc k b).1 hm with hB | ⟨x,hx,hxk⟩
  . obtain⟨y,hy⟩:=h.heap.own.key hB;rw[h.heap.fresh k hk] at hy;cases hy
  . exact(h.unborn x hx k b hxk).2 hk
 have hlook:∀t,si.dst≠some t->look (J4N env si.dst lk.val) t=look env t:=by
  intro t ht;unfold J4N;split
  . rename_i t' e;exact J2y (fun e'=>ht (by rw[e,e']))
  . rfl
 refine⟨h.size,h.defers,h.lsize,?_,?_,?_,h.closed,?_,?_,?_,?_,?_,?_,?_,?_,?_,?_,h.kd3,?_,h.kd5,?_,?_⟩
 . intro l hl;rcases List.mem_cons.1 hl with e|hl
   . subst e;exact⟨by simp,rfl⟩
   . exact⟨List.mem_append_left _ (h.sub l hl).1,(h.sub l hl).2⟩
 . simp only[List.map_cons,List.nodup_cons];refine⟨fun hm=>?_,h.nd⟩;obtain⟨l,hl,e⟩:=List.mem_map.1 hm;exact h.disj l hl (by rw[e];simp[DI.ix])
 . intro i hi;rw[h.part i hi];simp only[List.map_cons,List.mem_cons,DI.ix];constructor
   . rintro (x|x|x)
     . exact .inl (.inr x)
     . exact .inl (.inl x)
     . exact .inr x
   . rintro ((x|x)|x)
     . exact .inr (.inl x)
     . exact .inl x
     . exact .inr (.inr x)
 . intro t v hv hnl;have hne:si.dst≠some t:=hnl ⟨.op ix si,lk⟩ (by simp);rw[hlook t hne] at hv;exact h.envd t v hv fun l hl=>hnl l (by simp[hl])
 . rcases hnew with ⟨_,_,e⟩ | ⟨k,b,_,e,_⟩
   . rw[e];exact h.heap
   . have hh:=h.heap;rw[e] at hh;exact⟨hh.own,fun q hq=>hh.fresh q (by simp[hq]),(List.nodup_cons.1 hh.knodup).2⟩
 . intro k b;rcases hnew with ⟨e1,e2,_⟩ | ⟨k',b',e1,_,e2⟩
   . rw[e2,h.ownc];constructor
     . rintro (x | ⟨l,hl,x⟩)
       . exact .inl x
       . exact .inr ⟨l,by simp[hl],x⟩
     . rintro (x | ⟨l,hl,x⟩)
       . exact .inl x
       . rcases List.mem_cons.1 hl with e|hl
         . subst e;rw[e1] at x;cases x
         . exact .inr ⟨l,hl,x⟩
   . rw[e2,List.mem_cons,h.ownc];constructor
     . rintro (x|x | ⟨l,hl,x⟩)
       . cases x;exact .inr ⟨⟨.op ix si,lk⟩,by simp,e1⟩
       . exact .inl x
       . exact .inr ⟨l,by simp[hl],x⟩
     . rintro (x | ⟨l,hl,x⟩)
       . exact .inr (.inl x)
       . rcases List.mem_cons.1 hl with e|hl
         . subst e;rw[e1] at x;cases x;exact .inl rfl
         . exact .inr (.inr ⟨l,hl,x⟩)
 . rcases hnew with ⟨_,e,_⟩ | ⟨k,b,_,e1,e2⟩
   . rw[e];exact h.ownnd
   . rw[e2];simp only[List.map_cons,List.nodup_cons];refine⟨fun hm=>?_,h.ownnd⟩;obtain⟨⟨q,c⟩,hq,e⟩:=List.mem_map.1 hm;simp only at e;subst e;exact hnotin q (by rw[e1];simp) c hq
 . intro l hl k b hk;have hsub:∀q,q∈ks'->q∈ks:=by
    rcases hnew with ⟨_,_,e⟩ | ⟨_,_,_,e,_⟩
    . rw[e];exact fun _ x=>x
    . rw[e];exact fun _ x=>List.mem_cons_of_mem _ x
   rcases List.mem_cons.1 hl with e|hl
   . subst e;rcases hnew with ⟨e1,_,_⟩ | ⟨k',b',e1,e2,_⟩
     . rw[e1] at hk;cases hk
     . rw[e1] at hk;cases hk;have hh:=h.heap;rw[e2] at hh;exact⟨hh.fresh k (by simp),(List.nodup_cons.1 hh.knodup).1⟩
   . obtain⟨q1,q2⟩:=h.unborn l hl k b hk;exact⟨q1,fun x=>q2 (hsub k x)⟩
 . intro l l' hl hl' k b b' hk hk';have cross:∀x,x∈late->∀c c',x.k.newk=some (k,c)->lk.newk=some (k,c')->False:=by
    intro x hx c c' hxk hlk;rcases hnew with ⟨e1,_,_⟩ | ⟨k',b',e1,e2,_⟩
    . rw[e1] at hlk;cases hlk
    . rw[e1] at hlk;cases hlk;exact(h.unborn x hx k c hxk).2 (by rw[e2];simp)
   rcases List.mem_cons.1 hl with e|hl
   . subst e;rcases List.mem_cons.1 hl' with e'|hl'
     . subst e';rfl
     . exact(cross l' hl' b' b hk' hk).elim
   . rcases List.mem_cons.1 hl' with e'|hl'
     . subst e';exact(cross l hl b b' hk hk').elim
     . exact h.unb2 l l' hl hl' k b b' hk hk'
 . intro l hl;rcases List.mem_cons.1 hl with e|hl
   . subst e;exact hf
   . refine(h.facts l hl).ext ?_ ?_ ?_
     . intro n hn;refine hlook n fun e=>?_;have:=(hc.reads n e l.d (h.sub l hl).1 hn).1;cases this
     . intro t ht;refine hlook t fun e=>?_;exact hc.dst t e l.d (h.sub l hl).1 ht
     . intro t n z p v _ _ _ lf;rcases hnew with ⟨_,e,_⟩ | ⟨k,b,_,e1,e2⟩
       . rw[e];exact lf
       . rw[e2];intro M1 w1 σ1 u hd hb;refine lf M1 w1 σ1 u hd fun q c hq hlk=>hb q c hq ?_;have hne:k≠q:=fun e=>by
          subst e;exact hnotin k (by rw[e1];simp) c (J0c hlk)
         have hbq:Nat.beq k q=false:=by
          rw[<- Bool.not_eq_true];exact fun hh=>hne (Nat.eq_of_beq_eq_true hh)
         show(match Nat.beq k q with|true=>some b|false=>look own q)=_;rw[hbq];exact hlk
 . intro l hl;rcases List.mem_cons.1 hl with e|hl
   . subst e;exact hix
   . exact fun x=>h.disj l hl (by simp[x])
 . intro k hk;refine h.kd1 k ?_;rcases hnew with ⟨_,_,e⟩ | ⟨_,_,_,e,_⟩
   . rw[e] at hk;exact hk
   . rw[e];exact List.mem_cons_of_mem _ hk
 . intro l hl k b hk;rcases List.mem_cons.1 hl with e|hl
   . subst e;rcases hnew with ⟨e1,_,_⟩ | ⟨k',b',e1,e2,_⟩
     . rw[e1] at hk;cases hk
     . rw[e1] at hk;cases hk;exact h.kd1 k (by rw[e2];simp)
   . exact h.kd2 l hl k b hk
 . intro k hk;rcases hnew with ⟨_,e,_⟩ | ⟨k',b,_,e1,e2⟩
   . rw[e] at hk;exact h.kd4 k hk
   . rw[e2] at hk;simp only[List.map_cons,List.mem_cons] at hk;rcases hk with e|e
     . subst e;exact h.kd5 _ (h.kd1 _ (by rw[e1];simp))
     . exact h.kd4 k e
 . intro d d' hd hd' he t ht hu;rcases List.mem_append.1 hd with hd|hd
   . rcases List.mem_append.1 hd' with hd'|hd'
     . exact h.u1 d d' hd hd' he t ht hu
     . simp only[List.mem_singleton] at hd';subst hd';exact hc.uses d hd he t ht hu
   . simp only[List.mem_singleton] at hd;subst hd;rcases List.mem_append.1 hd' with hd'|hd'
     . have:=(hc.reads t ht d' hd' hu).1;cases this
     . simp only[List.mem_singleton] at hd';subst hd';exact(hc.self t ht rfl hu).elim
 . intro d d' hd hd' hne t ht ht';rcases List.mem_append.1 hd with hd|hd
   . rcases List.mem_append.1 hd' with hd'|hd'
     . exact h.dd d d' hd hd' hne t ht ht'
     . simp only[List.mem_singleton] at hd';subst hd';exact hc.dst t ht' d hd ht
   . simp only[List.mem_singleton] at hd;subst hd;rcases List.mem_append.1 hd' with hd'|hd'
     . exact hc.dst t ht d' hd' ht'
     . simp only[List.mem_singleton] at hd';subst hd';exact hne rfl
theorem J3J {env:Env} {g:Option (Nat×Bool)} {A C:Prop} (h:J5d env g A C):(J1m env g true/\A)\/(J1m env g false/\C):=by
 unfold J5d at h;split at h
 . exact .inl ⟨rfl,h⟩
 . rename_i t want;split at h
   . rename_i b hb;split at h
     . rename_i hx;exact .inl ⟨.inl ⟨b,hb,by revert hx;cases b<;>cases want<;>decide⟩,h⟩
     . rename_i hx;exact .inr ⟨.inl ⟨b,hb,by revert hx;cases b<;>cases want<;>decide⟩,h⟩
   . rename_i us hb;exact .inr ⟨.inr ⟨rfl,us,hb⟩,h⟩
   . exact h.elim
theorem J1B {P:Program} {post:List DI} {env:Env} {d:Option Nat} {v:V} {own:Own} {ks:List Nat} {K:Env->Own->List Nat->Prop}
 (h:match d with|some t=>J1w P post ((t,v)::env) own ks K|none=>J1w P post env own ks K):J1w P post (J4N env d v) own ks K:=by
 unfold J4N;cases d<;>exact h
theorem Inv.absorb {si:SI} {ix:Nat} {o:Oper} (ho:ops[ix]?=some o) (hsi:cSI P N ops o=some si) (hc:Q5f anc pre (.op ix si) post) (hix:ix∉post.map DI.ix)
 (h:Inv P N Bd ops anc σ0 ks0 Z pre (.op ix si::post) late env own ks B M w σ a listed) {K:Env->Own->List Nat->Prop} (hv:J1w P (.op ix si::post) env own ks K) :
 ∃lk env' own' ks',Inv P N Bd ops anc σ0 ks0 Z (pre++[.op ix si]) post (⟨.op ix si,lk⟩::late) env' own' ks' B M w σ a listed/\J1w P post env' own' ks' K:=by
 obtain⟨d,op,g⟩:=si;obtain⟨sop,hsop,hN,hgd⟩:=J3o hsi;have hdst:o.dst=d:=by rcases hgd with ⟨_,e⟩ | ⟨_,_,_,_,_,e⟩<;>(cases e;rfl)
 have hop:sop=op:=by rcases hgd with ⟨_,e⟩ | ⟨_,_,_,_,_,e⟩<;>(cases e;rfl)
 subst hop;obtain⟨c1,c2,c3⟩:=hc.op rfl;have hself:∀n,n∈SI.uses ⟨d,sop,g⟩->∀v,look (J4N env d v) n=look env n:=by
  intro n hn v;unfold J4N;split
  . rename_i t;refine J2y fun e=>?_;subst e;exact hc.self t rfl rfl hn
  . rfl
 have hx:∀n,n∈J1S sop.xs->∀v,look (J4N env d v) n=look env n:=fun n hn=>hself n (by simp[SI.uses,hn]);have hg:∀run v,J1m env g run->J1m (J4N env d v) g run:=fun run v hh=>hh.ext fun t b e=>hself t (by simp[SI.uses,e]) v;have hval:∀v t,d=some t->look (J4N env d v) t=some v:=by
  intro v t e;subst e;exact J3I
 rcases J3J hv with ⟨gk,hv⟩ | ⟨gk,hv⟩
 . by_cases hn:sop.isNew=true
   . obtain⟨k,ks',b,v,rfl,hK,af,hvv⟩:=J6C hsop hn hv;refine⟨_,_,_,_,h.push hc hix (.new k b v) ((k,b)::own) ks' ⟨o,ho,hsi,fun t ht=>hval v t ht,hg _ v gk,af.ext fun n hn=>hx n hn v,?_,hn⟩ (.inr ⟨k,b,rfl,rfl,rfl⟩),J1B hK⟩;rcases hvv with e | ⟨_,_,e⟩|e<;>(rw[e];rfl)
   . by_cases hl:∃z x,sop=.load z x
     . obtain⟨z,x,rfl⟩:=hl;obtain⟨n,rfl⟩:=c3 z x rfl;obtain⟨t,x0,p,v,e1,e2,hK,hget,hp,lf,hnr⟩:=J5a hsop hv;have hx0:x0=.tmp n/\look env n=some p:=by
        have hw:=J1o hsop;rw[e1] at hw;cases hw with
        | load _ _ _ _ _ hcx =>
          cases x0 with
          | tmp m =>
            simp only[cX,Option.some.injEq,X.t.injEq] at hcx;subst hcx;refine⟨rfl,?_⟩;simp only[X.get] at hget;split at hget
            . rename_i q hq;rw[hq,hget]
            . exact hget.elim
          | const c=>simp only[cX,Option.map_eq_some_iff] at hcx;obtain⟨_,_,hh⟩:=hcx;cases hh
          | global g=>cases hcx
          | func f=>simp[cX] at hcx
       obtain⟨rfl,hlk⟩:=hx0;refine⟨_,_,_,_,h.push hc hix (.load t n z p v) own ks ⟨o,ho,hsi,fun t ht=>hval v t ht,hg _ v gk,rfl,e1,e2,?_,lf,hnr⟩ (.inl ⟨rfl,rfl,rfl⟩),J1B hK⟩;rw[hx n (by simp[SOp.xs,J1S])];exact hlk
     . obtain⟨v,hK,pf⟩:=J47 hsop (by simpa using hn) c1 (fun z x e=>hl ⟨z,x,e⟩) hv;exact⟨_,_,_,_,h.push hc hix (.pure v) own ks ⟨o,ho,hsi,fun t ht=>hval v t ht,hg _ v gk,pf.ext fun n hn=>hx n hn v⟩ (.inl ⟨rfl,rfl,rfl⟩),J1B hK⟩
 . exact⟨_,_,_,_,h.push hc hix .skip own ks ⟨o,ho,hsi,fun t ht=>hval _ t ht,hg _ _ gk⟩ (.inl ⟨rfl,rfl,rfl⟩),J1B hv⟩
end
end Go.Eng
namespace Go.Eng
theorem J48 {α:Type}:∀{l:List (Nat×α)} {k:Nat} {a b:α},(l.map (·.1)).Nodup->(k,a)∈l->(k,b)∈l->a=b
 | [],_,_,_,_,h,_=>by simp at h
 | p::l,k,a,b,hn,ha,hb=>by
   simp only[List.map_cons,List.nodup_cons] at hn;rcases List.mem_cons.1 ha with e|ha
   . rcases List.mem_cons.1 hb with e'|hb
     . rw[<- e] at e';cases e';rfl
     . exact(hn.1 (by rw[<- e];exact List.mem_map.2 ⟨_,hb,rfl⟩)).elim
   . rcases List.mem_cons.1 hb with e'|hb
     . exact(hn.1 (by rw[<- e'];exact List.mem_map.2 ⟨_,ha,rfl⟩)).elim
     . exact J48 hn.2 ha hb
theorem J4r {α:Type}:∀{l m:List (Nat×α)} {k:Nat},(∀b,(k,b)∉l)->look (l++m) k=look m k
 | [],_,_,_=>rfl
 | (q,b)::l,m,k,h=>by
   have hne:q≠k:=fun e=>h b (by simp[e]);have hb:Nat.beq q k=false:=by
    rw[<- Bool.not_eq_true];exact fun hh=>hne (Nat.eq_of_beq_eq_true hh)
   show(match Nat.beq q k with|true=>some b|false=>look (l++m) k)=_;rw[hb];exact J4r fun b hb=>h b (by simp[hb])
theorem J2u {env:Env}:∀(pend:List Nat) (own acc:Own) (K:Own->Own->Prop),J40 env pend own acc K->(own.map (·.1)).Nodup->(acc.map (·.1)).Nodup->(∀k,k∈own.map (·.1)->k∉acc.map (·.1)) ->
 ∃A C,K A C/\(A.map (·.1)).Nodup/\(C.map (·.1)).Nodup/\(∀k,k∈A.map (·.1)->k∉C.map (·.1))/\(∀k b,((k,b)∈own\/(k,b)∈acc)↔((k,b)∈A\/(k,b)∈C))/\(∀k b,(k,b)∈A->(k,b)∈own) /\
  ∀t,t∈pend->∀v k,look env t=some v->J9T v=some k->∀b,(k,b)∉A
 | [],own,acc,K,h,n1,n2,n3=>⟨own,acc,h,n1,n2,n3,fun _ _=>Iff.rfl,fun _ _ h=>h,by simp⟩
 | t::r,own,acc,K,h,n1,n2,n3=>by
   unfold J40 at h;split at h
   . rename_i v hv;split at h
     . rename_i k hk;split at h
       . rename_i b hb;obtain⟨own',h,m1,m2⟩:=J2c _ _ _ h n1;have hmem:=J0c hb;have hnot:k∉acc.map (·.1):=n3 k (List.mem_map.2 ⟨_,hmem,rfl⟩);have hkey:∀q,q∈own'.map (·.1)->q∈own.map (·.1)/\q≠k:=by
          intro q hq;obtain⟨⟨q',c⟩,hm,e⟩:=List.mem_map.1 hq;simp only at e;subst e;obtain⟨z1,z2⟩:=(m2 q' c).1 hm;exact⟨List.mem_map.2 ⟨_,z2,rfl⟩,z1⟩
         obtain⟨A,C,hK,a1,a2,a3,a4,a5,a6⟩:=J2u r own' ((k,b)::acc) K h m1 (by simp only[List.map_cons,List.nodup_cons];exact⟨hnot,n2⟩) (fun q hq=>by
          obtain⟨z1,z2⟩:=hkey q hq;simp only[List.map_cons,List.mem_cons,not_or];exact⟨z2,n3 q z1⟩)
         have uniq:∀c,(k,c)∈own->c=b:=fun c hc=>J48 n1 hc hmem;refine⟨A,C,hK,a1,a2,a3,?_,?_,?_⟩
         . intro q c;rw[<- a4];simp only[List.mem_cons,Prod.mk.injEq,m2];constructor
           . rintro (x|x)
             . by_cases e:q=k
               . subst e;exact .inr (.inl ⟨rfl,uniq c x⟩)
               . exact .inl ⟨e,x⟩
             . exact .inr (.inr x)
           . rintro (⟨_,x⟩ | ⟨e1,e2⟩|x)
             . exact .inl x
             . subst e1 e2;exact .inl hmem
             . exact .inr x
         . intro q c hq;exact((m2 q c).1 (a5 q c hq)).2
         . intro t' ht' v' k' hv' hk' c hc;rcases List.mem_cons.1 ht' with e|ht'
           . subst e;rw[hv] at hv';cases hv';rw[hk] at hk';cases hk';exact((m2 k c).1 (a5 k c hc)).1 rfl
           . exact a6 t' ht' v' k' hv' hk' c hc
       . exact h.elim
     . rename_i hk;obtain⟨A,C,hK,a1,a2,a3,a4,a5,a6⟩:=J2u r own acc K h n1 n2 n3;refine⟨A,C,hK,a1,a2,a3,a4,a5,?_⟩;intro t' ht' v' k' hv' hk' c hc;rcases List.mem_cons.1 ht' with e|ht'
       . subst e;rw[hv] at hv';cases hv';rw[hk] at hk';cases hk'
       . exact a6 t' ht' v' k' hv' hk' c hc
   . exact h.elim
theorem J5r {α:Type}:∀(l m:List α) (K:List α->Prop),Q5k l m K->K (l++m)
 | [],_,_,h=>h
 | x::l,m,K,h=>J5r l m (fun l'=>K (x::l')) h
theorem J24 {env:Env} {own:Own} {G:Prop}:∀(l:List (Option Nat×Nat×Nat)),J8P env own G l->G/\∀z n t,(z,n,t)∈l->∀p v,look env n=some p->look env t=some v->(∃u,v=.raw u)\/J37 own z p (fun v'=>v'=v)
 | [],h=>⟨h,by simp⟩
 | (z,n,t)::r,h=>by
   unfold J8P at h;split at h
   . rename_i u hu;obtain⟨g,hr⟩:=J24 r h;refine⟨g,fun z' n' t' hm p v hp hv=>?_⟩;rcases List.mem_cons.1 hm with e|hm
     . cases e;rw[hu] at hv;cases hv;exact .inl ⟨_,rfl⟩
     . exact hr z' n' t' hm p v hp hv
   . rename_i v0 _ hv0;split at h
     . rename_i p0 hp0;obtain⟨h1,h⟩:=h;obtain⟨g,hr⟩:=J24 r h;refine⟨g,fun z' n' t' hm p v hp hv=>?_⟩;rcases List.mem_cons.1 hm with e|hm
       . cases e;rw[hv0] at hv;rw[hp0] at hp;cases hv;cases hp;exact .inr h1
       . exact hr z' n' t' hm p v hp hv
     . exact h.elim
   . exact h.elim
theorem J5c {M M':Nat->Prop} {w w':World} {σ σ':Sg} {B A A' C:Own} {ks ks':List Nat} (hB:J0G M w σ B ks) (hA:∀k b,(k,b)∈A->(k,b)∈B) (hC:∀k b,(k,b)∈C->(k,b)∈B)
 (hAC:∀k,k∈A.map (·.1)->k∉C.map (·.1)) (hCn:(C.map (·.1)).Nodup) (h':J0G M' w' σ' A' ks') (tr:Tr M w σ A M' w' σ' A') (kd:Kd σ A ks σ' A' ks') :
 J0G M' w' σ' (A'++C) ks'/\Tr M w σ B M' w' σ' (A'++C):=by
 have ownA:∀n,J0y w σ A n->J0y w σ B n:=fun n ⟨k,b,hm,e⟩=>⟨k,b,hA k b hm,e⟩;have ownC:∀n,J0y w σ C n->J0y w σ B n/\¬ J0y w σ A n:=by
  rintro n ⟨k,b,hm,e⟩;refine⟨⟨k,b,hC k b hm,e⟩,?_⟩;rintro⟨q,c,hq,e'⟩;have hne:q≠k:=fun ee=>by
   subst ee;exact hAC q (List.mem_map.2 ⟨_,hq,rfl⟩) (List.mem_map.2 ⟨_,hm,rfl⟩)
  exact hB.own.apart q c k b n (hA q c hq) (hC k b hm) hne e' e
 have keyC:∀k b,(k,b)∈C->∃x,σ k=some x:=fun k b hm=>hB.own.key (hC k b hm);have eC:∀k b n,(k,b)∈C->(J0i w' σ' k b n↔J0i w σ k b n):=fun k b n hm=>J0J tr.le (keyC k b hm) fun ob hob=>by
  obtain⟨z1,z2⟩:=ownC ob ⟨k,b,hm,.inl hob⟩;exact tr.adv.same ob (J0q hB.own z1).2 z2
 have hE:Ext M w M' w':=tr.adv.ext fun n hn=>(J0q hB.own (ownA n hn)).1;have notA':∀k,k∈A'.map (·.1)->k∉C.map (·.1):=by
  intro k hk hc;obtain⟨⟨q,c⟩,hm,e⟩:=List.mem_map.1 hc;simp only at e;subst e;rcases kd.2.2 q hk with x|x
  . exact hAC q x hc
  . obtain⟨y,hy⟩:=keyC q c hm;rw[hB.fresh q x] at hy;cases hy
 refine⟨⟨⟨?_,?_,?_⟩,h'.fresh,h'.knodup⟩,⟨⟨tr.adv.os,tr.adv.tape,tr.adv.output,tr.adv.size,?_,?_⟩,?_,tr.le⟩⟩
 . intro k b hm;rcases List.mem_append.1 hm with hm|hm
   . exact h'.own.blk k b hm
   . refine(hB.own.blk k b (hC k b hm)).mono hE tr.le fun n hn=>?_;obtain⟨z1,z2⟩:=ownC n ⟨k,b,hm,hn⟩;obtain⟨m1,m2⟩:=J0q hB.own z1;exact⟨(tr.adv.muts n m2 z2).2 m1,tr.adv.same n m2 z2⟩
 . rw[List.map_append,List.nodup_append];refine⟨h'.own.nodup,hCn,fun k hk q hq e=>?_⟩;subst e;exact notA' k hk hq
 . intro k b k' b' n h1 h2 hne e1 e2;have cross:∀q c q' c',(q,c)∈A'->(q',c')∈C->J0i w' σ' q c n->J0i w' σ' q' c' n->False:=by
    intro q c q' c' hq hq' x x';rw[eC q' c' n hq'] at x';obtain⟨z1,z2⟩:=ownC n ⟨q',c',hq',x'⟩;have hlt:=(J0q hB.own z1).2;rcases tr.new n ⟨q,c,hq,x⟩ with y|y
    . exact z2 y
    . omega
   rcases List.mem_append.1 h1 with h1|h1
   . rcases List.mem_append.1 h2 with h2|h2
     . exact h'.own.apart k b k' b' n h1 h2 hne e1 e2
     . exact cross k b k' b' h1 h2 e1 e2
   . rcases List.mem_append.1 h2 with h2|h2
     . exact cross k' b' k b h2 h1 e2 e1
     . rw[eC k b n h1] at e1;rw[eC k' b' n h2] at e2;exact hB.own.apart k b k' b' n (hC k b h1) (hC k' b' h2) hne e1 e2
 . intro n hn hno;exact tr.adv.same n hn fun x=>hno (ownA n x)
 . intro n hn hno;exact tr.adv.muts n hn fun x=>hno (ownA n x)
 . rintro n ⟨k,b,hm,e⟩;rcases List.mem_append.1 hm with hm|hm
   . rcases tr.new n ⟨k,b,hm,e⟩ with x|x
     . exact .inl (ownA n x)
     . exact .inr x
   . rw[eC k b n hm] at e;exact .inl ⟨k,b,hC k b hm,e⟩
section
variable {P:Program} {N Bd:Nat} {ops:Array Oper} {anc:Nat->List Nat} {σ0:Sg} {ks0 Z:List Nat} {pre post:List DI} {late:List LT} {env:Env} {own:Own} {ks:List Nat} {B:Own} {M:Nat->Prop} {w:World} {σ:Sg} {a:Act} {listed:Array Bool}
theorem Inv.eff_done {e:DI} (hec:e.isEff=true) (hc:Q5f anc pre e post) (hix:e.ix∉post.map DI.ix) {o:Oper} (ho:ops[e.ix]?=some o) (hdst:o.dst=e.si.dst)
 (h:Inv P N Bd ops anc σ0 ks0 Z pre (e::post) late env own ks B M w σ a listed) (hr:∀j,j∈J01 o->listed.getD j false=true) (hN:∀t,e.si.dst=some t->t<N)
 (hfree:∀l,l∈late->l.d.ix∉anc e.ix)
 {M':Nat->Prop} {w':World} {σ':Sg} {B' own':Own} {ks':List Nat} {u:Value} {v:V} (hv:Den M' w' σ' v u) (hh:J0G M' w' σ' B' ks') (tr:Tr M w σ B M' w' σ' B')
 (hks:∀q,q∈ks'->q∈ks) (hσ:∀q,σ q=none->q∉ks->σ' q=none)
 (hoc:∀k b,(k,b)∈own'↔((k,b)∈B'\/∃l,l∈late/\l.k.newk=some (k,b))) (hond:(own'.map (·.1)).Nodup) (hoz:∀k,k∈own'.map (·.1)->k∈own.map (·.1)\/k∈ks)
 (hlf:∀l,l∈late->∀t n z p v,l.k=.load t n z p v->look env n=some p->J2o P t=some z->J61 P t p v own->J61 P t p v own') :
 Inv P N Bd ops anc σ0 ks0 Z (pre++[e]) post late (J4N env e.si.dst v) own' ks' B' M' w' σ' (a.put o.dst u) (listed.setIfInBounds e.ix true):=by
 have hE:=tr.ext h.heap.own;have hlt:e.ix<ops.size:=(Array.getElem?_eq_some_iff.1 ho).1;have hls:e.ix<listed.size:=by rw[h.lsize];exact hlt
 have hlook:∀t,e.si.dst≠some t->look (J4N env e.si.dst v) t=look env t:=by
  intro t ht;unfold J4N;split
  . rename_i t' e';exact J2y (fun e''=>ht (by rw[e',e'']))
  . rfl
 have hnl:∀l,l∈late->∀t,e.si.dst=some t->l.d.si.dst≠some t/\t∉l.d.si.uses:=by
  intro l hl t ht;refine⟨hc.dst t ht l.d (h.sub l hl).1,fun hu=>?_⟩;exact hfree l hl (hc.reads t ht l.d (h.sub l hl).1 hu).2
 refine⟨?_,?_,?_,?_,h.nd,?_,?_,?_,hh,hoc,hond,?_,h.unb2,?_,?_,?_,h.kd2,?_,?_,h.kd5,?_,?_⟩
 . cases o.dst<;>simp[Act.put,h.size]
 . have hd:=h.defers.tr tr;cases o.dst<;>exact hd
 . simp[h.lsize]
 . intro l hl;exact⟨List.mem_append_left _ (h.sub l hl).1,(h.sub l hl).2⟩
 . intro i hi;rw[J31 hls];by_cases ee:e.ix=i
   . subst ee;rw[if_pos rfl];constructor
     . intro hh;cases hh
     . intro hh;exfalso;rcases hh with hh|hh
       . obtain⟨x,hx,e'⟩:=List.mem_map.1 hh;exact h.disj x hx (by rw[e'];simp)
       . exact hix hh
   . rw[if_neg ee,h.part i hi];simp only[List.map_cons,List.mem_cons];constructor
     . rintro (x|x|x)
       . exact .inl x
       . exact(ee x.symm).elim
       . exact .inr x
     . rintro (x|x)
       . exact .inl x
       . exact .inr (.inr x)
 . intro i o' ho' hi j hj;rw[J31 hls] at hi ⊢;by_cases ej:e.ix=j
   . rw[if_pos ej]
   . rw[if_neg ej];by_cases ee:e.ix=i
     . subst ee;rw[ho] at ho';cases ho';exact hr j hj
     . rw[if_neg ee] at hi;exact h.closed i o' ho' hi j hj
 . intro t x hx hn;by_cases ed:e.si.dst=some t
   . have:look (J4N env e.si.dst v) t=some v:=by rw[ed];exact J3I
     rw[this] at hx;cases hx;rw[hdst,ed];have ht:t<a.tmps.size:=by rw[h.size];exact hN t ed
     simpa[Act.put,Array.getD,ht] using hv
   . rw[hlook t ed] at hx;have hold:=h.envd t x hx hn;have he:(a.put o.dst u).tmps.getD t undef=a.tmps.getD t undef:=by
      rw[hdst];cases hd:e.si.dst with
      | none=>rfl
      | some t' =>
        have hne:t'≠t:=fun e'=>ed (by rw[hd,e']);simp only[Act.put,Array.getD_eq_getD_getElem?,Array.getElem?_setIfInBounds,if_neg hne]
     rw[he];exact hold.mono hE tr.le
 . intro l hl k b hk;obtain⟨q1,q2⟩:=h.unborn l hl k b hk;exact⟨hσ k q1 q2,fun x=>q2 (hks k x)⟩
 . intro l hl;refine(h.facts l hl).ext ?_ ?_ (hlf l hl)
   . intro n hn;exact hlook n fun ee=>(hnl l hl n ee).2 hn
   . intro t ht;exact hlook t fun ee=>(hnl l hl t ee).1 ht
 . intro l hl x;exact h.disj l hl (by simp only[List.map_cons,List.mem_cons];exact .inr x)
 . intro k hk;exact h.kd1 k (hks k hk)
 . intro q h1 h2;exact hσ q (h.kd3 q h1 h2) fun x=>h2 (h.kd1 q x)
 . intro k hk;rcases hoz k hk with x|x
   . exact h.kd4 k x
   . exact h.kd5 k (h.kd1 k x)
 . intro d d' hd hd' he t ht hu;rcases List.mem_append.1 hd with g1|g1
   . rcases List.mem_append.1 hd' with g2|g2
     . exact h.u1 d d' g1 g2 he t ht hu
     . simp only[List.mem_singleton] at g2;rw[g2] at hu ⊢;exact hc.uses d g1 he t ht hu
   . simp only[List.mem_singleton] at g1;rw[g1,hec] at he;cases he
 . intro d d' hd hd' hne t ht ht';rcases List.mem_append.1 hd with g1|g1
   . rcases List.mem_append.1 hd' with g2|g2
     . exact h.dd d d' g1 g2 hne t ht ht'
     . simp only[List.mem_singleton] at g2;rw[g2] at ht';exact hc.dst t ht' d g1 ht
   . simp only[List.mem_singleton] at g1;rcases List.mem_append.1 hd' with g2|g2
     . rw[g1] at ht;exact hc.dst t ht d' g2 ht'
     . simp only[List.mem_singleton] at g2;exact hne (by rw[g1,g2])
theorem Inv.eff_step (r:Option Nat) (st:J5s ops anc) {ix:Nat} {pend:List Nat} {held:List (Option Nat×Nat×Nat)} {si:SI} {o:Oper} (ho:ops[ix]?=some o) (hsi:cSI P N ops o=some si)
 (hc:Q5f anc pre (.eff ix pend held si) post) (hix:ix∉post.map DI.ix) (h:Inv P N Bd ops anc σ0 ks0 Z pre (.eff ix pend held si::post) late env own ks B M w σ a listed)
 (hr:∀j,j∈J01 o->listed.getD j false=true) {K0:Env->Own->List Nat->Prop} (hv:J1w P (.eff ix pend held si::post) env own ks K0)
 {Q:Exit->Act->World->Prop} {K:Act->World->Prop}
 (hK:∀env' own' ks' B' M' w' σ' a',Inv P N Bd ops anc σ0 ks0 Z (pre++[.eff ix pend held si]) post late env' own' ks' B' M' w' σ' a' (listed.setIfInBounds ix true)->J1w P post env' own' ks' K0->Tr M w σ B M' w' σ' B'->K a' w') :
 wpOpIn (FR r) 0 P ops Q ix K a w:=by
 obtain⟨d,op,g⟩:=si;obtain⟨sop,hsop,hN,hgd⟩:=J3o hsi;have hdst:o.dst=d:=by rcases hgd with ⟨_,e⟩ | ⟨_,_,_,_,_,e⟩<;>(cases e;rfl)
 have hop:sop=op:=by rcases hgd with ⟨_,e⟩ | ⟨_,_,_,_,_,e⟩<;>(cases e;rfl)
 subst hop;obtain⟨c1,_,c3⟩:=hc.eff ix pend held _ rfl;have hunl:∀l,l∈late->listed.getD l.d.ix false=false:=by
  intro l hl;obtain⟨o',ho',_⟩:=h.facts l hl;have hlt:=(Array.getElem?_eq_some_iff.1 ho').1;have h3:=(h.part _ hlt).2 (.inl (List.mem_map.2 ⟨l,hl,rfl⟩));have hs:=h.lsize;rw[Array.getD_eq_getD_getElem?,Array.getElem?_eq_getElem (by omega)] at h3 ⊢;simpa using h3
 have hfree:∀l,l∈late->l.d.ix∉anc ix:=by
  intro l hl hm;have:=J3E st h.lsize h.closed ix o ho hr _ hm;rw[hunl l hl] at this;cases this
 have hden:∀t,t∈SI.uses ⟨d,sop,g⟩->∀v,look env t=some v->Den M w σ v (a.tmps.getD t undef):=by
  intro t ht v hv;refine h.envd t v hv fun l hl e=>?_;exact hfree l hl (hc.uses l.d (h.sub l hl).1 (h.sub l hl).2 t e ht)
 have ok:∀x,x∈sop.xs->XOk M w σ env a x:=fun x hx n e v hv=>hden n (by simp only[SI.uses,List.mem_append];exact .inl (J1C (e▸hx))) v hv;have hN':∀t,d=some t->t<N:=fun t ht=>hN t (by rw[hdst];exact ht);rcases J3J hv with ⟨gk,hv⟩ | ⟨gk,hv⟩
 . obtain⟨A,C,hv,a1,a2,a3,a4,a5,a6⟩:=J2u _ _ _ _ hv h.ownnd (by simp) (by simp);have a4':∀k b,(k,b)∈own↔((k,b)∈A\/(k,b)∈C):=fun k b=>by rw[<- a4];simp
   have hAB:∀k b,(k,b)∈A->(k,b)∈B:=by
    intro k b hm;rcases (h.ownc k b).1 (a5 k b hm) with x | ⟨l,hl,hk⟩
    . exact x
    . exfalso;have hp:=c3 l.d (h.sub l hl).1 (h.sub l hl).2 (hfree l hl);obtain⟨o',ho',_,hval,hkk⟩:=h.facts l hl;cases hlk:l.k with
      | new k' b' v =>
        rw[hlk] at hk hkk hval;cases hk;obtain⟨_,_,hkey,hnew⟩:=hkk;have:∃t,l.d.si.dst=some t/\t∈pend:=by
         unfold Q1v at hp;split at hp
         . rename_i z x e;rw[e] at hnew;cases hnew
         . split at hp
           . split at hp
             . rename_i t e;exact⟨t,e,J0m.1 hp⟩
             . cases hp
           . rename_i hno;rw[hnew] at hno;cases hno
        obtain⟨t,ht,hpm⟩:=this;exact a6 t hpm v k (hval t ht) hkey b hm
      | pure v=>rw[hlk] at hk;cases hk
      | load _ _ _ _ _=>rw[hlk] at hk;cases hk
      | skip=>rw[hlk] at hk;cases hk
   let CB:Own:=B.filter fun p=>decide (p.1∉A.map (·.1));have hCB:∀k b,(k,b)∈CB↔((k,b)∈B/\k∉A.map (·.1)):=fun k b=>by simp[CB]
   have hdrop:=J3l (own':=A) h.heap hAB a1;refine J3T ho (J1d hsi gk hden) (Oper.wpIn_mono ?_ (Q0c hsop c1 hv ok hdrop.1 Q r));rintro a' w' ⟨u,M',σ',v,A',ks',rfl,hvd,hh',tr,kd,hheld⟩;obtain⟨hgo,hre⟩:=J24 _ hheld;have hgo:=J5r _ _ _ hgo;have hun:=J5c (C:=CB) h.heap hAB (fun k b hm=>((hCB k b).1 hm).1) (fun k hk hc'=>by
    obtain⟨⟨q,c⟩,hm,e⟩:=List.mem_map.1 hc';simp only at e;subst e;exact((hCB q c).1 hm).2 hk) (h.heap.own.nodup.sublist (List.Sublist.map _ List.filter_sublist)) hh' tr kd
   have keyA':∀k,k∈A'.map (·.1)->k∉C.map (·.1):=by
    intro k hk hcm;rcases kd.2.2 k hk with x|x
    . exact a3 k x hcm
    . obtain⟨⟨q,c⟩,hm,e⟩:=List.mem_map.1 hcm;simp only at e;subst e;rcases (h.ownc q c).1 ((a4' q c).2 (.inr hm)) with y | ⟨l,hl,y⟩
      . obtain⟨z,hz⟩:=h.heap.own.key y;rw[h.heap.fresh q x] at hz;cases hz
      . exact(h.unborn l hl q c y).2 x
   have hinv:=h.eff_done (e:=.eff ix pend held ⟨d,sop,g⟩) rfl hc hix ho hdst hr hN' hfree (own':=C++A') hvd hun.1 hun.2 kd.1 kd.2.1
    (fun k b=>by
      rw[List.mem_append,List.mem_append,hCB];constructor
      . rintro (x|x)
        . rcases (h.ownc k b).1 ((a4' k b).2 (.inr x)) with y|y
          . exact .inl (.inr ⟨y,fun z=>a3 k z (List.mem_map.2 ⟨_,x,rfl⟩)⟩)
          . exact .inr y
        . exact .inl (.inl x)
      . rintro ((x | ⟨x,y⟩)|x)
        . exact .inr x
        . rcases (a4' k b).1 ((h.ownc k b).2 (.inl x)) with z|z
          . exact(y (List.mem_map.2 ⟨_,z,rfl⟩)).elim
          . exact .inl z
        . rcases (a4' k b).1 ((h.ownc k b).2 (.inr x)) with z|z
          . exfalso;obtain⟨l,hl,hk⟩:=x;obtain⟨y,hy⟩:=h.heap.own.key (hAB k b z);rw[(h.unborn l hl k b hk).1] at hy;cases hy
          . exact .inl z)
    (by
      rw[List.map_append,List.nodup_append];exact⟨a2,hh'.own.nodup,fun k hk q hq e=>by subst e;exact keyA' k hq hk⟩)
    (fun k hk=>by
      rw[List.map_append,List.mem_append] at hk;rcases hk with x|x
      . obtain⟨⟨q,c⟩,hm,e⟩:=List.mem_map.1 x;exact .inl (List.mem_map.2 ⟨_,(a4' q c).2 (.inr hm),e⟩)
      . rcases kd.2.2 k x with y|y
        . obtain⟨⟨q,c⟩,hm,e⟩:=List.mem_map.1 y;exact .inl (List.mem_map.2 ⟨_,(a4' q c).2 (.inl hm),e⟩)
        . exact .inr y)
    (fun l hl t n z p v' hlk hp hz lf=>by
      have hpb:=c3 l.d (h.sub l hl).1 (h.sub l hl).2 (hfree l hl);obtain⟨o',ho',_,hval,hkk⟩:=h.facts l hl;rw[hlk] at hval hkk;obtain⟨_,e1,_,_,_,_,hnr⟩:=hkk;unfold Q1v at hpb;rw[e1] at hpb;simp only at hpb;split at hpb
      . rename_i n' t' en et;cases en;have hin:=J71 hpb;rcases hre z n t' hin p v' hp (hval t' et) with ⟨uu,hraw⟩|hload
        . exact(hnr uu hraw).elim
        . have lf':=Q1F hz hload;intro M1 w1 σ1 u1 hd1 hb1;refine lf' M1 w1 σ1 u1 hd1 fun q c hq hlq=>hb1 q c hq ?_;rw[J4r (fun b hb=>keyA' q (List.mem_map.2 ⟨_,J0c hlq,rfl⟩) (List.mem_map.2 ⟨_,hb,rfl⟩))];exact hlq
      . cases hpb)
   exact hK _ _ _ _ M' w' σ' _ hinv (J1B hgo) hun.2
 . refine J6c ho (J1d hsi gk hden) ?_;have hinv:=h.eff_done (e:=.eff ix pend held ⟨d,sop,g⟩) rfl hc hix ho hdst hr hN' hfree (v:=.raw (.tuple #[])) (u:=undef) (.raw _ _) h.heap (Tr.refl _ _ _ _) (fun _ x=>x) (fun _ x _=>x) h.ownc h.ownnd (fun _ x=>.inl x)
    (fun _ _ _ _ _ _ _ _ _ _ lf=>lf)
   exact hK _ _ _ _ M w σ _ hinv (J1B hv) (Tr.refl _ _ _ _)
end
theorem J8k {P:Program} {N:Nat} {ops:Array Oper}:∀{l:List Oper} {sl:List SI},Q2c P N ops l=some sl->∀(i:Nat) (s:SI),sl[i]?=some s->∃o,l[i]?=some o/\cSI P N ops o=some s
 | [],sl,h,i,s,hs=>by simp[Q2c] at h;subst h;simp at hs
 | o::l,sl,h,i,s,hs=>by
   unfold Q2c at h;split at h<;>simp only[Option.some.injEq,reduceCtorEq] at h;rename_i s0 sl' h1 h2;subst h;cases i with
   | zero=>simp at hs;subst hs;exact⟨o,by simp,h1⟩
   | succ i =>
     obtain⟨o',h3,h4⟩:=J8k h2 i s (by simpa using hs);exact⟨o',by simpa using h3,h4⟩
theorem J21 {A:List (List Nat)} {sis:List SI}:∀{c done:List Nat} {d:DI},d∈J22 A sis c done->sis[d.ix]?=some d.si
 | [],_,d,h=>by simp[J22] at h
 | i::r,done,d,h=>by
   unfold J22 at h;split at h
   . rename_i si hsi;split at h
     . rcases List.mem_cons.1 h with e|h
       . subst e;exact hsi
       . exact J21 h
     . simp only[List.mem_cons] at h;rcases h with e|h
       . subst e;exact hsi
       . exact J21 h
   . simp at h
theorem J4J {A:List (List Nat)} {pre:List DI} {d:DI} {post:List DI} (h:J3L A pre (d::post)=true):Q18 A pre d post=true/\J3L A (pre++[d]) post=true:=by
 simpa[J3L] using h
section
variable {P:Program} {N Bd:Nat} {ops:Array Oper} {A:List (List Nat)} {σ0:Sg} {ks0 Z:List Nat} {B:Own} {M:Nat->Prop} {w:World} {σ:Sg} {a:Act} {listed:Array Bool} {K:Env->Own->List Nat->Prop}
theorem Inv.norm:∀(rest pre:List DI) (late:List LT) (env:Env) (own:Own) (ks:List Nat),Inv P N Bd ops (fun i=>A.getD i []) σ0 ks0 Z pre rest late env own ks B M w σ a listed->J3L A pre rest=true ->
 (∀d,d∈rest->∃o,ops[d.ix]?=some o/\cSI P N ops o=some d.si)->(rest.map DI.ix).Nodup->J1w P rest env own ks K ->
 ∃pre' rest' late' env' own' ks',Inv P N Bd ops (fun i=>A.getD i []) σ0 ks0 Z pre' rest' late' env' own' ks' B M w σ a listed/\J3L A pre' rest'=true/\(∀d,d∈rest'->d∈rest)/\(rest'.map DI.ix).Nodup /\
  J1w P rest' env' own' ks' K/\late'.length+rest'.length=late.length+rest.length/\(rest'=[]\/∃ix pend held si post,rest'=.eff ix pend held si::post)
 | [],pre,late,env,own,ks,h,hc,_,hn,hv=>⟨pre,[],late,env,own,ks,h,hc,fun _ h=>h,hn,hv,rfl,.inl rfl⟩
 | .eff ix pend held si::post,pre,late,env,own,ks,h,hc,_,hn,hv=>⟨pre,_,late,env,own,ks,h,hc,fun _ h=>h,hn,hv,rfl,.inr ⟨ix,pend,held,si,post,rfl⟩⟩
 | .op ix si::post,pre,late,env,own,ks,h,hc,hs,hn,hv=>by
   obtain⟨c1,c2⟩:=J4J hc;obtain⟨o,ho,hsi⟩:=hs (.op ix si) (by simp);simp only[List.map_cons,List.nodup_cons] at hn;have hcond:=Q0l c1;obtain⟨lk,env',own',ks',h',hv'⟩:=h.absorb ho hsi hcond hn.1 hv;obtain⟨pre'',rest'',late'',env'',own'',ks'',r1,r2,r3,r4,r5,r6,r7⟩:=Inv.norm post _ _ env' own' ks' h' c2 (fun d hd=>hs d (by simp[hd])) hn.2 hv';exact⟨pre'',rest'',late'',env'',own'',ks'',r1,r2,fun d hd=>List.mem_cons_of_mem _ (r3 d hd),r4,r5,by simp only[List.length_cons] at r6 ⊢;omega,r7⟩
theorem Q13 (r:Option Nat) (st:J5s ops (fun i=>A.getD i [])) {Q:Exit->Act->World->Prop}:∀(fuel:Nat) (rest pre:List DI) (late:List LT) (env:Env) (own:Own) (ks:List Nat) (B:Own) (M:Nat->Prop) (w:World) (σ:Sg) (a:Act) (listed:Array Bool),
 Inv P N Bd ops (fun i=>A.getD i []) σ0 ks0 Z pre rest late env own ks B M w σ a listed->J3L A pre rest=true ->
 (∀d,d∈rest->∃o,ops[d.ix]?=some o/\cSI P N ops o=some d.si)->(rest.map DI.ix).Nodup->J1w P rest env own ks K->late.length+rest.length<=fuel ->
 (∀env' own' ks' B' M' w' σ' a' pre' listed',Inv P N Bd ops (fun i=>A.getD i []) σ0 ks0 Z pre' [] [] env' own' ks' B' M' w' σ' a' listed'->Tr M w σ B M' w' σ' B'->K env' own' ks'->Q .normal a' w') ->
 wpAnyIn (FR r) 0 P .any ops Q fuel listed a w:=by
 intro fuel
 induction fuel with
 | zero =>
   intro rest pre late env own ks B M w σ a listed h hc hs hn hv hf hq;have e1:late=[]:=List.eq_nil_of_length_eq_zero (by omega);have e2:rest=[]:=List.eq_nil_of_length_eq_zero (by omega);subst e1 e2;refine⟨?_,hq env own ks B M w σ a pre listed h (Tr.refl _ _ _ _) hv⟩;rw[List.eq_nil_iff_forall_not_mem];intro i hi;obtain⟨h1,h2,_⟩:=J4j.1 hi;rcases (h.part i h1).1 h2 with x|x<;>simp at x
 | succ fuel ih =>
   intro rest pre late env own ks B M w σ a listed h hc hs hn hv hf hq;obtain⟨pre,rest,late,env,own,ks,h,hc,hsub,hn,hv,hlen,hnorm⟩:=Inv.norm rest pre late env own ks h hc hs hn hv;have hs':∀d,d∈rest->∃o,ops[d.ix]?=some o/\cSI P N ops o=some d.si:=fun d hd=>hs d (hsub d hd);refine⟨?_,?_⟩
   . intro hre;have hall:∀i,i<ops.size->listed.getD i true=true:=by
      intro i
      induction i using Nat.strongRecOn with
      | _ i ih2 =>
        intro hi;cases hl:listed.getD i true with
        | true=>rfl
        | false =>
          exfalso;have:i∈Region.ready .any ops listed:=by
           refine J4j.2 ⟨hi,hl,ops[i],by simp[hi],fun j hj=>?_⟩;have hji:=st.edge i ops[i] (by simp[hi]) j hj;have:=ih2 j hji (by omega);have hs:=h.lsize;rw[Array.getD_eq_getD_getElem?,Array.getElem?_eq_getElem (by omega)] at this ⊢;simpa using this
          rw[hre] at this;simp at this
     have e1:late=[]:=by
      rw[List.eq_nil_iff_forall_not_mem];intro l hl;obtain⟨o',ho',_⟩:=h.facts l hl;have hlt:=(Array.getElem?_eq_some_iff.1 ho').1;have:=(h.part _ hlt).2 (.inl (List.mem_map.2 ⟨l,hl,rfl⟩));rw[hall _ hlt] at this;cases this
     have e2:rest=[]:=by
      rw[List.eq_nil_iff_forall_not_mem];intro d hd;obtain⟨o',ho',_⟩:=hs' d hd;have hlt:=(Array.getElem?_eq_some_iff.1 ho').1;have:=(h.part _ hlt).2 (.inr (List.mem_map.2 ⟨d,hd,rfl⟩));rw[hall _ hlt] at this;cases this
     subst e1 e2;exact hq env own ks B M w σ a pre listed h (Tr.refl _ _ _ _) hv
   . intro i hi;obtain⟨h1,h2,o,ho,hr⟩:=J4j.1 hi;rcases (h.part i h1).1 h2 with x|x
     . obtain⟨l,hl,e⟩:=List.mem_map.1 x;subst e;refine h.late_step r st hl ho hr fun B' M' w' σ' a' h' tr=>?_;refine ih rest pre _ env own ks B' M' w' σ' a' _ h' hc hs' hn hv ?_ fun env' own' ks' B'' M'' w'' σ'' a'' pre' listed' r1 r2 r3=>hq env' own' ks' B'' M'' w'' σ'' a'' pre' listed' r1 (tr.trans r2) r3;have:(late.filter (fun y=>!Nat.beq y.d.ix l.d.ix)).length<late.length:=by
        refine List.length_filter_lt_length_iff_exists.2 ⟨l,hl,by simp⟩
       omega
     . rcases hnorm with e | ⟨ix,pend,held,si,post,e⟩
       . subst e;simp at x
       . subst e;obtain⟨c1,c2⟩:=J4J hc;have hcond:=Q0l c1;simp only[List.map_cons,List.nodup_cons] at hn;have hix:i=ix:=by
          simp only[List.map_cons,List.mem_cons,DI.ix] at x;rcases x with x|x
          . exact x
          . exfalso;obtain⟨d',hd',e'⟩:=List.mem_map.1 x;have hanc:=(hcond.eff ix pend held si rfl).2.1 d' hd';rw[e'] at hanc;have hl:=J3E st h.lsize h.closed i o ho hr ix hanc;obtain⟨o2,ho2,_⟩:=hs' (.eff ix pend held si) (by simp);have hlt:ix<ops.size:=(Array.getElem?_eq_some_iff.1 ho2).1;have hun:=(h.part ix hlt).2 (.inr (by simp[DI.ix]));have hs:=h.lsize;rw[Array.getD_eq_getD_getElem?,Array.getElem?_eq_getElem (by omega)] at hl hun;simp at hl hun;rw[hl] at hun;cases hun
         subst hix;obtain⟨o2,ho2,hsi⟩:=hs' (.eff i pend held si) (by simp);simp only[DI.ix] at ho2;rw[ho] at ho2;cases ho2;refine h.eff_step r st ho hsi hcond hn.1 hr hv fun env' own' ks' B' M' w' σ' a' h' hv' tr=>?_;refine ih post _ late env' own' ks' B' M' w' σ' a' _ h' c2 (fun d hd=>hs' d (by simp[hd])) hn.2 hv' ?_ fun env'' own'' ks'' B'' M'' w'' σ'' a'' pre' listed' r1 r2 r3=>hq env'' own'' ks'' B'' M'' w'' σ'' a'' pre' listed' r1 (tr.trans r2) r3;simp only[List.length_cons] at hlen;omega
end
theorem J7a {P:Program} (hm:P.follows .mixedOrders=true) (r:Option Nat) {N B id:Nat} {ops:Array Oper} {pl:List DI} (hp:J9A P N ops=some pl) {env:Env} {own:Own} {ks:List Nat} {K:Env->Own->List Nat->Prop}
 (h:J1w P pl env own ks K) {M:Nat->Prop} {w:World} {σ:Sg} {a:Act} (sim:Sim N B M w σ ⟨env,own,ks⟩ a) {Q:Exit->Act->World->Prop}
 (hq:∀env' own' ks' M' w' σ' a',Sim N B M' w' σ' ⟨env',own',ks'⟩ a'->Tr M w σ own M' w' σ' own'->Kd σ own ks σ' own' ks'->K env' own' ks'->Q .normal a' w'):(Code.region id ops true).wpIn (FR r) 0 P Q a w:=by
 unfold J9A at hp;split at hp
 . rename_i sis hsis;simp only at hp;split at hp
   . rename_i hchk;cases hp;simp only[Bool.and_eq_true] at hchk;obtain⟨⟨hcond,hanc⟩,hitems⟩:=hchk;have hst:J5s ops (fun i=>(Q4d ops.toList []).getD i []):=by
      constructor
      . intro i o ho j hj;have hi:i<ops.size:=(Array.getElem?_eq_some_iff.1 ho).1;have:=List.all_eq_true.1 hanc i (List.mem_range.2 hi);rw[ho] at this;simp only[Bool.and_eq_true] at this;exact Nat.le_of_ble_eq_true (List.all_eq_true.1 this.1 j hj)
      . intro i o ho e he;have hi:i<ops.size:=(Array.getElem?_eq_some_iff.1 ho).1;have:=List.all_eq_true.1 hanc i (List.mem_range.2 hi);rw[ho] at this;simp only[Bool.and_eq_true] at this;have h2:=List.all_eq_true.1 this.2 e he;simp only[Bool.or_eq_true] at h2;rcases h2 with x|x
        . exact .inl (J0m.1 x)
        . obtain⟨j,hj,hm⟩:=List.any_eq_true.1 x;exact .inr ⟨j,hj,J0m.1 hm⟩
     simp only[Q2A,Bool.and_eq_true] at hitems;obtain⟨⟨⟨hlen,hcov⟩,_⟩,hnd0⟩:=hitems;have hlen:=Nat.eq_of_beq_eq_true hlen;generalize hpl:J22 (Q4d ops.toList []) sis (Q3P (Q4d ops.toList []) (fun i=>match sis[i]? with|some s=>s.op.isEff|none=>true) (ops.size+1) (List.range ops.size) []) []=pl at *;have hall:∀i,i<ops.size->i∈pl.map DI.ix:=fun i hi=>J0m.1 (List.all_eq_true.1 hcov i (List.mem_range.2 hi));have hnd:(pl.map DI.ix).Nodup:=J1E hnd0;have hs:∀d,d∈pl->∃o,ops[d.ix]?=some o/\cSI P N ops o=some d.si:=by
      intro d hd;rw[<- hpl] at hd;obtain⟨o,h1,h2⟩:=J8k hsis d.ix d.si (J21 hd);exact⟨o,by simpa using h1,h2⟩
     have sim1:=J94 sim.heap;have hE:=sim1.2.ext sim.heap.own;refine wpIn_region_any hm ?_;have hinv:Inv P N B ops (fun i=>(Q4d ops.toList []).getD i []) σ ks (own.map (·.1)++ks) [] pl [] env own ks own M w.drew σ a (Array.replicate ops.size false):=by
      refine⟨sim.size,sim.defers.tr sim1.2,by simp,by simp,by simp,?_,?_,?_,sim1.1,?_,sim.heap.own.nodup,by simp,by simp,by simp,by simp,fun _ h=>h,by simp,fun _ h _=>h,?_,?_,by simp,by simp⟩
      . intro i hi;constructor
        . intro _;exact .inr (hall i hi)
        . intro _;simp[Array.getD,hi]
      . intro i o ho hi;have hlt:i<ops.size:=(Array.getElem?_eq_some_iff.1 ho).1;simp[Array.getD,hlt] at hi
      . intro t v hv _;exact(sim.env t v hv).mono hE (Sg.le_refl _)
      . intro k b;simp
      . intro k hk;exact List.mem_append_left _ hk
      . intro k hk;exact List.mem_append_right _ hk
     refine Q13 r hst ops.size pl [] [] env own ks own M w.drew σ a _ hinv hcond hs hnd h (by simp[hlen]) ?_;intro env' own' ks' B' M' w' σ' a' pre' listed' r1 r2 r3;have hfin:=J3l (own':=own') r1.heap (fun k b hm=>by
      rcases (r1.ownc k b).1 hm with x | ⟨l,hl,_⟩
      . exact x
      . simp at hl) r1.ownnd
     refine hq env' own' ks' M' w' σ' a' ⟨fun t v hv=>r1.envd t v hv (by simp),hfin.1,r1.size,r1.defers.tr hfin.2⟩ ((sim1.2.trans r2).trans hfin.2) ⟨r1.kd1,r1.kd3,fun k hk=>List.mem_append.1 (r1.kd4 k hk)⟩ r3
   . cases hp
 . cases hp
end Go.Eng
namespace Go.Eng
inductive SC where
 | skip
 | ops (l:List SI)
 | draw (l:List DI)
 | seq (a b:SC)
 | cond (c:X) (a b:SC)
 | block (id:Nat) (b:SC)
 | loop (b:SC)
 | exit (id:Nat)
 | ret
 | rf (g:X) (ps:List Nat) (a b:SC)
def J9K (N:Nat):List Nat->Bool
 | []=>true
 | p::r=>match Nat.ble (p+1) N with|true=>J9K N r|false=>false
def badC:SC:=.cond (.k .nilptr) .skip .skip
def J0X (P:Program) (N:Nat):Code->Option SC
 | .skip=>some .skip
 | .region _ ops false=>match Q2c P N ops ops.toList with|some l=>some (.ops l)|none=>some badC
 | .region _ ops true=>match J9A P N ops with|some l=>some (.draw l)|none=>some badC
 | .seq a b=>match J0X P N a,J0X P N b with|some a,some b=>some (.seq a b)|_,_=>none
 | .cond c a b=>match cX c,J0X P N a,J0X P N b with|some c,some a,some b=>some (.cond c a b)|_,_,_=>none
 | .block id b=>(J0X P N b).map (.block id)
 | .loop b=>(J0X P N b).map .loop
 | .exit id=>some (.exit id)
 | .ret=>some .ret
 | .rangeFunc g ps a b=>match cX g,J0X P N a,J0X P N b with
   | some g,some sa,some sb=>match J9K N ps.toList with
     | true=>some (.rf g ps.toList sa sb)
     | false=>none
   | _,_,_=>none
 | _=>none
structure BK where
 ks:List Nat
 r:Option Nat
def RIn (kr r:Option Nat) (σb:Sg):Prop:=(kr=none/\r=none)\/∃k l κ,kr=some k/\r=some l/\σb k=some (some l,0,κ)
structure J60 (P:Program) (N:Nat) (bk:BK) (b:SC) (env:Env) (own:Own) (ks:List Nat) (K:Out->Prop):Prop where
 out:∀r σb,RIn bk.r r σb->∀c,J0X P N c=some b->∀B M w σ a,(∀k,k∈bk.ks->σb k=none)->σb.le σ->Sim N B M w σ ⟨env,own,ks⟩ a->(Code.loop c).wpIn (FR r) 0 P (XP N B σb M w σ own ks K) a w
structure Q0B (P:Program) (N:Nat) (kr:Option Nat) (g:X) (ps:List Nat) (sa sb:SC) (env:Env) (own:Own) (ks:List Nat) (K:Out->Prop):Prop where
 out:∀r σb,RIn kr r σb->∀g0 a b,cX g0=some g->J0X P N a=some sa->J0X P N b=some sb->∀B M w σ act,σb.le σ->Sim N B M w σ ⟨env,own,ks⟩ act ->
  (Code.rangeFunc g0 ps.toArray a b).wpIn (FR r) 0 P (XP N B σb M w σ own ks K) act w
inductive Q5m (A B:Prop):Prop where
 | mk (ha:A) (hb:B):Q5m A B
def vc (P:Program) (N:Nat) (bk:BK):SC->Env->Own->List Nat->(Out->Prop)->Prop
 | .skip,env,own,ks,K=>K (.normal ⟨env,own,ks⟩)
 | .ops l,env,own,ks,K=>J5y P l env own ks fun env own ks=>K (.normal ⟨env,own,ks⟩)
 | .draw l,env,own,ks,K=>J1w P l env own ks fun env own ks=>K (.normal ⟨env,own,ks⟩)
 | .seq a b,env,own,ks,K=>vc P N bk a env own ks fun o=>match o with
   | .normal ⟨env,own,ks⟩=>vc P N bk b env own ks K
   | o=>K o
 | .cond c a b,env,own,ks,K=>c.get env fun v=>match v with
   | .bool x=>match x with
     | true=>vc P N bk a env own ks K
     | false=>vc P N bk b env own ks K
   | .anyb=>Q5m (vc P N bk a env own ks K) (vc P N bk b env own ks K)
   | _=>False
 | .block id b,env,own,ks,K=>vc P N bk b env own ks fun o=>match o with
   | .exit id' st=>match Nat.beq id' id with|true=>K (.normal st)|false=>K (.exit id' st)
   | o=>K o
 | .loop b,env,own,ks,K=>J60 P N bk b env own ks K
 | .exit id,env,own,ks,K=>K (.exit id ⟨env,own,ks⟩)
 | .ret,env,own,ks,K=>K (.ret ⟨env,own,ks⟩)
 | .rf g ps a b,env,own,ks,K=>Q0B P N bk.r g ps a b env own ks K
theorem XP.tr {N B:Nat} {σb:Sg} {M M₁:Nat->Prop} {w w₁:World} {σ σ₁:Sg} {own own₁:Own} {ks ks₁:List Nat} {K:Out->Prop} (t:Tr0 M w σ own M₁ w₁ σ₁ own₁) (q:Kd σ own ks σ₁ own₁ ks₁) {e:Exit} {a:Act} {w':World} (h:XP N B σb M₁ w₁ σ₁ own₁ ks₁ K e a w'):XP N B σb M w σ own ks K e a w':=by
 obtain⟨M',σ',st',h1,h2,h2',hb,h3⟩:=h;exact⟨M',σ',st',h1,t.trans h2,q.trans h2',hb,h3⟩
theorem J2E {P:Program} (hm:P.follows .mixedOrders=true) {N B:Nat} {bk:BK} {σb:Sg} (hbk:∀k,k∈bk.ks->σb k=none) (r:Option Nat) (hr:RIn bk.r r σb):∀(c:Code) (sc:SC) (K:Out->Prop) (env:Env) (own:Own) (ks:List Nat) (M:Nat->Prop) (w:World) (σ:Sg) (a:Act),
 J0X P N c=some sc->vc P N bk sc env own ks K->Sim N B M w σ ⟨env,own,ks⟩ a->σb.le σ->c.wpIn (FR r) 0 P (XP N B σb M w σ own ks K) a w:=by
 intro c
 induction c with
 | skip =>
   intro sc K env own ks M w σ a hc h sim hle;simp[J0X] at hc;subst hc;exact wpIn_skip ⟨M,σ,_,sim,Tr0.refl _ _ _ _,Kd.refl _ _ _,hle,h⟩
 | region id ops draw =>
   intro sc K env own ks M w σ a hc h sim hle;cases draw with
   | false =>
     simp only[J0X] at hc;split at hc
     case h_2=>cases hc;exact(show False from h).elim
     rename_i l hl;cases hc;exact wpIn_region_list (J2D r ops.toList l env own ks _ M w σ a hl h sim fun env' own' ks' M' w' σ' a' s t q k=>⟨M',σ',_,s,t.t0,q,Sg.le_trans hle t.le,k⟩)
   | true =>
     simp only[J0X] at hc;split at hc
     case h_2=>cases hc;exact(show False from h).elim
     rename_i l hl;cases hc;exact J7a hm r hl h sim fun env' own' ks' M' w' σ' a' s t q k=>⟨M',σ',_,s,t.t0,q,Sg.le_trans hle t.le,k⟩
 | seq x y ihx ihy =>
   intro sc K env own ks M w σ a hc h sim hle;simp only[J0X] at hc;split at hc<;>simp only[Option.some.injEq,reduceCtorEq] at hc;rename_i sx sy h1 h2;subst hc;refine wpIn_seq (wpIn_mono (ihx sx _ env own ks M w σ a h1 h sim hle) ?_);intro e a' w' hx;obtain⟨M',σ',st',s1,t1,q1,l1,k1⟩:=hx;cases e<;>first
    | (obtain⟨env',own',ks'⟩:=st'
       exact wpIn_mono (ihy sy K env' own' ks' M' w' σ' a' h2 k1 s1 l1) fun e a w h=>XP.tr t1 q1 h)
    | exact⟨M',σ',st',s1,t1,q1,l1,k1⟩
 | cond c x y ihx ihy =>
   intro sc K env own ks M w σ a hc h sim hle;simp only[J0X] at hc;split at hc<;>simp only[Option.some.injEq,reduceCtorEq] at hc;rename_i c' sx sy h1 h2 h3;subst hc;obtain⟨v,h,hv⟩:=J0b h1 h;have hd:=hv M w σ a (fun n _ v hv=>sim.env n v hv);split at h
   . rename_i b;have hb:a.eval c=.bool b:=by
      generalize a.eval c=q at hd;cases hd;rfl
     refine wpIn_cond hb ?_;cases b
     . exact ihy sy K env own ks M w σ a h3 h sim hle
     . exact ihx sx K env own ks M w σ a h2 h sim hle
   . obtain⟨b,hb⟩:∃b,a.eval c=.bool b:=by
      generalize a.eval c=q at hd;cases hd;exact⟨_,rfl⟩
     refine wpIn_cond hb ?_;cases b
     . exact ihy sy K env own ks M w σ a h3 h.2 sim hle
     . exact ihx sx K env own ks M w σ a h2 h.1 sim hle
   . exact h.elim
 | block id b ih =>
   intro sc K env own ks M w σ a hc h sim hle;simp only[J0X,Option.map_eq_some_iff] at hc;obtain⟨sb,hb,rfl⟩:=hc;refine wpIn_block (wpIn_mono (ih sb _ env own ks M w σ a hb h sim hle) ?_);intro e a' w' hx;obtain⟨M',σ',st',s1,t1,q1,l1,k1⟩:=hx;cases e with
   | exit id' =>
     simp only at k1;simp only[Exit.inBlock];split
     . rename_i he;subst he;simp only[Nat.beq_refl] at k1;exact⟨M',σ',st',s1,t1,q1,l1,k1⟩
     . rename_i he;have:Nat.beq id' id=false:=by
        rw[<- Bool.not_eq_true];intro hh;exact he (Nat.eq_of_beq_eq_true hh)
       simp only[this] at k1;exact⟨M',σ',st',s1,t1,q1,l1,k1⟩
   | _=>exact⟨M',σ',st',s1,t1,q1,l1,k1⟩
 | loop b ih =>
   intro sc K env own ks M w σ a hc h sim hle;simp only[J0X,Option.map_eq_some_iff] at hc;obtain⟨sb,hb,rfl⟩:=hc;exact h.out r σb hr b hb B M w σ a hbk hle sim
 | exit id =>
   intro sc K env own ks M w σ a hc h sim hle;simp[J0X] at hc;subst hc;exact wpIn_exit ⟨M,σ,_,sim,Tr0.refl _ _ _ _,Kd.refl _ _ _,hle,h⟩
 | ret =>
   intro sc K env own ks M w σ a hc h sim hle;simp[J0X] at hc;subst hc;exact wpIn_ret ⟨M,σ,_,sim,Tr0.refl _ _ _ _,Kd.refl _ _ _,hle,h⟩
 | rangeFunc g ps x y _ _ =>
   intro sc K env own ks M w σ a hc h sim hle;simp only[J0X] at hc;split at hc<;>first|(cases hc;done)|skip
   rename_i g' sa sb h1 h2 h3;split at hc<;>first|(cases hc;done)|skip
   cases hc;have:=h.out r σb hr g x y h1 h2 h3 B M w σ a hle sim;simpa using this
 | _=>intro sc K env own ks M w σ a hc;simp[J0X] at hc
structure J8U (N:Nat) (chg:List Nat) (st' st'':St):Prop where
 out:∀B M w σ a,Sim N B M w σ st' a->∃M' σ',Sim N B M' w σ' st'' a/\Tr0 M w σ st'.own M' w σ' st''.own/\∀k,k∉st''.ks->k∉chg->σ' k=σ k
structure Head (okeys:List Nat) (ks:List Nat) (st:St):Prop where
 ks:st.ks=ks
 own:∀k,k∈st.own.map (·.1)->k∈okeys
theorem J9L {P:Program} (hm:P.follows .mixedOrders=true) {N:Nat} {bk:BK} {b:SC} {env:Env} {own:Own} {ks:List Nat} {K:Out->Prop} (chg okeys ks0:List Nat)
 (hchg:∀k,k∈chg->k∈bk.ks/\(k∈own.map (·.1)\/k∈ks)) (hks0:∀k,k∈ks0->k∈ks) (hok:∀k,k∈okeys->k∈own.map (·.1)\/k∈ks)
 (I:Nat->St->Prop) (n:Nat) (st0:St) (hw0:J8U N chg ⟨env,own,ks⟩ st0) (h0:I n st0)
 (hh:∀n st,I n st->Head okeys ks0 st)
 (step:∀n env own ks,I n ⟨env,own,ks⟩->vc P N bk b env own ks fun o=>match o with
   | .normal st=>∃m st',m<n/\J8U N chg st st'/\I m st'
   | o=>K o):J60 P N bk b env own ks K:=by
 constructor;intro r σb hr c hc B M w σ a hbk hle0 sim b k cs hro hbf hroom;have hcn:∀q,q∈chg->σ q=none->q∈ks:=by
  intro q hq h1;rcases (hchg q hq).2 with h|h
  . obtain⟨⟨q',b'⟩,hm',e⟩:=List.mem_map.1 h;simp only at e;subst e;obtain⟨x,hx⟩:=sim.heap.own.key hm';rw[h1] at hx;cases hx
  . exact h
 have key:∀(n:Nat) (st:St) (M₁:Nat->Prop) (w₁:World) (σ₁:Sg) (a₁:Act),I n st->Sim N B M₁ w₁ σ₁ st a₁->Kd σ own ks σ₁ st.own ks0->σb.le σ₁ ->
  ∃e a' w',(∃M' σ' st',Sim N B M' w' σ' st' a'/\Tr0 M₁ w₁ σ₁ st.own M' w' σ' st'.own/\Kd σ own ks σ' st'.own st'.ks/\σb.le σ'/\(match e with
   | .normal=>K (.normal st')
   | .exit id=>K (.exit id st')
   | .ret=>K (.ret st')
   | _=>False))/\ArrivesIn (Machine.fenced P (FR r)) P (lone (b.atR a₁ (.code c::.inLoop c::k)) cs w₁) b k cs e a' w':=by
  intro n
  induction n using Nat.strongRecOn with
  | _ n ih =>
    intro st M₁ w₁ σ₁ a₁ hI hs hkd hle;obtain⟨env₁,own₁,ks₁⟩:=st;have hd:=hh n _ hI;have hks:ks₁=ks0:=hd.ks;subst hks;have hb:=J2E hm hbk r hr c _ _ env₁ own₁ ks₁ M₁ w₁ σ₁ a₁ hc (step n env₁ own₁ ks₁ hI) hs hle;obtain⟨e,a₂,w₂,hq,harr⟩:=hb b (.inLoop c::k) cs hro hbf hroom;obtain⟨M₂,σ₂,st₂,s2,t2,q2,l2,k2⟩:=hq;cases e with
    | normal =>
      obtain⟨m,st₃,hlt,hweak,hI3⟩:=k2;obtain⟨M₃,σ₃,s3,t3,z3⟩:=hweak.out B M₂ w₂ σ₂ a₂ s2;have hd3:=hh m _ hI3;have hkd3:Kd σ own ks σ₃ st₃.own ks₁:=by
       refine⟨hks0,fun q h1 h2=>?_,fun q hq=>hok q (hd3.own q hq)⟩;rw[z3 q (by rw[hd3.ks];exact fun h=>h2 (hks0 q h)) (fun hc=>h2 (hcn q hc h1))];exact(hkd.trans q2).2.1 q h1 h2
      have hle3:σb.le σ₃:=by
       intro q x hq;rw[z3 q ?_ ?_]
       . exact l2 q x hq
       . rw[hd3.ks];intro hin;have:=hle0 q x hq;rw[sim.heap.fresh q (hks0 q hin)] at this;cases this
       . intro hin;rw[hbk q (hchg q hin).1] at hq;cases hq
      obtain⟨e',a',w',⟨M',σ',st',r1,r2,r3,r3',r4⟩,harr'⟩:=ih m hlt st₃ M₃ w₂ σ₃ a₂ hI3 s3 hkd3 hle3;exact⟨e',a',w',⟨M',σ',st',r1,(t2.trans t3).trans r2,r3,r3',r4⟩,.of_steps (StepsIn.trans harr (.one (fenced_calm hbf hroom rfl) stepR_inLoop)) harr'⟩
    | exit id=>exact⟨_,a₂,w₂,⟨M₂,σ₂,st₂,s2,t2,hkd.trans q2,l2,k2⟩,.pass (x:=.inLoop c) rfl (fun _ _=>.inl (by simp)) harr⟩
    | goto l=>exact k2.elim
    | ret=>exact⟨_,a₂,w₂,⟨M₂,σ₂,st₂,s2,t2,hkd.trans q2,l2,k2⟩,.pass (x:=.inLoop c) rfl (fun _ _=>.inl (by simp)) harr⟩
    | panic ch=>exact k2.elim
    | outgrown=>exact k2.elim
 obtain⟨M₀,σ₀,s0,t0,z0⟩:=hw0.out B M w σ a sim;have hd0:=hh n _ h0;have hkd0:Kd σ own ks σ₀ st0.own ks0:=by
  refine⟨hks0,fun q h1 h2=>?_,fun q hq=>hok q (hd0.own q hq)⟩;rw[z0 q (by rw[hd0.ks];exact fun h=>h2 (hks0 q h)) (fun hc=>h2 (hcn q hc h1))];exact h1
 have hle00:σb.le σ₀:=by
  intro q x hq;rw[z0 q ?_ ?_]
  . exact hle0 q x hq
  . rw[hd0.ks];intro hin;have:=hle0 q x hq;rw[sim.heap.fresh q (hks0 q hin)] at this;cases this
  . intro hin;rw[hbk q (hchg q hin).1] at hq;cases hq
 obtain⟨e,a',w',⟨M',σ',st',r1,r2,r3,r3',r4⟩,harr⟩:=key n st0 M₀ w σ₀ a h0 s0 hkd0 hle00;exact⟨e,a',w',⟨M',σ',st',r1,t0.trans r2,r3,r3',r4⟩,.of_steps (.one (fenced_calm hbf hroom rfl) stepR_loop) harr⟩
def J5W:Nat->List V->Env
 | _,[]=>[]
 | i,v::r=>(i,v)::J5W (i+1) r
theorem J3x:∀(vs:List V) (i t:Nat) (v:V),look (J5W i vs) t=some v->i<=t/\vs[t-i]?=some v
 | [],i,t,v,h=>by simp[J5W,look] at h
 | x::r,i,t,v,h=>by
   unfold J5W look at h;split at h
   . rename_i hb;have:=Nat.eq_of_beq_eq_true hb;subst this;simp at h;subst h;simp
   . rename_i hb;have hne:i≠t:=fun e=>by subst e;simp at hb
     obtain⟨h1,h2⟩:=J3x r (i+1) t v h;refine⟨by omega,?_⟩;rw[show t-i=(t-(i+1))+1 by omega];simpa using h2
inductive RV where
 | tmp (t:Nat)
 | cell (a:Nat) (sz:Option Nat)
def Q0s (P:Program):List ResultVar->Option (List RV)
 | []=>some []
 | .tmp t::r=>(Q0s P r).map (.tmp t::·)
 | .cell a T::r=>match J2o P T,Q0s P r with
   | some z,some l=>some (.cell a z::l)
   | _,_=>none
def J8E (env:Env) (own:Own):List RV->(List V->Prop)->Prop
 | [],K=>K []
 | .tmp t::r,K=>match look env t with
   | some v=>J8E env own r fun vs=>K (v::vs)
   | none=>False
 | .cell a z::r,K=>match look env a with
   | some p=>J37 own z p fun v=>J8E env own r fun vs=>K (v::vs)
   | none=>False
def Q2p (vs:List V) (K:V->Prop):Prop :=
 match vs with
 | [v]=>K v
 | vs=>K (.tup vs)
theorem J5M {P:Program} {T:TypeId} {q r:Value} {w:World} (h:(Instr.loadAt T q).run P w=.ok r w):(do loadVar T (<- asAddr q):Sem Value).run P w=.ok r w:=by
 cases q with
 | pointer a =>
   cases a with
   | none=>cases h
   | some a=>exact h
 | _=>cases h
def J9o (tmps:Array Value):ResultVar->Sem Value
 | .tmp t=>pure (tmps.getD t undef)
 | .cell a t=>do loadVar t (<- asAddr (tmps.getD a undef))
theorem J45 (fn:Func) (tmps:Array Value):results fn tmps=(do let vs <- fn.results.mapM (J9o tmps);pure (if h:vs.size=1 then vs[0] else .tuple vs)):=by
 have:(fun r:ResultVar=>match r with | .tmp t=>(pure (tmps.getD t undef):Sem Value) | .cell a t=>do loadVar t (<- asAddr (tmps.getD a undef)))=J9o tmps:=by
  funext r;cases r<;>rfl
 unfold results;rw[<- this];rfl
theorem J2G {P:Program} {env:Env} {own:Own}:∀(rs:List ResultVar) (l:List RV) (K:List V->Prop),Q0s P rs=some l->J8E env own l K ->
 ∃vs,K vs/\∀M w σ (a:Act),J2n M w σ env a->J1v M w σ own ->
  ∃us:List Value,vs.length=us.length/\us.length=rs.length/\(∀(i:Nat) (v:V) (u:Value),vs[i]?=some v->us[i]?=some u->Den M w σ v u) /\
   (rs.mapM (J9o a.tmps)).run P w=.ok us w
 | [],l,K,hc,h=>by
   simp[Q0s] at hc;subst hc;exact⟨[],h,fun M w σ a _ _=>⟨[],rfl,rfl,by simp,rfl⟩⟩
 | .tmp t::rs,l,K,hc,h=>by
   simp only[Q0s,Option.map_eq_some_iff] at hc;obtain⟨l',h1,rfl⟩:=hc;simp only[J8E] at h;split at h
   . rename_i v hv;obtain⟨vs,hK,hvs⟩:=J2G rs l' _ h1 h;refine⟨_,hK,fun M w σ a he ho=>?_⟩;obtain⟨us,u1,u1',u2,u3⟩:=hvs M w σ a he ho;refine⟨a.tmps.getD t undef::us,by simp[u1],by simp[u1'],?_,?_⟩
     . intro i v' u' hv' hu';cases i with
       | zero=>simp at hv' hu';subst hv' hu';simpa using he t v hv
       | succ i=>exact u2 i v' u' (by simpa using hv') (by simpa using hu')
     . rw[List.mapM_cons];simp only[Sem.run_bind,J9o,Sem.run_pure,Result.andThen_ok,u3]
   . exact h.elim
 | .cell x T::rs,l,K,hc,h=>by
   simp only[Q0s] at hc;split at hc<;>simp only[Option.some.injEq,reduceCtorEq] at hc;rename_i z l' hz h1;subst hc;simp only[J8E] at h;split at h
   . rename_i p hp;obtain⟨v,h,hf⟩:=J2q hz h;obtain⟨vs,hK,hvs⟩:=J2G rs l' _ h1 h;refine⟨_,hK,fun M w σ a he ho=>?_⟩;obtain⟨us,u1,u1',u2,u3⟩:=hvs M w σ a he ho;have hd:=he x p hp;obtain⟨r,r1,r2⟩:=hf M w σ _ hd (fun k b _ hk=>ho.blk k b (J0c hk));have hr:(J9o a.tmps (.cell x T)).run P w=.ok r w:=J5M r1;refine⟨r::us,by simp[u1],by simp[u1'],?_,?_⟩
     . intro i v' u' hv' hu';cases i with
       | zero=>simp at hv' hu';subst hv' hu';exact r2
       | succ i=>exact u2 i v' u' (by simpa using hv') (by simpa using hu')
     . rw[List.mapM_cons];simp only[Sem.run_bind,hr,Sem.run_pure,Result.andThen_ok,u3]
   . exact h.elim
theorem J23 {P:Program} {fn:Func} {tmps:Array Value} {R:Ending->World->Prop} {B:Nat} {σ:Sg} {own:Own} {ks:List Nat} {M:Nat->Prop}:∀(ds:List Deferred) (w:World),Q0E B M w σ own ds->J0G M w σ own ks ->
 (∀w',J0G M w' σ own ks->Ext M w M w'->w'.os=w.os->J0R w' w->w'.output=w.output->w'.heap.size=w.heap.size->(∀b,b<B->w'.heap[b]?=w.heap[b]?)->(∀b,J0y w σ own b->w'.heap[b]?=w.heap[b]?)->∃v,(results fn tmps).run P w'=.ok v w'/\R (.returned v) w') ->
 LeavesInM (FR none) 0 P fn tmps R ds .returning w
 | [],w,_,hh,h=>h w hh ⟨fun _ _ h=>⟨h,rfl⟩,Nat.le_refl _⟩ rfl (.refl _) rfl rfl (fun _ _=>rfl) (fun _ _=>rfl)
 | d::ds,w,hg,hh,h=>by
   obtain⟨D,rfl,h1,h2,h3,h4⟩:=hg.mark d (by simp);refine⟨by simp,.inl ⟨D,_,rfl,run_takeDeferred h2,?_⟩⟩;have hnd:=List.nodup_cons.1 hg.nodup;have hE:Ext M w M (w.putObj D (.deferred none)):=⟨fun b hb hM=>⟨hM,World.putObj_heap_other fun e=>hM (e▸h4)⟩,by simp⟩;have hsame:∀b,J0y w σ own b->(w.putObj D (.deferred none)).heap[b]?=w.heap[b]?:=fun b hb=>World.putObj_heap_other fun e=>h3 (e▸hb);have keep:∀k b n,(k,b)∈own->(J0i (w.putObj D (.deferred none)) σ k b n↔J0i w σ k b n):=fun k b n hm=>J0J (Sg.le_refl _) (hh.own.key hm) fun ob hob=>hsame ob ⟨k,b,hm,.inl hob⟩;have hown:∀n,J0y (w.putObj D (.deferred none)) σ own n↔J0y w σ own n:=fun n=>J2i hh.own (Sg.le_refl _) hsame;have hh':J0G M (w.putObj D (.deferred none)) σ own ks :=
    ⟨⟨fun k b hm=>(hh.own.blk k b hm).mono hE (Sg.le_refl _) fun n hn=>⟨(J0q hh.own ⟨k,b,hm,hn⟩).1,World.putObj_heap_other fun e=>h3 (e▸⟨k,b,hm,hn⟩)⟩,hh.own.nodup,fun k b k' b' n m1 m2 hne e1 e2=>hh.own.apart k b k' b' n m1 m2 hne ((keep k b n m1).1 e1) ((keep k' b' n m2).1 e2)⟩,hh.fresh,hh.knodup⟩
   refine J23 ds _ ⟨by simpa using hg.base,fun d' hd'=>?_,hnd.2⟩ hh' fun w' a1 a2 a3 a4 a5 a6 a7 a8=>?_
   . obtain⟨D',e,q1,q2,q3,q4⟩:=hg.mark d' (by simp[hd']);refine⟨D',e,q1,?_,fun x=>q3 ((hown D').1 x),q4⟩;rw[World.putObj_heap_other fun e'=>hnd.1 (by rw[e,e'] at hd';exact hd')];exact q2
   . refine h w' a1 ⟨fun b hb hM=>?_,by have:=a2.size;simp at this;exact this⟩ a3 ⟨a4.eq,a4.le⟩ a5 (by simpa using a6) (fun b hb=>?_) (fun b hb=>(a8 b ((hown b).2 hb)).trans (hsame b hb))
     . obtain⟨x1,x2⟩:=a2.keep b (by simpa using hb) hM;exact⟨x1,x2.trans (hE.keep b hb hM).2⟩
     . rw[a7 b hb];exact World.putObj_heap_other (by omega)
theorem Q0r {P:Program} (hm:P.follows .mixedOrders=true) {f:FuncId} {fn:Func} {c:Code} {sc:SC} {rs:List RV} (hf:P.funcs[f]?=some fn) (hb:fn.body=some c) (hc:J0X P fn.ntmps c=some sc)
 (hr:Q0s P fn.results.toList=some rs) {args:List V} {own:Own} {ks:List Nat} {K:V->Own->List Nat->Prop} (hl:args.length<=fn.ntmps)
 (h:vc P fn.ntmps ⟨ks,none⟩ sc (J5W 0 args) own ks fun o=>match o with
   | .normal ⟨env,own,ks⟩=>J8E env own rs fun vs=>Q2p vs fun v=>K v own ks
   | .ret ⟨env,own,ks⟩=>J8E env own rs fun vs=>Q2p vs fun v=>K v own ks
   | .exit _ _=>False):J0H P f args own ks K:=by
 constructor;intro M w σ us hlen hd hh;refine callsIn_wide.1 (callsIn_of_wp_marks (F:=Fence.wide) (n:=0) hf hb trivial ?_);have sim:Sim fn.ntmps w.heap.size M w σ ⟨J5W 0 args,own,ks⟩ { tmps:=us.toArray++Array.replicate (fn.ntmps-us.toArray.size) undef,defers:=[] }:=by
  refine⟨?_,hh,by simp;omega,.nil (Nat.le_refl _)⟩;intro t v hv;obtain⟨_,h2⟩:=J3x args 0 t v hv;simp only[Nat.sub_zero] at h2;have hlt:t<us.length:=by rw[<- hlen];exact(List.getElem?_eq_some_iff.1 h2).1
  have hg:(us.toArray++Array.replicate (fn.ntmps-us.toArray.size) undef).getD t undef=us[t]:=by
   rw[Array.getD_eq_getD_getElem?,Array.getElem?_append_left (by simpa using hlt)];simp[hlt]
  rw[hg];exact hd t v _ h2 (by simp[hlt])
 refine wpIn_mono (J2E hm (bk:=⟨ks,none⟩) (σb:=σ) hh.fresh none (.inl ⟨rfl,rfl⟩) c sc _ _ own ks M w σ _ hc h sim (Sg.le_refl _)) ?_;intro e a' w' hx;obtain⟨M',σ',⟨env',own',ks'⟩,s1,t1,q1,l1,k1⟩:=hx;have fin:(J8E env' own' rs fun vs=>Q2p vs fun v=>K v own' ks')->LeavesInM (FR none) 0 P fn a'.tmps (fun e w'=>∃M' σ' v' own' ks' u,e=Ending.returned u/\Den M' w' σ' v' u/\J0G M' w' σ' own' ks'/\Tr M w σ own M' w' σ' own'/\Kd σ own ks σ' own' ks'/\K v' own' ks') a'.defers .returning w':=by
  intro hk;refine J23 a'.defers w' s1.defers s1.heap fun w'' hh'' hE os tape output hsz hlow hkeep=>?_;have henv:J2n M' w'' σ' env' a':=s1.env.mono hE (Sg.le_refl _);obtain⟨vs,hK,hvs⟩:=J2G _ _ _ hr hk;obtain⟨us',u1,u1',u2,u3⟩:=hvs M' w'' σ' a' henv hh''.own;have hres:(results fn a'.tmps).run P w''=.ok (if h:us'.toArray.size=1 then us'.toArray[0] else .tuple us'.toArray) w'':=by
   rw[J45,Array.mapM_eq_mapM_toList,map_eq_pure_bind];simp only[Sem.run_bind,u3,Result.andThen_ok,Sem.run_pure]
  have tr:Tr M w σ own M' w'' σ' own':=⟨⟨os.trans t1.adv.os,tape.trans t1.adv.tape,output.trans t1.adv.output,by have:=t1.adv.size;omega,fun b hb hn=>(hlow b hb).trans (t1.adv.same b hb hn),fun b hb hn=>t1.adv.muts b hb hn⟩,fun b hb=>t1.new b ((J2i s1.heap.own (Sg.le_refl _) hkeep).1 hb),l1⟩;refine⟨_,hres,M',σ',?_⟩
  match vs,us',u1,u2,hK with
  | [v],[u],_,u2,hK=>exact⟨v,own',ks',u,by simp,u2 0 v u (by simp) (by simp),hh'',tr,q1,hK⟩
  | [],[],_,u2,hK=>exact⟨.tup [],own',ks',.tuple #[],by simp,.tup _ [] [] rfl (by simp),hh'',tr,q1,hK⟩
  | v1::v2::vr,u1::u2'::ur,hl,u2,hK=>exact⟨.tup (v1::v2::vr),own',ks',.tuple (u1::u2'::ur).toArray,by simp,.tup _ _ _ hl u2,hh'',tr,q1,hK⟩
 cases e with
 | normal=>exact fin k1
 | ret=>exact fin k1
 | _=>exact k1.elim
end Go.Eng
namespace Go.Eng
def KS:List Nat:=[0,1,2,3,4,5,6,7,8,9,10,11,12,13,14,15,16,17,18,19,20,21,22,23,24,25,26,27,28,29]
theorem J58:KS.Nodup:=by decide
def V.flat1:V->Bool
 | .bool _ | .int _ _ | .str _ | .nilptr | .nilslice | .nilmap | .nilfunc | .niliface | .raw _=>true
 | _=>false
def V.flat:V->Bool
 | .agg cs=>J27 V.flat1 cs
 | .tup cs=>J27 V.flat1 cs
 | v=>v.flat1
theorem Den.flat1 {M M':Nat->Prop} {w w':World} {σ σ':Sg} {v:V} {u:Value} (h:Den M w σ v u) (hv:v.flat1=true):Den M' w' σ' v u:=by
 cases h<;>first|(simp[V.flat1] at hv;done)|constructor
theorem Den.flat {M M':Nat->Prop} {w w':World} {σ σ':Sg} {v:V} {u:Value} (h:Den M w σ v u) (hv:v.flat=true):Den M' w' σ' v u:=by
 cases v with
 | agg cs=>cases h with|agg _ _ us hl hd=>exact .agg _ _ _ hl fun i v u h1 h2=>(hd i v u h1 h2).flat1 (J0v hv v (List.mem_of_getElem? h1))
 | tup cs=>cases h with|tup _ _ us hl hd=>exact .tup _ _ _ hl fun i v u h1 h2=>(hd i v u h1 h2).flat1 (J0v hv v (List.mem_of_getElem? h1))
 | _=>exact h.flat1 hv
theorem J1V {M:Nat->Prop} {w:World} (ks:List Nat) (hk:ks.Nodup):J0G M w Sg.none [] ks :=
 ⟨⟨fun _ _ h=>by simp at h,by simp,fun _ _ _ _ _ h=>by simp at h⟩,fun _ _=>rfl,hk⟩
theorem J03 {w:World} {σ:Sg} {b:Nat}:¬ J0y w σ [] b:=fun⟨_,_,h,_⟩=>by simp at h
theorem J3z {M M₁ M' M'':Nat->Prop} {w w':World} {σ σ':Sg} {own own':Own} {ks:List Nat} (h:J0G M w σ own ks) (tr:Tr M₁ w Sg.none [] M' w' σ' own')
 (h2:∀b,b<w.heap.size->(M'' b↔M b)):J0G M'' w' σ own ks/\Tr M w σ own M'' w' σ own:=by
 have hE:Ext M w M'' w':=⟨fun b hb hM=>⟨fun hm=>hM ((h2 b hb).1 hm),tr.adv.same b hb J03⟩,tr.adv.size⟩;have same:∀b,J0y w σ own b->w'.heap[b]?=w.heap[b]?:=fun b hb=>tr.adv.same b (J0q h.own hb).2 J03;have keep:∀k b n,(k,b)∈own->(J0i w' σ k b n↔J0i w σ k b n):=fun k b n hm=>J0J (Sg.le_refl _) (h.own.key hm) fun ob hob=>same ob ⟨k,b,hm,.inl hob⟩;refine⟨⟨⟨fun k b hm=>?_,h.own.nodup,fun k b k' b' n m1 m2 hne e1 e2=>h.own.apart k b k' b' n m1 m2 hne ((keep k b n m1).1 e1) ((keep k' b' n m2).1 e2)⟩,h.fresh,h.knodup⟩,⟨⟨tr.adv.os,tr.adv.tape,tr.adv.output,tr.adv.size,fun b hb _=>tr.adv.same b hb J03,fun b hb _=>h2 b hb⟩,fun b hb=>.inl ((J2i h.own (Sg.le_refl _) same).1 hb),Sg.le_refl _⟩⟩;refine(h.own.blk k b hm).mono hE (Sg.le_refl _) fun n hn=>?_;obtain⟨m1,m2⟩:=J0q h.own ⟨k,b,hm,hn⟩;exact⟨(h2 n m2).2 m1,tr.adv.same n m2 J03⟩
end Go.Eng
namespace Go.Eng
theorem J7E {n:Int} (h1:-9223372036854775808<=n) (h2:n<=9223372036854775807):IntKind.i64.wrap n=n:=by
 simp only[IntKind.wrap,IntKind.bits,IntKind.signed,Bool.true_and]
 first|(split<;>omega)|(simp;omega)
theorem Ar.i64 {n:Int} {K:Int->Prop} (h1:-9223372036854775808<=n) (h2:n<=9223372036854775807) (hK:K n):Ar .i64 n K:=⟨n,(J7E h1 h2).symm,hK⟩
theorem Ix.nat {m n:Nat} {K:Nat->Prop} (h:m<n) (hK:K m):Ix (m:Int) n K:=⟨m,rfl,h,hK⟩
theorem Ix.int {i:Int} {n:Nat} {K:Nat->Prop} (h0:0<=i) (h:i<n) (hK:K i.toNat):Ix i n K:=⟨i.toNat,by omega,by omega,hK⟩
end Go.Eng
