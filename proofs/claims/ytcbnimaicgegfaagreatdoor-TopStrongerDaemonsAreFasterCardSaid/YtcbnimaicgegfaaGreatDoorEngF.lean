import Derived.Test.YtcbnimaicgegfaaGreatDoorEngB
set_option linter.all false
namespace Go.Eng
def Sg.set (σ:Sg) (k:Nat) (x:Option Nat×Nat×Nat):Sg:=fun a=>if a=k then some x else σ a
theorem Sg.set_same (σ:Sg) (k:Nat) (x:Option Nat×Nat×Nat):σ.set k x k=some x:=by simp[Sg.set]
theorem Sg.set_other (σ:Sg) (k:Nat) (x:Option Nat×Nat×Nat) {a:Nat} (h:a≠k):σ.set k x a=σ a:=by simp[Sg.set,h]
theorem Sg.le_set {σ:Sg} {k:Nat} (x:Option Nat×Nat×Nat) (h:σ k=Option.none):σ.le (σ.set k x):=by
 intro b y a;have:b≠k:=fun e=>by subst e;rw[h] at a;cases a
 rw[Sg.set_other _ _ _ this];exact a
theorem J42 {σ:Sg} {k:Nat} (x:Option Nat×Nat×Nat) (ks:List Nat) {own own':Own} (h:∀q,q∈own'.map (·.1)->q∈own.map (·.1)\/q=k):Kd σ own (k::ks) (σ.set k x) own' ks :=
 ⟨fun q a=>Xz _ a,fun q c b=>by rw[Sg.set_other _ _ _ (fun e=>b (by simp[e]))];exact c,fun q a=>by
   rcases h q a with e|e
   . exact .inl e
   . exact .inr (by simp[e])⟩
theorem J3v {own:Own} {k:Nat} {b:Blk}:∀q,q∈((k,b)::own).map (·.1)->q∈own.map (·.1)\/q=k:=by
 intro q a;simp only[Qv,Qj] at a;rcases a with e|e
 . exact .inr e
 . exact .inl e
theorem J0g {α:Type}:∀{l:List (Nat×α)} {k:Nat} {v:α},look l k=some v->(k,v)∈l
 | [],k,v,h=>by simp[look] at h
 | (c,b)::r,k,v,h=>by
   unfold look at h;split at h
   . rename_i a;have:=Qc a;subst this;simp at h;subst h;simp
   . exact Xz _ (J0g h)
theorem lt_of_getElem? {w:World} {b:Nat} {o:Obj} (h:w.heap[b]?=some o):b<w.heap.size:=by
 rcases Zs b w.heap.size with a|a
 . exact a
 . simp[Jy a] at h
theorem J1t.mono {M K:Nat->Prop} {w w':World} {σ F:Sg} (D:Ext M w K w') (d:σ.le F) {k:Nat} {b:Blk} (h:J1t M w σ k b)
 (G:∀n,J0n w σ k b n->K n/\w'.heap[n]?=w.heap[n]?):J1t K w' F k b:=by
 have hk:∀n,J0u σ k=some n->K n/\w'.heap[n]?=w.heap[n]?:=fun n I=>G n (.inl I);cases b with
 | cells cs =>
   obtain⟨b,p,ty,us,m,B,o,y,E⟩:=h;obtain⟨A,z⟩:=hk b (by simp[J0u,m]);exact⟨b,p,ty,us,d _ _ m,A,z.trans o,y,fun i v u Q hu=>(E i v u Q hu).mono D d⟩
 | vec n s f =>
   obtain⟨U,base,p,m,B,o⟩:=h;refine⟨U,base,p,d _ _ m,B,?_⟩;rcases o with o | ⟨b,ty,us,e,hM,y,E,H⟩
   . exact .inl o
   . subst e;obtain⟨A,z⟩:=hk b (by simp[J0u,m]);exact .inr ⟨b,ty,us,rfl,A,z.trans y,E,fun i j J R=>let ⟨u,a1,a0,a2⟩:=H i j J R;⟨u,a1,a0,a2.mono D (Sg.le_refl _)⟩⟩
 | loop st pe env N ps C =>
   obtain⟨l,p,r,m,B,o,y,E,H,S,h9,T⟩:=h;obtain⟨A,z⟩:=hk l (by simp[J0u,m]);exact⟨l,p,r,d _ _ m,A,z.trans o,y,E,H,S,h9,fun t v Q=>(T t v Q).mono D d⟩
 | map ik es =>
   obtain⟨b,p,arr,m,B,o,y⟩:=h;obtain⟨A,z⟩:=hk b (by simp[J0u,m]);exact⟨b,p,arr,d _ _ m,A,z.trans o,y.mono D⟩
 | glob g n f =>
   obtain⟨⟨base,p,m⟩,B⟩:=h;exact⟨⟨base,p,d _ _ m⟩,B.mono D (Sg.le_refl _)⟩
 | iter km n J11 =>
   obtain⟨r,p,b,base,L,m,B,o,y⟩:=h;obtain⟨A,z⟩:=hk r (by simp[J0u,m]);exact⟨r,p,b,base,L,d _ _ m,A,d _ _ o,z.trans y⟩
 | fam n s len f op =>
   obtain⟨U,base,p,m,B,o⟩:=h;refine⟨U,base,p,d _ _ m,B,?_⟩;rcases o with o | ⟨b,ty,us,e,hM,y,E,H,S,h8⟩
   . exact .inl o
   . subst e;obtain⟨A,z⟩:=hk b (by simp[J0u,m]);refine .inr ⟨b,ty,us,rfl,A,z.trans y,E,fun i J=>?_,S,h8⟩;obtain⟨u,W,a,c,V,u3,Z,Y⟩:=H i J;refine⟨u,W,a,c,V,u3,fun q hq=>(Z q hq).mono D d,fun I X=>?_⟩;obtain⟨r,off,P,O,q1,q2,q3,q4,q5⟩:=Y I X;subst q1;obtain⟨n1,n2⟩:=G r (.inr ⟨b,base,p,us,ty,i,m,y,J,I,off,_,c,by rw[W,V],X⟩);exact⟨r,off,P,O,rfl,n1,n2.trans q3,q4,fun j t R ht=>let ⟨x,x1,x2,x3⟩:=q5 j t R ht;⟨x,x1,x2,x3.mono D (Sg.le_refl _)⟩⟩
theorem J1t.some {M:Nat->Prop} {w:World} {σ:Sg} {k:Nat} {b:Blk} (h:J1t M w σ k b):∃x,σ k=some x:=by
 cases b with
 | cells cs=>obtain⟨b,c,ty,us,a,_⟩:=h;exact⟨_,a⟩
 | vec n s f=>obtain⟨e,base,c,a,_⟩:=h;exact⟨_,a⟩
 | loop st j env N i C=>obtain⟨l,c,r,a,_⟩:=h;exact⟨_,a⟩
 | map ik o=>obtain⟨b,c,arr,a,_⟩:=h;exact⟨_,a⟩
 | iter m n J11=>obtain⟨r,c,b,base,d,a,_⟩:=h;exact⟨_,a⟩
 | glob g n f=>obtain⟨⟨base,c,a⟩,_⟩:=h;exact⟨_,a⟩
 | fam n s len f op=>obtain⟨e,base,c,a,_⟩:=h;exact⟨_,a⟩
theorem J2N.key {M:Nat->Prop} {w:World} {σ:Sg} {own:Own} (h:J2N M w σ own) {k:Nat} {b:Blk} (a:(k,b)∈own):∃x,σ k=some x:=(h.blk k b a).some
theorem X3R {σ a:Sg} (h:σ.le a) {k:Nat} {x:Option Nat×Nat×Nat} (hk:σ k=some x):J0u a k=J0u σ k:=by
 simp[J0u,hk,h k x hk]
def Blk.isFam:Blk->Bool
 | .fam ..=>true
 | _=>false
theorem X12 {w:World} {σ:Sg} {k:Nat} {b:Blk} {n:Nat} (h:b.isFam=false):¬ J6d w σ k b n:=by
 cases b<;>first|exact fun h=>h|(simp[Blk.isFam] at h)
theorem J3m {w:World} {σ:Sg} {k:Nat} {b:Blk} {n:Nat} (h:b.isFam=false):J0n w σ k b n↔J0u σ k=some n:=⟨fun x=>x.resolve_right (X12 h),.inl⟩
theorem J0U {w w':World} {σ e:Sg} {k:Nat} {b:Blk} {n:Nat} (c:σ.le e) (hk:∃x,σ k=some x) (o:∀a,J0u σ k=some a->w'.heap[a]?=w.heap[a]?):J0n w' e k b n↔J0n w σ k b n:=by
 obtain⟨x,g⟩:=hk;have p:=X3R c g;have j:=c _ _ g;unfold J0n;rw[p];refine or_congr Jb ?_;cases b<;>try exact Jb
 rename_i m s len f op;constructor
 . rintro⟨a,base,h,us,ty,i,d,e2,l⟩;rw[j] at d;exact⟨a,base,h,us,ty,i,g.trans d,by rw[<- o a (by rw[J0u,g];cases d;rfl)];exact e2,l⟩
 . rintro⟨a,base,h,us,ty,i,d,e2,l⟩;exact⟨a,base,h,us,ty,i,c _ _ d,by rw[o a (by rw[J0u,d])];exact e2,l⟩
theorem X2N {w:World} {σ a:Sg} {k c:Nat} {b:Blk} {n:Nat} (h:a c=σ k):J0n w a c b n↔J0n w σ k b n:=by
 unfold J0n J0u;rw[h];refine or_congr Jb ?_;cases b<;>try exact Jb
 simp only[J6d,h]
theorem J4N {w:World} {σ:Sg} {k:Nat} {b:Blk} {own:Own} {n:Nat}:J0x w σ ((k,b)::own) n↔J0n w σ k b n\/J0x w σ own n:=by
 constructor
 . rintro⟨a,d,c,hk⟩;rcases Qj.1 c with h|h
   . cases h;exact .inl hk
   . exact .inr ⟨a,d,h,hk⟩
 . rintro (h | ⟨a,d,c,hk⟩)
   . exact⟨k,b,by simp,h⟩
   . exact⟨a,d,by simp[c],hk⟩
theorem J2S {M:Nat->Prop} {w w':World} {σ c:Sg} {own:Own} (f:J2N M w σ own) (h:σ.le c) (g:∀b,J0x w σ own b->w'.heap[b]?=w.heap[b]?) {n:Nat}:J0x w' c own n↔J0x w σ own n:=by
 have key:∀k b,(k,b)∈own->(J0n w' c k b n↔J0n w σ k b n):=fun k b a=>J0U h (f.key a) fun e d=>g e ⟨k,b,a,.inl d⟩;constructor
 . rintro⟨k,b,a,hk⟩;exact⟨k,b,a,(key k b a).1 hk⟩
 . rintro⟨k,b,a,hk⟩;exact⟨k,b,a,(key k b a).2 hk⟩
theorem J3l {M:Nat->Prop} {w w':World} {σ:Sg} {own:Own} {k:Nat} {ks:List Nat} (h:J0T M w σ own (k::ks)) (x:Option Nat×Nat×Nat) (b:Blk)
 (D:∀n,x.1=some n->n=w.heap.size)
 (os:w'.os=w.os) (p:J0S w' w) (output:w'.output=w.output) (size:w.heap.size<=w'.heap.size)
 (f:∀n,n<w.heap.size->w'.heap[n]?=w.heap[n]?)
 (z:∀i,(∀n,i n↔(M n/\n<w.heap.size)\/n=w.heap.size)->Ext M w i w'->J1t i w' (σ.set k x) k b) (E:b.isFam=false:=by rfl) :
 ∃i,J0T i w' (σ.set k x) ((k,b)::own) ks/\Tr M w σ own i w' (σ.set k x) ((k,b)::own):=by
 have q:σ k=none:=h.fresh k (by simp);have o:σ.le (σ.set k x):=Sg.le_set x q;let i:Nat->Prop:=fun n=>(M n/\n<w.heap.size)\/n=w.heap.size;have F:Ext M w i w':=⟨fun b z J=>⟨by rintro (⟨h,_⟩|h);exact J h;omega,f b z⟩,size⟩;have u:∀a c,(a,c)∈own->a≠k:=fun a c d e=>by
  obtain⟨y,C⟩:=h.own.key d;subst e;rw[q] at C;cases C
 have g:∀a c n,(a,c)∈own->(J0n w' (σ.set k x) a c n↔J0n w σ a c n):=fun a c n d =>
  J0U o (h.own.key d) fun H t=>f H (J0p h.own ⟨a,c,d,.inl t⟩).2
 refine⟨i,⟨⟨?_,?_,?_⟩,?_,?_⟩,⟨⟨os,p,output,size,fun n m _=>f n m,?_⟩,?_,o⟩⟩
 . intro a c d;rcases Qj.1 d with e|d
   . cases e;exact z i (fun _=>Jb) F
   . refine(h.own.blk a c d).mono F o ?_;intro n m;obtain⟨I,B⟩:=J0p h.own ⟨a,c,d,m⟩;exact⟨.inl ⟨I,B⟩,f n B⟩
 . simp only[Qv,Q2];refine⟨?_,h.own.nodup⟩;intro d;obtain⟨⟨a,c⟩,v,e⟩:=Qi.1 d;exact u a c v e
 . intro N P L O n K G j A e2;have old:∀a c,(a,c)∈own->J0n w' (σ.set k x) a c n->n<w.heap.size:=fun a c d e =>
    (J0p h.own ⟨a,c,d,(g a c n d).1 e⟩).2
   have new:J0n w' (σ.set k x) k b n->n=w.heap.size:=fun e=>by
    rw[J3m E] at e;simp only[J0u,Sg.set_same] at e;exact D n e
   rcases Qj.1 K with s|s
   . cases s;rcases Qj.1 G with l|l
     . cases l;exact j rfl
     . have:=old _ _ l e2;have:=new A;omega
   . rcases Qj.1 G with l|l
     . cases l;have:=old _ _ s A;have:=new e2;omega
     . exact h.own.apart _ _ _ _ _ s l j ((g _ _ _ s).1 A) ((g _ _ _ l).1 e2)
 . intro a r;have:a≠k:=fun e=>by
    subst e;exact(Q2.1 h.knodup).1 r
   rw[Sg.set_other _ _ _ this];exact h.fresh a (by simp[r])
 . exact(Q2.1 h.knodup).2
 . intro n m _;simp only[i];constructor
   . rintro (h|h)
     . exact h.1
     . omega
   . intro h;exact .inl ⟨h,m⟩
 . intro n m;rcases J4N.1 m with e | ⟨a,c,d,e⟩
   . right;rw[J3m E] at e;simp only[J0u,Sg.set_same] at e;have:=D n e;omega
   . exact .inl ⟨a,c,d,(g a c n d).1 e⟩
theorem J8n {w w':World} {σ:Sg} {k:Nat} {b a:Blk} (h:a.isFam=false):∀n,J0n w' σ k a n->J0n w σ k b n:=fun _ x=>.inl ((J3m h).1 x)
theorem J2o {M:Nat->Prop} {w w':World} {σ:Sg} {own own':Own} {ks:List Nat} (h:J0T M w σ own ks) (k g:Nat) (b D:Blk) (q:(k,b)∈own) (hg:J0n w σ k b g)
 (l:∀a c,(a,c)∈own'↔(a=k/\c=D)\/(a≠k/\(a,c)∈own)) (x:own'.map (·.1)=own.map (·.1))
 (os:w'.os=w.os) (o:J0S w' w) (output:w'.output=w.output) (size:w'.heap.size=w.heap.size)
 (f:∀n,n≠g->w'.heap[n]?=w.heap[n]?) (K:Ext M w M w'->J1t M w' σ k D) (J:∀n,J0n w' σ k D n->J0n w σ k b n:=by exact J8n rfl) :
 J0T M w' σ own' ks/\Tr M w σ own M w' σ own':=by
 have y:=J0p h.own ⟨k,b,q,hg⟩;have F:Ext M w M w':=⟨fun n s E=>⟨E,f n (fun e=>E (e▸y.1))⟩,by omega⟩;have p:∀a c n,a≠k->(a,c)∈own->(J0n w' σ a c n↔J0n w σ a c n):=fun a c n d m =>
  J0U (Sg.le_refl _) (h.own.key m) fun I u=>f I fun e=>h.own.apart _ _ _ _ _ m q d (.inl u) (e▸hg)
 have j:∀a c n,(a,c)∈own'->J0n w' σ a c n->∃t,(a,t)∈own/\J0n w σ a t n:=fun a c n m e=>by
  rcases (l a c).1 m with ⟨r,e2⟩ | ⟨d,i⟩
  . subst r e2;exact⟨b,q,J n e⟩
  . exact⟨c,i,(p a c n d i).1 e⟩
 refine⟨⟨⟨?_,?_,?_⟩,h.fresh,h.knodup⟩,⟨⟨os,o,output,by omega,?_,fun _ _ _=>Jb⟩,fun n ⟨a,c,m,e⟩=>let ⟨t,C,B⟩:=j a c n m e;.inl ⟨a,t,C,B⟩,Sg.le_refl _⟩⟩
 . intro a c m;rcases (l a c).1 m with ⟨r,e2⟩ | ⟨d,i⟩
   . subst r e2;exact K F
   . refine(h.own.blk a c i).mono F (Sg.le_refl _) ?_;intro n s;refine⟨(J0p h.own ⟨a,c,i,s⟩).1,f n ?_⟩;intro e;subst e;exact h.own.apart _ _ _ _ _ i q d s hg
 . rw[x];exact h.own.nodup
 . intro N P L O n C B d r e2;obtain⟨d1,A,H⟩:=j _ _ _ C r;obtain⟨d2,z,G⟩:=j _ _ _ B e2;exact h.own.apart _ _ _ _ _ A z d H G
 . intro n s v;refine f n ?_;intro e;subst e;exact v ⟨k,b,q,hg⟩
theorem Q9J {M:Nat->Prop} {w:World} {σ:Sg} {own:Own} {ks:List Nat} (h:J0T M w σ own ks):J0T M w.drew σ own ks/\Tr M w σ own M w.drew σ own:=by
 have e:Ext M w M w.drew:=⟨fun n a d=>⟨d,rfl⟩,Qd _⟩;refine⟨⟨⟨fun k b c=>(h.own.blk k b c).mono e (Sg.le_refl _) (fun n a=>⟨(J0p h.own ⟨k,b,c,a⟩).1,rfl⟩),h.own.nodup,h.own.apart⟩,h.fresh,h.knodup⟩,
  ⟨⟨rfl,⟨rfl,J2 _⟩,rfl,Qd _,fun _ _ _=>rfl,fun _ _ _=>Jb⟩,fun n a=>.inl a,Sg.le_refl _⟩⟩
theorem Tr.ext {M b:Nat->Prop} {w w':World} {σ a:Sg} {own own':Own} (c:J2N M w σ own) (h:Tr M w σ own b w' a own'):Ext M w b w' :=
 h.adv.ext fun _ d=>(J0p c d).1
theorem J4J.mono {M d:Nat->Prop} {w w':World} {σ b:Sg} {env:Env} {a:Act} (f:Ext M w d w') (c:σ.le b) (h:J4J M w σ env a):J4J d w' b env a :=
 fun t v e=>(h t v e).mono f c
theorem J4J.put {M:Nat->Prop} {w:World} {σ:Sg} {env:Env} {a:Act} {d:Nat} {v:V} {u:Value} (h:J4J M w σ env a) (hd:d<a.tmps.size) (g:Den M w σ v u) :
 J4J M w σ ((d,v)::env) (a.put (some d) u):=by
 intro t x b;unfold look at b;split at b
 . rename_i f;have:=Qc f;subst this;simp at b;subst b;simpa[Act.put,Array.getD,hd] using g
 . rename_i f;have c:d≠t:=fun e=>by subst e;simp at f
   have:=h t x b;have he:(a.put (some d) u).tmps.getD t undef=a.tmps.getD t undef:=by
    simp only[Act.put,Qx,Yn,Qb c]
   rw[he];exact this
def V.force (v:V) (K:V->Prop):Prop :=
 match v with
 | .bool b=>K (.bool b)
 | .int k n=>K (.int k n)
 | .str s=>K (.str s)
 | .nilptr=>K .nilptr | .nilslice=>K .nilslice | .nilmap=>K .nilmap | .nilfunc=>K .nilfunc | .niliface=>K .niliface
 | .loc k off=>K (.loc k off)
 | .oel k s i j=>K (.oel k s i j)
 | .vec k s c len=>K (.vec k s c len)
 | .fz n s J1J f=>K (.fz n s J1J f)
 | .fe n s f i j=>K (.fe n s f i j)
 | .map k=>K (.map k)
 | .yld k=>K (.yld k)
 | .fn f b cap=>K (.fn f b cap)
 | .iface t v=>K (.iface t v)
 | .agg cs=>K (.agg cs)
 | .tup a=>K (.tup a)
 | .raw v=>K (.raw v)
 | .anyb=>K .anyb
 | .top=>K .top
theorem V.force_sound {v:V} {K:V->Prop} (h:v.force K):K v:=by cases v<;>exact h
def X2D (v:V) (K:V->Prop):Prop :=
 match v with
 | .bool b=>Q2Y b K
 | .raw _=>False
 | v=>K v
theorem J4P {v:V} {K:V->Prop} (h:X2D v K):K v/\∀u,v≠.raw u:=by
 unfold X2D at h;split at h
 . exact⟨J0V h,fun _ e=>by cases e⟩
 . exact h.elim
 . rename_i b a;exact⟨h,fun u e=>a u e⟩
def J8q (g:Nat->V):Nat->Nat->(List V->Prop)->Prop
 | _,0,K=>K []
 | j,n+1,K=>(g j).force fun v=>J8q g (j+1) n fun a=>K (v::a)
theorem J4F (g:Nat->V):∀(n j:Nat) (K:List V->Prop),J8q g j n K->∃l,K l/\l.length=n/\∀i,i<n->l[i]?=some (g (j+i))
 | 0,j,K,h=>⟨[],h,rfl,fun i a=>by omega⟩
 | n+1,j,K,h=>by
   obtain⟨l,d,c,b⟩:=J4F g n (j+1) _ (V.force_sound h);refine⟨_,d,by simp[c],?_⟩;intro i a;cases i with
   | zero=>simp
   | succ i=>rw[Y0,b i (by omega)];congr 2;omega
inductive Ltn (i n:Nat) (K:Prop):Prop where
 | mk (h:i<n) (hK:K):Ltn i n K
inductive Len (i n:Nat) (K:Prop):Prop where
 | mk (h:i<=n) (hK:K):Len i n K
inductive Opn (op:List (Nat×Nat)) (len:Nat->Nat) (i:Nat) (K:Nat->Nat->Prop):Prop where
 | mk (q l:Nat) (h:look op i=some q) (hl:len i=l) (hK:K q l):Opn op len i K
theorem J0j {α:Type} {i j:Nat} {x:α} {r:List (Nat×α)} (h:i=j):look ((i,x)::r) j=some x:=by subst h;simp[look]
theorem J0o {α:Type} {i j:Nat} {x:α} {r:List (Nat×α)} (h:i≠j):look ((i,x)::r) j=look r j:=by
 have:Nat.beq i j=false:=by
  cases e:Nat.beq i j with
  | false=>rfl
  | true=>exact(h (Qc e)).elim
 simp[look,this]
def J9d (own:Own) (sz:Option Nat) (k off:Nat) (K:V->Prop):Prop :=
 match look own k with
 | some (.cells cs)=>match sz with
   | none=>match nth cs off with|some v=>K v|none=>False
   | some n=>J8X cs off n fun l=>K (.agg l)
 | _=>False
def J39 (own:Own) (sz:Option Nat) (p:V) (K:V->Prop):Prop :=
 match p with
 | .loc k off=>J9d own sz k off K
 | .oel k s i j=>match look own k with
   | some (.vec n a f)=>match Nat.beq s a with
     | true=>Ltn i n (match sz with
       | none=>match Nat.ble (j+1) s with|true=>(f i j).force K|false=>False
       | some m=>match Nat.ble (j+m) s with|true=>J8q (f i) j m fun l=>K (.agg l)|false=>False)
     | false=>False
   | some (.cells _)=>J9d own sz k (i*s+j) K
   | some (.fam n a len _ op)=>match Nat.beq s 1,Nat.beq j 0,sz with
     | true,true,none=>Ltn i n (Opn op len i fun q l=>K (.vec q a 0 l))
     | _,_,_=>False
   | _=>False
 | .fe _ s f i j=>match sz with
   | none=>match Nat.ble (j+1) s with|true=>(f i j).force K|false=>False
   | some m=>match Nat.ble (j+m) s with|true=>J8q (f i) j m fun l=>K (.agg l)|false=>False
 | _=>False
def X5i (own:Own) (sz:Option Nat) (p:V) (K:V->Prop):Prop:=J39 own sz p fun v=>X2D v K
def V.readKey:V->Option Nat
 | .loc k _=>some k
 | .oel k _ _ _=>some k
 | _=>none
theorem Q0y {P:Program} {M:Nat->Prop} {w:World} {σ:Sg} (b off n:Nat) (g:Nat->V)
 (h:∀i,i<n->∃u,w.cell? ⟨b,off+i,none⟩=some u/\Den M w σ (g i) u) :
 ∃us:List Value,us.length=n/\(∀i u,us[i]?=some u->Den M w σ (g i) u)/\(loadCells ⟨b,off,none⟩ n).run P w=.ok us.toArray w:=by
 let F:Nat->Value:=fun i=>if a:i<n then Classical.choose (h i a) else undef
 have hF:∀i,i<n->w.cell? ⟨b,off+i,none⟩=some (F i)/\Den M w σ (g i) (F i):=fun i a=>by
  simp only[F,a,Yo];exact Xj (h i a)
 refine⟨(List.range n).map F,by simp,?_,run_loadCells w ⟨b,off,none⟩ n F (fun j d=>by rw[J1I];exact(hF j d).1)⟩;intro i u c;rw[Js] at c;have a:i<n:=by
  rcases Zs i n with h|h
  . exact h
  . simp[Zo (l:=List.range n) (by simpa using h)] at c
 simp[J5 a] at c;subst c;exact(hF i a).2
theorem J7Q {P:Program} {T:TypeId} {w:World} {a:Addr} {u:Value} (h:J4i P T=some none) (c:w.cell? a=some u) :
 (Instr.loadAt T (.pointer (some a))).run P w=.ok u w:=by
 unfold J4i at h;split at h
 . simp at h
 . rename_i b;simp[Instr.loadAt,Instr.sureAddr,loadVar,Sem.run_bind,J20 b,run_load,c,go_sem]
 . simp at h
theorem J8Z {P:Program} {T:TypeId} {w:World} {a:Addr} {n:Nat} {us:List Value} (h:J4i P T=some (some n)) (c:(loadCells a n).run P w=.ok us.toArray w) :
 (Instr.loadAt T (.pointer (some a))).run P w=.ok (.agg us.toArray) w:=by
 unfold J4i at h;split at h
 . rename_i b;simp only[Qt,Qf] at h;obtain⟨m,e,d⟩:=h;subst d;unfold loadCells at c;simp[Instr.loadAt,Instr.sureAddr,loadVar,Sem.run_bind,J20 b,J1d e,c,go_sem]
 . simp at h
 . simp at h
theorem J35 {P:Program} {T:TypeId} {sz:Option Nat} (hz:J4i P T=some sz) {M:Nat->Prop} {w:World} {σ:Sg} {b off:Nat} {g:Nat->V} :
 match sz with
 | none=>(∃u,w.cell? ⟨b,off,none⟩=some u/\Den M w σ (g 0) u)->∃r,(Instr.loadAt T (.pointer (some ⟨b,off,none⟩))).run P w=.ok r w/\Den M w σ (g 0) r
 | some n=>(∀i,i<n->∃u,w.cell? ⟨b,off+i,none⟩=some u/\Den M w σ (g i) u)->∀l:List V,l.length=n->(∀i,i<n->l[i]?=some (g i)) ->
    ∃r,(Instr.loadAt T (.pointer (some ⟨b,off,none⟩))).run P w=.ok r w/\Den M w σ (.agg l) r:=by
 cases sz with
 | none=>rintro⟨u,d,c⟩;exact⟨u,J7Q hz d,c⟩
 | some n =>
   intro h l f hg;obtain⟨us,d,c,k⟩:=Q0y (P:=P) b off n g h;refine⟨_,J8Z hz k,.agg _ _ _ (by omega) ?_⟩;intro i v u a e;have j:i<n:=by rw[<- f];exact(Qs.1 a).1
   rw[hg i j] at a;cases a;exact c i u e
theorem J6G {P:Program} {T:TypeId} {sz:Option Nat} (hz:J4i P T=some sz) {own:Own} {k off:Nat} {K:V->Prop} (h:J9d own sz k off K) :
 ∃v,K v/\∀M w σ u,Den M w σ (.loc k off) u->(∀a b,V.readKey (.loc k off)=some a->look own a=some b->J1t M w σ a b)->∃r,(Instr.loadAt T u).run P w=.ok r w/\Den M w σ v r:=by
 unfold J9d at h;split at h
 . rename_i cs d;have cells:∀M w σ u,Den M w σ (.loc k off) u->(∀a b,V.readKey (.loc k off)=some a->look own a=some b->J1t M w σ a b)->∃b,u=.pointer (some ⟨b,off,none⟩) /\
    ∀i v,cs[i]?=some v->∃x,w.cell? ⟨b,i,none⟩=some x/\Den M w σ v x:=by
    intro M w σ u hd f;obtain⟨b,A,ty,us,y,B,t,s,q⟩:=f k _ rfl d;cases hd with
    | loc _ _ _ C base p hk =>
      rw[y] at hk;simp only[Qf,Qu] at hk;obtain⟨z,e2,_⟩:=hk;subst z e2;refine⟨b,by simp,?_⟩;intro i v m;have e:i<us.size:=by rw[s];exact(Qs.1 m).1
      exact⟨us[i],by simp[World.cell?,t,e],q i v _ m (by simp[e])⟩
   split at h
   . split at h
     . rename_i v o;rw[Q4M] at o;refine⟨v,h,fun M w σ u hd f=>?_⟩;obtain⟨b,rfl,l⟩:=cells M w σ u hd f;exact J35 (g:=fun _=>v) hz (l off v o)
     . exact h.elim
   . rename_i n;obtain⟨r,j,c,hr3,hr4⟩:=J3W _ _ _ _ h;refine⟨_,j,fun M w σ u hd f=>?_⟩;obtain⟨b,rfl,l⟩:=cells M w σ u hd f;refine J35 (g:=fun i=>r.getD i default) hz (fun i e=>?_) r c (fun i e=>?_)
     . refine l _ _ ?_;rw[<- hr4 i e];simp[List.getD,c,e]
     . simp[List.getD,c,e]
 . exact h.elim
theorem J4l {P:Program} {T:TypeId} {sz:Option Nat} (hz:J4i P T=some sz) {own:Own} {p:V} {K:V->Prop} (h:J39 own sz p K) :
 ∃v,K v/\∀M w σ u,Den M w σ p u->(∀k b,p.readKey=some k->look own k=some b->J1t M w σ k b)->∃r,(Instr.loadAt T u).run P w=.ok r w/\Den M w σ v r:=by
 unfold J39 at h;split at h
 . exact J6G hz h
 . rename_i k s i j;split at h
   . rename_i n X f c;split at h
     . rename_i O;have e:=Qc O;subst e;obtain⟨G,h⟩:=h;have cells:∀M w σ u,Den M w σ (.oel k s i j) u->(∀y b,V.readKey (.oel k s i j)=some y->look own y=some b->J1t M w σ y b)->∃b o,u=.pointer (some ⟨b,o+j,none⟩) /\
        ∀a,a<s->∃x,w.cell? ⟨b,o+a,none⟩=some x/\Den M w σ (f i a) x:=by
        intro M w σ u hd t;obtain⟨bo,base,W,D,I,C⟩:=t k _ rfl c;cases hd with
        | oel _ _ _ _ _ Y F J hk =>
          rw[D] at hk;simp only[Qf,Qu] at hk;obtain⟨E,e2,_⟩:=hk;subst E e2;rcases C with ⟨_,h⟩ | ⟨b,ty,us,e,H,U,h5,S⟩
          . cases h
          . cases e;refine⟨Y,base+i*s,by rw[Xk],?_⟩;intro a z;obtain⟨x,N,_,L⟩:=S i a G z;refine⟨x,?_,L.mono ⟨fun n hn H=>⟨H,rfl⟩,Qd _⟩ (fun k x h=>by cases h)⟩;rw[Xk];simp[World.cell?,U,N]
       split at h
       . split at h
         . rename_i d;have z:=Qq d;refine⟨f i j,V.force_sound h,fun M w σ u hd t=>?_⟩;obtain⟨b,o,rfl,B⟩:=cells M w σ u hd t;exact J35 (g:=fun _=>f i j) hz (B j (by omega))
         . exact h.elim
       . rename_i m;split at h
         . rename_i d;have z:=Qq d;obtain⟨l,D,I,C⟩:=J4F _ _ _ _ h;refine⟨_,D,fun M w σ u hd t=>?_⟩;obtain⟨b,o,rfl,B⟩:=cells M w σ u hd t;refine J35 (g:=fun a=>f i (j+a)) hz (fun a Q=>?_) l I C;rw[Xk];exact B (j+a) (by omega)
         . exact h.elim
     . exact h.elim
   . obtain⟨v,R,hv⟩:=J6G hz h;refine⟨v,R,fun M w σ u hd t=>hv M w σ u ?_ fun y b hk hl=>t y b hk hl⟩;cases hd with
     | oel _ _ _ _ _ b base W hk=>exact .loc _ _ _ _ _ _ hk
   . rename_i n X len f op c;split at h
     . rename_i E e2;have E:=Qc E;have e2:=Qc e2;subst E e2;obtain⟨G,q,l,hq,rfl,R⟩:=h;refine⟨_,R,fun M w σ u hd t=>?_⟩;obtain⟨bo,base,W,D,I,C⟩:=t k _ rfl c;cases hd with
       | oel _ _ _ _ _ Y F J hk =>
         rw[D] at hk;simp only[Qf,Qu] at hk;obtain⟨E,e2,_⟩:=hk;subst E e2;rcases C with ⟨_,h⟩ | ⟨b,ty,us,e,H,U,h5,S,_⟩
         . cases h
         . cases e;obtain⟨x,x1,_,_,_,_,Z,_⟩:=S i G;refine J35 (g:=fun _=>.vec q X 0 (len i)) hz ⟨x,?_,Z q hq⟩;simp[World.cell?,U,x1]
     . exact h.elim
   . exact h.elim
 . rename_i n s f i j;have cells:∀M w σ u,Den M w σ (.fe n s f i j) u->(∀y b,V.readKey (.fe n s f i j)=some y->look own y=some b->J1t M w σ y b)->∃b o,u=.pointer (some ⟨b,o+j,none⟩) /\
    ∀a,a<s->∃x,w.cell? ⟨b,o+a,none⟩=some x/\Den M w σ (f i a) x:=by
    intro M w σ u hd t;cases hd with
    | fe _ _ _ _ _ _ b off uu G H hb A _ hd =>
      refine⟨b,off+i*s,by rw[Xk],?_⟩;intro a z;refine⟨uu i a,?_,(hd i a G z).mono ⟨fun n hn H=>⟨H,rfl⟩,Qd _⟩ (fun k x h=>by cases h)⟩;rw[Xk];exact A i a G z
   split at h
   . split at h
     . rename_i d;have z:=Qq d;refine⟨f i j,V.force_sound h,fun M w σ u hd t=>?_⟩;obtain⟨b,o,rfl,B⟩:=cells M w σ u hd t;exact J35 (g:=fun _=>f i j) hz (B j (by omega))
     . exact h.elim
   . rename_i m;split at h
     . rename_i d;have z:=Qq d;obtain⟨l,D,I,C⟩:=J4F _ _ _ _ h;refine⟨_,D,fun M w σ u hd t=>?_⟩;obtain⟨b,o,rfl,B⟩:=cells M w σ u hd t;refine J35 (g:=fun a=>f i (j+a)) hz (fun a Q=>?_) l I C;rw[Xk];exact B (j+a) (by omega)
     . exact h.elim
 . exact h.elim
def Q2Q (P:Program) (T:TypeId) (p v:V) (own:Own):Prop :=
 ∀M w σ u,Den M w σ p u->(∀k b,p.readKey=some k->look own k=some b->J1t M w σ k b)->∃r,(Instr.loadAt T u).run P w=.ok r w/\Den M w σ v r
theorem Q23 {P:Program} {T:TypeId} {sz:Option Nat} (hz:J4i P T=some sz) {own:Own} {p:V} {K:V->Prop} (h:X5i own sz p K) :
 ∃v,K v/\Q2Q P T p v own/\∀u,v≠.raw u:=by
 obtain⟨v,a,b⟩:=J4l hz h;exact⟨v,(J4P a).1,b,(J4P a).2⟩
theorem X2G {P:Program} {T:TypeId} {sz:Option Nat} (hz:J4i P T=some sz) {own:Own} {p v:V} (h:J39 own sz p (·=v)):Q2Q P T p v own:=by
 obtain⟨b,e,a⟩:=J4l hz h;subst e;exact a
def V.cellB:V->Bool
 | .agg _ | .tup _ | .raw _ | .top=>false
 | _=>true
def J3a (p:V->Bool):List V->Bool
 | []=>true
 | v::r=>match p v with|true=>J3a p r|false=>false
theorem J0v {p:V->Bool}:∀{l:List V},J3a p l=true->∀v∈l,p v=true
 | [],_,v,a=>by simp at a
 | x::r,h,v,a=>by
   unfold J3a at h;split at h
   . rename_i b;rcases Qj.1 a with e|e
     . subst e;exact b
     . exact J0v h v e
   . cases h
theorem Den.oneCell {M:Nat->Prop} {w:World} {σ:Sg} {v:V} {u:Value} (h:Den M w σ v u) (a:v.cellB=true):u.oneCell'=true:=by
 cases h<;>first|rfl|simp[V.cellB] at a
def V.kf1:V->Bool
 | .bool _ | .int _ _ | .str _ | .nilptr | .nilslice | .nilmap | .nilfunc | .niliface | .fz _ _ _ _ | .fe _ _ _ _ _ | .raw _ | .anyb=>true
 | _=>false
def V.kf2:V->Bool
 | .agg cs=>J3a V.kf1 cs
 | .iface _ v=>v.kf1
 | .fn _ _ cap=>J3a V.kf1 cap
 | v=>v.kf1
def V.kf:V->Bool
 | .agg cs=>J3a V.kf2 cs
 | .tup cs=>J3a V.kf2 cs
 | .iface _ v=>v.kf2
 | .fn _ _ cap=>J3a V.kf2 cap
 | v=>v.kf1
theorem Den.kf1 {M:Nat->Prop} {w:World} {σ:Sg} {v:V} {u:Value} (h:Den M w σ v u) (f:v.kf1=true) (τ:Sg):Den M w τ v u:=by
 cases h with
 | bool=>exact .bool _ _
 | int=>exact .int _ _ _
 | str=>exact .str _ _
 | nilptr=>exact .nilptr _
 | nilslice=>exact .nilslice _
 | nilmap=>exact .nilmap _
 | nilfunc=>exact .nilfunc _
 | niliface=>exact .niliface _
 | fz0 _ _ _ _ _ _ b=>exact .fz0 _ _ _ _ _ _ b
 | fz _ _ _ _ _ _ _ _ u i b d c a e hd=>exact .fz _ _ _ _ _ _ _ _ u i b d c a e hd
 | fe _ _ _ _ _ _ _ _ u g d c a e hd=>exact .fe _ _ _ _ _ _ _ _ u g d c a e hd
 | raw=>exact .raw _ _
 | anyb=>exact .anyb _ _
 | _=>simp[V.kf1] at f
theorem Den.kf2 {M:Nat->Prop} {w:World} {σ:Sg} {v:V} {u:Value} (h:Den M w σ v u) (c:v.kf2=true) (τ:Sg):Den M w τ v u:=by
 cases v with
 | agg cs=>cases h with|agg _ _ us d hd=>exact .agg _ _ _ d fun i v u a e=>(hd i v u a e).kf1 (J0v c v (Qw a)) τ
 | fn f b cap=>cases h with|fn _ _ _ _ us d hd=>exact .fn _ _ _ _ _ d fun i v u a e=>(hd i v u a e).kf1 (J0v c v (Qw a)) τ
 | iface t v=>cases h with|iface _ _ _ _ hd=>exact .iface _ _ _ _ (hd.kf1 c τ)
 | _=>exact h.kf1 c τ
theorem Den.kf {M:Nat->Prop} {w:World} {σ:Sg} {v:V} {u:Value} (h:Den M w σ v u) (d:v.kf=true) (τ:Sg):Den M w τ v u:=by
 cases v with
 | agg cs=>cases h with|agg _ _ us e hd=>exact .agg _ _ _ e fun i v u c g=>(hd i v u c g).kf2 (J0v d v (Qw c)) τ
 | tup cs=>cases h with|tup _ _ us e hd=>exact .tup _ _ _ e fun i v u c g=>(hd i v u c g).kf2 (J0v d v (Qw c)) τ
 | fn f b cap=>cases h with|fn _ _ _ _ us e hd=>exact .fn _ _ _ _ _ e fun i v u c g=>(hd i v u c g).kf2 (J0v d v (Qw c)) τ
 | iface t v=>cases h with|iface _ _ _ _ hd=>exact .iface _ _ _ _ (hd.kf2 d τ)
 | _=>exact h.kf1 d τ
def V.cellsK (v:V) (K:List V->Prop):Prop :=
 match v with
 | .agg cs=>K cs
 | .tup _ | .raw _ | .top=>False
 | v=>K [v]
theorem J1Y {v:V} {K:List V->Prop} (h:v.cellsK K):∃cs,K cs/\∀M w σ u,Den M w σ v u->cs.length=u.cells.size/\∀(i:Nat) (x:V) (y:Value),cs[i]?=some x->u.cells[i]?=some y->Den M w σ x y:=by
 cases v<;>first
  | exact h.elim
  | (refine⟨_,h,fun M w σ u hd=>?_⟩
     obtain⟨us,rfl,d,hd⟩:=hd.agg_inv;refine⟨by simp[Value.cells,d],fun i x y b c=>hd i x y b ?_⟩;simpa[Value.cells] using c)
  | (refine⟨_,h,fun M w σ u hd=>?_⟩
     have a:u.cells=#[u]:=by cases hd<;>rfl
     rw[a];refine⟨rfl,fun i x y b c=>?_⟩;cases i with
     | zero=>simp at b c;subst b c;exact hd
     | succ i=>simp at b)
def fresh (ks:List Nat) (K:Nat->List Nat->Prop):Prop :=
 match ks with|k::r=>K k r|[]=>False
theorem J0G {w:World} {o:Obj} {n:Nat} (h:n<w.heap.size):(w.alloc o).heap[n]?=w.heap[n]?:=by
 show(w.heap.push o)[n]?=_;rw[Array.getElem?_push,Qb (by omega)]
theorem J2B {w:World} {o:Obj}:(w.alloc o).heap[w.heap.size]?=some o:=by
 show(w.heap.push o)[w.heap.size]?=_;simp
theorem J1Z {w:World} {o:Obj}:(w.alloc o).heap.size=w.heap.size+1:=by
 show(w.heap.push o).size=_;simp
theorem Q1X {M:Nat->Prop} {w:World} {σ:Sg} {own:Own} {k:Nat} {ks:List Nat} (h:J0T M w σ own (k::ks)) (cs:List V) (us:Array Value) (ty:TypeId)
 (l:us.size=cs.length) (hd:∀(i:Nat) (x:V) (y:Value),cs[i]?=some x->us[i]?=some y->Den M w σ x y) :
 ∃b a,J0T b (w.alloc (.cells us ty)) a ((k,.cells cs)::own) ks/\Tr M w σ own b (w.alloc (.cells us ty)) a ((k,.cells cs)::own) /\
  Den b (w.alloc (.cells us ty)) a (.loc k 0) (.pointer (some ⟨w.heap.size,0,none⟩))/\Kd σ own (k::ks) a ((k,.cells cs)::own) ks:=by
 have c:σ k=none:=h.fresh k (by simp);obtain⟨b,p,o⟩:=J3l (w':=w.alloc (.cells us ty)) h (some w.heap.size,0,0) (.cells cs) (fun n e=>by simpa using e.symm) rfl (J0S.rf rfl rfl) rfl (by rw[J1Z];omega)
  (fun n j=>J0G j) (fun b d m=>⟨w.heap.size,0,ty,us,Sg.set_same _ _ _,(d _).2 (.inr rfl),J2B,l,fun i v u f g=>(hd i v u f g).mono m (Sg.le_set _ c)⟩)
 exact⟨b,_,p,o,by have:=Den.loc (M:=b) (w:=w.alloc (.cells us ty)) _ k 0 w.heap.size 0 0 (Sg.set_same σ k _);simpa using this,J42 _ _ J3v⟩
theorem J6l {M:Nat->Prop} {w:World} {σ:Sg} {own:Own} {k:Nat} {ks:List Nat} (h:J0T M w σ own (k::ks)) (s n:Nat) (cs:List V) (us:Array Value) (ty:TypeId)
 (l:us.size=cs.length) (hd:∀(i:Nat) (x:V) (y:Value),cs[i]?=some x->us[i]?=some y->Den M w σ x y) :
 ∃b a,J0T b (w.alloc (.cells us ty)) a ((k,.cells cs)::own) ks/\Tr M w σ own b (w.alloc (.cells us ty)) a ((k,.cells cs)::own) /\
  Den b (w.alloc (.cells us ty)) a (.vec k s 0 n) (.slice (some ⟨w.heap.size,0,none⟩) n n)/\J0u a k≠none/\Kd σ own (k::ks) a ((k,.cells cs)::own) ks:=by
 have c:σ k=none:=h.fresh k (by simp);obtain⟨b,p,o⟩:=J3l (w':=w.alloc (.cells us ty)) h (some w.heap.size,0,n) (.cells cs) (fun n e=>by simpa using e.symm) rfl (J0S.rf rfl rfl) rfl (by rw[J1Z];omega)
  (fun n j=>J0G j) (fun b d m=>⟨w.heap.size,n,ty,us,Sg.set_same _ _ _,(d _).2 (.inr rfl),J2B,l,fun i v u f g=>(hd i v u f g).mono m (Sg.le_set _ c)⟩)
 exact⟨b,_,p,o,.vec _ k s 0 n (some w.heap.size) 0 n n _ (Sg.set_same σ k _) rfl (Qd _) (fun _=>⟨w.heap.size,rfl,by simp⟩),by simp[J0u,Sg.set_same],J42 _ _ J3v⟩
theorem J5F {M:Nat->Prop} {w w':World} {σ:Sg} {own:Own} {k:Nat} {ks:List Nat} (h:J0T M w σ own (k::ks)) (n s b:Nat) (f:Nat->Nat->V) (us:Array Value) (ty:TypeId)
 (c:w'=w.alloc (.cells us ty)\/w'=w.drew.alloc (.cells us ty))
 (m:n<=b) (B:b*s<=us.size) (hd:∀i j,i<n->j<s->∃u,us[i*s+j]?=some u/\u.oneCell'=true/\Den M w Sg.none (f i j) u) :
 ∃d a,J0T d w' a ((k,.vec n s f)::own) ks/\Tr M w σ own d w' a ((k,.vec n s f)::own) /\
  (∀len,len<=b->Den d w' a (.vec k s 0 len) (.slice (some ⟨w.heap.size,0,none⟩) len b))/\J0u a k=some w.heap.size/\Kd σ own (k::ks) a ((k,.vec n s f)::own) ks:=by
 have q:σ k=none:=h.fresh k (by simp);have g:w'.heap[w.heap.size]?=some (.cells us ty):=by rcases c with e|e<;>subst e<;>exact J2B
 obtain⟨d,y,x⟩:=J3l (w':=w') h (some w.heap.size,0,b) (.vec n s f) (fun n e=>by simpa using e.symm)
  (by rcases c with e|e<;>subst e<;>rfl) (by rcases c with e|e<;>subst e<;>exact⟨rfl,by first|exact Qd _|exact J2 _⟩) (by rcases c with e|e<;>subst e<;>rfl)
  (by rcases c with e|e<;>subst e<;>(rw[J1Z];first|omega|(show w.heap.size<=w.heap.size+1;omega)))
  (fun n p=>by rcases c with e|e<;>subst e<;>exact J0G p)
  (fun d o v=>⟨some w.heap.size,0,b,Sg.set_same _ _ _,m,.inr ⟨w.heap.size,ty,us,rfl,(o _).2 (.inr rfl),g,by omega,fun i j t r=>by
    obtain⟨u,z,A,e2⟩:=hd i j t r;exact⟨u,by simpa using z,A,e2.mono v (Sg.le_refl _)⟩⟩⟩)
 refine⟨d,_,y,x,fun len l=>?_,by simp[J0u,Sg.set_same],J42 _ _ J3v⟩;exact .vec _ k s 0 len (some w.heap.size) 0 b b _ (Sg.set_same σ k _) (by omega) l (fun _=>⟨_,rfl,by simp⟩)
theorem Q85 {M:Nat->Prop} {w w':World} {σ:Sg} {own:Own} {k:Nat} {ks:List Nat} (h:J0T M w σ own (k::ks)) (n s b:Nat) (f:Nat->Nat->V) (us:Array Value) (ty:TypeId)
 (e:w'=w.alloc (.cells us ty)\/w'=w.drew.alloc (.cells us ty))
 (d:n<=b) (g:b*s<=us.size) (hd:∀i j,i<n->j<s->∃u,us[i*s+j]?=some u/\u.oneCell'=true/\Den M w Sg.none (f i j) u) :
 ∃c a,J0T c w' a ((k,.vec n s f)::own) ks/\Tr M w σ own c w' a ((k,.vec n s f)::own) /\
  (∀len,len<=b->Den c w' a (.vec k s 0 len) (.slice (some ⟨w.heap.size,0,none⟩) len b))/\Kd σ own (k::ks) a ((k,.vec n s f)::own) ks:=by
 obtain⟨c,a,p,o,m,_,l⟩:=J5F h n s b f us ty e d g hd;exact⟨c,a,p,o,m,l⟩
theorem Q4P {M:Nat->Prop} {w:World} {σ:Sg} {own:Own} {k:Nat} {ks:List Nat} (h:J0T M w σ own (k::ks)) (s:Nat) (f:Nat->Nat->V) (a:Option Addr) :
 ∃c b,J0T c w b ((k,.vec 0 s f)::own) ks/\Tr M w σ own c w b ((k,.vec 0 s f)::own)/\Den c w b (.vec k s 0 0) (.slice a 0 0)/\Kd σ own (k::ks) b ((k,.vec 0 s f)::own) ks:=by
 obtain⟨c,i,g⟩:=J3l (w':=w) h (none,0,0) (.vec 0 s f) (fun n e=>by simp at e) rfl (J0S.rf rfl rfl) rfl (Qd _)
  (fun n j=>rfl) (fun c d l=>⟨none,0,0,Sg.set_same _ _ _,Qd _,.inl ⟨rfl,rfl⟩⟩)
 exact⟨c,_,i,g,.vec _ k s 0 0 none 0 0 0 _ (Sg.set_same σ k _) rfl (Qd _) (fun h=>by omega),J42 _ _ J3v⟩
def X8C {α:Type}:List α->Nat->List α->(List α->Prop)->Prop
 | l,_,[],K=>K l
 | [],_,_::_,_=>False
 | _::r,0,v::a,K=>X8C r 0 a fun l=>K (v::l)
 | x::r,o+1,v::a,K=>X8C r o (v::a) fun l=>K (x::l)
theorem J4M {α:Type}:∀(l:List α) (o:Nat) (a:List α) (K:List α->Prop),X8C l o a K ->
 ∃r,K r/\r.length=l.length/\(a≠[]->o+a.length<=l.length)/\r=l.take o++a++l.drop (o+a.length)
 | l,o,[],K,h=>by
   refine⟨l,?_,rfl,fun h=>(h rfl).elim,by simp⟩;cases l<;>cases o<;>exact h
 | [],o,v::a,K,h=>by cases o<;>exact h.elim
 | x::l,0,v::a,K,h=>by
   obtain⟨r,e,d,c,b⟩:=J4M l 0 a _ h;refine⟨_,e,by simp[d],fun _=>?_,?_⟩
   . cases a with
     | nil=>simp
     | cons f a=>have:=c (by simp);simp at this ⊢;omega
   . rw[b];simp[Z8]
 | x::l,o+1,v::a,K,h=>by
   obtain⟨r,e,d,c,b⟩:=J4M l o (v::a) _ h;refine⟨_,e,by simp[d],fun _=>by have:=c (by simp);simp at this ⊢;omega,?_⟩;rw[b];simp[show o+1+(a.length+1)=o+(a.length+1)+1 by omega]
def Q2S {α:Type} (t:Nat) (x:α):List (Nat×α)->(List (Nat×α)->Prop)->Prop
 | [],K=>K []
 | (k,v)::r,K=>match Nat.beq k t with|true=>K ((k,x)::r)|false=>Q2S t x r fun a=>K ((k,v)::a)
theorem J1h {α:Type} (t:Nat) (x:α):∀(l:List (Nat×α)) (K:List (Nat×α)->Prop),Q2S t x l K->(l.map (·.1)).Nodup->(∃v,(t,v)∈l) ->
 ∃r,K r/\r.map (·.1)=l.map (·.1)/\∀d c,(d,c)∈r↔(d=t/\c=x)\/(d≠t/\(d,c)∈l)
 | [],K,_,_,⟨v,i⟩=>by simp at i
 | (k,v)::l,K,h,j,⟨u,i⟩=>by
   simp only[Qv,Q2] at j;have b:∀c,(k,c)∉l:=fun c f=>j.1 (Qi.2 ⟨_,f,rfl⟩);unfold Q2S at h;split at h
   . rename_i m;have e:=Qc m;subst e;refine⟨_,h,by simp,?_⟩;intro d c;simp only[Qj,Qu];constructor
     . rintro (⟨rfl,rfl⟩|f)
       . exact .inl ⟨rfl,rfl⟩
       . exact .inr ⟨fun e=>b c (e▸f),.inr f⟩
     . rintro (⟨rfl,rfl⟩ | ⟨a,⟨rfl,_⟩|f⟩)
       . exact .inl ⟨rfl,rfl⟩
       . exact(a rfl).elim
       . exact .inr f
   . rename_i m;have a:k≠t:=fun e=>by subst e;simp at m
     have g:∃v,(t,v)∈l:=by
      rcases Qj.1 i with e|e
      . cases e;exact(a rfl).elim
      . exact⟨_,e⟩
     obtain⟨r,s,q,p⟩:=J1h t x l _ h j.2 g;refine⟨_,s,by simp[q],?_⟩;intro d c;simp only[Qj,Qu,p];constructor
     . rintro (⟨rfl,rfl⟩ | ⟨rfl,rfl⟩ | ⟨o,n⟩)
       . exact .inr ⟨a,.inl ⟨rfl,rfl⟩⟩
       . exact .inl ⟨rfl,rfl⟩
       . exact .inr ⟨o,.inr n⟩
     . rintro (⟨rfl,rfl⟩ | ⟨o,⟨rfl,rfl⟩|n⟩)
       . exact .inr (.inl ⟨rfl,rfl⟩)
       . exact .inl ⟨rfl,rfl⟩
       . exact .inr (.inr ⟨o,n⟩)
def J1l (f:Nat->Nat->V) (i j:Nat) (b:List V):Nat->Nat->V:=fun c a =>
 if c=i/\j<=a/\a<j+b.length then b.getD (a-j) default else f c a
def J57 (own:Own) (sz k off:Nat) (v:V) (K:Own->Prop):Prop :=
 match look own k with
 | some (.cells cs)=>v.cellsK fun a=>match Nat.beq a.length sz,J3a V.cellB a with
   | true,true=>X8C cs off a fun b=>Q2S k (.cells b) own K
   | _,_=>False
 | _=>False
inductive J45 (op:List (Nat×Nat)) (i q:Nat) (K:Nat->List (Nat×Nat)->Prop):Prop where
 | mk (i':Nat) (op':List (Nat×Nat)) (hi:i'=i) (h:look op i≠none) (h1:look op' i=some q) (h2:∀j,j≠i->look op' j=look op j) (hK:K i' op'):J45 op i q K
def J3G (f:Nat->Nat) (i m:Nat):Nat->Nat:=fun j=>if j=i then m else f j
def J3E (own:Own) (sz:Nat) (p v:V) (K:Own->Prop):Prop :=
 match p with
 | .loc k off=>J57 own sz k off v K
 | .oel k s i j=>match look own k with
   | some (.vec n b f)=>v.cellsK fun a=>match Nat.beq a.length sz,J3a V.cellB a,J3a V.kf1 a,Nat.beq s b,Nat.ble (j+sz) s with
     | true,true,true,true,true=>Ltn i n (Q2S k (.vec n s (J1l f i j a)) own K)
     | _,_,_,_,_=>False
   | some (.cells _)=>J57 own sz k (i*s+j) v K
   | some (.fam n b len f op)=>match v with
     | .vec q c 0 m=>match Nat.beq s 1,Nat.beq j 0,Nat.beq sz 1,Nat.beq b c with
       | true,true,true,true=>Ltn i n (J45 op i q fun e d=>Q2S k (.fam n b (J3G len e m) f d) own K)
       | _,_,_,_=>False
     | _=>False
   | _=>False
 | _=>False
theorem J5c {P:Program} {T:TypeId} {w:World} {g off:Nat} {us:Array Value} {ty:TypeId} {u:Value} {sz:Nat} (f:J3s P T=some sz)
 (hg:w.heap[g]?=some (.cells us ty (0,0))) (b:u.cells.size=sz) (h:∀c∈u.cells.toList,c.oneCell'=true) (d:off+sz<=us.size) :
 (Instr.storeAt T (.pointer (some ⟨g,off,none⟩)) u).run P w=.ok () (w.setRow g (us.toList.take off++u.cells.toList++us.toList.drop (off+sz)).toArray):=by
 have a:=run_storeCells_at P g off ty u.cells.toList 0 us w hg (by simp;omega) h;simp only[Xx,Zn,b] at a;have e:(storeVar T ⟨g,off,none⟩ u).run P w=.ok () (w.setRow g (us.toList.take off++u.cells.toList++us.toList.drop (off+sz)).toArray):=by
  unfold storeVar;rw[Sem.run_bind,J1d f,Result.andThen_ok,Qb (by simp[b])];exact a
 exact e
theorem J0I {α:Type} (l a:List α) (o:Nat) (h:o+a.length<=l.length) (i:Nat) :
 (l.take o++a++l.drop (o+a.length))[i]?=if i<o then l[i]? else if i<o+a.length then a[i-o]? else l[i]?:=by
 have d:(l.take o).length=o:=by rw[Zt];omega
 rw[Q9];by_cases b:i<o
 . rw[Qe b,Q3 (by omega),Ya,Qe b]
 . rw[Qb b,Xt (by omega),d];by_cases c:i<o+a.length
   . rw[Qe c,Q3 (by omega)]
   . rw[Qb c,Xt (by omega),Yk];congr 1;omega
theorem J02 {α:Type} (l a:List α) (o:Nat) (h:o+a.length<=l.length):(l.take o++a++l.drop (o+a.length)).length=l.length:=by
 simp;omega
theorem J5s {P:Program} {T:TypeId} {sz:Nat} (hs:J3s P T=some sz) (Q:0<sz) {own:Own} {k off:Nat} {v:V} {K:Own->Prop} (h:J57 own sz k off v K)
 {M:Nat->Prop} {w:World} {σ:Sg} {ks:List Nat} {up d:Value} (D:J0T M w σ own ks) (hp:Den M w σ (.loc k off) up) (Z:Den M w σ v d) :
 ∃w' own',(Instr.storeAt T up d).run P w=.ok () w'/\J0T M w' σ own' ks/\Tr M w σ own M w' σ own'/\(∀k,k∈own'.map (·.1)->k∈own.map (·.1))/\K own':=by
 unfold J57 at h;split at h
 . rename_i cs l;obtain⟨z,h,B⟩:=J1Y h;obtain⟨hl,hd⟩:=B M w σ d Z;split at h
   . rename_i e1 e2;have p:=Qc e1;obtain⟨H,h,F,E,hc3⟩:=J4M _ _ _ _ h;have a:=J0g l;obtain⟨own',hK,o,C⟩:=J1h _ _ _ _ h D.own.nodup ⟨_,a⟩;obtain⟨b,W,ty,us,A,Y,N,X,L⟩:=D.own.blk k _ a;cases hp with
     | loc _ _ _ b' base U hk =>
       rw[A] at hk;simp only[Qf,Qu] at hk;obtain⟨q1,q2,_⟩:=hk;subst q1 q2;have m:z≠[]:=fun e=>by subst e;simp at p;omega
       have t:=E m;have r:∀c∈d.cells.toList,c.oneCell'=true:=by
        intro c hc;obtain⟨i,R⟩:=Yt hc;have s:i<z.length:=by
         have:=(Qs.1 R).1;simp at this;omega
        exact(hd i z[i] c (by simp[s]) (by simpa using R)).oneCell (J0v e2 _ (Xd s))
       have q:=J5c (P:=P) (off:=off) hs N (u:=d) (by omega) r (by omega);simp only[Qk];have g:d.cells.toList.length=sz:=by simp;omega
       have O:=J2o (w':=w.setRow b (us.toList.take off++d.cells.toList++us.toList.drop (off+sz)).toArray) D k b (.cells cs) (.cells H) a (.inl (by simp[J0u,A]))
        C o rfl (J0S.rf rfl rfl) rfl (by simp) (fun n hn=>setRow_other w b n _ hn) (fun G=>by
         refine⟨b,W,ty,_,A,Y,setRow_heap w b us _ ty _ N,?_,?_⟩
         . have:=J02 us.toList d.cells.toList off (by simp;omega);rw[g] at this;simp only[Zg,this,Zn,X,F]
         . intro i x y j f;have S:=J0I us.toList d.cells.toList off (by simp;omega) i;rw[g] at S;have g2:=J0I cs z off t i;rw[<- hc3] at g2;rw[Za] at f;rw[S] at f;rw[g2] at j;rw[p] at j;split at j
           . rename_i J;rw[Qe J] at f;exact(L i x y j (by simpa using f)).mono G (Sg.le_refl _)
           . rename_i J;rw[Qb J] at f;split at j
             . rename_i I;rw[Qe I] at f;exact(hd _ x y j (by simpa using f)).mono G (Sg.le_refl _)
             . rename_i I;rw[Qb I] at f;exact(L i x y j (by simpa using f)).mono G (Sg.le_refl _)) (J8n rfl)
       exact⟨_,own',q,O.1,O.2,fun k hk=>by rw[o] at hk;exact hk,hK⟩
   . exact h.elim
 . exact h.elim
theorem Q1h {P:Program} {T:TypeId} {sz:Nat} (hs:J3s P T=some sz) (Z:0<sz) {own:Own} {p v:V} {K:Own->Prop} (h:J3E own sz p v K)
 {M:Nat->Prop} {w:World} {σ:Sg} {ks:List Nat} {up D:Value} (hh:J0T M w σ own ks) (hp:Den M w σ p up) (hv:Den M w σ v D) :
 ∃w' own',(Instr.storeAt T up D).run P w=.ok () w'/\J0T M w' σ own' ks/\Tr M w σ own M w' σ own'/\(∀k,k∈own'.map (·.1)->k∈own.map (·.1))/\K own':=by
 unfold J3E at h;split at h
 . exact J5s hs Z h hh hp hv
 . rename_i k s i j;split at h
   . rename_i n s' f A;obtain⟨R,hA,af⟩:=J1Y h;clear h;obtain⟨hl,hd⟩:=af M w σ D hv;split at hA
     . rename_i e1 e2 e3 e4 e5;have aw:=Qc e1;have ah:=Qc e4;have ax:=Qq e5;subst ah;obtain⟨hi,h⟩:=hA;have d:=J0g A;obtain⟨own',hK,F,a4⟩:=J1h _ _ _ _ h hh.own.nodup ⟨_,d⟩;obtain⟨bo,base,κ,S,s2,E⟩:=hh.own.blk k _ d;cases hp with
       | oel _ _ _ _ _ b L a7 hk =>
         rw[S] at hk;simp only[Qf,Qu] at hk;obtain⟨q1,q2,q3⟩:=hk;subst q1 q2 q3;rcases E with ⟨_,E⟩ | ⟨b',ty,us,E,s4,s5,s6,s7⟩
         . cases E
         cases E;have B:∀c∈D.cells.toList,c.oneCell'=true:=by
          intro c J;obtain⟨i,hi⟩:=Yt J;have W:i<R.length:=by
           have:=(Qs.1 hi).1;simp at this;omega
          exact(hd i R[i] c (by simp[W]) (by simpa using hi)).oneCell (J0v e2 _ (Xd W))
         have ay:i*s+s<=κ*s:=by
          rw[<- Zv];exact Q5 _ (by omega)
         have G:=J5c (P:=P) (off:=base+(i*s+j)) hs s5 (u:=D) (by omega) B (by omega);have Y:D.cells.toList.length=sz:=by simp;omega
         have hw:=J2o (w':=w.setRow b (us.toList.take (base+(i*s+j))++D.cells.toList++us.toList.drop (base+(i*s+j)+sz)).toArray) hh k b _ (.vec n s (J1l f i j R)) d (.inl (by simp[J0u,S]))
          a4 F rfl (J0S.rf rfl rfl) rfl (by simp) (fun n N=>setRow_other w b n _ N) (fun hE=>by
           refine⟨_,base,κ,S,s2,.inr ⟨b,ty,_,rfl,s4,setRow_heap w b us _ ty _ s5,?_,?_⟩⟩
           . have:=J02 us.toList D.cells.toList (base+(i*s+j)) (by simp;omega);rw[Y] at this;simp only[Zg,this,Zn];exact s6
           . intro z o W al;have g1:=J0I us.toList D.cells.toList (base+(i*s+j)) (by simp;omega) (base+(z*s+o));rw[Y] at g1;rw[Za,g1];by_cases J:z=i/\j<=o/\o<j+R.length
             . obtain⟨rfl,O,c3⟩:=J;have a6:J1l f z j R z o=R.getD (o-j) default:=by
                unfold J1l;rw[Qe ⟨rfl,O,c3⟩]
               rw[Qb (by omega),Qe (by omega),a6];have a5:o-j<R.length:=by omega
               have a3:o-j<D.cells.size:=by omega
               refine⟨D.cells[o-j],?_,B _ (by simp),?_⟩
               . rw[show base+(z*s+o)-(base+(z*s+j))=o-j by omega];simp[a3]
               . have an:=hd (o-j) R[o-j] D.cells[o-j] (by simp[a5]) (by simp[a3]);have ak:=an.kf1 (J0v e3 _ (Xd a5)) Sg.none;simp only[List.getD,Qp a5,Xp];exact ak.mono hE (Sg.le_refl _)
             . have a6:J1l f i j R z o=f z o:=by
                unfold J1l;rw[Qb J]
               rw[a6];obtain⟨u,a1,a0,Q⟩:=s7 z o W al;refine⟨u,?_,a0,Q.mono hE (Sg.le_refl _)⟩;have aj:¬ (base+(i*s+j)<=base+(z*s+o)/\base+(z*s+o)<base+(i*s+j)+sz):=by
                rintro⟨r1,X⟩;apply J;have I:z=i:=by
                 rcases Y3 z i with g|g|g
                 . have:z*s+s<=i*s:=by rw[<- Zv];exact Q5 _ g
                   omega
                 . exact g
                 . have:i*s+s<=z*s:=by rw[<- Zv];exact Q5 _ g
                   omega
                subst I;refine⟨rfl,by omega,by omega⟩
               split
               . simpa using a1
               . rename_i r1;split
                 . rename_i X;exact(aj ⟨by omega,X⟩).elim
                 . simpa using a1) (J8n rfl)
         exact⟨_,own',G,hw.1,hw.2,fun k hk=>by rw[F] at hk;exact hk,hK⟩
     . exact hA.elim
   . refine J5s hs Z h hh ?_ hv;cases hp with
     | oel _ _ _ _ _ b base κ hk=>exact .loc _ _ _ _ _ _ hk
   . rename_i n s' len f op A;split at h
     . rename_i q av m;split at h
       . rename_i e1 e2 e3 e4;have e1:=Qc e1;have e2:=Qc e2;have e3:=Qc e3;have e4:=Qc e4;subst e1 e2 e3 e4;obtain⟨hi,z,ad,I,o0,o1,o2,h⟩:=h;have I:=I.symm;subst I;have d:=J0g A;obtain⟨own',hK,F,a4⟩:=J1h _ _ _ _ h hh.own.nodup ⟨_,d⟩;obtain⟨bo,base,κ,S,s2,E⟩:=hh.own.blk k _ d;cases hp with
         | oel _ _ _ _ _ b L a7 hk =>
           rw[S] at hk;simp only[Qf,Qu] at hk;obtain⟨q1,q2,q3⟩:=hk;subst q1 q2 q3;rcases E with ⟨_,E⟩ | ⟨b',ty,us,E,s4,s5,s6,s7,s8,s9⟩
           . cases E
           cases E;have ag:=hv;cases hv with
           | vec _ _ _ _ _ az ao aq O Q k2 kc kl ka =>
           have B:∀c∈(Value.slice Q m O).cells.toList,c.oneCell'=true:=by
            intro c J;simp[Value.cells] at J;subst J;rfl
           have G:=J5c (P:=P) (off:=base+(i*1+0)) hs s5 (u:=.slice Q m O) rfl B (by omega);have C:∀x,(us.toList.take (base+(i*1+0))++(Value.slice Q m O).cells.toList++us.toList.drop (base+(i*1+0)+1)).toArray[base+x]?=if x=i then some (.slice Q m O) else us[base+x]?:=by
            intro x;have g1:=J0I us.toList (Value.slice Q m O).cells.toList (base+(i*1+0)) (by simp[Value.cells];omega) (base+x);simp only[Value.cells,List.length_cons,List.length_nil,Qk] at g1;rw[Za];simp only[Value.cells];rw[g1];by_cases e:x=i
            . subst e;rw[Qb (by omega),Qe (by omega),Qe rfl,show base+x-(base+(x*1+0))=0 by omega];rfl
            . rw[Qb e];split
              . simp
              . rw[Qb (by omega)];simp
           have hw:=J2o (w':=w.setRow b (us.toList.take (base+(i*1+0))++(Value.slice Q m O).cells.toList++us.toList.drop (base+(i*1+0)+1)).toArray) hh k b _ (.fam n s' (J3G len i m) f ad) d (.inl (by simp[J0u,S]))
            a4 F rfl (J0S.rf rfl rfl) rfl (by simp) (fun n N=>setRow_other w b n _ N) (fun hE=>by
             refine⟨_,base,κ,S,s2,.inr ⟨b,ty,_,rfl,s4,setRow_heap w b us _ ty _ s5,?_,fun x hx=>?_,fun x x' r hx ae U n2 r1 X=>?_,fun x hx U r1=>?_⟩⟩
             . have:=J02 us.toList (Value.slice Q m O).cells.toList (base+(i*1+0)) (by simp[Value.cells];omega);simp only[Value.cells,List.length_cons,List.length_nil,Qk] at this;simp only[Value.cells,Zg,this,Zn];exact s6
             . rw[C x];by_cases e:x=i
               . subst e;rw[Qe rfl];refine⟨_,rfl,Q,O,by simp[J3G],by simp[J3G];omega,fun q' H=>?_,fun N=>by rw[o1] at N;cases N⟩;rw[o1] at H;cases H;simp only[J3G,Zl];exact ag.mono hE (Sg.le_refl _)
               . rw[Qb e];obtain⟨u,u1,a,c,u2,u3,u4,u5⟩:=s7 x hx;refine⟨u,u1,a,c,by rw[u2];simp[J3G,e],by simp[J3G,e];omega,fun q' H=>?_,fun N J=>?_⟩
                 . rw[o2 x e] at H;simp only[J3G,e,Xy];exact(u4 q' H).mono hE (Sg.le_refl _)
                 . rw[o2 x e] at N;obtain⟨r,off,ab,aa,p1,p2,p3,p4,p5⟩:=u5 N J;have ai:r≠b:=fun e'=>s9 x hx N ⟨off,_,c,by rw[u1,u2,p1,e'],J⟩;refine⟨r,off,ab,aa,p1,p2,by rw[setRow_other w b r _ ai];exact p3,p4,fun j t hj ht=>?_⟩;obtain⟨y,y1,y2,y3⟩:=p5 j t (by simpa[J3G,e] using hj) ht;exact⟨y,y1,y2,y3.mono hE (Sg.le_refl _)⟩
             . obtain⟨off,l,c,r1,rc⟩:=r1;obtain⟨a8,l',c',X,ac⟩:=X;rw[C] at r1 X;have ex:x≠i:=fun e=>by rw[e,o1] at U;cases U
               have a9:x'≠i:=fun e=>by rw[e,o1] at n2;cases n2
               rw[Qb ex] at r1;rw[Qb a9] at X;rw[o2 x ex] at U;rw[o2 x' a9] at n2;exact s8 x x' r hx ae U n2 ⟨off,l,c,r1,rc⟩ ⟨a8,l',c',X,ac⟩
             . obtain⟨off,l,c,r1,rc⟩:=r1;rw[C] at r1;have ex:x≠i:=fun e=>by rw[e,o1] at U;cases U
               rw[Qb ex] at r1;rw[o2 x ex] at U;exact s9 x hx U ⟨off,l,c,r1,rc⟩) (fun y hy=>by
                rcases hy with hy | ⟨ob,L,a7,ar,au,x,x1,x2,x3,x4,off,l,c,x5,x6⟩
                . exact .inl hy
                . rw[S] at x1;simp only[Qf,Qu] at x1;obtain⟨rfl,rfl,rfl⟩:=x1;rw[setRow_heap w b us _ ty _ s5] at x2;simp only[Qf,Obj.cells.injEq] at x2;obtain⟨rfl,rfl,_⟩:=x2;rw[C] at x5;have ex:x≠i:=fun e=>by rw[e,o1] at x4;cases x4
                  rw[Qb ex] at x5;rw[o2 x ex] at x4;exact .inr ⟨b,base,κ,us,ty,x,S,s5,x3,x4,off,l,c,x5,x6⟩)
           exact⟨_,own',G,hw.1,hw.2,fun k hk=>by rw[F] at hk;exact hk,hK⟩
       . exact h.elim
     . exact h.elim
   . exact h.elim
 . exact h.elim
section
variable {P:Program} {w:World} {ats:Array TypeId} {t t2 e e2 ty:TypeId} {s:Nat}
theorem J0X (l:ats[0]?=some t) (k:ats[1]?=some t2) (h:P.underlying t=some (.slice e)) (g:P.underlying t2=some (.slice e2)) (i:J3s P e=some s)
 (a:Option Addr) (len c m:Nat) (y:Value) (us:List Value) (d:(Builtin.lenOf y).run P w=.ok m w) (j:(Builtin.firstCells s m y).run P w=.ok us.toArray w) (b:len+m<=c)
 (w':World) (f:(match a with|some n=>storeCells (n.add (len*s)) us|none=>pure ():Sem Unit).run P w=.ok () w') :
 (Builtin.append_ ats ty #[.slice a len c,y]).run P w=.ok (.slice a (len+m) c) w':=by
 cases a with
 | none =>
   cases f;simp[Builtin.append_,l,k,Sem.run_bind,run_underlying h,run_underlying g,J1d i,d,b,j]
 | some n =>
   simp only at f;simp[Builtin.append_,l,k,Sem.run_bind,run_underlying h,run_underlying g,J1d i,d,b,j,f]
theorem J1Q {i:TypeInfo} {z:Value} (x:ats[0]?=some t) (v:ats[1]?=some t2) (l:P.underlying t=some (.slice e)) (h:P.underlying t2=some (.slice e2))
 (p:P.info? e=some i) (hz:i.zero=some z) (n:i.size=s)
 (a:Option Addr) (len c m:Nat) (y:Value) (us b:List Value) (d:(Builtin.lenOf y).run P w=.ok m w) (q:(Builtin.firstCells s m y).run P w.drew=.ok us.toArray w.drew)
 (j:(Builtin.firstCells s len (.slice a len c)).run P w.drew=.ok b.toArray w.drew)
 (hg:c<len+m) (r:(len+m)*i.bytes<=140737488355328) (u:len+m<=9223372036854775807) :
 (Builtin.append_ ats ty #[.slice a len c,y]).run P w =
   .ok (.slice (some ⟨w.heap.size,0,none⟩) (len+m) (grownCap w (len+m) c e)) (w.drew.alloc (.cells (b.toArray++us.toArray++Builtin.zeroCells z.cells (grownCap w (len+m) c e-(len+m))) e)):=by
 subst n;have k:=growslice_fits (old:=c) hg r;have o:¬ (len+m<=c):=by omega
 have f:¬ (9223372036854775807<((len:Int)+(m:Int))):=by omega
 have g:¬ (281474976710656<Builtin.nextslicecap (len+m) c*i.bytes):=by omega
 simp[Builtin.append_,x,v,Sem.run_bind,run_underlying l,run_underlying h,sizeOf,typeInfo,zeroValue,p,hz,d,o,f,g,Question.forced,q,j,newRow,grownCap];congr 2;apply Zf;simp[Q9]
end
def X1v (own:Own) (s:Nat) (y:V) (K:Nat->(Nat->Nat->V)->Prop):Prop :=
 match y with
 | .nilslice=>K 0 (fun _ _=>.nilptr)
 | .fz m b _ f=>match Nat.beq s b with|true=>K m f|false=>False
 | .vec k b c len=>match look own k with
   | some (.vec n a f)=>match Nat.beq s b,Nat.beq s a with
     | true,true=>Len (c+len) n (K len (J0m c f))
     | _,_=>False
   | _=>False
 | _=>False
structure Src (M:Nat->Prop) (w:World) (s m:Nat) (f:Nat->Nat->V) (u:Value):Prop where
 out:∃a c us,u=.slice a m c/\us.length=m*s/\(us≠[]->∃ad,a=some ad/\∀(j:Nat) (x:Value),us[j]?=some x->w.cell? (ad.add j)=some x) /\
  (∀i j,i<m->j<s->∃x,us[i*s+j]?=some x/\Den M w Sg.none (f i j) x)/\(∀x∈us,x.oneCell'=true)
theorem J3f {M:Nat->Prop} {w:World} {s m c:Nat} {f:Nat->Nat->V} {b off:Nat}
 (h:∀i j,i<m->j<s->∃x,w.cell? ⟨b,off+(i*s+j),none⟩=some x/\x.oneCell'=true/\Den M w Sg.none (f i j) x):Src M w s m f (.slice (some ⟨b,off,none⟩) m c):=by
 have n:∀q,q<m*s->∃x,w.cell? ⟨b,off+q,none⟩=some x/\x.oneCell'=true/\Den M w Sg.none (f (q / s) (q % s)) x:=fun q a=>by
  have k:0<s:=by
   rcases Q4 s with e|e
   . subst e;simp at a
   . exact e
  have:=h (q / s) (q % s) ((Vk k).2 a) (Z5 _ k)
  rwa[show q / s*s+q % s=q by rw[Xw];exact Yc q s] at this
 let F:Nat->Value:=fun q=>if a:q<m*s then Classical.choose (n q a) else undef
 have hF:∀q,q<m*s->w.cell? ⟨b,off+q,none⟩=some (F q)/\(F q).oneCell'=true/\Den M w Sg.none (f (q / s) (q % s)) (F q):=fun q a=>by
  simp only[F,a,Yo];exact Xj (n q a)
 refine⟨_,c,(List.range (m*s)).map F,rfl,by simp,fun _=>⟨_,rfl,?_⟩,?_,?_⟩
 . intro j x d;rw[Js] at d;have g:j<m*s:=by
    rcases Zs j (m*s) with h|h
    . exact h
    . simp[Zo (l:=List.range (m*s)) (by simpa using h)] at d
   simp[J5 g] at d;subst d;rw[J1I];exact(hF j g).1
 . intro i j o g;have a:i*s+j<m*s:=by
    have:i*s+s<=m*s:=by rw[<- Zv];exact Q5 _ o
    omega
   refine⟨F (i*s+j),by simp[J5 a],?_⟩;have:=(hF _ a).2.2
   rwa[Xw i s,Nat.mul_add_div (by omega),Z9 g,Xx,Kw,Xh g,Xw s i] at this
 . intro x d;obtain⟨q,a,rfl⟩:=Qi.1 d;exact(hF q (by simpa using a)).2.1
theorem J58 {own:Own} {s:Nat} {y:V} {K:Nat->(Nat->Nat->V)->Prop} (h:X1v own s y K) :
 ∃m f,K m f/\∀M w σ u,Den M w σ y u->J2N M w σ own->Src M w s m f u:=by
 unfold X1v at h;split at h
 . refine⟨_,_,h,fun M w σ u hd _=>?_⟩;cases hd;exact⟨none,0,[],rfl,by simp,by simp,fun i j g=>by omega,by simp⟩
 . rename_i m J J1J f;split at h
   . rename_i r;have e:=Qc r;subst e;refine⟨_,_,h,fun M w σ u hd _=>?_⟩;cases hd with
     | fz0 _ _ _ _ a c O=>exact⟨a,c,[],rfl,by simp,by simp,fun i j g=>by omega,by simp⟩
     | fz _ _ _ _ _ b off c u P O Z r l R hd=>exact J3f fun i j g p=>⟨u i j,l i j g p,R i j g p,hd i j g p⟩
   . exact h.elim
 . rename_i k J t len;split at h
   . rename_i n I f d;split at h
     . rename_i z e2;have z:=Qc z;have e2:=Qc e2;subst z e2;obtain⟨N,Q⟩:=h;refine⟨_,_,Q,fun M w σ u hd L=>?_⟩;obtain⟨bo,base,T,H,X,o⟩:=L.blk k _ (J0g d);cases hd with
       | vec _ _ _ _ _ S A C c a hk P Y B =>
         rw[H] at hk;simp only[Qf,Qu] at hk;obtain⟨q1,q2,q3⟩:=hk;subst q1 q2 q3;rcases Q4 c with q|q
         . have:len=0:=by omega
           subst this;exact⟨a,c,[],rfl,by simp,by simp,fun i j g=>by omega,by simp⟩
         . obtain⟨b,r,v⟩:=B q;clear B;subst r v;rcases o with ⟨_,o⟩ | ⟨b',ty,us,o,W,G,U,F⟩
           . cases o
           . cases o;refine J3f fun i j g p=>?_;obtain⟨x,E,x0,D⟩:=F (t+i) j (by omega) p;refine⟨x,?_,x0,by rw[J0l];exact D⟩;rw[show base+t*s+(i*s+j)=base+((t+i)*s+j) by rw[Xc];omega];simp[World.cell?,G,E]
     . exact h.elim
   . exact h.elim
 . exact h.elim
theorem Src.firstCells {P:Program} {M:Nat->Prop} {w w':World} {s m:Nat} {f:Nat->Nat->V} {u:Value} (h:Src M w s m f u) (g:w'.heap=w.heap) :
 ∃us:List Value,us.length=m*s/\(Builtin.firstCells s m u).run P w'=.ok us.toArray w'/\(Builtin.lenOf u).run P w'=.ok m w' /\
  (∀i j,i<m->j<s->∃x,us[i*s+j]?=some x/\Den M w Sg.none (f i j) x)/\(∀x∈us,x.oneCell'=true):=by
 obtain⟨a,c,us,rfl,d,p,o,n⟩:=h.out;refine⟨us,d,?_,rfl,o,n⟩;by_cases e:us=[]
 . subst e;cases a with
   | none=>rfl
   | some b =>
     show(loadCells b (m*s)).run P w'=_;rw[<- d];rfl
 . obtain⟨b,rfl,l⟩:=p e;show(loadCells b (m*s)).run P w'=_;rw[<- d];refine run_loadCells_list w' b us (fun j v k=>?_);have:=l j v k;simpa[World.cell?,g] using this
def X1q {α:Type} (t:Nat):List (Nat×α)->(List (Nat×α)->Prop)->Prop
 | [],K=>K []
 | (k,v)::r,K=>match Nat.beq k t with|true=>K r|false=>X1q t r fun a=>K ((k,v)::a)
theorem J3Q {α:Type} (t:Nat):∀(l:List (Nat×α)) (K:List (Nat×α)->Prop),X1q t l K->(l.map (·.1)).Nodup ->
 ∃r,K r/\(r.map (·.1)).Nodup/\∀f c,(f,c)∈r↔(f≠t/\(f,c)∈l)
 | [],K,h,_=>⟨[],h,by simp,by simp⟩
 | (k,v)::l,K,h,g=>by
   simp only[Qv,Q2] at g;have a:∀c,(k,c)∉l:=fun c b=>g.1 (Qi.2 ⟨_,b,rfl⟩);unfold X1q at h;split at h
   . rename_i i;have e:=Qc i;subst e;refine⟨_,h,g.2,?_⟩;intro f c;constructor
     . intro b;exact⟨fun e=>a c (e▸b),Xz _ b⟩
     . rintro⟨d,b⟩;rcases Qj.1 b with e|e
       . cases e;exact(d rfl).elim
       . exact e
   . rename_i i;have d:k≠t:=fun e=>by subst e;simp at i
     obtain⟨r,q,p,n⟩:=J3Q t l _ h g.2;refine⟨_,q,?_,?_⟩
     . simp only[Qv,Q2];refine⟨fun o=>?_,p⟩;obtain⟨⟨f,c⟩,b,e⟩:=Qi.1 o;simp at e;subst e;exact a c ((n _ _).1 b).2
     . intro f c;simp only[Qj,Qu,n];constructor
       . rintro (⟨rfl,rfl⟩ | ⟨m,j⟩)
         . exact⟨d,.inl ⟨rfl,rfl⟩⟩
         . exact⟨m,.inr j⟩
       . rintro⟨m,⟨rfl,rfl⟩|j⟩
         . exact .inl ⟨rfl,rfl⟩
         . exact .inr ⟨m,j⟩
theorem J5S {M:Nat->Prop} {w:World} {σ:Sg} {own own':Own} {ks:List Nat} (h:J0T M w σ own ks) (a:∀k c,(k,c)∈own'->(k,c)∈own) (f:(own'.map (·.1)).Nodup) :
 J0T M w σ own' ks/\Tr M w σ own M w σ own' :=
 ⟨⟨⟨fun k b d=>h.own.blk k b (a k b d),f,fun k b e j n i g=>h.own.apart k b e j n (a _ _ i) (a _ _ g)⟩,h.fresh,h.knodup⟩,
   ⟨.refl _ _ _,fun _ ⟨k,b,d,hk⟩=>.inl ⟨k,b,a k b d,hk⟩,Sg.le_refl _⟩⟩
theorem Q6H {M:Nat->Prop} {w w':World} {σ:Sg} {own own':Own} {i:Nat} {ks:List Nat} (h:J0T M w σ own (i::ks)) (k g:Nat) (b:Blk) (t:(k,b)∈own) (hg:J0u σ k=some g)
 (d:∀q c,(q,c)∈own'↔(q≠k/\(q,c)∈own)) (H:(own'.map (·.1)).Nodup) (x:Option Nat×Nat×Nat) (T:x.1=some g) (B:Blk)
 (os:w'.os=w.os) (z:J0S w' w) (output:w'.output=w.output) (size:w'.heap.size=w.heap.size)
 (l:∀n,n≠g->w'.heap[n]?=w.heap[n]?) (V:Ext M w M w'->J1t M w' (σ.set i x) i B) (U:B.isFam=false:=by rfl) :
 J0T M w' (σ.set i x) ((i,B)::own') ks/\Tr M w σ own M w' (σ.set i x) ((i,B)::own'):=by
 have A:σ i=none:=h.fresh i (by simp);have u:σ.le (σ.set i x):=Sg.le_set x A;have J:=J0p h.own ⟨k,b,t,.inl hg⟩;have P:Ext M w M w':=⟨fun n v O=>⟨O,l n (fun e=>O (e▸J.1))⟩,by omega⟩;have G:∀q c,(q,c)∈own->q≠i:=fun q c j e=>by
  obtain⟨y,N⟩:=h.own.key j;subst e;rw[A] at N;cases N
 have f:∀q c n,q≠k->(q,c)∈own->(J0n w' (σ.set i x) q c n↔J0n w σ q c n):=fun q c n D j =>
  J0U u (h.own.key j) fun R E=>l R fun e=>h.own.apart _ _ _ _ _ j t D (.inl E) (.inl (e▸hg))
 have o:∀n,J0n w' (σ.set i x) i B n->n=g:=fun n e=>by
  rw[J3m U] at e;simp[J0u,Sg.set_same,T] at e;exact e.symm
 refine⟨⟨⟨?_,?_,?_⟩,?_,(Q2.1 h.knodup).2⟩,⟨⟨os,z,output,by omega,?_,fun _ _ _=>Jb⟩,?_,u⟩⟩
 . intro q c j;rcases Qj.1 j with e|j
   . cases e;exact V P
   . obtain⟨p,m⟩:=(d q c).1 j;refine(h.own.blk q c m).mono P u ?_;intro n v;refine⟨(J0p h.own ⟨q,c,m,v⟩).1,l n ?_⟩;intro e;subst e;exact h.own.apart _ _ _ _ _ m t p v (.inl hg)
 . simp only[Qv,Q2];refine⟨?_,H⟩;intro I;obtain⟨⟨q,c⟩,j,e⟩:=Qi.1 I;exact G q c ((d q c).1 j).2 e
 . intro q1 Y q2 X n W Q r K e2;rcases Qj.1 W with C|C
   . cases C;rcases Qj.1 Q with s|s
     . cases s;exact r rfl
     . obtain⟨p,m⟩:=(d _ _).1 s;have:=o n K;subst this;exact h.own.apart _ _ _ _ _ m t p ((f _ _ _ p m).1 e2) (.inl hg)
   . obtain⟨p,m⟩:=(d _ _).1 C;rcases Qj.1 Q with s|s
     . cases s;have:=o n e2;subst this;exact h.own.apart _ _ _ _ _ m t p ((f _ _ _ p m).1 K) (.inl hg)
     . obtain⟨S,L⟩:=(d _ _).1 s;exact h.own.apart _ _ _ _ _ m L r ((f _ _ _ p m).1 K) ((f _ _ _ S L).1 e2)
 . intro q j;have:q≠i:=fun e=>by subst e;exact(Q2.1 h.knodup).1 j
   rw[Sg.set_other _ _ _ this];exact h.fresh q (by simp[j])
 . intro n v F;refine l n ?_;intro e;subst e;exact F ⟨k,b,t,.inl hg⟩
 . intro n v;left;rcases J4N.1 v with e | ⟨q,c,j,e⟩
   . have:=o n e;subst this;exact⟨k,b,t,.inl hg⟩
   . obtain⟨p,m⟩:=(d _ _).1 j;exact⟨q,c,m,(f _ _ _ p m).1 e⟩
def Q2V (f:Nat->Nat->V) (p m:Nat) (g:Nat->Nat->V):Nat->Nat->V:=fun i j=>if p<=i/\i<p+m then g (i-p) j else f i j
theorem J7C {P:Program} {M:Nat->Prop} {w:World} {σ:Sg} {own own':Own} {ks:List Nat} (F:J0T M w σ own ks) {k s d len n:Nat} {f:Nat->Nat->V} {a:Option Addr} {c:Nat} (r:look own k=some (.vec n s f))
 (hx:Den M w σ (.vec k s d len) (.slice a len c)) {at_ m:Nat} {D:Nat->Nat->V} {us:List Value} (B:us.length=m*s) (I:d+at_+m<=n)
 (hd:∀i j,i<m->j<s->∃x,us[i*s+j]?=some x/\Den M w Sg.none (D i j) x) (Y:∀x∈us,x.oneCell'=true)
 (l:∀p b,(p,b)∈own'↔(p=k/\b=.vec n s (Q2V f (d+at_) m D))\/(p≠k/\(p,b)∈own)) (z:own'.map (·.1)=own.map (·.1)) :
 at_+m<=c/\∃w',(match a with|some ad=>storeCells (ad.add (at_*s)) us|none=>pure ():Sem Unit).run P w=.ok () w'/\J0T M w' σ own' ks/\Tr M w σ own M w' σ own':=by
 have o:=J0g r;obtain⟨bo,base,R,H,s2,u⟩:=F.own.blk k _ o;cases hx with
 | vec _ _ _ _ _ a0 Q Z c a hk C hl W =>
   rw[H] at hk;simp only[Qf,Qu] at hk;obtain⟨q1,q2,q3⟩:=hk;subst q1 q2 q3;refine⟨by omega,?_⟩;rcases Q4 m with A|A
   . subst A;have hu:us=[]:=Xg (by simpa using B);subst hu;have hf:Q2V f (d+at_) 0 D=f:=by
      funext i j;unfold Q2V;rw[Qb (by omega)]
     rw[hf] at l;have v:∀p b,(p,b)∈own'->(p,b)∈own:=fun p b hm=>by
      rcases (l p b).1 hm with ⟨O,e2⟩|e
      . rw[O,e2];exact o
      . exact e.2
     have:=J5S F v (by rw[z];exact F.own.nodup);exact⟨w,by cases a<;>rfl,this.1,this.2⟩
   . obtain⟨b,K,L⟩:=W (by omega);clear W;subst K L;rcases u with ⟨_,u⟩ | ⟨b',q,h,u,s4,S,s6,s7⟩
     . cases u
     cases u;have E:base+d*s+at_*s+us.length<=h.size:=by
      have:d*s+at_*s+m*s<=R*s:=by rw[<- Xc,<- Xc];exact Q5 _ (by omega)
      omega
     have y:=run_storeCells_at P b (base+d*s+at_*s) q us 0 h w S (by omega) Y;simp only[Xx] at y;have T:=J2o (w':=w.setRow b (h.toList.take (base+d*s+at_*s)++us++h.toList.drop (base+d*s+at_*s+us.length)).toArray) F k b _ (.vec n s (Q2V f (d+at_) m D)) o (.inl (by simp[J0u,H]))
      l z rfl (J0S.rf rfl rfl) rfl (by simp) (fun n hn=>setRow_other w b n _ hn) (fun X=>by
       refine⟨_,base,R,H,s2,.inr ⟨b,q,_,rfl,s4,setRow_heap w b h _ q _ S,?_,?_⟩⟩
       . have:=J02 h.toList us (base+d*s+at_*s) (by simp;omega);simp only[Zg,this,Zn];exact s6
       . intro i j hi U;have g1:=J0I h.toList us (base+d*s+at_*s) (by simp;omega) (base+(i*s+j));rw[Za,g1];by_cases C:d+at_<=i/\i<d+at_+m
         . have O:(d+at_)*s<=i*s:=Q5 _ C.1;have e2:i*s+s<=(d+at_)*s+m*s:=by rw[<- Zv,<- Xc];exact Q5 _ (by omega)
           rw[Xc] at O e2;rw[Qb (by omega),Qe (by omega)];obtain⟨x,t,G⟩:=hd (i-(d+at_)) j (by omega) U;refine⟨x,?_,Y x (Qw t),?_⟩
           . rw[show base+(i*s+j)-(base+d*s+at_*s)=(i-(d+at_))*s+j by rw[Vu,Xc];omega];exact t
           . unfold Q2V;rw[Qe C];exact G.mono X (Sg.le_refl _)
         . have J:Q2V f (d+at_) m D i j=f i j:=by unfold Q2V;rw[Qb C]
           rw[J];obtain⟨x,t,x0,G⟩:=s7 i j hi U;refine⟨x,?_,x0,G.mono X (Sg.le_refl _)⟩;split
           . simpa using t
           . rename_i r1;split
             . rename_i r2;exfalso;apply C;rcases Zs i (d+at_) with g|g
               . have:i*s+s<=(d+at_)*s:=by rw[<- Zv];exact Q5 _ g
                 rw[Xc] at this;omega
               . refine⟨g,?_⟩;rcases Zs i (d+at_+m) with N|N
                 . exact N
                 . have:(d+at_+m)*s<=i*s:=Q5 _ N;rw[Xc,Xc] at this;omega
             . simpa using t)
     refine⟨_,?_,T.1,T.2⟩;simp only[J1I];exact y
def J56 (f:Nat->Nat->V) (len:Nat) (g:Nat->Nat->V):Nat->Nat->V :=
 match len with
 | 0=>g
 | len+1=>fun i j=>if i<len+1 then f i j else g (i-(len+1)) j
theorem J19 {f g:Nat->Nat->V} {len i j:Nat} (h:i<len):J56 f len g i j=f i j:=by
 cases len with
 | zero=>omega
 | succ len=>simp[J56,h]
theorem J2a {f g:Nat->Nat->V} {len i j:Nat} (h:¬ i<len):J56 f len g i j=g (i-len) j:=by
 cases len with
 | zero=>simp[J56]
 | succ len=>simp[J56,h]
def Q7t (own:Own) (ks:List Nat) (s bytes k a len n m:Nat) (f c:Nat->Nat->V) (K:V->Own->List Nat->Prop):Prop :=
 Len (a+len) n (Len ((len+m)*bytes) 140737488355328 (Len (len+m) 9223372036854775807
  (fresh ks fun b ks=>X1q k own fun own'=>K (.vec b s 0 (len+m)) ((b,.vec (len+m) s (J56 (J0m a f) len c))::own') ks)))
def X39 (own:Own) (ks:List Nat) (s bytes:Nat) (x y:V) (K:V->Own->List Nat->Prop):Prop :=
 X1v own s y fun m c =>
  match x with
  | .nilslice=>Len (m*bytes) 140737488355328 (Len m 9223372036854775807 (fresh ks fun b ks=>K (.vec b s 0 m) ((b,.vec m s c)::own) ks))
  | .fz 0 _ true _=>Len (m*bytes) 140737488355328 (Len m 9223372036854775807 (fresh ks fun b ks=>K (.vec b s 0 m) ((b,.vec m s c)::own) ks))
  | .vec k e a len=>match look own k with
    | some (.vec n d f)=>match Nat.beq s e,Nat.beq s d with
      | true,true=>Br (Nat.beq (a+len) n)
         (Q7t own ks s bytes k a len n m f c K)
         (Br (Nat.ble (a+len+m) n) (Q2S k (.vec n s (Q2V f (a+len) m c)) own fun own'=>K (.vec k s a (len+m)) own' ks)
           (Q7t own ks s bytes k a len n m f c K))
      | _,_=>False
    | _=>False
  | _=>False
theorem J0A {ks:List Nat} {K:Nat->List Nat->Prop} (h:fresh ks K):∃k r,ks=k::r/\K k r:=by
 cases ks with
 | nil=>exact h.elim
 | cons k r=>exact⟨k,r,rfl,h⟩
theorem J0W {P:Program} {e:TypeId} {a:List V} (h:J1S P e=some a):∃i z,P.info? e=some i/\i.zero=some z/\J3u z.cells.toList=some a:=by
 unfold J1S at h;split at h
 . rename_i i b;split at h
   . rename_i z hz;exact⟨i,z,b,hz,h⟩
   . cases h
 . cases h
theorem J61 {P:Program} {ats:Array TypeId} {t t2 e e2 ty:TypeId} {s bytes:Nat} {L:List V} (X:ats[0]?=some t) (W:ats[1]?=some t2)
 (R:P.underlying t=some (.slice e)) (h:P.underlying t2=some (.slice e2)) (S:J3s P e=some s) (hb:(P.info? e).map (·.bytes)=some bytes) (hz:J1S P e=some L) (a0:L.length=s)
 {M:Nat->Prop} {w:World} {σ:Sg} {own:Own} {k:Nat} {ks:List Nat} (U:J0T M w σ own (k::ks)) {m:Nat} {g:Nat->Nat->V} {q:Value} (d:Src M w s m g q)
 (I:m*bytes<=140737488355328) (a1:m<=9223372036854775807) (a:Option Addr) :
 ∃u w' f b,(Builtin.append_ ats ty #[.slice a 0 0,q]).run P w=.ok u w'/\J0T f w' b ((k,.vec m s g)::own) ks/\Tr M w σ own f w' b ((k,.vec m s g)::own) /\
  Den f w' b (.vec k s 0 m) u/\Kd σ own (k::ks) b ((k,.vec m s g)::own) ks:=by
 obtain⟨i,z,o,F,H⟩:=J0W hz;have G:z.cells.size=s:=by
  have:=(J0O (M:=M) (w:=w) σ H).1;simp at this;omega
 have l:i.size=s:=by simpa[J3s,o] using S
 have n:i.bytes=bytes:=by simpa[o] using hb
 rcases Q4 m with e0|T
 . subst e0;obtain⟨us,A,y,Q,O,N⟩:=d.firstCells (P:=P) (w':=w) rfl;have hu:us=[]:=Xg (by simpa using A);subst hu;have c:=J0X (P:=P) (ty:=ty) X W R h S a 0 0 0 q [] Q y (by omega) w (by cases a<;>rfl);obtain⟨f,b,E,D,C,B⟩:=Q4P U s g a;exact⟨_,w,f,b,c,E,D,C,B⟩
 . obtain⟨us,A,y,Q,O,N⟩:=d.firstCells (P:=P) (w':=w.drew) rfl;obtain⟨Z,_,_,v,_,_⟩:=d.firstCells (P:=P) (w':=w) rfl;have K:(Builtin.firstCells s 0 (.slice a 0 0)).run P w.drew=.ok ([]:List Value).toArray w.drew:=by
    cases a with
    | none=>rfl
    | some ad=>show(loadCells ad (0*s)).run P w.drew=_;rw[Zr];rfl
   have c:=J1Q (P:=P) (ty:=ty) (w:=w) X W R h o F l a 0 0 m q us [] v y K (by omega) (by rw[n];simpa using I) (by omega);simp only[Qk] at c;have p:=grownCap_ge w m 0 e;obtain⟨f,b,E,D,C,B⟩:=Q85 (w':=w.drew.alloc (.cells (([]:List Value).toArray++us.toArray++Builtin.zeroCells z.cells (grownCap w m 0 e-m)) e)) U m s (grownCap w m 0 e) g _ e (.inr rfl) p
    (by simp only[Kj,Zg,List.length_nil,size_zeroCells,A,G,Qk];rw[<- Xc];exact Q5 _ (by omega))
    (fun i j o hj=>by
      obtain⟨x,r,Y⟩:=O i j o hj;refine⟨x,?_,N x (Qw r),Y⟩;have J:i*s+j<us.length:=(Qs.1 r).1;rw[Ze (by simpa using J)];simpa using r)
   exact⟨_,_,f,b,c,E,D,C m p,B⟩
theorem Q38 {P:Program} {ats:Array TypeId} {t t2 e e2 ty:TypeId} {s:Nat} (Q:ats[0]?=some t) (O:ats[1]?=some t2)
 (I:P.underlying t=some (.slice e)) (q:P.underlying t2=some (.slice e2)) (J:J3s P e=some s)
 {M:Nat->Prop} {w:World} {σ:Sg} {own own':Own} {k:Nat} {ks:List Nat} (K:J0T M w σ own ks) {m:Nat} {B:Nat->Nat->V} {o:Value} (h:Src M w s m B o)
 {j len n:Nat} {f:Nat->Nat->V} {z:Value} (g:look own k=some (.vec n s f)) (A:Den M w σ (.vec k s j len) z) (x:j+len+m<=n)
 (i:∀l b,(l,b)∈own'↔(l=k/\b=.vec n s (Q2V f (j+len) m B))\/(l≠k/\(l,b)∈own)) (v:own'.map (·.1)=own.map (·.1)) :
 ∃u w',(Builtin.append_ ats ty #[z,o]).run P w=.ok u w'/\J0T M w' σ own' ks/\Tr M w σ own M w' σ own'/\Den M w' σ (.vec k s j (len+m)) u:=by
 obtain⟨us,G,F,E,D,C⟩:=h.firstCells (P:=P) (w':=w) rfl;have p:=A;cases A with
 | vec _ _ _ _ _ T base R c a hk L S N =>
   obtain⟨d,w',r,y,H⟩:=J7C (P:=P) K g p (at_:=len) G x D C i v;exact⟨_,w',J0X Q O I q J a len c m o us E F d w' r,y,H,.vec _ _ _ _ _ _ _ _ _ _ hk L d N⟩
theorem Q6V {P:Program} {ats:Array TypeId} {t t2 e e2 ty:TypeId} {s bytes:Nat} {zs:List V} (h0:ats[0]?=some t) (h1:ats[1]?=some t2)
 (ht:P.underlying t=some (.slice e)) (K:P.underlying t2=some (.slice e2)) (hs:J3s P e=some s) (hb:(P.info? e).map (·.bytes)=some bytes) (hz:J1S P e=some zs) (ag:zs.length=s)
 {M:Nat->Prop} {w:World} {σ:Sg} {own own':Own} {k E:Nat} {ks:List Nat} (T:J0T M w σ own (E::ks)) {m:Nat} {G:Nat->Nat->V} {U:Value} (B:Src M w s m G U)
 {d len n:Nat} {f:Nat->Nat->V} {ux:Value} (D:look own k=some (.vec n s f)) (hx:Den M w σ (.vec k s d len) ux) (aa:d+len<=n)
 (a9:(len+m)*bytes<=140737488355328) (a8:len+m<=9223372036854775807)
 (C:∀q c,(q,c)∈own'↔(q≠k/\(q,c)∈own)) (Z:(own'.map (·.1)).Nodup) :
 ∃u w' S g,(Builtin.append_ ats ty #[ux,U]).run P w=.ok u w'/\J0T S w' g ((E,.vec (len+m) s (J56 (J0m d f) len G))::own') ks /\
  Tr M w σ own S w' g ((E,.vec (len+m) s (J56 (J0m d f) len G))::own')/\Den S w' g (.vec E s 0 (len+m)) u/\Kd σ own (E::ks) g ((E,.vec (len+m) s (J56 (J0m d f) len G))::own') ks:=by
 obtain⟨i,z,hi,a5,a7⟩:=J0W hz;have a6:z.cells.size=s:=by
  have:=(J0O (M:=M) (w:=w) σ a7).1;simp at this;omega
 have a1:i.size=s:=by simpa[J3s,hi] using hs
 have a2:i.bytes=bytes:=by simpa[hi] using hb
 have H:=J0g D;have O:∀q,q∈own'.map (·.1)->q∈own.map (·.1):=by
  intro q Y;obtain⟨⟨q',c⟩,hm,e⟩:=Qi.1 Y;exact Qi.2 ⟨_,((C q' c).1 hm).2,e⟩
 have Q:∀g:Sg,Kd σ own' (E::ks) g ((E,.vec (len+m) s (J56 (J0m d f) len G))::own') ks->Kd σ own (E::ks) g ((E,.vec (len+m) s (J56 (J0m d f) len G))::own') ks :=
  fun g h=>⟨h.1,h.2.1,fun q Y=>(h.2.2 q Y).imp (O q) id⟩
 obtain⟨bo,base,κ,s1,s2,W⟩:=T.own.blk k _ H;have hd:=hx;cases hx with
 | vec _ _ _ _ _ aj ad ae c a hk hc hl ha =>
   rw[s1] at hk;simp only[Qf,Qu] at hk;obtain⟨q1,q2,q3⟩:=hk;subst q1 q2 q3;have L:Src M w s len (J0m d f) (.slice a len c):=by
    have hv:X1v own s (.vec k s d len) (fun m' f'=>m'=len/\f'=J0m d f):=by
     unfold X1v;simp only[D];split
     . exact Len.mk aa (by simp)
     . rename_i T;simp at T
    obtain⟨m',f',⟨r1,r2⟩,hr⟩:=J58 hv;subst r1 r2;exact hr M w σ _ hd T.own
   have o:=J5S (own':=own') T (fun q c Y=>((C q c).1 Y).2) Z;by_cases l:len+m<=c
   . obtain⟨us,u1,u2,u3,u4,u5⟩:=B.firstCells (P:=P) (w':=w) rfl;rcases Q4 c with R|R
     . have e1:len=0:=by omega
       have e2:m=0:=by omega
       subst e1 e2 R;have hu:us=[]:=Xg (by simpa using u1);subst hu;have p:=J0X (P:=P) (ty:=ty) h0 h1 ht K hs a 0 0 0 U [] u3 u2 (by omega) w (by cases a<;>rfl);obtain⟨S,g,n1,n2,n3,n4⟩:=Q4P o.1 s (J56 (J0m d f) 0 G) a;exact⟨_,w,S,g,p,n1,o.2.trans n2,n3,Q _ n4⟩
     . obtain⟨b,ab,ac⟩:=ha R;clear ha;subst ab ac;rcases W with ⟨_,W⟩ | ⟨b',J,v,W,s4,s5,s6,s7⟩
       . cases W
       cases W;have ai:c*s+d*s=κ*s:=by rw[<- Xc,hc]
       have a3:len*s+m*s<=c*s:=by rw[<- Xc];exact Q5 _ l
       have X:=run_storeCells_at P b (base+d*s+len*s) J us 0 v w s5 (by omega) u5;simp only[Xx] at X;have p:=J0X (P:=P) (ty:=ty) h0 h1 ht K hs (some ⟨b,base+d*s,none⟩) len c m U us u3 u2 l _ (by simp only[J1I];exact X);have a0:=Q6H (w':=w.setRow b (v.toList.take (base+d*s+len*s)++us++v.toList.drop (base+d*s+len*s+us.length)).toArray) T k b (.vec n s f) H (by simp[J0u,s1]) C Z
        (some b,base+d*s,c) rfl (.vec (len+m) s (J56 (J0m d f) len G)) rfl (J0S.rf rfl rfl) rfl (by simp) (fun n hn=>setRow_other w b n _ hn) (fun hE=>by
          refine⟨_,_,_,Sg.set_same _ _ _,l,.inr ⟨b,J,_,rfl,s4,setRow_heap w b v _ J _ s5,?_,?_⟩⟩
          . have:=J02 v.toList us (base+d*s+len*s) (by simp;omega);simp only[Zg,this,Zn];omega
          . intro i j hi hj;have g1:=J0I v.toList us (base+d*s+len*s) (by simp;omega) (base+d*s+(i*s+j));rw[Za,g1];by_cases r:i<len
            . have N:i*s+s<=len*s:=by rw[<- Zv];exact Q5 _ r
              rw[Qe (by omega),J19 r,J0l];obtain⟨x,y,x0,I⟩:=s7 (d+i) j (by omega) hj;refine⟨x,?_,x0,I.mono hE (Sg.le_refl _)⟩;rw[show base+d*s+(i*s+j)=base+((d+i)*s+j) by rw[Xc];omega];simpa using y
            . have F:len*s<=i*s:=Q5 _ (by omega);have ah:i*s+s<=len*s+m*s:=by rw[<- Zv,<- Xc];exact Q5 _ (by omega)
              rw[Qb (by omega),Qe (by omega),J2a r];obtain⟨x,y,I⟩:=u4 (i-len) j (by omega) hj;refine⟨x,?_,u5 x (Qw y),I.mono hE (Sg.le_refl _)⟩;rw[show base+d*s+(i*s+j)-(base+d*s+len*s)=(i-len)*s+j by rw[Vu];omega];exact y)
       refine⟨_,_,M,_,p,a0.1,a0.2,?_,Q _ (J42 _ _ J3v)⟩;exact .vec _ _ _ _ _ _ _ _ c _ (Sg.set_same _ _ _) rfl l (fun _=>⟨b,rfl,by simp⟩)
   . obtain⟨us,u1,u2,u3,u4,u5⟩:=B.firstCells (P:=P) (w':=w.drew) rfl;obtain⟨af,_,_,a4,_,_⟩:=B.firstCells (P:=P) (w':=w) rfl;obtain⟨A,o1,o2,o3,o4,o5⟩:=L.firstCells (P:=P) (w':=w.drew) rfl;have p:=J1Q (P:=P) (ty:=ty) (w:=w) h0 h1 ht K hi a5 a1 a len c m U us A a4 u2 o2 (by omega) (by rw[a2];exact a9) a8;have F:=grownCap_ge w (len+m) c e;obtain⟨S,g,n1,n2,n3,n4⟩:=Q85 (w':=w.drew.alloc (.cells (A.toArray++us.toArray++Builtin.zeroCells z.cells (grownCap w (len+m) c e-(len+m))) e)) o.1 (len+m) s (grownCap w (len+m) c e)
      (J56 (J0m d f) len G) _ e (.inr rfl) F
      (by simp only[Kj,Zg,size_zeroCells,u1,o1,a6];rw[<- Xc,<- Xc];exact Q5 _ (by omega))
      (fun i j hi hj=>by
        by_cases r:i<len
        . rw[J19 r];obtain⟨x,y,I⟩:=o4 i j r hj;refine⟨x,?_,o5 x (Qw y),I⟩;have N:i*s+j<A.length:=(Qs.1 y).1;rw[Ze (by simp;omega),Ze (by simpa using N)];simpa using y
        . rw[J2a r];obtain⟨x,y,I⟩:=u4 (i-len) j (by omega) hj;refine⟨x,?_,u5 x (Qw y),I⟩;have N:(i-len)*s+j<us.length:=(Qs.1 y).1;have F:len*s<=i*s:=Q5 _ (by omega);have he:i*s+j=len*s+((i-len)*s+j):=by rw[Vu];omega
          rw[Ze (by simp;omega),K2 (by simp;omega)];simp only[Zg,o1];rw[show i*s+j-len*s=(i-len)*s+j by omega];simpa using y)
     exact⟨_,_,S,g,p,n1,o.2.trans n2,n3 (len+m) F,Q _ n4⟩
end Go.Eng
