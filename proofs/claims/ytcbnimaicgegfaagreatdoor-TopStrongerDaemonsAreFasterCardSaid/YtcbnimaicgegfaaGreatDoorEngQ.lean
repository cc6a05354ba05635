import Derived.Test.YtcbnimaicgegfaaGreatDoorEngM
import Derived.KernelRfl
set_option linter.all false
namespace Go.Eng
abbrev Rn:=List (Nat×Option Nat)
def TS (ρ:Rn) (σ τ:Sg):Prop:=∀k o,look ρ k=some o->match o with
 | some a=>τ k=σ a
 | none=>τ k=some (none,0,0)
structure J0b (ρ:Rn) (v v':V):Prop where
 out:∀M w σ τ u,TS ρ σ τ->Den M w σ v u->Den M w τ v' u
theorem J0b.kf {ρ:Rn} {v:V} (h:v.kf=true):J0b ρ v v:=⟨fun _ _ _ τ _ _ hd=>hd.kf h τ⟩
theorem J0b.int {ρ:Rn} {k:IntKind} {a b:Int} (h:a=b):J0b ρ (.int k a) (.int k b):=by
 subst h;exact .kf rfl
theorem J0b.loc {ρ:Rn} {k c o:Nat} (h:look ρ k=some (some c)):J0b ρ (.loc c o) (.loc k o) :=
 ⟨fun M w σ τ u a hd=>by
   cases hd with
   | loc _ _ _ b base d hk=>exact .loc _ _ _ _ _ _ ((a k _ h).trans hk)⟩
theorem J0b.oel {ρ:Rn} {k c s i j d:Nat} (h:look ρ k=some (some c)) (e:i=d):J0b ρ (.oel c s i j) (.oel k s d j) :=
 ⟨fun M w σ τ u a hd=>by
   subst e;cases hd with
   | oel _ _ _ _ _ b base f hk=>exact .oel _ _ _ _ _ _ _ _ ((a k _ h).trans hk)⟩
theorem J0b.map {ρ:Rn} {k c:Nat} (h:look ρ k=some (some c)):J0b ρ (.map c) (.map k) :=
 ⟨fun M w σ τ u a hd=>by
   cases hd with
   | map _ _ b base d hk=>exact .map _ _ _ _ _ ((a k _ h).trans hk)⟩
theorem J0b.yld {ρ:Rn} {k c:Nat} (h:look ρ k=some (some c)):J0b ρ (.yld c) (.yld k) :=
 ⟨fun M w σ τ u a hd=>by
   cases hd with
   | yld _ _ b base d hk=>exact .yld _ _ _ _ _ ((a k _ h).trans hk)⟩
theorem J0b.vec {ρ:Rn} {k g s f len d b:Nat} (h:look ρ k=some (some g)) (n:f=d) (m:len=b):J0b ρ (.vec g s f len) (.vec k s d b) :=
 ⟨fun M w σ τ u e hd=>by
   subst n m;cases hd with
   | vec _ _ _ _ _ p base o c a hk j i l=>exact .vec _ _ _ _ _ _ _ _ _ _ ((e k _ h).trans hk) j i l⟩
theorem J0b.nil {ρ:Rn} {k s len:Nat} (h:look ρ k=some none) (b:len=0):J0b ρ .nilslice (.vec k s 0 len) :=
 ⟨fun M w σ τ u a hd=>by
   subst b;cases hd;exact .vec _ _ _ _ _ none 0 0 0 none (a k _ h) rfl (Qd _) (fun h=>absurd h (Ja _))⟩
def Q5O (ρ:Rn):List V->List V->Prop
 | [],[]=>True
 | v::r,a::b=>J0b ρ v a/\Q5O ρ r b
 | _,_=>False
theorem Q5O.out {ρ:Rn}:∀{cs b:List V},Q5O ρ cs b->b.length=cs.length/\∀(i:Nat) (v c:V),cs[i]?=some v->b[i]?=some c->J0b ρ v c
 | [],[],_=>⟨rfl,fun i v c h=>by simp at h⟩
 | v::r,c::g,h=>by
   obtain⟨l,f⟩:=Q5O.out h.2;refine⟨by simp[l],fun i x e d a=>?_⟩;cases i with
   | zero=>simp at d a;subst d a;exact h.1
   | succ i=>exact f i x e (by simpa using d) (by simpa using a)
 | [],_::_,h=>h.elim
 | _::_,[],h=>h.elim
theorem Q5O.den {ρ:Rn} {cs a:List V} (h:Q5O ρ cs a) {M:Nat->Prop} {w:World} {σ τ:Sg} {us:List Value} (b:TS ρ σ τ) (g:cs.length=us.length)
 (hd:∀(i:Nat) (v:V) (u:Value),cs[i]?=some v->us[i]?=some u->Den M w σ v u) :
 a.length=us.length/\∀(i:Nat) (v:V) (u:Value),a[i]?=some v->us[i]?=some u->Den M w τ v u:=by
 obtain⟨l,f⟩:=h.out;refine⟨by omega,fun i v u c e=>?_⟩;have d:i<cs.length:=by rw[<- l];exact(Qs.1 c).1
 exact(f i cs[i] v (by simp[d]) c).out M w σ τ u b (hd i cs[i] u (by simp[d]) e)
theorem J0b.tup {ρ:Rn} {cs c:List V} (h:Q5O ρ cs c):J0b ρ (.tup cs) (.tup c) :=
 ⟨fun M w σ τ u d hd=>by
   cases hd with|tup _ _ us e hd=>obtain⟨a,b⟩:=h.den d e hd;exact .tup _ _ _ a b⟩
theorem J0b.fn {ρ:Rn} {f:Fn} {b:Bool} {cs c:List V} (h:Q5O ρ cs c):J0b ρ (.fn f b cs) (.fn f b c) :=
 ⟨fun M w σ τ u d hd=>by
   cases hd with|fn _ _ _ _ us e hd=>obtain⟨a,b⟩:=h.den d e hd;exact .fn _ _ _ _ _ a b⟩
structure VLe (v v':V):Prop where
 out:∀M w u,Den M w Sg.none v u->Den M w Sg.none v' u
theorem VLe.rfl {v:V}:VLe v v:=⟨fun _ _ _ h=>h⟩
theorem VLe.of_eq {v a:V} (h:v=a):VLe v a:=by subst h;exact .rfl
theorem VLe.trans {a b c:V} (h:VLe a b) (d:VLe b c):VLe a c:=⟨fun M w u hd=>d.out M w u (h.out M w u hd)⟩
theorem VLe.fz {n m s:Nat} {J1J d:Bool} {f r:Nat->Nat->V} (t:n=m) (q:d=true->J1J=true) (h:∀i j,i<n->j<s->VLe (f i j) (r i j)):VLe (.fz n s J1J f) (.fz m s d r) :=
 ⟨fun M w u hd=>by
   subst t;cases hd with
   | fz0 _ _ _ _ a c l=>exact .fz0 _ _ _ _ _ _ (fun e=>l (q e))
   | fz _ _ _ _ _ b off c u l k x v g y hd=>exact .fz _ _ _ _ _ _ _ _ u l (fun e=>k (q e)) x v g y fun i j p o=>(h i j p o).out M w _ (hd i j p o)⟩
theorem VLe.nilfz {n s:Nat} {f:Nat->Nat->V} (a:n=0):VLe .nilslice (.fz n s false f) :=
 ⟨fun M w u hd=>by
   subst a;cases hd;exact .fz0 _ _ _ _ _ _ (by simp)⟩
theorem J0b.fz {ρ:Rn} {n b s:Nat} {J1J a:Bool} {f c:Nat->Nat->V} (d:n=b) (e:a=true->J1J=true) (h:∀i j,i<n->j<s->VLe (f i j) (c i j)):J0b ρ (.fz n s J1J f) (.fz b s a c) :=
 ⟨fun M w _ τ u _ hd=>((VLe.fz d e h).out M w u (hd.kf (show V.kf (.fz n s J1J f)=true from by rfl) Sg.none)).kf (show V.kf (.fz b s a c)=true from by rfl) τ⟩
def J4h (ρ:Rn) (env:Env):Env->Prop
 | []=>True
 | (t,v)::r=>(∃a,look env t=some a/\J0b ρ a v)/\J4h ρ env r
def OpR (ρ:Rn):List (Nat×Nat)->List (Nat×Nat)->Prop
 | [],[]=>True
 | (i,q)::r,(c,b)::a=>i=c/\look ρ b=some (some q)/\OpR ρ r a
 | _,_=>False
theorem OpR.look {ρ:Rn}:∀{op a:List (Nat×Nat)},OpR ρ op a->∀i,(Eng.look op i=none↔Eng.look a i=none)/\∀b,Eng.look a i=some b->∃q,Eng.look op i=some q/\Eng.look ρ b=some (some q)
 | [],[],_,i=>⟨Jb,fun q h=>by simp[Eng.look] at h⟩
 | (g,q0)::r,(f,c)::l,h,i=>by
   obtain⟨rfl,k,j⟩:=h;have d:=OpR.look j i;by_cases e:g=i
   . rw[J0j e,J0j e];exact⟨by simp,fun b e=>by simp at e;subst e;exact⟨q0,rfl,k⟩⟩
   . rw[J0o e,J0o e];exact d
 | [],_::_,h,_=>h.elim
 | _::_,[],h,_=>h.elim
def X8S (ρ:Rn):Blk->Blk->Prop
 | .fam n s len f op,.fam b k a e c=>b=n/\k=s/\OpR ρ op c/\(∀i,i<n->a i=len i)/\∀i j t,i<n->look op i=none->j<len i->t<s->VLe (f i j t) (e i j t)
 | .vec n s f,.fam b _ a _ c=>b=n/\s=1/\c=[]/\∀i,i<n->f i 0=.nilslice/\a i=0
 | .cells cs,.cells q=>Q5O ρ cs q
 | .vec n s f,.vec b k e=>b<=n/\s=k/\∀i j,i<b->j<s->VLe (f i j) (e i j)
 | .map ik x,.map o p=>∃h:o=ik,(h▸p)=x
 | .glob g n f,.glob w b e=>w=g/\b=n/\e=f
 | .iter v n J11,.iter m b d=>b=n/\d=J11/\look ρ m=some (some v)
 | .loop st u env N r C,.loop st' pe' env' y l z=>st'=st/\pe'=u/\y=N/\l=r/\z=C/\J4h ρ env env'
 | _,_=>False
def J2h (ρ:Rn) (own:Own):Own->Prop
 | []=>True
 | (k,b)::r=>(match look ρ k with
   | some (some c)=>∃a,look own c=some a/\X8S ρ a b
   | some none=>∃s f,b=.vec 0 s f
   | none=>False)/\J2h ρ own r
theorem J4h.look {ρ:Rn} {env:Env}:∀{m:Env},J4h ρ env m->∀t v,Eng.look m t=some v->∃a,Eng.look env t=some a/\J0b ρ a v
 | [],_,t,v,h=>by simp[Eng.look] at h
 | (d,a)::r,b,t,v,h=>by
   unfold Eng.look at h;split at h
   . rename_i c;have:=Qc c;subst this;cases h;exact b.1
   . exact J4h.look b.2 t v h
theorem J2h.mem {ρ:Rn} {own:Own}:∀{m:Own},J2h ρ own m->∀k b,(k,b)∈m->(∃g a,Eng.look ρ k=some (some g)/\Eng.look own g=some a/\X8S ρ a b)\/(Eng.look ρ k=some none/\∃s f,b=.vec 0 s f)
 | [],_,k,b,h=>by simp at h
 | (g,a)::r,i,k,b,h=>by
   rcases Qj.1 h with e|e
   . cases e;have c:=i.1;split at c
     . rename_i d hk;obtain⟨a,l,j⟩:=c;exact .inl ⟨d,a,hk,l,j⟩
     . rename_i hk;exact .inr ⟨hk,c⟩
     . exact c.elim
   . exact J2h.mem i.2 k b e
def rnB:Rn->Bool
 | []=>true
 | (k,o)::r=>r.all (fun p=>!Nat.beq p.1 k&&(match o,p.2 with|some a,some b=>!Nat.beq a b|_,_=>true))&&rnB r
def X1r (chg:List Nat):Rn->Bool
 | []=>true
 | (k,o)::r=>((match o with|some a=>Nat.beq k a|none=>false) || J1b k chg)&&X1r chg r
def ksB (ρ:Rn):List Nat->Bool
 | []=>true
 | k::r=>(match look ρ k with|none=>true|some _=>false)&&ksB ρ r
theorem Q3k:∀{ρ:Rn},rnB ρ=true->∀k b a,look ρ k=some (some a)->look ρ b=some (some a)->k=b
 | [],_,k,b,a,h,_=>by simp[look] at h
 | (q,o)::r,h,k,b,a,f,d=>by
   unfold rnB at h;simp only[Qg] at h;obtain⟨g,m⟩:=h;rw[Qy] at g;have c:∀j,look r j=some (some a)->o≠some a:=by
    intro j l e;subst e;have:=g _ (J0g l);simp at this
   cases i:Nat.beq q k<;>cases e2:Nat.beq q b<;>simp only[look,i,e2] at f d
   . exact Q3k m k b a f d
   . cases d;exact(c k f rfl).elim
   . cases f;exact(c b d rfl).elim
   . rw[<- Qc i,<- Qc e2]
theorem J2c {chg:List Nat}:∀{ρ:Rn},X1r chg ρ=true->∀k o,look ρ k=some o->o=some k\/k∈chg
 | [],_,k,o,h=>by simp[look] at h
 | (q,p)::r,h,k,o,hk=>by
   unfold X1r at h;simp only[Qg,Xv] at h;unfold look at hk;split at hk
   . rename_i e;have:=Qc e;subst this;cases hk;rcases h.1 with a|a
     . split at a
       . have:=Qc a;subst this;exact .inl rfl
       . cases a
     . exact .inr (J0k.1 a)
   . exact J2c h.2 k o hk
theorem Q0C {ρ:Rn}:∀{ks:List Nat},ksB ρ ks=true->∀k,k∈ks->look ρ k=none
 | [],_,k,h=>by simp at h
 | q::r,h,k,hk=>by
   unfold ksB at h;simp only[Qg] at h;rcases Qj.1 hk with e|e
   . subst e;have:=h.1;split at this
     . assumption
     . cases this
   . exact Q0C h.2 k e
def Sg.ren (ρ:Rn) (ks:List Nat) (σ:Sg):Sg:=fun k=>match look ρ k with
 | .some (.some a)=>σ a
 | .some .none=>.some (.none,0,0)
 | .none=>if J1b k ks then .none else σ k
theorem Sg.ren_ts (ρ:Rn) (ks:List Nat) (σ:Sg):TS ρ σ (σ.ren ρ ks):=fun k o h=>by
 unfold Sg.ren;cases o with
 | some a=>simp[h]
 | none=>simp[h]
theorem Q0Z {ρ:Rn} {M:Nat->Prop} {w:World} {σ τ:Sg} (K:TS ρ σ τ) {k k':Nat} {b' b:Blk} (hk:τ k=σ k') (L:J1t M w σ k' b') (d:X8S ρ b' b):J1t M w τ k b/\∀n,J0n w τ k b n->J0n w σ k' b' n:=by
 have plain:b.isFam=false->∀n,J0n w τ k b n->J0n w σ k' b' n:=fun hf n hn=>.inl (by rw[J3m hf] at hn;simpa[J0u,hk] using hn);cases b' with
 | cells cs =>
   cases b with
   | cells ab =>
     obtain⟨b,z,ty,us,y,A,o,D,J⟩:=L;obtain⟨q1,q2⟩:=Q5O.den (us:=us.toList) (d:Q5O ρ cs ab) K (by simpa using D.symm) (fun i v u hv hu=>J i v u hv (by simpa using hu));exact⟨⟨b,z,ty,us,by rw[hk];exact y,A,o,by simpa using q1.symm,fun i v u hv hu=>q2 i v u hv (by simpa using hu)⟩,plain rfl⟩
   | _=>exact(d:False).elim
 | map ik es =>
   cases b with
   | map a8 aa =>
     obtain⟨b,z,arr,y,A,o,D⟩:=L;obtain⟨rfl,rfl⟩:=(d:∃h:a8=ik,(h▸aa)=es);exact⟨⟨b,z,arr,by rw[hk];exact y,A,o,D⟩,plain rfl⟩
   | _=>exact(d:False).elim
 | glob g n f =>
   cases b with
   | glob g' E Y =>
     obtain⟨⟨base,z,y⟩,A⟩:=L;obtain⟨rfl,rfl,rfl⟩:=(d:g'=g/\E=n/\Y=f);exact⟨⟨⟨base,z,by rw[hk];exact y⟩,A⟩,plain rfl⟩
   | _=>exact(d:False).elim
 | iter km n J11 =>
   cases b with
   | iter a1 E S =>
     obtain⟨r,z,b,base,F,y,A,o,D⟩:=L;obtain⟨rfl,rfl,er⟩:=(d:E=n/\S=J11/\look ρ a1=some (some km));exact⟨⟨r,z,b,base,F,by rw[hk];exact y,A,by rw[K a1 _ er];exact o,D⟩,plain rfl⟩
   | _=>exact(d:False).elim
 | loop st pe a4 N0 ps C =>
   cases b with
   | loop st' pe' U ac a7 C' =>
     obtain⟨l,z,r,y,A,o,D,J,V,Q,z8,z9⟩:=L;obtain⟨rfl,rfl,rfl,rfl,rfl,er⟩:=(d:st'=st/\pe'=pe/\ac=N0/\a7=ps/\C'=C/\J4h ρ a4 U);refine⟨⟨l,z,r,by rw[hk];exact y,A,o,D,J,V,Q,z8,fun t v hv=>?_⟩,plain rfl⟩;obtain⟨v',y1,y2⟩:=J4h.look er t v hv;exact y2.out M w σ _ _ K (z9 t v' y1)
   | _=>exact(d:False).elim
 | vec n s f =>
   cases b with
   | cells=>exact(d:False).elim
   | loop=>exact(d:False).elim
   | map=>exact(d:False).elim
   | iter=>exact(d:False).elim
   | glob=>exact(d:False).elim
   | vec E s' Y =>
     obtain⟨c1,c2,P⟩:=(d:E<=n/\s=s'/\∀i j,i<E->j<s->VLe (f i j) (Y i j));subst c2;obtain⟨bo,base,z,y,A,o⟩:=L;refine⟨⟨bo,base,z,by rw[hk];exact y,by omega,?_⟩,plain rfl⟩;rcases o with o | ⟨b,ty,us,o,D,J,V,Q⟩
     . exact .inl o
     . refine .inr ⟨b,ty,us,o,D,J,V,fun i j p X=>?_⟩;obtain⟨u,u1,u2,W⟩:=Q i j (by omega) X;exact⟨u,u1,u2,(P i j p X).out M w u W⟩
   | fam E s' G Y R =>
     obtain⟨rfl,rfl,rfl,O⟩:=(d:E=n/\s=1/\R=[]/\∀i,i<n->f i 0=.nilslice/\G i=0);obtain⟨bo,base,z,y,A,o⟩:=L;rcases o with o | ⟨b,ty,us,o,D,J,V,Q⟩
     . refine⟨⟨bo,base,z,by rw[hk];exact y,A,.inl o⟩,fun m H=>?_⟩;rcases H with H | ⟨ob,B,F,us,ty,i,N,_⟩
       . exact .inl (by simpa[J0u,hk] using H)
       . rw[hk,y,o.2] at N;simp at N
     . subst o;have I:∀i,i<E->us[base+i]?=some (.slice none 0 0):=fun i p=>by
        obtain⟨u,u1,_,W⟩:=Q i 0 p (by omega);rw[(O i p).1] at W;cases W;simpa using u1
       have T:∀i r,i<E->¬ J3A us base i r:=fun i r p ⟨off,l,c,e,_⟩=>by rw[I i p] at e;simp at e
       refine⟨⟨_,base,z,by rw[hk];exact y,A,.inr ⟨b,ty,us,rfl,D,J,by omega,fun i p=>⟨_,I i p,none,0,by rw[(O i p).2],by rw[(O i p).2];exact Qd _,fun q hq=>(by cases hq),fun _ hc=>absurd hc (by omega)⟩,fun i i' r p a3 _ _ h1 _=>(T i r p h1).elim,fun i p _=>T i b p⟩⟩,fun m H=>?_⟩;rcases H with H | ⟨ob,B,F,Z,a0,i,N,e2,d,_,e5⟩
       . exact .inl (by simpa[J0u,hk] using H)
       . rw[hk,y] at N;simp only[Qf,Qu] at N;obtain⟨rfl,rfl,rfl⟩:=N;rw[J] at e2;simp only[Qf,Obj.cells.injEq] at e2;obtain⟨rfl,_⟩:=e2;exact(T i m d e5).elim
 | fam n s len f op =>
   cases b with
   | cells=>exact(d:False).elim
   | loop=>exact(d:False).elim
   | map=>exact(d:False).elim
   | iter=>exact(d:False).elim
   | glob=>exact(d:False).elim
   | vec=>exact(d:False).elim
   | fam E s' G Y R =>
     obtain⟨rfl,rfl,P,O,c5⟩:=(d:E=n/\s'=s/\OpR ρ op R/\(∀i,i<n->G i=len i)/\∀i j t,i<n->look op i=none->j<len i->t<s->VLe (f i j t) (Y i j t));obtain⟨bo,base,z,y,A,o⟩:=L;refine⟨⟨bo,base,z,by rw[hk];exact y,A,?_⟩,fun m H=>?_⟩
     . rcases o with o | ⟨b,ty,us,o,D,J,V,Q,z8,z9⟩
       . exact .inl o
       . refine .inr ⟨b,ty,us,o,D,J,V,fun i p=>?_,fun i i' r p a3 n1 n2 r1 r2=>z8 i i' r p a3 ((P.look i).1.2 n1) ((P.look i').1.2 n2) r1 r2,fun i p n1 r1=>z9 i p ((P.look i).1.2 n1) r1⟩;obtain⟨u,u1,a,c,u2,W,u4,u5⟩:=Q i p;refine⟨u,u1,a,c,by rw[O i p];exact u2,by rw[O i p];exact W,fun q' a9=>?_,fun hn hc=>?_⟩
         . obtain⟨q,y1,y2⟩:=(P.look i).2 q' a9;rw[O i p];exact(J0b.vec y2 rfl rfl).out M w σ τ u K (u4 q y1)
         . have a2:=(P.look i).1.2 hn;obtain⟨r,off,a6,a5,p1,p2,p3,p4,p5⟩:=u5 a2 hc;refine⟨r,off,a6,a5,p1,p2,p3,p4,fun j t X ht=>?_⟩;rw[O i p] at X;obtain⟨x,x1,x2,x3⟩:=p5 j t X ht;exact⟨x,x1,x2,(c5 i j t p a2 X ht).out M w x x3⟩
     . rcases H with H | ⟨ob,B,F,Z,a0,i,N,e2,d,e4,e5⟩
       . exact .inl (by simpa[J0u,hk] using H)
       . exact .inr ⟨ob,B,F,Z,a0,i,by rw[<- hk];exact N,e2,d,(P.look i).1.2 e4,e5⟩
theorem X1u {N:Nat} {chg:List Nat} {env env':Env} {own own':Own} {ks c:List Nat} (ρ:Rn) (he:J4h ρ env env') (T:J2h ρ own own') (x:J1x c=true) (A:J1x (own'.map (·.1))=true)
 (V:rnB ρ=true) (L:X1r chg ρ=true) (U:ksB ρ c=true):J3b N chg ⟨env,own,ks⟩ ⟨env',own',c⟩:=by
 constructor;intro B M w σ a s;have g:=Sg.ren_ts ρ c σ;have p:=J2h.mem T;have i:∀k b,(k,b)∈own'->∀n,J0n w (σ.ren ρ c) k b n->∃j m,look ρ k=some (some j)/\(j,m)∈own/\J0n w σ j m n:=by
  intro k b o n x;rcases p k b o with ⟨j,m,l,e2,E⟩ | ⟨l,P,f,rfl⟩
  . exact⟨j,m,l,J0g e2,(Q0Z g (g k _ l) (s.heap.own.blk j m (J0g e2)) E).2 n x⟩
  . have:(σ.ren ρ c) k=some (none,0,0):=g k _ l;simp[J0n,J6d,J0u,this] at x
 refine⟨M,σ.ren ρ c,⟨?_,⟨⟨?_,J22 A,?_⟩,?_,J22 x⟩,s.size,?_⟩,⟨.refl _ _ _,?_⟩,?_⟩
 . intro t v S;obtain⟨O,l,e2⟩:=J4h.look he t v S;exact e2.out M w σ _ _ g (s.env t O l)
 . intro k b o;rcases p k b o with ⟨j,m,l,e2,E⟩ | ⟨l,P,f,rfl⟩
   . exact(Q0Z g (g k _ l) (s.heap.own.blk j m (J0g e2)) E).1
   . have hk:(σ.ren ρ c) k=some (none,0,0):=g k _ l;exact⟨none,0,0,hk,Qd _,.inl ⟨rfl,rfl⟩⟩
 . intro k b j m n R Q C l e2;obtain⟨q,qb,W,u,r⟩:=i k b R n l;obtain⟨I,y,H,G,F⟩:=i j m Q n e2;by_cases J:q=I
   . subst J;exact C (Q3k V k j q W H)
   . exact s.heap.own.apart q qb I y n u G J r F
 . intro k hk;simp[Sg.ren,Q0C U k hk,J0k.2 hk]
 . refine⟨s.defers.base,fun d hd=>?_,s.defers.nodup⟩;obtain⟨D,e,q1,q2,q3,q4⟩:=s.defers.mark d hd;refine⟨D,e,q1,q2,?_,q4⟩;rintro⟨k,b,o,e⟩;obtain⟨q,qb,_,u,r⟩:=i k b o D e;exact q3 ⟨q,qb,u,r⟩
 . rintro n ⟨k,b,o,e⟩;obtain⟨q,qb,_,u,r⟩:=i k b o n e;exact .inl ⟨q,qb,u,r⟩
 . intro k hk K;unfold Sg.ren;split
   . rename_i j z;rcases J2c L k _ z with e|e
     . cases e;rfl
     . exact(K e).elim
   . rename_i z;rcases J2c L k _ z with e|e
     . cases e
     . exact(K e).elim
   . have:J1b k c=false:=by
      rw[<- Xb];exact fun h=>hk (J0k.1 h)
     simp[this]
def Q5e (own:Own) (v:V) (K:V->Prop):Prop :=
 match v with
 | .tup cs=>X3Q own cs fun cs=>K (.tup cs)
 | v=>bor own v K
theorem J4R {own:Own} {v:V} {K:V->Prop} (h:Q5e own v K):∃b,K b/\∀M w σ u,J2N M w σ own->Den M w σ v u->Den (J55 M w σ own) w Sg.none b u:=by
 unfold Q5e at h;split at h
 . rename_i cs;obtain⟨m,l,k,g⟩:=J3U h;refine⟨_,l,fun M w σ u j hd=>?_⟩;cases hd with
   | tup _ _ us n f =>
     refine .tup _ _ _ (by omega) fun i b d a c=>?_;have e:i<cs.length:=by rw[<- k];exact(Qs.1 a).1
     exact g M w σ j i cs[i] b d (by simp[e]) a (f i cs[i] d (by simp[e]) c)
 . exact J8O h
theorem Q45 {M:Nat->Prop} {w:World} {σ:Sg} {own own':Own} {ks a:List Nat} (s:J0T M w σ own ks) (ρ:Rn) (G:J2h ρ own own') (m:J1x a=true) (p:J1x (own'.map (·.1))=true)
 (I:rnB ρ=true) (H:ksB ρ a=true):J0T M w (σ.ren ρ a) own' a/\∀n,J0x w (σ.ren ρ a) own' n->∃k c g,look ρ k=some (some c)/\(c,g)∈own/\J0n w σ c g n:=by
 have d:=Sg.ren_ts ρ a σ;have j:=J2h.mem G;have h:∀k b,(k,b)∈own'->∀n,J0n w (σ.ren ρ a) k b n->∃c g,look ρ k=some (some c)/\(c,g)∈own/\J0n w σ c g n:=by
  intro k b l n m;rcases j k b l with ⟨c,g,i,e2,t⟩ | ⟨i,D,f,rfl⟩
  . exact⟨c,g,i,J0g e2,(Q0Z d (d k _ i) (s.own.blk c g (J0g e2)) t).2 n m⟩
  . have:(σ.ren ρ a) k=some (none,0,0):=d k _ i;simp[J0n,J6d,J0u,this] at m
 refine⟨⟨⟨?_,J22 p,?_⟩,?_,J22 m⟩,?_⟩
 . intro k b l;rcases j k b l with ⟨c,g,i,e2,t⟩ | ⟨i,D,f,rfl⟩
   . exact(Q0Z d (d k _ i) (s.own.blk c g (J0g e2)) t).1
   . have hk:(σ.ren ρ a) k=some (none,0,0):=d k _ i;exact⟨none,0,0,hk,Qd _,.inl ⟨rfl,rfl⟩⟩
 . intro k b c g n F E r i e2;obtain⟨q,qb,A,y,v⟩:=h k b F n i;obtain⟨B,o,z,x,u⟩:=h c g E n e2;by_cases C:q=B
   . subst C;exact r (Q3k I k c q A z)
   . exact s.own.apart q qb B o n y x C v u
 . intro k hk;simp[Sg.ren,Q0C H k hk,J0k.2 hk]
 . rintro n ⟨k,b,l,e⟩;obtain⟨q,qb,A,y,v⟩:=h k b l n e;exact⟨k,q,qb,A,y,v⟩
def rk (ρ:List (Nat×Nat)) (k:Nat):Nat:=match look ρ k with|some a=>a|none=>k
def V.rn1 (ρ:List (Nat×Nat)):V->V
 | .loc k o=>.loc (rk ρ k) o
 | .oel k s i j=>.oel (rk ρ k) s i j
 | .vec k s a len=>.vec (rk ρ k) s a len
 | .map k=>.map (rk ρ k)
 | .yld k=>.yld (rk ρ k)
 | v=>v
def Q9k (f:V->V):List V->List V
 | []=>[]
 | v::r=>f v::Q9k f r
def V.rn2 (ρ:List (Nat×Nat)):V->V
 | .agg cs=>.agg (Q9k (V.rn1 ρ) cs)
 | .fn f b cs=>.fn f b (Q9k (V.rn1 ρ) cs)
 | .iface t v=>.iface t (v.rn1 ρ)
 | v=>v.rn1 ρ
def V.rn3 (ρ:List (Nat×Nat)):V->V
 | .tup cs=>.tup (Q9k (V.rn2 ρ) cs)
 | v=>v.rn2 ρ
def Blk.rn (ρ:List (Nat×Nat)):Blk->Blk
 | .cells cs=>.cells (Q9k (V.rn2 ρ) cs)
 | .iter a n J11=>.iter (rk ρ a) n J11
 | b=>b
def J74 (ρ:List (Nat×Nat)):Own->Own
 | []=>[]
 | (k,b)::r=>(rk ρ k,b.rn ρ)::J74 ρ r
def V.in1 (ks:List Nat):V->Bool
 | .loc k _ | .oel k _ _ _ | .vec k _ _ _ | .map k | .yld k=>J1b k ks
 | .agg _ | .tup _ | .fn _ _ _ | .iface _ _=>false
 | _=>true
def V.in2 (ks:List Nat):V->Bool
 | .agg cs=>J3a (V.in1 ks) cs
 | .fn _ _ cs=>J3a (V.in1 ks) cs
 | .iface _ v=>v.in1 ks
 | v=>v.in1 ks
def V.in3 (ks:List Nat):V->Bool
 | .tup cs=>J3a (V.in2 ks) cs
 | v=>v.in2 ks
def J5E (ks:List Nat):Own->Bool
 | []=>true
 | (k,.cells cs)::r=>match J1b k ks,J3a (V.in2 ks) cs with|true,true=>J5E ks r|_,_=>false
 | (k,.vec _ _ _)::r=>match J1b k ks with|true=>J5E ks r|false=>false
 | (_,.loop _ _ _ _ _ _)::_=>false
 | (k,.map _ _)::r=>match J1b k ks with|true=>J5E ks r|false=>false
 | (k,.glob _ _ _)::r=>match J1b k ks with|true=>J5E ks r|false=>false
 | (k,.iter a _ _)::r=>match J1b k ks,J1b a ks with|true,true=>J5E ks r|_,_=>false
 | (k,.fam _ _ _ _ [])::r=>match J1b k ks with|true=>J5E ks r|false=>false
 | (_,.fam _ _ _ _ (_::_))::_=>false
theorem J5J {f:V->V}:∀{l:List V} {i:Nat} {v:V},(Q9k f l)[i]?=some v->∃x,l[i]?=some x/\v=f x
 | [],i,v,h=>by simp[Q9k] at h
 | x::r,i,v,h=>by
   cases i with
   | zero=>simp[Q9k] at h;exact⟨x,by simp,h.symm⟩
   | succ i=>simp[Q9k] at h;obtain⟨y,a,b⟩:=J5J h;exact⟨y,by simpa using a,b⟩
theorem J27 {f:V->V}:∀{l:List V},(Q9k f l).length=l.length
 | []=>rfl
 | _::r=>by simp[Q9k,J27 (l:=r)]
section
variable {M:Nat->Prop} {w:World} {τ σ:Sg} {ρ:List (Nat×Nat)} {dom:List Nat}
theorem Den.rn1 (H:∀k,J1b k dom=true->σ (rk ρ k)=τ k) {v:V} {u:Value} (h:Den M w τ v u) (e:v.in1 dom=true):Den M w σ (v.rn1 ρ) u:=by
 cases h with
 | bool=>exact .bool _ _
 | int=>exact .int _ _ _
 | str=>exact .str _ _
 | nilptr=>exact .nilptr _
 | nilslice=>exact .nilslice _
 | nilmap=>exact .nilmap _
 | nilfunc=>exact .nilfunc _
 | niliface=>exact .niliface _
 | loc _ k off b base f hk=>exact .loc _ _ _ _ _ _ ((H k e).trans hk)
 | oel _ k s i j b base f hk=>exact .oel _ _ _ _ _ _ _ _ ((H k e).trans hk)
 | vec _ k s t len x base f c a hk l p r=>exact .vec _ _ _ _ _ _ _ _ _ _ ((H k e).trans hk) l p r
 | map _ k b base f hk=>exact .map _ _ _ _ _ ((H k e).trans hk)
 | yld _ k b base f hk=>exact .yld _ _ _ _ _ ((H k e).trans hk)
 | fz0 _ _ _ _ _ _ g=>exact .fz0 _ _ _ _ _ _ g
 | fz _ _ _ _ _ _ _ _ u l g n m d o hd=>exact .fz _ _ _ _ _ _ _ _ u l g n m d o hd
 | fe _ _ _ _ _ _ _ _ u q n m d o hd=>exact .fe _ _ _ _ _ _ _ _ u q n m d o hd
 | raw=>exact .raw _ _
 | anyb=>exact .anyb _ _
 | top=>exact .top _ _
 | _=>simp[V.in1] at e
theorem Den.rn2 (H:∀k,J1b k dom=true->σ (rk ρ k)=τ k) {v:V} {u:Value} (h:Den M w τ v u) (c:v.in2 dom=true):Den M w σ (v.rn2 ρ) u:=by
 cases v with
 | agg cs =>
   cases h with
   | agg _ _ us d hd =>
     refine .agg _ _ _ (by rw[J27];exact d) fun i v u g e=>?_;obtain⟨x,a,rfl⟩:=J5J g;exact(hd i x u a e).rn1 H (J0v c x (Qw a))
 | fn f b cs =>
   cases h with
   | fn _ _ _ _ us d hd =>
     refine .fn _ _ _ _ _ (by rw[J27];exact d) fun i v u g e=>?_;obtain⟨x,a,rfl⟩:=J5J g;exact(hd i x u a e).rn1 H (J0v c x (Qw a))
 | iface t v=>cases h with|iface _ _ _ _ hd=>exact .iface _ _ _ _ (hd.rn1 H c)
 | _=>exact h.rn1 H c
theorem Den.rn3 (H:∀k,J1b k dom=true->σ (rk ρ k)=τ k) {v:V} {u:Value} (h:Den M w τ v u) (b:v.in3 dom=true):Den M w σ (v.rn3 ρ) u:=by
 cases v with
 | tup cs =>
   cases h with
   | tup _ _ us c hd =>
     refine .tup _ _ _ (by rw[J27];exact c) fun i v u e d=>?_;obtain⟨x,a,rfl⟩:=J5J e;exact(hd i x u a d).rn2 H (J0v b x (Qw a))
 | _=>exact h.rn2 H b
theorem J4w:∀{own:Own} {k:Nat} {b:Blk},(k,b)∈J74 ρ own->∃d f,(d,f)∈own/\k=rk ρ d/\b=f.rn ρ
 | [],k,b,h=>by simp[J74] at h
 | (q,c)::r,k,b,h=>by
   simp only[J74,Qj,Qu] at h;rcases h with ⟨rfl,rfl⟩|h
   . exact⟨q,c,by simp,rfl,rfl⟩
   . obtain⟨d,f,a,e⟩:=J4w h;exact⟨d,f,by simp[a],e⟩
theorem J6j:∀{own:Own},(J74 ρ own).map (·.1)=own.map fun p=>rk ρ p.1
 | []=>rfl
 | (q,c)::r=>by simp[J74,J6j (own:=r)]
theorem J1r:∀{own:Own},J5E dom own=true->∀k b,(k,b)∈own->J1b k dom=true/\(∀cs,b=.cells cs->J3a (V.in2 dom) cs=true)/\(∀st j env N i C,b≠.loop st j env N i C)/\(∀n s len f op,b=.fam n s len f op->op=[])/\∀d n J11,b=.iter d n J11->J1b d dom=true
 | [],_,k,b,h=>by simp at h
 | (q,.cells cs)::r,h,k,b,a=>by
   unfold J5E at h;split at h
   . rename_i c g;rcases Qj.1 a with e|e
     . cases e;exact⟨c,fun _ e=>by cases e;exact g,fun _ _ _ _ _ _ e=>(by cases e),fun _ _ _ _ _ e=>(by cases e),fun _ _ _ e=>by cases e⟩
     . exact J1r h k b e
   . cases h
 | (q,.vec _ _ _)::r,h,k,b,a=>by
   unfold J5E at h;split at h
   . rename_i c;rcases Qj.1 a with e|e
     . cases e;exact⟨c,fun _ e=>(by cases e),fun _ _ _ _ _ _ e=>(by cases e),fun _ _ _ _ _ e=>(by cases e),fun _ _ _ e=>by cases e⟩
     . exact J1r h k b e
   . cases h
 | (q,.loop _ _ _ _ _ _)::r,h,k,b,a=>by cases h
 | (q,.map _ _)::r,h,k,b,a=>by
   unfold J5E at h;split at h
   . rename_i c;rcases Qj.1 a with e|e
     . cases e;exact⟨c,fun _ e=>(by cases e),fun _ _ _ _ _ _ e=>(by cases e),fun _ _ _ _ _ e=>(by cases e),fun _ _ _ e=>by cases e⟩
     . exact J1r h k b e
   . cases h
 | (q,.glob _ _ _)::r,h,k,b,a=>by
   unfold J5E at h;split at h
   . rename_i c;rcases Qj.1 a with e|e
     . cases e;exact⟨c,fun _ e=>(by cases e),fun _ _ _ _ _ _ e=>(by cases e),fun _ _ _ _ _ e=>(by cases e),fun _ _ _ e=>by cases e⟩
     . exact J1r h k b e
   . cases h
 | (q,.iter d _ _)::r,h,k,b,a=>by
   unfold J5E at h;split at h
   . rename_i c g;rcases Qj.1 a with e|e
     . cases e;exact⟨c,fun _ e=>(by cases e),fun _ _ _ _ _ _ e=>(by cases e),fun _ _ _ _ _ e=>(by cases e),fun _ _ _ e=>by cases e;exact g⟩
     . exact J1r h k b e
   . cases h
 | (q,.fam _ _ _ _ [])::r,h,k,b,a=>by
   unfold J5E at h;split at h
   . rename_i c;rcases Qj.1 a with e|e
     . cases e;exact⟨c,fun _ e=>(by cases e),fun _ _ _ _ _ _ e=>(by cases e),fun _ _ _ _ _ e=>(by cases e;rfl),fun _ _ _ e=>by cases e⟩
     . exact J1r h k b e
   . cases h
 | (q,.fam _ _ _ _ (_::_))::r,h,k,b,a=>by cases h
theorem Q0H {w:World} {ρ:List (Nat×Nat)} {σ τ:Sg} {k:Nat} {b:Blk} {n:Nat} (h:σ (rk ρ k)=τ k):J0n w σ (rk ρ k) (b.rn ρ) n↔J0n w τ k b n:=by
 cases b<;>first|exact X2N h|(rw[J3m rfl,J3m rfl];simp only[J0u,h])
theorem J1t.rn (H:∀k,J1b k dom=true->σ (rk ρ k)=τ k) {k:Nat} {b:Blk} (h:J1t M w τ k b) (hk:J1b k dom=true) (A:(∀cs,b=.cells cs->J3a (V.in2 dom) cs=true)/\(∀st E env N D C,b≠.loop st E env N D C)/\(∀n s len f op,b=.fam n s len f op->op=[])/\∀o n J11,b=.iter o n J11->J1b o dom=true):J1t M w σ (rk ρ k) (b.rn ρ):=by
 obtain⟨A,y,z,hit⟩:=A;cases b with
 | map ik U =>
   obtain⟨b,e,arr,l,j,d,m⟩:=h;exact⟨b,e,arr,(H k hk).trans l,j,d,m⟩
 | glob g n f =>
   obtain⟨⟨base,e,l⟩,j⟩:=h;exact⟨⟨base,e,(H k hk).trans l⟩,j⟩
 | iter o n J11 =>
   obtain⟨r,e,b,base,p,l,j,d,m⟩:=h;exact⟨r,e,b,base,p,(H k hk).trans l,j,(H o (hit o n J11 rfl)).trans d,m⟩
 | loop st E env N D C=>exact(y _ _ _ _ _ _ rfl).elim
 | fam n s len f op =>
   obtain rfl:=z _ _ _ _ _ rfl;obtain⟨B,base,e,l,j,d⟩:=h;refine⟨B,base,e,(H k hk).trans l,j,?_⟩;rcases d with d | ⟨b,ty,us,d,m,t,J,I,G⟩
   . exact .inl d
   . refine .inr ⟨b,ty,us,d,m,t,J,fun i T=>?_,G⟩;obtain⟨u,P,a,c,O,L,_,K⟩:=I i T;exact⟨u,P,a,c,O,L,fun q S=>(by cases S),K⟩
 | cells cs =>
   obtain⟨b,e,ty,us,l,j,d,m,t⟩:=h;refine⟨b,e,ty,us,(H k hk).trans l,j,d,by rw[J27];exact m,fun i v u Q R=>?_⟩;obtain⟨x,F,rfl⟩:=J5J Q;exact(t i x u F R).rn2 H (J0v (A cs rfl) x (Qw F))
 | vec n s f =>
   obtain⟨B,base,e,l,j,d⟩:=h;exact⟨B,base,e,(H k hk).trans l,j,d⟩
end
def Q5f:List Nat->List Nat->(List (Nat×Nat)->List Nat->Prop)->Prop
 | [],ks,K=>K [] ks
 | k::r,ks,K=>match ks with
   | q::ks=>Q5f r ks fun l ks=>K ((k,q)::l) ks
   | []=>False
theorem J6Z:∀{e ks:List Nat} {K:List (Nat×Nat)->List Nat->Prop},Q5f e ks K->∃l d,K l d/\l.map (·.1)=e/\ks=l.map (·.2)++d
 | [],ks,K,h=>⟨[],ks,h,rfl,rfl⟩
 | k::r,ks,K,h=>by
   unfold Q5f at h;split at h
   . obtain⟨l,d,a,b,c⟩:=J6Z h;exact⟨_,d,a,by simp[b],by simp[c]⟩
   . exact h.elim
def J04:Rn->List (Nat×Nat)
 | []=>[]
 | (k,some q)::r=>(k,q)::J04 r
 | (_,none)::r=>J04 r
theorem J6e {k q:Nat}:∀{ρ:Rn},(k,q)∈J04 ρ->(k,some q)∈ρ
 | [],h=>by simp[J04] at h
 | (a,some b)::r,h=>by
   simp only[J04,Qj,Qu] at h;rcases h with ⟨rfl,rfl⟩|h
   . simp
   . simp[J6e h]
 | (a,none)::r,h=>by
   simp only[J04] at h;simp[J6e h]
theorem Q0x {ρ:List (Nat×Nat)} {k q:Nat} (h:look ρ k=some q):rk ρ k=q:=by simp[rk,h]
def X8L:List (Nat×Nat)->Bool
 | []=>true
 | (k,q)::r=>r.all (fun p=>!Nat.beq p.1 k&&!Nat.beq p.2 q)&&X8L r
theorem J4B:∀{ρ:List (Nat×Nat)},X8L ρ=true->∀k q,(k,q)∈ρ->look ρ k=some q
 | [],_,k,q,h=>by simp at h
 | (a,b)::r,h,k,q,d=>by
   unfold X8L at h;simp only[Qg,Qy] at h;rcases Qj.1 d with e|e
   . cases e;simp[look]
   . have c:=h.1 _ e;simp only[Zp] at c;have:Nat.beq a k=false:=by
      rw[<- Xb];intro f;have:=Qc f;subst this;simp at c
     simp only[look,this];exact J4B h.2 k q e
theorem Q44:∀{ρ:List (Nat×Nat)},X8L ρ=true->∀k c q,(k,q)∈ρ->(c,q)∈ρ->k=c
 | [],_,k,c,q,h,_=>by simp at h
 | (a,b)::r,h,k,c,q,g,f=>by
   unfold X8L at h;simp only[Qg,Qy] at h;rcases Qj.1 g with e|e<;>rcases Qj.1 f with d|d
   . cases e;cases d;rfl
   . cases e;have:=(h.1 _ d).2;simp at this
   . cases d;have:=(h.1 _ e).2;simp at this
   . exact Q44 h.2 k c q e d
theorem J15 {ρ:List (Nat×Nat)} {k:Nat} (h:J1b k (ρ.map (·.1))=true):∃q,(k,q)∈ρ:=by
 obtain⟨⟨a,b⟩,d,c⟩:=Qi.1 (J0k.1 h);simp only at c;subst c;exact⟨b,d⟩
def Y1A (own:Own) (ks:List Nat) (ρ:Rn) (b:List Nat) (v:V) (own':Own) (K:V->Own->List Nat->Prop):Prop :=
 Q5f b ks fun l a=>Chk (X8L (J04 ρ++l)&&v.in3 ((J04 ρ++l).map (·.1))&&J5E ((J04 ρ++l).map (·.1)) own')
  (K (v.rn3 (J04 ρ++l)) (J74 (J04 ρ++l) own'++J2J ((J04 ρ).map (·.2)) own) a)
theorem Q8b:∀{ρ:Rn},rnB ρ=true->∀k o,(k,o)∈ρ->look ρ k=some o
 | [],_,k,o,h=>by simp at h
 | (a,b)::r,h,k,o,d=>by
   unfold rnB at h;simp only[Qg,Qy] at h;rcases Qj.1 d with e|e
   . cases e;simp[look]
   . have c:=h.1 _ e;simp only[Zp] at c;have:Nat.beq a k=false:=by
      rw[<- Xb];intro f;have:=Qc f;subst this;simp at c
     simp only[look,this];exact Q8b h.2 k o e
theorem X73 {P:Program} {f:FuncId} {args E:List V} {own r:Own} {ks ks0:List Nat} {K:V->Own->List Nat->Prop} (ρ:Rn) (nk:List Nat)
 (a7:Q5O ρ args E) (U:J2h ρ own r) (C:(J1x ks0&&J1x (r.map (·.1))&&rnB ρ&&ksB ρ ks0&&(ρ.all fun p=>J1b p.1 (r.map (·.1))))=true)
 (h:J0N P f E r ks0 fun v own' _=>Y1A own ks ρ nk v own' K):J0N P f args own ks K:=by
 simp only[Qg] at C;obtain⟨⟨⟨⟨a6,ao⟩,ac⟩,aq⟩,X⟩:=C;rw[Qy] at X;constructor;intro M w σ us af hd hh;obtain⟨s0,ab⟩:=Q45 hh ρ U a6 ao ac aq;have aa:=Sg.ren_ts ρ ks0 σ;obtain⟨a1,a2⟩:=Q5O.den a7 aa af hd;refine(h.out M w (σ.ren ρ ks0) us a1 a2 s0).mono ?_;rintro e w' ⟨M',Z,v,own',ax,u,rfl,hv,N,I,kd,B⟩;obtain⟨l,a9,⟨Y,hK⟩,ay,y⟩:=J6Z B;simp only[Qg] at Y;obtain⟨⟨s,S⟩,g⟩:=Y;have W:=hh.knodup;rw[y,X4] at W;obtain⟨al,ak,aj⟩:=W
 -- what the names stand for now
 let rv:List (Nat×Nat):=l.map fun p=>(p.2,p.1);let i:Sg:=fun k=>match look rv k with|some d=>Z d|none=>σ k
 have au:∀p,p∈l->σ p.2=none:=fun p hp=>hh.fresh p.2 (by rw[y];simp;exact .inl ⟨p.1,hp⟩);have a5:∀d q,(d,q)∈l->look rv q=some d:=by
  intro d q c;have:∀(m:List (Nat×Nat)),(m.map (·.2)).Nodup->(d,q)∈m->look (m.map fun p=>(p.2,p.1)) q=some d:=by
   intro m
   induction m with
   | nil=>intro _ h;simp at h
   | cons p m ih =>
     intro t c;simp only[Qv,Q2] at t;rcases Qj.1 c with e|e
     . subst e;simp[look]
     . have a4:Nat.beq p.2 q=false:=by
        rw[<- Xb];intro B;have:=Qc B;exact t.1 (Qi.2 ⟨_,e,this.symm⟩)
       simp only[Qv,look,a4];exact ih t.2 e
  exact this l al c
 have j:∀k,k∉l.map (·.2)->i k=σ k:=by
  intro k hk;have:look rv k=none:=by
   cases e:look rv k with
   | none=>rfl
   | some q =>
     have:=J0g e;obtain⟨p,C,O⟩:=Qi.1 this;cases O;exact(hk (Qi.2 ⟨p,C,rfl⟩)).elim
  simp only[i,this]
 have ag:σ.le i:=by
  intro k x R;rw[j k fun c=>?_]
  . exact R
  . obtain⟨p,C,O⟩:=Qi.1 c;subst O;rw[au p C] at R;cases R
 have T:∀d q,(d,q)∈J04 ρ->∃b,(q,b)∈own/\look ρ d=some (some q)/\∃x,σ q=some x/\Z d=some x:=by
  intro d q c;have ae:=J6e c;have L:=Q8b ac d _ ae;have a6:=X _ ae;obtain⟨⟨k1,Q⟩,D,e2⟩:=Qi.1 (J0k.1 a6);simp only at e2;subst e2;rcases J2h.mem U _ _ D with ⟨k',b',z,G,_⟩ | ⟨z,_⟩
  . rw[L] at z;cases z;obtain⟨x,R⟩:=hh.own.key (J0g G);refine⟨b',J0g G,L,x,R,I.le _ x ?_⟩;rw[aa _ _ L];exact R
  . rw[L] at z;cases z
 have H:∀k,J1b k ((J04 ρ++l).map (·.1))=true->i (rk (J04 ρ++l) k)=Z k:=by
  intro k hk;obtain⟨q,c⟩:=J15 hk;rw[Q0x (J4B s k q c)];rcases Qr.1 c with c|c
  . obtain⟨b,B,_,x,R,an⟩:=T k q c;rw[ag q x R,an]
  . have:=a5 k q c;simp only[i,this]
 -- the callee's part
 have hA:∀k b,(k,b)∈J2n ((J04 ρ).map (·.2)) own->(k,b)∈own:=fun k b c=>(J07.1 c).1;have hC:∀k b,(k,b)∈J2J ((J04 ρ).map (·.2)) own->(k,b)∈own:=fun k b c=>(J0H.1 c).1;have a3:∀n,J0x w (σ.ren ρ ks0) r n->J0x w σ (J2n ((J04 ρ).map (·.2)) own) n:=by
  intro n t;obtain⟨k,k',b',D,e2,e3⟩:=ab n t;refine⟨k',b',J07.2 ⟨e2,?_⟩,e3⟩;have:∀(m:Rn),look m k=some (some k')->k'∈(J04 m).map (·.2):=by
   intro m
   induction m with
   | nil=>intro h;simp[look] at h
   | cons p m ih =>
     intro h;obtain⟨a,o⟩:=p;unfold look at h;split at h
     . cases h;simp[J04]
     . have:=ih h;cases o<;>simp only[J04,Qv,Qj]
       . exact this
       . exact .inr this
  exact this ρ D
 have A:((J74 (J04 ρ++l) own').map (·.1)).Nodup:=by
  rw[J6j];have t:=N.own.nodup;have ar:=J1r g;clear B hK N I kd S;have aw:∀(m:Own),(∀k b,(k,b)∈m->J1b k ((J04 ρ++l).map (·.1))=true)->(m.map (·.1)).Nodup->(m.map fun p=>rk (J04 ρ++l) p.1).Nodup:=by
   intro m
   induction m with
   | nil=>intro _ _;simp
   | cons p m ih =>
     intro hi t;simp only[Qv,Q2] at t ⊢;refine⟨fun c=>?_,ih (fun k b h=>hi k b (by simp[h])) t.2⟩;obtain⟨p',C,O⟩:=Qi.1 c;obtain⟨q,F⟩:=J15 (hi p.1 p.2 (by simp));obtain⟨q',ad⟩:=J15 (hi p'.1 p'.2 (by simp[C]));rw[Q0x (J4B s _ _ F),Q0x (J4B s _ _ ad)] at O;subst O;have:=Q44 s _ _ _ F ad;exact t.1 (Qi.2 ⟨p',C,this.symm⟩)
  exact aw own' (fun k b h=>(ar k b h).1) t
 have av:J0T M' w' i (J74 (J04 ρ++l) own') a9:=by
  refine⟨⟨?_,A,?_⟩,?_,ak⟩
  . intro k b c;obtain⟨d,Q,D,rfl,rfl⟩:=J4w c;obtain⟨i1,i2⟩:=J1r g d Q D;exact(N.own.blk d Q D).rn H i1 i2
  . intro k b k' b' n m1 m2 a4 D e2;obtain⟨d,Q,z1,rfl,rfl⟩:=J4w m1;obtain⟨a0,ah,a8,rfl,rfl⟩:=J4w m2;rw[Q0H (H d (J1r g d Q z1).1)] at D;rw[Q0H (H a0 (J1r g a0 ah a8).1)] at e2;exact N.own.apart d Q a0 ah n z1 a8 (fun e=>a4 (by rw[e])) D e2
  . intro k hk;rw[j k fun c=>aj k c k hk rfl];exact hh.fresh k (by rw[y];simp[hk])
 have ai:Tr M w σ (J2n ((J04 ρ).map (·.2)) own) M' w' i (J74 (J04 ρ++l) own'):=by
  refine⟨⟨I.adv.os,I.adv.tape,I.adv.output,I.adv.size,fun b B t=>I.adv.same b B fun x=>t (a3 b x),fun b B t=>I.adv.muts b B fun x=>t (a3 b x)⟩,?_,ag⟩;rintro n ⟨k,b,c,e⟩;obtain⟨d,Q,z1,rfl,rfl⟩:=J4w c;rw[Q0H (H d (J1r g d Q z1).1)] at e;rcases I.new n ⟨d,Q,z1,e⟩ with x|x
  . exact .inl (a3 n x)
  . exact .inr x
 have J:Kd σ (J2n ((J04 ρ).map (·.2)) own) ks i (J74 (J04 ρ++l) own') a9:=by
  refine⟨fun k hk=>by rw[y];simp[hk],fun k D e2=>?_,fun k hk=>?_⟩
  . rw[j k fun c=>e2 (by rw[y];exact X0 _ c)];exact D
  . rw[J6j] at hk;obtain⟨p,C,O⟩:=Qi.1 hk;obtain⟨q,F⟩:=J15 (J1r g p.1 p.2 C).1;rw[Q0x (J4B s _ _ F)] at O;subst O;rcases Qr.1 F with F|F
    . obtain⟨b,B,_⟩:=T _ _ F;exact .inl (Qi.2 ⟨(q,b),J07.2 ⟨B,Qi.2 ⟨_,F,rfl⟩⟩,rfl⟩)
    . exact .inr (by rw[y];exact X0 _ (Qi.2 ⟨_,F,rfl⟩))
 obtain⟨f1,f2⟩:=J9H hh hA hC (fun k hk hc=>by
  obtain⟨⟨q,b⟩,z,G⟩:=Qi.1 hk;obtain⟨⟨q',b'⟩,y1,y2⟩:=Qi.1 hc;simp only at G y2;subst G y2;exact(J0H.1 y1).2 (J07.1 z).2) (J29 hh.own.nodup) av ai J
 refine⟨M',i,_,_,_,u,rfl,hv.rn3 H S,f1,f2,⟨J.1,J.2.1,fun k hk=>?_⟩,hK⟩;rw[Zj] at hk;rcases Qr.1 hk with hk|hk
 . rcases J.2.2 k hk with x|x
   . obtain⟨⟨q,b⟩,z,G⟩:=Qi.1 x;exact .inl (Qi.2 ⟨_,(J07.1 z).1,G⟩)
   . exact .inr x
 . obtain⟨⟨q,b⟩,z,G⟩:=Qi.1 hk;exact .inl (Qi.2 ⟨_,(J0H.1 z).1,G⟩)
def X8x (ks:List Nat) (v:V) (own':Own) (K:V->Own->List Nat->Prop):Prop :=
 ∃ρ c a b,J0b ρ v c/\J2h ρ own' a/\(J1x b&&J1x (a.map (·.1))&&rnB ρ&&X1r ks ρ&&ksB ρ b&&(b.all fun k=>J1b k ks))=true/\K c a b
theorem J2d {P:Program} {f:FuncId} {args:List V} {own:Own} {ks:List Nat} {K:V->Own->List Nat->Prop} (h:J0N P f args own ks fun v own' _=>X8x ks v own' K):J0N P f args own ks K:=by
 constructor;intro M w σ us m hd C;refine(h.out M w σ us m hd C).mono ?_;rintro e w' ⟨F,d,v,own',L,u,rfl,N,y,r,kd,ρ,I,j,c,r1,B,A,R⟩;simp only[Qg,Qy] at A;obtain⟨⟨⟨⟨⟨Y,X⟩,W⟩,i⟩,U⟩,D⟩:=A;obtain⟨J,l⟩:=Q45 y ρ B Y X W U;have t:=Sg.ren_ts ρ c d;refine⟨F,d.ren ρ c,I,j,c,u,rfl,r1.out F w' d _ u t N,J,⟨r.adv,?_,?_⟩,⟨fun k hk=>J0k.1 (D k hk),?_,?_⟩,R⟩
 . intro n O;obtain⟨k,o,E,_,e2,S⟩:=l n O;exact r.new n ⟨o,E,e2,S⟩
 . intro k x s;have hk:k∉ks:=fun Q=>by rw[C.fresh k Q] at s;cases s
   have a:=r.le k x s;unfold Sg.ren;split
   . rename_i o g;rcases J2c i k _ g with e|e
     . cases e;exact a
     . exact(hk e).elim
   . rename_i g;rcases J2c i k _ g with e|e
     . cases e
     . exact(hk e).elim
   . have:J1b k c=false:=by
      rw[<- Xb];exact fun h=>hk (J0k.1 (D k (J0k.1 h)))
     simp only[this];exact a
 . intro k T e2;have a:=kd.2.1 k T e2;unfold Sg.ren;split
   . rename_i o g;rcases J2c i k _ g with e|e
     . cases e;exact a
     . exact(e2 e).elim
   . rename_i g;rcases J2c i k _ g with e|e
     . cases e
     . exact(e2 e).elim
   . split
     . rfl
     . exact a
 . intro k hk;obtain⟨⟨q,b⟩,H,z⟩:=Qi.1 hk;simp only at z;subst z;rcases J2h.mem B q b H with ⟨o,E,p,G,_⟩ | ⟨p,_⟩
   . rcases J2c i q _ p with e|e
     . cases e;exact kd.2.2 q (Qi.2 ⟨_,J0g G,rfl⟩)
     . exact .inr e
   . rcases J2c i q _ p with e|e
     . cases e
     . exact .inr e
abbrev mv (d s:Nat):SI:=⟨some d,.p (.mv (.t s)),none⟩
abbrev fl (d o s:Nat):SI:=⟨some d,.p (.fld o (.t s)),none⟩
abbrev ld (d s:Nat):SI:=⟨some d,.load none (.t s),none⟩
abbrev nc (d s:Nat):SI:=⟨some d,.p (.nilchk (.t s)),none⟩
theorem Br.dec {p:Prop} [Decidable p] {A B:Prop} (h1:p->A) (h2:¬ p->B):Br (decide p) A B:=⟨fun h=>h1 (Xe h),fun h=>h2 (Jj h)⟩
theorem Br.beq {a b:Int} {A B:Prop} (h1:a=b->A) (h2:a≠b->B):Br (a == b) A B:=⟨fun h=>h1 (by simpa using h),fun h=>h2 (by simpa using h)⟩
theorem Br.bne {a b:Int} {A B:Prop} (h1:a≠b->A) (h2:a=b->B):Br (a != b) A B:=⟨fun h=>h1 (by simpa using h),fun h=>h2 (by simpa using h)⟩
theorem Br.nbeq {a b:Nat} {A B:Prop} (h1:a=b->A) (h2:a≠b->B):Br (Nat.beq a b) A B:=⟨fun h=>h1 (Qc h),fun h=>h2 (Nat.ne_of_beq_eq_false h)⟩
theorem Br.nble {a b:Nat} {A B:Prop} (h1:a<=b->A) (h2:b<a->B):Br (Nat.ble a b) A B:=⟨fun h=>h1 (Qq h),fun h=>h2 (Km fun c=>by rw[Nat.ble_eq_true_of_le c] at h;cases h)⟩
theorem Br.any {b:Bool} {A B:Prop} (h1:b=true->A) (h2:b=false->B):Br b A B:=⟨h1,h2⟩
theorem Bd.nat {m n:Nat} {K:Nat->Prop} (h:m<=n) (a:K m):Bd (m:Int) n K:=⟨m,rfl,h,a⟩
theorem Bd.int {i:Int} {n:Nat} {K:Nat->Prop} (b:0<=i) (h:i<=n) (a:K i.toNat):Bd i n K:=⟨i.toNat,by omega,by omega,a⟩
theorem Ix.ofNat {m n:Nat} {K:Nat->Prop} (h:m<n) (a:K m):Ix (Int.ofNat m) n K:=⟨m,rfl,h,a⟩
def selE (env:Env):List Nat->Env
 | []=>[]
 | t::r=>match look env t with
   | some v=>(t,v)::selE env r
   | none=>selE env r
theorem X2A {P:Program} (q:P.follows .mixedOrders=true) {N:Nat} {bk:BK} {b:SC} {env:Env} {own:Own} {ks:List Nat} {K:Out->Prop} (e chg ks0:List Nat) {α:Type} (d:α->Env) (a:α->Own) (I:Nat->α->Prop) (l:Nat) (x0:α)
 (s:I l x0)
 (g:(chg.all fun k=>J1b k bk.ks&&(J1b k (own.map (·.1)) || J1b k ks))=true) (f:(ks0.all fun k=>J1b k ks)=true) (c:List Nat) (i:(c.all fun k=>J1b k (own.map (·.1)) || J1b k ks)=true)
 (h:∀x,(a x).map (·.1)=c)
 (j:J3b N chg ⟨env,own,ks⟩ ⟨d x0++selE env e,a x0,ks0⟩)
 (step:∀n x,I n x->vc P N bk b (d x++selE env e) (a x) ks0 fun o=>match o with
   | .normal st=>∃m st',m<n/\J3b N chg st st'/\∃x,I m x/\st'=⟨d x++selE env e,a x,ks0⟩
   | o=>K o):Q04 P N bk b env own ks K:=by
 simp only[Qy,Qg,Xv,J0k] at g f i;refine Q9p q chg c ks0 g f i (fun n st=>∃x,I n x/\st=⟨d x++selE env e,a x,ks0⟩) l _ j ⟨x0,s,rfl⟩ ?_ ?_
 . rintro n st ⟨x,_,rfl⟩;exact⟨rfl,fun k hk=>by simp only[h] at hk;exact hk⟩
 . rintro n env' own' p ⟨x,r,he⟩;cases he;exact step n x r
abbrev OC:=Env->Own->List Nat->(Env->Own->List Nat->Prop)->Prop
abbrev CC:=Env->Own->List Nat->(Out->Prop)->Prop
def gop (P:Program) (g:Option (Nat×Bool)) (op:SOp) (env:Env) (own:Own) (ks:List Nat) (K:V->Own->List Nat->Prop):Prop :=
 match g with
 | none=>vop P op env own ks K
 | some (t,a)=>match look env t with
   | some (.bool b)=>match Bool.xor b a with
     | false=>vop P op env own ks K
     | true=>K (.raw (.tuple #[])) own ks
   | some (.raw (.tuple _))=>K (.raw (.tuple #[])) own ks
   | _=>False
def gopO (P:Program) (g:Option (Nat×Bool)) (op:SOp) (env:Env) (own:Own) (ks:List Nat) (K:V->Own->List Nat->Prop):Prop :=
 match g with
 | none=>Q4k P op env own ks K
 | some (t,a)=>match look env t with
   | some (.bool b)=>match Bool.xor b a with
     | false=>Q4k P op env own ks K
     | true=>K (.raw (.tuple #[])) own ks
   | some (.raw (.tuple _))=>K (.raw (.tuple #[])) own ks
   | _=>False
def Y4a (env:Env) (d:Option Nat) (v:V) (K:Env->Prop):Prop :=
 match d with
 | some t=>K ((t,v)::env)
 | none=>K env
def oNil:OC:=fun env own ks K=>K env own ks
def X6R (P:Program) (s:SI) (_:List SI) (a:OC):OC:=fun env own ks K =>
 gopO P s.guard s.op env own ks fun v own ks=>Y4a env s.dst v fun env=>a env own ks K
def X5h (P:Program) (l:List SI):OC:=@List.rec SI (fun _=>OC) oNil (X6R P) l
def Y1e (P:Program) (g:Option (Nat×Bool)) (b:List Nat) (held:List (Option Nat×Nat×Nat)) (op:SOp) (env:Env) (own:Own) (ks:List Nat) (K:V->Own->List Nat->Prop):Prop :=
 J6X env g
  (J40 env b own [] fun d c=>vop P op env d ks fun v a ks=>J87 env a (X8k c a fun own=>K v own ks) held)
  (K (.raw (.tuple #[])) own ks)
def X0m (P:Program) (d:DI) (_:List DI) (b:OC):OC:=fun env own ks K =>
 match d with
 | .op _ s=>gop P s.guard s.op env own ks fun v own ks=>Y4a env s.dst v fun env=>b env own ks K
 | .eff _ a held s=>Y1e P s.guard a held s.op env own ks fun v own ks=>Y4a env s.dst v fun env=>b env own ks K
def Q4n (P:Program) (l:List DI):OC:=@List.rec DI (fun _=>OC) oNil (X0m P) l
def X9E (K:Out->Prop) (env:Env) (own:Own) (ks:List Nat):Prop:=K (.normal ⟨env,own,ks⟩)
def seqK (b:CC) (K:Out->Prop) (o:Out):Prop :=
 match o with
 | .normal ⟨env,own,ks⟩=>b env own ks K
 | .exit id st=>K (.exit id st)
 | .ret st=>K (.ret st)
def X4Y (id:Nat) (K:Out->Prop) (o:Out):Prop :=
 match o with
 | .normal st=>K (.normal st)
 | .exit a st=>K (match Nat.beq a id with|true=>.normal st|false=>.exit a st)
 | .ret st=>K (.ret st)
def Y6B (a b:CC) (env:Env) (own:Own) (ks:List Nat) (K:Out->Prop) (v:V):Prop :=
 match v with
 | .bool true=>a env own ks K
 | .bool false=>b env own ks K
 | .anyb=>Y1P (a env own ks K) (b env own ks K)
 | _=>False
def Y6G:CC:=fun env own ks K=>K (.normal ⟨env,own,ks⟩)
def Y6I (P:Program) (l:List SI):CC:=fun env own ks K=>X5h P l env own ks (X9E K)
def X75 (P:Program) (l:List DI):CC:=fun env own ks K=>Q4n P l env own ks (X9E K)
def Y6H (_ _:SC) (a b:CC):CC:=fun env own ks K=>a env own ks (seqK b K)
def X76 (c:X) (_ _:SC) (a b:CC):CC:=fun env own ks K=>c.get env (Y6B a b env own ks K)
def X0T (id:Nat) (_:SC) (b:CC):CC:=fun env own ks K=>b env own ks (X4Y id K)
def Y6J (P:Program) (N:Nat) (bk:BK) (b:SC) (_:CC):CC:=fun env own ks K=>Q04 P N bk b env own ks K
def Y6K (id:Nat):CC:=fun env own ks K=>K (.exit id ⟨env,own,ks⟩)
def cRet:CC:=fun env own ks K=>K (.ret ⟨env,own,ks⟩)
def cRf (P:Program) (N:Nat) (bk:BK) (g:X) (c:List Nat) (a b:SC) (_ _:CC):CC:=fun env own ks K=>X1e P N bk.r g c a b env own ks K
def vcR (P:Program) (N:Nat) (bk:BK) (c:SC):CC:=@SC.rec (fun _=>CC) Y6G (Y6I P) (X75 P) Y6H X76 X0T (Y6J P N bk) Y6K cRet (cRf P N bk) c
theorem Q4j {P:Program}:∀(l:List SI),X5h P l=J53 P l
 | []=>by
   funext env own ks K;simp only[J53];rfl
 | ⟨d,op,g⟩::r=>by
   show X6R P ⟨d,op,g⟩ r (X5h P r)=_;rw[Q4j r];funext env own ks K;simp only[X6R,gopO]
   conv=>rhs;unfold J53
   cases d<;>cases g with
   | none=>rfl
   | some p =>
     obtain⟨t,c⟩:=p;simp only;split
     . rename_i b a;simp only[a]
       try rfl
       all_goals (cases Bool.xor b c<;>rfl)
     . rename_i us a;simp only[a]
       try rfl
     . rename_i f e;split
       . rename_i b a;exact(f b a).elim
       . rename_i us a;exact(e us a).elim
       . rfl
theorem J7D {P:Program}:∀(l:List DI),Q4n P l=J1N P l
 | []=>by
   funext env own ks K;simp only[J1N];rfl
 | .op h ⟨d,op,g⟩::r=>by
   show X0m P (.op h ⟨d,op,g⟩) r (Q4n P r)=_;rw[J7D r];funext env own ks K;simp only[X0m,gop]
   conv=>rhs;unfold J1N
   unfold J6X;cases d<;>cases g with
   | none=>rfl
   | some p =>
     obtain⟨t,c⟩:=p;simp only;split
     . rename_i b a;simp only[a]
       try rfl
       all_goals (cases Bool.xor b c<;>rfl)
     . rename_i us a;simp only[a]
       try rfl
     . rename_i i f;split
       . rename_i b a;exact(i b a).elim
       . rename_i us a;exact(f us a).elim
       . rfl
 | .eff h e held ⟨d,op,g⟩::r=>by
   show X0m P (.eff h e held ⟨d,op,g⟩) r (Q4n P r)=_;rw[J7D r];funext env own ks K;simp only[X0m,Y1e]
   conv=>rhs;unfold J1N
   cases d<;>rfl
theorem Q1i {P:Program} {N:Nat} {bk:BK} (c:SC):vcR P N bk c=vc P N bk c:=by
 induction c with
 | skip=>funext env own ks K;simp only[vc];rfl
 | ops l =>
   show Y6I P l=_;funext env own ks K;simp only[Y6I,Q4j,vc];rfl
 | draw l =>
   show X75 P l=_;funext env own ks K;simp only[X75,J7D,vc];rfl
 | seq a b e d =>
   show Y6H a b (vcR P N bk a) (vcR P N bk b)=_;rw[e,d];funext env own ks K;simp only[Y6H,vc];congr 1;funext o;cases o<;>rfl
 | cond c a b e d =>
   show X76 c a b (vcR P N bk a) (vcR P N bk b)=_;rw[e,d];funext env own ks K;simp only[X76,vc];congr 1;funext v;cases v with
   | bool x=>cases x<;>rfl
   | _=>rfl
 | block id b h =>
   show X0T id b (vcR P N bk b)=_;rw[h];funext env own ks K;simp only[X0T,vc];congr 1;funext o;cases o with
   | exit f st=>simp only[X4Y];cases Nat.beq f id<;>rfl
   | _=>rfl
 | loop b h=>funext env own ks K;simp only[vc];rfl
 | exit id=>funext env own ks K;simp only[vc];rfl
 | ret=>funext env own ks K;simp only[vc];rfl
 | rf g i a b e d=>funext env own ks K;simp only[vc];rfl
def Y1T (rs:List RV) (K:V->Own->List Nat->Prop) (o:Out):Prop :=
 match o with
 | .normal ⟨env,own,ks⟩=>Q1P env own rs fun a=>Q65 a fun v=>K v own ks
 | .ret ⟨env,own,ks⟩=>Q1P env own rs fun a=>Q65 a fun v=>K v own ks
 | .exit _ _=>False
theorem X7s {P:Program} (g:P.follows .mixedOrders=true) {f:FuncId} {fn:Func} {c:Code} {b:SC} {rs:List RV} (j:P.funcs[f]?=some fn) (l:fn.body=some c) (k:J1p P fn.ntmps c=some b)
 (d:Q5H P fn.results.toList=some rs) {args:List V} {own:Own} {ks:List Nat} {K:V->Own->List Nat->Prop} (i:Nat.ble args.length fn.ntmps=true)
 (h:vcR P fn.ntmps ⟨ks,none⟩ b (J8w 0 args) own ks (Y1T rs K)):J0N P f args own ks K:=by
 refine Q2F g j l k d (Qq i) ?_;rw[Q1i] at h;have e:Y1T rs K=fun o=>match o with
  | .normal ⟨env,own,ks⟩=>Q1P env own rs fun a=>Q65 a fun v=>K v own ks
  | .ret ⟨env,own,ks⟩=>Q1P env own rs fun a=>Q65 a fun v=>K v own ks
  | .exit _ _=>False:=by
  funext o;cases o<;>rfl
 rw[e] at h;exact h
def X2O {α:Type} (N:Nat) (chg:List Nat) (st:α->St) (I:Nat->α->Prop) (n:Nat) (K:Out->Prop) (o:Out):Prop :=
 match o with
 | .normal st'=>∃m x,m<n/\I m x/\J3b N chg st' (st x)
 | .exit id st=>K (.exit id st)
 | .ret st=>K (.ret st)
theorem J1y {P:Program} (q:P.follows .mixedOrders=true) {N:Nat} {bk:BK} {b:SC} {env:Env} {own:Own} {ks:List Nat} {K:Out->Prop} (g chg ks0 h:List Nat) {α:Type} (f:α->Env) (d:α->Own) (I:Nat->α->Prop) (p:Nat) (x0:α)
 (v:I p x0)
 (i:((chg.all fun k=>J1b k bk.ks&&(J1b k (own.map (·.1)) || J1b k ks))&&(ks0.all fun k=>J1b k ks)&&(h.all fun k=>J1b k (own.map (·.1)) || J1b k ks))=true)
 (j:∀x,(d x).map (·.1)=h)
 (l:J3b N chg ⟨env,own,ks⟩ ⟨f x0++selE env g,d x0,ks0⟩)
 (step:∀n x,I n x->vcR P N bk b (f x++selE env g) (d x) ks0 (X2O N chg (fun x=>⟨f x++selE env g,d x,ks0⟩) I n K)):Q04 P N bk b env own ks K:=by
 simp only[Qg] at i;obtain⟨⟨u,t⟩,s⟩:=i;refine X2A q g chg ks0 f d I p x0 v u t h s j l ?_;intro n x r;have:=step n x r;rw[Q1i] at this;have e:X2O N chg (fun x=>⟨f x++selE env g,d x,ks0⟩) I n K=fun o=>match o with
  | .normal st=>∃m st',m<n/\J3b N chg st st'/\∃x,I m x/\st'=⟨f x++selE env g,d x,ks0⟩
  | o=>K o:=by
  funext o;cases o with
  | normal st =>
    apply propext;constructor
    . rintro⟨m,x,a,b,c⟩;exact⟨m,_,a,c,x,b,rfl⟩
    . rintro⟨m,_,a,c,x,b,rfl⟩;exact⟨m,x,a,b,c⟩
  | _=>rfl
 rw[e] at this;exact this
theorem J0h {P:Program} (f:P.follows .mixedOrders=true) {N:Nat} {bk:BK} {b:SC} {env:Env} {own:Own} {ks:List Nat} {K:Out->Prop} (c:List Nat) {α:Type} (a:α->Env) (I:Nat->α->Prop) (e:Nat) (x0:α)
 (g:I e x0)
 (d:J3b N [] ⟨env,own,ks⟩ ⟨a x0++selE env c,own,ks⟩)
 (step:∀n x,I n x->vcR P N bk b (a x++selE env c) own ks (X2O N [] (fun x=>⟨a x++selE env c,own,ks⟩) I n K)):Q04 P N bk b env own ks K :=
 J1y f c [] ks (own.map (·.1)) a (fun _=>own) I e x0 g (by simp only[Qg,Qy,Xv,J0k];exact⟨⟨by simp,fun k hk=>hk⟩,fun k hk=>.inl hk⟩) (fun _=>rfl) d step
theorem J2R {ks:List Nat} {v:V} {own':Own} {K:V->Own->List Nat->Prop} (mk:Own->Rn) (b:V) (a:Own) (f:K b a [])
 (d:J0b (mk own') v b) (e:J2h (mk own') own' a) (c:(J1x (a.map (·.1))&&rnB (mk own')&&X1r ks (mk own'))=true):X8x ks v own' K:=by
 simp only[Qg] at c;exact⟨mk own',b,a,[],d,e,by simp[J1x,ksB,c],f⟩
def Y2b (v:V) (i:Nat):Option Nat:=match v with
 | .agg cs=>match nth cs i with
   | some (.vec q _ _ _)=>some q
   | some (.loc q _)=>some q
   | some (.map q)=>some q
   | _=>none
 | .vec q _ _ _=>some q
 | .loc q _=>some q
 | .map q=>some q
 | _=>none
def Q0S (own:Own) (k i:Nat):Option Nat:=match look own k with
 | some (.cells cs)=>match nth cs i with
   | some v=>Y2b v 0
   | none=>none
 | _=>none
theorem Q8z {ks:List Nat} {v:V} {own':Own} {K:V->Own->List Nat->Prop} (mk:V->Own->Rn) (b:V) (a:Own) (f:K b a [])
 (d:J0b (mk v own') v b) (e:J2h (mk v own') own' a) (c:(J1x (a.map (·.1))&&rnB (mk v own')&&X1r ks (mk v own'))=true):X8x ks v own' K:=by
 simp only[Qg] at c;exact⟨mk v own',b,a,[],d,e,by simp[J1x,ksB,c],f⟩
theorem J3y {P:Program} {f:FuncId} {args c:List V} {own b:Own} {ks ks0:List Nat} {K:V->Own->List Nat->Prop} (ρ:Rn) (g:List Nat)
 (h:J0N P f c b ks0 fun v own' _=>Y1A own ks ρ g v own' K)
 (d:Q5O ρ args c) (e:J2h ρ own b) (i:(J1x ks0&&J1x (b.map (·.1))&&rnB ρ&&ksB ρ ks0&&(ρ.all fun p=>J1b p.1 (b.map (·.1))))=true):J0N P f args own ks K :=
 X73 ρ g d e i h
def LLe:List V->List V->Prop
 | [],[]=>True
 | v::r,a::b=>VLe v a/\LLe r b
 | _,_=>False
theorem LLe.out:∀{cs b:List V},LLe cs b->b.length=cs.length/\∀(i:Nat) (v c:V),cs[i]?=some v->b[i]?=some c->VLe v c
 | [],[],_=>⟨rfl,fun i v c h=>by simp at h⟩
 | v::r,c::g,h=>by
   obtain⟨l,f⟩:=LLe.out h.2;refine⟨by simp[l],fun i x e d a=>?_⟩;cases i with
   | zero=>simp at d a;subst d a;exact h.1
   | succ i=>exact f i x e (by simpa using d) (by simpa using a)
 | [],_::_,h=>h.elim
 | _::_,[],h=>h.elim
theorem VLe.agg {cs a:List V} (h:LLe cs a):VLe (.agg cs) (.agg a) :=
 ⟨fun M w u hd=>by
   obtain⟨l,e⟩:=h.out;cases hd with
   | agg _ _ us f hd =>
     refine .agg _ _ _ (by omega) fun i v u b d=>?_;have c:i<cs.length:=by rw[<- l];exact(Qs.1 b).1
     exact(e i cs[i] v (by simp[c]) b).out M w u (hd i cs[i] u (by simp[c]) d)⟩
theorem VLe.tup {cs a:List V} (h:LLe cs a):VLe (.tup cs) (.tup a) :=
 ⟨fun M w u hd=>by
   obtain⟨l,e⟩:=h.out;cases hd with
   | tup _ _ us f hd =>
     refine .tup _ _ _ (by omega) fun i v u b d=>?_;have c:i<cs.length:=by rw[<- l];exact(Qs.1 b).1
     exact(e i cs[i] v (by simp[c]) b).out M w u (hd i cs[i] u (by simp[c]) d)⟩
theorem VLe.int {k:IntKind} {a b:Int} (h:a=b):VLe (.int k a) (.int k b):=by subst h;exact .rfl
theorem VLe.bool {a b:Bool} (h:a=b):VLe (.bool a) (.bool b):=by subst h;exact .rfl
def Ret (P:Program) (f:FuncId) (args:List V) (X:V):Prop:=∀own ks,J0N P f args own ks fun v o k=>v=X/\o=own/\k=ks
theorem Q8j {P:Program} {f:FuncId} {args:List V} {X:V} (hk:J3a V.kf args=true) (h:J0N P f args [] KS fun v own' _=>Q5e own' v fun p=>VLe p X):Ret P f args X:=by
 intro own ks;constructor;intro M w σ us g hd x;refine(h.out M w Sg.none us g (fun i v u k s=>(hd i v u k s).kf (J0v hk v (Qw k)) Sg.none) (J3k KS J52)).mono ?_;rintro e w' ⟨o,a,v,own',r,u,rfl,k,n,j,_,c⟩;obtain⟨p,z,l⟩:=J4R c;have y:∀b,b<w.heap.size->(J55 o w' a own' b↔M b):=by
  intro b q;have m:¬ J0x w' a own' b:=fun t=>by
   rcases j.new b t with d|d
   . exact J0R d
   . omega
  constructor
  . intro d;exact(j.adv.muts b q J0R).1 d.1
  . intro d;exact⟨(j.adv.muts b q J0R).2 d,m⟩
 have c:=J3O (M'':=J55 o w' a own') x j y;exact⟨_,σ,X,own,ks,u,rfl,(z.out _ _ _ (l o w' a u n.own k)).mono (Ext.mk (fun _ _ h=>⟨h,rfl⟩) (Qd _)) (Sg.none_le σ),c.1,c.2,Kd.refl _ _ _,rfl,rfl,rfl⟩
def Q2X (env:Env) (t:Nat):Option Nat:=match look env t with
 | some v=>Y2b v 0
 | none=>none
theorem J0d {N:Nat} {chg:List Nat} {env env':Env} {own own':Own} {ks f:List Nat} (mk:Env->Own->Rn) (he:J4h (mk env own) env env') (h:J2h (mk env own) own own')
 (g:(J1x f&&J1x (own'.map (·.1))&&rnB (mk env own)&&X1r chg (mk env own)&&ksB (mk env own) f)=true):J3b N chg ⟨env,own,ks⟩ ⟨env',own',f⟩:=by
 simp only[Qg] at g;obtain⟨⟨⟨⟨a,b⟩,c⟩,d⟩,e⟩:=g;exact X1u (mk env own) he h a b c d e
theorem Ret.go {P:Program} {f:FuncId} {args:List V} {X:V} {own:Own} {ks:List Nat} {K:V->Own->List Nat->Prop} (h:Ret P f args X) (a:K X own ks):J0N P f args own ks K :=
 (h own ks).mono (by rintro _ _ _ ⟨rfl,rfl,rfl⟩;exact a)
theorem J0a {N:Nat} {chg:List Nat} {env env':Env} {own own':Own} {ks a:List Nat} (mk:Env->Own->Rn)
 (he:J4h (mk env own) env env':=by repeat' (first|exact True.intro|exact J0b.oel rfl rfl|exact J0b.map rfl|exact J0b.yld rfl|(refine J0b.fn ?_)|exact⟨rfl,rfl⟩|exact⟨rfl,rfl,rfl⟩|(refine⟨rfl,rfl,rfl,rfl,rfl,?_⟩)|(refine⟨⟨_,rfl,?_⟩,?_⟩)|exact J0b.kf rfl|exact J0b.int rfl|exact J0b.int (by omega)|exact J0b.loc rfl|exact J0b.vec rfl rfl rfl|exact J0b.vec rfl (by omega) (by omega)|exact J0b.nil rfl rfl|exact J0b.nil rfl (by omega)|exact J0b.fz rfl (fun h=>h) (fun _ _ _ _=>VLe.rfl)|(refine⟨Qd _,rfl,fun i j c b=>?_⟩)|(refine⟨by omega,rfl,fun i j c b=>?_⟩)|exact VLe.rfl|(refine⟨⟨_,_,rfl⟩,?_⟩)|(refine And.intro ?_ ?_)))
 (d:J2h (mk env own) own own':=by repeat' (first|exact True.intro|exact J0b.oel rfl rfl|exact J0b.map rfl|exact J0b.yld rfl|(refine J0b.fn ?_)|exact⟨rfl,rfl⟩|exact⟨rfl,rfl,rfl⟩|(refine⟨rfl,rfl,rfl,rfl,rfl,?_⟩)|(refine⟨⟨_,rfl,?_⟩,?_⟩)|exact J0b.kf rfl|exact J0b.int rfl|exact J0b.int (by omega)|exact J0b.loc rfl|exact J0b.vec rfl rfl rfl|exact J0b.vec rfl (by omega) (by omega)|exact J0b.nil rfl rfl|exact J0b.nil rfl (by omega)|exact J0b.fz rfl (fun h=>h) (fun _ _ _ _=>VLe.rfl)|(refine⟨Qd _,rfl,fun i j c b=>?_⟩)|(refine⟨by omega,rfl,fun i j c b=>?_⟩)|exact VLe.rfl|(refine⟨⟨_,_,rfl⟩,?_⟩)|(refine And.intro ?_ ?_)))
 (e:(J1x a&&J1x (own'.map (·.1))&&rnB (mk env own)&&X1r chg (mk env own)&&ksB (mk env own) a)=true:=by rfl):J3b N chg ⟨env,own,ks⟩ ⟨env',own',a⟩:=J0d mk he d e
theorem Br.tt {A B:Prop} (h:A):Br true A B:=Br.mk (fun _=>h) (fun e=>Bool.noConfusion e)
theorem Br.ff {A B:Prop} (h:B):Br false A B:=Br.mk (fun e=>Bool.noConfusion e) (fun _=>h)
theorem Ar.q {n:Int} {K:Int->Prop} (a:K n) (c:-9223372036854775808<=n:=by omega) (b:n<=9223372036854775807:=by omega):Ar .i64 n K:=Ar.i64 c b a
theorem Ix.q {m n:Nat} {K:Nat->Prop} (a:K m) (h:m<n:=by omega):Ix (m:Int) n K:=Ix.nat h a
theorem Ltn.q {i n:Nat} {K:Prop} (a:K) (h:i<n:=by omega):Ltn i n K:=.mk h a
theorem Len.q {i n:Nat} {K:Prop} (a:K) (h:i<=n:=by omega):Len i n K:=.mk h a
theorem tI:True:=True.intro
theorem Bd.q {m n:Nat} {K:Nat->Prop} (a:K m) (h:m<=n:=by omega):Bd (m:Int) n K:=Bd.nat h a
theorem Ix.w {i:Int} {n:Nat} {K:Nat->Prop} (m:Nat) (a:K m) (h:i=(m:Int):=by omega) (b:m<n:=by omega):Ix i n K:=Ix.mk m h b a
theorem Chk.q {b:Bool} {K:Prop} (a:K) (h:b=true:=by kernel_rfl):Chk b K:=.mk h a
theorem J0b.q {ρ:Rn} {k d s c len b a:Nat} (h:look ρ k=some (some d):=by exact rfl) (f:c=b:=by exact rfl) (e:len=a:=by exact rfl):J0b ρ (.vec d s c len) (.vec k s b a):=J0b.vec h f e
abbrev vR_:=@VLe.rfl
abbrev vE_:=@VLe.of_eq
abbrev J1A:Env->Own->Rn:=fun _ _=>[]
abbrev J1v:Env->Own->Rn:=fun _ _=>[(0,some 0)]
abbrev X4J:Env->Own->Rn:=fun _ _=>[(1,some 1),(0,some 0)]
abbrev J0r:Env->Own->Rn:=fun _ _=>[(0,some 0),(1,some 1)]
abbrev J4c:Env->Own->Rn:=fun _ _=>[(4,some 4),(6,some 6)]
abbrev X8K:Env->Own->Rn:=fun _ _=>[(1,some 1)]
abbrev iqd2:Env->Own->Rn:=fun _ _=>[(2,some 2)]
abbrev J1g:Env->Own->Rn:=fun _ _=>[(0,some 0),(1,some 1),(2,some 2)]
abbrev J4A:Env->Own->Rn:=fun _ _=>[(0,some 0),(1,some 1),(2,some 2),(3,some 3),(4,some 4)]
abbrev J1u:Env->Own->Rn:=fun _ _=>[(0,some 0),(1,some 1),(2,some 2),(3,some 3)]
abbrev J4d:Env->Own->Rn:=fun _ _=>[(0,some 0),(1,some 1),(2,some 2),(3,some 3),(4,some 4),(999,some 999)]
abbrev J0q:Env->Own->Rn:=fun _ _=>[(0,some 0),(1,some 1),(2,some 2),(3,some 3),(999,some 999)]
abbrev J65:Env->Own->Rn:=fun _ _=>[(0,some 0),(1,some 1),(2,some 2),(3,some 3),(5,some 5),(6,some 6),(7,some 7)]
abbrev J5Q:Env->Own->Rn:=fun _ _=>[(0,some 0),(1,some 1),(2,some 2),(3,some 3),(5,some 5),(6,some 6),(7,some 7),(8,some 8)]
abbrev J2w:Env->Own->Rn:=fun _ _=>[(0,some 0),(1,some 1),(2,some 2),(3,some 3),(4,some 4),(5,some 5)]
abbrev Q2e:Env->Own->Rn:=fun _ _=>[(0,some 0),(1,some 1),(28,some 28)]
abbrev J6q:Env->Own->Rn:=fun _ _=>[(0,some 0),(1,some 1),(999,some 999)]
abbrev Q2d:Env->Own->Rn:=fun _ _=>[(0,some 0),(1,some 1),(2,some 2),(999,some 999)]
abbrev J1f:Env->Own->Rn:=fun _ _=>[(0,some 0),(1,some 1),(2,some 2),(3,some 3),(4,some 4),(5,some 5),(6,some 6),(999,some 999)]
abbrev J4e:Env->Own->Rn:=fun _ _=>[(0,some 0),(1,some 1),(2,some 2),(3,some 3),(4,some 4),(5,some 5),(6,some 6)]
abbrev J17:Env->Own->Rn:=fun _ _=>[(0,some 0),(1,some 1),(2,some 2),(3,some 3),(4,some 4),(5,some 5),(6,some 6),(8,some 8)]
abbrev J5N:List Nat:=[1,2,3,4,5,6,7,8,9,10,11,12,13,14,15,16,17,18,19,20,21,22,23,24,25,26,27,28,29]
abbrev J1k:List Nat:=[2,3,4,5,6,7,8,9,10,11,12,13,14,15,16,17,18,19,20,21,22,23,24,25,26,27,28,29]
abbrev J2z:List Nat:=[3,4,5,6,7,8,9,10,11,12,13,14,15,16,17,18,19,20,21,22,23,24,25,26,27,28,29]
abbrev J8g:List Nat:=[7,8,9,10,11,12,13,14,15,16,17,18,19,20,21,22,23,24,25,26,27,28,29]
abbrev J3j:List Nat:=[4,5,6,7,8,9,10,11,12,13,14,15,16,17,18,19,20,21,22,23,24,25,26,27,28,29]
abbrev J9F:List Nat:=[5,6,7,8,9,10,11,12,13,14,15,16,17,18,19,20,21,22,23,24,25,26,27,28,29]
abbrev X9S:List Nat:=[9,10,11,12,13,14,15,16,17,18,19,20,21,22,23,24,25,26,27,28,29]
abbrev X9U:List Nat:=[8,9,10,11,12,13,14,15,16,17,18,19,20,21,22,23,24,25,26,27,28,29]
abbrev X4G:List Nat:=[6,7,8,9,10,11,12,13,14,15,16,17,18,19,20,21,22,23,24,25,26,27,28,29]
abbrev X69:List Nat:=[17,18,19,20,21,22,23,24,25,26,27,28,29,30,31,32,33,34,35,36,37,38,39,40,41,42,43,44,45,46,47,48,49,50,51,52,53,54,55,56,57,58,59]
abbrev X9V:List Nat:=[6,7,8,9,10,11,12,13,14,15,16,17,18,19,20,21,22,23,24,25,26,27,28,29,30,31,32,33,34,35,36,37,38,39]
abbrev X9T:List Nat:=[8,9,10,11,12,13,14,15,16,17,18,19,20,21,22,23,24,25,26,27,28,29,30,31,32,33,34,35,36,37,38,39]
abbrev X4F:List Nat:=[7,8,9,10,11,12,13,14,15,16,17,18,19,20,21,22,23,24,25,26,27,28,29,30,31,32,33,34,35,36,37,38,39]
abbrev X7a:List Nat:=[11,12,13,14,15,16,17,18,19,20,21,22,23,24,25,26,27,28,29,30,31,32,33,34,35,36,37,38,39]
end Go.Eng
