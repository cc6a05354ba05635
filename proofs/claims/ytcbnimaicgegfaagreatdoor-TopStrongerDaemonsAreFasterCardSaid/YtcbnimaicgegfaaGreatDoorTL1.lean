import Derived.Test.YtcbnimaicgegfaaGreatDoorTD11
set_option linter.all false
namespace Go.Proofs.YtcbnimaicgegfaaGreatDoor
open Go.Eng Go.Plain
set_option maxRecDepth 100000
structure X1c (s t:Tsy):Prop where
 n:s.n=t.n
 en:∀k,s.en k=t.en k
 ar:∀k,k<s.n->∀a∈s.ar k,a∈t.ar k/\a.2<s.n
 ne:∀k,k<s.n->t.ar k≠[]->s.ar k≠[]
theorem X85 {s:Tsy} {k x:Nat} (h:x∈s.to k):∃a∈s.ar k,a.2=x:=Qi.1 h
theorem X6N {s t:Tsy} (h:X1c s t) {lg:Nat->Bool} {L M:List Nat} (r:An.Ord s.n s.to lg L) (f:An.Ord t.n t.to lg M):∀(j k:Nat),M[j]?=some k->k∈L:=by
 intro j
 induction j using Nat.strongRecOn with
 | _ j i =>
   intro k hk;have o:k<t.n:=f.lt k (Qw hk);apply X7;intro m;obtain⟨v,u⟩:=r.out k (by have:=h.n;omega) m;rcases f.ord j k hk with q | ⟨q1,q2⟩
   . rw[v] at q;cases q
   . rcases u with e | ⟨x,l,b⟩
     . have c:=h.ne k (by have:=h.n;omega) (fun e2=>q1 (by simp[Tsy.to,e2]));exact c (Vy.1 e)
     . obtain⟨a,p,rfl⟩:=X85 l;obtain⟨g,d,e⟩:=q2 a.2 (Qi.2 ⟨a,(h.ar k (by have:=h.n;omega) a p).1,rfl⟩);exact b (i g d _ e)
theorem Q4G {s t:Tsy} (h:X1c s t) {lg:Nat->Bool} {L M:List Nat} (c:An.Ord s.n s.to lg L) (b:An.Ord t.n t.to lg M) {k:Nat} (hk:k∈M):k∈L:=by
 obtain⟨j,a,e⟩:=Xi.1 hk;exact X6N h c b j k (by rw[Qp a,e])
theorem X1c.refl {s:Tsy} (c:s.Ok):X1c s s:=⟨rfl,fun _=>rfl,fun k hk a b=>⟨b,(c.arc k hk a b).2.2⟩,fun _ _ h=>h⟩
theorem X1c.aft {s t:Tsy} (h:X1c s t) (b:Nat) (a:Nat×Nat):s.aft b a=t.aft b a:=by rw[Tsy.aft,Tsy.aft,h.en]
theorem X2V {b:Bool} {x y:Nat} (h:x<=y):flg b x<=flg b y:=by
 rw[flg,flg];split<;>omega
theorem Rnd.sub {s t:Tsy} (h:X1c s t) {lg:Nat->Bool} {F A:Nat->List Nat} {R z:Nat×Nat->Nat} {r B:Nat->Nat} (l:Rnd s lg F R r) (d:Rnd t lg A z B) {L:List Nat} (v:An.Ord s.n s.to lg L) :
 ∀(i k:Nat),L[i]?=some k->∀b,b∈F k->b∈A k->R (k,b)<=z (k,b):=by
 intro i
 induction i using Nat.strongRecOn with
 | _ i C =>
   intro k hk b p y;have f:k<s.n:=v.lt k (Qw hk);have m:k<t.n:=by have:=h.n;omega
   have G:=l.out k f b p;have u:=d.out k m b y;have D:lg k=false:=(l.rch.val k b p).2;rcases G.att with e | ⟨a,o,c,e⟩
   . rw[e];exact u.one
   . rcases v.ord i k hk with q | ⟨_,q⟩
     . rw[D] at q;cases q
     . obtain⟨j,E,e2⟩:=q a.2 (Qi.2 ⟨a,o,rfl⟩);have g:=(h.ar k f a o).1;have x:=C j E a.2 e2 (s.aft b a).1 (l.rch.clo k b p a o c) (by rw[h.aft];exact d.rch.clo k b y a g c);have w:=u.sup a g c;simp only at e w;rw[e,h.aft];rw[h.aft] at x;exact Zw (X2V x) w
theorem Rnd.le {s t:Tsy} (h:X1c s t) {lg:Nat->Bool} {F o:Nat->List Nat} {R m:Nat×Nat->Nat} {r f:Nat->Nat} (d:Rnd s lg F R r) (a:Rnd t lg o m f) {L:List Nat} (l:An.Ord s.n s.to lg L) (c:∀k,k<s.n->k∈L) {k:Nat} (hk:k<s.n):r k<=f k:=by
 have b:k<t.n:=by have:=h.n;omega
 rw[d.num k hk,a.num k b];cases g:lg k with
 | true=>rw[Qe rfl,Qe rfl];exact Qd _
 | false =>
   rw[Qb (by simp),Qb (by simp),<- h.en];obtain⟨j,i,e⟩:=Xi.1 (c k hk);exact Rnd.sub h d a l j k (by rw[Qp i,e]) _ (d.rch.ini k hk g) (by rw[h.en];exact a.rch.ini k b g)
theorem Grt.sub {s t:Tsy} (h:X1c s t) {lg:Nat->Bool} {c:Nat×Nat->Nat} {r u:Nat->Nat} (d:Grt s lg c r) (b:Grt t lg c u) {L:List Nat} (g:An.Ord s.n s.to lg L) (a:∀k,k<s.n->k∈L) {k:Nat} (hk:k<s.n):r k<=u k:=by
 obtain⟨j,f,e⟩:=Xi.1 (a k hk);exact Grt.le d b h.n h.ar g j k (by rw[Qp f,e])
theorem X7Q {g:G} (hg:g.valid=true) {a b:Int} (j:wi a b=true) {e:Nat} (he:e<4294967296) (f:(chs g a e).2=0) (d:(chs g b e).2=0) {s:Nat} (k:s∈(chs g a e).1):s∈(chs g b e).1:=by
 rw[wi,Qa] at j;obtain⟨n,m,l⟩:=j;have c:=J3S he s k;have p:=(J4G (J4f.2 n) he c f).1 k;refine(J4G (J4f.2 m) he c d).2 ?_;obtain⟨i,o,h⟩:=J1D.1 p;refine J1D.2 ⟨i,o,?_⟩;rcases l with rfl|rfl | ⟨rfl,rfl⟩
 . exact h
 . exact okC3
 . exact okC2.2 (Q55 hg i c (Y4d.1 h))
theorem X5u {p:Pr} (hp:J2C p) {g:G} (hF:J1L p g) (hg:g.valid=true) {a b:Int} (o:wi a b=true) (d:g.ids.length<=10):X1c (J3t p g a) (J3t p g b):=by
 have i:=o;rw[wi,Qa] at i;obtain⟨t,r,y⟩:=i;have c:=J4f.2 t;have h:=J4f.2 r;refine⟨rfl,fun _=>rfl,fun k hk x j=>?_,fun k hk n=>?_⟩
 . have j:x∈J5q p g a k:=j;rw[J5q] at j;obtain⟨s,l,rfl⟩:=Qi.1 j;have f:=J5l p hg (cfK p g k);have m:=(J4G c f (J3S f s l) (J4S hg c d _)).1 l;obtain⟨_,u,_⟩:=J1D.1 m;refine⟨?_,Q8g hp hF hg (J25 hp hF hg (J7x hp hF hg k) ((J05 (J3S f s l)).1 u))⟩;show _∈J5q p g b k;rw[J5q];exact Qi.2 ⟨s,X7Q hg o f (J4S hg c d _) (J4S hg h d _) l,rfl⟩
 . have m:=Q0T hg c (J5l p hg (cfK p g k)) (J3x p hg _) (J4S hg c d _);have w:=Q0T hg h (J5l p hg (cfK p g k)) (J3x p hg _) (J4S hg h d _);intro e;apply n;have e:J5q p g a k=[]:=e;show J5q p g b k=[];rw[J5q,Vy] at e ⊢;rw[e] at m;have v:enN p g (cfK p g k)=0:=X7 fun q=>by have:=m.2 q;simp at this
   apply Yi.1;have:=mt w.1 (fun q=>q v);omega
set_option maxHeartbeats 16000000
theorem Y1G (n:Nat) (c:n<=9223372036854775807) (b:Nat->Bool) (h:∀k,k<n->b k=false):Ret Tryz.prog 10 [blV n b] (.bool false):=by
 refine rf fj10 ?_
 all_goals conv=>whnf
 refine J0h J0c [0] (fun i:Nat=>[(3,.int .i64 ((i:Nat):Int))]) (fun m i=>m=n-i/\i<=n) n 0 ⟨rfl,Qh _⟩ ?_ ?_
 . exact J0a J1A
 rintro m i ⟨d,e⟩;by_cases a:i<n
 . have f:=h i a;refine Vq ?_;refine⟨n-(i+1),i+1,by omega,⟨rfl,by omega⟩,?_⟩;exact J0a J1A
 . exact Wq
theorem X8l (n:Nat) (l:n<=9223372036854775807) (b:Nat->Bool) (h:∃k,k<n/\b k=true):Ret Tryz.prog 10 [blV n b] (.bool true):=by
 obtain⟨d,f,c⟩:=h;refine rf fj10 ?_
 all_goals conv=>whnf
 refine J0h J0c [0] (fun i:Nat=>[(3,.int .i64 ((i:Nat):Int))]) (fun m i=>m=n-i/\i<=n/\∀k,k<i->b k=false) n 0 ⟨rfl,Qh _,fun k h=>by omega⟩ ?_ ?_
 . exact J0a J1A
 rintro m i ⟨o,p,a⟩;by_cases g:i<n
 . cases j:b i with
   | true =>
     exact Wq
   | false =>
     refine Vq ?_;refine⟨n-(i+1),i+1,by omega,⟨rfl,by omega,fun k hk=>?_⟩,?_⟩
     . by_cases e:k=i
       . subst e;exact j
       . exact a k (by omega)
     . exact J0a J1A
 . exfalso;have:=a d (by omega);rw[c] at this;cases this
structure NumX (s:Tsy) (lg:Nat->Bool) (r1 r2 r3:Nat->Nat) (F:Nat->List Nat) (R:Nat×Nat->Nat):Prop where
 st:Grt s lg Y1s r1
 mv:Grt s lg Y18 r2
 rd:Rnd s lg F R r3
theorem J9w (s:Tsy) (d:s.Ok) (lg:Nat->Bool) (a:∀L,An.Ord s.n s.to lg L->∀k,k<s.n->k∈L) (g:∀k,k<s.n->s.en k<16) (l:s.n<=120) :
 Q5N Tryz.prog 11 [s.v,blV s.n lg] fun v=>∃r1 c b F R,NumX s lg r1 c b F R/\v=.tup [inV s.n r1,inV s.n c,inV s.n b,.bool true]:=by
 have j:=Q7N s d lg a;have i:=Q9a s d lg a;have h:=Q6e s d lg a 16 g (by omega);refine J31 rfl ?_;refine fr fj11 ?_
 repeat' ((conv=>whnf);first|(refine Br.tt ?_)|(refine Br.dec ?_ ?_<;>intro _<;>try omega)|(refine j.go ?_;rintro _ ⟨r1,f,_,rfl⟩)|(refine i.go ?_;rintro _ ⟨c,e,_,rfl⟩)|(refine h.go ?_;rintro _ ⟨F,R,b,hr3,_,rfl⟩))
 all_goals conv=>whnf
 all_goals exact⟨_,⟨r1,c,b,F,R,⟨f,e,hr3⟩,rfl⟩,VLe.tup ⟨vR_,vR_,vR_,vR_,tI⟩⟩
theorem Q7d.en {p:RP} {g:G} {kd:Int} {n:Nat} (h:Q7d p g kd n) (k:Nat):(J3t (J2L p) g kd).en k<16:=by
 have b:=Q5m (J2L p) g (cfK (J2L p) g k);have a:2 ^ g.ids.length<=2 ^ 4:=Xs (by omega) h.p4;show enN (J2L p) g (cfK (J2L p) g k)<16;omega
theorem Q4H {s:Tsy} (a:s.Ok) {lg:Nat->Bool} {L:List Nat} (c:An.Ord s.n s.to lg L) (h:∀k,k<s.n->k∈L):∀M,An.Ord s.n s.to lg M->∀k,k<s.n->k∈M:=fun M b k hk=>Q4G (X1c.refl a) b c (h k hk)
theorem X4E (k:Int):1<=1+md4 k/\1+md4 k<=4:=by have:=Q9e k;omega
theorem Q3E (p:RP) (hs:p.Small) (g:G) (hg:g.Small) (a:Int) (ha:-9223372036854775808<=a/\a<=9223372036854775807) (b:Int) (hb:-9223372036854775808<=b/\b<=9223372036854775807) (n:Nat) (P:n<=9223372036854775807) (lg:Nat->Bool) :
 RG 3 [p.v,g.v,.int .i64 a,.int .i64 b,blV n lg] (.bool true):=by
 have a8:=X3U;have V:=Q9b a ha;have U:=Q9b b hb;obtain⟨a1,a2⟩:=X4E a;obtain⟨b1,b2⟩:=X4E b;have hS:=Q1m p hs g hg (1+md4 a) n P lg;have d:=Q1m p hs g hg (1+md4 b) n P lg;have S:=Q3m (1+md4 a) (1+md4 b);have H:=Q6J (1+md4 a) (1+md4 b);rcases hS with hS | ⟨C,hS⟩
 . have d:∃X y z,RG 5 [p.v,g.v,.int .i64 (1+md4 b),blV n lg] (.tup [.agg [.fz X 1 false y,.fz X 1 false z],.bool false,.bool false])\/RG 5 [p.v,g.v,.int .i64 (1+md4 b),blV n lg] (.tup [.agg [.nilslice,.nilslice],.bool false,.bool false])\/RG 5 [p.v,g.v,.int .i64 (1+md4 b),blV n lg] (.tup [.agg [.fz X 1 false y,.fz X 1 false z],.bool true,.bool true]):=by
    rcases d with d | ⟨_,d⟩
    . exact⟨0,fun _ _=>.nilslice,fun _ _=>.nilslice,.inr (.inl d)⟩
    . exact⟨_,_,_,.inr (.inr d)⟩
   obtain⟨X,y,z,d⟩:=d;generalize md4 a=A at *;generalize md4 b=B at *;rcases d with d|d|d
   all_goals
    refine J1e rfl ?_;refine fr fj3 ?_;exact Wq
 . rcases d with d | ⟨Q,d⟩
   . generalize J3t (J2L p) g (1+md4 a)=s at *;generalize md4 a=A at *;generalize md4 b=B at *;refine J1e rfl ?_;refine fr fj3 ?_;exact Wq
   . cases ew:wi (1+md4 a) (1+md4 b) with
     | false =>
       rw[ew] at S;generalize J3t (J2L p) g (1+md4 a)=s at *;generalize J3t (J2L p) g (1+md4 b)=t at *;generalize md4 a=A at *;generalize md4 b=B at *;refine J1e rfl ?_;refine fr fj3 ?_;exact Wq
     | true =>
       rw[ew] at S H;have l:=X5u C.top.ok C.fit C.hg ew (by have:=C.p4;omega);have w:=C.ok;have u:=Q.ok;have J:=C.en;have I:=Q.en;have e:(J3t (J2L p) g (1+md4 a)).n=n:=C.len.symm;have x:(J3t (J2L p) g (1+md4 b)).n=n:=Q.len.symm;have a4:n<=120:=by have:=C.len;have:=C.cnt;omega
       clear C Q;generalize J3t (J2L p) g (1+md4 a)=s at *;generalize J3t (J2L p) g (1+md4 b)=t at *;generalize md4 a=A at *;generalize md4 b=B at *;have N:=X0q s w lg;have K:=X0q t u lg;have r:=fun h=>J9w s w lg h (fun k _=>J k) (by omega);have o:=fun h=>J9w t u lg h (fun k _=>I k) (by omega);have a3:s.v=.agg [.fz n 1 false (vEn s),.fz n 1 false (X4c s)]:=by rw[Tsy.v,e]
       rw[e] at N;rw[x] at K;simp only[e] at r;simp only[x] at o;refine J1e rfl ?_;refine fr fj3 ?_
       repeat' ((conv=>whnf);first|(refine Br.tt ?_)|(refine Br.ff ?_)|(refine Br.bne ?_ ?_<;>intro _<;>try omega)|(refine Ar.q ?_)|(refine V.go ?_)|(refine U.go ?_)|(refine hS.gog ?_)|(refine d.gog ?_)|(refine S.go ?_)|(refine H.go ?_)|(refine N.go ?_;rintro _ ⟨L,Z,rfl⟩)|(refine K.go ?_;rintro _ ⟨M,hM,rfl⟩))
       all_goals conv=>whnf
       have E:∀k,k∈M->k∈L:=fun k hk=>Q4G l (by rw[e];exact Z) (by rw[x];exact hM) hk;have O:∀k,(!decide (k∈L))=true->(!decide (k∈M))=true:=fun k h=>by
        simp only[Zp,Qo] at h ⊢;exact fun q=>h (E k q)
       refine J0h J0c [4,11,14,17,19] (fun k:Nat=>[(21,.int .i64 ((k:Nat):Int))]) (fun m k=>m=n-k/\k<=n) n 0 ⟨rfl,Qh _⟩ ?_ ?_
       . exact J0a J0q
       rintro m k ⟨hm,hk⟩;by_cases a6:k<n
       . cases e1:(!decide (k∈L)) with
         | false =>
           refine Vq ?_;refine⟨n-(k+1),k+1,by omega,⟨rfl,by omega⟩,?_⟩;exact J0a J0q
         | true =>
           have e2:=O k e1;refine Vq ?_;refine⟨n-(k+1),k+1,by omega,⟨rfl,by omega⟩,?_⟩;exact J0a J0q
       . obtain rfl:k=n:=by omega
         by_cases c:∀i,i<k->i∈M
         . have T:=Y1G k P (fun i=>!decide (i∈M)) (fun i f=>by have:=c i f;simp[this]);have r:=r (fun L' j i f=>Q4H w (L:=L) (by rw[e];exact Z) (fun i f=>E i (c i (by omega))) L' (by rw[e];exact j) i (by omega));have o:=o (fun L' j i f=>Q4H u (L:=M) (by rw[x];exact hM) (fun i f=>c i (by omega)) L' (by rw[x];exact j) i (by omega))
           repeat' ((conv=>whnf);first|(refine Br.tt ?_)|(refine Br.ff ?_)|(refine Br.dec ?_ ?_<;>intro _<;>try omega)|(refine T.go ?_)|(refine r.go ?_;rintro _ ⟨r1,r2,r3,F,R,Y,rfl⟩)|(refine o.go ?_;rintro _ ⟨u1,u2,u3,F',R',W,rfl⟩))
           all_goals conv=>whnf
           have D:∀i,i<s.n->i∈L:=fun i f=>E i (c i (by omega));have j:An.Ord s.n s.to lg L:=by rw[e];exact Z
           have c1:=fun i f=>Grt.sub l Y.st W.st j D (k:=i) f;have c2:=fun i f=>Grt.sub l Y.mv W.mv j D (k:=i) f;have c3:=fun i f=>Rnd.le l Y.rd W.rd j D (k:=i) f;refine J0h J0c [4,22,23,24,26,27,28] (fun i:Nat=>[(30,.int .i64 ((i:Nat):Int))]) (fun m i=>m=k-i/\i<=k) k 0 ⟨rfl,Qh _⟩ ?_ ?_
           . exact J0a J0q
           rintro m2 i ⟨a5,f⟩;by_cases a7:i<k
           . have d1:=c1 i (by omega);have d2:=c2 i (by omega);have d3:=c3 i (by omega);refine Vq ?_;refine⟨k-(i+1),i+1,by omega,⟨rfl,by omega⟩,?_⟩;exact J0a J0q
           . exact Wq
         . have a0:=X8l k P (fun i=>!decide (i∈M)) (by
            obtain⟨i,h⟩:=Classical.not_forall.1 c;obtain⟨f,h⟩:=Classical.not_imp.1 h;exact⟨i,f,by simp[h]⟩)
           exact Wq
end Go.Proofs.YtcbnimaicgegfaaGreatDoor
