import Derived.Test.YtcbnimaicgegfaaGreatDoorTabF
set_option linter.all false
namespace Go.Proofs.YtcbnimaicgegfaaGreatDoor
open Go.Eng
set_option maxRecDepth 100000
def X5s:C:=(.str 75 958954176738384771924702422111511911544110482939806858974280425429575098598422230438626101274097334780293910657822040401209410379130964618491132456158977708537816154392283248030320)
def X8o:C:=(.agg [(.str 7 32495471027842915),(.fz 1 6 false [] [[(.str 1 99),(.int .i64 1),(.int .i64 0),(.int .i64 0),(.int .i64 1),(.int .i64 0)]]),(.fz 1 3 false [] [[(.str 3 7891302),(.fz 4 2 false [] [[(.int .i64 21),(.int .i64 0)],[(.int .i64 35),(.int .i64 0)],[(.int .i64 12),(.int .i64 0)],[(.int .i64 5),(.int .i64 0)]]),(.fz 1 2 false [] [[(.int .i64 0),(.fz 2 2 false [] [[(.int .i64 27),(.int .i64 0)],[(.int .i64 12),(.int .i64 0)]])]])]])])
def X9s:C:=.tup [X8o,.int .i64 0,.int .i64 0]
theorem Q95:evX tf 10000 100 17 [X5s]=some X9s:=by kernel_rfl
theorem Q96:evX tf 10000 100 41 [X8o]=some (.int .i64 0):=by kernel_rfl
theorem X17 {P:Program} {f:FuncId} {args args':List V} {X:V} (hk:J3a V.kf args'=true) (d:LLe args' args) (h:Ret P f args X):Ret P f args' X:=fun own ks=>by
 constructor;intro M w σ us a hd e;obtain⟨d1,d2⟩:=d.dens (M:=M) (w:=w) (us:=us) a (fun i v u b c=>(hd i v u b c).kf (J0v hk v (Qw b)) Sg.none);exact(h own ks).out M w σ us d1 (fun i v u b c=>(d2 i v u b c).mono (Ext.mk (fun _ _ h=>⟨h,rfl⟩) (Qd _)) (Sg.none_le σ)) e
theorem X6G {P:Program} {f:FuncId} {args:List V} {X d:V} (hk:X.kf=true) (k:VLe X d) (h:Ret P f args X):Ret P f args d:=fun own ks=>by
 constructor;intro M w σ us b hd l;refine((h own ks).out M w σ us b hd l).mono ?_;rintro e w' ⟨m,a,v,own',i,u,rfl,j,c,g,kd,rfl,rfl,rfl⟩;exact⟨m,a,d,_,_,u,rfl,(k.out _ _ _ (j.kf hk Sg.none)).mono (Ext.mk (fun _ _ h=>⟨h,rfl⟩) (Qd _)) (Sg.none_le a),c,g,kd,rfl,rfl,rfl⟩
def Q63:Nat->(Nat->Prop)->Prop
 | 0,_=>True
 | n+1,P=>P 0/\Q63 n fun i=>P (i+1)
theorem Q63.out:∀{n:Nat} {P:Nat->Prop},Q63 n P->∀i,i<n->P i
 | n+1,P,h,0,_=>h.1
 | n+1,P,h,i+1,a=>Q63.out h.2 i (by omega)
theorem Q7l {n s:Nat} {f g:Nat->Nat->V} (h:Q63 n fun i=>Q63 s fun j=>VLe (f i j) (g i j)):VLe (.fz n s false f) (.fz n s false g) :=
 VLe.fz rfl (fun h=>h) fun i j b a=>(h.out i b).out j a
theorem Q7k {a b:ByteArray} (h:a=b):VLe (.str a) (.str b):=by subst h;exact .rfl
theorem X3l (c:Cf) (b:c.length<=1000) (a:∀v,v<c.length->(gC c v).length<=1000):Ret Tryz.prog 158 [cV c] (cV c):=by
 refine Q8j rfl ?_;refine(X0r c b a).mono ?_;rintro v own' _ ⟨rfl,rfl⟩
 conv=>whnf
 refine Len.mk (by omega) ?_;exact VLe.fz rfl (fun h=>h) (fun i j e d=>vE_ (by rw[J0l,Qk]))
theorem Q7Z (p:Pr) (hp:J2C p) (g:G) (a:g.Small) (hF:J1L p g) (hg:g.valid=true) (c:Cf) (b:J2O p g c) (k:Int) (hk:dk k=true) (n:Nat) (e:n<=4096):Ret Tryz.prog 44 [p.v,g.v,.int .i64 k,cV c,.int .i64 n] (.int .i64 0):=by
 have f:=X3s p hp g a hF hg c b;have d:=J5W k;rw[hk] at d;refine rf fj44 ?_;exact Wq
theorem X4O (p:Pr) {g:G} (hg:g.valid=true) (c:Cf):J3C .and .u32 (enN p g c:Int) (J1J g.ids.length:Nat)=(enN p g c:Nat):=by
 obtain⟨f1,f2,f3,f4,f5,f6,f7⟩:=J0e hg;rw[J0P (J5l p hg c) (by rw[J1J];exact Q1Y _ (by omega))];congr 1;apply Q8;intro i;rw[Xq];cases e:(enN p g c).testBit i with
 | false=>rfl
 | true =>
   have:=J3x p hg c i e;rw[f3] at this;rw[this];rfl
structure X8w where
 c:Cf
 n:Cnt
 pre:List (Cf×Cnt)
 ch:List Nat
 en:List Nat
structure Y1L (p:Pr) (g:G) (k:Int) (c0:Cf) (n0:Cnt) (ws:List Nat) (x:X8w):Prop where
 le:x.ch.length<=ws.length
 conf:J2O p g x.c
 ok:x.n.Ok
 steps:x.n.steps=x.ch.length
 pl:x.pre.length=x.ch.length
 el:x.en.length=x.ch.length+1
 tot:trc p g k c0 n0 ws=x.pre++trc p g k x.c x.n (ws.drop x.ch.length)
 cho:X3r p g k c0 ws=x.ch++X3r p g k x.c (ws.drop x.ch.length)
def cntC (k:Cnt):List V:=[.int .i64 k.steps,.int .i64 k.moves,.int .i64 k.rounds,.int .i64 k.begun,.int .u32 k.pend]
theorem J94 {a:List Nat} {i:Nat} (h:i<a.length):a.drop i=a.getD i 0::a.drop (i+1):=by
 rw[Jp h];simp[List.getD,h]
theorem Q71 {p:Pr} {g:G} (hg:g.valid=true) {k:Int} {c:Cf} (b:J2O p g c) (a:List Nat):Y1L p g k c (Q1b (enN p g c)) a ⟨c,Q1b (enN p g c),[],[],[enN p g c]⟩ :=
 ⟨Qh _,b,X7M (Q3T p hg c),rfl,rfl,rfl,rfl,rfl⟩
theorem X1Y {p:Pr} (hp:J2C p) {g:G} (hF:J1L p g) (hg:g.valid=true) {k:Int} (hk:dk k=true) {j:Cf} {e:Cnt} {a:List Nat} (o:a.length<=4000) {x:X8w} (b:Y1L p g k j e a x) (h:x.ch.length<a.length) (d:enN p g x.c≠0) :
 Y1L p g k j e a ⟨nxC p g k x.c (a.getD x.ch.length 0),nxK p g k x.c x.n (a.getD x.ch.length 0),x.pre++[(x.c,x.n)],x.ch++[chC p g k x.c (a.getD x.ch.length 0)],x.en++[enN p g (nxC p g k x.c (a.getD x.ch.length 0))]⟩:=by
 obtain⟨m,l⟩:=Y4e hg hk b.ok (by have:=b.steps;omega) (a.getD x.ch.length 0) d (k:=k);have f:=b.tot;have i:=b.cho;rw[J94 h,trc,Qb d] at f;rw[J94 h,X3r,Qb d] at i;refine⟨by simp only[Ql,Xa];omega,Q8Z hp hF hg hk b.conf _ d,m,?_,?_,?_,?_,?_⟩
 . simp only[Ql,Xa];rw[l,b.steps]
 . simp only[Ql,Xa];rw[b.pl]
 . simp only[Ql,Xa];rw[b.el]
 . simp only[Ql,Xa];rw[f];simp
 . simp only[Ql,Xa];rw[i];simp
theorem X6z {p:Pr} {g:G} {k:Int} {f:Cf} {i:Cnt} {a:List Nat} {x:X8w} (j:Y1L p g k f i a x) (h:x.ch.length=a.length\/enN p g x.c=0):trc p g k f i a=x.pre++[(x.c,x.n)]/\X3r p g k f a=x.ch:=by
 have b:=j.tot;have d:=j.cho;by_cases e:x.ch.length<a.length
 . have l:enN p g x.c=0:=by rcases h with h|h;omega;exact h
   rw[J94 e,trc,Qe l] at b;rw[J94 e,X3r,Qe l] at d;exact⟨b,by simpa using d⟩
 . rw[Zh (by omega)] at b d;exact⟨b,by simpa[X3r] using d⟩
theorem Q7n (l:List Nat) (a:Nat) (F:Nat->Nat->V) (x:Int) (hF:F 0 0=.int .u32 x) (b:x=a) (i j:Nat) (c:i<(l++[a]).length) (d:j<1):VLe (J56 (J0m 0 (vU7 l)) l.length (J0m 0 F) i j) (vU7 (l++[a]) i j):=by
 obtain rfl:j=0:=by omega
 apply vE_;simp only[Ql,Xa] at c;by_cases h:i<l.length
 . rw[J19 h,J0l,Qk];simp[vU7,List.getD,Q3 h]
 . rw[J2a h];have:i=l.length:=by omega
   subst this;simp[J0m,hF,vU7,b]
theorem X8X {X:V} {F:Nat->Nat->V} (h:F 0 0=X) (i j:Nat) (b:i<1) (a:j<1):VLe (J0m 0 (tab [[X]]) i j) (F i j):=by
 obtain rfl:i=0:=by omega
 obtain rfl:j=0:=by omega
 rw[h];exact vR_
set_option maxHeartbeats 16000000
def Y2e (b a:List Nat) (c:Cf) (n:Cnt):V:=.agg [.fz b.length 1 false (vU7 b),.fz a.length 1 false (vU7 a),cV c,.int .i64 n.steps,.int .i64 n.moves,.int .i64 n.rounds,.int .i64 n.begun,.int .u32 n.pend]
structure FolI (p:Pr) (g:G) (k:Int) (c0:Cf) (n0:Cnt) (ws:List Nat) (x:X8w):Prop where
 run:Y1L p g k c0 n0 ws x
 ens:x.en=x.pre.map (fun y=>enN p g y.1)++[enN p g x.c]
theorem X9O {p:Pr} {g:G} {k:Int} {d:Cf} {b:Cnt} {a:List Nat} {x:X8w} (h:trc p g k d b a=x.pre++[(x.c,x.n)]):J4X (trc p g k d b a)=x.c:=by
 rw[h];simp[J4X]
theorem X68 {p:Pr} {g:G} {k:Int} {d:Cf} {b:Cnt} {a:List Nat} {x:X8w} (h:trc p g k d b a=x.pre++[(x.c,x.n)]):((trc p g k d b a).getLast?.getD default).2=x.n:=by
 rw[h];simp
def Y6v (p:Pr) (g:G) (L:List (Cf×Cnt)):List Nat:=L.map fun x=>enN p g x.1
def Y10 (p:Pr) (g:G) (k:Int) (c:Cf) (n:Cnt) (a:List Nat):V:=Y2e (X3r p g k c a) (Y6v p g (trc p g k c n a)) (J4X (trc p g k c n a)) ((trc p g k c n a).getLast?.getD default).2
theorem Q9U (p:Pr) (hp:J2C p) (g:G) (N:g.Small) (hF:J1L p g) (hg:g.valid=true) (k:Int) (hk:dk k=true) (c:Cf) (z:J2O p g c) (b:List Nat) (R:b.length<=1000) (S:∀w∈b,w<4294967296) :
 RG 19 [p.v,g.v,.int .i64 k,cV c,.fz b.length 1 false (vU7 b)] (.tup [Y10 p g k c (Q1b (enN p g c)) b,.int .i64 0]):=by
 obtain⟨f1,f2,f3,f4,f5,f6,f7⟩:=J0e hg;have a0:=z.len;have T:=hp.vlen;have h1:=Q7Z p hp g N hF hg c z k hk b.length (by omega);have h2:=Q4R p hp g hF hg;have h3:=Q1V g N hg;have h4:=Y1H g hg;have Q:=X3l c (by omega) (fun v M=>by have:=z.row v M;omega);have P:=X4D p hp g hF hg c z;have O:=X3S (enN p g c) (Q3T p hg c);have D:=X4O p hg c;refine Q1O rfl ?_;refine fr fj19 ?_
 repeat' ((conv=>whnf);first|(refine Sv.mk _ D.symm ?_)|(refine Br.ff ?_)|(refine Len.q ?_)|(refine h1.go ?_)|(refine h2.go ?_)|(refine h3.go ?_)|(refine h4.go ?_)|(refine Q.go ?_)|(refine P.go ?_)|(refine O.go ?_)|(refine fr fj45 ?_)|(refine fr fj47 ?_)|(refine fr Y6l ?_)|(refine fr fj46 ?_)|(refine Chk.q ?_)|(refine And.intro rfl ?_))
 all_goals conv=>whnf
 refine J1y J0c [3,4,8,10,12,39] [15,16] X69 [16,15,12,11,10,9,8,7,6,2,999] (fun x:X8w=>[(1,cV x.c),(11,.int .u32 (enN p g x.c:Nat)),(40,.int .i64 x.ch.length)]) (fun x=>[(16,.vec x.ch.length 1 (vU7 x.ch)),(15,.vec x.en.length 1 (vU7 x.en)),(12,.cells (cntC x.n)),(11,.cells [.vec 16 1 0 x.ch.length,.vec 15 1 0 x.en.length,.nilslice,.int .i64 0,.int .i64 0,.int .i64 0,.int .i64 0,.int .u32 0]),(10,.cells [.nilslice,.nilslice,.nilslice,.int .i64 0,.int .i64 0,.int .i64 0,.int .i64 0,.int .u32 0]),(9,.cells [mvP p g,.fz g.ports.length 1 false (X1h g),.int .i64 k,.int .u32 (J1J g.ids.length:Nat),.fn (.func 46) false []]),(8,.cells [.nilslice,.nilslice,.nilslice,.int .i64 0,.int .i64 0,.int .i64 0,.int .i64 0,.int .u32 0]),(7,.cells [.fz b.length 1 false (vU7 b)]),(6,.cells [mvP p g,.fz g.ports.length 1 false (X1h g),.int .i64 k,.int .u32 (J1J g.ids.length:Nat),.fn (.func 46) false []]),(2,.cells [.nilslice,.nilslice,.nilslice,.int .i64 0,.int .i64 0,.int .i64 0,.int .i64 0,.int .u32 0]),(999,GB)]) (fun m x=>m=b.length-x.ch.length/\FolI p g k c (Q1b (enN p g c)) b x) b.length ⟨c,Q1b (enN p g c),[],[],[enN p g c]⟩ ⟨rfl,Q71 hg z b,rfl⟩ rfl (fun _=>rfl) ?_ ?_
 . refine J0F (fun _ _=>[(12,some 12),(11,some 11),(10,some 10),(9,some 9),(8,some 8),(7,some 7),(6,some 6),(2,some 2),(999,some 999),(15,some 15),(16,none)]) ?_;intro i j l I;exact X8X (by rfl) _ _ l I
 rintro m x ⟨hm,Y⟩;obtain⟨d,e⟩:=Y;clear Q P O D;have r:=d.conf;have W:=r.len;have U:=d.pl;have Z:=d.el;have X:=d.le;have C:∀(h:x.ch.length=b.length\/enN p g x.c=0),VLe (V.tup [.agg [.fz x.ch.length 1 false (J0m 0 (vU7 x.ch)),.fz x.en.length 1 false (J0m 0 (vU7 x.en)),cV x.c,.int .i64 x.n.steps,.int .i64 x.n.moves,.int .i64 x.n.rounds,.int .i64 x.n.begun,.int .u32 x.n.pend],.int .i64 0]) (.tup [Y10 p g k c (Q1b (enN p g c)) b,.int .i64 0]):=fun h=>by
  obtain⟨E,e2⟩:=X6z d h;rw[Y10,X9O E,X68 E,e2,E,Y6v,Zj,List.map_singleton,<- e,Y2e];refine VLe.tup ⟨VLe.agg ⟨VLe.fz rfl (fun h=>h) (fun i j _ _=>vE_ (by rw[J0l,Qk])),VLe.fz rfl (fun h=>h) (fun i j _ _=>vE_ (by rw[J0l,Qk])),vR_,vR_,vR_,vR_,vR_,vR_,tI⟩,vR_,tI⟩
 by_cases l:x.ch.length<b.length
 . have F:b.getD x.ch.length 0<4294967296:=S _ (by rw[Q6,Qp l];exact Xd l);have f:=Q3y g hg k (enN p g x.c) (b.getD x.ch.length 0) (J5l p hg x.c) F (J3x p hg x.c);change RG _ _ (.int .u32 (chC p g k x.c (b.getD x.ch.length 0):Nat)) at f;by_cases B:enN p g x.c=0
   . repeat' ((conv=>whnf);first|(refine Br.ff ?_)|(refine Br.dec ?_ ?_<;>intro _<;>try omega)|(refine Br.bne ?_ ?_<;>intro _<;>try omega)|(refine Ix.q ?_)|(refine Len.q ?_)|(refine f.gog ?_)|(refine fr Y1b ?_)|(refine Chk.q ?_)|(refine And.intro rfl ?_))
     all_goals conv=>whnf
     all_goals exact C (.inr B)
   . have H:=X1Y hp hF hg hk (by omega) d l B;have o:x.en++[enN p g (nxC p g k x.c (b.getD x.ch.length 0))]=(x.pre++[(x.c,x.n)]).map (fun y=>enN p g y.1)++[enN p g (nxC p g k x.c (b.getD x.ch.length 0))]:=by rw[e];simp
     obtain⟨c1,c2,c3,c4,c5,c6⟩:=Q0U p hg hk x.c (b.getD x.ch.length 0) B;have L:=Q8Z hp hF hg hk r (b.getD x.ch.length 0) B;have u:=J78 g hg k (enN p g x.c) (chC p g k x.c (b.getD x.ch.length 0)) (J5l p hg x.c) (by omega) (J3x p hg x.c);have J:Q0E g k (enN p g x.c) (chC p g k x.c (b.getD x.ch.length 0))=true:=Q0k hg hk (J5l p hg x.c) (J3x p hg x.c) B;rw[J] at u;have t:=X2u p hp g hF hg x.c r (chC p g k x.c (b.getD x.ch.length 0)) (by omega) (fun v M hb=>by have:=c2 v hb;rw[J8A,Qg,Qa,Qa] at this;exact this.2);change Ret _ _ _ (cV (nxC p g k x.c (b.getD x.ch.length 0))) at t;have K:=X4D p hp g hF hg _ L;have D:=X4O p hg (nxC p g k x.c (b.getD x.ch.length 0));have A:=Y1J x.n d.ok (by have:=d.steps;omega) (chC p g k x.c (b.getD x.ch.length 0)) (enN p g (nxC p g k x.c (b.getD x.ch.length 0))) c1 c4 (Q3T p hg _);change Ret _ _ _ (.tup [(nxK p g k x.c x.n (b.getD x.ch.length 0)).v,.int .i64 0]) at A;generalize nxK p g k x.c x.n (b.getD x.ch.length 0)=n' at *;generalize nxC p g k x.c (b.getD x.ch.length 0)=c' at *;generalize chC p g k x.c (b.getD x.ch.length 0)=s at *;have E:=J5l p hg x.c
     repeat' ((conv=>whnf);first|(refine Sv.mk _ D.symm ?_)|(refine Br.tt ?_)|(refine Br.dec ?_ ?_<;>intro _<;>try omega)|(refine Br.bne ?_ ?_<;>intro _<;>try omega)|(refine Br.nbeq ?_ ?_<;>intro _<;>try omega)|(refine Ar.q ?_)|(refine Ix.q ?_)|(refine Len.q ?_)|(refine f.gog ?_)|(refine u.gog ?_)|(refine t.go ?_)|(refine K.go ?_)|(refine A.go ?_)|(refine fr fj46 ?_)|(refine fr Y1b ?_)|(refine Chk.q ?_)|(refine And.intro rfl ?_))
     all_goals conv=>whnf
     refine⟨_,_,?_,⟨rfl,H,o⟩,?_⟩
     . simp only[Ql,Xa];omega
     . refine J0d (fun env own=>[(12,some 12),(11,some 11),(10,some 10),(9,some 9),(8,some 8),(7,some 7),(6,some 6),(2,some 2),(999,some 999),(15,Q0S own 11 1),(16,Q0S own 11 0)]) ?_ ?_ rfl
       . repeat' (first|exact J0b.int (by simp only[Ql,Xa]<;>omega)|exact tI|(refine J0b.fn ?_)|(refine⟨⟨_,rfl,?_⟩,?_⟩)|exact J0b.kf rfl|exact J0b.loc rfl|apply And.intro)
       . repeat' (first|exact J0b.vec rfl rfl (by simp only[Ql,Xa]<;>omega)|(refine⟨by simp only[Ql,Xa]<;>omega,rfl,fun i j l I=>?_⟩)|exact J0b.int (by simp only[Ql,Xa]<;>omega)|exact Q7n _ _ _ _ (by rfl) (by rfl) _ _ l I|exact tI|(refine J0b.fn ?_)|exact⟨rfl,rfl,rfl⟩|(refine⟨⟨_,rfl,?_⟩,?_⟩)|exact J0b.kf rfl|apply And.intro)
 . refine Vq ?_
   all_goals exact C (.inl (by omega))
def J81:Pr:=⟨ByteArray.mk #[99,111,108,111,117,114,115],[⟨ByteArray.mk #[99],1,0,0,1,0⟩],[⟨ByteArray.mk #[102,105,120],.agg 21 (.bin 35 (.leaf 12 0) (.leaf 5 0)),[(0,.agg 27 (.leaf 12 0))]⟩]⟩
theorem X7b:VLe J81.v X8o.v:=by
 repeat' (first|exact tI|exact vR_|exact Q7k (by kernel_rfl)|(refine VLe.agg ?_)|(refine Q7l ?_)|apply And.intro)
theorem X8n:VLe X8o.v J81.v:=by
 repeat' (first|exact tI|exact vR_|exact Q7k (by kernel_rfl)|(refine VLe.agg ?_)|(refine Q7l ?_)|apply And.intro)
theorem Q9C:Ret Tryz.prog 41 [J81.v] (.int .i64 0):=by
 have h:=Q94 J0c X86 Q96;exact X17 (args:=[X8o.v]) rfl ⟨X7b,tI⟩ (by simpa only[C.vs,C.v] using h)
theorem X0u:Ret Tryz.prog 125 [J81.v] (.bool true):=by
 refine rf Y09 ?_
 repeat' ((conv=>whnf);first|(refine Br.tt ?_)|(refine Q9C.go ?_))
 all_goals conv=>whnf
 exact vR_
def Y1Q:ByteArray:=match X5s with | .str l c=>J0t l c|_=>default
theorem Q8L:Ret Tryz.prog 17 [.str Y1Q] (.tup [J81.v,.int .i64 0,.int .i64 0]):=by
 have h:Ret Tryz.prog 17 [.str Y1Q] (.tup [X8o.v,.int .i64 0,.int .i64 0]):=by
  have:=Q94 J0c X86 Q95;simpa only[C.vs,C.v,X5s,Y1Q,X9s] using this
 exact X6G (X:=.tup [X8o.v,.int .i64 0,.int .i64 0]) rfl (VLe.tup ⟨X8n,vR_,vR_,tI⟩) h
theorem X5n:Y1Q=ByteArray.mk (Array.mk [112,114,111,103,114,97,109,32,99,111,108,111,117,114,115,59,32,118,97,114,32,99,32,58,32,48,32,46,46,32,110,59,32,114,117,108,101,32,102,105,120,58,32,115,111,109,101,40,113,46,99,32,61,61,32,99,41,32,45,62,32,99,32,58,61,32,109,101,120,40,113,46,99,41,59]):=by kernel_rfl
theorem X3n:J2C J81 where
 vlen:=by decide
 var:=fun i a=>by
  obtain rfl:i=0:=by have:i<1:=a;omega
  exact⟨.inl rfl,by decide,by decide,by decide,by decide⟩
 rlen:=by decide
 gd:=fun i a=>by
  obtain rfl:i=0:=by have:i<1:=a;omega
  decide
 slen:=fun i a=>by
  obtain rfl:i=0:=by have:i<1:=a;omega
  decide
 set:=fun i a j b=>by
  obtain rfl:i=0:=by have:i<1:=a;omega
  obtain rfl:j=0:=by have:j<1:=b;omega
  decide
 types:=X0u
def g2:G:=⟨[0,1],[[(1,1)],[(0,1)]]⟩
theorem X2T:g2.Small:=⟨by decide,by decide,by decide⟩
theorem X2S:g2.valid=true:=by decide +kernel
theorem X7K:J1L J81 g2:=fun i a=>by
 obtain rfl:i=0:=by have:i<1:=a;omega
 intro _;exact⟨by decide +kernel,by decide +kernel⟩
theorem X2i:Ret Tryz.prog 18 [.int .i64 2] (.tup [g2.v,.int .i64 0]):=by
 refine rf fj18 ?_
 repeat' ((conv=>whnf);first|(refine Br.tt ?_)|(refine Br.ff ?_)|(refine Ar.q ?_)|(refine Sv.mk _ rfl ?_)|(refine Ix.mk 0 rfl (by omega) ?_)|(refine Ix.mk 1 rfl (by omega) ?_)|(refine Bd.int (by omega) (by omega) ?_)|(refine Len.q ?_)|(refine Ltn.q ?_)|(refine MkS.vec ?_)|(refine fr fj42 ?_)|(refine fr Y6o ?_)|(refine fr Y5N ?_)|(refine fr fj43 ?_)|(refine J1C J0c 20 ?_)|(refine Chk.q ?_)|(refine And.intro rfl ?_))
 all_goals conv=>whnf
 refine VLe.tup ⟨VLe.agg ⟨VLe.fz rfl (fun h=>h) (fun i j b a=>?_),VLe.fz rfl (fun h=>h) (fun i j b a=>?_),tI⟩,vR_,tI⟩
 . rcases i with _|_|i
   all_goals first|(exfalso;omega)|(rcases j with _|j;exact vR_;exfalso;omega)
 . rcases i with _|_|i
   all_goals first|(exfalso;omega)|skip
   all_goals
    obtain rfl:j=0:=by omega
    conv=>arg 1;whnf
    conv=>arg 2;whnf
    refine VLe.fz rfl (fun h=>h) (fun i j b a=>?_);rcases i with _|i
    all_goals first|(exfalso;omega)|(rcases j with _|_|j;exact vR_;exact vR_;exfalso;omega)
def kA:Cf:=[[0],[0]]
theorem X9Z:J2O J81 g2 kA:=by
 have b:(List.range kA.length).all (fun v=>decide ((gC kA v).length=1)&&(List.range 1).all fun x=>decide ((bnd g2 (gV J81.vars x) v).1<=gI (gC kA v) x/\gI (gC kA v) x<=(bnd g2 (gV J81.vars x) v).2))=true:=by decide +kernel
 simp only[Qy,Q7,Qg,Qa] at b;exact⟨rfl,fun v a=>(b v a).1,fun v a x c=>(b v a).2 x c⟩
theorem Y4k:J4X (trc J81 g2 1 kA (Q1b (enN J81 g2 kA)) [3,3])=[[1],[0]]:=by decide +kernel
theorem X7d:((trc J81 g2 1 kA (Q1b (enN J81 g2 kA)) [3,3]).getLast?.getD default).2.rounds=1:=by decide +kernel
theorem kCh:X3r J81 g2 1 kA [3,3]=[1]:=by decide +kernel
theorem X9R (a:Int) (f:Nat->Nat->V) (b:f 0 0=.int .i64 a):VLe (.fz 1 1 false f) (.fz 1 1 false (vI [a])):=VLe.fz rfl (fun h=>h) (fun i j d c=>by
 obtain rfl:i=0:=by omega
 obtain rfl:j=0:=by omega
 rw[b];exact vR_)
theorem Y4i (b a f:Nat->Nat->V) (d:VLe (.fz 1 1 false b) (.fz 1 1 false (vI [0]))) (c:VLe (.fz 1 1 false a) (.fz 1 1 false (vI [0]))) (f0:f 0 0=.fz 1 1 false b) (f1:f 1 0=.fz 1 1 false a):VLe (.fz 2 1 false f) (cV kA):=by
 refine VLe.fz rfl (fun h=>h) (fun i j g e=>?_);obtain rfl:j=0:=by omega
 rcases i with _|_|i
 . rw[f0];exact d
 . rw[f1];exact c
 . exfalso;omega
theorem X9P (f:Nat->Nat->V) (b:f 0 0=.int .u32 3) (a:f 1 0=.int .u32 3):VLe (.fz 2 1 false f) (.fz [3,3].length 1 false (vU7 [3,3])):=by
 refine VLe.fz rfl (fun h=>h) (fun i j d c=>?_);obtain rfl:j=0:=by omega
 rcases (show i=0\/i=1 by omega) with rfl|rfl
 . rw[b];exact vR_
 . rw[a];exact vR_
theorem X3U:RG 7 [] (.bool true):=by
 have hp:=Q8L;rw[X5n] at hp;have c:=X2i;have a:=Q9U J81 X3n g2 X2T X7K X2S 1 (by decide) kA X9Z [3,3] (by decide) (by decide);have b:=X7d;rw[Y10,Y2e,Y4k,kCh] at a;generalize ((trc J81 g2 1 kA (Q1b (enN J81 g2 kA)) [3,3]).getLast?.getD default).2=lk at a b;rw[b] at a;generalize Y6v J81 g2 (trc J81 g2 1 kA (Q1b (enN J81 g2 kA)) [3,3])=en at a;refine Q1O rfl ?_;refine fr fj7 ?_
 repeat' ((conv=>whnf);first|(refine Ix.mk 0 rfl (by decide) ?_)|(refine Br.tt ?_)|(refine hp.go ?_)|(refine c.go ?_)|(refine X0O [2,3,4,5] a rfl ⟨by decide,by decide,by decide,vR_,vR_,vR_,Y4i _ _ _ (X9R _ _ rfl) (X9R _ _ rfl) rfl rfl,X9P _ rfl rfl,tI⟩ ?_))
 all_goals conv=>whnf
 all_goals exact vR_
open Go.Eng Go.Plain
theorem Q54 (s:Tsy) (o:s.Ok):Ret Tryz.prog 111 [s.v] (.fz s.n 1 false fun t _=>nlV (An.srcs s.n s.to t)):=by
 have I:=o.n1;have H:=o.n2;refine rf Y6i ?_;refine Vq ?_;refine J0s J0c [3,13,14] [] J1k [1,0] (fun k:Nat=>[(15,.int .i64 k)]) (fun own k=>J2g own 1 (.fam s.n 1 (J7m (J2y s k 0)) (X6C (J2y s k 0)) [])) (fun m k=>m=s.n-k/\k<=s.n) s.n 0 ⟨rfl,Qh _⟩ rfl (fun _=>rfl) ?_ ?_
 . refine J0d J0r ?_ ?_ rfl
   . repeat' (first|exact tI|(refine⟨⟨_,rfl,?_⟩,?_⟩)|exact J0b.kf rfl|exact J0b.q)
   . repeat' (first|exact⟨rfl,rfl,rfl,fun i f=>⟨rfl,by rw[J7m,Q3b];rfl⟩⟩|exact tI|(refine⟨⟨_,rfl,?_⟩,?_⟩)|exact J0b.kf rfl|apply And.intro)
 rintro m k ⟨J,hk⟩;by_cases g:k<s.n
 . have y:=o.row g;have b:=o.arc k g;refine Vq ?_;refine J0s J0c [3,4,13,14,15,20,21] [2] J2z [2,1,0] (fun i:Nat=>[(22,.int .i64 i)]) (fun own i=>(2,.vec (if i<(s.ar k).length then J7m (J2y s k i) (gA (s.ar k) i).2 else 0) 1 (X6C (J2y s k i) (gA (s.ar k) i).2))::J2g (J2g own 1 (.fam s.n 1 (J7m (J2y s k i)) (X6C (J2y s k i)) [])) 1 (.fam s.n 1 (J7m (J2y s k i)) (X6C (J2y s k i)) (X1m (decide (i<(s.ar k).length)) (gA (s.ar k) i).2 2))) (fun m i=>m=(s.ar k).length-i/\i<=(s.ar k).length) (s.ar k).length 0 ⟨rfl,Qh _⟩ rfl (fun _=>rfl) ?_ ?_
   . by_cases c:0<(s.ar k).length
     . obtain⟨F,E,w⟩:=b _ (J4D c);simp only[Qn c,X1m,Zl,Qe c];refine J3b.trans ?_ (J0Q (ks:=J1k) rfl rfl rfl w rfl) (ksC rfl);refine J0d J0r ?_ ?_ rfl
       . repeat' (first|exact tI|(refine⟨⟨_,rfl,?_⟩,?_⟩)|exact J0b.kf rfl|exact J0b.q)
       . repeat' (first|exact⟨rfl,rfl,tI,fun i f=>rfl,fun i j t f z d x=>vR_⟩|exact tI|(refine⟨⟨_,rfl,?_⟩,?_⟩)|exact J0b.kf rfl|apply And.intro)
     . simp only[Qm c,X1m,Xf,Xy,Qb c];refine J0d (fun _ _=>[(0,some 0),(1,some 1),(2,none)]) ?_ ?_ rfl
       . repeat' (first|exact tI|(refine⟨⟨_,rfl,?_⟩,?_⟩)|exact J0b.kf rfl|exact J0b.q)
       . repeat' (first|exact⟨rfl,rfl,tI,fun i f=>rfl,fun i j t f z d x=>vR_⟩|exact tI|(refine⟨⟨_,rfl,?_⟩,?_⟩)|exact J0b.kf rfl|(refine⟨⟨_,_,rfl⟩,?_⟩)|apply And.intro)
   rintro m i ⟨B,f⟩;by_cases a:i<(s.ar k).length
   . obtain⟨L,K,G⟩:=b _ (J4D a);have A:J7m (J2y s k i) (gA (s.ar k) i).2<=262144:=Q7Q o g f _;have l:=Q53 s k i a;simp only[Qn a,X1m,Zl,Qe a]
     repeat' ((conv=>whnf);first|(refine Br.dec ?_ ?_<;>intro _<;>try omega)|(refine Br.nbeq ?_ ?_<;>intro _<;>try omega)|(refine Ar.q ?_)|(refine Ix.q ?_)|(refine Len.q ?_)|(refine Ltn.q ?_)|(refine Opn.hd (by omega) ?_)|(refine J45.hd (by omega) ?_)|(refine And.intro rfl ?_))
     all_goals conv=>whnf
     refine⟨(s.ar k).length-(i+1),i+1,by omega,⟨rfl,by omega⟩,?_⟩;refine J3b.trans (J1M (J1q (q:=5) (k:=1) (i:=(gA (s.ar k) i).2) [] rfl rfl G (J0j rfl) (Y4 (Qe rfl)) rfl (fun j d=>(J0o (fun e=>d e.symm)).symm))) ?_ (ksS rfl);by_cases c:i+1<(s.ar k).length
     . obtain⟨F,E,w⟩:=b _ (J4D c);simp only[Qn c,Zl,Qe c];refine J3b.trans ?_ (J0Q (ks:=J1k) rfl rfl rfl w rfl) (ksC rfl);refine J0d J0r ?_ ?_ rfl
       . repeat' (first|exact tI|(refine⟨⟨_,rfl,?_⟩,?_⟩)|exact J0b.kf rfl|exact J0b.q)
       . repeat' (first|exact Q5i l (fun j u d r=>J69 _ _ _ k rfl rfl _ _ _ rfl d r) _|exact tI|(refine⟨⟨_,rfl,?_⟩,?_⟩)|exact J0b.kf rfl|apply And.intro)
     . simp only[Qm c,Xf,Xy,Qb c];refine J0d (fun _ _=>[(0,some 0),(1,some 1),(2,none)]) ?_ ?_ rfl
       . repeat' (first|exact tI|(refine⟨⟨_,rfl,?_⟩,?_⟩)|exact J0b.kf rfl|exact J0b.q)
       . repeat' (first|exact Q5i l (fun j u d r=>J69 _ _ _ k rfl rfl _ _ _ rfl d r) _|exact tI|(refine⟨⟨_,rfl,?_⟩,?_⟩)|exact J0b.kf rfl|(refine⟨⟨_,_,rfl⟩,?_⟩)|apply And.intro)
   . have D:i=(s.ar k).length:=by omega
     subst D;simp only[Qm a,X1m,Xf,Xy,Qb a];refine Vq ?_;refine⟨s.n-(k+1),k+1,by omega,⟨rfl,by omega⟩,?_⟩;have p:J2y s k (s.ar k).length=J2y s (k+1) 0:=funext fun t=>Q7P s k t;refine J0d J0r ?_ ?_ rfl
     . repeat' (first|exact tI|(refine⟨⟨_,rfl,?_⟩,?_⟩)|exact J0b.kf rfl|exact J0b.q)
     . repeat' (first|exact⟨rfl,rfl,tI,fun i f=>by rw[p],fun i j t f z d x=>by rw[p];exact vR_⟩|exact tI|(refine⟨⟨_,rfl,?_⟩,?_⟩)|exact J0b.kf rfl|apply And.intro)
 . have C:k=s.n:=by omega
   subst C;refine Vq ?_;refine VLe.fz rfl (fun h=>h) (fun i j f d=>?_);show VLe (.fz (J2y s s.n 0 i).length 1 false (vQ (J2y s s.n 0 i))) (nlV (An.srcs s.n s.to i));rw[J9i];exact vR_
def vEt (a:Nat->Nat):Nat->Nat->V:=fun k _=>.int .i64 (a k)
theorem Q25 (b:Nat->Nat) (k a i j:Nat) (hk:a=k) (c:j<1):VLe (J1l (vEt b) a 0 [.int .i64 ((b a:Int)+1)] i j) (vEt (fun x=>if x=k then b x+1 else b x) i j):=by
 obtain rfl:j=0:=by omega
 subst hk;apply vE_;by_cases h:i=a
 . subst h;simp[J1l,vEt]
 . simp[J1l,vEt,h]
theorem J97 (i j:Nat) (a:j<1):VLe ((fun(_ j:Nat)=>[V.int .i64 0].getD j default) i j) (vEt (fun _=>0) i j):=by
 obtain rfl:j=0:=by omega
 exact vR_
theorem Q2o (f:Nat->Nat->V) (i:Nat) (v:V):J1l f i 0 [v] i 0=v:=by simp[J1l]
theorem Q91 (lg:Nat->Bool) (i:Nat):(List.range (i+1)).filter lg=(List.range i).filter lg++(if lg i=true then[i] else[]):=by
 rw[Yd,J9];congr 1;cases h:lg i<;>simp[h]
theorem X21 (lg:Nat->Bool) (i:Nat):((List.range i).filter lg).length<=i:=by
 have:=Y7 lg (List.range i);simpa using this
structure OrdS where
 L:List Nat
 i:Nat
 en:Nat->Nat
theorem Q4F (s:Tsy) (A:s.Ok) (lg:Nat->Bool):Q5N Tryz.prog 49 [s.v,blV s.n lg] fun v=>∃L,An.Ord s.n s.to lg L/\v=nlV L:=by
 have n1:=A.n1;have n2:=A.n2;have S:=Q54 s A;refine J31 rfl ?_;refine fr fj49 ?_
 all_goals conv=>whnf
 refine J0s J0c [1,2,13,14] [1] J1k [1,0] (fun i:Nat=>[(5,.vec 1 1 0 ((List.range i).filter lg).length),(15,.int .i64 i)]) (fun own i=>(1,.vec ((List.range i).filter lg).length 1 (vQ ((List.range i).filter lg)))::own) (fun m i=>m=s.n-i/\i<=s.n) s.n 0 ⟨rfl,Qh _⟩ rfl (fun _=>rfl) ?_ ?_
 . exact J0a (fun _ _=>[(0,some 0),(1,none)])
 rintro m i ⟨V,w⟩;have Y:=X21 lg i;by_cases X:i<s.n
 . have r:=Q91 lg i;cases d:lg i with
   | true =>
     rw[d,Qe rfl] at r;refine Vq ?_;refine⟨s.n-(i+1),i+1,by omega,⟨rfl,by omega⟩,?_⟩;simp only[r];refine J0d (fun env own=>[(0,some 0),(1,Q2X env 5)]) ?_ ?_ rfl
     . repeat' (first|exact J0b.vec rfl rfl (by rw[Ql];rfl)|exact tI|(refine⟨⟨_,rfl,?_⟩,?_⟩)|exact J0b.kf rfl|exact J0b.loc rfl)
     . repeat' (first|(refine⟨by rw[Ql];exact Qd _,rfl,fun a b H N=>?_⟩)|exact J69 _ _ _ i rfl rfl _ _ _ rfl (by rw[Ql] at H;exact H) N|exact tI|(refine⟨⟨_,rfl,?_⟩,?_⟩)|exact J0b.kf rfl|apply And.intro)
   | false =>
     rw[d,Qb (by decide),Ym] at r;refine Vq ?_;refine⟨s.n-(i+1),i+1,by omega,⟨rfl,by omega⟩,?_⟩;simp only[r];exact J0a (fun env own=>[(0,some 0),(1,some 1)])
 have ei:i=s.n:=by omega
 subst ei;refine Vq ?_;refine J0s J0c [1,2,8,9] [1] J2z [1,2,0] (fun x:OrdS=>[(5,.vec 1 1 0 x.L.length),(10,.int .i64 x.i)]) (fun own x=>[(1,.vec x.L.length 1 (vQ x.L)),(2,.vec s.n 1 (vEt x.en)),(0,.cells [.fz s.n 1 false (vEn s),.fz s.n 1 false (X4c s)])]) (fun m x=>m=s.n-x.i/\An.OrdJ s.n s.to lg x.L x.i 0 x.en) s.n ⟨(List.range s.n).filter lg,0,fun _=>0⟩ ⟨rfl,An.OrdJ.start⟩ rfl (fun _=>rfl) ?_ ?_
 . refine J0F (fun env own=>[(0,some 0),(1,some 1),(2,Q2X env 9)]) ?_;intro i j w o;exact J97 _ _ o
 rintro m x ⟨V,z⟩;have a0:=z.len;have W:=z.le;by_cases B:x.i<x.L.length
 . have Q:gQ x.L x.i<s.n:=z.lt _ (J6Y B);have hz:gQ x.L (0+x.i)=gQ x.L x.i:=by rw[Qk]
   repeat' ((conv=>whnf);first|(refine Ix.mk (gQ x.L x.i) (by rw[hz]) Q ?_)|(refine Br.dec ?_ ?_<;>intro _<;>try omega)|(refine Ix.q ?_)|(refine Ltn.q ?_))
   all_goals conv=>whnf
   refine J0s J0c [1,2,8,9,10,43,44] [1] J2z [1,2,0] (fun y:OrdS=>[(5,.vec 1 1 0 y.L.length),(45,.int .i64 y.i)]) (fun own y=>J2g (J2g own 1 (.vec y.L.length 1 (vQ y.L))) 2 (.vec s.n 1 (vEt y.en))) (fun m y=>m=(An.srcs s.n s.to (gQ x.L x.i)).length-y.i/\y.i<=(An.srcs s.n s.to (gQ x.L x.i)).length/\x.i<y.L.length/\gQ y.L x.i=gQ x.L x.i/\An.OrdJ s.n s.to lg y.L x.i y.i y.en) _ ⟨x.L,0,x.en⟩ ⟨rfl,Qh _,B,rfl,z⟩ rfl (fun _=>rfl) ?_ ?_
   . exact J0a (fun env own=>[(0,some 0),(1,some 1),(2,some 2)])
   rintro m2 y ⟨U,hy,l,g,J⟩;have Z:=J.len;by_cases D:y.i<(An.srcs s.n s.to (gQ x.L x.i)).length
   . have f:=J.step l (by change y.i<(An.srcs s.n s.to (gQ y.L x.i)).length;rw[g];exact D);change gQ (An.srcs s.n s.to (gQ y.L x.i)) y.i<s.n/\y.en (gQ (An.srcs s.n s.to (gQ y.L x.i)) y.i)+1<=(s.to (gQ (An.srcs s.n s.to (gQ y.L x.i)) y.i)).length/\An.OrdJ s.n s.to lg (if lg (gQ (An.srcs s.n s.to (gQ y.L x.i)) y.i)=false/\y.en (gQ (An.srcs s.n s.to (gQ y.L x.i)) y.i)+1=(s.to (gQ (An.srcs s.n s.to (gQ y.L x.i)) y.i)).length then y.L++[gQ (An.srcs s.n s.to (gQ y.L x.i)) y.i] else y.L) x.i (y.i+1) (fun k=>if k=gQ (An.srcs s.n s.to (gQ y.L x.i)) y.i then y.en k+1 else y.en k) at f;rw[g] at f;obtain⟨C,K,u⟩:=f;have P:gQ (An.srcs s.n s.to (gQ x.L x.i)) y.i=gQ (An.srcs s.n s.to (gQ x.L x.i)) y.i:=rfl;have G:(s.to (gQ (An.srcs s.n s.to (gQ x.L x.i)) y.i)).length=(s.ar (gQ (An.srcs s.n s.to (gQ x.L x.i)) y.i)).length:=by simp[Tsy.to]
     rw[G] at K u;have M:=A.row C;have T:=Q0h s (gQ x.L x.i) s.n;have R:=A.tot;generalize E:gQ (An.srcs s.n s.to (gQ x.L x.i)) y.i=t at *;have O:y.en (0+t)+1<=(s.ar t).length:=by rw[Qk];exact K
     cases d:lg t with
     | true =>
       rw[d,Qb (fun h=>Bool.noConfusion h.1)] at u
       repeat' ((conv=>whnf);first|(refine Ix.mk t (by rw[E]) C ?_)|(refine Br.mk (fun _=>?_) (fun e=>Bool.noConfusion (e.symm.trans d)))|(refine Br.dec ?_ ?_<;>intro _<;>try omega)|(refine Ar.q ?_)|(refine Ix.q ?_)|(refine Ltn.q ?_))
       all_goals conv=>whnf
       refine⟨_,⟨y.L,y.i+1,fun k=>if k=t then y.en k+1 else y.en k⟩,?_,⟨rfl,D,l,g,u⟩,?_⟩
       . simp only;omega
       . refine J0F (fun env own=>[(0,some 0),(1,some 1),(2,some 2)]) ?_;intro i j w o;exact Q25 _ _ _ _ _ (Qk _) o
     | false =>
       by_cases c:y.en t+1=(s.ar t).length
       . rw[Qe ⟨d,c⟩] at u;have p:y.en (0+t)+1=(s.ar t).length:=by rw[Qk];exact c
         repeat' ((conv=>whnf);first|(refine Ix.mk t (by rw[E]) C ?_)|(refine Br.mk (fun e=>Bool.noConfusion (e.symm.trans d)) (fun _=>?_))|(refine Br.dec ?_ ?_<;>intro _<;>try omega)|(refine Br.nbeq ?_ ?_<;>intro _<;>try omega)|(refine Ar.q ?_)|(refine Ix.q ?_)|(refine Len.q ?_)|(refine Ltn.q ?_)|(rw[Q2o]))
         all_goals conv=>whnf
         refine⟨_,⟨y.L++[t],y.i+1,fun k=>if k=t then y.en k+1 else y.en k⟩,?_,⟨rfl,D,by simp only[Ql];omega,?_,u⟩,?_⟩
         . simp only;omega
         . simp only;rw[J5i,Qe l];exact g
         . refine J0d (fun env own=>[(0,some 0),(1,Q2X env 5),(2,some 2)]) ?_ ?_ rfl
           . repeat' (first|exact J0b.vec rfl rfl (by rw[Ql];rfl)|exact tI|(refine⟨⟨_,rfl,?_⟩,?_⟩)|exact J0b.kf rfl|exact J0b.loc rfl|exact J0b.q)
           . repeat' (first|exact Q25 _ _ _ _ _ (Qk _) o|(refine⟨by rw[Ql];exact Qd _,rfl,fun i j w o=>?_⟩)|exact J69 _ _ _ _ rfl (by rw[E]) _ _ _ rfl (by rw[Ql] at w;exact w) o|exact tI|(refine⟨⟨_,rfl,?_⟩,?_⟩)|exact J0b.kf rfl|(refine⟨Qd _,rfl,fun i j w o=>?_⟩)|apply And.intro)
       . rw[Qb (fun h=>c h.2)] at u;have p:¬ y.en (0+t)+1=(s.ar t).length:=by rw[Qk];exact c
         repeat' ((conv=>whnf);first|(refine Ix.mk t (by rw[E]) C ?_)|(refine Br.mk (fun e=>Bool.noConfusion (e.symm.trans d)) (fun _=>?_))|(refine Br.dec ?_ ?_<;>intro _<;>try omega)|(refine Ar.q ?_)|(refine Ix.q ?_)|(refine Ltn.q ?_)|(rw[Q2o]))
         all_goals conv=>whnf
         refine⟨_,⟨y.L,y.i+1,fun k=>if k=t then y.en k+1 else y.en k⟩,?_,⟨rfl,D,l,g,u⟩,?_⟩
         . simp only;omega
         . refine J0F (fun env own=>[(0,some 0),(1,some 1),(2,some 2)]) ?_;intro i j w o;exact Q25 _ _ _ _ _ (Qk _) o
   . have F:y.i=(An.srcs s.n s.to (gQ x.L x.i)).length:=by omega
     have I:An.OrdJ s.n s.to lg y.L (x.i+1) 0 y.en:=by
      refine An.OrdJ.next ?_ l;change An.OrdJ s.n s.to lg y.L x.i (An.srcs s.n s.to (gQ y.L x.i)).length y.en;rw[g,<- F];exact J
     refine Vq ?_;refine⟨_,⟨y.L,x.i+1,y.en⟩,?_,⟨rfl,I⟩,?_⟩
     . simp only;omega
     . exact J0a (fun env own=>[(0,some 0),(1,some 1),(2,some 2)])
 . refine Vq ?_;refine⟨nlV x.L,⟨x.L,?_,rfl⟩,?_⟩
   . have:x.i=x.L.length:=by omega
     rw[this] at z;exact z.done rfl
   . exact VLe.fz rfl (fun h=>h) (fun a b H N=>vE_ (by rw[J0l,Qk]))
def vBl (b:Nat->Bool):Nat->Nat->V:=fun i _=>.bool (b i)
theorem Q7s (b c:Nat->Bool) (k a:Nat) (x:Bool) (hk:a=k) (d:∀i,c i=if i=k then x else b i) (i j:Nat) (e:j<1):VLe (J1l (vBl b) a 0 [.bool x] i j) (vBl c i j):=by
 obtain rfl:j=0:=by omega
 subst hk;apply vE_;rw[vBl,d];by_cases h:i=a
 . subst h;simp[J1l]
 . simp[J1l,vBl,h]
theorem X1y (i j:Nat) (a:j<1):VLe ((fun(_ j:Nat)=>[V.bool false].getD j default) i j) (vBl (fun _=>false) i j):=by
 obtain rfl:j=0:=by omega
 exact vR_
theorem Q0b {L:List Nat} {i:Nat} (h:i<L.length) (k:Nat):decide (k∈L.take (i+1))=if k=gQ L i then true else decide (k∈L.take i):=by
 have:L.take (i+1)=L.take i++[gQ L i]:=An.take_next h;rw[this];by_cases e:k=gQ L i
 . rw[Qe e,e];simp
 . rw[Qb e];simp[e]
theorem Q2N (s:Tsy) (c:s.Ok) (lg:Nat->Bool):J0N Tryz.prog 20 [s.v,blV s.n lg] [] KS fun v own' _=>∃L,An.Ord s.n s.to lg L/\v=.tup [.vec 0 1 0 s.n,.int .i64 0]/\own'=[(0,.vec s.n 1 (vBl fun k=>decide (k∈L)))]:=by
 have u:=c.n1;have t:=c.n2;have g:=Q2B s c lg;have f:=Q4F s c lg;refine J2d ?_;refine fr fj20 ?_
 repeat' ((conv=>whnf);first|(refine Br.ff ?_)|(refine Bd.q ?_)|(refine Len.q ?_)|(refine MkS.vec ?_)|(refine g.go ?_)|(refine f.go ?_;rintro _ ⟨L,e,rfl⟩))
 all_goals conv=>whnf
 have p:L.length<=s.n:=by
  have:=Zd e.nodup (fun a o=>Q7.2 (e.lt a o));simpa using this
 refine J0s J0c [7,21,22] [] J1k [1,0] (fun i:Nat=>[(23,.int .i64 i)]) (fun own i=>J2g own 1 (.vec s.n 1 (vBl fun k=>decide (k∈L.take i)))) (fun m i=>m=L.length-i/\i<=L.length) L.length 0 ⟨rfl,Qh _⟩ rfl (fun _=>rfl) ?_ ?_
 . refine J0F J0r ?_;intro i j h d;exact X1y _ _ d
 rintro m q ⟨x,w⟩;by_cases b:q<L.length
 . have l:gQ L q<s.n:=e.lt _ (J6Y b)
   repeat' ((conv=>whnf);first|(refine Ix.mk (gQ L q) (by rfl) l ?_)|(refine Br.dec ?_ ?_<;>intro _<;>try omega)|(refine Ar.q ?_)|(refine Ix.q ?_)|(refine Ltn.q ?_))
   all_goals conv=>whnf
   refine⟨L.length-(q+1),q+1,by omega,⟨rfl,by omega⟩,?_⟩;refine J0F J0r ?_;intro i j h d;exact Q7s _ _ (gQ L q) _ _ (Qk _) (fun k=>Q0b b k) _ _ d
 . have r:L.take q=L:=Qz (by omega);simp only[r];refine Vq ?_;exact J2R (fun _=>[(0,some 1)]) _ _ ⟨L,e,rfl,rfl⟩ (J0b.tup ⟨J0b.vec rfl rfl rfl,J0b.kf rfl,tI⟩) (by repeat' (first|exact tI|(refine⟨⟨_,rfl,?_⟩,?_⟩)|(refine⟨Qd _,rfl,fun i j h d=>?_⟩)|exact vR_)) rfl
theorem Q9W (L:List Nat) {q:Nat} {b:Bool} (c:decide (q∈L)=b) (k:Nat):(if k<q+1 then !decide (k∈L) else decide (k∈L))=if k=q then !b else if k<q then !decide (k∈L) else decide (k∈L):=by
 by_cases h:k=q
 . subst h;rw[Qe (by omega),Qe rfl,c]
 . rw[Qb h];by_cases a:k<q
   . rw[Qe a,Qe (by omega)]
   . rw[Qb a,Qb (by omega)]
theorem X0q (s:Tsy) (c:s.Ok) (lg:Nat->Bool):Q5N Tryz.prog 8 [s.v,blV s.n lg] fun v=>∃L,An.Ord s.n s.to lg L/\v=.tup [blV s.n fun k=>!decide (k∈L),.int .i64 0]:=by
 have t:=c.n1;have r:=c.n2;have f:=Q2N s c lg;refine J31 rfl ?_;refine fr fj8 ?_
 repeat' ((conv=>whnf);first|(refine Br.ff ?_)|(refine J3y [] [0] (f.mono ?_) ⟨J0b.kf rfl,J0b.kf rfl,tI⟩ tI rfl;rintro _ _ _ ⟨L,p,rfl,rfl⟩)|(refine Chk.mk rfl ?_))
 all_goals conv=>whnf
 refine J0s J0c [6,19] [] J1k [1,0] (fun q:Nat=>[(20,.int .i64 q)]) (fun own q=>J2g own 1 (.vec s.n 1 (vBl fun k=>if k<q then !decide (k∈L) else decide (k∈L)))) (fun m q=>m=s.n-q/\q<=s.n) s.n 0 ⟨rfl,Qh _⟩ rfl (fun _=>rfl) ?_ ?_
 . exact J0a J0r
 rintro m q ⟨w,u⟩;by_cases g:q<s.n
 . repeat' ((conv=>whnf);first|(refine Br.dec ?_ ?_<;>intro _<;>try omega)|(refine Ar.q ?_)|(refine Ix.q ?_)|(refine Ltn.q ?_)|(refine Br.any (fun _=>?_) (fun _=>?_)))
   all_goals conv=>whnf
   all_goals
    rename_i e;simp only[Qk,Ja,Xy] at e;refine⟨s.n-(q+1),q+1,by omega,⟨rfl,by omega⟩,?_⟩;refine J0F J0r ?_;intro i j x l;exact Q7s _ _ q _ _ (Qk _) (Q9W L e) _ _ l
 . have d:q=s.n:=by omega
   subst d;refine Vq ?_;refine⟨_,⟨L,p,rfl⟩,VLe.tup ⟨VLe.fz rfl (fun h=>h) (fun a b o e=>vE_ ?_),vR_,tI⟩⟩;simp[J0m,vBl,o]
theorem X6O {n:Nat} {ar:Nat->List Nat} {lg:Nat->Bool} {L:List Nat} (h:An.Ord n ar lg L) (b:∀k,k<n->k∈L):L.length=n:=by
 have e:=Zd h.nodup (fun a c=>Q7.2 (h.lt a c));have d:=Zd (Ko (n:=n)) (fun a c=>b a (Q7.1 c));rw[Y5] at e d;omega
theorem Q1e (s:Tsy) (c:s.Ok) (lg:Nat->Bool) (b:∀L,An.Ord s.n s.to lg L->∀k,k<s.n->k∈L):Q5N Tryz.prog 53 [s.v,blV s.n lg] fun v=>∃L,An.Ord s.n s.to lg L/\L.length=s.n/\v=.tup [nlV L,.int .i64 0]:=by
 have h:=c.n1;have g:=c.n2;have e:=Q2B s c lg;have d:=Q4F s c lg;refine J31 rfl ?_;refine fr fj53 ?_
 repeat' ((conv=>whnf);first|(refine Br.ff ?_)|(refine Br.dec ?_ ?_<;>intro _<;>try omega)|(refine e.go ?_)|(refine d.go ?_;rintro _ ⟨L,f,rfl⟩;have a:=X6O f (b L f)))
 all_goals conv=>whnf
 exact⟨_,⟨L,f,a,rfl⟩,VLe.tup ⟨vR_,vR_,tI⟩⟩
theorem Q7g (a b:Nat) (c:a<4294967296):Ret Tryz.prog 52 [.agg [.int .u32 a,.int .i64 b]] (.int .i64 (cnt a 32)):=by
 have d:=X6Q a c;refine rf fj52 ?_;exact Wq
theorem Q7r (r b:Nat->Nat) (k a:Nat) (x:Int) (hk:a=k) (c:∀i,(b i:Int)=if i=k then x else r i) (i j:Nat) (d:j<1):VLe (J1l (vEt r) a 0 [.int .i64 x] i j) (vEt b i j):=by
 obtain rfl:j=0:=by omega
 subst hk;apply vE_;rw[vEt,c];by_cases h:i=a
 . subst h;simp[J1l]
 . simp[J1l,vEt,h]
theorem X9H (r:Nat->Nat) (k t c i:Nat):((if i=k then max (r k) (c+r t) else r i:Nat):Int)=if i=k then (if (c:Int)+(r (0+t):Nat) > (r (0+k):Nat) then (c:Int)+(r (0+t):Nat) else (r (0+k):Nat)) else (r i:Nat):=by
 rw[Qk,Qk];by_cases h:i=k
 . rw[Qe h,Qe h];split<;>omega
 . rw[Qb h,Qb h]
structure GrX (s:Tsy) (c:Nat×Nat->Nat) (r:Nat->Nat) (k:Nat):Prop where
 sup:∀a∈s.ar k,c a+r a.2<=r k
 att:r k=0\/∃a∈s.ar k,r k=c a+r a.2
structure GrI (s:Tsy) (lg:Nat->Bool) (c:Nat×Nat->Nat) (L:List Nat) (i:Nat) (r:Nat->Nat) (B:Nat):Prop where
 leg:∀k,k<s.n->lg k=true->r k=0
 ahead:∀j,i<=j->j<L.length->r (gQ L j)=0
 done:∀j,j<i->j<L.length->lg (gQ L j)=false->GrX s c r (gQ L j)
 bnd:∀k,r k<=B
structure GrJ (s:Tsy) (lg:Nat->Bool) (c:Nat×Nat->Nat) (L:List Nat) (i y:Nat) (r:Nat->Nat) (B:Nat):Prop where
 leg:∀k,k<s.n->lg k=true->r k=0
 ahead:∀j,i<j->j<L.length->r (gQ L j)=0
 done:∀j,j<i->j<L.length->lg (gQ L j)=false->GrX s c r (gQ L j)
 sup:∀q,q<y->q<(s.ar (gQ L i)).length->c (gA (s.ar (gQ L i)) q)+r (gA (s.ar (gQ L i)) q).2<=r (gQ L i)
 att:r (gQ L i)=0\/∃a∈s.ar (gQ L i),r (gQ L i)=c a+r a.2
 bnd:∀k,r k<=B
theorem J9I {L:List Nat} (h:L.Nodup) {i j:Nat} (b:i<L.length) (a:j<L.length) (e:gQ L i=gQ L j):i=j:=by
 have hp:=K6.1 (Jm.1 h);have d:gQ L i=L[i]:=by simp[gQ,List.getD,b]
 have c:gQ L j=L[j]:=by simp[gQ,List.getD,a]
 rcases Y3 i j with q|q|q
 . exact(hp i j b a q (by rw[<- d,<- c,e])).elim
 . exact q
 . exact(hp j i a b q (by rw[<- d,<- c,e])).elim
theorem Q0v {s:Tsy} {lg:Nat->Bool} {L:List Nat} (h:An.Ord s.n s.to lg L) {i:Nat} (d:i<L.length) (b:lg (gQ L i)=false) {a:Nat×Nat} (f:a∈s.ar (gQ L i)):∃j,j<i/\gQ L j=a.2:=by
 have e:L[i]?=some (gQ L i):=by simp[gQ,List.getD,d]
 rcases h.ord i _ e with q | ⟨_,q⟩
 . rw[b] at q;cases q
 . obtain⟨j,c,e2⟩:=q a.2 (Qi.2 ⟨a,f,rfl⟩);exact⟨j,c,by simp[gQ,List.getD,e2]⟩
theorem GrI.start (s:Tsy) (lg:Nat->Bool) (c:Nat×Nat->Nat) (L:List Nat):GrI s lg c L 0 (fun _=>0) 0 :=
 ⟨fun _ _ _=>rfl,fun _ _ _=>rfl,fun j a=>by omega,fun _=>Qd _⟩
theorem GrI.skip {s:Tsy} {lg:Nat->Bool} {c:Nat×Nat->Nat} {L:List Nat} {i B:Nat} {r:Nat->Nat} (h:GrI s lg c L i r B) (d:lg (gQ L i)=true):GrI s lg c L (i+1) r B :=
 ⟨h.leg,fun j f b=>h.ahead j (by omega) b,fun j f b a=>by
   by_cases e:j=i
   . rw[e,d] at a;cases a
   . exact h.done j (by omega) b a,h.bnd⟩
theorem GrI.enter {s:Tsy} {lg:Nat->Bool} {c:Nat×Nat->Nat} {L:List Nat} {i B:Nat} {r:Nat->Nat} (h:GrI s lg c L i r B) (a:i<L.length):GrJ s lg c L i 0 r B :=
 ⟨h.leg,fun j d b=>h.ahead j (by omega) b,h.done,fun q d=>by omega,.inl (h.ahead i (Qd _) a),h.bnd⟩
theorem GrJ.leave {s:Tsy} {lg:Nat->Bool} {c:Nat×Nat->Nat} {L:List Nat} {i y B:Nat} {r:Nat->Nat} (h:GrJ s lg c L i y r B) (l:(s.ar (gQ L i)).length<=y):GrI s lg c L (i+1) r B :=
 ⟨h.leg,fun j k b=>h.ahead j (by omega) b,fun j k b g=>by
   by_cases e:j=i
   . subst e;refine⟨fun a f=>?_,h.att⟩;obtain⟨q,d,e⟩:=Xi.1 f;have:=h.sup q (by omega) d;have e2:gA (s.ar (gQ L j)) q=a:=by rw[<- e];simp[gA,List.getD,d]
     rwa[e2] at this
   . exact h.done j (by omega) b g,h.bnd⟩
theorem GrJ.step {s:Tsy} {lg:Nat->Bool} {c:Nat×Nat->Nat} {L:List Nat} (l:An.Ord s.n s.to lg L) {i y B C:Nat} {r:Nat->Nat} (h:GrJ s lg c L i y r B) (p:i<L.length) (A:lg (gQ L i)=false) (w:y<(s.ar (gQ L i)).length) (G:c (gA (s.ar (gQ L i)) y)<=C) :
 GrJ s lg c L i (y+1) (fun x=>if x=gQ L i then max (r (gQ L i)) (c (gA (s.ar (gQ L i)) y)+r (gA (s.ar (gQ L i)) y).2) else r x) (B+C):=by
 have E:∀j,j<L.length->gQ L j<s.n:=fun j m=>l.lt _ (J6Y m);have f:∀a∈s.ar (gQ L i),a.2≠gQ L i:=fun a b e=>by
  obtain⟨j,m,e2⟩:=Q0v l p A b;have:=J9I l.nodup (by omega) p (e2.trans e);omega
 have t:∀j,j<i->∀a∈s.ar (gQ L j),lg (gQ L j)=false->a.2≠gQ L i:=fun j m a b u e=>by
  obtain⟨q,F,e2⟩:=Q0v l (by omega) u b;have:=J9I l.nodup (by omega) p (e2.trans e);omega
 refine⟨fun k hk g=>?_,fun j o d=>?_,fun j o d v=>?_,fun q o d=>?_,?_,fun k=>?_⟩
 . show(if k=gQ L i then _ else r k)=0;rw[Qb (fun e=>by rw[e,A] at g;cases g)];exact h.leg k hk g
 . show(if gQ L j=gQ L i then _ else r (gQ L j))=0;rw[Qb (fun e=>by have:=J9I l.nodup d p e;omega)];exact h.ahead j o d
 . have D:=h.done j o d v;have m:gQ L j≠gQ L i:=fun e=>by have:=J9I l.nodup d p e;omega
   refine⟨fun a b=>?_,?_⟩
   . show c a+(if a.2=gQ L i then _ else r a.2)<=(if gQ L j=gQ L i then _ else r (gQ L j));rw[Qb m,Qb (t j o a b v)];exact D.sup a b
   . show(if gQ L j=gQ L i then _ else r (gQ L j))=0\/∃a∈s.ar (gQ L j),(if gQ L j=gQ L i then _ else r (gQ L j))=c a+(if a.2=gQ L i then _ else r a.2);rw[Qb m];rcases D.att with q | ⟨a,b,e⟩
     . exact .inl q
     . exact .inr ⟨a,b,by rw[Qb (t j o a b v)];exact e⟩
 . have b:=J4D d;show c _+(if (gA (s.ar (gQ L i)) q).2=gQ L i then _ else r _)<=(if gQ L i=gQ L i then _ else _);rw[Qb (f _ b),Qe rfl];by_cases e:q=y
   . subst e;omega
   . have:=h.sup q (by omega) d;omega
 . show(if gQ L i=gQ L i then _ else _)=0\/∃a∈s.ar (gQ L i),(if gQ L i=gQ L i then _ else _)=c a+(if a.2=gQ L i then _ else r a.2);rw[Qe rfl];by_cases q:c (gA (s.ar (gQ L i)) y)+r (gA (s.ar (gQ L i)) y).2<=r (gQ L i)
   . rw[Nat.max_eq_left q];rcases h.att with z | ⟨a,b,e⟩
     . exact .inl z
     . exact .inr ⟨a,b,by rw[Qb (f a b)];exact e⟩
   . rw[Nat.max_eq_right (by omega)];exact .inr ⟨_,J4D w,by rw[Qb (f _ (J4D w))]⟩
 . show(if k=gQ L i then _ else r k)<=_;have J:=h.bnd (gQ L i);have I:=h.bnd (gA (s.ar (gQ L i)) y).2;have H:=h.bnd k;split<;>omega
theorem GrI.mono {s:Tsy} {lg:Nat->Bool} {c:Nat×Nat->Nat} {L:List Nat} {i B a:Nat} {r:Nat->Nat} (h:GrI s lg c L i r B) (b:B<=a):GrI s lg c L i r a:=⟨h.leg,h.ahead,h.done,fun k=>Zw (h.bnd k) b⟩
theorem GrJ.mono {s:Tsy} {lg:Nat->Bool} {c:Nat×Nat->Nat} {L:List Nat} {i y B a:Nat} {r:Nat->Nat} (h:GrJ s lg c L i y r B) (b:B<=a):GrJ s lg c L i y r a:=⟨h.leg,h.ahead,h.done,h.sup,h.att,fun k=>Zw (h.bnd k) b⟩
structure Grt (s:Tsy) (lg:Nat->Bool) (c:Nat×Nat->Nat) (r:Nat->Nat):Prop where
 leg:∀k,k<s.n->lg k=true->r k=0
 out:∀k,k<s.n->lg k=false->GrX s c r k
theorem GrI.all {s:Tsy} {lg:Nat->Bool} {c:Nat×Nat->Nat} {L:List Nat} {r:Nat->Nat} {B:Nat} (h:GrI s lg c L L.length r B) (a:∀k,k<s.n->k∈L):Grt s lg c r :=
 ⟨h.leg,fun k hk d=>by
   obtain⟨j,b,e⟩:=Xi.1 (a k hk);have e2:gQ L j=k:=by rw[<- e];simp[gQ,List.getD,b]
   have:=h.done j b b (by rw[e2];exact d)
   rwa[e2] at this⟩
theorem Grt.le {s t:Tsy} {lg:Nat->Bool} {c:Nat×Nat->Nat} {r u:Nat->Nat} (f:Grt s lg c r) (m:Grt t lg c u) (v:s.n=t.n) (o:∀k,k<s.n->∀a∈s.ar k,a∈t.ar k/\a.2<s.n) {L:List Nat} (h:An.Ord s.n s.to lg L):∀(i k:Nat),L[i]?=some k->r k<=u k:=by
 intro i
 induction i using Nat.strongRecOn with
 | _ i l =>
   intro k hk;have b:k<s.n:=h.lt k (Qw hk);cases d:lg k with
   | true=>rw[f.leg k b d];exact Qh _
   | false =>
     rcases (f.out k b d).att with q | ⟨a,g,e⟩
     . rw[q];exact Qh _
     . rcases h.ord i k hk with q | ⟨_,q⟩
       . rw[d] at q;cases q
       . obtain⟨j,p,e2⟩:=q a.2 (Qi.2 ⟨a,g,rfl⟩);have x:=l j p _ e2;have w:=(m.out k (by omega) d).sup a (o k b a g).1;omega
structure X8A (F:FuncId) (c:Nat×Nat->Nat):Prop where
 call:J08 Tryz.prog F=true
 ret:∀a b:Nat,a<4294967296->Ret Tryz.prog F [.agg [.int .u32 a,.int .i64 b]] (.int .i64 (c (a,b)))
 le:∀a,c a<=32
theorem Q47 (s:Tsy) (o:s.Ok) (lg:Nat->Bool) (f:∀L,An.Ord s.n s.to lg L->∀k,k<s.n->k∈L) (F:FuncId) (c:Nat×Nat->Nat) (hF:X8A F c) :
 Q5N Tryz.prog 50 [s.v,blV s.n lg,.fn (.func F) false []] fun v=>∃r:Nat->Nat,Grt s lg c r/\(∀k,r k<=300000000000)/\v=.tup [inV s.n r,.int .i64 0]:=by
 have S:=o.n1;have R:=o.n2;have u:=Q1e s o lg f;refine J31 rfl ?_;refine fr fj50 ?_
 repeat' ((conv=>whnf);first|(refine Br.ff ?_)|(refine Bd.q ?_)|(refine Len.q ?_)|(refine MkS.vec ?_)|(refine u.go ?_;rintro _ ⟨L,D,O,rfl⟩))
 all_goals conv=>whnf
 refine J0s J0c [1,2,3,10,27,28] [] J1k [1,0] (fun x:Nat×(Nat->Nat)=>[(29,.int .i64 x.1)]) (fun own x=>J2g own 1 (.vec s.n 1 (vEt x.2))) (fun m x=>m=s.n-x.1/\x.1<=s.n/\GrI s lg c L x.1 x.2 (32*(x.1*262145))) s.n (0,fun _=>0) ⟨rfl,Qh _,GrI.start s lg c L⟩ rfl (fun _=>rfl) ?_ ?_
 . refine J0F J0r ?_;intro i j J B;exact J97 _ _ B
 rintro m x ⟨W,V,t⟩;by_cases p:x.1<s.n
 . have l:gQ L x.1<s.n:=D.lt _ (J6Y (by omega));cases d:lg (gQ L x.1) with
   | true =>
     repeat' ((conv=>whnf);first|(refine Ix.mk (gQ L x.1) (by rfl) l ?_)|(refine Br.mk (fun _=>?_) (fun e=>Bool.noConfusion (e.symm.trans d)))|(refine Br.dec ?_ ?_<;>intro _<;>try omega)|(refine Ar.q ?_)|(refine Ix.q ?_))
     all_goals conv=>whnf
     refine⟨_,(x.1+1,x.2),?_,⟨rfl,p,(t.skip d).mono (by simp only;omega)⟩,?_⟩
     . simp only;omega
     . exact J0a (fun env own=>[(0,some 0),(1,some 1)])
   | false =>
     have G:=o.row l
     repeat' ((conv=>whnf);first|(refine Ix.mk (gQ L x.1) (by rfl) l ?_)|(refine Br.mk (fun e=>Bool.noConfusion (e.symm.trans d)) (fun _=>?_))|(refine Br.dec ?_ ?_<;>intro _<;>try omega)|(refine Ix.q ?_))
     all_goals conv=>whnf
     refine J0s J0c [1,2,3,10,12,27,28,29,41,42] [] J1k [1,0] (fun y:Nat×(Nat->Nat)=>[(43,.int .i64 y.1)]) (fun own y=>J2g own 1 (.vec s.n 1 (vEt y.2))) (fun m y=>m=(s.ar (gQ L x.1)).length-y.1/\y.1<=(s.ar (gQ L x.1)).length/\GrJ s lg c L x.1 y.1 y.2 (32*(x.1*262145+y.1))) (s.ar (gQ L x.1)).length (0,x.2) ⟨rfl,Qh _,(t.enter (by omega)).mono (by omega)⟩ rfl (fun _=>rfl) ?_ ?_
     . exact J0a (fun env own=>[(0,some 0),(1,some 1)])
     rintro T y ⟨I,U,E⟩;by_cases g:y.1<(s.ar (gQ L x.1)).length
     . obtain⟨a1,Q,Z⟩:=o.arc _ l _ (J4D g);have K:=o.en _ l;have H:=Q.le;have A:=hF.ret (gA (s.ar (gQ L x.1)) y.1).1 (gA (s.ar (gQ L x.1)) y.1).2 (by omega);have Y1Y:=hF.le (gA (s.ar (gQ L x.1)) y.1);change c ((gA (s.ar (gQ L x.1)) y.1).1,(gA (s.ar (gQ L x.1)) y.1).2)<=32 at Y1Y;have w:=E.step D (by omega) d g Y1Y;have N:=E.bnd (0+(gA (s.ar (gQ L x.1)) y.1).2);have M:x.1*262145<=32768*262145:=Q5 _ (by omega)
       repeat' ((conv=>whnf);first|(refine Ix.mk (gQ L x.1) (by rfl) l ?_)|(refine Br.dec ?_ ?_<;>intro _<;>try omega)|(refine Ar.q ?_)|(refine Sv.mk _ rfl ?_)|(refine Ix.q ?_)|(refine Ltn.q ?_)|(refine Chk.mk hF.call ?_)|(refine A.go ?_)|(refine And.intro rfl ?_)|(refine And.intro (Ltn.mk (by omega) rfl) ?_))
       all_goals conv=>whnf
       refine⟨_,(y.1+1,fun z=>if z=gQ L x.1 then max (y.2 (gQ L x.1)) (c (gA (s.ar (gQ L x.1)) y.1)+y.2 (gA (s.ar (gQ L x.1)) y.1).2) else y.2 z),?_,⟨rfl,g,w.mono (by simp only;omega)⟩,?_⟩
       . simp only;omega
       . refine J0F (fun env own=>[(0,some 0),(1,some 1)]) ?_;intro i j J B;exact Q7r _ _ _ _ _ (Qk _) (fun z=>X9H y.2 _ _ _ z) _ _ B
     . refine Vq ?_;refine⟨_,(x.1+1,y.2),?_,⟨rfl,p,(E.leave (by omega)).mono (by simp only;omega)⟩,?_⟩
       . simp only;omega
       . exact J0a (fun env own=>[(0,some 0),(1,some 1)])
 . have P:x.1=L.length:=by omega
   rw[P] at t;have C:∀k,x.2 k<=300000000000:=fun k=>by have:=t.bnd k;omega
   refine Vq ?_;exact⟨_,⟨x.2,t.all (f L D),C,rfl⟩,VLe.tup ⟨VLe.fz rfl (fun h=>h) (fun a b Y X=>vE_ (by rw[J0l,Qk];rfl)),vR_,tI⟩⟩
def Y1s (_:Nat×Nat):Nat:=1
def Y18 (a:Nat×Nat):Nat:=cnt a.1 32
theorem X3j:X8A 51 Y1s:=by
 refine⟨by kernel_rfl,fun a b c=>?_,fun a=>by rw[Y1s];omega⟩;refine rf fj51 ?_
 all_goals conv=>whnf
 exact vR_
theorem X3k:X8A 52 Y18:=⟨by kernel_rfl,fun a b c=>Q7g a b c,fun a=>J4g a.1 32⟩
theorem Q7N (s:Tsy) (b:s.Ok) (lg:Nat->Bool) (a:∀L,An.Ord s.n s.to lg L->∀k,k<s.n->k∈L) :
 Q5N Tryz.prog 22 [s.v,blV s.n lg] fun v=>∃r:Nat->Nat,Grt s lg Y1s r/\(∀k,r k<=300000000000)/\v=.tup [inV s.n r,.int .i64 0]:=by
 have h:=Q47 s b lg a _ Y1s X3j;refine J31 rfl ?_;refine fr fj22 ?_
 repeat' ((conv=>whnf);first|(refine h.go ?_;rintro _ ⟨r,c,d,rfl⟩))
 all_goals conv=>whnf
 exact⟨_,⟨r,c,d,rfl⟩,VLe.tup ⟨vR_,vR_,tI⟩⟩
theorem Q9a (s:Tsy) (b:s.Ok) (lg:Nat->Bool) (a:∀L,An.Ord s.n s.to lg L->∀k,k<s.n->k∈L) :
 Q5N Tryz.prog 23 [s.v,blV s.n lg] fun v=>∃r:Nat->Nat,Grt s lg Y18 r/\(∀k,r k<=300000000000)/\v=.tup [inV s.n r,.int .i64 0]:=by
 have h:=Q47 s b lg a _ Y18 X3k;refine J31 rfl ?_;refine fr fj23 ?_
 repeat' ((conv=>whnf);first|(refine h.go ?_;rintro _ ⟨r,c,d,rfl⟩))
 all_goals conv=>whnf
 exact⟨_,⟨r,c,d,rfl⟩,VLe.tup ⟨vR_,vR_,tI⟩⟩
end Go.Proofs.YtcbnimaicgegfaaGreatDoor
namespace Go.Eng
open Go.Plain
def vW4 (l:List Nat):Nat->Nat->V:=fun i _=>.int .u32 (gQ l i)
def Q3g (F:Nat->List Nat):Nat->Nat->Nat->V:=fun t=>vW4 (F t)
theorem Q7m (l:List Nat) (a:Nat) (F:Nat->Nat->V) (x:Int) (hF:F 0 0=.int .u32 x) (b:x=a) (n i j:Nat) (c:n=l.length) (e:i<l.length+1) (d:j<1):VLe (J56 (J0m 0 (vW4 l)) n (J0m 0 F) i j) (vW4 (l++[a]) i j):=by
 obtain rfl:j=0:=by omega
 subst c;apply vE_;rw[vW4,J5i];by_cases h:i<l.length
 . rw[J19 h,J0l,Qk,Qe h];rfl
 . rw[J2a h,Qb h];have:i=l.length:=by omega
   subst this;simp[J0m,hF,b]
theorem Q93 {F b:Nat->List Nat} {t x n:Nat} (hF:b=J7A F t x) {g:Nat->Nat->V} (hg:∀j u,j<(F t).length+1->u<1->VLe (g j u) (vW4 (F t++[x]) j u)) (ρ:Rn) :
 X8S ρ (.fam n 1 (J3G (J7m F) t ((F t).length+1)) (J4W (Q3g F) t g) []) (.fam n 1 (J7m b) (Q3g b) []):=by
 subst hF;refine⟨rfl,rfl,tI,fun i d=>?_,fun i j u d f a c=>?_⟩
 . rw[Q0A];rfl
 . simp only[J4W,Q3g,J7A];simp only[J3G] at a;by_cases e:i=t
   . rw[Qe e,Qe e];rw[Qe e] at a;rw[e];exact hg j u a c
   . rw[Qb e,Qb e];exact vR_
def X8Q (lg:Nat->Bool) (L:List (Nat×Nat)) (p:Nat×Nat):List (Nat×Nat):=if lg p.1=false/\p∉L then L++[p] else L
theorem J38.add {s:Tsy} {lg:Nat->Bool} {m:Nat} {L:List (Nat×Nat)} (h:J38 s lg m L) {p:Nat×Nat} (hp:p.1<s.n/\p.2<m):J38 s lg m (X8Q lg L p):=by
 rw[X8Q];split
 . rename_i q;exact h.snoc hp q.1 q.2
 . exact h
theorem Q11 {L:List (Nat×Nat)} {p:Nat×Nat} {A:V->Prop} {B:Prop} (d:p∈L->A (.bool true)) (c:p∉L->B):X37 (J00 (enQ L) (kyP p)) A B:=by
 rw[X20];by_cases h:p∈L
 . rw[Qe h];exact⟨fun v a=>(by cases a;exact d h),fun b=>(by cases b)⟩
 . rw[Qb h];exact⟨fun v a=>(by cases a),fun _=>c h⟩
theorem X34 {lg:Nat->Bool} {L:List (Nat×Nat)} {p:Nat×Nat} (h:lg p.1=true):X8Q lg L p=L:=Qb (fun q=>by rw[h] at q;exact Bool.noConfusion q.1)
theorem Q5L {lg:Nat->Bool} {L:List (Nat×Nat)} {p:Nat×Nat} (b:lg p.1=false) (h:p∉L):X8Q lg L p=L++[p]:=Qe ⟨b,h⟩
structure MpI (s:Tsy) (lg:Nat->Bool) (Q:Nat->Nat->Nat->Prop) (B:Nat) (es:List (KyT (.st KP)×V)):Prop where
 get:∀(p:Nat×Nat) (v:V),p.1<s.n->lg p.1=false->J00 es (kyP p)=some v->∃r:Nat,v=.int .i64 r/\Q p.1 p.2 r/\r<=B
theorem MpI.nil (s:Tsy) (lg:Nat->Bool) (Q:Nat->Nat->Nat->Prop) (B:Nat):MpI s lg Q B []:=⟨fun p v _ _ h=>by simp[J00] at h⟩
end Go.Eng
namespace Go.Proofs.YtcbnimaicgegfaaGreatDoor
open Go.Eng Go.Plain
set_option maxRecDepth 100000
theorem Q1g (s:Tsy) (d:s.Ok) (k b:Nat) (hp:b<4294967296) (a:Nat×Nat) (i:a.1<4294967296) (e:a.2<s.n) :
 Ret Tryz.prog 55 [s.v,.agg [.int .i64 k,.int .u32 b],.agg [.int .u32 a.1,.int .i64 a.2]] (.tup [.agg [.int .i64 a.2,.int .u32 (s.aft b a).1],.bool (s.aft b a).2]):=by
 have f:=d.en _ e;have j:=d.n2;have hd:=J2t hp i;have c:J0Z b a.1<4294967296:=X5 Jh hp;have g:=J0P c (show s.en a.2<4294967296 by omega);refine rf fj55 ?_
 repeat' ((conv=>whnf);first|(refine Sv.mk _ hd.symm ?_)|(refine Sv.mk _ g.symm ?_)|(refine Br.dec ?_ ?_<;>intro _<;>try omega)|(refine Ix.q ?_))
 all_goals conv=>whnf
 . rename_i h;have h:J0Z b a.1 &&& s.en a.2=0:=by omega
   rw[Tsy.aft,Qe h];exact vR_
 . rename_i h;have h:¬ J0Z b a.1 &&& s.en a.2=0:=by omega
   rw[Tsy.aft,Qb h];exact vR_
structure X8R where
 L:List (Nat×Nat)
 i:Nat
 F:Nat->List Nat
structure RchI (s:Tsy) (lg:Nat->Bool) (m:Nat) (x:X8R):Prop where
 pr:J38 s lg m x.L
 le:x.i<=x.L.length
 row:∀t,J7m x.F t<=x.i
 val:∀t,∀a∈x.F t,a<m/\lg t=false
noncomputable def X6M (s:Tsy) (lg:Nat->Bool) (L:List (Nat×Nat)):Own:=[(5,.vec L.length 2 (vPr L)),(4,.cells [.vec 5 2 0 L.length]),(3,.cells [.map 2]),(2,.map (.st KP) (enQ L)),(1,.cells [blV s.n lg]),(0,.cells [.fz s.n 1 false (vEn s),.fz s.n 1 false (X4c s)])]
noncomputable def X6L (s:Tsy) (lg:Nat->Bool) (x:X8R):Own:=(6,.fam s.n 1 (J7m x.F) (Q3g x.F) [])::X6M s lg x.L
end Go.Proofs.YtcbnimaicgegfaaGreatDoor
namespace Go.Eng
theorem X0M:∃f:Nat->Nat->Nat,∀i j,f i j=i*300000+j:=⟨fun i j=>i*300000+j,fun _ _=>rfl⟩
noncomputable def X3I:Nat->Nat->Nat:=Classical.choose X0M
theorem J8L (i j:Nat):X3I i j=i*300000+j:=Xj X0M i j
theorem X0K (i j:Nat):X3I i (j+1)=X3I i j+1:=by
 have b:=J8L i (j+1);have a:=J8L i j;omega
theorem X0L {i j:Nat} (h:j<=262144):X3I i j<=X3I (i+1) 0:=by
 have b:=J8L (i+1) 0;have a:=J8L i j;omega
theorem Q5E {i j:Nat} (a:i<=32768) (h:j<=262144):X3I i j<=1000000000000:=by
 have b:=J8L i j;omega
end Go.Eng
namespace Go.Proofs.YtcbnimaicgegfaaGreatDoor
open Go.Eng Go.Plain
set_option maxRecDepth 100000
set_option maxHeartbeats 16000000
structure X1d (s:Tsy) (lg:Nat->Bool) (m i:Nat) (L:List (Nat×Nat)):Prop where
 pr:J38 s lg m L
 ini:∀k,k<i->lg k=false->(k,s.en k)∈L
theorem X1d.nil (s:Tsy) (lg:Nat->Bool) (m:Nat):X1d s lg m 0 []:=⟨J38.nil s lg m,fun k h=>by omega⟩
theorem X1d.skip {s:Tsy} {lg:Nat->Bool} {m i:Nat} {L:List (Nat×Nat)} (h:X1d s lg m i L) (b:lg i=false->(i,s.en i)∈L):X1d s lg m (i+1) L :=
 ⟨h.pr,fun k hk a=>by
   by_cases e:k=i
   . subst e;exact b a
   . exact h.ini k (by omega) a⟩
theorem X1d.more {s:Tsy} {lg:Nat->Bool} {m i:Nat} {L:List (Nat×Nat)} (h:X1d s lg m i L) (hp:J38 s lg m (L++[(i,s.en i)])):X1d s lg m (i+1) (L++[(i,s.en i)]) :=
 ⟨hp,fun k hk a=>by
   by_cases e:k=i
   . subst e;simp
   . exact X0 _ (h.ini k (by omega) a)⟩
structure X36 (s:Tsy) (lg:Nat->Bool) (m:Nat) (x:X8R):Prop where
 old:RchI s lg m x
 ini:∀k,k<s.n->lg k=false->(k,s.en k)∈x.L
 cov:∀j,j<x.i->(gP x.L j).2∈x.F (gP x.L j).1
 src:∀t,∀a∈x.F t,∃j,j<x.i/\gP x.L j=(t,a)
 clo:∀j,j<x.i->∀a∈s.ar (gP x.L j).1,lg a.2=false->(a.2,(s.aft (gP x.L j).2 a).1)∈x.L
theorem X36.start {s:Tsy} {lg:Nat->Bool} {m:Nat} {L:List (Nat×Nat)} (h:X1d s lg m s.n L):X36 s lg m ⟨L,0,fun _=>[]⟩ :=
 ⟨⟨h.pr,Qh _,fun _=>Qh _,fun _ a h=>(by cases h)⟩,fun k hk b=>h.ini k hk b,fun j h=>by simp only at h;omega,fun t a h=>(by cases h),fun j h=>by simp only at h;omega⟩
structure Q62 (s:Tsy) (lg:Nat->Bool) (m:Nat) (L:List (Nat×Nat)) (p:Nat×Nat) (q:Nat) (L':List (Nat×Nat)):Prop where
 pr:J38 s lg m L'
 pre:∃t,L'=L++t
 clo:∀z,z<q->lg (gA (s.ar p.1) z).2=false->((gA (s.ar p.1) z).2,(s.aft p.2 (gA (s.ar p.1) z)).1)∈L'
theorem Q62.len {s:Tsy} {lg:Nat->Bool} {m:Nat} {L a:List (Nat×Nat)} {p:Nat×Nat} {q:Nat} (h:Q62 s lg m L p q a):L.length<=a.length:=by
 obtain⟨t,rfl⟩:=h.pre;simp
theorem Q62.start {s:Tsy} {lg:Nat->Bool} {m:Nat} {L:List (Nat×Nat)} (h:J38 s lg m L) (p:Nat×Nat):Q62 s lg m L p 0 L:=⟨h,⟨[],by simp⟩,fun z hz=>by omega⟩
theorem Q62.skip {s:Tsy} {lg:Nat->Bool} {m:Nat} {L b:List (Nat×Nat)} {p:Nat×Nat} {q:Nat} (h:Q62 s lg m L p q b) (c:lg (gA (s.ar p.1) q).2=false->((gA (s.ar p.1) q).2,(s.aft p.2 (gA (s.ar p.1) q)).1)∈b):Q62 s lg m L p (q+1) b :=
 ⟨h.pr,h.pre,fun z hz a=>by
   by_cases e:z=q
   . subst e;exact c a
   . exact h.clo z (by omega) a⟩
theorem Q62.more {s:Tsy} {lg:Nat->Bool} {m:Nat} {L b:List (Nat×Nat)} {p:Nat×Nat} {q:Nat} (h:Q62 s lg m L p q b) (hp:J38 s lg m (b++[((gA (s.ar p.1) q).2,(s.aft p.2 (gA (s.ar p.1) q)).1)])):Q62 s lg m L p (q+1) (b++[((gA (s.ar p.1) q).2,(s.aft p.2 (gA (s.ar p.1) q)).1)]):=by
 obtain⟨t,e⟩:=h.pre;refine⟨hp,⟨t++[((gA (s.ar p.1) q).2,(s.aft p.2 (gA (s.ar p.1) q)).1)],by rw[e,Q9]⟩,fun z hz a=>?_⟩;by_cases e:z=q
 . subst e;simp
 . exact X0 _ (h.clo z (by omega) a)
theorem Y04 {L t:List (Nat×Nat)} {j:Nat} (h:j<L.length):gP (L++t) j=gP L j:=by simp[gP,List.getD,Q3 h]
theorem X31 {F:Nat->List Nat} {t x u a:Nat} (h:a∈F u):a∈J7A F t x u:=by
 rw[J7A];split
 . exact X0 _ h
 . exact h
theorem X36.next {s:Tsy} {lg:Nat->Bool} {m:Nat} {x:X8R} {c:List (Nat×Nat)} {q:Nat} (h:X36 s lg m x) (y:x.i<x.L.length) {p:Nat×Nat} (hp:gP x.L x.i=p) (f:Q62 s lg m x.L p q c) (w:(s.ar p.1).length<=q)
 (v:∀t,J7m (J7A x.F p.1 p.2) t<=x.i+1) (r:∀t,∀a∈J7A x.F p.1 p.2 t,a<m/\lg t=false):X36 s lg m ⟨c,x.i+1,J7A x.F p.1 p.2⟩:=by
 obtain⟨t,e⟩:=f.pre;have hg:∀j,j<x.i+1->gP c j=gP x.L j:=fun j d=>by rw[e];exact Y04 (by omega)
 refine⟨⟨f.pr,by simp only;have:=f.len;omega,v,r⟩,fun k hk g=>?_,fun j d=>?_,fun u a b=>?_,fun j d a b g=>?_⟩
 . show _∈c;rw[e];exact X0 _ (h.ini k hk g)
 . have d:j<x.i+1:=d;show(gP c j).2∈J7A x.F p.1 p.2 (gP c j).1;rw[hg j d];by_cases e2:j=x.i
   . subst e2;rw[hp,J7A,Qe rfl];simp
   . exact X31 (h.cov j (by omega))
 . have b:a∈J7A x.F p.1 p.2 u:=b;rw[J7A] at b;have old:a∈x.F u->∃j,j<x.i+1/\gP c j=(u,a):=fun b=>by
    obtain⟨j,d,n⟩:=h.src u a b;exact⟨j,by omega,by rw[hg j (by omega),n]⟩
   split at b
   . rename_i e2;subst e2;rcases Qr.1 b with l|l
     . exact old l
     . simp at l;subst l;exact⟨x.i,by simp only;omega,by rw[hg x.i (by omega),hp]⟩
   . exact old b
 . have d:j<x.i+1:=d;show _∈c;have b:a∈s.ar (gP c j).1:=b;show(a.2,(s.aft (gP c j).2 a).1)∈c;rw[hg j d] at b ⊢;by_cases e2:j=x.i
   . subst e2;rw[hp] at b ⊢;obtain⟨z,hz,n⟩:=Xi.1 b;have o:gA (s.ar p.1) z=a:=by rw[<- n];simp[gA,List.getD,hz]
     have:=f.clo z (by omega) (by rw[o];exact g)
     rwa[o] at this
   . rw[e];exact X0 _ (h.clo j (by omega) a b g)
structure Y1M (s:Tsy) (lg:Nat->Bool) (F:Nat->List Nat):Prop where
 len:∀k,(F k).length<=262144
 val:∀k,∀a∈F k,a<262144/\lg k=false
 ini:∀k,k<s.n->lg k=false->s.en k∈F k
 clo:∀k pd,pd∈F k->∀a∈s.ar k,lg a.2=false->(s.aft pd a).1∈F a.2
theorem X7o {L:List (Nat×Nat)} {p:Nat×Nat} (h:p∈L):∃j,j<L.length/\gP L j=p:=by
 obtain⟨j,a,e⟩:=Xi.1 h;exact⟨j,a,by rw[<- e];simp[gP,List.getD,a]⟩
theorem X36.fin {s:Tsy} {lg:Nat->Bool} {m:Nat} {x:X8R} (h:X36 s lg m x) (q:x.i=x.L.length) (n:∀k,(x.F k).length<=262144) (o:m<=262144):Y1M s lg x.F:=by
 have b:∀p,p∈x.L->p.2∈x.F p.1:=fun p hp=>by
  obtain⟨j,g,e⟩:=X7o hp;have:=h.cov j (by omega)
  rwa[e] at this
 refine⟨n,fun k a c=>⟨by have:=(h.old.val k a c).1;omega,(h.old.val k a c).2⟩,fun k hk f=>b _ (h.ini k hk f),fun k l d a c f=>?_⟩;obtain⟨j,g,e⟩:=h.src k l d;have:=h.clo j g a (by rw[e];exact c) f;rw[e] at this;exact b _ this
theorem Q8l (s:Tsy) (N:s.Ok) (lg:Nat->Bool) (r:Nat) (I:∀k,k<s.n->s.en k<r) (V:s.n*r<=262144) :
 Q5N Tryz.prog 54 [s.v,blV s.n lg] fun v=>∃F:Nat->List Nat,Y1M s lg F/\v=.tup [.fz s.n 1 false fun k _=>uV (F k),.int .i64 0]:=by
 have n1:=N.n1;have aa:r<=262144:=Zw (Vg r n1) V;have n2:=N.n2;refine Q1M rfl ?_;refine fr fj54 ?_
 all_goals conv=>whnf
 refine J1y J0c [2,3,7,8,21,22] [5] X9V [5,4,3,2,1,0] (fun x:Nat×List (Nat×Nat)=>[(23,.int .i64 x.1)]) (fun x=>X6M s lg x.2) (fun m x=>m=s.n-x.1/\x.1<=s.n/\X1d s lg r x.1 x.2) s.n (0,[]) ⟨rfl,Qh _,X1d.nil s lg r⟩ rfl (fun _=>rfl) ?_ ?_
 . have he:=X7B;refine J0d (fun _ _=>[(0,some 0),(1,some 1),(2,some 2),(3,some 3),(4,some 4),(5,none)]) ?_ ?_ rfl
   . repeat' (first|exact tI|(refine J0b.fn ?_)|(refine⟨⟨_,rfl,?_⟩,?_⟩)|exact J0b.kf rfl|exact J0b.loc rfl|apply And.intro)
   . repeat' (first|exact⟨rfl,he⟩|exact tI|exact J0b.map rfl|(refine⟨⟨_,rfl,?_⟩,?_⟩)|exact J0b.kf rfl|exact J0b.nil rfl rfl|(refine⟨⟨_,_,rfl⟩,?_⟩)|apply And.intro)
 rintro m x ⟨hm,hx,C⟩;have ae:=C.pr.len;by_cases z:x.1<s.n
 . have o:J38 s lg r (X8Q lg x.2 (x.1,s.en x.1)):=C.pr.add ⟨z,I _ z⟩;cases d:lg x.1 with
   | true =>
     have he:=X34 (lg:=lg) (L:=x.2) (p:=(x.1,s.en x.1)) d
     repeat' ((conv=>whnf);first|(refine Br.mk (fun _=>?_) (fun e=>Bool.noConfusion (e.symm.trans d)))|(refine Br.dec ?_ ?_<;>intro _<;>try omega)|(refine Ar.q ?_)|(refine Ix.q ?_)|(refine fr X2Z ?_)|(refine Chk.q ?_))
     all_goals conv=>whnf
     refine⟨_,(x.1+1,x.2),?_,⟨rfl,z,C.skip (fun e=>Bool.noConfusion (e.symm.trans d))⟩,?_⟩
     . simp only;omega
     . refine J0d J2w ?_ ?_ rfl
       . repeat' (first|exact tI|(refine J0b.fn ?_)|(refine⟨⟨_,rfl,?_⟩,?_⟩)|exact J0b.kf rfl|exact J0b.loc rfl|apply And.intro)
       . repeat' (first|exact⟨rfl,rfl⟩|exact tI|exact J0b.map rfl|(refine⟨⟨_,rfl,?_⟩,?_⟩)|exact J0b.kf rfl|exact J0b.q|(refine⟨Qd _,rfl,fun i j c f=>?_⟩)|exact vR_|apply And.intro)
   | false =>
     repeat' ((conv=>whnf);first|(refine Br.mk (fun e=>Bool.noConfusion (e.symm.trans d)) (fun _=>?_))|(refine Br.dec ?_ ?_<;>intro _<;>try omega)|(refine Br.nbeq ?_ ?_<;>intro _<;>try omega)|(refine Ar.q ?_)|(refine Ix.q ?_)|(refine Len.q ?_)|(refine fr X2Z ?_)|(refine Chk.q ?_)|(refine Q11 (p:=(x.1,s.en x.1)) (fun K=>?_) (fun g=>?_)))
     all_goals conv=>whnf
     . refine⟨_,(x.1+1,x.2),?_,⟨rfl,z,C.skip (fun _=>K)⟩,?_⟩
       . simp only;omega
       . refine J0d J2w ?_ ?_ rfl
         . repeat' (first|exact tI|(refine J0b.fn ?_)|(refine⟨⟨_,rfl,?_⟩,?_⟩)|exact J0b.kf rfl|exact J0b.loc rfl|apply And.intro)
         . repeat' (first|exact⟨rfl,rfl⟩|exact tI|exact J0b.map rfl|(refine⟨⟨_,rfl,?_⟩,?_⟩)|exact J0b.kf rfl|exact J0b.q|(refine⟨Qd _,rfl,fun i j c f=>?_⟩)|exact vR_|apply And.intro)
     . rw[Q5L d g] at o;have H:=Q8w g;refine⟨_,(x.1+1,x.2++[(x.1,s.en x.1)]),?_,⟨rfl,z,C.more o⟩,?_⟩
       . simp only;omega
       . refine J0d (fun env own=>[(0,some 0),(1,some 1),(2,some 2),(3,some 3),(4,some 4),(5,Q0S own 4 0)]) ?_ ?_ rfl
         . repeat' (first|exact tI|(refine J0b.fn ?_)|(refine⟨⟨_,rfl,?_⟩,?_⟩)|exact J0b.kf rfl|exact J0b.loc rfl|apply And.intro)
         . repeat' (first|exact⟨rfl,H.symm⟩|exact J0b.vec rfl rfl (by simp only[Ql,Xa])|(refine⟨by simp only[Ql,Xa];omega,rfl,fun i j c f=>?_⟩)|exact Q4m _ _ _ rfl rfl _ _ _ rfl (by simpa using c) f|exact tI|exact J0b.map rfl|(refine⟨⟨_,rfl,?_⟩,?_⟩)|exact J0b.kf rfl|apply And.intro)
 have P:x.1=s.n:=by omega
 refine Vq ?_;rw[P] at C;generalize x.2=L0 at *;clear P hx hm;refine J1y J0c [2,7,8,11] [5,7] X9T [7,6,5,4,3,2,1,0] (fun x:X8R=>[(12,.int .i64 x.i)]) (fun x=>(7,.vec (if x.i<x.L.length then J7m x.F (gP x.L x.i).1 else 0) 1 (Q3g x.F (gP x.L x.i).1))::J2g (X6L s lg x) 6 (.fam s.n 1 (J7m x.F) (Q3g x.F) (X1m (decide (x.i<x.L.length)) (gP x.L x.i).1 7))) (fun m x=>m=s.n*r-x.i/\X36 s lg r x) (s.n*r) ⟨L0,0,fun _=>[]⟩ ⟨rfl,X36.start C⟩ rfl (fun _=>rfl) ?_ ?_
 . by_cases w:0<L0.length
   . have X:=(C.pr.ok _ (Q5a w)).1;simp only[Qn w,X1m,Zl,Qe w];refine J3b.trans ?_ (J0Q (own:=X6L s lg ⟨L0,0,fun _=>[]⟩) (ks:=X4F) rfl rfl rfl X rfl) (ksC rfl);refine J0d J4e ?_ ?_ rfl
     . repeat' (first|exact tI|(refine J0b.fn ?_)|(refine⟨⟨_,rfl,?_⟩,?_⟩)|exact J0b.kf rfl|exact J0b.loc rfl|exact J0b.q|apply And.intro)
     . repeat' (first|exact⟨rfl,rfl,rfl,fun i c=>⟨rfl,rfl⟩⟩|exact⟨rfl,rfl⟩|exact tI|exact J0b.map rfl|(refine⟨⟨_,rfl,?_⟩,?_⟩)|exact J0b.kf rfl|exact J0b.q|(refine⟨Qd _,rfl,fun i j c f=>?_⟩)|exact vR_|apply And.intro)
   . simp only[Qm w,X1m,Xf,Xy,Qb w];refine J0d (fun _ _=>[(0,some 0),(1,some 1),(2,some 2),(3,some 3),(4,some 4),(5,some 5),(6,some 6),(7,none)]) ?_ ?_ rfl
     . repeat' (first|exact tI|(refine J0b.fn ?_)|(refine⟨⟨_,rfl,?_⟩,?_⟩)|exact J0b.kf rfl|exact J0b.loc rfl|exact J0b.q|apply And.intro)
     . repeat' (first|exact⟨rfl,rfl,rfl,fun i c=>⟨rfl,rfl⟩⟩|exact⟨rfl,rfl⟩|exact tI|exact J0b.map rfl|(refine⟨⟨_,rfl,?_⟩,?_⟩)|exact J0b.kf rfl|exact J0b.q|(refine⟨Qd _,rfl,fun i j c f=>?_⟩)|exact vR_|(refine⟨⟨_,_,rfl⟩,?_⟩)|apply And.intro)
 rintro m x ⟨hm,W⟩;have A:=W.old;have af:=A.pr.len;have ab:=A.le;by_cases l:x.i<x.L.length
 . have hp:=A.pr.ok _ (Q5a l);have U:=A.pr.leg _ (Q5a l);have a8:=A.row (gP x.L x.i).1;have Z:=N.row hp.1;have ac:=I _ hp.1;have J:gP x.L (0+x.i)=gP x.L x.i:=by rw[Qk]
   generalize T:gP x.L x.i=p at *;simp only[Qn l,X1m,Zl,Qe l]
   repeat' ((conv=>whnf);first|(refine Ix.mk p.1 (by rw[J]) hp.1 ?_)|(refine Br.dec ?_ ?_<;>intro _<;>try omega)|(refine Br.nbeq ?_ ?_<;>intro _<;>try omega)|(refine Ix.q ?_)|(refine Len.q ?_)|(refine Ltn.q ?_)|(refine Opn.hd (by omega) ?_)|(refine J45.hd (by omega) ?_)|(refine And.intro rfl ?_))
   all_goals conv=>whnf
   refine J1y J0c [2,7,8,11,12,13,68,69] [5] X7a [8,6,5,4,3,2,1,0] (fun y:Nat×List (Nat×Nat)=>[(70,.int .i64 y.1)]) (fun y=>(8,.cells [.int .i64 p.1,.int .u32 p.2])::(6,.fam s.n 1 (J7m (J7A x.F p.1 p.2)) (Q3g (J7A x.F p.1 p.2)) [])::X6M s lg y.2) (fun m y=>m=(s.ar p.1).length-y.1/\y.1<=(s.ar p.1).length/\Q62 s lg r x.L p y.1 y.2) (s.ar p.1).length (0,x.L) ⟨rfl,Qh _,Q62.start A.pr p⟩ rfl (fun _=>rfl) ?_ ?_
   . refine J3b.trans (J1M (J1q (q:=10) (k:=6) (i:=p.1) [] rfl rfl hp.1 (J0j rfl) (Y4 (Qe rfl)) rfl (fun j f=>(J0o (fun e=>f e.symm)).symm))) ?_ (ksS rfl);refine J0d J17 ?_ ?_ rfl
     . repeat' (first|exact tI|(refine J0b.fn ?_)|(refine⟨⟨_,rfl,?_⟩,?_⟩)|exact J0b.kf rfl|exact J0b.loc rfl|exact J0b.q|apply And.intro)
     . repeat' (first|exact Q93 rfl (fun j u f hu=>Q7m _ _ _ _ rfl (by rw[J]) _ _ _ rfl f hu) _|exact J0b.int (by rw[J])|exact⟨rfl,rfl⟩|exact tI|exact J0b.map rfl|(refine⟨⟨_,rfl,?_⟩,?_⟩)|exact J0b.kf rfl|exact J0b.q|(refine⟨Qd _,rfl,fun i j c f=>?_⟩)|exact vR_|apply And.intro)
   rintro m2 y ⟨a9,hy,O⟩;have M:=O.pr;have a6:=M.len;have a7:x.i<y.2.length:=Xu l O.len;by_cases B:y.1<(s.ar p.1).length
   . obtain⟨a1,a2,Y⟩:=N.arc _ hp.1 _ (J4D B);have a5:=a2.le;have a0:=N.en _ hp.1;have ad:=s.aft_le p.2 (gA (s.ar p.1) y.1);have a4:=I _ Y;have D:=Q1g s N p.1 p.2 (by omega) (gA (s.ar p.1) y.1) (by omega) Y;have o:J38 s lg r (X8Q lg y.2 ((gA (s.ar p.1) y.1).2,(s.aft p.2 (gA (s.ar p.1) y.1)).1)):=M.add ⟨Y,by simp only;omega⟩;obtain⟨b,hb⟩:∃b,(s.aft p.2 (gA (s.ar p.1) y.1)).2=b:=⟨_,rfl⟩;rw[hb] at D;cases b
     all_goals
      cases d:lg (gA (s.ar p.1) y.1).2 with
      | true =>
        repeat' ((conv=>whnf);first|(refine Br.mk (fun _=>?_) (fun e=>Bool.noConfusion (e.symm.trans d)))|(refine Br.tt ?_)|(refine Br.ff ?_)|(refine Br.dec ?_ ?_<;>intro _<;>try omega)|(refine Ar.q ?_)|(refine Ix.q ?_)|(refine D.go ?_)|(refine fr X2Z ?_)|(refine Chk.q ?_))
        all_goals conv=>whnf
        refine⟨_,(y.1+1,y.2),?_,⟨rfl,B,O.skip (fun e=>Bool.noConfusion (e.symm.trans d))⟩,?_⟩
        . simp only;omega
        . refine J0d J17 ?_ ?_ rfl
          . repeat' (first|exact tI|(refine J0b.fn ?_)|(refine⟨⟨_,rfl,?_⟩,?_⟩)|exact J0b.kf rfl|exact J0b.loc rfl|exact J0b.q|apply And.intro)
          . repeat' (first|exact⟨rfl,rfl⟩|exact⟨rfl,rfl,tI,fun i c=>rfl,fun i j t c S f R=>vR_⟩|exact tI|exact J0b.map rfl|(refine⟨⟨_,rfl,?_⟩,?_⟩)|exact J0b.kf rfl|exact J0b.q|(refine⟨Qd _,rfl,fun i j c f=>?_⟩)|exact vR_|apply And.intro)
      | false =>
        repeat' ((conv=>whnf);first|(refine Br.mk (fun e=>Bool.noConfusion (e.symm.trans d)) (fun _=>?_))|(refine Br.tt ?_)|(refine Br.ff ?_)|(refine Br.dec ?_ ?_<;>intro _<;>try omega)|(refine Br.nbeq ?_ ?_<;>intro _<;>try omega)|(refine Ar.q ?_)|(refine Ix.q ?_)|(refine Len.q ?_)|(refine D.go ?_)|(refine fr X2Z ?_)|(refine Chk.q ?_)|(refine Q11 (p:=((gA (s.ar p.1) y.1).2,(s.aft p.2 (gA (s.ar p.1) y.1)).1)) (fun K=>?_) (fun g=>?_)))
        all_goals conv=>whnf
        . refine⟨_,(y.1+1,y.2),?_,⟨rfl,B,O.skip (fun _=>K)⟩,?_⟩
          . simp only;omega
          . refine J0d J17 ?_ ?_ rfl
            . repeat' (first|exact tI|(refine J0b.fn ?_)|(refine⟨⟨_,rfl,?_⟩,?_⟩)|exact J0b.kf rfl|exact J0b.loc rfl|exact J0b.q|apply And.intro)
            . repeat' (first|exact⟨rfl,rfl⟩|exact⟨rfl,rfl,tI,fun i c=>rfl,fun i j t c S f R=>vR_⟩|exact tI|exact J0b.map rfl|(refine⟨⟨_,rfl,?_⟩,?_⟩)|exact J0b.kf rfl|exact J0b.q|(refine⟨Qd _,rfl,fun i j c f=>?_⟩)|exact vR_|apply And.intro)
        . rw[Q5L d g] at o;have H:=Q8w g;refine⟨_,(y.1+1,y.2++[((gA (s.ar p.1) y.1).2,(s.aft p.2 (gA (s.ar p.1) y.1)).1)]),?_,⟨rfl,B,O.more o⟩,?_⟩
          . simp only;omega
          . refine J0d (fun env own=>[(0,some 0),(1,some 1),(2,some 2),(3,some 3),(4,some 4),(5,Q0S own 4 0),(6,some 6),(8,some 8)]) ?_ ?_ rfl
            . repeat' (first|exact J0b.vec rfl rfl (by simp only[Ql,Xa])|exact tI|(refine J0b.fn ?_)|(refine⟨⟨_,rfl,?_⟩,?_⟩)|exact J0b.kf rfl|exact J0b.loc rfl|apply And.intro)
            . repeat' (first|exact⟨rfl,H.symm⟩|exact J0b.vec rfl rfl (by simp only[Ql,Xa])|(refine⟨by simp only[Ql,Xa];omega,rfl,fun i j c f=>?_⟩)|exact Q4m _ _ _ rfl rfl _ _ _ rfl (by simpa using c) f|exact⟨rfl,rfl,tI,fun i c=>rfl,fun i j t c S f R=>vR_⟩|exact tI|exact J0b.map rfl|(refine⟨⟨_,rfl,?_⟩,?_⟩)|exact J0b.kf rfl|apply And.intro)
   . refine Vq ?_;have G:∀t,J7m (J7A x.F p.1 p.2) t<=x.i+1:=fun t=>by
      rw[Q0A];have w:=A.row t;have h2:=A.row p.1;rw[J7m] at h2;split<;>omega
     have E:∀t,∀a∈J7A x.F p.1 p.2 t,a<r/\lg t=false:=fun t a Q=>by
      rw[J7A] at Q;split at Q
      . rename_i e;subst e;rcases Qr.1 Q with h|h
        . exact A.val _ a h
        . simp at h;subst h;exact⟨hp.2,U⟩
      . exact A.val t a Q
     refine⟨_,⟨y.2,x.i+1,J7A x.F p.1 p.2⟩,?_,⟨rfl,W.next l T O (by omega) G E⟩,?_⟩
     . simp only;omega
     . by_cases w:x.i+1<y.2.length
       . have X:=(M.ok _ (Q5a w)).1;simp only[Qn w,Zl,Qe w];refine J3b.trans ?_ (J0Q (own:=X6L s lg ⟨y.2,x.i+1,J7A x.F p.1 p.2⟩) (ks:=X4F) rfl rfl rfl X rfl) (ksC rfl);refine J0d J4e ?_ ?_ rfl
         . repeat' (first|exact tI|(refine J0b.fn ?_)|(refine⟨⟨_,rfl,?_⟩,?_⟩)|exact J0b.kf rfl|exact J0b.loc rfl|exact J0b.q|apply And.intro)
         . repeat' (first|exact⟨rfl,rfl,tI,fun i c=>rfl,fun i j t c S f R=>vR_⟩|exact⟨rfl,rfl⟩|exact tI|exact J0b.map rfl|(refine⟨⟨_,rfl,?_⟩,?_⟩)|exact J0b.kf rfl|exact J0b.q|(refine⟨Qd _,rfl,fun i j c f=>?_⟩)|exact vR_|apply And.intro)
       . simp only[Qm w,Xf,Xy,Qb w];refine J0d (fun _ _=>[(0,some 0),(1,some 1),(2,some 2),(3,some 3),(4,some 4),(5,some 5),(6,some 6),(7,none)]) ?_ ?_ rfl
         . repeat' (first|exact tI|(refine J0b.fn ?_)|(refine⟨⟨_,rfl,?_⟩,?_⟩)|exact J0b.kf rfl|exact J0b.loc rfl|exact J0b.q|apply And.intro)
         . repeat' (first|exact⟨rfl,rfl,tI,fun i c=>rfl,fun i j t c S f R=>vR_⟩|exact⟨rfl,rfl⟩|exact tI|exact J0b.map rfl|(refine⟨⟨_,rfl,?_⟩,?_⟩)|exact J0b.kf rfl|exact J0b.q|(refine⟨Qd _,rfl,fun i j c f=>?_⟩)|exact vR_|(refine⟨⟨_,_,rfl⟩,?_⟩)|apply And.intro)
 . simp only[Qm l,X1m,Xf,Xy,Qb l];refine Vq ?_;refine⟨_,⟨x.F,W.fin (by omega) (fun k=>?_) (by omega),rfl⟩,?_⟩
   . have:=A.row k;rw[J7m] at this;omega
   . refine VLe.tup ⟨VLe.fz rfl (fun h=>h) (fun a b Q hb=>?_),vR_,tI⟩;exact vR_
abbrev Y1V (s:Tsy):Blk:=.cells [.fz s.n 1 false (vEn s),.fz s.n 1 false (X4c s)]
theorem X9I (a b:Nat) (x:Int) (c:x=(b:Int)):(if x > (a:Int) then x else (a:Int))=((max a b:Nat):Int):=by
 subst c;split<;>omega
def flg (b:Bool) (r:Nat):Nat:=if b then 1+r else r
structure RnZ (s:Tsy) (lg:Nat->Bool) (R:Nat×Nat->Nat) (p:Nat×Nat) (q m:Nat):Prop where
 one:1<=m
 sup:∀z,z<q->z<(s.ar p.1).length->lg (gA (s.ar p.1) z).2=false->flg (s.aft p.2 (gA (s.ar p.1) z)).2 (R ((gA (s.ar p.1) z).2,(s.aft p.2 (gA (s.ar p.1) z)).1))<=m
 att:m=1\/∃a∈s.ar p.1,lg a.2=false/\m=flg (s.aft p.2 a).2 (R (a.2,(s.aft p.2 a).1))
structure RnX (s:Tsy) (lg:Nat->Bool) (R:Nat×Nat->Nat) (p:Nat×Nat):Prop where
 one:1<=R p
 sup:∀a∈s.ar p.1,lg a.2=false->flg (s.aft p.2 a).2 (R (a.2,(s.aft p.2 a).1))<=R p
 att:R p=1\/∃a∈s.ar p.1,lg a.2=false/\R p=flg (s.aft p.2 a).2 (R (a.2,(s.aft p.2 a).1))
theorem RnZ.start (s:Tsy) (lg:Nat->Bool) (R:Nat×Nat->Nat) (p:Nat×Nat):RnZ s lg R p 0 1:=⟨Qd _,fun z hz=>by omega,.inl rfl⟩
theorem RnZ.skip {s:Tsy} {lg:Nat->Bool} {R:Nat×Nat->Nat} {p:Nat×Nat} {q m:Nat} (h:RnZ s lg R p q m) (c:lg (gA (s.ar p.1) q).2=true):RnZ s lg R p (q+1) m :=
 ⟨h.one,fun z hz b a=>by
   by_cases e:z=q
   . subst e;rw[c] at a;cases a
   . exact h.sup z (by omega) b a,h.att⟩
theorem RnZ.step {s:Tsy} {lg:Nat->Bool} {R:Nat×Nat->Nat} {p:Nat×Nat} {q m:Nat} (h:RnZ s lg R p q m) (d:q<(s.ar p.1).length) (f:lg (gA (s.ar p.1) q).2=false) {x:Nat} (c:x=flg (s.aft p.2 (gA (s.ar p.1) q)).2 (R ((gA (s.ar p.1) q).2,(s.aft p.2 (gA (s.ar p.1) q)).1))):RnZ s lg R p (q+1) (max m x):=by
 refine⟨by have:=h.one;omega,fun z hz a b=>?_,?_⟩
 . by_cases e:z=q
   . subst e;rw[<- c];omega
   . have:=h.sup z (by omega) a b;omega
 . by_cases e:x<=m
   . rw[Nat.max_eq_left e];exact h.att
   . rw[Nat.max_eq_right (by omega)];exact .inr ⟨_,J4D d,f,c⟩
def MR (a:List (KyT (.st KP)×V)) (R:Nat×Nat->Nat):Prop:=∀p,J00 a (kyP p)=some (.int .i64 (R p))\/(J00 a (kyP p)=none/\R p=0)
theorem MR.nil:MR [] (fun _=>0):=fun _=>.inr ⟨rfl,rfl⟩
theorem MR.mget {c:List (KyT (.st KP)×V)} {R:Nat×Nat->Nat} (h:MR c R) {p:Nat×Nat} {A:V->Prop} (b:A (.int .i64 (R p))):X37 (J00 c (kyP p)) A (A (.int .i64 0)):=by
 rcases h p with e | ⟨e,e2⟩
 . rw[e];exact⟨fun v a=>(by cases a;exact b),fun d=>(by cases d)⟩
 . rw[e];refine⟨fun v a=>(by cases a),fun _=>?_⟩;rw[e2] at b;exact b
def Q09 (R:Nat×Nat->Nat) (p:Nat×Nat) (v:Nat):Nat×Nat->Nat:=fun q=>if q=p then v else R q
theorem MR.put {a:List (KyT (.st KP)×V)} {R:Nat×Nat->Nat} (h:MR a R) (p:Nat×Nat) (v:Nat):MR (mput a (kyP p) (.int .i64 v)) (Q09 R p v):=fun q=>by
 rw[Q13,Q09];by_cases e:q=p
 . subst e;rw[Qe rfl,Qe rfl];exact .inl rfl
 . rw[Qb (fun e2=>e (Q3F e2).symm),Qb e];exact h q
structure MxI (s:Tsy) (lg:Nat->Bool) (F:Nat->List Nat) (L:List Nat) (i y B:Nat) (es:List (KyT (.st KP)×V)) (R:Nat×Nat->Nat):Prop where
 map:MR es R
 bnd:∀p,R p<=B
 done:∀j,j<i->j<L.length->∀pd∈F (gQ L j),RnX s lg R (gQ L j,pd)
 cur:∀z,z<y->z<(F (gQ L i)).length->RnX s lg R (gQ L i,gQ (F (gQ L i)) z)
theorem MxI.start (s:Tsy) (lg:Nat->Bool) (F:Nat->List Nat) (L:List Nat):MxI s lg F L 0 0 0 [] (fun _=>0):=⟨MR.nil,fun _=>Qd _,fun j h=>by omega,fun z h=>by omega⟩
theorem MxI.mono {s:Tsy} {lg:Nat->Bool} {F:Nat->List Nat} {L:List Nat} {i y B b:Nat} {a:List (KyT (.st KP)×V)} {R:Nat×Nat->Nat} (h:MxI s lg F L i y B a R) (c:B<=b):MxI s lg F L i y b a R:=⟨h.map,fun p=>Zw (h.bnd p) c,h.done,h.cur⟩
theorem Q9Q {L:List Nat} {a:Nat} (h:a∈L):∃j,j<L.length/\gQ L j=a:=by
 obtain⟨j,b,e⟩:=Xi.1 h;exact⟨j,b,by rw[<- e];simp[gQ,List.getD,b]⟩
theorem MxI.next {s:Tsy} {lg:Nat->Bool} {F:Nat->List Nat} {L:List Nat} {i y B:Nat} {c:List (KyT (.st KP)×V)} {R:Nat×Nat->Nat} (h:MxI s lg F L i y B c R) (f:(F (gQ L i)).length<=y):MxI s lg F L (i+1) 0 B c R :=
 ⟨h.map,h.bnd,fun j g b d a=>by
   by_cases e:j=i
   . subst e;obtain⟨z,hz,e2⟩:=Q9Q a;have:=h.cur z (by omega) hz
     rwa[e2] at this
   . exact h.done j (by omega) b d a,fun z h=>by omega⟩
theorem RnX.keep {s:Tsy} {lg:Nat->Bool} {R f:Nat×Nat->Nat} {p:Nat×Nat} (h:RnX s lg R p) (c:f p=R p) (g:∀a∈s.ar p.1,f (a.2,(s.aft p.2 a).1)=R (a.2,(s.aft p.2 a).1)):RnX s lg f p:=by
 refine⟨by rw[c];exact h.one,fun a b d=>by rw[c,g a b];exact h.sup a b d,?_⟩;rcases h.att with e | ⟨a,b,d,e⟩
 . exact .inl (by rw[c,e])
 . exact .inr ⟨a,b,d,by rw[c,g a b];exact e⟩
theorem MxI.put {s:Tsy} {lg:Nat->Bool} {F:Nat->List Nat} {L:List Nat} (w:An.Ord s.n s.to lg L) (hF:Y1M s lg F) {i y B:Nat} {C:List (KyT (.st KP)×V)} {R:Nat×Nat->Nat} (h:MxI s lg F L i y B C R) (o:i<L.length) (D:y<(F (gQ L i)).length) {m:Nat}
 (t:RnZ s lg R (gQ L i,gQ (F (gQ L i)) y) (s.ar (gQ L i)).length m) (E:m<=B+1):MxI s lg F L i (y+1) (B+1) (mput C (kyP (gQ L i,gQ (F (gQ L i)) y)) (.int .i64 m)) (Q09 R (gQ L i,gQ (F (gQ L i)) y) m):=by
 have f:lg (gQ L i)=false:=(hF.val _ _ (J6Y D)).2;have succ:∀j,j<=i->j<L.length->lg (gQ L j)=false->∀a∈s.ar (gQ L j),∀g,Q09 R (gQ L i,gQ (F (gQ L i)) y) m (a.2,g)=R (a.2,g):=fun j A c u a d g=>by
  obtain⟨q,G,e⟩:=Q0v w c u d;rw[Q09,Qb];intro e2;have x:a.2=gQ L i:=X6 Prod.fst e2;have:=J9I w.nodup (by omega) o (e.trans x);omega
 have l:RnX s lg (Q09 R (gQ L i,gQ (F (gQ L i)) y) m) (gQ L i,gQ (F (gQ L i)) y):=by
  have b:Q09 R (gQ L i,gQ (F (gQ L i)) y) m (gQ L i,gQ (F (gQ L i)) y)=m:=by rw[Q09,Qe rfl]
  refine⟨by rw[b];exact t.one,fun a d v=>?_,?_⟩
  . rw[b,succ i (Qd _) o f a d];obtain⟨z,hz,e⟩:=Xi.1 d;have e2:gA (s.ar (gQ L i)) z=a:=by rw[<- e];simp[gA,List.getD,hz]
    have:=t.sup z hz hz (by simp only;rw[e2];exact v);simp only[e2] at this;exact this
  . rw[b];rcases t.att with e | ⟨a,d,v,e⟩
    . exact .inl e
    . refine .inr ⟨a,d,v,?_⟩;rw[succ i (Qd _) o f a d];exact e
 refine⟨h.map.put _ m,fun p=>?_,fun j A c g k=>?_,fun z hz r=>?_⟩
 . rw[Q09];split
   . exact E
   . have:=h.bnd p;omega
 . refine(h.done j A c g k).keep ?_ (fun a d=>succ j (by omega) c (hF.val _ _ k).2 a d _);rw[Q09,Qb];intro e;have:=J9I w.nodup c o (X6 Prod.fst e);omega
 . by_cases e:gQ (F (gQ L i)) z=gQ (F (gQ L i)) y
   . rw[e];exact l
   . by_cases e2:z=y
     . subst e2;exact(e rfl).elim
     . refine(h.cur z (by omega) r).keep ?_ (fun a d=>succ i (Qd _) o f a d _);rw[Q09,Qb];intro x;exact e (X6 Prod.snd x)
structure Rnd (s:Tsy) (lg:Nat->Bool) (F:Nat->List Nat) (R:Nat×Nat->Nat) (r:Nat->Nat):Prop where
 rch:Y1M s lg F
 out:∀k,k<s.n->∀pd∈F k,RnX s lg R (k,pd)
 num:∀k,k<s.n->r k=if lg k=true then 0 else R (k,s.en k)
structure RdX (s:Tsy) (lg:Nat->Bool) (R:Nat×Nat->Nat) (i:Nat) (r:Nat->Nat):Prop where
 leg:∀k,k<s.n->lg k=true->r k=0
 out:∀k,k<i->lg k=false->r k=R (k,s.en k)
theorem RdX.start (s:Tsy) (lg:Nat->Bool) (R:Nat×Nat->Nat):RdX s lg R 0 (fun _=>0):=⟨fun _ _ _=>rfl,fun k h=>by omega⟩
theorem RdX.skip {s:Tsy} {lg:Nat->Bool} {R:Nat×Nat->Nat} {i:Nat} {r:Nat->Nat} (h:RdX s lg R i r) (b:lg i=true):RdX s lg R (i+1) r :=
 ⟨h.leg,fun k c a=>h.out k (by
   rcases Zs k i with q|q
   . exact q
   . have:k=i:=by omega
     subst this;rw[b] at a;cases a) a⟩
theorem RdX.put {s:Tsy} {lg:Nat->Bool} {R:Nat×Nat->Nat} {i:Nat} {r:Nat->Nat} (h:RdX s lg R i r) (b:lg i=false):RdX s lg R (i+1) (fun k=>if k=i then R (i,s.en i) else r k):=by
 refine⟨fun k hk a=>?_,fun k c a=>?_⟩
 . show(if k=i then _ else r k)=0;rw[Qb (fun e=>by rw[e,b] at a;cases a)];exact h.leg k hk a
 . show(if k=i then _ else r k)=_;by_cases e:k=i
   . subst e;rw[Qe rfl]
   . rw[Qb e];exact h.out k (by omega) a
theorem MxI.fin {s:Tsy} {lg:Nat->Bool} {F:Nat->List Nat} {L:List Nat} {i B:Nat} {l:List (KyT (.st KP)×V)} {R:Nat×Nat->Nat} (h:MxI s lg F L i 0 B l R) (hF:Y1M s lg F) (o:L.length<=i) (a:∀k,k<s.n->k∈L) {r:Nat->Nat} {n:Nat} (c:RdX s lg R n r) (m:s.n<=n):Rnd s lg F R r:=by
 refine⟨hF,fun k hk f b=>?_,fun k hk=>?_⟩
 . obtain⟨j,g,e⟩:=Q9Q (a k hk);have:=h.done j (by omega) g f (by rw[e];exact b)
   rwa[e] at this
 . cases d:lg k with
   | true=>rw[Qe rfl];exact c.leg k hk d
   | false=>rw[Qb (by simp)];exact c.out k (by omega) d
theorem Q6e (s:Tsy) (B:s.Ok) (lg:Nat->Bool) (D:∀L,An.Ord s.n s.to lg L->∀k,k<s.n->k∈L) (T:Nat) (a4:∀k,k<s.n->s.en k<T) (Y:s.n*T<=262144) :
 Q5N Tryz.prog 24 [s.v,blV s.n lg] fun v=>∃F R r,Rnd s lg F R r/\(∀k,k<s.n->r k<=1000000000001)/\v=.tup [inV s.n r,.int .i64 0]:=by
 have n1:=B.n1;have n2:=B.n2;have W:=Q1e s B lg D;have X:=Q8l s B lg T a4 Y;refine Q1M rfl ?_;refine fr fj24 ?_
 repeat' ((conv=>whnf);first|(refine Br.ff ?_)|(refine W.go ?_;rintro _ ⟨L,hL,ah,rfl⟩)|(refine X.go ?_;rintro _ ⟨F,hF,rfl⟩))
 all_goals conv=>whnf
 refine J1y J0c [1,2,8,9,42,43] [] J1k [1,0] (fun x:Nat×List (KyT (.st KP)×V)×(Nat×Nat->Nat)=>[(44,.int .i64 x.1)]) (fun x=>[(1,.map (.st KP) x.2.1),(0,Y1V s)]) (fun m x=>m=s.n-x.1/\x.1<=s.n/\MxI s lg F L x.1 0 (X3I x.1 0) x.2.1 x.2.2) s.n (0,[],fun _=>0) ⟨rfl,Qh _,(MxI.start _ _ _ _).mono (Qh _)⟩ rfl (fun _=>rfl) ?_ ?_
 . exact J0a J0r
 rintro m ⟨c,es,R⟩ ⟨hm,J,O⟩;simp only at hm J O;by_cases U:c<s.n
 . have K:gQ L c<s.n:=hL.lt _ (J6Y (by omega));have af:=hF.len (gQ L c);have a5:=hF.val (gQ L c);have a7:=B.row K
   repeat' ((conv=>whnf);first|(refine Ix.mk (gQ L c) (by rfl) K ?_)|(refine Br.dec ?_ ?_<;>intro _<;>try omega)|(refine Ix.q ?_))
   all_goals conv=>whnf
   refine J1y J0c [1,2,8,9,11,42,43,44,51,52] [] J1k [1,0] (fun y:Nat×List (KyT (.st KP)×V)×(Nat×Nat->Nat)=>[(53,.int .i64 y.1)]) (fun y=>[(1,.map (.st KP) y.2.1),(0,Y1V s)]) (fun m y=>m=(F (gQ L c)).length-y.1/\y.1<=(F (gQ L c)).length/\MxI s lg F L c y.1 (X3I c y.1) y.2.1 y.2.2) (F (gQ L c)).length (0,es,R) ⟨rfl,Qh _,O⟩ rfl (fun _=>rfl) ?_ ?_
   . exact J0a J0r
   rintro m2 ⟨l,t,Q⟩ ⟨M,hy,N⟩;simp only at M hy N;have ab:=Q5E (i:=c) (j:=l) (by omega) (by omega);by_cases o:l<(F (gQ L c)).length
   . obtain⟨ad,ae⟩:=a5 _ (J6Y o);have w:=N.map;have I:=N.bnd
     repeat' ((conv=>whnf);first|(refine Ix.mk (gQ L c) (by rfl) K ?_)|(refine Br.dec ?_ ?_<;>intro _<;>try omega)|(refine Ix.q ?_))
     all_goals conv=>whnf
     refine J1y J0c [1,2,8,9,11,14,42,43,44,51,52,53,64,65] [] J2z [2,1,0] (fun z:Nat×Nat=>[(15,.int .i64 z.2),(66,.int .i64 z.1)]) (fun z=>[(2,.cells [.int .i64 (gQ L c),.int .u32 (gQ (F (gQ L c)) l)]),(1,.map (.st KP) t),(0,Y1V s)]) (fun m z=>m=(s.ar (gQ L c)).length-z.1/\z.1<=(s.ar (gQ L c)).length/\RnZ s lg Q (gQ L c,gQ (F (gQ L c)) l) z.1 z.2/\z.2<=X3I c l+1) (s.ar (gQ L c)).length (0,1) ⟨rfl,Qh _,RnZ.start _ _ _ _,by omega⟩ rfl (fun _=>rfl) ?_ ?_
     . exact J0a J1g
     rintro m3 ⟨f,E⟩ ⟨a0,hz,S,G⟩;simp only at a0 hz S G;by_cases p:f<(s.ar (gQ L c)).length
     . obtain⟨a1,a2,a3⟩:=B.arc _ K _ (J4D p);have a9:=a2.le;have a8:=B.en _ K;have u:=Q1g s B (gQ L c) (gQ (F (gQ L c)) l) (by omega) (gA (s.ar (gQ L c)) f) (by omega) a3;have ac:=I (((gA (s.ar (gQ L c)) f)).2,(s.aft (gQ (F (gQ L c)) l) (gA (s.ar (gQ L c)) f)).1);have d:=fun x hl J=>S.step (x:=x) p hl J;simp only at d;cases g:lg ((gA (s.ar (gQ L c)) f)).2 with
       | true =>
         refine Vq ?_;refine⟨_,(f+1,E),?_,⟨rfl,p,S.skip g,G⟩,?_⟩
         . simp only;omega
         . exact J0a J1g
       | false =>
         have d:=fun x J=>d x g J;cases hb:(s.aft (gQ (F (gQ L c)) l) (gA (s.ar (gQ L c)) f)).2 with
         | true =>
           rw[hb] at u d;have d:=d _ rfl;generalize H:Q (((gA (s.ar (gQ L c)) f)).2,(s.aft (gQ (F (gQ L c)) l) (gA (s.ar (gQ L c)) f)).1)=r at *;have hg:∀(A:V->Prop),A (.int .i64 r)->X37 (J00 t (kyP (((gA (s.ar (gQ L c)) f)).2,(s.aft (gQ (F (gQ L c)) l) (gA (s.ar (gQ L c)) f)).1))) A (A (.int .i64 0)):=fun A P=>w.mget (by rw[H];exact P)
           repeat' ((conv=>whnf);first|(refine Br.mk (fun e=>Bool.noConfusion (e.symm.trans g)) (fun _=>?_))|(refine Br.tt ?_)|(refine Br.dec ?_ ?_<;>intro _<;>try omega)|(refine Ar.q ?_)|(refine Sv.mk _ rfl ?_)|(refine Ix.q ?_)|(refine u.go ?_)|(refine hg _ ?_))
           all_goals conv=>whnf
           have Z:=X9I E (1+r) (1+(r:Int)) (by omega);refine⟨_,(f+1,max E (1+r)),?_,⟨rfl,p,d,by simp only;omega⟩,?_⟩
           . simp only;omega
           . exact J0a J1g
         | false =>
           rw[hb] at u d;have d:=d _ rfl;generalize H:Q (((gA (s.ar (gQ L c)) f)).2,(s.aft (gQ (F (gQ L c)) l) (gA (s.ar (gQ L c)) f)).1)=r at *;have hg:∀(A:V->Prop),A (.int .i64 r)->X37 (J00 t (kyP (((gA (s.ar (gQ L c)) f)).2,(s.aft (gQ (F (gQ L c)) l) (gA (s.ar (gQ L c)) f)).1))) A (A (.int .i64 0)):=fun A P=>w.mget (by rw[H];exact P)
           repeat' ((conv=>whnf);first|(refine Br.mk (fun e=>Bool.noConfusion (e.symm.trans g)) (fun _=>?_))|(refine Br.ff ?_)|(refine Br.dec ?_ ?_<;>intro _<;>try omega)|(refine Ar.q ?_)|(refine Sv.mk _ rfl ?_)|(refine Ix.q ?_)|(refine u.go ?_)|(refine hg _ ?_))
           all_goals conv=>whnf
           have Z:=X9I E r (r:Int) rfl;refine⟨_,(f+1,max E r),?_,⟨rfl,p,d,by simp only;omega⟩,?_⟩
           . simp only;omega
           . exact J0a J1g
     . obtain rfl:f=(s.ar (gQ L c)).length:=by omega
       refine Vq ?_;refine⟨_,(l+1,mput t (kyP ((gQ L c),gQ (F (gQ L c)) l)) (.int .i64 E),Q09 Q (gQ L c,gQ (F (gQ L c)) l) E),?_,⟨rfl,o,?_⟩,?_⟩
       . simp only;omega
       . simp only;rw[X0K];exact N.put hL hF (by omega) o S G
       . exact J0a J0r
   . refine Vq ?_;refine⟨_,(c+1,t,Q),?_,⟨rfl,U,(N.next (by omega)).mono (by simp only;have:=X0L (i:=c) (j:=l) (by omega);exact this)⟩,?_⟩
     . simp only;omega
     . exact J0a J0r
 . have w:=O.map;have I:=O.bnd;have ag:=Q5E (i:=c) (j:=0) (by omega) (by omega);refine Vq ?_;refine J1y J0c [1,9,20,104,105] [] J2z [2,1,0] (fun y:Nat×(Nat->Nat)=>[(106,.int .i64 y.1)]) (fun y=>[(2,.vec s.n 1 (vEt y.2)),(1,.map (.st KP) es),(0,Y1V s)]) (fun m y=>m=s.n-y.1/\y.1<=s.n/\RdX s lg R y.1 y.2) s.n (0,fun _=>0) ⟨rfl,Qh _,RdX.start s lg R⟩ rfl (fun _=>rfl) ?_ ?_
   . refine J0F J1g ?_;intro i j hi hj;exact J97 _ _ hj
   rintro m2 y ⟨M,hy,hJ⟩;by_cases o:y.1<s.n
   . cases g:lg y.1 with
     | true =>
       refine Vq ?_;refine⟨_,(y.1+1,y.2),?_,⟨rfl,o,hJ.skip g⟩,?_⟩
       . simp only;omega
       . exact J0a J1g
     | false =>
       have hg:∀(A:V->Prop),A (.int .i64 (R (y.1,s.en y.1)))->X37 (J00 es (kyP (y.1,s.en y.1))) A (A (.int .i64 0)):=fun A P=>w.mget P
       repeat' ((conv=>whnf);first|(refine Br.mk (fun e=>Bool.noConfusion (e.symm.trans g)) (fun _=>?_))|(refine Br.dec ?_ ?_<;>intro _<;>try omega)|(refine Ar.q ?_)|(refine Ix.q ?_)|(refine Ltn.q ?_)|(refine hg _ ?_))
       all_goals conv=>whnf
       refine⟨_,(y.1+1,fun k=>if k=y.1 then R (y.1,s.en y.1) else y.2 k),?_,⟨rfl,o,hJ.put g⟩,?_⟩
       . simp only;omega
       . refine J0F J1g ?_;intro i j hi hj;exact Q7r _ _ y.1 _ _ (Qk _) (fun z=>by simp only;split<;>rfl) _ _ hj
   . have aa:y.1=s.n:=by omega
     have C:=O.fin hF (by omega) (D L hL) hJ (by omega);have a6:∀k,k<s.n->y.2 k<=1000000000001:=fun k hk=>by
      rw[C.num k hk];have:=I (k,s.en k);split<;>omega
     refine Vq ?_;exact⟨_,⟨F,R,y.2,C,a6,rfl⟩,VLe.tup ⟨VLe.fz rfl (fun h=>h) (fun a b ha hb=>vE_ (by rw[J0l,Qk];rfl)),vR_,tI⟩⟩
theorem Q55 {g:G} (hg:g.valid=true) {c:Nat} (i:c≠0) (f:c<4294967296) (h:c &&& (c-1)=0):ind g c=true:=by
 rw[Q9H];intro v u d a b;rw[J9j i f h] at a ⊢;have e:=J70 a;subst e;cases e2:(2 ^ ctz c:Nat).testBit u with
 | false=>rfl
 | true =>
   have j:=J70 e2;rw[<- j,X1a hg d] at b;cases b
end Go.Proofs.YtcbnimaicgegfaaGreatDoor
