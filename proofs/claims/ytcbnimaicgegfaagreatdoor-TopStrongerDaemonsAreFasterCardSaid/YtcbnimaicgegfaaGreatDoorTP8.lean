import Derived.Test.YtcbnimaicgegfaaGreatDoorTP1
set_option linter.all false
namespace Go.Proofs.YtcbnimaicgegfaaGreatDoor
open Go.Eng
set_option maxRecDepth 100000
def J84 (kinds:List Int) (a:Bool) (x:Int×Int):Int :=
 if a=false/\11<=x.1 then 0 else if x.1=2\/x.1=3\/x.1=10\/x.1=15 then 2 else if x.1=4\/x.1=11\/x.1=17 then 3 else if x.1=5\/x.1=12 then gI kinds x.2.toNat else 1
def Q3c (op a:Int):Int :=
 if op=19\/op=20\/op=21 then (if a=2 then 2 else 0) else if op=22 then (if a=2 then 1 else 0) else if op=23 then (if a=2 then 3 else 0) else if a=1 then 1 else 0
def Q3U (op a b:Int):Int :=
 if op=35\/op=36 then (if a=b/\a≠0 then 2 else 0) else if op=41\/op=42 then (if a=2/\b=2 then 2 else 0) else if a=1/\b=1 then (if 37<=op/\op<=40 then 2 else 1) else 0
def Q5Y (c a b:Int):Int:=if c=2/\a=b then a else 0
def Rt.kd (kinds:List Int):Bool->Rt->Int
 | d,.leaf x=>J84 kinds d x
 | d,.un x a=>Q3c x.1 (a.kd kinds (d || J23 x.1))
 | d,.bin x a b=>Q3U x.1 (a.kd kinds d) (b.kd kinds d)
 | d,.tri x c a b=>Q5Y (c.kd kinds d) (a.kd kinds d) (b.kd kinds d)
def Q00 (a:Int) (x:Int×Int):Bool:=if x.1=1 then decide (0<=x.2/\x.2<=1073741824) else if x.1=5\/x.1=12 then decide (0<=x.2/\x.2<a) else decide (x.2=0)
def Rt.tm:Rt->Tm
 | .leaf x=>.leaf x.1 x.2
 | .un x a=>if J23 x.1 then .agg x.1 a.tm else .un x.1 a.tm
 | .bin x a b=>.bin x.1 a.tm b.tm
 | .tri _ c a b=>.ite c.tm a.tm b.tm
theorem J3q {op:Int} {k:Int} (h:arI op=k):(k=0->1<=op/\op<=17)/\(k=1->18<=op/\op<=29)/\(k=2->30<=op/\op<=42)/\(k=3->op=43):=by
 unfold arI at h
 repeat' split at h
 all_goals omega
theorem X03 {a:Int} {x:Int×Int} (h:Q00 a x=true) (b:13<=x.1):x.2=0:=by
 rw[Q00,Qb (by omega),Qb (by omega),Qa] at h;exact h
theorem J7I {l:Int}:∀t:Rt,t.ok->t.enc.all (Q00 l)=true->t.tm.enc=t.enc
 | .leaf x,h,d=>rfl
 | .un x a,h,d=>by
   obtain⟨g,f⟩:=h;simp only[Rt.enc,X8,Qg] at d;have i:=X03 d.1 (by have:=(J3q g).2.1 rfl;omega);have k:=J7I a f d.2;have e:x=(x.1,0):=J0 rfl i;rw[Rt.tm];split
   . simp only[Tm.enc,Rt.enc,k];rw[<- e]
   . simp only[Tm.enc,Rt.enc,k];rw[<- e]
 | .bin x a b,h,d=>by
   obtain⟨g,f,j⟩:=h;simp only[Rt.enc,X8,Z2,Qg] at d;have i:=X03 d.1 (by have:=(J3q g).2.2.1 rfl;omega);have e:x=(x.1,0):=J0 rfl i;simp only[Rt.tm,Tm.enc,Rt.enc,J7I a f d.2.1,J7I b j d.2.2];rw[<- e]
 | .tri x c a b,h,d=>by
   obtain⟨g,f,j,m⟩:=h;simp only[Rt.enc,X8,Z2,Qg] at d;have n:=(J3q g).2.2.2 rfl;have i:=X03 d.1 (by omega);have e:x=(43,0):=J0 n i;simp only[Rt.tm,Tm.enc,Rt.enc,J7I c f d.2.1,J7I a j d.2.2.1,J7I b m d.2.2.2];rw[<- e]
theorem X5B {op a:Int} (h:Q3c op a≠0):a≠0:=by
 intro e;subst e;revert h;unfold Q3c;repeat' split
 all_goals omega
theorem X7E {op a b:Int} (h:Q3U op a b≠0):a≠0/\b≠0:=by
 revert h;unfold Q3U;repeat' split
 all_goals omega
theorem X5o {c a b:Int} (h:Q5Y c a b≠0):c≠0/\a≠0/\b≠0:=by
 revert h;unfold Q5Y;split
 all_goals omega
theorem Q28 {n:Nat} {kinds:List Int}:∀(t:Rt) (f:Bool),t.ok->t.enc.all (Q00 n)=true->t.kd kinds f≠0->t.tm.wf n f=true
 | .leaf x,f,h,d,hk=>by
   have h:arI x.1=0:=h;have j:=(J3q h).1 rfl;simp only[Rt.enc,X8,Vj,Z6] at d;simp only[Rt.tm,Tm.wf,Qg,Qa,Xv];refine⟨⟨⟨j,fun e=>?_⟩,fun e=>?_⟩,?_⟩
   . rw[Q00,Qe e,Qa] at d;exact d
   . rw[Q00,Qb (by omega),Qe e,Qa] at d;exact d
   . simp only[Rt.kd,J84] at hk;cases f with
     | true=>exact .inl rfl
     | false =>
       refine .inr ?_;by_cases q:11<=x.1
       . rw[Qe ⟨rfl,q⟩] at hk;exact(hk rfl).elim
       . omega
 | .un x a,f,h,d,hk=>by
   obtain⟨k,i⟩:=h;have j:=(J3q k).2.1 rfl;simp only[Rt.enc,X8,Qg] at d;simp only[Rt.kd] at hk;have l:=Q28 a _ i d.2 (X5B hk);rw[Rt.tm];cases e:J23 x.1 with
   | true =>
     rw[e,Jx] at l;rw[J23,Qa] at e;simp only[Zl,Tm.wf,l,Z6,Qa];exact e
   | false =>
     rw[e,Jc] at l;rw[J23,Qo] at e;simp only[Xf,Xy,Tm.wf,l,Z6,Qa];omega
 | .bin x a b,f,h,d,hk=>by
   obtain⟨k,i,m⟩:=h;have j:=(J3q k).2.2.1 rfl;simp only[Rt.enc,X8,Z2,Qg] at d;simp only[Rt.kd] at hk;have g:=X7E hk;simp only[Rt.tm,Tm.wf,Q28 a f i d.2.1 g.1,Q28 b f m d.2.2 g.2,Z6,Qa];exact j
 | .tri x c a b,f,h,d,hk=>by
   obtain⟨k,i,m,o⟩:=h;simp only[Rt.enc,X8,Z2,Qg] at d;simp only[Rt.kd] at hk;have g:=X5o hk;simp only[Rt.tm,Tm.wf,Q28 c f i d.2.1 g.1,Q28 a f m d.2.2.1 g.2.1,Q28 b f o d.2.2.2 g.2.2,Z6]
theorem J5k:∀(t f:Rt) (r i:Lt2),t.ok->f.ok->t.enc++r=f.enc++i->t=f/\r=i
 | .leaf x,f,r,i,h,d,e=>by
   have h:arI x.1=0:=h;cases f with
   | leaf y=>simp only[Rt.enc,Q1,Zb,Xr] at e;exact⟨by rw[e.1],e.2⟩
   | un y a=>simp only[Rt.enc,Q1,Zb,Xr] at e;have:=d.1;rw[<- e.1] at this;omega
   | bin y a b=>simp only[Rt.enc,Q1,Zb,Xr] at e;have:=d.1;rw[<- e.1] at this;omega
   | tri y a b c=>simp only[Rt.enc,Q1,Zb,Xr] at e;have:=d.1;rw[<- e.1] at this;omega
 | .un x a,f,r,i,h,d,e=>by
   obtain⟨q,k⟩:=h;cases f with
   | leaf y=>simp only[Rt.enc,Q1,Zb,Xr] at e;have d:arI y.1=0:=d;rw[<- e.1] at d;omega
   | un y g =>
     simp only[Rt.enc,Q1,Xr] at e;obtain⟨l,e2⟩:=J5k a g r i k d.2 e.2;exact⟨by rw[e.1,l],e2⟩
   | bin y g j=>simp only[Rt.enc,Q1,Xr] at e;have:=d.1;rw[<- e.1] at this;omega
   | tri y g j p=>simp only[Rt.enc,Q1,Xr] at e;have:=d.1;rw[<- e.1] at this;omega
 | .bin x a b,f,r,i,h,d,e=>by
   obtain⟨q,k,m⟩:=h;cases f with
   | leaf y=>simp only[Rt.enc,Q1,Zb,Xr] at e;have d:arI y.1=0:=d;rw[<- e.1] at d;omega
   | un y g=>simp only[Rt.enc,Q1,Xr] at e;have:=d.1;rw[<- e.1] at this;omega
   | bin y g j =>
     simp only[Rt.enc,Q1,Q9,Xr] at e;obtain⟨l,e2⟩:=J5k a g _ _ k d.2.1 e.2;obtain⟨o,n⟩:=J5k b j _ _ m d.2.2 e2;exact⟨by rw[e.1,l,o],n⟩
   | tri y g j p=>simp only[Rt.enc,Q1,Xr] at e;have:=d.1;rw[<- e.1] at this;omega
 | .tri x a b c,f,r,i,h,d,e=>by
   obtain⟨q,k,m,s⟩:=h;cases f with
   | leaf y=>simp only[Rt.enc,Q1,Zb,Xr] at e;have d:arI y.1=0:=d;rw[<- e.1] at d;omega
   | un y g=>simp only[Rt.enc,Q1,Xr] at e;have:=d.1;rw[<- e.1] at this;omega
   | bin y g j=>simp only[Rt.enc,Q1,Xr] at e;have:=d.1;rw[<- e.1] at this;omega
   | tri y g j p =>
     simp only[Rt.enc,Q1,Q9,Xr] at e;obtain⟨l,e2⟩:=J5k a g _ _ k d.2.1 e.2;obtain⟨o,n⟩:=J5k b j _ _ m d.2.2.1 e2;obtain⟨v,u⟩:=J5k c p _ _ s d.2.2.2 n;exact⟨by rw[e.1,l,o,v],u⟩
instance:Inhabited Rt:=⟨.leaf (2,0)⟩
open Classical in
noncomputable def X1G (e:Lt2):Rt:=if h:∃t:Rt,t.ok/\t.enc=e then Classical.choose h else default
theorem J7b {t:Rt} (h:t.ok):X1G t.enc=t:=by
 have b:∃a:Rt,a.ok/\a.enc=t.enc:=⟨t,h,rfl⟩;rw[X1G,dif_pos b];obtain⟨d,c⟩:=Xj b;exact(J5k _ _ [] [] d h (by rw[c])).1
structure RR where
 nm:ByteArray
 gd:Lt2
 sets:List (Int×Lt2)
instance:Inhabited RR:=⟨⟨ByteArray.mk #[],[],[]⟩⟩
structure RP where
 nm:ByteArray
 vars:List Vr
 rules:List RR
def vTr (e:Lt2):V:=.fz e.length 2 false (vF e)
def gSr (l:List (Int×Lt2)) (i:Nat):Int×Lt2:=l.getD i (0,[])
def vSr (l:List (Int×Lt2)):Nat->Nat->V:=fun i j=>match j with
 | 0=>.int .i64 (gSr l i).1
 | _=>vTr (gSr l i).2
def gRr (l:List RR) (i:Nat):RR:=l.getD i default
def vRr (l:List RR):Nat->Nat->V:=fun i j=>match j with
 | 0=>.str (gRr l i).nm
 | 1=>vTr (gRr l i).gd
 | _=>.fz (gRr l i).sets.length 2 false (vSr (gRr l i).sets)
def RP.vs (p:RP):V:=.fz p.vars.length 6 false (vV p.vars)
def RP.rs (p:RP):V:=.fz p.rules.length 3 false (vRr p.rules)
def RP.v (p:RP):V:=.agg [.str p.nm,p.vs,p.rs]
def exB (a:Int) (e:Lt2):Bool:=decide (e.length<=200)&&Q6x e&&decide ((J2G ⟨[],0,0⟩ e).d<=24)&&decide ((J2G ⟨[],0,0⟩ e).w<=2)&&e.all (Q00 a)
def Q9t (b:Nat):Bool:=decide (97<=b/\b<=122) || decide (65<=b/\b<=90)
def Q6G (b:Nat):Bool:=Q9t b || decide (48<=b/\b<=57) || decide (b=95)
def byB (s:ByteArray) (i:Nat):Nat:=(s.get! i).toNat
def Q4L (x:Vr):Bool :=
 if x.kind=1 then decide (0<=x.lo/\x.lo<=4096/\0<=x.pn/\x.pn<=255/\0<=x.pid/\x.pid<=255/\(x.pn=0\/x.pid=0)/\(x.pn=0->x.pid=0->0<=x.hi)/\-4096<=x.hi/\x.hi<=4096)
 else decide ((x.kind=2\/x.kind=3)/\x.lo=0/\x.hi=0/\x.pn=0/\x.pid=0)
def X1T (a:Nat) (l:List (Int×Lt2)) (i:Nat):Bool:=decide (0<=(gSr l i).1/\(gSr l i).1<a)&&exB a (gSr l i).2&&(List.range i).all fun k=>!decide ((gSr l k).1=(gSr l i).1)
def J3P (a:Nat) (r:RR):Bool:=decide (1<=r.sets.length/\r.sets.length<=6)&&exB a r.gd&&(List.range r.sets.length).all (X1T a r.sets)
noncomputable def kdE (kinds:List Int) (e:Lt2):Int:=(X1G e).kd kinds false
noncomputable def Q2T (kinds:List Int) (r:RR):Bool:=decide (kdE kinds r.gd=2)&&(List.range r.sets.length).all fun i=>decide (kdE kinds (gSr r.sets i).2=gI kinds (gSr r.sets i).1.toNat)
def J06 (p:RP):List Int:=p.vars.map (·.kind)
theorem Q17 (p:RP) {i:Nat} (h:i<p.vars.length):gI (J06 p) i=(gV p.vars i).kind:=by simp[J06,gI,gV,List.getD,h]
theorem J6y {b:Int} {e:Lt2} (h:exB b e=true):∃t:Rt,t.ok/\t.enc=e/\e.length<=200/\t.dep<=24/\t.nst<=2/\e.all (Q00 b)=true:=by
 simp only[exB,Qg,Qa] at h;obtain⟨⟨⟨⟨j,i⟩,f⟩,d⟩,g⟩:=h;obtain⟨t,c,rfl⟩:=X2k i;rw[X9M c] at f d;exact⟨t,c,rfl,j,f,d,g⟩
noncomputable def tmE (e:Lt2):Tm:=(X1G e).tm
noncomputable def X4l (r:RR):Rl:=⟨r.nm,tmE r.gd,r.sets.map fun s=>(s.1,tmE s.2)⟩
noncomputable def J2L (p:RP):Pr:=⟨p.nm,p.vars,p.rules.map X4l⟩
theorem X4d {b:Nat} {kinds:List Int} {e:Lt2} (h:exB b e=true) (hk:kdE kinds e≠0):(tmE e).enc=e/\(tmE e).wf b false=true:=by
 obtain⟨t,a,rfl,_,_,_,c⟩:=J6y h;rw[kdE,J7b a] at hk;rw[tmE,J7b a];exact⟨J7I t a c,Q28 t false a c hk⟩
abbrev x0 (c:Cf) (v:Nat):Int:=gI (gC c v) 0
def chg (c:Cf):Nat->Nat
 | 0=>0
 | k+1=>if x0 c k=x0 c (k+1) then chg c k else chg c k+1
def g3:G:=⟨[0,1,2],[[(2,1),(1,1)],[(0,1),(2,1)],[(1,1),(0,1)]]⟩
set_option maxHeartbeats 16000000
def X1p (s:Nat) (v:Int):Bool:=decide (0<=v/\v<32)&&s.testBit v.toNat
theorem Q2k (s:Nat) (c:s<4294967296) (v:Int):Ret Tryz.prog 68 [.int .u32 s,.int .i64 v] (.bool (X1p s v)):=by
 refine rf fj68 ?_;rw[X1p];by_cases h:0<=v/\v<32
 . rw[Qn h,Zm];obtain⟨k,rfl⟩:∃k:Nat,v=k:=⟨v.toNat,by omega⟩;have b:=Q7U (s:=s) (k:=k) c (by omega)
   repeat' ((conv=>whnf);first|(refine Br.tt ?_)|(refine Br.dec ?_ ?_<;>intro _<;>try omega)|(refine Ar.u64 (by omega) (by omega) ?_)|(refine Sv.mk _ rfl ?_)|(refine Nn.mk (by omega) ?_))
   all_goals conv=>whnf
   . rename_i a;exact VLe.bool ((b.1 a).symm)
   . rename_i a;exact VLe.bool (by rw[Yr];cases e:s.testBit k with|false=>rfl|true=>exact(a (b.2 e)).elim)
 . rw[Qm h,Zk];exact Wq
def X2r (s:Nat) (r:List (Int×Int)):Bool:=r.any fun l=>s.testBit l.1.toNat
def nbr (g:G) (s:Nat) (v:Nat):Bool:=X2r s (gR g.ports v)
theorem Q88 (s:Nat) (r:List (Int×Int)) (l:Int×Int):X2r s (r++[l])=(X2r s r || s.testBit l.1.toNat):=by
 simp[X2r,List.any_append]
def X8v (a:Nat) (b:Bool) (v:Nat):Nat:=if b then a ||| 2 ^ v else a
theorem X8u {a v:Nat} {b:Bool} (c:a<4294967296) (d:v<32):X8v a b v<4294967296:=by
 rw[X8v];split
 . exact Y2 (n:=32) c (J2v d)
 . exact c
theorem X8t {a v:Nat} {b:Bool} (d:a<4294967296) (c:v<32):J3C .or .u32 (X8v a b v:Nat) ((2 ^ v:Nat):Int)=(X8v a true v:Nat):=by
 rw[Q2K (X8u d c) (J2v c)];rw[X8v,X8v,Qe rfl];split
 . rw[Nat.or_assoc,Nat.or_self]
 . rfl
theorem Q8R {n v:Nat} {r:List (Int×Int)} (h:okR n v r=true) {i:Nat} (a:i<r.length):0<=(gF r i).1/\(gF r i).1<n:=by
 rw[okR,Qg,Qy] at h;have:=h.1 _ (J4C a);rw[okL,Qa] at this;exact⟨this.1,this.2.1⟩
def G.nbrs (g:G) (s:Nat):Nat:=if g.valid then nb (nbr g s) g.ports.length else 0
theorem J80 (g:G) (j:g.Small) (s:Nat) (d:s<4294967296):Ret Tryz.prog 71 [g.v,.int .u32 s] (.int .u32 (g.nbrs s)):=by
 have a:=J7N g j;refine rf fj71 ?_;rw[G.nbrs];by_cases hg:g.valid=true
 . rw[hg] at a ⊢;rw[Qe rfl];obtain⟨f1,f2,f3,f4,f5,f6,f7⟩:=J0e hg
   repeat' ((conv=>whnf);first|(refine Br.tt ?_)|(refine(a _ _).mono ?_;rintro _ _ _ ⟨rfl,rfl,rfl⟩))
   all_goals conv=>whnf
   refine J0h J0c [1,2] (fun i:Nat=>[(5,.int .u32 (nb (nbr g s) i)),(6,.int .i64 i)]) (fun m v=>m=g.ports.length-v/\v<=g.ports.length) g.ports.length 0 ⟨rfl,Qh _⟩ ?_ ?_
   . exact J0a J1v
   rintro m v ⟨o,r⟩;have n:=J8p j.rows v;have p:=Q1Y (nbr g s) (k:=v) (by omega)
   repeat' ((conv=>whnf);refine Br.dec ?_ ?_<;>intro _<;>try omega)
   all_goals conv=>whnf
   . refine J0h J0c [1,2,6] (fun i:Nat=>[(5,.int .u32 (X8v (nb (nbr g s) v) (X2r s ((gR g.ports v).take i)) v)),(7,.int .i64 i)]) (fun m i=>m=(gR g.ports v).length-i/\i<=(gR g.ports v).length) (gR g.ports v).length 0 ⟨rfl,Qh _⟩ ?_ ?_
     . exact J0a J1v
     rintro m i ⟨o,t⟩;have c:=fun h=>Q8R (f6 v (by omega)) (i:=i) h;have l:i<(gR g.ports v).length->X1p s (gF (gR g.ports v) i).1=s.testBit (gF (gR g.ports v) i).1.toNat:=fun h=>by
      rw[X1p,Qn (show 0<=(gF (gR g.ports v) i).1/\(gF (gR g.ports v) i).1<32 by have:=c h;omega),Zm]
     have b:=Q88 s ((gR g.ports v).take i) (gF (gR g.ports v) i)
     repeat' ((conv=>whnf);first|(refine Br.dec ?_ ?_<;>intro _<;>try omega)|(refine Ar.q ?_)|(refine Ar.sh1 (by omega) ?_)|(refine Ar.u64 (by omega) (by omega) ?_)|(refine Sv.mk _ rfl ?_)|(refine Nn.mk (by omega) ?_)|(refine Ix.q ?_)|(refine(Q2k s d _ _ _).mono ?_;rintro _ _ _ ⟨rfl,rfl,rfl⟩)|(refine Br.any (fun _=>?_) (fun _=>?_)))
     all_goals conv=>whnf
     all_goals first
      | (have f:=(l (by omega)).symm.trans (show X1p s (gF (gR g.ports v) i).1=true by assumption)
         have e:X2r s ((gR g.ports v).take (i+1))=true:=by rw[J18 _ _ (by omega),b,f,Jx]
         refine⟨(gR g.ports v).length-(i+1),i+1,by omega,⟨rfl,by omega⟩,?_⟩;refine J0d J1v ?_ ?_ rfl
         . repeat' (first|exact J0b.int (by rw[e];exact X8t p (by omega))|exact tI|(refine⟨⟨_,rfl,?_⟩,?_⟩)|exact J0b.kf rfl|exact J0b.loc rfl)
         . repeat' (first|exact tI|(refine⟨⟨_,rfl,?_⟩,?_⟩)|exact J0b.kf rfl|apply And.intro))
      | (have f:=(l (by omega)).symm.trans (show X1p s (gF (gR g.ports v) i).1=false by assumption)
         have e:X2r s ((gR g.ports v).take (i+1))=X2r s ((gR g.ports v).take i):=by rw[J18 _ _ (by omega),b,f,Jc]
         refine⟨(gR g.ports v).length-(i+1),i+1,by omega,⟨rfl,by omega⟩,?_⟩;refine J0d J1v ?_ ?_ rfl
         . repeat' (first|exact J0b.int (by rw[e])|exact tI|(refine⟨⟨_,rfl,?_⟩,?_⟩)|exact J0b.kf rfl|exact J0b.loc rfl)
         . repeat' (first|exact tI|(refine⟨⟨_,rfl,?_⟩,?_⟩)|exact J0b.kf rfl|apply And.intro))
      | (have e:(gR g.ports v).take i=gR g.ports v:=Qz (by omega)
         refine⟨g.ports.length-(v+1),v+1,by omega,⟨rfl,by omega⟩,?_⟩;refine J0F J1v ?_
         first|exact J0b.int (by rw[e];rfl)|apply And.intro)
   . have e:v=g.ports.length:=by omega
     rw[<- e];exact vR_
 . simp only[Xb] at hg;rw[hg] at a ⊢;rw[Qb (by simp)]
   repeat' ((conv=>whnf);first|(refine Br.ff ?_)|(refine(a _ _).mono ?_;rintro _ _ _ ⟨rfl,rfl,rfl⟩))
   all_goals conv=>whnf
   all_goals exact vR_
abbrev J1J (n:Nat):Nat:=nb (fun _=>true) n
theorem X6H (n:Nat) (c:n<=32):Ret Tryz.prog 67 [.int .i64 n] (.int .u32 (J1J n)):=by
 refine rf fj67 ?_
 all_goals conv=>whnf
 refine J0h J0c [0] (fun i:Nat=>[(3,.int .u32 (J1J i)),(4,.int .i64 i)]) (fun m v=>m=n-v/\v<=n) n 0 ⟨rfl,Qh _⟩ ?_ ?_
 . exact J0a J1A
 rintro m v ⟨d,b⟩
 repeat' ((conv=>whnf);first|(refine Br.dec ?_ ?_<;>intro _<;>try omega)|(refine Ar.q ?_)|(refine Ar.sh1 (by omega) ?_)|(refine Ar.u64 (by omega) (by omega) ?_)|(refine Sv.mk _ rfl ?_)|(refine Nn.mk (by omega) ?_))
 all_goals conv=>whnf
 . have a:=X2s (p:=fun _=>true) (k:=v) (by omega) rfl;refine⟨n-(v+1),v+1,by omega,⟨rfl,by omega⟩,?_⟩;exact J0a J1A
 . have e:v=n:=by omega
   rw[<- e];exact vR_
theorem Ar.sh1s {k:Nat} {K:Int->Prop} (h:k<32) (a:K ((J1J k:Int)+1)):Ar .u32 (1*2 ^ (min (k:Int).toNat 32)) K :=
 Ar.sh1 h (by
  have:(J1J k:Int)+1=((2 ^ k:Nat):Int):=by rw[<- X9G];rfl
  rw[<- this];exact a)
theorem Y1H (g:G) (hg:g.valid=true):Ret Tryz.prog 106 [g.v] (.int .u32 (J1J g.ids.length)):=by
 obtain⟨f1,f2,f3,f4,f5,f6,f7⟩:=J0e hg;have a:J1J g.ids.length<4294967296:=Q1Y (fun _=>true) (k:=g.ids.length) (by omega);refine rf Y6m ?_
 repeat' ((conv=>whnf);first|(refine Ar.sh1s (by omega) ?_)|(refine Ar.u32 (by omega) (by omega) ?_)|(refine Nn.mk (by omega) ?_))
 all_goals conv=>whnf
 refine VLe.int ?_;omega
theorem J3K (op:Int):Ret Tryz.prog 165 [.int .i64 op] (.int .i64 (arI op)):=by
 refine rf Y5E ?_
 repeat' ((conv=>whnf);refine Br.dec ?_ ?_<;>intro _<;>try omega)
 all_goals conv=>whnf
 all_goals refine VLe.int ?_
 all_goals unfold arI
 all_goals repeat' split
 all_goals omega
theorem Q0p (op:Int):Ret Tryz.prog 167 [.int .i64 op] (.bool (J23 op)):=by
 refine rf Y5C ?_
 repeat' ((conv=>whnf);refine Br.dec ?_ ?_<;>intro _<;>try omega)
 all_goals conv=>whnf
 all_goals exact VLe.bool (by symm;rw[J23];first|(rw[Qa];omega)|(rw[Qo];omega))
def X0c (e:Lt2) (k:Int):Int:=if 0<=k/\k<e.length then Q2W e k.toNat else -1
theorem J8y {e:Lt2} {k:Nat} (h:k<e.length):X0c e (k:Int)=Q2W e k:=by rw[X0c,Qe (by omega)];rfl
theorem J6g (e:Lt2) (k:Int) (he:e.length<=100000):Ret Tryz.prog 210 [vTr e,.int .i64 k] (.int .i64 (X0c e k)):=by
 refine rf Y44 ?_;by_cases hk:0<=k/\k<e.length
 . obtain⟨q,rfl⟩:∃q:Nat,k=(q:Int):=⟨k.toNat,by omega⟩;rw[J8y (by omega)];refine Vq ?_;refine J0h J0c [0] (fun x:Nat×Int=>[(6,.int .i64 x.1),(5,.int .i64 x.2)]) (fun n x=>n=e.length-x.1/\x.1<=e.length/\-1000000-x.1<=x.2/\x.2<=1000000+3*x.1/\Q2W e q=J7t x.2 x.1 (e.drop x.1)) (e.length-q) (q,1) ⟨rfl,by omega,by omega,by omega,rfl⟩ ?_ ?_
   . exact J0a J1A
   rintro n ⟨i,m⟩ ⟨f,g,c,b,a⟩;simp only at f g c b a;have j:=J3K (gF e i).1;have h:=Q2O (gF e i).1;by_cases d:i<e.length
   . rw[J6u e i d,J7t] at a
     repeat' ((conv=>whnf);first|(refine Br.dec ?_ ?_<;>intro _<;>try omega)|(refine Ar.q ?_)|(refine Ix.q ?_)|(refine j.go ?_))
     all_goals conv=>whnf
     . rw[a,Qe (by assumption)];exact vR_
     . rw[a,Qb (by assumption),Qe (by omega)];exact VLe.int (by omega)
     . rw[Qb (by assumption),Qb (by omega)] at a;refine⟨e.length-(i+1),(i+1,m+(arI (gF e i).1-1)),by omega,⟨rfl,by simp only;omega,by simp only;omega,by simp only;omega,a⟩,?_⟩;exact J0a J1A
   . have:i=e.length:=by omega
     subst this;rw[Zh (Qd _)] at a;refine Vq ?_;rw[a];exact vR_
 . have:X0c e k=-1:=Qb hk;rw[this];by_cases l:k<0
   . exact Wq
   . exact Wq
theorem Q3i (e:Lt2) (he:e.length<=100000):Ret Tryz.prog 249 [vTr e] (.bool (Q6x e)):=by
 have b:=J6g e 0 he;refine rf Y4F ?_;by_cases a:0<e.length
 . have hz:X0c e 0=Q2W e 0:=Qe ⟨Y1 0,by omega⟩;rw[hz] at b;by_cases q:Q2W e 0=(e.length:Int)
   . have:Q6x e=true:=Qn ⟨a,q⟩;rw[this];exact Wq
   . have:Q6x e=false:=Qm (fun z=>q z.2);rw[this];exact Wq
 . have:Q6x e=false:=Qm (fun z=>a z.1);rw[this];exact Wq
theorem Q1R (x:Int×Int) (a:Int):Ret Tryz.prog 252 [.agg [.int .i64 x.1,.int .i64 x.2],.int .i64 a] (.bool (Q00 a x)):=by
 refine rf Y4C ?_
 repeat' ((conv=>whnf);refine Br.dec ?_ ?_<;>intro _<;>try omega)
 all_goals conv=>whnf
 all_goals refine VLe.bool ?_
 all_goals (symm;unfold Q00)
 all_goals repeat' split
 all_goals first|(rw[Qa];omega)|(rw[Qo];omega)|(exfalso;omega)
theorem Q1U (x:Int×Int) (a:Int):Ret Tryz.prog 189 [.agg [.int .i64 x.1,.int .i64 x.2],.int .i64 a] (.bool (Q00 a x)):=by
 refine rf Y5o ?_
 repeat' ((conv=>whnf);refine Br.dec ?_ ?_<;>intro _<;>try omega)
 all_goals conv=>whnf
 all_goals refine VLe.bool ?_
 all_goals (symm;unfold Q00)
 all_goals repeat' split
 all_goals first|(rw[Qa];omega)|(rw[Qo];omega)|(exfalso;omega)
theorem J5B (e:Lt2) (k:Nat) (he:e.length<=100000) (hk:k<e.length) (f:0<=Q2W e k) (b:2<=arI (gF e k).1):Ret Tryz.prog 171 [vTr e,.int .i64 k,.int .i64 1] (.int .i64 (X0c e ((k:Int)+1))):=by
 have a:=J6g e (k:Int) he;rw[J8y hk] at a;have c:=J3K (gF e k).1;have d:=J6g e ((k:Int)+1) he;refine rf Y08 ?_;refine Vq ?_;refine J1C J0c 3 ?_;exact Wq
theorem Q1H (e:Lt2) (k:Nat) (he:e.length<=100000) (hk:k<e.length) (g:0<=Q2W e k) (b:3<=arI (gF e k).1):Ret Tryz.prog 171 [vTr e,.int .i64 k,.int .i64 2] (.int .i64 (X0c e (X0c e ((k:Int)+1)))):=by
 have a:=J6g e (k:Int) he;rw[J8y hk] at a;have c:=J3K (gF e k).1;have f:=J6g e ((k:Int)+1) he;have d:=J6g e (X0c e ((k:Int)+1)) he;refine rf Y08 ?_;refine Vq ?_;refine J1C J0c 3 ?_;exact Wq
theorem J4t {e post:Lt2} {k:Nat} {x:Int×Int} {r:Lt2} (hd:e.drop k=x::(r++post)):k<e.length/\gF e k=x/\e.drop (k+1)=r++post:=by
 have a:k<e.length:=by
  have:=X6 List.length hd;simp only[Yj,List.length_cons] at this;omega
 have:=J6u e k a;rw[hd] at this;simp only[Xr] at this;exact⟨a,this.1.symm,this.2.symm⟩
theorem J6M {e post:Lt2} {k:Nat} {t:Rt} (b:t.ok) (hd:e.drop k=t.enc++post):X0c e (k:Int)=((k+t.enc.length:Nat):Int)/\e.drop (k+t.enc.length)=post/\0<=Q2W e k:=by
 have a:k<e.length:=by
  have:=X6 List.length hd;simp only[Yj,Ql] at this;have:=t.enc_pos;omega
 rw[J8y a,X7A b hd];refine⟨rfl,?_,by omega⟩;rw[<- K4,hd,List.drop_left]
theorem tbT {b:Bool} {A B:Prop} (e:b=true) (h:A):Br b A B:=⟨fun _=>h,fun a=>by rw[e] at a;cases a⟩
theorem tbF {b:Bool} {A B:Prop} (e:b=false) (h:B):Br b A B:=⟨fun a=>(by rw[e] at a;cases a),fun _=>h⟩
abbrev Stk:=List (Int×Bool)
def stA (S:Stk) (i:Nat):Int×Bool:=S.reverse.getD i (0,false)
def vSI (S:Stk):Nat->Nat->V:=fun i _=>.int .i64 (stA S i).1
def vSB (S:Stk):Nat->Nat->V:=fun i _=>.bool (stA S i).2
theorem J4q (x:Int×Bool) (S:Stk) {i:Nat} (h:i<S.length):stA (x::S) i=stA S i:=by
 simp only[stA,List.reverse_cons,List.getD,Q3 (show i<S.reverse.length by simpa using h)]
theorem J3Y (x:Int×Bool) (S:Stk):stA (x::S) S.length=x:=by
 simp[stA,List.reverse_cons,List.getD,Xt]
theorem Q4h (S:Stk) (a:Int) (b:Bool) (i j:Nat) (d:i<S.length+1) (c:j<1):VLe (J56 (J0m 0 (vSI S)) S.length (J0m 0 (tab [[.int .i64 a]])) i j) (vSI ((a,b)::S) i j):=by
 obtain rfl:j=0:=by omega
 apply vE_;by_cases h:i<S.length
 . rw[J19 h,J0l,Qk,vSI,vSI,J4q _ _ h]
 . obtain rfl:i=S.length:=by omega
   rw[J2a h,vSI,J3Y];simp[J0m,tab]
theorem Q4i (S:Stk) (a:Int) (b:Bool) (i j:Nat) (d:i<S.length+1) (c:j<1):VLe (J56 (J0m 0 (vSB S)) S.length (J0m 0 (tab [[.bool b]])) i j) (vSB ((a,b)::S) i j):=by
 obtain rfl:j=0:=by omega
 apply vE_;by_cases h:i<S.length
 . rw[J19 h,J0l,Qk,vSB,vSB,J4q _ _ h]
 . obtain rfl:i=S.length:=by omega
   rw[J2a h,vSB,J3Y];simp[J0m,tab]
theorem Q7i (x:Int×Bool) (a:Int) (b:Bool) (S:Stk) (i j:Nat) (e:i<S.length+1) (d:j<1):VLe (J1l (vSI (x::(a,b)::S)) S.length 0 [.int .i64 (a-1)] i j) (vSI ((a-1,b)::S) i j):=by
 obtain rfl:j=0:=by omega
 apply vE_;by_cases h:i=S.length
 . subst h;rw[vSI,J3Y];simp[J1l]
 . have c:i<S.length:=by omega
   have:J1l (vSI (x::(a,b)::S)) S.length 0 [.int .i64 (a-1)] i 0=vSI (x::(a,b)::S) i 0:=by simp[J1l,h]
   rw[this,vSI,vSI,J4q _ _ (by simp;omega),J4q _ _ c,J4q _ _ c]
theorem Q7j (x:Int×Bool) (a c:Int) (b:Bool) (S:Stk) (i j:Nat) (d:i<S.length+1):VLe (vSB (x::(a,b)::S) i j) (vSB ((c,b)::S) i j):=by
 apply vE_;by_cases h:i=S.length
 . subst h;rw[vSB,vSB,J4q _ _ (by simp),J3Y,J3Y]
 . rw[vSB,vSB,J4q _ _ (by simp;omega),J4q _ _ (by omega),J4q _ _ (by omega)]
def X4p:Stk->Stk
 | []=>[]
 | (a,b)::S=>J54 a b S
theorem Q0r (a:Int) (b:Bool):∀S:Stk,(J54 a b S).length<=S.length+1
 | []=>by rw[J54];split<;>simp
 | (d,c)::S=>by
   rw[J54];split
   . have:=Q0r (d-1) c S;simp;omega
   . simp
theorem Q3v {i:Nat} {a:Int} {b:Bool}:∀{S:Stk},(-(i:Int)-2<=a/\a<=3)->(∀x∈S,-(i:Int)-1<=x.1/\x.1<=3)->∀x∈J54 a b S,-(i:Int)-2<=x.1/\x.1<=3
 | [],d,h=>by
   rw[J54];split
   . intro x c;simp at c
   . intro x c;have:x=(a,b):=by simpa using c
     rw[this];exact d
 | (j,g)::S,d,h=>by
   have f:=h (j,g) (by simp);rw[J54];split
   . exact Q3v (by simp only at f;omega) fun x c=>h x (by simp[c])
   . intro x c;rcases Qj.1 c with e|e
     . rw[e];exact d
     . have:=h x e;omega
theorem X6Y (e:Lt2) {i:Nat} (h:i<e.length):J2G ⟨[],0,0⟩ (e.take (i+1))=J1j (J2G ⟨[],0,0⟩ (e.take i)) (gF e i):=by
 have a:e.take (i+1)=e.take i++[gF e i]:=J18 _ _ h;rw[J2G,J2G,a,Y6];rfl
def Q9F (O:Stk) (k:Nat):Nat:=((O.reverse.take k).filter (·.2)).length
theorem Q2f (O:Stk) {k:Nat} (h:k<O.length):Q9F O (k+1)=Q9F O k+if (stA O k).2 then 1 else 0:=by
 have hk:k<O.reverse.length:=by simpa using h
 have e:stA O k=O.reverse[k]:=by rw[stA,List.getD,Qp hk];rfl
 rw[Q9F,Q9F,Xn hk,J9,Ql,e];generalize O.reverse[k]=x;obtain⟨y,z⟩:=x;cases z<;>simp
theorem Q43 (O:Stk):Q9F O O.length=Q3Z O:=by
 rw[Q9F,Qz (by simp),List.filter_reverse,List.length_reverse];rfl
theorem Q9E (O:Stk) (k:Nat):Q9F O k<=k:=Zw (Y7 _ _) (by simp;omega)
theorem J9o (e:Lt2) (he:e.length<=100000):Ret Tryz.prog 265 [vTr e] (.tup [.int .i64 (J2G ⟨[],0,0⟩ e).d,.int .i64 (J2G ⟨[],0,0⟩ e).w]):=by
 refine rf Y4r ?_
 all_goals conv=>whnf
 refine J0s J0c [] [1,2] J2z [2,1] (fun p:Nat×LvS=>[(8,.int .i64 ((p.1:Nat):Int)),(4,.int .i64 ((p.2.d:Nat):Int)),(5,.int .i64 ((p.2.w:Nat):Int)),(6,.vec 1 1 0 p.2.S.length),(7,.vec 2 1 0 p.2.S.length),(0,vTr e)]) (fun _ p=>[(2,.vec p.2.S.length 1 (vSB p.2.S)),(1,.vec p.2.S.length 1 (vSI p.2.S))]) (fun m p=>m=e.length-p.1/\p.1<=e.length/\p.2=J2G ⟨[],0,0⟩ (e.take p.1)/\p.2.S.length<=p.1/\(∀x∈p.2.S,-(p.1:Int)-1<=x.1/\x.1<=3)) e.length (0,⟨[],0,0⟩) ⟨rfl,Qh _,rfl,Qd _,fun x c=>by simp at c⟩ rfl (fun _=>rfl) ?_ ?_
 . exact J0a (fun _ _=>[(1,none),(2,none)])
 rintro m ⟨i,S,d,w⟩ ⟨hm,t,hS,hl,L⟩;simp only at hm t hS hl L;dsimp only;by_cases W:i<e.length
 . have ha:=J3K (gF e i).1;have hg:=Q0p (gF e i).1;have a0:=Q2O (gF e i).1;have A:=X6Y e W;rw[<- hS,J1j] at A;simp only at A;generalize arI (gF e i).1=a at *;generalize J23 (gF e i).1=b at *;rcases (show b=true\/b=false by cases b<;>simp) with rfl|rfl
   . refine Vq ?_;refine J0s J0c [] [] J8g [6,4] (fun k:Nat=>[(10,.int .i64 ((k:Nat):Int)),(9,.int .i64 ((Q9F ((a,true)::S) k:Nat):Int)),(8,.int .i64 ((i:Nat):Int)),(4,.int .i64 ((d:Nat):Int)),(5,.int .i64 ((w:Nat):Int)),(6,.vec 4 1 0 (S.length+1)),(7,.vec 6 1 0 (S.length+1)),(0,vTr e)]) (fun _ k=>[(6,.vec (S.length+1) 1 (vSB ((a,true)::S))),(4,.vec (S.length+1) 1 (vSI ((a,true)::S)))]) (fun m k=>m=S.length+1-k/\k<=S.length+1) (S.length+1) 0 ⟨rfl,Qh _⟩ rfl (fun _=>rfl) ?_ ?_
     . refine J0d J4c ?_ ?_ rfl
       . repeat' (first|exact tI|(refine⟨⟨_,rfl,?_⟩,?_⟩)|exact J0b.kf rfl|exact J0b.q)
       . repeat' (first|exact Q4h S a _ _ _ (by omega) (by omega)|exact Q4i S a _ _ _ (by omega) (by omega)|exact tI|(refine⟨⟨_,rfl,?_⟩,?_⟩)|(refine⟨Qd _,rfl,fun i j t G=>?_⟩))
     rintro Z k ⟨V,hk⟩;by_cases J:k<S.length+1
     . have D:=Q2f ((a,true)::S) (k:=k) (by simpa using J);have Q:=Q9E ((a,true)::S) k;cases z:(stA ((a,true)::S) k).2 with
       | true =>
         rw[z,Qe rfl] at D
         repeat' ((conv=>whnf);first|(refine tbT (by first|exact z|(simp only[Qk];exact z)) ?_)|(refine Br.dec ?_ ?_<;>intro _<;>try omega)|(refine Ar.q ?_)|(refine Ix.q ?_)|(refine Ltn.q ?_))
         all_goals conv=>whnf
         refine⟨S.length+1-(k+1),k+1,by omega,⟨rfl,by omega⟩,?_⟩;exact J0a J4c
       | false =>
         rw[z,Qb (by simp)] at D
         repeat' ((conv=>whnf);first|(refine tbF (by first|exact z|(simp only[Qk];exact z)) ?_)|(refine Br.dec ?_ ?_<;>intro _<;>try omega)|(refine Ar.q ?_)|(refine Ix.q ?_)|(refine Ltn.q ?_))
         all_goals conv=>whnf
         refine⟨S.length+1-(k+1),k+1,by omega,⟨rfl,by omega⟩,?_⟩;exact J0a J4c
     obtain rfl:k=S.length+1:=by omega
     have K:Q9F ((a,true)::S) (S.length+1)=Q3Z ((a,true)::S):=Q43 _;rw[K];generalize Q3Z ((a,true)::S)=N at *;have T:=Q0r a true S;have C:=Q3v (i:=i) (a:=a) (b:=true) (S:=S) (by omega) L;refine Vq ?_;refine J0s J0c [] [] J8g [6,4] (fun g:Stk=>[(8,.int .i64 ((i:Nat):Int)),(4,.int .i64 ((max d (S.length+1):Nat):Int)),(5,.int .i64 ((max w N:Nat):Int)),(6,.vec 4 1 0 g.length),(7,.vec 6 1 0 g.length),(0,vTr e)]) (fun _ g=>[(6,.vec g.length 1 (vSB g)),(4,.vec g.length 1 (vSI g))]) (fun m g=>m=g.length/\X4p g=J54 a true S/\g.length<=i+1/\(∀x∈g,-(i:Int)-2<=x.1/\x.1<=3)/\∀x∈g.tail,-(i:Int)-1<=x.1) (S.length+1) ((a,true)::S) ⟨rfl,rfl,by simp only[List.length_cons];omega,fun x c=>by
      rcases Qj.1 c with q|q
      . rw[q];simp only;omega
      . have:=L x q;omega,fun x c=>(L x c).1⟩ rfl (fun _=>rfl) ?_ ?_
     . exact J0a J4c
     rintro Y g ⟨U,r,I,F,E⟩;cases g with
     | nil =>
       dsimp only[List.length_nil];refine Vq ?_;refine⟨e.length-(i+1),(i+1,⟨J54 a true S,max d (S.length+1),max w N⟩),by omega,⟨rfl,by omega,A.symm,by dsimp only;omega,fun x c=>by have:=C x c;dsimp only;omega⟩,?_⟩;dsimp only;rw[<- r];exact J0a (fun _ _=>[(1,some 4),(2,some 6)])
     | cons x v =>
       obtain⟨h,s⟩:=x;have n:(stA ((h,s)::v) v.length).1=h:=by rw[J3Y]
       simp only[List.length_cons] at I;by_cases M:h=0
       . cases v with
         | nil =>
           dsimp only[List.length_cons,List.length_nil] at *;have B:(stA [(h,s)] (0+0)).1=h:=n
           repeat' ((conv=>whnf);first|(refine Ix.w 0 ?_)|(refine Br.tt ?_)|(refine Br.ff ?_)|(refine Br.dec ?_ ?_<;>intro _<;>try omega)|(refine Ar.q ?_)|(refine Bd.q ?_)|(refine Ltn.q ?_))
           all_goals conv=>whnf
           refine⟨0,[],by omega,⟨rfl,by rw[<- r];simp[X4p,J54,M],by simp,fun x c=>by simp at c,fun x c=>by simp at c⟩,?_⟩;refine J0d J4c ?_ ?_ rfl
           . repeat' (first|exact tI|(refine⟨⟨_,rfl,?_⟩,?_⟩)|exact J0b.kf rfl|exact J0b.q)
           . repeat' (first|exact⟨by simp,rfl,fun i j t G=>absurd t (by simp)⟩|exact tI|(refine⟨⟨_,rfl,?_⟩,?_⟩))
         | cons y l =>
           obtain⟨o,u⟩:=y;dsimp only[List.length_cons] at *;have R:=E (o,u) (by simp);have H:=F (o,u) (by simp);have f:(stA ((h,s)::(o,u)::l) l.length).1=o:=by rw[J4q _ _ (by simp),J3Y]
           simp only at R H;have B:(stA ((h,s)::(o,u)::l) (0+(l.length+1))).1=h:=by rw[Qk];exact n
           have P:(stA ((h,s)::(o,u)::l) (0+l.length)).1=o:=by rw[Qk];exact f
           have O:(stA ((h,s)::(o,u)::l) (0+0+l.length)).1=o:=by simp only[Qk];exact f
           repeat' ((conv=>whnf);first|(refine Ix.w (l.length+1) ?_)|(refine Ix.w l.length ?_)|(refine Br.dec ?_ ?_<;>intro _<;>try omega)|(refine Ar.q ?_)|(refine Bd.int (by omega) (by omega) ?_)|(refine Ltn.q ?_))
           all_goals conv=>whnf
           refine⟨l.length+1,(o-1,u)::l,by omega,⟨by simp,by rw[<- r];simp only[X4p,J54,M,Zl],by simp only[List.length_cons];omega,fun x c=>?_,fun x c=>E x (by simp only[List.tail_cons] at c ⊢;simp[c])⟩,?_⟩
           . rcases Qj.1 c with q|q
             . rw[q];simp only;omega
             . exact F x (by simp[q])
           . dsimp only[List.length_cons];refine J0d J4c ?_ ?_ rfl
             . repeat' (first|exact tI|(refine⟨⟨_,rfl,?_⟩,?_⟩)|exact J0b.kf rfl|exact J0b.vec rfl (by omega) (by omega))
             . repeat' (first|exact⟨by omega,rfl,fun i j t G=>by simp only[Qk];rw[f];exact Q7i _ _ _ _ _ _ t G⟩|exact⟨by omega,rfl,fun i j t G=>Q7j _ _ _ _ _ _ _ t⟩|exact tI|(refine⟨⟨_,rfl,?_⟩,?_⟩))
       . have B:(stA ((h,s)::v) (0+v.length)).1=h:=by rw[Qk];exact n
         have X:J54 a true S=(h,s)::v:=by rw[<- r,X4p,J6P M]
         dsimp only[List.length_cons] at *
         repeat' ((conv=>whnf);first|(refine Ix.w v.length ?_)|(refine Br.dec ?_ ?_<;>intro _<;>try omega)|(refine Ar.q ?_)|(refine Ltn.q ?_))
         all_goals conv=>whnf
         refine⟨e.length-(i+1),(i+1,⟨J54 a true S,max d (S.length+1),max w N⟩),by omega,⟨rfl,by omega,A.symm,by dsimp only;omega,fun x c=>by have:=C x c;dsimp only;omega⟩,?_⟩;dsimp only;rw[X];dsimp only[List.length_cons];exact J0a (fun _ _=>[(1,some 4),(2,some 6)])
   . refine Vq ?_;refine J0s J0c [] [] J8g [6,4] (fun k:Nat=>[(10,.int .i64 ((k:Nat):Int)),(9,.int .i64 ((Q9F ((a,false)::S) k:Nat):Int)),(8,.int .i64 ((i:Nat):Int)),(4,.int .i64 ((d:Nat):Int)),(5,.int .i64 ((w:Nat):Int)),(6,.vec 4 1 0 (S.length+1)),(7,.vec 6 1 0 (S.length+1)),(0,vTr e)]) (fun _ k=>[(6,.vec (S.length+1) 1 (vSB ((a,false)::S))),(4,.vec (S.length+1) 1 (vSI ((a,false)::S)))]) (fun m k=>m=S.length+1-k/\k<=S.length+1) (S.length+1) 0 ⟨rfl,Qh _⟩ rfl (fun _=>rfl) ?_ ?_
     . refine J0d J4c ?_ ?_ rfl
       . repeat' (first|exact tI|(refine⟨⟨_,rfl,?_⟩,?_⟩)|exact J0b.kf rfl|exact J0b.q)
       . repeat' (first|exact Q4h S a _ _ _ (by omega) (by omega)|exact Q4i S a _ _ _ (by omega) (by omega)|exact tI|(refine⟨⟨_,rfl,?_⟩,?_⟩)|(refine⟨Qd _,rfl,fun i j t G=>?_⟩))
     rintro Z k ⟨V,hk⟩;by_cases J:k<S.length+1
     . have D:=Q2f ((a,false)::S) (k:=k) (by simpa using J);have Q:=Q9E ((a,false)::S) k;cases z:(stA ((a,false)::S) k).2 with
       | true =>
         rw[z,Qe rfl] at D
         repeat' ((conv=>whnf);first|(refine tbT (by first|exact z|(simp only[Qk];exact z)) ?_)|(refine Br.dec ?_ ?_<;>intro _<;>try omega)|(refine Ar.q ?_)|(refine Ix.q ?_)|(refine Ltn.q ?_))
         all_goals conv=>whnf
         refine⟨S.length+1-(k+1),k+1,by omega,⟨rfl,by omega⟩,?_⟩;exact J0a J4c
       | false =>
         rw[z,Qb (by simp)] at D
         repeat' ((conv=>whnf);first|(refine tbF (by first|exact z|(simp only[Qk];exact z)) ?_)|(refine Br.dec ?_ ?_<;>intro _<;>try omega)|(refine Ar.q ?_)|(refine Ix.q ?_)|(refine Ltn.q ?_))
         all_goals conv=>whnf
         refine⟨S.length+1-(k+1),k+1,by omega,⟨rfl,by omega⟩,?_⟩;exact J0a J4c
     obtain rfl:k=S.length+1:=by omega
     have K:Q9F ((a,false)::S) (S.length+1)=Q3Z ((a,false)::S):=Q43 _;rw[K];generalize Q3Z ((a,false)::S)=N at *;have T:=Q0r a false S;have C:=Q3v (i:=i) (a:=a) (b:=false) (S:=S) (by omega) L;refine Vq ?_;refine J0s J0c [] [] J8g [6,4] (fun g:Stk=>[(8,.int .i64 ((i:Nat):Int)),(4,.int .i64 ((max d (S.length+1):Nat):Int)),(5,.int .i64 ((max w N:Nat):Int)),(6,.vec 4 1 0 g.length),(7,.vec 6 1 0 g.length),(0,vTr e)]) (fun _ g=>[(6,.vec g.length 1 (vSB g)),(4,.vec g.length 1 (vSI g))]) (fun m g=>m=g.length/\X4p g=J54 a false S/\g.length<=i+1/\(∀x∈g,-(i:Int)-2<=x.1/\x.1<=3)/\∀x∈g.tail,-(i:Int)-1<=x.1) (S.length+1) ((a,false)::S) ⟨rfl,rfl,by simp only[List.length_cons];omega,fun x c=>by
      rcases Qj.1 c with q|q
      . rw[q];simp only;omega
      . have:=L x q;omega,fun x c=>(L x c).1⟩ rfl (fun _=>rfl) ?_ ?_
     . exact J0a J4c
     rintro Y g ⟨U,r,I,F,E⟩;cases g with
     | nil =>
       dsimp only[List.length_nil];refine Vq ?_;refine⟨e.length-(i+1),(i+1,⟨J54 a false S,max d (S.length+1),max w N⟩),by omega,⟨rfl,by omega,A.symm,by dsimp only;omega,fun x c=>by have:=C x c;dsimp only;omega⟩,?_⟩;dsimp only;rw[<- r];exact J0a (fun _ _=>[(1,some 4),(2,some 6)])
     | cons x v =>
       obtain⟨h,s⟩:=x;have n:(stA ((h,s)::v) v.length).1=h:=by rw[J3Y]
       simp only[List.length_cons] at I;by_cases M:h=0
       . cases v with
         | nil =>
           dsimp only[List.length_cons,List.length_nil] at *;have B:(stA [(h,s)] (0+0)).1=h:=n
           repeat' ((conv=>whnf);first|(refine Ix.w 0 ?_)|(refine Br.tt ?_)|(refine Br.ff ?_)|(refine Br.dec ?_ ?_<;>intro _<;>try omega)|(refine Ar.q ?_)|(refine Bd.q ?_)|(refine Ltn.q ?_))
           all_goals conv=>whnf
           refine⟨0,[],by omega,⟨rfl,by rw[<- r];simp[X4p,J54,M],by simp,fun x c=>by simp at c,fun x c=>by simp at c⟩,?_⟩;refine J0d J4c ?_ ?_ rfl
           . repeat' (first|exact tI|(refine⟨⟨_,rfl,?_⟩,?_⟩)|exact J0b.kf rfl|exact J0b.q)
           . repeat' (first|exact⟨by simp,rfl,fun i j t G=>absurd t (by simp)⟩|exact tI|(refine⟨⟨_,rfl,?_⟩,?_⟩))
         | cons y l =>
           obtain⟨o,u⟩:=y;dsimp only[List.length_cons] at *;have R:=E (o,u) (by simp);have H:=F (o,u) (by simp);have f:(stA ((h,s)::(o,u)::l) l.length).1=o:=by rw[J4q _ _ (by simp),J3Y]
           simp only at R H;have B:(stA ((h,s)::(o,u)::l) (0+(l.length+1))).1=h:=by rw[Qk];exact n
           have P:(stA ((h,s)::(o,u)::l) (0+l.length)).1=o:=by rw[Qk];exact f
           have O:(stA ((h,s)::(o,u)::l) (0+0+l.length)).1=o:=by simp only[Qk];exact f
           repeat' ((conv=>whnf);first|(refine Ix.w (l.length+1) ?_)|(refine Ix.w l.length ?_)|(refine Br.dec ?_ ?_<;>intro _<;>try omega)|(refine Ar.q ?_)|(refine Bd.int (by omega) (by omega) ?_)|(refine Ltn.q ?_))
           all_goals conv=>whnf
           refine⟨l.length+1,(o-1,u)::l,by omega,⟨by simp,by rw[<- r];simp only[X4p,J54,M,Zl],by simp only[List.length_cons];omega,fun x c=>?_,fun x c=>E x (by simp only[List.tail_cons] at c ⊢;simp[c])⟩,?_⟩
           . rcases Qj.1 c with q|q
             . rw[q];simp only;omega
             . exact F x (by simp[q])
           . dsimp only[List.length_cons];refine J0d J4c ?_ ?_ rfl
             . repeat' (first|exact tI|(refine⟨⟨_,rfl,?_⟩,?_⟩)|exact J0b.kf rfl|exact J0b.vec rfl (by omega) (by omega))
             . repeat' (first|exact⟨by omega,rfl,fun i j t G=>by simp only[Qk];rw[f];exact Q7i _ _ _ _ _ _ t G⟩|exact⟨by omega,rfl,fun i j t G=>Q7j _ _ _ _ _ _ _ t⟩|exact tI|(refine⟨⟨_,rfl,?_⟩,?_⟩))
       . have B:(stA ((h,s)::v) (0+v.length)).1=h:=by rw[Qk];exact n
         have X:J54 a false S=(h,s)::v:=by rw[<- r,X4p,J6P M]
         dsimp only[List.length_cons] at *
         repeat' ((conv=>whnf);first|(refine Ix.w v.length ?_)|(refine Br.dec ?_ ?_<;>intro _<;>try omega)|(refine Ar.q ?_)|(refine Ltn.q ?_))
         all_goals conv=>whnf
         refine⟨e.length-(i+1),(i+1,⟨J54 a false S,max d (S.length+1),max w N⟩),by omega,⟨rfl,by omega,A.symm,by dsimp only;omega,fun x c=>by have:=C x c;dsimp only;omega⟩,?_⟩;dsimp only;rw[X];dsimp only[List.length_cons];exact J0a (fun _ _=>[(1,some 4),(2,some 6)])
 . obtain rfl:i=e.length:=by omega
   rw[Y8] at hS;rw[<- hS];exact Wq
end Go.Proofs.YtcbnimaicgegfaaGreatDoor
namespace Go.Plain.An
def hit (l a:List Nat):Nat:=a.countP fun t=>decide (t∈l)
def srcs (N:Nat) (ar:Nat->List Nat) (t:Nat):List Nat:=(List.range N).flatMap fun k=>List.replicate ((ar k).count t) k
theorem X5z {N:Nat} {ar:Nat->List Nat} {t k:Nat} (h:k∈srcs N ar t):k<N:=by
 obtain⟨a,c,b⟩:=List.mem_flatMap.1 h;have:=List.eq_of_mem_replicate b;subst this;exact Q7.1 c
theorem J9R (f:Nat->Nat) (k:Nat):∀n,((List.range n).flatMap fun k=>List.replicate (f k) k).count k=if k<n then f k else 0
 | 0=>by simp
 | n+1=>by
   rw[Yd,J6,List.count_append,J9R f k n];simp only[List.flatMap_cons,List.flatMap_nil,Ym,List.count_replicate];by_cases h:n=k
   . subst h;simp
   . simp[h];by_cases a:k<n
     . rw[Qe a,Qe (by omega)]
     . rw[Qb a,Qb (by omega)]
theorem J9h {N:Nat} {ar:Nat->List Nat} {t k:Nat} (h:k<N):(srcs N ar t).count k=(ar k).count t:=by
 rw[srcs,J9R (fun k=>(ar k).count t) k N,Qe h]
theorem Q0I {l:List Nat} {t:Nat} (h:t∉l) (b:List Nat):hit (l++[t]) b=hit l b+b.count t:=by
 induction b with
 | nil=>rfl
 | cons a b c =>
   simp only[hit,List.countP_cons,List.count_cons] at c ⊢;rw[c];by_cases e:a=t
   . subst e;simp[h];omega
   . have e2:¬ (a == t)=true:=by simpa using e
     by_cases q:a∈l
     . simp[q,e];omega
     . simp[q,e]
theorem Y0x (l a:List Nat):hit l a<=a.length:=Vo
theorem Q9K {l a:List Nat}:hit l a=a.length↔∀t∈a,t∈l:=by
 rw[hit,List.countP_eq_length];simp
theorem Q2j {l:List Nat} {t:Nat} (h:t∉l) (a:List Nat):hit l a+a.count t<=a.length:=by
 rw[<- Q0I h];exact Y0x _ _
variable {N:Nat} {ar:Nat->List Nat} {set:Nat->Bool}
structure OrdJ (N:Nat) (ar:Nat->List Nat) (set:Nat->Bool) (L:List Nat) (i q:Nat) (en:Nat->Nat):Prop where
 nodup:L.Nodup
 lt:∀k∈L,k<N
 all:∀k,k<N->set k=true->k∈L
 le:i<=L.length
 ent:∀k,k<N->en k=hit (L.take i) (ar k)+((srcs N ar (L.getD i 0)).take q).count k
 mem:∀k,k<N->set k=false->(k∈L↔(ar k≠[]/\hit (L.take i) (ar k)+((srcs N ar (L.getD i 0)).take q).count k=(ar k).length))
 ord:∀(j k:Nat),L[j]?=some k->set k=true\/(ar k≠[]/\∀t∈ar k,∃j',j'<j/\L[j']?=some t)
theorem OrdJ.start:OrdJ N ar set ((List.range N).filter set) 0 0 (fun _=>0):=by
 refine⟨Ko.sublist J7,fun k hk=>?_,fun k hk a=>?_,Qh _,fun k _=>?_,fun k hk a=>?_,fun j k h=>?_⟩
 . exact Q7.1 (Zx.1 hk).1
 . exact Zx.2 ⟨Q7.2 hk,a⟩
 . simp[hit]
 . constructor
   . intro h;have:=(Zx.1 h).2;rw[a] at this;cases this
   . rintro⟨d,b⟩;have c:hit ([]:List Nat) (ar k)=0:=by simp[hit]
     simp only[Jl,List.count_nil] at b;rw[c] at b;exact(d (Yi.1 b.symm)).elim
 . exact .inl (Zx.1 (Qw h)).2
theorem take_next {L:List Nat} {i:Nat} (h:i<L.length):L.take (i+1)=L.take i++[L.getD i 0]:=by
 rw[Xn h];simp[List.getD,h]
theorem Q4N {L:List Nat} (a:L.Nodup) {i:Nat} (h:i<L.length):L.getD i 0∉L.take i:=by
 intro b;obtain⟨j,c,e⟩:=Xi.1 b;simp only[Zt] at c;rw[List.getElem_take] at e;have e2:L.getD i 0=L[i]:=by simp[List.getD,h]
 rw[e2] at e;have:=(List.getElem_inj a).1 e;omega
theorem count_take_next {l:List Nat} {q:Nat} (h:q<l.length) (k:Nat):(l.take (q+1)).count k=(l.take q).count k+if l.getD q 0=k then 1 else 0:=by
 rw[take_next h,List.count_append,List.count_singleton];by_cases e:l.getD q 0=k<;>simp[e]
theorem Q0R (l:List Nat) (q k:Nat):(l.take q).count k<=l.count k:=(Jq q l).count_le k
theorem X2R {l:List Nat} {q:Nat} (h:q<l.length):l.getD q 0∈l:=by
 have:l.getD q 0=l[q]:=by simp[List.getD,h]
 rw[this];exact Xd h
theorem OrdJ.step {L:List Nat} {i q:Nat} {f:Nat->Nat} (h:OrdJ N ar set L i q f) (G:i<L.length) (B:q<(srcs N ar (L.getD i 0)).length) :
 (srcs N ar (L.getD i 0)).getD q 0<N/\f ((srcs N ar (L.getD i 0)).getD q 0)+1<=(ar ((srcs N ar (L.getD i 0)).getD q 0)).length /\
 OrdJ N ar set (if set ((srcs N ar (L.getD i 0)).getD q 0)=false/\f ((srcs N ar (L.getD i 0)).getD q 0)+1=(ar ((srcs N ar (L.getD i 0)).getD q 0)).length then L++[(srcs N ar (L.getD i 0)).getD q 0] else L) i (q+1)
  (fun k=>if k=(srcs N ar (L.getD i 0)).getD q 0 then f k+1 else f k):=by
 have p:=Q4N h.nodup G;have hk:(srcs N ar (L.getD i 0)).getD q 0<N:=X5z (ar:=ar) (t:=L.getD i 0) (X2R B);have K:=count_take_next B ((srcs N ar (L.getD i 0)).getD q 0);rw[Qe rfl] at K;have H:=Q0R (srcs N ar (L.getD i 0)) (q+1) ((srcs N ar (L.getD i 0)).getD q 0);rw[J9h hk] at H;have T:=Q2j p (ar ((srcs N ar (L.getD i 0)).getD q 0));have he:=h.ent _ hk;generalize O:(srcs N ar (L.getD i 0)).getD q 0=k at *;have D:f k+1<=(ar k).length:=by omega
 refine⟨hk,D,?_⟩;have m:∀x,((srcs N ar (L.getD i 0)).take (q+1)).count x=((srcs N ar (L.getD i 0)).take q).count x+if k=x then 1 else 0:=fun x=>by
  rw[count_take_next B x,O]
 have l:∀x,x<N->(fun x=>if x=k then f x+1 else f x) x=hit (L.take i) (ar x)+((srcs N ar (L.getD i 0)).take (q+1)).count x:=fun x c=>by
  have:=h.ent x c;rw[m x];show(if x=k then f x+1 else f x)=_;by_cases e:x=k
  . rw[Qe e,Qe e.symm];omega
  . rw[Qb e,Qb (fun q=>e q.symm)];omega
 by_cases n:set k=false/\f k+1=(ar k).length
 . rw[Qe n];obtain⟨n,y⟩:=n;have C:k∉L:=fun w=>by
    have:=((h.mem k hk n).1 w).2;omega
   have F:i<=L.length:=by omega
   have u:(L++[k]).take i=L.take i:=List.take_append_of_le_length F;have v:(L++[k]).getD i 0=L.getD i 0:=by
    simp only[List.getD,Q3 G]
   refine⟨?_,fun x c=>?_,fun x c d=>X0 _ (h.all x c d),by simp;omega,?_,fun x c d=>?_,fun j x r=>?_⟩
   . refine X4.2 ⟨h.nodup,by simp,fun a M b I=>?_⟩;simp at I;subst I;intro e;subst e;exact C M
   . rcases Qr.1 c with c|c
     . exact h.lt x c
     . simp at c;subst c;exact hk
   . rw[u,v];exact l
   . rw[u,v,m x,Qr];have:=h.mem x c d;by_cases e:x=k
     . subst e;rw[Qe rfl];constructor
       . intro _;refine⟨fun q=>by rw[q] at y;simp at y,?_⟩;have:=h.ent x c;omega
       . intro _;exact .inr (by simp)
     . rw[Qb (fun q=>e q.symm),Xx,<- this];constructor
       . rintro (g|g)
         . exact g
         . simp at g;exact(e g).elim
       . exact .inl
   . by_cases E:j<L.length
     . rw[Q3 E] at r;rcases h.ord j x r with g | ⟨Q,g⟩
       . exact .inl g
       . refine .inr ⟨Q,fun t p=>?_⟩;obtain⟨z,o,P⟩:=g t p;exact⟨z,o,by rw[Q3 (by omega)];exact P⟩
     . have S:j=L.length:=by
        have:j<(L++[k]).length:=by
         rcases Zs j (L++[k]).length with q|q
         . exact q
         . rw[Zo q] at r;cases r
        simp at this;omega
       subst S;have R:x=k:=by simpa using r.symm
       subst R;have s:hit (L.take i++[L.getD i 0]) (ar x)=(ar x).length:=by
        rw[Q0I p];have:=Q2j p (ar x);omega
       refine .inr ⟨fun q=>by rw[q] at y;simp at y,fun t A=>?_⟩;have w:=Q9K.1 s t A;rw[<- take_next G] at w;obtain⟨z,g,o⟩:=Xi.1 w;simp only[Zt] at g;rw[List.getElem_take] at o;refine⟨z,by omega,?_⟩;rw[Q3 (by omega),Qp (by omega),o]
 . rw[Qb n];refine⟨h.nodup,h.lt,h.all,h.le,l,fun x c d=>?_,h.ord⟩;rw[m x,h.mem x c d];by_cases e:x=k
   . subst e;rw[Qe rfl];have J:¬ (f x+1=(ar x).length):=fun q=>n ⟨d,q⟩;have:=h.ent x c;constructor
     . rintro⟨_,o⟩;omega
     . rintro⟨_,o⟩;omega
   . rw[Qb (fun q=>e q.symm),Xx]
theorem OrdJ.next {L:List Nat} {i:Nat} {b:Nat->Nat} (h:OrdJ N ar set L i (srcs N ar (L.getD i 0)).length b) (a:i<L.length):OrdJ N ar set L (i+1) 0 b:=by
 have c:=Q4N h.nodup a;have key:∀k,k<N->hit (L.take (i+1)) (ar k)+((srcs N ar (L.getD (i+1) 0)).take 0).count k=hit (L.take i) (ar k)+((srcs N ar (L.getD i 0)).take (srcs N ar (L.getD i 0)).length).count k:=fun k hk=>by
  rw[take_next a,Q0I c,Y8,J9h hk];simp
 exact⟨h.nodup,h.lt,h.all,a,fun k hk=>by rw[key k hk];exact h.ent k hk,fun k hk d=>by rw[key k hk];exact h.mem k hk d,h.ord⟩
structure Ord (N:Nat) (ar:Nat->List Nat) (set:Nat->Bool) (L:List Nat):Prop where
 nodup:L.Nodup
 lt:∀k∈L,k<N
 all:∀k,k<N->set k=true->k∈L
 out:∀k,k<N->k∉L->set k=false/\(ar k=[]\/∃t∈ar k,t∉L)
 ord:∀(j k:Nat),L[j]?=some k->set k=true\/(ar k≠[]/\∀t∈ar k,∃j',j'<j/\L[j']?=some t)
theorem OrdJ.done {L:List Nat} {i:Nat->Nat} {q:Nat} (h:OrdJ N ar set L L.length q i) (g:q=0):Ord N ar set L:=by
 subst g;refine⟨h.nodup,h.lt,h.all,fun k hk c=>?_,h.ord⟩;have b:set k=false:=by
  cases e:set k with
  | false=>rfl
  | true=>exact(c (h.all k hk e)).elim
 refine⟨b,?_⟩;have d:=h.mem k hk b;rw[Y8] at d;by_cases e:ar k=[]
 . exact .inl e
 . right;apply X7;intro a;apply c;refine d.2 ⟨e,?_⟩;simp only[Jl,List.count_nil,Xx];exact Q9K.2 fun t f=>X7 fun q=>a ⟨t,f,q⟩
theorem OrdJ.len {L:List Nat} {i q:Nat} {c:Nat->Nat} (h:OrdJ N ar set L i q c):L.length<=N:=by
 have b:L.Subset (List.range N):=fun k hk=>Q7.2 (h.lt k hk);have a:=h.nodup;have:=Zd a b;simpa using this
end Go.Plain.An
namespace Go.Eng
open Go.Plain
structure Tsy where
 n:Nat
 en:Nat->Nat
 ar:Nat->List (Nat×Nat)
def gA (l:List (Nat×Nat)) (i:Nat):Nat×Nat:=l.getD i (0,0)
def vAr (l:List (Nat×Nat)):Nat->Nat->V:=fun i j=>match j with
 | 0=>.int .u32 (gA l i).1
 | _=>.int .i64 (gA l i).2
def arV (l:List (Nat×Nat)):V:=.fz l.length 2 false (vAr l)
def vEn (s:Tsy):Nat->Nat->V:=fun i _=>.int .u32 (s.en i)
def X4c (s:Tsy):Nat->Nat->V:=fun i _=>arV (s.ar i)
def Tsy.v (s:Tsy):V:=.agg [.fz s.n 1 false (vEn s),.fz s.n 1 false (X4c s)]
def Tsy.to (s:Tsy) (k:Nat):List Nat:=(s.ar k).map (·.2)
def X1M (f:Nat->Nat):Nat->Nat
 | 0=>0
 | k+1=>X1M f k+f k
theorem J4o (f:Nat->Nat) {a b:Nat} (h:a<=b):X1M f a<=X1M f b:=by
 induction b with
 | zero =>
   obtain rfl:a=0:=by omega
   exact Qd _
 | succ b c =>
   by_cases e:a=b+1
   . subst e;exact Qd _
   . have:=c (by omega);rw[X1M];omega
theorem Q7L (f:Nat->Nat) (m:Nat) (h:∀k,f k<=m):∀n,X1M f n<=n*m
 | 0=>by simp[X1M]
 | n+1=>by have:=Q7L f m h n;have:=h n;rw[X1M,Xc];omega
def Tsy.tot (s:Tsy) (k:Nat):Nat:=X1M (fun k=>(s.ar k).length) k
structure Tsy.Ok (s:Tsy):Prop where
 n1:1<=s.n
 n2:s.n<=32768
 en:∀k,k<s.n->s.en k<16777216
 ne:∀k,k<s.n->(s.en k≠0↔s.ar k≠[])
 sort:∀k,k<s.n->(s.ar k).Pairwise fun a b=>a.1<b.1
 arc:∀k,k<s.n->∀a∈s.ar k,a.1≠0/\J2D a.1 (s.en k)/\a.2<s.n
 tot:s.tot s.n<=262144
theorem Tsy.Ok.row {s:Tsy} (h:s.Ok) {k:Nat} (hk:k<s.n):(s.ar k).length<=262144:=by
 have b:=h.tot;have a:=J4o (fun k=>(s.ar k).length) (show k+1<=s.n by omega);rw[Tsy.tot] at b;rw[X1M] at a;omega
theorem J4D {l:List (Nat×Nat)} {i:Nat} (h:i<l.length):gA l i∈l:=by
 rw[gA,Q6,Qp h];exact Xd h
theorem Y4o {l:List (Nat×Nat)} (h:l.Pairwise fun a b=>a.1<b.1) {i j:Nat} (c:i<j) (d:j<l.length):(gA l i).1<(gA l j).1:=by
 have:=K6.1 h i j (by omega) d c;simpa[gA,Q6,Qp d,Qp (show i<l.length by omega)] using this
def blV (n:Nat) (b:Nat->Bool):V:=.fz n 1 false fun i _=>.bool (b i)
def inV (n:Nat) (r:Nat->Nat):V:=.fz n 1 false fun i _=>.int .i64 (r i)
def gQ (l:List Nat) (i:Nat):Nat:=l.getD i 0
def vQ (l:List Nat):Nat->Nat->V:=fun i _=>.int .i64 (gQ l i)
def nlV (l:List Nat):V:=.fz l.length 1 false (vQ l)
theorem J6Y {l:List Nat} {i:Nat} (h:i<l.length):gQ l i∈l:=by
 rw[gQ,Q6,Qp h];exact Xd h
theorem J5i (l:List Nat) (a i:Nat):gQ (l++[a]) i=if i<l.length then gQ l i else if i=l.length then a else 0:=by
 by_cases h:i<l.length
 . simp only[gQ,List.getD,Q3 h,Qe h]
 . rw[Qb h];by_cases b:i=l.length
   . subst b;simp[gQ]
   . simp[gQ,b,Zo (by simp;omega:(l++[a]).length<=i)]
theorem J69 (l:List Nat) (a:Nat) (F:Nat->Nat->V) (x:Int) (hF:F 0 0=.int .i64 x) (b:x=a) (n i j:Nat) (c:n=l.length) (e:i<l.length+1) (d:j<1):VLe (J56 (J0m 0 (vQ l)) n (J0m 0 F) i j) (vQ (l++[a]) i j):=by
 obtain rfl:j=0:=by omega
 subst c;apply vE_;rw[vQ,J5i];by_cases h:i<l.length
 . rw[J19 h,J0l,Qk,Qe h];rfl
 . rw[J2a h,Qb h];have:i=l.length:=by omega
   subst this;simp[J0m,hF,b]
theorem Q8M {l:List (Nat×Nat)} {n m:Nat} (i:l.Nodup) (h:∀p∈l,p.1<n/\p.2<m):l.length<=n*m:=by
 have q:(l.map fun p=>p.1*m+p.2).Nodup:=by
  rw[Jm,List.pairwise_map];refine List.Pairwise.imp_of_mem ?_ i;intro a b o j c e;have f:=h a o;have d:=h b j;apply c;have g:a.1=b.1:=by
   have:(a.1*m+a.2) / m=(b.1*m+b.2) / m:=by rw[e]
   rw[Z8,Jz _ _ (by omega),Z9 f.2,Z8 (b.1*m),Jz _ _ (by omega),Z9 d.2] at this;omega
  have e2:a.2=b.2:=by rw[g] at e;omega
  exact J0 g e2
 have f:(l.map fun p=>p.1*m+p.2).Subset (List.range (n*m)):=fun k hk=>by
  obtain⟨p,hp,rfl⟩:=Qi.1 hk;have:=h p hp;rw[Q7];have d:(p.1+1)*m<=n*m:=Q5 _ this.1;rw[Xc] at d;omega
 have:=Zd q f;simpa using this
end Go.Eng
namespace Go.Proofs.YtcbnimaicgegfaaGreatDoor
open Go.Eng
set_option maxRecDepth 100000
set_option maxHeartbeats 16000000
theorem Q8n (e:Lt2) (he:e.length<=100000) (b:Q6x e=true):Ret Tryz.prog 250 [vTr e] (.int .i64 (J2G ⟨[],0,0⟩ e).d):=by
 have a:=Q3i e he;rw[b] at a;have c:=J9o e he;refine rf Y4E ?_;exact Wq
theorem X13 (e:Lt2) (he:e.length<=100000) (b:Q6x e=true):Ret Tryz.prog 251 [vTr e] (.int .i64 (J2G ⟨[],0,0⟩ e).w):=by
 have a:=Q3i e he;rw[b] at a;have c:=J9o e he;refine rf Y4D ?_;exact Wq
theorem Q01 {α:Type} {l:List α} {p:α->Bool} {i:Nat} (h:i<l.length) (b:(l.take i).all p=true) (a:p l[i]=true):(l.take (i+1)).all p=true:=by
 rw[Xn h,Z2,b,X8,a];rfl
theorem Q5b! {e:Lt2} {i:Nat} (h:i<e.length):gF e i=e[i]:=by simp[gF,List.getD,h]
theorem X8m {α:Type} {l:List α} {p:α->Bool} {i:Nat} (h:i<l.length) (a:p l[i]=false):l.all p=false:=by
 cases e:l.all p with
 | false=>rfl
 | true =>
   have:=Qy.1 e _ (Xd h);rw[a] at this;cases this
theorem J7P (e:Lt2) (a:Int) (he:e.length<=100000):Ret Tryz.prog 232 [vTr e,.int .i64 a] (.bool (exB a e)):=by
 have j:=Q3i e he;refine rf Y4Q ?_;by_cases o:e.length<=200
 . cases g:Q6x e with
   | false =>
     rw[g] at j;have:exB a e=false:=by simp[exB,g]
     rw[this];exact Wq
   | true =>
     rw[g] at j;have hd:=Q8n e he g;have p:=X13 e he g;by_cases n:(J2G ⟨[],0,0⟩ e).d<=24
     . by_cases l:(J2G ⟨[],0,0⟩ e).w<=2
       . have f:exB a e=e.all (Q00 a):=by simp[exB,o,g,n,l]
         rw[f];refine Vq ?_;refine J0h J0c [0,1] (fun i:Nat=>[(5,.int .i64 i)]) (fun m i=>m=e.length-i/\i<=e.length/\(e.take i).all (Q00 a)=true) e.length 0 ⟨rfl,Qh _,rfl⟩ ?_ ?_
         . exact J0a J1A
         rintro m i ⟨q,r,b⟩;by_cases c:i<e.length
         . have k:=Q1R (gF e i) a;cases h:Q00 a (gF e i) with
           | true =>
             rw[h] at k;refine Vq ?_;refine⟨e.length-(i+1),i+1,by omega,⟨rfl,by omega,Q01 c b (by rw[<- Q5b! c];exact h)⟩,?_⟩;exact J0a J1A
           | false =>
             rw[h] at k;refine Vq ?_;rw[X8m c (by rw[<- Q5b! c];exact h)];exact vR_
         . obtain rfl:i=e.length:=by omega
           rw[Y8] at b;rw[b];exact Wq
       . have f:exB a e=false:=by simp[exB,l]
         rw[f];exact Wq
     . have f:exB a e=false:=by simp[exB,n]
       rw[f];exact Wq
 . have f:exB a e=false:=by simp[exB,o]
   rw[f];exact Wq
def J9Y (num:Int->Nat->Nat):Lt2->List Nat->Prop
 | [],_=>True
 | x::e,S=>J9Y num e S/\0<=arI x.1/\(arI x.1).toNat<=(J3V num e S).length
theorem J7e (num:Int->Nat->Nat):∀(e f:Lt2) (S:List Nat),J9Y num e (J3V num f S)->J9Y num f S->J9Y num (e++f) S
 | [],f,S,_,h=>h
 | x::e,f,S,h,d=>by
   obtain⟨c,b,a⟩:=h;refine⟨J7e num e f S c d,b,?_⟩;have:=J8P num e f S;rw[<- this] at a;exact a
theorem J5b (num:Int->Nat->Nat):∀(t:Rt) (S:List Nat),t.ok->J9Y num t.enc S
 | .leaf x,S,h=>by
   have h:arI x.1=0:=h;exact⟨tI,by omega,by rw[h];exact Qh _⟩
 | .un x a,S,h=>by
   obtain⟨f,d⟩:=h;refine⟨J5b num a S d,by omega,?_⟩;rw[J6C num a S d,f,Ql];simp
 | .bin x a b,S,h=>by
   obtain⟨f,d,e⟩:=h;refine⟨J7e num _ _ _ (J5b num a _ d) (J5b num b S e),by omega,?_⟩;rw[J8P,J6C num b S e,J6C num a _ d,f];simp
 | .tri x a b c,S,h=>by
   obtain⟨f,d,e,g⟩:=h;refine⟨J7e num _ _ _ (J5b num a _ d) (J7e num _ _ _ (J5b num b _ e) (J5b num c S g)),by omega,?_⟩;rw[J8P,J8P,J6C num c S g,J6C num b _ e,J6C num a _ d,f];simp
theorem Q1A (num:Int->Nat->Nat):∀(e:Lt2) (S:List Nat) (k:Nat),k<e.length->J9Y num e S->0<=arI (gF e k).1/\(arI (gF e k).1).toNat<=(J3V num (e.drop (k+1)) S).length
 | [],S,k,hk,_=>by simp at hk
 | x::e,S,0,hk,h=>⟨h.2.1,h.2.2⟩
 | x::e,S,k+1,hk,h=>by
   have:=Q1A num e S k (by simpa using hk) h.1;exact this
theorem X8d (num:Int->Nat->Nat) (e:Lt2) {k:Nat} (h:k<e.length):J3V num (e.drop k) []=J44 num (gF e k) (J3V num (e.drop (k+1)) []):=by
 rw[J6u e k h];rfl
theorem X6U (S:List Nat) (a:Nat):∀b,b<=a->(∀v∈S,v<=a)->S.foldl max b<=a:=by
 induction S with
 | nil=>intro b c _;exact c
 | cons x S d=>intro b c h;exact d _ (by have:=h x (by simp);omega) fun v e=>h v (by simp[e])
theorem Y4n {S:List Nat} {i:Nat} (h:i<S.length):gQ S i=S[i]:=by simp[gQ,List.getD,h]
theorem X5g (S:List Nat) (r a:Nat) (n i j:Nat) (b:r<=S.length) (e:i<r+1) (d:j<1):VLe (J56 (J0m 0 (vQ S)) r (J0m 0 (tab [[.int .i64 a]])) i j) (vQ (S.take r++[a]) i j):=by
 obtain rfl:j=0:=by omega
 apply vE_;have c:(S.take r).length=r:=by simp;omega
 by_cases h:i<r
 . rw[J19 h,J0l,Qk,vQ,vQ,J5i,Qe (by omega),gQ,gQ];simp[List.getD,h]
 . obtain rfl:i=r:=by omega
   rw[J2a h,vQ,J5i,Qb (by omega),Qe (by omega)];simp[J0m,tab]
theorem X1w (S:List Nat) (r a:Nat) {n o i j:Nat} (g:i<(S.take r++[a]).length) (e:j<1) (b:r<=S.length) (d:n=r) (c:o=0):VLe (J56 (J0m o (vQ S)) n (J0m 0 (tab [[.int .i64 a]])) i j) (vQ (S.take r++[a]) i j):=by
 subst d c;have f:(S.take n++[a]).length=n+1:=by simp;omega
 exact X5g S n a 0 i j b (by omega) e
theorem X8W (S:List Nat) (r a:Nat) {n i j:Nat} (g:i<(S.take r++[a]).length) (f:j<1) (d:r+1<=S.length) (b:n=r):VLe (Q2V (vQ S) n 1 (J0m 0 (tab [[.int .i64 a]])) i j) (vQ (S.take r++[a]) i j):=by
 subst b;obtain rfl:j=0:=by omega
 have e:(S.take n++[a]).length=n+1:=by simp;omega
 have c:(S.take n).length=n:=by simp;omega
 apply vE_;by_cases h:i<n
 . rw[vQ,J5i,Qe (by omega)];simp[Q2V,vQ,gQ,List.getD,h,show ¬ n<=i by omega]
 . obtain rfl:i=n:=by omega
   rw[vQ,J5i,Qb (by omega),Qe (by omega)];simp[Q2V,J0m,tab]
theorem J9u (s:FuncId) (C:J08 Tryz.prog s=true) (num:Int->Nat->Nat) (I:∀op gr,num op gr<=gr+1) (n:∀(op:Int) (gr:Nat),gr<=1000000->Ret Tryz.prog s [.int .i64 op,.int .i64 gr] (.int .i64 (num op gr))) (t:Rt) (x:t.ok) (K:t.enc.length<=100000) :
 Ret Tryz.prog 223 [vTr t.enc,.fn (.func s) false []] (.tup [.int .i64 (t.val num),.bool true]):=by
 have A:=t.enc_pos;have p:=X0b t.enc 0 K A;have c:=X4j x;rw[Q6x,Qa] at c;rw[c.2] at p;have f:=fun k hk=>Q1A num t.enc [] k hk (J5b num t [] x);have g:=fun k (hk:k<t.enc.length)=>X8d num t.enc hk;have d:=J6C num t [] x;generalize t.enc=e at *;refine rf Y4Y ?_;refine Vq ?_;refine J0s J0c [] [1] J1k [1] (fun q:Nat=>[(7,.int .i64 ((q:Int)-1)),(6,.vec 1 1 0 (J3V num (e.drop q) []).length),(0,vTr e),(1,.fn (.func s) false [])]) (fun _ q=>[(1,.vec (J3V num (e.drop q) []).length 1 (vQ (J3V num (e.drop q) [])))]) (fun m q=>m=q/\q<=e.length/\(J3V num (e.drop q) []).length<=e.length-q/\∀v∈J3V num (e.drop q) [],v<=e.length-q) e.length e.length ⟨rfl,Qd _,by rw[Kq];exact Qh _,by rw[Kq];intro v h;simp[J3V] at h⟩ rfl (fun _=>rfl) ?_ ?_
 . rw[Kq];exact J0a (fun _ _=>[(1,none)])
 rintro m q ⟨T,R,E,l⟩;cases q with
 | zero =>
   rw[Zb] at d;rw[List.drop_zero,d] at *
   repeat' ((conv=>whnf);first|(refine Ix.mk 0 rfl (by simp) ?_)|(refine Br.ff ?_)|(refine Ltn.mk (by simp) ?_))
   all_goals conv=>whnf
   exact VLe.tup ⟨vR_,vR_,tI⟩
 | succ k =>
   obtain⟨O,N⟩:=f k (by omega);have a:=g k (by omega);have D:=Q6U (gF e k).1;have M:=Q2O (gF e k).1;rw[J44] at a;generalize J3V num (e.drop (k+1)) []=S at *;obtain⟨r,F⟩:∃r,r=S.length-(arI (gF e k).1).toNat:=⟨_,rfl⟩;rw[<- F] at a
   repeat' ((conv=>whnf);first|(refine Ix.w k ?_)|(refine Br.dec ?_ ?_<;>intro _<;>try omega)|(refine Br.nble ?_ ?_<;>intro _<;>try omega)|(refine Ar.q ?_)|(refine Bd.int (by omega) (by omega) ?_)|(refine D.go ?_))
   all_goals conv=>whnf
   refine J0s J0c [] [] J1k [1] (fun j:Nat=>[(37,.int .i64 ((j:Nat):Int)),(36,.int .i64 ((S.length-r:Nat):Int)),(35,.vec 1 1 r (S.length-r)),(9,.int .i64 ((((S.drop r).take j).foldl max 0:Nat):Int)),(8,.int .i64 ((r:Nat):Int)),(7,.int .i64 ((k:Nat):Int)),(6,.vec 1 1 0 S.length),(0,vTr e),(1,.fn (.func s) false [])]) (fun _ j=>[(1,.vec S.length 1 (vQ S))]) (fun m j=>m=S.length-r-j/\j<=S.length-r) (S.length-r) 0 ⟨rfl,Qh _⟩ rfl (fun _=>rfl) ?_ ?_
   . exact J0a X8K
   rintro Q j ⟨J,u⟩;by_cases y:j<S.length-r
   . have G:((S.drop r).take (j+1)).foldl max 0=max (((S.drop r).take j).foldl max 0) (gQ S (r+j)):=by
      have P:j<(S.drop r).length:=by rw[Yj];exact y
      rw[Xn P,Y6,Yf,List.foldl_nil,List.getElem_drop,Y4n (by omega)]
     repeat' ((conv=>whnf);first|(refine Ix.w j ?_)|(refine Br.dec ?_ ?_<;>intro _<;>try omega)|(refine Ar.q ?_)|(refine Sv.mk _ rfl ?_)|(refine Ltn.q ?_))
     all_goals conv=>whnf
     refine⟨S.length-r-(j+1),j+1,by omega,⟨rfl,by omega⟩,?_⟩;exact J0a X8K
   obtain rfl:j=S.length-r:=by omega
   have z:((S.drop r).take (S.length-r)).foldl max 0=(S.drop r).foldl max 0:=by rw[Qz (by simp)]
   rw[z];have L:(S.drop r).foldl max 0<=e.length-(k+1):=X6U _ _ 0 (Qh _) fun v h=>l v (Vv h);generalize (S.drop r).foldl max 0=gr at *;have B:=n (gF e k).1 gr (by omega);have H:=I (gF e k).1 gr
   repeat' ((conv=>whnf);first|(refine Ix.w k ?_)|(refine Br.dec ?_ ?_<;>intro _<;>try omega)|(refine Br.nbeq ?_ ?_<;>intro _<;>try omega)|(refine Br.nble ?_ ?_<;>intro _<;>try omega)|(refine Ar.q ?_)|(refine Bd.q ?_)|(refine Len.q ?_)|(refine Chk.mk C ?_)|(refine B.go ?_))
   all_goals conv=>whnf
   all_goals
    have b:(S.take r++[num (gF e k).1 gr]).length=r+1:=by simp;omega
    refine⟨k,k,by omega,⟨rfl,by omega,by rw[a,b];omega,fun v h=>?_⟩,?_⟩
    . rw[a] at h;rcases Qr.1 h with q|q
      . have:=l v (Ys q);omega
      . have:v=num (gF e k).1 gr:=by simpa using q
        omega
    . refine J0d (fun env _=>[(1,Q2X env 6)]) ?_ ?_ rfl
      . repeat' (first|exact J0b.vec rfl rfl (by rw[a,b];omega)|exact tI|(refine J0b.fn ?_)|(refine⟨⟨_,rfl,?_⟩,?_⟩)|exact J0b.kf rfl)
      . repeat' (first|exact⟨by rw[a,b];omega,rfl,fun i j o u=>by rw[a] at o ⊢;exact X1w S r _ o u (by omega) (by omega) (by omega)⟩|exact⟨by rw[a,b];omega,rfl,fun i j o u=>by rw[a] at o ⊢;exact X8W S r _ o u (by omega) (by omega)⟩|exact tI|(refine⟨⟨_,rfl,?_⟩,?_⟩))
theorem X2h (op:Int) (gr:Nat) (h:gr<=1000000):Ret Tryz.prog 224 [.int .i64 op,.int .i64 gr] (.int .i64 ((gr+1:Nat):Int)):=by
 refine rf Y4X ?_;exact Wq
theorem Q0u (op:Int):Ret Tryz.prog 226 [.int .i64 op] (.bool (J23 op)):=by
 refine rf Y4V ?_
 repeat' ((conv=>whnf);refine Br.dec ?_ ?_<;>intro _<;>try omega)
 all_goals conv=>whnf
 all_goals exact VLe.bool (by symm;rw[J23];first|(rw[Qa];omega)|(rw[Qo];omega))
theorem X2f (op:Int):Ret Tryz.prog 227 [.int .i64 op] (.bool (decide (11<=op/\op<=17))):=by
 refine rf Y4U ?_
 repeat' ((conv=>whnf);refine Br.dec ?_ ?_<;>intro _<;>try omega)
 all_goals conv=>whnf
 all_goals exact VLe.bool (by symm;first|(rw[Qa];omega)|(rw[Qo];omega))
theorem X2d (op:Int) (gr:Nat) (h:gr<=1000000):Ret Tryz.prog 225 [.int .i64 op,.int .i64 gr] (.int .i64 ((if J23 op then gr+1 else gr:Nat):Int)):=by
 have a:=Q0u op;refine rf Y4W ?_;cases e:J23 op with
 | true =>
   rw[e] at a;exact Wq
 | false =>
   rw[e] at a;exact Wq
theorem Q8J (t:Rt) (a:t.ok) (b:t.enc.length<=100000):Ret Tryz.prog 190 [vTr t.enc] (.int .i64 t.dep):=by
 have c:=J9u 224 (by kernel_rfl) (fun _ k=>k+1) (fun _ _=>Qd _) X2h t a b;rw[J47] at c;refine rf Y5n ?_;exact Wq
theorem X2e (t:Rt) (a:t.ok) (b:t.enc.length<=100000):Ret Tryz.prog 191 [vTr t.enc] (.int .i64 t.nst):=by
 have c:=J9u 225 (by kernel_rfl) (fun op k=>if J23 op then k+1 else k) (fun op k=>by split<;>omega) X2d t a b;rw[J46 t a] at c;refine rf Y5m ?_;exact Wq
theorem J5d (e:Lt2) (c:Int) (h:exB c e=true):Ret Tryz.prog 154 [vTr e,.int .i64 c] (.bool true):=by
 obtain⟨t,d,rfl,o,hd,l,k⟩:=J6y h;have g:=t.enc_pos;have b:=X0b t.enc 0 (by omega) g;have a:=X4j d;rw[Q6x,Qa] at a;rw[a.2] at b;have r:=Q8J t d (by omega);have q:=X2e t d (by omega);generalize t.enc=e at *;refine rf Y5P ?_;refine Vq ?_;refine J0h J0c [0,1,17,18] (fun i:Nat=>[(19,.int .i64 i)]) (fun m i=>m=e.length-i/\i<=e.length) e.length 0 ⟨rfl,Qh _⟩ ?_ ?_
 . exact J0a J1A
 rintro m i ⟨n,p⟩;by_cases f:i<e.length
 . have j:=Q1U (gF e i) c;have:=Qy.1 k _ (J4C f);rw[this] at j;refine Vq ?_;refine⟨e.length-(i+1),i+1,by omega,⟨rfl,by omega⟩,?_⟩;exact J0a J1A
 . exact Wq
abbrev kiV (kinds:List Int):V:=.fz kinds.length 1 false (vI kinds)
theorem Q8c (x:Int×Int) (kinds:List Int) (a:Bool) (b:1<=x.1/\x.1<=17) (c:x.1=5\/x.1=12->0<=x.2/\x.2<kinds.length):Ret Tryz.prog 253 [.agg [.int .i64 x.1,.int .i64 x.2],kiV kinds,.bool a] (.int .i64 (J84 kinds a x)):=by
 refine rf Y4B ?_;unfold J84;cases a
 all_goals
  repeat' ((conv=>whnf);first|(refine Ix.w x.2.toNat ?_)|(refine Br.dec ?_ ?_<;>intro _<;>try omega))
  all_goals conv=>whnf
  all_goals refine VLe.int ?_
  all_goals simp only[Vt,Ka,Vc,Xy,Qk]
  all_goals repeat' split
  all_goals first|rfl|omega
theorem Q6a (op a:Int) (b:18<=op/\op<=29):Ret Tryz.prog 254 [.int .i64 op,.int .i64 a] (.int .i64 (Q3c op a)):=by
 refine rf Y4A ?_;unfold Q3c
 repeat' ((conv=>whnf);first|(refine Br.dec ?_ ?_<;>intro _<;>try omega)|(refine Br.bne ?_ ?_<;>intro _<;>try omega))
 all_goals conv=>whnf
 all_goals refine VLe.int ?_
 all_goals repeat' split
 all_goals first|rfl|omega
theorem Q6l (op a b:Int) (c:30<=op/\op<=42):Ret Tryz.prog 255 [.int .i64 op,.int .i64 a,.int .i64 b] (.int .i64 (Q3U op a b)):=by
 refine rf Y4z ?_;unfold Q3U
 repeat' ((conv=>whnf);first|(refine Br.dec ?_ ?_<;>intro _<;>try omega)|(refine Br.bne ?_ ?_<;>intro _<;>try omega))
 all_goals conv=>whnf
 all_goals refine VLe.int ?_
 all_goals repeat' split
 all_goals first|rfl|omega
theorem X02 {a:Int} {x:Int×Int} (h:Q00 a x=true) (b:x.1=5\/x.1=12):0<=x.2/\x.2<a:=by
 rw[Q00,Qb (by omega),Qe b,Qa] at h;exact h
theorem J30 (e:Lt2) (he:e.length<=100000) (kinds:List Int):∀(t:Rt) (f:Bool) (k:Nat) (post:Lt2),t.ok->t.enc.all (Q00 kinds.length)=true->e.drop k=t.enc++post ->
 Ret Tryz.prog 233 [vTr e,.int .i64 k,kiV kinds,.bool f] (.int .i64 (t.kd kinds f))
 | .leaf x,f,k,post,m,i,hd=>by
   have m:arI x.1=0:=m;obtain⟨hk,l,_⟩:=J4t (r:=[]) hd;have v:=(J3q m).1 rfl;simp only[Rt.enc,X8,Vj,Z6] at i;have j:=Q8c x kinds f v (fun q=>X02 i q);have n:=J3K x.1;rw[m] at n;rw[<- l] at j n;simp only[Rt.kd];rw[<- l];refine rf X2X ?_;exact Wq
 | .un x a,f,k,post,m,i,hd=>by
   obtain⟨d,h⟩:=m;obtain⟨hk,l,g⟩:=J4t hd;have v:=(J3q d).2.1 rfl;simp only[Rt.enc,X8,Qg] at i;have n:=J3K x.1;rw[d] at n;have w:=Q0p x.1;have j:=J30 e he kinds a (f || J23 x.1) (k+1) post h i.2 g;have z:=Q6a x.1 (a.kd kinds (f || J23 x.1)) v;rw[show((k+1:Nat):Int)=(k:Int)+1 by omega] at j;rw[<- l] at n;simp only[Rt.kd];generalize a.kd kinds (f || J23 x.1)=ka at *;rw[<- l] at j w z ⊢;refine rf X2X ?_;cases f with
   | true =>
     rw[Ki] at j;exact Wq
   | false =>
     rw[Ju] at j;cases y:J23 (gF e k).1 with
     | true =>
       rw[y] at j w;exact Wq
     | false =>
       rw[y] at j w;exact Wq
 | .bin x a b,f,k,post,m,i,hd=>by
   have u:=m;obtain⟨d,h,o⟩:=m;have p:=(J6M u hd).2.2;obtain⟨hk,l,g⟩:=J4t hd;rw[Q9] at g;obtain⟨A,s,_⟩:=J6M h g;have v:=(J3q d).2.2.1 rfl;simp only[Rt.enc,X8,Z2,Qg] at i;have n:=J3K x.1;rw[d] at n;have j:=J30 e he kinds a f (k+1) _ h i.2.1 g;have w:=J30 e he kinds b f (k+1+a.enc.length) _ o i.2.2 s;have z:=Q6l x.1 (a.kd kinds f) (b.kd kinds f) v;have B:=J5B e k he hk p (by rw[l,d];omega);rw[show((k+1:Nat):Int)=(k:Int)+1 by omega] at j A;rw[A] at B;simp only[Rt.kd];generalize a.kd kinds f=ka at *;generalize b.kd kinds f=kb at *;generalize ((k+1+a.enc.length:Nat):Int)=kk at *;rw[<- l] at n z ⊢;refine rf X2X ?_;exact Wq
 | .tri x c a b,f,k,post,m,i,hd=>by
   have u:=m;obtain⟨d,h,o,C⟩:=m;have p:=(J6M u hd).2.2;obtain⟨hk,l,g⟩:=J4t hd;rw[Q9,Q9] at g;obtain⟨A,s,_⟩:=J6M h g;obtain⟨e2,D,_⟩:=J6M o s;have v:=(J3q d).2.2.2 rfl;simp only[Rt.enc,X8,Z2,Qg] at i;have n:=J3K x.1;rw[d] at n;have j:=J30 e he kinds c f (k+1) _ h i.2.1 g;have w:=J30 e he kinds a f (k+1+c.enc.length) _ o i.2.2.1 s;have z:=J30 e he kinds b f (k+1+c.enc.length+a.enc.length) _ C i.2.2.2 D;have B:=J5B e k he hk p (by rw[l,d];omega);have E:=Q1H e k he hk p (by rw[l,d];omega);rw[show((k+1:Nat):Int)=(k:Int)+1 by omega] at j A;rw[A] at B E;rw[e2] at E;simp only[Rt.kd];generalize c.kd kinds f=kc at *;generalize a.kd kinds f=ka at *;generalize b.kd kinds f=kb at *;generalize ((k+1+c.enc.length+a.enc.length:Nat):Int)=kk2 at *;generalize ((k+1+c.enc.length:Nat):Int)=kk at *;rw[<- l] at n;refine rf X2X ?_;unfold Q5Y
   repeat' ((conv=>whnf);first|(refine Br.ff ?_)|(refine Br.bne ?_ ?_<;>intro _<;>try omega)|(refine Ar.q ?_)|(refine Ix.q ?_)|(refine j.go ?_)|(refine n.go ?_)|(refine w.go ?_)|(refine z.go ?_)|(refine B.go ?_)|(refine E.go ?_))
   all_goals conv=>whnf
   all_goals exact VLe.int (by first|(rw[Qb (by omega)])|(rw[Qe (by omega)]))
theorem J36 (k:Int):Ret Tryz.prog 245 [.bool true,.int .i64 k] (.int .i64 k):=by
 refine rf Y07 ?_
 all_goals conv=>whnf
 exact vR_
theorem J37 (k:Int):Ret Tryz.prog 245 [.bool false,.int .i64 k] (.int .i64 0):=by
 refine rf Y07 ?_
 all_goals conv=>whnf
 exact vR_
def typV (e:Lt2) (kinds:List Int):V:=.agg [vTr e,kiV kinds]
theorem Q8D (e:Lt2) (x:Int×Int) (kinds:List Int) (a:1<=x.1/\x.1<=17) (b:x.1=5\/x.1=12->0<=x.2/\x.2<kinds.length):Ret Tryz.prog 228 [typV e kinds,.agg [.int .i64 x.1,.int .i64 x.2]] (.int .i64 (J84 kinds true x)):=by
 refine rf Y4T ?_;unfold J84
 repeat' ((conv=>whnf);first|(refine Ix.w x.2.toNat ?_)|(refine Br.dec ?_ ?_<;>intro _<;>try omega))
 all_goals conv=>whnf
 all_goals refine VLe.int ?_
 all_goals simp only[Ka,Vc,Xy,Qk]
 all_goals repeat' split
 all_goals first|rfl|omega
theorem Q3t (op a:Int) (b:18<=op/\op<=29):Ret Tryz.prog 229 [.int .i64 op,.agg [.int .i64 a,.int .i64 0,.int .i64 0]] (.int .i64 (Q3c op a)):=by
 have t1:=J36 1;have t2:=J36 2;have t3:=J36 3;have f1:=J37 1;have f2:=J37 2;have f3:=J37 3;refine rf X7u ?_;unfold Q3c
 repeat' ((conv=>whnf);first|(refine Br.dec ?_ ?_<;>intro _<;>try omega)|(refine Ix.mk 0 rfl (by omega) ?_)|(refine Ix.mk 1 rfl (by omega) ?_)|(refine Ix.int (by omega) (by omega) ?_)|(refine t1.go ?_)|(refine t2.go ?_)|(refine t3.go ?_)|(refine f1.go ?_)|(refine f2.go ?_)|(refine f3.go ?_)|(refine And.intro rfl ?_))
 all_goals conv=>whnf
 all_goals refine VLe.int ?_
 all_goals repeat' split
 all_goals first|rfl|omega
theorem Q3s (op a b:Int) (c:30<=op/\op<=42):Ret Tryz.prog 229 [.int .i64 op,.agg [.int .i64 a,.int .i64 b,.int .i64 0]] (.int .i64 (Q3U op a b)):=by
 have t1:=J36 1;have t2:=J36 2;have t3:=J36 3;have f1:=J37 1;have f2:=J37 2;have f3:=J37 3;refine rf X7u ?_;unfold Q3U
 repeat' ((conv=>whnf);first|(refine Br.dec ?_ ?_<;>intro _<;>try omega)|(refine Br.bne ?_ ?_<;>intro _<;>try omega)|(refine Ix.mk 0 rfl (by omega) ?_)|(refine Ix.mk 1 rfl (by omega) ?_)|(refine Ix.int (by omega) (by omega) ?_)|(refine t1.go ?_)|(refine t2.go ?_)|(refine f1.go ?_)|(refine f2.go ?_)|(refine And.intro rfl ?_))
 all_goals conv=>whnf
 all_goals refine VLe.int ?_
 all_goals repeat' split
 all_goals first|rfl|omega
theorem Q3r (op c a b:Int) (d:op=43):Ret Tryz.prog 229 [.int .i64 op,.agg [.int .i64 c,.int .i64 a,.int .i64 b]] (.int .i64 (Q5Y c a b)):=by
 have e:=J36 a;have f:=J37 a;subst d;refine rf X7u ?_;unfold Q5Y
 repeat' ((conv=>whnf);first|(refine Br.ff ?_)|(refine Br.dec ?_ ?_<;>intro _<;>try omega)|(refine Ix.mk 0 rfl (by omega) ?_)|(refine Ix.mk 1 rfl (by omega) ?_)|(refine Ix.int (by omega) (by omega) ?_)|(refine e.go ?_)|(refine f.go ?_)|(refine And.intro rfl ?_))
 all_goals conv=>whnf
 all_goals refine VLe.int ?_
 all_goals repeat' split
 all_goals first|rfl|omega
theorem J33 (e:Lt2) (he:e.length<=100000) (kinds:List Int):∀(t:Rt) (d:Bool) (k:Nat) (post:Lt2),t.ok->t.enc.all (Q00 kinds.length)=true->e.drop k=t.enc++post ->
 Ret Tryz.prog 192 [typV e kinds,.int .i64 k,.bool d] (.tup [.int .i64 (t.kd kinds d),.int .i64 ((k+t.enc.length:Nat):Int)])
 | .leaf x,d,k,post,o,m,hd=>by
   have o:arI x.1=0:=o;obtain⟨hk,w,_⟩:=J4t (r:=[]) hd;have v:=(J3q o).1 rfl;simp only[Rt.enc,X8,Vj,Z6] at m;have g:=Q8D e x kinds v (fun q=>X02 m q);have j:=Q6U x.1;rw[o] at j;have i:=X2f x.1;simp only[Rt.kd,Rt.enc,List.length_cons,List.length_nil];have B:J84 kinds d x=if d=false/\11<=x.1 then 0 else J84 kinds true x:=by
    unfold J84;simp only[Ka,Vc,Xy]
   rw[B];rw[<- w] at g j i v ⊢;generalize J84 kinds true (gF e k)=lk at *;refine rf X2Y ?_;by_cases D:11<=(gF e k).1
   . rw[Qn (by omega)] at i;cases d with
     | true =>
       rw[Qb (by simp)];refine Vq ?_;exact VLe.tup ⟨vR_,VLe.int (by omega),tI⟩
     | false =>
       rw[Qe ⟨rfl,D⟩];refine Vq ?_;exact VLe.tup ⟨vR_,VLe.int (by omega),tI⟩
   . rw[Qm (by omega)] at i;rw[Qb (fun q=>D q.2)];refine Vq ?_
     all_goals exact VLe.tup ⟨vR_,VLe.int (by omega),tI⟩
 | .un x a,d,k,post,o,m,hd=>by
   obtain⟨h,l⟩:=o;obtain⟨hk,w,f⟩:=J4t hd;have v:=(J3q h).2.1 rfl;simp only[Rt.enc,X8,Qg] at m;have j:=Q6U x.1;rw[h] at j;have i:=Q0u x.1;have g:=J33 e he kinds a (d || J23 x.1) (k+1) post l m.2 f;have p:=Q3t x.1 (a.kd kinds (d || J23 x.1)) v;rw[show((k+1:Nat):Int)=(k:Int)+1 by omega] at g;simp only[Rt.kd,Rt.enc,List.length_cons];have y:((k+1+a.enc.length:Nat):Int)=((k+(a.enc.length+1):Nat):Int):=by omega
   rw[y] at g;generalize ((k+(a.enc.length+1):Nat):Int)=nx at *;generalize a.kd kinds (d || J23 x.1)=ka at *;rw[<- w] at g j i p ⊢;refine rf X2Y ?_;cases d with
   | true =>
     rw[Ki] at g
     repeat' ((conv=>whnf);first|(refine J1C J0c 4 ?_)|(refine Br.tt ?_)|(refine Br.ff ?_)|(refine Ar.q ?_)|(refine Ix.q ?_)|(refine Ix.mk 0 rfl (by omega) ?_)|(refine g.go ?_)|(refine j.go ?_)|(refine p.go ?_))
     all_goals conv=>whnf
     all_goals exact VLe.tup ⟨vR_,vR_,tI⟩
   | false =>
     rw[Ju] at g;cases n:J23 (gF e k).1 with
     | true =>
       rw[n] at g i
       repeat' ((conv=>whnf);first|(refine J1C J0c 4 ?_)|(refine Br.tt ?_)|(refine Br.ff ?_)|(refine Ar.q ?_)|(refine Ix.q ?_)|(refine Ix.mk 0 rfl (by omega) ?_)|(refine g.go ?_)|(refine j.go ?_)|(refine i.go ?_)|(refine p.go ?_))
       all_goals conv=>whnf
       all_goals exact VLe.tup ⟨vR_,vR_,tI⟩
     | false =>
       rw[n] at g i
       repeat' ((conv=>whnf);first|(refine J1C J0c 4 ?_)|(refine Br.tt ?_)|(refine Br.ff ?_)|(refine Ar.q ?_)|(refine Ix.q ?_)|(refine Ix.mk 0 rfl (by omega) ?_)|(refine g.go ?_)|(refine j.go ?_)|(refine i.go ?_)|(refine p.go ?_))
       all_goals conv=>whnf
       all_goals exact VLe.tup ⟨vR_,vR_,tI⟩
 | .bin x a b,d,k,post,o,m,hd=>by
   obtain⟨h,l,s⟩:=o;obtain⟨hk,w,f⟩:=J4t hd;rw[Q9] at f;obtain⟨_,u,_⟩:=J6M l f;have v:=(J3q h).2.2.1 rfl;simp only[Rt.enc,X8,Z2,Qg] at m;have j:=Q6U x.1;rw[h] at j;have i:=Q0u x.1;have n:J23 x.1=false:=by rw[J23,Qo];omega
   rw[n] at i;have g:=J33 e he kinds a d (k+1) _ l m.2.1 f;have z:=J33 e he kinds b d (k+1+a.enc.length) _ s m.2.2 u;have p:=Q3s x.1 (a.kd kinds d) (b.kd kinds d) v;rw[show((k+1:Nat):Int)=(k:Int)+1 by omega] at g;simp only[Rt.kd,Rt.enc,List.length_cons,Ql];have y:((k+1+a.enc.length+b.enc.length:Nat):Int)=((k+(a.enc.length+b.enc.length+1):Nat):Int):=by omega
   rw[y] at z;generalize ((k+(a.enc.length+b.enc.length+1):Nat):Int)=nx at *;generalize ((k+1+a.enc.length:Nat):Int)=n1 at *;generalize a.kd kinds d=ka at *;generalize b.kd kinds d=kb at *;rw[<- w] at j i p ⊢;refine rf X2Y ?_;cases d
   all_goals
    repeat' ((conv=>whnf);first|(refine J1C J0c 4 ?_)|(refine Br.tt ?_)|(refine Br.ff ?_)|(refine Ar.q ?_)|(refine Ix.q ?_)|(refine Ix.mk 0 rfl (by omega) ?_)|(refine Ix.mk 1 rfl (by omega) ?_)|(refine g.go ?_)|(refine j.go ?_)|(refine i.go ?_)|(refine p.go ?_)|(refine z.go ?_))
    all_goals conv=>whnf
    all_goals exact VLe.tup ⟨vR_,vR_,tI⟩
 | .tri x c a b,d,k,post,o,m,hd=>by
   obtain⟨h,l,s,A⟩:=o;obtain⟨hk,w,f⟩:=J4t hd;rw[Q9,Q9] at f;obtain⟨_,u,_⟩:=J6M l f;obtain⟨_,C,_⟩:=J6M s u;have v:=(J3q h).2.2.2 rfl;simp only[Rt.enc,X8,Z2,Qg] at m;have j:=Q6U x.1;rw[h] at j;have i:=Q0u x.1;have n:J23 x.1=false:=by rw[J23,Qo];omega
   rw[n] at i;have g:=J33 e he kinds c d (k+1) _ l m.2.1 f;have z:=J33 e he kinds a d (k+1+c.enc.length) _ s m.2.2.1 u;have E:=J33 e he kinds b d (k+1+c.enc.length+a.enc.length) _ A m.2.2.2 C;have p:=Q3r x.1 (c.kd kinds d) (a.kd kinds d) (b.kd kinds d) v;rw[show((k+1:Nat):Int)=(k:Int)+1 by omega] at g;simp only[Rt.kd,Rt.enc,List.length_cons,Ql];have y:((k+1+c.enc.length+a.enc.length+b.enc.length:Nat):Int)=((k+(c.enc.length+(a.enc.length+b.enc.length)+1):Nat):Int):=by omega
   rw[y] at E;generalize ((k+(c.enc.length+(a.enc.length+b.enc.length)+1):Nat):Int)=nx at *;generalize ((k+1+c.enc.length+a.enc.length:Nat):Int)=n2 at *;generalize ((k+1+c.enc.length:Nat):Int)=n1 at *;generalize c.kd kinds d=kc at *;generalize a.kd kinds d=ka at *;generalize b.kd kinds d=kb at *;rw[<- w] at j i p;refine rf X2Y ?_;cases d
   all_goals
    repeat' ((conv=>whnf);first|(refine J1C J0c 4 ?_)|(refine Br.tt ?_)|(refine Br.ff ?_)|(refine Ar.q ?_)|(refine Ix.q ?_)|(refine Ix.mk 0 rfl (by omega) ?_)|(refine Ix.mk 1 rfl (by omega) ?_)|(refine Ix.int (by omega) (by omega) ?_)|(refine g.go ?_)|(refine j.go ?_)|(refine i.go ?_)|(refine p.go ?_)|(refine z.go ?_)|(refine E.go ?_))
    all_goals conv=>whnf
    all_goals exact VLe.tup ⟨vR_,vR_,tI⟩
theorem J6J (k:Int):Ret Tryz.prog 152 [.int .i64 k] (.bool (decide (k=1\/k=2\/k=3))):=by
 refine rf Y5R ?_
 repeat' ((conv=>whnf);refine Br.dec ?_ ?_<;>intro _<;>try omega)
 all_goals conv=>whnf
 all_goals exact VLe.bool (by symm;first|(rw[Qa];omega)|(rw[Qo];omega))
theorem X4q (e:Lt2) (kinds:List Int) (hk:kinds.length<=6) (hp:∀a∈kinds,a=1\/a=2\/a=3) (c:exB kinds.length e=true) (h:kdE kinds e≠0):Ret Tryz.prog 155 [vTr e,kiV kinds,.bool false] (.tup [.int .i64 (kdE kinds e),.int .i64 0]):=by
 have j:=J5d e kinds.length c;obtain⟨t,d,rfl,o,hd,l,f⟩:=J6y c;have k:=J33 t.enc (by omega) kinds t false 0 [] d f (by simp);rw[kdE,J7b d] at h ⊢;generalize t.kd kinds false=kd at *;generalize ((0+t.enc.length:Nat):Int)=nx at *;generalize t.enc=e at *;refine rf Y5O ?_;refine Vq ?_;refine J0h J0c [0,1,2,16,17] (fun i:Nat=>[(18,.int .i64 i)]) (fun m i=>m=kinds.length-i/\i<=kinds.length) kinds.length 0 ⟨rfl,Qh _⟩ ?_ ?_
 . exact J0a J1A
 rintro m i ⟨n,p⟩;by_cases b:i<kinds.length
 . have g:=J6J (gI kinds i);rw[Qn (hp _ (J5T b))] at g;refine Vq ?_;refine⟨kinds.length-(i+1),i+1,by omega,⟨rfl,by omega⟩,?_⟩;exact J0a J1A
 . exact Wq
def Y37:List ByteArray:=[ByteArray.mk (Array.mk [112,114,111,103,114,97,109]),ByteArray.mk (Array.mk [118,97,114]),ByteArray.mk (Array.mk [114,117,108,101]),ByteArray.mk (Array.mk [98,111,111,108]),ByteArray.mk (Array.mk [112,111,114,116]),ByteArray.mk (Array.mk [116,114,117,101]),ByteArray.mk (Array.mk [102,97,108,115,101]),ByteArray.mk (Array.mk [110,111,110,101]),ByteArray.mk (Array.mk [110]),ByteArray.mk (Array.mk [105,100,115]),ByteArray.mk (Array.mk [105,100]),ByteArray.mk (Array.mk [100,101,103]),ByteArray.mk (Array.mk [114,111,111,116]),ByteArray.mk (Array.mk [113]),ByteArray.mk (Array.mk [119,101,105,103,104,116]),ByteArray.mk (Array.mk [98,97,99,107]),ByteArray.mk (Array.mk [97,108,108]),ByteArray.mk (Array.mk [115,111,109,101]),ByteArray.mk (Array.mk [99,111,117,110,116]),ByteArray.mk (Array.mk [102,105,114,115,116]),ByteArray.mk (Array.mk [109,105,110]),ByteArray.mk (Array.mk [109,97,120]),ByteArray.mk (Array.mk [115,117,109]),ByteArray.mk (Array.mk [109,101,120]),ByteArray.mk (Array.mk [115,101,99,111,110,100]),ByteArray.mk (Array.mk [104,101,97,100])]
def X18 (s:ByteArray):Bool:=Y37.any fun w=>s == w
def J2m (s:ByteArray):Bool:=decide (1<=s.size/\s.size<=24)&&Q9t (byB s 0)&&(List.range s.size).all (fun i=>Q6G (byB s i))&&!X18 s
theorem J9p (b:Nat) (a:b<256):Ret Tryz.prog 246 [.int .u8 b] (.bool (Q9t b)):=by
 refine rf Y4I ?_
 repeat' ((conv=>whnf);refine Br.dec ?_ ?_<;>intro _<;>try omega)
 all_goals conv=>whnf
 all_goals exact VLe.bool (by symm;simp only[Q9t,Xv,Vx,Qa,Qo];omega)
theorem Q8m (b:Nat) (a:b<256):Ret Tryz.prog 264 [.int .u8 b] (.bool (decide (48<=b/\b<=57))):=by
 refine rf Y4s ?_
 repeat' ((conv=>whnf);refine Br.dec ?_ ?_<;>intro _<;>try omega)
 all_goals conv=>whnf
 all_goals exact VLe.bool (by symm;first|(rw[Qa];omega)|(rw[Qo];omega))
theorem Q8h (b:Nat) (d:b<256):Ret Tryz.prog 247 [.int .u8 b] (.bool (Q6G b)):=by
 have e:=J9p b d;have c:=Q8m b d;refine rf Y4H ?_;rw[Q6G];cases a:Q9t b<;>rw[a] at e
 . by_cases q:48<=b/\b<=57
   . rw[Qn q] at c ⊢;exact Wq
   . rw[Qm q] at c ⊢
     repeat' ((conv=>whnf);first|(refine Br.ff ?_)|(refine Br.dec ?_ ?_<;>intro _<;>try omega)|(refine e.go ?_)|(refine c.go ?_))
     all_goals conv=>whnf
     all_goals exact VLe.bool (by symm;simp only[Ju];first|(rw[Qa];omega)|(rw[Qo];omega))
 . exact Wq
theorem J9v (b:Nat) (a:b<256):Ret Tryz.prog 138 [.int .u8 b] (.bool (Q9t b)):=by
 refine rf Y5V ?_
 repeat' ((conv=>whnf);refine Br.dec ?_ ?_<;>intro _<;>try omega)
 all_goals conv=>whnf
 all_goals exact VLe.bool (by symm;simp only[Q9t,Xv,Vx,Qa,Qo];omega)
theorem Q8I (b:Nat) (a:b<256):Ret Tryz.prog 140 [.int .u8 b] (.bool (decide (48<=b/\b<=57))):=by
 refine rf Y5T ?_
 repeat' ((conv=>whnf);refine Br.dec ?_ ?_<;>intro _<;>try omega)
 all_goals conv=>whnf
 all_goals exact VLe.bool (by symm;first|(rw[Qa];omega)|(rw[Qo];omega))
theorem Q8H (b:Nat) (d:b<256):Ret Tryz.prog 139 [.int .u8 b] (.bool (Q6G b)):=by
 have e:=J9v b d;have c:=Q8I b d;refine rf Y5U ?_;rw[Q6G];cases a:Q9t b<;>rw[a] at e
 . by_cases q:48<=b/\b<=57
   . rw[Qn q] at c ⊢;exact Wq
   . rw[Qm q] at c ⊢
     repeat' ((conv=>whnf);first|(refine Br.ff ?_)|(refine Br.dec ?_ ?_<;>intro _<;>try omega)|(refine e.go ?_)|(refine c.go ?_))
     all_goals conv=>whnf
     all_goals exact VLe.bool (by symm;simp only[Ju];first|(rw[Qa];omega)|(rw[Qo];omega))
 . exact Wq
theorem Q1C (s:ByteArray):Ret Tryz.prog 248 [.str s] (.bool (X18 s)):=by
 refine rf Y4G ?_
 repeat' ((conv=>whnf);first|(refine Br.mk (fun h=>?_) (fun h=>?_)))
 all_goals conv=>whnf
 all_goals refine VLe.bool ?_
 all_goals simp_all only[X18,Y37,Va,List.any_nil,Ki,Jx,Jc]
theorem Q1T (s:ByteArray):Ret Tryz.prog 183 [.str s] (.bool (X18 s)):=by
 refine rf Y5q ?_
 repeat' ((conv=>whnf);first|(refine Br.mk (fun h=>?_) (fun h=>?_)))
 all_goals conv=>whnf
 all_goals refine VLe.bool ?_
 all_goals simp_all only[X18,Y37,Va,List.any_nil,Ki,Jx,Jc]
theorem X3N (s:ByteArray) (i:Nat):byB s i<256:=(s.get! i).toNat_lt
theorem J1H {n:Nat} {p:Nat->Bool} {i:Nat} (h:(List.range i).all p=true) (a:p i=true):(List.range (i+1)).all p=true:=by
 rw[Yd,Z2,h,X8,a];rfl
theorem J13 {n:Nat} {p:Nat->Bool} {i:Nat} (a:i<n) (b:p i=false):(List.range n).all p=false:=by
 cases e:(List.range n).all p with
 | false=>rfl
 | true =>
   have:=Qy.1 e i (Q7.2 a);rw[b] at this;cases this
theorem X65 {b:Nat} (h:Q9t b=true):Q6G b=true:=by rw[Q6G,h];rfl
theorem Q0l (s:ByteArray) (o:s.size<=100000):Ret Tryz.prog 230 [.str s] (.bool (J2m s)):=by
 have d:=Q1C s;refine rf Y4S ?_;by_cases j:1<=s.size/\s.size<=24
 . have h:=J9p (byB s 0) (X3N s 0);cases e:Q9t (byB s 0) with
   | false =>
     rw[e] at h;have c:J2m s=false:=by simp[J2m,e]
     rw[c];exact Wq
   | true =>
     rw[e] at h;refine Vq ?_;refine J0h J0c [0] (fun i:Nat=>[(3,.int .i64 ((i:Nat):Int))]) (fun m i=>m=s.size-i/\i<=s.size/\1<=i/\(List.range i).all (fun i=>Q6G (byB s i))=true) (s.size-1) 1 ⟨rfl,by omega,Qd _,J1H (n:=0) (i:=0) rfl (X65 e)⟩ ?_ ?_
     . exact J0a J1A
     rintro m i ⟨q,r,l,b⟩;by_cases g:i<s.size
     . have f:=Q8h (byB s i) (X3N s i);cases a:Q6G (byB s i) with
       | true =>
         rw[a] at f;refine Vq ?_;refine⟨s.size-(i+1),i+1,by omega,⟨rfl,by omega,by omega,J1H (n:=0) b a⟩,?_⟩;exact J0a J1A
       | false =>
         rw[a] at f;have c:J2m s=false:=by simp only[J2m,J13 (p:=fun i=>Q6G (byB s i)) g a,Yb,Zk]
         rw[c];exact Wq
     . obtain rfl:i=s.size:=by omega
       have c:J2m s=!X18 s:=by simp only[J2m,Qn j,e,b,Zm]
       rw[c];cases k:X18 s
       all_goals
        rw[k] at d;exact Wq
 . have c:J2m s=false:=by simp only[J2m,Qm j,Zk]
   rw[c];exact Wq
theorem Q0s (s:ByteArray) (o:s.size<=100000):Ret Tryz.prog 146 [.str s] (.bool (J2m s)):=by
 have d:=Q1T s;refine rf Y5S ?_;by_cases j:1<=s.size/\s.size<=24
 . have h:=J9v (byB s 0) (X3N s 0);cases f:Q9t (byB s 0) with
   | false =>
     rw[f] at h;have c:J2m s=false:=by simp[J2m,f]
     rw[c];exact Wq
   | true =>
     rw[f] at h;refine Vq ?_;refine J0h J0c [0,19] (fun i:Nat=>[(20,.int .i64 ((i:Nat):Int))]) (fun m i=>m=s.size-i/\i<=s.size/\0<=i/\(List.range i).all (fun i=>Q6G (byB s i))=true) (s.size-0) 0 ⟨rfl,by omega,Qd _,rfl⟩ ?_ ?_
     . exact J0a J1A
     rintro m i ⟨q,r,l,b⟩;by_cases g:i<s.size
     . have e:=Q8H (byB s i) (X3N s i);cases a:Q6G (byB s i) with
       | true =>
         rw[a] at e;refine Vq ?_;refine⟨s.size-(i+1),i+1,by omega,⟨rfl,by omega,by omega,J1H (n:=0) b a⟩,?_⟩;exact J0a J1A
       | false =>
         rw[a] at e;have c:J2m s=false:=by simp only[J2m,J13 (p:=fun i=>Q6G (byB s i)) g a,Yb,Zk]
         rw[c];exact Wq
     . obtain rfl:i=s.size:=by omega
       have c:J2m s=!X18 s:=by simp only[J2m,Qn j,f,b,Zm]
       rw[c];cases k:X18 s
       all_goals
        rw[k] at d;exact Wq
 . have c:J2m s=false:=by simp only[J2m,Qm j,Zk]
   rw[c];exact Wq
end Go.Proofs.YtcbnimaicgegfaaGreatDoor
