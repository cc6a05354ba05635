import Derived.Test.YtcbnimaicgegfaaGreatDoorDN4
set_option linter.all false
namespace Go.Proofs.YtcbnimaicgegfaaGreatDoor
open Go.Eng
set_option maxRecDepth 100000
set_option maxHeartbeats 16000000
def dk (k:Int):Bool:=decide (1<=k/\k<=4)
theorem J5W (k:Int):Ret Tryz.prog 21 [.int .i64 k] (.bool (dk k)):=by
 refine rf fj21 ?_
 repeat' ((conv=>whnf);refine Br.dec ?_ ?_<;>intro _<;>try omega)
 all_goals conv=>whnf
 all_goals exact VLe.bool (by symm;rw[dk];first|(rw[Qa];omega)|(rw[Qo];omega))
theorem J4f {k:Int}:dk k=true↔1<=k/\k<=4:=by rw[dk,Qa]
def nm:List (Int×Int)->Nat
 | []=>0
 | l::r=>2 ^ l.1.toNat ||| nm r
theorem Q83:∀(r:List (Int×Int)) (l:Int×Int),nm (r++[l])=nm r ||| 2 ^ l.1.toNat
 | [],l=>by simp[nm]
 | x::r,l=>by simp only[Q1,nm,Q83 r l,Nat.or_assoc]
theorem Q4O (u:Nat):∀r:List (Int×Int),(nm r).testBit u=r.any fun l=>decide (l.1.toNat=u)
 | []=>by simp[nm]
 | l::r=>by rw[nm,Z7,Z1,Q4O u r,Va]
theorem Q84:∀(r:List (Int×Int)),(∀l∈r,l.1.toNat<32)->nm r<4294967296
 | [],_=>by simp[nm]
 | l::r,h=>by
   rw[nm];exact Y2 (n:=32) (J2v (h l (by simp))) (Q84 r (fun x a=>h x (by simp[a])))
def X1h (g:G):Nat->Nat->V:=fun i _=>.int .u32 (nm (gR g.ports i))
def Q6y (g:G) (v i:Nat):Nat->Nat->V:=fun u _=>.int .u32 (if u<v then nm (gR g.ports u) else if u=v then nm ((gR g.ports v).take i) else 0)
theorem Q4z {g:G} (hg:g.valid=true) {v:Nat} (a:v<g.ports.length):∀l∈gR g.ports v,l.1.toNat<32:=by
 obtain⟨f1,f2,f3,f4,f5,f6,f7⟩:=J0e hg;intro l b;obtain⟨i,c,rfl⟩:=Q5b b;have:=Q8R (f6 v a) c;omega
theorem Q87 {g:G} {v i u j:Nat} (c:j<1) (d:i<(gR g.ports v).length) (a:Int) (b:a=(nm ((gR g.ports v).take (i+1)):Nat)):VLe (J1l (Q6y g v i) v 0 [.int .u32 a] u j) (Q6y g v (i+1) u j):=by
 obtain rfl:j=0:=by omega
 apply vE_;by_cases e:u=v
 . subst e;simp[J1l,Q6y,b]
 . simp[J1l,Q6y,e]
theorem X2o {g:G} {v i u j:Nat} (b:(gR g.ports v).length<=i):VLe (Q6y g v i u j) (Q6y g (v+1) 0 u j):=by
 apply vE_;simp only[Q6y];by_cases a:u<v
 . rw[Qe a,Qe (by omega)]
 . by_cases e:u=v
   . subst e;rw[Qb a,Qe rfl,Qe (by omega),Qz b]
   . rw[Qb a,Qb e,Qb (by omega)];by_cases e2:u=v+1
     . rw[Qe e2];simp[nm]
     . rw[Qb e2]
theorem Q86 {g:G} {u j:Nat} (a:j<1):VLe ((fun(x:Nat) (j:Nat)=>[V.int .u32 0].getD j default) u j) (Q6y g 0 0 u j):=by
 obtain rfl:j=0:=by omega
 apply vE_;simp[Q6y,nm]
theorem X2p {g:G}:VLe (.fz g.ports.length 1 false (J0m 0 (Q6y g g.ports.length 0))) (.fz g.ports.length 1 false (X1h g)):=by
 refine VLe.fz rfl (fun h=>h) (fun i j a b=>vE_ ?_);simp only[J0m,Q6y,X1h];simp[a]
theorem Ar.sh1I {t:Int} {K:Int->Prop} (b:0<=t) (h:t<32) (a:K ((2 ^ t.toNat:Nat):Int)):Ar .u32 (1*2 ^ (min t.toNat 32)) K:=by
 obtain⟨k,rfl⟩:∃k:Nat,t=k:=⟨t.toNat,by omega⟩;exact Ar.sh1 (by omega) a
theorem Q1V (g:G) (f:g.Small) (hg:g.valid=true):Ret Tryz.prog 79 [g.v] (.fz g.ports.length 1 false (X1h g)):=by
 obtain⟨f1,f2,f3,f4,f5,f6,f7⟩:=J0e hg;refine rf fj79 ?_;refine Vq ?_;refine J0s J0c [3,13,14] [] J1k [1,0] (fun i:Nat=>[(15,.int .i64 i)]) (fun own v=>J2g own 1 (.vec g.ports.length 1 (Q6y g v 0))) (fun m v=>m=g.ports.length-v/\v<=g.ports.length) g.ports.length 0 ⟨rfl,Qh _⟩ rfl (fun _=>rfl) ?_ ?_
 . refine J0F J0r ?_;intro i j b a;exact Q86 a
 rintro m v ⟨n,s⟩;have k:=J8p f.rows v
 repeat' ((conv=>whnf);first|(refine Br.dec ?_ ?_<;>intro _<;>try omega)|(refine Ix.q ?_)|(refine Len.q ?_))
 all_goals conv=>whnf
 . refine J0s J0c [3,4,13,14,15,20,21] [] J1k [1,0] (fun i:Nat=>[(22,.int .i64 i)]) (fun own i=>J2g own 1 (.vec g.ports.length 1 (Q6y g v i))) (fun m i=>m=(gR g.ports v).length-i/\i<=(gR g.ports v).length) (gR g.ports v).length 0 ⟨rfl,Qh _⟩ rfl (fun _=>rfl) ?_ ?_
   . exact J0a J0r
   rintro m i ⟨n,b⟩;have d:=fun h=>Q8R (f6 v (by omega)) (i:=i) h
   repeat' ((conv=>whnf);first|(refine Ar.sh1I (by omega) (by omega) ?_)|(refine Br.dec ?_ ?_<;>intro _<;>try omega)|(refine Ar.q ?_)|(refine Sv.mk _ rfl ?_)|(refine Nn.mk (by omega) ?_)|(refine Ix.q ?_)|(refine Ltn.q ?_))
   all_goals conv=>whnf
   . have c:=Q4z hg (v:=v) (by omega);have r:=Q84 ((gR g.ports v).take i) (fun l o=>c l (Ys o));have p:=J2v (c _ (J4C (show i<(gR g.ports v).length by omega)));refine⟨(gR g.ports v).length-(i+1),i+1,by omega,⟨rfl,by omega⟩,?_⟩;refine J0F J0r ?_;intro i j b a
     (rw[Qk];exact Q87 a (by omega) _ (by simp only[Ja,Xy,Zl];rw[Q2K r p,J18 _ _ (by omega),Q83]))
   . refine⟨g.ports.length-(v+1),v+1,by omega,⟨rfl,by omega⟩,?_⟩;refine J0d J0r ?_ ?_ rfl
     . repeat' (first|exact tI|(refine⟨⟨_,rfl,?_⟩,?_⟩)|exact J0b.kf rfl|exact J0b.q)
     . repeat' (first|exact X2o (by omega)|exact tI|(refine⟨⟨_,rfl,?_⟩,?_⟩)|exact J0b.kf rfl|(refine⟨Qd _,rfl,fun i j b a=>?_⟩)|apply And.intro)
 . have e:v=g.ports.length:=by omega
   subst e;exact X2p
def ind (g:G) (s:Nat):Bool:=decide (∀v,v<g.ports.length->s.testBit v=true->nm (gR g.ports v) &&& s=0)
theorem X94 {g:G} {s v:Nat} (a:v<g.ports.length) (c:s.testBit v=true) (h:nm (gR g.ports v) &&& s≠0):VLe (.bool false) (.bool (ind g s)):=VLe.bool (by rw[ind,Qm (fun b=>h (b v a c))])
theorem Q5c {n i:Nat}:(J1J n).testBit i=decide (i<n):=by rw[J1J,J6R];simp
theorem J4v {s n:Nat} (h:J2D s (J1J n)) {i:Nat} (a:s.testBit i=true):i<n:=by
 have:=h i a;rw[Q5c,Qa] at this;exact this
theorem X0f (g:G) (hg:g.valid=true) (s:Nat) (j:s<4294967296) (hp:J2D s (J1J g.ports.length)):RG 180 [.fz g.ports.length 1 false (X1h g),.int .u32 s] (.bool (ind g s)):=by
 obtain⟨f1,f2,f3,f4,f5,f6,f7⟩:=J0e hg;refine J1e rfl ?_;refine fr Y5r ?_
 repeat' ((conv=>whnf);first|(refine fr Y06 ?_)|(refine J2l ?_)|(refine Chk.q ?_)|(refine fr Q9Z ?_))
 all_goals conv=>whnf
 refine J0s J0c [0,1] [] J9F [4,3,2,1,0,999] (fun b:Nat=>[]) (fun own b=>J2g own 3 (.cells [.int .u32 (upS s b)])) (fun m b=>m=32-b/\b<=32/\∀v,v<b->s.testBit v=true->nm (gR g.ports v) &&& s=0) 32 0 ⟨rfl,by omega,fun v w=>by omega⟩ rfl (fun _=>rfl) ?_ ?_
 . have z:=J5v j;exact J0a J4d
 rintro m b ⟨B,C,a⟩;have i:=J9f s b;by_cases l:upS s b=0
 . refine Vq ?_;exact VLe.bool (by
    rw[ind,Qn];intro v w c;by_cases h:v<b
    . exact a v h c
    . rw[J7F j l v (by omega)] at c;cases c)
 . obtain⟨v1,y,p,v4,t⟩:=J5w j l;have n:=Q7B _ l i;have A:J3C .and .u32 ((upS s b:Nat):Int) ((upS s b:Nat)-1:Int)=((upS s (ctz (upS s b)+1):Nat):Int):=by
    rw[<- t,show((upS s b:Nat):Int)-1=((upS s b-1:Nat):Int) by omega,J0P i (by omega)]
   generalize ctz (upS s b)=v at *;have f:=J4v hp p;have o:=Q84 _ (Q4z hg f);have r:=J0P o j
   repeat' ((conv=>whnf);first|(refine Br.tt ?_)|(refine Br.ff ?_)|(refine Br.bne ?_ ?_<;>intro _<;>try omega)|(refine Ar.u32 (by omega) (by omega) ?_)|(refine Sv.mk _ rfl ?_)|(refine Ix.q ?_)|(refine n.gog ?_)|(refine J1T J0c rfl rfl ?_))
   all_goals conv=>whnf
   . rename_i k;rw[r] at k;exact X94 f p (fun e=>k (by rw[e];rfl))
   . rename_i k;rw[r] at k;refine⟨32-(v+1),v+1,by omega,⟨rfl,by omega,fun u x d=>?_⟩,?_⟩
     . by_cases h:u<b
       . exact a u h d
       . by_cases e:u=v
         . subst e;omega
         . rw[v4 u (by omega) (by omega)] at d;cases d
     . exact J0a J4d
def okC (g:G) (k:Int) (e c:Nat):Bool:=if k=1 then decide (c &&& (c-1)=0) else if k=2 then ind g c else if k=4 then decide (c=e) else true
def Q0E (g:G) (k:Int) (e c:Nat):Bool:=decide (c≠0/\J0Z c e=0)&&okC g k e c
theorem J21 {a b c:Nat} (e:J2D a b) (d:J2D b c):J2D a c:=fun i h=>d i (e i h)
theorem J78 (g:G) (hg:g.valid=true) (k:Int) (e c:Nat) (he:e<4294967296) (a:c<4294967296) (hp:J2D e (J1J g.ports.length)):RG 132 [.fz g.ports.length 1 false (X1h g),.int .i64 k,.int .u32 e,.int .u32 c] (.bool (Q0E g k e c)):=by
 have hd:=J2t a he;refine J1e rfl ?_;refine fr Y5Z ?_;rw[Q0E];by_cases h:c≠0/\J0Z c e=0
 . rw[Qn h,Zm];have b:=J21 ((J05 a).1 h.2) hp;have i:=X0f g hg c a b;have f:=h.1;have d:J3C .andNot .u32 (c:Int) (e:Int)=0:=by rw[hd,h.2];rfl
   have j:J3C .and .u32 (c:Int) ((c:Int)-1)=((c &&& (c-1):Nat):Int):=by
    rw[show(c:Int)-1=((c-1:Nat):Int) by omega,J0P a (by omega)]
   repeat' ((conv=>whnf);first|(refine Sv.mk 0 d.symm ?_)|(refine Sv.mk _ j.symm ?_)|(refine Br.ff ?_)|(refine Br.dec ?_ ?_<;>intro _<;>try omega)|(refine Ar.u32 (by omega) (by omega) ?_)|(refine i.gog ?_))
   all_goals conv=>whnf
   all_goals first
    | (rw[okC,Qe (by assumption)];first|exact VLe.bool (by symm;first|exact Qn (by omega)|exact Qm (by omega)))
    | (rw[okC,Qb (by assumption),Qe (by assumption)];first|exact VLe.bool (Jw (by assumption))|exact VLe.bool (by rw[ind];symm;first|exact Qn (by assumption)|exact Qm (by assumption)))
    | (rw[okC,Qb (by assumption),Qb (by assumption),Qe (by assumption)];exact VLe.bool (by symm;first|exact Qn (by omega)|exact Qm (by omega)))
    | (rw[okC,Qb (by assumption),Qb (by assumption),Qb (by assumption)];exact vR_)
 . rw[Qm h,Zk];by_cases f:c=0
   . subst f;exact Wq
   . have l:J0Z c e≠0:=fun x=>h ⟨f,x⟩
     repeat' ((conv=>whnf);first|(refine Sv.mk _ hd.symm ?_)|(refine Br.dec ?_ ?_<;>intro _<;>try omega)|(refine Br.bne ?_ ?_<;>intro _<;>try omega))
     all_goals conv=>whnf
     all_goals exact vR_
def X0B:Env->List Nat->Env
 | [],_=>[]
 | (t,v)::r,seen=>match J1b t seen with
   | true=>X0B r seen
   | false=>(t,v)::X0B r (t::seen)
def Y1l:Blk->Blk
 | .loop st c env N a C=>.loop st c (X0B env []) N a C
 | b=>b
def X0A:Own->Own
 | []=>[]
 | (k,b)::r=>(k,Y1l b)::X0A r
def gr (g:G) (W:Nat):Nat->Nat
 | 0=>0
 | b+1=>if W.testBit b=true/\nm (gR g.ports b) &&& gr g W b=0 then gr g W b ||| 2 ^ b else gr g W b
theorem Q9M (g:G) (W:Nat):∀b,gr g W b<2 ^ b
 | 0=>by show 0<1;omega
 | b+1=>by
   have h:=Q9M g W b;have a:2 ^ b<2 ^ (b+1):=Je (by omega) (by omega);rw[gr];split
   . exact Y2 (by omega) a
   . omega
theorem X7k (g:G) (W:Nat) {b:Nat} (h:b<=32):gr g W b<4294967296:=Xu (Q9M g W b) (Xs (n:=2) (by omega) h)
theorem J6t {g:G} {W b:Nat}:∀{v:Nat},b<=v->(∀j,b<=j->j<v->W.testBit j=false)->gr g W v=gr g W b
 | 0,h,_=>by rw[show b=0 by omega]
 | v+1,h,hz=>by
   by_cases d:b=v+1
   . rw[d]
   . rw[gr,Qb (by rw[hz v (by omega) (by omega)];simp)];exact J6t (by omega) (fun j a c=>hz j a (by omega))
def wsh (e w:Nat):Nat:=if w &&& e=0 then J28 e else w &&& e
theorem J9a {e w:Nat} (he:e<4294967296):wsh e w<4294967296:=by
 rw[wsh];split
 . exact Q9o e he
 . exact X5 Yv he
theorem Q4f {e w:Nat} (he:e<4294967296):J2D (wsh e w) e:=by
 rw[wsh];split
 . exact J1B he
 . exact Q0t _ _
def rs (g:G) (k:Int) (e w:Nat):Nat:=if k=1 then J28 (wsh e w) else if k=2 then gr g (wsh e w) 32 else if k=4 then e else wsh e w
theorem Q3y (g:G) (hg:g.valid=true) (k:Int) (e w:Nat) (he:e<4294967296) (K:w<4294967296) (hp:J2D e (J1J g.ports.length)):RG 109 [.fz g.ports.length 1 false (X1h g),.int .i64 k,.int .u32 e,.int .u32 w] (.int .u32 (rs g k e w)):=by
 obtain⟨f1,f2,f3,f4,f5,f6,f7⟩:=J0e hg;have E:=J0P K he;have C:J3C .and .u32 (e:Int) (((4294967296-e) % 4294967296:Nat):Int)=(J28 e:Nat):=by rw[J0P he (Z5 _ (by omega)),J5L he]
 have a:=J9a (w:=w) he;have l:=J21 (Q4f (w:=w) he) hp;have i:J3C .and .u32 (wsh e w:Nat) (((4294967296-wsh e w) % 4294967296:Nat):Int)=(J28 (wsh e w):Nat):=by rw[J0P a (Z5 _ (by omega)),J5L a]
 refine J1e rfl ?_;refine fr Y6k ?_;rw[rs];by_cases hz:w &&& e=0
 . have p:wsh e w=J28 e:=by rw[wsh,Qe hz]
   rw[p] at a l i ⊢;by_cases n:k=2
   . have I:¬ k=1:=by omega
     rw[Qb I,Qe n]
     repeat' ((conv=>whnf);first|(refine Sv.mk _ E.symm ?_)|(refine Ar.neg32 he ?_)|(refine Sv.mk _ C.symm ?_)|(refine Br.dec ?_ ?_<;>intro _<;>try omega)|(refine fr Y06 ?_)|(refine J2l ?_)|(refine Chk.q ?_)|(refine fr Q9Z ?_))
     all_goals conv=>whnf
     generalize J28 e=W at *;refine J0s J0c [0,1] [] J3j [3,2,1,0,999] (fun b:Nat=>[]) (fun own b=>X0A (J2g (J2g own 1 (.cells [.int .u32 (gr g W b)])) 2 (.cells [.int .u32 (upS W b)]))) (fun m b=>m=32-b/\b<=32) 32 0 ⟨rfl,by omega⟩ rfl (fun _=>rfl) ?_ ?_
     . have o:=J5v a;refine J0d J0q ?_ ?_ rfl
       . repeat' (first|exact J0b.yld rfl|exact tI|(refine⟨⟨_,rfl,?_⟩,?_⟩)|exact J0b.loc rfl)
       . repeat' (first|exact J0b.int (by rw[o])|(refine J0b.fn ?_)|(refine⟨rfl,rfl,rfl,rfl,rfl,?_⟩)|exact tI|exact⟨rfl,rfl,rfl⟩|(refine⟨⟨_,rfl,?_⟩,?_⟩)|exact J0b.kf rfl|exact J0b.loc rfl|apply And.intro)
     rintro m b ⟨L,D⟩;have c:=J9f W b;by_cases s:upS W b=0
     . refine Vq ?_;have o:gr g W 32=gr g W b:=J6t D (fun j J _=>J7F a s j J);rw[o];exact vR_
     . obtain⟨v1,H,A,v4,F⟩:=J5w a s;have t:=Q7B _ s c;have B:J3C .and .u32 ((upS W b:Nat):Int) ((upS W b:Nat)-1:Int)=((upS W (ctz (upS W b)+1):Nat):Int):=by
        rw[<- F,show((upS W b:Nat):Int)-1=((upS W b-1:Nat):Int) by omega,J0P c (by omega)]
       generalize ctz (upS W b)=v at *;have r:=J4v l A;have x:=Q84 _ (Q4z hg r);have f:=X7k g W D;have z:=J0P x f;have y:=Q2K f (J2v v1);have d:=J6t (g:=g) H v4
       repeat' ((conv=>whnf);first|(refine Sv.mk _ z.symm ?_)|(refine Br.tt ?_)|(refine Br.dec ?_ ?_<;>intro _<;>try omega)|(refine Br.bne ?_ ?_<;>intro _<;>try omega)|(refine Ar.u32 (by omega) (by omega) ?_)|(refine Ar.sh1 (by omega) ?_)|(refine Sv.mk _ rfl ?_)|(refine Nn.mk (by omega) ?_)|(refine Ix.q ?_)|(refine t.gog ?_)|(refine J1T J0c rfl rfl ?_))
       all_goals conv=>whnf
       all_goals
        refine⟨32-(v+1),v+1,by omega,⟨rfl,by omega⟩,?_⟩
        first
        | (have u:gr g W (v+1)=gr g W b ||| 2 ^ v:=by rw[gr,d,Qe ⟨A,by omega⟩]
           refine J0d J0q ?_ ?_ rfl
           . repeat' (first|exact J0b.yld rfl|exact tI|(refine⟨⟨_,rfl,?_⟩,?_⟩)|exact J0b.loc rfl)
           . repeat' (first|exact J0b.int B|exact J0b.int (by rw[u];exact y)|(refine J0b.fn ?_)|(refine⟨rfl,rfl,rfl,rfl,rfl,?_⟩)|exact tI|exact⟨rfl,rfl,rfl⟩|(refine⟨⟨_,rfl,?_⟩,?_⟩)|exact J0b.kf rfl|exact J0b.loc rfl|apply And.intro))
        | (have u:gr g W (v+1)=gr g W b:=by rw[gr,d,Qb (fun h=>by have:=h.2;omega)]
           refine J0d J0q ?_ ?_ rfl
           . repeat' (first|exact J0b.yld rfl|exact tI|(refine⟨⟨_,rfl,?_⟩,?_⟩)|exact J0b.loc rfl)
           . repeat' (first|exact J0b.int B|exact J0b.int (by rw[u])|(refine J0b.fn ?_)|(refine⟨rfl,rfl,rfl,rfl,rfl,?_⟩)|exact tI|exact⟨rfl,rfl,rfl⟩|(refine⟨⟨_,rfl,?_⟩,?_⟩)|exact J0b.kf rfl|exact J0b.loc rfl|apply And.intro))
   . repeat' ((conv=>whnf);first|(refine Sv.mk _ E.symm ?_)|(refine Ar.neg32 he ?_)|(refine Sv.mk _ C.symm ?_)|(refine Ar.neg32 a ?_)|(refine Sv.mk _ i.symm ?_)|(refine Br.dec ?_ ?_<;>intro _<;>try omega))
     all_goals conv=>whnf
     all_goals first
      | (rw[Qe (by assumption)];exact vR_)
      | (rw[Qb (by assumption),Qb n,Qe (by assumption)];exact vR_)
      | (rw[Qb (by assumption),Qb n,Qb (by assumption)];exact vR_)
 . have p:wsh e w=w &&& e:=by rw[wsh,Qb hz]
   rw[p] at a l i ⊢;by_cases n:k=2
   . have I:¬ k=1:=by omega
     rw[Qb I,Qe n]
     repeat' ((conv=>whnf);first|(refine Sv.mk _ E.symm ?_)|(refine Br.dec ?_ ?_<;>intro _<;>try omega)|(refine fr Y06 ?_)|(refine J2l ?_)|(refine Chk.q ?_)|(refine fr Q9Z ?_))
     all_goals conv=>whnf
     generalize w &&& e=W at *;refine J0s J0c [0,1] [] J3j [3,2,1,0,999] (fun b:Nat=>[]) (fun own b=>X0A (J2g (J2g own 1 (.cells [.int .u32 (gr g W b)])) 2 (.cells [.int .u32 (upS W b)]))) (fun m b=>m=32-b/\b<=32) 32 0 ⟨rfl,by omega⟩ rfl (fun _=>rfl) ?_ ?_
     . have o:=J5v a;refine J0d J0q ?_ ?_ rfl
       . repeat' (first|exact J0b.yld rfl|exact tI|(refine⟨⟨_,rfl,?_⟩,?_⟩)|exact J0b.loc rfl)
       . repeat' (first|exact J0b.int (by rw[o])|(refine J0b.fn ?_)|(refine⟨rfl,rfl,rfl,rfl,rfl,?_⟩)|exact tI|exact⟨rfl,rfl,rfl⟩|(refine⟨⟨_,rfl,?_⟩,?_⟩)|exact J0b.kf rfl|exact J0b.loc rfl|apply And.intro)
     rintro m b ⟨L,D⟩;have c:=J9f W b;by_cases s:upS W b=0
     . refine Vq ?_;have o:gr g W 32=gr g W b:=J6t D (fun j J _=>J7F a s j J);rw[o];exact vR_
     . obtain⟨v1,H,A,v4,F⟩:=J5w a s;have t:=Q7B _ s c;have B:J3C .and .u32 ((upS W b:Nat):Int) ((upS W b:Nat)-1:Int)=((upS W (ctz (upS W b)+1):Nat):Int):=by
        rw[<- F,show((upS W b:Nat):Int)-1=((upS W b-1:Nat):Int) by omega,J0P c (by omega)]
       generalize ctz (upS W b)=v at *;have r:=J4v l A;have x:=Q84 _ (Q4z hg r);have f:=X7k g W D;have z:=J0P x f;have y:=Q2K f (J2v v1);have d:=J6t (g:=g) H v4
       repeat' ((conv=>whnf);first|(refine Sv.mk _ z.symm ?_)|(refine Br.tt ?_)|(refine Br.dec ?_ ?_<;>intro _<;>try omega)|(refine Br.bne ?_ ?_<;>intro _<;>try omega)|(refine Ar.u32 (by omega) (by omega) ?_)|(refine Ar.sh1 (by omega) ?_)|(refine Sv.mk _ rfl ?_)|(refine Nn.mk (by omega) ?_)|(refine Ix.q ?_)|(refine t.gog ?_)|(refine J1T J0c rfl rfl ?_))
       all_goals conv=>whnf
       all_goals
        refine⟨32-(v+1),v+1,by omega,⟨rfl,by omega⟩,?_⟩
        first
        | (have u:gr g W (v+1)=gr g W b ||| 2 ^ v:=by rw[gr,d,Qe ⟨A,by omega⟩]
           refine J0d J0q ?_ ?_ rfl
           . repeat' (first|exact J0b.yld rfl|exact tI|(refine⟨⟨_,rfl,?_⟩,?_⟩)|exact J0b.loc rfl)
           . repeat' (first|exact J0b.int B|exact J0b.int (by rw[u];exact y)|(refine J0b.fn ?_)|(refine⟨rfl,rfl,rfl,rfl,rfl,?_⟩)|exact tI|exact⟨rfl,rfl,rfl⟩|(refine⟨⟨_,rfl,?_⟩,?_⟩)|exact J0b.kf rfl|exact J0b.loc rfl|apply And.intro))
        | (have u:gr g W (v+1)=gr g W b:=by rw[gr,d,Qb (fun h=>by have:=h.2;omega)]
           refine J0d J0q ?_ ?_ rfl
           . repeat' (first|exact J0b.yld rfl|exact tI|(refine⟨⟨_,rfl,?_⟩,?_⟩)|exact J0b.loc rfl)
           . repeat' (first|exact J0b.int B|exact J0b.int (by rw[u])|(refine J0b.fn ?_)|(refine⟨rfl,rfl,rfl,rfl,rfl,?_⟩)|exact tI|exact⟨rfl,rfl,rfl⟩|(refine⟨⟨_,rfl,?_⟩,?_⟩)|exact J0b.kf rfl|exact J0b.loc rfl|apply And.intro))
   . repeat' ((conv=>whnf);first|(refine Sv.mk _ E.symm ?_)|(refine Ar.neg32 a ?_)|(refine Sv.mk _ i.symm ?_)|(refine Br.dec ?_ ?_<;>intro _<;>try omega))
     all_goals conv=>whnf
     all_goals first
      | (rw[Qe (by assumption)];exact vR_)
      | (rw[Qb (by assumption),Qb n,Qe (by assumption)];exact vR_)
      | (rw[Qb (by assumption),Qb n,Qb (by assumption)];exact vR_)
theorem Q1c {s:Nat}:s=0↔∀i,s.testBit i=false:=⟨fun h i=>by subst h;simp,fun h=>Q8 fun i=>by rw[h,Xm]⟩
theorem J3r {a b:Nat}:a &&& b=0↔∀i,a.testBit i=true->b.testBit i=false:=by
 rw[Q1c];constructor
 . intro h i c;have:=h i;rw[Xq,c,Zm] at this;exact this
 . intro h i;rw[Xq];cases e:a.testBit i with
   | false=>rfl
   | true=>rw[h i e];rfl
def adj (g:G) (u v:Nat):Bool:=(nm (gR g.ports u)).testBit v
theorem Q4b {g:G} {u v:Nat}:adj g u v=true↔∃l∈gR g.ports u,l.1.toNat=v:=by
 rw[adj,Q4O,List.any_eq_true];simp
theorem X8q {g:G} (hg:g.valid=true) {u v:Nat} (a:u<g.ports.length) (h:adj g u v=true):adj g v u=true:=by
 obtain⟨f1,f2,f3,f4,f5,f6,f7⟩:=J0e hg;obtain⟨l,b,rfl⟩:=Q4b.1 h;exact Q4b.2 ⟨_,f7 u a l b,by simp⟩
theorem X1a {g:G} (hg:g.valid=true) {u:Nat} (a:u<g.ports.length):adj g u u=false:=by
 obtain⟨f1,f2,f3,f4,f5,f6,f7⟩:=J0e hg;cases h:adj g u u with
 | false=>rfl
 | true =>
   obtain⟨l,b,c⟩:=Q4b.1 h;have:=(J2F.1 (f6 u a)).1 l b;omega
theorem Q9H {g:G} {s:Nat}:ind g s=true↔∀v u,v<g.ports.length->s.testBit v=true->adj g v u=true->s.testBit u=false:=by
 rw[ind,Qa];constructor
 . intro h v u a b c;exact J3r.1 (h v a b) u c
 . intro h v a b;exact J3r.2 (fun u c=>h v u a b c)
theorem J9t (k:Nat):2 ^ k &&& (2 ^ k-1)=0:=by rw[Kn,Nat.mod_self]
theorem X6Z (s:Nat):J28 s &&& (J28 s-1)=0:=by
 rw[J28];split
 . rfl
 . exact J9t _
theorem J1D {g:G} {k:Int} {e c:Nat}:Q0E g k e c=true↔c≠0/\J0Z c e=0/\okC g k e c=true:=by
 rw[Q0E,Qg,Qa,and_assoc]
theorem Y4d {g:G} {e c:Nat}:okC g 1 e c=true↔c &&& (c-1)=0:=by rw[okC,Qe rfl,Qa]
theorem okC2 {g:G} {e c:Nat}:okC g 2 e c=true↔ind g c=true:=by rw[okC,Qb (by decide),Qe rfl]
theorem okC3 {g:G} {e c:Nat}:okC g 3 e c=true:=by rw[okC,Qb (by decide),Qb (by decide),Qb (by decide)]
theorem okC4 {g:G} {e c:Nat}:okC g 4 e c=true↔c=e:=by rw[okC,Qb (by decide),Qb (by decide),Qe rfl,Qa]
theorem Q3K {g:G} {W b i:Nat} (h:b<=i):(gr g W b).testBit i=false :=
 Zz (Xu (Q9M g W b) (Xs (n:=2) (by omega) h))
theorem J8o {g:G} {W i:Nat}:∀{b:Nat},i<b->((gr g W b).testBit i=true↔W.testBit i=true/\nm (gR g.ports i) &&& gr g W i=0)
 | b+1,h=>by
   by_cases e:i=b
   . subst e;rw[gr];split
     . rename_i a;rw[Z7,Jt,Jx];exact⟨fun _=>a,fun _=>rfl⟩
     . rename_i a;rw[Q3K (Qd _)];exact⟨fun x=>Bool.noConfusion x,fun x=>(a x).elim⟩
   . have c:=J8o (g:=g) (W:=W) (i:=i) (b:=b) (by omega);rw[gr];split
     . rw[Z7,Z1,Qm (by omega),Jc];exact c
     . exact c
theorem X7j (g:G) (W b:Nat):J2D (gr g W b) W:=fun i a=>by
 by_cases h:i<b
 . exact((J8o h).1 a).1
 . rw[Q3K (by omega)] at a;cases a
theorem Q48 {g:G} {W i b a:Nat} (h:i<b) (c:i<a):(gr g W b).testBit i=(gr g W a).testBit i:=by
 rw[Zc,J8o h,J8o c]
theorem X4L {g:G} {W b i:Nat} (h:(gr g W b).testBit i=true):i<b:=by
 rcases Zs i b with a|a
 . exact a
 . rw[Q3K a] at h;cases h
theorem Y00 {g:G} (hg:g.valid=true) {W:Nat} (hp:J2D W (J1J g.ports.length)) (b:Nat):ind g (gr g W b)=true:=by
 rw[Q9H];intro v u j e f;cases d:(gr g W b).testBit u with
 | false=>rfl
 | true =>
   exfalso;have c:=X4L d;have a:=X4L e;rcases Y3 u v with h|h|h
   . have i:=((J8o a).1 e).2;rw[Q48 c h] at d;rw[J3r.1 i u f] at d;cases d
   . subst h;rw[X1a hg j] at f;cases f
   . have i:=((J8o c).1 d).2;rw[Q48 a h] at e;rw[J3r.1 i v (X8q hg j f)] at e;cases e
theorem Y4m {g:G} {W:Nat} (m:W≠0) (k:W<4294967296):gr g W 32≠0:=by
 obtain⟨e,d,c⟩:=J2b m k;have l:gr g W (ctz W)=0:=J6t (b:=0) (Qh _) (fun j _ f=>c j f);have a:=(J8o (g:=g) (W:=W) (i:=ctz W) (b:=32) e).2 ⟨d,by rw[l,Nat.and_zero]⟩;intro h;rw[h,Xm] at a;cases a
theorem X8U {e w:Nat} (a:e≠0):wsh e w≠0:=by
 rw[wsh];split
 . exact Q3C a
 . assumption
theorem Q75 {g:G} {k:Int} {e w:Nat} (he:e<4294967296):k≠4->J2D (rs g k e w) (wsh e w):=by
 intro hk;rw[rs];split
 . exact J1B (J9a he)
 . split
   . exact X7j _ _ _
   . exact fun i h=>h
theorem Q0k {g:G} (hg:g.valid=true) {k:Int} {e w:Nat} (hk:dk k=true) (he:e<4294967296) (hp:J2D e (J1J g.ports.length)) (n:e≠0):Q0E g k e (rs g k e w)=true:=by
 have l:=J9a (w:=w) he;have c:=Q4f (w:=w) he;have j:=J21 c hp;have a:=X8U (w:=w) n;rw[J4f] at hk;rw[J1D];by_cases m:k=4
 . subst m;have o:rs g 4 e w=e:=by rw[rs,Qb (by decide),Qb (by decide),Qe rfl]
   rw[o];exact⟨n,(J05 he).2 (fun i h=>h),okC4.2 rfl⟩
 . have b:=Q75 (g:=g) (w:=w) he m;have d:rs g k e w<4294967296:=X5 b.le l;refine⟨?_,(J05 d).2 (J21 b c),?_⟩
   . rw[rs];split
     . exact Q3C a
     . split
       . exact Y4m a l
       . exact a
   . have f:k=1\/k=2\/k=3:=by omega
     rcases f with rfl|rfl|rfl
     . rw[Y4d,rs,Qe rfl];exact X6Z _
     . rw[okC2,rs,Qb (by decide),Qe rfl];exact Y00 hg j 32
     . exact okC3
def gN (l:List Nat) (i:Nat):Nat:=l.getD i 0
def vU (l:List Nat):Nat->Nat->V:=fun i _=>.int .u32 (gN l i)
def J3Z (e:Nat):Nat->List Nat
 | 0=>[]
 | b+1=>if e.testBit b then J3Z e b++[2 ^ b] else J3Z e b
theorem J5A {e b:Nat}:∀{v:Nat},b<=v->(∀j,b<=j->j<v->e.testBit j=false)->J3Z e v=J3Z e b
 | 0,h,_=>by rw[show b=0 by omega]
 | v+1,h,hz=>by
   by_cases d:b=v+1
   . rw[d]
   . rw[J3Z,hz v (by omega) (by omega),Qb (by simp)];exact J5A (by omega) (fun j a c=>hz j a (by omega))
theorem Q1u {e v:Nat} (h:e.testBit v=true):J3Z e (v+1)=J3Z e v++[2 ^ v]:=by rw[J3Z,Qe h]
theorem J7d (e:Nat):∀b,(J3Z e b).length<=b
 | 0=>Qd _
 | b+1=>by have:=J7d e b;rw[J3Z];split<;>simp<;>omega
def chs (g:G) (k:Int) (e:Nat):List Nat×Int :=
 if e=0 then ([],0) else if k=1 then (J3Z e 32,0) else if k=4 then ([e],0) else if cnt e 32 > 10 then ([],3) else ((J8Y e (J28 e)).filter (okC g k e),0)
def lst (l:List Nat):V:=.fz l.length 1 false (vU l)
theorem Q9N (l:List Nat) (a i:Nat):List.getD (l++[a]) i 0=if i<l.length then List.getD l i 0 else if i=l.length then a else 0:=by
 by_cases h:i<l.length
 . rw[Qe h];simp only[List.getD];rw[Q3 h]
 . rw[Qb h];by_cases e:i=l.length
   . subst e;simp[List.getD]
   . rw[Qb e];simp[List.getD];rw[Zo (by simp;omega)];rfl
theorem J5t (l:List Nat) (a:Nat) (x:Int) (c:x=a) (i j:Nat) (b:i<(l++[a]).length) (d:j<1) :
 VLe (J56 (J0m 0 (vU l)) l.length (J0m 0 (tab [[.int .u32 x]])) i j) (vU (l++[a]) i j):=by
 apply vE_;subst c;rw[Ql] at b;simp only[List.length_cons,List.length_nil] at b;by_cases h:i<l.length
 . rw[J19 h];simp only[J0m,vU,gN,Q9N,Qe h]
 . rw[J2a h];have:i=l.length:=by omega
   subst this;obtain rfl:j=0:=by omega
   simp[J0m,vU,gN,tab]
theorem J8b (l:List Nat):VLe (.fz l.length 1 false (J0m 0 (vU l))) (lst l):=by
 refine VLe.fz rfl (fun h=>h) (fun i j b a=>vE_ ?_);simp only[J0m]
 try simp
theorem Q3z (g:G) (hg:g.valid=true) (k:Int) (e:Nat) (he:e<4294967296) (hp:J2D e (J1J g.ports.length)):RG 84 [.fz g.ports.length 1 false (X1h g),.int .i64 k,.int .u32 e] (.tup [lst (chs g k e).1,.int .i64 (chs g k e).2]):=by
 refine J1e rfl ?_;refine fr fj84 ?_;have F:=X6Q e he;have w:J3C .and .u32 (((4294967296-e) % 4294967296:Nat):Int) (e:Int)=(J28 e:Nat):=by
  rw[J0P (Z5 _ (by omega)) he,Nat.and_comm,J5L he]
 by_cases M:e=0
 . rw[chs,Qe M];refine Vq ?_
   all_goals exact VLe.tup ⟨VLe.nilfz rfl,vR_,tI⟩
 rw[chs,Qb M];by_cases J:k=1
 . rw[Qe J]
   repeat' ((conv=>whnf);first|(refine Br.dec ?_ ?_<;>intro _<;>try omega)|(refine fr Y06 ?_)|(refine J2l ?_)|(refine Chk.q ?_)|(refine fr Q9Z ?_))
   all_goals conv=>whnf
   refine J0s J0c [0,1] [3] J3j [3,2,1,0,999] (fun b:Nat=>[]) (fun own b=>(3,.vec (J3Z e b).length 1 (vU (J3Z e b)))::J2g (J2g own 0 (.cells [.vec 3 1 0 (J3Z e b).length])) 1 (.cells [.int .u32 (upS e b)])) (fun m b=>m=32-b/\b<=32) 32 0 ⟨rfl,by omega⟩ rfl (fun _=>rfl) ?_ ?_
   . have K:=J5v he;exact J0a (fun _ _=>[(0,some 0),(1,some 1),(2,some 2),(3,none),(999,some 999)])
   rintro m b ⟨A,Y⟩;have r:=J9f e b;have Q:=J7d e b;by_cases C:upS e b=0
   . refine Vq ?_;have K:J3Z e 32=J3Z e b:=J5A Y (fun j o _=>J7F he C j o);show VLe _ (V.tup [lst (J3Z e 32),V.int IntKind.i64 0]);rw[K];exact VLe.tup ⟨J8b _,vR_,tI⟩
   . obtain⟨v1,P,O,v4,N⟩:=J5w he C;have D:=Q7B _ C r;have S:J3C .and .u32 ((upS e b:Nat):Int) ((upS e b:Nat)-1:Int)=((upS e (ctz (upS e b)+1):Nat):Int):=by
      rw[<- N,show((upS e b:Nat):Int)-1=((upS e b-1:Nat):Int) by omega,J0P r (by omega)]
     generalize ctz (upS e b)=v at *;have E:J3Z e (v+1)=J3Z e b++[2 ^ v]:=by rw[Q1u O,J5A P v4]
     repeat' ((conv=>whnf);first|(refine Br.tt ?_)|(refine Br.bne ?_ ?_<;>intro _<;>try omega)|(refine Br.nbeq ?_ ?_<;>intro _<;>try omega)|(refine Ar.u32 (by omega) (by omega) ?_)|(refine Ar.sh1 (by omega) ?_)|(refine Sv.mk _ rfl ?_)|(refine Nn.mk (by omega) ?_)|(refine Len.q ?_)|(refine D.gog ?_)|(refine J1T J0c rfl rfl ?_))
     all_goals conv=>whnf
     all_goals
      refine⟨32-(v+1),v+1,by omega,⟨rfl,by omega⟩,?_⟩;simp only[E];refine J0d (fun env own=>[(0,some 0),(1,some 1),(2,some 2),(3,Q0S own 0 0),(999,some 999)]) ?_ ?_ rfl
      . repeat' (first|exact J0b.yld rfl|exact tI|(refine⟨⟨_,rfl,?_⟩,?_⟩)|exact J0b.loc rfl)
      . repeat' (first|exact J0b.int S|exact J0b.vec rfl rfl (by rw[Ql];rfl)|(refine⟨by rw[Ql];exact Qd _,rfl,fun i j B o=>?_⟩)|exact J5t _ _ _ rfl _ _ B o|(refine J0b.fn ?_)|(refine⟨rfl,rfl,rfl,rfl,rfl,?_⟩)|exact tI|exact⟨rfl,rfl,rfl⟩|(refine⟨⟨_,rfl,?_⟩,?_⟩)|exact J0b.kf rfl|exact J0b.loc rfl|apply And.intro)
 rw[Qb J];by_cases I:k=4
 . rw[Qe I];refine Vq ?_
   all_goals
    refine VLe.tup ⟨VLe.fz rfl (fun h=>h) (fun i j B o=>?_),vR_,tI⟩;obtain rfl:i=0:=by omega
    obtain rfl:j=0:=by omega
    exact vR_
 rw[Qb I];have X:=J4g e 32;by_cases L:cnt e 32 > 10
 . rw[Qe L];refine Vq ?_
   all_goals exact VLe.tup ⟨VLe.nilfz rfl,vR_,tI⟩
 rw[Qb L]
 repeat' ((conv=>whnf);first|(refine Ar.neg32 he ?_)|(refine Sv.mk _ w.symm ?_)|(refine Br.dec ?_ ?_<;>intro _<;>try omega)|(refine F.go ?_))
 all_goals conv=>whnf
 refine J0s J0c [0,1,2,8] [1] J1k [1,0,999] (fun p:Nat×List Nat=>[(10,.int .u32 p.1)]) (fun own p=>(1,.vec p.2.length 1 (vU p.2))::J2g own 0 (.cells [.vec 1 1 0 p.2.length])) (fun m p=>m=(if p.1=0 then 0 else 4294967297-p.1)/\J2D p.1 e/\p.2++(J8Y e p.1).filter (okC g k e)=(J8Y e (J28 e)).filter (okC g k e)/\p.2.length<=4294967296/\(p.1≠0->p.2.length<p.1)) _ (J28 e,[]) ⟨rfl,J1B he,rfl,by simp,fun h=>by simp only[List.length_nil];omega⟩ rfl (fun _=>rfl) ?_ ?_
 . exact J0a (fun _ _=>[(0,some 0),(1,none),(999,some 999)])
 rintro m ⟨s,z⟩ ⟨A,d,a,y,x⟩;simp only at A d a y x;have R:=d.le;by_cases c:s=0
 . refine Vq ?_;subst c;rw[J1O,List.filter_nil,Ym] at a;show VLe _ (V.tup [lst ((J8Y e (J28 e)).filter (okC g k e)),V.int IntKind.i64 0]);rw[<- a];exact VLe.tup ⟨J8b _,vR_,tI⟩
 . have f:=J78 g hg k e s he (by omega) hp;have H:Q0E g k e s=okC g k e s:=by
    rw[Q0E,Qn ⟨c,(J05 (by omega)).2 d⟩,Zm]
   rw[H] at f;have n:=J3F he d c;have t:J3C .and .u32 (((4294967296+s-e) % 4294967296:Nat):Int) (e:Int)=(nxt e s:Nat):=by
    rw[J0P (Z5 _ (by omega)) he];rfl
   have W:nxt e s=0\/s<nxt e s:=by
    by_cases h:s=e
    . subst h;exact .inl (J34 he)
    . exact .inr (J6Q he d h)
   have u:=J14 e s;have T:=Q4K (s:=s) he;have U:=x c;cases l:okC g k e s with
   | true =>
     rw[l] at f;rw[n,List.filter_cons_of_pos (by rw[l])] at a
     repeat' ((conv=>whnf);first|(refine Ar.sub32 (by omega) he ?_)|(refine Sv.mk _ t.symm ?_)|(refine Br.tt ?_)|(refine Br.bne ?_ ?_<;>intro _<;>try omega)|(refine Br.nbeq ?_ ?_<;>intro _<;>try omega)|(refine Len.q ?_)|(refine Len.mk (by simp only[List.length_cons,List.length_nil];omega) ?_)|(refine f.gog ?_))
     all_goals conv=>whnf
     all_goals
      refine⟨_,(nxt e s,z++[s]),?_,⟨rfl,u,by rw[<- a];simp,by simp;omega,fun h=>by simp at h ⊢;omega⟩,?_⟩
      . simp only;rw[A,Qb c];split<;>omega
      . refine J0d (fun env own=>[(0,some 0),(1,Q0S own 0 0),(999,some 999)]) ?_ ?_ rfl
        . repeat' (first|exact tI|(refine⟨⟨_,rfl,?_⟩,?_⟩)|exact J0b.kf rfl|exact J0b.loc rfl)
        . repeat' (first|exact J0b.vec rfl rfl (by rw[Ql];rfl)|(refine⟨by rw[Ql];exact Qd _,rfl,fun i j B o=>?_⟩)|exact J5t _ _ _ rfl _ _ B o|exact tI|exact⟨rfl,rfl,rfl⟩|(refine⟨⟨_,rfl,?_⟩,?_⟩)|apply And.intro)
   | false =>
     rw[l] at f;rw[n,List.filter_cons_of_neg (by rw[l];simp)] at a
     repeat' ((conv=>whnf);first|(refine Ar.sub32 (by omega) he ?_)|(refine Sv.mk _ t.symm ?_)|(refine Br.ff ?_)|(refine Br.bne ?_ ?_<;>intro _<;>try omega)|(refine f.gog ?_))
     all_goals conv=>whnf
     all_goals
      refine⟨_,(nxt e s,z),?_,⟨rfl,u,a,y,fun h=>by simp only at h ⊢;omega⟩,?_⟩
      . simp only;rw[A,Qb c];split<;>omega
      . exact J0a (fun env own=>[(0,some 0),(1,Q0S own 0 0),(999,some 999)])
theorem Q0f {E:Nat} (a:E<4294967296):∀f s,J2D s E->E-s<=f->(J8Y E s).length<=f+1
 | f,s,hp,d=>by
   by_cases c:s=0
   . subst c;rw[J1O];simp
   . rw[J3F a hp c,List.length_cons];by_cases b:s=E
     . subst b;rw[J34 a,J1O];simp
     . have g:=J6Q a hp b;have e:=hp.le;cases f with
       | zero=>omega
       | succ f=>have:=Q0f a f _ (J14 E s) (by have:=(J14 E s).le;omega);omega
theorem J9j {c:Nat} (f:c≠0) (d:c<4294967296) (h:c &&& (c-1)=0):c=2 ^ ctz c:=by
 obtain⟨g,a,b⟩:=J2b f d;apply Q8;intro j;have:=Q4W a b j;rw[h,Xm] at this;rw[Z1];by_cases e:ctz c=j
 . subst e;rw[a];simp
 . rw[Qm e];have hd:decide (j≠ctz c)=true:=by rw[Qa];exact fun x=>e x.symm
   rw[hd,Z6] at this;exact this.symm
theorem J70 {k j:Nat} (h:(2 ^ k:Nat).testBit j=true):k=j:=by rw[Z1,Qa] at h;exact h
theorem J7c {e c:Nat}:∀{b:Nat},c∈J3Z e b↔∃v,v<b/\e.testBit v=true/\c=2 ^ v
 | 0=>by simp[J3Z]
 | b+1=>by
   have d:=J7c (e:=e) (c:=c) (b:=b);rw[J3Z];constructor
   . intro h;split at h
     . rename_i j;rcases Qr.1 h with h|h
       . obtain⟨v,a,g,f⟩:=d.1 h;exact⟨v,by omega,g,f⟩
       . exact⟨b,by omega,j,by simpa using h⟩
     . obtain⟨v,a,g,f⟩:=d.1 h;exact⟨v,by omega,g,f⟩
   . rintro⟨v,l,i,rfl⟩;by_cases k:v=b
     . subst k;rw[Qe i];simp
     . have:=d.2 ⟨v,by omega,i,rfl⟩;split
       . exact X0 _ this
       . exact this
theorem J5a {e:Nat}:∀b,(J3Z e b).Pairwise (·<·)
 | 0=>.nil
 | b+1=>by
   rw[J3Z];split
   . refine List.pairwise_append.2 ⟨J5a b,by simp,fun x c y a=>?_⟩;obtain⟨v,d,_,rfl⟩:=J7c.1 c;simp only[Q0] at a;subst a;exact Je (by omega) d
   . exact J5a b
theorem Q8Q {j:Nat} (h:j≠0):(1:Nat).testBit j=false:=by
 have:=Z1 (n:=0) (m:=j);rw[Nat.pow_zero] at this;rw[this,Qm (by omega)]
theorem Q8Y {E s t:Nat} (o:E<4294967296) (hp:J2D s E) (f:J2D t E) (q:s<t):nxt E s<=t:=by
 have C:=hp.le;have B:=f.le;have n:s<4294967296:=by omega
 have D:s≠E:=by omega
 have v:J0Z E s≠0:=by
  intro h;have:=((J05 o).1 h).le;omega
 have b:J0Z E s<4294967296:=X5 Jh o;obtain⟨A,x,w⟩:=J2b v b;have l:s &&& J0Z E s=0:=by
  apply Q8;intro i;rw[Xm,Xq];by_cases a:i<32
  . rw[J1s a];cases s.testBit i<;>simp
  . rw[J09 n (by omega)];rfl
 have y:s+J0Z E s=E:=by
  rw[X5a n b l];apply Q8;intro i;rw[Z7];by_cases a:i<32
  . rw[J1s a];cases e:s.testBit i with
    | false=>simp
    | true=>rw[hp i e];rfl
  . rw[J09 n (by omega),J09 b (by omega),J09 o (by omega)];rfl
 have g:(4294967296+s-E) % 4294967296=4294967296-J0Z E s:=by omega
 generalize hk:ctz (J0Z E s)=k at *;have m:∀i,i<32->(nxt E s).testBit i=((!(if i<k+1 then decide (i<k) else (J0Z E s).testBit i))&&E.testBit i):=by
  intro i a;have e:(4294967296:Nat)-J0Z E s=2 ^ 32-((J0Z E s-1)+1):=by omega
  rw[nxt,g,Xq,e,Jg (by omega),J7k x w];simp[a]
 have c:=x;rw[J1s A,Qg] at c;have r:s.testBit k=false:=by simpa using c.2
 -- below k the part is all of it
 have j:∀i,i<k->s.testBit i=E.testBit i:=fun i a=>by
  have:=w i a;rw[J1s (by omega)] at this;cases e:s.testBit i with
  | true=>rw[hp i e]
  | false=>rw[e] at this;simpa using this.symm
 -- the next one is t's high part at most
 have u:s / 2 ^ k<t / 2 ^ k:=by
  rcases Zs (s / 2 ^ k) (t / 2 ^ k) with h|h
  . exact h
  . exfalso;have p:t / 2 ^ k=s / 2 ^ k:=Nat.le_antisymm h (Nat.div_le_div_right (Vf q));have z:t % 2 ^ k<=s % 2 ^ k:=by
     apply J2D.le;intro i a;rw[Vd,Qg,Qa] at a ⊢;exact⟨a.1,by rw[j i a.1];exact f i a.2⟩
    have I:=Yc s (2 ^ k);have H:=Yc t (2 ^ k);rw[p] at H;omega
 have F:nxt E s=2 ^ k*(s / 2 ^ k+1):=by
  have d:s / 2 ^ k+1=s / 2 ^ k ||| 1:=by
   have p:(s / 2 ^ k) % 2=0:=by
    rw[Yg,Qo] at r;omega
   apply Q8;intro i;rw[Z7];cases i with
   | zero=>simp[Nat.testBit_zero];omega
   | succ i =>
     rw[Kl,Kl,Kl,show(s / 2 ^ k+1) / 2=s / 2 ^ k / 2 by omega];simp
  apply Q8;intro i;rw[d,Nat.testBit_two_pow_mul];by_cases a:i<32
  . rw[m i a];by_cases p:i<k
    . rw[Qe (by omega),Qn p,Qm (by omega)];rfl
    . by_cases z:i=k
      . subst z;rw[Qe (by omega),Qm (by omega),c.1];simp
      . rw[Qb (by omega),J1s a,Qn (by omega),Z7,Yh,show i-k+k=i by omega,Q8Q (show i-k≠0 by omega)];cases e:s.testBit i with
        | true=>rw[hp i e];rfl
        | false=>cases E.testBit i<;>rfl
  . have G:(s / 2 ^ k ||| 1).testBit (i-k)=false:=by
     rw[Z7,Yh,show i-k+k=i by omega,J09 n (by omega)];rw[Q8Q (by omega)];rfl
    rw[G,J09 (Q4K o) (by omega),Yb]
 rw[F];exact Zw (Nat.mul_le_mul_left _ u) (Nat.mul_div_le t (2 ^ k))
theorem Q4u {E t:Nat} (a:E<4294967296) (b:J2D t E) (j:t≠0):∀f s,J2D s E->s≠0->s<=t->t-s<=f->t∈J8Y E s
 | f,s,hp,c,h,k=>by
   rw[J3F a hp c];by_cases e:t=s
   . subst e;simp
   . have g:=b.le;have d:s<t:=by omega
     have l:=J6Q a hp (by omega);have i:=Q8Y a hp b d;cases f with
     | zero=>omega
     | succ f=>exact Xz _ (Q4u a b j f _ (J14 E s) (by omega) i (by omega))
theorem J7L {E:Nat} (a:E<4294967296):∀f s,J2D s E->E-s<=f->(J8Y E s).Pairwise (·<·)
 | f,s,hp,e=>by
   by_cases c:s=0
   . subst c;rw[J1O];exact .nil
   . rw[J3F a hp c];by_cases b:s=E
     . subst b;rw[J34 a,J1O];simp
     . have i:=J6Q a hp b;have h:=hp.le;have g:=(J14 E s).le;refine List.Pairwise.cons (fun t d=>?_) ?_
       . have:=(J4p a (E-nxt E s) _ (J14 E s) (Qd _) t d).2.2;omega
       . cases f with
         | zero=>omega
         | succ f=>exact J7L a f _ (J14 E s) (by omega)
theorem Q6A {E t:Nat} (g:E<4294967296) (b:J2D t E) (c:t≠0):J28 E<=t:=by
 have f:=b.le;have a:t<4294967296:=by omega
 obtain⟨l,d,k⟩:=J2b c a;obtain⟨o,m,e⟩:=J2b (s:=E) (by omega) g;have j:ctz E<=ctz t:=by
  rcases Zs (ctz t) (ctz E) with h|h
  . have:=e _ h;rw[b _ d] at this;cases this
  . exact h
 have i:2 ^ ctz t<=t:=by
  have:=(J1B a).le;rw[J28,Qb c] at this;exact this
 rw[J28,Qb (by omega)];exact Zw (Xs (n:=2) (by omega) j) i
theorem X0C {g:G} {k:Int} {e:Nat} (hk:dk k=true) (h:(chs g k e).2≠0):(chs g k e).2=3/\(chs g k e).1=[]/\cnt e 32 > 10/\(k=2\/k=3):=by
 rw[J4f] at hk;unfold chs at h ⊢;split at h
 . exact absurd rfl h
 . split at h
   . exact absurd rfl h
   . split at h
     . exact absurd rfl h
     . split at h
       . rename_i d c b a;rw[Qb d,Qb c,Qb b,Qe a];exact⟨rfl,rfl,a,by omega⟩
       . exact absurd rfl h
theorem J4G {g:G} {k:Int} {e c:Nat} (hk:dk k=true) (he:e<4294967296) (o:c<4294967296) (h:(chs g k e).2=0):c∈(chs g k e).1↔Q0E g k e c=true:=by
 rw[J4f] at hk;rw[J1D,J05 o];unfold chs at h ⊢;split
 . rename_i j;subst j;constructor
   . intro x;cases x
   . rintro⟨a,b,_⟩;exact absurd (Nat.le_zero.1 b.le) a
 . rename_i j;rw[Qb j] at h;split
   . rename_i m;subst m;rw[Y4d];show c∈J3Z e 32↔_;rw[J7c];constructor
     . rintro⟨v,f,d,rfl⟩;exact⟨Nat.ne_of_gt (Yw _),fun i s=>by rw[<- J70 s];exact d,J9t v⟩
     . rintro⟨f,d,p⟩;obtain⟨r,q,t⟩:=J2b f o;exact⟨ctz c,r,d _ q,J9j f o p⟩
   . rename_i m;rw[Qb m] at h;split
     . rename_i l;subst l;rw[okC4];show c∈[e]↔_;rw[Q0];exact⟨fun x=>by subst x;exact⟨j,fun i h=>h,rfl⟩,fun x=>x.2.2⟩
     . rename_i l;rw[Qb l] at h;split
       . rename_i n;rw[Qe n] at h;cases h
       . show c∈(J8Y e (J28 e)).filter (okC g k e)↔_;rw[Zx];constructor
         . rintro⟨f,d⟩;have:=J4p he (e-J28 e) (J28 e) (J1B he) (Qd _) c f;exact⟨this.2.1,this.1,d⟩
         . rintro⟨f,d,p⟩;exact⟨Q4u he d f _ _ (J1B he) (Q3C j) (Q6A he d f) (Qd _),p⟩
theorem J9T {g:G} {k:Int} {e:Nat} (he:e<4294967296):(chs g k e).1.Pairwise (·<·):=by
 unfold chs;split
 . exact .nil
 . split
   . exact J5a 32
   . split
     . show[e].Pairwise (·<·);simp
     . split
       . exact .nil
       . exact(J7L he _ _ (J1B he) (Qd _)).filter _
theorem J3S {g:G} {k:Int} {e:Nat} (he:e<4294967296):∀c∈(chs g k e).1,c<4294967296:=by
 unfold chs;split
 . intro c a;cases a
 . split
   . intro c a;obtain⟨v,d,_,rfl⟩:=J7c.1 a;exact J2v d
   . split
     . intro c a;have:c=e:=by simpa using a
       omega
     . split
       . intro c a;cases a
       . intro c a;have b:c∈(J8Y e (J28 e)).filter (okC g k e):=a;have:=(J4p he (e-J28 e) (J28 e) (J1B he) (Qd _) c (Zx.1 b).1).1.le;omega
theorem Q0T {g:G} (hg:g.valid=true) {k:Int} {e:Nat} (hk:dk k=true) (he:e<4294967296) (hp:J2D e (J1J g.ports.length)) (h:(chs g k e).2=0):(chs g k e).1.length > 0↔e≠0:=by
 constructor
 . intro b c;subst c;rw[chs,Qe rfl] at b;simp at b
 . intro c;have b:=Q0k hg hk he hp c (w:=0);have f:rs g k e 0<4294967296:=by
    obtain⟨_,a,_⟩:=J1D.1 b;by_cases d:k=4
    . subst d;rw[rs,Qb (by decide),Qb (by decide),Qe rfl];exact he
    . exact X5 (Q75 he d).le (J9a he)
   exact List.length_pos_of_mem ((J4G hk he f h).2 b)
theorem X7S {g:G} {k:Int} {e:Nat} (he:e<4294967296):(chs g k e).1.length<=5000000000:=by
 unfold chs;split
 . show([]:List Nat).length<=_;simp
 . split
   . have:=J7d e 32;show(J3Z e 32).length<=_;omega
   . split
     . show[e].length<=_;simp
     . split
       . show([]:List Nat).length<=_;simp
       . show((J8Y e (J28 e)).filter (okC g k e)).length<=_;have b:=Y7 (okC g k e) (J8Y e (J28 e));have a:=Q0f he (e-J28 e) (J28 e) (J1B he) (Qd _);omega
instance:Inhabited Cnt:=⟨⟨0,0,0,0,0⟩⟩
def chC (p:Pr) (g:G) (k:Int) (c:Cf) (w:Nat):Nat:=rs g k (enN p g c) w
def nxC (p:Pr) (g:G) (k:Int) (c:Cf) (w:Nat):Cf:=J12 p g c (chC p g k c w)
def nxK (p:Pr) (g:G) (k:Int) (c:Cf) (n:Cnt) (w:Nat):Cnt:=n.add (chC p g k c w) (enN p g (nxC p g k c w))
def trc (p:Pr) (g:G) (k:Int):Cf->Cnt->List Nat->List (Cf×Cnt)
 | c,n,[]=>[(c,n)]
 | c,n,w::a=>(c,n)::(if enN p g c=0 then[] else trc p g k (nxC p g k c w) (nxK p g k c n w) a)
def X3r (p:Pr) (g:G) (k:Int):Cf->List Nat->List Nat
 | _,[]=>[]
 | c,w::a=>if enN p g c=0 then[] else chC p g k c w::X3r p g k (nxC p g k c w) a
def Q1b (e:Nat):Cnt:=⟨0,0,0,0,e⟩
theorem Q5m (p:Pr) (g:G) (c:Cf):enN p g c<2 ^ g.ids.length:=Q89 _ _
theorem Q3T (p:Pr) {g:G} (hg:g.valid=true) (c:Cf):enN p g c<16777216:=by
 obtain⟨f1,f2,f3,f4,f5,f6,f7⟩:=J0e hg;exact Xu (Q5m p g c) (Xs (n:=2) (by omega) f2)
theorem J5l (p:Pr) {g:G} (hg:g.valid=true) (c:Cf):enN p g c<4294967296:=by have:=Q3T p hg c;omega
theorem J3x (p:Pr) {g:G} (hg:g.valid=true) (c:Cf):J2D (enN p g c) (J1J g.ports.length):=fun i a=>by
 obtain⟨f1,f2,f3,f4,f5,f6,f7⟩:=J0e hg;rw[enN,J6R,Qg,Qa] at a;rw[Q5c,Qa];omega
theorem J8A (p:Pr) (g:G) (c:Cf) (v:Nat):(enN p g c).testBit v=(decide (v<g.ids.length)&&decide (0<=J0z p g c v)):=J6R _ _ _
theorem Q0U (p:Pr) {g:G} (hg:g.valid=true) {k:Int} (hk:dk k=true) (c:Cf) (w:Nat) (v:enN p g c≠0) :
 chC p g k c w≠0/\J2D (chC p g k c w) (enN p g c)/\okC g k (enN p g c) (chC p g k c w)=true/\chC p g k c w<16777216/\1<=cnt (chC p g k c w) 32/\cnt (chC p g k c w) 32<=24:=by
 have he:=J5l p hg c;have m:=Q0k hg (w:=w) hk he (J3x p hg c) v;obtain⟨o,u,t⟩:=J1D.1 m;have hp:J2D (rs g k (enN p g c) w) (enN p g c):=by
  intro i a;by_cases e:i<32
  . have:=X6 (Nat.testBit · i) u;simp only[Xm,J1s e,a,Zm,Bool.not_eq_false'] at this;exact this
  . exfalso;have x:rs g k (enN p g c) w<4294967296\/∃j,32<=j/\(rs g k (enN p g c) w).testBit j=true:=by
     right;exact⟨i,by omega,a⟩
    have r:rs g k (enN p g c) w<4294967296:=by
     rw[rs];split
     . exact Q9o _ (J9a he)
     . split
       . exact X7k g _ (by omega)
       . split
         . exact he
         . exact J9a he
    have:=Zz (Xu r (Xs (n:=2) (i:=32) (by omega) (show 32<=i by omega)));rw[this] at a;cases a
 have b:rs g k (enN p g c) w<16777216:=by
  apply Km;intro f;obtain⟨i,l,h⟩:=Nat.exists_ge_and_testBit_of_ge_two_pow (n:=24) f;have:=hp i h;have d:=Zz (Xu (Q3T p hg c) (Xs (n:=2) (i:=24) (by omega) l));rw[d] at this;cases this
 refine⟨o,hp,t,b,?_,?_⟩
 . have:∃i,(rs g k (enN p g c) w).testBit i=true:=by
    apply X7;intro q;exact o (Q1c.2 fun i=>by
     cases a:(rs g k (enN p g c) w).testBit i with
     | false=>rfl
     | true=>exact(q ⟨i,a⟩).elim)
   obtain⟨i,a⟩:=this;have m:i<32:=by
    apply Km;intro f;have:=Zz (Xu b (Xs (n:=2) (i:=24) (by omega) (show 24<=i by omega)));rw[this] at a;cases a
   exact Q3Y a m
 . have d:cnt (chC p g k c w) 32=cnt (chC p g k c w) 24:=by
    rw[show(32:Nat)=24+8 from rfl,J6A 24 8];have hz:chC p g k c w >>> 24=0:=by
     rw[Zu];exact Z9 b
    rw[hz,J7w (s:=0) (fun i _=>Xm i)];rfl
   rw[d];exact J4g _ 24
theorem Y1v {kind a b v:Int} (h:a<=b) (c:kind=3->a=-1):a<=brI kind a b v/\brI kind a b v<=b:=by
 unfold brI;split
 . omega
 . split
   . have:=c (by assumption);omega
   . split<;>omega
theorem Y1w {g:G} (hg:g.valid=true) {x:Vr} (a:Q4c x) (c:X5c g x) {v:Nat} (b:v<g.ports.length):(bnd g x v).1<=(bnd g x v).2/\(x.kind=3->(bnd g x v).1=-1):=by
 have d:=J4I hg a c b;rcases a.kind with h|h|h
 . exact⟨(d.2.2.2.2 h).1,fun e=>by omega⟩
 . rw[bnd,Qb (by omega),Qe h];exact⟨by decide,fun e=>by omega⟩
 . rw[bnd,Qb (by omega),Qb (by omega)];exact⟨by simp only;omega,fun _=>rfl⟩
theorem Y05 (l:List Int) (a i:Nat) (x:Int) (b:a<l.length):gI (l.set a x) i=if i=a then x else gI l i:=by
 simp only[gI,List.getD,Jr];by_cases h:a=i
 . subst h;simp[b]
 . have:¬ i=a:=fun e=>h e.symm;rw[Qb h,Qb this]
theorem J25 {p:Pr} (hp:J2C p) {g:G} (hF:J1L p g) (hg:g.valid=true) {c:Cf} (i:J2O p g c) {s:Nat} (u:J2D s (enN p g c)):J2O p g (J12 p g c s):=by
 obtain⟨f1,f2,f3,f4,f5,f6,f7⟩:=J0e hg;have z:=i.len;have key:∀v,v<c.length->s.testBit v=true->∀x,x<p.vars.length->(bnd g (gV p.vars x) v).1<=gI (J1P p g c v (J0z p g c v).toNat) x/\gI (J1P p g c v (J0z p g c v).toNat) x<=(bnd g (gV p.vars x) v).2:=by
  intro v b k x f;have q:=u v k;rw[J8A,Qg,Qa,Qa] at q;have w:=J7f p g c v;have y:(J0z p g c v).toNat<p.rules.length:=by omega
  have d:=hp.set _ y;unfold J1P X1l;generalize (gRl p.rules (J0z p g c v).toNat).sets=l at d;have gen:∀(l:List (Int×Tm)),(∀j,j<l.length->0<=(gS l j).1/\(gS l j).1<p.vars.length)->∀st:List Int,st.length=p.vars.length->((bnd g (gV p.vars x) v).1<=gI st x/\gI st x<=(bnd g (gV p.vars x) v).2) ->
   (bnd g (gV p.vars x) v).1<=gI (l.foldl (X6I p g c v) st) x/\gI (l.foldl (X6I p g c v) st) x<=(bnd g (gV p.vars x) v).2:=by
   intro l
   induction l with
   | nil=>intro _ st _ h;exact h
   | cons a r t =>
     intro m st n h;rw[Yf];have A:0<=a.1/\a.1<p.vars.length:=m 0 (by simp);refine t (fun j o=>by have:=m (j+1) (by simpa using o);simpa[gS] using this) _ (by simp[X6I,n]) ?_;rw[X6I,Y05 _ _ _ _ (by omega)];split
     . rename_i e;subst e;have k:=Y1w hg (hp.var a.1.toNat f) (hF _ f) (v:=v) (by omega);exact Y1v k.1 k.2
     . exact h
  exact gen l (fun j m=>⟨(d j m).1,(d j m).2.1⟩) _ (i.row v b) (i.val v b x f)
 refine⟨by rw[J26];exact z,fun v b=>?_,fun v b x f=>?_⟩
 . rw[J26] at b;rw[J2x p g c s b];split
   . rw[J1P,J2Q];exact i.row v b
   . exact i.row v b
 . rw[J26] at b;rw[J2x p g c s b];split
   . rename_i k;exact key v b k x f
   . exact i.val v b x f
theorem Q8Z {p:Pr} (hp:J2C p) {g:G} (hF:J1L p g) (hg:g.valid=true) {k:Int} (hk:dk k=true) {c:Cf} (a:J2O p g c) (w:Nat) (b:enN p g c≠0):J2O p g (nxC p g k c w) :=
 J25 hp hF hg a (Q0U p hg hk c w b).2.1
theorem Y4e {p:Pr} {g:G} (hg:g.valid=true) {k:Int} (hk:dk k=true) {c:Cf} {n:Cnt} (a:n.Ok) (b:n.steps<4096) (w:Nat) (d:enN p g c≠0):(nxK p g k c n w).Ok/\(nxK p g k c n w).steps=n.steps+1:=by
 obtain⟨l,j,i,h,f,e⟩:=Q0U p hg hk c w d;refine⟨X8r n a b _ _ f e (Q3T p hg _),?_⟩;rw[nxK,Cnt.add];split<;>rfl
theorem X7M {e:Nat} (he:e<16777216):(Q1b e).Ok:=⟨by simp[Q1b],by simp[Q1b],by simp[Q1b],by simp[Q1b],by simp[Q1b],by simp[Q1b],he⟩
def J4X (l:List (Cf×Cnt)):Cf:=(l.getLast?.getD default).1
open Go.Eng Go.Plain
def J5q (p:Pr) (g:G) (kd:Int) (k:Nat):List (Nat×Nat):=(chs g kd (enN p g (cfK p g k))).1.map fun s=>(s,rkC p g (J12 p g (cfK p g k) s))
structure X35 (p:Pr) (g:G) (kd:Int) (c:Cf) (s:Nat):Prop where
 ne:s≠0
 part:J2D s (enN p g c)
 okc:okC g kd (enN p g c) s=true
 lt:s<16777216
inductive Lng (p:Pr) (g:G) (kd:Int) (leg:Cf->Bool):Nat->Cf->Prop
 | nil (c:Cf):Lng p g kd leg 0 c
 | step {t:Nat} {c:Cf} (s:Nat) (h:X35 p g kd c s) (hl:leg (J12 p g c s)=false) (hn:Lng p g kd leg t (J12 p g c s)):Lng p g kd leg (t+1) c
structure Srv (p:Pr) (g:G) (kd:Int) (leg:Cf->Bool) (R M:Int) (Inv:Cf->Cnt->Prop):Prop where
 closed:∀c s,J2O p g c->leg c=true->X35 p g kd c s->leg (J12 p g c s)=true
 en:∀c,J2O p g c->leg c=false->enN p g c≠0
 start:∀c,J2O p g c->leg c=false->Inv c (Q1b (enN p g c))
 step:∀c n s,J2O p g c->Inv c n->leg c=false->X35 p g kd c s->leg (J12 p g c s)=false->Inv (J12 p g c s) (n.add s (enN p g (J12 p g c s)))
 rounds:∀c n,J2O p g c->Inv c n->leg c=false->(n.rounds:Int)+1<=R
 moves:0<=M->∀c n s,J2O p g c->Inv c n->leg c=false->X35 p g kd c s->(n.moves:Int)+cnt s 32<=M
 ends:∃T,∀c,J2O p g c->leg c=false->¬ Lng p g kd leg T c
def J3t (p:Pr) (g:G) (kd:Int):Tsy:=⟨J1z p g,fun k=>enN p g (cfK p g k),J5q p g kd⟩
def Q08 (f:Nat->Int):Nat->Int
 | 0=>0
 | n+1=>Q08 f n+f n
theorem Q3a (f:Nat->Int):∀n,((List.range n).map f).sum=Q08 f n
 | 0=>rfl
 | n+1=>by rw[Yd,Zj,Kz,Q3a f n];simp[Q08]
theorem Q0d {f h:Nat->Int}:∀{n:Nat},(∀i,i<n->f i=h i)->Q08 f n=Q08 h n
 | 0,_=>rfl
 | n+1,e=>by rw[Q08,Q08,Q0d (fun i a=>e i (by omega)),e n (by omega)]
theorem Q1o:∀n,Q08 (fun _=>0) n=0
 | 0=>rfl
 | n+1=>by rw[Q08,Q1o n];rfl
theorem Q0e {f:Nat->Int} {B:Int}:∀{n:Nat},(∀i,i<n->-B<=f i/\f i<=B)->-((n:Int)*B)<=Q08 f n/\Q08 f n<=(n:Int)*B
 | 0,_=>by simp[Q08]
 | n+1,h=>by
   have c:=Q0e (n:=n) (fun i a=>h i (by omega));have b:=h n (by omega);have e:((n+1:Nat):Int)*B=(n:Int)*B+B:=by rw[Int.natCast_add,Int.add_mul];simp
   rw[Q08,e];omega
def gwX (p:Pr) (g:G) (c:Cf) (v x:Nat):Int:=(gI (J1P p g c v (J0z p g c v).toNat) x-gI (gC c v) x)*(plP p g v x:Nat)
def gwS (p:Pr) (g:G) (c:Cf) (v:Nat):Nat->Int:=Q08 (gwX p g c v)
def gwK (p:Pr) (g:G) (c:Cf) (v:Nat):Int:=if 0<=J0z p g c v then gwS p g c v p.vars.length else 0
def toS (p:Pr) (g:G) (c:Cf) (k s b:Nat):Int:=(k:Int)+Q08 (fun v=>if s.testBit v then gwK p g c v else 0) b
theorem Q8y {sz:Nat->Nat} (h:∀i,0<sz i) (a l b:Nat) (d:l<=b):Mx.pr sz a l<=Mx.pr sz a b:=by
 induction b with
 | zero =>
   obtain rfl:l=0:=by omega
   exact Qd _
 | succ b c =>
   by_cases e:l=b+1
   . subst e;exact Qd _
   . have:=c (by omega);rw[Mx.pr_snoc];exact Zw this (Nat.le_mul_of_pos_right _ (h _))
theorem Q4C {sz:Nat->Nat} (a l:Nat):∀m,Mx.pr sz a (l+m)=Mx.pr sz a l*Mx.pr sz (a+l) m
 | 0=>by simp[Mx.pr]
 | m+1=>by rw[<- Xk,Mx.pr_snoc,Q4C a l m,Mx.pr_snoc,Yp,Xk]
theorem Q8F (p:Pr) (g:G) {i:Nat} (a:i<nP p g):Mx.pr (szP p g) i (nP p g-i)=szP p g i*Mx.pr (szP p g) (i+1) (nP p g-(i+1)):=by
 have e:nP p g-i=(nP p g-(i+1))+1:=by omega
 rw[e,Mx.pr]
theorem X6K (p:Pr) (g:G) {i:Nat} (a:i<=nP p g):Mx.pr (szP p g) i (nP p g-i)<=J1z p g:=by
 have e:nP p g=i+(nP p g-i):=by omega
 rw[J1z]
 conv=>rhs;rw[e,Q4C]
 rw[Qk];exact Vg _ (Mx.pr_pos (J2E p g) _ _)
theorem X5t (p:Pr) (g:G) {v x:Nat} (d:v<g.ids.length) (a:x<p.vars.length):szX p g v x*plP p g v x<=J1z p g:=by
 have c:=J86 d a;have b:=Q8F p g c;rw[J4Z p g a] at b;rw[plP,<- b];exact X6K p g (Vf c)
theorem Q9L {p:Pr} (hp:J2C p) {g:G} (hF:J1L p g) (hg:g.valid=true) {c:Cf} (j:J2O p g c) {v x:Nat} (k:v<g.ids.length) (h:x<p.vars.length) (n:0<=J0z p g c v) (u:J1z p g<=32768) :
 -32768<=gwX p g c v x/\gwX p g c v x<=32768:=by
 obtain⟨f1,f2,f3,f4,f5,f6,f7⟩:=J0e hg;have r:=j.len
 -- the step of this node alone
 have m:J2D (2 ^ v) (enN p g c):=fun i o=>by
  have e:=J70 o;rw[J8A,Qg,Qa,Qa,<- e];exact⟨k,n⟩
 have hd:=J25 hp hF hg j m;have d:=J2x p g c (2 ^ v) (v:=v) (by omega);rw[Jt,Qe rfl] at d;have t:=j.val v (by omega) x h;have l:=hd.val v (by rw[J26];omega) x h;rw[d] at l;have y:=X5t p g k h;have w:=J3X hp g hF hg v h;change loP p g v x<=_/\_<=hiP p g v x at t l;rw[gwX];generalize gI (J1P p g c v (J0z p g c v).toNat) x=a at *;generalize gI (gC c v) x=b at *;have s:((szX p g v x*plP p g v x:Nat):Int)<=32768:=by omega
 rw[Zq] at s;have f:(0:Int)<=(plP p g v x:Nat):=Int.natCast_nonneg _;generalize ((plP p g v x:Nat):Int)=q at *;generalize ((szX p g v x:Nat):Int)=z at *;have C:(a-b)*q<=z*q:=Kr (by omega) f;have B:(b-a)*q<=z*q:=Kr (by omega) f;have A:(b-a)*q=-((a-b)*q):=by rw[<- Int.neg_mul];congr 1;omega
 omega
theorem Q3J {p:Pr} (hp:J2C p) {g:G} (hF:J1L p g) (hg:g.valid=true) {c:Cf} (e:J2O p g c) {v:Nat} (a:v<g.ids.length) (b:0<=J0z p g c v) (d:J1z p g<=32768) {x:Nat} (h:x<=p.vars.length) :
 -32768000<=gwS p g c v x/\gwS p g c v x<=32768000:=by
 have l:=Q0e (n:=x) (f:=gwX p g c v) (B:=32768) (fun i j=>Q9L hp hF hg e a (by omega) b d);have k:=hp.vlen;rw[gwS];omega
theorem X7i {p:Pr} (hp:J2C p) {g:G} (hF:J1L p g) (hg:g.valid=true) {c:Cf} (d:J2O p g c) {v:Nat} (a:v<g.ids.length) (b:J1z p g<=32768) :
 -32768000<=gwK p g c v/\gwK p g c v<=32768000:=by
 rw[gwK];split
 . rename_i h;exact Q3J hp hF hg d a h b (Qd _)
 . omega
theorem Q7H {p:Pr} (hp:J2C p) {g:G} (hF:J1L p g) (hg:g.valid=true) {c:Cf} (d:J2O p g c) (a:J1z p g<=32768) {k s b:Nat} (hk:k<32768) (h:b<=g.ids.length) :
 -1000000000<=toS p g c k s b/\toS p g c k s b<=1000000000:=by
 obtain⟨f1,f2,f3,f4,f5,f6,f7⟩:=J0e hg;have j:=Q0e (n:=b) (f:=fun v=>if s.testBit v then gwK p g c v else 0) (B:=32768000) (fun i e=>by
  show _<=(if s.testBit i then gwK p g c i else 0)/\(if s.testBit i then gwK p g c i else 0)<=_;split
  . exact X7i hp hF hg d (by omega) a
  . omega)
 rw[toS];omega
theorem X5r {p:Pr} (hp:J2C p) {g:G} (hF:J1L p g) (hg:g.valid=true) {c:Cf} (a:J2O p g c) {s:Nat} (b:J2D s (enN p g c)):toS p g c (rkC p g c) s g.ids.length=(rkC p g (J12 p g c s):Nat):=by
 have d:=a.len;rw[X6D a (J25 hp hF hg a b),toS,Q3a];congr 1;refine Q0d fun v f=>?_;rw[grX,Q3a,J2x p g c s (by omega)];cases e:s.testBit v with
 | false =>
   simp only[Xf,Xy];symm;rw[<- Q1o p.vars.length];exact Q0d fun x _=>by rw[Int.sub_self,Int.zero_mul]
 | true =>
   have:=b v e;rw[J8A,Qg,Qa,Qa] at this;simp only[Zl];rw[gwK,Qe this.2,gwS];rfl
theorem Q4q {p:Pr} {g:G} {c:Cf} {k s a b:Nat} (f:a<=b) (h:∀i,a<=i->i<b->s.testBit i=false):toS p g c k s b=toS p g c k s a:=by
 induction b with
 | zero =>
   obtain rfl:a=0:=by omega
   rfl
 | succ b d =>
   by_cases e:a=b+1
   . subst e;rfl
   . rw[<- d (by omega) (fun i j l=>h i j (by omega)),toS,toS,Q08,h b (by omega) (by omega)];simp
theorem X1H {p:Pr} {g:G} {c:Cf} {k s b:Nat} (h:s.testBit b=true):toS p g c k s (b+1)=toS p g c k s b+gwK p g c b:=by
 rw[toS,toS,Q08,h];simp;omega
theorem X9b {p:Pr} (hp:J2C p) {g:G} (hF:J1L p g) (hg:g.valid=true) {kd:Int} (hk:dk kd=true) (n:J1z p g<=32768) (he:∀c,(chs g kd (enN p g c)).2=0) (m:(J3t p g kd).tot (J1z p g)<=262144):(J3t p g kd).Ok:=by
 obtain⟨f1,f2,f3,f4,f5,f6,f7⟩:=J0e hg;have f:∀c s,s∈(chs g kd (enN p g c)).1->s≠0/\J2D s (enN p g c):=fun c s e=>by
  have d:=J5l p hg c;have i:=(J4G hk d (J3S d s e) (he c)).1 e;obtain⟨a,b,_⟩:=J1D.1 i;exact⟨a,(J05 (J3S d s e)).1 b⟩
 refine⟨X3p p g,n,fun k _=>Q3T p hg _,fun k h=>?_,fun k h=>?_,fun k h a j=>?_,m⟩
 . have i:=Q0T hg hk (J5l p hg (cfK p g k)) (J3x p hg _) (he _);show enN p g (cfK p g k)≠0↔J5q p g kd k≠[];rw[<- i,J5q];simp[V0]
 . show(J5q p g kd k).Pairwise _;rw[J5q,List.pairwise_map];exact J9T (J5l p hg _)
 . have j:a∈J5q p g kd k:=j;rw[J5q] at j;obtain⟨s,e,rfl⟩:=Qi.1 j;obtain⟨i,l⟩:=f _ s e;exact⟨i,l,Q8g hp hF hg (J25 hp hF hg (J7x hp hF hg k) l)⟩
structure Q4d (p:Pr):Prop where
 ok:J2C p
 v6:1<=p.vars.length/\p.vars.length<=6
 r12:p.rules.length<=12
 rv:Ret Tryz.prog 115 [p.v] (.bool true)
theorem Q7G {p:RP} (a:J2X p) (hp:Q20 p):Q4d (J2L p):=⟨Y4b a hp,hp.vl,by rw[J3i];exact hp.rl,X6y a hp⟩
theorem J6N (g:G) (b:g.Small):Ret Tryz.prog 118 [g.v] (.int .i64 (Q07 g)):=by
 have c:=b.ids;refine rf Y6c ?_
 all_goals conv=>whnf
 refine J0h J0c [1] (fun i:Nat=>[(4,.int .i64 ((i:Nat):Int)),(3,.int .i64 (J64 (g.ids.take i) 0))]) (fun m i=>m=g.ids.length-i/\i<=g.ids.length) g.ids.length 0 ⟨rfl,Qh _⟩ ?_ ?_
 . exact J0a J1v
 rintro m i ⟨d,f⟩;by_cases a:i<g.ids.length
 . have e:J64 (g.ids.take (i+1)) 0=if gI g.ids i > J64 (g.ids.take i) 0 then gI g.ids i else J64 (g.ids.take i) 0:=by
    rw[J0M g.ids i a,J5I]
   refine Vq ?_;refine⟨g.ids.length-(i+1),i+1,by omega,⟨rfl,by omega⟩,?_⟩;exact J0a J1v
 . obtain rfl:i=g.ids.length:=by omega
   refine Vq ?_;rw[Qz (Qd _)];exact vR_
theorem J32 (p:Pr) (hp:J2C p) (g:G) (i:g.Small) (hg:g.valid=true) (v x:Nat) (n:v<g.ports.length) (d:x<p.vars.length):Ret Tryz.prog 63 [p.v,g.v,.int .i64 v,.int .i64 x] (.tup [.int .i64 (bnd g (gV p.vars x) v).1,.int .i64 (bnd g (gV p.vars x) v).2]):=by
 obtain⟨f1,f2,f3,f4,f5,f6,f7⟩:=J0e hg;have h:=Q7F hg;have o:=J41 hg v;have c:=J6N g i;have f:=hp.vlen;obtain⟨hk,s,r,k,j⟩:=hp.var x d;refine rf fj63 ?_;rcases hk with hk|hk|hk
 . have m:=J9y k (show 0<=(g.ports.length:Int)/\(g.ports.length:Int)<=24 by omega);have l:=J9y j h;have e:bnd g (gV p.vars x) v=((gV p.vars x).lo,(gV p.vars x).hi+(gV p.vars x).pn*(g.ports.length:Int)+(gV p.vars x).pid*Q07 g):=by rw[bnd,Qe hk,f3]
   rw[e];generalize Q07 g=T at *;generalize b:(gV p.vars x).pn*(g.ports.length:Int)=P1 at *;generalize a:(gV p.vars x).pid*T=P2 at *
   repeat' ((conv=>whnf);first|(refine Ar.mk P1 (by rw[b];exact(J0Y (by omega) (by omega)).symm) ?_)|(refine Ar.mk P2 (by rw[a];exact(J0Y (by omega) (by omega)).symm) ?_)|(refine Br.dec ?_ ?_<;>intro _<;>try omega)|(refine Ar.q ?_)|(refine Ix.q ?_)|(refine c.go ?_)|(refine And.intro rfl ?_))
   all_goals conv=>whnf
   all_goals exact VLe.tup ⟨vR_,vR_,tI⟩
 . have e:bnd g (gV p.vars x) v=(0,1):=by rw[bnd,Qb (by omega),Qe hk]
   rw[e];refine Vq ?_
   all_goals exact VLe.tup ⟨vR_,vR_,tI⟩
 . have e:bnd g (gV p.vars x) v=(-1,((gR g.ports v).length:Int)-1):=by rw[bnd,Qb (by omega),Qb (by omega)]
   rw[e];refine Vq ?_
   all_goals exact VLe.tup ⟨vR_,vR_,tI⟩
theorem Q5h (g:G) (x:Vr) (hk:x.kind=1):X5c g x↔(0<=(bnd g x 0).2-(bnd g x 0).1/\(bnd g x 0).2-(bnd g x 0).1<=4095):=by
 have e:bnd g x 0=(x.lo,x.hi+x.pn*g.ids.length+x.pid*Q07 g):=by rw[bnd,Qe hk]
 rw[e,X5c];simp only;generalize x.hi+x.pn*g.ids.length+x.pid*Q07 g=H;constructor
 . intro h;have:=h hk;omega
 . intro h _;omega
theorem X79 {g:G} (hg:g.valid=true) {x:Vr} (a:Q4c x):-4096<=(bnd g x 0).2/\(bnd g x 0).2<=80000/\-1<=(bnd g x 0).1/\(bnd g x 0).1<=4096:=by
 obtain⟨f1,f2,f3,f4,f5,f6,f7⟩:=J0e hg;have b:=Q7F hg;have h:=J41 hg 0;obtain⟨hk,j,i,d,c⟩:=a;have f:=J9y d (show 0<=(g.ids.length:Int)/\(g.ids.length:Int)<=24 by omega);have e:=J9y c b;unfold bnd;split
 . simp only;omega
 . split<;>simp only<;>omega
open Classical in
noncomputable def J66 (p:Pr) (g:G):Int:=if g.valid=true then (if J1L p g then 0 else 9) else 1
theorem J5C (p:Pr) (hp:Q4d p) (g:G) (d:g.Small):Ret Tryz.prog 60 [p.v,g.v] (.int .i64 (J66 p g)):=by
 have u:=hp.rv;have j:=J7N g d;have n:=hp.v6;refine rf fj60 ?_;cases hg:g.valid with
 | false =>
   rw[hg] at j;rw[J66,hg,Qb (by simp)];exact Wq
 | true =>
   rw[hg] at j;rw[J66,Qe hg];obtain⟨f1,f2,f3,f4,f5,f6,f7⟩:=J0e hg;refine Vq ?_;refine J0h J0c [2,3] (fun i:Nat=>[(5,.int .i64 ((i:Nat):Int))]) (fun m i=>m=p.vars.length-i/\i<=p.vars.length/\∀k,k<i->X5c g (gV p.vars k)) p.vars.length 0 ⟨rfl,Qh _,fun k h=>by omega⟩ ?_ ?_
   . exact J0a J0r
   rintro m i ⟨r,s,a⟩;by_cases b:i<p.vars.length
   . have o:=J32 p hp.ok g d hg 0 i (by omega) b;rw[show((0:Nat):Int)=0 from rfl] at o;have l:=hp.ok.var i b;have t:=X79 hg l;have f:=Q0F ((bnd g (gV p.vars i) 0).2-(bnd g (gV p.vars i) 0).1) 0 4095;by_cases hk:(gV p.vars i).kind=1
     . by_cases c:X5c g (gV p.vars i)
       . rw[Qn ((Q5h g _ hk).1 c)] at f;refine Vq ?_;refine⟨p.vars.length-(i+1),i+1,by omega,⟨rfl,by omega,fun k hk=>?_⟩,?_⟩
         . by_cases e:k=i
           . subst e;exact c
           . exact a k (by omega)
         exact J0a J0r
       . rw[Qm (fun q=>c ((Q5h g _ hk).2 q))] at f;rw[Qb (fun q=>c (q i b))];exact Wq
     . have c:X5c g (gV p.vars i):=fun q=>(hk q).elim;refine Vq ?_;refine⟨p.vars.length-(i+1),i+1,by omega,⟨rfl,by omega,fun k hk=>?_⟩,?_⟩
       . by_cases e:k=i
         . subst e;exact c
         . exact a k (by omega)
       exact J0a J0r
   . obtain rfl:i=p.vars.length:=by omega
     rw[Qe (show J1L p g from fun k hk=>a k hk)];exact Wq
theorem J7q {p:Pr} {g:G} (hg:g.valid=true) (hF:J1L p g):J66 p g=0:=by rw[J66,Qe hg,Qe hF]
theorem X7v {p:Pr} {g:G} (h:J66 p g=0):g.valid=true/\J1L p g:=by
 rw[J66] at h;split at h
 . split at h
   . exact⟨by assumption,by assumption⟩
   . omega
 . omega
theorem Q73 (p:Pr) (hp:Q4d p) (g:G) (b:g.Small) (hg:g.valid=true) (hF:J1L p g) (v x:Nat) (h:v<g.ports.length) (f:x<p.vars.length):Ret Tryz.prog 117 [p.v,g.v,.int .i64 v,.int .i64 x] (.bool true):=by
 obtain⟨f1,f2,f3,f4,f5,f6,f7⟩:=J0e hg;have a:=hp.v6;have e:=J5C p hp g b;rw[J7q hg hF] at e;have d:=Q0F v 0 ((g.ports.length:Int)-1);have c:=Q0F x 0 ((p.vars.length:Int)-1);rw[Qn (by omega)] at d c;refine rf Y6d ?_;exact Wq
theorem Y1u {k a b v:Int} (h:a<=b):brI k a b v=if k=3/\¬ (a<=v/\v<=b) then -1 else (if b<(if a > v then a else v) then b else (if a > v then a else v)):=by
 rw[brI]
 repeat' split
 all_goals omega
theorem Q8r (p:Pr) (hp:J2C p) (g:G) (i:g.Small) (hg:g.valid=true) (hF:J1L p g) (v x:Nat) (h:v<g.ports.length) (d:x<p.vars.length) (a:Int):Ret Tryz.prog 123 [p.v,g.v,.int .i64 v,.int .i64 x,.int .i64 a] (.int .i64 (brI (gV p.vars x).kind (bnd g (gV p.vars x) v).1 (bnd g (gV p.vars x) v).2 a)):=by
 obtain⟨f1,f2,f3,f4,f5,f6,f7⟩:=J0e hg;have f:=hp.vlen;have j:=J32 p hp g i hg v x h d;have e:=Q0F a (bnd g (gV p.vars x) v).1 (bnd g (gV p.vars x) v).2;have b:=Q3D hp g hF hg v d;rw[loP,hiP] at b;rw[Y1u b];refine rf Y57 ?_;by_cases hk:(gV p.vars x).kind=3
 . by_cases c:(bnd g (gV p.vars x) v).1<=a/\a<=(bnd g (gV p.vars x) v).2
   . rw[Qn c] at e;rw[Qb (fun q=>q.2 c)];exact Wq
   . rw[Qm c] at e;rw[Qe ⟨hk,c⟩];exact Wq
 . rw[Qb (fun q=>hk q.1)];exact Wq
def J5r (p:Pr) (g:G) (k j v x:Nat):Int:=loP p g v x+((if v*p.vars.length+x<j then dgP p g k v x else 0:Nat):Int)
def Q05 (p:Pr) (g:G) (k i:Nat):Prop:=∀j,i<=j->j<nP p g->Mx.dg (szP p g) (nP p g) k j+1=szP p g j
theorem X08 {p:Pr} {g:G} {k v x:Nat} (b:v<g.ids.length) (a:x<p.vars.length):J5r p g k (nP p g) v x=gI (gC (cfK p g k) v) x:=by
 rw[J5r,Qe (J86 b a),J5n p g k b a]
theorem Q5K {p:Pr} {g:G} {k i v x:Nat} (a:v*p.vars.length+x≠i):J5r p g k i v x=J5r p g k (i+1) v x:=by
 rw[J5r,J5r];by_cases h:v*p.vars.length+x<i
 . rw[Qe h,Qe (by omega)]
 . rw[Qb h,Qb (by omega)]
theorem X32 {p:Pr} {g:G} {k v x:Nat}:J5r p g k (v*p.vars.length+x) v x=loP p g v x:=by
 rw[J5r,Qb (by omega)];simp
theorem X07 {p:Pr} {g:G} {k v x:Nat}:J5r p g k (v*p.vars.length+x+1) v x=loP p g v x+dgP p g k v x:=by
 rw[J5r,Qe (by omega)]
theorem Q9R {p:Pr} {g:G} {k v x:Nat} (b:x<p.vars.length) (h:Q05 p g k (v*p.vars.length+x+1)) (c:dgP p g k v x+1=szX p g v x):Q05 p g k (v*p.vars.length+x):=fun j d a=>by
 by_cases e:j=v*p.vars.length+x
 . subst e;rw[J4Z p g b];exact c
 . exact h j (by omega) a
theorem X09 {p:Pr} {g:G} {k v x:Nat} (hk:k<J1z p g) (r:v<g.ids.length) (f:x<p.vars.length) (h:Q05 p g k (v*p.vars.length+x+1)) (t:dgP p g k v x+1<szX p g v x) {c b:Nat} (d:c<g.ids.length) (a:b<p.vars.length) :
 gI (gC (cfK p g (k+1)) c) b=J5r p g k (v*p.vars.length+x+1) c b+(if c=v/\b=x then 1 else 0):=by
 have s:=J86 r f;have m:=J86 d a;have hd:=Mx.dg_next (J2E p g) hk s (by rw[J4Z p g f];exact t) (fun j u l=>h j (by omega) l) m;rw[J5n p g _ d a,dgP,hd,Mx.nx,J5r];by_cases e:c=v/\b=x
 . obtain⟨rfl,rfl⟩:=e;rw[Qb (by omega),Qe rfl,Qe (by omega),Qe ⟨rfl,rfl⟩,dgP];omega
 . have i:c*p.vars.length+b≠v*p.vars.length+x:=fun q=>e (by
    have o:=X6 (· / p.vars.length) q;have n:=X6 (· % p.vars.length) q;simp only[J5P f,J5P a,Q2c f,Q2c a] at o n;exact⟨o,n⟩)
   rw[Qb e];by_cases q:c*p.vars.length+b<v*p.vars.length+x
   . rw[Qe q,Qe (by omega),dgP];omega
   . rw[Qb q,Qb i,Qb (by omega)];omega
theorem Y1h (p:Pr) (g:G) {i:Nat} (f:i<nP p g):Mx.dg (szP p g) (nP p g) (J1z p g) i=0:=by
 have e:nP p g=i+((nP p g-(i+1))+1):=by omega
 have d:J1z p g=Mx.pr (szP p g) 0 i*szP p g i*Mx.pr (szP p g) (i+1) (nP p g-(i+1)):=by
  have c:∀a l m,Mx.pr (szP p g) a (l+m)=Mx.pr (szP p g) a l*Mx.pr (szP p g) (a+l) m:=by
   intro a l m
   induction m with
   | zero=>simp[Mx.pr]
   | succ m b=>rw[<- Xk,Mx.pr_snoc,b,Mx.pr_snoc,Yp,Xk]
  rw[J1z]
  conv=>lhs;rw[e,c,Qk,Mx.pr]
  rw[Yp]
 rw[Mx.dg,d,Nat.mul_div_cancel _ (Mx.pr_pos (J2E p g) _ _),Nat.mul_mod_left]
theorem X8p {p:Pr} {g:G} {k:Nat} (hk:k<J1z p g) (h:Q05 p g k 0) {v x:Nat} (c:v<g.ids.length) (b:x<p.vars.length):J5r p g k 0 v x=gI (gC (cfK p g (k+1)) v) x:=by
 have i:=Mx.dg_last (J2E p g) hk (fun j e=>h j (Qh _) e);have f:k+1=J1z p g:=i;rw[J5n p g _ c b,J5r,Qb (by omega),dgP,f,Y1h p g (J86 c b)]
def J59 (p:Pr) (g:G) (k j v x:Nat):Int:=loP p g v x+((if v*p.vars.length+x<j then 0 else dgP p g k v x:Nat):Int)
def Q1j (p:Pr) (g:G) (k j:Nat):Nat:=k / Mx.pr (szP p g) j (nP p g-j)
theorem Q7y (p:Pr) (g:G) (k:Nat):Q1j p g k (nP p g)=k:=by rw[Q1j,Ke,Mx.pr,Nat.div_one]
theorem X1D {p:Pr} {g:G} {k v x:Nat} (b:v<g.ids.length) (a:x<p.vars.length):Q1j p g k (v*p.vars.length+x+1) / szX p g v x=Q1j p g k (v*p.vars.length+x):=by
 rw[Q1j,<- J4Z p g a];exact Mx.rest_step _ _ _ (J86 b a)
theorem X5l {p:Pr} {g:G} {k v x:Nat} (a:x<p.vars.length):Q1j p g k (v*p.vars.length+x+1) % szX p g v x=dgP p g k v x:=by
 rw[Q1j,<- J4Z p g a];rfl
theorem Q5W {p:Pr} {g:G} {k v x:Nat} (b:v<g.ids.length) (a:x<p.vars.length):J59 p g k (nP p g) v x=loP p g v x:=by
 rw[J59,Qe (J86 b a)];simp
theorem Q1k {p:Pr} {g:G} {k i v x:Nat} (a:v*p.vars.length+x≠i):J59 p g k i v x=J59 p g k (i+1) v x:=by
 rw[J59,J59];by_cases h:v*p.vars.length+x<i
 . rw[Qe h,Qe (by omega)]
 . rw[Qb h,Qb (by omega)]
theorem Q7z {p:Pr} {g:G} {k v x:Nat}:J59 p g k (v*p.vars.length+x) v x=J59 p g k (v*p.vars.length+x+1) v x+dgP p g k v x:=by
 rw[J59,J59,Qb (by omega),Qe (by omega)];simp
theorem X1E {p:Pr} {g:G} {k v x:Nat} (b:v<g.ids.length) (a:x<p.vars.length):J59 p g k 0 v x=gI (gC (cfK p g k) v) x:=by
 rw[J59,Qb (by omega),J5n p g k b a]
theorem Q9f (p:Pr) (hp:J2C p) (g:G) (hF:J1L p g) (hg:g.valid=true) (s:J1z p g<=32768):Ret Tryz.prog 76 [X1j p g] (.tup [.int .i64 (J1z p g),.int .i64 0]):=by
 obtain⟨f1,f2,f3,f4,f5,f6,f7⟩:=J0e hg;have i:=hp.vlen;refine rf fj76 ?_
 all_goals conv=>whnf
 refine J0h J0c [9,10] (fun v:Nat=>[(4,.int .i64 (Mx.pr (szP p g) 0 (v*p.vars.length))),(11,.int .i64 v)]) (fun m v=>m=g.ids.length-v/\v<=g.ids.length) g.ids.length 0 ⟨rfl,Qh _⟩ ?_ ?_
 . refine J0F J1A ?_;exact J0b.int (by rw[Zr];rfl)
 rintro m v ⟨t,r⟩;by_cases c:v<g.ids.length
 . refine Vq ?_;refine J0h J0c [9,10,11,15,16] (fun x:Nat=>[(4,.int .i64 (Mx.pr (szP p g) 0 (v*p.vars.length+x))),(17,.int .i64 x)]) (fun m x=>m=p.vars.length-x/\x<=p.vars.length) p.vars.length 0 ⟨rfl,Qh _⟩ ?_ ?_
   . exact J0a J1A
   rintro n x ⟨j,o⟩;by_cases a:x<p.vars.length
   . have u:=J4I hg (hp.var x a) (hF _ a) (v:=v) (by omega);have d:=J3X hp g hF hg v a;have h:=J86 c a;have e:Mx.pr (szP p g) 0 (v*p.vars.length+x+1)=Mx.pr (szP p g) 0 (v*p.vars.length+x)*szX p g v x:=by
      rw[Mx.pr_snoc,Qk,J4Z p g a]
     have b:(Mx.pr (szP p g) 0 (v*p.vars.length+x):Int)*((bnd g (gV p.vars x) v).2-(bnd g (gV p.vars x) v).1+1)=(Mx.pr (szP p g) 0 (v*p.vars.length+x+1):Nat):=by
      rw[e,Zq,d];rfl
     have f:=Q8y (J2E p g) 0 (v*p.vars.length+x+1) (nP p g) h;change _<=J1z p g at f
     repeat' ((conv=>whnf);first|(refine Ar.i64 (by rw[b];omega) (by rw[b];omega) ?_;rw[b])|(refine Br.dec ?_ ?_<;>intro _<;>try omega)|(refine Ar.q ?_)|(refine Ix.q ?_)|(refine Ix.mk 0 rfl (by omega) ?_)|(refine Ix.mk 1 rfl (by omega) ?_))
     all_goals conv=>whnf
     refine⟨p.vars.length-(x+1),x+1,by omega,⟨rfl,by omega⟩,?_⟩;exact J0a J1A
   . have k:x=p.vars.length:=by omega
     subst k;refine Vq ?_;refine⟨g.ids.length-(v+1),v+1,by omega,⟨rfl,by omega⟩,?_⟩;refine J0F J1A ?_;exact J0b.int (by rw[Xc,Yy])
 . have l:v=g.ids.length:=by omega
   subst l;exact Wq
theorem Q9l (p:Pr) (hp:J2C p) (g:G) (a:g.Small) (hF:J1L p g) (hg:g.valid=true) (b:J1z p g<=32768):Ret Tryz.prog 32 [p.v,g.v] (.tup [.int .i64 (J1z p g),.int .i64 0]):=by
 have e:=Q3O p hp g a hF hg;have d:=J5y p hp g hF hg;have c:=Q9f p hp g hF hg b;refine rf fj32 ?_;exact Wq
def J83 (p:Pr):Nat->Nat:=fun _=>p.vars.length
def J3d (f:Nat->Nat->Int):Nat->Nat->Nat->V:=fun v x _=>.int .i64 (f v x)
def J8U (p:Pr) (g:G) (f:Nat->Nat->Int) (op:List (Nat×Nat)):Blk:=.fam g.ids.length 1 (J83 p) (J3d f) op
def X4k (p:Pr) (g:G) (v x:Nat):Nat->Nat->V:=fun i _=>if i<x then .int .i64 (loP p g v i) else .int .i64 0
theorem Q78 (p:Pr) (g:G) (v x a i j:Nat) (b:a=x) (d:j<1):VLe (J1l (X4k p g v x) a 0 [.int .i64 (loP p g v x)] i j) (X4k p g v (x+1) i j):=by
 obtain rfl:j=0:=by omega
 subst b;apply vE_;by_cases h:i=a
 . subst h;simp[J1l,X4k]
 . have c:(i<a+1)=(i<a):=by simp;omega
   simp[J1l,X4k,h,c]
theorem Q1w (p:Pr) (g:G) (v i j t:Nat) (a:j<J3G (Q4Z p.vars.length v) v p.vars.length i) (b:t<1):VLe (J4W (J3d (loP p g)) v (X4k p g v p.vars.length) i j t) (J3d (loP p g) i j t):=by
 apply vE_;simp only[J4W];split
 . rename_i e;subst e;rw[J3G,Qe rfl] at a;rw[X4k,Qe a];rfl
 . rfl
def LowF (p:Pr) (g:G) (F:FuncId):Prop:=J08 Tryz.prog F=true/\∀v x,v<g.ids.length->x<p.vars.length->Ret Tryz.prog F [.int .i64 v,.int .i64 x,.fe 1 1 (tab [[X1j p g]]) 0 0] (.int .i64 (loP p g v x))
theorem Q9g (p:Pr) (hp:J2C p) (g:G) (hF:J1L p g) (hg:g.valid=true) (F:FuncId) (hF:LowF p g F) :
 J0N Tryz.prog 80 [X1j p g,.fn (.func F) false [.loc 0 0]] [(0,.cells [X1j p g])] KS2.tail fun v own' _=>v=.vec 1 1 0 g.ids.length/\own'=[(1,J8U p g (loP p g) []),(0,.cells [X1j p g])]:=by
 obtain⟨f1,f2,f3,f4,f5,f6,f7⟩:=J0e hg;have o:=hp.vlen;refine J2d ?_;refine fr fj80 ?_;refine Vq ?_;refine J0s J0c [0,1,5,12] [2] J2z [2,1,0] (fun v:Nat=>[(13,.int .i64 v)])
  (fun own v=>(2,.vec (Q4Z p.vars.length v v) 1 (J3d (loP p g) v))::J2g (J2g own 1 (.fam g.ids.length 1 (Q4Z p.vars.length v) (J3d (loP p g)) [])) 1 (.fam g.ids.length 1 (Q4Z p.vars.length v) (J3d (loP p g)) (opn v g.ids.length 2))) (fun k v=>k=g.ids.length-v/\v<=g.ids.length) g.ids.length 0 ⟨rfl,Qh _⟩ rfl (fun _=>rfl) ?_ ?_
 . have e:opn 0 g.ids.length 2=[(0,2)]:=Qe (by omega);simp only[e];refine J3b.trans ?_ (J0Q (ks:=J1k) rfl rfl rfl (by omega) rfl) (J2H rfl);refine J0d J0r ?_ ?_ rfl
   . repeat' (first|exact tI|(refine J0b.fn ?_)|(refine⟨⟨_,rfl,?_⟩,?_⟩)|exact J0b.kf rfl|exact J0b.loc rfl|exact J0b.q|apply And.intro)
   . repeat' (first|exact⟨rfl,rfl,rfl,fun i a=>⟨rfl,Qb (by omega)⟩⟩|exact tI|(refine⟨⟨_,rfl,?_⟩,?_⟩)|exact J0b.kf rfl|apply And.intro)
 rintro k v ⟨hk,w⟩;by_cases c:v<g.ids.length
 . have e:opn v g.ids.length 2=[(v,2)]:=Qe c;simp only[e]
   repeat' ((conv=>whnf);first|(refine Br.dec ?_ ?_<;>intro _<;>try omega)|(refine Ix.q ?_)|(refine Bd.q ?_)|(refine Len.q ?_)|(refine Ltn.q ?_)|(refine MkS.vec ?_)|(refine J45.hd (by omega) ?_))
   all_goals conv=>whnf
   refine J0s J0c [0,1,5,6,12,13,29] [] J3j [3,2,1,0] (fun x:Nat=>[(30,.int .i64 x)])
    (fun own x=>J2g own 3 (.vec p.vars.length 1 (X4k p g v x))) (fun k x=>k=p.vars.length-x/\x<=p.vars.length) p.vars.length 0 ⟨rfl,Qh _⟩ rfl (fun _=>rfl) ?_ ?_
   . refine J0d J1u ?_ ?_ rfl
     . repeat' (first|exact tI|(refine J0b.fn ?_)|(refine⟨⟨_,rfl,?_⟩,?_⟩)|exact J0b.kf rfl|exact J0b.loc rfl|exact J0b.q|apply And.intro)
     . repeat' (first|exact⟨rfl,rfl,⟨rfl,rfl,tI⟩,fun i a=>rfl,fun i j t a f b d=>vR_⟩|(refine⟨Qd _,rfl,fun i j a b=>vE_ ?_⟩;rw[X4k,Qb (by omega)];(obtain rfl:j=0:=(by omega));rfl)|exact tI|(refine⟨⟨_,rfl,?_⟩,?_⟩)|exact J0b.kf rfl|(refine⟨Qd _,rfl,fun i j a b=>?_⟩)|exact vR_|apply And.intro)
   rintro k x ⟨r,u⟩;by_cases h:x<p.vars.length
   . have l:=hF.2 v x c h
     repeat' ((conv=>whnf);first|(refine Br.dec ?_ ?_<;>intro _<;>try omega)|(refine Ar.q ?_)|(refine Ix.q ?_)|(refine Ltn.q ?_)|(refine Opn.hdl (by omega) (show J3G _ _ _ _=p.vars.length from Qe rfl) ?_)|(refine Chk.mk hF.1 ?_)|(refine J2e l rfl ⟨vR_,vR_,vR_,tI⟩ ?_)|(refine And.intro (Ltn.mk (by omega) (Opn.hdl (by omega) (show J3G _ _ _ _=p.vars.length from Qe rfl) rfl)) ?_))
     all_goals conv=>whnf
     refine⟨p.vars.length-(x+1),x+1,by omega,⟨rfl,by omega⟩,?_⟩;refine J0F J1u ?_;intro i j a b
     first|exact⟨rfl,rfl,⟨rfl,rfl,tI⟩,fun i a=>rfl,fun i j t a f b d=>vR_⟩|exact Q78 _ _ _ _ _ _ _ (Qk _) b
   . have s:x=p.vars.length:=by omega
     subst s;refine Vq ?_;refine⟨g.ids.length-(v+1),v+1,by omega,⟨rfl,by omega⟩,?_⟩;refine J3b.trans (J1M (J1q (q:=3) (k:=1) (i:=v) [] rfl rfl c (J0j rfl) (Y4 (Qe rfl)) rfl (fun j b=>(J0o (fun e=>b e.symm)).symm))) ?_ (J9E rfl);by_cases m:v+1<g.ids.length
     . have n:opn (v+1) g.ids.length 2=[(v+1,2)]:=Qe m;simp only[n];refine J3b.trans ?_ (J0Q (ks:=J1k) rfl rfl rfl m rfl) (J2H rfl);refine J0d J0r ?_ ?_ rfl
       . repeat' (first|exact tI|(refine J0b.fn ?_)|(refine⟨⟨_,rfl,?_⟩,?_⟩)|exact J0b.kf rfl|exact J0b.loc rfl|exact J0b.q|apply And.intro)
       . repeat' (first|exact⟨rfl,rfl,tI,fun i a=>(J7l _ _ _).symm,fun i j t a f b d=>Q1w p g v i j t b d⟩|exact tI|(refine⟨⟨_,rfl,?_⟩,?_⟩)|exact J0b.kf rfl|apply And.intro)
     . have n:opn (v+1) g.ids.length 2=[]:=Qb m;simp only[n];refine J0d (fun _ _=>[(0,some 0),(1,some 1),(2,none)]) ?_ ?_ rfl
       . repeat' (first|exact tI|(refine J0b.fn ?_)|(refine⟨⟨_,rfl,?_⟩,?_⟩)|exact J0b.kf rfl|exact J0b.loc rfl|exact J0b.q|apply And.intro)
       . repeat' (first|exact⟨rfl,rfl,tI,fun i a=>(J7l _ _ _).symm,fun i j t a f b d=>Q1w p g v i j t b d⟩|exact⟨1,J3d (loP p g) (v+1),by rw[Q15]⟩|exact tI|(refine⟨⟨_,rfl,?_⟩,?_⟩)|exact J0b.kf rfl|apply And.intro)
 . have e:opn v g.ids.length 2=[]:=Qb c;have y:v=g.ids.length:=by omega
   simp only[e];refine Vq ?_;exact J2R (fun _=>[(0,some 0),(1,some 1)]) _ _ ⟨rfl,rfl⟩ (J0b.vec rfl rfl rfl) (by repeat' (first|(refine⟨rfl,rfl,tI,fun i a=>(Qe (by omega)).symm,fun i j t a f b d=>vR_⟩)|exact tI|(refine⟨⟨_,rfl,?_⟩,?_⟩)|exact J0b.kf rfl|apply And.intro)) rfl
theorem X62 (p:Pr) (hp:J2C p) (g:G) (hF:J1L p g) (hg:g.valid=true):LowF p g 81:=by
 obtain⟨f1,f2,f3,f4,f5,f6,f7⟩:=J0e hg;refine⟨by kernel_rfl,fun v x b a=>?_⟩;refine rf fj81 ?_;exact Wq
theorem Q9c (p:Pr) (hp:J2C p) (g:G) (a:g.Small) (hF:J1L p g) (hg:g.valid=true):J0N Tryz.prog 34 [p.v,g.v] [] KS2 fun v own' _=>v=.tup [.vec 0 1 0 g.ids.length,.int .i64 0]/\own'=[(0,J8U p g (loP p g) [])]:=by
 have e:=Q3O p hp g a hF hg;have d:=J5y p hp g hF hg;have c:=Q9g p hp g hF hg _ (X62 p hp g hF hg);refine J2d ?_;refine fr fj34 ?_
 repeat' ((conv=>whnf);first|(refine Br.ff ?_)|(refine e.go ?_)|(refine d.go ?_)|(refine J3y [(0,some 2)] [1] (c.mono ?_) ⟨J0b.kf rfl,J0b.fn ⟨J0b.loc rfl,tI⟩,tI⟩ (by repeat' (first|exact tI|(refine⟨⟨_,rfl,?_⟩,?_⟩)|exact J0b.kf rfl|apply And.intro)) rfl;rintro _ _ _ ⟨rfl,rfl⟩)|(refine Chk.mk rfl ?_))
 all_goals conv=>whnf
 exact J2R (fun _=>[(0,some 3)]) _ _ ⟨rfl,rfl⟩ (J0b.tup ⟨J0b.vec rfl rfl rfl,J0b.kf rfl,tI⟩) (by repeat' (first|(refine⟨rfl,rfl,tI,fun i b=>rfl,fun i j t b h k f=>vR_⟩)|exact tI|(refine⟨⟨_,rfl,?_⟩,?_⟩))) rfl
def szM (s:Nat->Nat):Nat->Nat
 | 0=>1
 | i+1=>if 1073741824<szM s i*s i then 1073741824 else szM s i*s i
theorem X9a (s:Nat->Nat):∀i,szM s i<=1073741824
 | 0=>by rw[szM];decide
 | i+1=>by
   rw[szM];split<;>omega
theorem X4f {s:Nat->Nat} (h:∀i,0<s i):∀i,szM s i=if 1073741824<Mx.pr s 0 i then 1073741824 else Mx.pr s 0 i
 | 0=>by rw[szM,Mx.pr,Qb (by decide)]
 | i+1=>by
   rw[szM,X4f h i,Mx.pr_snoc,Qk];by_cases q:1073741824<Mx.pr s 0 i
   . have b:1073741824*1<=1073741824*s i:=Z0 (Qd _) (h i);have a:Mx.pr s 0 i*1<=Mx.pr s 0 i*s i:=Z0 (Qd _) (h i);rw[Qe q,Qe (show 1073741824<Mx.pr s 0 i*s i by omega)];split<;>omega
   . rw[Qb q]
theorem X4o (s:Nat->Nat) (a:Nat):∀l,Mx.pr s 0 (a+l)=Mx.pr s 0 a*Mx.pr s a l
 | 0=>by simp[Mx.pr]
 | l+1=>by
   rw[<- Xk,Mx.pr_snoc,X4o s a l,Mx.pr_snoc,Qk,Yp]
theorem X4n {s t:Nat->Nat}:∀l a b,(∀i,i<l->s (a+i)=t (b+i))->Mx.pr s a l=Mx.pr t b l
 | 0,_,_,_=>rfl
 | l+1,a,b,h=>by
   rw[Mx.pr_snoc,Mx.pr_snoc,X4n l a b (fun i c=>h i (by omega)),h l (by omega)]
def szV (p:Pr) (g:G) (v:Nat):Nat:=Mx.pr (szP p g) (v*p.vars.length) p.vars.length
theorem X89 (p:Pr) (g:G) (v:Nat):szM (szX p g v) p.vars.length=if 1073741824<szV p g v then 1073741824 else szV p g v:=by
 rw[X4f (s:=szX p g v) (fun i=>Ve _),szV,X4n (s:=szX p g v) (t:=szP p g) p.vars.length 0 (v*p.vars.length) fun i a=>by rw[Qk,J4Z p g a]]
theorem X6J (p:Pr) (g:G) (v:Nat):Mx.pr (szP p g) 0 ((v+1)*p.vars.length)=Mx.pr (szP p g) 0 (v*p.vars.length)*szV p g v:=by
 rw[Xc,Yy,X4o];rfl
theorem X88 {p:Pr} (hp:J2C p) {g:G} (hF:J1L p g) (hg:g.valid=true) {v x:Nat} (b:v<g.ports.length) (a:x<p.vars.length):szX p g v x<=8193:=by
 have c:=J4I hg (hp.var x a) (hF x a) b;rw[szX,hiP,loP];omega
theorem Q59 (p:Pr) (hp:Q4d p) (g:G) (f:g.Small) (hF:J1L p g) (hg:g.valid=true) (v:Nat) (d:v<g.ports.length):Ret Tryz.prog 61 [p.v,g.v,.int .i64 v] (.int .i64 (szM (szX p g v) p.vars.length:Nat)):=by
 obtain⟨f1,f2,f3,f4,f5,f6,f7⟩:=J0e hg;have h:=hp.v6;have k:=Q73 p hp g f hg hF v 0 d (by omega);rw[show((0:Nat):Int)=0 from rfl] at k;refine rf fj61 ?_;refine Vq ?_;refine J0h J0c [2,3,4] (fun x:Nat=>[(8,.int .i64 ((x:Nat):Int)),(7,.int .i64 (szM (szX p g v) x:Nat))]) (fun m x=>m=p.vars.length-x/\x<=p.vars.length) p.vars.length 0 ⟨rfl,Qh _⟩ ?_ ?_
 . exact J0a J0r
 rintro m x ⟨n,l⟩;by_cases a:x<p.vars.length
 . have j:=J32 p hp.ok g f hg v x d a;have o:=J4I hg (hp.ok.var x a) (hF x a) d;have c:=J3X hp.ok g hF hg v a;rw[hiP,loP] at c;have i:=Z0 (X9a (szX p g v) x) (X88 hp.ok hF hg d a);have b:(szM (szX p g v) x:Int)*((bnd g (gV p.vars x) v).2-(bnd g (gV p.vars x) v).1+1)=(szM (szX p g v) x*szX p g v x:Nat):=by rw[Zq,c]
   have e:((szM (szX p g v) (x+1):Nat):Int)=if (1073741824:Int)<((szM (szX p g v) x*szX p g v x:Nat):Int) then (1073741824:Int) else ((szM (szX p g v) x*szX p g v x:Nat):Int):=by
    rw[szM];split<;>split<;>omega
   generalize szM (szX p g v) x*szX p g v x=q at *
   repeat' ((conv=>whnf);first|(refine Ar.i64 (by rw[b];omega) (by rw[b];omega) ?_;rw[b])|(refine Br.dec ?_ ?_<;>intro _<;>try omega)|(refine Ar.q ?_)|(refine Sv.mk _ rfl ?_)|(refine j.go ?_))
   all_goals conv=>whnf
   refine⟨p.vars.length-(x+1),x+1,by omega,⟨rfl,by omega⟩,?_⟩;exact J0a J0r
 . obtain rfl:x=p.vars.length:=by omega
   exact Wq
def X8M (p:Pr) (g:G):V:=if J1z p g<=32768 then .tup [.int .i64 (J1z p g),.int .i64 0] else .tup [.int .i64 0,.int .i64 3]
theorem X3o {p:Pr} {g:G} {v:Nat} (a:v<g.ids.length):Mx.pr (szP p g) 0 ((v+1)*p.vars.length)<=J1z p g:=by
 have h:(v+1)*p.vars.length<=nP p g:=Z0 a (Qd _);exact Q8y (J2E p g) 0 _ _ h
theorem Q1Q (p:Pr) (hp:Q4d p) (g:G) (l:g.Small) (hF:J1L p g) (hg:g.valid=true):Ret Tryz.prog 26 [p.v,g.v] (X8M p g):=by
 obtain⟨f1,f2,f3,f4,f5,f6,f7⟩:=J0e hg;have r:=J5C p hp g l;rw[J7q hg hF] at r;refine rf Y4u ?_;refine Vq ?_;refine J0h J0c [2,3] (fun v:Nat=>[(8,.int .i64 ((v:Nat):Int)),(7,.int .i64 (Mx.pr (szP p g) 0 (v*p.vars.length):Nat))]) (fun m v=>m=g.ports.length-v/\v<=g.ports.length/\Mx.pr (szP p g) 0 (v*p.vars.length)<=32768) g.ports.length 0 ⟨rfl,Qh _,by rw[Zr];show 1<=32768;omega⟩ ?_ ?_
 . refine J0F J0r ?_;exact J0b.int (by rw[Zr];rfl)
 rintro m v ⟨t,s,c⟩;by_cases h:v<g.ports.length
 . have f:=Q59 p hp g l hF hg v h;rw[X89] at f;have o:=X3o (p:=p) (g:=g) (v:=v) (by omega);have b:=X6J p g v;have i:=Mx.pr_pos (sz:=szP p g) (J2E p g) (v*p.vars.length) 0;have n:1*szV p g v<=Mx.pr (szP p g) 0 (v*p.vars.length)*szV p g v:=Z0 i (Qd _);by_cases q1:szV p g v<=32768
   . rw[Qb (by omega)] at f;have a:((Mx.pr (szP p g) 0 (v*p.vars.length):Nat):Int)*(szV p g v:Nat)=(Mx.pr (szP p g) 0 ((v+1)*p.vars.length):Nat):=by rw[b,Zq]
     have d:=Z0 c q1;rw[<- b] at d;by_cases q2:Mx.pr (szP p g) 0 ((v+1)*p.vars.length)<=32768
     . generalize j:Mx.pr (szP p g) 0 ((v+1)*p.vars.length)=nx at *
       repeat' ((conv=>whnf);first|(refine Ar.i64 (by rw[a];omega) (by rw[a];omega) ?_;rw[a])|(refine Br.dec ?_ ?_<;>intro _<;>try omega)|(refine Ar.q ?_)|(refine f.go ?_))
       all_goals conv=>whnf
       refine⟨g.ports.length-(v+1),v+1,by omega,⟨rfl,by omega,by rw[j];exact q2⟩,?_⟩;exact J0a J0r
     . rw[X8M,Qb (by omega)];generalize Mx.pr (szP p g) 0 ((v+1)*p.vars.length)=nx at *
       repeat' ((conv=>whnf);first|(refine Ar.i64 (by rw[a];omega) (by rw[a];omega) ?_;rw[a])|(refine Br.dec ?_ ?_<;>intro _<;>try omega)|(refine f.go ?_))
       all_goals conv=>whnf
       exact VLe.tup ⟨vR_,vR_,tI⟩
   . rw[X8M,Qb (by omega)];generalize hk:(if 1073741824<szV p g v then 1073741824 else szV p g v)=k at *;have:32768<k:=by rw[<- hk];split<;>omega
     refine Vq ?_;exact VLe.tup ⟨vR_,vR_,tI⟩
 . obtain rfl:v=g.ports.length:=by omega
   have e:Mx.pr (szP p g) 0 (g.ports.length*p.vars.length)=J1z p g:=by rw[f3];rfl
   rw[e] at c ⊢;rw[X8M,Qe c];refine Vq ?_;exact VLe.tup ⟨vR_,vR_,tI⟩
theorem Q6n (p:Pr) (hp:Q4d p) (g:G) (a:g.Small) (c:J66 p g≠0):Ret Tryz.prog 26 [p.v,g.v] (.tup [.int .i64 0,.int .i64 (J66 p g)]):=by
 have b:=J5C p hp g a;refine rf Y4u ?_;refine Vq ?_;exact VLe.tup ⟨vR_,vR_,tI⟩
theorem Q7p {sz d:Nat->Nat}:∀l a,Mx.vl sz d a (l+1)=Mx.vl sz d a l*sz (a+l)+d (a+l)
 | 0,a=>by simp[Mx.vl,Mx.pr]
 | l+1,a=>by
   rw[Mx.vl,Q7p l (a+1),Mx.pr_snoc,Mx.vl,Xc,Yp,show a+1+l=a+(l+1) by omega,Xk]
theorem X3t {p:Pr} {g:G} {c:Cf} (hp:J2C p) (hF:J1L p g) (hg:g.valid=true) (b:J2O p g c) {v x:Nat} (d:v<g.ids.length) (a:x<p.vars.length):(dgC p g c (v*p.vars.length+x):Int)=gI (gC c v) x-loP p g v x:=by
 have h:=b.val v (by rw[b.len];exact d) x a;rw[dgC,J5P a,Q2c a];rw[loP];omega
theorem Q6f (p:Pr) (hp:Q4d p) (g:G) (u:g.Small) (hF:J1L p g) (hg:g.valid=true) (H:J1z p g<=32768) (c:Cf) (k:J2O p g c):Ret Tryz.prog 31 [p.v,g.v,cV c] (.int .i64 (rkC p g c:Nat)):=by
 obtain⟨f1,f2,f3,f4,f5,f6,f7⟩:=J0e hg;have o:=k.len;have t:=hp.v6;refine rf fj31 ?_
 all_goals conv=>whnf
 refine J0h J0c [2,3,4] (fun v:Nat=>[(8,.int .i64 ((v:Nat):Int)),(7,.int .i64 (Mx.vl (szP p g) (dgC p g c) 0 (v*p.vars.length):Nat))]) (fun m v=>m=c.length-v/\v<=c.length) c.length 0 ⟨rfl,Qh _⟩ ?_ ?_
 . refine J0F J0r ?_;exact J0b.int (by rw[Zr];rfl)
 rintro m v ⟨I,E⟩;by_cases e:v<c.length
 . have s:=k.row v e;refine Vq ?_;refine J0h J0c [2,3,4,8] (fun x:Nat=>[(9,.int .i64 ((x:Nat):Int)),(7,.int .i64 (Mx.vl (szP p g) (dgC p g c) 0 (v*p.vars.length+x):Nat))]) (fun m x=>m=p.vars.length-x/\x<=p.vars.length) p.vars.length 0 ⟨rfl,Qh _⟩ ?_ ?_
   . exact J0a J0r
   rintro C x ⟨w,D⟩;by_cases a:x<p.vars.length
   . have B:=J32 p hp.ok g u hg v x (by omega) a;have J:=J4I hg (hp.ok.var x a) (hF x a) (v:=v) (by omega);have f:=J3X hp.ok g hF hg v a;have n:=X3t hp.ok hF hg k (show v<g.ids.length by omega) a;have r:=k.val v e x a;rw[hiP] at f;have j:=J86 (show v<g.ids.length by omega) a;have y:=Mx.vl_lt (sz:=szP p g) (d:=dgC p g c) (v*p.vars.length+x+1) 0 (fun i _ A=>X4Q hp.ok hF hg k i (Xu A (by rw[Qk];exact j)));have l:=Q8y (J2E p g) 0 (v*p.vars.length+x+1) (nP p g) j;change _<=J1z p g at l;have h:=Q7p (sz:=szP p g) (d:=dgC p g c) (v*p.vars.length+x) 0;rw[Qk,J4Z p g a] at h;have b:((Mx.vl (szP p g) (dgC p g c) 0 (v*p.vars.length+x):Nat):Int)*((bnd g (gV p.vars x) v).2-(bnd g (gV p.vars x) v).1+1)=((Mx.vl (szP p g) (dgC p g c) 0 (v*p.vars.length+x)*szX p g v x:Nat):Int):=by
      rw[Zq,f];rfl
     rw[loP] at n;generalize F:Mx.vl (szP p g) (dgC p g c) 0 (v*p.vars.length+x)*szX p g v x=q at *;have z:gI (gC c v) (0+x)=gI (gC c v) x:=by rw[Qk]
     repeat' ((conv=>whnf);first|(refine Ar.i64 (by rw[b];omega) (by rw[b];omega) ?_;rw[b])|(refine Br.dec ?_ ?_<;>intro _<;>try omega)|(refine Ar.q ?_)|(refine Ix.q ?_)|(refine B.go ?_))
     all_goals conv=>whnf
     refine⟨p.vars.length-(x+1),x+1,by omega,⟨rfl,by omega⟩,?_⟩;refine J0F J0r ?_;exact J0b.int (by rw[<- Xk,h];omega)
   . obtain rfl:x=p.vars.length:=by omega
     refine Vq ?_;refine⟨c.length-(v+1),v+1,by omega,⟨rfl,by omega⟩,?_⟩;refine J0F J0r ?_;exact J0b.int (by rw[Xc,Yy])
 . obtain rfl:v=c.length:=by omega
   refine Vq ?_;rw[o];exact vR_
theorem J7Y (p:Pr) (hp:Q4d p) (g:G) (f:g.Small) (hF:J1L p g) (hg:g.valid=true) (c:Cf) (e:J2O p g c):Ret Tryz.prog 72 [p.v,g.v,cV c] (.int .i64 0):=by
 obtain⟨f1,f2,f3,f4,f5,f6,f7⟩:=J0e hg;have k:=e.len;have i:=hp.v6;have n:=J5C p hp g f;rw[J7q hg hF] at n;refine rf fj72 ?_;refine Vq ?_;refine J0h J0c [2,3,4] (fun v:Nat=>[(8,.int .i64 ((v:Nat):Int))]) (fun m v=>m=c.length-v/\v<=c.length) c.length 0 ⟨rfl,Qh _⟩ ?_ ?_
 . exact J0a J0r
 rintro m v ⟨s,r⟩;by_cases a:v<c.length
 . have h:=e.row v a;refine Vq ?_;refine J0h J0c [2,3,4,8] (fun x:Nat=>[(9,.int .i64 ((x:Nat):Int))]) (fun m x=>m=p.vars.length-x/\x<=p.vars.length) p.vars.length 0 ⟨rfl,Qh _⟩ ?_ ?_
   . exact J0a J0r
   rintro o x ⟨j,q⟩;by_cases b:x<p.vars.length
   . have t:=J32 p hp.ok g f hg v x (by omega) b;have d:=e.val v a x b;have l:=Q0F (gI (gC c v) x) (bnd g (gV p.vars x) v).1 (bnd g (gV p.vars x) v).2;rw[Qn d] at l;refine Vq ?_;refine⟨p.vars.length-(x+1),x+1,by omega,⟨rfl,by omega⟩,?_⟩;exact J0a J0r
   . obtain rfl:x=p.vars.length:=by omega
     refine Vq ?_;refine⟨c.length-(v+1),v+1,by omega,⟨rfl,by omega⟩,?_⟩;exact J0a J0r
 . obtain rfl:v=c.length:=by omega
   exact Wq
theorem Q3e (p:Pr) (hp:Q4d p) (g:G) (a:g.Small) (hF:J1L p g) (hg:g.valid=true) (c:Cf) (b:J2O p g c):Ret Tryz.prog 64 [p.v,g.v,cV c] (.bool true):=by
 have d:=J7Y p hp g a hF hg c b;refine rf fj64 ?_;exact Wq
end Go.Proofs.YtcbnimaicgegfaaGreatDoor
