import Derived.Test.YtlpfphlbghdokaaGreatDoorAS4
namespace Go.Proofs.YtlpfphlbghdokaaGreatDoor
open Go.Eng Go.Plain
set_option maxRecDepth 100000
set_option linter.unusedVariables false
structure MvI (s:Tsy) (lg:Nat->Bool) (Q:Nat->Nat->Prop) (B:Nat) (r:Nat->Nat):Prop where
 leg:∀k,k<s.n->lg k=true->r k=0
 out:∀k,k<s.n->lg k=false->Q k (r k)
 bnd:∀k,r k<=B
theorem MvI.step {s:Tsy} {lg:Nat->Bool} {Q:Nat->Nat->Prop} (hQ:MQ s lg Q) {B:Nat} {r:Nat->Nat} (h:MvI s lg Q B r) {k:Nat} {a:Nat×Nat} (hk:k<s.n) (hl:lg k=false) (ha:a∈s.ar k) (hto:a.2<s.n) :
 MvI s lg Q (B+32) (fun x=>if x=k then max (r k) (cnt a.1 32+r a.2) else r x):=by
 refine⟨fun x hx hlx=>?_,fun x hx hlx=>?_,fun x=>?_⟩
 . show(if x=k then _ else r x)=0;rw[if_neg (fun e=>by rw[e,hl] at hlx;cases hlx)];exact h.leg x hx hlx
 . show Q x (if x=k then _ else r x);by_cases e:x=k
   . subst e;rw[if_pos rfl];exact hQ.max _ _ _ (h.out x hx hlx) (hQ.step x a _ hx hlx ha (fun q=>h.out _ hto q) (fun q=>h.leg _ hto q))
   . rw[if_neg e];exact h.out x hx hlx
 . show(if x=k then _ else r x)<=_;have h1:=h.bnd k;have h2:=h.bnd a.2;have h3:=h.bnd x;have h4:=J4o a.1 32;split<;>omega
end Go.Proofs.YtlpfphlbghdokaaGreatDoor
namespace Go.Eng
end Go.Eng
namespace Go.Proofs.YtlpfphlbghdokaaGreatDoor
open Go.Eng Go.Plain
set_option maxRecDepth 100000
set_option linter.unusedVariables false
structure RdI (s:Tsy) (lg:Nat->Bool) (Q:Nat->Nat->Nat->Prop) (i:Nat) (r:Nat->Nat):Prop where
 leg:∀k,k<s.n->lg k=true->r k=0
 out:∀k,k<s.n->k<i->lg k=false->Q k (s.en k) (r k)
theorem RdI.start (s:Tsy) (lg:Nat->Bool) (Q:Nat->Nat->Nat->Prop):RdI s lg Q 0 (fun _=>0):=⟨fun _ _ _=>rfl,fun k _ h=>by omega⟩
theorem RdI.skip {s:Tsy} {lg:Nat->Bool} {Q:Nat->Nat->Nat->Prop} {i:Nat} {r:Nat->Nat} (h:RdI s lg Q i r) (hl:lg i=true):RdI s lg Q (i+1) r :=
 ⟨h.leg,fun k hk hki hlk=>h.out k hk (by
   rcases Nat.lt_or_ge k i with q|q
   . exact q
   . have:k=i:=by omega
     subst this;rw[hl] at hlk;cases hlk) hlk⟩
def J4I (p:Pr) (g:G) (k j v x:Nat):Int:=loP p g v x+((if v*p.vars.length+x<j then dgP p g k v x else 0:Nat):Int)
def J96 (p:Pr) (g:G) (k i:Nat):Prop:=∀j,i<=j->j<nP p g->Mx.dg (szP p g) (nP p g) k j+1=szP p g j
theorem Q9x {p:Pr} {g:G} {k v x:Nat} (hv:v<g.ids.length) (hx:x<p.vars.length):J4I p g k (nP p g) v x=gI (gC (cfK p g k) v) x:=by
 rw[J4I,if_pos (J74 hv hx),J3W p g k hv hx]
theorem Q4R {p:Pr} {g:G} {k i v x:Nat} (hne:v*p.vars.length+x≠i):J4I p g k i v x=J4I p g k (i+1) v x:=by
 rw[J4I,J4I];by_cases h:v*p.vars.length+x<i
 . rw[if_pos h,if_pos (by omega)]
 . rw[if_neg h,if_neg (by omega)]
theorem X2g {p:Pr} {g:G} {k v x:Nat}:J4I p g k (v*p.vars.length+x) v x=loP p g v x:=by
 rw[J4I,if_neg (by omega)];simp
theorem Q9w {p:Pr} {g:G} {k v x:Nat}:J4I p g k (v*p.vars.length+x+1) v x=loP p g v x+dgP p g k v x:=by
 rw[J4I,if_pos (by omega)]
theorem Q8q {p:Pr} {g:G} {k v x:Nat} (hx:x<p.vars.length) (h:J96 p g k (v*p.vars.length+x+1)) (h1:dgP p g k v x+1=szX p g v x):J96 p g k (v*p.vars.length+x):=fun j hj hjn=>by
 by_cases e:j=v*p.vars.length+x
 . subst e;rw[J3D p g hx];exact h1
 . exact h j (by omega) hjn
theorem Q9y {p:Pr} {g:G} {k v x:Nat} (hk:k<J1g p g) (hv:v<g.ids.length) (hx:x<p.vars.length) (h:J96 p g k (v*p.vars.length+x+1)) (h1:dgP p g k v x+1<szX p g v x) {v' x':Nat} (hv':v'<g.ids.length) (hx':x'<p.vars.length) :
 gI (gC (cfK p g (k+1)) v') x'=J4I p g k (v*p.vars.length+x+1) v' x'+(if v'=v/\x'=x then 1 else 0):=by
 have hi:=J74 hv hx;have hi':=J74 hv' hx';have hd:=Mx.dg_next (J22 p g) hk hi (by rw[J3D p g hx];exact h1) (fun j hj hjn=>h j (by omega) hjn) hi';rw[J3W p g _ hv' hx',dgP,hd,Mx.nx,J4I];by_cases e:v'=v/\x'=x
 . obtain⟨rfl,rfl⟩:=e;rw[if_neg (by omega),if_pos rfl,if_pos (by omega),if_pos ⟨rfl,rfl⟩,dgP];omega
 . have hne:v'*p.vars.length+x'≠v*p.vars.length+x:=fun q=>e (by
    have a1:=congrArg (· / p.vars.length) q;have a2:=congrArg (· % p.vars.length) q;simp only[J45 hx,J45 hx',Q1d hx,Q1d hx'] at a1 a2;exact⟨a1,a2⟩)
   rw[if_neg e];by_cases q:v'*p.vars.length+x'<v*p.vars.length+x
   . rw[if_pos q,if_pos (by omega),dgP];omega
   . rw[if_neg q,if_neg hne,if_neg (by omega)];omega
theorem X7J (p:Pr) (g:G) {i:Nat} (hi:i<nP p g):Mx.dg (szP p g) (nP p g) (J1g p g) i=0:=by
 have e:nP p g=i+((nP p g-(i+1))+1):=by omega
 have h1:J1g p g=Mx.pr (szP p g) 0 i*szP p g i*Mx.pr (szP p g) (i+1) (nP p g-(i+1)):=by
  have h2:∀a l m,Mx.pr (szP p g) a (l+m)=Mx.pr (szP p g) a l*Mx.pr (szP p g) (a+l) m:=by
   intro a l m
   induction m with
   | zero=>simp[Mx.pr]
   | succ m ih=>rw[<- Nat.add_assoc,Mx.pr_snoc,ih,Mx.pr_snoc,Nat.mul_assoc,Nat.add_assoc]
  rw[J1g]
  conv=>lhs;rw[e,h2,Nat.zero_add,Mx.pr]
  rw[Nat.mul_assoc]
 rw[Mx.dg,h1,Nat.mul_div_cancel _ (Mx.pr_pos (J22 p g) _ _),Nat.mul_mod_left]
theorem X5K {p:Pr} {g:G} {k:Nat} (hk:k<J1g p g) (h:J96 p g k 0) {v x:Nat} (hv:v<g.ids.length) (hx:x<p.vars.length):J4I p g k 0 v x=gI (gC (cfK p g (k+1)) v) x:=by
 have h1:=Mx.dg_last (J22 p g) hk (fun j hj=>h j (Nat.zero_le _) hj);have h2:k+1=J1g p g:=h1;rw[J3W p g _ hv hx,J4I,if_neg (by omega),dgP,h2,X7J p g (J74 hv hx)]
def J58 (p:Pr) (g:G) (k j v x:Nat):Int:=loP p g v x+((if v*p.vars.length+x<j then 0 else dgP p g k v x:Nat):Int)
def Q0i (p:Pr) (g:G) (k j:Nat):Nat:=k / Mx.pr (szP p g) j (nP p g-j)
theorem Q6g (p:Pr) (g:G) (k:Nat):Q0i p g k (nP p g)=k:=by rw[Q0i,Nat.sub_self,Mx.pr,Nat.div_one]
theorem X0c {p:Pr} {g:G} {k v x:Nat} (hv:v<g.ids.length) (hx:x<p.vars.length):Q0i p g k (v*p.vars.length+x+1) / szX p g v x=Q0i p g k (v*p.vars.length+x):=by
 rw[Q0i,<- J3D p g hx];exact Mx.rest_step _ _ _ (J74 hv hx)
theorem X3K {p:Pr} {g:G} {k v x:Nat} (hx:x<p.vars.length):Q0i p g k (v*p.vars.length+x+1) % szX p g v x=dgP p g k v x:=by
 rw[Q0i,<- J3D p g hx];rfl
theorem Q41 {p:Pr} {g:G} {k v x:Nat} (hv:v<g.ids.length) (hx:x<p.vars.length):J58 p g k (nP p g) v x=loP p g v x:=by
 rw[J58,if_pos (J74 hv hx)];simp
theorem Q0j {p:Pr} {g:G} {k i v x:Nat} (hne:v*p.vars.length+x≠i):J58 p g k i v x=J58 p g k (i+1) v x:=by
 rw[J58,J58];by_cases h:v*p.vars.length+x<i
 . rw[if_pos h,if_pos (by omega)]
 . rw[if_neg h,if_neg (by omega)]
theorem Q6h {p:Pr} {g:G} {k v x:Nat}:J58 p g k (v*p.vars.length+x) v x=J58 p g k (v*p.vars.length+x+1) v x+dgP p g k v x:=by
 rw[J58,J58,if_neg (by omega),if_pos (by omega)];simp
theorem X0d {p:Pr} {g:G} {k v x:Nat} (hv:v<g.ids.length) (hx:x<p.vars.length):J58 p g k 0 v x=gI (gC (cfK p g k) v) x:=by
 rw[J58,if_neg (by omega),J3W p g k hv hx]
theorem Q03 (p:Pr) (hp:J2p p) (g:G) (hg:g.valid=true) (hn:J1g p g<=32768):Ret Tryz.prog 34 [Q9J p g] (.tup [.int .i64 (J1g p g),.int .i64 0]):=by
 obtain⟨f1,f2,f3,f4,f5,f6,f7⟩:=J0f hg;have hvl:=hp.vlen;refine J0g rfl ?_;refine J0c J0b Tryz.func34 rfl hc34 hr34 rfl ?_
 repeat' ((conv=>whnf);first|fail)
 all_goals (conv=>whnf)
 refine J0N J0b [9,10] (fun v:Nat=>[(4,.int .i64 (Mx.pr (szP p g) 0 (v*p.vars.length))),(11,.int .i64 v)]) (fun m v=>m=g.ids.length-v/\v<=g.ids.length) g.ids.length 0 ⟨rfl,Nat.zero_le _⟩ ?_ ?_
 . refine J0e (fun _ _=>[]) ?_ ?_ rfl
   . repeat' (first|exact J0a.int (by rw[Nat.zero_mul];rfl)|exact tI|(refine⟨⟨_,rfl,?_⟩,?_⟩)|exact J0a.kf rfl)
   . repeat' (first|exact tI)
 rintro m v ⟨hm,hv⟩;by_cases hvn:v<g.ids.length
 . repeat' ((conv=>whnf);first|(refine Br.dec ?_ ?_<;>intro _<;>try omega)|(refine Ix.q ?_))
   all_goals (conv=>whnf)
   refine J0N J0b [9,10,11,15,16] (fun x:Nat=>[(4,.int .i64 (Mx.pr (szP p g) 0 (v*p.vars.length+x))),(17,.int .i64 x)]) (fun m x=>m=p.vars.length-x/\x<=p.vars.length) p.vars.length 0 ⟨rfl,Nat.zero_le _⟩ ?_ ?_
   . exact J0k (fun _ _=>[])
   rintro m2 x ⟨hm2,hx⟩;by_cases hxn:x<p.vars.length
   . have hb:=J54 hg (hp.var x hxn) (v:=v) (by omega);have hsz:=J4s hp g hg v hxn;have hix:=J74 hvn hxn;have hpr:Mx.pr (szP p g) 0 (v*p.vars.length+x+1)=Mx.pr (szP p g) 0 (v*p.vars.length+x)*szX p g v x:=by
      rw[Mx.pr_snoc,Nat.zero_add,J3D p g hxn]
     have hmul:(Mx.pr (szP p g) 0 (v*p.vars.length+x):Int)*((bnd g (gV p.vars x) v).2-(bnd g (gV p.vars x) v).1+1)=(Mx.pr (szP p g) 0 (v*p.vars.length+x+1):Nat):=by
      rw[hpr,Int.natCast_mul,hsz];rfl
     have hle:=X6F (J22 p g) 0 (v*p.vars.length+x+1) (nP p g) hix;change _<=J1g p g at hle
     repeat' ((conv=>whnf);first|(refine Ar.i64 (by rw[hmul];omega) (by rw[hmul];omega) ?_;rw[hmul])|(refine Br.dec ?_ ?_<;>intro _<;>try omega)|(refine Ar.q ?_)|(refine Ix.q ?_)|(refine Ix.mk 0 rfl (by omega) ?_)|(refine Ix.mk 1 rfl (by omega) ?_))
     all_goals (conv=>whnf)
     refine⟨p.vars.length-(x+1),x+1,by omega,⟨rfl,by omega⟩,?_⟩;exact J0k (fun _ _=>[])
   . have ex:x=p.vars.length:=by omega
     subst ex
     repeat' ((conv=>whnf);first|(refine Br.dec ?_ ?_<;>intro _<;>try omega)|(refine Ar.q ?_))
     all_goals (conv=>whnf)
     refine⟨g.ids.length-(v+1),v+1,by omega,⟨rfl,by omega⟩,?_⟩;refine J0e (fun _ _=>[]) ?_ ?_ rfl
     . repeat' (first|exact J0a.int (by rw[Nat.add_mul,Nat.one_mul])|exact tI|(refine⟨⟨_,rfl,?_⟩,?_⟩)|exact J0a.kf rfl)
     . repeat' (first|exact tI)
 . have ev:v=g.ids.length:=by omega
   subst ev
   repeat' ((conv=>whnf);first|(refine Br.dec ?_ ?_<;>intro _<;>try omega))
   all_goals (conv=>whnf)
   exact VLe.rfl
theorem Q7D (p:Pr) (hp:J2p p) (g:G) (hs:g.Small) (hg:g.valid=true) (hn:J1g p g<=32768):Ret Tryz.prog 26 [p.v,g.v] (.tup [.int .i64 (J1g p g),.int .i64 0]):=by
 have h1:=J9H p hp g hs hg;have h2:=J31 p hp g hg;have h3:=Q03 p hp g hg hn;refine J0g rfl ?_;refine J0c J0b Tryz.func26 rfl hc26 hr26 rfl ?_
 repeat' ((conv=>whnf);first|(refine Br.ff ?_)|(refine h1.go ?_)|(refine h2.go ?_)|(refine h3.go ?_))
 all_goals (conv=>whnf)
 exact VLe.rfl
def Q5m (p:Pr):Nat->Nat:=fun _=>p.vars.length
def J3p (f:Nat->Nat->Int):Nat->Nat->Nat->V:=fun v x _=>.int .i64 (f v x)
def J8H (p:Pr) (g:G) (f:Nat->Nat->Int) (op:List (Nat×Nat)):Blk:=.fam g.ids.length 1 (Q5m p) (J3p f) op
def X2y (p:Pr) (g:G) (v x:Nat):Nat->Nat->V:=fun i _=>if i<x then .int .i64 (loP p g v i) else .int .i64 0
theorem Q6O (p:Pr) (g:G) (v x x' i j:Nat) (hx:x'=x) (hj:j<1):VLe (J0M (X2y p g v x) x' 0 [.int .i64 (loP p g v x)] i j) (X2y p g v (x+1) i j):=by
 obtain rfl:j=0:=by omega
 subst hx;apply VLe.of_eq;by_cases h:i=x'
 . subst h;simp[J0M,X2y]
 . have h1:(i<x'+1)=(i<x'):=by simp;omega
   simp[J0M,X2y,h,h1]
theorem Q0B (p:Pr) (g:G) (v i j t:Nat) (hj:j<J2R (Q33 p.vars.length v) v p.vars.length i) (ht:t<1):VLe (J3t (J3p (loP p g)) v (X2y p g v p.vars.length) i j t) (J3p (loP p g) i j t):=by
 apply VLe.of_eq;simp only[J3t];split
 . rename_i e;subst e;rw[J2R,if_pos rfl] at hj;rw[X2y,if_pos hj];rfl
 . rfl
def Y24 (p:Pr) (g:G) (F:FuncId):Prop:=J08 Tryz.prog F=true/\∀v x,v<g.ids.length->x<p.vars.length->Ret Tryz.prog F [.int .i64 v,.int .i64 x,.fe 1 1 (tab [[Q9J p g]]) 0 0] (.int .i64 (loP p g v x))
set_option maxHeartbeats 8000000 in
theorem Q04 (p:Pr) (hp:J2p p) (g:G) (hg:g.valid=true) (F:FuncId) (hF:Y24 p g F) :
 J0G Tryz.prog 35 [Q9J p g,.fn (.func F) false [.loc 0 0]] [(0,.cells [Q9J p g])] KS2.tail fun v own' _=>v=.vec 1 1 0 g.ids.length/\own'=[(1,J8H p g (loP p g) []),(0,.cells [Q9J p g])]:=by
 obtain⟨f1,f2,f3,f4,f5,f6,f7⟩:=J0f hg;have hvl:=hp.vlen;refine J1q ?_;refine J0c J0b Tryz.func35 rfl hc35 hr35 rfl ?_
 repeat' ((conv=>whnf);first|(refine Bd.q ?_)|(refine Len.q ?_)|(refine MkS.vec ?_))
 all_goals (conv=>whnf)
 refine J01 J0b [0,1,5,12] [2] [3,4,5,6,7,8,9,10,11,12,13,14,15,16,17,18,19,20,21,22,23,24,25,26,27,28,29] [2,1,0] (fun v:Nat=>[(13,.int .i64 v)])
  (fun own v=>(2,.vec (Q33 p.vars.length v v) 1 (J3p (loP p g) v))::J1H (J1H own 1 (.fam g.ids.length 1 (Q33 p.vars.length v) (J3p (loP p g)) [])) 1 (.fam g.ids.length 1 (Q33 p.vars.length v) (J3p (loP p g)) (opn v g.ids.length 2))) (fun k v=>k=g.ids.length-v/\v<=g.ids.length) g.ids.length 0 ⟨rfl,Nat.zero_le _⟩ rfl (fun _=>rfl) ?_ ?_
 . have e:opn 0 g.ids.length 2=[(0,2)]:=if_pos (by omega);simp only[e];refine J3A.trans ?_ (J1b (ks:=[2,3,4,5,6,7,8,9,10,11,12,13,14,15,16,17,18,19,20,21,22,23,24,25,26,27,28,29]) rfl rfl rfl (by omega) rfl) (J2I rfl);refine J0e (fun _ _=>[(0,some 0),(1,some 1)]) ?_ ?_ rfl
   . repeat' (first|exact tI|(refine J0a.fn ?_)|(refine⟨⟨_,rfl,?_⟩,?_⟩)|exact J0a.kf rfl|exact J0a.loc rfl|exact J0a.q|apply And.intro)
   . repeat' (first|exact⟨rfl,rfl,rfl,fun i hi=>⟨rfl,if_neg (by omega)⟩⟩|exact tI|(refine⟨⟨_,rfl,?_⟩,?_⟩)|exact J0a.kf rfl|apply And.intro)
 rintro k v ⟨hk,hv⟩;by_cases hvn:v<g.ids.length
 . have e:opn v g.ids.length 2=[(v,2)]:=if_pos hvn;simp only[e]
   repeat' ((conv=>whnf);first|(refine Br.dec ?_ ?_<;>intro _<;>try omega)|(refine Ix.q ?_)|(refine Bd.q ?_)|(refine Len.q ?_)|(refine Ltn.q ?_)|(refine MkS.vec ?_)|(refine J16.hd (by omega) ?_))
   all_goals (conv=>whnf)
   refine J01 J0b [0,1,5,6,12,13,29] [] [4,5,6,7,8,9,10,11,12,13,14,15,16,17,18,19,20,21,22,23,24,25,26,27,28,29] [3,2,1,0] (fun x:Nat=>[(30,.int .i64 x)])
    (fun own x=>J1H own 3 (.vec p.vars.length 1 (X2y p g v x))) (fun k x=>k=p.vars.length-x/\x<=p.vars.length) p.vars.length 0 ⟨rfl,Nat.zero_le _⟩ rfl (fun _=>rfl) ?_ ?_
   . refine J0e (fun _ _=>[(0,some 0),(1,some 1),(2,some 2),(3,some 3)]) ?_ ?_ rfl
     . repeat' (first|exact tI|(refine J0a.fn ?_)|(refine⟨⟨_,rfl,?_⟩,?_⟩)|exact J0a.kf rfl|exact J0a.loc rfl|exact J0a.q|apply And.intro)
     . repeat' (first|exact⟨rfl,rfl,⟨rfl,rfl,True.intro⟩,fun i hi=>rfl,fun i j t hi hn hj ht=>VLe.rfl⟩|(refine⟨Nat.le_refl _,rfl,fun i j hi hj=>VLe.of_eq ?_⟩;rw[X2y,if_neg (by omega)];(obtain rfl:j=0:=(by omega));rfl)|exact tI|(refine⟨⟨_,rfl,?_⟩,?_⟩)|exact J0a.kf rfl|(refine⟨Nat.le_refl _,rfl,fun i j hi hj=>?_⟩)|exact VLe.rfl|apply And.intro)
   rintro k x ⟨hk2,hx⟩;by_cases hxn:x<p.vars.length
   . have hfx:=hF.2 v x hvn hxn
     repeat' ((conv=>whnf);first|(refine Br.dec ?_ ?_<;>intro _<;>try omega)|(refine Ar.q ?_)|(refine Ix.q ?_)|(refine Ltn.q ?_)|(refine Opn.hdl (by omega) (show J2R _ _ _ _=p.vars.length from if_pos rfl) ?_)|(refine Chk.mk hF.1 ?_)|(refine J0Q hfx rfl ⟨VLe.rfl,VLe.rfl,VLe.rfl,True.intro⟩ ?_)|(refine And.intro (Ltn.mk (by omega) (Opn.hdl (by omega) (show J2R _ _ _ _=p.vars.length from if_pos rfl) rfl)) ?_))
     all_goals (conv=>whnf)
     refine⟨p.vars.length-(x+1),x+1,by omega,⟨rfl,by omega⟩,?_⟩;refine J0e (fun _ _=>[(0,some 0),(1,some 1),(2,some 2),(3,some 3)]) ?_ ?_ rfl
     . repeat' (first|exact tI|(refine J0a.fn ?_)|(refine⟨⟨_,rfl,?_⟩,?_⟩)|exact J0a.kf rfl|exact J0a.loc rfl|exact J0a.q|apply And.intro)
     . repeat' (first|exact⟨rfl,rfl,⟨rfl,rfl,True.intro⟩,fun i hi=>rfl,fun i j t hi hn hj ht=>VLe.rfl⟩|exact Q6O _ _ _ _ _ _ _ (Nat.zero_add _) hj|exact tI|(refine⟨⟨_,rfl,?_⟩,?_⟩)|exact J0a.kf rfl|(refine⟨Nat.le_refl _,rfl,fun i j hi hj=>?_⟩)|exact VLe.rfl|apply And.intro)
   . have ex:x=p.vars.length:=by omega
     subst ex
     repeat' ((conv=>whnf);first|(refine Br.dec ?_ ?_<;>intro _<;>try omega)|(refine Ar.q ?_))
     all_goals (conv=>whnf)
     refine⟨g.ids.length-(v+1),v+1,by omega,⟨rfl,by omega⟩,?_⟩;refine J3A.trans (J2i (J1m (q:=3) (k:=1) (i:=v) [] rfl rfl hvn (J0n rfl) (Nat.le_of_eq (if_pos rfl)) rfl (fun j hj=>(J0l (fun e=>hj e.symm)).symm))) ?_ (J7d rfl);by_cases h1:v+1<g.ids.length
     . have e1:opn (v+1) g.ids.length 2=[(v+1,2)]:=if_pos h1;simp only[e1];refine J3A.trans ?_ (J1b (ks:=[2,3,4,5,6,7,8,9,10,11,12,13,14,15,16,17,18,19,20,21,22,23,24,25,26,27,28,29]) rfl rfl rfl h1 rfl) (J2I rfl);refine J0e (fun _ _=>[(0,some 0),(1,some 1)]) ?_ ?_ rfl
       . repeat' (first|exact tI|(refine J0a.fn ?_)|(refine⟨⟨_,rfl,?_⟩,?_⟩)|exact J0a.kf rfl|exact J0a.loc rfl|exact J0a.q|apply And.intro)
       . repeat' (first|exact⟨rfl,rfl,True.intro,fun i hi=>(J6k _ _ _).symm,fun i j t hi hn hj ht=>Q0B p g v i j t hj ht⟩|exact tI|(refine⟨⟨_,rfl,?_⟩,?_⟩)|exact J0a.kf rfl|apply And.intro)
     . have e1:opn (v+1) g.ids.length 2=[]:=if_neg h1;simp only[e1];refine J0e (fun _ _=>[(0,some 0),(1,some 1),(2,none)]) ?_ ?_ rfl
       . repeat' (first|exact tI|(refine J0a.fn ?_)|(refine⟨⟨_,rfl,?_⟩,?_⟩)|exact J0a.kf rfl|exact J0a.loc rfl|exact J0a.q|apply And.intro)
       . repeat' (first|exact⟨rfl,rfl,True.intro,fun i hi=>(J6k _ _ _).symm,fun i j t hi hn hj ht=>Q0B p g v i j t hj ht⟩|exact⟨1,J3p (loP p g) (v+1),by rw[Q06]⟩|exact tI|(refine⟨⟨_,rfl,?_⟩,?_⟩)|exact J0a.kf rfl|apply And.intro)
 . have e:opn v g.ids.length 2=[]:=if_neg hvn;have ev:v=g.ids.length:=by omega
   simp only[e]
   repeat' ((conv=>whnf);first|(refine Br.dec ?_ ?_<;>intro _<;>try omega))
   all_goals (conv=>whnf)
   exact J1l (fun _=>[(0,some 0),(1,some 1)]) _ _ ⟨rfl,rfl⟩ (J0a.vec rfl rfl rfl) (by repeat' (first|(refine⟨rfl,rfl,True.intro,fun i hi=>(if_pos (by omega)).symm,fun i j t hi hn hj ht=>VLe.rfl⟩)|exact tI|(refine⟨⟨_,rfl,?_⟩,?_⟩)|exact J0a.kf rfl|apply And.intro)) rfl
theorem X4r (p:Pr) (hp:J2p p) (g:G) (hg:g.valid=true):Y24 p g 64:=by
 obtain⟨f1,f2,f3,f4,f5,f6,f7⟩:=J0f hg;refine⟨by kernel_rfl,fun v x hv hx=>?_⟩;refine J0g rfl ?_;refine J0c J0b Tryz.func64 rfl hc64 hr64 rfl ?_
 repeat' ((conv=>whnf);first|(refine Ix.q ?_)|(refine Ix.mk 0 rfl (by omega) ?_))
 all_goals (conv=>whnf)
 exact VLe.rfl
theorem X4q (p:Pr) (hp:J2p p) (g:G) (hg:g.valid=true):Y24 p g 36:=by
 obtain⟨f1,f2,f3,f4,f5,f6,f7⟩:=J0f hg;refine⟨by kernel_rfl,fun v x hv hx=>?_⟩;refine J0g rfl ?_;refine J0c J0b Tryz.func36 rfl hc36 hr36 rfl ?_
 repeat' ((conv=>whnf);first|(refine Ix.q ?_)|(refine Ix.mk 0 rfl (by omega) ?_))
 all_goals (conv=>whnf)
 exact VLe.rfl
theorem Q7u (p:Pr) (hp:J2p p) (g:G) (hs:g.Small) (hg:g.valid=true):J0G Tryz.prog 29 [p.v,g.v] [] KS2 fun v own' _=>v=.tup [.vec 0 1 0 g.ids.length,.int .i64 0]/\own'=[(0,J8H p g (loP p g) [])]:=by
 have h1:=J9H p hp g hs hg;have h2:=J31 p hp g hg;have h3:=Q04 p hp g hg _ (X4r p hp g hg);refine J1q ?_;refine J0c J0b Tryz.func29 rfl hc29 hr29 rfl ?_
 repeat' ((conv=>whnf);first|(refine Br.ff ?_)|(refine h1.go ?_)|(refine h2.go ?_)|(refine J12 [(0,some 2)] [1] (h3.mono ?_) ⟨J0a.kf rfl,J0a.fn ⟨J0a.loc rfl,True.intro⟩,True.intro⟩ (by repeat' (first|exact tI|(refine⟨⟨_,rfl,?_⟩,?_⟩)|exact J0a.kf rfl|apply And.intro)) rfl;rintro _ _ _ ⟨rfl,rfl⟩)|(refine Chk.mk rfl ?_))
 all_goals (conv=>whnf)
 exact J1l (fun _=>[(0,some 3)]) _ _ ⟨rfl,rfl⟩ (J0a.tup ⟨J0a.vec rfl rfl rfl,J0a.kf rfl,True.intro⟩) (by repeat' (first|(refine⟨rfl,rfl,True.intro,fun i hi=>rfl,fun i j t hi hn hj ht=>VLe.rfl⟩)|exact tI|(refine⟨⟨_,rfl,?_⟩,?_⟩))) rfl
theorem Q5M (p:Pr) (g:G) (k v x x' i j:Nat) (hx:x'=x) (hj:j<1) (a:Int) (ha:a=loP p g v x):VLe (J0M (J3p (J4I p g k (v*p.vars.length+x+1)) v) x' 0 [.int .i64 a] i j) (J3p (J4I p g k (v*p.vars.length+x)) v i j):=by
 obtain rfl:j=0:=by omega
 subst hx ha;apply VLe.of_eq;by_cases h:i=x'
 . subst h;have:=X2g (p:=p) (g:=g) (k:=k) (v:=v) (x:=i);simp[J0M,J3p,this]
 . have:=Q4R (p:=p) (g:=g) (k:=k) (i:=v*p.vars.length+x') (v:=v) (x:=i) (by omega);simp[J0M,J3p,h,this]
theorem X2h (p:Pr) (g:G) (k v x i j t:Nat) (hx:x<p.vars.length) (hj:j<p.vars.length) (hi:i≠v):VLe (J3p (J4I p g k (v*p.vars.length+x+1)) i j t) (J3p (J4I p g k (v*p.vars.length+x)) i j t):=by
 apply VLe.of_eq;have hne:i*p.vars.length+j≠v*p.vars.length+x:=fun q=>hi (by
  have a1:=congrArg (· / p.vars.length) q;simpa only[J45 hx,J45 hj] using a1)
 simp only[J3p];rw[Q4R hne]
theorem Q5N (p:Pr) (g:G) (k v x x' i j:Nat) (hk:k<J1g p g) (hv:v<g.ids.length) (hxm:x<p.vars.length) (h:J96 p g k (v*p.vars.length+x+1)) (h1:dgP p g k v x+1<szX p g v x) (hx:x'=x) (hi:i<p.vars.length) (hj:j<1) (a:Int) (ha:a=J4I p g k (v*p.vars.length+x+1) v x+1) :
 VLe (J0M (J3p (J4I p g k (v*p.vars.length+x+1)) v) x' 0 [.int .i64 a] i j) (J3p (fun v x=>gI (gC (cfK p g (k+1)) v) x) v i j):=by
 obtain rfl:j=0:=by omega
 subst hx ha;apply VLe.of_eq;have:=Q9y hk hv hxm h h1 hv hi;by_cases e:i=x'
 . subst e;rw[if_pos ⟨rfl,rfl⟩] at this;simp[J0M,J3p,this]
 . rw[if_neg (fun q=>e q.2)] at this;simp[J0M,J3p,e,this]
theorem Q3b (p:Pr) (g:G) (k v x i j t:Nat) (hk:k<J1g p g) (hv:v<g.ids.length) (hxm:x<p.vars.length) (h:J96 p g k (v*p.vars.length+x+1)) (h1:dgP p g k v x+1<szX p g v x) (hi:i<g.ids.length) (hj:j<p.vars.length) (hne:i≠v) :
 VLe (J3p (J4I p g k (v*p.vars.length+x+1)) i j t) (J3p (fun v x=>gI (gC (cfK p g (k+1)) v) x) i j t):=by
 apply VLe.of_eq;have:=Q9y hk hv hxm h h1 hi hj;rw[if_neg (fun q=>hne q.1)] at this;simp[J3p,this]
theorem J3N (f:Nat->Nat->Nat->V) (v i j t:Nat):VLe (J3t f v (f v) i j t) (f i j t):=by
 apply VLe.of_eq;simp only[J3t];split
 . rename_i e;rw[e]
 . rfl
theorem Q5L (p:Pr) (g:G) (k v x i j t:Nat) (hk:k<J1g p g) (hv:v<g.ids.length) (hxm:x<p.vars.length) (h:J96 p g k (v*p.vars.length+x+1)) (h1:dgP p g k v x+1<szX p g v x) (hi:i<g.ids.length) (hj:j<p.vars.length) (ht:t<1) (a:Int) (ha:a=J4I p g k (v*p.vars.length+x+1) v x+1) :
 VLe (J3t (J3p (J4I p g k (v*p.vars.length+x+1))) v (J0M (J3p (J4I p g k (v*p.vars.length+x+1)) v) (0+x) 0 [.int .i64 a]) i j t) (J3p (fun v x=>gI (gC (cfK p g (k+1)) v) x) i j t):=by
 simp only[J3t];split
 . rename_i e;subst e;exact Q5N p g k i x (0+x) j t hk hv hxm h h1 (Nat.zero_add _) hj ht a ha
 . rename_i e;exact Q3b p g k v x i j t hk hv hxm h h1 hi hj e
set_option maxHeartbeats 8000000 in
theorem X4m (p:Pr) (hp:J2p p) (g:G) (hg:g.valid=true) (k:Nat) (hk:k<J1g p g) :
 J0G Tryz.prog 31 [Q9J p g,.vec 0 1 0 g.ids.length] [(0,J8H p g (fun v x=>gI (gC (cfK p g k) v) x) [])] KS.tail fun v own' _=>v=.tup []/\own'=[(0,J8H p g (fun v x=>gI (gC (cfK p g (k+1)) v) x) [])]:=by
 obtain⟨f1,f2,f3,f4,f5,f6,f7⟩:=J0f hg;have hvl:=hp.vlen;refine J1q (J3Y ?_);refine J0c J0b Tryz.func31 rfl hc31 hr31 rfl ?_
 repeat' ((conv=>whnf);first|(refine Ar.q ?_)|(refine J0c J0b Tryz.func37 rfl hc37 hr37 rfl ?_)|(refine J1A ?_)|(refine Chk.q ?_)|(refine J0c J0b Tryz.func72 rfl hc72 hr72 rfl ?_))
 all_goals (conv=>whnf)
 refine J01 J0b [0,1] [] [5,6,7,8,9,10,11,12,13,14,15,16,17,18,19,20,21,22,23,24,25,26,27,28,29] [3,2,1,0] (fun j:Nat=>[(3,.int .i64 ((j:Int)-1))]) (fun own j=>J1H own 0 (J8H p g (J4I p g k (j*p.vars.length)) [])) (fun m j=>m=j/\j<=g.ids.length/\J96 p g k (j*p.vars.length)) g.ids.length g.ids.length ⟨rfl,Nat.le_refl _,fun j h1 h2=>(by rw[nP] at h2;omega)⟩ rfl (fun _=>rfl) ?_ ?_
 . refine J0e (fun _ _=>[(0,some 0),(1,some 1),(2,some 2),(3,some 3)]) ?_ ?_ rfl
   . repeat' (first|exact J0a.yld rfl|exact tI|(refine⟨⟨_,rfl,?_⟩,?_⟩)|exact J0a.kf rfl|exact J0a.loc rfl)
   . repeat' (first|(refine J0a.fn ?_)|(refine⟨rfl,rfl,rfl,rfl,rfl,?_⟩)|exact⟨rfl,rfl,True.intro,fun i hi=>rfl,fun i j t hi hn hj ht=>VLe.of_eq (congrArg (V.int .i64) (Q9x hi hj).symm)⟩|exact tI|(refine⟨⟨_,rfl,?_⟩,?_⟩)|exact J0a.kf rfl|exact J0a.loc rfl|exact J0a.q|apply And.intro)
 rintro m j ⟨hm,hj,hfull⟩;rcases Nat.eq_zero_or_pos j with h0|h0
 . subst h0
   repeat' ((conv=>whnf);first|(refine Br.ff ?_))
   all_goals (conv=>whnf)
   have hend:=fun v x hv hx=>X5K (v:=v) (x:=x) hk (by rw[Nat.zero_mul] at hfull;exact hfull) hv hx;exact⟨_,J1I.refl _,J1l (fun _=>[(0,some 0)]) _ _ ⟨rfl,rfl⟩ (J0a.kf rfl) (by repeat' (first|(refine⟨rfl,rfl,True.intro,fun i hi=>rfl,fun i j t hi hn hj ht=>VLe.of_eq (congrArg (V.int .i64) (by rw[Nat.zero_mul];exact hend i j hi hj))⟩)|exact tI|(refine⟨⟨_,rfl,?_⟩,?_⟩))) rfl⟩
 . obtain⟨v,rfl⟩:∃v,j=v+1:=⟨j-1,by omega⟩
   repeat' ((conv=>whnf);first|(refine Ix.w v ?_)|(refine Br.dec ?_ ?_<;>intro _<;>try omega)|(refine Ar.q ?_)|(refine J0c J0b Tryz.func38 rfl hc38 hr38 rfl ?_)|(refine J1A ?_)|(refine Chk.q ?_)|(refine J0c J0b Tryz.func73 rfl hc73 hr73 rfl ?_)|(refine J1r J0b rfl rfl ?_))
   all_goals (conv=>whnf)
   refine J01 J0b [0,1] [8] [9,10,11,12,13,14,15,16,17,18,19,20,21,22,23,24,25,26,27,28,29] [8,7,6,5,3,2,1,0] (fun i:Nat=>[(3,.int .i64 ((i:Int)-1))]) (fun own i=>(8,.vec (Q5m p v) 1 (J3p (J4I p g k (v*p.vars.length+i)) v))::J1H (J1H (J1H own 5 (.cells [.int .i64 v])) 0 (J8H p g (J4I p g k (v*p.vars.length+i)) [])) 0 (J8H p g (J4I p g k (v*p.vars.length+i)) [(v,8)])) (fun m i=>m=i/\i<=p.vars.length/\J96 p g k (v*p.vars.length+i)) p.vars.length p.vars.length ⟨rfl,Nat.le_refl _,by rw[Nat.add_mul,Nat.one_mul] at hfull;exact hfull⟩ rfl (fun _=>rfl) ?_ ?_
   . refine J3A.trans ?_ (J1b (ks:=[8,9,10,11,12,13,14,15,16,17,18,19,20,21,22,23,24,25,26,27,28,29]) rfl rfl rfl (show v<g.ids.length by omega) rfl) (J2I rfl);have e:(v+1)*p.vars.length=v*p.vars.length+p.vars.length:=by rw[Nat.add_mul,Nat.one_mul]
     refine J0e (fun _ _=>[(0,some 0),(1,some 1),(2,some 2),(3,some 3),(5,some 5),(6,some 6),(7,some 7)]) ?_ ?_ rfl
     . repeat' (first|exact J0a.yld rfl|exact tI|(refine⟨⟨_,rfl,?_⟩,?_⟩)|exact J0a.kf rfl|exact J0a.loc rfl)
     . repeat' (first|(refine J0a.fn ?_)|(refine⟨rfl,rfl,rfl,rfl,rfl,?_⟩)|exact⟨rfl,rfl,True.intro,fun i hi=>rfl,fun i j t hi hn hj ht=>by rw[e];exact VLe.rfl⟩|exact tI|(refine⟨⟨_,rfl,?_⟩,?_⟩)|exact J0a.kf rfl|exact J0a.int (by omega)|exact J0a.loc rfl|exact J0a.q|apply And.intro)
   rintro m i ⟨hm,hi,hfi⟩;rcases Nat.eq_zero_or_pos i with h1|h1
   . subst h1
     repeat' ((conv=>whnf);first|(refine Br.tt ?_)|(refine Br.ff ?_)|(refine Ar.q ?_))
     all_goals (conv=>whnf)
     refine⟨_,v,by omega,⟨rfl,by omega,by rw[Nat.add_zero] at hfi;exact hfi⟩,?_⟩;refine J3A.trans (J2i (J1m (q:=8) (k:=0) (i:=v) [] rfl rfl (show v<g.ids.length by omega) (J0n rfl) (Nat.le_refl _) rfl (fun j hj=>(J0l (fun e=>hj e.symm)).symm))) ?_ (J7d rfl);have e:v*p.vars.length+0=v*p.vars.length:=Nat.add_zero _;refine J0e (fun _ _=>[(0,some 0),(1,some 1),(2,some 2),(3,some 3)]) ?_ ?_ rfl
     . repeat' (first|exact J0a.yld rfl|exact tI|(refine⟨⟨_,rfl,?_⟩,?_⟩)|exact J0a.int (by omega)|exact J0a.loc rfl)
     . repeat' (first|(refine J0a.fn ?_)|(refine⟨rfl,rfl,rfl,rfl,rfl,?_⟩)|exact⟨rfl,rfl,True.intro,fun i hi=>rfl,fun i j t hi hn hj ht=>(by rw[e];exact J3N _ _ _ _ _)⟩|exact tI|(refine⟨⟨_,rfl,?_⟩,?_⟩)|exact J0a.kf rfl|exact J0a.loc rfl|exact J0a.q|apply And.intro)
   . obtain⟨x,rfl⟩:∃x,i=x+1:=⟨i-1,by omega⟩;have hxm:x<p.vars.length:=by omega
     have hlm:Q5m p v=p.vars.length:=rfl;have hvn:v<g.ids.length:=by omega
     have hval:J4I p g k (v*p.vars.length+(x+1)) v (0+x)=loP p g v x+dgP p g k v x:=by rw[Nat.zero_add,<- Nat.add_assoc];exact Q9w
     have hval':J4I p g k (v*p.vars.length+x+1) v x=loP p g v x+dgP p g k v x:=Q9w;have hsz:=J4s hp g hg v hxm;have hdl:=Q8L p g k v hxm;have hbi:=J54 hg (hp.var x hxm) (v:=v) (by omega);have hhi:(bnd g (gV p.vars x) v).2=hiP p g v x:=rfl;have hlo:(bnd g (gV p.vars x) v).1=loP p g v x:=rfl;by_cases hd:dgP p g k v x+1<szX p g v x
     . repeat' ((conv=>whnf);first|(refine Ix.w x ?_)|(refine Ix.w v ?_)|(refine Br.ff ?_)|(refine Br.dec ?_ ?_<;>intro _<;>try omega)|(refine Ar.q ?_)|(refine Ix.mk 1 rfl (by omega) ?_)|(refine Ltn.q ?_)|(refine J1r J0b rfl rfl ?_)|(refine Opn.hd (by omega) ?_))
       all_goals (conv=>whnf)
       exact⟨_,J1m (q:=8) (k:=0) (i:=v) [] rfl rfl hvn (J0n rfl) (Nat.le_refl _) rfl (fun j hj=>(J0l (fun e=>hj e.symm)).symm),J1l (fun _=>[(0,some 0)]) _ _ ⟨rfl,rfl⟩ (J0a.kf rfl) (by repeat' (first|(refine⟨rfl,rfl,True.intro,fun i hi=>rfl,fun i j t hi hn hj ht=>Q5L p g k v x i j t hk hvn hxm hfi hd hi hj ht _ (by omega)⟩)|exact tI|(refine⟨⟨_,rfl,?_⟩,?_⟩))) rfl⟩
     . repeat' ((conv=>whnf);first|(refine Ix.w x ?_)|(refine Ix.w v ?_)|(refine Br.tt ?_)|(refine Br.dec ?_ ?_<;>intro _<;>try omega)|(refine Ar.q ?_)|(refine Ix.mk 0 rfl (by omega) ?_)|(refine Ix.mk 1 rfl (by omega) ?_)|(refine Ltn.q ?_)|(refine J1r J0b rfl rfl ?_)|(refine Opn.hd (by omega) ?_))
       all_goals (conv=>whnf)
       have hf2:=Q8q hxm hfi (by omega);refine⟨_,x,by omega,⟨rfl,by omega,hf2⟩,?_⟩;refine J0e (fun _ _=>[(0,some 0),(1,some 1),(2,some 2),(3,some 3),(5,some 5),(6,some 6),(7,some 7),(8,some 8)]) ?_ ?_ rfl
       . repeat' (first|exact J0a.yld rfl|exact tI|(refine⟨⟨_,rfl,?_⟩,?_⟩)|exact J0a.int (by omega)|exact J0a.loc rfl)
       . repeat' (first|(refine J0a.fn ?_)|(refine⟨rfl,rfl,rfl,rfl,rfl,?_⟩)|exact⟨rfl,rfl,⟨rfl,rfl,True.intro⟩,fun i hi=>rfl,fun i j t hi hn hj ht=>X2h p g k v x i j t hxm hj (fun e=>by rw[e,J0n rfl] at hn;cases hn)⟩|exact Q5M p g k v x _ _ _ (Nat.zero_add _) hj _ hlo|exact tI|(refine⟨⟨_,rfl,?_⟩,?_⟩)|exact J0a.kf rfl|exact J0a.loc rfl|exact J0a.q|(refine⟨Nat.le_refl _,rfl,fun i j hi hj=>?_⟩)|apply And.intro)
theorem Q40 (p:Pr) (g:G) (k v x x' i j:Nat) (hx:x'=x) (hj:j<1) (a:Int) (ha:a=J58 p g k (v*p.vars.length+x+1) v x+dgP p g k v x):VLe (J0M (J3p (J58 p g k (v*p.vars.length+x+1)) v) x' 0 [.int .i64 a] i j) (J3p (J58 p g k (v*p.vars.length+x)) v i j):=by
 obtain rfl:j=0:=by omega
 subst hx ha;apply VLe.of_eq;by_cases h:i=x'
 . subst h;have:=Q6h (p:=p) (g:=g) (k:=k) (v:=v) (x:=i);simp[J0M,J3p,this]
 . have:=Q0j (p:=p) (g:=g) (k:=k) (i:=v*p.vars.length+x') (v:=v) (x:=i) (by omega);simp[J0M,J3p,h,this]
theorem X0b (p:Pr) (g:G) (k v x i j t:Nat) (hx:x<p.vars.length) (hj:j<p.vars.length) (hi:i≠v):VLe (J3p (J58 p g k (v*p.vars.length+x+1)) i j t) (J3p (J58 p g k (v*p.vars.length+x)) i j t):=by
 apply VLe.of_eq;have hne:i*p.vars.length+j≠v*p.vars.length+x:=fun q=>hi (by
  have a1:=congrArg (· / p.vars.length) q;simpa only[J45 hx,J45 hj] using a1)
 simp only[J3p];rw[Q0j hne]
theorem X5s (p:Pr) (g:G) (k:Nat) (f:Nat->Nat->Int) (hf:∀v x,v<g.ids.length->x<p.vars.length->f v x=gI (gC (cfK p g k) v) x):VLe (.fz g.ids.length 1 false fun i _=>.fz (Q5m p i) 1 false (J3p f i)) (cV (cfK p g k)):=by
 refine VLe.fz (J5D p g k).symm (fun h=>h) (fun i j hi hj=>?_);refine VLe.fz ?_ (fun h=>h) (fun a b ha hb=>VLe.of_eq (congrArg (V.int .i64) (hf i a hi ha)));rw[J7G p g k hi];simp[Q5m]
set_option maxHeartbeats 8000000 in
theorem Q5h (p:Pr) (hp:J2p p) (g:G) (hs:g.Small) (hg:g.valid=true) (hn:J1g p g<=32768) (k:Nat) (hk:k<J1g p g) :
 Ret Tryz.prog 10 [p.v,g.v,.int .i64 k] (.tup [cV (cfK p g k),.int .i64 0]):=by
 obtain⟨f1,f2,f3,f4,f5,f6,f7⟩:=J0f hg;have hvl:=hp.vlen;have h1:=J9H p hp g hs hg;have h2:=J31 p hp g hg;have h3:=Q04 p hp g hg _ (X4q p hp g hg);have h4:=Q03 p hp g hg hn;refine J0g rfl ?_;refine J0c J0b Tryz.func10 rfl hc10 hr10 rfl ?_
 repeat' ((conv=>whnf);first|(refine Br.ff ?_)|(refine Br.dec ?_ ?_<;>intro _<;>try omega)|(refine Ar.q ?_)|(refine h1.go ?_)|(refine h2.go ?_)|(refine h4.go ?_)|(refine J12 [(0,some 3)] [1] (h3.mono ?_) ⟨J0a.kf rfl,J0a.fn ⟨J0a.loc rfl,True.intro⟩,True.intro⟩ (by repeat' (first|exact tI|(refine⟨⟨_,rfl,?_⟩,?_⟩)|exact J0a.kf rfl|apply And.intro)) rfl;rintro _ _ _ ⟨rfl,rfl⟩)|(refine Chk.mk rfl ?_)|(refine J0c J0b Tryz.func37 rfl hc37 hr37 rfl ?_)|(refine J1A ?_)|(refine J0c J0b Tryz.func72 rfl hc72 hr72 rfl ?_))
 all_goals (conv=>whnf)
 refine J01 J0b [0,1] [] [9,10,11,12,13,14,15,16,17,18,19,20,21,22,23,24,25,26,27,28,29] [7,6,5,4,3,2,1,0] (fun j:Nat=>[(3,.int .i64 ((j:Int)-1))]) (fun own j=>J1H (J1H own 4 (J8H p g (J58 p g k (j*p.vars.length)) [])) 2 (.cells [.int .i64 (Q0i p g k (j*p.vars.length))])) (fun m j=>m=j/\j<=g.ids.length) g.ids.length g.ids.length ⟨rfl,Nat.le_refl _⟩ rfl (fun _=>rfl) ?_ ?_
 . have hst:=Q6g p g k;rw[nP] at hst;refine J0e (fun _ _=>[(0,some 0),(1,some 1),(2,some 2),(3,some 3),(4,some 4),(5,some 5),(6,some 6),(7,some 7)]) ?_ ?_ rfl
   . repeat' (first|exact J0a.yld rfl|exact tI|(refine⟨⟨_,rfl,?_⟩,?_⟩)|exact J0a.kf rfl|exact J0a.loc rfl)
   . repeat' (first|(refine J0a.fn ?_)|(refine⟨rfl,rfl,rfl,rfl,rfl,?_⟩)|exact⟨rfl,rfl,True.intro,fun i hi=>rfl,fun i j t hi hn hj ht=>VLe.of_eq (congrArg (V.int .i64) (Q41 hi hj).symm)⟩|exact J0a.int (by rw[hst])|exact tI|(refine⟨⟨_,rfl,?_⟩,?_⟩)|exact J0a.kf rfl|exact J0a.loc rfl|exact J0a.q|apply And.intro)
 rintro m j ⟨hm,hj⟩;rcases Nat.eq_zero_or_pos j with h0|h0
 . subst h0;have e:0*p.vars.length=0:=Nat.zero_mul _
   repeat' ((conv=>whnf);first|(refine Br.ff ?_)|(refine Len.q ?_))
   all_goals (conv=>whnf)
   all_goals exact VLe.tup ⟨X5s p g k _ (fun v x hv hx=>by rw[e];exact X0d hv hx),VLe.rfl,True.intro⟩
 . obtain⟨v,rfl⟩:∃v,j=v+1:=⟨j-1,by omega⟩
   repeat' ((conv=>whnf);first|(refine Ix.w v ?_)|(refine Br.dec ?_ ?_<;>intro _<;>try omega)|(refine Ar.q ?_)|(refine J0c J0b Tryz.func38 rfl hc38 hr38 rfl ?_)|(refine J1A ?_)|(refine Chk.q ?_)|(refine J0c J0b Tryz.func73 rfl hc73 hr73 rfl ?_)|(refine J1r J0b rfl rfl ?_))
   all_goals (conv=>whnf)
   refine J01 J0b [0,1] [12] [13,14,15,16,17,18,19,20,21,22,23,24,25,26,27,28,29] [12,11,10,9,7,6,5,4,3,2,1,0] (fun i:Nat=>[(3,.int .i64 ((i:Int)-1))]) (fun own i=>(12,.vec (Q5m p v) 1 (J3p (J58 p g k (v*p.vars.length+i)) v))::J1H (J1H (J1H (J1H own 9 (.cells [.int .i64 v])) 2 (.cells [.int .i64 (Q0i p g k (v*p.vars.length+i))])) 4 (J8H p g (J58 p g k (v*p.vars.length+i)) [])) 4 (J8H p g (J58 p g k (v*p.vars.length+i)) [(v,12)])) (fun m i=>m=i/\i<=p.vars.length) p.vars.length p.vars.length ⟨rfl,Nat.le_refl _⟩ rfl (fun _=>rfl) ?_ ?_
   . refine J3A.trans ?_ (J1b (ks:=[12,13,14,15,16,17,18,19,20,21,22,23,24,25,26,27,28,29]) rfl rfl rfl (show v<g.ids.length by omega) rfl) (J2I rfl);have e:(v+1)*p.vars.length=v*p.vars.length+p.vars.length:=by rw[Nat.add_mul,Nat.one_mul]
     refine J0e (fun _ _=>[(0,some 0),(1,some 1),(2,some 2),(3,some 3),(4,some 4),(5,some 5),(6,some 6),(7,some 7),(9,some 9),(10,some 10),(11,some 11)]) ?_ ?_ rfl
     . repeat' (first|exact J0a.yld rfl|exact tI|(refine⟨⟨_,rfl,?_⟩,?_⟩)|exact J0a.kf rfl|exact J0a.loc rfl)
     . repeat' (first|(refine J0a.fn ?_)|(refine⟨rfl,rfl,rfl,rfl,rfl,?_⟩)|exact⟨rfl,rfl,True.intro,fun i hi=>rfl,fun i j t hi hn hj ht=>by rw[e];exact VLe.rfl⟩|exact J0a.int (by rw[e])|exact tI|(refine⟨⟨_,rfl,?_⟩,?_⟩)|exact J0a.kf rfl|exact J0a.int (by omega)|exact J0a.loc rfl|exact J0a.q|apply And.intro)
   rintro m i ⟨hm,hi⟩;rcases Nat.eq_zero_or_pos i with h1|h1
   . subst h1
     repeat' ((conv=>whnf);first|(refine Br.tt ?_)|(refine Br.ff ?_)|(refine Ar.q ?_))
     all_goals (conv=>whnf)
     refine⟨_,v,by omega,⟨rfl,by omega⟩,?_⟩;refine J3A.trans (J2i (J1m (q:=12) (k:=4) (i:=v) [] rfl rfl (show v<g.ids.length by omega) (J0n rfl) (Nat.le_refl _) rfl (fun j hj=>(J0l (fun e=>hj e.symm)).symm))) ?_ (J7d rfl);have e:v*p.vars.length+0=v*p.vars.length:=Nat.add_zero _;refine J0e (fun _ _=>[(0,some 0),(1,some 1),(2,some 2),(3,some 3),(4,some 4),(5,some 5),(6,some 6),(7,some 7)]) ?_ ?_ rfl
     . repeat' (first|exact J0a.yld rfl|exact tI|(refine⟨⟨_,rfl,?_⟩,?_⟩)|exact J0a.int (by omega)|exact J0a.loc rfl)
     . repeat' (first|(refine J0a.fn ?_)|(refine⟨rfl,rfl,rfl,rfl,rfl,?_⟩)|exact⟨rfl,rfl,True.intro,fun i hi=>rfl,fun i j t hi hn hj ht=>(by rw[e];exact J3N _ _ _ _ _)⟩|exact J0a.int (by rw[e])|exact tI|(refine⟨⟨_,rfl,?_⟩,?_⟩)|exact J0a.kf rfl|exact J0a.loc rfl|exact J0a.q|apply And.intro)
   . obtain⟨x,rfl⟩:∃x,i=x+1:=⟨i-1,by omega⟩;have hxm:x<p.vars.length:=by omega
     have hlm:Q5m p v=p.vars.length:=rfl;have hvn:v<g.ids.length:=by omega
     have hval:J58 p g k (v*p.vars.length+(x+1)) v (0+x)=loP p g v x:=by rw[Nat.zero_add,J58,if_pos (by omega)];simp
     have hval':J58 p g k (v*p.vars.length+x+1) v x=loP p g v x:=by rw[J58,if_pos (by omega)];simp
     have hsz:=J4s hp g hg v hxm;have hdl:=Q8L p g k v hxm;have hbi:=J54 hg (hp.var x hxm) (v:=v) (by omega);have hhi:(bnd g (gV p.vars x) v).2=hiP p g v x:=rfl;have hlo:(bnd g (gV p.vars x) v).1=loP p g v x:=rfl;have hrem:((Q0i p g k (v*p.vars.length+(x+1)):Nat):Int).tmod ((bnd g (gV p.vars x) v).2-(bnd g (gV p.vars x) v).1+1)=(dgP p g k v x:Nat):=by
      rw[hhi,hlo,<- hsz,wrem (by have:=J22 p g 0;rw[szX];omega),<- X3K hxm];rfl
     have hquo:((Q0i p g k (v*p.vars.length+(x+1)):Nat):Int).tdiv ((bnd g (gV p.vars x) v).2-(bnd g (gV p.vars x) v).1+1)=(Q0i p g k (v*p.vars.length+x):Nat):=by
      rw[hhi,hlo,<- hsz,<- X0c hvn hxm];rfl
     have hkl:Q0i p g k (v*p.vars.length+(x+1))<=k:=Nat.div_le_self _ _;have hkl2:Q0i p g k (v*p.vars.length+x)<=k:=Nat.div_le_self _ _
     repeat' ((conv=>whnf);first|(refine Ix.w x ?_)|(refine Ix.w v ?_)|(refine Sv.mk _ hrem.symm ?_)|(refine Ar.i64 (by rw[hquo];omega) (by rw[hquo];omega) ?_;rw[hquo])|(refine Br.tt ?_)|(refine Br.dec ?_ ?_<;>intro _<;>try omega)|(refine Ar.q ?_)|(refine Nz.mk (by omega) ?_)|(refine Ix.mk 0 rfl (by omega) ?_)|(refine Ix.mk 1 rfl (by omega) ?_)|(refine Ltn.q ?_)|(refine J1r J0b rfl rfl ?_)|(refine Opn.hd (by omega) ?_))
     all_goals (conv=>whnf)
     refine⟨_,x,by omega,⟨rfl,by omega⟩,?_⟩;refine J0e (fun _ _=>[(0,some 0),(1,some 1),(2,some 2),(3,some 3),(4,some 4),(5,some 5),(6,some 6),(7,some 7),(9,some 9),(10,some 10),(11,some 11),(12,some 12)]) ?_ ?_ rfl
     . repeat' (first|exact J0a.yld rfl|exact tI|(refine⟨⟨_,rfl,?_⟩,?_⟩)|exact J0a.int (by omega)|exact J0a.loc rfl)
     . repeat' (first|(refine J0a.fn ?_)|(refine⟨rfl,rfl,rfl,rfl,rfl,?_⟩)|exact⟨rfl,rfl,⟨rfl,rfl,True.intro⟩,fun i hi=>rfl,fun i j t hi hn hj ht=>X0b p g k v x i j t hxm hj (fun e=>by rw[e,J0n rfl] at hn;cases hn)⟩|exact Q40 p g k v x _ _ _ (Nat.zero_add _) hj _ (by omega)|exact tI|(refine⟨⟨_,rfl,?_⟩,?_⟩)|exact J0a.kf rfl|exact J0a.loc rfl|exact J0a.q|(refine⟨Nat.le_refl _,rfl,fun i j hi hj=>?_⟩)|apply And.intro)
def Q2l (p:Pr) (g:G):Nat->Nat->Nat->V:=fun v x _=>.int .i64 (plP p g v x:Nat)
def plV (p:Pr) (g:G):V:=.fz g.ids.length 1 false fun v _=>.fz p.vars.length 1 false (Q2l p g v)
def bP (p:Pr) (g:G) (kd:Int):V:=.fe 1 5 (tab [[mvP p g,.fz g.ports.length 1 false (Q9I g),.int .i64 kd,Q9J p g,plV p g]]) 0 0
def X5Z (m j:Nat):Nat->Nat:=fun i=>if i<j then 0 else m
def X6R (j k:Nat):List (Nat×Nat):=if 0<j then[(j-1,k)] else[]
def Q0I (p:Pr) (g:G) (v i:Nat):Nat->Nat->V:=fun x _=>if x<i then .int .i64 0 else .int .i64 (plP p g v x:Nat)
theorem Q6N (p:Pr) (g:G) (v x x' i j:Nat) (hx:x'=x) (hj:j<1) (a:Int) (ha:a=(plP p g v x:Nat)):VLe (J0M (Q0I p g v (x+1)) x' 0 [.int .i64 a] i j) (Q0I p g v x i j):=by
 obtain rfl:j=0:=by omega
 subst hx ha;apply VLe.of_eq;by_cases h:i=x'
 . subst h;simp[J0M,Q0I]
 . have h1:(i<x'+1)=(i<x'):=by simp;omega
   simp[J0M,Q0I,h,h1]
theorem Q36 (m v i:Nat):J2R (X5Z m (v+1)) v m i=X5Z m v i:=by
 simp only[J2R,X5Z];by_cases h:i=v
 . rw[if_pos h,if_neg (by omega)]
 . rw[if_neg h];by_cases h2:i<v
   . rw[if_pos h2,if_pos (by omega)]
   . rw[if_neg h2,if_neg (by omega)]
theorem J8j (p:Pr) (g:G) (v i j t:Nat):VLe (J3t (Q2l p g) v (Q0I p g v 0) i j t) (Q2l p g i j t):=by
 apply VLe.of_eq;simp only[J3t];split
 . rename_i e;subst e;simp[Q0I,Q2l]
 . rfl
set_option maxHeartbeats 8000000 in
theorem Q5H (p:Pr) (hp:J2p p) (g:G) (hs:g.Small) (hg:g.valid=true) (kd:Int) (hn:J1g p g<=32768) :
 Ret Tryz.prog 28 [p.v,g.v,.int .i64 kd] (bP p g kd):=by
 obtain⟨f1,f2,f3,f4,f5,f6,f7⟩:=J0f hg;have hvl:=hp.vlen;have h1:=Q3V p hp g hg;have h2:=Q0V g hs hg;have h3:=J31 p hp g hg;refine J0g rfl ?_;refine J0c J0b Tryz.func28 rfl hc28 hr28 rfl ?_
 repeat' ((conv=>whnf);first|(refine Ar.q ?_)|(refine Bd.q ?_)|(refine Len.q ?_)|(refine MkS.vec ?_)|(refine h1.go ?_)|(refine h2.go ?_)|(refine h3.go ?_)|(refine And.intro rfl ?_))
 all_goals (conv=>whnf)
 refine J01 J0b [7] [4] [5,6,7,8,9,10,11,12,13,14,15,16,17,18,19,20,21,22,23,24,25,26,27,28,29] [4,3,2,1,0] (fun j:Nat=>[(8,.int .i64 (Mx.pr (szP p g) (j*p.vars.length) (nP p g-j*p.vars.length):Nat)),(9,.int .i64 ((j:Int)-1))])
  (fun own j=>(4,.vec (if 0<j then X5Z p.vars.length j (j-1) else 0) 1 (Q2l p g (j-1)))::J1H (J1H own 3 (.fam g.ids.length 1 (X5Z p.vars.length j) (Q2l p g) [])) 3 (.fam g.ids.length 1 (X5Z p.vars.length j) (Q2l p g) (X6R j 4))) (fun m j=>m=j/\j<=g.ids.length) g.ids.length g.ids.length ⟨rfl,Nat.le_refl _⟩ rfl (fun _=>rfl) ?_ ?_
 . have e:X6R g.ids.length 4=[(g.ids.length-1,4)]:=if_pos (by omega);simp only[e,if_pos (show 0<g.ids.length by omega)];refine J3A.trans ?_ (J1b (ks:=[4,5,6,7,8,9,10,11,12,13,14,15,16,17,18,19,20,21,22,23,24,25,26,27,28,29]) rfl rfl rfl (by omega) rfl) (J2I rfl);have e1:nP p g-g.ids.length*p.vars.length=0:=Nat.sub_self _;refine J0e (fun _ _=>[(0,some 0),(1,some 1),(2,some 2),(3,some 3)]) ?_ ?_ rfl
   . repeat' (first|exact J0a.int (by rw[e1];rfl)|exact tI|(refine⟨⟨_,rfl,?_⟩,?_⟩)|exact J0a.kf rfl|exact J0a.loc rfl)
   . repeat' (first|exact⟨rfl,rfl,rfl,fun i hi=>⟨rfl,if_pos hi⟩⟩|exact tI|(refine⟨⟨_,rfl,?_⟩,?_⟩)|exact J0a.kf rfl|exact J0a.q|apply And.intro)
 rintro m j ⟨hm,hj⟩;rcases Nat.eq_zero_or_pos j with h0|h0
 . subst h0
   repeat' ((conv=>whnf);first|(refine Br.ff ?_)|(refine Len.q ?_))
   all_goals (conv=>whnf)
   refine X2o (fun a b ha hb=>?_);obtain rfl:a=0:=by omega
   have hb:b<5:=hb;rcases b with _|_|_|_|_|b
   . exact VLe.rfl
   . exact VLe.rfl
   . exact VLe.rfl
   . exact VLe.rfl
   . refine VLe.fz rfl (fun h=>h) (fun i j hi hj=>?_);exact VLe.fz (if_neg (by omega)) (fun h=>h) (fun _ _ _ _=>VLe.rfl)
   . omega
 . obtain⟨v,rfl⟩:∃v,j=v+1:=⟨j-1,by omega⟩;have e:X6R (v+1) 4=[(v,4)]:=if_pos (by omega);have ev:v+1-1=v:=rfl;simp only[e,ev,if_pos (Nat.succ_pos v)]
   repeat' ((conv=>whnf);first|(refine Ix.w v ?_)|(refine Br.dec ?_ ?_<;>intro _<;>try omega)|(refine Ar.q ?_)|(refine Bd.q ?_)|(refine Len.q ?_)|(refine Ltn.q ?_)|(refine MkS.vec ?_)|(refine J16.hd (by omega) ?_))
   all_goals (conv=>whnf)
   have hvn:v<g.ids.length:=by omega
   refine J01 J0b [7,9] [] [6,7,8,9,10,11,12,13,14,15,16,17,18,19,20,21,22,23,24,25,26,27,28,29] [5,4,3,2,1,0] (fun i:Nat=>[(8,.int .i64 (Mx.pr (szP p g) (v*p.vars.length+i) (nP p g-(v*p.vars.length+i)):Nat)),(10,.int .i64 ((i:Int)-1))])
    (fun own i=>J1H own 5 (.vec p.vars.length 1 (Q0I p g v i))) (fun m i=>m=i/\i<=p.vars.length) p.vars.length p.vars.length ⟨rfl,Nat.le_refl _⟩ rfl (fun _=>rfl) ?_ ?_
   . have e2:(v+1)*p.vars.length=v*p.vars.length+p.vars.length:=by rw[Nat.add_mul,Nat.one_mul]
     refine J0e (fun _ _=>[(0,some 0),(1,some 1),(2,some 2),(3,some 3),(4,some 4),(5,some 5)]) ?_ ?_ rfl
     . repeat' (first|exact J0a.int (by rw[e2])|exact tI|(refine⟨⟨_,rfl,?_⟩,?_⟩)|exact J0a.kf rfl|exact J0a.loc rfl)
     . repeat' (first|exact⟨rfl,rfl,⟨rfl,rfl,True.intro⟩,fun i hi=>rfl,fun i j t hi hn hj ht=>VLe.rfl⟩|(refine⟨Nat.le_refl _,rfl,fun i j hi hj=>VLe.of_eq ?_⟩;rw[Q0I,if_pos hi];(obtain rfl:j=0:=(by omega));rfl)|exact tI|(refine⟨⟨_,rfl,?_⟩,?_⟩)|exact J0a.kf rfl|exact J0a.q|(refine⟨Nat.le_refl _,rfl,fun i j hi hj=>?_⟩)|exact VLe.rfl|apply And.intro)
   rintro m i ⟨hm,hi⟩;rcases Nat.eq_zero_or_pos i with h1|h1
   . subst h1
     repeat' ((conv=>whnf);first|(refine Br.ff ?_)|(refine Ar.q ?_))
     all_goals (conv=>whnf)
     refine⟨_,v,by omega,⟨rfl,by omega⟩,?_⟩;refine J3A.trans (J2i (J1m (q:=5) (k:=3) (i:=v) [] rfl rfl hvn (J0n rfl) (Nat.le_of_eq (if_pos rfl)) rfl (fun j hj=>(J0l (fun e=>hj e.symm)).symm))) ?_ (J7d rfl);have e0:v*p.vars.length+0=v*p.vars.length:=Nat.add_zero _;rcases Nat.eq_zero_or_pos v with h2|h2
     . subst h2;have e1:X6R 0 4=[]:=if_neg (by omega);simp only[e1,if_neg (Nat.lt_irrefl 0)];refine J0e (fun _ _=>[(0,some 0),(1,some 1),(2,some 2),(3,some 3),(4,none)]) ?_ ?_ rfl
       . repeat' (first|exact J0a.int (by rw[e0])|exact tI|(refine⟨⟨_,rfl,?_⟩,?_⟩)|exact J0a.kf rfl|exact J0a.loc rfl)
       . repeat' (first|exact⟨rfl,rfl,True.intro,fun i hi=>(Q36 _ _ _).symm,fun i j t hi hn hj ht=>J8j p g 0 i j t⟩|exact tI|(refine⟨⟨_,rfl,?_⟩,?_⟩)|exact J0a.kf rfl|exact J0a.q|(refine⟨⟨_,_,rfl⟩,?_⟩)|apply And.intro)
     . have e1:X6R v 4=[(v-1,4)]:=if_pos h2;simp only[e1,if_pos h2];refine J3A.trans ?_ (J1b (ks:=[4,5,6,7,8,9,10,11,12,13,14,15,16,17,18,19,20,21,22,23,24,25,26,27,28,29]) rfl rfl rfl (show v-1<g.ids.length by omega) rfl) (J2I rfl);refine J0e (fun _ _=>[(0,some 0),(1,some 1),(2,some 2),(3,some 3)]) ?_ ?_ rfl
       . repeat' (first|exact J0a.int (by rw[e0])|exact tI|(refine⟨⟨_,rfl,?_⟩,?_⟩)|exact J0a.int (by omega)|exact J0a.loc rfl)
       . repeat' (first|exact⟨rfl,rfl,True.intro,fun i hi=>(Q36 _ _ _).symm,fun i j t hi hn hj ht=>J8j p g v i j t⟩|exact tI|(refine⟨⟨_,rfl,?_⟩,?_⟩)|exact J0a.kf rfl|exact J0a.q|apply And.intro)
   . obtain⟨x,rfl⟩:∃x,i=x+1:=⟨i-1,by omega⟩;have hxm:x<p.vars.length:=by omega
     have hix:=J74 hvn hxm;have hb:=J54 hg (hp.var x hxm) (v:=v) (by omega);have hsz:=J4s hp g hg v hxm;have hst:=Q64 p g hix;have hle:=X4f p g (Nat.le_of_lt hix);have hle2:=X4f p g (show v*p.vars.length+(x+1)<=nP p g from hix);rw[J3D p g hxm] at hst;have hmul:((Mx.pr (szP p g) (v*p.vars.length+(x+1)) (nP p g-(v*p.vars.length+(x+1))):Nat):Int)*((bnd g (gV p.vars x) v).2-(bnd g (gV p.vars x) v).1+1)=(Mx.pr (szP p g) (v*p.vars.length+x) (nP p g-(v*p.vars.length+x)):Nat):=by
      rw[hst,Int.natCast_mul,hsz,Int.mul_comm];rfl
     repeat' ((conv=>whnf);first|(refine Ix.w x ?_)|(refine Ix.w v ?_)|(refine Ar.i64 (by rw[hmul];omega) (by rw[hmul];omega) ?_;rw[hmul])|(refine Br.dec ?_ ?_<;>intro _<;>try omega)|(refine Ar.q ?_)|(refine Ix.mk 0 rfl (by omega) ?_)|(refine Ix.mk 1 rfl (by omega) ?_)|(refine Ltn.q ?_)|(refine Opn.hdl (by omega) (show J2R _ _ _ _=p.vars.length from if_pos rfl) ?_))
     all_goals (conv=>whnf)
     refine⟨_,x,by omega,⟨rfl,by omega⟩,?_⟩;refine J0e (fun _ _=>[(0,some 0),(1,some 1),(2,some 2),(3,some 3),(4,some 4),(5,some 5)]) ?_ ?_ rfl
     . repeat' (first|exact tI|(refine⟨⟨_,rfl,?_⟩,?_⟩)|exact J0a.kf rfl|exact J0a.int (by omega)|exact J0a.loc rfl)
     . repeat' (first|exact⟨rfl,rfl,⟨rfl,rfl,True.intro⟩,fun i hi=>rfl,fun i j t hi hn hj ht=>VLe.rfl⟩|exact Q6N _ _ _ _ _ _ _ (Nat.zero_add _) hj _ rfl|exact tI|(refine⟨⟨_,rfl,?_⟩,?_⟩)|exact J0a.kf rfl|exact J0a.q|(refine⟨Nat.le_refl _,rfl,fun i j hi hj=>?_⟩)|exact VLe.rfl|apply And.intro)
abbrev cF (c:Cf):Nat->Nat->Int:=fun v x=>gI (gC c v) x
theorem Q2J {p:Pr} {g:G} {c:Cf} (hc:J1u p g c) (F:Nat->Nat->Nat->V) (hF:∀i j,VLe (F i j 0) (J3p (cF c) i j 0)):VLe (.fz g.ids.length 1 false fun i _=>.fz (Q5m p i) 1 false (F i)) (cV c):=by
 refine VLe.fz hc.len.symm (fun h=>h) (fun i j hi hj=>?_);refine VLe.fz ?_ (fun h=>h) (fun a b ha hb=>?_)
 . rw[hc.row i (by rw[hc.len];exact hi)];rfl
 . obtain rfl:b=0:=by omega
   exact hF i a
theorem X3Z (c:Cf) (v i j:Nat):VLe (J3t (J3p (cF c)) v (J3p (cF c) v) i j 0) (J3p (cF c) i j 0):=J3N _ _ _ _ _
set_option maxHeartbeats 8000000 in
theorem X0Z (p:Pr) (hp:J2p p) (g:G) (hg:g.valid=true) (c:Cf) (hc:J1u p g c) (v:Nat) (hv:v<g.ids.length) (r:Nat) (hr:r<p.rules.length) :
 J0G Tryz.prog 66 [mvP p g,.vec 0 1 0 g.ids.length,.int .i64 v,.int .i64 r] [(0,J8H p g (cF c) [])] KS.tail fun X own' _=>X=.vec 1 1 0 p.vars.length/\own'=[(1,.vec p.vars.length 1 (vI (J1E p g c v r))),(0,J8H p g (cF c) [])]:=by
 obtain⟨f1,f2,f3,f4,f5,f6,f7⟩:=J0f hg;have hcl:=hc.len;have hrow:=hc.row v (by omega);have hvl:=hp.vlen;have hsl:=hp.slen r hr;have hlm:Q5m p v=p.vars.length:=rfl;refine J1q (J3Y ?_);refine J7J 28 0 v rfl rfl hv rfl ?_;show J0G Tryz.prog _ _ [(28,.vec (Q5m p v) 1 (J3p (cF c) v)),(0,J8H p g (cF c) [(v,28)])] [1,2,3,4,5,6,7,8,9,10,11,12,13,14,15,16,17,18,19,20,21,22,23,24,25,26,27,29] _;refine J0c J0b Tryz.func66 rfl hc66 hr66 rfl ?_
 repeat' ((conv=>whnf);first|(refine Ix.q ?_)|(refine Len.q ?_)|(refine Ltn.q ?_)|(refine Opn.hd (by omega) ?_))
 all_goals (conv=>whnf)
 refine J01 J0b [0,1,2,9,26,27] [] [2,3,4,5,6,7,8,9,10,11,12,13,14,15,16,17,18,19,20,21,22,23,24,25,26,27,29] [1,28,0] (fun j:Nat=>[(28,.int .i64 j)]) (fun own j=>J1H own 1 (.vec (Q5m p v) 1 (vI (X0J p g c v ((gRl p.rules r).sets.take j))))) (fun m j=>m=(gRl p.rules r).sets.length-j/\j<=(gRl p.rules r).sets.length) (gRl p.rules r).sets.length 0 ⟨rfl,Nat.zero_le _⟩ rfl (fun _=>rfl) ?_ ?_
 . refine J0e (fun _ _=>[(0,some 0),(1,some 1),(28,some 28)]) ?_ ?_ rfl
   . repeat' (first|exact tI|(refine⟨⟨_,rfl,?_⟩,?_⟩)|exact J0a.kf rfl|exact J0a.q)
   . repeat' (first|exact⟨rfl,rfl,⟨rfl,rfl,True.intro⟩,fun i hi=>rfl,fun i j t hi hn hj ht=>VLe.rfl⟩|exact VLe.of_eq (by rw[J0w,Nat.zero_add];rfl)|exact tI|(refine⟨⟨_,rfl,?_⟩,?_⟩)|(refine⟨Nat.le_refl _,rfl,fun i j hi hj=>?_⟩)|exact VLe.rfl)
 rintro m j ⟨hm,hj⟩;have hpl:=J4U p g c v ((gRl p.rules r).sets.take j);by_cases hjl:j<(gRl p.rules r).sets.length
 . obtain⟨s1,s2,s3⟩:=hp.set r hr j hjl;simp only[Tm.okB,Bool.and_eq_true,decide_eq_true_eq] at s3;have hval:=J94 p.pg g hg (hc.fit hp hg) v (by omega) (gS (gRl p.rules r).sets j).2 s3.2 s3.1;have hbr:=Q4K (gV p.vars (gS (gRl p.rules r).sets j).1.toNat).kind (bnd g (gV p.vars (gS (gRl p.rules r).sets j).1.toNat) v).1 (bnd g (gV p.vars (gS (gRl p.rules r).sets j).1.toNat) v).2 ((gS (gRl p.rules r).sets j).2.sem g c v (-1))
   repeat' ((conv=>whnf);first|(refine Br.dec ?_ ?_<;>intro _<;>try omega)|(refine Ar.q ?_)|(refine Ix.q ?_)|(refine Ix.int (by omega) (by omega) ?_)|(refine Ltn.q ?_)|(refine J0Q hval rfl ⟨Nat.le_refl _,Nat.le_refl _,VLe.rfl,Q2J hc _ (fun i j=>X3Z c v i j),VLe.rfl,VLe.rfl,True.intro⟩ ?_)|(refine hbr.go ?_)|(refine And.intro rfl ?_))
   all_goals (conv=>whnf)
   refine⟨(gRl p.rules r).sets.length-(j+1),j+1,by omega,⟨rfl,by omega⟩,?_⟩;simp only[Q8k _ j hjl,Q0Q];refine J0e (fun _ _=>[(0,some 0),(1,some 1),(28,some 28)]) ?_ ?_ rfl
   . repeat' (first|exact tI|(refine⟨⟨_,rfl,?_⟩,?_⟩)|exact J0a.kf rfl|exact J0a.q)
   . repeat' (first|exact⟨rfl,rfl,⟨rfl,rfl,True.intro⟩,fun i hi=>rfl,fun i j t hi hn hj ht=>VLe.rfl⟩|exact⟨Nat.le_refl _,rfl,fun i t hi ht=>by simp only[Nat.zero_add];exact Q3m _ _ _ _ _ (by rw[J4U];omega) ht⟩|exact tI|(refine⟨⟨_,rfl,?_⟩,?_⟩)|(refine⟨Nat.le_refl _,rfl,fun i j hi hj=>?_⟩)|exact VLe.rfl)
 . repeat' ((conv=>whnf);first|(refine Br.dec ?_ ?_<;>intro _<;>try omega))
   all_goals (conv=>whnf)
   have et:(gRl p.rules r).sets.take j=(gRl p.rules r).sets:=List.take_of_length_le (by omega);exact⟨_,J1m (q:=28) (k:=0) (i:=v) [] rfl rfl hv (J0n rfl) (Nat.le_refl _) rfl (fun j hj=>(J0l (fun e=>hj e.symm)).symm),J1l (fun _=>[(1,some 1),(0,some 0)]) _ _ ⟨rfl,rfl⟩ (J0a.vec rfl rfl rfl) (by repeat' (first|(refine⟨rfl,rfl,True.intro,fun i hi=>rfl,fun i j t hi hn hj ht=>J3N _ _ _ _ _⟩)|(refine⟨Nat.le_refl _,rfl,fun i j hi hj=>(by rw[et];exact VLe.rfl)⟩)|exact tI|(refine⟨⟨_,rfl,?_⟩,?_⟩))) rfl⟩
end Go.Proofs.YtlpfphlbghdokaaGreatDoor
namespace Go.Plain
abbrev St:=Nat->Bool
structure Adj (n:Nat) (a:Nat->Nat->Bool):Prop where
 sym:∀u v,u<n->v<n->a u v=true->a v u=true
 irr:∀v,v<n->a v v=false
 rng:∀u v,u<n->a u v=true->v<n
def nbM (n:Nat) (a:Nat->Nat->Bool) (m:St) (v:Nat):Bool:=(List.range n).any fun u=>a v u&&m u
def enI (n:Nat) (a:Nat->Nat->Bool) (m:St) (v:Nat):Bool:=match m v with|true=>nbM n a m v|false=>!nbM n a m v
def cfl (n:Nat) (a:Nat->Nat->Bool) (m:St) (v:Nat):Bool:=m v&&nbM n a m v
def stI (s m:St):St:=fun v=>match s v with|true=>!m v|false=>m v
variable {n:Nat} {a:Nat->Nat->Bool} {m s:St}
theorem X7S {v:Nat} (h:cfl n a m v=true):enI n a m v=true:=by
 simp only[cfl,Bool.and_eq_true] at h;simp only[enI,h.1,h.2]
structure IInv (n:Nat) (a:Nat->Nat->Bool) (m p:St) (r:Nat):Prop where
 r0:r=0->∀v,v<n->cfl n a m v=true->p v=true
 r1:1<=r->∀v,v<n->cfl n a m v=false
 r2:r=1->∀v,v<n->enI n a m v=true->p v=true
 r3:2<=r->∀v,v<n->enI n a m v=false
def left (n:Nat) (a:Nat->Nat->Bool) (m p s:St):St:=fun v=>p v&&!s v&&enI n a (stI s m) v
theorem IInv.start:IInv n a m (enI n a m) 0:=⟨fun _ v _ h=>X7S h,fun h=>by omega,fun h=>by omega,fun h=>by omega⟩
end Go.Plain
namespace Go.Proofs.YtlpfphlbghdokaaGreatDoor
open Go.Eng
set_option maxRecDepth 100000
set_option linter.unusedVariables false
theorem J1C (b:Bool):(J1f b≠0)↔b=true:=by cases b<;>simp[J1f]
theorem J46 (b:Bool):(J1f b=0)↔b=false:=by cases b<;>simp[J1f]
abbrev adN (g:G):Nat->Nat->Bool:=adj g
theorem J91 {g:G} (hg:g.valid=true):Go.Plain.Adj g.ids.length (adN g):=by
 obtain⟨f1,f2,f3,f4,f5,f6,f7⟩:=J0f hg;refine⟨fun u v hu hv h=>Q9z hg (by omega) h,fun v hv=>Q9A hg (by omega),fun u v hu h=>?_⟩;obtain⟨l,hl,e⟩:=J2M.1 h;have:=(J1s.1 (f6 u (by omega))).1 l hl;omega
def Q4b (c:Cf) (n x:Nat):Prop:=∀v,v<n->gI (gC c v) x=0\/gI (gC c v) x=1
theorem J1T {c:Cf} {n x:Nat} (h:Q4b c n x) {v:Nat} (hv:v<n):gI (gC c v) x=J1f (one c x v):=by
 rcases h v hv with e|e<;>simp[one,e,J1f]
theorem Q2R (l:List Int):0<J6v l↔∃a∈l,a≠0:=by
 rw[J6v,List.countP_pos_iff];simp only[decide_eq_true_eq]
theorem Q8o {l:List (Int×Int)} {a:Int×Int} (h:a∈l):∃i,i<l.length/\gF l i=a:=by
 obtain⟨i,hi,e⟩:=List.mem_iff_getElem.1 h;exact⟨i,hi,by simp[gF,List.getD,hi,e]⟩
end Go.Proofs.YtlpfphlbghdokaaGreatDoor
namespace Go.Proofs.YtlpfphlbghdokaaGreatDoor
open Go.Eng Go.Plain
set_option maxRecDepth 100000
set_option linter.unusedVariables false
theorem Q2S {s n:Nat} (h0:s≠0) (hs:s<2 ^ n):1<=cnt s n:=by
 apply Classical.byContradiction;intro hc;apply h0;have hz:cnt s n=0:=by omega
 have key:∀n,cnt s n=0->∀i,i<n->s.testBit i=false:=by
  intro n
  induction n with
  | zero=>intro _ i hi;omega
  | succ n ih =>
    intro h i hi;rw[cnt] at h;cases e:s.testBit n with
    | true=>rw[e] at h;simp at h
    | false =>
      rw[e] at h;by_cases q:i=n
      . subst q;exact e
      . exact ih (by simpa using h) i (by omega)
 refine Nat.eq_of_testBit_eq fun i=>?_;rw[Nat.zero_testBit];by_cases hi:i<n
 . exact key n hz i hi
 . exact Nat.testBit_lt_two_pow (Nat.lt_of_lt_of_le hs (Nat.pow_le_pow_right (by omega) (by omega)))
end Go.Proofs.YtlpfphlbghdokaaGreatDoor
namespace Go.Proofs.YtlpfphlbghdokaaGreatDoor
open Go.Eng Go.Plain
set_option maxRecDepth 100000
set_option linter.unusedVariables false
set_option linter.unusedSectionVars false
section
variable {p:Pr} (hp:J2p p) {g:G} (hg:g.valid=true) {kd:Int} (hk:dk kd=true) {leg:Cf->Bool} {R M:Int} {Inv:Cf->Cnt->Prop} (hS:Srv p g kd leg R M Inv) (he:∀c,(chs g kd (enN p g c)).2=0)
include hp hg hk he
theorem Q3D {k s:Nat} (hs:s∈(chs g kd (enN p g (cfK p g k))).1):J7T p g kd (cfK p g k) s:=by
 have h32:=J6b p hg (cfK p g k);have h24:=J9J p hg (cfK p g k);have h1:=(J7F hk h32 (J5e h32 s hs) (he _)).1 hs;obtain⟨a,b,c⟩:=J2k.1 h1;have hpt:=(J1S (J5e h32 s hs)).1 b;exact⟨a,hpt,c,Nat.lt_of_le_of_lt hpt.le h24⟩
theorem X2d {k:Nat} {a:Nat×Nat} (ha:a∈(J5N p g kd).ar k):J7T p g kd (cfK p g k) a.1/\a.2=rkC p g (J0H p g (cfK p g k) a.1)/\J1u p g (J0H p g (cfK p g k) a.1):=by
 have ha:a∈J76 p g kd k:=ha;rw[J76] at ha;obtain⟨s,hs,rfl⟩:=List.mem_map.1 ha;have h:=Q3D hp hg hk he hs;exact⟨h,rfl,J1Q hp hg (J11 hp hg k) h.part⟩
end
end Go.Proofs.YtlpfphlbghdokaaGreatDoor
namespace Go.Proofs.YtlpfphlbghdokaaGreatDoor
open Go.Eng Go.Plain
set_option maxRecDepth 100000
set_option linter.unusedVariables false
def gwF (p:Pr) (g:G) (c:Cf) (v x:Nat):Nat->Nat->V:=fun u _=>.int .i64 (if u<v then gwK p g c u else if u=v then gwS p g c v x else 0)
theorem X4J (p:Pr) (g:G) (c:Cf) (u j:Nat) (F:Nat->Nat->V) (hF:F u j=.int .i64 0):VLe (F u j) (gwF p g c 0 0 u j):=by
 apply VLe.of_eq;rw[hF,gwF];by_cases h:u=0
 . subst h;rfl
 . rw[if_neg (by omega),if_neg h]
theorem X4L (p:Pr) (g:G) (c:Cf) (v u j:Nat) (h:¬ 0<=J0F p g c v):VLe (gwF p g c v 0 u j) (gwF p g c (v+1) 0 u j):=by
 apply VLe.of_eq;rw[gwF,gwF];congr 1;by_cases h1:u<v
 . rw[if_pos h1,if_pos (by omega)]
 . rw[if_neg h1];by_cases h2:u=v
   . subst h2;rw[if_pos rfl,if_pos (by omega),gwK,if_neg h];rfl
   . rw[if_neg h2,if_neg (by omega)];by_cases h3:u=v+1
     . rw[if_pos h3];rfl
     . rw[if_neg h3]
theorem X7q (p:Pr) (g:G) (c:Cf) (v u j:Nat) (h:0<=J0F p g c v):VLe (gwF p g c v p.vars.length u j) (gwF p g c (v+1) 0 u j):=by
 apply VLe.of_eq;rw[gwF,gwF];congr 1;by_cases h1:u<v
 . rw[if_pos h1,if_pos (by omega)]
 . rw[if_neg h1];by_cases h2:u=v
   . subst h2;rw[if_pos rfl,if_pos (by omega),gwK,if_pos h]
   . rw[if_neg h2,if_neg (by omega)];by_cases h3:u=v+1
     . rw[if_pos h3];rfl
     . rw[if_neg h3]
theorem X4K (p:Pr) (g:G) (c:Cf) (v v' x u j:Nat) (hv:v'=v) (hj:j<1) (a:Int) (ha:a=gwS p g c v (x+1)):VLe (J0M (gwF p g c v x) v' 0 [.int .i64 a] u j) (gwF p g c v (x+1) u j):=by
 obtain rfl:j=0:=by omega
 subst hv ha;apply VLe.of_eq;by_cases h:u=v'
 . subst h;simp[J0M,gwF]
 . simp[J0M,gwF,h]
def arX (cl:List Nat) (T:Nat->Nat) (i m:Nat) (t:Int):Nat->Nat->V:=fun q j=>match j with
 | 0=>.int .u32 (if q<m then gN cl q else 0:Nat)
 | _+1=>.int .i64 (if q<i then (T (gN cl q):Int) else if q=i then t else 0)
theorem X2e (cl:List Nat) (T:Nat->Nat) (q j:Nat) (hj:j<2):VLe ((fun(_ j:Nat)=>[V.int .u32 0,V.int .i64 0].getD j default) q j) (arX cl T 0 0 0 q j):=by
 apply VLe.of_eq;rcases j with _|_|j
 . rfl
 . show V.int .i64 0=V.int .i64 _;congr 1;rw[if_neg (by omega)];by_cases h:q=0
   . rw[if_pos h]
   . rw[if_neg h]
 . omega
theorem X5F (cl:List Nat) (T:Nat->Nat) (i i' q j:Nat) (hi:i'=i) (hj:j<2) (s k:Int) (hs:s=(gN cl i:Nat)):VLe (J0M (arX cl T i i 0) i' 0 [.int .u32 s,.int .i64 k] q j) (arX cl T i (i+1) k q j):=by
 subst hi hs;apply VLe.of_eq;by_cases h:q=i'
 . subst h;rcases j with _|_|j
   . simp[J0M,arX]
   . simp[J0M,arX]
   . omega
 . rcases j with _|_|j
   . have:(q<i'+1)=(q<i'):=by simp;omega
     simp[J0M,arX,h,this]
   . simp[J0M,arX,h]
   . omega
theorem X8b (cl:List Nat) (T:Nat->Nat) (i i' q j j':Nat) (hi:i'=i) (hj':j'=1) (hj:j<2) (t t':Int):VLe (J0M (arX cl T i (i+1) t) i' j' [.int .i64 t'] q j) (arX cl T i (i+1) t' q j):=by
 subst hi hj';apply VLe.of_eq;by_cases h:q=i'
 . subst h;rcases j with _|_|j
   . simp[J0M,arX]
   . simp[J0M,arX]
   . omega
 . rcases j with _|_|j
   . simp[J0M,arX,h]
   . simp[J0M,arX,h]
   . omega
theorem X2f (cl:List Nat) (T:Nat->Nat) (i q j:Nat) (t:Int) (ht:t=(T (gN cl i):Nat)):VLe (arX cl T i (i+1) t q j) (arX cl T (i+1) (i+1) 0 q j):=by
 subst ht;apply VLe.of_eq;rcases j with _|j
 . rfl
 . show V.int .i64 _=V.int .i64 _;congr 1;by_cases h:q<i
   . rw[if_pos h,if_pos (by omega)]
   . rw[if_neg h];by_cases h2:q=i
     . rw[if_pos h2,if_pos (by omega),h2]
     . rw[if_neg h2,if_neg (by omega)];by_cases h3:q=i+1
       . rw[if_pos h3]
       . rw[if_neg h3]
theorem X5G (cl:List Nat) (T:Nat->Nat) (q j:Nat) (hq:q<cl.length):VLe (arX cl T cl.length cl.length 0 q j) (vAr (cl.map fun s=>(s,T s)) q j):=by
 apply VLe.of_eq;have hg:gA (cl.map fun s=>(s,T s)) q=(gN cl q,T (gN cl q)):=by
  simp[gA,gN,List.getD_eq_getElem?_getD,List.getElem?_eq_getElem hq]
 rcases j with _|j
 . show V.int .u32 _=V.int .u32 _;rw[hg,if_pos hq]
 . show V.int .i64 _=V.int .i64 _;rw[hg,if_pos hq]
theorem X00 {p:Pr} (hp:J2p p) {g:G} (hg:g.valid=true) {c:Cf} (hc:J1u p g c) {v x:Nat} (hv:v<g.ids.length) (hx:x<p.vars.length) (hr:0<=J0F p g c v) :
 (bnd g (gV p.vars x) v).1<=gI (J1E p g c v (J0F p g c v).toNat) x/\gI (J1E p g c v (J0F p g c v).toNat) x<=(bnd g (gV p.vars x) v).2:=by
 have hcl:=hc.len;have hs:J2e (2 ^ v) (enN p g c):=fun i hi=>by
  have e:=Q2o hi;rw[J3U,Bool.and_eq_true,decide_eq_true_eq,decide_eq_true_eq,<- e];exact⟨hv,hr⟩
 have hd:=J1Q hp hg hc hs;have hrow:=J1R p g c (2 ^ v) (v:=v) (by omega);rw[Nat.testBit_two_pow_self,if_pos rfl] at hrow;have h2:=hd.val v (by rw[J3c];omega) x hx;rw[hrow] at h2;exact h2
set_option maxHeartbeats 16000000 in
theorem Q6A (p:Pr) (hp:J2p p) (g:G) (hg:g.valid=true) (kd:Int) (hk:dk kd=true) (hn:J1g p g<=32768) (c:Cf) (hc:J1u p g c) (he:(chs g kd (enN p g c)).2=0) :
 J0G Tryz.prog 30 [bP p g kd,.vec 0 1 0 g.ids.length,.int .i64 (rkC p g c)] [(999,GB),(0,J8H p g (cF c) [])] KS.tail fun X own' _=>X=.tup [.int .u32 (enN p g c),.vec 1 2 0 (chs g kd (enN p g c)).1.length,.int .i64 0] /\
  own'=[(1,.vec (chs g kd (enN p g c)).1.length 2 (vAr ((chs g kd (enN p g c)).1.map fun s=>(s,rkC p g (J0H p g c s))))),(999,GB),(0,J8H p g (cF c) [])]:=by
 obtain⟨f1,f2,f3,f4,f5,f6,f7⟩:=J0f hg;have hcl:=hc.len;have hvl:=hp.vlen;refine J1q ?_;refine J0c J0b Tryz.func30 rfl hc30 hr30 rfl ?_
 repeat' ((conv=>whnf);first|fail)
 all_goals (conv=>whnf)
 refine J01 J0b [0,1,2,10,21,22] [] [2,3,4,5,6,7,8,9,10,11,12,13,14,15,16,17,18,19,20,21,22,23,24,25,26,27,28,29] [1,999,0] (fun v:Nat=>[(9,.int .u32 (nb (fun u=>decide (0<=J0F p g c u)) v)),(23,.int .i64 v)]) (fun own v=>J1H own 1 (.vec 24 1 (gwF p g c v 0))) (fun m v=>m=g.ids.length-v/\v<=g.ids.length) g.ids.length 0 ⟨rfl,Nat.zero_le _⟩ rfl (fun _=>rfl) ?_ ?_
 . refine J0e (fun _ _=>[(0,some 0),(1,some 1),(999,some 999)]) ?_ ?_ rfl
   . repeat' (first|exact tI|exact J0a.oel rfl rfl|(refine⟨⟨_,rfl,?_⟩,?_⟩)|exact J0a.kf rfl|exact J0a.q)
   . repeat' (first|exact⟨rfl,rfl,True.intro,fun i hi=>rfl,fun i j t hi hn hj ht=>VLe.rfl⟩|exact X4J p g c i j (fun _ _=>.int .i64 0) rfl|exact tI|exact⟨rfl,rfl,rfl⟩|(refine⟨⟨_,rfl,?_⟩,?_⟩)|(refine⟨Nat.le_refl _,rfl,fun i j hi hj=>?_⟩))
 rintro m v ⟨hm,hv⟩;by_cases hvn:v<g.ids.length
 . have hru:=Q2j p hp g hg c hc v (by omega);by_cases hr0:0<=J0F p g c v
   . have hrl:=J9k p g c v;have hmo:=X0Z p hp g hg c hc v hvn (J0F p g c v).toNat (by omega);rw[show(((J0F p g c v).toNat:Nat):Int)=J0F p g c v by omega] at hmo
     repeat' ((conv=>whnf);first|(refine Br.dec ?_ ?_<;>intro _<;>try omega)|(refine Ar.sh1 (by omega) ?_)|(refine Sv.mk _ rfl ?_)|(refine Nn.mk (by omega) ?_)|(refine J0Q hru rfl ⟨Nat.le_refl _,VLe.rfl,Q2J hc _ (fun i j=>VLe.rfl),VLe.rfl,True.intro⟩ ?_)|(refine J12 [(0,some 0)] [1] (hmo.mono ?_) ⟨J0a.kf rfl,J0a.vec rfl rfl rfl,J0a.kf rfl,J0a.kf rfl,True.intro⟩ (by repeat' (first|(refine⟨rfl,rfl,True.intro,fun i hi=>rfl,fun i j t hi hn hj ht=>VLe.rfl⟩)|exact tI|(refine⟨⟨_,rfl,?_⟩,?_⟩))) rfl;rintro _ _ _ ⟨rfl,rfl⟩)|(refine Chk.mk rfl ?_))
     all_goals (conv=>whnf)
     refine J1h J0b [0,1,2,9,10,11,21,22,23,46,47] [3] [4,5,6,7,8,9,10,11,12,13,14,15,16,17,18,19,20,21,22,23,24,25,26,27,28,29] [3,2,1,999,0] (fun x:Nat=>[(48,.int .i64 x)]) (fun x=>(3,.vec (Q5m p v) 1 (J3p (cF c) v))::J1H [(2,.vec p.vars.length 1 (vI (J1E p g c v (J0F p g c v).toNat))),(1,.vec 24 1 (gwF p g c v x)),(999,GB),(0,J8H p g (cF c) [])] 0 (J8H p g (cF c) [(v,3)])) (fun m x=>m=p.vars.length-x/\x<=p.vars.length) p.vars.length 0 ⟨rfl,Nat.zero_le _⟩ rfl (fun _=>rfl) ?_ ?_
     . refine J3A.trans ?_ (J1b (own:=[(2,.vec p.vars.length 1 (vI (J1E p g c v (J0F p g c v).toNat))),(1,.vec 24 1 (gwF p g c v 0)),(999,GB),(0,J8H p g (cF c) [])]) (ks:=[3,4,5,6,7,8,9,10,11,12,13,14,15,16,17,18,19,20,21,22,23,24,25,26,27,28,29]) rfl rfl rfl hvn rfl) (J2I rfl);refine J0e (fun _ _=>[(0,some 0),(1,some 1),(2,some 2),(999,some 999)]) ?_ ?_ rfl
       . repeat' (first|exact tI|exact J0a.oel rfl rfl|(refine⟨⟨_,rfl,?_⟩,?_⟩)|exact J0a.kf rfl|exact J0a.q)
       . repeat' (first|exact⟨rfl,rfl,True.intro,fun i hi=>rfl,fun i j t hi hn hj ht=>VLe.rfl⟩|exact tI|exact⟨rfl,rfl,rfl⟩|(refine⟨⟨_,rfl,?_⟩,?_⟩)|(refine⟨Nat.le_refl _,rfl,fun i j hi hj=>?_⟩)|exact VLe.rfl)
     rintro m2 x ⟨hm2,hx⟩;have hlm:Q5m p v=p.vars.length:=rfl;by_cases hxn:x<p.vars.length
     . have hgx:=Q8g hp hg hc hvn hxn hr0 hn;have hgs:=Q2B hp hg hc hvn hr0 hn (x:=x) (by omega);have hgs2:=Q2B hp hg hc hvn hr0 hn (x:=x+1) (by omega);have hb1:=hc.val v (by omega) x hxn;have hmi:=X00 hp hg hc hvn hxn hr0;have hbi:=J54 hg (hp.var x hxn) (v:=v) (by omega);have hmz:gI (J1E p g c v (J0F p g c v).toNat) (0+x)=gI (J1E p g c v (J0F p g c v).toNat) x:=by rw[Nat.zero_add]
       have hcv:cF c v (0+x)=gI (gC c v) x:=by rw[Nat.zero_add]
       have hmulx:(gI (J1E p g c v (J0F p g c v).toNat) (0+x)-cF c v (0+x))*(plP p g v x:Nat)=gwX p g c v x:=by rw[Nat.zero_add];rfl
       have hsum:(if v<v then gwK p g c v else if v=v then gwS p g c v x else 0)+gwX p g c v x=gwS p g c v (x+1):=by
        rw[if_neg (Nat.lt_irrefl _),if_pos rfl];rfl
       repeat' ((conv=>whnf);first|(refine Ar.i64 (by rw[hmulx];omega) (by rw[hmulx];omega) ?_;rw[hmulx])|(refine Ar.i64 (by rw[hsum];omega) (by rw[hsum];omega) ?_;rw[hsum])|(refine Br.dec ?_ ?_<;>intro _<;>try omega)|(refine Ar.q ?_)|(refine Ix.q ?_)|(refine Ltn.q ?_)|(refine Opn.hd (by omega) ?_))
       all_goals (conv=>whnf)
       refine⟨_,x+1,by omega,⟨rfl,by omega⟩,?_⟩;refine J0e (fun _ _=>[(0,some 0),(1,some 1),(2,some 2),(3,some 3),(999,some 999)]) ?_ ?_ rfl
       . repeat' (first|exact tI|exact J0a.oel rfl rfl|(refine⟨⟨_,rfl,?_⟩,?_⟩)|exact J0a.kf rfl|exact J0a.q)
       . repeat' (first|exact⟨rfl,rfl,⟨rfl,rfl,True.intro⟩,fun i hi=>rfl,fun i j t hi hn hj ht=>VLe.rfl⟩|exact X4K _ _ _ _ _ _ _ _ rfl hj _ rfl|exact tI|exact⟨rfl,rfl,rfl⟩|(refine⟨⟨_,rfl,?_⟩,?_⟩)|(refine⟨Nat.le_refl _,rfl,fun i j hi hj=>?_⟩)|exact VLe.rfl)
     . repeat' ((conv=>whnf);first|(refine Br.dec ?_ ?_<;>intro _<;>try omega)|(refine Ar.q ?_))
       all_goals (conv=>whnf)
       have ex:x=p.vars.length:=by omega
       have hx:=X61 (p:=fun u=>decide (0<=J0F p g c u)) (k:=v) (by omega) (decide_eq_true hr0);refine⟨_,v+1,by omega,⟨rfl,by omega⟩,?_⟩;refine J3A.trans (J2i (J1m (q:=3) (k:=0) (i:=v) [] rfl rfl hvn (J0n rfl) (Nat.le_refl _) rfl (fun j hj=>(J0l (fun e=>hj e.symm)).symm))) ?_ (J7d rfl);refine J0e (fun _ _=>[(0,some 0),(1,some 1),(999,some 999)]) ?_ ?_ rfl
       . repeat' (first|exact J0a.int hx|exact tI|exact J0a.oel rfl rfl|(refine⟨⟨_,rfl,?_⟩,?_⟩)|exact J0a.kf rfl|exact J0a.q)
       . repeat' (first|exact⟨rfl,rfl,True.intro,fun i hi=>rfl,fun i j t hi hn hj ht=>J3N _ _ _ _ _⟩|(rw[ex];exact X7q _ _ _ _ _ _ hr0)|exact tI|exact⟨rfl,rfl,rfl⟩|(refine⟨⟨_,rfl,?_⟩,?_⟩)|(refine⟨Nat.le_refl _,rfl,fun i j hi hj=>?_⟩))
   . repeat' ((conv=>whnf);first|(refine Br.dec ?_ ?_<;>intro _<;>try omega)|(refine Ar.q ?_)|(refine J0Q hru rfl ⟨Nat.le_refl _,VLe.rfl,Q2J hc _ (fun i j=>VLe.rfl),VLe.rfl,True.intro⟩ ?_))
     all_goals (conv=>whnf)
     have hx:=X62 (p:=fun u=>decide (0<=J0F p g c u)) (k:=v) (decide_eq_false hr0);refine⟨_,v+1,by omega,⟨rfl,by omega⟩,?_⟩;refine J0e (fun _ _=>[(0,some 0),(1,some 1),(999,some 999)]) ?_ ?_ rfl
     . repeat' (first|exact J0a.int (by rw[hx])|exact tI|exact J0a.oel rfl rfl|(refine⟨⟨_,rfl,?_⟩,?_⟩)|exact J0a.kf rfl|exact J0a.q)
     . repeat' (first|exact⟨rfl,rfl,True.intro,fun i hi=>rfl,fun i j t hi hn hj ht=>VLe.rfl⟩|exact X4L _ _ _ _ _ _ hr0|exact tI|exact⟨rfl,rfl,rfl⟩|(refine⟨⟨_,rfl,?_⟩,?_⟩)|(refine⟨Nat.le_refl _,rfl,fun i j hi hj=>?_⟩))
 . have ev:v=g.ids.length:=by omega
   subst ev;have h32:=J6b p hg c;have hch:=Q2w g hg kd (enN p g c) h32 (J4B p hg c);rw[he] at hch;have hcl2:=X5k (g:=g) (k:=kd) h32;have hcm:∀s,s∈(chs g kd (enN p g c)).1->s<4294967296/\J2e s (enN p g c):=fun s hs=>⟨J5e h32 s hs,(J1S (J5e h32 s hs)).1 (J2k.1 ((J7F hk h32 (J5e h32 s hs) he).1 hs)).2.1⟩;change RG _ [_,_,.int .u32 (nb (fun u=>decide (0<=J0F p g c u)) g.ids.length:Nat)] _ at hch;generalize (chs g kd (enN p g c)).1=cl at *
   repeat' ((conv=>whnf);first|(refine Br.ff ?_)|(refine Br.dec ?_ ?_<;>intro _<;>try omega)|(refine Bd.q ?_)|(refine Len.q ?_)|(refine hch.gog ?_))
   all_goals (conv=>whnf)
   refine J1h J0b [2,9,10,17,99,100] [] [4,5,6,7,8,9,10,11,12,13,14,15,16,17,18,19,20,21,22,23,24,25,26,27,28,29] [3,2,1,999,0] (fun i:Nat=>[(101,.int .i64 i)]) (fun i=>[(3,.cells [.vec 2 2 0 cl.length]),(2,.vec cl.length 2 (arX cl (fun s=>rkC p g (J0H p g c s)) i i 0)),(1,.vec 24 1 (gwF p g c g.ids.length 0)),(999,GB),(0,J8H p g (cF c) [])]) (fun m i=>m=cl.length-i/\i<=cl.length) cl.length 0 ⟨rfl,Nat.zero_le _⟩ rfl (fun _=>rfl) ?_ ?_
   . refine J0e (fun _ _=>[(0,some 0),(1,some 1),(2,some 2),(3,some 3),(999,some 999)]) ?_ ?_ rfl
     . repeat' (first|exact tI|exact J0a.oel rfl rfl|(refine⟨⟨_,rfl,?_⟩,?_⟩)|exact J0a.kf rfl|exact J0a.loc rfl)
     . repeat' (first|exact⟨rfl,rfl,True.intro,fun i hi=>rfl,fun i j t hi hn hj ht=>VLe.rfl⟩|exact X2e _ _ _ _ hj|exact tI|exact⟨rfl,rfl,rfl⟩|(refine⟨⟨_,rfl,?_⟩,?_⟩)|exact J0a.q|(refine⟨Nat.le_refl _,rfl,fun i j hi hj=>?_⟩)|exact VLe.rfl|apply And.intro)
   rintro m i ⟨hm2,hi⟩;by_cases hil:i<cl.length
   . obtain⟨s32,spt⟩:=hcm (gN cl i) (X7w hil);generalize hs:gN cl i=s at *
     repeat' ((conv=>whnf);first|(refine Br.dec ?_ ?_<;>intro _<;>try omega)|(refine Ix.q ?_)|(refine Ltn.q ?_)|(refine J0c J0b Tryz.func68 rfl X7n X7j rfl ?_)|(refine J1A ?_)|(refine Chk.q ?_)|(refine J0c J0b Tryz.func108 rfl Q8f Q8d rfl ?_))
     all_goals (conv=>whnf)
     have hkc:=Q6R hp hg hc;have hsn:∀u,s.testBit u=true->u<g.ids.length:=fun u hu=>by
      have:=spt u hu;rw[J3U,Bool.and_eq_true,decide_eq_true_eq] at this;exact this.1
     refine J01 J0b [0,1] [] [7,8,9,10,11,12,13,14,15,16,17,18,19,20,21,22,23,24,25,26,27,28,29] [6,5,4,3,2,1,999,0] (fun b:Nat=>[]) (fun own b=>J1H (J1H own 5 (.cells [.int .u32 (upS s b)])) 2 (.vec cl.length 2 (arX cl (fun s=>rkC p g (J0H p g c s)) i (i+1) (toS p g c (rkC p g c) s b)))) (fun m b=>m=g.ids.length-b/\b<=g.ids.length) g.ids.length 0 ⟨rfl,Nat.zero_le _⟩ rfl (fun _=>rfl) ?_ ?_
     . have hx:=J4O s32;have ht0:toS p g c (rkC p g c) s 0=(rkC p g c:Nat):=by rw[toS,J98];exact Int.add_zero _
       refine J0e (fun _ _=>[(0,some 0),(1,some 1),(2,some 2),(3,some 3),(4,some 4),(5,some 5),(6,some 6),(999,some 999)]) ?_ ?_ rfl
       . repeat' (first|exact J0a.yld rfl|exact tI|(refine⟨⟨_,rfl,?_⟩,?_⟩)|exact J0a.loc rfl)
       . repeat' (first|exact⟨rfl,rfl,True.intro,fun i hi=>rfl,fun i j t hi hn hj ht=>VLe.rfl⟩|exact J0a.int (by rw[hx,<- hs])|(refine J0a.fn ?_)|(refine⟨rfl,rfl,rfl,rfl,rfl,?_⟩)|(rw[ht0];exact X5F _ _ _ _ _ _ (Nat.zero_add _) hj _ _ rfl)|exact tI|exact J0a.oel rfl rfl|exact⟨rfl,rfl,rfl⟩|(refine⟨⟨_,rfl,?_⟩,?_⟩)|exact J0a.kf rfl|exact J0a.loc rfl|exact J0a.q|(refine⟨Nat.le_refl _,rfl,fun i j hi hj=>?_⟩)|exact VLe.rfl|apply And.intro)
     rintro m3 b ⟨hm3,hb⟩;have hul:=J8g s b;have hbn:=Q6s hp hg hc hn (k:=rkC p g c) (s:=s) (b:=b) (by omega) hb;by_cases hu:upS s b=0
     . have hte:=X3T hp hg hc spt;rw[Q3x hb (fun u h1 h2=>J6E s32 hu u h1)] at hte
       repeat' ((conv=>whnf);first|(refine Br.bne ?_ ?_<;>intro _<;>try omega)|(refine Ar.q ?_))
       all_goals (conv=>whnf)
       refine⟨_,i+1,by omega,⟨rfl,by omega⟩,?_⟩;refine J0e (fun _ _=>[(0,some 0),(1,some 1),(2,some 2),(3,some 3),(999,some 999)]) ?_ ?_ rfl
       . repeat' (first|exact tI|exact J0a.oel rfl rfl|(refine⟨⟨_,rfl,?_⟩,?_⟩)|exact J0a.kf rfl|exact J0a.loc rfl)
       . repeat' (first|exact⟨rfl,rfl,True.intro,fun i hi=>rfl,fun i j t hi hn hj ht=>VLe.rfl⟩|exact X2f _ _ _ _ _ _ (by rw[hs];exact hte)|exact tI|exact⟨rfl,rfl,rfl⟩|(refine⟨⟨_,rfl,?_⟩,?_⟩)|exact J0a.q|(refine⟨Nat.le_refl _,rfl,fun i j hi hj=>?_⟩)|exact VLe.rfl|apply And.intro)
     . obtain⟨v1,v2,v3,v4,v5⟩:=J4P s32 hu;have htz:=Q6j _ hu hul;have hr:J20 .and .u32 ((upS s b:Nat):Int) ((upS s b:Nat)-1:Int)=((upS s (ctz (upS s b)+1):Nat):Int):=by
        rw[<- v5,show((upS s b:Nat):Int)-1=((upS s b-1:Nat):Int) by omega,J0W hul (by omega)]
       generalize ctz (upS s b)=v at *;have hvn:=hsn v v3;have hts:=X0k (p:=p) (g:=g) (c:=c) (k:=rkC p g c) v3;rw[Q3x v2 v4] at hts;have hbn2:=Q6s hp hg hc hn (k:=rkC p g c) (s:=s) (b:=v+1) (by omega) hvn;have hsum:(if 0+i<i then ((rkC p g (J0H p g c (gN cl (0+i))):Nat):Int) else if 0+i=i then toS p g c (rkC p g c) s b else 0)+(if v<g.ids.length then gwK p g c v else if v=g.ids.length then gwS p g c g.ids.length 0 else 0)=toS p g c (rkC p g c) s (v+1):=by
        rw[Nat.zero_add,if_neg (Nat.lt_irrefl _),if_pos rfl,if_pos hvn,hts]
       repeat' ((conv=>whnf);first|(refine Ar.i64 (by rw[hsum];omega) (by rw[hsum];omega) ?_;rw[hsum])|(refine Br.tt ?_)|(refine Br.bne ?_ ?_<;>intro _<;>try omega)|(refine Ar.u32 (by omega) (by omega) ?_)|(refine Sv.mk _ rfl ?_)|(refine Ix.q ?_)|(refine Ltn.q ?_)|(refine htz.gog ?_)|(refine J1r J0b rfl rfl ?_))
       all_goals (conv=>whnf)
       refine⟨_,v+1,by omega,⟨rfl,hvn⟩,?_⟩;refine J0e (fun _ _=>[(0,some 0),(1,some 1),(2,some 2),(3,some 3),(4,some 4),(5,some 5),(6,some 6),(999,some 999)]) ?_ ?_ rfl
       . repeat' (first|exact J0a.yld rfl|exact tI|(refine⟨⟨_,rfl,?_⟩,?_⟩)|exact J0a.loc rfl)
       . repeat' (first|exact⟨rfl,rfl,True.intro,fun i hi=>rfl,fun i j t hi hn hj ht=>VLe.rfl⟩|exact J0a.int hr|(refine J0a.fn ?_)|(refine⟨rfl,rfl,rfl,rfl,rfl,?_⟩)|exact X8b _ _ _ _ _ _ _ (Nat.zero_add _) rfl hj _ _|exact tI|exact J0a.oel rfl rfl|exact⟨rfl,rfl,rfl⟩|(refine⟨⟨_,rfl,?_⟩,?_⟩)|exact J0a.kf rfl|exact J0a.loc rfl|exact J0a.q|(refine⟨Nat.le_refl _,rfl,fun i j hi hj=>?_⟩)|exact VLe.rfl|apply And.intro)
   . have ei:i=cl.length:=by omega
     subst ei
     repeat' ((conv=>whnf);first|(refine Br.dec ?_ ?_<;>intro _<;>try omega)|(refine And.intro rfl ?_))
     all_goals (conv=>whnf)
     exact J1l (fun _=>[(0,some 0),(1,some 2),(999,some 999)]) _ _ ⟨rfl,rfl⟩ (J0a.tup ⟨J0a.kf rfl,J0a.vec rfl rfl rfl,J0a.kf rfl,True.intro⟩) (by repeat' (first|(refine⟨rfl,rfl,True.intro,fun i hi=>rfl,fun i j t hi hn hj ht=>VLe.rfl⟩)|(refine⟨Nat.le_refl _,rfl,fun i j hi hj=>X5G _ _ _ _ hi⟩)|exact tI|exact⟨rfl,rfl,rfl⟩|(refine⟨⟨_,rfl,?_⟩,?_⟩))) rfl
end Go.Proofs.YtlpfphlbghdokaaGreatDoor
namespace Go.Proofs.YtlpfphlbghdokaaGreatDoor
open Go.Eng Go.Plain
set_option maxRecDepth 100000
set_option linter.unusedVariables false
def X2c (p:Pr) (g:G) (kd:Int) (k:Nat):Nat->Nat->V:=fun i _=>if i<k then arV (J76 p g kd i) else .nilslice
def X42 (p:Pr) (g:G) (k:Nat):Nat->Nat->V:=fun i _=>.int .u32 (if i<k then enN p g (cfK p g i) else 0:Nat)
theorem Q9s (p:Pr) (g:G) (kd:Int) (i j:Nat) (hj:j<1):VLe ((fun(_ j:Nat)=>[V.nilslice].getD j default) i j) (X2c p g kd 0 i j):=by
 obtain rfl:j=0:=by omega
 exact VLe.rfl
theorem Q8C (p:Pr) (g:G) (i j:Nat) (hj:j<1):VLe ((fun(_ j:Nat)=>[V.int .u32 0].getD j default) i j) (X42 p g 0 i j):=by
 obtain rfl:j=0:=by omega
 exact VLe.rfl
theorem X1v (p:Pr) (g:G) (k k' i j:Nat) (hk:k'=k) (hj:j<1):VLe (J0M (X42 p g k) k' 0 [.int .u32 (enN p g (cfK p g k))] i j) (X42 p g (k+1) i j):=by
 obtain rfl:j=0:=by omega
 subst hk;apply VLe.of_eq;by_cases h:i=k'
 . subst h;simp[J0M,X42]
 . have h1:(i<k'+1)=(i<k'):=by simp;omega
   simp[J0M,X42,h,h1]
theorem X2b (p:Pr) (g:G) (kd:Int) (k k' i j:Nat) (X:V) (hX:VLe X (arV (J76 p g kd k))) (hk:k'=k) (hj:j<1):VLe (J0M (X2c p g kd k) k' 0 [X] i j) (X2c p g kd (k+1) i j):=by
 obtain rfl:j=0:=by omega
 subst hk;by_cases h:i=k'
 . subst h;have e1:J0M (X2c p g kd i) i 0 [X] i 0=X:=by simp[J0M]
   have e2:X2c p g kd (i+1) i 0=arV (J76 p g kd i):=by simp[X2c]
   rw[e1,e2];exact hX
 . apply VLe.of_eq;have h1:(i<k'+1)=(i<k'):=by simp;omega
   simp[J0M,X2c,h,h1]
theorem X7U (p:Pr) (g:G) {v x:Nat} (hv:v<g.ids.length) (hx:x<p.vars.length):loP p g v x=cF (cfK p g 0) v x:=by
 show _=gI (gC (cfK p g 0) v) x;rw[J3W p g 0 hv hx,dgP,Mx.dg_zero];simp
theorem X5E (p:Pr) (g:G) (kd:Int) (k n:Nat) (hn:n=(chs g kd (enN p g (cfK p g k))).1.length):VLe (.fz n 2 false (J0j 0 (vAr ((chs g kd (enN p g (cfK p g k))).1.map fun s=>(s,rkC p g (J0H p g (cfK p g k) s)))))) (arV (J76 p g kd k)):=by
 refine VLe.fz ?_ (fun h=>h) (fun i j hi hj=>VLe.of_eq (by rw[J0w,Nat.zero_add];rfl));rw[hn,J76,List.length_map]
set_option maxHeartbeats 16000000 in
theorem Q6G (p:Pr) (hp:J2p p) (g:G) (hs:g.Small) (hg:g.valid=true) (kd:Int) (hk:dk kd=true) (hn:J1g p g<=32768) (he:∀c,(chs g kd (enN p g c)).2=0) (ht:(J5N p g kd).tot (J1g p g)<=262144) :
 RG 9 [p.v,g.v,.int .i64 kd] (.tup [(J5N p g kd).v,.int .i64 0]):=by
 obtain⟨f1,f2,f3,f4,f5,f6,f7⟩:=J0f hg;have hvl:=hp.vlen;have h1:=Q7D p hp g hs hg hn;have h2:=Q1v kd;rw[hk] at h2;have h3:=Q5H p hp g hs hg kd hn;have h4:=Q7u p hp g hs hg;refine J3u rfl ?_;refine J0c J0b Tryz.func9 rfl hc9 hr9 rfl ?_
 repeat' ((conv=>whnf);first|(refine Br.tt ?_)|(refine Br.ff ?_)|(refine Bd.q ?_)|(refine Len.q ?_)|(refine MkS.vec ?_)|(refine h1.go ?_)|(refine h2.go ?_)|(refine h3.go ?_)|(refine J12 [] [0] (h4.mono ?_) ⟨J0a.kf rfl,J0a.kf rfl,True.intro⟩ True.intro rfl;rintro _ _ _ ⟨rfl,rfl⟩)|(refine Chk.mk rfl ?_))
 all_goals (conv=>whnf)
 refine J1h J0b [6,10,11,12,56] [] [7,8,9,10,11,12,13,14,15,16,17,18,19,20,21,22,23,24,25,26,27,28,29] [6,5,4,3,2,1,0,999] (fun k:Nat=>[(14,.int .i64 ((J5N p g kd).tot k)),(57,.int .i64 k)]) (fun k=>[(6,J8H p g (cF (cfK p g k)) []),(5,.cells [.vec 3 1 0 (J1g p g),.vec 4 1 0 (J1g p g)]),(4,.vec (J1g p g) 1 (X2c p g kd k)),(3,.vec (J1g p g) 1 (X42 p g k)),(2,.cells [.nilslice,.nilslice]),(1,.cells [.fz g.ids.length 1 false (vI g.ids),.fz g.ports.length 1 false (vP g.ports)]),(0,.cells [.str p.nm,p.pg.vs,p.pg.rs]),(999,GB)]) (fun m k=>m=J1g p g-k/\k<=J1g p g) (J1g p g) 0 ⟨rfl,Nat.zero_le _⟩ rfl (fun _=>rfl) ?_ ?_
 . refine J0e (fun _ _=>[(0,some 0),(1,some 1),(2,some 2),(3,some 3),(4,some 4),(5,some 5),(6,some 6),(999,some 999)]) ?_ ?_ rfl
   . repeat' (first|exact tI|(refine⟨⟨_,rfl,?_⟩,?_⟩)|exact J0a.kf rfl|exact J0a.loc rfl|exact J0a.q)
   . repeat' (first|exact⟨rfl,rfl,True.intro,fun i hi=>rfl,fun i j t hi hn hj ht=>VLe.of_eq (congrArg (V.int .i64) (X7U p g hi hj))⟩|exact Q9s _ _ _ _ _ hj|exact Q8C _ _ _ _ hj|exact tI|exact⟨rfl,rfl,rfl⟩|(refine⟨⟨_,rfl,?_⟩,?_⟩)|exact J0a.kf rfl|exact J0a.q|(refine⟨Nat.le_refl _,rfl,fun i j hi hj=>?_⟩)|apply And.intro)
 rintro m k ⟨hm,hkc⟩;by_cases hkn:k<J1g p g
 . have hst:=Q6A p hp g hg kd hk hn (cfK p g k) (J11 hp hg k) (he _);rw[X6y hkn] at hst;have had:=X4m p hp g hg k hkn;have htk:=J3b (fun k=>((J5N p g kd).ar k).length) (show k+1<=J1g p g by omega);change (J5N p g kd).tot (k+1)<=(J5N p g kd).tot (J1g p g) at htk;have htn:(J5N p g kd).tot (k+1)=(J5N p g kd).tot k+(chs g kd (enN p g (cfK p g k))).1.length:=by
    show(J5N p g kd).tot k+(J76 p g kd k).length=_;rw[J76,List.length_map]
   repeat' ((conv=>whnf);first|(refine Br.ff ?_)|(refine Br.dec ?_ ?_<;>intro _<;>try omega)|(refine Ar.q ?_)|(refine Ix.q ?_)|(refine Len.q ?_)|(refine Ltn.q ?_)|(refine J12 [(999,some 999),(0,some 6)] [1] (hst.mono ?_) ⟨J0a.kf rfl,J0a.vec rfl rfl rfl,J0a.kf rfl,True.intro⟩ (by repeat' (first|(refine⟨rfl,rfl,True.intro,fun i hi=>rfl,fun i j t hi hn hj ht=>VLe.rfl⟩)|exact tI|exact⟨rfl,rfl,rfl⟩|(refine⟨⟨_,rfl,?_⟩,?_⟩))) rfl;rintro _ _ _ ⟨rfl,rfl⟩)|(refine J12 [(0,some 6)] [] (had.mono ?_) ⟨J0a.kf rfl,J0a.vec rfl rfl rfl,True.intro⟩ (by repeat' (first|(refine⟨rfl,rfl,True.intro,fun i hi=>rfl,fun i j t hi hn hj ht=>VLe.rfl⟩)|exact tI|(refine⟨⟨_,rfl,?_⟩,?_⟩))) rfl;rintro _ _ _ ⟨rfl,rfl⟩)|(refine Chk.mk rfl ?_)|(refine And.intro rfl ?_))
   all_goals (conv=>whnf)
   refine⟨_,k+1,by omega,⟨rfl,by omega⟩,?_⟩;refine J0e (fun _ _=>[(0,some 0),(1,some 1),(2,some 2),(3,some 3),(4,some 4),(5,some 5),(6,some 6),(999,some 999)]) ?_ ?_ rfl
   . repeat' (first|exact tI|(refine⟨⟨_,rfl,?_⟩,?_⟩)|exact J0a.kf rfl|exact J0a.int (by omega)|exact J0a.loc rfl|exact J0a.q)
   . repeat' (first|exact⟨rfl,rfl,True.intro,fun i hi=>rfl,fun i j t hi hn hj ht=>VLe.rfl⟩|exact X1v _ _ _ _ _ _ (Nat.zero_add _) hj|exact X2b p g kd _ _ _ _ _ (X5E p g kd k _ rfl) (Nat.zero_add _) hj|exact tI|exact⟨rfl,rfl,rfl⟩|(refine⟨⟨_,rfl,?_⟩,?_⟩)|exact J0a.kf rfl|exact J0a.q|(refine⟨Nat.le_refl _,rfl,fun i j hi hj=>?_⟩)|apply And.intro)
 . have ek:k=J1g p g:=by omega
   subst ek
   repeat' ((conv=>whnf);first|(refine Br.dec ?_ ?_<;>intro _<;>try omega)|(refine Len.q ?_))
   all_goals (conv=>whnf)
   refine VLe.tup ⟨VLe.agg ⟨VLe.fz rfl (fun h=>h) (fun i j hi hj=>VLe.of_eq ?_),VLe.fz rfl (fun h=>h) (fun i j hi hj=>VLe.of_eq ?_),True.intro⟩,VLe.rfl,True.intro⟩
   . rw[J0w,Nat.zero_add,X42,if_pos hi];rfl
   . rw[J0w,Nat.zero_add,X2c,if_pos hi];rfl
end Go.Proofs.YtlpfphlbghdokaaGreatDoor
namespace Go.Proofs.YtlpfphlbghdokaaGreatDoor
open Go.Eng Go.Plain
set_option maxRecDepth 100000
set_option linter.unusedVariables false
theorem Q6L {sz:Nat->Nat} {m B:Nat}:∀{n:Nat},(∀v,v<n->Mx.pr sz (v*m) m<=B)->Mx.pr sz 0 (n*m)<=B ^ n
 | 0,_=>by simp[Mx.pr]
 | n+1,h=>by
   rw[Nat.add_mul,Nat.one_mul,J9q,Nat.zero_add,Nat.pow_succ];exact Nat.mul_le_mul (Q6L fun v hv=>h v (by omega)) (h n (by omega))
theorem Q7k {l:List Nat} {m:Nat} (hn:l.Pairwise (·<·)) (h:∀a∈l,a<m):l.length<=m:=by
 have h1:l.Nodup:=by
  rw[List.nodup_iff_pairwise_ne];exact hn.imp fun {a b} h=>Nat.ne_of_lt h
 have:=List.Nodup.length_le_of_subset h1 (fun a ha=>List.mem_range.2 (h a ha));simpa using this
theorem X5j {p:Pr} {g:G} (hg:g.valid=true) {kd:Int} (hk:dk kd=true) (c:Cf):(chs g kd (enN p g c)).1.length<=2 ^ g.ids.length:=by
 have h32:=J6b p hg c;have hpw:=Q8E p g c;refine Q7k (J8P h32) fun a ha=>?_;by_cases he:(chs g kd (enN p g c)).2=0
 . have h1:=(J7F hk h32 (J5e h32 a ha) he).1 ha;obtain⟨_,b,_⟩:=J2k.1 h1;exact Nat.lt_of_le_of_lt ((J1S (J5e h32 a ha)).1 b).le hpw
 . rw[(Q86 hk he).2.1] at ha;cases ha
theorem Q6p {p:Pr} {g:G} (hg:g.valid=true) {kd:Int} (hk:dk kd=true):(J5N p g kd).tot (J1g p g)<=J1g p g*2 ^ g.ids.length:=by
 rw[Tsy.tot];refine Q2f _ _ (fun k=>?_) _;show(J76 p g kd k).length<=_;rw[J76,List.length_map];exact X5j hg hk _
theorem X5f:∀{n e:Nat},e<2 ^ n->n<=32->cnt e 32<=n:=by
 intro n e h hn;have e1:(32:Nat)=n+(32-n):=by omega
 rw[e1,J5C,Nat.shiftRight_eq_div_pow,Nat.div_eq_of_lt h,J9Q (fun i _=>Nat.zero_testBit i)];have:=J4o e n;omega
theorem J6w {p:Pr} {g:G} (hg:g.valid=true) {kd:Int} (hk:dk kd=true) (hn:g.ids.length<=10) (c:Cf):(chs g kd (enN p g c)).2=0:=by
 apply Classical.byContradiction;intro h;have h1:=(Q86 hk h).2.2.1;have h2:=X5f (Q8E p g c) (by omega);omega
end Go.Proofs.YtlpfphlbghdokaaGreatDoor
namespace Go.Proofs.YtlpfphlbghdokaaGreatDoor
open Go.Eng Go.Plain
set_option maxRecDepth 100000
set_option linter.unusedVariables false
set_option linter.unusedSectionVars false
theorem Q6T {P:Program} {f:FuncId} {args args':List V} {Φ:V->Prop} (hk:J2O V.kf args'=true) (hl:LLe args' args) (h:Q9D P f args Φ):Q9D P f args' Φ:=fun own ks=>by
 constructor;intro M w σ us hlen hd hh;obtain⟨d1,d2⟩:=hl.dens (M:=M) (w:=w) (us:=us) hlen (fun i v u hv hu=>(hd i v u hv hu).kf (J0t hk v (List.mem_of_getElem? hv)) Sg.none);exact(h own ks).out M w σ us d1 (fun i v u hv hu=>(d2 i v u hv hu).mono (Ext.mk (fun _ _ h=>⟨h,rfl⟩) (Nat.le_refl _)) (Sg.none_le σ)) hh
theorem Q0N {P:Program} {f:FuncId} {args args':List V} {X:V} (hk:J2O V.kf args'=true) (hl:LLe args' args) (h:Ret P f args X):Ret P f args' X :=
 Q9D.ret (Φ:=fun v=>v=X) (Q6T hk hl (h.p rfl)) (fun _ h=>h)
def blW (n:Nat) (lg:Nat->Bool):V:=.fz n 1 false (J0j 0 (vBl lg))
theorem X72 (n:Nat) (lg:Nat->Bool):VLe (blW n lg) (blV n lg):=VLe.fz rfl (fun h=>h) fun i j hi hj=>VLe.of_eq (by rw[J0w,Nat.zero_add];rfl)
theorem Q90 (lg:Nat->Bool) (n m i j:Nat) (hm:m=n) (hi:i<n+1) (hj:j<1) (b:Bool) (F:Nat->Nat->V) (hF:F 0 0=.bool b) (hb:b=lg n):VLe (J5i (J0j 0 (vBl lg)) m (J0j 0 F) i j) (vBl lg i j):=by
 obtain rfl:j=0:=by omega
 subst hm;apply VLe.of_eq;by_cases h:i<m
 . rw[J2a h,J0w,Nat.zero_add]
 . rw[J2b h];have:i=m:=by omega
   subst this;simp[J0j,hF,vBl,hb]
theorem X5b {p:Pr} (hp:J2p p) {g:G} (hg:g.valid=true) {c:Cf} (h:J1u p g c):J4p c:=by
 obtain⟨f1,f2,f3,f4,f5,f6,f7⟩:=J0f hg;have hl:=h.len;have hv:=hp.vlen;refine⟨by omega,fun r hr=>?_⟩;obtain⟨i,hi,e⟩:=List.mem_iff_getElem.1 hr;have h2:gC c i=r:=by simp[gC,List.getD,hi,e]
 have:=h.row i hi;rw[<- h2];omega
theorem X7L {g:G} (hg:g.valid=true) {v:Nat} (hv:v<g.ports.length):(gR g.ports v).length<=g.ports.length:=by
 obtain⟨f1,f2,f3,f4,f5,f6,f7⟩:=J0f hg;have h:=f6 v hv;rw[okR,Bool.and_eq_true,decide_eq_true_eq] at h;have h1:=List.Nodup.length_le_of_subset (l₂:=(List.range g.ports.length).map Int.ofNat) h.2 (fun a ha=>by
  obtain⟨l,hl,rfl⟩:=List.mem_map.1 ha;have h2:=List.all_eq_true.1 h.1 l hl;simp only[okL,Bool.and_eq_true,decide_eq_true_eq] at h2;exact List.mem_map.2 ⟨l.1.toNat,List.mem_range.2 (by omega),by simp;omega⟩)
 simpa using h1
theorem X1L {p:Pr} {g:G} {B:Nat} (h:∀v,v<g.ids.length->Mx.pr (szP p g) (v*p.vars.length) p.vars.length<=B):J1g p g<=B ^ g.ids.length:=Q6L h
section
variable {p:Pr} (hp:J2p p) {g:G} (hs:g.Small) (hg:g.valid=true) {kd:Int} (hk:dk kd=true) {leg:Cf->Bool} {R M:Int} {Inv:Cf->Cnt->Prop} (hS:Srv p g kd leg R M Inv)
 (h10:g.ids.length<=10) (hN:J1g p g<=32768) (hNm:J1g p g*2 ^ g.ids.length<=262144)
include hp hs hg hk h10 hN hNm
theorem Q12:RG 9 [p.v,g.v,.int .i64 kd] (.tup [(J5N p g kd).v,.int .i64 0]) :=
 Q6G p hp g hs hg kd hk hN (J6w hg hk h10) (Nat.le_trans (Q6p hg hk) hNm)
theorem Q3h:(J5N p g kd).Ok:=X6s hp hg hk hN (J6w hg hk h10) (Nat.le_trans (Q6p hg hk) hNm)
include hS
end
end Go.Proofs.YtlpfphlbghdokaaGreatDoor
namespace Go.Proofs.YtlpfphlbghdokaaGreatDoor
open Go.Eng Go.Plain
set_option maxRecDepth 100000
set_option linter.unusedVariables false
set_option linter.unusedSectionVars false
section
variable {p:Pr} (hp:J2p p) {g:G} (hs:g.Small) (hg:g.valid=true) {kd:Int} (hk:dk kd=true) {leg:Cf->Bool} {R:Int} {Inv:Cf->Cnt->Prop} (hS:X8i p g kd leg R Inv)
 (h10:g.ids.length<=10) (hN:J1g p g<=32768) (hNm:J1g p g*2 ^ g.ids.length<=262144)
include hp hs hg hk h10 hN hNm hS
theorem Q11:Ret Tryz.prog 12 [(J5N p g kd).v,blW (J1g p g) (J6l p g leg)] (.tup [blV (J1g p g) fun _=>false,.int .i64 0]):=by
 have hok:=Q3h hp hs hg hk h10 hN hNm;refine Q0N (args:=[(J5N p g kd).v,blV (J1g p g) (J6l p g leg)]) rfl ⟨VLe.rfl,X72 _ _,True.intro⟩ (X1q (J5N p g kd) hok (J6l p g leg) (fun k hk' hl=>?_) (fun c hC u=>?_))
 . exact(hok.ne k hk').1 (hS.en _ (J11 hp hg k) hl)
 . exact X4W hp hg hS hok (fun k _ s hs'=>Q3D hp hg hk (J6w hg hk h10) hs') c hC u
theorem J80:Ret Tryz.prog 13 [(J5N p g kd).v,blW (J1g p g) (J6l p g leg)] (.tup [.bool true,.int .i64 0]) :=
 Q0N (args:=[(J5N p g kd).v,blV (J1g p g) (J6l p g leg)]) rfl ⟨VLe.rfl,X72 _ _,True.intro⟩ (Q5D (J5N p g kd) (Q3h hp hs hg hk h10 hN hNm) (J6l p g leg) (fun k _ hl a ha=>by
  obtain⟨h1,h2,h3⟩:=X2d hp hg hk (J6w hg hk h10) ha;rw[h2,J6l,X28 hp hg h3];exact hS.closed _ _ (J11 hp hg k) hl h1))
end
end Go.Proofs.YtlpfphlbghdokaaGreatDoor
namespace Go.Proofs.YtlpfphlbghdokaaGreatDoor
open Go.Eng
set_option maxRecDepth 100000
set_option linter.unusedVariables false
theorem Q7S:∀{l m:List Nat},l.Nodup->(∀a∈l,a∈m)->l.length<=m.length
 | [],m,_,_=>Nat.zero_le _
 | a::l,m,hn,hs=>by
   rw[List.nodup_cons] at hn;have ham:=hs a (by simp);have h1:=Q7S (l:=l) (m:=m.erase a) hn.2 (fun b hb=>(List.mem_erase_of_ne (fun e=>hn.1 (by rw[<- e];exact hb))).2 (hs b (by simp[hb])));have h2:=List.length_erase_of_mem ham;have h3:=List.length_pos_of_mem ham;simp only[List.length_cons];omega
abbrev Pt:=List (List (Int×Int))
def toN (p:Pt) (v i:Nat):Nat:=(gF (gR p v) i).1.toNat
def lay (p:Pt) (f:Nat):Nat->Nat->Int
 | 0,v=>if v=f then 0 else -1
 | k+1,v=>if 0<=lay p f k v then lay p f k v else if (gR p v).any (fun l=>decide (lay p f k l.1.toNat=k)) then (k:Int)+1 else -1
structure J78 (p:Pt) (f:Nat) (r:Nat->Int):Prop where
 low:∀v,v<p.length->-1<=r v
 from_:r f=0
 back:∀v,v<p.length->v≠f->0<=r v->∃l∈gR p v,r l.1.toNat=r v-1/\0<=r l.1.toNat
 on:∀v,v<p.length->0<=r v->∀l∈gR p v,0<=r l.1.toNat/\r l.1.toNat<=r v+1
structure Und (p:Pt):Prop where
 rng:∀v,v<p.length->∀l∈gR p v,l.1.toNat<p.length
 sym:∀v,v<p.length->∀l∈gR p v,∃m∈gR p l.1.toNat,m.1.toNat=v
theorem J78.at_ {p:Pt} {f:Nat} {r:Nat->Int} (hu:Und p) (h:J78 p f r) (hf:f<p.length):∀k v,v<p.length->lay p f k v=if 0<=r v/\r v<=k then r v else -1
 | 0,v,hv=>by
   simp only[lay];by_cases e:v=f
   . subst e;rw[if_pos rfl,h.from_];simp
   . rw[if_neg e];by_cases h0:0<=r v
     . obtain⟨l,_,h1,h2⟩:=h.back v hv e h0;rw[if_neg (by omega)]
     . rw[if_neg (by omega)]
 | k+1,v,hv=>by
   have ih:=fun v hv=>J78.at_ hu h hf k v hv;have hl:=h.low v hv;rw[lay];by_cases h0:0<=r v/\r v<=k
   . have e1:lay p f k v=r v:=by rw[ih v hv,if_pos h0]
     rw[e1,if_pos h0.1];exact(if_pos ⟨h0.1,by omega⟩).symm
   . have e1:lay p f k v=-1:=by rw[ih v hv,if_neg h0]
     rw[e1,if_neg (by decide)];by_cases h1:0<=r v/\r v=k+1
     . have hvf:v≠f:=fun e=>by subst e;rw[h.from_] at h1;omega
       obtain⟨l,hl,q1,q2⟩:=h.back v hv hvf h1.1;have ha:(gR p v).any (fun l=>decide (lay p f k l.1.toNat=k))=true:=by
        rw[List.any_eq_true];refine⟨l,hl,decide_eq_true ?_⟩;rw[ih _ (hu.rng v hv l hl),if_pos ⟨q2,by omega⟩];omega
       rw[if_pos ha];refine Eq.trans ?_ (if_pos ⟨h1.1,by omega⟩).symm;omega
     . refine Eq.trans (if_neg ?_) (if_neg (show ¬ (0<=r v/\r v<=((k+1:Nat):Int)) by omega)).symm;intro ha;rw[List.any_eq_true] at ha;obtain⟨l,hl,e⟩:=ha;have e:=of_decide_eq_true e;have hlr:=hu.rng v hv l hl;rw[ih _ hlr] at e;split at e
       . rename_i h2;obtain⟨m,hm,em⟩:=hu.sym v hv l hl;obtain⟨q1,q2⟩:=h.on _ hlr h2.1 m hm;rw[em] at q1 q2;omega
       . omega
theorem J78.lt {p:Pt} {f:Nat} {r:Nat->Int} (hu:Und p) (h:J78 p f r) {v:Nat} (hv:v<p.length):r v<p.length:=by
 have key:∀m:Nat,∀v,v<p.length->r v=m->∃l:List Nat,l.length=m+1/\l.Nodup/\(∀u∈l,u<p.length)/\∀u∈l,r u<=m:=by
  intro m
  induction m with
  | zero=>intro v hv e;exact⟨[v],rfl,by simp,by simpa using hv,by simp;omega⟩
  | succ m ih =>
    intro v hv e;have hvf:v≠f:=fun x=>by subst x;rw[h.from_] at e;omega
    obtain⟨l,hl,q1,q2⟩:=h.back v hv hvf (by omega);obtain⟨L,l1,l2,l3,l4⟩:=ih _ (hu.rng v hv l hl) (by omega);refine⟨v::L,by simp[l1],List.nodup_cons.2 ⟨fun hm=>?_,l2⟩,?_,?_⟩
    . have:=l4 v hm;omega
    . intro u hu;rcases List.mem_cons.1 hu with rfl|hu
      . exact hv
      . exact l3 u hu
    . intro u hu;rcases List.mem_cons.1 hu with rfl|hu
      . omega
      . have:=l4 u hu;omega
 rcases Int.lt_or_le (r v) 0 with h0|h0
 . omega
 . obtain⟨L,l1,l2,l3,_⟩:=key (r v).toNat v hv (by omega);have:L.length<=(List.range p.length).length:=Q7S l2 (fun u hu=>List.mem_range.2 (l3 u hu));rw[l1,List.length_range] at this;omega
theorem J78.eq {p:Pt} {f:Nat} {r:Nat->Int} (hu:Und p) (h:J78 p f r) (hf:f<p.length) {v:Nat} (hv:v<p.length):lay p f (p.length-1) v=r v:=by
 have h1:=h.lt hu hv;have h2:=h.low v hv;rw[h.at_ hu hf _ v hv];split
 . rfl
 . omega
def Q81 (p:Nat->Bool):Nat->Nat
 | 0=>0
 | n+1=>Q81 p n+if p n then 1 else 0
theorem J9S {p q:Nat->Bool}:∀{n:Nat},(∀v,v<n->p v=q v)->Q81 p n=Q81 q n
 | 0,_=>rfl
 | n+1,h=>by
   have h1:=J9S (n:=n) fun v hv=>h v (by omega);simp only[Q81,h1,h n (by omega)]
theorem J9R {p q:Nat->Bool} {u:Nat} (hp:p u=true) (hq:q u=false) (h:∀v,v≠u->p v=q v):∀{n:Nat},u<n->Q81 p n=Q81 q n+1
 | n+1,hn=>by
   simp only[Q81];by_cases e:u=n
   . subst e;rw[J9S (fun v hv=>h v (by omega)),hp,hq];simp
   . rw[J9R hp hq h (n:=n) (by omega),h n (fun x=>e x.symm)];omega
def unv (r:List Int) (n:Nat):Nat:=Q81 (fun v=>decide (gI r v<0)) n
theorem J8D (r:List Int) (u v:Nat) (d:Int) (hu:u<r.length):gI (r.set u d) v=if v=u then d else gI r v:=by
 simp only[gI,List.getD,List.getElem?_set];by_cases h:u=v
 . subst h;simp[hu]
 . have:¬ v=u:=fun e=>h e.symm;simp[h,this]
structure BI (p:Pt) (f:Nat) (q:List Nat) (r:List Int):Prop where
 len:r.length=p.length
 low:∀v,v<p.length->-1<=gI r v
 from_:gI r f=0
 back:∀v,v<p.length->v≠f->0<=gI r v->∃l∈gR p v,gI r l.1.toNat=gI r v-1/\0<=gI r l.1.toNat
 qn:∀u∈q,u<p.length/\0<=gI r u
 sorted:q.Pairwise fun a b=>gI r a<=gI r b
structure BO (p:Pt) (f:Nat) (q:List Nat) (r:List Int):Prop extends BI p f q r where
 top:∀u∈q,∀v,v<p.length->gI r v<=gI r u+1
 done:∀v,v<p.length->0<=gI r v->v∉q->∀l∈gR p v,0<=gI r l.1.toNat/\gI r l.1.toNat<=gI r v+1
structure BP (p:Pt) (f v i:Nat) (q:List Nat) (r:List Int):Prop extends BI p f q r where
 vn:v<p.length/\0<=gI r v
 most:∀x,x<p.length->gI r x<=gI r v+1
 least:∀u∈q,gI r v<=gI r u
 done:∀x,x<p.length->0<=gI r x->x∉q->x≠v->∀l∈gR p x,0<=gI r l.1.toNat/\gI r l.1.toNat<=gI r x+1
 seen:∀l∈(gR p v).take i,0<=gI r l.1.toNat
theorem BO.pop {p:Pt} {f v:Nat} {q:List Nat} {r:List Int} (h:BO p f (v::q) r):BP p f v 0 q r where
 len:=h.len
 low:=h.low
 from_:=h.from_
 back:=h.back
 qn:=fun u hu=>h.qn u (by simp[hu])
 sorted:=(List.pairwise_cons.1 h.sorted).2
 vn:=h.qn v (by simp)
 most:=h.top v (by simp)
 least:=(List.pairwise_cons.1 h.sorted).1
 done:=fun x hx h0 hq hv=>h.done x hx h0 (by simp only[List.mem_cons,not_or];exact⟨hv,hq⟩)
 seen:=by simp
theorem BP.fin {p:Pt} {f v i:Nat} {q:List Nat} {r:List Int} (hu:Und p) (h:BP p f v i q r) (hi:(gR p v).length<=i):BO p f q r where
 toBI:=h.toBI
 top:=fun u hu x hx=>by have:=h.least u hu;have:=h.most x hx;omega
 done:=fun x hx h0 hq=>by
  by_cases e:x=v
  . subst e;intro l hl;refine⟨h.seen l (by rw[List.take_of_length_le hi];exact hl),h.most _ (hu.rng x hx l hl)⟩
  . exact h.done x hx h0 hq e
theorem BP.skip {p:Pt} {f v i:Nat} {q:List Nat} {r:List Int} (h:BP p f v i q r) (hi:i<(gR p v).length) (h0:0<=gI r (toN p v i)):BP p f v (i+1) q r where
 toBI:=h.toBI
 vn:=h.vn
 most:=h.most
 least:=h.least
 done:=h.done
 seen:=fun l hl=>by
  rw[J3y _ i hi] at hl;rcases List.mem_append.1 hl with h1|h1
  . exact h.seen l h1
  . simp at h1;rw[h1];exact h0
theorem BP.visit {p:Pt} {f v i:Nat} {q:List Nat} {r:List Int} (hu:Und p) (h:BP p f v i q r) (hi:i<(gR p v).length) (h0:gI r (toN p v i)<0) :
 BP p f v (i+1) (q++[toN p v i]) (r.set (toN p v i) (gI r v+1))/\unv r p.length=unv (r.set (toN p v i) (gI r v+1)) p.length+1:=by
 obtain⟨hv,hv0⟩:=h.vn;have hun:toN p v i<p.length:=hu.rng v hv _ (J3i hi);obtain⟨m,hm,hmv⟩:=hu.sym v hv _ (J3i hi);have hg:=fun x=>J8D r (toN p v i) x (gI r v+1) (by rw[h.len];exact hun);change m∈gR p (toN p v i) at hm;have hlast:(gF (gR p v) i).1.toNat=toN p v i:=rfl;generalize toN p v i=u at *;have hvu:v≠u:=fun e=>by subst e;omega
 have keep:∀x,0<=gI r x->gI (r.set u (gI r v+1)) x=gI r x:=fun x hx=>by
  rw[hg,if_neg (fun e=>by subst e;omega)]
 have hle:∀x,x<p.length->gI (r.set u (gI r v+1)) x<=gI r v+1:=fun x hx=>by
  rw[hg];split
  . omega
  . exact h.most x hx
 refine⟨{ len:=by simp[h.len],low:=?_,from_:=?_,back:=?_,qn:=?_,sorted:=?_,vn:=?_,most:=?_,least:=?_,done:=?_,seen:=?_ },?_⟩
 . intro x hx;rw[hg];split
   . omega
   . exact h.low x hx
 . rw[keep f (by rw[h.from_];omega)];exact h.from_
 . intro x hx hxf hx0;by_cases e:x=u
   . subst e;refine⟨m,hm,?_⟩;rw[hmv,keep v hv0,hg,if_pos rfl];omega
   . rw[hg,if_neg e] at hx0 ⊢;obtain⟨l,hl,a,b⟩:=h.back x hx hxf hx0;exact⟨l,hl,by rw[keep _ b];exact a,by rw[keep _ b];exact b⟩
 . intro w hw;rcases List.mem_append.1 hw with h1|h1
   . obtain⟨a,b⟩:=h.qn w h1;exact⟨a,by rw[keep w b];exact b⟩
   . simp at h1;subst h1;exact⟨hun,by rw[hg,if_pos rfl];omega⟩
 . rw[List.pairwise_append];refine⟨h.sorted.imp_of_mem fun {a b} ha hb hab=>?_,by simp,fun a ha b hb=>?_⟩
   . rw[keep a (h.qn a ha).2,keep b (h.qn b hb).2];exact hab
   . simp at hb;subst hb;rw[keep a (h.qn a ha).2,hg,if_pos rfl];exact h.most a (h.qn a ha).1
 . exact⟨hv,by rw[keep v hv0];exact hv0⟩
 . intro x hx;rw[keep v hv0];exact hle x hx
 . intro w hw;rw[keep v hv0];rcases List.mem_append.1 hw with h1|h1
   . rw[keep w (h.qn w h1).2];exact h.least w h1
   . simp at h1;subst h1;rw[hg,if_pos rfl];omega
 . intro x hx hx0 hq hxv l hl;have hxu:x≠u:=fun e=>hq (by simp[e]);rw[hg,if_neg hxu] at hx0;rw[keep x hx0];obtain⟨a,b⟩:=h.done x hx hx0 (fun e=>hq (by simp[e])) hxv l hl;rw[keep _ a];exact⟨a,b⟩
 . intro l hl;rw[J3y _ i hi] at hl;rcases List.mem_append.1 hl with h1|h1
   . rw[keep _ (h.seen l h1)];exact h.seen l h1
   . simp at h1;rw[h1,hlast,hg,if_pos rfl];omega
 . refine J9R (u:=u) (by simpa using h0) (by rw[hg,if_pos rfl];simp;omega) (fun x hx=>?_) hun;show decide _=decide _;rw[hg,if_neg hx]
theorem BO.found {p:Pt} {f:Nat} {r:List Int} (h:BO p f [] r):J78 p f (gI r) where
 low:=h.low
 from_:=h.from_
 back:=h.back
 on:=fun v hv h0 l hl=>h.done v hv h0 (by simp) l hl
end Go.Proofs.YtlpfphlbghdokaaGreatDoor
namespace Go.Proofs.YtlpfphlbghdokaaGreatDoor
open Go.Eng
set_option maxRecDepth 100000
set_option linter.unusedVariables false
theorem J6G {g:G} (hg:g.valid=true):Und g.ports:=by
 obtain⟨f1,f2,f3,f4,f5,f6,f7⟩:=J0f hg;refine⟨fun v hv l hl=>?_,fun v hv l hl=>⟨_,f7 v hv l hl,by simp⟩⟩;have h:=f6 v hv;rw[okR,Bool.and_eq_true,List.all_eq_true] at h;have:=h.1 _ hl;rw[okL,decide_eq_true_eq] at this;omega
def dst (g:G) (f:Nat):List Int:=(List.range g.ports.length).map (lay g.ports f (g.ports.length-1))
theorem J2J (g:G) (f:Nat):(dst g f).length=g.ports.length:=by simp[dst]
theorem J4C (g:G) (f:Nat) {v:Nat} (hv:v<g.ports.length):gI (dst g f) v=lay g.ports f (g.ports.length-1) v:=by
 simp[dst,gI,hv]
theorem Q2k {g:G} (hg:g.valid=true) (v:Nat):(gR g.ports v).length<=24:=by
 obtain⟨f1,f2,f3,f4,f5,f6,f7⟩:=J0f hg;by_cases h:v<g.ports.length
 . have:=Q2s h (f6 v h);omega
 . rw[show gR g.ports v=[] by simp only[gR,List.getD];rw[List.getElem?_eq_none (by omega)];rfl];simp
theorem Q2r {n v:Nat} {r:List (Int×Int)} (h:okR n v r=true) {i:Nat} (hi:i<r.length):0<=(gF r i).1/\(gF r i).1<n:=by
 rw[okR,Bool.and_eq_true,List.all_eq_true] at h;have:=h.1 _ (J3i hi);rw[okL,decide_eq_true_eq] at this;exact⟨this.1,this.2.1⟩
def vN (l:List Nat):Nat->Nat->V:=fun i _=>.int .i64 (l.getD i 0:Nat)
def X4C (j:Nat):Nat->Nat->V:=fun i _=>.int .i64 (if i<j then -1 else 0)
theorem Q77 (n j i t:Nat) (hi:i<n) (ht:t<1):VLe (J0M (X4C j) j 0 [.int .i64 (-1)] i t) (X4C (j+1) i t):=by
 obtain rfl:t=0:=by omega
 apply VLe.of_eq;by_cases h:i=j
 . subst h;simp[J0M,X4C]
 . have h1:(i<j+1)=(i<j):=by simp;omega
   simp[J0M,X4C,h,h1]
theorem X3H (r:List Int) (u i t:Nat) (d:Int) (hu:u<r.length) (ht:t<1):VLe (J0M (vI r) u 0 [.int .i64 d] i t) (vI (r.set u d) i t):=by
 obtain rfl:t=0:=by omega
 apply VLe.of_eq;simp only[J0M,vI,J8D r u i d hu];by_cases h:i=u
 . subst h;simp
 . simp[h]
theorem X4A (n f i t:Nat) (hf:f<n) (hi:i<n) (ht:t<1):VLe (J0M (X4C n) f 0 [.int .i64 0] i t) (vI ((List.replicate n (-1)).set f 0) i t):=by
 obtain rfl:t=0:=by omega
 apply VLe.of_eq;simp only[J0M,vI];rw[J8D _ _ _ _ (by simpa using hf)];by_cases h:i=f
 . subst h;simp
 . rw[if_neg (by simp[h]),if_neg h];simp[X4C,hi,gI]
theorem Q2U (p:Nat->Bool):∀n,Q81 p n<=n
 | 0=>Nat.le_refl _
 | n+1=>by have:=Q2U p n;rw[Q81];split<;>omega
theorem X16 {p:Pt} (hu:Und p) {f:Nat} (hf:f<p.length):BO p f [f] ((List.replicate p.length (-1)).set f 0):=by
 have hg:=fun x=>J8D (List.replicate p.length (-1)) f x 0 (by simpa using hf);have hr:∀x,x<p.length->gI (List.replicate p.length (-1)) x=-1:=fun x hx=>by simp[gI,hx]
 have hv:∀x,x<p.length->x≠f->gI ((List.replicate p.length (-1)).set f 0) x=-1:=fun x hx h=>by rw[hg,if_neg h,hr x hx]
 have h0:gI ((List.replicate p.length (-1)).set f 0) f=0:=by rw[hg,if_pos rfl]
 refine { len:=by simp,low:=fun x hx=>?_,from_:=h0,back:=fun x hx hxf h=>?_,qn:=fun u hu=>?_,sorted:=by simp,top:=fun u hu x hx=>?_,done:=fun x hx h hq=>?_ }
 . by_cases e:x=f
   . subst e;rw[h0];decide
   . rw[hv x hx e];decide
 . rw[hv x hx hxf] at h;omega
 . simp at hu;subst hu;exact⟨hf,by rw[h0];decide⟩
 . simp at hu;subst hu;rw[h0];by_cases e:x=u
   . subst e;rw[h0];decide
   . rw[hv x hx e];decide
 . have:x≠f:=by simpa using hq
   rw[hv x hx this] at h;omega
theorem X0w (lo:Nat) (f:Nat->Nat->V) (i j:Nat):J0j lo f i j=f (lo+i) j:=by
 cases lo with
 | zero=>simp[J0j]
 | succ n=>simp[J0j]
theorem Q9Z (Q:List Nat) (lo u i t:Nat) (hlo:lo<=Q.length) (hi:i<Q.length-lo+1) (ht:t<1) :
 VLe (J5i (J0j lo (vN Q)) (Q.length-lo) (J0j 0 (tab [[.int .i64 (u:Int)]])) i t) (vN (Q.drop lo++[u]) i t):=by
 obtain rfl:t=0:=by omega
 apply VLe.of_eq;by_cases h:i<Q.length-lo
 . rw[J2a h];simp only[X0w,vN];have:(Q.drop lo++[u]).getD i 0=Q.getD (lo+i) 0:=by
    rw[List.getD_eq_getElem?_getD,List.getD_eq_getElem?_getD,List.getElem?_append_left (by simpa using h),List.getElem?_drop]
   rw[this]
 . rw[J2b h];have:i=Q.length-lo:=by omega
   subst this;simp[J0j,tab,vN]
theorem X4B {n f:Nat} (hf:f<n):∀y,y<n->gI ((List.replicate n (-1)).set f 0) y+unv ((List.replicate n (-1)).set f 0) n<n:=by
 have hg:=fun x=>J8D (List.replicate n (-1)) f x 0 (by simpa using hf);have h1:unv ((List.replicate n (-1)).set f 0) n+1<=n:=by
  have:=J9R (p:=fun _=>true) (q:=fun v=>decide (v≠f)) (u:=f) rfl (by simp) (fun v hv=>by simp[hv]) hf;have h2:unv ((List.replicate n (-1)).set f 0) n=Q81 (fun v=>decide (v≠f)) n:=J9S fun v hv=>by
   rw[hg];by_cases e:v=f
   . simp[e]
   . simp[e,gI,hv]
  have h3:=Q2U (fun _=>true) n;omega
 intro y hy;rw[hg];split
 . omega
 . simp only[gI,List.getD,List.getElem?_replicate,hy,if_true,Option.getD_some];omega
theorem Q6a (Q:List Nat) (lo i t:Nat) (a:Int) (u:Nat) (hlo:lo<=Q.length) (hi:i<Q.length-lo+1) (ht:t<1) (hu:a=u) :
 VLe (J5i (J0j lo (vN Q)) (Q.length-lo) (J0j 0 (tab [[.int .i64 a]])) i t) (vN (Q.drop lo++[u]) i t):=by
 subst hu;exact Q9Z Q lo u i t hlo hi ht
set_option maxHeartbeats 16000000 in
theorem J6P (g:G) (hg:g.valid=true) (f:Nat) (hf:f<g.ports.length):Ret Tryz.prog 61 [g.v,.int .i64 f] (.fz (dst g f).length 1 false (vI (dst g f))):=by
 obtain⟨f1,f2,f3,f4,f5,f6,f7⟩:=J0f hg;have hu:=J6G hg;refine J0g rfl ?_;refine J0c J0b Tryz.func61 rfl hc61 hr61 rfl ?_
 repeat' ((conv=>whnf);first|(refine Bd.q ?_)|(refine Len.q ?_)|(refine MkS.vec ?_))
 all_goals (conv=>whnf)
 refine J1h J0b [1,2,5,16] [] [2,3,4,5,6,7,8,9,10,11,12,13,14,15,16,17,18,19,20,21,22,23,24,25,26,27,28,29] [1,0] (fun j:Nat=>[(17,.int .i64 j)]) (fun j=>[(1,.vec g.ports.length 1 (X4C j)),(0,.cells [.fz g.ids.length 1 false (vI g.ids),.fz g.ports.length 1 false (vP g.ports)])]) (fun m j=>m=g.ports.length-j/\j<=g.ports.length) g.ports.length 0 ⟨rfl,Nat.zero_le _⟩ rfl (fun _=>rfl) ?_ ?_
 . refine J0e (fun _ _=>[(0,some 0),(1,some 1)]) ?_ ?_ rfl
   . repeat' (first|exact tI|(refine⟨⟨_,rfl,?_⟩,?_⟩)|exact J0a.kf rfl|exact J0a.loc rfl|exact J0a.q)
   . repeat' (first|exact⟨Nat.le_refl _,rfl,fun i j hi hj=>VLe.of_eq (by obtain rfl:j=0:=(by omega);rfl)⟩|exact tI|(refine⟨⟨_,rfl,?_⟩,?_⟩)|exact J0a.kf rfl|apply And.intro)
 rintro m j ⟨hm,hj⟩;by_cases hjn:j<g.ports.length
 . repeat' ((conv=>whnf);first|(refine Br.dec ?_ ?_<;>intro _<;>try omega)|(refine Ar.q ?_)|(refine Ix.q ?_)|(refine Ltn.q ?_))
   all_goals (conv=>whnf)
   refine⟨g.ports.length-(j+1),j+1,by omega,⟨rfl,by omega⟩,?_⟩;refine J0e (fun _ _=>[(0,some 0),(1,some 1)]) ?_ ?_ rfl
   . repeat' (first|exact tI|(refine⟨⟨_,rfl,?_⟩,?_⟩)|exact J0a.kf rfl|exact J0a.loc rfl|exact J0a.q)
   . repeat' (first|exact⟨Nat.le_refl _,rfl,fun i t hi ht=>by simp only[Nat.zero_add];exact Q77 _ _ _ _ hi ht⟩|exact tI|(refine⟨⟨_,rfl,?_⟩,?_⟩)|exact J0a.kf rfl|apply And.intro)
 . have ej:j=g.ports.length:=by omega
   subst ej
   repeat' ((conv=>whnf);first|(refine Br.dec ?_ ?_<;>intro _<;>try omega)|(refine Ix.q ?_)|(refine Ltn.q ?_))
   all_goals (conv=>whnf)
   refine J1h J0b [2,5] [2] [3,4,5,6,7,8,9,10,11,12,13,14,15,16,17,18,19,20,21,22,23,24,25,26,27,28,29] [2,1,0] (fun x:Nat×List Nat×List Int=>[(7,.vec 2 1 x.1 (x.2.1.length-x.1))]) (fun x=>[(2,.vec x.2.1.length 1 (vN x.2.1)),(1,.vec g.ports.length 1 (vI x.2.2)),(0,.cells [.fz g.ids.length 1 false (vI g.ids),.fz g.ports.length 1 false (vP g.ports)])])
    (fun m x=>m=2*unv x.2.2 g.ports.length+(x.2.1.length-x.1)/\x.1<=x.2.1.length/\x.2.1.length<=60/\m<=50/\BO g.ports f (x.2.1.drop x.1) x.2.2/\∀y,y<g.ports.length->gI x.2.2 y+unv x.2.2 g.ports.length<g.ports.length) _ (0,[f],(List.replicate g.ports.length (-1)).set f 0) ⟨rfl,by simp,by simp,?_,X16 hu hf,X4B hf⟩ rfl (fun _=>rfl) ?_ ?_
   . have:=Q2U (fun v=>decide (gI ((List.replicate g.ports.length (-1)).set f 0) v<0)) g.ports.length;simp only[unv,List.length_cons,List.length_nil];omega
   . refine J0e (fun _ _=>[(0,some 0),(1,some 1),(2,some 2)]) ?_ ?_ rfl
     . repeat' (first|exact tI|(refine⟨⟨_,rfl,?_⟩,?_⟩)|exact J0a.loc rfl|exact J0a.q)
     . repeat' (first|exact⟨Nat.le_refl _,rfl,fun i t hi ht=>by simp only[Nat.zero_add];exact X4A _ _ _ _ hf hi ht⟩|exact⟨Nat.le_refl _,rfl,fun i t hi ht=>VLe.of_eq (by obtain rfl:i=0:=(by simpa using hi);obtain rfl:t=0:=(by omega);rfl)⟩|exact tI|(refine⟨⟨_,rfl,?_⟩,?_⟩)|exact J0a.kf rfl|apply And.intro)
   rintro m ⟨lo,Q,r⟩ ⟨hm,hlo,hQ,hm50,hbo,hbd⟩;simp only at hm hlo hQ hbo hbd ⊢;by_cases hq:lo<Q.length
   . obtain⟨v,hv⟩:∃v,Q.getD lo 0=v:=⟨_,rfl⟩;have hdrop:Q.drop lo=v::Q.drop (lo+1):=by
      rw[List.drop_eq_getElem_cons hq,<- hv];simp[hq]
     rw[hdrop] at hbo;have hbp:=hbo.pop;obtain⟨hvn,hv0⟩:=hbp.vn;have hrl:=Q2k hg v;have hlen:=hbp.len;have hQv:vN Q lo 0=.int .i64 (v:Int):=by simp only[vN,hv]
     have hQ0:Q.getD (lo+0) 0=v:=hv
     repeat' ((conv=>whnf);first|(refine Ix.w v ?_)|(refine Br.dec ?_ ?_<;>intro _<;>try omega)|(refine Br.nble ?_ ?_<;>intro _<;>try omega)|(refine Ix.mk 0 rfl (by omega) ?_)|(refine Bd.mk 1 rfl (by omega) ?_)|(refine Ltn.q ?_))
     all_goals (conv=>whnf)
     refine J1h J0b [2,5,8,41,42] [2] [3,4,5,6,7,8,9,10,11,12,13,14,15,16,17,18,19,20,21,22,23,24,25,26,27,28,29] [2,1,0] (fun x:Nat×Nat×List Nat×List Int=>[(7,.vec 2 1 x.2.1 (x.2.2.1.length-x.2.1)),(43,.int .i64 x.1)]) (fun x=>[(2,.vec x.2.2.1.length 1 (vN x.2.2.1)),(1,.vec g.ports.length 1 (vI x.2.2.2)),(0,.cells [.fz g.ids.length 1 false (vI g.ids),.fz g.ports.length 1 false (vP g.ports)])])
      (fun k x=>k=(gR g.ports v).length-x.1/\x.1<=(gR g.ports v).length/\x.2.1<=x.2.2.1.length/\x.2.2.1.length<=60/\2*unv x.2.2.2 g.ports.length+(x.2.2.1.length-x.2.1)<m/\BP g.ports f v x.1 (x.2.2.1.drop x.2.1) x.2.2.2/\∀y,y<g.ports.length->gI x.2.2.2 y+unv x.2.2.2 g.ports.length<g.ports.length) _ (0,lo+1,Q,r) ⟨rfl,by simp,by simp only;omega,hQ,by simp only;omega,hbp,hbd⟩ rfl (fun _=>rfl) ?_ ?_
     . exact J0k (fun _ _=>[(0,some 0),(1,some 1),(2,some 2)])
     rintro k ⟨i,lo2,Q2,r2⟩ ⟨hk,hi,hlo2,hQ2,hm2,hbp2,hbd2⟩;simp only at hk hi hlo2 hQ2 hm2 hbp2 hbd2 ⊢;obtain⟨_,hv2⟩:=hbp2.vn;have hlen2:=hbp2.len;have hvb:0<=gI r2 (0+v)/\gI r2 (0+v)<=24:=by rw[Nat.zero_add];have:=hbd2 v hvn;omega
     by_cases hil:i<(gR g.ports v).length
     . have hr:=Q2r (f6 v hvn) hil;have hr':toN g.ports v i<g.ports.length:=by show(gF (gR g.ports v) i).1.toNat<_;omega
       by_cases hneg:gI r2 (gF (gR g.ports v) i).1.toNat<0
       . obtain⟨hbp3,hun⟩:=hbp2.visit hu hil hneg;have hneg2:gI r2 (0+(gF (gR g.ports v) i).1.toNat)<0:=by rw[Nat.zero_add];exact hneg
         repeat' ((conv=>whnf);first|(refine Ix.w v ?_)|(refine Br.dec ?_ ?_<;>intro _<;>try omega)|(refine Br.nbeq ?_ ?_<;>intro _<;>try omega)|(refine Ar.q ?_)|(refine Ix.q ?_)|(refine Ix.int (by omega) (by omega) ?_)|(refine Len.q ?_)|(refine Ltn.q ?_))
         all_goals (conv=>whnf)
         have hdl:(Q2.drop lo2++[toN g.ports v i]).length=Q2.length-lo2+1:=by simp
         refine⟨(gR g.ports v).length-(i+1),(i+1,0,Q2.drop lo2++[toN g.ports v i],r2.set (toN g.ports v i) (gI r2 v+1)),by omega,⟨rfl,by simp only;omega,by simp,by simp only[hdl];omega,by simp only[hdl];omega,hbp3,fun y hy=>?_⟩,?_⟩
         . have hb:=hbd2 y hy;have hb2:=hbd2 v hvn;simp only;rw[J8D _ _ _ _ (by rw[hlen2];exact hr')];split<;>omega
         simp only[hdl];refine J0e (fun env own=>[(0,some 0),(1,some 1),(2,X7E env 66)]) ?_ ?_ rfl
         . repeat' (first|exact tI|(refine⟨⟨_,rfl,?_⟩,?_⟩)|exact J0a.kf rfl|exact J0a.loc rfl|exact J0a.q)
         . repeat' (first|exact⟨Nat.le_refl _,rfl,fun a t ha ht=>by simp only[Nat.zero_add];exact X3H _ _ _ _ _ (by rw[hlen2];exact hr') ht⟩|exact⟨by omega,rfl,fun a t ha ht=>Q6a _ _ _ _ _ _ hlo2 ha ht (show(gF (gR g.ports v) i).1=((gF (gR g.ports v) i).1.toNat:Nat) by omega)⟩|exact tI|(refine⟨⟨_,rfl,?_⟩,?_⟩)|exact J0a.kf rfl|apply And.intro)
       . have hneg2:¬ gI r2 (0+(gF (gR g.ports v) i).1.toNat)<0:=by rw[Nat.zero_add];exact hneg
         have hbp3:=hbp2.skip hil (show 0<=gI r2 (gF (gR g.ports v) i).1.toNat by omega)
         repeat' ((conv=>whnf);first|(refine Br.dec ?_ ?_<;>intro _<;>try omega)|(refine Ar.q ?_)|(refine Ix.q ?_)|(refine Ix.int (by omega) (by omega) ?_)|(refine Ltn.q ?_))
         all_goals (conv=>whnf)
         refine⟨(gR g.ports v).length-(i+1),(i+1,lo2,Q2,r2),by omega,⟨rfl,by simp only;omega,hlo2,hQ2,hm2,hbp3,hbd2⟩,?_⟩;exact J0k (fun env own=>[(0,some 0),(1,some 1),(2,some 2)])
     . have hfin:=hbp2.fin hu (by omega)
       repeat' ((conv=>whnf);first|(refine Br.dec ?_ ?_<;>intro _<;>try omega))
       all_goals (conv=>whnf)
       refine⟨_,(lo2,Q2,r2),hm2,⟨rfl,hlo2,hQ2,by omega,hfin,hbd2⟩,?_⟩;exact J0k (fun env own=>[(0,some 0),(1,some 1),(2,some 2)])
   . have e:lo=Q.length:=by omega
     subst e;rw[List.drop_length] at hbo;have hfd:=hbo.found;have hlen:=hbo.len
     repeat' ((conv=>whnf);first|(refine Br.dec ?_ ?_<;>intro _<;>try omega)|(refine Len.q ?_))
     all_goals (conv=>whnf)
     refine VLe.fz (J2J g f).symm (fun h=>h) (fun i t hi ht=>VLe.of_eq ?_);rw[X0w];simp only[vI,Nat.zero_add];rw[J4C g f hi,hfd.eq hu hf hi]
end Go.Proofs.YtlpfphlbghdokaaGreatDoor
namespace Go.Proofs.YtlpfphlbghdokaaGreatDoor
open Go.Eng
set_option maxRecDepth 100000
set_option linter.unusedVariables false
theorem J6m (p:Pt) (f:Nat):∀k v,-1<=lay p f k v/\lay p f k v<=k
 | 0,v=>by rw[lay];split<;>omega
 | k+1,v=>by
   have:=J6m p f k v;rw[lay];split
   . omega
   . split<;>omega
theorem J7b {p:Pt} {f k v:Nat} (h:0<=lay p f k v):∀m,lay p f (k+m) v=lay p f k v
 | 0=>rfl
 | m+1=>by
   have:=J7b h m;rw[<- Nat.add_assoc,lay,this,if_pos h]
theorem Q08 {p:Pt} {f:Nat}:∀{k v:Nat},0<=lay p f k v->lay p f (lay p f k v).toNat v=lay p f k v
 | 0,v,h=>by
   have:=J6m p f 0 v;have e:lay p f 0 v=0:=by omega
   rw[e];exact e
 | k+1,v,h=>by
   by_cases h0:0<=lay p f k v
   . have e:lay p f (k+1) v=lay p f k v:=by rw[lay,if_pos h0]
     rw[e];exact Q08 h0
   . have e:lay p f (k+1) v=(k:Int)+1:=by
      rw[lay,if_neg h0] at h ⊢;split at h
      . rename_i q;rw[if_pos q]
      . omega
     rw[e,show((k:Int)+1).toNat=k+1 by omega,e]
theorem Q5p {p:Pt} {f k m v:Nat} (h:0<=lay p f k v) (h':0<=lay p f m v):lay p f k v=lay p f m v:=by
 rcases Nat.le_total k m with q|q
 . have:=J7b h (m-k);rw[show k+(m-k)=m by omega] at this;exact this.symm
 . have:=J7b h' (k-m);rw[show m+(k-m)=k by omega] at this;exact this
theorem Q09 {p:Pt} {f:Nat}:∀{k v:Nat},0<=lay p f k v->v≠f->∃l∈gR p v,lay p f k l.1.toNat=lay p f k v-1/\0<=lay p f k l.1.toNat
 | 0,v,h,hv=>by rw[lay,if_neg hv] at h;omega
 | k+1,v,h,hv=>by
   by_cases h0:0<=lay p f k v
   . obtain⟨l,hl,a,b⟩:=Q09 h0 hv;have e1:lay p f (k+1) v=lay p f k v:=by rw[lay,if_pos h0]
     have e2:lay p f (k+1) l.1.toNat=lay p f k l.1.toNat:=by rw[lay,if_pos b]
     exact⟨l,hl,by rw[e1,e2];exact a,by rw[e2];exact b⟩
   . by_cases ha:(gR p v).any (fun l=>decide (lay p f k l.1.toNat=k))=true
     . have e1:lay p f (k+1) v=(k:Int)+1:=by rw[lay,if_neg h0,if_pos ha]
       rw[List.any_eq_true] at ha;obtain⟨l,hl,e⟩:=ha;have e:=of_decide_eq_true e;have e2:lay p f (k+1) l.1.toNat=k:=by rw[lay,if_pos (by omega)];exact e
       exact⟨l,hl,by rw[e1,e2];omega,by rw[e2];omega⟩
     . rw[lay,if_neg h0,if_neg ha] at h;omega
open Classical in
noncomputable def X09 (p:Pt) (f v:Nat):Int:=if h:∃k,0<=lay p f k v then lay p f (Classical.choose h) v else -1
theorem J7c {p:Pt} {f k v:Nat} (h:0<=lay p f k v):X09 p f v=lay p f k v:=by
 have hx:∃k,0<=lay p f k v:=⟨k,h⟩;rw[X09,dif_pos hx];exact Q5p (Classical.choose_spec hx) h
theorem Q39 {p:Pt} {f v:Nat} (h:0<=X09 p f v):∃k,0<=lay p f k v/\X09 p f v=lay p f k v:=by
 by_cases hx:∃k,0<=lay p f k v
 . obtain⟨k,hk⟩:=hx;exact⟨k,hk,J7c hk⟩
 . rw[X09,dif_neg hx] at h;omega
theorem X08 (p:Pt) (f v:Nat):-1<=X09 p f v:=by
 rw[X09];split
 . exact(J6m p f _ v).1
 . omega
theorem Q5q {p:Pt} (f:Nat) (hu:Und p):J78 p f (X09 p f):=by
 have hf0:lay p f 0 f=0:=by rw[lay,if_pos rfl]
 refine⟨fun v _=>X08 p f v,by rw[J7c (k:=0) (by omega),hf0],fun v hv hvf h=>?_,fun v hv h l hl=>?_⟩
 . obtain⟨k,hk,e⟩:=Q39 h;obtain⟨l,hl,a,b⟩:=Q09 hk hvf;exact⟨l,hl,by rw[J7c b,e];exact a,by rw[J7c b];exact b⟩
 . obtain⟨k,hk,e⟩:=Q39 h;obtain⟨m,hm,em⟩:=hu.sym v hv l hl;have hs:=Q08 hk;have hd:((lay p f k v).toNat:Int)=lay p f k v:=by omega
   generalize (lay p f k v).toNat=d at *;have key:0<=lay p f (d+1) l.1.toNat:=by
    rw[lay];split
    . assumption
    . rw[if_pos (by rw[List.any_eq_true];exact⟨m,hm,by rw[em,hs,<- hd];simp⟩)];omega
   have hle:=(J6m p f (d+1) l.1.toNat).2;rw[J7c key,e,<- hd];omega
theorem Q1w {g:G} (hg:g.valid=true):J78 g.ports 0 (fun v=>gI (dst g 0) v):=by
 obtain⟨f1,f2,f3,f4,f5,f6,f7⟩:=J0f hg;have hu:=J6G hg;have hF:=Q5q 0 hu;have he:∀v,v<g.ports.length->gI (dst g 0) v=X09 g.ports 0 v:=fun v hv=>by rw[J4C g 0 hv];exact hF.eq hu (by omega) hv
 refine⟨fun v hv=>by rw[he v hv];exact hF.low v hv,by rw[he 0 (by omega)];exact hF.from_,fun v hv h0 h=>?_,fun v hv h l hl=>?_⟩
 . rw[he v hv] at h ⊢;obtain⟨l,hl,a,b⟩:=hF.back v hv h0 h;exact⟨l,hl,by rw[he _ (hu.rng v hv l hl)];exact a,by rw[he _ (hu.rng v hv l hl)];exact b⟩
 . rw[he v hv] at h ⊢;rw[he _ (hu.rng v hv l hl)];exact hF.on v hv h l hl
end Go.Proofs.YtlpfphlbghdokaaGreatDoor
namespace Go.Proofs.YtlpfphlbghdokaaGreatDoor
open Go.Eng
set_option maxRecDepth 100000
set_option linter.unusedVariables false
theorem X7r (l:List Int) (hl:l.length<=1000):Ret Tryz.prog 60 [.fz l.length 1 false (vI l)] (.int .i64 (J4G l (-1))):=by
 refine J0g rfl ?_;refine J0c J0b Tryz.func60 rfl hc60 hr60 rfl ?_
 repeat' ((conv=>whnf);first|fail)
 all_goals (conv=>whnf)
 refine J0N J0b [6,7] (fun i:Nat=>[(3,.int .i64 (J4G (l.take i) (-1))),(8,.int .i64 i)]) (fun m i=>m=l.length-i/\i<=l.length) l.length 0 ⟨rfl,Nat.zero_le _⟩ ?_ ?_
 . exact J0k (fun _ _=>[])
 rintro m i ⟨hm,hi⟩
 repeat' ((conv=>whnf);first|(refine Br.dec ?_ ?_<;>intro _<;>try omega)|(refine Ar.q ?_)|(refine Sv.mk _ rfl ?_)|(refine Ix.q ?_))
 all_goals (conv=>whnf)
 . refine⟨l.length-(i+1),i+1,by omega,⟨rfl,by omega⟩,?_⟩;simp only[J1x l i (by omega),J4Y];exact J0k (fun _ _=>[])
 . rw[List.take_of_length_le (by omega)];exact VLe.rfl
def X6Z (l:List Int):Bool:=l.any fun a=>decide (a<0)
theorem Q2v {l:List Int}:X6Z l=false↔∀a∈l,0<=a:=by
 rw[X6Z,List.any_eq_false];constructor
 . intro h a ha;have:=h a ha;simp at this;omega
 . intro h a ha;have:=h a ha;simp;omega
def G.conn (g:G):Bool:=g.valid&&!X6Z (dst g 0)
theorem Q2O (g:G) (hs:g.Small):Ret Tryz.prog 59 [g.v] (.bool g.conn):=by
 have hval:=J85 g hs;refine J0g rfl ?_;refine J0c J0b Tryz.func59 rfl hc59 hr59 rfl ?_;rw[G.conn];by_cases hg:g.valid=true
 . obtain⟨f1,f2,f3,f4,f5,f6,f7⟩:=J0f hg;have hsr:=J6P g hg 0 (by omega);have hdl:=J2J g 0;rw[hg] at hval ⊢;rw[Bool.true_and];generalize dst g 0=l at *
   repeat' ((conv=>whnf);first|(refine Br.tt ?_)|(refine hval.go ?_)|(refine hsr.go ?_))
   all_goals (conv=>whnf)
   refine J0N J0b [9,10] (fun i:Nat=>[(11,.int .i64 i)]) (fun m i=>m=l.length-i/\i<=l.length/\∀a∈l.take i,0<=a) l.length 0 ⟨rfl,Nat.zero_le _,by simp⟩ ?_ ?_
   . exact J0k (fun _ _=>[(0,some 0)])
   rintro m i ⟨hm,hi,hall⟩
   repeat' ((conv=>whnf);first|(refine Br.dec ?_ ?_<;>intro _<;>try omega)|(refine Ar.q ?_)|(refine Ix.q ?_))
   all_goals (conv=>whnf)
   . refine VLe.bool ?_;have:X6Z l=true:=by
      rw[X6Z,List.any_eq_true];exact⟨gI l i,J7l (by omega),by simp;omega⟩
     rw[this];rfl
   . refine⟨l.length-(i+1),i+1,by omega,⟨rfl,by omega,?_⟩,?_⟩
     . rw[J1x l i (by omega)];intro a ha;rcases List.mem_append.1 ha with h|h
       . exact hall a h
       . simp at h;omega
     . exact J0k (fun _ _=>[(0,some 0)])
   . rw[List.take_of_length_le (by omega)] at hall;rw[Q2v.2 hall];exact VLe.rfl
 . simp only[Bool.not_eq_true] at hg;rw[hg] at hval ⊢
   repeat' ((conv=>whnf);first|(refine Br.ff ?_)|(refine hval.go ?_))
   all_goals (conv=>whnf)
   all_goals exact VLe.rfl
theorem J0o {g:G} (h:g.conn=true):g.valid=true/\∀v,v<g.ports.length->0<=gI (dst g 0) v:=by
 simp only[G.conn,Bool.and_eq_true,Bool.not_eq_true'] at h;exact⟨h.1,fun v hv=>Q2v.1 h.2 _ (J7l (by rw[J2J];exact hv))⟩
theorem Q7V (p:Pt) (f:Nat):∀k v,-1<=lay p f k v/\lay p f k v<=k
 | 0,v=>by rw[lay];split<;>omega
 | k+1,v=>by
   have:=Q7V p f k v;rw[lay];split
   . omega
   . split<;>omega
end Go.Proofs.YtlpfphlbghdokaaGreatDoor
namespace Go.Proofs.YtlpfphlbghdokaaGreatDoor
open Go.Eng
set_option maxRecDepth 100000
set_option linter.unusedVariables false
theorem X7H (g:G) (hg:g.valid=true):0<(dst g 0).length:=by
 obtain⟨f1,f2,f3,f4,f5,f6,f7⟩:=J0f hg;rw[J2J];omega
theorem X02 {l:List Int} (h0:0<l.length) (h:∀a∈l,0<=a):0<=J4G l (-1):=by
 match l,h0 with
 | a::r,_ =>
   have:=h a (by simp);have h1:=J9v r (if a > -1 then a else -1);have h2:a<=if a > -1 then a else -1:=by split<;>omega
   simp only[J4G];exact Int.le_trans ‹0<=a› (Int.le_trans h2 h1)
def G.ecc (g:G):Int:=if g.conn then J4G (dst g 0) (-1) else -1
theorem X23 (g:G) {v:Nat} (hv:v<g.ports.length):-1<=gI (dst g 0) v/\gI (dst g 0) v<g.ports.length:=by
 rw[J4C g 0 hv];have:=Q7V g.ports 0 (g.ports.length-1) v;omega
theorem Q1u (g:G) (hg:g.conn=true):0<=g.ecc/\g.ecc<=23:=by
 obtain⟨h1,h2⟩:=J0o hg;obtain⟨f1,f2,f3,f4,f5,f6,f7⟩:=J0f h1;rw[G.ecc,if_pos hg];refine⟨X02 (X7H g h1) (fun a ha=>?_),Q2x _ _ _ (by omega) (fun a ha=>?_)⟩
 . obtain⟨i,hi,rfl⟩:=Q8m ha;exact h2 i (by rw[J2J] at hi;exact hi)
 . obtain⟨i,hi,rfl⟩:=Q8m ha;rw[J2J] at hi;have:=X23 g hi;omega
theorem X7G (g:G) (hs:g.Small):Ret Tryz.prog 25 [g.v,.int .i64 0] (.int .i64 g.ecc):=by
 have hcn:=Q2O g hs;refine J0g rfl ?_;refine J0c J0b Tryz.func25 rfl hc25 hr25 rfl ?_;rw[G.ecc];cases hc:g.conn with
 | true =>
   obtain⟨h1,_⟩:=J0o hc;obtain⟨f1,f2,f3,f4,f5,f6,f7⟩:=J0f h1;have hd:=J6P g h1 0 (by omega);have hr:=X7r (dst g 0) (by rw[J2J];omega);rw[hc] at hcn
   repeat' ((conv=>whnf);first|(refine Br.tt ?_)|(refine Br.ff ?_)|(refine Br.dec ?_ ?_<;>intro _<;>try omega)|(refine hcn.go ?_)|(refine hd.go ?_)|(refine hr.go ?_))
   all_goals (conv=>whnf)
   exact VLe.rfl
 | false =>
   rw[hc] at hcn
   repeat' ((conv=>whnf);first|(refine Br.ff ?_)|(refine hcn.go ?_))
   all_goals (conv=>whnf)
   exact VLe.rfl
theorem Q1y (g:G) (hs:g.Small) (hg:g.valid=true):Ret Tryz.prog 76 [g.v,.int .i64 0] (.fz (dst g 0).length 1 false (vI (dst g 0))):=by
 obtain⟨f1,f2,f3,f4,f5,f6,f7⟩:=J0f hg;have hval:=J85 g hs;rw[hg] at hval;have hd:=J6P g hg 0 (by omega);refine J0g rfl ?_;refine J0c J0b Tryz.func76 rfl hc76 hr76 rfl ?_
 repeat' ((conv=>whnf);first|(refine Br.tt ?_)|(refine Br.ff ?_)|(refine Br.dec ?_ ?_<;>intro _<;>try omega)|(refine hval.go ?_)|(refine hd.go ?_))
 all_goals (conv=>whnf)
 exact VLe.rfl
abbrev Q5W:=List (Int×Int)
theorem X1l {l:Q5W} {i:Nat} (h:i<l.length):l.drop i=gF l i::l.drop (i+1):=by
 rw[List.drop_eq_getElem_cons h];simp only[gF,List.getD,List.getElem?_eq_getElem h,Option.getD_some]
def fpI (p:Int×Int->Bool):Nat->Q5W->Int
 | _,[]=>-1
 | k,l::r=>if p l then k else fpI p (k+1) r
theorem J7o (p:Int×Int->Bool):∀(l:Q5W) (k i:Nat),i<=l.length->(∀a∈l.take i,p a=false)->fpI p k l=fpI p (k+i) (l.drop i)
 | _,k,0,_,_=>by simp
 | [],k,i+1,h,_=>by simp at h
 | a::r,k,i+1,h,h2=>by
   have ha:p a=false:=h2 a (by simp);simp only[fpI,ha,List.drop_succ_cons];rw[if_neg (by simp),J7o p r (k+1) i (by simpa using h) (fun x hx=>h2 x (by simp[hx]))];congr 1;omega
theorem J7p (p:Int×Int->Bool):∀(l:Q5W) (k:Nat),fpI p k l=-1\/((k:Int)<=fpI p k l/\fpI p k l<(k+l.length:Nat))
 | [],k=>.inl rfl
 | a::r,k=>by
   simp only[fpI];split
   . right;simp;omega
   . rcases J7p p r (k+1) with h|h
     . exact .inl h
     . right;simp at *;omega
def J9s (g:G) (v:Nat) (l:Int×Int):Bool:=decide (gI (dst g 0) l.1.toNat=gI (dst g 0) v-1)
def upI (g:G) (v:Nat):Int:=fpI (J9s g v) 0 (gR g.ports v)
def dV (g:G):V:=.fz (dst g 0).length 1 false (vI (dst g 0))
theorem Q6S (g:G) (hg:g.valid=true) (v:Nat) (hv:v<g.ports.length) (i:Nat) (hi:i<(gR g.ports v).length) :
 Ret Tryz.prog 118 [.agg [.int .i64 (gF (gR g.ports v) i).1,.int .i64 (gF (gR g.ports v) i).2],.fe 1 1 (tab [[dV g]]) 0 0,.fe 1 1 (tab [[.int .i64 v]]) 0 0] (.bool (J9s g v (gF (gR g.ports v) i))):=by
 obtain⟨f1,f2,f3,f4,f5,f6,f7⟩:=J0f hg;have hr:=Q2r (f6 v hv) hi;have hl:=J2J g 0;have h1:=X23 g hv;refine J0g rfl ?_;refine J0c J0b Tryz.func118 rfl Y2l Y1y rfl ?_
 repeat' ((conv=>whnf);first|(refine Br.dec ?_ ?_<;>intro _<;>try omega)|(refine Ar.q ?_)|(refine Ix.q ?_)|(refine Ix.int (by omega) (by omega) ?_))
 all_goals (conv=>whnf)
 . rename_i h;exact VLe.bool (decide_eq_true h).symm
 . rename_i h;exact VLe.bool (decide_eq_false h).symm
theorem Y2D (g:G) (hg:g.valid=true) (v:Nat) (hv:v<g.ports.length) :
 J0G Tryz.prog 117 [g.v,.int .i64 v,.fn (.func 118) false [.loc 1 0,.loc 0 0]] [(1,.cells [dV g]),(0,.cells [.int .i64 v])] [2,3,4,5,6,7,8,9,10,11,12,13,14,15,16,17,18,19,20,21,22,23,24,25,26,27,28,29] fun X own' _=>X=.int .i64 (upI g v)/\own'=[(1,.cells [dV g]),(0,.cells [.int .i64 v])]:=by
 have hrl:=Q2k hg v;refine J1q ?_;refine J0c J0b Tryz.func117 rfl Y2m Y1z rfl ?_
 repeat' ((conv=>whnf);first|(refine Ix.q ?_))
 all_goals (conv=>whnf)
 refine J0N J0b [2,13,14] (fun i:Nat=>[(15,.int .i64 i)]) (fun m i=>m=(gR g.ports v).length-i/\i<=(gR g.ports v).length/\∀l∈(gR g.ports v).take i,J9s g v l=false) (gR g.ports v).length 0 ⟨rfl,Nat.zero_le _,by simp⟩ ?_ ?_
 . exact J0k (fun _ _=>[(0,some 0),(1,some 1),(2,some 2)])
 rintro m i ⟨hm,hi,hall⟩;by_cases hil:i<(gR g.ports v).length
 . have h1:=Q6S g hg v hv i hil;cases hb:J9s g v (gF (gR g.ports v) i) with
   | true =>
     rw[hb] at h1
     repeat' ((conv=>whnf);first|(refine Br.tt ?_)|(refine Br.dec ?_ ?_<;>intro _<;>try omega)|(refine Ix.q ?_)|(refine Chk.q ?_)|(refine J0Q h1 rfl ⟨VLe.rfl,VLe.rfl,VLe.rfl,True.intro⟩ ?_))
     all_goals (conv=>whnf)
     have e:upI g v=i:=by rw[upI,J7o _ _ 0 i hi hall,X1l hil,fpI,if_pos hb];omega
     exact J1l (fun _=>[(0,some 0),(1,some 1)]) _ _ ⟨by rw[e],rfl⟩ (J0a.kf rfl) (by repeat' (first|exact tI|(refine⟨⟨_,rfl,?_⟩,?_⟩)|exact J0a.kf rfl|apply And.intro)) rfl
   | false =>
     rw[hb] at h1
     repeat' ((conv=>whnf);first|(refine Br.ff ?_)|(refine Br.dec ?_ ?_<;>intro _<;>try omega)|(refine Ar.q ?_)|(refine Ix.q ?_)|(refine Chk.q ?_)|(refine J0Q h1 rfl ⟨VLe.rfl,VLe.rfl,VLe.rfl,True.intro⟩ ?_))
     all_goals (conv=>whnf)
     refine⟨(gR g.ports v).length-(i+1),i+1,by omega,⟨rfl,by omega,fun l hl=>?_⟩,?_⟩
     . rw[J3y _ i hil] at hl;rcases List.mem_append.1 hl with h|h
       . exact hall l h
       . simp at h;rw[h];exact hb
     . exact J0k (fun _ _=>[(0,some 0),(1,some 1),(2,some 2)])
 . repeat' ((conv=>whnf);first|(refine Br.dec ?_ ?_<;>intro _<;>try omega))
   all_goals (conv=>whnf)
   have e:upI g v=-1:=by rw[upI,J7o _ _ 0 i hi hall,List.drop_of_length_le (by omega)];rfl
   exact J1l (fun _=>[(0,some 0),(1,some 1)]) _ _ ⟨by rw[e],rfl⟩ (J0a.kf rfl) (by repeat' (first|exact tI|(refine⟨⟨_,rfl,?_⟩,?_⟩)|exact J0a.kf rfl|apply And.intro)) rfl
end Go.Proofs.YtlpfphlbghdokaaGreatDoor
namespace Go.Proofs.YtlpfphlbghdokaaGreatDoor
open Go.Eng
set_option maxRecDepth 100000
set_option linter.unusedVariables false
theorem X1t (a b:List Int) (ha:a.length<=9223372036854775807) (hb:b.length<=9223372036854775807):Ret Tryz.prog 119 [.fz a.length 1 false (vI a),.fz b.length 1 false (vI b)] (.bool (decide (a=b))):=by
 refine J0g rfl ?_;refine J0c J0b Tryz.func119 rfl Y2k Y1x rfl ?_
 repeat' ((conv=>whnf);first|(refine Br.bne ?_ ?_<;>intro _<;>try omega))
 all_goals (conv=>whnf)
 . exact VLe.bool (by rw[decide_eq_false (fun h=>by subst h;omega)])
 refine J0N J0b [0,1,12] (fun i:Nat=>[(13,.int .i64 i)]) (fun m i=>m=a.length-i/\i<=a.length/\∀j,j<i->gI a j=gI b j) a.length 0 ⟨rfl,Nat.zero_le _,fun j hj=>by omega⟩ ?_ ?_
 . exact J0k (fun _ _=>[])
 rintro m i ⟨hm,hi,hall⟩
 repeat' ((conv=>whnf);first|(refine Br.dec ?_ ?_<;>intro _<;>try omega)|(refine Br.bne ?_ ?_<;>intro _<;>try omega)|(refine Ar.q ?_)|(refine Ix.q ?_))
 all_goals (conv=>whnf)
 . rename_i hne;exact VLe.bool (by rw[decide_eq_false (fun h=>by subst h;exact hne rfl)])
 . refine⟨a.length-(i+1),i+1,by omega,⟨rfl,by omega,fun j hj=>?_⟩,?_⟩
   . by_cases e:j=i
     . subst e;assumption
     . exact hall j (by omega)
   . exact J0k (fun _ _=>[])
 . have e:a=b:=List.ext_getElem (by omega) (fun j h1 h2=>by
    have:=hall j (by omega);simpa[gI,List.getD,List.getElem?_eq_getElem h1,List.getElem?_eq_getElem h2] using this)
   exact VLe.bool (by rw[decide_eq_true e])
theorem Q6k (a b:Int) (f:Nat->Nat->V) (h0:f 0 0=.int .i64 a) (h1:f 1 0=.int .i64 b):∀i j:Nat,i<2->j<1->VLe (f i j) (vI [a,b] i j):=by
 intro i j hi hj;obtain rfl:j=0:=by omega
 rcases (show i=0\/i=1 by omega) with rfl|rfl
 . rw[h0];exact VLe.rfl
 . rw[h1];exact VLe.rfl
theorem X0E (g:G) (hg:g.valid=true) (v:Nat) (hv:v<g.ports.length) (st:List Int) (hst:st.length<=9223372036854775807) :
 Ret Tryz.prog 77 [g.v,.int .i64 v,dV g,.fz st.length 1 false (vI st)] (.bool (decide (st=[gI (dst g 0) v,upI g v]))):=by
 have hfp:=Y2D g hg v hv;have hl:=J2J g 0;have he:=X1t st [gI (dst g 0) v,upI g v] hst (by simp);refine J0g rfl ?_;refine J0c J0b Tryz.func77 rfl hc77 hr77 rfl ?_
 repeat' ((conv=>whnf);first|(refine Br.dec ?_ ?_<;>intro _<;>try omega)|(refine Ix.q ?_)|(refine J12 [(0,some 1),(1,some 2)] [] (hfp.mono ?_) ⟨J0a.kf rfl,J0a.int rfl,J0a.fn ⟨J0a.loc rfl,J0a.loc rfl,True.intro⟩,True.intro⟩ (by repeat' (first|exact tI|(refine⟨⟨_,rfl,?_⟩,?_⟩)|exact J0a.kf rfl|apply And.intro)) rfl;rintro _ _ _ ⟨rfl,rfl⟩)|(refine Chk.mk rfl ?_)|(refine J0Q he rfl ⟨by decide,VLe.rfl,VLe.fz rfl (fun h=>h) (Q6k _ _ _ rfl rfl),True.intro⟩ ?_))
 all_goals (conv=>whnf)
 all_goals exact VLe.bool (Eq.symm (by first|assumption|exact decide_eq_true (by assumption)|exact decide_eq_false (by assumption)))
theorem X5B (g:G) (hs:g.Small):Ret Tryz.prog 116 [g.v] (.bool g.conn):=by
 have h:=Q2O g hs;refine J0g rfl ?_;refine J0c J0b Tryz.func116 rfl Y2n Y1A rfl ?_;cases hc:g.conn
 all_goals rw[hc] at h
 all_goals
  repeat' ((conv=>whnf);first|(refine Br.tt ?_)|(refine Br.ff ?_)|(refine h.go ?_))
  all_goals (conv=>whnf)
  exact VLe.rfl
def G.bconf (g:G) (c:Cf):Bool:=conf g.ids.length 2 (bG g [(g.ids.length:Int),-1]) c
theorem J5F (g:G) (hs:g.Small) (c:Cf) (hc:J4p c):Ret Tryz.prog 75 [g.v,cV c] (.bool (g.conn&&g.bconf c)):=by
 have hf:=X5B g hs;refine J0g rfl ?_;refine J0c J0b Tryz.func75 rfl hc75 hr75 rfl ?_;cases hg:g.conn with
 | true =>
   rw[hg] at hf;rw[Bool.true_and];obtain⟨h1,_⟩:=J0o hg;obtain⟨f1,f2,f3,f4,f5,f6,f7⟩:=J0f h1;have hb:=Q4M g hs f3 c hc [(g.ids.length:Int),-1] (by simp);rw[show conf g.ids.length [(g.ids.length:Int),-1].length (bG g [(g.ids.length:Int),-1]) c=g.bconf c from rfl] at hb
   repeat' ((conv=>whnf);first|(refine Br.tt ?_)|(refine hf.go ?_)|(refine J3z [1] hb ⟨by decide,VLe.rfl,VLe.rfl,VLe.fz rfl (fun h=>h) (Q6k _ _ _ rfl rfl),True.intro⟩ ?_)|(refine Br.any (fun _=>?_) (fun _=>?_)))
   all_goals (conv=>whnf)
   all_goals exact VLe.bool (Eq.symm (by first|assumption|exact decide_eq_true (by assumption)|exact decide_eq_false (by assumption)))
 | false =>
   rw[hg] at hf
   repeat' ((conv=>whnf);first|(refine Br.ff ?_)|(refine hf.go ?_))
   all_goals (conv=>whnf)
   all_goals exact VLe.rfl
def J89 (g:G) (c:Cf):Bool:=decide (∀v,v<c.length->gI (gC c v) 0=gI (dst g 0) v/\gI (gC c v) 1=upI g v)
theorem J29 {g:G} {c:Cf}:J89 g c=true↔∀v,v<c.length->gI (gC c v) 0=gI (dst g 0) v/\gI (gC c v) 1=upI g v:=by rw[J89,decide_eq_true_eq]
theorem X7a {l:List Int} {a b:Int} (h:l.length=2):l=[a,b]↔gI l 0=a/\gI l 1=b:=by
 match l,h with
 | [x,y],_=>simp[gI]
theorem Q9m (g:G) (hs:g.Small) (c:Cf) (hc:J4p c):Ret Tryz.prog 40 [g.v,cV c] (.bool (g.conn&&g.bconf c&&J89 g c)):=by
 have h0:=J5F g hs c hc;refine J0g rfl ?_;refine J0c J0b Tryz.func40 rfl hc40 hr40 rfl ?_;cases hgc:g.conn&&g.bconf c with
 | false =>
   rw[hgc] at h0
   repeat' ((conv=>whnf);first|(refine Br.ff ?_)|(refine h0.go ?_))
   all_goals (conv=>whnf)
   exact VLe.rfl
 | true =>
   rw[hgc] at h0;rw[Bool.true_and];rw[Bool.and_eq_true] at hgc;obtain⟨h1,_⟩:=J0o hgc.1;obtain⟨f1,f2,f3,f4,f5,f6,f7⟩:=J0f h1;have hcf:=J2x.1 hgc.2;have hd:=Q1y g hs h1
   repeat' ((conv=>whnf);first|(refine Br.tt ?_)|(refine h0.go ?_)|(refine hd.go ?_))
   all_goals (conv=>whnf)
   refine J0N J0b [2,5,14,15] (fun i:Nat=>[(16,.int .i64 i)]) (fun m i=>m=c.length-i/\i<=c.length/\∀v,v<i->gI (gC c v) 0=gI (dst g 0) v/\gI (gC c v) 1=upI g v) c.length 0 ⟨rfl,Nat.zero_le _,fun v hv=>by omega⟩ ?_ ?_
   . exact J0k (fun _ _=>[(0,some 0)])
   rintro m i ⟨hm,hi,hall⟩;by_cases hil:i<c.length
   . have hrow:=(hcf.2 i (by omega)).1;have hr:=X0E g h1 i (by omega) (gC c i) (by omega);cases hdd:decide (gC c i=[gI (dst g 0) i,upI g i]) with
     | true =>
       rw[hdd] at hr;have h2:=(X7a hrow).1 (of_decide_eq_true hdd)
       repeat' ((conv=>whnf);first|(refine Br.tt ?_)|(refine Br.dec ?_ ?_<;>intro _<;>try omega)|(refine Ar.q ?_)|(refine Ix.q ?_)|(refine hr.go ?_))
       all_goals (conv=>whnf)
       refine⟨c.length-(i+1),i+1,by omega,⟨rfl,by omega,fun v hv=>?_⟩,?_⟩
       . by_cases e:v=i
         . subst e;exact h2
         . exact hall v (by omega)
       . exact J0k (fun _ _=>[(0,some 0)])
     | false =>
       rw[hdd] at hr
       repeat' ((conv=>whnf);first|(refine Br.ff ?_)|(refine Br.dec ?_ ?_<;>intro _<;>try omega)|(refine Ix.q ?_)|(refine hr.go ?_))
       all_goals (conv=>whnf)
       refine VLe.bool ?_;cases e:J89 g c with
       | false=>rfl
       | true=>exact(of_decide_eq_false hdd ((X7a hrow).2 (J29.1 e i hil))).elim
   . repeat' ((conv=>whnf);first|(refine Br.dec ?_ ?_<;>intro _<;>try omega))
     all_goals (conv=>whnf)
     exact VLe.bool (J29.2 (fun v hv=>hall v (by omega))).symm
end Go.Proofs.YtlpfphlbghdokaaGreatDoor
namespace Go.Proofs.YtlpfphlbghdokaaGreatDoor
open Go.Eng
set_option maxRecDepth 100000
set_option linter.unusedVariables false
theorem Q8W {n m:Nat} {B B':Nat->Nat->Int×Int} {c:Cf} (h:∀v x,v<n->x<m->B v x=B' v x):conf n m B c=conf n m B' c:=by
 rw[Bool.eq_iff_iff,J2x,J2x];refine⟨fun⟨a,b⟩=>⟨a,fun v hv=>⟨(b v hv).1,fun x hx=>by rw[<- h v x hv hx];exact(b v hv).2 x hx⟩⟩,fun⟨a,b⟩=>⟨a,fun v hv=>⟨(b v hv).1,fun x hx=>by rw[h v x hv hx];exact(b v hv).2 x hx⟩⟩⟩
def tkC (c:Cf):Cf:=c.map fun r=>r.take 2
theorem J9a (c:Cf):(tkC c).length=c.length:=by simp[tkC]
theorem J5m (c:Cf) (v:Nat):gC (tkC c) v=(gC c v).take 2:=by
 simp only[gC,tkC,List.getD,List.getElem?_map];cases c[v]?<;>simp
theorem J4b (l:List Int) (i:Nat) (hi:i<2):gI (l.take 2) i=gI l i:=by
 simp only[gI,List.getD,List.getElem?_take,hi,if_true]
def J6U (c:Cf) (v:Nat):Nat->Nat->V:=fun i _=>if i<v then .fz 2 1 false (vI (gC c i)) else .nilslice
theorem X6f (c:Cf) (v i t:Nat) (f:Bool) (F:Nat->Nat->V) (hF:∀a b,VLe (F a b) (vI (gC c v) a b)) (ht:t<1):VLe (J0M (J6U c v) v 0 [.fz 2 1 f F] i t) (J6U c (v+1) i t):=by
 obtain rfl:t=0:=by omega
 by_cases h:i=v
 . subst h;have e1:J0M (J6U c i) i 0 [.fz 2 1 f F] i 0=.fz 2 1 f F:=by simp[J0M]
   have e2:J6U c (i+1) i 0=.fz 2 1 false (vI (gC c i)):=if_pos (by omega);rw[e1,e2];exact VLe.fz rfl (fun h=>by cases h) (fun a b _ _=>hF a b)
 . apply VLe.of_eq;simp only[J0M,J6U];rw[if_neg (by simp[h])];by_cases h2:i<v
   . rw[if_pos h2,if_pos (by omega)]
   . rw[if_neg h2,if_neg (by omega)]
def tw (g:G) (c:Cf) (v:Nat):Int:=if 0<=gI (gC c v) 1 then (gF (gR g.ports v) (gI (gC c v) 1).toNat).1 else -1
def twL (g:G) (c:Cf) (n:Nat):List Int:=(List.range n).map (tw g c)
theorem Q6m (g:G) (c:Cf) (n:Nat):(twL g c n).length=n:=by simp[twL]
theorem Q6n (g:G) (c:Cf) {n v:Nat} (h:v<n):gI (twL g c n) v=tw g c v:=by simp[twL,gI,h]
def twF (g:G) (c:Cf) (v:Nat):Nat->Nat->V:=fun i _=>.int .i64 (if i<v then tw g c i else 0)
theorem X3N (g:G) (c:Cf) (v i t:Nat) (x:Int) (hx:x=tw g c v) (ht:t<1):VLe (J0M (J0M (twF g c v) v 0 [.int .i64 (-1)]) v 0 [.int .i64 x] i t) (twF g c (v+1) i t):=by
 obtain rfl:t=0:=by omega
 apply VLe.of_eq;by_cases h:i=v
 . subst h;simp[J0M,twF,hx]
 . have h1:(i<v+1)=(i<v):=by simp;omega
   simp[J0M,twF,h,h1]
theorem X0g (g:G) (c:Cf) (v i t:Nat) (hx:tw g c v=-1) (ht:t<1):VLe (J0M (twF g c v) v 0 [.int .i64 (-1)] i t) (twF g c (v+1) i t):=by
 obtain rfl:t=0:=by omega
 apply VLe.of_eq;by_cases h:i=v
 . subst h;simp[J0M,twF,hx]
 . have h1:(i<v+1)=(i<v):=by simp;omega
   simp[J0M,twF,h,h1]
structure Y23 (g:G) (c:Cf):Prop where
 len:c.length=g.ports.length
 row:∀v,v<c.length->2<=(gC c v).length/\(gC c v).length<=1000
 pt:∀v,v<c.length->-1<=gI (gC c v) 1/\gI (gC c v) 1<(gR g.ports v).length
theorem Q44 (g:G) (hg:g.valid=true) (c:Cf) (hc:Y23 g c):Ret Tryz.prog 42 [g.v,cV c,.int .i64 1] (.fz (twL g c c.length).length 1 false (vI (twL g c c.length))):=by
 obtain⟨f1,f2,f3,f4,f5,f6,f7⟩:=J0f hg;have hcl:=hc.len;refine J0g rfl ?_;refine J0c J0b Tryz.func42 rfl hc42 hr42 rfl ?_
 repeat' ((conv=>whnf);first|(refine Bd.q ?_)|(refine Len.q ?_)|(refine MkS.vec ?_))
 all_goals (conv=>whnf)
 refine J01 J0b [2,3,7,13,14] [] [2,3,4,5,6,7,8,9,10,11,12,13,14,15,16,17,18,19,20,21,22,23,24,25,26,27,28,29] [1,0] (fun v:Nat=>[(15,.int .i64 v)]) (fun own v=>J1H own 1 (.vec c.length 1 (twF g c v))) (fun m v=>m=c.length-v/\v<=c.length) c.length 0 ⟨rfl,Nat.zero_le _⟩ rfl (fun _=>rfl) ?_ ?_
 . refine J0e (fun _ _=>[(0,some 0),(1,some 1)]) ?_ ?_ rfl
   . repeat' (first|exact tI|(refine⟨⟨_,rfl,?_⟩,?_⟩)|exact J0a.kf rfl|exact J0a.loc rfl|exact J0a.q)
   . repeat' (first|exact⟨Nat.le_refl _,rfl,fun i j hi hj=>VLe.of_eq (by obtain rfl:j=0:=(by omega);rfl)⟩|exact tI|(refine⟨⟨_,rfl,?_⟩,?_⟩)|exact J0a.kf rfl|apply And.intro)
 rintro m v ⟨hm,hv⟩;by_cases hvn:v<c.length
 . have h1:=hc.row v hvn;have h2:=hc.pt v hvn;have hrl:=Q2k hg v
   repeat' ((conv=>whnf);first|(refine Br.dec ?_ ?_<;>intro _<;>try omega)|(refine Ar.q ?_)|(refine Ix.q ?_)|(refine Ix.mk 1 rfl (by omega) ?_)|(refine Ix.int (by omega) (by omega) ?_)|(refine Ltn.q ?_))
   all_goals (conv=>whnf)
   . rename_i hp;refine⟨c.length-(v+1),v+1,by omega,⟨rfl,by omega⟩,?_⟩;refine J0e (fun _ _=>[(0,some 0),(1,some 1)]) ?_ ?_ rfl
     . repeat' (first|exact tI|(refine⟨⟨_,rfl,?_⟩,?_⟩)|exact J0a.kf rfl|exact J0a.loc rfl|exact J0a.q)
     . repeat' (first|exact⟨Nat.le_refl _,rfl,fun i t hi ht=>by simp only[Nat.zero_add];exact X3N g c v i t _ (if_pos hp).symm ht⟩|exact tI|(refine⟨⟨_,rfl,?_⟩,?_⟩)|exact J0a.kf rfl|apply And.intro)
   . rename_i hp;refine⟨c.length-(v+1),v+1,by omega,⟨rfl,by omega⟩,?_⟩;refine J0e (fun _ _=>[(0,some 0),(1,some 1)]) ?_ ?_ rfl
     . repeat' (first|exact tI|(refine⟨⟨_,rfl,?_⟩,?_⟩)|exact J0a.kf rfl|exact J0a.loc rfl|exact J0a.q)
     . repeat' (first|exact⟨Nat.le_refl _,rfl,fun i t hi ht=>by simp only[Nat.zero_add];exact X0g g c v i t (if_neg hp) ht⟩|exact tI|(refine⟨⟨_,rfl,?_⟩,?_⟩)|exact J0a.kf rfl|apply And.intro)
 . repeat' ((conv=>whnf);first|(refine Br.dec ?_ ?_<;>intro _<;>try omega)|(refine Len.q ?_))
   all_goals (conv=>whnf)
   refine VLe.fz (Q6m g c _).symm (fun h=>h) (fun i t hi ht=>VLe.of_eq ?_);rw[X0w,vI,Q6n g c hi];simp only[twF,Nat.zero_add];rw[if_pos (by omega)]
end Go.Proofs.YtlpfphlbghdokaaGreatDoor
namespace Go.Proofs.YtlpfphlbghdokaaGreatDoor
open Go.Eng
set_option maxRecDepth 100000
set_option linter.unusedVariables false
theorem Q38 {p:Pt} {f:Nat}:∀{k v:Nat},0<=lay p f k v->v≠f->∃l∈gR p v,lay p f k l.1.toNat=lay p f k v-1/\0<=lay p f k l.1.toNat
 | 0,v,h,hv=>by rw[lay,if_neg hv] at h;omega
 | k+1,v,h,hv=>by
   by_cases h0:0<=lay p f k v
   . obtain⟨l,hl,a,b⟩:=Q38 h0 hv;have e1:lay p f (k+1) v=lay p f k v:=by rw[lay,if_pos h0]
     have e2:lay p f (k+1) l.1.toNat=lay p f k l.1.toNat:=by rw[lay,if_pos b]
     exact⟨l,hl,by rw[e1,e2];exact a,by rw[e2];exact b⟩
   . by_cases ha:(gR p v).any (fun l=>decide (lay p f k l.1.toNat=k))=true
     . have e1:lay p f (k+1) v=(k:Int)+1:=by rw[lay,if_neg h0,if_pos ha]
       rw[List.any_eq_true] at ha;obtain⟨l,hl,e⟩:=ha;have e:=of_decide_eq_true e;have e2:lay p f (k+1) l.1.toNat=k:=by rw[lay,if_pos (by omega)];exact e
       exact⟨l,hl,by rw[e1,e2];omega,by rw[e2];omega⟩
     . rw[lay,if_neg h0,if_neg ha] at h;omega
theorem Q4m {p:Int×Int->Bool}:∀{l:Q5W} {k:Nat},(∀a∈l,p a=false)->fpI p k l=-1
 | [],k,_=>rfl
 | a::r,k,h=>by rw[fpI,h a (by simp),if_neg (by simp)];exact Q4m fun b hb=>h b (by simp[hb])
theorem Q4l {p:Int×Int->Bool}:∀{l:Q5W} {k:Nat},(∃a∈l,p a=true)->0<=fpI p k l
 | [],k,h=>by simp at h
 | a::r,k,h=>by
   rw[fpI];split
   . omega
   . rename_i hn;refine Q4l ?_;obtain⟨b,hb,e⟩:=h;rcases List.mem_cons.1 hb with rfl|hb
     . exact(hn e).elim
     . exact⟨b,hb,e⟩
theorem X1z (g:G) (hg:g.valid=true):gI (dst g 0) 0=0:=by
 obtain⟨f1,f2,f3,f4,f5,f6,f7⟩:=J0f hg;have h:∀k,lay g.ports 0 k 0=0:=by
  intro k
  induction k with
  | zero=>rfl
  | succ k ih=>rw[lay,ih];rfl
 rw[J4C g 0 (by omega),h]
theorem J87 {g:G} (hg:g.conn=true):upI g 0=-1:=by
 obtain⟨h1,h2⟩:=J0o hg;have hr:=(J6G h1).rng 0;obtain⟨f1,f2,f3,f4,f5,f6,f7⟩:=J0f h1;refine Q4m fun l hl=>decide_eq_false ?_;have:=h2 _ (hr (by omega) l hl);rw[X1z g h1];omega
theorem Q3r {g:G} (hg:g.conn=true) {v:Nat} (hv:v<g.ports.length) (h0:v≠0):0<=upI g v/\upI g v<(gR g.ports v).length:=by
 obtain⟨h1,h2⟩:=J0o hg;have hr:=(J6G h1).rng v hv;have hd:=h2 v hv;rw[J4C g 0 hv] at hd;obtain⟨l,hl,a,b⟩:=Q38 hd h0;have h3:0<=upI g v:=Q4l ⟨l,hl,decide_eq_true (by rw[J4C g 0 (hr l hl),J4C g 0 hv];exact a)⟩;have:=J7p (J9s g v) (gR g.ports v) 0;refine⟨h3,?_⟩;unfold upI at *;omega
theorem X0f {g:G} {c:Cf} (hg:g.conn=true) (hc:Y23 g c) (ht:J89 g c=true) {v:Nat} (hv:v<c.length):(v=0->tw g c v=-1)/\(v≠0->0<=tw g c v/\tw g c v<c.length):=by
 obtain⟨h1,h2⟩:=J0o hg;obtain⟨f1,f2,f3,f4,f5,f6,f7⟩:=J0f h1;have hl:=hc.len;have h:=(J29.1 ht v hv).2;refine⟨fun e=>?_,fun e=>?_⟩
 . subst e;rw[tw,h,J87 hg,if_neg (by omega)]
 . obtain⟨a,b⟩:=Q3r hg (show v<g.ports.length by omega) e;have:=Q2r (f6 v (by omega)) (i:=(upI g v).toNat) (by omega);rw[tw,h,if_pos a];omega
end Go.Proofs.YtlpfphlbghdokaaGreatDoor
namespace Go.Plain.Tree
structure Net (n:Nat) (a:Nat->Nat->Bool) (D:Nat->Nat):Prop where
 rng:∀u v,u<n->a u v=true->v<n
 root:∀v,v<n->(D v=0↔v=0)
 near:∀v,v<n->v≠0->∃u,a v u=true/\D u+1=D v
 step:∀u v,u<n->a u v=true->D u<=D v+1
 top:∀v,v<n->D v+1<=n
structure St where
 d:Nat->Int
 p:Nat->Int
structure Rule (n:Nat) (a:Nat->Nat->Bool) (D:Nat->Nat) (P:Nat->Int) (tg:(Nat->Int)->Nat->Int×Int):Prop where
 root:∀d,tg d 0=(0,-1)
 right:∀d v,v<n->v≠0->(∀u,a v u=true->D u+1=D v->d u=((D u:Nat):Int))->(∀u,a v u=true->D v<=D u->(D v:Int)<=d u)->tg d v=(((D v:Nat):Int),P v)
 low:∀d v (k:Nat),v<n->v≠0->k+1<=n->(∀u,a v u=true->(k:Int)<=d u)->((k+1:Nat):Int)<=(tg d v).1
 proot:P 0=-1
variable {n:Nat} {a:Nat->Nat->Bool} {D:Nat->Nat} {P:Nat->Int} {tg:(Nat->Int)->Nat->Int×Int}
def right (D:Nat->Nat) (P:Nat->Int) (s:St) (v:Nat):Prop:=s.d v=((D v:Nat):Int)/\s.p v=P v
def off (tg:(Nat->Int)->Nat->Int×Int) (s:St) (v:Nat):Prop:=(s.d v,s.p v)≠tg s.d v
def Step (n:Nat) (tg:(Nat->Int)->Nat->Int×Int) (s:St) (c:Nat->Bool) (s':St):Prop :=
 ∀v,v<n->(c v=true->off tg s v->(s'.d v,s'.p v)=tg s.d v)/\(c v=false\/¬ off tg s v->s'.d v=s.d v/\s'.p v=s.p v)
structure Ok (n:Nat) (D:Nat->Nat) (P:Nat->Int) (s:St) (k:Nat):Prop where
 low:∀v,v<n->D v<k->right D P s v
 far:∀v,v<n->k<=D v->(k:Int)<=s.d v
def bad (D:Nat->Nat) (P:Nat->Int) (s:St) (k v:Nat):Prop:=(D v=k/\¬ right D P s v)\/(k<D v/\s.d v<(k:Int)+1)
theorem Ok.start {s:St} (h:∀v,v<n->0<=s.d v):Ok n D P s 0:=⟨fun v _ h=>by omega,fun v hv _=>by simpa using h v hv⟩
theorem Ok.tgt (hN:Net n a D) (hR:Rule n a D P tg) {s:St} {k:Nat} (h:Ok n D P s k) {v:Nat} (hv:v<n) (hk:D v<=k):tg s.d v=(((D v:Nat):Int),P v):=by
 by_cases h0:v=0
 . subst h0;rw[hR.root,(hN.root 0 hv).2 rfl,hR.proot];rfl
 . refine hR.right s.d v hv h0 (fun u hu e=>?_) (fun u hu e=>?_)
   . exact(h.low u (hN.rng v u hv hu) (by omega)).1
   . have hun:=hN.rng v u hv hu;by_cases q:D u<k
     . rw[(h.low u hun q).1];omega
     . have:=h.far u hun (by omega);omega
theorem Ok.tgfar (hN:Net n a D) (hR:Rule n a D P tg) {s:St} {k:Nat} (h:Ok n D P s k) {v:Nat} (hv:v<n) (hk:k<D v):((k+1:Nat):Int)<=(tg s.d v).1:=by
 have h0:v≠0:=fun e=>by have:=(hN.root v hv).2 e;omega
 have ht:=hN.top v hv;refine hR.low s.d v k hv h0 (by omega) fun u hu=>?_;have:=hN.step v u hv hu;exact h.far u (hN.rng v u hv hu) (by omega)
theorem Ok.off_bad (hN:Net n a D) (hR:Rule n a D P tg) {s:St} {k:Nat} (h:Ok n D P s k) {v:Nat} (hv:v<n) (hb:bad D P s k v):off tg s v:=by
 rcases hb with ⟨h1,h2⟩ | ⟨h1,h2⟩
 . intro e;rw[h.tgt hN hR hv (by omega)] at e;exact h2 ⟨(Prod.mk.inj e).1,(Prod.mk.inj e).2⟩
 . intro e;have:=h.tgfar hN hR hv h1;rw[<- e] at this;simp only at this;omega
theorem Ok.step (hN:Net n a D) (hR:Rule n a D P tg) {s s':St} {c:Nat->Bool} {k:Nat} (h:Ok n D P s k) (hs:Step n tg s c s') :
 Ok n D P s' k/\∀v,v<n->bad D P s' k v->bad D P s k v/\c v=false:=by
 have key:∀v,v<n->(c v=true/\off tg s v/\(s'.d v,s'.p v)=tg s.d v)\/((c v=false\/¬ off tg s v)/\s'.d v=s.d v/\s'.p v=s.p v):=fun v hv=>by
  obtain⟨h1,h2⟩:=hs v hv;by_cases q:c v=false\/¬ off tg s v
  . exact .inr ⟨q,h2 q⟩
  . have qc:c v=true:=by
     cases e:c v with
     | true=>rfl
     | false=>exact(q (.inl e)).elim
    have qo:off tg s v:=Classical.byContradiction fun e=>q (.inr e);exact .inl ⟨qc,qo,h1 qc qo⟩
 have low':∀v,v<n->D v<k->right D P s' v:=fun v hv hk=>by
  rcases key v hv with ⟨_,_,e⟩ | ⟨_,e1,e2⟩
  . rw[h.tgt hN hR hv (by omega)] at e;exact⟨(Prod.mk.inj e).1,(Prod.mk.inj e).2⟩
  . obtain⟨r1,r2⟩:=h.low v hv hk;exact⟨by rw[e1];exact r1,by rw[e2];exact r2⟩
 have far':∀v,v<n->k<=D v->(k:Int)<=s'.d v:=fun v hv hk=>by
  rcases key v hv with ⟨_,_,e⟩ | ⟨_,e1,_⟩
  . by_cases q:D v=k
    . rw[h.tgt hN hR hv (by omega)] at e;rw[(Prod.mk.inj e).1];omega
    . have:=h.tgfar hN hR hv (by omega);rw[<- e] at this;simp only at this;omega
  . rw[e1];exact h.far v hv hk
 refine⟨⟨low',far'⟩,fun v hv hb=>?_⟩;rcases key v hv with ⟨_,_,e⟩ | ⟨q,e1,e2⟩
 . exfalso;rcases hb with ⟨h1,h2⟩ | ⟨h1,h2⟩
   . rw[h.tgt hN hR hv (by omega)] at e;exact h2 ⟨(Prod.mk.inj e).1,(Prod.mk.inj e).2⟩
   . have:=h.tgfar hN hR hv h1;rw[<- e] at this;simp only at this;omega
 . have hb0:bad D P s k v:=by
    rcases hb with ⟨h1,h2⟩ | ⟨h1,h2⟩
    . exact .inl ⟨h1,fun r=>h2 ⟨by rw[e1];exact r.1,by rw[e2];exact r.2⟩⟩
    . exact .inr ⟨h1,by rw[<- e1];exact h2⟩
   refine⟨hb0,?_⟩;rcases q with q|q
   . exact q
   . exact(q (h.off_bad hN hR hv hb0)).elim
theorem Ok.next {s:St} {k:Nat} (h:Ok n D P s k) (hb:∀v,v<n->¬ bad D P s k v):Ok n D P s (k+1):=by
 refine⟨fun v hv hk=>?_,fun v hv hk=>?_⟩
 . by_cases e:D v=k
   . exact Classical.byContradiction fun q=>hb v hv (.inl ⟨e,q⟩)
   . exact h.low v hv (by omega)
 . have:=hb v hv;apply Classical.byContradiction;intro q;exact this (.inr ⟨by omega,by omega⟩)
theorem Ok.all (hN:Net n a D) (hR:Rule n a D P tg) {s:St} {k:Nat} (h:Ok n D P s k) {v:Nat} (hv:v<n) (hk:D v<k):¬ off tg s v:=fun e=>by
 obtain⟨r1,r2⟩:=h.low v hv hk;apply e;rw[h.tgt hN hR hv (by omega),r1,r2]
end Go.Plain.Tree
namespace Go.Proofs.YtlpfphlbghdokaaGreatDoor
open Go.Eng
set_option maxRecDepth 100000
set_option linter.unusedVariables false
def Dg (g:G) (v:Nat):Nat:=(gI (dst g 0) v).toNat
theorem J7A {g:G} (h:g.conn=true) {v:Nat} (hv:v<g.ids.length):((Dg g v:Nat):Int)=gI (dst g 0) v:=by
 obtain⟨h1,h2⟩:=J0o h;obtain⟨f1,f2,f3,f4,f5,f6,f7⟩:=J0f h1;have:=h2 v (by omega);rw[Dg];omega
theorem Q7q {g:G} (h:g.conn=true):Go.Plain.Tree.Net g.ids.length (adN g) (Dg g):=by
 obtain⟨h1,h2⟩:=J0o h;obtain⟨f1,f2,f3,f4,f5,f6,f7⟩:=J0f h1;have hu:=J6G h1;have hF:=Q1w h1;have hD:=fun v (hv:v<g.ids.length)=>J7A h hv;have near:∀v,v<g.ids.length->v≠0->∃u,adN g v u=true/\Dg g u+1=Dg g v:=fun v hv h0=>by
  obtain⟨l,hl,a,b⟩:=hF.back v (by omega) h0 (h2 v (by omega));have hln:=hu.rng v (by omega) l hl;have e1:=hD v hv;have e2:=hD l.1.toNat (by omega);exact⟨l.1.toNat,J2M.2 ⟨l,hl,rfl⟩,by omega⟩
 refine⟨fun u v hu' hv=>(J91 h1).rng u v hu' hv,fun v hv=>⟨fun e=>?_,fun e=>?_⟩,near,fun u v hun huv=>?_,fun v hv=>?_⟩
 . apply Classical.byContradiction;intro h0;obtain⟨u,_,q⟩:=near v hv h0;omega
 . subst e;have:=hD 0 hv;have e0:=hF.from_;omega
 . have hvn:=(J91 h1).rng u v hun huv;have hvu:=(J91 h1).sym u v hun hvn huv;obtain⟨l,hl,e⟩:=J2M.1 hvu;have:=(hF.on v (by omega) (h2 v (by omega)) l hl).2;rw[e] at this;have e1:=hD v hvn;have e2:=hD u hun;omega
 . have:=hF.lt hu (v:=v) (by omega);have e1:=hD v hv;omega
theorem Q7v:∀(l:List Int) (m:Int),Q1Y l m<=m/\∀a∈l,Q1Y l m<=a
 | [],m=>⟨Int.le_refl _,by simp⟩
 | a::r,m=>by
   have q1:(if a<m then a else m)<=m:=by split<;>omega
   have q2:(if a<m then a else m)<=a:=by split<;>omega
   obtain⟨h1,h2⟩:=Q7v r (if a<m then a else m);rw[Q1Y];refine⟨Int.le_trans h1 q1,fun b hb=>?_⟩;rcases List.mem_cons.1 hb with e|hb
   . rw[e];exact Int.le_trans h1 q2
   . exact h2 b hb
theorem J9t:∀(l:List Int) (m k:Int),k<=m->(∀a∈l,k<=a)->k<=Q1Y l m
 | [],m,k,h,_=>h
 | a::r,m,k,h,ha=>by
   rw[Q1Y];exact J9t r _ k (by have:=ha a (by simp);split<;>omega) (fun b hb=>ha b (by simp[hb]))
def mnD (g:G) (d:Nat->Int) (v:Nat):Int:=Q1Y ((gR g.ports v).map fun l=>d l.1.toNat) 1073741824
def tgB (g:G) (d:Nat->Int) (v:Nat):Int×Int :=
 if v=0 then (0,-1) else (if mnD g d v<g.ids.length then mnD g d v+1 else g.ids.length,fpI (fun l=>decide (d l.1.toNat=mnD g d v)) 0 (gR g.ports v))
theorem Q8t {p q:Int×Int->Bool}:∀{r:Q5W} {k:Nat},(∀l∈r,p l=q l)->fpI p k r=fpI q k r
 | [],_,_=>rfl
 | l::r,k,h=>by rw[fpI,fpI,h l (by simp),Q8t (fun x hx=>h x (by simp[hx]))]
theorem Q6I {g:G} (h:g.conn=true):Go.Plain.Tree.Rule g.ids.length (adN g) (Dg g) (upI g) (tgB g):=by
 obtain⟨h1,h2⟩:=J0o h;obtain⟨f1,f2,f3,f4,f5,f6,f7⟩:=J0f h1;have hN:=Q7q h;have hu:=J6G h1;refine⟨fun d=>if_pos rfl,fun d v hv h0 hr1 hr2=>?_,fun d v k hv h0 hk hd=>?_,J87 h⟩
 . have hmem:∀l∈gR g.ports v,adN g v l.1.toNat=true:=fun l hl=>J2M.2 ⟨l,hl,rfl⟩;have h4:=hN.top v hv;have hm:mnD g d v=((Dg g v:Nat):Int)-1:=by
    obtain⟨u,hu1,hu2⟩:=hN.near v hv h0;obtain⟨l,hl,e⟩:=J2M.1 hu1;have a1:=(Q7v ((gR g.ports v).map fun l=>d l.1.toNat) 1073741824).2 (d u) (List.mem_map.2 ⟨l,hl,by rw[e]⟩);rw[hr1 u hu1 hu2] at a1;have a2:((Dg g v:Nat):Int)-1<=Q1Y ((gR g.ports v).map fun l=>d l.1.toNat) 1073741824:=by
     refine J9t _ _ _ (by omega) fun b hb=>?_;obtain⟨l',hl',rfl⟩:=List.mem_map.1 hb;have hal:=hmem l' hl';by_cases q:Dg g v<=Dg g l'.1.toNat
     . have:=hr2 _ hal q;omega
     . have hs:=hN.step v l'.1.toNat hv hal;rw[hr1 _ hal (by omega)];omega
    rw[mnD];omega
   have hv1:1<=Dg g v:=by
    have:=(hN.root v hv);omega
   rw[tgB,if_neg h0,hm,if_pos (by omega)];refine Prod.ext (by simp only;omega) ?_;show fpI _ 0 _=fpI (J9s g v) 0 _;refine Q8t fun l hl=>?_;have hal:=hmem l hl;have hln:=hN.rng v l.1.toNat hv hal;have e1:=J7A h hv;have e2:=J7A h hln;have hs:=hN.step v l.1.toNat hv hal;rw[J9s,decide_eq_decide,<- e1,<- e2];by_cases q:Dg g v<=Dg g l.1.toNat
   . have:=hr2 _ hal q;omega
   . rw[hr1 _ hal (by omega)]
 . have hm:(k:Int)<=mnD g d v:=by
    refine J9t _ _ _ (by omega) fun b hb=>?_;obtain⟨l,hl,rfl⟩:=List.mem_map.1 hb;exact hd _ (J2M.2 ⟨l,hl,rfl⟩)
   rw[tgB,if_neg h0];simp only;split<;>omega
def mnT:Tm:=.agg 24 (.leaf 12 0)
def dTm:Tm:=.ite (.bin 37 mnT (.leaf 6 0)) (.bin 33 mnT (.leaf 1 1)) (.leaf 6 0)
def pTm:Tm:=.agg 23 (.bin 35 (.leaf 12 0) mnT)
def X8Z:Tm:=.bin 41 (.leaf 10 0) (.bin 42 (.bin 36 (.leaf 5 0) (.leaf 1 0)) (.bin 36 (.leaf 5 1) (.leaf 4 0)))
def Y0V:Tm:=.bin 41 (.un 19 (.leaf 10 0)) (.bin 42 (.bin 36 (.leaf 5 0) dTm) (.bin 36 (.leaf 5 1) pTm))
abbrev dC (c:Cf) (v:Nat):Int:=gI (gC c v) 0
abbrev pC (c:Cf) (v:Nat):Int:=gI (gC c v) 1
theorem Q0O (r:Q5W) (f:Int×Int->Int):((List.range r.length).map fun i=>f (gF r i))=r.map f:=by
 refine List.ext_getElem (by simp) fun i h1 h2=>?_;simp at h1;simp[gF,List.getD,h1]
theorem X2P (g:G) (c:Cf) (v:Nat) (port:Int):mnT.sem g c v port=mnD g (dC c) v:=by
 show Q1Y ((List.range (gR g.ports v).length).map fun(i:Nat)=>gI (gC c (nbV g v i)) 0) 1073741824=_;rw[mnD,<- Q0O (gR g.ports v) (fun l=>dC c l.1.toNat)];simp only[nbV,Int.toNat_natCast]
theorem X65 {g:G} {c:Cf} (hd:∀v,v<g.ids.length->0<=dC c v) (hg:g.valid=true) {v:Nat} (hv:v<g.ids.length):0<=mnD g (dC c) v:=by
 obtain⟨f1,f2,f3,f4,f5,f6,f7⟩:=J0f hg;have hok:=(J1s.1 (f6 v (by omega))).1;refine J9t _ _ _ (by omega) fun b hb=>?_;obtain⟨l,hl,rfl⟩:=List.mem_map.1 hb;have:=hok l hl;exact hd _ (by omega)
theorem X7M {g:G} (hg:g.valid=true) {c:Cf} (hd:∀v,v<g.ids.length->0<=dC c v) {v:Nat} (hv:v<g.ids.length) (h0:v≠0) (port:Int):dTm.sem g c v port=(tgB g (dC c) v).1:=by
 obtain⟨f1,f2,f3,f4,f5,f6,f7⟩:=J0f hg;have hm:=X65 hd hg hv;show(if J1f (decide (mnT.sem g c v port<(g.ids.length:Int)))≠0 then sat (mnT.sem g c v port+1) else (g.ids.length:Int))=_;rw[X2P,tgB,if_neg h0];simp only;by_cases q:mnD g (dC c) v<g.ids.length
 . rw[decide_eq_true q,if_pos (by decide),if_pos q,X6w (by unfold inR;omega)]
 . rw[decide_eq_false q,if_neg (by decide),if_neg q]
theorem Q78 {f:Int×Int->Int} {p:Int×Int->Bool}:∀{r:Q5W} {k:Nat},(∀l∈r,f l≠0↔p l=true)->Q1e k (r.map f)=fpI p k r
 | [],_,_=>rfl
 | l::r,k,h=>by
   have h1:=h l (by simp);rw[List.map_cons,Q1e,fpI,Q78 (fun x hx=>h x (by simp[hx]))];by_cases e:p l=true
   . rw[if_pos (h1.2 e),if_pos e]
   . rw[if_neg (fun q=>e (h1.1 q)),if_neg e]
theorem X6G (g:G) (c:Cf) (v:Nat) (h0:v≠0) (port:Int):pTm.sem g c v port=(tgB g (dC c) v).2:=by
 show Q1e 0 ((List.range (gR g.ports v).length).map fun(i:Nat)=>J1f (decide (gI (gC c (nbV g v i)) 0=mnT.sem g c v i)))=_;rw[tgB,if_neg h0];simp only;have e:((List.range (gR g.ports v).length).map fun(i:Nat)=>J1f (decide (gI (gC c (nbV g v i)) 0=mnT.sem g c v i)))=(gR g.ports v).map fun l=>J1f (decide (dC c l.1.toNat=mnD g (dC c) v)):=by
  rw[<- Q0O (gR g.ports v) (fun l=>J1f (decide (dC c l.1.toNat=mnD g (dC c) v)))];simp only[nbV,Int.toNat_natCast,X2P]
 rw[e];exact Q78 fun l _=>by rw[J1C]
def Q3P (g:G) (c:Cf) (v:Nat):Bool:=decide ((dC c v,pC c v)≠tgB g (dC c) v)
theorem Q6q (g:G) (c:Cf) (v:Nat):X8Z.sem g c v (-1)=J1f (decide (v=0)&&Q3P g c v):=by
 show J1f (decide (J1f (decide (v=0))≠0/\J1f (decide (J1f (decide (dC c v≠0))≠0\/J1f (decide (pC c v≠-1))≠0))≠0))=_;congr 1;simp only[J1C,decide_eq_true_eq];by_cases h0:v=0
 . rw[Q3P,tgB,if_pos h0];simp only[h0,true_and,decide_true,Bool.true_and];rw[decide_eq_decide];simp only[ne_eq,Prod.mk.injEq];exact(Classical.not_and_iff_not_or_not).symm
 . simp[h0]
theorem Q7I {g:G} (hg:g.valid=true) {c:Cf} (hd:∀v,v<g.ids.length->0<=dC c v) {v:Nat} (hv:v<g.ids.length):Y0V.sem g c v (-1)=J1f (!decide (v=0)&&Q3P g c v):=by
 show J1f (decide (J1f (decide (J1f (decide (v=0))=0))≠0/\J1f (decide (J1f (decide (dC c v≠dTm.sem g c v (-1)))≠0\/J1f (decide (pC c v≠pTm.sem g c v (-1)))≠0))≠0))=_;congr 1;simp only[J1C,J46,decide_eq_true_eq,decide_eq_false_iff_not];by_cases h0:v=0
 . simp[h0]
 . rw[X7M hg hd hv h0,X6G g c v h0,Q3P];simp only[h0,not_false_eq_true,true_and,decide_false,Bool.not_false,Bool.true_and];rw[decide_eq_decide];generalize tgB g (dC c) v=t;obtain⟨t1,t2⟩:=t;simp only[ne_eq,Prod.mk.injEq];exact(Classical.not_and_iff_not_or_not).symm
end Go.Proofs.YtlpfphlbghdokaaGreatDoor
namespace Go.Plain.Clock
structure Tree (n:Nat) (par:Nat->Nat) (D:Nat->Nat) (E:Nat):Prop where
 pos:0<n
 lt:∀v,v<n->v≠0->par v<n
 dep:∀v,v<n->v≠0->D v=D (par v)+1
 root:D 0=0
 top:∀v,v<n->D v<=E
variable {n:Nat} {par:Nat->Nat} {D:Nat->Nat} {E:Nat} {x:Nat->Int} {s p:Nat->Bool}
def J9U (n:Nat) (par:Nat->Nat) (v c:Nat):Prop:=c<n/\c≠0/\par c=v
def dif (par:Nat->Nat) (x:Nat->Int) (v:Nat):Prop:=x v≠x (par v)
def en (n:Nat) (par:Nat->Nat) (x:Nat->Int) (v:Nat):Prop:=(∀c,J9U n par v c->¬ dif par x c)/\(v≠0->dif par x v)
def st (par:Nat->Nat) (s:Nat->Bool) (x:Nat->Int):Nat->Int:=fun v=>if s v=true then (if v=0 then (x 0+1) % 4 else x (par v)) else x v
def df (par:Nat->Nat) (x:Nat->Int) (v:Nat):Int:=(x (par v)-x v) % 4
def bad (par:Nat->Nat) (x:Nat->Int) (v:Nat):Prop:=1<df par x v
structure Ch (n:Nat) (par:Nat->Nat) (x:Nat->Int) (s:Nat->Bool):Prop where
 en:∀v,s v=true->v<n/\en n par x v
theorem J7O {v:Nat} (h:bad par x v):dif par x v:=fun e=>by
 rw[bad,df,e,Int.sub_self,Int.zero_emod] at h;omega
theorem Q0S (hc:Ch n par x s) {v:Nat} (hv:v<n) (h0:v≠0) (hd:dif par x v):s (par v)=false:=by
 cases e:s (par v) with
 | false=>rfl
 | true=>exact((hc.en _ e).2.1 v ⟨hv,h0,rfl⟩ hd).elim
theorem keep (hc:Ch n par x s) {v:Nat} (hv:v<n) (h0:v≠0) (hd:dif par x v) (hs:s v=false):dif par (st par s x) v:=by
 rw[dif,st,st,Q0S hc hv h0 hd,hs];exact hd
theorem fall (hc:Ch n par x s) {v:Nat} (h0:v≠0) (hd:¬ dif par x v) (hp:s (par v)=false):¬ dif par (st par s x) v:=by
 have hs:s v=false:=by
  cases e:s v with
  | false=>rfl
  | true=>exact(hd ((hc.en v e).2.2 h0)).elim
 rw[dif,st,st,hp,hs];exact hd
theorem X64 (hc:Ch n par x s) {v:Nat} (hv:v<n) (h0:v≠0) (hs:s v=true):¬ dif par (st par s x) v:=by
 have hd:=(hc.en v hs).2.2 h0;rw[dif,st,st,Q0S hc hv h0 hd,if_pos hs,if_neg h0];simp
def Q1U (n:Nat) (par:Nat->Nat) (x:Nat->Int) (p:Nat->Bool):Nat->Nat->Prop
 | 0,_=>False
 | 1,v=>p v=true/\∀c,J9U n par v c->¬ dif par x c
 | j+2,v=>∀c,J9U n par v c->dif par x c->Q1U n par x p (j+1) c
theorem Q1U.step (hT:Tree n par D E) (hc:Ch n par x s) {p':Nat->Bool} (hp:∀v,v<n->p v=true->s v=false->en n par (st par s x) v->p' v=true) :
 ∀(j v:Nat),v<n->v≠0->dif par x v->s v=false->Q1U n par x p j v->Q1U n par (st par s x) p' j v
 | 0,_,_,_,_,_,h=>h
 | 1,v,hv,h0,hd,hs,h=>by
   have hch:∀c,J9U n par v c->¬ dif par (st par s x) c:=fun c hcc=>fall hc hcc.2.1 (h.2 c hcc) (by rw[hcc.2.2];exact hs);exact⟨hp v hv h.1 hs ⟨hch,fun _=>keep hc hv h0 hd hs⟩,hch⟩
 | j+2,v,hv,h0,hd,hs,h=>by
   intro c hcc hdc;have hd0:dif par x c:=Classical.byContradiction fun q=>fall hc hcc.2.1 q (by rw[hcc.2.2];exact hs) hdc;have hsc:s c=false:=by
    cases e:s c with
    | false=>rfl
    | true=>exact(X64 hc hcc.1 hcc.2.1 e hdc).elim
   exact Q1U.step hT hc hp (j+1) c hcc.1 hcc.2.1 hd0 hsc (h c hcc hd0)
theorem Q1U.round {q:Nat->Bool} (hz:∀v,v<n->p v=false) (hq:∀v,v<n->en n par x v->q v=true):∀(j v:Nat),v<n->v≠0->dif par x v->Q1U n par x p (j+1) v->Q1U n par x q j v
 | 0,v,hv,_,_,h=>by have:=h.1;rw[hz v hv] at this;cases this
 | 1,v,hv,h0,hd,h=>by
   have hch:∀c,J9U n par v c->¬ dif par x c:=fun c hcc hdc=>by
    have:=(h c hcc hdc).1;rw[hz c hcc.1] at this;cases this
   exact⟨hq v hv ⟨hch,fun _=>hd⟩,hch⟩
 | j+2,v,hv,h0,hd,h=>fun c hcc hdc=>Q1U.round hz hq (j+1) c hcc.1 hcc.2.1 hdc (h c hcc hdc)
theorem Q1U.start (hT:Tree n par D E) (hq:∀v,v<n->en n par x v->p v=true):∀(j v:Nat),v<n->v≠0->dif par x v->D v+j=E+1->Q1U n par x p j v
 | 0,v,hv,_,_,h=>by have:=hT.top v hv;omega
 | 1,v,hv,h0,hd,h=>by
   have hch:∀c,J9U n par v c->¬ dif par x c:=fun c hcc _=>by
    have h1:=hT.dep c hcc.1 hcc.2.1;have h2:=hT.top c hcc.1;rw[hcc.2.2] at h1;omega
   exact⟨hq v hv ⟨hch,fun _=>hd⟩,hch⟩
 | j+2,v,hv,h0,hd,h=>fun c hcc hdc=>Q1U.start hT hq (j+1) c hcc.1 hcc.2.1 hdc (by
   have h1:=hT.dep c hcc.1 hcc.2.1;rw[hcc.2.2] at h1;omega)
theorem Q4N (hT:Tree n par D E) (hc:Ch n par x s) (hx:∀v,v<n->0<=x v/\x v<=3) {v:Nat} (hv:v<n) (h0:v≠0) (hb:bad par (st par s x) v):(bad par x v/\s v=false)\/(par v≠0/\bad par x (par v)):=by
 have hd:=J7O hb;have hs:s v=false:=by
  cases e:s v with
  | false=>rfl
  | true=>exact(X64 hc hv h0 e hd).elim
 cases e:s (par v) with
 | false =>
   left;rw[bad,df,st,st,e,hs] at hb;exact⟨hb,hs⟩
 | true =>
   have hpn:=hT.lt v hv h0;have hxe:x v=x (par v):=Classical.byContradiction fun q=>(hc.en _ e).2.1 v ⟨hv,h0,rfl⟩ q;simp only[bad,df,st,e,hs,if_true,Bool.false_eq_true,if_false] at hb;by_cases q:par v=0
   . exfalso;rw[if_pos q,hxe,q] at hb;have:=hx 0 hT.pos;omega
   . right;rw[if_neg q,hxe] at hb;exact⟨q,hb⟩
def tri:Nat->Nat
 | 0=>0
 | k+1=>tri k+k
structure Lev (n:Nat) (par:Nat->Nat) (D:Nat->Nat) (E:Nat) (x:Nat->Int) (p:Nat->Bool) (R r:Nat) (i j:Nat):Prop where
 i1:1<=i
 j1:1<=j
 up:∀v,v<n->v≠0->D v<i->¬ bad par x v
 at_:∀v,v<n->v≠0->D v=i->bad par x v->Q1U n par x p j v
 ij:i+j<=E+1
 bud:r+tri (E+1-i)+j<=R+tri (E+1)
theorem X47 (hT:Tree n par D E) {v:Nat} (hv:v<n) (h0:v≠0):1<=D v:=by have:=hT.dep v hv h0;omega
theorem Lev.start (hT:Tree n par D E) (hE:1<=E) (hq:∀v,v<n->en n par x v->p v=true) {R r:Nat} (hr:r<=R):Lev n par D E x p R r 1 E :=
 ⟨Nat.le_refl _,hE,fun v hv h0 h=>by have:=X47 hT hv h0;omega,fun v hv h0 h hb=>Q1U.start hT hq E v hv h0 (J7O hb) (by omega),by omega,by
   rw[show E+1-1=E by omega,tri];omega⟩
theorem Lev.step (hT:Tree n par D E) (hc:Ch n par x s) (hx:∀v,v<n->0<=x v/\x v<=3) {p':Nat->Bool} {R r i j:Nat} (h:Lev n par D E x p R r i j)
 (hp:∀v,v<n->p v=true->s v=false->en n par (st par s x) v->p' v=true):Lev n par D E (st par s x) p' R r i j:=by
 refine⟨h.i1,h.j1,fun v hv h0 hi hb=>?_,fun v hv h0 hi hb=>?_,h.ij,h.bud⟩
 . rcases Q4N hT hc hx hv h0 hb with ⟨q,_⟩ | ⟨q1,q2⟩
   . exact h.up v hv h0 hi q
   . exact h.up (par v) (hT.lt v hv h0) q1 (by have:=hT.dep v hv h0;omega) q2
 . rcases Q4N hT hc hx hv h0 hb with ⟨q,q2⟩ | ⟨q1,q2⟩
   . exact Q1U.step hT hc hp j v hv h0 (J7O q) q2 (h.at_ v hv h0 hi q)
   . exact(h.up (par v) (hT.lt v hv h0) q1 (by have:=hT.dep v hv h0;omega) q2).elim
theorem Lev.round (hT:Tree n par D E) {q:Nat->Bool} {R r i j:Nat} (h:Lev n par D E x p R r i j) (hz:∀v,v<n->p v=false) (hq:∀v,v<n->en n par x v->q v=true) (hb:∃v,v<n/\v≠0/\bad par x v) :
 ∃i' j',Lev n par D E x q R (r+1) i' j':=by
 by_cases h1:j=1
 . subst h1;have no:∀v,v<n->v≠0->D v<i+1->¬ bad par x v:=fun v hv h0 hi hbv=>by
    by_cases e:D v=i
    . have:=(h.at_ v hv h0 e hbv).1;rw[hz v hv] at this;cases this
    . exact h.up v hv h0 (by omega) hbv
   obtain⟨v,hv,h0,hbv⟩:=hb;have hiE:i+1<=E:=by
    have:=hT.top v hv;apply Classical.byContradiction;intro hne;exact no v hv h0 (by omega) hbv
   have hbud:=h.bud;refine⟨i+1,E-i,by omega,by omega,no,fun v hv h0 hi hbv=>Q1U.start hT hq (E-i) v hv h0 (J7O hbv) (by omega),by omega,?_⟩;have e:E+1-i=(E+1-(i+1))+1:=by omega
   rw[e,tri] at hbud;omega
 . have hj:=h.j1;obtain⟨k,rfl⟩:∃k,j=k+1:=⟨j-1,by omega⟩;have hbud:=h.bud;have hij:=h.ij;exact⟨i,k,h.i1,by omega,h.up,fun v hv h0 hi hbv=>Q1U.round hz hq k v hv h0 (J7O hbv) (h.at_ v hv h0 hi hbv),by omega,by omega⟩
end Go.Plain.Clock
namespace Go.Proofs.YtlpfphlbghdokaaGreatDoor
open Go.Eng
set_option maxRecDepth 100000
set_option linter.unusedVariables false
theorem X0h (g:G) (c:Cf):J89 g (tkC c)=J89 g c:=by
 rw[Bool.eq_iff_iff,J29,J29,J9a];refine⟨fun h v hv=>?_,fun h v hv=>?_⟩
 . have:=h v hv
   rwa[J5m,J4b _ 0 (by omega),J4b _ 1 (by omega)] at this
 . rw[J5m,J4b _ 0 (by omega),J4b _ 1 (by omega)];exact h v hv
theorem Q8Q {c:Cf} (h:J4p c):J4p (tkC c):=by
 refine⟨by rw[J9a];exact h.len,fun r hr=>?_⟩;obtain⟨a,ha,rfl⟩:=List.mem_map.1 hr;have:=h.rows a ha;rw[List.length_take];omega
end Go.Proofs.YtlpfphlbghdokaaGreatDoor
