import Derived.Test.YtcbnimaicgegfaaGreatDoorTP16
set_option linter.all false
namespace Go.Proofs.YtcbnimaicgegfaaGreatDoor
open Go.Eng Go.Plain
set_option maxRecDepth 100000
set_option maxHeartbeats 16000000
theorem J7V (a:Int) (h:inR a):Ret Tryz.prog 208 [.int .i64 a] (.bool true):=by
 unfold inR at h;refine rf Y46 ?_;refine Vq ?_
 all_goals first|exact vR_|exact VLe.bool (by symm;rw[Qa];omega)
theorem Q74 (a:Int):Ret Tryz.prog 206 [.int .i64 a] (.int .i64 (sat a)):=by
 have e:sat a=if (1073741824:Int)<(if (-1073741824:Int) > a then (-1073741824:Int) else a) then 1073741824 else (if (-1073741824:Int) > a then (-1073741824:Int) else a):=by
  unfold sat
  repeat' split
  all_goals omega
 refine rf Y48 ?_;refine Vq ?_;exact VLe.int e.symm
theorem J4s (b:Bool):Ret Tryz.prog 205 [.bool b] (.int .i64 (J6I b)):=by
 refine rf Y49 ?_;cases b
 all_goals
  all_goals conv=>whnf
  exact vR_
theorem Q70 (op a:Int) (h:inR a) (b:op=18\/op=19):Ret Tryz.prog 169 [.int .i64 op,.int .i64 a] (.tup [.int .i64 (unI op a),.int .i64 0]):=by
 have d:=J4s true;have e:=J4s false;have f:=J7V a h;unfold inR at h;refine rf Y5A ?_;rw[unI];by_cases c:a=0
 . rw[Qn c];rcases b with rfl|rfl
   all_goals
    refine Vq ?_
    all_goals exact VLe.tup ⟨VLe.int (by simp[J6I]),vR_,tI⟩
 . rw[Qm c];rcases b with rfl|rfl
   all_goals
    refine Vq ?_
    all_goals exact VLe.tup ⟨VLe.int (by simp[J6I]),vR_,tI⟩
theorem X6A (a b:Int) (c:inR a):Ret Tryz.prog 234 [.int .i64 a,.int .i64 b] (.int .i64 (Q2U a b)):=by
 have j:=J6a b c;unfold inR at c;refine rf Y4P ?_;rw[Q2U];by_cases d:b=0
 . rw[Qe d];exact Wq
 . rw[Qb d];generalize i:a.tdiv b=q at *;generalize h:a.tmod b=r at *;by_cases g:a<0
   all_goals by_cases f:b<0
   all_goals by_cases e:r=0
   all_goals
    repeat' ((conv=>whnf);first|(refine Ar.mk q (by rw[i];exact(J0Y (by omega) (by omega)).symm) ?_)|(refine Sv.mk r (by rw[h]) ?_)|(refine Br.tt ?_)|(refine Br.ff ?_)|(refine Br.dec ?_ ?_<;>intro _<;>try omega)|(refine Br.bne ?_ ?_<;>intro _<;>try omega)|(refine Ar.q ?_)|(refine Nz.mk (by omega) ?_))
    all_goals conv=>whnf
    all_goals exact VLe.int (by simp[g,f,e])
def X48 (op a b:Int):Int :=
 if op=30 then a*b else if op=31 then Q2U a b else if op=32 then (if b=0 then 0 else a-b*Q2U a b) else if op=33 then a+b else if op=34 then a-b
 else if op=41 then J6I (decide (a≠0/\b≠0)) else if op=42 then J6I (decide (a≠0\/b≠0)) else J6I (X7N op a b)
theorem X8e (op a b:Int):Q2Z op a b=sat (X48 op a b):=by
 unfold Q2Z X48
 repeat' split
 all_goals first|rfl|exact(X9j (J9g _)).symm|decide
theorem Q8s (op a b:Int) (c:inR a) (g:inR b) (h:30<=op/\op<=42):Ret Tryz.prog 209 [.int .i64 op,.int .i64 a,.int .i64 b] (.int .i64 (X48 op a b)):=by
 have d:=J4s true;have e:=J4s false;have j:=X6A a b c;have f:=J9q b c;have l:=Q4Q c g (by omega) (by omega);have k:=Q4Q g f (by omega) (by omega);unfold inR at c g;refine rf Y45 ?_;rcases (show op=30\/op=31\/op=32\/op=33\/op=34\/op=35\/op=36\/op=37\/op=38\/op=39\/op=40\/op=41\/op=42 by omega) with rfl|rfl|rfl|rfl|rfl|rfl|rfl|rfl|rfl|rfl|rfl|rfl|rfl
 . rw[show X48 30 a b=a*b from rfl];generalize hp:a*b=P at *
   repeat' ((conv=>whnf);first|(refine Ar.mk P (by rw[hp];exact(J0Y (by omega) (by omega)).symm) ?_)|(refine Br.tt ?_))
   all_goals conv=>whnf
   exact vR_
 . exact Wq
 . rw[show X48 32 a b=if b=0 then 0 else a-b*Q2U a b from rfl];generalize Q2U a b=Q at *;generalize hp:b*Q=P at *;by_cases i:b=0
   . rw[Qe i];exact Wq
   . rw[Qb i]
     repeat' ((conv=>whnf);first|(refine Ar.mk P (by rw[hp];exact(J0Y (by omega) (by omega)).symm) ?_)|(refine Br.tt ?_)|(refine Br.ff ?_)|(refine Br.dec ?_ ?_<;>intro _<;>try omega)|(refine Ar.q ?_)|(refine j.go ?_))
     all_goals conv=>whnf
     exact vR_
 all_goals
  repeat' ((conv=>whnf);first|(refine Br.tt ?_)|(refine Br.ff ?_)|(refine Br.dec ?_ ?_<;>intro _<;>try omega)|(refine Br.bne ?_ ?_<;>intro _<;>try omega)|(refine Ar.q ?_)|(refine d.go ?_)|(refine e.go ?_))
  all_goals conv=>whnf
  all_goals first
   | exact vR_
   | exact VLe.int (by simp[X48,X7N,J6I];omega)
   | exact VLe.int (by simp[X48,X7N,J6I, *])
theorem Q6s (op a b:Int) (d:inR a) (c:inR b) (h:30<=op/\op<=42):Ret Tryz.prog 170 [.int .i64 op,.int .i64 a,.int .i64 b] (.tup [.int .i64 (Q2Z op a b),.int .i64 0]):=by
 have i:=J7V a d;have g:=J7V b c;have f:=Q8s op a b d c h;have e:=Q74 (X48 op a b);rw[X8e];refine rf Y5z ?_;refine Vq ?_;exact VLe.tup ⟨vR_,vR_,tI⟩
theorem Q8T (l:List Int) (f:l.length<=1000) (a:Int):Ret Tryz.prog 207 [.fz l.length 1 false (vI l),.int .i64 a] (.bool (decide (a∈l))):=by
 refine rf Y47 ?_
 all_goals conv=>whnf
 refine J0h J0c [0,1] (fun i:Nat=>[(5,.int .i64 ((i:Nat):Int))]) (fun m i=>m=l.length-i/\i<=l.length/\∀k,k<i->gI l k≠a) l.length 0 ⟨rfl,Qh _,fun k h=>by omega⟩ ?_ ?_
 . exact J0a J1A
 rintro m i ⟨d,g,b⟩;by_cases c:i<l.length
 . by_cases he:gI l i=a
   . rw[Qn (by rw[<- he];exact J5T c)];exact Wq
   . refine Vq ?_;refine⟨l.length-(i+1),i+1,by omega,⟨rfl,by omega,fun k hk=>?_⟩,?_⟩
     . by_cases e:k=i
       . subst e;exact he
       . exact b k (by omega)
     exact J0a J1A
 . obtain rfl:i=l.length:=by omega
   have:a∉l:=fun h=>by
    obtain⟨k,hk,e⟩:=Xi.1 h;refine b k hk ?_;simp[gI,List.getD,hk,e]
   rw[Qm this];exact Wq
theorem J8m:∀(l:List Int) (a:Int) (k:Nat),a=0\/0<=J6s k l->J6s k (l++[a])=J6s k l
 | [],a,k,h=>by
   have h:a=0:=h.resolve_right (show ¬ (0:Int)<=-1 by omega);show(if a≠0 then (k:Int) else -1)=-1;rw[Qb (fun q=>q h)]
 | b::r,a,k,h=>by
   have h:a=0\/0<=(if b≠0 then (k:Int) else J6s (k+1) r):=h;show(if b≠0 then (k:Int) else J6s (k+1) (r++[a]))=if b≠0 then (k:Int) else J6s (k+1) r
   by_cases c:b≠0
   . rw[Qe c,Qe c]
   . rw[Qb c] at h ⊢;rw[Qb c];exact J8m r a (k+1) h
theorem J9G:∀(l:List Int) (a:Int) (k:Nat),a≠0->J6s k l<0->J6s k (l++[a])=((k+l.length:Nat):Int)
 | [],a,k,h,_=>by
   show(if a≠0 then (k:Int) else -1)=k;rw[Qe h]
 | b::r,a,k,h,c=>by
   have c:(if b≠0 then (k:Int) else J6s (k+1) r)<0:=c;show(if b≠0 then (k:Int) else J6s (k+1) (r++[a]))=((k+(r.length+1):Nat):Int);by_cases d:b≠0
   . rw[Qe d] at c;omega
   . rw[Qb d] at c ⊢;rw[J9G r a (k+1) h c];omega
theorem Q4p:∀(l:List Int) (p:Int×Int),p.2<=p.1->(X1i l p).2<=(X1i l p).1
 | [],p,h=>h
 | a::r,p,h=>by
   rw[X1i];refine Q4p r _ ?_;rw[two];split
   . simp only;omega
   . simp only;split<;>omega
theorem X84 {g s a:Int} (h:s<=g):two g s a=(if a > g then a else g,if (if a<g then a else g) > s then (if a<g then a else g) else s):=by
 rw[two];by_cases q:a > g
 . rw[Qe q,Qe q,Qb (show ¬ a<g by omega)];congr 1;split<;>omega
 . rw[Qb q,Qb q];congr 1
   repeat' split
   all_goals omega
theorem Q7E (l:List Int) (a:Int):J7a (l++[a])=(if a > (J7a l).1 then a else (J7a l).1,if (if a<(J7a l).1 then a else (J7a l).1) > (J7a l).2 then (if a<(J7a l).1 then a else (J7a l).1) else (J7a l).2):=by
 rw[J7a,J7H];exact X84 (Q4p l _ (Y1 _))
theorem X15 (op:Int) (l:List Int) (w:l.length<=1000) (p:∀a∈l,inR a) (h:20<=op/\op<=29):Ret Tryz.prog 168 [.int .i64 op,.fz l.length 1 false (vI l)] (.int .i64 (J88 op l)):=by
 have c:=J4s true;have d:=J4s false;have G:=Q74 (Q51 l 0);obtain⟨F,E,t,s⟩:=J5H l;have hk:=Q4U l;refine rf Y5B ?_
 all_goals conv=>whnf
 refine J0h J0c [0,1] (fun i:Nat=>[(11,.int .i64 ((i:Nat):Int)),(5,.int .i64 (Q1a (l.take i))),(6,.int .i64 (J6s 0 (l.take i))),(7,.int .i64 (X2y (l.take i) 1073741824)),(8,.int .i64 (J7a (l.take i)).1),(9,.int .i64 (J7a (l.take i)).2),(10,.int .i64 (Q51 (l.take i) 0))]) (fun m i=>m=l.length-i/\i<=l.length) l.length 0 ⟨rfl,Qh _⟩ ?_ ?_
 . exact J0a J1A
 rintro m i ⟨v,x⟩;by_cases b:i<l.length
 . have j:(l.take i).length=i:=by rw[Zt];omega
   have n:=J8G (l.take i);have u:=J6b (l.take i) 0 0 (fun a y=>p a (Ys y)) (by omega);have o:=J8F (l.take i) (gI l i);have D:=J79 (l.take i) (gI l i) 1073741824;have g:=Q7E (l.take i) (gI l i);have C:=J7K (l.take i) (gI l i) 0;have k:=p _ (J5T b);unfold inR at k;rw[<- J0M l i b] at o D g C;have B:=X6 Prod.fst g;have A:=X6 Prod.snd g;simp only at B A;clear g;by_cases hz:gI l i=0
   . rw[Qb (fun q=>q hz)] at o;have e2:=J8m (l.take i) (gI l i) 0 (.inl hz);rw[<- J0M l i b] at e2;refine Vq ?_;refine⟨l.length-(i+1),i+1,by omega,⟨rfl,by omega⟩,?_⟩;exact J0a J1A
   . rw[Qe hz] at o;by_cases e:J6s 0 (l.take i)<0
     . have e2:=J9G (l.take i) (gI l i) 0 hz e;rw[<- J0M l i b,j,Qk] at e2;refine Vq ?_;refine⟨l.length-(i+1),i+1,by omega,⟨rfl,by omega⟩,?_⟩;exact J0a J1A
     . have e2:=J8m (l.take i) (gI l i) 0 (.inr (by omega));rw[<- J0M l i b] at e2;refine Vq ?_;refine⟨l.length-(i+1),i+1,by omega,⟨rfl,by omega⟩,?_⟩;exact J0a J1A
 . obtain rfl:i=l.length:=by omega
   rw[Qz (Qd _)];have n:=J8G l;rcases (show op=20\/op=21\/op=22\/op=23\/op=24\/op=25\/op=26\/op=27\/op=28\/op=29 by omega) with rfl|rfl|rfl|rfl|rfl|rfl|rfl|rfl|rfl|rfl
   . repeat' ((conv=>whnf);first|(refine Br.tt ?_)|(refine Br.dec ?_ ?_<;>intro _<;>try omega)|(refine c.go ?_)|(refine d.go ?_))
     all_goals conv=>whnf
     . exact VLe.int (by rw[J88,Qe rfl,Qn (by omega)])
     . exact VLe.int (by rw[J88,Qe rfl,Qm (by omega)])
   . repeat' ((conv=>whnf);first|(refine Br.tt ?_)|(refine Br.ff ?_)|(refine Br.dec ?_ ?_<;>intro _<;>try omega)|(refine c.go ?_)|(refine d.go ?_))
     all_goals conv=>whnf
     . exact VLe.int (by rw[J88,Qb (by decide),Qe rfl,Qn (by omega)])
     . exact VLe.int (by rw[J88,Qb (by decide),Qe rfl,Qm (by omega)])
   . exact Wq
   . exact Wq
   . exact Wq
   . exact Wq
   . exact Wq
   . refine Vq ?_;refine J0h J0c [1] (fun i:Nat=>[(12,.int .i64 ((i:Nat):Int))]) (fun m i=>m=Q66 l-i/\i<=Q66 l) (Q66 l) 0 ⟨rfl,Qh _⟩ ?_ ?_
     . exact J0a J1A
     rintro m i ⟨v,x⟩;have f:=Q8T l w i;by_cases b:i<Q66 l
     . rw[Qn (t i (by omega) (by omega))] at f;refine Vq ?_;refine⟨Q66 l-(i+1),i+1,by omega,⟨rfl,by omega⟩,?_⟩;exact J0a J1A
     . have r:(i:Int)=Q3A l:=by omega
       rw[r,Qm s] at f;simp only[r];exact Wq
   . exact Wq
   . by_cases z:l.length=0
     . obtain rfl:l=[]:=Xg z;exact Wq
     . exact Wq
theorem Q4B (u:Int):∀(r:Lt2) (k:Nat),Q3q k r u=match r.findIdx? (fun l=>decide (l.1=u)) with|some i=>((k+i:Nat):Int)|none=>-1
 | [],k=>rfl
 | l::r,k=>by
   rw[Q3q,List.findIdx?_cons];by_cases h:l.1=u
   . rw[Qe h,Qn h];rfl
   . rw[Qb h,Qm h,Q4B u r (k+1)];cases r.findIdx? (fun l=>decide (l.1=u)) with
     | none=>rfl
     | some i=>exact X6 (fun n:Nat=>(n:Int)) (show k+1+i=k+(i+1) by omega)
theorem Q8B (g:G) (v i:Nat):Q6T g v i=J6i (gR g.ports (gF (gR g.ports v) i).1.toNat) v:=by
 rw[Q6T,J6i,Q4B];cases (gR g.ports (gF (gR g.ports v) i).1.toNat).findIdx? (fun l=>decide (l.1=(v:Int))) with
 | none=>rfl
 | some i=>simp only[Qk]
theorem X16 (g:G) (f:g.Small) (hg:g.valid=true) (v:Nat) (h:v<g.ports.length) (a op:Int) (m:6<=op/\op<=17/\op≠12) (b:11<op->0<=a/\a<(gR g.ports v).length) :
 Ret Tryz.prog 204 [g.v,.int .i64 op,.int .i64 v,.int .i64 a] (.int .i64 (J5j g v a op)):=by
 obtain⟨f1,f2,f3,f4,f5,f6,f7⟩:=J0e hg;have c:=J4s true;have d:=J4s false;have n:=J6N g f;refine rf Y5a ?_;rcases (show op=6\/op=7\/op=8\/op=9\/op=10\/op=11\/13<=op by omega) with rfl|rfl|rfl|rfl|rfl|rfl|o
 . refine Vq ?_;exact VLe.int (by simp[J5j];omega)
 . exact Wq
 . exact Wq
 . exact Wq
 . repeat' ((conv=>whnf);first|(refine Br.tt ?_)|(refine Br.ff ?_)|(refine Br.dec ?_ ?_<;>intro _<;>try omega)|(refine c.go ?_)|(refine d.go ?_))
   all_goals conv=>whnf
   . exact VLe.int (by simp[J5j];rw[Qn (by omega)])
   . exact VLe.int (by simp[J5j];rw[Qm (by omega)])
 . exact Wq
 . obtain⟨l,j⟩:=b (by omega);obtain⟨k,rfl⟩:∃k:Nat,a=k:=⟨a.toNat,by omega⟩;have p:=J75 (f6 v h) (i:=k) (by omega);have e:=Q8A g f (gF (gR g.ports v) k).1.toNat v (by omega);rw[<- Q8B,show(((gF (gR g.ports v) k).1.toNat:Nat):Int)=(gF (gR g.ports v) k).1 by omega] at e;rcases (show op=13\/op=14\/op=15\/op=16\/op=17 by omega) with rfl|rfl|rfl|rfl|rfl
   . exact Wq
   . exact Wq
   . repeat' ((conv=>whnf);first|(refine Br.tt ?_)|(refine Br.ff ?_)|(refine Br.dec ?_ ?_<;>intro _<;>try omega)|(refine Ix.q ?_)|(refine c.go ?_)|(refine d.go ?_))
     all_goals conv=>whnf
     . exact VLe.int (by simp[J5j];rw[Qn (by omega)])
     . exact VLe.int (by simp[J5j];rw[Qm (by omega)])
   . exact Wq
   . exact Wq
theorem Q6h (g:G) (r:g.Small) (hg:g.valid=true) {h:Nat} {c:Cf} (n:Fit g h c) (v:Nat) (m:v<g.ports.length) (o:Bool) (a op arg:Int)
 (l:(Tm.leaf op arg).wf h o=true) (d:o=true->0<=a/\a<(gR g.ports v).length) :
 Ret Tryz.prog 166 [g.v,cV c,.int .i64 v,.int .i64 a,.agg [.int .i64 op,.int .i64 arg]] (.int .i64 (J85 g c v a op arg)):=by
 obtain⟨f1,f2,f3,f4,f5,f6,f7⟩:=J0e hg;simp only[Tm.wf,Qg,Xv,Qa] at l;obtain⟨⟨⟨z,y⟩,x⟩,p⟩:=l;have u:=n.len;have b:=n.row;have f:11<=op->0<=a/\a<(gR g.ports v).length:=fun q=>d (p.resolve_right (by omega));refine rf Y5D ?_;rcases (show op=1\/op=2\/op=3\/op=4\/op=5\/op=12\/(6<=op/\op<=17/\op≠12) by omega) with rfl|rfl|rfl|rfl|rfl|rfl|w
 . exact Wq
 . exact Wq
 . exact Wq
 . exact Wq
 . have b:=b v (by omega);obtain⟨k,rfl⟩:∃k:Nat,arg=k:=⟨arg.toNat,by omega⟩;exact Wq
 . obtain⟨t,s⟩:=f (by omega);obtain⟨k,rfl⟩:∃k:Nat,a=k:=⟨a.toNat,by omega⟩;have A:=J75 (f6 v m) (i:=k) (by omega);have b:=b (gF (gR g.ports v) k).1.toNat (by omega);obtain⟨j,rfl⟩:∃j:Nat,arg=j:=⟨arg.toNat,by omega⟩;exact Wq
 . have B:=X16 g r hg v m a op w (fun q=>f (by omega));have e:J85 g c v a op arg=J5j g v a op:=by
    rw[J85,Qb (by omega),Qb (by omega),Qb (by omega),Qb (by omega),Qb (by omega),Qb (by omega)]
   rw[e];exact Wq
theorem J8z {b:Nat} {t:Tm} {d:Bool} (c:t.wf b d=true) {e post:Lt2} {k:Nat} (h:e.drop k=t.enc++post):X0c e (k:Int)=((k+t.enc.length:Nat):Int)/\e.drop (k+t.enc.length)=post/\0<=Q2W e k:=by
 have a:k<e.length:=by
  have:=X6 List.length h;have hp:=t.enc_pos;simp only[Yj,Ql] at this;omega
 have he:=Q5l c h;exact⟨by rw[J8y a,he],J5X h,by rw[he];omega⟩
theorem J5D (g:G) (C:g.Small) (hg:g.valid=true) {V:Nat} {c:Cf} (w:Fit g V c) (v:Nat) (u:v<g.ports.length) (e:Lt2) (he:e.length<=100000):∀(t:Tm) (n:Bool) (d:Int) (k:Nat) (post:Lt2),e.drop k=t.enc++post->t.wf V n=true->(n=true->0<=d/\d<(gR g.ports v).length) ->
 Ret Tryz.prog 124 [g.v,cV c,.int .i64 v,.int .i64 d,vTr e,.int .i64 k] (.int .i64 (t.sem g c v d))
 | .leaf op arg,n,d,k,post,hd,f,hp=>by
   have B:=Q6h g C hg w v u n d op arg f hp;have p:=J3K op;simp only[Tm.wf,Qg,Qa] at f;have o:arI op=0:=by rw[arI,Qb (by omega),Qe (by omega)]
   rw[o] at p;obtain⟨hk,s,j⟩:=J1E (show e.drop k=(op,arg)::post from hd);have r:op=(gF e k).1:=by rw[s]
   have e2:arg=(gF e k).2:=by rw[s]
   simp only[Tm.sem];rw[r,e2] at B ⊢;rw[r] at p;generalize J85 g c v d (gF e k).1 (gF e k).2=lv at *;refine rf Q90 ?_;exact Wq
 | .un op a,n,d,k,post,hd,f,hp=>by
   obtain⟨hk,s,j⟩:=J1E (show e.drop k=(op,0)::(a.enc++post) from hd);simp only[Tm.wf,Qg,Qa] at f;have B:=J5D g C hg w v u e he a n d (k+1) post j f.2 hp;have D:=J4b hg w u a n d f.2 hp;have P:=Q70 op (a.sem g c v d) D f.1;have p:=J3K op;have o:arI op=1:=by rw[arI,Qb (by omega),Qb (by omega),Qe (by omega)]
   rw[o] at p;have M:=Q0p op;have E:J23 op=false:=by rw[J23,Qo];omega
   rw[E] at M;have r:op=(gF e k).1:=by rw[s]
   rw[show((k+1:Nat):Int)=(k:Int)+1 by omega] at B;simp only[Tm.sem];rw[r] at p M P ⊢;generalize a.sem g c v d=av at *;refine rf Q90 ?_;exact Wq
 | .agg op a,n,d,k,post,hd,f,hp=>by
   obtain⟨f1,f2,f3,f4,f5,f6,f7⟩:=J0e hg;obtain⟨hk,s,j⟩:=J1E (show e.drop k=(op,0)::(a.enc++post) from hd);simp only[Tm.wf,Qg,Qa] at f;have a0:=J41 hg v;generalize O:(List.range (gR g.ports v).length).map (fun i=>a.sem g c v (i:Nat))=L;have a1:L.length=(gR g.ports v).length:=by rw[<- O];simp
   have K:∀x∈L,inR x:=by
    rw[<- O];intro x s;obtain⟨i,J,rfl⟩:=Qi.1 s;rw[Q7] at J;exact J4b hg w u a true i f.2 fun _=>by omega
   have T:∀i,i<(gR g.ports v).length->gI L i=a.sem g c v (i:Nat):=fun i J=>by
    rw[<- O];simp[gI,J]
   have y:=X15 op L (by omega) K f.1;have es:(Tm.agg op a).sem g c v d=J88 op L:=by simp only[Tm.sem,O]
   rw[es];have p:=J3K op;have o:arI op=1:=by rw[arI,Qb (by omega),Qb (by omega),Qe (by omega)]
   rw[o] at p;have M:=Q0p op;have E:J23 op=true:=by rw[J23,Qa];omega
   rw[E] at M;have r:op=(gF e k).1:=by rw[s]
   rw[r] at p M y ⊢;have ih:=fun(i:Nat) (J:i<(gR g.ports v).length)=>J5D g C hg w v u e he a true (i:Nat) (k+1) post j f.2 (fun _=>by omega);refine rf Q90 ?_;refine Vq ?_;refine J0s J0c [1,2,4,5,13] [1] J1k [1,0] (fun i:Nat=>[(15,.int .i64 ((i:Nat):Int)),(14,.vec 1 1 0 i),(6,.loc 0 0)]) (fun _ i=>[(1,.vec i 1 (vI (L.take i))),(0,.cells [.fz g.ids.length 1 false (vI g.ids),.fz g.ports.length 1 false (vP g.ports)])]) (fun m i=>m=L.length-i/\i<=L.length) L.length 0 ⟨rfl,Qh _⟩ rfl (fun _=>rfl) ?_ ?_
   . exact J0a (fun _ _=>[(0,some 0),(1,none)])
   rintro m i ⟨hm,J⟩;by_cases I:i<(gR g.ports v).length
   . have B:=ih i I;rw[<- T i I,show((k+1:Nat):Int)=(k:Int)+1 by omega] at B;have Q:=J0M L i (by omega);have R:(L.take i).length=i:=by rw[Zt];omega
     refine Vq ?_
     all_goals
      refine⟨L.length-(i+1),i+1,by omega,⟨rfl,by omega⟩,?_⟩;refine J0d (fun env _=>[(0,some 0),(1,Q2X env 14)]) ?_ ?_ rfl
      . repeat' (first|exact tI|(refine⟨⟨_,rfl,?_⟩,?_⟩)|exact J0b.kf rfl|exact J0b.loc rfl|exact J0b.q)
      . repeat' (first|exact⟨by omega,rfl,fun a b o X=>by rw[Q];exact Q7q _ _ _ _ _ R.symm (by omega) X⟩|exact tI|(refine⟨⟨_,rfl,?_⟩,?_⟩)|exact J0b.kf rfl|apply And.intro)
   . obtain rfl:i=L.length:=by omega
     rw[Qz (Qd _)]
     repeat' ((conv=>whnf);first|(refine Br.dec ?_ ?_<;>intro _<;>try omega)|(refine Ix.q ?_)|(refine J2e y rfl ⟨by omega,vR_,VLe.fz rfl (fun h=>h) (fun a b o X=>vE_ (by rw[J0l,Qk])),tI⟩ ?_))
     all_goals conv=>whnf
     all_goals exact vR_
 | .bin op a b,n,d,k,post,hd,f,hp=>by
   obtain⟨hk,s,j⟩:=J1E (show e.drop k=(op,0)::(a.enc++b.enc++post) from hd);rw[Q9] at j;have l:=f;simp only[Tm.wf,Qg,Qa] at f;obtain⟨_,_,N⟩:=J8z l hd;obtain⟨F,A,_⟩:=J8z f.2.1 j;have B:=J5D g C hg w v u e he a n d (k+1) _ j f.2.1 hp;have h5:=J5D g C hg w v u e he b n d (k+1+a.enc.length) _ A f.2.2 hp;have D:=J4b hg w u a n d f.2.1 hp;have H:=J4b hg w u b n d f.2.2 hp;have P:=Q6s op (a.sem g c v d) (b.sem g c v d) D H f.1;have p:=J3K op;have o:arI op=2:=by rw[arI,Qb (by omega),Qb (by omega),Qb (by omega),Qe (by omega)]
   rw[o] at p;have r:op=(gF e k).1:=by rw[s]
   have U:=J5B e k he hk N (by rw[<- r,o];omega);rw[show((k+1:Nat):Int)=(k:Int)+1 by omega] at B F;rw[F] at U;simp only[Tm.sem];rw[r] at p P ⊢;generalize ((k+1+a.enc.length:Nat):Int)=n1 at *;generalize a.sem g c v d=av at *;generalize b.sem g c v d=bv at *;refine rf Q90 ?_;exact Wq
 | .ite q a b,n,d,k,post,hd,f,hp=>by
   obtain⟨hk,s,j⟩:=J1E (show e.drop k=(43,0)::(q.enc++(a.enc++b.enc)++post) from hd);rw[Q9,Q9] at j;have l:=f;simp only[Tm.wf,Qg] at f;obtain⟨_,_,N⟩:=J8z l hd;obtain⟨F,A,_⟩:=J8z f.1 j;obtain⟨Z,S,_⟩:=J8z f.2.1 A;have B:=J5D g C hg w v u e he q n d (k+1) _ j f.1 hp;have P:=J5D g C hg w v u e he a n d (k+1+q.enc.length) _ A f.2.1 hp;have h5:=J5D g C hg w v u e he b n d (k+1+q.enc.length+a.enc.length) _ S f.2.2 hp;have p:=J3K 43;have o:arI 43=3:=rfl;rw[o] at p;have r:43=(gF e k).1:=by rw[s]
   have U:=J5B e k he hk N (by rw[<- r,o];omega);have Y:=Q1H e k he hk N (by rw[<- r,o];omega);rw[show((k+1:Nat):Int)=(k:Int)+1 by omega] at B F;rw[F] at U Y;rw[Z] at Y;simp only[Tm.sem];rw[r] at p;generalize ((k+1+q.enc.length+a.enc.length:Nat):Int)=n2 at *;generalize ((k+1+q.enc.length:Nat):Int)=n1 at *;generalize q.sem g c v d=qv at *;generalize a.sem g c v d=av at *;generalize b.sem g c v d=bv at *;refine rf Q90 ?_;by_cases W:qv=0
   . rw[Qb (fun z=>z W)];exact Wq
   . rw[Qe W];exact Wq
theorem Q1J (p:Pr) (hp:J2C p) (g:G) (l:g.Small) (hF:J1L p g) (hg:g.valid=true) (c:Cf) (q:J2O p g c) (v:Nat) (k:v<g.ports.length) :
 Ret Tryz.prog 119 [p.v,g.v,cV c,.int .i64 v] (.int .i64 (J0z p g c v)):=by
 have n:=hp.rlen;have o:(gds p g c v).length=p.rules.length:=by simp[gds]
 refine rf Y6b ?_
 all_goals conv=>whnf
 refine J0h J0c [2,3,4,5] (fun i:Nat=>[(9,.int .i64 ((i:Nat):Int))]) (fun m i=>m=p.rules.length-i/\i<=p.rules.length/\∀a∈(gds p g c v).take i,a=0) p.rules.length 0 ⟨rfl,Qh _,by simp⟩ ?_ ?_
 . exact J0a J0r
 rintro m i ⟨s,t,b⟩;by_cases e:i<p.rules.length
 . have d:=hp.gd i e;simp only[Tm.okB,Qg,Qa] at d;have f:=J5D g l hg (q.fit hp hF hg) v k (gRl p.rules i).gd.enc d.2 (gRl p.rules i).gd false (-1) 0 [] (by simp) d.1 (by simp);rw[show((0:Nat):Int)=0 from rfl] at f;have j:=Q9P p g c v i e;by_cases hz:(gRl p.rules i).gd.sem g c v (-1)=0
   . rw[hz] at f;refine Vq ?_;refine⟨p.rules.length-(i+1),i+1,by omega,⟨rfl,by omega,?_⟩,?_⟩
     . rw[J0M _ i (by omega)];intro a r;rcases Qr.1 r with h|h
       . exact b a h
       . simp at h;rw[h,j];exact hz
     . exact J0a J0r
   . refine Vq ?_;refine VLe.int ?_;rw[J0z,J1X _ 0 i (by omega) b,Q3M _ i (by omega)];simp only[J6s,j];rw[Qe hz];omega
 . refine Vq ?_;refine VLe.int ?_;rw[J0z,J1X _ 0 i (by omega) b,Zh (by omega)];rfl
theorem J7W (p:Pr) (hp:J2C p) (g:G) (h:g.Small) (hF:J1L p g) (hg:g.valid=true) (c:Cf) (b:J2O p g c) :
 Ret Tryz.prog 65 [p.v,g.v,cV c] (.int .u32 (enN p g c:Nat)):=by
 obtain⟨f1,f2,f3,f4,f5,f6,f7⟩:=J0e hg;have a:=b.len;refine rf fj65 ?_
 all_goals conv=>whnf
 refine J0h J0c [2,3,4] (fun v:Nat=>[(8,.int .i64 ((v:Nat):Int)),(7,.int .u32 (nb (fun u=>decide (0<=J0z p g c u)) v:Nat))]) (fun m v=>m=c.length-v/\v<=c.length) c.length 0 ⟨rfl,Qh _⟩ ?_ ?_
 . exact J0a J0r
 rintro m v ⟨j,i⟩;by_cases f:v<c.length
 . have l:=Q1J p hp g h hF hg c b v (by omega);by_cases d:0<=J0z p g c v
   . have e:=X2s (p:=fun u=>decide (0<=J0z p g c u)) (k:=v) (by omega) (Qn d);refine Vq ?_;refine⟨c.length-(v+1),v+1,by omega,⟨rfl,by omega⟩,?_⟩;exact J0a J0r
   . have e:=X6T (p:=fun u=>decide (0<=J0z p g c u)) (k:=v) (Qm d);refine Vq ?_;refine⟨c.length-(v+1),v+1,by omega,⟨rfl,by omega⟩,?_⟩;exact J0a J0r
 . obtain rfl:v=c.length:=by omega
   refine Vq ?_;rw[enN,<- a];exact vR_
theorem Q3o (p:Pr) (hp:Q4d p) (g:G) (a:g.Small) (hF:J1L p g) (hg:g.valid=true) (c:Cf) (b:J2O p g c) :
 Ret Tryz.prog 28 [p.v,g.v,cV c] (.int .u32 (enN p g c:Nat)):=by
 have e:=Q3e p hp g a hF hg c b;have d:=J7W p hp.ok g a hF hg c b;refine rf fj28 ?_;exact Wq
theorem X14 (p:Pr) (hp:J2C p) (g:G) (l:g.Small) (hF:J1L p g) (hg:g.valid=true) (c:Cf) (e:J2O p g c) (v:Nat) (k:v<g.ports.length) (I:0<=J0z p g c v) (x:1<=p.vars.length) :
 Ret Tryz.prog 74 [p.v,g.v,cV c,.int .i64 v] (.fz (J1P p g c v (J0z p g c v).toNat).length 1 false (vI (J1P p g c v (J0z p g c v).toNat))):=by
 obtain⟨f1,f2,f3,f4,f5,f6,f7⟩:=J0e hg;have B:=e.len;have u:=e.row v (by omega);have w:=hp.vlen;have C:=Q1J p hp g l hF hg c e v k;have n:=J7f p g c v;obtain⟨r,z⟩:∃r:Nat,J0z p g c v=r:=⟨(J0z p g c v).toNat,by omega⟩;rw[z] at C n ⊢;rw[show((r:Nat):Int).toNat=r by omega];have b:r<p.rules.length:=by omega
 have y:=hp.slen r b;refine rf fj74 ?_;refine Vq ?_
 all_goals
  refine J0s J0c [2,3,4,5,10] [] J2z [2,1,0] (fun j:Nat=>[(11,.int .i64 ((j:Nat):Int)),(9,.vec 2 1 0 (gC c v).length)]) (fun _ j=>[(2,.vec (gC c v).length 1 (vI (X1l p g c v ((gRl p.rules r).sets.take j)))),(1,.cells [.fz g.ids.length 1 false (vI g.ids),.fz g.ports.length 1 false (vP g.ports)]),(0,.cells [.str p.nm,p.pg.vs,p.pg.rs])]) (fun m j=>m=(gRl p.rules r).sets.length-j/\j<=(gRl p.rules r).sets.length) (gRl p.rules r).sets.length 0 ⟨rfl,Qh _⟩ rfl (fun _=>rfl) ?_ ?_
  . exact J0a (fun env _=>[(0,some 0),(1,some 1),(2,Q2X env 9)])
  rintro m j ⟨F,H⟩;by_cases d:j<(gRl p.rules r).sets.length
  . obtain⟨E,D,f⟩:=hp.set r b j d;simp only[Tm.okB,Qg,Qa] at f;have a:=J5D g l hg (e.fit hp hF hg) v k (gS (gRl p.rules r).sets j).2.enc f.2 (gS (gRl p.rules r).sets j).2 false (-1) 0 [] (by simp) f.1 (by simp);rw[show((0:Nat):Int)=0 from rfl] at a;have o:=Q8r p hp g l hg hF v (gS (gRl p.rules r).sets j).1.toNat k (by omega) ((gS (gRl p.rules r).sets j).2.sem g c v (-1));rw[show(((gS (gRl p.rules r).sets j).1.toNat:Nat):Int)=(gS (gRl p.rules r).sets j).1 by omega] at o;refine Vq ?_;refine⟨(gRl p.rules r).sets.length-(j+1),j+1,by omega,⟨rfl,by omega⟩,?_⟩;simp only[Q3L _ j d,J7Z];refine J0d J1g ?_ ?_ rfl
    . repeat' (first|exact tI|(refine⟨⟨_,rfl,?_⟩,?_⟩)|exact J0b.kf rfl|exact J0b.loc rfl|exact J0b.q)
    . repeat' (first|exact⟨Qd _,rfl,fun i t A s=>by simp only[Qk];exact J96 _ _ _ _ _ (by rw[J2Q];omega) s⟩|exact tI|(refine⟨⟨_,rfl,?_⟩,?_⟩)|exact J0b.kf rfl|apply And.intro)
  . refine Vq ?_;rw[Qz (by omega)];exact VLe.fz (J2Q _ _ _ _ _).symm (fun h=>h) (fun i t A s=>vE_ (by simp[J0m,J1P]))
theorem X9Q {a b chg:List Nat} (h:(a.all fun k=>J1b k b)=true):∀k,k∈a->k∈b\/k∈chg:=fun k hk=>.inl (J0k.1 (Qy.1 h k hk))
theorem Q57 (f:Nat->Nat->Nat->V) (v i j t:Nat):VLe (J4W f v (f v) i j t) (f i j t):=by
 apply vE_;by_cases h:i=v
 . subst h;simp[J4W]
 . simp[J4W,h]
def stR (p:Pr) (g:G) (c:Cf) (s j u:Nat):List Int:=if u<j/\s.testBit u=true then J1P p g c u (J0z p g c u).toNat else gC c u
theorem X9f (p:Pr) (g:G) (c:Cf) (s j i:Nat) (b:s.testBit j=false):stR p g c s (j+1) i=stR p g c s j i:=by
 rw[stR,stR];by_cases a:i<j/\s.testBit i=true
 . rw[Qe a,Qe ⟨by omega,a.2⟩]
 . rw[Qb a,Qb (fun q=>a ⟨by
    have:i≠j:=fun e=>by rw[e,b] at q;exact absurd q.2 (by simp)
    omega,q.2⟩)]
def stZ (p:Pr) (g:G) (c:Cf) (s j:Nat):Nat->Nat->V:=fun u _=>.fz (gC c u).length 1 false (vI (stR p g c s j u))
theorem X2w (p:Pr) (g:G) (c:Cf) (v r:Nat):(J1P p g c v r).length=(gC c v).length:=by rw[J1P,J2Q]
theorem X5y (p:Pr) (g:G) (c:Cf) (s j a i t:Nat) (f:s.testBit j=true) (d:a=j) (k:t<1):VLe (J1l (stZ p g c s j) a 0 [.fz (J1P p g c j (J0z p g c j).toNat).length 1 false (vI (J1P p g c j (J0z p g c j).toNat))] i t) (stZ p g c s (j+1) i t):=by
 obtain rfl:t=0:=by omega
 subst d;apply vE_;by_cases h:i=a
 . subst h;rw[stZ,stR,Qe ⟨by omega,f⟩,<- X2w p g c i (J0z p g c i).toNat];simp[J1l]
 . have e:stR p g c s (a+1) i=stR p g c s a i:=by
    rw[stR,stR];by_cases b:i<a/\s.testBit i=true
    . rw[Qe b,Qe ⟨by omega,b.2⟩]
    . rw[Qb b,Qb (fun q=>b ⟨by omega,q.2⟩)]
   rw[stZ,e];simp[J1l,h,stZ]
theorem J5u (F G:Nat->Nat->V) (n a w:Nat) (b:a=n) (d:∀j,j<w->VLe (G 0 j) (F n j)) (i j:Nat) (e:i<n+1) (c:j<w):VLe (J56 (J0m 0 F) a G i j) (F i j):=by
 subst b;by_cases h:i<a
 . rw[J19 h,J0l,Qk];exact vR_
 . rw[J2a h];obtain rfl:i=a:=by omega
   rw[Ke];exact d j c
theorem X9e (p:Pr) (g:G) (c:Cf) (s j i t:Nat) (a:s.testBit j=false):VLe (stZ p g c s j i t) (stZ p g c s (j+1) i t):=vE_ (by rw[stZ,stZ,X9f p g c s j i a])
theorem Q6o (c:Cf) (q:c.length<=1000) (k:∀v,v<c.length->(gC c v).length<=1000) :
 J0N Tryz.prog 73 [cV c] [] KS fun X own' _=>X=.vec 0 1 0 c.length/\own'=[(0,.vec c.length 1 (vC c))]:=by
 refine J2d ?_;refine fr fj73 ?_
 all_goals conv=>whnf
 refine J0s J0c [0] [0] J5N [0] (fun v:Nat=>[(3,.vec 0 1 0 v),(4,.int .i64 ((v:Nat):Int))]) (fun _ v=>[(0,.vec v 1 (vC c))]) (fun m v=>m=c.length-v/\v<=c.length) c.length 0 ⟨rfl,Qh _⟩ rfl (fun _=>rfl) ?_ ?_
 . exact J0a (fun _ _=>[(0,none)])
 rintro m v ⟨p,l⟩;by_cases d:v<c.length
 . have g:=k v d;refine Vq ?_;refine⟨c.length-(v+1),v+1,by omega,⟨rfl,by omega⟩,?_⟩;refine J0F (fun env own=>[(0,Q2X env 3)]) ?_;intro i j f e;exact J5u (vC c) _ _ _ 1 rfl (fun j e=>by(obtain rfl:j=0:=by omega);exact VLe.fz rfl (fun h=>h) (fun a b s r=>vE_ (by rw[J0l,Qk]))) _ _ f e
 . obtain rfl:v=c.length:=by omega
   refine Vq ?_;exact Q8z (fun v o=>[(0,Y2b v 0)]) _ _ ⟨rfl,rfl⟩ (J0b.vec rfl rfl rfl) ⟨⟨_,rfl,Qd _,rfl,fun i t f n=>vR_⟩,tI⟩ rfl
theorem X1Z (p:Pr) (hp:Q4d p) (g:G) (x:g.Small) (hF:J1L p g) (hg:g.valid=true) (c:Cf) (u:J2O p g c) (s:Nat) (f:s<4294967296) (F:s≠0) (k:J2D s (enN p g c)) :
 Ret Tryz.prog 30 [p.v,g.v,cV c,.int .u32 s] (.tup [cV (J12 p g c s),.int .i64 0]):=by
 obtain⟨f1,f2,f3,f4,f5,f6,f7⟩:=J0e hg;have J:=u.len;have w:=hp.v6;have K:=J7Y p hp g x hF hg c u;have D:=J7W p hp.ok g x hF hg c u;have r:enN p g c<4294967296:=Q1Y _ (by omega);have hd:J3C .andNot .u32 (s:Int) (enN p g c:Nat)=0:=by rw[J2t f r,(J05 f).2 k];rfl
 have z:=Q6o c (by omega) (fun v E=>by have:=u.row v E;omega);refine rf fj30 ?_;generalize B:enN p g c=en at D r hd
 repeat' ((conv=>whnf);first|(refine Br.ff ?_)|(refine Br.dec ?_ ?_<;>intro _<;>try omega)|(refine Br.bne ?_ ?_<;>intro _<;>try omega)|(refine Sv.mk _ rfl ?_)|(refine K.go ?_)|(refine D.go ?_)|(refine J3y [] [0] (z.mono ?_) ⟨J0b.kf rfl,tI⟩ tI rfl;rintro _ _ _ ⟨rfl,rfl⟩)|(refine Chk.mk rfl ?_))
 all_goals conv=>whnf
 refine J0s J0c [2,3,4,5,11] [] J2z [2,1,0] (fun j:Nat=>[(12,.int .i64 ((j:Nat):Int))]) (fun _ j=>[(2,.vec c.length 1 (stZ p g c s j)),(1,.cells [.fz g.ids.length 1 false (vI g.ids),.fz g.ports.length 1 false (vP g.ports)]),(0,.cells [.str p.nm,p.pg.vs,p.pg.rs])]) (fun m j=>m=c.length-j/\j<=c.length) c.length 0 ⟨rfl,Qh _⟩ rfl (fun _=>rfl) ?_ ?_
 . exact J0a J1g
 rintro m j ⟨M,y⟩;by_cases I:j<c.length
 . have A:=Q2k s f j;have C:X1p s (j:Int)=s.testBit j:=by rw[X1p,Qn (by omega)];simp
   rw[C] at A;cases d:s.testBit j with
   | true =>
     rw[d] at A;have o:=k j d;rw[J8A,Qg,Qa,Qa] at o;have H:=X14 p hp.ok g x hF hg c u j (by omega) o.2 w.1;refine Vq ?_;refine⟨c.length-(j+1),j+1,by omega,⟨rfl,by omega⟩,?_⟩;refine J0F J1g ?_;intro i j n y;exact X5y p g c s _ _ _ _ d (Qk _) y
   | false =>
     rw[d] at A;refine Vq ?_;refine⟨c.length-(j+1),j+1,by omega,⟨rfl,by omega⟩,?_⟩;refine J0d J1g ?_ ?_ rfl
     . repeat' (first|exact tI|(refine⟨⟨_,rfl,?_⟩,?_⟩)|exact J0b.kf rfl|exact J0b.loc rfl|exact J0b.q)
     . repeat' (first|exact X9e p g c s _ _ _ d|exact tI|(refine⟨⟨_,rfl,?_⟩,?_⟩)|exact J0b.kf rfl|(refine⟨Qd _,rfl,fun i j n y=>?_⟩)|apply And.intro)
 . obtain rfl:j=c.length:=by omega
   refine Vq ?_;refine VLe.tup ⟨?_,vR_,tI⟩;refine VLe.fz (J26 p g c s).symm (fun h=>h) (fun i t n L=>?_);have e:stR p g c s c.length i=gC (J12 p g c s) i:=by
    rw[J2x p g c s n,stR];by_cases h:s.testBit i=true
    . rw[Qe ⟨n,h⟩,Qe h]
    . rw[Qb (fun q=>h q.2),Qb h]
   have el:(gC c i).length=(gC (J12 p g c s) i).length:=by
    rw[J2x p g c s n];split
    . rw[J1P,J2Q]
    . rfl
   rw[J0l,Qk];show VLe (.fz (gC c i).length 1 false (vI (stR p g c s c.length i))) (.fz (gC (J12 p g c s) i).length 1 false (vI (gC (J12 p g c s) i)));exact VLe.fz el (fun h=>h) (fun a b N C=>vE_ (X6 (fun l=>vI l a b) e))
theorem Q60 (p:Pr) (g:G) (k v x b i j:Nat) (c:b=x) (e:j<1) (a:Int) (d:a=loP p g v x):VLe (J1l (J3d (J5r p g k (v*p.vars.length+x+1)) v) b 0 [.int .i64 a] i j) (J3d (J5r p g k (v*p.vars.length+x)) v i j):=by
 obtain rfl:j=0:=by omega
 subst c d;apply vE_;by_cases h:i=b
 . subst h;have:=X32 (p:=p) (g:=g) (k:=k) (v:=v) (x:=i);simp[J1l,J3d,this]
 . have:=Q5K (p:=p) (g:=g) (k:=k) (i:=v*p.vars.length+b) (v:=v) (x:=i) (by omega);simp[J1l,J3d,h,this]
theorem X33 (p:Pr) (g:G) (k v x i j t:Nat) (b:x<p.vars.length) (c:j<p.vars.length) (d:i≠v):VLe (J3d (J5r p g k (v*p.vars.length+x+1)) i j t) (J3d (J5r p g k (v*p.vars.length+x)) i j t):=by
 apply vE_;have a:i*p.vars.length+j≠v*p.vars.length+x:=fun q=>d (by
  have e:=X6 (· / p.vars.length) q;simpa only[J5P b,J5P c] using e)
 simp only[J3d];rw[Q5K a]
theorem Q61 (p:Pr) (g:G) (k v x b i j:Nat) (hk:k<J1z p g) (d:v<g.ids.length) (c:x<p.vars.length) (h:Q05 p g k (v*p.vars.length+x+1)) (n:dgP p g k v x+1<szX p g v x) (f:b=x) (l:i<p.vars.length) (o:j<1) (a:Int) (m:a=J5r p g k (v*p.vars.length+x+1) v x+1) :
 VLe (J1l (J3d (J5r p g k (v*p.vars.length+x+1)) v) b 0 [.int .i64 a] i j) (J3d (fun v x=>gI (gC (cfK p g (k+1)) v) x) v i j):=by
 obtain rfl:j=0:=by omega
 subst f m;apply vE_;have:=X09 hk d c h n d l;by_cases e:i=b
 . subst e;rw[Qe ⟨rfl,rfl⟩] at this;simp[J1l,J3d,this]
 . rw[Qb (fun q=>e q.2)] at this;simp[J1l,J3d,e,this]
theorem Q4a (p:Pr) (g:G) (k v x i j t:Nat) (hk:k<J1z p g) (c:v<g.ids.length) (a:x<p.vars.length) (h:Q05 p g k (v*p.vars.length+x+1)) (f:dgP p g k v x+1<szX p g v x) (e:i<g.ids.length) (d:j<p.vars.length) (b:i≠v) :
 VLe (J3d (J5r p g k (v*p.vars.length+x+1)) i j t) (J3d (fun v x=>gI (gC (cfK p g (k+1)) v) x) i j t):=by
 apply vE_;have:=X09 hk c a h f e d;rw[Qb (fun q=>b q.1)] at this;simp[J3d,this]
theorem J3H (f:Nat->Nat->Nat->V) (v i j t:Nat):VLe (J4W f v (f v) i j t) (f i j t):=by
 apply vE_;simp only[J4W];split
 . rename_i e;rw[e]
 . rfl
theorem Q6Z (p:Pr) (g:G) (k v x i j t:Nat) (hk:k<J1z p g) (c:v<g.ids.length) (b:x<p.vars.length) (h:Q05 p g k (v*p.vars.length+x+1)) (f:dgP p g k v x+1<szX p g v x) (m:i<g.ids.length) (d:j<p.vars.length) (l:t<1) (a:Int) (n:a=J5r p g k (v*p.vars.length+x+1) v x+1) :
 VLe (J4W (J3d (J5r p g k (v*p.vars.length+x+1))) v (J1l (J3d (J5r p g k (v*p.vars.length+x+1)) v) (0+x) 0 [.int .i64 a]) i j t) (J3d (fun v x=>gI (gC (cfK p g (k+1)) v) x) i j t):=by
 simp only[J4W];split
 . rename_i e;subst e;exact Q61 p g k i x (0+x) j t hk c b h f (Qk _) d l a n
 . rename_i e;exact Q4a p g k v x i j t hk c b h f m d e
theorem X6X (p:Pr) (hp:J2C p) (g:G) (hF:J1L p g) (hg:g.valid=true) (k:Nat) (hk:k<J1z p g) :
 J0N Tryz.prog 36 [X1j p g,.vec 0 1 0 g.ids.length] [(0,J8U p g (fun v x=>gI (gC (cfK p g k) v) x) [])] KS.tail fun v own' _=>v=.tup []/\own'=[(0,J8U p g (fun v x=>gI (gC (cfK p g (k+1)) v) x) [])]:=by
 obtain⟨f1,f2,f3,f4,f5,f6,f7⟩:=J0e hg;have C:=hp.vlen;refine J2d (Q2E ?_);refine fr fj36 ?_
 repeat' ((conv=>whnf);first|(refine Ar.q ?_)|(refine fr fj86 ?_)|(refine J2l ?_)|(refine Chk.q ?_)|(refine fr Y5X ?_))
 all_goals conv=>whnf
 refine J0s J0c [0,1] [] J9F [3,2,1,0] (fun j:Nat=>[(3,.int .i64 ((j:Int)-1))]) (fun own j=>J2g own 0 (J8U p g (J5r p g k (j*p.vars.length)) [])) (fun m j=>m=j/\j<=g.ids.length/\Q05 p g k (j*p.vars.length)) g.ids.length g.ids.length ⟨rfl,Qd _,fun j y L=>(by rw[nP] at L;omega)⟩ rfl (fun _=>rfl) ?_ ?_
 . refine J0d J1u ?_ ?_ rfl
   . repeat' (first|exact J0b.yld rfl|exact tI|(refine⟨⟨_,rfl,?_⟩,?_⟩)|exact J0b.kf rfl|exact J0b.loc rfl)
   . repeat' (first|(refine J0b.fn ?_)|(refine⟨rfl,rfl,rfl,rfl,rfl,?_⟩)|exact⟨rfl,rfl,tI,fun i c=>rfl,fun i j t c h b l=>vE_ (X6 (V.int .i64) (X08 c b).symm)⟩|exact tI|(refine⟨⟨_,rfl,?_⟩,?_⟩)|exact J0b.kf rfl|exact J0b.loc rfl|exact J0b.q|apply And.intro)
 rintro m j ⟨F,b,a⟩;rcases Q4 j with A|A
 . subst A;refine Vq ?_;have o:=fun v x D B=>X8p (v:=v) (x:=x) hk (by rw[Zr] at a;exact a) D B;exact⟨_,J3B.refl _,J2R (fun _=>[(0,some 0)]) _ _ ⟨rfl,rfl⟩ (J0b.kf rfl) (by repeat' (first|(refine⟨rfl,rfl,tI,fun i c=>rfl,fun i j t c h b l=>vE_ (X6 (V.int .i64) (by rw[Zr];exact o i j c b))⟩)|exact tI|(refine⟨⟨_,rfl,?_⟩,?_⟩))) rfl⟩
 . obtain⟨v,rfl⟩:∃v,j=v+1:=⟨j-1,by omega⟩
   repeat' ((conv=>whnf);first|(refine Ix.w v ?_)|(refine Br.dec ?_ ?_<;>intro _<;>try omega)|(refine Ar.q ?_)|(refine fr fj87 ?_)|(refine J2l ?_)|(refine Chk.q ?_)|(refine fr Y5W ?_)|(refine J1T J0c rfl rfl ?_))
   all_goals conv=>whnf
   refine J0s J0c [0,1] [8] X9S [8,7,6,5,3,2,1,0] (fun i:Nat=>[(3,.int .i64 ((i:Int)-1))]) (fun own i=>(8,.vec (J83 p v) 1 (J3d (J5r p g k (v*p.vars.length+i)) v))::J2g (J2g (J2g own 5 (.cells [.int .i64 v])) 0 (J8U p g (J5r p g k (v*p.vars.length+i)) [])) 0 (J8U p g (J5r p g k (v*p.vars.length+i)) [(v,8)])) (fun m i=>m=i/\i<=p.vars.length/\Q05 p g k (v*p.vars.length+i)) p.vars.length p.vars.length ⟨rfl,Qd _,by rw[Xc,Yy] at a;exact a⟩ rfl (fun _=>rfl) ?_ ?_
   . refine J3b.trans ?_ (J0Q (ks:=X9U) rfl rfl rfl (show v<g.ids.length by omega) rfl) (J2H rfl);have e:(v+1)*p.vars.length=v*p.vars.length+p.vars.length:=by rw[Xc,Yy]
     refine J0d J65 ?_ ?_ rfl
     . repeat' (first|exact J0b.yld rfl|exact tI|(refine⟨⟨_,rfl,?_⟩,?_⟩)|exact J0b.kf rfl|exact J0b.loc rfl)
     . repeat' (first|(refine J0b.fn ?_)|(refine⟨rfl,rfl,rfl,rfl,rfl,?_⟩)|exact⟨rfl,rfl,tI,fun i c=>rfl,fun i j t c h b l=>by rw[e];exact vR_⟩|exact tI|(refine⟨⟨_,rfl,?_⟩,?_⟩)|exact J0b.kf rfl|exact J0b.int (by omega)|exact J0b.loc rfl|exact J0b.q|apply And.intro)
   rintro m i ⟨F,c,f⟩;rcases Q4 i with y|y
   . subst y;refine Vq ?_;refine⟨_,v,by omega,⟨rfl,by omega,by rw[Xx] at f;exact f⟩,?_⟩;refine J3b.trans (J1M (J1q (q:=8) (k:=0) (i:=v) [] rfl rfl (show v<g.ids.length by omega) (J0j rfl) (Qd _) rfl (fun j b=>(J0o (fun e=>b e.symm)).symm))) ?_ (J9E rfl);have e:v*p.vars.length+0=v*p.vars.length:=Xx _;refine J0d J1u ?_ ?_ rfl
     . repeat' (first|exact J0b.yld rfl|exact tI|(refine⟨⟨_,rfl,?_⟩,?_⟩)|exact J0b.int (by omega)|exact J0b.loc rfl)
     . repeat' (first|(refine J0b.fn ?_)|(refine⟨rfl,rfl,rfl,rfl,rfl,?_⟩)|exact⟨rfl,rfl,tI,fun i c=>rfl,fun i j t c h b l=>(by rw[e];exact J3H _ _ _ _ _)⟩|exact tI|(refine⟨⟨_,rfl,?_⟩,?_⟩)|exact J0b.kf rfl|exact J0b.loc rfl|exact J0b.q|apply And.intro)
   . obtain⟨x,rfl⟩:∃x,i=x+1:=⟨i-1,by omega⟩;have d:x<p.vars.length:=by omega
     have H:J83 p v=p.vars.length:=rfl;have n:v<g.ids.length:=by omega
     have z:J5r p g k (v*p.vars.length+(x+1)) v (0+x)=loP p g v x+dgP p g k v x:=by rw[Qk,<- Xk];exact X07
     have r:J5r p g k (v*p.vars.length+x+1) v x=loP p g v x+dgP p g k v x:=X07;have E:=J3X hp g hF hg v d;have J:=X0g p g k v d;have K:=J4I hg (hp.var x d) (hF _ d) (v:=v) (by omega);have I:(bnd g (gV p.vars x) v).2=hiP p g v x:=rfl;have s:(bnd g (gV p.vars x) v).1=loP p g v x:=rfl;by_cases hd:dgP p g k v x+1<szX p g v x
     . repeat' ((conv=>whnf);first|(refine Ix.w x ?_)|(refine Ix.w v ?_)|(refine Br.ff ?_)|(refine Br.dec ?_ ?_<;>intro _<;>try omega)|(refine Ar.q ?_)|(refine Ix.mk 1 rfl (by omega) ?_)|(refine Ltn.q ?_)|(refine J1T J0c rfl rfl ?_)|(refine Opn.hd (by omega) ?_))
       all_goals conv=>whnf
       exact⟨_,J1q (q:=8) (k:=0) (i:=v) [] rfl rfl n (J0j rfl) (Qd _) rfl (fun j b=>(J0o (fun e=>b e.symm)).symm),J2R (fun _=>[(0,some 0)]) _ _ ⟨rfl,rfl⟩ (J0b.kf rfl) (by repeat' (first|(refine⟨rfl,rfl,tI,fun i c=>rfl,fun i j t c h b l=>Q6Z p g k v x i j t hk n d f hd c b l _ (by omega)⟩)|exact tI|(refine⟨⟨_,rfl,?_⟩,?_⟩))) rfl⟩
     . repeat' ((conv=>whnf);first|(refine Ix.w x ?_)|(refine Ix.w v ?_)|(refine Br.tt ?_)|(refine Br.dec ?_ ?_<;>intro _<;>try omega)|(refine Ar.q ?_)|(refine Ix.mk 0 rfl (by omega) ?_)|(refine Ix.mk 1 rfl (by omega) ?_)|(refine Ltn.q ?_)|(refine J1T J0c rfl rfl ?_)|(refine Opn.hd (by omega) ?_))
       all_goals conv=>whnf
       have u:=Q9R d f (by omega);refine⟨_,x,by omega,⟨rfl,by omega,u⟩,?_⟩;refine J0d J5Q ?_ ?_ rfl
       . repeat' (first|exact J0b.yld rfl|exact tI|(refine⟨⟨_,rfl,?_⟩,?_⟩)|exact J0b.int (by omega)|exact J0b.loc rfl)
       . repeat' (first|(refine J0b.fn ?_)|(refine⟨rfl,rfl,rfl,rfl,rfl,?_⟩)|exact⟨rfl,rfl,⟨rfl,rfl,tI⟩,fun i c=>rfl,fun i j t c h b l=>X33 p g k v x i j t d b (fun e=>by rw[e,J0j rfl] at h;cases h)⟩|exact Q60 p g k v x _ _ _ (Qk _) b _ s|exact tI|(refine⟨⟨_,rfl,?_⟩,?_⟩)|exact J0b.kf rfl|exact J0b.loc rfl|exact J0b.q|(refine⟨Qd _,rfl,fun i j c b=>?_⟩)|apply And.intro)
open Go.Eng
theorem wrem {i n:Nat} (h:n≠0):(i:Int).tmod n=((i % n:Nat):Int):=by
 rw[Int.tmod_eq_emod_of_nonneg (by omega)];exact(Int.natCast_emod _ _).symm
theorem Q5V (p:Pr) (g:G) (k v x b i j:Nat) (c:b=x) (e:j<1) (a:Int) (d:a=J59 p g k (v*p.vars.length+x+1) v x+dgP p g k v x):VLe (J1l (J3d (J59 p g k (v*p.vars.length+x+1)) v) b 0 [.int .i64 a] i j) (J3d (J59 p g k (v*p.vars.length+x)) v i j):=by
 obtain rfl:j=0:=by omega
 subst c d;apply vE_;by_cases h:i=b
 . subst h;have:=Q7z (p:=p) (g:=g) (k:=k) (v:=v) (x:=i);simp[J1l,J3d,this]
 . have:=Q1k (p:=p) (g:=g) (k:=k) (i:=v*p.vars.length+b) (v:=v) (x:=i) (by omega);simp[J1l,J3d,h,this]
theorem X1C (p:Pr) (g:G) (k v x i j t:Nat) (b:x<p.vars.length) (c:j<p.vars.length) (d:i≠v):VLe (J3d (J59 p g k (v*p.vars.length+x+1)) i j t) (J3d (J59 p g k (v*p.vars.length+x)) i j t):=by
 apply vE_;have a:i*p.vars.length+j≠v*p.vars.length+x:=fun q=>d (by
  have e:=X6 (· / p.vars.length) q;simpa only[J5P b,J5P c] using e)
 simp only[J3d];rw[Q1k a]
theorem X74 (p:Pr) (g:G) (k:Nat) (f:Nat->Nat->Int) (d:∀v x,v<g.ids.length->x<p.vars.length->f v x=gI (gC (cfK p g k) v) x):VLe (.fz g.ids.length 1 false fun i _=>.fz (J83 p i) 1 false (J3d f i)) (cV (cfK p g k)):=by
 refine VLe.fz (Q0V p g k).symm (fun h=>h) (fun i j c l=>?_);refine VLe.fz ?_ (fun h=>h) (fun a b e m=>vE_ (X6 (V.int .i64) (d i a c e)));rw[Q30 p g k c];simp[J83]
theorem Q6g (p:Pr) (hp:Q4d p) (g:G) (n:g.Small) (hF:J1L p g) (hg:g.valid=true) :
 J0N Tryz.prog 62 [p.v,g.v] [] KS fun X own' _=>X=.tup [.vec 0 1 0 g.ids.length,.int .i64 0]/\own'=[(0,J8U p g (loP p g) [])]:=by
 obtain⟨f1,f2,f3,f4,f5,f6,f7⟩:=J0e hg;have o:=hp.v6;have s:=J5C p hp g n;rw[J7q hg hF] at s;refine J2d ?_;refine fr fj62 ?_;refine Vq ?_;refine J0s J0c [2,3] [2] J2z [2,1,0] (fun v:Nat=>[(7,.vec 2 1 0 v),(8,.int .i64 ((v:Nat):Int))]) (fun own v=>(2,.fam v 1 (J83 p) (J3d (loP p g)) [])::own) (fun m v=>m=g.ids.length-v/\v<=g.ids.length) g.ids.length 0 ⟨rfl,Qh _⟩ rfl (fun _=>rfl) ?_ ?_
 . show J3b _ _ (St.mk ?E ?O ?Q) _;refine J3b.trans (b:=⟨[(7,.vec 2 1 0 0),(8,.int .i64 0)]++Go.Eng.selE ?E [2,3],(2,.vec 0 1 fun _ _=>.nilslice)::?O,J2z⟩) ?_ ?_ (fun k hk=>.inl hk)
   . exact J0a (fun _ _=>[(0,some 0),(1,some 1),(2,none)])
   . refine J0d J1g ?_ ?_ rfl
     . repeat' (first|exact tI|(refine⟨⟨_,rfl,?_⟩,?_⟩)|exact J0b.kf rfl|exact J0b.loc rfl|exact J0b.q)
     . repeat' (first|exact⟨rfl,rfl,rfl,fun i a=>by omega⟩|exact tI|(refine⟨⟨_,rfl,?_⟩,?_⟩)|exact J0b.kf rfl|apply And.intro)
 rintro m v ⟨z,y⟩;by_cases l:v<g.ids.length
 . refine Vq ?_;refine J0s J0c [2,3,7,8] [3] J3j [3,2,1,0] (fun x:Nat=>[(9,.vec 3 1 0 x),(10,.int .i64 ((x:Nat):Int))]) (fun own x=>(3,.vec x 1 (J3d (loP p g) v))::own) (fun m x=>m=p.vars.length-x/\x<=p.vars.length) p.vars.length 0 ⟨rfl,Qh _⟩ rfl (fun _=>rfl) ?_ ?_
   . refine J0d (fun _ _=>[(0,some 0),(1,some 1),(2,some 2),(3,none)]) ?_ ?_ rfl
     . repeat' (first|exact tI|(refine⟨⟨_,rfl,?_⟩,?_⟩)|exact J0b.kf rfl|exact J0b.loc rfl|exact J0b.q|exact J0b.nil rfl rfl)
     . repeat' (first|exact⟨rfl,rfl,tI,fun i a=>rfl,fun i j t a h c f=>vR_⟩|exact tI|(refine⟨⟨_,rfl,?_⟩,?_⟩)|exact J0b.kf rfl|(refine⟨⟨_,_,rfl⟩,?_⟩)|apply And.intro)
   rintro u x ⟨r,w⟩;by_cases d:x<p.vars.length
   . have A:=J32 p hp.ok g n hg v x (by omega) d;refine Vq ?_;refine⟨p.vars.length-(x+1),x+1,by omega,⟨rfl,by omega⟩,?_⟩;refine J0F (fun env own=>[(0,some 0),(1,some 1),(2,some 2),(3,Q2X env 9)]) ?_;intro i j a c
     first|exact⟨rfl,rfl,tI,fun i a=>rfl,fun i j t a h c f=>vR_⟩|exact J5u (J3d (loP p g) v) _ _ _ 1 rfl (fun j c=>by(obtain rfl:j=0:=by omega);exact vR_) _ _ a c
   . obtain rfl:x=p.vars.length:=by omega
     refine Vq ?_;refine⟨g.ids.length-(v+1),v+1,by omega,⟨rfl,by omega⟩,?_⟩;refine J3b.trans (J1M (J1q (q:=3) (k:=5) (i:=v) [] rfl rfl (by omega) (J0j rfl) (by simp[Q4Y]) rfl (fun j c=>(J0o (fun e=>c e.symm)).symm))) ?_ (X9Q rfl);refine J0d (fun _ _=>[(0,some 0),(1,some 1),(2,some 5)]) ?_ ?_ rfl
     . repeat' (first|exact tI|(refine⟨⟨_,rfl,?_⟩,?_⟩)|exact J0b.kf rfl|exact J0b.loc rfl|exact J0b.q)
     . repeat' (first|exact⟨rfl,rfl,tI,fun i a=>by simp[Q4Y,J83],fun i j t a h c f=>Q57 _ _ _ _ _⟩|exact tI|(refine⟨⟨_,rfl,?_⟩,?_⟩)|exact J0b.kf rfl|apply And.intro)
 . obtain rfl:v=g.ids.length:=by omega
   refine Vq ?_;exact J2R (fun _=>[(0,some 2)]) _ _ ⟨rfl,rfl⟩ (J0b.tup ⟨J0b.vec rfl rfl rfl,J0b.kf rfl,tI⟩) (by repeat' (first|(refine⟨rfl,rfl,tI,fun i a=>rfl,fun i j t a h c f=>vR_⟩)|exact tI|(refine⟨⟨_,rfl,?_⟩,?_⟩))) rfl
def opB (j:Nat):List (Nat×Nat):=if 0<j then[(j-1,3)] else[]
def lnB (p:Pr) (j:Nat):Nat:=if 0<j then p.vars.length else 0
theorem Q6p (p:Pr) (hp:Q4d p) (g:G) (I:g.Small) (hF:J1L p g) (hg:g.valid=true) (l:J1z p g<=32768) (k:Nat) (hk:k<J1z p g) :
 Ret Tryz.prog 27 [p.v,g.v,.int .i64 k] (cV (cfK p g k)):=by
 obtain⟨f1,f2,f3,f4,f5,f6,f7⟩:=J0e hg;have M:=hp.v6;have C:=Q6g p hp g I hF hg;refine rf fj27 ?_
 repeat' ((conv=>whnf);first|(refine Ar.q ?_)|(refine J3y [] [0] (C.mono ?_) ⟨J0b.kf rfl,J0b.kf rfl,tI⟩ tI rfl;rintro _ _ _ ⟨rfl,rfl⟩)|(refine Chk.mk rfl ?_))
 all_goals conv=>whnf
 refine J0s J0c [3,4,7] [3] J3j [3,2,1,0] (fun j:Nat=>[(2,.int .i64 (Q1j p g k (j*p.vars.length))),(9,.int .i64 ((j:Int)-1))]) (fun _ j=>[(3,.vec (lnB p j) 1 (J3d (J59 p g k (j*p.vars.length)) (j-1))),(2,J8U p g (J59 p g k (j*p.vars.length)) (opB j)),(1,.cells [.fz g.ids.length 1 false (vI g.ids),.fz g.ports.length 1 false (vP g.ports)]),(0,.cells [.str p.nm,p.pg.vs,p.pg.rs])]) (fun m j=>m=j/\j<=g.ids.length) g.ids.length g.ids.length ⟨rfl,Qd _⟩ rfl (fun _=>rfl) ?_ ?_
 . have u:=Q7y p g k;rw[nP] at u;have o:opB g.ids.length=[(g.ids.length-1,3)]:=Qe (by omega);have e2:lnB p g.ids.length=J83 p (g.ids.length-1):=Qe (by omega);simp only[o,e2];refine J3b.trans ?_ (J0Q (own:=[(2,J8U p g (J59 p g k (g.ids.length*p.vars.length)) []),(1,.cells [.fz g.ids.length 1 false (vI g.ids),.fz g.ports.length 1 false (vP g.ports)]),(0,.cells [.str p.nm,p.pg.vs,p.pg.rs])]) (ks:=J2z) (k:=2) (q:=3) (n:=g.ids.length) (s:=1) (i:=g.ids.length-1) (len:=J83 p) (f:=J3d (J59 p g k (g.ids.length*p.vars.length))) (op:=[]) rfl rfl rfl (show g.ids.length-1<g.ids.length by omega) rfl) (J2H rfl);refine J0d J1g ?_ ?_ rfl
   . repeat' (first|exact J0b.int (by rw[u])|exact tI|(refine⟨⟨_,rfl,?_⟩,?_⟩)|exact J0b.kf rfl|exact J0b.loc rfl|exact J0b.q)
   . repeat' (first|exact⟨rfl,rfl,tI,fun i b=>rfl,fun i j t b l c B=>vE_ (X6 (V.int .i64) (Q5W b c).symm)⟩|exact tI|(refine⟨⟨_,rfl,?_⟩,?_⟩)|exact J0b.kf rfl|apply And.intro)
 rintro m j ⟨O,c⟩;rcases Q4 j with K|K
 . subst K;have e:0*p.vars.length=0:=Zr _;have o:opB 0=[]:=Qb (by omega);simp only[o];refine Vq ?_
   all_goals exact X74 p g k _ (fun v x N L=>by rw[e];exact X1E N L)
 . obtain⟨v,rfl⟩:∃v,j=v+1:=⟨j-1,by omega⟩;have D:v<g.ids.length:=by omega
   have o:opB (v+1)=[(v,3)]:=Qe (by omega);have e2:lnB p (v+1)=J83 p v:=Qe (by omega);have U:v+1-1=v:=rfl;have P:J83 p v=p.vars.length:=rfl;simp only[o,e2,U]
   repeat' ((conv=>whnf);first|(refine Ix.w v ?_)|(refine Br.dec ?_ ?_<;>intro _<;>try omega)|(refine Ar.q ?_)|(refine Ltn.q ?_)|(refine Opn.hd (by omega) ?_))
   all_goals conv=>whnf
   refine J0s J0c [3,4,7,9] [] J3j [3,2,1,0] (fun i:Nat=>[(2,.int .i64 (Q1j p g k (v*p.vars.length+i))),(10,.int .i64 ((i:Int)-1))]) (fun _ i=>[(3,.vec (J83 p v) 1 (J3d (J59 p g k (v*p.vars.length+i)) v)),(2,J8U p g (J59 p g k (v*p.vars.length+i)) [(v,3)]),(1,.cells [.fz g.ids.length 1 false (vI g.ids),.fz g.ports.length 1 false (vP g.ports)]),(0,.cells [.str p.nm,p.pg.vs,p.pg.rs])]) (fun m i=>m=i/\i<=p.vars.length) p.vars.length p.vars.length ⟨rfl,Qd _⟩ rfl (fun _=>rfl) ?_ ?_
   . have e:(v+1)*p.vars.length=v*p.vars.length+p.vars.length:=by rw[Xc,Yy]
     refine J0d J1u ?_ ?_ rfl
     . repeat' (first|exact J0b.int (by rw[e])|exact J0b.int (by show((J83 p v:Nat):Int)-1=_;rfl)|exact tI|(refine⟨⟨_,rfl,?_⟩,?_⟩)|exact J0b.kf rfl|exact J0b.loc rfl|exact J0b.q)
     . repeat' (first|exact⟨rfl,rfl,⟨rfl,rfl,tI⟩,fun i b=>rfl,fun i j t b l c B=>by rw[e];exact vR_⟩|exact vE_ (by rw[e])|exact tI|(refine⟨⟨_,rfl,?_⟩,?_⟩)|exact J0b.kf rfl|(refine⟨Qd _,rfl,fun i j b c=>?_⟩)|apply And.intro)
   rintro m i ⟨O,b⟩;rcases Q4 i with C|C
   . subst C;refine Vq ?_;refine⟨_,v,by omega,⟨rfl,by omega⟩,?_⟩;refine J3b.trans (J1M (J1q (q:=3) (k:=2) (i:=v) [] rfl rfl (show v<g.ids.length by omega) (J0j rfl) (Qd _) rfl (fun j c=>(J0o (fun e=>c e.symm)).symm))) ?_ (X9Q rfl);have e:v*p.vars.length+0=v*p.vars.length:=Xx _;by_cases h:0<v
     . have H:opB v=[(v-1,3)]:=Qe h;have F:lnB p v=J83 p (v-1):=Qe h;simp only[H,F];refine J3b.trans ?_ (J0Q (own:=[(2,J8U p g (J59 p g k (v*p.vars.length)) []),(1,.cells [.fz g.ids.length 1 false (vI g.ids),.fz g.ports.length 1 false (vP g.ports)]),(0,.cells [.str p.nm,p.pg.vs,p.pg.rs])]) (ks:=J2z) (k:=2) (q:=3) (n:=g.ids.length) (s:=1) (i:=v-1) (len:=J83 p) (f:=J3d (J59 p g k (v*p.vars.length))) (op:=[]) rfl rfl rfl (show v-1<g.ids.length by omega) rfl) (J2H rfl);refine J0d J1g ?_ ?_ rfl
       . repeat' (first|exact J0b.int (by rw[e])|exact tI|(refine⟨⟨_,rfl,?_⟩,?_⟩)|exact J0b.int (by omega)|exact J0b.loc rfl|exact J0b.q)
       . repeat' (first|exact⟨rfl,rfl,tI,fun i b=>rfl,fun i j t b l c B=>(by rw[e];exact J3H _ _ _ _ _)⟩|exact tI|(refine⟨⟨_,rfl,?_⟩,?_⟩)|exact J0b.kf rfl|apply And.intro)
     . have H:opB v=[]:=Qb h;have F:lnB p v=0:=Qb h;simp only[H,F];refine J0d (fun _ _=>[(0,some 0),(1,some 1),(2,some 2),(3,none)]) ?_ ?_ rfl
       . repeat' (first|exact J0b.int (by rw[e])|exact tI|(refine⟨⟨_,rfl,?_⟩,?_⟩)|exact J0b.int (by omega)|exact J0b.loc rfl|exact J0b.q)
       . repeat' (first|exact⟨rfl,rfl,tI,fun i b=>rfl,fun i j t b l c B=>(by rw[e];exact J3H _ _ _ _ _)⟩|exact tI|(refine⟨⟨_,rfl,?_⟩,?_⟩)|exact J0b.kf rfl|(refine⟨⟨_,_,rfl⟩,?_⟩)|apply And.intro)
   . obtain⟨x,rfl⟩:∃x,i=x+1:=⟨i-1,by omega⟩;have a:x<p.vars.length:=by omega
     have T:=J32 p hp.ok g I hg v x (by omega) a;have o:((x+1:Nat):Int)-1=(x:Int):=by omega
     have e2:((v+1:Nat):Int)-1=(v:Int):=by omega
     have r:=J3X hp.ok g hF hg v a;have R:=X0g p g k v a;have S:=J4I hg (hp.ok.var x a) (hF x a) (v:=v) (by omega);have A:(bnd g (gV p.vars x) v).2=hiP p g v x:=rfl;have z:(bnd g (gV p.vars x) v).1=loP p g v x:=rfl;have E:J59 p g k (v*p.vars.length+x+1) v x=loP p g v x:=by rw[J59,Qe (by omega)];simp
     have y:((Q1j p g k (v*p.vars.length+(x+1)):Nat):Int).tmod ((bnd g (gV p.vars x) v).2-(bnd g (gV p.vars x) v).1+1)=(dgP p g k v x:Nat):=by
      rw[A,z,<- r,wrem (by have:=J2E p g 0;rw[szX];omega),<- X5l a];rfl
     have d:((Q1j p g k (v*p.vars.length+(x+1)):Nat):Int).tdiv ((bnd g (gV p.vars x) v).2-(bnd g (gV p.vars x) v).1+1)=(Q1j p g k (v*p.vars.length+x):Nat):=by
      rw[A,z,<- r,<- X1D D a];rfl
     have Q:Q1j p g k (v*p.vars.length+(x+1))<=k:=Ky _ _;have J:Q1j p g k (v*p.vars.length+x)<=k:=Ky _ _;simp only[o,e2]
     repeat' ((conv=>whnf);first|(refine Ix.w x ?_)|(refine Ix.w v ?_)|(refine Sv.mk _ y.symm ?_)|(refine Ar.i64 (by rw[d];omega) (by rw[d];omega) ?_;rw[d])|(refine Br.tt ?_)|(refine Ar.q ?_)|(refine Nz.mk (by omega) ?_)|(refine Ltn.q ?_)|(refine T.go ?_)|(refine Opn.hd (by omega) ?_))
     all_goals conv=>whnf
     refine⟨_,x,by omega,⟨rfl,by omega⟩,?_⟩;refine J0d J1u ?_ ?_ rfl
     . repeat' (first|exact tI|(refine⟨⟨_,rfl,?_⟩,?_⟩)|exact J0b.kf rfl|exact J0b.loc rfl|exact J0b.q)
     . repeat' (first|exact⟨rfl,rfl,⟨rfl,rfl,tI⟩,fun i b=>rfl,fun i j t b l c B=>X1C p g k v x i j t a c (fun e=>by rw[e,J0j rfl] at l;cases l)⟩|exact Q5V p g k v x _ _ _ (Qk _) c _ (by omega)|exact tI|(refine⟨⟨_,rfl,?_⟩,?_⟩)|exact J0b.kf rfl|(refine⟨Qd _,rfl,fun i j b c=>?_⟩)|apply And.intro)
theorem Q3I {s:Nat} {v:Nat} (a:v<32):X1p s v=s.testBit v:=by
 rw[X1p,Qn (by omega),Zm];rfl
theorem Q8o (s:Nat) (c:s<4294967296):Ret Tryz.prog 69 [.int .u32 s] (.int .i64 (cnt s 32)):=by
 refine rf fj69 ?_
 all_goals conv=>whnf
 refine J0h J0c [0] (fun i:Nat=>[(3,.int .i64 (cnt s i)),(4,.int .i64 i)]) (fun m i=>m=32-i/\i<=32) 32 0 ⟨rfl,by omega⟩ ?_ ?_
 . exact J0a J1A
 rintro m i ⟨d,f⟩;have g:=J4g s i;have a:=fun h=>Q3I (s:=s) (v:=i) h
 repeat' ((conv=>whnf);first|(refine Br.dec ?_ ?_<;>intro _<;>try omega)|(refine Ar.q ?_)|(refine(Q2k s c _).go ?_)|(refine Br.any (fun _=>?_) (fun _=>?_)))
 all_goals conv=>whnf
 . refine⟨32-(i+1),i+1,by omega,⟨rfl,by omega⟩,?_⟩;have b:cnt s (i+1)=cnt s i+1:=by rw[cnt,Qe (by rw[<- a (by omega)];assumption)]
   exact J0a J1A
 . refine⟨32-(i+1),i+1,by omega,⟨rfl,by omega⟩,?_⟩;have b:cnt s (i+1)=cnt s i:=by rw[cnt,Qb (by rw[<- a (by omega)];simp;assumption)]
   exact J0a J1A
 . have e:i=32:=by omega
   rw[<- e];exact vR_
theorem Q3l (s:Nat) (a:s<4294967296):Ret Tryz.prog 122 [.int .u32 s] (.int .u32 (J28 s)):=by
 refine rf Y58 ?_
 all_goals conv=>whnf
 refine J0h J0c [0] (fun i:Nat=>[(3,.int .i64 i)]) (fun m i=>m=32-i/\i<=32/\∀j,j<i->s.testBit j=false) 32 0 ⟨rfl,by omega,fun j d=>by omega⟩ ?_ ?_
 . exact J0a J1A
 rintro m i ⟨g,k,hz⟩;have b:=fun h=>Q3I (s:=s) (v:=i) h
 repeat' ((conv=>whnf);first|(refine Br.dec ?_ ?_<;>intro _<;>try omega)|(refine Ar.q ?_)|(refine Ar.sh1 (by omega) ?_)|(refine Ar.u64 (by omega) (by omega) ?_)|(refine Nn.mk (by omega) ?_)|(refine(Q2k s a _).go ?_)|(refine Br.any (fun _=>?_) (fun _=>?_)))
 all_goals conv=>whnf
 . have c:s.testBit i=true:=by rw[<- b (by omega)];assumption
   have f:s≠0:=fun e=>by subst e;simp at c
   refine VLe.int ?_;rw[J28,Qb f,Q6M (by omega) c hz]
 . refine⟨32-(i+1),i+1,by omega,⟨rfl,by omega,fun j d=>?_⟩,?_⟩
   . by_cases e:j=i
     . subst e;rw[<- b (by omega)];assumption
     . exact hz j (by omega)
   . exact J0a J1A
 . have e:s=0:=Q8 fun j=>by
    rw[Xm];by_cases h:j<32
    . exact hz j (by omega)
    . exact J09 a (by omega)
   subst e;exact vR_
theorem J3J (k:Int):Ret Tryz.prog 16 [.int .i64 k] (.bool (dk k)):=by
 refine rf fj16 ?_
 repeat' ((conv=>whnf);refine Br.dec ?_ ?_<;>intro _<;>try omega)
 all_goals conv=>whnf
 all_goals exact VLe.bool (by symm;rw[dk];first|(rw[Qa];omega)|(rw[Qo];omega))
def wi (a b:Int):Bool:=decide ((1<=a/\a<=4)/\(1<=b/\b<=4)/\(a=b\/b=3\/(a=1/\b=2)))
theorem X3b {k:Int}:dk k=false↔¬ (1<=k/\k<=4):=by rw[dk,Qo]
theorem Q6J (a b:Int):Ret Tryz.prog 9 [.int .i64 a,.int .i64 b] (.bool (wi a b)):=by
 have f:=J5W a;have e:=J5W b;refine rf fj9 ?_;cases d:dk a<;>cases c:dk b<;>rw[d] at f<;>rw[c] at e
 all_goals first|rw[J4f] at d|rw[X3b] at d
 all_goals first|rw[J4f] at c|rw[X3b] at c
 all_goals
  repeat' ((conv=>whnf);first|(refine Br.tt ?_)|(refine Br.ff ?_)|(refine Br.dec ?_ ?_<;>intro _<;>try omega)|(refine Br.bne ?_ ?_<;>intro _<;>try omega)|(refine f.go ?_)|(refine e.go ?_))
  all_goals conv=>whnf
  all_goals exact VLe.bool (by symm;rw[wi];first|(rw[Qa];omega)|(rw[Qo];omega))
theorem Q3m (a b:Int):Ret Tryz.prog 6 [.int .i64 a,.int .i64 b] (.bool (wi a b)):=by
 have f:=J3J a;have e:=J3J b;refine rf fj6 ?_;cases d:dk a<;>cases c:dk b<;>rw[d] at f<;>rw[c] at e
 all_goals first|rw[J4f] at d|rw[X3b] at d
 all_goals first|rw[J4f] at c|rw[X3b] at c
 all_goals
  repeat' ((conv=>whnf);first|(refine Br.tt ?_)|(refine Br.ff ?_)|(refine Br.dec ?_ ?_<;>intro _<;>try omega)|(refine f.go ?_)|(refine e.go ?_))
  all_goals conv=>whnf
  all_goals exact VLe.bool (by symm;rw[wi];first|(rw[Qa];omega)|(rw[Qo];omega))
theorem X4y {g:G} {v c:Nat}:nm (gR g.ports v) &&& c=0↔nbr g c v=false:=by
 rw[nbr,X2r,Kh];constructor
 . intro h l b a;have:=X6 (Nat.testBit · l.1.toNat) h;simp only[Xm,Xq,Q4O] at this;rw[a,Z6,Kh] at this;exact this l b (by simp)
 . intro h;apply Q8;intro u;rw[Xm,Xq,Q4O];cases e:c.testBit u with
   | false=>rw[Yb]
   | true =>
     rw[Z6,Kh];intro l b a;rw[Qa] at a;exact h l b (by rw[a];exact e)
theorem Q9G {g:G} (hg:g.valid=true) {c:Nat} (f:c<4294967296) (hp:J2D c (J1J g.ports.length)):g.indep c=ind g c:=by
 rw[Zc,G.indep,hg,Zm,ind,Qa,Qa,J6m hg,J05 f];have b:nb (nbr g c) g.ports.length &&& c=0↔∀v,v<g.ports.length->c.testBit v=true->nbr g c v=false:=by
  constructor
  . intro h v a d;have:=X6 (Nat.testBit · v) h;simp only[Xm,Xq,J6R] at this;simpa[a,d] using this
  . intro h;apply Q8;intro v;rw[Xm,Xq,J6R];cases e:c.testBit v with
    | false=>rw[Yb]
    | true=>rw[h v (J4v hp e) e];simp
 rw[b];constructor
 . rintro⟨_,h⟩ v a d;exact X4y.2 (h v a d)
 . intro h;exact⟨hp,fun v a d=>X4y.1 (h v a d)⟩
def G.choices (g:G) (k:Int) (e:Nat):List Nat×Int:=if g.valid=false then ([],1) else if dk k=false then ([],12) else if J0Z e (J1J g.ports.length)≠0 then ([],2) else chs g k e
def ltup (p:List Nat×Int):V:=.tup [lst p.1,.int .i64 p.2]
theorem Q52 (e:Nat) (he:e<4294967296):Ret Tryz.prog 70 [.int .u32 e] (lst (J8Y e (J28 e))):=by
 have y:=Q3l e he;refine rf fj70 ?_;refine Vq ?_;refine J0s J0c [0] [0] J5N [0] (fun p:Nat×List Nat=>[(4,.int .u32 p.1),(3,.vec 0 1 0 p.2.length)]) (fun own p=>(0,.vec p.2.length 1 (vU p.2))::own) (fun m p=>m=(if p.1=0 then 0 else 4294967297-p.1)/\J2D p.1 e/\p.2++J8Y e p.1=J8Y e (J28 e)/\p.2.length<=4294967296/\(p.1≠0->p.2.length<p.1)) _ (J28 e,[]) ⟨rfl,J1B he,rfl,by simp,fun h=>by simp only[List.length_nil];omega⟩ rfl (fun _=>rfl) ?_ ?_
 . exact J0a (fun _ _=>[(0,none)])
 rintro m ⟨s,n⟩ ⟨o,c,a,l,f⟩;simp only at o c a l f;have r:=c.le;by_cases b:s=0
 . refine Vq ?_;subst b;rw[J1O,Ym] at a;rw[<- a];exact J8b _
 . have d:=J3F he c b;have g:J3C .and .u32 (((4294967296+s-e) % 4294967296:Nat):Int) (e:Int)=(nxt e s:Nat):=by
    rw[J0P (Z5 _ (by omega)) he];rfl
   have x:nxt e s=0\/s<nxt e s:=by
    by_cases h:s=e
    . subst h;exact .inl (J34 he)
    . exact .inr (J6Q he c h)
   have k:=J14 e s;have t:=Q4K (s:=s) he;have u:=f b;rw[d] at a
   repeat' ((conv=>whnf);first|(refine Ar.sub32 (by omega) he ?_)|(refine Sv.mk _ g.symm ?_)|(refine Br.bne ?_ ?_<;>intro _<;>try omega)|(refine Br.nbeq ?_ ?_<;>intro _<;>try omega)|(refine Len.q ?_)|(refine Len.mk (by simp only[List.length_cons,List.length_nil];omega) ?_))
   all_goals conv=>whnf
   all_goals
    refine⟨_,(nxt e s,n++[s]),?_,⟨rfl,k,by rw[<- a];simp,by simp;omega,fun h=>by simp at h ⊢;omega⟩,?_⟩
    . simp only;rw[o,Qb b];split<;>omega
    . refine J0d (fun env own=>[(0,Q2X env 3)]) ?_ ?_ rfl
      . repeat' (first|exact J0b.vec rfl rfl (by rw[Ql];rfl)|exact tI|(refine⟨⟨_,rfl,?_⟩,?_⟩)|exact J0b.kf rfl)
      . repeat' (first|(refine⟨by rw[Ql];exact Qd _,rfl,fun i j w v=>?_⟩)|exact J5t _ _ _ rfl _ _ w v|exact tI|(refine⟨⟨_,rfl,?_⟩,?_⟩))
theorem Q1t:∀b,J3Z 0 b=[]
 | 0=>rfl
 | b+1=>by rw[J3Z,Qb (by simp),Q1t b]
theorem X0v:cnt 0 32=0:=J7w (fun i _=>by simp)
theorem Y1m (g:G) (k:Int) (e:Nat):chs g k e=if k=1 then (J3Z e 32,0) else if k=4 then (if e=0 then[] else[e],0) else if cnt e 32 > 10 then ([],3) else ((J8Y e (J28 e)).filter (okC g k e),0):=by
 rw[chs];by_cases h:e=0
 . subst h;rw[Qe rfl,Q1t,X0v,Qe rfl,show J28 0=0 from rfl,J1O];split
   . rfl
   . split<;>rfl
 . rw[Qb h,Qb h]
theorem Q7S {e n:Nat} (hp:J2D e (J1J n)) (a:n<=32):J3Z e n=J3Z e 32 :=
 (J5A a (fun j b _=>by
   cases h:e.testBit j with
   | false=>rfl
   | true=>have:=J4v hp h;omega)).symm
theorem Q3P {p:Nat->Bool} {l:List Nat} {i:Nat} (h:i<l.length):(l.take (i+1)).filter p=(l.take i).filter p++(if p (gN l i) then[gN l i] else[]):=by
 rw[Xn h,J9];congr 1;have:gN l i=l[i]:=by simp only[gN,List.getD,Qp h,Xp]
 rw[this];cases a:p l[i]<;>simp[List.filter,a]
theorem X4M {l:List Nat} {i:Nat} (h:i<l.length):gN l i∈l:=by
 simp only[gN,List.getD,Qp h];exact Xd h
theorem Q3n (g:G) (I:g.Small) (k:Int) (e:Nat) (he:e<4294967296):Ret Tryz.prog 29 [g.v,.int .i64 k,.int .u32 e] (ltup (g.choices k e)):=by
 have l:=J7N g I;have f:=J3J k;refine rf fj29 ?_;rw[G.choices];cases hg:g.valid with
 | false =>
   rw[hg] at l;rw[Qe rfl];refine Vq ?_
   all_goals exact VLe.tup ⟨VLe.nilfz rfl,vR_,tI⟩
 | true =>
   rw[hg] at l;rw[Qb (by simp)];obtain⟨f1,f2,f3,f4,f5,f6,f7⟩:=J0e hg;have o:=X6H g.ports.length (by omega);have hd:J3C .andNot .u32 (e:Int) (J1J g.ports.length:Nat)=((J0Z e (J1J g.ports.length):Nat):Int):=J2t he (Q1Y (fun _=>true) (k:=g.ports.length) (by omega));cases hk:dk k with
   | false =>
     rw[hk] at f;rw[Qe rfl];refine Vq ?_
     all_goals exact VLe.tup ⟨VLe.nilfz rfl,vR_,tI⟩
   | true =>
     rw[hk] at f;rw[Qb (by simp)];by_cases hz:J0Z e (J1J g.ports.length)=0
     case neg =>
      rw[Qe hz]
      repeat' ((conv=>whnf);first|(refine Sv.mk _ hd.symm ?_)|(refine Br.tt ?_)|(refine Br.bne ?_ ?_<;>intro _<;>try omega)|(refine l.go ?_)|(refine f.go ?_)|(refine o.go ?_))
      all_goals conv=>whnf
      all_goals exact VLe.tup ⟨VLe.nilfz rfl,vR_,tI⟩
     case pos =>
     rw[Qb (fun x=>x hz),Y1m];have hp:=(J05 he).1 hz;have a:J3C .andNot .u32 (e:Int) (J1J g.ports.length:Nat)=0:=by rw[hd,hz];rfl
     rw[J4f] at hk;by_cases A:k=1
     . rw[Qe A,<- Q7S hp (by omega)]
       repeat' ((conv=>whnf);first|(refine Sv.mk 0 a.symm ?_)|(refine Br.tt ?_)|(refine Br.ff ?_)|(refine Br.dec ?_ ?_<;>intro _<;>try omega)|(refine l.go ?_)|(refine f.go ?_)|(refine o.go ?_))
       all_goals conv=>whnf
       refine J0s J0c [2,3] [1] J1k [1,0] (fun b:Nat=>[(8,.vec 1 1 0 (J3Z e b).length),(9,.int .i64 b)]) (fun own b=>(1,.vec (J3Z e b).length 1 (vU (J3Z e b)))::own) (fun m b=>m=g.ports.length-b/\b<=g.ports.length) g.ports.length 0 ⟨rfl,by omega⟩ rfl (fun _=>rfl) ?_ ?_
       . exact J0a (fun _ _=>[(0,some 0),(1,none)])
       rintro m b ⟨P,U⟩;have O:=J7d e b;have d:=fun h=>Q3I (s:=e) (v:=b) h
       repeat' ((conv=>whnf);first|(refine Br.dec ?_ ?_<;>intro _<;>try omega)|(refine Br.nbeq ?_ ?_<;>intro _<;>try omega)|(refine Ar.q ?_)|(refine Ar.sh1 (by omega) ?_)|(refine Ar.u64 (by omega) (by omega) ?_)|(refine Nn.mk (by omega) ?_)|(refine Len.q ?_)|(refine(Q2k e he _).go ?_)|(refine Br.any (fun _=>?_) (fun _=>?_)))
       all_goals conv=>whnf
       all_goals first
        | (have n:J3Z e (b+1)=J3Z e b++[2 ^ b]:=Q1u (by rw[<- d (by omega)];assumption)
           refine⟨g.ports.length-(b+1),b+1,by omega,⟨rfl,by omega⟩,?_⟩;simp only[n];refine J0d (fun env own=>[(0,some 0),(1,Q2X env 8)]) ?_ ?_ rfl
           . repeat' (first|exact J0b.vec rfl rfl (by rw[Ql];rfl)|exact tI|(refine⟨⟨_,rfl,?_⟩,?_⟩)|exact J0b.kf rfl|exact J0b.loc rfl)
           . repeat' (first|(refine⟨by rw[Ql];exact Qd _,rfl,fun i j y B=>?_⟩)|exact J5t _ _ _ rfl _ _ y B|exact tI|(refine⟨⟨_,rfl,?_⟩,?_⟩)|exact J0b.kf rfl|apply And.intro))
        | (have n:J3Z e (b+1)=J3Z e b:=by rw[J3Z,Qb (by rw[<- d (by omega)];simp;assumption)]
           refine⟨g.ports.length-(b+1),b+1,by omega,⟨rfl,by omega⟩,?_⟩;simp only[n];exact J0a (fun env own=>[(0,some 0),(1,Q2X env 8)]))
        | (have T:b=g.ports.length:=by omega
           subst T;exact VLe.tup ⟨J8b _,vR_,tI⟩)
     rw[Qb A];by_cases C:k=4
     . rw[Qe C];by_cases N:e=0
       . rw[Qe N]
         repeat' ((conv=>whnf);first|(refine Sv.mk 0 a.symm ?_)|(refine Br.tt ?_)|(refine Br.ff ?_)|(refine Br.dec ?_ ?_<;>intro _<;>try omega)|(refine Br.bne ?_ ?_<;>intro _<;>try omega)|(refine l.go ?_)|(refine f.go ?_)|(refine o.go ?_))
         all_goals conv=>whnf
         all_goals exact VLe.tup ⟨VLe.nilfz rfl,vR_,tI⟩
       . rw[Qb N]
         repeat' ((conv=>whnf);first|(refine Sv.mk 0 a.symm ?_)|(refine Br.tt ?_)|(refine Br.ff ?_)|(refine Br.dec ?_ ?_<;>intro _<;>try omega)|(refine Br.bne ?_ ?_<;>intro _<;>try omega)|(refine Len.q ?_)|(refine l.go ?_)|(refine f.go ?_)|(refine o.go ?_))
         all_goals conv=>whnf
         all_goals
          refine VLe.tup ⟨VLe.fz rfl (fun h=>h) (fun i j y B=>?_),vR_,tI⟩;obtain rfl:i=0:=by omega
          obtain rfl:j=0:=by omega
          exact vR_
     rw[Qb C];have R:=J4g e 32;have z:=Q8o e he;by_cases M:cnt e 32 > 10
     . rw[Qe M]
       repeat' ((conv=>whnf);first|(refine Sv.mk 0 a.symm ?_)|(refine Br.tt ?_)|(refine Br.ff ?_)|(refine Br.dec ?_ ?_<;>intro _<;>try omega)|(refine l.go ?_)|(refine f.go ?_)|(refine o.go ?_)|(refine z.go ?_))
       all_goals conv=>whnf
       all_goals exact VLe.tup ⟨VLe.nilfz rfl,vR_,tI⟩
     rw[Qb M];have E:=Q52 e he;have u:=J1B he;have K:=Q0f he (e-J28 e) (J28 e) u (Qd _);have t:=J4p he (e-J28 e) (J28 e) u (Qd _);generalize J8Y e (J28 e)=L at *
     repeat' ((conv=>whnf);first|(refine Sv.mk 0 a.symm ?_)|(refine Br.tt ?_)|(refine Br.ff ?_)|(refine Br.dec ?_ ?_<;>intro _<;>try omega)|(refine l.go ?_)|(refine f.go ?_)|(refine o.go ?_)|(refine z.go ?_)|(refine E.go ?_))
     all_goals conv=>whnf
     refine J0s J0c [1,3,10] [1] J1k [1,0] (fun i:Nat=>[(8,.vec 1 1 0 ((L.take i).filter (okC g k e)).length),(11,.int .i64 i)]) (fun own i=>(1,.vec ((L.take i).filter (okC g k e)).length 1 (vU ((L.take i).filter (okC g k e))))::own) (fun m i=>m=L.length-i/\i<=L.length) L.length 0 ⟨rfl,by omega⟩ rfl (fun _=>rfl) ?_ ?_
     . exact J0a (fun _ _=>[(0,some 0),(1,none)])
     rintro m i ⟨P,y⟩;have Q:((L.take i).filter (okC g k e)).length<=i:=Zw (Y7 _ _) (by simp;omega);by_cases w:i<L.length
     . obtain⟨q1,q2,q3⟩:=t _ (X4M w);have q4:=q1.le;have J:=J80 g I (gN L i) (by omega);rw[J6m hg] at J;have F:=Q1Y (nbr g (gN L i)) (k:=g.ports.length) (by omega);have S:=J0P F (show gN L i<4294967296 by omega);have r:okC g k e (gN L i)=true↔k=3\/nb (nbr g (gN L i)) g.ports.length &&& gN L i=0:=by
        by_cases H:k=2
        . have:okC g k e (gN L i)=ind g (gN L i):=by rw[okC,Qb A,Qe H]
          rw[this,<- Q9G hg (by omega) (J21 q1 hp),G.indep,hg,Zm,Qa,J6m hg,J05 (by omega)];exact⟨fun h=>.inr h.2,fun h=>⟨J21 q1 hp,h.resolve_left (by omega)⟩⟩
        . have:okC g k e (gN L i)=true:=by rw[okC,Qb A,Qb H,Qb C]
          rw[this];exact⟨fun _=>.inl (by omega),fun _=>rfl⟩
       have c:=Q3P (p:=okC g k e) w
       repeat' ((conv=>whnf);first|(refine Sv.mk _ S.symm ?_)|(refine Br.dec ?_ ?_<;>intro _<;>try omega)|(refine Br.nbeq ?_ ?_<;>intro _<;>try omega)|(refine Ar.q ?_)|(refine Ix.q ?_)|(refine Len.q ?_)|(refine J.go ?_)|(refine And.intro rfl ?_))
       all_goals conv=>whnf
       all_goals
        refine⟨L.length-(i+1),i+1,by omega,⟨rfl,by omega⟩,?_⟩
        first
        | (have D:okC g k e (gN L i)=true:=r.2 (by omega)
           rw[D,Qe rfl] at c;simp only[c];refine J0d (fun env own=>[(0,some 0),(1,Q2X env 8)]) ?_ ?_ rfl
           . repeat' (first|exact J0b.vec rfl rfl (by rw[Ql];rfl)|exact tI|(refine⟨⟨_,rfl,?_⟩,?_⟩)|exact J0b.kf rfl|exact J0b.loc rfl)
           . repeat' (first|(refine⟨by rw[Ql];exact Qd _,rfl,fun i j y B=>?_⟩)|exact J5t _ _ _ rfl _ _ y B|exact tI|(refine⟨⟨_,rfl,?_⟩,?_⟩)|exact J0b.kf rfl|apply And.intro))
        | (have D:okC g k e (gN L i)=false:=by
            cases h:okC g k e (gN L i) with
            | false=>rfl
            | true=>have:=r.1 h;omega
           rw[D,Qb (by simp),Ym] at c;simp only[c];exact J0a (fun env own=>[(0,some 0),(1,Q2X env 8)]))
     . refine Vq ?_;rw[Qz (by omega)];exact VLe.tup ⟨J8b _,vR_,tI⟩
end Go.Proofs.YtcbnimaicgegfaaGreatDoor
namespace Go.Eng
open Go.Plain
theorem Q13 {α:Type} [DecidableEq α] (p q:α) (v:V):∀c:List (α×V),J00 (mput c p v) q=if p=q then some v else J00 c q
 | []=>by
   simp only[mput,J00]
 | (a,u)::r=>by
   rw[mput];by_cases h:a=p
   . rw[Qe h];by_cases b:p=q
     . rw[Qe b,J00,Qe (h.trans b)]
     . rw[Qb b,J00,J00,Qb (fun e=>b (h.symm.trans e)),Qb (fun e=>b (h.symm.trans e))]
   . rw[Qb h,J00,J00,Q13 p q v r];by_cases b:a=q
     . rw[Qe b,Qe b,Qb (fun e=>h (b.trans e.symm))]
     . rw[Qb b,Qb b]
instance instKySAny (l:List IntKind):DecidableEq (KyS l):=KyS.dec l
abbrev KP:List IntKind:=[.i64,.u32]
def kyP (p:Nat×Nat):KyT (.st KP):=((p.1:Int),(p.2:Int),())
theorem Q3F {p q:Nat×Nat} (h:kyP p=kyP q):p=q:=by
 have b:(p.1:Int)=q.1:=X6 (fun x:Int×Int×Unit=>x.1) h;have a:(p.2:Int)=q.2:=X6 (fun x:Int×Int×Unit=>x.2.1) h;exact J0 (by omega) (by omega)
def X26 (L:List (Nat×Nat)):List (KyT (.st KP)×V):=L.map fun p=>(kyP p,.bool true)
theorem X4P:∃f:List (Nat×Nat)->List (KyT (.st KP)×V),∀l,f l=X26 l:=⟨X26,fun _=>rfl⟩
noncomputable def enQ:List (Nat×Nat)->List (KyT (.st KP)×V):=Classical.choose X4P
theorem Q5n (l:List (Nat×Nat)):enQ l=X26 l:=Xj X4P l
theorem X7B:enQ []=[]:=by rw[Q5n];rfl
theorem Q2r (p:Nat×Nat):∀L:List (Nat×Nat),J00 (X26 L) (kyP p)=if p∈L then some (.bool true) else none
 | []=>by rw[Qb (by simp)];rfl
 | q::r=>by
   have a:=Q2r p r;show(if kyP q=kyP p then some (V.bool true) else J00 (X26 r) (kyP p))=_;by_cases h:q=p
   . subst h;rw[Qe rfl,Qe (by simp)]
   . rw[Qb (fun e=>h (Q3F e)),a];have:(p∈q::r)↔p∈r:=by
      rw[Qj];exact⟨fun e=>e.elim (fun e=>(h e.symm).elim) id,.inr⟩
     simp only[this]
theorem X20 (p:Nat×Nat) (L:List (Nat×Nat)):J00 (enQ L) (kyP p)=if p∈L then some (.bool true) else none:=by rw[Q5n,Q2r]
theorem Q4A {p:Nat×Nat}:∀{L:List (Nat×Nat)},p∉L->mput (X26 L) (kyP p) (.bool true)=X26 (L++[p])
 | [],_=>rfl
 | q::r,h=>by
   have b:q≠p:=fun e=>h (by simp[e]);have a:p∉r:=fun e=>h (by simp[e]);show(if kyP q=kyP p then (kyP q,V.bool true)::X26 r else (kyP q,V.bool true)::mput (X26 r) (kyP p) (.bool true))=_;rw[Qb (fun e=>b (Q3F e)),Q4A a];rfl
theorem Q8w {p:Nat×Nat} {L:List (Nat×Nat)} (h:p∉L):mput (enQ L) (kyP p) (.bool true)=enQ (L++[p]):=by rw[Q5n,Q5n,Q4A h]
def Tsy.aft (s:Tsy) (b:Nat) (a:Nat×Nat):Nat×Bool:=if J0Z b a.1 &&& s.en a.2=0 then (s.en a.2,true) else (J0Z b a.1 &&& s.en a.2,false)
theorem Tsy.aft_le (s:Tsy) (b:Nat) (a:Nat×Nat):(s.aft b a).1<=s.en a.2:=by
 rw[Tsy.aft];split
 . exact Qd _
 . exact Yv
structure J38 (s:Tsy) (lg:Nat->Bool) (m:Nat) (L:List (Nat×Nat)):Prop where
 nodup:L.Nodup
 ok:∀p∈L,p.1<s.n/\p.2<m
 leg:∀p∈L,lg p.1=false
theorem J38.nil (s:Tsy) (lg:Nat->Bool) (m:Nat):J38 s lg m []:=⟨.nil,fun p h=>(by cases h),fun p h=>(by cases h)⟩
theorem J38.snoc {s:Tsy} {lg:Nat->Bool} {m:Nat} {L:List (Nat×Nat)} (h:J38 s lg m L) {p:Nat×Nat} (hp:p.1<s.n/\p.2<m) (i:lg p.1=false) (g:p∉L):J38 s lg m (L++[p]):=by
 refine⟨?_,fun q d=>?_,fun q d=>?_⟩
 . rw[X4];exact⟨h.nodup,by simp,fun a j b f e=>g (by simp at f;rw[<- f,<- e];exact j)⟩
 . rcases Qr.1 d with c|c
   . exact h.ok q c
   . simp at c;subst c;exact hp
 . rcases Qr.1 d with c|c
   . exact h.leg q c
   . simp at c;subst c;exact i
theorem J38.len {s:Tsy} {lg:Nat->Bool} {m:Nat} {L:List (Nat×Nat)} (h:J38 s lg m L):L.length<=s.n*m:=Q8M h.nodup h.ok
def gP (l:List (Nat×Nat)) (i:Nat):Nat×Nat:=l.getD i (0,0)
def vPr (l:List (Nat×Nat)):Nat->Nat->V:=fun i j=>match j with
 | 0=>.int .i64 (gP l i).1
 | _+1=>.int .u32 (gP l i).2
theorem Q5a {l:List (Nat×Nat)} {i:Nat} (h:i<l.length):gP l i∈l:=by
 rw[gP,Q6,Qp h];exact Xd h
theorem X7n (l:List (Nat×Nat)) (a:Nat×Nat) (i:Nat) (h:i<l.length+1):gP (l++[a]) i=if i<l.length then gP l i else a:=by
 by_cases e:i<l.length
 . simp[gP,List.getD,e,Q3 e]
 . have:i=l.length:=by omega
   subst this;simp[gP,List.getD]
theorem Q4m (l:List (Nat×Nat)) (a:Nat×Nat) (F:Nat->Nat->V) (f:F 0 0=.int .i64 a.1) (d:F 0 1=.int .u32 a.2) (n i j:Nat) (b:n=l.length) (c:i<l.length+1) (g:j<2):VLe (J56 (J0m 0 (vPr l)) n (J0m 0 F) i j) (vPr (l++[a]) i j):=by
 apply vE_;subst b;have e:=X7n l a i c;by_cases h:i<l.length
 . rw[J19 h,J0l,Qk];rw[Qe h] at e;rcases j with _|j
   . show V.int .i64 _=V.int .i64 _;rw[e]
   . show V.int .u32 _=V.int .u32 _;rw[e]
 . rw[J2a h];rw[Qb h] at e;obtain rfl:i=l.length:=by omega
   rw[Ke,J0l];rcases j with _|_|j
   . show F 0 0=V.int .i64 _;rw[e,f]
   . show F 0 1=V.int .u32 _;rw[e,d]
   . omega
def uV (l:List Nat):V:=.fz l.length 1 false fun i _=>.int .u32 (gQ l i)
def J7m (F:Nat->List Nat):Nat->Nat:=fun t=>(F t).length
def X6C (F:Nat->List Nat):Nat->Nat->Nat->V:=fun t=>vQ (F t)
def J7A (F:Nat->List Nat) (t x:Nat):Nat->List Nat:=fun u=>if u=t then F u++[x] else F u
def X1m (b:Bool) (t q:Nat):List (Nat×Nat):=if b then[(t,q)] else[]
theorem Q0A (F:Nat->List Nat) (t x i:Nat):J7m (J7A F t x) i=if i=t then (F t).length+1 else J7m F i:=by
 rw[J7m,J7A];by_cases h:i=t
 . subst h;simp
 . rw[Qb h,Qb h];rfl
theorem Q5i {F b:Nat->List Nat} {t x n:Nat} (hF:b=J7A F t x) {g:Nat->Nat->V} (hg:∀j u,j<(F t).length+1->u<1->VLe (g j u) (vQ (F t++[x]) j u)) (ρ:Rn) :
 X8S ρ (.fam n 1 (J3G (J7m F) t ((F t).length+1)) (J4W (X6C F) t g) []) (.fam n 1 (J7m b) (X6C b) []):=by
 subst hF;refine⟨rfl,rfl,tI,fun i d=>?_,fun i j u d f a c=>?_⟩
 . rw[Q0A];rfl
 . simp only[J4W,X6C,J7A];simp only[J3G] at a;by_cases e:i=t
   . rw[Qe e,Qe e];rw[Qe e] at a;rw[e];exact hg j u a c
   . rw[Qb e,Qb e];exact vR_
theorem ksC {c:List Nat} {q:Nat} {chg:List Nat} (h:J1b q chg=true):∀k,k∈(q::c)->k∈c\/k∈chg:=fun k hk=>by
 rcases Qj.1 hk with e|e
 . exact .inr (by rw[e];exact J0k.1 h)
 . exact .inl e
theorem ksS {a b chg:List Nat} (h:(a.all fun k=>J1b k b)=true):∀k,k∈a->k∈b\/k∈chg:=fun k hk=>.inl (J0k.1 (Qy.1 h k hk))
def J2y (s:Tsy) (k i:Nat):Nat->List Nat:=fun t=>An.srcs k s.to t++List.replicate (((s.to k).take i).count t) k
theorem J9i (s:Tsy) (k t:Nat):J2y s k 0 t=An.srcs k s.to t:=by simp[J2y]
theorem Q7P (s:Tsy) (k t:Nat):J2y s k (s.ar k).length t=J2y s (k+1) 0 t:=by
 have h:(s.to k).take (s.ar k).length=s.to k:=Qz (by simp[Tsy.to]);rw[J9i,J2y,h,An.srcs,An.srcs,Yd,J6];simp
theorem Q53 (s:Tsy) (k i:Nat) (b:i<(s.ar k).length):J2y s k (i+1)=J7A (J2y s k i) (gA (s.ar k) i).2 k:=by
 funext t;have a:(s.to k).getD i 0=(gA (s.ar k) i).2:=by
  simp[Tsy.to,gA,Q6,Qp b]
 have c:=An.count_take_next (l:=s.to k) (q:=i) (by simpa[Tsy.to] using b) t;rw[a] at c;rw[J7A,J2y,J2y,c];by_cases h:t=(gA (s.ar k) i).2
 . subst h;rw[Qe rfl,Qe rfl,Q9,<- List.replicate_succ']
 . rw[Qb h,Qb (fun e=>h e.symm),Xx]
theorem Q0h (s:Tsy) (t:Nat):∀k,(An.srcs k s.to t).length<=s.tot k
 | 0=>Qd _
 | k+1=>by
   have d:=Q0h s t k;have c:An.srcs (k+1) s.to t=An.srcs k s.to t++List.replicate ((s.to k).count t) k:=by
    rw[An.srcs,An.srcs,Yd,J6];simp
   have f:=Vw (a:=t) (l:=s.to k);have e:(s.to k).length=(s.ar k).length:=by simp[Tsy.to]
   have b:s.tot (k+1)=s.tot k+(s.ar k).length:=rfl;rw[c,Ql,Vn,b];omega
theorem Q7Q {s:Tsy} (b:s.Ok) {k i:Nat} (hk:k<s.n) (d:i<=(s.ar k).length) (t:Nat):J7m (J2y s k i) t<=262144:=by
 have j:=Q0h s t k;have c:=J4o (fun k=>(s.ar k).length) (show k+1<=s.n by omega);have h:s.tot (k+1)=s.tot k+(s.ar k).length:=rfl;have g:=b.tot;change s.tot (k+1)<=s.tot s.n at c;have f:=Vw (a:=t) (l:=(s.to k).take i);have e:((s.to k).take i).length<=i:=List.length_take_le _ _;rw[J7m,J2y,Ql,Vn];omega
theorem Q3b (s:Tsy) (t:Nat):J2y s 0 0 t=[]:=by simp[J2y,An.srcs]
end Go.Eng
namespace Go.Plain
abbrev St:=Nat->Bool
def nbM (n:Nat) (a:Nat->Nat->Bool) (m:St) (v:Nat):Bool:=(List.range n).any fun u=>a v u&&m u
def enI (n:Nat) (a:Nat->Nat->Bool) (m:St) (v:Nat):Bool:=match m v with|true=>nbM n a m v|false=>!nbM n a m v
def stI (s m:St):St:=fun v=>match s v with|true=>!m v|false=>m v
variable {n:Nat} {a:Nat->Nat->Bool} {m s:St}
def left (n:Nat) (a:Nat->Nat->Bool) (m p s:St):St:=fun v=>p v&&!s v&&enI n a (stI s m) v
end Go.Plain
namespace Go.Proofs.YtcbnimaicgegfaaGreatDoor
open Go.Eng
set_option maxRecDepth 100000
open Go.Eng Go.Plain
theorem Q3Y {s n:Nat} (d:s≠0) (c:s<2 ^ n):1<=cnt s n:=by
 apply X7;intro f;apply d;have hz:cnt s n=0:=by omega
 have key:∀n,cnt s n=0->∀i,i<n->s.testBit i=false:=by
  intro n
  induction n with
  | zero=>intro _ i a;omega
  | succ n b =>
    intro h i a;rw[cnt] at h;cases e:s.testBit n with
    | true=>rw[e] at h;simp at h
    | false =>
      rw[e] at h;by_cases q:i=n
      . subst q;exact e
      . exact b (by simpa using h) i (by omega)
 refine Q8 fun i=>?_;rw[Xm];by_cases a:i<n
 . exact key n hz i a
 . exact Zz (Xu c (Xs (by omega) (by omega)))
section
variable {p:Pr} (hp:J2C p) {g:G} (hF:J1L p g) (hg:g.valid=true) {kd:Int} (hk:dk kd=true) {leg:Cf->Bool} {R M:Int} {Inv:Cf->Cnt->Prop} (hS:Srv p g kd leg R M Inv) (he:∀c,(chs g kd (enN p g c)).2=0)
include hp hF hg hk he
end
theorem Q81 {l:List Nat} {m:Nat} (c:l.Pairwise (·<·)) (h:∀a∈l,a<m):l.length<=m:=by
 have e:l.Nodup:=by
  rw[Jm];exact c.imp fun {a b} h=>Nat.ne_of_lt h
 have:=Zd e (fun a d=>Q7.2 (h a d));simpa using this
theorem X7R {p:Pr} {g:G} (hg:g.valid=true) {kd:Int} (hk:dk kd=true) (c:Cf):(chs g kd (enN p g c)).1.length<=2 ^ g.ids.length:=by
 have d:=J5l p hg c;have f:=Q5m p g c;refine Q81 (J9T d) fun a e=>?_;by_cases he:(chs g kd (enN p g c)).2=0
 . have h:=(J4G hk d (J3S d a e) he).1 e;obtain⟨_,b,_⟩:=J1D.1 h;exact X5 ((J05 (J3S d a e)).1 b).le f
 . rw[(X0C hk he).2.1] at e;cases e
theorem X5q {p:Pr} {g:G} (hg:g.valid=true) {kd:Int} (hk:dk kd=true):(J3t p g kd).tot (J1z p g)<=J1z p g*2 ^ g.ids.length:=by
 rw[Tsy.tot];refine Q7L _ _ (fun k=>?_) _;show(J5q p g kd k).length<=_;rw[J5q,Ye];exact X7R hg hk _
theorem X7L:∀{n e:Nat},e<2 ^ n->n<=32->cnt e 32<=n:=by
 intro n e h b;have a:(32:Nat)=n+(32-n):=by omega
 rw[a,J6A,Zu,Z9 h,J7w (fun i _=>Xm i)];have:=J4g e n;omega
theorem J4S {p:Pr} {g:G} (hg:g.valid=true) {kd:Int} (hk:dk kd=true) (a:g.ids.length<=10) (c:Cf):(chs g kd (enN p g c)).2=0:=by
 apply X7;intro h;have d:=(X0C hk h).2.2.1;have b:=X7L (Q5m p g c) (by omega);omega
def X8f (l:List (Nat×Nat)) (i:Nat):Nat:=if i=0 then 0 else (gA l (i-1)).1
theorem Q50 (e:Nat) (l:List (Nat×Nat)) (n:Nat) (he:e<16777216) (k:e≠0↔l≠[]) (r:l.Pairwise fun a b=>a.1<b.1) (v:∀a∈l,a.1≠0/\J2D a.1 e/\a.2<n) (x:n<=32768) (y:l.length<=262144) :
 Ret Tryz.prog 163 [.int .u32 e,arV l,.int .i64 n] (.bool true):=by
 have g:(e:Int).fdiv (2 ^ (min (24:Int).toNat IntKind.u32.bits))=0:=by
  have:(min (24:Int).toNat IntKind.u32.bits)=24:=by decide
  rw[this,J7r,Zu,Z9 (by omega)];rfl
 have c:e≠0↔0<l.length:=by rw[k,V0]
 have o:e=0->l.length=0:=fun h=>by
  rcases Q4 l.length with q|q
  . exact q
  . exact(c.2 q h).elim
 have t:l.length=0->e=0:=fun h=>X7 fun q=>by have:=c.1 q;omega
 refine rf Y5G ?_;have d:(e=0/\l.length=0)\/(e≠0/\0<l.length):=by
  rcases Q4 e with h|h
  . exact .inl ⟨h,o h⟩
  . exact .inr ⟨by omega,c.1 (by omega)⟩
 rcases d with ⟨w,e2⟩ | ⟨w,e2⟩
 . repeat' ((conv=>whnf);first|(refine Sv.mk 0 g.symm ?_)|(refine Br.ff ?_)|(refine Br.dec ?_ ?_<;>intro _<;>try omega)|(refine Br.bne ?_ ?_<;>intro _<;>try omega)|(refine Nn.mk (by omega) ?_))
   all_goals conv=>whnf
   refine J0h J0c [0,2,21,22] (fun i:Nat=>[(7,.int .u32 (X8f l i)),(23,.int .i64 i)]) (fun m i=>m=l.length-i/\i<=l.length) l.length 0 ⟨rfl,Qh _⟩ ?_ ?_
   . exact J0a J1A
   rintro m i ⟨s,u⟩;exact Wq
 . repeat' ((conv=>whnf);first|(refine Sv.mk 0 g.symm ?_)|(refine Br.ff ?_)|(refine Br.dec ?_ ?_<;>intro _<;>try omega)|(refine Br.bne ?_ ?_<;>intro _<;>try omega)|(refine Nn.mk (by omega) ?_))
   all_goals conv=>whnf
   refine J0h J0c [0,2,21,22] (fun i:Nat=>[(7,.int .u32 (X8f l i)),(23,.int .i64 i)]) (fun m i=>m=l.length-i/\i<=l.length) l.length 0 ⟨rfl,Qh _⟩ ?_ ?_
   . exact J0a J1A
   rintro m i ⟨s,u⟩;by_cases f:i<l.length
   . obtain⟨C,p,B⟩:=v _ (J4D f);have A:=p.le;have z:X8f l i<(gA l i).1:=by
      rw[X8f];split
      . omega
      . exact Y4o r (by omega) f
     have j:X8f l (i+1)=(gA l i).1:=by rw[X8f,Qb (by omega),Nat.add_sub_cancel]
     have hd:J3C .andNot .u32 ((gA l i).1:Int) (e:Int)=0:=by rw[J2t (by omega) (by omega),(J05 (by omega)).2 p];rfl
     generalize X8f l i=b at *
     repeat' ((conv=>whnf);first|(refine Sv.mk 0 hd.symm ?_)|(refine Br.ff ?_)|(refine Br.dec ?_ ?_<;>intro _<;>try omega)|(refine Ar.q ?_)|(refine Ix.q ?_))
     all_goals conv=>whnf
     refine⟨l.length-(i+1),i+1,by omega,⟨rfl,by omega⟩,?_⟩;simp only[j];exact J0a J1A
   . exact Wq
theorem Q7K (s:Tsy) (b:s.Ok):Ret Tryz.prog 110 [s.v] (.bool true):=by
 have f:=b.n1;have e:=b.n2;refine rf Y6j ?_;refine Vq ?_;refine J0h J0c [1,3,22] (fun k:Nat=>[(4,.int .i64 (s.tot k)),(23,.int .i64 k)]) (fun m k=>m=s.n-k/\k<=s.n) s.n 0 ⟨rfl,Qh _⟩ ?_ ?_
 . exact J0a J1v
 rintro m k ⟨h,hk⟩;by_cases a:k<s.n
 . have i:=Q50 (s.en k) (s.ar k) s.n (b.en k a) (b.ne k a) (b.sort k a) (b.arc k a) e (b.row a);have g:=b.tot;have d:=J4o (fun k=>(s.ar k).length) (show k+1<=s.n by omega);have c:s.tot (k+1)=s.tot k+(s.ar k).length:=rfl;change s.tot (k+1)<=s.tot s.n at d;generalize s.tot k=t at *;refine Vq ?_
   all_goals first
    | (exfalso;omega)
    | (refine⟨s.n-(k+1),k+1,by omega,⟨rfl,by omega⟩,?_⟩
       simp only[c];exact J0a J1v)
 . exact Wq
theorem Q2B (s:Tsy) (a:s.Ok) (lg:Nat->Bool):Ret Tryz.prog 48 [s.v,blV s.n lg] (.int .i64 0):=by
 have b:=a.n2;have c:=Q7K s a;refine rf fj48 ?_;exact Wq
set_option maxHeartbeats 16000000
theorem X81 (F:Nat->Nat->V) (l:List (Nat×Nat)) (n a b:Nat) (h:gA l n=(a,b)) (d:F 0 0=.int .u32 a) (c:F 0 1=.int .i64 b):∀j,j<2->VLe (F 0 j) (vAr l n j):=by
 intro j e;rcases (show j=0\/j=1 by omega) with rfl|rfl
 . rw[d];show VLe _ (.int .u32 (gA l n).1);rw[h];exact vR_
 . rw[c];show VLe _ (.int .i64 (gA l n).2);rw[h];exact vR_
theorem X3X (p:Pr) (g:G) (kd:Int) (k:Nat):(J5q p g kd k).length=(chs g kd (enN p g (cfK p g k))).1.length:=by rw[J5q,Ye]
theorem X3Y (p:Pr) (g:G) (kd:Int) (k i:Nat) (a:i<(chs g kd (enN p g (cfK p g k))).1.length):gA (J5q p g kd k) i=(gN (chs g kd (enN p g (cfK p g k))).1 i,rkC p g (J12 p g (cfK p g k) (gN (chs g kd (enN p g (cfK p g k))).1 i))):=by
 simp[gA,J5q,gN,List.getD,a]
theorem Q6O {g:G} (hg:g.valid=true) {kd:Int} (hk:dk kd=true) {e:Nat} (he:e<4294967296) (hp:J2D e (J1J g.ports.length)):g.choices kd e=chs g kd e:=by
 rw[G.choices,Qb (by rw[hg];simp),Qb (by rw[hk];simp),Qb];intro h;exact h ((J05 he).2 hp)
theorem Q8q (p:Pr) (hp:Q4d p) (g:G) (e:g.Small) (hF:J1L p g) (hg:g.valid=true) (kd:Int) (hk:dk kd=true) (x:J1z p g<=32768) (he:∀c,(chs g kd (enN p g c)).2=0) (Q:(J3t p g kd).tot (J1z p g)<=262144) :
 Ret Tryz.prog 13 [p.v,g.v,.int .i64 kd] (.tup [(J3t p g kd).v,.int .i64 0]):=by
 obtain⟨f1,f2,f3,f4,f5,f6,f7⟩:=J0e hg;have I:=hp.v6;have D:=Q1Q p hp g e hF hg;rw[X8M,Qe x] at D;have O:=J3J kd;rw[hk] at O;refine rf Y52 ?_;refine Vq ?_;refine J0s J0c [2,3,4,6,8,10] [4,5] X4G [5,4,3,2,1,0] (fun k:Nat=>[(11,.int .i64 ((J3t p g kd).tot k)),(12,.int .i64 k)]) (fun _ k=>[(5,.vec k 1 (X4c (J3t p g kd))),(4,.vec k 1 (vEn (J3t p g kd))),(3,.cells [.vec 4 1 0 k,.vec 5 1 0 k]),(2,.cells [.nilslice,.nilslice]),(1,.cells [.fz g.ids.length 1 false (vI g.ids),.fz g.ports.length 1 false (vP g.ports)]),(0,.cells [.str p.nm,p.pg.vs,p.pg.rs])]) (fun m k=>m=J1z p g-k/\k<=J1z p g) (J1z p g) 0 ⟨rfl,Qh _⟩ rfl (fun _=>rfl) ?_ ?_
 . exact J0a (fun _ _=>[(0,some 0),(1,some 1),(2,some 2),(3,some 3),(4,none),(5,none)])
 rintro m k ⟨R,L⟩;by_cases y:k<J1z p g
 . have o:=J7x hp.ok hF hg k;have X:=Q6p p hp g e hF hg x k y;have W:=Q3o p hp g e hF hg (cfK p g k) o;have d:=J5l p hg (cfK p g k);have N:=Q3n g e kd (enN p g (cfK p g k)) d;rw[Q6O hg hk d (J3x p hg _),ltup,he] at N;have t:=X3X p g kd k;have z:=X3Y p g kd k;have w:=J4o (fun k=>((J3t p g kd).ar k).length) (show k+1<=J1z p g by omega);change (J3t p g kd).tot (k+1)<=(J3t p g kd).tot (J1z p g) at w;have J:(J3t p g kd).tot (k+1)=(J3t p g kd).tot k+(chs g kd (enN p g (cfK p g k))).1.length:=by
    rw[<- t];rfl
   have r:∀s∈(chs g kd (enN p g (cfK p g k))).1,s<4294967296/\s≠0/\J2D s (enN p g (cfK p g k)):=fun s e=>by
    have D:=(J4G hk d (J3S d s e) (he _)).1 e;obtain⟨a,b,_⟩:=J1D.1 D;exact⟨J3S d s e,a,(J05 (J3S d s e)).1 b⟩
   have B:(J3t p g kd).en k=enN p g (cfK p g k):=rfl;have C:(J3t p g kd).ar k=J5q p g kd k:=rfl;generalize (chs g kd (enN p g (cfK p g k))).1=l at *;generalize M:cfK p g k=c at *;refine Vq ?_;refine J0s J0c [2,3,4,6,8,10,11,12,13,14,15] [6] J8g [6,5,4,3,2,1,0] (fun i:Nat=>[(17,.vec 6 2 0 i),(18,.int .i64 i)]) (fun own i=>(6,.vec i 2 (vAr (J5q p g kd k)))::own) (fun m i=>m=l.length-i/\i<=l.length) l.length 0 ⟨rfl,Qh _⟩ rfl (fun _=>rfl) ?_ ?_
   . exact J0a (fun _ _=>[(0,some 0),(1,some 1),(2,some 2),(3,some 3),(4,some 4),(5,some 5),(6,none)])
   rintro P i ⟨K,n⟩;by_cases u:i<l.length
   . obtain⟨H,F,E⟩:=r _ (X4M u);have A:=z i u;have V:=X1Z p hp g e hF hg c o (gN l i) H F E;have U:=Q6f p hp g e hF hg x (J12 p g c (gN l i)) (J25 hp.ok hF hg o E);refine Vq ?_;refine⟨l.length-(i+1),i+1,by omega,⟨rfl,by omega⟩,?_⟩;refine J0F (fun env own=>[(0,some 0),(1,some 1),(2,some 2),(3,some 3),(4,some 4),(5,some 5),(6,Q2X env 17)]) ?_;intro i j n f;exact J5u (vAr (J5q p g kd k)) _ _ _ 2 rfl (X81 _ _ _ _ _ A rfl rfl) _ _ n f
   . obtain rfl:i=l.length:=by omega
     refine Vq ?_;refine⟨J1z p g-(k+1),k+1,by omega,⟨rfl,by omega⟩,?_⟩;refine J0d (fun env own=>[(0,some 0),(1,some 1),(2,some 2),(3,some 3),(4,Q0S own 3 0),(5,Q0S own 3 1)]) ?_ ?_ rfl
     . repeat' (first|exact tI|(refine⟨⟨_,rfl,?_⟩,?_⟩)|exact J0b.kf rfl|exact J0b.int (by omega)|exact J0b.loc rfl)
     . repeat' (first|exact J5u (vEn (J3t p g kd)) _ _ _ 1 rfl (fun j f=>by(obtain rfl:j=0:=by omega);rw[vEn,B];exact vR_) _ _ n f|exact J5u (X4c (J3t p g kd)) _ _ _ 1 rfl (fun j f=>by(obtain rfl:j=0:=by omega);rw[X4c,C];exact VLe.fz t.symm (fun h=>h) (fun a b T S=>vE_ (by rw[J0l,Qk]))) _ _ n f|exact tI|(refine⟨⟨_,rfl,?_⟩,?_⟩)|exact J0b.kf rfl|exact J0b.q|(refine⟨Qd _,rfl,fun i j n f=>?_⟩)|apply And.intro)
 . obtain rfl:k=J1z p g:=by omega
   refine Vq ?_;refine VLe.tup ⟨VLe.agg ⟨VLe.fz rfl (fun h=>h) (fun i j n f=>vE_ ?_),VLe.fz rfl (fun h=>h) (fun i j n f=>vE_ ?_),tI⟩,vR_,tI⟩
   . rw[J0l,Qk]
   . rw[J0l,Qk]
end Go.Proofs.YtcbnimaicgegfaaGreatDoor
namespace Go.Proofs.YtcbnimaicgegfaaGreatDoor
open Go.Eng
set_option maxRecDepth 100000
abbrev Pt:=List (List (Int×Int))
def toN (p:Pt) (v i:Nat):Nat:=(gF (gR p v) i).1.toNat
def lay (p:Pt) (f:Nat):Nat->Nat->Int
 | 0,v=>if v=f then 0 else -1
 | k+1,v=>if 0<=lay p f k v then lay p f k v else if (gR p v).any (fun l=>decide (lay p f k l.1.toNat=k)) then (k:Int)+1 else -1
structure BI (p:Pt) (f:Nat) (q:List Nat) (r:List Int):Prop where
 len:r.length=p.length
 low:∀v,v<p.length->-1<=gI r v
 from_:gI r f=0
 back:∀v,v<p.length->v≠f->0<=gI r v->∃l∈gR p v,gI r l.1.toNat=gI r v-1/\0<=gI r l.1.toNat
 qn:∀u∈q,u<p.length/\0<=gI r u
 sorted:q.Pairwise fun a b=>gI r a<=gI r b
structure BP (p:Pt) (f v i:Nat) (q:List Nat) (r:List Int):Prop extends BI p f q r where
 vn:v<p.length/\0<=gI r v
 most:∀x,x<p.length->gI r x<=gI r v+1
 least:∀u∈q,gI r v<=gI r u
 done:∀x,x<p.length->0<=gI r x->x∉q->x≠v->∀l∈gR p x,0<=gI r l.1.toNat/\gI r l.1.toNat<=gI r x+1
 seen:∀l∈(gR p v).take i,0<=gI r l.1.toNat
theorem BP.skip {p:Pt} {f v i:Nat} {q:List Nat} {r:List Int} (h:BP p f v i q r) (c:i<(gR p v).length) (d:0<=gI r (toN p v i)):BP p f v (i+1) q r where
 toBI:=h.toBI
 vn:=h.vn
 most:=h.most
 least:=h.least
 done:=h.done
 seen:=fun l b=>by
  rw[J18 _ i c] at b;rcases Qr.1 b with a|a
  . exact h.seen l a
  . simp at a;rw[a];exact d
def dst (g:G) (f:Nat):List Int:=(List.range g.ports.length).map (lay g.ports f (g.ports.length-1))
end Go.Proofs.YtcbnimaicgegfaaGreatDoor
