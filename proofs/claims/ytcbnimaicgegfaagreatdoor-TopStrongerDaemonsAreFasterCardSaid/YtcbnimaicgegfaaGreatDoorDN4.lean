import Derived.Test.YtcbnimaicgegfaaGreatDoorTP8
set_option linter.all false
namespace Go.Proofs.YtcbnimaicgegfaaGreatDoor
open Go.Eng
set_option maxRecDepth 100000
set_option maxHeartbeats 16000000
structure J2X (p:RP):Prop where
 nm:p.nm.size<=40
 vl:p.vars.length<=10
 rl:p.rules.length<=16
 vn:∀i,i<p.vars.length->(gV p.vars i).name.size<=40
 rn:∀i,i<p.rules.length->(gRr p.rules i).nm.size<=40
 sl:∀i,i<p.rules.length->(gRr p.rules i).sets.length<=10
 gl:∀i,i<p.rules.length->(gRr p.rules i).gd.length<=250
 el:∀i,i<p.rules.length->∀j,j<(gRr p.rules i).sets.length->(gSr (gRr p.rules i).sets j).2.length<=250
theorem J4u (v a b:Int):Ret Tryz.prog 198 [.int .i64 v,.int .i64 a,.int .i64 b] (.bool (decide (a<=v/\v<=b))):=by
 refine rf Y5g ?_
 repeat' ((conv=>whnf);refine Br.dec ?_ ?_<;>intro _<;>try omega)
 all_goals conv=>whnf
 all_goals exact VLe.bool (by symm;first|(rw[Qa];omega)|(rw[Qo];omega))
theorem Q8e (k:Int):Ret Tryz.prog 231 [.int .i64 k] (.bool (decide (k=1\/k=2\/k=3))):=by
 refine rf Y4R ?_
 repeat' ((conv=>whnf);refine Br.dec ?_ ?_<;>intro _<;>try omega)
 all_goals conv=>whnf
 all_goals exact VLe.bool (by symm;first|(rw[Qa];omega)|(rw[Qo];omega))
theorem Q3j (x:Vr):Ret Tryz.prog 200 [vrV x] (.bool (Q4L x)):=by
 have f:=Q8e x.kind;have e:=J4u x.lo 0 4096;have d:=J4u x.pn 0 255;have c:=J4u x.pid 0 255;have b:=J4u x.hi 0 4096;have a:=J4u x.hi (-4096) 4096;refine rf Y5e ?_;by_cases hk:x.kind=1
 . rw[Q4L,Qe hk]
   repeat' ((conv=>whnf);first|(refine Br.dec ?_ ?_<;>intro _<;>try omega)|(refine Br.bne ?_ ?_<;>intro _<;>try omega)|(refine e.go ?_)|(refine d.go ?_)|(refine c.go ?_)|(refine b.go ?_)|(refine a.go ?_))
   all_goals conv=>whnf
   all_goals exact VLe.bool (by symm;first|(rw[Qa];omega)|(rw[Qo];omega))
 . rw[Q4L,Qb hk]
   repeat' ((conv=>whnf);first|(refine Br.dec ?_ ?_<;>intro _<;>try omega)|(refine Br.bne ?_ ?_<;>intro _<;>try omega)|(refine f.go ?_))
   all_goals conv=>whnf
   all_goals exact VLe.bool (by symm;first|(rw[Qa];omega)|(rw[Qo];omega))
def dnB (f:Nat->ByteArray) (i:Nat):Bool:=(List.range i).all fun k=>!(f k == f i)
def X2n (f:Nat->ByteArray) (n:Nat):Bool:=(List.range n).all fun i=>dnB f i&&J2m (f i)
def vnm (p:RP) (i:Nat):ByteArray:=(gV p.vars i).name
def rnm (p:RP) (i:Nat):ByteArray:=(gRr p.rules i).nm
def Q0w (p:RP):Bool:=J2m p.nm&&(X2n (vnm p) p.vars.length&&X2n (rnm p) p.rules.length)
theorem Q8a (p:RP) (hp:J2X p):Ret Tryz.prog 199 [p.v] (.bool (Q0w p)):=by
 have r:=Q0l p.nm (by have:=hp.nm;omega);have t:=hp.vl;have u:=hp.rl;refine rf Y5f ?_;cases e:J2m p.nm with
 | false =>
   rw[e] at r;have:Q0w p=false:=by rw[Q0w,e];rfl
   rw[this];exact Wq
 | true =>
 rw[e] at r;refine Vq ?_;refine J0h J0c [1] (fun i:Nat=>[(3,.int .i64 ((i:Nat):Int))]) (fun m i=>m=p.vars.length-i/\i<=p.vars.length/\X2n (vnm p) i=true) p.vars.length 0 ⟨rfl,Qh _,rfl⟩ ?_ ?_
 . exact J0a J1v
 rintro m i ⟨w,x,g⟩;by_cases c:i<p.vars.length
 . have l:=Q0l (vnm p i) (by have:=hp.vn i c;show(gV p.vars i).name.size<=_;omega);refine Vq ?_;refine J0h J0c [1,3] (fun k:Nat=>[(4,.int .i64 ((k:Nat):Int))]) (fun m k=>m=i-k/\k<=i/\(List.range k).all (fun k=>!(vnm p k == vnm p i))=true) i 0 ⟨rfl,Qh _,rfl⟩ ?_ ?_
   . exact J0a J1v
   rintro s k ⟨o,hk,a⟩;by_cases h:k<i
   . cases b:(vnm p k == vnm p i) with
     | true =>
       have:Q0w p=false:=by
        have f:dnB (vnm p) i=false:=J13 (p:=fun k=>!(vnm p k == vnm p i)) h (by simp only[b];rfl);have j:X2n (vnm p) p.vars.length=false:=J13 (p:=fun i=>dnB (vnm p) i&&J2m (vnm p i)) c (by simp only[f];rfl);rw[Q0w,j];simp
       rw[this]
       repeat' ((conv=>whnf);first|(refine tbT (by exact b) ?_)|(refine Br.dec ?_ ?_<;>intro _<;>try omega)|(refine Ix.q ?_))
       all_goals conv=>whnf
       exact vR_
     | false =>
       repeat' ((conv=>whnf);first|(refine tbF (by exact b) ?_)|(refine Br.dec ?_ ?_<;>intro _<;>try omega)|(refine Ar.q ?_)|(refine Ix.q ?_))
       all_goals conv=>whnf
       refine⟨i-(k+1),k+1,by omega,⟨rfl,by omega,J1H (n:=0) a (by simp only[b];rfl)⟩,?_⟩;exact J0a J1v
   . obtain rfl:k=i:=by omega
     have f:dnB (vnm p) k=true:=a;cases b:J2m (vnm p k) with
     | true =>
       rw[b] at l;refine Vq ?_;refine⟨p.vars.length-(k+1),k+1,by omega,⟨rfl,by omega,J1H (n:=0) g (by simp only[f,b];rfl)⟩,?_⟩;exact J0a J1v
     | false =>
       rw[b] at l;have:Q0w p=false:=by
        have j:X2n (vnm p) p.vars.length=false:=J13 (p:=fun i=>dnB (vnm p) i&&J2m (vnm p i)) c (by simp only[f,b];rfl);rw[Q0w,j];simp
       rw[this];exact Wq
 obtain rfl:i=p.vars.length:=by omega
 refine Vq ?_;refine J0h J0c [1] (fun i:Nat=>[(5,.int .i64 ((i:Nat):Int))]) (fun m i=>m=p.rules.length-i/\i<=p.rules.length/\X2n (rnm p) i=true) p.rules.length 0 ⟨rfl,Qh _,rfl⟩ ?_ ?_
 . exact J0a J1v
 rintro m i ⟨w,x,d⟩;by_cases c:i<p.rules.length
 . have l:=Q0l (rnm p i) (by have:=hp.rn i c;show(gRr p.rules i).nm.size<=_;omega);refine Vq ?_;refine J0h J0c [1,5] (fun k:Nat=>[(6,.int .i64 ((k:Nat):Int))]) (fun m k=>m=i-k/\k<=i/\(List.range k).all (fun k=>!(rnm p k == rnm p i))=true) i 0 ⟨rfl,Qh _,rfl⟩ ?_ ?_
   . exact J0a J1v
   rintro s k ⟨o,hk,a⟩;by_cases h:k<i
   . cases b:(rnm p k == rnm p i) with
     | true =>
       have:Q0w p=false:=by
        have f:dnB (rnm p) i=false:=J13 (p:=fun k=>!(rnm p k == rnm p i)) h (by simp only[b];rfl);have j:X2n (rnm p) p.rules.length=false:=J13 (p:=fun i=>dnB (rnm p) i&&J2m (rnm p i)) c (by simp only[f];rfl);rw[Q0w,j];simp
       rw[this]
       repeat' ((conv=>whnf);first|(refine tbT (by exact b) ?_)|(refine Br.dec ?_ ?_<;>intro _<;>try omega)|(refine Ix.q ?_))
       all_goals conv=>whnf
       exact vR_
     | false =>
       repeat' ((conv=>whnf);first|(refine tbF (by exact b) ?_)|(refine Br.dec ?_ ?_<;>intro _<;>try omega)|(refine Ar.q ?_)|(refine Ix.q ?_))
       all_goals conv=>whnf
       refine⟨i-(k+1),k+1,by omega,⟨rfl,by omega,J1H (n:=0) a (by simp only[b];rfl)⟩,?_⟩;exact J0a J1v
   . obtain rfl:k=i:=by omega
     have f:dnB (rnm p) k=true:=a;cases b:J2m (rnm p k) with
     | true =>
       rw[b] at l;refine Vq ?_;refine⟨p.rules.length-(k+1),k+1,by omega,⟨rfl,by omega,J1H (n:=0) d (by simp only[f,b];rfl)⟩,?_⟩;exact J0a J1v
     | false =>
       rw[b] at l;have:Q0w p=false:=by
        have j:X2n (rnm p) p.rules.length=false:=J13 (p:=fun i=>dnB (rnm p) i&&J2m (rnm p i)) c (by simp only[f,b];rfl);rw[Q0w,j];simp
       rw[this];exact Wq
 obtain rfl:i=p.rules.length:=by omega
 have:Q0w p=true:=by rw[Q0w,e,g,d];rfl
 rw[this];exact Wq
abbrev Ps:=List (List (Int×Int))
def lenP (p:Ps) (i:Nat):Nat:=(gR p i).length
def rowP (p:Ps) (i:Nat):Nat->Nat->V:=vF (gR p i)
abbrev famP (p:Ps):Blk:=.fam p.length 2 (lenP p) (rowP p) []
theorem Q49 (p:Ps) (a:Nat) (A:List (Int×Int)) (b:a<p.length) (i:Nat):gR (p.set a A) i=if i=a then A else gR p i:=by
 simp only[gR,List.getD,Jr];by_cases h:a=i
 . subst h;simp[b]
 . have:¬ i=a:=fun e=>h e.symm;simp[h,this]
theorem Q6c {p:Ps} {a b:Nat} (k:a<p.length) (h:b<p.length) (o:a≠b) {A B:List (Int×Int)} {m l:Nat->Nat->V} {f d:Nat} (u:A.length=f) (s:B.length=d)
 (r:∀j t,j<f->t<2->VLe (m j t) (vF A j t)) (q:∀j t,j<d->t<2->VLe (l j t) (vF B j t)) (ρ:Rn) :
 X8S ρ (.fam p.length 2 (J3G (J3G (lenP p) a f) b d) (J4W (J4W (rowP p) a m) b l) []) (famP ((p.set a A).set b B)):=by
 refine⟨by simp,rfl,tI,fun i n=>?_,fun i j t n v c g=>?_⟩
 . show(gR ((p.set a A).set b B) i).length=_;rw[Q49 _ b B (by simpa using h),Q49 p a A k];simp only[J3G];split
   . exact s
   . split
     . exact u
     . rfl
 . simp only[J3G] at c;show VLe _ (vF (gR ((p.set a A).set b B) i) j t);rw[Q49 _ b B (by simpa using h),Q49 p a A k];simp only[J4W];split
   . rename_i e;rw[Qe e] at c;exact q j t c g
   . rename_i e;rw[Qb e] at c;split
     . rename_i e;rw[Qe e] at c;exact r j t c g
     . exact vR_
def rrV (r:RR):V:=.agg [.str r.nm,vTr r.gd,.fz r.sets.length 2 false (vSr r.sets)]
structure X8y (r:RR):Prop where
 sl:r.sets.length<=10
 gl:r.gd.length<=250
 el:∀j,j<r.sets.length->(gSr r.sets j).2.length<=250
theorem J2X.rule {p:RP} (h:J2X p) {i:Nat} (a:i<p.rules.length):X8y (gRr p.rules i):=⟨h.sl i a,h.gl i a,h.el i a⟩
theorem Q6i (r:RR) (f:X8y r) (a:Nat) (v:a<=10):Ret Tryz.prog 201 [rrV r,.int .i64 a] (.bool (J3P a r)):=by
 have o:=J4u (r.sets.length:Int) 1 6;have l:=J7P r.gd a (by have:=f.gl;omega);have s:=f.sl;refine rf Y5d ?_;by_cases q1:1<=r.sets.length/\r.sets.length<=6
 . rw[Qn (by omega)] at o;cases q2:exB a r.gd with
   | false =>
     rw[q2] at l;have:J3P a r=false:=by rw[J3P,q2];simp
     rw[this];exact Wq
   | true =>
     rw[q2] at l;refine Vq ?_;refine J0h J0c [1,2] (fun i:Nat=>[(5,.int .i64 ((i:Nat):Int))]) (fun m i=>m=r.sets.length-i/\i<=r.sets.length/\(List.range i).all (X1T a r.sets)=true) r.sets.length 0 ⟨rfl,Qh _,rfl⟩ ?_ ?_
     . exact J0a J1v
     rintro m i ⟨w,x,c⟩;by_cases e:i<r.sets.length
     . have j:=J4u (gSr r.sets i).1 0 ((a:Int)-1);have h:=J7P (gSr r.sets i).2 a (by have:=f.el i e;omega);have d:X1T a r.sets i=false->J3P a r=false:=fun q=>by
        have:=J13 (p:=X1T a r.sets) e q;rw[J3P,this];simp
       by_cases q3:0<=(gSr r.sets i).1/\(gSr r.sets i).1<a
       . rw[Qn (by omega)] at j;cases q4:exB a (gSr r.sets i).2 with
         | false =>
           rw[q4] at h;rw[d (by rw[X1T,q4];simp)];exact Wq
         | true =>
           rw[q4] at h;refine Vq ?_;refine J0h J0c [1,2,5] (fun k:Nat=>[(6,.int .i64 ((k:Nat):Int))]) (fun m k=>m=i-k/\k<=i/\(List.range k).all (fun k=>!decide ((gSr r.sets k).1=(gSr r.sets i).1))=true) i 0 ⟨rfl,Qh _,rfl⟩ ?_ ?_
           . exact J0a J1v
           rintro u k ⟨t,hk,b⟩;by_cases g:k<i
           . by_cases q5:(gSr r.sets k).1=(gSr r.sets i).1
             . rw[d (by
                have:=J13 (p:=fun k=>!decide ((gSr r.sets k).1=(gSr r.sets i).1)) g (by simp[q5]);rw[X1T,this];simp)]
               exact Wq
             . refine Vq ?_;refine⟨i-(k+1),k+1,by omega,⟨rfl,by omega,J1H (n:=0) b (by simp[q5])⟩,?_⟩;exact J0a J1v
           . obtain rfl:k=i:=by omega
             refine Vq ?_;refine⟨r.sets.length-(k+1),k+1,by omega,⟨rfl,by omega,J1H (n:=0) c (by rw[X1T,Qn q3,q4,b];rfl)⟩,?_⟩;exact J0a J1v
       . rw[Qm (by omega)] at j;rw[d (by rw[X1T,Qm q3];simp)];exact Wq
     . obtain rfl:i=r.sets.length:=by omega
       have:J3P a r=true:=by rw[J3P,Qn q1,q2,c];rfl
       rw[this];exact Wq
 . rw[Qm (by omega)] at o;have:J3P a r=false:=by rw[J3P,Qm q1];simp
   rw[this];exact Wq
theorem J2p {a:Nat} {r:RR} (h:J3P a r=true):(1<=r.sets.length/\r.sets.length<=6)/\exB a r.gd=true/\∀i,i<r.sets.length->(0<=(gSr r.sets i).1/\(gSr r.sets i).1<a)/\exB a (gSr r.sets i).2=true/\∀k,k<i->(gSr r.sets k).1≠(gSr r.sets i).1:=by
 simp only[J3P,Qg,Qa,Qy,Q7] at h;refine⟨h.1.1,h.1.2,fun i b=>?_⟩;have:=h.2 i b;simp only[X1T,Qg,Qa,Qy,Q7] at this;exact⟨this.1.1,this.1.2,fun k hk e=>by have:=this.2 k hk;simp[e] at this⟩
theorem Q1I (e:Lt2) (kinds:List Int) (he:e.length<=100000) (b:exB kinds.length e=true):Ret Tryz.prog 233 [vTr e,.int .i64 0,kiV kinds,.bool false] (.int .i64 (kdE kinds e)):=by
 obtain⟨t,a,rfl,f,hd,d,c⟩:=J6y b;have:=J30 t.enc he kinds t false 0 [] a c (by simp);rw[kdE,J7b a];exact this
theorem Q72 (r:RR) (c:X8y r) (kinds:List Int) (e:J3P kinds.length r=true):Ret Tryz.prog 202 [rrV r,kiV kinds] (.bool (Q2T kinds r)):=by
 obtain⟨f1,f2,f3⟩:=J2p e;have h:=Q1I r.gd kinds (by have:=c.gl;omega) f2;refine rf Y5c ?_;by_cases q1:kdE kinds r.gd=2
 . refine Vq ?_;refine J0h J0c [1,2] (fun i:Nat=>[(5,.int .i64 ((i:Nat):Int))]) (fun m i=>m=r.sets.length-i/\i<=r.sets.length/\(List.range i).all (fun i=>decide (kdE kinds (gSr r.sets i).2=gI kinds (gSr r.sets i).1.toNat))=true) r.sets.length 0 ⟨rfl,Qh _,rfl⟩ ?_ ?_
   . exact J0a J1v
   rintro m i ⟨f,g,a⟩;by_cases b:i<r.sets.length
   . obtain⟨j,g2,g3⟩:=f3 i b;have d:=Q1I (gSr r.sets i).2 kinds (by have:=c.el i b;omega) g2;have z:gI kinds (0+(gSr r.sets i).1.toNat)=gI kinds (gSr r.sets i).1.toNat:=by rw[Qk]
     by_cases q2:kdE kinds (gSr r.sets i).2=gI kinds (gSr r.sets i).1.toNat
     . repeat' ((conv=>whnf);first|(refine Ix.mk (gSr r.sets i).1.toNat (by omega) (by omega) ?_)|(refine Br.dec ?_ ?_<;>intro _<;>try omega)|(refine Br.bne ?_ ?_<;>intro _<;>try omega)|(refine Ar.q ?_)|(refine Ix.q ?_)|(refine d.go ?_)|(refine And.intro rfl ?_))
       all_goals conv=>whnf
       refine⟨r.sets.length-(i+1),i+1,by omega,⟨rfl,by omega,J1H (n:=0) a (Qn q2)⟩,?_⟩;exact J0a J1v
     . have:Q2T kinds r=false:=by
        have:=J13 (p:=fun i=>decide (kdE kinds (gSr r.sets i).2=gI kinds (gSr r.sets i).1.toNat)) b (Qm q2);rw[Q2T,this];simp
       rw[this]
       repeat' ((conv=>whnf);first|(refine Ix.mk (gSr r.sets i).1.toNat (by omega) (by omega) ?_)|(refine Br.dec ?_ ?_<;>intro _<;>try omega)|(refine Br.bne ?_ ?_<;>intro _<;>try omega)|(refine Ix.q ?_)|(refine d.go ?_)|(refine And.intro rfl ?_))
       all_goals conv=>whnf
       exact vR_
   . obtain rfl:i=r.sets.length:=by omega
     have:Q2T kinds r=true:=by rw[Q2T,Qn q1,a];rfl
     rw[this];exact Wq
 . have:Q2T kinds r=false:=by rw[Q2T,Qm q1];simp
   rw[this];exact Wq
theorem J3N (p:RP):(J06 p).length=p.vars.length:=by simp[J06]
theorem Q6E (p:RP) {i:Nat} (h:i<p.vars.length):(J06 p).take (i+1)=(J06 p).take i++[(gV p.vars i).kind]:=by
 have a:i<(J06 p).length:=by rw[J3N];exact h
 rw[Xn a];have:=Q17 p h;simp only[gI,List.getD,Qp a,Xp] at this;rw[this]
theorem Q7q (l:List Int) (a:Int) (n i j:Nat) (b:n=l.length) (d:i<n+1) (c:j<1):VLe (J56 (J0m 0 (vI l)) n (J0m 0 (tab [[.int .i64 a]])) i j) (vI (l++[a]) i j):=by
 subst b;obtain rfl:j=0:=by omega
 apply vE_;by_cases h:i<l.length
 . rw[J19 h,J0l,Qk,vI,vI];simp[gI,List.getD,Q3 h]
 . obtain rfl:i=l.length:=by omega
   rw[J2a h];simp[J0m,tab,vI,gI]
theorem Q8f (p:RP) (hp:J2X p):Ret Tryz.prog 203 [p.v] (kiV (J06 p)):=by
 have g:=hp.vl;have j:=J3N p;refine rf Y5b ?_
 all_goals conv=>whnf
 refine J0s J0c [] [1] J1k [1,0] (fun i:Nat=>[(4,.int .i64 ((i:Nat):Int)),(3,.vec 1 1 0 i),(1,.loc 0 0)]) (fun _ i=>[(1,.vec i 1 (vI ((J06 p).take i))),(0,.cells [.str p.nm,p.vs,p.rs])]) (fun m i=>m=p.vars.length-i/\i<=p.vars.length) p.vars.length 0 ⟨rfl,Qh _⟩ rfl (fun _=>rfl) ?_ ?_
 . exact J0a (fun _ _=>[(0,some 0),(1,none)])
 rintro m i ⟨l,n⟩;by_cases e:i<p.vars.length
 . have c:=Q6E p e;have d:((J06 p).take i).length=i:=by rw[Zt];omega
   refine Vq ?_
   all_goals
    refine⟨p.vars.length-(i+1),i+1,by omega,⟨rfl,by omega⟩,?_⟩;refine J0d (fun env _=>[(0,some 0),(1,Q2X env 3)]) ?_ ?_ rfl
    . repeat' (first|exact tI|(refine⟨⟨_,rfl,?_⟩,?_⟩)|exact J0b.kf rfl|exact J0b.loc rfl|exact J0b.q)
    . repeat' (first|exact⟨by omega,rfl,fun a b k f=>by rw[c];exact Q7q _ _ _ _ _ d.symm (by omega) f⟩|exact tI|(refine⟨⟨_,rfl,?_⟩,?_⟩)|exact J0b.kf rfl|apply And.intro)
 . obtain rfl:i=p.vars.length:=by omega
   have:(J06 p).take p.vars.length=J06 p:=by rw[Qz (by omega)]
   rw[this];refine Vq ?_;exact VLe.fz (by omega) (fun h=>h) (fun a b k f=>vE_ (by rw[J0l,Qk]))
def Q82 (p:RP):Bool:=(List.range p.vars.length).all fun i=>Q4L (gV p.vars i)
def Q9T (p:RP):Bool:=(List.range p.rules.length).all fun i=>J3P p.vars.length (gRr p.rules i)
noncomputable def Q7C (p:RP):Bool:=(List.range p.rules.length).all fun i=>Q2T (J06 p) (gRr p.rules i)
noncomputable def X8N (p:RP):Int :=
 if decide (1<=p.vars.length/\p.vars.length<=6)&&decide (p.rules.length<=12) then (if Q0w p then (if Q82 p then (if Q9T p then (if Q7C p then 0 else 6) else 7) else 2) else 5) else 3
noncomputable def J7E (p:RP):Bool:=decide (X8N p=0)
structure Q20 (p:RP):Prop where
 vl:1<=p.vars.length/\p.vars.length<=6
 rl:p.rules.length<=12
 nm:Q0w p=true
 num:∀i,i<p.vars.length->Q4L (gV p.vars i)=true
 frm:∀i,i<p.rules.length->J3P p.vars.length (gRr p.rules i)=true
 typ:∀i,i<p.rules.length->Q2T (J06 p) (gRr p.rules i)=true
theorem Q4o {p:RP}:J7E p=true↔Q20 p:=by
 rw[J7E,Qa,X8N];constructor
 . intro h;cases b:(decide (1<=p.vars.length/\p.vars.length<=6)&&decide (p.rules.length<=12)) with
   | false=>rw[b] at h;simp at h
   | true =>
   rw[b,Qe rfl] at h;cases e:Q0w p with
   | false=>rw[e] at h;simp at h
   | true =>
   rw[e,Qe rfl] at h;cases d:Q82 p with
   | false=>rw[d] at h;simp at h
   | true =>
   rw[d,Qe rfl] at h;cases c:Q9T p with
   | false=>rw[c] at h;simp at h
   | true =>
   rw[c,Qe rfl] at h;cases f:Q7C p with
   | false=>rw[f] at h;simp at h
   | true =>
   simp only[Qg,Qa] at b;exact⟨b.1,b.2,e,fun i a=>Qy.1 d i (Q7.2 a),fun i a=>Qy.1 c i (Q7.2 a),fun i a=>Qy.1 f i (Q7.2 a)⟩
 . intro ⟨n,m,l,k,j,g⟩;have r:Q82 p=true:=Qy.2 fun i a=>k i (Q7.1 a);have q:Q9T p=true:=Qy.2 fun i a=>j i (Q7.1 a);have o:Q7C p=true:=Qy.2 fun i a=>g i (Q7.1 a);rw[Qe (by simp only[Qg,Qa];exact⟨n,m⟩),Qe l,Qe r,Qe q,Qe o]
theorem Q8p (p:RP) (hp:J2X p):Ret Tryz.prog 164 [p.v] (.int .i64 (X8N p)):=by
 have q:=J4u (p.vars.length:Int) 1 6;have o:=Q8a p hp;have z:=Q8f p hp;have u:=hp.vl;have w:=hp.rl;have h:=J3N p;refine rf Y5F ?_;by_cases t:1<=p.vars.length/\p.vars.length<=6
 . rw[Qn (by omega)] at q;by_cases s:p.rules.length<=12
   . have g:(decide (1<=p.vars.length/\p.vars.length<=6)&&decide (p.rules.length<=12))=true:=by simp[t,s]
     rw[X8N,Qe g];cases r:Q0w p with
     | false =>
       rw[r] at o;rw[Qb (by simp)];exact Wq
     | true =>
       rw[r] at o;rw[Qe rfl];refine Vq ?_;refine J0h J0c [1] (fun i:Nat=>[(3,.int .i64 ((i:Nat):Int))]) (fun m i=>m=p.vars.length-i/\i<=p.vars.length/\(List.range i).all (fun i=>Q4L (gV p.vars i))=true) p.vars.length 0 ⟨rfl,Qh _,rfl⟩ ?_ ?_
       . exact J0a J1v
       rintro m i ⟨k,l,e⟩;by_cases a:i<p.vars.length
       . have f:=Q3j (gV p.vars i);cases c:Q4L (gV p.vars i) with
         | false =>
           rw[c] at f;have:Q82 p=false:=J13 (p:=fun i=>Q4L (gV p.vars i)) a c;rw[this,Qb (by simp)];exact Wq
         | true =>
           rw[c] at f;refine Vq ?_;refine⟨p.vars.length-(i+1),i+1,by omega,⟨rfl,by omega,J1H (n:=0) e c⟩,?_⟩;exact J0a J1v
       obtain rfl:i=p.vars.length:=by omega
       have y:Q82 p=true:=e;rw[y,Qe rfl];refine Vq ?_;refine J0h J0c [1] (fun i:Nat=>[(4,.int .i64 ((i:Nat):Int))]) (fun m i=>m=p.rules.length-i/\i<=p.rules.length/\(List.range i).all (fun i=>J3P p.vars.length (gRr p.rules i))=true) p.rules.length 0 ⟨rfl,Qh _,rfl⟩ ?_ ?_
       . exact J0a J1v
       rintro m i ⟨k,l,b⟩;by_cases a:i<p.rules.length
       . have f:=Q6i (gRr p.rules i) (hp.rule a) p.vars.length (by omega);cases c:J3P p.vars.length (gRr p.rules i) with
         | false =>
           rw[c] at f;have:Q9T p=false:=J13 (p:=fun i=>J3P p.vars.length (gRr p.rules i)) a c;rw[this,Qb (by simp)];exact Wq
         | true =>
           rw[c] at f;refine Vq ?_;refine⟨p.rules.length-(i+1),i+1,by omega,⟨rfl,by omega,J1H (n:=0) b c⟩,?_⟩;exact J0a J1v
       obtain rfl:i=p.rules.length:=by omega
       have e2:Q9T p=true:=b;rw[e2,Qe rfl];refine Vq ?_;refine J0h J0c [1] (fun i:Nat=>[(5,.int .i64 ((i:Nat):Int))]) (fun m i=>m=p.rules.length-i/\i<=p.rules.length/\(List.range i).all (fun i=>Q2T (J06 p) (gRr p.rules i))=true) p.rules.length 0 ⟨rfl,Qh _,rfl⟩ ?_ ?_
       . exact J0a J1v
       rintro m i ⟨k,l,d⟩;by_cases a:i<p.rules.length
       . have j:J3P (J06 p).length (gRr p.rules i)=true:=by rw[h];exact Qy.1 b i (Q7.2 a)
         have f:=Q72 (gRr p.rules i) (hp.rule a) (J06 p) j;cases c:Q2T (J06 p) (gRr p.rules i) with
         | false =>
           rw[c] at f;have:Q7C p=false:=J13 (p:=fun i=>Q2T (J06 p) (gRr p.rules i)) a c;rw[this,Qb (by simp)];exact Wq
         | true =>
           rw[c] at f;refine Vq ?_;refine⟨p.rules.length-(i+1),i+1,by omega,⟨rfl,by omega,J1H (n:=0) d c⟩,?_⟩;exact J0a J1v
       obtain rfl:i=p.rules.length:=by omega
       have x:Q7C p=true:=d;rw[x,Qe rfl];exact Wq
   . have g:(decide (1<=p.vars.length/\p.vars.length<=6)&&decide (p.rules.length<=12))=false:=by simp[s]
     rw[X8N,g,Qb (by simp)];exact Wq
 . rw[Qm (by omega)] at q;have g:(decide (1<=p.vars.length/\p.vars.length<=6)&&decide (p.rules.length<=12))=false:=by rw[Qm t];rfl
   rw[X8N,g,Qb (by simp)];exact Wq
theorem J7O (p:RP) (hp:J2X p):Ret Tryz.prog 115 [p.v] (.bool (J7E p)):=by
 have h:=Q8p p hp;refine rf Y6f ?_
 repeat' ((conv=>whnf);first|(refine Br.dec ?_ ?_<;>intro _<;>try omega)|(refine h.go ?_))
 all_goals conv=>whnf
 all_goals exact VLe.bool (by symm;rw[J7E];first|(rw[Qa];assumption)|(rw[Qo];assumption))
theorem J5G {α:Type} [DecidableEq α]:∀{a:List (α×V)} {p:α},(∀e∈a,e.1≠p)->J00 a p=none
 | [],_,_=>rfl
 | (q,v)::r,p,h=>by
   simp only[J00];rw[Qb (h (q,v) (List.mem_cons_self ..))];exact J5G fun e he=>h e (Xz _ he)
theorem J7i {α:Type} [DecidableEq α]:∀{a:List (α×V)} {p:α} {y:V},(∀e∈a,e.1≠p)->mput a p y=a++[(p,y)]
 | [],_,_,_=>rfl
 | (q,v)::r,p,y,h=>by
   simp only[mput];rw[Qb (h (q,v) (List.mem_cons_self ..)),Q1,J7i fun e he=>h e (Xz _ he)]
theorem J8a {o:Option V} {A:V->Prop} {B:Prop} (h:o=none) (b:B):X37 o A B:=⟨fun v a=>by rw[h] at a;exact absurd a (by simp),fun _=>b⟩
def Q2t {α:Type} (f:Nat->α) (n:Nat):List (α×V):=(List.range n).map fun j=>(f j,.bool true)
theorem Q0M {α:Type} {f:Nat->α} {n:Nat} {p:α} (h:∀k,k<n->f k≠p):∀e∈Q2t f n,e.1≠p:=by
 intro e he;obtain⟨j,a,rfl⟩:=Qi.1 he;exact h j (Q7.1 a)
theorem J8x {α:Type} {f:Nat->α} {n:Nat}:Q2t f (n+1)=Q2t f n++[(f n,.bool true)]:=by
 rw[Q2t,Q2t,Yd,Zj];rfl
theorem J2j (v a b:Int):Ret Tryz.prog 153 [.int .i64 v,.int .i64 a,.int .i64 b] (.bool (decide (a<=v/\v<=b))):=by
 refine rf Y5Q ?_
 repeat' ((conv=>whnf);refine Br.dec ?_ ?_<;>intro _<;>try omega)
 all_goals conv=>whnf
 all_goals exact VLe.bool (by symm;first|(rw[Qa];omega)|(rw[Qo];omega))
theorem Q3w (x:Vr):Ret Tryz.prog 100 [vrV x] (.bool (Q4L x)):=by
 have a:=J6J x.kind;have f:=J2j x.lo 0 4096;have e:=J2j x.pn 0 255;have d:=J2j x.pid 0 255;have c:=J2j x.hi 0 4096;have b:=J2j x.hi (-4096) 4096;refine rf Y6s ?_;by_cases hk:x.kind=1
 . rw[Q4L,Qe hk]
   repeat' ((conv=>whnf);first|(refine Br.dec ?_ ?_<;>intro _<;>try omega)|(refine Br.bne ?_ ?_<;>intro _<;>try omega)|(refine a.go ?_)|(refine f.go ?_)|(refine e.go ?_)|(refine d.go ?_)|(refine c.go ?_)|(refine b.go ?_))
   all_goals conv=>whnf
   all_goals exact VLe.bool (by symm;first|(rw[Qa];omega)|(rw[Qo];omega))
 . rw[Q4L,Qb hk]
   repeat' ((conv=>whnf);first|(refine Br.dec ?_ ?_<;>intro _<;>try omega)|(refine Br.bne ?_ ?_<;>intro _<;>try omega)|(refine a.go ?_))
   all_goals conv=>whnf
   all_goals exact VLe.bool (by symm;first|(rw[Qa];omega)|(rw[Qo];omega))
theorem X5j (l:List Int) (i j:Nat) (a:j<1):VLe ([V.int .i64 0].getD j default) (vI (l.take 0) i j):=by
 obtain rfl:j=0:=by omega
 exact vE_ (by simp[vI,gI])
theorem Q8G (p:RP) (g:p.vars.length<=6):Ret Tryz.prog 102 [p.v] (kiV (J06 p)):=by
 have f:=J3N p;refine rf Y6q ?_;refine Vq ?_
 all_goals
  refine J1y J0c [3,11,12] [] J1k [1] (fun i:Nat=>[(13,.int .i64 ((i:Nat):Int))]) (fun i=>[(1,.vec p.vars.length 1 (vI ((J06 p).take i)))]) (fun m i=>m=p.vars.length-i/\i<=p.vars.length) p.vars.length 0 ⟨rfl,Qh _⟩ rfl (fun _=>rfl) ?_ ?_
  . refine J0F X8K ?_;intro i j e c;exact X5j _ _ _ c
  rintro m i ⟨k,e⟩;by_cases d:i<p.vars.length
  . have hg:=Q17 p d;refine Vq ?_;refine⟨p.vars.length-(i+1),i+1,by omega,⟨rfl,by omega⟩,?_⟩;refine J0F X8K ?_;intro i j e c
    (rw[<- hg,Qk];exact Q4l _ _ _ _ (by omega) c)
  . obtain rfl:i=p.vars.length:=by omega
    have:(J06 p).take p.vars.length=J06 p:=by rw[Qz (by omega)]
    rw[this];refine Vq ?_;exact VLe.fz (by omega) (fun h=>h) (fun a b n l=>vE_ (by rw[J0l,Qk]))
def snm (r:RR) (k:Nat):Int:=(gSr r.sets k).1
theorem Q6v (r:RR) (a:Nat) (f:a<=10) (g:J3P a r=true):Ret Tryz.prog 101 [rrV r,.int .i64 a] (.bool true):=by
 obtain⟨f1,f2,f3⟩:=J2p g;have n:=J5d r.gd a f2;refine rf Y6r ?_;refine Vq ?_;refine J1y J0c [1,5,27,28] [] J1k [1] (fun i:Nat=>[(29,.int .i64 ((i:Nat):Int))]) (fun i=>[(1,.map (.one .i64) (Q2t (snm r) i))]) (fun m i=>m=r.sets.length-i/\i<=r.sets.length) r.sets.length 0 ⟨rfl,Qh _⟩ rfl (fun _=>rfl) ?_ ?_
 . exact J0a X8K
 rintro m i ⟨k,l⟩;by_cases c:i<r.sets.length
 . obtain⟨o,g2,g3⟩:=f3 i c;have d:=J2j (gSr r.sets i).1 0 ((a:Int)-1);have h:=J5d (gSr r.sets i).2 a g2;rw[Qn (by omega)] at d;have b:∀e∈Q2t (snm r) i,e.1≠(gSr r.sets i).1:=Q0M g3
   repeat' ((conv=>whnf);first|(refine J8a (J5G b) ?_)|(refine Br.tt ?_)|(refine Br.dec ?_ ?_<;>intro _<;>try omega)|(refine Ar.q ?_)|(refine Ix.q ?_)|(refine d.go ?_)|(refine h.go ?_))
   all_goals conv=>whnf
   refine⟨r.sets.length-(i+1),i+1,by omega,⟨rfl,by omega⟩,?_⟩;have j:=J7i (y:=.bool true) b;have e2:Q2t (snm r) (i+1)=mput (Q2t (snm r) i) (gSr r.sets i).1 (.bool true):=by rw[j,J8x];rfl
   simp only[e2];exact J0a X8K
 . obtain rfl:i=r.sets.length:=by omega
   exact Wq
theorem Q8x (r:RR) (kinds:List Int) (hk:kinds.length<=6) (hp:∀a∈kinds,a=1\/a=2\/a=3) (e:J3P kinds.length r=true) (c:Q2T kinds r=true):Ret Tryz.prog 103 [rrV r,kiV kinds] (.bool true):=by
 obtain⟨f1,f2,f3⟩:=J2p e;simp only[Q2T,Qg,Qa,Qy,Q7] at c;obtain⟨t1,t2⟩:=c;have g:=X4q r.gd kinds hk hp f2 (by omega);rw[t1] at g;refine rf Y6p ?_;refine Vq ?_;refine J0h J0c [1,21,22] (fun i:Nat=>[(23,.int .i64 ((i:Nat):Int))]) (fun m i=>m=r.sets.length-i/\i<=r.sets.length) r.sets.length 0 ⟨rfl,Qh _⟩ ?_ ?_
 . exact J0a J1v
 rintro m i ⟨h,j⟩;by_cases b:i<r.sets.length
 . obtain⟨k,g2,g3⟩:=f3 i b;have t3:=t2 i b;have d:=hp _ (J5T (l:=kinds) (i:=(gSr r.sets i).1.toNat) (by omega));have f:=X4q (gSr r.sets i).2 kinds hk hp g2 (by omega);have z:gI kinds (0+(gSr r.sets i).1.toNat)=gI kinds (gSr r.sets i).1.toNat:=by rw[Qk]
   repeat' ((conv=>whnf);first|(refine Ix.mk (gSr r.sets i).1.toNat (by omega) (by omega) ?_)|(refine Br.dec ?_ ?_<;>intro _<;>try omega)|(refine Br.bne ?_ ?_<;>intro _<;>try omega)|(refine Ar.q ?_)|(refine Ix.q ?_)|(refine f.go ?_))
   all_goals conv=>whnf
   refine⟨r.sets.length-(i+1),i+1,by omega,⟨rfl,by omega⟩,?_⟩;exact J0a J1v
 . obtain rfl:i=r.sets.length:=by omega
   exact Wq
theorem Q8C (p:RP) (hp:J2X p) (h:Q0w p=true):Ret Tryz.prog 99 [p.v] (.bool true):=by
 simp only[Q0w,X2n,dnB,Qg,Qy,Q7] at h;obtain⟨n,l,j⟩:=h;have o:=hp.vl;have r:=hp.rl;have u:=Q0s p.nm (by have:=hp.nm;omega);rw[n] at u;refine rf fj99 ?_;refine Vq ?_;refine J0s J0c [1,3,15,16] [] J1k [1,0] (fun i:Nat=>[(17,.int .i64 ((i:Nat):Int))]) (fun _ i=>[(1,.map .str (Q2t (vnm p) i)),(0,.cells [.str p.nm,p.vs,p.rs])]) (fun m i=>m=p.vars.length-i/\i<=p.vars.length) p.vars.length 0 ⟨rfl,Qh _⟩ rfl (fun _=>rfl) ?_ ?_
 . exact J0a J0r
 rintro m i ⟨s,t⟩;by_cases b:i<p.vars.length
 . have c:=Q0s (vnm p i) (by have:=hp.vn i b;show(gV p.vars i).name.size<=_;omega);obtain⟨g,f⟩:=l i b;rw[f] at c;have a:∀e∈Q2t (vnm p) i,e.1≠vnm p i:=Q0M fun k hk e=>by
    have:=g k hk;rw[(Go.MapKept.bytes_beq _ _).2 e] at this;exact absurd this (by simp)
   repeat' ((conv=>whnf);first|(refine J8a (J5G a) ?_)|(refine Br.tt ?_)|(refine Br.dec ?_ ?_<;>intro _<;>try omega)|(refine Ar.q ?_)|(refine Ix.q ?_)|(refine c.go ?_))
   all_goals conv=>whnf
   refine⟨p.vars.length-(i+1),i+1,by omega,⟨rfl,by omega⟩,?_⟩;have d:=J7i (y:=.bool true) a;have e2:Q2t (vnm p) (i+1)=mput (Q2t (vnm p) i) (vnm p i) (.bool true):=by rw[d,J8x]
   simp only[e2];exact J0a J0r
 obtain rfl:i=p.vars.length:=by omega
 refine Vq ?_;refine J1y J0c [6,37,38] [] J2z [2] (fun i:Nat=>[(39,.int .i64 ((i:Nat):Int))]) (fun i=>[(2,.map .str (Q2t (rnm p) i))]) (fun m i=>m=p.rules.length-i/\i<=p.rules.length) p.rules.length 0 ⟨rfl,Qh _⟩ rfl (fun _=>rfl) ?_ ?_
 . exact J0a iqd2
 rintro m i ⟨s,t⟩;by_cases b:i<p.rules.length
 . have c:=Q0s (rnm p i) (by have:=hp.rn i b;show(gRr p.rules i).nm.size<=_;omega);obtain⟨g,f⟩:=j i b;rw[f] at c;have a:∀e∈Q2t (rnm p) i,e.1≠rnm p i:=Q0M fun k hk e=>by
    have:=g k hk;rw[(Go.MapKept.bytes_beq _ _).2 e] at this;exact absurd this (by simp)
   repeat' ((conv=>whnf);first|(refine J8a (J5G a) ?_)|(refine Br.tt ?_)|(refine Br.dec ?_ ?_<;>intro _<;>try omega)|(refine Ar.q ?_)|(refine Ix.q ?_)|(refine c.go ?_))
   all_goals conv=>whnf
   refine⟨p.rules.length-(i+1),i+1,by omega,⟨rfl,by omega⟩,?_⟩;have d:=J7i (y:=.bool true) a;have e2:Q2t (rnm p) (i+1)=mput (Q2t (rnm p) i) (rnm p i) (.bool true):=by rw[d,J8x]
   simp only[e2];exact J0a iqd2
 obtain rfl:i=p.rules.length:=by omega
 exact Wq
theorem Q18 {p:RP} (hp:Q20 p):∀a∈J06 p,a=1\/a=2\/a=3:=by
 intro a d;obtain⟨x,c,rfl⟩:=Qi.1 d;obtain⟨i,b,rfl⟩:=Xi.1 c;have:=hp.num i b;have e:gV p.vars i=p.vars[i]:=by simp[gV,List.getD,b]
 rw[e,Q4L] at this;by_cases h:p.vars[i].kind=1
 . exact .inl h
 . rw[Qb h,Qa] at this;exact .inr this.1
theorem Q8K (p:RP) (j:J2X p) (hp:Q20 p):Ret Tryz.prog 41 [p.v] (.int .i64 0):=by
 have l:=Q8C p j hp.nm;have b:=hp.vl;have h:=hp.rl;have c:=J3N p;have k:=Q8G p b.2;have d:=Q18 hp;refine rf fj41 ?_;refine Vq ?_;refine J0h J0c [1,30,31] (fun i:Nat=>[(32,.int .i64 ((i:Nat):Int))]) (fun m i=>m=p.vars.length-i/\i<=p.vars.length) p.vars.length 0 ⟨rfl,Qh _⟩ ?_ ?_
 . exact J0a J1v
 rintro m i ⟨f,g⟩;by_cases a:i<p.vars.length
 . have e:=Q3w (gV p.vars i);rw[hp.num i a] at e;refine Vq ?_;refine⟨p.vars.length-(i+1),i+1,by omega,⟨rfl,by omega⟩,?_⟩;exact J0a J1v
 obtain rfl:i=p.vars.length:=by omega
 refine Vq ?_;refine J0h J0c [1,41,42] (fun i:Nat=>[(43,.int .i64 ((i:Nat):Int))]) (fun m i=>m=p.rules.length-i/\i<=p.rules.length) p.rules.length 0 ⟨rfl,Qh _⟩ ?_ ?_
 . exact J0a J1v
 rintro m i ⟨f,g⟩;by_cases a:i<p.rules.length
 . have e:=Q6v (gRr p.rules i) p.vars.length (by omega) (hp.frm i a);refine Vq ?_;refine⟨p.rules.length-(i+1),i+1,by omega,⟨rfl,by omega⟩,?_⟩;exact J0a J1v
 obtain rfl:i=p.rules.length:=by omega
 refine Vq ?_;refine J0h J0c [7,57,58] (fun i:Nat=>[(59,.int .i64 ((i:Nat):Int))]) (fun m i=>m=p.rules.length-i/\i<=p.rules.length) p.rules.length 0 ⟨rfl,Qh _⟩ ?_ ?_
 . exact J0a J1v
 rintro m i ⟨f,g⟩;by_cases a:i<p.rules.length
 . have e:=Q8x (gRr p.rules i) (J06 p) (by omega) d (by rw[c];exact hp.frm i a) (hp.typ i a);refine Vq ?_;refine⟨p.rules.length-(i+1),i+1,by omega,⟨rfl,by omega⟩,?_⟩;exact J0a J1v
 obtain rfl:i=p.rules.length:=by omega
 exact Wq
theorem Q3p (p:RP) (b:J2X p) (hp:Q20 p):Ret Tryz.prog 125 [p.v] (.bool true):=by
 have h:=Q8K p b hp;refine rf Y09 ?_;exact Wq
theorem Q1K {P:Program} {f:FuncId} {args args':List V} {X:V} (h:Ret P f args X) (hk:J3a V.kf args'=true) (g:LLe args' args):Ret P f args' X:=by
 intro own ks;constructor;intro M w σ us d hd j;obtain⟨d1,d2⟩:=g.dens (M:=M) (w:=w) (us:=us) (by omega) (fun i c u a b=>(hd i c u a b).kf (J0v hk c (Qw a)) Sg.none);exact(h own ks).out M w σ us d1 (fun i v u e b=>(d2 i v u e b).mono (Ext.mk (fun _ _ h=>⟨h,rfl⟩) (Qd _)) (Sg.none_le σ)) j
theorem J7g (p:RP) {i:Nat} (a:i<p.rules.length):gRl (J2L p).rules i=X4l (gRr p.rules i):=by
 simp[J2L,gRl,gRr,List.getD,a]
theorem Q8d (r:RR) {j:Nat} (a:j<r.sets.length):gS (X4l r).sets j=((gSr r.sets j).1,tmE (gSr r.sets j).2):=by
 simp[X4l,gS,gSr,List.getD,a]
theorem J3i (p:RP):(J2L p).rules.length=p.rules.length:=by simp[J2L]
theorem Q0m (r:RR):(X4l r).sets.length=r.sets.length:=by simp[X4l]
theorem X7c {p:RP} (hp:Q20 p) {i:Nat} (a:i<p.vars.length):gI (J06 p) i≠0:=by
 have:=Q18 hp _ (J5T (l:=J06 p) (i:=i) (by rw[J3N];exact a));omega
theorem X4e {p:RP} (hp:Q20 p) {i:Nat} (c:i<p.rules.length):(tmE (gRr p.rules i).gd).enc=(gRr p.rules i).gd/\(tmE (gRr p.rules i).gd).wf p.vars.length false=true/\(gRr p.rules i).gd.length<=200:=by
 obtain⟨f1,f2,f3⟩:=J2p (hp.frm i c);have d:=hp.typ i c;simp only[Q2T,Qg,Qa,Qy,Q7] at d;obtain⟨a,b⟩:=X4d (kinds:=J06 p) f2 (by omega);obtain⟨t,_,_,e,_⟩:=J6y f2;exact⟨a,b,e⟩
theorem Q7I {p:RP} (hp:Q20 p) {i:Nat} (e:i<p.rules.length) {j:Nat} (d:j<(gRr p.rules i).sets.length):(tmE (gSr (gRr p.rules i).sets j).2).enc=(gSr (gRr p.rules i).sets j).2/\(tmE (gSr (gRr p.rules i).sets j).2).wf p.vars.length false=true/\(gSr (gRr p.rules i).sets j).2.length<=200:=by
 obtain⟨f1,f2,f3⟩:=J2p (hp.frm i e);obtain⟨h,g2,g3⟩:=f3 j d;have c:=hp.typ i e;simp only[Q2T,Qg,Qa,Qy,Q7] at c;have g:=X7c hp (i:=(gSr (gRr p.rules i).sets j).1.toNat) (by omega);have:=c.2 j d;obtain⟨a,b⟩:=X4d (kinds:=J06 p) g2 (by omega);obtain⟨t,_,_,f,_⟩:=J6y g2;exact⟨a,b,f⟩
theorem X4a {e:Lt2} (h:(tmE e).enc=e):vT (tmE e)=vTr e:=by rw[vT,vTr,h]
theorem X4b {p:RP} (hp:Q20 p) {i j:Nat} (a:i<p.rules.length) (b:j<3) :
 (j≠2->vRl (J2L p).rules i j=vRr p.rules i j)/\(j=2->vRl (J2L p).rules i j=.fz (gRr p.rules i).sets.length 2 false (vS (X4l (gRr p.rules i)).sets)/\vRr p.rules i j=.fz (gRr p.rules i).sets.length 2 false (vSr (gRr p.rules i).sets)):=by
 have e:=J7g p a;obtain rfl|rfl|rfl:j=0\/j=1\/j=2:=by omega
 . refine⟨fun _=>?_,fun q=>by omega⟩;simp only[vRl,vRr,e];rfl
 . refine⟨fun _=>?_,fun q=>by omega⟩;simp only[vRl,vRr,e];exact X4a (X4e hp a).1
 . refine⟨fun q=>(q rfl).elim,fun _=>⟨?_,rfl⟩⟩;simp only[vRl,e,Q0m]
theorem X80 {p:RP} (hp:Q20 p) {i:Nat} (b:i<p.rules.length) {j k:Nat} (a:j<(gRr p.rules i).sets.length) (hk:k<2):vS (X4l (gRr p.rules i)).sets j k=vSr (gRr p.rules i).sets j k:=by
 have e:=Q8d (gRr p.rules i) a;obtain rfl|rfl:k=0\/k=1:=by omega
 . simp only[vS,vSr,e]
 . simp only[vS,vSr,e];exact X4a (Q7I hp b a).1
theorem X10 {p:RP} (hp:Q20 p):VLe p.v (J2L p).v:=by
 refine VLe.agg ⟨vR_,vR_,?_,tI⟩;refine VLe.fz (J3i p).symm (fun h=>h) fun i j c d=>?_;obtain⟨a,b⟩:=X4b hp c d;by_cases q:j=2
 . obtain⟨k,g⟩:=b q;rw[k,g];exact VLe.fz rfl (fun h=>h) fun a b f e=>vE_ (X80 hp c f e).symm
 . exact vE_ (a q).symm
theorem X9k {p:RP} (hp:Q20 p):VLe (J2L p).v p.v:=by
 refine VLe.agg ⟨vR_,vR_,?_,tI⟩;refine VLe.fz (J3i p) (fun h=>h) fun i j c d=>?_;rw[J3i] at c;obtain⟨a,b⟩:=X4b hp c d;by_cases q:j=2
 . obtain⟨k,g⟩:=b q;rw[k,g];exact VLe.fz rfl (fun h=>h) fun a b f e=>vE_ (X80 hp c f e)
 . exact vE_ (a q)
theorem X6S {x:Vr} (h:Q4L x=true):Q4c x:=by
 rw[Q4L] at h;by_cases hk:x.kind=1
 . rw[Qe hk,Qa] at h;exact⟨.inl hk,by omega,by omega,by omega,by omega⟩
 . rw[Qb hk,Qa] at h;exact⟨.inr h.1,by omega,by omega,by omega,by omega⟩
theorem Y4b {p:RP} (k:J2X p) (hp:Q20 p):J2C (J2L p):=by
 have g:=hp.vl;have h:=hp.rl;refine⟨?_,fun i d=>X6S (hp.num i d),by rw[J3i];omega,fun i d=>?_,fun i d=>?_,fun i d j e=>?_,?_⟩
 . show p.vars.length<=1000;omega
 . rw[J3i] at d;obtain⟨a,b,c⟩:=X4e hp d;rw[J7g p d];show(tmE (gRr p.rules i).gd).okB p.vars.length=true;rw[Tm.okB,a,b,Qn (by omega)];rfl
 . rw[J3i] at d;rw[J7g p d,Q0m];have:=(J2p (hp.frm i d)).1;omega
 . rw[J3i] at d;rw[J7g p d] at e ⊢;rw[Q0m] at e;rw[Q8d _ e];obtain⟨a,b,c⟩:=Q7I hp d e;obtain⟨f1,f2,f3⟩:=J2p (hp.frm i d);obtain⟨f,g2,g3⟩:=f3 j e;refine⟨f.1,f.2,?_⟩;show(tmE (gSr (gRr p.rules i).sets j).2).okB p.vars.length=true;rw[Tm.okB,a,b,Qn (by omega)];rfl
 . exact Q1K (Q3p p k hp) rfl ⟨X9k hp,tI⟩
theorem X6y {p:RP} (a:J2X p) (hp:Q20 p):Ret Tryz.prog 115 [(J2L p).v] (.bool true):=by
 have h:=J7O p a;rw[Q4o.2 hp] at h;exact Q1K h rfl ⟨X9k hp,tI⟩
def Q6d (p:Pr) (g:G) (v:Nat):Nat->Nat->V:=fun x j=>match j with
 | 0=>.int .i64 (bnd g (gV p.vars x) v).1
 | _=>.int .i64 (bnd g (gV p.vars x) v).2
def tbl (p:Pr) (g:G):Nat->Nat->V:=fun v _=>.fz p.vars.length 2 false (Q6d p g v)
def X1j (p:Pr) (g:G):V:=.fz g.ids.length 1 false (tbl p g)
def opn (v n k:Nat):List (Nat×Nat):=if v<n then[(v,k)] else[]
def Q4Z (m v:Nat):Nat->Nat:=fun i=>if i<v then m else 0
def X11 (p:Pr) (g:G) (v x:Nat):Nat->Nat->V:=fun i j=>if i<x then Q6d p g v i j else .int .i64 0
theorem Q76 (p:Pr) (g:G) (v x i j:Nat) (b:j<2):VLe (J1l (J1l (X11 p g v x) x 0 [.int .i64 (bnd g (gV p.vars x) v).1]) x 1 [.int .i64 (bnd g (gV p.vars x) v).2] i j) (X11 p g v (x+1) i j):=by
 apply vE_;by_cases h:i=x
 . subst h;obtain rfl|rfl:j=0\/j=1:=by omega
   . simp[J1l,X11,Q6d]
   . simp[J1l,X11,Q6d]
 . have a:(i<x+1)=(i<x):=by simp;omega
   simp[J1l,X11,h,a]
theorem J2H {c:List Nat} {q:Nat} {chg:List Nat} (h:J1b q chg=true):∀k,k∈(q::c)->k∈c\/k∈chg:=fun k hk=>by
 rcases Qj.1 hk with e|e
 . exact .inr (by rw[e];exact J0k.1 h)
 . exact .inl e
theorem Q15 (m v:Nat):Q4Z m v v=0:=Qb (by omega)
theorem J7l (m v i:Nat):J3G (Q4Z m v) v m i=Q4Z m (v+1) i:=by
 simp only[J3G,Q4Z];by_cases h:i=v
 . rw[Qe h,Qe (by omega)]
 . rw[Qb h];by_cases a:i<v
   . rw[Qe a,Qe (by omega)]
   . rw[Qb a,Qb (by omega)]
theorem Q1x (p:Pr) (g:G) (v i j t:Nat) (a:j<J3G (Q4Z p.vars.length v) v p.vars.length i) (b:t<2):VLe (J4W (Q6d p g) v (X11 p g v p.vars.length) i j t) (Q6d p g i j t):=by
 apply vE_;simp only[J4W];split
 . rename_i e;subst e;rw[J3G,Qe rfl] at a;rw[X11,Qe a]
 . rfl
theorem J9E {a b chg:List Nat} (h:(a.all fun k=>J1b k b)=true):∀k,k∈a->k∈b\/k∈chg:=fun k hk=>.inl (J0k.1 (Qy.1 h k hk))
theorem J5y (p:Pr) (hp:J2C p) (g:G) (hF:J1L p g) (hg:g.valid=true):Ret Tryz.prog 77 [p.v,g.v] (X1j p g):=by
 obtain⟨f1,f2,f3,f4,f5,f6,f7⟩:=J0e hg;have o:=hp.vlen;refine rf fj77 ?_;refine Vq ?_;refine J0s J0c [2,3,5,14] [3] J3j [3,2,1,0] (fun v:Nat=>[(15,.int .i64 v)])
  (fun own v=>(3,.vec (Q4Z p.vars.length v v) 2 (Q6d p g v))::J2g (J2g own 2 (.fam g.ids.length 2 (Q4Z p.vars.length v) (Q6d p g) [])) 2 (.fam g.ids.length 2 (Q4Z p.vars.length v) (Q6d p g) (opn v g.ids.length 3))) (fun k v=>k=g.ids.length-v/\v<=g.ids.length) g.ids.length 0 ⟨rfl,Qh _⟩ rfl (fun _=>rfl) ?_ ?_
 . have e:opn 0 g.ids.length 3=[(0,3)]:=Qe (by omega);simp only[e];refine J3b.trans ?_ (J0Q (ks:=J2z) rfl rfl rfl (by omega) rfl) (J2H rfl);refine J0d J1g ?_ ?_ rfl
   . repeat' (first|exact tI|(refine⟨⟨_,rfl,?_⟩,?_⟩)|exact J0b.kf rfl|exact J0b.loc rfl|exact J0b.q)
   . repeat' (first|exact⟨rfl,rfl,rfl,fun i b=>⟨rfl,Qb (by omega)⟩⟩|exact tI|(refine⟨⟨_,rfl,?_⟩,?_⟩)|exact J0b.kf rfl|apply And.intro)
 rintro k v ⟨hk,y⟩;by_cases c:v<g.ids.length
 . have e:opn v g.ids.length 3=[(v,3)]:=Qe c;simp only[e]
   repeat' ((conv=>whnf);first|(refine Br.dec ?_ ?_<;>intro _<;>try omega)|(refine Ix.q ?_)|(refine Bd.q ?_)|(refine Len.q ?_)|(refine Ltn.q ?_)|(refine J45.hd (by omega) ?_))
   all_goals conv=>whnf
   refine J0s J0c [2,3,5,6,14,15,26,27] [4] J9F [4,3,2,1,0] (fun x:Nat=>[(28,.int .i64 x)])
    (fun own x=>J2g own 4 (.vec p.vars.length 2 (X11 p g v x))) (fun k x=>k=p.vars.length-x/\x<=p.vars.length) p.vars.length 0 ⟨rfl,Qh _⟩ rfl (fun _=>rfl) ?_ ?_
   . refine J0d J4A ?_ ?_ rfl
     . repeat' (first|exact tI|(refine⟨⟨_,rfl,?_⟩,?_⟩)|exact J0b.kf rfl|exact J0b.loc rfl|exact J0b.q)
     . repeat' (first|exact⟨rfl,rfl,⟨rfl,rfl,tI⟩,fun i b=>rfl,fun i j t b l a d=>vR_⟩|(refine⟨Qd _,rfl,fun i j b a=>vE_ ?_⟩;rw[X11,Qb (by omega)];(obtain rfl|rfl:j=0\/j=1:=by omega)<;>rfl)|exact tI|(refine⟨⟨_,rfl,?_⟩,?_⟩)|exact J0b.kf rfl|(refine⟨Qd _,rfl,fun i j b a=>?_⟩)|exact vR_|apply And.intro)
   rintro k x ⟨r,w⟩;by_cases f:x<p.vars.length
   . have s:=X4X g hg _ (hp.var x f) v (by omega)
     repeat' ((conv=>whnf);first|(refine Br.dec ?_ ?_<;>intro _<;>try omega)|(refine Ar.q ?_)|(refine Ix.q ?_)|(refine Ix.mk 0 rfl (by omega) ?_)|(refine Ix.mk 1 rfl (by omega) ?_)|(refine Ltn.q ?_)|(refine Opn.hdl (by omega) (show J3G _ _ _ _=p.vars.length from Qe rfl) ?_)|(refine s.go ?_)|(refine And.intro (Ltn.mk (by omega) (Opn.hdl (by omega) (show J3G _ _ _ _=p.vars.length from Qe rfl) rfl)) ?_))
     all_goals conv=>whnf
     refine⟨p.vars.length-(x+1),x+1,by omega,⟨rfl,by omega⟩,?_⟩;refine J0F J4A ?_;intro i j b a
     first|exact⟨rfl,rfl,⟨rfl,rfl,tI⟩,fun i b=>rfl,fun i j t b l a d=>vR_⟩|(simp only[Qk,Zr,Yy];exact Q76 p g v x _ _ a)
   . have u:x=p.vars.length:=by omega
     subst u;refine Vq ?_;refine⟨g.ids.length-(v+1),v+1,by omega,⟨rfl,by omega⟩,?_⟩;refine J3b.trans (J1M (J1q (q:=4) (k:=2) (i:=v) [] rfl rfl c (J0j rfl) (Y4 (Qe rfl)) rfl (fun j a=>(J0o (fun e=>a e.symm)).symm))) ?_ (J9E rfl);by_cases m:v+1<g.ids.length
     . have n:opn (v+1) g.ids.length 3=[(v+1,3)]:=Qe m;simp only[n];refine J3b.trans ?_ (J0Q (ks:=J2z) rfl rfl rfl m rfl) (J2H rfl);refine J0d J1g ?_ ?_ rfl
       . repeat' (first|exact tI|(refine⟨⟨_,rfl,?_⟩,?_⟩)|exact J0b.kf rfl|exact J0b.loc rfl|exact J0b.q)
       . repeat' (first|exact⟨rfl,rfl,tI,fun i b=>(J7l _ _ _).symm,fun i j t b l a d=>Q1x p g v i j t a d⟩|exact tI|(refine⟨⟨_,rfl,?_⟩,?_⟩)|exact J0b.kf rfl|apply And.intro)
     . have n:opn (v+1) g.ids.length 3=[]:=Qb m;simp only[n];refine J0d (fun _ _=>[(0,some 0),(1,some 1),(2,some 2),(3,none)]) ?_ ?_ rfl
       . repeat' (first|exact tI|(refine⟨⟨_,rfl,?_⟩,?_⟩)|exact J0b.kf rfl|exact J0b.loc rfl|exact J0b.q)
       . repeat' (first|exact⟨rfl,rfl,tI,fun i b=>(J7l _ _ _).symm,fun i j t b l a d=>Q1x p g v i j t a d⟩|exact⟨2,Q6d p g (v+1),by rw[Q15]⟩|exact tI|(refine⟨⟨_,rfl,?_⟩,?_⟩)|exact J0b.kf rfl|apply And.intro)
 . have e:opn v g.ids.length 3=[]:=Qb c;have z:v=g.ids.length:=by omega
   simp only[e];refine Vq ?_;refine VLe.fz rfl (fun h=>h) (fun i j b a=>?_);show VLe (.fz (Q4Z p.vars.length v i) 2 false (Q6d p g i)) (.fz p.vars.length 2 false (Q6d p g i));rw[show Q4Z p.vars.length v i=p.vars.length from Qe (by omega)];exact vR_
theorem X1N (p:Pr) (g:G) (v:Nat) (l:List Int) (e:p.vars.length<=1000) (h:l.length=p.vars.length) (a:∀x,x<p.vars.length->(bnd g (gV p.vars x) v).1<=gI l x/\gI l x<=(bnd g (gV p.vars x) v).2) :
 Ret Tryz.prog 193 [.fz p.vars.length 2 false (Q6d p g v),.fz l.length 1 false (vI l)] (.bool true):=by
 refine rf Y5l ?_;refine Vq ?_;refine J0h J0c [0,12,13] (fun i:Nat=>[(14,.int .i64 i)]) (fun m i=>m=l.length-i/\i<=l.length) l.length 0 ⟨rfl,Qh _⟩ ?_ ?_
 . exact J0a J1A
 rintro m i ⟨c,d⟩;by_cases b:i<l.length
 . have a:=a i (by omega);refine Vq ?_
   all_goals first
    | (exfalso;omega)
    | (refine⟨l.length-(i+1),i+1,by omega,⟨rfl,by omega⟩,?_⟩
       exact J0a J1A)
 . exact Wq
structure J2O (p:Pr) (g:G) (c:Cf):Prop where
 len:c.length=g.ids.length
 row:∀v,v<c.length->(gC c v).length=p.vars.length
 val:∀v,v<c.length->∀x,x<p.vars.length->(bnd g (gV p.vars x) v).1<=gI (gC c v) x/\gI (gC c v) x<=(bnd g (gV p.vars x) v).2
theorem J2O.fit {p:Pr} (hp:J2C p) {g:G} (hF:J1L p g) (hg:g.valid=true) {c:Cf} (h:J2O p g c):Fit g p.vars.length c:=by
 obtain⟨f1,f2,f3,f4,f5,f6,f7⟩:=J0e hg;refine⟨h.len.trans f3.symm,h.row,fun v b x a=>?_⟩;have e:=h.val v b x a;have d:=J4I hg (hp.var x a) (hF _ a) (v:=v) (by rw[f3,<- h.len];exact b);unfold inR;omega
theorem Q5R (p:Pr) (hp:J2C p) (g:G) (hF:J1L p g) (hg:g.valid=true) (c:Cf) (a:J2O p g c):Ret Tryz.prog 157 [X1j p g,cV c] (.bool true):=by
 obtain⟨f1,f2,f3,f4,f5,f6,f7⟩:=J0e hg;have d:=a.len;refine rf Y5M ?_;refine Vq ?_;refine J0h J0c [1,12,13] (fun i:Nat=>[(14,.int .i64 i)]) (fun m i=>m=g.ids.length-i/\i<=g.ids.length) g.ids.length 0 ⟨rfl,Qh _⟩ ?_ ?_
 . exact J0a J1A
 rintro m i ⟨f,h⟩;by_cases b:i<g.ids.length
 . have e:=X1N p g i (gC c i) hp.vlen (a.row i (by omega)) (a.val i (by omega));refine Vq ?_;refine⟨g.ids.length-(i+1),i+1,by omega,⟨rfl,by omega⟩,?_⟩;exact J0a J1A
 . exact Wq
theorem X3s (p:Pr) (hp:J2C p) (g:G) (a:g.Small) (hF:J1L p g) (hg:g.valid=true) (c:Cf) (b:J2O p g c):Ret Tryz.prog 105 [p.v,g.v,cV c] (.int .i64 0):=by
 have f:=Q3O p hp g a hF hg;have e:=J5y p hp g hF hg;have d:=Q5R p hp g hF hg c b;refine rf Y6n ?_;exact Wq
def mvP (p:Pr) (g:G):V:=.fe 1 5 (tab [[.str p.nm,p.pg.vs,p.pg.rs,scP p.pg g,X1j p g]]) 0 0
theorem X2Q (p:Pr) (hp:J2C p) (g:G) (hF:J1L p g) (hg:g.valid=true) (c:Cf) (e:J2O p g c) (v:Nat) (b:v<g.ports.length) (i:Nat) (d:i<p.rules.length) :
 Ret Tryz.prog 129 [scP p.pg g,cV c,.int .i64 v,.int .i64 i] (.bool (decide ((gRl p.rules i).gd.sem g c v (-1)≠0))):=by
 have a:=hp.gd i d;simp only[Tm.okB,Qg,Qa] at a;have f:=Q03 p.pg g hg (e.fit hp hF hg) v b (gRl p.rules i).gd a.2 a.1;refine rf Y53 ?_
 repeat' ((conv=>whnf);first|(refine Br.bne ?_ ?_<;>intro _<;>try omega)|(refine Ix.q ?_)|(refine f.go ?_))
 all_goals conv=>whnf
 . rename_i h;exact VLe.bool (Qn h).symm
 . rename_i h;exact VLe.bool (Qm (by simpa using h)).symm
def gds (p:Pr) (g:G) (c:Cf) (v:Nat):List Int:=p.rules.map fun r=>r.gd.sem g c v (-1)
def J0z (p:Pr) (g:G) (c:Cf) (v:Nat):Int:=J6s 0 (gds p g c v)
theorem Q9P (p:Pr) (g:G) (c:Cf) (v i:Nat) (a:i<p.rules.length):gI (gds p g c v) i=(gRl p.rules i).gd.sem g c v (-1):=by
 simp[gds,gI,gRl,a]
theorem Q3f (p:Pr) (hp:J2C p) (g:G) (hF:J1L p g) (hg:g.valid=true) (c:Cf) (n:J2O p g c) (v:Nat) (j:v<g.ports.length) :
 Ret Tryz.prog 82 [mvP p g,cV c,.int .i64 v] (.int .i64 (J0z p g c v)):=by
 have k:=hp.rlen;have l:(gds p g c v).length=p.rules.length:=by simp[gds]
 refine rf fj82 ?_
 all_goals conv=>whnf
 refine J0h J0c [0,1,2,13] (fun i:Nat=>[(14,.int .i64 i)]) (fun m i=>m=p.rules.length-i/\i<=p.rules.length/\∀a∈(gds p g c v).take i,a=0) p.rules.length 0 ⟨rfl,Qh _,by simp⟩ ?_ ?_
 . exact J0a J1A
 rintro m i ⟨q,r,b⟩;by_cases d:i<p.rules.length
 . have e:=X2Q p hp g hF hg c n v j i d;have f:=Q9P p g c v i d;by_cases hz:(gRl p.rules i).gd.sem g c v (-1)=0
   . rw[Qm (by simpa using hz)] at e;refine Vq ?_;refine⟨p.rules.length-(i+1),i+1,by omega,⟨rfl,by omega,?_⟩,?_⟩
     . rw[J0M _ i (by omega)];intro a o;rcases Qr.1 o with h|h
       . exact b a h
       . simp at h;rw[h,f];exact hz
     . exact J0a J1A
   . rw[Qn hz] at e;refine Vq ?_;refine VLe.int ?_;rw[J0z,J1X _ 0 i (by omega) b,Q3M _ i (by omega)];simp only[J6s,f];rw[Qe hz];omega
 . refine Vq ?_;refine VLe.int ?_;rw[J0z,J1X _ 0 i (by omega) b,Zh (by omega)];rfl
theorem Y1d (p:Pr) (hp:J2C p) (g:G) (hF:J1L p g) (hg:g.valid=true) (c:Cf) (b:J2O p g c) (v:Nat) (a:v<g.ports.length) :
 Ret Tryz.prog 195 [.int .i64 v,.fe 1 1 (tab [[mvP p g]]) 0 0,.fe 1 1 (tab [[cV c]]) 0 0] (.bool (decide (0<=J0z p g c v))):=by
 have d:=Q3f p hp g hF hg c b v a;refine rf Y5j ?_
 repeat' ((conv=>whnf);first|(refine Br.dec ?_ ?_<;>intro _<;>try omega)|(refine d.go ?_))
 all_goals conv=>whnf
 . rename_i h;exact VLe.bool (Qn (by omega)).symm
 . rename_i h;exact VLe.bool (Qm (by omega)).symm
def enN (p:Pr) (g:G) (c:Cf):Nat:=nb (fun v=>decide (0<=J0z p g c v)) g.ids.length
theorem J6h:∀(l:Lt2) (k i:Nat) (b:Int),i<=l.length->(∀a∈l.take i,a.1≠b)->Q3q k l b=Q3q (k+i) (l.drop i) b
 | _,k,0,_,_,_=>by simp
 | [],k,i+1,b,h,_=>by simp at h
 | a::r,k,i+1,b,h,c=>by
   have e:a.1≠b:=c a (by simp);simp only[Q3q,e,Xy,J8];rw[J6h r (k+1) i b (by simpa using h) (fun x d=>c x (by simp[d]))];congr 1;omega
theorem X9r (g:G) (hg:g.valid=true) (a:Nat) (b:Int) (n:a<g.ports.length):Ret Tryz.prog 178 [g.v,.int .i64 a,.int .i64 b] (.int .i64 (Q3q 0 (gR g.ports a) b)):=by
 have f:=J41 hg a;refine rf Y5s ?_;refine Vq ?_;refine J0h J0c [2,13,14] (fun i:Nat=>[(15,.int .i64 i)]) (fun m i=>m=(gR g.ports a).length-i/\i<=(gR g.ports a).length/\∀l∈(gR g.ports a).take i,l.1≠b) (gR g.ports a).length 0 ⟨rfl,Qh _,by simp⟩ ?_ ?_
 . exact J0a J1v
 rintro m i ⟨k,e,c⟩
 repeat' ((conv=>whnf);first|(refine Br.dec ?_ ?_<;>intro _<;>try omega)|(refine Ar.q ?_)|(refine Ix.q ?_))
 all_goals conv=>whnf
 . refine VLe.int ?_;rename_i h;rw[J6h _ 0 i b e c,J6u _ i (by omega),Q3q,Qe h];omega
 . rename_i h;refine⟨(gR g.ports a).length-(i+1),i+1,by omega,⟨rfl,by omega,?_⟩,?_⟩
   . rw[J18 _ i (by omega)];intro l j;rcases Qr.1 j with d|d
     . exact c l d
     . simp at d;rw[d];exact h
   . exact J0a J1v
 . refine VLe.int ?_;rw[J6h _ 0 i b e c,Zh (by omega)];rfl
def Q1F (g:G) (v:Nat):Nat->Nat->V:=fun i _=>.int .i64 (Q6T g v i)
def Q68 (g:G) (v:Nat):Nat->Nat:=fun i=>if i<v then (gR g.ports i).length else 0
theorem Q16 (g:G) (v:Nat):Q68 g v v=0:=Qb (by omega)
theorem Q40 (g:G) (v i:Nat):J3G (Q68 g v) v (gR g.ports v).length i=Q68 g (v+1) i:=by
 simp only[J3G,Q68];by_cases h:i=v
 . rw[Qe h,Qe (by omega),h]
 . rw[Qb h];by_cases a:i<v
   . rw[Qe a,Qe (by omega)]
   . rw[Qb a,Qb (by omega)]
theorem Q9u (g:G) (v i:Nat):J3G (Q68 g v) v 0 i=Q68 g v i:=by
 simp only[J3G];split
 . rename_i e;subst e;exact(Q16 g i).symm
 . rfl
theorem Q7V (f:Nat->Nat) (v a b i:Nat):J3G f v b i=J3G (J3G f v a) v b i:=by
 simp only[J3G];split<;>rfl
theorem Q1v (g:G) (v i j t:Nat):VLe (J4W (Q1F g) v (Q1F g v) i j t) (Q1F g i j t):=by
 apply vE_;simp only[J4W];split
 . rename_i e;rw[e]
 . rfl
theorem X1x (g:G) (v i a b:Nat) (d:a<i+1) (c:b<1):VLe (J56 (J0m 0 (Q1F g v)) i (J0m 0 (tab [[.int .i64 (Q3q 0 (gR g.ports (gF (gR g.ports v) i).1.toNat) v)]])) a b) (Q1F g v a b):=by
 obtain rfl:b=0:=by omega
 apply vE_;by_cases h:a<i
 . rw[J19 h];simp[J0m]
 . rw[J2a h];have:a=i:=by omega
   subst this;simp[J0m,tab,Q1F,Q6T]
theorem X38 {n s i j:Nat} {f g:Nat->Nat->V} (h:∀a b,a<n->b<s->VLe (f a b) (g a b)):VLe (.fe n s f i j) (.fe n s g i j) :=
 ⟨fun M w u hd=>by
   cases hd with
   | fe _ _ _ _ _ _ b off u k l d c m hd=>exact .fe _ _ _ _ _ _ b off u k l d c m (fun a b e d=>(h a b e d).out _ _ _ (hd a b e d))⟩
theorem X1V (p:Pr) (g:G) (hg:g.valid=true):Ret Tryz.prog 128 [p.v,g.v] (scP p.pg g):=by
 obtain⟨f1,f2,f3,f4,f5,f6,f7⟩:=J0e hg;refine rf Y54 ?_;refine Vq ?_;refine J0s J0c [3,5,19,20] [4] J9F [4,3,2,1,0] (fun v:Nat=>[(21,.int .i64 v)])
  (fun own v=>(4,.vec (Q68 g v v) 1 (Q1F g v))::J2g (J2g (J2g own 3 (.cells [.str p.nm,p.pg.vs,p.pg.rs,.fz g.ids.length 1 false (vI g.ids),.fz g.ports.length 1 false (vP g.ports),.int .i64 (J64 (g.ids.take v) 0),.vec 2 1 0 g.ports.length])) 2 (.fam g.ports.length 1 (Q68 g v) (Q1F g) [])) 2 (.fam g.ports.length 1 (Q68 g v) (Q1F g) (opn v g.ports.length 4))) (fun k v=>k=g.ports.length-v/\v<=g.ports.length) g.ports.length 0 ⟨rfl,Qh _⟩ rfl (fun _=>rfl) ?_ ?_
 . have e:opn 0 g.ports.length 4=[(0,4)]:=Qe (by omega);simp only[e];refine J3b.trans ?_ (J0Q (ks:=J3j) rfl rfl rfl (by omega) rfl) (J2H rfl);refine J0d J1u ?_ ?_ rfl
   . repeat' (first|exact tI|(refine⟨⟨_,rfl,?_⟩,?_⟩)|exact J0b.kf rfl|exact J0b.loc rfl)
   . repeat' (first|exact⟨rfl,rfl,rfl,fun i c=>⟨rfl,Qb (by omega)⟩⟩|exact tI|(refine⟨⟨_,rfl,?_⟩,?_⟩)|exact J0b.kf rfl|exact J0b.q|apply And.intro)
 rintro k v ⟨hk,z⟩;by_cases d:v<g.ports.length
 . have e:opn v g.ports.length 4=[(v,4)]:=Qe d;simp only[e];have w:=J41 hg v;refine Vq ?_;refine J0s J0c [3,5,6,19,20,21,39,40] [4] J9F [4,3,2,1,0] (fun i:Nat=>[(41,.int .i64 i)])
    (fun own i=>J2g (J2g own 4 (.vec i 1 (Q1F g v))) 2 (.fam g.ports.length 1 (J3G (Q68 g v) v i) (Q1F g) [(v,4)])) (fun k i=>k=(gR g.ports v).length-i/\i<=(gR g.ports v).length) (gR g.ports v).length 0 ⟨rfl,Qh _⟩ rfl (fun _=>rfl) ?_ ?_
   . refine J0d J4A ?_ ?_ rfl
     . repeat' (first|exact tI|(refine⟨⟨_,rfl,?_⟩,?_⟩)|exact J0b.kf rfl|exact J0b.loc rfl)
     . repeat' (first|exact⟨rfl,rfl,⟨rfl,rfl,tI⟩,fun i c=>Q9u _ _ _,fun i j t c n f m=>vR_⟩|exact tI|(refine⟨⟨_,rfl,?_⟩,?_⟩)|exact J0b.kf rfl|exact J0b.q|(refine⟨by omega,rfl,fun i j c f=>?_⟩)|exact vR_|apply And.intro)
   rintro k i ⟨x,c⟩;by_cases o:i<(gR g.ports v).length
   . have A:=J75 (f6 v d) o;have hp:=X9r g hg (gF (gR g.ports v) i).1.toNat v (by omega);rw[show(((gF (gR g.ports v) i).1.toNat:Nat):Int)=(gF (gR g.ports v) i).1 by omega] at hp
     repeat' ((conv=>whnf);first|(refine Br.dec ?_ ?_<;>intro _<;>try omega)|(refine Br.nbeq ?_ ?_<;>intro _<;>try omega)|(refine Ar.q ?_)|(refine Ix.q ?_)|(refine Len.q ?_)|(refine Ltn.q ?_)|(refine hp.go ?_)|(refine Opn.hdl (by omega) (show J3G _ _ _ _=i from Qe rfl) ?_)|(refine And.intro (Ltn.mk (by omega) (Opn.hdl (by omega) (show J3G _ _ _ _=i from Qe rfl) rfl)) ?_)|(refine J45.hd (by omega) ?_)|(refine And.intro rfl ?_))
     all_goals conv=>whnf
     refine⟨(gR g.ports v).length-(i+1),i+1,by omega,⟨rfl,by omega⟩,?_⟩;refine J0d (fun env own=>[(0,some 0),(1,some 1),(2,some 2),(3,some 3),(4,Q2X env 63)]) ?_ ?_ rfl
     . repeat' (first|exact tI|(refine⟨⟨_,rfl,?_⟩,?_⟩)|exact J0b.kf rfl|exact J0b.loc rfl)
     . repeat' (first|exact⟨rfl,rfl,⟨rfl,rfl,tI⟩,fun i c=>Q7V _ _ _ _ _,fun i j t c n f m=>vR_⟩|exact⟨Qd _,rfl,fun a b u l=>X1x g v i a b u l⟩|exact tI|(refine⟨⟨_,rfl,?_⟩,?_⟩)|exact J0b.kf rfl|exact J0b.q|apply And.intro)
   . have y:i=(gR g.ports v).length:=by omega
     subst y;refine Vq ?_;refine⟨g.ports.length-(v+1),v+1,by omega,⟨rfl,by omega⟩,?_⟩;refine J3b.trans (J1M (J1q (q:=4) (k:=2) (i:=v) [] rfl rfl d (J0j rfl) (Y4 (Qe rfl)) rfl (fun j f=>(J0o (fun e=>f e.symm)).symm))) ?_ (J9E rfl);have em:J64 (g.ids.take (v+1)) 0=if gI g.ids v > J64 (g.ids.take v) 0 then gI g.ids v else J64 (g.ids.take v) 0:=by rw[J0M g.ids v (by omega),J5I]
     simp only[em];by_cases r:v+1<g.ports.length
     . have s:opn (v+1) g.ports.length 4=[(v+1,4)]:=Qe r;simp only[s];refine J3b.trans ?_ (J0Q (ks:=J3j) rfl rfl rfl r rfl) (J2H rfl);refine J0d J1u ?_ ?_ rfl
       . repeat' (first|exact tI|(refine⟨⟨_,rfl,?_⟩,?_⟩)|exact J0b.kf rfl|exact J0b.loc rfl)
       . repeat' (first|exact⟨rfl,rfl,tI,fun i c=>(Q40 _ _ _).symm,fun i j t c n f m=>Q1v g v i j t⟩|exact tI|(refine⟨⟨_,rfl,?_⟩,?_⟩)|exact J0b.kf rfl|exact J0b.q|apply And.intro)
     . have s:opn (v+1) g.ports.length 4=[]:=Qb r;simp only[s];refine J0d (fun _ _=>[(0,some 0),(1,some 1),(2,some 2),(3,some 3),(4,none)]) ?_ ?_ rfl
       . repeat' (first|exact tI|(refine⟨⟨_,rfl,?_⟩,?_⟩)|exact J0b.kf rfl|exact J0b.loc rfl)
       . repeat' (first|exact⟨rfl,rfl,tI,fun i c=>(Q40 _ _ _).symm,fun i j t c n f m=>Q1v g v i j t⟩|exact⟨1,Q1F g (v+1),by rw[Q16]⟩|exact tI|(refine⟨⟨_,rfl,?_⟩,?_⟩)|exact J0b.kf rfl|exact J0b.q|apply And.intro)
 . have e:opn v g.ports.length 4=[]:=Qb d;have B:v=g.ports.length:=by omega
   simp only[e];refine Vq ?_;refine X38 (fun a b u l=>?_);obtain rfl:a=0:=by omega
   have l:b<7:=l;have em:J64 (g.ids.take v) 0=Q07 g:=by rw[Qz (by omega)];rfl
   rcases (show b=0\/b=1\/b=2\/b=3\/b=4\/b=5\/b=6 by omega) with rfl|rfl|rfl|rfl|rfl|rfl|rfl
   . exact vR_
   . exact vR_
   . exact vR_
   . exact vR_
   . exact vR_
   . exact VLe.int em
   . refine VLe.fz rfl (fun h=>h) (fun i j c f=>?_);show VLe (.fz (Q68 g v i) 1 false (Q1F g i)) (.fz (gR g.ports i).length 1 false (Q1F g i));rw[show Q68 g v i=(gR g.ports i).length from Qe (by omega)];exact vR_
theorem Q4R (p:Pr) (hp:J2C p) (g:G) (hF:J1L p g) (hg:g.valid=true):Ret Tryz.prog 78 [p.v,g.v] (mvP p g):=by
 have b:=X1V p g hg;have a:=J5y p hp g hF hg;refine rf fj78 ?_;exact Wq
theorem Q7R (p:Pr) (hp:J2C p) (g:G) (hF:J1L p g) (hg:g.valid=true) (c:Cf) (d:J2O p g c) :
 J0N Tryz.prog 194 [.int .i64 g.ids.length,.fn (.func 195) false [.loc 0 0,.loc 1 0]] [(1,.cells [cV c]),(0,.cells [mvP p g])] J1k fun v own' _=>v=.int .u32 (enN p g c)/\own'=[(1,.cells [cV c]),(0,.cells [mvP p g])]:=by
 obtain⟨f1,f2,f3,f4,f5,f6,f7⟩:=J0e hg;refine fr Y5k ?_
 all_goals conv=>whnf
 refine J0h J0c [1,7] (fun i:Nat=>[(5,.int .u32 (nb (fun v=>decide (0<=J0z p g c v)) i)),(8,.int .i64 i)]) (fun m i=>m=g.ids.length-i/\i<=g.ids.length) g.ids.length 0 ⟨rfl,Qh _⟩ ?_ ?_
 . exact J0a J0r
 rintro m i ⟨f,h⟩;by_cases b:i<g.ids.length
 . have he:=Y1d p hp g hF hg c d i (by omega);cases hd:decide (0<=J0z p g c i) with
   | true =>
     rw[hd] at he
     repeat' ((conv=>whnf);first|(refine Br.tt ?_)|(refine Br.dec ?_ ?_<;>intro _<;>try omega)|(refine Ar.q ?_)|(refine Ar.sh1 (by omega) ?_)|(refine Sv.mk _ rfl ?_)|(refine Nn.mk (by omega) ?_)|(refine Chk.q ?_)|(refine J2e he rfl ⟨vR_,vR_,vR_,tI⟩ ?_))
     all_goals conv=>whnf
     have a:=X2s (p:=fun v=>decide (0<=J0z p g c v)) (k:=i) (by omega) hd;refine⟨g.ids.length-(i+1),i+1,by omega,⟨rfl,by omega⟩,?_⟩;exact J0a J0r
   | false =>
     rw[hd] at he
     repeat' ((conv=>whnf);first|(refine Br.ff ?_)|(refine Br.dec ?_ ?_<;>intro _<;>try omega)|(refine Ar.q ?_)|(refine Chk.q ?_)|(refine J2e he rfl ⟨vR_,vR_,vR_,tI⟩ ?_))
     all_goals conv=>whnf
     have a:=X6T (p:=fun v=>decide (0<=J0z p g c v)) (k:=i) hd;refine⟨g.ids.length-(i+1),i+1,by omega,⟨rfl,by omega⟩,?_⟩;exact J0a J0r
 . refine Vq ?_;have e:i=g.ids.length:=by omega
   exact⟨by rw[enN,e],rfl⟩
theorem X4D (p:Pr) (hp:J2C p) (g:G) (hF:J1L p g) (hg:g.valid=true) (c:Cf) (b:J2O p g c):Ret Tryz.prog 159 [mvP p g,cV c] (.int .u32 (enN p g c)):=by
 have a:=Q7R p hp g hF hg c b;refine rf Y5K ?_
 repeat' ((conv=>whnf);first|(refine J3y [(0,some 0),(1,some 1)] [] (a.mono ?_) ⟨J0b.int rfl,J0b.fn ⟨J0b.loc rfl,J0b.loc rfl,tI⟩,tI⟩ (by repeat' (first|exact tI|(refine⟨⟨_,rfl,?_⟩,?_⟩)|exact J0b.kf rfl|apply And.intro)) rfl;rintro _ _ _ ⟨rfl,rfl⟩)|(refine Chk.mk rfl ?_))
 all_goals conv=>whnf
 exact vR_
def brI (kind a b v:Int):Int:=if a<=v/\v<=b then v else if kind=3 then -1 else if v<a then a else b
theorem Q5I (kind a b v:Int):Ret Tryz.prog 131 [.int .i64 kind,.agg [.int .i64 a,.int .i64 b],.int .i64 v] (.int .i64 (brI kind a b v)):=by
 refine rf Y50 ?_;rw[brI]
 repeat' ((conv=>whnf);first|(refine Br.dec ?_ ?_<;>intro _<;>try omega)|(refine Ix.mk 0 rfl (by omega) ?_)|(refine Ix.mk 1 rfl (by omega) ?_))
 all_goals conv=>whnf
 all_goals refine VLe.int ?_
 all_goals repeat' split
 all_goals omega
def X6I (p:Pr) (g:G) (c:Cf) (v:Nat) (st:List Int) (s:Int×Tm):List Int :=
 st.set s.1.toNat (brI (gV p.vars s.1.toNat).kind (bnd g (gV p.vars s.1.toNat) v).1 (bnd g (gV p.vars s.1.toNat) v).2 (s.2.sem g c v (-1)))
def X1l (p:Pr) (g:G) (c:Cf) (v:Nat) (l:List (Int×Tm)):List Int:=l.foldl (X6I p g c v) (gC c v)
def J1P (p:Pr) (g:G) (c:Cf) (v r:Nat):List Int:=X1l p g c v (gRl p.rules r).sets
theorem J2Q (p:Pr) (g:G) (c:Cf) (v:Nat):∀(l:List (Int×Tm)),(X1l p g c v l).length=(gC c v).length:=by
 intro l;rw[X1l];generalize gC c v=st
 induction l generalizing st with
 | nil=>rfl
 | cons s r a=>rw[Yf,a];simp[X6I]
theorem Q3L (l:List (Int×Tm)) (i:Nat) (h:i<l.length):l.take (i+1)=l.take i++[gS l i]:=by
 rw[Xn h];simp only[gS,List.getD,Qp h,Xp]
theorem J7Z (p:Pr) (g:G) (c:Cf) (v:Nat) (l:List (Int×Tm)) (s:Int×Tm):X1l p g c v (l++[s])=X6I p g c v (X1l p g c v l) s:=by
 simp[X1l,Y6]
theorem J96 (r:List Int) (u i t:Nat) (d:Int) (a:u<r.length) (b:t<1):VLe (J1l (vI r) u 0 [.int .i64 d] i t) (vI (r.set u d) i t):=by
 obtain rfl:t=0:=by omega
 apply vE_;simp only[J1l,vI,gI,List.getD,Jr];by_cases h:i=u
 . subst h;simp[a]
 . have:¬ u=i:=fun e=>h e.symm;simp[h,this]
theorem X6V (p:Pr) (hp:J2C p) (g:G) (hF:J1L p g) (hg:g.valid=true) (c:Cf) (d:J2O p g c) (v:Nat) (o:v<g.ports.length) (r:Nat) (l:r<p.rules.length) :
 Ret Tryz.prog 83 [mvP p g,cV c,.int .i64 v,.int .i64 r] (.fz (J1P p g c v r).length 1 false (vI (J1P p g c v r))):=by
 obtain⟨f1,f2,f3,f4,f5,f6,f7⟩:=J0e hg;have w:=d.len;have k:=d.row v (by omega);have n:=hp.vlen;have s:=hp.slen r l;refine rf fj83 ?_;refine Vq ?_;refine J1y J0c [0,1,2,9,26,27] [] J5N [0] (fun j:Nat=>[(28,.int .i64 j)]) (fun j=>[(0,.vec (gC c v).length 1 (vI (X1l p g c v ((gRl p.rules r).sets.take j))))]) (fun m j=>m=(gRl p.rules r).sets.length-j/\j<=(gRl p.rules r).sets.length) (gRl p.rules r).sets.length 0 ⟨rfl,Qh _⟩ rfl (fun _=>rfl) ?_ ?_
 . exact J0a J1v
 rintro m j ⟨A,B⟩;by_cases a:j<(gRl p.rules r).sets.length
 . obtain⟨z,y,b⟩:=hp.set r l j a;simp only[Tm.okB,Qg,Qa] at b;have e:=Q03 p.pg g hg (d.fit hp hF hg) v o (gS (gRl p.rules r).sets j).2 b.2 b.1;have x:=Q5I (gV p.vars (gS (gRl p.rules r).sets j).1.toNat).kind (bnd g (gV p.vars (gS (gRl p.rules r).sets j).1.toNat) v).1 (bnd g (gV p.vars (gS (gRl p.rules r).sets j).1.toNat) v).2 ((gS (gRl p.rules r).sets j).2.sem g c v (-1));refine Vq ?_;refine⟨(gRl p.rules r).sets.length-(j+1),j+1,by omega,⟨rfl,by omega⟩,?_⟩;simp only[Q3L _ j a,J7Z];refine J0d J1v ?_ ?_ rfl
   . repeat' (first|exact tI|(refine⟨⟨_,rfl,?_⟩,?_⟩)|exact J0b.kf rfl|exact J0b.q)
   . repeat' (first|exact⟨Qd _,rfl,fun i t u f=>by simp only[Qk];exact J96 _ _ _ _ _ (by rw[J2Q];omega) f⟩|exact tI|(refine⟨⟨_,rfl,?_⟩,?_⟩))
 . refine Vq ?_;rw[Qz (by omega)];exact VLe.fz (J2Q _ _ _ _ _).symm (fun h=>h) (fun i t u f=>vE_ (by simp[J0m,J1P]))
theorem J9e (c:Cf) (F:Nat->Nat->V) (n v i t:Nat) (f:t<1) (a:Nat->Nat->V) (d:∀i,i≠v->a i 0=F i 0) (X:V) (b:VLe X (a v 0)):VLe (J1l F v 0 [X] i t) (a i t):=by
 obtain rfl:t=0:=by omega
 by_cases h:i=v
 . subst h;have e:J1l F i 0 [X] i 0=X:=by simp[J1l]
   rw[e];exact b
 . apply vE_;simp only[J1l];rw[Qb (by simp[h]),d i h]
def cpF (c:Cf) (j:Nat):Nat->Nat->V:=fun i _=>if i<j then .fz (gC c i).length 1 false (vI (gC c i)) else .nilslice
theorem X0r (c:Cf) (r:c.length<=1000) (l:∀v,v<c.length->(gC c v).length<=1000):J0N Tryz.prog 158 [cV c] [] KS fun X own' _=>X=.vec 0 1 0 c.length/\own'=[(0,.vec c.length 1 (vC c))]:=by
 refine J2d ?_;refine fr Y5L ?_;refine Vq ?_;refine J1y J0c [3,9,10] [] J5N [0] (fun j:Nat=>[(11,.int .i64 j)]) (fun j=>[(0,.vec c.length 1 (cpF c j))]) (fun m j=>m=c.length-j/\j<=c.length) c.length 0 ⟨rfl,Qh _⟩ rfl (fun _=>rfl) ?_ ?_
 . refine J0d J1v ?_ ?_ rfl
   . repeat' (first|exact tI|(refine⟨⟨_,rfl,?_⟩,?_⟩)|exact J0b.kf rfl|exact J0b.q)
   . repeat' (first|exact⟨Qd _,rfl,fun i j f o=>vE_ (by obtain rfl:j=0:=(by omega);rfl)⟩|exact tI|(refine⟨⟨_,rfl,?_⟩,?_⟩))
 rintro m j ⟨p,o⟩;by_cases d:j<c.length
 . have k:=l j d;refine Vq ?_;refine⟨c.length-(j+1),j+1,by omega,⟨rfl,by omega⟩,?_⟩;refine J0d J1v ?_ ?_ rfl
   . repeat' (first|exact tI|(refine⟨⟨_,rfl,?_⟩,?_⟩)|exact J0b.kf rfl|exact J0b.q)
   . repeat' (first|exact⟨Qd _,rfl,fun i t f g=>by simp only[Qk];exact J9e c _ c.length j i t g _ (fun i n=>by simp only[cpF];by_cases h:i<j<;>simp[h]<;>omega) _ (by simp only[cpF];rw[Qe (by omega)];exact VLe.fz rfl (fun h=>h) (fun a b u s=>vE_ (by simp[J0m])))⟩|exact tI|(refine⟨⟨_,rfl,?_⟩,?_⟩))
 . have e:j=c.length:=by omega
   subst e;refine Vq ?_;exact J2R (fun _=>[(0,some 0)]) _ _ ⟨rfl,rfl⟩ (J0b.vec rfl rfl rfl) ⟨⟨_,rfl,Qd _,rfl,fun i t f g=>vE_ (by simp only[cpF,vC];rw[Qe f])⟩,tI⟩ rfl
def J12 (p:Pr) (g:G) (c:Cf) (s:Nat):Cf:=(List.range c.length).map fun v=>if s.testBit v then J1P p g c v (J0z p g c v).toNat else gC c v
def stF (p:Pr) (g:G) (c:Cf) (s j:Nat):Nat->Nat->V:=fun i _=>if i<j/\s.testBit i=true then .fz (J1P p g c i (J0z p g c i).toNat).length 1 false (vI (J1P p g c i (J0z p g c i).toNat)) else .fz (gC c i).length 1 false (vI (gC c i))
theorem X1P (p:Pr) (g:G) (c:Cf) (s j i t:Nat) (d:s.testBit j=true) (a:t<1) (F:V) (hF:VLe F (.fz (J1P p g c j (J0z p g c j).toNat).length 1 false (vI (J1P p g c j (J0z p g c j).toNat)))) :
 VLe (J1l (stF p g c s j) j 0 [F] i t) (stF p g c s (j+1) i t) :=
 J9e c _ 0 j i t a _ (fun i b=>by
  simp only[stF];by_cases h:i<j
  . simp[h,Nat.lt_succ_of_lt h]
  . have e:¬ i<j+1:=by omega
    simp[h,e]) _ (by simp only[stF];rw[Qe ⟨by omega,d⟩];exact hF)
theorem X1O (p:Pr) (g:G) (c:Cf) (s j i t:Nat) (b:s.testBit j=false):VLe (stF p g c s j i t) (stF p g c s (j+1) i t):=by
 apply vE_;simp only[stF];by_cases h:i=j
 . subst h;simp[b]
 . by_cases a:i<j
   . simp[a,Nat.lt_succ_of_lt a]
   . have d:¬ i<j+1:=by omega
     simp[a,d]
theorem J26 (p:Pr) (g:G) (c:Cf) (s:Nat):(J12 p g c s).length=c.length:=by simp[J12]
theorem J2x (p:Pr) (g:G) (c:Cf) (s:Nat) {v:Nat} (a:v<c.length):gC (J12 p g c s) v=if s.testBit v then J1P p g c v (J0z p g c v).toNat else gC c v:=by
 simp[J12,gC,a]
theorem J7f (p:Pr) (g:G) (c:Cf) (v:Nat):J0z p g c v<p.rules.length:=by
 have:=J6r (gds p g c v) 0;have a:(gds p g c v).length=p.rules.length:=by simp[gds]
 rw[J0z];omega
theorem X1S {s k:Nat} (a:s<4294967296) (hk:k<32):(J3C .and .u32 ((s:Int).fdiv (2 ^ (min (k:Int).toNat IntKind.u32.bits))) 1=1)↔s.testBit k=true:=Q7U a hk
theorem X2u (p:Pr) (hp:J2C p) (g:G) (hF:J1L p g) (hg:g.valid=true) (c:Cf) (b:J2O p g c) (s:Nat) (A:s<4294967296) (o:∀v,v<c.length->s.testBit v=true->0<=J0z p g c v) :
 Ret Tryz.prog 161 [mvP p g,cV c,.int .u32 s] (cV (J12 p g c s)):=by
 obtain⟨f1,f2,f3,f4,f5,f6,f7⟩:=J0e hg;have D:=b.len;have y:=hp.vlen;have u:=X0r c (by omega) (fun v z=>by have:=b.row v z;omega);refine rf Y5I ?_
 repeat' ((conv=>whnf);first|(refine J3y [] [0] (u.mono ?_) ⟨J0b.kf rfl,tI⟩ tI rfl;rintro _ _ _ ⟨rfl,rfl⟩)|(refine Chk.mk rfl ?_))
 all_goals conv=>whnf
 refine J1y J0c [0,1,2,7,12] [] J5N [0] (fun j:Nat=>[(13,.int .i64 j)]) (fun j=>[(0,.vec c.length 1 (stF p g c s j))]) (fun m j=>m=c.length-j/\j<=c.length) c.length 0 ⟨rfl,Qh _⟩ rfl (fun _=>rfl) ?_ ?_
 . exact J0a J1v
 rintro m j ⟨F,H⟩;by_cases l:j<c.length
 . have x:=X1S (s:=s) (k:=j) A (by omega);cases a:s.testBit j with
   | true =>
     have E:=x.2 a;obtain⟨r,w⟩:∃r:Nat,J0z p g c j=r:=⟨(J0z p g c j).toNat,by have:=o j l a;omega⟩;have B:=J7f p g c j;have f:=Q3f p hp g hF hg c b j (by omega);have C:=X6V p hp g hF hg c b j (by omega) r (by omega);rw[w] at f;refine Vq ?_;refine⟨c.length-(j+1),j+1,by omega,⟨rfl,by omega⟩,?_⟩;refine J0d J1v ?_ ?_ rfl
     . repeat' (first|exact tI|(refine⟨⟨_,rfl,?_⟩,?_⟩)|exact J0b.kf rfl|exact J0b.q)
     . repeat' (first|exact⟨Qd _,rfl,fun i t n d=>by simp only[Qk];exact X1P p g c s j i t a d _ (by rw[w];exact vR_)⟩|exact tI|(refine⟨⟨_,rfl,?_⟩,?_⟩))
   | false =>
     have E:¬ (J3C .and .u32 ((s:Int).fdiv (2 ^ (min (j:Int).toNat IntKind.u32.bits))) 1=1):=fun e=>by rw[x.1 e] at a;cases a
     refine Vq ?_;refine⟨c.length-(j+1),j+1,by omega,⟨rfl,by omega⟩,?_⟩;refine J0d J1v ?_ ?_ rfl
     . repeat' (first|exact tI|(refine⟨⟨_,rfl,?_⟩,?_⟩)|exact J0b.kf rfl|exact J0b.q)
     . repeat' (first|exact⟨Qd _,rfl,fun i t n d=>X1O p g c s j i t a⟩|exact tI|(refine⟨⟨_,rfl,?_⟩,?_⟩))
 . refine Vq ?_;refine VLe.fz (J26 p g c s).symm (fun h=>h) (fun i t n d=>vE_ ?_);show J0m 0 (stF p g c s j) i t=.fz (gC (J12 p g c s) i).length 1 false (vI (gC (J12 p g c s) i));rw[J2x p g c s n,J0l,Qk];simp only[stF];by_cases a:s.testBit i=true
   . rw[Qe ⟨by omega,a⟩,Qe a]
   . rw[Qb (fun h=>a h.2),Qb a]
end Go.Proofs.YtcbnimaicgegfaaGreatDoor
namespace Go.Plain.Mx
def pr (sz:Nat->Nat):Nat->Nat->Nat
 | _,0=>1
 | a,l+1=>sz a*pr sz (a+1) l
def vl (sz d:Nat->Nat):Nat->Nat->Nat
 | _,0=>0
 | a,l+1=>d a*pr sz (a+1) l+vl sz d (a+1) l
variable {sz:Nat->Nat}
theorem pr_pos (h:∀i,0<sz i):∀l a,0<pr sz a l
 | 0,_=>Nat.one_pos
 | l+1,a=>Nat.mul_pos (h a) (pr_pos h l (a+1))
theorem pr_snoc:∀l a,pr sz a (l+1)=pr sz a l*sz (a+l)
 | 0,a=>by simp[pr]
 | l+1,a=>by
   rw[pr,pr_snoc l (a+1),pr,Yp];congr 2;congr 1;omega
theorem vl_lt {d:Nat->Nat}:∀l a,(∀i,a<=i->i<a+l->d i<sz i)->vl sz d a l<pr sz a l
 | 0,_,_=>Nat.one_pos
 | l+1,a,h=>by
   have e:=vl_lt l (a+1) (fun i q q2=>h i (by omega) (by omega));have c:=h a (Qd _) (by omega);rw[vl,pr];have b:(d a+1)*pr sz (a+1) l<=sz a*pr sz (a+1) l:=Q5 _ c;rw[Xc] at b;omega
theorem vl_ext {d e:Nat->Nat}:∀l a,(∀i,a<=i->i<a+l->d i=e i)->vl sz d a l=vl sz e a l
 | 0,_,_=>rfl
 | l+1,a,h=>by rw[vl,vl,h a (Qd _) (by omega),vl_ext l (a+1) (fun i q q2=>h i (by omega) (by omega))]
def dg (sz:Nat->Nat) (N k i:Nat):Nat:=k / pr sz (i+1) (N-(i+1)) % sz i
theorem dg_lt (h:∀i,0<sz i) (N k i:Nat):dg sz N k i<sz i:=Z5 _ (h i)
theorem X8Z (h:∀i,0<sz i) (N k:Nat):∀l a,a+l=N->vl sz (dg sz N k) a l=k % pr sz a l
 | 0,a,_=>by simp[vl,pr,J1]
 | l+1,a,e=>by
   rw[vl,X8Z h N k l (a+1) (by omega),dg,show N-(a+1)=l by omega,pr];have hp:=pr_pos h l (a+1);generalize pr sz (a+1) l=P at *;generalize sz a=s at *;rw[Xw s P,Kv,Xw (k / P % s) P,Z8]
theorem Y1f (h:∀i,0<sz i) (N:Nat) (d:Nat->Nat) (hd:∀i,i<N->d i<sz i):∀l a,a+l=N->∀i,a<=i->i<N->∀b,dg sz N (b*pr sz a l+vl sz d a l) i=d i
 | 0,a,e,i,j,c,b=>by omega
 | l+1,a,e,i,j,c,b=>by
   have f:=vl_lt (sz:=sz) (d:=d) l (a+1) (fun i q q2=>hd i (by omega));have g:=pr_pos h l (a+1);rw[vl,pr];have e2:b*(sz a*pr sz (a+1) l)+(d a*pr sz (a+1) l+vl sz d (a+1) l)=(b*sz a+d a)*pr sz (a+1) l+vl sz d (a+1) l:=by
    rw[Xc,Yp];omega
   rw[e2];by_cases q:i=a
   . subst q;rw[dg,show N-(i+1)=l by omega];rw[Z8 ((b*sz i+d i)*_),Jz _ _ g,Z9 f,Qk,Z8,Jk,Xh (hd i c)]
   . exact Y1f h N d hd l (a+1) (by omega) i (by omega) c _
theorem Y1g (h:∀i,0<sz i) {N:Nat} {d:Nat->Nat} (hd:∀i,i<N->d i<sz i) {i:Nat} (a:i<N):dg sz N (vl sz d 0 N) i=d i:=by
 have:=Y1f h N d hd N 0 (by omega) i (Qh _) a 0;simpa using this
theorem val_dg (h:∀i,0<sz i) {N k:Nat} (hk:k<pr sz 0 N):vl sz (dg sz N k) 0 N=k:=by
 rw[X8Z h N k N 0 (by omega),Xh hk]
theorem rest_step (N k i:Nat) (a:i<N):k / pr sz (i+1) (N-(i+1)) / sz i=k / pr sz i (N-i):=by
 rw[Jv,show N-i=N-(i+1)+1 by omega,pr,Xw]
theorem Q7o {d:Nat->Nat}:∀l a,(∀i,a<=i->i<a+l->d i=0)->vl sz d a l=0
 | 0,_,_=>rfl
 | l+1,a,h=>by rw[vl,h a (Qd _) (by omega),Q7o l (a+1) (fun i q q2=>h i (by omega) (by omega)),Zr]
theorem Q24 (h:∀i,0<sz i) {d:Nat->Nat}:∀l a,(∀i,a<=i->i<a+l->d i+1=sz i)->vl sz d a l+1=pr sz a l
 | 0,_,_=>rfl
 | l+1,a,q=>by
   have c:=Q24 h (d:=d) l (a+1) (fun i q1 q2=>q i (by omega) (by omega));have b:=q a (Qd _) (by omega);rw[vl,pr,<- b,Xc];omega
def nx (d:Nat->Nat) (i j:Nat):Nat:=if j<i then d j else if j=i then d j+1 else 0
theorem X8Y (h:∀i,0<sz i) (d:Nat->Nat) (N i:Nat) (c:i<N) (b:∀j,i<j->j<N->d j+1=sz j):∀l a,a+l=N->a<=i->vl sz (nx d i) a l=vl sz d a l+1
 | 0,a,e,q=>by omega
 | l+1,a,e,q=>by
   rw[vl,vl];by_cases f:a=i
   . subst f;rw[Q7o (d:=nx d a) l (a+1) (fun j q1 q2=>by rw[nx,Qb (by omega),Qb (by omega)]),nx,Qb (by omega),Qe rfl,Xc];have:=Q24 h (d:=d) l (a+1) (fun j q1 q2=>b j (by omega) (by omega));omega
   . rw[X8Y h d N i c b l (a+1) (by omega) (by omega),nx,Qe (by omega)];omega
theorem dg_next (h:∀i,0<sz i) {N k i:Nat} (hk:k<pr sz 0 N) (d:i<N) (c:dg sz N k i+1<sz i) (f:∀j,i<j->j<N->dg sz N k j+1=sz j) {j:Nat} (a:j<N):dg sz N (k+1) j=nx (dg sz N k) i j:=by
 have b:=X8Y h (dg sz N k) N i d f N 0 (by omega) (Qh _);rw[val_dg h hk] at b;rw[<- b];refine Y1g h (fun j a=>?_) a;rw[nx];split
 . exact dg_lt h _ _ _
 . split
   . rename_i e;subst e;exact c
   . exact h j
theorem dg_last (h:∀i,0<sz i) {N k:Nat} (hk:k<pr sz 0 N) (a:∀j,j<N->dg sz N k j+1=sz j):k+1=pr sz 0 N:=by
 rw[<- Q24 h (d:=dg sz N k) N 0 (fun j _ q2=>a j (by omega)),val_dg h hk]
theorem dg_zero (N i:Nat):dg sz N 0 i=0:=by simp[dg]
theorem vl_diff {d e:Nat->Nat}:∀l a,(vl sz e a l:Int)=vl sz d a l+((List.range l).map fun i=>((e (a+i):Int)-d (a+i))*pr sz (a+i+1) (l-(i+1))).sum
 | 0,a=>by simp[vl]
 | l+1,a=>by
   rw[vl,vl,List.range_succ_eq_map,Qv,Kg,List.sum_cons];have b:=vl_diff (d:=d) (e:=e) l (a+1);have c:((fun i=>((e (a+i):Int)-d (a+i))*pr sz (a+i+1) (l+1-(i+1))) ∘ Nat.succ)=fun i=>((e (a+1+i):Int)-d (a+1+i))*pr sz (a+1+i+1) (l-(i+1)):=by
    funext i;simp only[Function.comp];rw[show a+i.succ=a+1+i by omega,show l+1-(i.succ+1)=l-(i+1) by omega]
   rw[c]
   push_cast
   rw[b];simp only[Xx];have:((e a:Int)-d a)*(pr sz (a+1) l:Int)=e a*pr sz (a+1) l-d a*pr sz (a+1) l:=Int.sub_mul _ _ _;rw[this];omega
end Go.Plain.Mx
namespace Go.Proofs.YtcbnimaicgegfaaGreatDoor
open Go.Eng Go.Plain
set_option maxRecDepth 100000
def loP (p:Pr) (g:G) (v x:Nat):Int:=(bnd g (gV p.vars x) v).1
def hiP (p:Pr) (g:G) (v x:Nat):Int:=(bnd g (gV p.vars x) v).2
def szX (p:Pr) (g:G) (v x:Nat):Nat:=(hiP p g v x-loP p g v x).toNat+1
def szP (p:Pr) (g:G) (i:Nat):Nat:=szX p g (i / p.vars.length) (i % p.vars.length)
abbrev nP (p:Pr) (g:G):Nat:=g.ids.length*p.vars.length
def J1z (p:Pr) (g:G):Nat:=Mx.pr (szP p g) 0 (nP p g)
def dgP (p:Pr) (g:G) (k v x:Nat):Nat:=Mx.dg (szP p g) (nP p g) k (v*p.vars.length+x)
def plP (p:Pr) (g:G) (v x:Nat):Nat:=Mx.pr (szP p g) (v*p.vars.length+x+1) (nP p g-(v*p.vars.length+x+1))
def cfK (p:Pr) (g:G) (k:Nat):Cf:=(List.range g.ids.length).map fun v=>(List.range p.vars.length).map fun x=>loP p g v x+dgP p g k v x
def dgC (p:Pr) (g:G) (c:Cf) (i:Nat):Nat:=(gI (gC c (i / p.vars.length)) (i % p.vars.length)-loP p g (i / p.vars.length) (i % p.vars.length)).toNat
def rkC (p:Pr) (g:G) (c:Cf):Nat:=Mx.vl (szP p g) (dgC p g c) 0 (nP p g)
theorem J2E (p:Pr) (g:G) (i:Nat):0<szP p g i:=Ve _
theorem X3p (p:Pr) (g:G):0<J1z p g:=Mx.pr_pos (J2E p g) _ _
theorem J5P {m v x:Nat} (h:x<m):(v*m+x) / m=v:=by
 rw[Xw,Nat.mul_add_div (by omega),Z9 h,Xx]
theorem Q2c {m v x:Nat} (h:x<m):(v*m+x) % m=x:=by
 rw[Xw,Kw,Xh h]
theorem J86 {m n v x:Nat} (a:v<n) (b:x<m):v*m+x<n*m:=by
 have:(v+1)*m<=n*m:=Q5 _ a;rw[Xc] at this;omega
theorem X91 {m n i:Nat} (h:i<n*m):i / m<n/\i % m<m/\i / m*m+i % m=i:=by
 have a:0<m:=by
  rcases Q4 m with e|e
  . subst e;simp at h
  . exact e
 exact⟨(Vk a).2 h,Z5 _ a,by rw[Xw];exact Yc i m⟩
theorem J4Z (p:Pr) (g:G) {v x:Nat} (a:x<p.vars.length):szP p g (v*p.vars.length+x)=szX p g v x:=by rw[szP,J5P a,Q2c a]
theorem Q3D {p:Pr} (hp:J2C p) (g:G) (hF:J1L p g) (hg:g.valid=true) (v:Nat) {x:Nat} (a:x<p.vars.length):loP p g v x<=hiP p g v x:=by
 obtain⟨f1,f2,f3,f4,f5,f6,f7⟩:=J0e hg;rw[loP,hiP,bnd];split
 . rename_i hk;exact(hF x a hk).1
 . split
   . decide
   . simp only;omega
theorem J3X {p:Pr} (hp:J2C p) (g:G) (hF:J1L p g) (hg:g.valid=true) (v:Nat) {x:Nat} (a:x<p.vars.length):(szX p g v x:Int)=hiP p g v x-loP p g v x+1:=by
 have:=Q3D hp g hF hg v a;rw[szX];omega
theorem Q0V (p:Pr) (g:G) (k:Nat):(cfK p g k).length=g.ids.length:=by simp[cfK]
theorem Q30 (p:Pr) (g:G) (k:Nat) {v:Nat} (a:v<g.ids.length):gC (cfK p g k) v=(List.range p.vars.length).map fun x=>loP p g v x+dgP p g k v x:=by
 simp[gC,cfK,List.getD,a]
theorem J5n (p:Pr) (g:G) (k:Nat) {v x:Nat} (b:v<g.ids.length) (a:x<p.vars.length):gI (gC (cfK p g k) v) x=loP p g v x+dgP p g k v x:=by
 rw[Q30 p g k b];simp[gI,List.getD,a]
theorem X0g (p:Pr) (g:G) (k v:Nat) {x:Nat} (a:x<p.vars.length):dgP p g k v x<szX p g v x:=by
 have:=Mx.dg_lt (J2E p g) (nP p g) k (v*p.vars.length+x)
 rwa[J4Z p g a] at this
theorem J7x {p:Pr} (hp:J2C p) {g:G} (hF:J1L p g) (hg:g.valid=true) (k:Nat):J2O p g (cfK p g k):=by
 refine⟨Q0V p g k,fun v a=>?_,fun v a x b=>?_⟩
 . rw[Q0V] at a;rw[Q30 p g k a];simp
 . rw[Q0V] at a;rw[J5n p g k a b];have e:=X0g p g k v b;have d:=J3X hp g hF hg v b;have c:=Q3D hp g hF hg v b;show loP p g v x<=_/\_<=hiP p g v x;omega
theorem X4Q {p:Pr} (hp:J2C p) {g:G} (hF:J1L p g) (hg:g.valid=true) {c:Cf} (a:J2O p g c) (i:Nat) (e:i<nP p g):dgC p g c i<szP p g i:=by
 obtain⟨f,b,j⟩:=X91 e;have d:=a.val _ (by rw[a.len];exact f) _ b;change loP p g _ _<=_/\_<=hiP p g _ _ at d;have h:=J3X hp g hF hg (i / p.vars.length) b;rw[dgC,szP];omega
theorem Q8g {p:Pr} (hp:J2C p) {g:G} (hF:J1L p g) (hg:g.valid=true) {c:Cf} (a:J2O p g c):rkC p g c<J1z p g :=
 Mx.vl_lt _ _ fun i _ h=>X4Q hp hF hg a i (by omega)
theorem X9m {p:Pr} {g:G} {k:Nat} (hk:k<J1z p g):rkC p g (cfK p g k)=k:=by
 have e:∀i,0<=i->i<0+nP p g->dgC p g (cfK p g k) i=Mx.dg (szP p g) (nP p g) k i:=fun i _ a=>by
  obtain⟨d,c,b⟩:=X91 (show i<g.ids.length*p.vars.length by simpa using a);rw[dgC,J5n p g k d c,dgP,b];omega
 rw[rkC,Mx.vl_ext _ _ e];exact Mx.val_dg (J2E p g) hk
theorem X6E (p:Pr) (g:G) (c d:Cf):(rkC p g d:Int)=rkC p g c+((List.range (nP p g)).map fun i=>((dgC p g d i:Int)-dgC p g c i)*Mx.pr (szP p g) (i+1) (nP p g-(i+1))).sum:=by
 have:=Mx.vl_diff (sz:=szP p g) (d:=dgC p g c) (e:=dgC p g d) (nP p g) 0;rw[rkC,rkC];simpa only[Qk] using this
theorem Q4t (f:Nat->Int) (m:Nat):∀n,((List.range (n*m)).map f).sum=((List.range n).map fun v=>((List.range m).map fun x=>f (v*m+x)).sum).sum
 | 0=>by simp
 | n+1=>by
   rw[Yd,Zj,Kz,<- Q4t f m n];have e:(n+1)*m=n*m+m:=by rw[Xc];omega
   rw[e];have e2:List.range (n*m+m)=List.range (n*m)++(List.range m).map (n*m+·):=List.range_add;rw[e2,Zj,Kz,Kg];simp only[Qv,Vi,List.sum_cons,List.sum_nil,Int.add_zero];rfl
def grX (p:Pr) (g:G) (c d:Cf) (v:Nat):Int:=((List.range p.vars.length).map fun x=>(gI (gC d v) x-gI (gC c v) x)*(plP p g v x:Int)).sum
theorem X6D {p:Pr} {g:G} {c d:Cf} (e:J2O p g c) (hd:J2O p g d):(rkC p g d:Int)=rkC p g c+((List.range g.ids.length).map fun v=>grX p g c d v).sum:=by
 rw[X6E p g c d,Q4t];congr 2;refine Vz fun v b=>?_;have b:=Q7.1 b;congr 1;refine Vz fun x a=>?_;have a:=Q7.1 a;have h:=(e.val v (by rw[e.len];exact b) x a).1;have f:=(hd.val v (by rw[hd.len];exact b) x a).1;change loP p g v x<=_ at h f;rw[dgC,dgC,J5P a,Q2c a,plP];congr 1;omega
end Go.Proofs.YtcbnimaicgegfaaGreatDoor
namespace Go.Proofs.YtcbnimaicgegfaaGreatDoor
open Go.Eng
set_option maxRecDepth 100000
abbrev P8:ByteArray:=ByteArray.mk (Array.mk [0,1,1,2,1,2,2,3,1,2,2,3,2,3,3,4,1,2,2,3,2,3,3,4,2,3,3,4,3,4,4,5,1,2,2,3,2,3,3,4,2,3,3,4,3,4,4,5,2,3,3,4,3,4,4,5,3,4,4,5,4,5,5,6,1,2,2,3,2,3,3,4,2,3,3,4,3,4,4,5,2,3,3,4,3,4,4,5,3,4,4,5,4,5,5,6,2,3,3,4,3,4,4,5,3,4,4,5,4,5,5,6,3,4,4,5,4,5,5,6,4,5,5,6,5,6,6,7,1,2,2,3,2,3,3,4,2,3,3,4,3,4,4,5,2,3,3,4,3,4,4,5,3,4,4,5,4,5,5,6,2,3,3,4,3,4,4,5,3,4,4,5,4,5,5,6,3,4,4,5,4,5,5,6,4,5,5,6,5,6,6,7,2,3,3,4,3,4,4,5,3,4,4,5,4,5,5,6,3,4,4,5,4,5,5,6,4,5,5,6,5,6,6,7,3,4,4,5,4,5,5,6,4,5,5,6,5,6,6,7,4,5,5,6,5,6,6,7,5,6,6,7,6,7,7,8])
theorem Y1U:∀x:Nat,x<256->(P8.get! x).toNat=cnt x 8:=by decide +kernel
theorem J7r (s k:Nat):(s:Int).fdiv (2 ^ k)=((s >>> k:Nat):Int):=by
 rw[K5 _ (Int.pow_nonneg (by omega)),Zu];simp
theorem X05 (x:Nat):x &&& 255<256:=X5 Yv (by omega)
theorem X0y (x:Nat):cnt (x &&& 255) 8=cnt x 8:=X0w fun i a=>by
 rw[Xq,show(255:Nat)=2 ^ 8-1 from rfl,Zy];simp[a]
theorem X0x (s:Nat) (a:s<4294967296):cnt (s >>> 24) 8+cnt (s >>> 16 &&& 255) 8+cnt (s >>> 8 &&& 255) 8+cnt (s &&& 255) 8=cnt s 32:=by
 rw[X0y,X0y,X0y,show(32:Nat)=8+24 from rfl,J6A 8 24,show(24:Nat)=8+16 from rfl,J6A 8 16,show(16:Nat)=8+8 from rfl,J6A 8 8];rw[<- Nat.shiftRight_add,<- Nat.shiftRight_add];show cnt (s >>> 24) 8+cnt (s >>> 16) 8+cnt (s >>> 8) 8+cnt s 8=cnt s 8+(cnt (s >>> 8) 8+(cnt (s >>> 16) 8+cnt (s >>> 24) 8));omega
theorem X5e {n:Int} (b:0<=n) (a:n<=255):IntKind.u8.wrap n=n:=by
 simp only[IntKind.wrap,IntKind.bits,IntKind.signed,Zk]
 first|(split<;>omega)|(simp;omega)
theorem Ar.u8 {n:Int} {K:Int->Prop} (c:0<=n) (b:n<=255) (a:K n):Ar .u8 n K:=⟨n,(X5e c b).symm,a⟩
theorem Ar.u8e {n:Int} {K:Int->Prop} (a:Nat) (h:n=(a:Int)) (c:a<=255) (b:K (a:Int)):Ar .u8 n K:=by subst h;exact Ar.u8 (by omega) (by omega) b
theorem X6Q (s:Nat) (g:s<4294967296):Ret Tryz.prog 112 [.int .u32 s] (.int .i64 (cnt s 32)):=by
 have a:=X0x s g;have f24:(s:Int).fdiv (2 ^ (min (24:Int).toNat 32))=((s >>> 24:Nat):Int):=J7r s 24;have f16:(s:Int).fdiv (2 ^ (min (16:Int).toNat 32))=((s >>> 16:Nat):Int):=J7r s 16;have f8:(s:Int).fdiv (2 ^ (min (8:Int).toNat 32))=((s >>> 8:Nat):Int):=J7r s 8;have f:s >>> 24<256:=by rw[Zu];omega
 have h:s >>> 16<4294967296:=X5 (Kf s 16) g;have p:s >>> 8<4294967296:=X5 (Kf s 8) g;have k:J3C .and .u32 ((s >>> 16:Nat):Int) 255=((s >>> 16 &&& 255:Nat):Int):=J0P (b:=255) h (by omega);have u:J3C .and .u32 ((s >>> 8:Nat):Int) 255=((s >>> 8 &&& 255:Nat):Int):=J0P (b:=255) p (by omega);have v:J3C .and .u32 (s:Int) 255=((s &&& 255:Nat):Int):=J0P (b:=255) g (by omega);have e:=X05 (s >>> 16);have n:=X05 (s >>> 8);have o:=X05 s;generalize s >>> 24=x24 at *;generalize s >>> 16 &&& 255=x16 at *;generalize s >>> 8 &&& 255=x8 at *;generalize s &&& 255=x0 at *;have c:=Y1U x24 f;have d:=Y1U x16 e;have l:=Y1U x8 n;have m:=Y1U x0 o;have i:=J4g x24 8;have j:=J4g x16 8;have r:=J4g x8 8;have t:=J4g x0 8;rw[<- a];rw[<- c] at i ⊢;rw[<- d] at j ⊢;rw[<- l] at r ⊢;rw[<- m] at t ⊢;clear c d l m a;refine rf Y6h ?_
 repeat' ((conv=>whnf);first|(refine Sv.mk _ f24.symm ?_)|(refine Sv.mk _ f16.symm ?_)|(refine Sv.mk _ f8.symm ?_)|(refine Sv.mk _ k.symm ?_)|(refine Sv.mk _ u.symm ?_)|(refine Sv.mk _ v.symm ?_)|(refine Ix.mk x24 rfl f ?_)|(refine Ix.mk x16 rfl e ?_)|(refine Ix.mk x8 rfl n ?_)|(refine Ix.mk x0 rfl o ?_)|(refine Ar.u8e ((P8.get! x24).toNat+(P8.get! x16).toNat) rfl (by omega) ?_)|(refine Ar.u8e ((P8.get! x24).toNat+(P8.get! x16).toNat+(P8.get! x8).toNat) rfl (by omega) ?_)|(refine Ar.u8e ((P8.get! x24).toNat+(P8.get! x16).toNat+(P8.get! x8).toNat+(P8.get! x0).toNat) rfl (by omega) ?_)|(refine Ar.q ?_)|(refine Nn.mk (by omega) ?_))
 all_goals conv=>whnf
 all_goals exact vR_
set_option maxHeartbeats 16000000
structure Cnt where
 steps:Nat
 moves:Nat
 rounds:Nat
 begun:Nat
 pend:Nat
def Cnt.v (k:Cnt):V:=.agg [.int .i64 k.steps,.int .i64 k.moves,.int .i64 k.rounds,.int .i64 k.begun,.int .u32 k.pend]
structure Cnt.Ok (k:Cnt):Prop where
 steps:k.steps<=4096
 rb:k.rounds<=k.begun
 bs:k.begun<=k.steps
 br:k.begun<=k.rounds+1
 sm:k.steps<=k.moves
 ms:k.moves<=24*k.steps
 pend:k.pend<16777216
def vU7 (l:List Nat):Nat->Nat->V:=fun i _=>.int .u32 (l.getD i 0:Nat)
theorem nd24 {a:Nat} (h:a<16777216):J0Z a 16777215=0:=by
 refine Q8 fun i=>?_;rw[J0Z,Xq,Xm];by_cases b:i<24
 . have c:(4294967295 ^^^ 16777215:Nat).testBit i=false:=by
    rw[Nat.testBit_xor,show(4294967295:Nat)=2 ^ 32-1 from rfl,show(16777215:Nat)=2 ^ 24-1 from rfl,Zy,Zy];simp[b];omega
   rw[c,Yb]
 . have:a.testBit i=false:=Zz (Xu (show a<2 ^ 24 from h) (Xs (by omega) (by omega)));rw[this,Zk]
theorem J71 (l:List Nat) (g:l.length<=10) (h:∀a∈l,a<16777216):Ret Tryz.prog 197 [.fz l.length 1 false (vU7 l)] (.bool true):=by
 refine rf Y5h ?_
 all_goals conv=>whnf
 refine J0h J0c [5,6] (fun i:Nat=>[(7,.int .i64 i)]) (fun m i=>m=l.length-i/\i<=l.length) l.length 0 ⟨rfl,Qh _⟩ ?_ ?_
 . exact J0a J1A
 rintro m i ⟨f,j⟩;by_cases c:i<l.length
 . have e:l.getD i 0<16777216:=h _ (by rw[Q6,Qp c];exact Xd c);have d:J3C .andNot .u32 ((l.getD i 0:Nat):Int) 16777215=0:=by
    have:=J2t (a:=l.getD i 0) (b:=16777215) (by omega) (by omega);rw[nd24 e] at this;exact this
   repeat' ((conv=>whnf);first|(refine Sv.mk 0 d.symm ?_)|(refine Br.ff ?_)|(refine Br.dec ?_ ?_<;>intro _<;>try omega)|(refine Ar.q ?_)|(refine Ix.q ?_))
   all_goals conv=>whnf
   refine⟨l.length-(i+1),i+1,by omega,⟨rfl,by omega⟩,?_⟩;exact J0a J1A
 . exact Wq
theorem Y4c (a:Nat) (f:Nat->Nat->V) (b:f 0 0=.int .u32 a):∀i j:Nat,i<1->j<1->VLe (f i j) (vU7 [a] i j):=by
 intro i j d c;obtain rfl:j=0:=by omega
 obtain rfl:i=0:=by omega
 rw[b];exact vR_
theorem Y2d (a b:Nat) (f:Nat->Nat->V) (d:f 0 0=.int .u32 a) (c:f 1 0=.int .u32 b):∀i j:Nat,i<2->j<1->VLe (f i j) (vU7 [a,b] i j):=by
 intro i j g e;obtain rfl:j=0:=by omega
 rcases (show i=0\/i=1 by omega) with rfl|rfl
 . rw[d];exact vR_
 . rw[c];exact vR_
theorem X00 (k:Cnt) (hk:k.Ok):Ret Tryz.prog 196 [k.v] (.bool true):=by
 have hp:=J71 [k.pend] (by simp) (by simpa using hk.pend);obtain⟨g,f,e,d,c,b,a⟩:=hk;refine rf Y5i ?_
 repeat' ((conv=>whnf);first|(refine Br.tt ?_)|(refine Br.ff ?_)|(refine Br.dec ?_ ?_<;>intro _<;>try omega)|(refine Ar.q ?_)|(refine Q5F [1] hp ⟨by decide,VLe.fz rfl (fun h=>h) (Y4c _ _ rfl),tI⟩ ?_))
 all_goals conv=>whnf
 all_goals exact vR_
theorem X3S (e:Nat) (he:e<16777216):Ret Tryz.prog 160 [.int .u32 e] (Cnt.v ⟨0,0,0,0,e⟩):=by
 have c:J3C .and .u32 (e:Int) 16777215=(e:Int):=by
  have:=J0P (a:=e) (b:=16777215) (by omega) (by omega);rw[show e &&& 16777215=e by rw[show(16777215:Nat)=2 ^ 24-1 from rfl,Kn];omega] at this;exact this
 refine rf Y5J ?_
 repeat' ((conv=>whnf);first|(refine Sv.mk (e:Int) c.symm ?_))
 all_goals conv=>whnf
 exact vR_
def lft (k:Cnt) (s e:Nat):Nat:=J0Z k.pend s &&& e
def Cnt.add (k:Cnt) (s e:Nat):Cnt:=if lft k s e=0 then⟨k.steps+1,k.moves+cnt s 32,k.rounds+1,k.rounds+1,e⟩ else⟨k.steps+1,k.moves+cnt s 32,k.rounds,k.rounds+1,lft k s e⟩
theorem X2q (a b:Nat):J0Z a b<=a:=Jh
theorem Y1J (k:Cnt) (hk:k.Ok) (y:k.steps<4096) (s e:Nat) (j:s≠0) (n:s<16777216) (he:e<16777216):Ret Tryz.prog 162 [k.v,.int .u32 s,.int .u32 e] (.tup [(k.add s e).v,.int .i64 0]):=by
 have i:=X00 k hk;have hp:=J71 [s,e] (by simp) (by simp;omega);have d:=X6Q s (by omega);have m:=J4g s 32;obtain⟨x,w,u,t,r,p,o⟩:=hk;have g:=J2t (a:=k.pend) (b:=s) (by omega) (by omega);have l:=X2q k.pend s;have c:=J0P (a:=J0Z k.pend s) (b:=e) (by omega) (by omega);have f:lft k s e=J0Z k.pend s &&& e:=rfl;rw[<- f] at c;refine rf Y5H ?_
 repeat' ((conv=>whnf);first|(refine Sv.mk _ g.symm ?_)|(refine Sv.mk _ c.symm ?_)|(refine Br.tt ?_)|(refine Br.dec ?_ ?_<;>intro _<;>try omega)|(refine Ar.q ?_)|(refine i.go ?_)|(refine d.go ?_)|(refine Q5F [2] hp ⟨by decide,VLe.fz rfl (fun h=>h) (Y2d _ _ _ rfl rfl),tI⟩ ?_)|(refine And.intro rfl ?_))
 all_goals conv=>whnf
 . rename_i hz;rw[Cnt.add,Qe (by omega),Cnt.v]
   repeat' (first|exact vR_)
 . rename_i hz;rw[Cnt.add,Qb (by omega),Cnt.v]
   repeat' (first|exact vR_)
theorem X8r (k:Cnt) (hk:k.Ok) (m:k.steps<4096) (s e:Nat) (a:1<=cnt s 32) (c:cnt s 32<=24) (he:e<16777216):(k.add s e).Ok:=by
 obtain⟨l,j,i,h,g,f,d⟩:=hk;have b:lft k s e<=e:=Yv;rw[Cnt.add];split
 . exact⟨by simp only;omega,by simp only;omega,by simp only;omega,by simp only;omega,by simp only;omega,by simp only;omega,he⟩
 . exact⟨by simp only;omega,by simp only;omega,by simp only;omega,by simp only;omega,by simp only;omega,by simp only;omega,by simp only;omega⟩
def one (c:Cf) (x v:Nat):Bool:=decide (gI (gC c v) x=1)
def mx (g:G) (p:Nat->Bool):Bool:=decide (∀v,v<g.ports.length->nbr g (nb p g.ports.length) v=!p v)
theorem J6m {g:G} (h:g.valid=true) (s:Nat):g.nbrs s=nb (nbr g s) g.ports.length:=by rw[G.nbrs,Qe h]
def G.indep (g:G) (s:Nat):Bool:=g.valid&&decide (J0Z s (J1J g.ports.length)=0/\g.nbrs s &&& s=0)
def tzL:List Int:=[0,1,28,2,29,14,24,3,30,22,20,15,25,17,4,8,31,27,13,23,21,19,16,7,26,12,18,6,11,5,10,9]
def tzF (i j:Nat):V:=.int .u8 (tzL.getD i 0)
abbrev GB:Blk:=.glob 0 32 tzF
abbrev RG (f:FuncId) (args:List V) (X:V):Prop:=Q7e Tryz.prog GB f args X
theorem X5m:∀k:Nat,k<32->IntKind.u32.wrap (((2 ^ k:Nat):Int)*125613361)=((2 ^ k*125613361 % 4294967296:Nat):Int)/\((2 ^ k*125613361 % 4294967296:Nat):Int).fdiv (2 ^ (min (27:Int).toNat 32))=((2 ^ k*125613361 % 4294967296 / 134217728:Nat):Int)/\2 ^ k*125613361 % 4294967296 / 134217728<32/\tzL.getD (2 ^ k*125613361 % 4294967296 / 134217728) 0=(k:Int):=by
 decide +kernel
theorem X82 (k:Nat) (hk:k<32):∃a b:Nat,IntKind.u32.wrap (((2 ^ k:Nat):Int)*125613361)=(a:Int)/\(a:Int).fdiv (2 ^ (min (27:Int).toNat 32))=(b:Int)/\b<32/\tzL.getD b 0=(k:Int):=⟨_,_,X5m k hk⟩
theorem Q7B (s:Nat) (e:s≠0) (d:s<4294967296):RG 134 [.int .u32 s] (.int .i64 (ctz s)):=by
 obtain⟨f,h,g⟩:=J2b e d;obtain⟨a,b,t1,t2,t3,t4⟩:=X82 (ctz s) f;have c:J3C .and .u32 (s:Int) (((4294967296-s) % 4294967296:Nat):Int)=((2 ^ ctz s:Nat):Int):=by
  rw[J0P d (Z5 _ (by omega)),J5L d,J28,Qb e]
 have t5:(ctz s:Int)=IntKind.i64.wrap (tzL.getD b 0):=by rw[t4];exact(J0Y (by omega) (by omega)).symm
 generalize ((2 ^ ctz s:Nat):Int)=p at c t1;refine J1e rfl ?_;refine fr Y5Y ?_
 repeat' ((conv=>whnf);first|(refine Ar.neg32 d ?_)|(refine Sv.mk _ c.symm ?_)|(refine Ar.mk _ t1.symm ?_)|(refine Sv.mk _ t2.symm ?_)|(refine Ix.mk _ rfl t3 ?_)|(refine Ar.mk _ t5 ?_)|(refine Br.dec ?_ ?_<;>intro _<;>try omega)|(refine Nn.mk (by omega) ?_))
 all_goals conv=>whnf
 all_goals exact vR_
end Go.Proofs.YtcbnimaicgegfaaGreatDoor
