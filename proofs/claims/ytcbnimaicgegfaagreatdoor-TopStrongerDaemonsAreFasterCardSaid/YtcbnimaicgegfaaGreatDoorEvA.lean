import Derived.Test.YtcbnimaicgegfaaGreatDoorDS4
import Derived.Test.YtcbnimaicgegfaaGreatDoorRows
import Derived.LaidMore
import Derived.Stop.Joined
import Derived.SevenTiedAt
import GoSem.ClaimSeven
set_option linter.all false
namespace Go.Proofs.YtcbnimaicgegfaaGreatDoor
open Go.Eng Go.Plain
set_option maxRecDepth 100000
def J9D (g:G):Bool:=decide (g.ids.length<=30/\g.ports.length<=30/\∀v,v<g.ports.length->(gR g.ports v).length<=30)
theorem X2F (g:G) (f:g.Small):Ret Tryz.prog 57 [g.v] (.bool (J9D g)):=by
 have o:=f.ids;have n:=f.ports;refine rf fj57 ?_;by_cases h:g.ids.length<=30/\g.ports.length<=30
 . obtain⟨c,k⟩:=h;refine Vq ?_;refine J0h J0c [1] (fun i:Nat=>[(3,.int .i64 i)]) (fun m i=>m=g.ports.length-i/\i<=g.ports.length/\∀v,v<i->(gR g.ports v).length<=30) g.ports.length 0 ⟨rfl,Qh _,fun v d=>by omega⟩ ?_ ?_
   . exact J0a J1v
   rintro m i ⟨p,r,a⟩;by_cases b:i<g.ports.length
   . by_cases j:(gR g.ports i).length<=30
     . refine Vq ?_;refine⟨g.ports.length-(i+1),i+1,by omega,⟨rfl,by omega,fun v d=>?_⟩,?_⟩
       . by_cases e:v=i
         . subst e;exact j
         . exact a v (by omega)
       . exact J0a J1v
     . refine Vq ?_;exact VLe.bool (Qm (fun q=>j (q.2.2 i b))).symm
   . refine Vq ?_;exact VLe.bool (Qn (⟨c,k,fun v d=>a v (by omega)⟩:g.ids.length<=30/\g.ports.length<=30/\∀v,v<g.ports.length->(gR g.ports v).length<=30)).symm
 . have l:J9D g=false:=Qm (fun q=>h ⟨q.1,q.2.1⟩);rw[l];by_cases c:g.ids.length<=30
   . have k:¬ g.ports.length<=30:=fun q=>h ⟨c,q⟩;exact Wq
   . exact Wq
def md4 (k:Int):Int:=if k.tmod 4<0 then k.tmod 4+4 else k.tmod 4
theorem Q9e (k:Int):0<=md4 k/\md4 k<=3:=by
 have b:=Jn k (show(0:Int)<4 by omega);have a:-4<k.tmod 4:=by
  have:=Jn (-k) (show(0:Int)<4 by omega);rw[Int.neg_tmod] at this;omega
 rw[md4];split<;>omega
theorem Q9b (k:Int) (hk:-9223372036854775808<=k/\k<=9223372036854775807):Ret Tryz.prog 4 [.int .i64 k,.int .i64 4] (.int .i64 (md4 k)):=by
 have b:=Jn k (show(0:Int)<4 by omega);have a:-4<k.tmod 4:=by
  have:=Jn (-k) (show(0:Int)<4 by omega);rw[Int.neg_tmod] at this;omega
 refine rf fj4 ?_;by_cases h:k.tmod 4<0
 . rw[md4,Qe h];exact Wq
 . rw[md4,Qb h];exact Wq
set_option maxHeartbeats 16000000
structure RP.Small (p:RP):Prop where
 nm:p.nm.size<=9223372036854775807
 vars:p.vars.length<=9223372036854775807
 rules:p.rules.length<=9223372036854775807
 vn:∀i,i<p.vars.length->(gV p.vars i).name.size<=9223372036854775807
 rn:∀i,i<p.rules.length->(gRr p.rules i).nm.size<=9223372036854775807
 sl:∀i,i<p.rules.length->(gRr p.rules i).sets.length<=9223372036854775807
 gl:∀i,i<p.rules.length->(gRr p.rules i).gd.length<=9223372036854775807
 el:∀i,i<p.rules.length->∀j,j<(gRr p.rules i).sets.length->(gSr (gRr p.rules i).sets j).2.length<=9223372036854775807
structure RuL (p:RP) (i:Nat):Prop where
 rn:(gRr p.rules i).nm.size<=40
 sl:(gRr p.rules i).sets.length<=10
 gl:(gRr p.rules i).gd.length<=250
 el:∀j,j<(gRr p.rules i).sets.length->(gSr (gRr p.rules i).sets j).2.length<=250
theorem Q4X (e:Lt2) (he:e.length<=9223372036854775807):Ret Tryz.prog 114 [vTr e] (.bool (decide (e.length<=250))):=by
 refine rf Y6g ?_
 repeat' ((conv=>whnf);refine Br.dec ?_ ?_<;>intro _<;>try omega)
 all_goals conv=>whnf
 all_goals first
  | exact VLe.bool (Qn (by omega)).symm
  | exact VLe.bool (Qm (by omega)).symm
open Classical in
noncomputable def J8e (p:RP):Bool:=decide (J2X p)
open Classical in
theorem J6p {p:RP}:J8e p=true↔J2X p:=by rw[J8e,Qa]
theorem J4z {p:RP} (h:¬ J2X p):J8e p=false:=by
 cases e:J8e p with
 | false=>rfl
 | true=>exact(h (J6p.1 e)).elim
theorem Q6B {p:RP} (h:J2X p):J8e p=true:=J6p.2 h
theorem X2z (p:RP) (F:p.Small):Ret Tryz.prog 56 [p.v] (.bool (J8e p)):=by
 obtain⟨q1,q2,q3,q4,q5,q6,q7,q8⟩:=F;refine rf fj56 ?_;by_cases h:p.nm.size<=40/\p.vars.length<=10/\p.rules.length<=16
 . obtain⟨w,u,A⟩:=h;refine Vq ?_;refine J0h J0c [1] (fun i:Nat=>[(3,.int .i64 ((i:Nat):Int))]) (fun m i=>m=p.vars.length-i/\i<=p.vars.length/\∀k,k<i->(gV p.vars k).name.size<=40) p.vars.length 0 ⟨rfl,Qh _,fun k hk=>by omega⟩ ?_ ?_
   . exact J0a J1v
   rintro m i ⟨N,P,d⟩;by_cases l:i<p.vars.length
   . have D:=q4 i l;by_cases z:(gV p.vars i).name.size<=40
     . refine Vq ?_;refine⟨p.vars.length-(i+1),i+1,by omega,⟨rfl,by omega,fun k hk=>?_⟩,?_⟩
       . by_cases e:k=i
         . subst e;exact z
         . exact d k (by omega)
       . exact J0a J1v
     . rw[J4z (fun c=>z (c.vn i l))];exact Wq
   . obtain rfl:i=p.vars.length:=by omega
     refine Vq ?_;refine J0h J0c [1] (fun i:Nat=>[(4,.int .i64 ((i:Nat):Int))]) (fun m i=>m=p.rules.length-i/\i<=p.rules.length/\∀k,k<i->RuL p k) p.rules.length 0 ⟨rfl,Qh _,fun k hk=>by omega⟩ ?_ ?_
     . exact J0a J1v
     rintro M i ⟨H,J,b⟩;by_cases a:i<p.rules.length
     . have C:=q5 i a;have B:=q6 i a;have t:=q7 i a;have s:=q8 i a;have y:=Q4X (gRr p.rules i).gd t;by_cases r:(gRr p.rules i).nm.size<=40/\(gRr p.rules i).sets.length<=10
       . obtain⟨r,K⟩:=r;by_cases o:(gRr p.rules i).gd.length<=250
         . rw[Qn o] at y;refine Vq ?_;refine J0h J0c [1,4,5] (fun j:Nat=>[(6,.int .i64 ((j:Nat):Int))]) (fun m j=>m=(gRr p.rules i).sets.length-j/\j<=(gRr p.rules i).sets.length/\∀k,k<j->(gSr (gRr p.rules i).sets k).2.length<=250) (gRr p.rules i).sets.length 0 ⟨rfl,Qh _,fun k hk=>by omega⟩ ?_ ?_
           . exact J0a J0r
           rintro L j ⟨G,O,f⟩;by_cases g:j<(gRr p.rules i).sets.length
           . have x:=Q4X (gSr (gRr p.rules i).sets j).2 (s j g);by_cases n:(gSr (gRr p.rules i).sets j).2.length<=250
             . rw[Qn n] at x;refine Vq ?_;refine⟨(gRr p.rules i).sets.length-(j+1),j+1,by omega,⟨rfl,by omega,fun k hk=>?_⟩,?_⟩
               . by_cases e:k=j
                 . subst e;exact n
                 . exact f k (by omega)
               . exact J0a J0r
             . rw[Qm n] at x;rw[J4z (fun c=>n (c.el i a j g))];exact Wq
           . refine Vq ?_;refine⟨p.rules.length-(i+1),i+1,by omega,⟨rfl,by omega,fun k hk=>?_⟩,?_⟩
             . by_cases e:k=i
               . subst e;exact⟨r,K,o,fun E I=>f E (by omega)⟩
               . exact b k (by omega)
             . exact J0a J1v
         . rw[Qm o] at y;rw[J4z (fun c=>o (c.gl i a))];exact Wq
       . rw[J4z (fun c=>r ⟨c.rn i a,c.sl i a⟩)]
         repeat' ((conv=>whnf);first|(refine Br.dec ?_ ?_<;>intro _<;>try omega)|(refine Ix.q ?_))
         all_goals conv=>whnf
         all_goals first|exact vR_|(exfalso;omega)
     . rw[Q6B ⟨w,u,A,fun k hk=>d k hk,fun k hk=>(b k (by omega)).rn,fun k hk=>(b k (by omega)).sl,fun k hk=>(b k (by omega)).gl,fun k hk=>(b k (by omega)).el⟩];exact Wq
 . rw[J4z (fun c=>h ⟨c.nm,c.vl,c.rl⟩)];by_cases w:p.nm.size<=40
   . by_cases u:p.vars.length<=10
     . have A:¬ p.rules.length<=16:=fun q=>h ⟨w,u,q⟩;exact Wq
     . exact Wq
   . exact Wq
def Q56 (l:List (Int×Lt2)):Nat->Nat
 | 0=>0
 | j+1=>Q56 l j+(gSr l j).2.length
def Q29 (p:RP):Nat->Nat
 | 0=>0
 | i+1=>Q29 p i+(gRr p.rules i).gd.length+Q56 (gRr p.rules i).sets (gRr p.rules i).sets.length
theorem Q0i {l:List (Int×Lt2)} (h:∀j,j<l.length->(gSr l j).2.length<=250):∀j,j<=l.length->Q56 l j<=250*j
 | 0,_=>Qd _
 | j+1,a=>by have:=Q0i h j (by omega);have:=h j (by omega);rw[Q56];omega
theorem Q0a {p:RP} (h:J2X p):∀i,i<=p.rules.length->Q29 p i<=2750*i
 | 0,_=>Qd _
 | i+1,a=>by
   have e:=Q0a h i (by omega);have d:=Q0i (h.el i (by omega)) _ (Qd _);have c:=h.sl i (by omega);have b:=h.gl i (by omega);rw[Q29];omega
theorem X1J (p:RP) (hp:J2X p):Ret Tryz.prog 59 [p.v] (.int .i64 (Q29 p p.rules.length)):=by
 have d:=hp.rl;refine rf fj59 ?_
 all_goals conv=>whnf
 refine J0h J0c [1] (fun i:Nat=>[(4,.int .i64 ((i:Nat):Int)),(3,.int .i64 (Q29 p i))]) (fun m i=>m=p.rules.length-i/\i<=p.rules.length) p.rules.length 0 ⟨rfl,Qh _⟩ ?_ ?_
 . exact J0a J1v
 rintro m i ⟨g,k⟩;by_cases a:i<p.rules.length
 . have r:=Q0a hp i (by omega);have q:=hp.sl i a;have o:=hp.gl i a;have c:=hp.el i a;refine Vq ?_;refine J0h J0c [1,4] (fun j:Nat=>[(5,.int .i64 ((j:Nat):Int)),(3,.int .i64 ((Q29 p i+(gRr p.rules i).gd.length+Q56 (gRr p.rules i).sets j:Nat):Int))]) (fun m j=>m=(gRr p.rules i).sets.length-j/\j<=(gRr p.rules i).sets.length) (gRr p.rules i).sets.length 0 ⟨rfl,Qh _⟩ ?_ ?_
   . exact J0a J1v
   rintro f j ⟨e,h⟩;by_cases b:j<(gRr p.rules i).sets.length
   . have n:=Q0i c j (by omega);have l:=c j b;refine Vq ?_;refine⟨(gRr p.rules i).sets.length-(j+1),j+1,by omega,⟨rfl,by omega⟩,?_⟩;refine J0F J1v ?_;exact J0b.int (by rw[Q56];omega)
   . obtain rfl:j=(gRr p.rules i).sets.length:=by omega
     refine Vq ?_;refine⟨p.rules.length-(i+1),i+1,by omega,⟨rfl,by omega⟩,?_⟩;exact J0a J1v
 . obtain rfl:i=p.rules.length:=by omega
   exact Wq
def Q7a (g:G):Nat->Nat
 | 0=>1
 | v+1=>max (Q7a g v) (gR g.ports v).length
theorem X0k {g:G} (h:J9D g=true):∀v,v<=g.ports.length->1<=Q7a g v/\Q7a g v<=30
 | 0,_=>by rw[Q7a];omega
 | v+1,a=>by
   have c:=X0k h v (by omega);have b:=(Xe h).2.2 v (by omega);rw[Q7a];omega
theorem Q6L (g:G) (h:J9D g=true):Ret Tryz.prog 58 [g.v] (.int .i64 (Q7a g g.ports.length)):=by
 have hp:=(Xe h).2.1;refine rf fj58 ?_
 all_goals conv=>whnf
 refine J0h J0c [1] (fun i:Nat=>[(4,.int .i64 ((i:Nat):Int)),(3,.int .i64 (Q7a g i))]) (fun m i=>m=g.ports.length-i/\i<=g.ports.length) g.ports.length 0 ⟨rfl,Qh _⟩ ?_ ?_
 . exact J0a J1v
 rintro m i ⟨b,c⟩;by_cases a:i<g.ports.length
 . have e:((Q7a g (i+1):Nat):Int)=if ((gR g.ports i).length:Int) > (Q7a g i:Nat) then ((gR g.ports i).length:Int) else (Q7a g i:Nat):=by
    rw[Q7a];split<;>omega
   refine Vq ?_;refine⟨g.ports.length-(i+1),i+1,by omega,⟨rfl,by omega⟩,?_⟩;exact J0a J1v
 . obtain rfl:i=g.ports.length:=by omega
   exact Wq
theorem X2a (p:RP) (m:p.Small) (g:G) (hg:g.Small):Ret Tryz.prog 25 [p.v,g.v] (.bool false)\/(J2X p/\J9D g=true/\Ret Tryz.prog 25 [p.v,g.v] (.bool true)):=by
 have e:=X2z p m;have c:=X2F g hg;cases el:J8e p with
 | false =>
   refine .inl ?_;rw[el] at e;refine rf Y11 ?_;exact Wq
 | true =>
   have b:J2X p:=J6p.1 el;rw[el] at e;cases a:J9D g with
   | false =>
     refine .inl ?_;rw[a] at c;refine rf Y11 ?_;exact Wq
   | true =>
     rw[a] at c;have h:=X1J p b;have f:=Q6L g a;have t:=Q0a b p.rules.length (Qd _);have s:=X0k a g.ports.length (Qd _);have r:=(Xe a).2.1;have q:=b.rl;generalize Q29 p p.rules.length=T at *;generalize Q7a g g.ports.length=d at *;have l:T*g.ports.length<=44000*30:=Z0 (by omega) (by omega);have k:T*g.ports.length*d<=44000*30*30:=Z0 l (by omega);have n:T*g.ports.length*d*d<=44000*30*30*30:=Z0 k (by omega);have j:(T:Int)*(g.ports.length:Int)=((T*g.ports.length:Nat):Int):=by rw[Zq]
     have e2:((T*g.ports.length:Nat):Int)*(d:Int)=((T*g.ports.length*d:Nat):Int):=by rw[Zq (T*g.ports.length)]
     have i:((T*g.ports.length*d:Nat):Int)*(d:Int)=((T*g.ports.length*d*d:Nat):Int):=by rw[Zq (T*g.ports.length*d)]
     generalize T*g.ports.length*d*d=X3 at *;generalize T*g.ports.length*d=X2 at *;generalize T*g.ports.length=X1 at *;by_cases o:X3<=100000
     . refine .inr ⟨b,rfl,?_⟩;refine rf Y11 ?_
       repeat' ((conv=>whnf);first|(refine Ar.mk X1 (by rw[j];exact(J0Y (by omega) (by omega)).symm) ?_)|(refine Ar.mk X2 (by rw[e2];exact(J0Y (by omega) (by omega)).symm) ?_)|(refine Ar.mk X3 (by rw[i];exact(J0Y (by omega) (by omega)).symm) ?_)|(refine Br.tt ?_)|(refine Br.dec ?_ ?_<;>intro _<;>try omega)|(refine e.go ?_)|(refine c.go ?_)|(refine h.go ?_)|(refine f.go ?_)|(refine And.intro rfl ?_))
       all_goals conv=>whnf
       all_goals first|exact vR_|(exfalso;omega)
     . refine .inl ?_;refine rf Y11 ?_
       repeat' ((conv=>whnf);first|(refine Ar.mk X1 (by rw[j];exact(J0Y (by omega) (by omega)).symm) ?_)|(refine Ar.mk X2 (by rw[e2];exact(J0Y (by omega) (by omega)).symm) ?_)|(refine Ar.mk X3 (by rw[i];exact(J0Y (by omega) (by omega)).symm) ?_)|(refine Br.tt ?_)|(refine Br.dec ?_ ?_<;>intro _<;>try omega)|(refine e.go ?_)|(refine c.go ?_)|(refine h.go ?_)|(refine f.go ?_)|(refine And.intro rfl ?_))
       all_goals conv=>whnf
       all_goals first|exact vR_|(exfalso;omega)
theorem X1W (n:Nat) (b:n<=9223372036854775807) (f:Nat->Nat):Ret Tryz.prog 37 [.fz n 1 false (fun i _=>.int .u32 (f i)),.fz n 1 false (fun i _=>.int .u32 (f i))] (.bool true):=by
 refine rf fj37 ?_;refine Vq ?_;refine J0h J0c [0,1] (fun i:Nat=>[(5,.int .i64 ((i:Nat):Int))]) (fun m i=>m=n-i/\i<=n) n 0 ⟨rfl,Qh _⟩ ?_ ?_
 . exact J0a J1A
 rintro m i ⟨c,d⟩;by_cases a:i<n
 . refine Vq ?_;refine⟨n-(i+1),i+1,by omega,⟨rfl,by omega⟩,?_⟩;exact J0a J1A
 . exact Wq
theorem Q7Y (s:Tsy) (b:s.Ok):Ret Tryz.prog 15 [s.v,s.v] (.bool true):=by
 have f:=b.n2;have l:=X1W s.n (by omega) s.en;refine rf fj15 ?_;refine Vq ?_;refine J0h J0c [2,3] (fun k:Nat=>[(5,.int .i64 ((k:Nat):Int))]) (fun m k=>m=s.n-k/\k<=s.n) s.n 0 ⟨rfl,Qh _⟩ ?_ ?_
 . exact J0a J0r
 rintro m k ⟨h,hk⟩;by_cases a:k<s.n
 . have c:=b.row a;refine Vq ?_;refine J0h J0c [2,3,5] (fun i:Nat=>[(6,.int .i64 ((i:Nat):Int))]) (fun m i=>m=(s.ar k).length-i/\i<=(s.ar k).length) (s.ar k).length 0 ⟨rfl,Qh _⟩ ?_ ?_
   . exact J0a J0r
   rintro g i ⟨d,j⟩;by_cases e:i<(s.ar k).length
   . repeat' ((conv=>whnf);first|(refine Br.dec ?_ ?_<;>intro _<;>try omega)|(refine Ar.q ?_)|(refine Ix.q ?_)|(refine Br.any (fun _=>?_) (fun _=>?_)))
     all_goals conv=>whnf
     . rename_i q;simp at q
     . refine⟨(s.ar k).length-(i+1),i+1,by omega,⟨rfl,by omega⟩,?_⟩;exact J0a J0r
   . refine Vq ?_;refine⟨s.n-(k+1),k+1,by omega,⟨rfl,by omega⟩,?_⟩;exact J0a J0r
 . exact Wq
open Go.Eng Go.ChangeShapes Go.WideShapes Go.ChangeAt Go.WideMaps Go.WideElems Go.RowKit
theorem ownk:ownKnob Tryz.prog.godebug=none:=by kernel_rfl
theorem Y4h:laidOutB Tryz.prog=true:=by kernel_rfl
theorem J8K:Tryz.prog.cellsOf 3=1:=by kernel_rfl
theorem Y1o:Tryz.prog.cellsOf 5=1:=by kernel_rfl
theorem Y1p:Tryz.prog.cellsOf 4=1:=by kernel_rfl
theorem X7W:Tryz.prog.cellsOf 26=1:=by kernel_rfl
theorem X3u:Tryz.prog.cellsOf 263=32:=by kernel_rfl
theorem Y38:Tryz.prog.readableRec 3=true:=by kernel_rfl
theorem Y2f:3<Tryz.prog.types.size:=Xe (by kernel_rfl)
theorem X9d:Tryz.prog.wantsStandIn 3=false:=by kernel_rfl
theorem gTab:Tryz.prog.globalNamed "math/bits.deBruijn32tab"=some 0:=by kernel_rfl
theorem tTab:(Tryz.prog.globals[0]?).map (·.type)=some 263:=by kernel_rfl
abbrev Q9w:List (String×DataW Unit):=[("math/bits.deBruijn32tab",Rows.laid_math_bits_deBruijn32tab)]
theorem X3a (os:Os) (args:Array Value):laidMetH Tryz.prog Q9w ((World.doorLaid Tryz.prog 400 os).forCall (fun _ _=>0) ⟨#[],args,[]⟩).memory :=
 laidMetH_of_parts3 (fuel:=8) (laidMet_of_run' 8 (by kernel_rfl) (by kernel_rfl)) (by kernel_rfl) (by kernel_rfl)
theorem X6P {W:World} (h:laidMetH Tryz.prog Q9w W):Den (fun _=>False) W Sg.none (.fe 32 1 tzF 0 0) (.pointer (some ⟨0,0,none⟩)):=by
 rw[MakeChecks.laidMetH_plain _ _ _ (by kernel_rfl)] at h;obtain⟨z,⟨E,t0,f,f0,A,q0,e,m,l,p,_⟩,_,_⟩:=h;obtain rfl:=Yl (gTab.symm.trans e);obtain rfl:=Yl (tTab.symm.trans m);obtain⟨xs,B,rfl,c,d,C,o⟩:=DataW.trod_array Tryz.underlying263 p;simp only[Qu] at c;have g:xs.map (·.1)=tzL.map fun n=>(DataW.lit (.int .u8 n):DataW Unit):=by
  have:=c.1;rw[Rows.laid_math_bits_deBruijn32tab] at this;have w:=DataW.agg.inj this;exact w.symm
 have key:∀i,i<32->W.cell? ⟨0,i,none⟩=some (.int .u8 (tzL.getD i 0)):=by
  intro i b;have q:=o i b;rw[Y1o,Ku] at q;have a:xs[i]?.map (·.1)=some (.lit (.int .u8 (tzL.getD i 0))):=by
   rw[<- Js,g,Js,Qp (show i<tzL.length from b)];simp only[Zi,List.getD,Qp (show i<tzL.length from b),Xp]
  cases r:xs[i]? with
  | none=>rw[r] at a;cases a
  | some x =>
    rw[r] at q a;obtain⟨k,y,e2,_⟩:=DataW.trod_int Tryz.underlying5 q;rw[e2] at a;simp only[Zi,Qf] at a;have hk:k=tzL.getD i 0:=by
     have:=DataW.lit.inj a;exact(Lit.int.inj this).2
    have t:=World.var?_cell e l i;rw[t];have D:i<f.toList.length:=by rw[d,X3u];exact b
    have v:f.toList[i]?=some (.int .u8 k):=by
     have:=X6 (·[0]?) y;simpa[Ya,Yk] using this
    rw[<- hk];simpa using v
 have u:0<W.heap.size:=by
  have:=key 0 (by decide);unfold World.cell? at this;split at this
  . rename_i h;exact lt_of_getElem? h
  . cases this
 exact .fe _ _ _ _ _ _ _ _ (fun i _=>.int .u8 (tzL.getD i 0)) (by decide) (fun h=>h) u
  (fun i j b s=>by(obtain rfl:j=0:=by omega);simpa using key i b) (fun i j b s=>rfl) (fun i j b s=>.int _ _ _)
theorem J4x {n:Nat} (h:n<=maxLen):n<=9223372036854775807:=h
section
variable {H:Type} {enc:TypeId×Value->H} {W:World} {sp:Nat->Bool} {hd:Bool}
theorem X0h {e:Nat} {v:Value} {d:DataW H} {c:List MemPlace} (a:Value.okWide Tryz.prog W .any e 3 v) (h:DataW.Trod enc Tryz.prog W 0 sp hd 3 v d c):∃n:Int,(-9223372036854775808<=n/\n<=9223372036854775807)/\Den (fun _=>False) W Sg.none (.int .i64 n) v:=by
 obtain⟨n,rfl,_,_,b⟩:=open_int Tryz.underlying3 a h;simp only[Lit.wf,Qg,Qa] at b;exact⟨n,⟨b.1,b.2⟩,.int _ _ _⟩
end
end Go.Proofs.YtcbnimaicgegfaaGreatDoor
namespace Go.Proofs.YtcbnimaicgegfaaGreatDoor
open Go.Eng Go.ChangeShapes Go.WideShapes Go.ChangeAt Go.WideMaps Go.WideElems Go.RowKit
set_option maxRecDepth 100000
theorem X7V:Tryz.prog.cellsOf 27=1:=by kernel_rfl
theorem X7U:Tryz.prog.cellsOf 29=2:=by kernel_rfl
theorem X3x:Tryz.prog.cellsOf 195=1:=by kernel_rfl
theorem X3w:Tryz.prog.cellsOf 201=2:=by kernel_rfl
theorem X9o:Tryz.prog.readableRec 29=true:=by kernel_rfl
theorem X9h:29<Tryz.prog.types.size:=Xe (by kernel_rfl)
theorem X5w:Tryz.prog.wantsStandIn 29=false:=by kernel_rfl
section
variable {H:Type} {enc:TypeId×Value->H} {W:World} {sp:Nat->Bool} {hd:Bool}
theorem X0i {v:Value} {d:DataW H} {x:List MemPlace} (a:∃cs,v=.agg cs) (h:DataW.Trod enc Tryz.prog W 0 sp hd 29 v d x):∃g:G,g.Small/\Den (fun _=>False) W Sg.none g.v v:=by
 obtain⟨arr,rfl⟩:=a;obtain⟨fuel,h⟩:=h;obtain⟨c,n,f⟩:=J1i Tryz.underlying29 h;simp only[Value.cells] at c f;generalize k:arr.toList=cs at c f;rw[X7U] at c;obtain⟨x0,o⟩:=f 0 _ rfl;obtain⟨I,m⟩:=f 1 _ rfl;simp only[X7W,X7V] at o m;obtain⟨K,C,q,_,d0,A,_⟩:=X3g Sg.none Tryz.underlying26 Tryz.underlying3 J8K o;obtain⟨J,B,p,_,d1,z,q1⟩:=Q5p (α:=List (Int×Int)) Sg.none [] (fun l=>.fz l.length 2 false (vF l)) (fun l=>l.length<=9223372036854775807) Tryz.underlying27 X3x (fun n cs y D=>by
  obtain⟨u,l,w,t,s,r,_⟩:=Q2v Sg.none Tryz.underlying195 Tryz.underlying201 X3w rfl rfl Tryz.underlying3 Tryz.underlying3 J8K J8K D;refine⟨u,l,w,t,?_,J4x r⟩;have e:(fun i j=>match j with|0=>V.int .i64 (List.getD l i (0,0)).1|_+1=>V.int .i64 (List.getD l i (0,0)).2:Nat->Nat->V)=vF l:=by
   funext i j;cases j<;>rfl
  rw[<- e];exact s) m
 match cs,c with
 | [F,E],_ =>
   simp at q p;subst q p;refine⟨⟨C,B⟩,⟨J4x A,J4x z,q1⟩,?_⟩;have:arr=[F,E].toArray:=by rw[<- k]
   rw[this];refine .agg _ _ _ rfl ?_;intro i v u a b
   match i,a,b with
   | 0,a,b=>simp at a b;subst a b;exact d0
   | 1,a,b=>simp at a b;subst a b;exact d1
   | i+2,a,b=>simp at a
end
theorem Q6Y {W:World} {base:Nat} {v:Value} (h:Value.okWide Tryz.prog W .any base 29 v):∃cs,v=.agg cs:=by
 unfold Value.okWide at h;rw[Tryz.underlying29] at h;obtain⟨cs,h,_⟩:=h;exact⟨cs,h⟩
section
variable {H:Type} {enc:TypeId×Value->H} {P:Program} {w:World} {sp:Nat->Bool} {hd:Bool}
theorem J4n {fuel:Nat} {t:TypeId} {cs:List Value} {x:DataW H×List MemPlace} (a:P.underlying t=some .string) (h:DataW.trod enc P w 0 sp hd fuel t cs=some x) :
 ∃s,cs=[.string s]/\s.size<=maxLen:=by
 cases fuel with
 | zero=>simp[DataW.trod] at h
 | succ fuel =>
   unfold DataW.trod at h;rw[a] at h;split at h<;>simp_all
theorem Q0P {α:Type} {fuel:Nat} {t e:TypeId} {s:Nat} {cs:List Value} {x:DataW H×List MemPlace} (σ:Sg) (d:α) (F:α->Nat->V) (Q:α->Prop) (r:P.underlying t=some (.slice e)) (C:P.cellsOf e=s) (v:0<s)
 (he:∀n cs y,DataW.trod enc P w 0 sp hd n e cs=some y->cs.length=s->∃a,(∀j,j<s->∀u,cs[j]?=some u->u.oneCell'=true/\Den (fun _=>False) w Sg.none (F a j) u)/\Q a)
 (h:DataW.trod enc P w 0 sp hd fuel t cs=some x) :
 ∃u l,cs=[u]/\u.oneCell'=true/\Den (fun _=>False) w σ (.fz l.length s false (fun i j=>F (List.getD l i d) j)) u/\l.length<=maxLen/\∀a∈l,Q a:=by
 rcases J2u r h with rfl | ⟨a,len,cap,n,rfl,E,I,D⟩
 . exact⟨_,[],rfl,rfl,.fz0 _ _ _ _ _ _ (by simp),by simp,by simp⟩
 . have key:∀i,i<len->∃z:List Value×α,w.cells? 0 (a.add (i*s)) s=some z.1/\(∀j,j<s->∀u,z.1[j]?=some u->u.oneCell'=true/\Den (fun _=>False) w Sg.none (F z.2 j) u)/\Q z.2:=by
    intro i c;obtain⟨f,y,k,G⟩:=D i c;rw[C] at k;obtain⟨b,p,o⟩:=he _ _ _ G (X0G k);exact⟨(f,b),k,p,o⟩
   let g:Nat->List Value×α:=fun i=>if h:i<len then Classical.choose (key i h) else ([],d)
   have hg:∀i (h:i<len),w.cells? 0 (a.add (i*s)) s=some (g i).1/\(∀j,j<s->∀u,(g i).1[j]?=some u->u.oneCell'=true/\Den (fun _=>False) w Sg.none (F (g i).2 j) u)/\Q (g i).2:=fun i h=>by
    simp only[g,h,Yo];exact Xj (key i h)
   refine⟨_,(List.range len).map (fun i=>(g i).2),rfl,rfl,?_,by simp;omega,?_⟩
   . simp only[Ye,Y5];refine J5Y σ v E fun i c=>⟨_,(hg i c).1,fun j B u q=>?_⟩;have:List.getD ((List.range len).map (fun i=>(g i).2)) i d=(g i).2:=by simp[c]
     rw[this];exact(hg i c).2.1 j B u q
   . intro m A;obtain⟨i,c,rfl⟩:=Qi.1 A;exact(hg i (by simpa using c)).2.2
end
theorem X0H:Tryz.prog.cellsOf 9=1:=by kernel_rfl
theorem X7Z:Tryz.prog.cellsOf 22=1:=by kernel_rfl
theorem X3B:Tryz.prog.cellsOf 173=6:=by kernel_rfl
theorem X7Y:Tryz.prog.cellsOf 23=1:=by kernel_rfl
theorem X3z:Tryz.prog.cellsOf 178=3:=by kernel_rfl
theorem Q5z:Tryz.prog.cellsOf 175=1:=by kernel_rfl
theorem X3v:Tryz.prog.cellsOf 244=2:=by kernel_rfl
theorem X3A:Tryz.prog.cellsOf 176=1:=by kernel_rfl
theorem X3y:Tryz.prog.cellsOf 194=2:=by kernel_rfl
theorem X7X:Tryz.prog.cellsOf 25=3:=by kernel_rfl
theorem X9p:Tryz.prog.readableRec 25=true:=by kernel_rfl
theorem X9i:25<Tryz.prog.types.size:=Xe (by kernel_rfl)
theorem X5x:Tryz.prog.wantsStandIn 25=false:=by kernel_rfl
theorem X9n:Tryz.prog.readableRec 30=true:=by kernel_rfl
theorem X9g:30<Tryz.prog.types.size:=Xe (by kernel_rfl)
theorem X5v:Tryz.prog.wantsStandIn 30=false:=by kernel_rfl
section
variable {H:Type} {enc:TypeId×Value->H} {W:World} {sp:Nat->Bool} {hd:Bool}
theorem X4R {fuel:Nat} {cs:List Value} {x:DataW H×List MemPlace} (h:DataW.trod enc Tryz.prog W 0 sp hd fuel 175 cs=some x) :
 ∃u,∃l:Lt2,cs=[u]/\u.oneCell'=true/\Den (fun _=>False) W Sg.none (vTr l) u/\l.length<=9223372036854775807:=by
 obtain⟨u,l,d,c,b,a,_⟩:=Q2v Sg.none Tryz.underlying175 Tryz.underlying244 X3v rfl rfl Tryz.underlying3 Tryz.underlying3 J8K J8K h;refine⟨u,l,d,c,?_,J4x a⟩;have e:(fun i j=>match j with|0=>V.int .i64 (List.getD l i (0,0)).1|_+1=>V.int .i64 (List.getD l i (0,0)).2:Nat->Nat->V)=vF l:=by
  funext i j;cases j<;>rfl
 rw[vTr,<- e];exact b
def rowV (x:Vr):Nat->V:=fun j=>match j with
 | 0=>.str x.name
 | 1=>.int .i64 x.kind
 | 2=>.int .i64 x.lo
 | 3=>.int .i64 x.hi
 | 4=>.int .i64 x.pn
 | _=>.int .i64 x.pid
def rowS (x:Int×Lt2):Nat->V:=fun j=>match j with
 | 0=>.int .i64 x.1
 | _=>vTr x.2
def rowR (x:RR):Nat->V:=fun j=>match j with
 | 0=>.str x.nm
 | 1=>vTr x.gd
 | _=>.fz x.sets.length 2 false (vSr x.sets)
theorem X3e {fuel:Nat} {cs:List Value} {x:DataW H×List MemPlace} (h:DataW.trod enc Tryz.prog W 0 sp hd fuel 176 cs=some x) :
 ∃u,∃l:List (Int×Lt2),cs=[u]/\u.oneCell'=true/\Den (fun _=>False) W Sg.none (.fz l.length 2 false (vSr l)) u/\l.length<=9223372036854775807/\∀a∈l,a.2.length<=9223372036854775807:=by
 obtain⟨u,l,r,q,p,o,m⟩:=Q0P Sg.none ((0,[]):Int×Lt2) rowS (fun a=>a.2.length<=9223372036854775807) Tryz.underlying176 X3y (by decide) (fun n cs y z A=>by
  obtain⟨_,E,f⟩:=J1i Tryz.underlying194 z;obtain⟨x0,d⟩:=f 0 _ rfl;obtain⟨C,c⟩:=f 1 _ rfl;simp only[J8K,Q5z] at d c;obtain⟨t,k,_⟩:=J01 Tryz.underlying3 d;obtain⟨D,w,g,s,d1,v⟩:=X4R c
  match cs,A with
  | [G,F],_ =>
    simp at k g;subst k g;refine⟨(t,w),fun j B u b=>?_,v⟩
    match j,B,b with
    | 0,_,b=>simp at b;subst b;exact⟨rfl,.int _ _ _⟩
    | 1,_,b=>simp at b;subst b;exact⟨s,d1⟩) h
 refine⟨u,l,r,q,?_,J4x o,m⟩;have e:(fun i j=>rowS (List.getD l i (0,[])) j)=vSr l:=by
  funext i j;rcases j with _|j<;>rfl
 rw[<- e];exact p
structure RRs (r:RR):Prop where
 nm:r.nm.size<=9223372036854775807
 sl:r.sets.length<=9223372036854775807
 gl:r.gd.length<=9223372036854775807
 el:∀a∈r.sets,a.2.length<=9223372036854775807
theorem X3f {v:Value} {d:DataW H} {U:List MemPlace} (e:∃cs,v=.agg cs) (h:DataW.Trod enc Tryz.prog W 0 sp hd 25 v d U):∃p:RP,p.Small/\Den (fun _=>False) W Sg.none p.v v:=by
 obtain⟨arr,rfl⟩:=e;obtain⟨fuel,h⟩:=h;obtain⟨o,n,c⟩:=J1i Tryz.underlying25 h;simp only[Value.cells] at o c;generalize D:arr.toList=cs at o c;rw[X7X] at o;obtain⟨x0,m⟩:=c 0 _ rfl;obtain⟨L,l⟩:=c 1 _ rfl;obtain⟨K,k⟩:=c 2 _ rfl;simp only[X0H,X7Z,X7Y] at m l k;obtain⟨s,r,t⟩:=J4n Tryz.underlying9 m;obtain⟨T,w,q,_,d1,B,q1⟩:=Q0P Sg.none (default:Vr) rowV (fun a=>a.name.size<=9223372036854775807) Tryz.underlying22 X3B (by decide) (fun n cs y C o=>by
  obtain⟨_,n',c⟩:=J1i Tryz.underlying173 C;obtain⟨x0,m⟩:=c 0 _ rfl;obtain⟨L,l⟩:=c 1 _ rfl;obtain⟨K,k⟩:=c 2 _ rfl;obtain⟨x3,J⟩:=c 3 _ rfl;obtain⟨x4,I⟩:=c 4 _ rfl;obtain⟨x5,G⟩:=c 5 _ rfl;simp only[J8K,X0H] at m l k J I G;obtain⟨s,r,t⟩:=J4n Tryz.underlying9 m;obtain⟨n1,q,_⟩:=J01 Tryz.underlying3 l;obtain⟨n2,e2,_⟩:=J01 Tryz.underlying3 k;obtain⟨n3,O,_⟩:=J01 Tryz.underlying3 J;obtain⟨Z,N,_⟩:=J01 Tryz.underlying3 I;obtain⟨Y,M,_⟩:=J01 Tryz.underlying3 G
  match cs,o with
  | [P,F,E,c3,c4,c5],_ =>
    simp at r q e2 O N M;subst r q e2 O N M;refine⟨⟨s,n1,n2,n3,Z,Y⟩,fun j x u b=>?_,J4x t⟩
    match j,x,b with
    | 0,_,b=>simp at b;subst b;exact⟨rfl,.str _ _⟩
    | 1,_,b=>simp at b;subst b;exact⟨rfl,.int _ _ _⟩
    | 2,_,b=>simp at b;subst b;exact⟨rfl,.int _ _ _⟩
    | 3,_,b=>simp at b;subst b;exact⟨rfl,.int _ _ _⟩
    | 4,_,b=>simp at b;subst b;exact⟨rfl,.int _ _ _⟩
    | 5,_,b=>simp at b;subst b;exact⟨rfl,.int _ _ _⟩) l
 obtain⟨S,g,e2,_,d2,A,q2⟩:=Q0P Sg.none (default:RR) rowR RRs Tryz.underlying23 X3z (by decide) (fun n cs y C o=>by
  obtain⟨_,n',c⟩:=J1i Tryz.underlying178 C;obtain⟨x0,m⟩:=c 0 _ rfl;obtain⟨L,l⟩:=c 1 _ rfl;obtain⟨K,k⟩:=c 2 _ rfl;simp only[X0H,Q5z,X3A] at m l k;obtain⟨s,r,t⟩:=J4n Tryz.underlying9 m;obtain⟨T,w,q,X,d1,B⟩:=X4R l;obtain⟨S,g,e2,V,d2,A,q2⟩:=X3e k
  match cs,o with
  | [P,F,E],_ =>
    simp at r q e2;subst r q e2;refine⟨⟨s,w,g⟩,fun j x u b=>?_,⟨J4x t,A,B,q2⟩⟩
    match j,x,b with
    | 0,_,b=>simp at b;subst b;exact⟨rfl,.str _ _⟩
    | 1,_,b=>simp at b;subst b;exact⟨X,d1⟩
    | 2,_,b=>simp at b;subst b;exact⟨V,d2⟩) k
 match cs,o with
 | [P,F,E],_ =>
   simp at r q e2;subst r q e2;have z:∀i,i<g.length->RRs (gRr g i):=fun i f=>q2 _ (by simp[gRr,List.getD,f]);have hx:∀i,i<g.length->∀j,j<(gRr g i).sets.length->(gSr (gRr g i).sets j).2.length<=9223372036854775807:=fun i f j x=>(z i f).el _ (by simp[gSr,List.getD,x]);refine⟨⟨s,w,g⟩,⟨J4x t,J4x B,J4x A,fun i f=>q1 _ (by simp[gV,List.getD,f]),fun i f=>(z i f).nm,fun i f=>(z i f).sl,fun i f=>(z i f).gl,hx⟩,?_⟩;have:arr=[.string s,F,E].toArray:=by rw[<- D]
   rw[this];have R:(fun i j=>rowV (List.getD w i default) j)=vV w:=by
    funext i j;rcases j with _|_|_|_|_|j<;>rfl
   have Q:(fun i j=>rowR (List.getD g i default) j)=vRr g:=by
    funext i j;rcases j with _|_|j<;>rfl
   rw[R] at d1;rw[Q] at d2;refine .agg _ _ _ rfl ?_;intro i v u e b
   match i,e,b with
   | 0,e,b=>simp at e b;subst e b;exact .str _ _
   | 1,e,b=>simp at e b;subst e b;exact d1
   | 2,e,b=>simp at e b;subst e b;exact d2
   | i+3,e,b=>simp at e
theorem X0j {v:Value} {d:DataW H} {f:List MemPlace} (k:v.cells=#[v]) (h:DataW.Trod enc Tryz.prog W 0 sp hd 30 v d f):∃(n:Nat) (lg:Nat->Bool),n<=9223372036854775807/\Den (fun _=>False) W Sg.none (blV n lg) v:=by
 obtain⟨fuel,h⟩:=h;rw[k] at h;obtain⟨l,a,c,_,d1,g,_⟩:=Q5p (α:=Bool) Sg.none false (fun b=>.bool b) (fun _=>True) Tryz.underlying30 Y1p (fun n cs y j=>by
  obtain⟨b,e⟩:=J99 Tryz.underlying4 j;exact⟨_,b,e,rfl,.bool _ _,tI⟩) h
 simp at c;subst c;exact⟨a.length,fun i=>List.getD a i false,J4x g,d1⟩
end
theorem Q6X {W:World} {base:Nat} {v:Value} (h:Value.okWide Tryz.prog W .any base 25 v):∃cs,v=.agg cs:=by
 unfold Value.okWide at h;rw[Tryz.underlying25] at h;obtain⟨cs,h,_⟩:=h;exact⟨cs,h⟩
theorem Q1s {W:World} {base:Nat} {v:Value} (h:Value.okWide Tryz.prog W .any base 30 v):v.cells=#[v]:=by
 unfold Value.okWide at h;rw[Tryz.underlying30] at h;unfold Cell.okWide at h;rw[Tryz.underlying30] at h;cases v<;>first|rfl|(simp[Cell.ok,Tryz.underlying30] at h)
end Go.Proofs.YtcbnimaicgegfaaGreatDoor
namespace Go.Proofs.YtcbnimaicgegfaaGreatDoor
open Go.Eng Go.Plain
set_option maxRecDepth 100000
set_option maxHeartbeats 16000000
def Q3h (p:Pr) (g:G):Nat->Nat->Nat->V:=fun v x _=>.int .i64 (plP p g v x:Nat)
def plV (p:Pr) (g:G):V:=.fz g.ids.length 1 false fun v _=>.fz p.vars.length 1 false (Q3h p g v)
def bP (p:Pr) (g:G) (kd:Int):V:=.fe 1 5 (tab [[mvP p g,.fz g.ports.length 1 false (X1h g),.int .i64 kd,X1j p g,plV p g]]) 0 0
def X8I (m j:Nat):Nat->Nat:=fun i=>if i<j then 0 else m
def X9A (j k:Nat):List (Nat×Nat):=if 0<j then[(j-1,k)] else[]
def Q1E (p:Pr) (g:G) (v i:Nat):Nat->Nat->V:=fun x _=>if x<i then .int .i64 0 else .int .i64 (plP p g v x:Nat)
theorem Q77 (p:Pr) (g:G) (v x b i j:Nat) (c:b=x) (f:j<1) (a:Int) (d:a=(plP p g v x:Nat)):VLe (J1l (Q1E p g v (x+1)) b 0 [.int .i64 a] i j) (Q1E p g v x i j):=by
 obtain rfl:j=0:=by omega
 subst c d;apply vE_;by_cases h:i=b
 . subst h;simp[J1l,Q1E]
 . have e:(i<b+1)=(i<b):=by simp;omega
   simp[J1l,Q1E,h,e]
theorem Q41 (m v i:Nat):J3G (X8I m (v+1)) v m i=X8I m v i:=by
 simp only[J3G,X8I];by_cases h:i=v
 . rw[Qe h,Qb (by omega)]
 . rw[Qb h];by_cases a:i<v
   . rw[Qe a,Qe (by omega)]
   . rw[Qb a,Qb (by omega)]
theorem J9k (p:Pr) (g:G) (v i j t:Nat):VLe (J4W (Q3h p g) v (Q1E p g v 0) i j t) (Q3h p g i j t):=by
 apply vE_;simp only[J4W];split
 . rename_i e;subst e;simp[Q1E,Q3h]
 . rfl
theorem Q6S (p:Pr) (hp:J2C p) (g:G) (I:g.Small) (hF:J1L p g) (hg:g.valid=true) (kd:Int) (y:J1z p g<=32768) :
 Ret Tryz.prog 33 [p.v,g.v,.int .i64 kd] (bP p g kd):=by
 obtain⟨f1,f2,f3,f4,f5,f6,f7⟩:=J0e hg;have H:=hp.vlen;have C:=Q4R p hp g hF hg;have s:=Q1V g I hg;have N:=J5y p hp g hF hg;refine rf fj33 ?_;refine Vq ?_;refine J0s J0c [7] [4] J9F [4,3,2,1,0] (fun j:Nat=>[(8,.int .i64 (Mx.pr (szP p g) (j*p.vars.length) (nP p g-j*p.vars.length):Nat)),(9,.int .i64 ((j:Int)-1))])
  (fun own j=>(4,.vec (if 0<j then X8I p.vars.length j (j-1) else 0) 1 (Q3h p g (j-1)))::J2g (J2g own 3 (.fam g.ids.length 1 (X8I p.vars.length j) (Q3h p g) [])) 3 (.fam g.ids.length 1 (X8I p.vars.length j) (Q3h p g) (X9A j 4))) (fun m j=>m=j/\j<=g.ids.length) g.ids.length g.ids.length ⟨rfl,Qd _⟩ rfl (fun _=>rfl) ?_ ?_
 . have e:X9A g.ids.length 4=[(g.ids.length-1,4)]:=Qe (by omega);simp only[e,Qe (show 0<g.ids.length by omega)];refine J3b.trans ?_ (J0Q (ks:=J3j) rfl rfl rfl (by omega) rfl) (J2H rfl);have u:nP p g-g.ids.length*p.vars.length=0:=Ke _;refine J0d J1u ?_ ?_ rfl
   . repeat' (first|exact J0b.int (by rw[u];rfl)|exact tI|(refine⟨⟨_,rfl,?_⟩,?_⟩)|exact J0b.kf rfl|exact J0b.loc rfl)
   . repeat' (first|exact⟨rfl,rfl,rfl,fun i c=>⟨rfl,Qe c⟩⟩|exact tI|(refine⟨⟨_,rfl,?_⟩,?_⟩)|exact J0b.kf rfl|exact J0b.q|apply And.intro)
 rintro m j ⟨J,l⟩;rcases Q4 j with E|E
 . subst E;refine Vq ?_;refine X38 (fun a b M B=>?_);obtain rfl:a=0:=by omega
   have B:b<5:=B;rcases b with _|_|_|_|_|b
   . exact vR_
   . exact vR_
   . exact vR_
   . exact vR_
   . refine VLe.fz rfl (fun h=>h) (fun i j c l=>?_);exact VLe.fz (Qb (by omega)) (fun h=>h) (fun _ _ _ _=>vR_)
   . omega
 . obtain⟨v,rfl⟩:∃v,j=v+1:=⟨j-1,by omega⟩;have e:X9A (v+1) 4=[(v,4)]:=Qe (by omega);have L:v+1-1=v:=rfl;simp only[e,L,Qe (Ve v)]
   repeat' ((conv=>whnf);first|(refine Ix.w v ?_)|(refine Br.dec ?_ ?_<;>intro _<;>try omega)|(refine Ar.q ?_)|(refine Bd.q ?_)|(refine Len.q ?_)|(refine Ltn.q ?_)|(refine MkS.vec ?_)|(refine J45.hd (by omega) ?_))
   all_goals conv=>whnf
   have o:v<g.ids.length:=by omega
   refine J0s J0c [7,9] [] X4G [5,4,3,2,1,0] (fun i:Nat=>[(8,.int .i64 (Mx.pr (szP p g) (v*p.vars.length+i) (nP p g-(v*p.vars.length+i)):Nat)),(10,.int .i64 ((i:Int)-1))])
    (fun own i=>J2g own 5 (.vec p.vars.length 1 (Q1E p g v i))) (fun m i=>m=i/\i<=p.vars.length) p.vars.length p.vars.length ⟨rfl,Qd _⟩ rfl (fun _=>rfl) ?_ ?_
   . have e2:(v+1)*p.vars.length=v*p.vars.length+p.vars.length:=by rw[Xc,Yy]
     refine J0d J2w ?_ ?_ rfl
     . repeat' (first|exact J0b.int (by rw[e2])|exact tI|(refine⟨⟨_,rfl,?_⟩,?_⟩)|exact J0b.kf rfl|exact J0b.loc rfl)
     . repeat' (first|exact⟨rfl,rfl,⟨rfl,rfl,tI⟩,fun i c=>rfl,fun i j t c y l z=>vR_⟩|(refine⟨Qd _,rfl,fun i j c l=>vE_ ?_⟩;rw[Q1E,Qe c];(obtain rfl:j=0:=(by omega));rfl)|exact tI|(refine⟨⟨_,rfl,?_⟩,?_⟩)|exact J0b.kf rfl|exact J0b.q|(refine⟨Qd _,rfl,fun i j c l=>?_⟩)|exact vR_|apply And.intro)
   rintro m i ⟨J,c⟩;rcases Q4 i with C|C
   . subst C;refine Vq ?_;refine⟨_,v,by omega,⟨rfl,by omega⟩,?_⟩;refine J3b.trans (J1M (J1q (q:=5) (k:=3) (i:=v) [] rfl rfl o (J0j rfl) (Y4 (Qe rfl)) rfl (fun j l=>(J0o (fun e=>l e.symm)).symm))) ?_ (J9E rfl);have F:v*p.vars.length+0=v*p.vars.length:=Xx _;rcases Q4 v with s|s
     . subst s;have u:X9A 0 4=[]:=Qb (by omega);simp only[u,Qb (Ja 0)];refine J0d (fun _ _=>[(0,some 0),(1,some 1),(2,some 2),(3,some 3),(4,none)]) ?_ ?_ rfl
       . repeat' (first|exact J0b.int (by rw[F])|exact tI|(refine⟨⟨_,rfl,?_⟩,?_⟩)|exact J0b.kf rfl|exact J0b.loc rfl)
       . repeat' (first|exact⟨rfl,rfl,tI,fun i c=>(Q41 _ _ _).symm,fun i j t c y l z=>J9k p g 0 i j t⟩|exact tI|(refine⟨⟨_,rfl,?_⟩,?_⟩)|exact J0b.kf rfl|exact J0b.q|(refine⟨⟨_,_,rfl⟩,?_⟩)|apply And.intro)
     . have u:X9A v 4=[(v-1,4)]:=Qe s;simp only[u,Qe s];refine J3b.trans ?_ (J0Q (ks:=J3j) rfl rfl rfl (show v-1<g.ids.length by omega) rfl) (J2H rfl);refine J0d J1u ?_ ?_ rfl
       . repeat' (first|exact J0b.int (by rw[F])|exact tI|(refine⟨⟨_,rfl,?_⟩,?_⟩)|exact J0b.int (by omega)|exact J0b.loc rfl)
       . repeat' (first|exact⟨rfl,rfl,tI,fun i c=>(Q41 _ _ _).symm,fun i j t c y l z=>J9k p g v i j t⟩|exact tI|(refine⟨⟨_,rfl,?_⟩,?_⟩)|exact J0b.kf rfl|exact J0b.q|apply And.intro)
   . obtain⟨x,rfl⟩:∃x,i=x+1:=⟨i-1,by omega⟩;have d:x<p.vars.length:=by omega
     have n:=J86 o d;have B:=J4I hg (hp.var x d) (hF _ d) (v:=v) (by omega);have A:=J3X hp g hF hg v d;have r:=Q8F p g n;have K:=X6K p g (Vf n);have D:=X6K p g (show v*p.vars.length+(x+1)<=nP p g from n);rw[J4Z p g d] at r;have f:((Mx.pr (szP p g) (v*p.vars.length+(x+1)) (nP p g-(v*p.vars.length+(x+1))):Nat):Int)*((bnd g (gV p.vars x) v).2-(bnd g (gV p.vars x) v).1+1)=(Mx.pr (szP p g) (v*p.vars.length+x) (nP p g-(v*p.vars.length+x)):Nat):=by
      rw[r,Zq,A,Int.mul_comm];rfl
     repeat' ((conv=>whnf);first|(refine Ix.w x ?_)|(refine Ix.w v ?_)|(refine Ar.i64 (by rw[f];omega) (by rw[f];omega) ?_;rw[f])|(refine Br.dec ?_ ?_<;>intro _<;>try omega)|(refine Ar.q ?_)|(refine Ix.mk 0 rfl (by omega) ?_)|(refine Ix.mk 1 rfl (by omega) ?_)|(refine Ltn.q ?_)|(refine Opn.hdl (by omega) (show J3G _ _ _ _=p.vars.length from Qe rfl) ?_))
     all_goals conv=>whnf
     refine⟨_,x,by omega,⟨rfl,by omega⟩,?_⟩;refine J0F J2w ?_;intro i j c l
     first|exact⟨rfl,rfl,⟨rfl,rfl,tI⟩,fun i c=>rfl,fun i j t c y l z=>vR_⟩|exact Q77 _ _ _ _ _ _ _ (Qk _) l _ rfl
abbrev cF (c:Cf):Nat->Nat->Int:=fun v x=>gI (gC c v) x
theorem Q3R {p:Pr} {g:G} {c:Cf} (d:J2O p g c) (F:Nat->Nat->Nat->V) (hF:∀i j,VLe (F i j 0) (J3d (cF c) i j 0)):VLe (.fz g.ids.length 1 false fun i _=>.fz (J83 p i) 1 false (F i)) (cV c):=by
 refine VLe.fz d.len.symm (fun h=>h) (fun i j e f=>?_);refine VLe.fz ?_ (fun h=>h) (fun a b l k=>?_)
 . rw[d.row i (by rw[d.len];exact e)];rfl
 . obtain rfl:b=0:=by omega
   exact hF i a
theorem X5D (c:Cf) (v i j:Nat):VLe (J4W (J3d (cF c)) v (J3d (cF c) v) i j 0) (J3d (cF c) i j 0):=J3H _ _ _ _ _
theorem X2v (p:Pr) (hp:J2C p) (g:G) (hF:J1L p g) (hg:g.valid=true) (c:Cf) (l:J2O p g c) (v:Nat) (s:v<g.ids.length) (r:Nat) (w:r<p.rules.length) :
 J0N Tryz.prog 83 [mvP p g,.vec 0 1 0 g.ids.length,.int .i64 v,.int .i64 r] [(0,J8U p g (cF c) [])] KS.tail fun X own' _=>X=.vec 1 1 0 p.vars.length/\own'=[(1,.vec p.vars.length 1 (vI (J1P p g c v r))),(0,J8U p g (cF c) [])]:=by
 obtain⟨f1,f2,f3,f4,f5,f6,f7⟩:=J0e hg;have C:=l.len;have u:=l.row v (by omega);have y:=hp.vlen;have z:=hp.slen r w;have B:J83 p v=p.vars.length:=rfl;refine J2d (Q2E ?_);refine X0N 28 0 v rfl rfl s rfl ?_;show J0N Tryz.prog _ _ [(28,.vec (J83 p v) 1 (J3d (cF c) v)),(0,J8U p g (cF c) [(v,28)])] [1,2,3,4,5,6,7,8,9,10,11,12,13,14,15,16,17,18,19,20,21,22,23,24,25,26,27,29] _;refine fr fj83 ?_
 repeat' ((conv=>whnf);first|(refine Ix.q ?_)|(refine Len.q ?_)|(refine Ltn.q ?_)|(refine Opn.hd (by omega) ?_))
 all_goals conv=>whnf
 refine J0s J0c [0,1,2,9,26,27] [] [2,3,4,5,6,7,8,9,10,11,12,13,14,15,16,17,18,19,20,21,22,23,24,25,26,27,29] [1,28,0] (fun j:Nat=>[(28,.int .i64 j)]) (fun own j=>J2g own 1 (.vec (J83 p v) 1 (vI (X1l p g c v ((gRl p.rules r).sets.take j))))) (fun m j=>m=(gRl p.rules r).sets.length-j/\j<=(gRl p.rules r).sets.length) (gRl p.rules r).sets.length 0 ⟨rfl,Qh _⟩ rfl (fun _=>rfl) ?_ ?_
 . refine J0d Q2e ?_ ?_ rfl
   . repeat' (first|exact tI|(refine⟨⟨_,rfl,?_⟩,?_⟩)|exact J0b.kf rfl|exact J0b.q)
   . repeat' (first|exact⟨rfl,rfl,⟨rfl,rfl,tI⟩,fun i a=>rfl,fun i j t a x b h=>vR_⟩|exact vE_ (by rw[J0l,Qk];rfl)|exact tI|(refine⟨⟨_,rfl,?_⟩,?_⟩)|(refine⟨Qd _,rfl,fun i j a b=>?_⟩)|exact vR_)
 rintro m j ⟨F,b⟩;have A:=J2Q p g c v ((gRl p.rules r).sets.take j);by_cases f:j<(gRl p.rules r).sets.length
 . obtain⟨E,D,n⟩:=hp.set r w j f;simp only[Tm.okB,Qg,Qa] at n;have d:=Q03 p.pg g hg (l.fit hp hF hg) v (by omega) (gS (gRl p.rules r).sets j).2 n.2 n.1;have o:=Q5I (gV p.vars (gS (gRl p.rules r).sets j).1.toNat).kind (bnd g (gV p.vars (gS (gRl p.rules r).sets j).1.toNat) v).1 (bnd g (gV p.vars (gS (gRl p.rules r).sets j).1.toNat) v).2 ((gS (gRl p.rules r).sets j).2.sem g c v (-1))
   repeat' ((conv=>whnf);first|(refine Br.dec ?_ ?_<;>intro _<;>try omega)|(refine Ar.q ?_)|(refine Ix.q ?_)|(refine Ix.int (by omega) (by omega) ?_)|(refine Ltn.q ?_)|(refine J2e d rfl ⟨Qd _,Qd _,vR_,Q3R l _ (fun i j=>X5D c v i j),vR_,vR_,tI⟩ ?_)|(refine o.go ?_)|(refine And.intro rfl ?_))
   all_goals conv=>whnf
   refine⟨(gRl p.rules r).sets.length-(j+1),j+1,by omega,⟨rfl,by omega⟩,?_⟩;simp only[Q3L _ j f,J7Z];refine J0d Q2e ?_ ?_ rfl
   . repeat' (first|exact tI|(refine⟨⟨_,rfl,?_⟩,?_⟩)|exact J0b.kf rfl|exact J0b.q)
   . repeat' (first|exact⟨rfl,rfl,⟨rfl,rfl,tI⟩,fun i a=>rfl,fun i j t a x b h=>vR_⟩|exact⟨Qd _,rfl,fun i t a h=>by simp only[Qk];exact J96 _ _ _ _ _ (by rw[J2Q];omega) h⟩|exact tI|(refine⟨⟨_,rfl,?_⟩,?_⟩)|(refine⟨Qd _,rfl,fun i j a b=>?_⟩)|exact vR_)
 . refine Vq ?_;have et:(gRl p.rules r).sets.take j=(gRl p.rules r).sets:=Qz (by omega);exact⟨_,J1q (q:=28) (k:=0) (i:=v) [] rfl rfl s (J0j rfl) (Qd _) rfl (fun j b=>(J0o (fun e=>b e.symm)).symm),J2R (fun _=>[(1,some 1),(0,some 0)]) _ _ ⟨rfl,rfl⟩ (J0b.vec rfl rfl rfl) (by repeat' (first|(refine⟨rfl,rfl,tI,fun i a=>rfl,fun i j t a x b h=>J3H _ _ _ _ _⟩)|(refine⟨Qd _,rfl,fun i j a b=>(by rw[et];exact vR_)⟩)|exact tI|(refine⟨⟨_,rfl,?_⟩,?_⟩))) rfl⟩
def gwF (p:Pr) (g:G) (c:Cf) (v x:Nat):Nat->Nat->V:=fun u _=>.int .i64 (if u<v then gwK p g c u else if u=v then gwS p g c v x else 0)
theorem X7f (p:Pr) (g:G) (c:Cf) (u j:Nat) (F:Nat->Nat->V) (hF:F u j=.int .i64 0):VLe (F u j) (gwF p g c 0 0 u j):=by
 apply vE_;rw[hF,gwF];by_cases h:u=0
 . subst h;rfl
 . rw[Qb (by omega),Qb h]
theorem X7h (p:Pr) (g:G) (c:Cf) (v u j:Nat) (h:¬ 0<=J0z p g c v):VLe (gwF p g c v 0 u j) (gwF p g c (v+1) 0 u j):=by
 apply vE_;rw[gwF,gwF];congr 1;by_cases d:u<v
 . rw[Qe d,Qe (by omega)]
 . rw[Qb d];by_cases b:u=v
   . subst b;rw[Qe rfl,Qe (by omega),gwK,Qb h];rfl
   . rw[Qb b,Qb (by omega)];by_cases a:u=v+1
     . rw[Qe a];rfl
     . rw[Qb a]
theorem Y0Z (p:Pr) (g:G) (c:Cf) (v u j:Nat) (h:0<=J0z p g c v):VLe (gwF p g c v p.vars.length u j) (gwF p g c (v+1) 0 u j):=by
 apply vE_;rw[gwF,gwF];congr 1;by_cases d:u<v
 . rw[Qe d,Qe (by omega)]
 . rw[Qb d];by_cases b:u=v
   . subst b;rw[Qe rfl,Qe (by omega),gwK,Qe h]
   . rw[Qb b,Qb (by omega)];by_cases a:u=v+1
     . rw[Qe a];rfl
     . rw[Qb a]
theorem X7g (p:Pr) (g:G) (c:Cf) (v b x u j:Nat) (d:b=v) (f:j<1) (a:Int) (e:a=gwS p g c v (x+1)):VLe (J1l (gwF p g c v x) b 0 [.int .i64 a] u j) (gwF p g c v (x+1) u j):=by
 obtain rfl:j=0:=by omega
 subst d e;apply vE_;by_cases h:u=b
 . subst h;simp[J1l,gwF]
 . simp[J1l,gwF,h]
def arX (a:List Nat) (T:Nat->Nat) (i m:Nat) (t:Int):Nat->Nat->V:=fun q j=>match j with
 | 0=>.int .u32 (if q<m then gN a q else 0:Nat)
 | _+1=>.int .i64 (if q<i then (T (gN a q):Int) else if q=i then t else 0)
theorem X3Z (a:List Nat) (T:Nat->Nat) (q j:Nat) (b:j<2):VLe ((fun(_ j:Nat)=>[V.int .u32 0,V.int .i64 0].getD j default) q j) (arX a T 0 0 0 q j):=by
 apply vE_;rcases j with _|_|j
 . rfl
 . show V.int .i64 0=V.int .i64 _;congr 1;rw[Qb (by omega)];by_cases h:q=0
   . rw[Qe h]
   . rw[Qb h]
 . omega
theorem X8h (b:List Nat) (T:Nat->Nat) (i a q j:Nat) (d:a=i) (e:j<2) (s k:Int) (c:s=(gN b i:Nat)):VLe (J1l (arX b T i i 0) a 0 [.int .u32 s,.int .i64 k] q j) (arX b T i (i+1) k q j):=by
 subst d c;apply vE_;by_cases h:q=a
 . subst h;rcases j with _|_|j
   . simp[J1l,arX]
   . simp[J1l,arX]
   . omega
 . rcases j with _|_|j
   . have:(q<a+1)=(q<a):=by simp;omega
     simp[J1l,arX,h,this]
   . simp[J1l,arX,h]
   . omega
theorem Y1F (e:List Nat) (T:Nat->Nat) (i a q j d:Nat) (f:a=i) (b:d=1) (g:j<2) (t c:Int):VLe (J1l (arX e T i (i+1) t) a d [.int .i64 c] q j) (arX e T i (i+1) c q j):=by
 subst f b;apply vE_;by_cases h:q=a
 . subst h;rcases j with _|_|j
   . simp[J1l,arX]
   . simp[J1l,arX]
   . omega
 . rcases j with _|_|j
   . simp[J1l,arX,h]
   . simp[J1l,arX,h]
   . omega
theorem X30 (b:List Nat) (T:Nat->Nat) (i q j:Nat) (t:Int) (d:t=(T (gN b i):Nat)):VLe (arX b T i (i+1) t q j) (arX b T (i+1) (i+1) 0 q j):=by
 subst d;apply vE_;rcases j with _|j
 . rfl
 . show V.int .i64 _=V.int .i64 _;congr 1;by_cases h:q<i
   . rw[Qe h,Qe (by omega)]
   . rw[Qb h];by_cases a:q=i
     . rw[Qe a,Qe (by omega),a]
     . rw[Qb a,Qb (by omega)];by_cases c:q=i+1
       . rw[Qe c]
       . rw[Qb c]
theorem X8i (a:List Nat) (T:Nat->Nat) (q j:Nat) (b:q<a.length):VLe (arX a T a.length a.length 0 q j) (vAr (a.map fun s=>(s,T s)) q j):=by
 apply vE_;have hg:gA (a.map fun s=>(s,T s)) q=(gN a q,T (gN a q)):=by
  simp[gA,gN,Q6,Qp b]
 rcases j with _|j
 . show V.int .u32 _=V.int .u32 _;rw[hg,Qe b]
 . show V.int .i64 _=V.int .i64 _;rw[hg,Qe b]
theorem X2x {p:Pr} (hp:J2C p) {g:G} (hF:J1L p g) (hg:g.valid=true) {c:Cf} (b:J2O p g c) {v x:Nat} (h:v<g.ids.length) (f:x<p.vars.length) (k:0<=J0z p g c v) :
 (bnd g (gV p.vars x) v).1<=gI (J1P p g c v (J0z p g c v).toNat) x/\gI (J1P p g c v (J0z p g c v).toNat) x<=(bnd g (gV p.vars x) v).2:=by
 have m:=b.len;have j:J2D (2 ^ v) (enN p g c):=fun i l=>by
  have e:=J70 l;rw[J8A,Qg,Qa,Qa,<- e];exact⟨h,k⟩
 have hd:=J25 hp hF hg b j;have a:=J2x p g c (2 ^ v) (v:=v) (by omega);rw[Jt,Qe rfl] at a;have d:=hd.val v (by rw[J26];omega) x f;rw[a] at d;exact d
theorem Q7O (p:Pr) (hp:J2C p) (g:G) (hF:J1L p g) (hg:g.valid=true) (kd:Int) (hk:dk kd=true) (n:J1z p g<=32768) (c:Cf) (r:J2O p g c) (he:(chs g kd (enN p g c)).2=0) :
 J0N Tryz.prog 35 [bP p g kd,.vec 0 1 0 g.ids.length,.int .i64 (rkC p g c)] [(999,GB),(0,J8U p g (cF c) [])] KS.tail fun X own' _=>X=.tup [.int .u32 (enN p g c),.vec 1 2 0 (chs g kd (enN p g c)).1.length,.int .i64 0] /\
  own'=[(1,.vec (chs g kd (enN p g c)).1.length 2 (vAr ((chs g kd (enN p g c)).1.map fun s=>(s,rkC p g (J12 p g c s))))),(999,GB),(0,J8U p g (cF c) [])]:=by
 obtain⟨f1,f2,f3,f4,f5,f6,f7⟩:=J0e hg;have aa:=r.len;have a0:=hp.vlen;refine J2d ?_;refine fr fj35 ?_
 all_goals conv=>whnf
 refine J0s J0c [0,1,2,10,21,22] [] J1k [1,999,0] (fun v:Nat=>[(9,.int .u32 (nb (fun u=>decide (0<=J0z p g c u)) v)),(23,.int .i64 v)]) (fun own v=>J2g own 1 (.vec 24 1 (gwF p g c v 0))) (fun m v=>m=g.ids.length-v/\v<=g.ids.length) g.ids.length 0 ⟨rfl,Qh _⟩ rfl (fun _=>rfl) ?_ ?_
 . refine J0d J6q ?_ ?_ rfl
   . repeat' (first|exact tI|exact J0b.oel rfl rfl|(refine⟨⟨_,rfl,?_⟩,?_⟩)|exact J0b.kf rfl|exact J0b.q)
   . repeat' (first|exact⟨rfl,rfl,tI,fun i a=>rfl,fun i j t a n d z=>vR_⟩|exact X7f p g c i j (fun _ _=>.int .i64 0) rfl|exact tI|exact⟨rfl,rfl,rfl⟩|(refine⟨⟨_,rfl,?_⟩,?_⟩)|(refine⟨Qd _,rfl,fun i j a d=>?_⟩))
 rintro m v ⟨hm,hv⟩;by_cases f:v<g.ids.length
 . have J:=Q3f p hp g hF hg c r v (by omega);by_cases l:0<=J0z p g c v
   . have a1:=J7f p g c v;have K:=X2v p hp g hF hg c r v f (J0z p g c v).toNat (by omega);rw[show(((J0z p g c v).toNat:Nat):Int)=J0z p g c v by omega] at K
     repeat' ((conv=>whnf);first|(refine Br.dec ?_ ?_<;>intro _<;>try omega)|(refine Ar.sh1 (by omega) ?_)|(refine Sv.mk _ rfl ?_)|(refine Nn.mk (by omega) ?_)|(refine J2e J rfl ⟨Qd _,vR_,Q3R r _ (fun i j=>vR_),vR_,tI⟩ ?_)|(refine J3y [(0,some 0)] [1] (K.mono ?_) ⟨J0b.kf rfl,J0b.vec rfl rfl rfl,J0b.kf rfl,J0b.kf rfl,tI⟩ (by repeat' (first|(refine⟨rfl,rfl,tI,fun i a=>rfl,fun i j t a n d z=>vR_⟩)|exact tI|(refine⟨⟨_,rfl,?_⟩,?_⟩))) rfl;rintro _ _ _ ⟨rfl,rfl⟩)|(refine Chk.mk rfl ?_))
     all_goals conv=>whnf
     refine J1y J0c [0,1,2,9,10,11,21,22,23,46,47] [3] J3j [3,2,1,999,0] (fun x:Nat=>[(48,.int .i64 x)]) (fun x=>(3,.vec (J83 p v) 1 (J3d (cF c) v))::J2g [(2,.vec p.vars.length 1 (vI (J1P p g c v (J0z p g c v).toNat))),(1,.vec 24 1 (gwF p g c v x)),(999,GB),(0,J8U p g (cF c) [])] 0 (J8U p g (cF c) [(v,3)])) (fun m x=>m=p.vars.length-x/\x<=p.vars.length) p.vars.length 0 ⟨rfl,Qh _⟩ rfl (fun _=>rfl) ?_ ?_
     . refine J3b.trans ?_ (J0Q (own:=[(2,.vec p.vars.length 1 (vI (J1P p g c v (J0z p g c v).toNat))),(1,.vec 24 1 (gwF p g c v 0)),(999,GB),(0,J8U p g (cF c) [])]) (ks:=J2z) rfl rfl rfl f rfl) (J2H rfl);refine J0d Q2d ?_ ?_ rfl
       . repeat' (first|exact tI|exact J0b.oel rfl rfl|(refine⟨⟨_,rfl,?_⟩,?_⟩)|exact J0b.kf rfl|exact J0b.q)
       . repeat' (first|exact⟨rfl,rfl,tI,fun i a=>rfl,fun i j t a n d z=>vR_⟩|exact tI|exact⟨rfl,rfl,rfl⟩|(refine⟨⟨_,rfl,?_⟩,?_⟩)|(refine⟨Qd _,rfl,fun i j a d=>?_⟩)|exact vR_)
     rintro m2 x ⟨P,D⟩;have a5:J83 p v=p.vars.length:=rfl;by_cases y:x<p.vars.length
     . have a7:=Q9L hp hF hg r f y l n;have a8:=Q3J hp hF hg r f l n (x:=x) (by omega);have T:=Q3J hp hF hg r f l n (x:=x+1) (by omega);have ad:=r.val v (by omega) x y;have a3:=X2x hp hF hg r f y l;have ac:=J4I hg (hp.var x y) (hF _ y) (v:=v) (by omega);have a2:gI (J1P p g c v (J0z p g c v).toNat) (0+x)=gI (J1P p g c v (J0z p g c v).toNat) x:=by rw[Qk]
       have a9:cF c v (0+x)=gI (gC c v) x:=by rw[Qk]
       have o:(gI (J1P p g c v (J0z p g c v).toNat) (0+x)-cF c v (0+x))*(plP p g v x:Nat)=gwX p g c v x:=by rw[Qk];rfl
       have h:(if v<v then gwK p g c v else if v=v then gwS p g c v x else 0)+gwX p g c v x=gwS p g c v (x+1):=by
        rw[Qb (Ja _),Qe rfl];rfl
       repeat' ((conv=>whnf);first|(refine Ar.i64 (by rw[o];omega) (by rw[o];omega) ?_;rw[o])|(refine Ar.i64 (by rw[h];omega) (by rw[h];omega) ?_;rw[h])|(refine Br.dec ?_ ?_<;>intro _<;>try omega)|(refine Ar.q ?_)|(refine Ix.q ?_)|(refine Ltn.q ?_)|(refine Opn.hd (by omega) ?_))
       all_goals conv=>whnf
       refine⟨_,x+1,by omega,⟨rfl,by omega⟩,?_⟩;refine J0F J0q ?_;intro i j a d
       first|exact⟨rfl,rfl,⟨rfl,rfl,tI⟩,fun i a=>rfl,fun i j t a n d z=>vR_⟩|exact X7g _ _ _ _ _ _ _ _ rfl d _ rfl
     . refine Vq ?_;have ex:x=p.vars.length:=by omega
       have D:=X2s (p:=fun u=>decide (0<=J0z p g c u)) (k:=v) (by omega) (Qn l);refine⟨_,v+1,by omega,⟨rfl,by omega⟩,?_⟩;refine J3b.trans (J1M (J1q (q:=3) (k:=0) (i:=v) [] rfl rfl f (J0j rfl) (Qd _) rfl (fun j d=>(J0o (fun e=>d e.symm)).symm))) ?_ (J9E rfl);refine J0d J6q ?_ ?_ rfl
       . repeat' (first|exact J0b.int D|exact tI|exact J0b.oel rfl rfl|(refine⟨⟨_,rfl,?_⟩,?_⟩)|exact J0b.kf rfl|exact J0b.q)
       . repeat' (first|exact⟨rfl,rfl,tI,fun i a=>rfl,fun i j t a n d z=>J3H _ _ _ _ _⟩|(rw[ex];exact Y0Z _ _ _ _ _ _ l)|exact tI|exact⟨rfl,rfl,rfl⟩|(refine⟨⟨_,rfl,?_⟩,?_⟩)|(refine⟨Qd _,rfl,fun i j a d=>?_⟩))
   . repeat' ((conv=>whnf);first|(refine Br.dec ?_ ?_<;>intro _<;>try omega)|(refine Ar.q ?_)|(refine J2e J rfl ⟨Qd _,vR_,Q3R r _ (fun i j=>vR_),vR_,tI⟩ ?_))
     all_goals conv=>whnf
     have D:=X6T (p:=fun u=>decide (0<=J0z p g c u)) (k:=v) (Qm l);refine⟨_,v+1,by omega,⟨rfl,by omega⟩,?_⟩;refine J0d J6q ?_ ?_ rfl
     . repeat' (first|exact J0b.int (by rw[D])|exact tI|exact J0b.oel rfl rfl|(refine⟨⟨_,rfl,?_⟩,?_⟩)|exact J0b.kf rfl|exact J0b.q)
     . repeat' (first|exact⟨rfl,rfl,tI,fun i a=>rfl,fun i j t a n d z=>vR_⟩|exact X7h _ _ _ _ _ _ l|exact tI|exact⟨rfl,rfl,rfl⟩|(refine⟨⟨_,rfl,?_⟩,?_⟩)|(refine⟨Qd _,rfl,fun i j a d=>?_⟩))
 . have ev:v=g.ids.length:=by omega
   subst ev;have w:=J5l p hg c;have L:=Q3z g hg kd (enN p g c) w (J3x p hg c);rw[he] at L;have U:=X7S (g:=g) (k:=kd) w;have R:∀s,s∈(chs g kd (enN p g c)).1->s<4294967296/\J2D s (enN p g c):=fun s B=>⟨J3S w s B,(J05 (J3S w s B)).1 (J1D.1 ((J4G hk w (J3S w s B) he).1 B)).2.1⟩;change RG _ [_,_,.int .u32 (nb (fun u=>decide (0<=J0z p g c u)) g.ids.length:Nat)] _ at L;generalize (chs g kd (enN p g c)).1=cl at *;refine Vq ?_;refine J1y J0c [2,9,10,17,99,100] [] J3j [3,2,1,999,0] (fun i:Nat=>[(101,.int .i64 i)]) (fun i=>[(3,.cells [.vec 2 2 0 cl.length]),(2,.vec cl.length 2 (arX cl (fun s=>rkC p g (J12 p g c s)) i i 0)),(1,.vec 24 1 (gwF p g c g.ids.length 0)),(999,GB),(0,J8U p g (cF c) [])]) (fun m i=>m=cl.length-i/\i<=cl.length) cl.length 0 ⟨rfl,Qh _⟩ rfl (fun _=>rfl) ?_ ?_
   . refine J0F J0q ?_;intro i j a d
     first|exact⟨rfl,rfl,tI,fun i a=>rfl,fun i j t a n d z=>vR_⟩|exact X3Z _ _ _ _ d
   rintro m i ⟨P,a⟩;by_cases Q:i<cl.length
   . obtain⟨A,C⟩:=R (gN cl i) (J6Y Q);generalize B:gN cl i=s at *
     repeat' ((conv=>whnf);first|(refine Br.dec ?_ ?_<;>intro _<;>try omega)|(refine Ix.q ?_)|(refine Ltn.q ?_)|(refine fr Y06 ?_)|(refine J2l ?_)|(refine Chk.q ?_)|(refine fr Q9Z ?_))
     all_goals conv=>whnf
     have a6:=Q8g hp hF hg r;have O:∀u,s.testBit u=true->u<g.ids.length:=fun u F=>by
      have:=C u F;rw[J8A,Qg,Qa] at this;exact this.1
     refine J0s J0c [0,1] [] J8g [6,5,4,3,2,1,999,0] (fun b:Nat=>[]) (fun own b=>J2g (J2g own 5 (.cells [.int .u32 (upS s b)])) 2 (.vec cl.length 2 (arX cl (fun s=>rkC p g (J12 p g c s)) i (i+1) (toS p g c (rkC p g c) s b)))) (fun m b=>m=g.ids.length-b/\b<=g.ids.length) g.ids.length 0 ⟨rfl,Qh _⟩ rfl (fun _=>rfl) ?_ ?_
     . have D:=J5v A;have N:toS p g c (rkC p g c) s 0=(rkC p g c:Nat):=by rw[toS,Q08];exact Int.add_zero _
       refine J0F J1f ?_;intro i j a d
       first|exact⟨rfl,rfl,tI,fun i a=>rfl,fun i j t a n d z=>vR_⟩|(rw[N];exact X8h _ _ _ _ _ _ (Qk _) d _ _ rfl)
     rintro m3 b ⟨a4,W⟩;have E:=J9f s b;have ab:=Q7H hp hF hg r n (k:=rkC p g c) (s:=s) (b:=b) (by omega) W;by_cases F:upS s b=0
     . have I:=X5r hp hF hg r C;rw[Q4q W (fun u h1 h2=>J7F A F u h1)] at I;refine Vq ?_;refine⟨_,i+1,by omega,⟨rfl,by omega⟩,?_⟩;refine J0d J0q ?_ ?_ rfl
       . repeat' (first|exact tI|exact J0b.oel rfl rfl|(refine⟨⟨_,rfl,?_⟩,?_⟩)|exact J0b.kf rfl|exact J0b.loc rfl)
       . repeat' (first|exact⟨rfl,rfl,tI,fun i a=>rfl,fun i j t a n d z=>vR_⟩|exact X30 _ _ _ _ _ _ (by rw[B];exact I)|exact tI|exact⟨rfl,rfl,rfl⟩|(refine⟨⟨_,rfl,?_⟩,?_⟩)|exact J0b.q|(refine⟨Qd _,rfl,fun i j a d=>?_⟩)|exact vR_|apply And.intro)
     . obtain⟨v1,Z,S,v4,Y⟩:=J5w A F;have M:=Q7B _ F E;have hr:J3C .and .u32 ((upS s b:Nat):Int) ((upS s b:Nat)-1:Int)=((upS s (ctz (upS s b)+1):Nat):Int):=by
        rw[<- Y,show((upS s b:Nat):Int)-1=((upS s b-1:Nat):Int) by omega,J0P E (by omega)]
       generalize ctz (upS s b)=v at *;have f:=O v S;have H:=X1H (p:=p) (g:=g) (c:=c) (k:=rkC p g c) S;rw[Q4q Z v4] at H;have V:=Q7H hp hF hg r n (k:=rkC p g c) (s:=s) (b:=v+1) (by omega) f;have h:(if 0+i<i then ((rkC p g (J12 p g c (gN cl (0+i))):Nat):Int) else if 0+i=i then toS p g c (rkC p g c) s b else 0)+(if v<g.ids.length then gwK p g c v else if v=g.ids.length then gwS p g c g.ids.length 0 else 0)=toS p g c (rkC p g c) s (v+1):=by
        rw[Qk,Qb (Ja _),Qe rfl,Qe f,H]
       repeat' ((conv=>whnf);first|(refine Ar.i64 (by rw[h];omega) (by rw[h];omega) ?_;rw[h])|(refine Br.tt ?_)|(refine Br.bne ?_ ?_<;>intro _<;>try omega)|(refine Ar.u32 (by omega) (by omega) ?_)|(refine Sv.mk _ rfl ?_)|(refine Ix.q ?_)|(refine Ltn.q ?_)|(refine M.gog ?_)|(refine J1T J0c rfl rfl ?_))
       all_goals conv=>whnf
       refine⟨_,v+1,by omega,⟨rfl,f⟩,?_⟩;refine J0F J1f ?_;intro i j a d
       first|exact⟨rfl,rfl,tI,fun i a=>rfl,fun i j t a n d z=>vR_⟩|exact Y1F _ _ _ _ _ _ _ (Qk _) rfl d _ _
   . have ei:i=cl.length:=by omega
     subst ei;refine Vq ?_;exact J2R (fun _=>[(0,some 0),(1,some 2),(999,some 999)]) _ _ ⟨rfl,rfl⟩ (J0b.tup ⟨J0b.kf rfl,J0b.vec rfl rfl rfl,J0b.kf rfl,tI⟩) (by repeat' (first|(refine⟨rfl,rfl,tI,fun i a=>rfl,fun i j t a n d z=>vR_⟩)|(refine⟨Qd _,rfl,fun i j a d=>X8i _ _ _ _ a⟩)|exact tI|exact⟨rfl,rfl,rfl⟩|(refine⟨⟨_,rfl,?_⟩,?_⟩))) rfl
def X3W (p:Pr) (g:G) (kd:Int) (k:Nat):Nat->Nat->V:=fun i _=>if i<k then arV (J5q p g kd i) else .nilslice
def X7z (p:Pr) (g:G) (k:Nat):Nat->Nat->V:=fun i _=>.int .u32 (if i<k then enN p g (cfK p g i) else 0:Nat)
theorem X01 (p:Pr) (g:G) (kd:Int) (i j:Nat) (a:j<1):VLe ((fun(_ j:Nat)=>[V.nilslice].getD j default) i j) (X3W p g kd 0 i j):=by
 obtain rfl:j=0:=by omega
 exact vR_
theorem X0a (p:Pr) (g:G) (i j:Nat) (a:j<1):VLe ((fun(_ j:Nat)=>[V.int .u32 0].getD j default) i j) (X7z p g 0 i j):=by
 obtain rfl:j=0:=by omega
 exact vR_
theorem X24 (p:Pr) (g:G) (k a i j:Nat) (hk:a=k) (c:j<1):VLe (J1l (X7z p g k) a 0 [.int .u32 (enN p g (cfK p g k))] i j) (X7z p g (k+1) i j):=by
 obtain rfl:j=0:=by omega
 subst hk;apply vE_;by_cases h:i=a
 . subst h;simp[J1l,X7z]
 . have b:(i<a+1)=(i<a):=by simp;omega
   simp[J1l,X7z,h,b]
theorem X3V (p:Pr) (g:G) (kd:Int) (k a i j:Nat) (X:V) (b:VLe X (arV (J5q p g kd k))) (hk:a=k) (e:j<1):VLe (J1l (X3W p g kd k) a 0 [X] i j) (X3W p g kd (k+1) i j):=by
 obtain rfl:j=0:=by omega
 subst hk;by_cases h:i=a
 . subst h;have d:J1l (X3W p g kd i) i 0 [X] i 0=X:=by simp[J1l]
   have e2:X3W p g kd (i+1) i 0=arV (J5q p g kd i):=by simp[X3W]
   rw[d,e2];exact b
 . apply vE_;have c:(i<a+1)=(i<a):=by simp;omega
   simp[J1l,X3W,h,c]
theorem Y1n (p:Pr) (g:G) {v x:Nat} (b:v<g.ids.length) (a:x<p.vars.length):loP p g v x=cF (cfK p g 0) v x:=by
 show _=gI (gC (cfK p g 0) v) x;rw[J5n p g 0 b a,dgP,Mx.dg_zero];simp
theorem X8g (p:Pr) (g:G) (kd:Int) (k n:Nat) (a:n=(chs g kd (enN p g (cfK p g k))).1.length):VLe (.fz n 2 false (J0m 0 (vAr ((chs g kd (enN p g (cfK p g k))).1.map fun s=>(s,rkC p g (J12 p g (cfK p g k) s)))))) (arV (J5q p g kd k)):=by
 refine VLe.fz ?_ (fun h=>h) (fun i j c b=>vE_ (by rw[J0l,Qk];rfl));rw[a,J5q,Ye]
theorem Q7X (p:Pr) (hp:J2C p) (g:G) (o:g.Small) (hF:J1L p g) (hg:g.valid=true) (kd:Int) (hk:dk kd=true) (d:J1z p g<=32768) (he:∀c,(chs g kd (enN p g c)).2=0) (l:(J3t p g kd).tot (J1z p g)<=262144) :
 RG 14 [p.v,g.v,.int .i64 kd] (.tup [(J3t p g kd).v,.int .i64 0]):=by
 obtain⟨f1,f2,f3,f4,f5,f6,f7⟩:=J0e hg;have u:=hp.vlen;have A:=Q9l p hp g o hF hg d;have s:=J5W kd;rw[hk] at s;have z:=Q6S p hp g o hF hg kd d;have y:=Q9c p hp g o hF hg;refine J1e rfl ?_;refine fr fj14 ?_
 repeat' ((conv=>whnf);first|(refine Br.tt ?_)|(refine Br.ff ?_)|(refine Bd.q ?_)|(refine Len.q ?_)|(refine MkS.vec ?_)|(refine A.go ?_)|(refine s.go ?_)|(refine z.go ?_)|(refine J3y [] [0] (y.mono ?_) ⟨J0b.kf rfl,J0b.kf rfl,tI⟩ tI rfl;rintro _ _ _ ⟨rfl,rfl⟩)|(refine Chk.mk rfl ?_))
 all_goals conv=>whnf
 refine J1y J0c [6,10,11,12,56] [] J8g [6,5,4,3,2,1,0,999] (fun k:Nat=>[(14,.int .i64 ((J3t p g kd).tot k)),(57,.int .i64 k)]) (fun k=>[(6,J8U p g (cF (cfK p g k)) []),(5,.cells [.vec 3 1 0 (J1z p g),.vec 4 1 0 (J1z p g)]),(4,.vec (J1z p g) 1 (X3W p g kd k)),(3,.vec (J1z p g) 1 (X7z p g k)),(2,.cells [.nilslice,.nilslice]),(1,.cells [.fz g.ids.length 1 false (vI g.ids),.fz g.ports.length 1 false (vP g.ports)]),(0,.cells [.str p.nm,p.pg.vs,p.pg.rs]),(999,GB)]) (fun m k=>m=J1z p g-k/\k<=J1z p g) (J1z p g) 0 ⟨rfl,Qh _⟩ rfl (fun _=>rfl) ?_ ?_
 . refine J0d J1f ?_ ?_ rfl
   . repeat' (first|exact tI|(refine⟨⟨_,rfl,?_⟩,?_⟩)|exact J0b.kf rfl|exact J0b.loc rfl|exact J0b.q)
   . repeat' (first|exact⟨rfl,rfl,tI,fun i a=>rfl,fun i j t a d b l=>vE_ (X6 (V.int .i64) (Y1n p g a b))⟩|exact X01 _ _ _ _ _ b|exact X0a _ _ _ _ b|exact tI|exact⟨rfl,rfl,rfl⟩|(refine⟨⟨_,rfl,?_⟩,?_⟩)|exact J0b.kf rfl|exact J0b.q|(refine⟨Qd _,rfl,fun i j a b=>?_⟩)|apply And.intro)
 rintro m k ⟨C,x⟩;by_cases f:k<J1z p g
 . have e:=Q7O p hp g hF hg kd hk d (cfK p g k) (J7x hp hF hg k) (he _);rw[X9m f] at e;have r:=X6X p hp g hF hg k f;have n:=J4o (fun k=>((J3t p g kd).ar k).length) (show k+1<=J1z p g by omega);change (J3t p g kd).tot (k+1)<=(J3t p g kd).tot (J1z p g) at n;have w:(J3t p g kd).tot (k+1)=(J3t p g kd).tot k+(chs g kd (enN p g (cfK p g k))).1.length:=by
    show(J3t p g kd).tot k+(J5q p g kd k).length=_;rw[J5q,Ye]
   repeat' ((conv=>whnf);first|(refine Br.ff ?_)|(refine Br.dec ?_ ?_<;>intro _<;>try omega)|(refine Ar.q ?_)|(refine Ix.q ?_)|(refine Len.q ?_)|(refine Ltn.q ?_)|(refine J3y [(999,some 999),(0,some 6)] [1] (e.mono ?_) ⟨J0b.kf rfl,J0b.vec rfl rfl rfl,J0b.kf rfl,tI⟩ (by repeat' (first|(refine⟨rfl,rfl,tI,fun i a=>rfl,fun i j t a d b l=>vR_⟩)|exact tI|exact⟨rfl,rfl,rfl⟩|(refine⟨⟨_,rfl,?_⟩,?_⟩))) rfl;rintro _ _ _ ⟨rfl,rfl⟩)|(refine J3y [(0,some 6)] [] (r.mono ?_) ⟨J0b.kf rfl,J0b.vec rfl rfl rfl,tI⟩ (by repeat' (first|(refine⟨rfl,rfl,tI,fun i a=>rfl,fun i j t a d b l=>vR_⟩)|exact tI|(refine⟨⟨_,rfl,?_⟩,?_⟩))) rfl;rintro _ _ _ ⟨rfl,rfl⟩)|(refine Chk.mk rfl ?_)|(refine And.intro rfl ?_))
   all_goals conv=>whnf
   refine⟨_,k+1,by omega,⟨rfl,by omega⟩,?_⟩;refine J0d J1f ?_ ?_ rfl
   . repeat' (first|exact tI|(refine⟨⟨_,rfl,?_⟩,?_⟩)|exact J0b.kf rfl|exact J0b.int (by omega)|exact J0b.loc rfl|exact J0b.q)
   . repeat' (first|exact⟨rfl,rfl,tI,fun i a=>rfl,fun i j t a d b l=>vR_⟩|exact X24 _ _ _ _ _ _ (Qk _) b|exact X3V p g kd _ _ _ _ _ (X8g p g kd k _ rfl) (Qk _) b|exact tI|exact⟨rfl,rfl,rfl⟩|(refine⟨⟨_,rfl,?_⟩,?_⟩)|exact J0b.kf rfl|exact J0b.q|(refine⟨Qd _,rfl,fun i j a b=>?_⟩)|apply And.intro)
 . have B:k=J1z p g:=by omega
   subst B;refine Vq ?_;refine VLe.tup ⟨VLe.agg ⟨VLe.fz rfl (fun h=>h) (fun i j a b=>vE_ ?_),VLe.fz rfl (fun h=>h) (fun i j a b=>vE_ ?_),tI⟩,vR_,tI⟩
   . rw[J0l,Qk,X7z,Qe a];rfl
   . rw[J0l,Qk,X3W,Qe a];rfl
theorem X6F {P:Program} {B:Blk} {f:FuncId} {args args':List V} {X:V} (h:Q7e P B f args X) (hk:J3a V.kf args'=true) (g:LLe args' args):Q7e P B f args' X:=by
 intro own ks k;constructor;intro M w σ us d hd j;obtain⟨d1,d2⟩:=g.dens (M:=M) (w:=w) (us:=us) (by omega) (fun i c u a b=>(hd i c u a b).kf (J0v hk c (Qw a)) Sg.none);exact(h own ks k).out M w σ us d1 (fun i v u e b=>(d2 i v u e b).mono (Ext.mk (fun _ _ h=>⟨h,rfl⟩) (Qd _)) (Sg.none_le σ)) j
theorem Q8i (p:RP) (b:J2X p) (a:J7E p=false) (g:G):Ret Tryz.prog 60 [p.v,g.v] (.int .i64 8):=by
 have c:=J7O p b;rw[a] at c;refine rf fj60 ?_;exact Wq
theorem Q6m (p:RP) (b:J2X p) (a:J7E p=false) (g:G):Ret Tryz.prog 26 [p.v,g.v] (.tup [.int .i64 0,.int .i64 8]):=by
 have c:=Q8i p b a g;refine rf Y4u ?_;refine Vq ?_;exact VLe.tup ⟨vR_,vR_,tI⟩
inductive Y6P (p:RP) (g:G):Prop where
 | err (e:Int) (h0:e≠0) (h3:e≠3) (h:Ret Tryz.prog 26 [p.v,g.v] (.tup [.int .i64 0,.int .i64 e])):Y6P p g
 | fine (hv:Q20 p) (hg:g.valid=true) (hF:J1L (J2L p) g) (hn:J1z (J2L p) g<=120) (h:Ret Tryz.prog 26 [p.v,g.v] (.tup [.int .i64 (J1z (J2L p) g),.int .i64 0])):Y6P p g
theorem Q5g (p:Pr) (g:G):J66 p g≠3:=by
 rw[J66];split
 . split<;>decide
 . decide
theorem X1Q (p:RP) (i:p.Small) (g:G) (hg:g.Small):Ret Tryz.prog 12 [p.v,g.v,.int .i64 120] (.bool false)\/(J2X p/\Ret Tryz.prog 12 [p.v,g.v,.int .i64 120] (.bool true)/\Y6P p g):=by
 rcases X2a p i g hg with j | ⟨c,_,j⟩
 . refine .inl ?_;refine rf Y1a ?_;exact Wq
 . have yes:∀e:Int,e≠0->e≠3->Ret Tryz.prog 26 [p.v,g.v] (.tup [.int .i64 0,.int .i64 e])->Ret Tryz.prog 12 [p.v,g.v,.int .i64 120] (.bool true):=fun e f l a=>by
    refine rf Y1a ?_;exact Wq
   cases b:J7E p with
   | false =>
     have a:=Q6m p c b g;exact .inr ⟨c,yes 8 (by decide) (by decide) a,.err 8 (by decide) (by decide) a⟩
   | true =>
     have b:=Q4o.1 b;have hp:=Q7G c b;by_cases f:J66 (J2L p) g=0
     . obtain⟨d,hF⟩:=X7v f;have a:=Q1K (Q1Q (J2L p) hp g hg hF d) (args':=[p.v,g.v]) rfl ⟨X10 b,vR_,tI⟩;rw[X8M] at a;by_cases h:J1z (J2L p) g<=32768
       . rw[Qe h] at a;by_cases k:J1z (J2L p) g<=120
         . refine .inr ⟨c,?_,.fine b d hF k a⟩;refine rf Y1a ?_;exact Wq
         . refine .inl ?_;refine rf Y1a ?_;exact Wq
       . rw[Qb h] at a;refine .inl ?_;refine rf Y1a ?_;exact Wq
     . have a:=Q1K (Q6n (J2L p) hp g hg f) (args':=[p.v,g.v]) rfl ⟨X10 b,vR_,tI⟩;exact .inr ⟨c,yes _ f (Q5g _ _) a,.err _ f (Q5g _ _) a⟩
theorem Q6q (p:RP) (g:G) (kd e:Int) (b:e≠0) (a:e≠3) (h:Ret Tryz.prog 26 [p.v,g.v] (.tup [.int .i64 0,.int .i64 e])):Ret Tryz.prog 13 [p.v,g.v,.int .i64 kd] (.tup [.agg [.nilslice,.nilslice],.int .i64 e]):=by
 refine rf Y52 ?_;refine Vq ?_
 all_goals exact VLe.tup ⟨VLe.agg ⟨vR_,vR_,tI⟩,vR_,tI⟩
theorem Q6r (p:RP) (g:G) (kd n:Int) (hk:dk kd=false) (h:Ret Tryz.prog 26 [p.v,g.v] (.tup [.int .i64 n,.int .i64 0])):Ret Tryz.prog 13 [p.v,g.v,.int .i64 kd] (.tup [.agg [.nilslice,.nilslice],.int .i64 12]):=by
 have a:=J3J kd;rw[hk] at a;refine rf Y52 ?_;refine Vq ?_
 all_goals exact VLe.tup ⟨VLe.agg ⟨vR_,vR_,tI⟩,vR_,tI⟩
structure Q7d (p:RP) (g:G) (kd:Int) (n:Nat):Prop where
 lite:J2X p
 val:Q20 p
 hg:g.valid=true
 fit:J1L (J2L p) g
 hk:dk kd=true
 cnt:J1z (J2L p) g<=120
 len:n=J1z (J2L p) g
 p4:g.ids.length<=4
theorem Q7d.top {p:RP} {g:G} {kd:Int} {n:Nat} (h:Q7d p g kd n):Q4d (J2L p):=Q7G h.lite h.val
theorem Q7d.fine {p:RP} {g:G} {kd:Int} {n:Nat} (h:Q7d p g kd n) (c:Cf):(chs g kd (enN (J2L p) g c)).2=0:=J4S h.hg h.hk (by have:=h.p4;omega) c
theorem Q7d.tot {p:RP} {g:G} {kd:Int} {n:Nat} (h:Q7d p g kd n):(J3t (J2L p) g kd).tot (J1z (J2L p) g)<=262144:=by
 refine Zw (X5q h.hg h.hk) ?_;have a:2 ^ g.ids.length<=2 ^ 4:=Xs (by omega) h.p4;have b:=Z0 h.cnt a;omega
theorem Q7d.ok {p:RP} {g:G} {kd:Int} {n:Nat} (h:Q7d p g kd n):(J3t (J2L p) g kd).Ok:=X9b h.top.ok h.fit h.hg h.hk (by have:=h.cnt;omega) h.fine h.tot
theorem Q1m (p:RP) (l:p.Small) (g:G) (hg:g.Small) (kd:Int) (n:Nat) (x:n<=9223372036854775807) (lg:Nat->Bool) :
 RG 5 [p.v,g.v,.int .i64 kd,blV n lg] (.tup [.agg [.nilslice,.nilslice],.bool false,.bool false])\/(Q7d p g kd n/\RG 5 [p.v,g.v,.int .i64 kd,blV n lg] (.tup [(J3t (J2L p) g kd).v,.bool true,.bool true])):=by
 rcases X1Q p l g hg with m | ⟨r,m,b⟩
 . refine .inl ?_;refine J1e rfl ?_;refine fr fj5 ?_;refine Vq ?_
   all_goals exact VLe.tup ⟨VLe.agg ⟨vR_,vR_,tI⟩,vR_,vR_,tI⟩
 . have y:=hg.ports;by_cases o:g.ports.length<=4
   . by_cases q:n<=200
     . have c:∀e:Int,e≠0->Ret Tryz.prog 13 [p.v,g.v,.int .i64 kd] (.tup [.agg [.nilslice,.nilslice],.int .i64 e])->RG 5 [p.v,g.v,.int .i64 kd,blV n lg] (.tup [.agg [.nilslice,.nilslice],.bool false,.bool false]):=fun e he u=>by
        refine J1e rfl ?_;refine fr fj5 ?_;refine Vq ?_
        all_goals exact VLe.tup ⟨VLe.agg ⟨vR_,vR_,tI⟩,vR_,vR_,tI⟩
       rcases b with ⟨e,j,w,b⟩ | ⟨d,a,hF,i,b⟩
       . exact .inl (c e j (Q6q p g kd e j w b))
       . cases hk:dk kd with
         | false=>exact .inl (c 12 (by decide) (Q6r p g kd _ hk b))
         | true =>
           obtain⟨f1,f2,f3,f4,f5,f6,f7⟩:=J0e a;have hS:Q7d p g kd (J1z (J2L p) g):=⟨r,d,a,hF,hk,i,rfl,by omega⟩;have u:=Q1K (Q8q (J2L p) hS.top g hg hF a kd hk (by omega) hS.fine hS.tot) (args':=[p.v,g.v,.int .i64 kd]) rfl ⟨X10 d,vR_,vR_,tI⟩;by_cases h:n=J1z (J2L p) g
           . have t:=X6F (Q7X (J2L p) hS.top.ok g hg hF a kd hk (by omega) hS.fine hS.tot) (args':=[p.v,g.v,.int .i64 kd]) rfl ⟨X10 d,vR_,vR_,tI⟩;have k:=Q7Y _ hS.ok;have f:(J3t (J2L p) g kd).n=J1z (J2L p) g:=rfl;refine .inr ⟨h▸hS,?_⟩;generalize J3t (J2L p) g kd=s at *;refine J1e rfl ?_;refine fr fj5 ?_;refine Vq ?_
             all_goals exact VLe.tup ⟨VLe.agg ⟨vR_,vR_,tI⟩,vR_,vR_,tI⟩
           . have f:(J3t (J2L p) g kd).n=J1z (J2L p) g:=rfl;generalize J3t (J2L p) g kd=s at *;refine .inl ?_;refine J1e rfl ?_;refine fr fj5 ?_;refine Vq ?_
             all_goals first|exact VLe.tup ⟨VLe.agg ⟨vR_,vR_,tI⟩,vR_,vR_,tI⟩|(exfalso;omega)
     . refine .inl ?_;refine J1e rfl ?_;refine fr fj5 ?_;refine Vq ?_
       all_goals exact VLe.tup ⟨VLe.agg ⟨vR_,vR_,tI⟩,vR_,vR_,tI⟩
   . refine .inl ?_;refine J1e rfl ?_;refine fr fj5 ?_;refine Vq ?_
     all_goals exact VLe.tup ⟨VLe.agg ⟨vR_,vR_,tI⟩,vR_,vR_,tI⟩
end Go.Proofs.YtcbnimaicgegfaaGreatDoor
namespace Go.Eng
open Go.MapKept (bytes_beq)
noncomputable def fN {a:Type} (n:Nat) (K:Nat->a):a:=@Nat.rec (fun _=>a) (K 0) (fun m _=>K (Nat.succ m)) n
theorem J4Y {a:Type} (n:Nat) (K:Nat->a):fN n K=K n:=by cases n<;>rfl
noncomputable def fI {b:Type} (n:Int) (K:Int->b):b:=@Int.rec (fun _=>b) (fun a=>fN a fun a=>K (.ofNat a)) (fun a=>fN a fun a=>K (.negSucc a)) n
theorem X7y {a:Type} (n:Int) (K:Int->a):fI n K=K n:=by cases n<;>simp[fI,J4Y]
noncomputable def fB {a:Type} (b:Bool) (K:Bool->a):a:=@Bool.rec (fun _=>a) (K false) (K true) b
theorem Y6u {a:Type} (b:Bool) (K:Bool->a):fB b K=K b:=by cases b<;>rfl
noncomputable def lk {α:Type} (l:List (Nat×α)) (t:Nat):Option α :=
 @List.rec (Nat×α) (fun _=>Option α) none (fun p _ a=>@Prod.rec Nat α (fun _=>Option α) (fun k v=>@Bool.rec (fun _=>Option α) a (some v) (Nat.beq k t)) p) l
theorem J82 {α:Type} (l:List (Nat×α)) (t:Nat):lk l t=look l t:=by
 induction l with
 | nil=>rfl
 | cons p r a =>
   obtain⟨k,v⟩:=p;unfold look;show @Bool.rec (fun _=>Option α) (lk r t) (some v) (Nat.beq k t)=_;cases Nat.beq k t<;>simp[a]
noncomputable def nt {α:Type} (l:List α) (n:Nat):Option α :=
 @List.rec α (fun _=>Nat->Option α) (fun _=>none) (fun x _ a n=>@Nat.rec (fun _=>Option α) (some x) (fun m _=>a m) n) l n
theorem X2m {α:Type} (l:List α) (n:Nat):nt l n=nth l n:=by
 induction l generalizing n with
 | nil=>rfl
 | cons x r a=>cases n with
   | zero=>rfl
   | succ n=>exact a n
theorem J6k {α:Type}:∀(l:List α) (n:Nat),nth l n=l[n]?
 | [],n=>by simp[nth]
 | x::r,0=>by simp[nth]
 | x::r,n+1=>by simp[nth,J6k r n]
noncomputable def dr {α:Type} (l:List α) (n:Nat):List α :=
 @List.rec α (fun _=>Nat->List α) (fun _=>[]) (fun x r a n=>@Nat.rec (fun _=>List α) (x::r) (fun m _=>a m) n) l n
theorem Q0O {α:Type} (l:List α) (n:Nat):dr l n=l.drop n:=by
 induction l generalizing n with
 | nil=>simp[dr]
 | cons x r a=>cases n with
   | zero=>rfl
   | succ n=>exact a n
noncomputable def fH {α a:Type} (l:List α) (K:List α->a):a:=@List.rec α (fun _=>a) (K []) (fun x r _=>K (x::r)) l
theorem X22 {α a:Type} (l:List α) (K:List α->a):fH l K=K l:=by cases l<;>rfl
noncomputable def tk {α a:Type} (n:Nat):List α->(List α->Option a)->Option a :=
 @Nat.rec (fun _=>List α->(List α->Option a)->Option a) (fun _ K=>K []) (fun _ b l K=>@List.rec α (fun _=>Option a) none (fun x r _=>b r fun q=>K (x::q)) l) n
theorem X1I {α a:Type} (n:Nat) (l:List α) (K:List α->Option a):tk n l K=if n<=l.length then K (l.take n) else none:=by
 induction n generalizing l K with
 | zero=>simp only[Qh,Zl,Jl];rfl
 | succ n b=>cases l with
   | nil=>rfl
   | cons x r =>
     show tk n r (fun q=>K (x::q))=_;rw[b];simp
def bl:Nat->Nat->List UInt8
 | 0,_=>[]
 | l+1,c=>UInt8.ofNat (c % 256)::bl l (c / 256)
def J0t (l c:Nat):ByteArray:=⟨⟨bl l c⟩⟩
def X25:List UInt8->Nat
 | []=>0
 | b::r=>b.toNat+256*X25 r
theorem Q2J:∀(l c:Nat),(bl l c).length=l
 | 0,_=>rfl
 | l+1,c=>by simp[bl,Q2J]
theorem X42:∀(l:List UInt8),bl l.length (X25 l)=l
 | []=>rfl
 | b::r=>by
   have a:=b.toNat_lt;simp only[List.length_cons,bl,X25];rw[show(b.toNat+256*X25 r) % 256=b.toNat by omega,show(b.toNat+256*X25 r) / 256=X25 r by omega,X42 r];simp
theorem X41:∀(l c m:Nat),m<l->(bl l c)[m]?=some (UInt8.ofNat (c / 256 ^ m % 256))
 | 0,c,m,h=>by omega
 | l+1,c,0,h=>by simp[bl]
 | l+1,c,m+1,h=>by
   simp only[bl,Y0];rw[X41 l _ m (by omega),Jv,Yu,Xw 256]
theorem X0X:∀(l c m:Nat),(bl l c).drop m=bl (l-m) (c / 256 ^ m)
 | 0,c,m=>by simp[bl]
 | l+1,c,0=>by simp
 | l+1,c,m+1=>by
   simp only[bl,J8];rw[X0X l _ m,Jv,Yu,Xw 256,show l+1-(m+1)=l-m by omega]
theorem X0W:∀(l c m:Nat),m<=l->(bl l c).take m=bl m c
 | l,c,0,h=>by simp[bl]
 | 0,c,m+1,h=>by omega
 | l+1,c,m+1,h=>by simp[bl,X0W l _ m (by omega)]
theorem X4Z:∀(l c:Nat),bl l (c % 256 ^ l)=bl l c
 | 0,c=>rfl
 | l+1,c=>by
   simp only[bl];have b:c % 256 ^ (l+1) % 256=c % 256:=by
    rw[Yu,Xw];exact Nat.mod_mul_right_mod _ _ _
   have a:c % 256 ^ (l+1) / 256=c / 256 % 256 ^ l:=by
    rw[Yu,Xw,Nat.mod_mul_right_div_self]
   rw[b,a,X4Z]
theorem X40:∀(l c d:Nat),bl l c=bl l d->c % 256 ^ l=d % 256 ^ l
 | 0,c,d,_=>by simp[J1]
 | l+1,c,d,h=>by
   simp only[bl,Xr] at h;have b:c % 256=d % 256:=by
    have:=X6 UInt8.toNat h.1;simpa using this
   have a:=X40 l _ _ h.2;rw[Yu,Xw,Kv,Kv,b,a]
theorem X43:∀(l c b a:Nat),bl l c++bl b a=bl (l+b) (c % 256 ^ l+256 ^ l*a)
 | 0,c,b,a=>by simp[bl,J1]
 | l+1,c,b,a=>by
   rw[show l+1+b=(l+b)+1 by omega];simp only[bl,Q1];rw[X43 l _ b a];have e:c % 256 ^ (l+1)=c % 256+256*(c / 256 % 256 ^ l):=by
    rw[Yu,Xw (256 ^ l),Kv]
   have e2:256 ^ (l+1)*a=256*(256 ^ l*a):=by rw[Yu,Xw (256 ^ l),Yp]
   rw[e,e2];have d:c % 256<256:=Z5 _ (by omega);rw[show(c % 256+256*(c / 256 % 256 ^ l)+256*(256 ^ l*a)) % 256=c % 256 by omega,show(c % 256+256*(c / 256 % 256 ^ l)+256*(256 ^ l*a)) / 256=c / 256 % 256 ^ l+256 ^ l*a by omega]
theorem J1F (l c:Nat):(J0t l c).size=l:=by
 show(bl l c).length=l;exact Q2J l c
theorem Q34 (b:ByteArray):J0t b.size (X25 b.data.toList)=b:=by
 obtain⟨⟨l⟩⟩:=b;show ByteArray.mk ⟨bl l.length (X25 l)⟩=_;rw[X42]
theorem Q33 (l c m:Nat) (h:m<l):((J0t l c).get! m).toNat=c / 256 ^ m % 256:=by
 have a:=X41 l c m h;show((J0t l c).data[m]!).toNat=_;have:(J0t l c).data[m]! = UInt8.ofNat (c / 256 ^ m % 256):=by
  rw[getElem!_def,show(J0t l c).data[m]?=some (UInt8.ofNat (c / 256 ^ m % 256)) from by simpa[J0t] using a]
 rw[this];simp
theorem J8N (l c a b:Nat) (h:b<=l):(J0t l c).extract a b=J0t (b-a) (c / 256 ^ a):=by
 apply ByteArray.ext;rw[ByteArray.data_extract];show(Array.mk (bl l c)).extract a b=Array.mk (bl (b-a) (c / 256 ^ a));apply Zf;simp only[Array.toList_extract,K8];rw[X0X,X0W _ _ _ (by omega)]
theorem J5o (l c:Nat):J0t l (c % 256 ^ l)=J0t l c:=by unfold J0t;rw[X4Z]
theorem Q35 (l c a b:Nat):J0t l c++J0t a b=J0t (l+a) (c % 256 ^ l+256 ^ l*b):=by
 apply ByteArray.ext;rw[ByteArray.data_append];show Array.mk (bl l c)++Array.mk (bl a b)=Array.mk _;simp[X43]
def eqS (l c a b:Nat):Bool:=match Nat.beq l a with
 | true=>Nat.beq (Nat.mod c (Nat.pow 256 l)) (Nat.mod b (Nat.pow 256 l))
 | false=>false
theorem Q5j (l c b a:Nat):eqS l c b a=(J0t l c == J0t b a):=by
 unfold eqS;have d:(J0t l c == J0t b a)=decide (J0t l c=J0t b a):=by
  rw[Zc,bytes_beq];simp
 rw[d];split
 . rename_i h;have h:=Qc h;subst h;rw[Zc,Nat.beq_eq,Qa];constructor
   . intro h;have h:c % 256 ^ l=a % 256 ^ l:=h;rw[<- J5o l c,h,J5o]
   . intro h;exact X40 l c a (by simpa[J0t] using h)
 . rename_i h;symm;rw[Qo];intro e;have:=X6 ByteArray.size e;rw[J1F,J1F] at this;subst this;simp at h
inductive C where
 | nilptr|nilmap|nilfunc|niliface
 | unit
 | map (k:Nat)
 | fn (f:Fn) (b:Bool) (cap:List C)
 | iface (t:TypeId) (v:C)
 | fe (n s:Nat) (z:List C) (rows:List (List C)) (i j:Nat)
 | oel (k s i j:Nat)
 | fz (n s:Nat) (J1J:Bool) (z:List C) (rows:List (List C))
 | tup (vs:List C)
 | agg (cs:List C)
 | nilslice
 | vec (k s lo len:Nat)
 | loc (k off:Nat)
 | str (l c:Nat)
 | bool (b:Bool)
 | int (k:IntKind) (n:Int)
 deriving Inhabited
def J4j:List V->V
 | []=>default
 | [v]=>v
 | _::r=>J4j r
def J49 (z:List V) (a:List (List V)):Nat->Nat->V:=fun i j=>(a.getD i z).getD j (J4j z)
mutual
def C.v:C->V
 | .bool b=>.bool b
 | .int k n=>.int k n
 | .str l c=>.str (J0t l c)
 | .nilptr=>.nilptr | .nilslice=>.nilslice | .nilmap=>.nilmap | .nilfunc=>.nilfunc | .niliface=>.niliface
 | .loc k off=>.loc k off
 | .oel k s i j=>.oel k s i j
 | .vec k s d len=>.vec k s d len
 | .fz n s J1J z a=>.fz n s J1J (J49 (C.vs z) (C.vss a))
 | .fe n s z a i j=>.fe n s (J49 (C.vs z) (C.vss a)) i j
 | .map k=>.map k
 | .fn f b cap=>.fn f b (C.vs cap)
 | .iface t v=>.iface t v.v
 | .agg cs=>.agg (C.vs cs)
 | .tup cs=>.tup (C.vs cs)
 | .unit=>.raw (.tuple #[])
def C.vs:List C->List V
 | []=>[]
 | c::r=>c.v::C.vs r
def C.vss:List (List C)->List (List V)
 | []=>[]
 | c::r=>C.vs c::C.vss r
end
theorem C.vs_map:∀(l:List C),C.vs l=l.map C.v
 | []=>by simp[C.vs]
 | c::r=>by simp[C.vs,C.vs_map r]
theorem C.vss_map:∀(l:List (List C)),C.vss l=l.map C.vs
 | []=>by simp[C.vss]
 | c::r=>by simp[C.vss,C.vss_map r]
theorem C.vs_length (l:List C):(C.vs l).length=l.length:=by simp[C.vs_map]
theorem C.vs_get (l:List C) (i:Nat):(C.vs l)[i]?=(l[i]?).map C.v:=by simp[C.vs_map]
theorem C.vss_get (l:List (List C)) (i:Nat):(C.vss l)[i]?=(l[i]?).map C.vs:=by simp[C.vss_map]
abbrev J1n:=List (Nat×C)
inductive CB where
 | cells (cs:List C)
 | vec (n s:Nat) (z:List C) (rows:List (List C))
 | map (ik:IntKind) (es:List (Int×C))
 | mapS (es:List ((Nat×Nat)×C))
 deriving Inhabited
abbrev J0B:=List (Nat×CB)
def CB.b:CB->Blk
 | .cells cs=>.cells (C.vs cs)
 | .vec n s z a=>.vec n s (J49 (C.vs z) (C.vss a))
 | .map ik c=>.map (.one ik) (c.map fun p=>(p.1,p.2.v))
 | .mapS c=>.map .str (c.map fun p=>(J0t p.1.1 p.1.2,p.2.v))
def J3w (e:J1n):Env:=e.map fun p=>(p.1,p.2.v)
def J0K (o:J0B):Own:=o.map fun p=>(p.1,p.2.b)
theorem J2V {α a:Type} (f:α->a) (l:List (Nat×α)) (t:Nat):look (l.map fun p=>(p.1,f p.2)) t=(look l t).map f:=by
 induction l with
 | nil=>rfl
 | cons p r b =>
   simp only[Qv,look];cases Nat.beq p.1 t<;>simp[b]
theorem J16 {e:J1n} {t:Nat} {c:C} (h:lk e t=some c):look (J3w e) t=some c.v:=by
 rw[J82] at h;rw[J3w,J2V,h];rfl
theorem J0y {o:J0B} {t:Nat} {c:CB} (h:lk o t=some c):look (J0K o) t=some c.b:=by
 rw[J82] at h;rw[J0K,J2V,h];rfl
def X8G (v:V):Option C:=match v with
 | .bool b=>some (.bool b)
 | .int k n=>some (.int k n)
 | .str s=>some (.str s.size (X25 s.data.toList))
 | .nilptr=>some .nilptr | .nilslice=>some .nilslice | .nilmap=>some .nilmap | .nilfunc=>some .nilfunc | .niliface=>some .niliface
 | .fn f b []=>some (.fn f b [])
 | _=>none
theorem Q3x {v:V} {c:C} (h:X8G v=some c):c.v=v:=by
 unfold X8G at h;split at h<;>first
  | (cases h;done)
  | (cases h;simp[C.v,C.vs,Q34])
noncomputable def X8F (l:List V):Option (List C):=@List.rec V (fun _=>Option (List C)) (some []) (fun v _ a=>match X8G v with
 | some c=>match a with
   | some l=>some (c::l)
   | none=>none
 | none=>none) l
theorem J76:∀(l:List V) {cs:List C},X8F l=some cs->C.vs cs=l
 | [],cs,h=>by have h:some []=some cs:=h;cases h;simp[C.vs]
 | v::r,cs,h=>by
   have h:(match X8G v with
    | some c=>match X8F r with
      | some l=>some (c::l)
      | none=>none
    | none=>none)=some cs:=h
   split at h
   . rename_i c b;split at h
     . rename_i l a;cases h;simp[C.vs,Q3x b,J76 r a]
     . cases h
   . cases h
noncomputable def ofV (v:V):Option C:=match v with
 | .agg cs=>match X8F cs with|some l=>some (.agg l)|none=>none
 | v=>X8G v
theorem X4v (v:V) {c:C} (h:ofV v=some c):c.v=v:=by
 unfold ofV at h;split at h
 . split at h
   . rename_i l a;cases h;simp[C.v,J76 _ a]
   . cases h
 . exact Q3x h
end Go.Eng
