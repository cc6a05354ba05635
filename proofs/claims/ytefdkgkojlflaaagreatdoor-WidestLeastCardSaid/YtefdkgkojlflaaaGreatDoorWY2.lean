import Derived.Test.YtefdkgkojlflaaaGreatDoorTabB
namespace Go.Proofs.YtefdkgkojlflaaaGreatDoor
open Go.Eng
set_option maxRecDepth 100000
theorem X0Z:evX tp 10000 100 75 [J9X]=some X6h:=by kernel_rfl
set_option linter.unusedVariables false
def X5A (g:G) (vs:List Vr) (raw:List Int) (v i:Nat):Int:=(bV g vs v i).1+J0C (gI raw (v*vs.length+i)) ((bV g vs v i).2-(bV g vs v i).1+1)
def Q8o (g:G) (vs:List Vr) (raw:List Int) (v k:Nat):List Int:=(List.range k).map (X5A g vs raw v)
def X2E (g:G) (vs:List Vr) (raw:List Int) (k:Nat):Cf:=(List.range k).map fun v=>Q8o g vs raw v vs.length
def cfg (g:G) (vs:List Vr) (raw:List Int):Cf:=X2E g vs raw g.ports.length
theorem Q3Y (g:G) (vs:List Vr) (raw:List Int) (v k:Nat):(Q8o g vs raw v k).length=k:=by simp[Q8o]
theorem Q3Z (g:G) (vs:List Vr) (raw:List Int) (k:Nat):(X2E g vs raw k).length=k:=by simp[X2E]
theorem Q8n (g:G) (vs:List Vr) (raw:List Int) (v k:Nat):Q8o g vs raw v (k+1)=Q8o g vs raw v k++[X5A g vs raw v k]:=by simp[Q8o,List.range_succ]
theorem Q8p (g:G) (vs:List Vr) (raw:List Int) (k:Nat):X2E g vs raw (k+1)=X2E g vs raw k++[Q8o g vs raw k vs.length]:=by simp[X2E,List.range_succ]
theorem Q7D (c:Cf) (r:List Int) (i:Nat):gC (c++[r]) i=if i<c.length then gC c i else if i=c.length then r else[]:=by
 by_cases h:i<c.length
 . simp only[gC,List.getD,List.getElem?_append_left h,if_pos h]
 . rw[if_neg h];by_cases h2:i=c.length
   . subst h2;simp[gC]
   . simp[gC,h2,List.getElem?_eq_none (by simp;omega:(c++[r]).length<=i)]
theorem Q9m (c:Cf) (r:List Int) (n m:Nat) (hn:c.length=n) (hr:r.length=m) (F:Nat->Nat->V) (hF:F 0 0=.fz m 1 false (J0h 0 (vI r))) (i j:Nat) (hi:i<n+1) (hj:j<1) :
 VLe (J4o (J0h 0 (vC c)) n F i j) (vC (c++[r]) i j):=by
 subst hn hr;obtain rfl:j=0:=by omega
 by_cases h:i<c.length
 . rw[J1E h];apply VLe.of_eq;simp only[J0h,vC,Q7D,if_pos h]
 . rw[J1F h];have:i=c.length:=by omega
   subst this;rw[Nat.sub_self,hF];simp only[vC,Q7D,Nat.lt_irrefl,if_false,if_true];exact VLe.fz rfl (fun h=>h) (fun i j hi hj=>VLe.of_eq (by simp[J0h]))
theorem J62 {a b A B:Int} (h0:0<=a) (h1:a<=A) (h2:0<=b) (h3:b<=B):0<=a*b/\a*b<=A*B :=
 ⟨Int.mul_nonneg h0 h2,Int.mul_le_mul h1 h3 h2 (by omega)⟩
set_option maxHeartbeats 16000000 in
theorem Q75 (g:G) (hg:g.valid=true) (vs:List Vr) (hv:VOk vs) (hlo:∀x,0<=(gV vs x).lo/\(gV vs x).lo<=1000) (raw:List Int) (hraw:raw.length<=9223372036854775807) :
 Ret Tryz.prog 29 [g.v,.fz vs.length 6 false (vV vs),.fz raw.length 1 false (vI raw)] (cV (cfg g vs raw)):=by
 obtain⟨f1,f2,f3,f4,f5,f6,f7⟩:=J0a hg;have htop0:=J5r g.ids 0;have htop1:=Q1Q g.ids 0 255 (by omega) (fun a ha=>(f4 a ha).2);have hvl:=hv.len;refine J0f rfl ?_;refine J0b mixed Tryz.func29 rfl hc29 hr29 rfl ?_
 repeat' ((conv=>whnf);first|fail)
 all_goals (conv=>whnf)
 refine J0V mixed [1,2,3,7] (fun i:Nat=>[(8,.int .i64 (J4i (g.ids.take i) 0)),(9,.int .i64 i)]) (fun m i=>m=g.ports.length-i/\i<=g.ports.length) g.ports.length 0 ⟨rfl,Nat.zero_le _⟩ ?_ ?_
 . exact J0l (fun _ _=>[(0,some 0)])
 rintro m i ⟨hm,hi⟩
 repeat' ((conv=>whnf);first|(refine Br.dec ?_ ?_<;>intro _<;>try omega)|(refine Ar.q ?_)|(refine Sv.mk _ rfl ?_)|(refine Ix.q ?_))
 all_goals (conv=>whnf)
 all_goals try
  (refine⟨g.ports.length-(i+1),i+1,by omega,⟨rfl,by omega⟩,?_⟩
   simp only[J01 g.ids i (by omega),J3O];refine J0e (fun _ _=>[(0,some 0)]) ?_ ?_ rfl
   . repeat' (first|exact J0c.int (by split<;>omega)|exact tI|(refine⟨⟨_,rfl,?_⟩,?_⟩)|exact J0c.kf rfl|exact J0c.loc rfl)
   . repeat' (first|exact tI|(refine⟨⟨_,rfl,?_⟩,?_⟩)|exact J0c.kf rfl|apply And.intro))
 have hti:g.ids.take i=g.ids:=List.take_of_length_le (by omega);simp only[hti];clear hti hm hi;generalize htop:J4i g.ids 0=top at *;refine J0N mixed [1,2,3,7,8] [1] [2,3,4,5,6,7,8,9,10,11,12,13,14,15,16,17,18,19,20,21,22,23,24,25,26,27,28,29] [1,0] (fun v:Nat=>[(10,.vec 1 1 0 v),(11,.int .i64 v)]) (fun own v=>(1,.vec v 1 (vC (X2E g vs raw v)))::own) (fun m v=>m=g.ports.length-v/\v<=g.ports.length) g.ports.length 0 ⟨rfl,Nat.zero_le _⟩ rfl (fun _=>rfl) ?_ ?_
 . exact J0l (fun _ _=>[(0,some 0),(1,none)])
 rintro m v ⟨hm,hvn⟩;have hcl:=Q3Z g vs raw v
 repeat' ((conv=>whnf);first|(refine Br.dec ?_ ?_<;>intro _<;>try omega)|(refine Len.q ?_))
 all_goals (conv=>whnf)
 . refine J0N mixed [1,2,3,7,8,10,11] [2] [3,4,5,6,7,8,9,10,11,12,13,14,15,16,17,18,19,20,21,22,23,24,25,26,27,28,29] [2,1,0] (fun i:Nat=>[(12,.vec 2 1 0 i),(13,.int .i64 i)]) (fun own i=>(2,.vec i 1 (vI (Q8o g vs raw v i)))::own) (fun m i=>m=vs.length-i/\i<=vs.length) vs.length 0 ⟨rfl,Nat.zero_le _⟩ rfl (fun _=>rfl) ?_ ?_
   . exact J0l (fun _ _=>[(0,some 0),(1,some 1),(2,none)])
   rintro m i ⟨hm2,hi⟩;have hrl:=Q3Y g vs raw v i;by_cases hil:i<vs.length
   . obtain⟨b1,b2,b3,b4,b5,b6⟩:=hv.b i;obtain⟨l1,l2⟩:=hlo i;have m1:=J62 b3 b4 (show(0:Int)<=g.ports.length by omega) (show(g.ports.length:Int)<=24 by omega);have m2:=J62 b5 b6 (show(0:Int)<=top by omega) (show top<=255 by omega);have m3:=J62 (show(0:Int)<=v by omega) (show(v:Int)<=24 by omega) (show(0:Int)<=vs.length by omega) (show(vs.length:Int)<=1000 by omega);have hrow:=J6Z (show v<g.ports.length by omega) (f6 v (by omega));have hat:=Q8H raw hraw (v*vs.length+i);have e1:((v*vs.length+i:Nat):Int)=(v:Int)*vs.length+i:=by rw[Int.natCast_add,Int.natCast_mul]
     rw[e1] at hat;have hE:X5A g vs raw v i=(bV g vs v i).1+J0C (gI raw (v*vs.length+i)) ((bV g vs v i).2-(bV g vs v i).1+1):=rfl;generalize gI raw (v*vs.length+i)=q at *;have hsn:=Q8n g vs raw v i;generalize X5A g vs raw v i=E at *;generalize hp1:(gV vs i).pn*(g.ports.length:Int)=P1 at *;generalize hp2:(gV vs i).pid*top=P2 at *;generalize hp3:(v:Int)*(vs.length:Int)=P3 at *;by_cases k2:(gV vs i).kind=2
     . have hb:bV g vs v i=(0,1):=by rw[bV,if_pos k2]
       rw[hb] at hE;have hw:=J1G q (1-0+1) (by omega);have hwr:=J0s q (b:=1-0+1) (by omega);simp only at hE;generalize J0C q (1-0+1)=W at *
       repeat' ((conv=>whnf);first|(refine Ar.mk P1 (by rw[hp1];exact(J04 (by omega) (by omega)).symm) ?_)|(refine Ar.mk P2 (by rw[hp2];exact(J04 (by omega) (by omega)).symm) ?_)|(refine Ar.mk P3 (by rw[hp3];exact(J04 (by omega) (by omega)).symm) ?_)|(refine Br.dec ?_ ?_<;>intro _<;>try omega)|(refine Br.nbeq ?_ ?_<;>intro _<;>try omega)|(refine Ar.q ?_)|(refine Ix.q ?_)|(refine Len.q ?_)|(refine hat.go ?_)|(refine hw.go ?_)|(refine And.intro rfl ?_))
       all_goals (conv=>whnf)
       all_goals
        refine⟨vs.length-(i+1),i+1,by omega,⟨rfl,by omega⟩,?_⟩;simp only[hsn];refine J0e (fun env own=>[(0,some 0),(1,some 1),(2,Q8Z env 12)]) ?_ ?_ rfl
        . repeat' (first|exact tI|(refine⟨⟨_,rfl,?_⟩,?_⟩)|exact J0c.kf rfl|exact J0c.loc rfl|exact J0c.q)
        . repeat' (first|(refine⟨Nat.le_refl _,rfl,fun i j hi hj=>?_⟩)|(rw[hE];exact J53 _ _ _ hrl _ _ hi hj)|exact tI|(refine⟨⟨_,rfl,?_⟩,?_⟩)|exact J0c.kf rfl|exact VLe.rfl|apply And.intro)
     . by_cases k3:(gV vs i).kind=3
       . have hb:bV g vs v i=(-1,((gR g.ports v).length:Int)-1):=by rw[bV,if_neg k2,if_pos k3]
         rw[hb] at hE;have hw:=J1G q (((gR g.ports v).length:Int)-1-(-1)+1) (by omega);have hwr:=J0s q (b:=((gR g.ports v).length:Int)-1-(-1)+1) (by omega);simp only at hE;generalize J0C q (((gR g.ports v).length:Int)-1-(-1)+1)=W at *
         repeat' ((conv=>whnf);first|(refine Ar.mk P1 (by rw[hp1];exact(J04 (by omega) (by omega)).symm) ?_)|(refine Ar.mk P2 (by rw[hp2];exact(J04 (by omega) (by omega)).symm) ?_)|(refine Ar.mk P3 (by rw[hp3];exact(J04 (by omega) (by omega)).symm) ?_)|(refine Br.dec ?_ ?_<;>intro _<;>try omega)|(refine Br.nbeq ?_ ?_<;>intro _<;>try omega)|(refine Ar.q ?_)|(refine Ix.q ?_)|(refine Len.q ?_)|(refine hat.go ?_)|(refine hw.go ?_)|(refine And.intro rfl ?_))
         all_goals (conv=>whnf)
         all_goals
          refine⟨vs.length-(i+1),i+1,by omega,⟨rfl,by omega⟩,?_⟩;simp only[hsn];refine J0e (fun env own=>[(0,some 0),(1,some 1),(2,Q8Z env 12)]) ?_ ?_ rfl
          . repeat' (first|exact tI|(refine⟨⟨_,rfl,?_⟩,?_⟩)|exact J0c.kf rfl|exact J0c.loc rfl|exact J0c.q)
          . repeat' (first|(refine⟨Nat.le_refl _,rfl,fun i j hi hj=>?_⟩)|(rw[hE];exact J53 _ _ _ hrl _ _ hi hj)|exact tI|(refine⟨⟨_,rfl,?_⟩,?_⟩)|exact J0c.kf rfl|exact VLe.rfl|apply And.intro)
       . have hb:bV g vs v i=((gV vs i).lo,(gV vs i).hi+P1+P2):=by rw[bV,if_neg k2,if_neg k3,hp1,htop,hp2]
         rw[hb] at hE;have hw:=J1G q ((gV vs i).hi+P1+P2-(gV vs i).lo+1) (by omega);have hwr:-1<=J0C q ((gV vs i).hi+P1+P2-(gV vs i).lo+1)/\J0C q ((gV vs i).hi+P1+P2-(gV vs i).lo+1)<=1000000:=by
          by_cases h:1<=(gV vs i).hi+P1+P2-(gV vs i).lo+1
          . have:=J0s q h;omega
          . rw[J0C,if_pos (by omega)];omega
         simp only at hE;generalize J0C q ((gV vs i).hi+P1+P2-(gV vs i).lo+1)=W at *
         repeat' ((conv=>whnf);first|(refine Ar.mk P1 (by rw[hp1];exact(J04 (by omega) (by omega)).symm) ?_)|(refine Ar.mk P2 (by rw[hp2];exact(J04 (by omega) (by omega)).symm) ?_)|(refine Ar.mk P3 (by rw[hp3];exact(J04 (by omega) (by omega)).symm) ?_)|(refine Br.dec ?_ ?_<;>intro _<;>try omega)|(refine Br.nbeq ?_ ?_<;>intro _<;>try omega)|(refine Ar.q ?_)|(refine Ix.q ?_)|(refine Len.q ?_)|(refine hat.go ?_)|(refine hw.go ?_)|(refine And.intro rfl ?_))
         all_goals (conv=>whnf)
         all_goals
          refine⟨vs.length-(i+1),i+1,by omega,⟨rfl,by omega⟩,?_⟩;simp only[hsn];refine J0e (fun env own=>[(0,some 0),(1,some 1),(2,Q8Z env 12)]) ?_ ?_ rfl
          . repeat' (first|exact tI|(refine⟨⟨_,rfl,?_⟩,?_⟩)|exact J0c.kf rfl|exact J0c.loc rfl|exact J0c.q)
          . repeat' (first|(refine⟨Nat.le_refl _,rfl,fun i j hi hj=>?_⟩)|(rw[hE];exact J53 _ _ _ hrl _ _ hi hj)|exact tI|(refine⟨⟨_,rfl,?_⟩,?_⟩)|exact J0c.kf rfl|exact VLe.rfl|apply And.intro)
   . have ei:i=vs.length:=by omega
     subst ei;have hsc:=Q8p g vs raw v
     repeat' ((conv=>whnf);first|(refine Br.dec ?_ ?_<;>intro _<;>try omega)|(refine Br.nbeq ?_ ?_<;>intro _<;>try omega)|(refine Ar.q ?_)|(refine Len.q ?_))
     all_goals (conv=>whnf)
     all_goals
      refine⟨g.ports.length-(v+1),v+1,by omega,⟨rfl,by omega⟩,?_⟩;simp only[hsc];refine J0e (fun env own=>[(0,some 0),(1,Q8Z env 10)]) ?_ ?_ rfl
      . repeat' (first|exact tI|(refine⟨⟨_,rfl,?_⟩,?_⟩)|exact J0c.kf rfl|exact J0c.loc rfl|exact J0c.q)
      . repeat' (first|(refine⟨Nat.le_refl _,rfl,fun i j hi hj=>?_⟩)|exact Q9m _ _ _ _ hcl hrl _ rfl _ _ hi hj|exact tI|(refine⟨⟨_,rfl,?_⟩,?_⟩)|exact J0c.kf rfl|apply And.intro)
 . have e:v=g.ports.length:=by omega
   subst e;refine VLe.fz hcl.symm (fun h=>h) (fun i j hi hj=>VLe.of_eq ?_);simp[J0h,cfg]
theorem Q22 {P:Program} {f:FuncId} {args args':List V} {X:V} (hk:J24 V.kf args'=true) (hl:LLe args' args) (h:Ret P f args X):Ret P f args' X:=fun own ks=>by
 constructor;intro M w σ us hlen hd hh;obtain⟨d1,d2⟩:=hl.dens (M:=M) (w:=w) (us:=us) hlen (fun i v u hv hu=>(hd i v u hv hu).kf (J0w hk v (List.mem_of_getElem? hv)) Sg.none);exact(h own ks).out M w σ us d1 (fun i v u hv hu=>(d2 i v u hv hu).mono (Ext.mk (fun _ _ h=>⟨h,rfl⟩) (Nat.le_refl _)) (Sg.none_le σ)) hh
theorem X3K {P:Program} {f:FuncId} {args:List V} {X X':V} (hk:X.kf=true) (hl:VLe X X') (h:Ret P f args X):Ret P f args X':=fun own ks=>by
 constructor;intro M w σ us hlen hd hh;refine((h own ks).out M w σ us hlen hd hh).mono ?_;rintro e w' ⟨M',σ',v,own',ks',u,rfl,hv,hh',tr,kd,rfl,rfl,rfl⟩;exact⟨M',σ',X',_,_,u,rfl,(hl.out _ _ _ (hv.kf hk Sg.none)).mono (Ext.mk (fun _ _ h=>⟨h,rfl⟩) (Nat.le_refl _)) (Sg.none_le σ'),hh',tr,kd,rfl,rfl,rfl⟩
def Q5f:Nat->(Nat->Prop)->Prop
 | 0,_=>True
 | n+1,P=>P 0/\Q5f n fun i=>P (i+1)
theorem Q5f.out:∀{n:Nat} {P:Nat->Prop},Q5f n P->∀i,i<n->P i
 | n+1,P,h,0,_=>h.1
 | n+1,P,h,i+1,hi=>Q5f.out h.2 i (by omega)
theorem Q5B {n s:Nat} {f g:Nat->Nat->V} (h:Q5f n fun i=>Q5f s fun j=>VLe (f i j) (g i j)):VLe (.fz n s false f) (.fz n s false g) :=
 VLe.fz rfl (fun h=>h) fun i j hi hj=>(h.out i hi).out j hj
theorem Q5z {a b:ByteArray} (h:a=b):VLe (.str a) (.str b):=by subst h;exact .rfl
theorem Q2c (g:G) (vs:List Vr) (raw:List Int):(cfg g vs raw).length=g.ports.length:=Q3Z _ _ _ _
theorem Q8m (g:G) (vs:List Vr) (raw:List Int) {v:Nat} (hv:v<g.ports.length):gC (cfg g vs raw) v=Q8o g vs raw v vs.length:=by
 simp[gC,cfg,X2E,List.getD,hv]
theorem X1k (g:G) (vs:List Vr) (raw:List Int) (v k:Nat) {i:Nat} (hi:i<k):gI (Q8o g vs raw v k) i=X5A g vs raw v i:=by
 simp[gI,Q8o,List.getD,hi]
theorem X7y (p:Pr) (hp:J6o p) (g:G) (hg:g.valid=true) (v x:Nat) (hx:x<p.vars.length):bV g p.vars v x=bnd g (gV p.vars x) v:=by
 obtain⟨f1,f2,f3,f4,f5,f6,f7⟩:=J0a hg;rw[bV,bnd,f3];rcases (hp.var x hx).kind with h|h|h
 . rw[if_neg (by omega),if_neg (by omega),if_pos h];rfl
 . rw[if_pos h,if_neg (by omega),if_pos h]
 . rw[if_neg (by omega),if_pos h,if_neg (by omega),if_neg (by omega)]
theorem X1j (p:Pr) (hp:J6o p) (g:G) (hg:g.valid=true) (raw:List Int):J2o p g (cfg g p.vars raw):=by
 obtain⟨f1,f2,f3,f4,f5,f6,f7⟩:=J0a hg;refine⟨by rw[Q2c];exact f3,fun v hv=>?_,fun v hv x hx=>?_⟩
 . rw[Q2c] at hv;rw[Q8m g _ raw hv,Q3Y]
 . rw[Q2c] at hv;rw[Q8m g _ raw hv,X1k _ _ _ _ _ hx,X5A,X7y p hp g hg v x hx];have hb:(bnd g (gV p.vars x) v).1<=(bnd g (gV p.vars x) v).2:=by
    have hx:=hp.var x hx;have h1:=Q38 hg hx hv;rcases hx.kind with h|h|h
    . have:=h1.2.2.2.2 h;omega
    . rw[bnd,if_neg (by omega),if_pos h];decide
    . rw[bnd,if_neg (by omega),if_neg (by omega)];simp only;omega
   have hw:=J0s (gI raw (v*p.vars.length+x)) (b:=(bnd g (gV p.vars x) v).2-(bnd g (gV p.vars x) v).1+1) (by omega);omega
theorem Q9a:VLe J0S.v Q2q.v:=by
 repeat' (first|exact tI|exact VLe.rfl|exact Q5z (by kernel_rfl)|(refine VLe.agg ?_)|(refine Q5B ?_)|apply And.intro)
theorem X1G:VLe Q2q.v J0S.v:=by
 repeat' (first|exact tI|exact VLe.rfl|exact Q5z (by kernel_rfl)|(refine VLe.agg ?_)|(refine Q5B ?_)|apply And.intro)
theorem Q4j:Ret Tryz.prog 97 [J0S.v] (.int .i64 0):=by
 have h:=J7r mixed X5W Q3H;exact Q22 (args:=[Q2q.v]) rfl ⟨Q9a,True.intro⟩ (by simpa only[C.vs,C.v] using h)
theorem Q5v:Ret Tryz.prog 131 [J0S.v] (.bool true):=by
 refine J0f rfl ?_;refine J0b mixed Tryz.func131 rfl Y1n Y0F rfl ?_
 repeat' ((conv=>whnf);first|(refine Br.tt ?_)|(refine Q4j.go ?_))
 all_goals (conv=>whnf)
 exact VLe.rfl
def X3h:ByteArray:=match J9X with | .str l c=>J0t l c|_=>default
theorem X3o:Ret Tryz.prog 28 [] (.str X3h):=by
 have:=J7r mixed Q5U X4K;simpa only[C.vs,C.v,J9X,X3h] using this
theorem Q97:Ret Tryz.prog 75 [.str X3h] (.tup [Q2q.v,.int .i64 0,.int .i64 0]):=by
 have:=J7r mixed X8d X0Z;simpa only[C.vs,C.v,J9X,X3h,X6h] using this
theorem Q6x:Ret Tryz.prog 75 [.str X3h] (.tup [J0S.v,.int .i64 0,.int .i64 0]) :=
 X3K (X:=.tup [Q2q.v,.int .i64 0,.int .i64 0]) rfl (VLe.tup ⟨X1G,VLe.rfl,VLe.rfl,True.intro⟩) Q97
theorem Q4F:Ret Tryz.prog 55 [.str X3h] J0S.v:=by
 refine J0f rfl ?_;refine J0b mixed Tryz.func55 rfl hc55 hr55 rfl ?_
 repeat' ((conv=>whnf);first|(refine Q6x.go ?_))
 all_goals (conv=>whnf)
 exact VLe.rfl
theorem J3n:J6o J0S where
 vlen:=by decide
 var:=fun i hi=>by
  rcases (show i=0\/i=1 by have:i<2:=hi;omega) with rfl|rfl
  . exact⟨.inl rfl,by decide,by decide,by decide,by decide,by decide⟩
  . exact⟨.inr (.inr rfl),by decide,by decide,by decide,by decide,by decide⟩
 rlen:=by decide
 gd:=fun i hi=>by
  rcases (show i=0\/i=1 by have:i<2:=hi;omega) with rfl|rfl
  all_goals decide +kernel
 slen:=fun i hi=>by
  rcases (show i=0\/i=1 by have:i<2:=hi;omega) with rfl|rfl
  all_goals decide
 set:=fun i hi j hj=>by
  rcases (show i=0\/i=1 by have:i<2:=hi;omega) with rfl|rfl
  . rcases (show j=0\/j=1 by have:j<2:=hj;omega) with rfl|rfl<;>decide +kernel
  . rcases (show j=0\/j=1 by have:j<2:=hj;omega) with rfl|rfl<;>decide +kernel
 types:=Q5v
theorem Q4L (e f:Nat) (he:e<4294967296):J3c e e &&& f=0:=by
 apply Nat.eq_of_testBit_eq;intro i;rw[Nat.testBit_and,Nat.zero_testBit];by_cases h:i<32
 . rw[J3N h];cases e.testBit i<;>simp
 . have:(J3c e e).testBit i=false:=by
    have h1:J3c e e<4294967296:=Nat.lt_of_le_of_lt Nat.and_le_left he;exact J5a h1 (by omega)
   rw[this];rfl
theorem settle {g:G} (h:g.conn=true):∀(ws:List Nat) (c:Cf) (n:Cnt),J2o J0S g c->n.Ok->n.steps+ws.length<=4096->n.pend=enN J0S g c->(¬ TrX g c->XIn g c n)->mxV g+1<=(n.rounds:Int)+ws.length->TrX g (J3Q (trc J0S g 4 c n ws))
 | [],c,n,hc,hn,hs,hp,hi,hr=>by
   have:TrX g c:=Classical.byContradiction fun q=>by
    have:=(hi q).hr;simp only[List.length_nil] at hr;omega
   exact this
 | w::ws,c,n,hc,hn,hs,hp,hi,hr=>by
   obtain⟨hg,_⟩:=J0j h;rw[trc];by_cases h0:enN J0S g c=0
   . rw[if_pos h0];show TrX g c;exact(J9O h hc).1 h0
   . rw[if_neg h0];have hne:=Q5S J0S g 4 (nxC J0S g 4 c w) (nxK J0S g 4 c n w) ws;rw[Q4U _ hne];simp only[List.length_cons] at hs hr;obtain⟨c1,c2,c3,c4,c5,c6⟩:=J6l J0S hg (k:=4) (by decide) c w h0;obtain⟨k1,k2⟩:=X3Y hg (k:=4) (by decide) hn (by omega) w h0;have hcn:=J89 J3n hg (k:=4) (by decide) hc w h0;have e3:=okC4.1 c3;have hl:lft n (enN J0S g c) (enN J0S g (nxC J0S g 4 c w))=0:=by
      rw[lft,hp];exact Q4L _ _ (by have:=J9q J0S hg c;omega)
     have hx:¬ TrX g (nxC J0S g 4 c w)->XIn g (nxC J0S g 4 c w) (nxK J0S g 4 c n w):=fun q=>by
      have hnt:¬ TrX g c:=fun t=>q (Q9u h hc t c2);exact Q84 h hc (hi hnt) c2 hcn q
     have e4:nxK J0S g 4 c n w=⟨n.steps+1,n.moves+cnt (enN J0S g c) 32,n.rounds+1,n.rounds+1,enN J0S g (nxC J0S g 4 c w)⟩:=by
      show Cnt.add n _ _=_;rw[Cnt.add,e3,if_pos hl]
     refine settle h ws _ _ hcn k1 (by omega) (by rw[e4]) hx ?_;rw[e4];simp only
     push_cast at hr ⊢
     omega
theorem Q3Q (c:Cf) (hc:c.length<=1000) (hr:∀v,v<c.length->(gC c v).length<=1000):Ret Tryz.prog 73 [cV c] (cV c):=by
 refine J0f rfl ?_;refine(Q73 c hc hr).mono ?_;rintro v own' _ ⟨rfl,rfl⟩
 conv=>whnf
 refine Len.mk (by omega) ?_;exact VLe.fz rfl (fun h=>h) (fun i j hi hj=>VLe.of_eq (by rw[J0D,Nat.zero_add]))
theorem Q6n (p:Pr) (hp:J6o p) (g:G) (hs:g.Small) (hg:g.valid=true) (c:Cf) (hc:J2o p g c) (k:Int) (hk:dk k=true) (n:Nat) (hn:n<=4096):Ret Tryz.prog 70 [p.v,g.v,.int .i64 k,cV c,.int .i64 n] (.int .i64 0):=by
 have h1:=X1i p hp g hs hg c hc;have h2:=Q7U k;rw[hk] at h2;refine J0f rfl ?_;refine J0b mixed Tryz.func70 rfl hc70 hr70 rfl ?_
 repeat' ((conv=>whnf);first|(refine Br.tt ?_)|(refine Br.ff ?_)|(refine Br.dec ?_ ?_<;>intro _<;>try omega)|(refine h1.go ?_)|(refine h2.go ?_))
 all_goals (conv=>whnf)
 all_goals exact VLe.rfl
def gT (l:List (Cf×Cnt)) (i:Nat):Cf×Cnt:=l.getD i default
def X3d (l:List (Cf×Cnt)):Nat->Nat->V:=fun i _=>cV (gT l i).1
def vKs (l:List (Cf×Cnt)):Nat->Nat->V:=fun i j=>X7W (gT l i).2 j
def X9K (L:List (Cf×Cnt)):V:=.tup [.fz L.length 1 false (X3d L),.fz L.length 5 false (vKs L),.int .i64 0]
theorem X2v (p:Pr) {g:G} (hg:g.valid=true) (c:Cf):J3m .and .u32 (enN p g c:Int) (J2a g.ids.length:Nat)=(enN p g c:Nat):=by
 obtain⟨f1,f2,f3,f4,f5,f6,f7⟩:=J0a hg;rw[J1t (Q42 p hg c) (by rw[J2a];exact X0h _ (by omega))];congr 1;apply Nat.eq_of_testBit_eq;intro i;rw[Nat.testBit_and];cases e:(enN p g c).testBit i with
 | false=>rfl
 | true =>
   have:=J7u p hg c i e;rw[f3] at this;rw[this];rfl
structure X71 where
 c:Cf
 n:Cnt
 pre:List (Cf×Cnt)
 ch:List Nat
 en:List Nat
structure X7G (p:Pr) (g:G) (k:Int) (c0:Cf) (n0:Cnt) (ws:List Nat) (x:X71):Prop where
 le:x.ch.length<=ws.length
 conf:J2o p g x.c
 ok:x.n.Ok
 steps:x.n.steps=x.ch.length
 pl:x.pre.length=x.ch.length
 el:x.en.length=x.ch.length+1
 tot:trc p g k c0 n0 ws=x.pre++trc p g k x.c x.n (ws.drop x.ch.length)
 cho:X41 p g k c0 ws=x.ch++X41 p g k x.c (ws.drop x.ch.length)
def cntC (k:Cnt):List V:=[.int .i64 k.steps,.int .i64 k.moves,.int .i64 k.rounds,.int .i64 k.begun,.int .u32 k.pend]
theorem J8L {ws:List Nat} {i:Nat} (h:i<ws.length):ws.drop i=ws.getD i 0::ws.drop (i+1):=by
 rw[List.drop_eq_getElem_cons h];simp[List.getD,h]
theorem Q58 {p:Pr} {g:G} (hg:g.valid=true) {k:Int} {c:Cf} (hc:J2o p g c) (ws:List Nat):X7G p g k c (J4J (enN p g c)) ws ⟨c,J4J (enN p g c),[],[],[enN p g c]⟩ :=
 ⟨Nat.zero_le _,hc,Q2b (J9q p hg c),rfl,rfl,rfl,rfl,rfl⟩
theorem Q9Q {p:Pr} (hp:J6o p) {g:G} (hg:g.valid=true) {k:Int} (hk:dk k=true) {c0:Cf} {n0:Cnt} {ws:List Nat} (hl:ws.length<=4000) {x:X71} (hx:X7G p g k c0 n0 ws x) (hi:x.ch.length<ws.length) (h0:enN p g x.c≠0) :
 X7G p g k c0 n0 ws ⟨nxC p g k x.c (ws.getD x.ch.length 0),nxK p g k x.c x.n (ws.getD x.ch.length 0),x.pre++[(x.c,x.n)],x.ch++[chC p g k x.c (ws.getD x.ch.length 0)],x.en++[enN p g (nxC p g k x.c (ws.getD x.ch.length 0))]⟩:=by
 obtain⟨k1,k2⟩:=X3Y hg hk hx.ok (by have:=hx.steps;omega) (ws.getD x.ch.length 0) h0 (k:=k);have ht:=hx.tot;have hc:=hx.cho;rw[J8L hi,trc,if_neg h0] at ht;rw[J8L hi,X41,if_neg h0] at hc;refine⟨by simp only[List.length_append,List.length_singleton];omega,J89 hp hg hk hx.conf _ h0,k1,?_,?_,?_,?_,?_⟩
 . simp only[List.length_append,List.length_singleton];rw[k2,hx.steps]
 . simp only[List.length_append,List.length_singleton];rw[hx.pl]
 . simp only[List.length_append,List.length_singleton];rw[hx.el]
 . simp only[List.length_append,List.length_singleton];rw[ht];simp
 . simp only[List.length_append,List.length_singleton];rw[hc];simp
theorem Q59 {p:Pr} {g:G} {k:Int} {c0:Cf} {n0:Cnt} {ws:List Nat} {x:X71} (hx:X7G p g k c0 n0 ws x) (h:x.ch.length=ws.length\/enN p g x.c=0):trc p g k c0 n0 ws=x.pre++[(x.c,x.n)]/\X41 p g k c0 ws=x.ch:=by
 have ht:=hx.tot;have hc:=hx.cho;by_cases e:x.ch.length<ws.length
 . have h0:enN p g x.c=0:=by rcases h with h|h;omega;exact h
   rw[J8L e,trc,if_pos h0] at ht;rw[J8L e,X41,if_pos h0] at hc;exact⟨ht,by simpa using hc⟩
 . rw[List.drop_of_length_le (by omega)] at ht hc;exact⟨ht,by simpa[X41] using hc⟩
theorem Q5C (l:List Nat) (a:Nat) (F:Nat->Nat->V) (x:Int) (hF:F 0 0=.int .u32 x) (hx:x=a) (i j:Nat) (hi:i<(l++[a]).length) (hj:j<1):VLe (J4o (J0h 0 (vU7 l)) l.length (J0h 0 F) i j) (vU7 (l++[a]) i j):=by
 obtain rfl:j=0:=by omega
 apply VLe.of_eq;simp only[List.length_append,List.length_singleton] at hi;by_cases h:i<l.length
 . rw[J1E h,J0D,Nat.zero_add];simp[vU7,List.getD,List.getElem?_append_left h]
 . rw[J1F h];have:i=l.length:=by omega
   subst this;simp[J0h,hF,vU7,hx]
theorem Q7z (l:List (Cf×Cnt)) (a:Cf×Cnt) (i:Nat) (h:i<l.length+1):gT (l++[a]) i=if i<l.length then gT l i else a:=by
 by_cases e:i<l.length
 . simp[gT,List.getD,e,List.getElem?_append_left e]
 . have:i=l.length:=by omega
   subst this;simp[gT,List.getD]
theorem Q5E (l:List (Cf×Cnt)) (a:Cf×Cnt) (F:Nat->Nat->V) (hF:F 0 0=cV a.1) (n i j:Nat) (hn:n=l.length) (hi:i<l.length+1) (hj:j<1):VLe (J4o (J0h 0 (X3d l)) n (J0h 0 F) i j) (X3d (l++[a]) i j):=by
 obtain rfl:j=0:=by omega
 subst hn;apply VLe.of_eq;rw[X3d,Q7z l a i hi];by_cases h:i<l.length
 . rw[J1E h,J0D,Nat.zero_add,if_pos h];rfl
 . rw[J1F h,if_neg h];have:i=l.length:=by omega
   subst this;simp[J0h,hF]
theorem Q4n (l:List (Cf×Cnt)) (a:Cf×Cnt) (F:Nat->Nat->V) (hF:∀j,j<5->F 0 j=X7W a.2 j) (n i j:Nat) (hn:n=l.length) (hi:i<l.length+1) (hj:j<5):VLe (J4o (J0h 0 (vKs l)) n (J0h 0 F) i j) (vKs (l++[a]) i j):=by
 subst hn;apply VLe.of_eq;rw[vKs,Q7z l a i hi];by_cases h:i<l.length
 . rw[J1E h,J0D,Nat.zero_add,if_pos h];rfl
 . rw[J1F h,if_neg h];have:i=l.length:=by omega
   subst this;simp only[J0D,Nat.zero_add,Nat.sub_self];exact hF j hj
theorem X0V (k:Cnt) (F:Nat->Nat->V) (h0:F 0 0=.int .i64 k.steps) (h1:F 0 1=.int .i64 k.moves) (h2:F 0 2=.int .i64 k.rounds) (h3:F 0 3=.int .i64 k.begun) (h4:F 0 4=.int .u32 k.pend):∀j,j<5->F 0 j=X7W k j:=fun j hj=>by
 rcases (show j=0\/j=1\/j=2\/j=3\/j=4 by omega) with rfl|rfl|rfl|rfl|rfl
 . exact h0
 . exact h1
 . exact h2
 . exact h3
 . exact h4
theorem X5P {X:V} {F:Nat->Nat->V} (h:F 0 0=X) (i j:Nat) (hi:i<1) (hj:j<1):VLe (J0h 0 (tab [[X]]) i j) (F i j):=by
 obtain rfl:i=0:=by omega
 obtain rfl:j=0:=by omega
 rw[h];exact VLe.rfl
theorem X5N {k:Cnt} {F:Nat->Nat->V} (h:∀j,F 0 j=X7W k j) (i j:Nat) (hi:i<1) (hj:j<5):VLe (J0h 0 (tab [[.int .i64 k.steps,.int .i64 k.moves,.int .i64 k.rounds,.int .i64 k.begun,.int .u32 k.pend]]) i j) (F i j):=by
 obtain rfl:i=0:=by omega
 rw[h];rcases (show j=0\/j=1\/j=2\/j=3\/j=4 by omega) with rfl|rfl|rfl|rfl|rfl<;>exact VLe.rfl
theorem Q2W (L:List (Cf×Cnt)) (n:Nat) (hn:n=L.length):VLe (V.tup [.fz n 1 false (J0h 0 (X3d L)),.fz n 5 false (J0h 0 (vKs L)),.int .i64 0]) (X9K L):=by
 subst hn;refine VLe.tup ⟨VLe.fz rfl (fun h=>h) (fun i j _ _=>VLe.of_eq (by rw[J0D,Nat.zero_add])),VLe.fz rfl (fun h=>h) (fun i j _ _=>VLe.of_eq (by rw[J0D,Nat.zero_add])),VLe.rfl,True.intro⟩
set_option maxHeartbeats 16000000 in
theorem Q9c (p:Pr) (hp:J6o p) (g:G) (hs:g.Small) (hg:g.valid=true) (k:Int) (hk:dk k=true) (c:Cf) (hc:J2o p g c) (ws:List Nat) (hwl:ws.length<=1000) (hw:∀w∈ws,w<4294967296) :
 RG 54 [p.v,g.v,.int .i64 k,cV c,.fz ws.length 1 false (vU7 ws)] (X9K (trc p g k c (J4J (enN p g c)) ws)):=by
 obtain⟨f1,f2,f3,f4,f5,f6,f7⟩:=J0a hg;have hcl:=hc.len;have hvl:=hp.vlen;have h1:=Q6n p hp g hs hg c hc k hk ws.length (by omega);have h2:=X0k p hp g hg;have h3:=Q6J g hs hg;have h4:=X7C g hg;have h5:=Q3Q c (by omega) (fun v hv=>by have:=hc.row v hv;omega);have h6:=X2e p hp g hg c hc;have h7:=X1C (enN p g c) (J9q p hg c);have ha:=X2v p hg c;refine Q6h rfl ?_;refine J0b mixed Tryz.func54 rfl hc54 hr54 rfl ?_
 repeat' ((conv=>whnf);first|(refine Sv.mk _ ha.symm ?_)|(refine Br.ff ?_)|(refine Len.q ?_)|(refine h1.go ?_)|(refine h2.go ?_)|(refine h3.go ?_)|(refine h4.go ?_)|(refine h5.go ?_)|(refine h6.go ?_)|(refine h7.go ?_)|(refine J0b mixed Tryz.func71 rfl hc71 hr71 rfl ?_)|(refine J0b mixed Tryz.func74 rfl hc74 hr74 rfl ?_)|(refine J0b mixed Tryz.func91 rfl hc91 hr91 rfl ?_)|(refine J0b mixed Tryz.func72 rfl hc72 hr72 rfl ?_)|(refine Chk.q ?_)|(refine And.intro rfl ?_))
 all_goals (conv=>whnf)
 refine J16 mixed [3,4,8,10,12,39] [17,19,21,22] [23,24,25,26,27,28,29,30,31,32,33,34,35,36,37,38,39,40,41,42,43,44,45,46,47,48,49,50,51,52,53,54,55,56,57,58,59] [22,21,19,17,14,13,12,11,10,9,8,3,2,999] (fun x:X71=>[(1,cV x.c),(11,.int .u32 (enN p g x.c:Nat)),(40,.int .i64 x.ch.length)]) (fun x=>[(22,.vec x.ch.length 1 (vU7 x.ch)),(21,.vec x.en.length 1 (vU7 x.en)),(19,.vec (x.pre.length+1) 5 (vKs (x.pre++[(x.c,x.n)]))),(17,.vec (x.pre.length+1) 1 (X3d (x.pre++[(x.c,x.n)]))),(14,.cells (cntC x.n)),(13,.cells [.vec 22 1 0 x.ch.length,.vec 21 1 0 x.en.length,.nilslice,.int .i64 0,.int .i64 0,.int .i64 0,.int .i64 0,.int .u32 0]),(12,.cells [.nilslice,.nilslice,.nilslice,.int .i64 0,.int .i64 0,.int .i64 0,.int .i64 0,.int .u32 0]),(11,.cells [mvP p g,.fz g.ports.length 1 false (X1K g),.int .i64 k,.int .u32 (J2a g.ids.length:Nat),.fn (.func 72) false [.loc 2 0,.loc 3 0]]),(10,.cells [.nilslice,.nilslice,.nilslice,.int .i64 0,.int .i64 0,.int .i64 0,.int .i64 0,.int .u32 0]),(9,.cells [.fz ws.length 1 false (vU7 ws)]),(8,.cells [mvP p g,.fz g.ports.length 1 false (X1K g),.int .i64 k,.int .u32 (J2a g.ids.length:Nat),.fn (.func 72) false [.loc 2 0,.loc 3 0]]),(3,.cells [.vec 19 5 0 (x.pre.length+1)]),(2,.cells [.vec 17 1 0 (x.pre.length+1)]),(999,GB)]) (fun m x=>m=ws.length-x.ch.length/\X7G p g k c (J4J (enN p g c)) ws x) ws.length ⟨c,J4J (enN p g c),[],[],[enN p g c]⟩ ⟨rfl,Q58 hg hc ws⟩ rfl (fun _=>rfl) ?_ ?_
 . refine J0e (fun _ _=>[(14,some 14),(13,some 13),(12,some 12),(11,some 11),(10,some 10),(9,some 9),(8,some 8),(3,some 3),(2,some 2),(999,some 999),(17,some 17),(19,some 19),(21,some 21),(22,none)]) ?_ ?_ rfl
   . repeat' (first|exact tI|(refine J0c.fn ?_)|(refine⟨⟨_,rfl,?_⟩,?_⟩)|exact J0c.kf rfl|exact J0c.loc rfl|apply And.intro)
   . repeat' (first|exact X5P (by rfl) _ _ hi hj|exact X5N (k:=J4J (enN p g c)) (fun _=>by rfl) _ _ hi hj|exact tI|(refine J0c.fn ?_)|exact⟨rfl,rfl,rfl⟩|(refine⟨⟨_,rfl,?_⟩,?_⟩)|exact J0c.kf rfl|exact J0c.loc rfl|exact J0c.q|exact J0c.nil rfl rfl|(refine⟨Nat.le_refl _,rfl,fun i j hi hj=>?_⟩)|(refine⟨⟨_,_,rfl⟩,?_⟩)|apply And.intro)
 rintro m x ⟨hm,hx⟩;clear h5 h6 h7 ha;have hcx:=hx.conf;have hlx:=hcx.len;have hpl:=hx.pl;have hel:=hx.el;have hle:=hx.le;by_cases hi:x.ch.length<ws.length
 . have hwb:ws.getD x.ch.length 0<4294967296:=hw _ (by rw[List.getD_eq_getElem?_getD,List.getElem?_eq_getElem hi];exact List.getElem_mem hi);have hrs:=Q1N g hg k (enN p g x.c) (ws.getD x.ch.length 0) (Q42 p hg x.c) hwb (J7u p hg x.c);change RG _ _ (.int .u32 (chC p g k x.c (ws.getD x.ch.length 0):Nat)) at hrs;by_cases h0:enN p g x.c=0
   . obtain⟨e1,e2⟩:=Q59 hx (.inr h0);rw[e1]
     repeat' ((conv=>whnf);first|(refine Br.ff ?_)|(refine Br.dec ?_ ?_<;>intro _<;>try omega)|(refine Br.bne ?_ ?_<;>intro _<;>try omega)|(refine Ix.q ?_)|(refine Len.q ?_)|(refine hrs.gog ?_)|(refine J0b mixed Tryz.func92 rfl hc92 hr92 rfl ?_)|(refine Chk.q ?_)|(refine And.intro rfl ?_))
     all_goals (conv=>whnf)
     all_goals exact Q2W _ _ (by simp)
   . have hnx:=Q9Q hp hg hk (by omega) hx hi h0;obtain⟨c1,c2,c3,c4,c5,c6⟩:=J6l p hg hk x.c (ws.getD x.ch.length 0) h0;have hcn:=J89 hp hg hk hcx (ws.getD x.ch.length 0) h0;have hpm:=Q1O g hg k (enN p g x.c) (chC p g k x.c (ws.getD x.ch.length 0)) (Q42 p hg x.c) (by omega) (J7u p hg x.c);have hin:Q4X g k (enN p g x.c) (chC p g k x.c (ws.getD x.ch.length 0))=true:=Q2Y hg hk (Q42 p hg x.c) (J7u p hg x.c) h0;rw[hin] at hpm;have hst:=X0j p hp g hg x.c hcx (chC p g k x.c (ws.getD x.ch.length 0)) (by omega) (fun v hv hb=>by have:=c2 v hb;rw[Q3K,Bool.and_eq_true,decide_eq_true_eq,decide_eq_true_eq] at this;exact this.2);change Ret _ _ _ (cV (nxC p g k x.c (ws.getD x.ch.length 0))) at hst;have hen:=X2e p hp g hg _ hcn;have ha:=X2v p hg (nxC p g k x.c (ws.getD x.ch.length 0));have hcp:=Q3Q (nxC p g k x.c (ws.getD x.ch.length 0)) (by rw[hcn.len];omega) (fun v hv=>by have:=hcn.row v hv;omega);have had:=X7E x.n hx.ok (by have:=hx.steps;omega) (chC p g k x.c (ws.getD x.ch.length 0)) (enN p g (nxC p g k x.c (ws.getD x.ch.length 0))) c1 c4 (J9q p hg _);change Ret _ _ _ (.tup [(nxK p g k x.c x.n (ws.getD x.ch.length 0)).v,.int .i64 0]) at had;generalize nxK p g k x.c x.n (ws.getD x.ch.length 0)=n' at *;generalize nxC p g k x.c (ws.getD x.ch.length 0)=c' at *;generalize chC p g k x.c (ws.getD x.ch.length 0)=s at *;have e1:=Q42 p hg x.c
     repeat' ((conv=>whnf);first|(refine Sv.mk _ ha.symm ?_)|(refine Br.tt ?_)|(refine Br.dec ?_ ?_<;>intro _<;>try omega)|(refine Br.bne ?_ ?_<;>intro _<;>try omega)|(refine Br.nbeq ?_ ?_<;>intro _<;>try omega)|(refine Ar.q ?_)|(refine Ix.q ?_)|(refine Len.q ?_)|(refine hrs.gog ?_)|(refine hpm.gog ?_)|(refine hst.go ?_)|(refine hen.go ?_)|(refine hcp.go ?_)|(refine had.go ?_)|(refine J0b mixed Tryz.func72 rfl hc72 hr72 rfl ?_)|(refine J0b mixed Tryz.func92 rfl hc92 hr92 rfl ?_)|(refine Chk.q ?_)|(refine And.intro rfl ?_))
     all_goals (conv=>whnf)
     refine⟨_,_,?_,⟨rfl,hnx⟩,?_⟩
     . simp only[List.length_append,List.length_singleton];omega
     . refine J0e (fun env own=>[(14,some 14),(13,some 13),(12,some 12),(11,some 11),(10,some 10),(9,some 9),(8,some 8),(3,some 3),(2,some 2),(999,some 999),(17,Q46 own 2 0),(19,Q46 own 3 0),(21,Q46 own 13 1),(22,Q46 own 13 0)]) ?_ ?_ rfl
       . repeat' (first|exact J0c.int (by simp only[List.length_append,List.length_singleton]<;>omega)|exact tI|(refine J0c.fn ?_)|(refine⟨⟨_,rfl,?_⟩,?_⟩)|exact J0c.kf rfl|exact J0c.loc rfl|apply And.intro)
       . repeat' (first|exact J0c.vec rfl rfl (by simp only[List.length_append,List.length_singleton]<;>omega)|(refine⟨by simp only[List.length_append,List.length_singleton]<;>omega,rfl,fun i j hi hj=>?_⟩)|exact J0c.int (by simp only[List.length_append,List.length_singleton]<;>omega)|exact Q5C _ _ _ _ (by rfl) (by rfl) _ _ hi hj|exact Q5E _ _ _ (by rfl) _ _ _ (by simp) hi hj|exact Q4n _ _ _ (X0V _ _ (by rfl) (by rfl) (by rfl) (by rfl) (by rfl)) _ _ _ (by simp) hi hj|exact tI|(refine J0c.fn ?_)|exact⟨rfl,rfl,rfl⟩|(refine⟨⟨_,rfl,?_⟩,?_⟩)|exact J0c.kf rfl|exact J0c.loc rfl|apply And.intro)
 . obtain⟨e1,e2⟩:=Q59 hx (.inl (by omega));rw[e1]
   repeat' ((conv=>whnf);first|(refine Br.ff ?_)|(refine Br.dec ?_ ?_<;>intro _<;>try omega)|(refine Len.q ?_)|(refine And.intro rfl ?_))
   all_goals (conv=>whnf)
   all_goals exact Q2W _ _ (by simp)
theorem X25 (t:ByteArray) (p:Pr) (hp:J6o p) (hpr:Ret Tryz.prog 55 [.str t] p.v) (g:G) (hs:g.Small) (hg:g.valid=true) (k:Int) (hk:dk k=true) (c:Cf) (hc:J2o p g c) (ws:List Nat) (hwl:ws.length<=1000) (hw:∀w∈ws,w<4294967296) :
 RG 27 [.str t,g.v,.int .i64 k,cV c,.fz ws.length 1 false (vU7 ws)] (.tup [.fz (trc p g k c (J4J (enN p g c)) ws).length 1 false (X3d (trc p g k c (J4J (enN p g c)) ws)),.fz (trc p g k c (J4J (enN p g c)) ws).length 5 false (vKs (trc p g k c (J4J (enN p g c)) ws)),.bool true]):=by
 have h1:=Q9c p hp g hs hg k hk c hc ws hwl hw;have h2:=Q5S p g k c (J4J (enN p g c)) ws;have h3:=Q1z p g k ws c (J4J (enN p g c));rw[X9K] at h1;generalize trc p g k c (J4J (enN p g c)) ws=L at *;refine J3s rfl ?_;refine J0b mixed Tryz.func27 rfl hc27 hr27 rfl ?_
 repeat' ((conv=>whnf);first|(refine Br.tt ?_)|(refine Br.dec ?_ ?_<;>intro _<;>try omega)|(refine h1.gog ?_)|(refine hpr.go ?_)|(refine And.intro rfl ?_))
 all_goals (conv=>whnf)
 all_goals exact VLe.rfl
theorem X6Y {T:List (Cf×Cnt)} {i:Nat} (h:i<T.length):gT T i∈T:=by
 simp[gT,List.getD,h]
theorem X4x {T:List (Cf×Cnt)} (h:0<T.length):(gT T (T.length-1)).1=J3Q T:=by
 have:T.getLast?=T[T.length-1]?:=List.getLast?_eq_getElem?;simp only[gT,J3Q,this,List.getD]
theorem J7x {p:Pr} (hp:J6o p) {g:G} (hg:g.valid=true) {c:Cf} (h:J2o p g c):J7L c:=by
 obtain⟨f1,f2,f3,f4,f5,f6,f7⟩:=J0a hg;have hl:=h.len;have hv:=hp.vlen;refine⟨by omega,fun r hr=>?_⟩;obtain⟨i,hi,e⟩:=List.mem_iff_getElem.1 hr;have h2:gC c i=r:=by simp[gC,List.getD,hi,e]
 have:=h.row i hi;rw[<- h2];omega
set_option maxHeartbeats 16000000 in
theorem J79 (g:G) (hgc:g.conn=true) (raw:List Int) (hraw:raw.length<=9223372036854775807):∃c,J2o J0S g c/\TrX g c/\RG 10 [g.v,.fz raw.length 1 false (vI raw)] (.tup [cV c,.bool true]):=by
 obtain⟨hg,_⟩:=J0j hgc;obtain⟨f1,f2,f3,f4,f5,f6,f7⟩:=J0a hg;have hs:=J3p hg;have hcf:=Q75 g hg vW2 X78 X79 raw hraw;have hc:=X1j J0S J3n g hg raw;change J2o J0S g (cfg g vW2 raw) at hc;generalize cfg g vW2 raw=c at *;have hv:=Q4h;have htx:=X3o;have hw0:=Q5u [] (by simp) (16*g.ids.length) (by omega);have hwi:Ret Tryz.prog 31 [.nilslice,.int .i64 ((16*g.ids.length:Nat):Int)] (.fz (wsL [] (16*g.ids.length)).length 1 false (vU7 (wsL [] (16*g.ids.length)))) :=
  Q22 (args:=[.fz ([]:List Int).length 1 false (vUI []),.int .i64 ((16*g.ids.length:Nat):Int)]) rfl ⟨VLe.nilfz rfl,VLe.rfl,True.intro⟩ hw0
 have hwl:=Q5t [] (16*g.ids.length);have hwlt:=X5I [] (16*g.ids.length);generalize wsL [] (16*g.ids.length)=ws at *;have hrun:=X25 X3h J0S J3n Q4F g hs hg 4 (by decide) c hc ws (by omega) hwlt;have hall:=Q5T J3n hg (k:=4) (by decide) ws c (J4J (enN J0S g c)) hc (Q2b (J9q _ hg c)) (by simp only[J4J];omega);have hne:=Q5S J0S g 4 c (J4J (enN J0S g c)) ws;have hmx:=X6C hgc;have hset:=settle hgc ws c (J4J (enN J0S g c)) hc (Q2b (J9q _ hg c)) (by simp only[J4J];omega) rfl (fun _=>Q5r hgc hc) (by simp only[J4J];omega);have hlen:=Q1z J0S g 4 ws c (J4J (enN J0S g c));generalize trc J0S g 4 c (J4J (enN J0S g c)) ws=T at *;have hlast:=X4x hne;have hlc:J2o J0S g (gT T (T.length-1)).1:=(hall _ (X6Y (by omega))).1;rw[<- hlast] at hset;have hlg:=J70 g hs _ (J7x J3n hg hlc);rw[(Q2s hgc hlc).2 hset] at hlg;refine⟨_,hlc,hset,?_⟩;refine J3s rfl ?_;refine J0b mixed Tryz.func10 rfl hc10 hr10 rfl ?_
 repeat' ((conv=>whnf);first|(refine Ar.mk ((16*g.ids.length:Nat):Int) (by rw[J04 (by omega) (by omega)];omega) ?_)|(refine Ix.w (T.length-1) ?_)|(refine Br.tt ?_)|(refine Ar.q ?_)|(refine hcf.go ?_)|(refine hv.go ?_)|(refine htx.go ?_)|(refine hwi.go ?_)|(refine hlg.go ?_)|(refine hrun.gog ?_)|(refine And.intro rfl ?_))
 all_goals (conv=>whnf)
 all_goals exact VLe.rfl
theorem X2L {g:G} (hgc:g.conn=true) {c:Cf} (hc:J2o J0S g c) (ht:TrX g c):g.botX c=btL c/\c.length=g.ids.length/\∀v,v<g.ids.length->gI (btL c) v=(btN g v:Nat):=by
 have hl:=hc.len;refine⟨by rw[G.botX,hgc,Q2t hc];rfl,hl,fun v hv=>?_⟩;rw[Q8A c (by omega)];have h1:=(ht v hv).1;have e:gI (gC c v) 0=dC c v:=rfl;rw[e,h1,hl,btN,Int.tdiv_eq_ediv_of_nonneg (by omega)];exact(Int.natCast_ediv _ _).symm
theorem Q7P {g:G} (h:g.conn=true) (h2:2<=g.ids.length):0<(J0q g).length:=by
 obtain⟨hg,_⟩:=J0j h;obtain⟨f1,f2,f3,f4,f5,f6,f7⟩:=J0a hg;obtain⟨u,hu,_⟩:=(X5w h).near 1 (by omega) (by omega);have hun:=(X5w h).rng 1 u (by omega) hu;have hne:u≠1:=fun e=>by have:=(J9D hg).irr 1 (by omega);rw[e] at hu;rw[hu] at this;cases this
 obtain⟨l,hl,e⟩:=J2I.1 hu;have hok:=(J0n.1 (f6 1 (by omega))).1 l hl;have hE:J1S g 1 u l.2:=⟨by omega,hun,by
  have:((u:Nat):Int)=l.1:=by omega
  rw[this];exact hl⟩
 by_cases q:1<u
 . exact List.length_pos_of_mem ((J1m hg (e:=⟨1,u,l.2⟩)).2 ⟨q,hE⟩)
 . obtain rfl:u=0:=by omega
   exact List.length_pos_of_mem ((J1m hg (e:=⟨0,1,l.2⟩)).2 ⟨by show 0<1;omega,hE.symm hg⟩)
theorem X3P {g:G} (hg:g.valid=true) (h:g.ids.length=1):J0q g=[]:=by
 rw[J0q,h];show((List.range 1).flatMap fun a=>(List.range 1).filterMap (edE g a))=[];have e:edE g 0 0=none:=if_neg (fun q=>by omega);simp[List.range_succ,e]
theorem Q7n (cl:FuncId):Ret Tryz.prog 66 [.nilslice,.int .i64 0,.int .i64 0,.fn (.func cl) false []] (.tup []):=by
 refine J0f rfl ?_;refine J0b mixed Tryz.func66 rfl hc66 hr66 rfl ?_
 repeat' ((conv=>whnf);first|(refine Ar.q ?_))
 all_goals (conv=>whnf)
 refine J00 mixed 1 ?_
 repeat' ((conv=>whnf);first|(refine Br.ff ?_))
 all_goals (conv=>whnf)
 exact VLe.rfl
theorem Q4u (cl:FuncId):Ret Tryz.prog 49 [.nilslice,.int .i64 0,.fn (.func cl) false []] (.tup []):=by
 have hi:=Q7n cl;refine J0f rfl ?_;refine J0b mixed Tryz.func49 rfl hc49 hr49 rfl ?_
 repeat' ((conv=>whnf);first|fail)
 all_goals (conv=>whnf)
 refine J00 mixed 1 ?_
 repeat' ((conv=>whnf);first|(refine Br.ff ?_)|(refine hi.go ?_))
 all_goals (conv=>whnf)
 refine J00 mixed 1 ?_
 repeat' ((conv=>whnf);first|(refine Br.ff ?_))
 all_goals (conv=>whnf)
 exact VLe.rfl
theorem Q4w (cl:FuncId):Ret Tryz.prog 21 [.nilslice,.fn (.func cl) false []] (.tup []):=by
 have hi:=Q4u cl;refine J0f rfl ?_;refine J0b mixed Tryz.func21 rfl hc21 hr21 rfl ?_
 repeat' ((conv=>whnf);first|(refine hi.go ?_))
 all_goals (conv=>whnf)
 exact VLe.rfl
set_option maxHeartbeats 16000000 in
theorem J93 (g:G) (hs:g.Small) (hgc:g.conn=true) (h1:g.ids.length=1):Ret Tryz.prog 8 [g.v] (.tup [.fz (J1Q g).length 2 false (sF (J1Q g)),.int .i64 0]):=by
 obtain⟨hg,_⟩:=J0j hgc;obtain⟨f1,f2,f3,f4,f5,f6,f7⟩:=J0a hg;have hcn:=Q16 g hs;rw[hgc] at hcn;have he0:=X3P hg h1;have hle:=Q0W hg;have h0:(J0q g).length=0:=by rw[he0];rfl
 have hed:=Q3M g hs hg (by omega);have hsp:J1Q g=[]:=by
  have:=Q2T g;rw[J9H,he0] at this;exact this.symm
 rw[hsp];refine J0f rfl ?_;refine J0b mixed Tryz.func8 rfl hc8 hr8 rfl ?_;have hnil:=Q4w 22;have hso:=Q2P 22 (by kernel_rfl) (fun x y=>cpI x.w y.w) Q2N ltW wo_w X2A (J0q g) (by omega)
 repeat' ((conv=>whnf);first|(refine Br.tt ?_)|(refine Br.nbeq ?_ ?_<;>intro _<;>try omega)|(refine Bd.q ?_)|(refine Len.q ?_)|(refine X73.mk ?_ ?_)|(refine MkS.vec ?_)|(refine hcn.go ?_)|(refine hed.go ?_)|(refine Chk.q ?_)|(refine J0b mixed Tryz.func20 rfl hc20 hr20 rfl ?_)|(refine J2b [(0,some 2)] [] (hso.mono ?_) ⟨J0c.vec rfl rfl (Nat.zero_add _),J0c.fn True.intro,True.intro⟩ (by repeat' (first|exact tI|(refine⟨⟨_,rfl,?_⟩,?_⟩)|(refine⟨by omega,rfl,fun i j hi hj=>?_⟩)|exact VLe.rfl|apply And.intro)) rfl;rintro _ _ _ ⟨B,⟨hp,hsl⟩,rfl,rfl⟩))
 all_goals (conv=>whnf)
 . refine hnil.go ?_
   repeat' ((conv=>whnf);first|(refine Bd.q ?_)|(refine Len.q ?_)|(refine MkS.vec ?_))
   all_goals (conv=>whnf)
   refine J0N mixed [2,3,4,5,6,31] [] [2,3,4,5,6,7,8,9,10,11,12,13,14,15,16,17,18,19,20,21,22,23,24,25,26,27,28,29] [1,0] (fun v:Nat=>[(32,.int .i64 v)]) (fun own v=>J2i own 1 (.vec g.ids.length 1 (pF fun u=>if u<v then (u:Int) else 0))) (fun m v=>m=g.ids.length-v/\v<=g.ids.length) g.ids.length 0 ⟨rfl,Nat.zero_le _⟩ rfl (fun _=>rfl) ?_ ?_
   . refine J0e (fun _ _=>[(0,some 0),(1,some 1)]) ?_ ?_ rfl
     . repeat' (first|exact tI|(refine⟨⟨_,rfl,?_⟩,?_⟩)|exact J0c.kf rfl|exact J0c.q)
     . repeat' (first|exact⟨Nat.le_refl _,rfl,fun i j hi hj=>VLe.of_eq (by obtain rfl:j=0:=(by omega);rfl)⟩|exact tI|(refine⟨⟨_,rfl,?_⟩,?_⟩)|exact J0c.kf rfl|apply And.intro)
   rintro m v ⟨hm,hv⟩;by_cases hvn:v<g.ids.length
   . repeat' ((conv=>whnf);first|(refine Ix.w v ?_)|(refine Br.dec ?_ ?_<;>intro _<;>try omega)|(refine Ar.q ?_)|(refine Ltn.q ?_))
     all_goals (conv=>whnf)
     refine⟨g.ids.length-(v+1),v+1,by omega,⟨rfl,by omega⟩,?_⟩;refine J0e (fun _ _=>[(0,some 0),(1,some 1)]) ?_ ?_ rfl
     . repeat' (first|exact tI|(refine⟨⟨_,rfl,?_⟩,?_⟩)|exact J0c.kf rfl|exact J0c.q)
     . repeat' (first|exact⟨Nat.le_refl _,rfl,fun i t hi ht=>by simp only[Nat.zero_add];exact Q1K g.ids.length v i t ht⟩|exact tI|(refine⟨⟨_,rfl,?_⟩,?_⟩)|exact J0c.kf rfl|apply And.intro)
   have ev:v=g.ids.length:=by omega
   subst ev
   repeat' ((conv=>whnf);first|(refine Br.dec ?_ ?_<;>intro _<;>try omega))
   all_goals (conv=>whnf)
   refine J00 mixed 1 ?_
   repeat' ((conv=>whnf);first|(refine Br.ff ?_))
   all_goals (conv=>whnf)
   refine J00 mixed 1 ?_
   repeat' ((conv=>whnf);first|(refine Br.dec ?_ ?_<;>intro _<;>try omega))
   all_goals (conv=>whnf)
   exact VLe.tup ⟨VLe.nilfz rfl,VLe.rfl,True.intro⟩
 . have hBl:=hp.length_eq;have hB0:B.length=0:=by omega
   refine J0N mixed [2,3,4,5,6,31] [] [4,5,6,7,8,9,10,11,12,13,14,15,16,17,18,19,20,21,22,23,24,25,26,27,28,29] [3,2,0] (fun v:Nat=>[(32,.int .i64 v)]) (fun own v=>J2i own 3 (.vec g.ids.length 1 (pF fun u=>if u<v then (u:Int) else 0))) (fun m v=>m=g.ids.length-v/\v<=g.ids.length) g.ids.length 0 ⟨rfl,Nat.zero_le _⟩ rfl (fun _=>rfl) ?_ ?_
   . refine J0e (fun _ _=>[(0,some 0),(2,some 2),(3,some 3)]) ?_ ?_ rfl
     . repeat' (first|exact tI|(refine⟨⟨_,rfl,?_⟩,?_⟩)|exact J0c.kf rfl|exact J0c.q)
     . repeat' (first|exact⟨Nat.le_refl _,rfl,fun i j hi hj=>VLe.of_eq (by obtain rfl:j=0:=(by omega);rfl)⟩|exact tI|(refine⟨⟨_,rfl,?_⟩,?_⟩)|exact J0c.kf rfl|apply And.intro)
   rintro m v ⟨hm,hv⟩;by_cases hvn:v<g.ids.length
   . repeat' ((conv=>whnf);first|(refine Ix.w v ?_)|(refine Br.dec ?_ ?_<;>intro _<;>try omega)|(refine Ar.q ?_)|(refine Ltn.q ?_))
     all_goals (conv=>whnf)
     refine⟨g.ids.length-(v+1),v+1,by omega,⟨rfl,by omega⟩,?_⟩;refine J0e (fun _ _=>[(0,some 0),(2,some 2),(3,some 3)]) ?_ ?_ rfl
     . repeat' (first|exact tI|(refine⟨⟨_,rfl,?_⟩,?_⟩)|exact J0c.kf rfl|exact J0c.q)
     . repeat' (first|exact⟨Nat.le_refl _,rfl,fun i t hi ht=>by simp only[Nat.zero_add];exact Q1K g.ids.length v i t ht⟩|exact tI|(refine⟨⟨_,rfl,?_⟩,?_⟩)|exact J0c.kf rfl|(refine⟨Nat.le_refl _,rfl,fun i j hi hj=>?_⟩)|exact VLe.rfl|apply And.intro)
   have ev:v=g.ids.length:=by omega
   subst ev
   repeat' ((conv=>whnf);first|(refine Br.dec ?_ ?_<;>intro _<;>try omega))
   all_goals (conv=>whnf)
   refine J00 mixed 1 ?_
   repeat' ((conv=>whnf);first|(refine Br.dec ?_ ?_<;>intro _<;>try omega))
   all_goals (conv=>whnf)
   refine J00 mixed 1 ?_
   repeat' ((conv=>whnf);first|(refine Br.dec ?_ ?_<;>intro _<;>try omega))
   all_goals (conv=>whnf)
   exact VLe.tup ⟨VLe.nilfz rfl,VLe.rfl,True.intro⟩
theorem Q9H (g:G) (hs:g.Small) (hgc:g.conn=true) (h19:(J5L g).length<=19):Ret Tryz.prog 8 [g.v] (.tup [.fz (J1Q g).length 2 false (sF (J1Q g)),.int .i64 0]):=by
 by_cases h0:0<(J0q g).length
 . exact J6H g hs hgc h19 h0
 . have h1:=(J0a (J0j hgc).1).1;have:¬ 2<=g.ids.length:=fun q=>h0 (Q7P hgc q);exact J93 g hs hgc (by omega)
theorem X77 {g:G} (hg:g.valid=true) (L:List (Nat×Nat)):VLe (V.agg [.fz g.ports.length 1 false (J0h 0 (vI g.ids)),.fz g.ports.length 1 false fun i _=>.fz (J1g g.ports i) 2 false (J1p (reG g L).ports i)]) (reG g L).v:=by
 obtain⟨f1,f2,f3,f4,f5,f6,f7⟩:=J0a hg;refine VLe.agg ⟨VLe.fz f3 (fun h=>h) (fun i j hi hj=>VLe.of_eq (by simp[J0h,reG])),VLe.fz (J3t g L).symm (fun h=>h) (fun i j hi hj=>?_),True.intro⟩;show VLe _ (.fz (gR (reG g L).ports i).length 2 false (vF (gR (reG g L).ports i)));exact VLe.fz (J6R i).symm (fun h=>h) (fun a b ha hb=>VLe.rfl)
def J1k (p:List (List (Int×Int))) (k:Nat):Nat:=Go.Plain.sumN (fun v=>(gR p v).length) k
theorem Q0k {g:G} (hg:g.valid=true):∀k,J1k g.ports k<=24*k
 | 0=>Nat.le_refl _
 | k+1=>by
   have h1:=Q0k hg k;have h2:=J2k hg k;show J1k g.ports k+(gR g.ports k).length<=_;omega
theorem Q9R (g:G) (hs:g.Small) (hg:g.valid=true):Ret Tryz.prog 25 [g.v] (.tup [.int .i64 g.ports.length,.int .i64 ((J1k g.ports g.ports.length / 2:Nat):Int)]):=by
 have hv:=J6J g hs;rw[hg] at hv;obtain⟨f1,f2,f3,f4,f5,f6,f7⟩:=J0a hg;refine J0f rfl ?_;refine J0b mixed Tryz.func25 rfl hc25 hr25 rfl ?_
 repeat' ((conv=>whnf);first|(refine Br.tt ?_)|(refine hv.go ?_))
 all_goals (conv=>whnf)
 refine J0V mixed [1] (fun v:Nat=>[(4,.int .i64 (J1k g.ports v)),(5,.int .i64 v)]) (fun m v=>m=g.ports.length-v/\v<=g.ports.length) g.ports.length 0 ⟨rfl,Nat.zero_le _⟩ ?_ ?_
 . exact J0l (fun _ _=>[(0,some 0)])
 rintro m v ⟨hm,hvl⟩;have hp:=Q0k hg v;by_cases hvn:v<g.ports.length
 . have hr:=J2k hg v;have hnx:J1k g.ports (v+1)=J1k g.ports v+(gR g.ports v).length:=rfl
   repeat' ((conv=>whnf);first|(refine Br.dec ?_ ?_<;>intro _<;>try omega)|(refine Ar.q ?_)|(refine Ix.q ?_))
   all_goals (conv=>whnf)
   refine⟨g.ports.length-(v+1),v+1,by omega,⟨rfl,by omega⟩,?_⟩;refine J0e (fun _ _=>[(0,some 0)]) ?_ ?_ rfl
   . repeat' (first|exact J0c.int (by omega)|exact tI|(refine⟨⟨_,rfl,?_⟩,?_⟩)|exact J0c.loc rfl)
   . repeat' (first|exact tI|(refine⟨⟨_,rfl,?_⟩,?_⟩)|exact J0c.kf rfl|apply And.intro)
 . obtain rfl:v=g.ports.length:=by omega
   have e:((J1k g.ports g.ports.length:Nat):Int).tdiv 2=((J1k g.ports g.ports.length / 2:Nat):Int):=by rw[Int.tdiv_eq_ediv_of_nonneg (by omega)];omega
   have e2:((J1k g.ports g.ports.length:Nat):Int).tdiv 2<=1000/\0<=((J1k g.ports g.ports.length:Nat):Int).tdiv 2:=by rw[e];omega
   repeat' ((conv=>whnf);first|(refine Ar.q ?_)|(refine Br.dec ?_ ?_<;>intro _<;>try omega)|(refine Nz.mk (by omega) ?_))
   all_goals (conv=>whnf)
   rw[e];exact VLe.rfl
theorem Q6c (g:G) (hs:g.Small) (hgc:g.conn=true) (hm:J1k g.ports g.ports.length / 2+1=g.ports.length):Ret Tryz.prog 9 [g.v] (.bool true):=by
 have h1:=Q9R g hs (J0j hgc).1;have h2:=Q91 g hs;rw[hgc] at h2;obtain⟨f1,f2,f3,f4,f5,f6,f7⟩:=J0a (J0j hgc).1;refine J0f rfl ?_;refine J0b mixed Tryz.func9 rfl hc9 hr9 rfl ?_
 repeat' ((conv=>whnf);first|(refine Br.tt ?_)|(refine Br.dec ?_ ?_<;>intro _<;>try omega)|(refine Ar.q ?_)|(refine h1.go ?_)|(refine h2.go ?_))
 all_goals (conv=>whnf)
 all_goals first
  | exact VLe.rfl
  | (refine VLe.bool ?_;symm;exact decide_eq_true (by omega))
  | (exfalso;omega)
def apE (p:Ps) (e:Ed):Ps:=(p.set e.a (gR p e.a++[((e.b:Int),e.w)])).set e.b (gR p e.b++[((e.a:Int),e.w)])
def Q8X (p:Ps) (l:List Ed):Ps:=l.foldl apE p
noncomputable def spE (g:G):List Ed:=(J0q g).filter (chE g)
noncomputable def J0x (g:G) (k:Nat):Ps:=Q8X (List.replicate g.ports.length []) ((spE g).take k)
noncomputable def tG (g:G):G:=⟨g.ids,J0x g (spE g).length⟩
def atE (v:Nat) (e:Ed):Option (Int×Int):=if e.a=v then some ((e.b:Int),e.w) else if e.b=v then some ((e.a:Int),e.w) else none
theorem J9B (p:Ps) (e:Ed):(apE p e).length=p.length:=by simp[apE]
theorem Q3s:∀(l:List Ed) (p:Ps),(Q8X p l).length=p.length
 | [],_=>rfl
 | e::l,p=>by
   show(Q8X (apE p e) l).length=_;rw[Q3s l,J9B]
theorem Q8J {p:Ps} {e:Ed} (ha:e.a<p.length) (hb:e.b<p.length) (hab:e.a≠e.b) (v:Nat):gR (apE p e) v=gR p v++(atE v e).toList:=by
 rw[apE,J2F _ _ _ (by rw[List.length_set];exact hb),J2F _ _ _ ha,atE];by_cases q:v=e.b
 . subst q;rw[if_pos rfl,if_neg hab,if_pos rfl];rfl
 . rw[if_neg q];by_cases q2:v=e.a
   . subst q2;rw[if_pos rfl,if_pos rfl];rfl
   . rw[if_neg q2,if_neg (fun z=>q2 z.symm),if_neg (fun z=>q z.symm)];simp
theorem Q3r:∀(l:List Ed) (p:Ps),(∀e∈l,e.a<p.length/\e.b<p.length/\e.a≠e.b)->∀v,gR (Q8X p l) v=gR p v++l.filterMap (atE v)
 | [],p,_,v=>by simp[Q8X]
 | e::l,p,h,v=>by
   obtain⟨h1,h2,h3⟩:=h e (by simp);show gR (Q8X (apE p e) l) v=_;rw[Q3r l (apE p e) (fun f hf=>by rw[J9B];exact h f (by simp[hf])),Q8J h1 h2 h3,List.append_assoc];congr 1;rw[List.filterMap_cons];cases atE v e<;>rfl
theorem Q2O (g:G):(spE g).map (fun e=>(e.a,e.b))=J1Q g:=J3Z g
theorem Q52 (g:G):(spE g).length=(J1Q g).length:=by rw[<- Q2O,List.length_map]
theorem J4t {g:G} (hg:g.valid=true) {e:Ed}:e∈spE g↔e.a<e.b/\J1S g e.a e.b e.w/\chE g e=true:=by
 rw[spE,List.mem_filter,J1m hg,and_assoc]
theorem Q51 (g:G):(spE g).Nodup:=by
 rw[List.nodup_iff_pairwise_ne,spE];exact((J2V g).imp fun {e f} hl q=>by subst q;exact Q4N _ _ hl hl).filter _
theorem Q1E {g:G} (hg:g.valid=true) {e:Ed} (he:e∈spE g):e.a<g.ports.length/\e.b<g.ports.length/\e.a≠e.b:=by
 obtain⟨f1,f2,f3,f4,f5,f6,f7⟩:=J0a hg;obtain⟨h1,h2,_⟩:=(J4t hg).1 he;have:=h2.lu;have:=h2.lv;omega
theorem X69 {g:G} (hg:g.valid=true) {a b:Nat} {w x:Int} (h:J1S g a b w) (h':J1S g a b x):w=x:=by
 obtain⟨f1,f2,f3,f4,f5,f6,f7⟩:=J0a hg;have:=J43 (J0n.1 (f6 a (by rw[f3];exact h.lu))).2 h.mem h'.mem rfl;exact congrArg Prod.snd this
theorem Q7R {g:G} (hg:g.valid=true) {a b:Nat} {w:Int} (h:J1S g a b w):a≠b/\1<=w/\w<=15:=by
 obtain⟨f1,f2,f3,f4,f5,f6,f7⟩:=J0a hg;have:=(J0n.1 (f6 a (by rw[f3];exact h.lu))).1 _ h.mem;simp only at this;omega
theorem Q7Q {g:G} (hg:g.valid=true) {a b:Nat} {w:Int} (h:J1S g a b w):∃jj:Nat,jj<(gR g.ports a).length/\J5k (gR g.ports a) (b:Int)=(jj:Int)/\gF (gR g.ports a) jj=((b:Int),w):=by
 obtain⟨f1,f2,f3,f4,f5,f6,f7⟩:=J0a hg;rcases J4v (gR g.ports a) (b:Int) with ⟨_,q⟩ | ⟨j,h1,h2,h3⟩
 . exact(q _ h.mem rfl).elim
 . exact⟨j,h1,h2,J43 (J0n.1 (f6 a (by rw[f3];exact h.lu))).2 (J02 h1) h.mem h3⟩
theorem J6C (g:G) (k:Nat):(J0x g k).length=g.ports.length:=by rw[J0x,Q3s,List.length_replicate]
theorem Q4r {g:G} {k:Nat} (hk:k<(spE g).length):J0x g (k+1)=apE (J0x g k) ((spE g)[k]):=by
 rw[J0x,J0x,Q8X,Q8X,List.take_succ_eq_append_getElem hk,List.foldl_append];rfl
theorem J6B {g:G} (hg:g.valid=true) (k v:Nat):gR (J0x g k) v=((spE g).take k).filterMap (atE v):=by
 rw[J0x,Q3r _ _ (fun e he=>by rw[List.length_replicate];exact Q1E hg (List.mem_of_mem_take he)),J5i];rfl
theorem Q2I {g:G} (hg:g.valid=true) (k v:Nat):(gR (J0x g k) v).length<=(spE g).length:=by
 rw[J6B hg];exact Nat.le_trans (List.length_filterMap_le _ _) (by rw[List.length_take];omega)
theorem X1N {g:G} (hg:g.valid=true) (v:Nat):gR (tG g).ports v=(spE g).filterMap (atE v):=by
 show gR (J0x g _) v=_;rw[J6B hg,List.take_length]
theorem Q5V {g:G} (hg:g.valid=true) {v:Nat} {l:Int×Int}:l∈gR (tG g).ports v↔∃e∈spE g,atE v e=some l:=by
 rw[X1N hg,List.mem_filterMap]
theorem J8W (g:G):(tG g).ports.length=g.ports.length:=J6C g _
theorem Q1B {g:G} (hg:g.valid=true) {v:Nat} {l:Int×Int} (h:l∈gR (tG g).ports v):∃u:Nat,l.1=(u:Int)/\J1S g v u l.2/\(v<u->chE g ⟨v,u,l.2⟩=true)/\(u<v->chE g ⟨u,v,l.2⟩=true):=by
 obtain⟨e,he,q⟩:=(Q5V hg).1 h;obtain⟨h1,h2,h3⟩:=(J4t hg).1 he;obtain⟨a,b,w⟩:=e;simp only[atE] at q h1 h2;split at q
 . rename_i z;subst z;cases q;exact⟨b,rfl,h2,fun _=>h3,fun z=>by omega⟩
 . split at q
   . rename_i z;subst z;cases q;exact⟨a,rfl,h2.symm hg,fun z=>by omega,fun _=>h3⟩
   . cases q
theorem X5X {g:G} (hg:g.valid=true) {v u:Nat} {w:Int} (h:J1S g v u w) (h1:v<u->chE g ⟨v,u,w⟩=true) (h2:u<v->chE g ⟨u,v,w⟩=true):((u:Int),w)∈gR (tG g).ports v:=by
 have hne:=(Q7R hg h).1;rcases Nat.lt_or_gt_of_ne hne with q|q
 . exact(Q5V hg).2 ⟨⟨v,u,w⟩,(J4t hg).2 ⟨q,h,h1 q⟩,by simp[atE]⟩
 . exact(Q5V hg).2 ⟨⟨u,v,w⟩,(J4t hg).2 ⟨q,h.symm hg,h2 q⟩,by show atE v ⟨u,v,w⟩=_;rw[atE,if_neg (fun z=>hne z.symm),if_pos rfl]⟩
theorem Q9y {g:G} (hg:g.valid=true):(tG g).valid=true:=by
 obtain⟨f1,f2,f3,f4,f5,f6,f7⟩:=J0a hg;have h2:=J8W g;simp only[G.valid,Bool.and_eq_true,decide_eq_true_eq,J1q];refine⟨⟨f1,f2,h2.trans f3⟩,(J1v _).2 ⟨f4,f5⟩,J1M.2 fun v hv=>?_,J3K.2 fun v hv l hl=>?_⟩
 . rw[J0n];refine⟨fun l hl=>?_,?_⟩
   . obtain⟨u,e1,e2,_,_⟩:=Q1B hg hl;have:=Q7R hg e2;have:=e2.lv;rw[h2,e1];omega
   . rw[X1N hg,List.nodup_iff_pairwise_ne,List.pairwise_map,List.pairwise_filterMap];refine List.Pairwise.imp_of_mem (fun {e f} he hf hne x hx y hy q=>hne ?_) (List.nodup_iff_pairwise_ne.1 (Q51 g));obtain⟨a1,a2,a3⟩:=(J4t hg).1 he;obtain⟨b1,b2,b3⟩:=(J4t hg).1 hf;obtain⟨a,b,w⟩:=e;obtain⟨c,d,z⟩:=f;simp only at a1 a2 b1 b2;have key:a=c/\b=d:=by
      simp only[atE] at hx hy;split at hx
      . cases hx;split at hy
        . cases hy;simp only at q;omega
        . split at hy
          . cases hy;simp only at q;omega
          . cases hy
      . split at hx
        . cases hx;split at hy
          . cases hy;simp only at q;omega
          . split at hy
            . cases hy;simp only at q;omega
            . cases hy
        . cases hx
     obtain⟨rfl,rfl⟩:=key;rw[X69 hg a2 b2]
 . obtain⟨u,e1,e2,e3,e4⟩:=Q1B hg hl;rw[e1,Int.toNat_natCast];exact X5X hg (e2.symm hg) e4 e3
theorem X1O {g:G} (hg:g.valid=true):HSp g (tG g):=by
 refine⟨rfl,fun a b w=>⟨fun h=>?_,fun⟨h,h1,h2⟩=>⟨h.lu,h.lv,X5X hg h h1 h2⟩⟩⟩;obtain⟨u,e1,e2,e3,e4⟩:=Q1B hg h.mem;simp only at e1 e2 e3 e4;obtain rfl:b=u:=by omega
 exact⟨e2,e3,e4⟩
theorem X3q {g:G} (hgc:g.conn=true):(tG g).conn=true:=by
 obtain⟨hg,_⟩:=J0j hgc;obtain⟨f1,f2,f3,f4,f5,f6,f7⟩:=J0a hg;have hv:=Q9y hg;have hF:=J7v hv;have hu:=J9S hv;have h2:=J8W g;have hi:(tG g).ids.length=g.ids.length:=rfl;have key:∀{v},Jn (tG g) 16 0 v->0<=gI (dst (tG g) 0) v:=fun {v} h=>Jn.cases' hv (p:=fun v=>0<=gI (dst (tG g) 0) v) h (by rw[hF.from_];exact Int.le_refl 0) fun u v k he hk _ ih=>by
  have hs:=he.symm hv;have:=(hF.on u (by rw[h2,f3,<- hi];exact hs.lu) ih _ hs.mem).1;simpa only[Int.toNat_natCast] using this
 rw[G.conn,hv,Bool.true_and,J5o.2 (fun x hx=>?_)]
 . rfl
 . obtain⟨i,hi2,e⟩:=List.mem_iff_getElem.1 hx;rw[J3z,h2] at hi2;have:=key ((Q7k hg hv (X1O hg) 16 0 i).2 (X2k hgc (v:=i) (by omega)));rw[<- e];simpa[gI,List.getD,J3z,h2,hi2] using this
theorem Q0l {p:Ps} {e:Ed} (ha:e.a<p.length) (hb:e.b<p.length) (hab:e.a≠e.b):∀k,J1k (apE p e) k=J1k p k+(if e.a<k then 1 else 0)+(if e.b<k then 1 else 0)
 | 0=>rfl
 | k+1=>by
   have ih:=Q0l ha hb hab k;have e1:J1k (apE p e) (k+1)=J1k (apE p e) k+(gR (apE p e) k).length:=rfl;have e2:J1k p (k+1)=J1k p k+(gR p k).length:=rfl;rw[e1,e2,ih,Q8J ha hb hab,List.length_append,atE];by_cases q:e.a=k
   . rw[if_pos q];simp only[Option.toList_some,List.length_singleton]
     repeat' split
     all_goals omega
   . rw[if_neg q];by_cases q2:e.b=k
     . rw[if_pos q2];simp only[Option.toList_some,List.length_singleton]
       repeat' split
       all_goals omega
     . rw[if_neg q2];simp only[Option.toList_none,List.length_nil]
       repeat' split
       all_goals omega
theorem J8i:∀(l:List Ed) (p:Ps),(∀e∈l,e.a<p.length/\e.b<p.length/\e.a≠e.b)->J1k (Q8X p l) p.length=J1k p p.length+2*l.length
 | [],p,_=>rfl
 | e::l,p,h=>by
   obtain⟨h1,h2,h3⟩:=h e (by simp);have ih:=J8i l (apE p e) (fun f hf=>by rw[J9B];exact h f (by simp[hf]));rw[J9B,Q0l h1 h2 h3,if_pos h1,if_pos h2] at ih;show J1k (Q8X (apE p e) l) p.length=_;rw[ih,List.length_cons];omega
theorem J8h (n:Nat):∀k,J1k (List.replicate n []) k=0
 | 0=>rfl
 | k+1=>by
   show J1k (List.replicate n []) k+(gR (List.replicate n []) k).length=0;rw[J8h n k,J5i];rfl
theorem Q9z {g:G} (hg:g.valid=true):J1k (tG g).ports (tG g).ports.length=2*(spE g).length:=by
 have h:=J8i ((spE g).take (spE g).length) (List.replicate g.ports.length []) (fun e he=>by rw[List.length_replicate];exact Q1E hg (List.mem_of_mem_take he));rw[List.length_replicate,J8h,List.take_length] at h;rw[J8W];show J1k (J0x g _) _=_;rw[J0x,List.take_length,h];omega
theorem X3p {g:G} (hgc:g.conn=true) (hd:X7I g):J1k (tG g).ports (tG g).ports.length / 2+1=(tG g).ports.length:=by
 obtain⟨hg,_⟩:=J0j hgc;obtain⟨f1,f2,f3,f4,f5,f6,f7⟩:=J0a hg;have:=X1Q hgc hd;rw[Q9z hg,J8W,f3,Q52];omega
end Go.Proofs.YtefdkgkojlflaaaGreatDoor
namespace Go.Eng
theorem Q2R {P:Program} {N:Nat} {bk:BK} {s:SC} {env:Env} {own own':Own} {ks:List Nat} {K:Out->Prop} {v v':V} (keys:List Nat) (t:Nat) (ht:look env t=some v) (hf:bor (J1C keys own) v fun v1=>v1=v') (ho:J1s keys own=own')
 (h:Q82 P N bk s ((t,v')::env) own' ks K):Q82 P N bk s env own ks K:=by
 constructor;intro c hc B σb M w σ a hr hbk hle sim;obtain⟨v1,rfl,hb⟩:=J49 hf;subst ho;have hh:=sim.heap;have hd:=sim.env t v ht;obtain⟨f1,f2⟩:=J4c hh keys;have tr:Tr M w σ own (J4j M w σ (J1C keys own)) w σ (J1s keys own):=⟨⟨rfl,.refl _,rfl,Nat.le_refl _,fun _ _ _=>rfl,fun b _ hn=>f2 b hn⟩,fun b ⟨k,c,h1,h2⟩=>.inl ⟨k,c,(J0E.1 h1).1,h2⟩,Sg.le_refl _⟩;have hd':=(hb M w σ _ (J40 hh _) hd).mono (M':=J4j M w σ (J1C keys own)) (w':=w) ⟨fun _ _ h=>⟨h,rfl⟩,Nat.le_refl _⟩ (Sg.none_le σ);have hE:Ext M w (J4j M w σ (J1C keys own)) w:=J36 _ _ _ _;have tr0:Tr0 M w σ own (J4j M w σ (J1C keys own)) w σ (J1s keys own):=⟨tr.adv,tr.new⟩;have sim':Sim N B (J4j M w σ (J1C keys own)) w σ ⟨(t,v1)::env,J1s keys own,ks⟩ a:=⟨fun t' v'' hv=>by
  by_cases e:t=t'
  . subst e;rw[J0m rfl] at hv;cases hv;exact hd'
  . rw[J0k e] at hv;exact(sim.env t' v'' hv).mono hE (Sg.le_refl _),f1,sim.size,sim.defers.tr0 tr0⟩
 exact wpIn_mono (h.out c hc B σb _ w σ a hr hbk hle sim') fun e a w h=>XP.tr tr0 ⟨fun _ h=>h,fun _ h _=>h,fun k hk=>.inl (by
  obtain⟨⟨q,c⟩,h1,h2⟩:=List.mem_map.1 hk;exact List.mem_map.2 ⟨_,(J0E.1 h1).1,h2⟩)⟩ h
end Go.Eng
namespace Go.Proofs.YtefdkgkojlflaaaGreatDoor
open Go.Eng
set_option maxRecDepth 100000
set_option linter.unusedVariables false
def opI (g:G) (v i:Nat):List (Nat×Nat):=if i<(gR g.ports v).length then[(toV g v i,5),(v,4)] else[(v,4)]
def bkB (g:G) (v i:Nat):Blk:=if i<(gR g.ports v).length then .vec (J1g g.ports (toV g v i)) 2 (J1p (reG g (prL g v i)).ports (toV g v i)) else .vec 0 1 fun _ _=>.nilslice
theorem ksT {a b chg:List Nat} (h:(a.all fun k=>J09 k b)=true):∀k,k∈a->k∈b\/k∈chg:=fun k hk=>.inl (J0o.1 (List.all_eq_true.1 h k hk))
theorem ksX {c:List Nat} {q:Nat} {chg:List Nat} (h:J09 q chg=true):∀k,k∈(q::c)->k∈c\/k∈chg:=fun k hk=>by
 rcases List.mem_cons.1 hk with e|e
 . exact .inr (by rw[e];exact J0o.1 h)
 . exact .inl e
theorem ksY {c:List Nat} {q r:Nat} {chg:List Nat} (h:(J09 q chg&&J09 r chg)=true):∀k,k∈(q::r::c)->k∈c\/k∈chg:=fun k hk=>by
 rw[Bool.and_eq_true] at h;rcases List.mem_cons.1 hk with e|e
 . exact .inr (by rw[e];exact J0o.1 h.1)
 . rcases List.mem_cons.1 e with e|e
   . exact .inr (by rw[e];exact J0o.1 h.2)
   . exact .inl e
noncomputable def opT (R:G) (i:Nat):List (Nat×Nat):=if i<(spE R).length then[((gE (spE R) i).b,7),((gE (spE R) i).a,6)] else[]
noncomputable def X7q (R:G) (i:Nat):Blk:=if i<(spE R).length then .vec (J1g (J0x R i) (gE (spE R) i).a) 2 (J1p (J0x R i) (gE (spE R) i).a) else .vec 0 1 fun _ _=>.nilslice
noncomputable def X7p (R:G) (i:Nat):Blk:=if i<(spE R).length then .vec (J1g (J0x R i) (gE (spE R) i).b) 2 (J1p (J0x R i) (gE (spE R) i).b) else .vec 0 1 fun _ _=>.nilslice
theorem X61 {L:List Ed} {i:Nat} (h:i<L.length):gE L i∈L:=by rw[<- J3x h];exact List.getElem_mem h
theorem X4Y {own:Own} {k n s a b qa qb ma mb:Nat} {len:Nat->Nat} {f:Nat->Nat->Nat->V} {fa fb:Nat->Nat->V} (hab:a≠b) (ha:a<n) (hb:b<n) (hk:Go.Eng.look own k=some (.fam n s len f [(b,qb),(a,qa)]))
 (hqa:Go.Eng.look own qa=some (.vec ma s fa)) (hqb:Go.Eng.look (J1s [qa] (J2i own k (.fam n s len (J2j f a fa) [(b,qb)]))) qb=some (.vec mb s fb)) (hk2:Go.Eng.look (J1s [qa] (J2i own k (.fam n s len (J2j f a fa) [(b,qb)]))) k=some (.fam n s len (J2j f a fa) [(b,qb)]))
 (h1:len a<=ma) (h2:len b<=mb) :
 J2e own (J1s [qb] (J2i (J1s [qa] (J2i own k (.fam n s len (J2j f a fa) [(b,qb)]))) k (.fam n s len (J2j (J2j f a fa) b fb) []))):=by
 refine(J1V [(b,qb)] hk hqa ha ((J0k (fun e=>hab e.symm)).trans (J0m rfl)) h1 (J0k (fun e=>hab e.symm)) (fun j hj=>?_)).trans (J1V [] hk2 hqb hb (J0m rfl) h2 rfl (fun j hj=>?_))
 . by_cases e:b=j
   . rw[J0m e,J0m e]
   . rw[J0k e,J0k e,J0k (fun e=>hj e.symm)]
 . rw[J0k (fun e=>hj e.symm)]
theorem J9V {R:G} {n i:Nat} {e:Ed} (hn:(J0x R i).length=n) (hnx:J0x R (i+1)=apE (J0x R i) e) (ha:e.a<n) (hb:e.b<n) (hab:e.a≠e.b) {a' b' w':Int} (h1:a'=(e.a:Int)) (h2:b'=(e.b:Int)) (h3:w'=e.w) (ρ:Rn) :
 X21 ρ (.fam n 2 (J3r (J3r (J1g (J0x R i)) e.a (J1g (J0x R i) e.a+1)) e.b (J1g (J0x R i) e.b+1)) (J2j (J2j (J1p (J0x R i)) e.a (J4o (J0h 0 (J1p (J0x R i) e.a)) (J1g (J0x R i) e.a) (J0h 0 (tab [[.int .i64 b',.int .i64 w']])))) e.b (J4o (J0h 0 (J1p (J0x R i) e.b)) (J1g (J0x R i) e.b) (J0h 0 (tab [[.int .i64 a',.int .i64 w']])))) []) (.fam n 2 (J1g (J0x R (i+1))) (J1p (J0x R (i+1))) []):=by
 subst hn h1 h2 h3;rw[hnx,apE];have h:=J8Z (A:=gR (J0x R i) e.a++[((e.b:Int),e.w)]) (B:=gR (J0x R i) e.b++[((e.a:Int),e.w)]) (la:=J1g (J0x R i) e.a+1) (lb:=J1g (J0x R i) e.b+1) ha hb hab (by simp[J1g]) (by simp[J1g]) (fun j t hj ht=>J54 (gR (J0x R i) e.a) (e.b:Int) e.w j t hj ht) (fun j t hj ht=>J54 (gR (J0x R i) e.b) (e.a:Int) e.w j t hj ht) ρ;simp only[X2s,List.length_set] at h;exact h
theorem Q5F (R:G) (n:Nat) (hn:(J0x R (spE R).length).length=n) (hi:R.ids.length=n) {I:Nat->Nat->V} (hI:∀a b,I a b=vI R.ids a b):VLe (V.agg [.fz n 1 false (J0h 0 I),.fz n 1 false fun i _=>.fz (J1g (J0x R (spE R).length) i) 2 false (J1p (J0x R (spE R).length) i)]) (tG R).v:=by
 subst hn;refine VLe.agg ⟨VLe.fz hi.symm (fun h=>h) (fun i j hi hj=>VLe.of_eq ?_),VLe.rfl,True.intro⟩;rw[J0D,Nat.zero_add,hI];rfl
theorem J9W {R:G} (hR:R.valid=true) {n:Nat} {f:Nat->Nat->V} (hf:∀i,f i 0=.nilslice) (ρ:Rn):X21 ρ (.vec n 1 f) (.fam n 2 (J1g (J0x R 0)) (J1p (J0x R 0)) []):=⟨by simp,rfl,rfl,fun i hi=>⟨hf i,by rw[J1g,J6B hR];rfl⟩⟩
theorem X8f {R:G} {i:Nat} (h:i<(spE R).length):(J1Q R).getD i (0,0)=((gE (spE R) i).a,(gE (spE R) i).b):=by
 rw[<- Q2O,<- J3x h];simp[List.getD,h]
theorem J86 (g:G):prL g 0 0=[]:=by rw[prL,Q0h];rfl
theorem Q6u (g:G) (v:Nat):prL g v (gR g.ports v).length=prL g (v+1) 0:=by rw[prL,prL,J83]
theorem Q9T {g:G} (hg:g.valid=true) (i j t:Nat):VLe (J1p g.ports i j t) (J1p (reG g (prL g 0 0)).ports i j t):=by
 rw[J86,X59 g (J0a hg).2.2.1];exact VLe.rfl
set_option maxHeartbeats 16000000 in
theorem Q7c (x:Net) (hx:x.Small):RG 3 [x.v] (.bool true):=by
 have h0:=J4p x hx 7 (by omega) (by omega);have hgc:=X1f x (most:=7) (by omega) (by omega);have hsz:=J8X x (most:=7) (by omega);have hcl:=J5y x 7;generalize x.con 7=g at *;generalize x.size 7=n at *;obtain rfl:n=g.ports.length:=hcl.2.symm;obtain⟨hg,_⟩:=J0j hgc;obtain⟨f1,f2,f3,f4,f5,f6,f7⟩:=J0a hg;have hs:=J3p hg;have hk:=Q4V;refine J3s rfl ?_;refine Q36 Tryz.func3 rfl hc3 hr3 rfl ?_;refine J1B (J15 mixed ?_)
 repeat' ((conv=>whnf);first|fail)
 all_goals (conv=>whnf)
 refine J1B (J15 mixed ?_)
 repeat' ((conv=>whnf);first|(refine J2b [] [0,1] (h0.mono ?_) ⟨J0c.kf rfl,J0c.kf rfl,True.intro⟩ True.intro rfl;rintro _ _ _ ⟨rfl,rfl⟩)|(refine Chk.mk rfl ?_))
 all_goals (conv=>whnf)
 refine J1B (J15 mixed ?_)
 repeat' ((conv=>whnf);first|fail)
 all_goals (conv=>whnf)
 refine J1B (J15 mixed ?_)
 repeat' ((conv=>whnf);first|fail)
 all_goals (conv=>whnf)
 refine J1B (J15 mixed ?_)
 repeat' ((conv=>whnf);first|fail)
 all_goals (conv=>whnf)
 refine J0N mixed [] [] [4,5,6,7,8,9,10,11,12,13,14,15,16,17,18,19,20,21,22,23,24,25,26,27,28,29] [3,1,2,0,999] (fun v:Nat=>[(6,.int .i64 v),(5,.int .i64 (1+((prL g v 0).length:Int))),(3,.loc 3 0),(4,.int .i64 g.ports.length)]) (fun _ v=>[(3,.cells [.vec 1 1 0 g.ports.length,.vec 2 1 0 g.ports.length]),(1,.vec g.ids.length 1 (vI g.ids)),(2,.fam g.ports.length 2 (J1g g.ports) (J1p (reG g (prL g v 0)).ports) ([])),(0,.cells [.int .i64 x.n,.fz x.links.length 1 false (vI x.links),.fz x.weights.length 1 false (vI x.weights),.fz x.ids.length 1 false (vI x.ids),.bool x.apart,.bool x.back]),(999,.glob 0 32 tzF)]) (fun m v=>m=g.ports.length-v/\v<=g.ports.length/\(prL g v 0).length<=15) g.ports.length 0 ⟨rfl,Nat.zero_le _,by rw[J86];exact Nat.zero_le _⟩ rfl (fun _=>rfl) ?_ ?_
 . refine J0e (fun _ _=>[(0,some 0),(1,some 1),(2,some 2),(3,some 3),(999,some 999)]) ?_ ?_ rfl
   . repeat' (first|exact J0c.int (by rw[J86];rfl)|exact tI|(refine⟨⟨_,rfl,?_⟩,?_⟩)|exact J0c.kf rfl|exact J0c.loc rfl)
   . repeat' (first|exact⟨rfl,rfl,True.intro,fun i hi=>rfl,fun i j t hi hn hj ht=>Q9T hg i j t⟩|exact tI|exact⟨rfl,rfl,rfl⟩|(refine⟨⟨_,rfl,?_⟩,?_⟩)|exact J0c.kf rfl|exact J0c.q|(refine⟨Nat.le_refl _,rfl,fun i j hi hj=>?_⟩)|exact VLe.rfl|apply And.intro)
 rintro m v ⟨hm,hv,hl15⟩;by_cases hvn:v<g.ports.length
 . have hrow:=J2k hg v
   repeat' ((conv=>whnf);first|(refine Br.dec ?_ ?_<;>intro _<;>try omega))
   all_goals (conv=>whnf)
   refine J0N mixed [] [4,5] [6,7,8,9,10,11,12,13,14,15,16,17,18,19,20,21,22,23,24,25,26,27,28,29] [5,4,3,1,2,0,999] (fun i:Nat=>[(7,.int .i64 i),(6,.int .i64 v),(5,.int .i64 (1+((prL g v i).length:Int))),(3,.loc 3 0),(4,.int .i64 g.ports.length)]) (fun _ i=>[(5,bkB g v (i)),(4,.vec (J1g g.ports v) 2 (J1p (reG g (prL g v (i))).ports v)),(3,.cells [.vec 1 1 0 g.ports.length,.vec 2 1 0 g.ports.length]),(1,.vec g.ids.length 1 (vI g.ids)),(2,.fam g.ports.length 2 (J1g g.ports) (J1p (reG g (prL g v (i))).ports) (opI g v (i))),(0,.cells [.int .i64 x.n,.fz x.links.length 1 false (vI x.links),.fz x.weights.length 1 false (vI x.weights),.fz x.ids.length 1 false (vI x.ids),.bool x.apart,.bool x.back]),(999,.glob 0 32 tzF)]) (fun m i=>m=(gR g.ports v).length-i/\i<=(gR g.ports v).length/\(prL g v i).length<=15) (gR g.ports v).length 0 ⟨rfl,Nat.zero_le _,hl15⟩ rfl (fun _=>rfl) ?_ ?_
   . by_cases h0l:0<(gR g.ports v).length
     . simp only[bkB,opI,if_pos h0l];refine J3C.trans ?_ (J3C.trans (J1e (own:=[(3,.cells [.vec 1 1 0 g.ports.length,.vec 2 1 0 g.ports.length]),(1,.vec g.ids.length 1 (vI g.ids)),(2,.fam g.ports.length 2 (J1g g.ports) (J1p (reG g (prL g v (0))).ports) ([])),(0,.cells [.int .i64 x.n,.fz x.links.length 1 false (vI x.links),.fz x.weights.length 1 false (vI x.weights),.fz x.ids.length 1 false (vI x.ids),.bool x.apart,.bool x.back]),(999,.glob 0 32 tzF)]) (len:=J1g g.ports) (f:=J1p (reG g (prL g v (0))).ports) (q:=4) (k:=2) (i:=v) (ks:=[4,5,6,7,8,9,10,11,12,13,14,15,16,17,18,19,20,21,22,23,24,25,26,27,28,29]) rfl rfl rfl hvn rfl) (J1e (own:=[(4,.vec (J1g g.ports v) 2 (J1p (reG g (prL g v (0))).ports v)),(3,.cells [.vec 1 1 0 g.ports.length,.vec 2 1 0 g.ports.length]),(1,.vec g.ids.length 1 (vI g.ids)),(2,.fam g.ports.length 2 (J1g g.ports) (J1p (reG g (prL g v (0))).ports) ([(v,4)])),(0,.cells [.int .i64 x.n,.fz x.links.length 1 false (vI x.links),.fz x.weights.length 1 false (vI x.weights),.fz x.ids.length 1 false (vI x.ids),.bool x.apart,.bool x.back]),(999,.glob 0 32 tzF)]) (len:=J1g g.ports) (f:=J1p (reG g (prL g v (0))).ports) (q:=5) (k:=2) (i:=toV g v (0)) (ks:=[5,6,7,8,9,10,11,12,13,14,15,16,17,18,19,20,21,22,23,24,25,26,27,28,29]) rfl rfl rfl (J4O hg hvn h0l).1 (J6Y (J4O hg hvn h0l).2)) (ksX rfl)) (ksY rfl);refine J0e (fun _ _=>[(0,some 0),(1,some 1),(2,some 2),(3,some 3),(999,some 999)]) ?_ ?_ rfl
       . repeat' (first|exact tI|(refine⟨⟨_,rfl,?_⟩,?_⟩)|exact J0c.kf rfl|exact J0c.loc rfl)
       . repeat' (first|exact⟨rfl,rfl,True.intro,fun i hi=>rfl,fun i j t hi hn hj ht=>VLe.rfl⟩|exact tI|exact⟨rfl,rfl,rfl⟩|(refine⟨⟨_,rfl,?_⟩,?_⟩)|exact J0c.kf rfl|exact J0c.q|(refine⟨Nat.le_refl _,rfl,fun i j hi hj=>?_⟩)|exact VLe.rfl|apply And.intro)
     . simp only[bkB,opI,if_neg h0l];refine J3C.trans ?_ (J3C.trans (J1e (env:=[(7,.int .i64 (0:Nat)),(6,.int .i64 v),(5,.int .i64 (1+((prL g v 0).length:Int))),(3,.loc 3 0),(4,.int .i64 g.ports.length)]) (own:=[(3,.cells [.vec 1 1 0 g.ports.length,.vec 2 1 0 g.ports.length]),(1,.vec g.ids.length 1 (vI g.ids)),(2,.fam g.ports.length 2 (J1g g.ports) (J1p (reG g (prL g v (0))).ports) ([])),(0,.cells [.int .i64 x.n,.fz x.links.length 1 false (vI x.links),.fz x.weights.length 1 false (vI x.weights),.fz x.ids.length 1 false (vI x.ids),.bool x.apart,.bool x.back]),(999,.glob 0 32 tzF)]) (len:=J1g g.ports) (f:=J1p (reG g (prL g v (0))).ports) (q:=4) (k:=2) (i:=v) (ks:=[4,5,6,7,8,9,10,11,12,13,14,15,16,17,18,19,20,21,22,23,24,25,26,27,28,29]) rfl rfl rfl hvn rfl) ?_ (ksX rfl)) (ksY rfl)
       . refine J0e (fun _ _=>[(0,some 0),(1,some 1),(2,some 2),(3,some 3),(999,some 999)]) ?_ ?_ rfl
         . repeat' (first|exact tI|(refine⟨⟨_,rfl,?_⟩,?_⟩)|exact J0c.kf rfl|exact J0c.loc rfl)
         . repeat' (first|exact⟨rfl,rfl,True.intro,fun i hi=>rfl,fun i j t hi hn hj ht=>VLe.rfl⟩|exact tI|exact⟨rfl,rfl,rfl⟩|(refine⟨⟨_,rfl,?_⟩,?_⟩)|exact J0c.kf rfl|exact J0c.q|(refine⟨Nat.le_refl _,rfl,fun i j hi hj=>?_⟩)|exact VLe.rfl|apply And.intro)
       . refine J0e (fun _ _=>[(0,some 0),(1,some 1),(2,some 2),(3,some 3),(4,some 4),(5,none),(999,some 999)]) ?_ ?_ rfl
         . repeat' (first|exact tI|(refine⟨⟨_,rfl,?_⟩,?_⟩)|exact J0c.kf rfl|exact J0c.loc rfl)
         . repeat' (first|exact⟨rfl,rfl,⟨rfl,rfl,True.intro⟩,fun i hi=>rfl,fun i j t hi hn hj ht=>VLe.rfl⟩|exact tI|exact⟨rfl,rfl,rfl⟩|(refine⟨⟨_,rfl,?_⟩,?_⟩)|exact J0c.kf rfl|exact J0c.q|(refine⟨Nat.le_refl _,rfl,fun i j hi hj=>?_⟩)|exact VLe.rfl|(refine⟨⟨_,_,rfl⟩,?_⟩)|apply And.intro)
   rintro m2 i ⟨hm2,hi,hli⟩;by_cases hil:i<(gR g.ports v).length
   . have htv:=J4O hg hvn hil;have hti:=Q1A hg hvn hil;have hb1:J1g g.ports v<=24:=hrow;have hb2:J1g g.ports (toV g v i)<=24:=J2k hg _;have hil':i<J1g g.ports v:=hil;have hto:(gF (gR (reG g (prL g v i)).ports v) (0+i)).1=((toV g v i:Nat):Int):=by
      rw[Nat.zero_add,Q9Z hvn hil,reX,hti]
     simp only[bkB,opI,if_pos hil];by_cases hlt:v<toV g v i
     . by_cases h14:(prL g v i).length<=14
       . obtain⟨jj,hjl,hpj,hjb⟩:=Q6v hg hvn hil (prL g v i);have hpl:=J3t g (prL g v i);have hmr:=X33 (g:=g) (P:=(reG g (prL g v i)).ports) (i:=i) (k:=1+((prL g v i).length:Int)) (by omega) htv.2.symm;have hpo:=Q1J (Q5i g (reG g (prL g v i)).ports v i (1+((prL g v i).length:Int))) (Q6S hg _ v i _ hvn) (toV g v i) (v:Int) (by simp[Q5i,J3t];exact htv.1);rw[hmr,hpj,<- hto] at hpo;have hvw:=X0n (g:=g) (P:=(reG g (prL g v i)).ports) f3 hpl (i:=i) (u:=toV g v i) hvn (by rw[J6R];exact hil) (fun a=>J6R a) (k:=1+((prL g v i).length:Int)) htv.2.symm;have hjl':jj<J1g g.ports (toV g v i):=hjl;clear hpl hmr
         repeat' ((conv=>whnf);first|(refine Ix.mk (toV g v i) hto (by omega) ?_)|(refine Ix.mk jj rfl (by omega) ?_)|(refine Br.dec ?_ ?_<;>intro _<;>try omega)|(refine Ar.q ?_)|(refine Ix.q ?_)|(refine Ltn.q ?_)|(refine J1n hpo rfl ⟨by omega,by omega,Nat.le_refl _,Nat.le_refl _,hvw,VLe.rfl,VLe.rfl,True.intro⟩ ?_)|(refine Opn.hd (by omega) ?_)|(refine Opn.tl (by omega) (Opn.hd (by omega) ?_))|(refine And.intro rfl ?_)|(refine And.intro (Ltn.mk (by omega) (Opn.hd (by omega) rfl)) ?_))
         all_goals (conv=>whnf)
         have hnx:(prL g v (i+1)).length=(prL g v i).length+1:=by rw[J87 hg hvn hil,if_pos (by rw[hti];omega),List.length_append];rfl
         refine⟨(gR g.ports v).length-(i+1),i+1,by omega,⟨rfl,by omega,by omega⟩,?_⟩;refine J3C.trans (J27 (J1V (q:=5) (k:=2) (i:=toV g v i) [(v,4)] rfl rfl htv.1 (J0m rfl) (Nat.le_refl _) (J6Y htv.2) X11)) ?_ (fun k hk=>.inl hk);by_cases hil2:i+1<(gR g.ports v).length
         . simp only[if_pos hil2];refine J3C.trans ?_ (J1e (own:=[(4,.vec (J1g g.ports v) 2 (J1p (reG g (prL g v (i+1))).ports v)),(3,.cells [.vec 1 1 0 g.ports.length,.vec 2 1 0 g.ports.length]),(1,.vec g.ids.length 1 (vI g.ids)),(2,.fam g.ports.length 2 (J1g g.ports) (J1p (reG g (prL g v (i+1))).ports) ([(v,4)])),(0,.cells [.int .i64 x.n,.fz x.links.length 1 false (vI x.links),.fz x.weights.length 1 false (vI x.weights),.fz x.ids.length 1 false (vI x.ids),.bool x.apart,.bool x.back]),(999,.glob 0 32 tzF)]) (len:=J1g g.ports) (f:=J1p (reG g (prL g v (i+1))).ports) (q:=5) (k:=2) (i:=toV g v (i+1)) (ks:=[5,6,7,8,9,10,11,12,13,14,15,16,17,18,19,20,21,22,23,24,25,26,27,28,29]) rfl rfl rfl (J4O hg hvn hil2).1 (J6Y (J4O hg hvn hil2).2)) (ksX rfl);refine J0e (fun _ _=>[(0,some 0),(1,some 1),(2,some 2),(3,some 3),(4,some 4),(999,some 999)]) ?_ ?_ rfl
           . repeat' (first|exact J0c.int (by omega)|exact tI|(refine⟨⟨_,rfl,?_⟩,?_⟩)|exact J0c.loc rfl)
           . repeat' (first|exact⟨Nat.le_refl _,rfl,fun j t hj ht=>Q0f hg hvn hil hlt hjl hjb rfl j t hj ht⟩|exact⟨rfl,rfl,⟨rfl,rfl,True.intro⟩,fun i hi=>rfl,fun a j t ha hn hj ht=>Q0g hg hvn hil hlt hjl hjb rfl a j t (X6q hn) ha hj ht⟩|exact J0c.int (by omega)|exact tI|exact⟨rfl,rfl,rfl⟩|(refine⟨⟨_,rfl,?_⟩,?_⟩)|exact J0c.kf rfl|exact J0c.q|(refine⟨Nat.le_refl _,rfl,fun i j hi hj=>?_⟩)|exact VLe.rfl|apply And.intro)
         . simp only[if_neg hil2];refine J0e (fun _ _=>[(0,some 0),(1,some 1),(2,some 2),(3,some 3),(4,some 4),(5,none),(999,some 999)]) ?_ ?_ rfl
           . repeat' (first|exact J0c.int (by omega)|exact tI|(refine⟨⟨_,rfl,?_⟩,?_⟩)|exact J0c.loc rfl)
           . repeat' (first|exact⟨Nat.le_refl _,rfl,fun j t hj ht=>Q0f hg hvn hil hlt hjl hjb rfl j t hj ht⟩|exact⟨rfl,rfl,⟨rfl,rfl,True.intro⟩,fun i hi=>rfl,fun a j t ha hn hj ht=>Q0g hg hvn hil hlt hjl hjb rfl a j t (X6q hn) ha hj ht⟩|exact J0c.int (by omega)|exact tI|exact⟨rfl,rfl,rfl⟩|(refine⟨⟨_,rfl,?_⟩,?_⟩)|exact J0c.kf rfl|exact J0c.q|(refine⟨Nat.le_refl _,rfl,fun i j hi hj=>?_⟩)|exact VLe.rfl|(refine⟨⟨_,_,rfl⟩,?_⟩)|apply And.intro)
       . repeat' ((conv=>whnf);first|(refine Br.tt ?_)|(refine Br.dec ?_ ?_<;>intro _<;>try omega)|(refine Ix.q ?_)|(refine Ltn.q ?_)|(refine hk.go ?_)|(refine Opn.tl (by omega) (Opn.hd (by omega) ?_)))
         all_goals (conv=>whnf)
         all_goals exact VLe.rfl
     . repeat' ((conv=>whnf);first|(refine Br.dec ?_ ?_<;>intro _<;>try omega)|(refine Ar.q ?_)|(refine Ix.q ?_)|(refine Ltn.q ?_)|(refine Opn.tl (by omega) (Opn.hd (by omega) ?_)))
       all_goals (conv=>whnf)
       have hsk:=X3L hg hvn hil hlt;refine⟨(gR g.ports v).length-(i+1),i+1,by omega,⟨rfl,by omega,by rw[hsk];exact hli⟩,?_⟩;refine J3C.trans (J27 (J1V (q:=5) (k:=2) (i:=toV g v i) [(v,4)] rfl rfl htv.1 (J0m rfl) (Nat.le_refl _) (J6Y htv.2) X11)) ?_ (fun k hk=>.inl hk);rw[skF1];by_cases hil2:i+1<(gR g.ports v).length
       . simp only[if_pos hil2];refine J3C.trans ?_ (J1e (own:=[(4,.vec (J1g g.ports v) 2 (J1p (reG g (prL g v (i+1))).ports v)),(3,.cells [.vec 1 1 0 g.ports.length,.vec 2 1 0 g.ports.length]),(1,.vec g.ids.length 1 (vI g.ids)),(2,.fam g.ports.length 2 (J1g g.ports) (J1p (reG g (prL g v (i+1))).ports) ([(v,4)])),(0,.cells [.int .i64 x.n,.fz x.links.length 1 false (vI x.links),.fz x.weights.length 1 false (vI x.weights),.fz x.ids.length 1 false (vI x.ids),.bool x.apart,.bool x.back]),(999,.glob 0 32 tzF)]) (len:=J1g g.ports) (f:=J1p (reG g (prL g v (i+1))).ports) (q:=5) (k:=2) (i:=toV g v (i+1)) (ks:=[5,6,7,8,9,10,11,12,13,14,15,16,17,18,19,20,21,22,23,24,25,26,27,28,29]) rfl rfl rfl (J4O hg hvn hil2).1 (J6Y (J4O hg hvn hil2).2)) (ksX rfl);rw[hsk];refine J0e (fun _ _=>[(0,some 0),(1,some 1),(2,some 2),(3,some 3),(4,some 4),(999,some 999)]) ?_ ?_ rfl
         . repeat' (first|exact tI|(refine⟨⟨_,rfl,?_⟩,?_⟩)|exact J0c.kf rfl|exact J0c.loc rfl)
         . repeat' (first|exact⟨rfl,rfl,⟨rfl,rfl,True.intro⟩,fun i hi=>rfl,fun i j t hi hn hj ht=>VLe.rfl⟩|exact tI|exact⟨rfl,rfl,rfl⟩|(refine⟨⟨_,rfl,?_⟩,?_⟩)|exact J0c.kf rfl|exact J0c.q|(refine⟨Nat.le_refl _,rfl,fun i j hi hj=>?_⟩)|exact VLe.rfl|apply And.intro)
       . simp only[if_neg hil2];rw[hsk];refine J0e (fun _ _=>[(0,some 0),(1,some 1),(2,some 2),(3,some 3),(4,some 4),(5,none),(999,some 999)]) ?_ ?_ rfl
         . repeat' (first|exact tI|(refine⟨⟨_,rfl,?_⟩,?_⟩)|exact J0c.kf rfl|exact J0c.loc rfl)
         . repeat' (first|exact⟨rfl,rfl,⟨rfl,rfl,True.intro⟩,fun i hi=>rfl,fun i j t hi hn hj ht=>VLe.rfl⟩|exact tI|exact⟨rfl,rfl,rfl⟩|(refine⟨⟨_,rfl,?_⟩,?_⟩)|exact J0c.kf rfl|exact J0c.q|(refine⟨Nat.le_refl _,rfl,fun i j hi hj=>?_⟩)|exact VLe.rfl|(refine⟨⟨_,_,rfl⟩,?_⟩)|apply And.intro)
   . obtain rfl:i=(gR g.ports v).length:=by omega
     have hb1:J1g g.ports v<=24:=hrow;have hb2:J1g g.ports v=(gR g.ports v).length:=rfl;simp only[bkB,opI,if_neg hil]
     repeat' ((conv=>whnf);first|(refine Br.dec ?_ ?_<;>intro _<;>try omega)|(refine Ar.q ?_)|(refine Ix.q ?_)|(refine Ltn.q ?_)|(refine Opn.hd (by omega) ?_))
     all_goals (conv=>whnf)
     refine⟨g.ports.length-(v+1),v+1,by omega,⟨rfl,by omega,by rw[<- Q6u];exact hli⟩,?_⟩;dsimp only;rw[<- Q6u];refine J3C.trans (J27 (J1V (q:=4) (k:=2) (i:=v) [] rfl rfl hvn (J0m rfl) (Nat.le_refl _) rfl (fun j hj=>(J0k (fun e=>hj e.symm)).symm))) ?_ (ksT rfl);rw[skF1];refine J0e (fun _ _=>[(0,some 0),(1,some 1),(2,some 2),(3,some 3),(999,some 999)]) ?_ ?_ rfl
     . repeat' (first|exact tI|(refine⟨⟨_,rfl,?_⟩,?_⟩)|exact J0c.kf rfl|exact J0c.loc rfl)
     . repeat' (first|exact⟨rfl,rfl,True.intro,fun i hi=>rfl,fun i j t hi hn hj ht=>VLe.rfl⟩|exact tI|exact⟨rfl,rfl,rfl⟩|(refine⟨⟨_,rfl,?_⟩,?_⟩)|exact J0c.kf rfl|exact J0c.q|(refine⟨Nat.le_refl _,rfl,fun i j hi hj=>?_⟩)|exact VLe.rfl|apply And.intro)
 obtain rfl:v=g.ports.length:=by omega
 repeat' ((conv=>whnf);first|(refine Br.dec ?_ ?_<;>intro _<;>try omega))
 all_goals (conv=>whnf)
 refine Q2R [3,1,2] 3 (v':=.fe 1 2 (tab [[.fz g.ports.length 1 false (J0h 0 (vI g.ids)),.fz g.ports.length 1 false fun i _=>.fz (J1g g.ports i) 2 false (J1p (reG g (prL g g.ports.length 0)).ports i)]]) 0 0) (own':=[(0,.cells [.int .i64 x.n,.fz x.links.length 1 false (vI x.links),.fz x.weights.length 1 false (vI x.weights),.fz x.ids.length 1 false (vI x.ids),.bool x.apart,.bool x.back]),(999,.glob 0 32 tzF)]) rfl (by(conv=>whnf);exact⟨by omega,Nat.le_refl _,rfl⟩) rfl ?_;have hln:(prN g).length<=15:=hl15;have hRc:=X3O hgc hln;obtain⟨hRv,_⟩:=J0j hRc;have hRs:=J3p hRv;have hRl:(J5L (reG g (prN g))).length<=19:=by
  have:=congrArg List.length (Q6t hg);rw[List.length_map] at this;rw[Q6k hg];omega
 have hRd:=X6b hg hln;have hsn:=X1Q hRc hRd;have hsp:=Q9H (reG g (prN g)) hRs hRc hRl;have hvw:=X77 hg (prN g);have hRi:(reG g (prN g)).ids=g.ids:=rfl;rw[hRi] at hsn;change VLe (V.agg [_,.fz g.ports.length 1 false fun i _=>.fz (J1g g.ports i) 2 false (J1p (reG g (prL g g.ports.length 0)).ports i)]) _ at hvw;refine J1B (J15 mixed ?_)
 repeat' ((conv=>whnf);first|fail)
 all_goals (conv=>whnf)
 refine J11 [] hsp ⟨hvw,True.intro⟩ ?_
 repeat' ((conv=>whnf);first|fail)
 all_goals (conv=>whnf)
 refine J1B (J15 mixed ?_)
 repeat' ((conv=>whnf);first|(refine Br.ff ?_)|(refine Br.bne ?_ ?_<;>intro _<;>try omega)|(refine Ar.q ?_))
 all_goals (conv=>whnf)
 refine J1B (J15 mixed ?_)
 repeat' ((conv=>whnf);first|(refine Bd.q ?_)|(refine Len.q ?_)|(refine MkS.vec ?_))
 all_goals (conv=>whnf)
 refine J1B (J15 mixed ?_)
 repeat' ((conv=>whnf);first|fail)
 all_goals (conv=>whnf)
 have hel:(spE (reG g (prN g))).length=(J1Q (reG g (prN g))).length:=Q52 _;have hpl0:=J3t g (prN g);have hrg:∀i,i<(spE (reG g (prN g))).length->(gE (spE (reG g (prN g))) i).a<g.ports.length/\(gE (spE (reG g (prN g))) i).b<g.ports.length/\(gE (spE (reG g (prN g))) i).a≠(gE (spE (reG g (prN g))) i).b:=fun i hi=>by
  have h:=Q1E hRv (X61 hi);rw[hpl0] at h;exact h
 refine J0N mixed [] [6,7] [8,9,10,11,12,13,14,15,16,17,18,19,20,21,22,23,24,25,26,27,28,29] [7,6,5,4,0,999] (fun i:Nat=>[(12,.int .i64 ((i:Nat):Int)),(11,.loc 5 0),(9,.fz (J1Q (reG g (prN g))).length 2 false (sF (J1Q (reG g (prN g))))),(4,.int .i64 g.ports.length),(3,.fe 1 2 (tab [[.fz g.ports.length 1 false (J0h 0 (vI g.ids)),.fz g.ports.length 1 false fun i _=>.fz (J1g g.ports i) 2 false (J1p (reG g (prL g g.ports.length 0)).ports i)]]) 0 0)]) (fun _ i=>[(7,X7p (reG g (prN g)) (i)),(6,X7q (reG g (prN g)) (i)),(5,.cells [.fz g.ports.length 1 false (J0h 0 (vI g.ids)),.vec 4 1 0 g.ports.length]),(4,.fam g.ports.length 2 (J1g (J0x (reG g (prN g)) (i))) (J1p (J0x (reG g (prN g)) (i))) (opT (reG g (prN g)) (i))),(0,.cells [.int .i64 x.n,.fz x.links.length 1 false (vI x.links),.fz x.weights.length 1 false (vI x.weights),.fz x.ids.length 1 false (vI x.ids),.bool x.apart,.bool x.back]),(999,.glob 0 32 tzF)]) (fun m i=>m=(spE (reG g (prN g))).length-i/\i<=(spE (reG g (prN g))).length) (spE (reG g (prN g))).length 0 ⟨rfl,Nat.zero_le _⟩ rfl (fun _=>rfl) ?_ ?_
 . by_cases h0l:0<(spE (reG g (prN g))).length
   . have hr0:=hrg 0 h0l;simp only[X7q,X7p,opT,if_pos h0l];refine J3C.trans ?_ (J3C.trans (J1e (env:=[(12,.int .i64 ((0:Nat):Int)),(11,.loc 5 0),(9,.fz (J1Q (reG g (prN g))).length 2 false (sF (J1Q (reG g (prN g))))),(4,.int .i64 g.ports.length),(3,.fe 1 2 (tab [[.fz g.ports.length 1 false (J0h 0 (vI g.ids)),.fz g.ports.length 1 false fun i _=>.fz (J1g g.ports i) 2 false (J1p (reG g (prL g g.ports.length 0)).ports i)]]) 0 0)]) (own:=[(5,.cells [.fz g.ports.length 1 false (J0h 0 (vI g.ids)),.vec 4 1 0 g.ports.length]),(4,.fam g.ports.length 2 (J1g (J0x (reG g (prN g)) (0))) (J1p (J0x (reG g (prN g)) (0))) ([])),(0,.cells [.int .i64 x.n,.fz x.links.length 1 false (vI x.links),.fz x.weights.length 1 false (vI x.weights),.fz x.ids.length 1 false (vI x.ids),.bool x.apart,.bool x.back]),(999,.glob 0 32 tzF)]) (len:=J1g (J0x (reG g (prN g)) (0))) (f:=J1p (J0x (reG g (prN g)) (0))) (q:=6) (k:=4) (i:=(gE (spE (reG g (prN g))) (0)).a) (ks:=[6,7,8,9,10,11,12,13,14,15,16,17,18,19,20,21,22,23,24,25,26,27,28,29]) rfl rfl rfl hr0.1 rfl) (J1e (env:=[(12,.int .i64 ((0:Nat):Int)),(11,.loc 5 0),(9,.fz (J1Q (reG g (prN g))).length 2 false (sF (J1Q (reG g (prN g))))),(4,.int .i64 g.ports.length),(3,.fe 1 2 (tab [[.fz g.ports.length 1 false (J0h 0 (vI g.ids)),.fz g.ports.length 1 false fun i _=>.fz (J1g g.ports i) 2 false (J1p (reG g (prL g g.ports.length 0)).ports i)]]) 0 0)]) (own:=[(6,.vec (J1g (J0x (reG g (prN g)) (0)) (gE (spE (reG g (prN g))) (0)).a) 2 (J1p (J0x (reG g (prN g)) (0)) (gE (spE (reG g (prN g))) (0)).a)),(5,.cells [.fz g.ports.length 1 false (J0h 0 (vI g.ids)),.vec 4 1 0 g.ports.length]),(4,.fam g.ports.length 2 (J1g (J0x (reG g (prN g)) (0))) (J1p (J0x (reG g (prN g)) (0))) ([((gE (spE (reG g (prN g))) (0)).a,6)])),(0,.cells [.int .i64 x.n,.fz x.links.length 1 false (vI x.links),.fz x.weights.length 1 false (vI x.weights),.fz x.ids.length 1 false (vI x.ids),.bool x.apart,.bool x.back]),(999,.glob 0 32 tzF)]) (len:=J1g (J0x (reG g (prN g)) (0))) (f:=J1p (J0x (reG g (prN g)) (0))) (q:=7) (k:=4) (i:=(gE (spE (reG g (prN g))) (0)).b) (ks:=[7,8,9,10,11,12,13,14,15,16,17,18,19,20,21,22,23,24,25,26,27,28,29]) rfl rfl rfl hr0.2.1 (J6Y hr0.2.2)) (ksX rfl)) (ksY rfl);refine J0e (fun _ _=>[(0,some 0),(4,some 4),(5,some 5),(999,some 999)]) ?_ ?_ rfl
     . repeat' (first|exact tI|(refine⟨⟨_,rfl,?_⟩,?_⟩)|exact J0c.kf rfl|exact J0c.loc rfl)
     . repeat' (first|exact J9W hRv (fun _=>rfl) _|exact tI|exact⟨rfl,rfl,rfl⟩|(refine⟨⟨_,rfl,?_⟩,?_⟩)|exact J0c.kf rfl|exact J0c.q|apply And.intro)
   . simp only[X7q,X7p,opT,if_neg h0l];refine J0e (fun _ _=>[(0,some 0),(4,some 4),(5,some 5),(6,none),(7,none),(999,some 999)]) ?_ ?_ rfl
     . repeat' (first|exact tI|(refine⟨⟨_,rfl,?_⟩,?_⟩)|exact J0c.kf rfl|exact J0c.loc rfl)
     . repeat' (first|exact J9W hRv (fun _=>rfl) _|exact tI|exact⟨rfl,rfl,rfl⟩|(refine⟨⟨_,rfl,?_⟩,?_⟩)|exact J0c.kf rfl|exact J0c.q|(refine⟨⟨_,_,rfl⟩,?_⟩)|apply And.intro)
 rintro m i ⟨hm,hi⟩;by_cases hil:i<(spE (reG g (prN g))).length
 . obtain⟨hra,hrb,hrn⟩:=hrg i hil;obtain⟨hab,hed,hch⟩:=(J4t hRv).1 (X61 hil);obtain⟨jj,hj1,hj2,hj3⟩:=Q7Q hRv hed;have hpo:=Q1J (reG g (prN g)) hRs (gE (spE (reG g (prN g))) i).a ((gE (spE (reG g (prN g))) i).b:Int) (by omega);rw[hj2] at hpo;have hat:=X8f hil;have hs1:((J1Q (reG g (prN g))).getD i (0,0)).1=(gE (spE (reG g (prN g))) i).a:=by rw[hat]
   have hs2:((J1Q (reG g (prN g))).getD i (0,0)).2=(gE (spE (reG g (prN g))) i).b:=by rw[hat]
   have hnx:=Q4r hil;rw[J3x hil] at hnx;have hta:J1g (J0x (reG g (prN g)) i) (gE (spE (reG g (prN g))) i).a<=(spE (reG g (prN g))).length:=Q2I hRv i _;have htb:J1g (J0x (reG g (prN g)) i) (gE (spE (reG g (prN g))) i).b<=(spE (reG g (prN g))).length:=Q2I hRv i _;have hln2:(J0x (reG g (prN g)) i).length=g.ports.length:=by rw[J6C,hpl0]
   have hw:(gF (gR (reG g (prL g g.ports.length 0)).ports (gE (spE (reG g (prN g))) i).a) jj).2=(gE (spE (reG g (prN g))) i).w:=congrArg Prod.snd hj3;have hj1':jj<J1g g.ports (gE (spE (reG g (prN g))) i).a:=by rw[J6R] at hj1;exact hj1
   have hb1:J1g g.ports (gE (spE (reG g (prN g))) i).a<=24:=J2k hg _;simp only[X7q,X7p,opT,if_pos hil];generalize gE (spE (reG g (prN g))) i=e at *
   repeat' ((conv=>whnf);first|(refine Ix.w e.a ?_)|(refine Ix.w e.b ?_)|(refine Ix.mk jj rfl (by omega) ?_)|(refine Br.ff ?_)|(refine Br.dec ?_ ?_<;>intro _<;>try omega)|(refine Br.nbeq ?_ ?_<;>intro _<;>try omega)|(refine Ar.q ?_)|(refine Ix.q ?_)|(refine Ix.mk 0 rfl (by omega) ?_)|(refine Ix.mk 1 rfl (by omega) ?_)|(refine Len.q ?_)|(refine Ltn.q ?_)|(refine J11 [] hpo ⟨hvw,VLe.int (by omega),VLe.int (by omega),True.intro⟩ ?_)|(refine Opn.hd (by omega) ?_)|(refine Opn.tl (by omega) (Opn.hd (by omega) ?_))|(refine J17.hd (by omega) ?_)|(refine J17.tl (by omega) (J17.hd (by omega) ?_))|(refine And.intro rfl ?_)|(refine And.intro (Ltn.mk (by omega) (Opn.hd (by omega) rfl)) ?_))
   all_goals (conv=>whnf)
   have hin:i+1<=(spE (reG g (prN g))).length:=hil;refine⟨(spE (reG g (prN g))).length-(i+1),i+1,by omega,⟨rfl,hin⟩,?_⟩;refine J3C.trans (J27 (X4Y (k:=4) hrn hra hrb rfl rfl rfl rfl (by simp[J3r,hrn]) (by simp[J3r]))) ?_ (ksT rfl);by_cases hil2:i+1<(spE (reG g (prN g))).length
   . have hr2:=hrg (i+1) hil2;simp only[if_pos hil2];refine J3C.trans ?_ (J3C.trans (J1e (env:=[(12,.int .i64 ((i+1:Nat):Int)),(11,.loc 5 0),(9,.fz (J1Q (reG g (prN g))).length 2 false (sF (J1Q (reG g (prN g))))),(4,.int .i64 g.ports.length),(3,.fe 1 2 (tab [[.fz g.ports.length 1 false (J0h 0 (vI g.ids)),.fz g.ports.length 1 false fun i _=>.fz (J1g g.ports i) 2 false (J1p (reG g (prL g g.ports.length 0)).ports i)]]) 0 0)]) (own:=[(5,.cells [.fz g.ports.length 1 false (J0h 0 (vI g.ids)),.vec 4 1 0 g.ports.length]),(4,.fam g.ports.length 2 (J1g (J0x (reG g (prN g)) (i+1))) (J1p (J0x (reG g (prN g)) (i+1))) ([])),(0,.cells [.int .i64 x.n,.fz x.links.length 1 false (vI x.links),.fz x.weights.length 1 false (vI x.weights),.fz x.ids.length 1 false (vI x.ids),.bool x.apart,.bool x.back]),(999,.glob 0 32 tzF)]) (len:=J1g (J0x (reG g (prN g)) (i+1))) (f:=J1p (J0x (reG g (prN g)) (i+1))) (q:=6) (k:=4) (i:=(gE (spE (reG g (prN g))) (i+1)).a) (ks:=[6,7,8,9,10,11,12,13,14,15,16,17,18,19,20,21,22,23,24,25,26,27,28,29]) rfl rfl rfl hr2.1 rfl) (J1e (env:=[(12,.int .i64 ((i+1:Nat):Int)),(11,.loc 5 0),(9,.fz (J1Q (reG g (prN g))).length 2 false (sF (J1Q (reG g (prN g))))),(4,.int .i64 g.ports.length),(3,.fe 1 2 (tab [[.fz g.ports.length 1 false (J0h 0 (vI g.ids)),.fz g.ports.length 1 false fun i _=>.fz (J1g g.ports i) 2 false (J1p (reG g (prL g g.ports.length 0)).ports i)]]) 0 0)]) (own:=[(6,.vec (J1g (J0x (reG g (prN g)) (i+1)) (gE (spE (reG g (prN g))) (i+1)).a) 2 (J1p (J0x (reG g (prN g)) (i+1)) (gE (spE (reG g (prN g))) (i+1)).a)),(5,.cells [.fz g.ports.length 1 false (J0h 0 (vI g.ids)),.vec 4 1 0 g.ports.length]),(4,.fam g.ports.length 2 (J1g (J0x (reG g (prN g)) (i+1))) (J1p (J0x (reG g (prN g)) (i+1))) ([((gE (spE (reG g (prN g))) (i+1)).a,6)])),(0,.cells [.int .i64 x.n,.fz x.links.length 1 false (vI x.links),.fz x.weights.length 1 false (vI x.weights),.fz x.ids.length 1 false (vI x.ids),.bool x.apart,.bool x.back]),(999,.glob 0 32 tzF)]) (len:=J1g (J0x (reG g (prN g)) (i+1))) (f:=J1p (J0x (reG g (prN g)) (i+1))) (q:=7) (k:=4) (i:=(gE (spE (reG g (prN g))) (i+1)).b) (ks:=[7,8,9,10,11,12,13,14,15,16,17,18,19,20,21,22,23,24,25,26,27,28,29]) rfl rfl rfl hr2.2.1 (J6Y hr2.2.2)) (ksX rfl)) (ksY rfl);refine J0e (fun _ _=>[(0,some 0),(4,some 4),(5,some 5),(999,some 999)]) ?_ ?_ rfl
     . repeat' (first|exact tI|(refine⟨⟨_,rfl,?_⟩,?_⟩)|exact J0c.kf rfl|exact J0c.loc rfl)
     . repeat' (first|exact J9V hln2 hnx hra hrb hrn (by omega) (by omega) hw _|exact tI|exact⟨rfl,rfl,rfl⟩|(refine⟨⟨_,rfl,?_⟩,?_⟩)|exact J0c.kf rfl|exact J0c.q|apply And.intro)
   . simp only[if_neg hil2];refine J0e (fun _ _=>[(0,some 0),(4,some 4),(5,some 5),(6,none),(7,none),(999,some 999)]) ?_ ?_ rfl
     . repeat' (first|exact tI|(refine⟨⟨_,rfl,?_⟩,?_⟩)|exact J0c.kf rfl|exact J0c.loc rfl)
     . repeat' (first|exact J9V hln2 hnx hra hrb hrn (by omega) (by omega) hw _|exact tI|exact⟨rfl,rfl,rfl⟩|(refine⟨⟨_,rfl,?_⟩,?_⟩)|exact J0c.kf rfl|exact J0c.q|(refine⟨⟨_,_,rfl⟩,?_⟩)|apply And.intro)
 obtain rfl:i=(spE (reG g (prN g))).length:=by omega
 simp only[X7q,X7p,opT,if_neg hil]
 repeat' ((conv=>whnf);first|(refine Br.dec ?_ ?_<;>intro _<;>try omega))
 all_goals (conv=>whnf)
 refine Q2R [5,4] 11 (v':=.fe 1 2 (tab [[.fz g.ports.length 1 false (J0h 0 (vI g.ids)),.fz g.ports.length 1 false fun i _=>.fz (J1g (J0x (reG g (prN g)) (spE (reG g (prN g))).length) i) 2 false (J1p (J0x (reG g (prN g)) (spE (reG g (prN g))).length) i)]]) 0 0) (own':=[(7,.vec 0 1 fun _ _=>.nilslice),(6,.vec 0 1 fun _ _=>.nilslice),(0,.cells [.int .i64 x.n,.fz x.links.length 1 false (vI x.links),.fz x.weights.length 1 false (vI x.weights),.fz x.ids.length 1 false (vI x.ids),.bool x.apart,.bool x.back]),(999,.glob 0 32 tzF)]) rfl (by(conv=>whnf);exact⟨Nat.le_refl _,rfl⟩) rfl ?_;have htc:=X3q hRc;obtain⟨htv,_⟩:=J0j htc;have hts:=J3p htv;have htr:=Q6c (tG (reG g (prN g))) hts htc (X3p hRc hRd);obtain⟨c,hc,hct,hcs⟩:=J79 (tG (reG g (prN g))) htc [] (by simp);obtain⟨d,hd,hdt,hds⟩:=J79 (reG g (prN g)) hRc [] (by simp);obtain⟨b1,b2,b3⟩:=X2L htc hc hct;obtain⟨d1,d2,d3⟩:=X2L hRc hd hdt;have hbo:=J4q (tG (reG g (prN g))) hts c (J7x J3n htv hc);have hbd:=J4q (reG g (prN g)) hRs d (J7x J3n hRv hd);rw[b1] at hbo;rw[d1] at hbd;have hlc:=Q2k c;have hld:=Q2k d;have hti:(tG (reG g (prN g))).ids=g.ids:=rfl;rw[hti] at b2;rw[hRi] at d2;have heq:btL c=btL d:=by
  rw[hti] at b3;rw[hRi] at d3;refine List.ext_getElem (by omega) fun v h1 h2=>?_;have hv:v<g.ids.length:=by omega
  have e1:=b3 v hv;have e2:=d3 v hv;rw[X5c hRc htc (X1O hRv) (by rw[hRi];exact hv),<- e2] at e1;simpa[gI,List.getD,h1,h2] using e1
 have hsa:=J99 (btL c) (btL d) (by omega) (by omega);rw[decide_eq_true heq] at hsa;have hvt:=Q5F (reG g (prN g)) g.ports.length (by rw[J6C,hpl0]) (by rw[hRi,f3]) (I:=vI g.ids) (fun _ _=>rfl);generalize btL c=C at *;generalize btL d=D at *;refine J1B (J15 mixed ?_)
 repeat' ((conv=>whnf);first|(refine Br.tt ?_)|(refine J11 [] htr ⟨hvt,True.intro⟩ ?_))
 all_goals (conv=>whnf)
 refine J1B (J15 mixed ?_)
 repeat' ((conv=>whnf);first|(refine Br.tt ?_)|(refine Q1e [] hcs rfl ⟨hvt,VLe.nilfz rfl,True.intro⟩ ?_))
 all_goals (conv=>whnf)
 refine J1B (J15 mixed ?_)
 repeat' ((conv=>whnf);first|(refine Br.tt ?_)|(refine Q1e [] hds rfl ⟨hvw,VLe.nilfz rfl,True.intro⟩ ?_))
 all_goals (conv=>whnf)
 refine J15 mixed ?_
 repeat' ((conv=>whnf);first|(refine Br.tt ?_)|(refine hk.go ?_)|(refine hsa.go ?_)|(refine J11 [] hbo ⟨hvt,VLe.rfl,True.intro⟩ ?_)|(refine J11 [] hbd ⟨hvw,VLe.rfl,True.intro⟩ ?_)|(refine And.intro rfl ?_))
 all_goals (conv=>whnf)
 all_goals exact VLe.rfl
end Go.Proofs.YtefdkgkojlflaaaGreatDoor
