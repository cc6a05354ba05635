import Derived.Test.YtojoidgjneapfaaGC1
import Derived.Test.YtojoidgjneapfaaEngAB
namespace Go.Proofs.Ytojoidgjneapfaa
open Go.Eng
set_option maxRecDepth 100000
set_option linter.unusedVariables false
theorem J9k (a b:List Int) (ha:a.length<=1000000) (hb:b.length<=1000000):Ret Try.prog 11 [.fz a.length 1 false (vI a),.fz b.length 1 false (vI b)] (.bool (decide (a=b))):=by
 refine J0h rfl ?_;refine J0d mixed Try.func11 rfl hc11 hr11 rfl ?_
 repeat' ((conv=>whnf);first|(refine Br.bne ?_ ?_<;>intro _<;>try omega))
 all_goals (conv=>whnf)
 . exact VLe.bool (by rw[decide_eq_false (fun h=>by subst h;omega)])
 refine J1r mixed [0,1] (fun i:Nat=>[(5,.int .i64 i)]) (fun m i=>m=a.length-i/\i<=a.length/\∀j,j<i->gI a j=gI b j) a.length 0 ⟨rfl,Nat.zero_le _,fun j hj=>by omega⟩ ?_ ?_
 . exact J0e (fun _ _=>[])
 rintro m i ⟨hm,hi,hall⟩
 repeat' ((conv=>whnf);first|(refine Br.dec ?_ ?_<;>intro _<;>try omega)|(refine Br.bne ?_ ?_<;>intro _<;>try omega)|(refine Ar.q ?_)|(refine Ix.q ?_))
 all_goals (conv=>whnf)
 . rename_i hne;exact VLe.bool (by rw[decide_eq_false (fun h=>by subst h;exact hne rfl)])
 . refine⟨a.length-(i+1),i+1,by omega,⟨rfl,by omega,fun j hj=>?_⟩,?_⟩
   . by_cases e:j=i
     . subst e;assumption
     . exact hall j (by omega)
   . exact J0e (fun _ _=>[])
 . have e:a=b:=List.ext_getElem (by omega) (fun j h1 h2=>by
    have:=hall j (by omega);simpa[gI,List.getD,List.getElem?_eq_getElem h1,List.getElem?_eq_getElem h2] using this)
   exact VLe.bool (by rw[decide_eq_true e])
def xN:Net:=⟨3,[0,1,0,2,0],[0,1,0,2],[],false,false⟩
def x3:G:=⟨[0,1,2],[[(1,1),(2,3)],[(0,1),(2,2)],[(1,2),(0,3)]]⟩
theorem Q0O:xN.Small:=⟨by decide,by decide,by decide⟩
theorem Q4k:xN.con 3=x3:=congr (congrArg G.mk (show(xN.con 3).ids=x3.ids by decide +kernel)) (show(xN.con 3).ports=x3.ports by decide +kernel)
theorem J5u:x3.Small:=⟨by decide,by decide,by decide⟩
theorem J8Y:x3.conn=true:=by decide +kernel
def xA:Cf:=[[0,-1],[3,0],[6,0]]
theorem Q0j {g:G} {c:Cf} (h1:c.length=g.ids.length) (h2:(List.range c.length).all (fun v=>decide ((gC c v).length=2)&&(List.range 2).all fun x=>decide ((bnd g (gV J3H.vars x) v).1<=gI (gC c v) x/\gI (gC c v) x<=(bnd g (gV J3H.vars x) v).2))=true):J8p J3H g c:=by
 simp only[List.all_eq_true,List.mem_range,Bool.and_eq_true,decide_eq_true_eq] at h2;exact⟨h1,fun v hv=>(h2 v hv).1,fun v hv x hx=>(h2 v hv).2 x hx⟩
theorem Q4i:J8p J3H x3 xA:=Q0j rfl (by decide +kernel)
theorem J7C:J5t xA:=⟨by decide,by simp[xA]⟩
theorem Q5n:x3.xleg xA=true:=by
 rw[J8X J8Y Q4i];decide +kernel
theorem Q5o:x3.botX xA=[0,1,2]:=by decide +kernel
theorem nj {g:G} {w:Int} {a b:Nat} (x:Nat->Bool) (hc:(List.range g.ids.length).all (fun v=>(gR g.ports v).all fun l=>!(decide (l.2<w)&&x l.1.toNat) || x v)=true) (ha:x a=true) (hb:x b=false):¬ Jn g w a b:=fun h=>by
 have:=h.in_ (x:=x) (fun v hv l hl h1 h2=>by
  have:=List.all_eq_true.1 (List.all_eq_true.1 hc v (List.mem_range.2 hv)) l hl;rw[h2,decide_eq_true h1] at this;simpa using this) ha
 rw[hb] at this;cases this
theorem Q3J {g:G} {e:Ed} (h:¬ Jn g e.w e.a e.b):chE g e=true:=by
 cases q:chE g e with
 | true=>rfl
 | false=>classical exact(of_decide_eq_false q h).elim
theorem Q47 {g:G} {e:Ed} (h:Jn g e.w e.a e.b):chE g e=false:=by
 cases q:chE g e with
 | false=>rfl
 | true=>classical exact(of_decide_eq_true q h).elim
theorem J7D:J0l x3=[⟨0,1,1⟩,⟨0,2,3⟩,⟨1,2,2⟩]:=by decide +kernel
theorem Q2Y:J2v x3=[(0,1),(1,2)]:=by
 have h1:chE x3 ⟨0,1,1⟩=true:=by
  refine Q3J ?_;exact(nj (fun v=>v == 0) (by decide +kernel) (by decide) (by decide))
 have h2:chE x3 ⟨0,2,3⟩=false:=by
  refine Q47 ?_;refine Jn.step (l:=(1,2)) (by decide) (by decide +kernel) (by decide) ?_;exact Jn.step (l:=(0,1)) (by decide) (by decide +kernel) (by decide) .refl
 have h3:chE x3 ⟨1,2,2⟩=true:=by
  refine Q3J ?_;exact(nj (fun v=>v != 2) (by decide +kernel) (by decide) (by decide))
 rw[<- J41,J7D];simp[h1,h2,h3]
def Q3j (l:List Int) (v:V):Bool:=match v with
 | .fz n 1 false k=>decide (n=l.length)&&(List.range n).all fun i=>match k i 0 with
   | .int .i64 x=>decide (x=gI l i)
   | _=>false
 | _=>false
theorem Q1h {l:List Int} {v:V} (h:Q3j l v=true):VLe v (.fz l.length 1 false (vI l)):=by
 unfold Q3j at h;split at h
 . rename_i n k;rw[Bool.and_eq_true,decide_eq_true_eq,List.all_eq_true] at h;refine VLe.fz h.1 (fun h=>h) (fun i j hi hj=>VLe.of_eq ?_);obtain rfl:j=0:=by omega
   have:=h.2 i (List.mem_range.2 hi);revert this;split
   . rename_i x e;intro q;rw[e,of_decide_eq_true q];rfl
   . intro q;cases q
 . cases h
theorem Q2K (c:Cf) (n:Nat) (f:Nat->Nat->V) (hn:n=c.length) (h:(List.range n).all (fun i=>Q3j (gC c i) (f i 0))=true):VLe (.fz n 1 false f) (cV c):=by
 refine VLe.fz hn (fun h=>h) (fun i j hi hj=>?_);obtain rfl:j=0:=by omega
 exact Q1h (List.all_eq_true.1 h i (List.mem_range.2 hi))
theorem J7n (l:List Int) (n:Nat) (f:Nat->Nat->V) (hn:n=l.length) (h:(List.range n).all (fun i=>match f i 0 with | .int .i64 x=>decide (x=gI l i)|_=>false)=true):VLe (.fz n 1 false f) (.fz l.length 1 false (vI l)):=by
 refine VLe.fz hn (fun h=>h) (fun i j hi hj=>VLe.of_eq ?_);obtain rfl:j=0:=by omega
 have:=List.all_eq_true.1 h i (List.mem_range.2 hi);revert this;split
 . rename_i x e;intro q;rw[e,of_decide_eq_true q];rfl
 . intro q;cases q
set_option maxHeartbeats 8000000 in
theorem J8N:Ret Try.prog 5 [] (.bool true):=by
 have hco:=J6S xN Q0O 3 (by decide) (by decide);rw[Q4k] at hco;have h1:=J8q x3 J5u xA J7C;rw[Q5n] at h1;have h2:=J65 x3 J5u xA J7C;rw[Q5o] at h2;have h3:=J9k [0,1,2] [0,1,2] (by decide) (by decide);rw[decide_eq_true rfl] at h3;have h4:=J4c x3 J5u J8Y (by decide +kernel) (by rw[J7D];decide);rw[Q2Y] at h4;refine Q1j rfl ?_;refine Q2a Try.func5 rfl hc5 hr5 rfl ?_;refine J5E (J6o mixed ?_)
 repeat' ((conv=>whnf);first|fail)
 all_goals (conv=>whnf)
 refine J5E (J6o mixed ?_)
 repeat' ((conv=>whnf);first|(refine J34 [0,1] hco ⟨by decide,by decide,VLe.agg ⟨VLe.rfl,J7n _ _ _ rfl (by decide),J7n _ _ _ rfl (by decide),VLe.nilfz rfl,VLe.rfl,VLe.rfl,True.intro⟩,VLe.rfl,True.intro⟩ ?_))
 all_goals (conv=>whnf)
 refine J5E (J6o mixed ?_)
 repeat' ((conv=>whnf);first|fail)
 all_goals (conv=>whnf)
 refine Q3e 2 rfl (by(conv=>whnf);exact⟨by decide,by decide,by decide,rfl,rfl⟩) (J5E (J6o mixed ?_))
 repeat' ((conv=>whnf);first|(refine h4.go ?_))
 all_goals (conv=>whnf)
 refine J6o mixed ?_
 repeat' ((conv=>whnf);first|(refine Ix.mk 0 rfl (by decide) ?_)|(refine Ix.mk 1 rfl (by decide) ?_)|(refine Br.tt ?_)|(refine J34 [] h1 ⟨VLe.rfl,Q2K xA 3 _ rfl (by decide),True.intro⟩ ?_)|(refine J34 [] h2 ⟨VLe.rfl,Q2K xA 3 _ rfl (by decide),True.intro⟩ ?_)|(refine J1N h3 rfl ⟨by decide,VLe.rfl,J7n _ _ _ rfl (by decide),True.intro⟩ ?_))
 all_goals (conv=>whnf)
 all_goals exact VLe.rfl
def Q0L (x:Nat->Bool) (v:Nat) (t:Bool):Nat->Bool:=fun u=>if u=v then t else x u
structure JIn (g:G) (w:Int) (a r:Nat) (x:Nat->Bool):Prop where
 root:x a=true
 snd:∀v,v<g.ids.length->x v=true->Jn g w a v
 alt:ClJ g w x\/r+1<=J3S x g.ids.length
structure JPs (g:G) (w:Int) (a r v i:Nat) (x0 x:Nat->Bool):Prop where
 base:JIn g w a r x0
 mono:∀u,x0 u=true->x u=true
 snd:∀u,u<g.ids.length->x u=true->Jn g w a u
 alt:(∃u,u<g.ids.length/\x u=true/\x0 u=false)\/((∀u,u<g.ids.length->x u=x0 u)/\(∀u,u<v->u<g.ids.length->∀l∈gR g.ports u,l.2<w->x0 l.1.toNat=true->x0 u=true)/\∀j,j<i->j<(gR g.ports v).length->(gF (gR g.ports v) j).2<w->x0 (gF (gR g.ports v) j).1.toNat=true->x0 v=true)
theorem JIn.start {g:G} {w:Int} {a:Nat} (ha:a<g.ids.length):JIn g w a 0 (fun v=>decide (v=a)) :=
 ⟨by simp,fun v hv e=>by have:=of_decide_eq_true e;subst this;exact .refl,.inr (J8h (a:=a) (by simp) ha)⟩
theorem JPs.start {g:G} {w:Int} {a r:Nat} {x:Nat->Bool} (h:JIn g w a r x):JPs g w a r 0 0 x x :=
 ⟨h,fun _ h=>h,h.snd,.inr ⟨fun _ _=>rfl,fun u hu=>by omega,fun j hj=>by omega⟩⟩
theorem JPs.step {g:G} (hg:g.valid=true) {w:Int} {a r v i:Nat} {x0 x:Nat->Bool} (h:JPs g w a r v i x0 x) (hv:v<g.ids.length) (hi:i<(gR g.ports v).length) :
 JPs g w a r v (i+1) x0 (Q0L x v (x v || (decide ((gF (gR g.ports v) i).2<w)&&x (gF (gR g.ports v) i).1.toNat))):=by
 obtain⟨f1,f2,f3,f4,f5,f6,f7⟩:=J0f hg;have hl:=J02 hi;have hok:=(J0s.1 (f6 v (by omega))).1 _ hl;generalize hL:gF (gR g.ports v) i=l at *;have hun:l.1.toNat<g.ids.length:=by omega
 have hst:∀u,x u=true->Q0L x v (x v || (decide (l.2<w)&&x l.1.toNat)) u=true:=fun u e=>by
  rw[Q0L];split
  . rename_i q;subst q;simp[e]
  . exact e
 refine⟨h.base,fun u hu=>hst u (h.mono u hu),fun u hu e=>?_,?_⟩
 . rw[Q0L] at e;split at e
   . rename_i q;subst q;rw[Bool.or_eq_true,Bool.and_eq_true,decide_eq_true_eq] at e;rcases e with e | ⟨e1,e2⟩
     . exact h.snd _ hu e
     . exact .step hu hl e1 (h.snd _ hun e2)
   . exact h.snd u hu e
 . rcases h.alt with ⟨u,h1,h2,h3⟩ | ⟨h1,h2,h3⟩
   . exact .inl ⟨u,h1,hst u h2,h3⟩
   . by_cases hc:(decide (l.2<w)&&x l.1.toNat)=true
     . cases h0:x0 v with
       | false=>exact .inl ⟨v,hv,by rw[Q0L,if_pos rfl,hc,Bool.or_true],h0⟩
       | true =>
         refine .inr ⟨fun u hu=>?_,h2,fun j hj _ _ _=>by first|rfl|exact h0⟩;rw[Q0L];split
         . rename_i q;subst q;rw[hc,Bool.or_true,h0]
         . exact h1 u hu
     . have hc':(decide (l.2<w)&&x l.1.toNat)=false:=by simpa using hc
       refine .inr ⟨fun u hu=>?_,h2,fun j hj hj2 e1 e2=>?_⟩
       . rw[Q0L];split
         . rename_i q;subst q;rw[hc',Bool.or_false];exact h1 u hu
         . exact h1 u hu
       . by_cases ej:j=i
         . subst ej;rw[hL] at e1 e2;rw[h1 _ hun,e2,decide_eq_true e1] at hc';simp at hc'
         . exact h3 j (by omega) hj2 e1 e2
theorem JPs.row {g:G} {w:Int} {a r v:Nat} {x0 x:Nat->Bool} (h:JPs g w a r v (gR g.ports v).length x0 x):JPs g w a r (v+1) 0 x0 x:=by
 refine⟨h.base,h.mono,h.snd,?_⟩;rcases h.alt with h1 | ⟨h1,h2,h3⟩
 . exact .inl h1
 . refine .inr ⟨h1,fun u hu hun l hl e1 e2=>?_,fun j hj=>by omega⟩;by_cases e:u=v
   . subst e;obtain⟨j,hj,ej⟩:=List.getElem_of_mem hl;have ej:gF (gR g.ports u) j=l:=by rw[<- ej];simp[gF,List.getD,hj]
     exact h3 j hj hj (by rw[ej];exact e1) (by rw[ej];exact e2)
   . exact h2 u (by omega) hun l hl e1 e2
theorem JPs.over {g:G} (hg:g.valid=true) {w:Int} {a r v:Nat} (ha:a<g.ids.length) {x0 x:Nat->Bool} (h:JPs g w a r v 0 x0 x) (hv:g.ids.length<=v):JIn g w a (r+1) x:=by
 obtain⟨f1,f2,f3,f4,f5,f6,f7⟩:=J0f hg;refine⟨h.mono a h.base.root,h.snd,?_⟩;rcases h.alt with ⟨u,h1,h2,h3⟩ | ⟨h1,h2,_⟩
 . right;have hlt:=J7w (p:=x0) (q:=x) h3 h2 h1 (fun v _ e=>h.mono v e);rcases h.base.alt with q|q
   . have:=(h.snd u h1 h2).in_ q h.base.root;rw[h3] at this;cases this
   . omega
 . left;intro u hu l hl e1 e2;have hok:=(J0s.1 (f6 u (by omega))).1 _ hl;rw[h1 _ (by omega)] at e2;rw[h1 u hu];exact h2 u (by omega) hu l hl e1 e2
theorem JIn.done {g:G} {w:Int} {a b:Nat} {x:Nat->Bool} (h:JIn g w a g.ids.length x) (hb:b<g.ids.length):x b=!chE g ⟨a,b,w⟩:=by
 have hc:ClJ g w x:=h.alt.resolve_right (fun q=>by have:=J5Z x g.ids.length;omega);cases e:x b with
 | true=>rw[Q47 (h.snd b hb e)];rfl
 | false =>
   rw[Q3J (fun q=>?_)]
   . rfl
   . have:=Jn.in_ hc h.root q;rw[e] at this;cases this
theorem jbT {b:Bool} {A B:Prop} (e:b=true) (h:A):Br b A B:=⟨fun _=>h,fun e'=>by rw[e] at e';cases e'⟩
theorem jbF {b:Bool} {A B:Prop} (e:b=false) (h:B):Br b A B:=⟨fun e'=>(by rw[e] at e';cases e'),fun _=>h⟩
def vJ (x:Nat->Bool):Nat->Nat->V:=fun i _=>.bool (x i)
theorem J7L (x:Nat->Bool) (v:Nat) (t t':Bool) (e:t'=t) (i j:Nat) (hj:j<1):VLe (J2b (vJ x) v 0 [.bool t'] i j) (vJ (Q0L x v t) i j):=by
 subst e;obtain rfl:j=0:=by omega
 apply VLe.of_eq;by_cases h:i=v
 . subst h;simp[J2b,vJ,Q0L]
 . simp[J2b,vJ,Q0L,h]
theorem Q2o (f:Nat->Nat->V) (hf:∀i,f i 0=.bool false) (a i j:Nat) (hj:j<1):VLe (J2b f a 0 [.bool true] i j) (vJ (fun v=>decide (v=a)) i j):=by
 obtain rfl:j=0:=by omega
 apply VLe.of_eq;by_cases h:i=a
 . subst h;simp[J2b,vJ]
 . simp[J2b,vJ,h,hf]
set_option maxHeartbeats 16000000 in
theorem J9W (g:G) (hs:g.Small) (hg:g.valid=true) (a b:Nat) (ha:a<g.ids.length) (hb:b<g.ids.length) (w:Int):Ret Try.prog 22 [g.v,.int .i64 a,.int .i64 b,.int .i64 w] (.bool (!chE g ⟨a,b,w⟩)):=by
 obtain⟨f1,f2,f3,f4,f5,f6,f7⟩:=J0f hg;refine J0h rfl ?_;refine J0d mixed Try.func22 rfl hc22 hr22 rfl ?_
 repeat' ((conv=>whnf);first|(refine Ix.q ?_)|(refine Bd.q ?_)|(refine Len.q ?_)|(refine Ltn.q ?_)|(refine MkS.vec ?_))
 all_goals (conv=>whnf)
 refine J1H mixed [2,3,4,9] [] [2,3,4,5,6,7,8,9,10,11,12,13,14,15,16,17,18,19,20,21,22,23,24,25,26,27,28,29] [1,0] (fun p:Nat×(Nat->Bool)=>[(10,.int .i64 p.1)]) (fun p=>[(1,.vec g.ports.length 1 (vJ p.2)),(0,.cells [.fz g.ids.length 1 false (vI g.ids),.fz g.ports.length 1 false (vP g.ports)])]) (fun m p=>m=g.ids.length-p.1/\p.1<=g.ids.length/\JIn g w a p.1 p.2) g.ids.length (0,fun v=>decide (v=a)) ⟨rfl,Nat.zero_le _,JIn.start ha⟩ rfl (fun _=>rfl) ?_ ?_
 . refine J0g (fun _ _=>[(0,some 0),(1,some 1)]) ?_ ?_ rfl
   . repeat' (first|exact tI|(refine⟨⟨_,rfl,?_⟩,?_⟩)|exact J0a.kf rfl|exact J0a.loc rfl|exact J0a.q)
   . repeat' (first|exact⟨Nat.le_refl _,rfl,fun i j hi hj=>by first|exact Q2o _ (fun _=>rfl) a i j hj|(simp only[Nat.zero_add];exact Q2o _ (fun _=>rfl) a i j hj)⟩|exact tI|(refine⟨⟨_,rfl,?_⟩,?_⟩)|exact J0a.kf rfl|apply And.intro)
 rintro m ⟨r,x⟩ ⟨hm,hr,hI⟩;simp only at hm hr hI;by_cases hrn:r<g.ids.length
 . dsimp only
   repeat' ((conv=>whnf);first|(refine Br.dec ?_ ?_<;>intro _<;>try omega))
   all_goals (conv=>whnf)
   refine J1H mixed [2,3,4,9,10] [] [2,3,4,5,6,7,8,9,10,11,12,13,14,15,16,17,18,19,20,21,22,23,24,25,26,27,28,29] [1,0] (fun p:Nat×(Nat->Bool)=>[(11,.int .i64 p.1)]) (fun p=>[(1,.vec g.ports.length 1 (vJ p.2)),(0,.cells [.fz g.ids.length 1 false (vI g.ids),.fz g.ports.length 1 false (vP g.ports)])]) (fun m p=>m=g.ids.length-p.1/\p.1<=g.ids.length/\JPs g w a r p.1 0 x p.2) g.ids.length (0,x) ⟨rfl,Nat.zero_le _,JPs.start hI⟩ rfl (fun _=>rfl) ?_ ?_
   . exact J0e (fun _ _=>[(0,some 0),(1,some 1)])
   rintro m ⟨v,y⟩ ⟨hm2,hv,hP⟩;simp only at hm2 hv hP;by_cases hvn:v<g.ids.length
   . dsimp only;have hrl:=J2Z hg v
     repeat' ((conv=>whnf);first|(refine Br.dec ?_ ?_<;>intro _<;>try omega))
     all_goals (conv=>whnf)
     refine J1H mixed [2,3,4,9,10,11] [] [2,3,4,5,6,7,8,9,10,11,12,13,14,15,16,17,18,19,20,21,22,23,24,25,26,27,28,29] [1,0] (fun p:Nat×(Nat->Bool)=>[(12,.int .i64 p.1)]) (fun p=>[(1,.vec g.ports.length 1 (vJ p.2)),(0,.cells [.fz g.ids.length 1 false (vI g.ids),.fz g.ports.length 1 false (vP g.ports)])]) (fun m p=>m=(gR g.ports v).length-p.1/\p.1<=(gR g.ports v).length/\JPs g w a r v p.1 x p.2) (gR g.ports v).length (0,y) ⟨rfl,Nat.zero_le _,hP⟩ rfl (fun _=>rfl) ?_ ?_
     . exact J0e (fun _ _=>[(0,some 0),(1,some 1)])
     rintro m ⟨i,z⟩ ⟨hm3,hi,hQ⟩;simp only at hm3 hi hQ;by_cases hin:i<(gR g.ports v).length
     . dsimp only;have hok:=(J0s.1 (f6 v (by omega))).1 _ (J02 hin);have hst:=hQ.step hg hvn hin;cases hzv:z v with
       | true =>
         repeat' ((conv=>whnf);first|(refine jbT (by first|exact hzv|(simp only[Nat.zero_add];exact hzv)) ?_)|(refine Br.dec ?_ ?_<;>intro _<;>try omega)|(refine Ar.q ?_)|(refine Ix.q ?_)|(refine Ltn.q ?_))
         all_goals (conv=>whnf)
         refine⟨(gR g.ports v).length-(i+1),(i+1,_),by omega,⟨rfl,by omega,hst⟩,?_⟩;refine J0g (fun _ _=>[(0,some 0),(1,some 1)]) ?_ ?_ rfl
         . repeat' (first|exact tI|(refine⟨⟨_,rfl,?_⟩,?_⟩)|exact J0a.kf rfl|exact J0a.loc rfl|exact J0a.q)
         . repeat' (first|exact⟨Nat.le_refl _,rfl,fun i j hi hj=>by simp only[Nat.zero_add];exact J7L z v _ _ (by simp only[hzv,Bool.true_or]) _ _ hj⟩|exact tI|(refine⟨⟨_,rfl,?_⟩,?_⟩)|exact J0a.kf rfl|apply And.intro)
       | false =>
         by_cases hlt:(gF (gR g.ports v) i).2<w
         . cases hzu:z (gF (gR g.ports v) i).1.toNat with
           | true =>
             repeat' ((conv=>whnf);first|(refine jbT (by first|exact hzu|(simp only[Nat.zero_add];exact hzu)) ?_)|(refine jbT (decide_eq_true hlt) ?_)|(refine jbF (by first|exact hzv|(simp only[Nat.zero_add];exact hzv)) ?_)|(refine Ix.mk (gF (gR g.ports v) i).1.toNat (by omega) (by omega) ?_)|(refine Br.dec ?_ ?_<;>intro _<;>try omega)|(refine Ar.q ?_)|(refine Ix.q ?_)|(refine Ltn.q ?_))
             all_goals (conv=>whnf)
             all_goals
              refine⟨(gR g.ports v).length-(i+1),(i+1,_),by omega,⟨rfl,by omega,hst⟩,?_⟩;refine J0g (fun _ _=>[(0,some 0),(1,some 1)]) ?_ ?_ rfl
              . repeat' (first|exact tI|(refine⟨⟨_,rfl,?_⟩,?_⟩)|exact J0a.kf rfl|exact J0a.loc rfl|exact J0a.q)
              . repeat' (first|exact⟨Nat.le_refl _,rfl,fun i j hi hj=>by simp only[Nat.zero_add];exact J7L z v _ _ (by simp only[hzv,hzu,Bool.false_or,Bool.and_true]<;>first|rfl|exact hzu|(symm;rw[decide_eq_true_eq];exact hlt)) _ _ hj⟩|exact tI|(refine⟨⟨_,rfl,?_⟩,?_⟩)|exact J0a.kf rfl|apply And.intro)
           | false =>
             repeat' ((conv=>whnf);first|(refine jbF (by first|exact hzu|(simp only[Nat.zero_add];exact hzu)) ?_)|(refine jbT (decide_eq_true hlt) ?_)|(refine jbF (by first|exact hzv|(simp only[Nat.zero_add];exact hzv)) ?_)|(refine Ix.mk (gF (gR g.ports v) i).1.toNat (by omega) (by omega) ?_)|(refine Br.dec ?_ ?_<;>intro _<;>try omega)|(refine Ar.q ?_)|(refine Ix.q ?_)|(refine Ltn.q ?_))
             all_goals (conv=>whnf)
             all_goals
              refine⟨(gR g.ports v).length-(i+1),(i+1,_),by omega,⟨rfl,by omega,hst⟩,?_⟩;refine J0g (fun _ _=>[(0,some 0),(1,some 1)]) ?_ ?_ rfl
              . repeat' (first|exact tI|(refine⟨⟨_,rfl,?_⟩,?_⟩)|exact J0a.kf rfl|exact J0a.loc rfl|exact J0a.q)
              . repeat' (first|exact⟨Nat.le_refl _,rfl,fun i j hi hj=>by simp only[Nat.zero_add];exact J7L z v _ _ (by simp only[hzv,hzu,Bool.false_or,Bool.and_false]<;>first|rfl|exact hzu) _ _ hj⟩|exact tI|(refine⟨⟨_,rfl,?_⟩,?_⟩)|exact J0a.kf rfl|apply And.intro)
         . repeat' ((conv=>whnf);first|(refine jbF (decide_eq_false hlt) ?_)|(refine jbF (by first|exact hzv|(simp only[Nat.zero_add];exact hzv)) ?_)|(refine Br.dec ?_ ?_<;>intro _<;>try omega)|(refine Ar.q ?_)|(refine Ix.q ?_)|(refine Ltn.q ?_))
           all_goals (conv=>whnf)
           refine⟨(gR g.ports v).length-(i+1),(i+1,_),by omega,⟨rfl,by omega,hst⟩,?_⟩;refine J0g (fun _ _=>[(0,some 0),(1,some 1)]) ?_ ?_ rfl
           . repeat' (first|exact tI|(refine⟨⟨_,rfl,?_⟩,?_⟩)|exact J0a.kf rfl|exact J0a.loc rfl|exact J0a.q)
           . repeat' (first|exact⟨Nat.le_refl _,rfl,fun i j hi hj=>by simp only[Nat.zero_add];exact J7L z v _ _ (by rw[hzv,decide_eq_false hlt];rfl) _ _ hj⟩|exact tI|(refine⟨⟨_,rfl,?_⟩,?_⟩)|exact J0a.kf rfl|apply And.intro)
     . repeat' ((conv=>whnf);first|(refine Br.dec ?_ ?_<;>intro _<;>try omega)|(refine Ar.q ?_)|(refine Ix.q ?_))
       all_goals (conv=>whnf)
       refine⟨g.ids.length-(v+1),(v+1,z),by omega,⟨rfl,by omega,?_⟩,?_⟩
       . have e:i=(gR g.ports v).length:=by omega
         subst e;exact hQ.row
       . exact J0e (fun _ _=>[(0,some 0),(1,some 1)])
   . repeat' ((conv=>whnf);first|(refine Br.dec ?_ ?_<;>intro _<;>try omega)|(refine Ar.q ?_))
     all_goals (conv=>whnf)
     refine⟨g.ids.length-(r+1),(r+1,y),by omega,⟨rfl,by omega,hP.over hg ha (by omega)⟩,?_⟩;exact J0e (fun _ _=>[(0,some 0),(1,some 1)])
 . have er:r=g.ids.length:=by omega
   subst er;have hd:=hI.done hb;dsimp only;cases hxb:x b with
   | true =>
     rw[hxb] at hd
     repeat' ((conv=>whnf);first|(refine Ix.w b ?_)|(refine jbT (by first|exact hxb|(simp only[Nat.zero_add];exact hxb)) ?_)|(refine Br.dec ?_ ?_<;>intro _<;>try omega)|(refine Ltn.q ?_))
     all_goals (conv=>whnf)
     all_goals exact VLe.bool (by first|exact hd|(rw[<- hd];first|exact hxb|(simp only[Nat.zero_add];exact hxb)))
   | false =>
     rw[hxb] at hd
     repeat' ((conv=>whnf);first|(refine Ix.w b ?_)|(refine jbF (by first|exact hxb|(simp only[Nat.zero_add];exact hxb)) ?_)|(refine Br.dec ?_ ?_<;>intro _<;>try omega)|(refine Ltn.q ?_))
     all_goals (conv=>whnf)
     all_goals exact VLe.bool (by first|exact hd|(rw[<- hd];first|exact hxb|(simp only[Nat.zero_add];exact hxb)))
theorem Q11 {g:G} (hg:g.valid=true) {a b i:Nat} (ha:a<g.ids.length) (hab:a<b) (hi:i<(gR g.ports a).length) (he:(gF (gR g.ports a) i).1=(b:Int)):edE g a b=some ⟨a,b,(gF (gR g.ports a) i).2⟩:=by
 obtain⟨f1,f2,f3,f4,f5,f6,f7⟩:=J0f hg;have hnd:=(J0s.1 (f6 a (by omega))).2;rcases J3V (b:=(b:Int)) (l:=gR g.ports a) (k:=0) with ⟨h1,h2⟩ | ⟨j,h1,h2,h3⟩
 . exact(h2 _ (J02 hi) he).elim
 . rw[edE,h2,if_pos ⟨hab,by omega⟩];have:gF (gR g.ports a) j=gF (gR g.ports a) i:=J7r hnd (J02 h1) (J02 hi) (by rw[h3,he]);have e:((0+j:Nat):Int).toNat=j:=by omega
   rw[e,this]
theorem Q12 {g:G} {a b:Nat} (h:∀l∈gR g.ports a,l.1≠(b:Int)):edE g a b=none:=by
 rcases J3V (b:=(b:Int)) (l:=gR g.ports a) (k:=0) with ⟨h1,h2⟩ | ⟨j,h1,h2,h3⟩
 . rw[edE,h1,if_neg (by omega)]
 . exact(h _ (J02 h1) h3).elim
noncomputable def J3e (g:G) (a b:Nat):List (Nat×Nat):=((List.range a).flatMap fun a=>(List.range g.ids.length).filterMap (J2X g a))++(List.range b).filterMap (J2X g a)
theorem Q1l (g:G) (a:Nat):J3e g a g.ids.length=J3e g (a+1) 0:=by
 rw[J3e,J3e,List.range_succ,List.flatMap_append];simp
theorem Q1e {g:G} {a b:Nat} (h:b<=a):J2X g a b=none:=by rw[J2X,edE,if_neg (by omega)]
theorem Q1m (g:G) (a:Nat):J3e g a 0=J3e g a (a+1):=by
 rw[J3e,J3e];congr 1;symm;rw[List.filterMap_eq_nil_iff.2 fun b hb=>Q1e (by have:=List.mem_range.1 hb;omega)];rfl
theorem Q1k {g:G} {a b:Nat} {e:Ed} (h:edE g a b=some e) (hc:chE g e=true):J3e g a (b+1)=J3e g a b++[(a,b)]:=by
 rw[J3e,J3e,List.range_succ,List.filterMap_append,<- List.append_assoc];congr 1;simp[J2X,h,hc]
theorem J9r {g:G} {a b:Nat} (h:edE g a b=none\/∃e,edE g a b=some e/\chE g e=false):J3e g a (b+1)=J3e g a b:=by
 rw[J3e,J3e,List.range_succ,List.filterMap_append];have:J2X g a b=none:=by
  rcases h with h | ⟨e,h,hc⟩
  . rw[J2X,h]
  . simp[J2X,h,hc]
 simp[this]
theorem Q1o (g:G):J3e g g.ids.length 0=J2v g:=by simp[J3e,J2v]
theorem Q1n (g:G) (a b:Nat):(J3e g a b).length<=a*g.ids.length+b:=by
 rw[J3e,List.length_append];have h1:∀a,((List.range a).flatMap fun a=>(List.range g.ids.length).filterMap (J2X g a)).length<=a*g.ids.length:=by
  intro a
  induction a with
  | zero=>simp
  | succ a ih =>
    rw[List.range_succ,List.flatMap_append,List.length_append,Nat.add_mul];have:=List.length_filterMap_le (J2X g a) (List.range g.ids.length);simp only[List.flatMap_cons,List.flatMap_nil,List.append_nil];simp only[List.length_range] at this;omega
 have h2:=List.length_filterMap_le (J2X g a) (List.range b);simp only[List.length_range] at h2;have:=h1 a;omega
set_option maxHeartbeats 16000000 in
theorem J6u (g:G) (hs:g.Small) (hgc:g.conn=true):Ret Try.prog 7 [g.v] (.tup [.fz (J2v g).length 2 false (sF (J2v g)),.int .i64 0]):=by
 obtain⟨hg,_⟩:=J0o hgc;obtain⟨f1,f2,f3,f4,f5,f6,f7⟩:=J0f hg;have hf:=J6r g hs;rw[hgc] at hf;refine J0h rfl ?_;refine J0d mixed Try.func7 rfl hc7 hr7 rfl ?_
 repeat' ((conv=>whnf);first|(refine Br.tt ?_)|(refine hf.go ?_))
 all_goals (conv=>whnf)
 refine J0A mixed [1] [1] [2,3,4,5,6,7,8,9,10,11,12,13,14,15,16,17,18,19,20,21,22,23,24,25,26,27,28,29] [1,0] (fun a:Nat=>[(4,.vec 1 2 0 (J3e g a 0).length),(5,.int .i64 a)]) (fun own a=>(1,.vec (J3e g a 0).length 2 (sF (J3e g a 0)))::own) (fun m a=>m=g.ids.length-a/\a<=g.ids.length) g.ids.length 0 ⟨rfl,Nat.zero_le _⟩ rfl (fun _=>rfl) ?_ ?_
 . exact J0e (fun _ _=>[(0,some 0),(1,none)])
 rintro m a ⟨hm,ha⟩;rcases Nat.lt_or_ge a g.ids.length with han|han
 . repeat' ((conv=>whnf);first|(refine Br.dec ?_ ?_<;>intro _<;>try omega)|(refine Ar.q ?_))
   all_goals (conv=>whnf)
   refine J0A mixed [1,5] [1] [2,3,4,5,6,7,8,9,10,11,12,13,14,15,16,17,18,19,20,21,22,23,24,25,26,27,28,29] [1,0] (fun b:Nat=>[(4,.vec 1 2 0 (J3e g a b).length),(6,.int .i64 b)]) (fun own b=>J2T own 1 (.vec (J3e g a b).length 2 (sF (J3e g a b)))) (fun m b=>m=g.ids.length-b/\a<b/\b<=g.ids.length) (g.ids.length-(a+1)) (a+1) ⟨rfl,by omega,by omega⟩ rfl (fun _=>rfl) ?_ ?_
   . rw[<- Q1m g a];exact J0e (fun _ _=>[(0,some 0),(1,some 1)])
   rintro m b ⟨hm2,hab,hb⟩;rcases Nat.lt_or_ge b g.ids.length with hbn|hbn
   . have hpo:=J9z g hs a b (by omega);have hrl:=J2Z hg a;have hlen:=Q1n g a b;have hsm:a*g.ids.length<=24*24:=Nat.mul_le_mul (by omega) f2;rcases J4k (gR g.ports a) (b:Int) with ⟨hp,hno⟩ | ⟨i,hi,hp,he⟩
     . rw[hp] at hpo;have hT:=J9r (g:=g) (a:=a) (b:=b) (.inl (Q12 hno))
       repeat' ((conv=>whnf);first|(refine Br.ff ?_)|(refine Br.dec ?_ ?_<;>intro _<;>try omega)|(refine Ar.q ?_)|(refine hpo.go ?_))
       all_goals (conv=>whnf)
       refine⟨g.ids.length-(b+1),b+1,by omega,⟨rfl,by omega,by omega⟩,?_⟩;dsimp only;rw[hT];exact J0e (fun _ _=>[(0,some 0),(1,some 1)])
     . rw[hp] at hpo;have hed:=Q11 hg han hab hi he;have hj:=J9W g hs hg a b han hbn (gF (gR g.ports a) i).2;cases hch:chE g ⟨a,b,(gF (gR g.ports a) i).2⟩ with
       | true =>
         rw[hch] at hj;have hT:=Q1k hed hch;have hTl:(J3e g a (b+1)).length=(J3e g a b).length+1:=by rw[hT,List.length_append];rfl
         repeat' ((conv=>whnf);first|(refine Ix.w i ?_)|(refine Br.tt ?_)|(refine Br.ff ?_)|(refine Br.dec ?_ ?_<;>intro _<;>try omega)|(refine Br.nbeq ?_ ?_<;>intro _<;>try omega)|(refine Ar.q ?_)|(refine Ix.q ?_)|(refine Len.q ?_)|(refine hpo.go ?_)|(refine hj.go ?_))
         all_goals (conv=>whnf)
         all_goals
          refine⟨g.ids.length-(b+1),b+1,by omega,⟨rfl,by omega,by omega⟩,?_⟩;dsimp only;rw[hTl,hT];refine J0g (fun env own=>[(0,some 0),(1,Q5h env 4)]) ?_ ?_ rfl
          . repeat' (first|exact tI|(refine⟨⟨_,rfl,?_⟩,?_⟩)|exact J0a.kf rfl|exact J0a.loc rfl|exact J0a.q)
          . repeat' (first|exact⟨Nat.le_refl _,rfl,fun x y hx hy=>J7J (J3e g a b) _ _ _ x y rfl _ rfl rfl hx hy⟩|exact tI|(refine⟨⟨_,rfl,?_⟩,?_⟩)|exact J0a.kf rfl|apply And.intro)
       | false =>
         rw[hch] at hj;have hT:=J9r (g:=g) (a:=a) (b:=b) (.inr ⟨_,hed,hch⟩)
         repeat' ((conv=>whnf);first|(refine Ix.w i ?_)|(refine Br.tt ?_)|(refine Br.dec ?_ ?_<;>intro _<;>try omega)|(refine Ar.q ?_)|(refine Ix.q ?_)|(refine hpo.go ?_)|(refine hj.go ?_))
         all_goals (conv=>whnf)
         all_goals
          refine⟨g.ids.length-(b+1),b+1,by omega,⟨rfl,by omega,by omega⟩,?_⟩;dsimp only;rw[hT];exact J0e (fun _ _=>[(0,some 0),(1,some 1)])
   . have eb:b=g.ids.length:=by omega
     subst eb;dsimp only
     repeat' ((conv=>whnf);first|(refine Br.dec ?_ ?_<;>intro _<;>try omega)|(refine Ar.q ?_))
     all_goals (conv=>whnf)
     refine⟨g.ids.length-(a+1),a+1,by omega,⟨rfl,by omega⟩,?_⟩;rw[Q1l g a];exact J0e (fun _ _=>[(0,some 0),(1,some 1)])
 . have ea:a=g.ids.length:=by omega
   subst ea;dsimp only
   repeat' ((conv=>whnf);first|(refine Br.dec ?_ ?_<;>intro _<;>try omega)|(refine Len.q ?_))
   all_goals (conv=>whnf)
   rw[Q1o];exact VLe.tup ⟨VLe.fz rfl (fun h=>h) (fun i j hi hj=>VLe.of_eq (by rw[J1i,Nat.zero_add])),VLe.rfl,True.intro⟩
theorem J6v (g:G) (hs:g.Small) (hgc:g.conn=false):Ret Try.prog 7 [g.v] (.tup [.nilslice,.int .i64 1]):=by
 have hf:=J6r g hs;rw[hgc] at hf;refine J0h rfl ?_;refine J0d mixed Try.func7 rfl hc7 hr7 rfl ?_
 repeat' ((conv=>whnf);first|(refine Br.ff ?_)|(refine hf.go ?_))
 all_goals (conv=>whnf)
 exact VLe.rfl
theorem J7f (g:G) (hs:g.Small) (hgc:g.conn=false):Ret Try.prog 6 [g.v] (.tup [.nilslice,.int .i64 1]):=by
 have hcn:=J5Y g hs;rw[hgc] at hcn;refine J0h rfl ?_;refine J0d mixed Try.func6 rfl hc6 hr6 rfl ?_
 repeat' ((conv=>whnf);first|(refine Br.ff ?_)|(refine hcn.go ?_))
 all_goals (conv=>whnf)
 exact VLe.rfl
theorem J7o (g:G) (hs:g.Small):Ret Try.prog 4 [g.v,.nilslice] (.bool (decide (g.ports.length > 60\/g.ids.length > 60))):=by
 have s1:=hs.ids;have s2:=hs.ports;refine J0h rfl ?_;refine J0d mixed Try.func4 rfl hc4 hr4 rfl ?_
 repeat' ((conv=>whnf);first|(refine Br.ff ?_)|(refine Br.dec ?_ ?_<;>intro _<;>try omega))
 all_goals (conv=>whnf)
 all_goals exact VLe.bool (by symm;first|(rw[decide_eq_true_eq];omega)|(rw[decide_eq_false_iff_not];omega))
theorem J5H:Ret Try.prog 8 [.nilslice,.nilslice] (.bool true):=by
 refine J0h rfl ?_;refine J0d mixed Try.func8 rfl hc8 hr8 rfl ?_
 repeat' ((conv=>whnf);first|(refine Br.ff ?_))
 all_goals (conv=>whnf)
 refine J04 mixed 1 ?_
 repeat' ((conv=>whnf);first|(refine Br.ff ?_))
 all_goals (conv=>whnf)
 exact VLe.rfl
set_option maxHeartbeats 8000000 in
theorem J9S (g:G) (hs:g.Small):Ret Try.prog 3 [g.v] (.bool true):=by
 have hl:=J7o g hs;have hk:=J8N;refine J0h rfl ?_;refine J0d mixed Try.func3 rfl hc3 hr3 rfl ?_;by_cases hbig:g.ports.length > 60\/g.ids.length > 60
 . rw[decide_eq_true hbig] at hl
   repeat' ((conv=>whnf);first|(refine Br.tt ?_)|(refine hl.go ?_)|(refine hk.go ?_))
   all_goals (conv=>whnf)
   exact VLe.rfl
 rw[decide_eq_false hbig] at hl;cases hgc:g.conn with
 | true =>
   have h1:=Q1b g hs hgc;have h2:=J6u g hs hgc;have hlen:(J2v g).length<=1000:=by
    have h5:=J9u (J0o hgc).1;rw[<- J3n (J0o hgc).1] at h5;have h6:=J5F g (J0l g).length;rw[J5G] at h6;omega
   have h3:=J6p (J2v g) hlen
   repeat' ((conv=>whnf);first|(refine Br.tt ?_)|(refine Br.ff ?_)|(refine hl.go ?_)|(refine hk.go ?_)|(refine h1.go ?_)|(refine h2.go ?_)|(refine h3.go ?_))
   all_goals (conv=>whnf)
   all_goals exact VLe.rfl
 | false =>
   have h1:=J7f g hs hgc;have h2:=J6v g hs hgc;have h3:=J5H
   repeat' ((conv=>whnf);first|(refine Br.tt ?_)|(refine Br.ff ?_)|(refine hl.go ?_)|(refine hk.go ?_)|(refine h1.go ?_)|(refine h2.go ?_)|(refine h3.go ?_))
   all_goals (conv=>whnf)
   all_goals exact VLe.rfl
open Go.Eng Go.ChangeShapes Go.WideShapes Go.ChangeAt Go.RowKit
theorem J5v (os:Os) (started:os.Started) (H:Type) (enc:TypeId×Value->H) :
 ReturnsInHanded {} Try.checked os 3 .any (Rows.widestSpansSpec.pre6 enc Try.prog Try.f3 Rows.widestSpansRow.domain false) (Rows.widestSpansSpec.post enc Try.prog Try.f3 false true false false):=by
 refine returnsInHanded_of_change (C:=Try.checked) own started (by kernel_rfl) Try.func3
  (ChangeSpec.witness6 (enc:=enc) (C:=Try.checked) false ⟨#[],#[.agg #[.slice none 0 0,.slice none 0 0]],[]⟩ 8 (by kernel_rfl) (by kernel_rfl) (by kernel_rfl) (by kernel_rfl)) ?_
 intro W base args ds gs before hval0 hW hcnd _;have hval:∀(j:Nat) t v,Try.f3.params[j]?=some t->args[j]?=some v->Value.okWide Try.prog W .any base t v:=hval0;have hW':=hW;obtain⟨p,q,hA0,hV,rfl,hfz,hnd⟩:=hW;have hA:DataW.TrodAll enc Try.prog W 0 (fun _=>true) true Try.f3.params.toList args.toList ds p:=hA0;rw[Try.params3] at hA hval;obtain⟨v0,vs0,d0,ds0,p0,q0,hargs,rfl,rfl,h0,r0⟩:=trodAll_cons hA;obtain⟨rfl,rfl,rfl⟩:=trodAll_nil r0;obtain rfl:args=#[v0]:=by cases args;simp_all
 obtain⟨rfl,rfl⟩:=trodVars_none hV;obtain⟨g,hs,hr⟩:=Q0h (Q0A (hval 0 25 v0 rfl rfl)) h0;refine(J9n (args:=#[v0]) (W:=W) (J9S g hs) rfl ?_).mono ?_
 . intro i v u hv hu
   match i,hv,hu with
   | 0,hv,hu=>simp at hv hu;subst hv hu;exact hr
   | i+1,hv,hu=>simp at hv
 . rintro e W' ⟨rfl,hb⟩;refine⟨_,rfl,Q1u (tb:=4) laid rfl hW' ?_ (by kernel_rfl) Try.underlying4 rfl rfl rfl hb⟩;rw[Try.params3];intro t ht;simp at ht;subst ht;exact⟨Q4F,Q4x⟩
theorem widestSpans_holds:Rows.WidestSpansSaid :=
 OpenClaim.holds_of_wide 3 Try.f3 rfl rfl rfl rfl rfl rfl rfl ⟨rfl,rfl,rfl,rfl,rfl⟩ rfl rfl rfl rfl rfl (by kernel_rfl) Try.func3 (by kernel_rfl)
  (of_decide_eq_true (by kernel_rfl)) (by unfold Func.isWrapper;first|(rw[if_pos (by decide +kernel)];kernel_rfl)|(rw[if_neg (by decide +kernel)];exact⟨rfl,rfl⟩))
  (fun os started H enc _=>J5v os started H enc)
end Go.Proofs.Ytojoidgjneapfaa
