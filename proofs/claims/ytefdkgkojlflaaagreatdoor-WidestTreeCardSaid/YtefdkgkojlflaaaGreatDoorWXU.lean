import Derived.Test.YtefdkgkojlflaaaGreatDoorWX5
import Derived.Test.YtefdkgkojlflaaaGreatDoorRN1
namespace Go.Proofs.YtefdkgkojlflaaaGreatDoor
open Go.Eng
set_option maxRecDepth 100000
set_option linter.unusedVariables false
inductive JD (D:List (Nat×Nat)):Nat->Nat->Prop
 | refl (u:Nat):JD D u u
 | edge {u v:Nat} (h:(u,v)∈D):JD D u v
 | symm {u v:Nat} (h:JD D u v):JD D v u
 | trans {u v w:Nat} (h:JD D u v) (h':JD D v w):JD D u w
theorem JD.mono {D D':List (Nat×Nat)} (hs:∀p∈D,p∈D') {u v:Nat} (h:JD D u v):JD D' u v:=by
 induction h with
 | refl u=>exact .refl u
 | edge h=>exact .edge (hs _ h)
 | symm _ ih=>exact .symm ih
 | trans _ _ i1 i2=>exact .trans i1 i2
theorem JD.snoc {D:List (Nat×Nat)} {a b u v:Nat}:JD (D++[(a,b)]) u v↔JD D u v\/(JD D u a/\JD D b v)\/(JD D u b/\JD D a v):=by
 constructor
 . intro h
   induction h with
   | refl u=>exact .inl (.refl u)
   | edge h =>
     rcases List.mem_append.1 h with h|h
     . exact .inl (.edge h)
     . simp at h;obtain⟨rfl,rfl⟩:=h;exact .inr (.inl ⟨.refl _,.refl _⟩)
   | symm _ ih =>
     rcases ih with h | ⟨h1,h2⟩ | ⟨h1,h2⟩
     . exact .inl h.symm
     . exact .inr (.inr ⟨h2.symm,h1.symm⟩)
     . exact .inr (.inl ⟨h2.symm,h1.symm⟩)
   | trans _ _ i1 i2 =>
     rcases i1 with h | ⟨h1,h2⟩ | ⟨h1,h2⟩<;>rcases i2 with k | ⟨k1,k2⟩ | ⟨k1,k2⟩
     . exact .inl (h.trans k)
     . exact .inr (.inl ⟨h.trans k1,k2⟩)
     . exact .inr (.inr ⟨h.trans k1,k2⟩)
     . exact .inr (.inl ⟨h1,h2.trans k⟩)
     . exact .inr (.inl ⟨h1,k2⟩)
     . exact .inl (h1.trans k2)
     . exact .inr (.inr ⟨h1,h2.trans k⟩)
     . exact .inl (h1.trans k2)
     . exact .inr (.inr ⟨h1,k2⟩)
 . intro h;have hm:∀{x y:Nat},JD D x y->JD (D++[(a,b)]) x y:=fun h=>h.mono fun p hp=>List.mem_append.2 (.inl hp);have he:JD (D++[(a,b)]) a b:=.edge (List.mem_append.2 (.inr (by simp)));rcases h with h | ⟨h1,h2⟩ | ⟨h1,h2⟩
   . exact hm h
   . exact((hm h1).trans he).trans (hm h2)
   . exact((hm h1).trans he.symm).trans (hm h2)
def PtI (n:Nat) (D:List (Nat×Nat)) (p:Nat->Int):Prop:=∀u v,u<n->v<n->(p u=p v↔JD D u v)
theorem PtI.start (n:Nat):PtI n [] (fun v=>(v:Int)):=by
 intro u v _ _;constructor
 . intro e;have e:(u:Int)=(v:Int):=e;have:u=v:=by omega
   subst this;exact .refl u
 . intro h;have key:∀{x y:Nat},JD [] x y->x=y:=fun h=>by
    induction h with
    | refl u=>rfl
    | edge h=>simp at h
    | symm _ ih=>exact ih.symm
    | trans _ _ i1 i2=>exact i1.trans i2
   rw[key h]
def joP (p:Nat->Int) (a b:Nat):Nat->Int:=fun v=>if p v=max (p a) (p b) then min (p a) (p b) else p v
theorem PtI.join {n:Nat} {D:List (Nat×Nat)} {p:Nat->Int} (h:PtI n D p) {a b:Nat} (ha:a<n) (hb:b<n):PtI n (D++[(a,b)]) (joP p a b):=by
 intro u v hu hv;rw[JD.snoc,<- h u v hu hv,<- h u a hu ha,<- h b v hb hv,<- h u b hu hb,<- h a v ha hv,joP,joP];generalize p u=x;generalize p v=y;generalize p a=s;generalize p b=t;split<;>split<;>omega
inductive Jn (g:G) (w:Int) (a:Nat):Nat->Prop
 | refl:Jn g w a a
 | step {v:Nat} {l:Int×Int} (hv:v<g.ids.length) (hl:l∈gR g.ports v) (hw:l.2<w) (h:Jn g w a l.1.toNat):Jn g w a v
def ClJ (g:G) (w:Int) (x:Nat->Bool):Prop:=∀v,v<g.ids.length->∀l∈gR g.ports v,l.2<w->x l.1.toNat=true->x v=true
theorem Jn.in_ {g:G} {w:Int} {a:Nat} {x:Nat->Bool} (hc:ClJ g w x) (ha:x a=true) {v:Nat} (h:Jn g w a v):x v=true:=by
 induction h with
 | refl=>exact ha
 | step hv hl hw _ ih=>exact hc _ hv _ hl hw ih
structure EdgeG (g:G) (u v:Nat) (w:Int):Prop where
 lu:u<g.ids.length
 lv:v<g.ids.length
 mem:((v:Int),w)∈gR g.ports u
theorem EdgeG.symm {g:G} (hg:g.valid=true) {u v:Nat} {w:Int} (h:EdgeG g u v w):EdgeG g v u w:=by
 obtain⟨f1,f2,f3,f4,f5,f6,f7⟩:=val_facts hg;have:=f7 u (by rw[f3];exact h.lu) _ h.mem;simp only[Int.toNat_natCast] at this;exact⟨h.lv,h.lu,this⟩
def LtD (g:G) (w:Int) (D:List (Nat×Nat)):Prop:=(∀u v,(u,v)∈D->∃k,EdgeG g u v k/\k<w)/\∀u v k,EdgeG g u v k->k<w->(u,v)∈D\/(v,u)∈D
theorem jn_jd {g:G} (hg:g.valid=true) {w:Int} {D:List (Nat×Nat)} (hD:LtD g w D) {a v:Nat} (ha:a<g.ids.length):Jn g w a v↔(v<g.ids.length/\JD D a v):=by
 obtain⟨f1,f2,f3,f4,f5,f6,f7⟩:=val_facts hg;constructor
 . intro h
   induction h with
   | refl=>exact⟨ha,.refl a⟩
   | step hv hl hw hu ih =>
     rename_i v l;have hok:=(okR_iff.1 (f6 v (by omega))).1 l hl;refine⟨hv,ih.2.trans ?_⟩;have he:EdgeG g v l.1.toNat l.2:=⟨hv,by omega,by rw[Int.toNat_of_nonneg (by omega)];exact hl⟩;rcases hD.2 _ _ _ he hw with q|q
     . exact(JD.edge q).symm
     . exact JD.edge q
 . rintro⟨hv,h⟩;have tr:∀{x y z:Nat},Jn g w x y->Jn g w y z->Jn g w x z:=fun h h'=>by
    induction h' with
    | refl=>exact h
    | step hv hl hw _ ih=>exact .step hv hl hw ih
   have one:∀{x y:Nat} {k:Int},EdgeG g x y k->k<w->Jn g w x y:=fun {x y k} he hk=>by
    have he':=he.symm hg;exact .step (l:=((x:Int),k)) he.lv he'.mem hk (by simp only[Int.toNat_natCast];exact .refl)
   have sy:∀{x y:Nat},x<g.ids.length->Jn g w x y->Jn g w y x/\y<g.ids.length:=fun {x y} hx h=>by
    induction h with
    | refl=>exact⟨.refl,hx⟩
    | step hv hl hw hu ih =>
      rename_i v l;have hok:=(okR_iff.1 (f6 v (by omega))).1 l hl;have he:EdgeG g v l.1.toNat l.2:=⟨hv,by omega,by rw[Int.toNat_of_nonneg (by omega)];exact hl⟩;exact⟨tr (one he hw) ih.1,hv⟩
   have key:∀{x y:Nat},JD D x y->(x<g.ids.length\/y<g.ids.length)->Jn g w x y/\x<g.ids.length/\y<g.ids.length:=by
    intro x y h
    induction h with
    | refl u=>intro q;exact⟨.refl,by omega,by omega⟩
    | edge h =>
      intro _;obtain⟨k,he,hk⟩:=hD.1 _ _ h;exact⟨one he hk,he.lu,he.lv⟩
    | symm _ ih =>
      intro q;obtain⟨i1,i2,i3⟩:=ih q.symm;exact⟨(sy i2 i1).1,i3,i2⟩
    | trans _ _ i1 i2 =>
      intro q;rcases q with q|q
      . obtain⟨a1,a2,a3⟩:=i1 (.inl q);obtain⟨b1,b2,b3⟩:=i2 (.inl a3);exact⟨tr a1 b1,a2,b3⟩
      . obtain⟨b1,b2,b3⟩:=i2 (.inr q);obtain⟨a1,a2,a3⟩:=i1 (.inr b2);exact⟨tr a1 b1,a2,b3⟩
   exact(key h (.inl ha)).1
structure CPs (g:G) (w:Int) (a r v i:Nat) (x:Nat->Bool):Prop where
 start:x a=true
 snd:∀u,x u=true->Jn g w a u
 cl:ClJ g w x\/r+2<=cntU x g.ids.length\/(r+1<=cntU x g.ids.length/\∀u j,(u<v\/(u=v/\j<i))->u<g.ids.length->j<(gR g.ports u).length->(gF (gR g.ports u) j).2<w->x (gF (gR g.ports u) j).1.toNat=true->x u=true)
structure CIv (g:G) (w:Int) (a r:Nat) (x:Nat->Bool):Prop where
 start:x a=true
 snd:∀u,x u=true->Jn g w a u
 cl:ClJ g w x\/r+1<=cntU x g.ids.length
theorem cup_self {x:Nat->Bool} {v:Nat}:cup x v (x v)=x:=by
 funext u;rw[cup];split
 . rename_i e;rw[e]
 . rfl
theorem CPs.step {g:G} {w:Int} {a r v i:Nat} {x:Nat->Bool} (h:CPs g w a r v i x) (hv:v<g.ids.length) (hi:i<(gR g.ports v).length) :
 CPs g w a r v (i+1) (cup x v (x v || (decide ((gF (gR g.ports v) i).2<w)&&x (gF (gR g.ports v) i).1.toNat))):=by
 have hl:=gF_mem hi;generalize hL:gF (gR g.ports v) i=l at *;by_cases hadd:l.2<w/\x l.1.toNat=true/\x v=false
 . obtain⟨q1,q2,q3⟩:=hadd;have hx:(x v || (decide (l.2<w)&&x l.1.toNat))=true:=by rw[q2,decide_eq_true q1];simp
   rw[hx];have hc:cntU (cup x v true) g.ids.length=cntU x g.ids.length+1:=cntU_one (u:=v) (by rw[cup,if_pos rfl]) q3 (fun u hu=>by rw[cup,if_neg hu]) hv;have hst:∀u,x u=true->cup x v true u=true:=fun u e=>by
    rw[cup];split
    . rfl
    . exact e
   refine⟨hst a h.start,fun u e=>?_,?_⟩
   . by_cases eu:u=v
     . subst eu;exact .step hv hl q1 (h.snd _ q2)
     . rw[cup,if_neg eu] at e;exact h.snd u e
   . rcases h.cl with q|q | ⟨q,_⟩
     . have:=q v hv l hl q1 q2;rw[q3] at this;cases this
     . exact .inr (.inl (by omega))
     . exact .inr (.inl (by omega))
 . have hx:(x v || (decide (l.2<w)&&x l.1.toNat))=x v:=by
    cases e:x v with
    | true=>rfl
    | false =>
      rw[Bool.false_or,Bool.and_eq_false_iff,decide_eq_false_iff_not];by_cases q1:l.2<w
      . right;cases e2:x l.1.toNat with
        | false=>rfl
        | true=>exact(hadd ⟨q1,e2,e⟩).elim
      . exact .inl q1
   rw[hx,cup_self];refine⟨h.start,h.snd,h.cl.imp id (Or.imp id fun⟨q,q'⟩=>⟨q,fun u j hq hu hj hw hxl=>?_⟩)⟩;by_cases e:u=v/\j=i
   . obtain⟨rfl,rfl⟩:=e;rw[hL] at hw hxl;cases e:x u with
     | true=>rfl
     | false=>exact(hadd ⟨hw,hxl,e⟩).elim
   . exact q' u j (by omega) hu hj hw hxl
theorem CPs.row {g:G} {w:Int} {a r v:Nat} {x:Nat->Bool} (h:CPs g w a r v (gR g.ports v).length x):CPs g w a r (v+1) 0 x :=
 ⟨h.start,h.snd,h.cl.imp id (Or.imp id fun⟨q,q'⟩=>⟨q,fun u j hq hu hj=>q' u j (by
   rcases Nat.lt_or_ge u v with e|e
   . exact .inl e
   . obtain rfl:u=v:=by omega
     exact .inr ⟨rfl,hj⟩) hu hj⟩)⟩
theorem CPs.over {g:G} {w:Int} {a r v:Nat} {x:Nat->Bool} (h:CPs g w a r v 0 x) (hv:g.ids.length<=v):CIv g w a (r+1) x:=by
 refine⟨h.start,h.snd,?_⟩;rcases h.cl with q|q | ⟨_,q⟩
 . exact .inl q
 . exact .inr q
 . refine .inl fun u hu l hl hw hx=>?_;obtain⟨j,hj,ej⟩:=List.getElem_of_mem hl;have ej:gF (gR g.ports u) j=l:=by rw[<- ej];simp[gF,List.getD,hj]
   exact q u j (.inl (by omega)) hu hj (by rw[ej];exact hw) (by rw[ej];exact hx)
theorem CIv.done {g:G} {w:Int} {a:Nat} {x:Nat->Bool} (h:CIv g w a g.ids.length x) (v:Nat):x v=true↔Jn g w a v:=by
 refine⟨h.snd v,fun q=>?_⟩;rcases h.cl with c|c
 . exact q.in_ c h.start
 . have:=cntV_all x g.ids.length;omega
structure Ed where
 a:Nat
 b:Nat
 w:Int
 deriving DecidableEq
instance:Inhabited Ed:=⟨⟨0,0,0⟩⟩
def Ed.lt (e f:Ed):Prop:=e.a<f.a\/(e.a=f.a/\e.b<f.b)
theorem sorted_uniq {α:Type} {r:α->α->Prop} (has:∀x y,r x y->¬ r y x):∀(l m:List α),l.Pairwise r->m.Pairwise r->(∀x,x∈l↔x∈m)->l=m
 | [],m,_,_,h=>by
   cases m with
   | nil=>rfl
   | cons y m=>exact absurd ((h y).2 (by simp)) (by simp)
 | x::l,[],_,_,h=>absurd ((h x).1 (by simp)) (by simp)
 | x::l,y::m,hl,hm,h=>by
   rw[List.pairwise_cons] at hl hm;have hxy:x=y:=by
    apply Classical.byContradiction;intro ne;have h1:x∈m:=by
     rcases List.mem_cons.1 ((h x).1 (by simp)) with q|q
     . exact(ne q).elim
     . exact q
    have h2:y∈l:=by
     rcases List.mem_cons.1 ((h y).2 (by simp)) with q|q
     . exact(ne q.symm).elim
     . exact q
    exact has _ _ (hl.1 y h2) (hm.1 x h1)
   subst hxy;have irr:∀z,z∈l->z≠x:=fun z hz e=>by subst e;exact has _ _ (hl.1 z hz) (hl.1 z hz)
   have irr2:∀z,z∈m->z≠x:=fun z hz e=>by subst e;exact has _ _ (hm.1 z hz) (hm.1 z hz)
   rw[sorted_uniq has l m hl.2 hm.2 fun z=>?_];constructor
   . intro hz;rcases List.mem_cons.1 ((h z).1 (List.mem_cons_of_mem _ hz)) with q|q
     . exact(irr z hz q).elim
     . exact q
   . intro hz;rcases List.mem_cons.1 ((h z).2 (List.mem_cons_of_mem _ hz)) with q|q
     . exact(irr2 z hz q).elim
     . exact q
theorem lt_as (e f:Ed) (h:e.lt f):¬ f.lt e:=by
 intro h';rcases h with h|h<;>rcases h' with h'|h'<;>omega
def edE (g:G) (a b:Nat):Option Ed:=if a<b/\0<=ptoI 0 (gR g.ports a) b then some ⟨a,b,(gF (gR g.ports a) (ptoI 0 (gR g.ports a) b).toNat).2⟩ else none
def edgesL (g:G):List Ed:=(List.range g.ids.length).flatMap fun a=>(List.range g.ids.length).filterMap (edE g a)
theorem pto_spec {b:Int}:∀{l:Lt2'} {k:Nat},(ptoI k l b=-1/\∀a∈l,a.1≠b)\/∃i,i<l.length/\ptoI k l b=((k+i:Nat):Int)/\(gF l i).1=b
 | [],_=>.inl ⟨rfl,by simp⟩
 | a::r,k=>by
   rw[ptoI];by_cases e:a.1=b
   . rw[if_pos e];exact .inr ⟨0,by simp,rfl,e⟩
   . rw[if_neg e];rcases pto_spec (b:=b) (l:=r) (k:=k+1) with ⟨h1,h2⟩ | ⟨i,h1,h2,h3⟩
     . refine .inl ⟨h1,fun x hx=>?_⟩;rcases List.mem_cons.1 hx with q|q
       . rw[q];exact e
       . exact h2 x q
     . exact .inr ⟨i+1,by simp;omega,by rw[h2];congr 1;omega,by simpa[gF] using h3⟩
theorem fst_inj {r:Lt2'} (h:(r.map (·.1)).Nodup) {x y:Int×Int} (hx:x∈r) (hy:y∈r) (e:x.1=y.1):x=y:=by
 obtain⟨i,hi,rfl⟩:=List.getElem_of_mem hx;obtain⟨j,hj,rfl⟩:=List.getElem_of_mem hy;have hp:=List.pairwise_iff_getElem.1 h;rcases Nat.lt_trichotomy i j with q|q|q
 . exact(hp i j (by simpa using hi) (by simpa using hj) q (by simpa using e)).elim
 . subst q;rfl
 . exact(hp j i (by simpa using hj) (by simpa using hi) q (by simpa using e.symm)).elim
theorem edE_iff {g:G} (hg:g.valid=true) {a b:Nat} (ha:a<g.ids.length) (hb:b<g.ids.length) {e:Ed}:edE g a b=some e↔(e.a=a/\e.b=b/\a<b/\EdgeG g a b e.w):=by
 obtain⟨f1,f2,f3,f4,f5,f6,f7⟩:=val_facts hg;have hnd:=(okR_iff.1 (f6 a (by omega))).2;rw[edE];rcases pto_spec (b:=(b:Int)) (l:=gR g.ports a) (k:=0) with ⟨h1,h2⟩ | ⟨i,h1,h2,h3⟩
 . rw[if_neg (by omega)];refine⟨fun h=>(by cases h),fun⟨_,_,_,h⟩=>(h2 _ h.mem rfl).elim⟩
 . rw[Nat.zero_add] at h2;rw[h2,Int.toNat_natCast];have hm:=gF_mem h1;by_cases q:a<b
   . rw[if_pos ⟨q,by omega⟩];constructor
     . intro h;cases h;refine⟨rfl,rfl,q,⟨ha,hb,?_⟩⟩;simp only;rw[<- h3];exact hm
     . rintro⟨e1,e2,_,h⟩;have:=fst_inj hnd h.mem hm (by rw[h3]);obtain⟨ea,eb,ew⟩:=e;simp only at e1 e2 this;subst e1 e2;rw[<- this]
   . rw[if_neg (fun h=>q h.1)];exact⟨fun h=>(by cases h),fun h=>(q h.2.2.1).elim⟩
theorem edges_mem {g:G} (hg:g.valid=true) {e:Ed}:e∈edgesL g↔(e.a<e.b/\EdgeG g e.a e.b e.w):=by
 simp only[edgesL,List.mem_flatMap,List.mem_range,List.mem_filterMap];constructor
 . rintro⟨a,ha,b,hb,h⟩;obtain⟨rfl,rfl,h1,h2⟩:=(edE_iff hg ha hb).1 h;exact⟨h1,h2⟩
 . rintro⟨h1,h2⟩;exact⟨e.a,h2.lu,e.b,h2.lv,(edE_iff hg h2.lu h2.lv).2 ⟨rfl,rfl,h1,h2⟩⟩
theorem edges_sorted (g:G):(edgesL g).Pairwise Ed.lt:=by
 have hr:∀n:Nat,(List.range n).Pairwise (·<·):=fun n=>List.pairwise_lt_range;have ea:∀{a b:Nat} {e:Ed},edE g a b=some e->e.a=a/\e.b=b:=fun {a b e} h=>by
  rw[edE] at h;split at h
  . cases h;exact⟨rfl,rfl⟩
  . cases h
 rw[edgesL,List.pairwise_flatMap];refine⟨fun a _=>?_,(hr _).imp fun {a a'} haa x hx y hy=>?_⟩
 . rw[List.pairwise_filterMap];refine(hr _).imp fun {b b'} hbb x hx y hy=>?_;obtain⟨x1,x2⟩:=ea hx;obtain⟨y1,y2⟩:=ea hy;exact .inr ⟨by omega,by omega⟩
 . obtain⟨b,_,hx⟩:=List.mem_filterMap.1 hx;obtain⟨b',_,hy⟩:=List.mem_filterMap.1 hy;obtain⟨x1,x2⟩:=ea hx;obtain⟨y1,y2⟩:=ea hy;exact .inl (by omega)
def rawE (v:Nat) (l:Int×Int):Option Ed:=if (v:Int)<l.1 then some ⟨v,l.1.toNat,l.2⟩ else none
def rawL (g:G):List Ed:=(List.range g.ids.length).flatMap fun v=>(gR g.ports v).filterMap (rawE v)
theorem raw_mem {g:G} (hg:g.valid=true) {e:Ed}:e∈rawL g↔(e.a<e.b/\EdgeG g e.a e.b e.w):=by
 obtain⟨f1,f2,f3,f4,f5,f6,f7⟩:=val_facts hg;simp only[rawL,List.mem_flatMap,List.mem_range,List.mem_filterMap,rawE];constructor
 . rintro⟨v,hv,l,hl,h⟩;have hok:=(okR_iff.1 (f6 v (by omega))).1 l hl;split at h
   . rename_i q;cases h;refine⟨by show v<l.1.toNat;omega,⟨hv,by show l.1.toNat<_;omega,?_⟩⟩;show(((l.1.toNat:Nat):Int),l.2)∈_;rw[Int.toNat_of_nonneg (by omega)];exact hl
   . cases h
 . rintro⟨h1,h2⟩;refine⟨e.a,h2.lu,_,h2.mem,?_⟩;rw[if_pos (by simp only;omega)];simp
theorem raw_nodup {g:G} (hg:g.valid=true):(rawL g).Nodup:=by
 obtain⟨f1,f2,f3,f4,f5,f6,f7⟩:=val_facts hg;rw[rawL,List.nodup_iff_pairwise_ne,List.pairwise_flatMap];have ra:∀{v:Nat} {l:Int×Int} {e:Ed},rawE v l=some e->e.a=v/\e.b=l.1.toNat/\(v:Int)<l.1:=fun {v l e} h=>by
  rw[rawE] at h;split at h
  . rename_i q;cases h;exact⟨rfl,rfl,q⟩
  . cases h
 refine⟨fun v hv=>?_,List.pairwise_lt_range.imp fun {a a'} haa x hx y hy e=>?_⟩
 . rw[List.pairwise_filterMap];have hnd:=(okR_iff.1 (f6 v (by have:=List.mem_range.1 hv;omega))).2;rw[List.nodup_iff_pairwise_ne,List.pairwise_map] at hnd;refine hnd.imp fun {l l'} hne x hx y hy e=>?_;obtain⟨x1,x2,x3⟩:=ra hx;obtain⟨y1,y2,y3⟩:=ra hy;apply hne;rw[e] at x2;omega
 . obtain⟨l,_,hx⟩:=List.mem_filterMap.1 hx;obtain⟨l',_,hy⟩:=List.mem_filterMap.1 hy;have:=(ra hx).1;have:=(ra hy).1;rw[e] at *;omega
theorem sorted_edges {g:G} (hg:g.valid=true) {L:List Ed} (hp:L.Perm (rawL g)) (hs:L.Pairwise fun e f=>¬ f.lt e):L=edgesL g:=by
 obtain⟨f1,f2,f3,f4,f5,f6,f7⟩:=val_facts hg;have hmem:∀e,e∈L↔(e.a<e.b/\EdgeG g e.a e.b e.w):=fun e=>by rw[hp.mem_iff,raw_mem hg]
 have hnd:L.Nodup:=hp.nodup_iff.2 (raw_nodup hg);have hst:L.Pairwise Ed.lt:=by
  rw[List.nodup_iff_pairwise_ne] at hnd;have hboth:=hs.and hnd;refine List.Pairwise.imp_of_mem (fun {e f} he hf h=>?_) hboth;obtain⟨h1,h2⟩:=h;apply Classical.byContradiction;intro q;apply h2;have hab:e.a=f.a/\e.b=f.b:=by simp only[Ed.lt] at h1 q;omega
  have me:=((hmem e).1 he).2;have mf:=((hmem f).1 hf).2;have hndr:=(okR_iff.1 (f6 e.a (by have:=me.lu;omega))).2;rw[<- hab.1,<- hab.2] at mf;have:=fst_inj hndr me.mem mf.mem rfl;obtain⟨ea,eb,ew⟩:=e;obtain⟨fa,fb,fw⟩:=f;simp only at hab this;obtain⟨rfl,rfl⟩:=hab;rw[(Prod.mk.inj this).2]
 exact sorted_uniq lt_as _ _ hst (edges_sorted g) fun e=>by rw[hmem,edges_mem hg]
open Classical in
noncomputable def chE (g:G) (e:Ed):Bool:=decide (¬ Jn g e.w e.a e.b)
noncomputable def selE (g:G) (a b:Nat):Option (Nat×Nat):=match edE g a b with
 | some e=>if chE g e=true then some (a,b) else none
 | none=>none
noncomputable def spanL (g:G):List (Nat×Nat):=(List.range g.ids.length).flatMap fun a=>(List.range g.ids.length).filterMap (selE g a)
theorem span_edges (g:G):((edgesL g).filter (chE g)).map (fun e=>(e.a,e.b))=spanL g:=by
 rw[edgesL,spanL,List.filter_flatMap,List.map_flatMap];congr 1;funext a;rw[List.filter_filterMap,List.map_filterMap];congr 1;funext b;rw[selE];cases h:edE g a b with
 | none=>rfl
 | some e =>
   have:e.a=a/\e.b=b:=by
    rw[edE] at h;split at h
    . cases h;exact⟨rfl,rfl⟩
    . cases h
   simp only[Option.filter,Option.map];by_cases q:chE g e=true
   . rw[if_pos q,if_pos q];simp[this.1,this.2]
   . rw[if_neg q,if_neg q]
def prs (l:List Ed):List (Nat×Nat):=l.map fun e=>(e.a,e.b)
theorem ltD_prefix {g:G} (hg:g.valid=true) {B:List Ed} (hp:B.Perm (edgesL g)) (hs:B.Pairwise fun e f=>e.w<=f.w) {i:Nat} {w:Int} (hlt:∀j,j<i->∀e,B[j]?=some e->e.w<w) (hge:∀j,i<=j->∀e,B[j]?=some e->w<=e.w) :
 LtD g w (prs (B.take i)):=by
 constructor
 . intro u v h;obtain⟨e,he,q⟩:=List.mem_map.1 h;simp only[Prod.mk.injEq] at q;obtain⟨rfl,rfl⟩:=q;obtain⟨j,hj,ej⟩:=List.getElem_of_mem he;rw[List.getElem_take] at ej;have hm:=((edges_mem hg).1 (hp.mem_iff.1 (List.mem_of_mem_take he))).2;exact⟨e.w,hm,hlt j (by simp at hj;omega) e (by rw[List.getElem?_eq_getElem (by simp at hj;omega),ej])⟩
 . intro u v k h hk;have key:∀{u v:Nat},EdgeG g u v k->u<v->(u,v)∈prs (B.take i):=fun {u v} h huv=>by
    have hm:(⟨u,v,k⟩:Ed)∈B:=hp.mem_iff.2 ((edges_mem hg).2 ⟨huv,h⟩);obtain⟨j,hj,ej⟩:=List.getElem_of_mem hm;have hji:j<i:=by
     apply Nat.lt_of_not_le;intro q;have:=hge j q ⟨u,v,k⟩ (by rw[List.getElem?_eq_getElem hj,ej]);simp only at this;omega
    refine List.mem_map.2 ⟨⟨u,v,k⟩,?_,rfl⟩;rw[<- ej];exact List.mem_iff_getElem.2 ⟨j,by simp;omega,by rw[List.getElem_take]⟩
   rcases Nat.lt_trichotomy u v with q|q|q
   . exact .inl (key h q)
   . exfalso;subst q;obtain⟨f1,f2,f3,f4,f5,f6,f7⟩:=val_facts hg;have:=(okR_iff.1 (f6 u (by have:=h.lu;omega))).1 _ h.mem;simp only at this;omega
   . exact .inr (key (h.symm hg) q)
abbrev gE (L:List Ed) (i:Nat):Ed:=L.getD i default
def eF (L:List Ed):Nat->Nat->V:=fun i j=>match j with
 | 0=>.int .i64 (gE L i).a
 | 1=>.int .i64 (gE L i).b
 | _=>.int .i64 (gE L i).w
structure Wo (lt:Ed->Ed->Prop):Prop where
 asy:∀x y,lt x y->¬ lt y x
 nt:∀x y z,¬ lt y x->¬ lt z y->¬ lt z x
def swE (L:List Ed) (i j:Nat):List Ed:=(L.set i (gE L j)).set j (gE L i)
theorem swE_len (L:List Ed) (i j:Nat):(swE L i j).length=L.length:=by simp[swE]
theorem swE_get {L:List Ed} {i j:Nat} (hi:i<L.length) (hj:j<L.length) (k:Nat):gE (swE L i j) k=if k=j then gE L i else if k=i then gE L j else gE L k:=by
 simp only[gE,swE,List.getD,List.getElem?_set,List.length_set];by_cases e:k=j
 . subst e;simp[hj]
 . rw[if_neg (fun q=>e q.symm),if_neg e];by_cases e2:k=i
   . subst e2;simp[hi]
   . rw[if_neg (fun q=>e2 q.symm),if_neg e2]
theorem ext_gE {l m:List Ed} (hl:l.length=m.length) (h:∀k,k<l.length->gE l k=gE m k):l=m :=
 List.ext_getElem hl fun k h1 h2=>by have:=h k h1;simpa[gE,List.getD,h1,h2] using this
theorem swE_perm {L:List Ed} {i:Nat} (hi:i+1<L.length):(swE L (i+1) i).Perm L:=by
 have e:L=L.take i++(gE L i::gE L (i+1)::L.drop (i+2)):=by
  have h1:L.drop i=gE L i::L.drop (i+1):=by rw[List.drop_eq_getElem_cons (by omega)];simp[gE,List.getD,show i<L.length by omega]
  have h2:L.drop (i+1)=gE L (i+1)::L.drop (i+2):=by rw[List.drop_eq_getElem_cons (by omega)];simp[gE,List.getD,hi]
  rw[<- h2,<- h1,List.take_append_drop]
 have e2:swE L (i+1) i=L.take i++(gE L (i+1)::gE L i::L.drop (i+2)):=by
  refine ext_gE (by rw[swE_len];simp;omega) fun k hk=>?_;rw[swE_len] at hk;rw[swE_get hi (by omega)];have ht:(L.take i).length=i:=by simp;omega
  simp only[gE,List.getD];rcases Nat.lt_trichotomy k i with q|q|q
  . rw[if_neg (by omega),if_neg (by omega),List.getElem?_append_left (by omega),List.getElem?_take,if_pos q]
  . subst q;rw[if_pos rfl,List.getElem?_append_right (by omega),ht];simp
  . rw[if_neg (by omega),List.getElem?_append_right (by omega),ht];by_cases q2:k=i+1
    . subst q2;rw[if_pos rfl,show i+1-i=1 by omega];simp
    . rw[if_neg q2];obtain⟨d,rfl⟩:∃d,k=i+2+d:=⟨k-(i+2),by omega⟩;rw[show i+2+d-i=d+2 by omega];simp
 rw[e2]
 conv=>rhs;rw[e]
 exact(List.Perm.swap _ _ _).append_left _
def SoI (lt:Ed->Ed->Prop) (L:List Ed) (i:Nat):Prop:=∀p q,p<q->q<i->¬ lt (gE L q) (gE L p)
structure SoJ (lt:Ed->Ed->Prop) (L:List Ed) (i j:Nat):Prop where
 le:j<=i
 but:∀p q,p<q->q<=i->p≠j->q≠j->¬ lt (gE L q) (gE L p)
 behind:∀q,j<q->q<=i->¬ lt (gE L q) (gE L j)
theorem SoJ.start {lt:Ed->Ed->Prop} {L:List Ed} {i:Nat} (h:SoI lt L i):SoJ lt L i i :=
 ⟨Nat.le_refl _,fun p q h1 h2 h3 h4=>h p q h1 (by omega),fun q h1 h2=>by omega⟩
theorem SoJ.done {lt:Ed->Ed->Prop} (hw:Wo lt) {L:List Ed} {i j:Nat} (h:SoJ lt L i j) (hj:j=0\/¬ lt (gE L j) (gE L (j-1))):SoI lt L (i+1):=by
 intro p q h1 h2;by_cases e:q=j
 . subst e;rcases hj with hj|hj
   . omega
   . by_cases e2:p=q-1
     . rw[e2];exact hj
     . exact hw.nt _ _ _ (h.but p (q-1) (by omega) (by omega) (by omega) (by omega)) hj
 . by_cases e2:p=j
   . subst e2;exact h.behind q h1 (by omega)
   . exact h.but p q h1 (by omega) e2 e
theorem SoJ.step {lt:Ed->Ed->Prop} (hw:Wo lt) {L:List Ed} {i j:Nat} (h:SoJ lt L i (j+1)) (hi:i<L.length) (hlt:lt (gE L (j+1)) (gE L j)):SoJ lt (swE L (j+1) j) i j:=by
 have hle:=h.le;have hg:=fun k=>swE_get (L:=L) (i:=j+1) (j:=j) (by omega) (by omega) k;refine⟨by omega,fun p q h1 h2 h3 h4=>?_,fun q h1 h2=>?_⟩
 . rw[hg,hg,if_neg h4,if_neg h3];by_cases e:q=j+1
   . rw[if_pos e,if_neg (by omega)];exact h.but p j (by omega) (by omega) (by omega) (by omega)
   . rw[if_neg e];by_cases e2:p=j+1
     . rw[if_pos e2];exact h.but j q (by omega) h2 (by omega) e
     . rw[if_neg e2];exact h.but p q h1 h2 e2 e
 . rw[hg,hg,if_neg (by omega),if_pos rfl];by_cases e:q=j+1
   . rw[if_pos e];exact hw.asy _ _ hlt
   . rw[if_neg e];exact h.behind q (by omega) h2
theorem SoI.pairwise {lt:Ed->Ed->Prop} {L:List Ed} (h:SoI lt L L.length):L.Pairwise fun e f=>¬ lt f e:=by
 rw[List.pairwise_iff_getElem];intro i j h1 h2 h3;have:=h i j h3 h2;simpa[gE,List.getD,h1,h2] using this
theorem SoI.one {lt:Ed->Ed->Prop} {L:List Ed} {i:Nat} (h:i<=1):SoI lt L i:=fun p q h1 h2=>by omega
def ltW (e f:Ed):Prop:=e.w<f.w
theorem wo_lt:Wo Ed.lt:=⟨fun x y h h'=>lt_as x y h h',fun x y z h1 h2 h3=>by simp only[Ed.lt] at h1 h2 h3;omega⟩
theorem wo_w:Wo ltW:=⟨fun x y h h'=>by simp only[ltW] at h h';omega,fun x y z h1 h2 h3=>by simp only[ltW] at h1 h2 h3;omega⟩
instance (l:List IntKind):DecidableEq (KyS l):=KyS.dec l
abbrev KE:List IntKind:=[.i64,.i64,.i64]
def keyE (e:Ed):KyT (.st KE):=((e.a:Int),(e.b:Int),e.w,())
theorem keyE_inj {e f:Ed} (h:keyE e=keyE f):e=f:=by
 obtain⟨a,b,w⟩:=e;obtain⟨a',b',w'⟩:=f;obtain⟨h1,h⟩:=Prod.mk.inj h;obtain⟨h2,h⟩:=Prod.mk.inj h;obtain⟨h3,_⟩:=Prod.mk.inj h;simp only at h1 h2 h3;obtain rfl:a=a':=by omega
 obtain rfl:b=b':=by omega
 rw[h3]
theorem mput_new {α:Type} [DecidableEq α]:∀{l:List (α×V)} {k:α} {v:V},(∀p∈l,p.1≠k)->mput l k v=l++[(k,v)]
 | [],_,_,_=>rfl
 | (q,u)::r,k,v,h=>by
   rw[mput,if_neg (h (q,u) (by simp)),mput_new (fun p hp=>h p (by simp[hp]))];rfl
theorem mfind_map {α:Type} [DecidableEq α] {β:Type} {f:β->α} {v:β->V} (hf:∀x y,f x=f y->x=y):∀{l:List β} {x:β},x∈l->mfind (l.map fun x=>(f x,v x)) (f x)=some (v x)
 | [],_,h=>by simp at h
 | y::r,x,h=>by
   rw[List.map_cons,mfind];by_cases e:f y=f x
   . rw[if_pos e,hf _ _ e]
   . rw[if_neg e];rcases List.mem_cons.1 h with q|q
     . subst q;exact(e rfl).elim
     . exact mfind_map hf q
noncomputable def enM (g:G) (l:List Ed):List (KyT (.st KE)×V):=l.map fun e=>(keyE e,.bool (chE g e))
theorem gE_of {L:List Ed} {i:Nat} (h:i<L.length):L[i]=gE L i:=by simp[gE,List.getD,h]
theorem take_gE {L:List Ed} {i:Nat} (h:i<L.length):L.take (i+1)=L.take i++[gE L i]:=by
 rw[List.take_succ_eq_append_getElem h,gE_of h]
theorem enM_put (g:G) {B:List Ed} (hn:B.Nodup) {i:Nat} (hi:i<B.length) {v:V} (hv:v=.bool (chE g (gE B i))):mput (enM g (B.take i)) (keyE (gE B i)) v=enM g (B.take (i+1)):=by
 rw[mput_new,take_gE hi,enM,enM,List.map_append,hv]
 . rfl
 . intro p hp q;obtain⟨e,he,rfl⟩:=List.mem_map.1 hp;have:=keyE_inj q;subst this;obtain⟨j,hj,ej⟩:=List.getElem_of_mem he;simp at hj;rw[List.getElem_take,gE_of (by omega)] at ej;have hp:=List.pairwise_iff_getElem.1 (List.nodup_iff_pairwise_ne.1 hn) j i (by omega) hi (by omega);rw[gE_of,gE_of] at hp;exact hp ej
theorem enM_find (g:G) {B:List Ed} {e:Ed} (he:e∈B):mfind (enM g B) (keyE e)=some (.bool (chE g e)):=mfind_map (fun _ _ h=>keyE_inj h) he
theorem enX_ex:∃f:G->List Ed->List (KyT (.st KE)×V),∀g l,f g l=enM g l:=⟨enM,fun _ _=>rfl⟩
noncomputable def enX:G->List Ed->List (KyT (.st KE)×V):=Classical.choose enX_ex
theorem enX_eq (g:G) (l:List Ed):enX g l=enM g l:=Classical.choose_spec enX_ex g l
theorem enX_nil (g:G) (B:List Ed):enX g (B.take 0)=[]:=by rw[enX_eq];rfl
theorem enX_put (g:G) {B:List Ed} (hn:B.Nodup) {i:Nat} (hi:i<B.length) {v:V} (hv:v=.bool (chE g (gE B i))):mput (enX g (B.take i)) (keyE (gE B i)) v=enX g (B.take (i+1)):=by
 rw[enX_eq,enX_eq];exact enM_put g hn hi hv
theorem enX_find (g:G) {B:List Ed} {e:Ed} (he:e∈B):mfind (enX g B) (keyE e)=some (.bool (chE g e)):=by
 rw[enX_eq];exact enM_find g he
structure ByW (g:G) (B:List Ed):Prop where
 perm:B.Perm (edgesL g)
 so:SoI ltW B B.length
theorem ByW.le {g:G} {B:List Ed} (h:ByW g B) {i j:Nat} (hij:i<=j) (hj:j<B.length):(gE B i).w<=(gE B j).w:=by
 by_cases e:i=j
 . subst e;exact Int.le_refl _
 . have:=h.so i j (by omega) hj;simp only[ltW] at this;omega
theorem ByW.nodup {g:G} (hg:g.valid=true) {B:List Ed} (h:ByW g B):B.Nodup:=by
 rw[h.perm.nodup_iff,List.nodup_iff_pairwise_ne];exact(edges_sorted g).imp fun {e f} hl q=>by subst q;exact lt_as _ _ hl hl
theorem ByW.edge {g:G} (hg:g.valid=true) {B:List Ed} (h:ByW g B) {i:Nat} (hi:i<B.length):(gE B i).a<(gE B i).b/\EdgeG g (gE B i).a (gE B i).b (gE B i).w:=by
 rw[<- edges_mem hg,<- h.perm.mem_iff,<- gE_of hi];exact List.getElem_mem hi
structure Cls (g:G) (B:List Ed) (i:Nat) (p:Nat->Int):Prop where
 le:i<=B.length
 pt:PtI g.ids.length (prs (B.take i)) p
 bd:∀j,j<i->i<B.length->(gE B j).w<(gE B i).w
theorem Cls.start {g:G} (B:List Ed):Cls g B 0 (fun v=>(v:Int)):=⟨Nat.zero_le _,by simpa[prs] using PtI.start g.ids.length,fun j hj=>by omega⟩
theorem Cls.ch {g:G} (hg:g.valid=true) {B:List Ed} (hB:ByW g B) {i:Nat} {p:Nat->Int} (h:Cls g B i p) {k:Nat} (hik:i<=k) (hk:k<B.length) (hw:(gE B k).w=(gE B i).w) :
 (!decide (p (gE B k).a=p (gE B k).b))=chE g (gE B k):=by
 have he:=(hB.edge hg hk).2;have hD:LtD g (gE B k).w (prs (B.take i)):=by
  refine ltD_prefix hg hB.perm ?_ (fun j hj e ee=>?_) (fun j hj e ee=>?_)
  . refine hB.so.pairwise.imp fun {e f} q=>?_;simp only[ltW] at q;omega
  . have hjl:j<B.length:=by have:=h.le;omega
    rw[List.getElem?_eq_getElem hjl,gE_of hjl] at ee;cases ee;rw[hw];exact h.bd j hj (by omega)
  . have hjl:j<B.length:=(List.getElem?_eq_some_iff.1 ee).1;rw[List.getElem?_eq_getElem hjl,gE_of hjl] at ee;cases ee;rw[hw];exact hB.le hj hjl
 have hj:=jn_jd hg hD (v:=(gE B k).b) he.lu;have hp:=h.pt _ _ he.lu he.lv;rw[chE,<- decide_not,decide_eq_decide,hj,hp];exact⟨fun q r=>q r.2,fun q r=>q ⟨he.lv,r⟩⟩
structure Jng (g:G) (B:List Ed) (i k m:Nat) (p:Nat->Int):Prop where
 le:i<=m/\m<=k/\k<=B.length
 pt:PtI g.ids.length (prs (B.take m)) p
theorem Jng.step {g:G} (hg:g.valid=true) {B:List Ed} (hB:ByW g B) {i k m:Nat} {p:Nat->Int} (h:Jng g B i k m p) (hm:m<k):Jng g B i k (m+1) (joP p (gE B m).a (gE B m).b):=by
 have hl:=h.le;have he:=(hB.edge hg (i:=m) (by omega)).2;refine⟨⟨by omega,by omega,hl.2.2⟩,?_⟩;rw[take_gE (by omega),prs,List.map_append];exact h.pt.join he.lu he.lv
theorem Jng.next {g:G} {B:List Ed} (hB:ByW g B) {i k:Nat} {p:Nat->Int} (h:Jng g B i k k p) (hik:i<k) (hw:∀j,i<=j->j<k->(gE B j).w=(gE B i).w) (hn:k<B.length->(gE B k).w≠(gE B i).w):Cls g B k p:=by
 have hl:=h.le;refine⟨hl.2.2,h.pt,fun j hj hk=>?_⟩;have h1:=hB.le (i:=i) (j:=k) (by omega) hk;have h2:=hn hk;have h3:(gE B j).w<=(gE B i).w:=by
  by_cases e:i<=j
  . rw[hw j e hj];exact Int.le_refl _
  . exact hB.le (by omega) (by omega)
 omega
def bX (g:G) (v x:Nat):Int×Int:=if x=0 then (0,16*g.ids.length) else (-1,((gR g.ports v).length:Int)-1)
def G.xconf (g:G) (c:Cf):Bool:=conf g.ids.length 2 (bX g) c
theorem xconf_g (g:G) (hg:g.valid=true) (c:Cf):conf g.ids.length [16*(g.ids.length:Int),-1].length (bG g [16*(g.ids.length:Int),-1]) c=g.xconf c:=conf_ext' (fun v x hv hx=>by
 have e:x=0\/x=1:=by simp at hx;omega
 rcases e with rfl|rfl
 . rw[bG,show gI [16*(g.ids.length:Int),-1] 0=16*(g.ids.length:Int) from rfl,if_neg (by omega)];rfl
 . rfl)
theorem vW_ok:VOk vW2:=⟨by decide,fun x=>by
 rcases x with _|_|x
 . decide
 . decide
 . have:gV vW2 (x+2)=default:=by simp[gV,vW2,List.getD]
   rw[this];decide⟩
theorem vW_lo (x:Nat):0<=(gV vW2 x).lo/\(gV vW2 x).lo<=1000:=by
 rcases x with _|_|x
 . exact⟨by decide,by decide⟩
 . exact⟨by decide,by decide⟩
 . have:gV vW2 (x+2)=default:=by simp[gV,vW2,List.getD]
   rw[this];exact⟨by decide,by decide⟩
theorem xconf_facts {g:G} {c:Cf} (h:g.xconf c=true):c.length=g.ids.length/\∀v,v<c.length->(gC c v).length=2/\0<=gI (gC c v) 0/\gI (gC c v) 0<=16*g.ids.length/\-1<=gI (gC c v) 1/\gI (gC c v) 1<(gR g.ports v).length:=by
 have:=conf_iff.1 h;refine⟨this.1,fun v hv=>?_⟩;have h2:=this.2 v (by omega);have h3:=h2.2 0 (by omega);have h4:=h2.2 1 (by omega);simp only[bX,if_true,Nat.one_ne_zero,if_false] at h3 h4;omega
theorem xconf_of {g:G} {c:Cf} (h:Conf pWid g c):g.xconf c=true:=by
 rw[G.xconf,conf_iff];refine⟨h.len,fun v hv=>?_⟩;obtain⟨h0,h1,h2,h3,h4⟩:=wid_rng h hv;refine⟨h0,fun x hx=>?_⟩;rcases (show x=0\/x=1 by omega) with rfl|rfl
 . exact⟨h1,h2⟩
 . exact⟨h3,h4⟩
theorem wdfit_ok (g:G) (hs:g.Small):Ret Tryz.prog 58 [g.v] (.bool g.conn):=by
 have h:=conn_ok g hs;refine ret_frz rfl ?_;refine fn_rule mixed Tryz.func58 rfl hc58 hr58 rfl ?_;cases hc:g.conn
 all_goals rw[hc] at h
 all_goals
  repeat' ((conv=>whnf);first|(refine Br.tt ?_)|(refine Br.ff ?_)|(refine h.go ?_))
  all_goals (conv=>whnf)
  exact VLe.rfl
theorem wdconfiguration_ok (g:G) (hs:g.Small) (c:Cf) (hc:CSmall c):Ret Tryz.prog 32 [g.v,cV c] (.bool (g.conn&&g.xconf c)):=by
 have hf:=wdfit_ok g hs;refine ret_frz rfl ?_;refine fn_rule mixed Tryz.func32 rfl hc32 hr32 rfl ?_;cases hg:g.conn with
 | true =>
   rw[hg] at hf;rw[Bool.true_and];obtain⟨h1,_⟩:=conn_facts hg;obtain⟨f1,f2,f3,f4,f5,f6,f7⟩:=val_facts h1;have hb:=bconf_ok g hs f3 c hc [16*(g.ids.length:Int),-1] (by simp);rw[xconf_g g h1] at hb
   repeat' ((conv=>whnf);first|(refine Br.tt ?_)|(refine Ar.i64 (by omega) (by omega) ?_)|(refine hf.go ?_)|(refine call_frz [1] hb ⟨by decide,VLe.rfl,VLe.rfl,VLe.fz rfl (fun h=>h) (two_le' _ _ _ (by first|rfl|(congr 1;omega)) rfl),True.intro⟩ ?_)|(refine Br.any (fun _=>?_) (fun _=>?_)))
   all_goals (conv=>whnf)
   all_goals exact VLe.bool (Eq.symm (by first|assumption|exact decide_eq_true (by assumption)|exact decide_eq_false (by assumption)))
 | false =>
   rw[hg] at hf
   repeat' ((conv=>whnf);first|(refine Br.ff ?_)|(refine hf.go ?_))
   all_goals (conv=>whnf)
   all_goals exact VLe.rfl
theorem wvars25_ok:Ret Tryz.prog 30 [] (.fz vW2.length 6 false (vV vW2)):=by
 refine ret_frz rfl ?_;refine fn_rule mixed Tryz.func30 rfl hc30 hr30 rfl ?_
 repeat' ((conv=>whnf);first|(refine Len.mk (by omega) ?_)|(refine(cnumber_ok _ _ _ _).go ?_)|(refine(cpointer_ok _).go ?_))
 all_goals (conv=>whnf)
 refine VLe.fz rfl (fun h=>h) (fun i j hi hj=>?_);rcases (show i=0\/i=1 by omega) with rfl|rfl
 all_goals
  rcases (show j=0\/j=1\/j=2\/j=3\/j=4\/j=5 by omega) with rfl|rfl|rfl|rfl|rfl|rfl
 all_goals exact VLe.of_eq rfl
noncomputable def trXB (g:G) (c:Cf):Bool:=decide (∀v,v<c.length->gI (gC c v) 0=gI (vals g) v/\gI (gC c v) 1=upW g v)
theorem trXB_iff {g:G} {c:Cf}:trXB g c=true↔∀v,v<c.length->gI (gC c v) 0=gI (vals g) v/\gI (gC c v) 1=upW g v:=by rw[trXB,decide_eq_true_eq]
noncomputable def G.xleg (g:G) (c:Cf):Bool:=g.conn&&g.xconf c&&trXB g c
theorem xleg_iff {g:G} (h:g.conn=true) {c:Cf} (hc:Conf pWid g c):g.xleg c=true↔TrX g c:=by
 have hl:=hc.len;rw[G.xleg,h,xconf_of hc,Bool.true_and,Bool.true_and,trXB_iff,hl];refine forall_congr' fun v=>forall_congr' fun hv=>?_;rw[vals_get hv]
theorem xleg_rest {g:G} (h:g.conn=true) {c:Cf} (hc:Conf pWid g c):g.xleg c=decide (enN pWid g c=0):=by
 rw[Bool.eq_iff_iff,decide_eq_true_eq,xleg_iff h hc,wid_rests h hc]
theorem maxV_le:∀{l:List Int} {m b:Int},m<=b->(∀a∈l,a<=b)->maxL l m<=b
 | [],m,b,h,_=>h
 | a::r,m,b,h,ha=>by
   rw[maxL];exact maxV_le (by have:=ha a (by simp);split<;>omega) (fun x hx=>ha x (by simp[hx]))
theorem mx_top {g:G} (h:g.conn=true):0<=mxV g/\mxV g+2<=16*g.ids.length/\g.ids.length<=24:=by
 obtain⟨f1,f2,f3,f4,f5,f6,f7⟩:=val_facts (conn_facts h).1;refine⟨mx_nn g,?_,f2⟩;have:mxV g<=16*(g.ids.length:Int)-2:=by
  refine maxV_le (by omega) fun a ha=>?_;obtain⟨v,hv,rfl⟩:=List.mem_map.1 ha;have:=tv_top h (List.mem_range.1 hv);omega
 omega
theorem wn_facts {g:G} (hg:g.valid=true) {w:Int} (h0:0<=w) (h1:w<=15):0<=w*(g.ids.length:Int)/\w*(g.ids.length:Int)<=360:=by
 obtain⟨f1,f2,f3,f4,f5,f6,f7⟩:=val_facts hg;obtain⟨k,rfl⟩:∃k:Nat,w=(k:Int):=⟨w.toNat,by omega⟩;have:k*g.ids.length<=15*24:=Nat.mul_le_mul (by omega) f2;have e:((k:Int)*(g.ids.length:Int))=((k*g.ids.length:Nat):Int):=by push_cast;rfl
 rw[e];omega
theorem extended_ok (g:G) (hg:g.valid=true) (y:Int) (hy:0<=y/\y<=1073741824) (l:Int×Int) (hl:0<=l.2/\l.2<=15) :
 Ret Tryz.prog 43 [.int .i64 g.ids.length,.int .i64 y,.agg [.int .i64 l.1,.int .i64 l.2]] (.int .i64 (exI g y l.2)):=by
 have hw:=wn_facts hg hl.1 hl.2;refine ret_frz rfl ?_;refine fn_rule mixed Tryz.func43 rfl hc43 hr43 rfl ?_
 repeat' ((conv=>whnf);first|(refine Ar.i64 (by omega) (by omega) ?_)|(refine Sv.mk _ rfl ?_))
 all_goals (conv=>whnf)
 exact VLe.of_eq rfl
def iniW (n:Nat) (k:Nat):Nat->Nat->V:=fun i _=>.int .i64 (if 1<=i/\i<k+1 then 16*n else 0)
def iniL (n:Nat) (b:Int):List Int:=(List.range n).map fun v=>if v=0 then 0 else b
theorem iniL_len (n:Nat) (b:Int):(iniL n b).length=n:=by simp[iniL]
theorem iniL_get {n:Nat} (b:Int) {v:Nat} (h:v<n):gI (iniL n b) v=if v=0 then 0 else b:=by simp[iniL,gI,List.getD,h]
def clE:Env->List Nat->Env
 | [],_=>[]
 | (t,v)::r,seen=>match memN t seen with
   | true=>clE r seen
   | false=>(t,v)::clE r (t::seen)
def clB:Blk->Blk
 | .loop st pe env N ps C=>.loop st pe (clE env []) N ps C
 | b=>b
def clO:Own->Own
 | []=>[]
 | (k,b)::r=>(k,clB b)::clO r
theorem iniW_zero (n i j:Nat) (hj:j<1):VLe ((fun(_:Nat) j=>[V.int .i64 0].getD j default) i j) (iniW n 0 i j):=by
 obtain rfl:j=0:=by omega
 apply VLe.of_eq;rw[iniW,if_neg (by omega)];rfl
theorem iniW_set (n k i j:Nat) (hj:j<1):VLe (fset (iniW n k) (k+1) 0 [.int .i64 (16*(n:Int))] i j) (iniW n (k+1) i j):=by
 obtain rfl:j=0:=by omega
 apply VLe.of_eq;by_cases h:i=k+1
 . subst h;simp[fset,iniW]
 . simp only[fset,iniW];rw[if_neg (by simp[h])];congr 1;by_cases h2:1<=i/\i<k+1
   . rw[if_pos h2,if_pos (by omega)]
   . rw[if_neg h2,if_neg (by omega)]
theorem iniW_end (n i j:Nat) (hn:1<=n) (hi:i<n) (hj:j<1):VLe (iniW n (n-1) i j) (vI (iniL n (16*n)) i j):=by
 obtain rfl:j=0:=by omega
 apply VLe.of_eq;simp only[iniW,vI];rw[iniL_get _ hi];congr 1;by_cases h:i=0
 . subst h;simp
 . rw[if_pos (by omega),if_neg h]
set_option maxHeartbeats 16000000 in
theorem values_ok (g:G) (hs:g.Small) (hgc:g.conn=true):Ret Tryz.prog 40 [g.v] (.fz (vals g).length 1 false (vI (vals g))):=by
 obtain⟨hg,_⟩:=conn_facts hgc;obtain⟨f1,f2,f3,f4,f5,f6,f7⟩:=val_facts hg;refine ret_frz rfl ?_;refine fn_rule mixed Tryz.func40 rfl hc40 hr40 rfl ?_
 repeat' ((conv=>whnf);first|(refine Bd.nat (by omega) ?_)|(refine Len.mk (by omega) ?_)|(refine MkS.vec ?_))
 all_goals (conv=>whnf)
 refine loop_u mixed [1,3,4] [] [4,5,6,7,8,9,10,11,12,13,14,15,16,17,18,19,20,21,22,23,24,25,26,27,28,29] [3,2,1,0] (fun k:Nat=>[(5,.int .i64 ((k:Int)+1))]) (fun own k=>updO own 2 (.vec g.ids.length 1 (iniW g.ids.length k))) (fun m k=>m=g.ids.length-1-k/\k<=g.ids.length-1) (g.ids.length-1) 0 ⟨rfl,Nat.zero_le _⟩ rfl (fun _=>rfl) ?_ ?_
 . refine weak_by (fun _ _=>[(0,some 0),(1,some 1),(2,some 2),(3,some 3)]) ?_ ?_ rfl
   . repeat' (first|exact True.intro|(refine⟨⟨_,rfl,?_⟩,?_⟩)|exact VRen.kf rfl|exact VRen.loc rfl)
   . repeat' (first|exact⟨Nat.le_refl _,rfl,fun i j hi hj=>iniW_zero _ i j hj⟩|exact True.intro|(refine⟨⟨_,rfl,?_⟩,?_⟩)|exact VRen.kf rfl|exact VRen.vec rfl rfl rfl|(refine And.intro ?_ ?_))
 rintro m k ⟨hm,hk⟩;by_cases hkn:k<g.ids.length-1
 . repeat' ((conv=>whnf);first|(refine Ix.mk (k+1) (by omega) (by omega) ?_)|(refine Br.dec ?_ ?_<;>intro _<;>try omega)|(refine Ar.i64 (by omega) (by omega) ?_)|(refine Ltn.mk (by omega) ?_))
   all_goals (conv=>whnf)
   refine⟨g.ids.length-1-(k+1),k+1,by omega,⟨rfl,by omega⟩,?_⟩;refine weak_by (fun _ _=>[(0,some 0),(1,some 1),(2,some 2),(3,some 3)]) ?_ ?_ rfl
   . repeat' (first|exact True.intro|(refine⟨⟨_,rfl,?_⟩,?_⟩)|exact VRen.kf rfl|exact VRen.loc rfl)
   . repeat' (first|exact⟨Nat.le_refl _,rfl,fun i j hi hj=>by simp only[Nat.zero_add];exact iniW_set _ k i j hj⟩|exact True.intro|(refine⟨⟨_,rfl,?_⟩,?_⟩)|exact VRen.kf rfl|exact VRen.vec rfl rfl rfl|(refine And.intro ?_ ?_))
 . have ek:k=g.ids.length-1:=by omega
   subst ek
   repeat' ((conv=>whnf);first|(refine Br.dec ?_ ?_<;>intro _<;>try omega))
   all_goals (conv=>whnf)
   have hlen0:=iniL_len g.ids.length (16*(g.ids.length:Int));have hin0:VIn g 0 (iniL g.ids.length (16*(g.ids.length:Int))):=VIn.start hgc hlen0 (by rw[iniL_get _ (by omega)];rfl) (fun v hv h0=>by rw[iniL_get _ hv,if_neg h0];omega);refine loop_u mixed [1,3,4,23] [] [4,5,6,7,8,9,10,11,12,13,14,15,16,17,18,19,20,21,22,23,24,25,26,27,28,29] [3,2,1,0] (fun p:Nat×List Int=>[(24,.int .i64 p.1)]) (fun own p=>updO own 2 (.vec g.ids.length 1 (vI p.2))) (fun m p=>m=g.ids.length-p.1/\p.1<=g.ids.length/\VIn g p.1 p.2) g.ids.length (0,iniL g.ids.length (16*(g.ids.length:Int))) ⟨rfl,Nat.zero_le _,hin0⟩ rfl (fun _=>rfl) ?_ ?_
   . refine weak_by (fun _ _=>[(0,some 0),(1,some 1),(2,some 2),(3,some 3)]) ?_ ?_ rfl
     . repeat' (first|exact True.intro|(refine⟨⟨_,rfl,?_⟩,?_⟩)|exact VRen.kf rfl|exact VRen.loc rfl)
     . repeat' (first|exact⟨Nat.le_refl _,rfl,fun i j hi hj=>by first|exact iniW_end _ i j f1 hi hj|(simp only[Nat.zero_add];exact iniW_end _ i j f1 hi hj)⟩|exact True.intro|(refine⟨⟨_,rfl,?_⟩,?_⟩)|exact VRen.kf rfl|exact VRen.vec rfl rfl rfl|(refine And.intro ?_ ?_))
   rintro m ⟨r,x⟩ ⟨hm,hr,hI⟩;simp only at hm hr hI;by_cases hrn:r<g.ids.length
   . dsimp only
     repeat' ((conv=>whnf);first|(refine Br.dec ?_ ?_<;>intro _<;>try omega)|(refine fn_rule mixed Tryz.func45 rfl hc45 hr45 rfl ?_)|(refine range_rule ?_)|(refine Chk.mk (by kernel_rfl) ?_)|(refine fn_rule mixed Tryz.func63 rfl hc63 hr63 rfl ?_))
     all_goals (conv=>whnf)
     refine loop_u mixed [0,8,9] [] [6,7,8,9,10,11,12,13,14,15,16,17,18,19,20,21,22,23,24,25,26,27,28,29] [5,4,3,2,1,0] (fun p:Nat×List Int=>[(10,.int .i64 p.1)]) (fun own p=>clO (updO own 2 (.vec g.ids.length 1 (vI p.2)))) (fun m p=>m=g.ids.length-p.1/\p.1<=g.ids.length/\VPs g r p.1 0 p.2) g.ids.length (0,x) ⟨rfl,Nat.zero_le _,VPs.start hI⟩ rfl (fun _=>rfl) ?_ ?_
     . refine weak_by (fun _ _=>[(0,some 0),(1,some 1),(2,some 2),(3,some 3),(4,some 4),(5,some 5)]) ?_ ?_ rfl
       . repeat' (first|exact VRen.yld rfl|exact True.intro|(refine⟨⟨_,rfl,?_⟩,?_⟩)|exact VRen.kf rfl)
       . repeat' (first|(refine VRen.fn ?_)|(refine⟨rfl,rfl,rfl,rfl,rfl,?_⟩)|exact⟨Nat.le_refl _,rfl,fun i j hi hj=>VLe.rfl⟩|exact True.intro|(refine⟨⟨_,rfl,?_⟩,?_⟩)|exact VRen.kf rfl|exact VRen.loc rfl|exact VRen.vec rfl rfl rfl|(refine And.intro ?_ ?_))
     rintro m ⟨v,y⟩ ⟨hm2,hv,hP⟩;simp only at hm2 hv hP;by_cases hvn:v<g.ids.length
     . dsimp only;have hrl:=row_le' hg v
       repeat' ((conv=>whnf);first|(refine Br.dec ?_ ?_<;>intro _<;>try omega)|(refine Ix.nat (by omega) ?_))
       all_goals (conv=>whnf)
       refine loop_u mixed [0,3,8,9,10,15,16] [] [6,7,8,9,10,11,12,13,14,15,16,17,18,19,20,21,22,23,24,25,26,27,28,29] [5,4,3,2,1,0] (fun p:Nat×List Int=>[(17,.int .i64 p.1)]) (fun own p=>clO (updO own 2 (.vec g.ids.length 1 (vI p.2)))) (fun m p=>m=(gR g.ports v).length-p.1/\p.1<=(gR g.ports v).length/\VPs g r v p.1 p.2) (gR g.ports v).length (0,y) ⟨rfl,Nat.zero_le _,hP⟩ rfl (fun _=>rfl) ?_ ?_
       . refine weak_by (fun _ _=>[(0,some 0),(1,some 1),(2,some 2),(3,some 3),(4,some 4),(5,some 5)]) ?_ ?_ rfl
         . repeat' (first|exact VRen.yld rfl|exact True.intro|(refine⟨⟨_,rfl,?_⟩,?_⟩)|exact VRen.kf rfl)
         . repeat' (first|(refine VRen.fn ?_)|(refine⟨rfl,rfl,rfl,rfl,rfl,?_⟩)|exact⟨Nat.le_refl _,rfl,fun i j hi hj=>VLe.rfl⟩|exact True.intro|(refine⟨⟨_,rfl,?_⟩,?_⟩)|exact VRen.kf rfl|exact VRen.loc rfl|exact VRen.vec rfl rfl rfl|(refine And.intro ?_ ?_))
       rintro m ⟨i,z⟩ ⟨hm3,hi,hQ⟩;simp only at hm3 hi hQ;by_cases hin:i<(gR g.ports v).length
       . dsimp only;have hok:=(okR_iff.1 (f6 v (by omega))).1 _ (gF_mem hin);have hb:=hQ.base;have hzl:=hb.len;have hlo:=hb.low (gF (gR g.ports v) i).1.toNat (by omega);have hto:=hb.top (gF (gR g.ports v) i).1.toNat (by omega);have hext:=extended_ok g hg (gI z (0+(gF (gR g.ports v) i).1.toNat)) ⟨by rw[Nat.zero_add];omega,by rw[Nat.zero_add];exact hto⟩ (gF (gR g.ports v) i) ⟨by omega,by omega⟩
         repeat' ((conv=>whnf);first|(refine Ix.mk (gF (gR g.ports v) i).1.toNat (by omega) (by omega) ?_)|(refine Br.tt ?_)|(refine Br.dec ?_ ?_<;>intro _<;>try omega)|(refine Ar.i64 (by omega) (by omega) ?_)|(refine Sv.mk _ rfl ?_)|(refine Ix.nat (by omega) ?_)|(refine Ltn.mk (by omega) ?_)|(refine hext.go ?_)|(refine yield_rule mixed rfl rfl ?_)|(refine And.intro rfl ?_)|(refine And.intro (Ltn.mk (by omega) rfl) ?_))
         all_goals (conv=>whnf)
         refine⟨(gR g.ports v).length-(i+1),(i+1,relax g z v (gF (gR g.ports v) i)),by omega,⟨rfl,by omega,hQ.step hgc hvn hin⟩,?_⟩;refine weak_by (fun _ _=>[(0,some 0),(1,some 1),(2,some 2),(3,some 3),(4,some 4),(5,some 5)]) ?_ ?_ rfl
         . repeat' (first|exact VRen.yld rfl|exact True.intro|(refine⟨⟨_,rfl,?_⟩,?_⟩)|exact VRen.kf rfl)
         . repeat' (first|(refine VRen.fn ?_)|(refine⟨rfl,rfl,rfl,rfl,rfl,?_⟩)|exact⟨Nat.le_refl _,rfl,fun i j hi hj=>by simp only[Nat.zero_add];exact vle_set z v _ _ _ (by omega) hj⟩|exact True.intro|(refine⟨⟨_,rfl,?_⟩,?_⟩)|exact VRen.kf rfl|exact VRen.loc rfl|exact VRen.vec rfl rfl rfl|(refine And.intro ?_ ?_))
       . repeat' ((conv=>whnf);first|(refine Br.dec ?_ ?_<;>intro _<;>try omega)|(refine Ar.i64 (by omega) (by omega) ?_))
         all_goals (conv=>whnf)
         refine⟨g.ids.length-(v+1),(v+1,z),by omega,⟨rfl,by omega,?_⟩,?_⟩
         . have e:i=(gR g.ports v).length:=by omega
           subst e;exact hQ.row hgc hvn
         . refine weak_by (fun _ _=>[(0,some 0),(1,some 1),(2,some 2),(3,some 3),(4,some 4),(5,some 5)]) ?_ ?_ rfl
           . repeat' (first|exact VRen.yld rfl|exact True.intro|(refine⟨⟨_,rfl,?_⟩,?_⟩)|exact VRen.kf rfl)
           . repeat' (first|(refine VRen.fn ?_)|(refine⟨rfl,rfl,rfl,rfl,rfl,?_⟩)|exact⟨Nat.le_refl _,rfl,fun i j hi hj=>VLe.rfl⟩|exact True.intro|(refine⟨⟨_,rfl,?_⟩,?_⟩)|exact VRen.kf rfl|exact VRen.loc rfl|exact VRen.vec rfl rfl rfl|(refine And.intro ?_ ?_))
     . repeat' ((conv=>whnf);first|(refine Br.dec ?_ ?_<;>intro _<;>try omega)|(refine Ar.i64 (by omega) (by omega) ?_))
       all_goals (conv=>whnf)
       refine⟨g.ids.length-(r+1),(r+1,y),by omega,⟨rfl,by omega,hP.over (by omega)⟩,?_⟩;refine weak_by (fun _ _=>[(0,some 0),(1,some 1),(2,some 2),(3,some 3)]) ?_ ?_ rfl
       . repeat' (first|exact True.intro|(refine⟨⟨_,rfl,?_⟩,?_⟩)|exact VRen.kf rfl|exact VRen.loc rfl)
       . repeat' (first|exact⟨Nat.le_refl _,rfl,fun i j hi hj=>VLe.rfl⟩|exact True.intro|(refine⟨⟨_,rfl,?_⟩,?_⟩)|exact VRen.kf rfl|exact VRen.vec rfl rfl rfl|(refine And.intro ?_ ?_))
   . repeat' ((conv=>whnf);first|(refine Br.dec ?_ ?_<;>intro _<;>try omega)|(refine Len.mk (by omega) ?_))
     all_goals (conv=>whnf)
     have er:r=g.ids.length:=by omega
     subst er;have hx:=hI.done;subst hx;exact VLe.fz (vals_len g).symm (fun h=>h) (fun i j hi hj=>VLe.of_eq (by simp[shiftF]))
def btL (c:Cf):List Int:=c.map fun r=>(gI r 0).tdiv c.length
theorem btL_len (c:Cf):(btL c).length=c.length:=by simp[btL]
theorem btL_get (c:Cf) {v:Nat} (h:v<c.length):gI (btL c) v=(gI (gC c v) 0).tdiv c.length:=by simp[btL,gI,gC,List.getD,h]
def G.botX (g:G) (c:Cf):List Int:=if g.conn&&g.xconf c then btL c else[]
def btF (c:Cf) (v:Nat):Nat->Nat->V:=fun i _=>.int .i64 (if i<v then gI (btL c) i else 0)
theorem btF_set (c:Cf) (v i t:Nat) (x:Int) (hx:x=gI (btL c) v) (ht:t<1):VLe (fset (btF c v) v 0 [.int .i64 x] i t) (btF c (v+1) i t):=by
 obtain rfl:t=0:=by omega
 apply VLe.of_eq;by_cases e:i=v
 . subst e;simp[fset,btF,hx]
 . have:(i<v+1)=(i<v):=by simp;omega
   simp[fset,btF,e,this]
theorem tdiv_rng {a:Int} {n:Nat} (h0:0<=a) (h1:a<=1000):0<=a.tdiv n/\a.tdiv n<=1000:=by
 rw[Int.tdiv_eq_ediv_of_nonneg h0];exact⟨Int.ediv_nonneg h0 (Int.natCast_nonneg _),Int.le_trans (Int.ediv_le_self _ h0) h1⟩
set_option maxHeartbeats 4000000 in
theorem wdbottle_ok (g:G) (hs:g.Small) (c:Cf) (hc:CSmall c):Ret Tryz.prog 12 [g.v,cV c] (.fz (g.botX c).length 1 false (vI (g.botX c))):=by
 have hcf:=wdconfiguration_ok g hs c hc;have hcl:=hc.len;refine ret_frz rfl ?_;refine fn_rule mixed Tryz.func12 rfl hc12 hr12 rfl ?_;by_cases h:(g.conn&&g.xconf c)=true
 . rw[h] at hcf;rw[G.botX,if_pos h,btL_len];rw[Bool.and_eq_true] at h;obtain⟨e1,e2⟩:=xconf_facts h.2;obtain⟨f1,f2,f3,f4,f5,f6,f7⟩:=val_facts (conn_facts h.1).1
   repeat' ((conv=>whnf);first|(refine Br.tt ?_)|(refine Bd.nat (by omega) ?_)|(refine Len.mk (by omega) ?_)|(refine MkS.vec ?_)|(refine hcf.go ?_))
   all_goals (conv=>whnf)
   refine loop_u mixed [1,5,15,16] [] [2,3,4,5,6,7,8,9,10,11,12,13,14,15,16,17,18,19,20,21,22,23,24,25,26,27,28,29] [1,0] (fun v:Nat=>[(17,.int .i64 v)]) (fun own v=>updO own 1 (.vec c.length 1 (btF c v))) (fun m v=>m=c.length-v/\v<=c.length) c.length 0 ⟨rfl,Nat.zero_le _⟩ rfl (fun _=>rfl) ?_ ?_
   . refine weak_by (fun _ _=>[(0,some 0),(1,some 1)]) ?_ ?_ rfl
     . repeat' (first|exact True.intro|(refine⟨⟨_,rfl,?_⟩,?_⟩)|exact VRen.kf rfl|exact VRen.vec rfl rfl rfl)
     . repeat' (first|(refine⟨Nat.le_refl _,rfl,fun i j hi hj=>VLe.of_eq ?_⟩;obtain rfl:j=0:=(by omega);rfl)|exact True.intro|(refine⟨⟨_,rfl,?_⟩,?_⟩)|exact VRen.kf rfl|(refine And.intro ?_ ?_))
   rintro m v ⟨hm,hv⟩;by_cases hvl:v<c.length
   . have hr:=e2 v hvl;have hd:=tdiv_rng (n:=c.length) hr.2.1 (by omega)
     repeat' ((conv=>whnf);first|(refine Ar.i64 (by omega) (by omega) ?_)|(refine Br.dec ?_ ?_<;>intro _<;>try omega)|(refine Nz.mk (by omega) ?_)|(refine Ix.nat (by omega) ?_)|(refine Ix.mk 0 rfl (by omega) ?_)|(refine Ltn.mk (by omega) ?_))
     all_goals (conv=>whnf)
     refine⟨c.length-(v+1),v+1,by omega,⟨rfl,by omega⟩,?_⟩;refine weak_by (fun _ _=>[(0,some 0),(1,some 1)]) ?_ ?_ rfl
     . repeat' (first|exact True.intro|(refine⟨⟨_,rfl,?_⟩,?_⟩)|exact VRen.kf rfl|exact VRen.vec rfl rfl rfl)
     . repeat' (first|(refine⟨Nat.le_refl _,rfl,fun i j hi hj=>?_⟩;simp only[Nat.zero_add];exact btF_set c v i j _ (btL_get c hvl).symm hj)|exact True.intro|(refine⟨⟨_,rfl,?_⟩,?_⟩)|exact VRen.kf rfl|(refine And.intro ?_ ?_))
   . have ev:v=c.length:=by omega
     subst ev
     repeat' ((conv=>whnf);first|(refine Br.dec ?_ ?_<;>intro _<;>try omega)|(refine Len.mk (by omega) ?_))
     all_goals (conv=>whnf)
     refine VLe.fz rfl (fun h=>h) (fun i j hi hj=>VLe.of_eq ?_);obtain rfl:j=0:=by omega
     rw[shiftF_eq,Nat.zero_add,btF,if_pos hi];rfl
 . rw[G.botX,if_neg h];simp only[Bool.not_eq_true] at h;rw[h] at hcf
   repeat' ((conv=>whnf);first|(refine Br.ff ?_)|(refine hcf.go ?_))
   all_goals (conv=>whnf)
   exact VLe.nilfz rfl
theorem len_le:∀{l m:List Int},l.Nodup->(∀a∈l,a∈m)->l.length<=m.length
 | [],m,_,_=>Nat.zero_le _
 | a::l,m,hn,hs=>by
   rw[List.nodup_cons] at hn;have ham:=hs a (by simp);have h1:=len_le (l:=l) (m:=m.erase a) hn.2 (fun b hb=>(List.mem_erase_of_ne (fun e=>hn.1 (by rw[<- e];exact hb))).2 (hs b (by simp[hb])));have h2:=List.length_erase_of_mem ham;have h3:=List.length_pos_of_mem ham;simp only[List.length_cons];omega
def freeF (l:List Int):Nat->Int->Int
 | 0,i=>i
 | f+1,i=>if i∈l then freeF l f ((i+1) % 256) else i
def tryI (i:Int) (k:Nat):Int:=(i+k) % 256
theorem tryI_next {i:Int} {k:Nat}:(tryI i k+1) % 256=tryI i (k+1):=by rw[tryI,tryI];omega
theorem free_ends {l:List Int} (hl:l.length<256) (i:Int):¬ ∀j,j<256->tryI i j∈l:=by
 intro h;have h1:((List.range 256).map (tryI i)).Nodup:=by
  rw[List.nodup_iff_pairwise_ne,List.pairwise_map];refine List.Pairwise.imp_of_mem ?_ List.nodup_range;intro a b ha hb hne e;rw[List.mem_range] at ha hb;rw[tryI,tryI] at e;omega
 have h2:=len_le h1 (fun a ha=>by
  obtain⟨j,hj,rfl⟩:=List.mem_map.1 ha;exact h j (List.mem_range.1 hj))
 simp at h2;omega
def idsF (x:List Int):Nat->List Int
 | 0=>[]
 | v+1=>idsF x v++[freeF (idsF x v) 256 (within (gI x v) 256)]
theorem idsF_len (x:List Int):∀v,(idsF x v).length=v
 | 0=>rfl
 | v+1=>by rw[idsF,List.length_append,idsF_len x v];rfl
theorem within_range (a:Int) {b:Int} (hb:1<=b):0<=within a b/\within a b<b:=by
 have h1:=Int.tmod_lt_of_pos a (show(0:Int)<b by omega);have h2:=Int.tmod_lt_of_pos (-a) (show(0:Int)<b by omega);rw[Int.neg_tmod] at h2;rw[within,if_neg (by omega)];split<;>omega
theorem free_spec {l:List Int} {i:Int} (h0:0<=i) (h1:i<=255):∀f k,k+f=256->(∀j,j<k->tryI i j∈l)->l.length<256->0<=freeF l f (tryI i k)/\freeF l f (tryI i k)<=255/\freeF l f (tryI i k)∉l
 | 0,k,hk,hall,hl=>(free_ends hl i (fun j hj=>hall j (by omega))).elim
 | f+1,k,hk,hall,hl=>by
   rw[freeF];split
   . rename_i hm;rw[tryI_next];exact free_spec h0 h1 f (k+1) (by omega) (fun j hj=>by
      by_cases e:j=k
      . subst e;exact hm
      . exact hall j (by omega)) hl
   . rename_i hm;refine⟨?_,?_,hm⟩<;>(rw[tryI];omega)
theorem try_zero {i:Int} (h0:0<=i) (h1:i<=255):tryI i 0=i:=by rw[tryI];omega
theorem idsF_ok (x:List Int):∀v,v<=255->(∀a∈idsF x v,0<=a/\a<=255)/\(idsF x v).Nodup
 | 0,_=>⟨fun a h=>(by simp[idsF] at h),by simp[idsF]⟩
 | v+1,hv=>by
   obtain⟨i1,i2⟩:=idsF_ok x v (by omega);have hw:=within_range (gI x v) (b:=256) (by omega);have hf:=free_spec (l:=idsF x v) (i:=within (gI x v) 256) hw.1 (by omega) 256 0 rfl (fun j hj=>by omega) (by rw[idsF_len];omega);rw[try_zero hw.1 (by omega)] at hf;rw[idsF];refine⟨fun a ha=>?_,?_⟩
   . rcases List.mem_append.1 ha with h|h
     . exact i1 a h
     . have:a=freeF (idsF x v) 256 (within (gI x v) 256):=by simpa using h
       rw[this];exact⟨hf.1,hf.2.1⟩
   . rw[List.nodup_append];refine⟨i2,by simp,fun a ha b hb e=>?_⟩;have:b=freeF (idsF x v) 256 (within (gI x v) 256):=by simpa using hb
     rw[<- this,<- e] at hf;exact hf.2.2 ha
def ownN (x:Net) (n:Nat):Own:=[(0,.vec n 1 (vI (idsF x.ids n))),(1,.vec n 1 fun _ _=>.nilslice)]
def Net.n1 (x:Net):Int:=IntKind.i64.wrap (x.n-1)
def Net.size (x:Net) (most:Int):Nat:=(1+within x.n1 most).toNat
theorem getD_snocI (l:List Int) (a:Int) (i:Nat):gI (l++[a]) i=if i<l.length then gI l i else if i=l.length then a else 0:=by
 by_cases h:i<l.length
 . simp only[gI,List.getD,List.getElem?_append_left h,if_pos h]
 . rw[if_neg h];by_cases h2:i=l.length
   . subst h2;simp[gI]
   . simp[gI,h2,List.getElem?_eq_none (by simp;omega:(l++[a]).length<=i)]
theorem vle_appI (l:List Int) (a:Int) (n:Nat) (hn:l.length=n) (i j:Nat) (hi:i<n+1) (hj:j<1) :
 VLe (fapp (shiftF 0 (vI l)) n (shiftF 0 (tab [[.int .i64 a]])) i j) (vI (l++[a]) i j):=by
 apply VLe.of_eq;subst hn;by_cases h:i<l.length
 . rw[fapp_lt h];simp only[shiftF,vI,getD_snocI,if_pos h]
 . rw[fapp_ge h];have:i=l.length:=by omega
   subst this;obtain rfl:j=0:=by omega
   simp[shiftF,vI,getD_snocI,tab]
set_option maxHeartbeats 8000000 in
theorem nodes_ok (x:Net) (hx:x.Small) (most:Int) (h1:1<=most) (h2:most<=24) :
 CallF Tryz.prog 39 [x.v,.int .i64 most] [] KS fun v own' _=>v=gV1 (x.size most) (x.size most)/\own'=ownN x (x.size most):=by
 have hw:=within_ok x.n1 most (by omega);have hwr:=within_range x.n1 h1;have hn:1+within x.n1 most=(x.size most:Nat):=by rw[Net.size];omega
 have hsz:1<=x.size most/\x.size most<=24:=by omega
 have hids:=hx.ids;generalize x.size most=n at *;refine call_post ?_;refine fn_rule mixed Tryz.func39 rfl hc39 hr39 rfl ?_
 repeat' ((conv=>whnf);first|(refine Ar.mk x.n1 rfl ?_)|(refine Ar.i64 (by omega) (by omega) ?_;rw[hn])|(refine Bd.nat (by omega) ?_)|(refine Len.mk (by omega) ?_)|(refine MkS.vec ?_)|(refine hw.go ?_))
 all_goals (conv=>whnf)
 refine loop_u mixed [2,4,5,6] [4] [5,6,7,8,9,10,11,12,13,14,15,16,17,18,19,20,21,22,23,24,25,26,27,28,29] [4,3,2,1,0] (fun v:Nat=>[(7,.int .i64 v)]) (fun own v=>(4,.vec v 1 (vI (idsF x.ids v)))::updO own 3 (.cells [.vec 4 1 0 v,.vec 2 1 0 n])) (fun m v=>m=n-v/\v<=n) n 0 ⟨rfl,by omega⟩ rfl (fun _=>rfl) ?_ ?_
 . exact weak_b (fun _ _=>[(0,some 0),(1,some 1),(2,some 2),(3,some 3),(4,none)])
 rintro m v ⟨hm,hv⟩;have hat:=at_ok x.ids hids v;have hw2:=within_ok (gI x.ids v) 256 (by omega);have hr2:=within_range (gI x.ids v) (b:=256) (by omega);have hil:=idsF_len x.ids v;have hsn:idsF x.ids (v+1)=idsF x.ids v++[freeF (idsF x.ids v) 256 (within (gI x.ids v) 256)]:=rfl;have htz:=try_zero hr2.1 (by omega);generalize within (gI x.ids v) 256=id0 at *;generalize hL:idsF x.ids v=L at *
 repeat' ((conv=>whnf);first|(refine Br.dec ?_ ?_<;>intro _<;>try omega)|(refine hat.go ?_)|(refine hw2.go ?_))
 all_goals (conv=>whnf)
 . refine loop_r mixed [2,4,5,6,7] (fun p:Nat×Nat=>[(8,.int .i64 (tryI id0 p.1)),(9,.int .i64 p.2)]) (fun m p=>m=(256-p.1)*25+(v-p.2)/\p.1<=256/\p.2<=v/\(∀j,j<p.1->tryI id0 j∈L)/\(∀j,j<p.2->gI L j≠tryI id0 p.1)/\freeF L (256-p.1) (tryI id0 p.1)=freeF L 256 id0) _ (0,0) ⟨rfl,by omega,by omega,fun j hj=>(by omega),fun j hj=>(by omega),(by show freeF L 256 (tryI id0 0)=_;rw[htz])⟩ ?_ ?_
   . refine weak_by (fun _ _=>[(0,some 0),(1,some 1),(2,some 2),(3,some 3),(4,some 4)]) ?_ ?_ rfl
     . repeat' (first|exact VRen.int htz.symm|exact True.intro|(refine⟨⟨_,rfl,?_⟩,?_⟩)|exact VRen.kf rfl|exact VRen.loc rfl)
     . repeat' (first|exact True.intro|(refine⟨⟨_,rfl,?_⟩,?_⟩)|exact VRen.kf rfl|exact VRen.vec rfl rfl rfl|(refine⟨Nat.le_refl _,rfl,fun i j hi hj=>?_⟩)|exact VLe.rfl|(refine And.intro ?_ ?_))
   rintro m ⟨k,u⟩ ⟨hm2,hk,hu,hall,hne,hfr⟩;simp only at hm2 hk hu hall hne hfr;have htr:0<=tryI id0 k/\tryI id0 k<=255:=by rw[tryI];omega
   have htn:(tryI id0 k+1).tmod 256=tryI id0 (k+1):=by rw[Int.tmod_eq_emod_of_nonneg (by omega),tryI_next]
   generalize hT:tryI id0 k=T at *
   repeat' ((conv=>whnf);first|(refine Br.dec ?_ ?_<;>intro _<;>try omega)|(refine Br.nbeq ?_ ?_<;>intro _<;>try omega)|(refine Ar.i64 (by omega) (by omega) ?_)|(refine Sv.mk _ rfl ?_)|(refine Nz.mk (by omega) ?_)|(refine Ix.nat (by omega) ?_)|(refine Len.mk (by omega) ?_)|(refine Ltn.mk (by omega) ?_))
   all_goals (conv=>whnf)
   . rename_i h3 h4;have hin:T∈L:=by rw[<- h4];exact gI_mem (by omega)
     have hk2:k<256:=by
      rcases Nat.lt_or_ge k 256 with h|h
      . exact h
      . exact(free_ends (l:=L) (by omega) id0 (fun j hj=>hall j (by omega))).elim
     refine⟨_,(k+1,0),?_,⟨rfl,by omega,by omega,fun j hj=>?_,fun j hj=>(by omega),?_⟩,?_⟩
     . simp only;omega
     . simp only at hj;by_cases e:j=k
       . subst e;rw[hT];exact hin
       . exact hall j (by omega)
     . simp only;rw[<- hfr,show 256-k=(256-(k+1))+1 by omega,freeF,if_pos hin,<- hT,tryI_next]
     . refine weak_by (fun _ _=>[(0,some 0),(1,some 1),(2,some 2),(3,some 3),(4,some 4)]) ?_ ?_ rfl
       . repeat' (first|exact VRen.int htn|exact True.intro|(refine⟨⟨_,rfl,?_⟩,?_⟩)|exact VRen.kf rfl|exact VRen.loc rfl)
       . repeat' (first|exact True.intro|(refine⟨⟨_,rfl,?_⟩,?_⟩)|exact VRen.kf rfl|exact VRen.vec rfl rfl rfl|(refine⟨Nat.le_refl _,rfl,fun i j hi hj=>?_⟩)|exact VLe.rfl|(refine And.intro ?_ ?_))
   . rename_i h3 h4;refine⟨_,(k,u+1),?_,⟨rfl,hk,by omega,hall,fun j hj=>?_,by rw[hT];exact hfr⟩,?_⟩
     . simp only;omega
     . simp only at hj ⊢;rw[hT];by_cases e:j=u
       . subst e;simpa using h4
       . exact hne j (by omega)
     . refine weak_by (fun _ _=>[(0,some 0),(1,some 1),(2,some 2),(3,some 3),(4,some 4)]) ?_ ?_ rfl
       . repeat' (first|exact VRen.int hT.symm|exact True.intro|(refine⟨⟨_,rfl,?_⟩,?_⟩)|exact VRen.kf rfl|exact VRen.loc rfl)
       . repeat' (first|exact True.intro|(refine⟨⟨_,rfl,?_⟩,?_⟩)|exact VRen.kf rfl|exact VRen.vec rfl rfl rfl|(refine⟨Nat.le_refl _,rfl,fun i j hi hj=>?_⟩)|exact VLe.rfl|(refine And.intro ?_ ?_))
   . have hno:T∉L:=fun h=>by
      obtain⟨j,j1,j2⟩:=gI_get h;exact hne j (by omega) j2
     have hfin:freeF L 256 id0=T:=by
      rw[<- hfr];cases h:256-k with
      | zero=>rfl
      | succ f=>rw[freeF,if_neg hno]
     rw[hfin] at hsn
     repeat' ((conv=>whnf);first|fail)
     all_goals (conv=>whnf)
     all_goals
      refine⟨n-(v+1),v+1,by omega,⟨rfl,by omega⟩,?_⟩;simp only[hsn];refine weak_by (fun env own=>[(0,some 0),(1,some 1),(2,some 2),(3,some 3),(4,ckeyo own 3 0)]) ?_ ?_ rfl
      . repeat' (first|exact True.intro|(refine⟨⟨_,rfl,?_⟩,?_⟩)|exact VRen.kf rfl|exact VRen.loc rfl)
      . repeat' (first|(refine⟨Nat.le_refl _,rfl,fun i j hi hj=>?_⟩)|exact vle_appI _ _ _ hil _ _ hi hj|exact True.intro|(refine⟨⟨_,rfl,?_⟩,?_⟩)|exact VRen.kf rfl|exact VRen.vec rfl rfl rfl|exact VLe.rfl|(refine And.intro ?_ ?_))
 . have e:v=n:=by omega
   subst e;exact postR_byV (fun v o=>[(0,vkey v 0),(1,vkey v 1)]) _ _ ⟨rfl,rfl⟩ (VRen.agg ⟨VRen.vec rfl rfl rfl,VRen.vec rfl rfl rfl,True.intro⟩) ⟨⟨_,rfl,Nat.le_refl _,rfl,fun _ _ _ _=>VLe.of_eq (by rw[hL])⟩,⟨_,rfl,Nat.le_refl _,rfl,fun i j hi hj=>VLe.of_eq (by obtain rfl:j=0:=(by omega);rfl)⟩,True.intro⟩ rfl
theorem mem_gR {p:Ps} {r:List (Int×Int)} (h:r∈p):∃u,gR p u=r:=by
 obtain⟨i,hi,e⟩:=List.mem_iff_getElem.1 h;exact⟨i,by simp[gR,List.getD,hi,e]⟩
theorem small_of {g:G} (h1:g.ids.length<=1000) (h2:g.ports.length<=1000) (h3:∀u,(gR g.ports u).length<=1000):g.Small :=
 ⟨by omega,by omega,fun r hr=>by obtain⟨u,rfl⟩:=mem_gR hr;have:=h3 u;omega⟩
theorem linkP_len (bk:Bool) (p:Ps) (a b:Nat) (w:Int):(linkP bk p a b w).length=p.length:=by
 rw[linkP];split<;>simp
theorem linkP_row (bk:Bool) (p:Ps) {a b:Nat} (w:Int) (ha:a<p.length) (hb:b<p.length) (u:Nat):(gR (linkP bk p a b w) u).length<=(gR p u).length+1:=by
 rw[linkP];split
 . omega
 . rename_i h;have hab:¬ a=b:=fun e=>h (.inl e);have hl:∀r l,(addP bk r l).length=r.length+1:=fun r l=>by rw[addP];split<;>simp
   rw[gR_set _ b _ (by simpa using hb),gR_set p a _ ha];split
   . rename_i e;subst e;rw[hl];omega
   . split
     . rename_i e;subst e;rw[hl];omega
     . omega
def wgt (x:Net) (i:Nat):Int:=1+within (gI x.weights i) 15
def treeP (x:Net) (n:Nat):Nat->Ps
 | 0=>List.replicate n []
 | k+1=>linkP x.back (treeP x n k) (within (gI x.links k) ((k:Int)+1)).toNat (k+1) (wgt x k)
theorem treeP_len (x:Net) (n:Nat):∀k,(treeP x n k).length=n
 | 0=>by simp[treeP]
 | k+1=>by rw[treeP,linkP_len,treeP_len x n k]
theorem treeP_to (x:Net) (k:Nat):(within (gI x.links k) ((k:Int)+1)).toNat<k+1:=by
 have:=within_range (gI x.links k) (b:=(k:Int)+1) (by omega);omega
theorem rep_row (n u:Nat):gR (List.replicate n []) u=[]:=by
 simp only[gR,List.getD,List.getElem?_replicate];split<;>rfl
theorem treeP_row (x:Net) (n:Nat):∀k,k<n->∀u,(gR (treeP x n k) u).length<=k
 | 0,_,u=>by rw[treeP,rep_row];simp
 | k+1,hk,u=>by
   have h1:=treeP_to x k;have h2:=linkP_row x.back (treeP x n k) (wgt x k) (a:=(within (gI x.links k) ((k:Int)+1)).toNat) (b:=k+1) (by rw[treeP_len];omega) (by rw[treeP_len];exact hk) u;have h3:=treeP_row x n k (by omega) u;rw[treeP];omega
abbrev netOwn (I:List Int) (p:Ps):Own:=gOwn ⟨I,p⟩
theorem vec_fam (ρ:Rn) (n:Nat):BRen ρ (.vec n 1 fun _ _=>.nilslice) (famP (List.replicate n [])):=⟨by simp,rfl,rfl,fun i hi=>⟨rfl,by rw[lenP,rep_row];rfl⟩⟩
theorem fam_fam (ρ:Rn) (p:Ps):BRen ρ (famP p) (famP p):=⟨rfl,rfl,True.intro,fun i hi=>rfl,fun i j t hi hn hj ht=>VLe.rfl⟩
set_option maxHeartbeats 8000000 in
theorem tree_ok (x:Net) (hx:x.Small) (most:Int) (h1:1<=most) (h2:most<=24) :
 CallF Tryz.prog 16 [x.v,.int .i64 most] [] KS fun v own' _=>v=gV1 (x.size most) (x.size most)/\own'=netOwn (idsF x.ids (x.size most)) (treeP x (x.size most) (x.size most-1)):=by
 have hn:=nodes_ok x hx most h1 h2;have hsz:1<=x.size most/\x.size most<=24:=by
  have:=within_range x.n1 h1;rw[Net.size];omega
 have hll:=hx.links;have hwl:=hx.weights;generalize x.size most=n at *;have hil:=idsF_len x.ids n;refine call_post ?_;refine fn_rule mixed Tryz.func16 rfl hc16 hr16 rfl ?_
 repeat' ((conv=>whnf);first|(refine call_by [] [0,1] (hn.mono ?_) ⟨VRen.kf rfl,VRen.kf rfl,True.intro⟩ True.intro rfl;rintro _ _ _ ⟨rfl,rfl⟩)|(refine Chk.mk rfl ?_))
 all_goals (conv=>whnf)
 refine loop_u mixed [2,4,5] [3] [5,6,7,8,9,10,11,12,13,14,15,16,17,18,19,20,21,22,23,24,25,26,27,28,29] [4,2,3,1,0] (fun k:Nat=>[(6,.int .i64 ((k:Int)+1))]) (fun own k=>updO own 3 (famP (treeP x n k))) (fun m k=>m=n-1-k/\k<=n-1) (n-1) 0 ⟨rfl,by omega⟩ rfl (fun _=>rfl) ?_ ?_
 . refine weak_by (fun _ _=>[(0,some 0),(1,some 1),(2,some 2),(3,some 3),(4,some 4)]) ?_ ?_ rfl
   . repeat' (first|exact True.intro|(refine⟨⟨_,rfl,?_⟩,?_⟩)|exact VRen.kf rfl|exact VRen.loc rfl)
   . repeat' (first|exact vec_fam _ _|exact True.intro|(refine⟨⟨_,rfl,?_⟩,?_⟩)|exact VRen.kf rfl|exact VRen.vec rfl rfl rfl|(refine⟨Nat.le_refl _,rfl,fun i j hi hj=>?_⟩)|exact VLe.rfl|(refine And.intro ?_ ?_))
 rintro m k ⟨hm,hk⟩;have hln:=treeP_len x n k;by_cases hkn:k<n-1
 . have ha1:=at_ok x.links hll k;have ha2:=at_ok x.weights hwl k;have hw1:=within_ok (gI x.links k) ((k:Int)+1) (by omega);have hw2:=within_ok (gI x.weights k) 15 (by omega);have hr1:=within_range (gI x.links k) (b:=(k:Int)+1) (by omega);have hr2:=within_range (gI x.weights k) (b:=15) (by omega);have hrow:=treeP_row x n k (by omega);have hl:=link_ok x ⟨idsF x.ids n,treeP x n k⟩ (small_of (by show(idsF x.ids n).length<=_;omega) (by show(treeP x n k).length<=_;omega) (fun u=>by have:=hrow u;show(gR (treeP x n k) u).length<=_;omega)) (fun u=>by have:=hrow u;show(gR (treeP x n k) u).length<=_;omega) (within (gI x.links k) ((k:Int)+1)).toNat (k+1) (by show _<(treeP x n k).length;omega) (by show _<(treeP x n k).length;omega) (wgt x k);have hnx:linkP x.back (treeP x n k) (within (gI x.links k) ((k:Int)+1)).toNat (k+1) (wgt x k)=treeP x n (k+1):=rfl;have hwg:wgt x k=1+within (gI x.weights k) 15:=rfl;simp only[hnx,hil,hln] at hl;generalize within (gI x.links k) ((k:Int)+1)=a at *;generalize within (gI x.weights k) 15=w at *
   repeat' ((conv=>whnf);first|(refine Ar.i64 (by omega) (by omega) ?_;rw[show(k:Int)+1-1=(k:Int) by omega])|(refine Br.dec ?_ ?_<;>intro _<;>try omega)|(refine Ar.i64 (by omega) (by omega) ?_)|(refine ha1.go ?_)|(refine ha2.go ?_)|(refine hw1.go ?_)|(refine hw2.go ?_)|(refine And.intro rfl ?_)|(refine call_by [(0,some 2),(1,some 3)] [] (hl.mono ?_) ⟨VRen.kf rfl,VRen.agg ⟨VRen.vec rfl rfl rfl,VRen.vec rfl rfl rfl,True.intro⟩,VRen.int (by omega),VRen.int (by omega),VRen.int (by omega),True.intro⟩ ⟨⟨_,rfl,Nat.le_of_eq hil,rfl,fun _ _ _ _=>VLe.rfl⟩,⟨_,rfl,fam_fam _ _⟩,True.intro⟩ rfl;rintro _ _ _ ⟨rfl,rfl⟩)|(refine Chk.mk rfl ?_))
   all_goals (conv=>whnf)
   all_goals
    refine⟨n-1-(k+1),k+1,by omega,⟨rfl,by omega⟩,?_⟩;refine weak_by (fun _ _=>[(0,some 0),(1,some 1),(2,some 2),(3,some 3),(4,some 4)]) ?_ ?_ rfl
    . repeat' (first|exact True.intro|(refine⟨⟨_,rfl,?_⟩,?_⟩)|exact VRen.kf rfl|exact VRen.loc rfl)
    . repeat' (first|exact fam_fam _ _|exact⟨Nat.le_of_eq hil.symm,rfl,fun _ _ _ _=>VLe.rfl⟩|exact True.intro|(refine⟨⟨_,rfl,?_⟩,?_⟩)|exact VRen.kf rfl|exact VRen.vec rfl rfl rfl|(refine And.intro ?_ ?_))
 . have e:k=n-1:=by omega
   subst e
   repeat' ((conv=>whnf);first|(refine Br.dec ?_ ?_<;>intro _<;>try omega))
   all_goals (conv=>whnf)
   exact postR_byV (fun v o=>[(0,vkey v 0),(1,vkey v 1)]) _ _ ⟨rfl,rfl⟩ (VRen.agg ⟨VRen.vec rfl rfl rfl,VRen.vec rfl rfl rfl,True.intro⟩) ⟨⟨_,rfl,Nat.le_of_eq hil,rfl,fun _ _ _ _=>VLe.rfl⟩,⟨_,rfl,fam_fam _ _⟩,True.intro⟩ rfl
def moreP (x:Net) (n:Nat) (p:Ps):Nat->Ps
 | 0=>p
 | k+1=>linkP x.back (moreP x n p k) (within (gI x.links (n+2*k)) n).toNat (within (gI x.links (n+2*k+1)) n).toNat (wgt x (n+2*k))
def moreN (x:Net) (n:Nat):Nat:=min ((x.links.length-n) / 2) ((61-n) / 2)
theorem moreP_len (x:Net) (n:Nat) (p:Ps):∀k,(moreP x n p k).length=p.length
 | 0=>rfl
 | k+1=>by rw[moreP,linkP_len,moreP_len x n p k]
theorem within_lt {a:Int} {n:Nat} (hn:1<=n):(within a n).toNat<n:=by
 have:=within_range a (b:=(n:Int)) (by omega);omega
theorem moreP_row (x:Net) (n:Nat) (p:Ps) (hn:1<=n) (hp:p.length=n):∀k u,(gR (moreP x n p k) u).length<=(gR p u).length+k
 | 0,u=>by rw[moreP];omega
 | k+1,u=>by
   have h2:=linkP_row x.back (moreP x n p k) (wgt x (n+2*k)) (a:=(within (gI x.links (n+2*k)) n).toNat) (b:=(within (gI x.links (n+2*k+1)) n).toNat) (by rw[moreP_len,hp];exact within_lt hn) (by rw[moreP_len,hp];exact within_lt hn) u;have h3:=moreP_row x n p hn hp k u;rw[moreP];omega
set_option maxHeartbeats 8000000 in
theorem more_ok (x:Net) (hx:x.Small) (I:List Int) (p:Ps) (n:Nat) (hn:1<=n) (hn2:n<=24) (hI:I.length=n) (hp:p.length=n) (hr:∀u,(gR p u).length<=100) :
 CallF Tryz.prog 15 [x.v,gV1 n n] (netOwn I p) KS4 fun v own' _=>v=gV1 n n/\own'=netOwn I (moreP x n p (moreN x n)):=by
 have hll:=hx.links;have hwl:=hx.weights;have hN:moreN x n<=31/\∀k,k<moreN x n↔(n+2*k+1<x.links.length/\n+2*k<60):=by
  rw[moreN];exact⟨by omega,fun k=>by omega⟩
 refine call_post ?_;refine fn_rule mixed Tryz.func15 rfl hc15 hr15 rfl ?_
 repeat' ((conv=>whnf);first|fail)
 all_goals (conv=>whnf)
 refine loop_u mixed [2,3,4,5] [] [5,6,7,8,9,10,11,12,13,14,15,16,17,18,19,20,21,22,23,24,25,26,27,28,29] [4,3,2,0,1] (fun k:Nat=>[(6,.int .i64 ((n:Int)+2*k))]) (fun own k=>updO own 1 (famP (moreP x n p k))) (fun m k=>m=moreN x n-k/\k<=moreN x n) (moreN x n) 0 ⟨rfl,by omega⟩ rfl (fun _=>rfl) ?_ ?_
 . refine weak_by (fun _ _=>[(0,some 0),(1,some 1),(2,some 2),(3,some 3),(4,some 4)]) ?_ ?_ rfl
   . repeat' (first|exact True.intro|(refine⟨⟨_,rfl,?_⟩,?_⟩)|exact VRen.kf rfl|exact VRen.loc rfl)
   . repeat' (first|exact fam_fam _ _|exact True.intro|(refine⟨⟨_,rfl,?_⟩,?_⟩)|exact VRen.kf rfl|exact VRen.vec rfl rfl rfl|(refine⟨Nat.le_refl _,rfl,fun i j hi hj=>?_⟩)|exact VLe.rfl|(refine And.intro ?_ ?_))
 rintro m k ⟨hm,hk⟩;have hln:=(moreP_len x n p k).trans hp;have hk2:=hN.2 k;by_cases hkn:k<moreN x n
 . obtain⟨c1,c2⟩:=hk2.1 hkn;have ha2:=at_ok x.weights hwl (n+2*k);have hw1:=within_ok (gI x.links (n+2*k)) n (by omega);have hw3:=within_ok (gI x.links (n+2*k+1)) n (by omega);have hw2:=within_ok (gI x.weights (n+2*k)) 15 (by omega);have hr1:=within_range (gI x.links (n+2*k)) (b:=n) (by omega);have hr3:=within_range (gI x.links (n+2*k+1)) (b:=n) (by omega);have hr2:=within_range (gI x.weights (n+2*k)) (b:=15) (by omega);have hrow:∀u,(gR (moreP x n p k) u).length<=1000:=fun u=>by have:=moreP_row x n p hn hp k u;have:=hr u;omega
   have hl:=link_ok x ⟨I,moreP x n p k⟩ (small_of (by show I.length<=_;omega) (by show(moreP x n p k).length<=_;omega) hrow) hrow (within (gI x.links (n+2*k)) n).toNat (within (gI x.links (n+2*k+1)) n).toNat (by show _<(moreP x n p k).length;omega) (by show _<(moreP x n p k).length;omega) (wgt x (n+2*k));have hnx:linkP x.back (moreP x n p k) (within (gI x.links (n+2*k)) n).toNat (within (gI x.links (n+2*k+1)) n).toNat (wgt x (n+2*k))=moreP x n p (k+1):=rfl;have hwg:wgt x (n+2*k)=1+within (gI x.weights (n+2*k)) 15:=rfl;simp only[hnx,hI,hln] at hl;have e2k:((n+2*k:Nat):Int)=(n:Int)+2*k:=by omega
   rw[e2k] at ha2
   repeat' ((conv=>whnf);first|(refine Ix.mk (n+2*k) (by omega) (by omega) ?_;try rw[Nat.zero_add])|(refine Ix.mk (n+2*k+1) (by omega) (by omega) ?_;try rw[Nat.zero_add])|(refine Br.dec ?_ ?_<;>intro _<;>try omega)|(refine Ar.i64 (by omega) (by omega) ?_)|(refine ha2.go ?_)|(refine hw1.go ?_)|(refine hw3.go ?_)|(refine hw2.go ?_)|(refine And.intro rfl ?_)|(refine call_by [(0,some 0),(1,some 1)] [] (hl.mono ?_) ⟨VRen.kf rfl,VRen.agg ⟨VRen.vec rfl rfl rfl,VRen.vec rfl rfl rfl,True.intro⟩,VRen.int (by omega),VRen.int (by omega),VRen.int (by omega),True.intro⟩ ⟨⟨_,rfl,Nat.le_of_eq (by first|rfl|exact hI|exact hI.symm),rfl,fun _ _ _ _=>VLe.rfl⟩,⟨_,rfl,fam_fam _ _⟩,True.intro⟩ rfl;rintro _ _ _ ⟨rfl,rfl⟩)|(refine Chk.mk rfl ?_))
   all_goals (conv=>whnf)
   all_goals
    refine⟨moreN x n-(k+1),k+1,by omega,⟨rfl,by omega⟩,?_⟩;refine weak_by (fun _ _=>[(0,some 0),(1,some 1),(2,some 2),(3,some 3),(4,some 4)]) ?_ ?_ rfl
    . repeat' (first|exact True.intro|(refine⟨⟨_,rfl,?_⟩,?_⟩)|exact VRen.kf rfl|exact VRen.loc rfl)
    . repeat' (first|exact fam_fam _ _|exact⟨Nat.le_refl _,rfl,fun _ _ _ _=>VLe.rfl⟩|exact True.intro|(refine⟨⟨_,rfl,?_⟩,?_⟩)|exact VRen.kf rfl|exact VRen.vec rfl rfl rfl|(refine And.intro ?_ ?_))
 . have e:k=moreN x n:=by omega
   subst e;by_cases h1:n+2*moreN x n+1<x.links.length
   all_goals
    repeat' ((conv=>whnf);first|(refine Br.dec ?_ ?_<;>intro _<;>try omega)|(refine Ar.i64 (by omega) (by omega) ?_))
    all_goals (conv=>whnf)
    all_goals exact postR_byV (fun v o=>[(0,vkey v 0),(1,vkey v 1)]) _ _ ⟨rfl,rfl⟩ (VRen.agg ⟨VRen.vec rfl rfl rfl,VRen.vec rfl rfl rfl,True.intro⟩) ⟨⟨_,rfl,Nat.le_refl _,rfl,fun _ _ _ _=>VLe.rfl⟩,⟨_,rfl,fam_fam _ _⟩,True.intro⟩ rfl
theorem size_ok (x:Net) {most:Int} (h1:1<=most):1<=x.size most/\(x.size most:Int)<=most:=by
 have:=within_range x.n1 h1;rw[Net.size];omega
def Net.con (x:Net) (most:Int):G:=⟨idsF x.ids (x.size most),moreP x (x.size most) (treeP x (x.size most) (x.size most-1)) (moreN x (x.size most))⟩
def Net.any (x:Net) (most:Int):G:=if x.apart then⟨idsF x.ids (x.size most),moreP x (x.size most) (List.replicate (x.size most) []) (moreN x (x.size most))⟩ else x.con most
theorem view_g {g:G} {n:Nat} (h1:g.ids.length=n) (h2:g.ports.length=n):VLe (V.agg [.fz n 1 false (shiftF 0 (vI g.ids)),.fz n 1 false fun i _=>.fz (lenP g.ports i) 2 false (rowP g.ports i)]) g.v:=by
 refine VLe.agg ⟨?_,?_,True.intro⟩
 . exact VLe.fz h1.symm (fun h=>h) (fun i j hi hj=>VLe.of_eq (by simp[shiftF]))
 . exact VLe.fz h2.symm (fun h=>h) (fun i j hi hj=>VLe.rfl)
theorem ret_g {g:G} {n:Nat} (h1:g.ids.length=n) (h2:g.ports.length=n):frzT (gOwn g) (gV1 n n) fun v=>VLe v g.v :=
 ⟨by rw[Nat.zero_add,h1];exact Nat.le_refl _,Nat.le_of_eq h2.symm,view_g h1 h2⟩
set_option maxHeartbeats 8000000 in
theorem connected_call (x:Net) (hx:x.Small) (most:Int) (h1:1<=most) (h2:most<=24) :
 CallF Tryz.prog 5 [x.v,.int .i64 most] [] KS fun v own' _=>v=gV1 (x.size most) (x.size most)/\own'=gOwn (x.con most):=by
 have ht:=tree_ok x hx most h1 h2;have hsz:=size_ok x h1;have hm:=more_ok x hx (idsF x.ids (x.size most)) (treeP x (x.size most) (x.size most-1)) (x.size most) hsz.1 (by omega) (idsF_len _ _) (treeP_len _ _ _) (fun u=>by have:=treeP_row x (x.size most) (x.size most-1) (by omega) u;omega);refine call_post ?_;refine fn_rule mixed Tryz.func5 rfl hc5 hr5 rfl ?_
 repeat' ((conv=>whnf);first|(refine call_by [] [0,1] (ht.mono ?_) ⟨VRen.kf rfl,VRen.kf rfl,True.intro⟩ True.intro rfl;rintro _ _ _ ⟨rfl,rfl⟩)|(refine call_by [(0,some 2),(1,some 3)] [] (hm.mono ?_) ⟨VRen.kf rfl,VRen.agg ⟨VRen.vec rfl rfl rfl,VRen.vec rfl rfl rfl,True.intro⟩,True.intro⟩ ⟨⟨_,rfl,Nat.le_refl _,rfl,fun _ _ _ _=>VLe.rfl⟩,⟨_,rfl,fam_fam _ _⟩,True.intro⟩ rfl;rintro _ _ _ ⟨rfl,rfl⟩)|(refine Chk.mk rfl ?_)|(refine And.intro rfl ?_))
 all_goals (conv=>whnf)
 exact postR_byV (fun v o=>[(0,vkey v 0),(1,vkey v 1)]) _ _ ⟨rfl,rfl⟩ (VRen.agg ⟨VRen.vec rfl rfl rfl,VRen.vec rfl rfl rfl,True.intro⟩) ⟨⟨_,rfl,Nat.le_refl _,rfl,fun _ _ _ _=>VLe.rfl⟩,⟨_,rfl,fam_fam _ _⟩,True.intro⟩ rfl
theorem con_len (x:Net) (most:Int):(x.con most).ids.length=x.size most/\(x.con most).ports.length=x.size most:=⟨idsF_len _ _,(moreP_len _ _ _ _).trans (treeP_len _ _ _)⟩
theorem connected_ok (x:Net) (hx:x.Small) (most:Int) (h1:1<=most) (h2:most<=24):Ret Tryz.prog 5 [x.v,.int .i64 most] (x.con most).v:=by
 refine ret_frz rfl ((connected_call x hx most h1 h2).mono ?_);rintro _ _ _ ⟨rfl,rfl⟩;exact ret_g (con_len x most).1 (con_len x most).2
structure PV (p:Ps):Prop where
 ok:∀v,v<p.length->okR p.length v (gR p v)=true
 sym:∀v,v<p.length->∀l∈gR p v,((v:Int),l.2)∈gR p l.1.toNat
theorem mem_addP {bk:Bool} {r:List (Int×Int)} {x l:Int×Int}:l∈addP bk r x↔l=x\/l∈r:=by
 rw[addP];split
 . simp
 . simp only[List.mem_append,List.mem_singleton];exact⟨Or.symm,Or.symm⟩
theorem nodup_addP {bk:Bool} {r:List (Int×Int)} {x:Int×Int} (h:(r.map (·.1)).Nodup) (hx:∀l∈r,l.1≠x.1):((addP bk r x).map (·.1)).Nodup:=by
 have hn:x.1∉r.map (·.1):=fun hm=>by
  obtain⟨l,h1,h2⟩:=List.mem_map.1 hm;exact hx l h1 h2
 rw[addP];split
 . rw[List.map_cons,List.nodup_cons];exact⟨hn,h⟩
 . rw[List.map_append,List.nodup_append];refine⟨h,by simp,fun a ha b hb e=>hn ?_⟩;have:b=x.1:=by simpa using hb
   rw[<- this,<- e];exact ha
theorem pv_rep (n:Nat):PV (List.replicate n []):=⟨fun v _=>by rw[rep_row];rfl,fun v _ l hl=>by rw[rep_row] at hl;cases hl⟩
theorem pv_link {bk:Bool} {p:Ps} (h:PV p) {a b:Nat} {w:Int} (ha:a<p.length) (hb:b<p.length) (hw:1<=w/\w<=15):PV (linkP bk p a b w):=by
 have hlen:=linkP_len bk p a b w;rw[linkP] at hlen ⊢;split
 . exact h
 . rename_i hc;rw[if_neg hc] at hlen;have hab:a≠b:=fun e=>hc (.inl e);have hnl:∀l∈gR p a,l.1≠b:=fun l hl e=>hc (.inr (by rw[lnk,List.any_eq_true];exact⟨l,hl,by simpa using e⟩));have hnl2:∀l∈gR p b,l.1≠a:=fun l hl e=>by
    have:=h.sym b hb l hl;rw[e] at this;exact hnl _ this rfl
   have hg:∀v,gR ((p.set a (addP bk (gR p a) ((b:Int),w))).set b (addP bk (gR p b) ((a:Int),w))) v=if v=b then addP bk (gR p b) ((a:Int),w) else if v=a then addP bk (gR p a) ((b:Int),w) else gR p v:=fun v=>by
    rw[gR_set _ b _ (by simpa using hb),gR_set p a _ ha]
   constructor
   . intro v hv;rw[hlen] at hv ⊢;rw[hg];split
     . rename_i e;subst e;obtain⟨o1,o2⟩:=okR_iff.1 (h.ok v hv);refine okR_iff.2 ⟨fun l hl=>?_,nodup_addP o2 hnl2⟩;rcases mem_addP.1 hl with rfl|hl
       . simp only;omega
       . exact o1 l hl
     . split
       . rename_i e;subst e;obtain⟨o1,o2⟩:=okR_iff.1 (h.ok v hv);refine okR_iff.2 ⟨fun l hl=>?_,nodup_addP o2 hnl⟩;rcases mem_addP.1 hl with rfl|hl
         . simp only;omega
         . exact o1 l hl
       . exact h.ok v hv
   . intro v hv l hl;rw[hlen] at hv;have old:∀u x,x∈gR p u->x∈gR ((p.set a (addP bk (gR p a) ((b:Int),w))).set b (addP bk (gR p b) ((a:Int),w))) u:=fun u x hx=>by
      rw[hg];split
      . rename_i e;subst e;exact mem_addP.2 (.inr hx)
      . split
        . rename_i e;subst e;exact mem_addP.2 (.inr hx)
        . exact hx
     rw[hg] at hl;split at hl
     . rename_i e;subst e;rcases mem_addP.1 hl with rfl|hl
       . simp only[Int.toNat_natCast];rw[hg,if_neg hab,if_pos rfl];exact mem_addP.2 (.inl rfl)
       . exact old _ _ (h.sym v hv l hl)
     . split at hl
       . rename_i e;subst e;rcases mem_addP.1 hl with rfl|hl
         . simp only[Int.toNat_natCast];rw[hg,if_pos rfl];exact mem_addP.2 (.inl rfl)
         . exact old _ _ (h.sym v hv l hl)
       . exact old _ _ (h.sym v hv l hl)
theorem wgt_ok (x:Net) (i:Nat):1<=wgt x i/\wgt x i<=15:=by
 have:=within_range (gI x.weights i) (b:=15) (by omega);rw[wgt];omega
theorem pv_tree (x:Net) (n:Nat):∀k,k<n->PV (treeP x n k)
 | 0,_=>pv_rep n
 | k+1,hk=>by
   have h1:=treeP_to x k;rw[treeP];exact pv_link (pv_tree x n k (by omega)) (by rw[treeP_len];omega) (by rw[treeP_len];exact hk) (wgt_ok x k)
theorem pv_more (x:Net) {n:Nat} (hn:1<=n) {p:Ps} (hp:p.length=n) (h:PV p):∀k,PV (moreP x n p k)
 | 0=>h
 | k+1=>by
   rw[moreP];exact pv_link (pv_more x hn hp h k) (by rw[moreP_len,hp];exact within_lt hn) (by rw[moreP_len,hp];exact within_lt hn) (wgt_ok x _)
theorem valid_of {I:List Int} {p:Ps} {n:Nat} (h1:1<=n) (h2:n<=24) (hI:I.length=n) (hp:p.length=n) (h3:∀a∈I,0<=a/\a<=255) (h4:I.Nodup) (h:PV p):(⟨I,p⟩:G).valid=true:=by
 rw[G.valid,Bool.and_eq_true,Bool.and_eq_true,decide_eq_true_eq];refine⟨⟨by show 1<=I.length;omega,by show I.length<=24;omega,by show p.length=I.length;omega⟩,(idsOk_iff _).2 ⟨h3,h4⟩,?_⟩;rw[portsOk,Bool.and_eq_true];exact⟨rowsOk_iff.2 h.ok,symOk_iff.2 h.sym⟩
theorem con_valid (x:Net) {most:Int} (h1:1<=most) (h2:most<=24):(x.con most).valid=true:=by
 have hs:=size_ok x h1;have hi:=idsF_ok x.ids (x.size most) (by omega);exact valid_of hs.1 (by omega) (con_len x most).1 (con_len x most).2 hi.1 hi.2 (pv_more x hs.1 (treeP_len _ _ _) (pv_tree x _ _ (by omega)) _)
theorem valid_small {g:G} (h:g.valid=true):g.Small:=by
 obtain⟨f1,f2,f3,f4,f5,f6,f7⟩:=val_facts h;refine small_of (by omega) (by omega) (fun u=>?_);by_cases hu:u<g.ports.length
 . have:=okR_len hu (f6 u hu);omega
 . have:gR g.ports u=[]:=by simp[gR,List.getD,List.getElem?_eq_none (Nat.le_of_not_lt hu)]
   rw[this];simp
theorem linkP_get {bk:Bool} {p:Ps} {a b:Nat} {w:Int} (ha:a<p.length) (hb:b<p.length) (hc:¬ (a=b\/lnk p a b=true)) (v:Nat) :
 gR (linkP bk p a b w) v=if v=b then addP bk (gR p b) ((a:Int),w) else if v=a then addP bk (gR p a) ((b:Int),w) else gR p v:=by
 rw[linkP,if_neg hc,gR_set _ b _ (by simpa using hb),gR_set p a _ ha]
theorem linkP_keep {bk:Bool} {p:Ps} {a b:Nat} {w:Int} (ha:a<p.length) (hb:b<p.length) {v:Nat} {l:Int×Int} (hl:l∈gR p v):l∈gR (linkP bk p a b w) v:=by
 by_cases hc:a=b\/lnk p a b=true
 . rw[linkP,if_pos hc];exact hl
 . rw[linkP_get ha hb hc];split
   . rename_i e;subst e;exact mem_addP.2 (.inr hl)
   . split
     . rename_i e;subst e;exact mem_addP.2 (.inr hl)
     . exact hl
theorem linkP_new {bk:Bool} {p:Ps} (h:PV p) {a b:Nat} {w:Int} (ha:a<p.length) (hb:b<p.length) (hab:a≠b):∃l∈gR (linkP bk p a b w) b,l.1=(a:Int):=by
 by_cases hc:lnk p a b=true
 . rw[linkP,if_pos (.inr hc)];rw[lnk,List.any_eq_true] at hc;obtain⟨l,hl,e⟩:=hc;have e:l.1=(b:Int):=by simpa using e
   have:=h.sym a ha l hl;rw[e,Int.toNat_natCast] at this;exact⟨_,this,rfl⟩
 . rw[linkP_get ha hb (by rintro (e|e);exact hab e;exact hc e),if_pos rfl];exact⟨_,mem_addP.2 (.inl rfl),rfl⟩
def Anc (p:Ps) (k:Nat):Prop:=∀v,1<=v->v<=k->∃l∈gR p v,l.1.toNat<v
theorem anc_tree (x:Net) (n:Nat):∀k,k<n->Anc (treeP x n k) k
 | 0,_=>fun v h1 h2=>by omega
 | k+1,hk=>by
   intro v h1 h2;have ht:=treeP_to x k;have hpv:=pv_tree x n k (by omega);have hl:=treeP_len x n k;rw[treeP];by_cases e:v=k+1
   . subst e;obtain⟨l,hl1,e⟩:=linkP_new (bk:=x.back) (w:=wgt x k) hpv (a:=(within (gI x.links k) ((k:Int)+1)).toNat) (b:=k+1) (by omega) (by omega) (by omega);exact⟨l,hl1,by rw[e,Int.toNat_natCast];exact ht⟩
   . obtain⟨l,hl1,e2⟩:=anc_tree x n k (by omega) v h1 (by omega);exact⟨l,linkP_keep (by omega) (by omega) hl1,e2⟩
theorem anc_more (x:Net) {n:Nat} (hn:1<=n) {p:Ps} (hp:p.length=n) {m:Nat} (h:Anc p m):∀k,Anc (moreP x n p k) m
 | 0=>h
 | k+1=>by
   intro v h1 h2;obtain⟨l,hl,e⟩:=anc_more x hn hp h k v h1 h2;rw[moreP];exact⟨l,linkP_keep (by rw[moreP_len,hp];exact within_lt hn) (by rw[moreP_len,hp];exact within_lt hn) hl,e⟩
theorem conn_of {g:G} (hg:g.valid=true) (ha:∀v,1<=v->v<g.ports.length->∃l∈gR g.ports v,l.1.toNat<v):g.conn=true:=by
 obtain⟨f1,f2,f3,f4,f5,f6,f7⟩:=val_facts hg;have hF:=dst_found hg;have hu:=und_of hg;have key:∀m v,v<m->v<g.ports.length->0<=gI (dst g 0) v:=by
  intro m
  induction m with
  | zero=>intro v h;omega
  | succ m ih =>
    intro v hm hv;by_cases h0:v=0
    . subst h0;have:=hF.from_;have this:gI (dst g 0) 0=0:=this;omega
    . obtain⟨l,hl,e⟩:=ha v (by omega) hv;have h1:=ih l.1.toNat (by omega) (by omega);obtain⟨m',hm',em⟩:=hu.sym v hv l hl;have:=(hF.on l.1.toNat (by omega) h1 m' hm').1;rw[em] at this;exact this
 rw[G.conn,hg,Bool.true_and,negB_no.2 (fun a ham=>?_)]
 . rfl
 . obtain⟨i,hi,e⟩:=List.mem_iff_getElem.1 ham;have:=key (i+1) i (by omega) (by rw[dst_len] at hi;exact hi);rw[<- e];simpa[gI,hi] using this
theorem con_conn (x:Net) {most:Int} (h1:1<=most) (h2:most<=24):(x.con most).conn=true:=by
 have hs:=size_ok x h1;refine conn_of (con_valid x h1 h2) fun v hv1 hv=>?_;rw[(con_len x most).2] at hv;exact anc_more x hs.1 (treeP_len _ _ _) (anc_tree x (x.size most) (x.size most-1) (by omega)) _ v hv1 (by omega)
noncomputable def btN (g:G) (v:Nat):Nat:=Tv g v / g.ids.length
def JnQ (g:G) (b:Int) (x:Nat->Bool):Prop:=∀v,v<g.ids.length->x v=true->Jn g (b+1) 0 v
theorem bps_ex {g:G} (h:g.conn=true) {b:Int} (hb:0<=b) {r v:Nat} {x:Nat->Bool} (hv:v<g.ids.length) (hp:BPs g b r v 0 x) (hq:JnQ g b x):∀i,i<=(gR g.ports v).length->∃x,BPs g b r v i x/\JnQ g b x
 | 0,_=>⟨x,hp,hq⟩
 | i+1,hi=>by
   obtain⟨y,h1,h2⟩:=bps_ex h hb hv hp hq i (by omega);obtain⟨f1,f2,f3,f4,f5,f6,f7⟩:=val_facts (conn_facts h).1;have hl:=gF_mem (show i<(gR g.ports v).length by omega);have hok:=(okR_iff.1 (f6 v (by omega))).1 _ hl;refine⟨_,h1.step h hb hv (by omega),fun u hu e=>?_⟩;by_cases q:u=v
   . subst q;rw[cup,if_pos rfl,Bool.or_eq_true,Bool.and_eq_true,decide_eq_true_eq] at e;rcases e with e | ⟨e1,e2⟩
     . exact h2 u hu e
     . exact .step hu hl (by omega) (h2 _ (by omega) e1)
   . rw[cup,if_neg q] at e;exact h2 u hu e
theorem bpv_ex {g:G} (h:g.conn=true) {b:Int} (hb:0<=b) {r:Nat} {x:Nat->Bool} (hp:BIn g b r x) (hq:JnQ g b x):∀v,v<=g.ids.length->∃x,BPs g b r v 0 x/\JnQ g b x
 | 0,_=>⟨x,.start hp,hq⟩
 | v+1,hv=>by
   obtain⟨y,h1,h2⟩:=bpv_ex h hb hp hq v (by omega);obtain⟨z,h3,h4⟩:=bps_ex h hb (by omega) h1 h2 _ (Nat.le_refl _);exact⟨z,h3.row h (by omega),h4⟩
theorem bin_ex {g:G} (h:g.conn=true) {b:Int} (hb:0<=b):∀r,∃x,BIn g b r x/\JnQ g b x
 | 0=>by
   obtain⟨f1,f2,f3,f4,f5,f6,f7⟩:=val_facts (conn_facts h).1;exact⟨_,BIn.start hb (by omega),fun v hv e=>by have:=of_decide_eq_true e;subst this;exact .refl⟩
 | r+1=>by
   obtain⟨x,h1,h2⟩:=bin_ex h hb r;obtain⟨y,h3,h4⟩:=bpv_ex h hb h1 h2 _ (Nat.le_refl _);exact⟨y,h3.over (Nat.le_refl _),h4⟩
theorem bot_jn {g:G} (h:g.conn=true) {b:Int} (hb:0<=b) {v:Nat} (hv:v<g.ids.length):((btN g v:Nat):Int)<=b↔Jn g (b+1) 0 v:=by
 obtain⟨f1,f2,f3,f4,f5,f6,f7⟩:=val_facts (conn_facts h).1;obtain⟨x,h1,h2⟩:=bin_ex h hb g.ids.length;have hd:∀u,u<g.ids.length->x u=decide (((Tv g u / g.ids.length:Nat):Int)<=b):=fun u hu=>h1.done hb hu;constructor
 . intro q;exact h2 v hv (by rw[hd v hv];exact decide_eq_true q)
 . intro q;have key:∀{u},Jn g (b+1) 0 u->u<g.ids.length->x u=true:=fun q=>by
    induction q with
    | refl=>intro _;exact h1.root
    | step hv hl hw _ ih =>
      rename_i u l _;intro _;have hok:=(okR_iff.1 (f6 u (by omega))).1 _ hl;have hx:=ih (by omega);obtain⟨i,hi,e⟩:=gF_get hl;have hp:BPs g b g.ids.length u i x:=⟨h1,fun w _ hw _ q=>h1.ok w hw (by have:=rk_top (g:=g) hw;omega) q,fun j _ _ _ _ q=>h1.ok u hv (by have:=rk_top (g:=g) hv;omega) q⟩;have hs:=(hp.step h hb hv hi).base.done hb hv;rw[cup,if_pos rfl,e,hx,decide_eq_true (by omega),Bool.true_and,Bool.or_true] at hs;rw[hd u hv];exact hs.symm
   have:=key q hv;rw[hd v hv] at this;exact of_decide_eq_true this
def swp (a v:Nat):Nat:=if v=0 then a else if v=a then 0 else v
theorem swp_aa (a:Nat):swp a a=0:=by
 simp only[swp];split
 . assumption
 . simp
theorem swp_swp (a v:Nat):swp a (swp a v)=v:=by
 simp only[swp]
 repeat' split
 all_goals omega
theorem swp_lt {a n v:Nat} (ha:a<n) (hv:v<n):swp a v<n:=by
 simp only[swp]
 repeat' split
 all_goals omega
theorem swp_inj {a u v:Nat} (h:swp a u=swp a v):u=v:=by rw[<- swp_swp a u,h,swp_swp]
def swL (a:Nat) (l:Int×Int):Int×Int:=(((swp a l.1.toNat:Nat):Int),l.2)
def rlG (g:G) (a:Nat):G:=⟨(List.range g.ids.length).map fun v=>gI g.ids (swp a v),(List.range g.ports.length).map fun v=>(gR g.ports (swp a v)).map (swL a)⟩
theorem rl_ilen (g:G) (a:Nat):(rlG g a).ids.length=g.ids.length:=by simp[rlG]
theorem rl_plen (g:G) (a:Nat):(rlG g a).ports.length=g.ports.length:=by simp[rlG]
theorem rl_ids {g:G} {a v:Nat} (hv:v<g.ids.length):gI (rlG g a).ids v=gI g.ids (swp a v):=by simp[gI,rlG,List.getD,hv]
theorem rl_row {g:G} {a v:Nat} (hv:v<g.ports.length):gR (rlG g a).ports v=(gR g.ports (swp a v)).map (swL a):=by simp[gR,rlG,List.getD,hv]
theorem nodup_get {l:List Int} (h:l.Nodup) {i j:Nat} (hi:i<l.length) (hj:j<l.length) (e:gI l i=gI l j):i=j:=by
 have hp:=List.pairwise_iff_getElem.1 (List.nodup_iff_pairwise_ne.1 h);have ei:gI l i=l[i]:=by simp[gI,List.getD,hi]
 have ej:gI l j=l[j]:=by simp[gI,List.getD,hj]
 rcases Nat.lt_trichotomy i j with q|q|q
 . exact(hp i j hi hj q (by rw[<- ei,<- ej,e])).elim
 . exact q
 . exact(hp j i hj hi q (by rw[<- ei,<- ej,e])).elim
theorem rl_valid {g:G} (h:g.valid=true) {a:Nat} (ha:a<g.ids.length):(rlG g a).valid=true:=by
 obtain⟨f1,f2,f3,f4,f5,f6,f7⟩:=val_facts h;have h1:=rl_ilen g a;have h2:=rl_plen g a;simp only[G.valid,Bool.and_eq_true,decide_eq_true_eq,portsOk];refine⟨⟨by omega,by omega,by omega⟩,(idsOk_iff _).2 ⟨fun x hx=>?_,?_⟩,rowsOk_iff.2 fun v hv=>?_,symOk_iff.2 fun v hv l hl=>?_⟩
 . obtain⟨v,hv,rfl⟩:=List.mem_map.1 hx;exact f4 _ (gI_mem (swp_lt ha (List.mem_range.1 hv)))
 . show(List.map _ _).Nodup;rw[List.nodup_iff_pairwise_ne,List.pairwise_map];refine List.Pairwise.imp_of_mem (fun {u v} hu hv hlt e=>?_) List.pairwise_lt_range;have:=swp_inj (nodup_get f5 (swp_lt ha (List.mem_range.1 hu)) (swp_lt ha (List.mem_range.1 hv)) e);omega
 . rw[h2] at hv ⊢;have hsv:swp a v<g.ports.length:=swp_lt (by omega) hv;have hr:=okR_iff.1 (f6 _ hsv);rw[rl_row hv,okR_iff];refine⟨fun l hl=>?_,?_⟩
   . obtain⟨m,hm,rfl⟩:=List.mem_map.1 hl;have hok:=hr.1 m hm;have hlt:swp a m.1.toNat<g.ports.length:=swp_lt (by omega) (by omega);have hne:swp a m.1.toNat≠v:=fun e=>by
      have:m.1.toNat=swp a v:=by rw[<- e,swp_swp]
      omega
     simp only[swL];omega
   . rw[List.map_map,List.nodup_iff_pairwise_ne,List.pairwise_map];have hp:=hr.2;rw[List.nodup_iff_pairwise_ne,List.pairwise_map] at hp;refine List.Pairwise.imp_of_mem (fun {x y} hx hy hne e=>hne ?_) hp;have e:((swp a x.1.toNat:Nat):Int)=((swp a y.1.toNat:Nat):Int):=e;have:=swp_inj (a:=a) (u:=x.1.toNat) (v:=y.1.toNat) (by omega);have:=hr.1 x hx;have:=hr.1 y hy;omega
 . rw[h2] at hv;rw[rl_row hv] at hl;obtain⟨m,hm,rfl⟩:=List.mem_map.1 hl;have hsv:swp a v<g.ports.length:=swp_lt (by omega) hv;have hok:=(okR_iff.1 (f6 _ hsv)).1 m hm;have hlt:swp a m.1.toNat<g.ports.length:=swp_lt (by omega) (by omega);have hb:=f7 _ hsv m hm;show _∈gR (rlG g a).ports (swL a m).1.toNat;simp only[swL,Int.toNat_natCast];rw[rl_row hlt,swp_swp];refine List.mem_map.2 ⟨_,hb,?_⟩;simp only[swL,Int.toNat_natCast,swp_swp]
theorem rl_mem {g:G} {a v:Nat} (hv:v<g.ports.length) {l:Int×Int}:l∈gR (rlG g a).ports v↔∃m∈gR g.ports (swp a v),swL a m=l:=by rw[rl_row hv,List.mem_map]
theorem rl_conn {g:G} (h:g.conn=true) {a:Nat} (ha:a<g.ids.length):(rlG g a).conn=true:=by
 obtain⟨hg,hd⟩:=conn_facts h;obtain⟨f1,f2,f3,f4,f5,f6,f7⟩:=val_facts hg;have hv':=rl_valid hg ha;have hF:=dst_found hv';have hG:=dst_found hg;have hu:=und_of hg;have h2:=rl_plen g a;have S:∀x,x<g.ports.length->0<=gI (dst (rlG g a) 0) (swp a x)->∀l∈gR g.ports x,0<=gI (dst (rlG g a) 0) (swp a l.1.toNat):=fun x hx q l hl=>by
  have hsx:swp a x<g.ports.length:=swp_lt (by omega) hx;have:=(hF.on (swp a x) (by omega) q (swL a l) ((rl_mem hsx).2 ⟨l,by rw[swp_swp];exact hl,rfl⟩)).1;simpa only[swL,Int.toNat_natCast] using this
 have Sa:0<=gI (dst (rlG g a) 0) (swp a a):=by
  have e:swp a a=0:=swp_aa a;have:gI (dst (rlG g a) 0) 0=0:=hF.from_;rw[e];omega
 have S0:∀m x,x<g.ports.length->gI (dst g 0) x=(m:Nat)->0<=gI (dst (rlG g a) 0) (swp a x)->0<=gI (dst (rlG g a) 0) (swp a 0):=by
  intro m
  induction m with
  | zero =>
    intro x hx e q;by_cases h0:x=0
    . subst h0;exact q
    . obtain⟨l,hl,q1,q2⟩:=hG.back x hx h0 (by omega);omega
  | succ m ih =>
    intro x hx e q;by_cases h0:x=0
    . subst h0;exact q
    . obtain⟨l,hl,q1,q2⟩:=hG.back x hx h0 (by omega);exact ih _ (hu.rng x hx l hl) (by omega) (S x hx q l hl)
 have h0:=S0 (gI (dst g 0) a).toNat a (by omega) (by have:=hd a (by omega);omega) Sa;have Sv:∀m x,x<g.ports.length->gI (dst g 0) x=(m:Nat)->0<=gI (dst (rlG g a) 0) (swp a x):=by
  intro m
  induction m with
  | zero =>
    intro x hx e;by_cases q:x=0
    . subst q;exact h0
    . obtain⟨l,hl,q1,q2⟩:=hG.back x hx q (by omega);omega
  | succ m ih =>
    intro x hx e;by_cases q:x=0
    . subst q;exact h0
    . obtain⟨l,hl,q1,q2⟩:=hG.back x hx q (by omega);obtain⟨k,hk,ek⟩:=hu.sym x hx l hl;have:=S _ (hu.rng x hx l hl) (ih _ (hu.rng x hx l hl) (by omega)) k hk
      rwa[ek] at this
 rw[G.conn,hv',Bool.true_and,negB_no.2 (fun x hx=>?_)]
 . rfl
 . obtain⟨i,hi,e⟩:=List.mem_iff_getElem.1 hx;rw[dst_len] at hi;have hsi:swp a i<g.ports.length:=swp_lt (by omega) (by omega);have:=Sv (gI (dst g 0) (swp a i)).toNat (swp a i) hsi (by have:=hd _ hsi;omega);rw[swp_swp] at this;rw[<- e];simpa[gI,List.getD,dst_len,hi] using this
theorem jn_rl {g:G} (hg:g.valid=true) {a:Nat} (ha:a<g.ids.length) {w:Int} {x y:Nat} (h:Jn g w x y):Jn (rlG g a) w (swp a x) (swp a y):=by
 obtain⟨f1,f2,f3,f4,f5,f6,f7⟩:=val_facts hg
 induction h with
 | refl=>exact .refl
 | step hv hl hw _ ih =>
   rename_i v l _;have hsv:swp a v<g.ids.length:=swp_lt ha hv;refine .step (l:=swL a l) (by rw[rl_ilen];exact hsv) ((rl_mem (by omega)).2 ⟨l,by rw[swp_swp];exact hl,rfl⟩) hw ?_;simpa only[swL,Int.toNat_natCast] using ih
theorem rl_jn {g:G} (hg:g.valid=true) {a:Nat} (ha:a<g.ids.length) {w:Int} {x y:Nat} (h:Jn (rlG g a) w x y):Jn g w (swp a x) (swp a y):=by
 obtain⟨f1,f2,f3,f4,f5,f6,f7⟩:=val_facts hg
 induction h with
 | refl=>exact .refl
 | step hv hl hw _ ih =>
   rename_i v l _;rw[rl_ilen] at hv;obtain⟨m,hm,rfl⟩:=(rl_mem (by omega)).1 hl;refine .step (swp_lt ha hv) hm hw ?_;simpa only[swL,Int.toNat_natCast,swp_swp] using ih
theorem swp_a (a:Nat):swp a 0=a:=if_pos rfl
theorem ch_bot {g:G} (h:g.conn=true) {a b:Nat} {w:Int} (he:EdgeG g a b w):chE g ⟨a,b,w⟩=decide (((btN (rlG g a) (swp a b):Nat):Int)=w):=by
 obtain⟨hg,hd⟩:=conn_facts h;obtain⟨f1,f2,f3,f4,f5,f6,f7⟩:=val_facts hg;have ha:=he.lu;have hb:=he.lv;have hc:=rl_conn h ha;have hok:=(okR_iff.1 (f6 a (by omega))).1 _ he.mem;simp only at hok;have hsb:swp a b<(rlG g a).ids.length:=by rw[rl_ilen];exact swp_lt ha hb
 have h1:=bot_jn hc (b:=w) (by omega) hsb;have h2:=bot_jn hc (b:=w-1) (by omega) hsb;have e1:w-1+1=w:=by omega
 rw[e1] at h2;have h3:Jn (rlG g a) (w+1) 0 (swp a b):=by
  have hs:=he.symm hg;have:=jn_rl hg ha (w:=w+1) (x:=a) (y:=b) (.step (l:=((a:Int),w)) hb hs.mem (by simp only;omega) (by simp only[Int.toNat_natCast];exact .refl));have e0:swp a a=0:=swp_aa a
  rwa[e0] at this
 have h4:Jn (rlG g a) w 0 (swp a b)↔Jn g w a b:=by
  constructor
  . intro q;have:=rl_jn hg ha q
    rwa[swp_swp,swp_a] at this
  . intro q;have:=jn_rl hg ha q;have e0:swp a a=0:=swp_aa a
    rwa[e0] at this
 have h5:=h1.2 h3;rw[chE,decide_eq_decide];simp only;rw[<- h4,<- h2];omega
end Go.Proofs.YtefdkgkojlflaaaGreatDoor
