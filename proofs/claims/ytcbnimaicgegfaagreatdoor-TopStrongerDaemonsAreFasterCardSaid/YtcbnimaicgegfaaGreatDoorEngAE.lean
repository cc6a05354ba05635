import Derived.Test.YtcbnimaicgegfaaGreatDoorEngQ
import Derived.Carry
import Derived.ProofKit
import Derived.OpenShut
set_option linter.all false
namespace Go.Eng
theorem LLe.dens {cs a:List V} (h:LLe cs a) {M:Nat->Prop} {w:World} {us:List Value} (f:cs.length=us.length) (hd:∀(i:Nat) (v:V) (u:Value),cs[i]?=some v->us[i]?=some u->Den M w Sg.none v u) :
 a.length=us.length/\∀(i:Nat) (v:V) (u:Value),a[i]?=some v->us[i]?=some u->Den M w Sg.none v u:=by
 obtain⟨l,e⟩:=h.out;refine⟨by omega,fun i v u b d=>?_⟩;have c:i<cs.length:=by rw[<- l];exact(Qs.1 b).1
 exact(e i cs[i] v (by simp[c]) b).out M w u (hd i cs[i] u (by simp[c]) d)
theorem Q5F {P:Program} {f:FuncId} {args g:List V} {X:V} {own:Own} {ks:List Nat} {K:V->Own->List Nat->Prop} (a:List Nat) (h:Ret P f g X)
 (l:X3Q (J2n a own) args fun args'=>LLe args' g) (L:K X (J2J a own) ks):J0N P f args own ks K:=by
 obtain⟨args',s,I,G⟩:=J3U l;constructor;intro M w σ us A hd C;obtain⟨E,J⟩:=J6x C a;have H:=J7n C a;obtain⟨d1,d2⟩:=s.dens (M:=J55 M w σ (J2n a own)) (w:=w) (us:=us) (by omega) (fun i D u m r=>by
  have B:i<args.length:=by rw[<- I];exact(Qs.1 m).1
  exact G M w σ H i args[i] D u (by simp[B]) m (hd i args[i] u (by simp[B]) r))
 refine((h (J2J a own) ks).out (J55 M w σ (J2n a own)) w σ us d1 (fun i v u p r=>(d2 i v u p r).mono (Ext.mk (fun _ _ h=>⟨h,rfl⟩) (Qd _)) (Sg.none_le σ)) E).mono ?_;rintro e w' ⟨N,o,v,own',F,u,rfl,p,t,j,kd,rfl,rfl,rfl⟩;have d:∀b,J0x w σ (J2J a own) b->J0x w σ own b:=fun b ⟨k,c,z,y⟩=>⟨k,c,(J0H.1 z).1,y⟩;refine⟨N,o,_,_,_,u,rfl,p,t,⟨⟨j.adv.os,j.adv.tape,j.adv.output,j.adv.size,fun b l n=>j.adv.same b l fun x=>n (d b x),fun b l n=>(j.adv.muts b l fun x=>n (d b x)).trans (J b n)⟩,?_,j.le⟩,⟨kd.1,kd.2.1,fun k hk=>?_⟩,L⟩
 . intro b l;rcases j.new b l with x|x
   . exact .inl (d b x)
   . exact .inr x
 . rcases kd.2.2 k hk with x|x
   . obtain⟨⟨q,c⟩,z,y⟩:=Qi.1 x;exact .inl (Qi.2 ⟨_,(J0H.1 z).1,y⟩)
   . exact .inr x
open Go.ChangeShapes Go.WideShapes Go.ChangeAt Go.RowKit
section
variable {H:Type} {enc:TypeId×Value->H} {P:Program} {w:World} {sp:Nat->Bool} {hd:Bool}
theorem J5K {α e:Type} {f:α->Option e}:∀{l:List α} {r:List e},l.mapM f=some r->∀(i:Nat) (x:α),l[i]?=some x->∃y,f x=some y/\r[i]?=some y
 | [],r,h,i,x,b=>by simp at b
 | a::l,r,h,i,x,b=>by
   rw[J3] at h;cases c:f a with
   | none=>simp[c] at h
   | some y =>
     cases d:l.mapM f with
     | none=>simp[c,d] at h
     | some g =>
       simp[c,d] at h;subst h;cases i with
       | zero=>simp at b;subst b;exact⟨y,c,by simp⟩
       | succ i=>simp at b;simpa using J5K d i x b
theorem J01 {fuel:Nat} {t:TypeId} {k:IntKind} {cs:List Value} {x:DataW H×List MemPlace} (a:P.underlying t=some (.int k)) (h:DataW.trod enc P w 0 sp hd fuel t cs=some x) :
 ∃n,cs=[.int k n]/\(Lit.int k n).wf=true:=by
 cases fuel with
 | zero=>simp[DataW.trod] at h
 | succ fuel =>
   unfold DataW.trod at h;rw[a] at h;split at h<;>simp_all
theorem J99 {fuel:Nat} {t:TypeId} {cs:List Value} {x:DataW H×List MemPlace} (a:P.underlying t=some .bool) (h:DataW.trod enc P w 0 sp hd fuel t cs=some x) :
 ∃b,cs=[.bool b]:=by
 cases fuel with
 | zero=>simp[DataW.trod] at h
 | succ fuel =>
   unfold DataW.trod at h;rw[a] at h;split at h<;>simp_all
theorem J2u {fuel:Nat} {t e:TypeId} {cs:List Value} {x:DataW H×List MemPlace} (j:P.underlying t=some (.slice e)) (h:DataW.trod enc P w 0 sp hd fuel t cs=some x) :
 cs=[.slice none 0 0]\/∃a len cap n,cs=[.slice (some a) len cap]/\len<=cap/\cap<=maxLen /\
  ∀i,i<len->∃b y,w.cells? 0 (a.add (i*P.cellsOf e)) (P.cellsOf e)=some b/\DataW.trod enc P w 0 sp hd n e b=some y:=by
 cases fuel with
 | zero=>simp[DataW.trod] at h
 | succ fuel =>
   unfold DataW.trod at h;rw[j] at h;split at h<;>first|(rename_i he;cases he;done)|skip
   all_goals try (rename_i he;simp at he;done)
   all_goals try (simp at h;done)
   . exact .inl rfl
   . rename_i m a len cap he;simp at he;subst he;right;split at h
     . rename_i g;cases f:(List.range len).mapM fun i=>(w.cells? 0 (a.add (i*P.cellsOf e)) (P.cellsOf e)).bind (DataW.trod enc P w 0 sp hd fuel e) with
       | none=>simp[f] at h
       | some l =>
         refine⟨a,len,cap,fuel,rfl,g.2.1,g.2.2,fun i k=>?_⟩;obtain⟨y,d,_⟩:=J5K f i i (by simp[k]);cases c:w.cells? 0 (a.add (i*P.cellsOf e)) (P.cellsOf e) with
         | none=>simp[c] at d
         | some b=>simp[c] at d;exact⟨b,y,rfl,d⟩
     . simp at h
theorem Q2z {a:Addr} {n:Nat} {b:List Value} (h:w.cells? 0 a n=some b) {j:Nat} (c:j<n):∃u,b[j]?=some u/\w.cell? (a.add j)=some u:=by
 simp only[World.cells?,Qh,Zl] at h;obtain⟨y,e,d⟩:=J5K h j j (by simp[c]);exact⟨y,d,e⟩
theorem X8s {a:Addr} (h:a.spot=none) (x y:Nat):(a.add x).add y=⟨a.block,a.off+(x+y),none⟩:=by
 obtain⟨b,o,s⟩:=a;simp only at h;subst h;unfold Addr.add;split<;>split<;>simp_all<;>omega
theorem J5Y {s len cap:Nat} {a:Addr} {f:Nat->Nat->V} (σ:Sg) (q:0<s) (k:len<=cap)
 (n:∀i,i<len->∃g,w.cells? 0 (a.add (i*s)) s=some g/\∀j,j<s->∀u,g[j]?=some u->u.oneCell'=true/\Den (fun _=>False) w Sg.none (f i j) u) :
 Den (fun _=>False) w σ (.fz len s false f) (.slice (some a) len cap):=by
 rcases Q4 len with l|l
 . subst l;exact .fz0 _ _ _ _ _ _ (by simp)
 obtain⟨o,y,_⟩:=n 0 l;obtain⟨z,_,d⟩:=Q2z y q;simp only[Zr,Addr.add,Zl] at d;have e:a.spot=none:=by
  unfold World.cell? at d;split at d
  . split at d
    . cases d
    . rename_i h;simpa using h
  . cases d
 have r:a.block<w.heap.size:=by
  unfold World.cell? at d;split at d
  . rename_i h;exact lt_of_getElem? h
  . cases d
 have key:∀i j,i<len->j<s->∃u,w.cell? ⟨a.block,a.off+(i*s+j),none⟩=some u/\u.oneCell'=true/\Den (fun _=>False) w Sg.none (f i j) u:=by
  intro i j c b;obtain⟨g,x,v⟩:=n i c;obtain⟨u,p,m⟩:=Q2z x b;rw[X8s e] at m;exact⟨u,m,v j b u p⟩
 have t:a=⟨a.block,a.off,none⟩:=by cases a;simp_all
 rw[t];exact .fz _ _ _ _ _ _ _ _ (fun i j=>if h:i<len/\j<s then Classical.choose (key i j h.1 h.2) else undef) k (by simp) (by simp) r
  (fun i j c b=>by simp only[c,b,K3,Yo];exact(Xj (key i j c b)).1)
  (fun i j c b=>by simp only[c,b,K3,Yo];exact(Xj (key i j c b)).2.1)
  (fun i j c b=>by simp only[c,b,K3,Yo];exact(Xj (key i j c b)).2.2)
theorem X0G {a:Addr} {n:Nat} {b:List Value} (h:w.cells? 0 a n=some b):b.length=n:=by
 simp only[World.cells?,Qh,Zl] at h;rcases Y3 b.length n with d|d|d
 . obtain⟨y,_,m⟩:=J5K h b.length b.length (by simp[d]);simp at m
 . exact d
 . exfalso;have:∀{α e:Type} {f:α->Option e} (l:List α) (r:List e),l.mapM f=some r->r.length=l.length:=by
    intro α e f l
    induction l with
    | nil=>intro r c;simp at c;simp[c]
    | cons a l k =>
      intro r c;rw[J3] at c;cases i:f a with
      | none=>simp[i] at c
      | some y =>
        cases g:l.mapM f with
        | none=>simp[i,g] at c
        | some j =>
          simp[i,g] at c;subst c;simp[k j g]
   have:=this _ _ h;simp at this;omega
theorem X3g {fuel:Nat} {t e:TypeId} {k:IntKind} {cs:List Value} {x:DataW H×List MemPlace} (σ:Sg) (o:P.underlying t=some (.slice e)) (he:P.underlying e=some (.int k)) (p:P.cellsOf e=1)
 (h:DataW.trod enc P w 0 sp hd fuel t cs=some x) :
 ∃u l,cs=[u]/\u.oneCell'=true/\Den (fun _=>False) w σ (.fz l.length 1 false (fun i _=>.int k (List.getD l i 0))) u/\l.length<=maxLen/\∀n∈l,(Lit.int k n).wf=true:=by
 rcases J2u o h with rfl | ⟨a,len,cap,n,rfl,r,A,q⟩
 . exact⟨_,[],rfl,rfl,.fz0 _ _ _ _ _ _ (by simp),by simp,by simp⟩
 . have key:∀i,i<len->∃m,w.cells? 0 (a.add (i*1)) 1=some [.int k m]/\(Lit.int k m).wf=true:=by
    intro i b;obtain⟨s,y,f,v⟩:=q i b;rw[p] at f;obtain⟨m,rfl,c⟩:=J01 he v;exact⟨m,f,c⟩
   let g:Nat->Int:=fun i=>if h:i<len then Classical.choose (key i h) else 0
   have hg:∀i (h:i<len),w.cells? 0 (a.add (i*1)) 1=some [.int k (g i)]/\(Lit.int k (g i)).wf=true:=fun i h=>by
    simp only[g,h,Yo];exact Xj (key i h)
   refine⟨_,(List.range len).map g,rfl,rfl,?_,by simp;omega,?_⟩
   . simp only[Ye,Y5];refine J5Y σ (by decide) r fun i b=>⟨_,(hg i b).1,fun j z u d=>?_⟩;obtain rfl:j=0:=by omega
     simp at d;subst d;refine⟨rfl,?_⟩;have:List.getD ((List.range len).map g) i 0=g i:=by simp[b]
     rw[this];exact .int _ _ _
   . intro m c;obtain⟨i,b,rfl⟩:=Qi.1 c;exact(hg i (by simpa using b)).2
theorem J1i {fuel:Nat} {t:TypeId} {a:Array Field} {cs:List Value} {x:DataW H×List MemPlace} (d:P.underlying t=some (.struct a)) (h:DataW.trod enc P w 0 sp hd fuel t cs=some x) :
 cs.length=P.cellsOf t/\∃n,∀(i:Nat) (f:Field),a.toList[i]?=some f->∃y,DataW.trod enc P w 0 sp hd n f.type ((cs.drop f.offset).take (P.cellsOf f.type))=some y:=by
 cases fuel with
 | zero=>simp[DataW.trod] at h
 | succ fuel =>
   simp only[DataW.trod,d] at h;split at h
   . rename_i e;refine⟨e,fuel,fun i f g=>?_⟩;cases b:a.toList.mapM fun f=>DataW.trod enc P w 0 sp hd fuel f.type ((cs.drop f.offset).take (P.cellsOf f.type)) with
     | none=>simp[b] at h
     | some j =>
       obtain⟨y,c,_⟩:=J5K b i f g;exact⟨y,c⟩
   . simp at h
theorem Q2v {fuel:Nat} {t e:TypeId} {f0 f1:Field} {k:IntKind} {cs:List Value} {x:DataW H×List MemPlace} (σ:Sg) (G:P.underlying t=some (.slice e)) (he:P.underlying e=some (.struct #[f0,f1])) (s:P.cellsOf e=2)
 (D:f0.offset=0) (C:f1.offset=1) (t0:P.underlying f0.type=some (.int k)) (t1:P.underlying f1.type=some (.int k)) (M:P.cellsOf f0.type=1) (L:P.cellsOf f1.type=1)
 (h:DataW.trod enc P w 0 sp hd fuel t cs=some x) :
 ∃(u:Value) (l:List (Int×Int)),cs=[u]/\u.oneCell'=true/\Den (fun _=>False) w σ (.fz l.length 2 false (fun i j=>match j with|0=>.int k (List.getD l i (0,0)).1|_+1=>.int k (List.getD l i (0,0)).2)) u/\l.length<=maxLen /\
  ∀n∈l,(Lit.int k n.1).wf=true/\(Lit.int k n.2).wf=true:=by
 rcases J2u G h with rfl | ⟨a,len,cap,n,rfl,K,S,J⟩
 . exact⟨_,[],rfl,rfl,.fz0 _ _ _ _ _ _ (by simp),by simp,by simp⟩
 . have key:∀i,i<len->∃m:Int×Int,w.cells? 0 (a.add (i*2)) 2=some [.int k m.1,.int k m.2]/\(Lit.int k m.1).wf=true/\(Lit.int k m.2).wf=true:=by
    intro i b;obtain⟨f,y,d1,d2⟩:=J i b;rw[s] at d1;obtain⟨q,Q,r⟩:=J1i he d2;obtain⟨O,p⟩:=r 0 f0 rfl;obtain⟨N,o⟩:=r 1 f1 rfl;rw[D,M] at p;rw[C,L] at o;obtain⟨F,z,B⟩:=J01 t0 p;obtain⟨E,v,A⟩:=J01 t1 o;rw[s] at q
    match f,q with
    | [q0,q1],_ =>
      simp at z v;subst z v;exact⟨(F,E),d1,B,A⟩
   let g:Nat->Int×Int:=fun i=>if h:i<len then Classical.choose (key i h) else (0,0)
   have hg:∀i (h:i<len),w.cells? 0 (a.add (i*2)) 2=some [.int k (g i).1,.int k (g i).2]/\(Lit.int k (g i).1).wf=true/\(Lit.int k (g i).2).wf=true:=fun i h=>by
    simp only[g,h,Yo];exact Xj (key i h)
   refine⟨_,(List.range len).map g,rfl,rfl,?_,by simp;omega,?_⟩
   . simp only[Ye,Y5];refine J5Y σ (by decide) K fun i b=>⟨_,(hg i b).1,fun j R u d=>?_⟩;have c:List.getD ((List.range len).map g) i (0,0)=g i:=by simp[b]
     obtain rfl|rfl:j=0\/j=1:=by omega
     . simp at d;subst d;refine⟨rfl,?_⟩;simp only[c];exact .int _ _ _
     . simp at d;subst d;refine⟨rfl,?_⟩;simp only[c];exact .int _ _ _
   . intro m I;obtain⟨i,b,rfl⟩:=Qi.1 I;exact(hg i (by simpa using b)).2
theorem J5x (j:laidOutB P=true) {W m:World} {c:Nat->Bool}:∀{f:List TypeId} {e:List Value} {g:List (DataW H)} {b:List MemPlace},
 (∀t∈f,P.readableRec t=true/\t<P.types.size)->DataW.TrodAll enc P W 0 (fun _=>true) true f e g b->(∀p∈b,W.sameAt m p)->(∀p∈b,c p.block=true)->DataW.TrodAll enc P m 0 c true f e g b
 | [],e,g,b,_,h,_,_=>by
   obtain⟨rfl,rfl,rfl⟩:=trodAll_nil h;rfl
 | t::f,e,g,b,i,h,l,k=>by
   obtain⟨v,n,d,w,p,q,rfl,rfl,rfl,s,r⟩:=trodAll_cons h;refine⟨p,q,WideElems.Trod_stays j (i t (by simp)).1 (i t (by simp)).2 s (fun x a=>l x (by simp[a])) (fun x a=>k x (by simp[a])),?_,rfl⟩;exact J5x j (fun o u=>i o (by simp[u])) r (fun x a=>l x (by simp[a])) (fun x a=>k x (by simp[a]))
theorem X2c {f:Func} {s:ChangeSpec} {b fresh a:Bool} {W u:World} {args:Array Value} {e i:List (DataW H)} {c:List MemPlace} {tb:TypeId} (w:laidOutB P=true) (n:s.vars=[])
 (m:DataW.Whole enc P f.params.toList s.vars b W args.toList e i c) (hp:∀t∈f.params.toList,P.readableRec t=true/\t<P.types.size) (v:f.resultTypes=#[tb]) (j:P.underlying tb=some .bool)
 (B:(s.fn H (e++i)).results=[.lit (.bool true)]) (A:(s.fn H (e++i)).args=e) (z:(s.fn H (e++i)).vars=[]) (o:Below W.heap.size W u) :
 s.post enc P f b fresh a false W args (.bool true) u:=by
 have k:=m.lt;have l:=m;obtain⟨p,q,y,r,rfl,_,_⟩:=m;rw[n] at r;obtain⟨rfl,rfl⟩:=trodVars_none r;have d:∀x∈p,x.block<W.heap.size:=fun x g=>k x (by simp[g]);refine⟨e,[],p++[],[],p,[],l,?_,?_,?_,o.frame _,fun h=>by cases h⟩
 . rw[v,B];exact trodAll_cons_mk (shut_bool j _) trodAll_mk0
 . rw[A];exact J5x w hp y (fun x g=>o.same (d x g)) (fun x g=>by simpa using d x g)
 . rw[n,z];rfl
end
end Go.Eng
namespace Go.Eng
def CC2 (P:Program) (N:Nat) (d c:SC):Code->Code->Prop:=fun a b=>J1p P N a=some d/\J1p P N b=some c
theorem Q3H {M:Nat->Prop} {w:World} {σ:Sg} {own:Own} {ks:List Nat} (h:J0T M w σ own ks) (o:Obj) :
 ∃f,J0T f (w.alloc o) σ own ks/\Tr M w σ own f (w.alloc o) σ own/\f w.heap.size:=by
 let f:Nat->Prop:=fun n=>(M n/\n<w.heap.size)\/n=w.heap.size;have a:∀n,n<w.heap.size->(w.alloc o).heap[n]?=w.heap[n]?:=fun n p=>J0G p;have u:Ext M w f (w.alloc o):=⟨fun b d t=>⟨by rintro (⟨h,_⟩|h);exact t h;omega,a b d⟩,by simp⟩;have c:∀b,J0x w σ own b->(w.alloc o).heap[b]?=w.heap[b]?:=fun b d=>a b (J0p h.own d).2;have e:∀k b n,(k,b)∈own->(J0n (w.alloc o) σ k b n↔J0n w σ k b n):=fun k b n i=>J0U (Sg.le_refl _) (h.own.key i) fun s l=>c s ⟨k,b,i,.inl l⟩;refine⟨f,⟨⟨fun k b i=>(h.own.blk k b i).mono u (Sg.le_refl _) fun n p=>?_,h.own.nodup,fun k b q r n j g m v e2=>h.own.apart k b q r n j g m ((e k b n j).1 v) ((e q r n g).1 e2)⟩,h.fresh,h.knodup⟩,⟨⟨rfl,.rf rfl rfl,rfl,by simp,fun b d _=>a b d,fun b d _=>?_⟩,fun b d=>.inl ((J2S h.own (Sg.le_refl _) c).1 d),Sg.le_refl _⟩,.inr rfl⟩
 . obtain⟨j,g⟩:=J0p h.own ⟨k,b,i,p⟩;exact⟨.inl ⟨j,g⟩,a n g⟩
 . constructor
   . rintro (h|h)
     . exact h.1
     . omega
   . intro h;exact .inl ⟨h,d⟩
def X90 (a:Option (Option Nat)) (K:Out->Prop) (st:St):Prop :=
 match a with
 | none=>K (.normal st)
 | some none=>K (.ret st)
 | some (some id)=>K (.exit id st)
def Q8v (c:Nat) (env:Env) (K:Out->Prop) (_:V) (own':Own) (b:List Nat):Prop :=
 match look own' c with
 | some (.loop st d _ _ _ _)=>match st with
   | .busy=>False
   | _=>X1q c own' fun a=>X90 d K ⟨env,a,b⟩
 | _=>False
def Q1S (P:Program) (N:Nat) (f:List Nat) (e d:SC) (env:Env) (own:Own) (ks:List Nat) (K:Out->Prop) (g:V):Prop :=
 match g with
 | .fn (.func c) false cap=>fresh ks fun b a=>Chk (J08 P c) (J0N P c (.yld b::cap) ((b,.loop .ready none env N f (CC2 P N e d))::own) a (Q8v b env K))
 | _=>False
def recB (a:Option Nat) (own:Own):Bool:=match a with
 | none=>true
 | some k=>match look own k with
   | some (.loop _ _ _ _ _ _)=>true
   | _=>false
def X4m (P:Program) (N:Nat) (d:Option Nat) (c:List Nat) (b a:SC) (env:Env) (own:Own) (ks:List Nat) (K:Out->Prop) (e:V):Prop :=
 match recB d own with
 | true=>Q1S P N c b a env own ks K e
 | false=>False
theorem J6O {g:Nat} {env:Env} {K:Out->Prop} {v:V} {own':Own} {b:List Nat} (h:Q8v g env K v own' b) (k:(own'.map (·.1)).Nodup) :
 ∃st d e N f C a,(g,.loop st d e N f C)∈own'/\st≠.busy/\(a.map (·.1)).Nodup/\(∀i c,(i,c)∈a↔(i≠g/\(i,c)∈own')) /\
  X90 d K ⟨env,a,b⟩:=by
 unfold Q8v at h;split at h
 . rename_i st d e N f C l;split at h
   . exact h.elim
   . rename_i j;obtain⟨r,o,n,m⟩:=J3Q _ _ _ h k;exact⟨st,d,e,N,f,C,r,J0g l,j,n,m,o⟩
 . exact h.elim
theorem Q8u {P:Program} {N:Nat} {Z:List Nat} {sa sb:SC} {env:Env} {own:Own} {ks:List Nat} {K:Out->Prop} {fv:V} (h:Q1S P N Z sa sb env own ks K fv)
 {g0:Operand} {ca cb:Code} (au:J1p P N ca=some sa) (ar:J1p P N cb=some sb) {B:Nat} {σb:Sg} {M:Nat->Prop} {w:World} {σ:Sg} {act:Act} (aj:σb.le σ) (a:Sim N B M w σ ⟨env,own,ks⟩ act)
 (hd:Den M w σ fv (act.eval g0)):(Code.rangeFunc g0 Z.toArray ca cb).wpIn (FR none) 0 P (XP N B σb M w σ own ks K) act w:=by
 unfold Q1S at h;split at h
 case h_2=>exact h.elim
 rename_i gf cap;obtain⟨A,a1,rfl,a9,h⟩:=J0A h;generalize an:act.eval g0=fu at hd;cases hd with
 | fn _ _ _ _ lb ao aq =>
 refine wpIn_rangeFunc ?_;intro fn _;obtain⟨rec,p⟩:∃rec:LoopState->Option Code->Loop,rec=fun st pe=>{ state:=st,pending:=pe,fn,tmps:=act.tmps,params:=Z.toArray,assign:=ca,body:=cb,defers:=w.heap.size }:=⟨_,rfl⟩;obtain⟨W0,F⟩:∃W0,w.alloc (.deferred (some []))=W0:=⟨_,rfl⟩;obtain⟨I,z⟩:∃I,W0.alloc (.loop (rec .ready none))=I:=⟨_,rfl⟩;have a4:W0.heap.size=w.heap.size+1:=by rw[<- F];simp
 have b7:I.heap.size=w.heap.size+2:=by rw[<- z];simp[a4]
 have ax:I.heap[w.heap.size+1]?=some (.loop (rec .ready none)):=by
  rw[<- z,<- a4];exact World.alloc_heap_new _ _
 have az:W0.heap[w.heap.size]?=some (.deferred (some [])):=by rw[<- F];exact World.alloc_heap_new w _
 have ay:I.heap[w.heap.size]?=some (.deferred (some [])):=by
  rw[<- z,J0G (by omega)];exact az
 obtain⟨M0,a5,Y,av⟩:=Q3H a.heap (.deferred (some []));rw[F] at a5 Y;have b2:=Y.ext a.heap.own;obtain⟨M1,al,a6⟩:=J3l (w':=I) a5 (some (w.heap.size+1),0,0) (.loop .ready none env N Z (CC2 P N sa sb)) (fun n e=>by simp at e;omega)
  (by rw[<- z];rfl) (by rw[<- z];exact .rf rfl rfl) (by rw[<- z];rfl) (by omega) (fun n X=>by rw[<- z];exact J0G X) (fun T aw hE=>by
    refine⟨w.heap.size+1,0,rec .ready none,Sg.set_same _ _ _,(aw _).2 (.inr a4.symm),ax,by rw[p],by rw[p];rfl,by rw[p],?_,by rw[p];exact a.size,?_⟩
    . rw[p];exact⟨au,ar⟩
    . intro t v hv;rw[p];exact((a.env t v hv).mono b2 (Sg.le_refl _)).mono hE (Sg.le_set _ (a5.fresh A (by simp))))
 have Q:(σ.set A (some (w.heap.size+1),0,0)) A=some (some (w.heap.size+1),0,0):=Sg.set_same _ _ _;have ad:Kd σ own (A::a1) (σ.set A (some (w.heap.size+1),0,0)) ((A,.loop .ready none env N Z (CC2 P N sa sb))::own) a1:=J42 _ _ J3v;have E:=Y.trans a6;have ac:=E.ext a.heap.own;generalize b4:σ.set A (some (w.heap.size+1),0,0)=σ1 at *;refine⟨w.heap.size+1,[{ target:=.collected w.heap.size,args:=#[] }],I,{ target:=.fn (.func gf) lb.toArray,args:=#[.func (.yield (w.heap.size+1)) #[] #[]] },I,gf,
  #[.func (.yield (w.heap.size+1)) #[] #[]]++lb.toArray,I,?_,?_,fun _ _=>trivial,?_,J4V none,J7y none ?_⟩
 . have:=run_enterLoop_outer (P:=P) (w:=w) fn act.tmps Z.toArray ca cb;rw[F] at this;rw[<- z,p];exact this
 . simp only[resolve,an,fnB,fnC];simp[go_sem]
 . simp[invoke,go_sem,J1V a9]
 . have e:#[Value.func (.yield (w.heap.size+1)) #[] #[]]++lb.toArray=(.func (.yield (w.heap.size+1)) #[] #[]::lb).toArray:=by
    apply Zf;simp
   rw[e];refine(h.out M1 I σ1 (.func (.yield (w.heap.size+1)) #[] #[]::lb) (by simp[ao]) ?_ al).mono ?_
   . intro i v u hv hu;cases i with
     | zero=>simp at hv hu;subst hv hu;exact .yld _ _ _ _ _ Q
     | succ i=>exact(aq i v u (by simpa using hv) (by simpa using hu)).mono ac E.le
   . rintro e w3 ⟨T,m,v,own',O,u,rfl,_,y,tr,kd,hK⟩;obtain⟨st,pe,e0,N0,b6,C0,o,hm,af,ai,f,hK⟩:=J6O hK y.own.nodup;obtain⟨l,κ,r,z1,z2,z3,z4,z5,z6,z7,z8,z9⟩:=y.own.blk A _ hm;have hl:l=w.heap.size+1:=by
      have:=tr.le A _ Q;rw[z1] at this;simp at this;exact this.1
     subst hl;have a8:=run_endLoop (P:=P) z3 (by rw[z4];exact af);have s:=E.trans tr;have ae:=s.adv.size;have b5:=tr.adv.size;have aa:J0u m A=some (w.heap.size+1):=by simp[J0u,z1]
     let G:=w3.putObj (w.heap.size+1) (.loop { r with state:=.exhausted });have g:∀b,b≠w.heap.size+1->G.heap[b]?=w3.heap[b]?:=fun b H=>World.putObj_heap_other H;have b1:Ext T w3 T G:=⟨fun b H hM=>⟨hM,g b fun e=>hM (e▸z2)⟩,by simp[G]⟩;have a7:∀k b n,k≠A->(k,b)∈own'->J0n w3 m k b n->n≠w.heap.size+1:=fun k b n q1 q2 X e=>by
      subst e;exact y.own.apart k b A _ _ q2 hm q1 X (.inl aa)
     have C:∀k b n,k≠A->(k,b)∈own'->(J0n G m k b n↔J0n w3 m k b n):=fun k b n q1 q2=>J0U (Sg.le_refl _) (y.own.key q2) fun ob ag=>g ob (a7 k b ob q1 q2 (.inl ag));have ak:J0T T G m o O :=
      ⟨⟨fun k b S=>by
         obtain⟨q1,q2⟩:=(f k b).1 S;refine(y.own.blk k b q2).mono b1 (Sg.le_refl _) fun n X=>⟨(J0p y.own ⟨k,b,q2,X⟩).1,g n fun e=>?_⟩;subst e;exact y.own.apart k b A _ _ q2 hm q1 X (.inl aa),ai,fun k b k' b' n m1 m2 ah e1 e2=>y.own.apart k b k' b' n ((f k b).1 m1).2 ((f k' b').1 m2).2 ah ((C k b n ((f k b).1 m1).1 ((f k b).1 m1).2).1 e1) ((C k' b' n ((f k' b').1 m2).1 ((f k' b').1 m2).2).1 e2)⟩,y.fresh,y.knodup⟩
     have W:∀n,J0x G m o n->J0x w3 m own' n:=fun n ⟨k,b,S,e⟩=>⟨k,b,((f k b).1 S).2,(C k b n ((f k b).1 S).1 ((f k b).1 S).2).1 e⟩;have J:Tr0 M w σ own T G m o:=by
      refine⟨⟨s.adv.os,⟨s.adv.tape.eq,s.adv.tape.le⟩,s.adv.output,by simpa[G] using ae,fun b H X=>?_,s.adv.muts⟩,fun b H=>s.new b (W b H)⟩;rw[g b (by omega)];exact s.adv.same b H X
     have b0:Ext M w T G:=J.adv.ext fun b H=>(J0p a.heap.own H).1;have U:∀b,J0x w σ own b->I.heap[b]?=w.heap[b]?:=fun b H=>by
      have:=(J0p a.heap.own H).2;rw[<- z,J0G (by omega),<- F,J0G this]
     have R:¬ J0x I σ1 ((A,.loop .ready none env N Z (CC2 P N sa sb))::own) w.heap.size:=by
      intro ho;rcases J4N.1 ho with e|e
      . simp[J0n,J6d,J0u,Q] at e
      . have:=(J0p a.heap.own ((J2S a.heap.own E.le U).1 e)).2;simp at this
     have ab:M1 w.heap.size:=(a6.adv.muts w.heap.size (by omega) (fun ho=>by
      have:=(J0p a.heap.own ((J2S a.heap.own (Sg.le_refl _) (fun b H=>by
       have:=(J0p a.heap.own H).2;rw[<- F,J0G this])).1 ho)).2
      simp at this)).2 av
     have b3:G.heap[w.heap.size]?=some (.deferred (some [])):=by
      rw[g _ (by omega),tr.adv.same w.heap.size (by omega) R];exact ay
     have gd:=a.defers.tr0 J;have L:Sim N B T G m ⟨env,o,O⟩ { act with defers:={ target:=.collected w.heap.size,args:=#[] }::act.defers }:=by
      refine⟨fun t v hv=>(a.env t v hv).mono b0 (Sg.le_trans s.le (Sg.le_refl _)),ak,a.size,⟨gd.base,fun d hd=>?_,?_⟩⟩
      . rcases Qj.1 hd with e|e
        . refine⟨w.heap.size,e,a.defers.base,b3,fun ho=>?_,(tr.adv.muts w.heap.size (by omega) R).2 ab⟩;rcases tr.new _ (W _ ho) with x|x
          . exact R x
          . omega
        . exact gd.mark d e
      . simp only[Q2];refine⟨fun hm=>?_,gd.nodup⟩;obtain⟨D,e,_,q2,_⟩:=a.defers.mark _ hm;simp at e;subst e;have:=lt_of_getElem? q2;omega
     have a2:=ad.trans kd;have a3:Kd σ own (A::a1) m o O:=⟨a2.1,a2.2.1,fun k hk=>by
      obtain⟨⟨q,c⟩,x1,x2⟩:=Qi.1 hk;simp only at x2;subst x2;exact a2.2.2 q (Qi.2 ⟨_,((f q c).1 x1).2,rfl⟩)⟩
     refine⟨r.pending,G,a8,?_⟩;rw[z5];have a0:=Sg.le_trans aj s.le;cases pe with
     | none=>exact⟨T,m,_,L,J,a3,a0,hK⟩
     | some j =>
       cases j with
       | none=>exact wpIn_ret ⟨T,m,_,L,J,a3,a0,hK⟩
       | some id=>exact wpIn_exit ⟨T,m,_,L,J,a3,a0,hK⟩
theorem X23 {P:Program} {w:World} {l:Nat} {r:Loop} (h:w.heap[l]?=some (.loop r)) (fn:FuncId) (tmps:Array Value) (a:Array Tmp) (c b:Code) :
 (Instr.enterLoop fn tmps a c b (some l)).run P w =
   .ok (w.heap.size,[]) (w.alloc (.loop { state:=.ready,pending:=none,fn:=fn,tmps:=tmps,params:=a,assign:=c,body:=b,defers:=r.defers })):=by
 simp[Instr.enterLoop,Sem.run_bind,run_getLoop h,Result.andThen]
theorem X19 {P:Program} {N:Nat} {X:List Nat} {sa sb:SC} {env:Env} {own:Own} {ks:List Nat} {K:Out->Prop} {fv:V} (h:Q1S P N X sa sb env own ks K fv)
 {g0:Operand} {ca cb:Code} (al:J1p P N ca=some sa) (ak:J1p P N cb=some sb) {B:Nat} {σb:Sg} {M:Nat->Prop} {w:World} {σ:Sg} {act:Act} (ae:σb.le σ) (s:Sim N B M w σ ⟨env,own,ks⟩ act)
 (hd:Den M w σ fv (act.eval g0)) {l0:Nat} {r0:Loop} (h0:w.heap[l0]?=some (.loop r0)):(Code.rangeFunc g0 X.toArray ca cb).wpIn (FR (some l0)) 0 P (XP N B σb M w σ own ks K) act w:=by
 unfold Q1S at h;split at h
 case h_2=>exact h.elim
 rename_i gf cap;obtain⟨y,R,rfl,a3,h⟩:=J0A h;generalize ah:act.eval g0=fu at hd;cases hd with
 | fn _ _ _ _ Y ai aj =>
 refine wpIn_rangeFunc ?_;intro fn _;obtain⟨rec,m⟩:∃rec:LoopState->Option Code->Loop,rec=fun st pe=>{ state:=st,pending:=pe,fn,tmps:=act.tmps,params:=X.toArray,assign:=ca,body:=cb,defers:=r0.defers }:=⟨_,rfl⟩;obtain⟨I,z⟩:∃I,w.alloc (.loop (rec .ready none))=I:=⟨_,rfl⟩;have ax:I.heap.size=w.heap.size+1:=by rw[<- z];simp
 have ao:I.heap[w.heap.size]?=some (.loop (rec .ready none)):=by
  rw[<- z];exact World.alloc_heap_new _ _
 obtain⟨M1,ag,a7⟩:=J3l (w':=I) s.heap (some (w.heap.size),0,0) (.loop .ready none env N X (CC2 P N sa sb)) (fun n e=>by simp at e;omega)
  (by rw[<- z];rfl) (by rw[<- z];exact .rf rfl rfl) (by rw[<- z];rfl) (by omega) (fun n L=>by rw[<- z];exact J0G L) (fun H an hE=>by
    refine⟨w.heap.size,0,rec .ready none,Sg.set_same _ _ _,(an _).2 (.inr rfl),ao,by rw[m],by rw[m];rfl,by rw[m],?_,by rw[m];exact s.size,?_⟩
    . rw[m];exact⟨al,ak⟩
    . intro t v U;rw[m];exact(s.env t v U).mono hE (Sg.le_set _ (s.heap.fresh y (by simp))))
 have J:(σ.set y (some (w.heap.size),0,0)) y=some (some (w.heap.size),0,0):=Sg.set_same _ _ _;have a8:Kd σ own (y::R) (σ.set y (some (w.heap.size),0,0)) ((y,.loop .ready none env N X (CC2 P N sa sb))::own) R:=J42 _ _ J3v;have D:=a7;have a5:=D.ext s.heap.own;generalize au:σ.set y (some (w.heap.size),0,0)=σ1 at *;refine⟨w.heap.size,[],I,{ target:=.fn (.func gf) Y.toArray,args:=#[.func (.yield (w.heap.size)) #[] #[]] },I,gf,
  #[.func (.yield (w.heap.size)) #[] #[]]++Y.toArray,I,?_,?_,fun _ _=>trivial,?_,J4V _,J7y _ ?_⟩
 . rw[<- z,m];exact X23 h0 fn act.tmps X.toArray ca cb
 . simp only[resolve,ah,fnB,fnC];simp[go_sem]
 . simp[invoke,go_sem,J1V a3]
 . have e:#[Value.func (.yield (w.heap.size)) #[] #[]]++Y.toArray=(.func (.yield (w.heap.size)) #[] #[]::Y).toArray:=by
    apply Zf;simp
   rw[e];refine(h.out M1 I σ1 (.func (.yield (w.heap.size)) #[] #[]::Y) (by simp[ai]) ?_ ag).mono ?_
   . intro i v u U hu;cases i with
     | zero=>simp at U hu;subst U hu;exact .yld _ _ _ _ _ J
     | succ i=>exact(aj i v u (by simpa using U) (by simpa using hu)).mono a5 D.le
   . rintro e W ⟨H,d,v,own',F,u,rfl,_,p,tr,kd,hK⟩;obtain⟨st,pe,e0,N0,aw,C0,g,hm,aa,ad,a,hK⟩:=J6O hK p.own.nodup;obtain⟨l,κ,r,z1,z2,z3,z4,z5,z6,z7,z8,z9⟩:=p.own.blk y _ hm;have hl:l=w.heap.size:=by
      have:=tr.le y _ J;rw[z1] at this;simp at this;exact this.1
     subst hl;have a2:=run_endLoop (P:=P) z3 (by rw[z4];exact aa);have o:=D.trans tr;have a9:=o.adv.size;have av:=tr.adv.size;have a4:J0u d y=some (w.heap.size):=by simp[J0u,z1]
     let A:=W.putObj (w.heap.size) (.loop { r with state:=.exhausted });have f:∀b,b≠w.heap.size->A.heap[b]?=W.heap[b]?:=fun b O=>World.putObj_heap_other O;have ar:Ext H W H A:=⟨fun b O hM=>⟨hM,f b fun e=>hM (e▸z2)⟩,by simp[A]⟩;have a1:∀k b n,k≠y->(k,b)∈own'->J0n W d k b n->n≠w.heap.size:=fun k b n q1 q2 L e=>by
      subst e;exact p.own.apart k b y _ _ q2 hm q1 L (.inl a4)
     have x:∀k b n,k≠y->(k,b)∈own'->(J0n A d k b n↔J0n W d k b n):=fun k b n q1 q2=>J0U (Sg.le_refl _) (p.own.key q2) fun ob ab=>f ob (a1 k b ob q1 q2 (.inl ab));have af:J0T H A d g F :=
      ⟨⟨fun k b G=>by
         obtain⟨q1,q2⟩:=(a k b).1 G;refine(p.own.blk k b q2).mono ar (Sg.le_refl _) fun n L=>⟨(J0p p.own ⟨k,b,q2,L⟩).1,f n fun e=>?_⟩;subst e;exact p.own.apart k b y _ _ q2 hm q1 L (.inl a4),ad,fun k b Z b' n m1 m2 ac e1 e2=>p.own.apart k b Z b' n ((a k b).1 m1).2 ((a Z b').1 m2).2 ac ((x k b n ((a k b).1 m1).1 ((a k b).1 m1).2).1 e1) ((x Z b' n ((a Z b').1 m2).1 ((a Z b').1 m2).2).1 e2)⟩,p.fresh,p.knodup⟩
     have a0:∀n,J0x A d g n->J0x W d own' n:=fun n ⟨k,b,G,e⟩=>⟨k,b,((a k b).1 G).2,(x k b n ((a k b).1 G).1 ((a k b).1 G).2).1 e⟩;have C:Tr0 M w σ own H A d g:=by
      refine⟨⟨o.adv.os,⟨o.adv.tape.eq,o.adv.tape.le⟩,o.adv.output,by simpa[A] using a9,fun b O L=>?_,o.adv.muts⟩,fun b O=>o.new b (a0 b O)⟩;rw[f b (by omega)];exact o.adv.same b O L
     have aq:Ext M w H A:=C.adv.ext fun b O=>(J0p s.heap.own O).1;have gd:=s.defers.tr0 C;have E:Sim N B H A d ⟨env,g,F⟩ act:=⟨fun t v U=>(s.env t v U).mono aq (Sg.le_trans o.le (Sg.le_refl _)),af,s.size,gd⟩;have S:=a8.trans kd;have T:Kd σ own (y::R) d g F:=⟨S.1,S.2.1,fun k hk=>by
      obtain⟨⟨q,c⟩,x1,x2⟩:=Qi.1 hk;simp only at x2;subst x2;exact S.2.2 q (Qi.2 ⟨_,((a q c).1 x1).2,rfl⟩)⟩
     refine⟨r.pending,A,a2,?_⟩;have a6:({ act with defers:=[]++act.defers }:Act)=act:=rfl;rw[a6];rw[z5];have Q:=Sg.le_trans ae o.le;cases pe with
     | none=>exact⟨H,d,_,E,C,T,Q,hK⟩
     | some j =>
       cases j with
       | none=>exact wpIn_ret ⟨H,d,_,E,C,T,Q,hK⟩
       | some id=>exact wpIn_exit ⟨H,d,_,E,C,T,Q,hK⟩
theorem J2l {P:Program} {N:Nat} {s:Option Nat} {g:X} {q:List Nat} {p o:SC} {env:Env} {own:Own} {ks:List Nat} {K:Out->Prop}
 (h:g.get env (X4m P N s q p o env own ks K)):X1e P N s g q p o env own ks K:=by
 constructor;intro r σb y E H G j f e B M w σ act d c;obtain⟨F,hF,m⟩:=J0f j h;clear h;have hd:=m M w σ act (fun n _ v x=>c.env n v x);unfold X4m at hF;split at hF
 case h_2=>exact hF.elim
 rename_i b;rcases y with ⟨_,rfl⟩ | ⟨k,l,A,rfl,rfl,hk⟩
 . exact Q8u hF f e d c hd
 . simp only[recB] at b;split at b
   case h_2=>cases b
   rename_i z;obtain⟨D,t,C,i,_,u,_⟩:=c.heap.own.blk k _ (J0g z);rw[d k _ hk] at i;simp only[Qf,Qu] at i;obtain⟨rfl,_⟩:=i;exact X19 hF f e d c hd u
def X5d:List Nat->List V->Env->Env
 | p::b,v::a,env=>X5d b a ((p,v)::env)
 | _,_,env=>env
theorem Q4e {M:Nat->Prop} {w:World} {σ:Sg}:∀(c:List Nat) (b:List V) (us:List Value) (env:Env) (tmps:Array Value),J4J M w σ env { tmps:=tmps,defers:=[] }->b.length=us.length->Q9n tmps.size c=true ->
 (∀(i:Nat) (v:V) (u:Value),b[i]?=some v->us[i]?=some u->Den M w σ v u) ->
 J4J M w σ (X5d c b env) { tmps:=(c.zip us).foldl (fun t (p,v)=>t.setIfInBounds p v) tmps,defers:=[] }/\((c.zip us).foldl (fun(t:Array Value) (p,v)=>t.setIfInBounds p v) tmps).size=tmps.size
 | [],b,us,env,tmps,he,_,_,_=>⟨by cases b<;>simpa[X5d] using he,by simp⟩
 | p::c,[],us,env,tmps,he,e,_,_=>by
   cases us with
   | nil=>exact⟨by simpa[X5d] using he,by simp⟩
   | cons=>simp at e
 | p::c,v::b,us,env,tmps,he,e,a,hd=>by
   cases us with
   | nil=>simp at e
   | cons u us =>
     unfold Q9n at a;split at a
     . rename_i hp;have hp:=Qq hp;have f:=he.put (d:=p) (v:=v) (u:=u) hp (hd 0 v u (by simp) (by simp));have:=Q4e c b us ((p,v)::env) (tmps.setIfInBounds p u) (by simpa[Act.put] using f) (by simpa using e) (by simpa using a) (fun i v u g h=>hd (i+1) v u (by simpa using g) (by simpa using h));simpa[X5d] using this
     . cases a
def Q1G (k:Nat) (st:LoopState) (b:Option (Option Nat)) (v:V) (K:V->Own->List Nat->Prop) (own:Own) (ks:List Nat):Prop :=
 match look own k with
 | some (.loop _ _ env N a C)=>Q2S k (.loop st b env N a C) own fun own=>K v own ks
 | _=>False
def X9l (k:Nat) (K:V->Own->List Nat->Prop) (o:Out):Prop :=
 match o with
 | .normal ⟨_,own,ks⟩=>Q1G k .ready none (.bool true) K own ks
 | .ret ⟨_,own,ks⟩=>Q1G k .done (some none) (.bool false) K own ks
 | .exit id ⟨_,own,ks⟩=>Q1G k .done (some (some id)) (.bool false) K own ks
def X44 (k:Nat) (b:CC) (K:Out->Prop) (o:Out):Prop :=
 match o with
 | .normal ⟨env,own,ks⟩=>match look own k with
   | some (.loop .ready c e N a C)=>Q2S k (.loop .busy c e N a C) own fun own=>b env own ks K
   | _=>False
 | _=>False
theorem J9z {M:Nat->Prop} {w:World} {σ:Sg} {own own':Own} {ks:List Nat} (p:J0T M w σ own ks) {k l base i:Nat} {st st':LoopState} {m pe':Option (Option Nat)} {e:Env} {N:Nat} {d:List Nat} {C:Code->Code->Prop}
 (o:(k,.loop st m e N d C)∈own) (hk:σ k=some (some l,base,i)) (g:own'.map (·.1)=own.map (·.1)) (f:∀a c,(a,c)∈own'↔(a=k/\c=.loop st' pe' e N d C)\/(a≠k/\(a,c)∈own)) :
 ∃r,w.heap[l]?=some (.loop r)/\r.state=st/\r.pending=m.map J8i/\J0T M (w.putObj l (.loop { r with state:=st',pending:=pe'.map J8i })) σ own' ks/\Tr M w σ own M (w.putObj l (.loop { r with state:=st',pending:=pe'.map J8i })) σ own':=by
 obtain⟨I,q,r,b,B,j,A,z,y,x,u,s⟩:=p.own.blk k _ o;rw[hk] at b;simp only[Qf,Qu] at b;obtain⟨rfl,rfl,rfl⟩:=b;have h:=lt_of_getElem? j;obtain⟨H,G⟩:=J2o (w':=w.putObj l (.loop { r with state:=st',pending:=pe'.map J8i })) p k l _ (.loop st' pe' e N d C) o (.inl (by simp[J0u,hk])) f g rfl (J0S.rf rfl rfl) rfl (by simp)
  (fun n E=>World.putObj_heap_other E) (fun F=>⟨l,i,_,hk,B,World.putObj_heap_same h,rfl,rfl,y,x,u,fun t v D=>(s t v D).mono F (Sg.le_refl _)⟩)
 exact⟨r,j,A,z,H,G⟩
theorem Q9B {σ:Sg} {own own':Own} {ks:List Nat} (h:own'.map (·.1)=own.map (·.1)):Kd σ own ks σ own' ks:=⟨fun _ h=>h,fun _ h _=>h,fun k hk=>.inl (by rw[h] at hk;exact hk)⟩
theorem J1T {P:Program} (hm:P.follows .mixedOrders=true) {k:Nat} {E:List V} {own:Own} {ks:List Nat} {K:V->Own->List Nat->Prop} {st:LoopState} {B:Option (Option Nat)} {env:Env} {N:Nat} {i:List Nat} {Z Y:SC}
 (y:look own k=some (.loop st B env N i (CC2 P N Z Y))) (n:(Q9n N i&&Nat.beq i.length E.length)=true)
 (h:vcR P N ⟨ks,some k⟩ Z (X5d i E env) own ks (X44 k (vcR P N ⟨ks,some k⟩ Y) (X9l k K))):X5b P k E own ks K:=by
 simp only[Qg] at n;obtain⟨a5,m⟩:=n;have m:=Qc m;rw[Q1i,Q1i] at h;constructor;intro M w σ us l base κ hl hd S hk;obtain⟨l',ae,r,W,z2,z3,z4,z5,z6,z7,z8,z9⟩:=S.own.blk k _ (J0g y);have s:=W;rw[hk] at s;simp only[Qf,Qu] at s;obtain⟨rfl,rfl,rfl⟩:=s;have hy:=run_yield (P:=P) (args:=us.toArray) z3 (by rw[z6];simp;omega);refine⟨r.fn,_,r.assign,r.body,hy,roundIn_of_wpIn trivial ?_⟩;obtain⟨U,e2⟩:=Q4e i E us env r.tmps z9 hl (by rw[z8];exact a5) hd;have aa:(r.params.zip us.toArray).foldl (fun tmps (t,a)=>tmps.setIfInBounds t a) r.tmps=(i.zip us).foldl (fun(t:Array Value) (p,v)=>t.setIfInBounds p v) r.tmps:=by
  rw[z6];simp
 rw[aa];have X:Sim N w.heap.size M w σ ⟨X5d i E env,own,ks⟩ { tmps:=(i.zip us).foldl (fun(t:Array Value) (p,v)=>t.setIfInBounds p v) r.tmps,defers:=[] }:=⟨U,S,by rw[<- z8];exact e2,.nil (Qd _)⟩;refine wpIn_mono (J4L hm (bk:=⟨ks,some k⟩) (σb:=σ) S.fresh (some l) (.inr ⟨k,l,_,rfl,rfl,W⟩) r.assign Z _ _ own ks M w σ _ z7.1 h X (Sg.le_refl _)) ?_;intro e a1 w1 hx;obtain⟨M1,q,⟨o,ab,J⟩,A,t1,q1,l1,L⟩:=hx;cases e<;>try exact L.elim
 case normal =>
 simp only[X44] at L;split at L
 case h_2=>exact L.elim
 rename_i F aj N1 ag C1 f;obtain⟨j,k2,Q,a4⟩:=J1h _ _ _ _ L A.heap.own.nodup ⟨_,J0g f⟩;have a7:q k=some (some l,0,κ):=l1 k _ hk;obtain⟨r1,y1,y2,y3,y4,R⟩:=J9z (st':=.busy) (pe':=F) A.heap (J0g f) a7 Q a4;have a9:=run_beginRound (P:=P) y1 y2;have er:({ r1 with state:=.busy,pending:=F.map J8i }:Loop)={ r1 with state:=.busy }:=by rw[<- y3]
 rw[er] at y4 R;refine⟨_,a9,?_⟩;have s2:Sim N w.heap.size M1 (w1.putObj l (.loop { r1 with state:=.busy })) q ⟨o,j,J⟩ a1:=⟨A.env.mono (R.ext A.heap.own) (Sg.le_refl _),y4,A.size,A.defers.tr R⟩;refine wpIn_mono (J4L hm (bk:=⟨ks,some k⟩) (σb:=σ) S.fresh (some l) (.inr ⟨k,l,_,rfl,rfl,W⟩) r.body Y _ o j J M1 _ q a1 z7.2 k2 s2 l1) ?_;intro e a3 w3 hx;obtain⟨M3,D,⟨ac,H,I⟩,s3,t3,q3,l3,C⟩:=hx;have a6:D k=some (some l,0,κ):=l3 k _ hk;have t13:=(t1.trans R.t0).trans t3;have a0:=(q1.trans (Q9B Q)).trans q3;have z:∀(c:Option Code) (st:LoopState) (B:Option (Option Nat)) (b:Bool),c=B.map J8i->b=c.isNone->st=(if c.isNone then .ready else .done)->Q1G k st B (.bool b) K H I ->
  ∃v w',(Instr.endRound l c).run P w3=.ok v w'/\∃M' g v' own' x u,Ending.returned v=.returned u/\Den M' w' g v' u/\J0T M' w' g own' x/\Tr M w σ own M' w' g own'/\Kd σ own ks g own' x/\K v' own' x:=by
  intro c st B b U e2 e3 T;unfold Q1G at T;split at T
  case h_2=>exact T.elim
  rename_i af ai ad N0 ah C0 d;obtain⟨G,hK,O,a2⟩:=J1h _ _ _ _ T s3.heap.own.nodup ⟨_,J0g d⟩;obtain⟨r3,x1,x2,x3,x4,x5⟩:=J9z (st':=st) (pe':=B) s3.heap (J0g d) a6 O a2;have a8:=run_endRound (P:=P) c x1;refine⟨_,_,a8,M3,D,.bool b,G,I,.bool b,by rw[e2],.bool _ _,?_,?_,a0.trans (Q9B O),hK⟩
  . rw[<- e3,U];exact x4
  . rw[<- e3,U];have:=t13.trans x5.t0;exact⟨this.adv,this.new,l3⟩
 cases e with
 | normal=>exact z none .ready none true rfl rfl rfl C
 | ret=>exact z (some .ret) .done (some none) false rfl rfl rfl C
 | exit id=>exact z (some (.exit id)) .done (some (some id)) false rfl rfl rfl C
 | goto t=>exact C.elim
 | panic ch=>exact C.elim
 | outgrown=>exact C.elim
def J2g:Own->Nat->Blk->Own
 | [],_,_=>[]
 | (k,b)::r,t,x=>match Nat.beq k t with|true=>(k,x)::r|false=>(k,b)::J2g r t x
theorem J0s {P:Program} (j:P.follows .mixedOrders=true) {N:Nat} {bk:BK} {b:SC} {env:Env} {own:Own} {ks:List Nat} {K:Out->Prop} (e chg ks0 c:List Nat) {α:Type} (d:α->Env) (a:Own->α->Own) (I:Nat->α->Prop) (i:Nat) (x0:α)
 (l:I i x0)
 (g:((chg.all fun k=>J1b k bk.ks&&(J1b k (own.map (·.1)) || J1b k ks))&&(ks0.all fun k=>J1b k ks)&&(c.all fun k=>J1b k (own.map (·.1)) || J1b k ks))=true)
 (f:∀x,(a own x).map (·.1)=c)
 (h:J3b N chg ⟨env,own,ks⟩ ⟨d x0++selE env e,a own x0,ks0⟩)
 (step:∀n x,I n x->vcR P N bk b (d x++selE env e) (a own x) ks0 (X2O N chg (fun x=>⟨d x++selE env e,a own x,ks0⟩) I n K)):Q04 P N bk b env own ks K :=
 J1y j e chg ks0 c d (a own) I i x0 l g f h step
def Q1j (a:CC) (K:Out->Prop) (o:Out):Prop :=
 match o with
 | .normal ⟨env,own,ks⟩=>a env own ks K
 | .exit id st=>K (.exit id st)
 | .ret st=>K (.ret st)
def unr (P:Program) (N:Nat) (bk:BK) (b:SC) (fuel:Nat):CC:=@Nat.rec (fun _=>CC) (fun _ _ _ _=>False) (fun _ a env own ks K=>vcR P N bk b env own ks (Q1j a K)) fuel
theorem J1C {P:Program} (W:P.follows .mixedOrders=true) {N:Nat} {bk:BK} {b:SC} {env:Env} {own:Own} {ks:List Nat} {K:Out->Prop} (fuel:Nat) (h:unr P N bk b fuel env own ks K):Q04 P N bk b env own ks K:=by
 constructor;intro r σb U c X B M w σ a O E F Q k cs J z p;have key:∀(fuel:Nat) (env:Env) (d:Own) (f:List Nat) (n:Nat->Prop) (i:World) (g:Sg) (m:Act),unr P N bk b fuel env d f K->Sim N B n i g ⟨env,d,f⟩ m->σb.le g ->
  ∃e D w',XP N B σb n i g d f K e D w'/\ArrivesIn (Machine.fenced P (FR r)) P (lone (Q.atR m (.code c::.inLoop c::k)) cs i) Q k cs e D w':=by
  intro fuel
  induction fuel with
  | zero=>intro env d f n i g m h _ _;exact h.elim
  | succ fuel S =>
    intro env d f n i g m h T L;have R:vcR P N bk b env d f (Q1j (unr P N bk b fuel) K):=h;rw[Q1i] at R;have Y:=J4L W O r U c _ _ env d f n i g m X R T L;obtain⟨e,s,q,V,j⟩:=Y Q (.inLoop c::k) cs J z p;obtain⟨t,o,⟨v,u,y⟩,G,t2,q2,H,C⟩:=V;cases e with
    | normal =>
      obtain⟨Z,D,w',I,A⟩:=S v u y t q o s C G H;exact⟨Z,D,w',XP.tr t2 q2 I,.of_steps (StepsIn.trans j (.one (fenced_calm z p rfl) stepR_inLoop)) A⟩
    | exit id=>exact⟨_,s,q,⟨t,o,_,G,t2,q2,H,C⟩,.pass (x:=.inLoop c) rfl (fun _ _=>.inl (by simp)) j⟩
    | ret=>exact⟨_,s,q,⟨t,o,_,G,t2,q2,H,C⟩,.pass (x:=.inLoop c) rfl (fun _ _=>.inl (by simp)) j⟩
    | goto l=>exact C.elim
    | panic ch=>exact C.elim
    | outgrown=>exact C.elim
 obtain⟨e,D,w',I,j⟩:=key fuel env own ks M w σ a h F E;exact⟨e,D,w',I,.of_steps (.one (fenced_calm z p rfl) stepR_loop) j⟩
theorem X1t {n:Int} (b:0<=n) (a:n<=18446744073709551615):IntKind.u64.wrap n=n:=by
 simp only[IntKind.wrap,IntKind.bits,IntKind.signed,Zk]
 first|(split<;>omega)|(simp;omega)
theorem Ar.u64 {n:Int} {K:Int->Prop} (c:0<=n) (b:n<=18446744073709551615) (a:K n):Ar .u64 n K:=⟨n,(X1t c b).symm,a⟩
theorem J9W (a:Nat):BitVec.ofInt 32 (a:Int)=BitVec.ofNat 32 a:=by
 apply Vp;simp
theorem Q2K {a b:Nat} (d:a<4294967296) (c:b<4294967296):J3C .or .u32 a b=((a ||| b:Nat):Int):=by
 show IntKind.u32.wrap ((BitVec.ofInt 32 (a:Int) ||| BitVec.ofInt 32 (b:Int)).toNat:Int)=_;rw[J9W,J9W,BitVec.toNat_or,X9,X9,Xh d,Xh c];have:a ||| b<2 ^ 32:=Y2 d c;exact J67 (by omega) (by omega)
theorem J0P {a b:Nat} (d:a<4294967296) (c:b<4294967296):J3C .and .u32 a b=((a &&& b:Nat):Int):=by
 show IntKind.u32.wrap ((BitVec.ofInt 32 (a:Int) &&& BitVec.ofInt 32 (b:Int)).toNat:Int)=_;rw[J9W,J9W,Ks,X9,X9,Xh d,Xh c];have:a &&& b<2 ^ 32:=Nat.and_lt_two_pow _ c;exact J67 (by omega) (by omega)
def J0Z (a b:Nat):Nat:=a &&& (4294967295 ^^^ b)
theorem J2t {a b:Nat} (d:a<4294967296) (c:b<4294967296):J3C .andNot .u32 a b=((J0Z a b:Nat):Int):=by
 show IntKind.u32.wrap ((BitVec.ofInt 32 (a:Int) &&& ~~~ (BitVec.ofInt 32 (b:Int))).toNat:Int)=_;have f:4294967295-b=4294967295 ^^^ b:=by
  have h:(~~~ (BitVec.ofNat 32 b)).toNat=2 ^ 32-1-b:=by rw[BitVec.toNat_not,X9,Xh c]
  have g:(~~~ (BitVec.ofNat 32 b)).toNat=4294967295 ^^^ b:=by
   rw[BitVec.not_def,BitVec.toNat_xor,BitVec.toNat_allOnes,X9,Xh c]
  rw[<- g,h]
 rw[J9W,J9W,Ks,BitVec.toNat_not,X9,X9,Xh d,Xh c];have e:(2 ^ 32-1-b:Nat)=4294967295 ^^^ b:=f;rw[e];have:J0Z a b<2 ^ 32:=X5 Jh d;exact J67 (by omega) (by unfold J0Z at this;omega)
theorem J2v {k:Nat} (h:k<32):2 ^ k<4294967296:=Je (by omega) h
theorem Ar.sh1 {k:Nat} {K:Int->Prop} (h:k<32) (a:K ((2 ^ k:Nat):Int)):Ar .u32 (1*2 ^ (min (k:Int).toNat 32)) K:=by
 have e:(1*2 ^ (min (k:Int).toNat 32):Int)=((2 ^ k:Nat):Int):=by
  rw[Int.one_mul,Yr,Kx (by omega)];simp
 rw[e];have:=J2v h;revert this a;generalize 2 ^ k=q;intro a this;exact Ar.u32 (by omega) (by omega) a
def nb (p:Nat->Bool):Nat->Nat
 | 0=>0
 | k+1=>if p k then nb p k ||| 2 ^ k else nb p k
theorem Q89 (p:Nat->Bool):∀k,nb p k<2 ^ k
 | 0=>by show 0<1;omega
 | k+1=>by
   have h:=Q89 p k;have a:2 ^ k<2 ^ (k+1):=Je (by omega) (by omega);rw[nb];split
   . exact Y2 (by omega) a
   . omega
theorem Q1Y (p:Nat->Bool) {k:Nat} (h:k<=32):nb p k<4294967296 :=
 Xu (Q89 p k) (Xs (n:=2) (by omega) h)
theorem J6R (p:Nat->Bool) (i:Nat):∀k,(nb p k).testBit i=(decide (i<k)&&p i)
 | 0=>by simp[nb]
 | k+1=>by
   have a:=J6R p i k;by_cases b:i=k
   . subst b;rw[nb];split
     . rename_i h;simp[Z7,h]
     . rename_i h;rw[a];simp[h]
   . have e:decide (i<k+1)=decide (i<k):=by rw[decide_eq_decide];omega
     rw[nb,e];split
     . rw[Z7,a,Z1];have:decide (k=i)=false:=by rw[Qo];omega
       rw[this,Jc]
     . exact a
theorem X9F {p:Nat->Bool} {k:Nat} (h:p k=true):nb p (k+1)=nb p k ||| 2 ^ k:=by rw[nb,Qe h]
theorem X6T {p:Nat->Bool} {k:Nat} (h:p k=false):nb p (k+1)=nb p k:=by rw[nb,Qb (by simp[h])]
theorem X2s {p:Nat->Bool} {k:Nat} (hk:k<32) (h:p k=true):J3C .or .u32 (nb p k:Nat) ((2 ^ k:Nat):Int)=(nb p (k+1):Nat):=by
 rw[Q2K (Q1Y p (by omega)) (J2v hk),X9F h]
section
open Go.ChangeShapes Go.WideShapes Go.ChangeAt Go.RowKit
variable {H:Type} {enc:TypeId×Value->H} {P:Program} {w:World} {sp:Nat->Bool} {hd:Bool}
theorem Q5p {α:Type} {fuel:Nat} {t e:TypeId} {cs:List Value} {x:DataW H×List MemPlace} (σ:Sg) (d:α) (F:α->V) (Q:α->Prop) (q:P.underlying t=some (.slice e)) (s:P.cellsOf e=1)
 (he:∀n cs y,DataW.trod enc P w 0 sp hd n e cs=some y->∃u a,cs=[u]/\u.oneCell'=true/\Den (fun _=>False) w Sg.none (F a) u/\Q a)
 (h:DataW.trod enc P w 0 sp hd fuel t cs=some x) :
 ∃u l,cs=[u]/\u.oneCell'=true/\Den (fun _=>False) w σ (.fz l.length 1 false (fun i _=>F (List.getD l i d))) u/\l.length<=maxLen/\∀a∈l,Q a:=by
 rcases J2u q h with rfl | ⟨a,len,cap,n,rfl,A,E,v⟩
 . exact⟨_,[],rfl,rfl,.fz0 _ _ _ _ _ _ (by simp),by simp,by simp⟩
 . have key:∀i,i<len->∃z:Value×α,w.cells? 0 (a.add (i*1)) 1=some [z.1]/\z.1.oneCell'=true/\Den (fun _=>False) w Sg.none (F z.2) z.1/\Q z.2:=by
    intro i b;obtain⟨B,y,f,C⟩:=v i b;rw[s] at f;obtain⟨u,m,rfl,p,o,k⟩:=he _ _ _ C;exact⟨(u,m),f,p,o,k⟩
   let g:Nat->Value×α:=fun i=>if h:i<len then Classical.choose (key i h) else (undef,d)
   have hg:∀i (h:i<len),w.cells? 0 (a.add (i*1)) 1=some [(g i).1]/\(g i).1.oneCell'=true/\Den (fun _=>False) w Sg.none (F (g i).2) (g i).1/\Q (g i).2:=fun i h=>by
    simp only[g,h,Yo];exact Xj (key i h)
   refine⟨_,(List.range len).map (fun i=>(g i).2),rfl,rfl,?_,by simp;omega,?_⟩
   . simp only[Ye,Y5];refine J5Y σ (by decide) A fun i b=>⟨_,(hg i b).1,fun j D u c=>?_⟩;obtain rfl:j=0:=by omega
     simp at c;subst c;refine⟨(hg i b).2.1,?_⟩;have:List.getD ((List.range len).map (fun i=>(g i).2)) i d=(g i).2:=by simp[b]
     rw[this];exact(hg i b).2.2.1
   . intro m r;obtain⟨i,b,rfl⟩:=Qi.1 r;exact(hg i (by simpa using b)).2.2.2
end
theorem X2t {s:Nat} {p:Nat->Bool} {n:Nat} (h:∀i,s.testBit i=(decide (i<n)&&p i)):s=nb p n :=
 Q8 fun i=>by rw[h,J6R]
theorem J1s {a b i:Nat} (c:i<32):(J0Z a b).testBit i=(a.testBit i&&!b.testBit i):=by
 rw[J0Z,Xq,Nat.testBit_xor];have:(4294967295:Nat).testBit i=true:=by
  have:=Zy 32 i;simpa[c] using this
 rw[this];cases b.testBit i<;>simp
theorem X9G (n:Nat):nb (fun _=>true) n+1=2 ^ n:=by
 have:nb (fun _=>true) n=2 ^ n-1:=(X2t fun i=>by rw[Zy];simp).symm;rw[this];have:=Yw n;omega
theorem X5C {s k:Nat} (d:s<4294967296):J3C .and .u32 ((s:Int).fdiv (2 ^ k)) 1=if s.testBit k then 1 else 0:=by
 have e:(s:Int).fdiv (2 ^ k)=((s >>> k:Nat):Int):=by
  rw[K5 _ (Int.pow_nonneg (by omega)),Zu];simp
 have c:s >>> k<4294967296:=X5 (Kf s k) d;rw[e];have:=J0P (a:=s >>> k) (b:=1) c (by decide);have e2:(((1:Nat):Int))=1:=rfl;rw[e2] at this;rw[this];have f:s >>> k &&& 1=(s.testBit k).toNat:=by
  rw[Nat.and_one_is_mod,Zu,Yg];rcases Nat.mod_two_eq_zero_or_one (s / 2 ^ k) with h|h<;>simp[h]
 rw[f];cases s.testBit k<;>rfl
theorem Q7U {s k:Nat} (a:s<4294967296) (hk:k<32):(J3C .and .u32 ((s:Int).fdiv (2 ^ (min (k:Int).toNat 32))) 1=1)↔s.testBit k=true:=by
 rw[Yr,Kx (by omega),X5C a];cases s.testBit k<;>simp
def KS2:List Nat:=[0,1,2,3,4,5,6,7,8,9,10,11,12,13,14,15,16,17,18,19,20,21,22,23,24,25,26,27,28,29,30,31,32,33,34,35,36,37,38,39,40,41,42,43,44,45,46,47,48,49,50,51,52,53,54,55,56,57,58,59,60,61,62,63,64,65,66,67,68,69,70,71,72,73,74,75,76,77,78,79,80,81,82,83,84,85,86,87,88,89,90,91,92,93,94,95,96,97,98,99,100,101,102,103,104,105,106,107,108,109,110,111,112,113,114,115,116,117,118,119]
theorem Q2R:KS2.Nodup:=by decide
theorem J2e {P:Program} {f:FuncId} {args a:List V} {X:V} {own:Own} {ks:List Nat} {K:V->Own->List Nat->Prop} (h:Ret P f a X) (r:X.flat=true)
 (j:X3Q own args fun args'=>LLe args' a) (A:K X own ks):J0N P f args own ks K:=by
 obtain⟨args',g,y,x⟩:=J3U j;constructor;intro M w σ us k hd m;obtain⟨d1,d2⟩:=g.dens (M:=J55 M w σ own) (w:=w) (us:=us) (by omega) (fun i o u c t=>by
  have l:i<args.length:=by rw[<- y];exact(Qs.1 c).1
  exact x M w σ m.own i args[i] o u (by simp[l]) c (hd i args[i] u (by simp[l]) t))
 refine((h [] KS).out (J55 M w σ own) w Sg.none us d1 d2 (J3k KS J52)).mono ?_;rintro e w' ⟨B,n,v,own',q,u,rfl,s,z,p,_,rfl,rfl,rfl⟩;have d:=J3O (M'':=fun b=>(b<w.heap.size/\M b)\/(w.heap.size<=b/\B b)) m p
  (fun b j=>by constructor<;>intro h;(rcases h with h|h;exact h.2;omega);exact .inl ⟨j,h⟩)
 exact⟨_,σ,_,own,ks,u,rfl,s.flat r,d.1,d.2,Kd.refl _ _ _,A⟩
def Q7e (P:Program) (G:Blk) (f:FuncId) (args:List V) (X:V):Prop:=∀own ks,look own 999=some G->J0N P f args own ks fun v o k=>v=X/\o=own/\k=ks
theorem Q7e.gog {P:Program} {G:Blk} {f:FuncId} {args:List V} {X:V} {own:Own} {ks:List Nat} {K:V->Own->List Nat->Prop} (h:Q7e P G f args X) (a:K X own ks) (b:look own 999=some G:=by rfl):J0N P f args own ks K :=
 (h own ks b).mono (by rintro _ _ _ ⟨rfl,rfl,rfl⟩;exact a)
def σG:Sg:=fun k=>match Nat.beq k 999 with|true=>some (none,0,0)|false=>none
theorem σG_owned {w:World} {g n:Nat} {f:Nat->Nat->V} {b:Nat}:¬ J0x w σG [(999,.glob g n f)] b:=by
 rintro⟨k,c,a,d⟩;simp only[Q0,Qu] at a;obtain⟨rfl,rfl⟩:=a;simp[J0n,J6d,J0u,σG] at d
theorem Q2i {M:Nat->Prop} {w:World} {g n:Nat} {f:Nat->Nat->V} (ks:List Nat) (hk:ks.Nodup) (h:J1b 999 ks=false) (hd:Den M w Sg.none (.fe n 1 f 0 0) (.pointer (some ⟨g,0,none⟩))):J0T M w σG [(999,.glob g n f)] ks:=by
 refine⟨⟨fun k b d=>?_,by simp,fun k b l m n j i a=>?_⟩,fun k c=>?_,hk⟩
 . simp only[Q0,Qu] at d;obtain⟨rfl,rfl⟩:=d;exact⟨⟨0,0,rfl⟩,hd⟩
 . simp only[Q0,Qu] at j i;exact(a (j.1.trans i.1.symm)).elim
 . have a:k≠999:=fun e=>by subst e;rw[J0k.2 c] at h;cases h
   simp only[σG];have:Nat.beq k 999=false:=by
    cases e:Nat.beq k 999 with
    | false=>rfl
    | true=>exact(a (Qc e)).elim
   rw[this]
theorem X5p {M e:Nat->Prop} {w w':World} {c:Sg} {g n:Nat} {f:Nat->Nat->V} {own':Own} (a:Tr M w σG [(999,.glob g n f)] e w' c own'):Tr M w Sg.none [] e w' c own' :=
 ⟨⟨a.adv.os,a.adv.tape,a.adv.output,a.adv.size,fun b d _=>a.adv.same b d σG_owned,fun b d _=>a.adv.muts b d σG_owned⟩,fun b d=>.inr ((a.new b d).resolve_left σG_owned),Sg.none_le _⟩
theorem Q1N {P:Program} {f:FuncId} {args:List V} {X:V} {g n:Nat} {F:Nat->Nat->V} (ks0:List Nat) (B:ks0.Nodup) (H:J1b 999 ks0=false) (hk:J3a V.kf args=true) (h:J0N P f args [(999,.glob g n F)] ks0 fun v own' _=>Q5e own' v fun s=>VLe s X):Q7e P (.glob g n F) f args X:=by
 intro own ks C;constructor;intro M w σ us j hd t;have G:=(t.own.blk 999 _ (J0g C)).2;refine(h.out M w σG us j (fun i v u l z=>(hd i v u l z).kf (J0v hk v (Qw l)) σG) (Q2i ks0 B H G)).mono ?_;rintro e w' ⟨r,a,v,own',y,u,rfl,l,q,m,_,c⟩;have k:=X5p m;obtain⟨s,E,o⟩:=J4R c;have D:∀b,b<w.heap.size->(J55 r w' a own' b↔M b):=by
  intro b x;have p:¬ J0x w' a own' b:=fun A=>by
   rcases k.new b A with d|d
   . exact J0R d
   . omega
  constructor
  . intro d;exact(k.adv.muts b x J0R).1 d.1
  . intro d;exact⟨(k.adv.muts b x J0R).2 d,p⟩
 have c:=J3O (M'':=J55 r w' a own') t k D;exact⟨_,σ,X,own,ks,u,rfl,(E.out _ _ _ (o r w' a u q.own l)).mono (Ext.mk (fun _ _ h=>⟨h,rfl⟩) (Qd _)) (Sg.none_le σ),c.1,c.2,Kd.refl _ _ _,rfl,rfl,rfl⟩
theorem J1e {P:Program} {f:FuncId} {args:List V} {X:V} {g n:Nat} {F:Nat->Nat->V} (hk:J3a V.kf args=true) (h:J0N P f args [(999,.glob g n F)] KS fun v own' _=>Q5e own' v fun a=>VLe a X):Q7e P (.glob g n F) f args X :=
 Q1N KS J52 rfl hk h
theorem Q1O {P:Program} {f:FuncId} {args:List V} {X:V} {g n:Nat} {F:Nat->Nat->V} (hk:J3a V.kf args=true) (h:J0N P f args [(999,.glob g n F)] KS2 fun v own' _=>Q5e own' v fun a=>VLe a X):Q7e P (.glob g n F) f args X :=
 Q1N KS2 Q2R rfl hk h
theorem X0O {P:Program} {f:FuncId} {args g:List V} {X:V} {G:Blk} {own:Own} {ks:List Nat} {K:V->Own->List Nat->Prop} (a:List Nat) (h:Q7e P G f g X) (L:look (J2J a own) 999=some G)
 (l:X3Q (J2n a own) args fun args'=>LLe args' g) (O:K X (J2J a own) ks):J0N P f args own ks K:=by
 obtain⟨args',s,t,I⟩:=J3U l;constructor;intro M w σ us B hd D;obtain⟨F,N⟩:=J6x D a;have J:=J7n D a;obtain⟨d1,d2⟩:=s.dens (M:=J55 M w σ (J2n a own)) (w:=w) (us:=us) (by omega) (fun i E u m r=>by
  have C:i<args.length:=by rw[<- t];exact(Qs.1 m).1
  exact I M w σ J i args[i] E u (by simp[C]) m (hd i args[i] u (by simp[C]) r))
 refine((h (J2J a own) ks L).out (J55 M w σ (J2n a own)) w σ us d1 (fun i v u p r=>(d2 i v u p r).mono (Ext.mk (fun _ _ h=>⟨h,rfl⟩) (Qd _)) (Sg.none_le σ)) F).mono ?_;rintro e w' ⟨Q,o,v,own',H,u,rfl,p,y,j,kd,rfl,rfl,rfl⟩;have d:∀b,J0x w σ (J2J a own) b->J0x w σ own b:=fun b ⟨k,c,A,z⟩=>⟨k,c,(J0H.1 A).1,z⟩;refine⟨Q,o,_,_,_,u,rfl,p,y,⟨⟨j.adv.os,j.adv.tape,j.adv.output,j.adv.size,fun b l n=>j.adv.same b l fun x=>n (d b x),fun b l n=>(j.adv.muts b l fun x=>n (d b x)).trans (N b n)⟩,?_,j.le⟩,⟨kd.1,kd.2.1,fun k hk=>?_⟩,O⟩
 . intro b l;rcases j.new b l with x|x
   . exact .inl (d b x)
   . exact .inr x
 . rcases kd.2.2 k hk with x|x
   . obtain⟨⟨q,c⟩,A,z⟩:=Qi.1 x;exact .inl (Qi.2 ⟨_,(J0H.1 A).1,z⟩)
   . exact .inr x
open Go.ChangeShapes Go.WideShapes Go.ChangeAt Go.RowKit in
theorem Q6j {P:Program} {f:FuncId} {c:List V} {W:World} {args:Array Value} {g n:Nat} {F:Nat->Nat->V} (h:Q7e P (.glob g n F) f c (.bool true)) (o:c.length=args.size)
 (r:Den (fun _=>False) W Sg.none (.fe n 1 F 0 0) (.pointer (some ⟨g,0,none⟩)))
 (hd:∀(i:Nat) (v:V) (u:Value),c[i]?=some v->args[i]?=some u->Den (fun _=>False) W Sg.none v u) :
 Calls P f args W fun e j=>e=.returned (.bool true)/\Below W.heap.size W j:=by
 have:=(h [(999,.glob g n F)] KS rfl).out (fun _=>False) W σG args.toList (by simpa using o) (fun i v u d m=>(hd i v u d (by simpa using m)).mono (Ext.mk (fun _ _ h=>⟨h,rfl⟩) (Qd _)) (Sg.none_le σG)) (Q2i KS J52 rfl r);rw[Array.toArray_toList] at this;refine this.mono ?_;rintro e j ⟨s,k,v,own',l,u,rfl,d,p,a,_,rfl,rfl,rfl⟩;cases d;exact⟨rfl,a.adv.os,a.adv.tape.eq,a.adv.output,a.adv.size,fun b q=>a.adv.same b q σG_owned⟩
def Q5q (s:Nat):Nat->Nat->Nat
 | 0,i=>i
 | n+1,i=>if s.testBit i then i else Q5q s n (i+1)
def ctz (s:Nat):Nat:=Q5q s 32 0
theorem J8C (s:Nat):∀n i,(Q5q s n i=i+n/\∀j,i<=j->j<i+n->s.testBit j=false)\/(Q5q s n i<i+n/\i<=Q5q s n i/\s.testBit (Q5q s n i)=true/\∀j,i<=j->j<Q5q s n i->s.testBit j=false)
 | 0,i=>.inl ⟨rfl,fun j d c=>by omega⟩
 | n+1,i=>by
   by_cases h:s.testBit i=true
   . right;have e:Q5q s (n+1) i=i:=by rw[Q5q,Qe h]
     rw[e];exact⟨by omega,Qd _,h,fun j d c=>by omega⟩
   . have e:Q5q s (n+1) i=Q5q s n (i+1):=by rw[Q5q,Qb h]
     rw[e];have f:s.testBit i=false:=by simpa using h
     rcases J8C s n (i+1) with ⟨d,c⟩ | ⟨d,c,k,g⟩
     . exact .inl ⟨by omega,fun j a b=>by
        by_cases e:j=i
        . subst e;exact f
        . exact c j (by omega) (by omega)⟩
     . exact .inr ⟨by omega,by omega,k,fun j a b=>by
        by_cases e:j=i
        . subst e;exact f
        . exact g j (by omega) b⟩
theorem J09 {s j:Nat} (a:s<4294967296) (b:32<=j):s.testBit j=false :=
 Zz (Xu a (Xs (n:=2) (by omega) b))
theorem J2b {s:Nat} (g:s≠0) (c:s<4294967296):ctz s<32/\s.testBit (ctz s)=true/\∀j,j<ctz s->s.testBit j=false:=by
 rcases J8C s 32 0 with ⟨b,a⟩ | ⟨b,a,f,e⟩
 . exfalso;apply g;apply Q8;intro i;rw[Xm];by_cases h:i<32
   . exact a i (by omega) (by omega)
   . exact J09 c (by omega)
 . exact⟨by simpa[ctz] using b,f,fun j d=>e j (by omega) d⟩
theorem Q6M {s k:Nat} (hk:k<32) (d:s.testBit k=true) (e:∀j,j<k->s.testBit j=false):ctz s=k:=by
 rcases J8C s 32 0 with ⟨a,b⟩ | ⟨a,_,b,c⟩
 . rw[b k (by omega) (by omega)] at d;cases d
 . show Q5q s 32 0=k;rcases Y3 (Q5q s 32 0) k with h|h|h
   . rw[e _ h] at b;cases b
   . exact h
   . rw[c k (by omega) h] at d;cases d
section
variable {s k:Nat} (hk:s.testBit k=true) (hz:∀j,j<k->s.testBit j=false)
include hk hz
theorem X61:s % 2 ^ (k+1)=2 ^ k:=by
 apply Q8;intro i;rw[Vd,Z1];by_cases h:i=k
 . subst h;simp[hk]
 . by_cases a:i<k
   . rw[hz i a];simp;omega
   . have:¬ i<k+1:=by omega
     simp[this];omega
theorem J7k (j:Nat):(s-1).testBit j=if j<k+1 then decide (j<k) else s.testBit j:=by
 have e:=X61 hk hz;have d:=Yc s (2 ^ (k+1));have b:s-1=2 ^ (k+1)*(s / 2 ^ (k+1))+(2 ^ k-1):=by
  have:=Yw k;omega
 have a:2 ^ k-1<2 ^ (k+1):=by
  have:=Yw k;have c:2 ^ (k+1)=2*2 ^ k:=by rw[Yu];omega
  omega
 rw[b,Nat.testBit_two_pow_mul_add _ a];by_cases h:j<k+1
 . rw[Qe h,Qe h,Zy]
 . rw[Qb h,Qb h,Yh];congr 1;omega
theorem Q4W (j:Nat):(s &&& (s-1)).testBit j=(s.testBit j&&decide (j≠k)):=by
 rw[Xq,J7k hk hz];by_cases h:j<k+1
 . rw[Qe h];by_cases e:j=k
   . subst e;simp
   . rw[hz j (by omega)];simp
 . rw[Qb h];have:j≠k:=by omega
   simp[this]
theorem X60 (c:s<4294967296) (a:k<32):s &&& (4294967296-s)=2 ^ k:=by
 apply Q8;intro i;have b:0<s:=by
  rcases Q4 s with h|h
  . subst h;simp at hk
  . exact h
 have e:(4294967296:Nat)-s=2 ^ 32-((s-1)+1):=by omega
 rw[Xq,e,Jg (by omega),J7k hk hz,Z1];by_cases h:i<k+1
 . rw[Qe h];by_cases e:i=k
   . subst e;simp[hk,a]
   . rw[hz i (by omega)];simp;omega
 . rw[Qb h];have:¬ k=i:=by omega
   cases s.testBit i<;>simp[this]
end
def upS (s b:Nat):Nat:=nb (fun i=>s.testBit i&&decide (b<=i)) 32
theorem J48 {s b:Nat} (a:s<4294967296) (i:Nat):(upS s b).testBit i=(s.testBit i&&decide (b<=i)):=by
 rw[upS,J6R];by_cases h:i<32
 . simp[h]
 . rw[J09 a (by omega)];simp
theorem J9f (s b:Nat):upS s b<4294967296:=Q1Y _ (Qd _)
theorem J5v {s:Nat} (a:s<4294967296):upS s 0=s:=Q8 fun i=>by rw[J48 a];simp
theorem J5w {s b:Nat} (d:s<4294967296) (h:upS s b≠0):ctz (upS s b)<32/\b<=ctz (upS s b)/\s.testBit (ctz (upS s b))=true/\(∀j,b<=j->j<ctz (upS s b)->s.testBit j=false)/\upS s b &&& (upS s b-1)=upS s (ctz (upS s b)+1):=by
 obtain⟨n,l,k⟩:=J2b h (J9f s b);have g:=l;rw[J48 d,Qg,Qa] at g;refine⟨n,g.2,g.1,fun j a o=>?_,?_⟩
 . have:=k j o;rw[J48 d] at this;simpa[a] using this
 . apply Q8;intro i;rw[Q4W l k,J48 d,J48 d];by_cases e:i=ctz (upS s b)
   . have hd:decide (ctz (upS s b)+1<=i)=false:=by rw[Qo];omega
     have c:decide (i≠ctz (upS s b))=false:=by rw[Qo];exact fun h=>h e
     rw[hd,c,Yb,Yb]
   . have c:decide (i≠ctz (upS s b))=true:=by rw[Qa];exact e
     rw[c,Z6];by_cases m:i<ctz (upS s b)
     . have hd:decide (ctz (upS s b)+1<=i)=false:=by rw[Qo];omega
       have:=k i m;rw[J48 d] at this;rw[this,hd,Yb]
     . have hd:decide (ctz (upS s b)+1<=i)=true:=by rw[Qa];omega
       have f:decide (b<=i)=true:=by rw[Qa];omega
       rw[hd,f]
theorem J7F {s b:Nat} (a:s<4294967296) (h:upS s b=0) (j:Nat) (c:b<=j):s.testBit j=false:=by
 have:=J48 (b:=b) a j;rw[h,Xm] at this;simpa[c] using this.symm
def cnt (s:Nat):Nat->Nat
 | 0=>0
 | n+1=>if s.testBit n then cnt s n+1 else cnt s n
theorem J4g (s:Nat):∀n,cnt s n<=n
 | 0=>Qd _
 | n+1=>by have:=J4g s n;rw[cnt];split<;>omega
theorem X0w {s t:Nat}:∀{n:Nat},(∀i,i<n->s.testBit i=t.testBit i)->cnt s n=cnt t n
 | 0,_=>rfl
 | n+1,h=>by rw[cnt,cnt,X0w (fun i a=>h i (by omega)),h n (by omega)]
theorem J7w {s:Nat}:∀{n:Nat},(∀i,i<n->s.testBit i=false)->cnt s n=0
 | 0,_=>rfl
 | n+1,h=>by rw[cnt,J7w (fun i a=>h i (by omega)),h n (by omega)];rfl
theorem J6A {s:Nat} (a:Nat):∀b,cnt s (a+b)=cnt s a+cnt (s >>> a) b
 | 0=>rfl
 | b+1=>by
   rw[<- Xk,cnt,cnt,J6A a b,Nat.testBit_shiftRight];split<;>omega
theorem Q3Y {s k:Nat} (hk:s.testBit k=true):∀{n:Nat},k<n->1<=cnt s n
 | 0,h=>by omega
 | n+1,h=>by
   rw[cnt];by_cases e:n=k
   . subst e;rw[Qe hk];omega
   . have:=Q3Y hk (n:=n) (by omega);split<;>omega
theorem X5a {x y:Nat} (d:x<4294967296) (c:y<4294967296) (h:x &&& y=0):x+y=x ||| y:=by
 have b:BitVec.ofNat 33 x &&& BitVec.ofNat 33 y=0#33:=by
  apply Vp;rw[Ks,X9,X9,Xh (by omega),Xh (by omega),h];simp
 have:=X6 BitVec.toNat (BitVec.add_eq_or_of_and_eq_zero _ _ b);rw[BitVec.toNat_add,BitVec.toNat_or,X9,X9,Xh (a:=x) (by omega),Xh (a:=y) (by omega),Xh (by omega)] at this;exact this
theorem Q9m {s t k:Nat} (b:s.testBit k=false) (a:t.testBit k=true) (c:∀j,k<j->s.testBit j=t.testBit j):s<t:=by
 have hd:s / 2 ^ (k+1)=t / 2 ^ (k+1):=by
  apply Q8;intro i;rw[Yh,Yh];exact c _ (by omega)
 have d:=Yc s (2 ^ (k+1));have e2:=Yc t (2 ^ (k+1));have f:s % 2 ^ (k+1)<2 ^ k:=by
  rw[Nat.mod_pow_succ];have:s / 2 ^ k % 2=0:=by
   rw[Yg] at b;have:=Jj b;omega
  rw[this];have:=Z5 s (Yw k);omega
 have e:2 ^ k<=t % 2 ^ (k+1):=by
  rw[Nat.mod_pow_succ];have:t / 2 ^ k % 2=1:=by
   rw[Yg] at a;exact Xe a
  rw[this];omega
 rw[hd] at d;omega
def J2D (s E:Nat):Prop:=∀i,s.testBit i=true->E.testBit i=true
theorem J2D.le {s E:Nat} (h:J2D s E):s<=E:=by
 apply Nat.ge_of_not_lt;intro a;have:s &&& E=s:=Q8 fun i=>by
  rw[Xq];cases e:s.testBit i with
  | false=>rfl
  | true=>rw[h i e];rfl
 have:=Yv (n:=s) (m:=E);omega
theorem Q0t (s E:Nat):J2D (s &&& E) E:=fun i h=>by rw[Xq,Qg] at h;exact h.2
theorem J05 {s E:Nat} (f:s<4294967296):J0Z s E=0↔J2D s E:=by
 constructor
 . intro h i d;have c:i<32:=by
    rcases Zs i 32 with h|h
    . exact h
    . rw[J09 f h] at d;cases d
   have:=J1s (a:=s) (b:=E) c;rw[h,Xm,d] at this;simpa using this.symm
 . intro h;apply Q8;intro i;rw[Xm];by_cases d:i<32
   . rw[J1s d];cases e:s.testBit i with
     | false=>rfl
     | true=>rw[h i e];rfl
   . rw[J0Z,Xq,J09 f (by omega)];rfl
def nxt (E s:Nat):Nat:=((4294967296+s-E) % 4294967296) &&& E
theorem Q4K {E s:Nat} (a:E<4294967296):nxt E s<4294967296:=X5 Yv a
theorem J14 (E s:Nat):J2D (nxt E s) E:=Q0t _ _
theorem J34 {E:Nat} (a:E<4294967296):nxt E E=0:=by
 rw[nxt,show(4294967296+E-E) % 4294967296=0 by omega,Nat.zero_and]
theorem J6Q {E s:Nat} (n:E<4294967296) (hp:J2D s E) (u:s≠E):s<nxt E s:=by
 have t:=hp.le;have l:s<4294967296:=by omega
 have g:s &&& J0Z E s=0:=by
  apply Q8;intro i;rw[Xm,Xq];by_cases f:i<32
  . rw[J1s f];cases s.testBit i<;>simp
  . rw[J09 l (by omega)];rfl
 have a:J0Z E s<4294967296:=X5 Jh n;have q:s+J0Z E s=E:=by
  rw[X5a l a g];apply Q8;intro i;rw[Z7];by_cases f:i<32
  . rw[J1s f];cases e:s.testBit i with
    | false=>simp
    | true=>rw[hp i e];rfl
  . rw[J09 l (by omega),J09 a (by omega),J09 n (by omega)];rfl
 have m:J0Z E s≠0:=by omega
 obtain⟨p,o,r⟩:=J2b m a;have d:(4294967296+s-E) % 4294967296=4294967296-J0Z E s:=by omega
 have b:∀i,i<32->(nxt E s).testBit i=((!(if i<ctz (J0Z E s)+1 then decide (i<ctz (J0Z E s)) else (J0Z E s).testBit i))&&E.testBit i):=by
  intro i f;have e:(4294967296:Nat)-J0Z E s=2 ^ 32-((J0Z E s-1)+1):=by omega
  rw[nxt,d,Xq,e,Jg (by omega),J7k o r];simp[f]
 have c:=o;rw[J1s p,Qg] at c;refine Q9m (k:=ctz (J0Z E s)) (by simpa using c.2) ?_ ?_
 . rw[b _ p,Qe (by omega),c.1];simp
 . intro j v;by_cases h:j<32
   . rw[b _ h,Qb (by omega),J1s h];cases e:s.testBit j with
     | true=>rw[hp j e];rfl
     | false=>cases E.testBit j<;>rfl
   . rw[J09 l (by omega),J09 (Q4K n) (by omega)]
def Q0g (E:Nat):Nat->Nat->List Nat
 | 0,_=>[]
 | f+1,s=>if s=0 then[] else s::Q0g E f (nxt E s)
theorem J5z (E:Nat):∀f,Q0g E f 0=[]
 | 0=>rfl
 | f+1=>by rw[Q0g,Qe rfl]
theorem J6K {E:Nat} (c:E<4294967296):∀f a s,J2D s E->E+1-s<=f->E+1-s<=a->Q0g E f s=Q0g E a s
 | 0,a,s,hp,h,_=>by have:=hp.le;omega
 | f+1,0,s,hp,_,h=>by have:=hp.le;omega
 | f+1,a+1,s,hp,g,d=>by
   rw[Q0g,Q0g];by_cases b:s=0
   . rw[Qe b,Qe b]
   . rw[Qb b,Qb b];congr 1;by_cases e:s=E
     . subst e;rw[J34 c,J5z,J5z]
     . have:=J6Q c hp e;have:=hp.le;exact J6K c f a _ (J14 E s) (by omega) (by omega)
def J8Y (E s:Nat):List Nat:=Q0g E (E+1-s) s
theorem J1O (E:Nat):J8Y E 0=[]:=J5z _ _
theorem J3F {E s:Nat} (a:E<4294967296) (hp:J2D s E) (c:s≠0):J8Y E s=s::J8Y E (nxt E s):=by
 have b:=hp.le;rw[J8Y,show E+1-s=(E-s)+1 by omega,Q0g,Qb c];congr 1;by_cases e:s=E
 . subst e;rw[J34 a,J5z,J1O]
 . have:=J6Q a hp e;exact J6K a _ _ _ (J14 E s) (by omega) (by omega)
theorem J4p {E:Nat} (b:E<4294967296):∀f s,J2D s E->E-s<=f->∀t∈J8Y E s,J2D t E/\t≠0/\s<=t
 | f,s,hp,g,t,a=>by
   by_cases c:s=0
   . subst c;rw[J1O] at a;cases a
   . rw[J3F b hp c] at a;rcases Qj.1 a with e|e
     . subst e;exact⟨hp,c,Qd _⟩
     . by_cases d:s=E
       . subst d;rw[J34 b,J1O] at e;cases e
       . have i:=J6Q b hp d;have h:=hp.le;cases f with
         | zero=>omega
         | succ f =>
           have:=J4p b f _ (J14 E s) (by omega) t e;exact⟨this.1,this.2.1,by omega⟩
def J28 (s:Nat):Nat:=if s=0 then 0 else 2 ^ ctz s
theorem Q9o (s:Nat) (a:s<4294967296):J28 s<4294967296:=by
 rw[J28];split
 . omega
 . exact J2v (J2b (by assumption) a).1
theorem J5L {s:Nat} (a:s<4294967296):s &&& ((4294967296-s) % 4294967296)=J28 s:=by
 rw[J28];by_cases h:s=0
 . subst h;rfl
 . rw[Qb h,Xh (by omega)];obtain⟨d,c,b⟩:=J2b h a;exact X60 c b a d
theorem J1B {s:Nat} (a:s<4294967296):J2D (J28 s) s:=by rw[<- J5L a,Nat.and_comm];exact Q0t _ _
theorem Q3C {s:Nat} (h:s≠0):J28 s≠0:=by rw[J28,Qb h];exact Nat.ne_of_gt (Yw _)
theorem Ar.neg32 {a:Nat} {K:Int->Prop} (c:a<4294967296) (b:K (((4294967296-a) % 4294967296:Nat):Int)):Ar .u32 (0-(a:Int)) K:=by
 refine⟨_,?_,b⟩;simp only[IntKind.wrap,IntKind.bits,IntKind.signed,Zk]
 first|(split<;>omega)|(simp;omega)
theorem Ar.sub32 {a b:Nat} {K:Int->Prop} (e:a<4294967296) (d:b<4294967296) (c:K (((4294967296+a-b) % 4294967296:Nat):Int)):Ar .u32 ((a:Int)-(b:Int)) K:=by
 refine⟨_,?_,c⟩;simp only[IntKind.wrap,IntKind.bits,IntKind.signed,Zk]
 first|(split<;>omega)|(simp;omega)
theorem Opn.hd {i a q:Nat} {r:List (Nat×Nat)} {len:Nat->Nat} {K:Nat->Nat->Prop} (h:a=i) (b:K q (len a)):Opn ((a,q)::r) len i K:=⟨q,len a,J0j h,by rw[h],b⟩
theorem Opn.hdl {i a q l:Nat} {r:List (Nat×Nat)} {len:Nat->Nat} {K:Nat->Nat->Prop} (h:a=i) (b:len a=l) (c:K q l):Opn ((a,q)::r) len i K:=⟨q,l,J0j h,by rw[<- h,b],c⟩
theorem J45.hd {i a q q0:Nat} {r:List (Nat×Nat)} {K:Nat->List (Nat×Nat)->Prop} (h:a=i) (c:K a ((a,q)::r)):J45 ((a,q0)::r) i q K :=
 ⟨a,_,h,by rw[J0j h];simp,J0j h,fun j b=>by rw[J0o (fun e=>b (by omega)),J0o (fun e=>b (by omega))],c⟩
theorem J4m (k:Nat) (b:Blk):∀own:Own,(J2g own k b).map (·.1)=own.map (·.1)
 | []=>rfl
 | (q,c)::r=>by
   unfold J2g;split
   . rfl
   . simp[J4m k b r]
theorem J98 {k:Nat} {b:Blk}:∀{own:Own},(own.map (·.1)).Nodup->(∃c,(k,c)∈own)->∀q c,(q,c)∈J2g own k b↔(q=k/\c=b)\/(q≠k/\(q,c)∈own)
 | [],_,⟨c,h⟩,_,_=>by simp at h
 | (q0,p)::r,g,⟨o,n⟩,q,c=>by
   simp only[Qv,Q2] at g;have d:∀c,(q0,c)∉r:=fun c f=>g.1 (Qi.2 ⟨_,f,rfl⟩);unfold J2g;split
   . rename_i i;have e:=Qc i;subst e;simp only[Qj,Qu];constructor
     . rintro (⟨rfl,rfl⟩|f)
       . exact .inl ⟨rfl,rfl⟩
       . exact .inr ⟨fun e=>d c (e▸f),.inr f⟩
     . rintro (⟨rfl,rfl⟩ | ⟨a,⟨rfl,_⟩|f⟩)
       . exact .inl ⟨rfl,rfl⟩
       . exact(a rfl).elim
       . exact .inr f
   . rename_i i;have a:q0≠k:=fun e=>by subst e;simp at i
     have j:∃c,(k,c)∈r:=by
      rcases Qj.1 n with e|e
      . cases e;exact(a rfl).elim
      . exact⟨_,e⟩
     simp only[Qj,Qu,J98 g.2 j q c];constructor
     . rintro (⟨rfl,rfl⟩ | ⟨rfl,rfl⟩ | ⟨m,l⟩)
       . exact .inr ⟨a,.inl ⟨rfl,rfl⟩⟩
       . exact .inl ⟨rfl,rfl⟩
       . exact .inr ⟨m,.inr l⟩
     . rintro (⟨rfl,rfl⟩ | ⟨m,⟨rfl,rfl⟩|l⟩)
       . exact .inr (.inl ⟨rfl,rfl⟩)
       . exact .inl ⟨rfl,rfl⟩
       . exact .inr (.inr ⟨m,l⟩)
def Y1i (q:Nat) (ks:List Nat):List Nat:=ks.filter fun x=>!Nat.beq x q
theorem J7v {q x:Nat} {ks:List Nat}:x∈Y1i q ks↔x∈ks/\x≠q:=by
 have:Nat.beq x q=true↔x=q:=⟨Qc,fun e=>by subst e;simp⟩;simp only[Y1i,Zx,Zp,<- Xb,this]
theorem Q2g {M:Nat->Prop} {w:World} {σ:Sg} {own:Own} {ks:List Nat} (h:J0T M w σ own ks) {q k n s i:Nat} {len:Nat->Nat} {f:Nat->Nat->Nat->V} {op:List (Nat×Nat)} (hq:q∈ks)
 (hk:look own k=some (.fam n s len f op)) (hi:i<n) (ho:look op i=none) :
 ∃x,J0T M w (σ.set q x) ((q,.vec (len i) s (f i))::J2g own k (.fam n s len f ((i,q)::op))) (Y1i q ks)/\(∀m,J0x w (σ.set q x) ((q,.vec (len i) s (f i))::J2g own k (.fam n s len f ((i,q)::op))) m->J0x w σ own m):=by
 have l:=J0g hk;have E:=h.fresh q hq;obtain⟨bo,base,R,Q,s2,X⟩:=h.own.blk k _ l;have ab:0<R:=by omega
 rcases X with ⟨X,_⟩ | ⟨b,ty,us,X,s4,W,s6,s7,s8,s9⟩
 . omega
 subst X;obtain⟨u,u1,a,c,u2,S,_,u5⟩:=s7 i hi;subst u2;have af:q≠k:=fun e=>by rw[e] at E;rw[E] at Q;cases Q
 have D:=J98 (b:=.fam n s len f ((i,q)::op)) h.own.nodup ⟨_,l⟩;have a6:∀d g,(d,g)∈own->d≠q:=fun d g j e=>by
  obtain⟨y,hy⟩:=h.own.key j;rw[e,E] at hy;cases hy
 have row:∃x:Option Nat×Nat×Nat,(∀M' w' (o:Sg),o q=some x->Den M' w' o (.vec q s 0 (len i)) (.slice a (len i) c))/\(∀o:Sg,o q=some x->J1t M w o q (.vec (len i) s (f i)))/\(∀m,x.1=some m->J3A us base i m):=by
  rcases Q4 c with hc|hc
  . subst hc;refine⟨(none,0,0),fun M' w' o N=>?_,fun o N=>⟨none,0,0,N,S,.inl ⟨rfl,rfl⟩⟩,fun m e=>by cases e⟩;exact .vec _ q s 0 (len i) none 0 0 0 a N rfl S (fun e=>absurd e (by omega))
  . obtain⟨r,off,a5,a0,p1,p2,p3,p4,p5⟩:=u5 ho hc;subst p1;refine⟨(some r,off,c),fun M' w' o N=>?_,fun o N=>⟨some r,off,c,N,S,.inr ⟨r,a5,a0,rfl,p2,p3,p4,p5⟩⟩,fun m e=>?_⟩
    . exact .vec _ q s 0 (len i) (some r) off c c _ N rfl S (fun _=>⟨r,rfl,by simp⟩)
    . cases e;exact⟨off,_,c,u1,hc⟩
 obtain⟨x,x1,x2,x3⟩:=row;have F:σ.le (σ.set q x):=Sg.le_set x E;have hx:=Sg.set_same σ q x;have P:∀m,J0n w (σ.set q x) q (.vec (len i) s (f i)) m->J3A us base i m:=fun m e=>by
  rw[J3m rfl] at e;simp only[J0u,hx] at e;exact x3 m e
 have p:∀d g m,(d,g)∈own->(J0n w (σ.set q x) d g m↔J0n w σ d g m):=fun d g m j=>J0U F (h.own.key j) fun _ _=>rfl;have L:(σ.set q x) k=some (some b,base,R):=F _ _ Q
 -- what the family J0n now
 have K:∀m,J0n w (σ.set q x) k (.fam n s len f ((i,q)::op)) m->m=b\/∃z,z<n/\z≠i/\look op z=none/\J3A us base z m:=fun m e=>by
  rcases e with e | ⟨ob,aa,ac,ad,ae,z,A,e2,e3,e4,e5⟩
  . simp[J0u,L] at e;exact .inl e.symm
  . rw[L] at A;simp only[Qf,Qu] at A;obtain⟨rfl,rfl,rfl⟩:=A;rw[W] at e2;simp only[Qf,Obj.cells.injEq] at e2;obtain⟨rfl,_⟩:=e2;have U:i≠z:=fun e=>by rw[J0j e] at e4;cases e4
    rw[J0o U] at e4;exact .inr ⟨z,e3,fun e=>U e.symm,e4,e5⟩
 have B:∀m,J0n w (σ.set q x) k (.fam n s len f ((i,q)::op)) m->J0n w σ k (.fam n s len f op) m:=fun m e=>by
  rcases K m e with rfl | ⟨z,A,_,e2,e3⟩
  . exact .inl (by simp[J0u,Q])
  . exact .inr ⟨b,base,R,us,ty,z,Q,W,A,e2,e3⟩
 have I:∀m,J3A us base i m->J0n w σ k (.fam n s len f op) m:=fun m e=>.inr ⟨b,base,R,us,ty,i,Q,W,hi,ho,e⟩;refine⟨x,⟨⟨?_,?_,?_⟩,?_,?_⟩,?_⟩
 . intro d g j;rcases Qj.1 j with e|j
   . cases e;exact x2 _ hx
   . rcases (D d g).1 j with ⟨rfl,rfl⟩ | ⟨G,j⟩
     . refine⟨_,base,R,L,s2,.inr ⟨b,ty,us,rfl,s4,W,s6,fun z a9=>?_,fun T i2 r h1 h2 C Y r1 r2=>?_,fun T h1 C r1=>?_⟩⟩
       . by_cases e:i=z
         . subst e;rw[J0j rfl];exact⟨_,u1,a,c,rfl,S,fun q' O=>by cases O;exact x1 _ _ _ hx,fun hn=>by cases hn⟩
         . rw[J0o e];obtain⟨v,v1,a',g,v2,v3,v4,v5⟩:=s7 z a9;exact⟨v,v1,a',g,v2,v3,fun q' O=>(v4 q' O).mono ⟨fun _ _ h=>⟨h,rfl⟩,Qd _⟩ F,v5⟩
       . have A:i≠T:=fun e=>by rw[J0j e] at C;cases C
         have e2:i≠i2:=fun e=>by rw[J0j e] at Y;cases Y
         rw[J0o A] at C;rw[J0o e2] at Y;exact s8 T i2 r h1 h2 C Y r1 r2
       . have A:i≠T:=fun e=>by rw[J0j e] at C;cases C
         rw[J0o A] at C;exact s9 T h1 C r1
     . exact(h.own.blk d g j).mono ⟨fun _ _ h=>⟨h,rfl⟩,Qd _⟩ F fun m a7=>⟨(J0p h.own ⟨d,g,j,a7⟩).1,rfl⟩
 . simp only[Qv,Q2,J4m];refine⟨fun j=>?_,h.own.nodup⟩;obtain⟨⟨d,g⟩,m1,Z⟩:=Qi.1 j;exact a6 d g m1 Z
 . intro k1 c1 k2 c2 m m1 Z J A e2;have one:∀d g,(d,g)∈J2g own k (.fam n s len f ((i,q)::op))->J0n w (σ.set q x) d g m->J3A us base i m->False:=fun d g j e hr=>by
    rcases (D d g).1 j with ⟨rfl,rfl⟩ | ⟨G,j⟩
    . rcases K m e with rfl | ⟨z,a1,a2,a3,a4⟩
      . exact s9 i hi ho hr
      . exact a2 (s8 z i m a1 hi a3 ho a4 hr)
    . exact h.own.apart d g k _ m j l G ((p d g m j).1 e) (I m hr)
   rcases Qj.1 m1 with H|H
   . cases H;rcases Qj.1 Z with t|t
     . cases t;exact J rfl
     . exact one k2 c2 t e2 (P m A)
   . rcases Qj.1 Z with t|t
     . cases t;exact one k1 c1 H A (P m e2)
     . have old:∀d g,(d,g)∈J2g own k (.fam n s len f ((i,q)::op))->J0n w (σ.set q x) d g m->∃c0,(d,c0)∈own/\J0n w σ d c0 m:=fun d g j e=>by
        rcases (D d g).1 j with ⟨rfl,rfl⟩ | ⟨G,j⟩
        . exact⟨_,l,B m e⟩
        . exact⟨_,j,(p d g m j).1 e⟩
       obtain⟨d1,y1,z1⟩:=old _ _ H A;obtain⟨d2,y2,z2⟩:=old _ _ t e2;exact h.own.apart k1 d1 k2 d2 m y1 y2 J z1 z2
 . intro d a8;obtain⟨a1,a2⟩:=J7v.1 a8;rw[Sg.set_other _ _ _ a2];exact h.fresh d a1
 . exact h.knodup.filter _
 . rintro m ⟨d,g,j,e⟩;rcases Qj.1 j with e'|j
   . cases e';exact⟨k,_,l,I m (P m e)⟩
   . rcases (D d g).1 j with ⟨rfl,rfl⟩ | ⟨G,j⟩
     . exact⟨_,_,l,B m e⟩
     . exact⟨_,_,j,(p d g m j).1 e⟩
structure J3B (own own':Own):Prop where
 out:∀M w σ ks,J0T M w σ own ks->J0T M w σ own' ks/\(∀m,J0x w σ own' m->J0x w σ own m)
 keys:∀k,k∈own'.map (·.1)->k∈own.map (·.1)
theorem J3B.refl (own:Own):J3B own own:=⟨fun _ _ _ _ h=>⟨h,fun _ h=>h⟩,fun _ h=>h⟩
theorem J3B.trans {a b c:Own} (h:J3B a b) (d:J3B b c):J3B a c :=
 ⟨fun M w σ ks x=>let ⟨y,z⟩:=h.out M w σ ks x;let ⟨y',z'⟩:=d.out M w σ ks y;⟨y',fun m e=>z m (z' m e)⟩,fun k e=>h.keys k (d.keys k e)⟩
theorem J1q {own:Own} {q k n s m i:Nat} {len:Nat->Nat} {f:Nat->Nat->Nat->V} {g:Nat->Nat->V} {op:List (Nat×Nat)} (A:List (Nat×Nat))
 (hk:look own k=some (.fam n s len f op)) (hq:look own q=some (.vec m s g)) (hi:i<n) (ho:look op i=some q) (hm:len i<=m) (h1:look A i=none) (S:∀j,j≠i->look A j=look op j) :
 J3B own (J2J [q] (J2g own k (.fam n s len (J4W f i g) A))):=by
 have C:=J0g hk;have d:=J0g hq;have a8:q≠k:=fun e=>by rw[e,hk] at hq;cases hq
 refine⟨fun M w σ ks h=>?_,fun B aa=>?_⟩
 . have a0:=J98 (b:=.fam n s len (J4W f i g) A) h.own.nodup ⟨_,C⟩;obtain⟨bo,base,κ,X,s2,s3⟩:=h.own.blk k _ C;rcases s3 with ⟨s3,_⟩ | ⟨b,ty,us,s3,s4,s5,s6,s7,s8,s9⟩
   . omega
   subst s3;obtain⟨u,u1,a,c,u2,u3,u4,_⟩:=s7 i hi;have L:=u4 q ho;subst u2;obtain⟨bq,ad,a6,q1,q2,q3⟩:=h.own.blk q _ d;have o:∀r,J3A us base i r->J0u σ q=some r:=fun r ⟨off,l,E,p,e2⟩=>by
    rw[u1] at p;cases p;cases L with
    | vec _ _ _ _ _ ac W a7 c2 F I kc kl ka =>
      obtain⟨N,rfl,e3⟩:=ka e2;cases e3;simp[J0u,I]
   have H:∀r,J0n w σ k (.fam n s len f op) r->J0u σ q≠some r:=fun r e e'=>h.own.apart k _ q _ r C d (fun e=>a8 e.symm) e (.inl e');have a5:∀r,J0n w σ k (.fam n s len (J4W f i g) A) r->J0n w σ k (.fam n s len f op) r\/J0u σ q=some r:=fun r e=>by
    rcases e with e | ⟨ob,ae,af,ag,ah,R,p,e2,e3,e4,e5⟩
    . exact .inl (.inl e)
    . have U:=p;rw[X] at U;simp only[Qf,Qu] at U;obtain⟨rfl,rfl,rfl⟩:=U;have T:=e2;rw[s5] at T;simp only[Qf,Obj.cells.injEq] at T;obtain⟨rfl,_⟩:=T;by_cases ei:R=i
      . subst ei;exact .inr (o r e5)
      . rw[S R ei] at e4;exact .inl (.inr ⟨b,base,κ,us,ty,R,X,s5,e3,e4,e5⟩)
   have old:∀B E r,(B,E)∈J2J [q] (J2g own k (.fam n s len (J4W f i g) A))->J0n w σ B E r->(B=k/\J0u σ q=some r)\/∃c0,(B,c0)∈own/\B≠q/\J0n w σ B c0 r:=fun B E r G e=>by
    obtain⟨D,F⟩:=J0H.1 G;simp only[Q0] at F;rcases (a0 B E).1 D with ⟨rfl,rfl⟩ | ⟨a9,D⟩
    . rcases a5 r e with x|x
      . exact .inr ⟨_,C,F,x⟩
      . exact .inl ⟨rfl,x⟩
    . exact .inr ⟨_,D,F,e⟩
   refine⟨⟨⟨?_,J29 (by rw[J4m];exact h.own.nodup),?_⟩,h.fresh,h.knodup⟩,?_⟩
   . intro B E G;obtain⟨D,F⟩:=J0H.1 G;rcases (a0 B E).1 D with ⟨rfl,rfl⟩ | ⟨a9,D⟩
     . refine⟨_,base,κ,X,s2,.inr ⟨b,ty,us,rfl,s4,s5,s6,fun R ab=>?_,fun J Y r g1 g2 Q n2 r1 r2=>?_,fun J g1 Q r1=>?_⟩⟩
       . by_cases e:R=i
         . subst e;refine⟨_,u1,a,c,rfl,u3,fun q' a4=>(by rw[h1] at a4;cases a4),fun _ hc=>?_⟩;cases L with
           | vec _ _ _ _ _ ac W a7 c2 F I kc kl ka =>
             rw[q1] at I;simp only[Qf,Qu] at I;obtain⟨rfl,rfl,rfl⟩:=I;obtain⟨N,rfl,rfl⟩:=ka hc;rcases q3 with ⟨z,_⟩ | ⟨b',P,O,p,e2,e3,e4,e5⟩
             . omega
             . cases p;refine⟨N,_,P,O,rfl,e2,e3,?_,fun j t hj ht=>?_⟩
               . simp only[Zr,Xx];have:c=a6:=by omega
                 rw[this];exact e4
               . obtain⟨y,y1,y2,y3⟩:=e5 j t (by omega) ht;exact⟨y,by simpa using y1,y2,by simpa[J4W] using y3⟩
         . obtain⟨v,v1,a',E,v2,v3,v4,v5⟩:=s7 R ab;rw[S R e];refine⟨v,v1,a',E,v2,v3,v4,fun hn hc=>?_⟩;obtain⟨r,off,P,O,p1,p2,p3,p4,p5⟩:=v5 hn hc;exact⟨r,off,P,O,p1,p2,p3,p4,fun j t hj ht=>by simp only[J4W,e,Xy];exact p5 j t hj ht⟩
       . by_cases p:J=i
         . by_cases e2:Y=i
           . rw[p,e2]
           . subst p;rw[S Y e2] at n2;exact(H r (.inr ⟨b,base,κ,us,ty,Y,X,s5,g2,n2,r2⟩) (o r r1)).elim
         . by_cases e2:Y=i
           . subst e2;rw[S J p] at Q;exact(H r (.inr ⟨b,base,κ,us,ty,J,X,s5,g1,Q,r1⟩) (o r r2)).elim
           . rw[S J p] at Q;rw[S Y e2] at n2;exact s8 J Y r g1 g2 Q n2 r1 r2
       . by_cases p:J=i
         . subst p;exact H b (.inl (by simp[J0u,X])) (o b r1)
         . rw[S J p] at Q;exact s9 J g1 Q r1
     . exact h.own.blk B E D
   . intro k1 c1 I c2 r m1 m2 K p e2;rcases old k1 c1 r m1 p with ⟨D,F⟩ | ⟨d1,D,F,a3⟩
     . rcases old I c2 r m2 e2 with ⟨Z,N⟩ | ⟨d2,Z,N,b3⟩
       . exact K (D.trans Z.symm)
       . exact h.own.apart I d2 q _ r Z d N b3 (.inl F)
     . rcases old I c2 r m2 e2 with ⟨Z,N⟩ | ⟨d2,Z,N,b3⟩
       . exact h.own.apart k1 d1 q _ r D d F a3 (.inl N)
       . exact h.own.apart k1 d1 I d2 r D Z K a3 b3
   . rintro r ⟨B,E,G,e⟩;rcases old B E r G e with ⟨_,F⟩ | ⟨d1,D,_,a3⟩
     . exact⟨q,_,d,.inl F⟩
     . exact⟨B,d1,D,a3⟩
 . obtain⟨⟨q',E⟩,m1,m2⟩:=Qi.1 aa;simp only at m2;subst m2;have:=(J0H.1 m1).1;rw[<- J4m k (.fam n s len (J4W f i g) A) own];exact Qi.2 ⟨_,this,rfl⟩
theorem J3b.trans {N:Nat} {chg:List Nat} {a b c:St} (h:J3b N chg a b) (l:J3b N chg b c) (hk:∀k,k∈b.ks->k∈c.ks\/k∈chg):J3b N chg a c :=
 ⟨fun B M w σ act s=>by
   obtain⟨n,f,j,t1,q1⟩:=h.out B M w σ act s;obtain⟨m,d,i,t2,q2⟩:=l.out B n w f act j;refine⟨m,d,i,t1.trans t2,fun k g e2=>?_⟩;rw[q2 k g e2,q1 k (fun e=>(hk k e).elim g e2) e2]⟩
theorem J1M {N:Nat} {chg:List Nat} {env:Env} {own own':Own} {ks:List Nat} (h:J3B own own'):J3b N chg ⟨env,own,ks⟩ ⟨env,own',ks⟩ :=
 ⟨fun B M w σ a s=>by
   obtain⟨f,b⟩:=h.out M w σ ks s.heap;exact⟨M,σ,⟨s.env,f,s.size,⟨s.defers.base,fun d hd=>let ⟨D,e,q1,q2,q3,q4⟩:=s.defers.mark d hd;⟨D,e,q1,q2,fun x=>q3 (b D x),q4⟩,s.defers.nodup⟩⟩,⟨.refl _ _ _,fun m c=>.inl (b m c)⟩,fun _ _ _=>rfl⟩⟩
theorem J0Q {N:Nat} {chg:List Nat} {env:Env} {own:Own} {ks:List Nat} {q k n s i:Nat} {len:Nat->Nat} {f:Nat->Nat->Nat->V} {op:List (Nat×Nat)} (c:J1b q ks=true) (r:J1b q chg=true)
 (hk:look own k=some (.fam n s len f op)) (p:i<n) (l:look op i=none) :
 J3b N chg ⟨env,own,ks⟩ ⟨env,(q,.vec (len i) s (f i))::J2g own k (.fam n s len f ((i,q)::op)),Y1i q ks⟩ :=
 ⟨fun B M w σ a st=>by
   obtain⟨x,u,g⟩:=Q2g st.heap (J0k.1 c) hk p l;have b:σ.le (σ.set q x):=Sg.le_set x (st.heap.fresh q (J0k.1 c));refine⟨M,σ.set q x,⟨fun t v j=>(st.env t v j).mono ⟨fun _ _ h=>⟨h,rfl⟩,Qd _⟩ b,u,st.size,⟨st.defers.base,fun d hd=>let ⟨D,e,q1,q2,q3,q4⟩:=st.defers.mark d hd;⟨D,e,q1,q2,fun x=>q3 (g D x),q4⟩,st.defers.nodup⟩⟩,⟨.refl _ _ _,fun m o=>.inl (g m o)⟩,fun y _ e2=>?_⟩;exact Sg.set_other _ _ _ (fun e=>e2 (e▸J0k.1 r))⟩
theorem X0N {P:Program} {fn:FuncId} {args:List V} {own:Own} {ks:List Nat} {K:V->Own->List Nat->Prop} (q k i:Nat) {n s:Nat} {len:Nat->Nat} {f:Nat->Nat->Nat->V} {op:List (Nat×Nat)} (j:J1b q ks=true)
 (hk:look own k=some (.fam n s len f op)) (F:i<n) (E:look op i=none)
 (h:J0N P fn args ((q,.vec (len i) s (f i))::J2g own k (.fam n s len f ((i,q)::op))) (Y1i q ks) K):J0N P fn args own ks K:=by
 constructor;intro M w σ us c hd B;obtain⟨x,H,A⟩:=Q2g B (J0k.1 j) hk F E;have p:=B.fresh q (J0k.1 j);have d:σ.le (σ.set q x):=Sg.le_set x p;refine(h.out M w (σ.set q x) us c (fun i v u o D=>(hd i v u o D).mono ⟨fun _ _ h=>⟨h,rfl⟩,Qd _⟩ d) H).mono ?_;rintro e w' ⟨J,l,v,own',m,u,rfl,o,z,a,kd,G⟩;refine⟨J,l,v,own',m,u,rfl,o,z,⟨⟨a.adv.os,a.adv.tape,a.adv.output,a.adv.size,fun b g t=>a.adv.same b g fun x=>t (A b x),fun b g t=>a.adv.muts b g fun x=>t (A b x)⟩,fun b g=>(a.new b g).imp_left (A b),Sg.le_trans d a.le⟩,⟨fun k hk=>(J7v.1 (kd.1 k hk)).1,fun k I e2=>?_,fun C y=>?_⟩,G⟩
 . have r:k≠q:=fun e=>e2 (e▸J0k.1 j);exact kd.2.1 k (by rw[Sg.set_other _ _ _ r];exact I) (fun e=>e2 (J7v.1 e).1)
 . rcases kd.2.2 C y with x|x
   . simp only[Qv,Qj,J4m] at x;rcases x with x|x
     . exact .inr (x▸J0k.1 j)
     . exact .inl x
   . exact .inr (J7v.1 x).1
theorem Q2E {P:Program} {f:FuncId} {args:List V} {own:Own} {ks:List Nat} {K:V->Own->List Nat->Prop} (h:J0N P f args own ks fun v own' c=>∃a,J3B own' a/\K v a c):J0N P f args own ks K:=by
 constructor;intro M w σ us g hd o;refine(h.out M w σ us g hd o).mono ?_;rintro e w' ⟨m,d,v,own',c,u,rfl,n,j,i,kd,a,l,q⟩;obtain⟨s,r⟩:=l.out m w' d c j;exact⟨m,d,v,a,c,u,rfl,n,s,⟨i.adv,fun b p=>i.new b (r b p),i.le⟩,⟨kd.1,kd.2.1,fun k hk=>kd.2.2 k (l.keys k hk)⟩,q⟩
def Q5N (P:Program) (f:FuncId) (args:List V) (a:V->Prop):Prop:=∀own ks,J0N P f args own ks fun v o k=>a v/\o=own/\k=ks
theorem Q5N.go {P:Program} {f:FuncId} {args:List V} {a:V->Prop} {own:Own} {ks:List Nat} {K:V->Own->List Nat->Prop} (h:Q5N P f args a) (b:∀v,a v->K v own ks):J0N P f args own ks K :=
 (h own ks).mono (by rintro v _ _ ⟨c,rfl,rfl⟩;exact b v c)
theorem Q1L {P:Program} {f:FuncId} {args:List V} {p:V->Prop} (ks0:List Nat) (y:ks0.Nodup) (hk:J3a V.kf args=true) (h:J0N P f args [] ks0 fun v own' _=>Q5e own' v fun q=>∃X,p X/\VLe q X):Q5N P f args p:=by
 intro own ks;constructor;intro M w σ us g hd z;refine(h.out M w Sg.none us g (fun i v u k t=>(hd i v u k t).kf (J0v hk v (Qw k)) Sg.none) (J3k ks0 y)).mono ?_;rintro e w' ⟨o,a,v,own',s,u,rfl,k,n,j,_,c⟩;obtain⟨q,⟨X,A,C⟩,l⟩:=J4R c;have B:∀b,b<w.heap.size->(J55 o w' a own' b↔M b):=by
  intro b r;have m:¬ J0x w' a own' b:=fun x=>by
   rcases j.new b x with d|d
   . exact J0R d
   . omega
  constructor
  . intro d;exact(j.adv.muts b r J0R).1 d.1
  . intro d;exact⟨(j.adv.muts b r J0R).2 d,m⟩
 have c:=J3O (M'':=J55 o w' a own') z j B;exact⟨_,σ,X,own,ks,u,rfl,(C.out _ _ _ (l o w' a u n.own k)).mono (Ext.mk (fun _ _ h=>⟨h,rfl⟩) (Qd _)) (Sg.none_le σ),c.1,c.2,Kd.refl _ _ _,A,rfl,rfl⟩
theorem J31 {P:Program} {f:FuncId} {args:List V} {a:V->Prop} (hk:J3a V.kf args=true) (h:J0N P f args [] KS fun v own' _=>Q5e own' v fun b=>∃X,a X/\VLe b X):Q5N P f args a :=
 Q1L KS J52 hk h
theorem Q1M {P:Program} {f:FuncId} {args:List V} {a:V->Prop} (hk:J3a V.kf args=true) (h:J0N P f args [] KS2 fun v own' _=>Q5e own' v fun b=>∃X,a X/\VLe b X):Q5N P f args a :=
 Q1L KS2 Q2R hk h
theorem Br.h1 {b:Bool} {A B:Prop} (h:b=true) (h1:A):Br b A B:=Br.mk (fun _=>h1) (fun e=>Bool.noConfusion (h.symm.trans e))
theorem Br.h2 {b:Bool} {A B:Prop} (h:b=false) (h1:B):Br b A B:=Br.mk (fun e=>Bool.noConfusion (e.symm.trans h)) (fun _=>h1)
structure Wr (B:Prop):Prop where
 out:B
theorem Vq {A B:Prop} (a:B) (h:Wr B->A:=by
 intro a
 repeat' ((conv=>whnf);first
  | (refine Br.tt ?_)
  | (refine Br.ff ?_)
  | (refine Br.h1 (by assumption) ?_)
  | (refine Br.h2 (by assumption) ?_)
  | (refine Br.dec ?_ ?_<;>intro _<;>try omega)
  | (refine Br.beq ?_ ?_<;>intro _<;>try omega)
  | (refine Br.bne ?_ ?_<;>intro _<;>try omega)
  | (refine Br.nbeq ?_ ?_<;>intro _<;>try omega)
  | (refine Br.nble ?_ ?_<;>intro _<;>try omega)
  | (refine Ar.i64 (by omega) (by omega) ?_)
  | (refine Ar.u32 (by omega) (by omega) ?_)
  | (refine Ar.sh1 (by omega) ?_)
  | (refine Ar.u64 (by omega) (by omega) ?_)
  | (refine Sv.mk _ rfl ?_)
  | (refine Nz.mk (by omega) ?_)
  | (refine Nn.mk (by omega) ?_)
  | (refine Ix.nat (by omega) ?_)
  | (refine Ix.ofNat (by omega) ?_)
  | (refine Ix.mk 0 rfl (by omega) ?_)
  | (refine Ix.mk 1 rfl (by omega) ?_)
  | (refine Ix.int (by omega) (by omega) ?_)
  | (refine Bd.nat (by omega) ?_)
  | (refine Bd.mk 0 rfl (by omega) ?_)
  | (refine Bd.mk 1 rfl (by omega) ?_)
  | (refine Bd.int (by omega) (by omega) ?_)
  | (refine Len.mk (by omega) ?_)
  | (refine Len.mk (by simp only[List.length_cons,List.length_nil];omega) ?_)
  | (refine Ltn.mk (by omega) ?_)
  | (refine Y1P.mk ?_ ?_)
  | (refine MkS.vec ?_)
  | (refine Ret.go (by assumption) ?_)
  | (refine Q7e.gog (by assumption) ?_)
  | (refine And.intro rfl ?_)
  | (refine Chk.mk (by first|exact rfl|kernel_rfl) ?_)
  | (refine Br.any (fun _=>?_) (fun _=>?_)))
 all_goals conv=>whnf
 exact a.out):A:=h ⟨a⟩
theorem Wq {A:Prop} (h:A:=by
 repeat' ((conv=>whnf);first
  | (refine Br.tt ?_)
  | (refine Br.ff ?_)
  | (refine Br.h1 (by assumption) ?_)
  | (refine Br.h2 (by assumption) ?_)
  | (refine Br.dec ?_ ?_<;>intro _<;>try omega)
  | (refine Br.beq ?_ ?_<;>intro _<;>try omega)
  | (refine Br.bne ?_ ?_<;>intro _<;>try omega)
  | (refine Br.nbeq ?_ ?_<;>intro _<;>try omega)
  | (refine Br.nble ?_ ?_<;>intro _<;>try omega)
  | (refine Ar.i64 (by omega) (by omega) ?_)
  | (refine Ar.u32 (by omega) (by omega) ?_)
  | (refine Ar.sh1 (by omega) ?_)
  | (refine Ar.u64 (by omega) (by omega) ?_)
  | (refine Sv.mk _ rfl ?_)
  | (refine Nz.mk (by omega) ?_)
  | (refine Nn.mk (by omega) ?_)
  | (refine Ix.nat (by omega) ?_)
  | (refine Ix.ofNat (by omega) ?_)
  | (refine Ix.mk 0 rfl (by omega) ?_)
  | (refine Ix.mk 1 rfl (by omega) ?_)
  | (refine Ix.int (by omega) (by omega) ?_)
  | (refine Bd.nat (by omega) ?_)
  | (refine Bd.mk 0 rfl (by omega) ?_)
  | (refine Bd.mk 1 rfl (by omega) ?_)
  | (refine Bd.int (by omega) (by omega) ?_)
  | (refine Len.mk (by omega) ?_)
  | (refine Len.mk (by simp only[List.length_cons,List.length_nil];omega) ?_)
  | (refine Ltn.mk (by omega) ?_)
  | (refine Y1P.mk ?_ ?_)
  | (refine MkS.vec ?_)
  | (refine Ret.go (by assumption) ?_)
  | (refine Q7e.gog (by assumption) ?_)
  | (refine And.intro rfl ?_)
  | (refine Chk.mk (by first|exact rfl|kernel_rfl) ?_)
  | (refine Br.any (fun _=>?_) (fun _=>?_)))
 all_goals conv=>whnf
 all_goals exact VLe.rfl):A:=h
theorem J0F {N:Nat} {chg:List Nat} {env env':Env} {own own':Own} {ks d:List Nat} (mk:Env->Own->Rn) {B:Prop} (c:B)
 (he:Wr B->J4h (mk env own) env env':=by
   intro c
   repeat' (first
    | exact True.intro
    | exact J0b.oel rfl rfl
    | exact J0b.map rfl
    | exact J0b.yld rfl
    | (refine J0b.fn ?_)
    | exact⟨rfl,rfl⟩
    | exact⟨rfl,rfl,rfl⟩
    | (refine⟨rfl,rfl,rfl,rfl,rfl,?_⟩)
    | (refine⟨⟨_,rfl,?_⟩,?_⟩)
    | exact J0b.kf rfl
    | exact J0b.int rfl
    | exact J0b.int (by omega)
    | exact J0b.loc rfl
    | exact J0b.vec rfl rfl rfl
    | exact J0b.vec rfl (by omega) (by omega)
    | exact J0b.nil rfl rfl
    | exact J0b.nil rfl (by omega)
    | exact J0b.fz rfl (fun h=>h) (fun _ _ _ _=>VLe.rfl)
    | (refine⟨Qd _,rfl,fun i j a b=>?_⟩)
    | (refine⟨by omega,rfl,fun i j a b=>?_⟩)
    | exact VLe.rfl
    | (refine⟨⟨_,_,rfl⟩,?_⟩)
    | exact⟨rfl,rfl,True.intro,fun i a=>rfl,fun i j t a f b e=>VLe.rfl⟩
    | exact⟨rfl,rfl,⟨rfl,rfl,True.intro⟩,fun i a=>rfl,fun i j t a f b e=>VLe.rfl⟩
    | (refine And.intro ?_ ?_))
   all_goals first|exact c.out|(revert i j a b;exact c.out))
 (g:Wr B->J2h (mk env own) own own':=by
   intro c
   repeat' (first
    | exact True.intro
    | exact J0b.oel rfl rfl
    | exact J0b.map rfl
    | exact J0b.yld rfl
    | (refine J0b.fn ?_)
    | exact⟨rfl,rfl⟩
    | exact⟨rfl,rfl,rfl⟩
    | (refine⟨rfl,rfl,rfl,rfl,rfl,?_⟩)
    | (refine⟨⟨_,rfl,?_⟩,?_⟩)
    | exact J0b.kf rfl
    | exact J0b.int rfl
    | exact J0b.int (by omega)
    | exact J0b.loc rfl
    | exact J0b.vec rfl rfl rfl
    | exact J0b.vec rfl (by omega) (by omega)
    | exact J0b.nil rfl rfl
    | exact J0b.nil rfl (by omega)
    | exact J0b.fz rfl (fun h=>h) (fun _ _ _ _=>VLe.rfl)
    | (refine⟨Qd _,rfl,fun i j a b=>?_⟩)
    | (refine⟨by omega,rfl,fun i j a b=>?_⟩)
    | exact VLe.rfl
    | (refine⟨⟨_,_,rfl⟩,?_⟩)
    | exact⟨rfl,rfl,True.intro,fun i a=>rfl,fun i j t a f b e=>VLe.rfl⟩
    | exact⟨rfl,rfl,⟨rfl,rfl,True.intro⟩,fun i a=>rfl,fun i j t a f b e=>VLe.rfl⟩
    | (refine And.intro ?_ ?_))
   all_goals first|exact c.out|(revert i j a b;exact c.out))
 (k:(J1x d&&J1x (own'.map (·.1))&&rnB (mk env own)&&X1r chg (mk env own)&&ksB (mk env own) d)=true:=by rfl):J3b N chg ⟨env,own,ks⟩ ⟨env',own',d⟩:=J0d mk (he ⟨c⟩) (g ⟨c⟩) k
end Go.Eng
