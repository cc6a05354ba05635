import Derived.Test.YtcbnimaicgegfaaGreatDoorEngF
import Derived.Laws.MakeOwn
import Derived.Maps.RangeRun
set_option linter.all false
namespace Go.Eng
def J1b (n:Nat):List Nat->Bool
 | []=>false
 | x::r=>match Nat.beq x n with|true=>true|false=>J1b n r
theorem J0k {n:Nat}:∀{l:List Nat},J1b n l=true↔n∈l
 | []=>by simp[J1b]
 | x::r=>by
   unfold J1b;split
   . rename_i h;have:=Qc h;subst this;simp
   . rename_i h;have a:x≠n:=fun e=>by subst e;simp at h
     rw[J0k,Qj];constructor
     . exact .inr
     . rintro (e|e)
       . exact(a e.symm).elim
       . exact e
theorem Sg.none_le (σ:Sg):Sg.none.le σ:=fun _ _ h=>by cases h
def Q7c (own:Own) (v:V) (K:V->Prop):Prop :=
 match v with
 | .vec k s a len=>match look own k with
   | some (.vec n b f)=>match Nat.beq s b with
     | true=>Len (a+len) n (K (.fz len s false (J0m a f)))
     | false=>False
   | _=>False
 | v=>match v.kf2 with
   | true=>K v
   | false=>False
def Q2H (own:Own):List V->(List V->Prop)->Prop
 | [],K=>K []
 | v::r,K=>Q7c own v fun v=>Q2H own r fun r=>K (v::r)
def tab (a:List (List V)):Nat->Nat->V:=fun i j=>(a.getD i []).getD j default
def J5m {α:Type} (s:Nat):Nat->List α->List (List α)
 | 0,_=>[]
 | n+1,l=>l.take s::J5m s n (l.drop s)
theorem Q2y {α:Type} (s:Nat):∀(n:Nat) (l:List α) (i:Nat),i<n->(J5m s n l)[i]?=some ((l.drop (i*s)).take s)
 | 0,l,i,h=>by omega
 | n+1,l,0,h=>by simp[J5m]
 | n+1,l,i+1,h=>by
   simp only[J5m,Y0];rw[Q2y s n _ i (by omega),K4,Zv,Z8 s]
theorem Q1l {s n:Nat} {l:List V} {i j:Nat} (b:i<n) (a:j<s) (h:i*s+j<l.length):tab (J5m s n l) i j=l[i*s+j]:=by
 simp only[tab,Q6,Q2y s n l i b,Xp,Ya,a,Zl,Yk];simp[h]
def J4W (f:Nat->Nat->Nat->V) (i:Nat) (g:Nat->Nat->V):Nat->Nat->Nat->V:=fun j=>if j=i then g else f j
def Y12 (own:Own) (s:Nat) (ln:Nat->Nat) (f:Nat->Nat->Nat->V):List (Nat×Nat)->((Nat->Nat->Nat->V)->Prop)->Prop
 | [],K=>K f
 | (i,q)::r,K=>match look own q with
   | some (.vec m a g)=>match Nat.beq s a with
     | true=>Len (ln i) m (Y12 own s ln f r fun b=>K (J4W b i g))
     | false=>False
   | _=>False
theorem J9L {own:Own} {s:Nat} {ln:Nat->Nat} {f:Nat->Nat->Nat->V}:∀{op:List (Nat×Nat)} {K:(Nat->Nat->Nat->V)->Prop},Y12 own s ln f op K ->
 ∃a,K a/\∀i,(look op i=none->a i=f i)/\∀q,look op i=some q->∃m,look own q=some (.vec m s (a i))/\ln i<=m
 | [],K,h=>⟨f,h,fun i=>⟨fun _=>rfl,fun q e=>by simp[look] at e⟩⟩
 | (c,q0)::r,K,h=>by
   unfold Y12 at h;split at h
   . rename_i m n g d;split at h
     . rename_i e;have e:=Qc e;subst e;obtain⟨b,h⟩:=h;obtain⟨a,k,j⟩:=J9L h;refine⟨_,k,fun i=>?_⟩;by_cases e:c=i
       . subst e;rw[J0j rfl];exact⟨fun h=>(by cases h),fun q e=>(by cases e;exact⟨m,by simp[J4W,d],b⟩)⟩
       . rw[J0o e];have l:¬ i=c:=fun h=>e h.symm;simp only[J4W,l,Xy];exact j i
     . exact h.elim
   . exact h.elim
def X1s (own:Own) (v:V) (K:V->Prop):Prop :=
 match v with
 | .vec k 1 0 len=>match look own k with
   | some (.cells cs)=>match Nat.beq len cs.length,J3a V.cellB cs with
     | true,true=>Q2H own cs fun a=>K (.fz len 1 false (tab (J5m 1 len a)))
     | _,_=>False
   | some (.fam n s ln f op)=>Len len n (Y12 own s ln f op fun b=>K (.fz len 1 false fun i _=>.fz (ln i) s false (b i)))
   | _=>Q7c own (.vec k 1 0 len) K
 | .vec k s 0 len=>match look own k with
   | some (.cells cs)=>match Nat.beq (len*s) cs.length,J3a V.cellB cs with
     | true,true=>Q2H own cs fun a=>K (.fz len s false (tab (J5m s len a)))
     | _,_=>False
   | _=>Q7c own (.vec k s 0 len) K
 | v=>Q7c own v K
def X78 (own:Own):List V->(List V->Prop)->Prop
 | [],K=>K []
 | v::r,K=>X1s own v fun v=>X78 own r fun r=>K (v::r)
def bor (own:Own) (v:V) (K:V->Prop):Prop :=
 match v with
 | .agg cs=>X78 own cs fun cs=>K (.agg cs)
 | .loc k 0=>match look own k with
   | some (.cells cs)=>match J3a V.cellB cs with
     | true=>X78 own cs fun a=>K (.fe 1 cs.length (tab [a]) 0 0)
     | false=>False
   | _=>False
 | v=>X1s own v K
def X3Q (own:Own):List V->(List V->Prop)->Prop
 | [],K=>K []
 | v::r,K=>bor own v fun v=>X3Q own r fun r=>K (v::r)
def J55 (M:Nat->Prop) (w:World) (σ:Sg) (own:Own):Nat->Prop:=fun b=>M b/\¬ J0x w σ own b
theorem J5M (M:Nat->Prop) (w:World) (σ:Sg) (own:Own):Ext M w (J55 M w σ own) w:=⟨fun _ _ a=>⟨fun h=>a h.1,rfl⟩,Qd _⟩
theorem J4U {own:Own} {v:V} {K:V->Prop} (h:Q7c own v K):∃B,K B/\∀M w σ u,J2N M w σ own->Den M w σ v u->Den (J55 M w σ own) w Sg.none B u:=by
 unfold Q7c at h;split at h
 . rename_i k s m len;split at h
   . rename_i n X f o;split at h
     . rename_i e;have e:=Qc e;subst e;obtain⟨L,P⟩:=h;refine⟨_,P,fun M w σ u J hd=>?_⟩;have l:=J0g o;obtain⟨Z,base,R,D,W,p⟩:=J.blk k _ l;cases hd with
       | vec _ _ _ _ _ Q A H c a hk Y N F =>
         rw[D] at hk;simp only[Qf,Qu] at hk;obtain⟨q1,q2,q3⟩:=hk;subst q1 q2 q3;rcases Q4 len with G|G
         . subst G;exact .fz0 _ _ _ _ _ _ (by simp)
         . obtain⟨b,t,y⟩:=F (by omega);clear F;subst t y;rcases p with ⟨_,p⟩ | ⟨b',ty,us,p,T,C,S,I⟩
           . cases p
           cases p;have q:=lt_of_getElem? C;have E:∀i j,i<len->j<s->∃x,us[base+((m+i)*s+j)]?=some x/\x.oneCell'=true/\Den M w Sg.none (f (m+i) j) x:=fun i j g d=>I (m+i) j (by omega) d;let U:Nat->Nat->Value:=fun i j=>if h:i<len/\j<s then Classical.choose (E i j h.1 h.2) else undef
           have z:∀i j (g:i<len) (d:j<s),us[base+((m+i)*s+j)]?=some (U i j)/\(U i j).oneCell'=true/\Den M w Sg.none (f (m+i) j) (U i j):=fun i j g d=>by
            simp only[U,g,d,K3,Yo];exact Xj (E i j g d)
           refine .fz _ _ _ _ _ _ _ _ U N (by simp) (fun O=>O.2 ⟨k,_,l,.inl (by simp[J0u,D])⟩) q ?_ (fun i j g d=>(z i j g d).2.1) ?_
           . intro i j g d;rw[show base+m*s+(i*s+j)=base+((m+i)*s+j) by rw[Xc];omega];simp[World.cell?,C,(z i j g d).1]
           . intro i j g d;rw[J0l];exact(z i j g d).2.2.mono (J5M M w σ own) (Sg.le_refl _)
     . exact h.elim
   . exact h.elim
 . split at h
   . rename_i r;exact⟨v,h,fun M w σ u _ hd=>(hd.kf2 r Sg.none).mono (J5M M w σ own) (Sg.le_refl _)⟩
   . exact h.elim
theorem J5p {own:Own}:∀{c:List V} {K:List V->Prop},Q2H own c K->∃a,K a/\a.length=c.length/\∀M w σ,J2N M w σ own->∀(i:Nat) (v d:V) (u:Value),c[i]?=some v->a[i]?=some d->Den M w σ v u->Den (J55 M w σ own) w Sg.none d u
 | [],K,h=>⟨[],h,rfl,fun _ _ _ _=>by simp⟩
 | v::r,K,h=>by
   obtain⟨d,h,j⟩:=J4U h;obtain⟨n,m,l,k⟩:=J5p h;refine⟨_,m,by simp[l],fun M w σ f i x g u e b hd=>?_⟩;cases i with
   | zero=>simp at e b;subst e b;exact j M w σ u f hd
   | succ i=>exact k M w σ f i x g u (by simpa using e) (by simpa using b) hd
theorem J9X {own:Own} {v:V} {K:V->Prop} (h:X1s own v K):∃v',K v'/\∀M w σ u,J2N M w σ own->Den M w σ v u->Den (J55 M w σ own) w Sg.none v' u:=by
 unfold X1s at h;split at h
 . rename_i k len;split at h
   . rename_i cs l;split at h
     . rename_i y W;have y:=Qc y;obtain⟨o,hK,hl,hr⟩:=J5p h;refine⟨_,hK,fun M w σ u O hd=>?_⟩;have e:=J0g l;obtain⟨b,κ,ty,us,J,s2,C,s4,R⟩:=O.blk k _ e;cases hd with
       | vec _ _ _ _ _ bo base Y c a hk hc S X =>
         rw[J] at hk;simp only[Qf,Qu] at hk;obtain⟨q1,q2,q3⟩:=hk;subst q1 q2 q3;rcases Q4 len with Q|Q
         . subst Q;exact .fz0 _ _ _ _ _ _ (by simp)
         . obtain⟨b',G,H⟩:=X (by omega);cases G;subst H;have A:∀i,i<len->∃x v,us[i]?=some x/\cs[i]?=some v/\x.oneCell'=true/\Den M w σ v x:=fun i d=>by
            have h1:i<us.size:=by omega
            have P:i<cs.length:=by omega
            have F:=R i cs[i] us[i] (by simp[P]) (by simp[h1]);exact⟨us[i],cs[i],by simp[h1],by simp[P],F.oneCell (J0v W _ (Xd P)),F⟩
           refine .fz _ _ _ _ _ _ _ _ (fun i _=>us.getD i undef) S (by simp) (fun N=>N.2 ⟨k,_,e,.inl (by simp[J0u,J])⟩) (lt_of_getElem? C) ?_ ?_ ?_
           . intro i j d g;obtain⟨x,v,I,_⟩:=A i d;have T:j=0:=by omega
             subst T;simp[World.cell?,C,Qx,I]
           . intro i j d g;obtain⟨x,v,I,_,a3,_⟩:=A i d;simpa[Qx,I] using a3
           . intro i j d g;obtain⟨x,v,I,a2,_,a4⟩:=A i d;have P:i<o.length:=by omega
             have:=hr M w σ O i v o[i] x a2 (by simp[P]) a4;have T:j=0:=by omega
             subst T;have e1:tab (J5m 1 len o) i 0=o[i]:=by rw[Q1l d (by omega) (by omega)];simp
             rw[e1];simpa[Qx,I] using this
     . exact h.elim
   . rename_i n s ln f op l;obtain⟨aa,h⟩:=h;obtain⟨f',hK,hf⟩:=J9L h;refine⟨_,hK,fun M w σ u O hd=>?_⟩;have e:=J0g l;obtain⟨bo,base,κ,J,s2,C⟩:=O.blk k _ e;cases hd with
     | vec _ _ _ _ _ ac a6 Y c a hk hc hl X =>
       rw[J] at hk;simp only[Qf,Qu] at hk;obtain⟨q1,q2,q3⟩:=hk;subst q1 q2 q3;rcases Q4 len with Q|Q
       . subst Q;exact .fz0 _ _ _ _ _ _ (by simp)
       . obtain⟨b,G,H⟩:=X (by omega);clear X;subst G H;rcases C with ⟨_,C⟩ | ⟨b',ty,us,C,s4,R,s6,s7,s8,s9⟩
         . cases C
         cases C;have hx:∀i,i<len->∃x,us[base+i]?=some x/\x.oneCell'=true/\Den (J55 M w σ own) w Sg.none (.fz (ln i) s false (f' i)) x:=fun i d=>by
          obtain⟨u,u1,a,c',u2,u3,u4,u5⟩:=s7 i (by omega);subst u2;refine⟨_,u1,rfl,?_⟩;rcases Q4 (ln i) with z|z
          . rw[z];exact .fz0 _ _ _ _ _ _ (by simp)
          . have key:∃r off B p,a=some ⟨r,off,none⟩/\¬ J55 M w σ own r/\w.heap[r]?=some (.cells p B (0,0))/\∀j t,j<ln i->t<s->∃x,p[off+(j*s+t)]?=some x/\x.oneCell'=true/\Den M w Sg.none (f' i j t) x:=by
             cases E:look op i with
             | none =>
               obtain⟨r,off,B,p,p1,p2,p3,p4,p5⟩:=u5 E (by omega);rw[(hf i).1 E];subst p1;exact⟨r,off,B,p,rfl,fun N=>N.2 ⟨k,_,e,.inr ⟨b,base,κ,us,ty,i,J,R,by omega,E,off,_,c',u1,by omega⟩⟩,p3,p5⟩
             | some q =>
               obtain⟨m,Z,a9⟩:=(hf i).2 q E;have hd:=u4 q E;obtain⟨bq,a0,a7,q1,q2,q3⟩:=O.blk q _ (J0g Z);cases hd with
               | vec _ _ _ _ _ ab a5 a8 c2 a2 k2 kc kl ka =>
                 rw[q1] at k2;simp only[Qf,Qu] at k2;obtain⟨rfl,rfl,rfl⟩:=k2;obtain⟨b2,rfl,rfl⟩:=ka (by omega);rcases q3 with ⟨z',_⟩ | ⟨b',B,p,e1,e2,e3,e4,e5⟩
                 . omega
                 . cases e1;exact⟨b2,_,B,p,rfl,fun N=>N.2 ⟨q,_,J0g Z,.inl (by simp[J0u,q1])⟩,e3,fun j t g D=>by simpa using e5 j t (by omega) D⟩
            obtain⟨r,off,B,p,p1,p2,p3,p5⟩:=key;subst p1;let U:Nat->Nat->Value:=fun j t=>if h:j<ln i/\t<s then Classical.choose (p5 j t h.1 h.2) else undef
            have A:∀j t (g:j<ln i) (D:t<s),p[off+(j*s+t)]?=some (U j t)/\(U j t).oneCell'=true/\Den M w Sg.none (f' i j t) (U j t):=fun j t g D=>by
             simp only[U,g,D,K3,Yo];exact Xj (p5 j t g D)
            refine .fz _ _ _ _ _ _ _ _ U u3 (by simp) p2 (lt_of_getElem? p3) ?_ (fun j t g D=>(A j t g D).2.1) ?_
            . intro j t g D;simp[World.cell?,p3,(A j t g D).1]
            . intro j t g D;exact(A j t g D).2.2.mono (J5M M w σ own) (Sg.le_refl _)
         let U:Nat->Value:=fun i=>if h:i<len then Classical.choose (hx i h) else undef
         have A:∀i (d:i<len),us[base+i]?=some (U i)/\(U i).oneCell'=true/\Den (J55 M w σ own) w Sg.none (.fz (ln i) s false (f' i)) (U i):=fun i d=>by
          simp only[U,d,Yo];exact Xj (hx i d)
         refine .fz _ _ _ _ _ _ _ _ (fun i _=>U i) hl (by simp) (fun N=>N.2 ⟨k,_,e,.inl (by simp[J0u,J])⟩) (lt_of_getElem? R) ?_ (fun i j d g=>(A i d).2.1) (fun i j d g=>(A i d).2.2);intro i j d g;obtain rfl:j=0:=by omega
         rw[show base+0*1+(i*1+0)=base+i by omega];simp[World.cell?,R,(A i d).1]
   . exact J4U h
 . rename_i k s len _;split at h
   . rename_i cs l;split at h
     . rename_i y W;have y:=Qc y;obtain⟨o,hK,hl,hr⟩:=J5p h;refine⟨_,hK,fun M w σ u O hd=>?_⟩;have e:=J0g l;obtain⟨b,κ,ty,us,J,s2,C,s4,R⟩:=O.blk k _ e;cases hd with
       | vec _ _ _ _ _ bo base Y c a hk hc S X =>
         rw[J] at hk;simp only[Qf,Qu] at hk;obtain⟨q1,q2,q3⟩:=hk;subst q1 q2 q3;rcases Q4 len with Q|Q
         . subst Q;exact .fz0 _ _ _ _ _ _ (by simp)
         . obtain⟨b',G,H⟩:=X (by omega);cases G;subst H;have L:∀i j,i<len->j<s->i*s+j<cs.length:=fun i j d g=>by
            have:i*s+s<=len*s:=by rw[<- Zv];exact Q5 _ d
            omega
           have A:∀i,i<cs.length->∃x v,us[i]?=some x/\cs[i]?=some v/\x.oneCell'=true/\Den M w σ v x:=fun i d=>by
            have h1:i<us.size:=by omega
            have F:=R i cs[i] us[i] (by simp[d]) (by simp[h1]);exact⟨us[i],cs[i],by simp[h1],by simp[d],F.oneCell (J0v W _ (Xd d)),F⟩
           refine .fz _ _ _ _ _ _ _ _ (fun i j=>us.getD (i*s+j) undef) S (by simp) (fun N=>N.2 ⟨k,_,e,.inl (by simp[J0u,J])⟩) (lt_of_getElem? C) ?_ ?_ ?_
           . intro i j d g;obtain⟨x,v,I,_⟩:=A _ (L i j d g);simp[World.cell?,C,Qx,I]
           . intro i j d g;obtain⟨x,v,I,_,a3,_⟩:=A _ (L i j d g);simpa[Qx,I] using a3
           . intro i j d g;obtain⟨x,v,I,a2,_,a4⟩:=A _ (L i j d g);have P:i*s+j<o.length:=by rw[hl];exact L i j d g
             have:=hr M w σ O _ v o[i*s+j] x a2 (by simp[P]) a4;have e1:tab (J5m s len o) i j=o[i*s+j]:=Q1l d g P;rw[e1];simpa[Qx,I] using this
     . exact h.elim
   . exact J4U h
 . exact J4U h
theorem J6B {own:Own}:∀{c:List V} {K:List V->Prop},X78 own c K->∃a,K a/\a.length=c.length/\∀M w σ,J2N M w σ own->∀(i:Nat) (v d:V) (u:Value),c[i]?=some v->a[i]?=some d->Den M w σ v u->Den (J55 M w σ own) w Sg.none d u
 | [],K,h=>⟨[],h,rfl,fun _ _ _ _=>by simp⟩
 | v::r,K,h=>by
   obtain⟨d,h,j⟩:=J9X h;obtain⟨n,m,l,k⟩:=J6B h;refine⟨_,m,by simp[l],fun M w σ f i x g u e b hd=>?_⟩;cases i with
   | zero=>simp at e b;subst e b;exact j M w σ u f hd
   | succ i=>exact k M w σ f i x g u (by simpa using e) (by simpa using b) hd
theorem J8O {own:Own} {v:V} {K:V->Prop} (h:bor own v K):∃o,K o/\∀M w σ u,J2N M w σ own->Den M w σ v u->Den (J55 M w σ own) w Sg.none o u:=by
 unfold bor at h;split at h
 . rename_i cs;obtain⟨a,A,s,r⟩:=J6B h;refine⟨_,A,fun M w σ u p hd=>?_⟩;obtain⟨us,rfl,T,I⟩:=hd.agg_inv;refine .agg _ _ _ (by omega) fun i o B l q=>?_;have c:i<cs.length:=by rw[<- s];exact(Qs.1 l).1
   exact r M w σ p i cs[i] o B (by simp[c]) l (I i cs[i] B (by simp[c]) q)
 . rename_i k;split at h
   . rename_i cs e;split at h
     . rename_i y;obtain⟨a,A,s,r⟩:=J6B h;refine⟨_,A,fun M w σ u p hd=>?_⟩;have d:=J0g e;obtain⟨b,Q,ty,us,D,S,C,R,H⟩:=p.blk k _ d;cases hd with
       | loc _ _ _ U base G hk =>
         rw[D] at hk;simp only[Qf,Qu] at hk;obtain⟨q1,q2,q3⟩:=hk;subst q1 q2 q3;have z:∀i,i<cs.length->∃x v,us[i]?=some x/\cs[i]?=some v/\x.oneCell'=true/\Den M w σ v x:=fun i c=>by
          have F:i<us.size:=by omega
          have m:=H i cs[i] us[i] (by simp[c]) (by simp[F]);exact⟨us[i],cs[i],by simp[F],by simp[c],m.oneCell (J0v y _ (Xd c)),m⟩
         have t:Den (J55 M w σ own) w Sg.none (.fe 1 cs.length (tab [a]) 0 0) (.pointer (some ⟨b,0+(0*cs.length+0),none⟩)):=by
          refine .fe _ _ _ _ _ _ _ _ (fun _ j=>us.getD j undef) (by omega) (fun J=>J.2 ⟨k,_,d,.inl (by simp[J0u,D])⟩) (lt_of_getElem? C) ?_ ?_ ?_
          . intro i j c g;obtain⟨x,v,n,_⟩:=z j g;have f:i=0:=by omega
            subst f;simp[World.cell?,C,Qx,n]
          . intro i j c g;obtain⟨x,v,n,_,O,_⟩:=z j g;simpa[Qx,n] using O
          . intro i j c g;obtain⟨x,v,n,P,_,N⟩:=z j g;have E:j<a.length:=by rw[s];exact g
            have:=r M w σ p j v a[j] x P (by simp[E]) N;have f:i=0:=by omega
            subst f;have L:tab [a] 0 j=a[j]:=by simp[tab,E]
            rw[L];simpa[Qx,n] using this
         simpa using t
     . exact h.elim
   . exact h.elim
 . exact J9X h
theorem J3U {own:Own}:∀{c:List V} {K:List V->Prop},X3Q own c K->∃a,K a/\a.length=c.length/\∀M w σ,J2N M w σ own->∀(i:Nat) (v d:V) (u:Value),c[i]?=some v->a[i]?=some d->Den M w σ v u->Den (J55 M w σ own) w Sg.none d u
 | [],K,h=>⟨[],h,rfl,fun _ _ _ _=>by simp⟩
 | v::r,K,h=>by
   obtain⟨d,h,j⟩:=J8O h;obtain⟨n,m,l,k⟩:=J3U h;refine⟨_,m,by simp[l],fun M w σ f i x g u e b hd=>?_⟩;cases i with
   | zero=>simp at e b;subst e b;exact j M w σ u f hd
   | succ i=>exact k M w σ f i x g u (by simpa using e) (by simpa using b) hd
def J2J (ks:List Nat):Own->Own
 | []=>[]
 | (k,b)::r=>match J1b k ks with|true=>J2J ks r|false=>(k,b)::J2J ks r
def J2n (ks:List Nat):Own->Own
 | []=>[]
 | (k,b)::r=>match J1b k ks with|true=>(k,b)::J2n ks r|false=>J2n ks r
theorem J0H {ks:List Nat}:∀{own:Own} {k:Nat} {b:Blk},(k,b)∈J2J ks own↔(k,b)∈own/\k∉ks
 | [],k,b=>by simp[J2J]
 | (q,c)::r,k,b=>by
   unfold J2J;split
   . rename_i h;have:=J0k.1 h;rw[J0H];simp only[Qj,Qu];constructor
     . rintro⟨a,b⟩;exact⟨.inr a,b⟩
     . rintro⟨⟨rfl,_⟩|a,b⟩
       . exact(b this).elim
       . exact⟨a,b⟩
   . rename_i h;have:q∉ks:=fun e=>by rw[J0k.2 e] at h;cases h
     simp only[Qj,Qu,J0H];constructor
     . rintro (⟨rfl,rfl⟩ | ⟨a,b⟩)
       . exact⟨.inl ⟨rfl,rfl⟩,this⟩
       . exact⟨.inr a,b⟩
     . rintro⟨⟨rfl,rfl⟩|a,b⟩
       . exact .inl ⟨rfl,rfl⟩
       . exact .inr ⟨a,b⟩
theorem J07 {ks:List Nat}:∀{own:Own} {k:Nat} {b:Blk},(k,b)∈J2n ks own↔(k,b)∈own/\k∈ks
 | [],k,b=>by simp[J2n]
 | (q,c)::r,k,b=>by
   unfold J2n;split
   . rename_i h;have:=J0k.1 h;simp only[Qj,Qu,J07];constructor
     . rintro (⟨rfl,rfl⟩ | ⟨a,b⟩)
       . exact⟨.inl ⟨rfl,rfl⟩,this⟩
       . exact⟨.inr a,b⟩
     . rintro⟨⟨rfl,rfl⟩|a,b⟩
       . exact .inl ⟨rfl,rfl⟩
       . exact .inr ⟨a,b⟩
   . rename_i h;have:q∉ks:=fun e=>by rw[J0k.2 e] at h;cases h
     rw[J07];simp only[Qj,Qu];constructor
     . rintro⟨a,b⟩;exact⟨.inr a,b⟩
     . rintro⟨⟨rfl,_⟩|a,b⟩
       . exact(this b).elim
       . exact⟨a,b⟩
theorem J29 {ks:List Nat}:∀{own:Own},(own.map (·.1)).Nodup->((J2J ks own).map (·.1)).Nodup
 | [],h=>by simp[J2J]
 | (q,c)::r,h=>by
   simp only[Qv,Q2] at h;unfold J2J;split
   . exact J29 h.2
   . simp only[Qv,Q2];refine⟨fun d=>?_,J29 h.2⟩;obtain⟨⟨k,b⟩,e,a⟩:=Qi.1 d;simp only at a;subst a;exact h.1 (Qi.2 ⟨_,(J0H.1 e).1,rfl⟩)
theorem J7n {M:Nat->Prop} {w:World} {σ:Sg} {own:Own} {ks:List Nat} (g:J0T M w σ own ks) (a:List Nat):J2N M w σ (J2n a own):=by
 refine⟨fun k b f=>g.own.blk k b (J07.1 f).1,?_,fun k b j l n h e=>g.own.apart k b j l n (J07.1 h).1 (J07.1 e).1⟩;have:∀(m:Own),(m.map (·.1)).Nodup->((J2n a m).map (·.1)).Nodup:=by
  intro m
  induction m with
  | nil=>intro _;simp[J2n]
  | cons p m i =>
    intro d;obtain⟨q,c⟩:=p;simp only[Qv,Q2] at d;unfold J2n;split
    . simp only[Qv,Q2];refine⟨fun f=>?_,i d.2⟩;obtain⟨⟨k,b⟩,h,e⟩:=Qi.1 f;simp only at e;subst e;exact d.1 (Qi.2 ⟨_,(J07.1 h).1,rfl⟩)
    . exact i d.2
 exact this own g.own.nodup
theorem J6x {M:Nat->Prop} {w:World} {σ:Sg} {own:Own} {ks:List Nat} (d:J0T M w σ own ks) (a:List Nat) :
 J0T (J55 M w σ (J2n a own)) w σ (J2J a own) ks/\∀b,¬ J0x w σ own b->(J55 M w σ (J2n a own) b↔M b):=by
 have r:=J5M M w σ (J2n a own);refine⟨⟨⟨fun k b p=>?_,J29 d.own.nodup,fun k b f j n i g=>d.own.apart k b f j n (J0H.1 i).1 (J0H.1 g).1⟩,d.fresh,d.knodup⟩,fun b q=>⟨fun h=>h.1,fun h=>⟨h,?_⟩⟩⟩
 . obtain⟨c,m⟩:=J0H.1 p;refine(d.own.blk k b c).mono r (Sg.le_refl _) fun n o=>⟨⟨(J0p d.own ⟨k,b,c,o⟩).1,?_⟩,rfl⟩;rintro⟨f,j,i,g⟩;obtain⟨t,s⟩:=J07.1 i;have l:k≠f:=fun e=>m (e▸s);exact d.own.apart k b f j n c t l o g
 . rintro⟨f,j,i,g⟩;exact q ⟨f,j,(J07.1 i).1,g⟩
def V.key1:V->List Nat
 | .vec k _ _ _=>[k]
 | _=>[]
def Q6F:List V->List Nat
 | []=>[]
 | v::r=>v.key1++Q6F r
def J6w (own:Own) (v:V):List Nat :=
 match v with
 | .vec k _ _ _=>match look own k with
   | some (.cells cs)=>k::Q6F cs
   | _=>[k]
 | .agg cs=>Q6F cs
 | _=>[]
def X7p (own:Own) (v:V) (K:V->Own->Prop):Prop:=bor (J2n (J6w own v) own) v fun a=>K a (J2J (J6w own v) own)
theorem J6v {own:Own} {v:V} {K:V->Own->Prop} (h:X7p own v K):∃a own',K a own'/\(∀k,k∈own'.map (·.1)->k∈own.map (·.1)) /\
 ∀M w σ ks u,J0T M w σ own ks->Den M w σ v u->∃d,J0T d w σ own' ks/\Tr M w σ own d w σ own'/\Den d w σ a u/\Ext M w d w:=by
 obtain⟨a,l,j⟩:=J8O h;refine⟨a,_,l,fun k hk=>?_,fun M w σ ks u g hd=>?_⟩
 . obtain⟨⟨q,c⟩,f,e⟩:=Qi.1 hk;exact Qi.2 ⟨_,(J0H.1 f).1,e⟩
 . obtain⟨f1,f2⟩:=J6x g (J6w own v);refine⟨_,f1,⟨⟨rfl,.refl _,rfl,Qd _,fun _ _ _=>rfl,fun b _ i=>f2 b i⟩,fun b ⟨k,c,f,e⟩=>.inl ⟨k,c,(J0H.1 f).1,e⟩,Sg.le_refl _⟩,?_,J5M _ _ _ _⟩;exact(j M w σ u (J7n g _) hd).mono ⟨fun _ _ h=>⟨h,rfl⟩,Qd _⟩ (Sg.none_le σ)
def J8W (own:Own) (ks:List Nat) (s bytes:Nat) (x y:V) (K:V->Own->List Nat->Prop):Prop :=
 match y with
 | .vec k a b len=>match look own k with
   | some (.cells _)=>X7p own (.vec k a b len) fun c own'=>X39 own' ks s bytes x c K
   | _=>X39 own ks s bytes x (.vec k a b len) K
 | y=>X39 own ks s bytes x y K
theorem Q27 {own:Own} {ks:List Nat} {s bytes:Nat} {x y:V} {K:V->Own->List Nat->Prop} (h:J8W own ks s bytes x y K) :
 ∃f own',X39 own' ks s bytes x f K/\(∀k,k∈own'.map (·.1)->k∈own.map (·.1))/\∀M w σ u,J0T M w σ own ks->Den M w σ y u->∃d,J0T d w σ own' ks/\Tr M w σ own d w σ own'/\Den d w σ f u/\Ext M w d w:=by
 have e:∀{z:V},X39 own ks s bytes x z K->∃f own',X39 own' ks s bytes x f K/\(∀k,k∈own'.map (·.1)->k∈own.map (·.1))/\∀M w σ u,J0T M w σ own ks->Den M w σ z u->∃d,J0T d w σ own' ks/\Tr M w σ own d w σ own'/\Den d w σ f u/\Ext M w d w :=
  fun {z} h=>⟨z,own,h,fun _ h=>h,fun M w σ u g hd=>⟨M,g,Tr.refl _ _ _ _,hd,⟨fun _ _ h=>⟨h,rfl⟩,Qd _⟩⟩⟩
 unfold J8W at h;split at h
 . split at h
   . obtain⟨f,own',a,b,c⟩:=J6v h;exact⟨f,own',a,b,fun M w σ u=>c M w σ ks u⟩
   . exact e h
 . exact e h
def V.keyed:V->Bool
 | .vec _ _ _ _=>true
 | .agg cs=>match Q6F cs with|[]=>false|_::_=>true
 | _=>false
def J4k (own:Own) (sz:Nat) (p v:V) (K:Own->Prop):Prop :=
 match p with
 | .oel k s i j=>match look own k with
   | some (.vec _ _ _)=>match v.keyed with
     | true=>X7p own v fun a own'=>J3E own' sz (.oel k s i j) a K
     | false=>J3E own sz (.oel k s i j) v K
   | _=>J3E own sz (.oel k s i j) v K
 | p=>J3E own sz p v K
theorem J95 {own:Own} {sz:Nat} {p v:V} {K:Own->Prop} (h:J4k own sz p v K) :
 ∃c own',J3E own' sz p c K/\(∀k,k∈own'.map (·.1)->k∈own.map (·.1))/\∀M w σ ks u,J0T M w σ own ks->Den M w σ v u->∃b,J0T b w σ own' ks/\Tr M w σ own b w σ own'/\Den b w σ c u/\Ext M w b w:=by
 have a:J3E own sz p v K->∃c own',J3E own' sz p c K/\(∀k,k∈own'.map (·.1)->k∈own.map (·.1))/\∀M w σ ks u,J0T M w σ own ks->Den M w σ v u->∃b,J0T b w σ own' ks/\Tr M w σ own b w σ own'/\Den b w σ c u/\Ext M w b w :=
  fun h=>⟨v,own,h,fun _ h=>h,fun M w σ ks u d hd=>⟨M,d,Tr.refl _ _ _ _,hd,⟨fun _ _ h=>⟨h,rfl⟩,Qd _⟩⟩⟩
 unfold J4k at h;split at h
 . split at h
   . split at h
     . exact J6v h
     . exact a h
   . exact a h
 . exact a h
theorem Q9V (l:List Value):∀(k:Nat) (cells:Array Value) (off:Nat),off+k+l.length<=cells.size ->
 (l.zipIdx k).foldl (fun cs (p:Value×Nat)=>cs.setIfInBounds (off+p.2) p.1) cells=(cells.toList.take (off+k)++l++cells.toList.drop (off+k+l.length)).toArray:=by
 induction l with
 | nil =>
   intro k cells off h;apply Zf;simp
 | cons x l d =>
   intro k cells off h;simp only[List.length_cons] at h;rw[List.zipIdx_cons,Yf,d (k+1) _ off (by simp;omega)];apply Zf;simp only[Array.toList_setIfInBounds];have a:off+k<cells.toList.length:=by simp;omega
   apply List.ext_getElem?;intro i;have f:=J0I (cells.toList.set (off+k) x) l (off+(k+1)) (by simp;omega) i;have g2:=J0I cells.toList (x::l) (off+k) (by simp;omega) i;rw[f,g2];simp only[List.length_cons,Jr];by_cases c:i<off+k
   . rw[Qe (by omega),Qe c,Qb (by omega)]
   . by_cases e:i=off+k
     . subst e;rw[Qe (by omega),Qe rfl,Qe a,Qb (by omega),Qe (by omega)];simp
     . rw[Qb (by omega),Qb c];by_cases b:i<off+(k+1)+l.length
       . rw[Qe b,Qe (by omega)];rw[show i-(off+k)=(i-(off+(k+1)))+1 by omega];simp
       . rw[Qb b,Qb (by omega),Qb (by omega)]
theorem Q2s {place:Nat->Option (Nat×Nat)} {cells:Array Value} {i off size:Nat} {v:Value} {rest:List (Nat×Value)} (hp:place i=some (off,size)) (a:v.cells.size=size) (b:off+size<=cells.size) :
 Instr.fill place cells ((i,v)::rest)=Instr.fill place (cells.toList.take off++v.cells.toList++cells.toList.drop (off+size)).toArray rest:=by
 have d:=Q9V v.cells.toList 0 cells off (by simp;omega);simp only[Xx,Zn,a] at d;have he:v.cells.zipIdx.foldl (fun cs (p:Value×Nat)=>cs.setIfInBounds (off+p.2) p.1) cells=(cells.toList.take off++v.cells.toList++cells.toList.drop (off+size)).toArray:=by
  rw[<- d,<- Array.foldl_toList];simp
 have e:(decide (v.cells.size≠size) || decide (off+v.cells.size > cells.size))=false:=by simp[a];omega
 simp only[Instr.fill,hp,e,Xf,Xy];exact X6 (fun c=>Instr.fill place c rest) he
def Q3Q (env:Env):List (Nat×Nat×X)->List V->(List V->Prop)->Prop
 | [],a,K=>K a
 | (off,size,x)::r,a,K=>x.get env fun v=>v.cellsK fun b=>match Nat.beq b.length size,Nat.ble (off+size) a.length,J3a V.cellB b with
   | true,true,true=>X8C a off b fun a=>Q3Q env r a K
   | _,_,_=>False
def J9V (place:Nat->Option (Nat×Nat)):List (Nat×Operand)->Option (List (Nat×Nat×X))
 | []=>some []
 | (i,o)::r=>match place i,cX o,J9V place r with
   | some (off,size),some x,some l=>some ((off,size,x)::l)
   | _,_,_=>none
theorem J8u (env:Env) (place:Nat->Option (Nat×Nat)):∀(q:List (Nat×Operand)) (l:List (Nat×Nat×X)) (e:List V) (K:List V->Prop),J9V place q=some l->Q3Q env l e K ->
 ∃r,K r/\r.length=e.length/\((∀z∈e,z.cellB=true)->∀z∈r,z.cellB=true) /\
 ∀M w σ (a:Act) (us:List Value),(∀x,x∈l.map (·.2.2)->XOk M w σ env a x)->e.length=us.length->(∀(i:Nat) (v:V) (u:Value),e[i]?=some v->us[i]?=some u->Den M w σ v u) ->
  ∃d:List Value,Instr.fill place us.toArray (q.map fun p=>(p.1,a.eval p.2))=some d.toArray/\d.length=us.length /\
   (∀(i:Nat) (v:V) (u:Value),r[i]?=some v->d[i]?=some u->Den M w σ v u)
 | [],l,e,K,k,h=>by
   simp[J9V] at k;subst k;exact⟨e,h,rfl,fun h=>h,fun M w σ a us _ S hd=>⟨us,rfl,rfl,hd⟩⟩
 | (i,o)::q,l,e,K,k,h=>by
   unfold J9V at k;split at k<;>simp only[Qf,reduceCtorEq] at k;rename_i off size x P Y W U;subst k;obtain⟨v,h,R⟩:=J0f W h;obtain⟨J,h,B⟩:=J1Y h;split at h
   . rename_i D e2 Z;have D:=Qc D;have e2:=Qq e2;obtain⟨s,h,s1,s2,G⟩:=J4M _ _ _ _ h;obtain⟨r,T,r1,N,L⟩:=J8u env place q P s K U h;refine⟨r,T,by omega,?_,?_⟩
     . intro hz;apply N;intro z m;rw[G] at m;rcases Qr.1 m with g|g
       . rcases Qr.1 g with g|g
         . exact hz z (Ys g)
         . exact J0v Z z g
       . exact hz z (Vv g)
     . intro M w σ a us H S hd;obtain⟨l1,O⟩:=B M w σ _ (R M w σ a (H x (by simp)));have n:(a.eval o).cells.size=size:=by omega
       have f:(a.eval o).cells.toList.length=size:=by simpa using n
       have C:=J02 us (a.eval o).cells.toList off (by omega);rw[f] at C;obtain⟨d,f1,f2,f3⟩:=L M w σ a (us.take off++(a.eval o).cells.toList++us.drop (off+size)) (fun y Q=>H y (by simp only[Qv,Qj];exact .inr Q)) (by omega) (by
        intro j t A c b;have I:=J0I us (a.eval o).cells.toList off (by omega) j;rw[f] at I;have g2:=J0I e J off (by omega) j;rw[<- G,D] at g2;rw[I] at b;rw[g2] at c;split at c
        . rename_i F;rw[Qe F] at b;exact hd j t A c b
        . rename_i F;rw[Qb F] at b;split at c
          . rename_i E;rw[Qe E] at b;exact O _ t A c (by simpa using b)
          . rename_i E;rw[Qb E] at b;exact hd j t A c b)
       refine⟨d,?_,by omega,f3⟩;rw[Qv,Q2s Y n (by simp;omega)];exact f1
   . exact h.elim
def flatK (s:Nat):List V->(List V->Prop)->Prop
 | [],K=>K []
 | v::r,K=>v.cellsK fun a=>match Nat.beq a.length s,J3a V.cellB a with
   | true,true=>flatK s r fun cs=>K (a++cs)
   | _,_=>False
theorem J8r (s:Nat):∀(l:List V) (K:List V->Prop),flatK s l K->∃cs,K cs/\cs.length=l.length*s /\
 ∀M w σ (us:List Value),l.length=us.length->(∀(i:Nat) (v:V) (u:Value),l[i]?=some v->us[i]?=some u->Den M w σ v u) ->
  (∀u∈us,u.cells.size=s)/\∀i u,us[i]?=some u->∀j,j<s->∃x v,u.cells[j]?=some x/\x.oneCell'=true/\cs[i*s+j]?=some v/\Den M w σ v x
 | [],K,h=>⟨[],h,by simp,fun M w σ us o _=>by
    have:us=[]:=Xg (by simpa using o.symm);subst this;simp⟩
 | v::r,K,h=>by
   obtain⟨k,p,n⟩:=J1Y h;clear h;split at p
   . rename_i g e2;have g:=Qc g;obtain⟨cs,B,o,z⟩:=J8r s r _ p;refine⟨_,B,by simp[o,g,Xc,Z8],fun M w σ us c hd=>?_⟩;cases us with
     | nil=>simp at c
     | cons u us =>
       obtain⟨H,C⟩:=n M w σ u (hd 0 v u (by simp) (by simp));obtain⟨d1,d2⟩:=z M w σ us (by simpa using c) (fun i v u q t=>hd (i+1) v u (by simpa using q) (by simpa using t));refine⟨fun m a=>?_,fun i m a j A=>?_⟩
       . rcases Qj.1 a with e|e
         . subst e;omega
         . exact d1 m e
       . cases i with
         | zero =>
           simp at a;subst a;have b:j<k.length:=by omega
           have d:j<u.cells.size:=by omega
           have f:=C j k[j] u.cells[j] (by simp[b]) (by simp[d]);refine⟨u.cells[j],k[j],by simp[d],f.oneCell (J0v e2 _ (Xd b)),?_,f⟩;rw[Q3 (by omega)];simp[b]
         | succ i =>
           obtain⟨x,y,G,F,E,D⟩:=d2 i m (by simpa using a) j A;refine⟨x,y,G,F,?_,D⟩;rw[Xt (by rw[g,Xc];omega)];rw[show(i+1)*s+j-k.length=i*s+j by rw[g,Xc];omega];exact E
   . exact p.elim
def Q6b (s:Nat):List V->(List (List V)->Prop)->Prop
 | [],K=>K []
 | v::r,K=>v.cellsK fun a=>match Nat.beq a.length s,J3a V.cellB a,J3a V.kf1 a with
   | true,true,true=>Q6b s r fun rs=>K (a::rs)
   | _,_,_=>False
theorem J7U (s:Nat):∀(l:List V) (K:List (List V)->Prop),Q6b s l K->∃rs,K rs/\rs.length=l.length /\
 ∀M w σ (us:List Value),l.length=us.length->(∀(i:Nat) (v:V) (u:Value),l[i]?=some v->us[i]?=some u->Den M w σ v u) ->
  (∀u∈us,u.cells.size=s)/\∀i u,us[i]?=some u->∀j,j<s->∃x,u.cells[j]?=some x/\x.oneCell'=true/\Den M w Sg.none (tab rs i j) x
 | [],K,h=>⟨[],h,rfl,fun M w σ us n _=>by
    have:us=[]:=Xg (by simpa using n.symm);subst this;simp⟩
 | v::l,K,h=>by
   obtain⟨g,h,m⟩:=J1Y h;split at h
   . rename_i o e2 F;have o:=Qc o;obtain⟨rs,C,n,A⟩:=J7U s l _ h;refine⟨g::rs,C,by simp[n],?_⟩;intro M w σ us b hd;cases us with
     | nil=>simp at b
     | cons u us =>
       obtain⟨G,y⟩:=m M w σ u (hd 0 v u (by simp) (by simp));obtain⟨q1,q2⟩:=A M w σ us (by simpa using b) (fun i t k E D=>hd (i+1) t k (by simpa using E) (by simpa using D));refine⟨?_,?_⟩
       . intro x z;rcases Qj.1 z with e|e
         . subst e;omega
         . exact q1 x e
       . intro i k c j B;cases i with
         | zero =>
           simp at c;subst c;have a:j<g.length:=by omega
           have d:j<u.cells.size:=by omega
           have f:=y j g[j] u.cells[j] (by simp[a]) (by simp[d]);refine⟨u.cells[j],by simp[d],f.oneCell (J0v e2 _ (Xd a)),?_⟩;have:=f.kf1 (J0v F _ (Xd a)) Sg.none;simpa[tab,List.getD,a] using this
         | succ i =>
           obtain⟨x,r,q,p⟩:=q2 i k (by simpa using c) j B;exact⟨x,r,q,by simpa[tab] using p⟩
   . exact h.elim
def J11 {α:Type}:Nat->List (Nat×α)->Bool
 | _,[]=>true
 | i,(k,_)::r=>match Nat.beq k i with|true=>J11 (i+1) r|false=>false
theorem J8t (s:Nat):∀(c:List (Nat×Value)) (i:Nat) (cells:Array Value),J11 i c=true->(∀p∈c,p.2.cells.size=s)->(i+c.length)*s<=cells.size ->
 ∃a,Instr.fill (fun i=>some (i*s,s)) cells c=some a/\a.size=cells.size/\(∀q,q<i*s->a[q]?=cells[q]?) /\
  ∀r p,c[r]?=some p->∀j,j<s->a[(i+r)*s+j]?=p.2.cells[j]?
 | [],i,cells,_,_,_=>⟨cells,rfl,rfl,fun _ _=>rfl,by simp⟩
 | (k,v)::c,i,cells,h,l,b=>by
   unfold J11 at h;split at h
   . rename_i hk;have hk:=Qc hk;subst hk;have f:v.cells.size=s:=l (k,v) (by simp);have t:k*s+s<=cells.size:=by
      have:(k+1)*s<=(k+(c.length+1))*s:=Q5 _ (by omega);rw[Zv] at this;simp only[List.length_cons] at b;omega
     have d:v.cells.toList.length=s:=by simpa using f
     have e:=J02 cells.toList v.cells.toList (k*s) (by simp;omega);rw[d] at e;obtain⟨o,f1,f2,f3,f4⟩:=J8t s c (k+1) (cells.toList.take (k*s)++v.cells.toList++cells.toList.drop (k*s+s)).toArray h (fun p hp=>l p (by simp[hp]))
      (by simp only[Zg,e,Zn];simp only[List.length_cons] at b;rw[show k+1+c.length=k+(c.length+1) by omega];exact b)
     have g:=J0I cells.toList v.cells.toList (k*s) (by simp;omega);rw[d] at g;refine⟨o,?_,by rw[f2];simp only[Zg,e,Zn],?_,?_⟩
     . rw[Q2s (place:=fun i=>some (i*s,s)) rfl f (by omega)];exact f1
     . intro q m;rw[f3 q (by rw[Zv];omega),Za,g q,Qe m];simp
     . intro r p hp j n;cases r with
       | zero =>
         simp at hp;subst hp;rw[Xx,f3 _ (by rw[Zv];omega),Za,g,Qb (by omega),Qe (by omega),show k*s+j-k*s=j by omega];simp
       | succ r =>
         have:=f4 r p (by simpa using hp) j n;rw[show k+(r+1)=k+1+r by omega];exact this
   . cases h
open Go.MapKept (bytes_beq)
inductive XOp where
 | mks (s bytes:Nat) (zs:List V) (x:X)
 | mkmap (ik:MKd)
 | mget (ik:MKd) (z:V) (comma:Bool) (m x:X)
 | mput (ik:MKd) (m x y:X)
 | mrng (x:X)
 | mnxt (x:X)
 | ment (x:X)
 | gix (g n s:Nat) (x:X)
 | asl (n s:Nat) (x:X) (hi:Option X)
 | cpy (s:Nat) (x y:X)
 | mln (x:X)
def XOp.xs:XOp->List X
 | .mks _ _ _ x | .mrng x | .mnxt x | .ment x | .mln x | .gix _ _ _ x=>[x]
 | .mkmap _=>[]
 | .mget _ _ _ m x=>[m,x]
 | .mput _ m x y=>[m,x,y]
 | .asl _ _ x a=>x::Xo a
 | .cpy _ x y=>[x,y]
def J00 {α:Type} [DecidableEq α]:List (α×V)->α->Option V
 | [],_=>none
 | (q,v)::r,p=>if q=p then some v else J00 r p
def mput {α:Type} [DecidableEq α]:List (α×V)->α->V->List (α×V)
 | [],p,v=>[(p,v)]
 | (q,u)::r,p,v=>if q=p then (q,v)::r else (q,u)::mput r p v
def stK:(l:List IntKind)->List V->(KyS l->Prop)->Prop
 | [],[],K=>K ()
 | k::l,.int b a::r,K=>match decide (b=k) with
   | true=>stK l r fun p=>K (a,p)
   | false=>False
 | _,_,_=>False
def stV:(l:List IntKind)->KyS l->List V
 | [],_=>[]
 | k::r,p=>.int k p.1::stV r p.2
def J73 (ik:MKd) (v:V) (K:KyT ik->Prop):Prop :=
 match ik with
 | .pair ik=>match v with
   | .agg [.int k a,.int d b]=>match decide (k=ik),decide (d=ik) with
     | true,true=>K (a,b)
     | _,_=>False
   | _=>False
 | .one ik=>match v with
   | .int k a=>match decide (k=ik) with
     | true=>K a
     | false=>False
   | _=>False
 | .str=>match v with
   | .str s=>K s
   | _=>False
 | .st l=>match v with
   | .agg c=>stK l c K
   | _=>False
def Y4j:(ik:MKd)->KyT ik->V
 | .pair k,p=>.agg [.int k p.1,.int k p.2]
 | .one k,p=>.int k p
 | .str,p=>.str p
 | .st l,p=>.agg (stV l p)
structure X37 (o:Option V) (A:V->Prop) (B:Prop):Prop where
 hit:∀v,o=some v->A v
 miss:o=none->B
structure Y1N {α:Type} (n:Nat) (J11:List Nat) (es:List α) (A:Nat->α->Prop) (B:Prop):Prop where
 one:∀i p,i<n->i∉J11->es[i]?=some p->A i p
 over:(∀i,i<n->i∈J11)->B
def X1n (own:Own) (m:V) (K:Nat->(ik:MKd)->List (KyT ik×V)->Prop):Prop :=
 match m with
 | .map k=>match look own k with
   | some (.map ik a)=>K k ik a
   | _=>False
 | _=>False
def X2K (own:Own) (m:V) (K:Nat->Nat->Nat->List Nat->(ik:MKd)->List (KyT ik×V)->Prop):Prop :=
 match m with
 | .loc k 0=>match look own k with
   | some (.iter a n J11)=>match look own a with
     | some (.map ik b)=>Chk (Nat.beq b.length n) (K k a n J11 ik b)
     | _=>False
   | _=>False
 | _=>False
def X68 (l:List Nat) (K:Nat->Prop):Prop:=∃i,l.getLast?=some i/\K i
def Y01 (own:Own) (g:Nat) (K:Nat->(Nat->Nat->V)->Prop):Prop :=
 match look own 999 with
 | some (.glob a m f)=>match Nat.beq g a with
   | true=>K m f
   | false=>False
 | _=>False
inductive MkS (A B:Prop):Prop where
 | vec (h:A):MkS A B
 | cells (h:B):MkS A B
def Y1W (s m:Nat) (a:List V) (own:Own) (k:Nat) (ks:List Nat) (K:V->Own->List Nat->Prop):Prop :=
 match s with
 | 1=>MkS (K (.vec k 1 0 m) ((k,.vec m 1 (fun _ j=>a.getD j default))::own) ks) (K (.vec k 1 0 m) ((k,.cells (List.replicate m (a.getD 0 default)))::own) ks)
 | s=>K (.vec k s 0 m) ((k,.vec m s (fun _ j=>a.getD j default))::own) ks
theorem Q4T {s m:Nat} {a:List V} {own:Own} {k:Nat} {ks:List Nat} {K:V->Own->List Nat->Prop} (h:Y1W s m a own k ks K) :
 K (.vec k s 0 m) ((k,.vec m s (fun _ j=>a.getD j default))::own) ks\/(s=1/\K (.vec k 1 0 m) ((k,.cells (List.replicate m (a.getD 0 default)))::own) ks):=by
 unfold Y1W at h;split at h
 . cases h with
   | vec h=>exact .inl h
   | cells h=>exact .inr ⟨rfl,h⟩
 . exact .inl h
def vcpy (own:Own) (s:Nat) (a b:V) (K:Nat->Own->Prop):Prop :=
 X1v own s b fun m g=>match a with
  | .vec k e d len=>match look own k with
    | some (.vec n c f)=>match Nat.beq s e,Nat.beq s c with
      | true,true=>Len m len (Len (d+m) n (Q2S k (.vec n s (Q2V f d m g)) own (K m)))
      | _,_=>False
    | _=>False
  | _=>False
def Q7h (o:XOp) (env:Env) (own:Own) (ks:List Nat) (K:V->Own->List Nat->Prop):Prop :=
 match o with
 | .mks s bytes r x=>x.get env fun v=>match v with
   | .int _ n=>Bd n 4611686018427387904 fun m=>Len (m*bytes) 140737488355328 (fresh ks fun k ks=>Y1W s m r own k ks K)
   | _=>False
 | .mkmap ik=>fresh ks fun k ks=>K (.map k) ((k,.map ik [])::own) ks
 | .mget ik z e m x=>m.get env fun m=>x.get env fun x=>X1n own m fun _ c d=>match decide (c=ik) with
   | true=>J73 c x fun p=>X37 (J00 d p) (fun v=>match e with|true=>K (.tup [v,.bool true]) own ks|false=>K v own ks) (match e with|true=>K (.tup [z,.bool false]) own ks|false=>K z own ks)
   | false=>False
 | .mput ik m x y=>m.get env fun m=>x.get env fun x=>y.get env fun y=>X1n own m fun k c d=>match decide (c=ik),y.kf2 with
   | true,true=>J73 c x fun p=>Q2S k (.map c (mput d p y)) own fun own=>K (.raw (.tuple #[])) own ks
   | _,_=>False
 | .mrng x=>x.get env fun m=>X1n own m fun q _ d=>fresh ks fun k ks=>K (.loc k 0) ((k,.iter q d.length [])::own) ks
 | .mnxt x=>x.get env fun m=>X2K own m fun k q n J11 ik d =>
    Y1N n J11 d (fun i p=>Q2S k (.iter q n (J11++[i])) own fun own=>K (.tup [.bool true,Y4j ik p.1,p.2]) own ks) (K (.tup [.bool false]) own ks)
 | .ment x=>x.get env fun m=>X2K own m fun _ _ _ J11 ik d=>X68 J11 fun i=>∃p,d[i]?=some p/\K (.tup [Y4j ik p.1,p.2]) own ks
 | .asl n s x w=>x.get env fun p=>match p with
   | .oel k t 0 0=>match look own k with
     | some (.vec u l f)=>match Nat.beq s t,Nat.beq s l,Nat.ble n u with
       | true,true,true=>bdK w env n n fun h=>K (.fz h s false f) (J2J [k] own) ks
       | _,_,_=>False
     | _=>False
   | _=>False
 | .cpy s x y=>x.get env fun a=>y.get env fun b=>vcpy own s a b fun m own=>K (.int .i64 m) own ks
 | .mln x=>x.get env fun m=>X1n own m fun _ _ d=>K (.int .i64 d.length) own ks
 | .gix g n s x=>x.get env fun v=>match v with
   | .int _ i=>Y01 own g fun m f=>match Nat.beq s 1,Nat.beq n m with
     | true,true=>Ix i n fun j=>K (.fe m 1 f j 0) own ks
     | _,_=>False
   | _=>False
def X4g (P:Program):Nat->List Field->Option (List IntKind)
 | _,[]=>some []
 | i,f::r=>match Nat.beq f.offset i,f.name == "_",P.underlying f.type,X4g P (i+1) r with
   | true,false,some (.int k),some l=>some (k::l)
   | _,_,_,_=>none
def X8J (P:Program) (t:TypeId):Option (MKd×TypeId×TypeId×TypeId) :=
 match P.underlying t with
 | some (.map kt et)=>match P.underlying kt with
   | some (.array 2 e)=>match P.underlying e,J3s P e with
     | some (.int k),some 1=>some (.pair k,kt,et,e)
     | _,_=>none
   | some (.int k)=>some (.one k,kt,et,kt)
   | some .string=>some (.str,kt,et,kt)
   | some (.struct a)=>match P.stoodInHeld kt,X4g P 0 a.toList with
     | false,some l=>some (.st l,kt,et,kt)
     | _,_=>none
   | _=>none
 | _=>none
def X8T (P:Program) (t:TypeId):Option V:=match P.info? t with
 | some i=>match i.zero with
   | some z=>J77 z
   | none=>none
 | none=>none
def X3J (P:Program) (op:Op):Option XOp :=
 match op with
 | .makeSlice t l c=>match P.underlying t with
   | some (.slice e)=>match J3s P e,(P.info? e).map (·.bytes),J1S P e,cX l,Q1z (some l) (some c) with
     | some s,some b,some d,some x,true=>match Nat.beq d.length s,J3a V.kf1 d with
       | true,true=>some (.mks s b d x)
       | _,_=>none
     | _,_,_,_,_=>none
   | _=>none
 | .makeMap t none=>(X8J P t).map fun p=>.mkmap p.1
 | .lookup t m x a=>match X8J P t,cX m,cX x with
   | some (ik,_,et,_),some m,some x=>(X8T P et).map fun z=>.mget ik z a m x
   | _,_,_=>none
 | .mapUpdate t m x y=>match X8J P t,cX m,cX x,cX y with
   | some (ik,_,_,_),some m,some x,some y=>some (.mput ik m x y)
   | _,_,_,_=>none
 | .range t x=>match X8J P t with
   | some _=>(cX x).map .mrng
   | none=>none
 | .next x false=>(cX x).map .mnxt
 | .entry x=>(cX x).map .ment
 | .indexAddr t (.global g) i=>match P.underlying t,cX i with
   | some (.array n e),some i=>(J3s P e).map fun s=>.gix g n s i
   | _,_=>none
 | .slice t x none f none=>match P.underlying t with
   | some (.array n e)=>match J3s P e,cX x,cXo f with
     | some s,some x,some f=>some (.asl n s x f)
     | _,_,_=>none
   | _=>none
 | .call { callee:=.builtin .copy,args,argTypes }=>match args.toList,argTypes.toList with
   | [x,y],[t,_]=>match P.underlying t with
     | some (.slice e)=>match J3s P e,cX x,cX y with
       | some s,some x,some y=>some (.cpy s x y)
       | _,_,_=>none
     | _=>none
   | _,_=>none
 | .call { callee:=.builtin .len,args,argTypes }=>match args.toList,argTypes.toList with
   | [x],[t]=>match P.underlying t with
     | some (.map _ _)=>(cX x).map .mln
     | _=>none
   | _,_=>none
 | _=>none
section
variable {P:Program} {t kt et e:TypeId} {ik:MKd}
def X1f (P:Program) (ik:MKd) (kt e:TypeId):Prop :=
 match ik with
 | .pair k=>P.underlying kt=some (.array 2 e)/\P.underlying e=some (.int k)/\J3s P e=some 1
 | .one k=>P.underlying kt=some (.int k)
 | .str=>P.underlying kt=some .string
 | .st l=>P.underlying kt=some (.struct (P.fieldsOf kt))/\P.stoodInHeld kt=false/\X4g P 0 (P.fieldsOf kt).toList=some l
theorem J8k (h:X8J P t=some (ik,kt,et,e)):P.underlying t=some (.map kt et)/\X1f P ik kt e:=by
 unfold X8J at h;split at h
 . rename_i f i b;split at h
   . rename_i j a;split at h
     . rename_i k d c;cases h;exact⟨b,a,d,c⟩
     . cases h
   . rename_i k a;cases h;exact⟨b,a⟩
   . rename_i a;cases h;exact⟨b,a⟩
   . rename_i g a;split at h
     . rename_i l d c;cases h;have e:P.fieldsOf kt=g:=by simp only[Program.fieldsOf,a]
       exact⟨b,by rw[e];exact a,d,by rw[e];exact c⟩
     . cases h
   . cases h
 . cases h
theorem J9m {k:IntKind} (he:P.underlying e=some (.int k)) (w:World):(isAgg e).run P w=.ok false w:=J20 (show J1W P e=some false by simp[J1W,he]) w
theorem J7T (b:Bool) (w:World):∀(e:List Field) (i:Nat) (l:List IntKind) (p:KyS l) (pre:List Value),X4g P i e=some l->pre.length=i ->
 (forIn e PUnit.unit (fun f (_:PUnit)=>(if f.name≠ "_" then (do let v <- part f.type (pre++stP l p).toArray f.offset;Instr.checkKey b 9999 f.type v;pure (ForInStep.yield PUnit.unit)) else pure (ForInStep.yield PUnit.unit):Sem (ForInStep PUnit)))).run P w=.ok PUnit.unit w
 | [],i,l,p,pre,h,hp=>by simp[go_sem]
 | f::e,i,l,p,pre,h,hp=>by
   unfold X4g at h;split at h
   case h_2=>cases h
   rename_i k m s r j q;cases h;have d:=Qc s;have c:f.name≠ "_":=by simpa using r
   have o:=J20 (show J1W P f.type=some false by simp[J1W,j]) w;have a:(part f.type (pre++stP (k::m) p).toArray f.offset).run P w=.ok (.int k p.1) w:=J03 (by simp[J1W,j]) (by simp[stP,d,<- hp]) w;have g:(Instr.checkKey b 9999 f.type (.int k p.1)).run P w=.ok () w:=by
    rw[show(9999:Nat)=9998+1 from rfl,Instr.checkKey];simp[Sem.run_bind,run_underlying j,go_sem]
   have n:=J7T b w e (i+1) m p.2 (pre++[.int k p.1]) q (by simp[hp]);simp only[Q9,Vl] at n;simp only[Ji,Sem.run_bind,c,ne_eq,Kc,Zl,a,g,Result.andThen_ok,Sem.run_pure];exact n
theorem Q4x (w:World):∀(m:List Field) (i:Nat) (l:List IntKind) (p q:KyS l) (pre b:List Value),X4g P i m=some l->pre.length=i->b.length=i ->
 (Op.eqFields 9999 (pre++stP l p).toArray (b++stP l q).toArray m).run P w=.ok (@decide (q=p) (KyS.dec l q p)) w
 | [],i,l,p,q,pre,b,h,hp,n=>by
   simp only[X4g,Qf] at h;subst h;simp only[Op.eqFields,Sem.run_pure];rw[@Qn _ (KyS.dec [] q p) rfl]
 | f::m,i,l,p,q,pre,b,h,hp,n=>by
   unfold X4g at h;split at h
   case h_2=>cases h
   rename_i k j y x o v;cases h;have d:=Qc y;have g:f.name≠ "_":=by simpa using x
   have u:(part f.type (pre++stP (k::j) p).toArray f.offset).run P w=.ok (.int k p.1) w:=J03 (by simp[J1W,o]) (by simp[stP,d,<- hp]) w;have t:(part f.type (b++stP (k::j) q).toArray f.offset).run P w=.ok (.int k q.1) w:=J03 (by simp[J1W,o]) (by simp[stP,d,<- n]) w;have s:(Op.equalIn 9999 f.type (.int k p.1) (.int k q.1)).run P w=.ok (p.1 == q.1) w:=run_equalIn_int w 9998 f.type _ _ _ _ o;have r:=Q4x w m (i+1) j p.2 q.2 (pre++[.int k p.1]) (b++[.int k q.1]) v (by simp[hp]) (by simp[n]);simp only[Q9,Vl] at r;simp only[Op.eqFields,g,ne_eq,Kc,Zl,Sem.run_bind,u,t,s,Result.andThen_ok];obtain⟨a,p⟩:=p;obtain⟨c,q⟩:=q;by_cases e:a=c
   . subst e;simp only[beq_self_eq_true,Vb,Xf,Xy];refine r.trans ?_;congr 1;rw[Zc];simp only[Qa];exact⟨fun h=>by rw[h],fun h=>(Prod.mk.inj h).2⟩
   . have z:(a == c)=false:=by simpa using e
     simp only[z,Bool.not_false,Zl,Sem.run_pure];congr 1;symm;exact @Qm _ (KyS.dec (k::j) (c,q) (a,p)) (fun h=>e (Prod.mk.inj h).1.symm)
theorem J2P (hk:X1f P ik kt e) (b:Bool) (p:KyT ik) (w:World):(Instr.checkKey b 10000 kt (J2M ik p)).run P w=.ok () w:=by
 cases ik with
 | pair k =>
   obtain⟨hk,he,c⟩:=hk;have f:∀(v:Int),(Instr.checkKey b 9999 e (.int k v)).run P w=.ok () w:=by
    intro v;rw[show(9999:Nat)=9998+1 from rfl,Instr.checkKey];simp[Sem.run_bind,run_underlying he,go_sem]
   have a:=J9m he w;rw[Instr.checkKey];simp only[J2M,Sem.run_bind,run_underlying hk,Result.andThen_ok];simp[Sem.run_bind,J1d c,a,f,show List.range' 0 2=[0,1] from rfl,Ji,J4,go_sem]
 | one k =>
   have hk:P.underlying kt=some (.int k):=hk;rw[Instr.checkKey];simp[J2M,Sem.run_bind,run_underlying hk,go_sem]
 | str =>
   have hk:P.underlying kt=some .string:=hk;rw[Instr.checkKey];simp[J2M,Sem.run_bind,run_underlying hk,go_sem]
 | st l =>
   obtain⟨hk,c,d⟩:=hk;rw[Instr.checkKey];simp only[J2M,Sem.run_bind,run_underlying hk,Result.andThen_ok];rw[<- Array.forIn_toList];have:=J7T (P:=P) b w _ 0 l p [] d rfl;simp only[Zb] at this;rw[this];rfl
theorem J9n (hk:X1f P ik kt e) (p q:KyT ik) (w:World):(Op.equal kt (J2M ik p) (J2M ik q)).run P w=.ok (decide (q=p)) w:=by
 cases ik with
 | pair k =>
   obtain⟨hk,he,g⟩:=hk;have i:∀(a b:Int),(Op.equalIn 9999 e (.int k a) (.int k b)).run P w=.ok (a == b) w:=by
    intro a b;rw[show(9999:Nat)=9998+1 from rfl,Op.equalIn];simp[Sem.run_bind,run_underlying he,go_sem]
   have c:=J9m he w;unfold Op.equal Op.maxDepth;rw[Op.equalIn];simp only[J2M,Sem.run_bind,run_underlying hk,Result.andThen_ok];obtain⟨f,d⟩:=p;obtain⟨q1,q2⟩:=q;simp only;have hd:decide ((q1,q2)=(f,d))=((f == q1)&&(d == q2)):=by
    rw[Zc];simp only[Qa,Qu,Qg,Yx];constructor<;>rintro⟨a,b⟩<;>exact⟨a.symm,b.symm⟩
   have h:@decide (((q1,q2):KyT (.pair k))=(f,d)) (instDecidableEqKyT (.pair k) (q1,q2) (f,d))=((f == q1)&&(d == q2)):=hd;rw[h];by_cases j:f=q1
   . by_cases e2:d=q2
     . simp[Sem.run_bind,J1d g,c,i,show List.range' 0 2=[0,1] from rfl,Ji,J4,go_sem,j,e2]
     . simp[Sem.run_bind,J1d g,c,i,show List.range' 0 2=[0,1] from rfl,Ji,J4,go_sem,j,e2]
   . simp[Sem.run_bind,J1d g,c,i,show List.range' 0 2=[0,1] from rfl,Ji,J4,go_sem,j]
 | one k =>
   have hk:P.underlying kt=some (.int k):=hk;unfold Op.equal Op.maxDepth;rw[Op.equalIn];have hd:@decide (q=p) (instDecidableEqKyT (.one k) q p)=((p:Int) == q):=by
    rw[Zc];simp only[Qa,Yx];exact⟨Jw,Jw⟩
   rw[hd];simp[J2M,Sem.run_bind,run_underlying hk,go_sem]
 | str =>
   have hk:P.underlying kt=some .string:=hk;unfold Op.equal Op.maxDepth;rw[Op.equalIn];have hd:∀(p q:ByteArray),@decide (q=p) (instDecidableEqKyT .str q p)=(p == q):=by
    intro p q;rw[Zc,Qa,bytes_beq];exact⟨Jw,Jw⟩
   rw[hd];simp[J2M,Sem.run_bind,run_underlying hk,go_sem]
 | st l =>
   obtain⟨hk,g,m⟩:=hk;unfold Op.equal Op.maxDepth;rw[J2M,J2M,run_equalIn_struct w 9999 kt _ _ hk g];exact Q4x w _ 0 l p q [] [] m rfl rfl
theorem Q5Q.get {M:Nat->Prop} {w:World}:∀{l:List MapEntry} {f:List (KyT ik×V)} {i:Nat},Q5Q M w ik l f i->∀(j:Nat) (x:MapEntry),l[j]?=some x->∃p,f[j]?=some p/\x.key=J2M ik p.1/\x.born=i+j/\Den M w Sg.none p.2 x.val
 | [],[],_,_,j,x,e=>by simp at e
 | y::r,p::q,i,h,j,x,e=>by
   cases j with
   | zero=>simp at e;subst e;exact⟨p,rfl,h.1.1,h.1.2.1,h.1.2.2⟩
   | succ j =>
     obtain⟨g,a,b,c,d⟩:=h.2.get j x (by simpa using e);exact⟨g,by simpa using a,b,by omega,d⟩
 | [],_::_,_,h,_,_,_=>h.elim
 | _::_,[],_,h,_,_,_=>h.elim
theorem Q5Q.length {M:Nat->Prop} {w:World}:∀{l:List MapEntry} {a:List (KyT ik×V)} {i:Nat},Q5Q M w ik l a i->l.length=a.length
 | [],[],_,_=>rfl
 | _::_,_::_,_,h=>by simp[h.2.length]
 | [],_::_,_,h=>h.elim
 | _::_,[],_,h=>h.elim
theorem J8s (hk:X1f P ik kt e) {M:Nat->Prop} {w:World} (p:KyT ik):∀(l:List MapEntry) (g:List (KyT ik×V)) (i:Nat),Q5Q M w ik l g i->∀j,
 (∃n x v,(Instr.findAsking kt (J2M ik p) l j).run P w=.ok (some (j+n,x.val)) w/\l[n]?=some x/\x.key=J2M ik p/\J00 g p=some v/\Den M w Sg.none v x.val /\
     ∀y,(∀b:Value,Den M w Sg.none y b->Q5Q M w ik (l.modify n fun z=>{ z with key:=J2M ik p,val:=b }) (mput g p y) i)) \/
 ((Instr.findAsking kt (J2M ik p) l j).run P w=.ok none w/\J00 g p=none/\∀y,∀b:Value,Den M w Sg.none y b->Q5Q M w ik (l++[{ key:=J2M ik p,val:=b,born:=i+l.length }]) (mput g p y) i)
 | [],[],i,_,j=>.inr ⟨rfl,rfl,fun y b f=>⟨⟨rfl,rfl,f⟩,True.intro⟩⟩
 | x::r,(q,v)::g,i,h,j=>by
   have k:=h.1.1;have d:=J9n hk p q w;by_cases a:q=p
   . subst a;refine .inl ⟨0,x,v,?_,rfl,k,by simp[J00],h.1.2.2,fun y b f=>?_⟩
     . simp only[Instr.findAsking,k,Sem.run_bind,d,Result.andThen_ok,Jd,Zl];rfl
     . simp only[mput,Zl];exact⟨⟨rfl,h.1.2.1,f⟩,h.2⟩
   . have c:(Instr.findAsking kt (J2M ik p) (x::r) j).run P w=(Instr.findAsking kt (J2M ik p) r (j+1)).run P w:=by
      simp only[Instr.findAsking,k,Sem.run_bind,d,Result.andThen_ok,Qm a,Xf,Xy]
     rcases J8s hk p r g (i+1) h.2 (j+1) with ⟨n,t,u,s,o,m,C,B,A⟩ | ⟨s,o,m⟩
     . refine .inl ⟨n+1,t,u,by rw[c,s,show j+1+n=j+(n+1) by omega],by simpa using o,m,by simp[J00,a,C],B,fun y b f=>?_⟩;simp only[mput,Qb a];exact⟨h.1,A y b f⟩
     . refine .inr ⟨by rw[c,s],by simp[J00,a,o],fun y b f=>?_⟩;simp only[mput,Qb a];have:=m y b f;rw[show i+1+r.length=i+(x::r).length by simp;omega] at this;exact⟨h.1,this⟩
 | [],_::_,_,h,_=>h.elim
 | _::_,[],_,h,_=>h.elim
theorem J3n (hk:X1f P ik kt e) (p:KyT ik) (l:List MapEntry) (w:World):(Instr.findKey kt (J2M ik p) l).run P w=(Instr.findAsking kt (J2M ik p) l).run P w:=by
 have key:∀d,P.underlying kt=some d->(∀x:Value,∀b,Instr.sameNow d (J2M ik p) x=some b->∃q:KyT ik,x=J2M ik q/\b=decide (q=p)) ->
  ∀(l:List MapEntry) (j:Nat) (r:Option (Nat×Value)),Instr.findNow d (J2M ik p) l j=some r->(Instr.findAsking kt (J2M ik p) l j).run P w=.ok r w:=by
  intro d hd g l
  induction l with
  | nil=>intro j r h;simp only[Instr.findNow,Qf] at h;subst h;rfl
  | cons x l m =>
    intro j r h;simp only[Instr.findNow] at h;cases f:Instr.sameNow d (J2M ik p) x.key with
    | none=>rw[f] at h;cases h
    | some b =>
      obtain⟨q,i,e2⟩:=g x.key b f;have a:=J9n hk p q w;rw[<- e2] at a;rw[f] at h;cases b with
      | true =>
        simp only[Qf] at h;subst h;simp only[Instr.findAsking,i,Sem.run_bind,a,Result.andThen_ok,Zl];rfl
      | false =>
        simp only at h;simp only[Instr.findAsking,i,Sem.run_bind,a,Result.andThen_ok,Xf,Xy];exact m (j+1) r h
 unfold Instr.findKey;have c:∀d,P.underlying kt=some d->(∀x:Value,∀b,Instr.sameNow d (J2M ik p) x=some b->∃q:KyT ik,x=J2M ik q/\b=decide (q=p))->
  ((do match Instr.findNow (<- underlying kt) (J2M ik p) l 0 with
    | some r=>pure r
    | none=>Instr.findAsking kt (J2M ik p) l:Sem (Option (Nat×Value)))).run P w=(Instr.findAsking kt (J2M ik p) l).run P w:=by
  intro d hd g;simp only[Sem.run_bind,run_underlying hd,Result.andThen_ok];cases n:Instr.findNow d (J2M ik p) l 0 with
  | none=>rfl
  | some r=>rw[key d hd g l 0 r n];rfl
 cases ik with
 | st l=>exact c _ hk.1 (fun x b h=>by cases x<;>simp[Instr.sameNow] at h)
 | pair k=>exact c _ hk.1 (fun x b h=>by cases x<;>simp[Instr.sameNow] at h)
 | one k=>exact c _ hk (fun x b h=>by
    cases x<;>simp[J2M,Instr.sameNow] at h;obtain⟨rfl,rfl⟩:=h;refine⟨_,rfl,?_⟩;rw[Zc,Qa,Yx];exact⟨Jw,Jw⟩)
 | str=>exact c _ hk (fun x b h=>by
    cases x<;>simp[J2M,Instr.sameNow] at h;subst h;refine⟨_,rfl,?_⟩;rw[Zc,Qa,bytes_beq];exact⟨Jw,Jw⟩)
end
end Go.Eng
namespace Go.Eng
theorem Q2h {M:Nat->Prop} {w w':World} {σ:Sg} {own own':Own} {g:Nat} {ks:List Nat} (h:J0T M w σ own (g::ks)) (k:Nat) (b:Blk) (H:(k,b)∈own)
 (f:∀q c,(q,c)∈own'↔(q≠k/\(q,c)∈own)) (L:(own'.map (·.1)).Nodup) (x:Option Nat×Nat×Nat) (F:Blk)
 (os:w'.os=w.os) (A:J0S w' w) (output:w'.output=w.output) (size:w.heap.size<=w'.heap.size)
 (i:∀n,n<w.heap.size->¬ J0n w σ k b n->w'.heap[n]?=w.heap[n]?)
 (D:∀n,J0n w' (σ.set g x) g F n->(w.heap.size<=n/\n<w'.heap.size)\/J0n w σ k b n)
 (X:∀p,(∀n,p n↔(M n/\n<w.heap.size)\/(w.heap.size<=n/\n<w'.heap.size))->Ext M w p w'->J1t p w' (σ.set g x) g F) :
 ∃p,J0T p w' (σ.set g x) ((g,F)::own') ks/\Tr M w σ own p w' (σ.set g x) ((g,F)::own'):=by
 have E:σ g=none:=h.fresh g (by simp);have z:σ.le (σ.set g x):=Sg.le_set x E;have O:∀n,J0n w σ k b n->M n/\n<w.heap.size:=fun n e=>J0p h.own ⟨k,b,H,e⟩;let p:Nat->Prop:=fun n=>(M n/\n<w.heap.size)\/(w.heap.size<=n/\n<w'.heap.size);have U:Ext M w p w':=⟨fun n r T=>⟨by rintro (⟨e,_⟩|e);exact T e;omega,i n r fun e=>T (O n e).1⟩,size⟩;have K:∀q c,(q,c)∈own->q≠g:=fun q c d e=>by
  obtain⟨y,S⟩:=h.own.key d;subst e;rw[E] at S;cases S
 have m:∀q c n,q≠k->(q,c)∈own->J0n w σ q c n->¬ J0n w σ k b n:=fun q c n v d e Q=>h.own.apart _ _ _ _ _ d H v e Q;have j:∀q c n,q≠k->(q,c)∈own->(J0n w' (σ.set g x) q c n↔J0n w σ q c n):=fun q c n v d =>
  J0U z (h.own.key d) fun R C=>i R (J0p h.own ⟨q,c,d,.inl C⟩).2 (m q c R v d (.inl C))
 refine⟨p,⟨⟨?_,?_,?_⟩,?_,(Q2.1 h.knodup).2⟩,⟨⟨os,A,output,size,?_,?_⟩,?_,z⟩⟩
 . intro q c d;rcases Qj.1 d with e|d
   . cases e;exact X p (fun _=>Jb) U
   . obtain⟨s,l⟩:=(f q c).1 d;refine(h.own.blk q c l).mono U z fun n r=>?_;obtain⟨I,B⟩:=J0p h.own ⟨q,c,l,r⟩;exact⟨.inl ⟨I,B⟩,i n B (m q c n s l r)⟩
 . simp only[Qv,Q2];refine⟨?_,L⟩;intro N;obtain⟨⟨q,c⟩,d,e⟩:=Qi.1 N;exact K q c ((f q c).1 d).2 e
 . intro q1 c1 q2 Z n Y V t P e2;have o:∀q c,(q,c)∈own'->J0n w' (σ.set g x) q c n->J0n w' (σ.set g x) g F n->False:=fun q c d e Q=>by
    obtain⟨s,l⟩:=(f q c).1 d;have W:=(j q c n s l).1 e;rcases D n Q with a|a
    . have:=(J0p h.own ⟨q,c,l,W⟩).2;omega
    . exact m q c n s l W a
   rcases Qj.1 Y with G|G
   . cases G;rcases Qj.1 V with u|u
     . cases u;exact t rfl
     . exact o _ _ u e2 P
   . rcases Qj.1 V with u|u
     . cases u;exact o _ _ G P e2
     . obtain⟨s,l⟩:=(f _ _).1 G;obtain⟨I,B⟩:=(f _ _).1 u;exact h.own.apart _ _ _ _ _ l B t ((j _ _ _ s l).1 P) ((j _ _ _ I B).1 e2)
 . intro q d;have:q≠g:=fun e=>by subst e;exact(Q2.1 h.knodup).1 d
   rw[Sg.set_other _ _ _ this];exact h.fresh q (by simp[d])
 . intro n r J;exact i n r fun e=>J ⟨k,b,H,e⟩
 . intro n r _;simp only[p];constructor
   . rintro (e|e)
     . exact e.1
     . omega
   . intro e;exact .inl ⟨e,r⟩
 . intro n r;rcases J4N.1 r with e | ⟨q,c,d,e⟩
   . rcases D n e with a|a
     . exact .inr a.1
     . exact .inl ⟨k,b,H,a⟩
   . obtain⟨s,l⟩:=(f _ _).1 d;exact .inl ⟨q,c,l,(j _ _ _ s l).1 e⟩
def Q4Y (len:Nat->Nat) (n m:Nat):Nat->Nat:=fun i=>if i=n then m else len i
theorem Q6W {P:Program} {ats:Array TypeId} {t t2 e e2 ty:TypeId} {bytes:Nat} {zs:List V} (h0:ats[0]?=some t) (h1:ats[1]?=some t2)
 (ht:P.underlying t=some (.slice e)) (aj:P.underlying t2=some (.slice e2)) (hs:J3s P e=some 1) (hb:(P.info? e).map (·.bytes)=some bytes) (hz:J1S P e=some zs) (bm:zs.length=1)
 {M:Nat->Prop} {w:World} {σ:Sg} {own own':Own} {k L kl q n s m:Nat} {ks:List Nat} (hh:J0T M w σ own (L::ks)) {len:Nat->Nat} {f:Nat->Nat->Nat->V} {op:List (Nat×Nat)}
 {ux uy:Value} (aa:look own k=some (.fam n s len f op)) (hx:Den M w σ (.vec k 1 0 n) ux) (bf:look own kl=some (.cells [.vec q s 0 m])) (hy:Den M w σ (.vec kl 1 0 1) uy)
 (bp:look op n=none) (bd:(n+1)*bytes<=140737488355328) (bc:n+1<=9223372036854775807)
 (a0:∀p c,(p,c)∈own'↔(p≠k/\(p,c)∈own)) (ao:(own'.map (·.1)).Nodup) :
 ∃u w' o a4,(Builtin.append_ ats ty #[ux,uy]).run P w=.ok u w'/\J0T o w' a4 ((L,.fam (n+1) s (Q4Y len n m) f ((n,q)::op))::own') ks /\
  Tr M w σ own o w' a4 ((L,.fam (n+1) s (Q4Y len n m) f ((n,q)::op))::own')/\Den o w' a4 (.vec L 1 0 (n+1)) u/\Kd σ own (L::ks) a4 ((L,.fam (n+1) s (Q4Y len n m) f ((n,q)::op))::own') ks:=by
 obtain⟨i,z,D,b5,b7⟩:=J0W hz;have b6:z.cells.size=1:=by
  have:=(J0O (M:=M) (w:=w) σ b7).1;simp at this;omega
 have au:i.size=1:=by simpa[J3s,D] using hs
 have av:i.bytes=bytes:=by simpa[D] using hb
 have A:=J0g aa;have ab:∀p,p∈own'.map (·.1)->p∈own.map (·.1):=by
  intro p hp;obtain⟨⟨p',c⟩,hm,e⟩:=Qi.1 hp;exact Qi.2 ⟨_,((a0 p' c).1 hm).2,e⟩
 have aq:∀x,Kd σ own (L::ks) (σ.set L x) ((L,Blk.fam (n+1) s (Q4Y len n m) f ((n,q)::op))::own') ks :=
  fun x=>J42 _ _ fun p hp=>(J3v p hp).imp (ab p) id
 have ar:σ L=none:=hh.fresh L (by simp)
 -- the cell that is appended
 obtain⟨bl,bj,bk,ah,l1,l2,l3,l4,l5⟩:=hh.own.blk kl _ (J0g bf);simp only[List.length_cons,List.length_nil] at l4;obtain⟨cu,b0⟩:∃cu,ah[0]?=some cu:=⟨ah[0]'(by omega),by simp[l4]⟩;have az:Den M w σ (.vec q s 0 m) cu:=l5 0 _ cu (by simp) b0;obtain⟨qa,qc,rfl,ba,an⟩:∃a c,cu=.slice a m c/\m<=c/\(Value.slice a m c).oneCell'=true:=by
  cases az with
  | vec _ _ _ _ _ bo base κ c a h hc hl ha=>exact⟨a,c,rfl,hl,rfl⟩
 have Y:∀Q:World,Q.heap=w.heap->(Builtin.lenOf uy).run P Q=.ok 1 Q/\(Builtin.firstCells 1 1 uy).run P Q=.ok ([Value.slice qa m qc]:List Value).toArray Q:=fun Q b8=>by
  cases hy with
  | vec _ _ _ _ _ bo base κ c a h hc hl ha =>
    obtain⟨b2,e2,rfl⟩:=ha (by omega);rw[l1] at h;simp only[Qf,Qu] at h;obtain⟨rfl,rfl,rfl⟩:=h;cases e2;have S:Src M Q 1 1 (fun _ _=>.raw (.slice qa m qc)) (.slice (some ⟨bl,0+0*1,none⟩) 1 c):=J3f fun i j I bg=>by
     obtain rfl:i=0:=by omega
     obtain rfl:j=0:=by omega
     refine⟨.slice qa m qc,?_,an,.raw _ _⟩;simp[World.cell?,b8,l3,b0]
    obtain⟨us,R,u2,u3,u4,u5⟩:=S.firstCells (P:=P) (w':=Q) rfl;obtain⟨x,x1,x2⟩:=u4 0 0 (by omega) (by omega);have E:us=[.slice qa m qc]:=by
     match us,R,x1 with
     | [y],_,x1=>simp at x1;subst x1;cases x2;rfl
    subst E;exact⟨u3,u2⟩
 obtain⟨bo,base,κ,s1,s2,F⟩:=hh.own.blk k _ A;cases hx with
 | vec _ _ _ _ _ br a3 ag c a hk hc hl ha =>
   rw[s1] at hk;simp only[Qf,Qu] at hk;obtain⟨q1,q2,q3⟩:=hk;subst q1 q2 q3;have hc:c=κ:=by omega
   subst hc
   -- a row that is not the last one
   have C:∀i,n≠i->look ((n,q)::op) i=look op i:=fun i h=>J0o h;have be:∀i,n≠i->Q4Y len n m i=len i:=fun i h=>by rw[Q4Y,Qb (fun e=>h e.symm)]
   have ay:∀(o:Nat->Prop) (w':World) (x:Option Nat×Nat×Nat),Ext M w o w'->Q5M o w' (σ.set L x) s (Q4Y len n m n) (f n) (look ((n,q)::op) n) (.slice qa m qc):=fun o w' x hE=>by
    rw[J0j rfl,Q4Y,Qe rfl];exact⟨qa,qc,rfl,ba,fun p hp=>by cases hp;exact az.mono hE (Sg.le_set x ar),fun h=>by cases h⟩
   have al:∀(o:Nat->Prop) (w':World) (x:Option Nat×Nat×Nat) (i:Nat) (u:Value),Ext M w o w'->n≠i->Q5M M w σ s (len i) (f i) (look op i) u->(∀r off l O,u=.slice (some ⟨r,off,none⟩) l O->0<O->look op i=none->o r/\w'.heap[r]?=w.heap[r]?) ->
    Q5M o w' (σ.set L x) s (Q4Y len n m i) (f i) (look ((n,q)::op) i) u:=fun o w' x i u hE H hR ac=>by
    rw[C i H,be i H];obtain⟨a',O,u2,u3,u4,u5⟩:=hR;refine⟨a',O,u2,u3,fun p hp=>(u4 p hp).mono hE (Sg.le_set x ar),fun hn hc=>?_⟩;obtain⟨r,off,a9,a8,J,U,p3,p4,p5⟩:=u5 hn hc;subst J;obtain⟨n1,n2⟩:=ac r off _ O u2 hc hn;exact⟨r,off,a9,a8,rfl,n1,n2.trans p3,p4,fun j t hj ht=>let ⟨y,y1,y2,y3⟩:=p5 j t hj ht;⟨y,y1,y2,y3.mono hE (Sg.le_refl _)⟩⟩
   by_cases G:n+1<=c
   . obtain⟨b,bh,bi⟩:=ha (by omega);subst bh bi;rcases F with ⟨F,_⟩ | ⟨b',g,us,F,s4,T,s6,s7,s8,s9⟩
     . omega
     cases F;obtain⟨v1,v2⟩:=Y w rfl;have ak:=run_storeCells_at P b (base+n) g [Value.slice qa m qc] 0 us w T (by simp;omega) (fun x hx=>by simp at hx;subst hx;exact an);simp only[Xx] at ak;have Z:=J0X (P:=P) (ty:=ty) h0 h1 ht aj hs (some ⟨b,base+0*1,none⟩) n c 1 uy _ v1 v2 G _ (by simp only[J1I,Xx,Ku];exact ak);have b9:=J02 us.toList [Value.slice qa m qc] (base+n) (by simp;omega);have aw:=J0I us.toList [Value.slice qa m qc] (base+n) (by simp;omega);generalize hW:(us.toList.take (base+n)++[Value.slice qa m qc]++us.toList.drop (base+n+[Value.slice qa m qc].length))=W at *;have d:∀i,i≠n->W[base+i]?=us[base+i]?:=fun i D=>by
      rw[aw (base+i)];split
      . simp
      . split
        . rename_i h1 h2;simp at h2;omega
        . simp
     have af:W[base+n]?=some (.slice qa m qc):=by
      rw[aw (base+n),Qb (by omega),Qe (by simp)];simp
     have K:∀i r,i≠n->(J3A W.toArray base i r↔J3A us base i r):=fun i r D=>by
      simp only[J3A,Za,d i D]
     have a7:∀i r,i<n->look op i=none->J3A us base i r->J0n w σ k (.fam n s len f op) r:=fun i r D ho h=>.inr ⟨b,base,c,us,g,i,s1,T,D,ho,h⟩;obtain⟨o,n1,n2⟩:=Q2h (w':=w.setRow b W.toArray) hh k _ A a0 ao (some b,base,c) (.fam (n+1) s (Q4Y len n m) f ((n,q)::op)) rfl (J0S.rf rfl rfl) rfl (by simp)
      (fun r hr bb=>setRow_other w b r _ (fun e=>bb (e▸.inl (by simp[J0u,s1]))))
      (fun r e=>by
        right;rcases e with e | ⟨ob,a3,ag,b3,b4,i,E,e2,e3,e4,e5⟩
        . simp[J0u,Sg.set_same] at e;exact .inl (by simp[J0u,s1,e])
        . rw[Sg.set_same] at E;simp only[Qf,Qu] at E;obtain⟨rfl,rfl,rfl⟩:=E;rw[setRow_heap w b us _ g _ T] at e2;simp only[Qf,Obj.cells.injEq] at e2;obtain⟨rfl,_⟩:=e2;have H:n≠i:=fun e=>by subst e;rw[J0j rfl] at e4;cases e4
          rw[C i H] at e4;exact a7 i r (by omega) e4 ((K i r (fun e=>H e.symm)).1 e5))
      (fun o a5 hE=>by
        have a2:∀r,J0n w σ k (.fam n s len f op) r->o r:=fun r e=>(a5 r).2 (.inl (J0p hh.own ⟨k,_,A,e⟩));refine⟨_,base,c,Sg.set_same _ _ _,G,.inr ⟨b,g,_,rfl,a2 b (.inl (by simp[J0u,s1])),setRow_heap w b us _ g _ T,by simp only[Zg,b9,Zn];exact s6,fun i D=>?_,fun i X r D I N o2 r1 r2=>?_,fun i D N r1=>?_⟩⟩
        . by_cases e:n=i
          . subst e;exact⟨_,by rw[Za];exact af,ay o _ _ hE⟩
          . obtain⟨u,R,hR⟩:=s7 i (by omega);refine⟨u,by rw[Za,d i (fun x=>e x.symm)];exact R,al o _ _ i u hE e hR fun r off l O hu ae ho=>?_⟩;have hr:J3A us base i r:=⟨off,l,O,by rw[R,hu],ae⟩;exact⟨a2 r (a7 i r (by omega) ho hr),setRow_other w b r _ fun x=>s9 i (by omega) ho (x▸hr)⟩
        . have E:n≠i:=fun e=>by subst e;rw[J0j rfl] at N;cases N
          have e2:n≠X:=fun e=>by subst e;rw[J0j rfl] at o2;cases o2
          rw[C i E] at N;rw[C X e2] at o2;exact s8 i X r (by omega) (by omega) N o2 ((K i r (fun x=>E x.symm)).1 r1) ((K X r (fun x=>e2 x.symm)).1 r2)
        . have E:n≠i:=fun e=>by subst e;rw[J0j rfl] at N;cases N
          rw[C i E] at N;exact s9 i (by omega) N ((K i b (fun x=>E x.symm)).1 r1))
     refine⟨_,_,o,_,Z,n1,n2,?_,aq _⟩;exact .vec _ _ _ _ _ _ _ _ c _ (Sg.set_same _ _ _) rfl G (fun _=>⟨b,rfl,by simp⟩)
   . obtain⟨v1,_⟩:=Y w rfl;obtain⟨_,v2⟩:=Y w.drew rfl
     -- the old spine's cells
     obtain⟨v,N,o2,o3⟩:∃v:List Value,v.length=n/\(Builtin.firstCells 1 n (.slice a n c)).run P w.drew=.ok v.toArray w.drew /\
      (n=0\/∃b ty us,bo=some b/\w.heap[b]?=some (.cells us ty (0,0))/\∀i,i<n->v[i]?=us[base+i]?):=by
      rcases F with ⟨F,ai⟩ | ⟨b,g,us,F,s4,T,s6,s7,s8,s9⟩
      . obtain rfl:n=0:=by omega
        refine⟨[],rfl,?_,.inl rfl⟩;cases a with
        | none=>rfl
        | some ad=>show(loadCells ad (0*1)).run P w.drew=_;rw[Zr];rfl
      . subst F;rcases Q4 c with b1|b1
        . obtain rfl:n=0:=by omega
          refine⟨[],rfl,?_,.inl rfl⟩;cases a with
          | none=>rfl
          | some ad=>show(loadCells ad (0*1)).run P w.drew=_;rw[Zr];rfl
        . obtain⟨b2,e2,rfl⟩:=ha b1;cases e2;have S:Src M w.drew 1 n (fun i _=>.raw (us.getD (base+i) undef)) (.slice (some ⟨b,base+0*1,none⟩) n c):=J3f fun i j I bg=>by
           obtain rfl:j=0:=by omega
           obtain⟨u,R,a',O,rfl,_⟩:=s7 i I;refine⟨.slice a' (len i) O,?_,rfl,?_⟩
           . have:w.drew.heap[b]?=some (.cells us g (0,0)):=T;simp only[World.cell?,this,Xx,Ku];simpa using R
           . have:us.getD (base+i) undef=.slice a' (len i) O:=by rw[Qx,R];rfl
             rw[this];exact .raw _ _
          obtain⟨ol,R,u2,u3,u4,u5⟩:=S.firstCells (P:=P) (w':=w.drew) rfl;refine⟨ol,by omega,u2,.inr ⟨b,g,us,rfl,T,fun i I=>?_⟩⟩;obtain⟨x,x1,x2⟩:=u4 i 0 I (by omega);cases x2;obtain⟨u,Q,_⟩:=s7 i I;simp only[Ku,Xx] at x1;rw[Q,x1,Qx,Q];rfl
     have Z:=J1Q (P:=P) (ty:=ty) (w:=w) h0 h1 ht aj D b5 au a n c 1 uy _ v v1 v2 o2 (by omega) (by rw[av];exact bd) bc;have ax:=grownCap_ge w (n+1) c e;generalize hW:(v.toArray++[Value.slice qa m qc].toArray++Builtin.zeroCells z.cells (grownCap w (n+1) c e-(n+1)))=W at *;have bq:grownCap w (n+1) c e<=W.size:=by
      rw[<- hW];simp only[Kj,Zg,size_zeroCells,N,b6,Xa];omega
     have d:∀i,i<n->W[0+i]?=v[i]?:=fun i D=>by
      rw[<- hW,Qk,Ze (by simp;omega),Ze (by simp;omega)];simp
     have af:W[0+n]?=some (.slice qa m qc):=by
      rw[<- hW,Qk,Ze (by simp;omega),K2 (by simp;omega)];simp[N]
     have a6:(w.drew.alloc (.cells W e)).heap[w.heap.size]?=some (.cells W e (0,0)):=J2B (w:=w.drew);have a1:∀i r,i<n->look op i=none->J3A W 0 i r->J0n w σ k (.fam n s len f op) r:=fun i r D ho h=>by
      rcases o3 with o3 | ⟨b,g,us,rfl,U,p3⟩
      . omega
      . refine .inr ⟨b,base,c,us,g,i,s1,U,D,ho,?_⟩;simpa only[J3A,d i D,p3 i D] using h
     obtain⟨o,n1,n2⟩:=Q2h (w':=w.drew.alloc (.cells W e)) hh k _ A a0 ao (some w.heap.size,0,grownCap w (n+1) c e) (.fam (n+1) s (Q4Y len n m) f ((n,q)::op)) rfl ⟨rfl,J2 _⟩ rfl (by rw[J1Z];exact J2 _)
      (fun r hr _=>J0G (w:=w.drew) hr)
      (fun r e'=>by
        rcases e' with e' | ⟨ob,a3,ag,b3,b4,i,E,e2,e3,e4,e5⟩
        . simp[J0u,Sg.set_same] at e';left;rw[J1Z];show _/\r<w.heap.size+1;omega
        . right;rw[Sg.set_same] at E;simp only[Qf,Qu] at E;obtain⟨rfl,rfl,rfl⟩:=E;rw[a6] at e2;simp only[Qf,Obj.cells.injEq] at e2;obtain⟨rfl,_⟩:=e2;have H:n≠i:=fun e=>by subst e;rw[J0j rfl] at e4;cases e4
          rw[C i H] at e4;exact a1 i r (by omega) e4 e5)
      (fun o a5 hE=>by
        have a2:∀r,J0n w σ k (.fam n s len f op) r->o r/\r<w.heap.size:=fun r e=>⟨(a5 r).2 (.inl (J0p hh.own ⟨k,_,A,e⟩)),(J0p hh.own ⟨k,_,A,e⟩).2⟩;refine⟨_,0,_,Sg.set_same _ _ _,ax,.inr ⟨w.heap.size,e,W,rfl,(a5 _).2 (.inr ⟨Qd _,by rw[J1Z];exact Nat.lt_succ_self _⟩),a6,by omega,fun i D=>?_,fun i X r D I J U r1 r2=>?_,fun i D J r1=>?_⟩⟩
        . by_cases e':n=i
          . subst e';exact⟨_,af,ay o _ _ hE⟩
          . have B:i<n:=by omega
            rcases F with ⟨F,ai⟩ | ⟨b,g,us,F,s4,T,s6,s7,s8,s9⟩
            . omega
            . rcases o3 with o3 | ⟨b',a9,a8,J,U,p3⟩
              . omega
              . rw[F] at J;cases J;rw[T] at U;simp only[Qf,Obj.cells.injEq] at U;obtain⟨rfl,_⟩:=U;obtain⟨u,R,hR⟩:=s7 i B;refine⟨u,by rw[d i B,p3 i B];exact R,al o _ _ i u hE e' hR fun r off l O hu ae ho=>?_⟩;have hr:J3A W 0 i r:=⟨off,l,O,by rw[d i B,p3 i B,R,hu],ae⟩;obtain⟨z1,z2⟩:=a2 r (a1 i r B ho hr);exact⟨z1,J0G (w:=w.drew) z2⟩
        . have E:n≠i:=fun e=>by subst e;rw[J0j rfl] at J;cases J
          have e2:n≠X:=fun e=>by subst e;rw[J0j rfl] at U;cases U
          rw[C i E] at J;rw[C X e2] at U;rcases F with ⟨F,ai⟩ | ⟨b,g,us,F,s4,T,s6,s7,s8,s9⟩
          . omega
          . rcases o3 with o3 | ⟨b',a9,a8,y1,y2,y3⟩
            . omega
            . rw[F] at y1;cases y1;rw[T] at y2;simp only[Qf,Obj.cells.injEq] at y2;obtain⟨rfl,_⟩:=y2;have g1:i<n:=by omega
              have g2:X<n:=by omega
              exact s8 i X r g1 g2 J U (by simpa only[J3A,d i g1,y3 i g1] using r1) (by simpa only[J3A,d X g2,y3 X g2] using r2)
        . have E:n≠i:=fun e=>by subst e;rw[J0j rfl] at J;cases J
          rw[C i E] at J;have:=(a2 _ (a1 i _ (by omega) J r1)).2;omega)
     refine⟨_,_,o,_,Z,n1,n2,?_,aq _⟩;exact .vec _ _ _ _ _ _ _ _ (grownCap w (n+1) c e) _ (Sg.set_same _ _ _) rfl ax (fun _=>⟨_,rfl,by simp⟩)
def X1z (own:Own) (ks:List Nat) (s bytes:Nat) (x y:V) (K:V->Own->List Nat->Prop):Prop :=
 match x with
 | .vec c d h n=>match look own c with
   | some (.fam g e len f [])=>match y with
     | .vec o k b l=>match look own o with
       | some (.cells [.vec q j a m])=>match Nat.beq d 1&&Nat.beq h 0&&Nat.beq k 1&&Nat.beq b 0&&Nat.beq l 1&&Nat.beq a 0&&Nat.beq s 1&&Nat.beq e j with
         | true=>Len n g (Len g n (Len ((n+1)*bytes) 140737488355328 (Len (n+1) 9223372036854775807
            (fresh ks fun i ks=>X1q c own fun own'=>K (.vec i 1 0 (n+1)) ((i,.fam (n+1) e (Q4Y len n m) f [(n,q)])::own') ks))))
         | false=>False
       | _=>False
     | _=>False
   | _=>J8W own ks s bytes (.vec c d h n) y K
 | x=>J8W own ks s bytes x y K
end Go.Eng
