import Derived.Test.YtojoidgjneapfaaEngF
import Derived.Laws.MakeOwn
import Derived.Maps.RangeRun
namespace Go.Eng
def J09 (n:Nat):List Nat->Bool
 | []=>false
 | x::r=>match Nat.beq x n with|true=>true|false=>J09 n r
theorem J0m {n:Nat}:∀{l:List Nat},J09 n l=true↔n∈l
 | []=>by simp[J09]
 | x::r=>by
   unfold J09;split
   . rename_i h;have:=Nat.eq_of_beq_eq_true h;subst this;simp
   . rename_i h;have hne:x≠n:=fun e=>by subst e;simp at h
     rw[J0m,List.mem_cons];constructor
     . exact .inr
     . rintro (e|e)
       . exact(hne e.symm).elim
       . exact e
theorem Sg.none_le (σ:Sg):Sg.none.le σ:=fun _ _ h=>by cases h
def Q2P (own:Own) (v:V) (K:V->Prop):Prop :=
 match v with
 | .vec k s lo len=>match look own k with
   | some (.vec n s' f)=>match Nat.beq s s' with
     | true=>Len (lo+len) n (K (.fz len s false (J0n lo f)))
     | false=>False
   | _=>False
 | v=>match v.kf2 with
   | true=>K v
   | false=>False
def Q2h (own:Own):List V->(List V->Prop)->Prop
 | [],K=>K []
 | v::r,K=>Q2P own v fun v=>Q2h own r fun r=>K (v::r)
def tab (rows:List (List V)):Nat->Nat->V:=fun i j=>(rows.getD i []).getD j default
def J52 {α:Type} (s:Nat):Nat->List α->List (List α)
 | 0,_=>[]
 | n+1,l=>l.take s::J52 s n (l.drop s)
theorem J6T {α:Type} (s:Nat):∀(n:Nat) (l:List α) (i:Nat),i<n->(J52 s n l)[i]?=some ((l.drop (i*s)).take s)
 | 0,l,i,h=>by omega
 | n+1,l,0,h=>by simp[J52]
 | n+1,l,i+1,h=>by
   simp only[J52,List.getElem?_cons_succ];rw[J6T s n _ i (by omega),List.drop_drop,Nat.succ_mul,Nat.add_comm s]
theorem J6i {s n:Nat} {l:List V} {i j:Nat} (hi:i<n) (hj:j<s) (h:i*s+j<l.length):tab (J52 s n l) i j=l[i*s+j]:=by
 simp only[tab,List.getD_eq_getElem?_getD,J6T s n l i hi,Option.getD_some,List.getElem?_take,hj,if_true,List.getElem?_drop];simp[h]
def J3U (f:Nat->Nat->Nat->V) (i:Nat) (g:Nat->Nat->V):Nat->Nat->Nat->V:=fun j=>if j=i then g else f j
def Q5g (own:Own) (s:Nat) (ln:Nat->Nat) (f:Nat->Nat->Nat->V):List (Nat×Nat)->((Nat->Nat->Nat->V)->Prop)->Prop
 | [],K=>K f
 | (i,q)::r,K=>match look own q with
   | some (.vec m s' g)=>match Nat.beq s s' with
     | true=>Len (ln i) m (Q5g own s ln f r fun f'=>K (J3U f' i g))
     | false=>False
   | _=>False
theorem J5k {own:Own} {s:Nat} {ln:Nat->Nat} {f:Nat->Nat->Nat->V}:∀{op:List (Nat×Nat)} {K:(Nat->Nat->Nat->V)->Prop},Q5g own s ln f op K ->
 ∃f',K f'/\∀i,(look op i=none->f' i=f i)/\∀q,look op i=some q->∃m,look own q=some (.vec m s (f' i))/\ln i<=m
 | [],K,h=>⟨f,h,fun i=>⟨fun _=>rfl,fun q e=>by simp[look] at e⟩⟩
 | (i0,q0)::r,K,h=>by
   unfold Q5g at h;split at h
   . rename_i m s' g hl;split at h
     . rename_i e;have e:=Nat.eq_of_beq_eq_true e;subst e;obtain⟨hle,h⟩:=h;obtain⟨f',hK,hf⟩:=J5k h;refine⟨_,hK,fun i=>?_⟩;by_cases e:i0=i
       . subst e;rw[J0k rfl];exact⟨fun h=>(by cases h),fun q e=>(by cases e;exact⟨m,by simp[J3U,hl],hle⟩)⟩
       . rw[J0j e];have e':¬ i=i0:=fun h=>e h.symm;simp only[J3U,e',if_false];exact hf i
     . exact h.elim
   . exact h.elim
def Q5a (own:Own) (v:V) (K:V->Prop):Prop :=
 match v with
 | .vec k 1 0 len=>match look own k with
   | some (.cells cs)=>match Nat.beq len cs.length,J27 V.cellB cs with
     | true,true=>Q2h own cs fun cs'=>K (.fz len 1 false (tab (J52 1 len cs')))
     | _,_=>False
   | some (.fam n s ln f op)=>Len len n (Q5g own s ln f op fun f'=>K (.fz len 1 false fun i _=>.fz (ln i) s false (f' i)))
   | _=>Q2P own (.vec k 1 0 len) K
 | .vec k s 0 len=>match look own k with
   | some (.cells cs)=>match Nat.beq (len*s) cs.length,J27 V.cellB cs with
     | true,true=>Q2h own cs fun cs'=>K (.fz len s false (tab (J52 s len cs')))
     | _,_=>False
   | _=>Q2P own (.vec k s 0 len) K
 | v=>Q2P own v K
def Q5j (own:Own):List V->(List V->Prop)->Prop
 | [],K=>K []
 | v::r,K=>Q5a own v fun v=>Q5j own r fun r=>K (v::r)
def bor (own:Own) (v:V) (K:V->Prop):Prop :=
 match v with
 | .agg cs=>Q5j own cs fun cs=>K (.agg cs)
 | .loc k 0=>match look own k with
   | some (.cells cs)=>match J27 V.cellB cs with
     | true=>Q5j own cs fun cs'=>K (.fe 1 cs.length (tab [cs']) 0 0)
     | false=>False
   | _=>False
 | v=>Q5a own v K
def Q49 (own:Own):List V->(List V->Prop)->Prop
 | [],K=>K []
 | v::r,K=>bor own v fun v=>Q49 own r fun r=>K (v::r)
def J4O (M:Nat->Prop) (w:World) (σ:Sg) (own:Own):Nat->Prop:=fun b=>M b/\¬ J0y w σ own b
theorem J3j (M:Nat->Prop) (w:World) (σ:Sg) (own:Own):Ext M w (J4O M w σ own) w:=⟨fun _ _ hM=>⟨fun h=>hM h.1,rfl⟩,Nat.le_refl _⟩
theorem J2R {own:Own} {v:V} {K:V->Prop} (h:Q2P own v K):∃v',K v'/\∀M w σ u,J1v M w σ own->Den M w σ v u->Den (J4O M w σ own) w Sg.none v' u:=by
 unfold Q2P at h;split at h
 . rename_i k s lo len;split at h
   . rename_i n s' f hlook;split at h
     . rename_i e;have e:=Nat.eq_of_beq_eq_true e;subst e;obtain⟨hle,hK⟩:=h;refine⟨_,hK,fun M w σ u ho hd=>?_⟩;have hmem:=J0c hlook;obtain⟨bo,base,κ,s1,s2,s3⟩:=ho.blk k _ hmem;cases hd with
       | vec _ _ _ _ _ bo' base' κ' c a hk hc hl ha =>
         rw[s1] at hk;simp only[Option.some.injEq,Prod.mk.injEq] at hk;obtain⟨q1,q2,q3⟩:=hk;subst q1 q2 q3;rcases Nat.eq_zero_or_pos len with h0|h0
         . subst h0;exact .fz0 _ _ _ _ _ _ (by simp)
         . obtain⟨b,hb',ha'⟩:=ha (by omega);clear ha;subst hb' ha';rcases s3 with ⟨_,s3⟩ | ⟨b',ty,us,s3,s4,s5,s6,s7⟩
           . cases s3
           cases s3;have hlt:=lt_of_getElem? s5;have hx:∀i j,i<len->j<s->∃x,us[base+((lo+i)*s+j)]?=some x/\x.oneCell'=true/\Den M w Sg.none (f (lo+i) j) x:=fun i j hi hj=>s7 (lo+i) j (by omega) hj;let U:Nat->Nat->Value:=fun i j=>if h:i<len/\j<s then Classical.choose (hx i j h.1 h.2) else undef
           have hU:∀i j (hi:i<len) (hj:j<s),us[base+((lo+i)*s+j)]?=some (U i j)/\(U i j).oneCell'=true/\Den M w Sg.none (f (lo+i) j) (U i j):=fun i j hi hj=>by
            simp only[U,hi,hj,and_self,dite_true];exact Classical.choose_spec (hx i j hi hj)
           refine .fz _ _ _ _ _ _ _ _ U hl (by simp) (fun hM=>hM.2 ⟨k,_,hmem,.inl (by simp[J0p,s1])⟩) hlt ?_ (fun i j hi hj=>(hU i j hi hj).2.1) ?_
           . intro i j hi hj;rw[show base+lo*s+(i*s+j)=base+((lo+i)*s+j) by rw[Nat.add_mul];omega];simp[World.cell?,s5,(hU i j hi hj).1]
           . intro i j hi hj;rw[J1i];exact(hU i j hi hj).2.2.mono (J3j M w σ own) (Sg.le_refl _)
     . exact h.elim
   . exact h.elim
 . split at h
   . rename_i hkf;exact⟨v,h,fun M w σ u _ hd=>(hd.kf2 hkf Sg.none).mono (J3j M w σ own) (Sg.le_refl _)⟩
   . exact h.elim
theorem J26 {own:Own}:∀{vs:List V} {K:List V->Prop},Q2h own vs K->∃vs',K vs'/\vs'.length=vs.length/\∀M w σ,J1v M w σ own->∀(i:Nat) (v v':V) (u:Value),vs[i]?=some v->vs'[i]?=some v'->Den M w σ v u->Den (J4O M w σ own) w Sg.none v' u
 | [],K,h=>⟨[],h,rfl,fun _ _ _ _=>by simp⟩
 | v::r,K,h=>by
   obtain⟨v',h,hv⟩:=J2R h;obtain⟨r',hK,hl,hr⟩:=J26 h;refine⟨_,hK,by simp[hl],fun M w σ ho i x x' u hx hx' hd=>?_⟩;cases i with
   | zero=>simp at hx hx';subst hx hx';exact hv M w σ u ho hd
   | succ i=>exact hr M w σ ho i x x' u (by simpa using hx) (by simpa using hx') hd
theorem J5q {own:Own} {v:V} {K:V->Prop} (h:Q5a own v K):∃v',K v'/\∀M w σ u,J1v M w σ own->Den M w σ v u->Den (J4O M w σ own) w Sg.none v' u:=by
 unfold Q5a at h;split at h
 . rename_i k len;split at h
   . rename_i cs hlook;split at h
     . rename_i hlen hcb;have hlen:=Nat.eq_of_beq_eq_true hlen;obtain⟨cs',hK,hl,hr⟩:=J26 h;refine⟨_,hK,fun M w σ u ho hd=>?_⟩;have hmem:=J0c hlook;obtain⟨b,κ,ty,us,s1,s2,s3,s4,s5⟩:=ho.blk k _ hmem;cases hd with
       | vec _ _ _ _ _ bo base κ' c a hk hc hlc ha =>
         rw[s1] at hk;simp only[Option.some.injEq,Prod.mk.injEq] at hk;obtain⟨q1,q2,q3⟩:=hk;subst q1 q2 q3;rcases Nat.eq_zero_or_pos len with h0|h0
         . subst h0;exact .fz0 _ _ _ _ _ _ (by simp)
         . obtain⟨b',hb',ha'⟩:=ha (by omega);cases hb';subst ha';have hU:∀i,i<len->∃x v,us[i]?=some x/\cs[i]?=some v/\x.oneCell'=true/\Den M w σ v x:=fun i hi=>by
            have h1:i<us.size:=by omega
            have h2:i<cs.length:=by omega
            have hdd:=s5 i cs[i] us[i] (by simp[h2]) (by simp[h1]);exact⟨us[i],cs[i],by simp[h1],by simp[h2],hdd.oneCell (J0v hcb _ (List.getElem_mem h2)),hdd⟩
           refine .fz _ _ _ _ _ _ _ _ (fun i _=>us.getD i undef) hlc (by simp) (fun hM=>hM.2 ⟨k,_,hmem,.inl (by simp[J0p,s1])⟩) (lt_of_getElem? s3) ?_ ?_ ?_
           . intro i j hi hj;obtain⟨x,v,a1,_⟩:=hU i hi;have hj0:j=0:=by omega
             subst hj0;simp[World.cell?,s3,Array.getD_eq_getD_getElem?,a1]
           . intro i j hi hj;obtain⟨x,v,a1,_,a3,_⟩:=hU i hi;simpa[Array.getD_eq_getD_getElem?,a1] using a3
           . intro i j hi hj;obtain⟨x,v,a1,a2,_,a4⟩:=hU i hi;have h2:i<cs'.length:=by omega
             have:=hr M w σ ho i v cs'[i] x a2 (by simp[h2]) a4;have hj0:j=0:=by omega
             subst hj0;have e1:tab (J52 1 len cs') i 0=cs'[i]:=by rw[J6i hi (by omega) (by omega)];simp
             rw[e1];simpa[Array.getD_eq_getD_getElem?,a1] using this
     . exact h.elim
   . rename_i n s ln f op hlook;obtain⟨hle,h⟩:=h;obtain⟨f',hK,hf⟩:=J5k h;refine⟨_,hK,fun M w σ u ho hd=>?_⟩;have hmem:=J0c hlook;obtain⟨bo,base,κ,s1,s2,s3⟩:=ho.blk k _ hmem;cases hd with
     | vec _ _ _ _ _ bo' base' κ' c a hk hc hl ha =>
       rw[s1] at hk;simp only[Option.some.injEq,Prod.mk.injEq] at hk;obtain⟨q1,q2,q3⟩:=hk;subst q1 q2 q3;rcases Nat.eq_zero_or_pos len with h0|h0
       . subst h0;exact .fz0 _ _ _ _ _ _ (by simp)
       . obtain⟨b,hb',ha'⟩:=ha (by omega);clear ha;subst hb' ha';rcases s3 with ⟨_,s3⟩ | ⟨b',ty,us,s3,s4,s5,s6,s7,s8,s9⟩
         . cases s3
         cases s3;have hx:∀i,i<len->∃x,us[base+i]?=some x/\x.oneCell'=true/\Den (J4O M w σ own) w Sg.none (.fz (ln i) s false (f' i)) x:=fun i hi=>by
          obtain⟨u,u1,a,c',u2,u3,u4,u5⟩:=s7 i (by omega);subst u2;refine⟨_,u1,rfl,?_⟩;rcases Nat.eq_zero_or_pos (ln i) with z|z
          . rw[z];exact .fz0 _ _ _ _ _ _ (by simp)
          . have key:∃r off ty2 us2,a=some ⟨r,off,none⟩/\¬ J4O M w σ own r/\w.heap[r]?=some (.cells us2 ty2 (0,0))/\∀j t,j<ln i->t<s->∃x,us2[off+(j*s+t)]?=some x/\x.oneCell'=true/\Den M w Sg.none (f' i j t) x:=by
             cases hop:look op i with
             | none =>
               obtain⟨r,off,ty2,us2,p1,p2,p3,p4,p5⟩:=u5 hop (by omega);rw[(hf i).1 hop];subst p1;exact⟨r,off,ty2,us2,rfl,fun hM=>hM.2 ⟨k,_,hmem,.inr ⟨b,base,κ,us,ty,i,s1,s5,by omega,hop,off,_,c',u1,by omega⟩⟩,p3,p5⟩
             | some q =>
               obtain⟨m,hlq,hlm⟩:=(hf i).2 q hop;have hd:=u4 q hop;obtain⟨bq,baseq,κq,q1,q2,q3⟩:=ho.blk q _ (J0c hlq);cases hd with
               | vec _ _ _ _ _ bo2 base2 κ2 c2 a2 k2 kc kl ka =>
                 rw[q1] at k2;simp only[Option.some.injEq,Prod.mk.injEq] at k2;obtain⟨rfl,rfl,rfl⟩:=k2;obtain⟨b2,rfl,rfl⟩:=ka (by omega);rcases q3 with ⟨z',_⟩ | ⟨b',ty2,us2,e1,e2,e3,e4,e5⟩
                 . omega
                 . cases e1;exact⟨b2,_,ty2,us2,rfl,fun hM=>hM.2 ⟨q,_,J0c hlq,.inl (by simp[J0p,q1])⟩,e3,fun j t hj ht=>by simpa using e5 j t (by omega) ht⟩
            obtain⟨r,off,ty2,us2,p1,p2,p3,p5⟩:=key;subst p1;let U:Nat->Nat->Value:=fun j t=>if h:j<ln i/\t<s then Classical.choose (p5 j t h.1 h.2) else undef
            have hU:∀j t (hj:j<ln i) (ht:t<s),us2[off+(j*s+t)]?=some (U j t)/\(U j t).oneCell'=true/\Den M w Sg.none (f' i j t) (U j t):=fun j t hj ht=>by
             simp only[U,hj,ht,and_self,dite_true];exact Classical.choose_spec (p5 j t hj ht)
            refine .fz _ _ _ _ _ _ _ _ U u3 (by simp) p2 (lt_of_getElem? p3) ?_ (fun j t hj ht=>(hU j t hj ht).2.1) ?_
            . intro j t hj ht;simp[World.cell?,p3,(hU j t hj ht).1]
            . intro j t hj ht;exact(hU j t hj ht).2.2.mono (J3j M w σ own) (Sg.le_refl _)
         let U:Nat->Value:=fun i=>if h:i<len then Classical.choose (hx i h) else undef
         have hU:∀i (hi:i<len),us[base+i]?=some (U i)/\(U i).oneCell'=true/\Den (J4O M w σ own) w Sg.none (.fz (ln i) s false (f' i)) (U i):=fun i hi=>by
          simp only[U,hi,dite_true];exact Classical.choose_spec (hx i hi)
         refine .fz _ _ _ _ _ _ _ _ (fun i _=>U i) hl (by simp) (fun hM=>hM.2 ⟨k,_,hmem,.inl (by simp[J0p,s1])⟩) (lt_of_getElem? s5) ?_ (fun i j hi hj=>(hU i hi).2.1) (fun i j hi hj=>(hU i hi).2.2);intro i j hi hj;obtain rfl:j=0:=by omega
         rw[show base+0*1+(i*1+0)=base+i by omega];simp[World.cell?,s5,(hU i hi).1]
   . exact J2R h
 . rename_i k s len _;split at h
   . rename_i cs hlook;split at h
     . rename_i hlen hcb;have hlen:=Nat.eq_of_beq_eq_true hlen;obtain⟨cs',hK,hl,hr⟩:=J26 h;refine⟨_,hK,fun M w σ u ho hd=>?_⟩;have hmem:=J0c hlook;obtain⟨b,κ,ty,us,s1,s2,s3,s4,s5⟩:=ho.blk k _ hmem;cases hd with
       | vec _ _ _ _ _ bo base κ' c a hk hc hlc ha =>
         rw[s1] at hk;simp only[Option.some.injEq,Prod.mk.injEq] at hk;obtain⟨q1,q2,q3⟩:=hk;subst q1 q2 q3;rcases Nat.eq_zero_or_pos len with h0|h0
         . subst h0;exact .fz0 _ _ _ _ _ _ (by simp)
         . obtain⟨b',hb',ha'⟩:=ha (by omega);cases hb';subst ha';have hin:∀i j,i<len->j<s->i*s+j<cs.length:=fun i j hi hj=>by
            have:i*s+s<=len*s:=by rw[<- Nat.succ_mul];exact Nat.mul_le_mul_right _ hi
            omega
           have hU:∀i,i<cs.length->∃x v,us[i]?=some x/\cs[i]?=some v/\x.oneCell'=true/\Den M w σ v x:=fun i hi=>by
            have h1:i<us.size:=by omega
            have hdd:=s5 i cs[i] us[i] (by simp[hi]) (by simp[h1]);exact⟨us[i],cs[i],by simp[h1],by simp[hi],hdd.oneCell (J0v hcb _ (List.getElem_mem hi)),hdd⟩
           refine .fz _ _ _ _ _ _ _ _ (fun i j=>us.getD (i*s+j) undef) hlc (by simp) (fun hM=>hM.2 ⟨k,_,hmem,.inl (by simp[J0p,s1])⟩) (lt_of_getElem? s3) ?_ ?_ ?_
           . intro i j hi hj;obtain⟨x,v,a1,_⟩:=hU _ (hin i j hi hj);simp[World.cell?,s3,Array.getD_eq_getD_getElem?,a1]
           . intro i j hi hj;obtain⟨x,v,a1,_,a3,_⟩:=hU _ (hin i j hi hj);simpa[Array.getD_eq_getD_getElem?,a1] using a3
           . intro i j hi hj;obtain⟨x,v,a1,a2,_,a4⟩:=hU _ (hin i j hi hj);have h2:i*s+j<cs'.length:=by rw[hl];exact hin i j hi hj
             have:=hr M w σ ho _ v cs'[i*s+j] x a2 (by simp[h2]) a4;have e1:tab (J52 s len cs') i j=cs'[i*s+j]:=J6i hi hj h2;rw[e1];simpa[Array.getD_eq_getD_getElem?,a1] using this
     . exact h.elim
   . exact J2R h
 . exact J2R h
theorem J3D {own:Own}:∀{vs:List V} {K:List V->Prop},Q5j own vs K->∃vs',K vs'/\vs'.length=vs.length/\∀M w σ,J1v M w σ own->∀(i:Nat) (v v':V) (u:Value),vs[i]?=some v->vs'[i]?=some v'->Den M w σ v u->Den (J4O M w σ own) w Sg.none v' u
 | [],K,h=>⟨[],h,rfl,fun _ _ _ _=>by simp⟩
 | v::r,K,h=>by
   obtain⟨v',h,hv⟩:=J5q h;obtain⟨r',hK,hl,hr⟩:=J3D h;refine⟨_,hK,by simp[hl],fun M w σ ho i x x' u hx hx' hd=>?_⟩;cases i with
   | zero=>simp at hx hx';subst hx hx';exact hv M w σ u ho hd
   | succ i=>exact hr M w σ ho i x x' u (by simpa using hx) (by simpa using hx') hd
theorem J4L {own:Own} {v:V} {K:V->Prop} (h:bor own v K):∃v',K v'/\∀M w σ u,J1v M w σ own->Den M w σ v u->Den (J4O M w σ own) w Sg.none v' u:=by
 unfold bor at h;split at h
 . rename_i cs;obtain⟨cs',hK,hl,hr⟩:=J3D h;refine⟨_,hK,fun M w σ u ho hd=>?_⟩;obtain⟨us,rfl,l1,l2⟩:=hd.agg_inv;refine .agg _ _ _ (by omega) fun i v' u' hv' hu'=>?_;have hi:i<cs.length:=by rw[<- hl];exact(List.getElem?_eq_some_iff.1 hv').1
   exact hr M w σ ho i cs[i] v' u' (by simp[hi]) hv' (l2 i cs[i] u' (by simp[hi]) hu')
 . rename_i k;split at h
   . rename_i cs hlook;split at h
     . rename_i hcb;obtain⟨cs',hK,hl,hr⟩:=J3D h;refine⟨_,hK,fun M w σ u ho hd=>?_⟩;have hmem:=J0c hlook;obtain⟨b,κ,ty,us,s1,s2,s3,s4,s5⟩:=ho.blk k _ hmem;cases hd with
       | loc _ _ _ b' base κ' hk =>
         rw[s1] at hk;simp only[Option.some.injEq,Prod.mk.injEq] at hk;obtain⟨q1,q2,q3⟩:=hk;subst q1 q2 q3;have hU:∀i,i<cs.length->∃x v,us[i]?=some x/\cs[i]?=some v/\x.oneCell'=true/\Den M w σ v x:=fun i hi=>by
          have h1:i<us.size:=by omega
          have hdd:=s5 i cs[i] us[i] (by simp[hi]) (by simp[h1]);exact⟨us[i],cs[i],by simp[h1],by simp[hi],hdd.oneCell (J0v hcb _ (List.getElem_mem hi)),hdd⟩
         have hfe:Den (J4O M w σ own) w Sg.none (.fe 1 cs.length (tab [cs']) 0 0) (.pointer (some ⟨b,0+(0*cs.length+0),none⟩)):=by
          refine .fe _ _ _ _ _ _ _ _ (fun _ j=>us.getD j undef) (by omega) (fun hM=>hM.2 ⟨k,_,hmem,.inl (by simp[J0p,s1])⟩) (lt_of_getElem? s3) ?_ ?_ ?_
          . intro i j hi hj;obtain⟨x,v,a1,_⟩:=hU j hj;have hi0:i=0:=by omega
            subst hi0;simp[World.cell?,s3,Array.getD_eq_getD_getElem?,a1]
          . intro i j hi hj;obtain⟨x,v,a1,_,a3,_⟩:=hU j hj;simpa[Array.getD_eq_getD_getElem?,a1] using a3
          . intro i j hi hj;obtain⟨x,v,a1,a2,_,a4⟩:=hU j hj;have h2:j<cs'.length:=by rw[hl];exact hj
            have:=hr M w σ ho j v cs'[j] x a2 (by simp[h2]) a4;have hi0:i=0:=by omega
            subst hi0;have e1:tab [cs'] 0 j=cs'[j]:=by simp[tab,h2]
            rw[e1];simpa[Array.getD_eq_getD_getElem?,a1] using this
         simpa using hfe
     . exact h.elim
   . exact h.elim
 . exact J5q h
theorem J2Q {own:Own}:∀{vs:List V} {K:List V->Prop},Q49 own vs K->∃vs',K vs'/\vs'.length=vs.length/\∀M w σ,J1v M w σ own->∀(i:Nat) (v v':V) (u:Value),vs[i]?=some v->vs'[i]?=some v'->Den M w σ v u->Den (J4O M w σ own) w Sg.none v' u
 | [],K,h=>⟨[],h,rfl,fun _ _ _ _=>by simp⟩
 | v::r,K,h=>by
   obtain⟨v',h,hv⟩:=J4L h;obtain⟨r',hK,hl,hr⟩:=J2Q h;refine⟨_,hK,by simp[hl],fun M w σ ho i x x' u hx hx' hd=>?_⟩;cases i with
   | zero=>simp at hx hx';subst hx hx';exact hv M w σ u ho hd
   | succ i=>exact hr M w σ ho i x x' u (by simpa using hx) (by simpa using hx') hd
def J1M (ks:List Nat):Own->Own
 | []=>[]
 | (k,b)::r=>match J09 k ks with|true=>J1M ks r|false=>(k,b)::J1M ks r
def J1Q (ks:List Nat):Own->Own
 | []=>[]
 | (k,b)::r=>match J09 k ks with|true=>(k,b)::J1Q ks r|false=>J1Q ks r
theorem J0C {ks:List Nat}:∀{own:Own} {k:Nat} {b:Blk},(k,b)∈J1M ks own↔(k,b)∈own/\k∉ks
 | [],k,b=>by simp[J1M]
 | (q,c)::r,k,b=>by
   unfold J1M;split
   . rename_i h;have:=J0m.1 h;rw[J0C];simp only[List.mem_cons,Prod.mk.injEq];constructor
     . rintro⟨a,b⟩;exact⟨.inr a,b⟩
     . rintro⟨⟨rfl,_⟩|a,b⟩
       . exact(b this).elim
       . exact⟨a,b⟩
   . rename_i h;have:q∉ks:=fun e=>by rw[J0m.2 e] at h;cases h
     simp only[List.mem_cons,Prod.mk.injEq,J0C];constructor
     . rintro (⟨rfl,rfl⟩ | ⟨a,b⟩)
       . exact⟨.inl ⟨rfl,rfl⟩,this⟩
       . exact⟨.inr a,b⟩
     . rintro⟨⟨rfl,rfl⟩|a,b⟩
       . exact .inl ⟨rfl,rfl⟩
       . exact .inr ⟨a,b⟩
theorem J0O {ks:List Nat}:∀{own:Own} {k:Nat} {b:Blk},(k,b)∈J1Q ks own↔(k,b)∈own/\k∈ks
 | [],k,b=>by simp[J1Q]
 | (q,c)::r,k,b=>by
   unfold J1Q;split
   . rename_i h;have:=J0m.1 h;simp only[List.mem_cons,Prod.mk.injEq,J0O];constructor
     . rintro (⟨rfl,rfl⟩ | ⟨a,b⟩)
       . exact⟨.inl ⟨rfl,rfl⟩,this⟩
       . exact⟨.inr a,b⟩
     . rintro⟨⟨rfl,rfl⟩|a,b⟩
       . exact .inl ⟨rfl,rfl⟩
       . exact .inr ⟨a,b⟩
   . rename_i h;have:q∉ks:=fun e=>by rw[J0m.2 e] at h;cases h
     rw[J0O];simp only[List.mem_cons,Prod.mk.injEq];constructor
     . rintro⟨a,b⟩;exact⟨.inr a,b⟩
     . rintro⟨⟨rfl,_⟩|a,b⟩
       . exact(this b).elim
       . exact⟨a,b⟩
theorem J1L {ks:List Nat}:∀{own:Own},(own.map (·.1)).Nodup->((J1M ks own).map (·.1)).Nodup
 | [],h=>by simp[J1M]
 | (q,c)::r,h=>by
   simp only[List.map_cons,List.nodup_cons] at h;unfold J1M;split
   . exact J1L h.2
   . simp only[List.map_cons,List.nodup_cons];refine⟨fun hm=>?_,J1L h.2⟩;obtain⟨⟨k,b⟩,h1,h2⟩:=List.mem_map.1 hm;simp only at h2;subst h2;exact h.1 (List.mem_map.2 ⟨_,(J0C.1 h1).1,rfl⟩)
theorem J5P {M:Nat->Prop} {w:World} {σ:Sg} {own:Own} {ks:List Nat} (hh:J0G M w σ own ks) (keys:List Nat):J1v M w σ (J1Q keys own):=by
 refine⟨fun k b hm=>hh.own.blk k b (J0O.1 hm).1,?_,fun k b k' b' n h1 h2=>hh.own.apart k b k' b' n (J0O.1 h1).1 (J0O.1 h2).1⟩;have:∀(m:Own),(m.map (·.1)).Nodup->((J1Q keys m).map (·.1)).Nodup:=by
  intro m
  induction m with
  | nil=>intro _;simp[J1Q]
  | cons p m ih =>
    intro hn;obtain⟨q,c⟩:=p;simp only[List.map_cons,List.nodup_cons] at hn;unfold J1Q;split
    . simp only[List.map_cons,List.nodup_cons];refine⟨fun hm=>?_,ih hn.2⟩;obtain⟨⟨k,b⟩,h1,h2⟩:=List.mem_map.1 hm;simp only at h2;subst h2;exact hn.1 (List.mem_map.2 ⟨_,(J0O.1 h1).1,rfl⟩)
    . exact ih hn.2
 exact this own hh.own.nodup
theorem J5i {M:Nat->Prop} {w:World} {σ:Sg} {own:Own} {ks:List Nat} (hh:J0G M w σ own ks) (keys:List Nat) :
 J0G (J4O M w σ (J1Q keys own)) w σ (J1M keys own) ks/\∀b,¬ J0y w σ own b->(J4O M w σ (J1Q keys own) b↔M b):=by
 have hE:=J3j M w σ (J1Q keys own);refine⟨⟨⟨fun k b hm=>?_,J1L hh.own.nodup,fun k b k' b' n h1 h2=>hh.own.apart k b k' b' n (J0C.1 h1).1 (J0C.1 h2).1⟩,hh.fresh,hh.knodup⟩,fun b hb=>⟨fun h=>h.1,fun h=>⟨h,?_⟩⟩⟩
 . obtain⟨hm1,hm2⟩:=J0C.1 hm;refine(hh.own.blk k b hm1).mono hE (Sg.le_refl _) fun n hn=>⟨⟨(J0q hh.own ⟨k,b,hm1,hn⟩).1,?_⟩,rfl⟩;rintro⟨k',b',h1,h2⟩;obtain⟨h3,h4⟩:=J0O.1 h1;have hne:k≠k':=fun e=>hm2 (e▸h4);exact hh.own.apart k b k' b' n hm1 h3 hne hn h2
 . rintro⟨k',b',h1,h2⟩;exact hb ⟨k',b',(J0O.1 h1).1,h2⟩
def V.key1:V->List Nat
 | .vec k _ _ _=>[k]
 | _=>[]
def Q1J:List V->List Nat
 | []=>[]
 | v::r=>v.key1++Q1J r
def J5T (own:Own) (v:V):List Nat :=
 match v with
 | .vec k _ _ _=>match look own k with
   | some (.cells cs)=>k::Q1J cs
   | _=>[k]
 | .agg cs=>Q1J cs
 | _=>[]
def Q4c (own:Own) (v:V) (K:V->Own->Prop):Prop:=bor (J1Q (J5T own v) own) v fun v'=>K v' (J1M (J5T own v) own)
theorem J2N {own:Own} {v:V} {K:V->Own->Prop} (h:Q4c own v K):∃v' own',K v' own'/\(∀k,k∈own'.map (·.1)->k∈own.map (·.1)) /\
 ∀M w σ ks u,J0G M w σ own ks->Den M w σ v u->∃M',J0G M' w σ own' ks/\Tr M w σ own M' w σ own'/\Den M' w σ v' u/\Ext M w M' w:=by
 obtain⟨v',hK,hb⟩:=J4L h;refine⟨v',_,hK,fun k hk=>?_,fun M w σ ks u hh hd=>?_⟩
 . obtain⟨⟨q,c⟩,h1,h2⟩:=List.mem_map.1 hk;exact List.mem_map.2 ⟨_,(J0C.1 h1).1,h2⟩
 . obtain⟨f1,f2⟩:=J5i hh (J5T own v);refine⟨_,f1,⟨⟨rfl,.refl _,rfl,Nat.le_refl _,fun _ _ _=>rfl,fun b _ hn=>f2 b hn⟩,fun b ⟨k,c,h1,h2⟩=>.inl ⟨k,c,(J0C.1 h1).1,h2⟩,Sg.le_refl _⟩,?_,J3j _ _ _ _⟩;exact(hb M w σ u (J5P hh _) hd).mono ⟨fun _ _ h=>⟨h,rfl⟩,Nat.le_refl _⟩ (Sg.none_le σ)
def J84 (own:Own) (ks:List Nat) (s bytes:Nat) (x y:V) (K:V->Own->List Nat->Prop):Prop :=
 match y with
 | .vec k s' lo len=>match look own k with
   | some (.cells _)=>Q4c own (.vec k s' lo len) fun y' own'=>Q35 own' ks s bytes x y' K
   | _=>Q35 own ks s bytes x (.vec k s' lo len) K
 | y=>Q35 own ks s bytes x y K
theorem J7b {own:Own} {ks:List Nat} {s bytes:Nat} {x y:V} {K:V->Own->List Nat->Prop} (h:J84 own ks s bytes x y K) :
 ∃y' own',Q35 own' ks s bytes x y' K/\(∀k,k∈own'.map (·.1)->k∈own.map (·.1))/\∀M w σ u,J0G M w σ own ks->Den M w σ y u->∃M',J0G M' w σ own' ks/\Tr M w σ own M' w σ own'/\Den M' w σ y' u/\Ext M w M' w:=by
 have triv:∀{z:V},Q35 own ks s bytes x z K->∃y' own',Q35 own' ks s bytes x y' K/\(∀k,k∈own'.map (·.1)->k∈own.map (·.1))/\∀M w σ u,J0G M w σ own ks->Den M w σ z u->∃M',J0G M' w σ own' ks/\Tr M w σ own M' w σ own'/\Den M' w σ y' u/\Ext M w M' w :=
  fun {z} h=>⟨z,own,h,fun _ h=>h,fun M w σ u hh hd=>⟨M,hh,Tr.refl _ _ _ _,hd,⟨fun _ _ h=>⟨h,rfl⟩,Nat.le_refl _⟩⟩⟩
 unfold J84 at h;split at h
 . split at h
   . obtain⟨y',own',a,b,c⟩:=J2N h;exact⟨y',own',a,b,fun M w σ u=>c M w σ ks u⟩
   . exact triv h
 . exact triv h
def V.keyed:V->Bool
 | .vec _ _ _ _=>true
 | .agg cs=>match Q1J cs with|[]=>false|_::_=>true
 | _=>false
def J66 (own:Own) (sz:Nat) (p v:V) (K:Own->Prop):Prop :=
 match p with
 | .oel k s i j=>match look own k with
   | some (.vec _ _ _)=>match v.keyed with
     | true=>Q4c own v fun v' own'=>J3a own' sz (.oel k s i j) v' K
     | false=>J3a own sz (.oel k s i j) v K
   | _=>J3a own sz (.oel k s i j) v K
 | p=>J3a own sz p v K
theorem J5x {own:Own} {sz:Nat} {p v:V} {K:Own->Prop} (h:J66 own sz p v K) :
 ∃v' own',J3a own' sz p v' K/\(∀k,k∈own'.map (·.1)->k∈own.map (·.1))/\∀M w σ ks u,J0G M w σ own ks->Den M w σ v u->∃M',J0G M' w σ own' ks/\Tr M w σ own M' w σ own'/\Den M' w σ v' u/\Ext M w M' w:=by
 have triv:J3a own sz p v K->∃v' own',J3a own' sz p v' K/\(∀k,k∈own'.map (·.1)->k∈own.map (·.1))/\∀M w σ ks u,J0G M w σ own ks->Den M w σ v u->∃M',J0G M' w σ own' ks/\Tr M w σ own M' w σ own'/\Den M' w σ v' u/\Ext M w M' w :=
  fun h=>⟨v,own,h,fun _ h=>h,fun M w σ ks u hh hd=>⟨M,hh,Tr.refl _ _ _ _,hd,⟨fun _ _ h=>⟨h,rfl⟩,Nat.le_refl _⟩⟩⟩
 unfold J66 at h;split at h
 . split at h
   . split at h
     . exact J2N h
     . exact triv h
   . exact triv h
 . exact triv h
theorem J98 (l:List Value):∀(k:Nat) (cells:Array Value) (off:Nat),off+k+l.length<=cells.size ->
 (l.zipIdx k).foldl (fun cs (p:Value×Nat)=>cs.setIfInBounds (off+p.2) p.1) cells=(cells.toList.take (off+k)++l++cells.toList.drop (off+k+l.length)).toArray:=by
 induction l with
 | nil =>
   intro k cells off h;apply Array.ext';simp
 | cons x l ih =>
   intro k cells off h;simp only[List.length_cons] at h;rw[List.zipIdx_cons,List.foldl_cons,ih (k+1) _ off (by simp;omega)];apply Array.ext';simp only[Array.toList_setIfInBounds];have hlen:off+k<cells.toList.length:=by simp;omega
   apply List.ext_getElem?;intro i;have g1:=J0I (cells.toList.set (off+k) x) l (off+(k+1)) (by simp;omega) i;have g2:=J0I cells.toList (x::l) (off+k) (by simp;omega) i;rw[g1,g2];simp only[List.length_cons,List.getElem?_set];by_cases h1:i<off+k
   . rw[if_pos (by omega),if_pos h1,if_neg (by omega)]
   . by_cases h2:i=off+k
     . subst h2;rw[if_pos (by omega),if_pos rfl,if_pos hlen,if_neg (by omega),if_pos (by omega)];simp
     . rw[if_neg (by omega),if_neg h1];by_cases h3:i<off+(k+1)+l.length
       . rw[if_pos h3,if_pos (by omega)];rw[show i-(off+k)=(i-(off+(k+1)))+1 by omega];simp
       . rw[if_neg h3,if_neg (by omega),if_neg (by omega)]
theorem J6P {place:Nat->Option (Nat×Nat)} {cells:Array Value} {i off size:Nat} {v:Value} {rest:List (Nat×Value)} (hp:place i=some (off,size)) (hs:v.cells.size=size) (hfit:off+size<=cells.size) :
 Instr.fill place cells ((i,v)::rest)=Instr.fill place (cells.toList.take off++v.cells.toList++cells.toList.drop (off+size)).toArray rest:=by
 have hf:=J98 v.cells.toList 0 cells off (by simp;omega);simp only[Nat.add_zero,Array.length_toList,hs] at hf;have he:v.cells.zipIdx.foldl (fun cs (p:Value×Nat)=>cs.setIfInBounds (off+p.2) p.1) cells=(cells.toList.take off++v.cells.toList++cells.toList.drop (off+size)).toArray:=by
  rw[<- hf,<- Array.foldl_toList];simp
 have hb:(decide (v.cells.size≠size) || decide (off+v.cells.size > cells.size))=false:=by simp[hs];omega
 simp only[Instr.fill,hp,hb,Bool.false_eq_true,if_false];exact congrArg (fun c=>Instr.fill place c rest) he
def Q1U (env:Env):List (Nat×Nat×X)->List V->(List V->Prop)->Prop
 | [],zs,K=>K zs
 | (off,size,x)::r,zs,K=>x.get env fun v=>v.cellsK fun vs=>match Nat.beq vs.length size,Nat.ble (off+size) zs.length,J27 V.cellB vs with
   | true,true,true=>Q4y zs off vs fun zs=>Q1U env r zs K
   | _,_,_=>False
def J5p (place:Nat->Option (Nat×Nat)):List (Nat×Operand)->Option (List (Nat×Nat×X))
 | []=>some []
 | (i,o)::r=>match place i,cX o,J5p place r with
   | some (off,size),some x,some l=>some ((off,size,x)::l)
   | _,_,_=>none
theorem J4G (env:Env) (place:Nat->Option (Nat×Nat)):∀(ps:List (Nat×Operand)) (l:List (Nat×Nat×X)) (zs:List V) (K:List V->Prop),J5p place ps=some l->Q1U env l zs K ->
 ∃r,K r/\r.length=zs.length/\((∀z∈zs,z.cellB=true)->∀z∈r,z.cellB=true) /\
 ∀M w σ (a:Act) (us:List Value),(∀x,x∈l.map (·.2.2)->XOk M w σ env a x)->zs.length=us.length->(∀(i:Nat) (v:V) (u:Value),zs[i]?=some v->us[i]?=some u->Den M w σ v u) ->
  ∃us':List Value,Instr.fill place us.toArray (ps.map fun p=>(p.1,a.eval p.2))=some us'.toArray/\us'.length=us.length /\
   (∀(i:Nat) (v:V) (u:Value),r[i]?=some v->us'[i]?=some u->Den M w σ v u)
 | [],l,zs,K,hc,h=>by
   simp[J5p] at hc;subst hc;exact⟨zs,h,rfl,fun h=>h,fun M w σ a us _ hl hd=>⟨us,rfl,rfl,hd⟩⟩
 | (i,o)::ps,l,zs,K,hc,h=>by
   unfold J5p at hc;split at hc<;>simp only[Option.some.injEq,reduceCtorEq] at hc;rename_i off size x l' h1 h2 h3;subst hc;obtain⟨v,h,hv⟩:=J0b h2 h;obtain⟨vs,h,hvs⟩:=J1f h;split at h
   . rename_i e1 e2 e3;have e1:=Nat.eq_of_beq_eq_true e1;have e2:=Nat.le_of_ble_eq_true e2;obtain⟨zs',h,s1,s2,s3⟩:=J2F _ _ _ _ h;obtain⟨r,hK,r1,r2,r3⟩:=J4G env place ps l' zs' K h3 h;refine⟨r,hK,by omega,?_,?_⟩
     . intro hz;apply r2;intro z hzm;rw[s3] at hzm;rcases List.mem_append.1 hzm with hm|hm
       . rcases List.mem_append.1 hm with hm|hm
         . exact hz z (List.mem_of_mem_take hm)
         . exact J0v e3 z hm
       . exact hz z (List.mem_of_mem_drop hm)
     . intro M w σ a us hx hl hd;obtain⟨l1,l2⟩:=hvs M w σ _ (hv M w σ a (hx x (by simp)));have hsz:(a.eval o).cells.size=size:=by omega
       have lenu:(a.eval o).cells.toList.length=size:=by simpa using hsz
       have hsp:=J0L us (a.eval o).cells.toList off (by omega);rw[lenu] at hsp;obtain⟨us',f1,f2,f3⟩:=r3 M w σ a (us.take off++(a.eval o).cells.toList++us.drop (off+size)) (fun y hy=>hx y (by simp only[List.map_cons,List.mem_cons];exact .inr hy)) (by omega) (by
        intro j v' u' hv' hu';have g1:=J0I us (a.eval o).cells.toList off (by omega) j;rw[lenu] at g1;have g2:=J0I zs vs off (by omega) j;rw[<- s3,e1] at g2;rw[g1] at hu';rw[g2] at hv';split at hv'
        . rename_i c1;rw[if_pos c1] at hu';exact hd j v' u' hv' hu'
        . rename_i c1;rw[if_neg c1] at hu';split at hv'
          . rename_i c2;rw[if_pos c2] at hu';exact l2 _ v' u' hv' (by simpa using hu')
          . rename_i c2;rw[if_neg c2] at hu';exact hd j v' u' hv' hu')
       refine⟨us',?_,by omega,f3⟩;rw[List.map_cons,J6P h1 hsz (by simp;omega)];exact f1
   . exact h.elim
def flatK (s:Nat):List V->(List V->Prop)->Prop
 | [],K=>K []
 | v::r,K=>v.cellsK fun vs=>match Nat.beq vs.length s,J27 V.cellB vs with
   | true,true=>flatK s r fun cs=>K (vs++cs)
   | _,_=>False
theorem J4D (s:Nat):∀(l:List V) (K:List V->Prop),flatK s l K->∃cs,K cs/\cs.length=l.length*s /\
 ∀M w σ (us:List Value),l.length=us.length->(∀(i:Nat) (v:V) (u:Value),l[i]?=some v->us[i]?=some u->Den M w σ v u) ->
  (∀u∈us,u.cells.size=s)/\∀i u,us[i]?=some u->∀j,j<s->∃x v,u.cells[j]?=some x/\x.oneCell'=true/\cs[i*s+j]?=some v/\Den M w σ v x
 | [],K,h=>⟨[],h,by simp,fun M w σ us hl _=>by
    have:us=[]:=List.eq_nil_of_length_eq_zero (by simpa using hl.symm);subst this;simp⟩
 | v::r,K,h=>by
   obtain⟨vs,hA,hvs⟩:=J1f h;clear h;split at hA
   . rename_i e1 e2;have e1:=Nat.eq_of_beq_eq_true e1;obtain⟨cs,hK,hl,hr⟩:=J4D s r _ hA;refine⟨_,hK,by simp[hl,e1,Nat.add_mul,Nat.add_comm],fun M w σ us hlu hd=>?_⟩;cases us with
     | nil=>simp at hlu
     | cons u us =>
       obtain⟨c1,c2⟩:=hvs M w σ u (hd 0 v u (by simp) (by simp));obtain⟨d1,d2⟩:=hr M w σ us (by simpa using hlu) (fun i v u hv hu=>hd (i+1) v u (by simpa using hv) (by simpa using hu));refine⟨fun u' hu'=>?_,fun i u' hu' j hj=>?_⟩
       . rcases List.mem_cons.1 hu' with e|e
         . subst e;omega
         . exact d1 u' e
       . cases i with
         | zero =>
           simp at hu';subst hu';have hj1:j<vs.length:=by omega
           have hj2:j<u.cells.size:=by omega
           have hdd:=c2 j vs[j] u.cells[j] (by simp[hj1]) (by simp[hj2]);refine⟨u.cells[j],vs[j],by simp[hj2],hdd.oneCell (J0v e2 _ (List.getElem_mem hj1)),?_,hdd⟩;rw[List.getElem?_append_left (by omega)];simp[hj1]
         | succ i =>
           obtain⟨x,y,a1,a2,a3,a4⟩:=d2 i u' (by simpa using hu') j hj;refine⟨x,y,a1,a2,?_,a4⟩;rw[List.getElem?_append_right (by rw[e1,Nat.add_mul];omega)];rw[show(i+1)*s+j-vs.length=i*s+j by rw[e1,Nat.add_mul];omega];exact a3
   . exact hA.elim
def Q3i (s:Nat):List V->(List (List V)->Prop)->Prop
 | [],K=>K []
 | v::r,K=>v.cellsK fun vs=>match Nat.beq vs.length s,J27 V.cellB vs,J27 V.kf1 vs with
   | true,true,true=>Q3i s r fun rs=>K (vs::rs)
   | _,_,_=>False
theorem J4i (s:Nat):∀(l:List V) (K:List (List V)->Prop),Q3i s l K->∃rs,K rs/\rs.length=l.length /\
 ∀M w σ (us:List Value),l.length=us.length->(∀(i:Nat) (v:V) (u:Value),l[i]?=some v->us[i]?=some u->Den M w σ v u) ->
  (∀u∈us,u.cells.size=s)/\∀i u,us[i]?=some u->∀j,j<s->∃x,u.cells[j]?=some x/\x.oneCell'=true/\Den M w Sg.none (tab rs i j) x
 | [],K,h=>⟨[],h,rfl,fun M w σ us hl _=>by
    have:us=[]:=List.eq_nil_of_length_eq_zero (by simpa using hl.symm);subst this;simp⟩
 | v::l,K,h=>by
   obtain⟨vs,h,hvs⟩:=J1f h;split at h
   . rename_i e1 e2 e3;have e1:=Nat.eq_of_beq_eq_true e1;obtain⟨rs,hK,hl,hr⟩:=J4i s l _ h;refine⟨vs::rs,hK,by simp[hl],?_⟩;intro M w σ us hlen hd;cases us with
     | nil=>simp at hlen
     | cons u us =>
       obtain⟨l1,l2⟩:=hvs M w σ u (hd 0 v u (by simp) (by simp));obtain⟨q1,q2⟩:=hr M w σ us (by simpa using hlen) (fun i v' u' h1 h2=>hd (i+1) v' u' (by simpa using h1) (by simpa using h2));refine⟨?_,?_⟩
       . intro x hx;rcases List.mem_cons.1 hx with e|e
         . subst e;omega
         . exact q1 x e
       . intro i u' hu' j hj;cases i with
         | zero =>
           simp at hu';subst hu';have hj1:j<vs.length:=by omega
           have hj2:j<u.cells.size:=by omega
           have hdj:=l2 j vs[j] u.cells[j] (by simp[hj1]) (by simp[hj2]);refine⟨u.cells[j],by simp[hj2],hdj.oneCell (J0v e2 _ (List.getElem_mem hj1)),?_⟩;have:=hdj.kf1 (J0v e3 _ (List.getElem_mem hj1)) Sg.none;simpa[tab,List.getD,hj1] using this
         | succ i =>
           obtain⟨x,x1,x2,x3⟩:=q2 i u' (by simpa using hu') j hj;exact⟨x,x1,x2,by simpa[tab] using x3⟩
   . exact h.elim
def J1h {α:Type}:Nat->List (Nat×α)->Bool
 | _,[]=>true
 | i,(k,_)::r=>match Nat.beq k i with|true=>J1h (i+1) r|false=>false
theorem J4F (s:Nat):∀(ps:List (Nat×Value)) (i:Nat) (cells:Array Value),J1h i ps=true->(∀p∈ps,p.2.cells.size=s)->(i+ps.length)*s<=cells.size ->
 ∃cells',Instr.fill (fun i=>some (i*s,s)) cells ps=some cells'/\cells'.size=cells.size/\(∀q,q<i*s->cells'[q]?=cells[q]?) /\
  ∀r p,ps[r]?=some p->∀j,j<s->cells'[(i+r)*s+j]?=p.2.cells[j]?
 | [],i,cells,_,_,_=>⟨cells,rfl,rfl,fun _ _=>rfl,by simp⟩
 | (k,v)::ps,i,cells,hi,hs,hfit=>by
   unfold J1h at hi;split at hi
   . rename_i hk;have hk:=Nat.eq_of_beq_eq_true hk;subst hk;have hsz:v.cells.size=s:=hs (k,v) (by simp);have h1:k*s+s<=cells.size:=by
      have:(k+1)*s<=(k+(ps.length+1))*s:=Nat.mul_le_mul_right _ (by omega);rw[Nat.succ_mul] at this;simp only[List.length_cons] at hfit;omega
     have lenv:v.cells.toList.length=s:=by simpa using hsz
     have hsp:=J0L cells.toList v.cells.toList (k*s) (by simp;omega);rw[lenv] at hsp;obtain⟨c',f1,f2,f3,f4⟩:=J4F s ps (k+1) (cells.toList.take (k*s)++v.cells.toList++cells.toList.drop (k*s+s)).toArray hi (fun p hp=>hs p (by simp[hp]))
      (by simp only[List.size_toArray,hsp,Array.length_toList];simp only[List.length_cons] at hfit;rw[show k+1+ps.length=k+(ps.length+1) by omega];exact hfit)
     have g:=J0I cells.toList v.cells.toList (k*s) (by simp;omega);rw[lenv] at g;refine⟨c',?_,by rw[f2];simp only[List.size_toArray,hsp,Array.length_toList],?_,?_⟩
     . rw[J6P (place:=fun i=>some (i*s,s)) rfl hsz (by omega)];exact f1
     . intro q hq;rw[f3 q (by rw[Nat.succ_mul];omega),List.getElem?_toArray,g q,if_pos hq];simp
     . intro r p hp j hj;cases r with
       | zero =>
         simp at hp;subst hp;rw[Nat.add_zero,f3 _ (by rw[Nat.succ_mul];omega),List.getElem?_toArray,g,if_neg (by omega),if_pos (by omega),show k*s+j-k*s=j by omega];simp
       | succ r =>
         have:=f4 r p (by simpa using hp) j hj;rw[show k+(r+1)=k+1+r by omega];exact this
   . cases hi
open Go.MapKept (bytes_beq)
inductive XOp where
 | mks (s bytes:Nat) (zs:List V) (x:X)
 | mkmap (ik:MKd)
 | mget (ik:MKd) (z:V) (comma:Bool) (m x:X)
 | mput (ik:MKd) (m x y:X)
 | mrng (x:X)
 | mnxt (x:X)
 | ment (x:X)
 | gix (g n s:Nat) (x:X)
 | asl (n s:Nat) (x:X) (hi:Option X)
 | cpy (s:Nat) (x y:X)
 | mln (x:X)
def XOp.xs:XOp->List X
 | .mks _ _ _ x | .mrng x | .mnxt x | .ment x | .mln x | .gix _ _ _ x=>[x]
 | .mkmap _=>[]
 | .mget _ _ _ m x=>[m,x]
 | .mput _ m x y=>[m,x,y]
 | .asl _ _ x hi=>x::Xo hi
 | .cpy _ x y=>[x,y]
def J1z {α:Type} [DecidableEq α]:List (α×V)->α->Option V
 | [],_=>none
 | (q,v)::r,p=>if q=p then some v else J1z r p
def mput {α:Type} [DecidableEq α]:List (α×V)->α->V->List (α×V)
 | [],p,v=>[(p,v)]
 | (q,u)::r,p,v=>if q=p then (q,v)::r else (q,u)::mput r p v
def stK:(l:List IntKind)->List V->(KyS l->Prop)->Prop
 | [],[],K=>K ()
 | k::l,.int k' a::r,K=>match decide (k'=k) with
   | true=>stK l r fun p=>K (a,p)
   | false=>False
 | _,_,_=>False
def stV:(l:List IntKind)->KyS l->List V
 | [],_=>[]
 | k::r,p=>.int k p.1::stV r p.2
def J7k (ik:MKd) (v:V) (K:KyT ik->Prop):Prop :=
 match ik with
 | .pair ik=>match v with
   | .agg [.int k a,.int k' b]=>match decide (k=ik),decide (k'=ik) with
     | true,true=>K (a,b)
     | _,_=>False
   | _=>False
 | .one ik=>match v with
   | .int k a=>match decide (k=ik) with
     | true=>K a
     | false=>False
   | _=>False
 | .str=>match v with
   | .str s=>K s
   | _=>False
 | .st l=>match v with
   | .agg vs=>stK l vs K
   | _=>False
def Q5E:(ik:MKd)->KyT ik->V
 | .pair k,p=>.agg [.int k p.1,.int k p.2]
 | .one k,p=>.int k p
 | .str,p=>.str p
 | .st l,p=>.agg (stV l p)
structure Q4e (o:Option V) (A:V->Prop) (B:Prop):Prop where
 hit:∀v,o=some v->A v
 miss:o=none->B
structure Q5e {α:Type} (n:Nat) (J1h:List Nat) (es:List α) (A:Nat->α->Prop) (B:Prop):Prop where
 one:∀i p,i<n->i∉J1h->es[i]?=some p->A i p
 over:(∀i,i<n->i∈J1h)->B
def Q37 (own:Own) (m:V) (K:Nat->(ik:MKd)->List (KyT ik×V)->Prop):Prop :=
 match m with
 | .map k=>match look own k with
   | some (.map ik es)=>K k ik es
   | _=>False
 | _=>False
def Q1M (own:Own) (m:V) (K:Nat->Nat->Nat->List Nat->(ik:MKd)->List (KyT ik×V)->Prop):Prop :=
 match m with
 | .loc k 0=>match look own k with
   | some (.iter km n J1h)=>match look own km with
     | some (.map ik es)=>Chk (Nat.beq es.length n) (K k km n J1h ik es)
     | _=>False
   | _=>False
 | _=>False
def Q5D (l:List Nat) (K:Nat->Prop):Prop:=∃i,l.getLast?=some i/\K i
def Q4W (own:Own) (g:Nat) (K:Nat->(Nat->Nat->V)->Prop):Prop :=
 match look own 999 with
 | some (.glob g' m f)=>match Nat.beq g g' with
   | true=>K m f
   | false=>False
 | _=>False
inductive MkS (A B:Prop):Prop where
 | vec (h:A):MkS A B
 | cells (h:B):MkS A B
def Q5z (s m:Nat) (zs:List V) (own:Own) (k:Nat) (ks:List Nat) (K:V->Own->List Nat->Prop):Prop :=
 match s with
 | 1=>MkS (K (.vec k 1 0 m) ((k,.vec m 1 (fun _ j=>zs.getD j default))::own) ks) (K (.vec k 1 0 m) ((k,.cells (List.replicate m (zs.getD 0 default)))::own) ks)
 | s=>K (.vec k s 0 m) ((k,.vec m s (fun _ j=>zs.getD j default))::own) ks
theorem J70 {s m:Nat} {zs:List V} {own:Own} {k:Nat} {ks:List Nat} {K:V->Own->List Nat->Prop} (h:Q5z s m zs own k ks K) :
 K (.vec k s 0 m) ((k,.vec m s (fun _ j=>zs.getD j default))::own) ks\/(s=1/\K (.vec k 1 0 m) ((k,.cells (List.replicate m (zs.getD 0 default)))::own) ks):=by
 unfold Q5z at h;split at h
 . cases h with
   | vec h=>exact .inl h
   | cells h=>exact .inr ⟨rfl,h⟩
 . exact .inl h
def vcpy (own:Own) (s:Nat) (a b:V) (K:Nat->Own->Prop):Prop :=
 Q34 own s b fun m fy=>match a with
  | .vec k s' lo len=>match look own k with
    | some (.vec n s'' f)=>match Nat.beq s s',Nat.beq s s'' with
      | true,true=>Len m len (Len (lo+m) n (J8v k (.vec n s (J97 f lo m fy)) own (K m)))
      | _,_=>False
    | _=>False
  | _=>False
def Q5q (o:XOp) (env:Env) (own:Own) (ks:List Nat) (K:V->Own->List Nat->Prop):Prop :=
 match o with
 | .mks s bytes zs x=>x.get env fun v=>match v with
   | .int _ n=>Bd n 4611686018427387904 fun m=>Len (m*bytes) 140737488355328 (fresh ks fun k ks=>Q5z s m zs own k ks K)
   | _=>False
 | .mkmap ik=>fresh ks fun k ks=>K (.map k) ((k,.map ik [])::own) ks
 | .mget ik z comma m x=>m.get env fun m=>x.get env fun x=>Q37 own m fun _ ik' es=>match decide (ik'=ik) with
   | true=>J7k ik' x fun p=>Q4e (J1z es p) (fun v=>match comma with|true=>K (.tup [v,.bool true]) own ks|false=>K v own ks) (match comma with|true=>K (.tup [z,.bool false]) own ks|false=>K z own ks)
   | false=>False
 | .mput ik m x y=>m.get env fun m=>x.get env fun x=>y.get env fun y=>Q37 own m fun k ik' es=>match decide (ik'=ik),y.kf2 with
   | true,true=>J7k ik' x fun p=>J8v k (.map ik' (mput es p y)) own fun own=>K (.raw (.tuple #[])) own ks
   | _,_=>False
 | .mrng x=>x.get env fun m=>Q37 own m fun km _ es=>fresh ks fun k ks=>K (.loc k 0) ((k,.iter km es.length [])::own) ks
 | .mnxt x=>x.get env fun m=>Q1M own m fun k km n J1h ik es =>
    Q5e n J1h es (fun i p=>J8v k (.iter km n (J1h++[i])) own fun own=>K (.tup [.bool true,Q5E ik p.1,p.2]) own ks) (K (.tup [.bool false]) own ks)
 | .ment x=>x.get env fun m=>Q1M own m fun _ _ _ J1h ik es=>Q5D J1h fun i=>∃p,es[i]?=some p/\K (.tup [Q5E ik p.1,p.2]) own ks
 | .asl n s x hi=>x.get env fun p=>match p with
   | .oel k s' 0 0=>match look own k with
     | some (.vec n' s'' f)=>match Nat.beq s s',Nat.beq s s'',Nat.ble n n' with
       | true,true,true=>bdK hi env n n fun h=>K (.fz h s false f) (J1M [k] own) ks
       | _,_,_=>False
     | _=>False
   | _=>False
 | .cpy s x y=>x.get env fun a=>y.get env fun b=>vcpy own s a b fun m own=>K (.int .i64 m) own ks
 | .mln x=>x.get env fun m=>Q37 own m fun _ _ es=>K (.int .i64 es.length) own ks
 | .gix g n s x=>x.get env fun v=>match v with
   | .int _ i=>Q4W own g fun m f=>match Nat.beq s 1,Nat.beq n m with
     | true,true=>Ix i n fun j=>K (.fe m 1 f j 0) own ks
     | _,_=>False
   | _=>False
def Q2q (P:Program):Nat->List Field->Option (List IntKind)
 | _,[]=>some []
 | i,f::r=>match Nat.beq f.offset i,f.name == "_",P.underlying f.type,Q2q P (i+1) r with
   | true,false,some (.int k),some l=>some (k::l)
   | _,_,_,_=>none
def Q39 (P:Program) (t:TypeId):Option (MKd×TypeId×TypeId×TypeId) :=
 match P.underlying t with
 | some (.map kt et)=>match P.underlying kt with
   | some (.array 2 e)=>match P.underlying e,J11 P e with
     | some (.int k),some 1=>some (.pair k,kt,et,e)
     | _,_=>none
   | some (.int k)=>some (.one k,kt,et,kt)
   | some .string=>some (.str,kt,et,kt)
   | some (.struct fs)=>match P.stoodInHeld kt,Q2q P 0 fs.toList with
     | false,some l=>some (.st l,kt,et,kt)
     | _,_=>none
   | _=>none
 | _=>none
def Q4h (P:Program) (t:TypeId):Option V:=match P.info? t with
 | some i=>match i.zero with
   | some z=>J4o z
   | none=>none
 | none=>none
def Q2b (P:Program) (op:Op):Option XOp :=
 match op with
 | .makeSlice t l c=>match P.underlying t with
   | some (.slice e)=>match J11 P e,(P.info? e).map (·.bytes),J1c P e,cX l,J6q (some l) (some c) with
     | some s,some b,some zs,some x,true=>match Nat.beq zs.length s,J27 V.kf1 zs with
       | true,true=>some (.mks s b zs x)
       | _,_=>none
     | _,_,_,_,_=>none
   | _=>none
 | .makeMap t none=>(Q39 P t).map fun p=>.mkmap p.1
 | .lookup t m x comma=>match Q39 P t,cX m,cX x with
   | some (ik,_,et,_),some m,some x=>(Q4h P et).map fun z=>.mget ik z comma m x
   | _,_,_=>none
 | .mapUpdate t m x y=>match Q39 P t,cX m,cX x,cX y with
   | some (ik,_,_,_),some m,some x,some y=>some (.mput ik m x y)
   | _,_,_,_=>none
 | .range t x=>match Q39 P t with
   | some _=>(cX x).map .mrng
   | none=>none
 | .next x false=>(cX x).map .mnxt
 | .entry x=>(cX x).map .ment
 | .indexAddr t (.global g) i=>match P.underlying t,cX i with
   | some (.array n e),some i=>(J11 P e).map fun s=>.gix g n s i
   | _,_=>none
 | .slice t x none hi none=>match P.underlying t with
   | some (.array n e)=>match J11 P e,cX x,cXo hi with
     | some s,some x,some hi=>some (.asl n s x hi)
     | _,_,_=>none
   | _=>none
 | .call { callee:=.builtin .copy,args,argTypes }=>match args.toList,argTypes.toList with
   | [x,y],[t,_]=>match P.underlying t with
     | some (.slice e)=>match J11 P e,cX x,cX y with
       | some s,some x,some y=>some (.cpy s x y)
       | _,_,_=>none
     | _=>none
   | _,_=>none
 | .call { callee:=.builtin .len,args,argTypes }=>match args.toList,argTypes.toList with
   | [x],[t]=>match P.underlying t with
     | some (.map _ _)=>(cX x).map .mln
     | _=>none
   | _,_=>none
 | _=>none
section
variable {P:Program} {t kt et e:TypeId} {ik:MKd}
def Q0C (P:Program) (ik:MKd) (kt e:TypeId):Prop :=
 match ik with
 | .pair k=>P.underlying kt=some (.array 2 e)/\P.underlying e=some (.int k)/\J11 P e=some 1
 | .one k=>P.underlying kt=some (.int k)
 | .str=>P.underlying kt=some .string
 | .st l=>P.underlying kt=some (.struct (P.fieldsOf kt))/\P.stoodInHeld kt=false/\Q2q P 0 (P.fieldsOf kt).toList=some l
theorem J4x (h:Q39 P t=some (ik,kt,et,e)):P.underlying t=some (.map kt et)/\Q0C P ik kt e:=by
 unfold Q39 at h;split at h
 . rename_i kt' et' h1;split at h
   . rename_i e' h2;split at h
     . rename_i k h3 h4;cases h;exact⟨h1,h2,h3,h4⟩
     . cases h
   . rename_i k h2;cases h;exact⟨h1,h2⟩
   . rename_i h2;cases h;exact⟨h1,h2⟩
   . rename_i fs h2;split at h
     . rename_i l h3 h4;cases h;have e:P.fieldsOf kt=fs:=by simp only[Program.fieldsOf,h2]
       exact⟨h1,by rw[e];exact h2,h3,by rw[e];exact h4⟩
     . cases h
   . cases h
 . cases h
theorem J43 {k:IntKind} (he:P.underlying e=some (.int k)) (w:World):(isAgg e).run P w=.ok false w:=J1D (show J1e P e=some false by simp[J1e,he]) w
theorem J4h (b:Bool) (w:World):∀(fs:List Field) (i:Nat) (l:List IntKind) (p:KyS l) (pre:List Value),Q2q P i fs=some l->pre.length=i ->
 (forIn fs PUnit.unit (fun f (_:PUnit)=>(if f.name≠ "_" then (do let v <- part f.type (pre++stP l p).toArray f.offset;Instr.checkKey b 9999 f.type v;pure (ForInStep.yield PUnit.unit)) else pure (ForInStep.yield PUnit.unit):Sem (ForInStep PUnit)))).run P w=.ok PUnit.unit w
 | [],i,l,p,pre,h,hp=>by simp[go_sem]
 | f::fs,i,l,p,pre,h,hp=>by
   unfold Q2q at h;split at h
   case h_2=>cases h
   rename_i k l' h1 h2 h3 h4;cases h;have hoff:=Nat.eq_of_beq_eq_true h1;have hname:f.name≠ "_":=by simpa using h2
   have hag:=J1D (show J1e P f.type=some false by simp[J1e,h3]) w;have hpart:(part f.type (pre++stP (k::l') p).toArray f.offset).run P w=.ok (.int k p.1) w:=J0M (by simp[J1e,h3]) (by simp[stP,hoff,<- hp]) w;have hck:(Instr.checkKey b 9999 f.type (.int k p.1)).run P w=.ok () w:=by
    rw[show(9999:Nat)=9998+1 from rfl,Instr.checkKey];simp[Sem.run_bind,run_underlying h3,go_sem]
   have ih:=J4h b w fs (i+1) l' p.2 (pre++[.int k p.1]) h4 (by simp[hp]);simp only[List.append_assoc,List.singleton_append] at ih;simp only[List.forIn_cons,Sem.run_bind,hname,ne_eq,not_false_eq_true,if_true,hpart,hck,Result.andThen_ok,Sem.run_pure];exact ih
theorem J7R (w:World):∀(fs:List Field) (i:Nat) (l:List IntKind) (p q:KyS l) (pre pre':List Value),Q2q P i fs=some l->pre.length=i->pre'.length=i ->
 (Op.eqFields 9999 (pre++stP l p).toArray (pre'++stP l q).toArray fs).run P w=.ok (@decide (q=p) (KyS.dec l q p)) w
 | [],i,l,p,q,pre,pre',h,hp,hq=>by
   simp only[Q2q,Option.some.injEq] at h;subst h;simp only[Op.eqFields,Sem.run_pure];rw[@decide_eq_true _ (KyS.dec [] q p) rfl]
 | f::fs,i,l,p,q,pre,pre',h,hp,hq=>by
   unfold Q2q at h;split at h
   case h_2=>cases h
   rename_i k l' h1 h2 h3 h4;cases h;have hoff:=Nat.eq_of_beq_eq_true h1;have hname:f.name≠ "_":=by simpa using h2
   have p1:(part f.type (pre++stP (k::l') p).toArray f.offset).run P w=.ok (.int k p.1) w:=J0M (by simp[J1e,h3]) (by simp[stP,hoff,<- hp]) w;have p2:(part f.type (pre'++stP (k::l') q).toArray f.offset).run P w=.ok (.int k q.1) w:=J0M (by simp[J1e,h3]) (by simp[stP,hoff,<- hq]) w;have p3:(Op.equalIn 9999 f.type (.int k p.1) (.int k q.1)).run P w=.ok (p.1 == q.1) w:=run_equalIn_int w 9998 f.type _ _ _ _ h3;have ih:=J7R w fs (i+1) l' p.2 q.2 (pre++[.int k p.1]) (pre'++[.int k q.1]) h4 (by simp[hp]) (by simp[hq]);simp only[List.append_assoc,List.singleton_append] at ih;simp only[Op.eqFields,hname,ne_eq,not_false_eq_true,if_true,Sem.run_bind,p1,p2,p3,Result.andThen_ok];obtain⟨a,p⟩:=p;obtain⟨c,q⟩:=q;by_cases e:a=c
   . subst e;simp only[beq_self_eq_true,Bool.not_true,Bool.false_eq_true,if_false];refine ih.trans ?_;congr 1;rw[Bool.eq_iff_iff];simp only[decide_eq_true_eq];exact⟨fun h=>by rw[h],fun h=>(Prod.mk.inj h).2⟩
   . have e1:(a == c)=false:=by simpa using e
     simp only[e1,Bool.not_false,if_true,Sem.run_pure];congr 1;symm;exact @decide_eq_false _ (KyS.dec (k::l') (c,q) (a,p)) (fun h=>e (Prod.mk.inj h).1.symm)
theorem J1x (hk:Q0C P ik kt e) (b:Bool) (p:KyT ik) (w:World):(Instr.checkKey b 10000 kt (J1u ik p)).run P w=.ok () w:=by
 cases ik with
 | pair k =>
   obtain⟨hk,he,hs⟩:=hk;have h1:∀(v:Int),(Instr.checkKey b 9999 e (.int k v)).run P w=.ok () w:=by
    intro v;rw[show(9999:Nat)=9998+1 from rfl,Instr.checkKey];simp[Sem.run_bind,run_underlying he,go_sem]
   have hag:=J43 he w;rw[Instr.checkKey];simp only[J1u,Sem.run_bind,run_underlying hk,Result.andThen_ok];simp[Sem.run_bind,J0T hs,hag,h1,show List.range' 0 2=[0,1] from rfl,List.forIn_cons,List.forIn_nil,go_sem]
 | one k =>
   have hk:P.underlying kt=some (.int k):=hk;rw[Instr.checkKey];simp[J1u,Sem.run_bind,run_underlying hk,go_sem]
 | str =>
   have hk:P.underlying kt=some .string:=hk;rw[Instr.checkKey];simp[J1u,Sem.run_bind,run_underlying hk,go_sem]
 | st l =>
   obtain⟨hk,hs,hl⟩:=hk;rw[Instr.checkKey];simp only[J1u,Sem.run_bind,run_underlying hk,Result.andThen_ok];rw[<- Array.forIn_toList];have:=J4h (P:=P) b w _ 0 l p [] hl rfl;simp only[List.nil_append] at this;rw[this];rfl
theorem J44 (hk:Q0C P ik kt e) (p q:KyT ik) (w:World):(Op.equal kt (J1u ik p) (J1u ik q)).run P w=.ok (decide (q=p)) w:=by
 cases ik with
 | pair k =>
   obtain⟨hk,he,hs⟩:=hk;have h1:∀(a b:Int),(Op.equalIn 9999 e (.int k a) (.int k b)).run P w=.ok (a == b) w:=by
    intro a b;rw[show(9999:Nat)=9998+1 from rfl,Op.equalIn];simp[Sem.run_bind,run_underlying he,go_sem]
   have hag:=J43 he w;unfold Op.equal Op.maxDepth;rw[Op.equalIn];simp only[J1u,Sem.run_bind,run_underlying hk,Result.andThen_ok];obtain⟨p1,p2⟩:=p;obtain⟨q1,q2⟩:=q;simp only;have hd:decide ((q1,q2)=(p1,p2))=((p1 == q1)&&(p2 == q2)):=by
    rw[Bool.eq_iff_iff];simp only[decide_eq_true_eq,Prod.mk.injEq,Bool.and_eq_true,beq_iff_eq];constructor<;>rintro⟨a,b⟩<;>exact⟨a.symm,b.symm⟩
   have hd':@decide (((q1,q2):KyT (.pair k))=(p1,p2)) (instDecidableEqKyT (.pair k) (q1,q2) (p1,p2))=((p1 == q1)&&(p2 == q2)):=hd;rw[hd'];by_cases e1:p1=q1
   . by_cases e2:p2=q2
     . simp[Sem.run_bind,J0T hs,hag,h1,show List.range' 0 2=[0,1] from rfl,List.forIn_cons,List.forIn_nil,go_sem,e1,e2]
     . simp[Sem.run_bind,J0T hs,hag,h1,show List.range' 0 2=[0,1] from rfl,List.forIn_cons,List.forIn_nil,go_sem,e1,e2]
   . simp[Sem.run_bind,J0T hs,hag,h1,show List.range' 0 2=[0,1] from rfl,List.forIn_cons,List.forIn_nil,go_sem,e1]
 | one k =>
   have hk:P.underlying kt=some (.int k):=hk;unfold Op.equal Op.maxDepth;rw[Op.equalIn];have hd:@decide (q=p) (instDecidableEqKyT (.one k) q p)=((p:Int) == q):=by
    rw[Bool.eq_iff_iff];simp only[decide_eq_true_eq,beq_iff_eq];exact⟨Eq.symm,Eq.symm⟩
   rw[hd];simp[J1u,Sem.run_bind,run_underlying hk,go_sem]
 | str =>
   have hk:P.underlying kt=some .string:=hk;unfold Op.equal Op.maxDepth;rw[Op.equalIn];have hd:∀(p q:ByteArray),@decide (q=p) (instDecidableEqKyT .str q p)=(p == q):=by
    intro p q;rw[Bool.eq_iff_iff,decide_eq_true_eq,bytes_beq];exact⟨Eq.symm,Eq.symm⟩
   rw[hd];simp[J1u,Sem.run_bind,run_underlying hk,go_sem]
 | st l =>
   obtain⟨hk,hs,hl⟩:=hk;unfold Op.equal Op.maxDepth;rw[J1u,J1u,run_equalIn_struct w 9999 kt _ _ hk hs];exact J7R w _ 0 l p q [] [] hl rfl rfl
theorem J8o.get {M:Nat->Prop} {w:World}:∀{l:List MapEntry} {es:List (KyT ik×V)} {i:Nat},J8o M w ik l es i->∀(j:Nat) (x:MapEntry),l[j]?=some x->∃p,es[j]?=some p/\x.key=J1u ik p.1/\x.born=i+j/\Den M w Sg.none p.2 x.val
 | [],[],_,_,j,x,hx=>by simp at hx
 | y::r,p::q,i,h,j,x,hx=>by
   cases j with
   | zero=>simp at hx;subst hx;exact⟨p,rfl,h.1.1,h.1.2.1,h.1.2.2⟩
   | succ j =>
     obtain⟨p',a,b,c,d⟩:=h.2.get j x (by simpa using hx);exact⟨p',by simpa using a,b,by omega,d⟩
 | [],_::_,_,h,_,_,_=>h.elim
 | _::_,[],_,h,_,_,_=>h.elim
theorem J8o.length {M:Nat->Prop} {w:World}:∀{l:List MapEntry} {es:List (KyT ik×V)} {i:Nat},J8o M w ik l es i->l.length=es.length
 | [],[],_,_=>rfl
 | _::_,_::_,_,h=>by simp[h.2.length]
 | [],_::_,_,h=>h.elim
 | _::_,[],_,h=>h.elim
theorem J4E (hk:Q0C P ik kt e) {M:Nat->Prop} {w:World} (p:KyT ik):∀(l:List MapEntry) (es:List (KyT ik×V)) (i:Nat),J8o M w ik l es i->∀j,
 (∃n x v,(Instr.findAsking kt (J1u ik p) l j).run P w=.ok (some (j+n,x.val)) w/\l[n]?=some x/\x.key=J1u ik p/\J1z es p=some v/\Den M w Sg.none v x.val /\
     ∀y,(∀u':Value,Den M w Sg.none y u'->J8o M w ik (l.modify n fun z=>{ z with key:=J1u ik p,val:=u' }) (mput es p y) i)) \/
 ((Instr.findAsking kt (J1u ik p) l j).run P w=.ok none w/\J1z es p=none/\∀y,∀u':Value,Den M w Sg.none y u'->J8o M w ik (l++[{ key:=J1u ik p,val:=u',born:=i+l.length }]) (mput es p y) i)
 | [],[],i,_,j=>.inr ⟨rfl,rfl,fun y u' hu=>⟨⟨rfl,rfl,hu⟩,True.intro⟩⟩
 | x::r,(q,v)::es,i,h,j=>by
   have hx:=h.1.1;have hrun:=J44 hk p q w;by_cases hqp:q=p
   . subst hqp;refine .inl ⟨0,x,v,?_,rfl,hx,by simp[J1z],h.1.2.2,fun y u' hu=>?_⟩
     . simp only[Instr.findAsking,hx,Sem.run_bind,hrun,Result.andThen_ok,decide_true,if_true];rfl
     . simp only[mput,if_true];exact⟨⟨rfl,h.1.2.1,hu⟩,h.2⟩
   . have hstep:(Instr.findAsking kt (J1u ik p) (x::r) j).run P w=(Instr.findAsking kt (J1u ik p) r (j+1)).run P w:=by
      simp only[Instr.findAsking,hx,Sem.run_bind,hrun,Result.andThen_ok,decide_eq_false hqp,Bool.false_eq_true,if_false]
     rcases J4E hk p r es (i+1) h.2 (j+1) with ⟨n,x',v',a1,a2,a3,a4,a5,a6⟩ | ⟨a1,a2,a3⟩
     . refine .inl ⟨n+1,x',v',by rw[hstep,a1,show j+1+n=j+(n+1) by omega],by simpa using a2,a3,by simp[J1z,hqp,a4],a5,fun y u' hu=>?_⟩;simp only[mput,if_neg hqp];exact⟨h.1,a6 y u' hu⟩
     . refine .inr ⟨by rw[hstep,a1],by simp[J1z,hqp,a2],fun y u' hu=>?_⟩;simp only[mput,if_neg hqp];have:=a3 y u' hu;rw[show i+1+r.length=i+(x::r).length by simp;omega] at this;exact⟨h.1,this⟩
 | [],_::_,_,h,_=>h.elim
 | _::_,[],_,h,_=>h.elim
theorem J1Y (hk:Q0C P ik kt e) (p:KyT ik) (l:List MapEntry) (w:World):(Instr.findKey kt (J1u ik p) l).run P w=(Instr.findAsking kt (J1u ik p) l).run P w:=by
 have key:∀d,P.underlying kt=some d->(∀x:Value,∀b,Instr.sameNow d (J1u ik p) x=some b->∃q:KyT ik,x=J1u ik q/\b=decide (q=p)) ->
  ∀(l:List MapEntry) (j:Nat) (r:Option (Nat×Value)),Instr.findNow d (J1u ik p) l j=some r->(Instr.findAsking kt (J1u ik p) l j).run P w=.ok r w:=by
  intro d hd hs l
  induction l with
  | nil=>intro j r h;simp only[Instr.findNow,Option.some.injEq] at h;subst h;rfl
  | cons x l ih =>
    intro j r h;simp only[Instr.findNow] at h;cases hx:Instr.sameNow d (J1u ik p) x.key with
    | none=>rw[hx] at h;cases h
    | some b =>
      obtain⟨q,e1,e2⟩:=hs x.key b hx;have hrun:=J44 hk p q w;rw[<- e2] at hrun;rw[hx] at h;cases b with
      | true =>
        simp only[Option.some.injEq] at h;subst h;simp only[Instr.findAsking,e1,Sem.run_bind,hrun,Result.andThen_ok,if_true];rfl
      | false =>
        simp only at h;simp only[Instr.findAsking,e1,Sem.run_bind,hrun,Result.andThen_ok,Bool.false_eq_true,if_false];exact ih (j+1) r h
 unfold Instr.findKey;have fin:∀d,P.underlying kt=some d->(∀x:Value,∀b,Instr.sameNow d (J1u ik p) x=some b->∃q:KyT ik,x=J1u ik q/\b=decide (q=p))->
  ((do match Instr.findNow (<- underlying kt) (J1u ik p) l 0 with
    | some r=>pure r
    | none=>Instr.findAsking kt (J1u ik p) l:Sem (Option (Nat×Value)))).run P w=(Instr.findAsking kt (J1u ik p) l).run P w:=by
  intro d hd hs;simp only[Sem.run_bind,run_underlying hd,Result.andThen_ok];cases hf:Instr.findNow d (J1u ik p) l 0 with
  | none=>rfl
  | some r=>rw[key d hd hs l 0 r hf];rfl
 cases ik with
 | st l=>exact fin _ hk.1 (fun x b h=>by cases x<;>simp[Instr.sameNow] at h)
 | pair k=>exact fin _ hk.1 (fun x b h=>by cases x<;>simp[Instr.sameNow] at h)
 | one k=>exact fin _ hk (fun x b h=>by
    cases x<;>simp[J1u,Instr.sameNow] at h;obtain⟨rfl,rfl⟩:=h;refine⟨_,rfl,?_⟩;rw[Bool.eq_iff_iff,decide_eq_true_eq,beq_iff_eq];exact⟨Eq.symm,Eq.symm⟩)
 | str=>exact fin _ hk (fun x b h=>by
    cases x<;>simp[J1u,Instr.sameNow] at h;subst h;refine⟨_,rfl,?_⟩;rw[Bool.eq_iff_iff,decide_eq_true_eq,bytes_beq];exact⟨Eq.symm,Eq.symm⟩)
end
end Go.Eng
namespace Go.Eng
theorem J6N {M:Nat->Prop} {w w':World} {σ:Sg} {own own':Own} {k':Nat} {ks:List Nat} (h:J0G M w σ own (k'::ks)) (k:Nat) (b:Blk) (hm:(k,b)∈own)
 (hown:∀q c,(q,c)∈own'↔(q≠k/\(q,c)∈own)) (hnd:(own'.map (·.1)).Nodup) (x:Option Nat×Nat×Nat) (b':Blk)
 (os:w'.os=w.os) (tape:J0R w' w) (output:w'.output=w.output) (size:w.heap.size<=w'.heap.size)
 (same:∀n,n<w.heap.size->¬ J0i w σ k b n->w'.heap[n]?=w.heap[n]?)
 (hnw:∀n,J0i w' (σ.set k' x) k' b' n->(w.heap.size<=n/\n<w'.heap.size)\/J0i w σ k b n)
 (hb:∀M',(∀n,M' n↔(M n/\n<w.heap.size)\/(w.heap.size<=n/\n<w'.heap.size))->Ext M w M' w'->J00 M' w' (σ.set k' x) k' b') :
 ∃M',J0G M' w' (σ.set k' x) ((k',b')::own') ks/\Tr M w σ own M' w' (σ.set k' x) ((k',b')::own'):=by
 have hk0:σ k'=none:=h.fresh k' (by simp);have hle:σ.le (σ.set k' x):=Sg.le_set x hk0;have hhM:∀n,J0i w σ k b n->M n/\n<w.heap.size:=fun n e=>J0q h.own ⟨k,b,hm,e⟩;let M':Nat->Prop:=fun n=>(M n/\n<w.heap.size)\/(w.heap.size<=n/\n<w'.heap.size);have hE:Ext M w M' w':=⟨fun n hn hM=>⟨by rintro (⟨e,_⟩|e);exact hM e;omega,same n hn fun e=>hM (hhM n e).1⟩,size⟩;have hne:∀q c,(q,c)∈own->q≠k':=fun q c hq e=>by
  obtain⟨y,hy⟩:=h.own.key hq;subst e;rw[hk0] at hy;cases hy
 have notk:∀q c n,q≠k->(q,c)∈own->J0i w σ q c n->¬ J0i w σ k b n:=fun q c n hqk hq e e'=>h.own.apart _ _ _ _ _ hq hm hqk e e';have keep:∀q c n,q≠k->(q,c)∈own->(J0i w' (σ.set k' x) q c n↔J0i w σ q c n):=fun q c n hqk hq =>
  J0J hle (h.own.key hq) fun ob hob=>same ob (J0q h.own ⟨q,c,hq,.inl hob⟩).2 (notk q c ob hqk hq (.inl hob))
 refine⟨M',⟨⟨?_,?_,?_⟩,?_,(List.nodup_cons.1 h.knodup).2⟩,⟨⟨os,tape,output,size,?_,?_⟩,?_,hle⟩⟩
 . intro q c hq;rcases List.mem_cons.1 hq with e|hq
   . cases e;exact hb M' (fun _=>Iff.rfl) hE
   . obtain⟨n1,n2⟩:=(hown q c).1 hq;refine(h.own.blk q c n2).mono hE hle fun n hn=>?_;obtain⟨m1,m2⟩:=J0q h.own ⟨q,c,n2,hn⟩;exact⟨.inl ⟨m1,m2⟩,same n m2 (notk q c n n1 n2 hn)⟩
 . simp only[List.map_cons,List.nodup_cons];refine⟨?_,hnd⟩;intro hmm;obtain⟨⟨q,c⟩,hq,e⟩:=List.mem_map.1 hmm;exact hne q c ((hown q c).1 hq).2 e
 . intro q1 c1 q2 c2 n h1 h2 hne' e1 e2;have cross:∀q c,(q,c)∈own'->J0i w' (σ.set k' x) q c n->J0i w' (σ.set k' x) k' b' n->False:=fun q c hq e e'=>by
    obtain⟨n1,n2⟩:=(hown q c).1 hq;have e0:=(keep q c n n1 n2).1 e;rcases hnw n e' with a|a
    . have:=(J0q h.own ⟨q,c,n2,e0⟩).2;omega
    . exact notk q c n n1 n2 e0 a
   rcases List.mem_cons.1 h1 with i1|i1
   . cases i1;rcases List.mem_cons.1 h2 with i2|i2
     . cases i2;exact hne' rfl
     . exact cross _ _ i2 e2 e1
   . rcases List.mem_cons.1 h2 with i2|i2
     . cases i2;exact cross _ _ i1 e1 e2
     . obtain⟨n1,n2⟩:=(hown _ _).1 i1;obtain⟨m1,m2⟩:=(hown _ _).1 i2;exact h.own.apart _ _ _ _ _ n2 m2 hne' ((keep _ _ _ n1 n2).1 e1) ((keep _ _ _ m1 m2).1 e2)
 . intro q hq;have:q≠k':=fun e=>by subst e;exact(List.nodup_cons.1 h.knodup).1 hq
   rw[Sg.set_other _ _ _ this];exact h.fresh q (by simp[hq])
 . intro n hn hno;exact same n hn fun e=>hno ⟨k,b,hm,e⟩
 . intro n hn _;simp only[M'];constructor
   . rintro (e|e)
     . exact e.1
     . omega
   . intro e;exact .inl ⟨e,hn⟩
 . intro n hn;rcases J2I.1 hn with e | ⟨q,c,hq,e⟩
   . rcases hnw n e with a|a
     . exact .inr a.1
     . exact .inl ⟨k,b,hm,a⟩
   . obtain⟨n1,n2⟩:=(hown _ _).1 hq;exact .inl ⟨q,c,n2,(keep _ _ _ n1 n2).1 e⟩
def J8T (len:Nat->Nat) (n m:Nat):Nat->Nat:=fun i=>if i=n then m else len i
theorem J8R {P:Program} {ats:Array TypeId} {t t2 e e2 ty:TypeId} {bytes:Nat} {zs:List V} (h0:ats[0]?=some t) (h1:ats[1]?=some t2)
 (ht:P.underlying t=some (.slice e)) (ht2:P.underlying t2=some (.slice e2)) (hs:J11 P e=some 1) (hb:(P.info? e).map (·.bytes)=some bytes) (hz:J1c P e=some zs) (hzl:zs.length=1)
 {M:Nat->Prop} {w:World} {σ:Sg} {own own':Own} {k k' kl q n s m:Nat} {ks:List Nat} (hh:J0G M w σ own (k'::ks)) {len:Nat->Nat} {f:Nat->Nat->Nat->V} {op:List (Nat×Nat)}
 {ux uy:Value} (hlook:look own k=some (.fam n s len f op)) (hx:Den M w σ (.vec k 1 0 n) ux) (hlk:look own kl=some (.cells [.vec q s 0 m])) (hy:Den M w σ (.vec kl 1 0 1) uy)
 (hon:look op n=none) (hm1:(n+1)*bytes<=140737488355328) (hm2:n+1<=9223372036854775807)
 (hown:∀p c,(p,c)∈own'↔(p≠k/\(p,c)∈own)) (hnd:(own'.map (·.1)).Nodup) :
 ∃u w' M' σ',(Builtin.append_ ats ty #[ux,uy]).run P w=.ok u w'/\J0G M' w' σ' ((k',.fam (n+1) s (J8T len n m) f ((n,q)::op))::own') ks /\
  Tr M w σ own M' w' σ' ((k',.fam (n+1) s (J8T len n m) f ((n,q)::op))::own')/\Den M' w' σ' (.vec k' 1 0 (n+1)) u/\Kd σ own (k'::ks) σ' ((k',.fam (n+1) s (J8T len n m) f ((n,q)::op))::own') ks:=by
 obtain⟨i,z,hi,hzz,hzc⟩:=J0E hz;have hzs:z.cells.size=1:=by
  have:=(J0B (M:=M) (w:=w) σ hzc).1;simp at this;omega
 have hisz:i.size=1:=by simpa[J11,hi] using hs
 have hiby:i.bytes=bytes:=by simpa[hi] using hb
 have hmem:=J0c hlook;have hkeys:∀p,p∈own'.map (·.1)->p∈own.map (·.1):=by
  intro p hp;obtain⟨⟨p',c⟩,hm,e⟩:=List.mem_map.1 hp;exact List.mem_map.2 ⟨_,((hown p' c).1 hm).2,e⟩
 have hkd:∀x,Kd σ own (k'::ks) (σ.set k' x) ((k',Blk.fam (n+1) s (J8T len n m) f ((n,q)::op))::own') ks :=
  fun x=>J2U _ _ fun p hp=>(J13 p hp).imp (hkeys p) id
 have hk0:σ k'=none:=hh.fresh k' (by simp)
 -- the cell that is appended
 obtain⟨bl,κl,tyl,usl,l1,l2,l3,l4,l5⟩:=hh.own.blk kl _ (J0c hlk);simp only[List.length_cons,List.length_nil] at l4;obtain⟨cu,hcu⟩:∃cu,usl[0]?=some cu:=⟨usl[0]'(by omega),by simp[l4]⟩;have hdc:Den M w σ (.vec q s 0 m) cu:=l5 0 _ cu (by simp) hcu;obtain⟨qa,qc,rfl,hqc,hq1⟩:∃a c,cu=.slice a m c/\m<=c/\(Value.slice a m c).oneCell'=true:=by
  cases hdc with
  | vec _ _ _ _ _ bo base κ c a h hc hl ha=>exact⟨a,c,rfl,hl,rfl⟩
 have hsrc:∀w1:World,w1.heap=w.heap->(Builtin.lenOf uy).run P w1=.ok 1 w1/\(Builtin.firstCells 1 1 uy).run P w1=.ok ([Value.slice qa m qc]:List Value).toArray w1:=fun w1 hw1=>by
  cases hy with
  | vec _ _ _ _ _ bo base κ c a h hc hl ha =>
    obtain⟨b2,e2,rfl⟩:=ha (by omega);rw[l1] at h;simp only[Option.some.injEq,Prod.mk.injEq] at h;obtain⟨rfl,rfl,rfl⟩:=h;cases e2;have S:Src M w1 1 1 (fun _ _=>.raw (.slice qa m qc)) (.slice (some ⟨bl,0+0*1,none⟩) 1 c):=J1T fun i j hi' hj'=>by
     obtain rfl:i=0:=by omega
     obtain rfl:j=0:=by omega
     refine⟨.slice qa m qc,?_,hq1,.raw _ _⟩;simp[World.cell?,hw1,l3,hcu]
    obtain⟨us,u1,u2,u3,u4,u5⟩:=S.firstCells (P:=P) (w':=w1) rfl;obtain⟨x,x1,x2⟩:=u4 0 0 (by omega) (by omega);have e1:us=[.slice qa m qc]:=by
     match us,u1,x1 with
     | [y],_,x1=>simp at x1;subst x1;cases x2;rfl
    subst e1;exact⟨u3,u2⟩
 obtain⟨bo,base,κ,s1,s2,s3⟩:=hh.own.blk k _ hmem;cases hx with
 | vec _ _ _ _ _ bo' base' κ' c a hk hc hl ha =>
   rw[s1] at hk;simp only[Option.some.injEq,Prod.mk.injEq] at hk;obtain⟨q1,q2,q3⟩:=hk;subst q1 q2 q3;have hc:c=κ:=by omega
   subst hc
   -- a row that is not the last one
   have hol:∀i,n≠i->look ((n,q)::op) i=look op i:=fun i h=>J0j h;have hlx:∀i,n≠i->J8T len n m i=len i:=fun i h=>by rw[J8T,if_neg (fun e=>h e.symm)]
   have hdm:∀(M':Nat->Prop) (w':World) (x:Option Nat×Nat×Nat),Ext M w M' w'->J8m M' w' (σ.set k' x) s (J8T len n m n) (f n) (look ((n,q)::op) n) (.slice qa m qc):=fun M' w' x hE=>by
    rw[J0k rfl,J8T,if_pos rfl];exact⟨qa,qc,rfl,hqc,fun p hp=>by cases hp;exact hdc.mono hE (Sg.le_set x hk0),fun h=>by cases h⟩
   have hrm:∀(M':Nat->Prop) (w':World) (x:Option Nat×Nat×Nat) (i:Nat) (u:Value),Ext M w M' w'->n≠i->J8m M w σ s (len i) (f i) (look op i) u->(∀r off l c',u=.slice (some ⟨r,off,none⟩) l c'->0<c'->look op i=none->M' r/\w'.heap[r]?=w.heap[r]?) ->
    J8m M' w' (σ.set k' x) s (J8T len n m i) (f i) (look ((n,q)::op) i) u:=fun M' w' x i u hE hne hR hkeep=>by
    rw[hol i hne,hlx i hne];obtain⟨a',c',u2,u3,u4,u5⟩:=hR;refine⟨a',c',u2,u3,fun p hp=>(u4 p hp).mono hE (Sg.le_set x hk0),fun hn hc=>?_⟩;obtain⟨r,off,ty2,us2,p1,p2,p3,p4,p5⟩:=u5 hn hc;subst p1;obtain⟨n1,n2⟩:=hkeep r off _ c' u2 hc hn;exact⟨r,off,ty2,us2,rfl,n1,n2.trans p3,p4,fun j t hj ht=>let ⟨y,y1,y2,y3⟩:=p5 j t hj ht;⟨y,y1,y2,y3.mono hE (Sg.le_refl _)⟩⟩
   by_cases hroom:n+1<=c
   . obtain⟨b,hb',ha'⟩:=ha (by omega);subst hb' ha';rcases s3 with ⟨s3,_⟩ | ⟨b',ty',us,s3,s4,s5,s6,s7,s8,s9⟩
     . omega
     cases s3;obtain⟨v1,v2⟩:=hsrc w rfl;have hst:=run_storeCells_at P b (base+n) ty' [Value.slice qa m qc] 0 us w s5 (by simp;omega) (fun x hx=>by simp at hx;subst hx;exact hq1);simp only[Nat.add_zero] at hst;have hrun:=J0F (P:=P) (ty:=ty) h0 h1 ht ht2 hs (some ⟨b,base+0*1,none⟩) n c 1 uy _ v1 v2 hroom _ (by simp only[J07,Nat.add_zero,Nat.mul_one];exact hst);have hsz:=J0L us.toList [Value.slice qa m qc] (base+n) (by simp;omega);have hgt:=J0I us.toList [Value.slice qa m qc] (base+n) (by simp;omega);generalize hW:(us.toList.take (base+n)++[Value.slice qa m qc]++us.toList.drop (base+n+[Value.slice qa m qc].length))=W at *;have hother:∀i,i≠n->W[base+i]?=us[base+i]?:=fun i hi=>by
      rw[hgt (base+i)];split
      . simp
      . split
        . rename_i h1 h2;simp at h2;omega
        . simp
     have hat:W[base+n]?=some (.slice qa m qc):=by
      rw[hgt (base+n),if_neg (by omega),if_pos (by simp)];simp
     have hrow:∀i r,i≠n->(J14 W.toArray base i r↔J14 us base i r):=fun i r hi=>by
      simp only[J14,List.getElem?_toArray,hother i hi]
     have hfam:∀i r,i<n->look op i=none->J14 us base i r->J0i w σ k (.fam n s len f op) r:=fun i r hi ho h=>.inr ⟨b,base,c,us,ty',i,s1,s5,hi,ho,h⟩;obtain⟨M',n1,n2⟩:=J6N (w':=w.setRow b W.toArray) hh k _ hmem hown hnd (some b,base,c) (.fam (n+1) s (J8T len n m) f ((n,q)::op)) rfl (J0R.rf rfl rfl) rfl (by simp)
      (fun r hr hno=>setRow_other w b r _ (fun e=>hno (e▸.inl (by simp[J0p,s1]))))
      (fun r e=>by
        right;rcases e with e | ⟨ob,base',κ',us',tyy,i,e1,e2,e3,e4,e5⟩
        . simp[J0p,Sg.set_same] at e;exact .inl (by simp[J0p,s1,e])
        . rw[Sg.set_same] at e1;simp only[Option.some.injEq,Prod.mk.injEq] at e1;obtain⟨rfl,rfl,rfl⟩:=e1;rw[setRow_heap w b us _ ty' _ s5] at e2;simp only[Option.some.injEq,Obj.cells.injEq] at e2;obtain⟨rfl,_⟩:=e2;have hne:n≠i:=fun e=>by subst e;rw[J0k rfl] at e4;cases e4
          rw[hol i hne] at e4;exact hfam i r (by omega) e4 ((hrow i r (fun e=>hne e.symm)).1 e5))
      (fun M' hM' hE=>by
        have hin:∀r,J0i w σ k (.fam n s len f op) r->M' r:=fun r e=>(hM' r).2 (.inl (J0q hh.own ⟨k,_,hmem,e⟩));refine⟨_,base,c,Sg.set_same _ _ _,hroom,.inr ⟨b,ty',_,rfl,hin b (.inl (by simp[J0p,s1])),setRow_heap w b us _ ty' _ s5,by simp only[List.size_toArray,hsz,Array.length_toList];exact s6,fun i hi=>?_,fun i i' r hi hi' o1 o2 r1 r2=>?_,fun i hi o1 r1=>?_⟩⟩
        . by_cases e:n=i
          . subst e;exact⟨_,by rw[List.getElem?_toArray];exact hat,hdm M' _ _ hE⟩
          . obtain⟨u,u1,hR⟩:=s7 i (by omega);refine⟨u,by rw[List.getElem?_toArray,hother i (fun x=>e x.symm)];exact u1,hrm M' _ _ i u hE e hR fun r off l c' hu hc' ho=>?_⟩;have hr:J14 us base i r:=⟨off,l,c',by rw[u1,hu],hc'⟩;exact⟨hin r (hfam i r (by omega) ho hr),setRow_other w b r _ fun x=>s9 i (by omega) ho (x▸hr)⟩
        . have e1:n≠i:=fun e=>by subst e;rw[J0k rfl] at o1;cases o1
          have e2:n≠i':=fun e=>by subst e;rw[J0k rfl] at o2;cases o2
          rw[hol i e1] at o1;rw[hol i' e2] at o2;exact s8 i i' r (by omega) (by omega) o1 o2 ((hrow i r (fun x=>e1 x.symm)).1 r1) ((hrow i' r (fun x=>e2 x.symm)).1 r2)
        . have e1:n≠i:=fun e=>by subst e;rw[J0k rfl] at o1;cases o1
          rw[hol i e1] at o1;exact s9 i (by omega) o1 ((hrow i b (fun x=>e1 x.symm)).1 r1))
     refine⟨_,_,M',_,hrun,n1,n2,?_,hkd _⟩;exact .vec _ _ _ _ _ _ _ _ c _ (Sg.set_same _ _ _) rfl hroom (fun _=>⟨b,rfl,by simp⟩)
   . obtain⟨v1,_⟩:=hsrc w rfl;obtain⟨_,v2⟩:=hsrc w.drew rfl
     -- the old spine's cells
     obtain⟨olds,o1,o2,o3⟩:∃olds:List Value,olds.length=n/\(Builtin.firstCells 1 n (.slice a n c)).run P w.drew=.ok olds.toArray w.drew /\
      (n=0\/∃b ty us,bo=some b/\w.heap[b]?=some (.cells us ty (0,0))/\∀i,i<n->olds[i]?=us[base+i]?):=by
      rcases s3 with ⟨s3,s3'⟩ | ⟨b,ty',us,s3,s4,s5,s6,s7,s8,s9⟩
      . obtain rfl:n=0:=by omega
        refine⟨[],rfl,?_,.inl rfl⟩;cases a with
        | none=>rfl
        | some ad=>show(loadCells ad (0*1)).run P w.drew=_;rw[Nat.zero_mul];rfl
      . subst s3;rcases Nat.eq_zero_or_pos c with hc0|hc0
        . obtain rfl:n=0:=by omega
          refine⟨[],rfl,?_,.inl rfl⟩;cases a with
          | none=>rfl
          | some ad=>show(loadCells ad (0*1)).run P w.drew=_;rw[Nat.zero_mul];rfl
        . obtain⟨b2,e2,rfl⟩:=ha hc0;cases e2;have S:Src M w.drew 1 n (fun i _=>.raw (us.getD (base+i) undef)) (.slice (some ⟨b,base+0*1,none⟩) n c):=J1T fun i j hi' hj'=>by
           obtain rfl:j=0:=by omega
           obtain⟨u,u1,a',c',rfl,_⟩:=s7 i hi';refine⟨.slice a' (len i) c',?_,rfl,?_⟩
           . have:w.drew.heap[b]?=some (.cells us ty' (0,0)):=s5;simp only[World.cell?,this,Nat.add_zero,Nat.mul_one];simpa using u1
           . have:us.getD (base+i) undef=.slice a' (len i) c':=by rw[Array.getD_eq_getD_getElem?,u1];rfl
             rw[this];exact .raw _ _
          obtain⟨ol,u1,u2,u3,u4,u5⟩:=S.firstCells (P:=P) (w':=w.drew) rfl;refine⟨ol,by omega,u2,.inr ⟨b,ty',us,rfl,s5,fun i hi'=>?_⟩⟩;obtain⟨x,x1,x2⟩:=u4 i 0 hi' (by omega);cases x2;obtain⟨u,w1,_⟩:=s7 i hi';simp only[Nat.mul_one,Nat.add_zero] at x1;rw[w1,x1,Array.getD_eq_getD_getElem?,w1];rfl
     have hrun:=J1a (P:=P) (ty:=ty) (w:=w) h0 h1 ht ht2 hi hzz hisz a n c 1 uy _ olds v1 v2 o2 (by omega) (by rw[hiby];exact hm1) hm2;have hge:=grownCap_ge w (n+1) c e;generalize hW:(olds.toArray++[Value.slice qa m qc].toArray++Builtin.zeroCells z.cells (grownCap w (n+1) c e-(n+1)))=W at *;have hWs:grownCap w (n+1) c e<=W.size:=by
      rw[<- hW];simp only[Array.size_append,List.size_toArray,size_zeroCells,o1,hzs,List.length_singleton];omega
     have hother:∀i,i<n->W[0+i]?=olds[i]?:=fun i hi=>by
      rw[<- hW,Nat.zero_add,Array.getElem?_append_left (by simp;omega),Array.getElem?_append_left (by simp;omega)];simp
     have hat:W[0+n]?=some (.slice qa m qc):=by
      rw[<- hW,Nat.zero_add,Array.getElem?_append_left (by simp;omega),Array.getElem?_append_right (by simp;omega)];simp[o1]
     have hnew:(w.drew.alloc (.cells W e)).heap[w.heap.size]?=some (.cells W e (0,0)):=J2e (w:=w.drew);have hold:∀i r,i<n->look op i=none->J14 W 0 i r->J0i w σ k (.fam n s len f op) r:=fun i r hi ho h=>by
      rcases o3 with o3 | ⟨b,ty',us,rfl,p2,p3⟩
      . omega
      . refine .inr ⟨b,base,c,us,ty',i,s1,p2,hi,ho,?_⟩;simpa only[J14,hother i hi,p3 i hi] using h
     obtain⟨M',n1,n2⟩:=J6N (w':=w.drew.alloc (.cells W e)) hh k _ hmem hown hnd (some w.heap.size,0,grownCap w (n+1) c e) (.fam (n+1) s (J8T len n m) f ((n,q)::op)) rfl ⟨rfl,Nat.le_succ _⟩ rfl (by rw[J1g];exact Nat.le_succ _)
      (fun r hr _=>J0P (w:=w.drew) hr)
      (fun r e'=>by
        rcases e' with e' | ⟨ob,base',κ',us',tyy,i,e1,e2,e3,e4,e5⟩
        . simp[J0p,Sg.set_same] at e';left;rw[J1g];show _/\r<w.heap.size+1;omega
        . right;rw[Sg.set_same] at e1;simp only[Option.some.injEq,Prod.mk.injEq] at e1;obtain⟨rfl,rfl,rfl⟩:=e1;rw[hnew] at e2;simp only[Option.some.injEq,Obj.cells.injEq] at e2;obtain⟨rfl,_⟩:=e2;have hne:n≠i:=fun e=>by subst e;rw[J0k rfl] at e4;cases e4
          rw[hol i hne] at e4;exact hold i r (by omega) e4 e5)
      (fun M' hM' hE=>by
        have hin:∀r,J0i w σ k (.fam n s len f op) r->M' r/\r<w.heap.size:=fun r e=>⟨(hM' r).2 (.inl (J0q hh.own ⟨k,_,hmem,e⟩)),(J0q hh.own ⟨k,_,hmem,e⟩).2⟩;refine⟨_,0,_,Sg.set_same _ _ _,hge,.inr ⟨w.heap.size,e,W,rfl,(hM' _).2 (.inr ⟨Nat.le_refl _,by rw[J1g];exact Nat.lt_succ_self _⟩),hnew,by omega,fun i hi=>?_,fun i i' r hi hi' p1 p2 r1 r2=>?_,fun i hi p1 r1=>?_⟩⟩
        . by_cases e':n=i
          . subst e';exact⟨_,hat,hdm M' _ _ hE⟩
          . have hin':i<n:=by omega
            rcases s3 with ⟨s3,s3'⟩ | ⟨b,ty',us,s3,s4,s5,s6,s7,s8,s9⟩
            . omega
            . rcases o3 with o3 | ⟨b',ty2,us2,p1,p2,p3⟩
              . omega
              . rw[s3] at p1;cases p1;rw[s5] at p2;simp only[Option.some.injEq,Obj.cells.injEq] at p2;obtain⟨rfl,_⟩:=p2;obtain⟨u,u1,hR⟩:=s7 i hin';refine⟨u,by rw[hother i hin',p3 i hin'];exact u1,hrm M' _ _ i u hE e' hR fun r off l c' hu hc' ho=>?_⟩;have hr:J14 W 0 i r:=⟨off,l,c',by rw[hother i hin',p3 i hin',u1,hu],hc'⟩;obtain⟨z1,z2⟩:=hin r (hold i r hin' ho hr);exact⟨z1,J0P (w:=w.drew) z2⟩
        . have e1:n≠i:=fun e=>by subst e;rw[J0k rfl] at p1;cases p1
          have e2:n≠i':=fun e=>by subst e;rw[J0k rfl] at p2;cases p2
          rw[hol i e1] at p1;rw[hol i' e2] at p2;rcases s3 with ⟨s3,s3'⟩ | ⟨b,ty',us,s3,s4,s5,s6,s7,s8,s9⟩
          . omega
          . rcases o3 with o3 | ⟨b',ty2,us2,y1,y2,y3⟩
            . omega
            . rw[s3] at y1;cases y1;rw[s5] at y2;simp only[Option.some.injEq,Obj.cells.injEq] at y2;obtain⟨rfl,_⟩:=y2;have g1:i<n:=by omega
              have g2:i'<n:=by omega
              exact s8 i i' r g1 g2 p1 p2 (by simpa only[J14,hother i g1,y3 i g1] using r1) (by simpa only[J14,hother i' g2,y3 i' g2] using r2)
        . have e1:n≠i:=fun e=>by subst e;rw[J0k rfl] at p1;cases p1
          rw[hol i e1] at p1;have:=(hin _ (hold i _ (by omega) p1 r1)).2;omega)
     refine⟨_,_,M',_,hrun,n1,n2,?_,hkd _⟩;exact .vec _ _ _ _ _ _ _ _ (grownCap w (n+1) c e) _ (Sg.set_same _ _ _) rfl hge (fun _=>⟨_,rfl,by simp⟩)
def Q4q (own:Own) (ks:List Nat) (s bytes:Nat) (x y:V) (K:V->Own->List Nat->Prop):Prop :=
 match x with
 | .vec kx s0 lo n=>match look own kx with
   | some (.fam n' s' len f [])=>match y with
     | .vec kl s1 lo1 n1=>match look own kl with
       | some (.cells [.vec q s2 lo2 m])=>match Nat.beq s0 1&&Nat.beq lo 0&&Nat.beq s1 1&&Nat.beq lo1 0&&Nat.beq n1 1&&Nat.beq lo2 0&&Nat.beq s 1&&Nat.beq s' s2 with
         | true=>Len n n' (Len n' n (Len ((n+1)*bytes) 140737488355328 (Len (n+1) 9223372036854775807
            (fresh ks fun k' ks=>Q3I kx own fun own'=>K (.vec k' 1 0 (n+1)) ((k',.fam (n+1) s' (J8T len n m) f [(n,q)])::own') ks))))
         | false=>False
       | _=>False
     | _=>False
   | _=>J84 own ks s bytes (.vec kx s0 lo n) y K
 | x=>J84 own ks s bytes x y K
end Go.Eng
