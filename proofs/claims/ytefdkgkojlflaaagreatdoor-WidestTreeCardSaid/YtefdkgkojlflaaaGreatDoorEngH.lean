import Derived.Test.YtefdkgkojlflaaaGreatDoorEngF
import Derived.Laws.MakeOwn
import Derived.Maps.RangeRun
namespace Go.Eng
def memN (n:Nat):List Nat->Bool
 | []=>false
 | x::r=>match Nat.beq x n with|true=>true|false=>memN n r
theorem memN_iff {n:Nat}:∀{l:List Nat},memN n l=true↔n∈l
 | []=>by simp[memN]
 | x::r=>by
   unfold memN;split
   . rename_i h;have:=Nat.eq_of_beq_eq_true h;subst this;simp
   . rename_i h;have hne:x≠n:=fun e=>by subst e;simp at h
     rw[memN_iff,List.mem_cons];constructor
     . exact .inr
     . rintro (e|e)
       . exact(hne e.symm).elim
       . exact e
theorem Sg.none_le (σ:Sg):Sg.none.le σ:=fun _ _ h=>by cases h
def bor0 (own:Own) (v:V) (K:V->Prop):Prop :=
 match v with
 | .vec k s lo len=>match look own k with
   | some (.vec n s' f)=>match Nat.beq s s' with
     | true=>Len (lo+len) n (K (.fz len s false (shiftF lo f)))
     | false=>False
   | _=>False
 | v=>match v.kf2 with
   | true=>K v
   | false=>False
def borL0 (own:Own):List V->(List V->Prop)->Prop
 | [],K=>K []
 | v::r,K=>bor0 own v fun v=>borL0 own r fun r=>K (v::r)
def tab (rows:List (List V)):Nat->Nat->V:=fun i j=>(rows.getD i []).getD j default
def chunk {α:Type} (s:Nat):Nat->List α->List (List α)
 | 0,_=>[]
 | n+1,l=>l.take s::chunk s n (l.drop s)
theorem chunk_get {α:Type} (s:Nat):∀(n:Nat) (l:List α) (i:Nat),i<n->(chunk s n l)[i]?=some ((l.drop (i*s)).take s)
 | 0,l,i,h=>by omega
 | n+1,l,0,h=>by simp[chunk]
 | n+1,l,i+1,h=>by
   simp only[chunk,List.getElem?_cons_succ];rw[chunk_get s n _ i (by omega),List.drop_drop,Nat.succ_mul,Nat.add_comm s]
theorem tab_chunk {s n:Nat} {l:List V} {i j:Nat} (hi:i<n) (hj:j<s) (h:i*s+j<l.length):tab (chunk s n l) i j=l[i*s+j]:=by
 simp only[tab,List.getD_eq_getElem?_getD,chunk_get s n l i hi,Option.getD_some,List.getElem?_take,hj,if_true,List.getElem?_drop];simp[h]
def setF (f:Nat->Nat->Nat->V) (i:Nat) (g:Nat->Nat->V):Nat->Nat->Nat->V:=fun j=>if j=i then g else f j
def famK (own:Own) (s:Nat) (ln:Nat->Nat) (f:Nat->Nat->Nat->V):List (Nat×Nat)->((Nat->Nat->Nat->V)->Prop)->Prop
 | [],K=>K f
 | (i,q)::r,K=>match look own q with
   | some (.vec m s' g)=>match Nat.beq s s' with
     | true=>Len (ln i) m (famK own s ln f r fun f'=>K (setF f' i g))
     | false=>False
   | _=>False
theorem famK_sound {own:Own} {s:Nat} {ln:Nat->Nat} {f:Nat->Nat->Nat->V}:∀{op:List (Nat×Nat)} {K:(Nat->Nat->Nat->V)->Prop},famK own s ln f op K ->
 ∃f',K f'/\∀i,(look op i=none->f' i=f i)/\∀q,look op i=some q->∃m,look own q=some (.vec m s (f' i))/\ln i<=m
 | [],K,h=>⟨f,h,fun i=>⟨fun _=>rfl,fun q e=>by simp[look] at e⟩⟩
 | (i0,q0)::r,K,h=>by
   unfold famK at h;split at h
   . rename_i m s' g hl;split at h
     . rename_i e;have e:=Nat.eq_of_beq_eq_true e;subst e;obtain⟨hle,h⟩:=h;obtain⟨f',hK,hf⟩:=famK_sound h;refine⟨_,hK,fun i=>?_⟩;by_cases e:i0=i
       . subst e;rw[look_here rfl];exact⟨fun h=>(by cases h),fun q e=>(by cases e;exact⟨m,by simp[setF,hl],hle⟩)⟩
       . rw[look_there e];have e':¬ i=i0:=fun h=>e h.symm;simp only[setF,e',if_false];exact hf i
     . exact h.elim
   . exact h.elim
def bor1 (own:Own) (v:V) (K:V->Prop):Prop :=
 match v with
 | .vec k 1 0 len=>match look own k with
   | some (.cells cs)=>match Nat.beq len cs.length,allB V.cellB cs with
     | true,true=>borL0 own cs fun cs'=>K (.fz len 1 false (tab (chunk 1 len cs')))
     | _,_=>False
   | some (.fam n s ln f op)=>Len len n (famK own s ln f op fun f'=>K (.fz len 1 false fun i _=>.fz (ln i) s false (f' i)))
   | _=>bor0 own (.vec k 1 0 len) K
 | .vec k s 0 len=>match look own k with
   | some (.cells cs)=>match Nat.beq (len*s) cs.length,allB V.cellB cs with
     | true,true=>borL0 own cs fun cs'=>K (.fz len s false (tab (chunk s len cs')))
     | _,_=>False
   | _=>bor0 own (.vec k s 0 len) K
 | v=>bor0 own v K
def borL (own:Own):List V->(List V->Prop)->Prop
 | [],K=>K []
 | v::r,K=>bor1 own v fun v=>borL own r fun r=>K (v::r)
def bor (own:Own) (v:V) (K:V->Prop):Prop :=
 match v with
 | .agg cs=>borL own cs fun cs=>K (.agg cs)
 | .loc k 0=>match look own k with
   | some (.cells cs)=>match allB V.cellB cs with
     | true=>borL own cs fun cs'=>K (.fe 1 cs.length (tab [cs']) 0 0)
     | false=>False
   | _=>False
 | v=>bor1 own v K
def bors (own:Own):List V->(List V->Prop)->Prop
 | [],K=>K []
 | v::r,K=>bor own v fun v=>bors own r fun r=>K (v::r)
def lent (M:Nat->Prop) (w:World) (σ:Sg) (own:Own):Nat->Prop:=fun b=>M b/\¬ owned w σ own b
theorem lent_ext (M:Nat->Prop) (w:World) (σ:Sg) (own:Own):Ext M w (lent M w σ own) w:=⟨fun _ _ hM=>⟨fun h=>hM h.1,rfl⟩,Nat.le_refl _⟩
theorem bor0_sound {own:Own} {v:V} {K:V->Prop} (h:bor0 own v K):∃v',K v'/\∀M w σ u,OwnSim M w σ own->Den M w σ v u->Den (lent M w σ own) w Sg.none v' u:=by
 unfold bor0 at h;split at h
 . rename_i k s lo len;split at h
   . rename_i n s' f hlook;split at h
     . rename_i e;have e:=Nat.eq_of_beq_eq_true e;subst e;obtain⟨hle,hK⟩:=h;refine⟨_,hK,fun M w σ u ho hd=>?_⟩;have hmem:=look_mem hlook;obtain⟨bo,base,κ,s1,s2,s3⟩:=ho.blk k _ hmem;cases hd with
       | vec _ _ _ _ _ bo' base' κ' c a hk hc hl ha =>
         rw[s1] at hk;simp only[Option.some.injEq,Prod.mk.injEq] at hk;obtain⟨q1,q2,q3⟩:=hk;subst q1 q2 q3;rcases Nat.eq_zero_or_pos len with h0|h0
         . subst h0;exact .fz0 _ _ _ _ _ _ (by simp)
         . obtain⟨b,hb',ha'⟩:=ha (by omega);clear ha;subst hb' ha';rcases s3 with ⟨_,s3⟩ | ⟨b',ty,us,s3,s4,s5,s6,s7⟩
           . cases s3
           cases s3;have hlt:=lt_of_getElem? s5;have hx:∀i j,i<len->j<s->∃x,us[base+((lo+i)*s+j)]?=some x/\x.oneCell'=true/\Den M w Sg.none (f (lo+i) j) x:=fun i j hi hj=>s7 (lo+i) j (by omega) hj;let U:Nat->Nat->Value:=fun i j=>if h:i<len/\j<s then Classical.choose (hx i j h.1 h.2) else undef
           have hU:∀i j (hi:i<len) (hj:j<s),us[base+((lo+i)*s+j)]?=some (U i j)/\(U i j).oneCell'=true/\Den M w Sg.none (f (lo+i) j) (U i j):=fun i j hi hj=>by
            simp only[U,hi,hj,and_self,dite_true];exact Classical.choose_spec (hx i j hi hj)
           refine .fz _ _ _ _ _ _ _ _ U hl (by simp) (fun hM=>hM.2 ⟨k,_,hmem,.inl (by simp[blkOf,s1])⟩) hlt ?_ (fun i j hi hj=>(hU i j hi hj).2.1) ?_
           . intro i j hi hj;rw[show base+lo*s+(i*s+j)=base+((lo+i)*s+j) by rw[Nat.add_mul];omega];simp[World.cell?,s5,(hU i j hi hj).1]
           . intro i j hi hj;rw[shiftF_eq];exact(hU i j hi hj).2.2.mono (lent_ext M w σ own) (Sg.le_refl _)
     . exact h.elim
   . exact h.elim
 . split at h
   . rename_i hkf;exact⟨v,h,fun M w σ u _ hd=>(hd.kf2 hkf Sg.none).mono (lent_ext M w σ own) (Sg.le_refl _)⟩
   . exact h.elim
theorem borL0_sound {own:Own}:∀{vs:List V} {K:List V->Prop},borL0 own vs K->∃vs',K vs'/\vs'.length=vs.length/\∀M w σ,OwnSim M w σ own->∀(i:Nat) (v v':V) (u:Value),vs[i]?=some v->vs'[i]?=some v'->Den M w σ v u->Den (lent M w σ own) w Sg.none v' u
 | [],K,h=>⟨[],h,rfl,fun _ _ _ _=>by simp⟩
 | v::r,K,h=>by
   obtain⟨v',h,hv⟩:=bor0_sound h;obtain⟨r',hK,hl,hr⟩:=borL0_sound h;refine⟨_,hK,by simp[hl],fun M w σ ho i x x' u hx hx' hd=>?_⟩;cases i with
   | zero=>simp at hx hx';subst hx hx';exact hv M w σ u ho hd
   | succ i=>exact hr M w σ ho i x x' u (by simpa using hx) (by simpa using hx') hd
theorem bor1_sound {own:Own} {v:V} {K:V->Prop} (h:bor1 own v K):∃v',K v'/\∀M w σ u,OwnSim M w σ own->Den M w σ v u->Den (lent M w σ own) w Sg.none v' u:=by
 unfold bor1 at h;split at h
 . rename_i k len;split at h
   . rename_i cs hlook;split at h
     . rename_i hlen hcb;have hlen:=Nat.eq_of_beq_eq_true hlen;obtain⟨cs',hK,hl,hr⟩:=borL0_sound h;refine⟨_,hK,fun M w σ u ho hd=>?_⟩;have hmem:=look_mem hlook;obtain⟨b,κ,ty,us,s1,s2,s3,s4,s5⟩:=ho.blk k _ hmem;cases hd with
       | vec _ _ _ _ _ bo base κ' c a hk hc hlc ha =>
         rw[s1] at hk;simp only[Option.some.injEq,Prod.mk.injEq] at hk;obtain⟨q1,q2,q3⟩:=hk;subst q1 q2 q3;rcases Nat.eq_zero_or_pos len with h0|h0
         . subst h0;exact .fz0 _ _ _ _ _ _ (by simp)
         . obtain⟨b',hb',ha'⟩:=ha (by omega);cases hb';subst ha';have hU:∀i,i<len->∃x v,us[i]?=some x/\cs[i]?=some v/\x.oneCell'=true/\Den M w σ v x:=fun i hi=>by
            have h1:i<us.size:=by omega
            have h2:i<cs.length:=by omega
            have hdd:=s5 i cs[i] us[i] (by simp[h2]) (by simp[h1]);exact⟨us[i],cs[i],by simp[h1],by simp[h2],hdd.oneCell (allB_mem hcb _ (List.getElem_mem h2)),hdd⟩
           refine .fz _ _ _ _ _ _ _ _ (fun i _=>us.getD i undef) hlc (by simp) (fun hM=>hM.2 ⟨k,_,hmem,.inl (by simp[blkOf,s1])⟩) (lt_of_getElem? s3) ?_ ?_ ?_
           . intro i j hi hj;obtain⟨x,v,a1,_⟩:=hU i hi;have hj0:j=0:=by omega
             subst hj0;simp[World.cell?,s3,Array.getD_eq_getD_getElem?,a1]
           . intro i j hi hj;obtain⟨x,v,a1,_,a3,_⟩:=hU i hi;simpa[Array.getD_eq_getD_getElem?,a1] using a3
           . intro i j hi hj;obtain⟨x,v,a1,a2,_,a4⟩:=hU i hi;have h2:i<cs'.length:=by omega
             have:=hr M w σ ho i v cs'[i] x a2 (by simp[h2]) a4;have hj0:j=0:=by omega
             subst hj0;have e1:tab (chunk 1 len cs') i 0=cs'[i]:=by rw[tab_chunk hi (by omega) (by omega)];simp
             rw[e1];simpa[Array.getD_eq_getD_getElem?,a1] using this
     . exact h.elim
   . rename_i n s ln f op hlook;obtain⟨hle,h⟩:=h;obtain⟨f',hK,hf⟩:=famK_sound h;refine⟨_,hK,fun M w σ u ho hd=>?_⟩;have hmem:=look_mem hlook;obtain⟨bo,base,κ,s1,s2,s3⟩:=ho.blk k _ hmem;cases hd with
     | vec _ _ _ _ _ bo' base' κ' c a hk hc hl ha =>
       rw[s1] at hk;simp only[Option.some.injEq,Prod.mk.injEq] at hk;obtain⟨q1,q2,q3⟩:=hk;subst q1 q2 q3;rcases Nat.eq_zero_or_pos len with h0|h0
       . subst h0;exact .fz0 _ _ _ _ _ _ (by simp)
       . obtain⟨b,hb',ha'⟩:=ha (by omega);clear ha;subst hb' ha';rcases s3 with ⟨_,s3⟩ | ⟨b',ty,us,s3,s4,s5,s6,s7,s8,s9⟩
         . cases s3
         cases s3;have hx:∀i,i<len->∃x,us[base+i]?=some x/\x.oneCell'=true/\Den (lent M w σ own) w Sg.none (.fz (ln i) s false (f' i)) x:=fun i hi=>by
          obtain⟨u,u1,a,c',u2,u3,u4,u5⟩:=s7 i (by omega);subst u2;refine⟨_,u1,rfl,?_⟩;rcases Nat.eq_zero_or_pos (ln i) with z|z
          . rw[z];exact .fz0 _ _ _ _ _ _ (by simp)
          . have key:∃r off ty2 us2,a=some ⟨r,off,none⟩/\¬ lent M w σ own r/\w.heap[r]?=some (.cells us2 ty2 (0,0))/\∀j t,j<ln i->t<s->∃x,us2[off+(j*s+t)]?=some x/\x.oneCell'=true/\Den M w Sg.none (f' i j t) x:=by
             cases hop:look op i with
             | none =>
               obtain⟨r,off,ty2,us2,p1,p2,p3,p4,p5⟩:=u5 hop (by omega);rw[(hf i).1 hop];subst p1;exact⟨r,off,ty2,us2,rfl,fun hM=>hM.2 ⟨k,_,hmem,.inr ⟨b,base,κ,us,ty,i,s1,s5,by omega,hop,off,_,c',u1,by omega⟩⟩,p3,p5⟩
             | some q =>
               obtain⟨m,hlq,hlm⟩:=(hf i).2 q hop;have hd:=u4 q hop;obtain⟨bq,baseq,κq,q1,q2,q3⟩:=ho.blk q _ (look_mem hlq);cases hd with
               | vec _ _ _ _ _ bo2 base2 κ2 c2 a2 k2 kc kl ka =>
                 rw[q1] at k2;simp only[Option.some.injEq,Prod.mk.injEq] at k2;obtain⟨rfl,rfl,rfl⟩:=k2;obtain⟨b2,rfl,rfl⟩:=ka (by omega);rcases q3 with ⟨z',_⟩ | ⟨b',ty2,us2,e1,e2,e3,e4,e5⟩
                 . omega
                 . cases e1;exact⟨b2,_,ty2,us2,rfl,fun hM=>hM.2 ⟨q,_,look_mem hlq,.inl (by simp[blkOf,q1])⟩,e3,fun j t hj ht=>by simpa using e5 j t (by omega) ht⟩
            obtain⟨r,off,ty2,us2,p1,p2,p3,p5⟩:=key;subst p1;let U:Nat->Nat->Value:=fun j t=>if h:j<ln i/\t<s then Classical.choose (p5 j t h.1 h.2) else undef
            have hU:∀j t (hj:j<ln i) (ht:t<s),us2[off+(j*s+t)]?=some (U j t)/\(U j t).oneCell'=true/\Den M w Sg.none (f' i j t) (U j t):=fun j t hj ht=>by
             simp only[U,hj,ht,and_self,dite_true];exact Classical.choose_spec (p5 j t hj ht)
            refine .fz _ _ _ _ _ _ _ _ U u3 (by simp) p2 (lt_of_getElem? p3) ?_ (fun j t hj ht=>(hU j t hj ht).2.1) ?_
            . intro j t hj ht;simp[World.cell?,p3,(hU j t hj ht).1]
            . intro j t hj ht;exact(hU j t hj ht).2.2.mono (lent_ext M w σ own) (Sg.le_refl _)
         let U:Nat->Value:=fun i=>if h:i<len then Classical.choose (hx i h) else undef
         have hU:∀i (hi:i<len),us[base+i]?=some (U i)/\(U i).oneCell'=true/\Den (lent M w σ own) w Sg.none (.fz (ln i) s false (f' i)) (U i):=fun i hi=>by
          simp only[U,hi,dite_true];exact Classical.choose_spec (hx i hi)
         refine .fz _ _ _ _ _ _ _ _ (fun i _=>U i) hl (by simp) (fun hM=>hM.2 ⟨k,_,hmem,.inl (by simp[blkOf,s1])⟩) (lt_of_getElem? s5) ?_ (fun i j hi hj=>(hU i hi).2.1) (fun i j hi hj=>(hU i hi).2.2);intro i j hi hj;obtain rfl:j=0:=by omega
         rw[show base+0*1+(i*1+0)=base+i by omega];simp[World.cell?,s5,(hU i hi).1]
   . exact bor0_sound h
 . rename_i k s len _;split at h
   . rename_i cs hlook;split at h
     . rename_i hlen hcb;have hlen:=Nat.eq_of_beq_eq_true hlen;obtain⟨cs',hK,hl,hr⟩:=borL0_sound h;refine⟨_,hK,fun M w σ u ho hd=>?_⟩;have hmem:=look_mem hlook;obtain⟨b,κ,ty,us,s1,s2,s3,s4,s5⟩:=ho.blk k _ hmem;cases hd with
       | vec _ _ _ _ _ bo base κ' c a hk hc hlc ha =>
         rw[s1] at hk;simp only[Option.some.injEq,Prod.mk.injEq] at hk;obtain⟨q1,q2,q3⟩:=hk;subst q1 q2 q3;rcases Nat.eq_zero_or_pos len with h0|h0
         . subst h0;exact .fz0 _ _ _ _ _ _ (by simp)
         . obtain⟨b',hb',ha'⟩:=ha (by omega);cases hb';subst ha';have hin:∀i j,i<len->j<s->i*s+j<cs.length:=fun i j hi hj=>by
            have:i*s+s<=len*s:=by rw[<- Nat.succ_mul];exact Nat.mul_le_mul_right _ hi
            omega
           have hU:∀i,i<cs.length->∃x v,us[i]?=some x/\cs[i]?=some v/\x.oneCell'=true/\Den M w σ v x:=fun i hi=>by
            have h1:i<us.size:=by omega
            have hdd:=s5 i cs[i] us[i] (by simp[hi]) (by simp[h1]);exact⟨us[i],cs[i],by simp[h1],by simp[hi],hdd.oneCell (allB_mem hcb _ (List.getElem_mem hi)),hdd⟩
           refine .fz _ _ _ _ _ _ _ _ (fun i j=>us.getD (i*s+j) undef) hlc (by simp) (fun hM=>hM.2 ⟨k,_,hmem,.inl (by simp[blkOf,s1])⟩) (lt_of_getElem? s3) ?_ ?_ ?_
           . intro i j hi hj;obtain⟨x,v,a1,_⟩:=hU _ (hin i j hi hj);simp[World.cell?,s3,Array.getD_eq_getD_getElem?,a1]
           . intro i j hi hj;obtain⟨x,v,a1,_,a3,_⟩:=hU _ (hin i j hi hj);simpa[Array.getD_eq_getD_getElem?,a1] using a3
           . intro i j hi hj;obtain⟨x,v,a1,a2,_,a4⟩:=hU _ (hin i j hi hj);have h2:i*s+j<cs'.length:=by rw[hl];exact hin i j hi hj
             have:=hr M w σ ho _ v cs'[i*s+j] x a2 (by simp[h2]) a4;have e1:tab (chunk s len cs') i j=cs'[i*s+j]:=tab_chunk hi hj h2;rw[e1];simpa[Array.getD_eq_getD_getElem?,a1] using this
     . exact h.elim
   . exact bor0_sound h
 . exact bor0_sound h
theorem borL_sound {own:Own}:∀{vs:List V} {K:List V->Prop},borL own vs K->∃vs',K vs'/\vs'.length=vs.length/\∀M w σ,OwnSim M w σ own->∀(i:Nat) (v v':V) (u:Value),vs[i]?=some v->vs'[i]?=some v'->Den M w σ v u->Den (lent M w σ own) w Sg.none v' u
 | [],K,h=>⟨[],h,rfl,fun _ _ _ _=>by simp⟩
 | v::r,K,h=>by
   obtain⟨v',h,hv⟩:=bor1_sound h;obtain⟨r',hK,hl,hr⟩:=borL_sound h;refine⟨_,hK,by simp[hl],fun M w σ ho i x x' u hx hx' hd=>?_⟩;cases i with
   | zero=>simp at hx hx';subst hx hx';exact hv M w σ u ho hd
   | succ i=>exact hr M w σ ho i x x' u (by simpa using hx) (by simpa using hx') hd
theorem bor_sound {own:Own} {v:V} {K:V->Prop} (h:bor own v K):∃v',K v'/\∀M w σ u,OwnSim M w σ own->Den M w σ v u->Den (lent M w σ own) w Sg.none v' u:=by
 unfold bor at h;split at h
 . rename_i cs;obtain⟨cs',hK,hl,hr⟩:=borL_sound h;refine⟨_,hK,fun M w σ u ho hd=>?_⟩;obtain⟨us,rfl,l1,l2⟩:=hd.agg_inv;refine .agg _ _ _ (by omega) fun i v' u' hv' hu'=>?_;have hi:i<cs.length:=by rw[<- hl];exact(List.getElem?_eq_some_iff.1 hv').1
   exact hr M w σ ho i cs[i] v' u' (by simp[hi]) hv' (l2 i cs[i] u' (by simp[hi]) hu')
 . rename_i k;split at h
   . rename_i cs hlook;split at h
     . rename_i hcb;obtain⟨cs',hK,hl,hr⟩:=borL_sound h;refine⟨_,hK,fun M w σ u ho hd=>?_⟩;have hmem:=look_mem hlook;obtain⟨b,κ,ty,us,s1,s2,s3,s4,s5⟩:=ho.blk k _ hmem;cases hd with
       | loc _ _ _ b' base κ' hk =>
         rw[s1] at hk;simp only[Option.some.injEq,Prod.mk.injEq] at hk;obtain⟨q1,q2,q3⟩:=hk;subst q1 q2 q3;have hU:∀i,i<cs.length->∃x v,us[i]?=some x/\cs[i]?=some v/\x.oneCell'=true/\Den M w σ v x:=fun i hi=>by
          have h1:i<us.size:=by omega
          have hdd:=s5 i cs[i] us[i] (by simp[hi]) (by simp[h1]);exact⟨us[i],cs[i],by simp[h1],by simp[hi],hdd.oneCell (allB_mem hcb _ (List.getElem_mem hi)),hdd⟩
         have hfe:Den (lent M w σ own) w Sg.none (.fe 1 cs.length (tab [cs']) 0 0) (.pointer (some ⟨b,0+(0*cs.length+0),none⟩)):=by
          refine .fe _ _ _ _ _ _ _ _ (fun _ j=>us.getD j undef) (by omega) (fun hM=>hM.2 ⟨k,_,hmem,.inl (by simp[blkOf,s1])⟩) (lt_of_getElem? s3) ?_ ?_ ?_
          . intro i j hi hj;obtain⟨x,v,a1,_⟩:=hU j hj;have hi0:i=0:=by omega
            subst hi0;simp[World.cell?,s3,Array.getD_eq_getD_getElem?,a1]
          . intro i j hi hj;obtain⟨x,v,a1,_,a3,_⟩:=hU j hj;simpa[Array.getD_eq_getD_getElem?,a1] using a3
          . intro i j hi hj;obtain⟨x,v,a1,a2,_,a4⟩:=hU j hj;have h2:j<cs'.length:=by rw[hl];exact hj
            have:=hr M w σ ho j v cs'[j] x a2 (by simp[h2]) a4;have hi0:i=0:=by omega
            subst hi0;have e1:tab [cs'] 0 j=cs'[j]:=by simp[tab,h2]
            rw[e1];simpa[Array.getD_eq_getD_getElem?,a1] using this
         simpa using hfe
     . exact h.elim
   . exact h.elim
 . exact bor1_sound h
theorem bors_sound {own:Own}:∀{vs:List V} {K:List V->Prop},bors own vs K->∃vs',K vs'/\vs'.length=vs.length/\∀M w σ,OwnSim M w σ own->∀(i:Nat) (v v':V) (u:Value),vs[i]?=some v->vs'[i]?=some v'->Den M w σ v u->Den (lent M w σ own) w Sg.none v' u
 | [],K,h=>⟨[],h,rfl,fun _ _ _ _=>by simp⟩
 | v::r,K,h=>by
   obtain⟨v',h,hv⟩:=bor_sound h;obtain⟨r',hK,hl,hr⟩:=bors_sound h;refine⟨_,hK,by simp[hl],fun M w σ ho i x x' u hx hx' hd=>?_⟩;cases i with
   | zero=>simp at hx hx';subst hx hx';exact hv M w σ u ho hd
   | succ i=>exact hr M w σ ho i x x' u (by simpa using hx) (by simpa using hx') hd
def dropK (ks:List Nat):Own->Own
 | []=>[]
 | (k,b)::r=>match memN k ks with|true=>dropK ks r|false=>(k,b)::dropK ks r
def keepK (ks:List Nat):Own->Own
 | []=>[]
 | (k,b)::r=>match memN k ks with|true=>(k,b)::keepK ks r|false=>keepK ks r
theorem dropK_mem {ks:List Nat}:∀{own:Own} {k:Nat} {b:Blk},(k,b)∈dropK ks own↔(k,b)∈own/\k∉ks
 | [],k,b=>by simp[dropK]
 | (q,c)::r,k,b=>by
   unfold dropK;split
   . rename_i h;have:=memN_iff.1 h;rw[dropK_mem];simp only[List.mem_cons,Prod.mk.injEq];constructor
     . rintro⟨a,b⟩;exact⟨.inr a,b⟩
     . rintro⟨⟨rfl,_⟩|a,b⟩
       . exact(b this).elim
       . exact⟨a,b⟩
   . rename_i h;have:q∉ks:=fun e=>by rw[memN_iff.2 e] at h;cases h
     simp only[List.mem_cons,Prod.mk.injEq,dropK_mem];constructor
     . rintro (⟨rfl,rfl⟩ | ⟨a,b⟩)
       . exact⟨.inl ⟨rfl,rfl⟩,this⟩
       . exact⟨.inr a,b⟩
     . rintro⟨⟨rfl,rfl⟩|a,b⟩
       . exact .inl ⟨rfl,rfl⟩
       . exact .inr ⟨a,b⟩
theorem keepK_mem {ks:List Nat}:∀{own:Own} {k:Nat} {b:Blk},(k,b)∈keepK ks own↔(k,b)∈own/\k∈ks
 | [],k,b=>by simp[keepK]
 | (q,c)::r,k,b=>by
   unfold keepK;split
   . rename_i h;have:=memN_iff.1 h;simp only[List.mem_cons,Prod.mk.injEq,keepK_mem];constructor
     . rintro (⟨rfl,rfl⟩ | ⟨a,b⟩)
       . exact⟨.inl ⟨rfl,rfl⟩,this⟩
       . exact⟨.inr a,b⟩
     . rintro⟨⟨rfl,rfl⟩|a,b⟩
       . exact .inl ⟨rfl,rfl⟩
       . exact .inr ⟨a,b⟩
   . rename_i h;have:q∉ks:=fun e=>by rw[memN_iff.2 e] at h;cases h
     rw[keepK_mem];simp only[List.mem_cons,Prod.mk.injEq];constructor
     . rintro⟨a,b⟩;exact⟨.inr a,b⟩
     . rintro⟨⟨rfl,_⟩|a,b⟩
       . exact(this b).elim
       . exact⟨a,b⟩
theorem dropK_nodup {ks:List Nat}:∀{own:Own},(own.map (·.1)).Nodup->((dropK ks own).map (·.1)).Nodup
 | [],h=>by simp[dropK]
 | (q,c)::r,h=>by
   simp only[List.map_cons,List.nodup_cons] at h;unfold dropK;split
   . exact dropK_nodup h.2
   . simp only[List.map_cons,List.nodup_cons];refine⟨fun hm=>?_,dropK_nodup h.2⟩;obtain⟨⟨k,b⟩,h1,h2⟩:=List.mem_map.1 hm;simp only at h2;subst h2;exact h.1 (List.mem_map.2 ⟨_,(dropK_mem.1 h1).1,rfl⟩)
theorem keep_sim {M:Nat->Prop} {w:World} {σ:Sg} {own:Own} {ks:List Nat} (hh:HSim M w σ own ks) (keys:List Nat):OwnSim M w σ (keepK keys own):=by
 refine⟨fun k b hm=>hh.own.blk k b (keepK_mem.1 hm).1,?_,fun k b k' b' n h1 h2=>hh.own.apart k b k' b' n (keepK_mem.1 h1).1 (keepK_mem.1 h2).1⟩;have:∀(m:Own),(m.map (·.1)).Nodup->((keepK keys m).map (·.1)).Nodup:=by
  intro m
  induction m with
  | nil=>intro _;simp[keepK]
  | cons p m ih =>
    intro hn;obtain⟨q,c⟩:=p;simp only[List.map_cons,List.nodup_cons] at hn;unfold keepK;split
    . simp only[List.map_cons,List.nodup_cons];refine⟨fun hm=>?_,ih hn.2⟩;obtain⟨⟨k,b⟩,h1,h2⟩:=List.mem_map.1 hm;simp only at h2;subst h2;exact hn.1 (List.mem_map.2 ⟨_,(keepK_mem.1 h1).1,rfl⟩)
    . exact ih hn.2
 exact this own hh.own.nodup
theorem freeze_sim {M:Nat->Prop} {w:World} {σ:Sg} {own:Own} {ks:List Nat} (hh:HSim M w σ own ks) (keys:List Nat) :
 HSim (lent M w σ (keepK keys own)) w σ (dropK keys own) ks/\∀b,¬ owned w σ own b->(lent M w σ (keepK keys own) b↔M b):=by
 have hE:=lent_ext M w σ (keepK keys own);refine⟨⟨⟨fun k b hm=>?_,dropK_nodup hh.own.nodup,fun k b k' b' n h1 h2=>hh.own.apart k b k' b' n (dropK_mem.1 h1).1 (dropK_mem.1 h2).1⟩,hh.fresh,hh.knodup⟩,fun b hb=>⟨fun h=>h.1,fun h=>⟨h,?_⟩⟩⟩
 . obtain⟨hm1,hm2⟩:=dropK_mem.1 hm;refine(hh.own.blk k b hm1).mono hE (Sg.le_refl _) fun n hn=>⟨⟨(owned_M hh.own ⟨k,b,hm1,hn⟩).1,?_⟩,rfl⟩;rintro⟨k',b',h1,h2⟩;obtain⟨h3,h4⟩:=keepK_mem.1 h1;have hne:k≠k':=fun e=>hm2 (e▸h4);exact hh.own.apart k b k' b' n hm1 h3 hne hn h2
 . rintro⟨k',b',h1,h2⟩;exact hb ⟨k',b',(keepK_mem.1 h1).1,h2⟩
def V.key1:V->List Nat
 | .vec k _ _ _=>[k]
 | _=>[]
def keysL:List V->List Nat
 | []=>[]
 | v::r=>v.key1++keysL r
def frzKeys (own:Own) (v:V):List Nat :=
 match v with
 | .vec k _ _ _=>match look own k with
   | some (.cells cs)=>k::keysL cs
   | _=>[k]
 | .agg cs=>keysL cs
 | _=>[]
def frzV (own:Own) (v:V) (K:V->Own->Prop):Prop:=bor (keepK (frzKeys own v) own) v fun v'=>K v' (dropK (frzKeys own v) own)
theorem frzV_sound {own:Own} {v:V} {K:V->Own->Prop} (h:frzV own v K):∃v' own',K v' own'/\(∀k,k∈own'.map (·.1)->k∈own.map (·.1)) /\
 ∀M w σ ks u,HSim M w σ own ks->Den M w σ v u->∃M',HSim M' w σ own' ks/\Tr M w σ own M' w σ own'/\Den M' w σ v' u/\Ext M w M' w:=by
 obtain⟨v',hK,hb⟩:=bor_sound h;refine⟨v',_,hK,fun k hk=>?_,fun M w σ ks u hh hd=>?_⟩
 . obtain⟨⟨q,c⟩,h1,h2⟩:=List.mem_map.1 hk;exact List.mem_map.2 ⟨_,(dropK_mem.1 h1).1,h2⟩
 . obtain⟨f1,f2⟩:=freeze_sim hh (frzKeys own v);refine⟨_,f1,⟨⟨rfl,rfl,rfl,Nat.le_refl _,fun _ _ _=>rfl,fun b _ hn=>f2 b hn⟩,fun b ⟨k,c,h1,h2⟩=>.inl ⟨k,c,(dropK_mem.1 h1).1,h2⟩,Sg.le_refl _⟩,?_,lent_ext _ _ _ _⟩;exact(hb M w σ u (keep_sim hh _) hd).mono ⟨fun _ _ h=>⟨h,rfl⟩,Nat.le_refl _⟩ (Sg.none_le σ)
def vappF (own:Own) (ks:List Nat) (s bytes:Nat) (x y:V) (K:V->Own->List Nat->Prop):Prop :=
 match y with
 | .vec k s' lo len=>match look own k with
   | some (.cells _)=>frzV own (.vec k s' lo len) fun y' own'=>vapp own' ks s bytes x y' K
   | _=>vapp own ks s bytes x (.vec k s' lo len) K
 | y=>vapp own ks s bytes x y K
theorem vappF_sound {own:Own} {ks:List Nat} {s bytes:Nat} {x y:V} {K:V->Own->List Nat->Prop} (h:vappF own ks s bytes x y K) :
 ∃y' own',vapp own' ks s bytes x y' K/\(∀k,k∈own'.map (·.1)->k∈own.map (·.1))/\∀M w σ u,HSim M w σ own ks->Den M w σ y u->∃M',HSim M' w σ own' ks/\Tr M w σ own M' w σ own'/\Den M' w σ y' u/\Ext M w M' w:=by
 have triv:∀{z:V},vapp own ks s bytes x z K->∃y' own',vapp own' ks s bytes x y' K/\(∀k,k∈own'.map (·.1)->k∈own.map (·.1))/\∀M w σ u,HSim M w σ own ks->Den M w σ z u->∃M',HSim M' w σ own' ks/\Tr M w σ own M' w σ own'/\Den M' w σ y' u/\Ext M w M' w :=
  fun {z} h=>⟨z,own,h,fun _ h=>h,fun M w σ u hh hd=>⟨M,hh,Tr.refl _ _ _ _,hd,⟨fun _ _ h=>⟨h,rfl⟩,Nat.le_refl _⟩⟩⟩
 unfold vappF at h;split at h
 . split at h
   . obtain⟨y',own',a,b,c⟩:=frzV_sound h;exact⟨y',own',a,b,fun M w σ u=>c M w σ ks u⟩
   . exact triv h
 . exact triv h
def V.keyed:V->Bool
 | .vec _ _ _ _=>true
 | .agg cs=>match keysL cs with|[]=>false|_::_=>true
 | _=>false
def vstoreF (own:Own) (sz:Nat) (p v:V) (K:Own->Prop):Prop :=
 match p with
 | .oel k s i j=>match look own k with
   | some (.vec _ _ _)=>match v.keyed with
     | true=>frzV own v fun v' own'=>vstore own' sz (.oel k s i j) v' K
     | false=>vstore own sz (.oel k s i j) v K
   | _=>vstore own sz (.oel k s i j) v K
 | p=>vstore own sz p v K
theorem vstoreF_sound {own:Own} {sz:Nat} {p v:V} {K:Own->Prop} (h:vstoreF own sz p v K) :
 ∃v' own',vstore own' sz p v' K/\(∀k,k∈own'.map (·.1)->k∈own.map (·.1))/\∀M w σ ks u,HSim M w σ own ks->Den M w σ v u->∃M',HSim M' w σ own' ks/\Tr M w σ own M' w σ own'/\Den M' w σ v' u/\Ext M w M' w:=by
 have triv:vstore own sz p v K->∃v' own',vstore own' sz p v' K/\(∀k,k∈own'.map (·.1)->k∈own.map (·.1))/\∀M w σ ks u,HSim M w σ own ks->Den M w σ v u->∃M',HSim M' w σ own' ks/\Tr M w σ own M' w σ own'/\Den M' w σ v' u/\Ext M w M' w :=
  fun h=>⟨v,own,h,fun _ h=>h,fun M w σ ks u hh hd=>⟨M,hh,Tr.refl _ _ _ _,hd,⟨fun _ _ h=>⟨h,rfl⟩,Nat.le_refl _⟩⟩⟩
 unfold vstoreF at h;split at h
 . split at h
   . split at h
     . exact frzV_sound h
     . exact triv h
   . exact triv h
 . exact triv h
theorem foldl_set (l:List Value):∀(k:Nat) (cells:Array Value) (off:Nat),off+k+l.length<=cells.size ->
 (l.zipIdx k).foldl (fun cs (p:Value×Nat)=>cs.setIfInBounds (off+p.2) p.1) cells=(cells.toList.take (off+k)++l++cells.toList.drop (off+k+l.length)).toArray:=by
 induction l with
 | nil =>
   intro k cells off h;apply Array.ext';simp
 | cons x l ih =>
   intro k cells off h;simp only[List.length_cons] at h;rw[List.zipIdx_cons,List.foldl_cons,ih (k+1) _ off (by simp;omega)];apply Array.ext';simp only[Array.toList_setIfInBounds];have hlen:off+k<cells.toList.length:=by simp;omega
   apply List.ext_getElem?;intro i;have g1:=splice_get (cells.toList.set (off+k) x) l (off+(k+1)) (by simp;omega) i;have g2:=splice_get cells.toList (x::l) (off+k) (by simp;omega) i;rw[g1,g2];simp only[List.length_cons,List.getElem?_set];by_cases h1:i<off+k
   . rw[if_pos (by omega),if_pos h1,if_neg (by omega)]
   . by_cases h2:i=off+k
     . subst h2;rw[if_pos (by omega),if_pos rfl,if_pos hlen,if_neg (by omega),if_pos (by omega)];simp
     . rw[if_neg (by omega),if_neg h1];by_cases h3:i<off+(k+1)+l.length
       . rw[if_pos h3,if_pos (by omega)];rw[show i-(off+k)=(i-(off+(k+1)))+1 by omega];simp
       . rw[if_neg h3,if_neg (by omega),if_neg (by omega)]
theorem fill_cons {place:Nat->Option (Nat×Nat)} {cells:Array Value} {i off size:Nat} {v:Value} {rest:List (Nat×Value)} (hp:place i=some (off,size)) (hs:v.cells.size=size) (hfit:off+size<=cells.size) :
 Instr.fill place cells ((i,v)::rest)=Instr.fill place (cells.toList.take off++v.cells.toList++cells.toList.drop (off+size)).toArray rest:=by
 have hf:=foldl_set v.cells.toList 0 cells off (by simp;omega);simp only[Nat.add_zero,Array.length_toList,hs] at hf;have he:v.cells.zipIdx.foldl (fun cs (p:Value×Nat)=>cs.setIfInBounds (off+p.2) p.1) cells=(cells.toList.take off++v.cells.toList++cells.toList.drop (off+size)).toArray:=by
  rw[<- hf,<- Array.foldl_toList];simp
 have hb:(decide (v.cells.size≠size) || decide (off+v.cells.size > cells.size))=false:=by simp[hs];omega
 simp only[Instr.fill,hp,hb,Bool.false_eq_true,if_false];exact congrArg (fun c=>Instr.fill place c rest) he
def fillK (env:Env):List (Nat×Nat×X)->List V->(List V->Prop)->Prop
 | [],zs,K=>K zs
 | (off,size,x)::r,zs,K=>x.get env fun v=>v.cellsK fun vs=>match Nat.beq vs.length size,Nat.ble (off+size) zs.length,allB V.cellB vs with
   | true,true,true=>setK zs off vs fun zs=>fillK env r zs K
   | _,_,_=>False
def cParts (place:Nat->Option (Nat×Nat)):List (Nat×Operand)->Option (List (Nat×Nat×X))
 | []=>some []
 | (i,o)::r=>match place i,cX o,cParts place r with
   | some (off,size),some x,some l=>some ((off,size,x)::l)
   | _,_,_=>none
theorem fillK_sound (env:Env) (place:Nat->Option (Nat×Nat)):∀(ps:List (Nat×Operand)) (l:List (Nat×Nat×X)) (zs:List V) (K:List V->Prop),cParts place ps=some l->fillK env l zs K ->
 ∃r,K r/\r.length=zs.length/\((∀z∈zs,z.cellB=true)->∀z∈r,z.cellB=true) /\
 ∀M w σ (a:Act) (us:List Value),(∀x,x∈l.map (·.2.2)->XOk M w σ env a x)->zs.length=us.length->(∀(i:Nat) (v:V) (u:Value),zs[i]?=some v->us[i]?=some u->Den M w σ v u) ->
  ∃us':List Value,Instr.fill place us.toArray (ps.map fun p=>(p.1,a.eval p.2))=some us'.toArray/\us'.length=us.length /\
   (∀(i:Nat) (v:V) (u:Value),r[i]?=some v->us'[i]?=some u->Den M w σ v u)
 | [],l,zs,K,hc,h=>by
   simp[cParts] at hc;subst hc;exact⟨zs,h,rfl,fun h=>h,fun M w σ a us _ hl hd=>⟨us,rfl,rfl,hd⟩⟩
 | (i,o)::ps,l,zs,K,hc,h=>by
   unfold cParts at hc;split at hc<;>simp only[Option.some.injEq,reduceCtorEq] at hc;rename_i off size x l' h1 h2 h3;subst hc;obtain⟨v,h,hv⟩:=get_sound h2 h;obtain⟨vs,h,hvs⟩:=cellsK_sound h;split at h
   . rename_i e1 e2 e3;have e1:=Nat.eq_of_beq_eq_true e1;have e2:=Nat.le_of_ble_eq_true e2;obtain⟨zs',h,s1,s2,s3⟩:=setK_sound _ _ _ _ h;obtain⟨r,hK,r1,r2,r3⟩:=fillK_sound env place ps l' zs' K h3 h;refine⟨r,hK,by omega,?_,?_⟩
     . intro hz;apply r2;intro z hzm;rw[s3] at hzm;rcases List.mem_append.1 hzm with hm|hm
       . rcases List.mem_append.1 hm with hm|hm
         . exact hz z (List.mem_of_mem_take hm)
         . exact allB_mem e3 z hm
       . exact hz z (List.mem_of_mem_drop hm)
     . intro M w σ a us hx hl hd;obtain⟨l1,l2⟩:=hvs M w σ _ (hv M w σ a (hx x (by simp)));have hsz:(a.eval o).cells.size=size:=by omega
       have lenu:(a.eval o).cells.toList.length=size:=by simpa using hsz
       have hsp:=splice_length us (a.eval o).cells.toList off (by omega);rw[lenu] at hsp;obtain⟨us',f1,f2,f3⟩:=r3 M w σ a (us.take off++(a.eval o).cells.toList++us.drop (off+size)) (fun y hy=>hx y (by simp only[List.map_cons,List.mem_cons];exact .inr hy)) (by omega) (by
        intro j v' u' hv' hu';have g1:=splice_get us (a.eval o).cells.toList off (by omega) j;rw[lenu] at g1;have g2:=splice_get zs vs off (by omega) j;rw[<- s3,e1] at g2;rw[g1] at hu';rw[g2] at hv';split at hv'
        . rename_i c1;rw[if_pos c1] at hu';exact hd j v' u' hv' hu'
        . rename_i c1;rw[if_neg c1] at hu';split at hv'
          . rename_i c2;rw[if_pos c2] at hu';exact l2 _ v' u' hv' (by simpa using hu')
          . rename_i c2;rw[if_neg c2] at hu';exact hd j v' u' hv' hu')
       refine⟨us',?_,by omega,f3⟩;rw[List.map_cons,fill_cons h1 hsz (by simp;omega)];exact f1
   . exact h.elim
def flatK (s:Nat):List V->(List V->Prop)->Prop
 | [],K=>K []
 | v::r,K=>v.cellsK fun vs=>match Nat.beq vs.length s,allB V.cellB vs with
   | true,true=>flatK s r fun cs=>K (vs++cs)
   | _,_=>False
theorem flatK_sound (s:Nat):∀(l:List V) (K:List V->Prop),flatK s l K->∃cs,K cs/\cs.length=l.length*s /\
 ∀M w σ (us:List Value),l.length=us.length->(∀(i:Nat) (v:V) (u:Value),l[i]?=some v->us[i]?=some u->Den M w σ v u) ->
  (∀u∈us,u.cells.size=s)/\∀i u,us[i]?=some u->∀j,j<s->∃x v,u.cells[j]?=some x/\x.oneCell'=true/\cs[i*s+j]?=some v/\Den M w σ v x
 | [],K,h=>⟨[],h,by simp,fun M w σ us hl _=>by
    have:us=[]:=List.eq_nil_of_length_eq_zero (by simpa using hl.symm);subst this;simp⟩
 | v::r,K,h=>by
   obtain⟨vs,hA,hvs⟩:=cellsK_sound h;clear h;split at hA
   . rename_i e1 e2;have e1:=Nat.eq_of_beq_eq_true e1;obtain⟨cs,hK,hl,hr⟩:=flatK_sound s r _ hA;refine⟨_,hK,by simp[hl,e1,Nat.add_mul,Nat.add_comm],fun M w σ us hlu hd=>?_⟩;cases us with
     | nil=>simp at hlu
     | cons u us =>
       obtain⟨c1,c2⟩:=hvs M w σ u (hd 0 v u (by simp) (by simp));obtain⟨d1,d2⟩:=hr M w σ us (by simpa using hlu) (fun i v u hv hu=>hd (i+1) v u (by simpa using hv) (by simpa using hu));refine⟨fun u' hu'=>?_,fun i u' hu' j hj=>?_⟩
       . rcases List.mem_cons.1 hu' with e|e
         . subst e;omega
         . exact d1 u' e
       . cases i with
         | zero =>
           simp at hu';subst hu';have hj1:j<vs.length:=by omega
           have hj2:j<u.cells.size:=by omega
           have hdd:=c2 j vs[j] u.cells[j] (by simp[hj1]) (by simp[hj2]);refine⟨u.cells[j],vs[j],by simp[hj2],hdd.oneCell (allB_mem e2 _ (List.getElem_mem hj1)),?_,hdd⟩;rw[List.getElem?_append_left (by omega)];simp[hj1]
         | succ i =>
           obtain⟨x,y,a1,a2,a3,a4⟩:=d2 i u' (by simpa using hu') j hj;refine⟨x,y,a1,a2,?_,a4⟩;rw[List.getElem?_append_right (by rw[e1,Nat.add_mul];omega)];rw[show(i+1)*s+j-vs.length=i*s+j by rw[e1,Nat.add_mul];omega];exact a3
   . exact hA.elim
def rowsK (s:Nat):List V->(List (List V)->Prop)->Prop
 | [],K=>K []
 | v::r,K=>v.cellsK fun vs=>match Nat.beq vs.length s,allB V.cellB vs,allB V.kf1 vs with
   | true,true,true=>rowsK s r fun rs=>K (vs::rs)
   | _,_,_=>False
theorem rowsK_sound (s:Nat):∀(l:List V) (K:List (List V)->Prop),rowsK s l K->∃rs,K rs/\rs.length=l.length /\
 ∀M w σ (us:List Value),l.length=us.length->(∀(i:Nat) (v:V) (u:Value),l[i]?=some v->us[i]?=some u->Den M w σ v u) ->
  (∀u∈us,u.cells.size=s)/\∀i u,us[i]?=some u->∀j,j<s->∃x,u.cells[j]?=some x/\x.oneCell'=true/\Den M w Sg.none (tab rs i j) x
 | [],K,h=>⟨[],h,rfl,fun M w σ us hl _=>by
    have:us=[]:=List.eq_nil_of_length_eq_zero (by simpa using hl.symm);subst this;simp⟩
 | v::l,K,h=>by
   obtain⟨vs,h,hvs⟩:=cellsK_sound h;split at h
   . rename_i e1 e2 e3;have e1:=Nat.eq_of_beq_eq_true e1;obtain⟨rs,hK,hl,hr⟩:=rowsK_sound s l _ h;refine⟨vs::rs,hK,by simp[hl],?_⟩;intro M w σ us hlen hd;cases us with
     | nil=>simp at hlen
     | cons u us =>
       obtain⟨l1,l2⟩:=hvs M w σ u (hd 0 v u (by simp) (by simp));obtain⟨q1,q2⟩:=hr M w σ us (by simpa using hlen) (fun i v' u' h1 h2=>hd (i+1) v' u' (by simpa using h1) (by simpa using h2));refine⟨?_,?_⟩
       . intro x hx;rcases List.mem_cons.1 hx with e|e
         . subst e;omega
         . exact q1 x e
       . intro i u' hu' j hj;cases i with
         | zero =>
           simp at hu';subst hu';have hj1:j<vs.length:=by omega
           have hj2:j<u.cells.size:=by omega
           have hdj:=l2 j vs[j] u.cells[j] (by simp[hj1]) (by simp[hj2]);refine⟨u.cells[j],by simp[hj2],hdj.oneCell (allB_mem e2 _ (List.getElem_mem hj1)),?_⟩;have:=hdj.kf1 (allB_mem e3 _ (List.getElem_mem hj1)) Sg.none;simpa[tab,List.getD,hj1] using this
         | succ i =>
           obtain⟨x,x1,x2,x3⟩:=q2 i u' (by simpa using hu') j hj;exact⟨x,x1,x2,by simpa[tab] using x3⟩
   . exact h.elim
def idxs {α:Type}:Nat->List (Nat×α)->Bool
 | _,[]=>true
 | i,(k,_)::r=>match Nat.beq k i with|true=>idxs (i+1) r|false=>false
theorem fill_rows (s:Nat):∀(ps:List (Nat×Value)) (i:Nat) (cells:Array Value),idxs i ps=true->(∀p∈ps,p.2.cells.size=s)->(i+ps.length)*s<=cells.size ->
 ∃cells',Instr.fill (fun i=>some (i*s,s)) cells ps=some cells'/\cells'.size=cells.size/\(∀q,q<i*s->cells'[q]?=cells[q]?) /\
  ∀r p,ps[r]?=some p->∀j,j<s->cells'[(i+r)*s+j]?=p.2.cells[j]?
 | [],i,cells,_,_,_=>⟨cells,rfl,rfl,fun _ _=>rfl,by simp⟩
 | (k,v)::ps,i,cells,hi,hs,hfit=>by
   unfold idxs at hi;split at hi
   . rename_i hk;have hk:=Nat.eq_of_beq_eq_true hk;subst hk;have hsz:v.cells.size=s:=hs (k,v) (by simp);have h1:k*s+s<=cells.size:=by
      have:(k+1)*s<=(k+(ps.length+1))*s:=Nat.mul_le_mul_right _ (by omega);rw[Nat.succ_mul] at this;simp only[List.length_cons] at hfit;omega
     have lenv:v.cells.toList.length=s:=by simpa using hsz
     have hsp:=splice_length cells.toList v.cells.toList (k*s) (by simp;omega);rw[lenv] at hsp;obtain⟨c',f1,f2,f3,f4⟩:=fill_rows s ps (k+1) (cells.toList.take (k*s)++v.cells.toList++cells.toList.drop (k*s+s)).toArray hi (fun p hp=>hs p (by simp[hp]))
      (by simp only[List.size_toArray,hsp,Array.length_toList];simp only[List.length_cons] at hfit;rw[show k+1+ps.length=k+(ps.length+1) by omega];exact hfit)
     have g:=splice_get cells.toList v.cells.toList (k*s) (by simp;omega);rw[lenv] at g;refine⟨c',?_,by rw[f2];simp only[List.size_toArray,hsp,Array.length_toList],?_,?_⟩
     . rw[fill_cons (place:=fun i=>some (i*s,s)) rfl hsz (by omega)];exact f1
     . intro q hq;rw[f3 q (by rw[Nat.succ_mul];omega),List.getElem?_toArray,g q,if_pos hq];simp
     . intro r p hp j hj;cases r with
       | zero =>
         simp at hp;subst hp;rw[Nat.add_zero,f3 _ (by rw[Nat.succ_mul];omega),List.getElem?_toArray,g,if_neg (by omega),if_pos (by omega),show k*s+j-k*s=j by omega];simp
       | succ r =>
         have:=f4 r p (by simpa using hp) j hj;rw[show k+(r+1)=k+1+r by omega];exact this
   . cases hi
end Go.Eng
namespace Go.Eng
open Go.MapKept (bytes_beq)
inductive XOp where
 | mks (s bytes:Nat) (zs:List V) (x:X)
 | mkmap (ik:MKd)
 | mget (ik:MKd) (z:V) (comma:Bool) (m x:X)
 | mput (ik:MKd) (m x y:X)
 | mrng (x:X)
 | mnxt (x:X)
 | ment (x:X)
 | gix (g n s:Nat) (x:X)
 | asl (n s:Nat) (x:X) (hi:Option X)
 | cpy (s:Nat) (x y:X)
 | mln (x:X)
def XOp.xs:XOp->List X
 | .mks _ _ _ x | .mrng x | .mnxt x | .ment x | .mln x | .gix _ _ _ x=>[x]
 | .mkmap _=>[]
 | .mget _ _ _ m x=>[m,x]
 | .mput _ m x y=>[m,x,y]
 | .asl _ _ x hi=>x::Xo hi
 | .cpy _ x y=>[x,y]
def mfind {α:Type} [DecidableEq α]:List (α×V)->α->Option V
 | [],_=>none
 | (q,v)::r,p=>if q=p then some v else mfind r p
def mput {α:Type} [DecidableEq α]:List (α×V)->α->V->List (α×V)
 | [],p,v=>[(p,v)]
 | (q,u)::r,p,v=>if q=p then (q,v)::r else (q,u)::mput r p v
def stK:(l:List IntKind)->List V->(KyS l->Prop)->Prop
 | [],[],K=>K ()
 | k::l,.int k' a::r,K=>match decide (k'=k) with
   | true=>stK l r fun p=>K (a,p)
   | false=>False
 | _,_,_=>False
def stV:(l:List IntKind)->KyS l->List V
 | [],_=>[]
 | k::r,p=>.int k p.1::stV r p.2
def pairK (ik:MKd) (v:V) (K:KyT ik->Prop):Prop :=
 match ik with
 | .pair ik=>match v with
   | .agg [.int k a,.int k' b]=>match decide (k=ik),decide (k'=ik) with
     | true,true=>K (a,b)
     | _,_=>False
   | _=>False
 | .one ik=>match v with
   | .int k a=>match decide (k=ik) with
     | true=>K a
     | false=>False
   | _=>False
 | .str=>match v with
   | .str s=>K s
   | _=>False
 | .st l=>match v with
   | .agg vs=>stK l vs K
   | _=>False
def keyV:(ik:MKd)->KyT ik->V
 | .pair k,p=>.agg [.int k p.1,.int k p.2]
 | .one k,p=>.int k p
 | .str,p=>.str p
 | .st l,p=>.agg (stV l p)
structure MGet (o:Option V) (A:V->Prop) (B:Prop):Prop where
 hit:∀v,o=some v->A v
 miss:o=none->B
structure MNext {α:Type} (n:Nat) (idxs:List Nat) (es:List α) (A:Nat->α->Prop) (B:Prop):Prop where
 one:∀i p,i<n->i∉idxs->es[i]?=some p->A i p
 over:(∀i,i<n->i∈idxs)->B
def mapK (own:Own) (m:V) (K:Nat->(ik:MKd)->List (KyT ik×V)->Prop):Prop :=
 match m with
 | .map k=>match look own k with
   | some (.map ik es)=>K k ik es
   | _=>False
 | _=>False
def iterK (own:Own) (m:V) (K:Nat->Nat->Nat->List Nat->(ik:MKd)->List (KyT ik×V)->Prop):Prop :=
 match m with
 | .loc k 0=>match look own k with
   | some (.iter km n idxs)=>match look own km with
     | some (.map ik es)=>Chk (Nat.beq es.length n) (K k km n idxs ik es)
     | _=>False
   | _=>False
 | _=>False
def lastK (l:List Nat) (K:Nat->Prop):Prop:=∃i,l.getLast?=some i/\K i
def globK (own:Own) (g:Nat) (K:Nat->(Nat->Nat->V)->Prop):Prop :=
 match look own 999 with
 | some (.glob g' m f)=>match Nat.beq g g' with
   | true=>K m f
   | false=>False
 | _=>False
inductive MkS (A B:Prop):Prop where
 | vec (h:A):MkS A B
 | cells (h:B):MkS A B
def mksK (s m:Nat) (zs:List V) (own:Own) (k:Nat) (ks:List Nat) (K:V->Own->List Nat->Prop):Prop :=
 match s with
 | 1=>MkS (K (.vec k 1 0 m) ((k,.vec m 1 (fun _ j=>zs.getD j default))::own) ks) (K (.vec k 1 0 m) ((k,.cells (List.replicate m (zs.getD 0 default)))::own) ks)
 | s=>K (.vec k s 0 m) ((k,.vec m s (fun _ j=>zs.getD j default))::own) ks
theorem mksK_out {s m:Nat} {zs:List V} {own:Own} {k:Nat} {ks:List Nat} {K:V->Own->List Nat->Prop} (h:mksK s m zs own k ks K) :
 K (.vec k s 0 m) ((k,.vec m s (fun _ j=>zs.getD j default))::own) ks\/(s=1/\K (.vec k 1 0 m) ((k,.cells (List.replicate m (zs.getD 0 default)))::own) ks):=by
 unfold mksK at h;split at h
 . cases h with
   | vec h=>exact .inl h
   | cells h=>exact .inr ⟨rfl,h⟩
 . exact .inl h
def vcpy (own:Own) (s:Nat) (a b:V) (K:Nat->Own->Prop):Prop :=
 vsrc own s b fun m fy=>match a with
  | .vec k s' lo len=>match look own k with
    | some (.vec n s'' f)=>match Nat.beq s s',Nat.beq s s'' with
      | true,true=>Len m len (Len (lo+m) n (updK k (.vec n s (fput f lo m fy)) own (K m)))
      | _,_=>False
    | _=>False
  | _=>False
def vxop (o:XOp) (env:Env) (own:Own) (ks:List Nat) (K:V->Own->List Nat->Prop):Prop :=
 match o with
 | .mks s bytes zs x=>x.get env fun v=>match v with
   | .int _ n=>Bd n 4611686018427387904 fun m=>Len (m*bytes) 140737488355328 (fresh ks fun k ks=>mksK s m zs own k ks K)
   | _=>False
 | .mkmap ik=>fresh ks fun k ks=>K (.map k) ((k,.map ik [])::own) ks
 | .mget ik z comma m x=>m.get env fun m=>x.get env fun x=>mapK own m fun _ ik' es=>match decide (ik'=ik) with
   | true=>pairK ik' x fun p=>MGet (mfind es p) (fun v=>match comma with|true=>K (.tup [v,.bool true]) own ks|false=>K v own ks) (match comma with|true=>K (.tup [z,.bool false]) own ks|false=>K z own ks)
   | false=>False
 | .mput ik m x y=>m.get env fun m=>x.get env fun x=>y.get env fun y=>mapK own m fun k ik' es=>match decide (ik'=ik),y.kf2 with
   | true,true=>pairK ik' x fun p=>updK k (.map ik' (mput es p y)) own fun own=>K (.raw (.tuple #[])) own ks
   | _,_=>False
 | .mrng x=>x.get env fun m=>mapK own m fun km _ es=>fresh ks fun k ks=>K (.loc k 0) ((k,.iter km es.length [])::own) ks
 | .mnxt x=>x.get env fun m=>iterK own m fun k km n idxs ik es =>
    MNext n idxs es (fun i p=>updK k (.iter km n (idxs++[i])) own fun own=>K (.tup [.bool true,keyV ik p.1,p.2]) own ks) (K (.tup [.bool false]) own ks)
 | .ment x=>x.get env fun m=>iterK own m fun _ _ _ idxs ik es=>lastK idxs fun i=>∃p,es[i]?=some p/\K (.tup [keyV ik p.1,p.2]) own ks
 | .asl n s x hi=>x.get env fun p=>match p with
   | .oel k s' 0 0=>match look own k with
     | some (.vec n' s'' f)=>match Nat.beq s s',Nat.beq s s'',Nat.ble n n' with
       | true,true,true=>bdK hi env n n fun h=>K (.fz h s false f) (dropK [k] own) ks
       | _,_,_=>False
     | _=>False
   | _=>False
 | .cpy s x y=>x.get env fun a=>y.get env fun b=>vcpy own s a b fun m own=>K (.int .i64 m) own ks
 | .mln x=>x.get env fun m=>mapK own m fun _ _ es=>K (.int .i64 es.length) own ks
 | .gix g n s x=>x.get env fun v=>match v with
   | .int _ i=>globK own g fun m f=>match Nat.beq s 1,Nat.beq n m with
     | true,true=>Ix i n fun j=>K (.fe m 1 f j 0) own ks
     | _,_=>False
   | _=>False
def stKs (P:Program):Nat->List Field->Option (List IntKind)
 | _,[]=>some []
 | i,f::r=>match Nat.beq f.offset i,f.name == "_",P.underlying f.type,stKs P (i+1) r with
   | true,false,some (.int k),some l=>some (k::l)
   | _,_,_,_=>none
def isM2 (P:Program) (t:TypeId):Option (MKd×TypeId×TypeId×TypeId) :=
 match P.underlying t with
 | some (.map kt et)=>match P.underlying kt with
   | some (.array 2 e)=>match P.underlying e,szOf P e with
     | some (.int k),some 1=>some (.pair k,kt,et,e)
     | _,_=>none
   | some (.int k)=>some (.one k,kt,et,kt)
   | some .string=>some (.str,kt,et,kt)
   | some (.struct fs)=>match P.stoodInHeld kt,stKs P 0 fs.toList with
     | false,some l=>some (.st l,kt,et,kt)
     | _,_=>none
   | _=>none
 | _=>none
def zero1 (P:Program) (t:TypeId):Option V:=match P.info? t with
 | some i=>match i.zero with
   | some z=>ofCell z
   | none=>none
 | none=>none
def cXop (P:Program) (op:Op):Option XOp :=
 match op with
 | .makeSlice t l c=>match P.underlying t with
   | some (.slice e)=>match szOf P e,(P.info? e).map (·.bytes),zeroOf P e,cX l,sameB (some l) (some c) with
     | some s,some b,some zs,some x,true=>match Nat.beq zs.length s,allB V.kf1 zs with
       | true,true=>some (.mks s b zs x)
       | _,_=>none
     | _,_,_,_,_=>none
   | _=>none
 | .makeMap t none=>(isM2 P t).map fun p=>.mkmap p.1
 | .lookup t m x comma=>match isM2 P t,cX m,cX x with
   | some (ik,_,et,_),some m,some x=>(zero1 P et).map fun z=>.mget ik z comma m x
   | _,_,_=>none
 | .mapUpdate t m x y=>match isM2 P t,cX m,cX x,cX y with
   | some (ik,_,_,_),some m,some x,some y=>some (.mput ik m x y)
   | _,_,_,_=>none
 | .range t x=>match isM2 P t with
   | some _=>(cX x).map .mrng
   | none=>none
 | .next x false=>(cX x).map .mnxt
 | .entry x=>(cX x).map .ment
 | .indexAddr t (.global g) i=>match P.underlying t,cX i with
   | some (.array n e),some i=>(szOf P e).map fun s=>.gix g n s i
   | _,_=>none
 | .slice t x none hi none=>match P.underlying t with
   | some (.array n e)=>match szOf P e,cX x,cXo hi with
     | some s,some x,some hi=>some (.asl n s x hi)
     | _,_,_=>none
   | _=>none
 | .call { callee:=.builtin .copy,args,argTypes }=>match args.toList,argTypes.toList with
   | [x,y],[t,_]=>match P.underlying t with
     | some (.slice e)=>match szOf P e,cX x,cX y with
       | some s,some x,some y=>some (.cpy s x y)
       | _,_,_=>none
     | _=>none
   | _,_=>none
 | .call { callee:=.builtin .len,args,argTypes }=>match args.toList,argTypes.toList with
   | [x],[t]=>match P.underlying t with
     | some (.map _ _)=>(cX x).map .mln
     | _=>none
   | _,_=>none
 | _=>none
section
variable {P:Program} {t kt et e:TypeId} {ik:MKd}
def KeyTy (P:Program) (ik:MKd) (kt e:TypeId):Prop :=
 match ik with
 | .pair k=>P.underlying kt=some (.array 2 e)/\P.underlying e=some (.int k)/\szOf P e=some 1
 | .one k=>P.underlying kt=some (.int k)
 | .str=>P.underlying kt=some .string
 | .st l=>P.underlying kt=some (.struct (P.fieldsOf kt))/\P.stoodInHeld kt=false/\stKs P 0 (P.fieldsOf kt).toList=some l
theorem isM2_spec (h:isM2 P t=some (ik,kt,et,e)):P.underlying t=some (.map kt et)/\KeyTy P ik kt e:=by
 unfold isM2 at h;split at h
 . rename_i kt' et' h1;split at h
   . rename_i e' h2;split at h
     . rename_i k h3 h4;cases h;exact⟨h1,h2,h3,h4⟩
     . cases h
   . rename_i k h2;cases h;exact⟨h1,h2⟩
   . rename_i h2;cases h;exact⟨h1,h2⟩
   . rename_i fs h2;split at h
     . rename_i l h3 h4;cases h;have e:P.fieldsOf kt=fs:=by simp only[Program.fieldsOf,h2]
       exact⟨h1,by rw[e];exact h2,h3,by rw[e];exact h4⟩
     . cases h
   . cases h
 . cases h
theorem run_isAgg2 {k:IntKind} (he:P.underlying e=some (.int k)) (w:World):(isAgg e).run P w=.ok false w:=run_isAggB (show isAggB P e=some false by simp[isAggB,he]) w
theorem run_checkSt (b:Bool) (w:World):∀(fs:List Field) (i:Nat) (l:List IntKind) (p:KyS l) (pre:List Value),stKs P i fs=some l->pre.length=i ->
 (forIn fs PUnit.unit (fun f (_:PUnit)=>(if f.name≠ "_" then (do let v <- part f.type (pre++stP l p).toArray f.offset;Instr.checkKey b 9999 f.type v;pure (ForInStep.yield PUnit.unit)) else pure (ForInStep.yield PUnit.unit):Sem (ForInStep PUnit)))).run P w=.ok PUnit.unit w
 | [],i,l,p,pre,h,hp=>by simp[go_sem]
 | f::fs,i,l,p,pre,h,hp=>by
   unfold stKs at h;split at h
   case h_2=>cases h
   rename_i k l' h1 h2 h3 h4;cases h;have hoff:=Nat.eq_of_beq_eq_true h1;have hname:f.name≠ "_":=by simpa using h2
   have hag:=run_isAggB (show isAggB P f.type=some false by simp[isAggB,h3]) w;have hpart:(part f.type (pre++stP (k::l') p).toArray f.offset).run P w=.ok (.int k p.1) w:=run_part_cell (by simp[isAggB,h3]) (by simp[stP,hoff,<- hp]) w;have hck:(Instr.checkKey b 9999 f.type (.int k p.1)).run P w=.ok () w:=by
    rw[show(9999:Nat)=9998+1 from rfl,Instr.checkKey];simp[Sem.run_bind,run_underlying h3,go_sem]
   have ih:=run_checkSt b w fs (i+1) l' p.2 (pre++[.int k p.1]) h4 (by simp[hp]);simp only[List.append_assoc,List.singleton_append] at ih;simp only[List.forIn_cons,Sem.run_bind,hname,ne_eq,not_false_eq_true,if_true,hpart,hck,Result.andThen_ok,Sem.run_pure];exact ih
theorem run_eqSt (w:World):∀(fs:List Field) (i:Nat) (l:List IntKind) (p q:KyS l) (pre pre':List Value),stKs P i fs=some l->pre.length=i->pre'.length=i ->
 (Op.eqFields 9999 (pre++stP l p).toArray (pre'++stP l q).toArray fs).run P w=.ok (@decide (q=p) (KyS.dec l q p)) w
 | [],i,l,p,q,pre,pre',h,hp,hq=>by
   simp only[stKs,Option.some.injEq] at h;subst h;simp only[Op.eqFields,Sem.run_pure];rw[@decide_eq_true _ (KyS.dec [] q p) rfl]
 | f::fs,i,l,p,q,pre,pre',h,hp,hq=>by
   unfold stKs at h;split at h
   case h_2=>cases h
   rename_i k l' h1 h2 h3 h4;cases h;have hoff:=Nat.eq_of_beq_eq_true h1;have hname:f.name≠ "_":=by simpa using h2
   have p1:(part f.type (pre++stP (k::l') p).toArray f.offset).run P w=.ok (.int k p.1) w:=run_part_cell (by simp[isAggB,h3]) (by simp[stP,hoff,<- hp]) w;have p2:(part f.type (pre'++stP (k::l') q).toArray f.offset).run P w=.ok (.int k q.1) w:=run_part_cell (by simp[isAggB,h3]) (by simp[stP,hoff,<- hq]) w;have p3:(Op.equalIn 9999 f.type (.int k p.1) (.int k q.1)).run P w=.ok (p.1 == q.1) w:=run_equalIn_int w 9998 f.type _ _ _ _ h3;have ih:=run_eqSt w fs (i+1) l' p.2 q.2 (pre++[.int k p.1]) (pre'++[.int k q.1]) h4 (by simp[hp]) (by simp[hq]);simp only[List.append_assoc,List.singleton_append] at ih;simp only[Op.eqFields,hname,ne_eq,not_false_eq_true,if_true,Sem.run_bind,p1,p2,p3,Result.andThen_ok];obtain⟨a,p⟩:=p;obtain⟨c,q⟩:=q;by_cases e:a=c
   . subst e;simp only[beq_self_eq_true,Bool.not_true,Bool.false_eq_true,if_false];refine ih.trans ?_;congr 1;rw[Bool.eq_iff_iff];simp only[decide_eq_true_eq];exact⟨fun h=>by rw[h],fun h=>(Prod.mk.inj h).2⟩
   . have e1:(a == c)=false:=by simpa using e
     simp only[e1,Bool.not_false,if_true,Sem.run_pure];congr 1;symm;exact @decide_eq_false _ (KyS.dec (k::l') (c,q) (a,p)) (fun h=>e (Prod.mk.inj h).1.symm)
theorem run_checkPair (hk:KeyTy P ik kt e) (b:Bool) (p:KyT ik) (w:World):(Instr.checkKey b 10000 kt (keyP ik p)).run P w=.ok () w:=by
 cases ik with
 | pair k =>
   obtain⟨hk,he,hs⟩:=hk;have h1:∀(v:Int),(Instr.checkKey b 9999 e (.int k v)).run P w=.ok () w:=by
    intro v;rw[show(9999:Nat)=9998+1 from rfl,Instr.checkKey];simp[Sem.run_bind,run_underlying he,go_sem]
   have hag:=run_isAgg2 he w;rw[Instr.checkKey];simp only[keyP,Sem.run_bind,run_underlying hk,Result.andThen_ok];simp[Sem.run_bind,run_szOf hs,hag,h1,show List.range' 0 2=[0,1] from rfl,List.forIn_cons,List.forIn_nil,go_sem]
 | one k =>
   have hk:P.underlying kt=some (.int k):=hk;rw[Instr.checkKey];simp[keyP,Sem.run_bind,run_underlying hk,go_sem]
 | str =>
   have hk:P.underlying kt=some .string:=hk;rw[Instr.checkKey];simp[keyP,Sem.run_bind,run_underlying hk,go_sem]
 | st l =>
   obtain⟨hk,hs,hl⟩:=hk;rw[Instr.checkKey];simp only[keyP,Sem.run_bind,run_underlying hk,Result.andThen_ok];rw[<- Array.forIn_toList];have:=run_checkSt (P:=P) b w _ 0 l p [] hl rfl;simp only[List.nil_append] at this;rw[this];rfl
theorem run_eqPair (hk:KeyTy P ik kt e) (p q:KyT ik) (w:World):(Op.equal kt (keyP ik p) (keyP ik q)).run P w=.ok (decide (q=p)) w:=by
 cases ik with
 | pair k =>
   obtain⟨hk,he,hs⟩:=hk;have h1:∀(a b:Int),(Op.equalIn 9999 e (.int k a) (.int k b)).run P w=.ok (a == b) w:=by
    intro a b;rw[show(9999:Nat)=9998+1 from rfl,Op.equalIn];simp[Sem.run_bind,run_underlying he,go_sem]
   have hag:=run_isAgg2 he w;unfold Op.equal Op.maxDepth;rw[Op.equalIn];simp only[keyP,Sem.run_bind,run_underlying hk,Result.andThen_ok];obtain⟨p1,p2⟩:=p;obtain⟨q1,q2⟩:=q;simp only;have hd:decide ((q1,q2)=(p1,p2))=((p1 == q1)&&(p2 == q2)):=by
    rw[Bool.eq_iff_iff];simp only[decide_eq_true_eq,Prod.mk.injEq,Bool.and_eq_true,beq_iff_eq];constructor<;>rintro⟨a,b⟩<;>exact⟨a.symm,b.symm⟩
   have hd':@decide (((q1,q2):KyT (.pair k))=(p1,p2)) (instDecidableEqKyT (.pair k) (q1,q2) (p1,p2))=((p1 == q1)&&(p2 == q2)):=hd;rw[hd'];by_cases e1:p1=q1
   . by_cases e2:p2=q2
     . simp[Sem.run_bind,run_szOf hs,hag,h1,show List.range' 0 2=[0,1] from rfl,List.forIn_cons,List.forIn_nil,go_sem,e1,e2]
     . simp[Sem.run_bind,run_szOf hs,hag,h1,show List.range' 0 2=[0,1] from rfl,List.forIn_cons,List.forIn_nil,go_sem,e1,e2]
   . simp[Sem.run_bind,run_szOf hs,hag,h1,show List.range' 0 2=[0,1] from rfl,List.forIn_cons,List.forIn_nil,go_sem,e1]
 | one k =>
   have hk:P.underlying kt=some (.int k):=hk;unfold Op.equal Op.maxDepth;rw[Op.equalIn];have hd:@decide (q=p) (instDecidableEqKyT (.one k) q p)=((p:Int) == q):=by
    rw[Bool.eq_iff_iff];simp only[decide_eq_true_eq,beq_iff_eq];exact⟨Eq.symm,Eq.symm⟩
   rw[hd];simp[keyP,Sem.run_bind,run_underlying hk,go_sem]
 | str =>
   have hk:P.underlying kt=some .string:=hk;unfold Op.equal Op.maxDepth;rw[Op.equalIn];have hd:∀(p q:ByteArray),@decide (q=p) (instDecidableEqKyT .str q p)=(p == q):=by
    intro p q;rw[Bool.eq_iff_iff,decide_eq_true_eq,bytes_beq];exact⟨Eq.symm,Eq.symm⟩
   rw[hd];simp[keyP,Sem.run_bind,run_underlying hk,go_sem]
 | st l =>
   obtain⟨hk,hs,hl⟩:=hk;unfold Op.equal Op.maxDepth;rw[keyP,keyP,run_equalIn_struct w 9999 kt _ _ hk hs];exact run_eqSt w _ 0 l p q [] [] hl rfl rfl
theorem ERel.get {M:Nat->Prop} {w:World}:∀{l:List MapEntry} {es:List (KyT ik×V)} {i:Nat},ERel M w ik l es i->∀(j:Nat) (x:MapEntry),l[j]?=some x->∃p,es[j]?=some p/\x.key=keyP ik p.1/\x.born=i+j/\Den M w Sg.none p.2 x.val
 | [],[],_,_,j,x,hx=>by simp at hx
 | y::r,p::q,i,h,j,x,hx=>by
   cases j with
   | zero=>simp at hx;subst hx;exact⟨p,rfl,h.1.1,h.1.2.1,h.1.2.2⟩
   | succ j =>
     obtain⟨p',a,b,c,d⟩:=h.2.get j x (by simpa using hx);exact⟨p',by simpa using a,b,by omega,d⟩
 | [],_::_,_,h,_,_,_=>h.elim
 | _::_,[],_,h,_,_,_=>h.elim
theorem ERel.length {M:Nat->Prop} {w:World}:∀{l:List MapEntry} {es:List (KyT ik×V)} {i:Nat},ERel M w ik l es i->l.length=es.length
 | [],[],_,_=>rfl
 | _::_,_::_,_,h=>by simp[h.2.length]
 | [],_::_,_,h=>h.elim
 | _::_,[],_,h=>h.elim
theorem find_pair (hk:KeyTy P ik kt e) {M:Nat->Prop} {w:World} (p:KyT ik):∀(l:List MapEntry) (es:List (KyT ik×V)) (i:Nat),ERel M w ik l es i->∀j,
 (∃n x v,(Instr.findAsking kt (keyP ik p) l j).run P w=.ok (some (j+n,x.val)) w/\l[n]?=some x/\x.key=keyP ik p/\mfind es p=some v/\Den M w Sg.none v x.val /\
     ∀y,(∀u':Value,Den M w Sg.none y u'->ERel M w ik (l.modify n fun z=>{ z with key:=keyP ik p,val:=u' }) (mput es p y) i)) \/
 ((Instr.findAsking kt (keyP ik p) l j).run P w=.ok none w/\mfind es p=none/\∀y,∀u':Value,Den M w Sg.none y u'->ERel M w ik (l++[{ key:=keyP ik p,val:=u',born:=i+l.length }]) (mput es p y) i)
 | [],[],i,_,j=>.inr ⟨rfl,rfl,fun y u' hu=>⟨⟨rfl,rfl,hu⟩,True.intro⟩⟩
 | x::r,(q,v)::es,i,h,j=>by
   have hx:=h.1.1;have hrun:=run_eqPair hk p q w;by_cases hqp:q=p
   . subst hqp;refine .inl ⟨0,x,v,?_,rfl,hx,by simp[mfind],h.1.2.2,fun y u' hu=>?_⟩
     . simp only[Instr.findAsking,hx,Sem.run_bind,hrun,Result.andThen_ok,decide_true,if_true];rfl
     . simp only[mput,if_true];exact⟨⟨rfl,h.1.2.1,hu⟩,h.2⟩
   . have hstep:(Instr.findAsking kt (keyP ik p) (x::r) j).run P w=(Instr.findAsking kt (keyP ik p) r (j+1)).run P w:=by
      simp only[Instr.findAsking,hx,Sem.run_bind,hrun,Result.andThen_ok,decide_eq_false hqp,Bool.false_eq_true,if_false]
     rcases find_pair hk p r es (i+1) h.2 (j+1) with ⟨n,x',v',a1,a2,a3,a4,a5,a6⟩ | ⟨a1,a2,a3⟩
     . refine .inl ⟨n+1,x',v',by rw[hstep,a1,show j+1+n=j+(n+1) by omega],by simpa using a2,a3,by simp[mfind,hqp,a4],a5,fun y u' hu=>?_⟩;simp only[mput,if_neg hqp];exact⟨h.1,a6 y u' hu⟩
     . refine .inr ⟨by rw[hstep,a1],by simp[mfind,hqp,a2],fun y u' hu=>?_⟩;simp only[mput,if_neg hqp];have:=a3 y u' hu;rw[show i+1+r.length=i+(x::r).length by simp;omega] at this;exact⟨h.1,this⟩
 | [],_::_,_,h,_=>h.elim
 | _::_,[],_,h,_=>h.elim
theorem findKey_pair (hk:KeyTy P ik kt e) (p:KyT ik) (l:List MapEntry) (w:World):(Instr.findKey kt (keyP ik p) l).run P w=(Instr.findAsking kt (keyP ik p) l).run P w:=by
 have key:∀d,P.underlying kt=some d->(∀x:Value,∀b,Instr.sameNow d (keyP ik p) x=some b->∃q:KyT ik,x=keyP ik q/\b=decide (q=p)) ->
  ∀(l:List MapEntry) (j:Nat) (r:Option (Nat×Value)),Instr.findNow d (keyP ik p) l j=some r->(Instr.findAsking kt (keyP ik p) l j).run P w=.ok r w:=by
  intro d hd hs l
  induction l with
  | nil=>intro j r h;simp only[Instr.findNow,Option.some.injEq] at h;subst h;rfl
  | cons x l ih =>
    intro j r h;simp only[Instr.findNow] at h;cases hx:Instr.sameNow d (keyP ik p) x.key with
    | none=>rw[hx] at h;cases h
    | some b =>
      obtain⟨q,e1,e2⟩:=hs x.key b hx;have hrun:=run_eqPair hk p q w;rw[<- e2] at hrun;rw[hx] at h;cases b with
      | true =>
        simp only[Option.some.injEq] at h;subst h;simp only[Instr.findAsking,e1,Sem.run_bind,hrun,Result.andThen_ok,if_true];rfl
      | false =>
        simp only at h;simp only[Instr.findAsking,e1,Sem.run_bind,hrun,Result.andThen_ok,Bool.false_eq_true,if_false];exact ih (j+1) r h
 unfold Instr.findKey;have fin:∀d,P.underlying kt=some d->(∀x:Value,∀b,Instr.sameNow d (keyP ik p) x=some b->∃q:KyT ik,x=keyP ik q/\b=decide (q=p))->
  ((do match Instr.findNow (<- underlying kt) (keyP ik p) l 0 with
    | some r=>pure r
    | none=>Instr.findAsking kt (keyP ik p) l:Sem (Option (Nat×Value)))).run P w=(Instr.findAsking kt (keyP ik p) l).run P w:=by
  intro d hd hs;simp only[Sem.run_bind,run_underlying hd,Result.andThen_ok];cases hf:Instr.findNow d (keyP ik p) l 0 with
  | none=>rfl
  | some r=>rw[key d hd hs l 0 r hf];rfl
 cases ik with
 | st l=>exact fin _ hk.1 (fun x b h=>by cases x<;>simp[Instr.sameNow] at h)
 | pair k=>exact fin _ hk.1 (fun x b h=>by cases x<;>simp[Instr.sameNow] at h)
 | one k=>exact fin _ hk (fun x b h=>by
    cases x<;>simp[keyP,Instr.sameNow] at h;obtain⟨rfl,rfl⟩:=h;refine⟨_,rfl,?_⟩;rw[Bool.eq_iff_iff,decide_eq_true_eq,beq_iff_eq];exact⟨Eq.symm,Eq.symm⟩)
 | str=>exact fin _ hk (fun x b h=>by
    cases x<;>simp[keyP,Instr.sameNow] at h;subst h;refine⟨_,rfl,?_⟩;rw[Bool.eq_iff_iff,decide_eq_true_eq,bytes_beq];exact⟨Eq.symm,Eq.symm⟩)
end
end Go.Eng
namespace Go.Eng
inductive SOp where
 | p (o:POp)
 | build (zs:List V) (parts:List (Nat×Nat×X))
 | load (sz:Option Nat) (x:X)
 | alloc (zs:List V)
 | box (x:X)
 | bslice (s n:Nat) (xs:List X)
 | asg (x:X)
 | store (sz:Nat) (a x:X)
 | app (s bytes:Nat) (x y:X)
 | clr (s:Nat) (zs:List V) (x:X)
 | call (f:FuncId) (args:List X)
 | callv (x:X) (args:List X)
 | alloca (n:Nat) (z:V)
 | xt (o:XOp)
def SOp.xs:SOp->List X
 | .p o=>o.xs
 | .build _ ps=>ps.map (·.2.2)
 | .load _ x | .box x | .asg x | .clr _ _ x=>[x]
 | .alloc _=>[]
 | .bslice _ _ xs=>xs
 | .store _ a x | .app _ _ a x=>[a,x]
 | .call _ xs=>xs
 | .callv x xs=>x::xs
 | .alloca _ _=>[]
 | .xt o=>o.xs
structure SI where
 dst:Option Nat
 op:SOp
 guard:Option (Nat×Bool)
structure CallF (P:Program) (f:FuncId) (args:List V) (own:Own) (ks:List Nat) (K:V->Own->List Nat->Prop):Prop where
 out:∀(M:Nat->Prop) (w:World) (σ:Sg) (us:List Value),args.length=us.length ->
  (∀(i:Nat) (v:V) (u:Value),args[i]?=some v->us[i]?=some u->Den M w σ v u)->HSim M w σ own ks ->
  Calls P f us.toArray w fun e w'=>∃M' σ' v own' ks' u,e=.returned u/\Den M' w' σ' v u/\HSim M' w' σ' own' ks'/\Tr M w σ own M' w' σ' own'/\Kd σ own ks σ' own' ks'/\K v own' ks'
theorem CallF.mono {P:Program} {f:FuncId} {args:List V} {own:Own} {ks:List Nat} {K K':V->Own->List Nat->Prop} (h:CallF P f args own ks K) (hK:∀v o k,K v o k->K' v o k) :
 CallF P f args own ks K' :=
 ⟨fun M w σ us h1 h2 h3=>(h.out M w σ us h1 h2 h3).mono fun _ _ ⟨M',σ',v,o,k,u,a,b,c,d,d',e⟩=>⟨M',σ',v,o,k,u,a,b,c,d,d',hK _ _ _ e⟩⟩
structure YieldF (P:Program) (k:Nat) (args:List V) (own:Own) (ks:List Nat) (K:V->Own->List Nat->Prop):Prop where
 out:∀(M:Nat->Prop) (w:World) (σ:Sg) (us:List Value) (l base κ:Nat),args.length=us.length ->
  (∀(i:Nat) (v:V) (u:Value),args[i]?=some v->us[i]?=some u->Den M w σ v u)->HSim M w σ own ks->σ k=some (some l,base,κ) ->
  ∃fn tmps assign body,(Instr.yield l us.toArray).run P w=.ok (.round l fn tmps assign body) w /\
   RoundIn Fence.wide 0 P l fn tmps assign body w fun e w'=>∃M' σ' v own' ks' u,e=.returned u/\Den M' w' σ' v u/\HSim M' w' σ' own' ks'/\Tr M w σ own M' w' σ' own'/\Kd σ own ks σ' own' ks'/\K v own' ks'
def litL:List V->(List V->Prop)->Prop
 | [],K=>K []
 | v::r,K=>litK v fun v=>litL r fun r=>K (v::r)
def litR (v:V) (K:V->Prop):Prop :=
 match v with
 | .tup vs=>litL vs fun vs=>K (.tup vs)
 | v=>litK v K
theorem litL_sound:∀{l:List V} {K:List V->Prop},litL l K->K l
 | [],_,h=>h
 | v::_,K,h=>litL_sound (K:=fun r=>K (v::r)) (litK_sound h).1
theorem litR_sound {v:V} {K:V->Prop} (h:litR v K):K v:=by
 unfold litR at h;split at h
 . exact litL_sound h
 . exact(litK_sound h).1
def vclr (own:Own) (s:Nat) (zs:List V) (v:V) (K:Own->Prop):Prop :=
 match v with
 | .nilslice=>K own
 | .vec k s' lo len=>match look own k with
   | some (.vec n s'' f)=>match Nat.beq s s',Nat.beq s s'' with
     | true,true=>Len (lo+len) n (updK k (.vec n s (fput f lo len fun _ j=>zs.getD j default)) own K)
     | _,_=>False
   | _=>False
 | _=>False
def callable (P:Program) (f:FuncId):Bool:=match P.funcs[f]? with
 | some fn=>match fn.body with
   | some _=>match fn.name == "runtime.NumGoroutine" with|true=>false|false=>true
   | none=>false
 | none=>false
def vcall (P:Program) (vs:List V) (own:Own) (ks:List Nat) (K:V->Own->List Nat->Prop) (fv:V):Prop :=
 match fv with
 | .fn (.func g) b cap=>Chk (callable P g) (CallF P g (match b with|true=>cap++vs|false=>vs++cap) own ks K)
 | .yld k=>YieldF P k vs own ks K
 | _=>False
def vop (P:Program) (op:SOp) (env:Env) (own:Own) (ks:List Nat) (K:V->Own->List Nat->Prop):Prop :=
 match op with
 | .p o=>vpure o env fun v=>K v own ks
 | .build zs ps=>fillK env ps zs fun cs=>K (.agg cs) own ks
 | .load sz x=>x.get env fun p=>vload own sz p fun v=>K v own ks
 | .alloc zs=>fresh ks fun k ks=>K (.loc k 0) ((k,.cells zs)::own) ks
 | .box x=>x.get env fun v=>v.cellsK fun cs=>fresh ks fun k ks=>K (.loc k 0) ((k,.cells cs)::own) ks
 | .bslice s n xs=>X.gets env xs fun vs=>match allB V.kf2 vs with
   | true=>rowsK s vs fun rs=>fresh ks fun k ks=>K (.vec k s 0 n) ((k,.vec n s (tab rs))::own) ks
   | false=>flatK s vs fun cs=>fresh ks fun k ks=>K (.vec k s 0 n) ((k,.cells cs)::own) ks
 | .alloca n z=>fresh ks fun k ks=>K (.oel k 1 0 0) ((k,.vec n 1 (fun _ _=>z))::own) ks
 | .xt o=>vxop o env own ks K
 | .asg x=>x.get env fun v=>K v own ks
 | .store sz a x=>a.get env fun p=>x.get env fun v=>vstoreF own sz p v fun own=>K (.raw (.tuple #[])) own ks
 | .app s bytes x y=>x.get env fun a=>y.get env fun b=>vappF own ks s bytes a b K
 | .clr s zs x=>x.get env fun v=>vclr own s zs v fun own=>K (.raw (.tuple #[])) own ks
 | .call f args=>X.gets env args fun vs=>CallF P f vs own ks fun v own ks=>litR v fun v=>K v own ks
 | .callv x args=>x.get env fun fv=>X.gets env args fun vs=>vcall P vs own ks (fun v own ks=>litR v fun v=>K v own ks) fv
def placesOf (P:Program) (t:TypeId):Option (Nat->Option (Nat×Nat)) :=
 match P.underlying t with
 | some (.struct fs)=>match fs.toList.mapM (fun f=>(P.info? f.type).map fun i=>(f.offset,i.size)) with
   | some places=>some (fun i=>places.toArray[i]?)
   | none=>none
 | some (.array _ e)=>match P.info? e with
   | some ie=>some (fun i=>some (i*ie.size,ie.size))
   | none=>none
 | _=>none
theorem built_of {P:Program} {t:TypeId} {place:Nat->Option (Nat×Nat)} {i:TypeInfo} {z:Value} (hp:placesOf P t=some place) (hi:P.info? t=some i) (hz:i.zero=some z) (parts:List (Nat×Value)) :
 P.built t parts=Instr.fill place z.cells parts:=by
 unfold placesOf at hp;unfold Program.built;split at hp
 . rename_i fs hu;split at hp
   . rename_i places hm;cases hp;simp only[hi,hu,hz,hm]
   . cases hp
 . rename_i n e hu;split at hp
   . rename_i ie he;cases hp;simp only[hi,hu,hz,he]
   . cases hp
 . cases hp
def cAsg (x:Operand):Option SOp:=(cX x).map .asg
def cBuild (P:Program) (t:TypeId) (parts:Array (Nat×Operand)):Option SOp :=
 match placesOf P t,zeroOf P t with
 | some place,some zs=>(cParts place parts.toList).map (.build zs)
 | _,_=>none
def cLoad (P:Program) (t:TypeId) (x:Operand):Option SOp :=
 match szAgg P t,cX x with
 | some z,some x=>some (.load z x)
 | _,_=>none
def allFalse:List V->Bool
 | []=>true
 | .bool false::r=>allFalse r
 | _=>false
def allZero (k:IntKind):List V->Bool
 | []=>true
 | .int k' n::r=>match decide (k'=k),decide (n=0) with|true,true=>allZero k r|_,_=>false
 | _=>false
def sameZ (zs:List V):Option V:=match zs with
 | .bool _::_=>match allFalse zs with|true=>some (.bool false)|false=>none
 | .int k _::_=>match allZero k zs with|true=>some (.int k 0)|false=>none
 | _=>none
theorem allFalse_mem:∀{zs:List V},allFalse zs=true->∀v∈zs,v=.bool false
 | [],_,v,h=>by simp at h
 | .bool false::r,h,v,hv=>by
   rcases List.mem_cons.1 hv with e|e
   . exact e
   . exact allFalse_mem (by simpa[allFalse] using h) v e
theorem allZero_mem {k:IntKind}:∀{zs:List V},allZero k zs=true->∀v∈zs,v=.int k 0
 | [],_,v,h=>by simp at h
 | .int k' n::r,h,v,hv=>by
   unfold allZero at h;split at h
   . rename_i e1 e2;have e1:=of_decide_eq_true e1;have e2:=of_decide_eq_true e2;subst e1 e2;rcases List.mem_cons.1 hv with e|e
     . exact e
     . exact allZero_mem h v e
   . cases h
theorem sameZ_spec {zs:List V} {z:V} (h:sameZ zs=some z):(∀v∈zs,v=z)/\z.kf1=true/\z.cellB=true:=by
 unfold sameZ at h;split at h
 . split at h
   . rename_i h1;cases h;exact⟨allFalse_mem h1,rfl,rfl⟩
   . cases h
 . split at h
   . rename_i h1;cases h;exact⟨allZero_mem h1,rfl,rfl⟩
   . cases h
 . cases h
def bigArr (P:Program) (t:TypeId):Option (Nat×V) :=
 match P.underlying t,zeroOf P t with
 | some (.array n _),some zs=>match Nat.ble 8 n,Nat.beq zs.length n,sameZ zs with
   | true,true,some z=>some (n,z)
   | _,_,_=>none
 | _,_=>none
def cAlloc (P:Program) (t:TypeId):Option SOp:=match bigArr P t with
 | some (n,z)=>some (.alloca n z)
 | none=>(zeroOf P t).map .alloc
def cBox (x:Operand):Option SOp:=(cX x).map .box
def cBSlice (P:Program) (t:TypeId) (len:Nat) (parts:Array (Nat×Operand)):Option SOp :=
 match P.underlying t with
 | some (.slice e)=>match szOf P e,zeroOf P e,cXs (parts.toList.map (·.2)),idxs 0 parts.toList,Nat.beq parts.toList.length len,Nat.ble (len*(szOf P e).getD 0) 16777216 with
   | some s,some _,some xs,true,true,true=>some (.bslice s len xs)
   | _,_,_,_,_,_=>none
 | _=>none
def cStore (P:Program) (t:TypeId) (a x:Operand):Option SOp :=
 match szOf P t,cX a,cX x with
 | some (n+1),some a,some x=>some (.store (n+1) a x)
 | _,_,_=>none
def cCallF (P:Program) (f:FuncId) (args:Array Operand):Option SOp :=
 match callable P f with
 | true=>(cXs args.toList).map (.call f)
 | false=>none
def cApp (P:Program) (args:Array Operand) (argTypes:Array TypeId):Option SOp :=
 match args.toList,argTypes.toList with
 | [x,y],[t,t2]=>match P.underlying t,P.underlying t2 with
   | some (.slice e),some (.slice _)=>match szOf P e,(P.info? e).map (·.bytes),zeroOf P e,cX x,cX y with
     | some s,some b,some zs,some x,some y=>match Nat.beq zs.length s with
       | true=>some (.app s b x y)
       | false=>none
     | _,_,_,_,_=>none
   | _,_=>none
 | _,_=>none
def cClr (P:Program) (args:Array Operand) (argTypes:Array TypeId):Option SOp :=
 match args.toList,argTypes.toList with
 | [x],[t]=>match P.underlying t with
   | some (.slice e)=>match szOf P e,zeroOf P e,cX x with
     | some s,some zs,some x=>match Nat.beq zs.length s with
       | true=>some (.clr s zs x)
       | false=>none
     | _,_,_=>none
   | _=>none
 | _,_=>none
def cP (P:Program) (op:Op):Option SOp:=(cPure P op).map .p
def cCall (P:Program) (c:Call):Option SOp :=
 match c.callee with
 | .value (.func f)=>cCallF P f c.args
 | .value (.tmp t)=>(cXs c.args.toList).map (.callv (.t t))
 | .builtin .append=>cApp P c.args c.argTypes
 | .builtin .clear=>cClr P c.args c.argTypes
 | .builtin .copy=>(cXop P (.call c)).map .xt
 | .builtin .len=>match cXop P (.call c) with|some o=>some (.xt o)|none=>cP P (.call c)
 | _=>cP P (.call c)
def cOp (P:Program) (op:Op):Option SOp :=
 match op with
 | .assign x=>cAsg x
 | .build t parts=>cBuild P t parts
 | .load t x=>cLoad P t x
 | .alloc t=>cAlloc P t
 | .box _ x=>cBox x
 | .buildSlice t len parts=>cBSlice P t len parts
 | .store t a x=>cStore P t a x
 | .call c=>cCall P c
 | op=>match cXop P op with|some o=>some (.xt o)|none=>cP P op
inductive Was (P:Program):Op->SOp->Prop
 | asg (x0:Operand) (x:X) (h:cX x0=some x):Was P (.assign x0) (.asg x)
 | build (t:TypeId) (parts:Array (Nat×Operand)) (place:Nat->Option (Nat×Nat)) (zs:List V) (ps:List (Nat×Nat×X)) (h1:placesOf P t=some place) (h2:zeroOf P t=some zs) (h3:cParts place parts.toList=some ps) :
    Was P (.build t parts) (.build zs ps)
 | load (t:TypeId) (x0:Operand) (z:Option Nat) (x:X) (h1:szAgg P t=some z) (h2:cX x0=some x):Was P (.load t x0) (.load z x)
 | alloc (t:TypeId) (zs:List V) (h:zeroOf P t=some zs):Was P (.alloc t) (.alloc zs)
 | box (t:TypeId) (x0:Operand) (x:X) (h:cX x0=some x):Was P (.box t x0) (.box x)
 | bslice (t:TypeId) (len:Nat) (parts:Array (Nat×Operand)) (e:TypeId) (s:Nat) (zs:List V) (xs:List X) (h1:P.underlying t=some (.slice e)) (h2:szOf P e=some s) (h3:zeroOf P e=some zs)
    (h4:cXs (parts.toList.map (·.2))=some xs) (h5:idxs 0 parts.toList=true) (h6:parts.toList.length=len) (h7:len*s<=16777216):Was P (.buildSlice t len parts) (.bslice s len xs)
 | store (t:TypeId) (a0 x0:Operand) (n:Nat) (a x:X) (h1:szOf P t=some n) (h2:0<n) (h3:cX a0=some a) (h4:cX x0=some x):Was P (.store t a0 x0) (.store n a x)
 | call (f:FuncId) (args:Array Operand) (ats:Array TypeId) (xs:List X) (h1:callable P f=true) (h2:cXs args.toList=some xs):Was P (.call ⟨.value (.func f),args,ats⟩) (.call f xs)
 | callv (t:Nat) (args:Array Operand) (ats:Array TypeId) (xs:List X) (h2:cXs args.toList=some xs):Was P (.call ⟨.value (.tmp t),args,ats⟩) (.callv (.t t) xs)
 | app (args:Array Operand) (ats:Array TypeId) (t t2 e e2:TypeId) (s b:Nat) (zs:List V) (x0 y0:Operand) (x y:X) (h1:args.toList=[x0,y0]) (h2:ats.toList=[t,t2]) (h3:P.underlying t=some (.slice e))
    (h4:P.underlying t2=some (.slice e2)) (h5:szOf P e=some s) (h6:(P.info? e).map (·.bytes)=some b) (h7:zeroOf P e=some zs) (h8:cX x0=some x) (h9:cX y0=some y) (h10:zs.length=s) :
    Was P (.call ⟨.builtin .append,args,ats⟩) (.app s b x y)
 | clr (args:Array Operand) (ats:Array TypeId) (t e:TypeId) (s:Nat) (zs:List V) (x0:Operand) (x:X) (h1:args.toList=[x0]) (h2:ats.toList=[t]) (h3:P.underlying t=some (.slice e))
    (h4:szOf P e=some s) (h5:zeroOf P e=some zs) (h6:cX x0=some x) (h7:zs.length=s):Was P (.call ⟨.builtin .clear,args,ats⟩) (.clr s zs x)
 | p (op:Op) (o:POp) (h:cPure P op=some o):Was P op (.p o)
 | alloca (t:TypeId) (n:Nat) (z:V) (h:bigArr P t=some (n,z)):Was P (.alloc t) (.alloca n z)
 | xt (op:Op) (o:XOp) (h:cXop P op=some o):Was P op (.xt o)
theorem cP_was {P:Program} {op:Op} {so:SOp} (h:cP P op=some so):Was P op so:=by
 simp only[cP,Option.map_eq_some_iff] at h;obtain⟨o,h1,rfl⟩:=h;exact .p _ _ h1
theorem cApp_was {P:Program} {args:Array Operand} {ats:Array TypeId} {so:SOp} (h:cApp P args ats=some so):Was P (.call ⟨.builtin .append,args,ats⟩) so:=by
 unfold cApp at h;split at h
 . rename_i x0 y0 t t2 h1 h2;split at h
   . rename_i e e2 h3 h4;split at h
     . rename_i s b zs x y h5 h6 h7 h8 h9;split at h
       . rename_i h10;cases h;exact .app args ats t t2 e e2 s b zs x0 y0 x y h1 h2 h3 h4 h5 h6 h7 h8 h9 (Nat.eq_of_beq_eq_true h10)
       . cases h
     . cases h
   . cases h
 . cases h
theorem cClr_was {P:Program} {args:Array Operand} {ats:Array TypeId} {so:SOp} (h:cClr P args ats=some so):Was P (.call ⟨.builtin .clear,args,ats⟩) so:=by
 unfold cClr at h;split at h
 . rename_i x0 t h1 h2;split at h
   . rename_i e h3;split at h
     . rename_i s zs x h4 h5 h6;split at h
       . rename_i h7;cases h;exact .clr args ats t e s zs x0 x h1 h2 h3 h4 h5 h6 (Nat.eq_of_beq_eq_true h7)
       . cases h
     . cases h
   . cases h
 . cases h
theorem cCall_was {P:Program} {c:Call} {so:SOp} (h:cCall P c=some so):Was P (.call c) so:=by
 obtain⟨callee,args,ats⟩:=c;unfold cCall at h;split at h
 . rename_i f hf;simp only at hf;subst hf;unfold cCallF at h;split at h
   . rename_i hcal;simp only[Option.map_eq_some_iff] at h;obtain⟨xs,h1,rfl⟩:=h;exact .call f args ats xs hcal h1
   . cases h
 . rename_i t hf;simp only at hf;subst hf;simp only[Option.map_eq_some_iff] at h;obtain⟨xs,h1,rfl⟩:=h;exact .callv t args ats xs h1
 . rename_i hf;simp only at hf;subst hf;exact cApp_was h
 . rename_i hf;simp only at hf;subst hf;exact cClr_was h
 . rename_i hf;simp only at hf;subst hf;simp only[Option.map_eq_some_iff] at h;obtain⟨o,h1,rfl⟩:=h;exact .xt _ o h1
 . rename_i hf;simp only at hf;subst hf;split at h
   . rename_i o h1;cases h;exact .xt _ o h1
   . exact cP_was h
 . exact cP_was h
theorem cOp_was {P:Program} {op:Op} {so:SOp} (h:cOp P op=some so):Was P op so:=by
 unfold cOp at h;split at h
 . simp only[cAsg,Option.map_eq_some_iff] at h;obtain⟨x,h1,rfl⟩:=h;exact .asg _ _ h1
 . unfold cBuild at h;split at h
   . simp only[Option.map_eq_some_iff] at h;obtain⟨ps,h1,rfl⟩:=h;exact .build _ _ _ _ _ ‹_› ‹_› h1
   . cases h
 . unfold cLoad at h;split at h
   . cases h;exact .load _ _ _ _ ‹_› ‹_›
   . cases h
 . unfold cAlloc at h;split at h
   . cases h;exact .alloca _ _ _ ‹_›
   . simp only[Option.map_eq_some_iff] at h;obtain⟨zs,h1,rfl⟩:=h;exact .alloc _ _ h1
 . simp only[cBox,Option.map_eq_some_iff] at h;obtain⟨x,h1,rfl⟩:=h;exact .box _ _ _ h1
 . unfold cBSlice at h;split at h
   . rename_i he;split at h
     . rename_i h1 h2 h3 h4 h5 h6;cases h;have:=Nat.le_of_ble_eq_true h6;rw[h1] at this;exact .bslice _ _ _ _ _ _ _ he h1 h2 h3 h4 (Nat.eq_of_beq_eq_true h5) this
     . cases h
   . cases h
 . unfold cStore at h;split at h
   . cases h;exact .store _ _ _ _ _ _ ‹_› (by omega) ‹_› ‹_›
   . cases h
 . exact cCall_was h
 . split at h
   . cases h;exact .xt _ _ ‹_›
   . exact cP_was h
theorem gets_sound {env:Env}:∀{os:List Operand} {xs:List X} {K:List V->Prop},cXs os=some xs->X.gets env xs K ->
 ∃vs,K vs/\vs.length=os.length/\∀M w σ (a:Act),(∀x,x∈xs->XOk M w σ env a x)->∀(i:Nat) (v:V) (u:Value),vs[i]?=some v->(os.map a.eval)[i]?=some u->Den M w σ v u
 | [],xs,K,hc,h=>by
   simp[cXs] at hc;subst hc;exact⟨[],h,rfl,fun _ _ _ _ _=>by simp⟩
 | o::os,xs,K,hc,h=>by
   unfold cXs at hc;split at hc<;>simp only[Option.some.injEq,reduceCtorEq] at hc;rename_i x xs' h1 h2;subst hc;obtain⟨v,h,hv⟩:=get_sound h1 h;obtain⟨vs,hK,hl,hvs⟩:=gets_sound h2 h;refine⟨_,hK,by simp[hl],?_⟩;intro M w σ a hx i v' u' hv' hu';cases i with
   | zero=>simp at hv' hu';subst hv' hu';exact hv M w σ a (hx x (by simp))
   | succ i=>exact hvs M w σ a (fun y hy=>hx y (by simp[hy])) i v' u' (by simpa using hv') (by simpa using hu')
theorem cXs_length:∀{os:List Operand} {xs:List X},cXs os=some xs->xs.length=os.length
 | [],xs,h=>by simp[cXs] at h;subst h;rfl
 | o::os,xs,h=>by
   unfold cXs at h;split at h<;>simp only[Option.some.injEq,reduceCtorEq] at h;rename_i x xs' h1 h2;subst h;simp[cXs_length h2]
def OP (o:Oper) (a:Act) (M:Nat->Prop) (w:World) (σ:Sg) (own:Own) (ks:List Nat) (K:V->Own->List Nat->Prop):Act->World->Prop:=fun a' w' =>
 ∃u M' σ' v own' ks',a'=a.put o.dst u/\Den M' w' σ' v u/\HSim M' w' σ' own' ks'/\Tr M w σ own M' w' σ' own'/\Kd σ own ks σ' own' ks'/\K v own' ks'
theorem wp_value {P:Program} {o:Oper} {a:Act} {w w':World} {u:Value} {next:Act->World->Prop} {Q:Exit->Act->World->Prop} (h:(execOp a.eval o).run P w=.ok (.value u) w') (hn:next (a.put o.dst u) w'):o.wp P a w next Q:=by
 unfold Oper.wp;rw[h];exact hn
theorem build_sound {P:Program} {o:Oper} {zs:List V} {ps:List (Nat×Nat×X)} (hc:cOp P o.op=some (.build zs ps)) {env:Env} {K:V->Prop}
 (h:fillK env ps zs fun cs=>K (.agg cs)):∃v,K v/\PFact P o (SOp.xs (.build zs ps)) env v:=by
 obtain⟨dst,op,type,pos,after,guard⟩:=o;have hw:=cOp_was hc;simp only at hw;cases hw with
 | build t parts place _ _ h1 h2 hp =>
   obtain⟨r,hK,hl,_,hr⟩:=fillK_sound env _ _ _ _ _ hp h;refine⟨_,hK,fun M w σ a ok=>?_⟩;obtain⟨i,z,hi,hz,hzc⟩:=zeroOf_info h2;obtain⟨l1,l2⟩:=den_ofCells (M:=M) (w:=w) σ hzc;obtain⟨us',f1,f2,f3⟩:=hr M w σ a z.cells.toList ok l1 l2;refine⟨.agg us'.toArray,?_,.agg _ _ _ (by omega) f3⟩;refine run_v (s:=Instr.build t (parts.map fun(i,x)=>(i,a.eval x))) (run_build w t _ _ ?_);rw[built_of h1 hi hz,Array.toList_map];simpa using f1
theorem get_val {x:X} {env:Env} {K:V->Prop} (h:x.get env K):∃v,K v/\x.get env (·=v):=by
 cases x with
 | t n =>
   simp only[X.get] at h ⊢;split at h
   . rename_i v hv;exact⟨v,h,rfl⟩
   . exact h.elim
 | k v=>exact⟨v,h,rfl⟩
theorem load_sound {P:Program} {o:Oper} {sz:Option Nat} {x:X} (hc:cOp P o.op=some (.load sz x)) {env:Env} {own:Own} {ks:List Nat} {K:V->Own->List Nat->Prop}
 (h:vop P (.load sz x) env own ks K):∃t x0 p v,o.op=.load t x0/\szAgg P t=some sz/\K v own ks/\x.get env (·=p)/\(∀M w σ a,XOk M w σ env a x->Den M w σ p (a.eval x0))/\LFact P t p v own/\(∀u,v≠.raw u):=by
 obtain⟨dst,op,type,pos,after,guard⟩:=o;have hw:=cOp_was hc;simp only at hw;cases hw with
 | load t x0 _ _ h1 h2 =>
   obtain⟨p,h,hg⟩:=get_val h;obtain⟨p',rfl,hp⟩:=get_sound h2 hg;obtain⟨v,hK,hf,hnr⟩:=vload_sound h1 h;exact⟨t,x0,p',v,rfl,h1,hK,hg,hp,hf,hnr⟩
theorem ofCells_cellB:∀{us:List Value} {vs:List V},ofCells us=some vs->∀v∈vs,v.cellB=true
 | [],vs,h=>by simp[ofCells] at h;subst h;simp
 | u::r,vs,h=>by
   unfold ofCells at h;split at h<;>simp at h;rename_i x xs h1 h2;subst h;intro v hv;rcases List.mem_cons.1 hv with e|e
   . subst e;unfold ofCell at h1;split at h1<;>simp at h1<;>subst h1<;>rfl
   . exact ofCells_cellB h2 v e
def SOp.isNew:SOp->Bool
 | .alloc _ | .box _ | .bslice _ _ _ | .alloca _ _=>true
 | .xt (.mks _ _ _ _)=>true
 | _=>false
def AFact (P:Program) (o:Oper) (xs:List X) (env:Env) (k:Nat) (b:Blk) (v:V):Prop :=
 ∀M w σ a own ks,(∀x,x∈xs->XOk M w σ env a x)->HSim M w σ own (k::ks) ->
  ∃u w' M' σ',(execOp a.eval o).run P w=.ok (.value u) w'/\HSim M' w' σ' ((k,b)::own) ks/\Tr M w σ own M' w' σ' ((k,b)::own)/\Den M' w' σ' v u/\blkOf σ' k≠none/\Kd σ own (k::ks) σ' ((k,b)::own) ks
theorem blkOf_loc {M:Nat->Prop} {w:World} {σ:Sg} {k off:Nat} {u:Value} (h:Den M w σ (.loc k off) u):blkOf σ k≠none:=by
 cases h with
 | loc _ _ _ b base κ hk=>simp[blkOf,hk]
theorem run_buildSlice_any {P:Program} (w:World) (t e:TypeId) (len:Nat) (parts:Array (Nat×Value)) (cells:Array Value) (s:Nat) (ie:TypeInfo) (z:Value)
 (hu:P.underlying t=some (.slice e)) (hie:P.info? e=some ie) (hz:ie.zero=some z) (hs:ie.size=s) (hsmall:len*s<=16777216)
 (h:Instr.fill (fun i=>some (i*s,s)) ((Array.range (len*s)).map (fun j=>(if len*s=0 then #[] else z.cells)[j % (if len*s=0 then #[] else z.cells).size]!)) parts.toList=some cells) :
 (Instr.buildSlice t len parts).run P w=.ok (.slice (some ⟨w.heap.size,0,none⟩) len len) (w.alloc (.cells cells e)):=by
 subst hs;have hb:¬ (len*ie.size > 2 ^ 24):=Nat.not_lt.2 hsmall;by_cases h0:len*ie.size=0
 . simp only[h0,if_true] at h;simp[Instr.buildSlice,run_underlying hu,sizeOf,typeInfo,zeroValue,hie,hz,h0,newRow] ;have h':Instr.fill (fun i=>some (i*ie.size,ie.size)) #[] parts.toList=some cells:=by
    rw[show Array.range 0=#[] from by simp[Array.range]] at h;simpa using h
   simp[show Array.range 0=#[] from by simp[Array.range],h']
 . simp only[h0,if_false] at h;simp[Instr.buildSlice,run_underlying hu,sizeOf,typeInfo,zeroValue,hie,hz,hb,h0,h,newRow]
theorem mks_new {P:Program} {o:Oper} {s b:Nat} {zs:List V} {x:X} (hc:cXop P o.op=some (.mks s b zs x)) {env:Env} {own:Own} {ks:List Nat} {K:V->Own->List Nat->Prop} (h:vxop (.mks s b zs x) env own ks K) :
 ∃k ks' bl v,ks=k::ks'/\K v ((k,bl)::own) ks'/\AFact P o [x] env k bl v/\(v=.loc k 0\/(∃s n,v=.vec k s 0 n)\/v=.oel k 1 0 0):=by
 obtain⟨dst,op,type,pos,after,guard⟩:=o;simp only at hc;unfold cXop at hc;split at hc
 case h_1 =>
  rename_i t l c;split at hc
  case h_2=>cases hc
  rename_i e he;split at hc
  case h_2=>cases hc
  rename_i s b zs x h1 h2 h3 h4 h5;split at hc
  case h_2=>cases hc
  rename_i hzl hzk;cases hc;have hzl:=Nat.eq_of_beq_eq_true hzl;obtain⟨v,h,hv⟩:=get_sound h4 h;split at h
  case h_2=>exact h.elim
  rename_i k n;obtain⟨m,rfl,hm,h⟩:=h;obtain⟨hbm,h⟩:=h;obtain⟨kk,ks',rfl,hK⟩:=fresh_sound h;obtain⟨i,z,hi,hz,hzc⟩:=zeroOf_info h3;have hisz:i.size=s:=by simpa[szOf,hi] using h1
  have hib:i.bytes=b:=by simpa[hi] using h2
  have hb':(i.bytes:Int)*(m:Int)<=281474976710656:=by
   have:((i.bytes*m:Nat):Int)<=281474976710656:=by rw[hib,Nat.mul_comm];omega
   rwa[Int.natCast_mul] at this
  have hlc:∀M w σ a,(∀y,y∈[x]->XOk M w σ env a y)->a.eval l=.int k m/\∃kc,a.eval c=.int kc m:=by
   intro M w σ a ok;have dv:=hv M w σ a (ok _ (by simp));have hl:a.eval l=.int k m:=by generalize a.eval l=q at dv;cases dv;rfl
   refine⟨hl,?_⟩;unfold sameB at h5;split at h5
   . rename_i n1 n2 e1 e2;cases e1;cases e2;rw[<- Nat.eq_of_beq_eq_true h5];exact⟨_,hl⟩
   . rename_i k1 a1 k2 a2 e1 e2;cases e1;cases e2;have e3:=of_decide_eq_true h5;simp only[Act.eval] at hl ⊢;cases hl;exact⟨k2,by rw[e3]⟩
   . cases h5
  rcases mksK_out hK with hK1 | ⟨hs1,hK1⟩
  rotate_left
  . subst hs1;refine⟨kk,ks',_,_,rfl,hK1,?_,.inr (.inl ⟨_,_,rfl⟩)⟩;intro M w σ a own0 ks0 ok hh;obtain⟨hl,kc,hlc⟩:=hlc M w σ a ok;obtain⟨l1,l2⟩:=den_ofCells (M:=M) (w:=w) Sg.none hzc;have hr:=run_make (P:=P) w t e i z he hi hz k kc m m (by omega) (Int.le_refl _) hb' (by omega);simp only[Int.toNat_natCast] at hr;have zsz:z.cells.size=1:=by simp at l1;omega
    have hz0:0<zs.length:=by omega
    have hd:=l2 0 zs[0] z.cells[0] (by simp[hz0]) (by simp[show 0<z.cells.size by omega]);obtain⟨M',σ',n1,n2,n3,n4,n5⟩:=new_cellsv (k:=kk) (ks:=ks0) hh 1 m (List.replicate m (zs.getD 0 default)) (madeCells z.cells (m*i.size)) e (by rw[size_madeCells,hisz];simp) (fun q x y hx hy=>by
     have hq:q<m:=by have:=(List.getElem?_eq_some_iff.1 hx).1;simpa using this
     have ex:x=zs[0]:=by
      rw[List.getElem?_replicate,if_pos hq] at hx;simp only[Option.some.injEq] at hx;rw[<- hx];simp[List.getD,hz0]
     have ey:y=z.cells[0]:=by
      simp only[madeCells,Array.getElem?_map] at hy;rw[Array.getElem?_range,if_pos (by rw[hisz];omega)] at hy;simp only[Option.map_some,zsz,Nat.mod_one,Option.some.injEq] at hy;rw[<- hy,getElem!_pos z.cells 0 (by omega)]
     rw[ex,ey];exact hd.mono ⟨fun _ _ h=>⟨h,rfl⟩,Nat.le_refl _⟩ (fun _ _ h=>by cases h))
    refine⟨.slice (some ⟨w.heap.size,0,none⟩) m m,w.alloc (.cells (madeCells z.cells (m*i.size)) e),M',σ',?_,n1,n2,n3,n4,n5⟩;refine run_v (s:=Instr.makeSlice t (a.eval l) (a.eval c)) ?_;rw[hl,hlc];exact hr
  . refine⟨kk,ks',_,_,rfl,hK1,?_,.inr (.inl ⟨_,_,rfl⟩)⟩;intro M w σ a own0 ks0 ok hh;obtain⟨hl,kc,hlc⟩:=hlc M w σ a ok;obtain⟨l1,l2⟩:=den_ofCells (M:=M) (w:=w) Sg.none hzc;have hr:=run_make (P:=P) w t e i z he hi hz k kc m m (by omega) (Int.le_refl _) hb' (by omega);simp only[Int.toNat_natCast] at hr;have zsz:z.cells.size=s:=by simp at l1;omega
    obtain⟨M',σ',n1,n2,n3,n4,n5⟩:=new_vec' (w':=w.alloc (.cells (madeCells z.cells (m*i.size)) e)) (k:=kk) (ks:=ks0) hh m s m (fun _ j=>zs.getD j default) (madeCells z.cells (m*i.size)) e (.inl rfl) (Nat.le_refl _) (by rw[size_madeCells,hisz];exact Nat.le_refl _) (fun p j hp hj=>by
     have hlt:p*s+j<m*s:=by
      have:(p+1)*s<=m*s:=Nat.mul_le_mul_right _ hp;rw[Nat.add_mul] at this;omega
     have hjz:j<z.cells.size:=by omega
     have hjs:j<zs.length:=by omega
     have hmod:(p*s+j) % z.cells.size=j:=by
      rw[zsz,Nat.add_comm,Nat.add_mul_mod_self_right,Nat.mod_eq_of_lt hj]
     have hd:=l2 j zs[j] z.cells[j] (by simp[hjs]) (by simp[hjz]);refine⟨z.cells[j],?_,hd.oneCell ?_,by simpa[List.getD,hjs] using hd⟩
     . simp only[madeCells,Array.getElem?_map];rw[Array.getElem?_range,if_pos (by rw[hisz];exact hlt)];simp only[Option.map_some,hmod];rw[getElem!_pos z.cells j hjz]
     . exact ofCells_cellB hzc _ (List.getElem_mem hjs))
    refine⟨.slice (some ⟨w.heap.size,0,none⟩) m m,w.alloc (.cells (madeCells z.cells (m*i.size)) e),M',σ',?_,n1,n2,n3 m (Nat.le_refl _),by rw[n4];simp,n5⟩;refine run_v (s:=Instr.makeSlice t (a.eval l) (a.eval c)) ?_;rw[hl,hlc];exact hr
 all_goals
  repeat' (split at hc)
  all_goals (first|(cases hc;done)|(simp at hc;done)|skip)
theorem new_sound {P:Program} {o:Oper} {so:SOp} (hc:cOp P o.op=some so) (hn:so.isNew=true) {env:Env} {own:Own} {ks:List Nat} {K:V->Own->List Nat->Prop} (h:vop P so env own ks K) :
 ∃k ks' b v,ks=k::ks'/\K v ((k,b)::own) ks'/\AFact P o so.xs env k b v/\(v=.loc k 0\/(∃s n,v=.vec k s 0 n)\/v=.oel k 1 0 0):=by
 obtain⟨dst,op,type,pos,after,guard⟩:=o;simp only at hc;cases so<;>simp only[SOp.isNew,reduceCtorEq] at hn
 case alloc zs =>
  obtain⟨k,ks',rfl,hK⟩:=fresh_sound h;refine⟨k,ks',_,_,rfl,hK,?_,.inl rfl⟩;intro M w σ a own0 ks0 _ hh;obtain⟨t,rfl,hz⟩:∃t,op=.alloc t/\zeroOf P t=some zs:=by cases cOp_was hc with|alloc t _ h=>exact⟨t,rfl,h⟩
  obtain⟨i,z,hi,hzz,hzc⟩:=zeroOf_info hz;obtain⟨l1,l2⟩:=den_ofCells (M:=M) (w:=w) σ hzc;obtain⟨M',σ',n1,n2,n3,n4⟩:=new_cells hh zs z.cells t (by simpa using l1.symm) (fun i x y hx hy=>l2 i x y hx (by simpa using hy));refine⟨_,_,M',σ',?_,n1,n2,n3,blkOf_loc n3,n4⟩;refine run_v (s:=Instr.alloc t true (.tuple #[])) ?_;simp[Instr.alloc,zeroValue,typeInfo,Sem.run_bind,hi,hzz,newVar,newRow,go_sem]
 case alloca n z =>
  obtain⟨k,ks',rfl,hK⟩:=fresh_sound h;refine⟨k,ks',_,_,rfl,hK,?_,.inr (.inr rfl)⟩;intro M w σ a own0 ks0 _ hh;obtain⟨t,rfl,hb⟩:∃t,op=.alloc t/\bigArr P t=some (n,z):=by cases cOp_was hc with|alloca t _ _ h=>exact⟨t,rfl,h⟩
  unfold bigArr at hb;split at hb
  case h_2=>cases hb
  rename_i n0 e zs hu hz;split at hb
  case h_2=>cases hb
  rename_i z0 hb1 hb2 hsz;cases hb;have hlen:=Nat.eq_of_beq_eq_true hb2;obtain⟨zall,zk,zc⟩:=sameZ_spec hsz;obtain⟨i,zz,hi,hzz,hzc⟩:=zeroOf_info hz;obtain⟨l1,l2⟩:=den_ofCells (M:=M) (w:=w) Sg.none hzc;obtain⟨M',σ',n1,n2,n3,n4,n5⟩:=new_vec' (w':=w.alloc (.cells zz.cells t)) hh n 1 n (fun _ _=>z) zz.cells t (.inl rfl) (Nat.le_refl _) (by simp at l1;omega) (fun i j hi hj=>by
   have hj0:j=0:=by omega
   subst hj0;have h1:i<zs.length:=by omega
   have h2:i<zz.cells.size:=by simp at l1;omega
   have hd:=l2 i zs[i] zz.cells[i] (by simp[h1]) (by simp[h2]);rw[zall _ (List.getElem_mem h1)] at hd;exact⟨zz.cells[i],by simp[h2],hd.oneCell zc,hd⟩)
  have n3':=n3 n (Nat.le_refl _);refine⟨.pointer (some ⟨w.heap.size,0,none⟩),_,M',σ',?_,n1,n2,?_,by rw[n4];simp,n5⟩
  . refine run_v (s:=Instr.alloc t true (.tuple #[])) ?_;simp[Instr.alloc,zeroValue,typeInfo,Sem.run_bind,hi,hzz,newVar,newRow,go_sem]
  . have hb8:=Nat.le_of_ble_eq_true hb1;cases n3' with
    | vec _ _ _ _ _ bo base κ c ad hk hc hl ha =>
      obtain⟨b,e1,e2⟩:=ha (by omega);simp only[Option.some.injEq,Addr.mk.injEq] at e2;obtain⟨e3,e4,_⟩:=e2;subst e1 e3;have hb0:base=0:=by omega
      subst hb0;exact .oel _ k 1 0 0 _ 0 _ hk
 case xt xo =>
  have hx:cXop P op=some xo:=by cases cOp_was hc with|xt _ _ h=>exact h
  cases xo<;>simp only[Bool.false_eq_true] at hn;rename_i s b zs x;exact mks_new (o:=⟨dst,op,type,pos,after,guard⟩) hx h
 case box x =>
  obtain⟨t,x0,rfl,hx⟩:∃t x0,op=.box t x0/\cX x0=some x:=by cases cOp_was hc with|box t x0 _ h=>exact⟨t,x0,rfl,h⟩
  obtain⟨v,h,hv⟩:=get_sound hx h;obtain⟨cs,h,hcs⟩:=cellsK_sound h;obtain⟨k,ks',rfl,hK⟩:=fresh_sound h;refine⟨k,ks',_,_,rfl,hK,?_,.inl rfl⟩;intro M w σ a own0 ks0 ok hh;obtain⟨l1,l2⟩:=hcs M w σ _ (hv M w σ a (ok _ (by simp[SOp.xs])));obtain⟨M',σ',n1,n2,n3,n4⟩:=new_cells hh cs (a.eval x0).cells t l1.symm l2;refine⟨_,_,M',σ',?_,n1,n2,n3,blkOf_loc n3,n4⟩;exact run_v (s:=Instr.box t (a.eval x0)) rfl
 case bslice s len xs =>
  obtain⟨t,parts,e,zs,rfl,ht,hs,hz,hxs,hidx,hlen,hbig⟩:∃t parts e zs,op=.buildSlice t len parts/\P.underlying t=some (.slice e)/\szOf P e=some s/\zeroOf P e=some zs /\
   cXs (parts.toList.map (·.2))=some xs/\idxs 0 parts.toList=true/\parts.toList.length=len/\len*s<=16777216:=by
   cases cOp_was hc with|bslice t _ parts e _ zs _ h1 h2 h3 h4 h5 h6 h7=>exact⟨t,parts,e,zs,rfl,h1,h2,h3,h4,h5,h6,h7⟩
  obtain⟨vs,h,hvl,hvs⟩:=gets_sound hxs h;cases hkf:allB V.kf2 vs with
  | false =>
    rw[hkf] at h;simp only at h;obtain⟨cs,h,hcl,hcs⟩:=flatK_sound s vs _ h;obtain⟨k,ks',rfl,hK⟩:=fresh_sound h;refine⟨k,ks',_,_,rfl,hK,?_,.inr (.inl ⟨_,_,rfl⟩)⟩;intro M w σ a own0 ks0 ok hh;obtain⟨q1,q2⟩:=hcs M w σ ((parts.toList.map (·.2)).map a.eval) (by simpa using hvl) (hvs M w σ a ok);obtain⟨i,z,hi,hzz,hzc⟩:=zeroOf_info hz;have hisz:i.size=s:=by simpa[szOf,hi] using hs
    have hps:idxs 0 (parts.toList.map fun p=>(p.1,a.eval p.2))=true:=by
     have:∀(l:List (Nat×Operand)) (n:Nat),idxs n l=true->idxs n (l.map fun p=>(p.1,a.eval p.2))=true:=by
      intro l
      induction l with
      | nil=>intro n _;rfl
      | cons p l ih =>
        intro n hn;obtain⟨k,x⟩:=p;simp only[idxs,List.map_cons] at hn ⊢;split at hn
        . exact ih _ hn
        . cases hn
     exact this _ _ hidx
    have zsz:∀q,((Array.range q).map (fun j=>(if len*s=0 then #[] else z.cells)[j % (if len*s=0 then #[] else z.cells).size]!):Array Value).size=q:=by intro q;simp
    obtain⟨cells',f1,f2,f3,f4⟩:=fill_rows s (parts.toList.map fun p=>(p.1,a.eval p.2)) 0
     ((Array.range (len*s)).map (fun j=>(if len*s=0 then #[] else z.cells)[j % (if len*s=0 then #[] else z.cells).size]!)) hps
     (fun p hp=>by
       obtain⟨p0,hp0,rfl⟩:=List.mem_map.1 hp;exact q1 _ (by simp only[List.map_map,List.mem_map,Function.comp];exact⟨p0,hp0,rfl⟩))
     (by rw[zsz];simp at hlen ⊢;rw[hlen];exact Nat.le_refl _)
    rw[zsz] at f2;have hvl':vs.length=len:=by rw[hvl];simpa using hlen
    obtain⟨M',σ',n1,n2,n3,n4,n5⟩:=new_cellsv (k:=k) (ks:=ks0) hh s len cs cells' e (by rw[f2,hcl,hvl']) (fun q x y hx hy=>by
     have hq:q<len*s:=by rw[<- f2];exact(Array.getElem?_eq_some_iff.1 hy).1
     have hs0:0<s:=by
      rcases Nat.eq_zero_or_pos s with h|h
      . subst h;simp at hq
      . exact h
     have hqs:q / s<len:=Nat.div_lt_of_lt_mul (by rw[Nat.mul_comm];exact hq);have hqm:q % s<s:=Nat.mod_lt _ hs0;have hqe:q / s*s+q % s=q:=by rw[Nat.mul_comm];exact Nat.div_add_mod q s
     have hlt:q / s<parts.toList.length:=by omega
     obtain⟨x',y',x1,x2,x3,x4⟩:=q2 (q / s) (a.eval (parts.toList[q / s]).2) (by simp[List.getElem?_eq_getElem hlt]) (q % s) hqm;have:=f4 (q / s) ((parts.toList[q / s]).1,a.eval (parts.toList[q / s]).2) (by simp[List.getElem?_eq_getElem hlt]) (q % s) hqm;simp only[Nat.zero_add] at this;rw[hqe] at this x3;rw[this,x1] at hy;rw[x3] at hx;cases hy;cases hx;exact x4)
    have hrun:=run_buildSlice_any (P:=P) w t e len (parts.map fun(i,x)=>(i,a.eval x)) cells' s i z ht hi hzz hisz hbig (by rw[Array.toList_map];exact f1);exact⟨_,_,M',σ',run_v hrun,n1,n2,n3,n4,n5⟩
  | true =>
  rw[hkf] at h;simp only at h;obtain⟨rs,h,hrl,hrs⟩:=rowsK_sound s vs _ h;obtain⟨k,ks',rfl,hK⟩:=fresh_sound h;refine⟨k,ks',_,_,rfl,hK,?_,.inr (.inl ⟨_,_,rfl⟩)⟩;intro M w σ a own0 ks0 ok hh;have hxl:xs.length=len:=by rw[cXs_length hxs];simpa using hlen
  obtain⟨q1,q2⟩:=hrs M w σ ((parts.toList.map (·.2)).map a.eval) (by simpa using hvl) (hvs M w σ a ok);obtain⟨i,z,hi,hzz,hzc⟩:=zeroOf_info hz;have hisz:i.size=s:=by simpa[szOf,hi] using hs
  have hps:idxs 0 (parts.toList.map fun p=>(p.1,a.eval p.2))=true:=by
   have:∀(l:List (Nat×Operand)) (n:Nat),idxs n l=true->idxs n (l.map fun p=>(p.1,a.eval p.2))=true:=by
    intro l
    induction l with
    | nil=>intro n _;rfl
    | cons p l ih =>
      intro n hn;obtain⟨k,x⟩:=p;simp only[idxs,List.map_cons] at hn ⊢;split at hn
      . exact ih _ hn
      . cases hn
   exact this _ _ hidx
  have zsz:∀q,((Array.range q).map (fun j=>(if len*s=0 then #[] else z.cells)[j % (if len*s=0 then #[] else z.cells).size]!):Array Value).size=q:=by intro q;simp
  obtain⟨cells',f1,f2,f3,f4⟩:=fill_rows s (parts.toList.map fun p=>(p.1,a.eval p.2)) 0
   ((Array.range (len*s)).map (fun j=>(if len*s=0 then #[] else z.cells)[j % (if len*s=0 then #[] else z.cells).size]!)) hps
   (fun p hp=>by
     obtain⟨p0,hp0,rfl⟩:=List.mem_map.1 hp;exact q1 _ (by simp only[List.map_map,List.mem_map,Function.comp];exact⟨p0,hp0,rfl⟩))
   (by rw[zsz];simp at hlen ⊢;rw[hlen];exact Nat.le_refl _)
  rw[zsz] at f2;obtain⟨M',σ',n1,n2,n3,n4,n5⟩:=new_vec' (w':=w.alloc (.cells cells' e)) hh len s len (tab rs) cells' e (.inl rfl) (Nat.le_refl _) (by omega) (fun i j hi hj=>by
   have hlt:i<parts.toList.length:=by omega
   obtain⟨x,x1,x2,x3⟩:=q2 i (a.eval (parts.toList[i]).2) (by simp[List.getElem?_eq_getElem hlt]) j hj;refine⟨x,?_,x2,x3⟩;have:=f4 i ((parts.toList[i]).1,a.eval (parts.toList[i]).2) (by simp[List.getElem?_eq_getElem hlt]) j hj;simp only[Nat.zero_add] at this;rw[this];exact x1)
  have n3':=n3 len (Nat.le_refl _);have hrun:=run_buildSlice_any (P:=P) w t e len (parts.map fun(i,x)=>(i,a.eval x)) cells' s i z ht hi hzz hisz hbig (by rw[Array.toList_map];exact f1);exact⟨_,_,M',σ',run_v hrun,n1,n2,n3',by rw[n4];simp,n5⟩
end Go.Eng
