import Derived.Test.YtlpfphlbghdokaaGreatDoorEngE
import Derived.Laws.MakeOwn
import Derived.Maps.RangeRun
namespace Go.Eng
section
variable {P:Program} {w:World} {ats:Array TypeId} {t t2 e e2 ty:TypeId} {s:Nat}
theorem J1k (h0:ats[0]?=some t) (h1:ats[1]?=some t2) (ht:P.underlying t=some (.slice e)) (ht2:P.underlying t2=some (.slice e2)) (hs:J3a P e=some s)
 (a:Option Addr) (len c m:Nat) (y:Value) (us:List Value) (hlen:(Builtin.lenOf y).run P w=.ok m w) (hf:(Builtin.firstCells s m y).run P w=.ok us.toArray w) (hroom:len+m<=c)
 (w':World) (hst:(match a with|some ad=>storeCells (ad.add (len*s)) us|none=>pure ():Sem Unit).run P w=.ok () w') :
 (Builtin.append_ ats ty #[.slice a len c,y]).run P w=.ok (.slice a (len+m) c) w':=by
 cases a with
 | none =>
   cases hst;simp[Builtin.append_,h0,h1,Sem.run_bind,run_underlying ht,run_underlying ht2,J07 hs,hlen,hroom,hf]
 | some ad =>
   simp only at hst;simp[Builtin.append_,h0,h1,Sem.run_bind,run_underlying ht,run_underlying ht2,J07 hs,hlen,hroom,hf,hst]
theorem J2G {i:TypeInfo} {z:Value} (h0:ats[0]?=some t) (h1:ats[1]?=some t2) (ht:P.underlying t=some (.slice e)) (ht2:P.underlying t2=some (.slice e2))
 (hi:P.info? e=some i) (hz:i.zero=some z) (hs:i.size=s)
 (a:Option Addr) (len c m:Nat) (y:Value) (us olds:List Value) (hlen:(Builtin.lenOf y).run P w=.ok m w) (hf:(Builtin.firstCells s m y).run P w.drew=.ok us.toArray w.drew)
 (hfo:(Builtin.firstCells s len (.slice a len c)).run P w.drew=.ok olds.toArray w.drew)
 (hg:c<len+m) (hb:(len+m)*i.bytes<=140737488355328) (h63:len+m<=9223372036854775807) :
 (Builtin.append_ ats ty #[.slice a len c,y]).run P w =
   .ok (.slice (some ⟨w.heap.size,0,none⟩) (len+m) (grownCap w (len+m) c e)) (w.drew.alloc (.cells (olds.toArray++us.toArray++Builtin.zeroCells z.cells (grownCap w (len+m) c e-(len+m))) e)):=by
 subst hs;have hfit:=growslice_fits (old:=c) hg hb;have hn:¬ (len+m<=c):=by omega
 have h63':¬ (9223372036854775807<((len:Int)+(m:Int))):=by omega
 have h48':¬ (281474976710656<Builtin.nextslicecap (len+m) c*i.bytes):=by omega
 simp[Builtin.append_,h0,h1,Sem.run_bind,run_underlying ht,run_underlying ht2,sizeOf,typeInfo,zeroValue,hi,hz,hlen,hn,h63',h48',Question.forced,hf,hfo,newRow,grownCap];congr 2;apply Array.ext';simp[List.append_assoc]
end
def Q9X (own:Own) (s:Nat) (y:V) (K:Nat->(Nat->Nat->V)->Prop):Prop :=
 match y with
 | .nilslice=>K 0 (fun _ _=>.nilptr)
 | .fz m s' _ f=>match Nat.beq s s' with|true=>K m f|false=>False
 | .vec k s' lo len=>match look own k with
   | some (.vec n s'' f)=>match Nat.beq s s',Nat.beq s s'' with
     | true,true=>Len (lo+len) n (K len (J0j lo f))
     | _,_=>False
   | _=>False
 | _=>False
structure Src (M:Nat->Prop) (w:World) (s m:Nat) (f:Nat->Nat->V) (u:Value):Prop where
 out:∃a c us,u=.slice a m c/\us.length=m*s/\(us≠[]->∃ad,a=some ad/\∀(j:Nat) (x:Value),us[j]?=some x->w.cell? (ad.add j)=some x) /\
  (∀i j,i<m->j<s->∃x,us[i*s+j]?=some x/\Den M w Sg.none (f i j) x)/\(∀x∈us,x.oneCell'=true)
theorem J5Q {M:Nat->Prop} {w:World} {s m c:Nat} {f:Nat->Nat->V} {b off:Nat}
 (h:∀i j,i<m->j<s->∃x,w.cell? ⟨b,off+(i*s+j),none⟩=some x/\x.oneCell'=true/\Den M w Sg.none (f i j) x):Src M w s m f (.slice (some ⟨b,off,none⟩) m c):=by
 have h':∀q,q<m*s->∃x,w.cell? ⟨b,off+q,none⟩=some x/\x.oneCell'=true/\Den M w Sg.none (f (q / s) (q % s)) x:=fun q hq=>by
  have hs:0<s:=by
   rcases Nat.eq_zero_or_pos s with e|e
   . subst e;simp at hq
   . exact e
  have:=h (q / s) (q % s) ((Nat.div_lt_iff_lt_mul hs).2 hq) (Nat.mod_lt _ hs)
  rwa[show q / s*s+q % s=q by rw[Nat.mul_comm];exact Nat.div_add_mod q s] at this
 let F:Nat->Value:=fun q=>if hq:q<m*s then Classical.choose (h' q hq) else undef
 have hF:∀q,q<m*s->w.cell? ⟨b,off+q,none⟩=some (F q)/\(F q).oneCell'=true/\Den M w Sg.none (f (q / s) (q % s)) (F q):=fun q hq=>by
  simp only[F,hq,dite_true];exact Classical.choose_spec (h' q hq)
 refine⟨_,c,(List.range (m*s)).map F,rfl,by simp,fun _=>⟨_,rfl,?_⟩,?_,?_⟩
 . intro j x hx;rw[List.getElem?_map] at hx;have hj:j<m*s:=by
    rcases Nat.lt_or_ge j (m*s) with h|h
    . exact h
    . simp[List.getElem?_eq_none (l:=List.range (m*s)) (by simpa using h)] at hx
   simp[List.getElem?_range hj] at hx;subst hx;rw[J1G];exact(hF j hj).1
 . intro i j hi hj;have hq:i*s+j<m*s:=by
    have:i*s+s<=m*s:=by rw[<- Nat.succ_mul];exact Nat.mul_le_mul_right _ hi
    omega
   refine⟨F (i*s+j),by simp[List.getElem?_range hq],?_⟩;have:=(hF _ hq).2.2
   rwa[Nat.mul_comm i s,Nat.mul_add_div (by omega),Nat.div_eq_of_lt hj,Nat.add_zero,Nat.mul_add_mod,Nat.mod_eq_of_lt hj,Nat.mul_comm s i] at this
 . intro x hx;obtain⟨q,hq,rfl⟩:=List.mem_map.1 hx;exact(hF q (by simpa using hq)).2.1
theorem J5l {own:Own} {s:Nat} {y:V} {K:Nat->(Nat->Nat->V)->Prop} (h:Q9X own s y K) :
 ∃m f,K m f/\∀M w σ u,Den M w σ y u->J2r M w σ own->Src M w s m f u:=by
 unfold Q9X at h;split at h
 . refine⟨_,_,h,fun M w σ u hd _=>?_⟩;cases hd;exact⟨none,0,[],rfl,by simp,by simp,fun i j hi=>by omega,by simp⟩
 . rename_i m s' J15 f;split at h
   . rename_i hb;have e:=Nat.eq_of_beq_eq_true hb;subst e;refine⟨_,_,h,fun M w σ u hd _=>?_⟩;cases hd with
     | fz0 _ _ _ _ a c hf=>exact⟨a,c,[],rfl,by simp,by simp,fun i j hi=>by omega,by simp⟩
     | fz _ _ _ _ _ b off c u hc hf hM hb hcell h1 hd=>exact J5Q fun i j hi hj=>⟨u i j,hcell i j hi hj,h1 i j hi hj,hd i j hi hj⟩
   . exact h.elim
 . rename_i k s' lo len;split at h
   . rename_i n s'' f hlook;split at h
     . rename_i e1 e2;have e1:=Nat.eq_of_beq_eq_true e1;have e2:=Nat.eq_of_beq_eq_true e2;subst e1 e2;obtain⟨hle,hK⟩:=h;refine⟨_,_,hK,fun M w σ u hd ho=>?_⟩;obtain⟨bo,base,κ,s1,s2,s3⟩:=ho.blk k _ (J0i hlook);cases hd with
       | vec _ _ _ _ _ bo' base' κ' c a hk hc hl ha =>
         rw[s1] at hk;simp only[Option.some.injEq,Prod.mk.injEq] at hk;obtain⟨q1,q2,q3⟩:=hk;subst q1 q2 q3;rcases Nat.eq_zero_or_pos c with hc0|hc0
         . have:len=0:=by omega
           subst this;exact⟨a,c,[],rfl,by simp,by simp,fun i j hi=>by omega,by simp⟩
         . obtain⟨b,hb,ha'⟩:=ha hc0;clear ha;subst hb ha';rcases s3 with ⟨_,s3⟩ | ⟨b',ty,us,s3,s4,s5,s6,s7⟩
           . cases s3
           . cases s3;refine J5Q fun i j hi hj=>?_;obtain⟨x,x1,x0,x2⟩:=s7 (lo+i) j (by omega) hj;refine⟨x,?_,x0,by rw[J0w];exact x2⟩;rw[show base+lo*s+(i*s+j)=base+((lo+i)*s+j) by rw[Nat.add_mul];omega];simp[World.cell?,s5,x1]
     . exact h.elim
   . exact h.elim
 . exact h.elim
theorem Src.firstCells {P:Program} {M:Nat->Prop} {w w':World} {s m:Nat} {f:Nat->Nat->V} {u:Value} (h:Src M w s m f u) (hw:w'.heap=w.heap) :
 ∃us:List Value,us.length=m*s/\(Builtin.firstCells s m u).run P w'=.ok us.toArray w'/\(Builtin.lenOf u).run P w'=.ok m w' /\
  (∀i j,i<m->j<s->∃x,us[i*s+j]?=some x/\Den M w Sg.none (f i j) x)/\(∀x∈us,x.oneCell'=true):=by
 obtain⟨a,c,us,rfl,h1,h2,h3,h4⟩:=h.out;refine⟨us,h1,?_,rfl,h3,h4⟩;by_cases hu:us=[]
 . subst hu;cases a with
   | none=>rfl
   | some ad =>
     show(loadCells ad (m*s)).run P w'=_;rw[<- h1];rfl
 . obtain⟨ad,rfl,hc⟩:=h2 hu;show(loadCells ad (m*s)).run P w'=_;rw[<- h1];refine run_loadCells_list w' ad us (fun j v hv=>?_);have:=hc j v hv;simpa[World.cell?,hw] using this
def X1F {α:Type} (t:Nat):List (Nat×α)->(List (Nat×α)->Prop)->Prop
 | [],K=>K []
 | (k,v)::r,K=>match Nat.beq k t with|true=>K r|false=>X1F t r fun r'=>K ((k,v)::r')
theorem J4d {α:Type} (t:Nat):∀(l:List (Nat×α)) (K:List (Nat×α)->Prop),X1F t l K->(l.map (·.1)).Nodup ->
 ∃r,K r/\(r.map (·.1)).Nodup/\∀k' c,(k',c)∈r↔(k'≠t/\(k',c)∈l)
 | [],K,h,_=>⟨[],h,by simp,by simp⟩
 | (k,v)::l,K,h,hn=>by
   simp only[List.map_cons,List.nodup_cons] at hn;have notin:∀c,(k,c)∉l:=fun c hc=>hn.1 (List.mem_map.2 ⟨_,hc,rfl⟩);unfold X1F at h;split at h
   . rename_i hb;have e:=Nat.eq_of_beq_eq_true hb;subst e;refine⟨_,h,hn.2,?_⟩;intro k' c;constructor
     . intro hc;exact⟨fun e=>notin c (e▸hc),List.mem_cons_of_mem _ hc⟩
     . rintro⟨hne,hc⟩;rcases List.mem_cons.1 hc with e|e
       . cases e;exact(hne rfl).elim
       . exact e
   . rename_i hb;have hne:k≠t:=fun e=>by subst e;simp at hb
     obtain⟨r,h1,h2,h3⟩:=J4d t l _ h hn.2;refine⟨_,h1,?_,?_⟩
     . simp only[List.map_cons,List.nodup_cons];refine⟨fun hm=>?_,h2⟩;obtain⟨⟨k',c⟩,hc,e⟩:=List.mem_map.1 hm;simp at e;subst e;exact notin c ((h3 _ _).1 hc).2
     . intro k' c;simp only[List.mem_cons,Prod.mk.injEq,h3];constructor
       . rintro (⟨rfl,rfl⟩ | ⟨a1,a2⟩)
         . exact⟨hne,.inl ⟨rfl,rfl⟩⟩
         . exact⟨a1,.inr a2⟩
       . rintro⟨a1,⟨rfl,rfl⟩|a2⟩
         . exact .inl ⟨rfl,rfl⟩
         . exact .inr ⟨a1,a2⟩
theorem J49 {M:Nat->Prop} {w:World} {σ:Sg} {own own':Own} {ks:List Nat} (h:J0S M w σ own ks) (hsub:∀k c,(k,c)∈own'->(k,c)∈own) (hn:(own'.map (·.1)).Nodup) :
 J0S M w σ own' ks/\Tr M w σ own M w σ own' :=
 ⟨⟨⟨fun k b hm=>h.own.blk k b (hsub k b hm),hn,fun k b k' b' n h1 h2=>h.own.apart k b k' b' n (hsub _ _ h1) (hsub _ _ h2)⟩,h.fresh,h.knodup⟩,
   ⟨.refl _ _ _,fun _ ⟨k,b,hm,hk⟩=>.inl ⟨k,b,hsub k b hm,hk⟩,Sg.le_refl _⟩⟩
theorem Q5w {M:Nat->Prop} {w w':World} {σ:Sg} {own own':Own} {k':Nat} {ks:List Nat} (h:J0S M w σ own (k'::ks)) (k g:Nat) (b:Blk) (hm:(k,b)∈own) (hg:J0u σ k=some g)
 (hown:∀q c,(q,c)∈own'↔(q≠k/\(q,c)∈own)) (hnd:(own'.map (·.1)).Nodup) (x:Option Nat×Nat×Nat) (hx:x.1=some g) (b':Blk)
 (os:w'.os=w.os) (tape:w'.tape=w.tape) (output:w'.output=w.output) (size:w'.heap.size=w.heap.size)
 (same:∀n,n≠g->w'.heap[n]?=w.heap[n]?) (hb:Ext M w M w'->J1v M w' (σ.set k' x) k' b') (hf:b'.isFam=false:=by rfl) :
 J0S M w' (σ.set k' x) ((k',b')::own') ks/\Tr M w σ own M w' (σ.set k' x) ((k',b')::own'):=by
 have hk0:σ k'=none:=h.fresh k' (by simp);have hle:σ.le (σ.set k' x):=Sg.le_set x hk0;have hgM:=J0s h.own ⟨k,b,hm,.inl hg⟩;have hE:Ext M w M w':=⟨fun n hn hM=>⟨hM,same n (fun e=>hM (e▸hgM.1))⟩,by omega⟩;have hne:∀q c,(q,c)∈own->q≠k':=fun q c hq e=>by
  obtain⟨y,hy⟩:=h.own.key hq;subst e;rw[hk0] at hy;cases hy
 have keep:∀q c n,q≠k->(q,c)∈own->(J0p w' (σ.set k' x) q c n↔J0p w σ q c n):=fun q c n hqk hq =>
  J0X hle (h.own.key hq) fun ob hob=>same ob fun e=>h.own.apart _ _ _ _ _ hq hm hqk (.inl hob) (.inl (e▸hg))
 have hnew:∀n,J0p w' (σ.set k' x) k' b' n->n=g:=fun n e=>by
  rw[J2W hf] at e;simp[J0u,Sg.set_same,hx] at e;exact e.symm
 refine⟨⟨⟨?_,?_,?_⟩,?_,(List.nodup_cons.1 h.knodup).2⟩,⟨⟨os,tape,output,by omega,?_,fun _ _ _=>Iff.rfl⟩,?_,hle⟩⟩
 . intro q c hq;rcases List.mem_cons.1 hq with e|hq
   . cases e;exact hb hE
   . obtain⟨n1,n2⟩:=(hown q c).1 hq;refine(h.own.blk q c n2).mono hE hle ?_;intro n hn;refine⟨(J0s h.own ⟨q,c,n2,hn⟩).1,same n ?_⟩;intro e;subst e;exact h.own.apart _ _ _ _ _ n2 hm n1 hn (.inl hg)
 . simp only[List.map_cons,List.nodup_cons];refine⟨?_,hnd⟩;intro hmm;obtain⟨⟨q,c⟩,hq,e⟩:=List.mem_map.1 hmm;exact hne q c ((hown q c).1 hq).2 e
 . intro q1 c1 q2 c2 n h1 h2 hne' e1 e2;rcases List.mem_cons.1 h1 with i1|i1
   . cases i1;rcases List.mem_cons.1 h2 with i2|i2
     . cases i2;exact hne' rfl
     . obtain⟨n1,n2⟩:=(hown _ _).1 i2;have:=hnew n e1;subst this;exact h.own.apart _ _ _ _ _ n2 hm n1 ((keep _ _ _ n1 n2).1 e2) (.inl hg)
   . obtain⟨n1,n2⟩:=(hown _ _).1 i1;rcases List.mem_cons.1 h2 with i2|i2
     . cases i2;have:=hnew n e2;subst this;exact h.own.apart _ _ _ _ _ n2 hm n1 ((keep _ _ _ n1 n2).1 e1) (.inl hg)
     . obtain⟨m1,m2⟩:=(hown _ _).1 i2;exact h.own.apart _ _ _ _ _ n2 m2 hne' ((keep _ _ _ n1 n2).1 e1) ((keep _ _ _ m1 m2).1 e2)
 . intro q hq;have:q≠k':=fun e=>by subst e;exact(List.nodup_cons.1 h.knodup).1 hq
   rw[Sg.set_other _ _ _ this];exact h.fresh q (by simp[hq])
 . intro n hn hno;refine same n ?_;intro e;subst e;exact hno ⟨k,b,hm,.inl hg⟩
 . intro n hn;left;rcases J5q.1 hn with e | ⟨q,c,hq,e⟩
   . have:=hnew n e;subst this;exact⟨k,b,hm,.inl hg⟩
   . obtain⟨n1,n2⟩:=(hown _ _).1 hq;exact⟨q,c,n2,(keep _ _ _ n1 n2).1 e⟩
def Q5y (f:Nat->Nat->V) (p m:Nat) (g:Nat->Nat->V):Nat->Nat->V:=fun i j=>if p<=i/\i<p+m then g (i-p) j else f i j
theorem J6C {P:Program} {M:Nat->Prop} {w:World} {σ:Sg} {own own':Own} {ks:List Nat} (hh:J0S M w σ own ks) {k s lo len n:Nat} {f:Nat->Nat->V} {a:Option Addr} {c:Nat} (hlook:look own k=some (.vec n s f))
 (hx:Den M w σ (.vec k s lo len) (.slice a len c)) {at_ m:Nat} {fy:Nat->Nat->V} {us:List Value} (hlen:us.length=m*s) (hroom:lo+at_+m<=n)
 (hd:∀i j,i<m->j<s->∃x,us[i*s+j]?=some x/\Den M w Sg.none (fy i j) x) (h1:∀x∈us,x.oneCell'=true)
 (hown:∀k' b,(k',b)∈own'↔(k'=k/\b=.vec n s (Q5y f (lo+at_) m fy))\/(k'≠k/\(k',b)∈own)) (hnd:own'.map (·.1)=own.map (·.1)) :
 at_+m<=c/\∃w',(match a with|some ad=>storeCells (ad.add (at_*s)) us|none=>pure ():Sem Unit).run P w=.ok () w'/\J0S M w' σ own' ks/\Tr M w σ own M w' σ own':=by
 have hmem:=J0i hlook;obtain⟨bo,base,κ,s1,s2,s3⟩:=hh.own.blk k _ hmem;cases hx with
 | vec _ _ _ _ _ bo' base' κ' c a hk hc hl ha =>
   rw[s1] at hk;simp only[Option.some.injEq,Prod.mk.injEq] at hk;obtain⟨q1,q2,q3⟩:=hk;subst q1 q2 q3;refine⟨by omega,?_⟩;rcases Nat.eq_zero_or_pos m with hm0|hm0
   . subst hm0;have hu:us=[]:=List.eq_nil_of_length_eq_zero (by simpa using hlen);subst hu;have hf:Q5y f (lo+at_) 0 fy=f:=by
      funext i j;unfold Q5y;rw[if_neg (by omega)]
     rw[hf] at hown;have hsub:∀k' b,(k',b)∈own'->(k',b)∈own:=fun k' b hm=>by
      rcases (hown k' b).1 hm with ⟨e1,e2⟩|e
      . rw[e1,e2];exact hmem
      . exact e.2
     have:=J49 hh hsub (by rw[hnd];exact hh.own.nodup);exact⟨w,by cases a<;>rfl,this.1,this.2⟩
   . obtain⟨b,hb',ha'⟩:=ha (by omega);clear ha;subst hb' ha';rcases s3 with ⟨_,s3⟩ | ⟨b',ty',cur,s3,s4,s5,s6,s7⟩
     . cases s3
     cases s3;have hroom':base+lo*s+at_*s+us.length<=cur.size:=by
      have:lo*s+at_*s+m*s<=κ*s:=by rw[<- Nat.add_mul,<- Nat.add_mul];exact Nat.mul_le_mul_right _ (by omega)
      omega
     have hst:=run_storeCells_at P b (base+lo*s+at_*s) ty' us 0 cur w s5 (by omega) h1;simp only[Nat.add_zero] at hst;have hw:=J19 (w':=w.setRow b (cur.toList.take (base+lo*s+at_*s)++us++cur.toList.drop (base+lo*s+at_*s+us.length)).toArray) hh k b _ (.vec n s (Q5y f (lo+at_) m fy)) hmem (.inl (by simp[J0u,s1]))
      hown hnd rfl rfl rfl (by simp) (fun n hn=>setRow_other w b n _ hn) (fun hE=>by
       refine⟨_,base,κ,s1,s2,.inr ⟨b,ty',_,rfl,s4,setRow_heap w b cur _ ty' _ s5,?_,?_⟩⟩
       . have:=J1i cur.toList us (base+lo*s+at_*s) (by simp;omega);simp only[List.size_toArray,this,Array.length_toList];exact s6
       . intro i j hi hj;have g1:=J0P cur.toList us (base+lo*s+at_*s) (by simp;omega) (base+(i*s+j));rw[List.getElem?_toArray,g1];by_cases hc:lo+at_<=i/\i<lo+at_+m
         . have e1:(lo+at_)*s<=i*s:=Nat.mul_le_mul_right _ hc.1;have e2:i*s+s<=(lo+at_)*s+m*s:=by rw[<- Nat.succ_mul,<- Nat.add_mul];exact Nat.mul_le_mul_right _ (by omega)
           rw[Nat.add_mul] at e1 e2;rw[if_neg (by omega),if_pos (by omega)];obtain⟨x,x1,x2⟩:=hd (i-(lo+at_)) j (by omega) hj;refine⟨x,?_,h1 x (List.mem_of_getElem? x1),?_⟩
           . rw[show base+(i*s+j)-(base+lo*s+at_*s)=(i-(lo+at_))*s+j by rw[Nat.sub_mul,Nat.add_mul];omega];exact x1
           . unfold Q5y;rw[if_pos hc];exact x2.mono hE (Sg.le_refl _)
         . have hfp:Q5y f (lo+at_) m fy i j=f i j:=by unfold Q5y;rw[if_neg hc]
           rw[hfp];obtain⟨x,x1,x0,x2⟩:=s7 i j hi hj;refine⟨x,?_,x0,x2.mono hE (Sg.le_refl _)⟩;split
           . simpa using x1
           . rename_i r1;split
             . rename_i r2;exfalso;apply hc;rcases Nat.lt_or_ge i (lo+at_) with g|g
               . have:i*s+s<=(lo+at_)*s:=by rw[<- Nat.succ_mul];exact Nat.mul_le_mul_right _ g
                 rw[Nat.add_mul] at this;omega
               . refine⟨g,?_⟩;rcases Nat.lt_or_ge i (lo+at_+m) with g'|g'
                 . exact g'
                 . have:(lo+at_+m)*s<=i*s:=Nat.mul_le_mul_right _ g';rw[Nat.add_mul,Nat.add_mul] at this;omega
             . simpa using x1)
     refine⟨_,?_,hw.1,hw.2⟩;simp only[J1G];exact hst
def J5i (f:Nat->Nat->V) (len:Nat) (g:Nat->Nat->V):Nat->Nat->V :=
 match len with
 | 0=>g
 | len+1=>fun i j=>if i<len+1 then f i j else g (i-(len+1)) j
theorem J2a {f g:Nat->Nat->V} {len i j:Nat} (h:i<len):J5i f len g i j=f i j:=by
 cases len with
 | zero=>omega
 | succ len=>simp[J5i,h]
theorem J2b {f g:Nat->Nat->V} {len i j:Nat} (h:¬ i<len):J5i f len g i j=g (i-len) j:=by
 cases len with
 | zero=>simp[J5i]
 | succ len=>simp[J5i,h]
def Q6e (own:Own) (ks:List Nat) (s bytes k lo len n m:Nat) (f fy:Nat->Nat->V) (K:V->Own->List Nat->Prop):Prop :=
 Len (lo+len) n (Len ((len+m)*bytes) 140737488355328 (Len (len+m) 9223372036854775807
  (fresh ks fun k' ks=>X1F k own fun own'=>K (.vec k' s 0 (len+m)) ((k',.vec (len+m) s (J5i (J0j lo f) len fy))::own') ks)))
def X2p (own:Own) (ks:List Nat) (s bytes:Nat) (x y:V) (K:V->Own->List Nat->Prop):Prop :=
 Q9X own s y fun m fy =>
  match x with
  | .nilslice=>Len (m*bytes) 140737488355328 (Len m 9223372036854775807 (fresh ks fun k' ks=>K (.vec k' s 0 m) ((k',.vec m s fy)::own) ks))
  | .fz 0 _ true _=>Len (m*bytes) 140737488355328 (Len m 9223372036854775807 (fresh ks fun k' ks=>K (.vec k' s 0 m) ((k',.vec m s fy)::own) ks))
  | .vec k s' lo len=>match look own k with
    | some (.vec n s'' f)=>match Nat.beq s s',Nat.beq s s'' with
      | true,true=>Br (Nat.beq (lo+len) n)
         (Q6e own ks s bytes k lo len n m f fy K)
         (Br (Nat.ble (lo+len+m) n) (Q1V k (.vec n s (Q5y f (lo+len) m fy)) own fun own'=>K (.vec k s lo (len+m)) own' ks)
           (Q6e own ks s bytes k lo len n m f fy K))
      | _,_=>False
    | _=>False
  | _=>False
theorem J0D {ks:List Nat} {K:Nat->List Nat->Prop} (h:fresh ks K):∃k r,ks=k::r/\K k r:=by
 cases ks with
 | nil=>exact h.elim
 | cons k r=>exact⟨k,r,rfl,h⟩
theorem J03 {P:Program} {e:TypeId} {zs:List V} (h:J1P P e=some zs):∃i z,P.info? e=some i/\i.zero=some z/\J24 z.cells.toList=some zs:=by
 unfold J1P at h;split at h
 . rename_i i hi;split at h
   . rename_i z hz;exact⟨i,z,hi,hz,h⟩
   . cases h
 . cases h
theorem J55 {P:Program} {ats:Array TypeId} {t t2 e e2 ty:TypeId} {s bytes:Nat} {zs:List V} (h0:ats[0]?=some t) (h1:ats[1]?=some t2)
 (ht:P.underlying t=some (.slice e)) (ht2:P.underlying t2=some (.slice e2)) (hs:J3a P e=some s) (hb:(P.info? e).map (·.bytes)=some bytes) (hz:J1P P e=some zs) (hzl:zs.length=s)
 {M:Nat->Prop} {w:World} {σ:Sg} {own:Own} {k:Nat} {ks:List Nat} (hh:J0S M w σ own (k::ks)) {m:Nat} {fy:Nat->Nat->V} {uy:Value} (hsrc:Src M w s m fy uy)
 (hm1:m*bytes<=140737488355328) (hm2:m<=9223372036854775807) (a:Option Addr) :
 ∃u w' M' σ',(Builtin.append_ ats ty #[.slice a 0 0,uy]).run P w=.ok u w'/\J0S M' w' σ' ((k,.vec m s fy)::own) ks/\Tr M w σ own M' w' σ' ((k,.vec m s fy)::own) /\
  Den M' w' σ' (.vec k s 0 m) u/\Kd σ own (k::ks) σ' ((k,.vec m s fy)::own) ks:=by
 obtain⟨i,z,hi,hzz,hzc⟩:=J03 hz;have hzs:z.cells.size=s:=by
  have:=(J0U (M:=M) (w:=w) σ hzc).1;simp at this;omega
 have hisz:i.size=s:=by simpa[J3a,hi] using hs
 have hiby:i.bytes=bytes:=by simpa[hi] using hb
 rcases Nat.eq_zero_or_pos m with e0|hpos
 . subst e0;obtain⟨us,u1,u2,u3,u4,u5⟩:=hsrc.firstCells (P:=P) (w':=w) rfl;have hu:us=[]:=List.eq_nil_of_length_eq_zero (by simpa using u1);subst hu;have hrun:=J1k (P:=P) (ty:=ty) h0 h1 ht ht2 hs a 0 0 0 uy [] u3 u2 (by omega) w (by cases a<;>rfl);obtain⟨M',σ',n1,n2,n3,n4⟩:=Q3T hh s fy a;exact⟨_,w,M',σ',hrun,n1,n2,n3,n4⟩
 . obtain⟨us,u1,u2,u3,u4,u5⟩:=hsrc.firstCells (P:=P) (w':=w.drew) rfl;obtain⟨us',_,_,u3',_,_⟩:=hsrc.firstCells (P:=P) (w':=w) rfl;have hfo:(Builtin.firstCells s 0 (.slice a 0 0)).run P w.drew=.ok ([]:List Value).toArray w.drew:=by
    cases a with
    | none=>rfl
    | some ad=>show(loadCells ad (0*s)).run P w.drew=_;rw[Nat.zero_mul];rfl
   have hrun:=J2G (P:=P) (ty:=ty) (w:=w) h0 h1 ht ht2 hi hzz hisz a 0 0 m uy us [] u3' u2 hfo (by omega) (by rw[hiby];simpa using hm1) (by omega);simp only[Nat.zero_add] at hrun;have hge:=grownCap_ge w m 0 e;obtain⟨M',σ',n1,n2,n3,n4⟩:=Q7n (w':=w.drew.alloc (.cells (([]:List Value).toArray++us.toArray++Builtin.zeroCells z.cells (grownCap w m 0 e-m)) e)) hh m s (grownCap w m 0 e) fy _ e (.inr rfl) hge
    (by simp only[Array.size_append,List.size_toArray,List.length_nil,size_zeroCells,u1,hzs,Nat.zero_add];rw[<- Nat.add_mul];exact Nat.mul_le_mul_right _ (by omega))
    (fun i j hi hj=>by
      obtain⟨x,x1,x2⟩:=u4 i j hi hj;refine⟨x,?_,u5 x (List.mem_of_getElem? x1),x2⟩;have hlt:i*s+j<us.length:=(List.getElem?_eq_some_iff.1 x1).1;rw[Array.getElem?_append_left (by simpa using hlt)];simpa using x1)
   exact⟨_,_,M',σ',hrun,n1,n2,n3 m hge,n4⟩
theorem Q28 {P:Program} {ats:Array TypeId} {t t2 e e2 ty:TypeId} {s:Nat} (h0:ats[0]?=some t) (h1:ats[1]?=some t2)
 (ht:P.underlying t=some (.slice e)) (ht2:P.underlying t2=some (.slice e2)) (hs:J3a P e=some s)
 {M:Nat->Prop} {w:World} {σ:Sg} {own own':Own} {k:Nat} {ks:List Nat} (hh:J0S M w σ own ks) {m:Nat} {fy:Nat->Nat->V} {uy:Value} (hsrc:Src M w s m fy uy)
 {lo len n:Nat} {f:Nat->Nat->V} {ux:Value} (hlook:look own k=some (.vec n s f)) (hx:Den M w σ (.vec k s lo len) ux) (hle:lo+len+m<=n)
 (hown:∀k' b,(k',b)∈own'↔(k'=k/\b=.vec n s (Q5y f (lo+len) m fy))\/(k'≠k/\(k',b)∈own)) (hnd:own'.map (·.1)=own.map (·.1)) :
 ∃u w',(Builtin.append_ ats ty #[ux,uy]).run P w=.ok u w'/\J0S M w' σ own' ks/\Tr M w σ own M w' σ own'/\Den M w' σ (.vec k s lo (len+m)) u:=by
 obtain⟨us,u1,u2,u3,u4,u5⟩:=hsrc.firstCells (P:=P) (w':=w) rfl;have hx0:=hx;cases hx with
 | vec _ _ _ _ _ bo base κ c a hk hc hl ha =>
   obtain⟨hroom,w',hst,hh',tr⟩:=J6C (P:=P) hh hlook hx0 (at_:=len) u1 hle u4 u5 hown hnd;exact⟨_,w',J1k h0 h1 ht ht2 hs a len c m uy us u3 u2 hroom w' hst,hh',tr,.vec _ _ _ _ _ _ _ _ _ _ hk hc hroom ha⟩
theorem Q5J {P:Program} {ats:Array TypeId} {t t2 e e2 ty:TypeId} {s bytes:Nat} {zs:List V} (h0:ats[0]?=some t) (h1:ats[1]?=some t2)
 (ht:P.underlying t=some (.slice e)) (ht2:P.underlying t2=some (.slice e2)) (hs:J3a P e=some s) (hb:(P.info? e).map (·.bytes)=some bytes) (hz:J1P P e=some zs) (hzl:zs.length=s)
 {M:Nat->Prop} {w:World} {σ:Sg} {own own':Own} {k k':Nat} {ks:List Nat} (hh:J0S M w σ own (k'::ks)) {m:Nat} {fy:Nat->Nat->V} {uy:Value} (hsrc:Src M w s m fy uy)
 {lo len n:Nat} {f:Nat->Nat->V} {ux:Value} (hlook:look own k=some (.vec n s f)) (hx:Den M w σ (.vec k s lo len) ux) (hle:lo+len<=n)
 (hm1:(len+m)*bytes<=140737488355328) (hm2:len+m<=9223372036854775807)
 (hown:∀q c,(q,c)∈own'↔(q≠k/\(q,c)∈own)) (hnd:(own'.map (·.1)).Nodup) :
 ∃u w' M' σ',(Builtin.append_ ats ty #[ux,uy]).run P w=.ok u w'/\J0S M' w' σ' ((k',.vec (len+m) s (J5i (J0j lo f) len fy))::own') ks /\
  Tr M w σ own M' w' σ' ((k',.vec (len+m) s (J5i (J0j lo f) len fy))::own')/\Den M' w' σ' (.vec k' s 0 (len+m)) u/\Kd σ own (k'::ks) σ' ((k',.vec (len+m) s (J5i (J0j lo f) len fy))::own') ks:=by
 obtain⟨i,z,hi,hzz,hzc⟩:=J03 hz;have hzs:z.cells.size=s:=by
  have:=(J0U (M:=M) (w:=w) σ hzc).1;simp at this;omega
 have hisz:i.size=s:=by simpa[J3a,hi] using hs
 have hiby:i.bytes=bytes:=by simpa[hi] using hb
 have hmem:=J0i hlook;have hkeys:∀q,q∈own'.map (·.1)->q∈own.map (·.1):=by
  intro q hq;obtain⟨⟨q',c⟩,hm,e⟩:=List.mem_map.1 hq;exact List.mem_map.2 ⟨_,((hown q' c).1 hm).2,e⟩
 have hkd:∀σ':Sg,Kd σ own' (k'::ks) σ' ((k',.vec (len+m) s (J5i (J0j lo f) len fy))::own') ks->Kd σ own (k'::ks) σ' ((k',.vec (len+m) s (J5i (J0j lo f) len fy))::own') ks :=
  fun σ' h=>⟨h.1,h.2.1,fun q hq=>(h.2.2 q hq).imp (hkeys q) id⟩
 obtain⟨bo,base,κ,s1,s2,s3⟩:=hh.own.blk k _ hmem;have hd:=hx;cases hx with
 | vec _ _ _ _ _ bo' base' κ' c a hk hc hl ha =>
   rw[s1] at hk;simp only[Option.some.injEq,Prod.mk.injEq] at hk;obtain⟨q1,q2,q3⟩:=hk;subst q1 q2 q3;have hsrcx:Src M w s len (J0j lo f) (.slice a len c):=by
    have hv:Q9X own s (.vec k s lo len) (fun m' f'=>m'=len/\f'=J0j lo f):=by
     unfold Q9X;simp only[hlook];split
     . exact Len.mk hle (by simp)
     . rename_i hh;simp at hh
    obtain⟨m',f',⟨r1,r2⟩,hr⟩:=J5l hv;subst r1 r2;exact hr M w σ _ hd hh.own
   have hdrop:=J49 (own':=own') hh (fun q c hq=>((hown q c).1 hq).2) hnd;by_cases hroom:len+m<=c
   . obtain⟨us,u1,u2,u3,u4,u5⟩:=hsrc.firstCells (P:=P) (w':=w) rfl;rcases Nat.eq_zero_or_pos c with hc0|hc0
     . have e1:len=0:=by omega
       have e2:m=0:=by omega
       subst e1 e2 hc0;have hu:us=[]:=List.eq_nil_of_length_eq_zero (by simpa using u1);subst hu;have hrun:=J1k (P:=P) (ty:=ty) h0 h1 ht ht2 hs a 0 0 0 uy [] u3 u2 (by omega) w (by cases a<;>rfl);obtain⟨M',σ',n1,n2,n3,n4⟩:=Q3T hdrop.1 s (J5i (J0j lo f) 0 fy) a;exact⟨_,w,M',σ',hrun,n1,hdrop.2.trans n2,n3,hkd _ n4⟩
     . obtain⟨b,hb',ha'⟩:=ha hc0;clear ha;subst hb' ha';rcases s3 with ⟨_,s3⟩ | ⟨b',ty',cur,s3,s4,s5,s6,s7⟩
       . cases s3
       cases s3;have hcs:c*s+lo*s=κ*s:=by rw[<- Nat.add_mul,hc]
       have hroom':len*s+m*s<=c*s:=by rw[<- Nat.add_mul];exact Nat.mul_le_mul_right _ hroom
       have hst:=run_storeCells_at P b (base+lo*s+len*s) ty' us 0 cur w s5 (by omega) u5;simp only[Nat.add_zero] at hst;have hrun:=J1k (P:=P) (ty:=ty) h0 h1 ht ht2 hs (some ⟨b,base+lo*s,none⟩) len c m uy us u3 u2 hroom _ (by simp only[J1G];exact hst);have hk':=Q5w (w':=w.setRow b (cur.toList.take (base+lo*s+len*s)++us++cur.toList.drop (base+lo*s+len*s+us.length)).toArray) hh k b (.vec n s f) hmem (by simp[J0u,s1]) hown hnd
        (some b,base+lo*s,c) rfl (.vec (len+m) s (J5i (J0j lo f) len fy)) rfl rfl rfl (by simp) (fun n hn=>setRow_other w b n _ hn) (fun hE=>by
          refine⟨_,_,_,Sg.set_same _ _ _,hroom,.inr ⟨b,ty',_,rfl,s4,setRow_heap w b cur _ ty' _ s5,?_,?_⟩⟩
          . have:=J1i cur.toList us (base+lo*s+len*s) (by simp;omega);simp only[List.size_toArray,this,Array.length_toList];omega
          . intro i j hi hj;have g1:=J0P cur.toList us (base+lo*s+len*s) (by simp;omega) (base+lo*s+(i*s+j));rw[List.getElem?_toArray,g1];by_cases hil:i<len
            . have hlt:i*s+s<=len*s:=by rw[<- Nat.succ_mul];exact Nat.mul_le_mul_right _ hil
              rw[if_pos (by omega),J2a hil,J0w];obtain⟨x,x1,x0,x2⟩:=s7 (lo+i) j (by omega) hj;refine⟨x,?_,x0,x2.mono hE (Sg.le_refl _)⟩;rw[show base+lo*s+(i*s+j)=base+((lo+i)*s+j) by rw[Nat.add_mul];omega];simpa using x1
            . have hge:len*s<=i*s:=Nat.mul_le_mul_right _ (by omega);have hup:i*s+s<=len*s+m*s:=by rw[<- Nat.succ_mul,<- Nat.add_mul];exact Nat.mul_le_mul_right _ (by omega)
              rw[if_neg (by omega),if_pos (by omega),J2b hil];obtain⟨x,x1,x2⟩:=u4 (i-len) j (by omega) hj;refine⟨x,?_,u5 x (List.mem_of_getElem? x1),x2.mono hE (Sg.le_refl _)⟩;rw[show base+lo*s+(i*s+j)-(base+lo*s+len*s)=(i-len)*s+j by rw[Nat.sub_mul];omega];exact x1)
       refine⟨_,_,M,_,hrun,hk'.1,hk'.2,?_,hkd _ (J44 _ _ J3w)⟩;exact .vec _ _ _ _ _ _ _ _ c _ (Sg.set_same _ _ _) rfl hroom (fun _=>⟨b,rfl,by simp⟩)
   . obtain⟨us,u1,u2,u3,u4,u5⟩:=hsrc.firstCells (P:=P) (w':=w.drew) rfl;obtain⟨us',_,_,u3',_,_⟩:=hsrc.firstCells (P:=P) (w':=w) rfl;obtain⟨olds,o1,o2,o3,o4,o5⟩:=hsrcx.firstCells (P:=P) (w':=w.drew) rfl;have hrun:=J2G (P:=P) (ty:=ty) (w:=w) h0 h1 ht ht2 hi hzz hisz a len c m uy us olds u3' u2 o2 (by omega) (by rw[hiby];exact hm1) hm2;have hge:=grownCap_ge w (len+m) c e;obtain⟨M',σ',n1,n2,n3,n4⟩:=Q7n (w':=w.drew.alloc (.cells (olds.toArray++us.toArray++Builtin.zeroCells z.cells (grownCap w (len+m) c e-(len+m))) e)) hdrop.1 (len+m) s (grownCap w (len+m) c e)
      (J5i (J0j lo f) len fy) _ e (.inr rfl) hge
      (by simp only[Array.size_append,List.size_toArray,size_zeroCells,u1,o1,hzs];rw[<- Nat.add_mul,<- Nat.add_mul];exact Nat.mul_le_mul_right _ (by omega))
      (fun i j hi hj=>by
        by_cases hil:i<len
        . rw[J2a hil];obtain⟨x,x1,x2⟩:=o4 i j hil hj;refine⟨x,?_,o5 x (List.mem_of_getElem? x1),x2⟩;have hlt:i*s+j<olds.length:=(List.getElem?_eq_some_iff.1 x1).1;rw[Array.getElem?_append_left (by simp;omega),Array.getElem?_append_left (by simpa using hlt)];simpa using x1
        . rw[J2b hil];obtain⟨x,x1,x2⟩:=u4 (i-len) j (by omega) hj;refine⟨x,?_,u5 x (List.mem_of_getElem? x1),x2⟩;have hlt:(i-len)*s+j<us.length:=(List.getElem?_eq_some_iff.1 x1).1;have hge:len*s<=i*s:=Nat.mul_le_mul_right _ (by omega);have he:i*s+j=len*s+((i-len)*s+j):=by rw[Nat.sub_mul];omega
          rw[Array.getElem?_append_left (by simp;omega),Array.getElem?_append_right (by simp;omega)];simp only[List.size_toArray,o1];rw[show i*s+j-len*s=(i-len)*s+j by omega];simpa using x1)
     exact⟨_,_,M',σ',hrun,n1,hdrop.2.trans n2,n3 (len+m) hge,hkd _ n4⟩
end Go.Eng
namespace Go.Eng
def J06 (n:Nat):List Nat->Bool
 | []=>false
 | x::r=>match Nat.beq x n with|true=>true|false=>J06 n r
theorem J0m {n:Nat}:∀{l:List Nat},J06 n l=true↔n∈l
 | []=>by simp[J06]
 | x::r=>by
   unfold J06;split
   . rename_i h;have:=Nat.eq_of_beq_eq_true h;subst this;simp
   . rename_i h;have hne:x≠n:=fun e=>by subst e;simp at h
     rw[J0m,List.mem_cons];constructor
     . exact .inr
     . rintro (e|e)
       . exact(hne e.symm).elim
       . exact e
theorem Sg.none_le (σ:Sg):Sg.none.le σ:=fun _ _ h=>by cases h
def Q5V (own:Own) (v:V) (K:V->Prop):Prop :=
 match v with
 | .vec k s lo len=>match look own k with
   | some (.vec n s' f)=>match Nat.beq s s' with
     | true=>Len (lo+len) n (K (.fz len s false (J0j lo f)))
     | false=>False
   | _=>False
 | v=>match v.kf2 with
   | true=>K v
   | false=>False
def Q1L (own:Own):List V->(List V->Prop)->Prop
 | [],K=>K []
 | v::r,K=>Q5V own v fun v=>Q1L own r fun r=>K (v::r)
def tab (rows:List (List V)):Nat->Nat->V:=fun i j=>(rows.getD i []).getD j default
def J4D {α:Type} (s:Nat):Nat->List α->List (List α)
 | 0,_=>[]
 | n+1,l=>l.take s::J4D s n (l.drop s)
theorem Q1D {α:Type} (s:Nat):∀(n:Nat) (l:List α) (i:Nat),i<n->(J4D s n l)[i]?=some ((l.drop (i*s)).take s)
 | 0,l,i,h=>by omega
 | n+1,l,0,h=>by simp[J4D]
 | n+1,l,i+1,h=>by
   simp only[J4D,List.getElem?_cons_succ];rw[Q1D s n _ i (by omega),List.drop_drop,Nat.succ_mul,Nat.add_comm s]
theorem Q0s {s n:Nat} {l:List V} {i j:Nat} (hi:i<n) (hj:j<s) (h:i*s+j<l.length):tab (J4D s n l) i j=l[i*s+j]:=by
 simp only[tab,List.getD_eq_getElem?_getD,Q1D s n l i hi,Option.getD_some,List.getElem?_take,hj,if_true,List.getElem?_drop];simp[h]
def J3t (f:Nat->Nat->Nat->V) (i:Nat) (g:Nat->Nat->V):Nat->Nat->Nat->V:=fun j=>if j=i then g else f j
def X8C (own:Own) (s:Nat) (ln:Nat->Nat) (f:Nat->Nat->Nat->V):List (Nat×Nat)->((Nat->Nat->Nat->V)->Prop)->Prop
 | [],K=>K f
 | (i,q)::r,K=>match look own q with
   | some (.vec m s' g)=>match Nat.beq s s' with
     | true=>Len (ln i) m (X8C own s ln f r fun f'=>K (J3t f' i g))
     | false=>False
   | _=>False
theorem J8G {own:Own} {s:Nat} {ln:Nat->Nat} {f:Nat->Nat->Nat->V}:∀{op:List (Nat×Nat)} {K:(Nat->Nat->Nat->V)->Prop},X8C own s ln f op K ->
 ∃f',K f'/\∀i,(look op i=none->f' i=f i)/\∀q,look op i=some q->∃m,look own q=some (.vec m s (f' i))/\ln i<=m
 | [],K,h=>⟨f,h,fun i=>⟨fun _=>rfl,fun q e=>by simp[look] at e⟩⟩
 | (i0,q0)::r,K,h=>by
   unfold X8C at h;split at h
   . rename_i m s' g hl;split at h
     . rename_i e;have e:=Nat.eq_of_beq_eq_true e;subst e;obtain⟨hle,h⟩:=h;obtain⟨f',hK,hf⟩:=J8G h;refine⟨_,hK,fun i=>?_⟩;by_cases e:i0=i
       . subst e;rw[J0n rfl];exact⟨fun h=>(by cases h),fun q e=>(by cases e;exact⟨m,by simp[J3t,hl],hle⟩)⟩
       . rw[J0l e];have e':¬ i=i0:=fun h=>e h.symm;simp only[J3t,e',if_false];exact hf i
     . exact h.elim
   . exact h.elim
def Q9N (own:Own) (v:V) (K:V->Prop):Prop :=
 match v with
 | .vec k 1 0 len=>match look own k with
   | some (.cells cs)=>match Nat.beq len cs.length,J2O V.cellB cs with
     | true,true=>Q1L own cs fun cs'=>K (.fz len 1 false (tab (J4D 1 len cs')))
     | _,_=>False
   | some (.fam n s ln f op)=>Len len n (X8C own s ln f op fun f'=>K (.fz len 1 false fun i _=>.fz (ln i) s false (f' i)))
   | _=>Q5V own (.vec k 1 0 len) K
 | .vec k s 0 len=>match look own k with
   | some (.cells cs)=>match Nat.beq (len*s) cs.length,J2O V.cellB cs with
     | true,true=>Q1L own cs fun cs'=>K (.fz len s false (tab (J4D s len cs')))
     | _,_=>False
   | _=>Q5V own (.vec k s 0 len) K
 | v=>Q5V own v K
def X5w (own:Own):List V->(List V->Prop)->Prop
 | [],K=>K []
 | v::r,K=>Q9N own v fun v=>X5w own r fun r=>K (v::r)
def bor (own:Own) (v:V) (K:V->Prop):Prop :=
 match v with
 | .agg cs=>X5w own cs fun cs=>K (.agg cs)
 | .loc k 0=>match look own k with
   | some (.cells cs)=>match J2O V.cellB cs with
     | true=>X5w own cs fun cs'=>K (.fe 1 cs.length (tab [cs']) 0 0)
     | false=>False
   | _=>False
 | v=>Q9N own v K
def X15 (own:Own):List V->(List V->Prop)->Prop
 | [],K=>K []
 | v::r,K=>bor own v fun v=>X15 own r fun r=>K (v::r)
def J4H (M:Nat->Prop) (w:World) (σ:Sg) (own:Own):Nat->Prop:=fun b=>M b/\¬ J0v w σ own b
theorem J42 (M:Nat->Prop) (w:World) (σ:Sg) (own:Own):Ext M w (J4H M w σ own) w:=⟨fun _ _ hM=>⟨fun h=>hM h.1,rfl⟩,Nat.le_refl _⟩
theorem J4f {own:Own} {v:V} {K:V->Prop} (h:Q5V own v K):∃v',K v'/\∀M w σ u,J2r M w σ own->Den M w σ v u->Den (J4H M w σ own) w Sg.none v' u:=by
 unfold Q5V at h;split at h
 . rename_i k s lo len;split at h
   . rename_i n s' f hlook;split at h
     . rename_i e;have e:=Nat.eq_of_beq_eq_true e;subst e;obtain⟨hle,hK⟩:=h;refine⟨_,hK,fun M w σ u ho hd=>?_⟩;have hmem:=J0i hlook;obtain⟨bo,base,κ,s1,s2,s3⟩:=ho.blk k _ hmem;cases hd with
       | vec _ _ _ _ _ bo' base' κ' c a hk hc hl ha =>
         rw[s1] at hk;simp only[Option.some.injEq,Prod.mk.injEq] at hk;obtain⟨q1,q2,q3⟩:=hk;subst q1 q2 q3;rcases Nat.eq_zero_or_pos len with h0|h0
         . subst h0;exact .fz0 _ _ _ _ _ _ (by simp)
         . obtain⟨b,hb',ha'⟩:=ha (by omega);clear ha;subst hb' ha';rcases s3 with ⟨_,s3⟩ | ⟨b',ty,us,s3,s4,s5,s6,s7⟩
           . cases s3
           cases s3;have hlt:=lt_of_getElem? s5;have hx:∀i j,i<len->j<s->∃x,us[base+((lo+i)*s+j)]?=some x/\x.oneCell'=true/\Den M w Sg.none (f (lo+i) j) x:=fun i j hi hj=>s7 (lo+i) j (by omega) hj;let U:Nat->Nat->Value:=fun i j=>if h:i<len/\j<s then Classical.choose (hx i j h.1 h.2) else undef
           have hU:∀i j (hi:i<len) (hj:j<s),us[base+((lo+i)*s+j)]?=some (U i j)/\(U i j).oneCell'=true/\Den M w Sg.none (f (lo+i) j) (U i j):=fun i j hi hj=>by
            simp only[U,hi,hj,and_self,dite_true];exact Classical.choose_spec (hx i j hi hj)
           refine .fz _ _ _ _ _ _ _ _ U hl (by simp) (fun hM=>hM.2 ⟨k,_,hmem,.inl (by simp[J0u,s1])⟩) hlt ?_ (fun i j hi hj=>(hU i j hi hj).2.1) ?_
           . intro i j hi hj;rw[show base+lo*s+(i*s+j)=base+((lo+i)*s+j) by rw[Nat.add_mul];omega];simp[World.cell?,s5,(hU i j hi hj).1]
           . intro i j hi hj;rw[J0w];exact(hU i j hi hj).2.2.mono (J42 M w σ own) (Sg.le_refl _)
     . exact h.elim
   . exact h.elim
 . split at h
   . rename_i hkf;exact⟨v,h,fun M w σ u _ hd=>(hd.kf2 hkf Sg.none).mono (J42 M w σ own) (Sg.le_refl _)⟩
   . exact h.elim
theorem J4F {own:Own}:∀{vs:List V} {K:List V->Prop},Q1L own vs K->∃vs',K vs'/\vs'.length=vs.length/\∀M w σ,J2r M w σ own->∀(i:Nat) (v v':V) (u:Value),vs[i]?=some v->vs'[i]?=some v'->Den M w σ v u->Den (J4H M w σ own) w Sg.none v' u
 | [],K,h=>⟨[],h,rfl,fun _ _ _ _=>by simp⟩
 | v::r,K,h=>by
   obtain⟨v',h,hv⟩:=J4f h;obtain⟨r',hK,hl,hr⟩:=J4F h;refine⟨_,hK,by simp[hl],fun M w σ ho i x x' u hx hx' hd=>?_⟩;cases i with
   | zero=>simp at hx hx';subst hx hx';exact hv M w σ u ho hd
   | succ i=>exact hr M w σ ho i x x' u (by simpa using hx) (by simpa using hx') hd
theorem J8S {own:Own} {v:V} {K:V->Prop} (h:Q9N own v K):∃v',K v'/\∀M w σ u,J2r M w σ own->Den M w σ v u->Den (J4H M w σ own) w Sg.none v' u:=by
 unfold Q9N at h;split at h
 . rename_i k len;split at h
   . rename_i cs hlook;split at h
     . rename_i hlen hcb;have hlen:=Nat.eq_of_beq_eq_true hlen;obtain⟨cs',hK,hl,hr⟩:=J4F h;refine⟨_,hK,fun M w σ u ho hd=>?_⟩;have hmem:=J0i hlook;obtain⟨b,κ,ty,us,s1,s2,s3,s4,s5⟩:=ho.blk k _ hmem;cases hd with
       | vec _ _ _ _ _ bo base κ' c a hk hc hlc ha =>
         rw[s1] at hk;simp only[Option.some.injEq,Prod.mk.injEq] at hk;obtain⟨q1,q2,q3⟩:=hk;subst q1 q2 q3;rcases Nat.eq_zero_or_pos len with h0|h0
         . subst h0;exact .fz0 _ _ _ _ _ _ (by simp)
         . obtain⟨b',hb',ha'⟩:=ha (by omega);cases hb';subst ha';have hU:∀i,i<len->∃x v,us[i]?=some x/\cs[i]?=some v/\x.oneCell'=true/\Den M w σ v x:=fun i hi=>by
            have h1:i<us.size:=by omega
            have h2:i<cs.length:=by omega
            have hdd:=s5 i cs[i] us[i] (by simp[h2]) (by simp[h1]);exact⟨us[i],cs[i],by simp[h1],by simp[h2],hdd.oneCell (J0t hcb _ (List.getElem_mem h2)),hdd⟩
           refine .fz _ _ _ _ _ _ _ _ (fun i _=>us.getD i undef) hlc (by simp) (fun hM=>hM.2 ⟨k,_,hmem,.inl (by simp[J0u,s1])⟩) (lt_of_getElem? s3) ?_ ?_ ?_
           . intro i j hi hj;obtain⟨x,v,a1,_⟩:=hU i hi;have hj0:j=0:=by omega
             subst hj0;simp[World.cell?,s3,Array.getD_eq_getD_getElem?,a1]
           . intro i j hi hj;obtain⟨x,v,a1,_,a3,_⟩:=hU i hi;simpa[Array.getD_eq_getD_getElem?,a1] using a3
           . intro i j hi hj;obtain⟨x,v,a1,a2,_,a4⟩:=hU i hi;have h2:i<cs'.length:=by omega
             have:=hr M w σ ho i v cs'[i] x a2 (by simp[h2]) a4;have hj0:j=0:=by omega
             subst hj0;have e1:tab (J4D 1 len cs') i 0=cs'[i]:=by rw[Q0s hi (by omega) (by omega)];simp
             rw[e1];simpa[Array.getD_eq_getD_getElem?,a1] using this
     . exact h.elim
   . rename_i n s ln f op hlook;obtain⟨hle,h⟩:=h;obtain⟨f',hK,hf⟩:=J8G h;refine⟨_,hK,fun M w σ u ho hd=>?_⟩;have hmem:=J0i hlook;obtain⟨bo,base,κ,s1,s2,s3⟩:=ho.blk k _ hmem;cases hd with
     | vec _ _ _ _ _ bo' base' κ' c a hk hc hl ha =>
       rw[s1] at hk;simp only[Option.some.injEq,Prod.mk.injEq] at hk;obtain⟨q1,q2,q3⟩:=hk;subst q1 q2 q3;rcases Nat.eq_zero_or_pos len with h0|h0
       . subst h0;exact .fz0 _ _ _ _ _ _ (by simp)
       . obtain⟨b,hb',ha'⟩:=ha (by omega);clear ha;subst hb' ha';rcases s3 with ⟨_,s3⟩ | ⟨b',ty,us,s3,s4,s5,s6,s7,s8,s9⟩
         . cases s3
         cases s3;have hx:∀i,i<len->∃x,us[base+i]?=some x/\x.oneCell'=true/\Den (J4H M w σ own) w Sg.none (.fz (ln i) s false (f' i)) x:=fun i hi=>by
          obtain⟨u,u1,a,c',u2,u3,u4,u5⟩:=s7 i (by omega);subst u2;refine⟨_,u1,rfl,?_⟩;rcases Nat.eq_zero_or_pos (ln i) with z|z
          . rw[z];exact .fz0 _ _ _ _ _ _ (by simp)
          . have key:∃r off ty2 us2,a=some ⟨r,off,none⟩/\¬ J4H M w σ own r/\w.heap[r]?=some (.cells us2 ty2 (0,0))/\∀j t,j<ln i->t<s->∃x,us2[off+(j*s+t)]?=some x/\x.oneCell'=true/\Den M w Sg.none (f' i j t) x:=by
             cases hop:look op i with
             | none =>
               obtain⟨r,off,ty2,us2,p1,p2,p3,p4,p5⟩:=u5 hop (by omega);rw[(hf i).1 hop];subst p1;exact⟨r,off,ty2,us2,rfl,fun hM=>hM.2 ⟨k,_,hmem,.inr ⟨b,base,κ,us,ty,i,s1,s5,by omega,hop,off,_,c',u1,by omega⟩⟩,p3,p5⟩
             | some q =>
               obtain⟨m,hlq,hlm⟩:=(hf i).2 q hop;have hd:=u4 q hop;obtain⟨bq,baseq,κq,q1,q2,q3⟩:=ho.blk q _ (J0i hlq);cases hd with
               | vec _ _ _ _ _ bo2 base2 κ2 c2 a2 k2 kc kl ka =>
                 rw[q1] at k2;simp only[Option.some.injEq,Prod.mk.injEq] at k2;obtain⟨rfl,rfl,rfl⟩:=k2;obtain⟨b2,rfl,rfl⟩:=ka (by omega);rcases q3 with ⟨z',_⟩ | ⟨b',ty2,us2,e1,e2,e3,e4,e5⟩
                 . omega
                 . cases e1;exact⟨b2,_,ty2,us2,rfl,fun hM=>hM.2 ⟨q,_,J0i hlq,.inl (by simp[J0u,q1])⟩,e3,fun j t hj ht=>by simpa using e5 j t (by omega) ht⟩
            obtain⟨r,off,ty2,us2,p1,p2,p3,p5⟩:=key;subst p1;let U:Nat->Nat->Value:=fun j t=>if h:j<ln i/\t<s then Classical.choose (p5 j t h.1 h.2) else undef
            have hU:∀j t (hj:j<ln i) (ht:t<s),us2[off+(j*s+t)]?=some (U j t)/\(U j t).oneCell'=true/\Den M w Sg.none (f' i j t) (U j t):=fun j t hj ht=>by
             simp only[U,hj,ht,and_self,dite_true];exact Classical.choose_spec (p5 j t hj ht)
            refine .fz _ _ _ _ _ _ _ _ U u3 (by simp) p2 (lt_of_getElem? p3) ?_ (fun j t hj ht=>(hU j t hj ht).2.1) ?_
            . intro j t hj ht;simp[World.cell?,p3,(hU j t hj ht).1]
            . intro j t hj ht;exact(hU j t hj ht).2.2.mono (J42 M w σ own) (Sg.le_refl _)
         let U:Nat->Value:=fun i=>if h:i<len then Classical.choose (hx i h) else undef
         have hU:∀i (hi:i<len),us[base+i]?=some (U i)/\(U i).oneCell'=true/\Den (J4H M w σ own) w Sg.none (.fz (ln i) s false (f' i)) (U i):=fun i hi=>by
          simp only[U,hi,dite_true];exact Classical.choose_spec (hx i hi)
         refine .fz _ _ _ _ _ _ _ _ (fun i _=>U i) hl (by simp) (fun hM=>hM.2 ⟨k,_,hmem,.inl (by simp[J0u,s1])⟩) (lt_of_getElem? s5) ?_ (fun i j hi hj=>(hU i hi).2.1) (fun i j hi hj=>(hU i hi).2.2);intro i j hi hj;obtain rfl:j=0:=by omega
         rw[show base+0*1+(i*1+0)=base+i by omega];simp[World.cell?,s5,(hU i hi).1]
   . exact J4f h
 . rename_i k s len _;split at h
   . rename_i cs hlook;split at h
     . rename_i hlen hcb;have hlen:=Nat.eq_of_beq_eq_true hlen;obtain⟨cs',hK,hl,hr⟩:=J4F h;refine⟨_,hK,fun M w σ u ho hd=>?_⟩;have hmem:=J0i hlook;obtain⟨b,κ,ty,us,s1,s2,s3,s4,s5⟩:=ho.blk k _ hmem;cases hd with
       | vec _ _ _ _ _ bo base κ' c a hk hc hlc ha =>
         rw[s1] at hk;simp only[Option.some.injEq,Prod.mk.injEq] at hk;obtain⟨q1,q2,q3⟩:=hk;subst q1 q2 q3;rcases Nat.eq_zero_or_pos len with h0|h0
         . subst h0;exact .fz0 _ _ _ _ _ _ (by simp)
         . obtain⟨b',hb',ha'⟩:=ha (by omega);cases hb';subst ha';have hin:∀i j,i<len->j<s->i*s+j<cs.length:=fun i j hi hj=>by
            have:i*s+s<=len*s:=by rw[<- Nat.succ_mul];exact Nat.mul_le_mul_right _ hi
            omega
           have hU:∀i,i<cs.length->∃x v,us[i]?=some x/\cs[i]?=some v/\x.oneCell'=true/\Den M w σ v x:=fun i hi=>by
            have h1:i<us.size:=by omega
            have hdd:=s5 i cs[i] us[i] (by simp[hi]) (by simp[h1]);exact⟨us[i],cs[i],by simp[h1],by simp[hi],hdd.oneCell (J0t hcb _ (List.getElem_mem hi)),hdd⟩
           refine .fz _ _ _ _ _ _ _ _ (fun i j=>us.getD (i*s+j) undef) hlc (by simp) (fun hM=>hM.2 ⟨k,_,hmem,.inl (by simp[J0u,s1])⟩) (lt_of_getElem? s3) ?_ ?_ ?_
           . intro i j hi hj;obtain⟨x,v,a1,_⟩:=hU _ (hin i j hi hj);simp[World.cell?,s3,Array.getD_eq_getD_getElem?,a1]
           . intro i j hi hj;obtain⟨x,v,a1,_,a3,_⟩:=hU _ (hin i j hi hj);simpa[Array.getD_eq_getD_getElem?,a1] using a3
           . intro i j hi hj;obtain⟨x,v,a1,a2,_,a4⟩:=hU _ (hin i j hi hj);have h2:i*s+j<cs'.length:=by rw[hl];exact hin i j hi hj
             have:=hr M w σ ho _ v cs'[i*s+j] x a2 (by simp[h2]) a4;have e1:tab (J4D s len cs') i j=cs'[i*s+j]:=Q0s hi hj h2;rw[e1];simpa[Array.getD_eq_getD_getElem?,a1] using this
     . exact h.elim
   . exact J4f h
 . exact J4f h
theorem J5E {own:Own}:∀{vs:List V} {K:List V->Prop},X5w own vs K->∃vs',K vs'/\vs'.length=vs.length/\∀M w σ,J2r M w σ own->∀(i:Nat) (v v':V) (u:Value),vs[i]?=some v->vs'[i]?=some v'->Den M w σ v u->Den (J4H M w σ own) w Sg.none v' u
 | [],K,h=>⟨[],h,rfl,fun _ _ _ _=>by simp⟩
 | v::r,K,h=>by
   obtain⟨v',h,hv⟩:=J8S h;obtain⟨r',hK,hl,hr⟩:=J5E h;refine⟨_,hK,by simp[hl],fun M w σ ho i x x' u hx hx' hd=>?_⟩;cases i with
   | zero=>simp at hx hx';subst hx hx';exact hv M w σ u ho hd
   | succ i=>exact hr M w σ ho i x x' u (by simpa using hx) (by simpa using hx') hd
theorem J7M {own:Own} {v:V} {K:V->Prop} (h:bor own v K):∃v',K v'/\∀M w σ u,J2r M w σ own->Den M w σ v u->Den (J4H M w σ own) w Sg.none v' u:=by
 unfold bor at h;split at h
 . rename_i cs;obtain⟨cs',hK,hl,hr⟩:=J5E h;refine⟨_,hK,fun M w σ u ho hd=>?_⟩;obtain⟨us,rfl,l1,l2⟩:=hd.agg_inv;refine .agg _ _ _ (by omega) fun i v' u' hv' hu'=>?_;have hi:i<cs.length:=by rw[<- hl];exact(List.getElem?_eq_some_iff.1 hv').1
   exact hr M w σ ho i cs[i] v' u' (by simp[hi]) hv' (l2 i cs[i] u' (by simp[hi]) hu')
 . rename_i k;split at h
   . rename_i cs hlook;split at h
     . rename_i hcb;obtain⟨cs',hK,hl,hr⟩:=J5E h;refine⟨_,hK,fun M w σ u ho hd=>?_⟩;have hmem:=J0i hlook;obtain⟨b,κ,ty,us,s1,s2,s3,s4,s5⟩:=ho.blk k _ hmem;cases hd with
       | loc _ _ _ b' base κ' hk =>
         rw[s1] at hk;simp only[Option.some.injEq,Prod.mk.injEq] at hk;obtain⟨q1,q2,q3⟩:=hk;subst q1 q2 q3;have hU:∀i,i<cs.length->∃x v,us[i]?=some x/\cs[i]?=some v/\x.oneCell'=true/\Den M w σ v x:=fun i hi=>by
          have h1:i<us.size:=by omega
          have hdd:=s5 i cs[i] us[i] (by simp[hi]) (by simp[h1]);exact⟨us[i],cs[i],by simp[h1],by simp[hi],hdd.oneCell (J0t hcb _ (List.getElem_mem hi)),hdd⟩
         have hfe:Den (J4H M w σ own) w Sg.none (.fe 1 cs.length (tab [cs']) 0 0) (.pointer (some ⟨b,0+(0*cs.length+0),none⟩)):=by
          refine .fe _ _ _ _ _ _ _ _ (fun _ j=>us.getD j undef) (by omega) (fun hM=>hM.2 ⟨k,_,hmem,.inl (by simp[J0u,s1])⟩) (lt_of_getElem? s3) ?_ ?_ ?_
          . intro i j hi hj;obtain⟨x,v,a1,_⟩:=hU j hj;have hi0:i=0:=by omega
            subst hi0;simp[World.cell?,s3,Array.getD_eq_getD_getElem?,a1]
          . intro i j hi hj;obtain⟨x,v,a1,_,a3,_⟩:=hU j hj;simpa[Array.getD_eq_getD_getElem?,a1] using a3
          . intro i j hi hj;obtain⟨x,v,a1,a2,_,a4⟩:=hU j hj;have h2:j<cs'.length:=by rw[hl];exact hj
            have:=hr M w σ ho j v cs'[j] x a2 (by simp[h2]) a4;have hi0:i=0:=by omega
            subst hi0;have e1:tab [cs'] 0 j=cs'[j]:=by simp[tab,h2]
            rw[e1];simpa[Array.getD_eq_getD_getElem?,a1] using this
         simpa using hfe
     . exact h.elim
   . exact h.elim
 . exact J8S h
theorem J3n {own:Own}:∀{vs:List V} {K:List V->Prop},X15 own vs K->∃vs',K vs'/\vs'.length=vs.length/\∀M w σ,J2r M w σ own->∀(i:Nat) (v v':V) (u:Value),vs[i]?=some v->vs'[i]?=some v'->Den M w σ v u->Den (J4H M w σ own) w Sg.none v' u
 | [],K,h=>⟨[],h,rfl,fun _ _ _ _=>by simp⟩
 | v::r,K,h=>by
   obtain⟨v',h,hv⟩:=J7M h;obtain⟨r',hK,hl,hr⟩:=J3n h;refine⟨_,hK,by simp[hl],fun M w σ ho i x x' u hx hx' hd=>?_⟩;cases i with
   | zero=>simp at hx hx';subst hx hx';exact hv M w σ u ho hd
   | succ i=>exact hr M w σ ho i x x' u (by simpa using hx) (by simpa using hx') hd
def J1Y (ks:List Nat):Own->Own
 | []=>[]
 | (k,b)::r=>match J06 k ks with|true=>J1Y ks r|false=>(k,b)::J1Y ks r
def J18 (ks:List Nat):Own->Own
 | []=>[]
 | (k,b)::r=>match J06 k ks with|true=>(k,b)::J18 ks r|false=>J18 ks r
theorem J0I {ks:List Nat}:∀{own:Own} {k:Nat} {b:Blk},(k,b)∈J1Y ks own↔(k,b)∈own/\k∉ks
 | [],k,b=>by simp[J1Y]
 | (q,c)::r,k,b=>by
   unfold J1Y;split
   . rename_i h;have:=J0m.1 h;rw[J0I];simp only[List.mem_cons,Prod.mk.injEq];constructor
     . rintro⟨a,b⟩;exact⟨.inr a,b⟩
     . rintro⟨⟨rfl,_⟩|a,b⟩
       . exact(b this).elim
       . exact⟨a,b⟩
   . rename_i h;have:q∉ks:=fun e=>by rw[J0m.2 e] at h;cases h
     simp only[List.mem_cons,Prod.mk.injEq,J0I];constructor
     . rintro (⟨rfl,rfl⟩ | ⟨a,b⟩)
       . exact⟨.inl ⟨rfl,rfl⟩,this⟩
       . exact⟨.inr a,b⟩
     . rintro⟨⟨rfl,rfl⟩|a,b⟩
       . exact .inl ⟨rfl,rfl⟩
       . exact .inr ⟨a,b⟩
theorem J02 {ks:List Nat}:∀{own:Own} {k:Nat} {b:Blk},(k,b)∈J18 ks own↔(k,b)∈own/\k∈ks
 | [],k,b=>by simp[J18]
 | (q,c)::r,k,b=>by
   unfold J18;split
   . rename_i h;have:=J0m.1 h;simp only[List.mem_cons,Prod.mk.injEq,J02];constructor
     . rintro (⟨rfl,rfl⟩ | ⟨a,b⟩)
       . exact⟨.inl ⟨rfl,rfl⟩,this⟩
       . exact⟨.inr a,b⟩
     . rintro⟨⟨rfl,rfl⟩|a,b⟩
       . exact .inl ⟨rfl,rfl⟩
       . exact .inr ⟨a,b⟩
   . rename_i h;have:q∉ks:=fun e=>by rw[J0m.2 e] at h;cases h
     rw[J02];simp only[List.mem_cons,Prod.mk.injEq];constructor
     . rintro⟨a,b⟩;exact⟨.inr a,b⟩
     . rintro⟨⟨rfl,_⟩|a,b⟩
       . exact(this b).elim
       . exact⟨a,b⟩
theorem J2K {ks:List Nat}:∀{own:Own},(own.map (·.1)).Nodup->((J1Y ks own).map (·.1)).Nodup
 | [],h=>by simp[J1Y]
 | (q,c)::r,h=>by
   simp only[List.map_cons,List.nodup_cons] at h;unfold J1Y;split
   . exact J2K h.2
   . simp only[List.map_cons,List.nodup_cons];refine⟨fun hm=>?_,J2K h.2⟩;obtain⟨⟨k,b⟩,h1,h2⟩:=List.mem_map.1 hm;simp only at h2;subst h2;exact h.1 (List.mem_map.2 ⟨_,(J0I.1 h1).1,rfl⟩)
theorem J6n {M:Nat->Prop} {w:World} {σ:Sg} {own:Own} {ks:List Nat} (hh:J0S M w σ own ks) (keys:List Nat):J2r M w σ (J18 keys own):=by
 refine⟨fun k b hm=>hh.own.blk k b (J02.1 hm).1,?_,fun k b k' b' n h1 h2=>hh.own.apart k b k' b' n (J02.1 h1).1 (J02.1 h2).1⟩;have:∀(m:Own),(m.map (·.1)).Nodup->((J18 keys m).map (·.1)).Nodup:=by
  intro m
  induction m with
  | nil=>intro _;simp[J18]
  | cons p m ih =>
    intro hn;obtain⟨q,c⟩:=p;simp only[List.map_cons,List.nodup_cons] at hn;unfold J18;split
    . simp only[List.map_cons,List.nodup_cons];refine⟨fun hm=>?_,ih hn.2⟩;obtain⟨⟨k,b⟩,h1,h2⟩:=List.mem_map.1 hm;simp only at h2;subst h2;exact hn.1 (List.mem_map.2 ⟨_,(J02.1 h1).1,rfl⟩)
    . exact ih hn.2
 exact this own hh.own.nodup
theorem J5A {M:Nat->Prop} {w:World} {σ:Sg} {own:Own} {ks:List Nat} (hh:J0S M w σ own ks) (keys:List Nat) :
 J0S (J4H M w σ (J18 keys own)) w σ (J1Y keys own) ks/\∀b,¬ J0v w σ own b->(J4H M w σ (J18 keys own) b↔M b):=by
 have hE:=J42 M w σ (J18 keys own);refine⟨⟨⟨fun k b hm=>?_,J2K hh.own.nodup,fun k b k' b' n h1 h2=>hh.own.apart k b k' b' n (J0I.1 h1).1 (J0I.1 h2).1⟩,hh.fresh,hh.knodup⟩,fun b hb=>⟨fun h=>h.1,fun h=>⟨h,?_⟩⟩⟩
 . obtain⟨hm1,hm2⟩:=J0I.1 hm;refine(hh.own.blk k b hm1).mono hE (Sg.le_refl _) fun n hn=>⟨⟨(J0s hh.own ⟨k,b,hm1,hn⟩).1,?_⟩,rfl⟩;rintro⟨k',b',h1,h2⟩;obtain⟨h3,h4⟩:=J02.1 h1;have hne:k≠k':=fun e=>hm2 (e▸h4);exact hh.own.apart k b k' b' n hm1 h3 hne hn h2
 . rintro⟨k',b',h1,h2⟩;exact hb ⟨k',b',(J02.1 h1).1,h2⟩
def V.key1:V->List Nat
 | .vec k _ _ _=>[k]
 | _=>[]
def Q5s:List V->List Nat
 | []=>[]
 | v::r=>v.key1++Q5s r
def J5z (own:Own) (v:V):List Nat :=
 match v with
 | .vec k _ _ _=>match look own k with
   | some (.cells cs)=>k::Q5s cs
   | _=>[k]
 | .agg cs=>Q5s cs
 | _=>[]
def X2Z (own:Own) (v:V) (K:V->Own->Prop):Prop:=bor (J18 (J5z own v) own) v fun v'=>K v' (J1Y (J5z own v) own)
theorem J4c {own:Own} {v:V} {K:V->Own->Prop} (h:X2Z own v K):∃v' own',K v' own'/\(∀k,k∈own'.map (·.1)->k∈own.map (·.1)) /\
 ∀M w σ ks u,J0S M w σ own ks->Den M w σ v u->∃M',J0S M' w σ own' ks/\Tr M w σ own M' w σ own'/\Den M' w σ v' u/\Ext M w M' w:=by
 obtain⟨v',hK,hb⟩:=J7M h;refine⟨v',_,hK,fun k hk=>?_,fun M w σ ks u hh hd=>?_⟩
 . obtain⟨⟨q,c⟩,h1,h2⟩:=List.mem_map.1 hk;exact List.mem_map.2 ⟨_,(J0I.1 h1).1,h2⟩
 . obtain⟨f1,f2⟩:=J5A hh (J5z own v);refine⟨_,f1,⟨⟨rfl,rfl,rfl,Nat.le_refl _,fun _ _ _=>rfl,fun b _ hn=>f2 b hn⟩,fun b ⟨k,c,h1,h2⟩=>.inl ⟨k,c,(J0I.1 h1).1,h2⟩,Sg.le_refl _⟩,?_,J42 _ _ _ _⟩;exact(hb M w σ u (J6n hh _) hd).mono ⟨fun _ _ h=>⟨h,rfl⟩,Nat.le_refl _⟩ (Sg.none_le σ)
def Q2b (own:Own) (ks:List Nat) (s bytes:Nat) (x y:V) (K:V->Own->List Nat->Prop):Prop :=
 match y with
 | .vec k s' lo len=>match look own k with
   | some (.cells _)=>X2Z own (.vec k s' lo len) fun y' own'=>X2p own' ks s bytes x y' K
   | _=>X2p own ks s bytes x (.vec k s' lo len) K
 | y=>X2p own ks s bytes x y K
theorem Q2a {own:Own} {ks:List Nat} {s bytes:Nat} {x y:V} {K:V->Own->List Nat->Prop} (h:Q2b own ks s bytes x y K) :
 ∃y' own',X2p own' ks s bytes x y' K/\(∀k,k∈own'.map (·.1)->k∈own.map (·.1))/\∀M w σ u,J0S M w σ own ks->Den M w σ y u->∃M',J0S M' w σ own' ks/\Tr M w σ own M' w σ own'/\Den M' w σ y' u/\Ext M w M' w:=by
 have triv:∀{z:V},X2p own ks s bytes x z K->∃y' own',X2p own' ks s bytes x y' K/\(∀k,k∈own'.map (·.1)->k∈own.map (·.1))/\∀M w σ u,J0S M w σ own ks->Den M w σ z u->∃M',J0S M' w σ own' ks/\Tr M w σ own M' w σ own'/\Den M' w σ y' u/\Ext M w M' w :=
  fun {z} h=>⟨z,own,h,fun _ h=>h,fun M w σ u hh hd=>⟨M,hh,Tr.refl _ _ _ _,hd,⟨fun _ _ h=>⟨h,rfl⟩,Nat.le_refl _⟩⟩⟩
 unfold Q2b at h;split at h
 . split at h
   . obtain⟨y',own',a,b,c⟩:=J4c h;exact⟨y',own',a,b,fun M w σ u=>c M w σ ks u⟩
   . exact triv h
 . exact triv h
def V.keyed:V->Bool
 | .vec _ _ _ _=>true
 | .agg cs=>match Q5s cs with|[]=>false|_::_=>true
 | _=>false
def J3I (own:Own) (sz:Nat) (p v:V) (K:Own->Prop):Prop :=
 match p with
 | .oel k s i j=>match look own k with
   | some (.vec _ _ _)=>match v.keyed with
     | true=>X2Z own v fun v' own'=>J28 own' sz (.oel k s i j) v' K
     | false=>J28 own sz (.oel k s i j) v K
   | _=>J28 own sz (.oel k s i j) v K
 | p=>J28 own sz p v K
theorem J83 {own:Own} {sz:Nat} {p v:V} {K:Own->Prop} (h:J3I own sz p v K) :
 ∃v' own',J28 own' sz p v' K/\(∀k,k∈own'.map (·.1)->k∈own.map (·.1))/\∀M w σ ks u,J0S M w σ own ks->Den M w σ v u->∃M',J0S M' w σ own' ks/\Tr M w σ own M' w σ own'/\Den M' w σ v' u/\Ext M w M' w:=by
 have triv:J28 own sz p v K->∃v' own',J28 own' sz p v' K/\(∀k,k∈own'.map (·.1)->k∈own.map (·.1))/\∀M w σ ks u,J0S M w σ own ks->Den M w σ v u->∃M',J0S M' w σ own' ks/\Tr M w σ own M' w σ own'/\Den M' w σ v' u/\Ext M w M' w :=
  fun h=>⟨v,own,h,fun _ h=>h,fun M w σ ks u hh hd=>⟨M,hh,Tr.refl _ _ _ _,hd,⟨fun _ _ h=>⟨h,rfl⟩,Nat.le_refl _⟩⟩⟩
 unfold J3I at h;split at h
 . split at h
   . split at h
     . exact J4c h
     . exact triv h
   . exact triv h
 . exact triv h
end Go.Eng
namespace Go.Eng
theorem Q8v (l:List Value):∀(k:Nat) (cells:Array Value) (off:Nat),off+k+l.length<=cells.size ->
 (l.zipIdx k).foldl (fun cs (p:Value×Nat)=>cs.setIfInBounds (off+p.2) p.1) cells=(cells.toList.take (off+k)++l++cells.toList.drop (off+k+l.length)).toArray:=by
 induction l with
 | nil =>
   intro k cells off h;apply Array.ext';simp
 | cons x l ih =>
   intro k cells off h;simp only[List.length_cons] at h;rw[List.zipIdx_cons,List.foldl_cons,ih (k+1) _ off (by simp;omega)];apply Array.ext';simp only[Array.toList_setIfInBounds];have hlen:off+k<cells.toList.length:=by simp;omega
   apply List.ext_getElem?;intro i;have g1:=J0P (cells.toList.set (off+k) x) l (off+(k+1)) (by simp;omega) i;have g2:=J0P cells.toList (x::l) (off+k) (by simp;omega) i;rw[g1,g2];simp only[List.length_cons,List.getElem?_set];by_cases h1:i<off+k
   . rw[if_pos (by omega),if_pos h1,if_neg (by omega)]
   . by_cases h2:i=off+k
     . subst h2;rw[if_pos (by omega),if_pos rfl,if_pos hlen,if_neg (by omega),if_pos (by omega)];simp
     . rw[if_neg (by omega),if_neg h1];by_cases h3:i<off+(k+1)+l.length
       . rw[if_pos h3,if_pos (by omega)];rw[show i-(off+k)=(i-(off+(k+1)))+1 by omega];simp
       . rw[if_neg h3,if_neg (by omega),if_neg (by omega)]
theorem Q1r {place:Nat->Option (Nat×Nat)} {cells:Array Value} {i off size:Nat} {v:Value} {rest:List (Nat×Value)} (hp:place i=some (off,size)) (hs:v.cells.size=size) (hfit:off+size<=cells.size) :
 Instr.fill place cells ((i,v)::rest)=Instr.fill place (cells.toList.take off++v.cells.toList++cells.toList.drop (off+size)).toArray rest:=by
 have hf:=Q8v v.cells.toList 0 cells off (by simp;omega);simp only[Nat.add_zero,Array.length_toList,hs] at hf;have he:v.cells.zipIdx.foldl (fun cs (p:Value×Nat)=>cs.setIfInBounds (off+p.2) p.1) cells=(cells.toList.take off++v.cells.toList++cells.toList.drop (off+size)).toArray:=by
  rw[<- hf,<- Array.foldl_toList];simp
 have hb:(decide (v.cells.size≠size) || decide (off+v.cells.size > cells.size))=false:=by simp[hs];omega
 simp only[Instr.fill,hp,hb,Bool.false_eq_true,if_false];exact congrArg (fun c=>Instr.fill place c rest) he
def Q2G (env:Env):List (Nat×Nat×X)->List V->(List V->Prop)->Prop
 | [],zs,K=>K zs
 | (off,size,x)::r,zs,K=>x.get env fun v=>v.cellsK fun vs=>match Nat.beq vs.length size,Nat.ble (off+size) zs.length,J2O V.cellB vs with
   | true,true,true=>X5T zs off vs fun zs=>Q2G env r zs K
   | _,_,_=>False
def J8R (place:Nat->Option (Nat×Nat)):List (Nat×Operand)->Option (List (Nat×Nat×X))
 | []=>some []
 | (i,o)::r=>match place i,cX o,J8R place r with
   | some (off,size),some x,some l=>some ((off,size,x)::l)
   | _,_,_=>none
theorem J7u (env:Env) (place:Nat->Option (Nat×Nat)):∀(ps:List (Nat×Operand)) (l:List (Nat×Nat×X)) (zs:List V) (K:List V->Prop),J8R place ps=some l->Q2G env l zs K ->
 ∃r,K r/\r.length=zs.length/\((∀z∈zs,z.cellB=true)->∀z∈r,z.cellB=true) /\
 ∀M w σ (a:Act) (us:List Value),(∀x,x∈l.map (·.2.2)->XOk M w σ env a x)->zs.length=us.length->(∀(i:Nat) (v:V) (u:Value),zs[i]?=some v->us[i]?=some u->Den M w σ v u) ->
  ∃us':List Value,Instr.fill place us.toArray (ps.map fun p=>(p.1,a.eval p.2))=some us'.toArray/\us'.length=us.length /\
   (∀(i:Nat) (v:V) (u:Value),r[i]?=some v->us'[i]?=some u->Den M w σ v u)
 | [],l,zs,K,hc,h=>by
   simp[J8R] at hc;subst hc;exact⟨zs,h,rfl,fun h=>h,fun M w σ a us _ hl hd=>⟨us,rfl,rfl,hd⟩⟩
 | (i,o)::ps,l,zs,K,hc,h=>by
   unfold J8R at hc;split at hc<;>simp only[Option.some.injEq,reduceCtorEq] at hc;rename_i off size x l' h1 h2 h3;subst hc;obtain⟨v,h,hv⟩:=J0h h2 h;obtain⟨vs,h,hvs⟩:=J1M h;split at h
   . rename_i e1 e2 e3;have e1:=Nat.eq_of_beq_eq_true e1;have e2:=Nat.le_of_ble_eq_true e2;obtain⟨zs',h,s1,s2,s3⟩:=J32 _ _ _ _ h;obtain⟨r,hK,r1,r2,r3⟩:=J7u env place ps l' zs' K h3 h;refine⟨r,hK,by omega,?_,?_⟩
     . intro hz;apply r2;intro z hzm;rw[s3] at hzm;rcases List.mem_append.1 hzm with hm|hm
       . rcases List.mem_append.1 hm with hm|hm
         . exact hz z (List.mem_of_mem_take hm)
         . exact J0t e3 z hm
       . exact hz z (List.mem_of_mem_drop hm)
     . intro M w σ a us hx hl hd;obtain⟨l1,l2⟩:=hvs M w σ _ (hv M w σ a (hx x (by simp)));have hsz:(a.eval o).cells.size=size:=by omega
       have lenu:(a.eval o).cells.toList.length=size:=by simpa using hsz
       have hsp:=J1i us (a.eval o).cells.toList off (by omega);rw[lenu] at hsp;obtain⟨us',f1,f2,f3⟩:=r3 M w σ a (us.take off++(a.eval o).cells.toList++us.drop (off+size)) (fun y hy=>hx y (by simp only[List.map_cons,List.mem_cons];exact .inr hy)) (by omega) (by
        intro j v' u' hv' hu';have g1:=J0P us (a.eval o).cells.toList off (by omega) j;rw[lenu] at g1;have g2:=J0P zs vs off (by omega) j;rw[<- s3,e1] at g2;rw[g1] at hu';rw[g2] at hv';split at hv'
        . rename_i c1;rw[if_pos c1] at hu';exact hd j v' u' hv' hu'
        . rename_i c1;rw[if_neg c1] at hu';split at hv'
          . rename_i c2;rw[if_pos c2] at hu';exact l2 _ v' u' hv' (by simpa using hu')
          . rename_i c2;rw[if_neg c2] at hu';exact hd j v' u' hv' hu')
       refine⟨us',?_,by omega,f3⟩;rw[List.map_cons,Q1r h1 hsz (by simp;omega)];exact f1
   . exact h.elim
def Q5z (s:Nat):List V->(List V->Prop)->Prop
 | [],K=>K []
 | v::r,K=>v.cellsK fun vs=>match Nat.beq vs.length s,J2O V.cellB vs with
   | true,true=>Q5z s r fun cs=>K (vs++cs)
   | _,_=>False
theorem J7r (s:Nat):∀(l:List V) (K:List V->Prop),Q5z s l K->∃cs,K cs/\cs.length=l.length*s /\
 ∀M w σ (us:List Value),l.length=us.length->(∀(i:Nat) (v:V) (u:Value),l[i]?=some v->us[i]?=some u->Den M w σ v u) ->
  (∀u∈us,u.cells.size=s)/\∀i u,us[i]?=some u->∀j,j<s->∃x v,u.cells[j]?=some x/\x.oneCell'=true/\cs[i*s+j]?=some v/\Den M w σ v x
 | [],K,h=>⟨[],h,by simp,fun M w σ us hl _=>by
    have:us=[]:=List.eq_nil_of_length_eq_zero (by simpa using hl.symm);subst this;simp⟩
 | v::r,K,h=>by
   obtain⟨vs,hA,hvs⟩:=J1M h;clear h;split at hA
   . rename_i e1 e2;have e1:=Nat.eq_of_beq_eq_true e1;obtain⟨cs,hK,hl,hr⟩:=J7r s r _ hA;refine⟨_,hK,by simp[hl,e1,Nat.add_mul,Nat.add_comm],fun M w σ us hlu hd=>?_⟩;cases us with
     | nil=>simp at hlu
     | cons u us =>
       obtain⟨c1,c2⟩:=hvs M w σ u (hd 0 v u (by simp) (by simp));obtain⟨d1,d2⟩:=hr M w σ us (by simpa using hlu) (fun i v u hv hu=>hd (i+1) v u (by simpa using hv) (by simpa using hu));refine⟨fun u' hu'=>?_,fun i u' hu' j hj=>?_⟩
       . rcases List.mem_cons.1 hu' with e|e
         . subst e;omega
         . exact d1 u' e
       . cases i with
         | zero =>
           simp at hu';subst hu';have hj1:j<vs.length:=by omega
           have hj2:j<u.cells.size:=by omega
           have hdd:=c2 j vs[j] u.cells[j] (by simp[hj1]) (by simp[hj2]);refine⟨u.cells[j],vs[j],by simp[hj2],hdd.oneCell (J0t e2 _ (List.getElem_mem hj1)),?_,hdd⟩;rw[List.getElem?_append_left (by omega)];simp[hj1]
         | succ i =>
           obtain⟨x,y,a1,a2,a3,a4⟩:=d2 i u' (by simpa using hu') j hj;refine⟨x,y,a1,a2,?_,a4⟩;rw[List.getElem?_append_right (by rw[e1,Nat.add_mul];omega)];rw[show(i+1)*s+j-vs.length=i*s+j by rw[e1,Nat.add_mul];omega];exact a3
   . exact hA.elim
def Q5b (s:Nat):List V->(List (List V)->Prop)->Prop
 | [],K=>K []
 | v::r,K=>v.cellsK fun vs=>match Nat.beq vs.length s,J2O V.cellB vs,J2O V.kf1 vs with
   | true,true,true=>Q5b s r fun rs=>K (vs::rs)
   | _,_,_=>False
theorem J6V (s:Nat):∀(l:List V) (K:List (List V)->Prop),Q5b s l K->∃rs,K rs/\rs.length=l.length /\
 ∀M w σ (us:List Value),l.length=us.length->(∀(i:Nat) (v:V) (u:Value),l[i]?=some v->us[i]?=some u->Den M w σ v u) ->
  (∀u∈us,u.cells.size=s)/\∀i u,us[i]?=some u->∀j,j<s->∃x,u.cells[j]?=some x/\x.oneCell'=true/\Den M w Sg.none (tab rs i j) x
 | [],K,h=>⟨[],h,rfl,fun M w σ us hl _=>by
    have:us=[]:=List.eq_nil_of_length_eq_zero (by simpa using hl.symm);subst this;simp⟩
 | v::l,K,h=>by
   obtain⟨vs,h,hvs⟩:=J1M h;split at h
   . rename_i e1 e2 e3;have e1:=Nat.eq_of_beq_eq_true e1;obtain⟨rs,hK,hl,hr⟩:=J6V s l _ h;refine⟨vs::rs,hK,by simp[hl],?_⟩;intro M w σ us hlen hd;cases us with
     | nil=>simp at hlen
     | cons u us =>
       obtain⟨l1,l2⟩:=hvs M w σ u (hd 0 v u (by simp) (by simp));obtain⟨q1,q2⟩:=hr M w σ us (by simpa using hlen) (fun i v' u' h1 h2=>hd (i+1) v' u' (by simpa using h1) (by simpa using h2));refine⟨?_,?_⟩
       . intro x hx;rcases List.mem_cons.1 hx with e|e
         . subst e;omega
         . exact q1 x e
       . intro i u' hu' j hj;cases i with
         | zero =>
           simp at hu';subst hu';have hj1:j<vs.length:=by omega
           have hj2:j<u.cells.size:=by omega
           have hdj:=l2 j vs[j] u.cells[j] (by simp[hj1]) (by simp[hj2]);refine⟨u.cells[j],by simp[hj2],hdj.oneCell (J0t e2 _ (List.getElem_mem hj1)),?_⟩;have:=hdj.kf1 (J0t e3 _ (List.getElem_mem hj1)) Sg.none;simpa[tab,List.getD,hj1] using this
         | succ i =>
           obtain⟨x,x1,x2,x3⟩:=q2 i u' (by simpa using hu') j hj;exact⟨x,x1,x2,by simpa[tab] using x3⟩
   . exact h.elim
def J1O {α:Type}:Nat->List (Nat×α)->Bool
 | _,[]=>true
 | i,(k,_)::r=>match Nat.beq k i with|true=>J1O (i+1) r|false=>false
theorem J7t (s:Nat):∀(ps:List (Nat×Value)) (i:Nat) (cells:Array Value),J1O i ps=true->(∀p∈ps,p.2.cells.size=s)->(i+ps.length)*s<=cells.size ->
 ∃cells',Instr.fill (fun i=>some (i*s,s)) cells ps=some cells'/\cells'.size=cells.size/\(∀q,q<i*s->cells'[q]?=cells[q]?) /\
  ∀r p,ps[r]?=some p->∀j,j<s->cells'[(i+r)*s+j]?=p.2.cells[j]?
 | [],i,cells,_,_,_=>⟨cells,rfl,rfl,fun _ _=>rfl,by simp⟩
 | (k,v)::ps,i,cells,hi,hs,hfit=>by
   unfold J1O at hi;split at hi
   . rename_i hk;have hk:=Nat.eq_of_beq_eq_true hk;subst hk;have hsz:v.cells.size=s:=hs (k,v) (by simp);have h1:k*s+s<=cells.size:=by
      have:(k+1)*s<=(k+(ps.length+1))*s:=Nat.mul_le_mul_right _ (by omega);rw[Nat.succ_mul] at this;simp only[List.length_cons] at hfit;omega
     have lenv:v.cells.toList.length=s:=by simpa using hsz
     have hsp:=J1i cells.toList v.cells.toList (k*s) (by simp;omega);rw[lenv] at hsp;obtain⟨c',f1,f2,f3,f4⟩:=J7t s ps (k+1) (cells.toList.take (k*s)++v.cells.toList++cells.toList.drop (k*s+s)).toArray hi (fun p hp=>hs p (by simp[hp]))
      (by simp only[List.size_toArray,hsp,Array.length_toList];simp only[List.length_cons] at hfit;rw[show k+1+ps.length=k+(ps.length+1) by omega];exact hfit)
     have g:=J0P cells.toList v.cells.toList (k*s) (by simp;omega);rw[lenv] at g;refine⟨c',?_,by rw[f2];simp only[List.size_toArray,hsp,Array.length_toList],?_,?_⟩
     . rw[Q1r (place:=fun i=>some (i*s,s)) rfl hsz (by omega)];exact f1
     . intro q hq;rw[f3 q (by rw[Nat.succ_mul];omega),List.getElem?_toArray,g q,if_pos hq];simp
     . intro r p hp j hj;cases r with
       | zero =>
         simp at hp;subst hp;rw[Nat.add_zero,f3 _ (by rw[Nat.succ_mul];omega),List.getElem?_toArray,g,if_neg (by omega),if_pos (by omega),show k*s+j-k*s=j by omega];simp
       | succ r =>
         have:=f4 r p (by simpa using hp) j hj;rw[show k+(r+1)=k+1+r by omega];exact this
   . cases hi
end Go.Eng
namespace Go.Eng
open Go.MapKept (bytes_beq)
inductive XOp where
 | mks (s bytes:Nat) (zs:List V) (x:X)
 | mkmap (ik:MKd)
 | mget (ik:MKd) (z:V) (comma:Bool) (m x:X)
 | mput (ik:MKd) (m x y:X)
 | mrng (x:X)
 | mnxt (x:X)
 | ment (x:X)
 | gix (g n s:Nat) (x:X)
 | asl (n s:Nat) (x:X) (hi:Option X)
 | cpy (s:Nat) (x y:X)
 | mln (x:X)
def XOp.xs:XOp->List X
 | .mks _ _ _ x | .mrng x | .mnxt x | .ment x | .mln x | .gix _ _ _ x=>[x]
 | .mkmap _=>[]
 | .mget _ _ _ m x=>[m,x]
 | .mput _ m x y=>[m,x,y]
 | .asl _ _ x hi=>x::Xo hi
 | .cpy _ x y=>[x,y]
def J1N {α:Type} [DecidableEq α]:List (α×V)->α->Option V
 | [],_=>none
 | (q,v)::r,p=>if q=p then some v else J1N r p
def mput {α:Type} [DecidableEq α]:List (α×V)->α->V->List (α×V)
 | [],p,v=>[(p,v)]
 | (q,u)::r,p,v=>if q=p then (q,v)::r else (q,u)::mput r p v
def stK:(l:List IntKind)->List V->(KyS l->Prop)->Prop
 | [],[],K=>K ()
 | k::l,.int k' a::r,K=>match decide (k'=k) with
   | true=>stK l r fun p=>K (a,p)
   | false=>False
 | _,_,_=>False
def stV:(l:List IntKind)->KyS l->List V
 | [],_=>[]
 | k::r,p=>.int k p.1::stV r p.2
def J62 (ik:MKd) (v:V) (K:KyT ik->Prop):Prop :=
 match ik with
 | .pair ik=>match v with
   | .agg [.int k a,.int k' b]=>match decide (k=ik),decide (k'=ik) with
     | true,true=>K (a,b)
     | _,_=>False
   | _=>False
 | .one ik=>match v with
   | .int k a=>match decide (k=ik) with
     | true=>K a
     | false=>False
   | _=>False
 | .str=>match v with
   | .str s=>K s
   | _=>False
 | .st l=>match v with
   | .agg vs=>stK l vs K
   | _=>False
def Y0Z:(ik:MKd)->KyT ik->V
 | .pair k,p=>.agg [.int k p.1,.int k p.2]
 | .one k,p=>.int k p
 | .str,p=>.str p
 | .st l,p=>.agg (stV l p)
structure X8M (o:Option V) (A:V->Prop) (B:Prop):Prop where
 hit:∀v,o=some v->A v
 miss:o=none->B
structure X8n {α:Type} (n:Nat) (J1O:List Nat) (es:List α) (A:Nat->α->Prop) (B:Prop):Prop where
 one:∀i p,i<n->i∉J1O->es[i]?=some p->A i p
 over:(∀i,i<n->i∈J1O)->B
def Q9L (own:Own) (m:V) (K:Nat->(ik:MKd)->List (KyT ik×V)->Prop):Prop :=
 match m with
 | .map k=>match look own k with
   | some (.map ik es)=>K k ik es
   | _=>False
 | _=>False
def X1d (own:Own) (m:V) (K:Nat->Nat->Nat->List Nat->(ik:MKd)->List (KyT ik×V)->Prop):Prop :=
 match m with
 | .loc k 0=>match look own k with
   | some (.iter km n J1O)=>match look own km with
     | some (.map ik es)=>Chk (Nat.beq es.length n) (K k km n J1O ik es)
     | _=>False
   | _=>False
 | _=>False
def X4y (l:List Nat) (K:Nat->Prop):Prop:=∃i,l.getLast?=some i/\K i
def X7t (own:Own) (g:Nat) (K:Nat->(Nat->Nat->V)->Prop):Prop :=
 match look own 999 with
 | some (.glob g' m f)=>match Nat.beq g g' with
   | true=>K m f
   | false=>False
 | _=>False
inductive MkS (A B:Prop):Prop where
 | vec (h:A):MkS A B
 | cells (h:B):MkS A B
def X8u (s m:Nat) (zs:List V) (own:Own) (k:Nat) (ks:List Nat) (K:V->Own->List Nat->Prop):Prop :=
 match s with
 | 1=>MkS (K (.vec k 1 0 m) ((k,.vec m 1 (fun _ j=>zs.getD j default))::own) ks) (K (.vec k 1 0 m) ((k,.cells (List.replicate m (zs.getD 0 default)))::own) ks)
 | s=>K (.vec k s 0 m) ((k,.vec m s (fun _ j=>zs.getD j default))::own) ks
theorem Q3X {s m:Nat} {zs:List V} {own:Own} {k:Nat} {ks:List Nat} {K:V->Own->List Nat->Prop} (h:X8u s m zs own k ks K) :
 K (.vec k s 0 m) ((k,.vec m s (fun _ j=>zs.getD j default))::own) ks\/(s=1/\K (.vec k 1 0 m) ((k,.cells (List.replicate m (zs.getD 0 default)))::own) ks):=by
 unfold X8u at h;split at h
 . cases h with
   | vec h=>exact .inl h
   | cells h=>exact .inr ⟨rfl,h⟩
 . exact .inl h
def vcpy (own:Own) (s:Nat) (a b:V) (K:Nat->Own->Prop):Prop :=
 Q9X own s b fun m fy=>match a with
  | .vec k s' lo len=>match look own k with
    | some (.vec n s'' f)=>match Nat.beq s s',Nat.beq s s'' with
      | true,true=>Len m len (Len (lo+m) n (Q1V k (.vec n s (Q5y f lo m fy)) own (K m)))
      | _,_=>False
    | _=>False
  | _=>False
def Q54 (o:XOp) (env:Env) (own:Own) (ks:List Nat) (K:V->Own->List Nat->Prop):Prop :=
 match o with
 | .mks s bytes zs x=>x.get env fun v=>match v with
   | .int _ n=>Bd n 4611686018427387904 fun m=>Len (m*bytes) 140737488355328 (fresh ks fun k ks=>X8u s m zs own k ks K)
   | _=>False
 | .mkmap ik=>fresh ks fun k ks=>K (.map k) ((k,.map ik [])::own) ks
 | .mget ik z comma m x=>m.get env fun m=>x.get env fun x=>Q9L own m fun _ ik' es=>match decide (ik'=ik) with
   | true=>J62 ik' x fun p=>X8M (J1N es p) (fun v=>match comma with|true=>K (.tup [v,.bool true]) own ks|false=>K v own ks) (match comma with|true=>K (.tup [z,.bool false]) own ks|false=>K z own ks)
   | false=>False
 | .mput ik m x y=>m.get env fun m=>x.get env fun x=>y.get env fun y=>Q9L own m fun k ik' es=>match decide (ik'=ik),y.kf2 with
   | true,true=>J62 ik' x fun p=>Q1V k (.map ik' (mput es p y)) own fun own=>K (.raw (.tuple #[])) own ks
   | _,_=>False
 | .mrng x=>x.get env fun m=>Q9L own m fun km _ es=>fresh ks fun k ks=>K (.loc k 0) ((k,.iter km es.length [])::own) ks
 | .mnxt x=>x.get env fun m=>X1d own m fun k km n J1O ik es =>
    X8n n J1O es (fun i p=>Q1V k (.iter km n (J1O++[i])) own fun own=>K (.tup [.bool true,Y0Z ik p.1,p.2]) own ks) (K (.tup [.bool false]) own ks)
 | .ment x=>x.get env fun m=>X1d own m fun _ _ _ J1O ik es=>X4y J1O fun i=>∃p,es[i]?=some p/\K (.tup [Y0Z ik p.1,p.2]) own ks
 | .asl n s x hi=>x.get env fun p=>match p with
   | .oel k s' 0 0=>match look own k with
     | some (.vec n' s'' f)=>match Nat.beq s s',Nat.beq s s'',Nat.ble n n' with
       | true,true,true=>bdK hi env n n fun h=>K (.fz h s false f) (J1Y [k] own) ks
       | _,_,_=>False
     | _=>False
   | _=>False
 | .cpy s x y=>x.get env fun a=>y.get env fun b=>vcpy own s a b fun m own=>K (.int .i64 m) own ks
 | .mln x=>x.get env fun m=>Q9L own m fun _ _ es=>K (.int .i64 es.length) own ks
 | .gix g n s x=>x.get env fun v=>match v with
   | .int _ i=>X7t own g fun m f=>match Nat.beq s 1,Nat.beq n m with
     | true,true=>Ix i n fun j=>K (.fe m 1 f j 0) own ks
     | _,_=>False
   | _=>False
def X2v (P:Program):Nat->List Field->Option (List IntKind)
 | _,[]=>some []
 | i,f::r=>match Nat.beq f.offset i,f.name == "_",P.underlying f.type,X2v P (i+1) r with
   | true,false,some (.int k),some l=>some (k::l)
   | _,_,_,_=>none
def X50 (P:Program) (t:TypeId):Option (MKd×TypeId×TypeId×TypeId) :=
 match P.underlying t with
 | some (.map kt et)=>match P.underlying kt with
   | some (.array 2 e)=>match P.underlying e,J3a P e with
     | some (.int k),some 1=>some (.pair k,kt,et,e)
     | _,_=>none
   | some (.int k)=>some (.one k,kt,et,kt)
   | some .string=>some (.str,kt,et,kt)
   | some (.struct fs)=>match P.stoodInHeld kt,X2v P 0 fs.toList with
     | false,some l=>some (.st l,kt,et,kt)
     | _,_=>none
   | _=>none
 | _=>none
def X57 (P:Program) (t:TypeId):Option V:=match P.info? t with
 | some i=>match i.zero with
   | some z=>J65 z
   | none=>none
 | none=>none
def X1Z (P:Program) (op:Op):Option XOp :=
 match op with
 | .makeSlice t l c=>match P.underlying t with
   | some (.slice e)=>match J3a P e,(P.info? e).map (·.bytes),J1P P e,cX l,Q0E (some l) (some c) with
     | some s,some b,some zs,some x,true=>match Nat.beq zs.length s,J2O V.kf1 zs with
       | true,true=>some (.mks s b zs x)
       | _,_=>none
     | _,_,_,_,_=>none
   | _=>none
 | .makeMap t none=>(X50 P t).map fun p=>.mkmap p.1
 | .lookup t m x comma=>match X50 P t,cX m,cX x with
   | some (ik,_,et,_),some m,some x=>(X57 P et).map fun z=>.mget ik z comma m x
   | _,_,_=>none
 | .mapUpdate t m x y=>match X50 P t,cX m,cX x,cX y with
   | some (ik,_,_,_),some m,some x,some y=>some (.mput ik m x y)
   | _,_,_,_=>none
 | .range t x=>match X50 P t with
   | some _=>(cX x).map .mrng
   | none=>none
 | .next x false=>(cX x).map .mnxt
 | .entry x=>(cX x).map .ment
 | .indexAddr t (.global g) i=>match P.underlying t,cX i with
   | some (.array n e),some i=>(J3a P e).map fun s=>.gix g n s i
   | _,_=>none
 | .slice t x none hi none=>match P.underlying t with
   | some (.array n e)=>match J3a P e,cX x,cXo hi with
     | some s,some x,some hi=>some (.asl n s x hi)
     | _,_,_=>none
   | _=>none
 | .call { callee:=.builtin .copy,args,argTypes }=>match args.toList,argTypes.toList with
   | [x,y],[t,_]=>match P.underlying t with
     | some (.slice e)=>match J3a P e,cX x,cX y with
       | some s,some x,some y=>some (.cpy s x y)
       | _,_,_=>none
     | _=>none
   | _,_=>none
 | .call { callee:=.builtin .len,args,argTypes }=>match args.toList,argTypes.toList with
   | [x],[t]=>match P.underlying t with
     | some (.map _ _)=>(cX x).map .mln
     | _=>none
   | _,_=>none
 | _=>none
section
variable {P:Program} {t kt et e:TypeId} {ik:MKd}
def Q9F (P:Program) (ik:MKd) (kt e:TypeId):Prop :=
 match ik with
 | .pair k=>P.underlying kt=some (.array 2 e)/\P.underlying e=some (.int k)/\J3a P e=some 1
 | .one k=>P.underlying kt=some (.int k)
 | .str=>P.underlying kt=some .string
 | .st l=>P.underlying kt=some (.struct (P.fieldsOf kt))/\P.stoodInHeld kt=false/\X2v P 0 (P.fieldsOf kt).toList=some l
theorem J7h (h:X50 P t=some (ik,kt,et,e)):P.underlying t=some (.map kt et)/\Q9F P ik kt e:=by
 unfold X50 at h;split at h
 . rename_i kt' et' h1;split at h
   . rename_i e' h2;split at h
     . rename_i k h3 h4;cases h;exact⟨h1,h2,h3,h4⟩
     . cases h
   . rename_i k h2;cases h;exact⟨h1,h2⟩
   . rename_i h2;cases h;exact⟨h1,h2⟩
   . rename_i fs h2;split at h
     . rename_i l h3 h4;cases h;have e:P.fieldsOf kt=fs:=by simp only[Program.fieldsOf,h2]
       exact⟨h1,by rw[e];exact h2,h3,by rw[e];exact h4⟩
     . cases h
   . cases h
 . cases h
theorem J8l {k:IntKind} (he:P.underlying e=some (.int k)) (w:World):(isAgg e).run P w=.ok false w:=J2B (show J1L P e=some false by simp[J1L,he]) w
theorem J6T (b:Bool) (w:World):∀(fs:List Field) (i:Nat) (l:List IntKind) (p:KyS l) (pre:List Value),X2v P i fs=some l->pre.length=i ->
 (forIn fs PUnit.unit (fun f (_:PUnit)=>(if f.name≠ "_" then (do let v <- part f.type (pre++stP l p).toArray f.offset;Instr.checkKey b 9999 f.type v;pure (ForInStep.yield PUnit.unit)) else pure (ForInStep.yield PUnit.unit):Sem (ForInStep PUnit)))).run P w=.ok PUnit.unit w
 | [],i,l,p,pre,h,hp=>by simp[go_sem]
 | f::fs,i,l,p,pre,h,hp=>by
   unfold X2v at h;split at h
   case h_2=>cases h
   rename_i k l' h1 h2 h3 h4;cases h;have hoff:=Nat.eq_of_beq_eq_true h1;have hname:f.name≠ "_":=by simpa using h2
   have hag:=J2B (show J1L P f.type=some false by simp[J1L,h3]) w;have hpart:(part f.type (pre++stP (k::l') p).toArray f.offset).run P w=.ok (.int k p.1) w:=J0Y (by simp[J1L,h3]) (by simp[stP,hoff,<- hp]) w;have hck:(Instr.checkKey b 9999 f.type (.int k p.1)).run P w=.ok () w:=by
    rw[show(9999:Nat)=9998+1 from rfl,Instr.checkKey];simp[Sem.run_bind,run_underlying h3,go_sem]
   have ih:=J6T b w fs (i+1) l' p.2 (pre++[.int k p.1]) h4 (by simp[hp]);simp only[List.append_assoc,List.singleton_append] at ih;simp only[List.forIn_cons,Sem.run_bind,hname,ne_eq,not_false_eq_true,if_true,hpart,hck,Result.andThen_ok,Sem.run_pure];exact ih
theorem Q3H (w:World):∀(fs:List Field) (i:Nat) (l:List IntKind) (p q:KyS l) (pre pre':List Value),X2v P i fs=some l->pre.length=i->pre'.length=i ->
 (Op.eqFields 9999 (pre++stP l p).toArray (pre'++stP l q).toArray fs).run P w=.ok (@decide (q=p) (KyS.dec l q p)) w
 | [],i,l,p,q,pre,pre',h,hp,hq=>by
   simp only[X2v,Option.some.injEq] at h;subst h;simp only[Op.eqFields,Sem.run_pure];rw[@decide_eq_true _ (KyS.dec [] q p) rfl]
 | f::fs,i,l,p,q,pre,pre',h,hp,hq=>by
   unfold X2v at h;split at h
   case h_2=>cases h
   rename_i k l' h1 h2 h3 h4;cases h;have hoff:=Nat.eq_of_beq_eq_true h1;have hname:f.name≠ "_":=by simpa using h2
   have p1:(part f.type (pre++stP (k::l') p).toArray f.offset).run P w=.ok (.int k p.1) w:=J0Y (by simp[J1L,h3]) (by simp[stP,hoff,<- hp]) w;have p2:(part f.type (pre'++stP (k::l') q).toArray f.offset).run P w=.ok (.int k q.1) w:=J0Y (by simp[J1L,h3]) (by simp[stP,hoff,<- hq]) w;have p3:(Op.equalIn 9999 f.type (.int k p.1) (.int k q.1)).run P w=.ok (p.1 == q.1) w:=run_equalIn_int w 9998 f.type _ _ _ _ h3;have ih:=Q3H w fs (i+1) l' p.2 q.2 (pre++[.int k p.1]) (pre'++[.int k q.1]) h4 (by simp[hp]) (by simp[hq]);simp only[List.append_assoc,List.singleton_append] at ih;simp only[Op.eqFields,hname,ne_eq,not_false_eq_true,if_true,Sem.run_bind,p1,p2,p3,Result.andThen_ok];obtain⟨a,p⟩:=p;obtain⟨c,q⟩:=q;by_cases e:a=c
   . subst e;simp only[beq_self_eq_true,Bool.not_true,Bool.false_eq_true,if_false];refine ih.trans ?_;congr 1;rw[Bool.eq_iff_iff];simp only[decide_eq_true_eq];exact⟨fun h=>by rw[h],fun h=>(Prod.mk.inj h).2⟩
   . have e1:(a == c)=false:=by simpa using e
     simp only[e1,Bool.not_false,if_true,Sem.run_pure];congr 1;symm;exact @decide_eq_false _ (KyS.dec (k::l') (c,q) (a,p)) (fun h=>e (Prod.mk.inj h).1.symm)
theorem J2t (hk:Q9F P ik kt e) (b:Bool) (p:KyT ik) (w:World):(Instr.checkKey b 10000 kt (J2q ik p)).run P w=.ok () w:=by
 cases ik with
 | pair k =>
   obtain⟨hk,he,hs⟩:=hk;have h1:∀(v:Int),(Instr.checkKey b 9999 e (.int k v)).run P w=.ok () w:=by
    intro v;rw[show(9999:Nat)=9998+1 from rfl,Instr.checkKey];simp[Sem.run_bind,run_underlying he,go_sem]
   have hag:=J8l he w;rw[Instr.checkKey];simp only[J2q,Sem.run_bind,run_underlying hk,Result.andThen_ok];simp[Sem.run_bind,J07 hs,hag,h1,show List.range' 0 2=[0,1] from rfl,List.forIn_cons,List.forIn_nil,go_sem]
 | one k =>
   have hk:P.underlying kt=some (.int k):=hk;rw[Instr.checkKey];simp[J2q,Sem.run_bind,run_underlying hk,go_sem]
 | str =>
   have hk:P.underlying kt=some .string:=hk;rw[Instr.checkKey];simp[J2q,Sem.run_bind,run_underlying hk,go_sem]
 | st l =>
   obtain⟨hk,hs,hl⟩:=hk;rw[Instr.checkKey];simp only[J2q,Sem.run_bind,run_underlying hk,Result.andThen_ok];rw[<- Array.forIn_toList];have:=J6T (P:=P) b w _ 0 l p [] hl rfl;simp only[List.nil_append] at this;rw[this];rfl
theorem J8m (hk:Q9F P ik kt e) (p q:KyT ik) (w:World):(Op.equal kt (J2q ik p) (J2q ik q)).run P w=.ok (decide (q=p)) w:=by
 cases ik with
 | pair k =>
   obtain⟨hk,he,hs⟩:=hk;have h1:∀(a b:Int),(Op.equalIn 9999 e (.int k a) (.int k b)).run P w=.ok (a == b) w:=by
    intro a b;rw[show(9999:Nat)=9998+1 from rfl,Op.equalIn];simp[Sem.run_bind,run_underlying he,go_sem]
   have hag:=J8l he w;unfold Op.equal Op.maxDepth;rw[Op.equalIn];simp only[J2q,Sem.run_bind,run_underlying hk,Result.andThen_ok];obtain⟨p1,p2⟩:=p;obtain⟨q1,q2⟩:=q;simp only;have hd:decide ((q1,q2)=(p1,p2))=((p1 == q1)&&(p2 == q2)):=by
    rw[Bool.eq_iff_iff];simp only[decide_eq_true_eq,Prod.mk.injEq,Bool.and_eq_true,beq_iff_eq];constructor<;>rintro⟨a,b⟩<;>exact⟨a.symm,b.symm⟩
   have hd':@decide (((q1,q2):KyT (.pair k))=(p1,p2)) (instDecidableEqKyT (.pair k) (q1,q2) (p1,p2))=((p1 == q1)&&(p2 == q2)):=hd;rw[hd'];by_cases e1:p1=q1
   . by_cases e2:p2=q2
     . simp[Sem.run_bind,J07 hs,hag,h1,show List.range' 0 2=[0,1] from rfl,List.forIn_cons,List.forIn_nil,go_sem,e1,e2]
     . simp[Sem.run_bind,J07 hs,hag,h1,show List.range' 0 2=[0,1] from rfl,List.forIn_cons,List.forIn_nil,go_sem,e1,e2]
   . simp[Sem.run_bind,J07 hs,hag,h1,show List.range' 0 2=[0,1] from rfl,List.forIn_cons,List.forIn_nil,go_sem,e1]
 | one k =>
   have hk:P.underlying kt=some (.int k):=hk;unfold Op.equal Op.maxDepth;rw[Op.equalIn];have hd:@decide (q=p) (instDecidableEqKyT (.one k) q p)=((p:Int) == q):=by
    rw[Bool.eq_iff_iff];simp only[decide_eq_true_eq,beq_iff_eq];exact⟨Eq.symm,Eq.symm⟩
   rw[hd];simp[J2q,Sem.run_bind,run_underlying hk,go_sem]
 | str =>
   have hk:P.underlying kt=some .string:=hk;unfold Op.equal Op.maxDepth;rw[Op.equalIn];have hd:∀(p q:ByteArray),@decide (q=p) (instDecidableEqKyT .str q p)=(p == q):=by
    intro p q;rw[Bool.eq_iff_iff,decide_eq_true_eq,bytes_beq];exact⟨Eq.symm,Eq.symm⟩
   rw[hd];simp[J2q,Sem.run_bind,run_underlying hk,go_sem]
 | st l =>
   obtain⟨hk,hs,hl⟩:=hk;unfold Op.equal Op.maxDepth;rw[J2q,J2q,run_equalIn_struct w 9999 kt _ _ hk hs];exact Q3H w _ 0 l p q [] [] hl rfl rfl
theorem Q4S.get {M:Nat->Prop} {w:World}:∀{l:List MapEntry} {es:List (KyT ik×V)} {i:Nat},Q4S M w ik l es i->∀(j:Nat) (x:MapEntry),l[j]?=some x->∃p,es[j]?=some p/\x.key=J2q ik p.1/\x.born=i+j/\Den M w Sg.none p.2 x.val
 | [],[],_,_,j,x,hx=>by simp at hx
 | y::r,p::q,i,h,j,x,hx=>by
   cases j with
   | zero=>simp at hx;subst hx;exact⟨p,rfl,h.1.1,h.1.2.1,h.1.2.2⟩
   | succ j =>
     obtain⟨p',a,b,c,d⟩:=h.2.get j x (by simpa using hx);exact⟨p',by simpa using a,b,by omega,d⟩
 | [],_::_,_,h,_,_,_=>h.elim
 | _::_,[],_,h,_,_,_=>h.elim
theorem Q4S.length {M:Nat->Prop} {w:World}:∀{l:List MapEntry} {es:List (KyT ik×V)} {i:Nat},Q4S M w ik l es i->l.length=es.length
 | [],[],_,_=>rfl
 | _::_,_::_,_,h=>by simp[h.2.length]
 | [],_::_,_,h=>h.elim
 | _::_,[],_,h=>h.elim
theorem J7s (hk:Q9F P ik kt e) {M:Nat->Prop} {w:World} (p:KyT ik):∀(l:List MapEntry) (es:List (KyT ik×V)) (i:Nat),Q4S M w ik l es i->∀j,
 (∃n x v,(Instr.findAsking kt (J2q ik p) l j).run P w=.ok (some (j+n,x.val)) w/\l[n]?=some x/\x.key=J2q ik p/\J1N es p=some v/\Den M w Sg.none v x.val /\
     ∀y,(∀u':Value,Den M w Sg.none y u'->Q4S M w ik (l.modify n fun z=>{ z with key:=J2q ik p,val:=u' }) (mput es p y) i)) \/
 ((Instr.findAsking kt (J2q ik p) l j).run P w=.ok none w/\J1N es p=none/\∀y,∀u':Value,Den M w Sg.none y u'->Q4S M w ik (l++[{ key:=J2q ik p,val:=u',born:=i+l.length }]) (mput es p y) i)
 | [],[],i,_,j=>.inr ⟨rfl,rfl,fun y u' hu=>⟨⟨rfl,rfl,hu⟩,True.intro⟩⟩
 | x::r,(q,v)::es,i,h,j=>by
   have hx:=h.1.1;have hrun:=J8m hk p q w;by_cases hqp:q=p
   . subst hqp;refine .inl ⟨0,x,v,?_,rfl,hx,by simp[J1N],h.1.2.2,fun y u' hu=>?_⟩
     . simp only[Instr.findAsking,hx,Sem.run_bind,hrun,Result.andThen_ok,decide_true,if_true];rfl
     . simp only[mput,if_true];exact⟨⟨rfl,h.1.2.1,hu⟩,h.2⟩
   . have hstep:(Instr.findAsking kt (J2q ik p) (x::r) j).run P w=(Instr.findAsking kt (J2q ik p) r (j+1)).run P w:=by
      simp only[Instr.findAsking,hx,Sem.run_bind,hrun,Result.andThen_ok,decide_eq_false hqp,Bool.false_eq_true,if_false]
     rcases J7s hk p r es (i+1) h.2 (j+1) with ⟨n,x',v',a1,a2,a3,a4,a5,a6⟩ | ⟨a1,a2,a3⟩
     . refine .inl ⟨n+1,x',v',by rw[hstep,a1,show j+1+n=j+(n+1) by omega],by simpa using a2,a3,by simp[J1N,hqp,a4],a5,fun y u' hu=>?_⟩;simp only[mput,if_neg hqp];exact⟨h.1,a6 y u' hu⟩
     . refine .inr ⟨by rw[hstep,a1],by simp[J1N,hqp,a2],fun y u' hu=>?_⟩;simp only[mput,if_neg hqp];have:=a3 y u' hu;rw[show i+1+r.length=i+(x::r).length by simp;omega] at this;exact⟨h.1,this⟩
 | [],_::_,_,h,_=>h.elim
 | _::_,[],_,h,_=>h.elim
theorem J2X (hk:Q9F P ik kt e) (p:KyT ik) (l:List MapEntry) (w:World):(Instr.findKey kt (J2q ik p) l).run P w=(Instr.findAsking kt (J2q ik p) l).run P w:=by
 have key:∀d,P.underlying kt=some d->(∀x:Value,∀b,Instr.sameNow d (J2q ik p) x=some b->∃q:KyT ik,x=J2q ik q/\b=decide (q=p)) ->
  ∀(l:List MapEntry) (j:Nat) (r:Option (Nat×Value)),Instr.findNow d (J2q ik p) l j=some r->(Instr.findAsking kt (J2q ik p) l j).run P w=.ok r w:=by
  intro d hd hs l
  induction l with
  | nil=>intro j r h;simp only[Instr.findNow,Option.some.injEq] at h;subst h;rfl
  | cons x l ih =>
    intro j r h;simp only[Instr.findNow] at h;cases hx:Instr.sameNow d (J2q ik p) x.key with
    | none=>rw[hx] at h;cases h
    | some b =>
      obtain⟨q,e1,e2⟩:=hs x.key b hx;have hrun:=J8m hk p q w;rw[<- e2] at hrun;rw[hx] at h;cases b with
      | true =>
        simp only[Option.some.injEq] at h;subst h;simp only[Instr.findAsking,e1,Sem.run_bind,hrun,Result.andThen_ok,if_true];rfl
      | false =>
        simp only at h;simp only[Instr.findAsking,e1,Sem.run_bind,hrun,Result.andThen_ok,Bool.false_eq_true,if_false];exact ih (j+1) r h
 unfold Instr.findKey;have fin:∀d,P.underlying kt=some d->(∀x:Value,∀b,Instr.sameNow d (J2q ik p) x=some b->∃q:KyT ik,x=J2q ik q/\b=decide (q=p))->
  ((do match Instr.findNow (<- underlying kt) (J2q ik p) l 0 with
    | some r=>pure r
    | none=>Instr.findAsking kt (J2q ik p) l:Sem (Option (Nat×Value)))).run P w=(Instr.findAsking kt (J2q ik p) l).run P w:=by
  intro d hd hs;simp only[Sem.run_bind,run_underlying hd,Result.andThen_ok];cases hf:Instr.findNow d (J2q ik p) l 0 with
  | none=>rfl
  | some r=>rw[key d hd hs l 0 r hf];rfl
 cases ik with
 | st l=>exact fin _ hk.1 (fun x b h=>by cases x<;>simp[Instr.sameNow] at h)
 | pair k=>exact fin _ hk.1 (fun x b h=>by cases x<;>simp[Instr.sameNow] at h)
 | one k=>exact fin _ hk (fun x b h=>by
    cases x<;>simp[J2q,Instr.sameNow] at h;obtain⟨rfl,rfl⟩:=h;refine⟨_,rfl,?_⟩;rw[Bool.eq_iff_iff,decide_eq_true_eq,beq_iff_eq];exact⟨Eq.symm,Eq.symm⟩)
 | str=>exact fin _ hk (fun x b h=>by
    cases x<;>simp[J2q,Instr.sameNow] at h;subst h;refine⟨_,rfl,?_⟩;rw[Bool.eq_iff_iff,decide_eq_true_eq,bytes_beq];exact⟨Eq.symm,Eq.symm⟩)
end
end Go.Eng
namespace Go.Eng
inductive SOp where
 | p (o:POp)
 | build (zs:List V) (parts:List (Nat×Nat×X))
 | load (sz:Option Nat) (x:X)
 | alloc (zs:List V)
 | box (x:X)
 | bslice (s n:Nat) (xs:List X)
 | asg (x:X)
 | store (sz:Nat) (a x:X)
 | app (s bytes:Nat) (x y:X)
 | clr (s:Nat) (zs:List V) (x:X)
 | call (f:FuncId) (args:List X)
 | callv (x:X) (args:List X)
 | alloca (n:Nat) (z:V)
 | xt (o:XOp)
def SOp.xs:SOp->List X
 | .p o=>o.xs
 | .build _ ps=>ps.map (·.2.2)
 | .load _ x | .box x | .asg x | .clr _ _ x=>[x]
 | .alloc _=>[]
 | .bslice _ _ xs=>xs
 | .store _ a x | .app _ _ a x=>[a,x]
 | .call _ xs=>xs
 | .callv x xs=>x::xs
 | .alloca _ _=>[]
 | .xt o=>o.xs
structure SI where
 dst:Option Nat
 op:SOp
 guard:Option (Nat×Bool)
structure J0G (P:Program) (f:FuncId) (args:List V) (own:Own) (ks:List Nat) (K:V->Own->List Nat->Prop):Prop where
 out:∀(M:Nat->Prop) (w:World) (σ:Sg) (us:List Value),args.length=us.length ->
  (∀(i:Nat) (v:V) (u:Value),args[i]?=some v->us[i]?=some u->Den M w σ v u)->J0S M w σ own ks ->
  Calls P f us.toArray w fun e w'=>∃M' σ' v own' ks' u,e=.returned u/\Den M' w' σ' v u/\J0S M' w' σ' own' ks'/\Tr M w σ own M' w' σ' own'/\Kd σ own ks σ' own' ks'/\K v own' ks'
theorem J0G.mono {P:Program} {f:FuncId} {args:List V} {own:Own} {ks:List Nat} {K K':V->Own->List Nat->Prop} (h:J0G P f args own ks K) (hK:∀v o k,K v o k->K' v o k) :
 J0G P f args own ks K' :=
 ⟨fun M w σ us h1 h2 h3=>(h.out M w σ us h1 h2 h3).mono fun _ _ ⟨M',σ',v,o,k,u,a,b,c,d,d',e⟩=>⟨M',σ',v,o,k,u,a,b,c,d,d',hK _ _ _ e⟩⟩
structure X3r (P:Program) (k:Nat) (args:List V) (own:Own) (ks:List Nat) (K:V->Own->List Nat->Prop):Prop where
 out:∀(M:Nat->Prop) (w:World) (σ:Sg) (us:List Value) (l base κ:Nat),args.length=us.length ->
  (∀(i:Nat) (v:V) (u:Value),args[i]?=some v->us[i]?=some u->Den M w σ v u)->J0S M w σ own ks->σ k=some (some l,base,κ) ->
  ∃fn tmps assign body,(Instr.yield l us.toArray).run P w=.ok (.round l fn tmps assign body) w /\
   RoundIn Fence.wide 0 P l fn tmps assign body w fun e w'=>∃M' σ' v own' ks' u,e=.returned u/\Den M' w' σ' v u/\J0S M' w' σ' own' ks'/\Tr M w σ own M' w' σ' own'/\Kd σ own ks σ' own' ks'/\K v own' ks'
def X5Y:List V->(List V->Prop)->Prop
 | [],K=>K []
 | v::r,K=>X06 v fun v=>X5Y r fun r=>K (v::r)
def X05 (v:V) (K:V->Prop):Prop :=
 match v with
 | .tup vs=>X5Y vs fun vs=>K (.tup vs)
 | v=>X06 v K
theorem J8z:∀{l:List V} {K:List V->Prop},X5Y l K->K l
 | [],_,h=>h
 | v::_,K,h=>J8z (K:=fun r=>K (v::r)) (J38 h).1
theorem J5w {v:V} {K:V->Prop} (h:X05 v K):K v:=by
 unfold X05 at h;split at h
 . exact J8z h
 . exact(J38 h).1
def vclr (own:Own) (s:Nat) (zs:List V) (v:V) (K:Own->Prop):Prop :=
 match v with
 | .nilslice=>K own
 | .vec k s' lo len=>match look own k with
   | some (.vec n s'' f)=>match Nat.beq s s',Nat.beq s s'' with
     | true,true=>Len (lo+len) n (Q1V k (.vec n s (Q5y f lo len fun _ j=>zs.getD j default)) own K)
     | _,_=>False
   | _=>False
 | _=>False
def J08 (P:Program) (f:FuncId):Bool:=match P.funcs[f]? with
 | some fn=>match fn.body with
   | some _=>match fn.name == "runtime.NumGoroutine" with|true=>false|false=>true
   | none=>false
 | none=>false
def X3J (P:Program) (vs:List V) (own:Own) (ks:List Nat) (K:V->Own->List Nat->Prop) (fv:V):Prop :=
 match fv with
 | .fn (.func g) b cap=>Chk (J08 P g) (J0G P g (match b with|true=>cap++vs|false=>vs++cap) own ks K)
 | .yld k=>X3r P k vs own ks K
 | _=>False
def vop (P:Program) (op:SOp) (env:Env) (own:Own) (ks:List Nat) (K:V->Own->List Nat->Prop):Prop :=
 match op with
 | .p o=>J2F o env fun v=>K v own ks
 | .build zs ps=>Q2G env ps zs fun cs=>K (.agg cs) own ks
 | .load sz x=>x.get env fun p=>X3G own sz p fun v=>K v own ks
 | .alloc zs=>fresh ks fun k ks=>K (.loc k 0) ((k,.cells zs)::own) ks
 | .box x=>x.get env fun v=>v.cellsK fun cs=>fresh ks fun k ks=>K (.loc k 0) ((k,.cells cs)::own) ks
 | .bslice s n xs=>X.gets env xs fun vs=>match J2O V.kf2 vs with
   | true=>Q5b s vs fun rs=>fresh ks fun k ks=>K (.vec k s 0 n) ((k,.vec n s (tab rs))::own) ks
   | false=>Q5z s vs fun cs=>fresh ks fun k ks=>K (.vec k s 0 n) ((k,.cells cs)::own) ks
 | .alloca n z=>fresh ks fun k ks=>K (.oel k 1 0 0) ((k,.vec n 1 (fun _ _=>z))::own) ks
 | .xt o=>Q54 o env own ks K
 | .asg x=>x.get env fun v=>K v own ks
 | .store sz a x=>a.get env fun p=>x.get env fun v=>J3I own sz p v fun own=>K (.raw (.tuple #[])) own ks
 | .app s bytes x y=>x.get env fun a=>y.get env fun b=>Q2b own ks s bytes a b K
 | .clr s zs x=>x.get env fun v=>vclr own s zs v fun own=>K (.raw (.tuple #[])) own ks
 | .call f args=>X.gets env args fun vs=>J0G P f vs own ks fun v own ks=>X05 v fun v=>K v own ks
 | .callv x args=>x.get env fun fv=>X.gets env args fun vs=>X3J P vs own ks (fun v own ks=>X05 v fun v=>K v own ks) fv
def J6g (P:Program) (t:TypeId):Option (Nat->Option (Nat×Nat)) :=
 match P.underlying t with
 | some (.struct fs)=>match fs.toList.mapM (fun f=>(P.info? f.type).map fun i=>(f.offset,i.size)) with
   | some places=>some (fun i=>places.toArray[i]?)
   | none=>none
 | some (.array _ e)=>match P.info? e with
   | some ie=>some (fun i=>some (i*ie.size,ie.size))
   | none=>none
 | _=>none
theorem X13 {P:Program} {t:TypeId} {place:Nat->Option (Nat×Nat)} {i:TypeInfo} {z:Value} (hp:J6g P t=some place) (hi:P.info? t=some i) (hz:i.zero=some z) (parts:List (Nat×Value)) :
 P.built t parts=Instr.fill place z.cells parts:=by
 unfold J6g at hp;unfold Program.built;split at hp
 . rename_i fs hu;split at hp
   . rename_i places hm;cases hp;simp only[hi,hu,hz,hm]
   . cases hp
 . rename_i n e hu;split at hp
   . rename_i ie he;cases hp;simp only[hi,hu,hz,he]
   . cases hp
 . cases hp
def cAsg (x:Operand):Option SOp:=(cX x).map .asg
def X3b (P:Program) (t:TypeId) (parts:Array (Nat×Operand)):Option SOp :=
 match J6g P t,J1P P t with
 | some place,some zs=>(J8R place parts.toList).map (.build zs)
 | _,_=>none
def X7Z (P:Program) (t:TypeId) (x:Operand):Option SOp :=
 match J3F P t,cX x with
 | some z,some x=>some (.load z x)
 | _,_=>none
def J6y:List V->Bool
 | []=>true
 | .bool false::r=>J6y r
 | _=>false
def J90 (k:IntKind):List V->Bool
 | []=>true
 | .int k' n::r=>match decide (k'=k),decide (n=0) with|true,true=>J90 k r|_,_=>false
 | _=>false
def X33 (zs:List V):Option V:=match zs with
 | .bool _::_=>match J6y zs with|true=>some (.bool false)|false=>none
 | .int k _::_=>match J90 k zs with|true=>some (.int k 0)|false=>none
 | _=>none
theorem J56:∀{zs:List V},J6y zs=true->∀v∈zs,v=.bool false
 | [],_,v,h=>by simp at h
 | .bool false::r,h,v,hv=>by
   rcases List.mem_cons.1 hv with e|e
   . exact e
   . exact J56 (by simpa[J6y] using h) v e
theorem J7S {k:IntKind}:∀{zs:List V},J90 k zs=true->∀v∈zs,v=.int k 0
 | [],_,v,h=>by simp at h
 | .int k' n::r,h,v,hv=>by
   unfold J90 at h;split at h
   . rename_i e1 e2;have e1:=of_decide_eq_true e1;have e2:=of_decide_eq_true e2;subst e1 e2;rcases List.mem_cons.1 hv with e|e
     . exact e
     . exact J7S h v e
   . cases h
theorem Q5a {zs:List V} {z:V} (h:X33 zs=some z):(∀v∈zs,v=z)/\z.kf1=true/\z.cellB=true:=by
 unfold X33 at h;split at h
 . split at h
   . rename_i h1;cases h;exact⟨J56 h1,rfl,rfl⟩
   . cases h
 . split at h
   . rename_i h1;cases h;exact⟨J7S h1,rfl,rfl⟩
   . cases h
 . cases h
def Q4L (P:Program) (t:TypeId):Option (Nat×V) :=
 match P.underlying t,J1P P t with
 | some (.array n _),some zs=>match Nat.ble 8 n,Nat.beq zs.length n,X33 zs with
   | true,true,some z=>some (n,z)
   | _,_,_=>none
 | _,_=>none
def X3c (P:Program) (t:TypeId):Option SOp:=match Q4L P t with
 | some (n,z)=>some (.alloca n z)
 | none=>(J1P P t).map .alloc
def cBox (x:Operand):Option SOp:=(cX x).map .box
def Q9k (P:Program) (t:TypeId) (len:Nat) (parts:Array (Nat×Operand)):Option SOp :=
 match P.underlying t with
 | some (.slice e)=>match J3a P e,J1P P e,cXs (parts.toList.map (·.2)),J1O 0 parts.toList,Nat.beq parts.toList.length len,Nat.ble (len*(J3a P e).getD 0) 16777216 with
   | some s,some _,some xs,true,true,true=>some (.bslice s len xs)
   | _,_,_,_,_,_=>none
 | _=>none
def X29 (P:Program) (t:TypeId) (a x:Operand):Option SOp :=
 match J3a P t,cX a,cX x with
 | some (n+1),some a,some x=>some (.store (n+1) a x)
 | _,_,_=>none
def X3a (P:Program) (f:FuncId) (args:Array Operand):Option SOp :=
 match J08 P f with
 | true=>(cXs args.toList).map (.call f)
 | false=>none
def Y2Z (P:Program) (args:Array Operand) (argTypes:Array TypeId):Option SOp :=
 match args.toList,argTypes.toList with
 | [x,y],[t,t2]=>match P.underlying t,P.underlying t2 with
   | some (.slice e),some (.slice _)=>match J3a P e,(P.info? e).map (·.bytes),J1P P e,cX x,cX y with
     | some s,some b,some zs,some x,some y=>match Nat.beq zs.length s with
       | true=>some (.app s b x y)
       | false=>none
     | _,_,_,_,_=>none
   | _,_=>none
 | _,_=>none
def Y2Y (P:Program) (args:Array Operand) (argTypes:Array TypeId):Option SOp :=
 match args.toList,argTypes.toList with
 | [x],[t]=>match P.underlying t with
   | some (.slice e)=>match J3a P e,J1P P e,cX x with
     | some s,some zs,some x=>match Nat.beq zs.length s with
       | true=>some (.clr s zs x)
       | false=>none
     | _,_,_=>none
   | _=>none
 | _,_=>none
def cP (P:Program) (op:Op):Option SOp:=(J9Y P op).map .p
def X5v (P:Program) (c:Call):Option SOp :=
 match c.callee with
 | .value (.func f)=>X3a P f c.args
 | .value (.tmp t)=>(cXs c.args.toList).map (.callv (.t t))
 | .builtin .append=>Y2Z P c.args c.argTypes
 | .builtin .clear=>Y2Y P c.args c.argTypes
 | .builtin .copy=>(X1Z P (.call c)).map .xt
 | .builtin .len=>match X1Z P (.call c) with|some o=>some (.xt o)|none=>cP P (.call c)
 | _=>cP P (.call c)
def cOp (P:Program) (op:Op):Option SOp :=
 match op with
 | .assign x=>cAsg x
 | .build t parts=>X3b P t parts
 | .load t x=>X7Z P t x
 | .alloc t=>X3c P t
 | .box _ x=>cBox x
 | .buildSlice t len parts=>Q9k P t len parts
 | .store t a x=>X29 P t a x
 | .call c=>X5v P c
 | op=>match X1Z P op with|some o=>some (.xt o)|none=>cP P op
inductive Was (P:Program):Op->SOp->Prop
 | asg (x0:Operand) (x:X) (h:cX x0=some x):Was P (.assign x0) (.asg x)
 | build (t:TypeId) (parts:Array (Nat×Operand)) (place:Nat->Option (Nat×Nat)) (zs:List V) (ps:List (Nat×Nat×X)) (h1:J6g P t=some place) (h2:J1P P t=some zs) (h3:J8R place parts.toList=some ps) :
    Was P (.build t parts) (.build zs ps)
 | load (t:TypeId) (x0:Operand) (z:Option Nat) (x:X) (h1:J3F P t=some z) (h2:cX x0=some x):Was P (.load t x0) (.load z x)
 | alloc (t:TypeId) (zs:List V) (h:J1P P t=some zs):Was P (.alloc t) (.alloc zs)
 | box (t:TypeId) (x0:Operand) (x:X) (h:cX x0=some x):Was P (.box t x0) (.box x)
 | bslice (t:TypeId) (len:Nat) (parts:Array (Nat×Operand)) (e:TypeId) (s:Nat) (zs:List V) (xs:List X) (h1:P.underlying t=some (.slice e)) (h2:J3a P e=some s) (h3:J1P P e=some zs)
    (h4:cXs (parts.toList.map (·.2))=some xs) (h5:J1O 0 parts.toList=true) (h6:parts.toList.length=len) (h7:len*s<=16777216):Was P (.buildSlice t len parts) (.bslice s len xs)
 | store (t:TypeId) (a0 x0:Operand) (n:Nat) (a x:X) (h1:J3a P t=some n) (h2:0<n) (h3:cX a0=some a) (h4:cX x0=some x):Was P (.store t a0 x0) (.store n a x)
 | call (f:FuncId) (args:Array Operand) (ats:Array TypeId) (xs:List X) (h1:J08 P f=true) (h2:cXs args.toList=some xs):Was P (.call ⟨.value (.func f),args,ats⟩) (.call f xs)
 | callv (t:Nat) (args:Array Operand) (ats:Array TypeId) (xs:List X) (h2:cXs args.toList=some xs):Was P (.call ⟨.value (.tmp t),args,ats⟩) (.callv (.t t) xs)
 | app (args:Array Operand) (ats:Array TypeId) (t t2 e e2:TypeId) (s b:Nat) (zs:List V) (x0 y0:Operand) (x y:X) (h1:args.toList=[x0,y0]) (h2:ats.toList=[t,t2]) (h3:P.underlying t=some (.slice e))
    (h4:P.underlying t2=some (.slice e2)) (h5:J3a P e=some s) (h6:(P.info? e).map (·.bytes)=some b) (h7:J1P P e=some zs) (h8:cX x0=some x) (h9:cX y0=some y) (h10:zs.length=s) :
    Was P (.call ⟨.builtin .append,args,ats⟩) (.app s b x y)
 | clr (args:Array Operand) (ats:Array TypeId) (t e:TypeId) (s:Nat) (zs:List V) (x0:Operand) (x:X) (h1:args.toList=[x0]) (h2:ats.toList=[t]) (h3:P.underlying t=some (.slice e))
    (h4:J3a P e=some s) (h5:J1P P e=some zs) (h6:cX x0=some x) (h7:zs.length=s):Was P (.call ⟨.builtin .clear,args,ats⟩) (.clr s zs x)
 | p (op:Op) (o:POp) (h:J9Y P op=some o):Was P op (.p o)
 | alloca (t:TypeId) (n:Nat) (z:V) (h:Q4L P t=some (n,z)):Was P (.alloc t) (.alloca n z)
 | xt (op:Op) (o:XOp) (h:X1Z P op=some o):Was P op (.xt o)
theorem Q9h {P:Program} {op:Op} {so:SOp} (h:cP P op=some so):Was P op so:=by
 simp only[cP,Option.map_eq_some_iff] at h;obtain⟨o,h1,rfl⟩:=h;exact .p _ _ h1
theorem X12 {P:Program} {args:Array Operand} {ats:Array TypeId} {so:SOp} (h:Y2Z P args ats=some so):Was P (.call ⟨.builtin .append,args,ats⟩) so:=by
 unfold Y2Z at h;split at h
 . rename_i x0 y0 t t2 h1 h2;split at h
   . rename_i e e2 h3 h4;split at h
     . rename_i s b zs x y h5 h6 h7 h8 h9;split at h
       . rename_i h10;cases h;exact .app args ats t t2 e e2 s b zs x0 y0 x y h1 h2 h3 h4 h5 h6 h7 h8 h9 (Nat.eq_of_beq_eq_true h10)
       . cases h
     . cases h
   . cases h
 . cases h
theorem X11 {P:Program} {args:Array Operand} {ats:Array TypeId} {so:SOp} (h:Y2Y P args ats=some so):Was P (.call ⟨.builtin .clear,args,ats⟩) so:=by
 unfold Y2Y at h;split at h
 . rename_i x0 t h1 h2;split at h
   . rename_i e h3;split at h
     . rename_i s zs x h4 h5 h6;split at h
       . rename_i h7;cases h;exact .clr args ats t e s zs x0 x h1 h2 h3 h4 h5 h6 (Nat.eq_of_beq_eq_true h7)
       . cases h
     . cases h
   . cases h
 . cases h
theorem Q9i {P:Program} {c:Call} {so:SOp} (h:X5v P c=some so):Was P (.call c) so:=by
 obtain⟨callee,args,ats⟩:=c;unfold X5v at h;split at h
 . rename_i f hf;simp only at hf;subst hf;unfold X3a at h;split at h
   . rename_i hcal;simp only[Option.map_eq_some_iff] at h;obtain⟨xs,h1,rfl⟩:=h;exact .call f args ats xs hcal h1
   . cases h
 . rename_i t hf;simp only at hf;subst hf;simp only[Option.map_eq_some_iff] at h;obtain⟨xs,h1,rfl⟩:=h;exact .callv t args ats xs h1
 . rename_i hf;simp only at hf;subst hf;exact X12 h
 . rename_i hf;simp only at hf;subst hf;exact X11 h
 . rename_i hf;simp only at hf;subst hf;simp only[Option.map_eq_some_iff] at h;obtain⟨o,h1,rfl⟩:=h;exact .xt _ o h1
 . rename_i hf;simp only at hf;subst hf;split at h
   . rename_i o h1;cases h;exact .xt _ o h1
   . exact Q9h h
 . exact Q9h h
theorem J2c {P:Program} {op:Op} {so:SOp} (h:cOp P op=some so):Was P op so:=by
 unfold cOp at h;split at h
 . simp only[cAsg,Option.map_eq_some_iff] at h;obtain⟨x,h1,rfl⟩:=h;exact .asg _ _ h1
 . unfold X3b at h;split at h
   . simp only[Option.map_eq_some_iff] at h;obtain⟨ps,h1,rfl⟩:=h;exact .build _ _ _ _ _ ‹_› ‹_› h1
   . cases h
 . unfold X7Z at h;split at h
   . cases h;exact .load _ _ _ _ ‹_› ‹_›
   . cases h
 . unfold X3c at h;split at h
   . cases h;exact .alloca _ _ _ ‹_›
   . simp only[Option.map_eq_some_iff] at h;obtain⟨zs,h1,rfl⟩:=h;exact .alloc _ _ h1
 . simp only[cBox,Option.map_eq_some_iff] at h;obtain⟨x,h1,rfl⟩:=h;exact .box _ _ _ h1
 . unfold Q9k at h;split at h
   . rename_i he;split at h
     . rename_i h1 h2 h3 h4 h5 h6;cases h;have:=Nat.le_of_ble_eq_true h6;rw[h1] at this;exact .bslice _ _ _ _ _ _ _ he h1 h2 h3 h4 (Nat.eq_of_beq_eq_true h5) this
     . cases h
   . cases h
 . unfold X29 at h;split at h
   . cases h;exact .store _ _ _ _ _ _ ‹_› (by omega) ‹_› ‹_›
   . cases h
 . exact Q9i h
 . split at h
   . cases h;exact .xt _ _ ‹_›
   . exact Q9h h
theorem J39 {env:Env}:∀{os:List Operand} {xs:List X} {K:List V->Prop},cXs os=some xs->X.gets env xs K ->
 ∃vs,K vs/\vs.length=os.length/\∀M w σ (a:Act),(∀x,x∈xs->XOk M w σ env a x)->∀(i:Nat) (v:V) (u:Value),vs[i]?=some v->(os.map a.eval)[i]?=some u->Den M w σ v u
 | [],xs,K,hc,h=>by
   simp[cXs] at hc;subst hc;exact⟨[],h,rfl,fun _ _ _ _ _=>by simp⟩
 | o::os,xs,K,hc,h=>by
   unfold cXs at hc;split at hc<;>simp only[Option.some.injEq,reduceCtorEq] at hc;rename_i x xs' h1 h2;subst hc;obtain⟨v,h,hv⟩:=J0h h1 h;obtain⟨vs,hK,hl,hvs⟩:=J39 h2 h;refine⟨_,hK,by simp[hl],?_⟩;intro M w σ a hx i v' u' hv' hu';cases i with
   | zero=>simp at hv' hu';subst hv' hu';exact hv M w σ a (hx x (by simp))
   | succ i=>exact hvs M w σ a (fun y hy=>hx y (by simp[hy])) i v' u' (by simpa using hv') (by simpa using hu')
theorem J8Q:∀{os:List Operand} {xs:List X},cXs os=some xs->xs.length=os.length
 | [],xs,h=>by simp[cXs] at h;subst h;rfl
 | o::os,xs,h=>by
   unfold cXs at h;split at h<;>simp only[Option.some.injEq,reduceCtorEq] at h;rename_i x xs' h1 h2;subst h;simp[J8Q h2]
def OP (o:Oper) (a:Act) (M:Nat->Prop) (w:World) (σ:Sg) (own:Own) (ks:List Nat) (K:V->Own->List Nat->Prop):Act->World->Prop:=fun a' w' =>
 ∃u M' σ' v own' ks',a'=a.put o.dst u/\Den M' w' σ' v u/\J0S M' w' σ' own' ks'/\Tr M w σ own M' w' σ' own'/\Kd σ own ks σ' own' ks'/\K v own' ks'
theorem J0y {P:Program} {o:Oper} {a:Act} {w w':World} {u:Value} {next:Act->World->Prop} {Q:Exit->Act->World->Prop} (h:(execOp a.eval o).run P w=.ok (.value u) w') (hn:next (a.put o.dst u) w'):o.wp P a w next Q:=by
 unfold Oper.wp;rw[h];exact hn
theorem Q22 {P:Program} {o:Oper} {zs:List V} {ps:List (Nat×Nat×X)} (hc:cOp P o.op=some (.build zs ps)) {env:Env} {K:V->Prop}
 (h:Q2G env ps zs fun cs=>K (.agg cs)):∃v,K v/\J77 P o (SOp.xs (.build zs ps)) env v:=by
 obtain⟨dst,op,type,pos,after,guard⟩:=o;have hw:=J2c hc;simp only at hw;cases hw with
 | build t parts place _ _ h1 h2 hp =>
   obtain⟨r,hK,hl,_,hr⟩:=J7u env _ _ _ _ _ hp h;refine⟨_,hK,fun M w σ a ok=>?_⟩;obtain⟨i,z,hi,hz,hzc⟩:=J03 h2;obtain⟨l1,l2⟩:=J0U (M:=M) (w:=w) σ hzc;obtain⟨us',f1,f2,f3⟩:=hr M w σ a z.cells.toList ok l1 l2;refine⟨.agg us'.toArray,?_,.agg _ _ _ (by omega) f3⟩;refine J05 (s:=Instr.build t (parts.map fun(i,x)=>(i,a.eval x))) (run_build w t _ _ ?_);rw[X13 h1 hi hz,Array.toList_map];simpa using f1
theorem X4P {x:X} {env:Env} {K:V->Prop} (h:x.get env K):∃v,K v/\x.get env (·=v):=by
 cases x with
 | t n =>
   simp only[X.get] at h ⊢;split at h
   . rename_i v hv;exact⟨v,h,rfl⟩
   . exact h.elim
 | k v=>exact⟨v,h,rfl⟩
theorem J8y {P:Program} {o:Oper} {sz:Option Nat} {x:X} (hc:cOp P o.op=some (.load sz x)) {env:Env} {own:Own} {ks:List Nat} {K:V->Own->List Nat->Prop}
 (h:vop P (.load sz x) env own ks K):∃t x0 p v,o.op=.load t x0/\J3F P t=some sz/\K v own ks/\x.get env (·=p)/\(∀M w σ a,XOk M w σ env a x->Den M w σ p (a.eval x0))/\Q1S P t p v own/\(∀u,v≠.raw u):=by
 obtain⟨dst,op,type,pos,after,guard⟩:=o;have hw:=J2c hc;simp only at hw;cases hw with
 | load t x0 _ _ h1 h2 =>
   obtain⟨p,h,hg⟩:=X4P h;obtain⟨p',rfl,hp⟩:=J0h h2 hg;obtain⟨v,hK,hf,hnr⟩:=Q16 h1 h;exact⟨t,x0,p',v,rfl,h1,hK,hg,hp,hf,hnr⟩
theorem J2u:∀{us:List Value} {vs:List V},J24 us=some vs->∀v∈vs,v.cellB=true
 | [],vs,h=>by simp[J24] at h;subst h;simp
 | u::r,vs,h=>by
   unfold J24 at h;split at h<;>simp at h;rename_i x xs h1 h2;subst h;intro v hv;rcases List.mem_cons.1 hv with e|e
   . subst e;unfold J65 at h1;split at h1<;>simp at h1<;>subst h1<;>rfl
   . exact J2u h2 v e
def SOp.isNew:SOp->Bool
 | .alloc _ | .box _ | .bslice _ _ _ | .alloca _ _=>true
 | .xt (.mks _ _ _ _)=>true
 | _=>false
def Q5P (P:Program) (o:Oper) (xs:List X) (env:Env) (k:Nat) (b:Blk) (v:V):Prop :=
 ∀M w σ a own ks,(∀x,x∈xs->XOk M w σ env a x)->J0S M w σ own (k::ks) ->
  ∃u w' M' σ',(execOp a.eval o).run P w=.ok (.value u) w'/\J0S M' w' σ' ((k,b)::own) ks/\Tr M w σ own M' w' σ' ((k,b)::own)/\Den M' w' σ' v u/\J0u σ' k≠none/\Kd σ own (k::ks) σ' ((k,b)::own) ks
theorem Q1M {M:Nat->Prop} {w:World} {σ:Sg} {k off:Nat} {u:Value} (h:Den M w σ (.loc k off) u):J0u σ k≠none:=by
 cases h with
 | loc _ _ _ b base κ hk=>simp[J0u,hk]
theorem J2T {P:Program} (w:World) (t e:TypeId) (len:Nat) (parts:Array (Nat×Value)) (cells:Array Value) (s:Nat) (ie:TypeInfo) (z:Value)
 (hu:P.underlying t=some (.slice e)) (hie:P.info? e=some ie) (hz:ie.zero=some z) (hs:ie.size=s) (hsmall:len*s<=16777216)
 (h:Instr.fill (fun i=>some (i*s,s)) ((Array.range (len*s)).map (fun j=>(if len*s=0 then #[] else z.cells)[j % (if len*s=0 then #[] else z.cells).size]!)) parts.toList=some cells) :
 (Instr.buildSlice t len parts).run P w=.ok (.slice (some ⟨w.heap.size,0,none⟩) len len) (w.alloc (.cells cells e)):=by
 subst hs;have hb:¬ (len*ie.size > 2 ^ 24):=Nat.not_lt.2 hsmall;by_cases h0:len*ie.size=0
 . simp only[h0,if_true] at h;simp[Instr.buildSlice,run_underlying hu,sizeOf,typeInfo,zeroValue,hie,hz,h0,newRow] ;have h':Instr.fill (fun i=>some (i*ie.size,ie.size)) #[] parts.toList=some cells:=by
    rw[show Array.range 0=#[] from by simp[Array.range]] at h;simpa using h
   simp[show Array.range 0=#[] from by simp[Array.range],h']
 . simp only[h0,if_false] at h;simp[Instr.buildSlice,run_underlying hu,sizeOf,typeInfo,zeroValue,hie,hz,hb,h0,h,newRow]
theorem X4l {P:Program} {o:Oper} {s b:Nat} {zs:List V} {x:X} (hc:X1Z P o.op=some (.mks s b zs x)) {env:Env} {own:Own} {ks:List Nat} {K:V->Own->List Nat->Prop} (h:Q54 (.mks s b zs x) env own ks K) :
 ∃k ks' bl v,ks=k::ks'/\K v ((k,bl)::own) ks'/\Q5P P o [x] env k bl v/\(v=.loc k 0\/(∃s n,v=.vec k s 0 n)\/v=.oel k 1 0 0):=by
 obtain⟨dst,op,type,pos,after,guard⟩:=o;simp only at hc;unfold X1Z at hc;split at hc
 case h_1 =>
  rename_i t l c;split at hc
  case h_2=>cases hc
  rename_i e he;split at hc
  case h_2=>cases hc
  rename_i s b zs x h1 h2 h3 h4 h5;split at hc
  case h_2=>cases hc
  rename_i hzl hzk;cases hc;have hzl:=Nat.eq_of_beq_eq_true hzl;obtain⟨v,h,hv⟩:=J0h h4 h;split at h
  case h_2=>exact h.elim
  rename_i k n;obtain⟨m,rfl,hm,h⟩:=h;obtain⟨hbm,h⟩:=h;obtain⟨kk,ks',rfl,hK⟩:=J0D h;obtain⟨i,z,hi,hz,hzc⟩:=J03 h3;have hisz:i.size=s:=by simpa[J3a,hi] using h1
  have hib:i.bytes=b:=by simpa[hi] using h2
  have hb':(i.bytes:Int)*(m:Int)<=281474976710656:=by
   have:((i.bytes*m:Nat):Int)<=281474976710656:=by rw[hib,Nat.mul_comm];omega
   rwa[Int.natCast_mul] at this
  have hlc:∀M w σ a,(∀y,y∈[x]->XOk M w σ env a y)->a.eval l=.int k m/\∃kc,a.eval c=.int kc m:=by
   intro M w σ a ok;have dv:=hv M w σ a (ok _ (by simp));have hl:a.eval l=.int k m:=by generalize a.eval l=q at dv;cases dv;rfl
   refine⟨hl,?_⟩;unfold Q0E at h5;split at h5
   . rename_i n1 n2 e1 e2;cases e1;cases e2;rw[<- Nat.eq_of_beq_eq_true h5];exact⟨_,hl⟩
   . rename_i k1 a1 k2 a2 e1 e2;cases e1;cases e2;have e3:=of_decide_eq_true h5;simp only[Act.eval] at hl ⊢;cases hl;exact⟨k2,by rw[e3]⟩
   . cases h5
  rcases Q3X hK with hK1 | ⟨hs1,hK1⟩
  rotate_left
  . subst hs1;refine⟨kk,ks',_,_,rfl,hK1,?_,.inr (.inl ⟨_,_,rfl⟩)⟩;intro M w σ a own0 ks0 ok hh;obtain⟨hl,kc,hlc⟩:=hlc M w σ a ok;obtain⟨l1,l2⟩:=J0U (M:=M) (w:=w) Sg.none hzc;have hr:=run_make (P:=P) w t e i z he hi hz k kc m m (by omega) (Int.le_refl _) hb' (by omega);simp only[Int.toNat_natCast] at hr;have zsz:z.cells.size=1:=by simp at l1;omega
    have hz0:0<zs.length:=by omega
    have hd:=l2 0 zs[0] z.cells[0] (by simp[hz0]) (by simp[show 0<z.cells.size by omega]);obtain⟨M',σ',n1,n2,n3,n4,n5⟩:=J5t (k:=kk) (ks:=ks0) hh 1 m (List.replicate m (zs.getD 0 default)) (madeCells z.cells (m*i.size)) e (by rw[size_madeCells,hisz];simp) (fun q x y hx hy=>by
     have hq:q<m:=by have:=(List.getElem?_eq_some_iff.1 hx).1;simpa using this
     have ex:x=zs[0]:=by
      rw[List.getElem?_replicate,if_pos hq] at hx;simp only[Option.some.injEq] at hx;rw[<- hx];simp[List.getD,hz0]
     have ey:y=z.cells[0]:=by
      simp only[madeCells,Array.getElem?_map] at hy;rw[Array.getElem?_range,if_pos (by rw[hisz];omega)] at hy;simp only[Option.map_some,zsz,Nat.mod_one,Option.some.injEq] at hy;rw[<- hy,getElem!_pos z.cells 0 (by omega)]
     rw[ex,ey];exact hd.mono ⟨fun _ _ h=>⟨h,rfl⟩,Nat.le_refl _⟩ (fun _ _ h=>by cases h))
    refine⟨.slice (some ⟨w.heap.size,0,none⟩) m m,w.alloc (.cells (madeCells z.cells (m*i.size)) e),M',σ',?_,n1,n2,n3,n4,n5⟩;refine J05 (s:=Instr.makeSlice t (a.eval l) (a.eval c)) ?_;rw[hl,hlc];exact hr
  . refine⟨kk,ks',_,_,rfl,hK1,?_,.inr (.inl ⟨_,_,rfl⟩)⟩;intro M w σ a own0 ks0 ok hh;obtain⟨hl,kc,hlc⟩:=hlc M w σ a ok;obtain⟨l1,l2⟩:=J0U (M:=M) (w:=w) Sg.none hzc;have hr:=run_make (P:=P) w t e i z he hi hz k kc m m (by omega) (Int.le_refl _) hb' (by omega);simp only[Int.toNat_natCast] at hr;have zsz:z.cells.size=s:=by simp at l1;omega
    obtain⟨M',σ',n1,n2,n3,n4,n5⟩:=J4X (w':=w.alloc (.cells (madeCells z.cells (m*i.size)) e)) (k:=kk) (ks:=ks0) hh m s m (fun _ j=>zs.getD j default) (madeCells z.cells (m*i.size)) e (.inl rfl) (Nat.le_refl _) (by rw[size_madeCells,hisz];exact Nat.le_refl _) (fun p j hp hj=>by
     have hlt:p*s+j<m*s:=by
      have:(p+1)*s<=m*s:=Nat.mul_le_mul_right _ hp;rw[Nat.add_mul] at this;omega
     have hjz:j<z.cells.size:=by omega
     have hjs:j<zs.length:=by omega
     have hmod:(p*s+j) % z.cells.size=j:=by
      rw[zsz,Nat.add_comm,Nat.add_mul_mod_self_right,Nat.mod_eq_of_lt hj]
     have hd:=l2 j zs[j] z.cells[j] (by simp[hjs]) (by simp[hjz]);refine⟨z.cells[j],?_,hd.oneCell ?_,by simpa[List.getD,hjs] using hd⟩
     . simp only[madeCells,Array.getElem?_map];rw[Array.getElem?_range,if_pos (by rw[hisz];exact hlt)];simp only[Option.map_some,hmod];rw[getElem!_pos z.cells j hjz]
     . exact J2u hzc _ (List.getElem_mem hjs))
    refine⟨.slice (some ⟨w.heap.size,0,none⟩) m m,w.alloc (.cells (madeCells z.cells (m*i.size)) e),M',σ',?_,n1,n2,n3 m (Nat.le_refl _),by rw[n4];simp,n5⟩;refine J05 (s:=Instr.makeSlice t (a.eval l) (a.eval c)) ?_;rw[hl,hlc];exact hr
 all_goals
  repeat' (split at hc)
  all_goals (first|(cases hc;done)|(simp at hc;done)|skip)
theorem Q0W {P:Program} {o:Oper} {so:SOp} (hc:cOp P o.op=some so) (hn:so.isNew=true) {env:Env} {own:Own} {ks:List Nat} {K:V->Own->List Nat->Prop} (h:vop P so env own ks K) :
 ∃k ks' b v,ks=k::ks'/\K v ((k,b)::own) ks'/\Q5P P o so.xs env k b v/\(v=.loc k 0\/(∃s n,v=.vec k s 0 n)\/v=.oel k 1 0 0):=by
 obtain⟨dst,op,type,pos,after,guard⟩:=o;simp only at hc;cases so<;>simp only[SOp.isNew,reduceCtorEq] at hn
 case alloc zs =>
  obtain⟨k,ks',rfl,hK⟩:=J0D h;refine⟨k,ks',_,_,rfl,hK,?_,.inl rfl⟩;intro M w σ a own0 ks0 _ hh;obtain⟨t,rfl,hz⟩:∃t,op=.alloc t/\J1P P t=some zs:=by cases J2c hc with|alloc t _ h=>exact⟨t,rfl,h⟩
  obtain⟨i,z,hi,hzz,hzc⟩:=J03 hz;obtain⟨l1,l2⟩:=J0U (M:=M) (w:=w) σ hzc;obtain⟨M',σ',n1,n2,n3,n4⟩:=Q0X hh zs z.cells t (by simpa using l1.symm) (fun i x y hx hy=>l2 i x y hx (by simpa using hy));refine⟨_,_,M',σ',?_,n1,n2,n3,Q1M n3,n4⟩;refine J05 (s:=Instr.alloc t true (.tuple #[])) ?_;simp[Instr.alloc,zeroValue,typeInfo,Sem.run_bind,hi,hzz,newVar,newRow,go_sem]
 case alloca n z =>
  obtain⟨k,ks',rfl,hK⟩:=J0D h;refine⟨k,ks',_,_,rfl,hK,?_,.inr (.inr rfl)⟩;intro M w σ a own0 ks0 _ hh;obtain⟨t,rfl,hb⟩:∃t,op=.alloc t/\Q4L P t=some (n,z):=by cases J2c hc with|alloca t _ _ h=>exact⟨t,rfl,h⟩
  unfold Q4L at hb;split at hb
  case h_2=>cases hb
  rename_i n0 e zs hu hz;split at hb
  case h_2=>cases hb
  rename_i z0 hb1 hb2 hsz;cases hb;have hlen:=Nat.eq_of_beq_eq_true hb2;obtain⟨zall,zk,zc⟩:=Q5a hsz;obtain⟨i,zz,hi,hzz,hzc⟩:=J03 hz;obtain⟨l1,l2⟩:=J0U (M:=M) (w:=w) Sg.none hzc;obtain⟨M',σ',n1,n2,n3,n4,n5⟩:=J4X (w':=w.alloc (.cells zz.cells t)) hh n 1 n (fun _ _=>z) zz.cells t (.inl rfl) (Nat.le_refl _) (by simp at l1;omega) (fun i j hi hj=>by
   have hj0:j=0:=by omega
   subst hj0;have h1:i<zs.length:=by omega
   have h2:i<zz.cells.size:=by simp at l1;omega
   have hd:=l2 i zs[i] zz.cells[i] (by simp[h1]) (by simp[h2]);rw[zall _ (List.getElem_mem h1)] at hd;exact⟨zz.cells[i],by simp[h2],hd.oneCell zc,hd⟩)
  have n3':=n3 n (Nat.le_refl _);refine⟨.pointer (some ⟨w.heap.size,0,none⟩),_,M',σ',?_,n1,n2,?_,by rw[n4];simp,n5⟩
  . refine J05 (s:=Instr.alloc t true (.tuple #[])) ?_;simp[Instr.alloc,zeroValue,typeInfo,Sem.run_bind,hi,hzz,newVar,newRow,go_sem]
  . have hb8:=Nat.le_of_ble_eq_true hb1;cases n3' with
    | vec _ _ _ _ _ bo base κ c ad hk hc hl ha =>
      obtain⟨b,e1,e2⟩:=ha (by omega);simp only[Option.some.injEq,Addr.mk.injEq] at e2;obtain⟨e3,e4,_⟩:=e2;subst e1 e3;have hb0:base=0:=by omega
      subst hb0;exact .oel _ k 1 0 0 _ 0 _ hk
 case xt xo =>
  have hx:X1Z P op=some xo:=by cases J2c hc with|xt _ _ h=>exact h
  cases xo<;>simp only[Bool.false_eq_true] at hn;rename_i s b zs x;exact X4l (o:=⟨dst,op,type,pos,after,guard⟩) hx h
 case box x =>
  obtain⟨t,x0,rfl,hx⟩:∃t x0,op=.box t x0/\cX x0=some x:=by cases J2c hc with|box t x0 _ h=>exact⟨t,x0,rfl,h⟩
  obtain⟨v,h,hv⟩:=J0h hx h;obtain⟨cs,h,hcs⟩:=J1M h;obtain⟨k,ks',rfl,hK⟩:=J0D h;refine⟨k,ks',_,_,rfl,hK,?_,.inl rfl⟩;intro M w σ a own0 ks0 ok hh;obtain⟨l1,l2⟩:=hcs M w σ _ (hv M w σ a (ok _ (by simp[SOp.xs])));obtain⟨M',σ',n1,n2,n3,n4⟩:=Q0X hh cs (a.eval x0).cells t l1.symm l2;refine⟨_,_,M',σ',?_,n1,n2,n3,Q1M n3,n4⟩;exact J05 (s:=Instr.box t (a.eval x0)) rfl
 case bslice s len xs =>
  obtain⟨t,parts,e,zs,rfl,ht,hs,hz,hxs,hidx,hlen,hbig⟩:∃t parts e zs,op=.buildSlice t len parts/\P.underlying t=some (.slice e)/\J3a P e=some s/\J1P P e=some zs /\
   cXs (parts.toList.map (·.2))=some xs/\J1O 0 parts.toList=true/\parts.toList.length=len/\len*s<=16777216:=by
   cases J2c hc with|bslice t _ parts e _ zs _ h1 h2 h3 h4 h5 h6 h7=>exact⟨t,parts,e,zs,rfl,h1,h2,h3,h4,h5,h6,h7⟩
  obtain⟨vs,h,hvl,hvs⟩:=J39 hxs h;cases hkf:J2O V.kf2 vs with
  | false =>
    rw[hkf] at h;simp only at h;obtain⟨cs,h,hcl,hcs⟩:=J7r s vs _ h;obtain⟨k,ks',rfl,hK⟩:=J0D h;refine⟨k,ks',_,_,rfl,hK,?_,.inr (.inl ⟨_,_,rfl⟩)⟩;intro M w σ a own0 ks0 ok hh;obtain⟨q1,q2⟩:=hcs M w σ ((parts.toList.map (·.2)).map a.eval) (by simpa using hvl) (hvs M w σ a ok);obtain⟨i,z,hi,hzz,hzc⟩:=J03 hz;have hisz:i.size=s:=by simpa[J3a,hi] using hs
    have hps:J1O 0 (parts.toList.map fun p=>(p.1,a.eval p.2))=true:=by
     have:∀(l:List (Nat×Operand)) (n:Nat),J1O n l=true->J1O n (l.map fun p=>(p.1,a.eval p.2))=true:=by
      intro l
      induction l with
      | nil=>intro n _;rfl
      | cons p l ih =>
        intro n hn;obtain⟨k,x⟩:=p;simp only[J1O,List.map_cons] at hn ⊢;split at hn
        . exact ih _ hn
        . cases hn
     exact this _ _ hidx
    have zsz:∀q,((Array.range q).map (fun j=>(if len*s=0 then #[] else z.cells)[j % (if len*s=0 then #[] else z.cells).size]!):Array Value).size=q:=by intro q;simp
    obtain⟨cells',f1,f2,f3,f4⟩:=J7t s (parts.toList.map fun p=>(p.1,a.eval p.2)) 0
     ((Array.range (len*s)).map (fun j=>(if len*s=0 then #[] else z.cells)[j % (if len*s=0 then #[] else z.cells).size]!)) hps
     (fun p hp=>by
       obtain⟨p0,hp0,rfl⟩:=List.mem_map.1 hp;exact q1 _ (by simp only[List.map_map,List.mem_map,Function.comp];exact⟨p0,hp0,rfl⟩))
     (by rw[zsz];simp at hlen ⊢;rw[hlen];exact Nat.le_refl _)
    rw[zsz] at f2;have hvl':vs.length=len:=by rw[hvl];simpa using hlen
    obtain⟨M',σ',n1,n2,n3,n4,n5⟩:=J5t (k:=k) (ks:=ks0) hh s len cs cells' e (by rw[f2,hcl,hvl']) (fun q x y hx hy=>by
     have hq:q<len*s:=by rw[<- f2];exact(Array.getElem?_eq_some_iff.1 hy).1
     have hs0:0<s:=by
      rcases Nat.eq_zero_or_pos s with h|h
      . subst h;simp at hq
      . exact h
     have hqs:q / s<len:=Nat.div_lt_of_lt_mul (by rw[Nat.mul_comm];exact hq);have hqm:q % s<s:=Nat.mod_lt _ hs0;have hqe:q / s*s+q % s=q:=by rw[Nat.mul_comm];exact Nat.div_add_mod q s
     have hlt:q / s<parts.toList.length:=by omega
     obtain⟨x',y',x1,x2,x3,x4⟩:=q2 (q / s) (a.eval (parts.toList[q / s]).2) (by simp[List.getElem?_eq_getElem hlt]) (q % s) hqm;have:=f4 (q / s) ((parts.toList[q / s]).1,a.eval (parts.toList[q / s]).2) (by simp[List.getElem?_eq_getElem hlt]) (q % s) hqm;simp only[Nat.zero_add] at this;rw[hqe] at this x3;rw[this,x1] at hy;rw[x3] at hx;cases hy;cases hx;exact x4)
    have hrun:=J2T (P:=P) w t e len (parts.map fun(i,x)=>(i,a.eval x)) cells' s i z ht hi hzz hisz hbig (by rw[Array.toList_map];exact f1);exact⟨_,_,M',σ',J05 hrun,n1,n2,n3,n4,n5⟩
  | true =>
  rw[hkf] at h;simp only at h;obtain⟨rs,h,hrl,hrs⟩:=J6V s vs _ h;obtain⟨k,ks',rfl,hK⟩:=J0D h;refine⟨k,ks',_,_,rfl,hK,?_,.inr (.inl ⟨_,_,rfl⟩)⟩;intro M w σ a own0 ks0 ok hh;have hxl:xs.length=len:=by rw[J8Q hxs];simpa using hlen
  obtain⟨q1,q2⟩:=hrs M w σ ((parts.toList.map (·.2)).map a.eval) (by simpa using hvl) (hvs M w σ a ok);obtain⟨i,z,hi,hzz,hzc⟩:=J03 hz;have hisz:i.size=s:=by simpa[J3a,hi] using hs
  have hps:J1O 0 (parts.toList.map fun p=>(p.1,a.eval p.2))=true:=by
   have:∀(l:List (Nat×Operand)) (n:Nat),J1O n l=true->J1O n (l.map fun p=>(p.1,a.eval p.2))=true:=by
    intro l
    induction l with
    | nil=>intro n _;rfl
    | cons p l ih =>
      intro n hn;obtain⟨k,x⟩:=p;simp only[J1O,List.map_cons] at hn ⊢;split at hn
      . exact ih _ hn
      . cases hn
   exact this _ _ hidx
  have zsz:∀q,((Array.range q).map (fun j=>(if len*s=0 then #[] else z.cells)[j % (if len*s=0 then #[] else z.cells).size]!):Array Value).size=q:=by intro q;simp
  obtain⟨cells',f1,f2,f3,f4⟩:=J7t s (parts.toList.map fun p=>(p.1,a.eval p.2)) 0
   ((Array.range (len*s)).map (fun j=>(if len*s=0 then #[] else z.cells)[j % (if len*s=0 then #[] else z.cells).size]!)) hps
   (fun p hp=>by
     obtain⟨p0,hp0,rfl⟩:=List.mem_map.1 hp;exact q1 _ (by simp only[List.map_map,List.mem_map,Function.comp];exact⟨p0,hp0,rfl⟩))
   (by rw[zsz];simp at hlen ⊢;rw[hlen];exact Nat.le_refl _)
  rw[zsz] at f2;obtain⟨M',σ',n1,n2,n3,n4,n5⟩:=J4X (w':=w.alloc (.cells cells' e)) hh len s len (tab rs) cells' e (.inl rfl) (Nat.le_refl _) (by omega) (fun i j hi hj=>by
   have hlt:i<parts.toList.length:=by omega
   obtain⟨x,x1,x2,x3⟩:=q2 i (a.eval (parts.toList[i]).2) (by simp[List.getElem?_eq_getElem hlt]) j hj;refine⟨x,?_,x2,x3⟩;have:=f4 i ((parts.toList[i]).1,a.eval (parts.toList[i]).2) (by simp[List.getElem?_eq_getElem hlt]) j hj;simp only[Nat.zero_add] at this;rw[this];exact x1)
  have n3':=n3 len (Nat.le_refl _);have hrun:=J2T (P:=P) w t e len (parts.map fun(i,x)=>(i,a.eval x)) cells' s i z ht hi hzz hisz hbig (by rw[Array.toList_map];exact f1);exact⟨_,_,M',σ',J05 hrun,n1,n2,n3',by rw[n4];simp,n5⟩
end Go.Eng
namespace Go.Eng
open Go.ChangeMaps (setBlock)
theorem set_same {w:World} {r:Nat} {o:Obj} (h:r<w.heap.size):(setBlock w r o).heap[r]?=some o:=by simp[setBlock,h]
theorem set_other {w:World} {r k:Nat} {o:Obj} (h:k≠r):(setBlock w r o).heap[k]?=w.heap[k]?:=by
 simp[setBlock,Array.getElem?_setIfInBounds_ne (Ne.symm h)]
theorem Q3F {w:World} {r:Nat} {o:Obj}:(setBlock w r o).heap.size=w.heap.size:=by simp[setBlock]
theorem Q0x:∀(l:List IntKind) (vs:List V) (K:KyS l->Prop),stK l vs K->∃p,K p/\∀M w σ (us:List Value),vs.length=us.length->(∀(i:Nat) (v:V) (u:Value),vs[i]?=some v->us[i]?=some u->Den M w σ v u)->us=stP l p
 | [],vs,K,h=>by
   cases vs with
   | nil=>exact⟨(),h,fun M w σ us hl _=>by simpa[stP] using List.eq_nil_of_length_eq_zero hl.symm⟩
   | cons=>exact h.elim
 | k::l,vs,K,h=>by
   cases vs with
   | nil=>exact h.elim
   | cons v r =>
     cases v<;>first|exact h.elim|skip
     rename_i k' a;simp only[stK] at h;split at h
     case h_2=>exact h.elim
     rename_i hk;have hk:=of_decide_eq_true hk;subst hk;obtain⟨p,hK,hp⟩:=Q0x l r _ h;refine⟨(a,p),hK,fun M w σ us hl hd=>?_⟩
     match us,hl,hd with
     | u::us,hl,hd =>
       have h0:=hd 0 _ u rfl rfl;cases h0;rw[hp M w σ us (by simpa using hl) (fun i v u hv hu=>hd (i+1) v u (by simpa using hv) (by simpa using hu))];rfl
theorem J61 {ik:MKd} {v:V} {K:KyT ik->Prop} (h:J62 ik v K):∃p,K p/\∀M w σ u,Den M w σ v u->u=J2q ik p:=by
 cases ik with
 | one ik =>
   simp only[J62] at h;split at h
   . split at h
     . rename_i e1;have e1:=of_decide_eq_true e1;subst e1;exact⟨_,h,fun M w σ u hd=>by cases hd;rfl⟩
     . exact h.elim
   . exact h.elim
 | str =>
   simp only[J62] at h;split at h
   . exact⟨_,h,fun M w σ u hd=>by cases hd;rfl⟩
   . exact h.elim
 | st l =>
   simp only[J62] at h;split at h
   . obtain⟨p,hK,hp⟩:=Q0x l _ _ h;refine⟨p,hK,fun M w σ u hd=>?_⟩;cases hd with
     | agg _ _ us hl hd=>rw[J2q,hp M w σ us hl hd]
   . exact h.elim
 | pair ik =>
 simp only[J62] at h;split at h
 . rename_i k a k' b;split at h
   . rename_i e1 e2;have e1:=of_decide_eq_true e1;have e2:=of_decide_eq_true e2;subst e1 e2;refine⟨_,h,fun M w σ u hd=>?_⟩;cases hd with
     | agg _ _ us hl hd =>
       match us,hl,hd with
       | [x,y],_,hd =>
         have h1:=hd 0 _ x rfl rfl;have h2:=hd 1 _ y rfl rfl;cases h1;cases h2;rfl
   . exact h.elim
 . exact h.elim
theorem J37 {own:Own} {m:V} {K:Nat->(ik:MKd)->List (KyT ik×V)->Prop} (h:Q9L own m K):∃k ik es,m=.map k/\look own k=some (.map ik es)/\K k ik es:=by
 unfold Q9L at h;split at h
 . split at h
   . exact⟨_,_,_,rfl,‹_›,h⟩
   . exact h.elim
 . exact h.elim
theorem J7g {own:Own} {m:V} {K:Nat->Nat->Nat->List Nat->(ik:MKd)->List (KyT ik×V)->Prop} (h:X1d own m K) :
 ∃k km n J1O ik es,m=.loc k 0/\look own k=some (.iter km n J1O)/\look own km=some (.map ik es)/\es.length=n/\K k km n J1O ik es:=by
 unfold X1d at h;split at h
 . split at h
   . split at h
     . obtain⟨h1,h2⟩:=h;exact⟨_,_,_,_,_,_,rfl,‹_›,‹_›,Nat.eq_of_beq_eq_true h1,h2⟩
     . exact h.elim
   . exact h.elim
 . exact h.elim
theorem Q4t {M:Nat->Prop} {w:World} {σ:Sg} {ik:MKd} (p:KyT ik):Den M w σ (Y0Z ik p) (J2q ik p):=by
 cases ik with
 | one k=>exact .int _ _ _
 | str=>exact .str _ _
 | st l =>
   have key:∀(l:List IntKind) (p:KyS l),(stV l p).length=(stP l p).length/\∀(i:Nat) (v:V) (u:Value),(stV l p)[i]?=some v->(stP l p)[i]?=some u->Den M w σ v u:=by
    intro l
    induction l with
    | nil=>intro p;exact⟨rfl,fun i v u hv=>by simp[stV] at hv⟩
    | cons k l ih =>
      intro p;obtain⟨h1,h2⟩:=ih p.2;refine⟨by simp[stV,stP,h1],fun i v u hv hu=>?_⟩;cases i with
      | zero=>simp[stV,stP] at hv hu;subst hv hu;exact .int _ _ _
      | succ i=>exact h2 i v u (by simpa[stV] using hv) (by simpa[stP] using hu)
   exact .agg _ _ _ (key l p).1 (key l p).2
 | pair ik =>
   refine .agg _ _ [.int ik p.1,.int ik p.2] rfl fun i v u hv hu=>?_
   match i,hv,hu with
   | 0,hv,hu=>simp at hv hu;subst hv hu;exact .int _ _ _
   | 1,hv,hu=>simp at hv hu;subst hv hu;exact .int _ _ _
   | i+2,hv,hu=>simp at hv
theorem J6t {M:Nat->Prop} {w:World} {σ:Sg} {a b:V} {x y:Value} (h1:Den M w σ a x) (h2:Den M w σ b y):Den M w σ (.tup [a,b]) (.tuple #[x,y]):=by
 refine .tup _ _ [x,y] rfl fun i v u hv hu=>?_
 match i,hv,hu with
 | 0,hv,hu=>simp at hv hu;subst hv hu;exact h1
 | 1,hv,hu=>simp at hv hu;subst hv hu;exact h2
 | i+2,hv,hu=>simp at hv
theorem X1D {M:Nat->Prop} {w:World} {σ:Sg} {a b c:V} {x y z:Value} (h1:Den M w σ a x) (h2:Den M w σ b y) (h3:Den M w σ c z):Den M w σ (.tup [a,b,c]) (.tuple #[x,y,z]):=by
 refine .tup _ _ [x,y,z] rfl fun i v u hv hu=>?_
 match i,hv,hu with
 | 0,hv,hu=>simp at hv hu;subst hv hu;exact h1
 | 1,hv,hu=>simp at hv hu;subst hv hu;exact h2
 | 2,hv,hu=>simp at hv hu;subst hv hu;exact h3
 | i+3,hv,hu=>simp at hv
theorem X1E {M:Nat->Prop} {w:World} {σ:Sg} {a:V} {x:Value} (h1:Den M w σ a x):Den M w σ (.tup [a]) (.tuple #[x]):=by
 refine .tup _ _ [x] rfl fun i v u hv hu=>?_
 match i,hv,hu with
 | 0,hv,hu=>simp at hv hu;subst hv hu;exact h1
 | i+1,hv,hu=>simp at hv
theorem Den.none_le {M:Nat->Prop} {w:World} {σ:Sg} {v:V} {u:Value} (h:Den M w Sg.none v u):Den M w σ v u:=h.mono ⟨fun _ _ h=>⟨h,rfl⟩,Nat.le_refl _⟩ (fun _ _ h=>by cases h)
theorem X1c (ik:MKd) (p:KyT ik) (P:Program) (w:World):(Instr.keyThatStays (J2q ik p) (J2q ik p)).run P w=.ok (J2q ik p) w:=by
 have:Instr.sameBits 10000 (J2q ik p) (J2q ik p)=true:=by
  cases ik with
  | st l =>
    rw[J2q,show(10000:Nat)=9999+1 from rfl];have key:∀(l:List IntKind) (p:KyS l),((stP l p).zip (stP l p)).all (fun(x:Value×Value)=>Instr.sameBits 9999 x.1 x.2)=true:=by
     intro l
     induction l with
     | nil=>intro p;rfl
     | cons k l ih=>intro p;simp[stP,Instr.sameBits,ih p.2]
    simpa[Instr.sameBits] using key l p
  | _=>(rw[J2q,show(10000:Nat)=9999+1 from rfl];simp[Instr.sameBits])<;>exact(Go.MapKept.bytes_beq _ _).2 rfl
 simp[Instr.keyThatStays,this,go_sem]
theorem J68 {α:Type}:∀{l:List (Nat×α)} {k:Nat} {v:α},(l.map (·.1)).Nodup->(k,v)∈l->look l k=some v
 | [],_,_,_,h=>by simp at h
 | (q,c)::l,k,v,hn,h=>by
   simp only[List.map_cons,List.nodup_cons] at hn;rcases List.mem_cons.1 h with e|e
   . cases e;simp[look]
   . have:Nat.beq q k=false:=by
      rw[<- Bool.not_eq_true];intro hb;have:=Nat.eq_of_beq_eq_true hb;subst this;exact hn.1 (List.mem_map.2 ⟨_,e,rfl⟩)
     simp only[look,this];exact J68 hn.2 e
theorem Q73 {σ:Sg} {own own':Own} {ks:List Nat} (h:own'.map (·.1)=own.map (·.1)):Kd σ own ks σ own' ks:=⟨fun _ h=>h,fun _ h _=>h,fun k hk=>.inl (by rw[h] at hk;exact hk)⟩
theorem Q5X {P:Program} {o:Oper} {xo:XOp} (hc:X1Z P o.op=some xo) {env:Env} {own:Own} {ks:List Nat} {K:V->Own->List Nat->Prop} (h:Q54 xo env own ks K)
 {M:Nat->Prop} {w:World} {σ:Sg} {a:Act} (ok:∀x,x∈xo.xs->XOk M w σ env a x) (hh:J0S M w σ own ks) (Q:Exit->Act->World->Prop):o.wp P a w (OP o a M w σ own ks K) Q:=by
 obtain⟨dst,op,type,pos,after,guard⟩:=o;simp only at hc;unfold X1Z at hc;split at hc
 . -- a new slice
   rename_i t l c;split at hc
   case h_2=>cases hc
   rename_i e he;split at hc
   case h_2=>cases hc
   rename_i s b zs x h1 h2 h3 h4 h5;split at hc
   case h_2=>cases hc
   rename_i hzl hzk;cases hc;have hzl:=Nat.eq_of_beq_eq_true hzl;obtain⟨v,h,hv⟩:=J0h h4 h;have dv:=hv M w σ a (ok _ (by simp[XOp.xs]));split at h
   case h_2=>exact h.elim
   rename_i k n;obtain⟨m,rfl,hm,h⟩:=h;obtain⟨hbm,h⟩:=h;obtain⟨kk,ks',rfl,hK⟩:=J0D h;obtain⟨i,z,hi,hz,hzc⟩:=J03 h3;have hisz:i.size=s:=by simpa[J3a,hi] using h1
   have hib:i.bytes=b:=by simpa[hi] using h2
   obtain⟨l1,l2⟩:=J0U (M:=M) (w:=w) Sg.none hzc;have hl:a.eval l=.int k m:=by generalize a.eval l=q at dv;cases dv;rfl
   obtain⟨kc,hlc⟩:∃kc,a.eval c=.int kc m:=by
    unfold Q0E at h5;split at h5
    . rename_i n1 n2 e1 e2;cases e1;cases e2;rw[<- Nat.eq_of_beq_eq_true h5];exact⟨_,hl⟩
    . rename_i k1 a1 k2 a2 e1 e2;cases e1;cases e2;have e3:=of_decide_eq_true h5;simp only[Act.eval] at hl ⊢;cases hl;exact⟨k2,by rw[e3]⟩
    . cases h5
   have hb':(i.bytes:Int)*(m:Int)<=281474976710656:=by
    have:((i.bytes*m:Nat):Int)<=281474976710656:=by rw[hib,Nat.mul_comm];omega
    rwa[Int.natCast_mul] at this
   have hr:=run_make (P:=P) w t e i z he hi hz k kc m m (by omega) (Int.le_refl _) hb' (by omega);simp only[Int.toNat_natCast] at hr;have zsz:z.cells.size=s:=by simp at l1;omega
   rcases Q3X hK with hK1 | ⟨hs1,hK1⟩
   rotate_left
   . subst hs1;have hz0:0<zs.length:=by omega
     have hd:=l2 0 zs[0] z.cells[0] (by simp[hz0]) (by simp[show 0<z.cells.size by omega]);obtain⟨M',σ',n1,n2,n3,n4,n5⟩:=J5t (k:=kk) (ks:=ks') hh 1 m (List.replicate m (zs.getD 0 default)) (madeCells z.cells (m*i.size)) e (by rw[size_madeCells,hisz];simp) (fun q x y hx hy=>by
      have hq:q<m:=by have:=(List.getElem?_eq_some_iff.1 hx).1;simpa using this
      have ex:x=zs[0]:=by
       rw[List.getElem?_replicate,if_pos hq] at hx;simp only[Option.some.injEq] at hx;rw[<- hx];simp[List.getD,hz0]
      have ey:y=z.cells[0]:=by
       simp only[madeCells,Array.getElem?_map] at hy;rw[Array.getElem?_range,if_pos (by rw[hisz];omega)] at hy;simp only[Option.map_some,zsz,Nat.mod_one,Option.some.injEq] at hy;rw[<- hy,getElem!_pos z.cells 0 (by omega)]
      rw[ex,ey];exact hd.mono ⟨fun _ _ h=>⟨h,rfl⟩,Nat.le_refl _⟩ (fun _ _ h=>by cases h))
     refine J0y (u:=.slice (some ⟨w.heap.size,0,none⟩) m m) (w':=w.alloc (.cells (madeCells z.cells (m*i.size)) e)) ?_ ⟨_,M',σ',_,_,ks',rfl,n3,n1,n2,n5,hK1⟩;refine J05 (s:=Instr.makeSlice t (a.eval l) (a.eval c)) ?_;rw[hl,hlc];exact hr
   obtain⟨M',σ',n1,n2,n3,n4,n5⟩:=J4X (w':=w.alloc (.cells (madeCells z.cells (m*i.size)) e)) hh m s m (fun _ j=>zs.getD j default) (madeCells z.cells (m*i.size)) e (.inl rfl) (Nat.le_refl _) (by rw[size_madeCells,hisz];exact Nat.le_refl _) (fun p j hp hj=>by
    have hlt:p*s+j<m*s:=by
     have:(p+1)*s<=m*s:=Nat.mul_le_mul_right _ hp;rw[Nat.add_mul] at this;omega
    have hjz:j<z.cells.size:=by omega
    have hjs:j<zs.length:=by omega
    have hmod:(p*s+j) % z.cells.size=j:=by
     rw[zsz,Nat.add_comm,Nat.add_mul_mod_self_right,Nat.mod_eq_of_lt hj]
    have hd:=l2 j zs[j] z.cells[j] (by simp[hjs]) (by simp[hjz]);refine⟨z.cells[j],?_,hd.oneCell ?_,by simpa[List.getD,hjs] using hd⟩
    . simp only[madeCells,Array.getElem?_map];rw[Array.getElem?_range,if_pos (by rw[hisz];exact hlt)];simp only[Option.map_some,hmod];rw[getElem!_pos z.cells j hjz]
    . exact J2u hzc _ (List.getElem_mem hjs))
   refine J0y (u:=.slice (some ⟨w.heap.size,0,none⟩) m m) (w':=w.alloc (.cells (madeCells z.cells (m*i.size)) e)) ?_ ⟨_,M',σ',_,_,ks',rfl,n3 m (Nat.le_refl _),n1,n2,n5,hK1⟩;refine J05 (s:=Instr.makeSlice t (a.eval l) (a.eval c)) ?_;rw[hl,hlc];exact hr
 . -- a new map
   rename_i t;simp only[Option.map_eq_some_iff] at hc;obtain⟨⟨ik,kt,et,e⟩,hm,rfl⟩:=hc;obtain⟨kk,ks',rfl,hK⟩:=J0D h;obtain⟨M',n1,n2⟩:=J2V (w':=w.alloc (.map #[] 0)) hh (some w.heap.size,0,0) (.map ik []) (fun n e=>by simpa using e.symm) rfl rfl rfl (by rw[J3o];omega)
    (fun n hn=>J0O hn) (fun M' hM' hE=>⟨w.heap.size,0,#[],Sg.set_same _ _ _,(hM' _).2 (.inr rfl),J2L,True.intro⟩)
   refine J0y (u:=.map (some w.heap.size)) (w':=w.alloc (.map #[] 0)) ?_ ⟨_,M',_,.map kk,_,ks',rfl,.map _ _ _ _ _ (Sg.set_same _ _ _),n1,n2,J44 _ _ J3w,hK⟩;refine J05 (s:=Instr.makeMap t none) ?_;simp[Instr.makeMap,go_sem]
 . -- lookup
   rename_i t m0 x0 comma;split at hc
   case h_2=>cases hc
   rename_i ik kt et e m x hm h1 h2;simp only[Option.map_eq_some_iff] at hc;obtain⟨zv,hz,rfl⟩:=hc;obtain⟨q1,q2⟩:=J7h hm;obtain⟨vm,hg,hvm⟩:=J0h h1 h;clear h;obtain⟨vx,h,hvx⟩:=J0h h2 hg;clear hg;replace h:=J37 h;obtain⟨k,ik',es,rfl,hlook,h⟩:=h;split at h
   case h_2=>exact h.elim
   rename_i hik;have hik:=of_decide_eq_true hik;subst hik;obtain⟨p,h,hp⟩:=J61 h;have dm:=hvm M w σ a (ok _ (by simp[XOp.xs]));have dx:=hp M w σ _ (hvx M w σ a (ok _ (by simp[XOp.xs])));obtain⟨b,κ,arr,z1,z2,z3,z4⟩:=hh.own.blk k _ (J0i hlook);have hme:a.eval m0=.map (some b):=by
    generalize a.eval m0=q at dm;cases dm with
    | map _ _ b' _ _ hk=>rw[z1] at hk;cases hk;rfl
   obtain⟨zz,hzz,hzc⟩:∃zz,(zeroValue et).run P w=.ok zz w/\J65 zz=some zv:=by
    unfold X57 at hz;split at hz
    . rename_i i hi;split at hz
      . rename_i zz hzz;exact⟨zz,by simp[zeroValue,typeInfo,Sem.run_bind,hi,hzz,go_sem],hz⟩
      . cases hz
    . cases hz
   have dz:Den M w σ zv zz:=J5B hzc σ;rcases J7s q2 p arr.toList es 0 z4 0 with ⟨n,x',v,a1,a2,a3,a4,a5,_⟩ | ⟨a1,a2,_⟩
   . have hK:=h.hit v a4;refine J0y (u:=if comma then .tuple #[x'.val,.bool true] else x'.val) (w':=w) ?_ ⟨_,M,σ,if comma then .tup [v,.bool true] else v,own,ks,rfl,?_,hh,Tr.refl _ _ _ _,Kd.refl _ _ _,?_⟩
     . refine J05 (s:=Instr.lookup t (a.eval m0) (a.eval x0) comma) ?_;rw[hme,dx];simp only[Instr.lookup,Sem.run_bind,run_underlying q1,MapKept.run_getObj_map z3,Result.andThen_ok,Sem.run_pure,J2t q2,J2X q2,a1]
     . cases comma
       . exact a5.none_le
       . exact J6t a5.none_le (.bool _ _)
     . cases comma<;>exact hK
   . have hK:=h.miss a2;refine J0y (u:=if comma then .tuple #[zz,.bool false] else zz) (w':=w) ?_ ⟨_,M,σ,if comma then .tup [zv,.bool false] else zv,own,ks,rfl,?_,hh,Tr.refl _ _ _ _,Kd.refl _ _ _,?_⟩
     . refine J05 (s:=Instr.lookup t (a.eval m0) (a.eval x0) comma) ?_;rw[hme,dx];simp only[Instr.lookup,Sem.run_bind,run_underlying q1,MapKept.run_getObj_map z3,Result.andThen_ok,Sem.run_pure,J2t q2,J2X q2,a1,hzz]
     . cases comma
       . exact dz
       . exact J6t dz (.bool _ _)
     . cases comma<;>exact hK
 . -- a store
   rename_i t m0 x0 y0;split at hc
   case h_2=>cases hc
   rename_i ik kt et e m x y hm h1 h2 h3;cases hc;obtain⟨q1,q2⟩:=J7h hm;obtain⟨vm,hg,hvm⟩:=J0h h1 h;clear h;obtain⟨vx,hg2,hvx⟩:=J0h h2 hg;clear hg;obtain⟨vy,h,hvy⟩:=J0h h3 hg2;clear hg2;replace h:=J37 h;obtain⟨k,ik',es,rfl,hlook,h⟩:=h;split at h
   case h_2=>exact h.elim
   rename_i hik hkf;have hik:=of_decide_eq_true hik;subst hik;obtain⟨p,h,hp⟩:=J61 h;have dm:=hvm M w σ a (ok _ (by simp[XOp.xs]));have dx:=hp M w σ _ (hvx M w σ a (ok _ (by simp[XOp.xs])));have dy:=(hvy M w σ a (ok _ (by simp[XOp.xs]))).kf2 hkf Sg.none;obtain⟨own',hK,hu1,hu2⟩:=J1c _ _ _ _ h hh.own.nodup ⟨_,J0i hlook⟩;obtain⟨b,κ,arr,z1,z2,z3,z4⟩:=hh.own.blk k _ (J0i hlook);have hme:a.eval m0=.map (some b):=by
    generalize a.eval m0=q at dm;cases dm with
    | map _ _ b' _ _ hk=>rw[z1] at hk;cases hk;rfl
   have hlt:=lt_of_getElem? z3;obtain⟨arr',hrun,hrel⟩:∃arr':Array MapEntry,(Instr.mapUpdate t (a.eval m0) (a.eval x0) (a.eval y0)).run P w=.ok () (setBlock w b (.map arr' arr'.size))/\Q4S M w ik' arr'.toList (mput es p vy) 0:=by
    rw[hme,dx];rcases J7s q2 p arr.toList es 0 z4 0 with ⟨n,x',v,a1,a2,a3,a4,a5,a6⟩ | ⟨a1,a2,a3⟩
    . refine⟨arr.modify n fun e=>{ e with key:=J2q ik' p,val:=a.eval y0 },?_,?_⟩
      . have hn:(arr[n]?).map (·.key)=some (J2q ik' p):=by
         rw[Array.getElem?_toList] at a2;rw[a2];simp[a3]
        simp only[Nat.zero_add] at a1;simp only[Instr.mapUpdate,Sem.run_bind,run_underlying q1,MapKept.run_getObj_map z3,Result.andThen_ok,J2t q2,J2X q2,a1,hn,Option.getD_some,X1c,MapKept.run_setObj_map _ z3,Array.size_modify];rfl
      . have:=a6 vy (a.eval y0) dy;simpa using this
    . refine⟨arr.push { key:=J2q ik' p,val:=a.eval y0,born:=arr.size },?_,?_⟩
      . simp only[Instr.mapUpdate,Sem.run_bind,run_underlying q1,MapKept.run_getObj_map z3,Result.andThen_ok,J2t q2,J2X q2,a1,MapKept.run_setObj_map _ z3,Array.size_push];rfl
      . have:=a3 vy (a.eval y0) dy;simpa using this
   have hw:=J19 (w':=setBlock w b (.map arr' arr'.size)) hh k b (.map ik' es) (.map ik' (mput es p vy)) (J0i hlook) (.inl (by simp[J0u,z1])) hu2 hu1 rfl rfl rfl Q3F (fun n hn=>set_other hn)
    (fun hE=>⟨b,κ,arr',z1,z2,set_same hlt,hrel.mono hE⟩)
   unfold Oper.wp;have hex:(execOp a.eval ⟨dst,.mapUpdate t m0 x0 y0,type,pos,after,guard⟩).run P w=.ok .skip (setBlock w b (.map arr' arr'.size)):=by
    show((Instr.mapUpdate t (a.eval m0) (a.eval x0) (a.eval y0) >>= fun _=>pure Next.skip):Sem Next).run P w=_;rw[Sem.run_bind,hrun];rfl
   rw[hex];exact⟨undef,M,σ,_,own',ks,rfl,.raw _ _,hw.1,hw.2,Q73 hu1,hK⟩
 . -- range
   rename_i t x0;split at hc
   case h_2=>cases hc
   rename_i pp hm;obtain⟨ik,kt,et,e⟩:=pp;simp only[Option.map_eq_some_iff] at hc;obtain⟨x,h1,rfl⟩:=hc;obtain⟨q1,_⟩:=J7h hm;obtain⟨vm,h,hvm⟩:=J0h h1 h;obtain⟨k,ik',es,rfl,hlook,h⟩:=J37 h;obtain⟨kk,ks',rfl,hK⟩:=J0D h;have dm:=hvm M w σ a (ok _ (by simp[XOp.xs]));obtain⟨b,κ,arr,z1,z2,z3,z4⟩:=hh.own.blk k _ (J0i hlook);have hme:a.eval x0=.map (some b):=by
    generalize a.eval x0=q at dm;cases dm with
    | map _ _ b' _ _ hk=>rw[z1] at hk;cases hk;rfl
   have hlen:arr.size=es.length:=by have:=z4.length;simpa using this
   have hne:k≠kk:=fun e=>by
    have:=hh.fresh kk (by simp);rw[<- e,z1] at this;cases this
   obtain⟨M',n1,n2⟩:=J2V (w':=w.alloc (.mapIter (some b) arr.size #[] arr.size)) hh (some w.heap.size,0,0) (.iter k es.length []) (fun n e=>by simpa using e.symm) rfl rfl rfl (by rw[J3o];omega)
    (fun n hn=>J0O hn) (fun M' hM' hE=>⟨w.heap.size,0,b,0,κ,Sg.set_same _ _ _,(hM' _).2 (.inr rfl),by rw[Sg.set_other _ _ _ hne];exact z1,by rw[<- hlen];exact J2L⟩)
   refine J0y (u:=.pointer (some ⟨w.heap.size,0,none⟩)) (w':=w.alloc (.mapIter (some b) arr.size #[] arr.size)) ?_ ⟨_,M',_,.loc kk 0,_,ks',rfl,.loc _ _ _ _ _ _ (Sg.set_same _ _ _),n1,n2,J44 _ _ J3w,hK⟩;refine J05 (s:=Instr.range t (a.eval x0)) ?_;rw[hme];exact run_range_map w t kt et b arr arr.size q1 z3
 . -- next
   rename_i x0;simp only[Option.map_eq_some_iff] at hc;obtain⟨x,h1,rfl⟩:=hc;obtain⟨vm,h,hvm⟩:=J0h h1 h;obtain⟨k,km,n,J1O,ik,es,rfl,hlook,hlm,hlen,h⟩:=J7g h;have dm:=hvm M w σ a (ok _ (by simp[XOp.xs]));obtain⟨r,κ,b,base,κ',y1,y2,y3,y4⟩:=hh.own.blk k _ (J0i hlook);obtain⟨b',κ2,arr,z1,z2,z3,z4⟩:=hh.own.blk km _ (J0i hlm);rw[z1] at y3;simp only[Option.some.injEq,Prod.mk.injEq] at y3;obtain⟨rfl,rfl,rfl⟩:=y3;have hme:a.eval x0=.pointer (some ⟨r,0,none⟩):=by
    generalize a.eval x0=q at dm;cases dm with
    | loc _ _ _ b2 base2 _ hk=>rw[y1] at hk;cases hk;rfl
   have hsz:arr.size=n:=by rw[<- hlen];have:=z4.length;simpa using this
   have hborn:∀(j:Nat) (e:MapEntry),arr[j]?=some e->∃p,es[j]?=some p/\e.key=J2q ik p.1/\e.born=j/\Den M w Sg.none p.2 e.val:=fun j e he=>by
    obtain⟨p,c1,c2,c3,c4⟩:=z4.get j e (by simpa using he);exact⟨p,c1,c2,by omega,c4⟩
   have hold:∀e∈arr.toList,e.born<n:=fun e he=>by
    obtain⟨j,hj⟩:=List.getElem?_of_mem he;obtain⟨p,c1,_,c3,_⟩:=hborn j e (by simpa using hj);have:=(List.getElem?_eq_some_iff.1 c1).1;omega
   have hltr:=lt_of_getElem? y4;rcases run_next_at (P:=P) w type r b' n n J1O.toArray arr arr.size y4 z3 hold (Nat.le_refl _) with ⟨h0,hrun⟩ | ⟨e,he,w1,hal,hrun⟩
   . have hall:∀i,i<n->i∈J1O:=by
      intro i hi;apply Classical.byContradiction;intro hni;have hi':i<arr.size:=by omega
      obtain⟨p,_,_,c3,_⟩:=hborn i arr[i] (by simp[hi']);have hmem:arr[i]∈leftOf arr J1O.toArray:=by
       unfold leftOf;rw[Array.mem_filter];refine⟨Array.getElem_mem hi',?_⟩;simp[c3,hni]
      have:0<(leftOf arr J1O.toArray).size:=by
       obtain⟨q,hq,_⟩:=Array.mem_iff_getElem.1 hmem;omega
      omega
     refine J0y (u:=.tuple #[.bool false]) (w':=w) ?_ ⟨_,M,σ,_,own,ks,rfl,X1E (.bool _ _),hh,Tr.refl _ _ _ _,Kd.refl _ _ _,h.over hall⟩;refine J05 (s:=Instr.next (a.eval x0) false type) ?_;rw[hme];exact hrun
   . have he':e∈leftOf arr J1O.toArray:=by simpa using he
     unfold leftOf at he';rw[Array.mem_filter] at he';obtain⟨hea,hen⟩:=he';obtain⟨j,hj,hje⟩:=Array.mem_iff_getElem.1 hea;obtain⟨p,c1,c2,c3,c4⟩:=hborn j e (by rw[<- hje];simp[hj]);have hnin:j∉J1O:=by
      rw[c3] at hen;simpa using hen
     have hA:=h.one j p (by omega) hnin c1;obtain⟨own',hK,hu1,hu2⟩:=J1c _ _ _ _ hA hh.own.nodup ⟨_,J0i hlook⟩;have hkne:km≠k:=fun e=>by
      subst e;rw[hlook] at hlm;cases hlm
     have hw1:w1.heap=w.heap/\w1.os=w.os/\w1.tape=w.tape/\w1.output=w.output:=by rcases hal with rfl|rfl<;>exact⟨rfl,rfl,rfl,rfl⟩
     let w':=setBlock w1 r (.mapIter (some b') n (J1O.toArray.push e.born) arr.size);have hwr:=J19 (w':=w') hh k r _ (.iter km n (J1O++[j])) (J0i hlook) (.inl (by simp[J0u,y1])) hu2 hu1 hw1.2.1 hw1.2.2.1 hw1.2.2.2 (by simp[w',Q3F,hw1.1])
      (fun q hq=>by show(setBlock w1 r _).heap[q]?=_;rw[set_other hq,hw1.1]) (fun hE=>by
        refine⟨r,κ,b',0,κ2,y1,y2,z1,?_⟩;show(setBlock w1 r _).heap[r]?=_;rw[set_same (by rw[hw1.1];exact hltr),hsz,c3];simp)
     have hE:=hwr.2.ext hh.own;refine J0y (u:=.tuple #[.bool true,e.key,e.val]) (w':=w') ?_ ⟨_,M,σ,_,own',ks,rfl,?_,hwr.1,hwr.2,Q73 hu1,hK⟩
     . refine J05 (s:=Instr.next (a.eval x0) false type) ?_;rw[hme];exact hrun
     . rw[c2];exact X1D (.bool _ _) (Q4t _) (c4.none_le.mono hE (Sg.le_refl _))
 . -- entry
   rename_i x0;simp only[Option.map_eq_some_iff] at hc;obtain⟨x,h1,rfl⟩:=hc;obtain⟨vm,h,hvm⟩:=J0h h1 h;obtain⟨k,km,n,J1O,ik,es,rfl,hlook,hlm,hlen,j,hlast,p,hp,hK⟩:=J7g h;have dm:=hvm M w σ a (ok _ (by simp[XOp.xs]));obtain⟨r,κ,b,base,κ',y1,y2,y3,y4⟩:=hh.own.blk k _ (J0i hlook);obtain⟨b',κ2,arr,z1,z2,z3,z4⟩:=hh.own.blk km _ (J0i hlm);rw[z1] at y3;simp only[Option.some.injEq,Prod.mk.injEq] at y3;obtain⟨rfl,rfl,rfl⟩:=y3;have hme:a.eval x0=.pointer (some ⟨r,0,none⟩):=by
    generalize a.eval x0=q at dm;cases dm with
    | loc _ _ _ b2 base2 _ hk=>rw[y1] at hk;cases hk;rfl
   have hsz:arr.size=n:=by rw[<- hlen];have:=z4.length;simpa using this
   have hj:j<arr.size:=by have:=(List.getElem?_eq_some_iff.1 hp).1;omega
   obtain⟨p',c1,c2,c3,c4⟩:=z4.get j arr[j] (by simp[hj]);rw[hp] at c1;cases c1;have hbn:(arr.toList.map (·.born)).Nodup:=by
    have:∀(l:List MapEntry) (es:List (KyT ik×V)) (i:Nat),Q4S M w ik l es i->(l.map (·.born)).Nodup/\∀e∈l,i<=e.born:=by
     intro l
     induction l with
     | nil=>intro es i _;simp
     | cons e l ih =>
       intro es i hr;cases es with
       | nil=>exact hr.elim
       | cons q es =>
         obtain⟨d1,d2⟩:=ih es (i+1) hr.2;refine⟨?_,fun e' he'=>?_⟩
         . simp only[List.map_cons,List.nodup_cons];refine⟨fun hm=>?_,d1⟩;obtain⟨e',he',hb⟩:=List.mem_map.1 hm;have:=d2 e' he';have:=hr.1.2.1;omega
         . rcases List.mem_cons.1 he' with e1|e1
           . subst e1;have:=hr.1.2.1;omega
           . have:=d2 e' e1;omega
    exact(this _ _ _ z4).1
   obtain⟨pre,rfl⟩:∃pre,J1O=pre++[j]:=by
    obtain⟨ys,hys⟩:=List.getLast?_eq_some_iff.1 hlast;exact⟨ys,hys⟩
   have hit:w.heap[r]?=some (.mapIter (some b') n (pre.toArray.push (arr[j]).born) arr.size):=by
    rw[y4,c3,hsz];simp
   refine J0y (u:=.tuple #[(arr[j]).key,(arr[j]).val]) (w':=w) ?_ ⟨_,M,σ,_,own,ks,rfl,?_,hh,Tr.refl _ _ _ _,Kd.refl _ _ _,hK⟩
   . refine J05 (s:=Instr.entry (a.eval x0)) ?_;rw[hme];exact run_entry_at w r b' n pre.toArray arr arr.size arr[j] hit z3 (by simp) hbn
   . rw[c2];exact J6t (Q4t _) c4.none_le
 . -- an element of the package's table
   rename_i T g i0;split at hc
   case h_2=>cases hc
   rename_i n e x h1 h2;simp only[Option.map_eq_some_iff] at hc;obtain⟨s,hs,rfl⟩:=hc;obtain⟨v,h,hv⟩:=J0h h2 h;have dv:=hv M w σ a (ok _ (by simp[XOp.xs]));split at h
   case h_2=>exact h.elim
   rename_i k n';unfold X7t at h;split at h
   case h_2=>exact h.elim
   rename_i g' m f hlook;split at h
   case h_2=>exact h.elim
   rename_i hg;have hg:=Nat.eq_of_beq_eq_true hg;subst hg;split at h
   case h_2=>exact h.elim
   rename_i hs1 hnm;have hs1:=Nat.eq_of_beq_eq_true hs1;have hnm:=Nat.eq_of_beq_eq_true hnm;subst hs1 hnm;obtain⟨j,rfl,hj,hK⟩:=h;obtain⟨_,hd⟩:=hh.own.blk 999 _ (J0i hlook);have hi:a.eval i0=.int k j:=by generalize a.eval i0=q at dv;cases dv;rfl
   have hrun:(execOp a.eval ⟨dst,.indexAddr T (.global g) i0,type,pos,after,guard⟩).run P w=.ok (.value (.pointer (some ⟨g,0+j*1,none⟩))) w:=by
    refine J05 (s:=Instr.indexAt T (a.eval (.global g)) (a.eval i0)) ?_;rw[show a.eval (.global g)=.pointer (some ⟨g,0,none⟩) from rfl,hi];have h0:(0:Int)<=j/\(j:Int)<n:=by omega
    simp[Instr.indexAt,asIntOf,Sem.run_bind,run_underlying h1,J07 hs,J1G,h0,go_sem,Instr.sureAddr];intro hcon;omega
   refine J0y (u:=.pointer (some ⟨g,0+j*1,none⟩)) (w':=w) hrun ⟨_,M,σ,_,own,ks,rfl,?_,hh,Tr.refl _ _ _ _,Kd.refl _ _ _,hK⟩;generalize hq:(Value.pointer (some ⟨g,0,none⟩))=q at hd;cases hd with
   | fe _ _ _ _ _ _ b off u hi hM hb hcell h1 hd =>
     simp only[Value.pointer.injEq,Option.some.injEq,Addr.mk.injEq] at hq;obtain⟨rfl,e2,_⟩:=hq;have e3:off=0:=by omega
     subst e3;have:=Den.fe (M:=M) (w:=w) σ n 1 f j 0 g 0 u hj hM hb hcell h1 hd;simpa using this
 . -- a slice of an array: it is frozen
   rename_i t x0 hi0;split at hc
   case h_2=>cases hc
   rename_i n e h1;split at hc
   case h_2=>cases hc
   rename_i s x hi h2 h3 h4;cases hc;obtain⟨vp,h,hvp⟩:=J0h h3 h;split at h
   case h_2=>exact h.elim
   rename_i k s';split at h
   case h_2=>exact h.elim
   rename_i n' s'' f hlook;split at h
   case h_2=>exact h.elim
   rename_i e1 e2 e3;have e1:=Nat.eq_of_beq_eq_true e1;have e2:=Nat.eq_of_beq_eq_true e2;have e3:=Nat.le_of_ble_eq_true e3;subst e1 e2;obtain⟨hh',hK,hbd⟩:=J0z h4 h;have dp:=hvp M w σ a (ok _ (by simp[XOp.xs]));have g1:=hbd.ev (fun y hy=>ok y (by simp[XOp.xs,hy]));have hle:hh'<=n:=by rcases g1 with ⟨_,g⟩ | ⟨_,_,g⟩<;>omega
   generalize hpe:a.eval x0=q at dp;cases dp with
   | oel _ _ _ _ _ b base κ hk =>
     have hmem:=J0i hlook;obtain⟨bo,base',κ',s1,s2,s3⟩:=hh.own.blk k _ hmem;rw[s1] at hk;simp only[Option.some.injEq,Prod.mk.injEq] at hk;obtain⟨rfl,rfl,rfl⟩:=hk;have hkeep:look (J18 [k] own) k=some (.vec n' s f):=J68 (J6n hh [k]).nodup (J02.2 ⟨hmem,by simp⟩);have hf:X2Z own (.vec k s 0 hh') fun v' own'=>v'=.fz hh' s false f/\own'=J1Y [k] own:=by
      have hb0:Q5V (J18 [k] own) (.vec k s 0 hh') fun v'=>v'=.fz hh' s false f/\True:=by
       simp only[Q5V,hkeep,Nat.beq_refl];exact⟨by omega,rfl,trivial⟩
      simp only[X2Z,J5z,hlook,bor];unfold Q9N;split
      . rename_i e;cases e;simp only[hkeep];exact hb0
      . rename_i e;cases e;simp only[hkeep];exact hb0
      . exact hb0
     obtain⟨v',own',⟨rfl,rfl⟩,hkeys,hsnd⟩:=J4c hf;obtain⟨M',f1,f2,f3,_⟩:=hsnd M w σ ks (.slice (some ⟨b,base'+0*s,none⟩) hh' κ') hh (.vec _ _ _ _ _ _ _ _ _ _ s1 rfl (by omega) fun _=>⟨b,rfl,rfl⟩);have dF:Den M' w σ (.fz hh' s false f) (.slice (some ⟨b,base'+0*s,none⟩) hh' n):=by
      cases f3 with
      | fz0=>exact .fz0 _ _ _ _ _ _ (fun h=>by cases h)
      | fz _ _ _ _ _ _ _ _ u a1 a2 a3 a4 a5 a6 a7=>exact .fz _ _ _ _ _ _ _ _ u hle (fun h=>by cases h) a3 a4 a5 a6 a7
     refine J0y (u:=.slice (some ⟨b,base'+0*s,none⟩) hh' n) (w':=w) ?_ ⟨_,M',σ,_,_,ks,rfl,dF,f1,f2,⟨fun _ h=>h,fun _ h _=>h,fun k hk=>.inl (hkeys k hk)⟩,hK⟩;refine J05 (s:=Instr.sliceAt t (a.eval x0) none (hi0.map a.eval) none) ?_;rw[hpe];have hb:=J1z (P:=P) (w:=w) (isSlice:=false) (len:=n) (cap:=n) (l:=0) (h:=hh') (m:=n) (low:=none) (high:=hi0.map a.eval) (max:=none) (.inl ⟨rfl,rfl⟩) (by
      rcases g1 with ⟨g,g'⟩ | ⟨k,g,g'⟩
      . subst g;exact .inl ⟨rfl,rfl,g'⟩
      . exact .inr ⟨k,g,g'⟩) (.inl ⟨rfl,rfl⟩)
     simp[Instr.sliceAt,Sem.run_bind,run_underlying h1,hb,J07 h2,go_sem,Instr.sureAddr,J1G]
 . -- copy
   rename_i args ats;split at hc
   case h_2=>cases hc
   rename_i x0 y0 t t2 h1 h2;split at hc
   case h_2=>cases hc
   rename_i e h3;split at hc
   case h_2=>cases hc
   rename_i s x y h4 h5 h6;cases hc;obtain⟨vx,hg1,hx⟩:=J0h h5 h;clear h;obtain⟨vy,hg2,hy⟩:=J0h h6 hg1;clear hg1;have dx:=hx M w σ a (ok _ (by simp[XOp.xs]));have dy:=hy M w σ a (ok _ (by simp[XOp.xs]));have hats0:ats[0]?=some t:=by rw[<- Array.getElem?_toList,h2];rfl
   have hargs:args.map a.eval=#[a.eval x0,a.eval y0]:=by
    apply Array.ext';simp[h1]
   have fin:∀(u:Value) (w':World),(Builtin.copy_ ats type #[a.eval x0,a.eval y0]).run P w=.ok u w' ->
    (execOp a.eval ⟨dst,.call ⟨.builtin .copy,args,ats⟩,type,pos,after,guard⟩).run P w=.ok (.value u) w':=by
    intro u w' hu;show((pure { target:=Target.builtin .copy ats type (args.map fun | .const _=>true|_=>false),args:=args.map a.eval }:Sem Deferred) >>= fun d=>invoke d.target d.args).run P w=_;rw[Sem.run_bind,hargs];exact J05 hu
   obtain⟨m,fy,hq,hsrc⟩:=J5l hg2;clear hg2;have hS:=hsrc M w σ _ dy hh.own;have h:=hq;clear hq;generalize a.eval x0=ux at *;generalize a.eval y0=uy at *;split at h
   case h_2=>exact h.elim
   rename_i k s' lo len;split at h
   case h_2=>exact h.elim
   rename_i n s'' f hlook;split at h
   case h_2=>exact h.elim
   rename_i e1 e2;have e1:=Nat.eq_of_beq_eq_true e1;have e2:=Nat.eq_of_beq_eq_true e2;subst e1 e2;obtain⟨l0,l1,h⟩:=h;obtain⟨own',hK,hu1,hu2⟩:=J1c _ _ _ _ h hh.own.nodup ⟨_,J0i hlook⟩;obtain⟨us,u1,u2,u3,u4,u5⟩:=hS.firstCells (P:=P) (w':=w) rfl;have dx0:=dx;cases dx with
   | vec _ _ _ _ _ bo base κ c ad hk hc hl ha =>
     obtain⟨_,w',hst,hh',tr⟩:=J6C (P:=P) hh hlook dx0 (at_:=0) (m:=m) u1 (by omega) u4 u5 (by simpa using hu2) hu1;have hmin:Nat.min m len=m:=Nat.min_eq_left l0;have q0:∀(x y:Value),(#[x,y]:Array Value)[0]?=some x:=fun _ _=>rfl;have q1:∀(x y:Value),(#[x,y]:Array Value)[1]?=some y:=fun _ _=>rfl;have hrun:(Builtin.copy_ ats type #[.slice ad len c,uy]).run P w=.ok (.int .i64 m) w':=by
      have hsz:=J07 h4 w;cases hats1:ats[1]? with
      | none=>simp at hats1;exact absurd (congrArg List.length h2) (by simp;omega)
      | some q =>
      cases ad with
      | none =>
        have:w'=w:=by cases hst;rfl
        subst this;simp only[Builtin.copy_,hats0,q0,q1,Sem.run_bind,run_underlying h3,Result.andThen_ok,u3,hsz,hmin,u2,Sem.run_pure,goInt]
      | some ad =>
        have hst':(storeCells ad us 0).run P w=.ok () w':=by simpa[Addr.add] using hst
        simp only[Builtin.copy_,hats0,q0,q1,Sem.run_bind,run_underlying h3,Result.andThen_ok,u3,hsz,hmin,u2,hst',Sem.run_pure,goInt]
     exact J0y (fin _ w' hrun) ⟨_,M,σ,_,_,_,rfl,.int _ _ _,hh',tr,Q73 hu1,hK⟩
 . -- the length of a map
   rename_i args ats;split at hc
   case h_2=>cases hc
   rename_i x0 t h1 h2;split at hc
   case h_2=>cases hc
   rename_i kt et h3;simp only[Option.map_eq_some_iff] at hc;obtain⟨x,h4,rfl⟩:=hc;obtain⟨vm,h,hvm⟩:=J0h h4 h;obtain⟨k,ik',es,rfl,hlook,hK⟩:=J37 h;have dm:=hvm M w σ a (ok _ (by simp[XOp.xs]));obtain⟨b,κ,arr,z1,z2,z3,z4⟩:=hh.own.blk k _ (J0i hlook);have hme:a.eval x0=.map (some b):=by
    generalize a.eval x0=q at dm;cases dm with
    | map _ _ b' _ _ hk=>rw[z1] at hk;cases hk;rfl
   have hlen:arr.size=es.length:=by have:=z4.length;simpa using this
   have hats0:ats[0]?=some t:=by rw[<- Array.getElem?_toList,h2];rfl
   have hargs:args.map a.eval=#[a.eval x0]:=by
    apply Array.ext';simp[h1]
   refine J0y (u:=.int .i64 es.length) (w':=w) ?_ ⟨_,M,σ,_,own,ks,rfl,.int _ _ _,hh,Tr.refl _ _ _ _,Kd.refl _ _ _,hK⟩;show((pure { target:=Target.builtin .len ats type (args.map fun | .const _=>true|_=>false),args:=args.map a.eval }:Sem Deferred) >>= fun d=>invoke d.target d.args).run P w=_;rw[Sem.run_bind,hargs,hme];refine J05 (s:=Builtin.len_ ats type #[.map (some b)]) ?_;have q0:∀(x:Value),(#[x]:Array Value)[0]?=some x:=fun _=>rfl;simp only[Builtin.len_,hats0,q0,Sem.run_bind,run_underlying h3,MapKept.run_getObj_map z3,Result.andThen_ok,Sem.run_pure,goInt,hlen]
 . cases hc
end Go.Eng
