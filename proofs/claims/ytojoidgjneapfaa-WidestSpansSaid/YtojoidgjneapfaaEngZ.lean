import Derived.Test.YtojoidgjneapfaaEngU
namespace Go.Eng
def KS2:List Nat:=[0,1,2,3,4,5,6,7,8,9,10,11,12,13,14,15,16,17,18,19,20,21,22,23,24,25,26,27,28,29,30,31,32,33,34,35,36,37,38,39,40,41,42,43,44,45,46,47,48,49,50,51,52,53,54,55,56,57,58,59,60,61,62,63,64,65,66,67,68,69,70,71,72,73,74,75,76,77,78,79,80,81,82,83,84,85,86,87,88,89,90,91,92,93,94,95,96,97,98,99,100,101,102,103,104,105,106,107,108,109,110,111,112,113,114,115,116,117,118,119]
theorem Q0D:KS2.Nodup:=by decide
theorem Q1j {P:Program} {f:FuncId} {args:List V} {X:V} (hk:J27 V.kf args=true) (h:J0H P f args [] KS2 fun v own' _=>Q40 own' v fun v'=>VLe v' X):Ret P f args X:=by
 intro own ks;constructor;intro M w σ us hlen hd hh;refine(h.out M w Sg.none us hlen (fun i v u hv hu=>(hd i v u hv hu).kf (J0v hk v (List.mem_of_getElem? hv)) Sg.none) (J1V KS2 Q0D)).mono ?_;rintro e w' ⟨M',σ',v,own',ks',u,rfl,hv,hh',tr,_,hfr⟩;obtain⟨v',hK,hv'⟩:=J5h hfr;have hM:∀b,b<w.heap.size->(J4O M' w' σ' own' b↔M b):=by
  intro b hb;have hno:¬ J0y w' σ' own' b:=fun ho=>by
   rcases tr.new b ho with h1|h1
   . exact J03 h1
   . omega
  constructor
  . intro h1;exact(tr.adv.muts b hb J03).1 h1.1
  . intro h1;exact⟨(tr.adv.muts b hb J03).2 h1,hno⟩
 have hfr:=J3z (M'':=J4O M' w' σ' own') hh tr hM;exact⟨_,σ,X,own,ks,u,rfl,(hK.out _ _ _ (hv' M' w' σ' u hh'.own hv)).mono (Ext.mk (fun _ _ h=>⟨h,rfl⟩) (Nat.le_refl _)) (Sg.none_le σ),hfr.1,hfr.2,Kd.refl _ _ _,rfl,rfl,rfl⟩
theorem J1N {P:Program} {f:FuncId} {args args0:List V} {X:V} {own:Own} {ks:List Nat} {K:V->Own->List Nat->Prop} (h:Ret P f args0 X) (hx:X.flat=true)
 (hb:Q49 own args fun args'=>LLe args' args0) (hK:K X own ks):J0H P f args own ks K:=by
 obtain⟨args',hle,hl,hs⟩:=J2Q hb;constructor;intro M w σ us hlen hd hh;obtain⟨d1,d2⟩:=hle.dens (M:=J4O M w σ own) (w:=w) (us:=us) (by omega) (fun i v' u hv' hu=>by
  have hi:i<args.length:=by rw[<- hl];exact(List.getElem?_eq_some_iff.1 hv').1
  exact hs M w σ hh.own i args[i] v' u (by simp[hi]) hv' (hd i args[i] u (by simp[hi]) hu))
 refine((h [] KS).out (J4O M w σ own) w Sg.none us d1 d2 (J1V KS J58)).mono ?_;rintro e w' ⟨M',σ',v,own',ks',u,rfl,hv,hh',tr,_,rfl,rfl,rfl⟩;have hfr:=J3z (M'':=fun b=>(b<w.heap.size/\M b)\/(w.heap.size<=b/\M' b)) hh tr
  (fun b hb=>by constructor<;>intro h;(rcases h with h|h;exact h.2;omega);exact .inl ⟨hb,h⟩)
 exact⟨_,σ,_,own,ks,u,rfl,hv.flat hx,hfr.1,hfr.2,Kd.refl _ _ _,hK⟩
end Go.Eng
namespace Go.Eng
end Go.Eng
set_option linter.unusedVariables false
namespace Go.Eng
def ctzF (s:Nat):Nat->Nat->Nat
 | 0,i=>i
 | n+1,i=>if s.testBit i then i else ctzF s n (i+1)
def ctz (s:Nat):Nat:=ctzF s 32 0
section
variable {s k:Nat} (hk:s.testBit k=true) (hz:∀j,j<k->s.testBit j=false)
include hk hz
end
end Go.Eng
set_option linter.unusedVariables false
namespace Go.Eng
def lowb (s:Nat):Nat:=if s=0 then 0 else 2 ^ ctz s
end Go.Eng
set_option linter.unusedVariables false
namespace Go.Eng
theorem Opn.hd {i i' q:Nat} {r:List (Nat×Nat)} {len:Nat->Nat} {K:Nat->Nat->Prop} (h:i'=i) (hK:K q (len i')):Opn ((i',q)::r) len i K:=⟨q,len i',J0k h,by rw[h],hK⟩
theorem Opn.tl {i i' q:Nat} {r:List (Nat×Nat)} {len:Nat->Nat} {K:Nat->Nat->Prop} (h:i'≠i) (hK:Opn r len i K):Opn ((i',q)::r) len i K:=by
 obtain⟨q',l,h',hl,hK⟩:=hK;exact⟨q',l,(J0j h).trans h',hl,hK⟩
theorem Opn.hdl {i i' q l:Nat} {r:List (Nat×Nat)} {len:Nat->Nat} {K:Nat->Nat->Prop} (h:i'=i) (hl:len i'=l) (hK:K q l):Opn ((i',q)::r) len i K:=⟨q,l,J0k h,by rw[<- h,hl],hK⟩
theorem J2f.hd {i i' q q0:Nat} {r:List (Nat×Nat)} {K:Nat->List (Nat×Nat)->Prop} (h:i'=i) (hK:K i' ((i',q)::r)):J2f ((i',q0)::r) i q K :=
 ⟨i',_,h,by rw[J0k h];simp,J0k h,fun j hj=>by rw[J0j (fun e=>hj (by omega)),J0j (fun e=>hj (by omega))],hK⟩
theorem J2f.tl {i i' q q0:Nat} {r:List (Nat×Nat)} {K:Nat->List (Nat×Nat)->Prop} (h:i'≠i) (hK:J2f r i q fun k r'=>K k ((i',q0)::r')):J2f ((i',q0)::r) i q K:=by
 obtain⟨k,r',hk,h0,h1,h2,hK⟩:=hK;refine⟨k,_,hk,by rw[J0j h];exact h0,by rw[J0j h];exact h1,fun j hj=>?_,hK⟩;by_cases e:i'=j
 . rw[J0k e,J0k e]
 . rw[J0j e,J0j e];exact h2 j hj
theorem J2r (k:Nat) (b:Blk):∀own:Own,(J2T own k b).map (·.1)=own.map (·.1)
 | []=>rfl
 | (q,c)::r=>by
   unfold J2T;split
   . rfl
   . simp[J2r k b r]
theorem J5z {k:Nat} {b:Blk}:∀{own:Own},(own.map (·.1)).Nodup->(∃c,(k,c)∈own)->∀q c,(q,c)∈J2T own k b↔(q=k/\c=b)\/(q≠k/\(q,c)∈own)
 | [],_,⟨c,h⟩,_,_=>by simp at h
 | (q0,c0)::r,hn,⟨c1,h1⟩,q,c=>by
   simp only[List.map_cons,List.nodup_cons] at hn;have notin:∀c,(q0,c)∉r:=fun c hc=>hn.1 (List.mem_map.2 ⟨_,hc,rfl⟩);unfold J2T;split
   . rename_i hb;have e:=Nat.eq_of_beq_eq_true hb;subst e;simp only[List.mem_cons,Prod.mk.injEq];constructor
     . rintro (⟨rfl,rfl⟩|hc)
       . exact .inl ⟨rfl,rfl⟩
       . exact .inr ⟨fun e=>notin c (e▸hc),.inr hc⟩
     . rintro (⟨rfl,rfl⟩ | ⟨hne,⟨rfl,_⟩|hc⟩)
       . exact .inl ⟨rfl,rfl⟩
       . exact(hne rfl).elim
       . exact .inr hc
   . rename_i hb;have hne:q0≠k:=fun e=>by subst e;simp at hb
     have h1':∃c,(k,c)∈r:=by
      rcases List.mem_cons.1 h1 with e|e
      . cases e;exact(hne rfl).elim
      . exact⟨_,e⟩
     simp only[List.mem_cons,Prod.mk.injEq,J5z hn.2 h1' q c];constructor
     . rintro (⟨rfl,rfl⟩ | ⟨rfl,rfl⟩ | ⟨a1,a2⟩)
       . exact .inr ⟨hne,.inl ⟨rfl,rfl⟩⟩
       . exact .inl ⟨rfl,rfl⟩
       . exact .inr ⟨a1,.inr a2⟩
     . rintro (⟨rfl,rfl⟩ | ⟨a1,⟨rfl,rfl⟩|a2⟩)
       . exact .inr (.inl ⟨rfl,rfl⟩)
       . exact .inl ⟨rfl,rfl⟩
       . exact .inr (.inr ⟨a1,a2⟩)
def Q5i (q:Nat) (ks:List Nat):List Nat:=ks.filter fun x=>!Nat.beq x q
theorem J32 {q x:Nat} {ks:List Nat}:x∈Q5i q ks↔x∈ks/\x≠q:=by
 have:Nat.beq x q=true↔x=q:=⟨Nat.eq_of_beq_eq_true,fun e=>by subst e;simp⟩;simp only[Q5i,List.mem_filter,Bool.not_eq_true',<- Bool.not_eq_true,this]
theorem J93 {M:Nat->Prop} {w:World} {σ:Sg} {own:Own} {ks:List Nat} (h:J0G M w σ own ks) {q k n s i:Nat} {len:Nat->Nat} {f:Nat->Nat->Nat->V} {op:List (Nat×Nat)} (hq:q∈ks)
 (hk:look own k=some (.fam n s len f op)) (hi:i<n) (ho:look op i=none) :
 ∃x,J0G M w (σ.set q x) ((q,.vec (len i) s (f i))::J2T own k (.fam n s len f ((i,q)::op))) (Q5i q ks)/\(∀m,J0y w (σ.set q x) ((q,.vec (len i) s (f i))::J2T own k (.fam n s len f ((i,q)::op))) m->J0y w σ own m):=by
 have hmem:=J0c hk;have hq0:=h.fresh q hq;obtain⟨bo,base,κ,s1,s2,s3⟩:=h.own.blk k _ hmem;have hpos:0<κ:=by omega
 rcases s3 with ⟨s3,_⟩ | ⟨b,ty,us,s3,s4,s5,s6,s7,s8,s9⟩
 . omega
 subst s3;obtain⟨u,u1,a,c,u2,u3,_,u5⟩:=s7 i hi;subst u2;have hqk:q≠k:=fun e=>by rw[e] at hq0;rw[hq0] at s1;cases s1
 have hum:=J5z (b:=.fam n s len f ((i,q)::op)) h.own.nodup ⟨_,hmem⟩;have hne:∀k' c',(k',c')∈own->k'≠q:=fun k' c' hm e=>by
  obtain⟨y,hy⟩:=h.own.key hm;rw[e,hq0] at hy;cases hy
 have row:∃x:Option Nat×Nat×Nat,(∀M' w' (σ':Sg),σ' q=some x->Den M' w' σ' (.vec q s 0 (len i)) (.slice a (len i) c))/\(∀σ':Sg,σ' q=some x->J00 M w σ' q (.vec (len i) s (f i)))/\(∀m,x.1=some m->J14 us base i m):=by
  rcases Nat.eq_zero_or_pos c with hc|hc
  . subst hc;refine⟨(none,0,0),fun M' w' σ' hs=>?_,fun σ' hs=>⟨none,0,0,hs,u3,.inl ⟨rfl,rfl⟩⟩,fun m e=>by cases e⟩;exact .vec _ q s 0 (len i) none 0 0 0 a hs rfl u3 (fun e=>absurd e (by omega))
  . obtain⟨r,off,ty2,us2,p1,p2,p3,p4,p5⟩:=u5 ho hc;subst p1;refine⟨(some r,off,c),fun M' w' σ' hs=>?_,fun σ' hs=>⟨some r,off,c,hs,u3,.inr ⟨r,ty2,us2,rfl,p2,p3,p4,p5⟩⟩,fun m e=>?_⟩
    . exact .vec _ q s 0 (len i) (some r) off c c _ hs rfl u3 (fun _=>⟨r,rfl,by simp⟩)
    . cases e;exact⟨off,_,c,u1,hc⟩
 obtain⟨x,x1,x2,x3⟩:=row;have hle:σ.le (σ.set q x):=Sg.le_set x hq0;have hx:=Sg.set_same σ q x;have hhq:∀m,J0i w (σ.set q x) q (.vec (len i) s (f i)) m->J14 us base i m:=fun m e=>by
  rw[J1X rfl] at e;simp only[J0p,hx] at e;exact x3 m e
 have keepO:∀k' c' m,(k',c')∈own->(J0i w (σ.set q x) k' c' m↔J0i w σ k' c' m):=fun k' c' m hm=>J0J hle (h.own.key hm) fun _ _=>rfl;have s1':(σ.set q x) k=some (some b,base,κ):=hle _ _ s1
 -- what the family J0i now
 have hfam:∀m,J0i w (σ.set q x) k (.fam n s len f ((i,q)::op)) m->m=b\/∃i',i'<n/\i'≠i/\look op i'=none/\J14 us base i' m:=fun m e=>by
  rcases e with e | ⟨ob,base',κ',us',ty',i',e1,e2,e3,e4,e5⟩
  . simp[J0p,s1'] at e;exact .inl e.symm
  . rw[s1'] at e1;simp only[Option.some.injEq,Prod.mk.injEq] at e1;obtain⟨rfl,rfl,rfl⟩:=e1;rw[s5] at e2;simp only[Option.some.injEq,Obj.cells.injEq] at e2;obtain⟨rfl,_⟩:=e2;have hii:i≠i':=fun e=>by rw[J0k e] at e4;cases e4
    rw[J0j hii] at e4;exact .inr ⟨i',e3,fun e=>hii e.symm,e4,e5⟩
 have hfam2:∀m,J0i w (σ.set q x) k (.fam n s len f ((i,q)::op)) m->J0i w σ k (.fam n s len f op) m:=fun m e=>by
  rcases hfam m e with rfl | ⟨i',e1,_,e2,e3⟩
  . exact .inl (by simp[J0p,s1])
  . exact .inr ⟨b,base,κ,us,ty,i',s1,s5,e1,e2,e3⟩
 have hrow:∀m,J14 us base i m->J0i w σ k (.fam n s len f op) m:=fun m e=>.inr ⟨b,base,κ,us,ty,i,s1,s5,hi,ho,e⟩;refine⟨x,⟨⟨?_,?_,?_⟩,?_,?_⟩,?_⟩
 . intro k' c' hm;rcases List.mem_cons.1 hm with e|hm
   . cases e;exact x2 _ hx
   . rcases (hum k' c').1 hm with ⟨rfl,rfl⟩ | ⟨hkk,hm⟩
     . refine⟨_,base,κ,s1',s2,.inr ⟨b,ty,us,rfl,s4,s5,s6,fun i' hi'=>?_,fun i1 i2 r h1 h2 n1 n2 r1 r2=>?_,fun i1 h1 n1 r1=>?_⟩⟩
       . by_cases e:i=i'
         . subst e;rw[J0k rfl];exact⟨_,u1,a,c,rfl,u3,fun q' hq'=>by cases hq';exact x1 _ _ _ hx,fun hn=>by cases hn⟩
         . rw[J0j e];obtain⟨v,v1,a',c',v2,v3,v4,v5⟩:=s7 i' hi';exact⟨v,v1,a',c',v2,v3,fun q' hq'=>(v4 q' hq').mono ⟨fun _ _ h=>⟨h,rfl⟩,Nat.le_refl _⟩ hle,v5⟩
       . have e1:i≠i1:=fun e=>by rw[J0k e] at n1;cases n1
         have e2:i≠i2:=fun e=>by rw[J0k e] at n2;cases n2
         rw[J0j e1] at n1;rw[J0j e2] at n2;exact s8 i1 i2 r h1 h2 n1 n2 r1 r2
       . have e1:i≠i1:=fun e=>by rw[J0k e] at n1;cases n1
         rw[J0j e1] at n1;exact s9 i1 h1 n1 r1
     . exact(h.own.blk k' c' hm).mono ⟨fun _ _ h=>⟨h,rfl⟩,Nat.le_refl _⟩ hle fun m hm'=>⟨(J0q h.own ⟨k',c',hm,hm'⟩).1,rfl⟩
 . simp only[List.map_cons,List.nodup_cons,J2r];refine⟨fun hm=>?_,h.own.nodup⟩;obtain⟨⟨k',c'⟩,m1,m2⟩:=List.mem_map.1 hm;exact hne k' c' m1 m2
 . intro k1 c1 k2 c2 m m1 m2 hne' e1 e2;have one:∀k' c',(k',c')∈J2T own k (.fam n s len f ((i,q)::op))->J0i w (σ.set q x) k' c' m->J14 us base i m->False:=fun k' c' hm e hr=>by
    rcases (hum k' c').1 hm with ⟨rfl,rfl⟩ | ⟨hkk,hm⟩
    . rcases hfam m e with rfl | ⟨i',a1,a2,a3,a4⟩
      . exact s9 i hi ho hr
      . exact a2 (s8 i' i m a1 hi a3 ho a4 hr)
    . exact h.own.apart k' c' k _ m hm hmem hkk ((keepO k' c' m hm).1 e) (hrow m hr)
   rcases List.mem_cons.1 m1 with c1'|c1'
   . cases c1';rcases List.mem_cons.1 m2 with c2'|c2'
     . cases c2';exact hne' rfl
     . exact one k2 c2 c2' e2 (hhq m e1)
   . rcases List.mem_cons.1 m2 with c2'|c2'
     . cases c2';exact one k1 c1 c1' e1 (hhq m e2)
     . have old:∀k' c',(k',c')∈J2T own k (.fam n s len f ((i,q)::op))->J0i w (σ.set q x) k' c' m->∃c0,(k',c0)∈own/\J0i w σ k' c0 m:=fun k' c' hm e=>by
        rcases (hum k' c').1 hm with ⟨rfl,rfl⟩ | ⟨hkk,hm⟩
        . exact⟨_,hmem,hfam2 m e⟩
        . exact⟨_,hm,(keepO k' c' m hm).1 e⟩
       obtain⟨d1,y1,z1⟩:=old _ _ c1' e1;obtain⟨d2,y2,z2⟩:=old _ _ c2' e2;exact h.own.apart k1 d1 k2 d2 m y1 y2 hne' z1 z2
 . intro k' hk';obtain⟨a1,a2⟩:=J32.1 hk';rw[Sg.set_other _ _ _ a2];exact h.fresh k' a1
 . exact h.knodup.filter _
 . rintro m ⟨k',c',hm,e⟩;rcases List.mem_cons.1 hm with e'|hm
   . cases e';exact⟨k,_,hmem,hrow m (hhq m e)⟩
   . rcases (hum k' c').1 hm with ⟨rfl,rfl⟩ | ⟨hkk,hm⟩
     . exact⟨_,_,hmem,hfam2 m e⟩
     . exact⟨_,_,hm,(keepO k' c' m hm).1 e⟩
structure J1P (own own':Own):Prop where
 out:∀M w σ ks,J0G M w σ own ks->J0G M w σ own' ks/\(∀m,J0y w σ own' m->J0y w σ own m)
 keys:∀k,k∈own'.map (·.1)->k∈own.map (·.1)
theorem J1P.refl (own:Own):J1P own own:=⟨fun _ _ _ _ h=>⟨h,fun _ h=>h⟩,fun _ h=>h⟩
theorem J1P.trans {a b c:Own} (h:J1P a b) (h':J1P b c):J1P a c :=
 ⟨fun M w σ ks x=>let ⟨y,z⟩:=h.out M w σ ks x;let ⟨y',z'⟩:=h'.out M w σ ks y;⟨y',fun m e=>z m (z' m e)⟩,fun k e=>h.keys k (h'.keys k e)⟩
theorem J6B {own:Own} {q k n s m i:Nat} {len:Nat->Nat} {f:Nat->Nat->Nat->V} {g:Nat->Nat->V} {op:List (Nat×Nat)} (op':List (Nat×Nat))
 (hk:look own k=some (.fam n s len f op)) (hq:look own q=some (.vec m s g)) (hi:i<n) (ho:look op i=some q) (hm:len i<=m) (h1:look op' i=none) (h2:∀j,j≠i->look op' j=look op j) :
 J1P own (J1M [q] (J2T own k (.fam n s len (J3U f i g) op'))):=by
 have hmem:=J0c hk;have hmemq:=J0c hq;have hqk:q≠k:=fun e=>by rw[e,hk] at hq;cases hq
 refine⟨fun M w σ ks h=>?_,fun k' hk'=>?_⟩
 . have hum:=J5z (b:=.fam n s len (J3U f i g) op') h.own.nodup ⟨_,hmem⟩;obtain⟨bo,base,κ,s1,s2,s3⟩:=h.own.blk k _ hmem;rcases s3 with ⟨s3,_⟩ | ⟨b,ty,us,s3,s4,s5,s6,s7,s8,s9⟩
   . omega
   subst s3;obtain⟨u,u1,a,c,u2,u3,u4,_⟩:=s7 i hi;have hden:=u4 q ho;subst u2;obtain⟨bq,baseq,κq,q1,q2,q3⟩:=h.own.blk q _ hmemq;have hrowi:∀r,J14 us base i r->J0p σ q=some r:=fun r ⟨off,l,c',e1,e2⟩=>by
    rw[u1] at e1;cases e1;cases hden with
    | vec _ _ _ _ _ bo2 base2 κ2 c2 a2 k2 kc kl ka =>
      obtain⟨b2,rfl,e3⟩:=ka e2;cases e3;simp[J0p,k2]
   have hapq:∀r,J0i w σ k (.fam n s len f op) r->J0p σ q≠some r:=fun r e e'=>h.own.apart k _ q _ r hmem hmemq (fun e=>hqk e.symm) e (.inl e');have hfam:∀r,J0i w σ k (.fam n s len (J3U f i g) op') r->J0i w σ k (.fam n s len f op) r\/J0p σ q=some r:=fun r e=>by
    rcases e with e | ⟨ob,base',κ',us',ty',i',e1,e2,e3,e4,e5⟩
    . exact .inl (.inl e)
    . have e1':=e1;rw[s1] at e1';simp only[Option.some.injEq,Prod.mk.injEq] at e1';obtain⟨rfl,rfl,rfl⟩:=e1';have e2':=e2;rw[s5] at e2';simp only[Option.some.injEq,Obj.cells.injEq] at e2';obtain⟨rfl,_⟩:=e2';by_cases ei:i'=i
      . subst ei;exact .inr (hrowi r e5)
      . rw[h2 i' ei] at e4;exact .inl (.inr ⟨b,base,κ,us,ty,i',s1,s5,e3,e4,e5⟩)
   have old:∀k' c' r,(k',c')∈J1M [q] (J2T own k (.fam n s len (J3U f i g) op'))->J0i w σ k' c' r->(k'=k/\J0p σ q=some r)\/∃c0,(k',c0)∈own/\k'≠q/\J0i w σ k' c0 r:=fun k' c' r hm' e=>by
    obtain⟨a1,a2⟩:=J0C.1 hm';simp only[List.mem_singleton] at a2;rcases (hum k' c').1 a1 with ⟨rfl,rfl⟩ | ⟨hkk,a1⟩
    . rcases hfam r e with x|x
      . exact .inr ⟨_,hmem,a2,x⟩
      . exact .inl ⟨rfl,x⟩
    . exact .inr ⟨_,a1,a2,e⟩
   refine⟨⟨⟨?_,J1L (by rw[J2r];exact h.own.nodup),?_⟩,h.fresh,h.knodup⟩,?_⟩
   . intro k' c' hm';obtain⟨a1,a2⟩:=J0C.1 hm';rcases (hum k' c').1 a1 with ⟨rfl,rfl⟩ | ⟨hkk,a1⟩
     . refine⟨_,base,κ,s1,s2,.inr ⟨b,ty,us,rfl,s4,s5,s6,fun i' hi'=>?_,fun i1 i2 r g1 g2 n1 n2 r1 r2=>?_,fun i1 g1 n1 r1=>?_⟩⟩
       . by_cases e:i'=i
         . subst e;refine⟨_,u1,a,c,rfl,u3,fun q' hq'=>(by rw[h1] at hq';cases hq'),fun _ hc=>?_⟩;cases hden with
           | vec _ _ _ _ _ bo2 base2 κ2 c2 a2 k2 kc kl ka =>
             rw[q1] at k2;simp only[Option.some.injEq,Prod.mk.injEq] at k2;obtain⟨rfl,rfl,rfl⟩:=k2;obtain⟨b2,rfl,rfl⟩:=ka hc;rcases q3 with ⟨z,_⟩ | ⟨b',ty2,us2,e1,e2,e3,e4,e5⟩
             . omega
             . cases e1;refine⟨b2,_,ty2,us2,rfl,e2,e3,?_,fun j t hj ht=>?_⟩
               . simp only[Nat.zero_mul,Nat.add_zero];have:c=κq:=by omega
                 rw[this];exact e4
               . obtain⟨y,y1,y2,y3⟩:=e5 j t (by omega) ht;exact⟨y,by simpa using y1,y2,by simpa[J3U] using y3⟩
         . obtain⟨v,v1,a',c',v2,v3,v4,v5⟩:=s7 i' hi';rw[h2 i' e];refine⟨v,v1,a',c',v2,v3,v4,fun hn hc=>?_⟩;obtain⟨r,off,ty2,us2,p1,p2,p3,p4,p5⟩:=v5 hn hc;exact⟨r,off,ty2,us2,p1,p2,p3,p4,fun j t hj ht=>by simp only[J3U,e,if_false];exact p5 j t hj ht⟩
       . by_cases e1:i1=i
         . by_cases e2:i2=i
           . rw[e1,e2]
           . subst e1;rw[h2 i2 e2] at n2;exact(hapq r (.inr ⟨b,base,κ,us,ty,i2,s1,s5,g2,n2,r2⟩) (hrowi r r1)).elim
         . by_cases e2:i2=i
           . subst e2;rw[h2 i1 e1] at n1;exact(hapq r (.inr ⟨b,base,κ,us,ty,i1,s1,s5,g1,n1,r1⟩) (hrowi r r2)).elim
           . rw[h2 i1 e1] at n1;rw[h2 i2 e2] at n2;exact s8 i1 i2 r g1 g2 n1 n2 r1 r2
       . by_cases e1:i1=i
         . subst e1;exact hapq b (.inl (by simp[J0p,s1])) (hrowi b r1)
         . rw[h2 i1 e1] at n1;exact s9 i1 g1 n1 r1
     . exact h.own.blk k' c' a1
   . intro k1 c1 k2 c2 r m1 m2 hne' e1 e2;rcases old k1 c1 r m1 e1 with ⟨a1,a2⟩ | ⟨d1,a1,a2,a3⟩
     . rcases old k2 c2 r m2 e2 with ⟨b1,b2⟩ | ⟨d2,b1,b2,b3⟩
       . exact hne' (a1.trans b1.symm)
       . exact h.own.apart k2 d2 q _ r b1 hmemq b2 b3 (.inl a2)
     . rcases old k2 c2 r m2 e2 with ⟨b1,b2⟩ | ⟨d2,b1,b2,b3⟩
       . exact h.own.apart k1 d1 q _ r a1 hmemq a2 a3 (.inl b2)
       . exact h.own.apart k1 d1 k2 d2 r a1 b1 hne' a3 b3
   . rintro r ⟨k',c',hm',e⟩;rcases old k' c' r hm' e with ⟨_,a2⟩ | ⟨d1,a1,_,a3⟩
     . exact⟨q,_,hmemq,.inl a2⟩
     . exact⟨k',d1,a1,a3⟩
 . obtain⟨⟨q',c'⟩,m1,m2⟩:=List.mem_map.1 hk';simp only at m2;subst m2;have:=(J0C.1 m1).1;rw[<- J2r k (.fam n s len (J3U f i g) op') own];exact List.mem_map.2 ⟨_,this,rfl⟩
theorem Q2J {own:Own} {n s a b qa qb ma mb:Nat} {len:Nat->Nat} {f:Nat->Nat->Nat->V} {fa fb:Nat->Nat->V} (hab:a≠b) (ha:a<n) (hb:b<n) (hk:look own 1=some (.fam n s len f [(b,qb),(a,qa)]))
 (hqa:look own qa=some (.vec ma s fa)) (hqb:look (J1M [qa] (J2T own 1 (.fam n s len (J3U f a fa) [(b,qb)]))) qb=some (.vec mb s fb)) (hk2:look (J1M [qa] (J2T own 1 (.fam n s len (J3U f a fa) [(b,qb)]))) 1=some (.fam n s len (J3U f a fa) [(b,qb)]))
 (h1:len a<=ma) (h2:len b<=mb) :
 J1P own (J1M [qb] (J2T (J1M [qa] (J2T own 1 (.fam n s len (J3U f a fa) [(b,qb)]))) 1 (.fam n s len (J3U (J3U f a fa) b fb) []))):=by
 refine(J6B [(b,qb)] hk hqa ha ((J0j (fun e=>hab e.symm)).trans (J0k rfl)) h1 (J0j (fun e=>hab e.symm)) (fun j hj=>?_)).trans (J6B [] hk2 hqb hb (J0k rfl) h2 rfl (fun j hj=>?_))
 . by_cases e:b=j
   . rw[J0k e,J0k e]
   . rw[J0j e,J0j e,J0j (fun e=>hj e.symm)]
 . rw[J0j (fun e=>hj e.symm)]
theorem J6X {P:Program} {fn:FuncId} {args:List V} {own:Own} {ks:List Nat} {K:V->Own->List Nat->Prop} (q k i:Nat) {n s:Nat} {len:Nat->Nat} {f:Nat->Nat->Nat->V} {op:List (Nat×Nat)} (hq:J09 q ks=true)
 (hk:look own k=some (.fam n s len f op)) (hi:i<n) (ho:look op i=none)
 (h:J0H P fn args ((q,.vec (len i) s (f i))::J2T own k (.fam n s len f ((i,q)::op))) (Q5i q ks) K):J0H P fn args own ks K:=by
 constructor;intro M w σ us hlen hd hh;obtain⟨x,h1,h2⟩:=J93 hh (J0m.1 hq) hk hi ho;have hq0:=hh.fresh q (J0m.1 hq);have hle:σ.le (σ.set q x):=Sg.le_set x hq0;refine(h.out M w (σ.set q x) us hlen (fun i v u hv hu=>(hd i v u hv hu).mono ⟨fun _ _ h=>⟨h,rfl⟩,Nat.le_refl _⟩ hle) h1).mono ?_;rintro e w' ⟨M',σ',v,own',ks',u,rfl,hv,hh',tr,kd,hK⟩;refine⟨M',σ',v,own',ks',u,rfl,hv,hh',⟨⟨tr.adv.os,tr.adv.tape,tr.adv.output,tr.adv.size,fun b hb hn=>tr.adv.same b hb fun x=>hn (h2 b x),fun b hb hn=>tr.adv.muts b hb fun x=>hn (h2 b x)⟩,fun b hb=>(tr.new b hb).imp_left (h2 b),Sg.le_trans hle tr.le⟩,⟨fun k hk=>(J32.1 (kd.1 k hk)).1,fun k e1 e2=>?_,fun k' hk'=>?_⟩,hK⟩
 . have hne:k≠q:=fun e=>e2 (e▸J0m.1 hq);exact kd.2.1 k (by rw[Sg.set_other _ _ _ hne];exact e1) (fun e=>e2 (J32.1 e).1)
 . rcases kd.2.2 k' hk' with x|x
   . simp only[List.map_cons,List.mem_cons,J2r] at x;rcases x with x|x
     . exact .inr (x▸J0m.1 hq)
     . exact .inl x
   . exact .inr (J32.1 x).1
theorem Q0q {P:Program} {f:FuncId} {args:List V} {own:Own} {ks:List Nat} {K:V->Own->List Nat->Prop} (h:J0H P f args own ks fun v own' ks'=>∃own'',J1P own' own''/\K v own'' ks'):J0H P f args own ks K:=by
 constructor;intro M w σ us hlen hd hh;refine(h.out M w σ us hlen hd hh).mono ?_;rintro e w' ⟨M',σ',v,own',ks',u,rfl,hv,hh',tr,kd,own'',hs,hK⟩;obtain⟨h1,h2⟩:=hs.out M' w' σ' ks' hh';exact⟨M',σ',v,own'',ks',u,rfl,hv,h1,⟨tr.adv,fun b hb=>tr.new b (h2 b hb),tr.le⟩,⟨kd.1,kd.2.1,fun k hk=>kd.2.2 k (hs.keys k hk)⟩,hK⟩
end Go.Eng
