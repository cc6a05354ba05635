import Derived.Test.YtojoidgjneapfaaEngM
import Derived.KernelRfl
namespace Go.Eng
abbrev Rn:=List (Nat×Option Nat)
def TS (ρ:Rn) (σ τ:Sg):Prop:=∀k o,look ρ k=some o->match o with
 | some k'=>τ k=σ k'
 | none=>τ k=some (none,0,0)
structure J0a (ρ:Rn) (v v':V):Prop where
 out:∀M w σ τ u,TS ρ σ τ->Den M w σ v u->Den M w τ v' u
theorem J0a.kf {ρ:Rn} {v:V} (h:v.kf=true):J0a ρ v v:=⟨fun _ _ _ τ _ _ hd=>hd.kf h τ⟩
theorem J0a.int {ρ:Rn} {k:IntKind} {a b:Int} (h:a=b):J0a ρ (.int k a) (.int k b):=by
 subst h;exact .kf rfl
theorem J0a.loc {ρ:Rn} {k k' o:Nat} (h:look ρ k=some (some k')):J0a ρ (.loc k' o) (.loc k o) :=
 ⟨fun M w σ τ u hts hd=>by
   cases hd with
   | loc _ _ _ b base κ hk=>exact .loc _ _ _ _ _ _ ((hts k _ h).trans hk)⟩
theorem J0a.oel {ρ:Rn} {k k' s i j i':Nat} (h:look ρ k=some (some k')) (hi:i=i'):J0a ρ (.oel k' s i j) (.oel k s i' j) :=
 ⟨fun M w σ τ u hts hd=>by
   subst hi;cases hd with
   | oel _ _ _ _ _ b base κ hk=>exact .oel _ _ _ _ _ _ _ _ ((hts k _ h).trans hk)⟩
theorem J0a.map {ρ:Rn} {k k':Nat} (h:look ρ k=some (some k')):J0a ρ (.map k') (.map k) :=
 ⟨fun M w σ τ u hts hd=>by
   cases hd with
   | map _ _ b base κ hk=>exact .map _ _ _ _ _ ((hts k _ h).trans hk)⟩
theorem J0a.yld {ρ:Rn} {k k':Nat} (h:look ρ k=some (some k')):J0a ρ (.yld k') (.yld k) :=
 ⟨fun M w σ τ u hts hd=>by
   cases hd with
   | yld _ _ b base κ hk=>exact .yld _ _ _ _ _ ((hts k _ h).trans hk)⟩
theorem J0a.vec {ρ:Rn} {k k' s lo len lo' len':Nat} (h:look ρ k=some (some k')) (h1:lo=lo') (h2:len=len'):J0a ρ (.vec k' s lo len) (.vec k s lo' len') :=
 ⟨fun M w σ τ u hts hd=>by
   subst h1 h2;cases hd with
   | vec _ _ _ _ _ bo base κ c a hk hc hl ha=>exact .vec _ _ _ _ _ _ _ _ _ _ ((hts k _ h).trans hk) hc hl ha⟩
theorem J0a.nil {ρ:Rn} {k s len:Nat} (h:look ρ k=some none) (hl:len=0):J0a ρ .nilslice (.vec k s 0 len) :=
 ⟨fun M w σ τ u hts hd=>by
   subst hl;cases hd;exact .vec _ _ _ _ _ none 0 0 0 none (hts k _ h) rfl (Nat.le_refl _) (fun h=>absurd h (Nat.lt_irrefl _))⟩
def J8n (ρ:Rn):List V->List V->Prop
 | [],[]=>True
 | v::r,v'::r'=>J0a ρ v v'/\J8n ρ r r'
 | _,_=>False
theorem J8n.out {ρ:Rn}:∀{cs cs':List V},J8n ρ cs cs'->cs'.length=cs.length/\∀(i:Nat) (v v':V),cs[i]?=some v->cs'[i]?=some v'->J0a ρ v v'
 | [],[],_=>⟨rfl,fun i v v' h=>by simp at h⟩
 | v::r,v'::r',h=>by
   obtain⟨l,hr⟩:=J8n.out h.2;refine⟨by simp[l],fun i x x' hx hx'=>?_⟩;cases i with
   | zero=>simp at hx hx';subst hx hx';exact h.1
   | succ i=>exact hr i x x' (by simpa using hx) (by simpa using hx')
 | [],_::_,h=>h.elim
 | _::_,[],h=>h.elim
theorem J8n.den {ρ:Rn} {cs cs':List V} (h:J8n ρ cs cs') {M:Nat->Prop} {w:World} {σ τ:Sg} {us:List Value} (hts:TS ρ σ τ) (hl:cs.length=us.length)
 (hd:∀(i:Nat) (v:V) (u:Value),cs[i]?=some v->us[i]?=some u->Den M w σ v u) :
 cs'.length=us.length/\∀(i:Nat) (v:V) (u:Value),cs'[i]?=some v->us[i]?=some u->Den M w τ v u:=by
 obtain⟨l,hr⟩:=h.out;refine⟨by omega,fun i v u hv hu=>?_⟩;have hi:i<cs.length:=by rw[<- l];exact(List.getElem?_eq_some_iff.1 hv).1
 exact(hr i cs[i] v (by simp[hi]) hv).out M w σ τ u hts (hd i cs[i] u (by simp[hi]) hu)
theorem J0a.agg {ρ:Rn} {cs cs':List V} (h:J8n ρ cs cs'):J0a ρ (.agg cs) (.agg cs') :=
 ⟨fun M w σ τ u hts hd=>by
   cases hd with|agg _ _ us hl hd=>obtain⟨a,b⟩:=h.den hts hl hd;exact .agg _ _ _ a b⟩
theorem J0a.fn {ρ:Rn} {f:Fn} {b:Bool} {cs cs':List V} (h:J8n ρ cs cs'):J0a ρ (.fn f b cs) (.fn f b cs') :=
 ⟨fun M w σ τ u hts hd=>by
   cases hd with|fn _ _ _ _ us hl hd=>obtain⟨a,b⟩:=h.den hts hl hd;exact .fn _ _ _ _ _ a b⟩
structure VLe (v v':V):Prop where
 out:∀M w u,Den M w Sg.none v u->Den M w Sg.none v' u
theorem VLe.rfl {v:V}:VLe v v:=⟨fun _ _ _ h=>h⟩
theorem VLe.of_eq {v v':V} (h:v=v'):VLe v v':=by subst h;exact .rfl
theorem VLe.trans {a b c:V} (h:VLe a b) (h':VLe b c):VLe a c:=⟨fun M w u hd=>h'.out M w u (h.out M w u hd)⟩
theorem VLe.fz {n n' s:Nat} {full full':Bool} {f f':Nat->Nat->V} (hn:n=n') (hf:full'=true->full=true) (h:∀i j,i<n->j<s->VLe (f i j) (f' i j)):VLe (.fz n s full f) (.fz n' s full' f') :=
 ⟨fun M w u hd=>by
   subst hn;cases hd with
   | fz0 _ _ _ _ a c hc=>exact .fz0 _ _ _ _ _ _ (fun e=>hc (hf e))
   | fz _ _ _ _ _ b off c u hc hf' hM hb hcell h1 hd=>exact .fz _ _ _ _ _ _ _ _ u hc (fun e=>hf' (hf e)) hM hb hcell h1 fun i j hi hj=>(h i j hi hj).out M w _ (hd i j hi hj)⟩
theorem VLe.nilfz {n s:Nat} {f:Nat->Nat->V} (hn:n=0):VLe .nilslice (.fz n s false f) :=
 ⟨fun M w u hd=>by
   subst hn;cases hd;exact .fz0 _ _ _ _ _ _ (by simp)⟩
theorem J0a.fz {ρ:Rn} {n n' s:Nat} {full full':Bool} {f f':Nat->Nat->V} (hn:n=n') (hf:full'=true->full=true) (h:∀i j,i<n->j<s->VLe (f i j) (f' i j)):J0a ρ (.fz n s full f) (.fz n' s full' f') :=
 ⟨fun M w _ τ u _ hd=>((VLe.fz hn hf h).out M w u (hd.kf (show V.kf (.fz n s full f)=true from by rfl) Sg.none)).kf (show V.kf (.fz n' s full' f')=true from by rfl) τ⟩
def J2C (ρ:Rn) (env:Env):Env->Prop
 | []=>True
 | (t,v)::r=>(∃v',look env t=some v'/\J0a ρ v' v)/\J2C ρ env r
def OpR (ρ:Rn):List (Nat×Nat)->List (Nat×Nat)->Prop
 | [],[]=>True
 | (i,q)::r,(i',q')::r'=>i=i'/\look ρ q'=some (some q)/\OpR ρ r r'
 | _,_=>False
theorem OpR.look {ρ:Rn}:∀{op op':List (Nat×Nat)},OpR ρ op op'->∀i,(Eng.look op i=none↔Eng.look op' i=none)/\∀q',Eng.look op' i=some q'->∃q,Eng.look op i=some q/\Eng.look ρ q'=some (some q)
 | [],[],_,i=>⟨Iff.rfl,fun q h=>by simp[Eng.look] at h⟩
 | (i0,q0)::r,(i0',q0')::r',h,i=>by
   obtain⟨rfl,h2,h3⟩:=h;have ih:=OpR.look h3 i;by_cases e:i0=i
   . rw[J0k e,J0k e];exact⟨by simp,fun q' e=>by simp at e;subst e;exact⟨q0,rfl,h2⟩⟩
   . rw[J0j e,J0j e];exact ih
 | [],_::_,h,_=>h.elim
 | _::_,[],h,_=>h.elim
def Q4g (ρ:Rn):Blk->Blk->Prop
 | .fam n s len f op,.fam n' s' len' f' op'=>n'=n/\s'=s/\OpR ρ op op'/\(∀i,i<n->len' i=len i)/\∀i j t,i<n->look op i=none->j<len i->t<s->VLe (f i j t) (f' i j t)
 | .vec n s f,.fam n' _ len' _ op'=>n'=n/\s=1/\op'=[]/\∀i,i<n->f i 0=.nilslice/\len' i=0
 | .cells cs,.cells cs'=>J8n ρ cs cs'
 | .vec n s f,.vec n' s' f'=>n'<=n/\s=s'/\∀i j,i<n'->j<s->VLe (f i j) (f' i j)
 | .map ik es,.map ik' es'=>∃h:ik'=ik,(h▸es')=es
 | .glob g n f,.glob g' n' f'=>g'=g/\n'=n/\f'=f
 | .iter km n J1h,.iter km' n' idxs'=>n'=n/\idxs'=J1h/\look ρ km'=some (some km)
 | .loop st pe env N ps C,.loop st' pe' env' N' ps' C'=>st'=st/\pe'=pe/\N'=N/\ps'=ps/\C'=C/\J2C ρ env env'
 | _,_=>False
def J1t (ρ:Rn) (own:Own):Own->Prop
 | []=>True
 | (k,b)::r=>(match look ρ k with
   | some (some k')=>∃b',look own k'=some b'/\Q4g ρ b' b
   | some none=>∃s f,b=.vec 0 s f
   | none=>False)/\J1t ρ own r
theorem J2C.look {ρ:Rn} {env:Env}:∀{m:Env},J2C ρ env m->∀t v,Eng.look m t=some v->∃v',Eng.look env t=some v'/\J0a ρ v' v
 | [],_,t,v,h=>by simp[Eng.look] at h
 | (t',v')::r,hm,t,v,h=>by
   unfold Eng.look at h;split at h
   . rename_i hb;have:=Nat.eq_of_beq_eq_true hb;subst this;cases h;exact hm.1
   . exact J2C.look hm.2 t v h
theorem J1t.mem {ρ:Rn} {own:Own}:∀{m:Own},J1t ρ own m->∀k b,(k,b)∈m->(∃k' b',Eng.look ρ k=some (some k')/\Eng.look own k'=some b'/\Q4g ρ b' b)\/(Eng.look ρ k=some none/\∃s f,b=.vec 0 s f)
 | [],_,k,b,h=>by simp at h
 | (k',b')::r,hm,k,b,h=>by
   rcases List.mem_cons.1 h with e|e
   . cases e;have h1:=hm.1;split at h1
     . rename_i k'' hk;obtain⟨b',h2,h3⟩:=h1;exact .inl ⟨k'',b',hk,h2,h3⟩
     . rename_i hk;exact .inr ⟨hk,h1⟩
     . exact h1.elim
   . exact J1t.mem hm.2 k b e
def rnB:Rn->Bool
 | []=>true
 | (k,o)::r=>r.all (fun p=>!Nat.beq p.1 k&&(match o,p.2 with|some a,some b=>!Nat.beq a b|_,_=>true))&&rnB r
def Q19 (chg:List Nat):Rn->Bool
 | []=>true
 | (k,o)::r=>((match o with|some k'=>Nat.beq k k'|none=>false) || J09 k chg)&&Q19 chg r
def ksB (ρ:Rn):List Nat->Bool
 | []=>true
 | k::r=>(match look ρ k with|none=>true|some _=>false)&&ksB ρ r
theorem J7h:∀{ρ:Rn},rnB ρ=true->∀k k' a,look ρ k=some (some a)->look ρ k'=some (some a)->k=k'
 | [],_,k,k',a,h,_=>by simp[look] at h
 | (q,o)::r,h,k,k',a,h1,h2=>by
   unfold rnB at h;simp only[Bool.and_eq_true] at h;obtain⟨hA,hB⟩:=h;rw[List.all_eq_true] at hA;have aux:∀j,look r j=some (some a)->o≠some a:=by
    intro j hj e;subst e;have:=hA _ (J0c hj);simp at this
   cases e1:Nat.beq q k<;>cases e2:Nat.beq q k'<;>simp only[look,e1,e2] at h1 h2
   . exact J7h hB k k' a h1 h2
   . cases h2;exact(aux k h1 rfl).elim
   . cases h1;exact(aux k' h2 rfl).elim
   . rw[<- Nat.eq_of_beq_eq_true e1,<- Nat.eq_of_beq_eq_true e2]
theorem J1l {chg:List Nat}:∀{ρ:Rn},Q19 chg ρ=true->∀k o,look ρ k=some o->o=some k\/k∈chg
 | [],_,k,o,h=>by simp[look] at h
 | (q,p)::r,h,k,o,hk=>by
   unfold Q19 at h;simp only[Bool.and_eq_true,Bool.or_eq_true] at h;unfold look at hk;split at hk
   . rename_i e;have:=Nat.eq_of_beq_eq_true e;subst this;cases hk;rcases h.1 with h1|h1
     . split at h1
       . have:=Nat.eq_of_beq_eq_true h1;subst this;exact .inl rfl
       . cases h1
     . exact .inr (J0m.1 h1)
   . exact J1l h.2 k o hk
theorem J5O {ρ:Rn}:∀{ks:List Nat},ksB ρ ks=true->∀k,k∈ks->look ρ k=none
 | [],_,k,h=>by simp at h
 | q::r,h,k,hk=>by
   unfold ksB at h;simp only[Bool.and_eq_true] at h;rcases List.mem_cons.1 hk with e|e
   . subst e;have:=h.1;split at this
     . assumption
     . cases this
   . exact J5O h.2 k e
def Sg.ren (ρ:Rn) (ks:List Nat) (σ:Sg):Sg:=fun k=>match look ρ k with
 | .some (.some k')=>σ k'
 | .some .none=>.some (.none,0,0)
 | .none=>if J09 k ks then .none else σ k
theorem Sg.ren_ts (ρ:Rn) (ks:List Nat) (σ:Sg):TS ρ σ (σ.ren ρ ks):=fun k o h=>by
 unfold Sg.ren;cases o with
 | some k'=>simp[h]
 | none=>simp[h]
theorem J54 {ρ:Rn} {M:Nat->Prop} {w:World} {σ τ:Sg} (hts:TS ρ σ τ) {k k':Nat} {b' b:Blk} (hk:τ k=σ k') (hb:J00 M w σ k' b') (e3:Q4g ρ b' b):J00 M w τ k b/\∀n,J0i w τ k b n->J0i w σ k' b' n:=by
 have plain:b.isFam=false->∀n,J0i w τ k b n->J0i w σ k' b' n:=fun hf n hn=>.inl (by rw[J1X hf] at hn;simpa[J0p,hk] using hn);cases b' with
 | cells cs =>
   cases b with
   | cells cs' =>
     obtain⟨b,κ,ty,us,z1,z2,z3,z4,z5⟩:=hb;obtain⟨q1,q2⟩:=J8n.den (us:=us.toList) (e3:J8n ρ cs cs') hts (by simpa using z4.symm) (fun i v u hv hu=>z5 i v u hv (by simpa using hu));exact⟨⟨b,κ,ty,us,by rw[hk];exact z1,z2,z3,by simpa using q1.symm,fun i v u hv hu=>q2 i v u hv (by simpa using hu)⟩,plain rfl⟩
   | _=>exact(e3:False).elim
 | map ik es =>
   cases b with
   | map ik' es' =>
     obtain⟨b,κ,arr,z1,z2,z3,z4⟩:=hb;obtain⟨rfl,rfl⟩:=(e3:∃h:ik'=ik,(h▸es')=es);exact⟨⟨b,κ,arr,by rw[hk];exact z1,z2,z3,z4⟩,plain rfl⟩
   | _=>exact(e3:False).elim
 | glob g n f =>
   cases b with
   | glob g' n' f' =>
     obtain⟨⟨base,κ,z1⟩,z2⟩:=hb;obtain⟨rfl,rfl,rfl⟩:=(e3:g'=g/\n'=n/\f'=f);exact⟨⟨⟨base,κ,by rw[hk];exact z1⟩,z2⟩,plain rfl⟩
   | _=>exact(e3:False).elim
 | iter km n J1h =>
   cases b with
   | iter km' n' idxs' =>
     obtain⟨r,κ,b,base,κ',z1,z2,z3,z4⟩:=hb;obtain⟨rfl,rfl,er⟩:=(e3:n'=n/\idxs'=J1h/\look ρ km'=some (some km));exact⟨⟨r,κ,b,base,κ',by rw[hk];exact z1,z2,by rw[hts km' _ er];exact z3,z4⟩,plain rfl⟩
   | _=>exact(e3:False).elim
 | loop st pe env0 N0 ps C =>
   cases b with
   | loop st' pe' env0' N0' ps' C' =>
     obtain⟨l,κ,r,z1,z2,z3,z4,z5,z6,z7,z8,z9⟩:=hb;obtain⟨rfl,rfl,rfl,rfl,rfl,er⟩:=(e3:st'=st/\pe'=pe/\N0'=N0/\ps'=ps/\C'=C/\J2C ρ env0 env0');refine⟨⟨l,κ,r,by rw[hk];exact z1,z2,z3,z4,z5,z6,z7,z8,fun t v hv=>?_⟩,plain rfl⟩;obtain⟨v',y1,y2⟩:=J2C.look er t v hv;exact y2.out M w σ _ _ hts (z9 t v' y1)
   | _=>exact(e3:False).elim
 | vec n s f =>
   cases b with
   | cells=>exact(e3:False).elim
   | loop=>exact(e3:False).elim
   | map=>exact(e3:False).elim
   | iter=>exact(e3:False).elim
   | glob=>exact(e3:False).elim
   | vec n' s' f' =>
     obtain⟨c1,c2,c3⟩:=(e3:n'<=n/\s=s'/\∀i j,i<n'->j<s->VLe (f i j) (f' i j));subst c2;obtain⟨bo,base,κ,z1,z2,z3⟩:=hb;refine⟨⟨bo,base,κ,by rw[hk];exact z1,by omega,?_⟩,plain rfl⟩;rcases z3 with z3 | ⟨b,ty,us,z3,z4,z5,z6,z7⟩
     . exact .inl z3
     . refine .inr ⟨b,ty,us,z3,z4,z5,z6,fun i j hi hj=>?_⟩;obtain⟨u,u1,u2,u3⟩:=z7 i j (by omega) hj;exact⟨u,u1,u2,(c3 i j hi hj).out M w u u3⟩
   | fam n' s' len' f' op' =>
     obtain⟨rfl,rfl,rfl,c4⟩:=(e3:n'=n/\s=1/\op'=[]/\∀i,i<n->f i 0=.nilslice/\len' i=0);obtain⟨bo,base,κ,z1,z2,z3⟩:=hb;rcases z3 with z3 | ⟨b,ty,us,z3,z4,z5,z6,z7⟩
     . refine⟨⟨bo,base,κ,by rw[hk];exact z1,z2,.inl z3⟩,fun m hm=>?_⟩;rcases hm with hm | ⟨ob,base',κ',us,ty,i,e1,_⟩
       . exact .inl (by simpa[J0p,hk] using hm)
       . rw[hk,z1,z3.2] at e1;simp at e1
     . subst z3;have hcell:∀i,i<n'->us[base+i]?=some (.slice none 0 0):=fun i hi=>by
        obtain⟨u,u1,_,u3⟩:=z7 i 0 hi (by omega);rw[(c4 i hi).1] at u3;cases u3;simpa using u1
       have hno:∀i r,i<n'->¬ J14 us base i r:=fun i r hi ⟨off,l,c,e,_⟩=>by rw[hcell i hi] at e;simp at e
       refine⟨⟨_,base,κ,by rw[hk];exact z1,z2,.inr ⟨b,ty,us,rfl,z4,z5,by omega,fun i hi=>⟨_,hcell i hi,none,0,by rw[(c4 i hi).2],by rw[(c4 i hi).2];exact Nat.le_refl _,fun q hq=>(by cases hq),fun _ hc=>absurd hc (by omega)⟩,fun i i' r hi hi' _ _ h1 _=>(hno i r hi h1).elim,fun i hi _=>hno i b hi⟩⟩,fun m hm=>?_⟩;rcases hm with hm | ⟨ob,base',κ',us',ty',i,e1,e2,e3,_,e5⟩
       . exact .inl (by simpa[J0p,hk] using hm)
       . rw[hk,z1] at e1;simp only[Option.some.injEq,Prod.mk.injEq] at e1;obtain⟨rfl,rfl,rfl⟩:=e1;rw[z5] at e2;simp only[Option.some.injEq,Obj.cells.injEq] at e2;obtain⟨rfl,_⟩:=e2;exact(hno i m e3 e5).elim
 | fam n s len f op =>
   cases b with
   | cells=>exact(e3:False).elim
   | loop=>exact(e3:False).elim
   | map=>exact(e3:False).elim
   | iter=>exact(e3:False).elim
   | glob=>exact(e3:False).elim
   | vec=>exact(e3:False).elim
   | fam n' s' len' f' op' =>
     obtain⟨rfl,rfl,c3,c4,c5⟩:=(e3:n'=n/\s'=s/\OpR ρ op op'/\(∀i,i<n->len' i=len i)/\∀i j t,i<n->look op i=none->j<len i->t<s->VLe (f i j t) (f' i j t));obtain⟨bo,base,κ,z1,z2,z3⟩:=hb;refine⟨⟨bo,base,κ,by rw[hk];exact z1,z2,?_⟩,fun m hm=>?_⟩
     . rcases z3 with z3 | ⟨b,ty,us,z3,z4,z5,z6,z7,z8,z9⟩
       . exact .inl z3
       . refine .inr ⟨b,ty,us,z3,z4,z5,z6,fun i hi=>?_,fun i i' r hi hi' n1 n2 r1 r2=>z8 i i' r hi hi' ((c3.look i).1.2 n1) ((c3.look i').1.2 n2) r1 r2,fun i hi n1 r1=>z9 i hi ((c3.look i).1.2 n1) r1⟩;obtain⟨u,u1,a,c,u2,u3,u4,u5⟩:=z7 i hi;refine⟨u,u1,a,c,by rw[c4 i hi];exact u2,by rw[c4 i hi];exact u3,fun q' hq'=>?_,fun hn hc=>?_⟩
         . obtain⟨q,y1,y2⟩:=(c3.look i).2 q' hq';rw[c4 i hi];exact(J0a.vec y2 rfl rfl).out M w σ τ u hts (u4 q y1)
         . have hn':=(c3.look i).1.2 hn;obtain⟨r,off,ty2,us2,p1,p2,p3,p4,p5⟩:=u5 hn' hc;refine⟨r,off,ty2,us2,p1,p2,p3,p4,fun j t hj ht=>?_⟩;rw[c4 i hi] at hj;obtain⟨x,x1,x2,x3⟩:=p5 j t hj ht;exact⟨x,x1,x2,(c5 i j t hi hn' hj ht).out M w x x3⟩
     . rcases hm with hm | ⟨ob,base',κ',us',ty',i,e1,e2,e3,e4,e5⟩
       . exact .inl (by simpa[J0p,hk] using hm)
       . exact .inr ⟨ob,base',κ',us',ty',i,by rw[<- hk];exact e1,e2,e3,(c3.look i).1.2 e4,e5⟩
theorem Q0S {N:Nat} {chg:List Nat} {env env':Env} {own own':Own} {ks ks':List Nat} (ρ:Rn) (he:J2C ρ env env') (ho:J1t ρ own own') (hn:J08 ks'=true) (hon:J08 (own'.map (·.1))=true)
 (h1:rnB ρ=true) (h2:Q19 chg ρ=true) (h3:ksB ρ ks'=true):J8U N chg ⟨env,own,ks⟩ ⟨env',own',ks'⟩:=by
 constructor;intro B M w σ a s;have hts:=Sg.ren_ts ρ ks' σ;have hob:=J1t.mem ho;have hblk:∀k b,(k,b)∈own'->∀n,J0i w (σ.ren ρ ks') k b n->∃k' b',look ρ k=some (some k')/\(k',b')∈own/\J0i w σ k' b' n:=by
  intro k b hm n hn;rcases hob k b hm with ⟨k',b',e1,e2,e3⟩ | ⟨e1,s',f,rfl⟩
  . exact⟨k',b',e1,J0c e2,(J54 hts (hts k _ e1) (s.heap.own.blk k' b' (J0c e2)) e3).2 n hn⟩
  . have:(σ.ren ρ ks') k=some (none,0,0):=hts k _ e1;simp[J0i,J3P,J0p,this] at hn
 refine⟨M,σ.ren ρ ks',⟨?_,⟨⟨?_,J1E hon,?_⟩,?_,J1E hn⟩,s.size,?_⟩,⟨.refl _ _ _,?_⟩,?_⟩
 . intro t v hv;obtain⟨v',e1,e2⟩:=J2C.look he t v hv;exact e2.out M w σ _ _ hts (s.env t v' e1)
 . intro k b hm;rcases hob k b hm with ⟨k',b',e1,e2,e3⟩ | ⟨e1,s',f,rfl⟩
   . exact(J54 hts (hts k _ e1) (s.heap.own.blk k' b' (J0c e2)) e3).1
   . have hk:(σ.ren ρ ks') k=some (none,0,0):=hts k _ e1;exact⟨none,0,0,hk,Nat.le_refl _,.inl ⟨rfl,rfl⟩⟩
 . intro k b k' b' n m1 m2 hne e1 e2;obtain⟨q,qb,a1,a2,a3⟩:=hblk k b m1 n e1;obtain⟨q',qb',a1',a2',a3'⟩:=hblk k' b' m2 n e2;by_cases hq:q=q'
   . subst hq;exact hne (J7h h1 k k' q a1 a1')
   . exact s.heap.own.apart q qb q' qb' n a2 a2' hq a3 a3'
 . intro k hk;simp[Sg.ren,J5O h3 k hk,J0m.2 hk]
 . refine⟨s.defers.base,fun d hd=>?_,s.defers.nodup⟩;obtain⟨D,e,q1,q2,q3,q4⟩:=s.defers.mark d hd;refine⟨D,e,q1,q2,?_,q4⟩;rintro⟨k,b,hm,e⟩;obtain⟨q,qb,_,a2,a3⟩:=hblk k b hm D e;exact q3 ⟨q,qb,a2,a3⟩
 . rintro n ⟨k,b,hm,e⟩;obtain⟨q,qb,_,a2,a3⟩:=hblk k b hm n e;exact .inl ⟨q,qb,a2,a3⟩
 . intro k hk hc;unfold Sg.ren;split
   . rename_i k' hr;rcases J1l h2 k _ hr with e|e
     . cases e;rfl
     . exact(hc e).elim
   . rename_i hr;rcases J1l h2 k _ hr with e|e
     . cases e
     . exact(hc e).elim
   . have:J09 k ks'=false:=by
      rw[<- Bool.not_eq_true];exact fun h=>hk (J0m.1 h)
     simp[this]
def Q40 (own:Own) (v:V) (K:V->Prop):Prop :=
 match v with
 | .tup cs=>Q49 own cs fun cs=>K (.tup cs)
 | v=>bor own v K
theorem J5h {own:Own} {v:V} {K:V->Prop} (h:Q40 own v K):∃v',K v'/\∀M w σ u,J1v M w σ own->Den M w σ v u->Den (J4O M w σ own) w Sg.none v' u:=by
 unfold Q40 at h;split at h
 . rename_i cs;obtain⟨cs',hK,hl,hr⟩:=J2Q h;refine⟨_,hK,fun M w σ u ho hd=>?_⟩;cases hd with
   | tup _ _ us l1 l2 =>
     refine .tup _ _ _ (by omega) fun i v' u' hv' hu'=>?_;have hi:i<cs.length:=by rw[<- hl];exact(List.getElem?_eq_some_iff.1 hv').1
     exact hr M w σ ho i cs[i] v' u' (by simp[hi]) hv' (l2 i cs[i] u' (by simp[hi]) hu')
 . exact J4L h
theorem J79 {M:Nat->Prop} {w:World} {σ:Sg} {own own':Own} {ks ks':List Nat} (s:J0G M w σ own ks) (ρ:Rn) (ho:J1t ρ own own') (hn:J08 ks'=true) (hon:J08 (own'.map (·.1))=true)
 (h1:rnB ρ=true) (h3:ksB ρ ks'=true):J0G M w (σ.ren ρ ks') own' ks'/\∀n,J0y w (σ.ren ρ ks') own' n->∃k k' b',look ρ k=some (some k')/\(k',b')∈own/\J0i w σ k' b' n:=by
 have hts:=Sg.ren_ts ρ ks' σ;have hob:=J1t.mem ho;have hblk:∀k b,(k,b)∈own'->∀n,J0i w (σ.ren ρ ks') k b n->∃k' b',look ρ k=some (some k')/\(k',b')∈own/\J0i w σ k' b' n:=by
  intro k b hm n hn;rcases hob k b hm with ⟨k',b',e1,e2,e3⟩ | ⟨e1,s',f,rfl⟩
  . exact⟨k',b',e1,J0c e2,(J54 hts (hts k _ e1) (s.own.blk k' b' (J0c e2)) e3).2 n hn⟩
  . have:(σ.ren ρ ks') k=some (none,0,0):=hts k _ e1;simp[J0i,J3P,J0p,this] at hn
 refine⟨⟨⟨?_,J1E hon,?_⟩,?_,J1E hn⟩,?_⟩
 . intro k b hm;rcases hob k b hm with ⟨k',b',e1,e2,e3⟩ | ⟨e1,s',f,rfl⟩
   . exact(J54 hts (hts k _ e1) (s.own.blk k' b' (J0c e2)) e3).1
   . have hk:(σ.ren ρ ks') k=some (none,0,0):=hts k _ e1;exact⟨none,0,0,hk,Nat.le_refl _,.inl ⟨rfl,rfl⟩⟩
 . intro k b k' b' n m1 m2 hne e1 e2;obtain⟨q,qb,a1,a2,a3⟩:=hblk k b m1 n e1;obtain⟨q',qb',a1',a2',a3'⟩:=hblk k' b' m2 n e2;by_cases hq:q=q'
   . subst hq;exact hne (J7h h1 k k' q a1 a1')
   . exact s.own.apart q qb q' qb' n a2 a2' hq a3 a3'
 . intro k hk;simp[Sg.ren,J5O h3 k hk,J0m.2 hk]
 . rintro n ⟨k,b,hm,e⟩;obtain⟨q,qb,a1,a2,a3⟩:=hblk k b hm n e;exact⟨k,q,qb,a1,a2,a3⟩
def rk (ρ:List (Nat×Nat)) (k:Nat):Nat:=match look ρ k with|some k'=>k'|none=>k
def V.rn1 (ρ:List (Nat×Nat)):V->V
 | .loc k o=>.loc (rk ρ k) o
 | .oel k s i j=>.oel (rk ρ k) s i j
 | .vec k s lo len=>.vec (rk ρ k) s lo len
 | .map k=>.map (rk ρ k)
 | .yld k=>.yld (rk ρ k)
 | v=>v
def J9I (f:V->V):List V->List V
 | []=>[]
 | v::r=>f v::J9I f r
def V.rn2 (ρ:List (Nat×Nat)):V->V
 | .agg cs=>.agg (J9I (V.rn1 ρ) cs)
 | .fn f b cs=>.fn f b (J9I (V.rn1 ρ) cs)
 | .iface t v=>.iface t (v.rn1 ρ)
 | v=>v.rn1 ρ
def V.rn3 (ρ:List (Nat×Nat)):V->V
 | .tup cs=>.tup (J9I (V.rn2 ρ) cs)
 | v=>v.rn2 ρ
def Blk.rn (ρ:List (Nat×Nat)):Blk->Blk
 | .cells cs=>.cells (J9I (V.rn2 ρ) cs)
 | .iter km n J1h=>.iter (rk ρ km) n J1h
 | b=>b
def J4n (ρ:List (Nat×Nat)):Own->Own
 | []=>[]
 | (k,b)::r=>(rk ρ k,b.rn ρ)::J4n ρ r
def V.in1 (ks:List Nat):V->Bool
 | .loc k _ | .oel k _ _ _ | .vec k _ _ _ | .map k | .yld k=>J09 k ks
 | .agg _ | .tup _ | .fn _ _ _ | .iface _ _=>false
 | _=>true
def V.in2 (ks:List Nat):V->Bool
 | .agg cs=>J27 (V.in1 ks) cs
 | .fn _ _ cs=>J27 (V.in1 ks) cs
 | .iface _ v=>v.in1 ks
 | v=>v.in1 ks
def V.in3 (ks:List Nat):V->Bool
 | .tup cs=>J27 (V.in2 ks) cs
 | v=>v.in2 ks
def J3g (ks:List Nat):Own->Bool
 | []=>true
 | (k,.cells cs)::r=>match J09 k ks,J27 (V.in2 ks) cs with|true,true=>J3g ks r|_,_=>false
 | (k,.vec _ _ _)::r=>match J09 k ks with|true=>J3g ks r|false=>false
 | (_,.loop _ _ _ _ _ _)::_=>false
 | (k,.map _ _)::r=>match J09 k ks with|true=>J3g ks r|false=>false
 | (k,.glob _ _ _)::r=>match J09 k ks with|true=>J3g ks r|false=>false
 | (k,.iter km _ _)::r=>match J09 k ks,J09 km ks with|true,true=>J3g ks r|_,_=>false
 | (k,.fam _ _ _ _ [])::r=>match J09 k ks with|true=>J3g ks r|false=>false
 | (_,.fam _ _ _ _ (_::_))::_=>false
theorem J3i {f:V->V}:∀{l:List V} {i:Nat} {v:V},(J9I f l)[i]?=some v->∃x,l[i]?=some x/\v=f x
 | [],i,v,h=>by simp[J9I] at h
 | x::r,i,v,h=>by
   cases i with
   | zero=>simp[J9I] at h;exact⟨x,by simp,h.symm⟩
   | succ i=>simp[J9I] at h;obtain⟨y,a,b⟩:=J3i h;exact⟨y,by simpa using a,b⟩
theorem J1G {f:V->V}:∀{l:List V},(J9I f l).length=l.length
 | []=>rfl
 | _::r=>by simp[J9I,J1G (l:=r)]
section
variable {M:Nat->Prop} {w:World} {τ σ:Sg} {ρ:List (Nat×Nat)} {dom:List Nat}
theorem Den.rn1 (H:∀k,J09 k dom=true->σ (rk ρ k)=τ k) {v:V} {u:Value} (h:Den M w τ v u) (hv:v.in1 dom=true):Den M w σ (v.rn1 ρ) u:=by
 cases h with
 | bool=>exact .bool _ _
 | int=>exact .int _ _ _
 | str=>exact .str _ _
 | nilptr=>exact .nilptr _
 | nilslice=>exact .nilslice _
 | nilmap=>exact .nilmap _
 | nilfunc=>exact .nilfunc _
 | niliface=>exact .niliface _
 | loc _ k off b base κ hk=>exact .loc _ _ _ _ _ _ ((H k hv).trans hk)
 | oel _ k s i j b base κ hk=>exact .oel _ _ _ _ _ _ _ _ ((H k hv).trans hk)
 | vec _ k s lo len bo base κ c a hk hc hl ha=>exact .vec _ _ _ _ _ _ _ _ _ _ ((H k hv).trans hk) hc hl ha
 | map _ k b base κ hk=>exact .map _ _ _ _ _ ((H k hv).trans hk)
 | yld _ k b base κ hk=>exact .yld _ _ _ _ _ ((H k hv).trans hk)
 | fz0 _ _ _ _ _ _ hf=>exact .fz0 _ _ _ _ _ _ hf
 | fz _ _ _ _ _ _ _ _ u hc hf hM hb hcell h1 hd=>exact .fz _ _ _ _ _ _ _ _ u hc hf hM hb hcell h1 hd
 | fe _ _ _ _ _ _ _ _ u hi hM hb hcell h1 hd=>exact .fe _ _ _ _ _ _ _ _ u hi hM hb hcell h1 hd
 | raw=>exact .raw _ _
 | anyb=>exact .anyb _ _
 | top=>exact .top _ _
 | _=>simp[V.in1] at hv
theorem Den.rn2 (H:∀k,J09 k dom=true->σ (rk ρ k)=τ k) {v:V} {u:Value} (h:Den M w τ v u) (hv:v.in2 dom=true):Den M w σ (v.rn2 ρ) u:=by
 cases v with
 | agg cs =>
   cases h with
   | agg _ _ us hl hd =>
     refine .agg _ _ _ (by rw[J1G];exact hl) fun i v u h1 h2=>?_;obtain⟨x,hx,rfl⟩:=J3i h1;exact(hd i x u hx h2).rn1 H (J0v hv x (List.mem_of_getElem? hx))
 | fn f b cs =>
   cases h with
   | fn _ _ _ _ us hl hd =>
     refine .fn _ _ _ _ _ (by rw[J1G];exact hl) fun i v u h1 h2=>?_;obtain⟨x,hx,rfl⟩:=J3i h1;exact(hd i x u hx h2).rn1 H (J0v hv x (List.mem_of_getElem? hx))
 | iface t v=>cases h with|iface _ _ _ _ hd=>exact .iface _ _ _ _ (hd.rn1 H hv)
 | _=>exact h.rn1 H hv
theorem Den.rn3 (H:∀k,J09 k dom=true->σ (rk ρ k)=τ k) {v:V} {u:Value} (h:Den M w τ v u) (hv:v.in3 dom=true):Den M w σ (v.rn3 ρ) u:=by
 cases v with
 | tup cs =>
   cases h with
   | tup _ _ us hl hd =>
     refine .tup _ _ _ (by rw[J1G];exact hl) fun i v u h1 h2=>?_;obtain⟨x,hx,rfl⟩:=J3i h1;exact(hd i x u hx h2).rn2 H (J0v hv x (List.mem_of_getElem? hx))
 | _=>exact h.rn2 H hv
theorem J2w:∀{own:Own} {k:Nat} {b:Blk},(k,b)∈J4n ρ own->∃k0 b0,(k0,b0)∈own/\k=rk ρ k0/\b=b0.rn ρ
 | [],k,b,h=>by simp[J4n] at h
 | (q,c)::r,k,b,h=>by
   simp only[J4n,List.mem_cons,Prod.mk.injEq] at h;rcases h with ⟨rfl,rfl⟩|h
   . exact⟨q,c,by simp,rfl,rfl⟩
   . obtain⟨k0,b0,a,e⟩:=J2w h;exact⟨k0,b0,by simp[a],e⟩
theorem J3t:∀{own:Own},(J4n ρ own).map (·.1)=own.map fun p=>rk ρ p.1
 | []=>rfl
 | (q,c)::r=>by simp[J4n,J3t (own:=r)]
theorem J0Z:∀{own:Own},J3g dom own=true->∀k b,(k,b)∈own->J09 k dom=true/\(∀cs,b=.cells cs->J27 (V.in2 dom) cs=true)/\(∀st pe env N ps C,b≠.loop st pe env N ps C)/\(∀n s len f op,b=.fam n s len f op->op=[])/\∀km n J1h,b=.iter km n J1h->J09 km dom=true
 | [],_,k,b,h=>by simp at h
 | (q,.cells cs)::r,h,k,b,hm=>by
   unfold J3g at h;split at h
   . rename_i h1 h2;rcases List.mem_cons.1 hm with e|e
     . cases e;exact⟨h1,fun _ e=>by cases e;exact h2,fun _ _ _ _ _ _ e=>(by cases e),fun _ _ _ _ _ e=>(by cases e),fun _ _ _ e=>by cases e⟩
     . exact J0Z h k b e
   . cases h
 | (q,.vec _ _ _)::r,h,k,b,hm=>by
   unfold J3g at h;split at h
   . rename_i h1;rcases List.mem_cons.1 hm with e|e
     . cases e;exact⟨h1,fun _ e=>(by cases e),fun _ _ _ _ _ _ e=>(by cases e),fun _ _ _ _ _ e=>(by cases e),fun _ _ _ e=>by cases e⟩
     . exact J0Z h k b e
   . cases h
 | (q,.loop _ _ _ _ _ _)::r,h,k,b,hm=>by cases h
 | (q,.map _ _)::r,h,k,b,hm=>by
   unfold J3g at h;split at h
   . rename_i h1;rcases List.mem_cons.1 hm with e|e
     . cases e;exact⟨h1,fun _ e=>(by cases e),fun _ _ _ _ _ _ e=>(by cases e),fun _ _ _ _ _ e=>(by cases e),fun _ _ _ e=>by cases e⟩
     . exact J0Z h k b e
   . cases h
 | (q,.glob _ _ _)::r,h,k,b,hm=>by
   unfold J3g at h;split at h
   . rename_i h1;rcases List.mem_cons.1 hm with e|e
     . cases e;exact⟨h1,fun _ e=>(by cases e),fun _ _ _ _ _ _ e=>(by cases e),fun _ _ _ _ _ e=>(by cases e),fun _ _ _ e=>by cases e⟩
     . exact J0Z h k b e
   . cases h
 | (q,.iter km _ _)::r,h,k,b,hm=>by
   unfold J3g at h;split at h
   . rename_i h1 h2;rcases List.mem_cons.1 hm with e|e
     . cases e;exact⟨h1,fun _ e=>(by cases e),fun _ _ _ _ _ _ e=>(by cases e),fun _ _ _ _ _ e=>(by cases e),fun _ _ _ e=>by cases e;exact h2⟩
     . exact J0Z h k b e
   . cases h
 | (q,.fam _ _ _ _ [])::r,h,k,b,hm=>by
   unfold J3g at h;split at h
   . rename_i h1;rcases List.mem_cons.1 hm with e|e
     . cases e;exact⟨h1,fun _ e=>(by cases e),fun _ _ _ _ _ _ e=>(by cases e),fun _ _ _ _ _ e=>(by cases e;rfl),fun _ _ _ e=>by cases e⟩
     . exact J0Z h k b e
   . cases h
 | (q,.fam _ _ _ _ (_::_))::r,h,k,b,hm=>by cases h
theorem J5S {w:World} {ρ:List (Nat×Nat)} {σ τ:Sg} {k:Nat} {b:Blk} {n:Nat} (h:σ (rk ρ k)=τ k):J0i w σ (rk ρ k) (b.rn ρ) n↔J0i w τ k b n:=by
 cases b<;>first|exact Q1Q h|(rw[J1X rfl,J1X rfl];simp only[J0p,h])
theorem J00.rn (H:∀k,J09 k dom=true->σ (rk ρ k)=τ k) {k:Nat} {b:Blk} (h:J00 M w τ k b) (hk:J09 k dom=true) (hb:(∀cs,b=.cells cs->J27 (V.in2 dom) cs=true)/\(∀st pe env N ps C,b≠.loop st pe env N ps C)/\(∀n s len f op,b=.fam n s len f op->op=[])/\∀km n J1h,b=.iter km n J1h->J09 km dom=true):J00 M w σ (rk ρ k) (b.rn ρ):=by
 obtain⟨hb,hnl,hfm,hit⟩:=hb;cases b with
 | map ik es =>
   obtain⟨b,κ,arr,z1,z2,z3,z4⟩:=h;exact⟨b,κ,arr,(H k hk).trans z1,z2,z3,z4⟩
 | glob g n f =>
   obtain⟨⟨base,κ,z1⟩,z2⟩:=h;exact⟨⟨base,κ,(H k hk).trans z1⟩,z2⟩
 | iter km n J1h =>
   obtain⟨r,κ,b,base,κ',z1,z2,z3,z4⟩:=h;exact⟨r,κ,b,base,κ',(H k hk).trans z1,z2,(H km (hit km n J1h rfl)).trans z3,z4⟩
 | loop st pe env N ps C=>exact(hnl _ _ _ _ _ _ rfl).elim
 | fam n s len f op =>
   obtain rfl:=hfm _ _ _ _ _ rfl;obtain⟨bo,base,κ,z1,z2,z3⟩:=h;refine⟨bo,base,κ,(H k hk).trans z1,z2,?_⟩;rcases z3 with z3 | ⟨b,ty,us,z3,z4,z5,z6,z7,z8⟩
   . exact .inl z3
   . refine .inr ⟨b,ty,us,z3,z4,z5,z6,fun i hi=>?_,z8⟩;obtain⟨u,u1,a,c,u2,u3,_,u5⟩:=z7 i hi;exact⟨u,u1,a,c,u2,u3,fun q hq=>(by cases hq),u5⟩
 | cells cs =>
   obtain⟨b,κ,ty,us,z1,z2,z3,z4,z5⟩:=h;refine⟨b,κ,ty,us,(H k hk).trans z1,z2,z3,by rw[J1G];exact z4,fun i v u hv hu=>?_⟩;obtain⟨x,hx,rfl⟩:=J3i hv;exact(z5 i x u hx hu).rn2 H (J0v (hb cs rfl) x (List.mem_of_getElem? hx))
 | vec n s f =>
   obtain⟨bo,base,κ,z1,z2,z3⟩:=h;exact⟨bo,base,κ,(H k hk).trans z1,z2,z3⟩
end
def J8b:List Nat->List Nat->(List (Nat×Nat)->List Nat->Prop)->Prop
 | [],ks,K=>K [] ks
 | k::r,ks,K=>match ks with
   | q::ks=>J8b r ks fun l ks=>K ((k,q)::l) ks
   | []=>False
theorem J3K:∀{nk ks:List Nat} {K:List (Nat×Nat)->List Nat->Prop},J8b nk ks K->∃l ks',K l ks'/\l.map (·.1)=nk/\ks=l.map (·.2)++ks'
 | [],ks,K,h=>⟨[],ks,h,rfl,rfl⟩
 | k::r,ks,K,h=>by
   unfold J8b at h;split at h
   . obtain⟨l,ks',a,b,c⟩:=J3K h;exact⟨_,ks',a,by simp[b],by simp[c]⟩
   . exact h.elim
def J0N:Rn->List (Nat×Nat)
 | []=>[]
 | (k,some q)::r=>(k,q)::J0N r
 | (_,none)::r=>J0N r
theorem J3s {k q:Nat}:∀{ρ:Rn},(k,q)∈J0N ρ->(k,some q)∈ρ
 | [],h=>by simp[J0N] at h
 | (a,some b)::r,h=>by
   simp only[J0N,List.mem_cons,Prod.mk.injEq] at h;rcases h with ⟨rfl,rfl⟩|h
   . simp
   . simp[J3s h]
 | (a,none)::r,h=>by
   simp only[J0N] at h;simp[J3s h]
theorem J5K {ρ:List (Nat×Nat)} {k q:Nat} (h:look ρ k=some q):rk ρ k=q:=by simp[rk,h]
def Q4a:List (Nat×Nat)->Bool
 | []=>true
 | (k,q)::r=>r.all (fun p=>!Nat.beq p.1 k&&!Nat.beq p.2 q)&&Q4a r
theorem J2z:∀{ρ:List (Nat×Nat)},Q4a ρ=true->∀k q,(k,q)∈ρ->look ρ k=some q
 | [],_,k,q,h=>by simp at h
 | (a,b)::r,h,k,q,hm=>by
   unfold Q4a at h;simp only[Bool.and_eq_true,List.all_eq_true] at h;rcases List.mem_cons.1 hm with e|e
   . cases e;simp[look]
   . have h1:=h.1 _ e;simp only[Bool.not_eq_true'] at h1;have:Nat.beq a k=false:=by
      rw[<- Bool.not_eq_true];intro hb;have:=Nat.eq_of_beq_eq_true hb;subst this;simp at h1
     simp only[look,this];exact J2z h.2 k q e
theorem J77:∀{ρ:List (Nat×Nat)},Q4a ρ=true->∀k k' q,(k,q)∈ρ->(k',q)∈ρ->k=k'
 | [],_,k,k',q,h,_=>by simp at h
 | (a,b)::r,h,k,k',q,h1,h2=>by
   unfold Q4a at h;simp only[Bool.and_eq_true,List.all_eq_true] at h;rcases List.mem_cons.1 h1 with e|e<;>rcases List.mem_cons.1 h2 with e'|e'
   . cases e;cases e';rfl
   . cases e;have:=(h.1 _ e').2;simp at this
   . cases e';have:=(h.1 _ e).2;simp at this
   . exact J77 h.2 k k' q e e'
theorem J1j {ρ:List (Nat×Nat)} {k:Nat} (h:J09 k (ρ.map (·.1))=true):∃q,(k,q)∈ρ:=by
 obtain⟨⟨a,b⟩,h1,h2⟩:=List.mem_map.1 (J0m.1 h);simp only at h2;subst h2;exact⟨b,h1⟩
def Q5c (own:Own) (ks:List Nat) (ρ:Rn) (nk:List Nat) (v:V) (own':Own) (K:V->Own->List Nat->Prop):Prop :=
 J8b nk ks fun l ks'=>Chk (Q4a (J0N ρ++l)&&v.in3 ((J0N ρ++l).map (·.1))&&J3g ((J0N ρ++l).map (·.1)) own')
  (K (v.rn3 (J0N ρ++l)) (J4n (J0N ρ++l) own'++J1M ((J0N ρ).map (·.2)) own) ks')
theorem J9l:∀{ρ:Rn},rnB ρ=true->∀k o,(k,o)∈ρ->look ρ k=some o
 | [],_,k,o,h=>by simp at h
 | (a,b)::r,h,k,o,hm=>by
   unfold rnB at h;simp only[Bool.and_eq_true,List.all_eq_true] at h;rcases List.mem_cons.1 hm with e|e
   . cases e;simp[look]
   . have h1:=h.1 _ e;simp only[Bool.not_eq_true'] at h1;have:Nat.beq a k=false:=by
      rw[<- Bool.not_eq_true];intro hb;have:=Nat.eq_of_beq_eq_true hb;subst this;simp at h1
     simp only[look,this];exact J9l h.2 k o e
theorem Q3Q {P:Program} {f:FuncId} {args args0:List V} {own own0:Own} {ks ks0:List Nat} {K:V->Own->List Nat->Prop} (ρ:Rn) (nk:List Nat)
 (hargs:J8n ρ args args0) (hown:J1t ρ own own0) (h1:(J08 ks0&&J08 (own0.map (·.1))&&rnB ρ&&ksB ρ ks0&&(ρ.all fun p=>J09 p.1 (own0.map (·.1))))=true)
 (h:J0H P f args0 own0 ks0 fun v own' _=>Q5c own ks ρ nk v own' K):J0H P f args own ks K:=by
 simp only[Bool.and_eq_true] at h1;obtain⟨⟨⟨⟨hk0,ho0⟩,hrn⟩,hks⟩,hdom⟩:=h1;rw[List.all_eq_true] at hdom;constructor;intro M w σ us hlen hd hh;obtain⟨s0,hsub⟩:=J79 hh ρ hown hk0 ho0 hrn hks;have hts:=Sg.ren_ts ρ ks0 σ;obtain⟨a1,a2⟩:=J8n.den hargs hts hlen hd;refine(h.out M w (σ.ren ρ ks0) us a1 a2 s0).mono ?_;rintro e w' ⟨M',τ',v,own',ks',u,rfl,hv,hh',tr,kd,hb⟩;obtain⟨l,ksr,⟨hchk,hK⟩,hl1,hl2⟩:=J3K hb;simp only[Bool.and_eq_true] at hchk;obtain⟨⟨hinj,hvin⟩,hoin⟩:=hchk;have hknd:=hh.knodup;rw[hl2,List.nodup_append] at hknd;obtain⟨kn1,kn2,kn3⟩:=hknd
 -- what the names stand for now
 let rv:List (Nat×Nat):=l.map fun p=>(p.2,p.1);let σ':Sg:=fun k=>match look rv k with|some k0=>τ' k0|none=>σ k
 have hfr:∀p,p∈l->σ p.2=none:=fun p hp=>hh.fresh p.2 (by rw[hl2];simp;exact .inl ⟨p.1,hp⟩);have hlook:∀k0 q,(k0,q)∈l->look rv q=some k0:=by
  intro k0 q hm;have:∀(m:List (Nat×Nat)),(m.map (·.2)).Nodup->(k0,q)∈m->look (m.map fun p=>(p.2,p.1)) q=some k0:=by
   intro m
   induction m with
   | nil=>intro _ h;simp at h
   | cons p m ih =>
     intro hn hm;simp only[List.map_cons,List.nodup_cons] at hn;rcases List.mem_cons.1 hm with e|e
     . subst e;simp[look]
     . have hne:Nat.beq p.2 q=false:=by
        rw[<- Bool.not_eq_true];intro hb;have:=Nat.eq_of_beq_eq_true hb;exact hn.1 (List.mem_map.2 ⟨_,e,this.symm⟩)
       simp only[List.map_cons,look,hne];exact ih hn.2 e
  exact this l kn1 hm
 have hlookn:∀k,k∉l.map (·.2)->σ' k=σ k:=by
  intro k hk;have:look rv k=none:=by
   cases e:look rv k with
   | none=>rfl
   | some q =>
     have:=J0c e;obtain⟨p,h1,h2⟩:=List.mem_map.1 this;cases h2;exact(hk (List.mem_map.2 ⟨p,h1,rfl⟩)).elim
  simp only[σ',this]
 have hle:σ.le σ':=by
  intro k x hx;rw[hlookn k fun hm=>?_]
  . exact hx
  . obtain⟨p,h1,h2⟩:=List.mem_map.1 hm;subst h2;rw[hfr p h1] at hx;cases hx
 have hrng:∀k0 q,(k0,q)∈J0N ρ->∃b,(q,b)∈own/\look ρ k0=some (some q)/\∃x,σ q=some x/\τ' k0=some x:=by
  intro k0 q hm;have hm':=J3s hm;have hlk:=J9l hrn k0 _ hm';have hk0:=hdom _ hm';obtain⟨⟨k1,b0⟩,e1,e2⟩:=List.mem_map.1 (J0m.1 hk0);simp only at e2;subst e2;rcases J1t.mem hown _ _ e1 with ⟨k',b',x1,x2,_⟩ | ⟨x1,_⟩
  . rw[hlk] at x1;cases x1;obtain⟨x,hx⟩:=hh.own.key (J0c x2);refine⟨b',J0c x2,hlk,x,hx,tr.le _ x ?_⟩;rw[hts _ _ hlk];exact hx
  . rw[hlk] at x1;cases x1
 have H:∀k,J09 k ((J0N ρ++l).map (·.1))=true->σ' (rk (J0N ρ++l) k)=τ' k:=by
  intro k hk;obtain⟨q,hm⟩:=J1j hk;rw[J5K (J2z hinj k q hm)];rcases List.mem_append.1 hm with hm|hm
  . obtain⟨b,hb,_,x,hx,hx'⟩:=hrng k q hm;rw[hle q x hx,hx']
  . have:=hlook k q hm;simp only[σ',this]
 -- the callee's part
 have hA:∀k b,(k,b)∈J1Q ((J0N ρ).map (·.2)) own->(k,b)∈own:=fun k b hm=>(J0O.1 hm).1;have hC:∀k b,(k,b)∈J1M ((J0N ρ).map (·.2)) own->(k,b)∈own:=fun k b hm=>(J0C.1 hm).1;have hoA:∀n,J0y w (σ.ren ρ ks0) own0 n->J0y w σ (J1Q ((J0N ρ).map (·.2)) own) n:=by
  intro n hn;obtain⟨k,k',b',e1,e2,e3⟩:=hsub n hn;refine⟨k',b',J0O.2 ⟨e2,?_⟩,e3⟩;have:∀(m:Rn),look m k=some (some k')->k'∈(J0N m).map (·.2):=by
   intro m
   induction m with
   | nil=>intro h;simp[look] at h
   | cons p m ih =>
     intro h;obtain⟨a,o⟩:=p;unfold look at h;split at h
     . cases h;simp[J0N]
     . have:=ih h;cases o<;>simp only[J0N,List.map_cons,List.mem_cons]
       . exact this
       . exact .inr this
  exact this ρ e1
 have nodupA':((J4n (J0N ρ++l) own').map (·.1)).Nodup:=by
  rw[J3t];have hn:=hh'.own.nodup;have hin:=J0Z hoin;clear hb hK hh' tr kd hvin;have aux:∀(m:Own),(∀k b,(k,b)∈m->J09 k ((J0N ρ++l).map (·.1))=true)->(m.map (·.1)).Nodup->(m.map fun p=>rk (J0N ρ++l) p.1).Nodup:=by
   intro m
   induction m with
   | nil=>intro _ _;simp
   | cons p m ih =>
     intro hi hn;simp only[List.map_cons,List.nodup_cons] at hn ⊢;refine⟨fun hm=>?_,ih (fun k b h=>hi k b (by simp[h])) hn.2⟩;obtain⟨p',h1,h2⟩:=List.mem_map.1 hm;obtain⟨q,hq⟩:=J1j (hi p.1 p.2 (by simp));obtain⟨q',hq'⟩:=J1j (hi p'.1 p'.2 (by simp[h1]));rw[J5K (J2z hinj _ _ hq),J5K (J2z hinj _ _ hq')] at h2;subst h2;have:=J77 hinj _ _ _ hq hq';exact hn.1 (List.mem_map.2 ⟨p',h1,this.symm⟩)
  exact aux own' (fun k b h=>(hin k b h).1) hn
 have hA':J0G M' w' σ' (J4n (J0N ρ++l) own') ksr:=by
  refine⟨⟨?_,nodupA',?_⟩,?_,kn2⟩
  . intro k b hm;obtain⟨k0,b0,e1,rfl,rfl⟩:=J2w hm;obtain⟨i1,i2⟩:=J0Z hoin k0 b0 e1;exact(hh'.own.blk k0 b0 e1).rn H i1 i2
  . intro k b k' b' n m1 m2 hne e1 e2;obtain⟨k0,b0,z1,rfl,rfl⟩:=J2w m1;obtain⟨k0',b0',z1',rfl,rfl⟩:=J2w m2;rw[J5S (H k0 (J0Z hoin k0 b0 z1).1)] at e1;rw[J5S (H k0' (J0Z hoin k0' b0' z1').1)] at e2;exact hh'.own.apart k0 b0 k0' b0' n z1 z1' (fun e=>hne (by rw[e])) e1 e2
  . intro k hk;rw[hlookn k fun hm=>kn3 k hm k hk rfl];exact hh.fresh k (by rw[hl2];simp[hk])
 have trA:Tr M w σ (J1Q ((J0N ρ).map (·.2)) own) M' w' σ' (J4n (J0N ρ++l) own'):=by
  refine⟨⟨tr.adv.os,tr.adv.tape,tr.adv.output,tr.adv.size,fun b hb hn=>tr.adv.same b hb fun x=>hn (hoA b x),fun b hb hn=>tr.adv.muts b hb fun x=>hn (hoA b x)⟩,?_,hle⟩;rintro n ⟨k,b,hm,e⟩;obtain⟨k0,b0,z1,rfl,rfl⟩:=J2w hm;rw[J5S (H k0 (J0Z hoin k0 b0 z1).1)] at e;rcases tr.new n ⟨k0,b0,z1,e⟩ with x|x
  . exact .inl (hoA n x)
  . exact .inr x
 have kdA:Kd σ (J1Q ((J0N ρ).map (·.2)) own) ks σ' (J4n (J0N ρ++l) own') ksr:=by
  refine⟨fun k hk=>by rw[hl2];simp[hk],fun k e1 e2=>?_,fun k hk=>?_⟩
  . rw[hlookn k fun hm=>e2 (by rw[hl2];exact List.mem_append_left _ hm)];exact e1
  . rw[J3t] at hk;obtain⟨p,h1,h2⟩:=List.mem_map.1 hk;obtain⟨q,hq⟩:=J1j (J0Z hoin p.1 p.2 h1).1;rw[J5K (J2z hinj _ _ hq)] at h2;subst h2;rcases List.mem_append.1 hq with hq|hq
    . obtain⟨b,hb,_⟩:=hrng _ _ hq;exact .inl (List.mem_map.2 ⟨(q,b),J0O.2 ⟨hb,List.mem_map.2 ⟨_,hq,rfl⟩⟩,rfl⟩)
    . exact .inr (by rw[hl2];exact List.mem_append_left _ (List.mem_map.2 ⟨_,hq,rfl⟩))
 obtain⟨f1,f2⟩:=J5c hh hA hC (fun k hk hc=>by
  obtain⟨⟨q,b⟩,x1,x2⟩:=List.mem_map.1 hk;obtain⟨⟨q',b'⟩,y1,y2⟩:=List.mem_map.1 hc;simp only at x2 y2;subst x2 y2;exact(J0C.1 y1).2 (J0O.1 x1).2) (J1L hh.own.nodup) hA' trA kdA
 refine⟨M',σ',_,_,_,u,rfl,hv.rn3 H hvin,f1,f2,⟨kdA.1,kdA.2.1,fun k hk=>?_⟩,hK⟩;rw[List.map_append] at hk;rcases List.mem_append.1 hk with hk|hk
 . rcases kdA.2.2 k hk with x|x
   . obtain⟨⟨q,b⟩,x1,x2⟩:=List.mem_map.1 x;exact .inl (List.mem_map.2 ⟨_,(J0O.1 x1).1,x2⟩)
   . exact .inr x
 . obtain⟨⟨q,b⟩,x1,x2⟩:=List.mem_map.1 hk;exact .inl (List.mem_map.2 ⟨_,(J0C.1 x1).1,x2⟩)
def Q33 (ks:List Nat) (v:V) (own':Own) (K:V->Own->List Nat->Prop):Prop :=
 ∃ρ v2 own2 ks2,J0a ρ v v2/\J1t ρ own' own2/\(J08 ks2&&J08 (own2.map (·.1))&&rnB ρ&&Q19 ks ρ&&ksB ρ ks2&&(ks2.all fun k=>J09 k ks))=true/\K v2 own2 ks2
theorem J2d {P:Program} {f:FuncId} {args:List V} {own:Own} {ks:List Nat} {K:V->Own->List Nat->Prop} (h:J0H P f args own ks fun v own' _=>Q33 ks v own' K):J0H P f args own ks K:=by
 constructor;intro M w σ us hlen hd hh;refine(h.out M w σ us hlen hd hh).mono ?_;rintro e w' ⟨M',σ',v,own',ks',u,rfl,hv,hh',tr,kd,ρ,v2,own2,ks2,r1,r2,r3,hK⟩;simp only[Bool.and_eq_true,List.all_eq_true] at r3;obtain⟨⟨⟨⟨⟨c1,c2⟩,c3⟩,c4⟩,c5⟩,c6⟩:=r3;obtain⟨s2,hsub⟩:=J79 hh' ρ r2 c1 c2 c3 c5;have hts:=Sg.ren_ts ρ ks2 σ';refine⟨M',σ'.ren ρ ks2,v2,own2,ks2,u,rfl,r1.out M' w' σ' _ u hts hv,s2,⟨tr.adv,?_,?_⟩,⟨fun k hk=>J0m.1 (c6 k hk),?_,?_⟩,hK⟩
 . intro n hn;obtain⟨k,k',b',_,e2,e3⟩:=hsub n hn;exact tr.new n ⟨k',b',e2,e3⟩
 . intro k x hx;have hk:k∉ks:=fun hm=>by rw[hh.fresh k hm] at hx;cases hx
   have hx':=tr.le k x hx;unfold Sg.ren;split
   . rename_i k' hr;rcases J1l c4 k _ hr with e|e
     . cases e;exact hx'
     . exact(hk e).elim
   . rename_i hr;rcases J1l c4 k _ hr with e|e
     . cases e
     . exact(hk e).elim
   . have:J09 k ks2=false:=by
      rw[<- Bool.not_eq_true];exact fun h=>hk (J0m.1 (c6 k (J0m.1 h)))
     simp only[this];exact hx'
 . intro k e1 e2;have hx':=kd.2.1 k e1 e2;unfold Sg.ren;split
   . rename_i k' hr;rcases J1l c4 k _ hr with e|e
     . cases e;exact hx'
     . exact(e2 e).elim
   . rename_i hr;rcases J1l c4 k _ hr with e|e
     . cases e
     . exact(e2 e).elim
   . split
     . rfl
     . exact hx'
 . intro k hk;obtain⟨⟨q,b⟩,x1,x2⟩:=List.mem_map.1 hk;simp only at x2;subst x2;rcases J1t.mem r2 q b x1 with ⟨k',b',y1,y2,_⟩ | ⟨y1,_⟩
   . rcases J1l c4 q _ y1 with e|e
     . cases e;exact kd.2.2 q (List.mem_map.2 ⟨_,J0c y2,rfl⟩)
     . exact .inr e
   . rcases J1l c4 q _ y1 with e|e
     . cases e
     . exact .inr e
end Go.Eng
namespace Go.Eng
abbrev mv (d s:Nat):SI:=⟨some d,.p (.mv (.t s)),none⟩
abbrev fl (d o s:Nat):SI:=⟨some d,.p (.fld o (.t s)),none⟩
abbrev ld (d s:Nat):SI:=⟨some d,.load none (.t s),none⟩
end Go.Eng
namespace Go.Eng
theorem Br.dec {p:Prop} [Decidable p] {A B:Prop} (h1:p->A) (h2:¬ p->B):Br (decide p) A B:=⟨fun h=>h1 (of_decide_eq_true h),fun h=>h2 (of_decide_eq_false h)⟩
theorem Br.bne {a b:Int} {A B:Prop} (h1:a≠b->A) (h2:a=b->B):Br (a != b) A B:=⟨fun h=>h1 (by simpa using h),fun h=>h2 (by simpa using h)⟩
theorem Br.nbeq {a b:Nat} {A B:Prop} (h1:a=b->A) (h2:a≠b->B):Br (Nat.beq a b) A B:=⟨fun h=>h1 (Nat.eq_of_beq_eq_true h),fun h=>h2 (Nat.ne_of_beq_eq_false h)⟩
theorem Br.nble {a b:Nat} {A B:Prop} (h1:a<=b->A) (h2:b<a->B):Br (Nat.ble a b) A B:=⟨fun h=>h1 (Nat.le_of_ble_eq_true h),fun h=>h2 (Nat.lt_of_not_le fun hh=>by rw[Nat.ble_eq_true_of_le hh] at h;cases h)⟩
theorem Br.any {b:Bool} {A B:Prop} (h1:b=true->A) (h2:b=false->B):Br b A B:=⟨h1,h2⟩
theorem Bd.nat {m n:Nat} {K:Nat->Prop} (h:m<=n) (hK:K m):Bd (m:Int) n K:=⟨m,rfl,h,hK⟩
theorem Bd.int {i:Int} {n:Nat} {K:Nat->Prop} (h0:0<=i) (h:i<=n) (hK:K i.toNat):Bd i n K:=⟨i.toNat,by omega,by omega,hK⟩
def J2X (env:Env):List Nat->Env
 | []=>[]
 | t::r=>match look env t with
   | some v=>(t,v)::J2X env r
   | none=>J2X env r
theorem Q1D {P:Program} (hm:P.follows .mixedOrders=true) {N:Nat} {bk:BK} {b:SC} {env:Env} {own:Own} {ks:List Nat} {K:Out->Prop} (live chg ks0:List Nat) {α:Type} (J1Z:α->Env) (ownf:α->Own) (I:Nat->α->Prop) (n0:Nat) (x0:α)
 (h0:I n0 x0)
 (hchg:(chg.all fun k=>J09 k bk.ks&&(J09 k (own.map (·.1)) || J09 k ks))=true) (hks0:(ks0.all fun k=>J09 k ks)=true) (okeys:List Nat) (hok:(okeys.all fun k=>J09 k (own.map (·.1)) || J09 k ks)=true)
 (hkeys:∀x,(ownf x).map (·.1)=okeys)
 (hw0:J8U N chg ⟨env,own,ks⟩ ⟨J1Z x0++J2X env live,ownf x0,ks0⟩)
 (step:∀n x,I n x->vc P N bk b (J1Z x++J2X env live) (ownf x) ks0 fun o=>match o with
   | .normal st=>∃m st',m<n/\J8U N chg st st'/\∃x,I m x/\st'=⟨J1Z x++J2X env live,ownf x,ks0⟩
   | o=>K o):J60 P N bk b env own ks K:=by
 simp only[List.all_eq_true,Bool.and_eq_true,Bool.or_eq_true,J0m] at hchg hks0 hok;refine J9L hm chg okeys ks0 hchg hks0 hok (fun n st=>∃x,I n x/\st=⟨J1Z x++J2X env live,ownf x,ks0⟩) n0 _ hw0 ⟨x0,h0,rfl⟩ ?_ ?_
 . rintro n st ⟨x,_,rfl⟩;exact⟨rfl,fun k hk=>by simp only[hkeys] at hk;exact hk⟩
 . rintro n env' own' ks' ⟨x,hI,he⟩;cases he;exact step n x hI
end Go.Eng
namespace Go.Eng
abbrev OC:=Env->Own->List Nat->(Env->Own->List Nat->Prop)->Prop
abbrev CC:=Env->Own->List Nat->(Out->Prop)->Prop
def gop (P:Program) (g:Option (Nat×Bool)) (op:SOp) (env:Env) (own:Own) (ks:List Nat) (K:V->Own->List Nat->Prop):Prop :=
 match g with
 | none=>vop P op env own ks K
 | some (t,want)=>match look env t with
   | some (.bool b)=>match Bool.xor b want with
     | false=>vop P op env own ks K
     | true=>K (.raw (.tuple #[])) own ks
   | some (.raw (.tuple _))=>K (.raw (.tuple #[])) own ks
   | _=>False
def gopO (P:Program) (g:Option (Nat×Bool)) (op:SOp) (env:Env) (own:Own) (ks:List Nat) (K:V->Own->List Nat->Prop):Prop :=
 match g with
 | none=>Q2n P op env own ks K
 | some (t,want)=>match look env t with
   | some (.bool b)=>match Bool.xor b want with
     | false=>Q2n P op env own ks K
     | true=>K (.raw (.tuple #[])) own ks
   | some (.raw (.tuple _))=>K (.raw (.tuple #[])) own ks
   | _=>False
def Q5x (env:Env) (d:Option Nat) (v:V) (K:Env->Prop):Prop :=
 match d with
 | some t=>K ((t,v)::env)
 | none=>K env
def oNil:OC:=fun env own ks K=>K env own ks
def Q3o (P:Program) (s:SI) (_:List SI) (ih:OC):OC:=fun env own ks K =>
 gopO P s.guard s.op env own ks fun v own ks=>Q5x env s.dst v fun env=>ih env own ks K
def Q23 (P:Program) (l:List SI):OC:=@List.rec SI (fun _=>OC) oNil (Q3o P) l
def Q43 (P:Program) (g:Option (Nat×Bool)) (pend:List Nat) (held:List (Option Nat×Nat×Nat)) (op:SOp) (env:Env) (own:Own) (ks:List Nat) (K:V->Own->List Nat->Prop):Prop :=
 J5d env g
  (J40 env pend own [] fun ownA ownB=>vop P op env ownA ks fun v ownA' ks=>J8P env ownA' (Q5k ownB ownA' fun own=>K v own ks) held)
  (K (.raw (.tuple #[])) own ks)
def Q0i (P:Program) (d:DI) (_:List DI) (ih:OC):OC:=fun env own ks K =>
 match d with
 | .op _ s=>gop P s.guard s.op env own ks fun v own ks=>Q5x env s.dst v fun env=>ih env own ks K
 | .eff _ pend held s=>Q43 P s.guard pend held s.op env own ks fun v own ks=>Q5x env s.dst v fun env=>ih env own ks K
def J7M (P:Program) (l:List DI):OC:=@List.rec DI (fun _=>OC) oNil (Q0i P) l
def Q4L (K:Out->Prop) (env:Env) (own:Own) (ks:List Nat):Prop:=K (.normal ⟨env,own,ks⟩)
def seqK (b:CC) (K:Out->Prop) (o:Out):Prop :=
 match o with
 | .normal ⟨env,own,ks⟩=>b env own ks K
 | .exit id st=>K (.exit id st)
 | .ret st=>K (.ret st)
def Q2Q (id:Nat) (K:Out->Prop) (o:Out):Prop :=
 match o with
 | .normal st=>K (.normal st)
 | .exit id' st=>K (match Nat.beq id' id with|true=>.normal st|false=>.exit id' st)
 | .ret st=>K (.ret st)
def Q5L (a b:CC) (env:Env) (own:Own) (ks:List Nat) (K:Out->Prop) (v:V):Prop :=
 match v with
 | .bool true=>a env own ks K
 | .bool false=>b env own ks K
 | .anyb=>Q5m (a env own ks K) (b env own ks K)
 | _=>False
def Q5O:CC:=fun env own ks K=>K (.normal ⟨env,own,ks⟩)
def Q5Q (P:Program) (l:List SI):CC:=fun env own ks K=>Q23 P l env own ks (Q4L K)
def Q3R (P:Program) (l:List DI):CC:=fun env own ks K=>J7M P l env own ks (Q4L K)
def Q5P (_ _:SC) (a b:CC):CC:=fun env own ks K=>a env own ks (seqK b K)
def Q3S (c:X) (_ _:SC) (a b:CC):CC:=fun env own ks K=>c.get env (Q5L a b env own ks K)
def Q0w (id:Nat) (_:SC) (b:CC):CC:=fun env own ks K=>b env own ks (Q2Q id K)
def Q5R (P:Program) (N:Nat) (bk:BK) (b:SC) (_:CC):CC:=fun env own ks K=>J60 P N bk b env own ks K
def Q5S (id:Nat):CC:=fun env own ks K=>K (.exit id ⟨env,own,ks⟩)
def cRet:CC:=fun env own ks K=>K (.ret ⟨env,own,ks⟩)
def cRf (P:Program) (N:Nat) (bk:BK) (g:X) (ps:List Nat) (a b:SC) (_ _:CC):CC:=fun env own ks K=>Q0B P N bk.r g ps a b env own ks K
def vcR (P:Program) (N:Nat) (bk:BK) (c:SC):CC:=@SC.rec (fun _=>CC) Q5O (Q5Q P) (Q3R P) Q5P Q3S Q0w (Q5R P N bk) Q5S cRet (cRf P N bk) c
theorem J7G {P:Program}:∀(l:List SI),Q23 P l=J5y P l
 | []=>by
   funext env own ks K;simp only[J5y];rfl
 | ⟨d,op,g⟩::r=>by
   show Q3o P ⟨d,op,g⟩ r (Q23 P r)=_;rw[J7G r];funext env own ks K;simp only[Q3o,gopO]
   conv=>rhs;unfold J5y
   cases d<;>cases g with
   | none=>rfl
   | some p =>
     obtain⟨t,want⟩:=p;simp only;split
     . rename_i b hb;simp only[hb]
       try rfl
       all_goals (cases Bool.xor b want<;>rfl)
     . rename_i us hb;simp only[hb]
       try rfl
     . rename_i hne hne2;split
       . rename_i b hb;exact(hne b hb).elim
       . rename_i us hb;exact(hne2 us hb).elim
       . rfl
theorem J39 {P:Program}:∀(l:List DI),J7M P l=J1w P l
 | []=>by
   funext env own ks K;simp only[J1w];rfl
 | .op ix ⟨d,op,g⟩::r=>by
   show Q0i P (.op ix ⟨d,op,g⟩) r (J7M P r)=_;rw[J39 r];funext env own ks K;simp only[Q0i,gop]
   conv=>rhs;unfold J1w
   unfold J5d;cases d<;>cases g with
   | none=>rfl
   | some p =>
     obtain⟨t,want⟩:=p;simp only;split
     . rename_i b hb;simp only[hb]
       try rfl
       all_goals (cases Bool.xor b want<;>rfl)
     . rename_i us hb;simp only[hb]
       try rfl
     . rename_i hne hne2;split
       . rename_i b hb;exact(hne b hb).elim
       . rename_i us hb;exact(hne2 us hb).elim
       . rfl
 | .eff ix pend held ⟨d,op,g⟩::r=>by
   show Q0i P (.eff ix pend held ⟨d,op,g⟩) r (J7M P r)=_;rw[J39 r];funext env own ks K;simp only[Q0i,Q43]
   conv=>rhs;unfold J1w
   cases d<;>rfl
theorem J4Z {P:Program} {N:Nat} {bk:BK} (c:SC):vcR P N bk c=vc P N bk c:=by
 induction c with
 | skip=>funext env own ks K;simp only[vc];rfl
 | ops l =>
   show Q5Q P l=_;funext env own ks K;simp only[Q5Q,J7G,vc];rfl
 | draw l =>
   show Q3R P l=_;funext env own ks K;simp only[Q3R,J39,vc];rfl
 | seq a b iha ihb =>
   show Q5P a b (vcR P N bk a) (vcR P N bk b)=_;rw[iha,ihb];funext env own ks K;simp only[Q5P,vc];congr 1;funext o;cases o<;>rfl
 | cond c a b iha ihb =>
   show Q3S c a b (vcR P N bk a) (vcR P N bk b)=_;rw[iha,ihb];funext env own ks K;simp only[Q3S,vc];congr 1;funext v;cases v with
   | bool x=>cases x<;>rfl
   | _=>rfl
 | block id b ih =>
   show Q0w id b (vcR P N bk b)=_;rw[ih];funext env own ks K;simp only[Q0w,vc];congr 1;funext o;cases o with
   | exit id' st=>simp only[Q2Q];cases Nat.beq id' id<;>rfl
   | _=>rfl
 | loop b ih=>funext env own ks K;simp only[vc];rfl
 | exit id=>funext env own ks K;simp only[vc];rfl
 | ret=>funext env own ks K;simp only[vc];rfl
 | rf g ps a b iha ihb=>funext env own ks K;simp only[vc];rfl
def Q5w (rs:List RV) (K:V->Own->List Nat->Prop) (o:Out):Prop :=
 match o with
 | .normal ⟨env,own,ks⟩=>J8E env own rs fun vs=>Q2p vs fun v=>K v own ks
 | .ret ⟨env,own,ks⟩=>J8E env own rs fun vs=>Q2p vs fun v=>K v own ks
 | .exit _ _=>False
theorem J0d {P:Program} (hm:P.follows .mixedOrders=true) {f:FuncId} {fn:Func} {c:Code} {sc:SC} {rs:List RV} (hf:P.funcs[f]?=some fn) (hb:fn.body=some c) (hc:J0X P fn.ntmps c=some sc)
 (hr:Q0s P fn.results.toList=some rs) {args:List V} {own:Own} {ks:List Nat} {K:V->Own->List Nat->Prop} (hl:Nat.ble args.length fn.ntmps=true)
 (h:vcR P fn.ntmps ⟨ks,none⟩ sc (J5W 0 args) own ks (Q5w rs K)):J0H P f args own ks K:=by
 refine Q0r hm hf hb hc hr (Nat.le_of_ble_eq_true hl) ?_;rw[J4Z] at h;have e:Q5w rs K=fun o=>match o with
  | .normal ⟨env,own,ks⟩=>J8E env own rs fun vs=>Q2p vs fun v=>K v own ks
  | .ret ⟨env,own,ks⟩=>J8E env own rs fun vs=>Q2p vs fun v=>K v own ks
  | .exit _ _=>False:=by
  funext o;cases o<;>rfl
 rw[e] at h;exact h
def Q1R {α:Type} (N:Nat) (chg:List Nat) (st:α->St) (I:Nat->α->Prop) (n:Nat) (K:Out->Prop) (o:Out):Prop :=
 match o with
 | .normal st'=>∃m x,m<n/\I m x/\J8U N chg st' (st x)
 | .exit id st=>K (.exit id st)
 | .ret st=>K (.ret st)
theorem J1H {P:Program} (hm:P.follows .mixedOrders=true) {N:Nat} {bk:BK} {b:SC} {env:Env} {own:Own} {ks:List Nat} {K:Out->Prop} (live chg ks0 okeys:List Nat) {α:Type} (J1Z:α->Env) (ownf:α->Own) (I:Nat->α->Prop) (n0:Nat) (x0:α)
 (h0:I n0 x0)
 (hchg:((chg.all fun k=>J09 k bk.ks&&(J09 k (own.map (·.1)) || J09 k ks))&&(ks0.all fun k=>J09 k ks)&&(okeys.all fun k=>J09 k (own.map (·.1)) || J09 k ks))=true)
 (hkeys:∀x,(ownf x).map (·.1)=okeys)
 (hw0:J8U N chg ⟨env,own,ks⟩ ⟨J1Z x0++J2X env live,ownf x0,ks0⟩)
 (step:∀n x,I n x->vcR P N bk b (J1Z x++J2X env live) (ownf x) ks0 (Q1R N chg (fun x=>⟨J1Z x++J2X env live,ownf x,ks0⟩) I n K)):J60 P N bk b env own ks K:=by
 simp only[Bool.and_eq_true] at hchg;obtain⟨⟨h1,h2⟩,h3⟩:=hchg;refine Q1D hm live chg ks0 J1Z ownf I n0 x0 h0 h1 h2 okeys h3 hkeys hw0 ?_;intro n x hI;have:=step n x hI;rw[J4Z] at this;have e:Q1R N chg (fun x=>⟨J1Z x++J2X env live,ownf x,ks0⟩) I n K=fun o=>match o with
  | .normal st=>∃m st',m<n/\J8U N chg st st'/\∃x,I m x/\st'=⟨J1Z x++J2X env live,ownf x,ks0⟩
  | o=>K o:=by
  funext o;cases o with
  | normal st =>
    apply propext;constructor
    . rintro⟨m,x,a,b,c⟩;exact⟨m,_,a,c,x,b,rfl⟩
    . rintro⟨m,_,a,c,x,b,rfl⟩;exact⟨m,x,a,b,c⟩
  | _=>rfl
 rw[e] at this;exact this
theorem J1r {P:Program} (hm:P.follows .mixedOrders=true) {N:Nat} {bk:BK} {b:SC} {env:Env} {own:Own} {ks:List Nat} {K:Out->Prop} (live:List Nat) {α:Type} (J1Z:α->Env) (I:Nat->α->Prop) (n0:Nat) (x0:α)
 (h0:I n0 x0)
 (hw0:J8U N [] ⟨env,own,ks⟩ ⟨J1Z x0++J2X env live,own,ks⟩)
 (step:∀n x,I n x->vcR P N bk b (J1Z x++J2X env live) own ks (Q1R N [] (fun x=>⟨J1Z x++J2X env live,own,ks⟩) I n K)):J60 P N bk b env own ks K :=
 J1H hm live [] ks (own.map (·.1)) J1Z (fun _=>own) I n0 x0 h0 (by simp only[Bool.and_eq_true,List.all_eq_true,Bool.or_eq_true,J0m];exact⟨⟨by simp,fun k hk=>hk⟩,fun k hk=>.inl hk⟩) (fun _=>rfl) hw0 step
theorem J2H {ks:List Nat} {v:V} {own':Own} {K:V->Own->List Nat->Prop} (mk:Own->Rn) (v2:V) (own2:Own) (hK:K v2 own2 [])
 (hv:J0a (mk own') v v2) (ho:J1t (mk own') own' own2) (hc:(J08 (own2.map (·.1))&&rnB (mk own')&&Q19 ks (mk own'))=true):Q33 ks v own' K:=by
 simp only[Bool.and_eq_true] at hc;exact⟨mk own',v2,own2,[],hv,ho,by simp[J08,ksB,hc],hK⟩
def Q0G (v:V) (i:Nat):Option Nat:=match v with
 | .agg cs=>match nth cs i with
   | some (.vec q _ _ _)=>some q
   | some (.loc q _)=>some q
   | some (.map q)=>some q
   | _=>none
 | .vec q _ _ _=>some q
 | .loc q _=>some q
 | .map q=>some q
 | _=>none
def Q46 (own:Own) (k i:Nat):Option Nat:=match look own k with
 | some (.cells cs)=>match nth cs i with
   | some v=>Q0G v 0
   | none=>none
 | _=>none
theorem J3f {ks:List Nat} {v:V} {own':Own} {K:V->Own->List Nat->Prop} (mk:V->Own->Rn) (v2:V) (own2:Own) (hK:K v2 own2 [])
 (hv:J0a (mk v own') v v2) (ho:J1t (mk v own') own' own2) (hc:(J08 (own2.map (·.1))&&rnB (mk v own')&&Q19 ks (mk v own'))=true):Q33 ks v own' K:=by
 simp only[Bool.and_eq_true] at hc;exact⟨mk v own',v2,own2,[],hv,ho,by simp[J08,ksB,hc],hK⟩
theorem J0W {P:Program} {f:FuncId} {args args0:List V} {own own0:Own} {ks ks0:List Nat} {K:V->Own->List Nat->Prop} (ρ:Rn) (nk:List Nat)
 (h:J0H P f args0 own0 ks0 fun v own' _=>Q5c own ks ρ nk v own' K)
 (hargs:J8n ρ args args0) (hown:J1t ρ own own0) (h1:(J08 ks0&&J08 (own0.map (·.1))&&rnB ρ&&ksB ρ ks0&&(ρ.all fun p=>J09 p.1 (own0.map (·.1))))=true):J0H P f args own ks K :=
 Q3Q ρ nk hargs hown h1 h
def LLe:List V->List V->Prop
 | [],[]=>True
 | v::r,v'::r'=>VLe v v'/\LLe r r'
 | _,_=>False
theorem LLe.out:∀{cs cs':List V},LLe cs cs'->cs'.length=cs.length/\∀(i:Nat) (v v':V),cs[i]?=some v->cs'[i]?=some v'->VLe v v'
 | [],[],_=>⟨rfl,fun i v v' h=>by simp at h⟩
 | v::r,v'::r',h=>by
   obtain⟨l,hr⟩:=LLe.out h.2;refine⟨by simp[l],fun i x x' hx hx'=>?_⟩;cases i with
   | zero=>simp at hx hx';subst hx hx';exact h.1
   | succ i=>exact hr i x x' (by simpa using hx) (by simpa using hx')
 | [],_::_,h=>h.elim
 | _::_,[],h=>h.elim
theorem VLe.agg {cs cs':List V} (h:LLe cs cs'):VLe (.agg cs) (.agg cs') :=
 ⟨fun M w u hd=>by
   obtain⟨l,hr⟩:=h.out;cases hd with
   | agg _ _ us hl hd =>
     refine .agg _ _ _ (by omega) fun i v u hv hu=>?_;have hi:i<cs.length:=by rw[<- l];exact(List.getElem?_eq_some_iff.1 hv).1
     exact(hr i cs[i] v (by simp[hi]) hv).out M w u (hd i cs[i] u (by simp[hi]) hu)⟩
theorem VLe.tup {cs cs':List V} (h:LLe cs cs'):VLe (.tup cs) (.tup cs') :=
 ⟨fun M w u hd=>by
   obtain⟨l,hr⟩:=h.out;cases hd with
   | tup _ _ us hl hd =>
     refine .tup _ _ _ (by omega) fun i v u hv hu=>?_;have hi:i<cs.length:=by rw[<- l];exact(List.getElem?_eq_some_iff.1 hv).1
     exact(hr i cs[i] v (by simp[hi]) hv).out M w u (hd i cs[i] u (by simp[hi]) hu)⟩
theorem VLe.int {k:IntKind} {a b:Int} (h:a=b):VLe (.int k a) (.int k b):=by subst h;exact .rfl
theorem VLe.bool {a b:Bool} (h:a=b):VLe (.bool a) (.bool b):=by subst h;exact .rfl
def Ret (P:Program) (f:FuncId) (args:List V) (X:V):Prop:=∀own ks,J0H P f args own ks fun v o k=>v=X/\o=own/\k=ks
theorem J0h {P:Program} {f:FuncId} {args:List V} {X:V} (hk:J27 V.kf args=true) (h:J0H P f args [] KS fun v own' _=>Q40 own' v fun v'=>VLe v' X):Ret P f args X:=by
 intro own ks;constructor;intro M w σ us hlen hd hh;refine(h.out M w Sg.none us hlen (fun i v u hv hu=>(hd i v u hv hu).kf (J0v hk v (List.mem_of_getElem? hv)) Sg.none) (J1V KS J58)).mono ?_;rintro e w' ⟨M',σ',v,own',ks',u,rfl,hv,hh',tr,_,hfr⟩;obtain⟨v',hK,hv'⟩:=J5h hfr;have hM:∀b,b<w.heap.size->(J4O M' w' σ' own' b↔M b):=by
  intro b hb;have hno:¬ J0y w' σ' own' b:=fun ho=>by
   rcases tr.new b ho with h1|h1
   . exact J03 h1
   . omega
  constructor
  . intro h1;exact(tr.adv.muts b hb J03).1 h1.1
  . intro h1;exact⟨(tr.adv.muts b hb J03).2 h1,hno⟩
 have hfr:=J3z (M'':=J4O M' w' σ' own') hh tr hM;exact⟨_,σ,X,own,ks,u,rfl,(hK.out _ _ _ (hv' M' w' σ' u hh'.own hv)).mono (Ext.mk (fun _ _ h=>⟨h,rfl⟩) (Nat.le_refl _)) (Sg.none_le σ),hfr.1,hfr.2,Kd.refl _ _ _,rfl,rfl,rfl⟩
def Q5h (env:Env) (t:Nat):Option Nat:=match look env t with
 | some v=>Q0G v 0
 | none=>none
theorem J0g {N:Nat} {chg:List Nat} {env env':Env} {own own':Own} {ks ks':List Nat} (mk:Env->Own->Rn) (he:J2C (mk env own) env env') (ho:J1t (mk env own) own own')
 (h1:(J08 ks'&&J08 (own'.map (·.1))&&rnB (mk env own)&&Q19 chg (mk env own)&&ksB (mk env own) ks')=true):J8U N chg ⟨env,own,ks⟩ ⟨env',own',ks'⟩:=by
 simp only[Bool.and_eq_true] at h1;obtain⟨⟨⟨⟨a,b⟩,c⟩,d⟩,e⟩:=h1;exact Q0S (mk env own) he ho a b c d e
theorem Ret.go {P:Program} {f:FuncId} {args:List V} {X:V} {own:Own} {ks:List Nat} {K:V->Own->List Nat->Prop} (h:Ret P f args X) (hK:K X own ks):J0H P f args own ks K :=
 (h own ks).mono (by rintro _ _ _ ⟨rfl,rfl,rfl⟩;exact hK)
theorem J0e {N:Nat} {chg:List Nat} {env env':Env} {own own':Own} {ks ks':List Nat} (mk:Env->Own->Rn)
 (he:J2C (mk env own) env env':=by repeat' (first|exact True.intro|exact J0a.oel rfl rfl|exact J0a.map rfl|exact J0a.yld rfl|(refine J0a.fn ?_)|exact⟨rfl,rfl⟩|exact⟨rfl,rfl,rfl⟩|(refine⟨rfl,rfl,rfl,rfl,rfl,?_⟩)|(refine⟨⟨_,rfl,?_⟩,?_⟩)|exact J0a.kf rfl|exact J0a.int rfl|exact J0a.int (by omega)|exact J0a.loc rfl|exact J0a.vec rfl rfl rfl|exact J0a.vec rfl (by omega) (by omega)|exact J0a.nil rfl rfl|exact J0a.nil rfl (by omega)|exact J0a.fz rfl (fun h=>h) (fun _ _ _ _=>VLe.rfl)|(refine⟨Nat.le_refl _,rfl,fun i j hi hj=>?_⟩)|(refine⟨by omega,rfl,fun i j hi hj=>?_⟩)|exact VLe.rfl|(refine⟨⟨_,_,rfl⟩,?_⟩)|(refine And.intro ?_ ?_)))
 (ho:J1t (mk env own) own own':=by repeat' (first|exact True.intro|exact J0a.oel rfl rfl|exact J0a.map rfl|exact J0a.yld rfl|(refine J0a.fn ?_)|exact⟨rfl,rfl⟩|exact⟨rfl,rfl,rfl⟩|(refine⟨rfl,rfl,rfl,rfl,rfl,?_⟩)|(refine⟨⟨_,rfl,?_⟩,?_⟩)|exact J0a.kf rfl|exact J0a.int rfl|exact J0a.int (by omega)|exact J0a.loc rfl|exact J0a.vec rfl rfl rfl|exact J0a.vec rfl (by omega) (by omega)|exact J0a.nil rfl rfl|exact J0a.nil rfl (by omega)|exact J0a.fz rfl (fun h=>h) (fun _ _ _ _=>VLe.rfl)|(refine⟨Nat.le_refl _,rfl,fun i j hi hj=>?_⟩)|(refine⟨by omega,rfl,fun i j hi hj=>?_⟩)|exact VLe.rfl|(refine⟨⟨_,_,rfl⟩,?_⟩)|(refine And.intro ?_ ?_)))
 (h1:(J08 ks'&&J08 (own'.map (·.1))&&rnB (mk env own)&&Q19 chg (mk env own)&&ksB (mk env own) ks')=true:=by rfl):J8U N chg ⟨env,own,ks⟩ ⟨env',own',ks'⟩:=J0g mk he ho h1
theorem Br.tt {A B:Prop} (h:A):Br true A B:=Br.mk (fun _=>h) (fun e=>Bool.noConfusion e)
theorem Br.ff {A B:Prop} (h:B):Br false A B:=Br.mk (fun e=>Bool.noConfusion e) (fun _=>h)
theorem Ar.q {n:Int} {K:Int->Prop} (hK:K n) (h1:-9223372036854775808<=n:=by omega) (h2:n<=9223372036854775807:=by omega):Ar .i64 n K:=Ar.i64 h1 h2 hK
theorem Ix.q {m n:Nat} {K:Nat->Prop} (hK:K m) (h:m<n:=by omega):Ix (m:Int) n K:=Ix.nat h hK
theorem Ltn.q {i n:Nat} {K:Prop} (hK:K) (h:i<n:=by omega):Ltn i n K:=.mk h hK
theorem Len.q {i n:Nat} {K:Prop} (hK:K) (h:i<=n:=by omega):Len i n K:=.mk h hK
theorem tI:True:=True.intro
theorem Bd.q {m n:Nat} {K:Nat->Prop} (hK:K m) (h:m<=n:=by omega):Bd (m:Int) n K:=Bd.nat h hK
theorem Ix.w {i:Int} {n:Nat} {K:Nat->Prop} (m:Nat) (hK:K m) (h:i=(m:Int):=by omega) (h2:m<n:=by omega):Ix i n K:=Ix.mk m h h2 hK
theorem Chk.q {b:Bool} {K:Prop} (hK:K) (h:b=true:=by kernel_rfl):Chk b K:=.mk h hK
theorem J0a.q {ρ:Rn} {k k' s lo len lo' len':Nat} (h:look ρ k=some (some k'):=by exact rfl) (h1:lo=lo':=by exact rfl) (h2:len=len':=by exact rfl):J0a ρ (.vec k' s lo len) (.vec k s lo' len'):=J0a.vec h h1 h2
end Go.Eng
