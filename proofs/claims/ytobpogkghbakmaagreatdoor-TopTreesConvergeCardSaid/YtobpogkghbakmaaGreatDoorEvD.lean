import Derived.Test.YtobpogkghbakmaaGreatDoorEvB
namespace Go.Eng
def cellC:C->Bool
 | .agg _ | .tup _ | .unit=>false
 | _=>true
theorem cellC_eq (c:C):c.v.cellB=cellC c:=by cases c<;>simp[C.v,V.cellB,cellC]
noncomputable def allC (p:C->Bool) (l:List C):Bool:=@List.rec C (fun _=>Bool) true (fun c _ ih=>@Bool.rec (fun _=>Bool) false ih (p c)) l
theorem allC_cons (p:C->Bool) (c:C) (r:List C):allC p (c::r)=(p c&&allC p r):=by
 show @Bool.rec (fun _=>Bool) false (allC p r) (p c)=_;cases p c<;>rfl
theorem allB_vs {q:V->Bool} {p:C->Bool} (h:∀c,q c.v=p c):∀(l:List C),allB q (C.vs l)=allC p l
 | []=>rfl
 | c::r=>by
   rw[allC_cons];simp only[C.vs,allB,h,allB_vs h r];cases p c<;>rfl
def kf1C:C->Bool
 | .bool _ | .int _ _ | .str _ _ | .nilptr | .nilslice | .nilmap | .nilfunc | .niliface | .fz _ _ _ _ _ | .fe _ _ _ _ _ _ | .unit=>true
 | _=>false
theorem kf1C_eq (c:C):c.v.kf1=kf1C c:=by cases c<;>simp[C.v,V.kf1,kf1C]
noncomputable def kf2C:C->Bool
 | .agg cs=>allC kf1C cs
 | .iface _ v=>kf1C v
 | .fn _ _ cap=>allC kf1C cap
 | v=>kf1C v
theorem kf2C_eq (c:C):c.v.kf2=kf2C c:=by
 cases c<;>simp[C.v,V.kf2,kf2C,allB_vs kf1C_eq,kf1C_eq]<;>simp[V.kf1,kf1C]
noncomputable def ln {α:Type} (l:List α):Nat:=@List.rec α (fun _=>Nat) 0 (fun _ _ ih=>Nat.succ ih) l
theorem ln_eq {α:Type} (l:List α):ln l=l.length:=by
 induction l with
 | nil=>rfl
 | cons x r ih=>show Nat.succ (ln r)=_;rw[ih];rfl
def cellsC:C->Option (List C)
 | .agg cs=>some cs
 | .tup _ | .unit=>none
 | v=>some [v]
theorem cellsC_ok {v:C} {vs:List C} {K:List V->Prop} (h:cellsC v=some vs) (hK:K (C.vs vs)):v.v.cellsK K:=by
 cases v<;>first
  | (cases h;done)
  | (cases h;simp only[C.v];simp only[C.vs,C.v] at hK;exact hK)
  | (cases h;simp only[C.v];exact hK)
noncomputable def cellsN (sz:Nat) (v:C):Option (List C):=match cellsC v with
 | some vs=>match Nat.beq (ln vs) sz with
   | true=>match allC cellC vs with|true=>some vs|false=>none
   | false=>none
 | none=>none
theorem cellsN_ok {sz:Nat} {v:C} {vs:List C} (h:cellsN sz v=some vs):cellsC v=some vs/\vs.length=sz/\Nat.beq (C.vs vs).length sz=true/\allB V.cellB (C.vs vs)=true:=by
 unfold cellsN at h;split at h
 . rename_i vs' h1;split at h
   . rename_i h2;split at h
     . rename_i h3;cases h;rw[ln_eq] at h2;exact⟨h1,Nat.eq_of_beq_eq_true h2,by rw[C.vs_length];exact h2,by rw[allB_vs cellC_eq];exact h3⟩
     . cases h
   . cases h
 . cases h
theorem V.force_ok {v:V} {K:V->Prop} (h:K v):v.force K:=by cases v<;>exact h
theorem forceN_ok (g:Nat->V):∀(n j:Nat) (l:List V) (K:List V->Prop),l.length=n->(∀t,t<n->l[t]?=some (g (j+t)))->K l->forceN g j n K
 | 0,j,l,K,hl,_,h=>by
   have:l=[]:=List.length_eq_zero_iff.1 hl;subst this;exact h
 | n+1,j,[],K,hl,_,h=>by simp at hl
 | n+1,j,x::l,K,hl,hg,h=>by
   have h0:=hg 0 (by omega);simp at h0;subst h0;simp only[forceN];refine V.force_ok (forceN_ok g n (j+1) l _ (by simpa using hl) (fun t ht=>?_) h);have:=hg (t+1) (by omega);simp only[List.getElem?_cons_succ] at this;rw[this];congr 2;omega
theorem tabz_row {z:List C} {rows:List (List C)} {i:Nat} {row:List C} (h:nt rows i=some row) (j:Nat):tabz (C.vs z) (C.vss rows) i j=(C.vs row).getD j (lastV (C.vs z)):=by
 rw[nt_eq,nth_get] at h;simp[tabz,List.getD_eq_getElem?_getD,C.vss_get,h]
noncomputable def rowC (s:Nat) (rows:List (List C)) (sz:Option Nat) (i j:Nat):Option C:=match nt rows i with
 | some row=>match sz with
   | none=>match Nat.ble (Nat.succ j) s with|true=>nt row j|false=>none
   | some m=>match Nat.ble (j+m) s with|true=>aggC row j m|false=>none
 | none=>none
def rowK (s:Nat) (f:Nat->Nat->V) (i j:Nat) (K:V->Prop) (sz:Option Nat):Prop :=
 match sz with
 | none=>match Nat.ble (j+1) s with|true=>(f i j).force K|false=>False
 | some m=>match Nat.ble (j+m) s with|true=>forceN (f i) j m fun l=>K (.agg l)|false=>False
theorem rowC_ok {s:Nat} (z:List C) {rows:List (List C)} {sz:Option Nat} {i j:Nat} {c:C} {K:V->Prop} (h:rowC s rows sz i j=some c) (hK:K c.v):rowK s (tabz (C.vs z) (C.vss rows)) i j K sz:=by
 unfold rowK;unfold rowC at h;split at h
 . rename_i row hr;cases sz with
   | none =>
     simp only at h;split at h
     . rename_i hb;simp only[hb];refine V.force_ok ?_;rw[tabz_row hr];rw[nt_eq,nth_get] at h;simpa[List.getD_eq_getElem?_getD,C.vs_get,h] using hK
     . cases h
   | some m =>
     simp only at h;split at h
     . rename_i hb;simp only[hb];unfold aggC at h;rw[tk_eq,dr_eq] at h;split at h
       . rename_i hl;cases h;simp only[C.v] at hK;refine forceN_ok _ _ _ _ _ ?_ (fun t ht=>?_) hK
         . rw[C.vs_length,List.length_take];omega
         . rw[tabz_row hr,C.vs_get,List.getElem?_take,if_pos ht,List.getElem?_drop];simp only[List.length_drop] at hl;have hlt:j+t<row.length:=by omega
           simp[List.getD_eq_getElem?_getD,C.vs_get,hlt]
       . cases h
     . cases h
 . cases h
noncomputable def cloadL (own:COwn) (sz:Option Nat) (k off:Nat):Option C :=
 match lk own k with
 | some (.cells cs)=>match sz with
   | none=>nt cs off
   | some n=>aggC cs off n
 | _=>none
theorem cloadL_ok {own:COwn} {sz:Option Nat} {k off:Nat} {c:C} {K:V->Prop} (h:cloadL own sz k off=some c) (hK:K c.v):vloadL (ownV own) sz k off K:=by
 unfold cloadL at h;unfold vloadL;split at h
 . rename_i cs hl;rw[look_ownV hl];simp only[CB.b];cases sz with
   | none=>simp only at h ⊢;rw[nth_vs h];exact hK
   | some n=>simp only at h ⊢;exact aggC_ok h hK
 . cases h
noncomputable def cloadR (own:COwn) (sz:Option Nat) (p:C):Option C :=
 match p with
 | .loc k off=>cloadL own sz k off
 | .oel k s i j=>match lk own k with
   | some (.vec n s' _ rows)=>match Nat.beq s s' with
     | true=>match Nat.blt i n with
       | true=>rowC s rows sz i j
       | false=>none
     | false=>none
   | some (.cells _)=>cloadL own sz k (i*s+j)
   | _=>none
 | .fe _ s _ rows i j=>rowC s rows sz i j
 | _=>none
theorem cloadR_ok {own:COwn} {sz:Option Nat} {p c:C} {K:V->Prop} (h:cloadR own sz p=some c) (hK:K c.v):vloadR (ownV own) sz p.v K:=by
 unfold cloadR at h;split at h
 . simp only[C.v,vloadR];exact cloadL_ok h hK
 . rename_i k s i j;simp only[C.v,vloadR];split at h
   . rename_i n s' z rows hl;rw[look_ownV hl];simp only[CB.b];split at h
     . rename_i hs;simp only[hs];split at h
       . rename_i hi;have:=rowC_ok z h hK;exact⟨Nat.le_of_ble_eq_true hi,by cases sz<;>exact this⟩
       . cases h
     . cases h
   . rename_i cs hl;rw[look_ownV hl];simp only[CB.b];exact cloadL_ok h hK
   . cases h
 . rename_i n s z rows i j;have:=rowC_ok z h hK;simp only[C.v,vloadR];cases sz<;>exact this
 . cases h
noncomputable def litC (c:C):Option C:=match c with
 | .unit=>none
 | c=>some c
theorem litC_ok {c d:C} {K:V->Prop} (h:litC c=some d) (hK:K d.v):litK c.v K:=by
 cases c<;>simp only[litC,Option.some.injEq,reduceCtorEq] at h<;>subst h<;>simp only[C.v] at hK<;>simp only[C.v,litK]<;>first|exact hK|exact cmp_ok hK
noncomputable def cload (own:COwn) (sz:Option Nat) (p:C):Option C:=match cloadR own sz p with
 | some c=>litC c
 | none=>none
theorem cload_ok {own:COwn} {sz:Option Nat} {p c:C} {K:V->Prop} (h:cload own sz p=some c) (hK:K c.v):vload (ownV own) sz p.v K:=by
 unfold cload at h;split at h
 . rename_i d hd;exact cloadR_ok hd (litC_ok h hK)
 . cases h
noncomputable def stC {α β:Type} (l:List α):Nat->List α->(List α->Option β)->Option β :=
 @List.rec α (fun _=>Nat->List α->(List α->Option β)->Option β)
  (fun _ vs K=>match vs with|[]=>K []|_::_=>none)
  (fun x r ih o vs K=>match vs with
    | []=>K (x::r)
    | v::vs=>@Nat.rec (fun _=>Option β) (ih 0 vs fun l=>K (v::l)) (fun o _=>ih o (v::vs) fun l=>K (x::l)) o) l
theorem stC_ok {α β:Type}:∀(l:List α) (o:Nat) (vs:List α) (K:List α->Option β) (out:β),stC l o vs K=some out ->
 ∃l',K l'=some out/\l'.length=l.length/\(vs≠[]->o+vs.length<=l.length)/\l'=l.take o++vs++l.drop (o+vs.length)/\∀{γ:Type} (f:α->γ) (Kp:List γ->Prop),Kp (l'.map f)->setK (l.map f) o (vs.map f) Kp
 | [],o,[],K,out,h=>⟨[],h,rfl,fun h=>(h rfl).elim,by simp,fun f Kp hK=>by cases o<;>exact hK⟩
 | [],o,v::vs,K,out,h=>by cases h
 | x::r,o,[],K,out,h=>⟨x::r,h,rfl,fun h=>(h rfl).elim,by simp,fun f Kp hK=>by cases o<;>exact hK⟩
 | x::r,0,v::vs,K,out,h=>by
   obtain⟨l',a1,a2,a3,a4,a5⟩:=stC_ok r 0 vs (fun l=>K (v::l)) out h;refine⟨v::l',a1,by simp[a2],fun _=>?_,by rw[a4];simp[Nat.add_comm],fun f Kp hK=>a5 f _ (by simpa using hK)⟩;cases vs with
   | nil=>simp
   | cons y ys=>have:=a3 (by simp);simp at this ⊢;omega
 | x::r,o+1,v::vs,K,out,h=>by
   obtain⟨l',a1,a2,a3,a4,a5⟩:=stC_ok r o (v::vs) (fun l=>K (x::l)) out h;refine⟨x::l',a1,by simp[a2],fun _=>by have:=a3 (by simp);simp at this ⊢;omega,?_,fun f Kp hK=>a5 f _ (by simpa using hK)⟩;rw[a4];simp[show o+1+(vs.length+1)=o+(vs.length+1)+1 by omega]
noncomputable def upC {β:Type} (t:Nat) (x:CB) (l:COwn):(COwn->Option β)->Option β :=
 @List.rec (Nat×CB) (fun _=>(COwn->Option β)->Option β) (fun K=>K [])
  (fun p r ih K=>@Prod.rec Nat CB (fun _=>Option β) (fun k v=>@Bool.rec (fun _=>Option β) (ih fun r'=>K ((k,v)::r')) (K ((k,x)::r)) (Nat.beq k t)) p) l
theorem upC_ok {β:Type} {t:Nat} {x:CB}:∀{l:COwn} {K:COwn->Option β} {out:β},upC t x l K=some out ->
 ∃l',K l'=some out/\∀Kp:Own->Prop,Kp (ownV l')->updK t x.b (ownV l) Kp
 | [],K,out,h=>⟨[],h,fun Kp hK=>hK⟩
 | (k,v)::r,K,out,h=>by
   have h:@Bool.rec (fun _=>Option β) (upC t x r fun r'=>K ((k,v)::r')) (K ((k,x)::r)) (Nat.beq k t)=some out:=h;cases hb:Nat.beq k t with
   | true =>
     rw[hb] at h;exact⟨_,h,fun Kp hK=>by simp only[ownV,List.map_cons,updK,hb];exact hK⟩
   | false =>
     rw[hb] at h;obtain⟨l',a1,a2⟩:=upC_ok (K:=fun r'=>K ((k,v)::r')) h;exact⟨_,a1,fun Kp hK=>by simp only[ownV,List.map_cons,updK,hb];exact a2 _ hK⟩
noncomputable def deC {β:Type} (t:Nat) (l:COwn):(COwn->Option β)->Option β :=
 @List.rec (Nat×CB) (fun _=>(COwn->Option β)->Option β) (fun K=>K [])
  (fun p r ih K=>@Prod.rec Nat CB (fun _=>Option β) (fun k v=>@Bool.rec (fun _=>Option β) (ih fun r'=>K ((k,v)::r')) (K r) (Nat.beq k t)) p) l
theorem deC_ok {β:Type} {t:Nat}:∀{l:COwn} {K:COwn->Option β} {out:β},deC t l K=some out ->
 ∃l',K l'=some out/\∀Kp:Own->Prop,Kp (ownV l')->delK t (ownV l) Kp
 | [],K,out,h=>⟨[],h,fun Kp hK=>hK⟩
 | (k,v)::r,K,out,h=>by
   have h:@Bool.rec (fun _=>Option β) (deC t r fun r'=>K ((k,v)::r')) (K r) (Nat.beq k t)=some out:=h;cases hb:Nat.beq k t with
   | true =>
     rw[hb] at h;exact⟨_,h,fun Kp hK=>by simp only[ownV,List.map_cons,delK,hb];exact hK⟩
   | false =>
     rw[hb] at h;obtain⟨l',a1,a2⟩:=deC_ok (K:=fun r'=>K ((k,v)::r')) h;exact⟨_,a1,fun Kp hK=>by simp only[ownV,List.map_cons,delK,hb];exact a2 _ hK⟩
theorem tab_tabz (rows:List (List V)):tab rows=tabz [] rows:=rfl
noncomputable def cbor0 (own:COwn) (v:C):Option C :=
 match v with
 | .vec k s lo len=>match lk own k with
   | some (.vec n s' z rows)=>match Nat.beq s s' with
     | true=>match Nat.ble (lo+len) n with
       | true=>fH (dr rows lo) fun q=>some (.fz len s false z q)
       | false=>none
     | false=>none
   | _=>none
 | v=>match kf2C v with
   | true=>some v
   | false=>none
theorem cbor0_ok {own:COwn} {v c:C} {K:V->Prop} (h:cbor0 own v=some c) (hK:K c.v):bor0 (ownV own) v.v K:=by
 have other:(∀k s lo len,v≠.vec k s lo len)->kf2C v=true->K v.v->bor0 (ownV own) v.v K:=by
  intro hne hk hK;have:=kf2C_eq v;rw[hk] at this;cases v<;>first
   | exact(hne _ _ _ _ rfl).elim
   | (simp only[C.v] at this hK ⊢
      simp only[bor0,this];exact hK)
 unfold cbor0 at h;split at h
 . rename_i k s lo len;simp only[C.v,bor0];split at h
   . rename_i n s' z rows hl;rw[look_ownV hl];simp only[CB.b];split at h
     . rename_i hs;simp only[hs];split at h
       . rename_i hle;refine⟨Nat.le_of_ble_eq_true hle,?_⟩;rw[fH_eq] at h;cases h;rw[shiftF_tabzC];simp only[C.v,dr_eq] at hK;exact hK
       . cases h
     . cases h
   . cases h
 . rename_i hne;split at h
   . rename_i hk;cases h;exact other hne hk hK
   . cases h
noncomputable def cborL0 (own:COwn):List C->Option (List C)
 | []=>some []
 | v::r=>match cbor0 own v with
   | some c=>match cborL0 own r with
     | some l=>some (c::l)
     | none=>none
   | none=>none
theorem cborL0_ok {own:COwn}:∀{l cs:List C} {K:List V->Prop},cborL0 own l=some cs->K (C.vs cs)->borL0 (ownV own) (C.vs l) K
 | [],cs,K,h,hK=>by simp only[cborL0,Option.some.injEq] at h;subst h;simpa[C.vs,borL0] using hK
 | v::r,cs,K,h,hK=>by
   unfold cborL0 at h;split at h
   . rename_i c hc;split at h
     . rename_i l hl;cases h;simp only[C.vs,borL0];exact cbor0_ok hc (cborL0_ok hl (by simpa[C.vs] using hK))
     . cases h
   . cases h
theorem chunk_vs (s:Nat):∀(n:Nat) (l:List C),chunk s n (C.vs l)=C.vss (chunk s n l)
 | 0,l=>by simp[chunk,C.vss]
 | n+1,l=>by
   simp only[chunk,C.vss];rw[<- chunk_vs s n,C.vs_map,C.vs_map,C.vs_map];simp
noncomputable def cbor1 (own:COwn) (v:C):Option C :=
 match v with
 | .vec k s 0 len=>match lk own k with
   | some (.cells cs)=>match Nat.beq (len*s) (ln cs) with
     | true=>match allC cellC cs with
       | true=>match cborL0 own cs with
         | some cs'=>some (.fz len s false [] (chunk s len cs'))
         | none=>none
       | false=>none
     | false=>none
   | _=>cbor0 own (.vec k s 0 len)
 | v=>cbor0 own v
theorem cbor1_ok {own:COwn} {v c:C} {K:V->Prop} (h:cbor1 own v=some c) (hK:K c.v):bor1 (ownV own) v.v K:=by
 unfold cbor1 at h;split at h
 . rename_i k s len;split at h
   . rename_i cs hl;split at h
     . rename_i hlen;split at h
       . rename_i hc;split at h
         . rename_i cs' hcs;cases h;have hlen:=Nat.eq_of_beq_eq_true hlen;rw[ln_eq] at hlen;have hcb:allB V.cellB (C.vs cs)=true:=by rw[allB_vs cellC_eq];exact hc
           have hK':borL0 (ownV own) (C.vs cs) fun cs'=>K (.fz len s false (tab (chunk s len cs'))):=by
            refine cborL0_ok hcs ?_;rw[chunk_vs,tab_tabz];simpa[C.v,C.vs] using hK
           by_cases h1:s=1
           . subst h1;simp only[C.v,bor1,look_ownV hl,CB.b,hcb];have e:Nat.beq len (C.vs cs).length=true:=by rw[C.vs_length,<- hlen];simp
             simp only[e];exact hK'
           . have e:Nat.beq (len*s) (C.vs cs).length=true:=by rw[C.vs_length,<- hlen];simp
             simp only[C.v];unfold bor1;split
             . rename_i e1;cases e1;exact(h1 rfl).elim
             . rename_i e1;cases e1;rw[look_ownV hl];simp only[CB.b,hcb,e];exact hK'
             . rename_i hne2;exact(hne2 _ _ _ rfl).elim
         . cases h
       . cases h
     . cases h
   . rename_i hne;have hb:=cbor0_ok h hK;simp only[C.v] at hb ⊢;have nocell:∀cs,look (ownV own) k≠some (.cells cs):=by
      intro cs e;rw[ownV,look_map,<- lk_eq] at e;cases hl:lk own k with
      | none=>rw[hl] at e;cases e
      | some b=>cases b with
        | cells cs'=>exact hne cs' hl
        | vec n s z rows=>rw[hl] at e;cases e
        | map mk es=>rw[hl] at e;cases e
        | mapS es=>rw[hl] at e;cases e
     have nofam:∀n s l f op,look (ownV own) k≠some (.fam n s l f op):=by
      intro n s l f op e;rw[ownV,look_map,<- lk_eq] at e;cases hl:lk own k with
      | none=>rw[hl] at e;cases e
      | some b=>cases b<;>(rw[hl] at e;cases e)
     unfold bor1;split
     . rename_i e1;cases e1;split
       . rename_i cs hl;exact(nocell cs hl).elim
       . rename_i n s l f op hl;exact(nofam _ _ _ _ _ hl).elim
       . exact hb
     . rename_i e1;cases e1;split
       . rename_i cs hl;exact(nocell cs hl).elim
       . exact hb
     . exact hb
 . rename_i hne;have hb:=cbor0_ok h hK;unfold bor1;split
   . rename_i e1;cases v<;>simp only[C.v,V.vec.injEq,reduceCtorEq] at e1;obtain⟨rfl,rfl,rfl,rfl⟩:=e1;exact(hne _ _ _ rfl).elim
   . rename_i e1;cases v<;>simp only[C.v,V.vec.injEq,reduceCtorEq] at e1;obtain⟨rfl,rfl,rfl,rfl⟩:=e1;exact(hne _ _ _ rfl).elim
   . exact hb
noncomputable def cborL (own:COwn):List C->Option (List C)
 | []=>some []
 | v::r=>match cbor1 own v with
   | some c=>match cborL own r with
     | some l=>some (c::l)
     | none=>none
   | none=>none
theorem cborL_ok {own:COwn}:∀{l cs:List C} {K:List V->Prop},cborL own l=some cs->K (C.vs cs)->borL (ownV own) (C.vs l) K
 | [],cs,K,h,hK=>by simp only[cborL,Option.some.injEq] at h;subst h;simpa[C.vs,borL] using hK
 | v::r,cs,K,h,hK=>by
   unfold cborL at h;split at h
   . rename_i c hc;split at h
     . rename_i l hl;cases h;simp only[C.vs,borL];exact cbor1_ok hc (cborL_ok hl (by simpa[C.vs] using hK))
     . cases h
   . cases h
noncomputable def cbor (own:COwn) (v:C):Option C :=
 match v with
 | .agg cs=>match cborL own cs with
   | some l=>some (.agg l)
   | none=>none
 | .loc _ _=>none
 | v=>cbor1 own v
theorem cbor_ok {own:COwn} {v c:C} {K:V->Prop} (h:cbor own v=some c) (hK:K c.v):bor (ownV own) v.v K:=by
 unfold cbor at h;split at h
 . split at h
   . rename_i l hl;cases h;simp only[C.v,bor];exact cborL_ok hl (by simpa[C.v] using hK)
   . cases h
 . cases h
 . rename_i hne hne2;have hb:=cbor1_ok h hK;cases v<;>first
    | exact(hne _ rfl).elim
    | exact(hne2 _ _ rfl).elim
    | (simp only[C.v] at hb ⊢;simp only[bor];exact hb)
def keysLC:List C->List Nat
 | []=>[]
 | v::r=>match v with
   | .vec k _ _ _=>k::keysLC r
   | _=>keysLC r
theorem keysLC_eq:∀(l:List C),keysL (C.vs l)=keysLC l
 | []=>rfl
 | v::r=>by
   simp only[C.vs,keysL,keysLC,keysLC_eq r];cases v<;>simp[C.v,V.key1]
noncomputable def frzKeysC (own:COwn) (v:C):List Nat :=
 match v with
 | .vec k _ _ _=>match lk own k with
   | some (.cells cs)=>k::keysLC cs
   | _=>[k]
 | .agg cs=>keysLC cs
 | _=>[]
theorem frzKeysC_eq (own:COwn) (v:C):frzKeys (ownV own) v.v=frzKeysC own v:=by
 cases v<;>simp[C.v,frzKeys,frzKeysC,keysLC_eq];rename_i k s lo len;rw[ownV,look_map,<- lk_eq];cases hl:lk own k with
 | none=>rfl
 | some b=>cases b<;>simp[CB.b,keysLC_eq]
noncomputable def dropC (ks:List Nat):COwn->COwn
 | []=>[]
 | (k,b)::r=>match memN k ks with|true=>dropC ks r|false=>(k,b)::dropC ks r
noncomputable def keepC (ks:List Nat):COwn->COwn
 | []=>[]
 | (k,b)::r=>match memN k ks with|true=>(k,b)::keepC ks r|false=>keepC ks r
theorem dropC_eq (ks:List Nat):∀(o:COwn),dropK ks (ownV o)=ownV (dropC ks o)
 | []=>rfl
 | (k,b)::r=>by
   have ih:=dropC_eq ks r;simp only[ownV,List.map_cons,dropK,dropC] at ih ⊢;cases memN k ks<;>simp[ih]
theorem keepC_eq (ks:List Nat):∀(o:COwn),keepK ks (ownV o)=ownV (keepC ks o)
 | []=>rfl
 | (k,b)::r=>by
   have ih:=keepC_eq ks r;simp only[ownV,List.map_cons,keepK,keepC] at ih ⊢;cases memN k ks<;>simp[ih]
noncomputable def fOwn {β:Type} (o:COwn):(COwn->β)->β:=@List.rec (Nat×CB) (fun _=>(COwn->β)->β) (fun K=>K []) (fun p _ ih K=>ih fun r=>K (p::r)) o
theorem fOwn_eq {β:Type}:∀(o:COwn) (K:COwn->β),fOwn o K=K o
 | [],K=>rfl
 | p::r,K=>fOwn_eq r fun r=>K (p::r)
noncomputable def cfrz {β:Type} (own:COwn) (v:C) (K:C->COwn->Option β):Option β :=
 match cbor (keepC (frzKeysC own v) own) v with
 | some v'=>fOwn (dropC (frzKeysC own v) own) fun own'=>K v' own'
 | none=>none
theorem cfrz_ok {β:Type} {own:COwn} {v:C} {K:C->COwn->Option β} {out:β} (h:cfrz own v K=some out) :
 ∃v' o',K v' o'=some out/\∀Kp:V->Own->Prop,Kp v'.v (ownV o')->frzV (ownV own) v.v Kp:=by
 unfold cfrz at h;split at h
 . rename_i v' hv;rw[fOwn_eq] at h;refine⟨v',_,h,fun Kp hK=>?_⟩;unfold frzV;rw[frzKeysC_eq,keepC_eq,dropC_eq];exact cbor_ok hv hK
 . cases h
theorem fset_tabz {z:List C} {rows:List (List C)} {i j:Nat} {row vs:List C} (h:rows[i]?=some row) (hj:j+vs.length<=row.length) :
 fset (tabz (C.vs z) (C.vss rows)) i j (C.vs vs)=tabz (C.vs z) (C.vss (rows.take i++[row.take j++vs++row.drop (j+vs.length)]++rows.drop (i+1))):=by
 have hi:=(List.getElem?_eq_some_iff.1 h).1;funext i' j';have hrow:∀q,(rows.take i++[q]++rows.drop (i+1))[i']?=if i'=i then some q else rows[i']?:=by
  intro q;have:=splice_get rows [q] i (by simp only[List.length_singleton];omega) i';simp only[List.length_singleton] at this;rw[this];by_cases h1:i'<i
  . rw[if_pos h1,if_neg (by omega)]
  . rw[if_neg h1];by_cases h2:i'=i
    . subst h2;simp
    . rw[if_neg (by omega),if_neg h2]
 simp only[fset,tabz,List.getD_eq_getElem?_getD,C.vss_get,hrow,C.vs_length];by_cases e:i'=i
 . subst e;simp only[if_true,h,Option.map_some,Option.getD_some,true_and,C.vs_get];rw[splice_get row vs j hj j'];by_cases h1:j'<j
   . rw[if_neg (by omega),if_pos h1]
   . rw[if_neg h1];by_cases h2:j'<j+vs.length
     . rw[if_pos ⟨by omega,h2⟩,if_pos h2];have:j'-j<vs.length:=by omega
       simp[this]
     . rw[if_neg (by omega),if_neg h2]
 . simp only[e,false_and,if_false]
noncomputable def cstoreL {β:Type} (own:COwn) (sz k off:Nat) (v:C) (K:COwn->Option β):Option β :=
 match lk own k with
 | some (.cells cs)=>match cellsN sz v with
   | some vs=>stC cs off vs fun cs'=>upC k (.cells cs') own K
   | none=>none
 | _=>none
theorem cstoreL_ok {β:Type} {own:COwn} {sz k off:Nat} {v:C} {K:COwn->Option β} {out:β} (h:cstoreL own sz k off v K=some out) :
 ∃o',K o'=some out/\∀Kp:Own->Prop,Kp (ownV o')->vstoreL (ownV own) sz k off v.v Kp:=by
 unfold cstoreL at h;split at h
 . rename_i cs hl;split at h
   . rename_i vs hv;obtain⟨a1,a2,a3,a4⟩:=cellsN_ok hv;obtain⟨cs',b1,b2,b3,b4,b5⟩:=stC_ok _ _ _ _ _ h;obtain⟨o',c1,c2⟩:=upC_ok b1;refine⟨o',c1,fun Kp hK=>?_⟩;unfold vstoreL;rw[look_ownV hl];simp only[CB.b];refine cellsC_ok a1 ?_;simp only[a3,a4];rw[C.vs_map,C.vs_map];refine b5 C.v _ ?_;have:=c2 Kp hK;simpa[CB.b,C.vs_map] using this
   . cases h
 . cases h
noncomputable def cstore {β:Type} (own:COwn) (sz:Nat) (p v:C) (K:COwn->Option β):Option β :=
 match p with
 | .loc k off=>cstoreL own sz k off v K
 | .oel k s i j=>match lk own k with
   | some (.vec n s' z rows)=>match cellsN sz v with
     | some vs=>match allC kf1C vs with
       | true=>match Nat.beq s s' with
         | true=>match Nat.ble (j+sz) s with
           | true=>match Nat.blt i n with
             | true=>match Nat.ble 1 sz with
               | true=>match nt rows i with
                 | some row=>stC row j vs fun row'=>stC rows i [row'] fun rows'=>upC k (.vec n s z rows') own K
                 | none=>none
               | false=>none
             | false=>none
           | false=>none
         | false=>none
       | false=>none
     | none=>none
   | some (.cells _)=>cstoreL own sz k (i*s+j) v K
   | _=>none
 | _=>none
theorem cstore_ok {β:Type} {own:COwn} {sz:Nat} {p v:C} {K:COwn->Option β} {out:β} (h:cstore own sz p v K=some out) :
 ∃o',K o'=some out/\∀Kp:Own->Prop,Kp (ownV o')->vstore (ownV own) sz p.v v.v Kp:=by
 unfold cstore at h;split at h
 . simp only[C.v,vstore];exact cstoreL_ok h
 . rename_i k s i j;split at h
   . rename_i n s' z rows hl;split at h
     . rename_i vs hv;obtain⟨a1,a2,a3,a4⟩:=cellsN_ok hv;split at h
       . rename_i hkf;split at h
         . rename_i hs;split at h
           . rename_i hj;split at h
             . rename_i hi;split at h
               case h_2=>cases h
               rename_i h0;split at h
               . rename_i row hr;obtain⟨row',b1,b2,b3,b4,b5⟩:=stC_ok _ _ _ _ _ h;obtain⟨rows',d1,d2,d3,d4,d5⟩:=stC_ok _ _ _ _ _ b1;obtain⟨o',c1,c2⟩:=upC_ok d1;refine⟨o',c1,fun Kp hK=>?_⟩;have e:=Nat.eq_of_beq_eq_true hs;subst e;simp only[C.v,vstore];rw[look_ownV hl];simp only[CB.b];refine cellsC_ok a1 ?_;have hkf':allB V.kf1 (C.vs vs)=true:=by rw[allB_vs kf1C_eq];exact hkf
                 simp only[a3,a4,hkf',hs,hj];refine⟨Nat.le_of_ble_eq_true hi,?_⟩;have:=c2 Kp hK;rw[nt_eq,nth_get] at hr;have hfit:j+vs.length<=row.length:=b3 (by
                  intro e;rw[e] at a2;have:=Nat.le_of_ble_eq_true h0;simp at a2;omega)
                 rw[fset_tabz hr hfit];simp only[CB.b,d4,b4,List.length_singleton] at this;exact this
               . cases h
             . cases h
           . cases h
         . cases h
       . cases h
     . cases h
   . rename_i cs hl;simp only[C.v,vstore];rw[look_ownV hl];simp only[CB.b];exact cstoreL_ok h
   . cases h
 . cases h
noncomputable def keyedC:C->Bool
 | .vec _ _ _ _=>true
 | .agg cs=>match keysLC cs with|[]=>false|_::_=>true
 | _=>false
theorem keyedC_eq (v:C):v.v.keyed=keyedC v:=by
 cases v<;>simp only[C.v,V.keyed,keyedC,keysLC_eq];rename_i cs;cases keysLC cs<;>rfl
noncomputable def cstoreF {β:Type} (own:COwn) (sz:Nat) (p v:C) (K:COwn->Option β):Option β :=
 match p with
 | .oel k s i j=>match lk own k with
   | some (.vec _ _ _ _)=>match keyedC v with
     | true=>cfrz own v fun v' own'=>cstore own' sz (.oel k s i j) v' K
     | false=>cstore own sz (.oel k s i j) v K
   | _=>cstore own sz (.oel k s i j) v K
 | p=>cstore own sz p v K
theorem cstoreF_ok {β:Type} {own:COwn} {sz:Nat} {p v:C} {K:COwn->Option β} {out:β} (h:cstoreF own sz p v K=some out) :
 ∃o',K o'=some out/\∀Kp:Own->Prop,Kp (ownV o')->vstoreF (ownV own) sz p.v v.v Kp:=by
 unfold cstoreF at h;split at h
 . rename_i k s i j;split at h
   . rename_i n s' z rows hl;split at h
     . rename_i hk;obtain⟨v',o1,a1,a2⟩:=cfrz_ok h;obtain⟨o',b1,b2⟩:=cstore_ok a1;refine⟨o',b1,fun Kp hK=>?_⟩;simp only[C.v,vstoreF];rw[look_ownV hl,keyedC_eq,hk];simp only[CB.b];refine a2 _ ?_;have:=b2 Kp hK;simpa only[C.v] using this
     . rename_i hk;obtain⟨o',b1,b2⟩:=cstore_ok h;refine⟨o',b1,fun Kp hK=>?_⟩;simp only[C.v,vstoreF];rw[look_ownV hl,keyedC_eq,hk];simp only[CB.b];have:=b2 Kp hK;simpa only[C.v] using this
   . rename_i hne;obtain⟨o',b1,b2⟩:=cstore_ok h;refine⟨o',b1,fun Kp hK=>?_⟩;have:=b2 Kp hK;simp only[C.v] at this;simp only[C.v,vstoreF];split
     . rename_i n s' f hl;exfalso;rw[ownV,look_map,<- lk_eq] at hl;cases hq:lk own k with
       | none=>rw[hq] at hl;cases hl
       | some b=>cases b with
         | vec n s z rows=>exact hne _ _ _ _ hq
         | _=>rw[hq] at hl;cases hl
     . exact this
 . rename_i hne;obtain⟨o',b1,b2⟩:=cstore_ok h;refine⟨o',b1,fun Kp hK=>?_⟩;have:=b2 Kp hK;cases p<;>first
    | exact(hne _ _ _ _ rfl).elim
    | (simp only[C.v] at this ⊢;simp only[vstoreF];exact this)
noncomputable def csrc (own:COwn) (s:Nat) (y:C):Option (Nat×List C×List (List C)) :=
 match y with
 | .fz m s' _ z rows=>match Nat.beq s s' with|true=>some (m,z,rows)|false=>none
 | .vec k s' lo len=>match lk own k with
   | some (.vec n s'' z rows)=>match Nat.beq s s' with
     | true=>match Nat.beq s s'' with
       | true=>match Nat.ble (lo+len) n with
         | true=>fH (dr rows lo) fun q=>some (len,z,q)
         | false=>none
       | false=>none
     | false=>none
   | _=>none
 | _=>none
theorem csrc_ok {own:COwn} {s:Nat} {y:C} {m:Nat} {z:List C} {rows:List (List C)} {K:Nat->(Nat->Nat->V)->Prop} (h:csrc own s y=some (m,z,rows)) (hK:K m (tabz (C.vs z) (C.vss rows))):vsrc (ownV own) s y.v K:=by
 unfold csrc at h;split at h
 . split at h
   . rename_i hs;cases h;simp only[C.v,vsrc,hs];exact hK
   . cases h
 . rename_i k s' lo len;simp only[C.v,vsrc];split at h
   . rename_i n s'' z' rows' hl;rw[look_ownV hl];simp only[CB.b];split at h
     . rename_i h1;split at h
       . rename_i h2;split at h
         . rename_i h3;rw[fH_eq] at h;cases h;simp only[h1,h2];refine⟨Nat.le_of_ble_eq_true h3,?_⟩;rw[shiftF_tabzC];rw[dr_eq] at hK;exact hK
         . cases h
       . cases h
     . cases h
   . cases h
 . cases h
def lastC:List C->Option C
 | []=>some (.bool false)
 | [v]=>some v
 | _::r=>lastC r
theorem lastC_ok:∀(z:List C),(lastC z).map C.v=some (lastV (C.vs z))
 | []=>by simp[lastC,lastV,C.vs,C.v];rfl
 | [v]=>by simp[lastC,lastV,C.vs]
 | _::b::r=>by simpa[lastC,lastV,C.vs] using lastC_ok (b::r)
def sameL (z z':List C):Bool:=match lastC z with
 | some (.int k a)=>match lastC z' with
   | some (.int k' b)=>match kEq k k' with|true=>ieq a b|false=>false
   | _=>false
 | some (.bool a)=>match lastC z' with
   | some (.bool b)=>a == b
   | _=>false
 | some .nilslice=>match lastC z' with
   | some .nilslice=>true
   | _=>false
 | _=>false
theorem sameL_ok {z z':List C} (h:sameL z z'=true):lastV (C.vs z)=lastV (C.vs z'):=by
 have h1:=lastC_ok z;have h2:=lastC_ok z';have key:lastC z=lastC z':=by
  unfold sameL at h;split at h
  . rename_i e1;split at h
    . rename_i e2;split at h
      . rename_i e3;rw[ieq_eq,beq_iff_eq] at h;rw[e1,e2,kEq_ok e3,h]
      . cases h
    . cases h
  . rename_i e1;split at h
    . rename_i e2;rw[beq_iff_eq] at h;rw[e1,e2,h]
    . cases h
  . rename_i e1;split at h
    . rename_i e2;rw[e1,e2]
    . cases h
  . cases h
 rw[key,h2] at h1;exact(Option.some.inj h1).symm
theorem fapp_tabz {z z':List C} {rows rows':List (List C)} {lo len:Nat} (h:lo+len<=rows.length) (hz:lastV (C.vs z)=lastV (C.vs z')) :
 fapp (shiftF lo (tabz (C.vs z) (C.vss rows))) len (tabz (C.vs z') (C.vss rows'))=tabz (C.vs z') (C.vss ((rows.drop lo).take len++rows')):=by
 funext i j;have hlen:((rows.drop lo).take len).length=len:=by simp;omega
 by_cases hi:i<len
 . rw[fapp_lt hi,shiftF_eq];simp only[tabz,List.getD_eq_getElem?_getD,C.vss_get];rw[List.getElem?_append_left (by omega),List.getElem?_take,if_pos hi,List.getElem?_drop];have:lo+i<rows.length:=by omega
   simp[this,hz]
 . rw[fapp_ge hi];simp only[tabz,List.getD_eq_getElem?_getD,C.vss_get];rw[List.getElem?_append_right (by omega),hlen]
theorem fput_tabz {z z':List C} {rows rows':List (List C)} {p m:Nat} (h:p+m<=rows.length) (h':m<=rows'.length) (hz:lastV (C.vs z)=lastV (C.vs z')) :
 fput (tabz (C.vs z) (C.vss rows)) p m (tabz (C.vs z') (C.vss rows'))=tabz (C.vs z) (C.vss (rows.take p++rows'.take m++rows.drop (p+m))):=by
 funext i j;have hl:(rows'.take m).length=m:=by simp;omega
 have hs:=splice_get rows (rows'.take m) p (by omega) i;rw[hl] at hs;simp only[fput,tabz,List.getD_eq_getElem?_getD,C.vss_get,hs];by_cases h1:i<p
 . rw[if_neg (by omega),if_pos h1]
 . by_cases h2:i<p+m
   . rw[if_pos ⟨by omega,h2⟩,if_neg h1,if_pos h2,List.getElem?_take,if_pos (by omega)];have:i-p<rows'.length:=by omega
     simp[this,hz]
   . rw[if_neg (by omega),if_neg h1,if_neg h2]
noncomputable def apK {α β:Type} (n:Nat):List α->List α->(List α->Option β)->Option β :=
 @Nat.rec (fun _=>List α->List α->(List α->Option β)->Option β) (fun _ l K=>K l) (fun _ ih q l K=>@List.rec α (fun _=>Option β) none (fun x r _=>ih r l fun o=>K (x::o)) q) n
theorem apK_eq {α β:Type} (n:Nat) (q l:List α) (K:List α->Option β):apK n q l K=if n<=q.length then K (q.take n++l) else none:=by
 induction n generalizing q K with
 | zero=>simp only[Nat.zero_le,if_true,List.take_zero,List.nil_append];rfl
 | succ n ih=>cases q with
   | nil=>rfl
   | cons x r =>
     show apK n r l (fun o=>K (x::o))=_;rw[ih];simp
structure R where
 v:C
 o:COwn
 k:Nat
def KB:Nat:=1000000
def ksV (k:Nat):List Nat:=List.range' k (KB-k)
theorem ksV_cons {k:Nat} (h:k<KB):ksV k=k::ksV (k+1):=by
 unfold ksV;rw[show KB-k=(KB-(k+1))+1 by omega,List.range'_succ]
noncomputable def frC {β:Type} (k:Nat) (K:Nat->Nat->Option β):Option β:=match Nat.blt k KB with
 | true=>fN (Nat.succ k) fun k'=>K k k'
 | false=>none
theorem frC_ok {β:Type} {k:Nat} {K:Nat->Nat->Option β} {out:β} (h:frC k K=some out):K k (k+1)=some out/\∀Kp:Nat->List Nat->Prop,Kp k (ksV (k+1))->fresh (ksV k) Kp:=by
 unfold frC at h;split at h
 . rename_i hb;rw[fN_eq] at h;refine⟨h,fun Kp hK=>?_⟩;rw[ksV_cons (Nat.le_of_ble_eq_true hb)];exact hK
 . cases h
noncomputable def bigC (n bytes:Nat) {β:Type} (K:Option β):Option β:=match Nat.ble (n*bytes) 140737488355328 with
 | true=>match Nat.ble n 9223372036854775807 with|true=>K|false=>none
 | false=>none
theorem bigC_ok {n bytes:Nat} {β:Type} {K:Option β} {out:β} (h:bigC n bytes K=some out):n*bytes<=140737488355328/\n<=9223372036854775807/\K=some out:=by
 unfold bigC at h;split at h
 . rename_i h1;split at h
   . rename_i h2;exact⟨Nat.le_of_ble_eq_true h1,Nat.le_of_ble_eq_true h2,h⟩
   . cases h
 . cases h
noncomputable def cappg (own:COwn) (ks s bytes k lo len m:Nat) (rows:List (List C)) (z':List C) (rows':List (List C)):Option R :=
 bigC (len+m) bytes (frC ks fun k' ks=>deC k own fun own'=>apK len (dr rows lo) rows' fun q=>fN (len+m) fun n=>some ⟨.vec k' s 0 n,(k',.vec n s z' q)::own',ks⟩)
noncomputable def capp (own:COwn) (ks s bytes:Nat) (x y:C):Option R :=
 match csrc own s y with
 | some (m,z',rows')=>match x with
   | .nilslice=>bigC m bytes (frC ks fun k' ks=>some ⟨.vec k' s 0 m,(k',.vec m s z' rows')::own,ks⟩)
   | .fz 0 _ true _ _=>bigC m bytes (frC ks fun k' ks=>some ⟨.vec k' s 0 m,(k',.vec m s z' rows')::own,ks⟩)
   | .vec k s' lo len=>match lk own k with
     | some (.vec n s'' z rows)=>match Nat.beq s s' with
       | true=>match Nat.beq s s'' with
         | true=>match Nat.ble (lo+len) n with
           | true=>match sameL z z' with
            | false=>none
            | true=>match Nat.beq (lo+len) n with
             | true=>cappg own ks s bytes k lo len m rows z' rows'
             | false=>match Nat.ble (lo+len+m) n with
               | true=>match Nat.ble 1 m with
                 | true=>tk m rows' fun q=>stC rows (lo+len) q fun rows2=>upC k (.vec n s z rows2) own fun own'=>fN (len+m) fun n'=>some ⟨.vec k s lo n',own',ks⟩
                 | false=>none
               | false=>cappg own ks s bytes k lo len m rows z' rows'
           | false=>none
         | false=>none
       | false=>none
     | _=>none
   | _=>none
 | none=>none
theorem cappg_ok {own:COwn} {ks s bytes k lo len n m:Nat} {z:List C} {rows:List (List C)} {z':List C} {rows':List (List C)} {r:R} {K:V->Own->List Nat->Prop} (hle:lo+len<=n) (hz:lastV (C.vs z)=lastV (C.vs z'))
 (h:cappg own ks s bytes k lo len m rows z' rows'=some r) (hK:K r.v.v (ownV r.o) (ksV r.k)) :
 vappg (ownV own) (ksV ks) s bytes k lo len n m (tabz (C.vs z) (C.vss rows)) (tabz (C.vs z') (C.vss rows')) K:=by
 unfold cappg at h;obtain⟨a1,a2,h⟩:=bigC_ok h;obtain⟨h,b1⟩:=frC_ok h;obtain⟨o',h,c1⟩:=deC_ok h;rw[apK_eq] at h;split at h
 . rename_i hl;rw[fN_eq] at h;cases h;rw[dr_eq,List.length_drop] at hl;unfold vappg;refine⟨hle,a1,a2,b1 _ (c1 _ ?_)⟩;by_cases h0:len=0
   . subst h0;simp only[fapp];simpa[C.v,ownV,CB.b,dr_eq] using hK
   . rw[fapp_tabz (by omega) hz];simpa[C.v,ownV,CB.b,dr_eq] using hK
 . cases h
theorem capp_ok {own:COwn} {ks s bytes:Nat} {x y:C} {r:R} {K:V->Own->List Nat->Prop} (h:capp own ks s bytes x y=some r) (hK:K r.v.v (ownV r.o) (ksV r.k)):vapp (ownV own) (ksV ks) s bytes x.v y.v K:=by
 unfold capp at h;split at h
 . rename_i m z' rows' hsrc;refine csrc_ok hsrc ?_;split at h
   . obtain⟨a1,a2,h⟩:=bigC_ok h;obtain⟨h,b1⟩:=frC_ok h;cases h;simp only[C.v];exact⟨a1,a2,b1 _ (by simpa[C.v,ownV,CB.b] using hK)⟩
   . obtain⟨a1,a2,h⟩:=bigC_ok h;obtain⟨h,b1⟩:=frC_ok h;cases h;simp only[C.v];exact⟨a1,a2,b1 _ (by simpa[C.v,ownV,CB.b] using hK)⟩
   . rename_i k s' lo len;simp only[C.v];split at h
     . rename_i n s'' z rows hl;rw[look_ownV hl];simp only[CB.b];split at h
       . rename_i h1;split at h
         . rename_i h2;simp only[h1,h2];split at h
           . rename_i h3;have h3:=Nat.le_of_ble_eq_true h3;split at h
             . cases h
             rename_i hz;have hz:=sameL_ok hz;split at h
             . rename_i h4;exact⟨fun _=>cappg_ok h3 hz h hK,fun e=>by rw[h4] at e;cases e⟩
             . rename_i h4;refine⟨fun e=>(by rw[h4] at e;cases e),fun _=>?_⟩;split at h
               . rename_i h5;refine⟨fun _=>?_,fun e=>(by rw[h5] at e;cases e)⟩;split at h
                 . rename_i h6;have h6:=Nat.le_of_ble_eq_true h6;have e1:=Nat.eq_of_beq_eq_true h1;subst e1;rw[tk_eq] at h;split at h
                   . rename_i h7;obtain⟨rows2,g1,g2,g3,g4,g5⟩:=stC_ok _ _ _ _ _ h;obtain⟨o',c1,c2⟩:=upC_ok g1;rw[fN_eq] at c1;cases c1;have hl:(rows'.take m).length=m:=by simp;omega
                     have g3:=g3 (fun e=>by rw[e] at hl;simp at hl;omega);rw[hl] at g3 g4;rw[fput_tabz g3 h7 hz];have:=c2 (fun own'=>K (.vec k s lo (len+m)) own' (ksV ks)) (by simpa[C.v] using hK);simp only[CB.b,g4] at this;exact this
                   . cases h
                 . cases h
               . rename_i h5;exact⟨fun e=>(by rw[h5] at e;cases e),fun _=>cappg_ok h3 hz h hK⟩
           . cases h
         . cases h
       . cases h
     . cases h
   . cases h
 . cases h
noncomputable def cappF (own:COwn) (ks s bytes:Nat) (x y:C):Option R :=
 match y with
 | .vec k s' lo len=>match lk own k with
   | some (.cells _)=>cfrz own (.vec k s' lo len) fun y' own'=>capp own' ks s bytes x y'
   | _=>capp own ks s bytes x (.vec k s' lo len)
 | y=>capp own ks s bytes x y
theorem cappF_ok {own:COwn} {ks s bytes:Nat} {x y:C} {r:R} {K:V->Own->List Nat->Prop} (h:cappF own ks s bytes x y=some r) (hK:K r.v.v (ownV r.o) (ksV r.k)):vappF (ownV own) (ksV ks) s bytes x.v y.v K:=by
 unfold cappF at h;split at h
 . rename_i k s' lo len;split at h
   . rename_i cs hl;obtain⟨v',o1,a1,a2⟩:=cfrz_ok h;simp only[C.v,vappF];rw[look_ownV hl];simp only[CB.b];have:=a2 (fun y' own'=>vapp own' (ksV ks) s bytes x.v y' K) (capp_ok a1 hK);simpa only[C.v] using this
   . rename_i hne;have:=capp_ok h hK;simp only[C.v] at this;simp only[C.v,vappF];split
     . rename_i cs hl;exfalso;rw[ownV,look_map,<- lk_eq] at hl;cases hq:lk own k with
       | none=>rw[hq] at hl;cases hl
       | some b=>cases b with
         | cells cs=>exact hne _ hq
         | _=>rw[hq] at hl;cases hl
     . exact this
 . rename_i hne;have:=capp_ok h hK;cases y<;>first
    | exact(hne _ _ _ _ rfl).elim
    | (simp only[C.v] at this ⊢;simp only[vappF];exact this)
noncomputable def mkR (c:Option C) (own:COwn) (ks:Nat):Option R:=match c with
 | some v=>some ⟨v,own,ks⟩
 | none=>none
theorem mkR_ok {c:Option C} {own:COwn} {ks:Nat} {r:R} (h:mkR c own ks=some r):c=some r.v/\r.o=own/\r.k=ks:=by
 unfold mkR at h;split at h
 . cases h;exact⟨rfl,rfl,rfl⟩
 . cases h
noncomputable def cfill (env:CEnv):List (Nat×Nat×X)->List C->Option (List C)
 | [],zs=>some zs
 | (off,size,x)::r,zs=>match gx x env with
   | some v=>match cellsN size v with
     | some vs=>match Nat.ble (off+size) (ln zs) with
       | true=>stC zs off vs fun zs'=>cfill env r zs'
       | false=>none
     | none=>none
   | none=>none
theorem cfill_ok {env:CEnv}:∀{ps:List (Nat×Nat×X)} {zs out:List C} {K:List V->Prop},cfill env ps zs=some out->K (C.vs out)->fillK (envV env) ps (C.vs zs) K
 | [],zs,out,K,h,hK=>by simp only[cfill,Option.some.injEq] at h;subst h;simpa[fillK] using hK
 | (off,size,x)::r,zs,out,K,h,hK=>by
   simp only[cfill] at h;split at h
   . rename_i v hv;split at h
     . rename_i vs hvs;split at h
       . rename_i hle;obtain⟨a1,a2,a3,a4⟩:=cellsN_ok hvs;obtain⟨zs',b1,b2,b3,b4,b5⟩:=stC_ok _ _ _ _ _ h;simp only[fillK];refine gx_ok hv (cellsC_ok a1 ?_);rw[ln_eq] at hle;have hle':Nat.ble (off+size) (C.vs zs).length=true:=by rw[C.vs_length];exact hle
         simp only[a3,a4,hle'];rw[C.vs_map,C.vs_map];refine b5 C.v _ ?_;have:=cfill_ok b1 hK
         rwa[C.vs_map] at this
       . cases h
     . cases h
   . cases h
noncomputable def crows (s:Nat):List C->Option (List (List C))
 | []=>some []
 | v::r=>match cellsN s v with
   | some vs=>match allC kf1C vs with
     | true=>match crows s r with
       | some l=>some (vs::l)
       | none=>none
     | false=>none
   | none=>none
theorem crows_ok {s:Nat}:∀{l:List C} {rs:List (List C)} {K:List (List V)->Prop},crows s l=some rs->K (C.vss rs)->rowsK s (C.vs l) K
 | [],rs,K,h,hK=>by simp only[crows,Option.some.injEq] at h;subst h;simpa[rowsK,C.vs,C.vss] using hK
 | v::r,rs,K,h,hK=>by
   simp only[crows] at h;split at h
   . rename_i vs hvs;split at h
     . rename_i hkf;split at h
       . rename_i l hl;cases h;obtain⟨a1,a2,a3,a4⟩:=cellsN_ok hvs;simp only[C.vs,rowsK];refine cellsC_ok a1 ?_;have hkf':allB V.kf1 (C.vs vs)=true:=by rw[allB_vs kf1C_eq];exact hkf
         simp only[a3,a4,hkf'];exact crows_ok hl (by simpa[C.vss] using hK)
       . cases h
     . cases h
   . cases h
noncomputable def cflat (s:Nat):List C->Option (List C)
 | []=>some []
 | v::r=>match cellsN s v with
   | some vs=>match cflat s r with
     | some l=>apK s vs l some
     | none=>none
   | none=>none
theorem cflat_ok {s:Nat}:∀{l rs:List C} {K:List V->Prop},cflat s l=some rs->K (C.vs rs)->flatK s (C.vs l) K
 | [],rs,K,h,hK=>by simp only[cflat,Option.some.injEq] at h;subst h;simpa[flatK,C.vs] using hK
 | v::r,rs,K,h,hK=>by
   simp only[cflat] at h;split at h
   . rename_i vs hvs;split at h
     . rename_i l hl;obtain⟨a1,a2,a3,a4⟩:=cellsN_ok hvs;rw[apK_eq,if_pos (by omega),<- a2,List.take_length] at h;cases h;simp only[C.vs,flatK];refine cellsC_ok a1 ?_;simp only[a3,a4];refine cflat_ok hl ?_;simpa[C.vs_map] using hK
     . cases h
   . cases h
noncomputable def repl {α:Type} (n:Nat) (x:α):List α:=@Nat.rec (fun _=>List α) [] (fun _ ih=>x::ih) n
theorem repl_eq {α:Type} (n:Nat) (x:α):repl n x=List.replicate n x:=by
 induction n with
 | zero=>rfl
 | succ n ih=>show x::repl n x=_;rw[ih];rfl
noncomputable def fL {α β:Type} (l:List α):(List α->β)->β:=@List.rec α (fun _=>(List α->β)->β) (fun K=>K []) (fun x _ ih K=>ih fun r=>K (x::r)) l
theorem fL_eq {α β:Type}:∀(l:List α) (K:List α->β),fL l K=K l
 | [],_=>rfl
 | x::r,K=>fL_eq r fun r=>K (x::r)
noncomputable def mfI (es:List (Int×C)) (a:Int):Option C:=@List.rec (Int×C) (fun _=>Option C) none (fun p _ ih=>match ieq p.1 a with|true=>some p.2|false=>ih) es
theorem mfI_ok {ik:IntKind}:∀(es:List (Int×C)) (a:Int),mfind (α:=KyT (.one ik)) (es.map fun p=>(p.1,p.2.v)) a=(mfI es a).map C.v
 | [],a=>rfl
 | (q,c)::r,a=>by
   have ih:=mfI_ok (ik:=ik) r a;have e:mfI ((q,c)::r) a=match ieq q a with|true=>some c|false=>mfI r a:=rfl
   rw[e];simp only[List.map_cons,mfind,ih];have:=ieq_eq q a;by_cases h:q=a
   . rw[if_pos h];subst h;simp[this]
   . rw[if_neg h];have:ieq q a=false:=by rw[this];simpa using h
     rw[this]
noncomputable def mpI (es:List (Int×C)) (a:Int) (v:C):List (Int×C):=@List.rec (Int×C) (fun _=>List (Int×C)) [(a,v)] (fun p r ih=>match ieq p.1 a with|true=>(p.1,v)::r|false=>p::ih) es
theorem mpI_ok {ik:IntKind}:∀(es:List (Int×C)) (a:Int) (v:C),mput (α:=KyT (.one ik)) (es.map fun p=>(p.1,p.2.v)) a v.v=(mpI es a v).map fun p=>(p.1,p.2.v)
 | [],a,v=>rfl
 | (q,c)::r,a,v=>by
   have ih:=mpI_ok (ik:=ik) r a v;have e:mpI ((q,c)::r) a v=match ieq q a with|true=>(q,v)::r|false=>(q,c)::mpI r a v:=rfl
   rw[e];simp only[List.map_cons,mput,ih];have:=ieq_eq q a;by_cases h:q=a
   . rw[if_pos h];subst h;simp[this]
   . rw[if_neg h];have:ieq q a=false:=by rw[this];simpa using h
     rw[this];simp
noncomputable def mfS (es:List ((Nat×Nat)×C)) (l d:Nat):Option C:=@List.rec ((Nat×Nat)×C) (fun _=>Option C) none (fun p _ ih=>match eqS p.1.1 p.1.2 l d with|true=>some p.2|false=>ih) es
theorem eqS_iff {l c l' c':Nat}:eqS l c l' c'=true↔bytesOf l c=bytesOf l' c':=by rw[eqS_eq];exact Go.MapKept.bytes_beq _ _
theorem mfS_ok:∀(es:List ((Nat×Nat)×C)) (l d:Nat),mfind (α:=KyT .str) (es.map fun p=>(bytesOf p.1.1 p.1.2,p.2.v)) (bytesOf l d)=(mfS es l d).map C.v
 | [],l,d=>rfl
 | ((q1,q2),c)::r,l,d=>by
   have ih:=mfS_ok r l d;have e:mfS (((q1,q2),c)::r) l d=match eqS q1 q2 l d with|true=>some c|false=>mfS r l d:=rfl
   rw[e];simp only[List.map_cons,mfind,ih];by_cases h:bytesOf q1 q2=bytesOf l d
   . rw[if_pos h,eqS_iff.2 h];rfl
   . rw[if_neg h];have:eqS q1 q2 l d=false:=by rw[<- Bool.not_eq_true];exact fun e=>h (eqS_iff.1 e)
     rw[this]
noncomputable def mpS (es:List ((Nat×Nat)×C)) (l d:Nat) (v:C):List ((Nat×Nat)×C):=@List.rec ((Nat×Nat)×C) (fun _=>List ((Nat×Nat)×C)) [((l,d),v)] (fun p r ih=>match eqS p.1.1 p.1.2 l d with|true=>(p.1,v)::r|false=>p::ih) es
theorem mpS_ok:∀(es:List ((Nat×Nat)×C)) (l d:Nat) (v:C),mput (α:=KyT .str) (es.map fun p=>(bytesOf p.1.1 p.1.2,p.2.v)) (bytesOf l d) v.v=(mpS es l d v).map fun p=>(bytesOf p.1.1 p.1.2,p.2.v)
 | [],l,d,v=>rfl
 | ((q1,q2),c)::r,l,d,v=>by
   have ih:=mpS_ok r l d v;have e:mpS (((q1,q2),c)::r) l d v=match eqS q1 q2 l d with|true=>((q1,q2),v)::r|false=>((q1,q2),c)::mpS r l d v:=rfl
   rw[e];simp only[List.map_cons,mput,ih];by_cases h:bytesOf q1 q2=bytesOf l d
   . rw[if_pos h,eqS_iff.2 h];rfl
   . rw[if_neg h];have:eqS q1 q2 l d=false:=by rw[<- Bool.not_eq_true];exact fun e=>h (eqS_iff.1 e)
     rw[this];rfl
noncomputable def getC (z:V) (comma:Bool) (own:COwn) (ks:Nat) (o:Option C):Option R :=
 match o with
 | some v=>match comma with|true=>some ⟨.tup [v,.bool true],own,ks⟩|false=>some ⟨v,own,ks⟩
 | none=>match ofV z with
   | some c=>match comma with|true=>some ⟨.tup [c,.bool false],own,ks⟩|false=>some ⟨c,own,ks⟩
   | none=>none
def getA (comma:Bool) (b:Bool) (K:V->Prop) (v:V):Prop:=match comma with|true=>K (.tup [v,.bool b])|false=>K v
theorem getC_ok {z:V} {comma:Bool} {own:COwn} {ks:Nat} {o:Option C} {r:R} {K:V->Own->List Nat->Prop} (h:getC z comma own ks o=some r) (hK:K r.v.v (ownV r.o) (ksV r.k)) {o':Option V} (ho:o'=o.map C.v) :
 MGet o' (getA comma true fun v=>K v (ownV own) (ksV ks)) (getA comma false (fun v=>K v (ownV own) (ksV ks)) z):=by
 subst ho;cases o with
 | some v =>
   refine⟨fun v' hv=>?_,fun e=>(by cases e)⟩;cases hv;cases comma<;>(simp only[getC,Option.some.injEq] at h;subst h;simpa[C.v,C.vs,getA] using hK)
 | none =>
   refine⟨fun v' hv=>(by cases hv),fun _=>?_⟩;simp only[getC] at h;split at h
   . rename_i c hc;have:=ofV_ok z hc;subst this;cases comma<;>(simp only[Option.some.injEq] at h;subst h;simpa[C.v,C.vs,getA] using hK)
   . cases h
noncomputable def cxop (o:XOp) (env:CEnv) (own:COwn) (ks:Nat):Option R :=
 match o with
 | .mks s bytes zs x=>match gx x env with
   | some (.int _ (.ofNat m))=>match Nat.ble m 4611686018427387904 with
     | true=>match Nat.ble (m*bytes) 140737488355328 with
       | true=>match ofVs zs with
         | some zc=>frC ks fun k ks=>match s with
           | 1=>match zc with
             | [.nilslice]=>fL (repl m C.nilslice) fun l=>some ⟨.vec k 1 0 m,(k,.cells l)::own,ks⟩
             | zc=>fL (repl m zc) fun l=>fL (List.append zc [.bool false]) fun z=>some ⟨.vec k 1 0 m,(k,.vec m 1 z l)::own,ks⟩
           | s=>fL (repl m zc) fun l=>fL (List.append zc [.bool false]) fun z=>some ⟨.vec k s 0 m,(k,.vec m s z l)::own,ks⟩
         | none=>none
       | false=>none
     | false=>none
   | _=>none
 | .mkmap ik=>match ik with
   | .one ik=>frC ks fun k ks=>some ⟨.map k,(k,.map ik [])::own,ks⟩
   | .str=>frC ks fun k ks=>some ⟨.map k,(k,.mapS [])::own,ks⟩
   | .pair _=>none
   | .st _=>none
 | .mget ik z comma m x=>match gx m env with
   | some (.map k)=>match gx x env with
     | some x=>match lk own k with
       | some (.map ik' es)=>match ik with
         | .one i=>match kEq ik' i with
           | true=>match x with
             | .int i' a=>match kEq i' ik' with
               | true=>getC z comma own ks (mfI es a)
               | false=>none
             | _=>none
           | false=>none
         | _=>none
       | some (.mapS es)=>match ik with
         | .str=>match x with
           | .str l d=>getC z comma own ks (mfS es l d)
           | _=>none
         | _=>none
       | _=>none
     | none=>none
   | _=>none
 | .mput ik m x y=>match gx m env with
   | some (.map k)=>match gx x env with
     | some x=>match gx y env with
       | some y=>match kf2C y with
         | true=>match lk own k with
           | some (.map ik' es)=>match ik with
             | .one i=>match kEq ik' i with
               | true=>match x with
                 | .int i' a=>match kEq i' ik' with
                   | true=>fL (mpI es a y) fun es'=>upC k (.map ik' es') own fun own'=>some ⟨.unit,own',ks⟩
                   | false=>none
                 | _=>none
               | false=>none
             | _=>none
           | some (.mapS es)=>match ik with
             | .str=>match x with
               | .str l d=>fL (mpS es l d y) fun es'=>upC k (.mapS es') own fun own'=>some ⟨.unit,own',ks⟩
               | _=>none
             | _=>none
           | _=>none
         | false=>none
       | none=>none
     | none=>none
   | _=>none
 | .asl n s x hi=>match gx x env with
   | some (.oel k s' i j)=>match i with
     | 0=>match j with
       | 0=>match lk own k with
         | some (.vec n' s'' z rows)=>match Nat.beq s s' with
           | true=>match Nat.beq s s'' with
             | true=>match Nat.ble n n' with
               | true=>match cbd hi env n n with
                 | some h=>fOwn (dropC [k] own) fun own'=>some ⟨.fz h s false z rows,own',ks⟩
                 | none=>none
               | false=>none
             | false=>none
           | false=>none
         | _=>none
       | _=>none
     | _=>none
   | _=>none
 | .cpy s x y=>match gx x env with
   | some (.vec k s' lo len)=>match gx y env with
     | some y=>match csrc own s y with
       | some (m,z',rows')=>match lk own k with
         | some (.vec n s'' z rows)=>match Nat.beq s s' with
           | true=>match Nat.beq s s'' with
             | true=>match Nat.ble m len with
               | true=>match Nat.ble (lo+m) n with
                 | true=>match sameL z z' with
                   | true=>match Nat.ble 1 m with
                     | true=>tk m rows' fun q=>stC rows lo q fun rows2=>upC k (.vec n s z rows2) own fun own'=>fN m fun m'=>some ⟨.int .i64 (.ofNat m'),own',ks⟩
                     | false=>none
                   | false=>none
                 | false=>none
               | false=>none
             | false=>none
           | false=>none
         | _=>none
       | none=>none
     | none=>none
   | _=>none
 | _=>none
theorem lastV_app (l:List V) (v:V):lastV (l++[v])=v:=by
 induction l with
 | nil=>rfl
 | cons x r ih =>
   cases r with
   | nil=>rfl
   | cons y r=>simpa[lastV] using ih
theorem mks_tabz (z:List C) (m:Nat):(fun(_:Nat) j=>(C.vs z).getD j default)=tabz (C.vs (z.append [.bool false])) (C.vss (List.replicate m z)):=by
 funext i j;have e:C.vs (z.append [.bool false])=C.vs z++[default]:=by rw[C.vs_map,C.vs_map];simp[C.v];rfl
 simp only[tabz,e,lastV_app];simp only[List.getD_eq_getElem?_getD,C.vss_get,List.getElem?_replicate];by_cases h:i<m
 . simp[h]
 . simp only[h,if_false,Option.map_none,Option.getD_none];by_cases h2:j<(C.vs z).length
   . rw[List.getElem?_append_left h2]
   . rw[List.getElem?_append_right (by omega),List.getElem?_eq_none (by omega)];cases j-(C.vs z).length<;>simp
theorem cxop_ok {o:XOp} {env:CEnv} {own:COwn} {ks:Nat} {r:R} {K:V->Own->List Nat->Prop} (h:cxop o env own ks=some r) (hK:K r.v.v (ownV r.o) (ksV r.k)):vxop o (envV env) (ownV own) (ksV ks) K:=by
 cases o with
 | mks s bytes zs x =>
   simp only[cxop] at h;split at h
   case h_2=>cases h
   rename_i k m hx;split at h
   case h_2=>cases h
   rename_i h1;split at h
   case h_2=>cases h
   rename_i h2;split at h
   case h_2=>cases h
   rename_i zc hz;have hzs:=ofVs_ok zs hz;subst hzs;simp only[vxop];refine gx_ok hx ?_;simp only[C.v];refine⟨m,rfl,Nat.le_of_ble_eq_true h1,Nat.le_of_ble_eq_true h2,?_⟩;obtain⟨h,b1⟩:=frC_ok h;refine b1 _ ?_;unfold mksK;split
   . split at h
     . split at h
       . rename_i hs _ _;rw[fL_eq,repl_eq] at h;cases h;refine .cells ?_;have e1:(C.vs [C.nilslice]).getD 0 default=.nilslice:=by simp[C.vs,C.v]
         rw[e1];have e2:C.vs (List.replicate m C.nilslice)=List.replicate m .nilslice:=by rw[C.vs_map,List.map_replicate];simp[C.v]
         simp only[C.v,ownV,List.map_cons,CB.b,e2] at hK;exact hK
       . rw[fL_eq,repl_eq,fL_eq] at h;cases h;refine .vec ?_;rw[mks_tabz zc m];simpa[C.v,ownV,CB.b] using hK
     . rename_i hne;exact(hne rfl).elim
   . rename_i hne;split at h
     . exact(hne rfl).elim
     . rw[fL_eq,repl_eq,fL_eq] at h;cases h;rw[mks_tabz zc m];simpa[C.v,ownV,CB.b] using hK
 | mkmap ik =>
   simp only[cxop] at h;split at h
   . obtain⟨h,b1⟩:=frC_ok h;cases h;simp only[vxop];exact b1 _ (by simpa[C.v,ownV,CB.b] using hK)
   . obtain⟨h,b1⟩:=frC_ok h;cases h;simp only[vxop];exact b1 _ (by simpa[C.v,ownV,CB.b] using hK)
   . cases h
   . cases h
 | mget ik z comma m x =>
   simp only[cxop] at h;split at h
   case h_2=>cases h
   rename_i k hm;split at h
   case h_2=>cases h
   rename_i x' hx;simp only[vxop];refine gx_ok hm (gx_ok hx ?_);split at h
   . rename_i ik' es hl;split at h
     . rename_i i;split at h
       . rename_i hk;have:=kEq_ok hk;subst this;split at h
         . rename_i i' a;split at h
           . rename_i hk2;have:=kEq_ok hk2;subst this;simp only[C.v,mapK,look_ownV hl,CB.b,decide_true,pairK];have:=getC_ok h hK (mfI_ok (ik:=i') es a);cases comma<;>exact this
           . cases h
         . cases h
       . cases h
     . cases h
   . rename_i es hl;split at h
     . split at h
       . rename_i l d;simp only[C.v,mapK,look_ownV hl,CB.b,decide_true,pairK];have:=getC_ok h hK (mfS_ok es l d);cases comma<;>exact this
       . cases h
     . cases h
   . cases h
 | mput ik m x y =>
   simp only[cxop] at h;split at h
   case h_2=>cases h
   rename_i k hm;split at h
   case h_2=>cases h
   rename_i x' hx;split at h
   case h_2=>cases h
   rename_i y' hy;split at h
   case h_2=>cases h
   rename_i hkf;have hkf':y'.v.kf2=true:=by rw[kf2C_eq];exact hkf
   simp only[vxop];refine gx_ok hm (gx_ok hx (gx_ok hy ?_));split at h
   . rename_i ik' es hl;split at h
     . rename_i i;split at h
       . rename_i hk;have:=kEq_ok hk;subst this;split at h
         . rename_i i' a;split at h
           . rename_i hk2;have:=kEq_ok hk2;subst this;rw[fL_eq] at h;obtain⟨o',c1,c2⟩:=upC_ok h;cases c1;simp only[C.v,mapK,look_ownV hl,CB.b,decide_true,pairK,hkf'];have:=c2 (fun own=>K (.raw (.tuple #[])) own (ksV ks)) (by simpa[C.v] using hK);simp only[CB.b] at this;have e:=mpI_ok (ik:=i') es a y';rw[e];exact this
           . cases h
         . cases h
       . cases h
     . cases h
   . rename_i es hl;split at h
     . split at h
       . rename_i l d;rw[fL_eq] at h;obtain⟨o',c1,c2⟩:=upC_ok h;cases c1;simp only[C.v,mapK,look_ownV hl,CB.b,decide_true,pairK,hkf'];have:=c2 (fun own=>K (.raw (.tuple #[])) own (ksV ks)) (by simpa[C.v] using hK);simp only[CB.b] at this;have e:=mpS_ok es l d y';rw[e];exact this
       . cases h
     . cases h
   . cases h
 | mrng x=>cases h
 | mnxt x=>cases h
 | ment x=>cases h
 | gix g n s x=>cases h
 | mln x=>cases h
 | asl n s x hi =>
   simp only[cxop] at h;split at h
   case h_2=>cases h
   rename_i k s' i j hx;split at h
   case h_2=>cases h
   split at h
   case h_2=>cases h
   split at h
   case h_2=>cases h
   rename_i n' s'' z rows hl;split at h
   case h_2=>cases h
   rename_i h1;split at h
   case h_2=>cases h
   rename_i h2;split at h
   case h_2=>cases h
   rename_i h3;split at h
   case h_2=>cases h
   rename_i m hm;rw[fOwn_eq] at h;cases h;simp only[vxop];refine gx_ok hx ?_;simp only[C.v,look_ownV hl,CB.b,h1,h2,h3];refine cbd_ok hm ?_;rw[dropC_eq];simpa[C.v] using hK
 | cpy s x y =>
   simp only[cxop] at h;split at h
   case h_2=>cases h
   rename_i k s' lo len hx;split at h
   case h_2=>cases h
   rename_i y' hy;split at h
   case h_2=>cases h
   rename_i m z' rows' hsrc;split at h
   case h_2=>cases h
   rename_i n s'' z rows hl;split at h
   case h_2=>cases h
   rename_i h1;split at h
   case h_2=>cases h
   rename_i h2;split at h
   case h_2=>cases h
   rename_i h3;split at h
   case h_2=>cases h
   rename_i h4;split at h
   case h_2=>cases h
   rename_i hz;split at h
   case h_2=>cases h
   rename_i h6;have h6:=Nat.le_of_ble_eq_true h6;simp only[vxop];refine gx_ok hx (gx_ok hy ?_);unfold vcpy;refine csrc_ok hsrc ?_;simp only[C.v,look_ownV hl,CB.b,h1,h2];have e1:=Nat.eq_of_beq_eq_true h1;subst e1;refine⟨Nat.le_of_ble_eq_true h3,Nat.le_of_ble_eq_true h4,?_⟩;rw[tk_eq] at h;split at h
   . rename_i h7;obtain⟨rows2,g1,g2,g3,g4,g5⟩:=stC_ok _ _ _ _ _ h;obtain⟨o',c1,c2⟩:=upC_ok g1;rw[fN_eq] at c1;cases c1;have hl:(rows'.take m).length=m:=by simp;omega
     have g3:=g3 (fun e=>by rw[e] at hl;simp at hl;omega);rw[hl] at g3 g4;rw[fput_tabz g3 h7 (sameL_ok hz)];have:=c2 (fun own'=>K (.int .i64 m) own' (ksV ks)) (by simpa[C.v] using hK);simp only[CB.b,g4] at this;exact this
   . cases h
def unitC:C->Bool
 | .unit=>false
 | _=>true
noncomputable def litRC:C->Bool
 | .tup vs=>allC unitC vs
 | v=>unitC v
theorem litK_ok {c:C} {K:V->Prop} (h:unitC c=true) (hK:K c.v):litK c.v K:=by
 cases c<;>simp only[unitC,reduceCtorEq] at h<;>simp only[C.v] at hK<;>simp only[C.v,litK]<;>first|exact hK|exact cmp_ok hK
theorem litL_ok:∀{l:List C} {K:List V->Prop},allC unitC l=true->K (C.vs l)->litL (C.vs l) K
 | [],K,_,hK=>by simpa[litL,C.vs] using hK
 | c::r,K,h,hK=>by
   rw[allC_cons,Bool.and_eq_true] at h;simp only[C.vs,litL];exact litK_ok h.1 (litL_ok h.2 (by simpa[C.vs] using hK))
theorem litR_ok {c:C} {K:V->Prop} (h:litRC c=true) (hK:K c.v):litR c.v K:=by
 by_cases ht:∃vs,c=.tup vs
 . obtain⟨vs,rfl⟩:=ht;simp only[C.v,litR];exact litL_ok h (by simpa[C.v] using hK)
 . have hu:unitC c=true:=by
    cases c<;>first|exact h|exact(ht ⟨_,rfl⟩).elim
   have:=litK_ok hu hK;cases c<;>first|exact(ht ⟨_,rfl⟩).elim|(simp only[C.v] at this ⊢;simp only[litR];exact this)
abbrev CallT:=FuncId->List C->COwn->Nat->Option R
structure CallOk (P:Program) (call:CallT):Prop where
 out:∀f args own ks r,call f args own ks=some r->callable P f=true/\∀K:V->Own->List Nat->Prop,K r.v.v (ownV r.o) (ksV r.k)->CallF P f (C.vs args) (ownV own) (ksV ks) K
noncomputable def docall (call:CallT) (f:FuncId) (args:List C) (own:COwn) (ks:Nat):Option R:=match call f args own ks with
 | some r=>match litRC r.v with|true=>some r|false=>none
 | none=>none
noncomputable def o_p (b:Bool) (o:POp) (env:CEnv) (own:COwn) (ks:Nat):Option R:=match o with
 | .slc s x lo hi mx same=>match mx with
   | none=>mkR (cslc (match b with|true=>own|false=>[]) s x lo hi env) own ks
   | some mx=>match hi with
     | some hi=>mkR (cslc3 s x lo hi mx same env) own ks
     | none=>none
 | o=>mkR (cpure o env) own ks
noncomputable def o_load (sz:Option Nat) (x:X) (env:CEnv) (own:COwn) (ks:Nat):Option R:=match gx x env with
 | some p=>mkR (cload own sz p) own ks
 | none=>none
noncomputable def o_store (sz:Nat) (a:X) (x:X) (env:CEnv) (own:COwn) (ks:Nat):Option R:=match gx a env with
 | some p=>match gx x env with
   | some v=>cstoreF own sz p v fun own'=>some ⟨.unit,own',ks⟩
   | none=>none
 | none=>none
noncomputable def o_asg (x:X) (env:CEnv) (own:COwn) (ks:Nat):Option R:=mkR (gx x env) own ks
noncomputable def o_call (call:CallT) (f:FuncId) (args:List X) (env:CEnv) (own:COwn) (ks:Nat):Option R:=match gxs env args with
 | some vs=>docall call f vs own ks
 | none=>none
noncomputable def o_callv (call:CallT) (x:X) (args:List X) (env:CEnv) (own:COwn) (ks:Nat):Option R:=match gx x env with
 | some (.fn (.func g) bd cap)=>match gxs env args with
   | some vs=>match bd with
     | true=>fL (List.append cap vs) fun l=>docall call g l own ks
     | false=>fL (List.append vs cap) fun l=>docall call g l own ks
   | none=>none
 | _=>none
noncomputable def o_build (zs:List V) (ps:List (Nat×Nat×X)) (env:CEnv) (own:COwn) (ks:Nat):Option R:=match ofVs zs with
 | some zc=>match cfill env ps zc with
   | some cs=>some ⟨.agg cs,own,ks⟩
   | none=>none
 | none=>none
noncomputable def o_alloc (zs:List V) (env:CEnv) (own:COwn) (ks:Nat):Option R:=match ofVs zs with
 | some zc=>frC ks fun k ks=>some ⟨.loc k 0,(k,.cells zc)::own,ks⟩
 | none=>none
noncomputable def o_box (x:X) (env:CEnv) (own:COwn) (ks:Nat):Option R:=match gx x env with
 | some v=>match cellsC v with
   | some cs=>frC ks fun k ks=>some ⟨.loc k 0,(k,.cells cs)::own,ks⟩
   | none=>none
 | none=>none
noncomputable def o_bslice (s:Nat) (n:Nat) (xs:List X) (env:CEnv) (own:COwn) (ks:Nat):Option R:=match gxs env xs with
 | some vs=>match allC kf2C vs with
   | true=>match crows s vs with
     | some rs=>frC ks fun k ks=>some ⟨.vec k s 0 n,(k,.vec n s [] rs)::own,ks⟩
     | none=>none
   | false=>match cflat s vs with
     | some cs=>frC ks fun k ks=>some ⟨.vec k s 0 n,(k,.cells cs)::own,ks⟩
     | none=>none
 | none=>none
noncomputable def o_app (s:Nat) (bytes:Nat) (x:X) (y:X) (env:CEnv) (own:COwn) (ks:Nat):Option R:=match gx x env with
 | some a=>match gx y env with
   | some c=>cappF own ks s bytes a c
   | none=>none
 | none=>none
noncomputable def o_xt (o:XOp) (env:CEnv) (own:COwn) (ks:Nat):Option R:=cxop o env own ks
noncomputable def o_alloca (n:Nat) (z:V) (_:CEnv) (own:COwn) (ks:Nat):Option R:=match ofV0 z with
 | some c=>frC ks fun k ks=>fL (repl n [c]) fun l=>some ⟨.oel k 1 0 0,(k,.vec n 1 [c] l)::own,ks⟩
 | none=>none
theorem alloca_tabz (z:C) (m:Nat):(fun(_ _:Nat)=>z.v)=tabz (C.vs [z]) (C.vss (List.replicate m [z])):=by
 funext i j;simp only[tabz,C.vs,lastV];simp only[List.getD_eq_getElem?_getD,C.vss_get,List.getElem?_replicate];by_cases h:i<m
 . cases j<;>simp[h,C.vs]
 . cases j<;>simp[h]
noncomputable def cop (call:CallT) (b:Bool) (op:SOp) (env:CEnv) (own:COwn) (ks:Nat):Option R :=
 match op with
 | .p o=>o_p b o env own ks
 | .load sz x=>o_load sz x env own ks
 | .store sz a x=>o_store sz a x env own ks
 | .asg x=>o_asg x env own ks
 | .call f args=>o_call call f args env own ks
 | .callv x args=>o_callv call x args env own ks
 | .build zs ps=>o_build zs ps env own ks
 | .alloc zs=>o_alloc zs env own ks
 | .box x=>o_box x env own ks
 | .bslice s n xs=>o_bslice s n xs env own ks
 | .app s bytes x y=>o_app s bytes x y env own ks
 | .xt o=>o_xt o env own ks
 | .clr _ _ _=>none
 | .alloca n z=>o_alloca n z env own ks
def vopB (b:Bool) (P:Program) (op:SOp) (env:Env) (own:Own) (ks:List Nat) (K:V->Own->List Nat->Prop):Prop :=
 match b with
 | true=>vopO P op env own ks K
 | false=>vop P op env own ks K
theorem vopB_of {b:Bool} {P:Program} {op:SOp} {env:Env} {own:Own} {ks:List Nat} {K:V->Own->List Nat->Prop} (hne:∀s x lo hi mx same,op≠.p (.slc s x lo hi mx same)) (h:vop P op env own ks K):vopB b P op env own ks K:=by
 cases b with
 | false=>exact h
 | true =>
   show vopO P op env own ks K;unfold vopO;split
   . exact(hne _ _ _ _ _ _ rfl).elim
   . exact h
theorem docall_ok {P:Program} {call:CallT} (hcall:CallOk P call) {f:FuncId} {args:List C} {own:COwn} {ks:Nat} {r:R} {K:V->Own->List Nat->Prop} (h:docall call f args own ks=some r) (hK:K r.v.v (ownV r.o) (ksV r.k)) :
 callable P f=true/\CallF P f (C.vs args) (ownV own) (ksV ks) fun v own ks=>litR v fun v=>K v own ks:=by
 unfold docall at h;split at h
 . rename_i r' hr;split at h
   . rename_i hl;cases h;obtain⟨a,b⟩:=hcall.out _ _ _ _ _ hr;exact⟨a,b _ (litR_ok hl hK)⟩
   . cases h
 . cases h
theorem cop_ok {P:Program} {call:CallT} (hcall:CallOk P call) {b:Bool} {op:SOp} {env:CEnv} {own:COwn} {ks:Nat} {r:R} {K:V->Own->List Nat->Prop} (h:cop call b op env own ks=some r) (hK:K r.v.v (ownV r.o) (ksV r.k)) :
 vopB b P op (envV env) (ownV own) (ksV ks) K:=by
 cases op with
 | p o =>
   simp only[cop,o_p] at h;split at h
   . split at h
     . rename_i s x lo hi mx same _;obtain⟨h1,h2,h3⟩:=mkR_ok h;rw[h2,h3] at hK;cases b with
       | true =>
         simp only[vopB,vopO];exact cslc_ok h1 hK
       | false =>
         simp only[vopB,vop,vpure];exact cslc_ok (own:=[]) h1 hK
     . split at h
       . obtain⟨h1,h2,h3⟩:=mkR_ok h;rw[h2,h3] at hK;cases b with
         | true=>simp only[vopB,vopO];exact cslc3_ok h1 hK
         | false=>simp only[vopB,vop,vpure];exact cslc3_ok h1 hK
       . cases h
   . rename_i hne;obtain⟨h1,h2,h3⟩:=mkR_ok h;rw[h2,h3] at hK;refine vopB_of (fun s x lo hi mx same e=>?_) ?_
     . cases e;exact hne _ _ _ _ _ _ rfl
     . simp only[vop];exact cpure_ok h1 hK
 | load sz x =>
   refine vopB_of (fun _ _ _ _ _ _ e=>by cases e) ?_;simp only[cop,o_load] at h;split at h
   . rename_i p hp;obtain⟨h1,h2,h3⟩:=mkR_ok h;rw[h2,h3] at hK;simp only[vop];exact gx_ok hp (cload_ok h1 hK)
   . cases h
 | store sz a x =>
   refine vopB_of (fun _ _ _ _ _ _ e=>by cases e) ?_;simp only[cop,o_store] at h;split at h
   . rename_i p hp;split at h
     . rename_i v hv;obtain⟨o',c1,c2⟩:=cstoreF_ok h;cases c1;simp only[vop];exact gx_ok hp (gx_ok hv (c2 _ (by simpa[C.v] using hK)))
     . cases h
   . cases h
 | asg x =>
   refine vopB_of (fun _ _ _ _ _ _ e=>by cases e) ?_;simp only[cop,o_asg] at h;obtain⟨h1,h2,h3⟩:=mkR_ok h;rw[h2,h3] at hK;simp only[vop];exact gx_ok h1 hK
 | call f args =>
   refine vopB_of (fun _ _ _ _ _ _ e=>by cases e) ?_;simp only[cop,o_call] at h;split at h
   . rename_i vs hvs;simp only[vop];exact gxs_ok hvs (docall_ok hcall h hK).2
   . cases h
 | callv x args =>
   refine vopB_of (fun _ _ _ _ _ _ e=>by cases e) ?_;simp only[cop,o_callv] at h;split at h
   . rename_i g bd cap hx;split at h
     . rename_i vs hvs;simp only[vop];refine gx_ok hx (gxs_ok hvs ?_);simp only[C.v,vcall];cases bd with
       | true =>
         simp only at h;rw[fL_eq] at h;obtain⟨a1,a2⟩:=docall_ok hcall h hK;refine⟨a1,?_⟩;have e:C.vs (cap.append vs)=C.vs cap++C.vs vs:=by rw[C.vs_map,C.vs_map,C.vs_map];simp
         rw[e] at a2;exact a2
       | false =>
         simp only at h;rw[fL_eq] at h;obtain⟨a1,a2⟩:=docall_ok hcall h hK;refine⟨a1,?_⟩;have e:C.vs (vs.append cap)=C.vs vs++C.vs cap:=by rw[C.vs_map,C.vs_map,C.vs_map];simp
         rw[e] at a2;exact a2
     . cases h
   . cases h
 | build zs ps =>
   refine vopB_of (fun _ _ _ _ _ _ e=>by cases e) ?_;simp only[cop,o_build] at h;split at h
   . rename_i zc hz;have:=ofVs_ok zs hz;subst this;split at h
     . rename_i cs hcs;cases h;simp only[vop];exact cfill_ok hcs (by simpa[C.v] using hK)
     . cases h
   . cases h
 | alloc zs =>
   refine vopB_of (fun _ _ _ _ _ _ e=>by cases e) ?_;simp only[cop,o_alloc] at h;split at h
   . rename_i zc hz;have:=ofVs_ok zs hz;subst this;obtain⟨h,b1⟩:=frC_ok h;cases h;simp only[vop];exact b1 _ (by simpa[C.v,ownV,CB.b] using hK)
   . cases h
 | box x =>
   refine vopB_of (fun _ _ _ _ _ _ e=>by cases e) ?_;simp only[cop,o_box] at h;split at h
   . rename_i v hv;split at h
     . rename_i cs hcs;obtain⟨h,b1⟩:=frC_ok h;cases h;simp only[vop];exact gx_ok hv (cellsC_ok hcs (b1 _ (by simpa[C.v,ownV,CB.b] using hK)))
     . cases h
   . cases h
 | bslice s n xs =>
   refine vopB_of (fun _ _ _ _ _ _ e=>by cases e) ?_;simp only[cop,o_bslice] at h;split at h
   . rename_i vs hvs;simp only[vop];refine gxs_ok hvs ?_;rw[allB_vs kf2C_eq];split at h
     . rename_i hk;simp only[hk];split at h
       . rename_i rs hrs;obtain⟨h,b1⟩:=frC_ok h;cases h;refine crows_ok hrs (b1 _ ?_);simpa[C.v,ownV,CB.b,C.vs,tab_tabz] using hK
       . cases h
     . rename_i hk;simp only[hk];split at h
       . rename_i cs hcs;obtain⟨h,b1⟩:=frC_ok h;cases h;refine cflat_ok hcs (b1 _ ?_);simpa[C.v,ownV,CB.b] using hK
       . cases h
   . cases h
 | app s bytes x y =>
   refine vopB_of (fun _ _ _ _ _ _ e=>by cases e) ?_;simp only[cop,o_app] at h;split at h
   . rename_i a ha;split at h
     . rename_i c hc;simp only[vop];exact gx_ok ha (gx_ok hc (cappF_ok h hK))
     . cases h
   . cases h
 | xt o =>
   refine vopB_of (fun _ _ _ _ _ _ e=>by cases e) ?_;simp only[cop,o_xt] at h;simp only[vop];exact cxop_ok h hK
 | clr s zs x=>cases h
 | alloca n z =>
   refine vopB_of (fun _ _ _ _ _ _ e=>by cases e) ?_;simp only[cop,o_alloca] at h;split at h
   . rename_i c hc;have:=ofV0_ok hc;subst this;obtain⟨h,b1⟩:=frC_ok h;rw[fL_eq,repl_eq] at h;cases h;simp only[vop];refine b1 _ ?_;rw[alloca_tabz c n];simpa[C.v,ownV,CB.b] using hK
   . cases h
end Go.Eng
