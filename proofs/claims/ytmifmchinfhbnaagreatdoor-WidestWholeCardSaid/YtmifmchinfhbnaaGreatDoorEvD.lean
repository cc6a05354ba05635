import Derived.Test.YtmifmchinfhbnaaGreatDoorEvB
namespace Go.Eng
def X1M:C->Bool
 | .agg _ | .tup _ | .unit=>false
 | _=>true
theorem Q4K (c:C):c.v.cellB=X1M c:=by cases c<;>simp[C.v,V.cellB,X1M]
noncomputable def J8S (p:C->Bool) (l:List C):Bool:=@List.rec C (fun _=>Bool) true (fun c _ ih=>@Bool.rec (fun _=>Bool) false ih (p c)) l
theorem Q1V (p:C->Bool) (c:C) (r:List C):J8S p (c::r)=(p c&&J8S p r):=by
 show @Bool.rec (fun _=>Bool) false (J8S p r) (p c)=_;cases p c<;>rfl
theorem J3a {q:V->Bool} {p:C->Bool} (h:∀c,q c.v=p c):∀(l:List C),J2L q (C.vs l)=J8S p l
 | []=>rfl
 | c::r=>by
   rw[Q1V];simp only[C.vs,J2L,h,J3a h r];cases p c<;>rfl
def Q9I:C->Bool
 | .bool _ | .int _ _ | .str _ _ | .nilptr | .nilslice | .nilmap | .nilfunc | .niliface | .fz _ _ _ _ _ | .fe _ _ _ _ _ _ | .unit=>true
 | _=>false
theorem J9C (c:C):c.v.kf1=Q9I c:=by cases c<;>simp[C.v,V.kf1,Q9I]
noncomputable def Q5X:C->Bool
 | .agg cs=>J8S Q9I cs
 | .iface _ v=>Q9I v
 | .fn _ _ cap=>J8S Q9I cap
 | v=>Q9I v
theorem J65 (c:C):c.v.kf2=Q5X c:=by
 cases c<;>simp[C.v,V.kf2,Q5X,J3a J9C,J9C]<;>simp[V.kf1,Q9I]
noncomputable def ln {α:Type} (l:List α):Nat:=@List.rec α (fun _=>Nat) 0 (fun _ _ ih=>Nat.succ ih) l
theorem X0T {α:Type} (l:List α):ln l=l.length:=by
 induction l with
 | nil=>rfl
 | cons x r ih=>show Nat.succ (ln r)=_;rw[ih];rfl
def Q4I:C->Option (List C)
 | .agg cs=>some cs
 | .tup _ | .unit=>none
 | v=>some [v]
theorem J3p {v:C} {vs:List C} {K:List V->Prop} (h:Q4I v=some vs) (hK:K (C.vs vs)):v.v.cellsK K:=by
 cases v<;>first
  | (cases h;done)
  | (cases h;simp only[C.v];simp only[C.vs,C.v] at hK;exact hK)
  | (cases h;simp only[C.v];exact hK)
noncomputable def J7z (sz:Nat) (v:C):Option (List C):=match Q4I v with
 | some vs=>match Nat.beq (ln vs) sz with
   | true=>match J8S X1M vs with|true=>some vs|false=>none
   | false=>none
 | none=>none
theorem J3X {sz:Nat} {v:C} {vs:List C} (h:J7z sz v=some vs):Q4I v=some vs/\vs.length=sz/\Nat.beq (C.vs vs).length sz=true/\J2L V.cellB (C.vs vs)=true:=by
 unfold J7z at h;split at h
 . rename_i vs' h1;split at h
   . rename_i h2;split at h
     . rename_i h3;cases h;rw[X0T] at h2;exact⟨h1,Nat.eq_of_beq_eq_true h2,by rw[C.vs_length];exact h2,by rw[J3a Q4K];exact h3⟩
     . cases h
   . cases h
 . cases h
theorem V.force_ok {v:V} {K:V->Prop} (h:K v):v.force K:=by cases v<;>exact h
theorem Q1u (g:Nat->V):∀(n j:Nat) (l:List V) (K:List V->Prop),l.length=n->(∀t,t<n->l[t]?=some (g (j+t)))->K l->J7g g j n K
 | 0,j,l,K,hl,_,h=>by
   have:l=[]:=List.length_eq_zero_iff.1 hl;subst this;exact h
 | n+1,j,[],K,hl,_,h=>by simp at hl
 | n+1,j,x::l,K,hl,hg,h=>by
   have h0:=hg 0 (by omega);simp at h0;subst h0;simp only[J7g];refine V.force_ok (Q1u g n (j+1) l _ (by simpa using hl) (fun t ht=>?_) h);have:=hg (t+1) (by omega);simp only[List.getElem?_cons_succ] at this;rw[this];congr 2;omega
theorem Q3y {z:List C} {rows:List (List C)} {i:Nat} {row:List C} (h:nt rows i=some row) (j:Nat):J4r (C.vs z) (C.vss rows) i j=(C.vs row).getD j (J3F (C.vs z)):=by
 rw[X0I,J5n] at h;simp[J4r,List.getD_eq_getElem?_getD,C.vss_get,h]
noncomputable def X8v (s:Nat) (rows:List (List C)) (sz:Option Nat) (i j:Nat):Option C:=match nt rows i with
 | some row=>match sz with
   | none=>match Nat.ble (Nat.succ j) s with|true=>nt row j|false=>none
   | some m=>match Nat.ble (j+m) s with|true=>Q29 row j m|false=>none
 | none=>none
def Q0H (s:Nat) (f:Nat->Nat->V) (i j:Nat) (K:V->Prop) (sz:Option Nat):Prop :=
 match sz with
 | none=>match Nat.ble (j+1) s with|true=>(f i j).force K|false=>False
 | some m=>match Nat.ble (j+m) s with|true=>J7g (f i) j m fun l=>K (.agg l)|false=>False
theorem Q6W {s:Nat} (z:List C) {rows:List (List C)} {sz:Option Nat} {i j:Nat} {c:C} {K:V->Prop} (h:X8v s rows sz i j=some c) (hK:K c.v):Q0H s (J4r (C.vs z) (C.vss rows)) i j K sz:=by
 unfold Q0H;unfold X8v at h;split at h
 . rename_i row hr;cases sz with
   | none =>
     simp only at h;split at h
     . rename_i hb;simp only[hb];refine V.force_ok ?_;rw[Q3y hr];rw[X0I,J5n] at h;simpa[List.getD_eq_getElem?_getD,C.vs_get,h] using hK
     . cases h
   | some m =>
     simp only at h;split at h
     . rename_i hb;simp only[hb];unfold Q29 at h;rw[X0d,J9O] at h;split at h
       . rename_i hl;cases h;simp only[C.v] at hK;refine Q1u _ _ _ _ _ ?_ (fun t ht=>?_) hK
         . rw[C.vs_length,List.length_take];omega
         . rw[Q3y hr,C.vs_get,List.getElem?_take,if_pos ht,List.getElem?_drop];simp only[List.length_drop] at hl;have hlt:j+t<row.length:=by omega
           simp[List.getD_eq_getElem?_getD,C.vs_get,hlt]
       . cases h
     . cases h
 . cases h
noncomputable def Q4D (own:J0E) (sz:Option Nat) (k off:Nat):Option C :=
 match lk own k with
 | some (.cells cs)=>match sz with
   | none=>nt cs off
   | some n=>Q29 cs off n
 | _=>none
theorem Q1H {own:J0E} {sz:Option Nat} {k off:Nat} {c:C} {K:V->Prop} (h:Q4D own sz k off=some c) (hK:K c.v):J76 (J0L own) sz k off K:=by
 unfold Q4D at h;unfold J76;split at h
 . rename_i cs hl;rw[J0y hl];simp only[CB.b];cases sz with
   | none=>simp only at h ⊢;rw[Q7t h];exact hK
   | some n=>simp only at h ⊢;exact Q9u h hK
 . cases h
noncomputable def J8K (own:J0E) (sz:Option Nat) (p:C):Option C :=
 match p with
 | .loc k off=>Q4D own sz k off
 | .oel k s i j=>match lk own k with
   | some (.vec n s' _ rows)=>match Nat.beq s s' with
     | true=>match Nat.blt i n with
       | true=>X8v s rows sz i j
       | false=>none
     | false=>none
   | some (.cells _)=>Q4D own sz k (i*s+j)
   | _=>none
 | .fe _ s _ rows i j=>X8v s rows sz i j
 | _=>none
theorem J7v {own:J0E} {sz:Option Nat} {p c:C} {K:V->Prop} (h:J8K own sz p=some c) (hK:K c.v):J3z (J0L own) sz p.v K:=by
 unfold J8K at h;split at h
 . simp only[C.v,J3z];exact Q1H h hK
 . rename_i k s i j;simp only[C.v,J3z];split at h
   . rename_i n s' z rows hl;rw[J0y hl];simp only[CB.b];split at h
     . rename_i hs;simp only[hs];split at h
       . rename_i hi;have:=Q6W z h hK;exact⟨Nat.le_of_ble_eq_true hi,by cases sz<;>exact this⟩
       . cases h
     . cases h
   . rename_i cs hl;rw[J0y hl];simp only[CB.b];exact Q1H h hK
   . cases h
 . rename_i n s z rows i j;have:=Q6W z h hK;simp only[C.v,J3z];cases sz<;>exact this
 . cases h
noncomputable def Y0v (c:C):Option C:=match c with
 | .unit=>none
 | c=>some c
theorem X4M {c d:C} {K:V->Prop} (h:Y0v c=some d) (hK:K d.v):X0V c.v K:=by
 cases c<;>simp only[Y0v,Option.some.injEq,reduceCtorEq] at h<;>subst h<;>simp only[C.v] at hK<;>simp only[C.v,X0V]<;>first|exact hK|exact Q1G hK
noncomputable def X5C (own:J0E) (sz:Option Nat) (p:C):Option C:=match J8K own sz p with
 | some c=>Y0v c
 | none=>none
theorem X1J {own:J0E} {sz:Option Nat} {p c:C} {K:V->Prop} (h:X5C own sz p=some c) (hK:K c.v):X3I (J0L own) sz p.v K:=by
 unfold X5C at h;split at h
 . rename_i d hd;exact J7v hd (X4M h hK)
 . cases h
noncomputable def stC {α β:Type} (l:List α):Nat->List α->(List α->Option β)->Option β :=
 @List.rec α (fun _=>Nat->List α->(List α->Option β)->Option β)
  (fun _ vs K=>match vs with|[]=>K []|_::_=>none)
  (fun x r ih o vs K=>match vs with
    | []=>K (x::r)
    | v::vs=>@Nat.rec (fun _=>Option β) (ih 0 vs fun l=>K (v::l)) (fun o _=>ih o (v::vs) fun l=>K (x::l)) o) l
theorem J5I {α β:Type}:∀(l:List α) (o:Nat) (vs:List α) (K:List α->Option β) (out:β),stC l o vs K=some out ->
 ∃l',K l'=some out/\l'.length=l.length/\(vs≠[]->o+vs.length<=l.length)/\l'=l.take o++vs++l.drop (o+vs.length)/\∀{γ:Type} (f:α->γ) (Kp:List γ->Prop),Kp (l'.map f)->X6c (l.map f) o (vs.map f) Kp
 | [],o,[],K,out,h=>⟨[],h,rfl,fun h=>(h rfl).elim,by simp,fun f Kp hK=>by cases o<;>exact hK⟩
 | [],o,v::vs,K,out,h=>by cases h
 | x::r,o,[],K,out,h=>⟨x::r,h,rfl,fun h=>(h rfl).elim,by simp,fun f Kp hK=>by cases o<;>exact hK⟩
 | x::r,0,v::vs,K,out,h=>by
   obtain⟨l',a1,a2,a3,a4,a5⟩:=J5I r 0 vs (fun l=>K (v::l)) out h;refine⟨v::l',a1,by simp[a2],fun _=>?_,by rw[a4];simp[Nat.add_comm],fun f Kp hK=>a5 f _ (by simpa using hK)⟩;cases vs with
   | nil=>simp
   | cons y ys=>have:=a3 (by simp);simp at this ⊢;omega
 | x::r,o+1,v::vs,K,out,h=>by
   obtain⟨l',a1,a2,a3,a4,a5⟩:=J5I r o (v::vs) (fun l=>K (x::l)) out h;refine⟨x::l',a1,by simp[a2],fun _=>by have:=a3 (by simp);simp at this ⊢;omega,?_,fun f Kp hK=>a5 f _ (by simpa using hK)⟩;rw[a4];simp[show o+1+(vs.length+1)=o+(vs.length+1)+1 by omega]
noncomputable def upC {β:Type} (t:Nat) (x:CB) (l:J0E):(J0E->Option β)->Option β :=
 @List.rec (Nat×CB) (fun _=>(J0E->Option β)->Option β) (fun K=>K [])
  (fun p r ih K=>@Prod.rec Nat CB (fun _=>Option β) (fun k v=>@Bool.rec (fun _=>Option β) (ih fun r'=>K ((k,v)::r')) (K ((k,x)::r)) (Nat.beq k t)) p) l
theorem J6x {β:Type} {t:Nat} {x:CB}:∀{l:J0E} {K:J0E->Option β} {out:β},upC t x l K=some out ->
 ∃l',K l'=some out/\∀Kp:Own->Prop,Kp (J0L l')->Q1Z t x.b (J0L l) Kp
 | [],K,out,h=>⟨[],h,fun Kp hK=>hK⟩
 | (k,v)::r,K,out,h=>by
   have h:@Bool.rec (fun _=>Option β) (upC t x r fun r'=>K ((k,v)::r')) (K ((k,x)::r)) (Nat.beq k t)=some out:=h;cases hb:Nat.beq k t with
   | true =>
     rw[hb] at h;exact⟨_,h,fun Kp hK=>by simp only[J0L,List.map_cons,Q1Z,hb];exact hK⟩
   | false =>
     rw[hb] at h;obtain⟨l',a1,a2⟩:=J6x (K:=fun r'=>K ((k,v)::r')) h;exact⟨_,a1,fun Kp hK=>by simp only[J0L,List.map_cons,Q1Z,hb];exact a2 _ hK⟩
noncomputable def deC {β:Type} (t:Nat) (l:J0E):(J0E->Option β)->Option β :=
 @List.rec (Nat×CB) (fun _=>(J0E->Option β)->Option β) (fun K=>K [])
  (fun p r ih K=>@Prod.rec Nat CB (fun _=>Option β) (fun k v=>@Bool.rec (fun _=>Option β) (ih fun r'=>K ((k,v)::r')) (K r) (Nat.beq k t)) p) l
theorem Q8Q {β:Type} {t:Nat}:∀{l:J0E} {K:J0E->Option β} {out:β},deC t l K=some out ->
 ∃l',K l'=some out/\∀Kp:Own->Prop,Kp (J0L l')->X1D t (J0L l) Kp
 | [],K,out,h=>⟨[],h,fun Kp hK=>hK⟩
 | (k,v)::r,K,out,h=>by
   have h:@Bool.rec (fun _=>Option β) (deC t r fun r'=>K ((k,v)::r')) (K r) (Nat.beq k t)=some out:=h;cases hb:Nat.beq k t with
   | true =>
     rw[hb] at h;exact⟨_,h,fun Kp hK=>by simp only[J0L,List.map_cons,X1D,hb];exact hK⟩
   | false =>
     rw[hb] at h;obtain⟨l',a1,a2⟩:=Q8Q (K:=fun r'=>K ((k,v)::r')) h;exact⟨_,a1,fun Kp hK=>by simp only[J0L,List.map_cons,X1D,hb];exact a2 _ hK⟩
theorem Q3z (rows:List (List V)):tab rows=J4r [] rows:=rfl
noncomputable def Q9d (own:J0E) (v:C):Option C :=
 match v with
 | .vec k s lo len=>match lk own k with
   | some (.vec n s' z rows)=>match Nat.beq s s' with
     | true=>match Nat.ble (lo+len) n with
       | true=>fH (dr rows lo) fun q=>some (.fz len s false z q)
       | false=>none
     | false=>none
   | _=>none
 | v=>match Q5X v with
   | true=>some v
   | false=>none
theorem J9X {own:J0E} {v c:C} {K:V->Prop} (h:Q9d own v=some c) (hK:K c.v):Q5Z (J0L own) v.v K:=by
 have other:(∀k s lo len,v≠.vec k s lo len)->Q5X v=true->K v.v->Q5Z (J0L own) v.v K:=by
  intro hne hk hK;have:=J65 v;rw[hk] at this;cases v<;>first
   | exact(hne _ _ _ _ rfl).elim
   | (simp only[C.v] at this hK ⊢
      simp only[Q5Z,this];exact hK)
 unfold Q9d at h;split at h
 . rename_i k s lo len;simp only[C.v,Q5Z];split at h
   . rename_i n s' z rows hl;rw[J0y hl];simp only[CB.b];split at h
     . rename_i hs;simp only[hs];split at h
       . rename_i hle;refine⟨Nat.le_of_ble_eq_true hle,?_⟩;rw[X1l] at h;cases h;rw[J2Q];simp only[C.v,J9O] at hK;exact hK
       . cases h
     . cases h
   . cases h
 . rename_i hne;split at h
   . rename_i hk;cases h;exact other hne hk hK
   . cases h
noncomputable def Q1N (own:J0E):List C->Option (List C)
 | []=>some []
 | v::r=>match Q9d own v with
   | some c=>match Q1N own r with
     | some l=>some (c::l)
     | none=>none
   | none=>none
theorem Q1M {own:J0E}:∀{l cs:List C} {K:List V->Prop},Q1N own l=some cs->K (C.vs cs)->Q1Q (J0L own) (C.vs l) K
 | [],cs,K,h,hK=>by simp only[Q1N,Option.some.injEq] at h;subst h;simpa[C.vs,Q1Q] using hK
 | v::r,cs,K,h,hK=>by
   unfold Q1N at h;split at h
   . rename_i c hc;split at h
     . rename_i l hl;cases h;simp only[C.vs,Q1Q];exact J9X hc (Q1M hl (by simpa[C.vs] using hK))
     . cases h
   . cases h
theorem Q4E (s:Nat):∀(n:Nat) (l:List C),J4G s n (C.vs l)=C.vss (J4G s n l)
 | 0,l=>by simp[J4G,C.vss]
 | n+1,l=>by
   simp only[J4G,C.vss];rw[<- Q4E s n,C.vs_map,C.vs_map,C.vs_map];simp
noncomputable def X1O (own:J0E) (v:C):Option C :=
 match v with
 | .vec k s 0 len=>match lk own k with
   | some (.cells cs)=>match Nat.beq (len*s) (ln cs) with
     | true=>match J8S X1M cs with
       | true=>match Q1N own cs with
         | some cs'=>some (.fz len s false [] (J4G s len cs'))
         | none=>none
       | false=>none
     | false=>none
   | _=>Q9d own (.vec k s 0 len)
 | v=>Q9d own v
theorem Q4M {own:J0E} {v c:C} {K:V->Prop} (h:X1O own v=some c) (hK:K c.v):Q9J (J0L own) v.v K:=by
 unfold X1O at h;split at h
 . rename_i k s len;split at h
   . rename_i cs hl;split at h
     . rename_i hlen;split at h
       . rename_i hc;split at h
         . rename_i cs' hcs;cases h;have hlen:=Nat.eq_of_beq_eq_true hlen;rw[X0T] at hlen;have hcb:J2L V.cellB (C.vs cs)=true:=by rw[J3a Q4K];exact hc
           have hK':Q1Q (J0L own) (C.vs cs) fun cs'=>K (.fz len s false (tab (J4G s len cs'))):=by
            refine Q1M hcs ?_;rw[Q4E,Q3z];simpa[C.v,C.vs] using hK
           by_cases h1:s=1
           . subst h1;simp only[C.v,Q9J,J0y hl,CB.b,hcb];have e:Nat.beq len (C.vs cs).length=true:=by rw[C.vs_length,<- hlen];simp
             simp only[e];exact hK'
           . have e:Nat.beq (len*s) (C.vs cs).length=true:=by rw[C.vs_length,<- hlen];simp
             simp only[C.v];unfold Q9J;split
             . rename_i e1;cases e1;exact(h1 rfl).elim
             . rename_i e1;cases e1;rw[J0y hl];simp only[CB.b,hcb,e];exact hK'
             . rename_i hne2;exact(hne2 _ _ _ rfl).elim
         . cases h
       . cases h
     . cases h
   . rename_i hne;have hb:=J9X h hK;simp only[C.v] at hb ⊢;have nocell:∀cs,look (J0L own) k≠some (.cells cs):=by
      intro cs e;rw[J0L,J2p,<- J7U] at e;cases hl:lk own k with
      | none=>rw[hl] at e;cases e
      | some b=>cases b with
        | cells cs'=>exact hne cs' hl
        | vec n s z rows=>rw[hl] at e;cases e
        | map mk es=>rw[hl] at e;cases e
        | mapS es=>rw[hl] at e;cases e
     have nofam:∀n s l f op,look (J0L own) k≠some (.fam n s l f op):=by
      intro n s l f op e;rw[J0L,J2p,<- J7U] at e;cases hl:lk own k with
      | none=>rw[hl] at e;cases e
      | some b=>cases b<;>(rw[hl] at e;cases e)
     unfold Q9J;split
     . rename_i e1;cases e1;split
       . rename_i cs hl;exact(nocell cs hl).elim
       . rename_i n s l f op hl;exact(nofam _ _ _ _ _ hl).elim
       . exact hb
     . rename_i e1;cases e1;split
       . rename_i cs hl;exact(nocell cs hl).elim
       . exact hb
     . exact hb
 . rename_i hne;have hb:=J9X h hK;unfold Q9J;split
   . rename_i e1;cases v<;>simp only[C.v,V.vec.injEq,reduceCtorEq] at e1;obtain⟨rfl,rfl,rfl,rfl⟩:=e1;exact(hne _ _ _ rfl).elim
   . rename_i e1;cases v<;>simp only[C.v,V.vec.injEq,reduceCtorEq] at e1;obtain⟨rfl,rfl,rfl,rfl⟩:=e1;exact(hne _ _ _ rfl).elim
   . exact hb
noncomputable def Q9c (own:J0E):List C->Option (List C)
 | []=>some []
 | v::r=>match X1O own v with
   | some c=>match Q9c own r with
     | some l=>some (c::l)
     | none=>none
   | none=>none
theorem Q4L {own:J0E}:∀{l cs:List C} {K:List V->Prop},Q9c own l=some cs->K (C.vs cs)->X5U (J0L own) (C.vs l) K
 | [],cs,K,h,hK=>by simp only[Q9c,Option.some.injEq] at h;subst h;simpa[C.vs,X5U] using hK
 | v::r,cs,K,h,hK=>by
   unfold Q9c at h;split at h
   . rename_i c hc;split at h
     . rename_i l hl;cases h;simp only[C.vs,X5U];exact Q4M hc (Q4L hl (by simpa[C.vs] using hK))
     . cases h
   . cases h
noncomputable def X78 (own:J0E) (v:C):Option C :=
 match v with
 | .agg cs=>match Q9c own cs with
   | some l=>some (.agg l)
   | none=>none
 | .loc _ _=>none
 | v=>X1O own v
theorem Q2W {own:J0E} {v c:C} {K:V->Prop} (h:X78 own v=some c) (hK:K c.v):bor (J0L own) v.v K:=by
 unfold X78 at h;split at h
 . split at h
   . rename_i l hl;cases h;simp only[C.v,bor];exact Q4L hl (by simpa[C.v] using hK)
   . cases h
 . cases h
 . rename_i hne hne2;have hb:=Q4M h hK;cases v<;>first
    | exact(hne _ rfl).elim
    | exact(hne2 _ _ rfl).elim
    | (simp only[C.v] at hb ⊢;simp only[bor];exact hb)
def J5O:List C->List Nat
 | []=>[]
 | v::r=>match v with
   | .vec k _ _ _=>k::J5O r
   | _=>J5O r
theorem J4X:∀(l:List C),Q5x (C.vs l)=J5O l
 | []=>rfl
 | v::r=>by
   simp only[C.vs,Q5x,J5O,J4X r];cases v<;>simp[C.v,V.key1]
noncomputable def J6i (own:J0E) (v:C):List Nat :=
 match v with
 | .vec k _ _ _=>match lk own k with
   | some (.cells cs)=>k::J5O cs
   | _=>[k]
 | .agg cs=>J5O cs
 | _=>[]
theorem Q2J (own:J0E) (v:C):J5t (J0L own) v.v=J6i own v:=by
 cases v<;>simp[C.v,J5t,J6i,J4X];rename_i k s lo len;rw[J0L,J2p,<- J7U];cases hl:lk own k with
 | none=>rfl
 | some b=>cases b<;>simp[CB.b,J4X]
noncomputable def Q5E (ks:List Nat):J0E->J0E
 | []=>[]
 | (k,b)::r=>match J1c k ks with|true=>Q5E ks r|false=>(k,b)::Q5E ks r
noncomputable def Q77 (ks:List Nat):J0E->J0E
 | []=>[]
 | (k,b)::r=>match J1c k ks with|true=>(k,b)::Q77 ks r|false=>Q77 ks r
theorem J9N (ks:List Nat):∀(o:J0E),J2h ks (J0L o)=J0L (Q5E ks o)
 | []=>rfl
 | (k,b)::r=>by
   have ih:=J9N ks r;simp only[J0L,List.map_cons,J2h,Q5E] at ih ⊢;cases J1c k ks<;>simp[ih]
theorem Q4c (ks:List Nat):∀(o:J0E),J2q ks (J0L o)=J0L (Q77 ks o)
 | []=>rfl
 | (k,b)::r=>by
   have ih:=Q4c ks r;simp only[J0L,List.map_cons,J2q,Q77] at ih ⊢;cases J1c k ks<;>simp[ih]
noncomputable def Y1W {β:Type} (o:J0E):(J0E->β)->β:=@List.rec (Nat×CB) (fun _=>(J0E->β)->β) (fun K=>K []) (fun p _ ih K=>ih fun r=>K (p::r)) o
theorem Q2N {β:Type}:∀(o:J0E) (K:J0E->β),Y1W o K=K o
 | [],K=>rfl
 | p::r,K=>Q2N r fun r=>K (p::r)
noncomputable def X8K {β:Type} (own:J0E) (v:C) (K:C->J0E->Option β):Option β :=
 match X78 (Q77 (J6i own v) own) v with
 | some v'=>Y1W (Q5E (J6i own v) own) fun own'=>K v' own'
 | none=>none
theorem Q89 {β:Type} {own:J0E} {v:C} {K:C->J0E->Option β} {out:β} (h:X8K own v K=some out) :
 ∃v' o',K v' o'=some out/\∀Kp:V->Own->Prop,Kp v'.v (J0L o')->X2X (J0L own) v.v Kp:=by
 unfold X8K at h;split at h
 . rename_i v' hv;rw[Q2N] at h;refine⟨v',_,h,fun Kp hK=>?_⟩;unfold X2X;rw[Q2J,Q4c,J9N];exact Q2W hv hK
 . cases h
theorem Q8s {z:List C} {rows:List (List C)} {i j:Nat} {row vs:List C} (h:rows[i]?=some row) (hj:j+vs.length<=row.length) :
 J00 (J4r (C.vs z) (C.vss rows)) i j (C.vs vs)=J4r (C.vs z) (C.vss (rows.take i++[row.take j++vs++row.drop (j+vs.length)]++rows.drop (i+1))):=by
 have hi:=(List.getElem?_eq_some_iff.1 h).1;funext i' j';have hrow:∀q,(rows.take i++[q]++rows.drop (i+1))[i']?=if i'=i then some q else rows[i']?:=by
  intro q;have:=J0Q rows [q] i (by simp only[List.length_singleton];omega) i';simp only[List.length_singleton] at this;rw[this];by_cases h1:i'<i
  . rw[if_pos h1,if_neg (by omega)]
  . rw[if_neg h1];by_cases h2:i'=i
    . subst h2;simp
    . rw[if_neg (by omega),if_neg h2]
 simp only[J00,J4r,List.getD_eq_getElem?_getD,C.vss_get,hrow,C.vs_length];by_cases e:i'=i
 . subst e;simp only[if_true,h,Option.map_some,Option.getD_some,true_and,C.vs_get];rw[J0Q row vs j hj j'];by_cases h1:j'<j
   . rw[if_neg (by omega),if_pos h1]
   . rw[if_neg h1];by_cases h2:j'<j+vs.length
     . rw[if_pos ⟨by omega,h2⟩,if_pos h2];have:j'-j<vs.length:=by omega
       simp[this]
     . rw[if_neg (by omega),if_neg h2]
 . simp only[e,false_and,if_false]
noncomputable def J9Q {β:Type} (own:J0E) (sz k off:Nat) (v:C) (K:J0E->Option β):Option β :=
 match lk own k with
 | some (.cells cs)=>match J7z sz v with
   | some vs=>stC cs off vs fun cs'=>upC k (.cells cs') own K
   | none=>none
 | _=>none
theorem J8H {β:Type} {own:J0E} {sz k off:Nat} {v:C} {K:J0E->Option β} {out:β} (h:J9Q own sz k off v K=some out) :
 ∃o',K o'=some out/\∀Kp:Own->Prop,Kp (J0L o')->J5e (J0L own) sz k off v.v Kp:=by
 unfold J9Q at h;split at h
 . rename_i cs hl;split at h
   . rename_i vs hv;obtain⟨a1,a2,a3,a4⟩:=J3X hv;obtain⟨cs',b1,b2,b3,b4,b5⟩:=J5I _ _ _ _ _ h;obtain⟨o',c1,c2⟩:=J6x b1;refine⟨o',c1,fun Kp hK=>?_⟩;unfold J5e;rw[J0y hl];simp only[CB.b];refine J3p a1 ?_;simp only[a3,a4];rw[C.vs_map,C.vs_map];refine b5 C.v _ ?_;have:=c2 Kp hK;simpa[CB.b,C.vs_map] using this
   . cases h
 . cases h
noncomputable def J8I {β:Type} (own:J0E) (sz:Nat) (p v:C) (K:J0E->Option β):Option β :=
 match p with
 | .loc k off=>J9Q own sz k off v K
 | .oel k s i j=>match lk own k with
   | some (.vec n s' z rows)=>match J7z sz v with
     | some vs=>match J8S Q9I vs with
       | true=>match Nat.beq s s' with
         | true=>match Nat.ble (j+sz) s with
           | true=>match Nat.blt i n with
             | true=>match Nat.ble 1 sz with
               | true=>match nt rows i with
                 | some row=>stC row j vs fun row'=>stC rows i [row'] fun rows'=>upC k (.vec n s z rows') own K
                 | none=>none
               | false=>none
             | false=>none
           | false=>none
         | false=>none
       | false=>none
     | none=>none
   | some (.cells _)=>J9Q own sz k (i*s+j) v K
   | _=>none
 | _=>none
theorem J47 {β:Type} {own:J0E} {sz:Nat} {p v:C} {K:J0E->Option β} {out:β} (h:J8I own sz p v K=some out) :
 ∃o',K o'=some out/\∀Kp:Own->Prop,Kp (J0L o')->J3f (J0L own) sz p.v v.v Kp:=by
 unfold J8I at h;split at h
 . simp only[C.v,J3f];exact J8H h
 . rename_i k s i j;split at h
   . rename_i n s' z rows hl;split at h
     . rename_i vs hv;obtain⟨a1,a2,a3,a4⟩:=J3X hv;split at h
       . rename_i hkf;split at h
         . rename_i hs;split at h
           . rename_i hj;split at h
             . rename_i hi;split at h
               case h_2=>cases h
               rename_i h0;split at h
               . rename_i row hr;obtain⟨row',b1,b2,b3,b4,b5⟩:=J5I _ _ _ _ _ h;obtain⟨rows',d1,d2,d3,d4,d5⟩:=J5I _ _ _ _ _ b1;obtain⟨o',c1,c2⟩:=J6x d1;refine⟨o',c1,fun Kp hK=>?_⟩;have e:=Nat.eq_of_beq_eq_true hs;subst e;simp only[C.v,J3f];rw[J0y hl];simp only[CB.b];refine J3p a1 ?_;have hkf':J2L V.kf1 (C.vs vs)=true:=by rw[J3a J9C];exact hkf
                 simp only[a3,a4,hkf',hs,hj];refine⟨Nat.le_of_ble_eq_true hi,?_⟩;have:=c2 Kp hK;rw[X0I,J5n] at hr;have hfit:j+vs.length<=row.length:=b3 (by
                  intro e;rw[e] at a2;have:=Nat.le_of_ble_eq_true h0;simp at a2;omega)
                 rw[Q8s hr hfit];simp only[CB.b,d4,b4,List.length_singleton] at this;exact this
               . cases h
             . cases h
           . cases h
         . cases h
       . cases h
     . cases h
   . rename_i cs hl;simp only[C.v,J3f];rw[J0y hl];simp only[CB.b];exact J8H h
   . cases h
 . cases h
noncomputable def Q75:C->Bool
 | .vec _ _ _ _=>true
 | .agg cs=>match J5O cs with|[]=>false|_::_=>true
 | _=>false
theorem Q1c (v:C):v.v.keyed=Q75 v:=by
 cases v<;>simp only[C.v,V.keyed,Q75,J4X];rename_i cs;cases J5O cs<;>rfl
noncomputable def Q2P {β:Type} (own:J0E) (sz:Nat) (p v:C) (K:J0E->Option β):Option β :=
 match p with
 | .oel k s i j=>match lk own k with
   | some (.vec _ _ _ _)=>match Q75 v with
     | true=>X8K own v fun v' own'=>J8I own' sz (.oel k s i j) v' K
     | false=>J8I own sz (.oel k s i j) v K
   | _=>J8I own sz (.oel k s i j) v K
 | p=>J8I own sz p v K
theorem Q5F {β:Type} {own:J0E} {sz:Nat} {p v:C} {K:J0E->Option β} {out:β} (h:Q2P own sz p v K=some out) :
 ∃o',K o'=some out/\∀Kp:Own->Prop,Kp (J0L o')->J3H (J0L own) sz p.v v.v Kp:=by
 unfold Q2P at h;split at h
 . rename_i k s i j;split at h
   . rename_i n s' z rows hl;split at h
     . rename_i hk;obtain⟨v',o1,a1,a2⟩:=Q89 h;obtain⟨o',b1,b2⟩:=J47 a1;refine⟨o',b1,fun Kp hK=>?_⟩;simp only[C.v,J3H];rw[J0y hl,Q1c,hk];simp only[CB.b];refine a2 _ ?_;have:=b2 Kp hK;simpa only[C.v] using this
     . rename_i hk;obtain⟨o',b1,b2⟩:=J47 h;refine⟨o',b1,fun Kp hK=>?_⟩;simp only[C.v,J3H];rw[J0y hl,Q1c,hk];simp only[CB.b];have:=b2 Kp hK;simpa only[C.v] using this
   . rename_i hne;obtain⟨o',b1,b2⟩:=J47 h;refine⟨o',b1,fun Kp hK=>?_⟩;have:=b2 Kp hK;simp only[C.v] at this;simp only[C.v,J3H];split
     . rename_i n s' f hl;exfalso;rw[J0L,J2p,<- J7U] at hl;cases hq:lk own k with
       | none=>rw[hq] at hl;cases hl
       | some b=>cases b with
         | vec n s z rows=>exact hne _ _ _ _ hq
         | _=>rw[hq] at hl;cases hl
     . exact this
 . rename_i hne;obtain⟨o',b1,b2⟩:=J47 h;refine⟨o',b1,fun Kp hK=>?_⟩;have:=b2 Kp hK;cases p<;>first
    | exact(hne _ _ _ _ rfl).elim
    | (simp only[C.v] at this ⊢;simp only[J3H];exact this)
noncomputable def X8H (own:J0E) (s:Nat) (y:C):Option (Nat×List C×List (List C)) :=
 match y with
 | .fz m s' _ z rows=>match Nat.beq s s' with|true=>some (m,z,rows)|false=>none
 | .vec k s' lo len=>match lk own k with
   | some (.vec n s'' z rows)=>match Nat.beq s s' with
     | true=>match Nat.beq s s'' with
       | true=>match Nat.ble (lo+len) n with
         | true=>fH (dr rows lo) fun q=>some (len,z,q)
         | false=>none
       | false=>none
     | false=>none
   | _=>none
 | _=>none
theorem Q8S {own:J0E} {s:Nat} {y:C} {m:Nat} {z:List C} {rows:List (List C)} {K:Nat->(Nat->Nat->V)->Prop} (h:X8H own s y=some (m,z,rows)) (hK:K m (J4r (C.vs z) (C.vss rows))):Q9S (J0L own) s y.v K:=by
 unfold X8H at h;split at h
 . split at h
   . rename_i hs;cases h;simp only[C.v,Q9S,hs];exact hK
   . cases h
 . rename_i k s' lo len;simp only[C.v,Q9S];split at h
   . rename_i n s'' z' rows' hl;rw[J0y hl];simp only[CB.b];split at h
     . rename_i h1;split at h
       . rename_i h2;split at h
         . rename_i h3;rw[X1l] at h;cases h;simp only[h1,h2];refine⟨Nat.le_of_ble_eq_true h3,?_⟩;rw[J2Q];rw[J9O] at hK;exact hK
         . cases h
       . cases h
     . cases h
   . cases h
 . cases h
def J4B:List C->Option C
 | []=>some (.bool false)
 | [v]=>some v
 | _::r=>J4B r
theorem J9A:∀(z:List C),(J4B z).map C.v=some (J3F (C.vs z))
 | []=>by simp[J4B,J3F,C.vs,C.v];rfl
 | [v]=>by simp[J4B,J3F,C.vs]
 | _::b::r=>by simpa[J4B,J3F,C.vs] using J9A (b::r)
def X0t (z z':List C):Bool:=match J4B z with
 | some (.int k a)=>match J4B z' with
   | some (.int k' b)=>match kEq k k' with|true=>ieq a b|false=>false
   | _=>false
 | some (.bool a)=>match J4B z' with
   | some (.bool b)=>a == b
   | _=>false
 | some .nilslice=>match J4B z' with
   | some .nilslice=>true
   | _=>false
 | _=>false
theorem Q3F {z z':List C} (h:X0t z z'=true):J3F (C.vs z)=J3F (C.vs z'):=by
 have h1:=J9A z;have h2:=J9A z';have key:J4B z=J4B z':=by
  unfold X0t at h;split at h
  . rename_i e1;split at h
    . rename_i e2;split at h
      . rename_i e3;rw[J40,beq_iff_eq] at h;rw[e1,e2,J5P e3,h]
      . cases h
    . cases h
  . rename_i e1;split at h
    . rename_i e2;rw[beq_iff_eq] at h;rw[e1,e2,h]
    . cases h
  . rename_i e1;split at h
    . rename_i e2;rw[e1,e2]
    . cases h
  . cases h
 rw[key,h2] at h1;exact(Option.some.inj h1).symm
theorem Q8x {z z':List C} {rows rows':List (List C)} {lo len:Nat} (h:lo+len<=rows.length) (hz:J3F (C.vs z)=J3F (C.vs z')) :
 J43 (J0l lo (J4r (C.vs z) (C.vss rows))) len (J4r (C.vs z') (C.vss rows'))=J4r (C.vs z') (C.vss ((rows.drop lo).take len++rows')):=by
 funext i j;have hlen:((rows.drop lo).take len).length=len:=by simp;omega
 by_cases hi:i<len
 . rw[J1I hi,J0v];simp only[J4r,List.getD_eq_getElem?_getD,C.vss_get];rw[List.getElem?_append_left (by omega),List.getElem?_take,if_pos hi,List.getElem?_drop];have:lo+i<rows.length:=by omega
   simp[this,hz]
 . rw[J1J hi];simp only[J4r,List.getD_eq_getElem?_getD,C.vss_get];rw[List.getElem?_append_right (by omega),hlen]
theorem Q1s {z z':List C} {rows rows':List (List C)} {p m:Nat} (h:p+m<=rows.length) (h':m<=rows'.length) (hz:J3F (C.vs z)=J3F (C.vs z')) :
 Q5B (J4r (C.vs z) (C.vss rows)) p m (J4r (C.vs z') (C.vss rows'))=J4r (C.vs z) (C.vss (rows.take p++rows'.take m++rows.drop (p+m))):=by
 funext i j;have hl:(rows'.take m).length=m:=by simp;omega
 have hs:=J0Q rows (rows'.take m) p (by omega) i;rw[hl] at hs;simp only[Q5B,J4r,List.getD_eq_getElem?_getD,C.vss_get,hs];by_cases h1:i<p
 . rw[if_neg (by omega),if_pos h1]
 . by_cases h2:i<p+m
   . rw[if_pos ⟨by omega,h2⟩,if_neg h1,if_pos h2,List.getElem?_take,if_pos (by omega)];have:i-p<rows'.length:=by omega
     simp[this,hz]
   . rw[if_neg (by omega),if_neg h1,if_neg h2]
noncomputable def apK {α β:Type} (n:Nat):List α->List α->(List α->Option β)->Option β :=
 @Nat.rec (fun _=>List α->List α->(List α->Option β)->Option β) (fun _ l K=>K l) (fun _ ih q l K=>@List.rec α (fun _=>Option β) none (fun x r _=>ih r l fun o=>K (x::o)) q) n
theorem X3s {α β:Type} (n:Nat) (q l:List α) (K:List α->Option β):apK n q l K=if n<=q.length then K (q.take n++l) else none:=by
 induction n generalizing q K with
 | zero=>simp only[Nat.zero_le,if_true,List.take_zero,List.nil_append];rfl
 | succ n ih=>cases q with
   | nil=>rfl
   | cons x r =>
     show apK n r l (fun o=>K (x::o))=_;rw[ih];simp
structure R where
 v:C
 o:J0E
 k:Nat
def KB:Nat:=1000000
def ksV (k:Nat):List Nat:=List.range' k (KB-k)
theorem X0Z {k:Nat} (h:k<KB):ksV k=k::ksV (k+1):=by
 unfold ksV;rw[show KB-k=(KB-(k+1))+1 by omega,List.range'_succ]
noncomputable def frC {β:Type} (k:Nat) (K:Nat->Nat->Option β):Option β:=match Nat.blt k KB with
 | true=>fN (Nat.succ k) fun k'=>K k k'
 | false=>none
theorem J3S {β:Type} {k:Nat} {K:Nat->Nat->Option β} {out:β} (h:frC k K=some out):K k (k+1)=some out/\∀Kp:Nat->List Nat->Prop,Kp k (ksV (k+1))->fresh (ksV k) Kp:=by
 unfold frC at h;split at h
 . rename_i hb;rw[J4i] at h;refine⟨h,fun Kp hK=>?_⟩;rw[X0Z (Nat.le_of_ble_eq_true hb)];exact hK
 . cases h
noncomputable def X8e (n bytes:Nat) {β:Type} (K:Option β):Option β:=match Nat.ble (n*bytes) 140737488355328 with
 | true=>match Nat.ble n 9223372036854775807 with|true=>K|false=>none
 | false=>none
theorem Q23 {n bytes:Nat} {β:Type} {K:Option β} {out:β} (h:X8e n bytes K=some out):n*bytes<=140737488355328/\n<=9223372036854775807/\K=some out:=by
 unfold X8e at h;split at h
 . rename_i h1;split at h
   . rename_i h2;exact⟨Nat.le_of_ble_eq_true h1,Nat.le_of_ble_eq_true h2,h⟩
   . cases h
 . cases h
noncomputable def X1Q (own:J0E) (ks s bytes k lo len m:Nat) (rows:List (List C)) (z':List C) (rows':List (List C)):Option R :=
 X8e (len+m) bytes (frC ks fun k' ks=>deC k own fun own'=>apK len (dr rows lo) rows' fun q=>fN (len+m) fun n=>some ⟨.vec k' s 0 n,(k',.vec n s z' q)::own',ks⟩)
noncomputable def X79 (own:J0E) (ks s bytes:Nat) (x y:C):Option R :=
 match X8H own s y with
 | some (m,z',rows')=>match x with
   | .nilslice=>X8e m bytes (frC ks fun k' ks=>some ⟨.vec k' s 0 m,(k',.vec m s z' rows')::own,ks⟩)
   | .fz 0 _ true _ _=>X8e m bytes (frC ks fun k' ks=>some ⟨.vec k' s 0 m,(k',.vec m s z' rows')::own,ks⟩)
   | .vec k s' lo len=>match lk own k with
     | some (.vec n s'' z rows)=>match Nat.beq s s' with
       | true=>match Nat.beq s s'' with
         | true=>match Nat.ble (lo+len) n with
           | true=>match X0t z z' with
            | false=>none
            | true=>match Nat.beq (lo+len) n with
             | true=>X1Q own ks s bytes k lo len m rows z' rows'
             | false=>match Nat.ble (lo+len+m) n with
               | true=>match Nat.ble 1 m with
                 | true=>tk m rows' fun q=>stC rows (lo+len) q fun Q0F=>upC k (.vec n s z Q0F) own fun own'=>fN (len+m) fun n'=>some ⟨.vec k s lo n',own',ks⟩
                 | false=>none
               | false=>X1Q own ks s bytes k lo len m rows z' rows'
           | false=>none
         | false=>none
       | false=>none
     | _=>none
   | _=>none
 | none=>none
theorem Q4N {own:J0E} {ks s bytes k lo len n m:Nat} {z:List C} {rows:List (List C)} {z':List C} {rows':List (List C)} {r:R} {K:V->Own->List Nat->Prop} (hle:lo+len<=n) (hz:J3F (C.vs z)=J3F (C.vs z'))
 (h:X1Q own ks s bytes k lo len m rows z' rows'=some r) (hK:K r.v.v (J0L r.o) (ksV r.k)) :
 Q6j (J0L own) (ksV ks) s bytes k lo len n m (J4r (C.vs z) (C.vss rows)) (J4r (C.vs z') (C.vss rows')) K:=by
 unfold X1Q at h;obtain⟨a1,a2,h⟩:=Q23 h;obtain⟨h,b1⟩:=J3S h;obtain⟨o',h,c1⟩:=Q8Q h;rw[X3s] at h;split at h
 . rename_i hl;rw[J4i] at h;cases h;rw[J9O,List.length_drop] at hl;unfold Q6j;refine⟨hle,a1,a2,b1 _ (c1 _ ?_)⟩;by_cases h0:len=0
   . subst h0;simp only[J43];simpa[C.v,J0L,CB.b,J9O] using hK
   . rw[Q8x (by omega) hz];simpa[C.v,J0L,CB.b,J9O] using hK
 . cases h
theorem Q2X {own:J0E} {ks s bytes:Nat} {x y:C} {r:R} {K:V->Own->List Nat->Prop} (h:X79 own ks s bytes x y=some r) (hK:K r.v.v (J0L r.o) (ksV r.k)):X2l (J0L own) (ksV ks) s bytes x.v y.v K:=by
 unfold X79 at h;split at h
 . rename_i m z' rows' hsrc;refine Q8S hsrc ?_;split at h
   . obtain⟨a1,a2,h⟩:=Q23 h;obtain⟨h,b1⟩:=J3S h;cases h;simp only[C.v];exact⟨a1,a2,b1 _ (by simpa[C.v,J0L,CB.b] using hK)⟩
   . obtain⟨a1,a2,h⟩:=Q23 h;obtain⟨h,b1⟩:=J3S h;cases h;simp only[C.v];exact⟨a1,a2,b1 _ (by simpa[C.v,J0L,CB.b] using hK)⟩
   . rename_i k s' lo len;simp only[C.v];split at h
     . rename_i n s'' z rows hl;rw[J0y hl];simp only[CB.b];split at h
       . rename_i h1;split at h
         . rename_i h2;simp only[h1,h2];split at h
           . rename_i h3;have h3:=Nat.le_of_ble_eq_true h3;split at h
             . cases h
             rename_i hz;have hz:=Q3F hz;split at h
             . rename_i h4;exact⟨fun _=>Q4N h3 hz h hK,fun e=>by rw[h4] at e;cases e⟩
             . rename_i h4;refine⟨fun e=>(by rw[h4] at e;cases e),fun _=>?_⟩;split at h
               . rename_i h5;refine⟨fun _=>?_,fun e=>(by rw[h5] at e;cases e)⟩;split at h
                 . rename_i h6;have h6:=Nat.le_of_ble_eq_true h6;have e1:=Nat.eq_of_beq_eq_true h1;subst e1;rw[X0d] at h;split at h
                   . rename_i h7;obtain⟨Q0F,g1,g2,g3,g4,g5⟩:=J5I _ _ _ _ _ h;obtain⟨o',c1,c2⟩:=J6x g1;rw[J4i] at c1;cases c1;have hl:(rows'.take m).length=m:=by simp;omega
                     have g3:=g3 (fun e=>by rw[e] at hl;simp at hl;omega);rw[hl] at g3 g4;rw[Q1s g3 h7 hz];have:=c2 (fun own'=>K (.vec k s lo (len+m)) own' (ksV ks)) (by simpa[C.v] using hK);simp only[CB.b,g4] at this;exact this
                   . cases h
                 . cases h
               . rename_i h5;exact⟨fun e=>(by rw[h5] at e;cases e),fun _=>Q4N h3 hz h hK⟩
           . cases h
         . cases h
       . cases h
     . cases h
   . cases h
 . cases h
noncomputable def X5K (own:J0E) (ks s bytes:Nat) (x y:C):Option R :=
 match y with
 | .vec k s' lo len=>match lk own k with
   | some (.cells _)=>X8K own (.vec k s' lo len) fun y' own'=>X79 own' ks s bytes x y'
   | _=>X79 own ks s bytes x (.vec k s' lo len)
 | y=>X79 own ks s bytes x y
theorem X1R {own:J0E} {ks s bytes:Nat} {x y:C} {r:R} {K:V->Own->List Nat->Prop} (h:X5K own ks s bytes x y=some r) (hK:K r.v.v (J0L r.o) (ksV r.k)):Q2f (J0L own) (ksV ks) s bytes x.v y.v K:=by
 unfold X5K at h;split at h
 . rename_i k s' lo len;split at h
   . rename_i cs hl;obtain⟨v',o1,a1,a2⟩:=Q89 h;simp only[C.v,Q2f];rw[J0y hl];simp only[CB.b];have:=a2 (fun y' own'=>X2l own' (ksV ks) s bytes x.v y' K) (Q2X a1 hK);simpa only[C.v] using this
   . rename_i hne;have:=Q2X h hK;simp only[C.v] at this;simp only[C.v,Q2f];split
     . rename_i cs hl;exfalso;rw[J0L,J2p,<- J7U] at hl;cases hq:lk own k with
       | none=>rw[hq] at hl;cases hl
       | some b=>cases b with
         | cells cs=>exact hne _ hq
         | _=>rw[hq] at hl;cases hl
     . exact this
 . rename_i hne;have:=Q2X h hK;cases y<;>first
    | exact(hne _ _ _ _ rfl).elim
    | (simp only[C.v] at this ⊢;simp only[Q2f];exact this)
noncomputable def mkR (c:Option C) (own:J0E) (ks:Nat):Option R:=match c with
 | some v=>some ⟨v,own,ks⟩
 | none=>none
theorem Q0X {c:Option C} {own:J0E} {ks:Nat} {r:R} (h:mkR c own ks=some r):c=some r.v/\r.o=own/\r.k=ks:=by
 unfold mkR at h;split at h
 . cases h;exact⟨rfl,rfl,rfl⟩
 . cases h
noncomputable def Q9b (env:J1k):List (Nat×Nat×X)->List C->Option (List C)
 | [],zs=>some zs
 | (off,size,x)::r,zs=>match gx x env with
   | some v=>match J7z size v with
     | some vs=>match Nat.ble (off+size) (ln zs) with
       | true=>stC zs off vs fun zs'=>Q9b env r zs'
       | false=>none
     | none=>none
   | none=>none
theorem Q4H {env:J1k}:∀{ps:List (Nat×Nat×X)} {zs out:List C} {K:List V->Prop},Q9b env ps zs=some out->K (C.vs out)->Q2L (J29 env) ps (C.vs zs) K
 | [],zs,out,K,h,hK=>by simp only[Q9b,Option.some.injEq] at h;subst h;simpa[Q2L] using hK
 | (off,size,x)::r,zs,out,K,h,hK=>by
   simp only[Q9b] at h;split at h
   . rename_i v hv;split at h
     . rename_i vs hvs;split at h
       . rename_i hle;obtain⟨a1,a2,a3,a4⟩:=J3X hvs;obtain⟨zs',b1,b2,b3,b4,b5⟩:=J5I _ _ _ _ _ h;simp only[Q2L];refine J0F hv (J3p a1 ?_);rw[X0T] at hle;have hle':Nat.ble (off+size) (C.vs zs).length=true:=by rw[C.vs_length];exact hle
         simp only[a3,a4,hle'];rw[C.vs_map,C.vs_map];refine b5 C.v _ ?_;have:=Q4H b1 hK
         rwa[C.vs_map] at this
       . cases h
     . cases h
   . cases h
noncomputable def Q8U (s:Nat):List C->Option (List (List C))
 | []=>some []
 | v::r=>match J7z s v with
   | some vs=>match J8S Q9I vs with
     | true=>match Q8U s r with
       | some l=>some (vs::l)
       | none=>none
     | false=>none
   | none=>none
theorem Q4y {s:Nat}:∀{l:List C} {rs:List (List C)} {K:List (List V)->Prop},Q8U s l=some rs->K (C.vss rs)->Q5f s (C.vs l) K
 | [],rs,K,h,hK=>by simp only[Q8U,Option.some.injEq] at h;subst h;simpa[Q5f,C.vs,C.vss] using hK
 | v::r,rs,K,h,hK=>by
   simp only[Q8U] at h;split at h
   . rename_i vs hvs;split at h
     . rename_i hkf;split at h
       . rename_i l hl;cases h;obtain⟨a1,a2,a3,a4⟩:=J3X hvs;simp only[C.vs,Q5f];refine J3p a1 ?_;have hkf':J2L V.kf1 (C.vs vs)=true:=by rw[J3a J9C];exact hkf
         simp only[a3,a4,hkf'];exact Q4y hl (by simpa[C.vss] using hK)
       . cases h
     . cases h
   . cases h
noncomputable def Q9a (s:Nat):List C->Option (List C)
 | []=>some []
 | v::r=>match J7z s v with
   | some vs=>match Q9a s r with
     | some l=>apK s vs l some
     | none=>none
   | none=>none
theorem Q4G {s:Nat}:∀{l rs:List C} {K:List V->Prop},Q9a s l=some rs->K (C.vs rs)->Q5C s (C.vs l) K
 | [],rs,K,h,hK=>by simp only[Q9a,Option.some.injEq] at h;subst h;simpa[Q5C,C.vs] using hK
 | v::r,rs,K,h,hK=>by
   simp only[Q9a] at h;split at h
   . rename_i vs hvs;split at h
     . rename_i l hl;obtain⟨a1,a2,a3,a4⟩:=J3X hvs;rw[X3s,if_pos (by omega),<- a2,List.take_length] at h;cases h;simp only[C.vs,Q5C];refine J3p a1 ?_;simp only[a3,a4];refine Q4G hl ?_;simpa[C.vs_map] using hK
     . cases h
   . cases h
noncomputable def X6d {α:Type} (n:Nat) (x:α):List α:=@Nat.rec (fun _=>List α) [] (fun _ ih=>x::ih) n
theorem J9m {α:Type} (n:Nat) (x:α):X6d n x=List.replicate n x:=by
 induction n with
 | zero=>rfl
 | succ n ih=>show x::X6d n x=_;rw[ih];rfl
noncomputable def fL {α β:Type} (l:List α):(List α->β)->β:=@List.rec α (fun _=>(List α->β)->β) (fun K=>K []) (fun x _ ih K=>ih fun r=>K (x::r)) l
theorem J44 {α β:Type}:∀(l:List α) (K:List α->β),fL l K=K l
 | [],_=>rfl
 | x::r,K=>J44 r fun r=>K (x::r)
noncomputable def mfI (es:List (Int×C)) (a:Int):Option C:=@List.rec (Int×C) (fun _=>Option C) none (fun p _ ih=>match ieq p.1 a with|true=>some p.2|false=>ih) es
theorem X2O {ik:IntKind}:∀(es:List (Int×C)) (a:Int),J09 (α:=KyT (.one ik)) (es.map fun p=>(p.1,p.2.v)) a=(mfI es a).map C.v
 | [],a=>rfl
 | (q,c)::r,a=>by
   have ih:=X2O (ik:=ik) r a;have e:mfI ((q,c)::r) a=match ieq q a with|true=>some c|false=>mfI r a:=rfl
   rw[e];simp only[List.map_cons,J09,ih];have:=J40 q a;by_cases h:q=a
   . rw[if_pos h];subst h;simp[this]
   . rw[if_neg h];have:ieq q a=false:=by rw[this];simpa using h
     rw[this]
noncomputable def mpI (es:List (Int×C)) (a:Int) (v:C):List (Int×C):=@List.rec (Int×C) (fun _=>List (Int×C)) [(a,v)] (fun p r ih=>match ieq p.1 a with|true=>(p.1,v)::r|false=>p::ih) es
theorem X2M {ik:IntKind}:∀(es:List (Int×C)) (a:Int) (v:C),mput (α:=KyT (.one ik)) (es.map fun p=>(p.1,p.2.v)) a v.v=(mpI es a v).map fun p=>(p.1,p.2.v)
 | [],a,v=>rfl
 | (q,c)::r,a,v=>by
   have ih:=X2M (ik:=ik) r a v;have e:mpI ((q,c)::r) a v=match ieq q a with|true=>(q,v)::r|false=>(q,c)::mpI r a v:=rfl
   rw[e];simp only[List.map_cons,mput,ih];have:=J40 q a;by_cases h:q=a
   . rw[if_pos h];subst h;simp[this]
   . rw[if_neg h];have:ieq q a=false:=by rw[this];simpa using h
     rw[this];simp
noncomputable def mfS (es:List ((Nat×Nat)×C)) (l d:Nat):Option C:=@List.rec ((Nat×Nat)×C) (fun _=>Option C) none (fun p _ ih=>match eqS p.1.1 p.1.2 l d with|true=>some p.2|false=>ih) es
theorem J9K {l c l' c':Nat}:eqS l c l' c'=true↔J0r l c=J0r l' c':=by rw[Q4r];exact Go.MapKept.bytes_beq _ _
theorem X2N:∀(es:List ((Nat×Nat)×C)) (l d:Nat),J09 (α:=KyT .str) (es.map fun p=>(J0r p.1.1 p.1.2,p.2.v)) (J0r l d)=(mfS es l d).map C.v
 | [],l,d=>rfl
 | ((q1,q2),c)::r,l,d=>by
   have ih:=X2N r l d;have e:mfS (((q1,q2),c)::r) l d=match eqS q1 q2 l d with|true=>some c|false=>mfS r l d:=rfl
   rw[e];simp only[List.map_cons,J09,ih];by_cases h:J0r q1 q2=J0r l d
   . rw[if_pos h,J9K.2 h];rfl
   . rw[if_neg h];have:eqS q1 q2 l d=false:=by rw[<- Bool.not_eq_true];exact fun e=>h (J9K.1 e)
     rw[this]
noncomputable def mpS (es:List ((Nat×Nat)×C)) (l d:Nat) (v:C):List ((Nat×Nat)×C):=@List.rec ((Nat×Nat)×C) (fun _=>List ((Nat×Nat)×C)) [((l,d),v)] (fun p r ih=>match eqS p.1.1 p.1.2 l d with|true=>(p.1,v)::r|false=>p::ih) es
theorem X2L:∀(es:List ((Nat×Nat)×C)) (l d:Nat) (v:C),mput (α:=KyT .str) (es.map fun p=>(J0r p.1.1 p.1.2,p.2.v)) (J0r l d) v.v=(mpS es l d v).map fun p=>(J0r p.1.1 p.1.2,p.2.v)
 | [],l,d,v=>rfl
 | ((q1,q2),c)::r,l,d,v=>by
   have ih:=X2L r l d v;have e:mpS (((q1,q2),c)::r) l d v=match eqS q1 q2 l d with|true=>((q1,q2),v)::r|false=>((q1,q2),c)::mpS r l d v:=rfl
   rw[e];simp only[List.map_cons,mput,ih];by_cases h:J0r q1 q2=J0r l d
   . rw[if_pos h,J9K.2 h];rfl
   . rw[if_neg h];have:eqS q1 q2 l d=false:=by rw[<- Bool.not_eq_true];exact fun e=>h (J9K.1 e)
     rw[this];rfl
noncomputable def X7J (z:V) (comma:Bool) (own:J0E) (ks:Nat) (o:Option C):Option R :=
 match o with
 | some v=>match comma with|true=>some ⟨.tup [v,.bool true],own,ks⟩|false=>some ⟨v,own,ks⟩
 | none=>match ofV z with
   | some c=>match comma with|true=>some ⟨.tup [c,.bool false],own,ks⟩|false=>some ⟨c,own,ks⟩
   | none=>none
def X8C (comma:Bool) (b:Bool) (K:V->Prop) (v:V):Prop:=match comma with|true=>K (.tup [v,.bool b])|false=>K v
theorem Q8o {z:V} {comma:Bool} {own:J0E} {ks:Nat} {o:Option C} {r:R} {K:V->Own->List Nat->Prop} (h:X7J z comma own ks o=some r) (hK:K r.v.v (J0L r.o) (ksV r.k)) {o':Option V} (ho:o'=o.map C.v) :
 X2g o' (X8C comma true fun v=>K v (J0L own) (ksV ks)) (X8C comma false (fun v=>K v (J0L own) (ksV ks)) z):=by
 subst ho;cases o with
 | some v =>
   refine⟨fun v' hv=>?_,fun e=>(by cases e)⟩;cases hv;cases comma<;>(simp only[X7J,Option.some.injEq] at h;subst h;simpa[C.v,C.vs,X8C] using hK)
 | none =>
   refine⟨fun v' hv=>(by cases hv),fun _=>?_⟩;simp only[X7J] at h;split at h
   . rename_i c hc;have:=X2E z hc;subst this;cases comma<;>(simp only[Option.some.injEq] at h;subst h;simpa[C.v,C.vs,X8C] using hK)
   . cases h
noncomputable def X23 (o:XOp) (env:J1k) (own:J0E) (ks:Nat):Option R :=
 match o with
 | .mks s bytes zs x=>match gx x env with
   | some (.int _ (.ofNat m))=>match Nat.ble m 4611686018427387904 with
     | true=>match Nat.ble (m*bytes) 140737488355328 with
       | true=>match X6f zs with
         | some zc=>frC ks fun k ks=>match s with
           | 1=>match zc with
             | [.nilslice]=>fL (X6d m C.nilslice) fun l=>some ⟨.vec k 1 0 m,(k,.cells l)::own,ks⟩
             | zc=>fL (X6d m zc) fun l=>fL (List.append zc [.bool false]) fun z=>some ⟨.vec k 1 0 m,(k,.vec m 1 z l)::own,ks⟩
           | s=>fL (X6d m zc) fun l=>fL (List.append zc [.bool false]) fun z=>some ⟨.vec k s 0 m,(k,.vec m s z l)::own,ks⟩
         | none=>none
       | false=>none
     | false=>none
   | _=>none
 | .mkmap ik=>match ik with
   | .one ik=>frC ks fun k ks=>some ⟨.map k,(k,.map ik [])::own,ks⟩
   | .str=>frC ks fun k ks=>some ⟨.map k,(k,.mapS [])::own,ks⟩
   | .pair _=>none
   | .st _=>none
 | .mget ik z comma m x=>match gx m env with
   | some (.map k)=>match gx x env with
     | some x=>match lk own k with
       | some (.map ik' es)=>match ik with
         | .one i=>match kEq ik' i with
           | true=>match x with
             | .int i' a=>match kEq i' ik' with
               | true=>X7J z comma own ks (mfI es a)
               | false=>none
             | _=>none
           | false=>none
         | _=>none
       | some (.mapS es)=>match ik with
         | .str=>match x with
           | .str l d=>X7J z comma own ks (mfS es l d)
           | _=>none
         | _=>none
       | _=>none
     | none=>none
   | _=>none
 | .mput ik m x y=>match gx m env with
   | some (.map k)=>match gx x env with
     | some x=>match gx y env with
       | some y=>match Q5X y with
         | true=>match lk own k with
           | some (.map ik' es)=>match ik with
             | .one i=>match kEq ik' i with
               | true=>match x with
                 | .int i' a=>match kEq i' ik' with
                   | true=>fL (mpI es a y) fun es'=>upC k (.map ik' es') own fun own'=>some ⟨.unit,own',ks⟩
                   | false=>none
                 | _=>none
               | false=>none
             | _=>none
           | some (.mapS es)=>match ik with
             | .str=>match x with
               | .str l d=>fL (mpS es l d y) fun es'=>upC k (.mapS es') own fun own'=>some ⟨.unit,own',ks⟩
               | _=>none
             | _=>none
           | _=>none
         | false=>none
       | none=>none
     | none=>none
   | _=>none
 | .asl n s x hi=>match gx x env with
   | some (.oel k s' i j)=>match i with
     | 0=>match j with
       | 0=>match lk own k with
         | some (.vec n' s'' z rows)=>match Nat.beq s s' with
           | true=>match Nat.beq s s'' with
             | true=>match Nat.ble n n' with
               | true=>match cbd hi env n n with
                 | some h=>Y1W (Q5E [k] own) fun own'=>some ⟨.fz h s false z rows,own',ks⟩
                 | none=>none
               | false=>none
             | false=>none
           | false=>none
         | _=>none
       | _=>none
     | _=>none
   | _=>none
 | .cpy s x y=>match gx x env with
   | some (.vec k s' lo len)=>match gx y env with
     | some y=>match X8H own s y with
       | some (m,z',rows')=>match lk own k with
         | some (.vec n s'' z rows)=>match Nat.beq s s' with
           | true=>match Nat.beq s s'' with
             | true=>match Nat.ble m len with
               | true=>match Nat.ble (lo+m) n with
                 | true=>match X0t z z' with
                   | true=>match Nat.ble 1 m with
                     | true=>tk m rows' fun q=>stC rows lo q fun Q0F=>upC k (.vec n s z Q0F) own fun own'=>fN m fun m'=>some ⟨.int .i64 (.ofNat m'),own',ks⟩
                     | false=>none
                   | false=>none
                 | false=>none
               | false=>none
             | false=>none
           | false=>none
         | _=>none
       | none=>none
     | none=>none
   | _=>none
 | _=>none
theorem Q73 (l:List V) (v:V):J3F (l++[v])=v:=by
 induction l with
 | nil=>rfl
 | cons x r ih =>
   cases r with
   | nil=>rfl
   | cons y r=>simpa[J3F] using ih
theorem Q3Z (z:List C) (m:Nat):(fun(_:Nat) j=>(C.vs z).getD j default)=J4r (C.vs (z.append [.bool false])) (C.vss (List.replicate m z)):=by
 funext i j;have e:C.vs (z.append [.bool false])=C.vs z++[default]:=by rw[C.vs_map,C.vs_map];simp[C.v];rfl
 simp only[J4r,e,Q73];simp only[List.getD_eq_getElem?_getD,C.vss_get,List.getElem?_replicate];by_cases h:i<m
 . simp[h]
 . simp only[h,if_false,Option.map_none,Option.getD_none];by_cases h2:j<(C.vs z).length
   . rw[List.getElem?_append_left h2]
   . rw[List.getElem?_append_right (by omega),List.getElem?_eq_none (by omega)];cases j-(C.vs z).length<;>simp
theorem X5u {o:XOp} {env:J1k} {own:J0E} {ks:Nat} {r:R} {K:V->Own->List Nat->Prop} (h:X23 o env own ks=some r) (hK:K r.v.v (J0L r.o) (ksV r.k)):Q6a o (J29 env) (J0L own) (ksV ks) K:=by
 cases o with
 | mks s bytes zs x =>
   simp only[X23] at h;split at h
   case h_2=>cases h
   rename_i k m hx;split at h
   case h_2=>cases h
   rename_i h1;split at h
   case h_2=>cases h
   rename_i h2;split at h
   case h_2=>cases h
   rename_i zc hz;have hzs:=J6U zs hz;subst hzs;simp only[Q6a];refine J0F hx ?_;simp only[C.v];refine⟨m,rfl,Nat.le_of_ble_eq_true h1,Nat.le_of_ble_eq_true h2,?_⟩;obtain⟨h,b1⟩:=J3S h;refine b1 _ ?_;unfold X8y;split
   . split at h
     . split at h
       . rename_i hs _ _;rw[J44,J9m] at h;cases h;refine .cells ?_;have e1:(C.vs [C.nilslice]).getD 0 default=.nilslice:=by simp[C.vs,C.v]
         rw[e1];have e2:C.vs (List.replicate m C.nilslice)=List.replicate m .nilslice:=by rw[C.vs_map,List.map_replicate];simp[C.v]
         simp only[C.v,J0L,List.map_cons,CB.b,e2] at hK;exact hK
       . rw[J44,J9m,J44] at h;cases h;refine .vec ?_;rw[Q3Z zc m];simpa[C.v,J0L,CB.b] using hK
     . rename_i hne;exact(hne rfl).elim
   . rename_i hne;split at h
     . exact(hne rfl).elim
     . rw[J44,J9m,J44] at h;cases h;rw[Q3Z zc m];simpa[C.v,J0L,CB.b] using hK
 | mkmap ik =>
   simp only[X23] at h;split at h
   . obtain⟨h,b1⟩:=J3S h;cases h;simp only[Q6a];exact b1 _ (by simpa[C.v,J0L,CB.b] using hK)
   . obtain⟨h,b1⟩:=J3S h;cases h;simp only[Q6a];exact b1 _ (by simpa[C.v,J0L,CB.b] using hK)
   . cases h
   . cases h
 | mget ik z comma m x =>
   simp only[X23] at h;split at h
   case h_2=>cases h
   rename_i k hm;split at h
   case h_2=>cases h
   rename_i x' hx;simp only[Q6a];refine J0F hm (J0F hx ?_);split at h
   . rename_i ik' es hl;split at h
     . rename_i i;split at h
       . rename_i hk;have:=J5P hk;subst this;split at h
         . rename_i i' a;split at h
           . rename_i hk2;have:=J5P hk2;subst this;simp only[C.v,Q9H,J0y hl,CB.b,decide_true,J6S];have:=Q8o h hK (X2O (ik:=i') es a);cases comma<;>exact this
           . cases h
         . cases h
       . cases h
     . cases h
   . rename_i es hl;split at h
     . split at h
       . rename_i l d;simp only[C.v,Q9H,J0y hl,CB.b,decide_true,J6S];have:=Q8o h hK (X2N es l d);cases comma<;>exact this
       . cases h
     . cases h
   . cases h
 | mput ik m x y =>
   simp only[X23] at h;split at h
   case h_2=>cases h
   rename_i k hm;split at h
   case h_2=>cases h
   rename_i x' hx;split at h
   case h_2=>cases h
   rename_i y' hy;split at h
   case h_2=>cases h
   rename_i hkf;have hkf':y'.v.kf2=true:=by rw[J65];exact hkf
   simp only[Q6a];refine J0F hm (J0F hx (J0F hy ?_));split at h
   . rename_i ik' es hl;split at h
     . rename_i i;split at h
       . rename_i hk;have:=J5P hk;subst this;split at h
         . rename_i i' a;split at h
           . rename_i hk2;have:=J5P hk2;subst this;rw[J44] at h;obtain⟨o',c1,c2⟩:=J6x h;cases c1;simp only[C.v,Q9H,J0y hl,CB.b,decide_true,J6S,hkf'];have:=c2 (fun own=>K (.raw (.tuple #[])) own (ksV ks)) (by simpa[C.v] using hK);simp only[CB.b] at this;have e:=X2M (ik:=i') es a y';rw[e];exact this
           . cases h
         . cases h
       . cases h
     . cases h
   . rename_i es hl;split at h
     . split at h
       . rename_i l d;rw[J44] at h;obtain⟨o',c1,c2⟩:=J6x h;cases c1;simp only[C.v,Q9H,J0y hl,CB.b,decide_true,J6S,hkf'];have:=c2 (fun own=>K (.raw (.tuple #[])) own (ksV ks)) (by simpa[C.v] using hK);simp only[CB.b] at this;have e:=X2L es l d y';rw[e];exact this
       . cases h
     . cases h
   . cases h
 | mrng x=>cases h
 | mnxt x=>cases h
 | ment x=>cases h
 | gix g n s x=>cases h
 | mln x=>cases h
 | asl n s x hi =>
   simp only[X23] at h;split at h
   case h_2=>cases h
   rename_i k s' i j hx;split at h
   case h_2=>cases h
   split at h
   case h_2=>cases h
   split at h
   case h_2=>cases h
   rename_i n' s'' z rows hl;split at h
   case h_2=>cases h
   rename_i h1;split at h
   case h_2=>cases h
   rename_i h2;split at h
   case h_2=>cases h
   rename_i h3;split at h
   case h_2=>cases h
   rename_i m hm;rw[Q2N] at h;cases h;simp only[Q6a];refine J0F hx ?_;simp only[C.v,J0y hl,CB.b,h1,h2,h3];refine J21 hm ?_;rw[J9N];simpa[C.v] using hK
 | cpy s x y =>
   simp only[X23] at h;split at h
   case h_2=>cases h
   rename_i k s' lo len hx;split at h
   case h_2=>cases h
   rename_i y' hy;split at h
   case h_2=>cases h
   rename_i m z' rows' hsrc;split at h
   case h_2=>cases h
   rename_i n s'' z rows hl;split at h
   case h_2=>cases h
   rename_i h1;split at h
   case h_2=>cases h
   rename_i h2;split at h
   case h_2=>cases h
   rename_i h3;split at h
   case h_2=>cases h
   rename_i h4;split at h
   case h_2=>cases h
   rename_i hz;split at h
   case h_2=>cases h
   rename_i h6;have h6:=Nat.le_of_ble_eq_true h6;simp only[Q6a];refine J0F hx (J0F hy ?_);unfold vcpy;refine Q8S hsrc ?_;simp only[C.v,J0y hl,CB.b,h1,h2];have e1:=Nat.eq_of_beq_eq_true h1;subst e1;refine⟨Nat.le_of_ble_eq_true h3,Nat.le_of_ble_eq_true h4,?_⟩;rw[X0d] at h;split at h
   . rename_i h7;obtain⟨Q0F,g1,g2,g3,g4,g5⟩:=J5I _ _ _ _ _ h;obtain⟨o',c1,c2⟩:=J6x g1;rw[J4i] at c1;cases c1;have hl:(rows'.take m).length=m:=by simp;omega
     have g3:=g3 (fun e=>by rw[e] at hl;simp at hl;omega);rw[hl] at g3 g4;rw[Q1s g3 h7 (Q3F hz)];have:=c2 (fun own'=>K (.int .i64 m) own' (ksV ks)) (by simpa[C.v] using hK);simp only[CB.b,g4] at this;exact this
   . cases h
def Q45:C->Bool
 | .unit=>false
 | _=>true
noncomputable def X7v:C->Bool
 | .tup vs=>J8S Q45 vs
 | v=>Q45 v
theorem Q7T {c:C} {K:V->Prop} (h:Q45 c=true) (hK:K c.v):X0V c.v K:=by
 cases c<;>simp only[Q45,reduceCtorEq] at h<;>simp only[C.v] at hK<;>simp only[C.v,X0V]<;>first|exact hK|exact Q1G hK
theorem Q7S:∀{l:List C} {K:List V->Prop},J8S Q45 l=true->K (C.vs l)->X6h (C.vs l) K
 | [],K,_,hK=>by simpa[X6h,C.vs] using hK
 | c::r,K,h,hK=>by
   rw[Q1V,Bool.and_eq_true] at h;simp only[C.vs,X6h];exact Q7T h.1 (Q7S h.2 (by simpa[C.vs] using hK))
theorem X4L {c:C} {K:V->Prop} (h:X7v c=true) (hK:K c.v):X0U c.v K:=by
 by_cases ht:∃vs,c=.tup vs
 . obtain⟨vs,rfl⟩:=ht;simp only[C.v,X0U];exact Q7S h (by simpa[C.v] using hK)
 . have hu:Q45 c=true:=by
    cases c<;>first|exact h|exact(ht ⟨_,rfl⟩).elim
   have:=Q7T hu hK;cases c<;>first|exact(ht ⟨_,rfl⟩).elim|(simp only[C.v] at this ⊢;simp only[X0U];exact this)
abbrev J2J:=FuncId->List C->J0E->Nat->Option R
structure J8V (P:Program) (call:J2J):Prop where
 out:∀f args own ks r,call f args own ks=some r->J0M P f=true/\∀K:V->Own->List Nat->Prop,K r.v.v (J0L r.o) (ksV r.k)->J0G P f (C.vs args) (J0L own) (ksV ks) K
noncomputable def Q1B (call:J2J) (f:FuncId) (args:List C) (own:J0E) (ks:Nat):Option R:=match call f args own ks with
 | some r=>match X7v r.v with|true=>some r|false=>none
 | none=>none
noncomputable def o_p (b:Bool) (o:POp) (env:J1k) (own:J0E) (ks:Nat):Option R:=match o with
 | .slc s x lo hi mx same=>match mx with
   | none=>mkR (Y11 (match b with|true=>own|false=>[]) s x lo hi env) own ks
   | some mx=>match hi with
     | some hi=>mkR (X5x s x lo hi mx same env) own ks
     | none=>none
 | o=>mkR (J3o o env) own ks
noncomputable def X2F (sz:Option Nat) (x:X) (env:J1k) (own:J0E) (ks:Nat):Option R:=match gx x env with
 | some p=>mkR (X5C own sz p) own ks
 | none=>none
noncomputable def Q7n (sz:Nat) (a:X) (x:X) (env:J1k) (own:J0E) (ks:Nat):Option R:=match gx a env with
 | some p=>match gx x env with
   | some v=>Q2P own sz p v fun own'=>some ⟨.unit,own',ks⟩
   | none=>none
 | none=>none
noncomputable def X7d (x:X) (env:J1k) (own:J0E) (ks:Nat):Option R:=mkR (gx x env) own ks
noncomputable def X2G (call:J2J) (f:FuncId) (args:List X) (env:J1k) (own:J0E) (ks:Nat):Option R:=match gxs env args with
 | some vs=>Q1B call f vs own ks
 | none=>none
noncomputable def Q7o (call:J2J) (x:X) (args:List X) (env:J1k) (own:J0E) (ks:Nat):Option R:=match gx x env with
 | some (.fn (.func g) bd cap)=>match gxs env args with
   | some vs=>match bd with
     | true=>fL (List.append cap vs) fun l=>Q1B call g l own ks
     | false=>fL (List.append vs cap) fun l=>Q1B call g l own ks
   | none=>none
 | _=>none
noncomputable def Q7p (zs:List V) (ps:List (Nat×Nat×X)) (env:J1k) (own:J0E) (ks:Nat):Option R:=match X6f zs with
 | some zc=>match Q9b env ps zc with
   | some cs=>some ⟨.agg cs,own,ks⟩
   | none=>none
 | none=>none
noncomputable def Q7q (zs:List V) (env:J1k) (own:J0E) (ks:Nat):Option R:=match X6f zs with
 | some zc=>frC ks fun k ks=>some ⟨.loc k 0,(k,.cells zc)::own,ks⟩
 | none=>none
noncomputable def X7c (x:X) (env:J1k) (own:J0E) (ks:Nat):Option R:=match gx x env with
 | some v=>match Q4I v with
   | some cs=>frC ks fun k ks=>some ⟨.loc k 0,(k,.cells cs)::own,ks⟩
   | none=>none
 | none=>none
noncomputable def Q3T (s:Nat) (n:Nat) (xs:List X) (env:J1k) (own:J0E) (ks:Nat):Option R:=match gxs env xs with
 | some vs=>match J8S Q5X vs with
   | true=>match Q8U s vs with
     | some rs=>frC ks fun k ks=>some ⟨.vec k s 0 n,(k,.vec n s [] rs)::own,ks⟩
     | none=>none
   | false=>match Q9a s vs with
     | some cs=>frC ks fun k ks=>some ⟨.vec k s 0 n,(k,.cells cs)::own,ks⟩
     | none=>none
 | none=>none
noncomputable def X7e (s:Nat) (bytes:Nat) (x:X) (y:X) (env:J1k) (own:J0E) (ks:Nat):Option R:=match gx x env with
 | some a=>match gx y env with
   | some c=>X5K own ks s bytes a c
   | none=>none
 | none=>none
noncomputable def o_xt (o:XOp) (env:J1k) (own:J0E) (ks:Nat):Option R:=X23 o env own ks
noncomputable def Q3U (n:Nat) (z:V) (_:J1k) (own:J0E) (ks:Nat):Option R:=match X6g z with
 | some c=>frC ks fun k ks=>fL (X6d n [c]) fun l=>some ⟨.oel k 1 0 0,(k,.vec n 1 [c] l)::own,ks⟩
 | none=>none
theorem Q28 (z:C) (m:Nat):(fun(_ _:Nat)=>z.v)=J4r (C.vs [z]) (C.vss (List.replicate m [z])):=by
 funext i j;simp only[J4r,C.vs,J3F];simp only[List.getD_eq_getElem?_getD,C.vss_get,List.getElem?_replicate];by_cases h:i<m
 . cases j<;>simp[h,C.vs]
 . cases j<;>simp[h]
noncomputable def cop (call:J2J) (b:Bool) (op:SOp) (env:J1k) (own:J0E) (ks:Nat):Option R :=
 match op with
 | .p o=>o_p b o env own ks
 | .load sz x=>X2F sz x env own ks
 | .store sz a x=>Q7n sz a x env own ks
 | .asg x=>X7d x env own ks
 | .call f args=>X2G call f args env own ks
 | .callv x args=>Q7o call x args env own ks
 | .build zs ps=>Q7p zs ps env own ks
 | .alloc zs=>Q7q zs env own ks
 | .box x=>X7c x env own ks
 | .bslice s n xs=>Q3T s n xs env own ks
 | .app s bytes x y=>X7e s bytes x y env own ks
 | .xt o=>o_xt o env own ks
 | .clr _ _ _=>none
 | .alloca n z=>Q3U n z env own ks
def X6a (b:Bool) (P:Program) (op:SOp) (env:Env) (own:Own) (ks:List Nat) (K:V->Own->List Nat->Prop):Prop :=
 match b with
 | true=>Q3k P op env own ks K
 | false=>vop P op env own ks K
theorem J13 {b:Bool} {P:Program} {op:SOp} {env:Env} {own:Own} {ks:List Nat} {K:V->Own->List Nat->Prop} (hne:∀s x lo hi mx same,op≠.p (.slc s x lo hi mx same)) (h:vop P op env own ks K):X6a b P op env own ks K:=by
 cases b with
 | false=>exact h
 | true =>
   show Q3k P op env own ks K;unfold Q3k;split
   . exact(hne _ _ _ _ _ _ rfl).elim
   . exact h
theorem J7r {P:Program} {call:J2J} (hcall:J8V P call) {f:FuncId} {args:List C} {own:J0E} {ks:Nat} {r:R} {K:V->Own->List Nat->Prop} (h:Q1B call f args own ks=some r) (hK:K r.v.v (J0L r.o) (ksV r.k)) :
 J0M P f=true/\J0G P f (C.vs args) (J0L own) (ksV ks) fun v own ks=>X0U v fun v=>K v own ks:=by
 unfold Q1B at h;split at h
 . rename_i r' hr;split at h
   . rename_i hl;cases h;obtain⟨a,b⟩:=hcall.out _ _ _ _ _ hr;exact⟨a,b _ (X4L hl hK)⟩
   . cases h
 . cases h
theorem Q8V {P:Program} {call:J2J} (hcall:J8V P call) {b:Bool} {op:SOp} {env:J1k} {own:J0E} {ks:Nat} {r:R} {K:V->Own->List Nat->Prop} (h:cop call b op env own ks=some r) (hK:K r.v.v (J0L r.o) (ksV r.k)) :
 X6a b P op (J29 env) (J0L own) (ksV ks) K:=by
 cases op with
 | p o =>
   simp only[cop,o_p] at h;split at h
   . split at h
     . rename_i s x lo hi mx same _;obtain⟨h1,h2,h3⟩:=Q0X h;rw[h2,h3] at hK;cases b with
       | true =>
         simp only[X6a,Q3k];exact Q8T h1 hK
       | false =>
         simp only[X6a,vop,J2B];exact Q8T (own:=[]) h1 hK
     . split at h
       . obtain⟨h1,h2,h3⟩:=Q0X h;rw[h2,h3] at hK;cases b with
         | true=>simp only[X6a,Q3k];exact Q4x h1 hK
         | false=>simp only[X6a,vop,J2B];exact Q4x h1 hK
       . cases h
   . rename_i hne;obtain⟨h1,h2,h3⟩:=Q0X h;rw[h2,h3] at hK;refine J13 (fun s x lo hi mx same e=>?_) ?_
     . cases e;exact hne _ _ _ _ _ _ rfl
     . simp only[vop];exact X1E h1 hK
 | load sz x =>
   refine J13 (fun _ _ _ _ _ _ e=>by cases e) ?_;simp only[cop,X2F] at h;split at h
   . rename_i p hp;obtain⟨h1,h2,h3⟩:=Q0X h;rw[h2,h3] at hK;simp only[vop];exact J0F hp (X1J h1 hK)
   . cases h
 | store sz a x =>
   refine J13 (fun _ _ _ _ _ _ e=>by cases e) ?_;simp only[cop,Q7n] at h;split at h
   . rename_i p hp;split at h
     . rename_i v hv;obtain⟨o',c1,c2⟩:=Q5F h;cases c1;simp only[vop];exact J0F hp (J0F hv (c2 _ (by simpa[C.v] using hK)))
     . cases h
   . cases h
 | asg x =>
   refine J13 (fun _ _ _ _ _ _ e=>by cases e) ?_;simp only[cop,X7d] at h;obtain⟨h1,h2,h3⟩:=Q0X h;rw[h2,h3] at hK;simp only[vop];exact J0F h1 hK
 | call f args =>
   refine J13 (fun _ _ _ _ _ _ e=>by cases e) ?_;simp only[cop,X2G] at h;split at h
   . rename_i vs hvs;simp only[vop];exact Q1l hvs (J7r hcall h hK).2
   . cases h
 | callv x args =>
   refine J13 (fun _ _ _ _ _ _ e=>by cases e) ?_;simp only[cop,Q7o] at h;split at h
   . rename_i g bd cap hx;split at h
     . rename_i vs hvs;simp only[vop];refine J0F hx (Q1l hvs ?_);simp only[C.v,X3K];cases bd with
       | true =>
         simp only at h;rw[J44] at h;obtain⟨a1,a2⟩:=J7r hcall h hK;refine⟨a1,?_⟩;have e:C.vs (cap.append vs)=C.vs cap++C.vs vs:=by rw[C.vs_map,C.vs_map,C.vs_map];simp
         rw[e] at a2;exact a2
       | false =>
         simp only at h;rw[J44] at h;obtain⟨a1,a2⟩:=J7r hcall h hK;refine⟨a1,?_⟩;have e:C.vs (vs.append cap)=C.vs vs++C.vs cap:=by rw[C.vs_map,C.vs_map,C.vs_map];simp
         rw[e] at a2;exact a2
     . cases h
   . cases h
 | build zs ps =>
   refine J13 (fun _ _ _ _ _ _ e=>by cases e) ?_;simp only[cop,Q7p] at h;split at h
   . rename_i zc hz;have:=J6U zs hz;subst this;split at h
     . rename_i cs hcs;cases h;simp only[vop];exact Q4H hcs (by simpa[C.v] using hK)
     . cases h
   . cases h
 | alloc zs =>
   refine J13 (fun _ _ _ _ _ _ e=>by cases e) ?_;simp only[cop,Q7q] at h;split at h
   . rename_i zc hz;have:=J6U zs hz;subst this;obtain⟨h,b1⟩:=J3S h;cases h;simp only[vop];exact b1 _ (by simpa[C.v,J0L,CB.b] using hK)
   . cases h
 | box x =>
   refine J13 (fun _ _ _ _ _ _ e=>by cases e) ?_;simp only[cop,X7c] at h;split at h
   . rename_i v hv;split at h
     . rename_i cs hcs;obtain⟨h,b1⟩:=J3S h;cases h;simp only[vop];exact J0F hv (J3p hcs (b1 _ (by simpa[C.v,J0L,CB.b] using hK)))
     . cases h
   . cases h
 | bslice s n xs =>
   refine J13 (fun _ _ _ _ _ _ e=>by cases e) ?_;simp only[cop,Q3T] at h;split at h
   . rename_i vs hvs;simp only[vop];refine Q1l hvs ?_;rw[J3a J65];split at h
     . rename_i hk;simp only[hk];split at h
       . rename_i rs hrs;obtain⟨h,b1⟩:=J3S h;cases h;refine Q4y hrs (b1 _ ?_);simpa[C.v,J0L,CB.b,C.vs,Q3z] using hK
       . cases h
     . rename_i hk;simp only[hk];split at h
       . rename_i cs hcs;obtain⟨h,b1⟩:=J3S h;cases h;refine Q4G hcs (b1 _ ?_);simpa[C.v,J0L,CB.b] using hK
       . cases h
   . cases h
 | app s bytes x y =>
   refine J13 (fun _ _ _ _ _ _ e=>by cases e) ?_;simp only[cop,X7e] at h;split at h
   . rename_i a ha;split at h
     . rename_i c hc;simp only[vop];exact J0F ha (J0F hc (X1R h hK))
     . cases h
   . cases h
 | xt o =>
   refine J13 (fun _ _ _ _ _ _ e=>by cases e) ?_;simp only[cop,o_xt] at h;simp only[vop];exact X5u h hK
 | clr s zs x=>cases h
 | alloca n z =>
   refine J13 (fun _ _ _ _ _ _ e=>by cases e) ?_;simp only[cop,Q3U] at h;split at h
   . rename_i c hc;have:=Q2v hc;subst this;obtain⟨h,b1⟩:=J3S h;rw[J44,J9m] at h;cases h;simp only[vop];refine b1 _ ?_;rw[Q28 c n];simpa[C.v,J0L,CB.b] using hK
   . cases h
end Go.Eng
