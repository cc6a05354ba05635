import Derived.Test.YtefdkgkojlflaaaGreatDoorEvC
import Derived.WalkKit
import Derived.Defers
import Derived.Recover
import Derived.Laws.Pointers
import Derived.Lib.Walk
import Derived.Lib.Strings
import Derived.Lib.Bytealg
import Derived.Laws.Strings3
namespace Go.Eng
theorem Q5H {own:Own} {ks:List Nat} {s bytes:Nat} {x y:V} {K:V->Own->List Nat->Prop} (hn:∀k n s l f op,look own k=some (.fam n s l f op)->False) (h:J7Q own ks s bytes x y K):Q9n own ks s bytes x y K:=by
 unfold Q9n;split
 . split
   . rename_i hlook;exact(hn _ _ _ _ _ _ hlook).elim
   . exact h
 . exact h
theorem Q4J {o:J0B}:∀k n s l f op,look (J0L o) k=some (.fam n s l f op)->False:=fun k n s l f op h=>by
 obtain⟨p,hp,e⟩:=List.mem_map.1 (J0i h);have e2:p.2.b=.fam n s l f op:=congrArg Prod.snd e;cases hq:p.2<;>rw[hq] at e2<;>cases e2
noncomputable def mkR (c:Option C) (own:J0B) (ks:Nat):Option R:=match c with
 | some v=>some ⟨v,own,ks⟩
 | none=>none
theorem Q0s {c:Option C} {own:J0B} {ks:Nat} {r:R} (h:mkR c own ks=some r):c=some r.v/\r.o=own/\r.k=ks:=by
 unfold mkR at h;split at h
 . cases h;exact⟨rfl,rfl,rfl⟩
 . cases h
noncomputable def Q8l (env:J1i):List (Nat×Nat×X)->List C->Option (List C)
 | [],zs=>some zs
 | (off,size,x)::r,zs=>match gx x env with
   | some v=>match J7E size v with
     | some vs=>match Nat.ble (off+size) (ln zs) with
       | true=>stC zs off vs fun zs'=>Q8l env r zs'
       | false=>none
     | none=>none
   | none=>none
theorem Q3X {env:J1i}:∀{ps:List (Nat×Nat×X)} {zs out:List C} {K:List V->Prop},Q8l env ps zs=some out->K (C.vs out)->Q1Y (J21 env) ps (C.vs zs) K
 | [],zs,out,K,h,hK=>by simp only[Q8l,Option.some.injEq] at h;subst h;simpa[Q1Y] using hK
 | (off,size,x)::r,zs,out,K,h,hK=>by
   simp only[Q8l] at h;split at h
   . rename_i v hv;split at h
     . rename_i vs hvs;split at h
       . rename_i hle;obtain⟨a1,a2,a3,a4⟩:=J3U hvs;obtain⟨zs',b1,b2,b3,b4,b5⟩:=J5J _ _ _ _ _ h;simp only[Q1Y];refine J0G hv (J3j a1 ?_);rw[X0t] at hle;have hle':Nat.ble (off+size) (C.vs zs).length=true:=by rw[C.vs_length];exact hle
         simp only[a3,a4,hle'];rw[C.vs_map,C.vs_map];refine b5 C.v _ ?_;have:=Q3X b1 hK
         rwa[C.vs_map] at this
       . cases h
     . cases h
   . cases h
noncomputable def Q72 (s:Nat):List C->Option (List (List C))
 | []=>some []
 | v::r=>match J7E s v with
   | some vs=>match J8H Q8Y vs with
     | true=>match Q72 s r with
       | some l=>some (vs::l)
       | none=>none
     | false=>none
   | none=>none
theorem Q3P {s:Nat}:∀{l:List C} {rs:List (List C)} {K:List (List V)->Prop},Q72 s l=some rs->K (C.vss rs)->Q4B s (C.vs l) K
 | [],rs,K,h,hK=>by simp only[Q72,Option.some.injEq] at h;subst h;simpa[Q4B,C.vs,C.vss] using hK
 | v::r,rs,K,h,hK=>by
   simp only[Q72] at h;split at h
   . rename_i vs hvs;split at h
     . rename_i hkf;split at h
       . rename_i l hl;cases h;obtain⟨a1,a2,a3,a4⟩:=J3U hvs;simp only[C.vs,Q4B];refine J3j a1 ?_;have hkf':J24 V.kf1 (C.vs vs)=true:=by rw[J22 J9i];exact hkf
         simp only[a3,a4,hkf'];exact Q3P hl (by simpa[C.vss] using hK)
       . cases h
     . cases h
   . cases h
noncomputable def Q8k (s:Nat):List C->Option (List C)
 | []=>some []
 | v::r=>match J7E s v with
   | some vs=>match Q8k s r with
     | some l=>apK s vs l some
     | none=>none
   | none=>none
theorem Q3W {s:Nat}:∀{l rs:List C} {K:List V->Prop},Q8k s l=some rs->K (C.vs rs)->flatK s (C.vs l) K
 | [],rs,K,h,hK=>by simp only[Q8k,Option.some.injEq] at h;subst h;simpa[flatK,C.vs] using hK
 | v::r,rs,K,h,hK=>by
   simp only[Q8k] at h;split at h
   . rename_i vs hvs;split at h
     . rename_i l hl;obtain⟨a1,a2,a3,a4⟩:=J3U hvs;rw[X2Y,if_pos (by omega),<- a2,List.take_length] at h;cases h;simp only[C.vs,flatK];refine J3j a1 ?_;simp only[a3,a4];refine Q3W hl ?_;simpa[C.vs_map] using hK
     . cases h
   . cases h
noncomputable def X5s {α:Type} (n:Nat) (x:α):List α:=@Nat.rec (fun _=>List α) [] (fun _ ih=>x::ih) n
theorem J80 {α:Type} (n:Nat) (x:α):X5s n x=List.replicate n x:=by
 induction n with
 | zero=>rfl
 | succ n ih=>show x::X5s n x=_;rw[ih];rfl
noncomputable def fL {α β:Type} (l:List α):(List α->β)->β:=@List.rec α (fun _=>(List α->β)->β) (fun K=>K []) (fun x _ ih K=>ih fun r=>K (x::r)) l
theorem J44 {α β:Type}:∀(l:List α) (K:List α->β),fL l K=K l
 | [],_=>rfl
 | x::r,K=>J44 r fun r=>K (x::r)
noncomputable def mfI (es:List (Int×C)) (a:Int):Option C:=@List.rec (Int×C) (fun _=>Option C) none (fun p _ ih=>match ieq p.1 a with|true=>some p.2|false=>ih) es
theorem X2d {ik:IntKind}:∀(es:List (Int×C)) (a:Int),J14 (α:=KyT (.one ik)) (es.map fun p=>(p.1,p.2.v)) a=(mfI es a).map C.v
 | [],a=>rfl
 | (q,c)::r,a=>by
   have ih:=X2d (ik:=ik) r a;have e:mfI ((q,c)::r) a=match ieq q a with|true=>some c|false=>mfI r a:=rfl
   rw[e];simp only[List.map_cons,J14,ih];have:=J41 q a;by_cases h:q=a
   . rw[if_pos h];subst h;simp[this]
   . rw[if_neg h];have:ieq q a=false:=by rw[this];simpa using h
     rw[this]
noncomputable def mpI (es:List (Int×C)) (a:Int) (v:C):List (Int×C):=@List.rec (Int×C) (fun _=>List (Int×C)) [(a,v)] (fun p r ih=>match ieq p.1 a with|true=>(p.1,v)::r|false=>p::ih) es
theorem X2b {ik:IntKind}:∀(es:List (Int×C)) (a:Int) (v:C),mput (α:=KyT (.one ik)) (es.map fun p=>(p.1,p.2.v)) a v.v=(mpI es a v).map fun p=>(p.1,p.2.v)
 | [],a,v=>rfl
 | (q,c)::r,a,v=>by
   have ih:=X2b (ik:=ik) r a v;have e:mpI ((q,c)::r) a v=match ieq q a with|true=>(q,v)::r|false=>(q,c)::mpI r a v:=rfl
   rw[e];simp only[List.map_cons,mput,ih];have:=J41 q a;by_cases h:q=a
   . rw[if_pos h];subst h;simp[this]
   . rw[if_neg h];have:ieq q a=false:=by rw[this];simpa using h
     rw[this];simp
noncomputable def mfS (es:List ((Nat×Nat)×C)) (l d:Nat):Option C:=@List.rec ((Nat×Nat)×C) (fun _=>Option C) none (fun p _ ih=>match eqS p.1.1 p.1.2 l d with|true=>some p.2|false=>ih) es
theorem J9p {l c l' c':Nat}:eqS l c l' c'=true↔J0t l c=J0t l' c':=by rw[Q3I];exact Go.MapKept.bytes_beq _ _
theorem X2c:∀(es:List ((Nat×Nat)×C)) (l d:Nat),J14 (α:=KyT .str) (es.map fun p=>(J0t p.1.1 p.1.2,p.2.v)) (J0t l d)=(mfS es l d).map C.v
 | [],l,d=>rfl
 | ((q1,q2),c)::r,l,d=>by
   have ih:=X2c r l d;have e:mfS (((q1,q2),c)::r) l d=match eqS q1 q2 l d with|true=>some c|false=>mfS r l d:=rfl
   rw[e];simp only[List.map_cons,J14,ih];by_cases h:J0t q1 q2=J0t l d
   . rw[if_pos h,J9p.2 h];rfl
   . rw[if_neg h];have:eqS q1 q2 l d=false:=by rw[<- Bool.not_eq_true];exact fun e=>h (J9p.1 e)
     rw[this]
noncomputable def mpS (es:List ((Nat×Nat)×C)) (l d:Nat) (v:C):List ((Nat×Nat)×C):=@List.rec ((Nat×Nat)×C) (fun _=>List ((Nat×Nat)×C)) [((l,d),v)] (fun p r ih=>match eqS p.1.1 p.1.2 l d with|true=>(p.1,v)::r|false=>p::ih) es
theorem X2a:∀(es:List ((Nat×Nat)×C)) (l d:Nat) (v:C),mput (α:=KyT .str) (es.map fun p=>(J0t p.1.1 p.1.2,p.2.v)) (J0t l d) v.v=(mpS es l d v).map fun p=>(J0t p.1.1 p.1.2,p.2.v)
 | [],l,d,v=>rfl
 | ((q1,q2),c)::r,l,d,v=>by
   have ih:=X2a r l d v;have e:mpS (((q1,q2),c)::r) l d v=match eqS q1 q2 l d with|true=>((q1,q2),v)::r|false=>((q1,q2),c)::mpS r l d v:=rfl
   rw[e];simp only[List.map_cons,mput,ih];by_cases h:J0t q1 q2=J0t l d
   . rw[if_pos h,J9p.2 h];rfl
   . rw[if_neg h];have:eqS q1 q2 l d=false:=by rw[<- Bool.not_eq_true];exact fun e=>h (J9p.1 e)
     rw[this];rfl
noncomputable def X6W (z:V) (comma:Bool) (own:J0B) (ks:Nat) (o:Option C):Option R :=
 match o with
 | some v=>match comma with|true=>some ⟨.tup [v,.bool true],own,ks⟩|false=>some ⟨v,own,ks⟩
 | none=>match ofV z with
   | some c=>match comma with|true=>some ⟨.tup [c,.bool false],own,ks⟩|false=>some ⟨c,own,ks⟩
   | none=>none
def X7P (comma:Bool) (b:Bool) (K:V->Prop) (v:V):Prop:=match comma with|true=>K (.tup [v,.bool b])|false=>K v
theorem Q7y {z:V} {comma:Bool} {own:J0B} {ks:Nat} {o:Option C} {r:R} {K:V->Own->List Nat->Prop} (h:X6W z comma own ks o=some r) (hK:K r.v.v (J0L r.o) (ksV r.k)) {o':Option V} (ho:o'=o.map C.v) :
 X5p o' (X7P comma true fun v=>K v (J0L own) (ksV ks)) (X7P comma false (fun v=>K v (J0L own) (ksV ks)) z):=by
 subst ho;cases o with
 | some v =>
   refine⟨fun v' hv=>?_,fun e=>(by cases e)⟩;cases hv;cases comma<;>(simp only[X6W,Option.some.injEq] at h;subst h;simpa[C.v,C.vs,X7P] using hK)
 | none =>
   refine⟨fun v' hv=>(by cases hv),fun _=>?_⟩;simp only[X6W] at h;split at h
   . rename_i c hc;have:=X13 z hc;subst this;cases comma<;>(simp only[Option.some.injEq] at h;subst h;simpa[C.v,C.vs,X7P] using hK)
   . cases h
noncomputable def X2z (o:XOp) (env:J1i) (own:J0B) (ks:Nat):Option R :=
 match o with
 | .mks s bytes zs x=>match gx x env with
   | some (.int _ (.ofNat m))=>match Nat.ble m 4611686018427387904 with
     | true=>match Nat.ble (m*bytes) 140737488355328 with
       | true=>match X5u zs with
         | some zc=>frC ks fun k ks=>match s with
           | 1=>match zc with
             | [.nilslice]=>fL (X5s m C.nilslice) fun l=>some ⟨.vec k 1 0 m,(k,.cells l)::own,ks⟩
             | zc=>fL (X5s m zc) fun l=>fL (List.append zc [.bool false]) fun z=>some ⟨.vec k 1 0 m,(k,.vec m 1 z l)::own,ks⟩
           | s=>fL (X5s m zc) fun l=>fL (List.append zc [.bool false]) fun z=>some ⟨.vec k s 0 m,(k,.vec m s z l)::own,ks⟩
         | none=>none
       | false=>none
     | false=>none
   | _=>none
 | .mkmap ik=>match ik with
   | .one ik=>frC ks fun k ks=>some ⟨.map k,(k,.map ik [])::own,ks⟩
   | .str=>frC ks fun k ks=>some ⟨.map k,(k,.mapS [])::own,ks⟩
   | .pair _=>none
   | .st _=>none
 | .mget ik z comma m x=>match gx m env with
   | some (.map k)=>match gx x env with
     | some x=>match lk own k with
       | some (.map ik' es)=>match ik with
         | .one i=>match kEq ik' i with
           | true=>match x with
             | .int i' a=>match kEq i' ik' with
               | true=>X6W z comma own ks (mfI es a)
               | false=>none
             | _=>none
           | false=>none
         | _=>none
       | some (.mapS es)=>match ik with
         | .str=>match x with
           | .str l d=>X6W z comma own ks (mfS es l d)
           | _=>none
         | _=>none
       | _=>none
     | none=>none
   | _=>none
 | .mput ik m x y=>match gx m env with
   | some (.map k)=>match gx x env with
     | some x=>match gx y env with
       | some y=>match Q5l y with
         | true=>match lk own k with
           | some (.map ik' es)=>match ik with
             | .one i=>match kEq ik' i with
               | true=>match x with
                 | .int i' a=>match kEq i' ik' with
                   | true=>fL (mpI es a y) fun es'=>upC k (.map ik' es') own fun own'=>some ⟨.unit,own',ks⟩
                   | false=>none
                 | _=>none
               | false=>none
             | _=>none
           | some (.mapS es)=>match ik with
             | .str=>match x with
               | .str l d=>fL (mpS es l d y) fun es'=>upC k (.mapS es') own fun own'=>some ⟨.unit,own',ks⟩
               | _=>none
             | _=>none
           | _=>none
         | false=>none
       | none=>none
     | none=>none
   | _=>none
 | .asl n s x hi=>match gx x env with
   | some (.oel k s' i j)=>match i with
     | 0=>match j with
       | 0=>match lk own k with
         | some (.vec n' s'' z rows)=>match Nat.beq s s' with
           | true=>match Nat.beq s s'' with
             | true=>match Nat.ble n n' with
               | true=>match cbd hi env n n with
                 | some h=>Y1y (Q43 [k] own) fun own'=>some ⟨.fz h s false z rows,own',ks⟩
                 | none=>none
               | false=>none
             | false=>none
           | false=>none
         | _=>none
       | _=>none
     | _=>none
   | _=>none
 | .cpy s x y=>match gx x env with
   | some (.vec k s' lo len)=>match gx y env with
     | some y=>match X7U own s y with
       | some (m,z',rows')=>match lk own k with
         | some (.vec n s'' z rows)=>match Nat.beq s s' with
           | true=>match Nat.beq s s'' with
             | true=>match Nat.ble m len with
               | true=>match Nat.ble (lo+m) n with
                 | true=>match Q9P z z' with
                   | true=>match Nat.ble 1 m with
                     | true=>tk m rows' fun q=>stC rows lo q fun J8Z=>upC k (.vec n s z J8Z) own fun own'=>fN m fun m'=>some ⟨.int .i64 (.ofNat m'),own',ks⟩
                     | false=>none
                   | false=>none
                 | false=>none
               | false=>none
             | false=>none
           | false=>none
         | _=>none
       | none=>none
     | none=>none
   | _=>none
 | _=>none
theorem Q7d (l:List V) (v:V):J3G (l++[v])=v:=by
 induction l with
 | nil=>rfl
 | cons x r ih =>
   cases r with
   | nil=>rfl
   | cons y r=>simpa[J3G] using ih
theorem Q3g (z:List C) (m:Nat):(fun(_:Nat) j=>(C.vs z).getD j default)=J4s (C.vs (z.append [.bool false])) (C.vss (List.replicate m z)):=by
 funext i j;have e:C.vs (z.append [.bool false])=C.vs z++[default]:=by rw[C.vs_map,C.vs_map];simp[C.v];rfl
 simp only[J4s,e,Q7d];simp only[List.getD_eq_getElem?_getD,C.vss_get,List.getElem?_replicate];by_cases h:i<m
 . simp[h]
 . simp only[h,if_false,Option.map_none,Option.getD_none];by_cases h2:j<(C.vs z).length
   . rw[List.getElem?_append_left h2]
   . rw[List.getElem?_append_right (by omega),List.getElem?_eq_none (by omega)];cases j-(C.vs z).length<;>simp
theorem X4T {o:XOp} {env:J1i} {own:J0B} {ks:Nat} {r:R} {K:V->Own->List Nat->Prop} (h:X2z o env own ks=some r) (hK:K r.v.v (J0L r.o) (ksV r.k)):Q5y o (J21 env) (J0L own) (ksV ks) K:=by
 cases o with
 | mks s bytes zs x =>
   simp only[X2z] at h;split at h
   case h_2=>cases h
   rename_i k m hx;split at h
   case h_2=>cases h
   rename_i h1;split at h
   case h_2=>cases h
   rename_i h2;split at h
   case h_2=>cases h
   rename_i zc hz;have hzs:=J60 zs hz;subst hzs;simp only[Q5y];refine J0G hx ?_;simp only[C.v];refine⟨m,rfl,Nat.le_of_ble_eq_true h1,Nat.le_of_ble_eq_true h2,?_⟩;obtain⟨h,b1⟩:=J3S h;refine b1 _ ?_;unfold X7N;split
   . split at h
     . split at h
       . rename_i hs _ _;rw[J44,J80] at h;cases h;refine .cells ?_;have e1:(C.vs [C.nilslice]).getD 0 default=.nilslice:=by simp[C.vs,C.v]
         rw[e1];have e2:C.vs (List.replicate m C.nilslice)=List.replicate m .nilslice:=by rw[C.vs_map,List.map_replicate];simp[C.v]
         simp only[C.v,J0L,List.map_cons,CB.b,e2] at hK;exact hK
       . rw[J44,J80,J44] at h;cases h;refine .vec ?_;rw[Q3g zc m];simpa[C.v,J0L,CB.b] using hK
     . rename_i hne;exact(hne rfl).elim
   . rename_i hne;split at h
     . exact(hne rfl).elim
     . rw[J44,J80,J44] at h;cases h;rw[Q3g zc m];simpa[C.v,J0L,CB.b] using hK
 | mkmap ik =>
   simp only[X2z] at h;split at h
   . obtain⟨h,b1⟩:=J3S h;cases h;simp only[Q5y];exact b1 _ (by simpa[C.v,J0L,CB.b] using hK)
   . obtain⟨h,b1⟩:=J3S h;cases h;simp only[Q5y];exact b1 _ (by simpa[C.v,J0L,CB.b] using hK)
   . cases h
   . cases h
 | mget ik z comma m x =>
   simp only[X2z] at h;split at h
   case h_2=>cases h
   rename_i k hm;split at h
   case h_2=>cases h
   rename_i x' hx;simp only[Q5y];refine J0G hm (J0G hx ?_);split at h
   . rename_i ik' es hl;split at h
     . rename_i i;split at h
       . rename_i hk;have:=J5P hk;subst this;split at h
         . rename_i i' a;split at h
           . rename_i hk2;have:=J5P hk2;subst this;simp only[C.v,Q8V,J0z hl,CB.b,decide_true,J6W];have:=Q7y h hK (X2d (ik:=i') es a);cases comma<;>exact this
           . cases h
         . cases h
       . cases h
     . cases h
   . rename_i es hl;split at h
     . split at h
       . rename_i l d;simp only[C.v,Q8V,J0z hl,CB.b,decide_true,J6W];have:=Q7y h hK (X2c es l d);cases comma<;>exact this
       . cases h
     . cases h
   . cases h
 | mput ik m x y =>
   simp only[X2z] at h;split at h
   case h_2=>cases h
   rename_i k hm;split at h
   case h_2=>cases h
   rename_i x' hx;split at h
   case h_2=>cases h
   rename_i y' hy;split at h
   case h_2=>cases h
   rename_i hkf;have hkf':y'.v.kf2=true:=by rw[J69];exact hkf
   simp only[Q5y];refine J0G hm (J0G hx (J0G hy ?_));split at h
   . rename_i ik' es hl;split at h
     . rename_i i;split at h
       . rename_i hk;have:=J5P hk;subst this;split at h
         . rename_i i' a;split at h
           . rename_i hk2;have:=J5P hk2;subst this;rw[J44] at h;obtain⟨o',c1,c2⟩:=J6v h;cases c1;simp only[C.v,Q8V,J0z hl,CB.b,decide_true,J6W,hkf'];have:=c2 (fun own=>K (.raw (.tuple #[])) own (ksV ks)) (by simpa[C.v] using hK);simp only[CB.b] at this;have e:=X2b (ik:=i') es a y';rw[e];exact this
           . cases h
         . cases h
       . cases h
     . cases h
   . rename_i es hl;split at h
     . split at h
       . rename_i l d;rw[J44] at h;obtain⟨o',c1,c2⟩:=J6v h;cases c1;simp only[C.v,Q8V,J0z hl,CB.b,decide_true,J6W,hkf'];have:=c2 (fun own=>K (.raw (.tuple #[])) own (ksV ks)) (by simpa[C.v] using hK);simp only[CB.b] at this;have e:=X2a es l d y';rw[e];exact this
       . cases h
     . cases h
   . cases h
 | mrng x=>cases h
 | mnxt x=>cases h
 | ment x=>cases h
 | gix g n s x=>cases h
 | mln x=>cases h
 | asl n s x hi =>
   simp only[X2z] at h;split at h
   case h_2=>cases h
   rename_i k s' i j hx;split at h
   case h_2=>cases h
   split at h
   case h_2=>cases h
   split at h
   case h_2=>cases h
   rename_i n' s'' z rows hl;split at h
   case h_2=>cases h
   rename_i h1;split at h
   case h_2=>cases h
   rename_i h2;split at h
   case h_2=>cases h
   rename_i h3;split at h
   case h_2=>cases h
   rename_i m hm;rw[Q1Z] at h;cases h;simp only[Q5y];refine J0G hx ?_;simp only[C.v,J0z hl,CB.b,h1,h2,h3];refine J2W hm ?_;rw[J9r];simpa[C.v] using hK
 | cpy s x y =>
   simp only[X2z] at h;split at h
   case h_2=>cases h
   rename_i k s' lo len hx;split at h
   case h_2=>cases h
   rename_i y' hy;split at h
   case h_2=>cases h
   rename_i m z' rows' hsrc;split at h
   case h_2=>cases h
   rename_i n s'' z rows hl;split at h
   case h_2=>cases h
   rename_i h1;split at h
   case h_2=>cases h
   rename_i h2;split at h
   case h_2=>cases h
   rename_i h3;split at h
   case h_2=>cases h
   rename_i h4;split at h
   case h_2=>cases h
   rename_i hz;split at h
   case h_2=>cases h
   rename_i h6;have h6:=Nat.le_of_ble_eq_true h6;simp only[Q5y];refine J0G hx (J0G hy ?_);unfold vcpy;refine Q70 hsrc ?_;simp only[C.v,J0z hl,CB.b,h1,h2];have e1:=Nat.eq_of_beq_eq_true h1;subst e1;refine⟨Nat.le_of_ble_eq_true h3,Nat.le_of_ble_eq_true h4,?_⟩;rw[Q9w] at h;split at h
   . rename_i h7;obtain⟨J8Z,g1,g2,g3,g4,g5⟩:=J5J _ _ _ _ _ h;obtain⟨o',c1,c2⟩:=J6v g1;rw[J4k] at c1;cases c1;have hl:(rows'.take m).length=m:=by simp;omega
     have g3:=g3 (fun e=>by rw[e] at hl;simp at hl;omega);rw[hl] at g3 g4;rw[Q0Q g3 h7 (Q2U hz)];have:=c2 (fun own'=>K (.int .i64 m) own' (ksV ks)) (by simpa[C.v] using hK);simp only[CB.b,g4] at this;exact this
   . cases h
def Q4p:C->Bool
 | .unit=>false
 | _=>true
noncomputable def X6K:C->Bool
 | .tup vs=>J8H Q4p vs
 | v=>Q4p v
theorem Q62 {c:C} {K:V->Prop} (h:Q4p c=true) (hK:K c.v):X0v c.v K:=by
 cases c<;>simp only[Q4p,reduceCtorEq] at h<;>simp only[C.v] at hK<;>simp only[C.v,X0v]<;>first|exact hK|exact Q04 hK
theorem Q61:∀{l:List C} {K:List V->Prop},J8H Q4p l=true->K (C.vs l)->X5x (C.vs l) K
 | [],K,_,hK=>by simpa[X5x,C.vs] using hK
 | c::r,K,h,hK=>by
   rw[Q1k,Bool.and_eq_true] at h;simp only[C.vs,X5x];exact Q62 h.1 (Q61 h.2 (by simpa[C.vs] using hK))
theorem X4b {c:C} {K:V->Prop} (h:X6K c=true) (hK:K c.v):X0u c.v K:=by
 by_cases ht:∃vs,c=.tup vs
 . obtain⟨vs,rfl⟩:=ht;simp only[C.v,X0u];exact Q61 h (by simpa[C.v] using hK)
 . have hu:Q4p c=true:=by
    cases c<;>first|exact h|exact(ht ⟨_,rfl⟩).elim
   have:=Q62 hu hK;cases c<;>first|exact(ht ⟨_,rfl⟩).elim|(simp only[C.v] at this ⊢;simp only[X0u];exact this)
abbrev J2J:=FuncId->List C->J0B->Nat->Option R
structure J8J (P:Program) (call:J2J):Prop where
 out:∀f args own ks r,call f args own ks=some r->J0P P f=true/\∀K:V->Own->List Nat->Prop,K r.v.v (J0L r.o) (ksV r.k)->J0K P f (C.vs args) (J0L own) (ksV ks) K
noncomputable def Q0Z (call:J2J) (f:FuncId) (args:List C) (own:J0B) (ks:Nat):Option R:=match call f args own ks with
 | some r=>match X6K r.v with|true=>some r|false=>none
 | none=>none
noncomputable def o_p (b:Bool) (o:POp) (env:J1i) (own:J0B) (ks:Nat):Option R:=match o with
 | .slc s x lo hi mx same=>match mx with
   | none=>mkR (Y1D (match b with|true=>own|false=>[]) s x lo hi env) own ks
   | some mx=>match hi with
     | some hi=>mkR (X4V s x lo hi mx same env) own ks
     | none=>none
 | o=>mkR (J3i o env) own ks
noncomputable def X14 (sz:Option Nat) (x:X) (env:J1i) (own:J0B) (ks:Nat):Option R:=match gx x env with
 | some p=>mkR (X4Z own sz p) own ks
 | none=>none
noncomputable def Q6C (sz:Nat) (a:X) (x:X) (env:J1i) (own:J0B) (ks:Nat):Option R:=match gx a env with
 | some p=>match gx x env with
   | some v=>Q12 own sz p v fun own'=>some ⟨.unit,own',ks⟩
   | none=>none
 | none=>none
noncomputable def X6u (x:X) (env:J1i) (own:J0B) (ks:Nat):Option R:=mkR (gx x env) own ks
noncomputable def X15 (call:J2J) (f:FuncId) (args:List X) (env:J1i) (own:J0B) (ks:Nat):Option R:=match gxs env args with
 | some vs=>Q0Z call f vs own ks
 | none=>none
noncomputable def Q6D (call:J2J) (x:X) (args:List X) (env:J1i) (own:J0B) (ks:Nat):Option R:=match gx x env with
 | some (.fn (.func g) bd cap)=>match gxs env args with
   | some vs=>match bd with
     | true=>fL (List.append cap vs) fun l=>Q0Z call g l own ks
     | false=>fL (List.append vs cap) fun l=>Q0Z call g l own ks
   | none=>none
 | _=>none
noncomputable def Q6E (zs:List V) (ps:List (Nat×Nat×X)) (env:J1i) (own:J0B) (ks:Nat):Option R:=match X5u zs with
 | some zc=>match Q8l env ps zc with
   | some cs=>some ⟨.agg cs,own,ks⟩
   | none=>none
 | none=>none
noncomputable def Q6F (zs:List V) (env:J1i) (own:J0B) (ks:Nat):Option R:=match X5u zs with
 | some zc=>frC ks fun k ks=>some ⟨.loc k 0,(k,.cells zc)::own,ks⟩
 | none=>none
noncomputable def X6t (x:X) (env:J1i) (own:J0B) (ks:Nat):Option R:=match gx x env with
 | some v=>match Q30 v with
   | some cs=>frC ks fun k ks=>some ⟨.loc k 0,(k,.cells cs)::own,ks⟩
   | none=>none
 | none=>none
noncomputable def Q3a (s:Nat) (n:Nat) (xs:List X) (env:J1i) (own:J0B) (ks:Nat):Option R:=match gxs env xs with
 | some vs=>match J8H Q5l vs with
   | true=>match Q72 s vs with
     | some rs=>frC ks fun k ks=>some ⟨.vec k s 0 n,(k,.vec n s [] rs)::own,ks⟩
     | none=>none
   | false=>match Q8k s vs with
     | some cs=>frC ks fun k ks=>some ⟨.vec k s 0 n,(k,.cells cs)::own,ks⟩
     | none=>none
 | none=>none
noncomputable def X6v (s:Nat) (bytes:Nat) (x:X) (y:X) (env:J1i) (own:J0B) (ks:Nat):Option R:=match gx x env with
 | some a=>match gx y env with
   | some c=>X46 own ks s bytes a c
   | none=>none
 | none=>none
noncomputable def o_xt (o:XOp) (env:J1i) (own:J0B) (ks:Nat):Option R:=X2z o env own ks
noncomputable def Q3b (n:Nat) (z:V) (_:J1i) (own:J0B) (ks:Nat):Option R:=match X5v z with
 | some c=>frC ks fun k ks=>fL (X5s n [c]) fun l=>some ⟨.oel k 1 0 0,(k,.vec n 1 [c] l)::own,ks⟩
 | none=>none
theorem Q2p (z:C) (m:Nat):(fun(_ _:Nat)=>z.v)=J4s (C.vs [z]) (C.vss (List.replicate m [z])):=by
 funext i j;simp only[J4s,C.vs,J3G];simp only[List.getD_eq_getElem?_getD,C.vss_get,List.getElem?_replicate];by_cases h:i<m
 . cases j<;>simp[h,C.vs]
 . cases j<;>simp[h]
noncomputable def cop (call:J2J) (b:Bool) (op:SOp) (env:J1i) (own:J0B) (ks:Nat):Option R :=
 match op with
 | .p o=>o_p b o env own ks
 | .load sz x=>X14 sz x env own ks
 | .store sz a x=>Q6C sz a x env own ks
 | .asg x=>X6u x env own ks
 | .call f args=>X15 call f args env own ks
 | .callv x args=>Q6D call x args env own ks
 | .build zs ps=>Q6E zs ps env own ks
 | .alloc zs=>Q6F zs env own ks
 | .box x=>X6t x env own ks
 | .bslice s n xs=>Q3a s n xs env own ks
 | .app s bytes x y=>X6v s bytes x y env own ks
 | .xt o=>o_xt o env own ks
 | .clr _ _ _=>none
 | .alloca n z=>Q3b n z env own ks
def X5q (b:Bool) (P:Program) (op:SOp) (env:Env) (own:Own) (ks:List Nat) (K:V->Own->List Nat->Prop):Prop :=
 match b with
 | true=>Q2B P op env own ks K
 | false=>vop P op env own ks K
theorem J18 {b:Bool} {P:Program} {op:SOp} {env:Env} {own:Own} {ks:List Nat} {K:V->Own->List Nat->Prop} (hne:∀s x lo hi mx same,op≠.p (.slc s x lo hi mx same)) (h:vop P op env own ks K):X5q b P op env own ks K:=by
 cases b with
 | false=>exact h
 | true =>
   show Q2B P op env own ks K;unfold Q2B;split
   . exact(hne _ _ _ _ _ _ rfl).elim
   . exact h
theorem J7w {P:Program} {call:J2J} (hcall:J8J P call) {f:FuncId} {args:List C} {own:J0B} {ks:Nat} {r:R} {K:V->Own->List Nat->Prop} (h:Q0Z call f args own ks=some r) (hK:K r.v.v (J0L r.o) (ksV r.k)) :
 J0P P f=true/\J0K P f (C.vs args) (J0L own) (ksV ks) fun v own ks=>X0u v fun v=>K v own ks:=by
 unfold Q0Z at h;split at h
 . rename_i r' hr;split at h
   . rename_i hl;cases h;obtain⟨a,b⟩:=hcall.out _ _ _ _ _ hr;exact⟨a,b _ (X4b hl hK)⟩
   . cases h
 . cases h
theorem Q74 {P:Program} {call:J2J} (hcall:J8J P call) {b:Bool} {op:SOp} {env:J1i} {own:J0B} {ks:Nat} {r:R} {K:V->Own->List Nat->Prop} (h:cop call b op env own ks=some r) (hK:K r.v.v (J0L r.o) (ksV r.k)) :
 X5q b P op (J21 env) (J0L own) (ksV ks) K:=by
 cases op with
 | p o =>
   simp only[cop,o_p] at h;split at h
   . split at h
     . rename_i s x lo hi mx same _;obtain⟨h1,h2,h3⟩:=Q0s h;rw[h2,h3] at hK;cases b with
       | true =>
         simp only[X5q,Q2B];exact Q71 h1 hK
       | false =>
         simp only[X5q,vop,J2C];exact Q71 (own:=[]) h1 hK
     . split at h
       . obtain⟨h1,h2,h3⟩:=Q0s h;rw[h2,h3] at hK;cases b with
         | true=>simp only[X5q,Q2B];exact Q3O h1 hK
         | false=>simp only[X5q,vop,J2C];exact Q3O h1 hK
       . cases h
   . rename_i hne;obtain⟨h1,h2,h3⟩:=Q0s h;rw[h2,h3] at hK;refine J18 (fun s x lo hi mx same e=>?_) ?_
     . cases e;exact hne _ _ _ _ _ _ rfl
     . simp only[vop];exact X1c h1 hK
 | load sz x =>
   refine J18 (fun _ _ _ _ _ _ e=>by cases e) ?_;simp only[cop,X14] at h;split at h
   . rename_i p hp;obtain⟨h1,h2,h3⟩:=Q0s h;rw[h2,h3] at hK;simp only[vop];exact J0G hp (X1g h1 hK)
   . cases h
 | store sz a x =>
   refine J18 (fun _ _ _ _ _ _ e=>by cases e) ?_;simp only[cop,Q6C] at h;split at h
   . rename_i p hp;split at h
     . rename_i v hv;obtain⟨o',c1,c2⟩:=Q44 h;cases c1;simp only[vop];exact J0G hp (J0G hv (c2 _ (by simpa[C.v] using hK)))
     . cases h
   . cases h
 | asg x =>
   refine J18 (fun _ _ _ _ _ _ e=>by cases e) ?_;simp only[cop,X6u] at h;obtain⟨h1,h2,h3⟩:=Q0s h;rw[h2,h3] at hK;simp only[vop];exact J0G h1 hK
 | call f args =>
   refine J18 (fun _ _ _ _ _ _ e=>by cases e) ?_;simp only[cop,X15] at h;split at h
   . rename_i vs hvs;simp only[vop];exact Q0L hvs (J7w hcall h hK).2
   . cases h
 | callv x args =>
   refine J18 (fun _ _ _ _ _ _ e=>by cases e) ?_;simp only[cop,Q6D] at h;split at h
   . rename_i g bd cap hx;split at h
     . rename_i vs hvs;simp only[vop];refine J0G hx (Q0L hvs ?_);simp only[C.v,X3c];cases bd with
       | true =>
         simp only at h;rw[J44] at h;obtain⟨a1,a2⟩:=J7w hcall h hK;refine⟨a1,?_⟩;have e:C.vs (cap.append vs)=C.vs cap++C.vs vs:=by rw[C.vs_map,C.vs_map,C.vs_map];simp
         rw[e] at a2;exact a2
       | false =>
         simp only at h;rw[J44] at h;obtain⟨a1,a2⟩:=J7w hcall h hK;refine⟨a1,?_⟩;have e:C.vs (vs.append cap)=C.vs vs++C.vs cap:=by rw[C.vs_map,C.vs_map,C.vs_map];simp
         rw[e] at a2;exact a2
     . cases h
   . cases h
 | build zs ps =>
   refine J18 (fun _ _ _ _ _ _ e=>by cases e) ?_;simp only[cop,Q6E] at h;split at h
   . rename_i zc hz;have:=J60 zs hz;subst this;split at h
     . rename_i cs hcs;cases h;simp only[vop];exact Q3X hcs (by simpa[C.v] using hK)
     . cases h
   . cases h
 | alloc zs =>
   refine J18 (fun _ _ _ _ _ _ e=>by cases e) ?_;simp only[cop,Q6F] at h;split at h
   . rename_i zc hz;have:=J60 zs hz;subst this;obtain⟨h,b1⟩:=J3S h;cases h;simp only[vop];exact b1 _ (by simpa[C.v,J0L,CB.b] using hK)
   . cases h
 | box x =>
   refine J18 (fun _ _ _ _ _ _ e=>by cases e) ?_;simp only[cop,X6t] at h;split at h
   . rename_i v hv;split at h
     . rename_i cs hcs;obtain⟨h,b1⟩:=J3S h;cases h;simp only[vop];exact J0G hv (J3j hcs (b1 _ (by simpa[C.v,J0L,CB.b] using hK)))
     . cases h
   . cases h
 | bslice s n xs =>
   refine J18 (fun _ _ _ _ _ _ e=>by cases e) ?_;simp only[cop,Q3a] at h;split at h
   . rename_i vs hvs;simp only[vop];refine Q0L hvs ?_;rw[J22 J69];split at h
     . rename_i hk;simp only[hk];split at h
       . rename_i rs hrs;obtain⟨h,b1⟩:=J3S h;cases h;refine Q3P hrs (b1 _ ?_);simpa[C.v,J0L,CB.b,C.vs,Q2M] using hK
       . cases h
     . rename_i hk;simp only[hk];split at h
       . rename_i cs hcs;obtain⟨h,b1⟩:=J3S h;cases h;refine Q3W hcs (b1 _ ?_);simpa[C.v,J0L,CB.b] using hK
       . cases h
   . cases h
 | app s bytes x y =>
   refine J18 (fun _ _ _ _ _ _ e=>by cases e) ?_;simp only[cop,X6v] at h;split at h
   . rename_i a ha;split at h
     . rename_i c hc;simp only[vop];exact J0G ha (J0G hc (Q5H Q4J (X1r h hK)))
     . cases h
   . cases h
 | xt o =>
   refine J18 (fun _ _ _ _ _ _ e=>by cases e) ?_;simp only[cop,o_xt] at h;simp only[vop];exact X4T h hK
 | clr s zs x=>cases h
 | alloca n z =>
   refine J18 (fun _ _ _ _ _ _ e=>by cases e) ?_;simp only[cop,Q3b] at h;split at h
   . rename_i c hc;have:=Q1M hc;subst this;obtain⟨h,b1⟩:=J3S h;rw[J44,J80] at h;cases h;simp only[vop];refine b1 _ ?_;rw[Q2p c n];simpa[C.v,J0L,CB.b] using hK
   . cases h
structure CS where
 e:J1i
 o:J0B
 k:Nat
def CS.st (s:CS):St:=⟨J21 s.e,J0L s.o,ksV s.k⟩
noncomputable def J4n (g:Option (Nat×Bool)) (env:J1i):Option Bool:=match g with
 | none=>some true
 | some (t,want)=>match lk env t with
   | some (.bool b)=>match Bool.xor b want with|false=>some true|true=>some false
   | some .unit=>some false
   | _=>none
noncomputable def X5t {β:Type} (d:Option Nat) (v:C) (e:J1i) (K:J1i->β):β:=match d with|some t=>K ((t,v)::e)|none=>K e
abbrev KT:=J1i->J0B->Nat->Option CS
noncomputable def X6f (d:Option Nat) (e:J1i) (ih:KT) (r:Option R):Option CS:=match r with
 | some ⟨v,o',k'⟩=>X5t d v e fun e=>ih e o' k'
 | none=>none
noncomputable def opsG (call:J2J) (op:SOp) (d:Option Nat) (ih:KT) (e:J1i) (o:J0B) (k:Nat) (g:Option Bool):Option CS:=match g with
 | some true=>X6f d e ih (cop call true op e o k)
 | some false=>X5t d .unit e fun e=>ih e o k
 | none=>none
noncomputable def opsS (call:J2J) (si:SI) (ih:KT):KT:=fun e o k=>opsG call si.op si.dst ih e o k (J4n si.guard e)
noncomputable def X7f (call:J2J) (l:List SI):KT:=@List.rec SI (fun _=>KT) (fun e o k=>some ⟨e,o,k⟩) (fun si _ ih=>opsS call si ih) l
theorem J7y {P:Program} {call:J2J} (hcall:J8J P call):∀(l:List SI) (e:J1i) (o:J0B) (k:Nat) (s:CS) (K:Env->Own->List Nat->Prop),X7f call l e o k=some s->K (J21 s.e) (J0L s.o) (ksV s.k)->J5b P l (J21 e) (J0L o) (ksV k) K
 | [],e,o,k,s,K,h,hK=>by
   have h:some (CS.mk e o k)=some s:=h;cases h;simpa[J5b] using hK
 | ⟨d,op,g⟩::r,e,o,k,s,K,h,hK=>by
   have h:opsG call op d (X7f call r) e o k (J4n g e)=some s:=h;have run:X6f d e (X7f call r) (cop call true op e o k)=some s->Q2B P op (J21 e) (J0L o) (ksV k) fun v own ks=>match (generalizing:=false) d with
    | some t=>J5b P r ((t,v)::J21 e) own ks K
    | none=>J5b P r (J21 e) own ks K:=by
    intro h;unfold X6f at h;split at h
    . rename_i v o' k' hc;have fin:=Q74 hcall (b:=true) (K:=fun v own ks=>match (generalizing:=false) d with
       | some t=>J5b P r ((t,v)::J21 e) own ks K
       | none=>J5b P r (J21 e) own ks K) hc ?_
      . exact fin
      . cases d with
        | some t=>exact J7y hcall r _ _ _ s K h hK
        | none=>exact J7y hcall r _ _ _ s K h hK
    . cases h
   have skip:(X5t d .unit e fun e=>X7f call r e o k)=some s->(match (generalizing:=false) d with
         | some t=>J5b P r ((t,.raw (.tuple #[]))::J21 e) (J0L o) (ksV k) K
         | none=>J5b P r (J21 e) (J0L o) (ksV k) K):=by
    intro h;cases d with
    | some t =>
      have:=J7y hcall r _ _ _ s K h hK;simpa[J21,C.v] using this
    | none=>exact J7y hcall r _ _ _ s K h hK
   simp only[J5b];cases g with
   | none=>exact run h
   | some p =>
     obtain⟨t,want⟩:=p;simp only[J4n] at h;cases hl:lk e t with
     | none=>rw[hl] at h;cases h
     | some c =>
       rw[hl] at h;simp only[J1Z hl];cases c with
       | bool b =>
         simp only[C.v] at h ⊢;cases hx:Bool.xor b want with
         | false=>rw[hx] at h;exact run h
         | true=>rw[hx] at h;exact skip h
       | unit=>simp only[C.v] at h ⊢;exact skip h
       | _=>cases h
def Q7g:C->Option Nat
 | .loc k _=>some k
 | .vec k _ _ _=>some k
 | .oel k _ _ _=>some k
 | _=>none
theorem Q0F (c:C):Q0E c.v=Q7g c:=by cases c<;>simp[C.v,Q0E,Q7g]
noncomputable def J92 {β:Type} (env:J1i):List Nat->J0B->J0B->(J0B->J0B->Option β)->Option β
 | [],own,acc,K=>K own acc
 | t::r,own,acc,K=>match lk env t with
   | some v=>match Q7g v with
     | some k=>match lk own k with
       | some b=>deC k own fun own'=>J92 env r own' ((k,b)::acc) K
       | none=>none
     | none=>J92 env r own acc K
   | none=>none
theorem J6G {β:Type} {env:J1i}:∀{l:List Nat} {own acc:J0B} {K:J0B->J0B->Option β} {out:β},J92 env l own acc K=some out ->
 ∃a b,K a b=some out/\∀Kp:Own->Own->Prop,Kp (J0L a) (J0L b)->J4l (J21 env) l (J0L own) (J0L acc) Kp
 | [],own,acc,K,out,h=>⟨own,acc,h,fun Kp hK=>by simpa[J4l] using hK⟩
 | t::r,own,acc,K,out,h=>by
   simp only[J92] at h;split at h
   . rename_i v hv;split at h
     . rename_i k hk;split at h
       . rename_i b hb;obtain⟨o',h,c1⟩:=Q7Y h;obtain⟨a',b',h,c2⟩:=J6G h;refine⟨a',b',h,fun Kp hK=>?_⟩;simp only[J4l,J1Z hv,Q0F,hk,J0z hb];exact c1 _ (c2 Kp hK)
       . cases h
     . rename_i hk;obtain⟨a',b',h,c2⟩:=J6G h;refine⟨a',b',h,fun Kp hK=>?_⟩;simp only[J4l,J1Z hv,Q0F,hk];exact c2 Kp hK
   . cases h
mutual
def X5B:C->C->Bool
 | .bool a,.bool b=>a == b
 | .int k a,.int k' b=>match kEq k k' with|true=>ieq a b|false=>false
 | .str l c,.str l' c'=>match Nat.beq l l' with|true=>Nat.beq c c'|false=>false
 | .nilptr,.nilptr=>true
 | .nilslice,.nilslice=>true
 | .nilmap,.nilmap=>true
 | .nilfunc,.nilfunc=>true
 | .niliface,.niliface=>true
 | .loc k o,.loc k' o'=>match Nat.beq k k' with|true=>Nat.beq o o'|false=>false
 | .vec k s lo len,.vec k' s' lo' len'=>match Nat.beq k k',Nat.beq s s',Nat.beq lo lo' with|true,true,true=>Nat.beq len len'|_,_,_=>false
 | .map k,.map k'=>Nat.beq k k'
 | .agg l,.agg l'=>J7H l l'
 | .fz n s f z rows,.fz n' s' f' z' rows'=>match Nat.beq n n',Nat.beq s s',f == f' with|true,true,true=>(match J7H z z' with|true=>J8F rows rows'|false=>false)|_,_,_=>false
 | _,_=>false
def J7H:List C->List C->Bool
 | [],[]=>true
 | a::r,b::q=>match X5B a b with|true=>J7H r q|false=>false
 | _,_=>false
def J8F:List (List C)->List (List C)->Bool
 | [],[]=>true
 | a::r,b::q=>match J7H a b with|true=>J8F r q|false=>false
 | _,_=>false
end
mutual
theorem Q2m:∀(a b:C),X5B a b=true->a=b
 | a,b,h=>by
   unfold X5B at h;split at h
   . rw[beq_iff_eq] at h;rw[h]
   . split at h
     . rename_i hk;rw[J5P hk];rw[J41,beq_iff_eq] at h;rw[h]
     . cases h
   . split at h
     . rename_i hk;rw[Nat.eq_of_beq_eq_true hk,Nat.eq_of_beq_eq_true h]
     . cases h
   . rfl
   . rfl
   . rfl
   . rfl
   . rfl
   . split at h
     . rename_i hk;rw[Nat.eq_of_beq_eq_true hk,Nat.eq_of_beq_eq_true h]
     . cases h
   . split at h
     . rename_i h1 h2 h3;rw[Nat.eq_of_beq_eq_true h1,Nat.eq_of_beq_eq_true h2,Nat.eq_of_beq_eq_true h3,Nat.eq_of_beq_eq_true h]
     . cases h
   . rw[Nat.eq_of_beq_eq_true h]
   . rename_i l l';rw[J4g l l' h]
   . rename_i n s f z rows n' s' f' z' rows';split at h
     . rename_i h1 h2 h3;split at h
       . rename_i h4;rw[beq_iff_eq] at h3;rw[Nat.eq_of_beq_eq_true h1,Nat.eq_of_beq_eq_true h2,h3,J4g z z' h4,Q1j rows rows' h]
       . cases h
     . cases h
   . cases h
theorem J4g:∀(a b:List C),J7H a b=true->a=b
 | [],[],_=>rfl
 | a::r,b::q,h=>by
   unfold J7H at h;split at h
   . rename_i h1;rw[Q2m a b h1,J4g r q h]
   . cases h
 | [],_::_,h=>by simp[J7H] at h
 | _::_,[],h=>by simp[J7H] at h
theorem Q1j:∀(a b:List (List C)),J8F a b=true->a=b
 | [],[],_=>rfl
 | a::r,b::q,h=>by
   unfold J8F at h;split at h
   . rename_i h1;rw[J4g a b h1,Q1j r q h]
   . cases h
 | [],_::_,h=>by simp[J8F] at h
 | _::_,[],h=>by simp[J8F] at h
end
noncomputable def Q4Z (env:J1i) (own:J0B):List (Option Nat×Nat×Nat)->Bool
 | []=>true
 | (sz,n,t)::r=>match lk env t with
   | some .unit=>Q4Z env own r
   | some v=>match lk env n with
     | some p=>match J8A own sz p with
       | some v'=>match X5B v' v with|true=>Q4Z env own r|false=>false
       | none=>false
     | none=>false
   | none=>false
theorem J9m {env:J1i} {own:J0B} {G:Prop} (hG:G):∀{l:List (Option Nat×Nat×Nat)},Q4Z env own l=true->J7V (J21 env) (J0L own) G l
 | [],_=>hG
 | (sz,n,t)::r,h=>by
   simp only[Q4Z] at h;cases hl:lk env t with
   | none=>rw[hl] at h;cases h
   | some c =>
     rw[hl] at h;simp only[J7V,J1Z hl];have other:(match lk env n with
      | some p=>match J8A own sz p with
        | some v'=>match X5B v' c with|true=>Q4Z env own r|false=>false
        | none=>false
      | none=>false)=true->(match look (J21 env) n with
      | some p=>J3A (J0L own) sz p (fun v'=>v'=c.v)/\J7V (J21 env) (J0L own) G r
      | none=>False):=by
      intro h;split at h
      . rename_i p hp;rw[J1Z hp];split at h
        . rename_i v' hv;split at h
          . rename_i hb;exact⟨J7C hv (by rw[Q2m _ _ hb]),J9m hG h⟩
          . cases h
        . cases h
      . cases h
     cases c<;>first
      | (simp only[C.v] at other ⊢;exact other h)
      | (simp only[C.v];exact J9m hG h)
theorem Q8I {α:Type}:∀(l r:List α) (K:List α->Prop),K (l++r)->X5k l r K
 | [],r,K,h=>h
 | x::l,r,K,h=>by simp only[X5k];exact Q8I l r _ h
noncomputable def X08 (call:J2J) (op:SOp) (d:Option Nat) (ih:KT) (e:J1i) (o:J0B) (k:Nat) (g:Option Bool):Option CS:=match g with
 | some true=>X6f d e ih (cop call false op e o k)
 | some false=>X5t d .unit e fun e=>ih e o k
 | none=>none
noncomputable def effR (held:List (Option Nat×Nat×Nat)) (d:Option Nat) (e:J1i) (ob:J0B) (ih:KT) (r:Option R):Option CS:=match r with
 | some ⟨v,oa',k'⟩=>match Q4Z e oa' held with
   | true=>fL (List.append ob oa') fun o'=>X5t d v e fun e=>ih e o' k'
   | false=>none
 | none=>none
noncomputable def X7T (call:J2J) (pend:List Nat) (held:List (Option Nat×Nat×Nat)) (op:SOp) (d:Option Nat) (ih:KT) (e:J1i) (o:J0B) (k:Nat) (g:Option Bool):Option CS:=match g with
 | some true=>J92 e pend o [] fun oa ob=>effR held d e ob ih (cop call false op e oa k)
 | some false=>X5t d .unit e fun e=>ih e o k
 | none=>none
noncomputable def Y1C (call:J2J) (di:DI) (ih:KT):KT:=match di with
 | .op _ si=>fun e o k=>X08 call si.op si.dst ih e o k (J4n si.guard e)
 | .eff _ pend held si=>fun e o k=>X7T call pend held si.op si.dst ih e o k (J4n si.guard e)
noncomputable def X1n (call:J2J) (l:List DI):KT:=@List.rec DI (fun _=>KT) (fun e o k=>some ⟨e,o,k⟩) (fun di _ ih=>Y1C call di ih) l
theorem Q0M {g:Option (Nat×Bool)} {e:J1i} {A B:Prop}:(∀b,J4n g e=some b->(match b with|true=>A|false=>B))->J4n g e≠none->J5S (J21 e) g A B:=by
 intro h hne;cases g with
 | none=>exact h true rfl
 | some p =>
   obtain⟨t,want⟩:=p;simp only[J4n] at h hne;simp only[J5S];cases hl:lk e t with
   | none=>rw[hl] at hne;exact(hne rfl).elim
   | some c =>
     rw[hl] at h hne;rw[J1Z hl];cases c with
     | bool b =>
       simp only[C.v] at h hne ⊢;cases hx:Bool.xor b want with
       | false=>rw[hx] at h;exact h true rfl
       | true=>rw[hx] at h;exact h false rfl
     | unit=>simp only[C.v] at h ⊢;exact h false rfl
     | _=>exact(hne rfl).elim
theorem J2v {P:Program} {call:J2J} (hcall:J8J P call):∀(l:List DI) (e:J1i) (o:J0B) (k:Nat) (s:CS) (K:Env->Own->List Nat->Prop),X1n call l e o k=some s->K (J21 s.e) (J0L s.o) (ksV s.k)->J1H P l (J21 e) (J0L o) (ksV k) K
 | [],e,o,k,s,K,h,hK=>by
   have h:some (CS.mk e o k)=some s:=h;cases h;simpa[J1H] using hK
 | .op ix ⟨d,op,g⟩::r,e,o,k,s,K,h,hK=>by
   have h:X08 call op d (X1n call r) e o k (J4n g e)=some s:=h;simp only[J1H];refine Q0M (fun b hb=>?_) (fun hb=>by rw[hb] at h;cases h);rw[hb] at h;cases b with
   | true =>
     simp only[X08] at h ⊢;unfold X6f at h;split at h
     . rename_i v o' k' hc;have fin:=Q74 hcall (b:=false) (K:=fun v own ks=>match (generalizing:=false) d with
        | some t=>J1H P r ((t,v)::J21 e) own ks K
        | none=>J1H P r (J21 e) own ks K) hc ?_
       . exact fin
       . cases d with
         | some t=>exact J2v hcall r _ _ _ s K h hK
         | none=>exact J2v hcall r _ _ _ s K h hK
     . cases h
   | false =>
     simp only[X08] at h ⊢;cases d with
     | some t =>
       have:=J2v hcall r _ _ _ s K h hK;simpa[J21,C.v] using this
     | none=>exact J2v hcall r _ _ _ s K h hK
 | .eff ix pend held ⟨d,op,g⟩::r,e,o,k,s,K,h,hK=>by
   have h:X7T call pend held op d (X1n call r) e o k (J4n g e)=some s:=h;simp only[J1H];refine Q0M (fun b hb=>?_) (fun hb=>by rw[hb] at h;cases h);rw[hb] at h;cases b with
   | true =>
     simp only[X7T] at h ⊢;obtain⟨oa,ob,h,c1⟩:=J6G h;refine c1 _ ?_;unfold effR at h;split at h
     . rename_i v oa' k' hc;have fin:=Q74 hcall (b:=false) (K:=fun v ownA' ks=>J7V (J21 e) ownA' (X5k (J0L ob) ownA' fun own=>match (generalizing:=false) d with
        | some t=>J1H P r ((t,v)::J21 e) own ks K
        | none=>J1H P r (J21 e) own ks K) held) hc ?_
       . exact fin
       split at h
       . rename_i hh;rw[J44] at h;refine J9m ?_ hh;refine Q8I _ _ _ ?_;have e2:J0L ob++J0L oa'=J0L (ob.append oa'):=by simp[J0L]
         rw[e2];cases d with
         | some t=>exact J2v hcall r _ _ _ s K h hK
         | none=>exact J2v hcall r _ _ _ s K h hK
       . cases h
     . cases h
   | false =>
     simp only[X7T] at h ⊢;cases d with
     | some t =>
       have:=J2v hcall r _ _ _ s K h hK;simpa[J21,C.v] using this
     | none=>exact J2v hcall r _ _ _ s K h hK
theorem Q6A {w:World} {σ:Sg} {own own':Own} (h:own'.Sublist own) {n:Nat} (ho:J0y w σ own' n):J0y w σ own n:=by
 obtain⟨k,b,hm,hh⟩:=ho;exact⟨k,b,h.subset hm,hh⟩
theorem X0K {M:Nat->Prop} {w:World} {σ:Sg} {own own':Own} {ks:List Nat} (h:own'.Sublist own) (hh:J0R M w σ own ks):J0R M w σ own' ks :=
 ⟨⟨fun k b hm=>hh.own.blk k b (h.subset hm),(h.map _).nodup hh.own.nodup,fun k b k' b' n m1 m2=>hh.own.apart k b k' b' n (h.subset m1) (h.subset m2)⟩,hh.fresh,hh.knodup⟩
theorem Q8t {P:Program} {f:FuncId} {args:List V} {own own1 own2:Own} {ks ks':List Nat} {v:V} {K:V->Own->List Nat->Prop} (hs:own2.Sublist own1)
 (h:J0K P f args own ks fun v' o' k'=>v'=v/\o'=own1/\k'=ks') (hK:K v own2 ks'):J0K P f args own ks K :=
 ⟨fun M w σ us h1 h2 h3=>(h.out M w σ us h1 h2 h3).mono fun _ _ ⟨M',σ',v',o,k,u,a,b,c,d,d',e⟩=>by
   obtain⟨rfl,rfl,rfl⟩:=e;exact⟨M',σ',v',own2,k,u,a,b,X0K hs c,⟨d.adv,fun b hb=>d.new b (Q6A hs hb),d.le⟩,⟨d'.1,d'.2.1,fun k hk=>d'.2.2 k ((hs.map _).subset hk)⟩,hK⟩⟩
structure J5D (P:Program) (N:Nat) (bk:BK) (b:SC) (env:Env) (own:Own) (ks:List Nat) (K:Out->Prop):Prop where
 out:∀r σb,RIn bk.r r σb->∀c,J03 P N c=some b->∀B M w σ a,(∀k,k∈bk.ks->σb k=none)->σb.le σ->Sim N B M w σ ⟨env,own,ks⟩ a ->
  ∀(fb:Frame) (k:List Item) (cs:List Frame),fb.roundOf=(FR r).round->(FR r).fn fb.fn->(FR r).room (cs.length+1+0) ->
   ∃e a' w',XP N B σb M w σ own ks K e a' w'/\ArrivesIn (Machine.fenced P (FR r)) P (lone (fb.atR a (.code c::.inLoop c::k)) cs w) fb k cs e a' w'
theorem J5D.toI {P:Program} {N:Nat} {bk:BK} {b:SC} {env:Env} {own:Own} {ks:List Nat} {K:Out->Prop} (h:J5D P N bk b env own ks K):J9F P N bk b env own ks K:=by
 constructor;intro r σb hr c hc B M w σ a hbk hle0 sim fb k cs hro hbf hroom;obtain⟨e,a',w',hx,harr⟩:=h.out r σb hr c hc B M w σ a hbk hle0 sim fb k cs hro hbf hroom;exact⟨e,a',w',hx,.of_steps (.one (fenced_calm hbf hroom rfl) stepR_loop) harr⟩
def X90 (P:Program) (N:Nat) (bk:BK) (b:SC) (K:Out->Prop) (o:Out):Prop :=
 match o with
 | .normal st=>J5D P N bk b st.env st.own st.ks K
 | .exit id st=>K (.exit id st)
 | .ret st=>K (.ret st)
theorem J5D.step {P:Program} (hm:P.follows .mixedOrders=true) {N:Nat} {bk:BK} {b:SC} {env:Env} {own:Own} {ks:List Nat} {K:Out->Prop} (h:vc P N bk b env own ks (X90 P N bk b K)):J5D P N bk b env own ks K:=by
 constructor;intro r σb hr c hc B M w σ a hbk hle sim fb k cs hro hbf hroom;have hb:=J3o hm hbk r hr c _ _ env own ks M w σ a hc h sim hle;obtain⟨e,a₂,w₂,hq,harr⟩:=hb fb (.inLoop c::k) cs hro hbf hroom;obtain⟨M₂,σ₂,⟨env₂,own₂,ks₂⟩,s2,t2,q2,l2,k2⟩:=hq;cases e with
 | normal =>
   have k2:J5D P N bk b env₂ own₂ ks₂ K:=k2;obtain⟨e',a',w',hx,harr'⟩:=k2.out r σb hr c hc B M₂ w₂ σ₂ a₂ hbk l2 s2 fb k cs hro hbf hroom;exact⟨e',a',w',XP.tr t2 q2 hx,.of_steps (StepsIn.trans harr (.one (fenced_calm hbf hroom rfl) stepR_inLoop)) harr'⟩
 | exit id=>exact⟨_,a₂,w₂,⟨M₂,σ₂,_,s2,t2,q2,l2,k2⟩,.pass (x:=.inLoop c) rfl (fun _ _=>.inl (by simp)) harr⟩
 | ret=>exact⟨_,a₂,w₂,⟨M₂,σ₂,_,s2,t2,q2,l2,k2⟩,.pass (x:=.inLoop c) rfl (fun _ _=>.inl (by simp)) harr⟩
 | goto l=>exact k2.elim
 | panic ch=>exact k2.elim
 | outgrown=>exact k2.elim
theorem J5D.weak {P:Program} {N:Nat} {bk:BK} {b:SC} {env env':Env} {own:Own} {ks:List Nat} {K:Out->Prop} (he:∀t v,look env' t=some v->look env t=some v) (h:J5D P N bk b env' own ks K):J5D P N bk b env own ks K:=by
 constructor;intro r σb hr c hc B M w σ a hbk hle sim fb k cs hro hbf hroom;exact h.out r σb hr c hc B M w σ a hbk hle ⟨fun t v hv=>sim.env t v (he t v hv),sim.heap,sim.size,sim.defers⟩ fb k cs hro hbf hroom
noncomputable def mN (n:Nat) (l:List Nat):Bool:=@List.rec Nat (fun _=>Bool) false (fun x _ ih=>@Bool.rec (fun _=>Bool) ih true (Nat.beq x n)) l
theorem X6J (n:Nat):∀(l:List Nat),mN n l=J09 n l
 | []=>rfl
 | x::r=>by
   show @Bool.rec (fun _=>Bool) (mN n r) true (Nat.beq x n)=_;rw[X6J n r]
   conv=>rhs;unfold J09
   cases Nat.beq x n<;>rfl
noncomputable def prn (l:J1i):List Nat->J1i:=@List.rec (Nat×C) (fun _=>List Nat->J1i) (fun _=>[]) (fun p _ ih seen=>@Bool.rec (fun _=>J1i) (p::ih (p.1::seen)) (ih seen) (mN p.1 seen)) l
theorem Q94 (p:Nat×C) (l:J1i) (seen:List Nat):prn (p::l) seen=match J09 p.1 seen with|true=>prn l seen|false=>p::prn l (p.1::seen):=by
 show @Bool.rec (fun _=>J1i) (p::prn l (p.1::seen)) (prn l seen) (mN p.1 seen)=_;rw[X6J];cases J09 p.1 seen<;>rfl
theorem J85:∀(l:J1i) (seen:List Nat) (t:Nat),(t∈seen->look (prn l seen) t=none)/\∀v,look (prn l seen) t=some v->look l t=some v
 | [],seen,t=>⟨fun _=>rfl,fun v h=>h⟩
 | (q,c)::l,seen,t=>by
   rw[Q94];cases hm:J09 q seen with
   | true =>
     obtain⟨a,b⟩:=J85 l seen t;simp only;refine⟨a,fun v h=>?_⟩;have hne:q≠t:=fun e=>by
      subst e;rw[a (J0o.1 hm)] at h;cases h
     rw[J0k hne];exact b v h
   | false =>
     simp only;by_cases e:q=t
     . subst e;rw[J0m rfl,J0m rfl];refine⟨fun h=>?_,fun v h=>h⟩;rw[J0o.2 h] at hm;cases hm
     . rw[J0k e,J0k e];obtain⟨a,b⟩:=J85 l (q::seen) t;exact⟨fun h=>a (List.mem_cons_of_mem _ h),b⟩
inductive CO where
 | normal (s:CS)
 | exit (id:Nat) (s:CS)
 | ret (s:CS)
def CO.out:CO->Out
 | .normal s=>.normal s.st
 | .exit id s=>.exit id s.st
 | .ret s=>.ret s.st
abbrev ET:=J1i->J0B->Nat->Option CO
noncomputable def Y1A (a b:ET):ET:=fun e o k=>match a e o k with
 | some (.normal ⟨e,o,k⟩)=>b e o k
 | some (.exit id s)=>some (.exit id s)
 | some (.ret s)=>some (.ret s)
 | none=>none
noncomputable def X4Q (c:X) (a b:ET):ET:=fun e o k=>match gx c e with
 | some (.bool true)=>a e o k
 | some (.bool false)=>b e o k
 | _=>none
noncomputable def Q7T (id:Nat) (b:ET):ET:=fun e o k=>match b e o k with
 | some (.exit id' s)=>match Nat.beq id' id with|true=>some (.normal s)|false=>some (.exit id' s)
 | some (.normal s)=>some (.normal s)
 | some (.ret s)=>some (.ret s)
 | none=>none
noncomputable def X06 (fuel:Nat) (b:ET):ET:=@Nat.rec (fun _=>ET) (fun _ _ _=>none) (fun _ ih e o k=>fL (prn e []) fun e=>match b e o k with
 | some (.normal ⟨e,o,k⟩)=>ih e o k
 | some (.exit id s)=>some (.exit id s)
 | some (.ret s)=>some (.ret s)
 | none=>none) fuel
noncomputable def Y1B (call:J2J) (l:List SI):ET:=fun e o k=>match X7f call l e o k with|some s=>some (.normal s)|none=>none
noncomputable def X4P (call:J2J) (l:List DI):ET:=fun e o k=>match X1n call l e o k with|some s=>some (.normal s)|none=>none
noncomputable def evC (call:J2J) (fuel:Nat) (sc:SC):ET :=
 @SC.rec (fun _=>ET) (fun e o k=>some (.normal ⟨e,o,k⟩)) (Y1B call) (X4P call) (fun _ _ a b=>Y1A a b) (fun c _ _ a b=>X4Q c a b) (fun id _ b=>Q7T id b) (fun _ b=>X06 fuel b)
  (fun id e o k=>some (.exit id ⟨e,o,k⟩)) (fun e o k=>some (.ret ⟨e,o,k⟩)) (fun _ _ _ _ _ _ _ _ _=>none) sc
theorem X64 {P:Program} (hm:P.follows .mixedOrders=true) {N:Nat} {bk:BK} {call:J2J} (hcall:J8J P call) {fuel:Nat}:∀(sc:SC) (e:J1i) (o:J0B) (k:Nat) (out:CO) (K:Out->Prop),
 evC call fuel sc e o k=some out->K out.out->vc P N bk sc (J21 e) (J0L o) (ksV k) K:=by
 intro sc
 induction sc with
 | skip=>intro e o k out K h hK;have h:some (CO.normal ⟨e,o,k⟩)=some out:=h;cases h;simp only[vc];exact hK
 | ops l =>
   intro e o k out K h hK;have h:Y1B call l e o k=some out:=h;unfold Y1B at h;split at h
   . rename_i s hs;cases h;simp only[vc];exact J7y hcall l e o k s _ hs hK
   . cases h
 | draw l =>
   intro e o k out K h hK;have h:X4P call l e o k=some out:=h;unfold X4P at h;split at h
   . rename_i s hs;cases h;simp only[vc];exact J2v hcall l e o k s _ hs hK
   . cases h
 | seq a b iha ihb =>
   intro e o k out K h hK;have h:Y1A (evC call fuel a) (evC call fuel b) e o k=some out:=h;unfold Y1A at h;simp only[vc];split at h
   . rename_i e' o' k' ha;exact iha e o k _ _ ha (ihb e' o' k' out K h hK)
   . rename_i ha;cases h;exact iha e o k _ _ ha hK
   . rename_i ha;cases h;exact iha e o k _ _ ha hK
   . cases h
 | cond c a b iha ihb =>
   intro e o k out K h hK;have h:X4Q c (evC call fuel a) (evC call fuel b) e o k=some out:=h;unfold X4Q at h;simp only[vc];split at h
   . rename_i hc;refine J0G hc ?_;simp only[C.v];exact iha e o k out K h hK
   . rename_i hc;refine J0G hc ?_;simp only[C.v];exact ihb e o k out K h hK
   . cases h
 | block id b ih =>
   intro e o k out K h hK;have h:Q7T id (evC call fuel b) e o k=some out:=h;unfold Q7T at h;simp only[vc];split at h
   . rename_i id' s hb;refine ih e o k _ _ hb ?_;simp only[CO.out];cases hx:Nat.beq id' id with
     | true=>rw[hx] at h;cases h;exact hK
     | false=>rw[hx] at h;cases h;exact hK
   . rename_i hb;cases h;exact ih e o k _ _ hb hK
   . rename_i hb;cases h;exact ih e o k _ _ hb hK
   . cases h
 | loop b ih =>
   intro e o k out K h hK;have h:X06 fuel (evC call fuel b) e o k=some out:=h;simp only[vc];refine J5D.toI ?_;have key:∀(n:Nat) (e:J1i) (o:J0B) (k:Nat),X06 n (evC call fuel b) e o k=some out->J5D P N bk b (J21 e) (J0L o) (ksV k) K:=by
    intro n
    induction n with
    | zero=>intro e o k h;cases h
    | succ n ihn =>
      intro e o k h;have h:(fL (prn e []) fun e=>match evC call fuel b e o k with
       | some (.normal ⟨e,o,k⟩)=>X06 n (evC call fuel b) e o k
       | some (.exit id s)=>some (.exit id s)
       | some (.ret s)=>some (.ret s)
       | none=>none)=some out:=h
      rw[J44] at h;refine J5D.weak (env':=J21 (prn e [])) (fun t v hv=>?_) (J5D.step hm ?_)
      . rw[J21,J2u] at hv ⊢;cases hl:look (prn e []) t with
        | none=>rw[hl] at hv;cases hv
        | some c=>rw[hl] at hv;rw[(J85 e [] t).2 c hl];exact hv
      . split at h
        . rename_i e' o' k' hb;exact ih _ _ _ _ _ hb (ihn e' o' k' h)
        . rename_i hb;cases h;exact ih _ _ _ _ _ hb hK
        . rename_i hb;cases h;exact ih _ _ _ _ _ hb hK
        . cases h
   exact key fuel e o k h
 | exit id=>intro e o k out K h hK;have h:some (CO.exit id ⟨e,o,k⟩)=some out:=h;cases h;simp only[vc];exact hK
 | ret=>intro e o k out K h hK;have h:some (CO.ret ⟨e,o,k⟩)=some out:=h;cases h;simp only[vc];exact hK
 | rf g ps a b _ _=>intro e o k out K h hK;cases h
noncomputable def X4W (e:J1i) (o:J0B):List RV->Option (List C)
 | []=>some []
 | .tmp t::r=>match lk e t with
   | some v=>match X4W e o r with|some l=>some (v::l)|none=>none
   | none=>none
 | .cell a z::r=>match lk e a with
   | some p=>match J8A o z p with
     | some v=>match X4W e o r with|some l=>some (v::l)|none=>none
     | none=>none
   | none=>none
theorem Q13 {e:J1i} {o:J0B}:∀{rs:List RV} {l:List C} {K:List V->Prop},X4W e o rs=some l->K (C.vs l)->J9I (J21 e) (J0L o) rs K
 | [],l,K,h,hK=>by simp only[X4W,Option.some.injEq] at h;subst h;simpa[J9I,C.vs] using hK
 | .tmp t::r,l,K,h,hK=>by
   simp only[X4W] at h;split at h
   . rename_i v hv;split at h
     . rename_i l' hl;cases h;simp only[J9I,J1Z hv];exact Q13 hl (by simpa[C.vs] using hK)
     . cases h
   . cases h
 | .cell a z::r,l,K,h,hK=>by
   simp only[X4W] at h;split at h
   . rename_i p hp;split at h
     . rename_i v hv;split at h
       . rename_i l' hl;cases h;simp only[J9I,J1Z hp];exact J7C hv (Q13 hl (by simpa[C.vs] using hK))
       . cases h
     . cases h
   . cases h
def X7e:List C->C
 | [v]=>v
 | vs=>.tup vs
theorem X4U {l:List C} {K:V->Prop} (hK:K (X7e l).v):Q4q (C.vs l) K:=by
 match l with
 | [v]=>simpa[Q4q,C.vs,X7e] using hK
 | []=>simpa[Q4q,C.vs,X7e,C.v] using hK
 | a::b::r=>simpa[Q4q,C.vs,X7e,C.v] using hK
noncomputable def X7V (rs:List RV) (s:CS):Option R:=match X4W s.e s.o rs with
 | some l=>some ⟨X7e l,s.o,s.k⟩
 | none=>none
noncomputable def Y1E (rs:List RV) (o:CO):Option R:=match o with
 | .normal s=>X7V rs s
 | .ret s=>X7V rs s
 | .exit _ _=>none
def X7R:Nat->List C->J1i
 | _,[]=>[]
 | i,v::r=>(i,v)::X7R (i+1) r
theorem Q7K:∀(i:Nat) (l:List C),J21 (X7R i l)=J7t i (C.vs l)
 | i,[]=>rfl
 | i,v::r=>by simp only[X7R,C.vs,J7t,<- Q7K (i+1) r];rfl
def X7O (c:C) (r:List Nat):List Nat:=match c with
 | .loc k _=>k::r
 | .oel k _ _ _=>k::r
 | .vec k _ _ _=>k::r
 | .map k=>k::r
 | _=>r
noncomputable def X0C (l:List C):List Nat->List Nat:=@List.rec C (fun _=>List Nat->List Nat) (fun r=>r) (fun c _ ih r=>X7O c (ih r)) l
noncomputable def X6M (c:C) (r:List Nat):List Nat:=match c with
 | .agg cs=>X0C cs r
 | .tup cs=>@List.rec C (fun _=>List Nat) r (fun c _ ih=>match c with | .agg cs=>X0C cs ih | .fn _ _ cs=>X0C cs ih|c=>X7O c ih) cs
 | .fn _ _ cs=>X0C cs r
 | .iface _ v=>X7O v r
 | c=>X7O c r
noncomputable def X6N (b:CB) (r:List Nat):List Nat:=match b with
 | .cells cs=>@List.rec C (fun _=>List Nat) r (fun c _ ih=>X6M c ih) cs
 | _=>r
noncomputable def X57 (n:Nat) (own:J0B) (fuel:Nat):List Nat->List Nat->List Nat :=
 @Nat.rec (fun _=>List Nat->List Nat->List Nat) (fun _ seen=>seen) (fun _ ih work seen=>match work with
  | []=>seen
  | k::r=>match Nat.blt k n with
    | true=>ih r seen
    | false=>match mN k seen with
      | true=>ih r seen
      | false=>match lk own k with
        | some b=>ih (X6N b r) (k::seen)
        | none=>ih r seen) fuel
noncomputable def X9L (n:Nat) (own:J0B) (r:List Nat):List Nat:=@List.rec (Nat×CB) (fun _=>List Nat) r (fun p _ ih=>match Nat.blt p.1 n with|true=>X6N p.2 ih|false=>ih) own
noncomputable def gcO (n:Nat) (seen:List Nat) (l:J0B):(J0B->R)->R :=
 @List.rec (Nat×CB) (fun _=>(J0B->R)->R) (fun K=>K []) (fun p _ ih K=>match Nat.blt p.1 n with
  | true=>ih (fun r=>K (p::r))
  | false=>match mN p.1 seen with
    | true=>ih (fun r=>K (p::r))
    | false=>ih K) l
theorem J9n (n:Nat) (seen:List Nat):∀(l:J0B) (K:J0B->R) (P:R->Prop),(∀q,q.Sublist l->P (K q))->P (gcO n seen l K)
 | [],K,P,h=>h [] (List.Sublist.refl _)
 | p::l,K,P,h=>by
   have e:gcO n seen (p::l) K=match Nat.blt p.1 n with
    | true=>gcO n seen l (fun r=>K (p::r))
    | false=>match mN p.1 seen with
      | true=>gcO n seen l (fun r=>K (p::r))
      | false=>gcO n seen l K:=rfl
   rw[e];split
   . exact J9n n seen l _ P (fun q hq=>h _ (hq.cons_cons p))
   . split
     . exact J9n n seen l _ P (fun q hq=>h _ (hq.cons_cons p))
     . exact J9n n seen l K P (fun q hq=>h q (hq.cons p))
def newB (n:Nat) (k:Nat):Bool:=Nat.blt n k
noncomputable def gcR (n:Nat) (r:R):R:=match newB n r.k with
 | true=>fL (X57 n r.o 1000 (X6M r.v (X9L n r.o [])) []) fun seen=>gcO n seen r.o fun o=>⟨r.v,o,r.k⟩
 | false=>r
theorem X6X (n:Nat) (r:R):(gcR n r).v=r.v/\(gcR n r).k=r.k/\(gcR n r).o.Sublist r.o:=by
 unfold gcR;split
 . rw[J44];exact J9n n _ r.o _ (fun q=>q.v=r.v/\q.k=r.k/\q.o.Sublist r.o) (fun q hq=>⟨rfl,rfl,hq⟩)
 . exact⟨rfl,rfl,List.Sublist.refl _⟩
theorem Q99 {a b:J0B} (h:a.Sublist b):(J0L a).Sublist (J0L b):=h.map _
noncomputable def Q47 (own:J0B):List C->Option (List C)
 | []=>some []
 | v::r=>match X7k own v with
   | some c=>match Q47 own r with
     | some l=>some (c::l)
     | none=>none
   | none=>none
theorem J9w {own:J0B}:∀{l cs:List C} {K:List V->Prop},Q47 own l=some cs->K (C.vs cs)->X1z (J0L own) (C.vs l) K
 | [],cs,K,h,hK=>by simp only[Q47,Option.some.injEq] at h;subst h;simpa[C.vs,X1z] using hK
 | v::r,cs,K,h,hK=>by
   unfold Q47 at h;split at h
   . rename_i c hc;split at h
     . rename_i l hl;cases h;simp only[C.vs,X1z];exact Q2d hc (J9w hl (by simpa[C.vs] using hK))
     . cases h
   . cases h
noncomputable def kfC:C->Bool
 | .agg cs=>J8H Q5l cs
 | .tup cs=>J8H Q5l cs
 | .iface _ v=>Q5l v
 | .fn _ _ cap=>J8H Q5l cap
 | v=>Q5l v
theorem X6L (c:C):c.v.kf=kfC c:=by
 cases c<;>simp[C.v,V.kf,kfC,J22 J69,J69]<;>simp[Q5l,V.kf1,Q8Y]
def J8t:C->Bool
 | .bool _ | .int _ _ | .str _ _ | .nilptr | .nilslice | .nilmap | .nilfunc | .niliface | .unit=>true
 | _=>false
theorem Q7H (c:C):c.v.flat1=J8t c:=by cases c<;>simp[C.v,V.flat1,J8t]
noncomputable def X4E:C->Bool
 | .agg cs=>J8H J8t cs
 | .tup cs=>J8H J8t cs
 | v=>J8t v
theorem X0S (c:C):c.v.flat=X4E c:=by
 cases c<;>simp[C.v,V.flat,X4E,J22 Q7H]<;>simp[V.flat1,J8t]
theorem LLe.self:∀(l:List V),LLe l l
 | []=>trivial
 | _::r=>⟨.rfl,LLe.self r⟩
inductive J7Y where
 | code (sc:SC) (n:Nat) (rs:List RV)
 | ext (g:List C->Option C)
 | catch_
def Q5e (P:Program) (f:FuncId):J7Y->Prop
 | .code sc n rs=>J0P P f=true/\∃fn c,P.funcs[f]?=some fn/\fn.body=some c/\fn.ntmps=n/\J03 P n c=some sc/\Q2f P fn.results.toList=some rs
 | .ext g=>J0P P f=true/\∀args v,g args=some v->Ret P f (C.vs args) v.v
 | .catch_=>J0P P f=true/\∀(g:FuncId) (bd:Bool) (cap:List V) (own:Own) (ks:List Nat) (K:V->Own->List Nat->Prop),J0P P g=true->J0K P g cap own ks (fun _ o k=>K (.tup [.int .i64 0,.int .i64 0]) o k)->J0K P f [.fn (.func g) bd cap] own ks K
def Q1l (P:Program):List (Nat×J7Y)->Prop
 | []=>True
 | (f,d)::r=>Q5e P f d/\Q1l P r
theorem Q1l.look {P:Program}:∀{t:List (Nat×J7Y)} {f:Nat} {d:J7Y},Q1l P t->lk t f=some d->Q5e P f d
 | [],f,d,_,h=>by cases h
 | (q,x)::r,f,d,ht,h=>by
   rw[J7U] at h;unfold Go.Eng.look at h;split at h
   . rename_i hb;have:=Nat.eq_of_beq_eq_true hb;subst this;cases h;exact ht.1
   . rw[<- J7U] at h;exact Q1l.look ht.2 h
noncomputable def evG (tb:List (Nat×J7Y)) (lf:Nat) (ih:J2J) (f:FuncId) (args:List C) (own:J0B) (ks:Nat):Option R :=
 match lk tb f with
  | some (.code sc n rs)=>match Nat.ble (ln args) n with
    | true=>match evC ih lf sc (X7R 0 args) own ks with
      | some out=>match Y1E rs out with
        | some r=>some (gcR ks r)
        | none=>none
      | none=>none
    | false=>none
  | some (.ext g)=>match J8H kfC args with
    | true=>match g args with
      | some v=>some ⟨v,own,ks⟩
      | none=>none
    | false=>match Q47 own args with
      | some args'=>match g args' with
        | some v=>match X4E v with
          | true=>some ⟨v,own,ks⟩
          | false=>none
        | none=>none
      | none=>none
  | some .catch_=>match args with
    | [.fn (.func g) _ cap]=>match ih g cap own ks with
      | some ⟨_,o,k⟩=>some ⟨.tup [.int .i64 0,.int .i64 0],o,k⟩
      | none=>none
    | _=>none
  | none=>none
noncomputable def evF (tb:List (Nat×J7Y)) (lf:Nat) (fuel:Nat):J2J:=@Nat.rec (fun _=>J2J) (fun _ _ _ _=>none) (fun _ ih=>evG tb lf ih) fuel
theorem X2u {P:Program} (hm:P.follows .mixedOrders=true) {tb:List (Nat×J7Y)} (ht:Q1l P tb) {lf:Nat}:∀(fuel:Nat),J8J P (evF tb lf fuel)
 | 0=>⟨fun f args own ks r h=>by cases h⟩
 | fuel+1=>⟨fun f args own ks r h=>by
   have ih:=X2u hm ht (lf:=lf) fuel;have h:evG tb lf (evF tb lf fuel) f args own ks=some r:=h;unfold evG at h;split at h
   . rename_i sc n rs hl;obtain⟨hcb,fn,c,hf,hb,hn,hc,hr⟩:=ht.look hl;subst hn;split at h
     . rename_i hle;split at h
       . rename_i out hout;split at h
         . rename_i r' hret;cases h;refine⟨hcb,fun K hK=>?_⟩;obtain⟨g1,g2,g3⟩:=X6X ks r';rw[g1,g2] at hK;refine Q8t (Q99 g3) ?_ hK;refine Q1c hm hf hb hc hr ?_ ?_
           . rw[C.vs_length];rw[X0t] at hle;exact Nat.le_of_ble_eq_true hle
           . rw[<- Q7K];have fin:∀s,X7V rs s=some r'->J9I (J21 s.e) (J0L s.o) rs fun vs=>Q4q vs fun v=>v=r'.v.v/\J0L s.o=J0L r'.o/\ksV s.k=ksV r'.k:=by
              intro s hs;unfold X7V at hs;split at hs
              . rename_i l hl';cases hs;exact Q13 hl' (X4U ⟨rfl,rfl,rfl⟩)
              . cases hs
             refine X64 hm ih sc _ own ks out _ hout ?_;cases out with
             | normal s=>exact fin s hret
             | ret s=>exact fin s hret
             | exit id s=>cases hret
         . cases h
       . cases h
     . cases h
   . rename_i g hl;obtain⟨hcb,hg⟩:=ht.look hl;split at h
     . split at h
       . rename_i v hv;cases h;refine⟨hcb,fun K hK=>(hg args v hv (J0L own) (ksV ks)).mono ?_⟩;rintro v' o' k' ⟨rfl,rfl,rfl⟩;exact hK
       . cases h
     . split at h
       . rename_i args' ha;split at h
         . rename_i v hv;split at h
           . rename_i hf;cases h;exact⟨hcb,fun K hK=>J1n (hg args' v hv) (by rw[X0S];exact hf) (J9w ha (LLe.self _)) hK⟩
           . cases h
         . cases h
       . cases h
   . rename_i hl;obtain⟨hcb,hg⟩:=ht.look hl;split at h
     . rename_i g bd cap _;split at h
       . rename_i v o k hi;cases h;obtain⟨a1,a2⟩:=ih.out _ _ _ _ _ hi;refine⟨hcb,fun K hK=>?_⟩;have:=hg g bd (C.vs cap) (J0L own) (ksV ks) K a1 (a2 (fun _ o k=>K (.tup [.int .i64 0,.int .i64 0]) o k) (by simpa[C.v,C.vs] using hK));simpa[C.vs,C.v] using this
       . cases h
     . cases h
   . cases h⟩
noncomputable def Y1I (r:R):Option C:=match r.v with
 | .tup cs=>match Q47 r.o cs with
   | some l=>some (.tup l)
   | none=>none
 | v=>X7k r.o v
theorem X42 {r:R} {c:C} {K:V->Prop} (h:Y1I r=some c) (hK:K c.v):Q5m (J0L r.o) r.v.v K:=by
 obtain⟨v,o,k⟩:=r;unfold Y1I at h;simp only at h ⊢;split at h
 . split at h
   . rename_i l hl;cases h;simp only[C.v,Q5m];exact J9w hl (by simpa[C.v] using hK)
   . cases h
 . rename_i hne;have hb:=Q2d h hK;cases v<;>first
    | exact(hne _ rfl).elim
    | (simp only[C.v] at hb ⊢;simp only[Q5m];exact hb)
noncomputable def evX (tb:List (Nat×J7Y)) (lf fuel:Nat) (f:FuncId) (args:List C):Option C:=match J8H kfC args with
 | true=>match evF tb lf fuel f args [] 0 with
   | some r=>Y1I r
   | none=>none
 | false=>none
theorem J7r {P:Program} (hm:P.follows .mixedOrders=true) {tb:List (Nat×J7Y)} (ht:Q1l P tb) {lf fuel:Nat} {f:FuncId} {args:List C} {c:C} (h:evX tb lf fuel f args=some c):Ret P f (C.vs args) c.v:=by
 unfold evX at h;split at h
 case h_2=>cases h
 rename_i hk;have hk:J24 V.kf (C.vs args)=true:=by rw[J22 X6L];exact hk
 split at h
 case h_2=>cases h
 rename_i r hr;have hc:=((X2u hm ht (lf:=lf) fuel).out _ _ _ _ _ hr).2 (fun v own' _=>Q5m own' v fun v'=>v'=c.v) (X42 h rfl);intro own ks;constructor;intro M w σ us hlen hd hh;refine(hc.out M w Sg.none us hlen (fun i v u hv hu=>(hd i v u hv hu).kf (J0w hk v (List.mem_of_getElem? hv)) Sg.none) (J2Q (ksV 0) List.nodup_range')).mono ?_;rintro e w' ⟨M',σ',v,own',ks',u,rfl,hv,hh',tr,_,hfr⟩;obtain⟨v',hK,hv'⟩:=J4b hfr;subst hK;have hM:∀b,b<w.heap.size->(J4j M' w' σ' own' b↔M b):=by
  intro b hb;have hno:¬ J0y w' σ' own' b:=fun ho=>by
   rcases tr.new b ho with h1|h1
   . exact J0T h1
   . omega
  constructor
  . intro h1;exact(tr.adv.muts b hb J0T).1 h1.1
  . intro h1;exact⟨(tr.adv.muts b hb J0T).2 h1,hno⟩
 have hfr:=J3f (M'':=J4j M' w' σ' own') hh tr hM;exact⟨_,σ,c.v,own,ks,u,rfl,(hv' M' w' σ' u hh'.own hv).mono (Ext.mk (fun _ _ h=>⟨h,rfl⟩) (Nat.le_refl _)) (Sg.none_le σ),hfr.1,hfr.2,Kd.refl _ _ _,rfl,rfl,rfl⟩
theorem J4D {P:Program} {f:FuncId} {fn:Func} {c:Code} {sc:SC} {n:Nat} {rs:List RV} (hf:P.funcs[f]?=some fn) (hb:fn.body=some c) (hn:fn.ntmps=n) (hnm:(fn.name == "runtime.NumGoroutine")=false)
 (hc:J03 P fn.ntmps c=some sc) (hr:Q2f P fn.results.toList=some rs):Q5e P f (.code sc n rs):=by
 subst hn;exact⟨by simp[J0P,hf,hb,hnm],fn,c,hf,hb,rfl,hc,hr⟩
noncomputable def Q1P (l:List (List C×C)) (args:List C):Option C:=@List.rec (List C×C) (fun _=>Option C) none (fun p _ ih=>match J7H args p.1 with|true=>some p.2|false=>ih) l
theorem J7p {P:Program} {f:FuncId} (hf:J0P P f=true) (l:List (List C×C)) (h:∀p,p∈l->Ret P f (C.vs p.1) p.2.v):Q5e P f (.ext (Q1P l)):=by
 refine⟨hf,fun args v hv=>?_⟩
 induction l with
 | nil=>cases hv
 | cons p r ih =>
   have hv:(match J7H args p.1 with|true=>some p.2|false=>Q1P r args)=some v:=hv;split at hv
   . rename_i hb;cases hv;rw[J4g _ _ hb];exact h p (by simp)
   . exact ih (fun q hq=>h q (by simp[hq])) hv
theorem Q3i {P:Program} {f:FuncId} {a:List C} {c:C} (h:Ret P f (C.vs a) c.v):∀p,p∈[(a,c)]->Ret P f (C.vs p.1) p.2.v:=by
 intro p hp;simp only[List.mem_singleton] at hp;subst hp;exact h
def X7Z:C->C->Bool
 | .tup l,.tup l'=>J7H l l'
 | a,b=>X5B a b
theorem X5j {a b:C} (h:X7Z a b=true):a=b:=by
 unfold X7Z at h;split at h
 . rw[J4g _ _ h]
 . exact Q2m _ _ h
noncomputable def J3F (tb:List (Nat×J7Y)) (lf fuel:Nat) (f:FuncId) (l:List (List C×C)):Bool:=@List.rec (List C×C) (fun _=>Bool) true (fun p _ ih=>match evX tb lf fuel f p.1 with
 | some c=>match X7Z c p.2 with|true=>ih|false=>false
 | none=>false) l
theorem J1d {P:Program} (hm:P.follows .mixedOrders=true) {tb:List (Nat×J7Y)} (ht:Q1l P tb) {lf fuel:Nat} {f:FuncId} {l:List (List C×C)} (h:J3F tb lf fuel f l=true):∀p,p∈l->Ret P f (C.vs p.1) p.2.v:=by
 induction l with
 | nil=>intro p hp;cases hp
 | cons q r ih =>
   have h:(match evX tb lf fuel f q.1 with|some c=>(match X7Z c q.2 with|true=>J3F tb lf fuel f r|false=>false)|none=>false)=true:=h;split at h
   . rename_i c hc;split at h
     . rename_i hb;intro p hp;rcases List.mem_cons.1 hp with rfl|hp
       . rw[<- X5j hb];exact J7r hm ht hc
       . exact ih h p hp
     . cases h
   . cases h
theorem J1y {P:Program} {f:FuncId} {a b:List (List C×C)} (ha:∀p,p∈a->Ret P f (C.vs p.1) p.2.v) (hb:∀p,p∈b->Ret P f (C.vs p.1) p.2.v):∀p,p∈a++b->Ret P f (C.vs p.1) p.2.v:=fun p hp=>by
 rcases List.mem_append.1 hp with h|h
 . exact ha p h
 . exact hb p h
theorem J0O {P:Program} (hm:P.follows .mixedOrders=true) {tb:List (Nat×J7Y)} (ht:Q1l P tb) {lf fuel:Nat} {f:FuncId} (hf:J0P P f=true):Q5e P f (.ext (evX tb lf fuel f)) :=
 ⟨hf,fun _ _ h=>J7r hm ht h⟩
theorem Q3z {M M':Nat->Prop} {w w':World} {σ:Sg} {own:Own} {ks:List Nat} (hh:J0R M w σ own ks) (hE:Ext M w M' w') (hM:∀b,J0y w σ own b->M' b/\w'.heap[b]?=w.heap[b]?) :
 J0R M' w' σ own ks/\∀n,J0y w' σ own n↔J0y w σ own n:=by
 have keep:∀k b n,(k,b)∈own->(J0p w' σ k b n↔J0p w σ k b n):=fun k b n hm=>J0W (Sg.le_refl _) (hh.own.key hm) fun ob hob=>(hM ob ⟨k,b,hm,.inl hob⟩).2;exact⟨⟨⟨fun k b hm=>(hh.own.blk k b hm).mono hE (Sg.le_refl _) fun n hn=>hM n ⟨k,b,hm,hn⟩,hh.own.nodup,fun k b k' b' n m1 m2 hne e1 e2=>hh.own.apart k b k' b' n m1 m2 hne ((keep k b n m1).1 e1) ((keep k' b' n m2).1 e2)⟩,hh.fresh,hh.knodup⟩,
  fun n=>J2f hh.own (Sg.le_refl _) fun b hb=>(hM b hb).2⟩
noncomputable def X3v {α:Type} (o:Option α):Bool:=@Option.rec α (fun _=>Bool) false (fun _=>true) o
theorem J95 {α:Type} {o:Option α} {d:α} (h:X3v o=true):o=some (o.getD d):=by
 cases o with
 | none=>cases h
 | some x=>rfl
theorem J0d {P:Program} {f:FuncId} {fn:Func} {c:Code} {n:Nat} (hf:P.funcs[f]?=some fn) (hb:fn.body=some c) (hn:fn.ntmps=n) (hnm:(fn.name == "runtime.NumGoroutine")=false)
 (h:(X3v (J03 P fn.ntmps (fn.body.getD .skip))&&X3v (Q2f P fn.results.toList))=true):Q5e P f (.code ((J03 P fn.ntmps (fn.body.getD .skip)).getD .skip) n ((Q2f P fn.results.toList).getD [])):=by
 rw[Bool.and_eq_true] at h;refine J4D hf hb hn hnm ?_ (J95 h.2);have:=J95 (d:=.skip) h.1;rw[hb] at this ⊢;exact this
end Go.Eng
namespace Go.Proofs.YtefdkgkojlflaaaGreatDoor
open Go.Eng
set_option maxRecDepth 100000
set_option maxHeartbeats 1000000 in
theorem Q7s (s:ByteArray) (c:Int) (w:World) :
 Calls Tryz.prog 185 #[.string s,.int .u8 c] w fun e w'=>e=.returned (.int .i64 (Lib.indexByte s.data.toList c.toNat.toUInt8))/\w'=w:=by
 go_enter Tryz.func185,(rfl:Tryz.f185.ntmps=_)
 go_wp2
 rw[run_callFunc_extern Tryz.func203 (by kernel_rfl) (by kernel_rfl) (by kernel_rfl) (e:=Extern.BytealgIndexByte.indexByte) (by kernel_rfl),Lib.run_indexByteString];simp only[Result.andThen];rw[Oper.upon_value]
 go_wp2
 go_ret
 exact⟨rfl,rfl⟩
noncomputable def ixA (b:Nat) (l:Nat):Nat->Nat->Int:=@Nat.rec (fun _=>Nat->Nat->Int) (fun _ _=>.negSucc 0) (fun _ ih c i=>match Nat.beq (Nat.mod c 256) b with|true=>.ofNat i|false=>ih (Nat.div c 256) (Nat.succ i)) l
theorem X2l {b:Nat} (hb:b<256):∀(l c i:Nat),ixA b l c i=if Lib.indexByte (bl l c) b.toUInt8=-1 then -1 else Lib.indexByte (bl l c) b.toUInt8+i
 | 0,c,i=>rfl
 | l+1,c,i=>by
   have e:ixA b (l+1) c i=match Nat.beq (Nat.mod c 256) b with|true=>.ofNat i|false=>ixA b l (Nat.div c 256) (Nat.succ i):=rfl
   rw[e];have hm:c % 256<256:=Nat.mod_lt _ (by omega);have hge:∀(q:List UInt8) (x:UInt8),-1<=Lib.indexByte q x:=by
    intro q x
    induction q with
    | nil=>simp[Lib.indexByte]
    | cons y q ih=>simp only[Lib.indexByte];split<;>(try split)<;>omega
   cases hx:Nat.beq (Nat.mod c 256) b with
   | true =>
     have h1:c % 256=b:=Nat.eq_of_beq_eq_true hx;have h2:(UInt8.ofNat (c % 256) == b.toUInt8)=true:=by rw[h1];simp
     simp only[bl,Lib.indexByte,h2,if_true];simp
   | false =>
     have h1:c % 256≠b:=fun e=>by
      have:Nat.beq (Nat.mod c 256) b=true:=Nat.beq_eq▸e;rw[hx] at this;cases this
     have h2:(UInt8.ofNat (c % 256) == b.toUInt8)=false:=by
      rw[beq_eq_false_iff_ne];intro e;have:=congrArg UInt8.toNat e;simp at this;omega
     have ih:=X2l hb l (c / 256) (i+1);show ixA b l (c / 256) (i+1)=_;rw[ih];simp only[bl,Lib.indexByte,h2,Bool.false_eq_true,if_false];have:=hge (bl l (c / 256)) b.toUInt8;by_cases h3:Lib.indexByte (bl l (c / 256)) b.toUInt8=-1
     . simp[h3]
     . have h4:(Lib.indexByte (bl l (c / 256)) b.toUInt8 == -1)=false:=by simpa using h3
       simp only[h4,h3,if_false,Bool.false_eq_true];rw[if_neg (by omega)];omega
noncomputable def X96 (args:List C):Option C:=match args with
 | [.str l c,.int .u8 (.ofNat b)]=>match Nat.blt b 256 with
   | true=>fI (ixA b l c 0) fun n=>some (.int .i64 n)
   | false=>none
 | _=>none
theorem X6T:Q5e Tryz.prog 185 (.ext X96):=by
 refine⟨by kernel_rfl,fun args v h own ks=>⟨fun M w σ us hlen hd hh=>?_⟩⟩;unfold X96 at h;split at h
 . rename_i l c b;split at h
   . rename_i hb;rw[X4J] at h;cases h
     match us,hlen,hd with
     | [u1,u2],_,hd =>
       have h1:=hd 0 _ u1 rfl rfl;have h2:=hd 1 _ u2 rfl rfl;simp only[C.v] at h1 h2;cases h1;cases h2;refine(Q7s _ _ w).mono ?_;rintro e w' ⟨rfl,rfl⟩;have hb:=Nat.le_of_ble_eq_true hb;have e1:Lib.indexByte (J0t l c).data.toList (Int.ofNat b).toNat.toUInt8=ixA b l c 0:=by
        rw[X2l hb];show Lib.indexByte (bl l c) b.toUInt8=_;split<;>simp_all
       rw[e1];exact⟨M,σ,_,own,ks,_,rfl,.int _ _ _,hh,Tr.refl _ _ _ _,Kd.refl _ _ _,by simp[C.v],rfl,rfl⟩
   . cases h
 . cases h
set_option maxHeartbeats 1000000 in
theorem J81 (w:World):Calls Tryz.prog 117 #[.nilIface] w fun e w'=>e=.returned (.tuple #[.agg #[.int .i64 0,.int .i64 0],.bool false])/\w'=w.alloc (.cells #[.int .i64 0,.int .i64 0] 189):=by
 have hres:Tryz.f117.results=#[.cell 2 189,.tmp 3]:=by kernel_rfl
 go_enter Tryz.func117,(rfl:Tryz.f117.ntmps=_)
 go_wp2
 simp[bodyPost,results,go_sem]
set_option maxHeartbeats 1000000 in
theorem Q49 (p q:Addr) (w:World) :
 CallsD Tryz.prog 116 #[.pointer (some p),.pointer (some q)] .returning w fun e u' w'=>e=.returned (.tuple #[])/\u'=.returning/\w'=(w.alloc (.cells #[.int .i64 0,.int .i64 0] 189)).alloc (.cells #[.int .i64 0,.int .i64 0] 189):=by
 have hres:Tryz.f116.results=#[]:=by kernel_rfl
 refine callsD_of_wpS Tryz.func116 rfl fun c₀ cs hu=>?_;apply wpS_seq;apply wpS_region;simp[wpOpsS,go_sem,recoverD,hu,Exit.thenS];refine(J81 w).mono ?_;rintro e w' ⟨rfl,rfl⟩;simp[go_sem];apply wpS_seq;apply wpS_region;simp[wpOpsS,go_sem,Exit.thenS];refine wpS_cond (t:=false) (by simp[Act.eval,Array.replicate]) ?_;simp only[Bool.false_eq_true,if_false];refine wpS_of_wp (wp_skip ?_);cases c₀
 simp_all [bodyPostS,results]
theorem Q48 {M:Nat->Prop} {w w2 w3 w5:World} {σ:Sg} {own:Own} {ks:List Nat} (hh:J0R M w σ own ks) (hs2:w2.heap.size=w.heap.size+2) (h2:∀b,b<w.heap.size->w2.heap[b]?=w.heap[b]?)
 (o2:w2.os=w.os/\J0U w2 w/\w2.output=w.output)
 {M3:Nat->Prop} {σ3:Sg} {own3:Own} {ks3:List Nat} (hh3:J0R M3 w3 σ3 own3 ks3) (tr:Tr (fun b=>M b\/w.heap.size<=b) w2 σ own M3 w3 σ3 own3)
 (hs5:w3.heap.size<=w5.heap.size) (h5:∀b,b<w3.heap.size->b≠w.heap.size->b≠w.heap.size+1->w5.heap[b]?=w3.heap[b]?) (o5:w5.os=w3.os/\J0U w5 w3/\w5.output=w3.output) :
 J0R M3 w5 σ3 own3 ks3/\Tr M w σ own M3 w5 σ3 own3:=by
 have hown2:∀n,J0y w2 σ own n↔J0y w σ own n:=fun n=>J2f hh.own (Sg.le_refl _) fun b hb=>h2 b (J0r hh.own hb).2;have hs3:=tr.adv.size;have hno:∀b,b=w.heap.size\/b=w.heap.size+1->¬ J0y w3 σ3 own3 b:=by
  intro b hb ho;rcases tr.new b ho with h|h
  . have:=(J0r hh.own ((hown2 b).1 h)).2;omega
  . omega
 have hM3:∀b,b=w.heap.size\/b=w.heap.size+1->M3 b:=by
  intro b hb;refine(tr.adv.muts b (by omega) fun h=>?_).2 (.inr (by omega));have:=(J0r hh.own ((hown2 b).1 h)).2;omega
 have hE:Ext M3 w3 M3 w5:=⟨fun b hb hn=>⟨hn,h5 b hb (fun e=>hn (hM3 b (.inl e))) (fun e=>hn (hM3 b (.inr e)))⟩,hs5⟩;obtain⟨a1,a2⟩:=Q3z hh3 hE (fun b hb=>⟨(J0r hh3.own hb).1,h5 b (J0r hh3.own hb).2 (fun e=>hno b (.inl e) hb) (fun e=>hno b (.inr e) hb)⟩);refine⟨a1,⟨⟨o5.1.trans (tr.adv.os.trans o2.1),o5.2.1.trans (tr.adv.tape.trans o2.2.1),o5.2.2.trans (tr.adv.output.trans o2.2.2),by omega,fun b hb hn=>?_,fun b hb hn=>?_⟩,fun b hb=>?_,tr.le⟩⟩
 . rw[h5 b (by omega) (by omega) (by omega),tr.adv.same b (by omega) (fun h=>hn ((hown2 b).1 h)),h2 b hb]
 . refine(tr.adv.muts b (by omega) (fun h=>hn ((hown2 b).1 h))).trans ⟨fun h=>?_,.inl⟩;rcases h with h|h
   . exact h
   . omega
 . rcases tr.new b ((a2 b).1 hb) with h|h
   . exact .inl ((hown2 b).1 h)
   . right;omega
set_option maxHeartbeats 1000000 in
theorem X1p:Q5e Tryz.prog 95 .catch_:=by
 have hmf:∀(fn:Fn) (first cap:Array Value) (w:World),(Instr.makeFunc fn first cap).run Tryz.prog w=.ok (.func fn first cap) w:=fun _ _ _ _=>rfl;have hres:Tryz.f95.results=#[.cell 2 3,.cell 3 35]:=by kernel_rfl
 refine⟨by kernel_rfl,fun g bd cap own ks K hg h=>⟨fun M w σ us hlen hd hh=>?_⟩⟩
 match us,hlen,hd with
 | [u],_,hd =>
   have hu:=hd 0 _ u rfl rfl;clear hd;cases hu with
   | fn _ _ _ _ lb hcl hcd =>
     go_enter_defers Tryz.func95,(rfl:Tryz.f95.ntmps=_)
     go_wp2
     rw[J1L hg,Oper.upon_enter];have hargs:fnB bd lb++fnC bd lb=lb.toArray:=by cases bd<;>simp[fnB,fnC]
     rw[hargs];obtain⟨w2,hw2⟩:∃w2,w2=((w.alloc (Obj.cells #[Value.int IntKind.i64 0] 3)).alloc (Obj.cells #[Value.int IntKind.i64 0] 35)):=⟨_,rfl⟩;have hs2:w2.heap.size=w.heap.size+2:=by subst hw2;simp
     have h2:∀b,b<w.heap.size->w2.heap[b]?=w.heap[b]?:=by
      intro b hb;subst hw2;rw[J0H (by simp;omega),J0H hb]
     have hb0:w2.heap[w.heap.size]?=some (.cells #[.int .i64 0] 3 (0,0)):=by
      subst hw2;rw[J0H (by simp)];exact J2g
     have hb1:w2.heap[w.heap.size+1]?=some (.cells #[.int .i64 0] 35 (0,0)):=by
      subst hw2;have:=J2g (w:=w.alloc (Obj.cells #[Value.int IntKind.i64 0] 3)) (o:=Obj.cells #[Value.int IntKind.i64 0] 35);simpa using this
     have o2:w2.os=w.os/\J0U w2 w/\w2.output=w.output:=by subst hw2;exact⟨rfl,.rf rfl rfl,rfl⟩
     have hE2:Ext M w (fun b=>M b\/w.heap.size<=b) w2:=⟨fun b hb hn=>⟨fun h=>h.elim hn (by omega),h2 b hb⟩,by omega⟩;obtain⟨hh2,_⟩:=Q3z hh hE2 (fun b hb=>⟨.inl (J0r hh.own hb).1,h2 b (J0r hh.own hb).2⟩);rw[<- hw2];refine(h.out _ w2 σ lb hcl (fun i v u hv hu=>(hcd i v u hv hu).mono hE2 (Sg.le_refl _)) hh2).mono ?_;rintro e w3 ⟨M3,σ3,v3,own3,ks3,u3,rfl,hv3,hh3,tr3,kd3,hK3⟩;have hno2:∀b,w.heap.size<=b->¬ J0y w2 σ own b:=fun b hb ho=>by
      have:=(J0r hh.own ((J2f hh.own (Sg.le_refl _) fun b hb=>h2 b (J0r hh.own hb).2).1 ho)).2;omega
     have c0:w3.heap[w.heap.size]?=some (.cells #[.int .i64 0] 3 (0,0)):=by rw[tr3.adv.same _ (by omega) (hno2 _ (by omega)),hb0]
     have c1:w3.heap[w.heap.size+1]?=some (.cells #[.int .i64 0] 35 (0,0)):=by rw[tr3.adv.same _ (by omega) (hno2 _ (by omega)),hb1]
     have k0:w3.cell? ⟨w.heap.size,0,none⟩=some (.int .i64 0):=by simp[World.cell?,c0]
     have z0:w3.frozen? ⟨w.heap.size,0,none⟩=false:=by simp[World.frozen?,c0]
     have d1:(w3.setCell ⟨w.heap.size,0,none⟩ (.int .i64 0)).heap[w.heap.size+1]?=some (.cells #[.int .i64 0] 35 (0,0)):=by rw[heap_setCell_other _ _ _ _ (by simp)];exact c1
     have k1:(w3.setCell ⟨w.heap.size,0,none⟩ (.int .i64 0)).cell? ⟨w.heap.size+1,0,none⟩=some (.int .i64 0):=by simp[World.cell?,d1]
     have z1:(w3.setCell ⟨w.heap.size,0,none⟩ (.int .i64 0)).frozen? ⟨w.heap.size+1,0,none⟩=false:=by simp[World.frozen?,d1]
     simp only
     go_wp2
     generalize hw4:((w3.setCell ⟨w.heap.size,0,none⟩ (.int .i64 0)).setCell ⟨w.heap.size+1,0,none⟩ (.int .i64 0))=w4;have hs4:w4.heap.size=w3.heap.size:=by subst hw4;simp
     have h4:∀b,b≠w.heap.size->b≠w.heap.size+1->w4.heap[b]?=w3.heap[b]?:=fun b e0 e1=>by
      subst hw4;rw[heap_setCell_other _ _ _ _ (by simpa using e1),heap_setCell_other _ _ _ _ (by simpa using e0)]
     have o4:w4.os=w3.os/\J0U w4 w3/\w4.output=w3.output:=by subst hw4;exact⟨rfl,.rf rfl rfl,rfl⟩
     have q0:w4.heap[w.heap.size]?=some (.cells #[.int .i64 0] 3 (0,0)):=by
      subst hw4;rw[heap_setCell_other _ _ _ _ (by simp)];exact one_setCell c0
     have q1:w4.heap[w.heap.size+1]?=some (.cells #[.int .i64 0] 35 (0,0)):=by
      subst hw4;exact one_setCell d1
     refine leaves_cons (f:=116) (args:=#[.pointer (some ⟨w.heap.size,0,none⟩),.pointer (some ⟨w.heap.size+1,0,none⟩)]) (by simp) (by simp[go_sem]) ?_;refine(Q49 _ _ _).mono ?_;rintro e u' w5 ⟨rfl,rfl,rfl⟩;generalize hw5:((w4.alloc (.cells #[.int .i64 0,.int .i64 0] 189)).alloc (.cells #[.int .i64 0,.int .i64 0] 189))=w5;have hlt0:=lt_of_getElem? q0;have hlt1:=lt_of_getElem? q1;have hs5:w3.heap.size<=w5.heap.size:=by subst hw5;simp;omega
     have h5:∀b,b<w3.heap.size->w5.heap[b]?=w4.heap[b]?:=fun b hb=>by
      subst hw5;rw[J0H (by simp;omega),J0H (by omega)]
     have o5:w5.os=w3.os/\J0U w5 w3/\w5.output=w3.output:=by subst hw5;exact⟨o4.1,⟨o4.2.1.eq,o4.2.1.le⟩,o4.2.2⟩
     obtain⟨f1,f2⟩:=Q48 hh hs2 h2 o2 hh3 tr3 hs5 (fun b hb e0 e1=>(h5 b hb).trans (h4 b e0 e1)) o5;have r0:w5.cell? ⟨w.heap.size,0,none⟩=some (.int .i64 0):=by simp[World.cell?,h5 _ (by omega:w.heap.size<w3.heap.size),q0]
     have r1:w5.cell? ⟨w.heap.size+1,0,none⟩=some (.int .i64 0):=by simp[World.cell?,h5 _ (by omega:w.heap.size+1<w3.heap.size),q1]
     simp[Leaves,settle,results,go_sem,r0,r1];exact⟨M3,σ3,_,J6h (.int _ _ _) (.int _ _ _),own3,ks3,f1,f2,kd3,hK3⟩
end Go.Proofs.YtefdkgkojlflaaaGreatDoor
