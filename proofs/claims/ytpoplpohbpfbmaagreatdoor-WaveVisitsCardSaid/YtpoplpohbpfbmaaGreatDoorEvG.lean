import Derived.Test.YtpoplpohbpfbmaaGreatDoorEvC
import Derived.Test.YtpoplpohbpfbmaaGreatDoorGRCode
import Derived.WalkKit
import Derived.Defers
import Derived.Recover
import Derived.Laws.Pointers
import Derived.Lib.Walk
import Derived.Lib.Strings
import Derived.Lib.Bytealg
import Derived.BigCall
import Derived.Laws.Strings3
import Derived.Test.YtpoplpohbpfbmaaGreatDoorSV1
namespace Go.Eng
theorem vappX_ofF {own:Own} {ks:List Nat} {s bytes:Nat} {x y:V} {K:V->Own->List Nat->Prop} (hn:∀k n s l f op,look own k=some (.fam n s l f op)->False) (h:vappF own ks s bytes x y K):vappX own ks s bytes x y K:=by
 unfold vappX;split
 . split
   . rename_i hlook;exact(hn _ _ _ _ _ _ hlook).elim
   . exact h
 . exact h
theorem ownV_nofam {o:COwn}:∀k n s l f op,look (ownV o) k=some (.fam n s l f op)->False:=fun k n s l f op h=>by
 obtain⟨p,hp,e⟩:=List.mem_map.1 (look_mem h);have e2:p.2.b=.fam n s l f op:=congrArg Prod.snd e;cases hq:p.2<;>rw[hq] at e2<;>cases e2
noncomputable def mkR (c:Option C) (own:COwn) (ks:Nat):Option R:=match c with
 | some v=>some ⟨v,own,ks⟩
 | none=>none
theorem mkR_ok {c:Option C} {own:COwn} {ks:Nat} {r:R} (h:mkR c own ks=some r):c=some r.v/\r.o=own/\r.k=ks:=by
 unfold mkR at h;split at h
 . cases h;exact⟨rfl,rfl,rfl⟩
 . cases h
noncomputable def cfill (env:CEnv):List (Nat×Nat×X)->List C->Option (List C)
 | [],zs=>some zs
 | (off,size,x)::r,zs=>match gx x env with
   | some v=>match cellsN size v with
     | some vs=>match Nat.ble (off+size) (ln zs) with
       | true=>stC zs off vs fun zs'=>cfill env r zs'
       | false=>none
     | none=>none
   | none=>none
theorem cfill_ok {env:CEnv}:∀{ps:List (Nat×Nat×X)} {zs out:List C} {K:List V->Prop},cfill env ps zs=some out->K (C.vs out)->fillK (envV env) ps (C.vs zs) K
 | [],zs,out,K,h,hK=>by simp only[cfill,Option.some.injEq] at h;subst h;simpa[fillK] using hK
 | (off,size,x)::r,zs,out,K,h,hK=>by
   simp only[cfill] at h;split at h
   . rename_i v hv;split at h
     . rename_i vs hvs;split at h
       . rename_i hle;obtain⟨a1,a2,a3,a4⟩:=cellsN_ok hvs;obtain⟨zs',b1,b2,b3,b4,b5⟩:=stC_ok _ _ _ _ _ h;simp only[fillK];refine gx_ok hv (cellsC_ok a1 ?_);rw[ln_eq] at hle;have hle':Nat.ble (off+size) (C.vs zs).length=true:=by rw[C.vs_length];exact hle
         simp only[a3,a4,hle'];rw[C.vs_map,C.vs_map];refine b5 C.v _ ?_;have:=cfill_ok b1 hK
         rwa[C.vs_map] at this
       . cases h
     . cases h
   . cases h
noncomputable def crows (s:Nat):List C->Option (List (List C))
 | []=>some []
 | v::r=>match cellsN s v with
   | some vs=>match allC kf1C vs with
     | true=>match crows s r with
       | some l=>some (vs::l)
       | none=>none
     | false=>none
   | none=>none
theorem crows_ok {s:Nat}:∀{l:List C} {rs:List (List C)} {K:List (List V)->Prop},crows s l=some rs->K (C.vss rs)->rowsK s (C.vs l) K
 | [],rs,K,h,hK=>by simp only[crows,Option.some.injEq] at h;subst h;simpa[rowsK,C.vs,C.vss] using hK
 | v::r,rs,K,h,hK=>by
   simp only[crows] at h;split at h
   . rename_i vs hvs;split at h
     . rename_i hkf;split at h
       . rename_i l hl;cases h;obtain⟨a1,a2,a3,a4⟩:=cellsN_ok hvs;simp only[C.vs,rowsK];refine cellsC_ok a1 ?_;have hkf':allB V.kf1 (C.vs vs)=true:=by rw[allB_vs kf1C_eq];exact hkf
         simp only[a3,a4,hkf'];exact crows_ok hl (by simpa[C.vss] using hK)
       . cases h
     . cases h
   . cases h
noncomputable def cflat (s:Nat):List C->Option (List C)
 | []=>some []
 | v::r=>match cellsN s v with
   | some vs=>match cflat s r with
     | some l=>apK s vs l some
     | none=>none
   | none=>none
theorem cflat_ok {s:Nat}:∀{l rs:List C} {K:List V->Prop},cflat s l=some rs->K (C.vs rs)->flatK s (C.vs l) K
 | [],rs,K,h,hK=>by simp only[cflat,Option.some.injEq] at h;subst h;simpa[flatK,C.vs] using hK
 | v::r,rs,K,h,hK=>by
   simp only[cflat] at h;split at h
   . rename_i vs hvs;split at h
     . rename_i l hl;obtain⟨a1,a2,a3,a4⟩:=cellsN_ok hvs;rw[apK_eq,if_pos (by omega),<- a2,List.take_length] at h;cases h;simp only[C.vs,flatK];refine cellsC_ok a1 ?_;simp only[a3,a4];refine cflat_ok hl ?_;simpa[C.vs_map] using hK
     . cases h
   . cases h
noncomputable def repl {α:Type} (n:Nat) (x:α):List α:=@Nat.rec (fun _=>List α) [] (fun _ ih=>x::ih) n
theorem repl_eq {α:Type} (n:Nat) (x:α):repl n x=List.replicate n x:=by
 induction n with
 | zero=>rfl
 | succ n ih=>show x::repl n x=_;rw[ih];rfl
noncomputable def fL {α β:Type} (l:List α):(List α->β)->β:=@List.rec α (fun _=>(List α->β)->β) (fun K=>K []) (fun x _ ih K=>ih fun r=>K (x::r)) l
theorem fL_eq {α β:Type}:∀(l:List α) (K:List α->β),fL l K=K l
 | [],_=>rfl
 | x::r,K=>fL_eq r fun r=>K (x::r)
noncomputable def mfI (es:List (Int×C)) (a:Int):Option C:=@List.rec (Int×C) (fun _=>Option C) none (fun p _ ih=>match ieq p.1 a with|true=>some p.2|false=>ih) es
theorem mfI_ok {ik:IntKind}:∀(es:List (Int×C)) (a:Int),mfind (α:=KyT (.one ik)) (es.map fun p=>(p.1,p.2.v)) a=(mfI es a).map C.v
 | [],a=>rfl
 | (q,c)::r,a=>by
   have ih:=mfI_ok (ik:=ik) r a;have e:mfI ((q,c)::r) a=match ieq q a with|true=>some c|false=>mfI r a:=rfl
   rw[e];simp only[List.map_cons,mfind,ih];have:=ieq_eq q a;by_cases h:q=a
   . rw[if_pos h];subst h;simp[this]
   . rw[if_neg h];have:ieq q a=false:=by rw[this];simpa using h
     rw[this]
noncomputable def mpI (es:List (Int×C)) (a:Int) (v:C):List (Int×C):=@List.rec (Int×C) (fun _=>List (Int×C)) [(a,v)] (fun p r ih=>match ieq p.1 a with|true=>(p.1,v)::r|false=>p::ih) es
theorem mpI_ok {ik:IntKind}:∀(es:List (Int×C)) (a:Int) (v:C),mput (α:=KyT (.one ik)) (es.map fun p=>(p.1,p.2.v)) a v.v=(mpI es a v).map fun p=>(p.1,p.2.v)
 | [],a,v=>rfl
 | (q,c)::r,a,v=>by
   have ih:=mpI_ok (ik:=ik) r a v;have e:mpI ((q,c)::r) a v=match ieq q a with|true=>(q,v)::r|false=>(q,c)::mpI r a v:=rfl
   rw[e];simp only[List.map_cons,mput,ih];have:=ieq_eq q a;by_cases h:q=a
   . rw[if_pos h];subst h;simp[this]
   . rw[if_neg h];have:ieq q a=false:=by rw[this];simpa using h
     rw[this];simp
noncomputable def mfS (es:List ((Nat×Nat)×C)) (l d:Nat):Option C:=@List.rec ((Nat×Nat)×C) (fun _=>Option C) none (fun p _ ih=>match eqS p.1.1 p.1.2 l d with|true=>some p.2|false=>ih) es
theorem eqS_iff {l c l' c':Nat}:eqS l c l' c'=true↔bytesOf l c=bytesOf l' c':=by rw[eqS_eq];exact Go.MapKept.bytes_beq _ _
theorem mfS_ok:∀(es:List ((Nat×Nat)×C)) (l d:Nat),mfind (α:=KyT .str) (es.map fun p=>(bytesOf p.1.1 p.1.2,p.2.v)) (bytesOf l d)=(mfS es l d).map C.v
 | [],l,d=>rfl
 | ((q1,q2),c)::r,l,d=>by
   have ih:=mfS_ok r l d;have e:mfS (((q1,q2),c)::r) l d=match eqS q1 q2 l d with|true=>some c|false=>mfS r l d:=rfl
   rw[e];simp only[List.map_cons,mfind,ih];by_cases h:bytesOf q1 q2=bytesOf l d
   . rw[if_pos h,eqS_iff.2 h];rfl
   . rw[if_neg h];have:eqS q1 q2 l d=false:=by rw[<- Bool.not_eq_true];exact fun e=>h (eqS_iff.1 e)
     rw[this]
noncomputable def mpS (es:List ((Nat×Nat)×C)) (l d:Nat) (v:C):List ((Nat×Nat)×C):=@List.rec ((Nat×Nat)×C) (fun _=>List ((Nat×Nat)×C)) [((l,d),v)] (fun p r ih=>match eqS p.1.1 p.1.2 l d with|true=>(p.1,v)::r|false=>p::ih) es
theorem mpS_ok:∀(es:List ((Nat×Nat)×C)) (l d:Nat) (v:C),mput (α:=KyT .str) (es.map fun p=>(bytesOf p.1.1 p.1.2,p.2.v)) (bytesOf l d) v.v=(mpS es l d v).map fun p=>(bytesOf p.1.1 p.1.2,p.2.v)
 | [],l,d,v=>rfl
 | ((q1,q2),c)::r,l,d,v=>by
   have ih:=mpS_ok r l d v;have e:mpS (((q1,q2),c)::r) l d v=match eqS q1 q2 l d with|true=>((q1,q2),v)::r|false=>((q1,q2),c)::mpS r l d v:=rfl
   rw[e];simp only[List.map_cons,mput,ih];by_cases h:bytesOf q1 q2=bytesOf l d
   . rw[if_pos h,eqS_iff.2 h];rfl
   . rw[if_neg h];have:eqS q1 q2 l d=false:=by rw[<- Bool.not_eq_true];exact fun e=>h (eqS_iff.1 e)
     rw[this];rfl
noncomputable def getC (z:V) (comma:Bool) (own:COwn) (ks:Nat) (o:Option C):Option R :=
 match o with
 | some v=>match comma with|true=>some ⟨.tup [v,.bool true],own,ks⟩|false=>some ⟨v,own,ks⟩
 | none=>match ofV z with
   | some c=>match comma with|true=>some ⟨.tup [c,.bool false],own,ks⟩|false=>some ⟨c,own,ks⟩
   | none=>none
def getA (comma:Bool) (b:Bool) (K:V->Prop) (v:V):Prop:=match comma with|true=>K (.tup [v,.bool b])|false=>K v
theorem getC_ok {z:V} {comma:Bool} {own:COwn} {ks:Nat} {o:Option C} {r:R} {K:V->Own->List Nat->Prop} (h:getC z comma own ks o=some r) (hK:K r.v.v (ownV r.o) (ksV r.k)) {o':Option V} (ho:o'=o.map C.v) :
 MGet o' (getA comma true fun v=>K v (ownV own) (ksV ks)) (getA comma false (fun v=>K v (ownV own) (ksV ks)) z):=by
 subst ho;cases o with
 | some v =>
   refine⟨fun v' hv=>?_,fun e=>(by cases e)⟩;cases hv;cases comma<;>(simp only[getC,Option.some.injEq] at h;subst h;simpa[C.v,C.vs,getA] using hK)
 | none =>
   refine⟨fun v' hv=>(by cases hv),fun _=>?_⟩;simp only[getC] at h;split at h
   . rename_i c hc;have:=ofV_ok z hc;subst this;cases comma<;>(simp only[Option.some.injEq] at h;subst h;simpa[C.v,C.vs,getA] using hK)
   . cases h
noncomputable def cxop (o:XOp) (env:CEnv) (own:COwn) (ks:Nat):Option R :=
 match o with
 | .mks s bytes zs x=>match gx x env with
   | some (.int _ (.ofNat m))=>match Nat.ble m 4611686018427387904 with
     | true=>match Nat.ble (m*bytes) 140737488355328 with
       | true=>match ofVs zs with
         | some zc=>frC ks fun k ks=>match s with
           | 1=>match zc with
             | [.nilslice]=>fL (repl m C.nilslice) fun l=>some ⟨.vec k 1 0 m,(k,.cells l)::own,ks⟩
             | zc=>fL (repl m zc) fun l=>fL (List.append zc [.bool false]) fun z=>some ⟨.vec k 1 0 m,(k,.vec m 1 z l)::own,ks⟩
           | s=>fL (repl m zc) fun l=>fL (List.append zc [.bool false]) fun z=>some ⟨.vec k s 0 m,(k,.vec m s z l)::own,ks⟩
         | none=>none
       | false=>none
     | false=>none
   | _=>none
 | .mkmap ik=>match ik with
   | .one ik=>frC ks fun k ks=>some ⟨.map k,(k,.map ik [])::own,ks⟩
   | .str=>frC ks fun k ks=>some ⟨.map k,(k,.mapS [])::own,ks⟩
   | .pair _=>none
   | .st _=>none
 | .mget ik z comma m x=>match gx m env with
   | some (.map k)=>match gx x env with
     | some x=>match lk own k with
       | some (.map ik' es)=>match ik with
         | .one i=>match kEq ik' i with
           | true=>match x with
             | .int i' a=>match kEq i' ik' with
               | true=>getC z comma own ks (mfI es a)
               | false=>none
             | _=>none
           | false=>none
         | _=>none
       | some (.mapS es)=>match ik with
         | .str=>match x with
           | .str l d=>getC z comma own ks (mfS es l d)
           | _=>none
         | _=>none
       | _=>none
     | none=>none
   | _=>none
 | .mput ik m x y=>match gx m env with
   | some (.map k)=>match gx x env with
     | some x=>match gx y env with
       | some y=>match kf2C y with
         | true=>match lk own k with
           | some (.map ik' es)=>match ik with
             | .one i=>match kEq ik' i with
               | true=>match x with
                 | .int i' a=>match kEq i' ik' with
                   | true=>fL (mpI es a y) fun es'=>upC k (.map ik' es') own fun own'=>some ⟨.unit,own',ks⟩
                   | false=>none
                 | _=>none
               | false=>none
             | _=>none
           | some (.mapS es)=>match ik with
             | .str=>match x with
               | .str l d=>fL (mpS es l d y) fun es'=>upC k (.mapS es') own fun own'=>some ⟨.unit,own',ks⟩
               | _=>none
             | _=>none
           | _=>none
         | false=>none
       | none=>none
     | none=>none
   | _=>none
 | .asl n s x hi=>match gx x env with
   | some (.oel k s' i j)=>match i with
     | 0=>match j with
       | 0=>match lk own k with
         | some (.vec n' s'' z rows)=>match Nat.beq s s' with
           | true=>match Nat.beq s s'' with
             | true=>match Nat.ble n n' with
               | true=>match cbd hi env n n with
                 | some h=>fOwn (dropC [k] own) fun own'=>some ⟨.fz h s false z rows,own',ks⟩
                 | none=>none
               | false=>none
             | false=>none
           | false=>none
         | _=>none
       | _=>none
     | _=>none
   | _=>none
 | .cpy s x y=>match gx x env with
   | some (.vec k s' lo len)=>match gx y env with
     | some y=>match csrc own s y with
       | some (m,z',rows')=>match lk own k with
         | some (.vec n s'' z rows)=>match Nat.beq s s' with
           | true=>match Nat.beq s s'' with
             | true=>match Nat.ble m len with
               | true=>match Nat.ble (lo+m) n with
                 | true=>match sameL z z' with
                   | true=>match Nat.ble 1 m with
                     | true=>tk m rows' fun q=>stC rows lo q fun rows2=>upC k (.vec n s z rows2) own fun own'=>fN m fun m'=>some ⟨.int .i64 (.ofNat m'),own',ks⟩
                     | false=>none
                   | false=>none
                 | false=>none
               | false=>none
             | false=>none
           | false=>none
         | _=>none
       | none=>none
     | none=>none
   | _=>none
 | _=>none
theorem lastV_app (l:List V) (v:V):lastV (l++[v])=v:=by
 induction l with
 | nil=>rfl
 | cons x r ih =>
   cases r with
   | nil=>rfl
   | cons y r=>simpa[lastV] using ih
theorem mks_tabz (z:List C) (m:Nat):(fun(_:Nat) j=>(C.vs z).getD j default)=tabz (C.vs (z.append [.bool false])) (C.vss (List.replicate m z)):=by
 funext i j;have e:C.vs (z.append [.bool false])=C.vs z++[default]:=by rw[C.vs_map,C.vs_map];simp[C.v];rfl
 simp only[tabz,e,lastV_app];simp only[List.getD_eq_getElem?_getD,C.vss_get,List.getElem?_replicate];by_cases h:i<m
 . simp[h]
 . simp only[h,if_false,Option.map_none,Option.getD_none];by_cases h2:j<(C.vs z).length
   . rw[List.getElem?_append_left h2]
   . rw[List.getElem?_append_right (by omega),List.getElem?_eq_none (by omega)];cases j-(C.vs z).length<;>simp
theorem cxop_ok {o:XOp} {env:CEnv} {own:COwn} {ks:Nat} {r:R} {K:V->Own->List Nat->Prop} (h:cxop o env own ks=some r) (hK:K r.v.v (ownV r.o) (ksV r.k)):vxop o (envV env) (ownV own) (ksV ks) K:=by
 cases o with
 | mks s bytes zs x =>
   simp only[cxop] at h;split at h
   case h_2=>cases h
   rename_i k m hx;split at h
   case h_2=>cases h
   rename_i h1;split at h
   case h_2=>cases h
   rename_i h2;split at h
   case h_2=>cases h
   rename_i zc hz;have hzs:=ofVs_ok zs hz;subst hzs;simp only[vxop];refine gx_ok hx ?_;simp only[C.v];refine⟨m,rfl,Nat.le_of_ble_eq_true h1,Nat.le_of_ble_eq_true h2,?_⟩;obtain⟨h,b1⟩:=frC_ok h;refine b1 _ ?_;unfold mksK;split
   . split at h
     . split at h
       . rename_i hs _ _;rw[fL_eq,repl_eq] at h;cases h;refine .cells ?_;have e1:(C.vs [C.nilslice]).getD 0 default=.nilslice:=by simp[C.vs,C.v]
         rw[e1];have e2:C.vs (List.replicate m C.nilslice)=List.replicate m .nilslice:=by rw[C.vs_map,List.map_replicate];simp[C.v]
         simp only[C.v,ownV,List.map_cons,CB.b,e2] at hK;exact hK
       . rw[fL_eq,repl_eq,fL_eq] at h;cases h;refine .vec ?_;rw[mks_tabz zc m];simpa[C.v,ownV,CB.b] using hK
     . rename_i hne;exact(hne rfl).elim
   . rename_i hne;split at h
     . exact(hne rfl).elim
     . rw[fL_eq,repl_eq,fL_eq] at h;cases h;rw[mks_tabz zc m];simpa[C.v,ownV,CB.b] using hK
 | mkmap ik =>
   simp only[cxop] at h;split at h
   . obtain⟨h,b1⟩:=frC_ok h;cases h;simp only[vxop];exact b1 _ (by simpa[C.v,ownV,CB.b] using hK)
   . obtain⟨h,b1⟩:=frC_ok h;cases h;simp only[vxop];exact b1 _ (by simpa[C.v,ownV,CB.b] using hK)
   . cases h
   . cases h
 | mget ik z comma m x =>
   simp only[cxop] at h;split at h
   case h_2=>cases h
   rename_i k hm;split at h
   case h_2=>cases h
   rename_i x' hx;simp only[vxop];refine gx_ok hm (gx_ok hx ?_);split at h
   . rename_i ik' es hl;split at h
     . rename_i i;split at h
       . rename_i hk;have:=kEq_ok hk;subst this;split at h
         . rename_i i' a;split at h
           . rename_i hk2;have:=kEq_ok hk2;subst this;simp only[C.v,mapK,look_ownV hl,CB.b,decide_true,pairK];have:=getC_ok h hK (mfI_ok (ik:=i') es a);cases comma<;>exact this
           . cases h
         . cases h
       . cases h
     . cases h
   . rename_i es hl;split at h
     . split at h
       . rename_i l d;simp only[C.v,mapK,look_ownV hl,CB.b,decide_true,pairK];have:=getC_ok h hK (mfS_ok es l d);cases comma<;>exact this
       . cases h
     . cases h
   . cases h
 | mput ik m x y =>
   simp only[cxop] at h;split at h
   case h_2=>cases h
   rename_i k hm;split at h
   case h_2=>cases h
   rename_i x' hx;split at h
   case h_2=>cases h
   rename_i y' hy;split at h
   case h_2=>cases h
   rename_i hkf;have hkf':y'.v.kf2=true:=by rw[kf2C_eq];exact hkf
   simp only[vxop];refine gx_ok hm (gx_ok hx (gx_ok hy ?_));split at h
   . rename_i ik' es hl;split at h
     . rename_i i;split at h
       . rename_i hk;have:=kEq_ok hk;subst this;split at h
         . rename_i i' a;split at h
           . rename_i hk2;have:=kEq_ok hk2;subst this;rw[fL_eq] at h;obtain⟨o',c1,c2⟩:=upC_ok h;cases c1;simp only[C.v,mapK,look_ownV hl,CB.b,decide_true,pairK,hkf'];have:=c2 (fun own=>K (.raw (.tuple #[])) own (ksV ks)) (by simpa[C.v] using hK);simp only[CB.b] at this;have e:=mpI_ok (ik:=i') es a y';rw[e];exact this
           . cases h
         . cases h
       . cases h
     . cases h
   . rename_i es hl;split at h
     . split at h
       . rename_i l d;rw[fL_eq] at h;obtain⟨o',c1,c2⟩:=upC_ok h;cases c1;simp only[C.v,mapK,look_ownV hl,CB.b,decide_true,pairK,hkf'];have:=c2 (fun own=>K (.raw (.tuple #[])) own (ksV ks)) (by simpa[C.v] using hK);simp only[CB.b] at this;have e:=mpS_ok es l d y';rw[e];exact this
       . cases h
     . cases h
   . cases h
 | mrng x=>cases h
 | mnxt x=>cases h
 | ment x=>cases h
 | gix g n s x=>cases h
 | mln x=>cases h
 | asl n s x hi =>
   simp only[cxop] at h;split at h
   case h_2=>cases h
   rename_i k s' i j hx;split at h
   case h_2=>cases h
   split at h
   case h_2=>cases h
   split at h
   case h_2=>cases h
   rename_i n' s'' z rows hl;split at h
   case h_2=>cases h
   rename_i h1;split at h
   case h_2=>cases h
   rename_i h2;split at h
   case h_2=>cases h
   rename_i h3;split at h
   case h_2=>cases h
   rename_i m hm;rw[fOwn_eq] at h;cases h;simp only[vxop];refine gx_ok hx ?_;simp only[C.v,look_ownV hl,CB.b,h1,h2,h3];refine cbd_ok hm ?_;rw[dropC_eq];simpa[C.v] using hK
 | cpy s x y =>
   simp only[cxop] at h;split at h
   case h_2=>cases h
   rename_i k s' lo len hx;split at h
   case h_2=>cases h
   rename_i y' hy;split at h
   case h_2=>cases h
   rename_i m z' rows' hsrc;split at h
   case h_2=>cases h
   rename_i n s'' z rows hl;split at h
   case h_2=>cases h
   rename_i h1;split at h
   case h_2=>cases h
   rename_i h2;split at h
   case h_2=>cases h
   rename_i h3;split at h
   case h_2=>cases h
   rename_i h4;split at h
   case h_2=>cases h
   rename_i hz;split at h
   case h_2=>cases h
   rename_i h6;have h6:=Nat.le_of_ble_eq_true h6;simp only[vxop];refine gx_ok hx (gx_ok hy ?_);unfold vcpy;refine csrc_ok hsrc ?_;simp only[C.v,look_ownV hl,CB.b,h1,h2];have e1:=Nat.eq_of_beq_eq_true h1;subst e1;refine⟨Nat.le_of_ble_eq_true h3,Nat.le_of_ble_eq_true h4,?_⟩;rw[tk_eq] at h;split at h
   . rename_i h7;obtain⟨rows2,g1,g2,g3,g4,g5⟩:=stC_ok _ _ _ _ _ h;obtain⟨o',c1,c2⟩:=upC_ok g1;rw[fN_eq] at c1;cases c1;have hl:(rows'.take m).length=m:=by simp;omega
     have g3:=g3 (fun e=>by rw[e] at hl;simp at hl;omega);rw[hl] at g3 g4;rw[fput_tabz g3 h7 (sameL_ok hz)];have:=c2 (fun own'=>K (.int .i64 m) own' (ksV ks)) (by simpa[C.v] using hK);simp only[CB.b,g4] at this;exact this
   . cases h
def unitC:C->Bool
 | .unit=>false
 | _=>true
noncomputable def litRC:C->Bool
 | .tup vs=>allC unitC vs
 | v=>unitC v
theorem litK_ok {c:C} {K:V->Prop} (h:unitC c=true) (hK:K c.v):litK c.v K:=by
 cases c<;>simp only[unitC,reduceCtorEq] at h<;>simp only[C.v] at hK<;>simp only[C.v,litK]<;>first|exact hK|exact cmp_ok hK
theorem litL_ok:∀{l:List C} {K:List V->Prop},allC unitC l=true->K (C.vs l)->litL (C.vs l) K
 | [],K,_,hK=>by simpa[litL,C.vs] using hK
 | c::r,K,h,hK=>by
   rw[allC_cons,Bool.and_eq_true] at h;simp only[C.vs,litL];exact litK_ok h.1 (litL_ok h.2 (by simpa[C.vs] using hK))
theorem litR_ok {c:C} {K:V->Prop} (h:litRC c=true) (hK:K c.v):litR c.v K:=by
 by_cases ht:∃vs,c=.tup vs
 . obtain⟨vs,rfl⟩:=ht;simp only[C.v,litR];exact litL_ok h (by simpa[C.v] using hK)
 . have hu:unitC c=true:=by
    cases c<;>first|exact h|exact(ht ⟨_,rfl⟩).elim
   have:=litK_ok hu hK;cases c<;>first|exact(ht ⟨_,rfl⟩).elim|(simp only[C.v] at this ⊢;simp only[litR];exact this)
abbrev CallT:=FuncId->List C->COwn->Nat->Option R
structure CallOk (P:Program) (call:CallT):Prop where
 out:∀f args own ks r,call f args own ks=some r->callable P f=true/\∀K:V->Own->List Nat->Prop,K r.v.v (ownV r.o) (ksV r.k)->CallF P f (C.vs args) (ownV own) (ksV ks) K
noncomputable def docall (call:CallT) (f:FuncId) (args:List C) (own:COwn) (ks:Nat):Option R:=match call f args own ks with
 | some r=>match litRC r.v with|true=>some r|false=>none
 | none=>none
noncomputable def o_p (b:Bool) (o:POp) (env:CEnv) (own:COwn) (ks:Nat):Option R:=match o with
 | .slc s x lo hi mx same=>match mx with
   | none=>mkR (cslc (match b with|true=>own|false=>[]) s x lo hi env) own ks
   | some mx=>match hi with
     | some hi=>mkR (cslc3 s x lo hi mx same env) own ks
     | none=>none
 | o=>mkR (cpure o env) own ks
noncomputable def o_load (sz:Option Nat) (x:X) (env:CEnv) (own:COwn) (ks:Nat):Option R:=match gx x env with
 | some p=>mkR (cload own sz p) own ks
 | none=>none
noncomputable def o_store (sz:Nat) (a:X) (x:X) (env:CEnv) (own:COwn) (ks:Nat):Option R:=match gx a env with
 | some p=>match gx x env with
   | some v=>cstoreF own sz p v fun own'=>some ⟨.unit,own',ks⟩
   | none=>none
 | none=>none
noncomputable def o_asg (x:X) (env:CEnv) (own:COwn) (ks:Nat):Option R:=mkR (gx x env) own ks
noncomputable def o_call (call:CallT) (f:FuncId) (args:List X) (env:CEnv) (own:COwn) (ks:Nat):Option R:=match gxs env args with
 | some vs=>docall call f vs own ks
 | none=>none
noncomputable def o_callv (call:CallT) (x:X) (args:List X) (env:CEnv) (own:COwn) (ks:Nat):Option R:=match gx x env with
 | some (.fn (.func g) bd cap)=>match gxs env args with
   | some vs=>match bd with
     | true=>fL (List.append cap vs) fun l=>docall call g l own ks
     | false=>fL (List.append vs cap) fun l=>docall call g l own ks
   | none=>none
 | _=>none
noncomputable def o_build (zs:List V) (ps:List (Nat×Nat×X)) (env:CEnv) (own:COwn) (ks:Nat):Option R:=match ofVs zs with
 | some zc=>match cfill env ps zc with
   | some cs=>some ⟨.agg cs,own,ks⟩
   | none=>none
 | none=>none
noncomputable def o_alloc (zs:List V) (env:CEnv) (own:COwn) (ks:Nat):Option R:=match ofVs zs with
 | some zc=>frC ks fun k ks=>some ⟨.loc k 0,(k,.cells zc)::own,ks⟩
 | none=>none
noncomputable def o_box (x:X) (env:CEnv) (own:COwn) (ks:Nat):Option R:=match gx x env with
 | some v=>match cellsC v with
   | some cs=>frC ks fun k ks=>some ⟨.loc k 0,(k,.cells cs)::own,ks⟩
   | none=>none
 | none=>none
noncomputable def o_bslice (s:Nat) (n:Nat) (xs:List X) (env:CEnv) (own:COwn) (ks:Nat):Option R:=match gxs env xs with
 | some vs=>match allC kf2C vs with
   | true=>match crows s vs with
     | some rs=>frC ks fun k ks=>some ⟨.vec k s 0 n,(k,.vec n s [] rs)::own,ks⟩
     | none=>none
   | false=>match cflat s vs with
     | some cs=>frC ks fun k ks=>some ⟨.vec k s 0 n,(k,.cells cs)::own,ks⟩
     | none=>none
 | none=>none
noncomputable def o_app (s:Nat) (bytes:Nat) (x:X) (y:X) (env:CEnv) (own:COwn) (ks:Nat):Option R:=match gx x env with
 | some a=>match gx y env with
   | some c=>cappF own ks s bytes a c
   | none=>none
 | none=>none
noncomputable def o_xt (o:XOp) (env:CEnv) (own:COwn) (ks:Nat):Option R:=cxop o env own ks
noncomputable def o_alloca (n:Nat) (z:V) (_:CEnv) (own:COwn) (ks:Nat):Option R:=match ofV0 z with
 | some c=>frC ks fun k ks=>fL (repl n [c]) fun l=>some ⟨.oel k 1 0 0,(k,.vec n 1 [c] l)::own,ks⟩
 | none=>none
theorem alloca_tabz (z:C) (m:Nat):(fun(_ _:Nat)=>z.v)=tabz (C.vs [z]) (C.vss (List.replicate m [z])):=by
 funext i j;simp only[tabz,C.vs,lastV];simp only[List.getD_eq_getElem?_getD,C.vss_get,List.getElem?_replicate];by_cases h:i<m
 . cases j<;>simp[h,C.vs]
 . cases j<;>simp[h]
noncomputable def cop (call:CallT) (b:Bool) (op:SOp) (env:CEnv) (own:COwn) (ks:Nat):Option R :=
 match op with
 | .p o=>o_p b o env own ks
 | .load sz x=>o_load sz x env own ks
 | .store sz a x=>o_store sz a x env own ks
 | .asg x=>o_asg x env own ks
 | .call f args=>o_call call f args env own ks
 | .callv x args=>o_callv call x args env own ks
 | .build zs ps=>o_build zs ps env own ks
 | .alloc zs=>o_alloc zs env own ks
 | .box x=>o_box x env own ks
 | .bslice s n xs=>o_bslice s n xs env own ks
 | .app s bytes x y=>o_app s bytes x y env own ks
 | .xt o=>o_xt o env own ks
 | .clr _ _ _=>none
 | .alloca n z=>o_alloca n z env own ks
def vopB (b:Bool) (P:Program) (op:SOp) (env:Env) (own:Own) (ks:List Nat) (K:V->Own->List Nat->Prop):Prop :=
 match b with
 | true=>vopO P op env own ks K
 | false=>vop P op env own ks K
theorem vopB_of {b:Bool} {P:Program} {op:SOp} {env:Env} {own:Own} {ks:List Nat} {K:V->Own->List Nat->Prop} (hne:∀s x lo hi mx same,op≠.p (.slc s x lo hi mx same)) (h:vop P op env own ks K):vopB b P op env own ks K:=by
 cases b with
 | false=>exact h
 | true =>
   show vopO P op env own ks K;unfold vopO;split
   . exact(hne _ _ _ _ _ _ rfl).elim
   . exact h
theorem docall_ok {P:Program} {call:CallT} (hcall:CallOk P call) {f:FuncId} {args:List C} {own:COwn} {ks:Nat} {r:R} {K:V->Own->List Nat->Prop} (h:docall call f args own ks=some r) (hK:K r.v.v (ownV r.o) (ksV r.k)) :
 callable P f=true/\CallF P f (C.vs args) (ownV own) (ksV ks) fun v own ks=>litR v fun v=>K v own ks:=by
 unfold docall at h;split at h
 . rename_i r' hr;split at h
   . rename_i hl;cases h;obtain⟨a,b⟩:=hcall.out _ _ _ _ _ hr;exact⟨a,b _ (litR_ok hl hK)⟩
   . cases h
 . cases h
theorem cop_ok {P:Program} {call:CallT} (hcall:CallOk P call) {b:Bool} {op:SOp} {env:CEnv} {own:COwn} {ks:Nat} {r:R} {K:V->Own->List Nat->Prop} (h:cop call b op env own ks=some r) (hK:K r.v.v (ownV r.o) (ksV r.k)) :
 vopB b P op (envV env) (ownV own) (ksV ks) K:=by
 cases op with
 | p o =>
   simp only[cop,o_p] at h;split at h
   . split at h
     . rename_i s x lo hi mx same _;obtain⟨h1,h2,h3⟩:=mkR_ok h;rw[h2,h3] at hK;cases b with
       | true =>
         simp only[vopB,vopO];exact cslc_ok h1 hK
       | false =>
         simp only[vopB,vop,vpure];exact cslc_ok (own:=[]) h1 hK
     . split at h
       . obtain⟨h1,h2,h3⟩:=mkR_ok h;rw[h2,h3] at hK;cases b with
         | true=>simp only[vopB,vopO];exact cslc3_ok h1 hK
         | false=>simp only[vopB,vop,vpure];exact cslc3_ok h1 hK
       . cases h
   . rename_i hne;obtain⟨h1,h2,h3⟩:=mkR_ok h;rw[h2,h3] at hK;refine vopB_of (fun s x lo hi mx same e=>?_) ?_
     . cases e;exact hne _ _ _ _ _ _ rfl
     . simp only[vop];exact cpure_ok h1 hK
 | load sz x =>
   refine vopB_of (fun _ _ _ _ _ _ e=>by cases e) ?_;simp only[cop,o_load] at h;split at h
   . rename_i p hp;obtain⟨h1,h2,h3⟩:=mkR_ok h;rw[h2,h3] at hK;simp only[vop];exact gx_ok hp (cload_ok h1 hK)
   . cases h
 | store sz a x =>
   refine vopB_of (fun _ _ _ _ _ _ e=>by cases e) ?_;simp only[cop,o_store] at h;split at h
   . rename_i p hp;split at h
     . rename_i v hv;obtain⟨o',c1,c2⟩:=cstoreF_ok h;cases c1;simp only[vop];exact gx_ok hp (gx_ok hv (c2 _ (by simpa[C.v] using hK)))
     . cases h
   . cases h
 | asg x =>
   refine vopB_of (fun _ _ _ _ _ _ e=>by cases e) ?_;simp only[cop,o_asg] at h;obtain⟨h1,h2,h3⟩:=mkR_ok h;rw[h2,h3] at hK;simp only[vop];exact gx_ok h1 hK
 | call f args =>
   refine vopB_of (fun _ _ _ _ _ _ e=>by cases e) ?_;simp only[cop,o_call] at h;split at h
   . rename_i vs hvs;simp only[vop];exact gxs_ok hvs (docall_ok hcall h hK).2
   . cases h
 | callv x args =>
   refine vopB_of (fun _ _ _ _ _ _ e=>by cases e) ?_;simp only[cop,o_callv] at h;split at h
   . rename_i g bd cap hx;split at h
     . rename_i vs hvs;simp only[vop];refine gx_ok hx (gxs_ok hvs ?_);simp only[C.v,vcall];cases bd with
       | true =>
         simp only at h;rw[fL_eq] at h;obtain⟨a1,a2⟩:=docall_ok hcall h hK;refine⟨a1,?_⟩;have e:C.vs (cap.append vs)=C.vs cap++C.vs vs:=by rw[C.vs_map,C.vs_map,C.vs_map];simp
         rw[e] at a2;exact a2
       | false =>
         simp only at h;rw[fL_eq] at h;obtain⟨a1,a2⟩:=docall_ok hcall h hK;refine⟨a1,?_⟩;have e:C.vs (vs.append cap)=C.vs vs++C.vs cap:=by rw[C.vs_map,C.vs_map,C.vs_map];simp
         rw[e] at a2;exact a2
     . cases h
   . cases h
 | build zs ps =>
   refine vopB_of (fun _ _ _ _ _ _ e=>by cases e) ?_;simp only[cop,o_build] at h;split at h
   . rename_i zc hz;have:=ofVs_ok zs hz;subst this;split at h
     . rename_i cs hcs;cases h;simp only[vop];exact cfill_ok hcs (by simpa[C.v] using hK)
     . cases h
   . cases h
 | alloc zs =>
   refine vopB_of (fun _ _ _ _ _ _ e=>by cases e) ?_;simp only[cop,o_alloc] at h;split at h
   . rename_i zc hz;have:=ofVs_ok zs hz;subst this;obtain⟨h,b1⟩:=frC_ok h;cases h;simp only[vop];exact b1 _ (by simpa[C.v,ownV,CB.b] using hK)
   . cases h
 | box x =>
   refine vopB_of (fun _ _ _ _ _ _ e=>by cases e) ?_;simp only[cop,o_box] at h;split at h
   . rename_i v hv;split at h
     . rename_i cs hcs;obtain⟨h,b1⟩:=frC_ok h;cases h;simp only[vop];exact gx_ok hv (cellsC_ok hcs (b1 _ (by simpa[C.v,ownV,CB.b] using hK)))
     . cases h
   . cases h
 | bslice s n xs =>
   refine vopB_of (fun _ _ _ _ _ _ e=>by cases e) ?_;simp only[cop,o_bslice] at h;split at h
   . rename_i vs hvs;simp only[vop];refine gxs_ok hvs ?_;rw[allB_vs kf2C_eq];split at h
     . rename_i hk;simp only[hk];split at h
       . rename_i rs hrs;obtain⟨h,b1⟩:=frC_ok h;cases h;refine crows_ok hrs (b1 _ ?_);simpa[C.v,ownV,CB.b,C.vs,tab_tabz] using hK
       . cases h
     . rename_i hk;simp only[hk];split at h
       . rename_i cs hcs;obtain⟨h,b1⟩:=frC_ok h;cases h;refine cflat_ok hcs (b1 _ ?_);simpa[C.v,ownV,CB.b] using hK
       . cases h
   . cases h
 | app s bytes x y =>
   refine vopB_of (fun _ _ _ _ _ _ e=>by cases e) ?_;simp only[cop,o_app] at h;split at h
   . rename_i a ha;split at h
     . rename_i c hc;simp only[vop];exact gx_ok ha (gx_ok hc (vappX_ofF ownV_nofam (cappF_ok h hK)))
     . cases h
   . cases h
 | xt o =>
   refine vopB_of (fun _ _ _ _ _ _ e=>by cases e) ?_;simp only[cop,o_xt] at h;simp only[vop];exact cxop_ok h hK
 | clr s zs x=>cases h
 | alloca n z =>
   refine vopB_of (fun _ _ _ _ _ _ e=>by cases e) ?_;simp only[cop,o_alloca] at h;split at h
   . rename_i c hc;have:=ofV0_ok hc;subst this;obtain⟨h,b1⟩:=frC_ok h;rw[fL_eq,repl_eq] at h;cases h;simp only[vop];refine b1 _ ?_;rw[alloca_tabz c n];simpa[C.v,ownV,CB.b] using hK
   . cases h
structure CS where
 e:CEnv
 o:COwn
 k:Nat
def CS.st (s:CS):St:=⟨envV s.e,ownV s.o,ksV s.k⟩
noncomputable def guardC (g:Option (Nat×Bool)) (env:CEnv):Option Bool:=match g with
 | none=>some true
 | some (t,want)=>match lk env t with
   | some (.bool b)=>match Bool.xor b want with|false=>some true|true=>some false
   | some .unit=>some false
   | _=>none
noncomputable def putC {β:Type} (d:Option Nat) (v:C) (e:CEnv) (K:CEnv->β):β:=match d with|some t=>K ((t,v)::e)|none=>K e
abbrev KT:=CEnv->COwn->Nat->Option CS
noncomputable def putR (d:Option Nat) (e:CEnv) (ih:KT) (r:Option R):Option CS:=match r with
 | some ⟨v,o',k'⟩=>putC d v e fun e=>ih e o' k'
 | none=>none
noncomputable def opsG (call:CallT) (op:SOp) (d:Option Nat) (ih:KT) (e:CEnv) (o:COwn) (k:Nat) (g:Option Bool):Option CS:=match g with
 | some true=>putR d e ih (cop call true op e o k)
 | some false=>putC d .unit e fun e=>ih e o k
 | none=>none
noncomputable def opsS (call:CallT) (si:SI) (ih:KT):KT:=fun e o k=>opsG call si.op si.dst ih e o k (guardC si.guard e)
noncomputable def cops (call:CallT) (l:List SI):KT:=@List.rec SI (fun _=>KT) (fun e o k=>some ⟨e,o,k⟩) (fun si _ ih=>opsS call si ih) l
theorem cops_ok {P:Program} {call:CallT} (hcall:CallOk P call):∀(l:List SI) (e:CEnv) (o:COwn) (k:Nat) (s:CS) (K:Env->Own->List Nat->Prop),cops call l e o k=some s->K (envV s.e) (ownV s.o) (ksV s.k)->vops P l (envV e) (ownV o) (ksV k) K
 | [],e,o,k,s,K,h,hK=>by
   have h:some (CS.mk e o k)=some s:=h;cases h;simpa[vops] using hK
 | ⟨d,op,g⟩::r,e,o,k,s,K,h,hK=>by
   have h:opsG call op d (cops call r) e o k (guardC g e)=some s:=h;have run:putR d e (cops call r) (cop call true op e o k)=some s->vopO P op (envV e) (ownV o) (ksV k) fun v own ks=>match (generalizing:=false) d with
    | some t=>vops P r ((t,v)::envV e) own ks K
    | none=>vops P r (envV e) own ks K:=by
    intro h;unfold putR at h;split at h
    . rename_i v o' k' hc;have fin:=cop_ok hcall (b:=true) (K:=fun v own ks=>match (generalizing:=false) d with
       | some t=>vops P r ((t,v)::envV e) own ks K
       | none=>vops P r (envV e) own ks K) hc ?_
      . exact fin
      . cases d with
        | some t=>exact cops_ok hcall r _ _ _ s K h hK
        | none=>exact cops_ok hcall r _ _ _ s K h hK
    . cases h
   have skip:(putC d .unit e fun e=>cops call r e o k)=some s->(match (generalizing:=false) d with
         | some t=>vops P r ((t,.raw (.tuple #[]))::envV e) (ownV o) (ksV k) K
         | none=>vops P r (envV e) (ownV o) (ksV k) K):=by
    intro h;cases d with
    | some t =>
      have:=cops_ok hcall r _ _ _ s K h hK;simpa[envV,C.v] using this
    | none=>exact cops_ok hcall r _ _ _ s K h hK
   simp only[vops];cases g with
   | none=>exact run h
   | some p =>
     obtain⟨t,want⟩:=p;simp only[guardC] at h;cases hl:lk e t with
     | none=>rw[hl] at h;cases h
     | some c =>
       rw[hl] at h;simp only[look_envV hl];cases c with
       | bool b =>
         simp only[C.v] at h ⊢;cases hx:Bool.xor b want with
         | false=>rw[hx] at h;exact run h
         | true=>rw[hx] at h;exact skip h
       | unit=>simp only[C.v] at h ⊢;exact skip h
       | _=>cases h
def keyOfC:C->Option Nat
 | .loc k _=>some k
 | .vec k _ _ _=>some k
 | .oel k _ _ _=>some k
 | _=>none
theorem keyOfC_eq (c:C):keyOfV c.v=keyOfC c:=by cases c<;>simp[C.v,keyOfV,keyOfC]
noncomputable def splitC {β:Type} (env:CEnv):List Nat->COwn->COwn->(COwn->COwn->Option β)->Option β
 | [],own,acc,K=>K own acc
 | t::r,own,acc,K=>match lk env t with
   | some v=>match keyOfC v with
     | some k=>match lk own k with
       | some b=>deC k own fun own'=>splitC env r own' ((k,b)::acc) K
       | none=>none
     | none=>splitC env r own acc K
   | none=>none
theorem splitC_ok {β:Type} {env:CEnv}:∀{l:List Nat} {own acc:COwn} {K:COwn->COwn->Option β} {out:β},splitC env l own acc K=some out ->
 ∃a b,K a b=some out/\∀Kp:Own->Own->Prop,Kp (ownV a) (ownV b)->splitK (envV env) l (ownV own) (ownV acc) Kp
 | [],own,acc,K,out,h=>⟨own,acc,h,fun Kp hK=>by simpa[splitK] using hK⟩
 | t::r,own,acc,K,out,h=>by
   simp only[splitC] at h;split at h
   . rename_i v hv;split at h
     . rename_i k hk;split at h
       . rename_i b hb;obtain⟨o',h,c1⟩:=deC_ok h;obtain⟨a',b',h,c2⟩:=splitC_ok h;refine⟨a',b',h,fun Kp hK=>?_⟩;simp only[splitK,look_envV hv,keyOfC_eq,hk,look_ownV hb];exact c1 _ (c2 Kp hK)
       . cases h
     . rename_i hk;obtain⟨a',b',h,c2⟩:=splitC_ok h;refine⟨a',b',h,fun Kp hK=>?_⟩;simp only[splitK,look_envV hv,keyOfC_eq,hk];exact c2 Kp hK
   . cases h
mutual
def beqC:C->C->Bool
 | .bool a,.bool b=>a == b
 | .int k a,.int k' b=>match kEq k k' with|true=>ieq a b|false=>false
 | .str l c,.str l' c'=>match Nat.beq l l' with|true=>Nat.beq c c'|false=>false
 | .nilptr,.nilptr=>true
 | .nilslice,.nilslice=>true
 | .nilmap,.nilmap=>true
 | .nilfunc,.nilfunc=>true
 | .niliface,.niliface=>true
 | .loc k o,.loc k' o'=>match Nat.beq k k' with|true=>Nat.beq o o'|false=>false
 | .vec k s lo len,.vec k' s' lo' len'=>match Nat.beq k k',Nat.beq s s',Nat.beq lo lo' with|true,true,true=>Nat.beq len len'|_,_,_=>false
 | .map k,.map k'=>Nat.beq k k'
 | .agg l,.agg l'=>beqCs l l'
 | .fz n s f z rows,.fz n' s' f' z' rows'=>match Nat.beq n n',Nat.beq s s',f == f' with|true,true,true=>(match beqCs z z' with|true=>beqCss rows rows'|false=>false)|_,_,_=>false
 | _,_=>false
def beqCs:List C->List C->Bool
 | [],[]=>true
 | a::r,b::q=>match beqC a b with|true=>beqCs r q|false=>false
 | _,_=>false
def beqCss:List (List C)->List (List C)->Bool
 | [],[]=>true
 | a::r,b::q=>match beqCs a b with|true=>beqCss r q|false=>false
 | _,_=>false
end
mutual
theorem beqC_ok:∀(a b:C),beqC a b=true->a=b
 | a,b,h=>by
   unfold beqC at h;split at h
   . rw[beq_iff_eq] at h;rw[h]
   . split at h
     . rename_i hk;rw[kEq_ok hk];rw[ieq_eq,beq_iff_eq] at h;rw[h]
     . cases h
   . split at h
     . rename_i hk;rw[Nat.eq_of_beq_eq_true hk,Nat.eq_of_beq_eq_true h]
     . cases h
   . rfl
   . rfl
   . rfl
   . rfl
   . rfl
   . split at h
     . rename_i hk;rw[Nat.eq_of_beq_eq_true hk,Nat.eq_of_beq_eq_true h]
     . cases h
   . split at h
     . rename_i h1 h2 h3;rw[Nat.eq_of_beq_eq_true h1,Nat.eq_of_beq_eq_true h2,Nat.eq_of_beq_eq_true h3,Nat.eq_of_beq_eq_true h]
     . cases h
   . rw[Nat.eq_of_beq_eq_true h]
   . rename_i l l';rw[beqCs_ok l l' h]
   . rename_i n s f z rows n' s' f' z' rows';split at h
     . rename_i h1 h2 h3;split at h
       . rename_i h4;rw[beq_iff_eq] at h3;rw[Nat.eq_of_beq_eq_true h1,Nat.eq_of_beq_eq_true h2,h3,beqCs_ok z z' h4,beqCss_ok rows rows' h]
       . cases h
     . cases h
   . cases h
theorem beqCs_ok:∀(a b:List C),beqCs a b=true->a=b
 | [],[],_=>rfl
 | a::r,b::q,h=>by
   unfold beqCs at h;split at h
   . rename_i h1;rw[beqC_ok a b h1,beqCs_ok r q h]
   . cases h
 | [],_::_,h=>by simp[beqCs] at h
 | _::_,[],h=>by simp[beqCs] at h
theorem beqCss_ok:∀(a b:List (List C)),beqCss a b=true->a=b
 | [],[],_=>rfl
 | a::r,b::q,h=>by
   unfold beqCss at h;split at h
   . rename_i h1;rw[beqCs_ok a b h1,beqCss_ok r q h]
   . cases h
 | [],_::_,h=>by simp[beqCss] at h
 | _::_,[],h=>by simp[beqCss] at h
end
noncomputable def heldC (env:CEnv) (own:COwn):List (Option Nat×Nat×Nat)->Bool
 | []=>true
 | (sz,n,t)::r=>match lk env t with
   | some .unit=>heldC env own r
   | some v=>match lk env n with
     | some p=>match cloadR own sz p with
       | some v'=>match beqC v' v with|true=>heldC env own r|false=>false
       | none=>false
     | none=>false
   | none=>false
theorem heldC_ok {env:CEnv} {own:COwn} {G:Prop} (hG:G):∀{l:List (Option Nat×Nat×Nat)},heldC env own l=true->heldK (envV env) (ownV own) G l
 | [],_=>hG
 | (sz,n,t)::r,h=>by
   simp only[heldC] at h;cases hl:lk env t with
   | none=>rw[hl] at h;cases h
   | some c =>
     rw[hl] at h;simp only[heldK,look_envV hl];have other:(match lk env n with
      | some p=>match cloadR own sz p with
        | some v'=>match beqC v' c with|true=>heldC env own r|false=>false
        | none=>false
      | none=>false)=true->(match look (envV env) n with
      | some p=>vloadR (ownV own) sz p (fun v'=>v'=c.v)/\heldK (envV env) (ownV own) G r
      | none=>False):=by
      intro h;split at h
      . rename_i p hp;rw[look_envV hp];split at h
        . rename_i v' hv;split at h
          . rename_i hb;exact⟨cloadR_ok hv (by rw[beqC_ok _ _ hb]),heldC_ok hG h⟩
          . cases h
        . cases h
      . cases h
     cases c<;>first
      | (simp only[C.v] at other ⊢;exact other h)
      | (simp only[C.v];exact heldC_ok hG h)
theorem appK_ok {α:Type}:∀(l r:List α) (K:List α->Prop),K (l++r)->appK l r K
 | [],r,K,h=>h
 | x::l,r,K,h=>by simp only[appK];exact appK_ok l r _ h
noncomputable def drawG (call:CallT) (op:SOp) (d:Option Nat) (ih:KT) (e:CEnv) (o:COwn) (k:Nat) (g:Option Bool):Option CS:=match g with
 | some true=>putR d e ih (cop call false op e o k)
 | some false=>putC d .unit e fun e=>ih e o k
 | none=>none
noncomputable def effR (held:List (Option Nat×Nat×Nat)) (d:Option Nat) (e:CEnv) (ob:COwn) (ih:KT) (r:Option R):Option CS:=match r with
 | some ⟨v,oa',k'⟩=>match heldC e oa' held with
   | true=>fL (List.append ob oa') fun o'=>putC d v e fun e=>ih e o' k'
   | false=>none
 | none=>none
noncomputable def effG (call:CallT) (pend:List Nat) (held:List (Option Nat×Nat×Nat)) (op:SOp) (d:Option Nat) (ih:KT) (e:CEnv) (o:COwn) (k:Nat) (g:Option Bool):Option CS:=match g with
 | some true=>splitC e pend o [] fun oa ob=>effR held d e ob ih (cop call false op e oa k)
 | some false=>putC d .unit e fun e=>ih e o k
 | none=>none
noncomputable def drawS (call:CallT) (di:DI) (ih:KT):KT:=match di with
 | .op _ si=>fun e o k=>drawG call si.op si.dst ih e o k (guardC si.guard e)
 | .eff _ pend held si=>fun e o k=>effG call pend held si.op si.dst ih e o k (guardC si.guard e)
noncomputable def cdraw (call:CallT) (l:List DI):KT:=@List.rec DI (fun _=>KT) (fun e o k=>some ⟨e,o,k⟩) (fun di _ ih=>drawS call di ih) l
theorem guardC_ok {g:Option (Nat×Bool)} {e:CEnv} {A B:Prop}:(∀b,guardC g e=some b->(match b with|true=>A|false=>B))->guardC g e≠none->guardK (envV e) g A B:=by
 intro h hne;cases g with
 | none=>exact h true rfl
 | some p =>
   obtain⟨t,want⟩:=p;simp only[guardC] at h hne;simp only[guardK];cases hl:lk e t with
   | none=>rw[hl] at hne;exact(hne rfl).elim
   | some c =>
     rw[hl] at h hne;rw[look_envV hl];cases c with
     | bool b =>
       simp only[C.v] at h hne ⊢;cases hx:Bool.xor b want with
       | false=>rw[hx] at h;exact h true rfl
       | true=>rw[hx] at h;exact h false rfl
     | unit=>simp only[C.v] at h ⊢;exact h false rfl
     | _=>exact(hne rfl).elim
theorem cdraw_ok {P:Program} {call:CallT} (hcall:CallOk P call):∀(l:List DI) (e:CEnv) (o:COwn) (k:Nat) (s:CS) (K:Env->Own->List Nat->Prop),cdraw call l e o k=some s->K (envV s.e) (ownV s.o) (ksV s.k)->vdraw P l (envV e) (ownV o) (ksV k) K
 | [],e,o,k,s,K,h,hK=>by
   have h:some (CS.mk e o k)=some s:=h;cases h;simpa[vdraw] using hK
 | .op ix ⟨d,op,g⟩::r,e,o,k,s,K,h,hK=>by
   have h:drawG call op d (cdraw call r) e o k (guardC g e)=some s:=h;simp only[vdraw];refine guardC_ok (fun b hb=>?_) (fun hb=>by rw[hb] at h;cases h);rw[hb] at h;cases b with
   | true =>
     simp only[drawG] at h ⊢;unfold putR at h;split at h
     . rename_i v o' k' hc;have fin:=cop_ok hcall (b:=false) (K:=fun v own ks=>match (generalizing:=false) d with
        | some t=>vdraw P r ((t,v)::envV e) own ks K
        | none=>vdraw P r (envV e) own ks K) hc ?_
       . exact fin
       . cases d with
         | some t=>exact cdraw_ok hcall r _ _ _ s K h hK
         | none=>exact cdraw_ok hcall r _ _ _ s K h hK
     . cases h
   | false =>
     simp only[drawG] at h ⊢;cases d with
     | some t =>
       have:=cdraw_ok hcall r _ _ _ s K h hK;simpa[envV,C.v] using this
     | none=>exact cdraw_ok hcall r _ _ _ s K h hK
 | .eff ix pend held ⟨d,op,g⟩::r,e,o,k,s,K,h,hK=>by
   have h:effG call pend held op d (cdraw call r) e o k (guardC g e)=some s:=h;simp only[vdraw];refine guardC_ok (fun b hb=>?_) (fun hb=>by rw[hb] at h;cases h);rw[hb] at h;cases b with
   | true =>
     simp only[effG] at h ⊢;obtain⟨oa,ob,h,c1⟩:=splitC_ok h;refine c1 _ ?_;unfold effR at h;split at h
     . rename_i v oa' k' hc;have fin:=cop_ok hcall (b:=false) (K:=fun v ownA' ks=>heldK (envV e) ownA' (appK (ownV ob) ownA' fun own=>match (generalizing:=false) d with
        | some t=>vdraw P r ((t,v)::envV e) own ks K
        | none=>vdraw P r (envV e) own ks K) held) hc ?_
       . exact fin
       split at h
       . rename_i hh;rw[fL_eq] at h;refine heldC_ok ?_ hh;refine appK_ok _ _ _ ?_;have e2:ownV ob++ownV oa'=ownV (ob.append oa'):=by simp[ownV]
         rw[e2];cases d with
         | some t=>exact cdraw_ok hcall r _ _ _ s K h hK
         | none=>exact cdraw_ok hcall r _ _ _ s K h hK
       . cases h
     . cases h
   | false =>
     simp only[effG] at h ⊢;cases d with
     | some t =>
       have:=cdraw_ok hcall r _ _ _ s K h hK;simpa[envV,C.v] using this
     | none=>exact cdraw_ok hcall r _ _ _ s K h hK
theorem owned_sub {w:World} {σ:Sg} {own own':Own} (h:own'.Sublist own) {n:Nat} (ho:owned w σ own' n):owned w σ own n:=by
 obtain⟨k,b,hm,hh⟩:=ho;exact⟨k,b,h.subset hm,hh⟩
theorem hsim_sub {M:Nat->Prop} {w:World} {σ:Sg} {own own':Own} {ks:List Nat} (h:own'.Sublist own) (hh:HSim M w σ own ks):HSim M w σ own' ks :=
 ⟨⟨fun k b hm=>hh.own.blk k b (h.subset hm),(h.map _).nodup hh.own.nodup,fun k b k' b' n m1 m2=>hh.own.apart k b k' b' n (h.subset m1) (h.subset m2)⟩,hh.fresh,hh.knodup⟩
theorem call_drop {P:Program} {f:FuncId} {args:List V} {own own1 own2:Own} {ks ks':List Nat} {v:V} {K:V->Own->List Nat->Prop} (hs:own2.Sublist own1)
 (h:CallF P f args own ks fun v' o' k'=>v'=v/\o'=own1/\k'=ks') (hK:K v own2 ks'):CallF P f args own ks K :=
 ⟨fun M w σ us h1 h2 h3=>(h.out M w σ us h1 h2 h3).mono fun _ _ ⟨M',σ',v',o,k,u,a,b,c,d,d',e⟩=>by
   obtain⟨rfl,rfl,rfl⟩:=e;exact⟨M',σ',v',own2,k,u,a,b,hsim_sub hs c,⟨d.adv,fun b hb=>d.new b (owned_sub hs hb),d.le⟩,⟨d'.1,d'.2.1,fun k hk=>d'.2.2 k ((hs.map _).subset hk)⟩,hK⟩⟩
structure LoopJ (P:Program) (N:Nat) (bk:BK) (b:SC) (env:Env) (own:Own) (ks:List Nat) (K:Out->Prop):Prop where
 out:∀r σb,RIn bk.r r σb->∀c,cCode P N c=some b->∀B M w σ a,(∀k,k∈bk.ks->σb k=none)->σb.le σ->Sim N B M w σ ⟨env,own,ks⟩ a ->
  ∀(fb:Frame) (k:List Item) (cs:List Frame),fb.roundOf=(FR r).round->(FR r).fn fb.fn->(FR r).room (cs.length+1+0) ->
   ∃e a' w',XP N B σb M w σ own ks K e a' w'/\ArrivesIn (Machine.fenced P (FR r)) P (lone (fb.atR a (.code c::.inLoop c::k)) cs w) fb k cs e a' w'
theorem LoopJ.toI {P:Program} {N:Nat} {bk:BK} {b:SC} {env:Env} {own:Own} {ks:List Nat} {K:Out->Prop} (h:LoopJ P N bk b env own ks K):LoopI P N bk b env own ks K:=by
 constructor;intro r σb hr c hc B M w σ a hbk hle0 sim fb k cs hro hbf hroom;obtain⟨e,a',w',hx,harr⟩:=h.out r σb hr c hc B M w σ a hbk hle0 sim fb k cs hro hbf hroom;exact⟨e,a',w',hx,.of_steps (.one (fenced_calm hbf hroom rfl) stepR_loop) harr⟩
def loopK (P:Program) (N:Nat) (bk:BK) (b:SC) (K:Out->Prop) (o:Out):Prop :=
 match o with
 | .normal st=>LoopJ P N bk b st.env st.own st.ks K
 | .exit id st=>K (.exit id st)
 | .ret st=>K (.ret st)
theorem LoopJ.step {P:Program} (hm:P.follows .mixedOrders=true) {N:Nat} {bk:BK} {b:SC} {env:Env} {own:Own} {ks:List Nat} {K:Out->Prop} (h:vc P N bk b env own ks (loopK P N bk b K)):LoopJ P N bk b env own ks K:=by
 constructor;intro r σb hr c hc B M w σ a hbk hle sim fb k cs hro hbf hroom;have hb:=vc_sound hm hbk r hr c _ _ env own ks M w σ a hc h sim hle;obtain⟨e,a₂,w₂,hq,harr⟩:=hb fb (.inLoop c::k) cs hro hbf hroom;obtain⟨M₂,σ₂,⟨env₂,own₂,ks₂⟩,s2,t2,q2,l2,k2⟩:=hq;cases e with
 | normal =>
   have k2:LoopJ P N bk b env₂ own₂ ks₂ K:=k2;obtain⟨e',a',w',hx,harr'⟩:=k2.out r σb hr c hc B M₂ w₂ σ₂ a₂ hbk l2 s2 fb k cs hro hbf hroom;exact⟨e',a',w',XP.tr t2 q2 hx,.of_steps (StepsIn.trans harr (.one (fenced_calm hbf hroom rfl) stepR_inLoop)) harr'⟩
 | exit id=>exact⟨_,a₂,w₂,⟨M₂,σ₂,_,s2,t2,q2,l2,k2⟩,.pass (x:=.inLoop c) rfl (fun _ _=>.inl (by simp)) harr⟩
 | ret=>exact⟨_,a₂,w₂,⟨M₂,σ₂,_,s2,t2,q2,l2,k2⟩,.pass (x:=.inLoop c) rfl (fun _ _=>.inl (by simp)) harr⟩
 | goto l=>exact k2.elim
 | panic ch=>exact k2.elim
 | outgrown=>exact k2.elim
theorem LoopJ.weak {P:Program} {N:Nat} {bk:BK} {b:SC} {env env':Env} {own:Own} {ks:List Nat} {K:Out->Prop} (he:∀t v,look env' t=some v->look env t=some v) (h:LoopJ P N bk b env' own ks K):LoopJ P N bk b env own ks K:=by
 constructor;intro r σb hr c hc B M w σ a hbk hle sim fb k cs hro hbf hroom;exact h.out r σb hr c hc B M w σ a hbk hle ⟨fun t v hv=>sim.env t v (he t v hv),sim.heap,sim.size,sim.defers⟩ fb k cs hro hbf hroom
noncomputable def mN (n:Nat) (l:List Nat):Bool:=@List.rec Nat (fun _=>Bool) false (fun x _ ih=>@Bool.rec (fun _=>Bool) ih true (Nat.beq x n)) l
theorem mN_eq (n:Nat):∀(l:List Nat),mN n l=memN n l
 | []=>rfl
 | x::r=>by
   show @Bool.rec (fun _=>Bool) (mN n r) true (Nat.beq x n)=_;rw[mN_eq n r]
   conv=>rhs;unfold memN
   cases Nat.beq x n<;>rfl
noncomputable def prn (l:CEnv):List Nat->CEnv:=@List.rec (Nat×C) (fun _=>List Nat->CEnv) (fun _=>[]) (fun p _ ih seen=>@Bool.rec (fun _=>CEnv) (p::ih (p.1::seen)) (ih seen) (mN p.1 seen)) l
theorem prn_cons (p:Nat×C) (l:CEnv) (seen:List Nat):prn (p::l) seen=match memN p.1 seen with|true=>prn l seen|false=>p::prn l (p.1::seen):=by
 show @Bool.rec (fun _=>CEnv) (p::prn l (p.1::seen)) (prn l seen) (mN p.1 seen)=_;rw[mN_eq];cases memN p.1 seen<;>rfl
theorem prn_look:∀(l:CEnv) (seen:List Nat) (t:Nat),(t∈seen->look (prn l seen) t=none)/\∀v,look (prn l seen) t=some v->look l t=some v
 | [],seen,t=>⟨fun _=>rfl,fun v h=>h⟩
 | (q,c)::l,seen,t=>by
   rw[prn_cons];cases hm:memN q seen with
   | true =>
     obtain⟨a,b⟩:=prn_look l seen t;simp only;refine⟨a,fun v h=>?_⟩;have hne:q≠t:=fun e=>by
      subst e;rw[a (memN_iff.1 hm)] at h;cases h
     rw[look_there hne];exact b v h
   | false =>
     simp only;by_cases e:q=t
     . subst e;rw[look_here rfl,look_here rfl];refine⟨fun h=>?_,fun v h=>h⟩;rw[memN_iff.2 h] at hm;cases hm
     . rw[look_there e,look_there e];obtain⟨a,b⟩:=prn_look l (q::seen) t;exact⟨fun h=>a (List.mem_cons_of_mem _ h),b⟩
inductive CO where
 | normal (s:CS)
 | exit (id:Nat) (s:CS)
 | ret (s:CS)
def CO.out:CO->Out
 | .normal s=>.normal s.st
 | .exit id s=>.exit id s.st
 | .ret s=>.ret s.st
abbrev ET:=CEnv->COwn->Nat->Option CO
noncomputable def eSeq (a b:ET):ET:=fun e o k=>match a e o k with
 | some (.normal ⟨e,o,k⟩)=>b e o k
 | some (.exit id s)=>some (.exit id s)
 | some (.ret s)=>some (.ret s)
 | none=>none
noncomputable def eCond (c:X) (a b:ET):ET:=fun e o k=>match gx c e with
 | some (.bool true)=>a e o k
 | some (.bool false)=>b e o k
 | _=>none
noncomputable def eBlock (id:Nat) (b:ET):ET:=fun e o k=>match b e o k with
 | some (.exit id' s)=>match Nat.beq id' id with|true=>some (.normal s)|false=>some (.exit id' s)
 | some (.normal s)=>some (.normal s)
 | some (.ret s)=>some (.ret s)
 | none=>none
noncomputable def eLoop (fuel:Nat) (b:ET):ET:=@Nat.rec (fun _=>ET) (fun _ _ _=>none) (fun _ ih e o k=>fL (prn e []) fun e=>match b e o k with
 | some (.normal ⟨e,o,k⟩)=>ih e o k
 | some (.exit id s)=>some (.exit id s)
 | some (.ret s)=>some (.ret s)
 | none=>none) fuel
noncomputable def eOps (call:CallT) (l:List SI):ET:=fun e o k=>match cops call l e o k with|some s=>some (.normal s)|none=>none
noncomputable def eDraw (call:CallT) (l:List DI):ET:=fun e o k=>match cdraw call l e o k with|some s=>some (.normal s)|none=>none
noncomputable def evC (call:CallT) (fuel:Nat) (sc:SC):ET :=
 @SC.rec (fun _=>ET) (fun e o k=>some (.normal ⟨e,o,k⟩)) (eOps call) (eDraw call) (fun _ _ a b=>eSeq a b) (fun c _ _ a b=>eCond c a b) (fun id _ b=>eBlock id b) (fun _ b=>eLoop fuel b)
  (fun id e o k=>some (.exit id ⟨e,o,k⟩)) (fun e o k=>some (.ret ⟨e,o,k⟩)) (fun _ _ _ _ _ _ _ _ _=>none) sc
theorem evC_ok {P:Program} (hm:P.follows .mixedOrders=true) {N:Nat} {bk:BK} {call:CallT} (hcall:CallOk P call) {fuel:Nat}:∀(sc:SC) (e:CEnv) (o:COwn) (k:Nat) (out:CO) (K:Out->Prop),
 evC call fuel sc e o k=some out->K out.out->vc P N bk sc (envV e) (ownV o) (ksV k) K:=by
 intro sc
 induction sc with
 | skip=>intro e o k out K h hK;have h:some (CO.normal ⟨e,o,k⟩)=some out:=h;cases h;simp only[vc];exact hK
 | ops l =>
   intro e o k out K h hK;have h:eOps call l e o k=some out:=h;unfold eOps at h;split at h
   . rename_i s hs;cases h;simp only[vc];exact cops_ok hcall l e o k s _ hs hK
   . cases h
 | draw l =>
   intro e o k out K h hK;have h:eDraw call l e o k=some out:=h;unfold eDraw at h;split at h
   . rename_i s hs;cases h;simp only[vc];exact cdraw_ok hcall l e o k s _ hs hK
   . cases h
 | seq a b iha ihb =>
   intro e o k out K h hK;have h:eSeq (evC call fuel a) (evC call fuel b) e o k=some out:=h;unfold eSeq at h;simp only[vc];split at h
   . rename_i e' o' k' ha;exact iha e o k _ _ ha (ihb e' o' k' out K h hK)
   . rename_i ha;cases h;exact iha e o k _ _ ha hK
   . rename_i ha;cases h;exact iha e o k _ _ ha hK
   . cases h
 | cond c a b iha ihb =>
   intro e o k out K h hK;have h:eCond c (evC call fuel a) (evC call fuel b) e o k=some out:=h;unfold eCond at h;simp only[vc];split at h
   . rename_i hc;refine gx_ok hc ?_;simp only[C.v];exact iha e o k out K h hK
   . rename_i hc;refine gx_ok hc ?_;simp only[C.v];exact ihb e o k out K h hK
   . cases h
 | block id b ih =>
   intro e o k out K h hK;have h:eBlock id (evC call fuel b) e o k=some out:=h;unfold eBlock at h;simp only[vc];split at h
   . rename_i id' s hb;refine ih e o k _ _ hb ?_;simp only[CO.out];cases hx:Nat.beq id' id with
     | true=>rw[hx] at h;cases h;exact hK
     | false=>rw[hx] at h;cases h;exact hK
   . rename_i hb;cases h;exact ih e o k _ _ hb hK
   . rename_i hb;cases h;exact ih e o k _ _ hb hK
   . cases h
 | loop b ih =>
   intro e o k out K h hK;have h:eLoop fuel (evC call fuel b) e o k=some out:=h;simp only[vc];refine LoopJ.toI ?_;have key:∀(n:Nat) (e:CEnv) (o:COwn) (k:Nat),eLoop n (evC call fuel b) e o k=some out->LoopJ P N bk b (envV e) (ownV o) (ksV k) K:=by
    intro n
    induction n with
    | zero=>intro e o k h;cases h
    | succ n ihn =>
      intro e o k h;have h:(fL (prn e []) fun e=>match evC call fuel b e o k with
       | some (.normal ⟨e,o,k⟩)=>eLoop n (evC call fuel b) e o k
       | some (.exit id s)=>some (.exit id s)
       | some (.ret s)=>some (.ret s)
       | none=>none)=some out:=h
      rw[fL_eq] at h;refine LoopJ.weak (env':=envV (prn e [])) (fun t v hv=>?_) (LoopJ.step hm ?_)
      . rw[envV,look_map] at hv ⊢;cases hl:look (prn e []) t with
        | none=>rw[hl] at hv;cases hv
        | some c=>rw[hl] at hv;rw[(prn_look e [] t).2 c hl];exact hv
      . split at h
        . rename_i e' o' k' hb;exact ih _ _ _ _ _ hb (ihn e' o' k' h)
        . rename_i hb;cases h;exact ih _ _ _ _ _ hb hK
        . rename_i hb;cases h;exact ih _ _ _ _ _ hb hK
        . cases h
   exact key fuel e o k h
 | exit id=>intro e o k out K h hK;have h:some (CO.exit id ⟨e,o,k⟩)=some out:=h;cases h;simp only[vc];exact hK
 | ret=>intro e o k out K h hK;have h:some (CO.ret ⟨e,o,k⟩)=some out:=h;cases h;simp only[vc];exact hK
 | rf g ps a b _ _=>intro e o k out K h hK;cases h
noncomputable def cres (e:CEnv) (o:COwn):List RV->Option (List C)
 | []=>some []
 | .tmp t::r=>match lk e t with
   | some v=>match cres e o r with|some l=>some (v::l)|none=>none
   | none=>none
 | .cell a z::r=>match lk e a with
   | some p=>match cloadR o z p with
     | some v=>match cres e o r with|some l=>some (v::l)|none=>none
     | none=>none
   | none=>none
theorem cres_ok {e:CEnv} {o:COwn}:∀{rs:List RV} {l:List C} {K:List V->Prop},cres e o rs=some l->K (C.vs l)->resK (envV e) (ownV o) rs K
 | [],l,K,h,hK=>by simp only[cres,Option.some.injEq] at h;subst h;simpa[resK,C.vs] using hK
 | .tmp t::r,l,K,h,hK=>by
   simp only[cres] at h;split at h
   . rename_i v hv;split at h
     . rename_i l' hl;cases h;simp only[resK,look_envV hv];exact cres_ok hl (by simpa[C.vs] using hK)
     . cases h
   . cases h
 | .cell a z::r,l,K,h,hK=>by
   simp only[cres] at h;split at h
   . rename_i p hp;split at h
     . rename_i v hv;split at h
       . rename_i l' hl;cases h;simp only[resK,look_envV hp];exact cloadR_ok hv (cres_ok hl (by simpa[C.vs] using hK))
       . cases h
     . cases h
   . cases h
def ctup:List C->C
 | [v]=>v
 | vs=>.tup vs
theorem ctup_ok {l:List C} {K:V->Prop} (hK:K (ctup l).v):tupK (C.vs l) K:=by
 match l with
 | [v]=>simpa[tupK,C.vs,ctup] using hK
 | []=>simpa[tupK,C.vs,ctup,C.v] using hK
 | a::b::r=>simpa[tupK,C.vs,ctup,C.v] using hK
noncomputable def cret (rs:List RV) (s:CS):Option R:=match cres s.e s.o rs with
 | some l=>some ⟨ctup l,s.o,s.k⟩
 | none=>none
noncomputable def coret (rs:List RV) (o:CO):Option R:=match o with
 | .normal s=>cret rs s
 | .ret s=>cret rs s
 | .exit _ _=>none
def envC:Nat->List C->CEnv
 | _,[]=>[]
 | i,v::r=>(i,v)::envC (i+1) r
theorem envC_eq:∀(i:Nat) (l:List C),envV (envC i l)=envOf i (C.vs l)
 | i,[]=>rfl
 | i,v::r=>by simp only[envC,C.vs,envOf,<- envC_eq (i+1) r];rfl
def key0 (c:C) (r:List Nat):List Nat:=match c with
 | .loc k _=>k::r
 | .oel k _ _ _=>k::r
 | .vec k _ _ _=>k::r
 | .map k=>k::r
 | _=>r
noncomputable def keys0 (l:List C):List Nat->List Nat:=@List.rec C (fun _=>List Nat->List Nat) (fun r=>r) (fun c _ ih r=>key0 c (ih r)) l
noncomputable def keysC (c:C) (r:List Nat):List Nat:=match c with
 | .agg cs=>keys0 cs r
 | .tup cs=>@List.rec C (fun _=>List Nat) r (fun c _ ih=>match c with | .agg cs=>keys0 cs ih | .fn _ _ cs=>keys0 cs ih|c=>key0 c ih) cs
 | .fn _ _ cs=>keys0 cs r
 | .iface _ v=>key0 v r
 | c=>key0 c r
noncomputable def keysB (b:CB) (r:List Nat):List Nat:=match b with
 | .cells cs=>@List.rec C (fun _=>List Nat) r (fun c _ ih=>keysC c ih) cs
 | _=>r
noncomputable def reach (n:Nat) (own:COwn) (fuel:Nat):List Nat->List Nat->List Nat :=
 @Nat.rec (fun _=>List Nat->List Nat->List Nat) (fun _ seen=>seen) (fun _ ih work seen=>match work with
  | []=>seen
  | k::r=>match Nat.blt k n with
    | true=>ih r seen
    | false=>match mN k seen with
      | true=>ih r seen
      | false=>match lk own k with
        | some b=>ih (keysB b r) (k::seen)
        | none=>ih r seen) fuel
noncomputable def roots (n:Nat) (own:COwn) (r:List Nat):List Nat:=@List.rec (Nat×CB) (fun _=>List Nat) r (fun p _ ih=>match Nat.blt p.1 n with|true=>keysB p.2 ih|false=>ih) own
noncomputable def gcO (n:Nat) (seen:List Nat) (l:COwn):(COwn->R)->R :=
 @List.rec (Nat×CB) (fun _=>(COwn->R)->R) (fun K=>K []) (fun p _ ih K=>match Nat.blt p.1 n with
  | true=>ih (fun r=>K (p::r))
  | false=>match mN p.1 seen with
    | true=>ih (fun r=>K (p::r))
    | false=>ih K) l
theorem gcO_sub (n:Nat) (seen:List Nat):∀(l:COwn) (K:COwn->R) (P:R->Prop),(∀q,q.Sublist l->P (K q))->P (gcO n seen l K)
 | [],K,P,h=>h [] (List.Sublist.refl _)
 | p::l,K,P,h=>by
   have e:gcO n seen (p::l) K=match Nat.blt p.1 n with
    | true=>gcO n seen l (fun r=>K (p::r))
    | false=>match mN p.1 seen with
      | true=>gcO n seen l (fun r=>K (p::r))
      | false=>gcO n seen l K:=rfl
   rw[e];split
   . exact gcO_sub n seen l _ P (fun q hq=>h _ (hq.cons_cons p))
   . split
     . exact gcO_sub n seen l _ P (fun q hq=>h _ (hq.cons_cons p))
     . exact gcO_sub n seen l K P (fun q hq=>h q (hq.cons p))
def newB (n:Nat) (k:Nat):Bool:=Nat.blt n k
noncomputable def gcR (n:Nat) (r:R):R:=match newB n r.k with
 | true=>fL (reach n r.o 1000 (keysC r.v (roots n r.o [])) []) fun seen=>gcO n seen r.o fun o=>⟨r.v,o,r.k⟩
 | false=>r
theorem gcR_ok (n:Nat) (r:R):(gcR n r).v=r.v/\(gcR n r).k=r.k/\(gcR n r).o.Sublist r.o:=by
 unfold gcR;split
 . rw[fL_eq];exact gcO_sub n _ r.o _ (fun q=>q.v=r.v/\q.k=r.k/\q.o.Sublist r.o) (fun q hq=>⟨rfl,rfl,hq⟩)
 . exact⟨rfl,rfl,List.Sublist.refl _⟩
theorem ownV_sub {a b:COwn} (h:a.Sublist b):(ownV a).Sublist (ownV b):=h.map _
noncomputable def cbors (own:COwn):List C->Option (List C)
 | []=>some []
 | v::r=>match cbor own v with
   | some c=>match cbors own r with
     | some l=>some (c::l)
     | none=>none
   | none=>none
theorem cbors_ok {own:COwn}:∀{l cs:List C} {K:List V->Prop},cbors own l=some cs->K (C.vs cs)->bors (ownV own) (C.vs l) K
 | [],cs,K,h,hK=>by simp only[cbors,Option.some.injEq] at h;subst h;simpa[C.vs,bors] using hK
 | v::r,cs,K,h,hK=>by
   unfold cbors at h;split at h
   . rename_i c hc;split at h
     . rename_i l hl;cases h;simp only[C.vs,bors];exact cbor_ok hc (cbors_ok hl (by simpa[C.vs] using hK))
     . cases h
   . cases h
noncomputable def kfC:C->Bool
 | .agg cs=>allC kf2C cs
 | .tup cs=>allC kf2C cs
 | .iface _ v=>kf2C v
 | .fn _ _ cap=>allC kf2C cap
 | v=>kf2C v
theorem kfC_eq (c:C):c.v.kf=kfC c:=by
 cases c<;>simp[C.v,V.kf,kfC,allB_vs kf2C_eq,kf2C_eq]<;>simp[kf2C,V.kf1,kf1C]
def flat1C:C->Bool
 | .bool _ | .int _ _ | .str _ _ | .nilptr | .nilslice | .nilmap | .nilfunc | .niliface | .unit=>true
 | _=>false
theorem flat1C_eq (c:C):c.v.flat1=flat1C c:=by cases c<;>simp[C.v,V.flat1,flat1C]
noncomputable def flatC:C->Bool
 | .agg cs=>allC flat1C cs
 | .tup cs=>allC flat1C cs
 | v=>flat1C v
theorem flatC_eq (c:C):c.v.flat=flatC c:=by
 cases c<;>simp[C.v,V.flat,flatC,allB_vs flat1C_eq]<;>simp[V.flat1,flat1C]
theorem LLe.self:∀(l:List V),LLe l l
 | []=>trivial
 | _::r=>⟨.rfl,LLe.self r⟩
inductive FDef where
 | code (sc:SC) (n:Nat) (rs:List RV)
 | ext (g:List C->Option C)
 | catch_
def FdOk (P:Program) (f:FuncId):FDef->Prop
 | .code sc n rs=>callable P f=true/\∃fn c,P.funcs[f]?=some fn/\fn.body=some c/\fn.ntmps=n/\cCode P n c=some sc/\cRes P fn.results.toList=some rs
 | .ext g=>callable P f=true/\∀args v,g args=some v->Ret P f (C.vs args) v.v
 | .catch_=>callable P f=true/\∀(g:FuncId) (bd:Bool) (cap:List V) (own:Own) (ks:List Nat) (K:V->Own->List Nat->Prop),callable P g=true->CallF P g cap own ks (fun _ o k=>K (.tup [.int .i64 0,.int .i64 0]) o k)->CallF P f [.fn (.func g) bd cap] own ks K
def TbOk (P:Program):List (Nat×FDef)->Prop
 | []=>True
 | (f,d)::r=>FdOk P f d/\TbOk P r
theorem TbOk.look {P:Program}:∀{t:List (Nat×FDef)} {f:Nat} {d:FDef},TbOk P t->lk t f=some d->FdOk P f d
 | [],f,d,_,h=>by cases h
 | (q,x)::r,f,d,ht,h=>by
   rw[lk_eq] at h;unfold Go.Eng.look at h;split at h
   . rename_i hb;have:=Nat.eq_of_beq_eq_true hb;subst this;cases h;exact ht.1
   . rw[<- lk_eq] at h;exact TbOk.look ht.2 h
noncomputable def evG (tb:List (Nat×FDef)) (lf:Nat) (ih:CallT) (f:FuncId) (args:List C) (own:COwn) (ks:Nat):Option R :=
 match lk tb f with
  | some (.code sc n rs)=>match Nat.ble (ln args) n with
    | true=>match evC ih lf sc (envC 0 args) own ks with
      | some out=>match coret rs out with
        | some r=>some (gcR ks r)
        | none=>none
      | none=>none
    | false=>none
  | some (.ext g)=>match allC kfC args with
    | true=>match g args with
      | some v=>some ⟨v,own,ks⟩
      | none=>none
    | false=>match cbors own args with
      | some args'=>match g args' with
        | some v=>match flatC v with
          | true=>some ⟨v,own,ks⟩
          | false=>none
        | none=>none
      | none=>none
  | some .catch_=>match args with
    | [.fn (.func g) _ cap]=>match ih g cap own ks with
      | some ⟨_,o,k⟩=>some ⟨.tup [.int .i64 0,.int .i64 0],o,k⟩
      | none=>none
    | _=>none
  | none=>none
noncomputable def evF (tb:List (Nat×FDef)) (lf:Nat) (fuel:Nat):CallT:=@Nat.rec (fun _=>CallT) (fun _ _ _ _=>none) (fun _ ih=>evG tb lf ih) fuel
theorem evF_ok {P:Program} (hm:P.follows .mixedOrders=true) {tb:List (Nat×FDef)} (ht:TbOk P tb) {lf:Nat}:∀(fuel:Nat),CallOk P (evF tb lf fuel)
 | 0=>⟨fun f args own ks r h=>by cases h⟩
 | fuel+1=>⟨fun f args own ks r h=>by
   have ih:=evF_ok hm ht (lf:=lf) fuel;have h:evG tb lf (evF tb lf fuel) f args own ks=some r:=h;unfold evG at h;split at h
   . rename_i sc n rs hl;obtain⟨hcb,fn,c,hf,hb,hn,hc,hr⟩:=ht.look hl;subst hn;split at h
     . rename_i hle;split at h
       . rename_i out hout;split at h
         . rename_i r' hret;cases h;refine⟨hcb,fun K hK=>?_⟩;obtain⟨g1,g2,g3⟩:=gcR_ok ks r';rw[g1,g2] at hK;refine call_drop (ownV_sub g3) ?_ hK;refine call_rule hm hf hb hc hr ?_ ?_
           . rw[C.vs_length];rw[ln_eq] at hle;exact Nat.le_of_ble_eq_true hle
           . rw[<- envC_eq];have fin:∀s,cret rs s=some r'->resK (envV s.e) (ownV s.o) rs fun vs=>tupK vs fun v=>v=r'.v.v/\ownV s.o=ownV r'.o/\ksV s.k=ksV r'.k:=by
              intro s hs;unfold cret at hs;split at hs
              . rename_i l hl';cases hs;exact cres_ok hl' (ctup_ok ⟨rfl,rfl,rfl⟩)
              . cases hs
             refine evC_ok hm ih sc _ own ks out _ hout ?_;cases out with
             | normal s=>exact fin s hret
             | ret s=>exact fin s hret
             | exit id s=>cases hret
         . cases h
       . cases h
     . cases h
   . rename_i g hl;obtain⟨hcb,hg⟩:=ht.look hl;split at h
     . split at h
       . rename_i v hv;cases h;refine⟨hcb,fun K hK=>(hg args v hv (ownV own) (ksV ks)).mono ?_⟩;rintro v' o' k' ⟨rfl,rfl,rfl⟩;exact hK
       . cases h
     . split at h
       . rename_i args' ha;split at h
         . rename_i v hv;split at h
           . rename_i hf;cases h;exact⟨hcb,fun K hK=>call_lend (hg args' v hv) (by rw[flatC_eq];exact hf) (cbors_ok ha (LLe.self _)) hK⟩
           . cases h
         . cases h
       . cases h
   . rename_i hl;obtain⟨hcb,hg⟩:=ht.look hl;split at h
     . rename_i g bd cap _;split at h
       . rename_i v o k hi;cases h;obtain⟨a1,a2⟩:=ih.out _ _ _ _ _ hi;refine⟨hcb,fun K hK=>?_⟩;have:=hg g bd (C.vs cap) (ownV own) (ksV ks) K a1 (a2 (fun _ o k=>K (.tup [.int .i64 0,.int .i64 0]) o k) (by simpa[C.v,C.vs] using hK));simpa[C.vs,C.v] using this
       . cases h
     . cases h
   . cases h⟩
noncomputable def cfin (r:R):Option C:=match r.v with
 | .tup cs=>match cbors r.o cs with
   | some l=>some (.tup l)
   | none=>none
 | v=>cbor r.o v
theorem cfin_ok {r:R} {c:C} {K:V->Prop} (h:cfin r=some c) (hK:K c.v):frzT (ownV r.o) r.v.v K:=by
 obtain⟨v,o,k⟩:=r;unfold cfin at h;simp only at h ⊢;split at h
 . split at h
   . rename_i l hl;cases h;simp only[C.v,frzT];exact cbors_ok hl (by simpa[C.v] using hK)
   . cases h
 . rename_i hne;have hb:=cbor_ok h hK;cases v<;>first
    | exact(hne _ rfl).elim
    | (simp only[C.v] at hb ⊢;simp only[frzT];exact hb)
noncomputable def evX (tb:List (Nat×FDef)) (lf fuel:Nat) (f:FuncId) (args:List C):Option C:=match allC kfC args with
 | true=>match evF tb lf fuel f args [] 0 with
   | some r=>cfin r
   | none=>none
 | false=>none
theorem ev_ret {P:Program} (hm:P.follows .mixedOrders=true) {tb:List (Nat×FDef)} (ht:TbOk P tb) {lf fuel:Nat} {f:FuncId} {args:List C} {c:C} (h:evX tb lf fuel f args=some c):Ret P f (C.vs args) c.v:=by
 unfold evX at h;split at h
 case h_2=>cases h
 rename_i hk;have hk:allB V.kf (C.vs args)=true:=by rw[allB_vs kfC_eq];exact hk
 split at h
 case h_2=>cases h
 rename_i r hr;have hc:=((evF_ok hm ht (lf:=lf) fuel).out _ _ _ _ _ hr).2 (fun v own' _=>frzT own' v fun v'=>v'=c.v) (cfin_ok h rfl);intro own ks;constructor;intro M w σ us hlen hd hh;refine(hc.out M w Sg.none us hlen (fun i v u hv hu=>(hd i v u hv hu).kf (allB_mem hk v (List.mem_of_getElem? hv)) Sg.none) (hsim_nothing (ksV 0) List.nodup_range')).mono ?_;rintro e w' ⟨M',σ',v,own',ks',u,rfl,hv,hh',tr,_,hfr⟩;obtain⟨v',hK,hv'⟩:=frzT_sound hfr;subst hK;have hM:∀b,b<w.heap.size->(lent M' w' σ' own' b↔M b):=by
  intro b hb;have hno:¬ owned w' σ' own' b:=fun ho=>by
   rcases tr.new b ho with h1|h1
   . exact owned_nil h1
   . omega
  constructor
  . intro h1;exact(tr.adv.muts b hb owned_nil).1 h1.1
  . intro h1;exact⟨(tr.adv.muts b hb owned_nil).2 h1,hno⟩
 have hfr:=hsim_frame (M'':=lent M' w' σ' own') hh tr hM;exact⟨_,σ,c.v,own,ks,u,rfl,(hv' M' w' σ' u hh'.own hv).mono (Ext.mk (fun _ _ h=>⟨h,rfl⟩) (Nat.le_refl _)) (Sg.none_le σ),hfr.1,hfr.2,Kd.refl _ _ _,rfl,rfl,rfl⟩
theorem fd_code {P:Program} {f:FuncId} {fn:Func} {c:Code} {sc:SC} {n:Nat} {rs:List RV} (hf:P.funcs[f]?=some fn) (hb:fn.body=some c) (hn:fn.ntmps=n) (hnm:(fn.name == "runtime.NumGoroutine")=false)
 (hc:cCode P fn.ntmps c=some sc) (hr:cRes P fn.results.toList=some rs):FdOk P f (.code sc n rs):=by
 subst hn;exact⟨by simp[callable,hf,hb,hnm],fn,c,hf,hb,rfl,hc,hr⟩
noncomputable def memoG (l:List (List C×C)) (args:List C):Option C:=@List.rec (List C×C) (fun _=>Option C) none (fun p _ ih=>match beqCs args p.1 with|true=>some p.2|false=>ih) l
theorem fd_memo {P:Program} {f:FuncId} (hf:callable P f=true) (l:List (List C×C)) (h:∀p,p∈l->Ret P f (C.vs p.1) p.2.v):FdOk P f (.ext (memoG l)):=by
 refine⟨hf,fun args v hv=>?_⟩
 induction l with
 | nil=>cases hv
 | cons p r ih =>
   have hv:(match beqCs args p.1 with|true=>some p.2|false=>memoG r args)=some v:=hv;split at hv
   . rename_i hb;cases hv;rw[beqCs_ok _ _ hb];exact h p (by simp)
   . exact ih (fun q hq=>h q (by simp[hq])) hv
theorem memo_one {P:Program} {f:FuncId} {a:List C} {c:C} (h:Ret P f (C.vs a) c.v):∀p,p∈[(a,c)]->Ret P f (C.vs p.1) p.2.v:=by
 intro p hp;simp only[List.mem_singleton] at hp;subst hp;exact h
def beqT:C->C->Bool
 | .tup l,.tup l'=>beqCs l l'
 | a,b=>beqC a b
theorem beqT_ok {a b:C} (h:beqT a b=true):a=b:=by
 unfold beqT at h;split at h
 . rw[beqCs_ok _ _ h]
 . exact beqC_ok _ _ h
noncomputable def memoB (tb:List (Nat×FDef)) (lf fuel:Nat) (f:FuncId) (l:List (List C×C)):Bool:=@List.rec (List C×C) (fun _=>Bool) true (fun p _ ih=>match evX tb lf fuel f p.1 with
 | some c=>match beqT c p.2 with|true=>ih|false=>false
 | none=>false) l
theorem memo_run {P:Program} (hm:P.follows .mixedOrders=true) {tb:List (Nat×FDef)} (ht:TbOk P tb) {lf fuel:Nat} {f:FuncId} {l:List (List C×C)} (h:memoB tb lf fuel f l=true):∀p,p∈l->Ret P f (C.vs p.1) p.2.v:=by
 induction l with
 | nil=>intro p hp;cases hp
 | cons q r ih =>
   have h:(match evX tb lf fuel f q.1 with|some c=>(match beqT c q.2 with|true=>memoB tb lf fuel f r|false=>false)|none=>false)=true:=h;split at h
   . rename_i c hc;split at h
     . rename_i hb;intro p hp;rcases List.mem_cons.1 hp with rfl|hp
       . rw[<- beqT_ok hb];exact ev_ret hm ht hc
       . exact ih h p hp
     . cases h
   . cases h
theorem memo_app {P:Program} {f:FuncId} {a b:List (List C×C)} (ha:∀p,p∈a->Ret P f (C.vs p.1) p.2.v) (hb:∀p,p∈b->Ret P f (C.vs p.1) p.2.v):∀p,p∈a++b->Ret P f (C.vs p.1) p.2.v:=fun p hp=>by
 rcases List.mem_append.1 hp with h|h
 . exact ha p h
 . exact hb p h
theorem fd_pure {P:Program} (hm:P.follows .mixedOrders=true) {tb:List (Nat×FDef)} (ht:TbOk P tb) {lf fuel:Nat} {f:FuncId} (hf:callable P f=true):FdOk P f (.ext (evX tb lf fuel f)) :=
 ⟨hf,fun _ _ h=>ev_ret hm ht h⟩
theorem hsim_ext {M M':Nat->Prop} {w w':World} {σ:Sg} {own:Own} {ks:List Nat} (hh:HSim M w σ own ks) (hE:Ext M w M' w') (hM:∀b,owned w σ own b->M' b/\w'.heap[b]?=w.heap[b]?) :
 HSim M' w' σ own ks/\∀n,owned w' σ own n↔owned w σ own n:=by
 have keep:∀k b n,(k,b)∈own->(holds w' σ k b n↔holds w σ k b n):=fun k b n hm=>holds_same (Sg.le_refl _) (hh.own.key hm) fun ob hob=>(hM ob ⟨k,b,hm,.inl hob⟩).2;exact⟨⟨⟨fun k b hm=>(hh.own.blk k b hm).mono hE (Sg.le_refl _) fun n hn=>hM n ⟨k,b,hm,hn⟩,hh.own.nodup,fun k b k' b' n m1 m2 hne e1 e2=>hh.own.apart k b k' b' n m1 m2 hne ((keep k b n m1).1 e1) ((keep k' b' n m2).1 e2)⟩,hh.fresh,hh.knodup⟩,
  fun n=>owned_le hh.own (Sg.le_refl _) fun b hb=>(hM b hb).2⟩
noncomputable def someB {α:Type} (o:Option α):Bool:=@Option.rec α (fun _=>Bool) false (fun _=>true) o
theorem some_getD {α:Type} {o:Option α} {d:α} (h:someB o=true):o=some (o.getD d):=by
 cases o with
 | none=>cases h
 | some x=>rfl
theorem fd_codeC {P:Program} {f:FuncId} {fn:Func} {c:Code} {n:Nat} (hf:P.funcs[f]?=some fn) (hb:fn.body=some c) (hn:fn.ntmps=n) (hnm:(fn.name == "runtime.NumGoroutine")=false)
 (h:(someB (cCode P fn.ntmps (fn.body.getD .skip))&&someB (cRes P fn.results.toList))=true):FdOk P f (.code ((cCode P fn.ntmps (fn.body.getD .skip)).getD .skip) n ((cRes P fn.results.toList).getD [])):=by
 rw[Bool.and_eq_true] at h;refine fd_code hf hb hn hnm ?_ (some_getD h.2);have:=some_getD (d:=.skip) h.1;rw[hb] at this ⊢;exact this
end Go.Eng
namespace Go.Proofs.YtpoplpohbpfbmaaGreatDoor
open Go.Eng
set_option maxRecDepth 100000
set_option maxHeartbeats 1000000 in
theorem idx_calls (s:ByteArray) (c:Int) (w:World) :
 Calls Tryz.prog 157 #[.string s,.int .u8 c] w fun e w'=>e=.returned (.int .i64 (Lib.indexByte s.data.toList c.toNat.toUInt8))/\w'=w:=by
 go_enter Tryz.func157,(rfl:Tryz.f157.ntmps=_)
 go_wp2
 rw[run_callFunc_extern Tryz.func175 (by kernel_rfl) (by kernel_rfl) (by kernel_rfl) (e:=Extern.BytealgIndexByte.indexByte) (by kernel_rfl),Lib.run_indexByteString];simp only[Result.andThen];rw[Oper.upon_value]
 go_wp2
 go_ret
 exact⟨rfl,rfl⟩
noncomputable def ixA (b:Nat) (l:Nat):Nat->Nat->Int:=@Nat.rec (fun _=>Nat->Nat->Int) (fun _ _=>.negSucc 0) (fun _ ih c i=>match Nat.beq (Nat.mod c 256) b with|true=>.ofNat i|false=>ih (Nat.div c 256) (Nat.succ i)) l
theorem ixA_eq {b:Nat} (hb:b<256):∀(l c i:Nat),ixA b l c i=if Lib.indexByte (bl l c) b.toUInt8=-1 then -1 else Lib.indexByte (bl l c) b.toUInt8+i
 | 0,c,i=>rfl
 | l+1,c,i=>by
   have e:ixA b (l+1) c i=match Nat.beq (Nat.mod c 256) b with|true=>.ofNat i|false=>ixA b l (Nat.div c 256) (Nat.succ i):=rfl
   rw[e];have hm:c % 256<256:=Nat.mod_lt _ (by omega);have hge:∀(q:List UInt8) (x:UInt8),-1<=Lib.indexByte q x:=by
    intro q x
    induction q with
    | nil=>simp[Lib.indexByte]
    | cons y q ih=>simp only[Lib.indexByte];split<;>(try split)<;>omega
   cases hx:Nat.beq (Nat.mod c 256) b with
   | true =>
     have h1:c % 256=b:=Nat.eq_of_beq_eq_true hx;have h2:(UInt8.ofNat (c % 256) == b.toUInt8)=true:=by rw[h1];simp
     simp only[bl,Lib.indexByte,h2,if_true];simp
   | false =>
     have h1:c % 256≠b:=fun e=>by
      have:Nat.beq (Nat.mod c 256) b=true:=Nat.beq_eq▸e;rw[hx] at this;cases this
     have h2:(UInt8.ofNat (c % 256) == b.toUInt8)=false:=by
      rw[beq_eq_false_iff_ne];intro e;have:=congrArg UInt8.toNat e;simp at this;omega
     have ih:=ixA_eq hb l (c / 256) (i+1);show ixA b l (c / 256) (i+1)=_;rw[ih];simp only[bl,Lib.indexByte,h2,Bool.false_eq_true,if_false];have:=hge (bl l (c / 256)) b.toUInt8;by_cases h3:Lib.indexByte (bl l (c / 256)) b.toUInt8=-1
     . simp[h3]
     . have h4:(Lib.indexByte (bl l (c / 256)) b.toUInt8 == -1)=false:=by simpa using h3
       simp only[h4,h3,if_false,Bool.false_eq_true];rw[if_neg (by omega)];omega
noncomputable def idxg (args:List C):Option C:=match args with
 | [.str l c,.int .u8 (.ofNat b)]=>match Nat.blt b 256 with
   | true=>fI (ixA b l c 0) fun n=>some (.int .i64 n)
   | false=>none
 | _=>none
theorem idx_ok:FdOk Tryz.prog 157 (.ext idxg):=by
 refine⟨by kernel_rfl,fun args v h own ks=>⟨fun M w σ us hlen hd hh=>?_⟩⟩;unfold idxg at h;split at h
 . rename_i l c b;split at h
   . rename_i hb;rw[fI_eq] at h;cases h
     match us,hlen,hd with
     | [u1,u2],_,hd =>
       have h1:=hd 0 _ u1 rfl rfl;have h2:=hd 1 _ u2 rfl rfl;simp only[C.v] at h1 h2;cases h1;cases h2;refine(idx_calls _ _ w).mono ?_;rintro e w' ⟨rfl,rfl⟩;have hb:=Nat.le_of_ble_eq_true hb;have e1:Lib.indexByte (bytesOf l c).data.toList (Int.ofNat b).toNat.toUInt8=ixA b l c 0:=by
        rw[ixA_eq hb];show Lib.indexByte (bl l c) b.toUInt8=_;split<;>simp_all
       rw[e1];exact⟨M,σ,_,own,ks,_,rfl,.int _ _ _,hh,Tr.refl _ _ _ _,Kd.refl _ _ _,by simp[C.v],rfl,rfl⟩
   . cases h
 . cases h
set_option maxHeartbeats 1000000 in
theorem recovered_nil (w:World):Calls Tryz.prog 80 #[.nilIface] w fun e w'=>e=.returned (.tuple #[.agg #[.int .i64 0,.int .i64 0],.bool false])/\w'=w.alloc (.cells #[.int .i64 0,.int .i64 0] 142):=by
 have hres:Tryz.f80.results=#[.cell 2 142,.tmp 3]:=by kernel_rfl
 go_enter Tryz.func80,(rfl:Tryz.f80.ntmps=_)
 go_wp2
 simp[bodyPost,results,go_sem]
set_option maxHeartbeats 1000000 in
theorem catch_idle (p q:Addr) (w:World) :
 CallsD Tryz.prog 79 #[.pointer (some p),.pointer (some q)] .returning w fun e u' w'=>e=.returned (.tuple #[])/\u'=.returning/\w'=(w.alloc (.cells #[.int .i64 0,.int .i64 0] 142)).alloc (.cells #[.int .i64 0,.int .i64 0] 142):=by
 have hres:Tryz.f79.results=#[]:=by kernel_rfl
 refine callsD_of_wpS Tryz.func79 rfl fun c₀ cs hu=>?_;apply wpS_seq;apply wpS_region;simp[wpOpsS,go_sem,recoverD,hu,Exit.thenS];refine(recovered_nil w).mono ?_;rintro e w' ⟨rfl,rfl⟩;simp[go_sem];apply wpS_seq;apply wpS_region;simp[wpOpsS,go_sem,Exit.thenS];refine wpS_cond (t:=false) (by simp[Act.eval,Array.replicate]) ?_;simp only[Bool.false_eq_true,if_false];refine wpS_of_wp (wp_skip ?_);cases c₀
 simp_all [bodyPostS,results]
theorem catch_post {M:Nat->Prop} {w w2 w3 w5:World} {σ:Sg} {own:Own} {ks:List Nat} (hh:HSim M w σ own ks) (hs2:w2.heap.size=w.heap.size+2) (h2:∀b,b<w.heap.size->w2.heap[b]?=w.heap[b]?)
 (o2:w2.os=w.os/\w2.tape=w.tape/\w2.output=w.output)
 {M3:Nat->Prop} {σ3:Sg} {own3:Own} {ks3:List Nat} (hh3:HSim M3 w3 σ3 own3 ks3) (tr:Tr (fun b=>M b\/w.heap.size<=b) w2 σ own M3 w3 σ3 own3)
 (hs5:w3.heap.size<=w5.heap.size) (h5:∀b,b<w3.heap.size->b≠w.heap.size->b≠w.heap.size+1->w5.heap[b]?=w3.heap[b]?) (o5:w5.os=w3.os/\w5.tape=w3.tape/\w5.output=w3.output) :
 HSim M3 w5 σ3 own3 ks3/\Tr M w σ own M3 w5 σ3 own3:=by
 have hown2:∀n,owned w2 σ own n↔owned w σ own n:=fun n=>owned_le hh.own (Sg.le_refl _) fun b hb=>h2 b (owned_M hh.own hb).2;have hs3:=tr.adv.size;have hno:∀b,b=w.heap.size\/b=w.heap.size+1->¬ owned w3 σ3 own3 b:=by
  intro b hb ho;rcases tr.new b ho with h|h
  . have:=(owned_M hh.own ((hown2 b).1 h)).2;omega
  . omega
 have hM3:∀b,b=w.heap.size\/b=w.heap.size+1->M3 b:=by
  intro b hb;refine(tr.adv.muts b (by omega) fun h=>?_).2 (.inr (by omega));have:=(owned_M hh.own ((hown2 b).1 h)).2;omega
 have hE:Ext M3 w3 M3 w5:=⟨fun b hb hn=>⟨hn,h5 b hb (fun e=>hn (hM3 b (.inl e))) (fun e=>hn (hM3 b (.inr e)))⟩,hs5⟩;obtain⟨a1,a2⟩:=hsim_ext hh3 hE (fun b hb=>⟨(owned_M hh3.own hb).1,h5 b (owned_M hh3.own hb).2 (fun e=>hno b (.inl e) hb) (fun e=>hno b (.inr e) hb)⟩);refine⟨a1,⟨⟨o5.1.trans (tr.adv.os.trans o2.1),o5.2.1.trans (tr.adv.tape.trans o2.2.1),o5.2.2.trans (tr.adv.output.trans o2.2.2),by omega,fun b hb hn=>?_,fun b hb hn=>?_⟩,fun b hb=>?_,tr.le⟩⟩
 . rw[h5 b (by omega) (by omega) (by omega),tr.adv.same b (by omega) (fun h=>hn ((hown2 b).1 h)),h2 b hb]
 . refine(tr.adv.muts b (by omega) (fun h=>hn ((hown2 b).1 h))).trans ⟨fun h=>?_,.inl⟩;rcases h with h|h
   . exact h
   . omega
 . rcases tr.new b ((a2 b).1 hb) with h|h
   . exact .inl ((hown2 b).1 h)
   . right;omega
set_option maxHeartbeats 1000000 in
theorem catch_ok:FdOk Tryz.prog 51 .catch_:=by
 have hmf:∀(fn:Fn) (first cap:Array Value) (w:World),(Instr.makeFunc fn first cap).run Tryz.prog w=.ok (.func fn first cap) w:=fun _ _ _ _=>rfl;have hres:Tryz.f51.results=#[.cell 2 3,.cell 3 37]:=by kernel_rfl
 refine⟨by kernel_rfl,fun g bd cap own ks K hg h=>⟨fun M w σ us hlen hd hh=>?_⟩⟩
 match us,hlen,hd with
 | [u],_,hd =>
   have hu:=hd 0 _ u rfl rfl;clear hd;cases hu with
   | fn _ _ _ _ lb hcl hcd =>
     go_enter_defers Tryz.func51,(rfl:Tryz.f51.ntmps=_)
     go_wp2
     rw[run_callFunc hg,Oper.upon_enter];have hargs:fnB bd lb++fnC bd lb=lb.toArray:=by cases bd<;>simp[fnB,fnC]
     rw[hargs];obtain⟨w2,hw2⟩:∃w2,w2=((w.alloc (Obj.cells #[Value.int IntKind.i64 0] 3)).alloc (Obj.cells #[Value.int IntKind.i64 0] 37)):=⟨_,rfl⟩;have hs2:w2.heap.size=w.heap.size+2:=by subst hw2;simp
     have h2:∀b,b<w.heap.size->w2.heap[b]?=w.heap[b]?:=by
      intro b hb;subst hw2;rw[alloc_get (by simp;omega),alloc_get hb]
     have hb0:w2.heap[w.heap.size]?=some (.cells #[.int .i64 0] 3 (0,0)):=by
      subst hw2;rw[alloc_get (by simp)];exact alloc_new
     have hb1:w2.heap[w.heap.size+1]?=some (.cells #[.int .i64 0] 37 (0,0)):=by
      subst hw2;have:=alloc_new (w:=w.alloc (Obj.cells #[Value.int IntKind.i64 0] 3)) (o:=Obj.cells #[Value.int IntKind.i64 0] 37);simpa using this
     have o2:w2.os=w.os/\w2.tape=w.tape/\w2.output=w.output:=by subst hw2;exact⟨rfl,rfl,rfl⟩
     have hE2:Ext M w (fun b=>M b\/w.heap.size<=b) w2:=⟨fun b hb hn=>⟨fun h=>h.elim hn (by omega),h2 b hb⟩,by omega⟩;obtain⟨hh2,_⟩:=hsim_ext hh hE2 (fun b hb=>⟨.inl (owned_M hh.own hb).1,h2 b (owned_M hh.own hb).2⟩);rw[<- hw2];refine(h.out _ w2 σ lb hcl (fun i v u hv hu=>(hcd i v u hv hu).mono hE2 (Sg.le_refl _)) hh2).mono ?_;rintro e w3 ⟨M3,σ3,v3,own3,ks3,u3,rfl,hv3,hh3,tr3,kd3,hK3⟩;have hno2:∀b,w.heap.size<=b->¬ owned w2 σ own b:=fun b hb ho=>by
      have:=(owned_M hh.own ((owned_le hh.own (Sg.le_refl _) fun b hb=>h2 b (owned_M hh.own hb).2).1 ho)).2;omega
     have c0:w3.heap[w.heap.size]?=some (.cells #[.int .i64 0] 3 (0,0)):=by rw[tr3.adv.same _ (by omega) (hno2 _ (by omega)),hb0]
     have c1:w3.heap[w.heap.size+1]?=some (.cells #[.int .i64 0] 37 (0,0)):=by rw[tr3.adv.same _ (by omega) (hno2 _ (by omega)),hb1]
     have k0:w3.cell? ⟨w.heap.size,0,none⟩=some (.int .i64 0):=by simp[World.cell?,c0]
     have z0:w3.frozen? ⟨w.heap.size,0,none⟩=false:=by simp[World.frozen?,c0]
     have d1:(w3.setCell ⟨w.heap.size,0,none⟩ (.int .i64 0)).heap[w.heap.size+1]?=some (.cells #[.int .i64 0] 37 (0,0)):=by rw[heap_setCell_other _ _ _ _ (by simp)];exact c1
     have k1:(w3.setCell ⟨w.heap.size,0,none⟩ (.int .i64 0)).cell? ⟨w.heap.size+1,0,none⟩=some (.int .i64 0):=by simp[World.cell?,d1]
     have z1:(w3.setCell ⟨w.heap.size,0,none⟩ (.int .i64 0)).frozen? ⟨w.heap.size+1,0,none⟩=false:=by simp[World.frozen?,d1]
     simp only
     go_wp2
     generalize hw4:((w3.setCell ⟨w.heap.size,0,none⟩ (.int .i64 0)).setCell ⟨w.heap.size+1,0,none⟩ (.int .i64 0))=w4;have hs4:w4.heap.size=w3.heap.size:=by subst hw4;simp
     have h4:∀b,b≠w.heap.size->b≠w.heap.size+1->w4.heap[b]?=w3.heap[b]?:=fun b e0 e1=>by
      subst hw4;rw[heap_setCell_other _ _ _ _ (by simpa using e1),heap_setCell_other _ _ _ _ (by simpa using e0)]
     have o4:w4.os=w3.os/\w4.tape=w3.tape/\w4.output=w3.output:=by subst hw4;exact⟨rfl,rfl,rfl⟩
     have q0:w4.heap[w.heap.size]?=some (.cells #[.int .i64 0] 3 (0,0)):=by
      subst hw4;rw[heap_setCell_other _ _ _ _ (by simp)];exact one_setCell c0
     have q1:w4.heap[w.heap.size+1]?=some (.cells #[.int .i64 0] 37 (0,0)):=by
      subst hw4;exact one_setCell d1
     refine leaves_cons (f:=79) (args:=#[.pointer (some ⟨w.heap.size,0,none⟩),.pointer (some ⟨w.heap.size+1,0,none⟩)]) (by simp) (by simp[go_sem]) ?_;refine(catch_idle _ _ _).mono ?_;rintro e u' w5 ⟨rfl,rfl,rfl⟩;generalize hw5:((w4.alloc (.cells #[.int .i64 0,.int .i64 0] 142)).alloc (.cells #[.int .i64 0,.int .i64 0] 142))=w5;have hlt0:=lt_of_getElem? q0;have hlt1:=lt_of_getElem? q1;have hs5:w3.heap.size<=w5.heap.size:=by subst hw5;simp;omega
     have h5:∀b,b<w3.heap.size->w5.heap[b]?=w4.heap[b]?:=fun b hb=>by
      subst hw5;rw[alloc_get (by simp;omega),alloc_get (by omega)]
     have o5:w5.os=w3.os/\w5.tape=w3.tape/\w5.output=w3.output:=by subst hw5;exact o4
     obtain⟨f1,f2⟩:=catch_post hh hs2 h2 o2 hh3 tr3 hs5 (fun b hb e0 e1=>(h5 b hb).trans (h4 b e0 e1)) o5;have r0:w5.cell? ⟨w.heap.size,0,none⟩=some (.int .i64 0):=by simp[World.cell?,h5 _ (by omega:w.heap.size<w3.heap.size),q0]
     have r1:w5.cell? ⟨w.heap.size+1,0,none⟩=some (.int .i64 0):=by simp[World.cell?,h5 _ (by omega:w.heap.size+1<w3.heap.size),q1]
     simp[Leaves,settle,results,go_sem,r0,r1];exact⟨M3,σ3,_,den_tup2 (.int _ _ _) (.int _ _ _),own3,ks3,f1,f2,kd3,hK3⟩
end Go.Proofs.YtpoplpohbpfbmaaGreatDoor
namespace Go.Proofs.YtpoplpohbpfbmaaGreatDoor
open Go.Eng
set_option maxRecDepth 100000
end Go.Proofs.YtpoplpohbpfbmaaGreatDoor
