import Derived.Test.YtefdkgkojlflaaaGreatDoorEngH
import Derived.BigCall
import Derived.Orders
import Derived.OrdersIn
import Derived.TacticsIn
namespace Go.Eng
open Go.ChangeMaps (setBlock)
theorem set_same {w:World} {r:Nat} {o:Obj} (h:r<w.heap.size):(setBlock w r o).heap[r]?=some o:=by simp[setBlock,h]
theorem set_other {w:World} {r k:Nat} {o:Obj} (h:k≠r):(setBlock w r o).heap[k]?=w.heap[k]?:=by
 simp[setBlock,Array.getElem?_setIfInBounds_ne (Ne.symm h)]
theorem set_size {w:World} {r:Nat} {o:Obj}:(setBlock w r o).heap.size=w.heap.size:=by simp[setBlock]
theorem stK_sound:∀(l:List IntKind) (vs:List V) (K:KyS l->Prop),stK l vs K->∃p,K p/\∀M w σ (us:List Value),vs.length=us.length->(∀(i:Nat) (v:V) (u:Value),vs[i]?=some v->us[i]?=some u->Den M w σ v u)->us=stP l p
 | [],vs,K,h=>by
   cases vs with
   | nil=>exact⟨(),h,fun M w σ us hl _=>by simpa[stP] using List.eq_nil_of_length_eq_zero hl.symm⟩
   | cons=>exact h.elim
 | k::l,vs,K,h=>by
   cases vs with
   | nil=>exact h.elim
   | cons v r =>
     cases v<;>first|exact h.elim|skip
     rename_i k' a;simp only[stK] at h;split at h
     case h_2=>exact h.elim
     rename_i hk;have hk:=of_decide_eq_true hk;subst hk;obtain⟨p,hK,hp⟩:=stK_sound l r _ h;refine⟨(a,p),hK,fun M w σ us hl hd=>?_⟩
     match us,hl,hd with
     | u::us,hl,hd =>
       have h0:=hd 0 _ u rfl rfl;cases h0;rw[hp M w σ us (by simpa using hl) (fun i v u hv hu=>hd (i+1) v u (by simpa using hv) (by simpa using hu))];rfl
theorem pairK_sound {ik:MKd} {v:V} {K:KyT ik->Prop} (h:pairK ik v K):∃p,K p/\∀M w σ u,Den M w σ v u->u=keyP ik p:=by
 cases ik with
 | one ik =>
   simp only[pairK] at h;split at h
   . split at h
     . rename_i e1;have e1:=of_decide_eq_true e1;subst e1;exact⟨_,h,fun M w σ u hd=>by cases hd;rfl⟩
     . exact h.elim
   . exact h.elim
 | str =>
   simp only[pairK] at h;split at h
   . exact⟨_,h,fun M w σ u hd=>by cases hd;rfl⟩
   . exact h.elim
 | st l =>
   simp only[pairK] at h;split at h
   . obtain⟨p,hK,hp⟩:=stK_sound l _ _ h;refine⟨p,hK,fun M w σ u hd=>?_⟩;cases hd with
     | agg _ _ us hl hd=>rw[keyP,hp M w σ us hl hd]
   . exact h.elim
 | pair ik =>
 simp only[pairK] at h;split at h
 . rename_i k a k' b;split at h
   . rename_i e1 e2;have e1:=of_decide_eq_true e1;have e2:=of_decide_eq_true e2;subst e1 e2;refine⟨_,h,fun M w σ u hd=>?_⟩;cases hd with
     | agg _ _ us hl hd =>
       match us,hl,hd with
       | [x,y],_,hd =>
         have h1:=hd 0 _ x rfl rfl;have h2:=hd 1 _ y rfl rfl;cases h1;cases h2;rfl
   . exact h.elim
 . exact h.elim
theorem mapK_sound {own:Own} {m:V} {K:Nat->(ik:MKd)->List (KyT ik×V)->Prop} (h:mapK own m K):∃k ik es,m=.map k/\look own k=some (.map ik es)/\K k ik es:=by
 unfold mapK at h;split at h
 . split at h
   . exact⟨_,_,_,rfl,‹_›,h⟩
   . exact h.elim
 . exact h.elim
theorem iterK_sound {own:Own} {m:V} {K:Nat->Nat->Nat->List Nat->(ik:MKd)->List (KyT ik×V)->Prop} (h:iterK own m K) :
 ∃k km n idxs ik es,m=.loc k 0/\look own k=some (.iter km n idxs)/\look own km=some (.map ik es)/\es.length=n/\K k km n idxs ik es:=by
 unfold iterK at h;split at h
 . split at h
   . split at h
     . obtain⟨h1,h2⟩:=h;exact⟨_,_,_,_,_,_,rfl,‹_›,‹_›,Nat.eq_of_beq_eq_true h1,h2⟩
     . exact h.elim
   . exact h.elim
 . exact h.elim
theorem den_pair {M:Nat->Prop} {w:World} {σ:Sg} {ik:MKd} (p:KyT ik):Den M w σ (keyV ik p) (keyP ik p):=by
 cases ik with
 | one k=>exact .int _ _ _
 | str=>exact .str _ _
 | st l =>
   have key:∀(l:List IntKind) (p:KyS l),(stV l p).length=(stP l p).length/\∀(i:Nat) (v:V) (u:Value),(stV l p)[i]?=some v->(stP l p)[i]?=some u->Den M w σ v u:=by
    intro l
    induction l with
    | nil=>intro p;exact⟨rfl,fun i v u hv=>by simp[stV] at hv⟩
    | cons k l ih =>
      intro p;obtain⟨h1,h2⟩:=ih p.2;refine⟨by simp[stV,stP,h1],fun i v u hv hu=>?_⟩;cases i with
      | zero=>simp[stV,stP] at hv hu;subst hv hu;exact .int _ _ _
      | succ i=>exact h2 i v u (by simpa[stV] using hv) (by simpa[stP] using hu)
   exact .agg _ _ _ (key l p).1 (key l p).2
 | pair ik =>
   refine .agg _ _ [.int ik p.1,.int ik p.2] rfl fun i v u hv hu=>?_
   match i,hv,hu with
   | 0,hv,hu=>simp at hv hu;subst hv hu;exact .int _ _ _
   | 1,hv,hu=>simp at hv hu;subst hv hu;exact .int _ _ _
   | i+2,hv,hu=>simp at hv
theorem den_tup2 {M:Nat->Prop} {w:World} {σ:Sg} {a b:V} {x y:Value} (h1:Den M w σ a x) (h2:Den M w σ b y):Den M w σ (.tup [a,b]) (.tuple #[x,y]):=by
 refine .tup _ _ [x,y] rfl fun i v u hv hu=>?_
 match i,hv,hu with
 | 0,hv,hu=>simp at hv hu;subst hv hu;exact h1
 | 1,hv,hu=>simp at hv hu;subst hv hu;exact h2
 | i+2,hv,hu=>simp at hv
theorem den_tup3 {M:Nat->Prop} {w:World} {σ:Sg} {a b c:V} {x y z:Value} (h1:Den M w σ a x) (h2:Den M w σ b y) (h3:Den M w σ c z):Den M w σ (.tup [a,b,c]) (.tuple #[x,y,z]):=by
 refine .tup _ _ [x,y,z] rfl fun i v u hv hu=>?_
 match i,hv,hu with
 | 0,hv,hu=>simp at hv hu;subst hv hu;exact h1
 | 1,hv,hu=>simp at hv hu;subst hv hu;exact h2
 | 2,hv,hu=>simp at hv hu;subst hv hu;exact h3
 | i+3,hv,hu=>simp at hv
theorem den_tup1 {M:Nat->Prop} {w:World} {σ:Sg} {a:V} {x:Value} (h1:Den M w σ a x):Den M w σ (.tup [a]) (.tuple #[x]):=by
 refine .tup _ _ [x] rfl fun i v u hv hu=>?_
 match i,hv,hu with
 | 0,hv,hu=>simp at hv hu;subst hv hu;exact h1
 | i+1,hv,hu=>simp at hv
theorem Den.none_le {M:Nat->Prop} {w:World} {σ:Sg} {v:V} {u:Value} (h:Den M w Sg.none v u):Den M w σ v u:=h.mono ⟨fun _ _ h=>⟨h,rfl⟩,Nat.le_refl _⟩ (fun _ _ h=>by cases h)
theorem keyStays (ik:MKd) (p:KyT ik) (P:Program) (w:World):(Instr.keyThatStays (keyP ik p) (keyP ik p)).run P w=.ok (keyP ik p) w:=by
 have:Instr.sameBits 10000 (keyP ik p) (keyP ik p)=true:=by
  cases ik with
  | st l =>
    rw[keyP,show(10000:Nat)=9999+1 from rfl];have key:∀(l:List IntKind) (p:KyS l),((stP l p).zip (stP l p)).all (fun(x:Value×Value)=>Instr.sameBits 9999 x.1 x.2)=true:=by
     intro l
     induction l with
     | nil=>intro p;rfl
     | cons k l ih=>intro p;simp[stP,Instr.sameBits,ih p.2]
    simpa[Instr.sameBits] using key l p
  | _=>(rw[keyP,show(10000:Nat)=9999+1 from rfl];simp[Instr.sameBits])<;>exact(Go.MapKept.bytes_beq _ _).2 rfl
 simp[Instr.keyThatStays,this,go_sem]
theorem look_of_mem {α:Type}:∀{l:List (Nat×α)} {k:Nat} {v:α},(l.map (·.1)).Nodup->(k,v)∈l->look l k=some v
 | [],_,_,_,h=>by simp at h
 | (q,c)::l,k,v,hn,h=>by
   simp only[List.map_cons,List.nodup_cons] at hn;rcases List.mem_cons.1 h with e|e
   . cases e;simp[look]
   . have:Nat.beq q k=false:=by
      rw[<- Bool.not_eq_true];intro hb;have:=Nat.eq_of_beq_eq_true hb;subst this;exact hn.1 (List.mem_map.2 ⟨_,e,rfl⟩)
     simp only[look,this];exact look_of_mem hn.2 e
theorem kd_upd {σ:Sg} {own own':Own} {ks:List Nat} (h:own'.map (·.1)=own.map (·.1)):Kd σ own ks σ own' ks:=⟨fun _ h=>h,fun _ h _=>h,fun k hk=>.inl (by rw[h] at hk;exact hk)⟩
theorem xop_sound {P:Program} {o:Oper} {xo:XOp} (hc:cXop P o.op=some xo) {env:Env} {own:Own} {ks:List Nat} {K:V->Own->List Nat->Prop} (h:vxop xo env own ks K)
 {M:Nat->Prop} {w:World} {σ:Sg} {a:Act} (ok:∀x,x∈xo.xs->XOk M w σ env a x) (hh:HSim M w σ own ks) (Q:Exit->Act->World->Prop):o.wp P a w (OP o a M w σ own ks K) Q:=by
 obtain⟨dst,op,type,pos,after,guard⟩:=o;simp only at hc;unfold cXop at hc;split at hc
 . -- a new slice
   rename_i t l c;split at hc
   case h_2=>cases hc
   rename_i e he;split at hc
   case h_2=>cases hc
   rename_i s b zs x h1 h2 h3 h4 h5;split at hc
   case h_2=>cases hc
   rename_i hzl hzk;cases hc;have hzl:=Nat.eq_of_beq_eq_true hzl;obtain⟨v,h,hv⟩:=get_sound h4 h;have dv:=hv M w σ a (ok _ (by simp[XOp.xs]));split at h
   case h_2=>exact h.elim
   rename_i k n;obtain⟨m,rfl,hm,h⟩:=h;obtain⟨hbm,h⟩:=h;obtain⟨kk,ks',rfl,hK⟩:=fresh_sound h;obtain⟨i,z,hi,hz,hzc⟩:=zeroOf_info h3;have hisz:i.size=s:=by simpa[szOf,hi] using h1
   have hib:i.bytes=b:=by simpa[hi] using h2
   obtain⟨l1,l2⟩:=den_ofCells (M:=M) (w:=w) Sg.none hzc;have hl:a.eval l=.int k m:=by generalize a.eval l=q at dv;cases dv;rfl
   obtain⟨kc,hlc⟩:∃kc,a.eval c=.int kc m:=by
    unfold sameB at h5;split at h5
    . rename_i n1 n2 e1 e2;cases e1;cases e2;rw[<- Nat.eq_of_beq_eq_true h5];exact⟨_,hl⟩
    . rename_i k1 a1 k2 a2 e1 e2;cases e1;cases e2;have e3:=of_decide_eq_true h5;simp only[Act.eval] at hl ⊢;cases hl;exact⟨k2,by rw[e3]⟩
    . cases h5
   have hb':(i.bytes:Int)*(m:Int)<=281474976710656:=by
    have:((i.bytes*m:Nat):Int)<=281474976710656:=by rw[hib,Nat.mul_comm];omega
    rwa[Int.natCast_mul] at this
   have hr:=run_make (P:=P) w t e i z he hi hz k kc m m (by omega) (Int.le_refl _) hb' (by omega);simp only[Int.toNat_natCast] at hr;have zsz:z.cells.size=s:=by simp at l1;omega
   rcases mksK_out hK with hK1 | ⟨hs1,hK1⟩
   rotate_left
   . subst hs1;have hz0:0<zs.length:=by omega
     have hd:=l2 0 zs[0] z.cells[0] (by simp[hz0]) (by simp[show 0<z.cells.size by omega]);obtain⟨M',σ',n1,n2,n3,n4,n5⟩:=new_cellsv (k:=kk) (ks:=ks') hh 1 m (List.replicate m (zs.getD 0 default)) (madeCells z.cells (m*i.size)) e (by rw[size_madeCells,hisz];simp) (fun q x y hx hy=>by
      have hq:q<m:=by have:=(List.getElem?_eq_some_iff.1 hx).1;simpa using this
      have ex:x=zs[0]:=by
       rw[List.getElem?_replicate,if_pos hq] at hx;simp only[Option.some.injEq] at hx;rw[<- hx];simp[List.getD,hz0]
      have ey:y=z.cells[0]:=by
       simp only[madeCells,Array.getElem?_map] at hy;rw[Array.getElem?_range,if_pos (by rw[hisz];omega)] at hy;simp only[Option.map_some,zsz,Nat.mod_one,Option.some.injEq] at hy;rw[<- hy,getElem!_pos z.cells 0 (by omega)]
      rw[ex,ey];exact hd.mono ⟨fun _ _ h=>⟨h,rfl⟩,Nat.le_refl _⟩ (fun _ _ h=>by cases h))
     refine wp_value (u:=.slice (some ⟨w.heap.size,0,none⟩) m m) (w':=w.alloc (.cells (madeCells z.cells (m*i.size)) e)) ?_ ⟨_,M',σ',_,_,ks',rfl,n3,n1,n2,n5,hK1⟩;refine run_v (s:=Instr.makeSlice t (a.eval l) (a.eval c)) ?_;rw[hl,hlc];exact hr
   obtain⟨M',σ',n1,n2,n3,n4,n5⟩:=new_vec' (w':=w.alloc (.cells (madeCells z.cells (m*i.size)) e)) hh m s m (fun _ j=>zs.getD j default) (madeCells z.cells (m*i.size)) e (.inl rfl) (Nat.le_refl _) (by rw[size_madeCells,hisz];exact Nat.le_refl _) (fun p j hp hj=>by
    have hlt:p*s+j<m*s:=by
     have:(p+1)*s<=m*s:=Nat.mul_le_mul_right _ hp;rw[Nat.add_mul] at this;omega
    have hjz:j<z.cells.size:=by omega
    have hjs:j<zs.length:=by omega
    have hmod:(p*s+j) % z.cells.size=j:=by
     rw[zsz,Nat.add_comm,Nat.add_mul_mod_self_right,Nat.mod_eq_of_lt hj]
    have hd:=l2 j zs[j] z.cells[j] (by simp[hjs]) (by simp[hjz]);refine⟨z.cells[j],?_,hd.oneCell ?_,by simpa[List.getD,hjs] using hd⟩
    . simp only[madeCells,Array.getElem?_map];rw[Array.getElem?_range,if_pos (by rw[hisz];exact hlt)];simp only[Option.map_some,hmod];rw[getElem!_pos z.cells j hjz]
    . exact ofCells_cellB hzc _ (List.getElem_mem hjs))
   refine wp_value (u:=.slice (some ⟨w.heap.size,0,none⟩) m m) (w':=w.alloc (.cells (madeCells z.cells (m*i.size)) e)) ?_ ⟨_,M',σ',_,_,ks',rfl,n3 m (Nat.le_refl _),n1,n2,n5,hK1⟩;refine run_v (s:=Instr.makeSlice t (a.eval l) (a.eval c)) ?_;rw[hl,hlc];exact hr
 . -- a new map
   rename_i t;simp only[Option.map_eq_some_iff] at hc;obtain⟨⟨ik,kt,et,e⟩,hm,rfl⟩:=hc;obtain⟨kk,ks',rfl,hK⟩:=fresh_sound h;obtain⟨M',n1,n2⟩:=hsim_new (w':=w.alloc (.map #[] 0)) hh (some w.heap.size,0,0) (.map ik []) (fun n e=>by simpa using e.symm) rfl rfl rfl (by rw[alloc_size];omega)
    (fun n hn=>alloc_get hn) (fun M' hM' hE=>⟨w.heap.size,0,#[],Sg.set_same _ _ _,(hM' _).2 (.inr rfl),alloc_new,True.intro⟩)
   refine wp_value (u:=.map (some w.heap.size)) (w':=w.alloc (.map #[] 0)) ?_ ⟨_,M',_,.map kk,_,ks',rfl,.map _ _ _ _ _ (Sg.set_same _ _ _),n1,n2,kd_set _ _ kd_cons,hK⟩;refine run_v (s:=Instr.makeMap t none) ?_;simp[Instr.makeMap,go_sem]
 . -- lookup
   rename_i t m0 x0 comma;split at hc
   case h_2=>cases hc
   rename_i ik kt et e m x hm h1 h2;simp only[Option.map_eq_some_iff] at hc;obtain⟨zv,hz,rfl⟩:=hc;obtain⟨q1,q2⟩:=isM2_spec hm;obtain⟨vm,hg,hvm⟩:=get_sound h1 h;clear h;obtain⟨vx,h,hvx⟩:=get_sound h2 hg;clear hg;replace h:=mapK_sound h;obtain⟨k,ik',es,rfl,hlook,h⟩:=h;split at h
   case h_2=>exact h.elim
   rename_i hik;have hik:=of_decide_eq_true hik;subst hik;obtain⟨p,h,hp⟩:=pairK_sound h;have dm:=hvm M w σ a (ok _ (by simp[XOp.xs]));have dx:=hp M w σ _ (hvx M w σ a (ok _ (by simp[XOp.xs])));obtain⟨b,κ,arr,z1,z2,z3,z4⟩:=hh.own.blk k _ (look_mem hlook);have hme:a.eval m0=.map (some b):=by
    generalize a.eval m0=q at dm;cases dm with
    | map _ _ b' _ _ hk=>rw[z1] at hk;cases hk;rfl
   obtain⟨zz,hzz,hzc⟩:∃zz,(zeroValue et).run P w=.ok zz w/\ofCell zz=some zv:=by
    unfold zero1 at hz;split at hz
    . rename_i i hi;split at hz
      . rename_i zz hzz;exact⟨zz,by simp[zeroValue,typeInfo,Sem.run_bind,hi,hzz,go_sem],hz⟩
      . cases hz
    . cases hz
   have dz:Den M w σ zv zz:=den_ofCell hzc σ;rcases find_pair q2 p arr.toList es 0 z4 0 with ⟨n,x',v,a1,a2,a3,a4,a5,_⟩ | ⟨a1,a2,_⟩
   . have hK:=h.hit v a4;refine wp_value (u:=if comma then .tuple #[x'.val,.bool true] else x'.val) (w':=w) ?_ ⟨_,M,σ,if comma then .tup [v,.bool true] else v,own,ks,rfl,?_,hh,Tr.refl _ _ _ _,Kd.refl _ _ _,?_⟩
     . refine run_v (s:=Instr.lookup t (a.eval m0) (a.eval x0) comma) ?_;rw[hme,dx];simp only[Instr.lookup,Sem.run_bind,run_underlying q1,MapKept.run_getObj_map z3,Result.andThen_ok,Sem.run_pure,run_checkPair q2,findKey_pair q2,a1]
     . cases comma
       . exact a5.none_le
       . exact den_tup2 a5.none_le (.bool _ _)
     . cases comma<;>exact hK
   . have hK:=h.miss a2;refine wp_value (u:=if comma then .tuple #[zz,.bool false] else zz) (w':=w) ?_ ⟨_,M,σ,if comma then .tup [zv,.bool false] else zv,own,ks,rfl,?_,hh,Tr.refl _ _ _ _,Kd.refl _ _ _,?_⟩
     . refine run_v (s:=Instr.lookup t (a.eval m0) (a.eval x0) comma) ?_;rw[hme,dx];simp only[Instr.lookup,Sem.run_bind,run_underlying q1,MapKept.run_getObj_map z3,Result.andThen_ok,Sem.run_pure,run_checkPair q2,findKey_pair q2,a1,hzz]
     . cases comma
       . exact dz
       . exact den_tup2 dz (.bool _ _)
     . cases comma<;>exact hK
 . -- a store
   rename_i t m0 x0 y0;split at hc
   case h_2=>cases hc
   rename_i ik kt et e m x y hm h1 h2 h3;cases hc;obtain⟨q1,q2⟩:=isM2_spec hm;obtain⟨vm,hg,hvm⟩:=get_sound h1 h;clear h;obtain⟨vx,hg2,hvx⟩:=get_sound h2 hg;clear hg;obtain⟨vy,h,hvy⟩:=get_sound h3 hg2;clear hg2;replace h:=mapK_sound h;obtain⟨k,ik',es,rfl,hlook,h⟩:=h;split at h
   case h_2=>exact h.elim
   rename_i hik hkf;have hik:=of_decide_eq_true hik;subst hik;obtain⟨p,h,hp⟩:=pairK_sound h;have dm:=hvm M w σ a (ok _ (by simp[XOp.xs]));have dx:=hp M w σ _ (hvx M w σ a (ok _ (by simp[XOp.xs])));have dy:=(hvy M w σ a (ok _ (by simp[XOp.xs]))).kf2 hkf Sg.none;obtain⟨own',hK,hu1,hu2⟩:=updK_sound _ _ _ _ h hh.own.nodup ⟨_,look_mem hlook⟩;obtain⟨b,κ,arr,z1,z2,z3,z4⟩:=hh.own.blk k _ (look_mem hlook);have hme:a.eval m0=.map (some b):=by
    generalize a.eval m0=q at dm;cases dm with
    | map _ _ b' _ _ hk=>rw[z1] at hk;cases hk;rfl
   have hlt:=lt_of_getElem? z3;obtain⟨arr',hrun,hrel⟩:∃arr':Array MapEntry,(Instr.mapUpdate t (a.eval m0) (a.eval x0) (a.eval y0)).run P w=.ok () (setBlock w b (.map arr' arr'.size))/\ERel M w ik' arr'.toList (mput es p vy) 0:=by
    rw[hme,dx];rcases find_pair q2 p arr.toList es 0 z4 0 with ⟨n,x',v,a1,a2,a3,a4,a5,a6⟩ | ⟨a1,a2,a3⟩
    . refine⟨arr.modify n fun e=>{ e with key:=keyP ik' p,val:=a.eval y0 },?_,?_⟩
      . have hn:(arr[n]?).map (·.key)=some (keyP ik' p):=by
         rw[Array.getElem?_toList] at a2;rw[a2];simp[a3]
        simp only[Nat.zero_add] at a1;simp only[Instr.mapUpdate,Sem.run_bind,run_underlying q1,MapKept.run_getObj_map z3,Result.andThen_ok,run_checkPair q2,findKey_pair q2,a1,hn,Option.getD_some,keyStays,MapKept.run_setObj_map _ z3,Array.size_modify];rfl
      . have:=a6 vy (a.eval y0) dy;simpa using this
    . refine⟨arr.push { key:=keyP ik' p,val:=a.eval y0,born:=arr.size },?_,?_⟩
      . simp only[Instr.mapUpdate,Sem.run_bind,run_underlying q1,MapKept.run_getObj_map z3,Result.andThen_ok,run_checkPair q2,findKey_pair q2,a1,MapKept.run_setObj_map _ z3,Array.size_push];rfl
      . have:=a3 vy (a.eval y0) dy;simpa using this
   have hw:=hsim_write (w':=setBlock w b (.map arr' arr'.size)) hh k b (.map ik' es) (.map ik' (mput es p vy)) (look_mem hlook) (.inl (by simp[blkOf,z1])) hu2 hu1 rfl rfl rfl set_size (fun n hn=>set_other hn)
    (fun hE=>⟨b,κ,arr',z1,z2,set_same hlt,hrel.mono hE⟩)
   unfold Oper.wp;have hex:(execOp a.eval ⟨dst,.mapUpdate t m0 x0 y0,type,pos,after,guard⟩).run P w=.ok .skip (setBlock w b (.map arr' arr'.size)):=by
    show((Instr.mapUpdate t (a.eval m0) (a.eval x0) (a.eval y0) >>= fun _=>pure Next.skip):Sem Next).run P w=_;rw[Sem.run_bind,hrun];rfl
   rw[hex];exact⟨undef,M,σ,_,own',ks,rfl,.raw _ _,hw.1,hw.2,kd_upd hu1,hK⟩
 . -- range
   rename_i t x0;split at hc
   case h_2=>cases hc
   rename_i pp hm;obtain⟨ik,kt,et,e⟩:=pp;simp only[Option.map_eq_some_iff] at hc;obtain⟨x,h1,rfl⟩:=hc;obtain⟨q1,_⟩:=isM2_spec hm;obtain⟨vm,h,hvm⟩:=get_sound h1 h;obtain⟨k,ik',es,rfl,hlook,h⟩:=mapK_sound h;obtain⟨kk,ks',rfl,hK⟩:=fresh_sound h;have dm:=hvm M w σ a (ok _ (by simp[XOp.xs]));obtain⟨b,κ,arr,z1,z2,z3,z4⟩:=hh.own.blk k _ (look_mem hlook);have hme:a.eval x0=.map (some b):=by
    generalize a.eval x0=q at dm;cases dm with
    | map _ _ b' _ _ hk=>rw[z1] at hk;cases hk;rfl
   have hlen:arr.size=es.length:=by have:=z4.length;simpa using this
   have hne:k≠kk:=fun e=>by
    have:=hh.fresh kk (by simp);rw[<- e,z1] at this;cases this
   obtain⟨M',n1,n2⟩:=hsim_new (w':=w.alloc (.mapIter (some b) arr.size #[] arr.size)) hh (some w.heap.size,0,0) (.iter k es.length []) (fun n e=>by simpa using e.symm) rfl rfl rfl (by rw[alloc_size];omega)
    (fun n hn=>alloc_get hn) (fun M' hM' hE=>⟨w.heap.size,0,b,0,κ,Sg.set_same _ _ _,(hM' _).2 (.inr rfl),by rw[Sg.set_other _ _ _ hne];exact z1,by rw[<- hlen];exact alloc_new⟩)
   refine wp_value (u:=.pointer (some ⟨w.heap.size,0,none⟩)) (w':=w.alloc (.mapIter (some b) arr.size #[] arr.size)) ?_ ⟨_,M',_,.loc kk 0,_,ks',rfl,.loc _ _ _ _ _ _ (Sg.set_same _ _ _),n1,n2,kd_set _ _ kd_cons,hK⟩;refine run_v (s:=Instr.range t (a.eval x0)) ?_;rw[hme];exact run_range_map w t kt et b arr arr.size q1 z3
 . -- next
   rename_i x0;simp only[Option.map_eq_some_iff] at hc;obtain⟨x,h1,rfl⟩:=hc;obtain⟨vm,h,hvm⟩:=get_sound h1 h;obtain⟨k,km,n,idxs,ik,es,rfl,hlook,hlm,hlen,h⟩:=iterK_sound h;have dm:=hvm M w σ a (ok _ (by simp[XOp.xs]));obtain⟨r,κ,b,base,κ',y1,y2,y3,y4⟩:=hh.own.blk k _ (look_mem hlook);obtain⟨b',κ2,arr,z1,z2,z3,z4⟩:=hh.own.blk km _ (look_mem hlm);rw[z1] at y3;simp only[Option.some.injEq,Prod.mk.injEq] at y3;obtain⟨rfl,rfl,rfl⟩:=y3;have hme:a.eval x0=.pointer (some ⟨r,0,none⟩):=by
    generalize a.eval x0=q at dm;cases dm with
    | loc _ _ _ b2 base2 _ hk=>rw[y1] at hk;cases hk;rfl
   have hsz:arr.size=n:=by rw[<- hlen];have:=z4.length;simpa using this
   have hborn:∀(j:Nat) (e:MapEntry),arr[j]?=some e->∃p,es[j]?=some p/\e.key=keyP ik p.1/\e.born=j/\Den M w Sg.none p.2 e.val:=fun j e he=>by
    obtain⟨p,c1,c2,c3,c4⟩:=z4.get j e (by simpa using he);exact⟨p,c1,c2,by omega,c4⟩
   have hold:∀e∈arr.toList,e.born<n:=fun e he=>by
    obtain⟨j,hj⟩:=List.getElem?_of_mem he;obtain⟨p,c1,_,c3,_⟩:=hborn j e (by simpa using hj);have:=(List.getElem?_eq_some_iff.1 c1).1;omega
   have hltr:=lt_of_getElem? y4;rcases run_next_at (P:=P) w type r b' n n idxs.toArray arr arr.size y4 z3 hold (Nat.le_refl _) with ⟨h0,hrun⟩ | ⟨e,he,w1,hal,hrun⟩
   . have hall:∀i,i<n->i∈idxs:=by
      intro i hi;apply Classical.byContradiction;intro hni;have hi':i<arr.size:=by omega
      obtain⟨p,_,_,c3,_⟩:=hborn i arr[i] (by simp[hi']);have hmem:arr[i]∈leftOf arr idxs.toArray:=by
       unfold leftOf;rw[Array.mem_filter];refine⟨Array.getElem_mem hi',?_⟩;simp[c3,hni]
      have:0<(leftOf arr idxs.toArray).size:=by
       obtain⟨q,hq,_⟩:=Array.mem_iff_getElem.1 hmem;omega
      omega
     refine wp_value (u:=.tuple #[.bool false]) (w':=w) ?_ ⟨_,M,σ,_,own,ks,rfl,den_tup1 (.bool _ _),hh,Tr.refl _ _ _ _,Kd.refl _ _ _,h.over hall⟩;refine run_v (s:=Instr.next (a.eval x0) false type) ?_;rw[hme];exact hrun
   . have he':e∈leftOf arr idxs.toArray:=by simpa using he
     unfold leftOf at he';rw[Array.mem_filter] at he';obtain⟨hea,hen⟩:=he';obtain⟨j,hj,hje⟩:=Array.mem_iff_getElem.1 hea;obtain⟨p,c1,c2,c3,c4⟩:=hborn j e (by rw[<- hje];simp[hj]);have hnin:j∉idxs:=by
      rw[c3] at hen;simpa using hen
     have hA:=h.one j p (by omega) hnin c1;obtain⟨own',hK,hu1,hu2⟩:=updK_sound _ _ _ _ hA hh.own.nodup ⟨_,look_mem hlook⟩;have hkne:km≠k:=fun e=>by
      subst e;rw[hlook] at hlm;cases hlm
     have hw1:w1.heap=w.heap/\w1.os=w.os/\w1.tape=w.tape/\w1.output=w.output:=by rcases hal with rfl|rfl<;>exact⟨rfl,rfl,rfl,rfl⟩
     let w':=setBlock w1 r (.mapIter (some b') n (idxs.toArray.push e.born) arr.size);have hwr:=hsim_write (w':=w') hh k r _ (.iter km n (idxs++[j])) (look_mem hlook) (.inl (by simp[blkOf,y1])) hu2 hu1 hw1.2.1 hw1.2.2.1 hw1.2.2.2 (by simp[w',set_size,hw1.1])
      (fun q hq=>by show(setBlock w1 r _).heap[q]?=_;rw[set_other hq,hw1.1]) (fun hE=>by
        refine⟨r,κ,b',0,κ2,y1,y2,z1,?_⟩;show(setBlock w1 r _).heap[r]?=_;rw[set_same (by rw[hw1.1];exact hltr),hsz,c3];simp)
     have hE:=hwr.2.ext hh.own;refine wp_value (u:=.tuple #[.bool true,e.key,e.val]) (w':=w') ?_ ⟨_,M,σ,_,own',ks,rfl,?_,hwr.1,hwr.2,kd_upd hu1,hK⟩
     . refine run_v (s:=Instr.next (a.eval x0) false type) ?_;rw[hme];exact hrun
     . rw[c2];exact den_tup3 (.bool _ _) (den_pair _) (c4.none_le.mono hE (Sg.le_refl _))
 . -- entry
   rename_i x0;simp only[Option.map_eq_some_iff] at hc;obtain⟨x,h1,rfl⟩:=hc;obtain⟨vm,h,hvm⟩:=get_sound h1 h;obtain⟨k,km,n,idxs,ik,es,rfl,hlook,hlm,hlen,j,hlast,p,hp,hK⟩:=iterK_sound h;have dm:=hvm M w σ a (ok _ (by simp[XOp.xs]));obtain⟨r,κ,b,base,κ',y1,y2,y3,y4⟩:=hh.own.blk k _ (look_mem hlook);obtain⟨b',κ2,arr,z1,z2,z3,z4⟩:=hh.own.blk km _ (look_mem hlm);rw[z1] at y3;simp only[Option.some.injEq,Prod.mk.injEq] at y3;obtain⟨rfl,rfl,rfl⟩:=y3;have hme:a.eval x0=.pointer (some ⟨r,0,none⟩):=by
    generalize a.eval x0=q at dm;cases dm with
    | loc _ _ _ b2 base2 _ hk=>rw[y1] at hk;cases hk;rfl
   have hsz:arr.size=n:=by rw[<- hlen];have:=z4.length;simpa using this
   have hj:j<arr.size:=by have:=(List.getElem?_eq_some_iff.1 hp).1;omega
   obtain⟨p',c1,c2,c3,c4⟩:=z4.get j arr[j] (by simp[hj]);rw[hp] at c1;cases c1;have hbn:(arr.toList.map (·.born)).Nodup:=by
    have:∀(l:List MapEntry) (es:List (KyT ik×V)) (i:Nat),ERel M w ik l es i->(l.map (·.born)).Nodup/\∀e∈l,i<=e.born:=by
     intro l
     induction l with
     | nil=>intro es i _;simp
     | cons e l ih =>
       intro es i hr;cases es with
       | nil=>exact hr.elim
       | cons q es =>
         obtain⟨d1,d2⟩:=ih es (i+1) hr.2;refine⟨?_,fun e' he'=>?_⟩
         . simp only[List.map_cons,List.nodup_cons];refine⟨fun hm=>?_,d1⟩;obtain⟨e',he',hb⟩:=List.mem_map.1 hm;have:=d2 e' he';have:=hr.1.2.1;omega
         . rcases List.mem_cons.1 he' with e1|e1
           . subst e1;have:=hr.1.2.1;omega
           . have:=d2 e' e1;omega
    exact(this _ _ _ z4).1
   obtain⟨pre,rfl⟩:∃pre,idxs=pre++[j]:=by
    obtain⟨ys,hys⟩:=List.getLast?_eq_some_iff.1 hlast;exact⟨ys,hys⟩
   have hit:w.heap[r]?=some (.mapIter (some b') n (pre.toArray.push (arr[j]).born) arr.size):=by
    rw[y4,c3,hsz];simp
   refine wp_value (u:=.tuple #[(arr[j]).key,(arr[j]).val]) (w':=w) ?_ ⟨_,M,σ,_,own,ks,rfl,?_,hh,Tr.refl _ _ _ _,Kd.refl _ _ _,hK⟩
   . refine run_v (s:=Instr.entry (a.eval x0)) ?_;rw[hme];exact run_entry_at w r b' n pre.toArray arr arr.size arr[j] hit z3 (by simp) hbn
   . rw[c2];exact den_tup2 (den_pair _) c4.none_le
 . -- an element of the package's table
   rename_i T g i0;split at hc
   case h_2=>cases hc
   rename_i n e x h1 h2;simp only[Option.map_eq_some_iff] at hc;obtain⟨s,hs,rfl⟩:=hc;obtain⟨v,h,hv⟩:=get_sound h2 h;have dv:=hv M w σ a (ok _ (by simp[XOp.xs]));split at h
   case h_2=>exact h.elim
   rename_i k n';unfold globK at h;split at h
   case h_2=>exact h.elim
   rename_i g' m f hlook;split at h
   case h_2=>exact h.elim
   rename_i hg;have hg:=Nat.eq_of_beq_eq_true hg;subst hg;split at h
   case h_2=>exact h.elim
   rename_i hs1 hnm;have hs1:=Nat.eq_of_beq_eq_true hs1;have hnm:=Nat.eq_of_beq_eq_true hnm;subst hs1 hnm;obtain⟨j,rfl,hj,hK⟩:=h;obtain⟨_,hd⟩:=hh.own.blk 999 _ (look_mem hlook);have hi:a.eval i0=.int k j:=by generalize a.eval i0=q at dv;cases dv;rfl
   have hrun:(execOp a.eval ⟨dst,.indexAddr T (.global g) i0,type,pos,after,guard⟩).run P w=.ok (.value (.pointer (some ⟨g,0+j*1,none⟩))) w:=by
    refine run_v (s:=Instr.indexAt T (a.eval (.global g)) (a.eval i0)) ?_;rw[show a.eval (.global g)=.pointer (some ⟨g,0,none⟩) from rfl,hi];have h0:(0:Int)<=j/\(j:Int)<n:=by omega
    simp[Instr.indexAt,asIntOf,Sem.run_bind,run_underlying h1,run_szOf hs,addr_add,h0,go_sem,Instr.sureAddr];intro hcon;omega
   refine wp_value (u:=.pointer (some ⟨g,0+j*1,none⟩)) (w':=w) hrun ⟨_,M,σ,_,own,ks,rfl,?_,hh,Tr.refl _ _ _ _,Kd.refl _ _ _,hK⟩;generalize hq:(Value.pointer (some ⟨g,0,none⟩))=q at hd;cases hd with
   | fe _ _ _ _ _ _ b off u hi hM hb hcell h1 hd =>
     simp only[Value.pointer.injEq,Option.some.injEq,Addr.mk.injEq] at hq;obtain⟨rfl,e2,_⟩:=hq;have e3:off=0:=by omega
     subst e3;have:=Den.fe (M:=M) (w:=w) σ n 1 f j 0 g 0 u hj hM hb hcell h1 hd;simpa using this
 . -- a slice of an array: it is frozen
   rename_i t x0 hi0;split at hc
   case h_2=>cases hc
   rename_i n e h1;split at hc
   case h_2=>cases hc
   rename_i s x hi h2 h3 h4;cases hc;obtain⟨vp,h,hvp⟩:=get_sound h3 h;split at h
   case h_2=>exact h.elim
   rename_i k s';split at h
   case h_2=>exact h.elim
   rename_i n' s'' f hlook;split at h
   case h_2=>exact h.elim
   rename_i e1 e2 e3;have e1:=Nat.eq_of_beq_eq_true e1;have e2:=Nat.eq_of_beq_eq_true e2;have e3:=Nat.le_of_ble_eq_true e3;subst e1 e2;obtain⟨hh',hK,hbd⟩:=bdK_sound h4 h;have dp:=hvp M w σ a (ok _ (by simp[XOp.xs]));have g1:=hbd.ev (fun y hy=>ok y (by simp[XOp.xs,hy]));have hle:hh'<=n:=by rcases g1 with ⟨_,g⟩ | ⟨_,_,g⟩<;>omega
   generalize hpe:a.eval x0=q at dp;cases dp with
   | oel _ _ _ _ _ b base κ hk =>
     have hmem:=look_mem hlook;obtain⟨bo,base',κ',s1,s2,s3⟩:=hh.own.blk k _ hmem;rw[s1] at hk;simp only[Option.some.injEq,Prod.mk.injEq] at hk;obtain⟨rfl,rfl,rfl⟩:=hk;have hkeep:look (keepK [k] own) k=some (.vec n' s f):=look_of_mem (keep_sim hh [k]).nodup (keepK_mem.2 ⟨hmem,by simp⟩);have hf:frzV own (.vec k s 0 hh') fun v' own'=>v'=.fz hh' s false f/\own'=dropK [k] own:=by
      have hb0:bor0 (keepK [k] own) (.vec k s 0 hh') fun v'=>v'=.fz hh' s false f/\True:=by
       simp only[bor0,hkeep,Nat.beq_refl];exact⟨by omega,rfl,trivial⟩
      simp only[frzV,frzKeys,hlook,bor];unfold bor1;split
      . rename_i e;cases e;simp only[hkeep];exact hb0
      . rename_i e;cases e;simp only[hkeep];exact hb0
      . exact hb0
     obtain⟨v',own',⟨rfl,rfl⟩,hkeys,hsnd⟩:=frzV_sound hf;obtain⟨M',f1,f2,f3,_⟩:=hsnd M w σ ks (.slice (some ⟨b,base'+0*s,none⟩) hh' κ') hh (.vec _ _ _ _ _ _ _ _ _ _ s1 rfl (by omega) fun _=>⟨b,rfl,rfl⟩);have dF:Den M' w σ (.fz hh' s false f) (.slice (some ⟨b,base'+0*s,none⟩) hh' n):=by
      cases f3 with
      | fz0=>exact .fz0 _ _ _ _ _ _ (fun h=>by cases h)
      | fz _ _ _ _ _ _ _ _ u a1 a2 a3 a4 a5 a6 a7=>exact .fz _ _ _ _ _ _ _ _ u hle (fun h=>by cases h) a3 a4 a5 a6 a7
     refine wp_value (u:=.slice (some ⟨b,base'+0*s,none⟩) hh' n) (w':=w) ?_ ⟨_,M',σ,_,_,ks,rfl,dF,f1,f2,⟨fun _ h=>h,fun _ h _=>h,fun k hk=>.inl (hkeys k hk)⟩,hK⟩;refine run_v (s:=Instr.sliceAt t (a.eval x0) none (hi0.map a.eval) none) ?_;rw[hpe];have hb:=run_bounds (P:=P) (w:=w) (isSlice:=false) (len:=n) (cap:=n) (l:=0) (h:=hh') (m:=n) (low:=none) (high:=hi0.map a.eval) (max:=none) (.inl ⟨rfl,rfl⟩) (by
      rcases g1 with ⟨g,g'⟩ | ⟨k,g,g'⟩
      . subst g;exact .inl ⟨rfl,rfl,g'⟩
      . exact .inr ⟨k,g,g'⟩) (.inl ⟨rfl,rfl⟩)
     simp[Instr.sliceAt,Sem.run_bind,run_underlying h1,hb,run_szOf h2,go_sem,Instr.sureAddr,addr_add]
 . -- copy
   rename_i args ats;split at hc
   case h_2=>cases hc
   rename_i x0 y0 t t2 h1 h2;split at hc
   case h_2=>cases hc
   rename_i e h3;split at hc
   case h_2=>cases hc
   rename_i s x y h4 h5 h6;cases hc;obtain⟨vx,hg1,hx⟩:=get_sound h5 h;clear h;obtain⟨vy,hg2,hy⟩:=get_sound h6 hg1;clear hg1;have dx:=hx M w σ a (ok _ (by simp[XOp.xs]));have dy:=hy M w σ a (ok _ (by simp[XOp.xs]));have hats0:ats[0]?=some t:=by rw[<- Array.getElem?_toList,h2];rfl
   have hargs:args.map a.eval=#[a.eval x0,a.eval y0]:=by
    apply Array.ext';simp[h1]
   have fin:∀(u:Value) (w':World),(Builtin.copy_ ats type #[a.eval x0,a.eval y0]).run P w=.ok u w' ->
    (execOp a.eval ⟨dst,.call ⟨.builtin .copy,args,ats⟩,type,pos,after,guard⟩).run P w=.ok (.value u) w':=by
    intro u w' hu;show((pure { target:=Target.builtin .copy ats type (args.map fun | .const _=>true|_=>false),args:=args.map a.eval }:Sem Deferred) >>= fun d=>invoke d.target d.args).run P w=_;rw[Sem.run_bind,hargs];exact run_v hu
   obtain⟨m,fy,hq,hsrc⟩:=vsrc_sound hg2;clear hg2;have hS:=hsrc M w σ _ dy hh.own;have h:=hq;clear hq;generalize a.eval x0=ux at *;generalize a.eval y0=uy at *;split at h
   case h_2=>exact h.elim
   rename_i k s' lo len;split at h
   case h_2=>exact h.elim
   rename_i n s'' f hlook;split at h
   case h_2=>exact h.elim
   rename_i e1 e2;have e1:=Nat.eq_of_beq_eq_true e1;have e2:=Nat.eq_of_beq_eq_true e2;subst e1 e2;obtain⟨l0,l1,h⟩:=h;obtain⟨own',hK,hu1,hu2⟩:=updK_sound _ _ _ _ h hh.own.nodup ⟨_,look_mem hlook⟩;obtain⟨us,u1,u2,u3,u4,u5⟩:=hS.firstCells (P:=P) (w':=w) rfl;have dx0:=dx;cases dx with
   | vec _ _ _ _ _ bo base κ c ad hk hc hl ha =>
     obtain⟨_,w',hst,hh',tr⟩:=vec_write (P:=P) hh hlook dx0 (at_:=0) (m:=m) u1 (by omega) u4 u5 (by simpa using hu2) hu1;have hmin:Nat.min m len=m:=Nat.min_eq_left l0;have q0:∀(x y:Value),(#[x,y]:Array Value)[0]?=some x:=fun _ _=>rfl;have q1:∀(x y:Value),(#[x,y]:Array Value)[1]?=some y:=fun _ _=>rfl;have hrun:(Builtin.copy_ ats type #[.slice ad len c,uy]).run P w=.ok (.int .i64 m) w':=by
      have hsz:=run_szOf h4 w;cases hats1:ats[1]? with
      | none=>simp at hats1;exact absurd (congrArg List.length h2) (by simp;omega)
      | some q =>
      cases ad with
      | none =>
        have:w'=w:=by cases hst;rfl
        subst this;simp only[Builtin.copy_,hats0,q0,q1,Sem.run_bind,run_underlying h3,Result.andThen_ok,u3,hsz,hmin,u2,Sem.run_pure,goInt]
      | some ad =>
        have hst':(storeCells ad us 0).run P w=.ok () w':=by simpa[Addr.add] using hst
        simp only[Builtin.copy_,hats0,q0,q1,Sem.run_bind,run_underlying h3,Result.andThen_ok,u3,hsz,hmin,u2,hst',Sem.run_pure,goInt]
     exact wp_value (fin _ w' hrun) ⟨_,M,σ,_,_,_,rfl,.int _ _ _,hh',tr,kd_upd hu1,hK⟩
 . -- the length of a map
   rename_i args ats;split at hc
   case h_2=>cases hc
   rename_i x0 t h1 h2;split at hc
   case h_2=>cases hc
   rename_i kt et h3;simp only[Option.map_eq_some_iff] at hc;obtain⟨x,h4,rfl⟩:=hc;obtain⟨vm,h,hvm⟩:=get_sound h4 h;obtain⟨k,ik',es,rfl,hlook,hK⟩:=mapK_sound h;have dm:=hvm M w σ a (ok _ (by simp[XOp.xs]));obtain⟨b,κ,arr,z1,z2,z3,z4⟩:=hh.own.blk k _ (look_mem hlook);have hme:a.eval x0=.map (some b):=by
    generalize a.eval x0=q at dm;cases dm with
    | map _ _ b' _ _ hk=>rw[z1] at hk;cases hk;rfl
   have hlen:arr.size=es.length:=by have:=z4.length;simpa using this
   have hats0:ats[0]?=some t:=by rw[<- Array.getElem?_toList,h2];rfl
   have hargs:args.map a.eval=#[a.eval x0]:=by
    apply Array.ext';simp[h1]
   refine wp_value (u:=.int .i64 es.length) (w':=w) ?_ ⟨_,M,σ,_,own,ks,rfl,.int _ _ _,hh,Tr.refl _ _ _ _,Kd.refl _ _ _,hK⟩;show((pure { target:=Target.builtin .len ats type (args.map fun | .const _=>true|_=>false),args:=args.map a.eval }:Sem Deferred) >>= fun d=>invoke d.target d.args).run P w=_;rw[Sem.run_bind,hargs,hme];refine run_v (s:=Builtin.len_ ats type #[.map (some b)]) ?_;have q0:∀(x:Value),(#[x]:Array Value)[0]?=some x:=fun _=>rfl;simp only[Builtin.len_,hats0,q0,Sem.run_bind,run_underlying h3,MapKept.run_getObj_map z3,Result.andThen_ok,Sem.run_pure,goInt,hlen]
 . cases hc
end Go.Eng
namespace Go.Eng
def SOp.isEff:SOp->Bool
 | .xt (.mks _ _ _ _)=>false
 | .asg _ | .store _ _ _ | .app _ _ _ _ | .clr _ _ _ | .call _ _ | .callv _ _ | .xt _=>true
 | _=>false
theorem run_callFunc {P:Program} {f:FuncId} (h:callable P f=true) (args:Array Value) (w:World):(callFunc f args).run P w=.ok (.enter f args) w:=by
 unfold callable at h;split at h
 . rename_i fn hf;split at h
   . rename_i c hb;split at h
     . cases h
     . rename_i hn;simp only[callFunc,Sem.run_bind,run_program,Result.andThen_ok,hf,hn,hb,Option.isNone_some,Bool.false_eq_true,if_false,Sem.run_pure]
   . cases h
 . cases h
theorem clr_cells {P:Program} {e:TypeId} {s:Nat} {zs:List V} (h4:szOf P e=some s) (h5:zeroOf P e=some zs) (h7:zs.length=s) (M:Nat->Prop) (w:World) :
 ∃z,(zeroValue e).run P w=.ok z w/\∀n,((Builtin.zeroCells z.cells n).toList).length=n*s/\(∀i j,i<n->j<s->∃x,(Builtin.zeroCells z.cells n).toList[i*s+j]?=some x/\Den M w Sg.none (zs.getD j default) x) /\
  ∀x∈(Builtin.zeroCells z.cells n).toList,x.oneCell'=true:=by
 obtain⟨i,z,hi,hz,hzc⟩:=zeroOf_info h5;obtain⟨l1,l2⟩:=den_ofCells (M:=M) (w:=w) Sg.none hzc;have hcb:=ofCells_cellB hzc;have hsz:z.cells.size=s:=by simpa using(l1.symm.trans h7)
 refine⟨z,by simp[zeroValue,typeInfo,Sem.run_bind,hi,hz,go_sem],fun n=>?_⟩;have hlen:(Builtin.zeroCells z.cells n).toList.length=n*s:=by simp[Builtin.zeroCells,hsz]
 have hget:∀q,q<n*s->(Builtin.zeroCells z.cells n).toList[q]?=some (z.cells[q % s]!):=by
  intro q hq;simp[Builtin.zeroCells,hsz,hq]
 refine⟨hlen,?_,?_⟩
 . intro i j hi' hj;have hq:i*s+j<n*s:=by
    have:(i+1)*s<=n*s:=Nat.mul_le_mul_right _ hi';rw[Nat.succ_mul] at this;omega
   refine⟨_,hget _ hq,?_⟩;have hmod:(i*s+j) % s=j:=by rw[Nat.mul_comm,Nat.mul_add_mod];exact Nat.mod_eq_of_lt hj
   rw[hmod];have hj':j<zs.length:=by omega
   have hj2:j<z.cells.size:=by omega
   have:=l2 j (zs[j]) (z.cells[j]) (by simp[hj']) (by simp[hj2]);simpa[List.getD,hj',getElem!_pos z.cells j hj2] using this
 . intro x hx;obtain⟨q,hq,he⟩:=List.getElem_of_mem hx;have hq':q<n*s:=by rw[<- hlen];exact hq
   have h1:=hget q hq';rw[List.getElem?_eq_getElem hq,he] at h1;cases h1;have hspos:0<s:=by
    rcases Nat.eq_zero_or_pos s with h|h
    . subst h;simp at hq'
    . exact h
   have hj2:q % s<z.cells.size:=by rw[hsz];exact Nat.mod_lt _ hspos
   have hj':q % s<zs.length:=by rw[h7];exact Nat.mod_lt _ hspos
   have hd:=l2 (q % s) (zs[q % s]) (z.cells[q % s]) (by simp[hj']) (by simp[hj2]);have:=hd.oneCell (hcb _ (List.getElem_mem hj'));simpa[getElem!_pos z.cells (q % s) hj2] using this
theorem eff_sound0 {P:Program} {o:Oper} {so:SOp} (hc:cOp P o.op=some so) (hcv:∀x xs,so≠.callv x xs) (he:so.isEff=true) {env:Env} {own:Own} {ks:List Nat} {K:V->Own->List Nat->Prop} (h:vop P so env own ks K)
 {M:Nat->Prop} {w:World} {σ:Sg} {a:Act} (ok:∀x,x∈so.xs->XOk M w σ env a x) (hh:HSim M w σ own ks) (Q:Exit->Act->World->Prop):o.wp P a w (OP o a M w σ own ks K) Q:=by
 obtain⟨dst,op,type,pos,after,guard⟩:=o;have hw:=cOp_was hc;simp only at hw;cases hw<;>simp only[SOp.isEff,reduceCtorEq] at he
 case callv=>exact(hcv _ _ rfl).elim
 case xt xo hx=>exact xop_sound (o:=⟨dst,op,type,pos,after,guard⟩) hx h ok hh Q
 case asg x0 x hx =>
  obtain⟨v,hK,hv⟩:=get_sound hx h;exact wp_value (o:=⟨dst,.assign x0,type,pos,after,guard⟩) (u:=a.eval x0) rfl ⟨_,M,σ,v,own,ks,rfl,hv M w σ a (ok _ (by simp[SOp.xs])),hh,Tr.refl _ _ _ _,Kd.refl _ _ _,hK⟩
 case store t a0 x0 n xa xx h1 h2 h3 h4 =>
  obtain⟨p,h,hp⟩:=get_sound h3 h;obtain⟨v,h,hv⟩:=get_sound h4 h;obtain⟨v1,own1,h,hkk,hfz⟩:=vstoreF_sound h;obtain⟨M1,hh1,tr1,hv1,hE1⟩:=hfz M w σ ks _ hh (hv M w σ a (ok _ (by simp[SOp.xs])));obtain⟨w',own',r1,r2,r3,r4,hK⟩:=vstore_sound h1 h2 h hh1 ((hp M w σ a (ok _ (by simp[SOp.xs]))).mono hE1 (Sg.le_refl _)) hv1;have hrun:(execOp a.eval ⟨dst,.store t a0 x0,type,pos,after,guard⟩).run P w=.ok .skip w':=by
   show((Instr.storeAt t (a.eval a0) (a.eval x0) >>= fun _=>pure Next.skip):Sem Next).run P w=_;rw[Sem.run_bind,r1];rfl
  unfold Oper.wp;rw[hrun];exact⟨undef,M1,σ,_,own',ks,rfl,.raw _ _,r2,tr1.trans r3,⟨fun _ h=>h,fun _ h _=>h,fun k hk=>.inl (hkk k (r4 k hk))⟩,hK⟩
 case call f args ats xs h1 h2 =>
  obtain⟨vs,h,hl,hvs⟩:=gets_sound h2 h;have hrun:(execOp a.eval ⟨dst,.call ⟨.value (.func f),args,ats⟩,type,pos,after,guard⟩).run P w=.ok (.enter f (args.map a.eval)) w:=by
   rw[execOp_call_go];have:#[]++args.map a.eval++#[]=args.map a.eval:=by simp
   rw[this];exact run_callFunc h1 _ w
  unfold Oper.wp;rw[hrun];have hargs:args.map a.eval=(args.toList.map a.eval).toArray:=by
   apply Array.ext';simp
  rw[hargs];refine(h.out M w σ (args.toList.map a.eval) (by simpa using hl) (hvs M w σ a ok) hh).mono ?_;rintro e w' ⟨M',σ',v,own',ks',u,rfl,d,hh',tr,kd,hK⟩;exact⟨u,M',σ',v,own',ks',rfl,d,hh',tr,kd,litR_sound hK⟩
 case app args ats t t2 e e2 s b zs x0 y0 x y h1 h2 h3 h4 h5 h6 h7 h8 h9 h10 =>
  obtain⟨vx,hg1,hx⟩:=get_sound h8 h;clear h;obtain⟨vy,hg2,hy⟩:=get_sound h9 hg1;clear hg1;have dx:=hx M w σ a (ok _ (by simp[SOp.xs]));have dy:=hy M w σ a (ok _ (by simp[SOp.xs]));have hats0:ats[0]?=some t:=by rw[<- Array.getElem?_toList,h2];rfl
  have hats1:ats[1]?=some t2:=by rw[<- Array.getElem?_toList,h2];rfl
  have hargs:args.map a.eval=#[a.eval x0,a.eval y0]:=by
   apply Array.ext';simp[h1]
  have fin:∀(u:Value) (w':World),(Builtin.append_ ats type #[a.eval x0,a.eval y0]).run P w=.ok u w' ->
   (execOp a.eval ⟨dst,.call ⟨.builtin .append,args,ats⟩,type,pos,after,guard⟩).run P w=.ok (.value u) w':=by
   intro u w' hu;show((pure { target:=Target.builtin .append ats type (args.map fun | .const _=>true|_=>false),args:=args.map a.eval }:Sem Deferred) >>= fun d=>invoke d.target d.args).run P w=_;rw[Sem.run_bind,hargs];exact run_v hu
  obtain⟨vy1,own1,hg2,hkk,hfz⟩:=vappF_sound hg2;obtain⟨M1,hh1,tr1,dy1,hE1⟩:=hfz M w σ _ hh dy;have dx1:=dx.mono hE1 (Sg.le_refl _);clear dx dy hfz;have kdc:∀{σ':Sg} {o:Own} {k:List Nat},Kd σ own1 ks σ' o k->Kd σ own ks σ' o k:=fun h=>⟨h.1,h.2.1,fun q hq=>(h.2.2 q hq).imp (hkk q) id⟩;obtain⟨m,fy,hq,hsrc⟩:=vsrc_sound hg2;clear hg2;have hS:=hsrc M1 w σ _ dy1 hh1.own;have h:=hq;clear hq;split at h
  . obtain⟨l1,l2,h⟩:=h;obtain⟨k,ks',rfl,hK⟩:=fresh_sound h;generalize a.eval x0=ux at *;cases dx1;obtain⟨u,w',M',σ',r1,r2,r3,r4,r5⟩:=append_empty (ty:=type) hats0 hats1 h3 h4 h5 h6 h7 h10 hh1 hS l1 l2 none;exact wp_value (fin u w' r1) ⟨u,M',σ',_,_,_,rfl,r4,r2,tr1.trans r3,kdc r5,hK⟩
  . obtain⟨l1,l2,h⟩:=h;obtain⟨k,ks',rfl,hK⟩:=fresh_sound h;generalize a.eval x0=ux at *;have:∃ad,ux=.slice ad 0 0:=by
     cases dx1 with
     | fz0 _ _ _ _ ad c hf=>exact⟨ad,by rw[hf rfl]⟩
     | fz _ _ _ _ _ b off c u hc hf=>exact⟨_,by rw[hf rfl]⟩
    obtain⟨ad,rfl⟩:=this;obtain⟨u,w',M',σ',r1,r2,r3,r4,r5⟩:=append_empty (ty:=type) hats0 hats1 h3 h4 h5 h6 h7 h10 hh1 hS l1 l2 ad;exact wp_value (fin u w' r1) ⟨u,M',σ',_,_,_,rfl,r4,r2,tr1.trans r3,kdc r5,hK⟩
  . rename_i k s' lo len;split at h
    . rename_i n s'' f hlook;split at h
      . rename_i e1 e2;have e1:=Nat.eq_of_beq_eq_true e1;have e2:=Nat.eq_of_beq_eq_true e2;subst e1 e2;have grow:vappg own1 ks s b k lo len n m f fy K->Oper.wp P ⟨dst,.call ⟨.builtin .append,args,ats⟩,type,pos,after,guard⟩ a w (OP ⟨dst,.call ⟨.builtin .append,args,ats⟩,type,pos,after,guard⟩ a M w σ own ks K) Q:=by
         intro h;obtain⟨l0,l1,l2,h⟩:=h;obtain⟨k',ks',rfl,h⟩:=fresh_sound h;obtain⟨own',hK,hnd,hown⟩:=delK_sound _ _ _ h hh1.own.nodup;obtain⟨u,w',M',σ',r1,r2,r3,r4,r5⟩:=append_vec (ty:=type) hats0 hats1 h3 h4 h5 h6 h7 h10 hh1 hS hlook dx1 l0 l1 l2 hown hnd;exact wp_value (fin u w' r1) ⟨u,M',σ',_,_,_,rfl,r4,r2,tr1.trans r3,kdc r5,hK⟩
        by_cases heq:Nat.beq (lo+len) n=true
        . exact grow (h.1 heq)
        replace h:=h.2 (Bool.eq_false_iff.2 heq);by_cases hin:Nat.ble (lo+len+m) n=true
        . obtain⟨own',hK,hu1,hu2⟩:=updK_sound _ _ _ _ (h.1 hin) hh1.own.nodup ⟨_,look_mem hlook⟩;obtain⟨u,w',r1,r2,r3,r4⟩:=append_here (ty:=type) hats0 hats1 h3 h4 h5 hh1 hS hlook dx1 (Nat.le_of_ble_eq_true hin) hu2 hu1;exact wp_value (fin u w' r1) ⟨u,M1,σ,_,_,_,rfl,r4,r2,tr1.trans r3,kdc ⟨fun _ h=>h,fun _ h _=>h,fun k hk=>.inl (by rw[hu1] at hk;exact hk)⟩,hK⟩
        . exact grow (h.2 (Bool.eq_false_iff.2 hin))
      . exact h.elim
    . exact h.elim
  . exact h.elim
 case clr args ats t e s zs x0 x h1 h2 h3 h4 h5 h6 h7 =>
  obtain⟨v,hg,hx⟩:=get_sound h6 h;clear h;have dx:=hx M w σ a (ok _ (by simp[SOp.xs]));have hats0:ats[0]?=some t:=by rw[<- Array.getElem?_toList,h2];rfl
  have hargs:args.map a.eval=#[a.eval x0]:=by
   apply Array.ext';simp[h1]
  have fin:∀(u:Value) (w':World),(Builtin.clear_ ats type #[a.eval x0]).run P w=.ok u w' ->
   (execOp a.eval ⟨dst,.call ⟨.builtin .clear,args,ats⟩,type,pos,after,guard⟩).run P w=.ok (.value u) w':=by
   intro u w' hu;show((pure { target:=Target.builtin .clear ats type (args.map fun | .const _=>true|_=>false),args:=args.map a.eval }:Sem Deferred) >>= fun d=>invoke d.target d.args).run P w=_;rw[Sem.run_bind,hargs];exact run_v hu
  generalize a.eval x0=ux at *;have h:=hg;clear hg;unfold vclr at h;split at h
  . cases dx;exact wp_value (fin (.tuple #[]) w (by simp[Builtin.clear_,hats0,run_underlying h3,go_sem])) ⟨_,M,σ,_,own,ks,rfl,.raw _ _,hh,Tr.refl _ _ _ _,Kd.refl _ _ _,h⟩
  . rename_i k s' lo len;split at h
    . rename_i n s'' f hlook;split at h
      . rename_i e1 e2;have e1:=Nat.eq_of_beq_eq_true e1;have e2:=Nat.eq_of_beq_eq_true e2;subst e1 e2;obtain⟨l0,h⟩:=h;obtain⟨own',hK,hu1,hu2⟩:=updK_sound _ _ _ _ h hh.own.nodup ⟨_,look_mem hlook⟩;obtain⟨z,hz,hzs⟩:=clr_cells h4 h5 h7 M w;obtain⟨z1,z2,z3⟩:=hzs len;have dx0:=dx;cases dx with
        | vec _ _ _ _ _ bo base κ c ad hk hc hl ha =>
          obtain⟨_,w',hst,hh',tr⟩:=vec_write (P:=P) hh hlook dx0 (at_:=0) (m:=len) z1 (by omega) z2 z3 (by simpa using hu2) hu1;have hrun:(Builtin.clear_ ats type #[.slice ad len c]).run P w=.ok (.tuple #[]) w':=by
           cases ad with
           | none =>
             have:w'=w:=by cases hst;rfl
             subst this;simp[Builtin.clear_,hats0,run_underlying h3,go_sem]
           | some ad =>
             cases len with
             | zero =>
               have:w'=w:=by
                have hnil:(Builtin.zeroCells z.cells 0).toList=[]:=List.eq_nil_of_length_eq_zero (by omega);rw[hnil] at hst;cases hst;rfl
               subst this;simp[Builtin.clear_,hats0,run_underlying h3,go_sem]
             | succ len =>
               simp only[Nat.zero_mul,Addr.add,if_true] at hst;simp[Builtin.clear_,hats0,run_underlying h3,go_sem,hz];unfold Value.cells at hst;rw[hst];rfl
          exact wp_value (fin _ w' hrun) ⟨_,M,σ,_,_,_,rfl,.raw _ _,hh',tr,⟨fun _ h=>h,fun _ h _=>h,fun k hk=>.inl (by rw[hu1] at hk;exact hk)⟩,hK⟩
      . exact h.elim
    . exact h.elim
  . exact h.elim
theorem pure_sound {P:Program} {o:Oper} {so:SOp} (hc:cOp P o.op=some so) (hn:so.isNew=false) (he:so.isEff=false) (hl:∀z x,so≠.load z x) {env:Env} {own:Own} {ks:List Nat} {K:V->Own->List Nat->Prop}
 (h:vop P so env own ks K):∃v,K v own ks/\PFact P o so.xs env v:=by
 cases so<;>simp only[SOp.isNew,SOp.isEff,reduceCtorEq] at hn he
 case p po =>
  have:cPure P o.op=some po:=by
   have hw:=cOp_was hc;generalize o.op=op at hw;cases hw with|p _ _ h=>exact h
  exact vpure_sound this h
 case build zs ps=>exact build_sound (K:=fun v=>K v own ks) hc h
 case load z x=>exact(hl z x rfl).elim
 case xt xo=>cases xo<;>simp at hn he
theorem wp_pfact {P:Program} {o:Oper} {xs:List X} {env:Env} {v:V} (h:PFact P o xs env v) {M:Nat->Prop} {w:World} {σ:Sg} {a:Act} (ok:∀x,x∈xs->XOk M w σ env a x)
 {next:Act->World->Prop} {Q:Exit->Act->World->Prop} (hn:∀u,Den M w σ v u->next (a.put o.dst u) w):o.wp P a w next Q:=by
 obtain⟨u,h1,h2⟩:=h M w σ a ok;exact wp_value h1 (hn u h2)
theorem vop_sound0 {P:Program} {o:Oper} {so:SOp} (hc:cOp P o.op=some so) (hcv:∀x xs,so≠.callv x xs) {env:Env} {own:Own} {ks:List Nat} {K:V->Own->List Nat->Prop} (h:vop P so env own ks K)
 {M:Nat->Prop} {w:World} {σ:Sg} {a:Act} (ok:∀x,x∈so.xs->XOk M w σ env a x) (hh:HSim M w σ own ks) (Q:Exit->Act->World->Prop):o.wp P a w (OP o a M w σ own ks K) Q:=by
 by_cases he:so.isEff=true
 . exact eff_sound0 hc hcv he h ok hh Q
 by_cases hn:so.isNew=true
 . obtain⟨k,ks',b,v,rfl,hK,hf,_⟩:=new_sound hc hn h;obtain⟨u,w',M',σ',r1,r2,r3,r4,_,r5⟩:=hf M w σ a own ks' ok hh;exact wp_value r1 ⟨u,M',σ',v,_,_,rfl,r4,r2,r3,r5,hK⟩
 by_cases hl:∃z x,so=.load z x
 . obtain⟨z,x,rfl⟩:=hl;obtain⟨t,x0,p,v,ho,hz,hK,_,hp,hf,_⟩:=load_sound hc h;obtain⟨r,h1,h2⟩:=hf M w σ _ (hp M w σ a (ok _ (by simp[SOp.xs]))) (fun k b _ hk=>hh.own.blk k b (look_mem hk));have hrun:(execOp a.eval o).run P w=.ok (.value r) w:=by
    obtain⟨dst,op,type,pos,after,guard⟩:=o;simp only at ho;subst ho;exact run_v h1
   exact wp_value hrun ⟨r,M,σ,v,own,ks,rfl,h2,hh,Tr.refl _ _ _ _,Kd.refl _ _ _,hK⟩
 . obtain⟨v,hK,hf⟩:=pure_sound hc (by simpa using hn) (by simpa using he) (fun z x e=>hl ⟨z,x,e⟩) h;exact wp_pfact hf ok fun u hu=>⟨u,M,σ,v,own,ks,rfl,hu,hh,Tr.refl _ _ _ _,Kd.refl _ _ _,hK⟩
def vopO (P:Program) (op:SOp) (env:Env) (own:Own) (ks:List Nat) (K:V->Own->List Nat->Prop):Prop :=
 match op with
 | .p (.slc s x lo hi mx same)=>vslc own s x lo hi mx same env fun v=>K v own ks
 | op=>vop P op env own ks K
theorem cPure_slc {P:Program} {op:Op} {s:Nat} {x:X} {lo hi mx:Option X} {same:Bool} (h:cPure P op=some (.slc s x lo hi mx same)) :
 ∃t e x0 low high max,op=.slice t x0 low high max/\P.underlying t=some (.slice e)/\szOf P e=some s/\cX x0=some x/\cXo low=some lo/\cXo high=some hi/\cXo max=some mx/\same=sameB high max:=by
 cases op
 case slice t x0 low high max =>
  simp only[cPure] at h;unfold cSlc at h;split at h
  . rename_i e x' lo' hi' mx' h1 h2 h3 h4 h5;simp only[Option.map_eq_some_iff] at h;obtain⟨s',hs,he⟩:=h;cases he;exact⟨t,e,x0,low,high,max,rfl,h1,hs,h2,h3,h4,h5,rfl⟩
  . simp at h
  . cases h
 all_goals (simp only[cPure] at h;try (split at h<;>simp at h))
 all_goals (first|(simp at h;done)|(repeat' (split at h<;>first|(simp at h;done)|skip)))
 all_goals (rename_i he;cases he)
theorem vopO_sound0 {P:Program} {o:Oper} {so:SOp} (hc:cOp P o.op=some so) (hcv:∀x xs,so≠.callv x xs) {env:Env} {own:Own} {ks:List Nat} {K:V->Own->List Nat->Prop} (h:vopO P so env own ks K)
 {M:Nat->Prop} {w:World} {σ:Sg} {a:Act} (ok:∀x,x∈so.xs->XOk M w σ env a x) (hh:HSim M w σ own ks) (Q:Exit->Act->World->Prop):o.wp P a w (OP o a M w σ own ks K) Q:=by
 unfold vopO at h;split at h
 . rename_i s x lo hi mx same;have hp:cPure P o.op=some (.slc s x lo hi mx same):=by
    have hw:=cOp_was hc;generalize o.op=op at hw;cases hw with|p _ _ h=>exact h
   obtain⟨t,e,x0,low,high,max,ho,h1,h2,h3,h4,h5,h6,rfl⟩:=cPure_slc hp;obtain⟨v,hK,hr⟩:=vslc_sound h1 h2 h3 h4 h5 h6 h;obtain⟨u,u1,u2⟩:=hr M w σ a ok (fun k b hb=>hh.own.blk k b (look_mem hb));have hrun:(execOp a.eval o).run P w=.ok (.value u) w:=by
    obtain⟨dst,op,type,pos,after,guard⟩:=o;simp only at ho;subst ho;exact run_v u1
   exact wp_value hrun ⟨u,M,σ,v,own,ks,rfl,u2,hh,Tr.refl _ _ _ _,Kd.refl _ _ _,hK⟩
 . exact vop_sound0 hc hcv h ok hh Q
theorem cOp_nodefer {P:Program} {op:Op} {so:SOp} (h:cOp P op=some so):∀c,op≠.defer c:=by
 intro c e;subst e;have hw:=cOp_was h;cases hw with
 | p _ o h=>cases h
 | xt _ o h=>cases h
theorem rows_in {P:Program} {row:String} {args:Array Value} {w:World} {R:Value->World->Prop} (r:Option Nat) (h:Rows P row args w R):RowsIn (FR r) 0 P row args w R :=
 fun c cs _=>let ⟨v,w',h1,h2⟩:=h c cs;⟨v,w',h1,stepsIn_wide.2 h2⟩
theorem calls_in {P:Program} {f:FuncId} {args:Array Value} {w:World} {R:Ending->World->Prop} (r:Option Nat) (h:Calls P f args w R):CallsIn (FR r) 0 P f args w R :=
 (callsIn_wide (n:=0)).2 h
theorem FR_depth (r:Option Nat):(FR r).depth.isSome=true->1<=0:=fun h=>by cases h
theorem wpIn_of_wp {P:Program} {o:Oper} (r:Option Nat) (hnd:∀c,o.op≠.defer c) {a:Act} {w:World} {next:Act->World->Prop} {Q:Exit->Act->World->Prop} (h:o.wp P a w next Q):o.wpIn (FR r) 0 P a w next Q:=by
 refine⟨fun _ _=>trivial,?_⟩;rw[Oper.semAt_eq _ _ _ hnd];unfold Oper.wp at h;generalize (execOp a.eval o).run P w=res at *;cases res with
 | ok x w' =>
   cases x<;>simp only[Oper.upon,Oper.uponIn] at h ⊢ <;>
    first
     | exact h
     | exact h.elim
     | exact⟨FR_depth r,calls_in r h⟩
     | exact⟨FR_depth r,rows_in r h⟩
 | halt x w'=>cases x<;>simp only[Oper.upon,Oper.uponIn] at h ⊢<;>exact h
theorem callv_sound {P:Program} {o:Oper} {x:X} {xs:List X} (hc:cOp P o.op=some (.callv x xs)) {env:Env} {own:Own} {ks:List Nat} {K:V->Own->List Nat->Prop} (h:vop P (.callv x xs) env own ks K)
 {M:Nat->Prop} {w:World} {σ:Sg} {a:Act} (ok:∀y,y∈SOp.xs (.callv x xs)->XOk M w σ env a y) (hh:HSim M w σ own ks) (Q:Exit->Act->World->Prop) (r:Option Nat):o.wpIn (FR r) 0 P a w (OP o a M w σ own ks K) Q:=by
 have hnd:=cOp_nodefer hc;obtain⟨dst,op,type,pos,after,guard⟩:=o;have hw:=cOp_was hc;simp only at hw;cases hw;rename_i t args ats h2;simp only[vop] at h;obtain⟨fv,hg1,hf⟩:=get_sound (o:=.tmp t) rfl h;clear h;obtain⟨vs,h,hl,hvs⟩:=gets_sound h2 hg1;clear hg1;have df:=hf M w σ a (ok _ (by simp[SOp.xs]));have dvs:=hvs M w σ a (fun y hy=>ok y (by simp[SOp.xs,hy]));have hargs:args.map a.eval=(args.toList.map a.eval).toArray:=by
  apply Array.ext';simp
 refine⟨fun _ _=>trivial,?_⟩;rw[Oper.semAt_eq _ _ _ hnd];unfold vcall at h;split at h
 . rename_i g b cap;obtain⟨hcal,h⟩:=h;generalize hfe:a.eval (.tmp t)=fu at df;obtain⟨all,ul,h,h1,h2,hrun⟩:∃(all:List V) (ul:List Value),CallF P g all own ks (fun v own ks=>litR v fun v=>K v own ks)/\all.length=ul.length/\(∀(i:Nat) (v:V) (u:Value),all[i]?=some v->ul[i]?=some u->Den M w σ v u) /\
    (execOp a.eval ⟨dst,.call ⟨.value (.tmp t),args,ats⟩,type,pos,after,guard⟩).run P w=.ok (.enter g ul.toArray) w:=by
    cases df with
    | fn _ _ _ _ us hcl hcd =>
      cases b with
      | false =>
        refine⟨vs++cap,args.toList.map a.eval++us,h,by simp[hl,hcl],?_,?_⟩
        . intro i v u hv hu;by_cases hi:i<vs.length
          . rw[List.getElem?_append_left hi] at hv;rw[List.getElem?_append_left (by simpa[<- hl] using hi)] at hu;exact dvs i v u hv hu
          . rw[List.getElem?_append_right (by omega)] at hv;rw[List.getElem?_append_right (by simp[<- hl];omega)] at hu;refine hcd (i-vs.length) v u hv ?_;simpa[<- hl] using hu
        . have e:(args.toList.map a.eval++us).toArray=args.map a.eval++us.toArray:=by
           apply Array.ext';simp
          rw[e];show((resolve a.eval ⟨.value (.tmp t),args,ats⟩ type) >>= fun d=>invoke d.target d.args).run P w=_;simp only[resolve,hfe,fnB,fnC];simp[go_sem,Deferred.ofValue,invoke,run_callFunc hcal]
      | true =>
        refine⟨cap++vs,us++args.toList.map a.eval,h,by simp[hl,hcl],?_,?_⟩
        . intro i v u hv hu;by_cases hi:i<cap.length
          . rw[List.getElem?_append_left hi] at hv;rw[List.getElem?_append_left (by omega)] at hu;exact hcd i v u hv hu
          . rw[List.getElem?_append_right (by omega)] at hv;rw[List.getElem?_append_right (by omega)] at hu;rw[<- hcl] at hu;exact dvs (i-cap.length) v u hv hu
        . have e:(us++args.toList.map a.eval).toArray=us.toArray++args.map a.eval:=by
           apply Array.ext';simp
          rw[e];show((resolve a.eval ⟨.value (.tmp t),args,ats⟩ type) >>= fun d=>invoke d.target d.args).run P w=_;simp only[resolve,hfe,fnB,fnC];simp[go_sem,Deferred.ofValue,invoke,run_callFunc hcal]
   rw[hrun];refine⟨FR_depth r,calls_in r ?_⟩;refine(h.out M w σ ul h1 h2 hh).mono ?_;rintro e w' ⟨M',σ',v,own',ks',u,rfl,d,hh',tr,kd,hK⟩;exact⟨u,M',σ',v,own',ks',rfl,d,hh',tr,kd,litR_sound hK⟩
 . rename_i k;generalize hfe:a.eval (.tmp t)=fu at df;cases df with
   | yld _ _ l base κ hk =>
     obtain⟨fn,tmps,assign,body,hy,hround⟩:=h.out M w σ (args.toList.map a.eval) l base κ (by simpa using hl) dvs hh hk;have hrun:(execOp a.eval ⟨dst,.call ⟨.value (.tmp t),args,ats⟩,type,pos,after,guard⟩).run P w=.ok (.round l fn tmps assign body) w:=by
      show((resolve a.eval ⟨.value (.tmp t),args,ats⟩ type) >>= fun d=>invoke d.target d.args).run P w=_;simp only[resolve,hfe];rw[<- hargs] at hy;simp[go_sem,Deferred.ofValue,invoke,hy]
     rw[hrun];refine⟨FR_depth r,RoundIn.mono (F:=Fence.wide) hround ?_⟩;rintro e w' ⟨M',σ',v,own',ks',u,rfl,d,hh',tr,kd,hK⟩;exact⟨u,M',σ',v,own',ks',rfl,d,hh',tr,kd,litR_sound hK⟩
 . exact h.elim
theorem eff_sound {P:Program} {o:Oper} {so:SOp} (hc:cOp P o.op=some so) (he:so.isEff=true) {env:Env} {own:Own} {ks:List Nat} {K:V->Own->List Nat->Prop} (h:vop P so env own ks K)
 {M:Nat->Prop} {w:World} {σ:Sg} {a:Act} (ok:∀x,x∈so.xs->XOk M w σ env a x) (hh:HSim M w σ own ks) (Q:Exit->Act->World->Prop) (r:Option Nat):o.wpIn (FR r) 0 P a w (OP o a M w σ own ks K) Q:=by
 by_cases hcv:∀x xs,so≠.callv x xs
 . exact wpIn_of_wp r (cOp_nodefer hc) (eff_sound0 hc hcv he h ok hh Q)
 . obtain⟨x,xs,rfl⟩:∃x xs,so=.callv x xs:=by
    cases so<;>first|exact⟨_,_,rfl⟩|(exfalso;apply hcv;intro x xs e;cases e)
   exact callv_sound hc h ok hh Q r
theorem vopO_sound {P:Program} {o:Oper} {so:SOp} (hc:cOp P o.op=some so) {env:Env} {own:Own} {ks:List Nat} {K:V->Own->List Nat->Prop} (h:vopO P so env own ks K)
 {M:Nat->Prop} {w:World} {σ:Sg} {a:Act} (ok:∀x,x∈so.xs->XOk M w σ env a x) (hh:HSim M w σ own ks) (Q:Exit->Act->World->Prop) (r:Option Nat):o.wpIn (FR r) 0 P a w (OP o a M w σ own ks K) Q:=by
 by_cases hcv:∀x xs,so≠.callv x xs
 . exact wpIn_of_wp r (cOp_nodefer hc) (vopO_sound0 hc hcv h ok hh Q)
 . obtain⟨x,xs,rfl⟩:∃x xs,so=.callv x xs:=by
    cases so<;>first|exact⟨_,_,rfl⟩|(exfalso;apply hcv;intro x xs e;cases e)
   exact callv_sound hc h ok hh Q r
def vops (P:Program):List SI->Env->Own->List Nat->(Env->Own->List Nat->Prop)->Prop
 | [],env,own,ks,K=>K env own ks
 | ⟨d,op,g⟩::r,env,own,ks,K =>
   match g with
   | none=>vopO P op env own ks fun v own ks=>match d with
     | some t=>vops P r ((t,v)::env) own ks K
     | none=>vops P r env own ks K
   | some (t,want)=>match look env t with
     | some (.bool b)=>match Bool.xor b want with
       | false=>vopO P op env own ks fun v own ks=>match d with
         | some t=>vops P r ((t,v)::env) own ks K
         | none=>vops P r env own ks K
       | true=>match d with
         | some t=>vops P r ((t,.raw (.tuple #[]))::env) own ks K
         | none=>vops P r env own ks K
     | some (.raw (.tuple _))=>match d with
       | some t=>vops P r ((t,.raw (.tuple #[]))::env) own ks K
       | none=>vops P r env own ks K
     | _=>False
def cSI (P:Program) (N:Nat) (ops:Array Oper) (o:Oper):Option SI :=
 match cOp P o.op with
 | some op =>
   match (match o.dst with|some d=>Nat.ble (d+1) N|none=>true) with
   | true=>match o.guard with
     | none=>some ⟨o.dst,op,none⟩
     | some (j,b)=>match (ops[j]?).bind (·.dst) with
       | some t=>some ⟨o.dst,op,some (t,b)⟩
       | none=>none
   | false=>none
 | none=>none
def cSIs (P:Program) (N:Nat) (ops:Array Oper):List Oper->Option (List SI)
 | []=>some []
 | o::r=>match cSI P N ops o,cSIs P N ops r with
   | some i,some l=>some (i::l)
   | _,_=>none
theorem wanted_of {ops:Array Oper} {o:Oper} {j t:Nat} {want b:Bool} {a:Act} (hg:o.guard=some (j,want)) (hj:(ops[j]?).bind (·.dst)=some t) (hb:a.tmps.getD t undef=.bool b) :
 Region.wanted o (yielded ops a.tmps)=(b == want):=by
 have ht:a.tmps[t]?=some (.bool b):=by
  rw[Array.getD_eq_getD_getElem?] at hb;cases h:a.tmps[t]? with
  | none=>rw[h] at hb;cases hb
  | some x=>rw[h] at hb;simpa using hb
 unfold Region.wanted;rw[hg];simp only[yielded,hj,Option.bind_some,ht];cases b<;>cases want<;>rfl
theorem wanted_off {ops:Array Oper} {o:Oper} {j t:Nat} {want:Bool} {a:Act} {us:Array Value} (hg:o.guard=some (j,want)) (hj:(ops[j]?).bind (·.dst)=some t) (hb:a.tmps.getD t undef=.tuple us) :
 Region.wanted o (yielded ops a.tmps)=false:=by
 have:yielded ops a.tmps j=none:=by
  unfold yielded;rw[hj];simp only[Option.bind_some];cases h:a.tmps[t]? with
  | none=>rfl
  | some x =>
    rw[Array.getD_eq_getD_getElem?,h] at hb;simp at hb;subst hb;rfl
 unfold Region.wanted;rw[hg];simp[this]
theorem cSI_some {P:Program} {N:Nat} {ops:Array Oper} {o:Oper} {i:SI} (h:cSI P N ops o=some i) :
 ∃op,cOp P o.op=some op/\(∀d,o.dst=some d->d<N) /\
  ((o.guard=none/\i=⟨o.dst,op,none⟩)\/∃j b t,o.guard=some (j,b)/\(ops[j]?).bind (·.dst)=some t/\i=⟨o.dst,op,some (t,b)⟩):=by
 unfold cSI at h;split at h
 . rename_i op hop;split at h
   . rename_i hd;refine⟨op,hop,?_,?_⟩
     . intro d e;rw[e] at hd;exact Nat.le_of_ble_eq_true hd
     . split at h
       . rename_i hg;cases h;exact .inl ⟨hg,rfl⟩
       . rename_i j b hg;split at h
         . rename_i t ht;cases h;exact .inr ⟨j,b,t,hg,ht,rfl⟩
         . cases h
   . cases h
 . cases h
def putE (env:Env) (d:Option Nat) (v:V):Env:=match d with|some t=>(t,v)::env|none=>env
theorem Sim.put {N B:Nat} {M M':Nat->Prop} {w w':World} {σ σ':Sg} {env:Env} {own own':Own} {ks ks':List Nat} {a:Act} (h:Sim N B M w σ ⟨env,own,ks⟩ a) {d:Option Nat} {v:V} {u:Value} (hd:∀t,d=some t->t<N)
 (hv:Den M' w' σ' v u) (hh:HSim M' w' σ' own' ks') (tr:Tr M w σ own M' w' σ' own') :
 Sim N B M' w' σ' ⟨putE env d v,own',ks'⟩ (a.put d u):=by
 have hE:=tr.ext h.heap.own;cases d with
 | none=>exact⟨h.env.mono hE tr.le,hh,h.size,h.defers.tr tr⟩
 | some t=>exact⟨(h.env.mono hE tr.le).put (by rw[h.size];exact hd t rfl) hv,hh,by simp[Act.put,h.size],h.defers.tr tr⟩
theorem vops_sound {P:Program} (r:Option Nat) {N B:Nat} {ops:Array Oper} {Q:Exit->Act->World->Prop}:∀(l:List Oper) (sl:List SI) (env:Env) (own:Own) (ks:List Nat) (K:Env->Own->List Nat->Prop)
 (M:Nat->Prop) (w:World) (σ:Sg) (a:Act),cSIs P N ops l=some sl->vops P sl env own ks K->Sim N B M w σ ⟨env,own,ks⟩ a ->
 (∀env' own' ks' M' w' σ' a',Sim N B M' w' σ' ⟨env',own',ks'⟩ a'->Tr M w σ own M' w' σ' own'->Kd σ own ks σ' own' ks'->K env' own' ks'->Q .normal a' w')->wpListIn (FR r) 0 P ops Q l a w
 | [],sl,env,own,ks,K,M,w,σ,a,hc,h,sim,hq=>by
   simp[cSIs] at hc;subst hc;exact hq env own ks M w σ a sim (Tr.refl _ _ _ _) (Kd.refl _ _ _) h
 | o::l,sl,env,own,ks,K,M,w,σ,a,hc,h,sim,hq=>by
   unfold cSIs at hc;split at hc<;>simp only[Option.some.injEq,reduceCtorEq] at hc;rename_i i sl' h1 h2;subst hc;obtain⟨op,hop,hdst,hg⟩:=cSI_some h1;have xok:∀x,x∈op.xs->XOk M w σ env a x:=fun x _ n _ v hv=>sim.env n v hv;have go:∀(h:vopO P op env own ks fun v own ks=>match o.dst with|some t=>vops P sl' ((t,v)::env) own ks K|none=>vops P sl' env own ks K),o.wpIn (FR r) 0 P a w (wpListIn (FR r) 0 P ops Q l) Q:=by
    intro h;refine Oper.wpIn_mono ?_ (vopO_sound hop h xok sim.heap Q r);rintro a' w' ⟨u,M',σ',v,own',ks',rfl,hv,hh,tr,kd,hK⟩;have sim':=sim.put hdst hv hh tr;have hK':vops P sl' (putE env o.dst v) own' ks' K:=by
     unfold putE;cases hd:o.dst<;>simp only[hd] at hK ⊢<;>exact hK
    exact vops_sound r l sl' _ own' ks' K M' w' σ' _ h2 hK' sim' fun env' own'' ks'' M'' w'' σ'' a'' s t q k=>hq env' own'' ks'' M'' w'' σ'' a'' s (tr.trans t) (kd.trans q) k
   unfold wpListIn;rcases hg with ⟨hg,rfl⟩ | ⟨j,b,t,hg,hj,rfl⟩
   . rw[if_pos (by simp[Region.wanted,hg])];exact go h
   . simp only[vops] at h;split at h
     . rename_i bb hlook;have hden:=sim.env t _ hlook;have hb:a.tmps.getD t undef=.bool bb:=by
        generalize a.tmps.getD t undef=q at hden;cases hden;rfl
       have hw:=wanted_of hg hj hb;cases hx:Bool.xor bb b
       . have e:bb=b:=by revert hx;cases bb<;>cases b<;>decide
         rw[hx] at h;rw[if_pos (by rw[hw,e];simp)];exact go h
       . have e:(bb == b)=false:=by revert hx;cases bb<;>cases b<;>decide
         rw[hx] at h;rw[if_neg (by rw[hw,e];simp)];have sim':=sim.put (v:=.raw (.tuple #[])) (u:=undef) hdst (.raw _ _) sim.heap (Tr.refl _ _ _ _);have hK':vops P sl' (putE env o.dst (.raw (.tuple #[]))) own ks K:=by
          unfold putE;cases hd:o.dst<;>simp only[hd] at h ⊢<;>exact h
         exact⟨fun _ _=>trivial,vops_sound r l sl' _ own ks K M w σ _ h2 hK' sim' hq⟩
     . rename_i us hlook;have hden:=sim.env t _ hlook;have hb:a.tmps.getD t undef=.tuple us:=by
        generalize a.tmps.getD t undef=q at hden;cases hden;rfl
       rw[if_neg (by rw[wanted_off hg hj hb];simp)];have sim':=sim.put (v:=.raw (.tuple #[])) (u:=undef) hdst (.raw _ _) sim.heap (Tr.refl _ _ _ _);have hK':vops P sl' (putE env o.dst (.raw (.tuple #[]))) own ks K:=by
        unfold putE;cases hd:o.dst<;>simp only[hd] at h ⊢<;>exact h
       exact⟨fun _ _=>trivial,vops_sound r l sl' _ own ks K M w σ _ h2 hK' sim' hq⟩
     . exact h.elim
inductive DI where
 | op (ix:Nat) (si:SI)
 | eff (ix:Nat) (pend:List Nat) (held:List (Option Nat×Nat×Nat)) (si:SI)
def DI.ix:DI->Nat
 | .op i _=>i
 | .eff i _ _ _=>i
def DI.si:DI->SI
 | .op _ s=>s
 | .eff _ _ _ s=>s
def keyOfV:V->Option Nat
 | .loc k _=>some k
 | .vec k _ _ _=>some k
 | .oel k _ _ _=>some k
 | _=>none
def splitK (env:Env):List Nat->Own->Own->(Own->Own->Prop)->Prop
 | [],own,acc,K=>K own acc
 | t::r,own,acc,K=>match look env t with
   | some v=>match keyOfV v with
     | some k=>match look own k with
       | some b=>delK k own fun own'=>splitK env r own' ((k,b)::acc) K
       | none=>False
     | none=>splitK env r own acc K
   | none=>False
def heldK (env:Env) (own:Own) (G:Prop):List (Option Nat×Nat×Nat)->Prop
 | []=>G
 | (sz,n,t)::r=>match look env t with
   | some (.raw _)=>heldK env own G r
   | some v=>match look env n with
     | some p=>vloadR own sz p (fun v'=>v'=v)/\heldK env own G r
     | none=>False
   | none=>False
def appK {α:Type}:List α->List α->(List α->Prop)->Prop
 | [],l,K=>K l
 | x::r,l,K=>appK r l fun l'=>K (x::l')
def guardK (env:Env) (g:Option (Nat×Bool)) (A B:Prop):Prop :=
 match g with
 | none=>A
 | some (t,want)=>match look env t with
   | some (.bool b)=>match Bool.xor b want with
     | false=>A
     | true=>B
   | some (.raw (.tuple _))=>B
   | _=>False
def vdraw (P:Program):List DI->Env->Own->List Nat->(Env->Own->List Nat->Prop)->Prop
 | [],env,own,ks,K=>K env own ks
 | .op _ ⟨d,op,g⟩::r,env,own,ks,K=>guardK env g
    (vop P op env own ks fun v own ks=>match d with
      | some t=>vdraw P r ((t,v)::env) own ks K
      | none=>vdraw P r env own ks K)
    (match d with
      | some t=>vdraw P r ((t,.raw (.tuple #[]))::env) own ks K
      | none=>vdraw P r env own ks K)
 | .eff _ pend held ⟨d,op,g⟩::r,env,own,ks,K=>guardK env g
    (splitK env pend own [] fun ownA ownB=>vop P op env ownA ks fun v ownA' ks=>heldK env ownA' (appK ownB ownA' fun own=>match d with
      | some t=>vdraw P r ((t,v)::env) own ks K
      | none=>vdraw P r env own ks K) held)
    (match d with
      | some t=>vdraw P r ((t,.raw (.tuple #[]))::env) own ks K
      | none=>vdraw P r env own ks K)
def edgesOf (o:Oper):List Nat:=(o.after.toList.filter (Region.binds .any)).map (·.on)
def unionN:List Nat->List Nat->List Nat
 | [],l=>l
 | x::r,l=>match memN x l with|true=>unionN r l|false=>unionN r (x::l)
def ancs:List Oper->List (List Nat)->List (List Nat)
 | [],acc=>acc
 | o::r,acc=>ancs r (acc++[(edgesOf o).foldl (fun l j=>unionN (j::(acc.getD j [])) l) []])
def tmpsOf:List X->List Nat
 | []=>[]
 | .t n::r=>n::tmpsOf r
 | .k _::r=>tmpsOf r
def SI.uses (s:SI):List Nat:=tmpsOf s.op.xs++(match s.guard with|some (t,_)=>[t]|none=>[])
def canon (A:List (List Nat)) (eff:Nat->Bool):Nat->List Nat->List Nat->List Nat
 | 0,_,done=>done
 | fuel+1,rest,done =>
   let step:=rest.foldl (fun(p:List Nat×List Nat) i =>
    if !eff i&&(A.getD i []).all (fun j=>memN j p.1) then (p.1++[i],p.2) else (p.1,p.2++[i])) (done,[])
   match step.2 with
   | []=>step.1
   | i::_=>canon A eff fuel (step.2.filter (fun j=>!Nat.beq j i)) (step.1++[i])
def mkItems (A:List (List Nat)) (sis:List SI):List Nat->List Nat->List DI
 | [],_=>[]
 | i::r,done=>match sis[i]? with
   | some si=>match si.op.isEff with
     | false=>.op i si::mkItems A sis r (done++[i])
     | true =>
       let free:=done.filter fun j=>!memN j (A.getD i []);let pend:=free.filterMap fun j=>match sis[j]? with|some s=>(match s.op.isNew with|true=>s.dst|false=>none)|none=>none
       let held:=free.filterMap fun j=>match sis[j]? with
        | some s=>(match s.op,s.dst with | .load z (.t n),some t=>some (z,n,t)|_,_=>none)
        | none=>none
       .eff i pend held si::mkItems A sis r (done++[i])
   | none=>[]
def DI.isEff:DI->Bool
 | .op _ _=>false
 | .eff _ _ _ _=>true
def memH (z:Option Nat) (n t:Nat):List (Option Nat×Nat×Nat)->Bool
 | []=>false
 | (z',n',t')::r=>(decide (z'=z)&&Nat.beq n' n&&Nat.beq t' t) || memH z n t r
def pendB (pend:List Nat) (held:List (Option Nat×Nat×Nat)) (s:SI):Bool :=
 match s.op with
 | .load z x=>match x,s.dst with
   | .t n,some t=>memH z n t held
   | _,_=>false
 | op=>match op.isNew with
   | true=>match s.dst with|some t=>memN t pend|none=>false
   | false=>true
def condB (A:List (List Nat)) (pre:List DI) (d:DI) (post:List DI):Bool :=
 pre.all (fun d'=>!memN d.ix (A.getD d'.ix [])) &&
 (match d.si.dst with
   | some t=>pre.all (fun d'=>decide (d'.si.dst≠some t))&&pre.all (fun d'=>!memN t d'.si.uses || (d.isEff&&memN d'.ix (A.getD d.ix [])))&&(d.isEff || !memN t d.si.uses)
   | none=>true) &&
 pre.all (fun d'=>d'.isEff || (match d'.si.dst with|some t=>!memN t d.si.uses || memN d'.ix (A.getD d.ix [])|none=>true)) &&
 (match d with
   | .op _ si=>!si.op.isEff&&(!si.op.isNew || si.dst.isSome)&&(match si.op with | .load _ (.k _)=>false|_=>true)
   | .eff ix pend held si=>si.op.isEff&&post.all (fun d'=>memN ix (A.getD d'.ix []))&&pre.all (fun d'=>d'.isEff || memN d'.ix (A.getD ix []) || pendB pend held d'.si))
def condsB (A:List (List Nat)):List DI->List DI->Bool
 | _,[]=>true
 | pre,d::post=>condB A pre d post&&condsB A (pre++[d]) post
def ancB (A:List (List Nat)) (ops:Array Oper):Bool :=
 (List.range ops.size).all fun i=>match ops[i]? with
   | some o=>(edgesOf o).all (fun j=>Nat.ble (j+1) i)&&(A.getD i []).all (fun e=>memN e (edgesOf o) || (edgesOf o).any (fun j=>memN e (A.getD j [])))
   | none=>false
def nodupB:List Nat->Bool
 | []=>true
 | x::r=>!memN x r&&nodupB r
def itemsB (n:Nat) (l:List DI):Bool :=
 Nat.beq l.length n&&(List.range n).all (fun i=>memN i (l.map DI.ix))&&(l.map DI.ix).all (fun i=>Nat.ble (i+1) n)&&nodupB (l.map DI.ix)
def planOf (P:Program) (N:Nat) (ops:Array Oper):Option (List DI) :=
 match cSIs P N ops ops.toList with
 | some sis =>
   let A:=ancs ops.toList [];let c:=canon A (fun i=>match sis[i]? with|some s=>s.op.isEff|none=>true) (ops.size+1) (List.range ops.size) [];let l:=mkItems A sis c []
   match condsB A [] l&&ancB A ops&&itemsB ops.size l with
   | true=>some l
   | false=>none
 | none=>none
theorem nodupB_iff:∀{l:List Nat},nodupB l=true->l.Nodup
 | [],_=>by simp
 | x::r,h=>by
   simp only[nodupB,Bool.and_eq_true,Bool.not_eq_true'] at h;refine List.nodup_cons.2 ⟨fun hm=>?_,nodupB_iff h.2⟩;rw[memN_iff.2 hm] at h;cases h.1
theorem memH_iff {z:Option Nat} {n t:Nat}:∀{l:List (Option Nat×Nat×Nat)},memH z n t l=true->(z,n,t)∈l
 | [],h=>by simp[memH] at h
 | (z',n',t')::r,h=>by
   simp only[memH,Bool.or_eq_true,Bool.and_eq_true,decide_eq_true_eq] at h;rcases h with ⟨⟨rfl,h1⟩,h2⟩|h
   . have h1:=Nat.eq_of_beq_eq_true h1;have h2:=Nat.eq_of_beq_eq_true h2;subst h1 h2;simp
   . exact List.mem_cons_of_mem _ (memH_iff h)
structure Cond (anc:Nat->List Nat) (pre:List DI) (d:DI) (post:List DI):Prop where
 order:∀d',d'∈pre->d.ix∉anc d'.ix
 dst:∀t,d.si.dst=some t->∀d',d'∈pre->d'.si.dst≠some t
 reads:∀t,d.si.dst=some t->∀d',d'∈pre->t∈d'.si.uses->d.isEff=true/\d'.ix∈anc d.ix
 self:∀t,d.si.dst=some t->d.isEff=false->t∉d.si.uses
 uses:∀d',d'∈pre->d'.isEff=false->∀t,d'.si.dst=some t->t∈d.si.uses->d'.ix∈anc d.ix
 op:d.isEff=false->d.si.op.isEff=false/\(d.si.op.isNew=true->d.si.dst≠none)/\(∀z x,d.si.op=.load z x->∃n,x=.t n)
 eff:∀ix pend held si,d=.eff ix pend held si->si.op.isEff=true/\(∀d',d'∈post->ix∈anc d'.ix)/\(∀d',d'∈pre->d'.isEff=false->d'.ix∉anc ix->pendB pend held d'.si=true)
theorem cond_of {A:List (List Nat)} {pre:List DI} {d:DI} {post:List DI} (h:condB A pre d post=true):Cond (fun i=>A.getD i []) pre d post:=by
 simp only[condB,Bool.and_eq_true] at h;obtain⟨⟨⟨h1,h2⟩,h3⟩,h4⟩:=h;refine⟨?_,?_,?_,?_,?_,?_,?_⟩
 . intro d' hd' hm;have:=List.all_eq_true.1 h1 d' hd';rw[memN_iff.2 hm] at this;cases this
 . intro t ht d' hd';rw[ht] at h2;simp only[Bool.and_eq_true] at h2;have:=List.all_eq_true.1 h2.1.1 d' hd';simpa using this
 . intro t ht d' hd' hm;rw[ht] at h2;simp only[Bool.and_eq_true] at h2;have:=List.all_eq_true.1 h2.1.2 d' hd';simp only[Bool.or_eq_true,Bool.and_eq_true,Bool.not_eq_true'] at this;rcases this with h|h
   . rw[memN_iff.2 hm] at h;cases h
   . exact⟨h.1,memN_iff.1 h.2⟩
 . intro t ht he hm;rw[ht] at h2;simp only[Bool.and_eq_true,Bool.or_eq_true,Bool.not_eq_true'] at h2;rcases h2.2 with h|h
   . rw[he] at h;cases h
   . rw[memN_iff.2 hm] at h;cases h
 . intro d' hd' he t ht hm;have:=List.all_eq_true.1 h3 d' hd';rw[he,ht] at this;simp only[Bool.false_or,Bool.or_eq_true,Bool.not_eq_true'] at this;rcases this with h|h
   . rw[memN_iff.2 hm] at h;cases h
   . exact memN_iff.1 h
 . intro he;cases d with
   | op ix si =>
     simp only[Bool.and_eq_true,Bool.not_eq_true',Bool.or_eq_true] at h4;refine⟨h4.1.1,fun hn=>?_,fun z x e=>?_⟩
     . rcases h4.1.2 with h|h
       . simp only[DI.si] at hn;rw[h] at hn;cases hn
       . intro e;simp only[DI.si] at e;rw[e] at h;cases h
     . simp only[DI.si] at e;rw[e] at h4;cases x with
       | t n=>exact⟨n,rfl⟩
       | k v=>simp at h4
   | eff=>cases he
 . intro ix pend held si e;subst e;simp only[Bool.and_eq_true] at h4;refine⟨h4.1.1,fun d' hd'=>memN_iff.1 (List.all_eq_true.1 h4.1.2 d' hd'),fun d' hd' he hn=>?_⟩;have:=List.all_eq_true.1 h4.2 d' hd';simp only[Bool.or_eq_true] at this;rcases this with (h|h)|h
   . rw[he] at h;cases h
   . exact(hn (memN_iff.1 h)).elim
   . exact h
theorem tmpsOf_mem {n:Nat}:∀{xs:List X},.t n∈xs->n∈tmpsOf xs
 | [],h=>by simp at h
 | .t m::r,h=>by
   rcases List.mem_cons.1 h with e|e
   . cases e;simp[tmpsOf]
   . simp[tmpsOf,tmpsOf_mem e]
 | .k v::r,h=>by
   rcases List.mem_cons.1 h with e|e
   . cases e
   . simpa[tmpsOf] using tmpsOf_mem e
theorem look_cons_ne {env:Env} {t n:Nat} {v:V} (h:t≠n):look ((t,v)::env) n=look env n:=by
 have hb:Nat.beq t n=false:=by
  rw[<- Bool.not_eq_true];exact fun hh=>h (Nat.eq_of_beq_eq_true hh)
 show(match Nat.beq t n with|true=>some v|false=>look env n)=_;rw[hb]
theorem look_cons_eq {env:Env} {t:Nat} {v:V}:look ((t,v)::env) t=some v:=by
 simp[look]
theorem XOk.congr {M:Nat->Prop} {w:World} {σ:Sg} {env env':Env} {a:Act} {x:X} (h:∀n,x=.t n->look env' n=look env n) (hx:XOk M w σ env' a x):XOk M w σ env a x :=
 fun n e v hv=>hx n e v (by rw[h n e];exact hv)
theorem PFact.ext {P:Program} {o:Oper} {xs:List X} {env env':Env} {v:V} (h:PFact P o xs env v) (he:∀n,n∈tmpsOf xs->look env' n=look env n):PFact P o xs env' v :=
 fun M w σ a ok=>h M w σ a fun x hx=>(ok x hx).congr fun n e=>he n (tmpsOf_mem (e▸hx))
theorem AFact.ext {P:Program} {o:Oper} {xs:List X} {env env':Env} {k:Nat} {b:Blk} {v:V} (h:AFact P o xs env k b v) (he:∀n,n∈tmpsOf xs->look env' n=look env n):AFact P o xs env' k b v :=
 fun M w σ a own ks ok=>h M w σ a own ks fun x hx=>(ok x hx).congr fun n e=>he n (tmpsOf_mem (e▸hx))
inductive LK where
 | pure (v:V)
 | load (t:TypeId) (n:Nat) (z:Option Nat) (p v:V)
 | new (k:Nat) (b:Blk) (v:V)
 | skip
def LK.val:LK->V
 | .pure v=>v
 | .load _ _ _ _ v=>v
 | .new _ _ v=>v
 | .skip=>.raw (.tuple #[])
def LK.newk:LK->Option (Nat×Blk)
 | .new k b _=>some (k,b)
 | _=>none
structure LT where
 d:DI
 k:LK
def GuardOk (env:Env) (g:Option (Nat×Bool)) (run:Bool):Prop :=
 match g with
 | none=>run=true
 | some (t,want)=>(∃b,look env t=some (.bool b)/\run=(b == want))\/(run=false/\∃us,look env t=some (.raw (.tuple us)))
def LOk (P:Program) (N:Nat) (ops:Array Oper) (env:Env) (own:Own) (l:LT):Prop :=
 ∃o,ops[l.d.ix]?=some o/\cSI P N ops o=some l.d.si/\(∀t,l.d.si.dst=some t->look env t=some l.k.val) /\
 match l.k with
 | .pure v=>GuardOk env l.d.si.guard true/\PFact P o l.d.si.op.xs env v
 | .load t n z p v=>GuardOk env l.d.si.guard true/\l.d.si.op=.load z (.t n)/\o.op=.load t (.tmp n)/\szAgg P t=some z/\look env n=some p/\LFact P t p v own/\(∀u,v≠.raw u)
 | .new k b v=>GuardOk env l.d.si.guard true/\AFact P o l.d.si.op.xs env k b v/\keyOfV v=some k/\l.d.si.op.isNew=true
 | .skip=>GuardOk env l.d.si.guard false
theorem GuardOk.ext {env env':Env} {g:Option (Nat×Bool)} {run:Bool} (h:GuardOk env g run) (he:∀t b,g=some (t,b)->look env' t=look env t):GuardOk env' g run:=by
 unfold GuardOk at h ⊢;split
 . exact h
 . rcases h with ⟨b,h1,h2⟩ | ⟨h1,us,h2⟩
   . exact .inl ⟨b,by rw[he _ _ rfl];exact h1,h2⟩
   . exact .inr ⟨h1,us,by rw[he _ _ rfl];exact h2⟩
theorem LOk.ext {P:Program} {N:Nat} {ops:Array Oper} {env env':Env} {own own':Own} {l:LT} (h:LOk P N ops env own l) (he:∀n,n∈l.d.si.uses->look env' n=look env n)
 (hd:∀t,l.d.si.dst=some t->look env' t=look env t) (hl:∀t n z p v,l.k=.load t n z p v->look env n=some p->szAgg P t=some z->LFact P t p v own->LFact P t p v own'):LOk P N ops env' own' l:=by
 obtain⟨o,h1,h2,h3,h4⟩:=h;have hx:∀n,n∈tmpsOf l.d.si.op.xs->look env' n=look env n:=fun n hn=>he n (by simp[SI.uses,hn]);have hg:∀t b,l.d.si.guard=some (t,b)->look env' t=look env t:=fun t b e=>he t (by simp[SI.uses,e]);refine⟨o,h1,h2,fun t ht=>by rw[hd t ht];exact h3 t ht,?_⟩;cases hk:l.k<;>rw[hk] at h4<;>simp only at h4 ⊢
 . exact⟨h4.1.ext hg,h4.2.ext hx⟩
 . obtain⟨a1,a2,a3,a4,a5,a6,a7⟩:=h4;refine⟨a1.ext hg,a2,a3,a4,?_,hl _ _ _ _ _ hk a5 a4 a6,a7⟩;rw[hx _ (by rw[a2];simp[SOp.xs,tmpsOf])];exact a5
 . exact⟨h4.1.ext hg,h4.2.1.ext hx,h4.2.2⟩
 . exact h4.ext hg
structure Inv (P:Program) (N Bd:Nat) (ops:Array Oper) (anc:Nat->List Nat) (σ0:Sg) (ks0 Z:List Nat) (pre rest:List DI) (late:List LT) (env:Env) (own:Own) (ks:List Nat) (B:Own)
 (M:Nat->Prop) (w:World) (σ:Sg) (a:Act) (listed:Array Bool):Prop where
 size:a.tmps.size=N
 defers:Good Bd M w σ B a.defers
 lsize:listed.size=ops.size
 sub:∀l,l∈late->l.d∈pre/\l.d.isEff=false
 nd:(late.map (·.d.ix)).Nodup
 part:∀i,i<ops.size->(listed.getD i true=false↔(i∈late.map (·.d.ix)\/i∈rest.map DI.ix))
 closed:∀i o,ops[i]?=some o->listed.getD i true=true->∀j,j∈edgesOf o->listed.getD j false=true
 envd:∀t v,look env t=some v->(∀l,l∈late->l.d.si.dst≠some t)->Den M w σ v (a.tmps.getD t undef)
 heap:HSim M w σ B ks
 ownc:∀k b,(k,b)∈own↔((k,b)∈B\/∃l,l∈late/\l.k.newk=some (k,b))
 ownnd:(own.map (·.1)).Nodup
 unborn:∀l,l∈late->∀k b,l.k.newk=some (k,b)->σ k=none/\k∉ks
 unb2:∀l l',l∈late->l'∈late->∀k b b',l.k.newk=some (k,b)->l'.k.newk=some (k,b')->l.d.ix=l'.d.ix
 facts:∀l,l∈late->LOk P N ops env own l
 disj:∀l,l∈late->l.d.ix∉rest.map DI.ix
 kd1:∀k,k∈ks->k∈ks0
 kd2:∀l,l∈late->∀k b,l.k.newk=some (k,b)->k∈ks0
 kd3:∀q,σ0 q=none->q∉ks0->σ q=none
 kd4:∀k,k∈own.map (·.1)->k∈Z
 kd5:∀k,k∈ks0->k∈Z
 u1:∀d d',d∈pre->d'∈pre->d.isEff=false->∀t,d.si.dst=some t->t∈d'.si.uses->d.ix∈anc d'.ix
 dd:∀d d',d∈pre->d'∈pre->d.ix≠d'.ix->∀t,d.si.dst=some t->d'.si.dst≠some t
structure Static (ops:Array Oper) (anc:Nat->List Nat):Prop where
 edge:∀i o,ops[i]?=some o->∀j,j∈edgesOf o->j<i
 anc:∀i o,ops[i]?=some o->∀e,e∈anc i->e∈edgesOf o\/∃j,j∈edgesOf o/\e∈anc j
theorem anc_listed {ops:Array Oper} {anc:Nat->List Nat} (st:Static ops anc) {listed:Array Bool} (hs:listed.size=ops.size)
 (closed:∀i o,ops[i]?=some o->listed.getD i true=true->∀j,j∈edgesOf o->listed.getD j false=true) :
 ∀i o,ops[i]?=some o->(∀j,j∈edgesOf o->listed.getD j false=true)->∀e,e∈anc i->listed.getD e false=true:=by
 intro i
 induction i using Nat.strongRecOn with
 | _ i ih =>
   intro o ho he e hm;rcases st.anc i o ho e hm with h | ⟨j,hj,hje⟩
   . exact he e h
   . have hlt:=st.edge i o ho j hj;have hi:i<ops.size:=(Array.getElem?_eq_some_iff.1 ho).1;have hjs:j<ops.size:=by omega
     have hl:=he j hj;have hl':listed.getD j true=true:=by
      rw[Array.getD_eq_getD_getElem?,Array.getElem?_eq_getElem (by omega)] at hl ⊢;simpa using hl
     exact ih j hlt ops[j] (by simp[hjs]) (closed j ops[j] (by simp[hjs]) hl') e hje
theorem getD_set {listed:Array Bool} {i j:Nat} {d:Bool} (h:i<listed.size):(listed.setIfInBounds i true).getD j d=if i=j then true else listed.getD j d:=by
 rw[Array.getD_eq_getD_getElem?,Array.getElem?_setIfInBounds];split
 . simp
 . rw[Array.getD_eq_getD_getElem?]
theorem ready_iff {ops:Array Oper} {listed:Array Bool} {i:Nat}:i∈Region.ready .any ops listed↔i<ops.size/\listed.getD i true=false/\∃o,ops[i]?=some o/\∀j,j∈edgesOf o->listed.getD j false=true:=by
 unfold Region.ready;simp only[List.mem_filter,List.mem_range,Bool.and_eq_true,Bool.not_eq_true'];constructor
 . rintro⟨h1,h2,h3⟩;refine⟨h1,h2,ops[i],by simp[h1],?_⟩;rw[Array.getElem?_eq_getElem h1] at h3;simp only[Option.map_some,Option.getD_some] at h3;intro j hj;simp only[edgesOf,List.mem_map,List.mem_filter] at hj;obtain⟨e,⟨he1,he2⟩,rfl⟩:=hj;rw[Array.all_eq_true_iff_forall_mem] at h3;have:=h3 e (by simpa using he1);rw[he2] at this;simpa using this
 . rintro⟨h1,h2,o,ho,h3⟩;refine⟨h1,h2,?_⟩;rw[ho];simp only[Option.map_some,Option.getD_some];rw[Array.all_eq_true_iff_forall_mem];intro e he;cases hb:Region.binds .any e with
   | false=>rfl
   | true =>
     have:=h3 e.on (by simp only[edgesOf,List.mem_map,List.mem_filter];exact⟨e,⟨by simpa using he,hb⟩,rfl⟩);rw[this];rfl
section
variable {P:Program} {N Bd:Nat} {ops:Array Oper} {anc:Nat->List Nat} {σ0:Sg} {ks0 Z:List Nat} {pre rest:List DI} {late:List LT} {env:Env} {own:Own} {ks:List Nat} {B:Own} {M:Nat->Prop} {w:World} {σ:Sg} {a:Act} {listed:Array Bool}
theorem Inv.used (st:Static ops anc) (h:Inv P N Bd ops anc σ0 ks0 Z pre rest late env own ks B M w σ a listed) {l:LT} (hl:l∈late) {o:Oper} (ho:ops[l.d.ix]?=some o) (hr:∀j,j∈edgesOf o->listed.getD j false=true) :
 ∀t,t∈l.d.si.uses->∀l',l'∈late->l'.d.si.dst≠some t:=by
 intro t ht l' hl' hd;have h1:=h.u1 l'.d l.d (h.sub l' hl').1 (h.sub l hl).1 (h.sub l' hl').2 t hd ht;have h2:=anc_listed st h.lsize h.closed _ o ho hr _ h1;have hlt:l'.d.ix<ops.size:=by
  obtain⟨o',ho',_⟩:=h.facts l' hl';exact(Array.getElem?_eq_some_iff.1 ho').1
 have h3:=(h.part _ hlt).2 (.inl (List.mem_map.2 ⟨l',hl',rfl⟩));have hs:=h.lsize;rw[Array.getD_eq_getD_getElem?,Array.getElem?_eq_getElem (by omega)] at h2 h3;simp at h2 h3;rw[h2] at h3;cases h3
theorem wanted_guard {a:Act} {o:Oper} {env:Env} {M:Nat->Prop} {w:World} {σ:Sg} {si:SI} {run:Bool} (hc:cSI P N ops o=some si) (hg:GuardOk env si.guard run)
 (hd:∀t,t∈si.uses->∀v,look env t=some v->Den M w σ v (a.tmps.getD t undef)):Region.wanted o (yielded ops a.tmps)=run:=by
 obtain⟨op,_,_,hgd⟩:=cSI_some hc;rcases hgd with ⟨h1,rfl⟩ | ⟨j,b,t,h1,h2,rfl⟩
 . simp only[GuardOk] at hg;subst hg;simp[Region.wanted,h1]
 . rcases hg with ⟨bb,h3,h4⟩ | ⟨h4,us,h3⟩
   . have hden:=hd t (by simp[SI.uses]) _ h3;have hb:a.tmps.getD t undef=.bool bb:=by
      generalize a.tmps.getD t undef=q at hden;cases hden;rfl
     rw[wanted_of h1 h2 hb,h4]
   . have hden:=hd t (by simp[SI.uses]) _ h3;have hb:a.tmps.getD t undef=.tuple us:=by
      generalize a.tmps.getD t undef=q at hden;cases hden;rfl
     rw[wanted_off h1 h2 hb,h4]
theorem erase_mem {late:List LT} {l x:LT}:x∈late.filter (fun y=>!Nat.beq y.d.ix l.d.ix)↔x∈late/\x.d.ix≠l.d.ix:=by
 simp only[List.mem_filter,Bool.not_eq_true'];constructor
 . rintro⟨h1,h2⟩;exact⟨h1,fun e=>by rw[e] at h2;simp at h2⟩
 . rintro⟨h1,h2⟩;refine⟨h1,?_⟩;rw[<- Bool.not_eq_true];exact fun h=>h2 (Nat.eq_of_beq_eq_true h)
theorem Inv.ran (h:Inv P N Bd ops anc σ0 ks0 Z pre rest late env own ks B M w σ a listed) {l:LT} (hl:l∈late) {o:Oper} (ho:ops[l.d.ix]?=some o) (hdst:o.dst=l.d.si.dst) (hr:∀j,j∈edgesOf o->listed.getD j false=true)
 (hN:∀t,l.d.si.dst=some t->t<N) {M':Nat->Prop} {w':World} {σ':Sg} {B':Own} {u:Value} (hv:Den M' w' σ' l.k.val u) (hh:HSim M' w' σ' B' ks) (tr:Tr M w σ B M' w' σ' B')
 (hB:∀k b,(k,b)∈B'↔((k,b)∈B\/l.k.newk=some (k,b))) (hσ:∀k,σ' k≠none->σ k≠none\/∃b,l.k.newk=some (k,b)) :
 Inv P N Bd ops anc σ0 ks0 Z pre rest (late.filter (fun y=>!Nat.beq y.d.ix l.d.ix)) env own ks B' M' w' σ' (a.put o.dst u) (listed.setIfInBounds l.d.ix true):=by
 have hE:=tr.ext h.heap.own;have hlt:l.d.ix<ops.size:=(Array.getElem?_eq_some_iff.1 ho).1;have hls:l.d.ix<listed.size:=by rw[h.lsize];exact hlt
 have same:∀x,x∈late->x.d.ix=l.d.ix->x=l:=by
  intro x hx e;have:=h.nd;obtain⟨i,hi⟩:=List.getElem?_of_mem hx;obtain⟨j,hj⟩:=List.getElem?_of_mem hl;have hij:i=j:=by
   have hi':=(List.getElem?_eq_some_iff.1 hi).1;have hj':=(List.getElem?_eq_some_iff.1 hj).1;refine(List.getElem_inj (xs:=late.map (·.d.ix)) (h₀:=by simpa using hi') (h₁:=by simpa using hj') this).1 ?_;simp only[List.getElem_map];rw[(List.getElem?_eq_some_iff.1 hi).2,(List.getElem?_eq_some_iff.1 hj).2];exact e
  subst hij;rw[hi] at hj;exact Option.some.inj hj
 refine⟨?_,?_,?_,?_,?_,?_,?_,?_,hh,?_,h.ownnd,?_,?_,?_,?_,h.kd1,?_,?_,h.kd4,h.kd5,h.u1,h.dd⟩
 . cases o.dst<;>simp[Act.put,h.size]
 . have hd:=h.defers.tr tr;cases o.dst<;>exact hd
 . simp[h.lsize]
 . intro x hx;exact h.sub x (erase_mem.1 hx).1
 . exact h.nd.sublist (List.Sublist.map _ (List.filter_sublist))
 . intro i hi;rw[getD_set hls];by_cases e:l.d.ix=i
   . subst e;rw[if_pos rfl];constructor
     . intro hh;cases hh
     . intro hh;exfalso;rcases hh with hh|hh
       . obtain⟨x,hx,e⟩:=List.mem_map.1 hh;exact(erase_mem.1 hx).2 e
       . exact h.disj l hl hh
   . rw[if_neg e,h.part i hi];constructor
     . rintro (hm|hm)
       . obtain⟨x,hx,e'⟩:=List.mem_map.1 hm;exact .inl (List.mem_map.2 ⟨x,erase_mem.2 ⟨hx,fun e''=>e (by rw[<- e'',e'])⟩,e'⟩)
       . exact .inr hm
     . rintro (hm|hm)
       . obtain⟨x,hx,e'⟩:=List.mem_map.1 hm;exact .inl (List.mem_map.2 ⟨x,(erase_mem.1 hx).1,e'⟩)
       . exact .inr hm
 . intro i o' ho' hi j hj;rw[getD_set hls] at hi ⊢;by_cases ej:l.d.ix=j
   . rw[if_pos ej]
   . rw[if_neg ej];by_cases e:l.d.ix=i
     . subst e;rw[ho] at ho';cases ho';exact hr j hj
     . rw[if_neg e] at hi;exact h.closed i o' ho' hi j hj
 . intro t v hv' hnl;by_cases e:l.d.si.dst=some t
   . obtain⟨o',ho',_,h3,_⟩:=h.facts l hl;have:=h3 t e;rw[this] at hv';cases hv';rw[hdst,e];have ht:t<a.tmps.size:=by rw[h.size];exact hN t e
     simpa[Act.put,Array.getD,ht] using hv
   . have hold:=h.envd t v hv' (fun x hx=>by
      by_cases ex:x.d.ix=l.d.ix
      . rw[same x hx ex];exact e
      . exact hnl x (erase_mem.2 ⟨hx,ex⟩))
     have he:(a.put o.dst u).tmps.getD t undef=a.tmps.getD t undef:=by
      rw[hdst];cases hd:l.d.si.dst with
      | none=>rfl
      | some t' =>
        have hne:t'≠t:=fun e'=>e (by rw[hd,e']);simp only[Act.put,Array.getD_eq_getD_getElem?,Array.getElem?_setIfInBounds,if_neg hne]
     rw[he];exact hold.mono hE tr.le
 . intro k b;rw[h.ownc,hB];constructor
   . rintro (hm | ⟨x,hx,hk⟩)
     . exact .inl (.inl hm)
     . by_cases ex:x.d.ix=l.d.ix
       . rw[same x hx ex] at hk;exact .inl (.inr hk)
       . exact .inr ⟨x,erase_mem.2 ⟨hx,ex⟩,hk⟩
   . rintro ((hm|hk) | ⟨x,hx,hk⟩)
     . exact .inl hm
     . exact .inr ⟨l,hl,hk⟩
     . exact .inr ⟨x,(erase_mem.1 hx).1,hk⟩
 . intro x hx k b hk;obtain⟨hx1,hx2⟩:=erase_mem.1 hx;obtain⟨q1,q2⟩:=h.unborn x hx1 k b hk;refine⟨?_,q2⟩;cases hs:σ' k with
   | none=>rfl
   | some y =>
     exfalso;rcases hσ k (by rw[hs];simp) with hn | ⟨b',hk'⟩
     . exact hn q1
     . exact hx2 (h.unb2 x l hx1 hl k b b' hk hk')
 . intro x x' hx hx' k b b' hk hk';exact h.unb2 x x' (erase_mem.1 hx).1 (erase_mem.1 hx').1 k b b' hk hk'
 . intro x hx;exact h.facts x (erase_mem.1 hx).1
 . intro x hx;exact h.disj x (erase_mem.1 hx).1
 . intro x hx;exact h.kd2 x (erase_mem.1 hx).1
 . intro q h1 h2;cases hs:σ' q with
   | none=>rfl
   | some y =>
     exfalso;rcases hσ q (by rw[hs];simp) with hn | ⟨b',hk'⟩
     . exact hn (h.kd3 q h1 h2)
     . exact h2 (h.kd2 l hl q b' hk')
end
section
variable {P:Program} {N Bd:Nat} {ops:Array Oper} {anc:Nat->List Nat} {σ0:Sg} {ks0 Z:List Nat} {pre rest:List DI} {late:List LT} {env:Env} {own:Own} {ks:List Nat} {B:Own} {M:Nat->Prop} {w:World} {σ:Sg} {a:Act} {listed:Array Bool}
theorem wpOp_run {r:Option Nat} {Q:Exit->Act->World->Prop} {K:Act->World->Prop} {i:Nat} {o:Oper} (ho:ops[i]?=some o) (hw:Region.wanted o (yielded ops a.tmps)=true) (h:o.wpIn (FR r) 0 P a w K Q):wpOpIn (FR r) 0 P ops Q i K a w:=by
 unfold wpOpIn;rw[ho];simp only[hw,if_true];exact h
theorem wpOp_skip {r:Option Nat} {Q:Exit->Act->World->Prop} {K:Act->World->Prop} {i:Nat} {o:Oper} (ho:ops[i]?=some o) (hw:Region.wanted o (yielded ops a.tmps)=false) (h:K (a.put o.dst undef) w):wpOpIn (FR r) 0 P ops Q i K a w:=by
 unfold wpOpIn;rw[ho];simp only[hw];exact⟨fun _ _=>trivial,h⟩
theorem Inv.late_step (ro:Option Nat) (st:Static ops anc) (h:Inv P N Bd ops anc σ0 ks0 Z pre rest late env own ks B M w σ a listed) {l:LT} (hl:l∈late) {o:Oper} (ho:ops[l.d.ix]?=some o) (hr:∀j,j∈edgesOf o->listed.getD j false=true)
 {Q:Exit->Act->World->Prop} {K:Act->World->Prop}
 (hK:∀B' M' w' σ' a',Inv P N Bd ops anc σ0 ks0 Z pre rest (late.filter (fun y=>!Nat.beq y.d.ix l.d.ix)) env own ks B' M' w' σ' a' (listed.setIfInBounds l.d.ix true)->Tr M w σ B M' w' σ' B'->K a' w') :
 wpOpIn (FR ro) 0 P ops Q l.d.ix K a w:=by
 obtain⟨o',ho',hc,hval,hk⟩:=h.facts l hl;rw[ho] at ho';cases ho';obtain⟨sop,hsop,hN,hgd⟩:=cSI_some hc;have hdst:o.dst=l.d.si.dst:=by rcases hgd with ⟨_,e⟩ | ⟨_,_,_,_,_,e⟩<;>rw[e]
 have hop:sop=l.d.si.op:=by rcases hgd with ⟨_,e⟩ | ⟨_,_,_,_,_,e⟩<;>rw[e]
 subst hop;have hN':∀t,l.d.si.dst=some t->t<N:=fun t ht=>hN t (by rw[hdst];exact ht);have hu:=h.used st hl ho hr;have hden:∀t,t∈l.d.si.uses->∀v,look env t=some v->Den M w σ v (a.tmps.getD t undef):=fun t ht v hv=>h.envd t v hv (hu t ht);have ok:∀x,x∈l.d.si.op.xs->XOk M w σ env a x:=fun x hx n e v hv=>hden n (by simp only[SI.uses,List.mem_append];exact .inl (tmpsOf_mem (e▸hx))) v hv;cases hlk:l.k with
 | pure v =>
   rw[hlk] at hk;obtain⟨g,pf⟩:=hk;refine wpOp_run ho (wanted_guard hc g hden) (wpIn_of_wp ro (cOp_nodefer hsop) (wp_pfact pf ok fun u hu'=>?_));refine hK B M w σ _ (h.ran hl ho hdst hr hN' (u:=u) (by rw[hlk];exact hu') h.heap (Tr.refl _ _ _ _) (fun k b=>by rw[hlk];simp[LK.newk]) (fun k hk=>.inl hk)) (Tr.refl _ _ _ _)
 | load t n z p v =>
   rw[hlk] at hk;obtain⟨g,e1,e2,e3,e4,lf,_⟩:=hk;have hp:Den M w σ p (a.tmps.getD n undef):=hden n (by simp only[SI.uses,List.mem_append,e1];exact .inl (by simp[SOp.xs,tmpsOf])) p e4;have hsome:∀k,p.readKey=some k->σ k≠none:=by
    intro k hk hn;generalize a.tmps.getD n undef=q at hp;cases hp<;>simp only[V.readKey,Option.some.injEq,reduceCtorEq] at hk<;>(subst hk;rename_i hh;rw[hn] at hh;cases hh)
   obtain⟨r,r1,r2⟩:=lf M w σ _ hp (fun k b hk hlook=>by
    rcases (h.ownc k b).1 (look_mem hlook) with hB | ⟨x,hx,hxk⟩
    . exact h.heap.own.blk k b hB
    . exact(hsome k hk (h.unborn x hx k b hxk).1).elim)
   have hrun:(execOp a.eval o).run P w=.ok (.value r) w:=by
    obtain⟨dst,op,type,pos,after,guard⟩:=o;simp only at e2;subst e2;exact run_v r1
   refine wpOp_run ho (wanted_guard hc g hden) (wpIn_of_wp ro (cOp_nodefer hsop) (wp_value hrun ?_));refine hK B M w σ _ (h.ran hl ho hdst hr hN' (u:=r) (by rw[hlk];exact r2) h.heap (Tr.refl _ _ _ _) (fun k b=>by rw[hlk];simp[LK.newk]) (fun k hk=>.inl hk)) (Tr.refl _ _ _ _)
 | new k b v =>
   rw[hlk] at hk;obtain⟨g,af,_,_⟩:=hk;obtain⟨hσk,hks⟩:=h.unborn l hl k b (by rw[hlk];rfl);have hh:HSim M w σ B (k::ks):=⟨h.heap.own,fun q hq=>by rcases List.mem_cons.1 hq with e|e;(subst e;exact hσk);exact h.heap.fresh q e,List.nodup_cons.2 ⟨hks,h.heap.knodup⟩⟩;obtain⟨u,w',M',σ',r1,r2,r3,r4,_,r5⟩:=af M w σ a B ks ok hh;refine wpOp_run ho (wanted_guard hc g hden) (wpIn_of_wp ro (cOp_nodefer hsop) (wp_value r1 ?_));refine hK _ M' w' σ' _ (h.ran hl ho hdst hr hN' (u:=u) (by rw[hlk];exact r4) r2 r3 (fun q c=>by rw[hlk];simp only[LK.newk,List.mem_cons,Option.some.injEq,Prod.mk.injEq];constructor;(rintro (x|x);exact .inr ⟨x.1.symm,x.2.symm⟩;exact .inl x);(rintro (x|x);exact .inr x;exact .inl ⟨x.1.symm,x.2.symm⟩)) (fun q hq=>?_)) r3
   . by_cases e:σ q=none
     . right;rw[hlk];by_cases eq:q=k
       . subst eq;exact⟨b,rfl⟩
       . exfalso;by_cases em:q∈ks
         . exact hq (r2.fresh q em)
         . exact hq (r5.2.1 q e (by simp[eq,em]))
     . exact .inl e
 | skip =>
   rw[hlk] at hk;refine wpOp_skip ho (wanted_guard hc hk hden) ?_;refine hK B M w σ _ (h.ran hl ho hdst hr hN' (u:=undef) (by rw[hlk];exact .raw _ _) h.heap (Tr.refl _ _ _ _) (fun k b=>by rw[hlk];simp[LK.newk]) (fun k hk=>.inl hk)) (Tr.refl _ _ _ _)
end
section
variable {P:Program} {N Bd:Nat} {ops:Array Oper} {anc:Nat->List Nat} {σ0:Sg} {ks0 Z:List Nat} {pre post:List DI} {late:List LT} {env:Env} {own:Own} {ks:List Nat} {B:Own} {M:Nat->Prop} {w:World} {σ:Sg} {a:Act} {listed:Array Bool}
theorem Inv.push {si:SI} {ix:Nat} (hc:Cond anc pre (.op ix si) post) (hix:ix∉post.map DI.ix) (h:Inv P N Bd ops anc σ0 ks0 Z pre (.op ix si::post) late env own ks B M w σ a listed) (lk:LK)
 (own':Own) (ks':List Nat) (hf:LOk P N ops (putE env si.dst lk.val) own' ⟨.op ix si,lk⟩)
 (hnew:(lk.newk=none/\own'=own/\ks'=ks)\/∃k b,lk.newk=some (k,b)/\ks=k::ks'/\own'=(k,b)::own) :
 Inv P N Bd ops anc σ0 ks0 Z (pre++[.op ix si]) post (⟨.op ix si,lk⟩::late) (putE env si.dst lk.val) own' ks' B M w σ a listed:=by
 have hnotin:∀k,k∈ks->∀b,(k,b)∉own:=fun k hk b hm=>by
  rcases (h.ownc k b).1 hm with hB | ⟨x,hx,hxk⟩
  . obtain⟨y,hy⟩:=h.heap.own.key hB;rw[h.heap.fresh k hk] at hy;cases hy
  . exact(h.unborn x hx k b hxk).2 hk
 have hlook:∀t,si.dst≠some t->look (putE env si.dst lk.val) t=look env t:=by
  intro t ht;unfold putE;split
  . rename_i t' e;exact look_cons_ne (fun e'=>ht (by rw[e,e']))
  . rfl
 refine⟨h.size,h.defers,h.lsize,?_,?_,?_,h.closed,?_,?_,?_,?_,?_,?_,?_,?_,?_,?_,h.kd3,?_,h.kd5,?_,?_⟩
 . intro l hl;rcases List.mem_cons.1 hl with e|hl
   . subst e;exact⟨by simp,rfl⟩
   . exact⟨List.mem_append_left _ (h.sub l hl).1,(h.sub l hl).2⟩
 . simp only[List.map_cons,List.nodup_cons];refine⟨fun hm=>?_,h.nd⟩;obtain⟨l,hl,e⟩:=List.mem_map.1 hm;exact h.disj l hl (by rw[e];simp[DI.ix])
 . intro i hi;rw[h.part i hi];simp only[List.map_cons,List.mem_cons,DI.ix];constructor
   . rintro (x|x|x)
     . exact .inl (.inr x)
     . exact .inl (.inl x)
     . exact .inr x
   . rintro ((x|x)|x)
     . exact .inr (.inl x)
     . exact .inl x
     . exact .inr (.inr x)
 . intro t v hv hnl;have hne:si.dst≠some t:=hnl ⟨.op ix si,lk⟩ (by simp);rw[hlook t hne] at hv;exact h.envd t v hv fun l hl=>hnl l (by simp[hl])
 . rcases hnew with ⟨_,_,e⟩ | ⟨k,b,_,e,_⟩
   . rw[e];exact h.heap
   . have hh:=h.heap;rw[e] at hh;exact⟨hh.own,fun q hq=>hh.fresh q (by simp[hq]),(List.nodup_cons.1 hh.knodup).2⟩
 . intro k b;rcases hnew with ⟨e1,e2,_⟩ | ⟨k',b',e1,_,e2⟩
   . rw[e2,h.ownc];constructor
     . rintro (x | ⟨l,hl,x⟩)
       . exact .inl x
       . exact .inr ⟨l,by simp[hl],x⟩
     . rintro (x | ⟨l,hl,x⟩)
       . exact .inl x
       . rcases List.mem_cons.1 hl with e|hl
         . subst e;rw[e1] at x;cases x
         . exact .inr ⟨l,hl,x⟩
   . rw[e2,List.mem_cons,h.ownc];constructor
     . rintro (x|x | ⟨l,hl,x⟩)
       . cases x;exact .inr ⟨⟨.op ix si,lk⟩,by simp,e1⟩
       . exact .inl x
       . exact .inr ⟨l,by simp[hl],x⟩
     . rintro (x | ⟨l,hl,x⟩)
       . exact .inr (.inl x)
       . rcases List.mem_cons.1 hl with e|hl
         . subst e;rw[e1] at x;cases x;exact .inl rfl
         . exact .inr (.inr ⟨l,hl,x⟩)
 . rcases hnew with ⟨_,e,_⟩ | ⟨k,b,_,e1,e2⟩
   . rw[e];exact h.ownnd
   . rw[e2];simp only[List.map_cons,List.nodup_cons];refine⟨fun hm=>?_,h.ownnd⟩;obtain⟨⟨q,c⟩,hq,e⟩:=List.mem_map.1 hm;simp only at e;subst e;exact hnotin q (by rw[e1];simp) c hq
 . intro l hl k b hk;have hsub:∀q,q∈ks'->q∈ks:=by
    rcases hnew with ⟨_,_,e⟩ | ⟨_,_,_,e,_⟩
    . rw[e];exact fun _ x=>x
    . rw[e];exact fun _ x=>List.mem_cons_of_mem _ x
   rcases List.mem_cons.1 hl with e|hl
   . subst e;rcases hnew with ⟨e1,_,_⟩ | ⟨k',b',e1,e2,_⟩
     . rw[e1] at hk;cases hk
     . rw[e1] at hk;cases hk;have hh:=h.heap;rw[e2] at hh;exact⟨hh.fresh k (by simp),(List.nodup_cons.1 hh.knodup).1⟩
   . obtain⟨q1,q2⟩:=h.unborn l hl k b hk;exact⟨q1,fun x=>q2 (hsub k x)⟩
 . intro l l' hl hl' k b b' hk hk';have cross:∀x,x∈late->∀c c',x.k.newk=some (k,c)->lk.newk=some (k,c')->False:=by
    intro x hx c c' hxk hlk;rcases hnew with ⟨e1,_,_⟩ | ⟨k',b',e1,e2,_⟩
    . rw[e1] at hlk;cases hlk
    . rw[e1] at hlk;cases hlk;exact(h.unborn x hx k c hxk).2 (by rw[e2];simp)
   rcases List.mem_cons.1 hl with e|hl
   . subst e;rcases List.mem_cons.1 hl' with e'|hl'
     . subst e';rfl
     . exact(cross l' hl' b' b hk' hk).elim
   . rcases List.mem_cons.1 hl' with e'|hl'
     . subst e';exact(cross l hl b b' hk hk').elim
     . exact h.unb2 l l' hl hl' k b b' hk hk'
 . intro l hl;rcases List.mem_cons.1 hl with e|hl
   . subst e;exact hf
   . refine(h.facts l hl).ext ?_ ?_ ?_
     . intro n hn;refine hlook n fun e=>?_;have:=(hc.reads n e l.d (h.sub l hl).1 hn).1;cases this
     . intro t ht;refine hlook t fun e=>?_;exact hc.dst t e l.d (h.sub l hl).1 ht
     . intro t n z p v _ _ _ lf;rcases hnew with ⟨_,e,_⟩ | ⟨k,b,_,e1,e2⟩
       . rw[e];exact lf
       . rw[e2];intro M1 w1 σ1 u hd hb;refine lf M1 w1 σ1 u hd fun q c hq hlk=>hb q c hq ?_;have hne:k≠q:=fun e=>by
          subst e;exact hnotin k (by rw[e1];simp) c (look_mem hlk)
         have hbq:Nat.beq k q=false:=by
          rw[<- Bool.not_eq_true];exact fun hh=>hne (Nat.eq_of_beq_eq_true hh)
         show(match Nat.beq k q with|true=>some b|false=>look own q)=_;rw[hbq];exact hlk
 . intro l hl;rcases List.mem_cons.1 hl with e|hl
   . subst e;exact hix
   . exact fun x=>h.disj l hl (by simp[x])
 . intro k hk;refine h.kd1 k ?_;rcases hnew with ⟨_,_,e⟩ | ⟨_,_,_,e,_⟩
   . rw[e] at hk;exact hk
   . rw[e];exact List.mem_cons_of_mem _ hk
 . intro l hl k b hk;rcases List.mem_cons.1 hl with e|hl
   . subst e;rcases hnew with ⟨e1,_,_⟩ | ⟨k',b',e1,e2,_⟩
     . rw[e1] at hk;cases hk
     . rw[e1] at hk;cases hk;exact h.kd1 k (by rw[e2];simp)
   . exact h.kd2 l hl k b hk
 . intro k hk;rcases hnew with ⟨_,e,_⟩ | ⟨k',b,_,e1,e2⟩
   . rw[e] at hk;exact h.kd4 k hk
   . rw[e2] at hk;simp only[List.map_cons,List.mem_cons] at hk;rcases hk with e|e
     . subst e;exact h.kd5 _ (h.kd1 _ (by rw[e1];simp))
     . exact h.kd4 k e
 . intro d d' hd hd' he t ht hu;rcases List.mem_append.1 hd with hd|hd
   . rcases List.mem_append.1 hd' with hd'|hd'
     . exact h.u1 d d' hd hd' he t ht hu
     . simp only[List.mem_singleton] at hd';subst hd';exact hc.uses d hd he t ht hu
   . simp only[List.mem_singleton] at hd;subst hd;rcases List.mem_append.1 hd' with hd'|hd'
     . have:=(hc.reads t ht d' hd' hu).1;cases this
     . simp only[List.mem_singleton] at hd';subst hd';exact(hc.self t ht rfl hu).elim
 . intro d d' hd hd' hne t ht ht';rcases List.mem_append.1 hd with hd|hd
   . rcases List.mem_append.1 hd' with hd'|hd'
     . exact h.dd d d' hd hd' hne t ht ht'
     . simp only[List.mem_singleton] at hd';subst hd';exact hc.dst t ht' d hd ht
   . simp only[List.mem_singleton] at hd;subst hd;rcases List.mem_append.1 hd' with hd'|hd'
     . exact hc.dst t ht d' hd' ht'
     . simp only[List.mem_singleton] at hd';subst hd';exact hne rfl
theorem guardK_sound {env:Env} {g:Option (Nat×Bool)} {A C:Prop} (h:guardK env g A C):(GuardOk env g true/\A)\/(GuardOk env g false/\C):=by
 unfold guardK at h;split at h
 . exact .inl ⟨rfl,h⟩
 . rename_i t want;split at h
   . rename_i b hb;split at h
     . rename_i hx;exact .inl ⟨.inl ⟨b,hb,by revert hx;cases b<;>cases want<;>decide⟩,h⟩
     . rename_i hx;exact .inr ⟨.inl ⟨b,hb,by revert hx;cases b<;>cases want<;>decide⟩,h⟩
   . rename_i us hb;exact .inr ⟨.inr ⟨rfl,us,hb⟩,h⟩
   . exact h.elim
theorem vdraw_next {P:Program} {post:List DI} {env:Env} {d:Option Nat} {v:V} {own:Own} {ks:List Nat} {K:Env->Own->List Nat->Prop}
 (h:match d with|some t=>vdraw P post ((t,v)::env) own ks K|none=>vdraw P post env own ks K):vdraw P post (putE env d v) own ks K:=by
 unfold putE;cases d<;>exact h
theorem Inv.absorb {si:SI} {ix:Nat} {o:Oper} (ho:ops[ix]?=some o) (hsi:cSI P N ops o=some si) (hc:Cond anc pre (.op ix si) post) (hix:ix∉post.map DI.ix)
 (h:Inv P N Bd ops anc σ0 ks0 Z pre (.op ix si::post) late env own ks B M w σ a listed) {K:Env->Own->List Nat->Prop} (hv:vdraw P (.op ix si::post) env own ks K) :
 ∃lk env' own' ks',Inv P N Bd ops anc σ0 ks0 Z (pre++[.op ix si]) post (⟨.op ix si,lk⟩::late) env' own' ks' B M w σ a listed/\vdraw P post env' own' ks' K:=by
 obtain⟨d,op,g⟩:=si;obtain⟨sop,hsop,hN,hgd⟩:=cSI_some hsi;have hdst:o.dst=d:=by rcases hgd with ⟨_,e⟩ | ⟨_,_,_,_,_,e⟩<;>(cases e;rfl)
 have hop:sop=op:=by rcases hgd with ⟨_,e⟩ | ⟨_,_,_,_,_,e⟩<;>(cases e;rfl)
 subst hop;obtain⟨c1,c2,c3⟩:=hc.op rfl;have hself:∀n,n∈SI.uses ⟨d,sop,g⟩->∀v,look (putE env d v) n=look env n:=by
  intro n hn v;unfold putE;split
  . rename_i t;refine look_cons_ne fun e=>?_;subst e;exact hc.self t rfl rfl hn
  . rfl
 have hx:∀n,n∈tmpsOf sop.xs->∀v,look (putE env d v) n=look env n:=fun n hn=>hself n (by simp[SI.uses,hn]);have hg:∀run v,GuardOk env g run->GuardOk (putE env d v) g run:=fun run v hh=>hh.ext fun t b e=>hself t (by simp[SI.uses,e]) v;have hval:∀v t,d=some t->look (putE env d v) t=some v:=by
  intro v t e;subst e;exact look_cons_eq
 rcases guardK_sound hv with ⟨gk,hv⟩ | ⟨gk,hv⟩
 . by_cases hn:sop.isNew=true
   . obtain⟨k,ks',b,v,rfl,hK,af,hvv⟩:=new_sound hsop hn hv;refine⟨_,_,_,_,h.push hc hix (.new k b v) ((k,b)::own) ks' ⟨o,ho,hsi,fun t ht=>hval v t ht,hg _ v gk,af.ext fun n hn=>hx n hn v,?_,hn⟩ (.inr ⟨k,b,rfl,rfl,rfl⟩),vdraw_next hK⟩;rcases hvv with e | ⟨_,_,e⟩|e<;>(rw[e];rfl)
   . by_cases hl:∃z x,sop=.load z x
     . obtain⟨z,x,rfl⟩:=hl;obtain⟨n,rfl⟩:=c3 z x rfl;obtain⟨t,x0,p,v,e1,e2,hK,hget,hp,lf,hnr⟩:=load_sound hsop hv;have hx0:x0=.tmp n/\look env n=some p:=by
        have hw:=cOp_was hsop;rw[e1] at hw;cases hw with
        | load _ _ _ _ _ hcx =>
          cases x0 with
          | tmp m =>
            simp only[cX,Option.some.injEq,X.t.injEq] at hcx;subst hcx;refine⟨rfl,?_⟩;simp only[X.get] at hget;split at hget
            . rename_i q hq;rw[hq,hget]
            . exact hget.elim
          | const c=>simp only[cX,Option.map_eq_some_iff] at hcx;obtain⟨_,_,hh⟩:=hcx;cases hh
          | global g=>cases hcx
          | func f=>simp[cX] at hcx
       obtain⟨rfl,hlk⟩:=hx0;refine⟨_,_,_,_,h.push hc hix (.load t n z p v) own ks ⟨o,ho,hsi,fun t ht=>hval v t ht,hg _ v gk,rfl,e1,e2,?_,lf,hnr⟩ (.inl ⟨rfl,rfl,rfl⟩),vdraw_next hK⟩;rw[hx n (by simp[SOp.xs,tmpsOf])];exact hlk
     . obtain⟨v,hK,pf⟩:=pure_sound hsop (by simpa using hn) c1 (fun z x e=>hl ⟨z,x,e⟩) hv;exact⟨_,_,_,_,h.push hc hix (.pure v) own ks ⟨o,ho,hsi,fun t ht=>hval v t ht,hg _ v gk,pf.ext fun n hn=>hx n hn v⟩ (.inl ⟨rfl,rfl,rfl⟩),vdraw_next hK⟩
 . exact⟨_,_,_,_,h.push hc hix .skip own ks ⟨o,ho,hsi,fun t ht=>hval _ t ht,hg _ _ gk⟩ (.inl ⟨rfl,rfl,rfl⟩),vdraw_next hv⟩
end
end Go.Eng
