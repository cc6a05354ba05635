import Derived.Test.YtefdkgkojlflaaaGreatDoorWXI
namespace Go.Proofs.YtefdkgkojlflaaaGreatDoor
open Go.Eng
set_option maxRecDepth 100000
set_option linter.unusedVariables false
def J4T (g:G) (v i:Nat):List Ed:=((List.range v).flatMap fun v=>(gR g.ports v).filterMap (J7M v))++((gR g.ports v).take i).filterMap (J7M v)
theorem J83 (g:G) (v:Nat):J4T g v (gR g.ports v).length=J4T g (v+1) 0:=by
 rw[J4T,J4T,List.take_length,List.range_succ,List.flatMap_append];simp
theorem Q25 (g:G):J4T g g.ids.length 0=J5L g:=by simp[J4T,J5L]
theorem Q0h (g:G):J4T g 0 0=[]:=by simp[J4T]
theorem J4S (g:G) (v:Nat) {i:Nat} (hi:i<(gR g.ports v).length):J4T g v (i+1)=J4T g v i++(J7M v (gF (gR g.ports v) i)).toList:=by
 rw[J4T,J4T,J1D _ i hi,List.filterMap_append,<- List.append_assoc];congr 1
theorem X0R {α β:Type} (f:α->List β):∀{l m:List α},l.Sublist m->(l.flatMap f).length<=(m.flatMap f).length:=fun h=>by
 induction h with
 | slnil=>simp
 | cons a _ ih=>simp only[List.flatMap_cons,List.length_append];omega
 | cons_cons a _ ih=>simp only[List.flatMap_cons,List.length_append];omega
theorem X3Q (g:G) {v i:Nat} (hv:v<g.ids.length):(J4T g v i).length<=(J5L g).length:=by
 have h1:(J4T g v i).length<=(J4T g (v+1) 0).length:=by
  rw[<- J83,J4T,J4T,List.take_length];simp only[List.length_append];have:=(List.Sublist.filterMap (J7M v) (List.take_sublist i (gR g.ports v))).length_le;omega
 have h2:(J4T g (v+1) 0).length<=(J5L g).length:=by
  simp only[J4T,J5L,List.take_zero,List.filterMap_nil,List.append_nil];exact X0R _ (List.range_sublist.2 (by omega))
 omega
theorem Q9l (L:List Ed) (e:Ed) (n i j:Nat) (hn:L.length=n) (f:Nat->Nat->V) (h0:f 0 0=.int .i64 e.a) (h1:f 0 1=.int .i64 e.b) (h2:f 0 2=.int .i64 e.w) (hi:i<n+1) (hj:j<3) :
 VLe (J4o (J0h 0 (eF L)) n (J0h 0 f) i j) (eF (L++[e]) i j):=by
 subst hn;apply VLe.of_eq;by_cases h:i<L.length
 . rw[J1E h,Q4y,Nat.zero_add];have:gE (L++[e]) i=gE L i:=by simp[gE,List.getD,List.getElem?_append_left h]
   rw[J4F _ j hj _ i this,J4F _ j hj _ i rfl]
 . rw[J1F h,Q4y,Nat.zero_add];have hil:i=L.length:=by omega
   subst hil;have:gE (L++[e]) L.length=e:=by simp[gE,List.getD]
   rw[J4F _ j hj _ _ this,Nat.sub_self];rcases (show j=0\/j=1\/j=2 by omega) with rfl|rfl|rfl
   . rw[h0];rfl
   . rw[h1];rfl
   . rw[h2];rfl
set_option maxHeartbeats 16000000 in
theorem Q3M (g:G) (hs:g.Small) (hg:g.valid=true) (h12:(J5L g).length<=19):Ret Tryz.prog 19 [g.v] (.fz (J0q g).length 3 false (eF (J0q g))):=by
 obtain⟨f1,f2,f3,f4,f5,f6,f7⟩:=J0a hg;refine J0f rfl ?_;refine J0b mixed Tryz.func19 rfl hc19 hr19 rfl ?_
 repeat' ((conv=>whnf);first|(refine J0b mixed Tryz.func45 rfl hc45 hr45 rfl ?_)|(refine J3a ?_)|(refine Chk.q ?_)|(refine J0b mixed Tryz.func63 rfl hc63 hr63 rfl ?_))
 all_goals (conv=>whnf)
 refine J0N mixed [0,8,9] [4] [5,6,7,8,9,10,11,12,13,14,15,16,17,18,19,20,21,22,23,24,25,26,27,28,29] [4,3,2,1,0] (fun v:Nat=>[(10,.int .i64 v)]) (fun own v=>clO ((4,.vec (J4T g v 0).length 3 (eF (J4T g v 0)))::J2i own 1 (.cells [.vec 4 3 0 (J4T g v 0).length]))) (fun m v=>m=g.ids.length-v/\v<=g.ids.length) g.ids.length 0 ⟨rfl,Nat.zero_le _⟩ rfl (fun _=>rfl) ?_ ?_
 . simp only[Q0h];refine J0e (fun _ _=>[(0,some 0),(1,some 1),(2,some 2),(3,some 3),(4,none)]) ?_ ?_ rfl
   . repeat' (first|exact J0c.yld rfl|exact tI|(refine⟨⟨_,rfl,?_⟩,?_⟩)|exact J0c.kf rfl)
   . repeat' (first|(refine J0c.fn ?_)|(refine⟨rfl,rfl,rfl,rfl,rfl,?_⟩)|exact tI|(refine⟨⟨_,rfl,?_⟩,?_⟩)|exact J0c.kf rfl|exact J0c.loc rfl|exact J0c.nil rfl rfl|(refine⟨⟨_,_,rfl⟩,?_⟩)|apply And.intro)
 rintro m v ⟨hm,hv⟩;by_cases hvn:v<g.ids.length
 . have hrl:=J2k hg v
   repeat' ((conv=>whnf);first|(refine Br.dec ?_ ?_<;>intro _<;>try omega)|(refine Ix.q ?_))
   all_goals (conv=>whnf)
   refine J0N mixed [0,3,8,9,10,15,16] [4] [5,6,7,8,9,10,11,12,13,14,15,16,17,18,19,20,21,22,23,24,25,26,27,28,29] [4,3,2,1,0] (fun i:Nat=>[(17,.int .i64 i)]) (fun own i=>clO (J2i (J2i own 4 (.vec (J4T g v i).length 3 (eF (J4T g v i)))) 1 (.cells [.vec 4 3 0 (J4T g v i).length]))) (fun m i=>m=(gR g.ports v).length-i/\i<=(gR g.ports v).length) (gR g.ports v).length 0 ⟨rfl,Nat.zero_le _⟩ rfl (fun _=>rfl) ?_ ?_
   . refine J0e (fun _ _=>[(0,some 0),(1,some 1),(2,some 2),(3,some 3),(4,some 4)]) ?_ ?_ rfl
     . repeat' (first|exact J0c.yld rfl|exact tI|(refine⟨⟨_,rfl,?_⟩,?_⟩)|exact J0c.kf rfl)
     . repeat' (first|(refine J0c.fn ?_)|(refine⟨rfl,rfl,rfl,rfl,rfl,?_⟩)|exact tI|(refine⟨⟨_,rfl,?_⟩,?_⟩)|exact J0c.kf rfl|exact J0c.loc rfl|exact J0c.q|(refine⟨Nat.le_refl _,rfl,fun i j hi hj=>?_⟩)|exact VLe.rfl|apply And.intro)
   rintro m i ⟨hm2,hi⟩;by_cases hin:i<(gR g.ports v).length
   . have hok:=(J0n.1 (f6 v (by omega))).1 _ (J02 hin);have hnx:=J4S g v hin;have hle:=X3Q g (v:=v) (i:=i) hvn;by_cases hlt:(v:Int)<(gF (gR g.ports v) i).1
     . have hre:J7M v (gF (gR g.ports v) i)=some ⟨v,(gF (gR g.ports v) i).1.toNat,(gF (gR g.ports v) i).2⟩:=if_pos hlt;rw[hre,Option.toList_some] at hnx
       repeat' ((conv=>whnf);first|(refine Br.tt ?_)|(refine Br.dec ?_ ?_<;>intro _<;>try omega)|(refine Br.nbeq ?_ ?_<;>intro _<;>try omega)|(refine Ar.q ?_)|(refine Ix.q ?_)|(refine Len.q ?_)|(refine J2w mixed rfl rfl ?_))
       all_goals (conv=>whnf)
       refine⟨(gR g.ports v).length-(i+1),i+1,by omega,⟨rfl,by omega⟩,?_⟩;simp only[hnx,List.length_append,List.length_singleton];refine J0e (fun _ own=>[(0,some 0),(1,some 1),(2,some 2),(3,some 3),(4,Q46 own 1 0)]) ?_ ?_ rfl
       . repeat' (first|exact J0c.yld rfl|exact tI|(refine⟨⟨_,rfl,?_⟩,?_⟩)|exact J0c.kf rfl)
       . repeat' (first|(refine J0c.fn ?_)|(refine⟨rfl,rfl,rfl,rfl,rfl,?_⟩)|(refine⟨Nat.le_refl _,rfl,fun i j hi hj=>?_⟩)|exact Q9l _ _ _ _ _ rfl _ rfl (by show V.int .i64 _=V.int .i64 _;rw[Int.toNat_of_nonneg (by omega)]) rfl hi hj|exact tI|(refine⟨⟨_,rfl,?_⟩,?_⟩)|exact J0c.kf rfl|exact J0c.loc rfl|exact J0c.q|apply And.intro)
     . have hre:J7M v (gF (gR g.ports v) i)=none:=if_neg hlt;rw[hre,Option.toList_none,List.append_nil] at hnx
       repeat' ((conv=>whnf);first|(refine Br.tt ?_)|(refine Br.dec ?_ ?_<;>intro _<;>try omega)|(refine Ar.q ?_)|(refine Ix.q ?_)|(refine J2w mixed rfl rfl ?_))
       all_goals (conv=>whnf)
       refine⟨(gR g.ports v).length-(i+1),i+1,by omega,⟨rfl,by omega⟩,?_⟩;simp only[hnx];refine J0e (fun _ _=>[(0,some 0),(1,some 1),(2,some 2),(3,some 3),(4,some 4)]) ?_ ?_ rfl
       . repeat' (first|exact J0c.yld rfl|exact tI|(refine⟨⟨_,rfl,?_⟩,?_⟩)|exact J0c.kf rfl)
       . repeat' (first|(refine J0c.fn ?_)|(refine⟨rfl,rfl,rfl,rfl,rfl,?_⟩)|exact tI|(refine⟨⟨_,rfl,?_⟩,?_⟩)|exact J0c.kf rfl|exact J0c.loc rfl|exact J0c.q|(refine⟨Nat.le_refl _,rfl,fun i j hi hj=>?_⟩)|exact VLe.rfl|apply And.intro)
   . repeat' ((conv=>whnf);first|(refine Br.dec ?_ ?_<;>intro _<;>try omega)|(refine Ar.q ?_))
     all_goals (conv=>whnf)
     refine⟨g.ids.length-(v+1),v+1,by omega,⟨rfl,by omega⟩,?_⟩;have e:i=(gR g.ports v).length:=by omega
     subst e;simp only[<- J83];refine J0e (fun _ _=>[(0,some 0),(1,some 1),(2,some 2),(3,some 3),(4,some 4)]) ?_ ?_ rfl
     . repeat' (first|exact J0c.yld rfl|exact tI|(refine⟨⟨_,rfl,?_⟩,?_⟩)|exact J0c.kf rfl)
     . repeat' (first|(refine J0c.fn ?_)|(refine⟨rfl,rfl,rfl,rfl,rfl,?_⟩)|exact tI|(refine⟨⟨_,rfl,?_⟩,?_⟩)|exact J0c.kf rfl|exact J0c.loc rfl|exact J0c.q|(refine⟨Nat.le_refl _,rfl,fun i j hi hj=>?_⟩)|exact VLe.rfl|apply And.intro)
 . have ev:v=g.ids.length:=by omega
   subst ev;simp only[Q25];have hso:=Q9I (J5L g) (by omega)
   repeat' ((conv=>whnf);first|(refine Br.dec ?_ ?_<;>intro _<;>try omega)|(refine Len.q ?_)|(refine J2b [(0,some 4)] [] (hso.mono ?_) ⟨J0c.vec rfl rfl rfl,J0c.fn True.intro,True.intro⟩ (by repeat' (first|exact tI|(refine⟨⟨_,rfl,?_⟩,?_⟩)|(refine⟨Nat.le_refl _,rfl,fun i j hi hj=>?_⟩)|exact VLe.rfl)) rfl;rintro _ _ _ ⟨L,⟨hp,hsl⟩,rfl,rfl⟩)|(refine Chk.mk rfl ?_))
   all_goals (conv=>whnf)
   have hE:=J94 hg hp hsl.pairwise;subst hE;exact VLe.fz hp.length_eq.symm (fun h=>h) (fun i j hi hj=>VLe.of_eq (by rw[Q4y,Nat.zero_add]))
def J13 (a:Nat) (l:Int×Int):Nat×Nat:=(min a l.1.toNat,max a l.1.toNat)
def reX (L:List (Nat×Nat)) (a:Nat) (l:Int×Int):Int×Int:=(l.1,if J13 a l∈L then ((L.idxOf (J13 a l):Nat):Int)+1 else l.2)
def reG (g:G) (L:List (Nat×Nat)):G:=⟨g.ids,(List.range g.ports.length).map fun a=>(gR g.ports a).map (reX L a)⟩
theorem J3t (g:G) (L:List (Nat×Nat)):(reG g L).ports.length=g.ports.length:=by simp[reG]
theorem J4R {g:G} {L:List (Nat×Nat)} {v:Nat} (hv:v<g.ports.length):gR (reG g L).ports v=(gR g.ports v).map (reX L v):=by simp[gR,reG,List.getD,hv]
theorem J6R {g:G} {L:List (Nat×Nat)} (v:Nat):(gR (reG g L).ports v).length=(gR g.ports v).length:=by
 by_cases hv:v<g.ports.length
 . rw[J4R hv,List.length_map]
 . have h1:gR g.ports v=[]:=by simp[gR,List.getD,List.getElem?_eq_none (Nat.le_of_not_lt hv)]
   have h2:gR (reG g L).ports v=[]:=by simp[gR,List.getD,List.getElem?_eq_none (show(reG g L).ports.length<=v by rw[J3t];exact Nat.le_of_not_lt hv)]
   rw[h1,h2]
theorem Q9Z {g:G} {L:List (Nat×Nat)} {v i:Nat} (hv:v<g.ports.length) (hi:i<(gR g.ports v).length):gF (gR (reG g L).ports v) i=reX L v (gF (gR g.ports v) i):=by
 rw[J4R hv];simp[gF,List.getD,hi]
theorem X59 (g:G) (hp:g.ports.length=g.ids.length):reG g []=g:=by
 obtain⟨I,p⟩:=g;simp only[reG];congr 1;refine List.ext_getElem (by simp) fun i h1 h2=>?_;simp only[List.getElem_map,List.getElem_range];have:gR p i=p[i]:=by simp[gR,List.getD,h2]
 rw[this];have e:reX [] i=id:=by funext l;simp[reX]
 rw[e,List.map_id]
theorem Q98 {a b:Nat} {x y:Int}:J13 a ((b:Int),x)=J13 b ((a:Int),y):=by simp only[J13,Int.toNat_natCast];rw[Nat.min_comm,Nat.max_comm]
theorem X3U {a b:Nat} (h:a<b) {x:Int}:J13 a ((b:Int),x)=(a,b):=by simp only[J13,Int.toNat_natCast];rw[Nat.min_eq_left (by omega),Nat.max_eq_right (by omega)]
theorem Q23 {g:G} (h:g.valid=true) {L:List (Nat×Nat)} (hL:L.length<=15):(reG g L).valid=true:=by
 obtain⟨f1,f2,f3,f4,f5,f6,f7⟩:=J0a h;have h2:=J3t g L;simp only[G.valid,Bool.and_eq_true,decide_eq_true_eq,J1q];refine⟨⟨f1,f2,h2.trans f3⟩,(J1v _).2 ⟨f4,f5⟩,J1M.2 fun v hv=>?_,J3K.2 fun v hv l hl=>?_⟩
 . rw[h2] at hv ⊢;have hr:=J0n.1 (f6 v hv);rw[J4R hv,J0n];refine⟨fun l hl=>?_,?_⟩
   . obtain⟨m,hm,rfl⟩:=List.mem_map.1 hl;have hok:=hr.1 m hm;simp only[reX];refine⟨hok.1,hok.2.1,hok.2.2.1,?_⟩;split
     . rename_i hmem;have:=List.idxOf_lt_length_of_mem hmem;omega
     . exact hok.2.2.2
   . rw[List.map_map];exact hr.2
 . rw[h2] at hv;rw[J4R hv] at hl;obtain⟨m,hm,rfl⟩:=List.mem_map.1 hl;have hok:=(J0n.1 (f6 v hv)).1 m hm;have hlt:m.1.toNat<g.ports.length:=by omega
   have hb:=f7 v hv m hm;show _∈gR (reG g L).ports m.1.toNat;rw[J4R hlt];refine List.mem_map.2 ⟨_,hb,?_⟩;obtain⟨m1,m2⟩:=m;have e:m1=((m1.toNat:Nat):Int):=by simp only at hok;omega
   simp only at hok hb ⊢;have ep:J13 m1.toNat ((v:Int),m2)=J13 v (m1,m2):=by rw[e];exact Q98
   simp only[reX,ep]
theorem Q6l {g:G} (hg:g.valid=true) {L:List (Nat×Nat)} (f:Nat):∀k v,v<g.ports.length->lay (reG g L).ports f k v=lay g.ports f k v
 | 0,v,_=>rfl
 | k+1,v,hv=>by
   obtain⟨f1,f2,f3,f4,f5,f6,f7⟩:=J0a hg;rw[lay,lay,Q6l hg f k v hv,J4R hv,List.any_map];have e:(gR g.ports v).any ((fun l=>decide (lay (reG g L).ports f k l.1.toNat=k)) ∘ reX L v)=(gR g.ports v).any fun l=>decide (lay g.ports f k l.1.toNat=k):=by
    rw[Bool.eq_iff_iff,List.any_eq_true,List.any_eq_true];refine exists_congr fun l=>and_congr_right fun hl=>?_;have hok:=(J0n.1 (f6 v hv)).1 l hl;show decide (lay (reG g L).ports f k l.1.toNat=k)=true↔_;rw[Q6l hg f k _ (by omega)]
   rw[e]
theorem X6a {g:G} (hg:g.valid=true) {L:List (Nat×Nat)} (f:Nat):dst (reG g L) f=dst g f:=by
 rw[dst,dst,J3t];refine List.map_congr_left fun v hv=>?_;exact Q6l hg f _ v (List.mem_range.1 hv)
theorem X3O {g:G} (h:g.conn=true) {L:List (Nat×Nat)} (hL:L.length<=15):(reG g L).conn=true:=by
 obtain⟨h1,h2⟩:=J0j h;have h3:=h;simp only[G.conn,Bool.and_eq_true] at h3 ⊢;exact⟨Q23 h1 hL,by rw[X6a h1];exact h3.2⟩
theorem X3M {g:G} (hg:g.valid=true) {L:List (Nat×Nat)} {v i:Nat} (hv:v<g.ports.length) (hi:i<(gR g.ports v).length) (hn:J13 v (gF (gR g.ports v) i)∉L) {a j:Nat} (ha:a<g.ports.length) (hj:j<(gR g.ports a).length) :
 gF (gR (reG g (L++[J13 v (gF (gR g.ports v) i)])).ports a) j=if J13 a (gF (gR g.ports a) j)=J13 v (gF (gR g.ports v) i) then ((gF (gR g.ports a) j).1,(L.length:Int)+1) else gF (gR (reG g L).ports a) j:=by
 rw[Q9Z ha hj,Q9Z ha hj];generalize J13 v (gF (gR g.ports v) i)=q at *;by_cases e:J13 a (gF (gR g.ports a) j)=q
 . rw[if_pos e,reX,e,if_pos (by simp)];rw[List.idxOf_append,if_neg hn];simp
 . rw[if_neg e,reX,reX];have e1:(J13 a (gF (gR g.ports a) j)∈L++[q])↔J13 a (gF (gR g.ports a) j)∈L:=by simp[e]
   by_cases hm:J13 a (gF (gR g.ports a) j)∈L
   . rw[if_pos (e1.2 hm),if_pos hm,List.idxOf_append,if_pos hm]
   . rw[if_neg (fun q=>hm (e1.1 q)),if_neg hm]
theorem X3V {g:G} (hg:g.valid=true) {v u a:Nat} {l m:Int×Int} (hv:v<g.ports.length) (ha:a<g.ports.length) (hl:l∈gR g.ports v) (hu:l.1=(u:Int)) (hm:m∈gR g.ports a) :
 J13 a m=J13 v l↔(a=v/\m.1=l.1)\/(a=u/\m.1=(v:Int)):=by
 obtain⟨f1,f2,f3,f4,f5,f6,f7⟩:=J0a hg;have h1:=(J0n.1 (f6 v hv)).1 l hl;have h2:=(J0n.1 (f6 a ha)).1 m hm;simp only[J13,Prod.mk.injEq,hu,Int.toNat_natCast];have hu':u≠v:=by omega
 constructor
 . rintro⟨e1,e2⟩;omega
 . rintro (⟨rfl,e⟩ | ⟨rfl,e⟩)
   . first|(rw[e,Int.toNat_natCast];exact⟨rfl,rfl⟩)|(rw[e,hu,Int.toNat_natCast];exact⟨rfl,rfl⟩)
   . rw[e,Int.toNat_natCast,Nat.min_comm,Nat.max_comm];exact⟨rfl,rfl⟩
def prL (g:G) (v i:Nat):List (Nat×Nat):=(J4T g v i).map fun e=>(e.a,e.b)
theorem J87 {g:G} (hg:g.valid=true) {v i:Nat} (hv:v<g.ports.length) (hi:i<(gR g.ports v).length) :
 prL g v (i+1)=if (v:Int)<(gF (gR g.ports v) i).1 then prL g v i++[J13 v (gF (gR g.ports v) i)] else prL g v i:=by
 obtain⟨f1,f2,f3,f4,f5,f6,f7⟩:=J0a hg;rw[prL,J4S g v hi,J7M];split
 . rename_i h;simp only[Option.toList,List.map_append,List.map_cons,List.map_nil,prL];congr 2;simp only[J13];rw[Nat.min_eq_left (by omega),Nat.max_eq_right (by omega)]
 . simp[prL]
theorem X3T {g:G} (hg:g.valid=true) {v i:Nat} (hv:v<g.ports.length) (hi:i<(gR g.ports v).length) (hlt:(v:Int)<(gF (gR g.ports v) i).1):J13 v (gF (gR g.ports v) i)∉prL g v i:=by
 intro hm;obtain⟨f1,f2,f3,f4,f5,f6,f7⟩:=J0a hg;have hnd:=J6S hg;have hpl:(J4T g v (i+1)).Sublist (J5L g):=by
  rw[J4T,J5L];have e:(List.range (v+1)).flatMap (fun v=>(gR g.ports v).filterMap (J7M v))=((List.range v).flatMap fun v=>(gR g.ports v).filterMap (J7M v))++(gR g.ports v).filterMap (J7M v):=by
   rw[List.range_succ,List.flatMap_append];simp
  have s1:(((List.range v).flatMap fun v=>(gR g.ports v).filterMap (J7M v))++((gR g.ports v).take (i+1)).filterMap (J7M v)).Sublist ((List.range (v+1)).flatMap fun v=>(gR g.ports v).filterMap (J7M v)):=by
   rw[e];exact(List.Sublist.refl _).append ((List.take_sublist _ _).filterMap _)
  refine s1.trans ?_;obtain⟨d,hd⟩:∃d,g.ids.length=(v+1)+d:=⟨g.ids.length-(v+1),by omega⟩;have er:List.range (v+1+d)=List.range (v+1)++(List.range d).map (v+1+·):=List.range_add;rw[hd,er,List.flatMap_append];exact List.sublist_append_left _ _
 have hn2:=hpl.nodup hnd;rw[J4S g v hi,J7M,if_pos hlt] at hn2;obtain⟨e,he,ee⟩:=List.mem_map.1 hm;have hem:e∈J5L g:=by
  have:e∈J4T g v (i+1):=by rw[J4S g v hi];exact List.mem_append_left _ he
  exact hpl.subset this
 have hle:=(J82 hg).1 hem;have hl:=J02 hi;have hok:=(J0n.1 (f6 v hv)).1 _ hl;simp only[J13,Prod.mk.injEq] at ee;have ea:e.a=v:=by omega
 have eb:e.b=(gF (gR g.ports v) i).1.toNat:=by omega
 have hn3:=(List.nodup_append.1 hn2).2.2 e he ⟨v,(gF (gR g.ports v) i).1.toNat,(gF (gR g.ports v) i).2⟩ (by simp[Option.toList]);apply hn3;have hw:e.w=(gF (gR g.ports v) i).2:=by
  obtain⟨lu,lv,hmem⟩:=hle.2;rw[ea,eb] at hmem;have e2:((((gF (gR g.ports v) i).1.toNat:Nat):Int))=(gF (gR g.ports v) i).1:=by omega
  rw[e2] at hmem;have:=J43 (J0n.1 (f6 v hv)).2 hmem hl rfl;rw[<- this]
 obtain⟨a,b,w⟩:=e;simp only at ea eb hw;rw[ea,eb,hw]
theorem X2g:∀{l m:List Int},l.Nodup->(∀a∈l,a∈m)->l.length<=m.length
 | [],m,_,_=>Nat.zero_le _
 | a::l,m,hn,hs=>by
   rw[List.nodup_cons] at hn;have ham:=hs a (by simp);have h1:=X2g (l:=l) (m:=m.erase a) hn.2 (fun b hb=>(List.mem_erase_of_ne (fun e=>hn.1 (by rw[<- e];exact hb))).2 (hs b (by simp[hb])));have h2:=List.length_erase_of_mem ham;have h3:=List.length_pos_of_mem ham;simp only[List.length_cons];omega
def J4C (l:List Int):Nat->Int->Int
 | 0,i=>i
 | f+1,i=>if i∈l then J4C l f ((i+1) % 256) else i
def J5F (i:Int) (k:Nat):Int:=(i+k) % 256
theorem J6y {i:Int} {k:Nat}:(J5F i k+1) % 256=J5F i (k+1):=by rw[J5F,J5F];omega
theorem Q0P {l:List Int} (hl:l.length<256) (i:Int):¬ ∀j,j<256->J5F i j∈l:=by
 intro h;have h1:((List.range 256).map (J5F i)).Nodup:=by
  rw[List.nodup_iff_pairwise_ne,List.pairwise_map];refine List.Pairwise.imp_of_mem ?_ List.nodup_range;intro a b ha hb hne e;rw[List.mem_range] at ha hb;rw[J5F,J5F] at e;omega
 have h2:=X2g h1 (fun a ha=>by
  obtain⟨j,hj,rfl⟩:=List.mem_map.1 ha;exact h j (List.mem_range.1 hj))
 simp at h2;omega
def J6c (x:List Int):Nat->List Int
 | 0=>[]
 | v+1=>J6c x v++[J4C (J6c x v) 256 (J0C (gI x v) 256)]
theorem J37 (x:List Int):∀v,(J6c x v).length=v
 | 0=>rfl
 | v+1=>by rw[J6c,List.length_append,J37 x v];rfl
theorem J0s (a:Int) {b:Int} (hb:1<=b):0<=J0C a b/\J0C a b<b:=by
 have h1:=Int.tmod_lt_of_pos a (show(0:Int)<b by omega);have h2:=Int.tmod_lt_of_pos (-a) (show(0:Int)<b by omega);rw[Int.neg_tmod] at h2;rw[J0C,if_neg (by omega)];split<;>omega
theorem Q0O {l:List Int} {i:Int} (h0:0<=i) (h1:i<=255):∀f k,k+f=256->(∀j,j<k->J5F i j∈l)->l.length<256->0<=J4C l f (J5F i k)/\J4C l f (J5F i k)<=255/\J4C l f (J5F i k)∉l
 | 0,k,hk,hall,hl=>(Q0P hl i (fun j hj=>hall j (by omega))).elim
 | f+1,k,hk,hall,hl=>by
   rw[J4C];split
   . rename_i hm;rw[J6y];exact Q0O h0 h1 f (k+1) (by omega) (fun j hj=>by
      by_cases e:j=k
      . subst e;exact hm
      . exact hall j (by omega)) hl
   . rename_i hm;refine⟨?_,?_,hm⟩<;>(rw[J5F];omega)
theorem Q2H {i:Int} (h0:0<=i) (h1:i<=255):J5F i 0=i:=by rw[J5F];omega
theorem Q7t (x:List Int):∀v,v<=255->(∀a∈J6c x v,0<=a/\a<=255)/\(J6c x v).Nodup
 | 0,_=>⟨fun a h=>(by simp[J6c] at h),by simp[J6c]⟩
 | v+1,hv=>by
   obtain⟨i1,i2⟩:=Q7t x v (by omega);have hw:=J0s (gI x v) (b:=256) (by omega);have hf:=Q0O (l:=J6c x v) (i:=J0C (gI x v) 256) hw.1 (by omega) 256 0 rfl (fun j hj=>by omega) (by rw[J37];omega);rw[Q2H hw.1 (by omega)] at hf;rw[J6c];refine⟨fun a ha=>?_,?_⟩
   . rcases List.mem_append.1 ha with h|h
     . exact i1 a h
     . have:a=J4C (J6c x v) 256 (J0C (gI x v) 256):=by simpa using h
       rw[this];exact⟨hf.1,hf.2.1⟩
   . rw[List.nodup_append];refine⟨i2,by simp,fun a ha b hb e=>?_⟩;have:b=J4C (J6c x v) 256 (J0C (gI x v) 256):=by simpa using hb
     rw[<- this,<- e] at hf;exact hf.2.2 ha
def ownN (x:Net) (n:Nat):Own:=[(0,.vec n 1 (vI (J6c x.ids n))),(1,.vec n 1 fun _ _=>.nilslice)]
def Net.n1 (x:Net):Int:=IntKind.i64.wrap (x.n-1)
def Net.size (x:Net) (most:Int):Nat:=(1+J0C x.n1 most).toNat
theorem J8r (l:List Int) (a:Int) (i:Nat):gI (l++[a]) i=if i<l.length then gI l i else if i=l.length then a else 0:=by
 by_cases h:i<l.length
 . simp only[gI,List.getD,List.getElem?_append_left h,if_pos h]
 . rw[if_neg h];by_cases h2:i=l.length
   . subst h2;simp[gI]
   . simp[gI,h2,List.getElem?_eq_none (by simp;omega:(l++[a]).length<=i)]
theorem J53 (l:List Int) (a:Int) (n:Nat) (hn:l.length=n) (i j:Nat) (hi:i<n+1) (hj:j<1) :
 VLe (J4o (J0h 0 (vI l)) n (J0h 0 (tab [[.int .i64 a]])) i j) (vI (l++[a]) i j):=by
 apply VLe.of_eq;subst hn;by_cases h:i<l.length
 . rw[J1E h];simp only[J0h,vI,J8r,if_pos h]
 . rw[J1F h];have:i=l.length:=by omega
   subst this;obtain rfl:j=0:=by omega
   simp[J0h,vI,J8r,tab]
set_option maxHeartbeats 8000000 in
theorem X0c (x:Net) (hx:x.Small) (most:Int) (h1:1<=most) (h2:most<=24) :
 J0K Tryz.prog 39 [x.v,.int .i64 most] [] KS fun v own' _=>v=gV1 (x.size most) (x.size most)/\own'=ownN x (x.size most):=by
 have hw:=J1G x.n1 most (by omega);have hwr:=J0s x.n1 h1;have hn:1+J0C x.n1 most=(x.size most:Nat):=by rw[Net.size];omega
 have hsz:1<=x.size most/\x.size most<=24:=by omega
 have hids:=hx.ids;generalize x.size most=n at *;refine J2H ?_;refine J0b mixed Tryz.func39 rfl hc39 hr39 rfl ?_
 repeat' ((conv=>whnf);first|(refine Ar.mk x.n1 rfl ?_)|(refine Ar.i64 (by omega) (by omega) ?_;rw[hn])|(refine Bd.q ?_)|(refine Len.q ?_)|(refine MkS.vec ?_)|(refine hw.go ?_))
 all_goals (conv=>whnf)
 refine J0N mixed [2,4,5,6] [4] [5,6,7,8,9,10,11,12,13,14,15,16,17,18,19,20,21,22,23,24,25,26,27,28,29] [4,3,2,1,0] (fun v:Nat=>[(7,.int .i64 v)]) (fun own v=>(4,.vec v 1 (vI (J6c x.ids v)))::J2i own 3 (.cells [.vec 4 1 0 v,.vec 2 1 0 n])) (fun m v=>m=n-v/\v<=n) n 0 ⟨rfl,by omega⟩ rfl (fun _=>rfl) ?_ ?_
 . exact J0l (fun _ _=>[(0,some 0),(1,some 1),(2,some 2),(3,some 3),(4,none)])
 rintro m v ⟨hm,hv⟩;have hat:=Q8H x.ids hids v;have hw2:=J1G (gI x.ids v) 256 (by omega);have hr2:=J0s (gI x.ids v) (b:=256) (by omega);have hil:=J37 x.ids v;have hsn:J6c x.ids (v+1)=J6c x.ids v++[J4C (J6c x.ids v) 256 (J0C (gI x.ids v) 256)]:=rfl;have htz:=Q2H hr2.1 (by omega);generalize J0C (gI x.ids v) 256=id0 at *;generalize hL:J6c x.ids v=L at *
 repeat' ((conv=>whnf);first|(refine Br.dec ?_ ?_<;>intro _<;>try omega)|(refine hat.go ?_)|(refine hw2.go ?_))
 all_goals (conv=>whnf)
 . refine J0V mixed [2,4,5,6,7] (fun p:Nat×Nat=>[(8,.int .i64 (J5F id0 p.1)),(9,.int .i64 p.2)]) (fun m p=>m=(256-p.1)*25+(v-p.2)/\p.1<=256/\p.2<=v/\(∀j,j<p.1->J5F id0 j∈L)/\(∀j,j<p.2->gI L j≠J5F id0 p.1)/\J4C L (256-p.1) (J5F id0 p.1)=J4C L 256 id0) _ (0,0) ⟨rfl,by omega,by omega,fun j hj=>(by omega),fun j hj=>(by omega),(by show J4C L 256 (J5F id0 0)=_;rw[htz])⟩ ?_ ?_
   . refine J0e (fun _ _=>[(0,some 0),(1,some 1),(2,some 2),(3,some 3),(4,some 4)]) ?_ ?_ rfl
     . repeat' (first|exact J0c.int htz.symm|exact tI|(refine⟨⟨_,rfl,?_⟩,?_⟩)|exact J0c.kf rfl|exact J0c.loc rfl)
     . repeat' (first|exact tI|(refine⟨⟨_,rfl,?_⟩,?_⟩)|exact J0c.kf rfl|exact J0c.q|(refine⟨Nat.le_refl _,rfl,fun i j hi hj=>?_⟩)|exact VLe.rfl|apply And.intro)
   rintro m ⟨k,u⟩ ⟨hm2,hk,hu,hall,hne,hfr⟩;simp only at hm2 hk hu hall hne hfr;have htr:0<=J5F id0 k/\J5F id0 k<=255:=by rw[J5F];omega
   have htn:(J5F id0 k+1).tmod 256=J5F id0 (k+1):=by rw[Int.tmod_eq_emod_of_nonneg (by omega),J6y]
   generalize hT:J5F id0 k=T at *
   repeat' ((conv=>whnf);first|(refine Br.dec ?_ ?_<;>intro _<;>try omega)|(refine Br.nbeq ?_ ?_<;>intro _<;>try omega)|(refine Ar.q ?_)|(refine Sv.mk _ rfl ?_)|(refine Nz.mk (by omega) ?_)|(refine Ix.q ?_)|(refine Len.q ?_)|(refine Ltn.q ?_))
   all_goals (conv=>whnf)
   . rename_i h3 h4;have hin:T∈L:=by rw[<- h4];exact J5U (by omega)
     have hk2:k<256:=by
      rcases Nat.lt_or_ge k 256 with h|h
      . exact h
      . exact(Q0P (l:=L) (by omega) id0 (fun j hj=>hall j (by omega))).elim
     refine⟨_,(k+1,0),?_,⟨rfl,by omega,by omega,fun j hj=>?_,fun j hj=>(by omega),?_⟩,?_⟩
     . simp only;omega
     . simp only at hj;by_cases e:j=k
       . subst e;rw[hT];exact hin
       . exact hall j (by omega)
     . simp only;rw[<- hfr,show 256-k=(256-(k+1))+1 by omega,J4C,if_pos hin,<- hT,J6y]
     . refine J0e (fun _ _=>[(0,some 0),(1,some 1),(2,some 2),(3,some 3),(4,some 4)]) ?_ ?_ rfl
       . repeat' (first|exact J0c.int htn|exact tI|(refine⟨⟨_,rfl,?_⟩,?_⟩)|exact J0c.kf rfl|exact J0c.loc rfl)
       . repeat' (first|exact tI|(refine⟨⟨_,rfl,?_⟩,?_⟩)|exact J0c.kf rfl|exact J0c.q|(refine⟨Nat.le_refl _,rfl,fun i j hi hj=>?_⟩)|exact VLe.rfl|apply And.intro)
   . rename_i h3 h4;refine⟨_,(k,u+1),?_,⟨rfl,hk,by omega,hall,fun j hj=>?_,by rw[hT];exact hfr⟩,?_⟩
     . simp only;omega
     . simp only at hj ⊢;rw[hT];by_cases e:j=u
       . subst e;simpa using h4
       . exact hne j (by omega)
     . refine J0e (fun _ _=>[(0,some 0),(1,some 1),(2,some 2),(3,some 3),(4,some 4)]) ?_ ?_ rfl
       . repeat' (first|exact J0c.int hT.symm|exact tI|(refine⟨⟨_,rfl,?_⟩,?_⟩)|exact J0c.kf rfl|exact J0c.loc rfl)
       . repeat' (first|exact tI|(refine⟨⟨_,rfl,?_⟩,?_⟩)|exact J0c.kf rfl|exact J0c.q|(refine⟨Nat.le_refl _,rfl,fun i j hi hj=>?_⟩)|exact VLe.rfl|apply And.intro)
   . have hno:T∉L:=fun h=>by
      obtain⟨j,j1,j2⟩:=X60 h;exact hne j (by omega) j2
     have hfin:J4C L 256 id0=T:=by
      rw[<- hfr];cases h:256-k with
      | zero=>rfl
      | succ f=>rw[J4C,if_neg hno]
     rw[hfin] at hsn
     repeat' ((conv=>whnf);first|fail)
     all_goals (conv=>whnf)
     all_goals
      refine⟨n-(v+1),v+1,by omega,⟨rfl,by omega⟩,?_⟩;simp only[hsn];refine J0e (fun env own=>[(0,some 0),(1,some 1),(2,some 2),(3,some 3),(4,Q46 own 3 0)]) ?_ ?_ rfl
      . repeat' (first|exact tI|(refine⟨⟨_,rfl,?_⟩,?_⟩)|exact J0c.kf rfl|exact J0c.loc rfl)
      . repeat' (first|(refine⟨Nat.le_refl _,rfl,fun i j hi hj=>?_⟩)|exact J53 _ _ _ hil _ _ hi hj|exact tI|(refine⟨⟨_,rfl,?_⟩,?_⟩)|exact J0c.kf rfl|exact J0c.q|exact VLe.rfl|apply And.intro)
 . have e:v=n:=by omega
   subst e;exact J4U (fun v o=>[(0,Q8S v 0),(1,Q8S v 1)]) _ _ ⟨rfl,rfl⟩ (J0c.agg ⟨J0c.vec rfl rfl rfl,J0c.vec rfl rfl rfl,True.intro⟩) ⟨⟨_,rfl,Nat.le_refl _,rfl,fun _ _ _ _=>VLe.of_eq (by rw[hL])⟩,⟨_,rfl,Nat.le_refl _,rfl,fun i j hi hj=>VLe.of_eq (by obtain rfl:j=0:=(by omega);rfl)⟩,True.intro⟩ rfl
theorem X6G {p:Ps} {r:List (Int×Int)} (h:r∈p):∃u,gR p u=r:=by
 obtain⟨i,hi,e⟩:=List.mem_iff_getElem.1 h;exact⟨i,by simp[gR,List.getD,hi,e]⟩
theorem J55 {g:G} (h1:g.ids.length<=1000) (h2:g.ports.length<=1000) (h3:∀u,(gR g.ports u).length<=1000):g.Small :=
 ⟨by omega,by omega,fun r hr=>by obtain⟨u,rfl⟩:=X6G hr;have:=h3 u;omega⟩
theorem J66 (bk:Bool) (p:Ps) (a b:Nat) (w:Int):(J3e bk p a b w).length=p.length:=by
 rw[J3e];split<;>simp
theorem Q0y (bk:Bool) (p:Ps) {a b:Nat} (w:Int) (ha:a<p.length) (hb:b<p.length) (u:Nat):(gR (J3e bk p a b w) u).length<=(gR p u).length+1:=by
 rw[J3e];split
 . omega
 . rename_i h;have hab:¬ a=b:=fun e=>h (.inl e);have hl:∀r l,(J9E bk r l).length=r.length+1:=fun r l=>by rw[J9E];split<;>simp
   rw[J2F _ b _ (by simpa using hb),J2F p a _ ha];split
   . rename_i e;subst e;rw[hl];omega
   . split
     . rename_i e;subst e;rw[hl];omega
     . omega
def wgt (x:Net) (i:Nat):Int:=1+J0C (gI x.weights i) 15
def J2p (x:Net) (n:Nat):Nat->Ps
 | 0=>List.replicate n []
 | k+1=>J3e x.back (J2p x n k) (J0C (gI x.links k) ((k:Int)+1)).toNat (k+1) (wgt x k)
theorem J1u (x:Net) (n:Nat):∀k,(J2p x n k).length=n
 | 0=>by simp[J2p]
 | k+1=>by rw[J2p,J66,J1u x n k]
theorem J8S (x:Net) (k:Nat):(J0C (gI x.links k) ((k:Int)+1)).toNat<k+1:=by
 have:=J0s (gI x.links k) (b:=(k:Int)+1) (by omega);omega
theorem J5i (n u:Nat):gR (List.replicate n []) u=[]:=by
 simp only[gR,List.getD,List.getElem?_replicate];split<;>rfl
theorem J6A (x:Net) (n:Nat):∀k,k<n->∀u,(gR (J2p x n k) u).length<=k
 | 0,_,u=>by rw[J2p,J5i];simp
 | k+1,hk,u=>by
   have h1:=J8S x k;have h2:=Q0y x.back (J2p x n k) (wgt x k) (a:=(J0C (gI x.links k) ((k:Int)+1)).toNat) (b:=k+1) (by rw[J1u];omega) (by rw[J1u];exact hk) u;have h3:=J6A x n k (by omega) u;rw[J2p];omega
abbrev Q6L (I:List Int) (p:Ps):Own:=X6Z ⟨I,p⟩
theorem X3b (ρ:Rn) (n:Nat):X21 ρ (.vec n 1 fun _ _=>.nilslice) (X2s (List.replicate n [])):=⟨by simp,rfl,rfl,fun i hi=>⟨rfl,by rw[J1g,J5i];rfl⟩⟩
theorem J3y (ρ:Rn) (p:Ps):X21 ρ (X2s p) (X2s p):=⟨rfl,rfl,True.intro,fun i hi=>rfl,fun i j t hi hn hj ht=>VLe.rfl⟩
set_option maxHeartbeats 8000000 in
theorem X3k (x:Net) (hx:x.Small) (most:Int) (h1:1<=most) (h2:most<=24) :
 J0K Tryz.prog 16 [x.v,.int .i64 most] [] KS fun v own' _=>v=gV1 (x.size most) (x.size most)/\own'=Q6L (J6c x.ids (x.size most)) (J2p x (x.size most) (x.size most-1)):=by
 have hn:=X0c x hx most h1 h2;have hsz:1<=x.size most/\x.size most<=24:=by
  have:=J0s x.n1 h1;rw[Net.size];omega
 have hll:=hx.links;have hwl:=hx.weights;generalize x.size most=n at *;have hil:=J37 x.ids n;refine J2H ?_;refine J0b mixed Tryz.func16 rfl hc16 hr16 rfl ?_
 repeat' ((conv=>whnf);first|(refine J2b [] [0,1] (hn.mono ?_) ⟨J0c.kf rfl,J0c.kf rfl,True.intro⟩ True.intro rfl;rintro _ _ _ ⟨rfl,rfl⟩)|(refine Chk.mk rfl ?_))
 all_goals (conv=>whnf)
 refine J0N mixed [2,4,5] [3] [5,6,7,8,9,10,11,12,13,14,15,16,17,18,19,20,21,22,23,24,25,26,27,28,29] [4,2,3,1,0] (fun k:Nat=>[(6,.int .i64 ((k:Int)+1))]) (fun own k=>J2i own 3 (X2s (J2p x n k))) (fun m k=>m=n-1-k/\k<=n-1) (n-1) 0 ⟨rfl,by omega⟩ rfl (fun _=>rfl) ?_ ?_
 . refine J0e (fun _ _=>[(0,some 0),(1,some 1),(2,some 2),(3,some 3),(4,some 4)]) ?_ ?_ rfl
   . repeat' (first|exact tI|(refine⟨⟨_,rfl,?_⟩,?_⟩)|exact J0c.kf rfl|exact J0c.loc rfl)
   . repeat' (first|exact X3b _ _|exact tI|(refine⟨⟨_,rfl,?_⟩,?_⟩)|exact J0c.kf rfl|exact J0c.q|(refine⟨Nat.le_refl _,rfl,fun i j hi hj=>?_⟩)|exact VLe.rfl|apply And.intro)
 rintro m k ⟨hm,hk⟩;have hln:=J1u x n k;by_cases hkn:k<n-1
 . have ha1:=Q8H x.links hll k;have ha2:=Q8H x.weights hwl k;have hw1:=J1G (gI x.links k) ((k:Int)+1) (by omega);have hw2:=J1G (gI x.weights k) 15 (by omega);have hr1:=J0s (gI x.links k) (b:=(k:Int)+1) (by omega);have hr2:=J0s (gI x.weights k) (b:=15) (by omega);have hrow:=J6A x n k (by omega);have hl:=Q64 x ⟨J6c x.ids n,J2p x n k⟩ (J55 (by show(J6c x.ids n).length<=_;omega) (by show(J2p x n k).length<=_;omega) (fun u=>by have:=hrow u;show(gR (J2p x n k) u).length<=_;omega)) (fun u=>by have:=hrow u;show(gR (J2p x n k) u).length<=_;omega) (J0C (gI x.links k) ((k:Int)+1)).toNat (k+1) (by show _<(J2p x n k).length;omega) (by show _<(J2p x n k).length;omega) (wgt x k);have hnx:J3e x.back (J2p x n k) (J0C (gI x.links k) ((k:Int)+1)).toNat (k+1) (wgt x k)=J2p x n (k+1):=rfl;have hwg:wgt x k=1+J0C (gI x.weights k) 15:=rfl;simp only[hnx,hil,hln] at hl;generalize J0C (gI x.links k) ((k:Int)+1)=a at *;generalize J0C (gI x.weights k) 15=w at *
   repeat' ((conv=>whnf);first|(refine Ar.i64 (by omega) (by omega) ?_;rw[show(k:Int)+1-1=(k:Int) by omega])|(refine Br.dec ?_ ?_<;>intro _<;>try omega)|(refine Ar.q ?_)|(refine ha1.go ?_)|(refine ha2.go ?_)|(refine hw1.go ?_)|(refine hw2.go ?_)|(refine And.intro rfl ?_)|(refine J2b [(0,some 2),(1,some 3)] [] (hl.mono ?_) ⟨J0c.kf rfl,J0c.agg ⟨J0c.vec rfl rfl rfl,J0c.vec rfl rfl rfl,True.intro⟩,J0c.int (by omega),J0c.int (by omega),J0c.int (by omega),True.intro⟩ ⟨⟨_,rfl,Nat.le_of_eq hil,rfl,fun _ _ _ _=>VLe.rfl⟩,⟨_,rfl,J3y _ _⟩,True.intro⟩ rfl;rintro _ _ _ ⟨rfl,rfl⟩)|(refine Chk.mk rfl ?_))
   all_goals (conv=>whnf)
   all_goals
    refine⟨n-1-(k+1),k+1,by omega,⟨rfl,by omega⟩,?_⟩;refine J0e (fun _ _=>[(0,some 0),(1,some 1),(2,some 2),(3,some 3),(4,some 4)]) ?_ ?_ rfl
    . repeat' (first|exact tI|(refine⟨⟨_,rfl,?_⟩,?_⟩)|exact J0c.kf rfl|exact J0c.loc rfl)
    . repeat' (first|exact J3y _ _|exact⟨Nat.le_of_eq hil.symm,rfl,fun _ _ _ _=>VLe.rfl⟩|exact tI|(refine⟨⟨_,rfl,?_⟩,?_⟩)|exact J0c.kf rfl|exact J0c.q|apply And.intro)
 . have e:k=n-1:=by omega
   subst e
   repeat' ((conv=>whnf);first|(refine Br.dec ?_ ?_<;>intro _<;>try omega))
   all_goals (conv=>whnf)
   exact J4U (fun v o=>[(0,Q8S v 0),(1,Q8S v 1)]) _ _ ⟨rfl,rfl⟩ (J0c.agg ⟨J0c.vec rfl rfl rfl,J0c.vec rfl rfl rfl,True.intro⟩) ⟨⟨_,rfl,Nat.le_of_eq hil,rfl,fun _ _ _ _=>VLe.rfl⟩,⟨_,rfl,J3y _ _⟩,True.intro⟩ rfl
def J2K (x:Net) (n:Nat) (p:Ps):Nat->Ps
 | 0=>p
 | k+1=>J3e x.back (J2K x n p k) (J0C (gI x.links (n+2*k)) n).toNat (J0C (gI x.links (n+2*k+1)) n).toNat (wgt x (n+2*k))
def J5p (x:Net) (n:Nat):Nat:=min ((x.links.length-n) / 2) ((61-n) / 2)
theorem J1W (x:Net) (n:Nat) (p:Ps):∀k,(J2K x n p k).length=p.length
 | 0=>rfl
 | k+1=>by rw[J2K,J66,J1W x n p k]
theorem J26 {a:Int} {n:Nat} (hn:1<=n):(J0C a n).toNat<n:=by
 have:=J0s a (b:=(n:Int)) (by omega);omega
theorem Q0r (x:Net) (n:Nat) (p:Ps) (hn:1<=n) (hp:p.length=n):∀k u,(gR (J2K x n p k) u).length<=(gR p u).length+k
 | 0,u=>by rw[J2K];omega
 | k+1,u=>by
   have h2:=Q0y x.back (J2K x n p k) (wgt x (n+2*k)) (a:=(J0C (gI x.links (n+2*k)) n).toNat) (b:=(J0C (gI x.links (n+2*k+1)) n).toNat) (by rw[J1W,hp];exact J26 hn) (by rw[J1W,hp];exact J26 hn) u;have h3:=Q0r x n p hn hp k u;rw[J2K];omega
set_option maxHeartbeats 8000000 in
theorem X31 (x:Net) (hx:x.Small) (I:List Int) (p:Ps) (n:Nat) (hn:1<=n) (hn2:n<=24) (hI:I.length=n) (hp:p.length=n) (hr:∀u,(gR p u).length<=100) :
 J0K Tryz.prog 15 [x.v,gV1 n n] (Q6L I p) KS4 fun v own' _=>v=gV1 n n/\own'=Q6L I (J2K x n p (J5p x n)):=by
 have hll:=hx.links;have hwl:=hx.weights;have hN:J5p x n<=31/\∀k,k<J5p x n↔(n+2*k+1<x.links.length/\n+2*k<60):=by
  rw[J5p];exact⟨by omega,fun k=>by omega⟩
 refine J2H ?_;refine J0b mixed Tryz.func15 rfl hc15 hr15 rfl ?_
 repeat' ((conv=>whnf);first|fail)
 all_goals (conv=>whnf)
 refine J0N mixed [2,3,4,5] [] [5,6,7,8,9,10,11,12,13,14,15,16,17,18,19,20,21,22,23,24,25,26,27,28,29] [4,3,2,0,1] (fun k:Nat=>[(6,.int .i64 ((n:Int)+2*k))]) (fun own k=>J2i own 1 (X2s (J2K x n p k))) (fun m k=>m=J5p x n-k/\k<=J5p x n) (J5p x n) 0 ⟨rfl,by omega⟩ rfl (fun _=>rfl) ?_ ?_
 . refine J0e (fun _ _=>[(0,some 0),(1,some 1),(2,some 2),(3,some 3),(4,some 4)]) ?_ ?_ rfl
   . repeat' (first|exact tI|(refine⟨⟨_,rfl,?_⟩,?_⟩)|exact J0c.kf rfl|exact J0c.loc rfl)
   . repeat' (first|exact J3y _ _|exact tI|(refine⟨⟨_,rfl,?_⟩,?_⟩)|exact J0c.kf rfl|exact J0c.q|(refine⟨Nat.le_refl _,rfl,fun i j hi hj=>?_⟩)|exact VLe.rfl|apply And.intro)
 rintro m k ⟨hm,hk⟩;have hln:=(J1W x n p k).trans hp;have hk2:=hN.2 k;by_cases hkn:k<J5p x n
 . obtain⟨c1,c2⟩:=hk2.1 hkn;have ha2:=Q8H x.weights hwl (n+2*k);have hw1:=J1G (gI x.links (n+2*k)) n (by omega);have hw3:=J1G (gI x.links (n+2*k+1)) n (by omega);have hw2:=J1G (gI x.weights (n+2*k)) 15 (by omega);have hr1:=J0s (gI x.links (n+2*k)) (b:=n) (by omega);have hr3:=J0s (gI x.links (n+2*k+1)) (b:=n) (by omega);have hr2:=J0s (gI x.weights (n+2*k)) (b:=15) (by omega);have hrow:∀u,(gR (J2K x n p k) u).length<=1000:=fun u=>by have:=Q0r x n p hn hp k u;have:=hr u;omega
   have hl:=Q64 x ⟨I,J2K x n p k⟩ (J55 (by show I.length<=_;omega) (by show(J2K x n p k).length<=_;omega) hrow) hrow (J0C (gI x.links (n+2*k)) n).toNat (J0C (gI x.links (n+2*k+1)) n).toNat (by show _<(J2K x n p k).length;omega) (by show _<(J2K x n p k).length;omega) (wgt x (n+2*k));have hnx:J3e x.back (J2K x n p k) (J0C (gI x.links (n+2*k)) n).toNat (J0C (gI x.links (n+2*k+1)) n).toNat (wgt x (n+2*k))=J2K x n p (k+1):=rfl;have hwg:wgt x (n+2*k)=1+J0C (gI x.weights (n+2*k)) 15:=rfl;simp only[hnx,hI,hln] at hl;have e2k:((n+2*k:Nat):Int)=(n:Int)+2*k:=by omega
   rw[e2k] at ha2
   repeat' ((conv=>whnf);first|(refine Ix.mk (n+2*k) (by omega) (by omega) ?_;try rw[Nat.zero_add])|(refine Ix.mk (n+2*k+1) (by omega) (by omega) ?_;try rw[Nat.zero_add])|(refine Br.dec ?_ ?_<;>intro _<;>try omega)|(refine Ar.q ?_)|(refine ha2.go ?_)|(refine hw1.go ?_)|(refine hw3.go ?_)|(refine hw2.go ?_)|(refine And.intro rfl ?_)|(refine J2b [(0,some 0),(1,some 1)] [] (hl.mono ?_) ⟨J0c.kf rfl,J0c.agg ⟨J0c.vec rfl rfl rfl,J0c.vec rfl rfl rfl,True.intro⟩,J0c.int (by omega),J0c.int (by omega),J0c.int (by omega),True.intro⟩ ⟨⟨_,rfl,Nat.le_of_eq (by first|rfl|exact hI|exact hI.symm),rfl,fun _ _ _ _=>VLe.rfl⟩,⟨_,rfl,J3y _ _⟩,True.intro⟩ rfl;rintro _ _ _ ⟨rfl,rfl⟩)|(refine Chk.mk rfl ?_))
   all_goals (conv=>whnf)
   all_goals
    refine⟨J5p x n-(k+1),k+1,by omega,⟨rfl,by omega⟩,?_⟩;refine J0e (fun _ _=>[(0,some 0),(1,some 1),(2,some 2),(3,some 3),(4,some 4)]) ?_ ?_ rfl
    . repeat' (first|exact tI|(refine⟨⟨_,rfl,?_⟩,?_⟩)|exact J0c.kf rfl|exact J0c.loc rfl)
    . repeat' (first|exact J3y _ _|exact⟨Nat.le_refl _,rfl,fun _ _ _ _=>VLe.rfl⟩|exact tI|(refine⟨⟨_,rfl,?_⟩,?_⟩)|exact J0c.kf rfl|exact J0c.q|apply And.intro)
 . have e:k=J5p x n:=by omega
   subst e;by_cases h1:n+2*J5p x n+1<x.links.length
   all_goals
    repeat' ((conv=>whnf);first|(refine Br.dec ?_ ?_<;>intro _<;>try omega)|(refine Ar.q ?_))
    all_goals (conv=>whnf)
    all_goals exact J4U (fun v o=>[(0,Q8S v 0),(1,Q8S v 1)]) _ _ ⟨rfl,rfl⟩ (J0c.agg ⟨J0c.vec rfl rfl rfl,J0c.vec rfl rfl rfl,True.intro⟩) ⟨⟨_,rfl,Nat.le_refl _,rfl,fun _ _ _ _=>VLe.rfl⟩,⟨_,rfl,J3y _ _⟩,True.intro⟩ rfl
theorem J8X (x:Net) {most:Int} (h1:1<=most):1<=x.size most/\(x.size most:Int)<=most:=by
 have:=J0s x.n1 h1;rw[Net.size];omega
def Net.con (x:Net) (most:Int):G:=⟨J6c x.ids (x.size most),J2K x (x.size most) (J2p x (x.size most) (x.size most-1)) (J5p x (x.size most))⟩
def Net.any (x:Net) (most:Int):G:=if x.apart then⟨J6c x.ids (x.size most),J2K x (x.size most) (List.replicate (x.size most) []) (J5p x (x.size most))⟩ else x.con most
theorem X5Q {g:G} {n:Nat} (h1:g.ids.length=n) (h2:g.ports.length=n):VLe (V.agg [.fz n 1 false (J0h 0 (vI g.ids)),.fz n 1 false fun i _=>.fz (J1g g.ports i) 2 false (J1p g.ports i)]) g.v:=by
 refine VLe.agg ⟨?_,?_,True.intro⟩
 . exact VLe.fz h1.symm (fun h=>h) (fun i j hi hj=>VLe.of_eq (by simp[J0h]))
 . exact VLe.fz h2.symm (fun h=>h) (fun i j hi hj=>VLe.rfl)
theorem X9M {g:G} {n:Nat} (h1:g.ids.length=n) (h2:g.ports.length=n):Q5m (X6Z g) (gV1 n n) fun v=>VLe v g.v :=
 ⟨by rw[Nat.zero_add,h1];exact Nat.le_refl _,Nat.le_of_eq h2.symm,X5Q h1 h2⟩
set_option maxHeartbeats 8000000 in
theorem J4p (x:Net) (hx:x.Small) (most:Int) (h1:1<=most) (h2:most<=24) :
 J0K Tryz.prog 5 [x.v,.int .i64 most] [] KS fun v own' _=>v=gV1 (x.size most) (x.size most)/\own'=X6Z (x.con most):=by
 have ht:=X3k x hx most h1 h2;have hsz:=J8X x h1;have hm:=X31 x hx (J6c x.ids (x.size most)) (J2p x (x.size most) (x.size most-1)) (x.size most) hsz.1 (by omega) (J37 _ _) (J1u _ _ _) (fun u=>by have:=J6A x (x.size most) (x.size most-1) (by omega) u;omega);refine J2H ?_;refine J0b mixed Tryz.func5 rfl hc5 hr5 rfl ?_
 repeat' ((conv=>whnf);first|(refine J2b [] [0,1] (ht.mono ?_) ⟨J0c.kf rfl,J0c.kf rfl,True.intro⟩ True.intro rfl;rintro _ _ _ ⟨rfl,rfl⟩)|(refine J2b [(0,some 2),(1,some 3)] [] (hm.mono ?_) ⟨J0c.kf rfl,J0c.agg ⟨J0c.vec rfl rfl rfl,J0c.vec rfl rfl rfl,True.intro⟩,True.intro⟩ ⟨⟨_,rfl,Nat.le_refl _,rfl,fun _ _ _ _=>VLe.rfl⟩,⟨_,rfl,J3y _ _⟩,True.intro⟩ rfl;rintro _ _ _ ⟨rfl,rfl⟩)|(refine Chk.mk rfl ?_)|(refine And.intro rfl ?_))
 all_goals (conv=>whnf)
 exact J4U (fun v o=>[(0,Q8S v 0),(1,Q8S v 1)]) _ _ ⟨rfl,rfl⟩ (J0c.agg ⟨J0c.vec rfl rfl rfl,J0c.vec rfl rfl rfl,True.intro⟩) ⟨⟨_,rfl,Nat.le_refl _,rfl,fun _ _ _ _=>VLe.rfl⟩,⟨_,rfl,J3y _ _⟩,True.intro⟩ rfl
theorem J5y (x:Net) (most:Int):(x.con most).ids.length=x.size most/\(x.con most).ports.length=x.size most:=⟨J37 _ _,(J1W _ _ _ _).trans (J1u _ _ _)⟩
theorem Q01 (x:Net) (hx:x.Small) (most:Int) (h1:1<=most) (h2:most<=24):Ret Tryz.prog 5 [x.v,.int .i64 most] (x.con most).v:=by
 refine J0f rfl ((J4p x hx most h1 h2).mono ?_);rintro _ _ _ ⟨rfl,rfl⟩;exact X9M (J5y x most).1 (J5y x most).2
theorem Q7B {r:Q83} (h:(r.map (·.1)).Nodup) {i j:Nat} (hi:i<r.length) (hj:j<r.length) (e:(gF r i).1=(gF r j).1):i=j:=by
 have h1:(r.map (·.1))[i]'(by simpa using hi)=(r.map (·.1))[j]'(by simpa using hj):=by simpa[gF,List.getD,hi,hj] using e
 have hp:=List.pairwise_iff_getElem.1 h;rcases Nat.lt_trichotomy i j with q|q|q
 . exact(hp i j (by simpa using hi) (by simpa using hj) q h1).elim
 . exact q
 . exact(hp j i (by simpa using hj) (by simpa using hi) q h1.symm).elim
def toV (g:G) (v i:Nat):Nat:=(gF (gR g.ports v) i).1.toNat
theorem J4O {g:G} (hg:g.valid=true) {v i:Nat} (hv:v<g.ports.length) (hi:i<(gR g.ports v).length):toV g v i<g.ports.length/\v≠toV g v i:=by
 obtain⟨f1,f2,f3,f4,f5,f6,f7⟩:=J0a hg;have hok:=(J0n.1 (f6 v hv)).1 _ (J02 hi);rw[toV];omega
theorem Q1A {g:G} (hg:g.valid=true) {v i:Nat} (hv:v<g.ports.length) (hi:i<(gR g.ports v).length):(gF (gR g.ports v) i).1=((toV g v i:Nat):Int):=by
 obtain⟨f1,f2,f3,f4,f5,f6,f7⟩:=J0a hg;have hok:=(J0n.1 (f6 v hv)).1 _ (J02 hi);rw[toV];omega
theorem Q9Y {g:G} {L:List (Nat×Nat)} {v i:Nat} (hv:v<g.ports.length) (hi:i<(gR g.ports v).length):(gF (gR (reG g L).ports v) i).1=(gF (gR g.ports v) i).1:=by rw[Q9Z hv hi,reX]
theorem Q6v {g:G} (hg:g.valid=true) {v i:Nat} (hv:v<g.ports.length) (hi:i<(gR g.ports v).length) (L:List (Nat×Nat)) :
 ∃jj:Nat,jj<(gR g.ports (toV g v i)).length/\J5k (gR (reG g L).ports (toV g v i)) (v:Int)=(jj:Int)/\(gF (gR g.ports (toV g v i)) jj).1=(v:Int):=by
 obtain⟨f1,f2,f3,f4,f5,f6,f7⟩:=J0a hg;have ht:=J4O hg hv hi;have hb:=f7 v hv _ (J02 hi);change _∈gR g.ports (toV g v i) at hb;rcases J4v (gR (reG g L).ports (toV g v i)) (v:Int) with ⟨_,h⟩ | ⟨j,h1,h2,h3⟩
 . exfalso;rw[J4R ht.1] at h;exact h _ (List.mem_map.2 ⟨_,hb,rfl⟩) rfl
 . rw[J6R] at h1;exact⟨j,h1,h2,by rw[<- Q9Y ht.1 h1];exact h3⟩
def X3t (P:Ps) (v i u jj:Nat) (k:Int):Nat->Nat->Nat->V:=J2j (J2j (J1p P) v (J1R (J1p P v) (0+i) (0+1) [.int .i64 k])) u (J1R (J1p P u) (0+jj) (0+1) [.int .i64 k])
theorem X4A (F:Nat->Nat->V) (i:Nat) (x:V) (j t:Nat) (ht:t<2):J1R F (0+i) (0+1) [x] j t=if j=i/\t=1 then x else F j t:=by
 rw[J1R,Nat.zero_add,Nat.zero_add];by_cases h:j=i/\t=1
 . rw[if_pos h,if_pos ⟨h.1,by omega,by simp;omega⟩,h.2];rfl
 . rw[if_neg h,if_neg (fun q=>h ⟨q.1,by have:=q.2;omega⟩)]
theorem Q24 {g:G} (hg:g.valid=true) {v i jj:Nat} (hv:v<g.ports.length) (hi:i<(gR g.ports v).length) (hlt:v<toV g v i) (hjj:jj<(gR g.ports (toV g v i)).length) (hb:(gF (gR g.ports (toV g v i)) jj).1=(v:Int))
 {k:Int} (hk:k=1+((prL g v i).length:Int)) (a j t:Nat) (ha:a<g.ports.length) (hj:j<J1g g.ports a) (ht:t<2):VLe (X3t (reG g (prL g v i)).ports v i (toV g v i) jj k a j t) (J1p (reG g (prL g v (i+1))).ports a j t):=by
 apply VLe.of_eq;obtain⟨f1,f2,f3,f4,f5,f6,f7⟩:=J0a hg;have htv:=J4O hg hv hi;have hti:=Q1A hg hv hi;have hnew:=X3T hg hv hi (by rw[hti];omega);have hnx:=J87 hg hv hi;rw[if_pos (by rw[hti];omega)] at hnx;have hpa:=X3V hg hv ha (J02 hi) hti (J02 hj);have hrn:=X3M hg hv hi hnew ha hj;rw[hnx];show _=vF (gR (reG g (prL g v i++[J13 v (gF (gR g.ports v) i)])).ports a) j t;generalize prL g v i=L at *;have hL:X3t (reG g L).ports v i (toV g v i) jj k a j t=if (a=v/\j=i)\/(a=toV g v i/\j=jj) then (if t=1 then .int .i64 k else vF (gR (reG g L).ports a) j t) else vF (gR (reG g L).ports a) j t:=by
  simp only[X3t,J2j];by_cases e1:a=toV g v i
  . rw[if_pos e1,X4A _ _ _ _ _ ht];by_cases e2:j=jj
    . have C:(a=v/\j=i)\/(a=toV g v i/\j=jj):=.inr ⟨e1,e2⟩;rw[if_pos C];by_cases e3:t=1
      . rw[if_pos ⟨e2,e3⟩,if_pos e3]
      . have D:¬ (j=jj/\t=1):=fun q=>e3 q.2;rw[if_neg D,if_neg e3,<- e1];rfl
    . have C:¬ ((a=v/\j=i)\/(a=toV g v i/\j=jj)):=fun q=>q.elim (fun q=>htv.2 (q.1.symm.trans e1)) (fun q=>e2 q.2);have D:¬ (j=jj/\t=1):=fun q=>e2 q.1;rw[if_neg C,if_neg D,<- e1];rfl
  . rw[if_neg e1];by_cases e4:a=v
    . rw[if_pos e4,X4A _ _ _ _ _ ht];by_cases e2:j=i
      . have C:(a=v/\j=i)\/(a=toV g v i/\j=jj):=.inl ⟨e4,e2⟩;rw[if_pos C];by_cases e3:t=1
        . rw[if_pos ⟨e2,e3⟩,if_pos e3]
        . have D:¬ (j=i/\t=1):=fun q=>e3 q.2;rw[if_neg D,if_neg e3,<- e4];rfl
      . have C:¬ ((a=v/\j=i)\/(a=toV g v i/\j=jj)):=fun q=>q.elim (fun q=>e2 q.2) (fun q=>e1 q.1);have D:¬ (j=i/\t=1):=fun q=>e2 q.1;rw[if_neg C,if_neg D,<- e4];rfl
    . have C:¬ ((a=v/\j=i)\/(a=toV g v i/\j=jj)):=fun q=>q.elim (fun q=>e4 q.1) (fun q=>e1 q.1);rw[if_neg e4,if_neg C];rfl
 rw[hL];have hiff:J13 a (gF (gR g.ports a) j)=J13 v (gF (gR g.ports v) i)↔(a=v/\j=i)\/(a=toV g v i/\j=jj):=by
  rw[hpa];constructor
  . rintro (⟨rfl,e⟩ | ⟨rfl,e⟩)
    . exact .inl ⟨rfl,Q7B (J0n.1 (f6 a ha)).2 hj hi e⟩
    . exact .inr ⟨rfl,Q7B (J0n.1 (f6 _ ha)).2 hj hjj (e.trans hb.symm)⟩
  . rintro (⟨rfl,rfl⟩ | ⟨rfl,rfl⟩)
    . exact .inl ⟨rfl,rfl⟩
    . exact .inr ⟨rfl,hb⟩
 rcases (show t=0\/t=1 by omega) with rfl|rfl
 . show _=V.int .i64 (gF _ j).1;rw[Q9Y ha hj];split
   . rw[if_neg (by omega)];show V.int .i64 (gF _ j).1=_;rw[Q9Y ha hj]
   . show V.int .i64 (gF _ j).1=_;rw[Q9Y ha hj]
 . show _=V.int .i64 (gF _ j).2;rw[hrn];by_cases e:(a=v/\j=i)\/(a=toV g v i/\j=jj)
   . rw[if_pos e,if_pos (hiff.2 e),if_pos rfl,hk];simp only;congr 1;omega
   . rw[if_neg e,if_neg (fun q=>e (hiff.1 q))];rfl
theorem Q0f {g:G} (hg:g.valid=true) {v i jj:Nat} (hv:v<g.ports.length) (hi:i<(gR g.ports v).length) (hlt:v<toV g v i) (hjj:jj<(gR g.ports (toV g v i)).length) (hb:(gF (gR g.ports (toV g v i)) jj).1=(v:Int))
 {k:Int} (hk:k=1+((prL g v i).length:Int)) (j t:Nat) (hj:j<J1g g.ports v) (ht:t<2):VLe (J1R (J1p (reG g (prL g v i)).ports v) (0+i) (0+1) [.int .i64 k] j t) (J1p (reG g (prL g v (i+1))).ports v j t):=by
 have h:=Q24 hg hv hi hlt hjj hb hk v j t hv hj ht;have e:X3t (reG g (prL g v i)).ports v i (toV g v i) jj k v j t=J1R (J1p (reG g (prL g v i)).ports v) (0+i) (0+1) [.int .i64 k] j t:=by
  rw[X3t,J2j,if_neg (by omega),J2j,if_pos rfl]
 rw[e] at h;exact h
theorem Q0g {g:G} (hg:g.valid=true) {v i jj:Nat} (hv:v<g.ports.length) (hi:i<(gR g.ports v).length) (hlt:v<toV g v i) (hjj:jj<(gR g.ports (toV g v i)).length) (hb:(gF (gR g.ports (toV g v i)) jj).1=(v:Int))
 {k:Int} (hk:k=1+((prL g v i).length:Int)) (a j t:Nat) (hav:a≠v) (ha:a<g.ports.length) (hj:j<J1g g.ports a) (ht:t<2):VLe (J2j (J1p (reG g (prL g v i)).ports) (toV g v i) (J1R (J1p (reG g (prL g v i)).ports (toV g v i)) (0+jj) (0+1) [.int .i64 k]) a j t) (J1p (reG g (prL g v (i+1))).ports a j t):=by
 have h:=Q24 hg hv hi hlt hjj hb hk a j t ha hj ht;have e:X3t (reG g (prL g v i)).ports v i (toV g v i) jj k a j t=J2j (J1p (reG g (prL g v i)).ports) (toV g v i) (J1R (J1p (reG g (prL g v i)).ports (toV g v i)) (0+jj) (0+1) [.int .i64 k]) a j t:=by
  simp only[X3t,J2j,if_neg hav]
 rw[e] at h;exact h
theorem skF1 (F:Nat->Nat->Nat->V) (u:Nat):J2j F u (F u)=F:=by
 funext a;simp only[J2j];split
 . rename_i h;rw[h]
 . rfl
theorem X6q {v q i:Nat} (h:Go.Eng.look [(v,q)] i=none):i≠v:=fun e=>by rw[e,J0m rfl] at h;cases h
theorem X11 {u v a b:Nat}:∀j,j≠u->Go.Eng.look [(v,b)] j=Go.Eng.look [(u,a),(v,b)] j:=fun j hj=>(J0k (fun q=>hj q.symm)).symm
theorem J6Y {u v b:Nat} (h:v≠u):Go.Eng.look [(v,b)] u=(none:Option Nat):=J0k h
theorem X3L {g:G} (hg:g.valid=true) {v i:Nat} (hv:v<g.ports.length) (hi:i<(gR g.ports v).length) (hlt:¬ v<toV g v i):prL g v (i+1)=prL g v i:=by
 rw[J87 hg hv hi,if_neg (by rw[Q1A hg hv hi];omega)]
def Q5i (g:G) (P:Ps) (v i:Nat) (k:Int):G:=⟨g.ids,P.set v ((gR P v).set i ((gF (gR P v) i).1,k))⟩
theorem X0n {g:G} {P:Ps} (hpi:g.ports.length=g.ids.length) (hp:P.length=g.ports.length) {v i u:Nat} (hv:v<g.ports.length) (hi:i<(gR P v).length) (hl:∀a,(gR P a).length=J1g g.ports a) {k:Int} (huv:u≠v) :
 VLe (V.agg [.fz g.ports.length 1 false (J0h 0 (vI g.ids)),.fz g.ports.length 1 false fun a _=>.fz (J1g g.ports a) 2 false (J2j (J2j (J1p P) v (J1R (J1p P v) (0+i) (0+1) [.int .i64 k])) u (J1p P u) a)]) (Q5i g P v i k).v:=by
 refine VLe.agg ⟨?_,?_,True.intro⟩
 . exact VLe.fz hpi (fun h=>h) (fun i j hi hj=>VLe.of_eq (by simp[J0h,Q5i]))
 . refine VLe.fz (by simp[Q5i,hp]) (fun h=>h) (fun a b ha hb=>?_);have hra:gR (Q5i g P v i k).ports a=if a=v then (gR P v).set i ((gF (gR P v) i).1,k) else gR P a:=J2F _ _ _ (by omega) _
   show VLe _ (.fz (gR (Q5i g P v i k).ports a).length 2 false (vF (gR (Q5i g P v i k).ports a)));rw[hra];by_cases e:a=v
   . subst e;rw[if_pos rfl];refine VLe.fz (by rw[List.length_set,hl]) (fun h=>h) (fun j t hj ht=>VLe.of_eq ?_);rw[J2j,if_neg (fun q=>huv q.symm),J2j,if_pos rfl,X4A _ _ _ _ _ ht];have hgj:gF ((gR P a).set i ((gF (gR P a) i).1,k)) j=if j=i then ((gF (gR P a) i).1,k) else gF (gR P a) j:=by
      simp only[gF,List.getD,List.getElem?_set];by_cases q:i=j
      . subst q;simp[hi]
      . rw[if_neg q,if_neg (fun e=>q e.symm)]
     rcases (show t=0\/t=1 by omega) with rfl|rfl
     . rw[if_neg (by omega)];show V.int .i64 (gF (gR P a) j).1=V.int .i64 (gF _ j).1;rw[hgj];split
       . rename_i q;rw[q]
       . rfl
     . show _=V.int .i64 (gF _ j).2;rw[hgj];by_cases q:j=i
       . rw[if_pos ⟨q,rfl⟩,if_pos q]
       . rw[if_neg (fun z=>q z.1),if_neg q];rfl
   . rw[if_neg e];refine VLe.fz (hl a).symm (fun h=>h) (fun j t hj ht=>VLe.of_eq ?_);rw[J2j];by_cases e2:a=u
     . rw[if_pos e2,<- e2];rfl
     . rw[if_neg e2,J2j,if_neg e];rfl
theorem Q6S {g:G} (hg:g.valid=true) (L:List (Nat×Nat)) (v i:Nat) (k:Int) (hv:v<g.ports.length):(Q5i g (reG g L).ports v i k).Small:=by
 obtain⟨f1,f2,f3,f4,f5,f6,f7⟩:=J0a hg;refine J55 (by show g.ids.length<=_;omega) (by simp[Q5i,J3t];omega) (fun a=>?_);have hra:gR (Q5i g (reG g L).ports v i k).ports a=if a=v then (gR (reG g L).ports v).set i ((gF (gR (reG g L).ports v) i).1,k) else gR (reG g L).ports a:=J2F _ _ _ (by rw[J3t];exact hv) _
 rw[hra];split
 . rw[List.length_set,J6R];have:=J2k hg v;omega
 . rw[J6R];have:=J2k hg a;omega
theorem X33 {g:G} {P:Ps} {v i u:Nat} {k:Int} (hv:v<P.length) (h:u≠v):gR (Q5i g P v i k).ports u=gR P u:=by
 show gR (P.set v _) u=_;rw[J2F _ _ _ hv,if_neg h]
def X7I (g:G):Prop:=∀e f:Ed,e∈J0q g->f∈J0q g->e.w=f.w->e=f
def Rep (n:Nat) (p:Nat->Int):Prop:=∀v,v<n->∃r:Nat,r<n/\p v=(r:Int)/\p r=(r:Int)
theorem Rep.start (n:Nat):Rep n (fun v=>(v:Int)):=fun v hv=>⟨v,hv,rfl,rfl⟩
theorem Rep.join {n:Nat} {p:Nat->Int} (h:Rep n p) {a b:Nat} (ha:a<n) (hb:b<n):Rep n (joP p a b):=by
 intro v hv;obtain⟨r,hr,e1,e2⟩:=h v hv;obtain⟨s,hs,a1,a2⟩:=h a ha;obtain⟨t,ht,b1,b2⟩:=h b hb;rw[joP];by_cases q:p v=max (p a) (p b)
 . rw[if_pos q];rcases (show min (p a) (p b)=p a\/min (p a) (p b)=p b by omega) with e|e
   . refine⟨s,hs,by rw[e,a1],?_⟩;rw[joP,a2];split<;>omega
   . refine⟨t,ht,by rw[e,b1],?_⟩;rw[joP,b2];split<;>omega
 . rw[if_neg q];refine⟨r,hr,e1,?_⟩;rw[joP,e2,if_neg (by omega)]
def X0U (n:Nat) (p:Nat->Int):Nat:=J3l (fun v=>decide (p v=(v:Int))) n
theorem Q7I (n:Nat):X0U n (fun v=>(v:Int))=n:=by
 have:∀k,J3l (fun v=>decide ((v:Int)=(v:Int))) k=k:=fun k=>by
  induction k with
  | zero=>rfl
  | succ k ih=>rw[J3l,ih];simp
 exact this n
theorem Q3F {x y:Nat->Bool} {r:Nat} (hr:x r=true) (hy:∀v,y v=(x v&&!decide (v=r))):∀n,r<n->J3l x n=J3l y n+1
 | 0,h=>by omega
 | n+1,h=>by
   rw[J3l,J3l];by_cases e:r=n
   . subst e;have:J3l x r=J3l y r:=J6k fun v hv=>by rw[hy,decide_eq_false (by omega:¬ v=r),Bool.not_false,Bool.and_true]
     rw[this,hr,hy,hr];simp
   . have:=Q3F hr hy n (by omega);rw[this,hy n,decide_eq_false (fun q=>e q.symm),Bool.not_false,Bool.and_true];omega
theorem X0T {n:Nat} {p:Nat->Int} (h:Rep n p) {a b:Nat} (ha:a<n) (hb:b<n):X0U n p=X0U n (joP p a b)+if p a=p b then 0 else 1:=by
 obtain⟨s,hs,a1,a2⟩:=h a ha;obtain⟨t,ht,b1,b2⟩:=h b hb;by_cases q:p a=p b
 . rw[if_pos q];have:joP p a b=p:=by
    funext v;rw[joP];split<;>omega
   rw[this];rfl
 . rw[if_neg q];have key:∀r:Nat,r<n->p r=(r:Int)->(r:Int)=max (p a) (p b)->X0U n p=X0U n (joP p a b)+1:=fun r hr e1 e2=>by
    refine Q3F (r:=r) (decide_eq_true e1) (fun v=>?_) n hr;rw[Bool.eq_iff_iff,Bool.and_eq_true,Bool.not_eq_true',decide_eq_true_eq,decide_eq_true_eq,decide_eq_false_iff_not,joP];by_cases z:p v=max (p a) (p b)
    . rw[if_pos z];constructor
      . intro e;exfalso;rcases (show min (p a) (p b)=p a\/min (p a) (p b)=p b by omega) with y|y
        . have:v=s:=by omega
          subst this;omega
        . have:v=t:=by omega
          subst this;omega
      . rintro⟨e,f⟩;omega
    . rw[if_neg z];refine⟨fun e=>⟨e,fun f=>?_⟩,fun e=>e.1⟩;subst f;omega
   rcases (show max (p a) (p b)=p a\/max (p a) (p b)=p b by omega) with e|e
   . exact key s hs a2 (by omega)
   . exact key t ht b2 (by omega)
theorem X4F {n:Nat} {p:Nat->Int} (h:Rep n p) (h0:0<n) (hc:∀u v,u<n->v<n->p u=p v):X0U n p=1:=by
 obtain⟨r,hr,e1,e2⟩:=h 0 h0;have h1:∀v,v<n->p v=(r:Int):=fun v hv=>by rw[hc v r hv hr,e2]
 have key:∀k,k<=n->J3l (fun v=>decide (p v=(v:Int))) k=if r<k then 1 else 0:=fun k=>by
  induction k with
  | zero=>intro _;rfl
  | succ k ih =>
    intro hk;rw[J3l,ih (by omega),h1 k (by omega)];by_cases e:r=k
    . subst e;simp
    . have ed:decide ((r:Int)=(k:Int))=false:=decide_eq_false (fun z=>e (by omega));rw[ed];by_cases q:r<k
      . rw[if_pos q,if_pos (show r<k+1 by omega)];rfl
      . rw[if_neg q,if_neg (show ¬ r<k+1 by omega)];rfl
 rw[X0U,key n (Nat.le_refl _),if_pos hr]
theorem Q15 {B:List Ed} {p:Ed->Bool} {i:Nat} (hi:i<B.length):(B.take (i+1)).countP p=(B.take i).countP p+if p (gE B i) then 1 else 0:=by
 rw[J6E hi,List.countP_append];congr 1;generalize gE B i=e;cases h:p e<;>simp[h]
theorem Q7V {g:G} (hg:g.valid=true) (hd:X7I g) {B:List Ed} (hB:ByW g B):∀i,i<=B.length->∃p,Cls g B i p/\Rep g.ids.length p/\(B.take i).countP (chE g)+X0U g.ids.length p=g.ids.length
 | 0,_=>⟨_,Cls.start B,Rep.start _,by rw[Q7I];simp⟩
 | i+1,hi=>by
   obtain⟨p,hc,hr,he⟩:=Q7V hg hd hB i (by omega);have hil:i<B.length:=by omega
   have hed:=(hB.edge hg hil).2;have hch:=hc.ch hg hB (Nat.le_refl _) hil rfl;have hj:Jng g B i (i+1) i p:=⟨⟨Nat.le_refl _,by omega,hi⟩,hc.pt⟩;have hj2:=hj.step hg hB (by omega);have hne:∀j,j<B.length->j≠i->(gE B j).w≠(gE B i).w:=fun j hjl hji q=>by
    have m1:gE B j∈J0q g:=by rw[<- hB.perm.mem_iff,<- J3x hjl];exact List.getElem_mem hjl
    have m2:gE B i∈J0q g:=by rw[<- hB.perm.mem_iff,<- J3x hil];exact List.getElem_mem hil
    have e:=hd _ _ m1 m2 q;have hn:=List.nodup_iff_pairwise_ne.1 (hB.nodup hg);rcases Nat.lt_or_gt_of_ne hji with l|l
    . have:=List.pairwise_iff_getElem.1 hn j i hjl hil l;rw[J3x hjl,J3x hil] at this;exact this e
    . have:=List.pairwise_iff_getElem.1 hn i j hil hjl l;rw[J3x hjl,J3x hil] at this;exact this e.symm
   refine⟨joP p (gE B i).a (gE B i).b,hj2.next hB (by omega) (fun j h1 h2=>by rw[show j=i by omega]) (fun h=>hne _ h (by omega)),hr.join hed.lu hed.lv,?_⟩;have hf:=X0T hr hed.lu hed.lv;rw[Q15 hil,<- hch];by_cases q:p (gE B i).a=p (gE B i).b
   . rw[if_pos q] at hf;have e0:(if (!decide (p (gE B i).a=p (gE B i).b))=true then 1 else 0:Nat)=0:=by rw[decide_eq_true q];rfl
     rw[e0];omega
   . rw[if_neg q] at hf;have e0:(if (!decide (p (gE B i).a=p (gE B i).b))=true then 1 else 0:Nat)=1:=by rw[decide_eq_false q];rfl
     rw[e0];omega
theorem Q41 (g:G):∃B,ByW g B:=by
 have hw:∀(L:List Ed),∃B:List Ed,B.Perm L/\B.Pairwise fun e f=>e.w<=f.w:=fun L=>by
  induction L with
  | nil=>exact⟨[],.refl _,.nil⟩
  | cons x L ih =>
    obtain⟨B,h1,h2⟩:=ih;refine⟨B.filter (fun e=>decide (e.w<x.w))++x::B.filter (fun e=>!decide (e.w<x.w)),?_,?_⟩
    . have h3:(B.filter (fun e=>decide (e.w<x.w))++x::B.filter (fun e=>!decide (e.w<x.w))).Perm (x::(B.filter (fun e=>decide (e.w<x.w))++B.filter (fun e=>!decide (e.w<x.w)))):=List.perm_middle;refine h3.trans (List.Perm.cons _ ?_);exact(List.filter_append_perm _ B).trans h1
    . rw[List.pairwise_append];refine⟨h2.filter _,?_,fun e he f hf=>?_⟩
      . rw[List.pairwise_cons];refine⟨fun f hf=>?_,h2.filter _⟩;have:=(List.mem_filter.1 hf).2;simp at this;exact this
      . have h4:=(List.mem_filter.1 he).2;simp at h4;rcases List.mem_cons.1 hf with rfl|hf
        . omega
        . have h5:=(List.mem_filter.1 hf).2;simp at h5;omega
 obtain⟨B,h1,h2⟩:=hw (J0q g);refine⟨B,h1,fun i j hij hj=>?_⟩;have:=List.pairwise_iff_getElem.1 h2 i j (by omega) hj hij;rw[J3x (by omega),J3x hj] at this;simp only[ltW];omega
theorem Q4v {g:G} (hgc:g.conn=true) (hd:X7I g) (hj:∀u v,u<g.ids.length->v<g.ids.length->JD (prs (J0q g)) u v):(J1Q g).length+1=g.ids.length:=by
 obtain⟨hg,_⟩:=J0j hgc;obtain⟨B,hB⟩:=Q41 g;obtain⟨p,hc,hr,he⟩:=Q7V hg hd hB B.length (Nat.le_refl _);have h1:X0U g.ids.length p=1:=by
  refine X4F hr (J0a hg).1 fun u v hu hv=>?_;have hpt:=hc.pt u v hu hv;rw[List.take_length] at hpt;refine hpt.2 ((hj u v hu hv).mono fun q hq=>?_);rw[prs] at hq ⊢;exact(hB.perm.map _).mem_iff.2 hq
 rw[List.take_length] at he;have h2:B.countP (chE g)=(J1Q g).length:=by
  rw[<- J3Z,List.length_map,<- List.countP_eq_length_filter];exact hB.perm.countP_eq _
 omega
structure PV (p:Ps):Prop where
 ok:∀v,v<p.length->okR p.length v (gR p v)=true
 sym:∀v,v<p.length->∀l∈gR p v,((v:Int),l.2)∈gR p l.1.toNat
theorem J1Y {bk:Bool} {r:List (Int×Int)} {x l:Int×Int}:l∈J9E bk r x↔l=x\/l∈r:=by
 rw[J9E];split
 . simp
 . simp only[List.mem_append,List.mem_singleton];exact⟨Or.symm,Or.symm⟩
theorem J8k {bk:Bool} {r:List (Int×Int)} {x:Int×Int} (h:(r.map (·.1)).Nodup) (hx:∀l∈r,l.1≠x.1):((J9E bk r x).map (·.1)).Nodup:=by
 have hn:x.1∉r.map (·.1):=fun hm=>by
  obtain⟨l,h1,h2⟩:=List.mem_map.1 hm;exact hx l h1 h2
 rw[J9E];split
 . rw[List.map_cons,List.nodup_cons];exact⟨hn,h⟩
 . rw[List.map_append,List.nodup_append];refine⟨h,by simp,fun a ha b hb e=>hn ?_⟩;have:b=x.1:=by simpa using hb
   rw[<- this,<- e];exact ha
theorem X6d (n:Nat):PV (List.replicate n []):=⟨fun v _=>by rw[J5i];rfl,fun v _ l hl=>by rw[J5i] at hl;cases hl⟩
theorem Q6r {bk:Bool} {p:Ps} (h:PV p) {a b:Nat} {w:Int} (ha:a<p.length) (hb:b<p.length) (hw:1<=w/\w<=15):PV (J3e bk p a b w):=by
 have hlen:=J66 bk p a b w;rw[J3e] at hlen ⊢;split
 . exact h
 . rename_i hc;rw[if_neg hc] at hlen;have hab:a≠b:=fun e=>hc (.inl e);have hnl:∀l∈gR p a,l.1≠b:=fun l hl e=>hc (.inr (by rw[lnk,List.any_eq_true];exact⟨l,hl,by simpa using e⟩));have hnl2:∀l∈gR p b,l.1≠a:=fun l hl e=>by
    have:=h.sym b hb l hl;rw[e] at this;exact hnl _ this rfl
   have hg:∀v,gR ((p.set a (J9E bk (gR p a) ((b:Int),w))).set b (J9E bk (gR p b) ((a:Int),w))) v=if v=b then J9E bk (gR p b) ((a:Int),w) else if v=a then J9E bk (gR p a) ((b:Int),w) else gR p v:=fun v=>by
    rw[J2F _ b _ (by simpa using hb),J2F p a _ ha]
   constructor
   . intro v hv;rw[hlen] at hv ⊢;rw[hg];split
     . rename_i e;subst e;obtain⟨o1,o2⟩:=J0n.1 (h.ok v hv);refine J0n.2 ⟨fun l hl=>?_,J8k o2 hnl2⟩;rcases J1Y.1 hl with rfl|hl
       . simp only;omega
       . exact o1 l hl
     . split
       . rename_i e;subst e;obtain⟨o1,o2⟩:=J0n.1 (h.ok v hv);refine J0n.2 ⟨fun l hl=>?_,J8k o2 hnl⟩;rcases J1Y.1 hl with rfl|hl
         . simp only;omega
         . exact o1 l hl
       . exact h.ok v hv
   . intro v hv l hl;rw[hlen] at hv;have old:∀u x,x∈gR p u->x∈gR ((p.set a (J9E bk (gR p a) ((b:Int),w))).set b (J9E bk (gR p b) ((a:Int),w))) u:=fun u x hx=>by
      rw[hg];split
      . rename_i e;subst e;exact J1Y.2 (.inr hx)
      . split
        . rename_i e;subst e;exact J1Y.2 (.inr hx)
        . exact hx
     rw[hg] at hl;split at hl
     . rename_i e;subst e;rcases J1Y.1 hl with rfl|hl
       . simp only[Int.toNat_natCast];rw[hg,if_neg hab,if_pos rfl];exact J1Y.2 (.inl rfl)
       . exact old _ _ (h.sym v hv l hl)
     . split at hl
       . rename_i e;subst e;rcases J1Y.1 hl with rfl|hl
         . simp only[Int.toNat_natCast];rw[hg,if_pos rfl];exact J1Y.2 (.inl rfl)
         . exact old _ _ (h.sym v hv l hl)
       . exact old _ _ (h.sym v hv l hl)
theorem X1I (x:Net) (i:Nat):1<=wgt x i/\wgt x i<=15:=by
 have:=J0s (gI x.weights i) (b:=15) (by omega);rw[wgt];omega
theorem Q1I (x:Net) (n:Nat):∀k,k<n->PV (J2p x n k)
 | 0,_=>X6d n
 | k+1,hk=>by
   have h1:=J8S x k;rw[J2p];exact Q6r (Q1I x n k (by omega)) (by rw[J1u];omega) (by rw[J1u];exact hk) (X1I x k)
theorem Q6q (x:Net) {n:Nat} (hn:1<=n) {p:Ps} (hp:p.length=n) (h:PV p):∀k,PV (J2K x n p k)
 | 0=>h
 | k+1=>by
   rw[J2K];exact Q6r (Q6q x hn hp h k) (by rw[J1W,hp];exact J26 hn) (by rw[J1W,hp];exact J26 hn) (X1I x _)
theorem Q9q {I:List Int} {p:Ps} {n:Nat} (h1:1<=n) (h2:n<=24) (hI:I.length=n) (hp:p.length=n) (h3:∀a∈I,0<=a/\a<=255) (h4:I.Nodup) (h:PV p):(⟨I,p⟩:G).valid=true:=by
 rw[G.valid,Bool.and_eq_true,Bool.and_eq_true,decide_eq_true_eq];refine⟨⟨by show 1<=I.length;omega,by show I.length<=24;omega,by show p.length=I.length;omega⟩,(J1v _).2 ⟨h3,h4⟩,?_⟩;rw[J1q,Bool.and_eq_true];exact⟨J1M.2 h.ok,J3K.2 h.sym⟩
theorem Q79 (x:Net) {most:Int} (h1:1<=most) (h2:most<=24):(x.con most).valid=true:=by
 have hs:=J8X x h1;have hi:=Q7t x.ids (x.size most) (by omega);exact Q9q hs.1 (by omega) (J5y x most).1 (J5y x most).2 hi.1 hi.2 (Q6q x hs.1 (J1u _ _ _) (Q1I x _ _ (by omega)) _)
theorem J3p {g:G} (h:g.valid=true):g.Small:=by
 obtain⟨f1,f2,f3,f4,f5,f6,f7⟩:=J0a h;refine J55 (by omega) (by omega) (fun u=>?_);by_cases hu:u<g.ports.length
 . have:=J6Z hu (f6 u hu);omega
 . have:gR g.ports u=[]:=by simp[gR,List.getD,List.getElem?_eq_none (Nat.le_of_not_lt hu)]
   rw[this];simp
theorem Q0z {bk:Bool} {p:Ps} {a b:Nat} {w:Int} (ha:a<p.length) (hb:b<p.length) (hc:¬ (a=b\/lnk p a b=true)) (v:Nat) :
 gR (J3e bk p a b w) v=if v=b then J9E bk (gR p b) ((a:Int),w) else if v=a then J9E bk (gR p a) ((b:Int),w) else gR p v:=by
 rw[J3e,if_neg hc,J2F _ b _ (by simpa using hb),J2F p a _ ha]
theorem J8p {bk:Bool} {p:Ps} {a b:Nat} {w:Int} (ha:a<p.length) (hb:b<p.length) {v:Nat} {l:Int×Int} (hl:l∈gR p v):l∈gR (J3e bk p a b w) v:=by
 by_cases hc:a=b\/lnk p a b=true
 . rw[J3e,if_pos hc];exact hl
 . rw[Q0z ha hb hc];split
   . rename_i e;subst e;exact J1Y.2 (.inr hl)
   . split
     . rename_i e;subst e;exact J1Y.2 (.inr hl)
     . exact hl
theorem Q65 {bk:Bool} {p:Ps} (h:PV p) {a b:Nat} {w:Int} (ha:a<p.length) (hb:b<p.length) (hab:a≠b):∃l∈gR (J3e bk p a b w) b,l.1=(a:Int):=by
 by_cases hc:lnk p a b=true
 . rw[J3e,if_pos (.inr hc)];rw[lnk,List.any_eq_true] at hc;obtain⟨l,hl,e⟩:=hc;have e:l.1=(b:Int):=by simpa using e
   have:=h.sym a ha l hl;rw[e,Int.toNat_natCast] at this;exact⟨_,this,rfl⟩
 . rw[Q0z ha hb (by rintro (e|e);exact hab e;exact hc e),if_pos rfl];exact⟨_,J1Y.2 (.inl rfl),rfl⟩
def Anc (p:Ps) (k:Nat):Prop:=∀v,1<=v->v<=k->∃l∈gR p v,l.1.toNat<v
theorem Q4b (x:Net) (n:Nat):∀k,k<n->Anc (J2p x n k) k
 | 0,_=>fun v h1 h2=>by omega
 | k+1,hk=>by
   intro v h1 h2;have ht:=J8S x k;have hpv:=Q1I x n k (by omega);have hl:=J1u x n k;rw[J2p];by_cases e:v=k+1
   . subst e;obtain⟨l,hl1,e⟩:=Q65 (bk:=x.back) (w:=wgt x k) hpv (a:=(J0C (gI x.links k) ((k:Int)+1)).toNat) (b:=k+1) (by omega) (by omega) (by omega);exact⟨l,hl1,by rw[e,Int.toNat_natCast];exact ht⟩
   . obtain⟨l,hl1,e2⟩:=Q4b x n k (by omega) v h1 (by omega);exact⟨l,J8p (by omega) (by omega) hl1,e2⟩
theorem Q4c (x:Net) {n:Nat} (hn:1<=n) {p:Ps} (hp:p.length=n) {m:Nat} (h:Anc p m):∀k,Anc (J2K x n p k) m
 | 0=>h
 | k+1=>by
   intro v h1 h2;obtain⟨l,hl,e⟩:=Q4c x hn hp h k v h1 h2;rw[J2K];exact⟨l,J8p (by rw[J1W,hp];exact J26 hn) (by rw[J1W,hp];exact J26 hn) hl,e⟩
theorem X4X {g:G} (hg:g.valid=true) (ha:∀v,1<=v->v<g.ports.length->∃l∈gR g.ports v,l.1.toNat<v):g.conn=true:=by
 obtain⟨f1,f2,f3,f4,f5,f6,f7⟩:=J0a hg;have hF:=J7v hg;have hu:=J9S hg;have key:∀m v,v<m->v<g.ports.length->0<=gI (dst g 0) v:=by
  intro m
  induction m with
  | zero=>intro v h;omega
  | succ m ih =>
    intro v hm hv;by_cases h0:v=0
    . subst h0;have:=hF.from_;have this:gI (dst g 0) 0=0:=this;omega
    . obtain⟨l,hl,e⟩:=ha v (by omega) hv;have h1:=ih l.1.toNat (by omega) (by omega);obtain⟨m',hm',em⟩:=hu.sym v hv l hl;have:=(hF.on l.1.toNat (by omega) h1 m' hm').1;rw[em] at this;exact this
 rw[G.conn,hg,Bool.true_and,J5o.2 (fun a ham=>?_)]
 . rfl
 . obtain⟨i,hi,e⟩:=List.mem_iff_getElem.1 ham;have:=key (i+1) i (by omega) (by rw[J3z] at hi;exact hi);rw[<- e];simpa[gI,hi] using this
theorem X1f (x:Net) {most:Int} (h1:1<=most) (h2:most<=24):(x.con most).conn=true:=by
 have hs:=J8X x h1;refine X4X (Q79 x h1 h2) fun v hv1 hv=>?_;rw[(J5y x most).2] at hv;exact Q4c x hs.1 (J1u _ _ _) (Q4b x (x.size most) (x.size most-1) (by omega)) _ v hv1 (by omega)
noncomputable def btN (g:G) (v:Nat):Nat:=Tv g v / g.ids.length
def JnQ (g:G) (b:Int) (x:Nat->Bool):Prop:=∀v,v<g.ids.length->x v=true->Jn g (b+1) 0 v
theorem X2K {g:G} (h:g.conn=true) {b:Int} (hb:0<=b) {r v:Nat} {x:Nat->Bool} (hv:v<g.ids.length) (hp:BPs g b r v 0 x) (hq:JnQ g b x):∀i,i<=(gR g.ports v).length->∃x,BPs g b r v i x/\JnQ g b x
 | 0,_=>⟨x,hp,hq⟩
 | i+1,hi=>by
   obtain⟨y,h1,h2⟩:=X2K h hb hv hp hq i (by omega);obtain⟨f1,f2,f3,f4,f5,f6,f7⟩:=J0a (J0j h).1;have hl:=J02 (show i<(gR g.ports v).length by omega);have hok:=(J0n.1 (f6 v (by omega))).1 _ hl;refine⟨_,h1.step h hb hv (by omega),fun u hu e=>?_⟩;by_cases q:u=v
   . subst q;rw[cup,if_pos rfl,Bool.or_eq_true,Bool.and_eq_true,decide_eq_true_eq] at e;rcases e with e | ⟨e1,e2⟩
     . exact h2 u hu e
     . exact .step hu hl (by omega) (h2 _ (by omega) e1)
   . rw[cup,if_neg q] at e;exact h2 u hu e
theorem X2J {g:G} (h:g.conn=true) {b:Int} (hb:0<=b) {r:Nat} {x:Nat->Bool} (hp:BIn g b r x) (hq:JnQ g b x):∀v,v<=g.ids.length->∃x,BPs g b r v 0 x/\JnQ g b x
 | 0,_=>⟨x,.start hp,hq⟩
 | v+1,hv=>by
   obtain⟨y,h1,h2⟩:=X2J h hb hp hq v (by omega);obtain⟨z,h3,h4⟩:=X2K h hb (by omega) h1 h2 _ (Nat.le_refl _);exact⟨z,h3.row h (by omega),h4⟩
theorem X2T {g:G} (h:g.conn=true) {b:Int} (hb:0<=b):∀r,∃x,BIn g b r x/\JnQ g b x
 | 0=>by
   obtain⟨f1,f2,f3,f4,f5,f6,f7⟩:=J0a (J0j h).1;exact⟨_,BIn.start hb (by omega),fun v hv e=>by have:=of_decide_eq_true e;subst this;exact .refl⟩
 | r+1=>by
   obtain⟨x,h1,h2⟩:=X2T h hb r;obtain⟨y,h3,h4⟩:=X2J h hb h1 h2 _ (Nat.le_refl _);exact⟨y,h3.over (Nat.le_refl _),h4⟩
theorem Q8B {g:G} (h:g.conn=true) {b:Int} (hb:0<=b) {v:Nat} (hv:v<g.ids.length):((btN g v:Nat):Int)<=b↔Jn g (b+1) 0 v:=by
 obtain⟨f1,f2,f3,f4,f5,f6,f7⟩:=J0a (J0j h).1;obtain⟨x,h1,h2⟩:=X2T h hb g.ids.length;have hd:∀u,u<g.ids.length->x u=decide (((Tv g u / g.ids.length:Nat):Int)<=b):=fun u hu=>h1.done hb hu;constructor
 . intro q;exact h2 v hv (by rw[hd v hv];exact decide_eq_true q)
 . intro q;have key:∀{u},Jn g (b+1) 0 u->u<g.ids.length->x u=true:=fun q=>by
    induction q with
    | refl=>intro _;exact h1.root
    | step hv hl hw _ ih =>
      rename_i u l _;intro _;have hok:=(J0n.1 (f6 u (by omega))).1 _ hl;have hx:=ih (by omega);obtain⟨i,hi,e⟩:=X2q hl;have hp:BPs g b g.ids.length u i x:=⟨h1,fun w _ hw _ q=>h1.ok w hw (by have:=Q21 (g:=g) hw;omega) q,fun j _ _ _ _ q=>h1.ok u hv (by have:=Q21 (g:=g) hv;omega) q⟩;have hs:=(hp.step h hb hv hi).base.done hb hv;rw[cup,if_pos rfl,e,hx,decide_eq_true (by omega),Bool.true_and,Bool.or_true] at hs;rw[hd u hv];exact hs.symm
   have:=key q hv;rw[hd v hv] at this;exact of_decide_eq_true this
def prN (g:G):List (Nat×Nat):=prL g g.ports.length 0
theorem Q6t {g:G} (hg:g.valid=true):prN g=(J5L g).map fun e=>(e.a,e.b):=by
 rw[prN,prL,(J0a hg).2.2.1,Q25]
theorem Q3D {α β:Type} {F G:α->List β}:∀{l:List α},(∀v,v∈l->F v=G v)->l.flatMap F=l.flatMap G
 | [],_=>rfl
 | x::l,h=>by rw[List.flatMap_cons,List.flatMap_cons,h x (by simp),Q3D fun v hv=>h v (by simp[hv])]
theorem X3R {v:Nat} {l m:Int×Int} (h:m.1=l.1):(J7M v m).map (fun e=>(e.a,e.b))=(J7M v l).map fun e=>(e.a,e.b):=by
 rw[J7M,J7M];by_cases q:(v:Int)<l.1
 . rw[if_pos q,if_pos (h▸q)];simp[h]
 . rw[if_neg q,if_neg (h▸q)]
theorem X58 {g:G} (hg:g.valid=true) (L:List (Nat×Nat)):(J5L (reG g L)).map (fun e=>(e.a,e.b))=(J5L g).map fun e=>(e.a,e.b):=by
 rw[J5L,J5L,List.map_flatMap,List.map_flatMap];show(List.range g.ids.length).flatMap _=_;refine Q3D fun v hv=>?_;have hv':v<g.ports.length:=by rw[(J0a hg).2.2.1];exact List.mem_range.1 hv
 rw[J4R hv',List.filterMap_map,List.map_filterMap,List.map_filterMap];congr 1;funext l;exact X3R rfl
theorem Q6k {g:G} (hg:g.valid=true) (L:List (Nat×Nat)):(J5L (reG g L)).length=(J5L g).length:=by
 have:=congrArg List.length (X58 hg L);simpa using this
theorem X3N {g:G} (hg:g.valid=true) {L:List (Nat×Nat)} {a b:Nat} {w:Int} (h:J1S (reG g L) a b w):∃k,J1S g a b k/\((b:Int),w)=reX L a ((b:Int),k):=by
 obtain⟨h1,h2,h3⟩:=h;have ha:a<g.ports.length:=by rw[(J0a hg).2.2.1];exact h1
 rw[J4R ha] at h3;obtain⟨m,hm,e⟩:=List.mem_map.1 h3;have e1:m.1=(b:Int):=by have:=congrArg Prod.fst e;simpa[reX] using this
 obtain⟨m1,m2⟩:=m;simp only at e1;subst e1;exact⟨m2,⟨h1,h2,hm⟩,e.symm⟩
theorem X6b {g:G} (hg:g.valid=true) (hl:(prN g).length<=15):X7I (reG g (prN g)):=by
 have hR:=Q23 hg hl;intro e f he hf hw;have key:∀e:Ed,e∈J0q (reG g (prN g))->e.w=(((prN g).idxOf (e.a,e.b):Nat):Int)+1/\(e.a,e.b)∈prN g:=fun e he=>by
  obtain⟨h1,h2⟩:=(J1m hR).1 he;obtain⟨k,hk,ek⟩:=X3N hg h2;have hm:(e.a,e.b)∈prN g:=by
   rw[Q6t hg];exact List.mem_map.2 ⟨⟨e.a,e.b,k⟩,(J82 hg).2 ⟨h1,hk⟩,rfl⟩
  have e2:=congrArg Prod.snd ek;simp only[reX,X3U h1,if_pos hm] at e2;exact⟨e2,hm⟩
 obtain⟨e1,e2⟩:=key e he;obtain⟨f1,f2⟩:=key f hf;have hi:(prN g).idxOf (e.a,e.b)=(prN g).idxOf (f.a,f.b):=by omega
 have hp:(e.a,e.b)=(f.a,f.b):=by
  have h1:=List.getElem_idxOf (List.idxOf_lt_length_of_mem e2);have h2:=List.getElem_idxOf (List.idxOf_lt_length_of_mem f2);rw[<- h1,<- h2];simp only[hi]
 obtain⟨a,b,w⟩:=e;obtain⟨c,d,x⟩:=f;simp only[Prod.mk.injEq] at hp;simp only at hw;rw[hp.1,hp.2,hw]
theorem X2k {g:G} (h:g.conn=true) {v:Nat} (hv:v<g.ids.length):Jn g 16 0 v:=by
 refine(Q8B h (b:=15) (by omega) hv).1 ?_;have:=J6w h hv;have h2:btN g v<16:=by
  rw[btN];exact(Nat.div_lt_iff_lt_mul (by omega)).2 (by omega)
 omega
theorem X36 {g:G} (hg:g.valid=true):LtD g 16 (prs (J0q g)):=by
 obtain⟨f1,f2,f3,f4,f5,f6,f7⟩:=J0a hg;have hw:∀{u v:Nat} {k:Int},J1S g u v k->k<16/\u≠v:=fun {u v k} h=>by
  have:=(J0n.1 (f6 u (by rw[f3];exact h.lu))).1 _ h.mem;simp only at this;omega
 refine⟨fun u v hm=>?_,fun u v k he hk=>?_⟩
 . obtain⟨e,h1,h2⟩:=List.mem_map.1 hm;cases h2;have:=(J1m hg).1 h1;exact⟨e.w,this.2,(hw this.2).1⟩
 . have hne:=(hw he).2;rcases Nat.lt_or_gt_of_ne hne with q|q
   . exact .inl (List.mem_map.2 ⟨⟨u,v,k⟩,(J1m hg).2 ⟨q,he⟩,rfl⟩)
   . exact .inr (List.mem_map.2 ⟨⟨v,u,k⟩,(J1m hg).2 ⟨q,he.symm hg⟩,rfl⟩)
theorem X6R {g:G} (h:g.conn=true):∀u v,u<g.ids.length->v<g.ids.length->JD (prs (J0q g)) u v:=fun u v hu hv=>by
 obtain⟨hg,_⟩:=J0j h;have h0:0<g.ids.length:=by omega
 have key:∀x,x<g.ids.length->JD (prs (J0q g)) 0 x:=fun x hx=>((X6Q hg (X36 hg) h0).1 (X2k h hx)).2;exact(key u hu).symm.trans (key v hv)
theorem X1Q {g:G} (h:g.conn=true) (hd:X7I g):(J1Q g).length+1=g.ids.length:=Q4v h hd (X6R h)
structure HSp (g h:G):Prop where
 ids:h.ids=g.ids
 edge:∀a b w,J1S h a b w↔J1S g a b w/\(a<b->chE g ⟨a,b,w⟩=true)/\(b<a->chE g ⟨b,a,w⟩=true)
theorem Jn.edge {g:G} {w k:Int} {a u v:Nat} (h:Jn g w a u) (he:J1S g v u k) (hk:k<w):Jn g w a v:=.step he.lu he.mem hk (by simpa using h)
theorem Jn.trans {g:G} {w:Int} {a u v:Nat} (h:Jn g w a u) (h':Jn g w u v):Jn g w a v:=by
 induction h' with
 | refl=>exact h
 | step hv hl hw _ ih=>exact .step hv hl hw ih
theorem Jn.mono {g:G} {w w':Int} (hw:w<=w') {a v:Nat} (h:Jn g w a v):Jn g w' a v:=by
 induction h with
 | refl=>exact .refl
 | step hv hl hk _ ih=>exact .step hv hl (by omega) ih
theorem Jn.cases' {g:G} (hg:g.valid=true) {w:Int} {a v:Nat} {p:Nat->Prop} (h:Jn g w a v) (h0:p a) (hs:∀u v k,J1S g v u k->k<w->Jn g w a u->p u->p v):p v:=by
 obtain⟨f1,f2,f3,f4,f5,f6,f7⟩:=J0a hg
 induction h with
 | refl=>exact h0
 | @step v l hv hl hw hj ih =>
   have hok:=(J0n.1 (f6 v (by omega))).1 l hl;refine hs l.1.toNat v l.2 ⟨hv,by omega,?_⟩ hw hj ih;have e:((l.1.toNat:Nat):Int)=l.1:=by omega
   rw[e];exact hl
theorem Jn.symm' {g:G} (hg:g.valid=true) {w:Int} {a v:Nat} (h:Jn g w a v):Jn g w v a :=
 Jn.cases' hg (p:=fun v=>Jn g w v a) h .refl fun u v k he hk _ ih=>(Jn.edge (.refl:Jn g w v v) (he.symm hg) hk).trans ih
theorem X6P {g h:G} (hg:g.valid=true) (hh:h.valid=true) (hs:HSp g h) {w:Int} {a v:Nat} (hj:Jn h w a v):Jn g w a v :=
 Jn.cases' hh (p:=fun v=>Jn g w a v) hj .refl fun u v k he hk _ ih=>ih.edge ((hs.edge _ _ _).1 he).1 hk
theorem Q7l {g h:G} (hg:g.valid=true) (hh:h.valid=true) (hs:HSp g h):∀(d:Nat) (w:Int),w<=d->∀{a v:Nat},Jn g w a v->Jn h w a v
 | 0,w,hw,a,v,hj=>Jn.cases' hg (p:=fun v=>Jn h w a v) hj .refl fun u v k he hk _ _=>by
    obtain⟨f1,f2,f3,f4,f5,f6,f7⟩:=J0a hg;have:=(J0n.1 (f6 v (by rw[f3];exact he.lu))).1 _ he.mem;simp only at this;omega
 | d+1,w,hw,a,v,hj=>Jn.cases' hg (p:=fun v=>Jn h w a v) hj .refl fun u v k he hk _ ih=>by
    have hne:v≠u:=by
     obtain⟨f1,f2,f3,f4,f5,f6,f7⟩:=J0a hg;have:=(J0n.1 (f6 v (by rw[f3];exact he.lu))).1 _ he.mem;simp only at this;omega
    by_cases hc:J1S h v u k
    . exact ih.edge hc hk
    . -- its ends are joined by lighter ones
      have key:∀x y:Nat,chE g ⟨x,y,k⟩=false->Jn g k x y:=fun x y e=>by
       rw[chE,decide_eq_false_iff_not,Classical.not_not] at e;exact e
      have hl:Jn h k u v:=by
       rcases Nat.lt_or_gt_of_ne hne with q|q
       . have e:chE g ⟨v,u,k⟩=false:=by
          cases e:chE g ⟨v,u,k⟩ with
          | false=>rfl
          | true=>exact(hc ((hs.edge _ _ _).2 ⟨he,fun _=>e,fun z=>by omega⟩)).elim
         exact(Q7l hg hh hs d k (by omega) (key _ _ e)).symm' hh
       . have e:chE g ⟨u,v,k⟩=false:=by
          cases e:chE g ⟨u,v,k⟩ with
          | false=>rfl
          | true=>exact(hc ((hs.edge _ _ _).2 ⟨he,fun z=>by omega,fun _=>e⟩)).elim
         exact Q7l hg hh hs d k (by omega) (key _ _ e)
      exact ih.trans (hl.mono (by omega))
theorem Q7k {g h:G} (hg:g.valid=true) (hh:h.valid=true) (hs:HSp g h) (w:Int) (a v:Nat):Jn h w a v↔Jn g w a v :=
 ⟨X6P hg hh hs,Q7l hg hh hs w.toNat w (by omega)⟩
theorem X5c {g h:G} (hg:g.conn=true) (hh:h.conn=true) (hs:HSp g h) {v:Nat} (hv:v<g.ids.length):btN h v=btN g v:=by
 obtain⟨g1,_⟩:=J0j hg;obtain⟨h1,_⟩:=J0j hh;have key:∀b:Nat,btN h v<=b↔btN g v<=b:=fun b=>by
  have e1:=Q8B hh (b:=(b:Int)) (by omega) (v:=v) (by rw[hs.ids];exact hv);have e2:=Q8B hg (b:=(b:Int)) (by omega) hv;rw[Q7k g1 h1 hs] at e1;have e3:=e1.trans e2.symm;omega
 have:=(key (btN h v)).1 (Nat.le_refl _);have:=(key (btN g v)).2 (Nat.le_refl _);omega
def pF (p:Nat->Int):Nat->Nat->V:=fun i _=>.int .i64 (p i)
theorem X1V (p:Nat->Int) (v:Nat) (x:Int) (n i j:Nat) (hi:i<n) (hj:j<1):VLe (J1R (pF p) v 0 [.int .i64 x] i j) (pF (fun u=>if u=v then x else p u) i j):=by
 apply VLe.of_eq;obtain rfl:j=0:=by omega
 simp only[pF,J1R];by_cases h:i=v
 . subst h;simp
 . simp[h]
structure JoS (p:Nat->Int) (a b v:Nat) (q:Nat->Int):Prop where
 lo:∀u,u<v->q u=joP p a b u
 hi:∀u,v<=u->q u=p u
theorem JoS.start {p:Nat->Int} {a b:Nat}:JoS p a b 0 p:=⟨fun u h=>by omega,fun _ _=>rfl⟩
theorem JoS.yes {p:Nat->Int} {a b v:Nat} {q:Nat->Int} (h:JoS p a b v q) (he:p v=max (p a) (p b)):JoS p a b (v+1) (fun u=>if u=v then min (p a) (p b) else q u):=by
 refine⟨fun u hu=>?_,fun u hu=>?_⟩
 . show(if u=v then _ else q u)=_;by_cases e:u=v
   . subst e;rw[if_pos rfl,joP,if_pos he]
   . rw[if_neg e];exact h.lo u (by omega)
 . show(if u=v then _ else q u)=_;rw[if_neg (by omega)];exact h.hi u (by omega)
theorem JoS.no {p:Nat->Int} {a b v:Nat} {q:Nat->Int} (h:JoS p a b v q) (he:¬ p v=max (p a) (p b)):JoS p a b (v+1) q:=by
 refine⟨fun u hu=>?_,fun u hu=>h.hi u (by omega)⟩;by_cases e:u=v
 . subst e;rw[joP,if_neg he];exact h.hi u (Nat.le_refl _)
 . exact h.lo u (by omega)
theorem mxR (x y:Int):(if y > x then y else x)=max x y:=by
 rw[Int.max_def];split<;>split<;>omega
theorem mnR (x y:Int):(if y<x then y else x)=min x y:=by
 rw[Int.min_def];split<;>split<;>omega
set_option maxHeartbeats 8000000 in
theorem X4f (n:Nat) (hn:n<=1000000) (p:Nat->Int) (a b:Nat) (ha:a<n) (hb:b<n) :
 J0K Tryz.prog 24 [.vec 0 1 0 n,.int .i64 a,.int .i64 b] [(0,.vec n 1 (pF p))] X2i
  fun v own' _=>∃q:Nat->Int,(∀u,u<n->q u=joP p a b u)/\v=.tup []/\own'=[(0,.vec n 1 (pF q))]:=by
 refine J0b mixed Tryz.func24 rfl hc24 hr24 rfl ?_
 repeat' ((conv=>whnf);first|(refine Ix.w a ?_)|(refine Ix.w b ?_)|(refine Sv.mk _ rfl ?_)|(refine Ltn.q ?_)|(refine And.intro (Ltn.mk (by omega) rfl) ?_))
 all_goals (conv=>whnf)
 refine J0N mixed [0,6,7,28] [] X2i [0] (fun s:Nat×(Nat->Int)=>[(29,.int .i64 s.1)]) (fun own s=>J2i own 0 (.vec n 1 (pF s.2))) (fun m s=>m=n-s.1/\s.1<=n/\JoS p a b s.1 s.2) n (0,p) ⟨rfl,Nat.zero_le _,JoS.start⟩ rfl (fun _=>rfl) ?_ ?_
 . exact J0l (fun _ _=>[(0,some 0)])
 rintro m ⟨v,q⟩ ⟨hm,hv,hJ⟩;simp only at hm hv hJ;by_cases hvn:v<n
 . dsimp only;have hqv:=hJ.hi v (Nat.le_refl _);have z0:0+a=a:=Nat.zero_add _;have z1:0+b=b:=Nat.zero_add _;have z2:0+v=v:=Nat.zero_add _;by_cases hc:q (0+v)=(if p (0+b) > p (0+a) then p (0+b) else p (0+a))
   . repeat' ((conv=>whnf);first|(refine Br.dec ?_ ?_<;>intro _<;>try omega)|(refine Ar.q ?_)|(refine Ix.q ?_)|(refine Ltn.q ?_))
     all_goals (conv=>whnf)
     rw[mxR,z0,z1,z2,hqv] at hc;refine⟨n-(v+1),(v+1,fun u=>if u=v then (if p (0+b)<p (0+a) then p (0+b) else p (0+a)) else q u),by omega,⟨rfl,by omega,?_⟩,?_⟩
     . rw[mnR,z0,z1];exact hJ.yes hc
     . refine J0e (fun _ _=>[(0,some 0)]) ?_ ?_ rfl
       . repeat' (first|exact tI|(refine⟨⟨_,rfl,?_⟩,?_⟩)|exact J0c.kf rfl|exact J0c.q)
       . repeat' (first|exact⟨Nat.le_refl _,rfl,fun i t hi ht=>by simp only[Nat.zero_add];exact X1V q v _ n i t (by omega) ht⟩|exact tI|(refine⟨⟨_,rfl,?_⟩,?_⟩))
   . repeat' ((conv=>whnf);first|(refine Br.dec ?_ ?_<;>intro _<;>try omega)|(refine Ar.q ?_)|(refine Ix.q ?_)|(refine Ltn.q ?_))
     all_goals (conv=>whnf)
     rw[mxR,z0,z1,z2,hqv] at hc;refine⟨n-(v+1),(v+1,q),by omega,⟨rfl,by omega,hJ.no hc⟩,?_⟩;exact J0l (fun _ _=>[(0,some 0)])
 . dsimp only
   repeat' ((conv=>whnf);first|(refine Br.dec ?_ ?_<;>intro _<;>try omega))
   all_goals (conv=>whnf)
   exact⟨q,fun u hu=>hJ.lo u (by omega),rfl,rfl⟩
def sF (L:List (Nat×Nat)):Nat->Nat->V:=fun i j=>match j with
 | 0=>.int .i64 (L.getD i (0,0)).1
 | _+1=>.int .i64 (L.getD i (0,0)).2
theorem Q0W {g:G} (hg:g.valid=true):(J0q g).length=(J5L g).length:=by
 refine List.Perm.length_eq ?_;refine(List.perm_ext_iff_of_nodup ?_ (J6S hg)).2 fun e=>by rw[J1m hg,J82 hg]
 rw[List.nodup_iff_pairwise_ne];exact(J2V g).imp fun {e f} hl q=>by subst q;exact Q4N _ _ hl hl
theorem Q1K (n v i j:Nat) (hj:j<1):VLe (J1R (pF fun u=>if u<v then (u:Int) else 0) v 0 [.int .i64 v] i j) (pF (fun u=>if u<v+1 then (u:Int) else 0) i j):=by
 refine(X1V _ v (v:Int) (i+1) i j (by omega) hj).trans (VLe.of_eq ?_);show V.int .i64 _=V.int .i64 _;congr 1;show(if i=v then (v:Int) else if i<v then (i:Int) else 0)=if i<v+1 then (i:Int) else 0
 by_cases h:i=v
 . subst h;simp
 . rw[if_neg h];by_cases q:i<v
   . rw[if_pos q,if_pos (by omega)]
   . rw[if_neg q,if_neg (by omega)]
theorem PtI.congr {n:Nat} {D:List (Nat×Nat)} {p q:Nat->Int} (h:PtI n D p) (he:∀u,u<n->q u=p u):PtI n D q:=fun u v hu hv=>by rw[he u hu,he v hv];exact h u v hu hv
noncomputable def J9H (g:G) (i:Nat):List (Nat×Nat):=(((J0q g).take i).filter (chE g)).map fun e=>(e.a,e.b)
theorem Q2S (g:G) (i:Nat):(J9H g i).length<=i:=by
 rw[J9H,List.length_map];exact Nat.le_trans (List.length_filter_le _ _) (by simp;omega)
theorem Q9L {g:G} {i:Nat} (hi:i<(J0q g).length) (h:chE g (gE (J0q g) i)=true):J9H g (i+1)=J9H g i++[((gE (J0q g) i).a,(gE (J0q g) i).b)]:=by
 rw[J9H,J6E hi,List.filter_append,List.map_append,List.filter_cons,if_pos h];rfl
theorem X3z {g:G} {i:Nat} (hi:i<(J0q g).length) (h:chE g (gE (J0q g) i)=false):J9H g (i+1)=J9H g i:=by
 rw[J9H,J6E hi,List.filter_append,List.map_append,List.filter_cons,if_neg (by rw[h];decide)];simp[J9H]
theorem Q2T (g:G):J9H g (J0q g).length=J1Q g:=by rw[J9H,List.take_length,J3Z]
theorem Q9i (L:List (Nat×Nat)) (a b:Nat) (n i j:Nat) (hn:L.length=n) (f:Nat->Nat->V) (h0:f 0 0=.int .i64 a) (h1:f 0 1=.int .i64 b) (hi:i<n+1) (hj:j<2):VLe (J4o (J0h 0 (sF L)) n (J0h 0 f) i j) (sF (L++[(a,b)]) i j):=by
 subst hn;apply VLe.of_eq;by_cases h:i<L.length
 . rw[J1E h,J0D,Nat.zero_add];have e:(L++[(a,b)]).getD i (0,0)=L.getD i (0,0):=by simp[List.getD,List.getElem?_append_left h]
   rcases j with _|j
   . show V.int .i64 _=V.int .i64 _;rw[e]
   . show V.int .i64 _=V.int .i64 _;rw[e]
 . rw[J1F h];obtain rfl:i=L.length:=by omega
   have e:(L++[(a,b)]).getD L.length (0,0)=(a,b):=by simp[List.getD]
   rw[Nat.sub_self,J0D];rcases j with _|_|j
   . show f 0 0=V.int .i64 _;rw[e,h0]
   . show f 0 1=V.int .i64 _;rw[e,h1]
   . omega
theorem X5p.of {o:Option V} {v:V} {A:V->Prop} {B:Prop} (h:o=some v) (hA:A v):X5p o A B:=⟨fun w hw=>by rw[h] at hw;cases hw;exact hA,fun hn=>by rw[h] at hn;cases hn⟩
set_option maxHeartbeats 16000000 in
theorem J6H (g:G) (hs:g.Small) (hgc:g.conn=true) (h12:(J5L g).length<=19) (h0:0<(J0q g).length):Ret Tryz.prog 8 [g.v] (.tup [.fz (J1Q g).length 2 false (sF (J1Q g)),.int .i64 0]):=by
 obtain⟨hg,_⟩:=J0j hgc;obtain⟨f1,f2,f3,f4,f5,f6,f7⟩:=J0a hg;have hcn:=Q16 g hs;rw[hgc] at hcn;have hed:=Q3M g hs hg h12;refine J0f rfl ?_;refine J0b mixed Tryz.func8 rfl hc8 hr8 rfl ?_;have hle:=Q0W hg;have hso:=Q2P 22 (by kernel_rfl) (fun x y=>cpI x.w y.w) Q2N ltW wo_w X2A (J0q g) (by omega)
 repeat' ((conv=>whnf);first|(refine Br.tt ?_)|(refine Br.nbeq ?_ ?_<;>intro _<;>try omega)|(refine Bd.q ?_)|(refine Len.q ?_)|(refine MkS.vec ?_)|(refine hcn.go ?_)|(refine hed.go ?_)|(refine Chk.q ?_)|(refine J0b mixed Tryz.func20 rfl hc20 hr20 rfl ?_)|(refine J2b [(0,some 2)] [] (hso.mono ?_) ⟨J0c.vec rfl rfl (Nat.zero_add _),J0c.fn True.intro,True.intro⟩ (by repeat' (first|exact tI|(refine⟨⟨_,rfl,?_⟩,?_⟩)|(refine⟨by omega,rfl,fun i j hi hj=>?_⟩)|exact VLe.rfl)) rfl;rintro _ _ _ ⟨B,⟨hp,hsl⟩,rfl,rfl⟩))
 all_goals (conv=>whnf)
 have hBl:=hp.length_eq;have hB:ByW g B:=⟨hp,hsl⟩;refine J0N mixed [] [] [4,5,6,7,8,9,10,11,12,13,14,15,16,17,18,19,20,21,22,23,24,25,26,27,28,29] [3,2,0] (fun v:Nat=>[(32,.int .i64 v),(31,.int .i64 g.ids.length),(2,.nilslice),(3,.int .i64 0),(4,.fz (J0q g).length 3 false (eF (J0q g))),(5,.vec 2 3 0 (0+(J0q g).length)),(6,.vec 3 1 0 g.ids.length)]) (fun _ v=>[(3,.vec g.ids.length 1 (pF fun u=>if u<v then (u:Int) else 0)),(2,.vec (J0q g).length 3 (eF B)),(0,.cells [.fz g.ids.length 1 false (vI g.ids),.fz g.ports.length 1 false (vP g.ports)])]) (fun m v=>m=g.ids.length-v/\v<=g.ids.length) g.ids.length 0 ⟨rfl,Nat.zero_le _⟩ rfl (fun _=>rfl) ?_ ?_
 . refine J0e (fun _ _=>[(0,some 0),(2,some 2),(3,some 3)]) ?_ ?_ rfl
   . repeat' (first|exact tI|(refine⟨⟨_,rfl,?_⟩,?_⟩)|exact J0c.kf rfl|exact J0c.q)
   . repeat' (first|exact⟨Nat.le_refl _,rfl,fun i j hi hj=>VLe.of_eq (by obtain rfl:j=0:=(by omega);rfl)⟩|exact tI|(refine⟨⟨_,rfl,?_⟩,?_⟩)|exact J0c.kf rfl|(refine⟨Nat.le_refl _,rfl,fun i j hi hj=>?_⟩)|exact VLe.rfl|apply And.intro)
 rintro m v ⟨hm,hv⟩;by_cases hvn:v<g.ids.length
 . repeat' ((conv=>whnf);first|(refine Ix.w v ?_)|(refine Br.dec ?_ ?_<;>intro _<;>try omega)|(refine Ar.q ?_)|(refine Ltn.q ?_))
   all_goals (conv=>whnf)
   refine⟨g.ids.length-(v+1),v+1,by omega,⟨rfl,by omega⟩,?_⟩;refine J0e (fun _ _=>[(0,some 0),(2,some 2),(3,some 3)]) ?_ ?_ rfl
   . repeat' (first|exact tI|(refine⟨⟨_,rfl,?_⟩,?_⟩)|exact J0c.kf rfl|exact J0c.q)
   . repeat' (first|exact⟨Nat.le_refl _,rfl,fun i t hi ht=>by simp only[Nat.zero_add];exact Q1K g.ids.length v i t ht⟩|exact tI|(refine⟨⟨_,rfl,?_⟩,?_⟩)|exact J0c.kf rfl|(refine⟨Nat.le_refl _,rfl,fun i j hi hj=>?_⟩)|exact VLe.rfl|apply And.intro)
 have ev:v=g.ids.length:=by omega
 subst ev
 repeat' ((conv=>whnf);first|(refine Br.dec ?_ ?_<;>intro _<;>try omega))
 all_goals (conv=>whnf)
 refine J0N mixed [] [] [5,6,7,8,9,10,11,12,13,14,15,16,17,18,19,20,21,22,23,24,25,26,27,28,29] [4,3,2,0] (fun s:Nat×(Nat->Int)=>[(9,.int .i64 s.1),(8,.map 4),(2,.nilslice),(3,.int .i64 0),(4,.fz (J0q g).length 3 false (eF (J0q g))),(5,.vec 2 3 0 (0+(J0q g).length)),(6,.vec 3 1 0 g.ids.length)]) (fun _ s=>[(4,.map (.st KE) (enX g (B.take s.1))),(3,.vec g.ids.length 1 (pF s.2)),(2,.vec (J0q g).length 3 (eF B)),(0,.cells [.fz g.ids.length 1 false (vI g.ids),.fz g.ports.length 1 false (vP g.ports)])]) (fun m s=>m=B.length-s.1/\Cls g B s.1 s.2) B.length (0,fun v=>(v:Int)) ⟨rfl,Cls.start B⟩ rfl (fun _=>rfl) ?_ ?_
 . refine J0e (fun _ _=>[(0,some 0),(2,some 2),(3,some 3),(4,some 4)]) ?_ ?_ rfl
   . repeat' (first|exact tI|exact J0c.map rfl|(refine⟨⟨_,rfl,?_⟩,?_⟩)|exact J0c.kf rfl|exact J0c.q)
   . repeat' (first|exact⟨Nat.le_refl _,rfl,fun i j hi hj=>VLe.of_eq (by obtain rfl:j=0:=(by omega);show V.int .i64 (if i<g.ids.length then (i:Int) else 0)=V.int .i64 _;rw[if_pos hi])⟩|exact⟨rfl,X4N _ _⟩|exact tI|(refine⟨⟨_,rfl,?_⟩,?_⟩)|exact J0c.kf rfl|(refine⟨Nat.le_refl _,rfl,fun i j hi hj=>?_⟩)|exact VLe.rfl|apply And.intro)
 rintro m ⟨a,p⟩ ⟨hm,hC⟩;simp only at hm hC;have hal:=hC.le;by_cases hab:a<B.length
 . dsimp only
   repeat' ((conv=>whnf);first|(refine Br.dec ?_ ?_<;>intro _<;>try omega))
   all_goals (conv=>whnf)
   refine J0N mixed [] [] [5,6,7,8,9,10,11,12,13,14,15,16,17,18,19,20,21,22,23,24,25,26,27,28,29] [4,3,2,0] (fun k:Nat=>[(10,.int .i64 k),(9,.int .i64 a),(8,.map 4),(2,.nilslice),(3,.int .i64 0),(4,.fz (J0q g).length 3 false (eF (J0q g))),(5,.vec 2 3 0 (0+(J0q g).length)),(6,.vec 3 1 0 g.ids.length)]) (fun _ k=>[(4,.map (.st KE) (enX g (B.take k))),(3,.vec g.ids.length 1 (pF p)),(2,.vec (J0q g).length 3 (eF B)),(0,.cells [.fz g.ids.length 1 false (vI g.ids),.fz g.ports.length 1 false (vP g.ports)])]) (fun m k=>m=B.length-k/\a<=k/\k<=B.length/\∀j,a<=j->j<k->(gE B j).w=(gE B a).w) (B.length-a) a ⟨rfl,Nat.le_refl _,hal,fun j h1 h2=>by omega⟩ rfl (fun _=>rfl) ?_ ?_
   . exact J0l (fun _ _=>[(0,some 0),(2,some 2),(3,some 3),(4,some 4)])
   rintro m k ⟨hm2,hak,hk,hw⟩;have z1:0+k=k:=Nat.zero_add _;have z2:0+a=a:=Nat.zero_add _;by_cases hgo:k<B.length/\(gE B (0+k)).w=(gE B (0+a)).w
   . obtain⟨hkn,hwk⟩:=hgo;have he:=(hB.edge hg hkn).2;have h1:(gE B (0+k)).a<g.ids.length:=by rw[z1];exact he.lu
     have h2:(gE B (0+k)).b<g.ids.length:=by rw[z1];exact he.lv
     have hch:=hC.ch hg hB hak hkn (by rw[z1,z2] at hwk;exact hwk);have hput:∀b:Bool,b=chE g (gE B k)->mput (enX g (B.take k)) (X2j (gE B (0+k))) (.bool b)=enX g (B.take (k+1)):=fun b hb=>by
      rw[z1];exact X4M g (hB.nodup hg) hkn (by rw[hb])
     have hw':∀j,a<=j->j<k+1->(gE B j).w=(gE B a).w:=fun j h3 h4=>by
      by_cases e:j=k
      . subst e;rw[z1,z2] at hwk;exact hwk
      . exact hw j h3 (by omega)
     by_cases hpp:p (0+(gE B (0+k)).a)=p (0+(gE B (0+k)).b)
     . have hb:false=chE g (gE B k):=by
        rw[<- hch,decide_eq_true (by simpa only[Nat.zero_add] using hpp)];rfl
       repeat' ((conv=>whnf);first|(refine Ix.w k ?_)|(refine Ix.w a ?_)|(refine Ix.mk (gE B (0+k)).a rfl h1 ?_)|(refine Ix.mk (gE B (0+k)).b rfl h2 ?_)|(refine Br.dec ?_ ?_<;>intro _<;>try omega)|(refine Br.bne ?_ ?_<;>intro _<;>try omega)|(refine Ar.q ?_)|(refine Ltn.q ?_))
       all_goals (conv=>whnf)
       refine⟨B.length-(k+1),k+1,by omega,⟨rfl,by omega,by omega,hw'⟩,?_⟩;refine J0e (fun _ _=>[(0,some 0),(2,some 2),(3,some 3),(4,some 4)]) ?_ ?_ rfl
       . repeat' (first|exact tI|exact J0c.map rfl|(refine⟨⟨_,rfl,?_⟩,?_⟩)|exact J0c.kf rfl|exact J0c.q)
       . repeat' (first|exact⟨rfl,(hput _ hb).symm⟩|exact tI|(refine⟨⟨_,rfl,?_⟩,?_⟩)|exact J0c.kf rfl|(refine⟨Nat.le_refl _,rfl,fun i j hi hj=>?_⟩)|exact VLe.rfl|apply And.intro)
     . have hb:true=chE g (gE B k):=by
        rw[<- hch,decide_eq_false (by simpa only[Nat.zero_add] using hpp)];rfl
       repeat' ((conv=>whnf);first|(refine Ix.w k ?_)|(refine Ix.w a ?_)|(refine Ix.mk (gE B (0+k)).a rfl h1 ?_)|(refine Ix.mk (gE B (0+k)).b rfl h2 ?_)|(refine Br.dec ?_ ?_<;>intro _<;>try omega)|(refine Br.bne ?_ ?_<;>intro _<;>try omega)|(refine Ar.q ?_)|(refine Ltn.q ?_))
       all_goals (conv=>whnf)
       refine⟨B.length-(k+1),k+1,by omega,⟨rfl,by omega,by omega,hw'⟩,?_⟩;refine J0e (fun _ _=>[(0,some 0),(2,some 2),(3,some 3),(4,some 4)]) ?_ ?_ rfl
       . repeat' (first|exact tI|exact J0c.map rfl|(refine⟨⟨_,rfl,?_⟩,?_⟩)|exact J0c.kf rfl|exact J0c.q)
       . repeat' (first|exact⟨rfl,(hput _ hb).symm⟩|exact tI|(refine⟨⟨_,rfl,?_⟩,?_⟩)|exact J0c.kf rfl|(refine⟨Nat.le_refl _,rfl,fun i j hi hj=>?_⟩)|exact VLe.rfl|apply And.intro)
   . have hkn':k<B.length->(gE B k).w≠(gE B a).w:=fun h q=>hgo ⟨h,by rw[z1,z2];exact q⟩;have hka:a<k:=by
      by_cases e:a=k
      . subst e;exact(hkn' hab rfl).elim
      . omega
     repeat' ((conv=>whnf);first|(refine Ix.w k ?_)|(refine Ix.w a ?_)|(refine Br.dec ?_ ?_<;>intro _<;>try omega)|(refine Br.nble ?_ ?_<;>intro _<;>try omega)|(refine Bd.q ?_)|(refine Ltn.q ?_))
     all_goals (conv=>whnf)
     all_goals
      refine J0N mixed [85,86] [] [5,6,7,8,9,10,11,12,13,14,15,16,17,18,19,20,21,22,23,24,25,26,27,28,29] [4,3,2,0] (fun s:Nat×(Nat->Int)=>[(87,.int .i64 s.1),(10,.int .i64 k),(8,.map 4),(2,.nilslice),(3,.int .i64 0),(4,.fz (J0q g).length 3 false (eF (J0q g))),(5,.vec 2 3 0 (0+(J0q g).length)),(6,.vec 3 1 0 g.ids.length)]) (fun _ s=>[(4,.map (.st KE) (enX g (B.take k))),(3,.vec g.ids.length 1 (pF s.2)),(2,.vec (J0q g).length 3 (eF B)),(0,.cells [.fz g.ids.length 1 false (vI g.ids),.fz g.ports.length 1 false (vP g.ports)])]) (fun m s=>m=(k-a)-s.1/\s.1<=k-a/\Jng g B a k (a+s.1) s.2) (k-a) (0,p) ⟨rfl,Nat.zero_le _,⟨⟨Nat.le_refl _,hak,hk⟩,hC.pt⟩⟩ rfl (fun _=>rfl) ?_ ?_
      . exact J0l (fun _ _=>[(0,some 0),(2,some 2),(3,some 3),(4,some 4)])
      rintro m3 ⟨i,q⟩ ⟨hm3,hi,hJ⟩;simp only at hm3 hi hJ;by_cases hik:i<k-a
      . dsimp only;have e0:0+a+i=a+i:=by omega
        have he:=(hB.edge hg (i:=a+i) (by omega)).2;have h1:(gE B (0+a+i)).a<g.ids.length:=by rw[e0];exact he.lu
        have h2:(gE B (0+a+i)).b<g.ids.length:=by rw[e0];exact he.lv
        have hjo:=X4f g.ids.length (by omega) q (gE B (0+a+i)).a (gE B (0+a+i)).b h1 h2
        repeat' ((conv=>whnf);first|(refine Ix.w i ?_)|(refine Br.dec ?_ ?_<;>intro _<;>try omega)|(refine Ar.q ?_)|(refine Ltn.q ?_)|(refine Chk.q ?_)|(refine J2b [(0,some 3)] [] (hjo.mono ?_) ⟨J0c.vec rfl rfl rfl,J0c.int rfl,J0c.int rfl,True.intro⟩ (by repeat' (first|exact tI|(refine⟨⟨_,rfl,?_⟩,?_⟩)|(refine⟨Nat.le_refl _,rfl,fun i j hi hj=>?_⟩)|exact VLe.rfl)) rfl;rintro _ _ _ ⟨q',hq',rfl,rfl⟩))
        all_goals (conv=>whnf)
        rename_i q' hq';refine⟨(k-a)-(i+1),(i+1,q'),by omega,⟨rfl,by omega,⟨⟨by omega,by omega,hk⟩,?_⟩⟩,?_⟩
        . have:=(hJ.step hg hB (by omega)).pt;rw[e0] at hq';exact this.congr hq'
        . exact J0l (fun _ _=>[(0,some 0),(2,some 2),(3,some 3),(4,some 4)])
      . have ei:i=k-a:=by omega
        subst ei;have hJ':Jng g B a k k q:=by have:=hJ;rwa[show a+(k-a)=k by omega] at this
        dsimp only
        repeat' ((conv=>whnf);first|(refine Br.dec ?_ ?_<;>intro _<;>try omega))
        all_goals (conv=>whnf)
        refine⟨B.length-k,(k,q),by omega,⟨rfl,hJ'.next hB hka hw hkn'⟩,?_⟩;exact J0l (fun _ _=>[(0,some 0),(2,some 2),(3,some 3),(4,some 4)])
 . have ea:a=B.length:=by omega
   subst ea;dsimp only;simp only[List.take_length]
   repeat' ((conv=>whnf);first|(refine Br.dec ?_ ?_<;>intro _<;>try omega))
   all_goals (conv=>whnf)
   refine J0N mixed [99,100] [5] [6,7,8,9,10,11,12,13,14,15,16,17,18,19,20,21,22,23,24,25,26,27,28,29] [5,4,3,2,0] (fun i:Nat=>[(14,.vec 5 2 0 (J9H g i).length),(101,.int .i64 i),(8,.map 4),(2,.nilslice),(3,.int .i64 0)]) (fun _ i=>[(5,.vec (J9H g i).length 2 (sF (J9H g i))),(4,.map (.st KE) (enX g B)),(3,.vec g.ids.length 1 (pF p)),(2,.vec (J0q g).length 3 (eF B)),(0,.cells [.fz g.ids.length 1 false (vI g.ids),.fz g.ports.length 1 false (vP g.ports)])]) (fun m i=>m=(J0q g).length-i/\i<=(J0q g).length) (J0q g).length 0 ⟨rfl,Nat.zero_le _⟩ rfl (fun _=>rfl) ?_ ?_
   . exact J0l (fun _ _=>[(0,some 0),(2,some 2),(3,some 3),(4,some 4),(5,none)])
   rintro m i ⟨hm,hi⟩;by_cases hin:i<(J0q g).length
   . have hmem:gE (J0q g) i∈B:=by rw[hp.mem_iff,<- J3x hin];exact List.getElem_mem hin
     have hfi:=X04 g hmem;have hln:=Q2S g i;cases hch:chE g (gE (J0q g) i) with
     | true =>
       rw[hch] at hfi;have hse:=Q9L hin hch;have hsl:=Q2S g (i+1);have hsl2:(J9H g (i+1)).length=(J9H g i).length+1:=by rw[hse,List.length_append];rfl
       repeat' ((conv=>whnf);first|(refine Ix.w i ?_)|(refine Br.dec ?_ ?_<;>intro _<;>try omega)|(refine Br.nbeq ?_ ?_<;>intro _<;>try omega)|(refine Ar.q ?_)|(refine Len.q ?_)|(refine X5p.of hfi ?_))
       all_goals (conv=>whnf)
       refine⟨(J0q g).length-(i+1),i+1,by omega,⟨rfl,by omega⟩,?_⟩;dsimp only;rw[hsl2,hse];refine J0e (fun env own=>[(0,some 0),(2,some 2),(3,some 3),(4,some 4),(5,Q8Z env 14)]) ?_ ?_ rfl
       . repeat' (first|exact tI|exact J0c.map rfl|(refine⟨⟨_,rfl,?_⟩,?_⟩)|exact J0c.kf rfl|exact J0c.q)
       . repeat' (first|exact⟨Nat.le_refl _,rfl,fun a b ha hb=>Q9i (J9H g i) _ _ _ a b rfl _ rfl rfl ha hb⟩|exact tI|exact⟨rfl,rfl⟩|(refine⟨⟨_,rfl,?_⟩,?_⟩)|exact J0c.kf rfl|(refine⟨Nat.le_refl _,rfl,fun i j hi hj=>?_⟩)|exact VLe.rfl|apply And.intro)
     | false =>
       rw[hch] at hfi;have hse:=X3z hin hch
       repeat' ((conv=>whnf);first|(refine Ix.w i ?_)|(refine Br.dec ?_ ?_<;>intro _<;>try omega)|(refine Ar.q ?_)|(refine X5p.of hfi ?_))
       all_goals (conv=>whnf)
       refine⟨(J0q g).length-(i+1),i+1,by omega,⟨rfl,by omega⟩,?_⟩;dsimp only;rw[hse];exact J0l (fun _ _=>[(0,some 0),(2,some 2),(3,some 3),(4,some 4),(5,some 5)])
   . have ei:i=(J0q g).length:=by omega
     subst ei
     repeat' ((conv=>whnf);first|(refine Br.dec ?_ ?_<;>intro _<;>try omega)|(refine Len.q ?_))
     all_goals (conv=>whnf)
     rw[Q2T];exact VLe.tup ⟨VLe.fz rfl (fun h=>h) (fun i j hi hj=>VLe.of_eq (by rw[J0D,Nat.zero_add])),VLe.rfl,True.intro⟩
end Go.Proofs.YtefdkgkojlflaaaGreatDoor
