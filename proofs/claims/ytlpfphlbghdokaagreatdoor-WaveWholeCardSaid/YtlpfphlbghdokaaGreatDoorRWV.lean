import Derived.Test.YtlpfphlbghdokaaGreatDoorTabB
namespace Go.Proofs.YtlpfphlbghdokaaGreatDoor
open Go.Eng
set_option maxRecDepth 100000
theorem X1s:evX tp 10000 100 23 [Q0o]=some X6E:=by kernel_rfl
set_option linter.unusedVariables false
theorem X2U:∀{l m:List Int},l.Nodup->(∀a∈l,a∈m)->l.length<=m.length
 | [],m,_,_=>Nat.zero_le _
 | a::l,m,hn,hs=>by
   rw[List.nodup_cons] at hn;have ham:=hs a (by simp);have h1:=X2U (l:=l) (m:=m.erase a) hn.2 (fun b hb=>(List.mem_erase_of_ne (fun e=>hn.1 (by rw[<- e];exact hb))).2 (hs b (by simp[hb])));have h2:=List.length_erase_of_mem ham;have h3:=List.length_pos_of_mem ham;simp only[List.length_cons];omega
def J4A (l:List Int):Nat->Int->Int
 | 0,i=>i
 | f+1,i=>if i∈l then J4A l f ((i+1) % 256) else i
def J5J (i:Int) (k:Nat):Int:=(i+k) % 256
theorem J6H {i:Int} {k:Nat}:(J5J i k+1) % 256=J5J i (k+1):=by rw[J5J,J5J];omega
theorem Q1n {l:List Int} (hl:l.length<256) (i:Int):¬ ∀j,j<256->J5J i j∈l:=by
 intro h;have h1:((List.range 256).map (J5J i)).Nodup:=by
  rw[List.nodup_iff_pairwise_ne,List.pairwise_map];refine List.Pairwise.imp_of_mem ?_ List.nodup_range;intro a b ha hb hne e;rw[List.mem_range] at ha hb;rw[J5J,J5J] at e;omega
 have h2:=X2U h1 (fun a ha=>by
  obtain⟨j,hj,rfl⟩:=List.mem_map.1 ha;exact h j (List.mem_range.1 hj))
 simp at h2;omega
def J6a (x:List Int):Nat->List Int
 | 0=>[]
 | v+1=>J6a x v++[J4A (J6a x v) 256 (J1a (gI x v) 256)]
theorem J3x (x:List Int):∀v,(J6a x v).length=v
 | 0=>rfl
 | v+1=>by rw[J6a,List.length_append,J3x x v];rfl
theorem J0R (a:Int) {b:Int} (hb:1<=b):0<=J1a a b/\J1a a b<b:=by
 have h1:=Int.tmod_lt_of_pos a (show(0:Int)<b by omega);have h2:=Int.tmod_lt_of_pos (-a) (show(0:Int)<b by omega);rw[Int.neg_tmod] at h2;rw[J1a,if_neg (by omega)];split<;>omega
theorem Q1m {l:List Int} {i:Int} (h0:0<=i) (h1:i<=255):∀f k,k+f=256->(∀j,j<k->J5J i j∈l)->l.length<256->0<=J4A l f (J5J i k)/\J4A l f (J5J i k)<=255/\J4A l f (J5J i k)∉l
 | 0,k,hk,hall,hl=>(Q1n hl i (fun j hj=>hall j (by omega))).elim
 | f+1,k,hk,hall,hl=>by
   rw[J4A];split
   . rename_i hm;rw[J6H];exact Q1m h0 h1 f (k+1) (by omega) (fun j hj=>by
      by_cases e:j=k
      . subst e;exact hm
      . exact hall j (by omega)) hl
   . rename_i hm;refine⟨?_,?_,hm⟩<;>(rw[J5J];omega)
theorem Q3t {i:Int} (h0:0<=i) (h1:i<=255):J5J i 0=i:=by rw[J5J];omega
theorem Q8a (x:List Int):∀v,v<=255->(∀a∈J6a x v,0<=a/\a<=255)/\(J6a x v).Nodup
 | 0,_=>⟨fun a h=>(by simp[J6a] at h),by simp[J6a]⟩
 | v+1,hv=>by
   obtain⟨i1,i2⟩:=Q8a x v (by omega);have hw:=J0R (gI x v) (b:=256) (by omega);have hf:=Q1m (l:=J6a x v) (i:=J1a (gI x v) 256) hw.1 (by omega) 256 0 rfl (fun j hj=>by omega) (by rw[J3x];omega);rw[Q3t hw.1 (by omega)] at hf;rw[J6a];refine⟨fun a ha=>?_,?_⟩
   . rcases List.mem_append.1 ha with h|h
     . exact i1 a h
     . have:a=J4A (J6a x v) 256 (J1a (gI x v) 256):=by simpa using h
       rw[this];exact⟨hf.1,hf.2.1⟩
   . rw[List.nodup_append];refine⟨i2,by simp,fun a ha b hb e=>?_⟩;have:b=J4A (J6a x v) 256 (J1a (gI x v) 256):=by simpa using hb
     rw[<- this,<- e] at hf;exact hf.2.2 ha
def ownN (x:Net) (n:Nat):Own:=[(0,.vec n 1 (vI (J6a x.ids n))),(1,.vec n 1 fun _ _=>.nilslice)]
def Net.n1 (x:Net):Int:=IntKind.i64.wrap (x.n-1)
def Net.size (x:Net) (most:Int):Nat:=(1+J1a x.n1 most).toNat
theorem J8C (l:List Int) (a:Int) (i:Nat):gI (l++[a]) i=if i<l.length then gI l i else if i=l.length then a else 0:=by
 by_cases h:i<l.length
 . simp only[gI,List.getD,List.getElem?_append_left h,if_pos h]
 . rw[if_neg h];by_cases h2:i=l.length
   . subst h2;simp[gI]
   . simp[gI,h2,List.getElem?_eq_none (by simp;omega:(l++[a]).length<=i)]
theorem Q92 (l:List Int) (a:Int) (n:Nat) (hn:l.length=n) (i j:Nat) (hi:i<n+1) (hj:j<1) :
 VLe (J5i (J0j 0 (vI l)) n (J0j 0 (tab [[.int .i64 a]])) i j) (vI (l++[a]) i j):=by
 apply VLe.of_eq;subst hn;by_cases h:i<l.length
 . rw[J2a h];simp only[J0j,vI,J8C,if_pos h]
 . rw[J2b h];have:i=l.length:=by omega
   subst this;obtain rfl:j=0:=by omega
   simp[J0j,vI,J8C,tab]
set_option maxHeartbeats 8000000 in
theorem X0R (x:Net) (hx:x.Small) (most:Int) (h1:1<=most) (h2:most<=24) :
 J0G Tryz.prog 19 [x.v,.int .i64 most] [] KS fun v own' _=>v=gV1 (x.size most) (x.size most)/\own'=ownN x (x.size most):=by
 have hw:=J2h x.n1 most (by omega);have hwr:=J0R x.n1 h1;have hn:1+J1a x.n1 most=(x.size most:Nat):=by rw[Net.size];omega
 have hsz:1<=x.size most/\x.size most<=24:=by omega
 have hids:=hx.ids;generalize x.size most=n at *;refine J1q ?_;refine J0c J0b Tryz.func19 rfl hc19 hr19 rfl ?_
 repeat' ((conv=>whnf);first|(refine Ar.mk x.n1 rfl ?_)|(refine Ar.i64 (by omega) (by omega) ?_;rw[hn])|(refine Bd.q ?_)|(refine Len.q ?_)|(refine MkS.vec ?_)|(refine hw.go ?_))
 all_goals (conv=>whnf)
 refine J01 J0b [2,4,5,6] [4] [5,6,7,8,9,10,11,12,13,14,15,16,17,18,19,20,21,22,23,24,25,26,27,28,29] [4,3,2,1,0] (fun v:Nat=>[(7,.int .i64 v)]) (fun own v=>(4,.vec v 1 (vI (J6a x.ids v)))::J1H own 3 (.cells [.vec 4 1 0 v,.vec 2 1 0 n])) (fun m v=>m=n-v/\v<=n) n 0 ⟨rfl,by omega⟩ rfl (fun _=>rfl) ?_ ?_
 . exact J0k (fun _ _=>[(0,some 0),(1,some 1),(2,some 2),(3,some 3),(4,none)])
 rintro m v ⟨hm,hv⟩;have hat:=X2a x.ids hids v;have hw2:=J2h (gI x.ids v) 256 (by omega);have hr2:=J0R (gI x.ids v) (b:=256) (by omega);have hil:=J3x x.ids v;have hsn:J6a x.ids (v+1)=J6a x.ids v++[J4A (J6a x.ids v) 256 (J1a (gI x.ids v) 256)]:=rfl;have htz:=Q3t hr2.1 (by omega);generalize J1a (gI x.ids v) 256=id0 at *;generalize hL:J6a x.ids v=L at *
 repeat' ((conv=>whnf);first|(refine Br.dec ?_ ?_<;>intro _<;>try omega)|(refine hat.go ?_)|(refine hw2.go ?_))
 all_goals (conv=>whnf)
 . refine J0N J0b [2,4,5,6,7] (fun p:Nat×Nat=>[(8,.int .i64 (J5J id0 p.1)),(9,.int .i64 p.2)]) (fun m p=>m=(256-p.1)*25+(v-p.2)/\p.1<=256/\p.2<=v/\(∀j,j<p.1->J5J id0 j∈L)/\(∀j,j<p.2->gI L j≠J5J id0 p.1)/\J4A L (256-p.1) (J5J id0 p.1)=J4A L 256 id0) _ (0,0) ⟨rfl,by omega,by omega,fun j hj=>(by omega),fun j hj=>(by omega),(by show J4A L 256 (J5J id0 0)=_;rw[htz])⟩ ?_ ?_
   . refine J0e (fun _ _=>[(0,some 0),(1,some 1),(2,some 2),(3,some 3),(4,some 4)]) ?_ ?_ rfl
     . repeat' (first|exact J0a.int htz.symm|exact tI|(refine⟨⟨_,rfl,?_⟩,?_⟩)|exact J0a.kf rfl|exact J0a.loc rfl)
     . repeat' (first|exact tI|(refine⟨⟨_,rfl,?_⟩,?_⟩)|exact J0a.kf rfl|exact J0a.q|(refine⟨Nat.le_refl _,rfl,fun i j hi hj=>?_⟩)|exact VLe.rfl|apply And.intro)
   rintro m ⟨k,u⟩ ⟨hm2,hk,hu,hall,hne,hfr⟩;simp only at hm2 hk hu hall hne hfr;have htr:0<=J5J id0 k/\J5J id0 k<=255:=by rw[J5J];omega
   have htn:(J5J id0 k+1).tmod 256=J5J id0 (k+1):=by rw[Int.tmod_eq_emod_of_nonneg (by omega),J6H]
   generalize hT:J5J id0 k=T at *
   repeat' ((conv=>whnf);first|(refine Br.dec ?_ ?_<;>intro _<;>try omega)|(refine Br.nbeq ?_ ?_<;>intro _<;>try omega)|(refine Ar.q ?_)|(refine Sv.mk _ rfl ?_)|(refine Nz.mk (by omega) ?_)|(refine Ix.q ?_)|(refine Len.q ?_)|(refine Ltn.q ?_))
   all_goals (conv=>whnf)
   . rename_i h3 h4;have hin:T∈L:=by rw[<- h4];exact J7l (by omega)
     have hk2:k<256:=by
      rcases Nat.lt_or_ge k 256 with h|h
      . exact h
      . exact(Q1n (l:=L) (by omega) id0 (fun j hj=>hall j (by omega))).elim
     refine⟨_,(k+1,0),?_,⟨rfl,by omega,by omega,fun j hj=>?_,fun j hj=>(by omega),?_⟩,?_⟩
     . simp only;omega
     . simp only at hj;by_cases e:j=k
       . subst e;rw[hT];exact hin
       . exact hall j (by omega)
     . simp only;rw[<- hfr,show 256-k=(256-(k+1))+1 by omega,J4A,if_pos hin,<- hT,J6H]
     . refine J0e (fun _ _=>[(0,some 0),(1,some 1),(2,some 2),(3,some 3),(4,some 4)]) ?_ ?_ rfl
       . repeat' (first|exact J0a.int htn|exact tI|(refine⟨⟨_,rfl,?_⟩,?_⟩)|exact J0a.kf rfl|exact J0a.loc rfl)
       . repeat' (first|exact tI|(refine⟨⟨_,rfl,?_⟩,?_⟩)|exact J0a.kf rfl|exact J0a.q|(refine⟨Nat.le_refl _,rfl,fun i j hi hj=>?_⟩)|exact VLe.rfl|apply And.intro)
   . rename_i h3 h4;refine⟨_,(k,u+1),?_,⟨rfl,hk,by omega,hall,fun j hj=>?_,by rw[hT];exact hfr⟩,?_⟩
     . simp only;omega
     . simp only at hj ⊢;rw[hT];by_cases e:j=u
       . subst e;simpa using h4
       . exact hne j (by omega)
     . refine J0e (fun _ _=>[(0,some 0),(1,some 1),(2,some 2),(3,some 3),(4,some 4)]) ?_ ?_ rfl
       . repeat' (first|exact J0a.int hT.symm|exact tI|(refine⟨⟨_,rfl,?_⟩,?_⟩)|exact J0a.kf rfl|exact J0a.loc rfl)
       . repeat' (first|exact tI|(refine⟨⟨_,rfl,?_⟩,?_⟩)|exact J0a.kf rfl|exact J0a.q|(refine⟨Nat.le_refl _,rfl,fun i j hi hj=>?_⟩)|exact VLe.rfl|apply And.intro)
   . have hno:T∉L:=fun h=>by
      obtain⟨j,j1,j2⟩:=Q8m h;exact hne j (by omega) j2
     have hfin:J4A L 256 id0=T:=by
      rw[<- hfr];cases h:256-k with
      | zero=>rfl
      | succ f=>rw[J4A,if_neg hno]
     rw[hfin] at hsn
     repeat' ((conv=>whnf);first|fail)
     all_goals (conv=>whnf)
     all_goals
      refine⟨n-(v+1),v+1,by omega,⟨rfl,by omega⟩,?_⟩;simp only[hsn];refine J0e (fun env own=>[(0,some 0),(1,some 1),(2,some 2),(3,some 3),(4,J9T own 3 0)]) ?_ ?_ rfl
      . repeat' (first|exact tI|(refine⟨⟨_,rfl,?_⟩,?_⟩)|exact J0a.kf rfl|exact J0a.loc rfl)
      . repeat' (first|(refine⟨Nat.le_refl _,rfl,fun i j hi hj=>?_⟩)|exact Q92 _ _ _ hil _ _ hi hj|exact tI|(refine⟨⟨_,rfl,?_⟩,?_⟩)|exact J0a.kf rfl|exact J0a.q|exact VLe.rfl|apply And.intro)
 . have e:v=n:=by omega
   subst e;exact Q0R (fun v o=>[(0,X5R v 0),(1,X5R v 1)]) _ _ ⟨rfl,rfl⟩ (J0a.agg ⟨J0a.vec rfl rfl rfl,J0a.vec rfl rfl rfl,True.intro⟩) ⟨⟨_,rfl,Nat.le_refl _,rfl,fun _ _ _ _=>VLe.of_eq (by rw[hL])⟩,⟨_,rfl,Nat.le_refl _,rfl,fun i j hi hj=>VLe.of_eq (by obtain rfl:j=0:=(by omega);rfl)⟩,True.intro⟩ rfl
theorem X66 {p:Ps} {r:List (Int×Int)} (h:r∈p):∃u,gR p u=r:=by
 obtain⟨i,hi,e⟩:=List.mem_iff_getElem.1 h;exact⟨i,by simp[gR,List.getD,hi,e]⟩
theorem Q3E {g:G} (h1:g.ids.length<=1000) (h2:g.ports.length<=1000) (h3:∀u,(gR g.ports u).length<=1000):g.Small :=
 ⟨by omega,by omega,fun r hr=>by obtain⟨u,rfl⟩:=X66 hr;have:=h3 u;omega⟩
theorem X0H {P:Program} {f:FuncId} {args args':List V} {X:V} (hk:J2O V.kf args'=true) (hl:LLe args' args) (h:Ret P f args X):Ret P f args' X:=fun own ks=>by
 constructor;intro M w σ us hlen hd hh;obtain⟨d1,d2⟩:=hl.dens (M:=M) (w:=w) (us:=us) hlen (fun i v u hv hu=>(hd i v u hv hu).kf (J0t hk v (List.mem_of_getElem? hv)) Sg.none);exact(h own ks).out M w σ us d1 (fun i v u hv hu=>(d2 i v u hv hu).mono (Ext.mk (fun _ _ h=>⟨h,rfl⟩) (Nat.le_refl _)) (Sg.none_le σ)) hh
theorem X4c {P:Program} {f:FuncId} {args:List V} {X X':V} (hk:X.kf=true) (hl:VLe X X') (h:Ret P f args X):Ret P f args X':=fun own ks=>by
 constructor;intro M w σ us hlen hd hh;refine((h own ks).out M w σ us hlen hd hh).mono ?_;rintro e w' ⟨M',σ',v,own',ks',u,rfl,hv,hh',tr,kd,rfl,rfl,rfl⟩;exact⟨M',σ',X',_,_,u,rfl,(hl.out _ _ _ (hv.kf hk Sg.none)).mono (Ext.mk (fun _ _ h=>⟨h,rfl⟩) (Nat.le_refl _)) (Sg.none_le σ'),hh',tr,kd,rfl,rfl,rfl⟩
def Q5O:Nat->(Nat->Prop)->Prop
 | 0,_=>True
 | n+1,P=>P 0/\Q5O n fun i=>P (i+1)
theorem Q5O.out:∀{n:Nat} {P:Nat->Prop},Q5O n P->∀i,i<n->P i
 | n+1,P,h,0,_=>h.1
 | n+1,P,h,i+1,hi=>Q5O.out h.2 i (by omega)
theorem Q58 {n s:Nat} {f g:Nat->Nat->V} (h:Q5O n fun i=>Q5O s fun j=>VLe (f i j) (g i j)):VLe (.fz n s false f) (.fz n s false g) :=
 VLe.fz rfl (fun h=>h) fun i j hi hj=>(h.out i hi).out j hj
theorem Q57 {a b:ByteArray} (h:a=b):VLe (.str a) (.str b):=by subst h;exact .rfl
theorem X3y:VLe J0q.v Q3a.v:=by
 repeat' (first|exact tI|exact VLe.rfl|exact Q57 (by kernel_rfl)|(refine VLe.agg ?_)|(refine Q58 ?_)|apply And.intro)
theorem X5J:VLe Q3a.v J0q.v:=by
 repeat' (first|exact tI|exact VLe.rfl|exact Q57 (by kernel_rfl)|(refine VLe.agg ?_)|(refine Q58 ?_)|apply And.intro)
theorem Q50:Ret Tryz.prog 58 [J0q.v] (.int .i64 0):=by
 have h:=J7w J0b X6p Q4p;exact X0H (args:=[Q3a.v]) rfl ⟨X3y,True.intro⟩ (by simpa only[C.vs,C.v] using h)
theorem Q51:Ret Tryz.prog 69 [J0q.v] (.bool true):=by
 refine J0g rfl ?_;refine J0c J0b Tryz.func69 rfl hc69 hr69 rfl ?_
 repeat' ((conv=>whnf);first|(refine Br.tt ?_)|(refine Q50.go ?_))
 all_goals (conv=>whnf)
 exact VLe.rfl
def X5S:ByteArray:=match Q0o with | .str l c=>J0r l c|_=>default
theorem Q6t:Ret Tryz.prog 15 [] (.str X5S):=by
 have:=J7w J0b X0o X40;simpa only[C.vs,C.v,Q0o,X5S] using this
theorem X0N:Ret Tryz.prog 23 [.str X5S] (.tup [Q3a.v,.int .i64 0,.int .i64 0]):=by
 have:=J7w J0b X8Y X1s;simpa only[C.vs,C.v,Q0o,X5S,X6E] using this
theorem Q65:Ret Tryz.prog 23 [.str X5S] (.tup [J0q.v,.int .i64 0,.int .i64 0]) :=
 X4c (X:=.tup [Q3a.v,.int .i64 0,.int .i64 0]) rfl (VLe.tup ⟨X5J,VLe.rfl,VLe.rfl,True.intro⟩) X0N
theorem J8q:Ret Tryz.prog 6 [.str X5S] J0q.v:=by
 refine J0g rfl ?_;refine J0c J0b Tryz.func6 rfl hc6 hr6 rfl ?_
 repeat' ((conv=>whnf);first|(refine Q65.go ?_))
 all_goals (conv=>whnf)
 exact VLe.rfl
theorem J6e:J2p J0q where
 vlen:=by decide
 var:=fun i hi=>by
  rcases (show i=0\/i=1\/i=2\/i=3 by have:i<4:=hi;omega) with rfl|rfl|rfl|rfl
  . exact⟨.inl rfl,by decide,by decide,by decide,by decide,by decide⟩
  . exact⟨.inr (.inr rfl),by decide,by decide,by decide,by decide,by decide⟩
  . exact⟨.inr (.inl rfl),by decide,by decide,by decide,by decide,by decide⟩
  . exact⟨.inr (.inl rfl),by decide,by decide,by decide,by decide,by decide⟩
 rlen:=by decide
 gd:=fun i hi=>by
  rcases (show i=0\/i=1\/i=2\/i=3\/i=4 by have:i<5:=hi;omega) with rfl|rfl|rfl|rfl|rfl
  all_goals decide
 slen:=fun i hi=>by
  rcases (show i=0\/i=1\/i=2\/i=3\/i=4 by have:i<5:=hi;omega) with rfl|rfl|rfl|rfl|rfl
  all_goals decide
 set:=fun i hi j hj=>by
  rcases (show i=0\/i=1\/i=2\/i=3\/i=4 by have:i<5:=hi;omega) with rfl|rfl|rfl|rfl|rfl
  . rcases (show j=0\/j=1 by have:j<2:=hj;omega) with rfl|rfl<;>decide
  . rcases (show j=0\/j=1 by have:j<2:=hj;omega) with rfl|rfl<;>decide
  . rcases (show j=0\/j=1 by have:j<2:=hj;omega) with rfl|rfl<;>decide
  . rcases (show j=0\/j=1 by have:j<2:=hj;omega) with rfl|rfl<;>decide
  . (obtain rfl:j=0:=by have:j<1:=hj;omega);decide
 types:=Q51
open Go.Eng Go.Plain
theorem Q4V {g:G} (h:g.conn=true) {c:Cf} {k:Cnt} (hi:WIn g c k) (hn:¬ X56 g c):(k.rounds:Int)+1<=2*g.ecc+2:=by
 obtain⟨e1,e2⟩:=Q1u g h;rcases hi with ⟨hr,ho,hb⟩ | ⟨hT,j,hr,hl⟩
 . omega
 . obtain⟨v,hv,h0,hb⟩:=Q37 hT hn;have hlt:j<Dg g v:=Nat.lt_of_not_le fun q=>hb (hl.ok v hv h0 q);have:=(Q6o h).top v hv;omega
theorem Q9U {g:G} (h:g.conn=true):X8i J0q g 3 g.wleg (2*g.ecc+2) (WIn g) where
 closed c s hc hl hs:=(J6d h (J1Q J6e (J0o h).1 hc hs.part)).2 (Q7U h hc ((J6d h hc).1 hl) hs.part)
 en c hc hl:=X4v h hc (fun q=>by rw[(J6d h hc).2 q] at hl;cases hl)
 start c hc _:=Q5Y h hc
 step c n s hc hi hl hs hl':=Q9R h hc hi hs.part (J1Q J6e (J0o h).1 hc hs.part)
 rounds c n hc hi hl:=Q4V h hi (fun q=>by rw[(J6d h hc).2 q] at hl;cases hl)
theorem J7a (bk:Bool) (p:Ps) (a b:Nat) (w:Int):(J3h bk p a b w).length=p.length:=by
 rw[J3h];split<;>simp
theorem Q7O (bk:Bool) (p:Ps) {a b:Nat} (w:Int) (ha:a<p.length) (hb:b<p.length) (u:Nat):(gR (J3h bk p a b w) u).length<=(gR p u).length+1:=by
 rw[J3h];split
 . omega
 . rename_i h;have hab:¬ a=b:=fun e=>h (.inl e);have hl:∀r l,(J93 bk r l).length=r.length+1:=fun r l=>by rw[J93];split<;>simp
   rw[J4n _ b _ (by simpa using hb),J4n p a _ ha];split
   . rename_i e;subst e;rw[hl];omega
   . split
     . rename_i e;subst e;rw[hl];omega
     . omega
def wgt (x:Net) (i:Nat):Int:=1+J1a (gI x.weights i) 15
def J14 (x:Net) (n:Nat):Nat->Ps
 | 0=>List.replicate n []
 | k+1=>J3h x.back (J14 x n k) (J1a (gI x.links k) ((k:Int)+1)).toNat (k+1) (wgt x k)
theorem J1w (x:Net) (n:Nat):∀k,(J14 x n k).length=n
 | 0=>by simp[J14]
 | k+1=>by rw[J14,J7a,J1w x n k]
theorem J88 (x:Net) (k:Nat):(J1a (gI x.links k) ((k:Int)+1)).toNat<k+1:=by
 have:=J0R (gI x.links k) (b:=(k:Int)+1) (by omega);omega
theorem J9n (n u:Nat):gR (List.replicate n []) u=[]:=by
 simp only[gR,List.getD,List.getElem?_replicate];split<;>rfl
theorem Q0m (x:Net) (n:Nat):∀k,k<n->∀u,(gR (J14 x n k) u).length<=k
 | 0,_,u=>by rw[J14,J9n];simp
 | k+1,hk,u=>by
   have h1:=J88 x k;have h2:=Q7O x.back (J14 x n k) (wgt x k) (a:=(J1a (gI x.links k) ((k:Int)+1)).toNat) (b:=k+1) (by rw[J1w];omega) (by rw[J1w];exact hk) u;have h3:=Q0m x n k (by omega) u;rw[J14];omega
abbrev X6Y (I:List Int) (p:Ps):Own:=X8z ⟨I,p⟩
theorem X3I (ρ:Rn) (n:Nat):X5P ρ (.vec n 1 fun _ _=>.nilslice) (X52 (List.replicate n [])):=⟨by simp,rfl,rfl,fun i hi=>⟨rfl,by rw[Q1Z,J9n];rfl⟩⟩
theorem Q2I (ρ:Rn) (p:Ps):X5P ρ (X52 p) (X52 p):=⟨rfl,rfl,True.intro,fun i hi=>rfl,fun i j t hi hn hj ht=>VLe.rfl⟩
set_option maxHeartbeats 8000000 in
theorem X3O (x:Net) (hx:x.Small) (most:Int) (h1:1<=most) (h2:most<=24) :
 J0G Tryz.prog 5 [x.v,.int .i64 most] [] KS fun v own' _=>v=gV1 (x.size most) (x.size most)/\own'=X6Y (J6a x.ids (x.size most)) (J14 x (x.size most) (x.size most-1)):=by
 have hn:=X0R x hx most h1 h2;have hsz:1<=x.size most/\x.size most<=24:=by
  have:=J0R x.n1 h1;rw[Net.size];omega
 have hll:=hx.links;have hwl:=hx.weights;generalize x.size most=n at *;have hil:=J3x x.ids n;refine J1q ?_;refine J0c J0b Tryz.func5 rfl hc5 hr5 rfl ?_
 repeat' ((conv=>whnf);first|(refine J12 [] [0,1] (hn.mono ?_) ⟨J0a.kf rfl,J0a.kf rfl,True.intro⟩ True.intro rfl;rintro _ _ _ ⟨rfl,rfl⟩)|(refine Chk.mk rfl ?_))
 all_goals (conv=>whnf)
 refine J01 J0b [2,4,5] [3] [5,6,7,8,9,10,11,12,13,14,15,16,17,18,19,20,21,22,23,24,25,26,27,28,29] [4,2,3,1,0] (fun k:Nat=>[(6,.int .i64 ((k:Int)+1))]) (fun own k=>J1H own 3 (X52 (J14 x n k))) (fun m k=>m=n-1-k/\k<=n-1) (n-1) 0 ⟨rfl,by omega⟩ rfl (fun _=>rfl) ?_ ?_
 . refine J0e (fun _ _=>[(0,some 0),(1,some 1),(2,some 2),(3,some 3),(4,some 4)]) ?_ ?_ rfl
   . repeat' (first|exact tI|(refine⟨⟨_,rfl,?_⟩,?_⟩)|exact J0a.kf rfl|exact J0a.loc rfl)
   . repeat' (first|exact X3I _ _|exact tI|(refine⟨⟨_,rfl,?_⟩,?_⟩)|exact J0a.kf rfl|exact J0a.q|(refine⟨Nat.le_refl _,rfl,fun i j hi hj=>?_⟩)|exact VLe.rfl|apply And.intro)
 rintro m k ⟨hm,hk⟩;have hln:=J1w x n k;by_cases hkn:k<n-1
 . have ha1:=X2a x.links hll k;have ha2:=X2a x.weights hwl k;have hw1:=J2h (gI x.links k) ((k:Int)+1) (by omega);have hw2:=J2h (gI x.weights k) 15 (by omega);have hr1:=J0R (gI x.links k) (b:=(k:Int)+1) (by omega);have hr2:=J0R (gI x.weights k) (b:=15) (by omega);have hrow:=Q0m x n k (by omega);have hl:=X4u x ⟨J6a x.ids n,J14 x n k⟩ (Q3E (by show(J6a x.ids n).length<=_;omega) (by show(J14 x n k).length<=_;omega) (fun u=>by have:=hrow u;show(gR (J14 x n k) u).length<=_;omega)) (fun u=>by have:=hrow u;show(gR (J14 x n k) u).length<=_;omega) (J1a (gI x.links k) ((k:Int)+1)).toNat (k+1) (by show _<(J14 x n k).length;omega) (by show _<(J14 x n k).length;omega) (wgt x k);have hnx:J3h x.back (J14 x n k) (J1a (gI x.links k) ((k:Int)+1)).toNat (k+1) (wgt x k)=J14 x n (k+1):=rfl;have hwg:wgt x k=1+J1a (gI x.weights k) 15:=rfl;simp only[hnx,hil,hln] at hl;generalize J1a (gI x.links k) ((k:Int)+1)=a at *;generalize J1a (gI x.weights k) 15=w at *
   repeat' ((conv=>whnf);first|(refine Ar.i64 (by omega) (by omega) ?_;rw[show(k:Int)+1-1=(k:Int) by omega])|(refine Br.dec ?_ ?_<;>intro _<;>try omega)|(refine Ar.q ?_)|(refine ha1.go ?_)|(refine ha2.go ?_)|(refine hw1.go ?_)|(refine hw2.go ?_)|(refine And.intro rfl ?_)|(refine J12 [(0,some 2),(1,some 3)] [] (hl.mono ?_) ⟨J0a.kf rfl,J0a.agg ⟨J0a.vec rfl rfl rfl,J0a.vec rfl rfl rfl,True.intro⟩,J0a.int (by omega),J0a.int (by omega),J0a.int (by omega),True.intro⟩ ⟨⟨_,rfl,Nat.le_of_eq hil,rfl,fun _ _ _ _=>VLe.rfl⟩,⟨_,rfl,Q2I _ _⟩,True.intro⟩ rfl;rintro _ _ _ ⟨rfl,rfl⟩)|(refine Chk.mk rfl ?_))
   all_goals (conv=>whnf)
   all_goals
    refine⟨n-1-(k+1),k+1,by omega,⟨rfl,by omega⟩,?_⟩;refine J0e (fun _ _=>[(0,some 0),(1,some 1),(2,some 2),(3,some 3),(4,some 4)]) ?_ ?_ rfl
    . repeat' (first|exact tI|(refine⟨⟨_,rfl,?_⟩,?_⟩)|exact J0a.kf rfl|exact J0a.loc rfl)
    . repeat' (first|exact Q2I _ _|exact⟨Nat.le_of_eq hil.symm,rfl,fun _ _ _ _=>VLe.rfl⟩|exact tI|(refine⟨⟨_,rfl,?_⟩,?_⟩)|exact J0a.kf rfl|exact J0a.q|apply And.intro)
 . have e:k=n-1:=by omega
   subst e
   repeat' ((conv=>whnf);first|(refine Br.dec ?_ ?_<;>intro _<;>try omega))
   all_goals (conv=>whnf)
   exact Q0R (fun v o=>[(0,X5R v 0),(1,X5R v 1)]) _ _ ⟨rfl,rfl⟩ (J0a.agg ⟨J0a.vec rfl rfl rfl,J0a.vec rfl rfl rfl,True.intro⟩) ⟨⟨_,rfl,Nat.le_of_eq hil,rfl,fun _ _ _ _=>VLe.rfl⟩,⟨_,rfl,Q2I _ _⟩,True.intro⟩ rfl
def J72 (x:Net) (n:Nat) (p:Ps):Nat->Ps
 | 0=>p
 | k+1=>J3h x.back (J72 x n p k) (J1a (gI x.links (n+2*k)) n).toNat (J1a (gI x.links (n+2*k+1)) n).toNat (wgt x (n+2*k))
def X01 (x:Net) (n:Nat):Nat:=min ((x.links.length-n) / 2) ((61-n) / 2)
theorem J3f (x:Net) (n:Nat) (p:Ps):∀k,(J72 x n p k).length=p.length
 | 0=>rfl
 | k+1=>by rw[J72,J7a,J3f x n p k]
theorem J4K {a:Int} {n:Nat} (hn:1<=n):(J1a a n).toNat<n:=by
 have:=J0R a (b:=(n:Int)) (by omega);omega
theorem Q2h (x:Net) {most:Int} (h1:1<=most):1<=x.size most/\(x.size most:Int)<=most:=by
 have:=J0R x.n1 h1;rw[Net.size];omega
def Net.con (x:Net) (most:Int):G:=⟨J6a x.ids (x.size most),J72 x (x.size most) (J14 x (x.size most) (x.size most-1)) (X01 x (x.size most))⟩
def Net.any (x:Net) (most:Int):G:=if x.apart then⟨J6a x.ids (x.size most),J72 x (x.size most) (List.replicate (x.size most) []) (X01 x (x.size most))⟩ else x.con most
theorem X6j {g:G} {n:Nat} (h1:g.ids.length=n) (h2:g.ports.length=n):VLe (V.agg [.fz n 1 false (J0j 0 (vI g.ids)),.fz n 1 false fun i _=>.fz (Q1Z g.ports i) 2 false (Q3K g.ports i)]) g.v:=by
 refine VLe.agg ⟨?_,?_,True.intro⟩
 . exact VLe.fz h1.symm (fun h=>h) (fun i j hi hj=>VLe.of_eq (by simp[J0j]))
 . exact VLe.fz h2.symm (fun h=>h) (fun i j hi hj=>VLe.rfl)
theorem Y0J {g:G} {n:Nat} (h1:g.ids.length=n) (h2:g.ports.length=n):Q4j (X8z g) (gV1 n n) fun v=>VLe v g.v :=
 ⟨by rw[Nat.zero_add,h1];exact Nat.le_refl _,Nat.le_of_eq h2.symm,X6j h1 h2⟩
theorem Q2Q (x:Net) (most:Int):(x.con most).ids.length=x.size most/\(x.con most).ports.length=x.size most:=⟨J3x _ _,(J3f _ _ _ _).trans (J1w _ _ _)⟩
structure PV (p:Ps):Prop where
 ok:∀v,v<p.length->okR p.length v (gR p v)=true
 sym:∀v,v<p.length->∀l∈gR p v,((v:Int),l.2)∈gR p l.1.toNat
theorem J1V {bk:Bool} {r:List (Int×Int)} {x l:Int×Int}:l∈J93 bk r x↔l=x\/l∈r:=by
 rw[J93];split
 . simp
 . simp only[List.mem_append,List.mem_singleton];exact⟨Or.symm,Or.symm⟩
theorem J8v {bk:Bool} {r:List (Int×Int)} {x:Int×Int} (h:(r.map (·.1)).Nodup) (hx:∀l∈r,l.1≠x.1):((J93 bk r x).map (·.1)).Nodup:=by
 have hn:x.1∉r.map (·.1):=fun hm=>by
  obtain⟨l,h1,h2⟩:=List.mem_map.1 hm;exact hx l h1 h2
 rw[J93];split
 . rw[List.map_cons,List.nodup_cons];exact⟨hn,h⟩
 . rw[List.map_append,List.nodup_append];refine⟨h,by simp,fun a ha b hb e=>hn ?_⟩;have:b=x.1:=by simpa using hb
   rw[<- this,<- e];exact ha
theorem X6B (n:Nat):PV (List.replicate n []):=⟨fun v _=>by rw[J9n];rfl,fun v _ l hl=>by rw[J9n] at hl;cases hl⟩
theorem Q61 {bk:Bool} {p:Ps} (h:PV p) {a b:Nat} {w:Int} (ha:a<p.length) (hb:b<p.length) (hw:1<=w/\w<=15):PV (J3h bk p a b w):=by
 have hlen:=J7a bk p a b w;rw[J3h] at hlen ⊢;split
 . exact h
 . rename_i hc;rw[if_neg hc] at hlen;have hab:a≠b:=fun e=>hc (.inl e);have hnl:∀l∈gR p a,l.1≠b:=fun l hl e=>hc (.inr (by rw[lnk,List.any_eq_true];exact⟨l,hl,by simpa using e⟩));have hnl2:∀l∈gR p b,l.1≠a:=fun l hl e=>by
    have:=h.sym b hb l hl;rw[e] at this;exact hnl _ this rfl
   have hg:∀v,gR ((p.set a (J93 bk (gR p a) ((b:Int),w))).set b (J93 bk (gR p b) ((a:Int),w))) v=if v=b then J93 bk (gR p b) ((a:Int),w) else if v=a then J93 bk (gR p a) ((b:Int),w) else gR p v:=fun v=>by
    rw[J4n _ b _ (by simpa using hb),J4n p a _ ha]
   constructor
   . intro v hv;rw[hlen] at hv ⊢;rw[hg];split
     . rename_i e;subst e;obtain⟨o1,o2⟩:=J1s.1 (h.ok v hv);refine J1s.2 ⟨fun l hl=>?_,J8v o2 hnl2⟩;rcases J1V.1 hl with rfl|hl
       . simp only;omega
       . exact o1 l hl
     . split
       . rename_i e;subst e;obtain⟨o1,o2⟩:=J1s.1 (h.ok v hv);refine J1s.2 ⟨fun l hl=>?_,J8v o2 hnl⟩;rcases J1V.1 hl with rfl|hl
         . simp only;omega
         . exact o1 l hl
       . exact h.ok v hv
   . intro v hv l hl;rw[hlen] at hv;have old:∀u x,x∈gR p u->x∈gR ((p.set a (J93 bk (gR p a) ((b:Int),w))).set b (J93 bk (gR p b) ((a:Int),w))) u:=fun u x hx=>by
      rw[hg];split
      . rename_i e;subst e;exact J1V.2 (.inr hx)
      . split
        . rename_i e;subst e;exact J1V.2 (.inr hx)
        . exact hx
     rw[hg] at hl;split at hl
     . rename_i e;subst e;rcases J1V.1 hl with rfl|hl
       . simp only[Int.toNat_natCast];rw[hg,if_neg hab,if_pos rfl];exact J1V.2 (.inl rfl)
       . exact old _ _ (h.sym v hv l hl)
     . split at hl
       . rename_i e;subst e;rcases J1V.1 hl with rfl|hl
         . simp only[Int.toNat_natCast];rw[hg,if_pos rfl];exact J1V.2 (.inl rfl)
         . exact old _ _ (h.sym v hv l hl)
       . exact old _ _ (h.sym v hv l hl)
theorem X2k (x:Net) (i:Nat):1<=wgt x i/\wgt x i<=15:=by
 have:=J0R (gI x.weights i) (b:=15) (by omega);rw[wgt];omega
theorem Q2n (x:Net) (n:Nat):∀k,k<n->PV (J14 x n k)
 | 0,_=>X6B n
 | k+1,hk=>by
   have h1:=J88 x k;rw[J14];exact Q61 (Q2n x n k (by omega)) (by rw[J1w];omega) (by rw[J1w];exact hk) (X2k x k)
theorem Q60 (x:Net) {n:Nat} (hn:1<=n) {p:Ps} (hp:p.length=n) (h:PV p):∀k,PV (J72 x n p k)
 | 0=>h
 | k+1=>by
   rw[J72];exact Q61 (Q60 x hn hp h k) (by rw[J3f,hp];exact J4K hn) (by rw[J3f,hp];exact J4K hn) (X2k x _)
theorem Q99 {I:List Int} {p:Ps} {n:Nat} (h1:1<=n) (h2:n<=24) (hI:I.length=n) (hp:p.length=n) (h3:∀a∈I,0<=a/\a<=255) (h4:I.Nodup) (h:PV p):(⟨I,p⟩:G).valid=true:=by
 rw[G.valid,Bool.and_eq_true,Bool.and_eq_true,decide_eq_true_eq];refine⟨⟨by show 1<=I.length;omega,by show I.length<=24;omega,by show p.length=I.length;omega⟩,(J48 _).2 ⟨h3,h4⟩,?_⟩;rw[J23,Bool.and_eq_true];exact⟨J33.2 h.ok,J6J.2 h.sym⟩
theorem Q8Y (x:Net) {most:Int} (h1:1<=most) (h2:most<=24):(x.con most).valid=true:=by
 have hs:=Q2h x h1;have hi:=Q8a x.ids (x.size most) (by omega);exact Q99 hs.1 (by omega) (Q2Q x most).1 (Q2Q x most).2 hi.1 hi.2 (Q60 x hs.1 (J1w _ _ _) (Q2n x _ _ (by omega)) _)
theorem Q2c {g:G} (h:g.valid=true):g.Small:=by
 obtain⟨f1,f2,f3,f4,f5,f6,f7⟩:=J0f h;refine Q3E (by omega) (by omega) (fun u=>?_);by_cases hu:u<g.ports.length
 . have:=Q2s hu (f6 u hu);omega
 . have:gR g.ports u=[]:=by simp[gR,List.getD,List.getElem?_eq_none (Nat.le_of_not_lt hu)]
   rw[this];simp
def t3:G:=⟨[0,1,2],[[(1,1)],[(0,1),(2,1)],[(1,1)]]⟩
theorem X8S:Ret Tryz.prog 21 [.int .i64 0,.int .i64 1] (.int .i64 0):=J2h 0 1 (by decide)
theorem X8R:Ret Tryz.prog 21 [.int .i64 1,.int .i64 2] (.int .i64 1):=J2h 1 2 (by decide)
theorem X1I (c:Cf) (hc:c.length<=1000) (hr:∀v,v<c.length->(gC c v).length<=1000):Ret Tryz.prog 153 [cV c] (cV c):=by
 refine J0g rfl ?_;refine(Q8T c hc hr).mono ?_;rintro v own' _ ⟨rfl,rfl⟩
 conv=>whnf
 refine Len.mk (by omega) ?_;exact VLe.fz rfl (fun h=>h) (fun i j hi hj=>VLe.of_eq (by rw[J0w,Nat.zero_add]))
theorem Q6W (p:Pr) (hp:J2p p) (g:G) (hs:g.Small) (hg:g.valid=true) (c:Cf) (hc:J1u p g c) (k:Int) (hk:dk k=true) (n:Nat) (hn:n<=4096):Ret Tryz.prog 82 [p.v,g.v,.int .i64 k,cV c,.int .i64 n] (.int .i64 0):=by
 have h1:=X1R p hp g hs hg c hc;have h2:=Q1v k;rw[hk] at h2;refine J0g rfl ?_;refine J0c J0b Tryz.func82 rfl hc82 hr82 rfl ?_
 repeat' ((conv=>whnf);first|(refine Br.tt ?_)|(refine Br.ff ?_)|(refine Br.dec ?_ ?_<;>intro _<;>try omega)|(refine h1.go ?_)|(refine h2.go ?_))
 all_goals (conv=>whnf)
 all_goals exact VLe.rfl
theorem X21 (p:Pr) {g:G} (hg:g.valid=true) (c:Cf):J20 .and .u32 (enN p g c:Int) (J15 g.ids.length:Nat)=(enN p g c:Nat):=by
 obtain⟨f1,f2,f3,f4,f5,f6,f7⟩:=J0f hg;rw[J0W (J6b p hg c) (by rw[J15];exact X0W _ (by omega))];congr 1;apply Nat.eq_of_testBit_eq;intro i;rw[Nat.testBit_and];cases e:(enN p g c).testBit i with
 | false=>rfl
 | true =>
   have:=J4B p hg c i e;rw[f3] at this;rw[this];rfl
structure X5N where
 c:Cf
 n:Cnt
 pre:List (Cf×Cnt)
 ch:List Nat
 en:List Nat
structure X8j (p:Pr) (g:G) (k:Int) (c0:Cf) (n0:Cnt) (ws:List Nat) (x:X5N):Prop where
 le:x.ch.length<=ws.length
 conf:J1u p g x.c
 ok:x.n.Ok
 steps:x.n.steps=x.ch.length
 pl:x.pre.length=x.ch.length
 el:x.en.length=x.ch.length+1
 tot:trc p g k c0 n0 ws=x.pre++trc p g k x.c x.n (ws.drop x.ch.length)
 cho:X1P p g k c0 ws=x.ch++X1P p g k x.c (ws.drop x.ch.length)
def cntC (k:Cnt):List V:=[.int .i64 k.steps,.int .i64 k.moves,.int .i64 k.rounds,.int .i64 k.begun,.int .u32 k.pend]
theorem J8Z {ws:List Nat} {i:Nat} (h:i<ws.length):ws.drop i=ws.getD i 0::ws.drop (i+1):=by
 rw[List.drop_eq_getElem_cons h];simp[List.getD,h]
theorem Q6H {p:Pr} {g:G} (hg:g.valid=true) {k:Int} {c:Cf} (hc:J1u p g c) (ws:List Nat):X8j p g k c (J7X (enN p g c)) ws ⟨c,J7X (enN p g c),[],[],[enN p g c]⟩ :=
 ⟨Nat.zero_le _,hc,X5g (J9J p hg c),rfl,rfl,rfl,rfl,rfl⟩
theorem X0B {p:Pr} (hp:J2p p) {g:G} (hg:g.valid=true) {k:Int} (hk:dk k=true) {c0:Cf} {n0:Cnt} {ws:List Nat} (hl:ws.length<=4000) {x:X5N} (hx:X8j p g k c0 n0 ws x) (hi:x.ch.length<ws.length) (h0:enN p g x.c≠0) :
 X8j p g k c0 n0 ws ⟨nxC p g k x.c (ws.getD x.ch.length 0),nxK p g k x.c x.n (ws.getD x.ch.length 0),x.pre++[(x.c,x.n)],x.ch++[chC p g k x.c (ws.getD x.ch.length 0)],x.en++[enN p g (nxC p g k x.c (ws.getD x.ch.length 0))]⟩:=by
 obtain⟨k1,k2⟩:=Y0Q hg hk hx.ok (by have:=hx.steps;omega) (ws.getD x.ch.length 0) h0 (k:=k);have ht:=hx.tot;have hc:=hx.cho;rw[J8Z hi,trc,if_neg h0] at ht;rw[J8Z hi,X1P,if_neg h0] at hc;refine⟨by simp only[List.length_append,List.length_singleton];omega,Q7i hp hg hk hx.conf _ h0,k1,?_,?_,?_,?_,?_⟩
 . simp only[List.length_append,List.length_singleton];rw[k2,hx.steps]
 . simp only[List.length_append,List.length_singleton];rw[hx.pl]
 . simp only[List.length_append,List.length_singleton];rw[hx.el]
 . simp only[List.length_append,List.length_singleton];rw[ht];simp
 . simp only[List.length_append,List.length_singleton];rw[hc];simp
theorem X36 {p:Pr} {g:G} {k:Int} {c0:Cf} {n0:Cnt} {ws:List Nat} {x:X5N} (hx:X8j p g k c0 n0 ws x) (h:x.ch.length=ws.length\/enN p g x.c=0):trc p g k c0 n0 ws=x.pre++[(x.c,x.n)]/\X1P p g k c0 ws=x.ch:=by
 have ht:=hx.tot;have hc:=hx.cho;by_cases e:x.ch.length<ws.length
 . have h0:enN p g x.c=0:=by rcases h with h|h;omega;exact h
   rw[J8Z e,trc,if_pos h0] at ht;rw[J8Z e,X1P,if_pos h0] at hc;exact⟨ht,by simpa using hc⟩
 . rw[List.drop_of_length_le (by omega)] at ht hc;exact⟨ht,by simpa[X1P] using hc⟩
theorem Q59 (l:List Nat) (a:Nat) (F:Nat->Nat->V) (x:Int) (hF:F 0 0=.int .u32 x) (hx:x=a) (i j:Nat) (hi:i<(l++[a]).length) (hj:j<1):VLe (J5i (J0j 0 (vU7 l)) l.length (J0j 0 F) i j) (vU7 (l++[a]) i j):=by
 obtain rfl:j=0:=by omega
 apply VLe.of_eq;simp only[List.length_append,List.length_singleton] at hi;by_cases h:i<l.length
 . rw[J2a h,J0w,Nat.zero_add];simp[vU7,List.getD,List.getElem?_append_left h]
 . rw[J2b h];have:i=l.length:=by omega
   subst this;simp[J0j,hF,vU7,hx]
theorem X6g {X:V} {F:Nat->Nat->V} (h:F 0 0=X) (i j:Nat) (hi:i<1) (hj:j<1):VLe (J0j 0 (tab [[X]]) i j) (F i j):=by
 obtain rfl:i=0:=by omega
 obtain rfl:j=0:=by omega
 rw[h];exact VLe.rfl
def X8X (ch en:List Nat) (c:Cf) (n:Cnt):V:=.agg [.fz ch.length 1 false (vU7 ch),.fz en.length 1 false (vU7 en),cV c,.int .i64 n.steps,.int .i64 n.moves,.int .i64 n.rounds,.int .i64 n.begun,.int .u32 n.pend]
structure FolI (p:Pr) (g:G) (k:Int) (c0:Cf) (n0:Cnt) (ws:List Nat) (x:X5N):Prop where
 run:X8j p g k c0 n0 ws x
 ens:x.en=x.pre.map (fun y=>enN p g y.1)++[enN p g x.c]
theorem X7b {p:Pr} {g:G} {k:Int} {c0:Cf} {n0:Cnt} {ws:List Nat} {x:X5N} (h:trc p g k c0 n0 ws=x.pre++[(x.c,x.n)]):J4j (trc p g k c0 n0 ws)=x.c:=by
 rw[h];simp[J4j]
theorem X4y {p:Pr} {g:G} {k:Int} {c0:Cf} {n0:Cnt} {ws:List Nat} {x:X5N} (h:trc p g k c0 n0 ws=x.pre++[(x.c,x.n)]):((trc p g k c0 n0 ws).getLast?.getD default).2=x.n:=by
 rw[h];simp
def Y2G (p:Pr) (g:G) (L:List (Cf×Cnt)):List Nat:=L.map fun x=>enN p g x.1
def X8A (p:Pr) (g:G) (k:Int) (c:Cf) (n:Cnt) (ws:List Nat):V:=X8X (X1P p g k c ws) (Y2G p g (trc p g k c n ws)) (J4j (trc p g k c n ws)) ((trc p g k c n ws).getLast?.getD default).2
set_option maxHeartbeats 16000000 in
theorem Q8u (p:Pr) (hp:J2p p) (g:G) (hs:g.Small) (hg:g.valid=true) (k:Int) (hk:dk k=true) (c:Cf) (hc:J1u p g c) (ws:List Nat) (hwl:ws.length<=1000) (hw:∀w∈ws,w<4294967296) :
 RG 52 [p.v,g.v,.int .i64 k,cV c,.fz ws.length 1 false (vU7 ws)] (.tup [X8A p g k c (J7X (enN p g c)) ws,.int .i64 0]):=by
 obtain⟨f1,f2,f3,f4,f5,f6,f7⟩:=J0f hg;have hcl:=hc.len;have hvl:=hp.vlen;have h1:=Q6W p hp g hs hg c hc k hk ws.length (by omega);have h2:=Q3V p hp g hg;have h3:=Q0V g hs hg;have h4:=X8e g hg;have h5:=X1I c (by omega) (fun v hv=>by have:=hc.row v hv;omega);have h6:=X2S p hp g hg c hc;have h7:=X18 (enN p g c) (J9J p hg c);have ha:=X21 p hg c;refine Q0M rfl ?_;refine J0c J0b Tryz.func52 rfl hc52 hr52 rfl ?_
 repeat' ((conv=>whnf);first|(refine Sv.mk _ ha.symm ?_)|(refine Br.ff ?_)|(refine Len.q ?_)|(refine h1.go ?_)|(refine h2.go ?_)|(refine h3.go ?_)|(refine h4.go ?_)|(refine h5.go ?_)|(refine h6.go ?_)|(refine h7.go ?_)|(refine J0c J0b Tryz.func83 rfl hc83 hr83 rfl ?_)|(refine J0c J0b Tryz.func85 rfl hc85 hr85 rfl ?_)|(refine J0c J0b Tryz.func127 rfl Y2d Y1q rfl ?_)|(refine J0c J0b Tryz.func84 rfl hc84 hr84 rfl ?_)|(refine Chk.q ?_)|(refine And.intro rfl ?_))
 all_goals (conv=>whnf)
 refine J1h J0b [3,4,8,10,12,39] [15,16] [17,18,19,20,21,22,23,24,25,26,27,28,29,30,31,32,33,34,35,36,37,38,39,40,41,42,43,44,45,46,47,48,49,50,51,52,53,54,55,56,57,58,59] [16,15,12,11,10,9,8,7,6,2,999] (fun x:X5N=>[(1,cV x.c),(11,.int .u32 (enN p g x.c:Nat)),(40,.int .i64 x.ch.length)]) (fun x=>[(16,.vec x.ch.length 1 (vU7 x.ch)),(15,.vec x.en.length 1 (vU7 x.en)),(12,.cells (cntC x.n)),(11,.cells [.vec 16 1 0 x.ch.length,.vec 15 1 0 x.en.length,.nilslice,.int .i64 0,.int .i64 0,.int .i64 0,.int .i64 0,.int .u32 0]),(10,.cells [.nilslice,.nilslice,.nilslice,.int .i64 0,.int .i64 0,.int .i64 0,.int .i64 0,.int .u32 0]),(9,.cells [mvP p g,.fz g.ports.length 1 false (Q9I g),.int .i64 k,.int .u32 (J15 g.ids.length:Nat),.fn (.func 84) false []]),(8,.cells [.nilslice,.nilslice,.nilslice,.int .i64 0,.int .i64 0,.int .i64 0,.int .i64 0,.int .u32 0]),(7,.cells [.fz ws.length 1 false (vU7 ws)]),(6,.cells [mvP p g,.fz g.ports.length 1 false (Q9I g),.int .i64 k,.int .u32 (J15 g.ids.length:Nat),.fn (.func 84) false []]),(2,.cells [.nilslice,.nilslice,.nilslice,.int .i64 0,.int .i64 0,.int .i64 0,.int .i64 0,.int .u32 0]),(999,GB)]) (fun m x=>m=ws.length-x.ch.length/\FolI p g k c (J7X (enN p g c)) ws x) ws.length ⟨c,J7X (enN p g c),[],[],[enN p g c]⟩ ⟨rfl,Q6H hg hc ws,rfl⟩ rfl (fun _=>rfl) ?_ ?_
 . refine J0e (fun _ _=>[(12,some 12),(11,some 11),(10,some 10),(9,some 9),(8,some 8),(7,some 7),(6,some 6),(2,some 2),(999,some 999),(15,some 15),(16,none)]) ?_ ?_ rfl
   . repeat' (first|exact tI|(refine J0a.fn ?_)|(refine⟨⟨_,rfl,?_⟩,?_⟩)|exact J0a.kf rfl|exact J0a.loc rfl|apply And.intro)
   . repeat' (first|exact X6g (by rfl) _ _ hi hj|exact tI|(refine J0a.fn ?_)|exact⟨rfl,rfl,rfl⟩|(refine⟨⟨_,rfl,?_⟩,?_⟩)|exact J0a.kf rfl|exact J0a.q|exact J0a.nil rfl rfl|(refine⟨Nat.le_refl _,rfl,fun i j hi hj=>?_⟩)|(refine⟨⟨_,_,rfl⟩,?_⟩)|apply And.intro)
 rintro m x ⟨hm,hf⟩;obtain⟨hx,hens⟩:=hf;clear h5 h6 h7 ha;have hcx:=hx.conf;have hlx:=hcx.len;have hpl:=hx.pl;have hel:=hx.el;have hle:=hx.le;have fin:∀(h:x.ch.length=ws.length\/enN p g x.c=0),VLe (V.tup [.agg [.fz x.ch.length 1 false (J0j 0 (vU7 x.ch)),.fz x.en.length 1 false (J0j 0 (vU7 x.en)),cV x.c,.int .i64 x.n.steps,.int .i64 x.n.moves,.int .i64 x.n.rounds,.int .i64 x.n.begun,.int .u32 x.n.pend],.int .i64 0]) (.tup [X8A p g k c (J7X (enN p g c)) ws,.int .i64 0]):=fun h=>by
  obtain⟨e1,e2⟩:=X36 hx h;rw[X8A,X7b e1,X4y e1,e2,e1,Y2G,List.map_append,List.map_singleton,<- hens,X8X];refine VLe.tup ⟨VLe.agg ⟨VLe.fz rfl (fun h=>h) (fun i j _ _=>VLe.of_eq (by rw[J0w,Nat.zero_add])),VLe.fz rfl (fun h=>h) (fun i j _ _=>VLe.of_eq (by rw[J0w,Nat.zero_add])),VLe.rfl,VLe.rfl,VLe.rfl,VLe.rfl,VLe.rfl,VLe.rfl,True.intro⟩,VLe.rfl,True.intro⟩
 by_cases hi:x.ch.length<ws.length
 . have hwb:ws.getD x.ch.length 0<4294967296:=hw _ (by rw[List.getD_eq_getElem?_getD,List.getElem?_eq_getElem hi];exact List.getElem_mem hi);have hrs:=Q2u g hg k (enN p g x.c) (ws.getD x.ch.length 0) (J6b p hg x.c) hwb (J4B p hg x.c);change RG _ _ (.int .u32 (chC p g k x.c (ws.getD x.ch.length 0):Nat)) at hrs;by_cases h0:enN p g x.c=0
   . repeat' ((conv=>whnf);first|(refine Br.ff ?_)|(refine Br.dec ?_ ?_<;>intro _<;>try omega)|(refine Br.bne ?_ ?_<;>intro _<;>try omega)|(refine Ix.q ?_)|(refine Len.q ?_)|(refine hrs.gog ?_)|(refine J0c J0b Tryz.func128 rfl X7o X7k rfl ?_)|(refine Chk.q ?_)|(refine And.intro rfl ?_))
     all_goals (conv=>whnf)
     all_goals exact fin (.inr h0)
   . have hnx:=X0B hp hg hk (by omega) hx hi h0;have hens':x.en++[enN p g (nxC p g k x.c (ws.getD x.ch.length 0))]=(x.pre++[(x.c,x.n)]).map (fun y=>enN p g y.1)++[enN p g (nxC p g k x.c (ws.getD x.ch.length 0))]:=by rw[hens];simp
     obtain⟨c1,c2,c3,c4,c5,c6⟩:=J9V p hg hk x.c (ws.getD x.ch.length 0) h0;have hcn:=Q7i hp hg hk hcx (ws.getD x.ch.length 0) h0;have hpm:=J67 g hg k (enN p g x.c) (chC p g k x.c (ws.getD x.ch.length 0)) (J6b p hg x.c) (by omega) (J4B p hg x.c);have hin:J9C g k (enN p g x.c) (chC p g k x.c (ws.getD x.ch.length 0))=true:=J9l hg hk (J6b p hg x.c) (J4B p hg x.c) h0;rw[hin] at hpm;have hst:=X0Y p hp g hg x.c hcx (chC p g k x.c (ws.getD x.ch.length 0)) (by omega) (fun v hv hb=>by have:=c2 v hb;rw[J3U,Bool.and_eq_true,decide_eq_true_eq,decide_eq_true_eq] at this;exact this.2);change Ret _ _ _ (cV (nxC p g k x.c (ws.getD x.ch.length 0))) at hst;have hen:=X2S p hp g hg _ hcn;have ha:=X21 p hg (nxC p g k x.c (ws.getD x.ch.length 0));have had:=X8g x.n hx.ok (by have:=hx.steps;omega) (chC p g k x.c (ws.getD x.ch.length 0)) (enN p g (nxC p g k x.c (ws.getD x.ch.length 0))) c1 c4 (J9J p hg _);change Ret _ _ _ (.tup [(nxK p g k x.c x.n (ws.getD x.ch.length 0)).v,.int .i64 0]) at had;generalize nxK p g k x.c x.n (ws.getD x.ch.length 0)=n' at *;generalize nxC p g k x.c (ws.getD x.ch.length 0)=c' at *;generalize chC p g k x.c (ws.getD x.ch.length 0)=s at *;have e1:=J6b p hg x.c
     repeat' ((conv=>whnf);first|(refine Sv.mk _ ha.symm ?_)|(refine Br.tt ?_)|(refine Br.dec ?_ ?_<;>intro _<;>try omega)|(refine Br.bne ?_ ?_<;>intro _<;>try omega)|(refine Br.nbeq ?_ ?_<;>intro _<;>try omega)|(refine Ar.q ?_)|(refine Ix.q ?_)|(refine Len.q ?_)|(refine hrs.gog ?_)|(refine hpm.gog ?_)|(refine hst.go ?_)|(refine hen.go ?_)|(refine had.go ?_)|(refine J0c J0b Tryz.func84 rfl hc84 hr84 rfl ?_)|(refine J0c J0b Tryz.func128 rfl X7o X7k rfl ?_)|(refine Chk.q ?_)|(refine And.intro rfl ?_))
     all_goals (conv=>whnf)
     refine⟨_,_,?_,⟨rfl,hnx,hens'⟩,?_⟩
     . simp only[List.length_append,List.length_singleton];omega
     . refine J0e (fun env own=>[(12,some 12),(11,some 11),(10,some 10),(9,some 9),(8,some 8),(7,some 7),(6,some 6),(2,some 2),(999,some 999),(15,J9T own 11 1),(16,J9T own 11 0)]) ?_ ?_ rfl
       . repeat' (first|exact J0a.int (by simp only[List.length_append,List.length_singleton]<;>omega)|exact tI|(refine J0a.fn ?_)|(refine⟨⟨_,rfl,?_⟩,?_⟩)|exact J0a.kf rfl|exact J0a.loc rfl|apply And.intro)
       . repeat' (first|exact J0a.vec rfl rfl (by simp only[List.length_append,List.length_singleton]<;>omega)|(refine⟨by simp only[List.length_append,List.length_singleton]<;>omega,rfl,fun i j hi hj=>?_⟩)|exact J0a.int (by simp only[List.length_append,List.length_singleton]<;>omega)|exact Q59 _ _ _ _ (by rfl) (by rfl) _ _ hi hj|exact tI|(refine J0a.fn ?_)|exact⟨rfl,rfl,rfl⟩|(refine⟨⟨_,rfl,?_⟩,?_⟩)|exact J0a.kf rfl|apply And.intro)
 . repeat' ((conv=>whnf);first|(refine Br.dec ?_ ?_<;>intro _<;>try omega)|(refine Len.q ?_)|(refine And.intro rfl ?_))
   all_goals (conv=>whnf)
   all_goals exact fin (.inl (by omega))
theorem Q0F (a b:List Int) (ha:a.length<=1000000) (hb:b.length<=1000000):Ret Tryz.prog 53 [.fz a.length 1 false (vI a),.fz b.length 1 false (vI b)] (.bool (decide (a=b))):=by
 refine J0g rfl ?_;refine J0c J0b Tryz.func53 rfl hc53 hr53 rfl ?_
 repeat' ((conv=>whnf);first|(refine Br.bne ?_ ?_<;>intro _<;>try omega))
 all_goals (conv=>whnf)
 . exact VLe.bool (by rw[decide_eq_false (fun h=>by subst h;omega)])
 refine J0N J0b [0,1] (fun i:Nat=>[(5,.int .i64 i)]) (fun m i=>m=a.length-i/\i<=a.length/\∀j,j<i->gI a j=gI b j) a.length 0 ⟨rfl,Nat.zero_le _,fun j hj=>by omega⟩ ?_ ?_
 . exact J0k (fun _ _=>[])
 rintro m i ⟨hm,hi,hall⟩
 repeat' ((conv=>whnf);first|(refine Br.dec ?_ ?_<;>intro _<;>try omega)|(refine Br.bne ?_ ?_<;>intro _<;>try omega)|(refine Ar.q ?_)|(refine Ix.q ?_))
 all_goals (conv=>whnf)
 . rename_i hne;exact VLe.bool (by rw[decide_eq_false (fun h=>by subst h;exact hne rfl)])
 . refine⟨a.length-(i+1),i+1,by omega,⟨rfl,by omega,fun j hj=>?_⟩,?_⟩
   . by_cases e:j=i
     . subst e;assumption
     . exact hall j (by omega)
   . exact J0k (fun _ _=>[])
 . have e:a=b:=List.ext_getElem (by omega) (fun j h1 h2=>by
    have:=hall j (by omega);simpa[gI,List.getD,List.getElem?_eq_getElem h1,List.getElem?_eq_getElem h2] using this)
   exact VLe.bool (by rw[decide_eq_true e])
def t2:G:=⟨[0,1],[[(1,1)],[(0,1)]]⟩
theorem J9d:t2.Small:=⟨by decide,by decide,by decide⟩
set_option maxHeartbeats 4000000 in
theorem X8W:Ret Tryz.prog 5 [.agg [.int .i64 2,.nilslice,.nilslice,.nilslice,.bool false,.bool false],.int .i64 2] t2.v:=by
 refine X0G rfl ?_;refine J0c J0b Tryz.func5 rfl hc5 hr5 rfl ?_
 repeat' ((conv=>whnf);first|(refine MkS.cells ?_)|(refine Bd.mk 2 (by decide) (by omega) ?_)|(refine Sv.mk 1 (by decide) ?_)|(refine Br.tt ?_)|(refine Br.ff ?_)|(refine Ar.q ?_)|(refine Nz.mk (by omega) ?_)|(refine Ix.mk 0 rfl (by omega) ?_)|(refine Ix.mk 1 rfl (by omega) ?_)|(refine Len.q ?_)|(refine Ltn.q ?_)|(refine And.intro rfl ?_)|(refine J0c J0b Tryz.func19 rfl hc19 hr19 rfl ?_)|(refine J0c J0b Tryz.func20 rfl X8x X8w rfl ?_)|(refine J0c J0b Tryz.func54 rfl hc54 hr54 rfl ?_)|(refine X3B.go ?_)|(refine X6e.go ?_)|(refine X8S.go ?_)|(refine X8R.go ?_)|(refine J41 J0b 20 ?_)|(refine J3z [] (X3o 0) ⟨VLe.nilfz rfl,VLe.int (by omega),True.intro⟩ ?_)|(refine J3z [] (X3o 1) ⟨VLe.nilfz rfl,VLe.int (by omega),True.intro⟩ ?_))
 all_goals (conv=>whnf)
 refine VLe.agg ⟨VLe.fz rfl (fun h=>h) (fun i j hi hj=>?_),VLe.fz rfl (fun h=>h) (fun i j hi hj=>?_),True.intro⟩
 . rcases i with _|_|i
   all_goals first|(exfalso;omega)|(rcases j with _|j;exact VLe.rfl;exfalso;omega)
 . rcases i with _|_|i
   all_goals first|(exfalso;omega)|skip
   all_goals
    obtain rfl:j=0:=by omega
    conv=>arg 1;whnf
    conv=>arg 2;whnf
    refine VLe.fz rfl (fun h=>h) (fun i j hi hj=>?_);rcases i with _|i
    all_goals first|(exfalso;omega)|(rcases j with _|_|j;exact VLe.rfl;exact VLe.rfl;exfalso;omega)
def wA:Cf:=[[0,-1,0,0],[1,0,0,0]]
def wB:Cf:=[[0,-1,0,1],[1,0,0,1]]
def wWs:List Nat:=[1,2,2,1]
theorem Q8V {g:G} {c:Cf} (h1:c.length=g.ids.length) (h2:(List.range c.length).all (fun v=>decide ((gC c v).length=4)&&(List.range 4).all fun x=>decide ((bnd g (gV J0q.vars x) v).1<=gI (gC c v) x/\gI (gC c v) x<=(bnd g (gV J0q.vars x) v).2))=true):J1u J0q g c:=by
 simp only[List.all_eq_true,List.mem_range,Bool.and_eq_true,decide_eq_true_eq] at h2;exact⟨h1,fun v hv=>(h2 v hv).1,fun v hv x hx=>(h2 v hv).2 x hx⟩
theorem X6d:J1u J0q t2 wA:=Q8V rfl (by decide +kernel)
theorem Q9V:J4p wA:=⟨by decide,by simp[wA]⟩
theorem X8Q:t2.wleg wA=true:=by decide +kernel
theorem X6c:J4j (trc J0q t2 1 wA (J7X (enN J0q t2 wA)) wWs)=wB:=by decide +kernel
theorem X6r:t2.ecc=1:=by decide +kernel
theorem Q6w:t2.conn=true:=by decide +kernel
theorem Q9Q (a b d e:Int) (f:Nat->Nat->V) (h0:f 0 0=.int .i64 a) (h1:f 1 0=.int .i64 b) (h2:f 2 0=.int .i64 d) (h3:f 3 0=.int .i64 e):VLe (.fz 4 1 false f) (.fz 4 1 false (vI [a,b,d,e])):=VLe.fz rfl (fun h=>h) (J9G a b d e f h0 h1 h2 h3)
theorem X6a (k1 k2 f:Nat->Nat->V) (h1:VLe (.fz 4 1 false k1) (.fz 4 1 false (vI [0,-1,0,0]))) (h2:VLe (.fz 4 1 false k2) (.fz 4 1 false (vI [1,0,0,0]))) (f0:f 0 0=.fz 4 1 false k1) (f1:f 1 0=.fz 4 1 false k2):VLe (.fz 2 1 false f) (cV wA):=by
 refine VLe.fz rfl (fun h=>h) (fun i j hi hj=>?_);obtain rfl:j=0:=by omega
 rcases i with _|_|i
 . rw[f0];exact h1
 . rw[f1];exact h2
 . exfalso;omega
theorem X58 (f:Nat->Nat->V) (h0:f 0 0=.int .u32 1) (h1:f 1 0=.int .u32 2) (h2:f 2 0=.int .u32 2) (h3:f 3 0=.int .u32 1):VLe (.fz 4 1 false f) (.fz wWs.length 1 false (vU7 wWs)):=by
 refine VLe.fz rfl (fun h=>h) (fun i j hi hj=>?_);obtain rfl:j=0:=by omega
 rcases (show i=0\/i=1\/i=2\/i=3 by omega) with rfl|rfl|rfl|rfl
 . rw[h0];exact VLe.rfl
 . rw[h1];exact VLe.rfl
 . rw[h2];exact VLe.rfl
 . rw[h3];exact VLe.rfl
set_option maxHeartbeats 8000000 in
theorem Q5r:RG 18 [] (.bool true):=by
 have hg:t2.valid=true:=(J0o Q6w).1;have h1:=Q0c t2 J9d wA Q9V;have h4:=Q0d t2 J9d;have h5:=Q0F [0,-1,0,1] [0,-1,0,1] (by decide) (by decide);have h6:=Q0F [1,0,0,1] [1,0,0,1] (by decide) (by decide);have hf:=Q8u J0q J6e t2 J9d hg 1 (by decide) wA X6d wWs (by decide) (by decide);rw[X8A,X8X,X6c] at hf;generalize X1P J0q t2 1 wA wWs=ch at hf;generalize ((trc J0q t2 1 wA (J7X (enN J0q t2 wA)) wWs).getLast?.getD default).2=lk at hf;generalize Y2G J0q t2 (trc J0q t2 1 wA (J7X (enN J0q t2 wA)) wWs)=en at hf;rw[X8Q] at h1;rw[if_pos Q6w,X6r,Y2O] at h4;rw[decide_eq_true rfl] at h5 h6;have htx:=Q6t;have hpr:=J8q;refine Q0M rfl ?_;refine Q4I Tryz.func18 rfl hc18 hr18 rfl ?_;refine J2n (J2S J0b ?_)
 repeat' ((conv=>whnf);first|fail)
 all_goals (conv=>whnf)
 refine J2n (J2S J0b ?_)
 repeat' ((conv=>whnf);first|(refine X8W.go ?_))
 all_goals (conv=>whnf)
 refine J2n (J2S J0b ?_)
 repeat' ((conv=>whnf);first|(refine htx.go ?_)|(refine hpr.go ?_))
 all_goals (conv=>whnf)
 refine J2n (J2S J0b ?_)
 repeat' ((conv=>whnf);first|fail)
 all_goals (conv=>whnf)
 refine Q6F 3 rfl (by(conv=>whnf);exact⟨by decide,by decide,rfl,rfl⟩) (J2S J0b ?_)
 repeat' ((conv=>whnf);first|(refine Ix.mk 0 rfl (by decide) ?_)|(refine Ix.mk 1 rfl (by decide) ?_)|(refine Br.tt ?_)|(refine Q9e [5] hf rfl ⟨by decide,VLe.rfl,VLe.rfl,VLe.rfl,X6a _ _ _ (Q9Q _ _ _ _ _ rfl rfl rfl rfl) (Q9Q _ _ _ _ _ rfl rfl rfl rfl) rfl rfl,X58 _ rfl rfl rfl rfl,True.intro⟩ ?_)|(refine J3z [] h1 ⟨VLe.rfl,X6a _ _ _ (Q9Q _ _ _ _ _ rfl rfl rfl rfl) (Q9Q _ _ _ _ _ rfl rfl rfl rfl) rfl rfl,True.intro⟩ ?_)|(refine h4.go ?_)|(refine J0Q h5 rfl ⟨by decide,VLe.rfl,VLe.fz rfl (fun h=>h) (J9G _ _ _ _ _ rfl rfl rfl rfl),True.intro⟩ ?_)|(refine J0Q h6 rfl ⟨by decide,VLe.rfl,VLe.fz rfl (fun h=>h) (J9G _ _ _ _ _ rfl rfl rfl rfl),True.intro⟩ ?_))
 all_goals (conv=>whnf)
 all_goals exact VLe.rfl
theorem Q05 {bk:Bool} {p:Ps} {a b:Nat} {w:Int} (ha:a<p.length) (hb:b<p.length) (hc:¬ (a=b\/lnk p a b=true)) (v:Nat) :
 gR (J3h bk p a b w) v=if v=b then J93 bk (gR p b) ((a:Int),w) else if v=a then J93 bk (gR p a) ((b:Int),w) else gR p v:=by
 rw[J3h,if_neg hc,J4n _ b _ (by simpa using hb),J4n p a _ ha]
theorem J8A {bk:Bool} {p:Ps} {a b:Nat} {w:Int} (ha:a<p.length) (hb:b<p.length) {v:Nat} {l:Int×Int} (hl:l∈gR p v):l∈gR (J3h bk p a b w) v:=by
 by_cases hc:a=b\/lnk p a b=true
 . rw[J3h,if_pos hc];exact hl
 . rw[Q05 ha hb hc];split
   . rename_i e;subst e;exact J1V.2 (.inr hl)
   . split
     . rename_i e;subst e;exact J1V.2 (.inr hl)
     . exact hl
theorem Q7P {bk:Bool} {p:Ps} (h:PV p) {a b:Nat} {w:Int} (ha:a<p.length) (hb:b<p.length) (hab:a≠b):∃l∈gR (J3h bk p a b w) b,l.1=(a:Int):=by
 by_cases hc:lnk p a b=true
 . rw[J3h,if_pos (.inr hc)];rw[lnk,List.any_eq_true] at hc;obtain⟨l,hl,e⟩:=hc;have e:l.1=(b:Int):=by simpa using e
   have:=h.sym a ha l hl;rw[e,Int.toNat_natCast] at this;exact⟨_,this,rfl⟩
 . rw[Q05 ha hb (by rintro (e|e);exact hab e;exact hc e),if_pos rfl];exact⟨_,J1V.2 (.inl rfl),rfl⟩
def Anc (p:Ps) (k:Nat):Prop:=∀v,1<=v->v<=k->∃l∈gR p v,l.1.toNat<v
theorem Q4P (x:Net) (n:Nat):∀k,k<n->Anc (J14 x n k) k
 | 0,_=>fun v h1 h2=>by omega
 | k+1,hk=>by
   intro v h1 h2;have ht:=J88 x k;have hpv:=Q2n x n k (by omega);have hl:=J1w x n k;rw[J14];by_cases e:v=k+1
   . subst e;obtain⟨l,hl1,e⟩:=Q7P (bk:=x.back) (w:=wgt x k) hpv (a:=(J1a (gI x.links k) ((k:Int)+1)).toNat) (b:=k+1) (by omega) (by omega) (by omega);exact⟨l,hl1,by rw[e,Int.toNat_natCast];exact ht⟩
   . obtain⟨l,hl1,e2⟩:=Q4P x n k (by omega) v h1 (by omega);exact⟨l,J8A (by omega) (by omega) hl1,e2⟩
theorem Q4Q (x:Net) {n:Nat} (hn:1<=n) {p:Ps} (hp:p.length=n) {m:Nat} (h:Anc p m):∀k,Anc (J72 x n p k) m
 | 0=>h
 | k+1=>by
   intro v h1 h2;obtain⟨l,hl,e⟩:=Q4Q x hn hp h k v h1 h2;rw[J72];exact⟨l,J8A (by rw[J3f,hp];exact J4K hn) (by rw[J3f,hp];exact J4K hn) hl,e⟩
theorem X5e {g:G} (hg:g.valid=true) (ha:∀v,1<=v->v<g.ports.length->∃l∈gR g.ports v,l.1.toNat<v):g.conn=true:=by
 obtain⟨f1,f2,f3,f4,f5,f6,f7⟩:=J0f hg;have hF:=Q1w hg;have hu:=J6G hg;have key:∀m v,v<m->v<g.ports.length->0<=gI (dst g 0) v:=by
  intro m
  induction m with
  | zero=>intro v h;omega
  | succ m ih =>
    intro v hm hv;by_cases h0:v=0
    . subst h0;have:=hF.from_;have this:gI (dst g 0) 0=0:=this;omega
    . obtain⟨l,hl,e⟩:=ha v (by omega) hv;have h1:=ih l.1.toNat (by omega) (by omega);obtain⟨m',hm',em⟩:=hu.sym v hv l hl;have:=(hF.on l.1.toNat (by omega) h1 m' hm').1;rw[em] at this;exact this
 rw[G.conn,hg,Bool.true_and,Q2v.2 (fun a ham=>?_)]
 . rfl
 . obtain⟨i,hi,e⟩:=List.mem_iff_getElem.1 ham;have:=key (i+1) i (by omega) (by rw[J2J] at hi;exact hi);rw[<- e];simpa[gI,hi] using this
theorem X1K (x:Net) {most:Int} (h1:1<=most) (h2:most<=24):(x.con most).conn=true:=by
 have hs:=Q2h x h1;refine X5e (Q8Y x h1 h2) fun v hv1 hv=>?_;rw[(Q2Q x most).2] at hv;exact Q4Q x hs.1 (J1w _ _ _) (Q4P x (x.size most) (x.size most-1) (by omega)) _ v hv1 (by omega)
def Net.tre (x:Net) (most:Int):G:=⟨J6a x.ids (x.size most),J14 x (x.size most) (x.size most-1)⟩
def Net.cut (x:Net) (n:Nat):Net:={ x with links:=x.links.take n }
theorem Q0n (x:Net) (N n:Nat):∀k,k<=N->J14 (x.cut N) n k=J14 x n k
 | 0,_=>rfl
 | k+1,h=>by
   have ih:=Q0n x N n k (by omega);have e:gI (x.links.take N) k=gI x.links k:=by
    simp only[gI,List.getD_eq_getElem?_getD,List.getElem?_take];rw[if_pos (by omega)]
   rw[J14,J14,ih];show J3h _ _ (J1a (gI (x.links.take N) k) _).toNat _ _=_;rw[e];rfl
theorem X3Q (x:Net) (most:Int):x.tre most=(x.cut (x.size most)).con most:=by
 have hz:(x.cut (x.size most)).size most=x.size most:=rfl;have hm:X01 (x.cut (x.size most)) (x.size most)=0:=by
  rw[X01];have:(x.cut (x.size most)).links.length<=x.size most:=by
   show(x.links.take _).length<=_;exact List.length_take_le _ _
  have e:(x.cut (x.size most)).links.length-x.size most=0:=by omega
  rw[e];simp
 rw[Net.con,hz,hm,Net.tre,J72,Q0n x _ _ _ (by omega)];rfl
theorem X3R (x:Net) (hx:x.Small) (most:Int) (h1:1<=most) (h2:most<=24):Ret Tryz.prog 5 [x.v,.int .i64 most] (x.tre most).v:=by
 refine J0g rfl ((X3O x hx most h1 h2).mono ?_);rintro _ _ _ ⟨rfl,rfl⟩;exact Y0J (g:=x.tre most) (J3x _ _) (J1w _ _ _)
theorem X0i (x:Net) {most:Int} (h1:1<=most) (h2:most<=24):(x.tre most).conn=true:=by
 rw[X3Q];exact X1K _ h1 h2
theorem X3P (x:Net) {most:Int} (h1:1<=most):((x.tre most).ids.length:Int)<=most:=by
 show((J6a x.ids (x.size most)).length:Int)<=most;rw[J3x];exact(Q2h x h1).2
theorem X3A {g:G} (hg:g.valid=true) (h:g.ids.length<=2):J1g J0q g<=1296:=by
 obtain⟨f1,f2,f3,f4,f5,f6,f7⟩:=J0f hg;refine Nat.le_trans (X1L (B:=36) fun v hv=>?_) (Nat.pow_le_pow_right (n:=36) (by omega) h);have hd:=X7L hg (v:=v) (by omega);have a:szX J0q g v 0=((0+1*(g.ids.length:Int)+0*Q3v g)-0).toNat+1:=rfl;have b:szX J0q g v 1=(((gR g.ports v).length:Int)-1 - -1).toNat+1:=rfl;have e0:=J3D J0q g (v:=v) (x:=0) (show 0<4 by omega);have e1:=J3D J0q g (v:=v) (x:=1) (show 1<4 by omega);have e2:=J3D J0q g (v:=v) (x:=2) (show 2<4 by omega);have e3:=J3D J0q g (v:=v) (x:=3) (show 3<4 by omega);change szP J0q g (v*4+0)=_ at e0;change szP J0q g (v*4+1)=_ at e1;change szP J0q g (v*4+2)=_ at e2;change szP J0q g (v*4+3)=_ at e3;rw[Nat.add_zero] at e0;show szP J0q g (v*4)*(szP J0q g (v*4+1)*(szP J0q g (v*4+1+1)*(szP J0q g (v*4+1+1+1)*1)))<=36;have c:szX J0q g v 2=2:=rfl;have d:szX J0q g v 3=2:=rfl;rw[Nat.mul_one,e0,e1,e2,e3,a,b,c,d];exact Nat.le_trans (Nat.mul_le_mul (show _<=3 by omega) (Nat.mul_le_mul (show _<=3 by omega) (Nat.le_refl _))) (by decide)
set_option maxHeartbeats 16000000 in
theorem Q7W (x:Net) (hx:x.Small):RG 4 [x.v] (.bool true):=by
 have h0:=X3R x hx 2 (by omega) (by omega);have hgc:=X0i x (most:=2) (by omega) (by omega);have hlen:(x.tre 2).ids.length<=2:=by have:=X3P x (most:=2) (by omega);omega
 generalize x.tre 2=g at *;have hg:=(J0o hgc).1;obtain⟨f1,f2,f3,f4,f5,f6,f7⟩:=J0f hg;have hs:=Q2c hg;have h10:g.ids.length<=10:=by omega
 have hcn:=X3A hg hlen;have hpw:2 ^ g.ids.length<=4:=Nat.pow_le_pow_right (n:=2) (by omega) hlen;have hN:J1g J0q g<=32768:=by omega
 have hNm:J1g J0q g*2 ^ g.ids.length<=262144:=Nat.le_trans (Nat.mul_le_mul hcn hpw) (by decide);have hS:=Q9U hgc;have hclm:=Q0d g hs;rw[if_pos hgc,Y2O] at hclm;have hprk:=J6e;have hb:=Q12 hprk hs hg (kd:=3) rfl h10 hN hNm;have hco:=Q11 hprk hs hg (kd:=3) rfl hS h10 hN hNm;have hcl:=J80 hprk hs hg (kd:=3) rfl hS h10 hN hNm;have hpos:=Q4w J0q g;have hun:=fun k hk=>Q5h J0q hprk g hs hg hN k hk;have hlg:=fun k=>Q0c g hs (cfK J0q g k) (X5b hprk hg (J11 hprk hg k));have htx:=Q6t;have hpr:=J8q;have hkn:=Q5r;have hsn:(J5N J0q g 3).n=J1g J0q g:=rfl;refine J3u rfl ?_;refine Q4I Tryz.func4 rfl hc4 hr4 rfl ?_;refine J2n (J2S J0b ?_)
 repeat' ((conv=>whnf);first|fail)
 all_goals (conv=>whnf)
 refine J2n (J2S J0b ?_)
 repeat' ((conv=>whnf);first|(refine h0.go ?_))
 all_goals (conv=>whnf)
 refine J2n (J2S J0b ?_)
 repeat' ((conv=>whnf);first|(refine htx.go ?_)|(refine hpr.go ?_))
 all_goals (conv=>whnf)
 refine J2n (J2S J0b ?_)
 repeat' ((conv=>whnf);first|(refine hclm.go ?_))
 all_goals (conv=>whnf)
 refine J2n (J2S J0b ?_)
 repeat' ((conv=>whnf);first|(refine hb.gog ?_))
 all_goals (conv=>whnf)
 refine J2n (J2S J0b ?_)
 repeat' ((conv=>whnf);first|(refine Br.ff ?_)|(refine Br.dec ?_ ?_<;>intro _<;>try omega))
 all_goals (conv=>whnf)
 refine J2n (J2S J0b ?_)
 repeat' ((conv=>whnf);first|fail)
 all_goals (conv=>whnf)
 refine J2n (J2S J0b ?_)
 repeat' ((conv=>whnf);first|fail)
 all_goals (conv=>whnf)
 refine J01 J0b [3,4,6] [5] [6,7,8,9,10,11,12,13,14,15,16,17,18,19,20,21,22,23,24,25,26,27,28,29] [5,4,3,2,1,0,999] (fun i:Nat=>[(8,.vec 5 1 0 i),(9,.int .i64 i)]) (fun own i=>(5,.vec i 1 (vBl (J6l J0q g g.wleg)))::own) (fun m i=>m=J1g J0q g-i/\i<=J1g J0q g) (J1g J0q g) 0 ⟨rfl,Nat.zero_le _⟩ rfl (fun _=>rfl) ?_ ?_
 . exact J0k (fun _ _=>[(0,some 0),(1,some 1),(2,some 2),(3,some 3),(4,some 4),(5,none),(999,some 999)])
 rintro m i ⟨hm,hi⟩;by_cases hil:i<J1g J0q g
 . have hui:=hun i hil;have hli:=hlg i;change Ret _ _ _ (.bool (J6l J0q g g.wleg i)) at hli
   repeat' ((conv=>whnf);first|(refine Br.ff ?_)|(refine Br.dec ?_ ?_<;>intro _<;>try omega)|(refine Br.nbeq ?_ ?_<;>intro _<;>try omega)|(refine Ar.q ?_)|(refine Len.q ?_)|(refine hui.go ?_)|(refine hli.go ?_)|(refine Br.any (fun _=>?_) (fun _=>?_)))
   all_goals (conv=>whnf)
   all_goals
    refine⟨J1g J0q g-(i+1),i+1,by omega,⟨rfl,by omega⟩,?_⟩;refine J0e (fun env own=>[(0,some 0),(1,some 1),(2,some 2),(3,some 3),(4,some 4),(5,X7E env 8),(999,some 999)]) ?_ ?_ rfl
    . repeat' (first|exact tI|(refine⟨⟨_,rfl,?_⟩,?_⟩)|exact J0a.kf rfl|exact J0a.loc rfl|exact J0a.q)
    . repeat' (first|exact Q90 _ _ _ _ _ rfl hi hj _ _ (by rfl) (by first|rfl|(symm;assumption))|exact tI|exact⟨rfl,rfl,rfl⟩|(refine⟨⟨_,rfl,?_⟩,?_⟩)|exact J0a.kf rfl|(refine⟨Nat.le_refl _,rfl,fun i j hi hj=>?_⟩)|apply And.intro)
 have ei:i=J1g J0q g:=by omega
 subst ei
 repeat' ((conv=>whnf);first|(refine Br.dec ?_ ?_<;>intro _<;>try omega))
 all_goals (conv=>whnf)
 refine Q6F 8 (v':=blW (J1g J0q g) (J6l J0q g g.wleg)) rfl (by(conv=>whnf);exact⟨by omega,rfl,rfl⟩) (J2S J0b ?_)
 repeat' ((conv=>whnf);first|(refine Br.tt ?_)|(refine Br.ff ?_)|(refine Br.bne ?_ ?_<;>intro _<;>try omega)|(refine hco.go ?_)|(refine hcl.go ?_))
 all_goals (conv=>whnf)
 refine J0N J0b [12] (fun i:Nat=>[(16,.int .i64 i)]) (fun m i=>m=J1g J0q g-i/\i<=J1g J0q g) (J1g J0q g) 0 ⟨rfl,Nat.zero_le _⟩ ?_ ?_
 . exact J0k (fun _ _=>[(0,some 0),(1,some 1),(2,some 2),(3,some 3),(4,some 4),(999,some 999)])
 rintro m i ⟨hm,hi⟩;by_cases hil:i<J1g J0q g
 . repeat' ((conv=>whnf);first|(refine Br.ff ?_)|(refine Br.dec ?_ ?_<;>intro _<;>try omega)|(refine Ar.q ?_)|(refine Ix.q ?_))
   all_goals (conv=>whnf)
   refine⟨J1g J0q g-(i+1),i+1,by omega,⟨rfl,by omega⟩,?_⟩;exact J0k (fun _ _=>[(0,some 0),(1,some 1),(2,some 2),(3,some 3),(4,some 4),(999,some 999)])
 repeat' ((conv=>whnf);first|(refine Br.tt ?_)|(refine Br.dec ?_ ?_<;>intro _<;>try omega)|(refine hkn.gog ?_))
 all_goals (conv=>whnf)
 all_goals exact VLe.rfl
end Go.Proofs.YtlpfphlbghdokaaGreatDoor
