import Derived.Test.YtlpfphlbghdokaaGreatDoorAN1
import Derived.Test.YtlpfphlbghdokaaGreatDoorEvG
import Derived.Test.YtlpfphlbghdokaaGreatDoorEvA
import Derived.Test.YtlpfphlbghdokaaGreatDoorTKP
import Derived.Test.YtlpfphlbghdokaaGreatDoorMW1
import Derived.Test.YtlpfphlbghdokaaGreatDoorDS3
namespace Go.Proofs.YtlpfphlbghdokaaGreatDoor
open Go.Eng
set_option maxRecDepth 100000
set_option linter.unusedVariables false
theorem X1M:∀{l m:List Int},l.Nodup->(∀a∈l,a∈m)->l.length<=m.length
 | [],m,_,_=>Nat.zero_le _
 | a::l,m,hn,hs=>by
   rw[List.nodup_cons] at hn;have ham:=hs a (by simp);have h1:=X1M (l:=l) (m:=m.erase a) hn.2 (fun b hb=>(List.mem_erase_of_ne (fun e=>hn.1 (by rw[<- e];exact hb))).2 (hs b (by simp[hb])));have h2:=List.length_erase_of_mem ham;have h3:=List.length_pos_of_mem ham;simp only[List.length_cons];omega
def J4s (l:List Int):Nat->Int->Int
 | 0,i=>i
 | f+1,i=>if i∈l then J4s l f ((i+1) % 256) else i
def J5z (i:Int) (k:Nat):Int:=(i+k) % 256
theorem J6q {i:Int} {k:Nat}:(J5z i k+1) % 256=J5z i (k+1):=by rw[J5z,J5z];omega
theorem Q0J {l:List Int} (hl:l.length<256) (i:Int):¬ ∀j,j<256->J5z i j∈l:=by
 intro h;have h1:((List.range 256).map (J5z i)).Nodup:=by
  rw[List.nodup_iff_pairwise_ne,List.pairwise_map];refine List.Pairwise.imp_of_mem ?_ List.nodup_range;intro a b ha hb hne e;rw[List.mem_range] at ha hb;rw[J5z,J5z] at e;omega
 have h2:=X1M h1 (fun a ha=>by
  obtain⟨j,hj,rfl⟩:=List.mem_map.1 ha;exact h j (List.mem_range.1 hj))
 simp at h2;omega
def J51 (x:List Int):Nat->List Int
 | 0=>[]
 | v+1=>J51 x v++[J4s (J51 x v) 256 (J08 (gI x v) 256)]
theorem J3q (x:List Int):∀v,(J51 x v).length=v
 | 0=>rfl
 | v+1=>by rw[J51,List.length_append,J3q x v];rfl
theorem J0P (a:Int) {b:Int} (hb:1<=b):0<=J08 a b/\J08 a b<b:=by
 have h1:=Int.tmod_lt_of_pos a (show(0:Int)<b by omega);have h2:=Int.tmod_lt_of_pos (-a) (show(0:Int)<b by omega);rw[Int.neg_tmod] at h2;rw[J08,if_neg (by omega)];split<;>omega
theorem Q0I {l:List Int} {i:Int} (h0:0<=i) (h1:i<=255):∀f k,k+f=256->(∀j,j<k->J5z i j∈l)->l.length<256->0<=J4s l f (J5z i k)/\J4s l f (J5z i k)<=255/\J4s l f (J5z i k)∉l
 | 0,k,hk,hall,hl=>(Q0J hl i (fun j hj=>hall j (by omega))).elim
 | f+1,k,hk,hall,hl=>by
   rw[J4s];split
   . rename_i hm;rw[J6q];exact Q0I h0 h1 f (k+1) (by omega) (fun j hj=>by
      by_cases e:j=k
      . subst e;exact hm
      . exact hall j (by omega)) hl
   . rename_i hm;refine⟨?_,?_,hm⟩<;>(rw[J5z];omega)
theorem Q2H {i:Int} (h0:0<=i) (h1:i<=255):J5z i 0=i:=by rw[J5z];omega
theorem Q7f (x:List Int):∀v,v<=255->(∀a∈J51 x v,0<=a/\a<=255)/\(J51 x v).Nodup
 | 0,_=>⟨fun a h=>(by simp[J51] at h),by simp[J51]⟩
 | v+1,hv=>by
   obtain⟨i1,i2⟩:=Q7f x v (by omega);have hw:=J0P (gI x v) (b:=256) (by omega);have hf:=Q0I (l:=J51 x v) (i:=J08 (gI x v) 256) hw.1 (by omega) 256 0 rfl (fun j hj=>by omega) (by rw[J3q];omega);rw[Q2H hw.1 (by omega)] at hf;rw[J51];refine⟨fun a ha=>?_,?_⟩
   . rcases List.mem_append.1 ha with h|h
     . exact i1 a h
     . have:a=J4s (J51 x v) 256 (J08 (gI x v) 256):=by simpa using h
       rw[this];exact⟨hf.1,hf.2.1⟩
   . rw[List.nodup_append];refine⟨i2,by simp,fun a ha b hb e=>?_⟩;have:b=J4s (J51 x v) 256 (J08 (gI x v) 256):=by simpa using hb
     rw[<- this,<- e] at hf;exact hf.2.2 ha
def ownN (x:Net) (n:Nat):Own:=[(0,.vec n 1 (vI (J51 x.ids n))),(1,.vec n 1 fun _ _=>.nilslice)]
def Net.n1 (x:Net):Int:=IntKind.i64.wrap (x.n-1)
def Net.size (x:Net) (most:Int):Nat:=(1+J08 x.n1 most).toNat
theorem J8g (l:List Int) (a:Int) (i:Nat):gI (l++[a]) i=if i<l.length then gI l i else if i=l.length then a else 0:=by
 by_cases h:i<l.length
 . simp only[gI,List.getD,List.getElem?_append_left h,if_pos h]
 . rw[if_neg h];by_cases h2:i=l.length
   . subst h2;simp[gI]
   . simp[gI,h2,List.getElem?_eq_none (by simp;omega:(l++[a]).length<=i)]
theorem Q88 (l:List Int) (a:Int) (n:Nat) (hn:l.length=n) (i j:Nat) (hi:i<n+1) (hj:j<1) :
 VLe (J5p (J0l 0 (vI l)) n (J0l 0 (tab [[.int .i64 a]])) i j) (vI (l++[a]) i j):=by
 apply VLe.of_eq;subst hn;by_cases h:i<l.length
 . rw[J2c h];simp only[J0l,vI,J8g,if_pos h]
 . rw[J2d h];have:i=l.length:=by omega
   subst this;obtain rfl:j=0:=by omega
   simp[J0l,vI,J8g,tab]
set_option maxHeartbeats 8000000 in
theorem Q9O (x:Net) (hx:x.Small) (most:Int) (h1:1<=most) (h2:most<=24) :
 J0J Tryz.prog 19 [x.v,.int .i64 most] [] KS fun v own' _=>v=gV1 (x.size most) (x.size most)/\own'=ownN x (x.size most):=by
 have hw:=J1L x.n1 most (by omega);have hwr:=J0P x.n1 h1;have hn:1+J08 x.n1 most=(x.size most:Nat):=by rw[Net.size];omega
 have hsz:1<=x.size most/\x.size most<=24:=by omega
 have hids:=hx.ids;generalize x.size most=n at *;refine J1q ?_;refine J0d J0b Tryz.func19 rfl hc19 hr19 rfl ?_
 repeat' ((conv=>whnf);first|(refine Ar.mk x.n1 rfl ?_)|(refine Ar.i64 (by omega) (by omega) ?_;rw[hn])|(refine Bd.nat (by omega) ?_)|(refine Len.mk (by omega) ?_)|(refine MkS.vec ?_)|(refine hw.go ?_))
 all_goals (conv=>whnf)
 refine J02 J0b [2,4,5,6] [4] [5,6,7,8,9,10,11,12,13,14,15,16,17,18,19,20,21,22,23,24,25,26,27,28,29] [4,3,2,1,0] (fun v:Nat=>[(7,.int .i64 v)]) (fun own v=>(4,.vec v 1 (vI (J51 x.ids v)))::J1I own 3 (.cells [.vec 4 1 0 v,.vec 2 1 0 n])) (fun m v=>m=n-v/\v<=n) n 0 ⟨rfl,by omega⟩ rfl (fun _=>rfl) ?_ ?_
 . exact J0k (fun _ _=>[(0,some 0),(1,some 1),(2,some 2),(3,some 3),(4,none)])
 rintro m v ⟨hm,hv⟩;have hat:=Q4V x.ids hids v;have hw2:=J1L (gI x.ids v) 256 (by omega);have hr2:=J0P (gI x.ids v) (b:=256) (by omega);have hil:=J3q x.ids v;have hsn:J51 x.ids (v+1)=J51 x.ids v++[J4s (J51 x.ids v) 256 (J08 (gI x.ids v) 256)]:=rfl;have htz:=Q2H hr2.1 (by omega);generalize J08 (gI x.ids v) 256=id0 at *;generalize hL:J51 x.ids v=L at *
 repeat' ((conv=>whnf);first|(refine Br.dec ?_ ?_<;>intro _<;>try omega)|(refine hat.go ?_)|(refine hw2.go ?_))
 all_goals (conv=>whnf)
 . refine J0N J0b [2,4,5,6,7] (fun p:Nat×Nat=>[(8,.int .i64 (J5z id0 p.1)),(9,.int .i64 p.2)]) (fun m p=>m=(256-p.1)*25+(v-p.2)/\p.1<=256/\p.2<=v/\(∀j,j<p.1->J5z id0 j∈L)/\(∀j,j<p.2->gI L j≠J5z id0 p.1)/\J4s L (256-p.1) (J5z id0 p.1)=J4s L 256 id0) _ (0,0) ⟨rfl,by omega,by omega,fun j hj=>(by omega),fun j hj=>(by omega),(by show J4s L 256 (J5z id0 0)=_;rw[htz])⟩ ?_ ?_
   . refine J0f (fun _ _=>[(0,some 0),(1,some 1),(2,some 2),(3,some 3),(4,some 4)]) ?_ ?_ rfl
     . repeat' (first|exact J0a.int htz.symm|exact True.intro|(refine⟨⟨_,rfl,?_⟩,?_⟩)|exact J0a.kf rfl|exact J0a.loc rfl)
     . repeat' (first|exact True.intro|(refine⟨⟨_,rfl,?_⟩,?_⟩)|exact J0a.kf rfl|exact J0a.vec rfl rfl rfl|(refine⟨Nat.le_refl _,rfl,fun i j hi hj=>?_⟩)|exact VLe.rfl|(refine And.intro ?_ ?_))
   rintro m ⟨k,u⟩ ⟨hm2,hk,hu,hall,hne,hfr⟩;simp only at hm2 hk hu hall hne hfr;have htr:0<=J5z id0 k/\J5z id0 k<=255:=by rw[J5z];omega
   have htn:(J5z id0 k+1).tmod 256=J5z id0 (k+1):=by rw[Int.tmod_eq_emod_of_nonneg (by omega),J6q]
   generalize hT:J5z id0 k=T at *
   repeat' ((conv=>whnf);first|(refine Br.dec ?_ ?_<;>intro _<;>try omega)|(refine Br.nbeq ?_ ?_<;>intro _<;>try omega)|(refine Ar.i64 (by omega) (by omega) ?_)|(refine Sv.mk _ rfl ?_)|(refine Nz.mk (by omega) ?_)|(refine Ix.nat (by omega) ?_)|(refine Len.mk (by omega) ?_)|(refine Ltn.mk (by omega) ?_))
   all_goals (conv=>whnf)
   . rename_i h3 h4;have hin:T∈L:=by rw[<- h4];exact J63 (by omega)
     have hk2:k<256:=by
      rcases Nat.lt_or_ge k 256 with h|h
      . exact h
      . exact(Q0J (l:=L) (by omega) id0 (fun j hj=>hall j (by omega))).elim
     refine⟨_,(k+1,0),?_,⟨rfl,by omega,by omega,fun j hj=>?_,fun j hj=>(by omega),?_⟩,?_⟩
     . simp only;omega
     . simp only at hj;by_cases e:j=k
       . subst e;rw[hT];exact hin
       . exact hall j (by omega)
     . simp only;rw[<- hfr,show 256-k=(256-(k+1))+1 by omega,J4s,if_pos hin,<- hT,J6q]
     . refine J0f (fun _ _=>[(0,some 0),(1,some 1),(2,some 2),(3,some 3),(4,some 4)]) ?_ ?_ rfl
       . repeat' (first|exact J0a.int htn|exact True.intro|(refine⟨⟨_,rfl,?_⟩,?_⟩)|exact J0a.kf rfl|exact J0a.loc rfl)
       . repeat' (first|exact True.intro|(refine⟨⟨_,rfl,?_⟩,?_⟩)|exact J0a.kf rfl|exact J0a.vec rfl rfl rfl|(refine⟨Nat.le_refl _,rfl,fun i j hi hj=>?_⟩)|exact VLe.rfl|(refine And.intro ?_ ?_))
   . rename_i h3 h4;refine⟨_,(k,u+1),?_,⟨rfl,hk,by omega,hall,fun j hj=>?_,by rw[hT];exact hfr⟩,?_⟩
     . simp only;omega
     . simp only at hj ⊢;rw[hT];by_cases e:j=u
       . subst e;simpa using h4
       . exact hne j (by omega)
     . refine J0f (fun _ _=>[(0,some 0),(1,some 1),(2,some 2),(3,some 3),(4,some 4)]) ?_ ?_ rfl
       . repeat' (first|exact J0a.int hT.symm|exact True.intro|(refine⟨⟨_,rfl,?_⟩,?_⟩)|exact J0a.kf rfl|exact J0a.loc rfl)
       . repeat' (first|exact True.intro|(refine⟨⟨_,rfl,?_⟩,?_⟩)|exact J0a.kf rfl|exact J0a.vec rfl rfl rfl|(refine⟨Nat.le_refl _,rfl,fun i j hi hj=>?_⟩)|exact VLe.rfl|(refine And.intro ?_ ?_))
   . have hno:T∉L:=fun h=>by
      obtain⟨j,j1,j2⟩:=Q7o h;exact hne j (by omega) j2
     have hfin:J4s L 256 id0=T:=by
      rw[<- hfr];cases h:256-k with
      | zero=>rfl
      | succ f=>rw[J4s,if_neg hno]
     rw[hfin] at hsn
     repeat' ((conv=>whnf);first|fail)
     all_goals (conv=>whnf)
     all_goals
      refine⟨n-(v+1),v+1,by omega,⟨rfl,by omega⟩,?_⟩;simp only[hsn];refine J0f (fun env own=>[(0,some 0),(1,some 1),(2,some 2),(3,some 3),(4,Q2f own 3 0)]) ?_ ?_ rfl
      . repeat' (first|exact True.intro|(refine⟨⟨_,rfl,?_⟩,?_⟩)|exact J0a.kf rfl|exact J0a.loc rfl)
      . repeat' (first|(refine⟨Nat.le_refl _,rfl,fun i j hi hj=>?_⟩)|exact Q88 _ _ _ hil _ _ hi hj|exact True.intro|(refine⟨⟨_,rfl,?_⟩,?_⟩)|exact J0a.kf rfl|exact J0a.vec rfl rfl rfl|exact VLe.rfl|(refine And.intro ?_ ?_))
 . have e:v=n:=by omega
   subst e;exact Q0e (fun v o=>[(0,X4P v 0),(1,X4P v 1)]) _ _ ⟨rfl,rfl⟩ (J0a.agg ⟨J0a.vec rfl rfl rfl,J0a.vec rfl rfl rfl,True.intro⟩) ⟨⟨_,rfl,Nat.le_refl _,rfl,fun _ _ _ _=>VLe.of_eq (by rw[hL])⟩,⟨_,rfl,Nat.le_refl _,rfl,fun i j hi hj=>VLe.of_eq (by obtain rfl:j=0:=(by omega);rfl)⟩,True.intro⟩ rfl
theorem X5Z {p:Ps} {r:List (Int×Int)} (h:r∈p):∃u,gR p u=r:=by
 obtain⟨i,hi,e⟩:=List.mem_iff_getElem.1 h;exact⟨i,by simp[gR,List.getD,hi,e]⟩
theorem Q2T {g:G} (h1:g.ids.length<=1000) (h2:g.ports.length<=1000) (h3:∀u,(gR g.ports u).length<=1000):g.Small :=
 ⟨by omega,by omega,fun r hr=>by obtain⟨u,rfl⟩:=X5Z hr;have:=h3 u;omega⟩
theorem Q9G {P:Program} {f:FuncId} {args args':List V} {X:V} (hk:J2K V.kf args'=true) (hl:LLe args' args) (h:Ret P f args X):Ret P f args' X:=fun own ks=>by
 constructor;intro M w σ us hlen hd hh;obtain⟨d1,d2⟩:=hl.dens (M:=M) (w:=w) (us:=us) hlen (fun i v u hv hu=>(hd i v u hv hu).kf (J0s hk v (List.mem_of_getElem? hv)) Sg.none);exact(h own ks).out M w σ us d1 (fun i v u hv hu=>(d2 i v u hv hu).mono (Ext.mk (fun _ _ h=>⟨h,rfl⟩) (Nat.le_refl _)) (Sg.none_le σ)) hh
theorem X27 {P:Program} {f:FuncId} {args:List V} {X X':V} (hk:X.kf=true) (hl:VLe X X') (h:Ret P f args X):Ret P f args X':=fun own ks=>by
 constructor;intro M w σ us hlen hd hh;refine((h own ks).out M w σ us hlen hd hh).mono ?_;rintro e w' ⟨M',σ',v,own',ks',u,rfl,hv,hh',tr,kd,rfl,rfl,rfl⟩;exact⟨M',σ',X',_,_,u,rfl,(hl.out _ _ _ (hv.kf hk Sg.none)).mono (Ext.mk (fun _ _ h=>⟨h,rfl⟩) (Nat.le_refl _)) (Sg.none_le σ'),hh',tr,kd,rfl,rfl,rfl⟩
def Q41:Nat->(Nat->Prop)->Prop
 | 0,_=>True
 | n+1,P=>P 0/\Q41 n fun i=>P (i+1)
theorem Q41.out:∀{n:Nat} {P:Nat->Prop},Q41 n P->∀i,i<n->P i
 | n+1,P,h,0,_=>h.1
 | n+1,P,h,i+1,hi=>Q41.out h.2 i (by omega)
theorem Q5i {n s:Nat} {f g:Nat->Nat->V} (h:Q41 n fun i=>Q41 s fun j=>VLe (f i j) (g i j)):VLe (.fz n s false f) (.fz n s false g) :=
 VLe.fz rfl (fun h=>h) fun i j hi hj=>(h.out i hi).out j hj
theorem Q5h {a b:ByteArray} (h:a=b):VLe (.str a) (.str b):=by subst h;exact .rfl
theorem X4c:VLe J0x.v Q2q.v:=by
 repeat' (first|exact True.intro|exact VLe.rfl|exact Q5h (by kernel_rfl)|(refine VLe.agg ?_)|(refine Q5i ?_)|(refine And.intro ?_ ?_))
theorem X4J:VLe Q2q.v J0x.v:=by
 repeat' (first|exact True.intro|exact VLe.rfl|exact Q5h (by kernel_rfl)|(refine VLe.agg ?_)|(refine Q5i ?_)|(refine And.intro ?_ ?_))
theorem Q76:Ret Tryz.prog 58 [J0x.v] (.int .i64 0):=by
 have h:=J8n J0b X5k Q3z;exact Q9G (args:=[Q2q.v]) rfl ⟨X4c,True.intro⟩ (by simpa only[C.vs,C.v] using h)
theorem Q77:Ret Tryz.prog 69 [J0x.v] (.bool true):=by
 refine J0g rfl ?_;refine J0d J0b Tryz.func69 rfl hc69 hr69 rfl ?_
 repeat' ((conv=>whnf);first|(refine Br.tt ?_)|(refine Q76.go ?_))
 all_goals (conv=>whnf)
 exact VLe.rfl
def X4Q:ByteArray:=match Q1z with | .str l c=>J0q l c|_=>default
theorem Q5C:Ret Tryz.prog 7 [] (.str X4Q):=by
 have:=J8n J0b X5m X3Y;simpa only[C.vs,C.v,Q1z,X4Q] using this
theorem Q9L:Ret Tryz.prog 23 [.str X4Q] (.tup [Q2q.v,.int .i64 0,.int .i64 0]):=by
 have:=J8n J0b X7B X0k;simpa only[C.vs,C.v,Q1z,X4Q,X5y] using this
theorem Q6g:Ret Tryz.prog 23 [.str X4Q] (.tup [J0x.v,.int .i64 0,.int .i64 0]) :=
 X27 (X:=.tup [Q2q.v,.int .i64 0,.int .i64 0]) rfl (VLe.tup ⟨X4J,VLe.rfl,VLe.rfl,True.intro⟩) Q9L
theorem J75:Ret Tryz.prog 6 [.str X4Q] J0x.v:=by
 refine J0g rfl ?_;refine J0d J0b Tryz.func6 rfl hc6 hr6 rfl ?_
 repeat' ((conv=>whnf);first|(refine Q6g.go ?_))
 all_goals (conv=>whnf)
 exact VLe.rfl
theorem J42:J2I J0x where
 vlen:=by decide
 var:=fun i hi=>by
  rcases (show i=0\/i=1\/i=2 by have:i<3:=hi;omega) with rfl|rfl|rfl
  . exact⟨.inl rfl,by decide,by decide,by decide,by decide,by decide⟩
  . exact⟨.inr (.inr rfl),by decide,by decide,by decide,by decide,by decide⟩
  . exact⟨.inl rfl,by decide,by decide,by decide,by decide,by decide⟩
 rlen:=by decide
 gd:=fun i hi=>by
  rcases (show i=0\/i=1\/i=2\/i=3 by have:i<4:=hi;omega) with rfl|rfl|rfl|rfl
  . decide
  . decide
  . decide
  . decide
 slen:=fun i hi=>by
  rcases (show i=0\/i=1\/i=2\/i=3 by have:i<4:=hi;omega) with rfl|rfl|rfl|rfl
  . decide
  . decide
  . decide
  . decide
 set:=fun i hi j hj=>by
  rcases (show i=0\/i=1\/i=2\/i=3 by have:i<4:=hi;omega) with rfl|rfl|rfl|rfl
  . rcases (show j=0\/j=1 by have:j<2:=hj;omega) with rfl|rfl<;>decide
  . rcases (show j=0\/j=1 by have:j<2:=hj;omega) with rfl|rfl<;>decide
  . (obtain rfl:j=0:=by have:j<1:=hj;omega);decide
  . (obtain rfl:j=0:=by have:j<1:=hj;omega);decide
 types:=Q77
end Go.Proofs.YtlpfphlbghdokaaGreatDoor
namespace Go.Proofs.YtlpfphlbghdokaaGreatDoor
open Go.Eng Go.Plain
set_option maxRecDepth 100000
set_option linter.unusedVariables false
theorem Q4O {g:G} {c:Cf} {n:Cnt} (hi:CIn g c n):n.rounds+1<=g.ecc.toNat+2+Go.Plain.Clock.tri (g.ecc.toNat+1):=by
 rcases hi with ⟨hr,_,_⟩ | ⟨_,i,j,hl⟩
 . omega
 . have:=hl.bud;have:=hl.j1;omega
theorem X0H {g:G} (h:g.conn=true):X65 J0x g 3 g.cleg ((g.ecc.toNat+2+Go.Plain.Clock.tri (g.ecc.toNat+1):Nat):Int) (CIn g) where
 closed c s hc hl hs:=Q8b h hc hl hs.part (J17 J42 (J0o h).1 hc hs.part)
 en c hc hl:=X4i h hc hl
 start c hc _:=Q8c h hc
 step c n s hc hi hl hs hl':=X0I h hc hi hs.part (J17 J42 (J0o h).1 hc hs.part) hl'
 rounds c n hc hi _:=by have:=Q4O hi;omega
end Go.Proofs.YtlpfphlbghdokaaGreatDoor
namespace Go.Proofs.YtlpfphlbghdokaaGreatDoor
open Go.Eng
set_option maxRecDepth 100000
set_option linter.unusedVariables false
def Y0M (e:Int) (k:Int):V:=.agg [.int .i64 k,.bool true,.bool false,.int .i64 (e+1+(e*(e+1)).tdiv 2),.int .i64 (-1)]
theorem X32 {e:Int} (h0:0<=e) (h:e<=23):0<=e*(e+1)/\e*(e+1)<=576/\0<=(e*(e+1)).tdiv 2/\(e*(e+1)).tdiv 2<=576:=by
 have a3:0<=e*(e+1):=Int.mul_nonneg (by omega) (by omega);have a4:e*(e+1)<=576:=Int.le_trans (Int.mul_le_mul (show e<=24 by omega) (show e+1<=24 by omega) (by omega) (by omega)) (by omega);refine⟨a3,a4,?_,?_⟩
 . rw[Int.tdiv_eq_ediv_of_nonneg a3];omega
 . rw[Int.tdiv_eq_ediv_of_nonneg a3];omega
theorem Q01 (g:G) (hs:g.Small) (hgc:g.conn=true):Ret Tryz.prog 8 [g.v] (Y0M g.ecc 3):=by
 have hf:=Q8i g hs;have he:=X6s g hs;obtain⟨r1,r2⟩:=Q7J g hgc;obtain⟨q1,q2,q3,q4⟩:=X32 r1 r2;rw[hgc] at hf;refine J0g rfl ?_;refine J0d J0b Tryz.func8 rfl hc8 hr8 rfl ?_
 repeat' ((conv=>whnf);first|(refine Br.tt ?_)|(refine Ar.i64 (by omega) (by omega) ?_)|(refine Nz.mk (by omega) ?_)|(refine hf.go ?_)|(refine he.go ?_))
 all_goals (conv=>whnf)
 exact VLe.rfl
def l01:List Int:=[0,1]
def netL (n:Int) (l:List Int):V:=.agg [.int .i64 n,.fz l.length 1 false (vI l),.nilslice,.nilslice,.bool false,.bool false]
def t3:G:=⟨[0,1,2],[[(1,1)],[(0,1),(2,1)],[(1,1)]]⟩
theorem X6X:Ret Tryz.prog 22 [.fz 2 1 false (vI l01),.int .i64 0] (.int .i64 0):=Q4V l01 (by decide) 0
theorem X6W:Ret Tryz.prog 22 [.fz 2 1 false (vI l01),.int .i64 1] (.int .i64 1):=Q4V l01 (by decide) 1
theorem X7y:Ret Tryz.prog 21 [.int .i64 0,.int .i64 1] (.int .i64 0):=J1L 0 1 (by decide)
theorem X7x:Ret Tryz.prog 21 [.int .i64 1,.int .i64 2] (.int .i64 1):=J1L 1 2 (by decide)
set_option maxHeartbeats 4000000 in
theorem X7A:Ret Tryz.prog 5 [netL 3 l01,.int .i64 3] t3.v:=by
 refine Q20 rfl ?_;refine J0d J0b Tryz.func5 rfl hc5 hr5 rfl ?_
 repeat' ((conv=>whnf);first|(refine MkS.cells ?_)|(refine Bd.mk 3 (by decide) (by omega) ?_)|(refine Sv.mk 1 (by decide) ?_)|(refine Sv.mk 2 (by decide) ?_)|(refine Br.tt ?_)|(refine Br.ff ?_)|(refine Ar.i64 (by omega) (by omega) ?_)|(refine Nz.mk (by omega) ?_)|(refine Ix.mk 0 rfl (by omega) ?_)|(refine Ix.mk 1 rfl (by omega) ?_)|(refine Ix.int (by omega) (by omega) ?_)|(refine Len.mk (by omega) ?_)|(refine Ltn.mk (by omega) ?_)|(refine And.intro rfl ?_)|(refine J0d J0b Tryz.func19 rfl hc19 hr19 rfl ?_)|(refine J0d J0b Tryz.func20 rfl X7h X7g rfl ?_)|(refine J0d J0b Tryz.func54 rfl hc54 hr54 rfl ?_)|(refine X7w.go ?_)|(refine X2q.go ?_)|(refine X48.go ?_)|(refine X7y.go ?_)|(refine X7x.go ?_)|(refine X6X.go ?_)|(refine X6W.go ?_)|(refine J4Q J0b 20 ?_)|(refine J3s [] (Q8z 0) ⟨VLe.nilfz rfl,VLe.int (by omega),True.intro⟩ ?_)|(refine J3s [] (Q8z 1) ⟨VLe.nilfz rfl,VLe.int (by omega),True.intro⟩ ?_)|(refine J3s [] (Q8z 2) ⟨VLe.nilfz rfl,VLe.int (by omega),True.intro⟩ ?_))
 all_goals (conv=>whnf)
 refine VLe.agg ⟨VLe.fz rfl (fun h=>h) (fun i j hi hj=>?_),VLe.fz rfl (fun h=>h) (fun i j hi hj=>?_),True.intro⟩
 . rcases i with _|_|_|i
   all_goals first|(exfalso;omega)|(rcases j with _|j;exact VLe.rfl;exfalso;omega)
 . rcases i with _|_|_|i
   all_goals first|(exfalso;omega)|skip
   all_goals
    obtain rfl:j=0:=by omega
    conv=>arg 1;whnf
    conv=>arg 2;whnf
    refine VLe.fz rfl (fun h=>h) (fun i j hi hj=>?_);rcases i with _|_|i
    all_goals first|(exfalso;omega)|(rcases j with _|_|j;exact VLe.rfl;exact VLe.rfl;exfalso;omega)
theorem J4I:t3.Small:=⟨by decide,by decide,by decide⟩
theorem X5g (a b:Int) (f:Nat->Nat->V) (h0:f 0 0=.int .i64 a) (h1:f 1 0=.int .i64 b):∀i j:Nat,i<2->j<1->VLe (f i j) (vI [a,b] i j):=by
 intro i j hi hj;have e':j=0:=by omega
 subst e';rcases i with _|_|i
 . rw[h0];exact VLe.rfl
 . rw[h1];exact VLe.rfl
 . exfalso;omega
theorem Q5O (a b:List Int) (ha:a.length<=1000000) (hb:b.length<=1000000):Ret Tryz.prog 47 [.fz a.length 1 false (vI a),.fz b.length 1 false (vI b)] (.bool (decide (a=b))):=by
 refine J0g rfl ?_;refine J0d J0b Tryz.func47 rfl hc47 hr47 rfl ?_
 repeat' ((conv=>whnf);first|(refine Br.bne ?_ ?_<;>intro _<;>try omega))
 all_goals (conv=>whnf)
 . exact VLe.bool (by rw[decide_eq_false (fun h=>by subst h;omega)])
 refine J0N J0b [0,1] (fun i:Nat=>[(5,.int .i64 i)]) (fun m i=>m=a.length-i/\i<=a.length/\∀j,j<i->gI a j=gI b j) a.length 0 ⟨rfl,Nat.zero_le _,fun j hj=>by omega⟩ ?_ ?_
 . exact J0k (fun _ _=>[])
 rintro m i ⟨hm,hi,hall⟩
 repeat' ((conv=>whnf);first|(refine Br.dec ?_ ?_<;>intro _<;>try omega)|(refine Br.bne ?_ ?_<;>intro _<;>try omega)|(refine Ar.i64 (by omega) (by omega) ?_)|(refine Ix.nat (by omega) ?_))
 all_goals (conv=>whnf)
 . rename_i hne;exact VLe.bool (by rw[decide_eq_false (fun h=>by subst h;exact hne rfl)])
 . refine⟨a.length-(i+1),i+1,by omega,⟨rfl,by omega,fun j hj=>?_⟩,?_⟩
   . by_cases e:j=i
     . subst e;assumption
     . exact hall j (by omega)
   . exact J0k (fun _ _=>[])
 . have e:a=b:=List.ext_getElem (by omega) (fun j h1 h2=>by
    have:=hall j (by omega);simpa[gI,List.getD,List.getElem?_eq_getElem h1,List.getElem?_eq_getElem h2] using this)
   exact VLe.bool (by rw[decide_eq_true e])
def phs (c:Cf):List Int:=c.map fun r=>gI r 2
theorem X3b (c:Cf):(phs c).length=c.length:=by simp[phs]
theorem X3c (c:Cf) {v:Nat} (h:v<c.length):gI (phs c) v=gI (gC c v) 2:=by
 simp[phs,gI,gC,List.getD,h]
def G.phL (g:G) (c:Cf):List Int:=if g.conn&&g.cconf c then phs c else[]
def phF (c:Cf) (v:Nat):Nat->Nat->V:=fun i _=>.int .i64 (if i<v then gI (phs c) i else 0)
theorem X3d (c:Cf) (v i t:Nat) (x:Int) (hx:x=gI (phs c) v) (ht:t<1):VLe (J0L (phF c v) v 0 [.int .i64 x] i t) (phF c (v+1) i t):=by
 obtain rfl:t=0:=by omega
 apply VLe.of_eq;by_cases e:i=v
 . subst e;simp[J0L,phF,hx]
 . have:(i<v+1)=(i<v):=by simp;omega
   simp[J0L,phF,e,this]
set_option maxHeartbeats 4000000 in
theorem Q6e (g:G) (hs:g.Small) (c:Cf) (hc:J3R c):Ret Tryz.prog 48 [g.v,cV c] (.fz (g.phL c).length 1 false (vI (g.phL c))):=by
 have hcf:=J3h g hs c hc;have hcl:=hc.len;refine J0g rfl ?_;refine J0d J0b Tryz.func48 rfl hc48 hr48 rfl ?_;by_cases h:(g.conn&&g.cconf c)=true
 . rw[h] at hcf;rw[G.phL,if_pos h,X3b];rw[Bool.and_eq_true] at h;obtain⟨e1,e2⟩:=J4v h.2;obtain⟨f1,f2,f3,f4,f5,f6,f7⟩:=J0e (J0o h.1).1
   repeat' ((conv=>whnf);first|(refine Br.tt ?_)|(refine Bd.nat (by omega) ?_)|(refine Len.mk (by omega) ?_)|(refine MkS.vec ?_)|(refine hcf.go ?_))
   all_goals (conv=>whnf)
   refine J02 J0b [5,15,16] [] [2,3,4,5,6,7,8,9,10,11,12,13,14,15,16,17,18,19,20,21,22,23,24,25,26,27,28,29] [1,0] (fun v:Nat=>[(17,.int .i64 v)]) (fun own v=>J1I own 1 (.vec c.length 1 (phF c v))) (fun m v=>m=c.length-v/\v<=c.length) c.length 0 ⟨rfl,Nat.zero_le _⟩ rfl (fun _=>rfl) ?_ ?_
   . refine J0f (fun _ _=>[(0,some 0),(1,some 1)]) ?_ ?_ rfl
     . repeat' (first|exact True.intro|(refine⟨⟨_,rfl,?_⟩,?_⟩)|exact J0a.kf rfl|exact J0a.vec rfl rfl rfl)
     . repeat' (first|(refine⟨Nat.le_refl _,rfl,fun i j hi hj=>VLe.of_eq ?_⟩;obtain rfl:j=0:=(by omega);rfl)|exact True.intro|(refine⟨⟨_,rfl,?_⟩,?_⟩)|exact J0a.kf rfl|(refine And.intro ?_ ?_))
   rintro m v ⟨hm,hv⟩;by_cases hvl:v<c.length
   . have hr:=e2 v hvl
     repeat' ((conv=>whnf);first|(refine Ix.mk 2 rfl (by omega) ?_)|(refine Br.dec ?_ ?_<;>intro _<;>try omega)|(refine Ar.i64 (by omega) (by omega) ?_)|(refine Ix.nat (by omega) ?_)|(refine Ltn.mk (by omega) ?_))
     all_goals (conv=>whnf)
     refine⟨c.length-(v+1),v+1,by omega,⟨rfl,by omega⟩,?_⟩;refine J0f (fun _ _=>[(0,some 0),(1,some 1)]) ?_ ?_ rfl
     . repeat' (first|exact True.intro|(refine⟨⟨_,rfl,?_⟩,?_⟩)|exact J0a.kf rfl|exact J0a.vec rfl rfl rfl)
     . repeat' (first|(refine⟨Nat.le_refl _,rfl,fun i j hi hj=>?_⟩;simp only[Nat.zero_add];exact X3d c v i j _ (X3c c hvl).symm hj)|exact True.intro|(refine⟨⟨_,rfl,?_⟩,?_⟩)|exact J0a.kf rfl|(refine And.intro ?_ ?_))
   . have ev:v=c.length:=by omega
     subst ev
     repeat' ((conv=>whnf);first|(refine Br.dec ?_ ?_<;>intro _<;>try omega)|(refine Len.mk (by omega) ?_))
     all_goals (conv=>whnf)
     refine VLe.fz rfl (fun h=>h) (fun i j hi hj=>VLe.of_eq ?_);obtain rfl:j=0:=by omega
     rw[J0E,Nat.zero_add,phF,if_pos hi];rfl
 . rw[G.phL,if_neg h];simp only[Bool.not_eq_true] at h;rw[h] at hcf
   repeat' ((conv=>whnf);first|(refine Br.ff ?_)|(refine hcf.go ?_))
   all_goals (conv=>whnf)
   exact VLe.nilfz rfl
theorem J8v (a b d a' b' d' a'' b'' d'':Int):J3R [[a,a',a''],[b,b',b''],[d,d',d'']]:=⟨by simp,by simp⟩
theorem J9t {a b d a' b' d' a'' b'' d'':Int} {k1 k2 k3:Nat->Nat->V} (h1:k1 0 0=.int .i64 a) (h2:k2 0 0=.int .i64 b) (h3:k3 0 0=.int .i64 d) (h1':k1 1 0=.int .i64 a') (h2':k2 1 0=.int .i64 b') (h3':k3 1 0=.int .i64 d')
 (h1'':k1 2 0=.int .i64 a'') (h2'':k2 2 0=.int .i64 b'') (h3'':k3 2 0=.int .i64 d'') {f:Nat->Nat->V}
 (f0:f 0 0=.fz 3 1 false k1) (f1:f 1 0=.fz 3 1 false k2) (f2:f 2 0=.fz 3 1 false k3):VLe (.fz 3 1 false f) (cV [[a,a',a''],[b,b',b''],[d,d',d'']]):=by
 refine VLe.fz rfl (fun h=>h) (fun i j hi hj=>?_);have e:j=0:=by omega
 subst e;rcases i with _|_|_|i
 . rw[f0];exact VLe.fz rfl (fun h=>h) (J4H _ _ _ _ h1 h1' h1'')
 . rw[f1];exact VLe.fz rfl (fun h=>h) (J4H _ _ _ _ h2 h2' h2'')
 . rw[f2];exact VLe.fz rfl (fun h=>h) (J4H _ _ _ _ h3 h3' h3'')
 . exfalso;omega
def cA:Cf:=[[0,-1,2],[1,0,1],[2,0,0]]
def cD:Cf:=[[0,-1,2],[1,0,1],[2,0,1]]
theorem Q3G {g:G} {c:Cf} (h1:c.length=g.ids.length) (h2:(List.range c.length).all (fun v=>decide ((gC c v).length=3)&&(List.range 3).all fun x=>decide ((bnd g (gV J0x.vars x) v).1<=gI (gC c v) x/\gI (gC c v) x<=(bnd g (gV J0x.vars x) v).2))=true):J1s J0x g c:=by
 simp only[List.all_eq_true,List.mem_range,Bool.and_eq_true,decide_eq_true_eq] at h2;exact⟨h1,fun v hv=>(h2 v hv).1,fun v hv x hx=>(h2 v hv).2 x hx⟩
theorem Y0K:J1s J0x t3 cA:=Q3G rfl (by decide +kernel)
theorem Y0J:J1s J0x t3 cD:=Q3G rfl (by decide +kernel)
theorem legA:(t3.conn&&t3.cconf cA&&J5Y t3 cA&&phB t3 cA)=true:=by decide +kernel
theorem enA:enN J0x t3 cA=4:=by decide +kernel
theorem enD:enN J0x t3 cD=2:=by decide +kernel
theorem ec3:t3.ecc=2:=by decide +kernel
theorem phA:t3.phL cA=[2,1,0]:=by decide +kernel
set_option maxHeartbeats 4000000 in
theorem Q4A:Ret Tryz.prog 14 [] (.bool true):=by
 have hg:t3.valid=true:=by decide +kernel
 have h1:=Q0X t3 J4I cA (J8v 0 1 2 (-1) 0 0 2 1 0);have h2:=J6y J0x J42 t3 J4I hg cA Y0K;have h3:=J6y J0x J42 t3 J4I hg cD Y0J;have h4:=Q01 t3 J4I (by decide +kernel);have h5:=Q6e t3 J4I cA (J8v 0 1 2 (-1) 0 0 2 1 0);have h6:=Q5O [2,1,0] [2,1,0] (by decide) (by decide);rw[legA] at h1;rw[enA] at h2;rw[enD] at h3;rw[ec3,Y0M] at h4;rw[phA] at h5;rw[decide_eq_true rfl] at h6;have htx:=Q5C;have hpr:=J75;refine Q20 rfl ?_;refine J0d J0b Tryz.func14 rfl hc14 hr14 rfl ?_
 repeat' ((conv=>whnf);first|(refine Br.tt ?_)|(refine J3s [0] X7A ⟨by decide,VLe.agg ⟨VLe.rfl,VLe.fz rfl (fun h=>h) (X5g _ _ _ rfl rfl),VLe.rfl,VLe.rfl,VLe.rfl,VLe.rfl,True.intro⟩,VLe.rfl,True.intro⟩ ?_)|(refine htx.go ?_)|(refine hpr.go ?_)|(refine h4.go ?_)|(refine J0F h1 rfl ⟨by decide,by decide,by decide,VLe.rfl,J9t rfl rfl rfl rfl rfl rfl rfl rfl rfl rfl rfl rfl,True.intro⟩ ?_)|(refine J0F h2 rfl ⟨by decide,by decide,by decide,VLe.rfl,VLe.rfl,J9t rfl rfl rfl rfl rfl rfl rfl rfl rfl rfl rfl rfl,True.intro⟩ ?_)|(refine J0F h3 rfl ⟨by decide,by decide,by decide,VLe.rfl,VLe.rfl,J9t rfl rfl rfl rfl rfl rfl rfl rfl rfl rfl rfl rfl,True.intro⟩ ?_)|(refine J3s [3,4,5,6] h5 ⟨by decide,by decide,by decide,VLe.rfl,J9t rfl rfl rfl rfl rfl rfl rfl rfl rfl rfl rfl rfl,True.intro⟩ ?_)|(refine J0F h6 rfl ⟨by decide,VLe.rfl,VLe.fz rfl (fun h=>h) (J4H _ _ _ _ rfl rfl rfl),True.intro⟩ ?_))
 all_goals (conv=>whnf)
 all_goals exact VLe.rfl
theorem J6S (bk:Bool) (p:Ps) (a b:Nat) (w:Int):(J3a bk p a b w).length=p.length:=by
 rw[J3a];split<;>simp
theorem Q6U (bk:Bool) (p:Ps) {a b:Nat} (w:Int) (ha:a<p.length) (hb:b<p.length) (u:Nat):(gR (J3a bk p a b w) u).length<=(gR p u).length+1:=by
 rw[J3a];split
 . omega
 . rename_i h;have hab:¬ a=b:=fun e=>h (.inl e);have hl:∀r l,(J9B bk r l).length=r.length+1:=fun r l=>by rw[J9B];split<;>simp
   rw[J4f _ b _ (by simpa using hb),J4f p a _ ha];split
   . rename_i e;subst e;rw[hl];omega
   . split
     . rename_i e;subst e;rw[hl];omega
     . omega
def wgt (x:Net) (i:Nat):Int:=1+J08 (gI x.weights i) 15
def J1V (x:Net) (n:Nat):Nat->Ps
 | 0=>List.replicate n []
 | k+1=>J3a x.back (J1V x n k) (J08 (gI x.links k) ((k:Int)+1)).toNat (k+1) (wgt x k)
theorem J1o (x:Net) (n:Nat):∀k,(J1V x n k).length=n
 | 0=>by simp[J1V]
 | k+1=>by rw[J1V,J6S,J1o x n k]
theorem J8O (x:Net) (k:Nat):(J08 (gI x.links k) ((k:Int)+1)).toNat<k+1:=by
 have:=J0P (gI x.links k) (b:=(k:Int)+1) (by omega);omega
theorem J8Y (n u:Nat):gR (List.replicate n []) u=[]:=by
 simp only[gR,List.getD,List.getElem?_replicate];split<;>rfl
theorem J9T (x:Net) (n:Nat):∀k,k<n->∀u,(gR (J1V x n k) u).length<=k
 | 0,_,u=>by rw[J1V,J8Y];simp
 | k+1,hk,u=>by
   have h1:=J8O x k;have h2:=Q6U x.back (J1V x n k) (wgt x k) (a:=(J08 (gI x.links k) ((k:Int)+1)).toNat) (b:=k+1) (by rw[J1o];omega) (by rw[J1o];exact hk) u;have h3:=J9T x n k (by omega) u;rw[J1V];omega
abbrev X5Q (I:List Int) (p:Ps):Own:=X7j ⟨I,p⟩
theorem X2x (ρ:Rn) (n:Nat):X4N ρ (.vec n 1 fun _ _=>.nilslice) (X40 (List.replicate n [])):=⟨by simp,rfl,rfl,fun i hi=>⟨rfl,by rw[Q1j,J8Y];rfl⟩⟩
theorem Q12 (ρ:Rn) (p:Ps):X4N ρ (X40 p) (X40 p):=⟨rfl,rfl,True.intro,fun i hi=>rfl,fun i j t hi hn hj ht=>VLe.rfl⟩
set_option maxHeartbeats 8000000 in
theorem X2G (x:Net) (hx:x.Small) (most:Int) (h1:1<=most) (h2:most<=24) :
 J0J Tryz.prog 5 [x.v,.int .i64 most] [] KS fun v own' _=>v=gV1 (x.size most) (x.size most)/\own'=X5Q (J51 x.ids (x.size most)) (J1V x (x.size most) (x.size most-1)):=by
 have hn:=Q9O x hx most h1 h2;have hsz:1<=x.size most/\x.size most<=24:=by
  have:=J0P x.n1 h1;rw[Net.size];omega
 have hll:=hx.links;have hwl:=hx.weights;generalize x.size most=n at *;have hil:=J3q x.ids n;refine J1q ?_;refine J0d J0b Tryz.func5 rfl hc5 hr5 rfl ?_
 repeat' ((conv=>whnf);first|(refine J10 [] [0,1] (hn.mono ?_) ⟨J0a.kf rfl,J0a.kf rfl,True.intro⟩ True.intro rfl;rintro _ _ _ ⟨rfl,rfl⟩)|(refine Chk.mk rfl ?_))
 all_goals (conv=>whnf)
 refine J02 J0b [2,4,5] [3] [5,6,7,8,9,10,11,12,13,14,15,16,17,18,19,20,21,22,23,24,25,26,27,28,29] [4,2,3,1,0] (fun k:Nat=>[(6,.int .i64 ((k:Int)+1))]) (fun own k=>J1I own 3 (X40 (J1V x n k))) (fun m k=>m=n-1-k/\k<=n-1) (n-1) 0 ⟨rfl,by omega⟩ rfl (fun _=>rfl) ?_ ?_
 . refine J0f (fun _ _=>[(0,some 0),(1,some 1),(2,some 2),(3,some 3),(4,some 4)]) ?_ ?_ rfl
   . repeat' (first|exact True.intro|(refine⟨⟨_,rfl,?_⟩,?_⟩)|exact J0a.kf rfl|exact J0a.loc rfl)
   . repeat' (first|exact X2x _ _|exact True.intro|(refine⟨⟨_,rfl,?_⟩,?_⟩)|exact J0a.kf rfl|exact J0a.vec rfl rfl rfl|(refine⟨Nat.le_refl _,rfl,fun i j hi hj=>?_⟩)|exact VLe.rfl|(refine And.intro ?_ ?_))
 rintro m k ⟨hm,hk⟩;have hln:=J1o x n k;by_cases hkn:k<n-1
 . have ha1:=Q4V x.links hll k;have ha2:=Q4V x.weights hwl k;have hw1:=J1L (gI x.links k) ((k:Int)+1) (by omega);have hw2:=J1L (gI x.weights k) 15 (by omega);have hr1:=J0P (gI x.links k) (b:=(k:Int)+1) (by omega);have hr2:=J0P (gI x.weights k) (b:=15) (by omega);have hrow:=J9T x n k (by omega);have hl:=X3t x ⟨J51 x.ids n,J1V x n k⟩ (Q2T (by show(J51 x.ids n).length<=_;omega) (by show(J1V x n k).length<=_;omega) (fun u=>by have:=hrow u;show(gR (J1V x n k) u).length<=_;omega)) (fun u=>by have:=hrow u;show(gR (J1V x n k) u).length<=_;omega) (J08 (gI x.links k) ((k:Int)+1)).toNat (k+1) (by show _<(J1V x n k).length;omega) (by show _<(J1V x n k).length;omega) (wgt x k);have hnx:J3a x.back (J1V x n k) (J08 (gI x.links k) ((k:Int)+1)).toNat (k+1) (wgt x k)=J1V x n (k+1):=rfl;have hwg:wgt x k=1+J08 (gI x.weights k) 15:=rfl;simp only[hnx,hil,hln] at hl;generalize J08 (gI x.links k) ((k:Int)+1)=a at *;generalize J08 (gI x.weights k) 15=w at *
   repeat' ((conv=>whnf);first|(refine Ar.i64 (by omega) (by omega) ?_;rw[show(k:Int)+1-1=(k:Int) by omega])|(refine Br.dec ?_ ?_<;>intro _<;>try omega)|(refine Ar.i64 (by omega) (by omega) ?_)|(refine ha1.go ?_)|(refine ha2.go ?_)|(refine hw1.go ?_)|(refine hw2.go ?_)|(refine And.intro rfl ?_)|(refine J10 [(0,some 2),(1,some 3)] [] (hl.mono ?_) ⟨J0a.kf rfl,J0a.agg ⟨J0a.vec rfl rfl rfl,J0a.vec rfl rfl rfl,True.intro⟩,J0a.int (by omega),J0a.int (by omega),J0a.int (by omega),True.intro⟩ ⟨⟨_,rfl,Nat.le_of_eq hil,rfl,fun _ _ _ _=>VLe.rfl⟩,⟨_,rfl,Q12 _ _⟩,True.intro⟩ rfl;rintro _ _ _ ⟨rfl,rfl⟩)|(refine Chk.mk rfl ?_))
   all_goals (conv=>whnf)
   all_goals
    refine⟨n-1-(k+1),k+1,by omega,⟨rfl,by omega⟩,?_⟩;refine J0f (fun _ _=>[(0,some 0),(1,some 1),(2,some 2),(3,some 3),(4,some 4)]) ?_ ?_ rfl
    . repeat' (first|exact True.intro|(refine⟨⟨_,rfl,?_⟩,?_⟩)|exact J0a.kf rfl|exact J0a.loc rfl)
    . repeat' (first|exact Q12 _ _|exact⟨Nat.le_of_eq hil.symm,rfl,fun _ _ _ _=>VLe.rfl⟩|exact True.intro|(refine⟨⟨_,rfl,?_⟩,?_⟩)|exact J0a.kf rfl|exact J0a.vec rfl rfl rfl|(refine And.intro ?_ ?_))
 . have e:k=n-1:=by omega
   subst e
   repeat' ((conv=>whnf);first|(refine Br.dec ?_ ?_<;>intro _<;>try omega))
   all_goals (conv=>whnf)
   exact Q0e (fun v o=>[(0,X4P v 0),(1,X4P v 1)]) _ _ ⟨rfl,rfl⟩ (J0a.agg ⟨J0a.vec rfl rfl rfl,J0a.vec rfl rfl rfl,True.intro⟩) ⟨⟨_,rfl,Nat.le_of_eq hil,rfl,fun _ _ _ _=>VLe.rfl⟩,⟨_,rfl,Q12 _ _⟩,True.intro⟩ rfl
def J7J (x:Net) (n:Nat) (p:Ps):Nat->Ps
 | 0=>p
 | k+1=>J3a x.back (J7J x n p k) (J08 (gI x.links (n+2*k)) n).toNat (J08 (gI x.links (n+2*k+1)) n).toNat (wgt x (n+2*k))
def Q9T (x:Net) (n:Nat):Nat:=min ((x.links.length-n) / 2) ((61-n) / 2)
theorem J28 (x:Net) (n:Nat) (p:Ps):∀k,(J7J x n p k).length=p.length
 | 0=>rfl
 | k+1=>by rw[J7J,J6S,J28 x n p k]
theorem J4B {a:Int} {n:Nat} (hn:1<=n):(J08 a n).toNat<n:=by
 have:=J0P a (b:=(n:Int)) (by omega);omega
theorem Q1D (x:Net) {most:Int} (h1:1<=most):1<=x.size most/\(x.size most:Int)<=most:=by
 have:=J0P x.n1 h1;rw[Net.size];omega
def Net.con (x:Net) (most:Int):G:=⟨J51 x.ids (x.size most),J7J x (x.size most) (J1V x (x.size most) (x.size most-1)) (Q9T x (x.size most))⟩
def Net.any (x:Net) (most:Int):G:=if x.apart then⟨J51 x.ids (x.size most),J7J x (x.size most) (List.replicate (x.size most) []) (Q9T x (x.size most))⟩ else x.con most
theorem X5c {g:G} {n:Nat} (h1:g.ids.length=n) (h2:g.ports.length=n):VLe (V.agg [.fz n 1 false (J0l 0 (vI g.ids)),.fz n 1 false fun i _=>.fz (Q1j g.ports i) 2 false (Q2Z g.ports i)]) g.v:=by
 refine VLe.agg ⟨?_,?_,True.intro⟩
 . exact VLe.fz h1.symm (fun h=>h) (fun i j hi hj=>VLe.of_eq (by simp[J0l]))
 . exact VLe.fz h2.symm (fun h=>h) (fun i j hi hj=>VLe.rfl)
theorem X82 {g:G} {n:Nat} (h1:g.ids.length=n) (h2:g.ports.length=n):Q4H (X7j g) (gV1 n n) fun v=>VLe v g.v :=
 ⟨by rw[Nat.zero_add,h1];exact Nat.le_refl _,Nat.le_of_eq h2.symm,X5c h1 h2⟩
theorem Q2a (x:Net) (most:Int):(x.con most).ids.length=x.size most/\(x.con most).ports.length=x.size most:=⟨J3q _ _,(J28 _ _ _ _).trans (J1o _ _ _)⟩
structure PV (p:Ps):Prop where
 ok:∀v,v<p.length->okR p.length v (gR p v)=true
 sym:∀v,v<p.length->∀l∈gR p v,((v:Int),l.2)∈gR p l.1.toNat
theorem J1O {bk:Bool} {r:List (Int×Int)} {x l:Int×Int}:l∈J9B bk r x↔l=x\/l∈r:=by
 rw[J9B];split
 . simp
 . simp only[List.mem_append,List.mem_singleton];exact⟨Or.symm,Or.symm⟩
theorem J8a {bk:Bool} {r:List (Int×Int)} {x:Int×Int} (h:(r.map (·.1)).Nodup) (hx:∀l∈r,l.1≠x.1):((J9B bk r x).map (·.1)).Nodup:=by
 have hn:x.1∉r.map (·.1):=fun hm=>by
  obtain⟨l,h1,h2⟩:=List.mem_map.1 hm;exact hx l h1 h2
 rw[J9B];split
 . rw[List.map_cons,List.nodup_cons];exact⟨hn,h⟩
 . rw[List.map_append,List.nodup_append];refine⟨h,by simp,fun a ha b hb e=>hn ?_⟩;have:b=x.1:=by simpa using hb
   rw[<- this,<- e];exact ha
theorem X5v (n:Nat):PV (List.replicate n []):=⟨fun v _=>by rw[J8Y];rfl,fun v _ l hl=>by rw[J8Y] at hl;cases hl⟩
theorem Q59 {bk:Bool} {p:Ps} (h:PV p) {a b:Nat} {w:Int} (ha:a<p.length) (hb:b<p.length) (hw:1<=w/\w<=15):PV (J3a bk p a b w):=by
 have hlen:=J6S bk p a b w;rw[J3a] at hlen ⊢;split
 . exact h
 . rename_i hc;rw[if_neg hc] at hlen;have hab:a≠b:=fun e=>hc (.inl e);have hnl:∀l∈gR p a,l.1≠b:=fun l hl e=>hc (.inr (by rw[lnk,List.any_eq_true];exact⟨l,hl,by simpa using e⟩));have hnl2:∀l∈gR p b,l.1≠a:=fun l hl e=>by
    have:=h.sym b hb l hl;rw[e] at this;exact hnl _ this rfl
   have hg:∀v,gR ((p.set a (J9B bk (gR p a) ((b:Int),w))).set b (J9B bk (gR p b) ((a:Int),w))) v=if v=b then J9B bk (gR p b) ((a:Int),w) else if v=a then J9B bk (gR p a) ((b:Int),w) else gR p v:=fun v=>by
    rw[J4f _ b _ (by simpa using hb),J4f p a _ ha]
   constructor
   . intro v hv;rw[hlen] at hv ⊢;rw[hg];split
     . rename_i e;subst e;obtain⟨o1,o2⟩:=J1k.1 (h.ok v hv);refine J1k.2 ⟨fun l hl=>?_,J8a o2 hnl2⟩;rcases J1O.1 hl with rfl|hl
       . simp only;omega
       . exact o1 l hl
     . split
       . rename_i e;subst e;obtain⟨o1,o2⟩:=J1k.1 (h.ok v hv);refine J1k.2 ⟨fun l hl=>?_,J8a o2 hnl⟩;rcases J1O.1 hl with rfl|hl
         . simp only;omega
         . exact o1 l hl
       . exact h.ok v hv
   . intro v hv l hl;rw[hlen] at hv;have old:∀u x,x∈gR p u->x∈gR ((p.set a (J9B bk (gR p a) ((b:Int),w))).set b (J9B bk (gR p b) ((a:Int),w))) u:=fun u x hx=>by
      rw[hg];split
      . rename_i e;subst e;exact J1O.2 (.inr hx)
      . split
        . rename_i e;subst e;exact J1O.2 (.inr hx)
        . exact hx
     rw[hg] at hl;split at hl
     . rename_i e;subst e;rcases J1O.1 hl with rfl|hl
       . simp only[Int.toNat_natCast];rw[hg,if_neg hab,if_pos rfl];exact J1O.2 (.inl rfl)
       . exact old _ _ (h.sym v hv l hl)
     . split at hl
       . rename_i e;subst e;rcases J1O.1 hl with rfl|hl
         . simp only[Int.toNat_natCast];rw[hg,if_pos rfl];exact J1O.2 (.inl rfl)
         . exact old _ _ (h.sym v hv l hl)
       . exact old _ _ (h.sym v hv l hl)
theorem X1e (x:Net) (i:Nat):1<=wgt x i/\wgt x i<=15:=by
 have:=J0P (gI x.weights i) (b:=15) (by omega);rw[wgt];omega
theorem Q1I (x:Net) (n:Nat):∀k,k<n->PV (J1V x n k)
 | 0,_=>X5v n
 | k+1,hk=>by
   have h1:=J8O x k;rw[J1V];exact Q59 (Q1I x n k (by omega)) (by rw[J1o];omega) (by rw[J1o];exact hk) (X1e x k)
theorem Q58 (x:Net) {n:Nat} (hn:1<=n) {p:Ps} (hp:p.length=n) (h:PV p):∀k,PV (J7J x n p k)
 | 0=>h
 | k+1=>by
   rw[J7J];exact Q59 (Q58 x hn hp h k) (by rw[J28,hp];exact J4B hn) (by rw[J28,hp];exact J4B hn) (X1e x _)
theorem Q9f {I:List Int} {p:Ps} {n:Nat} (h1:1<=n) (h2:n<=24) (hI:I.length=n) (hp:p.length=n) (h3:∀a∈I,0<=a/\a<=255) (h4:I.Nodup) (h:PV p):(⟨I,p⟩:G).valid=true:=by
 rw[G.valid,Bool.and_eq_true,Bool.and_eq_true,decide_eq_true_eq];refine⟨⟨by show 1<=I.length;omega,by show I.length<=24;omega,by show p.length=I.length;omega⟩,(J4W _).2 ⟨h3,h4⟩,?_⟩;rw[J2W,Bool.and_eq_true];exact⟨J3V.2 h.ok,J6s.2 h.sym⟩
theorem Q70 (x:Net) {most:Int} (h1:1<=most) (h2:most<=24):(x.con most).valid=true:=by
 have hs:=Q1D x h1;have hi:=Q7f x.ids (x.size most) (by omega);exact Q9f hs.1 (by omega) (Q2a x most).1 (Q2a x most).2 hi.1 hi.2 (Q58 x hs.1 (J1o _ _ _) (Q1I x _ _ (by omega)) _)
theorem Q1x {g:G} (h:g.valid=true):g.Small:=by
 obtain⟨f1,f2,f3,f4,f5,f6,f7⟩:=J0e h;refine Q2T (by omega) (by omega) (fun u=>?_);by_cases hu:u<g.ports.length
 . have:=Q1N hu (f6 u hu);omega
 . have:gR g.ports u=[]:=by simp[gR,List.getD,List.getElem?_eq_none (Nat.le_of_not_lt hu)]
   rw[this];simp
theorem Q0r {bk:Bool} {p:Ps} {a b:Nat} {w:Int} (ha:a<p.length) (hb:b<p.length) (hc:¬ (a=b\/lnk p a b=true)) (v:Nat) :
 gR (J3a bk p a b w) v=if v=b then J9B bk (gR p b) ((a:Int),w) else if v=a then J9B bk (gR p a) ((b:Int),w) else gR p v:=by
 rw[J3a,if_neg hc,J4f _ b _ (by simpa using hb),J4f p a _ ha]
theorem J8e {bk:Bool} {p:Ps} {a b:Nat} {w:Int} (ha:a<p.length) (hb:b<p.length) {v:Nat} {l:Int×Int} (hl:l∈gR p v):l∈gR (J3a bk p a b w) v:=by
 by_cases hc:a=b\/lnk p a b=true
 . rw[J3a,if_pos hc];exact hl
 . rw[Q0r ha hb hc];split
   . rename_i e;subst e;exact J1O.2 (.inr hl)
   . split
     . rename_i e;subst e;exact J1O.2 (.inr hl)
     . exact hl
theorem Q6V {bk:Bool} {p:Ps} (h:PV p) {a b:Nat} {w:Int} (ha:a<p.length) (hb:b<p.length) (hab:a≠b):∃l∈gR (J3a bk p a b w) b,l.1=(a:Int):=by
 by_cases hc:lnk p a b=true
 . rw[J3a,if_pos (.inr hc)];rw[lnk,List.any_eq_true] at hc;obtain⟨l,hl,e⟩:=hc;have e:l.1=(b:Int):=by simpa using e
   have:=h.sym a ha l hl;rw[e,Int.toNat_natCast] at this;exact⟨_,this,rfl⟩
 . rw[Q0r ha hb (by rintro (e|e);exact hab e;exact hc e),if_pos rfl];exact⟨_,J1O.2 (.inl rfl),rfl⟩
def Anc (p:Ps) (k:Nat):Prop:=∀v,1<=v->v<=k->∃l∈gR p v,l.1.toNat<v
theorem Q31 (x:Net) (n:Nat):∀k,k<n->Anc (J1V x n k) k
 | 0,_=>fun v h1 h2=>by omega
 | k+1,hk=>by
   intro v h1 h2;have ht:=J8O x k;have hpv:=Q1I x n k (by omega);have hl:=J1o x n k;rw[J1V];by_cases e:v=k+1
   . subst e;obtain⟨l,hl1,e⟩:=Q6V (bk:=x.back) (w:=wgt x k) hpv (a:=(J08 (gI x.links k) ((k:Int)+1)).toNat) (b:=k+1) (by omega) (by omega) (by omega);exact⟨l,hl1,by rw[e,Int.toNat_natCast];exact ht⟩
   . obtain⟨l,hl1,e2⟩:=Q31 x n k (by omega) v h1 (by omega);exact⟨l,J8e (by omega) (by omega) hl1,e2⟩
theorem Q32 (x:Net) {n:Nat} (hn:1<=n) {p:Ps} (hp:p.length=n) {m:Nat} (h:Anc p m):∀k,Anc (J7J x n p k) m
 | 0=>h
 | k+1=>by
   intro v h1 h2;obtain⟨l,hl,e⟩:=Q32 x hn hp h k v h1 h2;rw[J7J];exact⟨l,J8e (by rw[J28,hp];exact J4B hn) (by rw[J28,hp];exact J4B hn) hl,e⟩
theorem X4e {g:G} (hg:g.valid=true) (ha:∀v,1<=v->v<g.ports.length->∃l∈gR g.ports v,l.1.toNat<v):g.conn=true:=by
 obtain⟨f1,f2,f3,f4,f5,f6,f7⟩:=J0e hg;have hF:=Q0Q hg;have hu:=J6p hg;have key:∀m v,v<m->v<g.ports.length->0<=gI (dst g 0) v:=by
  intro m
  induction m with
  | zero=>intro v h;omega
  | succ m ih =>
    intro v hm hv;by_cases h0:v=0
    . subst h0;have:=hF.from_;have this:gI (dst g 0) 0=0:=this;omega
    . obtain⟨l,hl,e⟩:=ha v (by omega) hv;have h1:=ih l.1.toNat (by omega) (by omega);obtain⟨m',hm',em⟩:=hu.sym v hv l hl;have:=(hF.on l.1.toNat (by omega) h1 m' hm').1;rw[em] at this;exact this
 rw[G.conn,hg,Bool.true_and,Q1Q.2 (fun a ham=>?_)]
 . rfl
 . obtain⟨i,hi,e⟩:=List.mem_iff_getElem.1 ham;have:=key (i+1) i (by omega) (by rw[J2E] at hi;exact hi);rw[<- e];simpa[gI,hi] using this
theorem X0E (x:Net) {most:Int} (h1:1<=most) (h2:most<=24):(x.con most).conn=true:=by
 have hs:=Q1D x h1;refine X4e (Q70 x h1 h2) fun v hv1 hv=>?_;rw[(Q2a x most).2] at hv;exact Q32 x hs.1 (J1o _ _ _) (Q31 x (x.size most) (x.size most-1) (by omega)) _ v hv1 (by omega)
def Net.tre (x:Net) (most:Int):G:=⟨J51 x.ids (x.size most),J1V x (x.size most) (x.size most-1)⟩
def Net.cut (x:Net) (n:Nat):Net:={ x with links:=x.links.take n }
theorem J9U (x:Net) (N n:Nat):∀k,k<=N->J1V (x.cut N) n k=J1V x n k
 | 0,_=>rfl
 | k+1,h=>by
   have ih:=J9U x N n k (by omega);have e:gI (x.links.take N) k=gI x.links k:=by
    simp only[gI,List.getD_eq_getElem?_getD,List.getElem?_take];rw[if_pos (by omega)]
   rw[J1V,J1V,ih];show J3a _ _ (J08 (gI (x.links.take N) k) _).toNat _ _=_;rw[e];rfl
theorem X2J (x:Net) (most:Int):x.tre most=(x.cut (x.size most)).con most:=by
 have hz:(x.cut (x.size most)).size most=x.size most:=rfl;have hm:Q9T (x.cut (x.size most)) (x.size most)=0:=by
  rw[Q9T];have:(x.cut (x.size most)).links.length<=x.size most:=by
   show(x.links.take _).length<=_;exact List.length_take_le _ _
  have e:(x.cut (x.size most)).links.length-x.size most=0:=by omega
  rw[e];simp
 rw[Net.con,hz,hm,Net.tre,J7J,J9U x _ _ _ (by omega)];rfl
theorem X2K (x:Net) (hx:x.Small) (most:Int) (h1:1<=most) (h2:most<=24):Ret Tryz.prog 5 [x.v,.int .i64 most] (x.tre most).v:=by
 refine J0g rfl ((X2G x hx most h1 h2).mono ?_);rintro _ _ _ ⟨rfl,rfl⟩;exact X82 (g:=x.tre most) (J3q _ _) (J1o _ _ _)
theorem Q9o (x:Net) {most:Int} (h1:1<=most) (h2:most<=24):(x.tre most).conn=true:=by
 rw[X2J];exact X0E _ h1 h2
theorem X2I (x:Net) {most:Int} (h1:1<=most):((x.tre most).ids.length:Int)<=most:=by
 show((J51 x.ids (x.size most)).length:Int)<=most;rw[J3q];exact(Q1D x h1).2
end Go.Proofs.YtlpfphlbghdokaaGreatDoor
namespace Go.Proofs.YtlpfphlbghdokaaGreatDoor
open Go.Eng Go.Plain
set_option maxRecDepth 100000
set_option linter.unusedVariables false
theorem X4h {g:G} (hg:g.valid=true) (h:g.ids.length<=2):J1e J0x g<=1296:=by
 obtain⟨f1,f2,f3,f4,f5,f6,f7⟩:=J0e hg;refine Nat.le_trans (X0F (B:=36) fun v hv=>?_) (Nat.pow_le_pow_right (n:=36) (by omega) h);have hd:=X6x hg (v:=v) (by omega);have a:szX J0x g v 0=((0+1*(g.ids.length:Int)+0*J9F g)-0).toNat+1:=rfl;have b:szX J0x g v 1=(((gR g.ports v).length:Int)-1 - -1).toNat+1:=rfl;have e0:=J3D J0x g (v:=v) (x:=0) (show 0<3 by omega);have e1:=J3D J0x g (v:=v) (x:=1) (show 1<3 by omega);have e2:=J3D J0x g (v:=v) (x:=2) (show 2<3 by omega);change szP J0x g (v*3+0)=_ at e0;change szP J0x g (v*3+1)=_ at e1;change szP J0x g (v*3+2)=_ at e2;rw[Nat.add_zero] at e0;show szP J0x g (v*3)*(szP J0x g (v*3+1)*(szP J0x g (v*3+1+1)*1))<=36;have c:szX J0x g v 2=((3+0*(g.ids.length:Int)+0*J9F g)-0).toNat+1:=rfl;rw[Nat.mul_one,e0,e1,e2,a,b,c];exact Nat.le_trans (Nat.mul_le_mul (show _<=3 by omega) (Nat.mul_le_mul (show _<=3 by omega) (show _<=4 by omega))) (by decide)
set_option maxHeartbeats 16000000 in
theorem Q61 (x:Net) (hx:x.Small):RG 3 [x.v] (.bool true):=by
 have h0:=X2K x hx 2 (by omega) (by omega);have hgc:=Q9o x (most:=2) (by omega) (by omega);have hlen:(x.tre 2).ids.length<=2:=by have:=X2I x (most:=2) (by omega);omega
 generalize x.tre 2=g at *;have hg:=(J0o hgc).1;obtain⟨f1,f2,f3,f4,f5,f6,f7⟩:=J0e hg;have hs:=Q1x hg;have h10:g.ids.length<=10:=by omega
 have hcn:=X4h hg hlen;have hpw:2 ^ g.ids.length<=4:=Nat.pow_le_pow_right (n:=2) (by omega) hlen;have hN:J1e J0x g<=32768:=by omega
 have hNm:J1e J0x g*2 ^ g.ids.length<=262144:=Nat.le_trans (Nat.mul_le_mul hcn hpw) (by decide);have hS:=X0H hgc;have hclm:=Q01 g hs hgc;rw[Y0M] at hclm;have hprk:=J42;have hb:=Q1n hprk hs hg (kd:=3) rfl h10 hN hNm;have hco:=Q1m hprk hs hg (kd:=3) rfl hS h10 hN hNm;have hcl:=J8F hprk hs hg (kd:=3) rfl hS h10 hN hNm;have hpos:=Q3I J0x g;have hun:=fun k hk=>Q4q J0x hprk g hs hg hN k hk;have hlg:=fun k=>Q0X g hs (cfK J0x g k) (X39 hprk hg (J1T hprk hg k));have htx:=Q5C;have hpr:=J75;have hkn:=Q4A;have hsn:(J5D J0x g 3).n=J1e J0x g:=rfl;refine J3W rfl ?_;refine X0U Tryz.func3 rfl hc3 hr3 rfl ?_;refine J3H (J4L J0b ?_)
 repeat' ((conv=>whnf);first|fail)
 all_goals (conv=>whnf)
 refine J3H (J4L J0b ?_)
 repeat' ((conv=>whnf);first|(refine h0.go ?_))
 all_goals (conv=>whnf)
 refine J3H (J4L J0b ?_)
 repeat' ((conv=>whnf);first|(refine htx.go ?_)|(refine hpr.go ?_))
 all_goals (conv=>whnf)
 refine J3H (J4L J0b ?_)
 repeat' ((conv=>whnf);first|(refine hclm.go ?_))
 all_goals (conv=>whnf)
 refine J3H (J4L J0b ?_)
 repeat' ((conv=>whnf);first|(refine hb.gog ?_))
 all_goals (conv=>whnf)
 refine J3H (J4L J0b ?_)
 repeat' ((conv=>whnf);first|(refine Br.ff ?_)|(refine Br.dec ?_ ?_<;>intro _<;>try omega))
 all_goals (conv=>whnf)
 refine J3H (J4L J0b ?_)
 repeat' ((conv=>whnf);first|fail)
 all_goals (conv=>whnf)
 refine J3H (J4L J0b ?_)
 repeat' ((conv=>whnf);first|fail)
 all_goals (conv=>whnf)
 refine J02 J0b [3,4,6] [5] [6,7,8,9,10,11,12,13,14,15,16,17,18,19,20,21,22,23,24,25,26,27,28,29] [5,4,3,2,1,0,999] (fun i:Nat=>[(8,.vec 5 1 0 i),(9,.int .i64 i)]) (fun own i=>(5,.vec i 1 (vBl (J59 J0x g g.cleg)))::own) (fun m i=>m=J1e J0x g-i/\i<=J1e J0x g) (J1e J0x g) 0 ⟨rfl,Nat.zero_le _⟩ rfl (fun _=>rfl) ?_ ?_
 . exact J0k (fun _ _=>[(0,some 0),(1,some 1),(2,some 2),(3,some 3),(4,some 4),(5,none),(999,some 999)])
 rintro m i ⟨hm,hi⟩;by_cases hil:i<J1e J0x g
 . have hui:=hun i hil;have hli:=hlg i;change Ret _ _ _ (.bool (J59 J0x g g.cleg i)) at hli
   repeat' ((conv=>whnf);first|(refine Br.ff ?_)|(refine Br.dec ?_ ?_<;>intro _<;>try omega)|(refine Br.nbeq ?_ ?_<;>intro _<;>try omega)|(refine Ar.i64 (by omega) (by omega) ?_)|(refine Len.mk (by omega) ?_)|(refine hui.go ?_)|(refine hli.go ?_)|(refine Br.any (fun _=>?_) (fun _=>?_)))
   all_goals (conv=>whnf)
   all_goals
    refine⟨J1e J0x g-(i+1),i+1,by omega,⟨rfl,by omega⟩,?_⟩;refine J0f (fun env own=>[(0,some 0),(1,some 1),(2,some 2),(3,some 3),(4,some 4),(5,X6q env 8),(999,some 999)]) ?_ ?_ rfl
    . repeat' (first|exact True.intro|(refine⟨⟨_,rfl,?_⟩,?_⟩)|exact J0a.kf rfl|exact J0a.loc rfl|exact J0a.vec rfl rfl rfl)
    . repeat' (first|exact Q86 _ _ _ _ _ rfl hi hj _ _ (by rfl) (by first|rfl|(symm;assumption))|exact True.intro|exact⟨rfl,rfl,rfl⟩|(refine⟨⟨_,rfl,?_⟩,?_⟩)|exact J0a.kf rfl|(refine⟨Nat.le_refl _,rfl,fun i j hi hj=>?_⟩)|(refine And.intro ?_ ?_))
 have ei:i=J1e J0x g:=by omega
 subst ei
 repeat' ((conv=>whnf);first|(refine Br.dec ?_ ?_<;>intro _<;>try omega))
 all_goals (conv=>whnf)
 refine X2V 8 (v':=blW (J1e J0x g) (J59 J0x g g.cleg)) rfl (by(conv=>whnf);exact⟨by omega,rfl,rfl⟩) (J4L J0b ?_)
 repeat' ((conv=>whnf);first|(refine Br.tt ?_)|(refine Br.ff ?_)|(refine Br.bne ?_ ?_<;>intro _<;>try omega)|(refine hco.go ?_)|(refine hcl.go ?_))
 all_goals (conv=>whnf)
 refine J0N J0b [12] (fun i:Nat=>[(16,.int .i64 i)]) (fun m i=>m=J1e J0x g-i/\i<=J1e J0x g) (J1e J0x g) 0 ⟨rfl,Nat.zero_le _⟩ ?_ ?_
 . exact J0k (fun _ _=>[(0,some 0),(1,some 1),(2,some 2),(3,some 3),(4,some 4),(999,some 999)])
 rintro m i ⟨hm,hi⟩;by_cases hil:i<J1e J0x g
 . repeat' ((conv=>whnf);first|(refine Br.ff ?_)|(refine Br.dec ?_ ?_<;>intro _<;>try omega)|(refine Ar.i64 (by omega) (by omega) ?_)|(refine Ix.nat (by omega) ?_))
   all_goals (conv=>whnf)
   refine⟨J1e J0x g-(i+1),i+1,by omega,⟨rfl,by omega⟩,?_⟩;exact J0k (fun _ _=>[(0,some 0),(1,some 1),(2,some 2),(3,some 3),(4,some 4),(999,some 999)])
 repeat' ((conv=>whnf);first|(refine Br.tt ?_)|(refine Br.dec ?_ ?_<;>intro _<;>try omega)|(refine hkn.go ?_))
 all_goals (conv=>whnf)
 all_goals exact VLe.rfl
end Go.Proofs.YtlpfphlbghdokaaGreatDoor
