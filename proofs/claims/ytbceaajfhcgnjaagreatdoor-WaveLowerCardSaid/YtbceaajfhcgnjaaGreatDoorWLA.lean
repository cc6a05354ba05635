import Derived.Test.YtbceaajfhcgnjaaGreatDoorTabB
import Derived.KernelRfl
import Derived.Test.YtbceaajfhcgnjaaGreatDoorDN11
import Derived.Test.YtbceaajfhcgnjaaGreatDoorEvG
namespace Go.Proofs.YtbceaajfhcgnjaaGreatDoor
open Go.Eng
set_option maxRecDepth 100000
theorem ev_parse:evX tp 10000 100 33 [textC]=some progC:=by kernel_rfl
end Go.Proofs.YtbceaajfhcgnjaaGreatDoor
namespace Go.Proofs.YtbceaajfhcgnjaaGreatDoor
open Go.Eng
set_option maxRecDepth 100000
set_option linter.unusedVariables false
theorem len_le:∀{l m:List Int},l.Nodup->(∀a∈l,a∈m)->l.length<=m.length
 | [],m,_,_=>Nat.zero_le _
 | a::l,m,hn,hs=>by
   rw[List.nodup_cons] at hn;have ham:=hs a (by simp);have h1:=len_le (l:=l) (m:=m.erase a) hn.2 (fun b hb=>(List.mem_erase_of_ne (fun e=>hn.1 (by rw[<- e];exact hb))).2 (hs b (by simp[hb])));have h2:=List.length_erase_of_mem ham;have h3:=List.length_pos_of_mem ham;simp only[List.length_cons];omega
def freeF (l:List Int):Nat->Int->Int
 | 0,i=>i
 | f+1,i=>if i∈l then freeF l f ((i+1) % 256) else i
def tryI (i:Int) (k:Nat):Int:=(i+k) % 256
theorem tryI_next {i:Int} {k:Nat}:(tryI i k+1) % 256=tryI i (k+1):=by rw[tryI,tryI];omega
theorem free_ends {l:List Int} (hl:l.length<256) (i:Int):¬ ∀j,j<256->tryI i j∈l:=by
 intro h;have h1:((List.range 256).map (tryI i)).Nodup:=by
  rw[List.nodup_iff_pairwise_ne,List.pairwise_map];refine List.Pairwise.imp_of_mem ?_ List.nodup_range;intro a b ha hb hne e;rw[List.mem_range] at ha hb;rw[tryI,tryI] at e;omega
 have h2:=len_le h1 (fun a ha=>by
  obtain⟨j,hj,rfl⟩:=List.mem_map.1 ha;exact h j (List.mem_range.1 hj))
 simp at h2;omega
def idsF (x:List Int):Nat->List Int
 | 0=>[]
 | v+1=>idsF x v++[freeF (idsF x v) 256 (within (gI x v) 256)]
theorem idsF_len (x:List Int):∀v,(idsF x v).length=v
 | 0=>rfl
 | v+1=>by rw[idsF,List.length_append,idsF_len x v];rfl
theorem within_range (a:Int) {b:Int} (hb:1<=b):0<=within a b/\within a b<b:=by
 have h1:=Int.tmod_lt_of_pos a (show(0:Int)<b by omega);have h2:=Int.tmod_lt_of_pos (-a) (show(0:Int)<b by omega);rw[Int.neg_tmod] at h2;rw[within,if_neg (by omega)];split<;>omega
theorem free_spec {l:List Int} {i:Int} (h0:0<=i) (h1:i<=255):∀f k,k+f=256->(∀j,j<k->tryI i j∈l)->l.length<256->0<=freeF l f (tryI i k)/\freeF l f (tryI i k)<=255/\freeF l f (tryI i k)∉l
 | 0,k,hk,hall,hl=>(free_ends hl i (fun j hj=>hall j (by omega))).elim
 | f+1,k,hk,hall,hl=>by
   rw[freeF];split
   . rename_i hm;rw[tryI_next];exact free_spec h0 h1 f (k+1) (by omega) (fun j hj=>by
      by_cases e:j=k
      . subst e;exact hm
      . exact hall j (by omega)) hl
   . rename_i hm;refine⟨?_,?_,hm⟩<;>(rw[tryI];omega)
theorem try_zero {i:Int} (h0:0<=i) (h1:i<=255):tryI i 0=i:=by rw[tryI];omega
theorem idsF_ok (x:List Int):∀v,v<=255->(∀a∈idsF x v,0<=a/\a<=255)/\(idsF x v).Nodup
 | 0,_=>⟨fun a h=>(by simp[idsF] at h),by simp[idsF]⟩
 | v+1,hv=>by
   obtain⟨i1,i2⟩:=idsF_ok x v (by omega);have hw:=within_range (gI x v) (b:=256) (by omega);have hf:=free_spec (l:=idsF x v) (i:=within (gI x v) 256) hw.1 (by omega) 256 0 rfl (fun j hj=>by omega) (by rw[idsF_len];omega);rw[try_zero hw.1 (by omega)] at hf;rw[idsF];refine⟨fun a ha=>?_,?_⟩
   . rcases List.mem_append.1 ha with h|h
     . exact i1 a h
     . have:a=freeF (idsF x v) 256 (within (gI x v) 256):=by simpa using h
       rw[this];exact⟨hf.1,hf.2.1⟩
   . rw[List.nodup_append];refine⟨i2,by simp,fun a ha b hb e=>?_⟩;have:b=freeF (idsF x v) 256 (within (gI x v) 256):=by simpa using hb
     rw[<- this,<- e] at hf;exact hf.2.2 ha
def ownN (x:Net) (n:Nat):Own:=[(0,.vec n 1 (vI (idsF x.ids n))),(1,.vec n 1 fun _ _=>.nilslice)]
def Net.n1 (x:Net):Int:=IntKind.i64.wrap (x.n-1)
def Net.size (x:Net) (most:Int):Nat:=(1+within x.n1 most).toNat
theorem getD_snocI (l:List Int) (a:Int) (i:Nat):gI (l++[a]) i=if i<l.length then gI l i else if i=l.length then a else 0:=by
 by_cases h:i<l.length
 . simp only[gI,List.getD,List.getElem?_append_left h,if_pos h]
 . rw[if_neg h];by_cases h2:i=l.length
   . subst h2;simp[gI]
   . simp[gI,h2,List.getElem?_eq_none (by simp;omega:(l++[a]).length<=i)]
theorem vle_appI (l:List Int) (a:Int) (n:Nat) (hn:l.length=n) (i j:Nat) (hi:i<n+1) (hj:j<1) :
 VLe (fapp (shiftF 0 (vI l)) n (shiftF 0 (tab [[.int .i64 a]])) i j) (vI (l++[a]) i j):=by
 apply VLe.of_eq;subst hn;by_cases h:i<l.length
 . rw[fapp_lt h];simp only[shiftF,vI,getD_snocI,if_pos h]
 . rw[fapp_ge h];have:i=l.length:=by omega
   subst this;obtain rfl:j=0:=by omega
   simp[shiftF,vI,getD_snocI,tab]
set_option maxHeartbeats 8000000 in
theorem nodes_ok (x:Net) (hx:x.Small) (most:Int) (h1:1<=most) (h2:most<=24) :
 CallF Tryz.prog 59 [x.v,.int .i64 most] [] KS fun v own' _=>v=gV1 (x.size most) (x.size most)/\own'=ownN x (x.size most):=by
 have hw:=within_ok x.n1 most (by omega);have hwr:=within_range x.n1 h1;have hn:1+within x.n1 most=(x.size most:Nat):=by rw[Net.size];omega
 have hsz:1<=x.size most/\x.size most<=24:=by omega
 have hids:=hx.ids;generalize x.size most=n at *;refine call_post ?_;refine fn_rule mixed Tryz.func59 rfl hc59 hr59 rfl ?_
 repeat' ((conv=>whnf);first|(refine Ar.mk x.n1 rfl ?_)|(refine Ar.i64 (by omega) (by omega) ?_;rw[hn])|(refine Bd.nat (by omega) ?_)|(refine Len.mk (by omega) ?_)|(refine MkS.vec ?_)|(refine hw.go ?_))
 all_goals (conv=>whnf)
 refine loop_u mixed [2,4,5,6] [4] [5,6,7,8,9,10,11,12,13,14,15,16,17,18,19,20,21,22,23,24,25,26,27,28,29] [4,3,2,1,0] (fun v:Nat=>[(7,.int .i64 v)]) (fun own v=>(4,.vec v 1 (vI (idsF x.ids v)))::updO own 3 (.cells [.vec 4 1 0 v,.vec 2 1 0 n])) (fun m v=>m=n-v/\v<=n) n 0 ⟨rfl,by omega⟩ rfl (fun _=>rfl) ?_ ?_
 . exact weak_b (fun _ _=>[(0,some 0),(1,some 1),(2,some 2),(3,some 3),(4,none)])
 rintro m v ⟨hm,hv⟩;have hat:=at_ok x.ids hids v;have hw2:=within_ok (gI x.ids v) 256 (by omega);have hr2:=within_range (gI x.ids v) (b:=256) (by omega);have hil:=idsF_len x.ids v;have hsn:idsF x.ids (v+1)=idsF x.ids v++[freeF (idsF x.ids v) 256 (within (gI x.ids v) 256)]:=rfl;have htz:=try_zero hr2.1 (by omega);generalize within (gI x.ids v) 256=id0 at *;generalize hL:idsF x.ids v=L at *
 repeat' ((conv=>whnf);first|(refine Br.dec ?_ ?_<;>intro _<;>try omega)|(refine hat.go ?_)|(refine hw2.go ?_))
 all_goals (conv=>whnf)
 . refine loop_r mixed [2,4,5,6,7] (fun p:Nat×Nat=>[(8,.int .i64 (tryI id0 p.1)),(9,.int .i64 p.2)]) (fun m p=>m=(256-p.1)*25+(v-p.2)/\p.1<=256/\p.2<=v/\(∀j,j<p.1->tryI id0 j∈L)/\(∀j,j<p.2->gI L j≠tryI id0 p.1)/\freeF L (256-p.1) (tryI id0 p.1)=freeF L 256 id0) _ (0,0) ⟨rfl,by omega,by omega,fun j hj=>(by omega),fun j hj=>(by omega),(by show freeF L 256 (tryI id0 0)=_;rw[htz])⟩ ?_ ?_
   . refine weak_by (fun _ _=>[(0,some 0),(1,some 1),(2,some 2),(3,some 3),(4,some 4)]) ?_ ?_ rfl
     . repeat' (first|exact VRen.int htz.symm|exact True.intro|(refine⟨⟨_,rfl,?_⟩,?_⟩)|exact VRen.kf rfl|exact VRen.loc rfl)
     . repeat' (first|exact True.intro|(refine⟨⟨_,rfl,?_⟩,?_⟩)|exact VRen.kf rfl|exact VRen.vec rfl rfl rfl|(refine⟨Nat.le_refl _,rfl,fun i j hi hj=>?_⟩)|exact VLe.rfl|(refine And.intro ?_ ?_))
   rintro m ⟨k,u⟩ ⟨hm2,hk,hu,hall,hne,hfr⟩;simp only at hm2 hk hu hall hne hfr;have htr:0<=tryI id0 k/\tryI id0 k<=255:=by rw[tryI];omega
   have htn:(tryI id0 k+1).tmod 256=tryI id0 (k+1):=by rw[Int.tmod_eq_emod_of_nonneg (by omega),tryI_next]
   generalize hT:tryI id0 k=T at *
   repeat' ((conv=>whnf);first|(refine Br.dec ?_ ?_<;>intro _<;>try omega)|(refine Br.nbeq ?_ ?_<;>intro _<;>try omega)|(refine Ar.i64 (by omega) (by omega) ?_)|(refine Sv.mk _ rfl ?_)|(refine Nz.mk (by omega) ?_)|(refine Ix.nat (by omega) ?_)|(refine Len.mk (by omega) ?_)|(refine Ltn.mk (by omega) ?_))
   all_goals (conv=>whnf)
   . rename_i h3 h4;have hin:T∈L:=by rw[<- h4];exact gI_mem (by omega)
     have hk2:k<256:=by
      rcases Nat.lt_or_ge k 256 with h|h
      . exact h
      . exact(free_ends (l:=L) (by omega) id0 (fun j hj=>hall j (by omega))).elim
     refine⟨_,(k+1,0),?_,⟨rfl,by omega,by omega,fun j hj=>?_,fun j hj=>(by omega),?_⟩,?_⟩
     . simp only;omega
     . simp only at hj;by_cases e:j=k
       . subst e;rw[hT];exact hin
       . exact hall j (by omega)
     . simp only;rw[<- hfr,show 256-k=(256-(k+1))+1 by omega,freeF,if_pos hin,<- hT,tryI_next]
     . refine weak_by (fun _ _=>[(0,some 0),(1,some 1),(2,some 2),(3,some 3),(4,some 4)]) ?_ ?_ rfl
       . repeat' (first|exact VRen.int htn|exact True.intro|(refine⟨⟨_,rfl,?_⟩,?_⟩)|exact VRen.kf rfl|exact VRen.loc rfl)
       . repeat' (first|exact True.intro|(refine⟨⟨_,rfl,?_⟩,?_⟩)|exact VRen.kf rfl|exact VRen.vec rfl rfl rfl|(refine⟨Nat.le_refl _,rfl,fun i j hi hj=>?_⟩)|exact VLe.rfl|(refine And.intro ?_ ?_))
   . rename_i h3 h4;refine⟨_,(k,u+1),?_,⟨rfl,hk,by omega,hall,fun j hj=>?_,by rw[hT];exact hfr⟩,?_⟩
     . simp only;omega
     . simp only at hj ⊢;rw[hT];by_cases e:j=u
       . subst e;simpa using h4
       . exact hne j (by omega)
     . refine weak_by (fun _ _=>[(0,some 0),(1,some 1),(2,some 2),(3,some 3),(4,some 4)]) ?_ ?_ rfl
       . repeat' (first|exact VRen.int hT.symm|exact True.intro|(refine⟨⟨_,rfl,?_⟩,?_⟩)|exact VRen.kf rfl|exact VRen.loc rfl)
       . repeat' (first|exact True.intro|(refine⟨⟨_,rfl,?_⟩,?_⟩)|exact VRen.kf rfl|exact VRen.vec rfl rfl rfl|(refine⟨Nat.le_refl _,rfl,fun i j hi hj=>?_⟩)|exact VLe.rfl|(refine And.intro ?_ ?_))
   . have hno:T∉L:=fun h=>by
      obtain⟨j,j1,j2⟩:=gI_get h;exact hne j (by omega) j2
     have hfin:freeF L 256 id0=T:=by
      rw[<- hfr];cases h:256-k with
      | zero=>rfl
      | succ f=>rw[freeF,if_neg hno]
     rw[hfin] at hsn
     repeat' ((conv=>whnf);first|fail)
     all_goals (conv=>whnf)
     all_goals
      refine⟨n-(v+1),v+1,by omega,⟨rfl,by omega⟩,?_⟩;simp only[hsn];refine weak_by (fun env own=>[(0,some 0),(1,some 1),(2,some 2),(3,some 3),(4,ckeyo own 3 0)]) ?_ ?_ rfl
      . repeat' (first|exact True.intro|(refine⟨⟨_,rfl,?_⟩,?_⟩)|exact VRen.kf rfl|exact VRen.loc rfl)
      . repeat' (first|(refine⟨Nat.le_refl _,rfl,fun i j hi hj=>?_⟩)|exact vle_appI _ _ _ hil _ _ hi hj|exact True.intro|(refine⟨⟨_,rfl,?_⟩,?_⟩)|exact VRen.kf rfl|exact VRen.vec rfl rfl rfl|exact VLe.rfl|(refine And.intro ?_ ?_))
 . have e:v=n:=by omega
   subst e;exact postR_byV (fun v o=>[(0,vkey v 0),(1,vkey v 1)]) _ _ ⟨rfl,rfl⟩ (VRen.agg ⟨VRen.vec rfl rfl rfl,VRen.vec rfl rfl rfl,True.intro⟩) ⟨⟨_,rfl,Nat.le_refl _,rfl,fun _ _ _ _=>VLe.of_eq (by rw[hL])⟩,⟨_,rfl,Nat.le_refl _,rfl,fun i j hi hj=>VLe.of_eq (by obtain rfl:j=0:=(by omega);rfl)⟩,True.intro⟩ rfl
theorem mem_gR {p:Ps} {r:List (Int×Int)} (h:r∈p):∃u,gR p u=r:=by
 obtain⟨i,hi,e⟩:=List.mem_iff_getElem.1 h;exact⟨i,by simp[gR,List.getD,hi,e]⟩
theorem small_of {g:G} (h1:g.ids.length<=1000) (h2:g.ports.length<=1000) (h3:∀u,(gR g.ports u).length<=1000):g.Small :=
 ⟨by omega,by omega,fun r hr=>by obtain⟨u,rfl⟩:=mem_gR hr;have:=h3 u;omega⟩
def cfgE (g:G) (vs:List Vr) (raw:List Int) (v i:Nat):Int:=(bV g vs v i).1+within (gI raw (v*vs.length+i)) ((bV g vs v i).2-(bV g vs v i).1+1)
def cfgR (g:G) (vs:List Vr) (raw:List Int) (v k:Nat):List Int:=(List.range k).map (cfgE g vs raw v)
def cfgC (g:G) (vs:List Vr) (raw:List Int) (k:Nat):Cf:=(List.range k).map fun v=>cfgR g vs raw v vs.length
def cfg (g:G) (vs:List Vr) (raw:List Int):Cf:=cfgC g vs raw g.ports.length
theorem cfgR_len (g:G) (vs:List Vr) (raw:List Int) (v k:Nat):(cfgR g vs raw v k).length=k:=by simp[cfgR]
theorem cfgC_len (g:G) (vs:List Vr) (raw:List Int) (k:Nat):(cfgC g vs raw k).length=k:=by simp[cfgC]
theorem cfgR_succ (g:G) (vs:List Vr) (raw:List Int) (v k:Nat):cfgR g vs raw v (k+1)=cfgR g vs raw v k++[cfgE g vs raw v k]:=by simp[cfgR,List.range_succ]
theorem cfgC_succ (g:G) (vs:List Vr) (raw:List Int) (k:Nat):cfgC g vs raw (k+1)=cfgC g vs raw k++[cfgR g vs raw k vs.length]:=by simp[cfgC,List.range_succ]
theorem gC_snoc (c:Cf) (r:List Int) (i:Nat):gC (c++[r]) i=if i<c.length then gC c i else if i=c.length then r else[]:=by
 by_cases h:i<c.length
 . simp only[gC,List.getD,List.getElem?_append_left h,if_pos h]
 . rw[if_neg h];by_cases h2:i=c.length
   . subst h2;simp[gC]
   . simp[gC,h2,List.getElem?_eq_none (by simp;omega:(c++[r]).length<=i)]
theorem vle_appC (c:Cf) (r:List Int) (n m:Nat) (hn:c.length=n) (hr:r.length=m) (F:Nat->Nat->V) (hF:F 0 0=.fz m 1 false (shiftF 0 (vI r))) (i j:Nat) (hi:i<n+1) (hj:j<1) :
 VLe (fapp (shiftF 0 (vC c)) n F i j) (vC (c++[r]) i j):=by
 subst hn hr;obtain rfl:j=0:=by omega
 by_cases h:i<c.length
 . rw[fapp_lt h];apply VLe.of_eq;simp only[shiftF,vC,gC_snoc,if_pos h]
 . rw[fapp_ge h];have:i=c.length:=by omega
   subst this;rw[Nat.sub_self,hF];simp only[vC,gC_snoc,Nat.lt_irrefl,if_false,if_true];exact VLe.fz rfl (fun h=>h) (fun i j hi hj=>VLe.of_eq (by simp[shiftF]))
theorem mul_bound {a b A B:Int} (h0:0<=a) (h1:a<=A) (h2:0<=b) (h3:b<=B):0<=a*b/\a*b<=A*B :=
 ⟨Int.mul_nonneg h0 h2,Int.mul_le_mul h1 h3 h2 (by omega)⟩
set_option maxHeartbeats 16000000 in
theorem config_ok (g:G) (hg:g.valid=true) (vs:List Vr) (hv:VOk vs) (hlo:∀x,0<=(gV vs x).lo/\(gV vs x).lo<=1000) (raw:List Int) (hraw:raw.length<=9223372036854775807) :
 Ret Tryz.prog 20 [g.v,.fz vs.length 6 false (vV vs),.fz raw.length 1 false (vI raw)] (cV (cfg g vs raw)):=by
 obtain⟨f1,f2,f3,f4,f5,f6,f7⟩:=val_facts hg;have htop0:=maxL_ge g.ids 0;have htop1:=maxL_le g.ids 0 255 (by omega) (fun a ha=>(f4 a ha).2);have hvl:=hv.len;refine ret_frz rfl ?_;refine fn_rule mixed Tryz.func20 rfl hc20 hr20 rfl ?_
 repeat' ((conv=>whnf);first|fail)
 all_goals (conv=>whnf)
 refine loop_r mixed [1,2,3,7] (fun i:Nat=>[(8,.int .i64 (maxL (g.ids.take i) 0)),(9,.int .i64 i)]) (fun m i=>m=g.ports.length-i/\i<=g.ports.length) g.ports.length 0 ⟨rfl,Nat.zero_le _⟩ ?_ ?_
 . exact weak_b (fun _ _=>[(0,some 0)])
 rintro m i ⟨hm,hi⟩
 repeat' ((conv=>whnf);first|(refine Br.dec ?_ ?_<;>intro _<;>try omega)|(refine Ar.i64 (by omega) (by omega) ?_)|(refine Sv.mk _ rfl ?_)|(refine Ix.nat (by omega) ?_))
 all_goals (conv=>whnf)
 all_goals try
  (refine⟨g.ports.length-(i+1),i+1,by omega,⟨rfl,by omega⟩,?_⟩
   simp only[gI_take g.ids i (by omega),maxL_snoc];refine weak_by (fun _ _=>[(0,some 0)]) ?_ ?_ rfl
   . repeat' (first|exact VRen.int (by split<;>omega)|exact True.intro|(refine⟨⟨_,rfl,?_⟩,?_⟩)|exact VRen.kf rfl|exact VRen.loc rfl)
   . repeat' (first|exact True.intro|(refine⟨⟨_,rfl,?_⟩,?_⟩)|exact VRen.kf rfl|(refine And.intro ?_ ?_)))
 have hti:g.ids.take i=g.ids:=List.take_of_length_le (by omega);simp only[hti];clear hti hm hi;generalize htop:maxL g.ids 0=top at *;refine loop_u mixed [1,2,3,7,8] [1] [2,3,4,5,6,7,8,9,10,11,12,13,14,15,16,17,18,19,20,21,22,23,24,25,26,27,28,29] [1,0] (fun v:Nat=>[(10,.vec 1 1 0 v),(11,.int .i64 v)]) (fun own v=>(1,.vec v 1 (vC (cfgC g vs raw v)))::own) (fun m v=>m=g.ports.length-v/\v<=g.ports.length) g.ports.length 0 ⟨rfl,Nat.zero_le _⟩ rfl (fun _=>rfl) ?_ ?_
 . exact weak_b (fun _ _=>[(0,some 0),(1,none)])
 rintro m v ⟨hm,hvn⟩;have hcl:=cfgC_len g vs raw v
 repeat' ((conv=>whnf);first|(refine Br.dec ?_ ?_<;>intro _<;>try omega)|(refine Len.mk (by omega) ?_))
 all_goals (conv=>whnf)
 . refine loop_u mixed [1,2,3,7,8,10,11] [2] [3,4,5,6,7,8,9,10,11,12,13,14,15,16,17,18,19,20,21,22,23,24,25,26,27,28,29] [2,1,0] (fun i:Nat=>[(12,.vec 2 1 0 i),(13,.int .i64 i)]) (fun own i=>(2,.vec i 1 (vI (cfgR g vs raw v i)))::own) (fun m i=>m=vs.length-i/\i<=vs.length) vs.length 0 ⟨rfl,Nat.zero_le _⟩ rfl (fun _=>rfl) ?_ ?_
   . exact weak_b (fun _ _=>[(0,some 0),(1,some 1),(2,none)])
   rintro m i ⟨hm2,hi⟩;have hrl:=cfgR_len g vs raw v i;by_cases hil:i<vs.length
   . obtain⟨b1,b2,b3,b4,b5,b6⟩:=hv.b i;obtain⟨l1,l2⟩:=hlo i;have m1:=mul_bound b3 b4 (show(0:Int)<=g.ports.length by omega) (show(g.ports.length:Int)<=24 by omega);have m2:=mul_bound b5 b6 (show(0:Int)<=top by omega) (show top<=255 by omega);have m3:=mul_bound (show(0:Int)<=v by omega) (show(v:Int)<=24 by omega) (show(0:Int)<=vs.length by omega) (show(vs.length:Int)<=1000 by omega);have hrow:=okR_len (show v<g.ports.length by omega) (f6 v (by omega));have hat:=at_ok raw hraw (v*vs.length+i);have e1:((v*vs.length+i:Nat):Int)=(v:Int)*vs.length+i:=by rw[Int.natCast_add,Int.natCast_mul]
     rw[e1] at hat;have hE:cfgE g vs raw v i=(bV g vs v i).1+within (gI raw (v*vs.length+i)) ((bV g vs v i).2-(bV g vs v i).1+1):=rfl;generalize gI raw (v*vs.length+i)=q at *;have hsn:=cfgR_succ g vs raw v i;generalize cfgE g vs raw v i=E at *;generalize hp1:(gV vs i).pn*(g.ports.length:Int)=P1 at *;generalize hp2:(gV vs i).pid*top=P2 at *;generalize hp3:(v:Int)*(vs.length:Int)=P3 at *;by_cases k2:(gV vs i).kind=2
     . have hb:bV g vs v i=(0,1):=by rw[bV,if_pos k2]
       rw[hb] at hE;have hw:=within_ok q (1-0+1) (by omega);have hwr:=within_range q (b:=1-0+1) (by omega);simp only at hE;generalize within q (1-0+1)=W at *
       repeat' ((conv=>whnf);first|(refine Ar.mk P1 (by rw[hp1];exact(wrap_i64 (by omega) (by omega)).symm) ?_)|(refine Ar.mk P2 (by rw[hp2];exact(wrap_i64 (by omega) (by omega)).symm) ?_)|(refine Ar.mk P3 (by rw[hp3];exact(wrap_i64 (by omega) (by omega)).symm) ?_)|(refine Br.dec ?_ ?_<;>intro _<;>try omega)|(refine Br.nbeq ?_ ?_<;>intro _<;>try omega)|(refine Ar.i64 (by omega) (by omega) ?_)|(refine Ix.nat (by omega) ?_)|(refine Len.mk (by omega) ?_)|(refine hat.go ?_)|(refine hw.go ?_)|(refine And.intro rfl ?_))
       all_goals (conv=>whnf)
       all_goals
        refine⟨vs.length-(i+1),i+1,by omega,⟨rfl,by omega⟩,?_⟩;simp only[hsn];refine weak_by (fun env own=>[(0,some 0),(1,some 1),(2,ekey env 12)]) ?_ ?_ rfl
        . repeat' (first|exact True.intro|(refine⟨⟨_,rfl,?_⟩,?_⟩)|exact VRen.kf rfl|exact VRen.loc rfl|exact VRen.vec rfl rfl rfl)
        . repeat' (first|(refine⟨Nat.le_refl _,rfl,fun i j hi hj=>?_⟩)|(rw[hE];exact vle_appI _ _ _ hrl _ _ hi hj)|exact True.intro|(refine⟨⟨_,rfl,?_⟩,?_⟩)|exact VRen.kf rfl|exact VLe.rfl|(refine And.intro ?_ ?_))
     . by_cases k3:(gV vs i).kind=3
       . have hb:bV g vs v i=(-1,((gR g.ports v).length:Int)-1):=by rw[bV,if_neg k2,if_pos k3]
         rw[hb] at hE;have hw:=within_ok q (((gR g.ports v).length:Int)-1-(-1)+1) (by omega);have hwr:=within_range q (b:=((gR g.ports v).length:Int)-1-(-1)+1) (by omega);simp only at hE;generalize within q (((gR g.ports v).length:Int)-1-(-1)+1)=W at *
         repeat' ((conv=>whnf);first|(refine Ar.mk P1 (by rw[hp1];exact(wrap_i64 (by omega) (by omega)).symm) ?_)|(refine Ar.mk P2 (by rw[hp2];exact(wrap_i64 (by omega) (by omega)).symm) ?_)|(refine Ar.mk P3 (by rw[hp3];exact(wrap_i64 (by omega) (by omega)).symm) ?_)|(refine Br.dec ?_ ?_<;>intro _<;>try omega)|(refine Br.nbeq ?_ ?_<;>intro _<;>try omega)|(refine Ar.i64 (by omega) (by omega) ?_)|(refine Ix.nat (by omega) ?_)|(refine Len.mk (by omega) ?_)|(refine hat.go ?_)|(refine hw.go ?_)|(refine And.intro rfl ?_))
         all_goals (conv=>whnf)
         all_goals
          refine⟨vs.length-(i+1),i+1,by omega,⟨rfl,by omega⟩,?_⟩;simp only[hsn];refine weak_by (fun env own=>[(0,some 0),(1,some 1),(2,ekey env 12)]) ?_ ?_ rfl
          . repeat' (first|exact True.intro|(refine⟨⟨_,rfl,?_⟩,?_⟩)|exact VRen.kf rfl|exact VRen.loc rfl|exact VRen.vec rfl rfl rfl)
          . repeat' (first|(refine⟨Nat.le_refl _,rfl,fun i j hi hj=>?_⟩)|(rw[hE];exact vle_appI _ _ _ hrl _ _ hi hj)|exact True.intro|(refine⟨⟨_,rfl,?_⟩,?_⟩)|exact VRen.kf rfl|exact VLe.rfl|(refine And.intro ?_ ?_))
       . have hb:bV g vs v i=((gV vs i).lo,(gV vs i).hi+P1+P2):=by rw[bV,if_neg k2,if_neg k3,hp1,htop,hp2]
         rw[hb] at hE;have hw:=within_ok q ((gV vs i).hi+P1+P2-(gV vs i).lo+1) (by omega);have hwr:-1<=within q ((gV vs i).hi+P1+P2-(gV vs i).lo+1)/\within q ((gV vs i).hi+P1+P2-(gV vs i).lo+1)<=1000000:=by
          by_cases h:1<=(gV vs i).hi+P1+P2-(gV vs i).lo+1
          . have:=within_range q h;omega
          . rw[within,if_pos (by omega)];omega
         simp only at hE;generalize within q ((gV vs i).hi+P1+P2-(gV vs i).lo+1)=W at *
         repeat' ((conv=>whnf);first|(refine Ar.mk P1 (by rw[hp1];exact(wrap_i64 (by omega) (by omega)).symm) ?_)|(refine Ar.mk P2 (by rw[hp2];exact(wrap_i64 (by omega) (by omega)).symm) ?_)|(refine Ar.mk P3 (by rw[hp3];exact(wrap_i64 (by omega) (by omega)).symm) ?_)|(refine Br.dec ?_ ?_<;>intro _<;>try omega)|(refine Br.nbeq ?_ ?_<;>intro _<;>try omega)|(refine Ar.i64 (by omega) (by omega) ?_)|(refine Ix.nat (by omega) ?_)|(refine Len.mk (by omega) ?_)|(refine hat.go ?_)|(refine hw.go ?_)|(refine And.intro rfl ?_))
         all_goals (conv=>whnf)
         all_goals
          refine⟨vs.length-(i+1),i+1,by omega,⟨rfl,by omega⟩,?_⟩;simp only[hsn];refine weak_by (fun env own=>[(0,some 0),(1,some 1),(2,ekey env 12)]) ?_ ?_ rfl
          . repeat' (first|exact True.intro|(refine⟨⟨_,rfl,?_⟩,?_⟩)|exact VRen.kf rfl|exact VRen.loc rfl|exact VRen.vec rfl rfl rfl)
          . repeat' (first|(refine⟨Nat.le_refl _,rfl,fun i j hi hj=>?_⟩)|(rw[hE];exact vle_appI _ _ _ hrl _ _ hi hj)|exact True.intro|(refine⟨⟨_,rfl,?_⟩,?_⟩)|exact VRen.kf rfl|exact VLe.rfl|(refine And.intro ?_ ?_))
   . have ei:i=vs.length:=by omega
     subst ei;have hsc:=cfgC_succ g vs raw v
     repeat' ((conv=>whnf);first|(refine Br.dec ?_ ?_<;>intro _<;>try omega)|(refine Br.nbeq ?_ ?_<;>intro _<;>try omega)|(refine Ar.i64 (by omega) (by omega) ?_)|(refine Len.mk (by omega) ?_))
     all_goals (conv=>whnf)
     all_goals
      refine⟨g.ports.length-(v+1),v+1,by omega,⟨rfl,by omega⟩,?_⟩;simp only[hsc];refine weak_by (fun env own=>[(0,some 0),(1,ekey env 10)]) ?_ ?_ rfl
      . repeat' (first|exact True.intro|(refine⟨⟨_,rfl,?_⟩,?_⟩)|exact VRen.kf rfl|exact VRen.loc rfl|exact VRen.vec rfl rfl rfl)
      . repeat' (first|(refine⟨Nat.le_refl _,rfl,fun i j hi hj=>?_⟩)|exact vle_appC _ _ _ _ hcl hrl _ rfl _ _ hi hj|exact True.intro|(refine⟨⟨_,rfl,?_⟩,?_⟩)|exact VRen.kf rfl|(refine And.intro ?_ ?_))
 . have e:v=g.ports.length:=by omega
   subst e;refine VLe.fz hcl.symm (fun h=>h) (fun i j hi hj=>VLe.of_eq ?_);simp[shiftF,cfg]
theorem ret_args {P:Program} {f:FuncId} {args args':List V} {X:V} (hk:allB V.kf args'=true) (hl:LLe args' args) (h:Ret P f args X):Ret P f args' X:=fun own ks=>by
 constructor;intro M w σ us hlen hd hh;obtain⟨d1,d2⟩:=hl.dens (M:=M) (w:=w) (us:=us) hlen (fun i v u hv hu=>(hd i v u hv hu).kf (allB_mem hk v (List.mem_of_getElem? hv)) Sg.none);exact(h own ks).out M w σ us d1 (fun i v u hv hu=>(d2 i v u hv hu).mono (Ext.mk (fun _ _ h=>⟨h,rfl⟩) (Nat.le_refl _)) (Sg.none_le σ)) hh
theorem ret_res {P:Program} {f:FuncId} {args:List V} {X X':V} (hk:X.kf=true) (hl:VLe X X') (h:Ret P f args X):Ret P f args X':=fun own ks=>by
 constructor;intro M w σ us hlen hd hh;refine((h own ks).out M w σ us hlen hd hh).mono ?_;rintro e w' ⟨M',σ',v,own',ks',u,rfl,hv,hh',tr,kd,rfl,rfl,rfl⟩;exact⟨M',σ',X',_,_,u,rfl,(hl.out _ _ _ (hv.kf hk Sg.none)).mono (Ext.mk (fun _ _ h=>⟨h,rfl⟩) (Nat.le_refl _)) (Sg.none_le σ'),hh',tr,kd,rfl,rfl,rfl⟩
def AllLt:Nat->(Nat->Prop)->Prop
 | 0,_=>True
 | n+1,P=>P 0/\AllLt n fun i=>P (i+1)
theorem AllLt.out:∀{n:Nat} {P:Nat->Prop},AllLt n P->∀i,i<n->P i
 | n+1,P,h,0,_=>h.1
 | n+1,P,h,i+1,hi=>AllLt.out h.2 i (by omega)
theorem vle_fzA {n s:Nat} {f g:Nat->Nat->V} (h:AllLt n fun i=>AllLt s fun j=>VLe (f i j) (g i j)):VLe (.fz n s false f) (.fz n s false g) :=
 VLe.fz rfl (fun h=>h) fun i j hi hj=>(h.out i hi).out j hj
theorem vle_str {a b:ByteArray} (h:a=b):VLe (.str a) (.str b):=by subst h;exact .rfl
theorem cfg_len (g:G) (vs:List Vr) (raw:List Int):(cfg g vs raw).length=g.ports.length:=cfgC_len _ _ _ _
theorem cfg_row (g:G) (vs:List Vr) (raw:List Int) {v:Nat} (hv:v<g.ports.length):gC (cfg g vs raw) v=cfgR g vs raw v vs.length:=by
 simp[gC,cfg,cfgC,List.getD,hv]
theorem cfgR_get (g:G) (vs:List Vr) (raw:List Int) (v k:Nat) {i:Nat} (hi:i<k):gI (cfgR g vs raw v k) i=cfgE g vs raw v i:=by
 simp[gI,cfgR,List.getD,hi]
theorem bV_bnd (p:Pr) (hp:PrOk p) (g:G) (hg:g.valid=true) (v x:Nat) (hx:x<p.vars.length):bV g p.vars v x=bnd g (gV p.vars x) v:=by
 obtain⟨f1,f2,f3,f4,f5,f6,f7⟩:=val_facts hg;rw[bV,bnd,f3];rcases (hp.var x hx).kind with h|h|h
 . rw[if_neg (by omega),if_neg (by omega),if_pos h];rfl
 . rw[if_pos h,if_neg (by omega),if_pos h]
 . rw[if_neg (by omega),if_pos h,if_neg (by omega),if_neg (by omega)]
theorem cfg_conf (p:Pr) (hp:PrOk p) (g:G) (hg:g.valid=true) (raw:List Int):Conf p g (cfg g p.vars raw):=by
 obtain⟨f1,f2,f3,f4,f5,f6,f7⟩:=val_facts hg;refine⟨by rw[cfg_len];exact f3,fun v hv=>?_,fun v hv x hx=>?_⟩
 . rw[cfg_len] at hv;rw[cfg_row g _ raw hv,cfgR_len]
 . rw[cfg_len] at hv;rw[cfg_row g _ raw hv,cfgR_get _ _ _ _ _ hx,cfgE,bV_bnd p hp g hg v x hx];have hb:(bnd g (gV p.vars x) v).1<=(bnd g (gV p.vars x) v).2:=by
    have hx:=hp.var x hx;have h1:=bnd_in hg hx hv;rcases hx.kind with h|h|h
    . have:=h1.2.2.2.2 h;omega
    . rw[bnd,if_neg (by omega),if_pos h];decide
    . rw[bnd,if_neg (by omega),if_neg (by omega)];simp only;omega
   have hw:=within_range (gI raw (v*p.vars.length+x)) (b:=(bnd g (gV p.vars x) v).2-(bnd g (gV p.vars x) v).1+1) (by omega);omega
theorem wpr_agg:VLe pWav.v aggC.v:=by
 repeat' (first|exact True.intro|exact VLe.rfl|exact vle_str (by kernel_rfl)|(refine VLe.agg ?_)|(refine vle_fzA ?_)|(refine And.intro ?_ ?_))
theorem agg_wpr:VLe aggC.v pWav.v:=by
 repeat' (first|exact True.intro|exact VLe.rfl|exact vle_str (by kernel_rfl)|(refine VLe.agg ?_)|(refine vle_fzA ?_)|(refine And.intro ?_ ?_))
theorem wcheck_ok:Ret Tryz.prog 71 [pWav.v] (.int .i64 0):=by
 have h:=ev_ret mixed tc_ok ev_check;exact ret_args (args:=[aggC.v]) rfl ⟨wpr_agg,True.intro⟩ (by simpa only[C.vs,C.v] using h)
theorem wav_types:Ret Tryz.prog 42 [pWav.v] (.bool true):=by
 refine ret_frz rfl ?_;refine fn_rule mixed Tryz.func42 rfl hc42 hr42 rfl ?_
 repeat' ((conv=>whnf);first|(refine Br.tt ?_)|(refine wcheck_ok.go ?_))
 all_goals (conv=>whnf)
 exact VLe.rfl
def txtB:ByteArray:=match textC with | .str l c=>bytesOf l c|_=>default
theorem text_ok:Ret Tryz.prog 9 [] (.str txtB):=by
 have:=ev_ret mixed ta_ok ev_text;simpa only[C.vs,C.v,textC,txtB] using this
theorem parse_ok:Ret Tryz.prog 33 [.str txtB] (.tup [aggC.v,.int .i64 0,.int .i64 0]):=by
 have:=ev_ret mixed tp_ok ev_parse;simpa only[C.vs,C.v,textC,txtB,progC] using this
theorem parse_ok2:Ret Tryz.prog 33 [.str txtB] (.tup [pWav.v,.int .i64 0,.int .i64 0]) :=
 ret_res (X:=.tup [aggC.v,.int .i64 0,.int .i64 0]) rfl (VLe.tup ⟨agg_wpr,VLe.rfl,VLe.rfl,True.intro⟩) parse_ok
theorem program_ok:Ret Tryz.prog 8 [.str txtB] pWav.v:=by
 refine ret_frz rfl ?_;refine fn_rule mixed Tryz.func8 rfl hc8 hr8 rfl ?_
 repeat' ((conv=>whnf);first|(refine parse_ok2.go ?_))
 all_goals (conv=>whnf)
 exact VLe.rfl
theorem wav_prOk:PrOk pWav where
 vlen:=by decide
 var:=fun i hi=>by
  rcases (show i=0\/i=1\/i=2\/i=3 by have:i<4:=hi;omega) with rfl|rfl|rfl|rfl
  . exact⟨.inl rfl,by decide,by decide,by decide,by decide,by decide⟩
  . exact⟨.inr (.inr rfl),by decide,by decide,by decide,by decide,by decide⟩
  . exact⟨.inr (.inl rfl),by decide,by decide,by decide,by decide,by decide⟩
  . exact⟨.inr (.inl rfl),by decide,by decide,by decide,by decide,by decide⟩
 rlen:=by decide
 gd:=fun i hi=>by
  rcases (show i=0\/i=1\/i=2\/i=3\/i=4 by have:i<5:=hi;omega) with rfl|rfl|rfl|rfl|rfl
  all_goals decide
 slen:=fun i hi=>by
  rcases (show i=0\/i=1\/i=2\/i=3\/i=4 by have:i<5:=hi;omega) with rfl|rfl|rfl|rfl|rfl
  all_goals decide
 set:=fun i hi j hj=>by
  rcases (show i=0\/i=1\/i=2\/i=3\/i=4 by have:i<5:=hi;omega) with rfl|rfl|rfl|rfl|rfl
  . rcases (show j=0\/j=1 by have:j<2:=hj;omega) with rfl|rfl<;>decide
  . rcases (show j=0\/j=1 by have:j<2:=hj;omega) with rfl|rfl<;>decide
  . rcases (show j=0\/j=1 by have:j<2:=hj;omega) with rfl|rfl<;>decide
  . rcases (show j=0\/j=1 by have:j<2:=hj;omega) with rfl|rfl<;>decide
  . (obtain rfl:j=0:=by have:j<1:=hj;omega);decide
 types:=wav_types
end Go.Proofs.YtbceaajfhcgnjaaGreatDoor
namespace Go.Proofs.YtbceaajfhcgnjaaGreatDoor
open Go.Eng
set_option maxRecDepth 100000
noncomputable def validG:List C->Option C:=memoG [([aggC],.bool true)]
theorem valid_ext:FdOk Tryz.prog 42 (.ext validG):=fd_memo (by kernel_rfl) _ (memo_one (show Ret Tryz.prog 42 (C.vs [aggC]) (C.bool true).v from ret_args (args:=[pWav.v]) rfl ⟨agg_wpr,True.intro⟩ wav_types))
end Go.Proofs.YtbceaajfhcgnjaaGreatDoor
