import Derived.Test.YtpoplpohbpfbmaaGreatDoorTabB
import Derived.KernelRfl
import Derived.Test.YtpoplpohbpfbmaaGreatDoorDN11
import Derived.Test.YtpoplpohbpfbmaaGreatDoorCK1
import Derived.Test.YtpoplpohbpfbmaaGreatDoorEvG
import Derived.Test.YtpoplpohbpfbmaaGreatDoorEvC
namespace Go.Proofs.YtpoplpohbpfbmaaGreatDoor
open Go.Eng
set_option maxRecDepth 100000
theorem ev_parse:evX tp 10000 100 25 [textC]=some progC:=by kernel_rfl
end Go.Proofs.YtpoplpohbpfbmaaGreatDoor
namespace Go.Proofs.YtpoplpohbpfbmaaGreatDoor
open Go.Eng
set_option maxRecDepth 100000
set_option linter.unusedVariables false
theorem ret_args {P:Program} {f:FuncId} {args args':List V} {X:V} (hk:allB V.kf args'=true) (hl:LLe args' args) (h:Ret P f args X):Ret P f args' X:=fun own ks=>by
 constructor;intro M w σ us hlen hd hh;obtain⟨d1,d2⟩:=hl.dens (M:=M) (w:=w) (us:=us) hlen (fun i v u hv hu=>(hd i v u hv hu).kf (allB_mem hk v (List.mem_of_getElem? hv)) Sg.none);exact(h own ks).out M w σ us d1 (fun i v u hv hu=>(d2 i v u hv hu).mono (Ext.mk (fun _ _ h=>⟨h,rfl⟩) (Nat.le_refl _)) (Sg.none_le σ)) hh
theorem ret_res {P:Program} {f:FuncId} {args:List V} {X X':V} (hk:X.kf=true) (hl:VLe X X') (h:Ret P f args X):Ret P f args X':=fun own ks=>by
 constructor;intro M w σ us hlen hd hh;refine((h own ks).out M w σ us hlen hd hh).mono ?_;rintro e w' ⟨M',σ',v,own',ks',u,rfl,hv,hh',tr,kd,rfl,rfl,rfl⟩;exact⟨M',σ',X',_,_,u,rfl,(hl.out _ _ _ (hv.kf hk Sg.none)).mono (Ext.mk (fun _ _ h=>⟨h,rfl⟩) (Nat.le_refl _)) (Sg.none_le σ'),hh',tr,kd,rfl,rfl,rfl⟩
def AllLt:Nat->(Nat->Prop)->Prop
 | 0,_=>True
 | n+1,P=>P 0/\AllLt n fun i=>P (i+1)
theorem AllLt.out:∀{n:Nat} {P:Nat->Prop},AllLt n P->∀i,i<n->P i
 | n+1,P,h,0,_=>h.1
 | n+1,P,h,i+1,hi=>AllLt.out h.2 i (by omega)
theorem vle_fzA {n s:Nat} {f g:Nat->Nat->V} (h:AllLt n fun i=>AllLt s fun j=>VLe (f i j) (g i j)):VLe (.fz n s false f) (.fz n s false g) :=
 VLe.fz rfl (fun h=>h) fun i j hi hj=>(h.out i hi).out j hj
theorem vle_str {a b:ByteArray} (h:a=b):VLe (.str a) (.str b):=by subst h;exact .rfl
theorem wpr_agg:VLe pWav.v aggC.v:=by
 repeat' (first|exact True.intro|exact VLe.rfl|exact vle_str (by kernel_rfl)|(refine VLe.agg ?_)|(refine vle_fzA ?_)|(refine And.intro ?_ ?_))
theorem agg_wpr:VLe aggC.v pWav.v:=by
 repeat' (first|exact True.intro|exact VLe.rfl|exact vle_str (by kernel_rfl)|(refine VLe.agg ?_)|(refine vle_fzA ?_)|(refine And.intro ?_ ?_))
theorem wcheck_ok:Ret Tryz.prog 53 [pWav.v] (.int .i64 0):=by
 have h:=ev_ret mixed tc_ok ev_check;exact ret_args (args:=[aggC.v]) rfl ⟨wpr_agg,True.intro⟩ (by simpa only[C.vs,C.v] using h)
theorem wav_types:Ret Tryz.prog 101 [pWav.v] (.bool true):=by
 refine ret_frz rfl ?_;refine fn_rule mixed Tryz.func101 rfl hc101 hr101 rfl ?_
 repeat' ((conv=>whnf);first|(refine Br.tt ?_)|(refine wcheck_ok.go ?_))
 all_goals (conv=>whnf)
 exact VLe.rfl
def txtB:ByteArray:=match textC with | .str l c=>bytesOf l c|_=>default
theorem text_ok:Ret Tryz.prog 8 [] (.str txtB):=by
 have:=ev_ret mixed ta_ok ev_text;simpa only[C.vs,C.v,textC,txtB] using this
theorem parse_ok:Ret Tryz.prog 25 [.str txtB] (.tup [aggC.v,.int .i64 0,.int .i64 0]):=by
 have:=ev_ret mixed tp_ok ev_parse;simpa only[C.vs,C.v,textC,txtB,progC] using this
theorem parse_ok2:Ret Tryz.prog 25 [.str txtB] (.tup [pWav.v,.int .i64 0,.int .i64 0]) :=
 ret_res (X:=.tup [aggC.v,.int .i64 0,.int .i64 0]) rfl (VLe.tup ⟨agg_wpr,VLe.rfl,VLe.rfl,True.intro⟩) parse_ok
theorem program_ok:Ret Tryz.prog 7 [.str txtB] pWav.v:=by
 refine ret_frz rfl ?_;refine fn_rule mixed Tryz.func7 rfl hc7 hr7 rfl ?_
 repeat' ((conv=>whnf);first|(refine parse_ok2.go ?_))
 all_goals (conv=>whnf)
 exact VLe.rfl
theorem wav_prOk:PrOk pWav where
 vlen:=by decide
 var:=fun i hi=>by
  rcases (show i=0\/i=1\/i=2\/i=3 by have:i<4:=hi;omega) with rfl|rfl|rfl|rfl
  . exact⟨.inl rfl,by decide,by decide,by decide,by decide,by decide⟩
  . exact⟨.inr (.inr rfl),by decide,by decide,by decide,by decide,by decide⟩
  . exact⟨.inr (.inl rfl),by decide,by decide,by decide,by decide,by decide⟩
  . exact⟨.inr (.inl rfl),by decide,by decide,by decide,by decide,by decide⟩
 rlen:=by decide
 gd:=fun i hi=>by
  rcases (show i=0\/i=1\/i=2\/i=3\/i=4 by have:i<5:=hi;omega) with rfl|rfl|rfl|rfl|rfl
  all_goals decide
 slen:=fun i hi=>by
  rcases (show i=0\/i=1\/i=2\/i=3\/i=4 by have:i<5:=hi;omega) with rfl|rfl|rfl|rfl|rfl
  all_goals decide
 set:=fun i hi j hj=>by
  rcases (show i=0\/i=1\/i=2\/i=3\/i=4 by have:i<5:=hi;omega) with rfl|rfl|rfl|rfl|rfl
  . rcases (show j=0\/j=1 by have:j<2:=hj;omega) with rfl|rfl<;>decide
  . rcases (show j=0\/j=1 by have:j<2:=hj;omega) with rfl|rfl<;>decide
  . rcases (show j=0\/j=1 by have:j<2:=hj;omega) with rfl|rfl<;>decide
  . rcases (show j=0\/j=1 by have:j<2:=hj;omega) with rfl|rfl<;>decide
  . (obtain rfl:j=0:=by have:j<1:=hj;omega);decide
 types:=wav_types
theorem linkP_len (bk:Bool) (p:Ps) (a b:Nat) (w:Int):(linkP bk p a b w).length=p.length:=by
 rw[linkP];split<;>simp
theorem linkP_row (bk:Bool) (p:Ps) {a b:Nat} (w:Int) (ha:a<p.length) (hb:b<p.length) (u:Nat):(gR (linkP bk p a b w) u).length<=(gR p u).length+1:=by
 rw[linkP];split
 . omega
 . rename_i h;have hab:¬ a=b:=fun e=>h (.inl e);have hl:∀r l,(addP bk r l).length=r.length+1:=fun r l=>by rw[addP];split<;>simp
   rw[gR_set _ b _ (by simpa using hb),gR_set p a _ ha];split
   . rename_i e;subst e;rw[hl];omega
   . split
     . rename_i e;subst e;rw[hl];omega
     . omega
def wgt (x:Net) (i:Nat):Int:=1+within (gI x.weights i) 15
def treeP (x:Net) (n:Nat):Nat->Ps
 | 0=>List.replicate n []
 | k+1=>linkP x.back (treeP x n k) (within (gI x.links k) ((k:Int)+1)).toNat (k+1) (wgt x k)
theorem treeP_len (x:Net) (n:Nat):∀k,(treeP x n k).length=n
 | 0=>by simp[treeP]
 | k+1=>by rw[treeP,linkP_len,treeP_len x n k]
theorem treeP_to (x:Net) (k:Nat):(within (gI x.links k) ((k:Int)+1)).toNat<k+1:=by
 have:=within_range (gI x.links k) (b:=(k:Int)+1) (by omega);omega
theorem rep_row (n u:Nat):gR (List.replicate n []) u=[]:=by
 simp only[gR,List.getD,List.getElem?_replicate];split<;>rfl
theorem treeP_row (x:Net) (n:Nat):∀k,k<n->∀u,(gR (treeP x n k) u).length<=k
 | 0,_,u=>by rw[treeP,rep_row];simp
 | k+1,hk,u=>by
   have h1:=treeP_to x k;have h2:=linkP_row x.back (treeP x n k) (wgt x k) (a:=(within (gI x.links k) ((k:Int)+1)).toNat) (b:=k+1) (by rw[treeP_len];omega) (by rw[treeP_len];exact hk) u;have h3:=treeP_row x n k (by omega) u;rw[treeP];omega
abbrev netOwn (I:List Int) (p:Ps):Own:=gOwn ⟨I,p⟩
theorem vec_fam (ρ:Rn) (n:Nat):BRen ρ (.vec n 1 fun _ _=>.nilslice) (famP (List.replicate n [])):=⟨by simp,rfl,rfl,fun i hi=>⟨rfl,by rw[lenP,rep_row];rfl⟩⟩
theorem fam_fam (ρ:Rn) (p:Ps):BRen ρ (famP p) (famP p):=⟨rfl,rfl,True.intro,fun i hi=>rfl,fun i j t hi hn hj ht=>VLe.rfl⟩
set_option maxHeartbeats 8000000 in
theorem tree_ok (x:Net) (hx:x.Small) (most:Int) (h1:1<=most) (h2:most<=24) :
 CallF Tryz.prog 17 [x.v,.int .i64 most] [] KS fun v own' _=>v=gV1 (x.size most) (x.size most)/\own'=netOwn (idsF x.ids (x.size most)) (treeP x (x.size most) (x.size most-1)):=by
 have hn:=nodes_ok x hx most h1 h2;have hsz:1<=x.size most/\x.size most<=24:=by
  have:=within_range x.n1 h1;rw[Net.size];omega
 have hll:=hx.links;have hwl:=hx.weights;generalize x.size most=n at *;have hil:=idsF_len x.ids n;refine call_post ?_;refine fn_rule mixed Tryz.func17 rfl hc17 hr17 rfl ?_
 repeat' ((conv=>whnf);first|(refine call_by [] [0,1] (hn.mono ?_) ⟨VRen.kf rfl,VRen.kf rfl,True.intro⟩ True.intro rfl;rintro _ _ _ ⟨rfl,rfl⟩)|(refine Chk.mk rfl ?_))
 all_goals (conv=>whnf)
 refine loop_u mixed [2,4,5] [3] [5,6,7,8,9,10,11,12,13,14,15,16,17,18,19,20,21,22,23,24,25,26,27,28,29] [4,2,3,1,0] (fun k:Nat=>[(6,.int .i64 ((k:Int)+1))]) (fun own k=>updO own 3 (famP (treeP x n k))) (fun m k=>m=n-1-k/\k<=n-1) (n-1) 0 ⟨rfl,by omega⟩ rfl (fun _=>rfl) ?_ ?_
 . refine weak_by (fun _ _=>[(0,some 0),(1,some 1),(2,some 2),(3,some 3),(4,some 4)]) ?_ ?_ rfl
   . repeat' (first|exact True.intro|(refine⟨⟨_,rfl,?_⟩,?_⟩)|exact VRen.kf rfl|exact VRen.loc rfl)
   . repeat' (first|exact vec_fam _ _|exact True.intro|(refine⟨⟨_,rfl,?_⟩,?_⟩)|exact VRen.kf rfl|exact VRen.vec rfl rfl rfl|(refine⟨Nat.le_refl _,rfl,fun i j hi hj=>?_⟩)|exact VLe.rfl|(refine And.intro ?_ ?_))
 rintro m k ⟨hm,hk⟩;have hln:=treeP_len x n k;by_cases hkn:k<n-1
 . have ha1:=at_ok x.links hll k;have ha2:=at_ok x.weights hwl k;have hw1:=within_ok (gI x.links k) ((k:Int)+1) (by omega);have hw2:=within_ok (gI x.weights k) 15 (by omega);have hr1:=within_range (gI x.links k) (b:=(k:Int)+1) (by omega);have hr2:=within_range (gI x.weights k) (b:=15) (by omega);have hrow:=treeP_row x n k (by omega);have hl:=link_ok x ⟨idsF x.ids n,treeP x n k⟩ (small_of (by show(idsF x.ids n).length<=_;omega) (by show(treeP x n k).length<=_;omega) (fun u=>by have:=hrow u;show(gR (treeP x n k) u).length<=_;omega)) (fun u=>by have:=hrow u;show(gR (treeP x n k) u).length<=_;omega) (within (gI x.links k) ((k:Int)+1)).toNat (k+1) (by show _<(treeP x n k).length;omega) (by show _<(treeP x n k).length;omega) (wgt x k);have hnx:linkP x.back (treeP x n k) (within (gI x.links k) ((k:Int)+1)).toNat (k+1) (wgt x k)=treeP x n (k+1):=rfl;have hwg:wgt x k=1+within (gI x.weights k) 15:=rfl;simp only[hnx,hil,hln] at hl;generalize within (gI x.links k) ((k:Int)+1)=a at *;generalize within (gI x.weights k) 15=w at *
   repeat' ((conv=>whnf);first|(refine Ar.i64 (by omega) (by omega) ?_;rw[show(k:Int)+1-1=(k:Int) by omega])|(refine Br.dec ?_ ?_<;>intro _<;>try omega)|(refine Ar.i64 (by omega) (by omega) ?_)|(refine ha1.go ?_)|(refine ha2.go ?_)|(refine hw1.go ?_)|(refine hw2.go ?_)|(refine And.intro rfl ?_)|(refine call_by [(0,some 2),(1,some 3)] [] (hl.mono ?_) ⟨VRen.kf rfl,VRen.agg ⟨VRen.vec rfl rfl rfl,VRen.vec rfl rfl rfl,True.intro⟩,VRen.int (by omega),VRen.int (by omega),VRen.int (by omega),True.intro⟩ ⟨⟨_,rfl,Nat.le_of_eq hil,rfl,fun _ _ _ _=>VLe.rfl⟩,⟨_,rfl,fam_fam _ _⟩,True.intro⟩ rfl;rintro _ _ _ ⟨rfl,rfl⟩)|(refine Chk.mk rfl ?_))
   all_goals (conv=>whnf)
   all_goals
    refine⟨n-1-(k+1),k+1,by omega,⟨rfl,by omega⟩,?_⟩;refine weak_by (fun _ _=>[(0,some 0),(1,some 1),(2,some 2),(3,some 3),(4,some 4)]) ?_ ?_ rfl
    . repeat' (first|exact True.intro|(refine⟨⟨_,rfl,?_⟩,?_⟩)|exact VRen.kf rfl|exact VRen.loc rfl)
    . repeat' (first|exact fam_fam _ _|exact⟨Nat.le_of_eq hil.symm,rfl,fun _ _ _ _=>VLe.rfl⟩|exact True.intro|(refine⟨⟨_,rfl,?_⟩,?_⟩)|exact VRen.kf rfl|exact VRen.vec rfl rfl rfl|(refine And.intro ?_ ?_))
 . have e:k=n-1:=by omega
   subst e
   repeat' ((conv=>whnf);first|(refine Br.dec ?_ ?_<;>intro _<;>try omega))
   all_goals (conv=>whnf)
   exact postR_byV (fun v o=>[(0,vkey v 0),(1,vkey v 1)]) _ _ ⟨rfl,rfl⟩ (VRen.agg ⟨VRen.vec rfl rfl rfl,VRen.vec rfl rfl rfl,True.intro⟩) ⟨⟨_,rfl,Nat.le_of_eq hil,rfl,fun _ _ _ _=>VLe.rfl⟩,⟨_,rfl,fam_fam _ _⟩,True.intro⟩ rfl
def moreP (x:Net) (n:Nat) (p:Ps):Nat->Ps
 | 0=>p
 | k+1=>linkP x.back (moreP x n p k) (within (gI x.links (n+2*k)) n).toNat (within (gI x.links (n+2*k+1)) n).toNat (wgt x (n+2*k))
def moreN (x:Net) (n:Nat):Nat:=min ((x.links.length-n) / 2) ((61-n) / 2)
theorem moreP_len (x:Net) (n:Nat) (p:Ps):∀k,(moreP x n p k).length=p.length
 | 0=>rfl
 | k+1=>by rw[moreP,linkP_len,moreP_len x n p k]
theorem within_lt {a:Int} {n:Nat} (hn:1<=n):(within a n).toNat<n:=by
 have:=within_range a (b:=(n:Int)) (by omega);omega
theorem moreP_row (x:Net) (n:Nat) (p:Ps) (hn:1<=n) (hp:p.length=n):∀k u,(gR (moreP x n p k) u).length<=(gR p u).length+k
 | 0,u=>by rw[moreP];omega
 | k+1,u=>by
   have h2:=linkP_row x.back (moreP x n p k) (wgt x (n+2*k)) (a:=(within (gI x.links (n+2*k)) n).toNat) (b:=(within (gI x.links (n+2*k+1)) n).toNat) (by rw[moreP_len,hp];exact within_lt hn) (by rw[moreP_len,hp];exact within_lt hn) u;have h3:=moreP_row x n p hn hp k u;rw[moreP];omega
set_option maxHeartbeats 8000000 in
theorem more_ok (x:Net) (hx:x.Small) (I:List Int) (p:Ps) (n:Nat) (hn:1<=n) (hn2:n<=24) (hI:I.length=n) (hp:p.length=n) (hr:∀u,(gR p u).length<=100) :
 CallF Tryz.prog 16 [x.v,gV1 n n] (netOwn I p) KS4 fun v own' _=>v=gV1 n n/\own'=netOwn I (moreP x n p (moreN x n)):=by
 have hll:=hx.links;have hwl:=hx.weights;have hN:moreN x n<=31/\∀k,k<moreN x n↔(n+2*k+1<x.links.length/\n+2*k<60):=by
  rw[moreN];exact⟨by omega,fun k=>by omega⟩
 refine call_post ?_;refine fn_rule mixed Tryz.func16 rfl hc16 hr16 rfl ?_
 repeat' ((conv=>whnf);first|fail)
 all_goals (conv=>whnf)
 refine loop_u mixed [2,3,4,5] [] [5,6,7,8,9,10,11,12,13,14,15,16,17,18,19,20,21,22,23,24,25,26,27,28,29] [4,3,2,0,1] (fun k:Nat=>[(6,.int .i64 ((n:Int)+2*k))]) (fun own k=>updO own 1 (famP (moreP x n p k))) (fun m k=>m=moreN x n-k/\k<=moreN x n) (moreN x n) 0 ⟨rfl,by omega⟩ rfl (fun _=>rfl) ?_ ?_
 . refine weak_by (fun _ _=>[(0,some 0),(1,some 1),(2,some 2),(3,some 3),(4,some 4)]) ?_ ?_ rfl
   . repeat' (first|exact True.intro|(refine⟨⟨_,rfl,?_⟩,?_⟩)|exact VRen.kf rfl|exact VRen.loc rfl)
   . repeat' (first|exact fam_fam _ _|exact True.intro|(refine⟨⟨_,rfl,?_⟩,?_⟩)|exact VRen.kf rfl|exact VRen.vec rfl rfl rfl|(refine⟨Nat.le_refl _,rfl,fun i j hi hj=>?_⟩)|exact VLe.rfl|(refine And.intro ?_ ?_))
 rintro m k ⟨hm,hk⟩;have hln:=(moreP_len x n p k).trans hp;have hk2:=hN.2 k;by_cases hkn:k<moreN x n
 . obtain⟨c1,c2⟩:=hk2.1 hkn;have ha2:=at_ok x.weights hwl (n+2*k);have hw1:=within_ok (gI x.links (n+2*k)) n (by omega);have hw3:=within_ok (gI x.links (n+2*k+1)) n (by omega);have hw2:=within_ok (gI x.weights (n+2*k)) 15 (by omega);have hr1:=within_range (gI x.links (n+2*k)) (b:=n) (by omega);have hr3:=within_range (gI x.links (n+2*k+1)) (b:=n) (by omega);have hr2:=within_range (gI x.weights (n+2*k)) (b:=15) (by omega);have hrow:∀u,(gR (moreP x n p k) u).length<=1000:=fun u=>by have:=moreP_row x n p hn hp k u;have:=hr u;omega
   have hl:=link_ok x ⟨I,moreP x n p k⟩ (small_of (by show I.length<=_;omega) (by show(moreP x n p k).length<=_;omega) hrow) hrow (within (gI x.links (n+2*k)) n).toNat (within (gI x.links (n+2*k+1)) n).toNat (by show _<(moreP x n p k).length;omega) (by show _<(moreP x n p k).length;omega) (wgt x (n+2*k));have hnx:linkP x.back (moreP x n p k) (within (gI x.links (n+2*k)) n).toNat (within (gI x.links (n+2*k+1)) n).toNat (wgt x (n+2*k))=moreP x n p (k+1):=rfl;have hwg:wgt x (n+2*k)=1+within (gI x.weights (n+2*k)) 15:=rfl;simp only[hnx,hI,hln] at hl;have e2k:((n+2*k:Nat):Int)=(n:Int)+2*k:=by omega
   rw[e2k] at ha2
   repeat' ((conv=>whnf);first|(refine Ix.mk (n+2*k) (by omega) (by omega) ?_;try rw[Nat.zero_add])|(refine Ix.mk (n+2*k+1) (by omega) (by omega) ?_;try rw[Nat.zero_add])|(refine Br.dec ?_ ?_<;>intro _<;>try omega)|(refine Ar.i64 (by omega) (by omega) ?_)|(refine ha2.go ?_)|(refine hw1.go ?_)|(refine hw3.go ?_)|(refine hw2.go ?_)|(refine And.intro rfl ?_)|(refine call_by [(0,some 0),(1,some 1)] [] (hl.mono ?_) ⟨VRen.kf rfl,VRen.agg ⟨VRen.vec rfl rfl rfl,VRen.vec rfl rfl rfl,True.intro⟩,VRen.int (by omega),VRen.int (by omega),VRen.int (by omega),True.intro⟩ ⟨⟨_,rfl,Nat.le_of_eq (by first|rfl|exact hI|exact hI.symm),rfl,fun _ _ _ _=>VLe.rfl⟩,⟨_,rfl,fam_fam _ _⟩,True.intro⟩ rfl;rintro _ _ _ ⟨rfl,rfl⟩)|(refine Chk.mk rfl ?_))
   all_goals (conv=>whnf)
   all_goals
    refine⟨moreN x n-(k+1),k+1,by omega,⟨rfl,by omega⟩,?_⟩;refine weak_by (fun _ _=>[(0,some 0),(1,some 1),(2,some 2),(3,some 3),(4,some 4)]) ?_ ?_ rfl
    . repeat' (first|exact True.intro|(refine⟨⟨_,rfl,?_⟩,?_⟩)|exact VRen.kf rfl|exact VRen.loc rfl)
    . repeat' (first|exact fam_fam _ _|exact⟨Nat.le_refl _,rfl,fun _ _ _ _=>VLe.rfl⟩|exact True.intro|(refine⟨⟨_,rfl,?_⟩,?_⟩)|exact VRen.kf rfl|exact VRen.vec rfl rfl rfl|(refine And.intro ?_ ?_))
 . have e:k=moreN x n:=by omega
   subst e;by_cases h1:n+2*moreN x n+1<x.links.length
   all_goals
    repeat' ((conv=>whnf);first|(refine Br.dec ?_ ?_<;>intro _<;>try omega)|(refine Ar.i64 (by omega) (by omega) ?_))
    all_goals (conv=>whnf)
    all_goals exact postR_byV (fun v o=>[(0,vkey v 0),(1,vkey v 1)]) _ _ ⟨rfl,rfl⟩ (VRen.agg ⟨VRen.vec rfl rfl rfl,VRen.vec rfl rfl rfl,True.intro⟩) ⟨⟨_,rfl,Nat.le_refl _,rfl,fun _ _ _ _=>VLe.rfl⟩,⟨_,rfl,fam_fam _ _⟩,True.intro⟩ rfl
theorem size_ok (x:Net) {most:Int} (h1:1<=most):1<=x.size most/\(x.size most:Int)<=most:=by
 have:=within_range x.n1 h1;rw[Net.size];omega
def Net.con (x:Net) (most:Int):G:=⟨idsF x.ids (x.size most),moreP x (x.size most) (treeP x (x.size most) (x.size most-1)) (moreN x (x.size most))⟩
def Net.any (x:Net) (most:Int):G:=if x.apart then⟨idsF x.ids (x.size most),moreP x (x.size most) (List.replicate (x.size most) []) (moreN x (x.size most))⟩ else x.con most
theorem view_g {g:G} {n:Nat} (h1:g.ids.length=n) (h2:g.ports.length=n):VLe (V.agg [.fz n 1 false (shiftF 0 (vI g.ids)),.fz n 1 false fun i _=>.fz (lenP g.ports i) 2 false (rowP g.ports i)]) g.v:=by
 refine VLe.agg ⟨?_,?_,True.intro⟩
 . exact VLe.fz h1.symm (fun h=>h) (fun i j hi hj=>VLe.of_eq (by simp[shiftF]))
 . exact VLe.fz h2.symm (fun h=>h) (fun i j hi hj=>VLe.rfl)
theorem ret_g {g:G} {n:Nat} (h1:g.ids.length=n) (h2:g.ports.length=n):frzT (gOwn g) (gV1 n n) fun v=>VLe v g.v :=
 ⟨by rw[Nat.zero_add,h1];exact Nat.le_refl _,Nat.le_of_eq h2.symm,view_g h1 h2⟩
set_option maxHeartbeats 8000000 in
theorem connected_call (x:Net) (hx:x.Small) (most:Int) (h1:1<=most) (h2:most<=24) :
 CallF Tryz.prog 4 [x.v,.int .i64 most] [] KS fun v own' _=>v=gV1 (x.size most) (x.size most)/\own'=gOwn (x.con most):=by
 have ht:=tree_ok x hx most h1 h2;have hsz:=size_ok x h1;have hm:=more_ok x hx (idsF x.ids (x.size most)) (treeP x (x.size most) (x.size most-1)) (x.size most) hsz.1 (by omega) (idsF_len _ _) (treeP_len _ _ _) (fun u=>by have:=treeP_row x (x.size most) (x.size most-1) (by omega) u;omega);refine call_post ?_;refine fn_rule mixed Tryz.func4 rfl hc4 hr4 rfl ?_
 repeat' ((conv=>whnf);first|(refine call_by [] [0,1] (ht.mono ?_) ⟨VRen.kf rfl,VRen.kf rfl,True.intro⟩ True.intro rfl;rintro _ _ _ ⟨rfl,rfl⟩)|(refine call_by [(0,some 2),(1,some 3)] [] (hm.mono ?_) ⟨VRen.kf rfl,VRen.agg ⟨VRen.vec rfl rfl rfl,VRen.vec rfl rfl rfl,True.intro⟩,True.intro⟩ ⟨⟨_,rfl,Nat.le_refl _,rfl,fun _ _ _ _=>VLe.rfl⟩,⟨_,rfl,fam_fam _ _⟩,True.intro⟩ rfl;rintro _ _ _ ⟨rfl,rfl⟩)|(refine Chk.mk rfl ?_)|(refine And.intro rfl ?_))
 all_goals (conv=>whnf)
 exact postR_byV (fun v o=>[(0,vkey v 0),(1,vkey v 1)]) _ _ ⟨rfl,rfl⟩ (VRen.agg ⟨VRen.vec rfl rfl rfl,VRen.vec rfl rfl rfl,True.intro⟩) ⟨⟨_,rfl,Nat.le_refl _,rfl,fun _ _ _ _=>VLe.rfl⟩,⟨_,rfl,fam_fam _ _⟩,True.intro⟩ rfl
theorem con_len (x:Net) (most:Int):(x.con most).ids.length=x.size most/\(x.con most).ports.length=x.size most:=⟨idsF_len _ _,(moreP_len _ _ _ _).trans (treeP_len _ _ _)⟩
theorem connected_ok (x:Net) (hx:x.Small) (most:Int) (h1:1<=most) (h2:most<=24):Ret Tryz.prog 4 [x.v,.int .i64 most] (x.con most).v:=by
 refine ret_frz rfl ((connected_call x hx most h1 h2).mono ?_);rintro _ _ _ ⟨rfl,rfl⟩;exact ret_g (con_len x most).1 (con_len x most).2
structure PV (p:Ps):Prop where
 ok:∀v,v<p.length->okR p.length v (gR p v)=true
 sym:∀v,v<p.length->∀l∈gR p v,((v:Int),l.2)∈gR p l.1.toNat
theorem mem_addP {bk:Bool} {r:List (Int×Int)} {x l:Int×Int}:l∈addP bk r x↔l=x\/l∈r:=by
 rw[addP];split
 . simp
 . simp only[List.mem_append,List.mem_singleton];exact⟨Or.symm,Or.symm⟩
theorem nodup_addP {bk:Bool} {r:List (Int×Int)} {x:Int×Int} (h:(r.map (·.1)).Nodup) (hx:∀l∈r,l.1≠x.1):((addP bk r x).map (·.1)).Nodup:=by
 have hn:x.1∉r.map (·.1):=fun hm=>by
  obtain⟨l,h1,h2⟩:=List.mem_map.1 hm;exact hx l h1 h2
 rw[addP];split
 . rw[List.map_cons,List.nodup_cons];exact⟨hn,h⟩
 . rw[List.map_append,List.nodup_append];refine⟨h,by simp,fun a ha b hb e=>hn ?_⟩;have:b=x.1:=by simpa using hb
   rw[<- this,<- e];exact ha
theorem pv_rep (n:Nat):PV (List.replicate n []):=⟨fun v _=>by rw[rep_row];rfl,fun v _ l hl=>by rw[rep_row] at hl;cases hl⟩
theorem pv_link {bk:Bool} {p:Ps} (h:PV p) {a b:Nat} {w:Int} (ha:a<p.length) (hb:b<p.length) (hw:1<=w/\w<=15):PV (linkP bk p a b w):=by
 have hlen:=linkP_len bk p a b w;rw[linkP] at hlen ⊢;split
 . exact h
 . rename_i hc;rw[if_neg hc] at hlen;have hab:a≠b:=fun e=>hc (.inl e);have hnl:∀l∈gR p a,l.1≠b:=fun l hl e=>hc (.inr (by rw[lnk,List.any_eq_true];exact⟨l,hl,by simpa using e⟩));have hnl2:∀l∈gR p b,l.1≠a:=fun l hl e=>by
    have:=h.sym b hb l hl;rw[e] at this;exact hnl _ this rfl
   have hg:∀v,gR ((p.set a (addP bk (gR p a) ((b:Int),w))).set b (addP bk (gR p b) ((a:Int),w))) v=if v=b then addP bk (gR p b) ((a:Int),w) else if v=a then addP bk (gR p a) ((b:Int),w) else gR p v:=fun v=>by
    rw[gR_set _ b _ (by simpa using hb),gR_set p a _ ha]
   constructor
   . intro v hv;rw[hlen] at hv ⊢;rw[hg];split
     . rename_i e;subst e;obtain⟨o1,o2⟩:=okR_iff.1 (h.ok v hv);refine okR_iff.2 ⟨fun l hl=>?_,nodup_addP o2 hnl2⟩;rcases mem_addP.1 hl with rfl|hl
       . simp only;omega
       . exact o1 l hl
     . split
       . rename_i e;subst e;obtain⟨o1,o2⟩:=okR_iff.1 (h.ok v hv);refine okR_iff.2 ⟨fun l hl=>?_,nodup_addP o2 hnl⟩;rcases mem_addP.1 hl with rfl|hl
         . simp only;omega
         . exact o1 l hl
       . exact h.ok v hv
   . intro v hv l hl;rw[hlen] at hv;have old:∀u x,x∈gR p u->x∈gR ((p.set a (addP bk (gR p a) ((b:Int),w))).set b (addP bk (gR p b) ((a:Int),w))) u:=fun u x hx=>by
      rw[hg];split
      . rename_i e;subst e;exact mem_addP.2 (.inr hx)
      . split
        . rename_i e;subst e;exact mem_addP.2 (.inr hx)
        . exact hx
     rw[hg] at hl;split at hl
     . rename_i e;subst e;rcases mem_addP.1 hl with rfl|hl
       . simp only[Int.toNat_natCast];rw[hg,if_neg hab,if_pos rfl];exact mem_addP.2 (.inl rfl)
       . exact old _ _ (h.sym v hv l hl)
     . split at hl
       . rename_i e;subst e;rcases mem_addP.1 hl with rfl|hl
         . simp only[Int.toNat_natCast];rw[hg,if_pos rfl];exact mem_addP.2 (.inl rfl)
         . exact old _ _ (h.sym v hv l hl)
       . exact old _ _ (h.sym v hv l hl)
theorem wgt_ok (x:Net) (i:Nat):1<=wgt x i/\wgt x i<=15:=by
 have:=within_range (gI x.weights i) (b:=15) (by omega);rw[wgt];omega
theorem pv_tree (x:Net) (n:Nat):∀k,k<n->PV (treeP x n k)
 | 0,_=>pv_rep n
 | k+1,hk=>by
   have h1:=treeP_to x k;rw[treeP];exact pv_link (pv_tree x n k (by omega)) (by rw[treeP_len];omega) (by rw[treeP_len];exact hk) (wgt_ok x k)
theorem pv_more (x:Net) {n:Nat} (hn:1<=n) {p:Ps} (hp:p.length=n) (h:PV p):∀k,PV (moreP x n p k)
 | 0=>h
 | k+1=>by
   rw[moreP];exact pv_link (pv_more x hn hp h k) (by rw[moreP_len,hp];exact within_lt hn) (by rw[moreP_len,hp];exact within_lt hn) (wgt_ok x _)
theorem valid_of {I:List Int} {p:Ps} {n:Nat} (h1:1<=n) (h2:n<=24) (hI:I.length=n) (hp:p.length=n) (h3:∀a∈I,0<=a/\a<=255) (h4:I.Nodup) (h:PV p):(⟨I,p⟩:G).valid=true:=by
 rw[G.valid,Bool.and_eq_true,Bool.and_eq_true,decide_eq_true_eq];refine⟨⟨by show 1<=I.length;omega,by show I.length<=24;omega,by show p.length=I.length;omega⟩,(idsOk_iff _).2 ⟨h3,h4⟩,?_⟩;rw[portsOk,Bool.and_eq_true];exact⟨rowsOk_iff.2 h.ok,symOk_iff.2 h.sym⟩
theorem con_valid (x:Net) {most:Int} (h1:1<=most) (h2:most<=24):(x.con most).valid=true:=by
 have hs:=size_ok x h1;have hi:=idsF_ok x.ids (x.size most) (by omega);exact valid_of hs.1 (by omega) (con_len x most).1 (con_len x most).2 hi.1 hi.2 (pv_more x hs.1 (treeP_len _ _ _) (pv_tree x _ _ (by omega)) _)
theorem valid_small {g:G} (h:g.valid=true):g.Small:=by
 obtain⟨f1,f2,f3,f4,f5,f6,f7⟩:=val_facts h;refine small_of (by omega) (by omega) (fun u=>?_);by_cases hu:u<g.ports.length
 . have:=okR_len hu (f6 u hu);omega
 . have:gR g.ports u=[]:=by simp[gR,List.getD,List.getElem?_eq_none (Nat.le_of_not_lt hu)]
   rw[this];simp
def t3:G:=⟨[0,1,2],[[(1,1)],[(0,1),(2,1)],[(1,1)]]⟩
theorem w_0_1:Ret Tryz.prog 35 [.int .i64 0,.int .i64 1] (.int .i64 0):=within_ok 0 1 (by decide)
theorem w_1_2:Ret Tryz.prog 35 [.int .i64 1,.int .i64 2] (.int .i64 1):=within_ok 1 2 (by decide)
theorem copyR_ok (c:Cf) (hc:c.length<=1000) (hr:∀v,v<c.length->(gC c v).length<=1000):Ret Tryz.prog 55 [cV c] (cV c):=by
 refine ret_frz rfl ?_;refine(copy_ok c hc hr).mono ?_;rintro v own' _ ⟨rfl,rfl⟩
 conv=>whnf
 refine Len.mk (by omega) ?_;exact VLe.fz rfl (fun h=>h) (fun i j hi hj=>VLe.of_eq (by rw[shiftF_eq,Nat.zero_add]))
theorem rcheck_ok (p:Pr) (hp:PrOk p) (g:G) (hs:g.Small) (hg:g.valid=true) (c:Cf) (hc:Conf p g c) (k:Int) (hk:dk k=true) (n:Nat) (hn:n<=4096):Ret Tryz.prog 21 [p.v,g.v,.int .i64 k,cV c,.int .i64 n] (.int .i64 0):=by
 have h1:=check_ok p hp g hs hg c hc;have h2:=dvalid_ok k;rw[hk] at h2;refine ret_frz rfl ?_;refine fn_rule mixed Tryz.func21 rfl hc21 hr21 rfl ?_
 repeat' ((conv=>whnf);first|(refine Br.tt ?_)|(refine Br.ff ?_)|(refine Br.dec ?_ ?_<;>intro _<;>try omega)|(refine h1.go ?_)|(refine h2.go ?_))
 all_goals (conv=>whnf)
 all_goals exact VLe.rfl
def gT (l:List (Cf×Cnt)) (i:Nat):Cf×Cnt:=l.getD i default
def vCfs (l:List (Cf×Cnt)):Nat->Nat->V:=fun i _=>cV (gT l i).1
def vKs (l:List (Cf×Cnt)):Nat->Nat->V:=fun i j=>cntF (gT l i).2 j
def runV (L:List (Cf×Cnt)):V:=.tup [.fz L.length 1 false (vCfs L),.fz L.length 5 false (vKs L),.int .i64 0]
theorem en_and (p:Pr) {g:G} (hg:g.valid=true) (c:Cf):bitI .and .u32 (enN p g c:Int) (full g.ids.length:Nat)=(enN p g c:Nat):=by
 obtain⟨f1,f2,f3,f4,f5,f6,f7⟩:=val_facts hg;rw[bit_and (en_32 p hg c) (by rw[full];exact nb_lt _ (by omega))];congr 1;apply Nat.eq_of_testBit_eq;intro i;rw[Nat.testBit_and];cases e:(enN p g c).testBit i with
 | false=>rfl
 | true =>
   have:=en_part p hg c i e;rw[f3] at this;rw[this];rfl
structure RunS where
 c:Cf
 n:Cnt
 pre:List (Cf×Cnt)
 ch:List Nat
 en:List Nat
structure RunI (p:Pr) (g:G) (k:Int) (c0:Cf) (n0:Cnt) (ws:List Nat) (x:RunS):Prop where
 le:x.ch.length<=ws.length
 conf:Conf p g x.c
 ok:x.n.Ok
 steps:x.n.steps=x.ch.length
 pl:x.pre.length=x.ch.length
 el:x.en.length=x.ch.length+1
 tot:trc p g k c0 n0 ws=x.pre++trc p g k x.c x.n (ws.drop x.ch.length)
 cho:chsL p g k c0 ws=x.ch++chsL p g k x.c (ws.drop x.ch.length)
def cntC (k:Cnt):List V:=[.int .i64 k.steps,.int .i64 k.moves,.int .i64 k.rounds,.int .i64 k.begun,.int .u32 k.pend]
theorem ws_drop {ws:List Nat} {i:Nat} (h:i<ws.length):ws.drop i=ws.getD i 0::ws.drop (i+1):=by
 rw[List.drop_eq_getElem_cons h];simp[List.getD,h]
theorem run_start {p:Pr} {g:G} (hg:g.valid=true) {k:Int} {c:Cf} (hc:Conf p g c) (ws:List Nat):RunI p g k c (cnt0 (enN p g c)) ws ⟨c,cnt0 (enN p g c),[],[],[enN p g c]⟩ :=
 ⟨Nat.zero_le _,hc,cnt0_ok (en_24 p hg c),rfl,rfl,rfl,rfl,rfl⟩
theorem run_next {p:Pr} (hp:PrOk p) {g:G} (hg:g.valid=true) {k:Int} (hk:dk k=true) {c0:Cf} {n0:Cnt} {ws:List Nat} (hl:ws.length<=4000) {x:RunS} (hx:RunI p g k c0 n0 ws x) (hi:x.ch.length<ws.length) (h0:enN p g x.c≠0) :
 RunI p g k c0 n0 ws ⟨nxC p g k x.c (ws.getD x.ch.length 0),nxK p g k x.c x.n (ws.getD x.ch.length 0),x.pre++[(x.c,x.n)],x.ch++[chC p g k x.c (ws.getD x.ch.length 0)],x.en++[enN p g (nxC p g k x.c (ws.getD x.ch.length 0))]⟩:=by
 obtain⟨k1,k2⟩:=nx_ok hg hk hx.ok (by have:=hx.steps;omega) (ws.getD x.ch.length 0) h0 (k:=k);have ht:=hx.tot;have hc:=hx.cho;rw[ws_drop hi,trc,if_neg h0] at ht;rw[ws_drop hi,chsL,if_neg h0] at hc;refine⟨by simp only[List.length_append,List.length_singleton];omega,nx_conf hp hg hk hx.conf _ h0,k1,?_,?_,?_,?_,?_⟩
 . simp only[List.length_append,List.length_singleton];rw[k2,hx.steps]
 . simp only[List.length_append,List.length_singleton];rw[hx.pl]
 . simp only[List.length_append,List.length_singleton];rw[hx.el]
 . simp only[List.length_append,List.length_singleton];rw[ht];simp
 . simp only[List.length_append,List.length_singleton];rw[hc];simp
theorem run_end {p:Pr} {g:G} {k:Int} {c0:Cf} {n0:Cnt} {ws:List Nat} {x:RunS} (hx:RunI p g k c0 n0 ws x) (h:x.ch.length=ws.length\/enN p g x.c=0):trc p g k c0 n0 ws=x.pre++[(x.c,x.n)]/\chsL p g k c0 ws=x.ch:=by
 have ht:=hx.tot;have hc:=hx.cho;by_cases e:x.ch.length<ws.length
 . have h0:enN p g x.c=0:=by rcases h with h|h;omega;exact h
   rw[ws_drop e,trc,if_pos h0] at ht;rw[ws_drop e,chsL,if_pos h0] at hc;exact⟨ht,by simpa using hc⟩
 . rw[List.drop_of_length_le (by omega)] at ht hc;exact⟨ht,by simpa[chsL] using hc⟩
theorem vle_appU7 (l:List Nat) (a:Nat) (F:Nat->Nat->V) (x:Int) (hF:F 0 0=.int .u32 x) (hx:x=a) (i j:Nat) (hi:i<(l++[a]).length) (hj:j<1):VLe (fapp (shiftF 0 (vU7 l)) l.length (shiftF 0 F) i j) (vU7 (l++[a]) i j):=by
 obtain rfl:j=0:=by omega
 apply VLe.of_eq;simp only[List.length_append,List.length_singleton] at hi;by_cases h:i<l.length
 . rw[fapp_lt h,shiftF_eq,Nat.zero_add];simp[vU7,List.getD,List.getElem?_append_left h]
 . rw[fapp_ge h];have:i=l.length:=by omega
   subst this;simp[shiftF,hF,vU7,hx]
theorem gT_snoc (l:List (Cf×Cnt)) (a:Cf×Cnt) (i:Nat) (h:i<l.length+1):gT (l++[a]) i=if i<l.length then gT l i else a:=by
 by_cases e:i<l.length
 . simp[gT,List.getD,e,List.getElem?_append_left e]
 . have:i=l.length:=by omega
   subst this;simp[gT,List.getD]
theorem vle_appCf (l:List (Cf×Cnt)) (a:Cf×Cnt) (F:Nat->Nat->V) (hF:F 0 0=cV a.1) (n i j:Nat) (hn:n=l.length) (hi:i<l.length+1) (hj:j<1):VLe (fapp (shiftF 0 (vCfs l)) n (shiftF 0 F) i j) (vCfs (l++[a]) i j):=by
 obtain rfl:j=0:=by omega
 subst hn;apply VLe.of_eq;rw[vCfs,gT_snoc l a i hi];by_cases h:i<l.length
 . rw[fapp_lt h,shiftF_eq,Nat.zero_add,if_pos h];rfl
 . rw[fapp_ge h,if_neg h];have:i=l.length:=by omega
   subst this;simp[shiftF,hF]
theorem vle_appCnt (l:List (Cf×Cnt)) (a:Cf×Cnt) (F:Nat->Nat->V) (hF:∀j,j<5->F 0 j=cntF a.2 j) (n i j:Nat) (hn:n=l.length) (hi:i<l.length+1) (hj:j<5):VLe (fapp (shiftF 0 (vKs l)) n (shiftF 0 F) i j) (vKs (l++[a]) i j):=by
 subst hn;apply VLe.of_eq;rw[vKs,gT_snoc l a i hi];by_cases h:i<l.length
 . rw[fapp_lt h,shiftF_eq,Nat.zero_add,if_pos h];rfl
 . rw[fapp_ge h,if_neg h];have:i=l.length:=by omega
   subst this;simp only[shiftF_eq,Nat.zero_add,Nat.sub_self];exact hF j hj
theorem five_cnt (k:Cnt) (F:Nat->Nat->V) (h0:F 0 0=.int .i64 k.steps) (h1:F 0 1=.int .i64 k.moves) (h2:F 0 2=.int .i64 k.rounds) (h3:F 0 3=.int .i64 k.begun) (h4:F 0 4=.int .u32 k.pend):∀j,j<5->F 0 j=cntF k j:=fun j hj=>by
 rcases (show j=0\/j=1\/j=2\/j=3\/j=4 by omega) with rfl|rfl|rfl|rfl|rfl
 . exact h0
 . exact h1
 . exact h2
 . exact h3
 . exact h4
theorem vle_e0 {X:V} {F:Nat->Nat->V} (h:F 0 0=X) (i j:Nat) (hi:i<1) (hj:j<1):VLe (shiftF 0 (tab [[X]]) i j) (F i j):=by
 obtain rfl:i=0:=by omega
 obtain rfl:j=0:=by omega
 rw[h];exact VLe.rfl
theorem vle_k0 {k:Cnt} {F:Nat->Nat->V} (h:∀j,F 0 j=cntF k j) (i j:Nat) (hi:i<1) (hj:j<5):VLe (shiftF 0 (tab [[.int .i64 k.steps,.int .i64 k.moves,.int .i64 k.rounds,.int .i64 k.begun,.int .u32 k.pend]]) i j) (F i j):=by
 obtain rfl:i=0:=by omega
 rw[h];rcases (show j=0\/j=1\/j=2\/j=3\/j=4 by omega) with rfl|rfl|rfl|rfl|rfl<;>exact VLe.rfl
theorem runV_end (L:List (Cf×Cnt)) (n:Nat) (hn:n=L.length):VLe (V.tup [.fz n 1 false (shiftF 0 (vCfs L)),.fz n 5 false (shiftF 0 (vKs L)),.int .i64 0]) (runV L):=by
 subst hn;refine VLe.tup ⟨VLe.fz rfl (fun h=>h) (fun i j _ _=>VLe.of_eq (by rw[shiftF_eq,Nat.zero_add])),VLe.fz rfl (fun h=>h) (fun i j _ _=>VLe.of_eq (by rw[shiftF_eq,Nat.zero_add])),VLe.rfl,True.intro⟩
set_option maxHeartbeats 16000000 in
theorem watch_ok (p:Pr) (hp:PrOk p) (g:G) (hs:g.Small) (hg:g.valid=true) (k:Int) (hk:dk k=true) (c:Cf) (hc:Conf p g c) (ws:List Nat) (hwl:ws.length<=1000) (hw:∀w∈ws,w<4294967296) :
 RG 26 [p.v,g.v,.int .i64 k,cV c,.fz ws.length 1 false (vU7 ws)] (runV (trc p g k c (cnt0 (enN p g c)) ws)):=by
 obtain⟨f1,f2,f3,f4,f5,f6,f7⟩:=val_facts hg;have hcl:=hc.len;have hvl:=hp.vlen;have h1:=rcheck_ok p hp g hs hg c hc k hk ws.length (by omega);have h2:=mover_ok p hp g hg;have h3:=newnet_ok g hs hg;have h4:=all_ok g hg;have h5:=copyR_ok c (by omega) (fun v hv=>by have:=hc.row v hv;omega);have h6:=men_ok p hp g hg c hc;have h7:=begin_ok (enN p g c) (en_24 p hg c);have ha:=en_and p hg c;refine ret_frzG2 rfl ?_;refine fn_rule mixed Tryz.func26 rfl hc26 hr26 rfl ?_
 repeat' ((conv=>whnf);first|(refine Sv.mk _ ha.symm ?_)|(refine Br.ff ?_)|(refine Len.mk (by omega) ?_)|(refine h1.go ?_)|(refine h2.go ?_)|(refine h3.go ?_)|(refine h4.go ?_)|(refine h5.go ?_)|(refine h6.go ?_)|(refine h7.go ?_)|(refine fn_rule mixed Tryz.func22 rfl hc22 hr22 rfl ?_)|(refine fn_rule mixed Tryz.func24 rfl hc24 hr24 rfl ?_)|(refine fn_rule mixed Tryz.func47 rfl hc47 hr47 rfl ?_)|(refine fn_rule mixed Tryz.func54 rfl hc54 hr54 rfl ?_)|(refine Chk.mk (by kernel_rfl) ?_)|(refine And.intro rfl ?_))
 all_goals (conv=>whnf)
 refine loop_w mixed [3,4,8,10,12,39] [17,19,21,22] [23,24,25,26,27,28,29,30,31,32,33,34,35,36,37,38,39,40,41,42,43,44,45,46,47,48,49,50,51,52,53,54,55,56,57,58,59] [22,21,19,17,14,13,12,11,10,9,8,3,2,999] (fun x:RunS=>[(1,cV x.c),(11,.int .u32 (enN p g x.c:Nat)),(40,.int .i64 x.ch.length)]) (fun x=>[(22,.vec x.ch.length 1 (vU7 x.ch)),(21,.vec x.en.length 1 (vU7 x.en)),(19,.vec (x.pre.length+1) 5 (vKs (x.pre++[(x.c,x.n)]))),(17,.vec (x.pre.length+1) 1 (vCfs (x.pre++[(x.c,x.n)]))),(14,.cells (cntC x.n)),(13,.cells [.vec 22 1 0 x.ch.length,.vec 21 1 0 x.en.length,.nilslice,.int .i64 0,.int .i64 0,.int .i64 0,.int .i64 0,.int .u32 0]),(12,.cells [.nilslice,.nilslice,.nilslice,.int .i64 0,.int .i64 0,.int .i64 0,.int .i64 0,.int .u32 0]),(11,.cells [mvP p g,.fz g.ports.length 1 false (vNet g),.int .i64 k,.int .u32 (full g.ids.length:Nat),.fn (.func 54) false [.loc 2 0,.loc 3 0]]),(10,.cells [.nilslice,.nilslice,.nilslice,.int .i64 0,.int .i64 0,.int .i64 0,.int .i64 0,.int .u32 0]),(9,.cells [.fz ws.length 1 false (vU7 ws)]),(8,.cells [mvP p g,.fz g.ports.length 1 false (vNet g),.int .i64 k,.int .u32 (full g.ids.length:Nat),.fn (.func 54) false [.loc 2 0,.loc 3 0]]),(3,.cells [.vec 19 5 0 (x.pre.length+1)]),(2,.cells [.vec 17 1 0 (x.pre.length+1)]),(999,GB)]) (fun m x=>m=ws.length-x.ch.length/\RunI p g k c (cnt0 (enN p g c)) ws x) ws.length ⟨c,cnt0 (enN p g c),[],[],[enN p g c]⟩ ⟨rfl,run_start hg hc ws⟩ rfl (fun _=>rfl) ?_ ?_
 . refine weak_by (fun _ _=>[(14,some 14),(13,some 13),(12,some 12),(11,some 11),(10,some 10),(9,some 9),(8,some 8),(3,some 3),(2,some 2),(999,some 999),(17,some 17),(19,some 19),(21,some 21),(22,none)]) ?_ ?_ rfl
   . repeat' (first|exact True.intro|(refine VRen.fn ?_)|(refine⟨⟨_,rfl,?_⟩,?_⟩)|exact VRen.kf rfl|exact VRen.loc rfl|(refine And.intro ?_ ?_))
   . repeat' (first|exact vle_e0 (by rfl) _ _ hi hj|exact vle_k0 (k:=cnt0 (enN p g c)) (fun _=>by rfl) _ _ hi hj|exact True.intro|(refine VRen.fn ?_)|exact⟨rfl,rfl,rfl⟩|(refine⟨⟨_,rfl,?_⟩,?_⟩)|exact VRen.kf rfl|exact VRen.loc rfl|exact VRen.vec rfl rfl rfl|exact VRen.nil rfl rfl|(refine⟨Nat.le_refl _,rfl,fun i j hi hj=>?_⟩)|(refine⟨⟨_,_,rfl⟩,?_⟩)|(refine And.intro ?_ ?_))
 rintro m x ⟨hm,hx⟩;clear h5 h6 h7 ha;have hcx:=hx.conf;have hlx:=hcx.len;have hpl:=hx.pl;have hel:=hx.el;have hle:=hx.le;by_cases hi:x.ch.length<ws.length
 . have hwb:ws.getD x.ch.length 0<4294967296:=hw _ (by rw[List.getD_eq_getElem?_getD,List.getElem?_eq_getElem hi];exact List.getElem_mem hi);have hrs:=nresolve_ok g hg k (enN p g x.c) (ws.getD x.ch.length 0) (en_32 p hg x.c) hwb (en_part p hg x.c);change RG _ _ (.int .u32 (chC p g k x.c (ws.getD x.ch.length 0):Nat)) at hrs;by_cases h0:enN p g x.c=0
   . obtain⟨e1,e2⟩:=run_end hx (.inr h0);rw[e1]
     repeat' ((conv=>whnf);first|(refine Br.ff ?_)|(refine Br.dec ?_ ?_<;>intro _<;>try omega)|(refine Br.bne ?_ ?_<;>intro _<;>try omega)|(refine Ix.nat (by omega) ?_)|(refine Len.mk (by omega) ?_)|(refine hrs.gog ?_)|(refine fn_rule mixed Tryz.func48 rfl hc48 hr48 rfl ?_)|(refine Chk.mk (by kernel_rfl) ?_)|(refine And.intro rfl ?_))
     all_goals (conv=>whnf)
     all_goals exact runV_end _ _ (by simp)
   . have hnx:=run_next hp hg hk (by omega) hx hi h0;obtain⟨c1,c2,c3,c4,c5,c6⟩:=ch_facts p hg hk x.c (ws.getD x.ch.length 0) h0;have hcn:=nx_conf hp hg hk hcx (ws.getD x.ch.length 0) h0;have hpm:=npermits_ok g hg k (enN p g x.c) (chC p g k x.c (ws.getD x.ch.length 0)) (en_32 p hg x.c) (by omega) (en_part p hg x.c);have hin:inner g k (enN p g x.c) (chC p g k x.c (ws.getD x.ch.length 0))=true:=rs_inner hg hk (en_32 p hg x.c) (en_part p hg x.c) h0;rw[hin] at hpm;have hst:=mstep_ok p hp g hg x.c hcx (chC p g k x.c (ws.getD x.ch.length 0)) (by omega) (fun v hv hb=>by have:=c2 v hb;rw[en_bit,Bool.and_eq_true,decide_eq_true_eq,decide_eq_true_eq] at this;exact this.2);change Ret _ _ _ (cV (nxC p g k x.c (ws.getD x.ch.length 0))) at hst;have hen:=men_ok p hp g hg _ hcn;have ha:=en_and p hg (nxC p g k x.c (ws.getD x.ch.length 0));have hcp:=copyR_ok (nxC p g k x.c (ws.getD x.ch.length 0)) (by rw[hcn.len];omega) (fun v hv=>by have:=hcn.row v hv;omega);have had:=add_ok x.n hx.ok (by have:=hx.steps;omega) (chC p g k x.c (ws.getD x.ch.length 0)) (enN p g (nxC p g k x.c (ws.getD x.ch.length 0))) c1 c4 (en_24 p hg _);change Ret _ _ _ (.tup [(nxK p g k x.c x.n (ws.getD x.ch.length 0)).v,.int .i64 0]) at had;generalize nxK p g k x.c x.n (ws.getD x.ch.length 0)=n' at *;generalize nxC p g k x.c (ws.getD x.ch.length 0)=c' at *;generalize chC p g k x.c (ws.getD x.ch.length 0)=s at *;have e1:=en_32 p hg x.c
     repeat' ((conv=>whnf);first|(refine Sv.mk _ ha.symm ?_)|(refine Br.tt ?_)|(refine Br.dec ?_ ?_<;>intro _<;>try omega)|(refine Br.bne ?_ ?_<;>intro _<;>try omega)|(refine Br.nbeq ?_ ?_<;>intro _<;>try omega)|(refine Ar.i64 (by omega) (by omega) ?_)|(refine Ix.nat (by omega) ?_)|(refine Len.mk (by omega) ?_)|(refine hrs.gog ?_)|(refine hpm.gog ?_)|(refine hst.go ?_)|(refine hen.go ?_)|(refine hcp.go ?_)|(refine had.go ?_)|(refine fn_rule mixed Tryz.func54 rfl hc54 hr54 rfl ?_)|(refine fn_rule mixed Tryz.func48 rfl hc48 hr48 rfl ?_)|(refine Chk.mk (by kernel_rfl) ?_)|(refine And.intro rfl ?_))
     all_goals (conv=>whnf)
     refine⟨_,_,?_,⟨rfl,hnx⟩,?_⟩
     . simp only[List.length_append,List.length_singleton];omega
     . refine weak_by (fun env own=>[(14,some 14),(13,some 13),(12,some 12),(11,some 11),(10,some 10),(9,some 9),(8,some 8),(3,some 3),(2,some 2),(999,some 999),(17,ckeyo own 2 0),(19,ckeyo own 3 0),(21,ckeyo own 13 1),(22,ckeyo own 13 0)]) ?_ ?_ rfl
       . repeat' (first|exact VRen.int (by simp only[List.length_append,List.length_singleton]<;>omega)|exact True.intro|(refine VRen.fn ?_)|(refine⟨⟨_,rfl,?_⟩,?_⟩)|exact VRen.kf rfl|exact VRen.loc rfl|(refine And.intro ?_ ?_))
       . repeat' (first|exact VRen.vec rfl rfl (by simp only[List.length_append,List.length_singleton]<;>omega)|(refine⟨by simp only[List.length_append,List.length_singleton]<;>omega,rfl,fun i j hi hj=>?_⟩)|exact VRen.int (by simp only[List.length_append,List.length_singleton]<;>omega)|exact vle_appU7 _ _ _ _ (by rfl) (by rfl) _ _ hi hj|exact vle_appCf _ _ _ (by rfl) _ _ _ (by simp) hi hj|exact vle_appCnt _ _ _ (five_cnt _ _ (by rfl) (by rfl) (by rfl) (by rfl) (by rfl)) _ _ _ (by simp) hi hj|exact True.intro|(refine VRen.fn ?_)|exact⟨rfl,rfl,rfl⟩|(refine⟨⟨_,rfl,?_⟩,?_⟩)|exact VRen.kf rfl|exact VRen.loc rfl|(refine And.intro ?_ ?_))
 . obtain⟨e1,e2⟩:=run_end hx (.inl (by omega));rw[e1]
   repeat' ((conv=>whnf);first|(refine Br.ff ?_)|(refine Br.dec ?_ ?_<;>intro _<;>try omega)|(refine Len.mk (by omega) ?_)|(refine And.intro rfl ?_))
   all_goals (conv=>whnf)
   all_goals exact runV_end _ _ (by simp)
theorem wrun_ok (t:ByteArray) (p:Pr) (hp:PrOk p) (hpr:Ret Tryz.prog 7 [.str t] p.v) (g:G) (hs:g.Small) (hg:g.valid=true) (k:Int) (hk:dk k=true) (c:Cf) (hc:Conf p g c) (ws:List Nat) (hwl:ws.length<=1000) (hw:∀w∈ws,w<4294967296) :
 RG 10 [.str t,g.v,.int .i64 k,cV c,.fz ws.length 1 false (vU7 ws)] (.tup [.fz (trc p g k c (cnt0 (enN p g c)) ws).length 1 false (vCfs (trc p g k c (cnt0 (enN p g c)) ws)),.fz (trc p g k c (cnt0 (enN p g c)) ws).length 5 false (vKs (trc p g k c (cnt0 (enN p g c)) ws)),.bool true]):=by
 have h1:=watch_ok p hp g hs hg k hk c hc ws hwl hw;have h2:=trc_ne p g k c (cnt0 (enN p g c)) ws;have h3:=trc_len p g k ws c (cnt0 (enN p g c));rw[runV] at h1;generalize trc p g k c (cnt0 (enN p g c)) ws=L at *;refine ret_frzG rfl ?_;refine fn_rule mixed Tryz.func10 rfl hc10 hr10 rfl ?_
 repeat' ((conv=>whnf);first|(refine Br.tt ?_)|(refine Br.dec ?_ ?_<;>intro _<;>try omega)|(refine h1.gog ?_)|(refine hpr.go ?_)|(refine And.intro rfl ?_))
 all_goals (conv=>whnf)
 all_goals exact VLe.rfl
def trcV (ch en:List Nat) (c:Cf) (n:Cnt):V:=.agg [.fz ch.length 1 false (vU7 ch),.fz en.length 1 false (vU7 en),cV c,.int .i64 n.steps,.int .i64 n.moves,.int .i64 n.rounds,.int .i64 n.begun,.int .u32 n.pend]
structure FolI (p:Pr) (g:G) (k:Int) (c0:Cf) (n0:Cnt) (ws:List Nat) (x:RunS):Prop where
 run:RunI p g k c0 n0 ws x
 ens:x.en=x.pre.map (fun y=>enN p g y.1)++[enN p g x.c]
theorem lastOf {p:Pr} {g:G} {k:Int} {c0:Cf} {n0:Cnt} {ws:List Nat} {x:RunS} (h:trc p g k c0 n0 ws=x.pre++[(x.c,x.n)]):lastC (trc p g k c0 n0 ws)=x.c:=by
 rw[h];simp[lastC]
theorem lastK {p:Pr} {g:G} {k:Int} {c0:Cf} {n0:Cnt} {ws:List Nat} {x:RunS} (h:trc p g k c0 n0 ws=x.pre++[(x.c,x.n)]):((trc p g k c0 n0 ws).getLast?.getD default).2=x.n:=by
 rw[h];simp
def ensL (p:Pr) (g:G) (L:List (Cf×Cnt)):List Nat:=L.map fun x=>enN p g x.1
def folV (p:Pr) (g:G) (k:Int) (c:Cf) (n:Cnt) (ws:List Nat):V:=trcV (chsL p g k c ws) (ensL p g (trc p g k c n ws)) (lastC (trc p g k c n ws)) ((trc p g k c n ws).getLast?.getD default).2
set_option maxHeartbeats 16000000 in
theorem follow_ok (p:Pr) (hp:PrOk p) (g:G) (hs:g.Small) (hg:g.valid=true) (k:Int) (hk:dk k=true) (c:Cf) (hc:Conf p g c) (ws:List Nat) (hwl:ws.length<=1000) (hw:∀w∈ws,w<4294967296) :
 RG 6 [p.v,g.v,.int .i64 k,cV c,.fz ws.length 1 false (vU7 ws)] (.tup [folV p g k c (cnt0 (enN p g c)) ws,.int .i64 0]):=by
 obtain⟨f1,f2,f3,f4,f5,f6,f7⟩:=val_facts hg;have hcl:=hc.len;have hvl:=hp.vlen;have h1:=rcheck_ok p hp g hs hg c hc k hk ws.length (by omega);have h2:=mover_ok p hp g hg;have h3:=newnet_ok g hs hg;have h4:=all_ok g hg;have h5:=copyR_ok c (by omega) (fun v hv=>by have:=hc.row v hv;omega);have h6:=men_ok p hp g hg c hc;have h7:=begin_ok (enN p g c) (en_24 p hg c);have ha:=en_and p hg c;refine ret_frzG2 rfl ?_;refine fn_rule mixed Tryz.func6 rfl hc6 hr6 rfl ?_
 repeat' ((conv=>whnf);first|(refine Sv.mk _ ha.symm ?_)|(refine Br.ff ?_)|(refine Len.mk (by omega) ?_)|(refine h1.go ?_)|(refine h2.go ?_)|(refine h3.go ?_)|(refine h4.go ?_)|(refine h5.go ?_)|(refine h6.go ?_)|(refine h7.go ?_)|(refine fn_rule mixed Tryz.func22 rfl hc22 hr22 rfl ?_)|(refine fn_rule mixed Tryz.func24 rfl hc24 hr24 rfl ?_)|(refine fn_rule mixed Tryz.func47 rfl hc47 hr47 rfl ?_)|(refine fn_rule mixed Tryz.func23 rfl hc23 hr23 rfl ?_)|(refine Chk.mk (by kernel_rfl) ?_)|(refine And.intro rfl ?_))
 all_goals (conv=>whnf)
 refine loop_w mixed [3,4,8,10,12,39] [15,16] [17,18,19,20,21,22,23,24,25,26,27,28,29,30,31,32,33,34,35,36,37,38,39,40,41,42,43,44,45,46,47,48,49,50,51,52,53,54,55,56,57,58,59] [16,15,12,11,10,9,8,7,6,2,999] (fun x:RunS=>[(1,cV x.c),(11,.int .u32 (enN p g x.c:Nat)),(40,.int .i64 x.ch.length)]) (fun x=>[(16,.vec x.ch.length 1 (vU7 x.ch)),(15,.vec x.en.length 1 (vU7 x.en)),(12,.cells (cntC x.n)),(11,.cells [.vec 16 1 0 x.ch.length,.vec 15 1 0 x.en.length,.nilslice,.int .i64 0,.int .i64 0,.int .i64 0,.int .i64 0,.int .u32 0]),(10,.cells [.nilslice,.nilslice,.nilslice,.int .i64 0,.int .i64 0,.int .i64 0,.int .i64 0,.int .u32 0]),(9,.cells [mvP p g,.fz g.ports.length 1 false (vNet g),.int .i64 k,.int .u32 (full g.ids.length:Nat),.fn (.func 23) false []]),(8,.cells [.nilslice,.nilslice,.nilslice,.int .i64 0,.int .i64 0,.int .i64 0,.int .i64 0,.int .u32 0]),(7,.cells [.fz ws.length 1 false (vU7 ws)]),(6,.cells [mvP p g,.fz g.ports.length 1 false (vNet g),.int .i64 k,.int .u32 (full g.ids.length:Nat),.fn (.func 23) false []]),(2,.cells [.nilslice,.nilslice,.nilslice,.int .i64 0,.int .i64 0,.int .i64 0,.int .i64 0,.int .u32 0]),(999,GB)]) (fun m x=>m=ws.length-x.ch.length/\FolI p g k c (cnt0 (enN p g c)) ws x) ws.length ⟨c,cnt0 (enN p g c),[],[],[enN p g c]⟩ ⟨rfl,run_start hg hc ws,rfl⟩ rfl (fun _=>rfl) ?_ ?_
 . refine weak_by (fun _ _=>[(12,some 12),(11,some 11),(10,some 10),(9,some 9),(8,some 8),(7,some 7),(6,some 6),(2,some 2),(999,some 999),(15,some 15),(16,none)]) ?_ ?_ rfl
   . repeat' (first|exact True.intro|(refine VRen.fn ?_)|(refine⟨⟨_,rfl,?_⟩,?_⟩)|exact VRen.kf rfl|exact VRen.loc rfl|(refine And.intro ?_ ?_))
   . repeat' (first|exact vle_e0 (by rfl) _ _ hi hj|exact True.intro|(refine VRen.fn ?_)|exact⟨rfl,rfl,rfl⟩|(refine⟨⟨_,rfl,?_⟩,?_⟩)|exact VRen.kf rfl|exact VRen.vec rfl rfl rfl|exact VRen.nil rfl rfl|(refine⟨Nat.le_refl _,rfl,fun i j hi hj=>?_⟩)|(refine⟨⟨_,_,rfl⟩,?_⟩)|(refine And.intro ?_ ?_))
 rintro m x ⟨hm,hf⟩;obtain⟨hx,hens⟩:=hf;clear h5 h6 h7 ha;have hcx:=hx.conf;have hlx:=hcx.len;have hpl:=hx.pl;have hel:=hx.el;have hle:=hx.le;have fin:∀(h:x.ch.length=ws.length\/enN p g x.c=0),VLe (V.tup [.agg [.fz x.ch.length 1 false (shiftF 0 (vU7 x.ch)),.fz x.en.length 1 false (shiftF 0 (vU7 x.en)),cV x.c,.int .i64 x.n.steps,.int .i64 x.n.moves,.int .i64 x.n.rounds,.int .i64 x.n.begun,.int .u32 x.n.pend],.int .i64 0]) (.tup [folV p g k c (cnt0 (enN p g c)) ws,.int .i64 0]):=fun h=>by
  obtain⟨e1,e2⟩:=run_end hx h;rw[folV,lastOf e1,lastK e1,e2,e1,ensL,List.map_append,List.map_singleton,<- hens,trcV];refine VLe.tup ⟨VLe.agg ⟨VLe.fz rfl (fun h=>h) (fun i j _ _=>VLe.of_eq (by rw[shiftF_eq,Nat.zero_add])),VLe.fz rfl (fun h=>h) (fun i j _ _=>VLe.of_eq (by rw[shiftF_eq,Nat.zero_add])),VLe.rfl,VLe.rfl,VLe.rfl,VLe.rfl,VLe.rfl,VLe.rfl,True.intro⟩,VLe.rfl,True.intro⟩
 by_cases hi:x.ch.length<ws.length
 . have hwb:ws.getD x.ch.length 0<4294967296:=hw _ (by rw[List.getD_eq_getElem?_getD,List.getElem?_eq_getElem hi];exact List.getElem_mem hi);have hrs:=nresolve_ok g hg k (enN p g x.c) (ws.getD x.ch.length 0) (en_32 p hg x.c) hwb (en_part p hg x.c);change RG _ _ (.int .u32 (chC p g k x.c (ws.getD x.ch.length 0):Nat)) at hrs;by_cases h0:enN p g x.c=0
   . repeat' ((conv=>whnf);first|(refine Br.ff ?_)|(refine Br.dec ?_ ?_<;>intro _<;>try omega)|(refine Br.bne ?_ ?_<;>intro _<;>try omega)|(refine Ix.nat (by omega) ?_)|(refine Len.mk (by omega) ?_)|(refine hrs.gog ?_)|(refine fn_rule mixed Tryz.func48 rfl hc48 hr48 rfl ?_)|(refine Chk.mk (by kernel_rfl) ?_)|(refine And.intro rfl ?_))
     all_goals (conv=>whnf)
     all_goals exact fin (.inr h0)
   . have hnx:=run_next hp hg hk (by omega) hx hi h0;have hens':x.en++[enN p g (nxC p g k x.c (ws.getD x.ch.length 0))]=(x.pre++[(x.c,x.n)]).map (fun y=>enN p g y.1)++[enN p g (nxC p g k x.c (ws.getD x.ch.length 0))]:=by rw[hens];simp
     obtain⟨c1,c2,c3,c4,c5,c6⟩:=ch_facts p hg hk x.c (ws.getD x.ch.length 0) h0;have hcn:=nx_conf hp hg hk hcx (ws.getD x.ch.length 0) h0;have hpm:=npermits_ok g hg k (enN p g x.c) (chC p g k x.c (ws.getD x.ch.length 0)) (en_32 p hg x.c) (by omega) (en_part p hg x.c);have hin:inner g k (enN p g x.c) (chC p g k x.c (ws.getD x.ch.length 0))=true:=rs_inner hg hk (en_32 p hg x.c) (en_part p hg x.c) h0;rw[hin] at hpm;have hst:=mstep_ok p hp g hg x.c hcx (chC p g k x.c (ws.getD x.ch.length 0)) (by omega) (fun v hv hb=>by have:=c2 v hb;rw[en_bit,Bool.and_eq_true,decide_eq_true_eq,decide_eq_true_eq] at this;exact this.2);change Ret _ _ _ (cV (nxC p g k x.c (ws.getD x.ch.length 0))) at hst;have hen:=men_ok p hp g hg _ hcn;have ha:=en_and p hg (nxC p g k x.c (ws.getD x.ch.length 0));have had:=add_ok x.n hx.ok (by have:=hx.steps;omega) (chC p g k x.c (ws.getD x.ch.length 0)) (enN p g (nxC p g k x.c (ws.getD x.ch.length 0))) c1 c4 (en_24 p hg _);change Ret _ _ _ (.tup [(nxK p g k x.c x.n (ws.getD x.ch.length 0)).v,.int .i64 0]) at had;generalize nxK p g k x.c x.n (ws.getD x.ch.length 0)=n' at *;generalize nxC p g k x.c (ws.getD x.ch.length 0)=c' at *;generalize chC p g k x.c (ws.getD x.ch.length 0)=s at *;have e1:=en_32 p hg x.c
     repeat' ((conv=>whnf);first|(refine Sv.mk _ ha.symm ?_)|(refine Br.tt ?_)|(refine Br.dec ?_ ?_<;>intro _<;>try omega)|(refine Br.bne ?_ ?_<;>intro _<;>try omega)|(refine Br.nbeq ?_ ?_<;>intro _<;>try omega)|(refine Ar.i64 (by omega) (by omega) ?_)|(refine Ix.nat (by omega) ?_)|(refine Len.mk (by omega) ?_)|(refine hrs.gog ?_)|(refine hpm.gog ?_)|(refine hst.go ?_)|(refine hen.go ?_)|(refine had.go ?_)|(refine fn_rule mixed Tryz.func23 rfl hc23 hr23 rfl ?_)|(refine fn_rule mixed Tryz.func48 rfl hc48 hr48 rfl ?_)|(refine Chk.mk (by kernel_rfl) ?_)|(refine And.intro rfl ?_))
     all_goals (conv=>whnf)
     refine⟨_,_,?_,⟨rfl,hnx,hens'⟩,?_⟩
     . simp only[List.length_append,List.length_singleton];omega
     . refine weak_by (fun env own=>[(12,some 12),(11,some 11),(10,some 10),(9,some 9),(8,some 8),(7,some 7),(6,some 6),(2,some 2),(999,some 999),(15,ckeyo own 11 1),(16,ckeyo own 11 0)]) ?_ ?_ rfl
       . repeat' (first|exact VRen.int (by simp only[List.length_append,List.length_singleton]<;>omega)|exact True.intro|(refine VRen.fn ?_)|(refine⟨⟨_,rfl,?_⟩,?_⟩)|exact VRen.kf rfl|exact VRen.loc rfl|(refine And.intro ?_ ?_))
       . repeat' (first|exact VRen.vec rfl rfl (by simp only[List.length_append,List.length_singleton]<;>omega)|(refine⟨by simp only[List.length_append,List.length_singleton]<;>omega,rfl,fun i j hi hj=>?_⟩)|exact VRen.int (by simp only[List.length_append,List.length_singleton]<;>omega)|exact vle_appU7 _ _ _ _ (by rfl) (by rfl) _ _ hi hj|exact True.intro|(refine VRen.fn ?_)|exact⟨rfl,rfl,rfl⟩|(refine⟨⟨_,rfl,?_⟩,?_⟩)|exact VRen.kf rfl|(refine And.intro ?_ ?_))
 . repeat' ((conv=>whnf);first|(refine Br.dec ?_ ?_<;>intro _<;>try omega)|(refine Len.mk (by omega) ?_)|(refine And.intro rfl ?_))
   all_goals (conv=>whnf)
   all_goals exact fin (.inl (by omega))
end Go.Proofs.YtpoplpohbpfbmaaGreatDoor
