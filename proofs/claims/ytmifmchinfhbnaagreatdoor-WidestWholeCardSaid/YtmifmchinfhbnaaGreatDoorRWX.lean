import Derived.Test.YtmifmchinfhbnaaGreatDoorTabB
import Derived.KernelRfl
import Derived.Test.YtmifmchinfhbnaaGreatDoorEvB
import Derived.Test.YtmifmchinfhbnaaGreatDoorAN1
import Derived.Test.YtmifmchinfhbnaaGreatDoorEvG
import Derived.Test.YtmifmchinfhbnaaGreatDoorWXL
import Derived.Test.YtmifmchinfhbnaaGreatDoorWX3
namespace Go.Proofs.YtmifmchinfhbnaaGreatDoor
open Go.Eng
set_option maxRecDepth 100000
theorem X1o:evX tp 10000 100 20 [Q0q]=some X6Z:=by kernel_rfl
end Go.Proofs.YtmifmchinfhbnaaGreatDoor
namespace Go.Proofs.YtmifmchinfhbnaaGreatDoor
open Go.Eng
set_option maxRecDepth 100000
set_option linter.unusedVariables false
theorem X0z {P:Program} {f:FuncId} {args args':List V} {X:V} (hk:J2L V.kf args'=true) (hl:LLe args' args) (h:Ret P f args X):Ret P f args' X:=fun own ks=>by
 constructor;intro M w σ us hlen hd hh;obtain⟨d1,d2⟩:=hl.dens (M:=M) (w:=w) (us:=us) hlen (fun i v u hv hu=>(hd i v u hv hu).kf (J0t hk v (List.mem_of_getElem? hv)) Sg.none);exact(h own ks).out M w σ us d1 (fun i v u hv hu=>(d2 i v u hv hu).mono (Ext.mk (fun _ _ h=>⟨h,rfl⟩) (Nat.le_refl _)) (Sg.none_le σ)) hh
theorem X4l {P:Program} {f:FuncId} {args:List V} {X X':V} (hk:X.kf=true) (hl:VLe X X') (h:Ret P f args X):Ret P f args X':=fun own ks=>by
 constructor;intro M w σ us hlen hd hh;refine((h own ks).out M w σ us hlen hd hh).mono ?_;rintro e w' ⟨M',σ',v,own',ks',u,rfl,hv,hh',tr,kd,rfl,rfl,rfl⟩;exact⟨M',σ',X',_,_,u,rfl,(hl.out _ _ _ (hv.kf hk Sg.none)).mono (Ext.mk (fun _ _ h=>⟨h,rfl⟩) (Nat.le_refl _)) (Sg.none_le σ'),hh',tr,kd,rfl,rfl,rfl⟩
def Q5S:Nat->(Nat->Prop)->Prop
 | 0,_=>True
 | n+1,P=>P 0/\Q5S n fun i=>P (i+1)
theorem Q5S.out:∀{n:Nat} {P:Nat->Prop},Q5S n P->∀i,i<n->P i
 | n+1,P,h,0,_=>h.1
 | n+1,P,h,i+1,hi=>Q5S.out h.2 i (by omega)
theorem Q6d {n s:Nat} {f g:Nat->Nat->V} (h:Q5S n fun i=>Q5S s fun j=>VLe (f i j) (g i j)):VLe (.fz n s false f) (.fz n s false g) :=
 VLe.fz rfl (fun h=>h) fun i j hi hj=>(h.out i hi).out j hj
theorem Q6b {a b:ByteArray} (h:a=b):VLe (.str a) (.str b):=by subst h;exact .rfl
theorem Q9R:VLe J0q.v Q29.v:=by
 repeat' (first|exact True.intro|exact VLe.rfl|exact Q6b (by kernel_rfl)|(refine VLe.agg ?_)|(refine Q6d ?_)|(refine And.intro ?_ ?_))
theorem X2b:VLe Q29.v J0q.v:=by
 repeat' (first|exact True.intro|exact VLe.rfl|exact Q6b (by kernel_rfl)|(refine VLe.agg ?_)|(refine Q6d ?_)|(refine And.intro ?_ ?_))
theorem Q4Z:Ret Tryz.prog 56 [J0q.v] (.int .i64 0):=by
 have h:=J7o J0b X6G Q4q;exact X0z (args:=[Q29.v]) rfl ⟨Q9R,True.intro⟩ (by simpa only[C.vs,C.v] using h)
theorem Q57:Ret Tryz.prog 66 [J0q.v] (.bool true):=by
 refine J0h rfl ?_;refine J0d J0b Tryz.func66 rfl hc66 hr66 rfl ?_
 repeat' ((conv=>whnf);first|(refine Br.tt ?_)|(refine Q4Z.go ?_))
 all_goals (conv=>whnf)
 exact VLe.rfl
def X6b:ByteArray:=match Q0q with | .str l c=>J0r l c|_=>default
theorem X3Z:Ret Tryz.prog 6 [] (.str X6b):=by
 have:=J7o J0b Q6x X5i;simpa only[C.vs,C.v,Q0q,X6b] using this
theorem X0G:Ret Tryz.prog 20 [.str X6b] (.tup [Q29.v,.int .i64 0,.int .i64 0]):=by
 have:=J7o J0b X8T X1o;simpa only[C.vs,C.v,Q0q,X6b,X6Z] using this
theorem Q7f:Ret Tryz.prog 20 [.str X6b] (.tup [J0q.v,.int .i64 0,.int .i64 0]) :=
 X4l (X:=.tup [Q29.v,.int .i64 0,.int .i64 0]) rfl (VLe.tup ⟨X2b,VLe.rfl,VLe.rfl,True.intro⟩) X0G
theorem Q5i:Ret Tryz.prog 5 [.str X6b] J0q.v:=by
 refine J0h rfl ?_;refine J0d J0b Tryz.func5 rfl hc5 hr5 rfl ?_
 repeat' ((conv=>whnf);first|(refine Q7f.go ?_))
 all_goals (conv=>whnf)
 exact VLe.rfl
theorem J8Z:J2M J0q where
 vlen:=by decide
 var:=fun i hi=>by
  rcases (show i=0\/i=1 by have:i<2:=hi;omega) with rfl|rfl
  . exact⟨.inl rfl,by decide,by decide,by decide,by decide,by decide⟩
  . exact⟨.inr (.inr rfl),by decide,by decide,by decide,by decide,by decide⟩
 rlen:=by decide
 gd:=fun i hi=>by
  rcases (show i=0\/i=1 by have:i<2:=hi;omega) with rfl|rfl
  all_goals decide +kernel
 slen:=fun i hi=>by
  rcases (show i=0\/i=1 by have:i<2:=hi;omega) with rfl|rfl
  all_goals decide
 set:=fun i hi j hj=>by
  rcases (show i=0\/i=1 by have:i<2:=hi;omega) with rfl|rfl
  . rcases (show j=0\/j=1 by have:j<2:=hj;omega) with rfl|rfl<;>decide +kernel
  . rcases (show j=0\/j=1 by have:j<2:=hj;omega) with rfl|rfl<;>decide +kernel
 types:=Q57
theorem Q5k (e f:Nat) (he:e<4294967296):J04 e e &&& f=0:=by
 apply Nat.eq_of_testBit_eq;intro i;rw[Nat.testBit_and,Nat.zero_testBit];by_cases h:i<32
 . rw[J03 h];cases e.testBit i<;>simp
 . have:(J04 e e).testBit i=false:=by
    have h1:J04 e e<4294967296:=Nat.lt_of_le_of_lt Nat.and_le_left he;exact J06 h1 (by omega)
   rw[this];rfl
theorem X2o {g:G} (h:g.conn=true):∀(ws:List Nat) (c:Cf) (n:Cnt),J1G J0q g c->n.Ok->n.steps+ws.length<=4096->n.pend=enN J0q g c->(¬ TrX g c->XIn g c n)->mxV g+1<=(n.rounds:Int)+ws.length->TrX g (J4B (trc J0q g 4 c n ws))
 | [],c,n,hc,hn,hs,hp,hi,hr=>by
   have:TrX g c:=Classical.byContradiction fun q=>by
    have:=(hi q).hr;simp only[List.length_nil] at hr;omega
   exact this
 | w::ws,c,n,hc,hn,hs,hp,hi,hr=>by
   obtain⟨hg,_⟩:=J0o h;rw[trc];by_cases h0:enN J0q g c=0
   . rw[if_pos h0];show TrX g c;exact(J6t h hc).1 h0
   . rw[if_neg h0];have hne:=X6D J0q g 4 (nxC J0q g 4 c w) (nxK J0q g 4 c n w) ws;rw[Q5v _ hne];simp only[List.length_cons] at hs hr;obtain⟨c1,c2,c3,c4,c5,c6⟩:=J9V J0q hg (k:=4) (by decide) c w h0;obtain⟨k1,k2⟩:=Y0k hg (k:=4) (by decide) hn (by omega) w h0;have hcn:=X4x J8Z hg (k:=4) (by decide) hc w h0;have e3:=Y0j.1 c3;have hl:lft n (enN J0q g c) (enN J0q g (nxC J0q g 4 c w))=0:=by
      rw[lft,hp];exact Q5k _ _ (by have:=Q5D J0q hg c;omega)
     have hx:¬ TrX g (nxC J0q g 4 c w)->XIn g (nxC J0q g 4 c w) (nxK J0q g 4 c n w):=fun q=>by
      have hnt:¬ TrX g c:=fun t=>q (Q3u h hc t c2);exact Q3e h hc (hi hnt) c2 hcn q
     have e4:nxK J0q g 4 c n w=⟨n.steps+1,n.moves+cnt (enN J0q g c) 32,n.rounds+1,n.rounds+1,enN J0q g (nxC J0q g 4 c w)⟩:=by
      show Cnt.add n _ _=_;rw[Cnt.add,e3,if_pos hl]
     refine X2o h ws _ _ hcn k1 (by omega) (by rw[e4]) hx ?_;rw[e4];simp only
     push_cast at hr ⊢
     omega
def Net.tre (x:Net) (most:Int):G:=⟨J5R x.ids (x.size most),J1S x (x.size most) (x.size most-1)⟩
def Net.cut (x:Net) (n:Nat):Net:={ x with links:=x.links.take n }
theorem Q0p (x:Net) (N n:Nat):∀k,k<=N->J1S (x.cut N) n k=J1S x n k
 | 0,_=>rfl
 | k+1,h=>by
   have ih:=Q0p x N n k (by omega);have e:gI (x.links.take N) k=gI x.links k:=by
    simp only[gI,List.getD_eq_getElem?_getD,List.getElem?_take];rw[if_pos (by omega)]
   rw[J1S,J1S,ih];show J27 _ _ (J0P (gI (x.links.take N) k) _).toNat _ _=_;rw[e];rfl
theorem X3T (x:Net) (most:Int):x.tre most=(x.cut (x.size most)).con most:=by
 have hz:(x.cut (x.size most)).size most=x.size most:=rfl;have hm:J4w (x.cut (x.size most)) (x.size most)=0:=by
  rw[J4w];have:(x.cut (x.size most)).links.length<=x.size most:=by
   show(x.links.take _).length<=_;exact List.length_take_le _ _
  have e:(x.cut (x.size most)).links.length-x.size most=0:=by omega
  rw[e];simp
 rw[Net.con,hz,hm,Net.tre,J2D,Q0p x _ _ _ (by omega)];rfl
theorem X3U (x:Net) (hx:x.Small) (most:Int) (h1:1<=most) (h2:most<=24):Ret Tryz.prog 4 [x.v,.int .i64 most] (x.tre most).v:=by
 refine J0h rfl ((Q6s x hx most h1 h2).mono ?_);rintro _ _ _ ⟨rfl,rfl⟩;exact X6Q (g:=x.tre most) (J2U _ _) (J1r _ _ _)
theorem X0a (x:Net) {most:Int} (h1:1<=most) (h2:most<=24):(x.tre most).conn=true:=by
 rw[X3T];exact X1H _ h1 h2
theorem X3S (x:Net) {most:Int} (h1:1<=most):((x.tre most).ids.length:Int)<=most:=by
 show((J5R x.ids (x.size most)).length:Int)<=most;rw[J2U];exact(J9i x h1).2
end Go.Proofs.YtmifmchinfhbnaaGreatDoor
namespace Go.Proofs.YtmifmchinfhbnaaGreatDoor
open Go.Eng Go.Plain
set_option maxRecDepth 100000
set_option linter.unusedVariables false
theorem X3F {g:G} (hg:g.valid=true) (h:g.ids.length<=2):J0X J0q g<=9801:=by
 obtain⟨f1,f2,f3,f4,f5,f6,f7⟩:=J0f hg;refine Nat.le_trans (X1I (B:=99) fun v hv=>?_) (Nat.pow_le_pow_right (n:=99) (by omega) h);show szP J0q g (v*2)*(szP J0q g (v*2+1)*1)<=99;have e:=J4k J0q g (v:=v) (x:=0) (show 0<2 by omega);have e1:=J4k J0q g (v:=v) (x:=1) (show 1<2 by omega);change szP J0q g (v*2+0)=_ at e;change szP J0q g (v*2+1)=_ at e1;rw[Nat.add_zero] at e;have hd:=X7X hg (v:=v) (by omega);rw[Nat.mul_one,e,e1];have a:szX J0q g v 0=((0+16*(g.ids.length:Int)+0*Q3w g)-0).toNat+1:=rfl;have b:szX J0q g v 1=(((gR g.ports v).length:Int)-1 - -1).toNat+1:=rfl;rw[a,b];exact Nat.le_trans (Nat.mul_le_mul (show _<=33 by omega) (show _<=3 by omega)) (by decide)
set_option maxHeartbeats 16000000 in
theorem Q72 (x:Net) (hx:x.Small):RG 3 [x.v] (.bool true):=by
 have h0:=X3U x hx 2 (by omega) (by omega);have hgc:=X0a x (most:=2) (by omega) (by omega);have hlen:(x.tre 2).ids.length<=2:=by have:=X3S x (most:=2) (by omega);omega
 generalize x.tre 2=g at *;have hg:=(J0o hgc).1;obtain⟨f1,f2,f3,f4,f5,f6,f7⟩:=J0f hg;have hs:=Q2g hg;obtain⟨R,M,hR0,hclm,hS⟩:∃R M:Int,0<=R/\Ret Tryz.prog 7 [g.v] (.agg [.int .i64 3,.bool false,.bool true,.int .i64 R,.int .i64 M])/\Srv J0q g 3 g.xleg R M (XIn g) :=
  ⟨mxV g+1,-1,by have:=X2I hgc;omega,Q4Y g hs hgc,X3D J8Z hgc hlen⟩
 have h10:g.ids.length<=10:=by omega
 have hcn:=X3F hg hlen;have hpw:2 ^ g.ids.length<=4:=Nat.pow_le_pow_right (n:=2) (by omega) hlen;have hN:J0X J0q g<=32768:=by omega
 have hNm:J0X J0q g*2 ^ g.ids.length<=262144:=Nat.le_trans (Nat.mul_le_mul hcn hpw) (by decide);have hprk:=J8Z;have hb:=Q16 hprk hs hg (kd:=3) rfl h10 hN hNm;have hco:=Q4X hprk hs hg (kd:=3) rfl hS h10 hN hNm;have hcl:=Q0f hprk hs hg (kd:=3) rfl hS h10 hN hNm;have hro:=Q0e hprk hs hg (kd:=3) rfl hS h10 hN hNm (by exact hR0);have hmo:=Q15 hprk hs hg (kd:=3) rfl hS h10 hN hNm;have hpos:=Q4B J0q g;have hun:=fun k hk=>Q5l J0q hprk g hs hg hN k hk;have hlg:=fun k=>J73 g hs (cfK J0q g k) (X5w hprk hg (J1q hprk hg k));have htx:=X3Z;have hpr:=Q5i;have hkn:=Q5w;have hsn:(J4l J0q g 3).n=J0X J0q g:=rfl;refine J32 rfl ?_;refine Q4O Tryz.func3 rfl hc3 hr3 rfl ?_;refine J2g (J2R J0b ?_)
 repeat' ((conv=>whnf);first|fail)
 all_goals (conv=>whnf)
 refine J2g (J2R J0b ?_)
 repeat' ((conv=>whnf);first|(refine h0.go ?_))
 all_goals (conv=>whnf)
 refine J2g (J2R J0b ?_)
 repeat' ((conv=>whnf);first|(refine htx.go ?_)|(refine hpr.go ?_))
 all_goals (conv=>whnf)
 refine J2g (J2R J0b ?_)
 repeat' ((conv=>whnf);first|(refine hclm.go ?_))
 all_goals (conv=>whnf)
 refine J2g (J2R J0b ?_)
 repeat' ((conv=>whnf);first|(refine hb.gog ?_))
 all_goals (conv=>whnf)
 refine J2g (J2R J0b ?_)
 repeat' ((conv=>whnf);first|(refine Br.ff ?_)|(refine Br.dec ?_ ?_<;>intro _<;>try omega))
 all_goals (conv=>whnf)
 refine J2g (J2R J0b ?_)
 repeat' ((conv=>whnf);first|fail)
 all_goals (conv=>whnf)
 refine J2g (J2R J0b ?_)
 repeat' ((conv=>whnf);first|fail)
 all_goals (conv=>whnf)
 refine J0u J0b [3,4,5,6] [5] [6,7,8,9,10,11,12,13,14,15,16,17,18,19,20,21,22,23,24,25,26,27,28,29] [5,4,3,2,1,0,999] (fun i:Nat=>[(8,.vec 5 1 0 i),(9,.int .i64 i)]) (fun own i=>(5,.vec i 1 (vBl (J3G J0q g g.xleg)))::own) (fun m i=>m=J0X J0q g-i/\i<=J0X J0q g) (J0X J0q g) 0 ⟨rfl,Nat.zero_le _⟩ rfl (fun _=>rfl) ?_ ?_
 . exact J0k (fun _ _=>[(0,some 0),(1,some 1),(2,some 2),(3,some 3),(4,some 4),(5,none),(999,some 999)])
 rintro m i ⟨hm,hi⟩;by_cases hil:i<J0X J0q g
 . have hui:=hun i hil;have hli:=hlg i;change Ret _ _ _ (.bool (J3G J0q g g.xleg i)) at hli
   repeat' ((conv=>whnf);first|(refine Br.ff ?_)|(refine Br.dec ?_ ?_<;>intro _<;>try omega)|(refine Br.nbeq ?_ ?_<;>intro _<;>try omega)|(refine Ar.i64 (by omega) (by omega) ?_)|(refine Len.mk (by omega) ?_)|(refine hui.go ?_)|(refine hli.go ?_)|(refine Br.any (fun _=>?_) (fun _=>?_)))
   all_goals (conv=>whnf)
   all_goals
    refine⟨J0X J0q g-(i+1),i+1,by omega,⟨rfl,by omega⟩,?_⟩;refine J0c (fun env own=>[(0,some 0),(1,some 1),(2,some 2),(3,some 3),(4,some 4),(5,X5p env 8),(999,some 999)]) ?_ ?_ rfl
    . repeat' (first|exact True.intro|(refine⟨⟨_,rfl,?_⟩,?_⟩)|exact J0a.kf rfl|exact J0a.loc rfl|exact J0a.vec rfl rfl rfl)
    . repeat' (first|exact Q9X _ _ _ _ _ rfl hi hj _ _ (by rfl) (by first|rfl|(symm;assumption))|exact True.intro|exact⟨rfl,rfl,rfl⟩|(refine⟨⟨_,rfl,?_⟩,?_⟩)|exact J0a.kf rfl|(refine⟨Nat.le_refl _,rfl,fun i j hi hj=>?_⟩)|(refine And.intro ?_ ?_))
 have ei:i=J0X J0q g:=by omega
 subst ei
 repeat' ((conv=>whnf);first|(refine Br.dec ?_ ?_<;>intro _<;>try omega))
 all_goals (conv=>whnf)
 refine Q6K 8 (v':=blW (J0X J0q g) (J3G J0q g g.xleg)) rfl (by(conv=>whnf);exact⟨by omega,rfl,rfl⟩) (J2R J0b ?_)
 repeat' ((conv=>whnf);first|(refine Br.tt ?_)|(refine Br.ff ?_)|(refine Br.bne ?_ ?_<;>intro _<;>try omega)|(refine hco.go ?_)|(refine hcl.go ?_))
 all_goals (conv=>whnf)
 refine J1a J0b [5,6,8,12] (fun i:Nat=>[(16,.int .i64 i)]) (fun m i=>m=J0X J0q g-i/\i<=J0X J0q g) (J0X J0q g) 0 ⟨rfl,Nat.zero_le _⟩ ?_ ?_
 . exact J0k (fun _ _=>[(0,some 0),(1,some 1),(2,some 2),(3,some 3),(4,some 4),(999,some 999)])
 rintro m i ⟨hm,hi⟩;by_cases hil:i<J0X J0q g
 . repeat' ((conv=>whnf);first|(refine Br.ff ?_)|(refine Br.dec ?_ ?_<;>intro _<;>try omega)|(refine Ar.i64 (by omega) (by omega) ?_)|(refine Ix.nat (by omega) ?_))
   all_goals (conv=>whnf)
   refine⟨J0X J0q g-(i+1),i+1,by omega,⟨rfl,by omega⟩,?_⟩;exact J0k (fun _ _=>[(0,some 0),(1,some 1),(2,some 2),(3,some 3),(4,some 4),(999,some 999)])
 repeat' ((conv=>whnf);first|(refine Br.ff ?_)|(refine Br.dec ?_ ?_<;>intro _<;>try omega)|(refine Br.bne ?_ ?_<;>intro _<;>try omega)|(refine hro.go ?_;rintro _ ⟨r,hr,rfl⟩)|(refine hmo.go ?_;rintro _ ⟨t,ht,rfl⟩))
 all_goals (conv=>whnf)
 refine J1a J0b [5,17,19] (fun i:Nat=>[(21,.int .i64 i)]) (fun m i=>m=J0X J0q g-i/\i<=J0X J0q g) (J0X J0q g) 0 ⟨rfl,Nat.zero_le _⟩ ?_ ?_
 . exact J0k (fun _ _=>[(0,some 0),(1,some 1),(2,some 2),(3,some 3),(4,some 4),(999,some 999)])
 rintro m i ⟨hm,hi⟩;by_cases hil:i<J0X J0q g
 . have hri:=hr i hil;by_cases hM0:0<=M
   . have hti:=ht hM0 i hil
     repeat' ((conv=>whnf);first|(refine Br.dec ?_ ?_<;>intro _<;>try omega)|(refine Ar.i64 (by omega) (by omega) ?_)|(refine Ix.nat (by omega) ?_))
     all_goals (conv=>whnf)
     all_goals
      refine⟨J0X J0q g-(i+1),i+1,by omega,⟨rfl,by omega⟩,?_⟩;exact J0k (fun _ _=>[(0,some 0),(1,some 1),(2,some 2),(3,some 3),(4,some 4),(999,some 999)])
   . repeat' ((conv=>whnf);first|(refine Br.dec ?_ ?_<;>intro _<;>try omega)|(refine Ar.i64 (by omega) (by omega) ?_)|(refine Ix.nat (by omega) ?_))
     all_goals (conv=>whnf)
     all_goals
      refine⟨J0X J0q g-(i+1),i+1,by omega,⟨rfl,by omega⟩,?_⟩;exact J0k (fun _ _=>[(0,some 0),(1,some 1),(2,some 2),(3,some 3),(4,some 4),(999,some 999)])
 repeat' ((conv=>whnf);first|(refine Br.tt ?_)|(refine Br.dec ?_ ?_<;>intro _<;>try omega)|(refine hkn.go ?_))
 all_goals (conv=>whnf)
 all_goals exact VLe.rfl
end Go.Proofs.YtmifmchinfhbnaaGreatDoor
