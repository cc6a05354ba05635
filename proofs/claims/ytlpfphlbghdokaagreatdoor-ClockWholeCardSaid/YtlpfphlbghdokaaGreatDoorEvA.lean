import Derived.Test.YtlpfphlbghdokaaGreatDoorDS3
import Derived.Test.YtlpfphlbghdokaaGreatDoorEngZ
import Derived.IntWalk
namespace Go.Proofs.YtlpfphlbghdokaaGreatDoor
open Go.Eng
set_option maxRecDepth 100000
set_option linter.unusedVariables false
theorem X6t (g:G) (hg:g.valid=true):0<(dst g 0).length:=by
 obtain⟨f1,f2,f3,f4,f5,f6,f7⟩:=J0e hg;rw[J2E];omega
theorem Q9V {l:List Int} (h0:0<l.length) (h:∀a∈l,0<=a):0<=J4y l (-1):=by
 match l,h0 with
 | a::r,_ =>
   have:=h a (by simp);have h1:=J86 r (if a > -1 then a else -1);have h2:a<=if a > -1 then a else -1:=by split<;>omega
   simp only[J4y];exact Int.le_trans ‹0<=a› (Int.le_trans h2 h1)
def G.ecc (g:G):Int:=if g.conn then J4y (dst g 0) (-1) else -1
theorem X1V (g:G) {v:Nat} (hv:v<g.ports.length):-1<=gI (dst g 0) v/\gI (dst g 0) v<g.ports.length:=by
 rw[J4t g 0 hv];have:=Q60 g.ports 0 (g.ports.length-1) v;omega
theorem Q7J (g:G) (hg:g.conn=true):0<=g.ecc/\g.ecc<=23:=by
 obtain⟨h1,h2⟩:=J0o hg;obtain⟨f1,f2,f3,f4,f5,f6,f7⟩:=J0e h1;rw[G.ecc,if_pos hg];refine⟨Q9V (X6t g h1) (fun a ha=>?_),Q1S _ _ _ (by omega) (fun a ha=>?_)⟩
 . obtain⟨i,hi,rfl⟩:=Q7o ha;exact h2 i (by rw[J2E] at hi;exact hi)
 . obtain⟨i,hi,rfl⟩:=Q7o ha;rw[J2E] at hi;have:=X1V g hi;omega
theorem X6s (g:G) (hs:g.Small):Ret Tryz.prog 25 [g.v,.int .i64 0] (.int .i64 g.ecc):=by
 have hcn:=Q18 g hs;refine J0g rfl ?_;refine J0d J0b Tryz.func25 rfl hc25 hr25 rfl ?_;rw[G.ecc];cases hc:g.conn with
 | true =>
   obtain⟨h1,_⟩:=J0o hc;obtain⟨f1,f2,f3,f4,f5,f6,f7⟩:=J0e h1;have hd:=J6z g h1 0 (by omega);have hr:=X6e (dst g 0) (by rw[J2E];omega);rw[hc] at hcn
   repeat' ((conv=>whnf);first|(refine Br.tt ?_)|(refine Br.ff ?_)|(refine Br.dec ?_ ?_<;>intro _<;>try omega)|(refine hcn.go ?_)|(refine hd.go ?_)|(refine hr.go ?_))
   all_goals (conv=>whnf)
   exact VLe.rfl
 | false =>
   rw[hc] at hcn
   repeat' ((conv=>whnf);first|(refine Br.ff ?_)|(refine hcn.go ?_))
   all_goals (conv=>whnf)
   exact VLe.rfl
theorem Q0S (g:G) (hs:g.Small) (hg:g.valid=true):Ret Tryz.prog 76 [g.v,.int .i64 0] (.fz (dst g 0).length 1 false (vI (dst g 0))):=by
 obtain⟨f1,f2,f3,f4,f5,f6,f7⟩:=J0e hg;have hval:=J8J g hs;rw[hg] at hval;have hd:=J6z g hg 0 (by omega);refine J0g rfl ?_;refine J0d J0b Tryz.func76 rfl hc76 hr76 rfl ?_
 repeat' ((conv=>whnf);first|(refine Br.tt ?_)|(refine Br.ff ?_)|(refine Br.dec ?_ ?_<;>intro _<;>try omega)|(refine hval.go ?_)|(refine hd.go ?_))
 all_goals (conv=>whnf)
 exact VLe.rfl
abbrev Q5a:=List (Int×Int)
theorem X0d {l:Q5a} {i:Nat} (h:i<l.length):l.drop i=gF l i::l.drop (i+1):=by
 rw[List.drop_eq_getElem_cons h];simp only[gF,List.getD,List.getElem?_eq_getElem h,Option.getD_some]
def fpI (p:Int×Int->Bool):Nat->Q5a->Int
 | _,[]=>-1
 | k,l::r=>if p l then k else fpI p (k+1) r
theorem J66 (p:Int×Int->Bool):∀(l:Q5a) (k i:Nat),i<=l.length->(∀a∈l.take i,p a=false)->fpI p k l=fpI p (k+i) (l.drop i)
 | _,k,0,_,_=>by simp
 | [],k,i+1,h,_=>by simp at h
 | a::r,k,i+1,h,h2=>by
   have ha:p a=false:=h2 a (by simp);simp only[fpI,ha,List.drop_succ_cons];rw[if_neg (by simp),J66 p r (k+1) i (by simpa using h) (fun x hx=>h2 x (by simp[hx]))];congr 1;omega
theorem J67 (p:Int×Int->Bool):∀(l:Q5a) (k:Nat),fpI p k l=-1\/((k:Int)<=fpI p k l/\fpI p k l<(k+l.length:Nat))
 | [],k=>.inl rfl
 | a::r,k=>by
   simp only[fpI];split
   . right;simp;omega
   . rcases J67 p r (k+1) with h|h
     . exact .inl h
     . right;simp at *;omega
def J84 (g:G) (v:Nat) (l:Int×Int):Bool:=decide (gI (dst g 0) l.1.toNat=gI (dst g 0) v-1)
def upI (g:G) (v:Nat):Int:=fpI (J84 g v) 0 (gR g.ports v)
def dV (g:G):V:=.fz (dst g 0).length 1 false (vI (dst g 0))
theorem Q50 (g:G) (hg:g.valid=true) (v:Nat) (hv:v<g.ports.length) (i:Nat) (hi:i<(gR g.ports v).length) :
 Ret Tryz.prog 118 [.agg [.int .i64 (gF (gR g.ports v) i).1,.int .i64 (gF (gR g.ports v) i).2],.fe 1 1 (tab [[dV g]]) 0 0,.fe 1 1 (tab [[.int .i64 v]]) 0 0] (.bool (J84 g v (gF (gR g.ports v) i))):=by
 obtain⟨f1,f2,f3,f4,f5,f6,f7⟩:=J0e hg;have hr:=Q1M (f6 v hv) hi;have hl:=J2E g 0;have h1:=X1V g hv;refine J0g rfl ?_;refine J0d J0b Tryz.func118 rfl Y0j X9E rfl ?_
 repeat' ((conv=>whnf);first|(refine Br.dec ?_ ?_<;>intro _<;>try omega)|(refine Ar.i64 (by omega) (by omega) ?_)|(refine Ix.nat (by omega) ?_)|(refine Ix.int (by omega) (by omega) ?_))
 all_goals (conv=>whnf)
 . rename_i h;exact VLe.bool (decide_eq_true h).symm
 . rename_i h;exact VLe.bool (decide_eq_false h).symm
theorem Y0B (g:G) (hg:g.valid=true) (v:Nat) (hv:v<g.ports.length) :
 J0J Tryz.prog 117 [g.v,.int .i64 v,.fn (.func 118) false [.loc 1 0,.loc 0 0]] [(1,.cells [dV g]),(0,.cells [.int .i64 v])] [2,3,4,5,6,7,8,9,10,11,12,13,14,15,16,17,18,19,20,21,22,23,24,25,26,27,28,29] fun X own' _=>X=.int .i64 (upI g v)/\own'=[(1,.cells [dV g]),(0,.cells [.int .i64 v])]:=by
 have hrl:=Q1F hg v;refine J1q ?_;refine J0d J0b Tryz.func117 rfl Y0k X9F rfl ?_
 repeat' ((conv=>whnf);first|(refine Ix.nat (by omega) ?_))
 all_goals (conv=>whnf)
 refine J0N J0b [2,13,14] (fun i:Nat=>[(15,.int .i64 i)]) (fun m i=>m=(gR g.ports v).length-i/\i<=(gR g.ports v).length/\∀l∈(gR g.ports v).take i,J84 g v l=false) (gR g.ports v).length 0 ⟨rfl,Nat.zero_le _,by simp⟩ ?_ ?_
 . exact J0k (fun _ _=>[(0,some 0),(1,some 1),(2,some 2)])
 rintro m i ⟨hm,hi,hall⟩;by_cases hil:i<(gR g.ports v).length
 . have h1:=Q50 g hg v hv i hil;cases hb:J84 g v (gF (gR g.ports v) i) with
   | true =>
     rw[hb] at h1
     repeat' ((conv=>whnf);first|(refine Br.tt ?_)|(refine Br.dec ?_ ?_<;>intro _<;>try omega)|(refine Ix.nat (by omega) ?_)|(refine Chk.mk (by kernel_rfl) ?_)|(refine J0F h1 rfl ⟨VLe.rfl,VLe.rfl,VLe.rfl,True.intro⟩ ?_))
     all_goals (conv=>whnf)
     have e:upI g v=i:=by rw[upI,J66 _ _ 0 i hi hall,X0d hil,fpI,if_pos hb];omega
     exact J1m (fun _=>[(0,some 0),(1,some 1)]) _ _ ⟨by rw[e],rfl⟩ (J0a.kf rfl) (by repeat' (first|exact True.intro|(refine⟨⟨_,rfl,?_⟩,?_⟩)|exact J0a.kf rfl|(refine And.intro ?_ ?_))) rfl
   | false =>
     rw[hb] at h1
     repeat' ((conv=>whnf);first|(refine Br.ff ?_)|(refine Br.dec ?_ ?_<;>intro _<;>try omega)|(refine Ar.i64 (by omega) (by omega) ?_)|(refine Ix.nat (by omega) ?_)|(refine Chk.mk (by kernel_rfl) ?_)|(refine J0F h1 rfl ⟨VLe.rfl,VLe.rfl,VLe.rfl,True.intro⟩ ?_))
     all_goals (conv=>whnf)
     refine⟨(gR g.ports v).length-(i+1),i+1,by omega,⟨rfl,by omega,fun l hl=>?_⟩,?_⟩
     . rw[J3r _ i hil] at hl;rcases List.mem_append.1 hl with h|h
       . exact hall l h
       . simp at h;rw[h];exact hb
     . exact J0k (fun _ _=>[(0,some 0),(1,some 1),(2,some 2)])
 . repeat' ((conv=>whnf);first|(refine Br.dec ?_ ?_<;>intro _<;>try omega))
   all_goals (conv=>whnf)
   have e:upI g v=-1:=by rw[upI,J66 _ _ 0 i hi hall,List.drop_of_length_le (by omega)];rfl
   exact J1m (fun _=>[(0,some 0),(1,some 1)]) _ _ ⟨by rw[e],rfl⟩ (J0a.kf rfl) (by repeat' (first|exact True.intro|(refine⟨⟨_,rfl,?_⟩,?_⟩)|exact J0a.kf rfl|(refine And.intro ?_ ?_))) rfl
theorem X0l (a b:List Int) (ha:a.length<=9223372036854775807) (hb:b.length<=9223372036854775807):Ret Tryz.prog 119 [.fz a.length 1 false (vI a),.fz b.length 1 false (vI b)] (.bool (decide (a=b))):=by
 refine J0g rfl ?_;refine J0d J0b Tryz.func119 rfl Y0i X9D rfl ?_
 repeat' ((conv=>whnf);first|(refine Br.bne ?_ ?_<;>intro _<;>try omega))
 all_goals (conv=>whnf)
 . exact VLe.bool (by rw[decide_eq_false (fun h=>by subst h;omega)])
 refine J0N J0b [0,1,12] (fun i:Nat=>[(13,.int .i64 i)]) (fun m i=>m=a.length-i/\i<=a.length/\∀j,j<i->gI a j=gI b j) a.length 0 ⟨rfl,Nat.zero_le _,fun j hj=>by omega⟩ ?_ ?_
 . exact J0k (fun _ _=>[])
 rintro m i ⟨hm,hi,hall⟩
 repeat' ((conv=>whnf);first|(refine Br.dec ?_ ?_<;>intro _<;>try omega)|(refine Br.bne ?_ ?_<;>intro _<;>try omega)|(refine Ar.i64 (by omega) (by omega) ?_)|(refine Ix.nat (by omega) ?_))
 all_goals (conv=>whnf)
 . rename_i hne;exact VLe.bool (by rw[decide_eq_false (fun h=>by subst h;exact hne rfl)])
 . refine⟨a.length-(i+1),i+1,by omega,⟨rfl,by omega,fun j hj=>?_⟩,?_⟩
   . by_cases e:j=i
     . subst e;assumption
     . exact hall j (by omega)
   . exact J0k (fun _ _=>[])
 . have e:a=b:=List.ext_getElem (by omega) (fun j h1 h2=>by
    have:=hall j (by omega);simpa[gI,List.getD,List.getElem?_eq_getElem h1,List.getElem?_eq_getElem h2] using this)
   exact VLe.bool (by rw[decide_eq_true e])
theorem Q5s (a b:Int) (f:Nat->Nat->V) (h0:f 0 0=.int .i64 a) (h1:f 1 0=.int .i64 b):∀i j:Nat,i<2->j<1->VLe (f i j) (vI [a,b] i j):=by
 intro i j hi hj;obtain rfl:j=0:=by omega
 rcases (show i=0\/i=1 by omega) with rfl|rfl
 . rw[h0];exact VLe.rfl
 . rw[h1];exact VLe.rfl
theorem Q9E (g:G) (hg:g.valid=true) (v:Nat) (hv:v<g.ports.length) (st:List Int) (hst:st.length<=9223372036854775807) :
 Ret Tryz.prog 77 [g.v,.int .i64 v,dV g,.fz st.length 1 false (vI st)] (.bool (decide (st=[gI (dst g 0) v,upI g v]))):=by
 have hfp:=Y0B g hg v hv;have hl:=J2E g 0;have he:=X0l st [gI (dst g 0) v,upI g v] hst (by simp);refine J0g rfl ?_;refine J0d J0b Tryz.func77 rfl hc77 hr77 rfl ?_
 repeat' ((conv=>whnf);first|(refine Br.dec ?_ ?_<;>intro _<;>try omega)|(refine Ix.nat (by omega) ?_)|(refine J10 [(0,some 1),(1,some 2)] [] (hfp.mono ?_) ⟨J0a.kf rfl,J0a.int rfl,J0a.fn ⟨J0a.loc rfl,J0a.loc rfl,True.intro⟩,True.intro⟩ (by repeat' (first|exact True.intro|(refine⟨⟨_,rfl,?_⟩,?_⟩)|exact J0a.kf rfl|(refine And.intro ?_ ?_))) rfl;rintro _ _ _ ⟨rfl,rfl⟩)|(refine Chk.mk rfl ?_)|(refine J0F he rfl ⟨by decide,VLe.rfl,VLe.fz rfl (fun h=>h) (Q5s _ _ _ rfl rfl),True.intro⟩ ?_))
 all_goals (conv=>whnf)
 all_goals exact VLe.bool (Eq.symm (by first|assumption|exact decide_eq_true (by assumption)|exact decide_eq_false (by assumption)))
theorem X4D (g:G) (hs:g.Small):Ret Tryz.prog 116 [g.v] (.bool g.conn):=by
 have h:=Q18 g hs;refine J0g rfl ?_;refine J0d J0b Tryz.func116 rfl Y0l X9G rfl ?_;cases hc:g.conn
 all_goals rw[hc] at h
 all_goals
  repeat' ((conv=>whnf);first|(refine Br.tt ?_)|(refine Br.ff ?_)|(refine h.go ?_))
  all_goals (conv=>whnf)
  exact VLe.rfl
def G.bconf (g:G) (c:Cf):Bool:=Q8V g.ids.length 2 (bG g [(g.ids.length:Int),-1]) c
theorem J5v (g:G) (hs:g.Small) (c:Cf) (hc:J3R c):Ret Tryz.prog 75 [g.v,cV c] (.bool (g.conn&&g.bconf c)):=by
 have hf:=X4D g hs;refine J0g rfl ?_;refine J0d J0b Tryz.func75 rfl hc75 hr75 rfl ?_;cases hg:g.conn with
 | true =>
   rw[hg] at hf;rw[Bool.true_and];obtain⟨h1,_⟩:=J0o hg;obtain⟨f1,f2,f3,f4,f5,f6,f7⟩:=J0e h1;have hb:=Q3Z g hs f3 c hc [(g.ids.length:Int),-1] (by simp);rw[show Q8V g.ids.length [(g.ids.length:Int),-1].length (bG g [(g.ids.length:Int),-1]) c=g.bconf c from rfl] at hb
   repeat' ((conv=>whnf);first|(refine Br.tt ?_)|(refine hf.go ?_)|(refine J3s [1] hb ⟨by decide,VLe.rfl,VLe.rfl,VLe.fz rfl (fun h=>h) (Q5s _ _ _ rfl rfl),True.intro⟩ ?_)|(refine Br.any (fun _=>?_) (fun _=>?_)))
   all_goals (conv=>whnf)
   all_goals exact VLe.bool (Eq.symm (by first|assumption|exact decide_eq_true (by assumption)|exact decide_eq_false (by assumption)))
 | false =>
   rw[hg] at hf
   repeat' ((conv=>whnf);first|(refine Br.ff ?_)|(refine hf.go ?_))
   all_goals (conv=>whnf)
   all_goals exact VLe.rfl
def J5Y (g:G) (c:Cf):Bool:=decide (∀v,v<c.length->gI (gC c v) 0=gI (dst g 0) v/\gI (gC c v) 1=upI g v)
theorem J22 {g:G} {c:Cf}:J5Y g c=true↔∀v,v<c.length->gI (gC c v) 0=gI (dst g 0) v/\gI (gC c v) 1=upI g v:=by rw[J5Y,decide_eq_true_eq]
theorem X53 {l:List Int} {a b:Int} (h:l.length=2):l=[a,b]↔gI l 0=a/\gI l 1=b:=by
 match l,h with
 | [x,y],_=>simp[gI]
theorem Q8t (g:G) (hs:g.Small) (c:Cf) (hc:J3R c):Ret Tryz.prog 40 [g.v,cV c] (.bool (g.conn&&g.bconf c&&J5Y g c)):=by
 have h0:=J5v g hs c hc;refine J0g rfl ?_;refine J0d J0b Tryz.func40 rfl hc40 hr40 rfl ?_;cases hgc:g.conn&&g.bconf c with
 | false =>
   rw[hgc] at h0
   repeat' ((conv=>whnf);first|(refine Br.ff ?_)|(refine h0.go ?_))
   all_goals (conv=>whnf)
   exact VLe.rfl
 | true =>
   rw[hgc] at h0;rw[Bool.true_and];rw[Bool.and_eq_true] at hgc;obtain⟨h1,_⟩:=J0o hgc.1;obtain⟨f1,f2,f3,f4,f5,f6,f7⟩:=J0e h1;have hcf:=J2p.1 hgc.2;have hd:=Q0S g hs h1
   repeat' ((conv=>whnf);first|(refine Br.tt ?_)|(refine h0.go ?_)|(refine hd.go ?_))
   all_goals (conv=>whnf)
   refine J0N J0b [2,5,14,15] (fun i:Nat=>[(16,.int .i64 i)]) (fun m i=>m=c.length-i/\i<=c.length/\∀v,v<i->gI (gC c v) 0=gI (dst g 0) v/\gI (gC c v) 1=upI g v) c.length 0 ⟨rfl,Nat.zero_le _,fun v hv=>by omega⟩ ?_ ?_
   . exact J0k (fun _ _=>[(0,some 0)])
   rintro m i ⟨hm,hi,hall⟩;by_cases hil:i<c.length
   . have hrow:=(hcf.2 i (by omega)).1;have hr:=Q9E g h1 i (by omega) (gC c i) (by omega);cases hdd:decide (gC c i=[gI (dst g 0) i,upI g i]) with
     | true =>
       rw[hdd] at hr;have h2:=(X53 hrow).1 (of_decide_eq_true hdd)
       repeat' ((conv=>whnf);first|(refine Br.tt ?_)|(refine Br.dec ?_ ?_<;>intro _<;>try omega)|(refine Ar.i64 (by omega) (by omega) ?_)|(refine Ix.nat (by omega) ?_)|(refine hr.go ?_))
       all_goals (conv=>whnf)
       refine⟨c.length-(i+1),i+1,by omega,⟨rfl,by omega,fun v hv=>?_⟩,?_⟩
       . by_cases e:v=i
         . subst e;exact h2
         . exact hall v (by omega)
       . exact J0k (fun _ _=>[(0,some 0)])
     | false =>
       rw[hdd] at hr
       repeat' ((conv=>whnf);first|(refine Br.ff ?_)|(refine Br.dec ?_ ?_<;>intro _<;>try omega)|(refine Ix.nat (by omega) ?_)|(refine hr.go ?_))
       all_goals (conv=>whnf)
       refine VLe.bool ?_;cases e:J5Y g c with
       | false=>rfl
       | true=>exact(of_decide_eq_false hdd ((X53 hrow).2 (J22.1 e i hil))).elim
   . repeat' ((conv=>whnf);first|(refine Br.dec ?_ ?_<;>intro _<;>try omega))
     all_goals (conv=>whnf)
     exact VLe.bool (J22.2 (fun v hv=>hall v (by omega))).symm
def bC (g:G) (v x:Nat):Int×Int:=if x=0 then (0,g.ids.length) else if x=1 then (-1,((gR g.ports v).length:Int)-1) else (0,3)
def G.cconf (g:G) (c:Cf):Bool:=Q8V g.ids.length 3 (bC g) c
theorem Q7Y {n m:Nat} {B B':Nat->Nat->Int×Int} {c:Cf} (h:∀v x,v<n->x<m->B v x=B' v x):Q8V n m B c=Q8V n m B' c:=by
 rw[Bool.eq_iff_iff,J2p,J2p];refine⟨fun⟨a,b⟩=>⟨a,fun v hv=>⟨(b v hv).1,fun x hx=>by rw[<- h v x hv hx];exact(b v hv).2 x hx⟩⟩,fun⟨a,b⟩=>⟨a,fun v hv=>⟨(b v hv).1,fun x hx=>by rw[h v x hv hx];exact(b v hv).2 x hx⟩⟩⟩
theorem X4p (g:G) (c:Cf):Q8V g.ids.length [(g.ids.length:Int),-1,3].length (bG g [(g.ids.length:Int),-1,3]) c=g.cconf c:=Q7Y (fun v x hv hx=>by
 have e:x=0\/x=1\/x=2:=by simp at hx;omega
 rcases e with rfl|rfl|rfl
 . rw[bG,show gI [(g.ids.length:Int),-1,3] 0=g.ids.length from rfl,if_neg (by omega)];rfl
 . rfl
 . rfl)
def vC':List Vr:=[⟨ByteArray.mk #[100],1,0,0,1,0⟩,⟨ByteArray.mk #[112],3,0,0,0,0⟩,⟨ByteArray.mk #[120],1,0,3,0,0⟩]
theorem J4v {g:G} {c:Cf} (h:g.cconf c=true):c.length=g.ids.length/\∀v,v<c.length->(gC c v).length=3/\0<=gI (gC c v) 0/\gI (gC c v) 0<=g.ids.length/\-1<=gI (gC c v) 1/\gI (gC c v) 1<(gR g.ports v).length/\0<=gI (gC c v) 2/\gI (gC c v) 2<=3:=by
 have:=J2p.1 h;refine⟨this.1,fun v hv=>?_⟩;have h2:=this.2 v (by omega);have h3:=h2.2 0 (by omega);have h4:=h2.2 1 (by omega);have h5:=h2.2 2 (by omega);simp only[bC,if_true,Nat.one_ne_zero,if_false,show ¬ (2:Nat)=0 by decide,show ¬ (2:Nat)=1 by decide] at h3 h4 h5;omega
theorem J4H (a b d:Int) (f:Nat->Nat->V) (h0:f 0 0=.int .i64 a) (h1:f 1 0=.int .i64 b) (h2:f 2 0=.int .i64 d):∀i j:Nat,i<3->j<1->VLe (f i j) (vI [a,b,d] i j):=by
 intro i j hi hj;obtain rfl:j=0:=by omega
 rcases (show i=0\/i=1\/i=2 by omega) with rfl|rfl|rfl
 . rw[h0];exact VLe.rfl
 . rw[h1];exact VLe.rfl
 . rw[h2];exact VLe.rfl
theorem Q8i (g:G) (hs:g.Small):Ret Tryz.prog 24 [g.v] (.bool g.conn):=by
 have h:=Q18 g hs;refine J0g rfl ?_;refine J0d J0b Tryz.func24 rfl hc24 hr24 rfl ?_;cases hc:g.conn
 all_goals rw[hc] at h
 all_goals
  repeat' ((conv=>whnf);first|(refine Br.tt ?_)|(refine Br.ff ?_)|(refine h.go ?_))
  all_goals (conv=>whnf)
  exact VLe.rfl
theorem J3h (g:G) (hs:g.Small) (c:Cf) (hc:J3R c):Ret Tryz.prog 39 [g.v,cV c] (.bool (g.conn&&g.cconf c)):=by
 have hf:=Q8i g hs;refine J0g rfl ?_;refine J0d J0b Tryz.func39 rfl hc39 hr39 rfl ?_;cases hg:g.conn with
 | true =>
   rw[hg] at hf;rw[Bool.true_and];obtain⟨h1,_⟩:=J0o hg;obtain⟨f1,f2,f3,f4,f5,f6,f7⟩:=J0e h1;have hb:=Q3Z g hs f3 c hc [(g.ids.length:Int),-1,3] (by simp);rw[X4p] at hb
   repeat' ((conv=>whnf);first|(refine Br.tt ?_)|(refine hf.go ?_)|(refine J3s [1] hb ⟨by decide,VLe.rfl,VLe.rfl,VLe.fz rfl (fun h=>h) (J4H _ _ _ _ rfl rfl rfl),True.intro⟩ ?_)|(refine Br.any (fun _=>?_) (fun _=>?_)))
   all_goals (conv=>whnf)
   all_goals exact VLe.bool (Eq.symm (by assumption))
 | false =>
   rw[hg] at hf
   repeat' ((conv=>whnf);first|(refine Br.ff ?_)|(refine hf.go ?_))
   all_goals (conv=>whnf)
   all_goals exact VLe.rfl
def tkC (c:Cf):Cf:=c.map fun r=>r.take 2
theorem J8P (c:Cf):(tkC c).length=c.length:=by simp[tkC]
theorem J5b (c:Cf) (v:Nat):gC (tkC c) v=(gC c v).take 2:=by
 simp only[gC,tkC,List.getD,List.getElem?_map];cases c[v]?<;>simp
theorem J34 (l:List Int) (i:Nat) (hi:i<2):gI (l.take 2) i=gI l i:=by
 simp only[gI,List.getD,List.getElem?_take,hi,if_true]
def J6E (c:Cf) (v:Nat):Nat->Nat->V:=fun i _=>if i<v then .fz 2 1 false (vI (gC c i)) else .nilslice
theorem X49 (c:Cf) (v i t:Nat) (f:Bool) (F:Nat->Nat->V) (hF:∀a b,VLe (F a b) (vI (gC c v) a b)) (ht:t<1):VLe (J0L (J6E c v) v 0 [.fz 2 1 f F] i t) (J6E c (v+1) i t):=by
 obtain rfl:t=0:=by omega
 by_cases h:i=v
 . subst h;have e1:J0L (J6E c i) i 0 [.fz 2 1 f F] i 0=.fz 2 1 f F:=by simp[J0L]
   have e2:J6E c (i+1) i 0=.fz 2 1 false (vI (gC c i)):=if_pos (by omega);rw[e1,e2];exact VLe.fz rfl (fun h=>by cases h) (fun a b _ _=>hF a b)
 . apply VLe.of_eq;simp only[J0L,J6E];rw[if_neg (by simp[h])];by_cases h2:i<v
   . rw[if_pos h2,if_pos (by omega)]
   . rw[if_neg h2,if_neg (by omega)]
theorem X0z (c:Cf) (hc:c.length<=1000) (hr:∀v,v<c.length->(gC c v).length=3):Ret Tryz.prog 41 [cV c] (cV (tkC c)):=by
 refine J0g rfl ?_;refine J0d J0b Tryz.func41 rfl hc41 hr41 rfl ?_
 repeat' ((conv=>whnf);first|(refine Bd.nat (by omega) ?_)|(refine Len.mk (by omega) ?_)|(refine MkS.vec ?_))
 all_goals (conv=>whnf)
 refine J1v J0b [3,9,10] [] [1,2,3,4,5,6,7,8,9,10,11,12,13,14,15,16,17,18,19,20,21,22,23,24,25,26,27,28,29] [0] (fun v:Nat=>[(11,.int .i64 v)]) (fun v=>[(0,.vec c.length 1 (J6E c v))]) (fun m v=>m=c.length-v/\v<=c.length) c.length 0 ⟨rfl,Nat.zero_le _⟩ rfl (fun _=>rfl) ?_ ?_
 . refine J0f (fun _ _=>[(0,some 0)]) ?_ ?_ rfl
   . repeat' (first|exact True.intro|(refine⟨⟨_,rfl,?_⟩,?_⟩)|exact J0a.kf rfl|exact J0a.vec rfl rfl rfl)
   . repeat' (first|exact⟨Nat.le_refl _,rfl,fun i j hi hj=>VLe.of_eq (by obtain rfl:j=0:=(by omega);rfl)⟩|exact True.intro|(refine⟨⟨_,rfl,?_⟩,?_⟩))
 rintro m v ⟨hm,hv⟩;by_cases hvn:v<c.length
 . have h3:=hr v hvn
   repeat' ((conv=>whnf);first|(refine Bd.mk 2 rfl (by omega) ?_)|(refine Br.dec ?_ ?_<;>intro _<;>try omega)|(refine Ar.i64 (by omega) (by omega) ?_)|(refine Ix.nat (by omega) ?_)|(refine Bd.mk 0 rfl (by omega) ?_)|(refine Ltn.mk (by omega) ?_))
   all_goals (conv=>whnf)
   refine⟨c.length-(v+1),v+1,by omega,⟨rfl,by omega⟩,?_⟩;refine J0f (fun _ _=>[(0,some 0)]) ?_ ?_ rfl
   . repeat' (first|exact True.intro|(refine⟨⟨_,rfl,?_⟩,?_⟩)|exact J0a.kf rfl|exact J0a.vec rfl rfl rfl)
   . repeat' (first|exact⟨Nat.le_refl _,rfl,fun i t hi ht=>by simp only[Nat.zero_add];exact X49 c v i t _ _ (fun a b=>VLe.of_eq (by simp[J0l])) ht⟩|exact True.intro|(refine⟨⟨_,rfl,?_⟩,?_⟩))
 . repeat' ((conv=>whnf);first|(refine Br.dec ?_ ?_<;>intro _<;>try omega)|(refine Len.mk (by omega) ?_))
   all_goals (conv=>whnf)
   refine VLe.fz (J8P c).symm (fun h=>h) (fun i t hi ht=>?_);have e1:J0l 0 (J6E c v) i t=.fz 2 1 false (vI (gC c i)):=by rw[Q9w,Nat.zero_add];exact if_pos (by omega)
   have hl:(gC (tkC c) i).length=2:=by rw[J5b,List.length_take,hr i hi];rfl
   rw[e1];show VLe _ (.fz (gC (tkC c) i).length 1 false (vI (gC (tkC c) i)));rw[hl];refine VLe.fz rfl (fun h=>h) (fun a b ha hb=>VLe.of_eq ?_);simp only[vI];rw[J5b,J34 _ _ ha]
def tw (g:G) (c:Cf) (v:Nat):Int:=if 0<=gI (gC c v) 1 then (gF (gR g.ports v) (gI (gC c v) 1).toNat).1 else -1
def twL (g:G) (c:Cf) (n:Nat):List Int:=(List.range n).map (tw g c)
theorem Q5u (g:G) (c:Cf) (n:Nat):(twL g c n).length=n:=by simp[twL]
theorem Q5v (g:G) (c:Cf) {n v:Nat} (h:v<n):gI (twL g c n) v=tw g c v:=by simp[twL,gI,h]
def twF (g:G) (c:Cf) (v:Nat):Nat->Nat->V:=fun i _=>.int .i64 (if i<v then tw g c i else 0)
theorem X2F (g:G) (c:Cf) (v i t:Nat) (x:Int) (hx:x=tw g c v) (ht:t<1):VLe (J0L (J0L (twF g c v) v 0 [.int .i64 (-1)]) v 0 [.int .i64 x] i t) (twF g c (v+1) i t):=by
 obtain rfl:t=0:=by omega
 apply VLe.of_eq;by_cases h:i=v
 . subst h;simp[J0L,twF,hx]
 . have h1:(i<v+1)=(i<v):=by simp;omega
   simp[J0L,twF,h,h1]
theorem Q9m (g:G) (c:Cf) (v i t:Nat) (hx:tw g c v=-1) (ht:t<1):VLe (J0L (twF g c v) v 0 [.int .i64 (-1)] i t) (twF g c (v+1) i t):=by
 obtain rfl:t=0:=by omega
 apply VLe.of_eq;by_cases h:i=v
 . subst h;simp[J0L,twF,hx]
 . have h1:(i<v+1)=(i<v):=by simp;omega
   simp[J0L,twF,h,h1]
structure Y01 (g:G) (c:Cf):Prop where
 len:c.length=g.ports.length
 row:∀v,v<c.length->2<=(gC c v).length/\(gC c v).length<=1000
 pt:∀v,v<c.length->-1<=gI (gC c v) 1/\gI (gC c v) 1<(gR g.ports v).length
theorem Q4f (g:G) (hg:g.valid=true) (c:Cf) (hc:Y01 g c):Ret Tryz.prog 42 [g.v,cV c,.int .i64 1] (.fz (twL g c c.length).length 1 false (vI (twL g c c.length))):=by
 obtain⟨f1,f2,f3,f4,f5,f6,f7⟩:=J0e hg;have hcl:=hc.len;refine J0g rfl ?_;refine J0d J0b Tryz.func42 rfl hc42 hr42 rfl ?_
 repeat' ((conv=>whnf);first|(refine Bd.nat (by omega) ?_)|(refine Len.mk (by omega) ?_)|(refine MkS.vec ?_))
 all_goals (conv=>whnf)
 refine J02 J0b [2,3,7,13,14] [] [2,3,4,5,6,7,8,9,10,11,12,13,14,15,16,17,18,19,20,21,22,23,24,25,26,27,28,29] [1,0] (fun v:Nat=>[(15,.int .i64 v)]) (fun own v=>J1I own 1 (.vec c.length 1 (twF g c v))) (fun m v=>m=c.length-v/\v<=c.length) c.length 0 ⟨rfl,Nat.zero_le _⟩ rfl (fun _=>rfl) ?_ ?_
 . refine J0f (fun _ _=>[(0,some 0),(1,some 1)]) ?_ ?_ rfl
   . repeat' (first|exact True.intro|(refine⟨⟨_,rfl,?_⟩,?_⟩)|exact J0a.kf rfl|exact J0a.loc rfl|exact J0a.vec rfl rfl rfl)
   . repeat' (first|exact⟨Nat.le_refl _,rfl,fun i j hi hj=>VLe.of_eq (by obtain rfl:j=0:=(by omega);rfl)⟩|exact True.intro|(refine⟨⟨_,rfl,?_⟩,?_⟩)|exact J0a.kf rfl|(refine And.intro ?_ ?_))
 rintro m v ⟨hm,hv⟩;by_cases hvn:v<c.length
 . have h1:=hc.row v hvn;have h2:=hc.pt v hvn;have hrl:=Q1F hg v
   repeat' ((conv=>whnf);first|(refine Br.dec ?_ ?_<;>intro _<;>try omega)|(refine Ar.i64 (by omega) (by omega) ?_)|(refine Ix.nat (by omega) ?_)|(refine Ix.mk 1 rfl (by omega) ?_)|(refine Ix.int (by omega) (by omega) ?_)|(refine Ltn.mk (by omega) ?_))
   all_goals (conv=>whnf)
   . rename_i hp;refine⟨c.length-(v+1),v+1,by omega,⟨rfl,by omega⟩,?_⟩;refine J0f (fun _ _=>[(0,some 0),(1,some 1)]) ?_ ?_ rfl
     . repeat' (first|exact True.intro|(refine⟨⟨_,rfl,?_⟩,?_⟩)|exact J0a.kf rfl|exact J0a.loc rfl|exact J0a.vec rfl rfl rfl)
     . repeat' (first|exact⟨Nat.le_refl _,rfl,fun i t hi ht=>by simp only[Nat.zero_add];exact X2F g c v i t _ (if_pos hp).symm ht⟩|exact True.intro|(refine⟨⟨_,rfl,?_⟩,?_⟩)|exact J0a.kf rfl|(refine And.intro ?_ ?_))
   . rename_i hp;refine⟨c.length-(v+1),v+1,by omega,⟨rfl,by omega⟩,?_⟩;refine J0f (fun _ _=>[(0,some 0),(1,some 1)]) ?_ ?_ rfl
     . repeat' (first|exact True.intro|(refine⟨⟨_,rfl,?_⟩,?_⟩)|exact J0a.kf rfl|exact J0a.loc rfl|exact J0a.vec rfl rfl rfl)
     . repeat' (first|exact⟨Nat.le_refl _,rfl,fun i t hi ht=>by simp only[Nat.zero_add];exact Q9m g c v i t (if_neg hp) ht⟩|exact True.intro|(refine⟨⟨_,rfl,?_⟩,?_⟩)|exact J0a.kf rfl|(refine And.intro ?_ ?_))
 . repeat' ((conv=>whnf);first|(refine Br.dec ?_ ?_<;>intro _<;>try omega)|(refine Len.mk (by omega) ?_))
   all_goals (conv=>whnf)
   refine VLe.fz (Q5u g c _).symm (fun h=>h) (fun i t hi ht=>VLe.of_eq ?_);rw[Q9w,vI,Q5v g c hi];simp only[twF,Nat.zero_add];rw[if_pos (by omega)]
theorem Q3k {p:Pt} {f:Nat}:∀{k v:Nat},0<=lay p f k v->v≠f->∃l∈gR p v,lay p f k l.1.toNat=lay p f k v-1/\0<=lay p f k l.1.toNat
 | 0,v,h,hv=>by rw[lay,if_neg hv] at h;omega
 | k+1,v,h,hv=>by
   by_cases h0:0<=lay p f k v
   . obtain⟨l,hl,a,b⟩:=Q3k h0 hv;have e1:lay p f (k+1) v=lay p f k v:=by rw[lay,if_pos h0]
     have e2:lay p f (k+1) l.1.toNat=lay p f k l.1.toNat:=by rw[lay,if_pos b]
     exact⟨l,hl,by rw[e1,e2];exact a,by rw[e2];exact b⟩
   . by_cases ha:(gR p v).any (fun l=>decide (lay p f k l.1.toNat=k))=true
     . have e1:lay p f (k+1) v=(k:Int)+1:=by rw[lay,if_neg h0,if_pos ha]
       rw[List.any_eq_true] at ha;obtain⟨l,hl,e⟩:=ha;have e:=of_decide_eq_true e;have e2:lay p f (k+1) l.1.toNat=k:=by rw[lay,if_pos (by omega)];exact e
       exact⟨l,hl,by rw[e1,e2];omega,by rw[e2];omega⟩
     . rw[lay,if_neg h0,if_neg ha] at h;omega
theorem Q3w {p:Int×Int->Bool}:∀{l:Q5a} {k:Nat},(∀a∈l,p a=false)->fpI p k l=-1
 | [],k,_=>rfl
 | a::r,k,h=>by rw[fpI,h a (by simp),if_neg (by simp)];exact Q3w fun b hb=>h b (by simp[hb])
theorem Q3v {p:Int×Int->Bool}:∀{l:Q5a} {k:Nat},(∃a∈l,p a=true)->0<=fpI p k l
 | [],k,h=>by simp at h
 | a::r,k,h=>by
   rw[fpI];split
   . omega
   . rename_i hn;refine Q3v ?_;obtain⟨b,hb,e⟩:=h;rcases List.mem_cons.1 hb with rfl|hb
     . exact(hn e).elim
     . exact⟨b,hb,e⟩
theorem X0s (g:G) (hg:g.valid=true):gI (dst g 0) 0=0:=by
 obtain⟨f1,f2,f3,f4,f5,f6,f7⟩:=J0e hg;have h:∀k,lay g.ports 0 k 0=0:=by
  intro k
  induction k with
  | zero=>rfl
  | succ k ih=>rw[lay,ih];rfl
 rw[J4t g 0 (by omega),h]
theorem J8L {g:G} (hg:g.conn=true):upI g 0=-1:=by
 obtain⟨h1,h2⟩:=J0o hg;have hr:=(J6p h1).rng 0;obtain⟨f1,f2,f3,f4,f5,f6,f7⟩:=J0e h1;refine Q3w fun l hl=>decide_eq_false ?_;have:=h2 _ (hr (by omega) l hl);rw[X0s g h1];omega
theorem Q2E {g:G} (hg:g.conn=true) {v:Nat} (hv:v<g.ports.length) (h0:v≠0):0<=upI g v/\upI g v<(gR g.ports v).length:=by
 obtain⟨h1,h2⟩:=J0o hg;have hr:=(J6p h1).rng v hv;have hd:=h2 v hv;rw[J4t g 0 hv] at hd;obtain⟨l,hl,a,b⟩:=Q3k hd h0;have h3:0<=upI g v:=Q3v ⟨l,hl,decide_eq_true (by rw[J4t g 0 (hr l hl),J4t g 0 hv];exact a)⟩;have:=J67 (J84 g v) (gR g.ports v) 0;refine⟨h3,?_⟩;unfold upI at *;omega
theorem ptok {g:G} {c:Cf} (h:g.valid=true) (hc:g.cconf c=true):Y01 g c:=by
 obtain⟨f1,f2,f3,f4,f5,f6,f7⟩:=J0e h;obtain⟨e1,e2⟩:=J4v hc;exact⟨by omega,fun v hv=>by have:=e2 v hv;omega,fun v hv=>by have:=e2 v hv;omega⟩
theorem Q9l {g:G} {c:Cf} (hg:g.conn=true) (hc:Y01 g c) (ht:J5Y g c=true) {v:Nat} (hv:v<c.length):(v=0->tw g c v=-1)/\(v≠0->0<=tw g c v/\tw g c v<c.length):=by
 obtain⟨h1,h2⟩:=J0o hg;obtain⟨f1,f2,f3,f4,f5,f6,f7⟩:=J0e h1;have hl:=hc.len;have h:=(J22.1 ht v hv).2;refine⟨fun e=>?_,fun e=>?_⟩
 . subst e;rw[tw,h,J8L hg,if_neg (by omega)]
 . obtain⟨a,b⟩:=Q2E hg (show v<g.ports.length by omega) e;have:=Q1M (f6 v (by omega)) (i:=(upI g v).toNat) (by omega);rw[tw,h,if_pos a];omega
theorem X2E {g:G} {c:Cf} (hg:g.conn=true) (hc:g.cconf c=true) (ht:J5Y g c=true) {v:Nat} (hv:v<c.length):(v=0->tw g c v=-1)/\(v≠0->0<=tw g c v/\tw g c v<c.length) :=
 Q9l hg (ptok (J0o hg).1 hc) ht hv
end Go.Proofs.YtlpfphlbghdokaaGreatDoor
namespace Go.Plain.Tree
structure Net (n:Nat) (a:Nat->Nat->Bool) (D:Nat->Nat):Prop where
 rng:∀u v,u<n->a u v=true->v<n
 root:∀v,v<n->(D v=0↔v=0)
 near:∀v,v<n->v≠0->∃u,a v u=true/\D u+1=D v
 step:∀u v,u<n->a u v=true->D u<=D v+1
 top:∀v,v<n->D v+1<=n
structure St where
 d:Nat->Int
 p:Nat->Int
structure Rule (n:Nat) (a:Nat->Nat->Bool) (D:Nat->Nat) (P:Nat->Int) (tg:(Nat->Int)->Nat->Int×Int):Prop where
 root:∀d,tg d 0=(0,-1)
 right:∀d v,v<n->v≠0->(∀u,a v u=true->D u+1=D v->d u=((D u:Nat):Int))->(∀u,a v u=true->D v<=D u->(D v:Int)<=d u)->tg d v=(((D v:Nat):Int),P v)
 low:∀d v (k:Nat),v<n->v≠0->k+1<=n->(∀u,a v u=true->(k:Int)<=d u)->((k+1:Nat):Int)<=(tg d v).1
 proot:P 0=-1
variable {n:Nat} {a:Nat->Nat->Bool} {D:Nat->Nat} {P:Nat->Int} {tg:(Nat->Int)->Nat->Int×Int}
def right (D:Nat->Nat) (P:Nat->Int) (s:St) (v:Nat):Prop:=s.d v=((D v:Nat):Int)/\s.p v=P v
def off (tg:(Nat->Int)->Nat->Int×Int) (s:St) (v:Nat):Prop:=(s.d v,s.p v)≠tg s.d v
def Step (n:Nat) (tg:(Nat->Int)->Nat->Int×Int) (s:St) (c:Nat->Bool) (s':St):Prop :=
 ∀v,v<n->(c v=true->off tg s v->(s'.d v,s'.p v)=tg s.d v)/\(c v=false\/¬ off tg s v->s'.d v=s.d v/\s'.p v=s.p v)
structure Ok (n:Nat) (D:Nat->Nat) (P:Nat->Int) (s:St) (k:Nat):Prop where
 low:∀v,v<n->D v<k->right D P s v
 far:∀v,v<n->k<=D v->(k:Int)<=s.d v
def bad (D:Nat->Nat) (P:Nat->Int) (s:St) (k v:Nat):Prop:=(D v=k/\¬ right D P s v)\/(k<D v/\s.d v<(k:Int)+1)
theorem Ok.start {s:St} (h:∀v,v<n->0<=s.d v):Ok n D P s 0:=⟨fun v _ h=>by omega,fun v hv _=>by simpa using h v hv⟩
theorem Ok.tgt (hN:Net n a D) (hR:Rule n a D P tg) {s:St} {k:Nat} (h:Ok n D P s k) {v:Nat} (hv:v<n) (hk:D v<=k):tg s.d v=(((D v:Nat):Int),P v):=by
 by_cases h0:v=0
 . subst h0;rw[hR.root,(hN.root 0 hv).2 rfl,hR.proot];rfl
 . refine hR.right s.d v hv h0 (fun u hu e=>?_) (fun u hu e=>?_)
   . exact(h.low u (hN.rng v u hv hu) (by omega)).1
   . have hun:=hN.rng v u hv hu;by_cases q:D u<k
     . rw[(h.low u hun q).1];omega
     . have:=h.far u hun (by omega);omega
theorem Ok.tgfar (hN:Net n a D) (hR:Rule n a D P tg) {s:St} {k:Nat} (h:Ok n D P s k) {v:Nat} (hv:v<n) (hk:k<D v):((k+1:Nat):Int)<=(tg s.d v).1:=by
 have h0:v≠0:=fun e=>by have:=(hN.root v hv).2 e;omega
 have ht:=hN.top v hv;refine hR.low s.d v k hv h0 (by omega) fun u hu=>?_;have:=hN.step v u hv hu;exact h.far u (hN.rng v u hv hu) (by omega)
theorem Ok.off_bad (hN:Net n a D) (hR:Rule n a D P tg) {s:St} {k:Nat} (h:Ok n D P s k) {v:Nat} (hv:v<n) (hb:bad D P s k v):off tg s v:=by
 rcases hb with ⟨h1,h2⟩ | ⟨h1,h2⟩
 . intro e;rw[h.tgt hN hR hv (by omega)] at e;exact h2 ⟨(Prod.mk.inj e).1,(Prod.mk.inj e).2⟩
 . intro e;have:=h.tgfar hN hR hv h1;rw[<- e] at this;simp only at this;omega
theorem Ok.step (hN:Net n a D) (hR:Rule n a D P tg) {s s':St} {c:Nat->Bool} {k:Nat} (h:Ok n D P s k) (hs:Step n tg s c s') :
 Ok n D P s' k/\∀v,v<n->bad D P s' k v->bad D P s k v/\c v=false:=by
 have key:∀v,v<n->(c v=true/\off tg s v/\(s'.d v,s'.p v)=tg s.d v)\/((c v=false\/¬ off tg s v)/\s'.d v=s.d v/\s'.p v=s.p v):=fun v hv=>by
  obtain⟨h1,h2⟩:=hs v hv;by_cases q:c v=false\/¬ off tg s v
  . exact .inr ⟨q,h2 q⟩
  . have qc:c v=true:=by
     cases e:c v with
     | true=>rfl
     | false=>exact(q (.inl e)).elim
    have qo:off tg s v:=Classical.byContradiction fun e=>q (.inr e);exact .inl ⟨qc,qo,h1 qc qo⟩
 have low':∀v,v<n->D v<k->right D P s' v:=fun v hv hk=>by
  rcases key v hv with ⟨_,_,e⟩ | ⟨_,e1,e2⟩
  . rw[h.tgt hN hR hv (by omega)] at e;exact⟨(Prod.mk.inj e).1,(Prod.mk.inj e).2⟩
  . obtain⟨r1,r2⟩:=h.low v hv hk;exact⟨by rw[e1];exact r1,by rw[e2];exact r2⟩
 have far':∀v,v<n->k<=D v->(k:Int)<=s'.d v:=fun v hv hk=>by
  rcases key v hv with ⟨_,_,e⟩ | ⟨_,e1,_⟩
  . by_cases q:D v=k
    . rw[h.tgt hN hR hv (by omega)] at e;rw[(Prod.mk.inj e).1];omega
    . have:=h.tgfar hN hR hv (by omega);rw[<- e] at this;simp only at this;omega
  . rw[e1];exact h.far v hv hk
 refine⟨⟨low',far'⟩,fun v hv hb=>?_⟩;rcases key v hv with ⟨_,_,e⟩ | ⟨q,e1,e2⟩
 . exfalso;rcases hb with ⟨h1,h2⟩ | ⟨h1,h2⟩
   . rw[h.tgt hN hR hv (by omega)] at e;exact h2 ⟨(Prod.mk.inj e).1,(Prod.mk.inj e).2⟩
   . have:=h.tgfar hN hR hv h1;rw[<- e] at this;simp only at this;omega
 . have hb0:bad D P s k v:=by
    rcases hb with ⟨h1,h2⟩ | ⟨h1,h2⟩
    . exact .inl ⟨h1,fun r=>h2 ⟨by rw[e1];exact r.1,by rw[e2];exact r.2⟩⟩
    . exact .inr ⟨h1,by rw[<- e1];exact h2⟩
   refine⟨hb0,?_⟩;rcases q with q|q
   . exact q
   . exact(q (h.off_bad hN hR hv hb0)).elim
theorem Ok.next {s:St} {k:Nat} (h:Ok n D P s k) (hb:∀v,v<n->¬ bad D P s k v):Ok n D P s (k+1):=by
 refine⟨fun v hv hk=>?_,fun v hv hk=>?_⟩
 . by_cases e:D v=k
   . exact Classical.byContradiction fun q=>hb v hv (.inl ⟨e,q⟩)
   . exact h.low v hv (by omega)
 . have:=hb v hv;apply Classical.byContradiction;intro q;exact this (.inr ⟨by omega,by omega⟩)
theorem Ok.all (hN:Net n a D) (hR:Rule n a D P tg) {s:St} {k:Nat} (h:Ok n D P s k) {v:Nat} (hv:v<n) (hk:D v<k):¬ off tg s v:=fun e=>by
 obtain⟨r1,r2⟩:=h.low v hv hk;apply e;rw[h.tgt hN hR hv (by omega),r1,r2]
end Go.Plain.Tree
namespace Go.Proofs.YtlpfphlbghdokaaGreatDoor
open Go.Eng
set_option maxRecDepth 100000
set_option linter.unusedVariables false
def Dg (g:G) (v:Nat):Nat:=(gI (dst g 0) v).toNat
theorem J7h {g:G} (h:g.conn=true) {v:Nat} (hv:v<g.ids.length):((Dg g v:Nat):Int)=gI (dst g 0) v:=by
 obtain⟨h1,h2⟩:=J0o h;obtain⟨f1,f2,f3,f4,f5,f6,f7⟩:=J0e h1;have:=h2 v (by omega);rw[Dg];omega
theorem Q44 {g:G} (h:g.conn=true):Go.Plain.Tree.Net g.ids.length (adN g) (Dg g):=by
 obtain⟨h1,h2⟩:=J0o h;obtain⟨f1,f2,f3,f4,f5,f6,f7⟩:=J0e h1;have hu:=J6p h1;have hF:=Q0Q h1;have hD:=fun v (hv:v<g.ids.length)=>J7h h hv;have near:∀v,v<g.ids.length->v≠0->∃u,adN g v u=true/\Dg g u+1=Dg g v:=fun v hv h0=>by
  obtain⟨l,hl,a,b⟩:=hF.back v (by omega) h0 (h2 v (by omega));have hln:=hu.rng v (by omega) l hl;have e1:=hD v hv;have e2:=hD l.1.toNat (by omega);exact⟨l.1.toNat,J2H.2 ⟨l,hl,rfl⟩,by omega⟩
 refine⟨fun u v hu' hv=>(J9z h1).rng u v hu' hv,fun v hv=>⟨fun e=>?_,fun e=>?_⟩,near,fun u v hun huv=>?_,fun v hv=>?_⟩
 . apply Classical.byContradiction;intro h0;obtain⟨u,_,q⟩:=near v hv h0;omega
 . subst e;have:=hD 0 hv;have e0:=hF.from_;omega
 . have hvn:=(J9z h1).rng u v hun huv;have hvu:=(J9z h1).sym u v hun hvn huv;obtain⟨l,hl,e⟩:=J2H.1 hvu;have:=(hF.on v (by omega) (h2 v (by omega)) l hl).2;rw[e] at this;have e1:=hD v hvn;have e2:=hD u hun;omega
 . have:=hF.lt hu (v:=v) (by omega);have e1:=hD v hv;omega
theorem Q6E:∀(l:List Int) (m:Int),Q1i l m<=m/\∀a∈l,Q1i l m<=a
 | [],m=>⟨Int.le_refl _,by simp⟩
 | a::r,m=>by
   have q1:(if a<m then a else m)<=m:=by split<;>omega
   have q2:(if a<m then a else m)<=a:=by split<;>omega
   obtain⟨h1,h2⟩:=Q6E r (if a<m then a else m);rw[Q1i];refine⟨Int.le_trans h1 q1,fun b hb=>?_⟩;rcases List.mem_cons.1 hb with e|hb
   . rw[e];exact Int.le_trans h1 q2
   . exact h2 b hb
theorem J85:∀(l:List Int) (m k:Int),k<=m->(∀a∈l,k<=a)->k<=Q1i l m
 | [],m,k,h,_=>h
 | a::r,m,k,h,ha=>by
   rw[Q1i];exact J85 r _ k (by have:=ha a (by simp);split<;>omega) (fun b hb=>ha b (by simp[hb]))
def mnD (g:G) (d:Nat->Int) (v:Nat):Int:=Q1i ((gR g.ports v).map fun l=>d l.1.toNat) 1073741824
def tgB (g:G) (d:Nat->Int) (v:Nat):Int×Int :=
 if v=0 then (0,-1) else (if mnD g d v<g.ids.length then mnD g d v+1 else g.ids.length,fpI (fun l=>decide (d l.1.toNat=mnD g d v)) 0 (gR g.ports v))
theorem Q7v {p q:Int×Int->Bool}:∀{r:Q5a} {k:Nat},(∀l∈r,p l=q l)->fpI p k r=fpI q k r
 | [],_,_=>rfl
 | l::r,k,h=>by rw[fpI,fpI,h l (by simp),Q7v (fun x hx=>h x (by simp[hx]))]
theorem Q5Q {g:G} (h:g.conn=true):Go.Plain.Tree.Rule g.ids.length (adN g) (Dg g) (upI g) (tgB g):=by
 obtain⟨h1,h2⟩:=J0o h;obtain⟨f1,f2,f3,f4,f5,f6,f7⟩:=J0e h1;have hN:=Q44 h;have hu:=J6p h1;refine⟨fun d=>if_pos rfl,fun d v hv h0 hr1 hr2=>?_,fun d v k hv h0 hk hd=>?_,J8L h⟩
 . have hmem:∀l∈gR g.ports v,adN g v l.1.toNat=true:=fun l hl=>J2H.2 ⟨l,hl,rfl⟩;have h4:=hN.top v hv;have hm:mnD g d v=((Dg g v:Nat):Int)-1:=by
    obtain⟨u,hu1,hu2⟩:=hN.near v hv h0;obtain⟨l,hl,e⟩:=J2H.1 hu1;have a1:=(Q6E ((gR g.ports v).map fun l=>d l.1.toNat) 1073741824).2 (d u) (List.mem_map.2 ⟨l,hl,by rw[e]⟩);rw[hr1 u hu1 hu2] at a1;have a2:((Dg g v:Nat):Int)-1<=Q1i ((gR g.ports v).map fun l=>d l.1.toNat) 1073741824:=by
     refine J85 _ _ _ (by omega) fun b hb=>?_;obtain⟨l',hl',rfl⟩:=List.mem_map.1 hb;have hal:=hmem l' hl';by_cases q:Dg g v<=Dg g l'.1.toNat
     . have:=hr2 _ hal q;omega
     . have hs:=hN.step v l'.1.toNat hv hal;rw[hr1 _ hal (by omega)];omega
    rw[mnD];omega
   have hv1:1<=Dg g v:=by
    have:=(hN.root v hv);omega
   rw[tgB,if_neg h0,hm,if_pos (by omega)];refine Prod.ext (by simp only;omega) ?_;show fpI _ 0 _=fpI (J84 g v) 0 _;refine Q7v fun l hl=>?_;have hal:=hmem l hl;have hln:=hN.rng v l.1.toNat hv hal;have e1:=J7h h hv;have e2:=J7h h hln;have hs:=hN.step v l.1.toNat hv hal;rw[J84,decide_eq_decide,<- e1,<- e2];by_cases q:Dg g v<=Dg g l.1.toNat
   . have:=hr2 _ hal q;omega
   . rw[hr1 _ hal (by omega)]
 . have hm:(k:Int)<=mnD g d v:=by
    refine J85 _ _ _ (by omega) fun b hb=>?_;obtain⟨l,hl,rfl⟩:=List.mem_map.1 hb;exact hd _ (J2H.2 ⟨l,hl,rfl⟩)
   rw[tgB,if_neg h0];simp only;split<;>omega
def mnT:Tm:=.agg 24 (.leaf 12 0)
def dTm:Tm:=.ite (.bin 37 mnT (.leaf 6 0)) (.bin 33 mnT (.leaf 1 1)) (.leaf 6 0)
def pTm:Tm:=.agg 23 (.bin 35 (.leaf 12 0) mnT)
def X7C:Tm:=.bin 41 (.leaf 10 0) (.bin 42 (.bin 36 (.leaf 5 0) (.leaf 1 0)) (.bin 36 (.leaf 5 1) (.leaf 4 0)))
def X88:Tm:=.bin 41 (.un 19 (.leaf 10 0)) (.bin 42 (.bin 36 (.leaf 5 0) dTm) (.bin 36 (.leaf 5 1) pTm))
abbrev dC (c:Cf) (v:Nat):Int:=gI (gC c v) 0
abbrev pC (c:Cf) (v:Nat):Int:=gI (gC c v) 1
theorem Q0c (r:Q5a) (f:Int×Int->Int):((List.range r.length).map fun i=>f (gF r i))=r.map f:=by
 refine List.ext_getElem (by simp) fun i h1 h2=>?_;simp at h1;simp[gF,List.getD,h1]
theorem X1I (g:G) (c:Cf) (v:Nat) (port:Int):mnT.sem g c v port=mnD g (dC c) v:=by
 show Q1i ((List.range (gR g.ports v).length).map fun(i:Nat)=>gI (gC c (nbV g v i)) 0) 1073741824=_;rw[mnD,<- Q0c (gR g.ports v) (fun l=>dC c l.1.toNat)];simp only[nbV,Int.toNat_natCast]
theorem X5X {g:G} {c:Cf} (hd:∀v,v<g.ids.length->0<=dC c v) (hg:g.valid=true) {v:Nat} (hv:v<g.ids.length):0<=mnD g (dC c) v:=by
 obtain⟨f1,f2,f3,f4,f5,f6,f7⟩:=J0e hg;have hok:=(J1k.1 (f6 v (by omega))).1;refine J85 _ _ _ (by omega) fun b hb=>?_;obtain⟨l,hl,rfl⟩:=List.mem_map.1 hb;have:=hok l hl;exact hd _ (by omega)
theorem X6y {g:G} (hg:g.valid=true) {c:Cf} (hd:∀v,v<g.ids.length->0<=dC c v) {v:Nat} (hv:v<g.ids.length) (h0:v≠0) (port:Int):dTm.sem g c v port=(tgB g (dC c) v).1:=by
 obtain⟨f1,f2,f3,f4,f5,f6,f7⟩:=J0e hg;have hm:=X5X hd hg hv;show(if J1G (decide (mnT.sem g c v port<(g.ids.length:Int)))≠0 then sat (mnT.sem g c v port+1) else (g.ids.length:Int))=_;rw[X1I,tgB,if_neg h0];simp only;by_cases q:mnD g (dC c) v<g.ids.length
 . rw[decide_eq_true q,if_pos (by decide),if_pos q,Q5N (by unfold inR;omega)]
 . rw[decide_eq_false q,if_neg (by decide),if_neg q]
theorem Q7d {f:Int×Int->Int} {p:Int×Int->Bool}:∀{r:Q5a} {k:Nat},(∀l∈r,f l≠0↔p l=true)->Q0B k (r.map f)=fpI p k r
 | [],_,_=>rfl
 | l::r,k,h=>by
   have h1:=h l (by simp);rw[List.map_cons,Q0B,fpI,Q7d (fun x hx=>h x (by simp[hx]))];by_cases e:p l=true
   . rw[if_pos (h1.2 e),if_pos e]
   . rw[if_neg (fun q=>e (h1.1 q)),if_neg e]
theorem X5B (g:G) (c:Cf) (v:Nat) (h0:v≠0) (port:Int):pTm.sem g c v port=(tgB g (dC c) v).2:=by
 show Q0B 0 ((List.range (gR g.ports v).length).map fun(i:Nat)=>J1G (decide (gI (gC c (nbV g v i)) 0=mnT.sem g c v i)))=_;rw[tgB,if_neg h0];simp only;have e:((List.range (gR g.ports v).length).map fun(i:Nat)=>J1G (decide (gI (gC c (nbV g v i)) 0=mnT.sem g c v i)))=(gR g.ports v).map fun l=>J1G (decide (dC c l.1.toNat=mnD g (dC c) v)):=by
  rw[<- Q0c (gR g.ports v) (fun l=>J1G (decide (dC c l.1.toNat=mnD g (dC c) v)))];simp only[nbV,Int.toNat_natCast,X1I]
 rw[e];exact Q7d fun l _=>by rw[J2b]
def Q24 (g:G) (c:Cf) (v:Nat):Bool:=decide ((dC c v,pC c v)≠tgB g (dC c) v)
theorem Q5y (g:G) (c:Cf) (v:Nat):X7C.sem g c v (-1)=J1G (decide (v=0)&&Q24 g c v):=by
 show J1G (decide (J1G (decide (v=0))≠0/\J1G (decide (J1G (decide (dC c v≠0))≠0\/J1G (decide (pC c v≠-1))≠0))≠0))=_;congr 1;simp only[J2b,decide_eq_true_eq];by_cases h0:v=0
 . rw[Q24,tgB,if_pos h0];simp only[h0,true_and,decide_true,Bool.true_and];rw[decide_eq_decide];simp only[ne_eq,Prod.mk.injEq];exact(Classical.not_and_iff_not_or_not).symm
 . simp[h0]
theorem Q6O {g:G} (hg:g.valid=true) {c:Cf} (hd:∀v,v<g.ids.length->0<=dC c v) {v:Nat} (hv:v<g.ids.length):X88.sem g c v (-1)=J1G (!decide (v=0)&&Q24 g c v):=by
 show J1G (decide (J1G (decide (J1G (decide (v=0))=0))≠0/\J1G (decide (J1G (decide (dC c v≠dTm.sem g c v (-1)))≠0\/J1G (decide (pC c v≠pTm.sem g c v (-1)))≠0))≠0))=_;congr 1;simp only[J2b,Q3n,decide_eq_true_eq,decide_eq_false_iff_not];by_cases h0:v=0
 . simp[h0]
 . rw[X6y hg hd hv h0,X5B g c v h0,Q24];simp only[h0,not_false_eq_true,true_and,decide_false,Bool.not_false,Bool.true_and];rw[decide_eq_decide];generalize tgB g (dC c) v=t;obtain⟨t1,t2⟩:=t;simp only[ne_eq,Prod.mk.injEq];exact(Classical.not_and_iff_not_or_not).symm
end Go.Proofs.YtlpfphlbghdokaaGreatDoor
namespace Go.Plain.Clock
structure Tree (n:Nat) (par:Nat->Nat) (D:Nat->Nat) (E:Nat):Prop where
 pos:0<n
 lt:∀v,v<n->v≠0->par v<n
 dep:∀v,v<n->v≠0->D v=D (par v)+1
 root:D 0=0
 top:∀v,v<n->D v<=E
variable {n:Nat} {par:Nat->Nat} {D:Nat->Nat} {E:Nat} {x:Nat->Int} {s p:Nat->Bool}
def child (n:Nat) (par:Nat->Nat) (v c:Nat):Prop:=c<n/\c≠0/\par c=v
def dif (par:Nat->Nat) (x:Nat->Int) (v:Nat):Prop:=x v≠x (par v)
def en (n:Nat) (par:Nat->Nat) (x:Nat->Int) (v:Nat):Prop:=(∀c,child n par v c->¬ dif par x c)/\(v≠0->dif par x v)
def st (par:Nat->Nat) (s:Nat->Bool) (x:Nat->Int):Nat->Int:=fun v=>if s v=true then (if v=0 then (x 0+1) % 4 else x (par v)) else x v
def df (par:Nat->Nat) (x:Nat->Int) (v:Nat):Int:=(x (par v)-x v) % 4
def bad (par:Nat->Nat) (x:Nat->Int) (v:Nat):Prop:=1<df par x v
structure Ch (n:Nat) (par:Nat->Nat) (x:Nat->Int) (s:Nat->Bool):Prop where
 en:∀v,s v=true->v<n/\en n par x v
theorem bad_dif {v:Nat} (h:bad par x v):dif par x v:=fun e=>by
 rw[bad,df,e,Int.sub_self,Int.zero_emod] at h;omega
theorem Q0f (hc:Ch n par x s) {v:Nat} (hv:v<n) (h0:v≠0) (hd:dif par x v):s (par v)=false:=by
 cases e:s (par v) with
 | false=>rfl
 | true=>exact((hc.en _ e).2.1 v ⟨hv,h0,rfl⟩ hd).elim
theorem keep (hc:Ch n par x s) {v:Nat} (hv:v<n) (h0:v≠0) (hd:dif par x v) (hs:s v=false):dif par (st par s x) v:=by
 rw[dif,st,st,Q0f hc hv h0 hd,hs];exact hd
theorem fall (hc:Ch n par x s) {v:Nat} (h0:v≠0) (hd:¬ dif par x v) (hp:s (par v)=false):¬ dif par (st par s x) v:=by
 have hs:s v=false:=by
  cases e:s v with
  | false=>rfl
  | true=>exact(hd ((hc.en v e).2.2 h0)).elim
 rw[dif,st,st,hp,hs];exact hd
theorem X5W (hc:Ch n par x s) {v:Nat} (hv:v<n) (h0:v≠0) (hs:s v=true):¬ dif par (st par s x) v:=by
 have hd:=(hc.en v hs).2.2 h0;rw[dif,st,st,Q0f hc hv h0 hd,if_pos hs,if_neg h0];simp
def Q1e (n:Nat) (par:Nat->Nat) (x:Nat->Int) (p:Nat->Bool):Nat->Nat->Prop
 | 0,_=>False
 | 1,v=>p v=true/\∀c,child n par v c->¬ dif par x c
 | j+2,v=>∀c,child n par v c->dif par x c->Q1e n par x p (j+1) c
theorem Q1e.step (hT:Tree n par D E) (hc:Ch n par x s) {p':Nat->Bool} (hp:∀v,v<n->p v=true->s v=false->en n par (st par s x) v->p' v=true) :
 ∀(j v:Nat),v<n->v≠0->dif par x v->s v=false->Q1e n par x p j v->Q1e n par (st par s x) p' j v
 | 0,_,_,_,_,_,h=>h
 | 1,v,hv,h0,hd,hs,h=>by
   have hch:∀c,child n par v c->¬ dif par (st par s x) c:=fun c hcc=>fall hc hcc.2.1 (h.2 c hcc) (by rw[hcc.2.2];exact hs);exact⟨hp v hv h.1 hs ⟨hch,fun _=>keep hc hv h0 hd hs⟩,hch⟩
 | j+2,v,hv,h0,hd,hs,h=>by
   intro c hcc hdc;have hd0:dif par x c:=Classical.byContradiction fun q=>fall hc hcc.2.1 q (by rw[hcc.2.2];exact hs) hdc;have hsc:s c=false:=by
    cases e:s c with
    | false=>rfl
    | true=>exact(X5W hc hcc.1 hcc.2.1 e hdc).elim
   exact Q1e.step hT hc hp (j+1) c hcc.1 hcc.2.1 hd0 hsc (h c hcc hd0)
theorem Q1e.round {q:Nat->Bool} (hz:∀v,v<n->p v=false) (hq:∀v,v<n->en n par x v->q v=true):∀(j v:Nat),v<n->v≠0->dif par x v->Q1e n par x p (j+1) v->Q1e n par x q j v
 | 0,v,hv,_,_,h=>by have:=h.1;rw[hz v hv] at this;cases this
 | 1,v,hv,h0,hd,h=>by
   have hch:∀c,child n par v c->¬ dif par x c:=fun c hcc hdc=>by
    have:=(h c hcc hdc).1;rw[hz c hcc.1] at this;cases this
   exact⟨hq v hv ⟨hch,fun _=>hd⟩,hch⟩
 | j+2,v,hv,h0,hd,h=>fun c hcc hdc=>Q1e.round hz hq (j+1) c hcc.1 hcc.2.1 hdc (h c hcc hdc)
theorem Q1e.start (hT:Tree n par D E) (hq:∀v,v<n->en n par x v->p v=true):∀(j v:Nat),v<n->v≠0->dif par x v->D v+j=E+1->Q1e n par x p j v
 | 0,v,hv,_,_,h=>by have:=hT.top v hv;omega
 | 1,v,hv,h0,hd,h=>by
   have hch:∀c,child n par v c->¬ dif par x c:=fun c hcc _=>by
    have h1:=hT.dep c hcc.1 hcc.2.1;have h2:=hT.top c hcc.1;rw[hcc.2.2] at h1;omega
   exact⟨hq v hv ⟨hch,fun _=>hd⟩,hch⟩
 | j+2,v,hv,h0,hd,h=>fun c hcc hdc=>Q1e.start hT hq (j+1) c hcc.1 hcc.2.1 hdc (by
   have h1:=hT.dep c hcc.1 hcc.2.1;rw[hcc.2.2] at h1;omega)
theorem bad_back (hT:Tree n par D E) (hc:Ch n par x s) (hx:∀v,v<n->0<=x v/\x v<=3) {v:Nat} (hv:v<n) (h0:v≠0) (hb:bad par (st par s x) v):(bad par x v/\s v=false)\/(par v≠0/\bad par x (par v)):=by
 have hd:=bad_dif hb;have hs:s v=false:=by
  cases e:s v with
  | false=>rfl
  | true=>exact(X5W hc hv h0 e hd).elim
 cases e:s (par v) with
 | false =>
   left;rw[bad,df,st,st,e,hs] at hb;exact⟨hb,hs⟩
 | true =>
   have hpn:=hT.lt v hv h0;have hxe:x v=x (par v):=Classical.byContradiction fun q=>(hc.en _ e).2.1 v ⟨hv,h0,rfl⟩ q;simp only[bad,df,st,e,hs,if_true,Bool.false_eq_true,if_false] at hb;by_cases q:par v=0
   . exfalso;rw[if_pos q,hxe,q] at hb;have:=hx 0 hT.pos;omega
   . right;rw[if_neg q,hxe] at hb;exact⟨q,hb⟩
def tri:Nat->Nat
 | 0=>0
 | k+1=>tri k+k
structure Lev (n:Nat) (par:Nat->Nat) (D:Nat->Nat) (E:Nat) (x:Nat->Int) (p:Nat->Bool) (R r:Nat) (i j:Nat):Prop where
 i1:1<=i
 j1:1<=j
 up:∀v,v<n->v≠0->D v<i->¬ bad par x v
 at_:∀v,v<n->v≠0->D v=i->bad par x v->Q1e n par x p j v
 ij:i+j<=E+1
 bud:r+tri (E+1-i)+j<=R+tri (E+1)
theorem dep_pos (hT:Tree n par D E) {v:Nat} (hv:v<n) (h0:v≠0):1<=D v:=by have:=hT.dep v hv h0;omega
theorem Lev.start (hT:Tree n par D E) (hE:1<=E) (hq:∀v,v<n->en n par x v->p v=true) {R r:Nat} (hr:r<=R):Lev n par D E x p R r 1 E :=
 ⟨Nat.le_refl _,hE,fun v hv h0 h=>by have:=dep_pos hT hv h0;omega,fun v hv h0 h hb=>Q1e.start hT hq E v hv h0 (bad_dif hb) (by omega),by omega,by
   rw[show E+1-1=E by omega,tri];omega⟩
theorem Lev.step (hT:Tree n par D E) (hc:Ch n par x s) (hx:∀v,v<n->0<=x v/\x v<=3) {p':Nat->Bool} {R r i j:Nat} (h:Lev n par D E x p R r i j)
 (hp:∀v,v<n->p v=true->s v=false->en n par (st par s x) v->p' v=true):Lev n par D E (st par s x) p' R r i j:=by
 refine⟨h.i1,h.j1,fun v hv h0 hi hb=>?_,fun v hv h0 hi hb=>?_,h.ij,h.bud⟩
 . rcases bad_back hT hc hx hv h0 hb with ⟨q,_⟩ | ⟨q1,q2⟩
   . exact h.up v hv h0 hi q
   . exact h.up (par v) (hT.lt v hv h0) q1 (by have:=hT.dep v hv h0;omega) q2
 . rcases bad_back hT hc hx hv h0 hb with ⟨q,q2⟩ | ⟨q1,q2⟩
   . exact Q1e.step hT hc hp j v hv h0 (bad_dif q) q2 (h.at_ v hv h0 hi q)
   . exact(h.up (par v) (hT.lt v hv h0) q1 (by have:=hT.dep v hv h0;omega) q2).elim
theorem Lev.round (hT:Tree n par D E) {q:Nat->Bool} {R r i j:Nat} (h:Lev n par D E x p R r i j) (hz:∀v,v<n->p v=false) (hq:∀v,v<n->en n par x v->q v=true) (hb:∃v,v<n/\v≠0/\bad par x v) :
 ∃i' j',Lev n par D E x q R (r+1) i' j':=by
 by_cases h1:j=1
 . subst h1;have no:∀v,v<n->v≠0->D v<i+1->¬ bad par x v:=fun v hv h0 hi hbv=>by
    by_cases e:D v=i
    . have:=(h.at_ v hv h0 e hbv).1;rw[hz v hv] at this;cases this
    . exact h.up v hv h0 (by omega) hbv
   obtain⟨v,hv,h0,hbv⟩:=hb;have hiE:i+1<=E:=by
    have:=hT.top v hv;apply Classical.byContradiction;intro hne;exact no v hv h0 (by omega) hbv
   have hbud:=h.bud;refine⟨i+1,E-i,by omega,by omega,no,fun v hv h0 hi hbv=>Q1e.start hT hq (E-i) v hv h0 (bad_dif hbv) (by omega),by omega,?_⟩;have e:E+1-i=(E+1-(i+1))+1:=by omega
   rw[e,tri] at hbud;omega
 . have hj:=h.j1;obtain⟨k,rfl⟩:∃k,j=k+1:=⟨j-1,by omega⟩;have hbud:=h.bud;have hij:=h.ij;exact⟨i,k,h.i1,by omega,h.up,fun v hv h0 hi hbv=>Q1e.round hz hq k v hv h0 (bad_dif hbv) (h.at_ v hv h0 hi hbv),by omega,by omega⟩
end Go.Plain.Clock
namespace Go.Proofs.YtlpfphlbghdokaaGreatDoor
open Go.Eng
set_option maxRecDepth 100000
set_option linter.unusedVariables false
def phD (c:Cf) (v:Nat) (u:Int):Int:=(gI (gC c u.toNat) 2-gI (gC c v) 2+4).tmod 4
def phB (g:G) (c:Cf):Bool:=decide (∀v,v<c.length->0<=tw g c v->phD c v (tw g c v)<=1)
theorem Q1L {g:G} {c:Cf}:phB g c=true↔∀v,v<c.length->0<=tw g c v->phD c v (tw g c v)<=1:=by rw[phB,decide_eq_true_eq]
theorem Q9n (g:G) (c:Cf):J5Y g (tkC c)=J5Y g c:=by
 rw[Bool.eq_iff_iff,J22,J22,J8P];refine⟨fun h v hv=>?_,fun h v hv=>?_⟩
 . have:=h v hv
   rwa[J5b,J34 _ 0 (by omega),J34 _ 1 (by omega)] at this
 . rw[J5b,J34 _ 0 (by omega),J34 _ 1 (by omega)];exact h v hv
theorem X04 {g:G} {c:Cf} (h:g.cconf c=true):g.bconf (tkC c)=true:=by
 have h1:=J2p.1 h;refine J2p.2 ⟨by rw[J8P];exact h1.1,fun v hv=>?_⟩;have h2:=h1.2 v hv;refine⟨by rw[J5b,List.length_take,h2.1];rfl,fun x hx=>?_⟩;have h3:=h2.2 x (by omega);rw[J5b,J34 _ x hx];rcases (show x=0\/x=1 by omega) with rfl|rfl
 . rw[bG,show gI [(g.ids.length:Int),-1] 0=g.ids.length from rfl,if_neg (by omega)];exact h3
 . exact h3
theorem Q7U {c:Cf} (h:J3R c):J3R (tkC c):=by
 refine⟨by rw[J8P];exact h.len,fun r hr=>?_⟩;obtain⟨a,ha,rfl⟩:=List.mem_map.1 hr;have:=h.rows a ha;rw[List.length_take];omega
theorem X5A (c:Cf) (v:Nat) (u:Nat):(gI (gC c u) 2-gI (gC c v) 2+4).tmod 4=phD c v u:=by simp[phD]
theorem Q0X (g:G) (hs:g.Small) (c:Cf) (hc:J3R c):Ret Tryz.prog 11 [g.v,cV c] (.bool (g.conn&&g.cconf c&&J5Y g c&&phB g c)):=by
 have h0:=J3h g hs c hc;refine J0g rfl ?_;refine J0d J0b Tryz.func11 rfl hc11 hr11 rfl ?_;cases hgc:g.conn&&g.cconf c with
 | false =>
   rw[hgc] at h0
   repeat' ((conv=>whnf);first|(refine Br.ff ?_)|(refine h0.go ?_))
   all_goals (conv=>whnf)
   exact VLe.rfl
 | true =>
   rw[hgc] at h0;rw[Bool.true_and];rw[Bool.and_eq_true] at hgc;obtain⟨h1,_⟩:=J0o hgc.1;obtain⟨f1,f2,f3,f4,f5,f6,f7⟩:=J0e h1;obtain⟨e1,e2⟩:=J4v hgc.2;have ht:=X0z c (by omega) (fun v hv=>(e2 v hv).1);have hb:=Q8t g hs (tkC c) (Q7U hc);rw[hgc.1,X04 hgc.2,Q9n,Bool.true_and,Bool.true_and] at hb;have hw:=Q4f g h1 c (ptok h1 hgc.2);have hwl:=Q5u g c c.length;cases htb:J5Y g c with
   | false =>
     rw[htb] at hb
     repeat' ((conv=>whnf);first|(refine Br.tt ?_)|(refine Br.ff ?_)|(refine h0.go ?_)|(refine ht.go ?_)|(refine hb.go ?_)|(refine And.intro rfl ?_))
     all_goals (conv=>whnf)
     exact VLe.rfl
   | true =>
     rw[htb] at hb;rw[Bool.true_and]
     repeat' ((conv=>whnf);first|(refine Br.tt ?_)|(refine h0.go ?_)|(refine ht.go ?_)|(refine hb.go ?_)|(refine hw.go ?_)|(refine And.intro rfl ?_))
     all_goals (conv=>whnf)
     refine J0N J0b [1,20,21] (fun i:Nat=>[(22,.int .i64 i)]) (fun m i=>m=c.length-i/\i<=c.length/\∀v,v<i->0<=tw g c v->phD c v (tw g c v)<=1) c.length 0 ⟨rfl,Nat.zero_le _,fun v hv=>by omega⟩ ?_ ?_
     . exact J0k (fun _ _=>[(0,some 0)])
     rintro m i ⟨hm,hi,hall⟩;by_cases hil:i<c.length
     . have hx:=Q5v g c hil;have hr:=e2 i hil;obtain⟨t1,t2⟩:=X2E hgc.1 hgc.2 htb hil;by_cases h0t:0<=tw g c i
       . have hlt:tw g c i<c.length:=by
          by_cases e:i=0
          . have:=t1 e;omega
          . exact(t2 e).2
         have hru:=e2 (gI (twL g c c.length) i).toNat (by omega);have hp1:0<=gI (gC c i) (Int.toNat 2)/\gI (gC c i) (Int.toNat 2)<=3:=hr.2.2.2.2.2;have hp2:0<=gI (gC c (gI (twL g c c.length) i).toNat) (Int.toNat 2)/\gI (gC c (gI (twL g c c.length) i).toNat) (Int.toNat 2)<=3:=hru.2.2.2.2.2
         repeat' ((conv=>whnf);first|(refine Br.dec ?_ ?_<;>intro _<;>try omega)|(refine Ar.i64 (by omega) (by omega) ?_)|(refine Sv.mk _ rfl ?_)|(refine Nz.mk (by omega) ?_)|(refine Ix.nat (by omega) ?_)|(refine Ix.int (by omega) (by omega) ?_))
         all_goals (conv=>whnf)
         . rename_i hgt;refine VLe.bool ?_;cases e:phB g c with
           | false=>rfl
           | true =>
             have:=Q1L.1 e i hil h0t;rw[phD,<- hx] at this;exact absurd hgt (Int.not_lt.2 this)
         . rename_i hgt;refine⟨c.length-(i+1),i+1,by omega,⟨rfl,by omega,fun v hv hv0=>?_⟩,?_⟩
           . by_cases e:v=i
             . subst e;rw[phD,<- hx];exact Int.not_lt.1 hgt
             . exact hall v (by omega) hv0
           . exact J0k (fun _ _=>[(0,some 0)])
       . repeat' ((conv=>whnf);first|(refine Br.dec ?_ ?_<;>intro _<;>try omega)|(refine Ar.i64 (by omega) (by omega) ?_)|(refine Ix.nat (by omega) ?_))
         all_goals (conv=>whnf)
         refine⟨c.length-(i+1),i+1,by omega,⟨rfl,by omega,fun v hv hv0=>?_⟩,?_⟩
         . by_cases e:v=i
           . subst e;exact absurd hv0 h0t
           . exact hall v (by omega) hv0
         . exact J0k (fun _ _=>[(0,some 0)])
     . repeat' ((conv=>whnf);first|(refine Br.dec ?_ ?_<;>intro _<;>try omega))
       all_goals (conv=>whnf)
       exact VLe.bool (Q1L.2 (fun v hv=>hall v (by omega))).symm
end Go.Proofs.YtlpfphlbghdokaaGreatDoor
namespace Go.Proofs.YtlpfphlbghdokaaGreatDoor
open Go.Eng
set_option maxRecDepth 100000
set_option linter.unusedVariables false
def X62:Tm:=.agg 20 (.bin 42 (.bin 36 (.leaf 12 1) (.leaf 17 0)) (.bin 35 (.leaf 12 2) (.leaf 5 2)))
def Q5I:Tm:=.agg 21 (.bin 41 (.bin 35 (.leaf 11 0) (.leaf 5 1)) (.bin 36 (.leaf 12 2) (.leaf 5 2)))
def Q5B:Tm:=.bin 41 (.leaf 10 0) X62
def Q4N:Tm:=.bin 41 (.bin 41 (.un 19 (.leaf 10 0)) Q5I) X62
def X2O:Tm:=.bin 32 (.bin 33 (.leaf 5 2) (.leaf 1 1)) (.leaf 1 4)
def X4d:Tm:=.agg 26 (.ite (.bin 35 (.leaf 11 0) (.leaf 5 1)) (.leaf 12 2) (.leaf 1 0))
def J0x:Pr:=⟨ByteArray.mk #[99,108,111,99,107],vC',[⟨ByteArray.mk #[116,111,112],X7C,[(0,.leaf 1 0),(1,.leaf 4 0)]⟩,
 ⟨ByteArray.mk #[108,111,119],X88,[(0,dTm),(1,pTm)]⟩,
 ⟨ByteArray.mk #[116,105,99,107],Q5B,[(2,X2O)]⟩,
 ⟨ByteArray.mk #[99,111,112,121],Q4N,[(2,X4d)]⟩]⟩
abbrev xC (c:Cf) (v:Nat):Int:=gI (gC c v) 2
theorem J2g {g:G} {c:Cf} (h:J1s J0x g c) {v:Nat} (hv:v<g.ids.length):(gC c v).length=3/\0<=dC c v/\dC c v<=g.ids.length/\-1<=pC c v/\pC c v<=((gR g.ports v).length:Int)-1/\0<=xC c v/\xC c v<=3:=by
 have hl:v<c.length:=by rw[h.len];exact hv
 have h0:=h.val v hl 0 (by decide);have h1:=h.val v hl 1 (by decide);have h2:=h.val v hl 2 (by decide);have e0:bnd g (gV J0x.vars 0) v=(0,0+1*(g.ids.length:Int)+0*J9F g):=rfl;have e1:bnd g (gV J0x.vars 1) v=(-1,((gR g.ports v).length:Int)-1):=rfl;have e2:bnd g (gV J0x.vars 2) v=(0,3+0*(g.ids.length:Int)+0*J9F g):=rfl;rw[e0] at h0;rw[e1] at h1;rw[e2] at h2;obtain⟨a1,a2⟩:=h0;obtain⟨b1,b2⟩:=h1;obtain⟨d1,d2⟩:=h2;simp only at a1 a2 b1 b2 d1 d2;exact⟨h.row v hl,a1,by show gI (gC c v) 0<=_;omega,b1,b2,d1,by show gI (gC c v) 2<=_;omega⟩
theorem X0P {g:G} {c:Cf} (h:J1s J0x g c):g.cconf c=true:=by
 rw[G.cconf,J2p];refine⟨h.len,fun v hv=>?_⟩;obtain⟨h0,h1,h2,h3,h4,h5,h6⟩:=J2g h hv;refine⟨h0,fun x hx=>?_⟩;rcases (show x=0\/x=1\/x=2 by omega) with rfl|rfl|rfl
 . exact⟨h1,h2⟩
 . exact⟨h3,h4⟩
 . exact⟨h5,h6⟩
theorem Q7u {p:Int×Int->Bool}:∀{l:Q5a} {k:Nat},fpI p k l≠-1->∃i,i<l.length/\fpI p k l=((k+i:Nat):Int)/\p (gF l i)=true
 | [],_,h=>(h rfl).elim
 | a::r,k,h=>by
   rw[fpI] at h ⊢;by_cases e:p a=true
   . rw[if_pos e];exact⟨0,by simp,rfl,e⟩
   . rw[if_neg e] at h ⊢;obtain⟨i,h1,h2,h3⟩:=Q7u h;exact⟨i+1,by simp;omega,by rw[h2];congr 1;omega,by simpa[gF] using h3⟩
theorem Q22 {b:Int}:∀{l:Q5a} {k:Nat},(∃a∈l,a.1=b)->∃i,i<l.length/\Q1h k l b=((k+i:Nat):Int)/\(gF l i).1=b
 | [],_,h=>by simp at h
 | a::r,k,h=>by
   rw[Q1h];by_cases e:a.1=b
   . rw[if_pos e];exact⟨0,by simp,rfl,e⟩
   . rw[if_neg e];obtain⟨x,hx,ex⟩:=h;rcases List.mem_cons.1 hx with q|q
     . rw[q] at ex;exact(e ex).elim
     . obtain⟨i,h1,h2,h3⟩:=Q22 (k:=k+1) ⟨x,q,ex⟩;exact⟨i+1,by simp;omega,by rw[h2];congr 1;omega,by simpa[gF] using h3⟩
theorem X6k {r:Q5a} (h:(r.map (·.1)).Nodup) {i j:Nat} (hi:i<r.length) (hj:j<r.length) (e:(gF r i).1=(gF r j).1):i=j:=by
 have h1:(r.map (·.1))[i]'(by simpa using hi)=(r.map (·.1))[j]'(by simpa using hj):=by simpa[gF,List.getD,hi,hj] using e
 have hp:=List.pairwise_iff_getElem.1 h;rcases Nat.lt_trichotomy i j with q|q|q
 . exact(hp i j (by simpa using hi) (by simpa using hj) q h1).elim
 . exact q
 . exact(hp j i (by simpa using hj) (by simpa using hi) q h1.symm).elim
theorem Q3e:∀{l:List Int} {a:Int} (m:Int),a∈l->a<=J4y l m
 | [],_,_,h=>by simp at h
 | x::r,a,m,h=>by
   rw[J4y];rcases List.mem_cons.1 h with e|e
   . subst e;refine Int.le_trans ?_ (J86 r _);split<;>omega
   . exact Q3e _ e
def J3w (g:G) (v:Nat):Nat:=(gF (gR g.ports v) (upI g v).toNat).1.toNat
structure UpAt (g:G) (v:Nat) (i:Nat):Prop where
 lt:i<(gR g.ports v).length
 up:upI g v=(i:Int)
 par:(gF (gR g.ports v) i).1=((J3w g v:Nat):Int)
 rng:J3w g v<g.ids.length
 dep:Dg g v=Dg g (J3w g v)+1
theorem J9O {g:G} (h:g.conn=true) {v:Nat} (hv:v<g.ids.length) (h0:v≠0):∃i,UpAt g v i:=by
 obtain⟨h1,h2⟩:=J0o h;obtain⟨f1,f2,f3,f4,f5,f6,f7⟩:=J0e h1;obtain⟨u1,u2⟩:=Q2E h (by omega) h0;obtain⟨i,hi,e,hp⟩:=Q7u (p:=J84 g v) (l:=gR g.ports v) (k:=0) (by rw[upI] at u1;omega);rw[Nat.zero_add] at e;have e:upI g v=(i:Int):=e;have hok:=(J1k.1 (f6 v (by omega))).1 _ (J3c hi);have ep:J3w g v=(gF (gR g.ports v) i).1.toNat:=by rw[J3w,e,Int.toNat_natCast]
 rw[J84,decide_eq_true_eq] at hp;have d1:=J7h h hv;have d2:=J7h h (v:=(gF (gR g.ports v) i).1.toNat) (by omega);exact⟨i,hi,e,by rw[ep];omega,by rw[ep];omega,by rw[ep];omega⟩
theorem X2H {g:G} (h:g.conn=true):Go.Plain.Clock.Tree g.ids.length (J3w g) (Dg g) g.ecc.toNat:=by
 obtain⟨h1,h2⟩:=J0o h;obtain⟨f1,f2,f3,f4,f5,f6,f7⟩:=J0e h1;refine⟨by omega,fun v hv h0=>?_,fun v hv h0=>?_,((Q44 h).root 0 (by omega)).2 rfl,fun v hv=>?_⟩
 . obtain⟨i,hu⟩:=J9O h hv h0;exact hu.rng
 . obtain⟨i,hu⟩:=J9O h hv h0;exact hu.dep
 . have d1:=J7h h hv;have e:g.ecc=J4y (dst g 0) (-1):=by rw[G.ecc,if_pos h]
   have hm:gI (dst g 0) v<=J4y (dst g 0) (-1):=Q3e _ (J63 (by rw[J2E];omega));omega
theorem X3e {g:G} (h:g.conn=true) {v:Nat} (hv:v<g.ids.length) (h0:v≠0):adN g v (J3w g v)=true:=by
 obtain⟨i,hu⟩:=J9O h hv h0;exact J2H.2 ⟨_,J3c hu.lt,by rw[hu.par,Int.toNat_natCast]⟩
theorem Q30 {g:G} (h:g.conn=true) {v:Nat} (hv:v<g.ids.length) {i:Nat} (hi:i<(gR g.ports v).length):upI g (nbV g v i)=J7x g v i↔nbV g v i≠0/\J3w g (nbV g v i)=v:=by
 obtain⟨h1,h2⟩:=J0o h;obtain⟨f1,f2,f3,f4,f5,f6,f7⟩:=J0e h1;have hok:=(J1k.1 (f6 v (by omega))).1 _ (J3c hi);have eu:nbV g v i=(gF (gR g.ports v) i).1.toNat:=by simp[nbV]
 have hun:nbV g v i<g.ids.length:=by omega
 have hback:=f7 v (by omega) _ (J3c hi);rw[<- eu] at hback;have eb:J7x g v i=Q1h 0 (gR g.ports (nbV g v i)) v:=by rw[J7x,eu]
 generalize nbV g v i=u at *;obtain⟨b,hb,e,ev⟩:=Q22 (k:=0) (b:=(v:Int)) ⟨_,hback,rfl⟩;rw[Nat.zero_add] at e;rw[eb,e];constructor
 . intro q;have h0:u≠0:=fun e0=>by rw[e0,J8L h] at q;omega
   exact⟨h0,by rw[J3w,q,Int.toNat_natCast,ev,Int.toNat_natCast]⟩
 . rintro⟨h0,q⟩;obtain⟨j,hu⟩:=J9O h hun h0;have hj:=hu.par;rw[q] at hj;rw[hu.up,X6k (J1k.1 (f6 u (by omega))).2 hu.lt hb (hj.trans ev.symm)]
def TrC (g:G) (c:Cf):Prop:=∀v,v<g.ids.length->dC c v=((Dg g v:Nat):Int)/\pC c v=upI g v
theorem Q2c (l:List Int):J7m l=l.length↔∀a∈l,a≠0:=by
 rw[J7m,List.countP_eq_length];simp only[decide_eq_true_eq]
open Classical in
theorem Q8D {g:G} (h:g.conn=true) {c:Cf} (ht:TrC g c) {v:Nat} (hv:v<g.ids.length) (port:Int) :
 X62.sem g c v port=J1G (decide (∀u,Go.Plain.Clock.child g.ids.length (J3w g) v u->¬ Go.Plain.Clock.dif (J3w g) (xC c) u)):=by
 obtain⟨h1,h2⟩:=J0o h;obtain⟨f1,f2,f3,f4,f5,f6,f7⟩:=J0e h1;show J1G (decide (J7m ((List.range (gR g.ports v).length).map fun(i:Nat)=>J1G (decide (J1G (decide (gI (gC c (nbV g v i)) 1≠J7x g v ((i:Nat):Int).toNat))≠0\/J1G (decide (gI (gC c (nbV g v i)) 2=gI (gC c v) 2))≠0)))=((List.range (gR g.ports v).length).map fun(i:Nat)=>J1G (decide (J1G (decide (gI (gC c (nbV g v i)) 1≠J7x g v ((i:Nat):Int).toNat))≠0\/J1G (decide (gI (gC c (nbV g v i)) 2=gI (gC c v) 2))≠0))).length))=_;congr 1;rw[decide_eq_decide,Q2c];simp only[List.mem_map,List.mem_range,forall_exists_index,and_imp,forall_apply_eq_imp_iff₂,J2b,decide_eq_true_eq,Int.toNat_natCast];have hun:∀i,i<(gR g.ports v).length->nbV g v i<g.ids.length:=fun i hi=>by
  have hok:=(J1k.1 (f6 v (by omega))).1 _ (J3c hi);have eu:nbV g v i=(gF (gR g.ports v) i).1.toNat:=by simp[nbV]
  omega
 constructor
 . intro hall u hc hd;obtain⟨l,hl,e⟩:=J2H.1 ((J9z h1).sym u v hc.1 hv (by have:=X3e h hc.1 hc.2.1;rw[hc.2.2] at this;exact this));obtain⟨i,hi,e2⟩:=Q7q hl;have eu:nbV g v i=u:=by simp only[nbV,Int.toNat_natCast];rw[e2];exact e
   rcases hall i hi with q|q
   . apply q;show pC c (nbV g v i)=_;rw[(ht _ (hun i hi)).2];exact(Q30 h hv hi).2 (by rw[eu];exact hc.2)
   . rw[eu] at q;exact hd (by rw[hc.2.2];exact q)
 . intro hall i hi;by_cases q:gI (gC c (nbV g v i)) 1=J7x g v i
   . right;have q':pC c (nbV g v i)=J7x g v i:=q;rw[(ht _ (hun i hi)).2] at q';have hc:=(Q30 h hv hi).1 q';have:=hall _ ⟨hun i hi,hc⟩;rw[Go.Plain.Clock.dif,hc.2] at this;exact Classical.byContradiction fun e=>this e
   . exact .inl q
theorem Q5H {g:G} (h:g.conn=true) {c:Cf} (ht:TrC g c) {v:Nat} (hv:v<g.ids.length) (h0:v≠0) (port:Int) :
 Q5I.sem g c v port=J1G (decide (xC c v≠xC c (J3w g v))):=by
 obtain⟨j,hu⟩:=J9O h hv h0;have hp:=(ht v hv).2;show J1G (decide (0<J7m ((List.range (gR g.ports v).length).map fun(i:Nat)=>J1G (decide (J1G (decide (((i:Nat):Int)=gI (gC c v) 1))≠0/\J1G (decide (gI (gC c (nbV g v i)) 2≠gI (gC c v) 2))≠0)))))=_;congr 1;rw[decide_eq_decide,Q2b];simp only[List.mem_map,List.mem_range,J2b,decide_eq_true_eq];have eu:nbV g v j=J3w g v:=by simp only[nbV,Int.toNat_natCast];rw[hu.par];simp
 have hp':gI (gC c v) 1=(j:Int):=by rw[<- hu.up];exact hp
 constructor
 . rintro⟨a,⟨i,hi,rfl⟩,ha⟩;rw[J2b,decide_eq_true_eq] at ha;obtain⟨a1,a2⟩:=ha;have:i=j:=by omega
   subst this;rw[eu] at a2;exact fun e=>a2 e.symm
 . intro hne;refine⟨_,⟨j,hu.lt,rfl⟩,?_⟩;rw[J2b,decide_eq_true_eq];exact⟨hp'.symm,by rw[eu];exact fun e=>hne e.symm⟩
theorem Q2O {f:Nat->Int} {j:Nat} (hz:∀i,i≠j->f i=0):∀(n:Nat),Q2P ((List.range n).map f) 0=if j<n then f j else 0
 | 0=>by simp[Q2P]
 | n+1=>by
   rw[List.range_succ,List.map_append,List.map_singleton,J6u,Q2O hz n];by_cases e:n=j
   . subst e;simp
   . rw[hz n e,Int.add_zero];by_cases q:j<n
     . rw[if_pos q,if_pos (by omega)]
     . rw[if_neg q,if_neg (by omega)]
theorem X0C {g:G} (h:g.conn=true) {c:Cf} (hc:J1s J0x g c) (ht:TrC g c) {v:Nat} (hv:v<g.ids.length) (h0:v≠0) (port:Int):X4d.sem g c v port=xC c (J3w g v):=by
 obtain⟨j,hu⟩:=J9O h hv h0;have hp:=(ht v hv).2;have eu:nbV g v j=J3w g v:=by simp only[nbV,Int.toNat_natCast];rw[hu.par];simp
 have hp':gI (gC c v) 1=(j:Int):=by rw[<- hu.up];exact hp
 have hr:=J2g hc hu.rng;show sat (Q2P ((List.range (gR g.ports v).length).map fun(i:Nat)=>if J1G (decide (((i:Nat):Int)=gI (gC c v) 1))≠0 then gI (gC c (nbV g v i)) 2 else 0) 0)=_;rw[Q2O (f:=fun(i:Nat)=>if J1G (decide (((i:Nat):Int)=gI (gC c v) 1))≠0 then gI (gC c (nbV g v i)) 2 else 0) (j:=j),if_pos hu.lt]
 . rw[hp'];simp only[decide_true,J2b,if_true];rw[eu];have r1:=hr.2.2.2.2.2;exact Q5N (by unfold inR;exact⟨Int.le_trans (by omega) r1.1,Int.le_trans r1.2 (by omega)⟩)
 . intro i hne;simp only[J2b,decide_eq_true_eq];rw[if_neg (by omega)]
theorem Q9r {g:G} {c:Cf} (hc:J1s J0x g c) {v:Nat} (hv:v<g.ids.length) (port:Int):X2O.sem g c v port=(xC c v+1) % 4:=by
 have hr:=J2g hc hv;show Q1l 32 (Q1l 33 (xC c v) 1) 4=_;have e1:Q1l 33 (xC c v) 1=xC c v+1:=Q5N (by unfold inR;omega);rw[e1];generalize xC c v=a at *;obtain⟨_,_,_,_,_,a0,a3⟩:=hr;rcases (show a=0\/a=1\/a=2\/a=3 by omega) with rfl|rfl|rfl|rfl<;>decide
end Go.Proofs.YtlpfphlbghdokaaGreatDoor
namespace Go.Proofs.YtlpfphlbghdokaaGreatDoor
open Go.Eng
set_option maxRecDepth 100000
set_option linter.unusedVariables false
def stT (c:Cf):Go.Plain.Tree.St:=⟨dC c,pC c⟩
theorem J6M {g:G} {c:Cf} {v:Nat}:Go.Plain.Tree.off (tgB g) (stT c) v↔Q24 g c v=true:=by
 rw[Q24,decide_eq_true_eq];exact Iff.rfl
theorem Q79 (g:G) (c:Cf) (v:Nat):gds J0x g c v=[X7C.sem g c v (-1),X88.sem g c v (-1),Q5B.sem g c v (-1),Q4N.sem g c v (-1)]:=rfl
theorem J7o {g:G} {c:Cf} (hc:J1s J0x g c):∀v,v<g.ids.length->0<=dC c v:=fun v hv=>(J2g hc hv).2.1
theorem Q78 {g:G} (hg:g.valid=true) {c:Cf} (hc:J1s J0x g c) {v:Nat} (hv:v<g.ids.length) (ho:Q24 g c v=true):J0U J0x g c v=if v=0 then 0 else 1:=by
 rw[J0U,Q79,Q5y,Q6O hg (J7o hc) hv,ho];by_cases h0:v=0
 . rw[decide_eq_true h0,if_pos h0];rfl
 . rw[decide_eq_false h0,if_neg h0];rfl
theorem Q3M {g:G} (hg:g.valid=true) {c:Cf} (hc:J1s J0x g c) {v:Nat} (hv:v<g.ids.length) (ho:Q24 g c v=false):J0U J0x g c v=if Q5B.sem g c v (-1)≠0 then 2 else if Q4N.sem g c v (-1)≠0 then 3 else -1:=by
 rw[J0U,Q79,Q5y,Q6O hg (J7o hc) hv,ho,Bool.and_false,Bool.and_false];rfl
theorem X5h {g:G} (h:g.conn=true) {c:Cf} (ht:TrC g c):Go.Plain.Tree.Ok g.ids.length (Dg g) (upI g) (stT c) g.ids.length :=
 ⟨fun v hv _=>ht v hv,fun v hv hk=>by have:=(Q44 h).top v hv;omega⟩
theorem X3f {g:G} (h:g.conn=true) {c:Cf} {k:Nat} (ho:Go.Plain.Tree.Ok g.ids.length (Dg g) (upI g) (stT c) k) (hk:∀v,v<g.ids.length->Dg g v<k):TrC g c :=
 fun v hv=>ho.low v hv (hk v hv)
theorem X2L {g:G} (h:g.conn=true) {c:Cf} (ht:TrC g c) {v:Nat} (hv:v<g.ids.length):Q24 g c v=false:=by
 have:=(X5h h ht).all (Q44 h) (Q5Q h) hv (by have:=(Q44 h).top v hv;omega);rw[J6M] at this;simpa using this
open Classical in
theorem X10 {g:G} (h:g.conn=true) {c:Cf} (hc:J1s J0x g c) (ht:TrC g c) {v:Nat} (hv:v<g.ids.length):J0U J0x g c v=if Go.Plain.Clock.en g.ids.length (J3w g) (xC c) v then (if v=0 then 2 else 3) else -1:=by
 obtain⟨h1,h2⟩:=J0o h;rw[Q3M h1 hc hv (X2L h ht hv)];have e1:Q5B.sem g c v (-1)≠0↔v=0/\∀u,Go.Plain.Clock.child g.ids.length (J3w g) v u->¬ Go.Plain.Clock.dif (J3w g) (xC c) u:=by
  show J1G (decide (J1G (decide (v=0))≠0/\X62.sem g c v (-1)≠0))≠0↔_;rw[Q8D h ht hv];simp only[J2b,decide_eq_true_eq]
 have e2:Q4N.sem g c v (-1)≠0↔(v≠0/\Q5I.sem g c v (-1)≠0)/\∀u,Go.Plain.Clock.child g.ids.length (J3w g) v u->¬ Go.Plain.Clock.dif (J3w g) (xC c) u:=by
  show J1G (decide (J1G (decide (J1G (decide (J1G (decide (v=0))=0))≠0/\Q5I.sem g c v (-1)≠0))≠0/\X62.sem g c v (-1)≠0))≠0↔_;rw[Q8D h ht hv];simp only[J2b,Q3n,decide_eq_true_eq,decide_eq_false_iff_not]
 by_cases h0:v=0
 . have e3:¬ Q4N.sem g c v (-1)≠0:=fun q=>(e2.1 q).1.1 h0;rw[if_neg e3];by_cases q:Go.Plain.Clock.en g.ids.length (J3w g) (xC c) v
   . rw[if_pos (e1.2 ⟨h0,q.1⟩),if_pos q,if_pos h0]
   . rw[if_neg (fun e=>q ⟨(e1.1 e).2,fun e0=>(e0 h0).elim⟩),if_neg q]
 . rw[if_neg (fun q=>h0 (e1.1 q).1)];have e3:Q5I.sem g c v (-1)≠0↔Go.Plain.Clock.dif (J3w g) (xC c) v:=by
    rw[Q5H h ht hv h0,J2b,decide_eq_true_eq];exact Iff.rfl
   by_cases q:Go.Plain.Clock.en g.ids.length (J3w g) (xC c) v
   . rw[if_pos (e2.2 ⟨⟨h0,e3.2 (q.2 h0)⟩,q.1⟩),if_pos q,if_neg h0]
   . rw[if_neg (fun e=>q ⟨(e2.1 e).2,fun _=>e3.1 (e2.1 e).1.2⟩),if_neg q]
theorem X1z {g:G} (hg:g.valid=true) {c:Cf} (hc:J1s J0x g c) {v:Nat} (hv:v<g.ids.length) (ho:Q24 g c v=true):(enN J0x g c).testBit v=true:=by
 rw[J4g,Q78 hg hc hv ho,decide_eq_true hv,Bool.true_and,decide_eq_true_eq];split<;>omega
theorem Q6l {g:G} (h:g.conn=true) {c:Cf} (hc:J1s J0x g c) (ht:TrC g c) {v:Nat} (hv:v<g.ids.length):(enN J0x g c).testBit v=true↔Go.Plain.Clock.en g.ids.length (J3w g) (xC c) v:=by
 rw[J4g,X10 h hc ht hv,decide_eq_true hv,Bool.true_and,decide_eq_true_eq];by_cases q:Go.Plain.Clock.en g.ids.length (J3w g) (xC c) v
 . rw[if_pos q];refine⟨fun _=>q,fun _=>?_⟩;split<;>omega
 . rw[if_neg q];exact⟨fun e=>by omega,fun e=>(q e).elim⟩
theorem mv0 (g:G) (c:Cf) (v:Nat):J27 J0x g c v 0=((gC c v).set 0 (brI 1 0 (0+1*(g.ids.length:Int)+0*J9F g) 0)).set 1 (brI 3 (-1) (((gR g.ports v).length:Int)-1) (-1)):=rfl
theorem mv1 (g:G) (c:Cf) (v:Nat):J27 J0x g c v 1=((gC c v).set 0 (brI 1 0 (0+1*(g.ids.length:Int)+0*J9F g) (dTm.sem g c v (-1)))).set 1 (brI 3 (-1) (((gR g.ports v).length:Int)-1) (pTm.sem g c v (-1))):=rfl
theorem mv2 (g:G) (c:Cf) (v:Nat):J27 J0x g c v 2=(gC c v).set 2 (brI 1 0 (3+0*(g.ids.length:Int)+0*J9F g) (X2O.sem g c v (-1))):=rfl
theorem mv3 (g:G) (c:Cf) (v:Nat):J27 J0x g c v 3=(gC c v).set 2 (brI 1 0 (3+0*(g.ids.length:Int)+0*J9F g) (X4d.sem g c v (-1))):=rfl
theorem J5t {k lo hi a:Int} (h:lo<=a/\a<=hi):brI k lo hi a=a:=by rw[brI,if_pos h]
theorem X2P {g:G} (hg:g.valid=true) {c:Cf} (hc:J1s J0x g c) {v:Nat} (hv:v<g.ids.length) (h0:v≠0):0<=(tgB g (dC c) v).1/\(tgB g (dC c) v).1<=g.ids.length/\-1<=(tgB g (dC c) v).2/\(tgB g (dC c) v).2<=((gR g.ports v).length:Int)-1:=by
 have hm:=X5X (J7o hc) hg hv;have hf:=J67 (fun l=>decide (dC c l.1.toNat=mnD g (dC c) v)) (gR g.ports v) 0;rw[tgB,if_neg h0];simp only;split<;>omega
theorem Q3L {g:G} (hg:g.valid=true) {c:Cf} (hc:J1s J0x g c) {s:Nat} (hs:J19 s (enN J0x g c)):Go.Plain.Tree.Step g.ids.length (tgB g) (stT c) (fun v=>s.testBit v) (stT (J0R J0x g c s)):=by
 intro v hv;have hl:=hc.len;have hlen:=(J2g hc hv).1;have hrow:=J2z J0x g c s (v:=v) (by omega);refine⟨fun hb ho=>?_,fun hq=>?_⟩
 . rw[J6M] at ho;rw[if_pos hb,Q78 hg hc hv ho] at hrow;show(gI (gC (J0R J0x g c s) v) 0,gI (gC (J0R J0x g c s) v) 1)=tgB g (dC c) v;by_cases h0:v=0
   . rw[if_pos h0] at hrow;rw[hrow,show(0:Int).toNat=0 from rfl,mv0];rw[J3b _ _ _ _ (by rw[List.length_set];omega),if_neg (by decide),J3b _ _ _ _ (by omega),if_pos rfl,J3b _ _ _ _ (by rw[List.length_set];omega),if_pos rfl,tgB,if_pos h0,J5t (by omega),J5t (by omega)]
   . rw[if_neg h0] at hrow;obtain⟨r1,r2,r3,r4⟩:=X2P hg hc hv h0;rw[hrow,show(1:Int).toNat=1 from rfl,mv1,X6y hg (J7o hc) hv h0,X5B g c v h0];rw[J3b _ _ _ _ (by rw[List.length_set];omega),if_neg (by decide),J3b _ _ _ _ (by omega),if_pos rfl,J3b _ _ _ _ (by rw[List.length_set];omega),if_pos rfl,J5t (by omega),J5t (by omega)]
 . show gI (gC (J0R J0x g c s) v) 0=gI (gC c v) 0/\gI (gC (J0R J0x g c s) v) 1=gI (gC c v) 1;cases hb:s.testBit v with
   | false=>rw[hrow,hb];exact⟨rfl,rfl⟩
   | true =>
     have ho:Q24 g c v=false:=by
      rcases hq with q|q
      . exact absurd (hb.symm.trans q) (by simp)
      . rw[J6M] at q;simpa using q
     have hen:=hs v hb;rw[J4g,Bool.and_eq_true,decide_eq_true_eq,decide_eq_true_eq] at hen;have hr:=Q3M hg hc hv ho;rw[if_pos hb] at hrow;by_cases q1:Q5B.sem g c v (-1)≠0
     . rw[if_pos q1] at hr;rw[hrow,hr,show(2:Int).toNat=2 from rfl,mv2,J3b _ _ _ _ (by omega),J3b _ _ _ _ (by omega),if_neg (by decide),if_neg (by decide)];exact⟨rfl,rfl⟩
     . rw[if_neg q1] at hr;by_cases q2:Q4N.sem g c v (-1)≠0
       . rw[if_pos q2] at hr;rw[hrow,hr,show(3:Int).toNat=3 from rfl,mv3,J3b _ _ _ _ (by omega),J3b _ _ _ _ (by omega),if_neg (by decide),if_neg (by decide)];exact⟨rfl,rfl⟩
       . rw[if_neg q2] at hr;omega
theorem Q8a {g:G} (h:g.conn=true) {c:Cf} (hc:J1s J0x g c) (ht:TrC g c) {s:Nat} (hs:J19 s (enN J0x g c)):Go.Plain.Clock.Ch g.ids.length (J3w g) (xC c) (fun v=>s.testBit v) :=
 ⟨fun v hv=>by
   have hb:=hs v hv;have hlt:v<g.ids.length:=by rw[J4g,Bool.and_eq_true,decide_eq_true_eq] at hb;exact hb.1
   exact⟨hlt,(Q6l h hc ht hlt).1 hb⟩⟩
theorem X6D {g:G} (h:g.conn=true) {c:Cf} (hc:J1s J0x g c) (ht:TrC g c) {s:Nat} (hs:J19 s (enN J0x g c)):xC (J0R J0x g c s)=Go.Plain.Clock.st (J3w g) (fun v=>s.testBit v) (xC c):=by
 funext v;have hl:=hc.len;show gI (gC (J0R J0x g c s) v) 2=_;rw[Go.Plain.Clock.st];by_cases hv:v<g.ids.length
 . have hlen:=(J2g hc hv).1;rw[J2z J0x g c s (by omega)];cases hb:s.testBit v with
   | false=>rfl
   | true =>
     have hen:=((Q8a h hc ht hs).en v hb).2;rw[if_pos rfl,if_pos rfl,X10 h hc ht hv,if_pos hen];by_cases h0:v=0
     . have hr:=(J2g hc hv).2.2.2.2.2;rw[if_pos h0,if_pos h0,show(2:Int).toNat=2 from rfl,mv2,J3b _ _ _ _ (by omega),if_pos rfl,Q9r hc hv,J5t (by omega),h0]
     . obtain⟨i,hu⟩:=J9O h hv h0;have hr:=(J2g hc hu.rng).2.2.2.2.2;rw[if_neg h0,if_neg h0,show(3:Int).toNat=3 from rfl,mv3,J3b _ _ _ _ (by omega),if_pos rfl,X0C h hc ht hv h0,J5t (by omega)]
 . have hb:s.testBit v=false:=by
    cases e:s.testBit v with
    | false=>rfl
    | true =>
      have:=hs v e;rw[J4g,Bool.and_eq_true,decide_eq_true_eq] at this;exact(hv this.1).elim
   simp only[hb,Bool.false_eq_true,if_false];have e1:gC (J0R J0x g c s) v=gC c v:=by
    simp only[gC,List.getD];rw[List.getElem?_eq_none (by rw[J25];omega),List.getElem?_eq_none (by omega)]
   rw[e1]
theorem Q5w {g:G} (h:g.conn=true) {c:Cf} (hc:J1s J0x g c) (ht:TrC g c) {s:Nat} (hs:J19 s (enN J0x g c)):TrC g (J0R J0x g c s):=by
 obtain⟨h1,h2⟩:=J0o h;exact X3f h ((X5h h ht).step (Q44 h) (Q5Q h) (Q3L h1 hc hs)).1 fun v hv=>by have:=(Q44 h).top v hv;omega
def G.cleg (g:G) (c:Cf):Bool:=g.conn&&g.cconf c&&J5Y g c&&phB g c
theorem J9s {g:G} (h:g.conn=true) {c:Cf} (hc:J1s J0x g c):g.cleg c=true↔TrC g c/\∀v,v<g.ids.length->v≠0->¬ Go.Plain.Clock.bad (J3w g) (xC c) v:=by
 have hl:=hc.len;rw[G.cleg,h,X0P hc,Bool.true_and,Bool.true_and,Bool.and_eq_true,J22,Q1L];have e1:(∀v,v<c.length->gI (gC c v) 0=gI (dst g 0) v/\gI (gC c v) 1=upI g v)↔TrC g c:=by
  rw[hl];refine forall_congr' fun v=>forall_congr' fun hv=>?_;rw[<- J7h h hv]
 rw[e1];refine and_congr_right fun ht=>?_;rw[hl];refine forall_congr' fun v=>forall_congr' fun hv=>?_;have hp:=(ht v hv).2;have hp':gI (gC c v) 1=upI g v:=hp;by_cases h0:v=0
 . have e:tw g c v=-1:=by rw[tw,hp',h0,J8L h];rfl
   rw[e];exact⟨fun _ q=>(q h0).elim,fun _ q=>by omega⟩
 . obtain⟨i,hu⟩:=J9O h hv h0;have e:tw g c v=((J3w g v:Nat):Int):=by rw[tw,hp',hu.up,if_pos (by omega),Int.toNat_natCast,hu.par]
   have r1:=(J2g hc hv).2.2.2.2.2;have r2:=(J2g hc hu.rng).2.2.2.2.2;have e2:phD c v ((J3w g v:Nat):Int)=Go.Plain.Clock.df (J3w g) (xC c) v:=by
    rw[<- X5A,Go.Plain.Clock.df];show(xC c (J3w g v)-xC c v+4).tmod 4=_;rw[Int.tmod_eq_emod_of_nonneg (by omega)];omega
   rw[e,e2,Go.Plain.Clock.bad];exact⟨fun q _=>by have:=q (by omega);omega,fun q _=>by have:=q h0;omega⟩
theorem J9r {g:G} (h:g.conn=true) {c:Cf} (hc:J1s J0x g c) (ht:TrC g c) (hn:g.cleg c=false):∃v,v<g.ids.length/\v≠0/\Go.Plain.Clock.bad (J3w g) (xC c) v:=by
 apply Classical.byContradiction;intro q;have:g.cleg c=true:=(J9s h hc).2 ⟨ht,fun v hv h0 hb=>q ⟨v,hv,h0,hb⟩⟩;rw[this] at hn;cases hn
theorem Q8b {g:G} (h:g.conn=true) {c:Cf} (hc:J1s J0x g c) (hl:g.cleg c=true) {s:Nat} (hs:J19 s (enN J0x g c)) (hc':J1s J0x g (J0R J0x g c s)):g.cleg (J0R J0x g c s)=true:=by
 obtain⟨ht,hb⟩:=(J9s h hc).1 hl;refine(J9s h hc').2 ⟨Q5w h hc ht hs,fun v hv h0 q=>?_⟩;rw[X6D h hc ht hs] at q;have hT:=X2H h;rcases Go.Plain.Clock.bad_back hT (Q8a h hc ht hs) (fun v hv=>(J2g hc hv).2.2.2.2.2) hv h0 q with ⟨q1,_⟩ | ⟨q1,q2⟩
 . exact hb v hv h0 q1
 . exact hb _ (hT.lt v hv h0) q1 q2
theorem X1W {g:G} (h:g.conn=true) {x:Nat->Int}:∀(f v:Nat),v<g.ids.length->v≠0->Go.Plain.Clock.dif (J3w g) x v->g.ids.length<=Dg g v+f->∃u,u<g.ids.length/\Go.Plain.Clock.en g.ids.length (J3w g) x u
 | 0,v,hv,_,_,hf=>by have:=(Q44 h).top v hv;omega
 | f+1,v,hv,h0,hd,hf=>by
   by_cases q:∃u,Go.Plain.Clock.child g.ids.length (J3w g) v u/\Go.Plain.Clock.dif (J3w g) x u
   . obtain⟨u,hu,hdu⟩:=q;have:=(X2H h).dep u hu.1 hu.2.1;rw[hu.2.2] at this;exact X1W h f u hu.1 hu.2.1 hdu (by omega)
   . exact⟨v,hv,fun u hu hdu=>q ⟨u,hu,hdu⟩,fun _=>hd⟩
theorem X61 {g:G} (h:g.conn=true) {c:Cf} (hc:J1s J0x g c) (ho:∀v,v<g.ids.length->Q24 g c v=false):TrC g c:=by
 have key:∀k,Go.Plain.Tree.Ok g.ids.length (Dg g) (upI g) (stT c) k:=fun k=>by
  induction k with
  | zero=>exact Go.Plain.Tree.Ok.start (J7o hc)
  | succ k ih =>
    refine ih.next fun v hv hb=>?_;have:=ih.off_bad (Q44 h) (Q5Q h) hv hb;rw[J6M,ho v hv] at this;cases this
 exact X3f h (key g.ids.length) fun v hv=>by have:=(Q44 h).top v hv;omega
theorem X4i {g:G} (h:g.conn=true) {c:Cf} (hc:J1s J0x g c) (hn:g.cleg c=false):enN J0x g c≠0:=by
 obtain⟨h1,h2⟩:=J0o h;have key:∃u,(enN J0x g c).testBit u=true:=by
  by_cases q:∃v,v<g.ids.length/\Q24 g c v=true
  . obtain⟨v,hv,ho⟩:=q;exact⟨v,X1z h1 hc hv ho⟩
  . have ht:=X61 h hc fun v hv=>by
     cases e:Q24 g c v with
     | false=>rfl
     | true=>exact(q ⟨v,hv,e⟩).elim
    obtain⟨v,hv,h0,hb⟩:=J9r h hc ht hn;obtain⟨u,hu,he⟩:=X1W h g.ids.length v hv h0 (Go.Plain.Clock.bad_dif hb) (by omega);exact⟨u,(Q6l h hc ht hu).2 he⟩
 obtain⟨u,hu⟩:=key;intro e;rw[e] at hu;simp at hu
inductive CIn (g:G) (c:Cf) (k:Cnt):Prop
 | tree (hr:k.rounds<=g.ecc.toNat) (ho:Go.Plain.Tree.Ok g.ids.length (Dg g) (upI g) (stT c) k.rounds) (hb:∀v,v<g.ids.length->Go.Plain.Tree.bad (Dg g) (upI g) (stT c) k.rounds v->k.pend.testBit v=true)
 | phase (ht:TrC g c) (hl:∃i j,Go.Plain.Clock.Lev g.ids.length (J3w g) (Dg g) g.ecc.toNat (xC c) (fun v=>k.pend.testBit v) (g.ecc.toNat+1) k.rounds i j)
theorem Q8y {g:G} (h:g.conn=true) {c:Cf} (hc:J1s J0x g c) {k:Nat} (ho:Go.Plain.Tree.Ok g.ids.length (Dg g) (upI g) (stT c) k) {v:Nat} (hv:v<g.ids.length) (hb:Go.Plain.Tree.bad (Dg g) (upI g) (stT c) k v):(enN J0x g c).testBit v=true :=
 X1z (J0o h).1 hc hv (J6M.1 (ho.off_bad (Q44 h) (Q5Q h) hv hb))
theorem Q8c {g:G} (h:g.conn=true) {c:Cf} (hc:J1s J0x g c):CIn g c (X41 (enN J0x g c)) :=
 .tree (by simp[X41]) (Go.Plain.Tree.Ok.start (J7o hc)) fun v hv hb=>Q8y h hc (Go.Plain.Tree.Ok.start (J7o hc)) hv hb
theorem X0I {g:G} (h:g.conn=true) {c:Cf} (hc:J1s J0x g c) {k:Cnt} (hi:CIn g c k) {s:Nat} (hs:J19 s (enN J0x g c)) (hc':J1s J0x g (J0R J0x g c s)) (hn:g.cleg (J0R J0x g c s)=false) :
 CIn g (J0R J0x g c s) (k.add s (enN J0x g (J0R J0x g c s))):=by
 obtain⟨h1,h2⟩:=J0o h;obtain⟨f1,f2,f3,f4,f5,f6,f7⟩:=J0e h1;have hT:=X2H h;have hstep:=Q3L h1 hc hs;have hlf:∀v,v<g.ids.length->((lft k s (enN J0x g (J0R J0x g c s))).testBit v=true↔(k.pend.testBit v=true/\s.testBit v=false)/\(enN J0x g (J0R J0x g c s)).testBit v=true):=fun v hv=>by
  simp only[lft,Nat.testBit_and,J1b (show v<32 by omega),Bool.and_eq_true,Bool.not_eq_true']
 rcases hi with ⟨hr,ho,hb⟩ | ⟨ht,i,j,hl⟩
 . obtain⟨ho',hb'⟩:=ho.step (Q44 h) (Q5Q h) hstep;have hbl:∀v,v<g.ids.length->Go.Plain.Tree.bad (Dg g) (upI g) (stT (J0R J0x g c s)) k.rounds v->(lft k s (enN J0x g (J0R J0x g c s))).testBit v=true:=fun v hv q=>by
    obtain⟨q1,q2⟩:=hb' v hv q;exact(hlf v hv).2 ⟨⟨hb v hv q1,q2⟩,Q8y h hc' ho' hv q⟩
   by_cases hz:lft k s (enN J0x g (J0R J0x g c s))=0
   . rw[Cnt.add,if_pos hz];have hnx:=ho'.next fun v hv q=>by
      have:=hbl v hv q;rw[hz] at this;simp at this
     by_cases hE:k.rounds+1<=g.ecc.toNat
     . exact .tree hE hnx fun v hv q=>Q8y h hc' hnx hv q
     . have ht':TrC g (J0R J0x g c s):=X3f h hnx fun v hv=>by have:=hT.top v hv;omega
       obtain⟨v,hv,h0,hbv⟩:=J9r h hc' ht' hn;have d1:=Go.Plain.Clock.dep_pos hT hv h0;have d2:=hT.top v hv;exact .phase ht' ⟨1,g.ecc.toNat,Go.Plain.Clock.Lev.start hT (by omega) (fun u hu he=>(Q6l h hc' ht' hu).2 he) (by simp only;omega)⟩
   . rw[Cnt.add,if_neg hz];exact .tree hr ho' hbl
 . have ht':=Q5w h hc ht hs;have hx:=X6D h hc ht hs;have hl':=hl.step hT (Q8a h hc ht hs) (fun v hv=>(J2g hc hv).2.2.2.2.2) (p':=fun v=>(lft k s (enN J0x g (J0R J0x g c s))).testBit v) fun v hv q1 q2 q3=>(hlf v hv).2 ⟨⟨q1,q2⟩,by rw[Q6l h hc' ht' hv,hx];exact q3⟩;rw[<- hx] at hl';by_cases hz:lft k s (enN J0x g (J0R J0x g c s))=0
   . rw[Cnt.add,if_pos hz];obtain⟨i',j',hl2⟩:=hl'.round hT (q:=fun v=>(enN J0x g (J0R J0x g c s)).testBit v) (fun v hv=>by simp only[hz];simp) (fun u hu he=>(Q6l h hc' ht' hu).2 he) (J9r h hc' ht' hn);exact .phase ht' ⟨i',j',hl2⟩
   . rw[Cnt.add,if_neg hz];exact .phase ht' ⟨i,j,hl'⟩
end Go.Proofs.YtlpfphlbghdokaaGreatDoor
namespace Go.Eng
open Go.MapKept (bytes_beq)
noncomputable def fN {β:Type} (n:Nat) (K:Nat->β):β:=@Nat.rec (fun _=>β) (K 0) (fun m _=>K (Nat.succ m)) n
theorem J4c {β:Type} (n:Nat) (K:Nat->β):fN n K=K n:=by cases n<;>rfl
noncomputable def fI {β:Type} (n:Int) (K:Int->β):β:=@Int.rec (fun _=>β) (fun a=>fN a fun a=>K (.ofNat a)) (fun a=>fN a fun a=>K (.negSucc a)) n
theorem X3X {β:Type} (n:Int) (K:Int->β):fI n K=K n:=by cases n<;>simp[fI,J4c]
noncomputable def fB {β:Type} (b:Bool) (K:Bool->β):β:=@Bool.rec (fun _=>β) (K false) (K true) b
theorem Y0D {β:Type} (b:Bool) (K:Bool->β):fB b K=K b:=by cases b<;>rfl
noncomputable def lk {α:Type} (l:List (Nat×α)) (t:Nat):Option α :=
 @List.rec (Nat×α) (fun _=>Option α) none (fun p _ ih=>@Prod.rec Nat α (fun _=>Option α) (fun k v=>@Bool.rec (fun _=>Option α) ih (some v) (Nat.beq k t)) p) l
theorem J7K {α:Type} (l:List (Nat×α)) (t:Nat):lk l t=look l t:=by
 induction l with
 | nil=>rfl
 | cons p r ih =>
   obtain⟨k,v⟩:=p;unfold look;show @Bool.rec (fun _=>Option α) (lk r t) (some v) (Nat.beq k t)=_;cases Nat.beq k t<;>simp[ih]
noncomputable def nt {α:Type} (l:List α) (n:Nat):Option α :=
 @List.rec α (fun _=>Nat->Option α) (fun _=>none) (fun x _ ih n=>@Nat.rec (fun _=>Option α) (some x) (fun m _=>ih m) n) l n
theorem Q9N {α:Type} (l:List α) (n:Nat):nt l n=nth l n:=by
 induction l generalizing n with
 | nil=>rfl
 | cons x r ih=>cases n with
   | zero=>rfl
   | succ n=>exact ih n
theorem J5i {α:Type}:∀(l:List α) (n:Nat),nth l n=l[n]?
 | [],n=>by simp[nth]
 | x::r,0=>by simp[nth]
 | x::r,n+1=>by simp[nth,J5i r n]
noncomputable def dr {α:Type} (l:List α) (n:Nat):List α :=
 @List.rec α (fun _=>Nat->List α) (fun _=>[]) (fun x r ih n=>@Nat.rec (fun _=>List α) (x::r) (fun m _=>ih m) n) l n
theorem J9l {α:Type} (l:List α) (n:Nat):dr l n=l.drop n:=by
 induction l generalizing n with
 | nil=>simp[dr]
 | cons x r ih=>cases n with
   | zero=>rfl
   | succ n=>exact ih n
noncomputable def fH {α β:Type} (l:List α) (K:List α->β):β:=@List.rec α (fun _=>β) (K []) (fun x r _=>K (x::r)) l
theorem X0j {α β:Type} (l:List α) (K:List α->β):fH l K=K l:=by cases l<;>rfl
noncomputable def tk {α β:Type} (n:Nat):List α->(List α->Option β)->Option β :=
 @Nat.rec (fun _=>List α->(List α->Option β)->Option β) (fun _ K=>K []) (fun _ ih l K=>@List.rec α (fun _=>Option β) none (fun x r _=>ih r fun q=>K (x::q)) l) n
theorem Q9q {α β:Type} (n:Nat) (l:List α) (K:List α->Option β):tk n l K=if n<=l.length then K (l.take n) else none:=by
 induction n generalizing l K with
 | zero=>simp only[Nat.zero_le,if_true,List.take_zero];rfl
 | succ n ih=>cases l with
   | nil=>rfl
   | cons x r =>
     show tk n r (fun q=>K (x::q))=_;rw[ih];simp
def bl:Nat->Nat->List UInt8
 | 0,_=>[]
 | l+1,c=>UInt8.ofNat (c % 256)::bl l (c / 256)
def J0q (l c:Nat):ByteArray:=⟨⟨bl l c⟩⟩
def X0p:List UInt8->Nat
 | []=>0
 | b::r=>b.toNat+256*X0p r
theorem Q09:∀(l c:Nat),(bl l c).length=l
 | 0,_=>rfl
 | l+1,c=>by simp[bl,Q09]
theorem X2d:∀(l:List UInt8),bl l.length (X0p l)=l
 | []=>rfl
 | b::r=>by
   have hb:=b.toNat_lt;simp only[List.length_cons,bl,X0p];rw[show(b.toNat+256*X0p r) % 256=b.toNat by omega,show(b.toNat+256*X0p r) / 256=X0p r by omega,X2d r];simp
theorem X2c:∀(l c m:Nat),m<l->(bl l c)[m]?=some (UInt8.ofNat (c / 256 ^ m % 256))
 | 0,c,m,h=>by omega
 | l+1,c,0,h=>by simp[bl]
 | l+1,c,m+1,h=>by
   simp only[bl,List.getElem?_cons_succ];rw[X2c l _ m (by omega),Nat.div_div_eq_div_mul,Nat.pow_succ,Nat.mul_comm 256]
theorem Q8v:∀(l c m:Nat),(bl l c).drop m=bl (l-m) (c / 256 ^ m)
 | 0,c,m=>by simp[bl]
 | l+1,c,0=>by simp
 | l+1,c,m+1=>by
   simp only[bl,List.drop_succ_cons];rw[Q8v l _ m,Nat.div_div_eq_div_mul,Nat.pow_succ,Nat.mul_comm 256,show l+1-(m+1)=l-m by omega]
theorem Q8u:∀(l c m:Nat),m<=l->(bl l c).take m=bl m c
 | l,c,0,h=>by simp[bl]
 | 0,c,m+1,h=>by omega
 | l+1,c,m+1,h=>by simp[bl,Q8u l _ m (by omega)]
theorem X2a:∀(l c:Nat),bl l (c % 256 ^ l)=bl l c
 | 0,c=>rfl
 | l+1,c=>by
   simp only[bl];have h1:c % 256 ^ (l+1) % 256=c % 256:=by
    rw[Nat.pow_succ,Nat.mul_comm];exact Nat.mod_mul_right_mod _ _ _
   have h2:c % 256 ^ (l+1) / 256=c / 256 % 256 ^ l:=by
    rw[Nat.pow_succ,Nat.mul_comm,Nat.mod_mul_right_div_self]
   rw[h1,h2,X2a]
theorem X2b:∀(l c d:Nat),bl l c=bl l d->c % 256 ^ l=d % 256 ^ l
 | 0,c,d,_=>by simp[Nat.mod_one]
 | l+1,c,d,h=>by
   simp only[bl,List.cons.injEq] at h;have h1:c % 256=d % 256:=by
    have:=congrArg UInt8.toNat h.1;simpa using this
   have h2:=X2b l _ _ h.2;rw[Nat.pow_succ,Nat.mul_comm,Nat.mod_mul,Nat.mod_mul,h1,h2]
theorem X2e:∀(l c l' c':Nat),bl l c++bl l' c'=bl (l+l') (c % 256 ^ l+256 ^ l*c')
 | 0,c,l',c'=>by simp[bl,Nat.mod_one]
 | l+1,c,l',c'=>by
   rw[show l+1+l'=(l+l')+1 by omega];simp only[bl,List.cons_append];rw[X2e l _ l' c'];have e:c % 256 ^ (l+1)=c % 256+256*(c / 256 % 256 ^ l):=by
    rw[Nat.pow_succ,Nat.mul_comm (256 ^ l),Nat.mod_mul]
   have e2:256 ^ (l+1)*c'=256*(256 ^ l*c'):=by rw[Nat.pow_succ,Nat.mul_comm (256 ^ l),Nat.mul_assoc]
   rw[e,e2];have hlt:c % 256<256:=Nat.mod_lt _ (by omega);rw[show(c % 256+256*(c / 256 % 256 ^ l)+256*(256 ^ l*c')) % 256=c % 256 by omega,show(c % 256+256*(c / 256 % 256 ^ l)+256*(256 ^ l*c')) / 256=c / 256 % 256 ^ l+256 ^ l*c' by omega]
theorem J1r (l c:Nat):(J0q l c).size=l:=by
 show(bl l c).length=l;exact Q09 l c
theorem Q2k (b:ByteArray):J0q b.size (X0p b.data.toList)=b:=by
 obtain⟨⟨l⟩⟩:=b;show ByteArray.mk ⟨bl l.length (X0p l)⟩=_;rw[X2d]
theorem Q2j (l c m:Nat) (h:m<l):((J0q l c).get! m).toNat=c / 256 ^ m % 256:=by
 have h1:=X2c l c m h;show((J0q l c).data[m]!).toNat=_;have:(J0q l c).data[m]! = UInt8.ofNat (c / 256 ^ m % 256):=by
  rw[getElem!_def,show(J0q l c).data[m]?=some (UInt8.ofNat (c / 256 ^ m % 256)) from by simpa[J0q] using h1]
 rw[this];simp
theorem J7v (l c lo hi:Nat) (h:hi<=l):(J0q l c).extract lo hi=J0q (hi-lo) (c / 256 ^ lo):=by
 apply ByteArray.ext;rw[ByteArray.data_extract];show(Array.mk (bl l c)).extract lo hi=Array.mk (bl (hi-lo) (c / 256 ^ lo));apply Array.ext';simp only[Array.toList_extract,List.extract_eq_take_drop];rw[Q8v,Q8u _ _ _ (by omega)]
theorem J4w (l c:Nat):J0q l (c % 256 ^ l)=J0q l c:=by unfold J0q;rw[X2a]
theorem Q2l (l c l' c':Nat):J0q l c++J0q l' c'=J0q (l+l') (c % 256 ^ l+256 ^ l*c'):=by
 apply ByteArray.ext;rw[ByteArray.data_append];show Array.mk (bl l c)++Array.mk (bl l' c')=Array.mk _;simp[X2e]
def eqS (l c l' c':Nat):Bool:=match Nat.beq l l' with
 | true=>Nat.beq (Nat.mod c (Nat.pow 256 l)) (Nat.mod c' (Nat.pow 256 l))
 | false=>false
theorem Q3A (l c l' c':Nat):eqS l c l' c'=(J0q l c == J0q l' c'):=by
 unfold eqS;have hb:(J0q l c == J0q l' c')=decide (J0q l c=J0q l' c'):=by
  rw[Bool.eq_iff_iff,bytes_beq];simp
 rw[hb];split
 . rename_i h;have h:=Nat.eq_of_beq_eq_true h;subst h;rw[Bool.eq_iff_iff,Nat.beq_eq,decide_eq_true_eq];constructor
   . intro h;have h:c % 256 ^ l=c' % 256 ^ l:=h;rw[<- J4w l c,h,J4w]
   . intro h;exact X2b l c c' (by simpa[J0q] using h)
 . rename_i h;symm;rw[decide_eq_false_iff_not];intro e;have:=congrArg ByteArray.size e;rw[J1r,J1r] at this;subst this;simp at h
inductive C where
 | nilptr|nilmap|nilfunc|niliface
 | unit
 | map (k:Nat)
 | fn (f:Fn) (b:Bool) (cap:List C)
 | iface (t:TypeId) (v:C)
 | fe (n s:Nat) (z:List C) (rows:List (List C)) (i j:Nat)
 | oel (k s i j:Nat)
 | fz (n s:Nat) (J2x:Bool) (z:List C) (rows:List (List C))
 | tup (vs:List C)
 | agg (cs:List C)
 | nilslice
 | vec (k s lo len:Nat)
 | loc (k off:Nat)
 | str (l c:Nat)
 | bool (b:Bool)
 | int (k:IntKind) (n:Int)
 deriving Inhabited
def J3z:List V->V
 | []=>default
 | [v]=>v
 | _::r=>J3z r
def J4i (z:List V) (rows:List (List V)):Nat->Nat->V:=fun i j=>(rows.getD i z).getD j (J3z z)
mutual
def C.v:C->V
 | .bool b=>.bool b
 | .int k n=>.int k n
 | .str l c=>.str (J0q l c)
 | .nilptr=>.nilptr | .nilslice=>.nilslice | .nilmap=>.nilmap | .nilfunc=>.nilfunc | .niliface=>.niliface
 | .loc k off=>.loc k off
 | .oel k s i j=>.oel k s i j
 | .vec k s lo len=>.vec k s lo len
 | .fz n s J2x z rows=>.fz n s J2x (J4i (C.vs z) (C.vss rows))
 | .fe n s z rows i j=>.fe n s (J4i (C.vs z) (C.vss rows)) i j
 | .map k=>.map k
 | .fn f b cap=>.fn f b (C.vs cap)
 | .iface t v=>.iface t v.v
 | .agg cs=>.agg (C.vs cs)
 | .tup cs=>.tup (C.vs cs)
 | .unit=>.raw (.tuple #[])
def C.vs:List C->List V
 | []=>[]
 | c::r=>c.v::C.vs r
def C.vss:List (List C)->List (List V)
 | []=>[]
 | c::r=>C.vs c::C.vss r
end
theorem C.vs_map:∀(l:List C),C.vs l=l.map C.v
 | []=>by simp[C.vs]
 | c::r=>by simp[C.vs,C.vs_map r]
theorem C.vss_map:∀(l:List (List C)),C.vss l=l.map C.vs
 | []=>by simp[C.vss]
 | c::r=>by simp[C.vss,C.vss_map r]
theorem C.vs_length (l:List C):(C.vs l).length=l.length:=by simp[C.vs_map]
theorem C.vs_get (l:List C) (i:Nat):(C.vs l)[i]?=(l[i]?).map C.v:=by simp[C.vs_map]
theorem C.vss_get (l:List (List C)) (i:Nat):(C.vss l)[i]?=(l[i]?).map C.vs:=by simp[C.vss_map]
abbrev J1d:=List (Nat×C)
inductive CB where
 | cells (cs:List C)
 | vec (n s:Nat) (z:List C) (rows:List (List C))
 | map (ik:IntKind) (es:List (Int×C))
 | mapS (es:List ((Nat×Nat)×C))
 deriving Inhabited
abbrev J0z:=List (Nat×CB)
def CB.b:CB->Blk
 | .cells cs=>.cells (C.vs cs)
 | .vec n s z rows=>.vec n s (J4i (C.vs z) (C.vss rows))
 | .map ik es=>.map (.one ik) (es.map fun p=>(p.1,p.2.v))
 | .mapS es=>.map .str (es.map fun p=>(J0q p.1.1 p.1.2,p.2.v))
def J2Y (e:J1d):Env:=e.map fun p=>(p.1,p.2.v)
def J0I (o:J0z):Own:=o.map fun p=>(p.1,p.2.b)
theorem J2n {α β:Type} (f:α->β) (l:List (Nat×α)) (t:Nat):look (l.map fun p=>(p.1,f p.2)) t=(look l t).map f:=by
 induction l with
 | nil=>rfl
 | cons p r ih =>
   simp only[List.map_cons,look];cases Nat.beq p.1 t<;>simp[ih]
theorem J1Q {e:J1d} {t:Nat} {c:C} (h:lk e t=some c):look (J2Y e) t=some c.v:=by
 rw[J7K] at h;rw[J2Y,J2n,h];rfl
theorem J0v {o:J0z} {t:Nat} {c:CB} (h:lk o t=some c):look (J0I o) t=some c.b:=by
 rw[J7K] at h;rw[J0I,J2n,h];rfl
def X4V (v:V):Option C:=match v with
 | .bool b=>some (.bool b)
 | .int k n=>some (.int k n)
 | .str s=>some (.str s.size (X0p s.data.toList))
 | .nilptr=>some .nilptr | .nilslice=>some .nilslice | .nilmap=>some .nilmap | .nilfunc=>some .nilfunc | .niliface=>some .niliface
 | .fn f b []=>some (.fn f b [])
 | _=>none
theorem Q1O {v:V} {c:C} (h:X4V v=some c):c.v=v:=by
 unfold X4V at h;split at h<;>first
  | (cases h;done)
  | (cases h;simp[C.v,C.vs,Q2k])
noncomputable def X4U (l:List V):Option (List C):=@List.rec V (fun _=>Option (List C)) (some []) (fun v _ ih=>match X4V v with
 | some c=>match ih with
   | some l=>some (c::l)
   | none=>none
 | none=>none) l
theorem J6N:∀(l:List V) {cs:List C},X4U l=some cs->C.vs cs=l
 | [],cs,h=>by have h:some []=some cs:=h;cases h;simp[C.vs]
 | v::r,cs,h=>by
   have h:(match X4V v with
    | some c=>match X4U r with
      | some l=>some (c::l)
      | none=>none
    | none=>none)=some cs:=h
   split at h
   . rename_i c hc;split at h
     . rename_i l hl;cases h;simp[C.vs,Q1O hc,J6N r hl]
     . cases h
   . cases h
noncomputable def ofV (v:V):Option C:=match v with
 | .agg cs=>match X4U cs with|some l=>some (.agg l)|none=>none
 | v=>X4V v
theorem X1A (v:V) {c:C} (h:ofV v=some c):c.v=v:=by
 unfold ofV at h;split at h
 . split at h
   . rename_i l hl;cases h;simp[C.v,J6N _ hl]
   . cases h
 . exact Q1O h
end Go.Eng
