import Derived.Test.YtefdkgkojlflaaaGreatDoorSV1
import Derived.Test.YtefdkgkojlflaaaGreatDoorEngV
namespace Go.Proofs.YtefdkgkojlflaaaGreatDoor
open Go.Eng
set_option maxRecDepth 100000
set_option linter.unusedVariables false
inductive Tm where
 | leaf (op arg:Int)
 | un (op:Int) (a:Tm)
 | agg (op:Int) (a:Tm)
 | bin (op:Int) (a b:Tm)
 | ite (c a b:Tm)
abbrev Lt2:=List (Int×Int)
def Tm.enc:Tm->Lt2
 | .leaf op arg=>[(op,arg)]
 | .un op a=>(op,0)::a.enc
 | .agg op a=>(op,0)::a.enc
 | .bin op a b=>(op,0)::(a.enc++b.enc)
 | .ite c a b=>(43,0)::(c.enc++(a.enc++b.enc))
def Tm.wf (nv:Nat):Bool->Tm->Bool
 | bd,.leaf op arg=>decide (1<=op/\op<=17)&&decide (op=1->0<=arg/\arg<=1073741824)&&decide (op=5\/op=12->0<=arg/\arg<nv)&&(bd || decide (op<=10))
 | bd,.un op a=>decide (op=18\/op=19)&&a.wf nv bd
 | _,.agg op a=>decide (20<=op/\op<=29/\op≠27)&&a.wf nv true
 | bd,.bin op a b=>decide (30<=op/\op<=42)&&(a.wf nv bd&&b.wf nv bd)
 | bd,.ite c a b=>c.wf nv bd&&(a.wf nv bd&&b.wf nv bd)
def arI (op:Int):Int:=if op<1\/43<op then -1 else if op<=17 then 0 else if op<=29 then 1 else if op<=42 then 2 else 3
theorem Y1T (op:Int):Ret Tryz.prog 191 [.int .i64 op] (.int .i64 (arI op)):=by
 refine J0f rfl ?_;refine J0b mixed Tryz.func191 rfl X4p X4l rfl ?_;rw[arI]
 repeat' ((conv=>whnf);first|(refine Br.dec ?_ ?_<;>intro _<;>try omega))
 all_goals (conv=>whnf)
 all_goals refine VLe.int ?_
 all_goals repeat' split
 all_goals omega
theorem X7A (op:Int):-1<=arI op/\arI op<=3:=by
 unfold arI
 repeat' split
 all_goals omega
def Q7N:Int->Nat->Lt2->Int
 | _,_,[]=>-1
 | m,k,x::r=>if arI x.1<0 then -1 else if m+(arI x.1-1)=0 then ((k:Int)+1) else Q7N (m+(arI x.1-1)) (k+1) r
def X7S (e:Lt2) (at_:Nat):Int:=Q7N 1 at_ (e.drop at_)
theorem Q1V (l:Lt2) (i:Nat) (h:i<l.length):l.drop i=gF l i::l.drop (i+1):=by
 rw[List.drop_eq_getElem_cons h];simp only[gF,List.getD,List.getElem?_eq_getElem h,Option.getD_some]
theorem X65 (e:Lt2) (k:Nat) (he:e.length<=100000) (hk:k<e.length):Ret Tryz.prog 178 [.fz e.length 2 false (vF e),.int .i64 k] (.int .i64 (X7S e k)):=by
 refine J0f rfl ?_;refine J0b mixed Tryz.func178 rfl X4q X4m rfl ?_
 repeat' ((conv=>whnf);first|(refine Br.ff ?_)|(refine Br.dec ?_ ?_<;>intro _<;>try omega))
 all_goals (conv=>whnf)
 refine J0V mixed [0] (fun x:Nat×Int=>[(1,.int .i64 x.1),(5,.int .i64 x.2)]) (fun n x=>n=e.length-x.1/\x.1<=e.length/\-1000000-x.1<=x.2/\x.2<=1000000+3*x.1/\X7S e k=Q7N x.2 x.1 (e.drop x.1)) (e.length-k) (k,1) ⟨rfl,by omega,by omega,by omega,rfl⟩ ?_ ?_
 . exact J0l (fun _ _=>[])
 rintro n ⟨i,m⟩ ⟨hn,hi,hm1,hm2,hE⟩;simp only at hn hi hm1 hm2 hE;have ha:=Y1T (gF e i).1;have har:=X7A (gF e i).1;by_cases hil:i<e.length
 . rw[Q1V e i hil,Q7N] at hE
   repeat' ((conv=>whnf);first|(refine Br.dec ?_ ?_<;>intro _<;>try omega)|(refine Ar.q ?_)|(refine Ix.q ?_)|(refine ha.go ?_))
   all_goals (conv=>whnf)
   . rw[hE,if_pos (by assumption)];exact VLe.rfl
   . rw[hE,if_neg (by assumption),if_pos (by assumption)];exact VLe.int (by omega)
   . rw[if_neg (by assumption),if_neg (by assumption)] at hE;refine⟨e.length-(i+1),(i+1,m+(arI (gF e i).1-1)),by omega,⟨rfl,by simp only;omega,by simp only;omega,by simp only;omega,hE⟩,?_⟩;exact J0l (fun _ _=>[])
 . have:i=e.length:=by omega
   subst this;rw[List.drop_of_length_le (Nat.le_refl _)] at hE
   repeat' ((conv=>whnf);first|(refine Br.dec ?_ ?_<;>intro _<;>try omega))
   all_goals (conv=>whnf)
   rw[hE];exact VLe.rfl
theorem Y1V {op:Int} (h:1<=op/\op<=17):arI op=0:=by unfold arI;rw[if_neg (by omega),if_pos (by omega)]
theorem X7B {op:Int} (h:18<=op/\op<=29):arI op=1:=by unfold arI;rw[if_neg (by omega),if_neg (by omega),if_pos (by omega)]
theorem Y1U {op:Int} (h:30<=op/\op<=42):arI op=2:=by unfold arI;rw[if_neg (by omega),if_neg (by omega),if_neg (by omega),if_pos (by omega)]
theorem J2U (nv:Nat):∀(t:Tm) (bd:Bool) (m:Int) (k:Nat) (r:Lt2),t.wf nv bd=true->1<=m->Q7N m k (t.enc++r)=if m=1 then ((k+t.enc.length:Nat):Int) else Q7N (m-1) (k+t.enc.length) r
 | .leaf op arg,bd,m,k,r,hw,hm=>by
   simp only[Tm.wf,Bool.and_eq_true,decide_eq_true_eq] at hw;simp only[Tm.enc,List.cons_append,List.nil_append,Q7N,Y1V hw.1.1.1,List.length_cons,List.length_nil];rw[if_neg (by omega)];by_cases h:m=1
   . rw[if_pos (by omega),if_pos h];omega
   . rw[if_neg (by omega),if_neg h];congr 1
 | .un op a,bd,m,k,r,hw,hm=>by
   simp only[Tm.wf,Bool.and_eq_true,decide_eq_true_eq] at hw;simp only[Tm.enc,List.cons_append,Q7N,X7B (show 18<=op/\op<=29 by omega),List.length_cons];rw[if_neg (by omega),if_neg (by omega),show m+(1-1)=m by omega,J2U nv a bd m (k+1) r hw.2 hm];rw[show k+1+a.enc.length=k+(a.enc.length+1) by omega]
 | .agg op a,bd,m,k,r,hw,hm=>by
   simp only[Tm.wf,Bool.and_eq_true,decide_eq_true_eq] at hw;simp only[Tm.enc,List.cons_append,Q7N,X7B (show 18<=op/\op<=29 by omega),List.length_cons];rw[if_neg (by omega),if_neg (by omega),show m+(1-1)=m by omega,J2U nv a true m (k+1) r hw.2 hm];rw[show k+1+a.enc.length=k+(a.enc.length+1) by omega]
 | .bin op a b,bd,m,k,r,hw,hm=>by
   simp only[Tm.wf,Bool.and_eq_true,decide_eq_true_eq] at hw;simp only[Tm.enc,List.cons_append,Q7N,Y1U hw.1,List.length_cons,List.append_assoc];rw[if_neg (by omega),if_neg (by omega),show m+(2-1)=m+1 by omega,J2U nv a bd (m+1) (k+1) _ hw.2.1 (by omega),if_neg (by omega),show m+1-1=m by omega,J2U nv b bd m _ r hw.2.2 hm];rw[List.length_append,show k+1+a.enc.length+b.enc.length=k+(a.enc.length+b.enc.length+1) by omega]
 | .ite c a b,bd,m,k,r,hw,hm=>by
   simp only[Tm.wf,Bool.and_eq_true] at hw;simp only[Tm.enc,List.cons_append,Q7N,show arI 43=3 from rfl,List.length_cons,List.append_assoc];rw[if_neg (by omega),if_neg (by omega),show m+(3-1)=m+2 by omega,J2U nv c bd (m+2) (k+1) _ hw.1 (by omega),if_neg (by omega),show m+2-1=m+1 by omega,J2U nv a bd (m+1) _ _ hw.2.1 (by omega),if_neg (by omega),show m+1-1=m by omega,J2U nv b bd m _ r hw.2.2 hm];rw[List.length_append,List.length_append,show k+1+c.enc.length+a.enc.length+b.enc.length=k+(c.enc.length+(a.enc.length+b.enc.length)+1) by omega]
theorem X01 {nv:Nat} {t:Tm} {bd:Bool} (hw:t.wf nv bd=true) {e post:Lt2} {k:Nat} (h:e.drop k=t.enc++post):X7S e k=((k+t.enc.length:Nat):Int):=by
 rw[X7S,h,J2U nv t bd 1 k post hw (by omega),if_pos rfl]
def J9J:Nat->Lt2->Int->Int
 | _,[],_=>-1
 | k,l::r,b=>if l.1=b then k else J9J (k+1) r b
def X1E (g:G) (v i:Nat):Int:=J9J 0 (gR g.ports (gF (gR g.ports v) i).1.toNat) v
def vBk (g:G):Nat->Nat->V:=fun v _=>.fz (gR g.ports v).length 1 false fun i _=>.int .i64 (X1E g v i)
def Q4s (g:G):Int:=J4i g.ids 0
structure Pg where
 nm:ByteArray
 vs:V
 rs:V
def X3A (p:Pg) (g:G):List V:=[.str p.nm,p.vs,p.rs,.fz g.ids.length 1 false (vI g.ids),.fz g.ports.length 1 false (vP g.ports),.int .i64 (Q4s g),.fz g.ports.length 1 false (vBk g)]
def scP (p:Pg) (g:G):V:=.fe 1 7 (tab [X3A p g]) 0 0
def Q0U (g:G) (v:Nat) (port op:Int):Int :=
 if op=6 then g.ids.length else if op=7 then Q4s g else if op=8 then gI g.ids v else if op=9 then (gR g.ports v).length else if op=10 then J29 (decide (v=0)) else if op=11 then port
 else if op=13 then gI g.ids (gF (gR g.ports v) port.toNat).1.toNat else if op=14 then (gR g.ports (gF (gR g.ports v) port.toNat).1.toNat).length else if op=15 then J29 (decide ((gF (gR g.ports v) port.toNat).1=0))
 else if op=16 then (gF (gR g.ports v) port.toNat).2 else X1E g v port.toNat
theorem Q0N {l:List Int} {P:Int->Prop} (h:∀a∈l,P a) {i:Nat} (hi:i<l.length):P (gI l i):=h _ (J5U hi)
theorem Q0m {n v:Nat} {r:Lt2} (h:okR n v r=true) {i:Nat} (hi:i<r.length):0<=(gF r i).1/\(gF r i).1<n/\(gF r i).1≠v/\1<=(gF r i).2/\(gF r i).2<=15:=by
 rw[okR,Bool.and_eq_true,List.all_eq_true] at h;have:=h.1 _ (J02 hi)
 rwa[okL,decide_eq_true_eq] at this
theorem X4H (p:Pg) (g:G) (hg:g.valid=true) (v:Nat) (hv:v<g.ports.length) (port op:Int) (hop:6<=op/\op<=17/\op≠12) (hport:13<=op->0<=port/\port<(gR g.ports v).length) :
 Ret Tryz.prog 208 [scP p g,.int .i64 op,.int .i64 v,.int .i64 port] (.int .i64 (Q0U g v port op)):=by
 obtain⟨f1,f2,f3,f4,f5,f6,f7⟩:=J0a hg;have htt:=J5G true;have htf:=J5G false;refine J0f rfl ?_;refine J0b mixed Tryz.func208 rfl Y0Z Y0h rfl ?_;rcases (show op=6\/op=7\/op=8\/op=9\/op=10\/op=11\/13<=op by omega) with rfl|rfl|rfl|rfl|rfl|rfl|h13
 . repeat' ((conv=>whnf);first|(refine Br.tt ?_))
   all_goals (conv=>whnf)
   exact VLe.rfl
 . repeat' ((conv=>whnf);first|(refine Br.tt ?_)|(refine Br.ff ?_))
   all_goals (conv=>whnf)
   exact VLe.rfl
 . repeat' ((conv=>whnf);first|(refine Br.tt ?_)|(refine Br.ff ?_)|(refine Ix.q ?_))
   all_goals (conv=>whnf)
   exact VLe.rfl
 . repeat' ((conv=>whnf);first|(refine Br.tt ?_)|(refine Br.ff ?_)|(refine Ix.q ?_))
   all_goals (conv=>whnf)
   exact VLe.rfl
 . repeat' ((conv=>whnf);first|(refine Br.tt ?_)|(refine Br.ff ?_)|(refine Br.dec ?_ ?_<;>intro _<;>try omega)|(refine htt.go ?_)|(refine htf.go ?_))
   all_goals (conv=>whnf)
   . exact VLe.int (by simp[Q0U];rw[decide_eq_true (by omega)])
   . exact VLe.int (by simp[Q0U];rw[decide_eq_false (by omega)])
 . repeat' ((conv=>whnf);first|(refine Br.tt ?_)|(refine Br.ff ?_))
   all_goals (conv=>whnf)
   exact VLe.rfl
 . obtain⟨hp0,hp1⟩:=hport h13;obtain⟨k,rfl⟩:∃k:Nat,port=k:=⟨port.toNat,by omega⟩;have hr:=Q0m (f6 v hv) (i:=k) (by omega);rcases (show op=13\/op=14\/op=15\/op=16\/op=17 by omega) with rfl|rfl|rfl|rfl|rfl
   . repeat' ((conv=>whnf);first|(refine Br.tt ?_)|(refine Br.ff ?_)|(refine Ix.q ?_)|(refine Ix.int (by omega) (by omega) ?_))
     all_goals (conv=>whnf)
     exact VLe.rfl
   . repeat' ((conv=>whnf);first|(refine Br.tt ?_)|(refine Br.ff ?_)|(refine Ix.q ?_)|(refine Ix.int (by omega) (by omega) ?_))
     all_goals (conv=>whnf)
     exact VLe.rfl
   . repeat' ((conv=>whnf);first|(refine Br.tt ?_)|(refine Br.ff ?_)|(refine Br.dec ?_ ?_<;>intro _<;>try omega)|(refine Ix.q ?_)|(refine htt.go ?_)|(refine htf.go ?_))
     all_goals (conv=>whnf)
     . exact VLe.int (by simp[Q0U];rw[decide_eq_true (by omega)])
     . exact VLe.int (by simp[Q0U];rw[decide_eq_false (by omega)])
   . repeat' ((conv=>whnf);first|(refine Br.tt ?_)|(refine Br.ff ?_)|(refine Ix.q ?_))
     all_goals (conv=>whnf)
     exact VLe.rfl
   . repeat' ((conv=>whnf);first|(refine Br.ff ?_)|(refine Ix.q ?_))
     all_goals (conv=>whnf)
     exact VLe.rfl
def nbV (g:G) (v:Nat) (port:Int):Nat:=(gF (gR g.ports v) port.toNat).1.toNat
def Q4R (g:G) (c:Cf) (v:Nat) (port op arg:Int):Int :=
 if op=1 then arg else if op=2 then 1 else if op=3 then 0 else if op=4 then -1 else if op=5 then gI (gC c v) arg.toNat else if op=12 then gI (gC c (nbV g v port)) arg.toNat else Q0U g v port op
def Tm.sem (g:G) (c:Cf) (v:Nat):Tm->Int->Int
 | .leaf op arg,port=>Q4R g c v port op arg
 | .un op a,port=>unI op (a.sem g c v port)
 | .agg op a,_=>Q3E op ((List.range (gR g.ports v).length).map fun i=>a.sem g c v (i:Nat))
 | .bin op a b,port=>Q5a op (a.sem g c v port) (b.sem g c v port)
 | .ite q a b,port=>if q.sem g c v port≠0 then a.sem g c v port else b.sem g c v port
def wkP (p:Pg) (g:G) (c:Cf) (v:Nat) (e:Lt2):V:=.fe 1 4 (tab [[scP p g,cV c,.int .i64 v,.fz e.length 2 false (vF e)]]) 0 0
structure Fit (g:G) (nv:Nat) (c:Cf):Prop where
 len:c.length=g.ports.length
 row:∀v,v<c.length->(gC c v).length=nv
 val:∀v,v<c.length->∀x,x<nv->inR (gI (gC c v) x)
theorem X4d (p:Pg) (g:G) (hg:g.valid=true) {nv:Nat} {c:Cf} (hc:Fit g nv c) (v:Nat) (hv:v<g.ports.length) (e:Lt2) (bd:Bool) (port op arg:Int)
 (hw:(Tm.leaf op arg).wf nv bd=true) (hport:bd=true->0<=port/\port<(gR g.ports v).length) :
 Ret Tryz.prog 199 [wkP p g c v e,.agg [.int .i64 op,.int .i64 arg],.int .i64 port] (.int .i64 (Q4R g c v port op arg)):=by
 obtain⟨f1,f2,f3,f4,f5,f6,f7⟩:=J0a hg;simp only[Tm.wf,Bool.and_eq_true,Bool.or_eq_true,decide_eq_true_eq] at hw;obtain⟨⟨⟨w1,w2⟩,w3⟩,w4⟩:=hw;have hcl:=hc.len;have hrow:=hc.row;refine J0f rfl ?_;refine J0b mixed Tryz.func199 rfl Y03 Y0l rfl ?_;rcases (show op=1\/op=2\/op=3\/op=4\/op=5\/op=12\/(6<=op/\op<=17/\op≠12) by omega) with rfl|rfl|rfl|rfl|rfl|rfl|h6
 . repeat' ((conv=>whnf);first|(refine Br.tt ?_))
   all_goals (conv=>whnf)
   exact VLe.rfl
 . repeat' ((conv=>whnf);first|(refine Br.tt ?_)|(refine Br.ff ?_))
   all_goals (conv=>whnf)
   exact VLe.rfl
 . repeat' ((conv=>whnf);first|(refine Br.tt ?_)|(refine Br.ff ?_))
   all_goals (conv=>whnf)
   exact VLe.rfl
 . repeat' ((conv=>whnf);first|(refine Br.tt ?_)|(refine Br.ff ?_))
   all_goals (conv=>whnf)
   exact VLe.rfl
 . have hrow:=hrow v (by omega);obtain⟨k,rfl⟩:∃k:Nat,arg=k:=⟨arg.toNat,by omega⟩
   repeat' ((conv=>whnf);first|(refine Br.tt ?_)|(refine Br.ff ?_)|(refine Ix.q ?_))
   all_goals (conv=>whnf)
   exact VLe.rfl
 . obtain⟨hp0,hp1⟩:=hport (by rcases w4 with h|h<;>first|exact h|omega);obtain⟨i,rfl⟩:∃k:Nat,port=k:=⟨port.toNat,by omega⟩;have hr:=Q0m (f6 v hv) (i:=i) (by omega);obtain⟨k,rfl⟩:∃k:Nat,arg=k:=⟨arg.toNat,by omega⟩;have hrow:=hrow (gF (gR g.ports v) i).1.toNat (by omega)
   repeat' ((conv=>whnf);first|(refine Br.tt ?_)|(refine Br.ff ?_)|(refine Ix.q ?_)|(refine Ix.int (by omega) (by omega) ?_))
   all_goals (conv=>whnf)
   exact VLe.rfl
 . have hf:=X4H p g hg v hv port op h6 (fun h=>hport (by rcases w4 with h|h<;>first|exact h|omega));have e:Q4R g c v port op arg=Q0U g v port op:=by unfold Q4R;rw[if_neg (by omega),if_neg (by omega),if_neg (by omega),if_neg (by omega),if_neg (by omega),if_neg (by omega)]
   rw[e]
   repeat' ((conv=>whnf);first|(refine Br.dec ?_ ?_<;>intro _<;>try omega)|(refine hf.go ?_))
   all_goals (conv=>whnf)
   exact VLe.rfl
theorem J8g:∀(r:Lt2) (k:Nat) (b:Int),-1<=J9J k r b/\J9J k r b<(k+r.length:Nat)\/J9J k r b=-1
 | [],k,b=>.inr rfl
 | l::r,k,b=>by
   simp only[J9J];split
   . left;simp;omega
   . rcases J8g r (k+1) b with h|h
     . left;simp at *;omega
     . right;exact h
theorem X4z {p:List Lt2} {v:Nat} (h:p.length<=v):gR p v=[]:=by
 simp only[gR,List.getD,List.getElem?_eq_none h,Option.getD_none]
theorem J6P {g:G} (hg:g.valid=true) (v:Nat):(gR g.ports v).length<=24:=by
 obtain⟨f1,f2,f3,f4,f5,f6,f7⟩:=J0a hg;by_cases h:v<g.ports.length
 . have:=J6Z h (f6 v h);omega
 . rw[X4z (by omega)];simp
theorem Q6V (l:List Int) {a b m:Int} (hm:a<=m/\m<=b) (h:∀x∈l,x<=b):a<=J4i l m/\J4i l m<=b:=⟨Int.le_trans hm.1 (J5r l m),Q1Q l m b hm.2 h⟩
theorem X4I {g:G} (hg:g.valid=true) {v:Nat} (hv:v<g.ports.length) {port op:Int} (hop:6<=op/\op<=17/\op≠12) (hp:11<=op->0<=port/\port<(gR g.ports v).length):inR (Q0U g v port op):=by
 obtain⟨f1,f2,f3,f4,f5,f6,f7⟩:=J0a hg;have ht:=Q6V g.ids (a:=0) (b:=255) (m:=0) (by omega) (fun a ha=>(f4 a ha).2);have hl:=J6P hg;have hi:=fun i (h:i<g.ids.length)=>f4 _ (J5U h);have nat:∀n:Nat,n<=24->inR (n:Int):=fun n h=>by unfold inR;omega
 have low:∀a:Int,0<=a/\a<=255->inR a:=fun n h=>by unfold inR;omega
 rcases (show op=6\/op=7\/op=8\/op=9\/op=10\/11<=op by omega) with rfl|rfl|rfl|rfl|rfl|h11
 . exact nat _ f2
 . exact low _ ht
 . exact low _ (hi v (by omega))
 . exact nat _ (hl v)
 . exact J9U _
 . have hp:=hp h11;have hr:=Q0m (f6 v hv) (i:=port.toNat) (by omega);have hlv:=hl v;rcases (show op=11\/op=13\/op=14\/op=15\/op=16\/op=17 by omega) with rfl|rfl|rfl|rfl|rfl|rfl
   . exact low port (by omega)
   . exact low _ (hi _ (by omega))
   . exact nat _ (hl _)
   . exact J9U _
   . exact low (gF (gR g.ports v) port.toNat).2 (by omega)
   . have hb:=J8g (gR g.ports (gF (gR g.ports v) port.toNat).1.toNat) 0 v;have hbl:=hl (gF (gR g.ports v) port.toNat).1.toNat;show inR (J9J 0 (gR g.ports (gF (gR g.ports v) port.toNat).1.toNat) v);unfold inR;omega
theorem X4e {g:G} (hg:g.valid=true) {nv:Nat} {c:Cf} (hc:Fit g nv c) {v:Nat} (hv:v<g.ports.length) {bd:Bool} {port op arg:Int}
 (hw:(Tm.leaf op arg).wf nv bd=true) (hport:bd=true->0<=port/\port<(gR g.ports v).length):inR (Q4R g c v port op arg):=by
 obtain⟨f1,f2,f3,f4,f5,f6,f7⟩:=J0a hg;simp only[Tm.wf,Bool.and_eq_true,Bool.or_eq_true,decide_eq_true_eq] at hw;obtain⟨⟨⟨w1,w2⟩,w3⟩,w4⟩:=hw;have hcl:=hc.len;have hp:11<=op->0<=port/\port<(gR g.ports v).length:=fun h=>hport (by rcases w4 with h|h<;>first|exact h|omega);unfold Q4R;split
 . unfold inR;omega
 split
 . unfold inR;omega
 split
 . unfold inR;omega
 split
 . unfold inR;omega
 split
 . exact hc.val v (by omega) _ (by omega)
 split
 . have hp:=hp (by omega);have hr:=Q0m (f6 v hv) (i:=port.toNat) (by omega);exact hc.val _ (by unfold nbV;omega) _ (by omega)
 . exact X4I hg hv (by omega) hp
theorem Q6R:∀(l:List Int) (m:Int),inR m->(∀a∈l,inR a)->inR (Q1p l m)
 | [],m,h,_=>h
 | a::r,m,h,hl=>Q6R r _ (by split;(first|exact hl a (by simp)|exact h);(first|exact hl a (by simp)|exact h)) fun b hb=>hl b (by simp[hb])
theorem Q5P:∀(l:List Int) (p:Int×Int),inR p.1->inR p.2->(∀a∈l,inR a)->inR (X3i l p).1/\inR (X3i l p).2
 | [],p,h,h2,_=>⟨h,h2⟩
 | a::r,p,h,h2,hl=>by
   have ha:=hl a (by simp);refine Q5P r _ ?_ ?_ fun b hb=>hl b (by simp[hb])
   . unfold two;split
     . exact ha
     . exact h
   . unfold two;split
     . exact h
     . simp only;split
       . exact ha
       . exact h2
theorem X4C {op:Int} {l:List Int} (hl:l.length<=1000) (h:∀a∈l,inR a):inR (Q3E op l):=by
 have hc:=Q2a l;have hi:=J5u l 0;have ht:=Q5P l (-1073741824,-1073741824) (by unfold inR;omega) (by unfold inR;omega) h;have hm:=Q6R l 1073741824 (by unfold inR;omega) h;unfold Q3E
 repeat' split
 all_goals first|exact J9U _|exact X1S _|exact hm|exact ht.1|exact ht.2|skip
 . unfold inR;omega
 . unfold inR;omega
 . by_cases k:0<l.length
   . exact Q0N h k
   . have:l=[]:=List.length_eq_zero_iff.1 (by omega);subst this;simp[gI,inR]
theorem J5K {g:G} (hg:g.valid=true) {nv:Nat} {c:Cf} (hc:Fit g nv c) {v:Nat} (hv:v<g.ports.length) :
 ∀(t:Tm) (bd:Bool) (port:Int),t.wf nv bd=true->(bd=true->0<=port/\port<(gR g.ports v).length)->inR (t.sem g c v port)
 | .leaf op arg,bd,port,hw,hp=>X4e hg hc hv hw hp
 | .un op a,bd,port,hw,hp=>by
   simp only[Tm.wf,Bool.and_eq_true,decide_eq_true_eq] at hw;exact X8a (J5K hg hc hv a bd port hw.2 hp)
 | .agg op a,bd,port,hw,hp=>by
   simp only[Tm.wf,Bool.and_eq_true,decide_eq_true_eq] at hw;refine X4C (by simpa using Nat.le_trans (J6P hg v) (by omega)) fun x hx=>?_;obtain⟨i,hi,rfl⟩:=List.mem_map.1 hx;rw[List.mem_range] at hi;exact J5K hg hc hv a true i hw.2 fun _=>by omega
 | .bin op a b,bd,port,hw,hp=>X7r _ _ _
 | .ite q a b,bd,port,hw,hp=>by
   simp only[Tm.wf,Bool.and_eq_true] at hw;simp only[Tm.sem];split
   . exact J5K hg hc hv a bd port hw.2.1 hp
   . exact J5K hg hc hv b bd port hw.2.2 hp
def X7F (p:Pg) (g:G) (nv:Nat) (c:Cf) (v:Nat) (e:Lt2) (t:Tm):Prop :=
 ∀(bd:Bool) (port:Int) (k:Nat) (post:Lt2),e.drop k=t.enc++post->t.wf nv bd=true->(bd=true->0<=port/\port<(gR g.ports v).length) ->
  Ret Tryz.prog 183 [wkP p g c v e,.int .i64 k,.int .i64 port] (.tup [.int .i64 (t.sem g c v port),.int .i64 ((k+t.enc.length:Nat):Int)])
theorem J3g {e post:Lt2} {x:Int×Int} {k:Nat} (h:e.drop k=x::post):k<e.length/\gF e k=x/\e.drop (k+1)=post:=by
 have hl:k<e.length:=by
  rcases Nat.lt_or_ge k e.length with h1|h1
  . exact h1
  . rw[List.drop_of_length_le h1] at h;cases h
 rw[Q1V e k hl] at h;simp only[List.cons.injEq] at h;exact⟨hl,h.1,h.2⟩
theorem J6g {e a post:Lt2} {k:Nat} (h:e.drop k=a++post):e.drop (k+a.length)=post:=by
 rw[<- List.drop_drop,h,List.drop_left]
theorem Q9e (L:List Int) (i u j:Nat) (hi:i<L.length) (hj:j<1):VLe (J1R (vI (L.take i)) i 0 [.int .i64 (gI L i)] u j) (vI (L.take (i+1)) u j):=by
 obtain rfl:j=0:=by omega
 apply VLe.of_eq;rw[J01 L i hi];have hl:(L.take i).length=i:=by rw[List.length_take];omega
 by_cases h:u=i
 . subst h;simp only[J1R,vI];rw[if_pos (by simp)];simp[gI,hl]
 . simp only[J1R,vI];rw[if_neg (by simp[h])];congr 1;simp only[gI,List.getD];by_cases h2:u<i
   . rw[List.getElem?_append_left (by omega)]
   . rw[List.getElem?_eq_none (by omega),List.getElem?_eq_none (by simp;omega)]
set_option maxHeartbeats 8000000 in
theorem X7D (p:Pg) (g:G) (hg:g.valid=true) {nv:Nat} {c:Cf} (hc:Fit g nv c) (v:Nat) (hv:v<g.ports.length) (e:Lt2) (he:e.length<=100000) (op:Int) (a:Tm) (ih:X7F p g nv c v e a)
 (k:Nat) (post:Lt2) (hd:e.drop k=(Tm.agg op a).enc++post) (hw:(Tm.agg op a).wf nv true=true) :
 Ret Tryz.prog 201 [wkP p g c v e,.int .i64 op,.int .i64 k] (.tup [.int .i64 ((Tm.agg op a).sem g c v 0),.int .i64 ((k+(Tm.agg op a).enc.length:Nat):Int)]):=by
 obtain⟨f1,f2,f3,f4,f5,f6,f7⟩:=J0a hg;have hend:=X65 e k he;rw[X01 hw hd] at hend;simp only[Tm.enc,List.cons_append] at hd;obtain⟨hk,hx,hd1⟩:=J3g hd;have hend:=hend hk;simp only[Tm.wf,Bool.and_eq_true,decide_eq_true_eq] at hw;have hrl:=J6P hg v;generalize hL:(List.range (gR g.ports v).length).map (fun i=>a.sem g c v (i:Nat))=L;have hLl:L.length=(gR g.ports v).length:=by rw[<- hL];simp
 have hLin:∀x∈L,inR x:=by
  rw[<- hL];intro x hx;obtain⟨i,hi,rfl⟩:=List.mem_map.1 hx;rw[List.mem_range] at hi;exact J5K hg hc hv a true i hw.2 fun _=>by omega
 have hLi:∀i,i<(gR g.ports v).length->gI L i=a.sem g c v (i:Nat):=fun i hi=>by
  rw[<- hL];simp[gI,hi]
 have hfold:=X4B op L (by omega) hLin hw.1;rw[hLl] at hfold;have es:(Tm.agg op a).sem g c v 0=Q3E op L:=by simp only[Tm.sem,hL]
 rw[es];have el:(Tm.agg op a).enc.length=a.enc.length+1:=by simp[Tm.enc]
 rw[el] at hend ⊢;refine J0f rfl ?_;refine J0b mixed Tryz.func201 rfl Y01 Y0j rfl ?_
 repeat' ((conv=>whnf);first|(refine Ix.q ?_))
 all_goals (conv=>whnf)
 refine J16 mixed [0,1,2,8,9,26] [] [1,2,3,4,5,6,7,8,9,10,11,12,13,14,15,16,17,18,19,20,21,22,23,24,25,26,27,28,29] [0] (fun i:Nat=>[(7,.int .i64 (if i=0 then 0 else ((k+(a.enc.length+1):Nat):Int))),(27,.int .i64 i)]) (fun i=>[(0,.vec 24 1 (vI (L.take i)))])
  (fun n i=>n=L.length-i/\i<=L.length) L.length 0 ⟨rfl,Nat.zero_le _⟩ rfl (fun _=>rfl) ?_ ?_
 . refine J0e (fun _ _=>[(0,some 0)]) ?_ ?_ rfl
   . repeat' (first|exact tI|exact J0c.oel rfl rfl|(refine⟨⟨_,rfl,?_⟩,?_⟩)|exact J0c.kf rfl)
   . repeat' (first|exact VLe.of_eq (by simp[vI,gI])|exact tI|(refine⟨⟨_,rfl,?_⟩,?_⟩)|(refine⟨Nat.le_refl _,rfl,fun i j hi hj=>?_⟩))
 rintro n i ⟨hn,hi⟩;by_cases hil:i<(gR g.ports v).length
 . have hval:=ih true (i:Nat) (k+1) post hd1 hw.2 fun _=>by omega
   rw[<- hLi i hil] at hval;rw[show((k+1:Nat):Int)=(k:Int)+1 by omega] at hval
   repeat' ((conv=>whnf);first|(refine Br.dec ?_ ?_<;>intro _<;>try omega)|(refine Ar.q ?_)|(refine Ix.q ?_)|(refine Ltn.q ?_)|(refine hval.go ?_))
   all_goals (conv=>whnf)
   refine⟨L.length-(i+1),i+1,by omega,⟨rfl,by omega⟩,?_⟩;have e7:(if i+1=0 then (0:Int) else ((k+(a.enc.length+1):Nat):Int))=((k+1+a.enc.length:Nat):Int):=by rw[if_neg (by omega)];omega
   simp only[e7];refine J0e (fun _ _=>[(0,some 0)]) ?_ ?_ rfl
   . repeat' (first|exact tI|exact J0c.oel rfl rfl|(refine⟨⟨_,rfl,?_⟩,?_⟩)|exact J0c.kf rfl)
   . repeat' (first|exact Q9e _ _ _ _ (by omega) hj|exact tI|(refine⟨⟨_,rfl,?_⟩,?_⟩)|(refine⟨Nat.le_refl _,rfl,fun i j hi hj=>?_⟩))
 . have e:i=L.length:=by omega
   subst e;rw[List.take_of_length_le (Nat.le_refl _)];rw[hLl];by_cases h0:(gR g.ports v).length=0
   . rw[if_pos h0]
     repeat' ((conv=>whnf);first|(refine Br.dec ?_ ?_<;>intro _<;>try omega)|(refine Bd.q ?_)|(refine hend.go ?_)|(refine hfold.go ?_))
     all_goals (conv=>whnf)
     exact VLe.rfl
   . rw[if_neg h0]
     repeat' ((conv=>whnf);first|(refine Br.dec ?_ ?_<;>intro _<;>try omega)|(refine Bd.q ?_)|(refine hfold.go ?_))
     all_goals (conv=>whnf)
     exact VLe.rfl
set_option maxHeartbeats 8000000 in
theorem Q9o (p:Pg) (g:G) (hg:g.valid=true) {nv:Nat} {c:Cf} (hc:Fit g nv c) (v:Nat) (hv:v<g.ports.length) (e:Lt2) (he:e.length<=100000):∀t:Tm,X7F p g nv c v e t:=by
 intro t
 induction t with
 | leaf op arg =>
   intro bd port k post hd hw hp;simp only[Tm.enc,List.cons_append,List.nil_append] at hd;obtain⟨hk,hx,hd1⟩:=J3g hd;have hl:=X4d p g hg hc v hv e bd port op arg hw hp;simp only[Tm.wf,Bool.and_eq_true,Bool.or_eq_true,decide_eq_true_eq] at hw;have hx1:(gF e k).1=op:=by rw[hx]
   have hx2:(gF e k).2=arg:=by rw[hx]
   rw[<- hx1,<- hx2] at hl;refine J0f rfl ?_;refine J0b mixed Tryz.func183 rfl Q7w Q7v rfl ?_
   repeat' ((conv=>whnf);first|(refine Br.dec ?_ ?_<;>intro _<;>try omega)|(refine Ar.q ?_)|(refine Ix.q ?_)|(refine hl.go ?_))
   all_goals (conv=>whnf)
   rw[hx1,hx2]
   repeat' (first|exact VLe.rfl)
 | un op a ih =>
   intro bd port k post hd hw hp;simp only[Tm.enc,List.cons_append] at hd;obtain⟨hk,hx,hd1⟩:=J3g hd;simp only[Tm.wf,Bool.and_eq_true,decide_eq_true_eq] at hw;have hx1:(gF e k).1=op:=by rw[hx]
   have hv1:=ih bd port (k+1) post hd1 hw.2 hp;have hun:=Q9s op (a.sem g c v port) (J5K hg hc hv a bd port hw.2 hp);rw[<- hx1] at hun;rw[show((k+1:Nat):Int)=(k:Int)+1 by omega] at hv1;refine J0f rfl ?_;refine J0b mixed Tryz.func183 rfl Q7w Q7v rfl ?_
   repeat' ((conv=>whnf);first|(refine Br.dec ?_ ?_<;>intro _<;>try omega)|(refine Ar.q ?_)|(refine Ix.q ?_)|(refine hv1.go ?_)|(refine hun.go ?_))
   all_goals (conv=>whnf)
   rw[hx1]
   repeat' (first|exact VLe.int (by simp only[Tm.enc,List.length_cons];omega)|exact tI|exact VLe.rfl|(refine VLe.tup ?_)|apply And.intro)
 | agg op a ih =>
   intro bd port k post hd hw hp;have hag:=X7D p g hg hc v hv e he op a ih k post hd (by simpa[Tm.wf] using hw);simp only[Tm.enc,List.cons_append] at hd;obtain⟨hk,hx,hd1⟩:=J3g hd;simp only[Tm.wf,Bool.and_eq_true,decide_eq_true_eq] at hw;have hx1:(gF e k).1=op:=by rw[hx]
   rw[<- hx1] at hag;refine J0f rfl ?_;refine J0b mixed Tryz.func183 rfl Q7w Q7v rfl ?_
   repeat' ((conv=>whnf);first|(refine Br.dec ?_ ?_<;>intro _<;>try omega)|(refine Ix.q ?_)|(refine hag.go ?_))
   all_goals (conv=>whnf)
   rw[hx1];exact VLe.rfl
 | bin op a b iha ihb =>
   intro bd port k post hd hw hp;simp only[Tm.enc,List.cons_append,List.append_assoc] at hd;obtain⟨hk,hx,hd1⟩:=J3g hd;simp only[Tm.wf,Bool.and_eq_true,decide_eq_true_eq] at hw;have hx1:(gF e k).1=op:=by rw[hx]
   have hv1:=iha bd port (k+1) _ hd1 hw.2.1 hp;have hv2:=ihb bd port (k+1+a.enc.length) post (J6g hd1) hw.2.2 hp;have hbin:=Q8F op (a.sem g c v port) (b.sem g c v port) (J5K hg hc hv a bd port hw.2.1 hp) (J5K hg hc hv b bd port hw.2.2 hp) hw.1;rw[<- hx1] at hbin;rw[show((k+1:Nat):Int)=(k:Int)+1 by omega] at hv1;refine J0f rfl ?_;refine J0b mixed Tryz.func183 rfl Q7w Q7v rfl ?_
   repeat' ((conv=>whnf);first|(refine Br.dec ?_ ?_<;>intro _<;>try omega)|(refine Ar.q ?_)|(refine Ix.q ?_)|(refine hv1.go ?_)|(refine hv2.go ?_)|(refine hbin.go ?_))
   all_goals (conv=>whnf)
   rw[hx1]
   repeat' (first|exact VLe.int (by simp only[Tm.enc,List.length_cons,List.length_append];omega)|exact tI|exact VLe.rfl|(refine VLe.tup ?_)|apply And.intro)
 | ite q a b ihq iha ihb =>
   intro bd port k post hd hw hp;simp only[Tm.enc,List.cons_append,List.append_assoc] at hd;obtain⟨hk,hx,hd1⟩:=J3g hd;simp only[Tm.wf,Bool.and_eq_true] at hw;have hx1:(gF e k).1=43:=by rw[hx]
   have hv1:=ihq bd port (k+1) _ hd1 hw.1 hp;have hv2:=iha bd port (k+1+q.enc.length) _ (J6g hd1) hw.2.1 hp;have hv3:=ihb bd port (k+1+q.enc.length+a.enc.length) post (J6g (J6g hd1)) hw.2.2 hp;rw[show((k+1:Nat):Int)=(k:Int)+1 by omega] at hv1;refine J0f rfl ?_;refine J0b mixed Tryz.func183 rfl Q7w Q7v rfl ?_
   repeat' ((conv=>whnf);first|(refine Br.dec ?_ ?_<;>intro _<;>try omega)|(refine Br.bne ?_ ?_<;>intro _<;>try omega)|(refine Ar.q ?_)|(refine Ix.q ?_)|(refine hv1.go ?_)|(refine hv2.go ?_)|(refine hv3.go ?_))
   all_goals (conv=>whnf)
   . simp only[Tm.sem];rw[if_pos (by assumption)]
     repeat' (first|exact VLe.int (by simp only[Tm.enc,List.length_cons,List.length_append];omega)|exact tI|exact VLe.rfl|(refine VLe.tup ?_)|apply And.intro)
   . rename_i hz;simp only[Tm.sem];rw[if_neg (fun h=>h hz)]
     repeat' (first|exact VLe.int (by simp only[Tm.enc,List.length_cons,List.length_append];omega)|exact tI|exact VLe.rfl|(refine VLe.tup ?_)|apply And.intro)
theorem Q4d (p:Pg) (g:G) (hg:g.valid=true) {nv:Nat} {c:Cf} (hc:Fit g nv c) (v:Nat) (hv:v<g.ports.length) (t:Tm) (ht:t.enc.length<=100000) (hw:t.wf nv false=true) :
 Ret Tryz.prog 169 [scP p g,cV c,.int .i64 v,.fz t.enc.length 2 false (vF t.enc)] (.int .i64 (t.sem g c v (-1))):=by
 have h:=Q9o p g hg hc v hv t.enc ht t false (-1) 0 [] (by simp) hw (by simp);refine J0f rfl ?_;refine J0b mixed Tryz.func169 rfl Y05 Y0n rfl ?_
 repeat' ((conv=>whnf);first|(refine J1n h rfl ⟨VLe.rfl,VLe.rfl,VLe.rfl,True.intro⟩ ?_))
 all_goals (conv=>whnf)
 exact VLe.rfl
structure Rl where
 nm:ByteArray
 gd:Tm
 sets:List (Int×Tm)
instance:Inhabited Tm:=⟨.leaf 2 0⟩
instance:Inhabited Rl:=⟨⟨ByteArray.mk #[],default,[]⟩⟩
def vT (t:Tm):V:=.fz t.enc.length 2 false (vF t.enc)
def gS (l:List (Int×Tm)) (i:Nat):Int×Tm:=l.getD i default
def vS (l:List (Int×Tm)):Nat->Nat->V:=fun i j=>match j with
 | 0=>.int .i64 (gS l i).1
 | _=>vT (gS l i).2
def gRl (l:List Rl) (i:Nat):Rl:=l.getD i default
def vRl (l:List Rl):Nat->Nat->V:=fun i j=>match j with
 | 0=>.str (gRl l i).nm
 | 1=>vT (gRl l i).gd
 | _=>.fz (gRl l i).sets.length 2 false (vS (gRl l i).sets)
structure Pr where
 nm:ByteArray
 vars:List Vr
 rules:List Rl
def Pr.pg (p:Pr):Pg:=⟨p.nm,.fz p.vars.length 6 false (vV p.vars),.fz p.rules.length 3 false (vRl p.rules)⟩
def Pr.v (p:Pr):V:=.agg [.str p.nm,p.pg.vs,p.pg.rs]
structure Q8O (x:Vr):Prop where
 kind:x.kind=1\/x.kind=2\/x.kind=3
 lo:0<=x.lo/\x.lo<=1000
 hi:0<=x.hi/\x.hi<=1000
 pn:0<=x.pn/\x.pn<=64
 pid:0<=x.pid/\x.pid<=4
 fit:x.lo<=x.hi+x.pn
def Tm.okB (nv:Nat) (t:Tm):Bool:=t.wf nv false&&decide (t.enc.length<=100000)
structure J6o (p:Pr):Prop where
 vlen:p.vars.length<=1000
 var:∀i,i<p.vars.length->Q8O (gV p.vars i)
 rlen:p.rules.length<=1000
 gd:∀i,i<p.rules.length->(gRl p.rules i).gd.okB p.vars.length=true
 slen:∀i,i<p.rules.length->(gRl p.rules i).sets.length<=1000
 set:∀i,i<p.rules.length->∀j,j<(gRl p.rules i).sets.length->0<=(gS (gRl p.rules i).sets j).1/\(gS (gRl p.rules i).sets j).1<p.vars.length/\(gS (gRl p.rules i).sets j).2.okB p.vars.length=true
 types:Ret Tryz.prog 131 [p.v] (.bool true)
theorem Q9J (l:List Int) (h0:0<l.length) (hl:l.length<=1000) (hp:∀a∈l,0<=a):Ret Tryz.prog 165 [.fz l.length 1 false (vI l)] (.int .i64 (J4i l 0)):=by
 refine J0f rfl ?_;refine J0b mixed Tryz.func165 rfl Y09 Y0r rfl ?_
 repeat' ((conv=>whnf);first|(refine Br.dec ?_ ?_<;>intro _<;>try omega)|(refine Ix.q ?_))
 all_goals (conv=>whnf)
 have g0:=Q0N (P:=fun a=>0<=a) hp h0;refine J0V mixed [0] (fun i:Nat=>[(3,.int .i64 (J4i (l.take (i+1)) 0)),(4,.int .i64 ((i:Int)+1))]) (fun m i=>m=l.length-i/\i+1<=l.length) l.length 0 ⟨rfl,by omega⟩ ?_ ?_
 . have e:J4i (l.take (0+1)) 0=gI l 0:=by
    rw[J01 l 0 h0];simp only[List.take_zero,List.nil_append,J4i];split<;>omega
   refine J0e (fun _ _=>[]) ?_ ?_ rfl
   . repeat' (first|exact J0c.int e.symm|exact tI|(refine⟨⟨_,rfl,?_⟩,?_⟩)|exact J0c.kf rfl)
   . repeat' (first|exact tI)
 rintro m i ⟨hm,hi⟩
 repeat' ((conv=>whnf);first|(refine Ix.w (i+1) ?_)|(refine Br.dec ?_ ?_<;>intro _<;>try omega)|(refine Ar.q ?_)|(refine Sv.mk _ rfl ?_))
 all_goals (conv=>whnf)
 . refine⟨l.length-(i+1),i+1,by omega,⟨rfl,by omega⟩,?_⟩;have e:J4i (l.take (i+1+1)) 0=if gI l (i+1) > J4i (l.take (i+1)) 0 then gI l (i+1) else J4i (l.take (i+1)) 0:=by
    rw[J01 l (i+1) (by omega),J3O]
   simp only[e];refine J0e (fun _ _=>[]) ?_ ?_ rfl
   . repeat' (first|exact J0c.int (by omega)|exact tI|(refine⟨⟨_,rfl,?_⟩,?_⟩)|exact J0c.kf rfl)
   . repeat' (first|exact tI)
 . rw[List.take_of_length_le (by omega)];exact VLe.rfl
def vrV (x:Vr):V:=.agg [.str x.name,.int .i64 x.kind,.int .i64 x.lo,.int .i64 x.hi,.int .i64 x.pn,.int .i64 x.pid]
def bnd (g:G) (x:Vr) (v:Nat):Int×Int:=if x.kind=1 then (x.lo,x.hi+x.pn*g.ids.length+x.pid*Q4s g) else if x.kind=2 then (0,1) else (-1,((gR g.ports v).length:Int)-1)
theorem X1M {g:G} (hg:g.valid=true):0<=Q4s g/\Q4s g<=255:=by
 obtain⟨f1,f2,f3,f4,f5,f6,f7⟩:=J0a hg;exact Q6V g.ids (a:=0) (b:=255) (m:=0) (by omega) (fun a ha=>(f4 a ha).2)
theorem Q3e {a b A B:Int} (h:0<=a/\a<=A) (h':0<=b/\b<=B):0<=a*b/\a*b<=A*B :=
 ⟨Int.mul_nonneg h.1 h'.1,Int.mul_le_mul h.2 h'.2 h'.1 (by omega)⟩
set_option maxHeartbeats 4000000 in
theorem X5h (g:G) (hg:g.valid=true) (x:Vr) (hx:Q8O x) (v:Nat):Ret Tryz.prog 164 [vrV x,g.v,.int .i64 v] (.tup [.int .i64 x.lo,.int .i64 (x.hi+x.pn*g.ids.length+x.pid*Q4s g)]):=by
 obtain⟨f1,f2,f3,f4,f5,f6,f7⟩:=J0a hg;have ht:=X1M hg;obtain⟨_,h1,h2,h3,h4,_⟩:=hx;have m1:=Q3e h3 (show 0<=(g.ids.length:Int)/\(g.ids.length:Int)<=24 by omega);have m2:=Q3e h4 ht;have hmax:=Q9J g.ids (by omega) (by omega) (fun a ha=>(f4 a ha).1);change Ret _ _ _ (.int .i64 (Q4s g)) at hmax;generalize Q4s g=T at *;generalize hp1:x.pn*(g.ids.length:Int)=P1 at *;generalize hp2:x.pid*T=P2 at *;refine J0f rfl ?_;refine J0b mixed Tryz.func164 rfl Y1a Y0s rfl ?_
 repeat' ((conv=>whnf);first|(refine Ar.mk P1 (by rw[hp1];exact(J04 (by omega) (by omega)).symm) ?_)|(refine Ar.mk P2 (by rw[hp2];exact(J04 (by omega) (by omega)).symm) ?_)|(refine Ar.q ?_)|(refine hmax.go ?_)|(refine And.intro rfl ?_))
 all_goals (conv=>whnf)
 repeat' (first|exact VLe.rfl)
theorem X5g (g:G) (x:Vr) (v:Nat):Ret Tryz.prog 166 [vrV x,g.v,.int .i64 v] (.tup [.int .i64 0,.int .i64 1]):=by
 refine J0f rfl ?_;refine J0b mixed Tryz.func166 rfl Y08 Y0q rfl ?_
 repeat' ((conv=>whnf);first|fail)
 all_goals (conv=>whnf)
 repeat' (first|exact VLe.rfl)
theorem X5f (g:G) (hg:g.valid=true) (x:Vr) (v:Nat) (hv:v<g.ports.length):Ret Tryz.prog 167 [vrV x,g.v,.int .i64 v] (.tup [.int .i64 (-1),.int .i64 (((gR g.ports v).length:Int)-1)]):=by
 have hr:=J6P hg v;refine J0f rfl ?_;refine J0b mixed Tryz.func167 rfl Y07 Y0p rfl ?_
 repeat' ((conv=>whnf);first|(refine Ar.q ?_)|(refine Ix.q ?_)|(refine And.intro rfl ?_))
 all_goals (conv=>whnf)
 repeat' (first|exact VLe.rfl)
theorem X2M (g:G) (hg:g.valid=true) (x:Vr) (hx:Q8O x) (v:Nat) (hv:v<g.ports.length):Ret Tryz.prog 132 [vrV x,g.v,.int .i64 v] (.tup [.int .i64 (bnd g x v).1,.int .i64 (bnd g x v).2]):=by
 have b1:=X5h g hg x hx v;have b2:=X5g g x v;have b3:=X5f g hg x v hv;refine J0f rfl ?_;refine J0b mixed Tryz.func132 rfl Y1m Y0E rfl ?_;rcases hx.kind with hk|hk|hk
 . have e:bnd g x v=(x.lo,x.hi+x.pn*g.ids.length+x.pid*Q4s g):=by rw[bnd,if_pos hk]
   rw[e]
   repeat' ((conv=>whnf);first|(refine J00 mixed 5 ?_)|(refine Chk.q ?_)|(refine Br.tt ?_)|(refine Br.dec ?_ ?_<;>intro _<;>try omega)|(refine Ix.mk 0 rfl (by omega) ?_)|(refine b1.go ?_))
   all_goals (conv=>whnf)
   repeat' (first|exact VLe.rfl)
 . have e:bnd g x v=(0,1):=by rw[bnd,if_neg (by omega),if_pos hk]
   rw[e]
   repeat' ((conv=>whnf);first|(refine J00 mixed 5 ?_)|(refine Chk.q ?_)|(refine Br.tt ?_)|(refine Br.dec ?_ ?_<;>intro _<;>try omega)|(refine Ar.q ?_)|(refine Ix.mk 0 rfl (by omega) ?_)|(refine Ix.mk 1 rfl (by omega) ?_)|(refine b2.go ?_))
   all_goals (conv=>whnf)
   repeat' (first|exact VLe.rfl)
 . have e:bnd g x v=(-1,((gR g.ports v).length:Int)-1):=by rw[bnd,if_neg (by omega),if_neg (by omega)]
   rw[e]
   repeat' ((conv=>whnf);first|(refine J00 mixed 5 ?_)|(refine Chk.q ?_)|(refine Br.tt ?_)|(refine Br.dec ?_ ?_<;>intro _<;>try omega)|(refine Ar.q ?_)|(refine Ix.mk 0 rfl (by omega) ?_)|(refine Ix.mk 1 rfl (by omega) ?_)|(refine Ix.int (by omega) (by omega) ?_)|(refine b3.go ?_))
   all_goals (conv=>whnf)
   repeat' (first|exact VLe.rfl)
theorem Q38 {g:G} (hg:g.valid=true) {x:Vr} (hx:Q8O x) {v:Nat} (hv:v<g.ports.length):-1<=(bnd g x v).1/\(bnd g x v).1<=1000/\-1<=(bnd g x v).2/\(bnd g x v).2<=4000/\(x.kind=1->(bnd g x v).1<=(bnd g x v).2):=by
 obtain⟨f1,f2,f3,f4,f5,f6,f7⟩:=J0a hg;have ht:=X1M hg;have hr:=J6P hg v;obtain⟨_,h1,h2,h3,h4,h5⟩:=hx;have m1:=Q3e h3 (show 0<=(g.ids.length:Int)/\(g.ids.length:Int)<=24 by omega);have m2:=Q3e h4 ht;have m3:x.pn*1<=x.pn*(g.ids.length:Int):=Int.mul_le_mul_of_nonneg_left (by omega) h3.1;unfold bnd;split
 . simp only;omega
 . rename_i hk;split<;>simp only<;>omega
theorem X4G (p:Pr) (hp:J6o p) (g:G) (hs:g.Small) (hg:g.valid=true):Ret Tryz.prog 104 [p.v,g.v] (.int .i64 0):=by
 have ht:=hp.types;have hgv:=Q2F g hs;rw[hg] at hgv;have hvl:=hp.vlen;obtain⟨f1,f2,f3,f4,f5,f6,f7⟩:=J0a hg;refine J0f rfl ?_;refine J0b mixed Tryz.func104 rfl Y1w Y0O rfl ?_
 repeat' ((conv=>whnf);first|(refine Br.tt ?_)|(refine ht.go ?_)|(refine hgv.go ?_))
 all_goals (conv=>whnf)
 refine J0V mixed [3,16,17] (fun i:Nat=>[(18,.int .i64 i)]) (fun m i=>m=p.vars.length-i/\i<=p.vars.length) p.vars.length 0 ⟨rfl,Nat.zero_le _⟩ ?_ ?_
 . exact J0l (fun _ _=>[(0,some 0),(1,some 1)])
 rintro m i ⟨hm,hi⟩;by_cases hil:i<p.vars.length
 . have hx:=hp.var i hil;have hb:=X2M g hg _ hx 0 (by omega);have hbi:=Q38 hg hx (v:=0) (by omega);rw[show((0:Nat):Int)=0 from rfl] at hb
   repeat' ((conv=>whnf);first|(refine Br.dec ?_ ?_<;>intro _<;>try omega)|(refine Br.bne ?_ ?_<;>intro _<;>try omega)|(refine Ar.q ?_)|(refine Ix.q ?_)|(refine hb.go ?_))
   all_goals (conv=>whnf)
   all_goals first
    | (exfalso;omega)
    | (refine⟨p.vars.length-(i+1),i+1,by omega,⟨rfl,by omega⟩,?_⟩
       exact J0l (fun _ _=>[(0,some 0),(1,some 1)]))
 . repeat' ((conv=>whnf);first|(refine Br.dec ?_ ?_<;>intro _<;>try omega))
   all_goals (conv=>whnf)
   exact VLe.rfl
abbrev x0 (c:Cf) (v:Nat):Int:=gI (gC c v) 0
def chg (c:Cf):Nat->Nat
 | 0=>0
 | k+1=>if x0 c k=x0 c (k+1) then chg c k else chg c k+1
def J0C (a b:Int):Int:=if b<1 then 0 else if a.tmod b<0 then a.tmod b+b else a.tmod b
theorem J1G (a b:Int) (hb:b<=9223372036854775807):Ret Tryz.prog 37 [.int .i64 a,.int .i64 b] (.int .i64 (J0C a b)):=by
 refine J0f rfl ?_;refine J0b mixed Tryz.func37 rfl hc37 hr37 rfl ?_;have h1:1<=b->-b<a.tmod b:=fun h=>Int.neg_lt_of_neg_lt (by have:=Int.lt_tmod_of_pos (-a) (show 0<b by omega);rw[Int.neg_tmod] at this;have h2:=Int.tmod_lt_of_pos (-a) (show 0<b by omega);rw[Int.neg_tmod] at h2;omega);rw[J0C]
 repeat' ((conv=>whnf);first|(refine Br.dec ?_ ?_<;>intro _<;>try omega)|(refine Ar.q ?_)|(refine Sv.mk _ rfl ?_)|(refine Nz.mk (by omega) ?_))
 all_goals (conv=>whnf)
 . rw[if_pos (by omega)];exact VLe.rfl
 . rw[if_neg (by omega),if_pos (by omega)];exact VLe.rfl
 . rw[if_neg (by omega),if_neg (by omega)];exact VLe.rfl
theorem Q8H (l:List Int) (hl:l.length<=9223372036854775807) (i:Nat):Ret Tryz.prog 38 [.fz l.length 1 false (vI l),.int .i64 i] (.int .i64 (gI l i)):=by
 refine J0f rfl ?_;refine J0b mixed Tryz.func38 rfl hc38 hr38 rfl ?_
 repeat' ((conv=>whnf);first|(refine Br.dec ?_ ?_<;>intro _<;>try omega)|(refine Ix.q ?_))
 all_goals (conv=>whnf)
 . exact VLe.rfl
 . have:gI l i=0:=by simp only[gI,List.getD];rw[List.getElem?_eq_none (by omega)];rfl
   rw[this];exact VLe.rfl
def g3:G:=⟨[0,1,2],[[(2,1),(1,1)],[(0,1),(2,1)],[(1,1),(0,1)]]⟩
def nbrR (s:Nat) (r:List (Int×Int)):Bool:=r.any fun l=>s.testBit l.1.toNat
def nbr (g:G) (s:Nat) (v:Nat):Bool:=nbrR s (gR g.ports v)
theorem X12 {n v:Nat} {r:List (Int×Int)} (h:okR n v r=true) {i:Nat} (hi:i<r.length):0<=(gF r i).1/\(gF r i).1<n:=by
 rw[okR,Bool.and_eq_true,List.all_eq_true] at h;have:=h.1 _ (J02 hi);rw[okL,decide_eq_true_eq] at this;exact⟨this.1,this.2.1⟩
abbrev J2a (n:Nat):Nat:=nb (fun _=>true) n
theorem Ar.sh1s {k:Nat} {K:Int->Prop} (h:k<32) (hK:K ((J2a k:Int)+1)):Ar .u32 (1*2 ^ (min (k:Int).toNat 32)) K :=
 Ar.sh1 h (by
  have:(J2a k:Int)+1=((2 ^ k:Nat):Int):=by rw[<- X6A];rfl
  rw[<- this];exact hK)
theorem X7C (g:G) (hg:g.valid=true):Ret Tryz.prog 90 [g.v] (.int .u32 (J2a g.ids.length)):=by
 obtain⟨f1,f2,f3,f4,f5,f6,f7⟩:=J0a hg;have ha:J2a g.ids.length<4294967296:=X0h (fun _=>true) (k:=g.ids.length) (by omega);refine J0f rfl ?_;refine J0b mixed Tryz.func90 rfl hc90 hr90 rfl ?_
 repeat' ((conv=>whnf);first|(refine Ar.sh1s (by omega) ?_)|(refine Ar.u32 (by omega) (by omega) ?_)|(refine Nn.mk (by omega) ?_))
 all_goals (conv=>whnf)
 refine VLe.int ?_;omega
end Go.Proofs.YtefdkgkojlflaaaGreatDoor
