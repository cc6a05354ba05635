import Derived.Test.YtmifmchinfhbnaaGreatDoorDC5
import Derived.Test.YtmifmchinfhbnaaGreatDoorAN1
import Derived.Test.YtmifmchinfhbnaaGreatDoorEngZ
import Derived.Test.YtmifmchinfhbnaaGreatDoorEngT
namespace Go.Proofs.YtmifmchinfhbnaaGreatDoor
open Go.Eng
set_option maxRecDepth 100000
set_option linter.unusedVariables false
def J5K (e:Nat):Nat->List Nat
 | 0=>[]
 | b+1=>if e.testBit b then J5K e b++[2 ^ b] else J5K e b
theorem J6H {e b:Nat}:∀{v:Nat},b<=v->(∀j,b<=j->j<v->e.testBit j=false)->J5K e v=J5K e b
 | 0,h,_=>by rw[show b=0 by omega]
 | v+1,h,hz=>by
   by_cases e1:b=v+1
   . rw[e1]
   . rw[J5K,hz v (by omega) (by omega),if_neg (by simp)];exact J6H (by omega) (fun j a c=>hz j a (by omega))
theorem Q6H {e v:Nat} (h:e.testBit v=true):J5K e (v+1)=J5K e v++[2 ^ v]:=by rw[J5K,if_pos h]
theorem J9j (e:Nat):∀b,(J5K e b).length<=b
 | 0=>Nat.le_refl _
 | b+1=>by have:=J9j e b;rw[J5K];split<;>simp<;>omega
def chs (g:G) (k:Int) (e:Nat):List Nat×Int :=
 if e=0 then ([],0) else if k=1 then (J5K e 32,0) else if k=4 then ([e],0) else if cnt e 32 > 10 then ([],3) else ((Q10 e (J4z e)).filter (okC g k e),0)
def lst (l:List Nat):V:=.fz l.length 1 false (vU l)
theorem Q8n (l:List Nat) (a i:Nat):List.getD (l++[a]) i 0=if i<l.length then List.getD l i 0 else if i=l.length then a else 0:=by
 by_cases h:i<l.length
 . rw[if_pos h];simp only[List.getD];rw[List.getElem?_append_left h]
 . rw[if_neg h];by_cases e:i=l.length
   . subst e;simp[List.getD]
   . rw[if_neg e];simp[List.getD];rw[List.getElem?_eq_none (by simp;omega)];rfl
theorem Q3m (l:List Nat) (a:Nat) (x:Int) (hx:x=a) (i j:Nat) (hi:i<(l++[a]).length) (hj:j<1) :
 VLe (J43 (J0l 0 (vU l)) l.length (J0l 0 (tab [[.int .u32 x]])) i j) (vU (l++[a]) i j):=by
 apply VLe.of_eq;subst hx;rw[List.length_append] at hi;simp only[List.length_cons,List.length_nil] at hi;by_cases h:i<l.length
 . rw[J1I h];simp only[J0l,vU,gN,Q8n,if_pos h]
 . rw[J1J h];have:i=l.length:=by omega
   subst this;obtain rfl:j=0:=by omega
   simp[J0l,vU,gN,tab]
theorem Q7O (l:List Nat):VLe (.fz l.length 1 false (J0l 0 (vU l))) (lst l):=by
 refine VLe.fz rfl (fun h=>h) (fun i j hi hj=>VLe.of_eq ?_);simp only[J0l]
 try simp
set_option maxHeartbeats 8000000 in
theorem Q2y (g:G) (hg:g.valid=true) (k:Int) (e:Nat) (he:e<4294967296) (hp:J2s e (J2z g.ports.length)):RG 64 [.fz g.ports.length 1 false (X3L g),.int .i64 k,.int .u32 e] (.tup [lst (chs g k e).1,.int .i64 (chs g k e).2]):=by
 refine J32 rfl ?_;refine J0d J0b Tryz.func64 rfl hc64 hr64 rfl ?_;have hoc:=X7b e he;have hneg:J5X .and .u32 (((4294967296-e) % 4294967296:Nat):Int) (e:Int)=(J4z e:Nat):=by
  rw[J2j (Nat.mod_lt _ (by omega)) he,Nat.and_comm,J9v he]
 by_cases h0:e=0
 . rw[chs,if_pos h0]
   repeat' ((conv=>whnf);first|(refine Br.dec ?_ ?_<;>intro _<;>try omega))
   all_goals (conv=>whnf)
   all_goals exact VLe.tup ⟨VLe.nilfz rfl,VLe.rfl,True.intro⟩
 rw[chs,if_neg h0];by_cases k1:k=1
 . rw[if_pos k1]
   repeat' ((conv=>whnf);first|(refine Br.dec ?_ ?_<;>intro _<;>try omega)|(refine J0d J0b Tryz.func65 rfl Y1f Y0B rfl ?_)|(refine J1z ?_)|(refine Chk.mk (by kernel_rfl) ?_)|(refine J0d J0b Tryz.func106 rfl X40 X4X rfl ?_))
   all_goals (conv=>whnf)
   refine J0u J0b [0,1] [3] [4,5,6,7,8,9,10,11,12,13,14,15,16,17,18,19,20,21,22,23,24,25,26,27,28,29] [3,2,1,0,999] (fun b:Nat=>[]) (fun own b=>(3,.vec (J5K e b).length 1 (vU (J5K e b)))::J1l (J1l own 0 (.cells [.vec 3 1 0 (J5K e b).length])) 1 (.cells [.int .u32 (upS e b)])) (fun m b=>m=32-b/\b<=32) 32 0 ⟨rfl,by omega⟩ rfl (fun _=>rfl) ?_ ?_
   . have hx:=J83 he;refine J0c (fun _ _=>[(0,some 0),(1,some 1),(2,some 2),(3,none),(999,some 999)]) ?_ ?_ rfl
     . repeat' (first|exact J0a.yld rfl|exact True.intro|(refine⟨⟨_,rfl,?_⟩,?_⟩)|exact J0a.loc rfl)
     . repeat' (first|exact J0a.int (by rw[hx])|(refine J0a.fn ?_)|(refine⟨rfl,rfl,rfl,rfl,rfl,?_⟩)|exact True.intro|exact⟨rfl,rfl,rfl⟩|(refine⟨⟨_,rfl,?_⟩,?_⟩)|exact J0a.kf rfl|exact J0a.loc rfl|exact J0a.nil rfl rfl|(refine⟨⟨_,_,rfl⟩,?_⟩)|(refine And.intro ?_ ?_))
   rintro m b ⟨hm,hb⟩;have hul:=Q3r e b;have hsl:=J9j e b;by_cases hu:upS e b=0
   . repeat' ((conv=>whnf);first|(refine Br.bne ?_ ?_<;>intro _<;>try omega)|(refine Len.mk (by omega) ?_))
     all_goals (conv=>whnf)
     have hx:J5K e 32=J5K e b:=J6H hb (fun j hj _=>Q2h he hu j hj);show VLe _ (V.tup [lst (J5K e 32),V.int IntKind.i64 0]);rw[hx];exact VLe.tup ⟨Q7O _,VLe.rfl,True.intro⟩
   . obtain⟨v1,v2,v3,v4,v5⟩:=J84 he hu;have htz:=X3O _ hu hul;have hr:J5X .and .u32 ((upS e b:Nat):Int) ((upS e b:Nat)-1:Int)=((upS e (ctz (upS e b)+1):Nat):Int):=by
      rw[<- v5,show((upS e b:Nat):Int)-1=((upS e b-1:Nat):Int) by omega,J2j hul (by omega)]
     generalize ctz (upS e b)=v at *;have hsg:J5K e (v+1)=J5K e b++[2 ^ v]:=by rw[Q6H v3,J6H v2 v4]
     repeat' ((conv=>whnf);first|(refine Br.tt ?_)|(refine Br.bne ?_ ?_<;>intro _<;>try omega)|(refine Br.nbeq ?_ ?_<;>intro _<;>try omega)|(refine Ar.u32 (by omega) (by omega) ?_)|(refine Ar.sh1 (by omega) ?_)|(refine Sv.mk _ rfl ?_)|(refine Nn.mk (by omega) ?_)|(refine Len.mk (by omega) ?_)|(refine htz.gog ?_)|(refine J1f J0b rfl rfl ?_))
     all_goals (conv=>whnf)
     all_goals
      refine⟨32-(v+1),v+1,by omega,⟨rfl,by omega⟩,?_⟩;simp only[hsg];refine J0c (fun env own=>[(0,some 0),(1,some 1),(2,some 2),(3,Q2V own 0 0),(999,some 999)]) ?_ ?_ rfl
      . repeat' (first|exact J0a.yld rfl|exact True.intro|(refine⟨⟨_,rfl,?_⟩,?_⟩)|exact J0a.loc rfl)
      . repeat' (first|exact J0a.int hr|exact J0a.vec rfl rfl (by rw[List.length_append];rfl)|(refine⟨by rw[List.length_append];exact Nat.le_refl _,rfl,fun i j hi hj=>?_⟩)|exact Q3m _ _ _ rfl _ _ hi hj|(refine J0a.fn ?_)|(refine⟨rfl,rfl,rfl,rfl,rfl,?_⟩)|exact True.intro|exact⟨rfl,rfl,rfl⟩|(refine⟨⟨_,rfl,?_⟩,?_⟩)|exact J0a.kf rfl|exact J0a.loc rfl|(refine And.intro ?_ ?_))
 rw[if_neg k1];by_cases k4:k=4
 . rw[if_pos k4]
   repeat' ((conv=>whnf);first|(refine Br.dec ?_ ?_<;>intro _<;>try omega)|(refine Len.mk (by omega) ?_))
   all_goals (conv=>whnf)
   all_goals
    refine VLe.tup ⟨VLe.fz rfl (fun h=>h) (fun i j hi hj=>?_),VLe.rfl,True.intro⟩;obtain rfl:i=0:=by omega
    obtain rfl:j=0:=by omega
    exact VLe.rfl
 rw[if_neg k4];have hcl:=J4p e 32;by_cases hc:cnt e 32 > 10
 . rw[if_pos hc]
   repeat' ((conv=>whnf);first|(refine Br.dec ?_ ?_<;>intro _<;>try omega)|(refine hoc.go ?_))
   all_goals (conv=>whnf)
   all_goals exact VLe.tup ⟨VLe.nilfz rfl,VLe.rfl,True.intro⟩
 rw[if_neg hc]
 repeat' ((conv=>whnf);first|(refine Ar.neg32 he ?_)|(refine Sv.mk _ hneg.symm ?_)|(refine Br.dec ?_ ?_<;>intro _<;>try omega)|(refine hoc.go ?_))
 all_goals (conv=>whnf)
 refine J0u J0b [0,1,2,8] [1] [2,3,4,5,6,7,8,9,10,11,12,13,14,15,16,17,18,19,20,21,22,23,24,25,26,27,28,29] [1,0,999] (fun p:Nat×List Nat=>[(10,.int .u32 p.1)]) (fun own p=>(1,.vec p.2.length 1 (vU p.2))::J1l own 0 (.cells [.vec 1 1 0 p.2.length])) (fun m p=>m=(if p.1=0 then 0 else 4294967297-p.1)/\J2s p.1 e/\p.2++(Q10 e p.1).filter (okC g k e)=(Q10 e (J4z e)).filter (okC g k e)/\p.2.length<=4294967296/\(p.1≠0->p.2.length<p.1)) _ (J4z e,[]) ⟨rfl,J1X he,rfl,by simp,fun h=>by simp only[List.length_nil];omega⟩ rfl (fun _=>rfl) ?_ ?_
 . exact J0k (fun _ _=>[(0,some 0),(1,none),(999,some 999)])
 rintro m ⟨s,acc⟩ ⟨hm,hps,htot,hl1,hl2⟩;simp only at hm hps htot hl1 hl2;have hse:=hps.le;by_cases hs0:s=0
 . repeat' ((conv=>whnf);first|(refine Br.bne ?_ ?_<;>intro _<;>try omega)|(refine Len.mk (by omega) ?_))
   all_goals (conv=>whnf)
   subst hs0;rw[J2a,List.filter_nil,List.append_nil] at htot;show VLe _ (V.tup [lst ((Q10 e (J4z e)).filter (okC g k e)),V.int IntKind.i64 0]);rw[<- htot];exact VLe.tup ⟨Q7O _,VLe.rfl,True.intro⟩
 . have hpm:=Q2w g hg k e s he (by omega) hp;have hin:Q1g g k e s=okC g k e s:=by
    rw[Q1g,decide_eq_true ⟨hs0,(J1T (by omega)).2 hps⟩,Bool.true_and]
   rw[hin] at hpm;have hsub:=J3K he hps hs0;have hnx:J5X .and .u32 (((4294967296+s-e) % 4294967296:Nat):Int) (e:Int)=(nxt e s:Nat):=by
    rw[J2j (Nat.mod_lt _ (by omega)) he];rfl
   have hgt:nxt e s=0\/s<nxt e s:=by
    by_cases h:s=e
    . subst h;exact .inl (J35 he)
    . exact .inr (J6W he hps h)
   have hnp:=J19 e s;have hnl:=Q7r (s:=s) he;have hl3:=hl2 hs0;cases hok:okC g k e s with
   | true =>
     rw[hok] at hpm;rw[hsub,List.filter_cons_of_pos (by rw[hok])] at htot
     repeat' ((conv=>whnf);first|(refine Ar.sub32 (by omega) he ?_)|(refine Sv.mk _ hnx.symm ?_)|(refine Br.tt ?_)|(refine Br.bne ?_ ?_<;>intro _<;>try omega)|(refine Br.nbeq ?_ ?_<;>intro _<;>try omega)|(refine Len.mk (by omega) ?_)|(refine Len.mk (by simp only[List.length_cons,List.length_nil];omega) ?_)|(refine hpm.gog ?_))
     all_goals (conv=>whnf)
     all_goals
      refine⟨_,(nxt e s,acc++[s]),?_,⟨rfl,hnp,by rw[<- htot];simp,by simp;omega,fun h=>by simp at h ⊢;omega⟩,?_⟩
      . simp only;rw[hm,if_neg hs0];split<;>omega
      . refine J0c (fun env own=>[(0,some 0),(1,Q2V own 0 0),(999,some 999)]) ?_ ?_ rfl
        . repeat' (first|exact True.intro|(refine⟨⟨_,rfl,?_⟩,?_⟩)|exact J0a.kf rfl|exact J0a.loc rfl)
        . repeat' (first|exact J0a.vec rfl rfl (by rw[List.length_append];rfl)|(refine⟨by rw[List.length_append];exact Nat.le_refl _,rfl,fun i j hi hj=>?_⟩)|exact Q3m _ _ _ rfl _ _ hi hj|exact True.intro|exact⟨rfl,rfl,rfl⟩|(refine⟨⟨_,rfl,?_⟩,?_⟩)|(refine And.intro ?_ ?_))
   | false =>
     rw[hok] at hpm;rw[hsub,List.filter_cons_of_neg (by rw[hok];simp)] at htot
     repeat' ((conv=>whnf);first|(refine Ar.sub32 (by omega) he ?_)|(refine Sv.mk _ hnx.symm ?_)|(refine Br.ff ?_)|(refine Br.bne ?_ ?_<;>intro _<;>try omega)|(refine hpm.gog ?_))
     all_goals (conv=>whnf)
     all_goals
      refine⟨_,(nxt e s,acc),?_,⟨rfl,hnp,htot,hl1,fun h=>by simp only at h ⊢;omega⟩,?_⟩
      . simp only;rw[hm,if_neg hs0];split<;>omega
      . exact J0k (fun env own=>[(0,some 0),(1,Q2V own 0 0),(999,some 999)])
theorem Q3C {E:Nat} (hE:E<4294967296):∀f s,J2s s E->E-s<=f->(Q10 E s).length<=f+1
 | f,s,hp,hf=>by
   by_cases h0:s=0
   . subst h0;rw[J2a];simp
   . rw[J3K hE hp h0,List.length_cons];by_cases hs:s=E
     . subst hs;rw[J35 hE,J2a];simp
     . have h1:=J6W hE hp hs;have h2:=hp.le;cases f with
       | zero=>omega
       | succ f=>have:=Q3C hE f _ (J19 E s) (by have:=(J19 E s).le;omega);omega
theorem Q5c {c:Nat} (h0:c≠0) (hc:c<4294967296) (h:c &&& (c-1)=0):c=2 ^ ctz c:=by
 obtain⟨k1,k2,k3⟩:=J1Z h0 hc;apply Nat.eq_of_testBit_eq;intro j;have:=Q34 k2 k3 j;rw[h,Nat.zero_testBit] at this;rw[Nat.testBit_two_pow];by_cases e:ctz c=j
 . subst e;rw[k2];simp
 . rw[decide_eq_false e];have hd:decide (j≠ctz c)=true:=by rw[decide_eq_true_eq];exact fun x=>e x.symm
   rw[hd,Bool.and_true] at this;exact this.symm
theorem Q2t {k j:Nat} (h:(2 ^ k:Nat).testBit j=true):k=j:=by rw[Nat.testBit_two_pow,decide_eq_true_eq] at h;exact h
theorem J59 {e c:Nat}:∀{b:Nat},c∈J5K e b↔∃v,v<b/\e.testBit v=true/\c=2 ^ v
 | 0=>by simp[J5K]
 | b+1=>by
   have ih:=J59 (e:=e) (c:=c) (b:=b);rw[J5K];constructor
   . intro h;split at h
     . rename_i hb;rcases List.mem_append.1 h with h|h
       . obtain⟨v,a,b',c'⟩:=ih.1 h;exact⟨v,by omega,b',c'⟩
       . exact⟨b,by omega,hb,by simpa using h⟩
     . obtain⟨v,a,b',c'⟩:=ih.1 h;exact⟨v,by omega,b',c'⟩
   . rintro⟨v,h1,h2,rfl⟩;by_cases e1:v=b
     . subst e1;rw[if_pos h2];simp
     . have:=ih.2 ⟨v,by omega,h2,rfl⟩;split
       . exact List.mem_append_left _ this
       . exact this
theorem J4t {e:Nat}:∀b,(J5K e b).Pairwise (·<·)
 | 0=>.nil
 | b+1=>by
   rw[J5K];split
   . refine List.pairwise_append.2 ⟨J4t b,by simp,fun x hx y hy=>?_⟩;obtain⟨v,h1,_,rfl⟩:=J59.1 hx;simp only[List.mem_singleton] at hy;subst hy;exact Nat.pow_lt_pow_right (by omega) h1
   . exact J4t b
theorem Q7k {j:Nat} (h:j≠0):(1:Nat).testBit j=false:=by
 have:=Nat.testBit_two_pow (n:=0) (m:=j);rw[Nat.pow_zero] at this;rw[this,decide_eq_false (by omega)]
theorem Q7s {E s t:Nat} (hE:E<4294967296) (hp:J2s s E) (hpt:J2s t E) (hst:s<t):nxt E s<=t:=by
 have hsE:=hp.le;have htE:=hpt.le;have hs:s<4294967296:=by omega
 have hne:s≠E:=by omega
 have hd0:J04 E s≠0:=by
  intro h;have:=((J1T hE).1 h).le;omega
 have hdlt:J04 E s<4294967296:=Nat.lt_of_le_of_lt Nat.and_le_left hE;obtain⟨k1,k2,k3⟩:=J1Z hd0 hdlt;have hdis:s &&& J04 E s=0:=by
  apply Nat.eq_of_testBit_eq;intro i;rw[Nat.zero_testBit,Nat.testBit_and];by_cases hi:i<32
  . rw[J03 hi];cases s.testBit i<;>simp
  . rw[J06 hs (by omega)];rfl
 have hsum:s+J04 E s=E:=by
  rw[X3t hs hdlt hdis];apply Nat.eq_of_testBit_eq;intro i;rw[Nat.testBit_or];by_cases hi:i<32
  . rw[J03 hi];cases e:s.testBit i with
    | false=>simp
    | true=>rw[hp i e];rfl
  . rw[J06 hs (by omega),J06 hdlt (by omega),J06 hE (by omega)];rfl
 have hneg:(4294967296+s-E) % 4294967296=4294967296-J04 E s:=by omega
 generalize hk:ctz (J04 E s)=k at *;have hbit:∀i,i<32->(nxt E s).testBit i=((!(if i<k+1 then decide (i<k) else (J04 E s).testBit i))&&E.testBit i):=by
  intro i hi;have e:(4294967296:Nat)-J04 E s=2 ^ 32-((J04 E s-1)+1):=by omega
  rw[nxt,hneg,Nat.testBit_and,e,Nat.testBit_two_pow_sub_succ (by omega),J6e k2 k3];simp[hi]
 have hk2:=k2;rw[J03 k1,Bool.and_eq_true] at hk2;have hsk:s.testBit k=false:=by simpa using hk2.2
 -- below k the part is all of it
 have hlow:∀i,i<k->s.testBit i=E.testBit i:=fun i hi=>by
  have:=k3 i hi;rw[J03 (by omega)] at this;cases e:s.testBit i with
  | true=>rw[hp i e]
  | false=>rw[e] at this;simpa using this.symm
 -- the next one is t's high part at most
 have hlt:s / 2 ^ k<t / 2 ^ k:=by
  rcases Nat.lt_or_ge (s / 2 ^ k) (t / 2 ^ k) with h|h
  . exact h
  . exfalso;have h1:t / 2 ^ k=s / 2 ^ k:=Nat.le_antisymm h (Nat.div_le_div_right (Nat.le_of_lt hst));have h2:t % 2 ^ k<=s % 2 ^ k:=by
     apply J2s.le;intro i hi;rw[Nat.testBit_mod_two_pow,Bool.and_eq_true,decide_eq_true_eq] at hi ⊢;exact⟨hi.1,by rw[hlow i hi.1];exact hpt i hi.2⟩
    have a1:=Nat.div_add_mod s (2 ^ k);have a2:=Nat.div_add_mod t (2 ^ k);rw[h1] at a2;omega
 have hn:nxt E s=2 ^ k*(s / 2 ^ k+1):=by
  have heven:s / 2 ^ k+1=s / 2 ^ k ||| 1:=by
   have h1:(s / 2 ^ k) % 2=0:=by
    rw[Nat.testBit_eq_decide_div_mod_eq,decide_eq_false_iff_not] at hsk;omega
   apply Nat.eq_of_testBit_eq;intro i;rw[Nat.testBit_or];cases i with
   | zero=>simp[Nat.testBit_zero];omega
   | succ i =>
     rw[Nat.testBit_succ,Nat.testBit_succ,Nat.testBit_succ,show(s / 2 ^ k+1) / 2=s / 2 ^ k / 2 by omega];simp
  apply Nat.eq_of_testBit_eq;intro i;rw[heven,Nat.testBit_two_pow_mul];by_cases hi:i<32
  . rw[hbit i hi];by_cases h1:i<k
    . rw[if_pos (by omega),decide_eq_true h1,decide_eq_false (by omega)];rfl
    . by_cases h2:i=k
      . subst h2;rw[if_pos (by omega),decide_eq_false (by omega),hk2.1];simp
      . rw[if_neg (by omega),J03 hi,decide_eq_true (by omega),Nat.testBit_or,Nat.testBit_div_two_pow,show i-k+k=i by omega,Q7k (show i-k≠0 by omega)];cases e:s.testBit i with
        | true=>rw[hp i e];rfl
        | false=>cases E.testBit i<;>rfl
  . have h3:(s / 2 ^ k ||| 1).testBit (i-k)=false:=by
     rw[Nat.testBit_or,Nat.testBit_div_two_pow,show i-k+k=i by omega,J06 hs (by omega)];rw[Q7k (by omega)];rfl
    rw[h3,J06 (Q7r hE) (by omega),Bool.and_false]
 rw[hn];exact Nat.le_trans (Nat.mul_le_mul_left _ hlt) (Nat.mul_div_le t (2 ^ k))
theorem Q3B {E t:Nat} (hE:E<4294967296) (ht:J2s t E) (h0:t≠0):∀f s,J2s s E->s≠0->s<=t->t-s<=f->t∈Q10 E s
 | f,s,hp,hs0,hst,hf=>by
   rw[J3K hE hp hs0];by_cases e:t=s
   . subst e;simp
   . have htE:=ht.le;have hlt:s<t:=by omega
     have h1:=J6W hE hp (by omega);have h2:=Q7s hE hp ht hlt;cases f with
     | zero=>omega
     | succ f=>exact List.mem_cons_of_mem _ (Q3B hE ht h0 f _ (J19 E s) (by omega) h2 (by omega))
theorem J6E {E:Nat} (hE:E<4294967296):∀f s,J2s s E->E-s<=f->(Q10 E s).Pairwise (·<·)
 | f,s,hp,hf=>by
   by_cases h0:s=0
   . subst h0;rw[J2a];exact .nil
   . rw[J3K hE hp h0];by_cases hs:s=E
     . subst hs;rw[J35 hE,J2a];simp
     . have h1:=J6W hE hp hs;have h2:=hp.le;have h3:=(J19 E s).le;refine List.Pairwise.cons (fun t ht=>?_) ?_
       . have:=(J4Q hE (E-nxt E s) _ (J19 E s) (Nat.le_refl _) t ht).2.2;omega
       . cases f with
         | zero=>omega
         | succ f=>exact J6E hE f _ (J19 E s) (by omega)
theorem Q5o {E t:Nat} (hE:E<4294967296) (ht:J2s t E) (h0:t≠0):J4z E<=t:=by
 have htE:=ht.le;have ht32:t<4294967296:=by omega
 obtain⟨k1,k2,k3⟩:=J1Z h0 ht32;obtain⟨j1,j2,j3⟩:=J1Z (s:=E) (by omega) hE;have h1:ctz E<=ctz t:=by
  rcases Nat.lt_or_ge (ctz t) (ctz E) with h|h
  . have:=j3 _ h;rw[ht _ k2] at this;cases this
  . exact h
 have h2:2 ^ ctz t<=t:=by
  have:=(J1X ht32).le;rw[J4z,if_neg h0] at this;exact this
 rw[J4z,if_neg (by omega)];exact Nat.le_trans (Nat.pow_le_pow_right (n:=2) (by omega) h1) h2
theorem Q87 {g:G} {k:Int} {e:Nat} (hk:dk k=true) (h:(chs g k e).2≠0):(chs g k e).2=3/\(chs g k e).1=[]/\cnt e 32 > 10/\(k=2\/k=3):=by
 rw[Q8M] at hk;unfold chs at h ⊢;split at h
 . exact absurd rfl h
 . split at h
   . exact absurd rfl h
   . split at h
     . exact absurd rfl h
     . split at h
       . rename_i h0 k1 k4 hc;rw[if_neg h0,if_neg k1,if_neg k4,if_pos hc];exact⟨rfl,rfl,hc,by omega⟩
       . exact absurd rfl h
theorem J7x {g:G} {k:Int} {e c:Nat} (hk:dk k=true) (he:e<4294967296) (hc:c<4294967296) (h:(chs g k e).2=0):c∈(chs g k e).1↔Q1g g k e c=true:=by
 rw[Q8M] at hk;rw[J2c,J1T hc];unfold chs at h ⊢;split
 . rename_i h0;subst h0;constructor
   . intro x;cases x
   . rintro⟨a,b,_⟩;exact absurd (Nat.le_zero.1 b.le) a
 . rename_i h0;rw[if_neg h0] at h;split
   . rename_i k1;subst k1;rw[okC1];show c∈J5K e 32↔_;rw[J59];constructor
     . rintro⟨v,h1,h2,rfl⟩;exact⟨Nat.ne_of_gt (Nat.two_pow_pos _),fun i hi=>by rw[<- Q2t hi];exact h2,J8n v⟩
     . rintro⟨h1,h2,h3⟩;obtain⟨j1,j2,j3⟩:=J1Z h1 hc;exact⟨ctz c,j1,h2 _ j2,Q5c h1 hc h3⟩
   . rename_i k1;rw[if_neg k1] at h;split
     . rename_i k4;subst k4;rw[Y0j];show c∈[e]↔_;rw[List.mem_singleton];exact⟨fun x=>by subst x;exact⟨h0,fun i h=>h,rfl⟩,fun x=>x.2.2⟩
     . rename_i k4;rw[if_neg k4] at h;split
       . rename_i hc';rw[if_pos hc'] at h;cases h
       . show c∈(Q10 e (J4z e)).filter (okC g k e)↔_;rw[List.mem_filter];constructor
         . rintro⟨h1,h2⟩;have:=J4Q he (e-J4z e) (J4z e) (J1X he) (Nat.le_refl _) c h1;exact⟨this.2.1,this.1,h2⟩
         . rintro⟨h1,h2,h3⟩;exact⟨Q3B he h2 h1 _ _ (J1X he) (Q2A h0) (Q5o he h2 h1) (Nat.le_refl _),h3⟩
theorem J8L {g:G} {k:Int} {e:Nat} (he:e<4294967296):(chs g k e).1.Pairwise (·<·):=by
 unfold chs;split
 . exact .nil
 . split
   . exact J4t 32
   . split
     . show[e].Pairwise (·<·);simp
     . split
       . exact .nil
       . exact(J6E he _ _ (J1X he) (Nat.le_refl _)).filter _
theorem J48 {g:G} {k:Int} {e:Nat} (he:e<4294967296):∀c∈(chs g k e).1,c<4294967296:=by
 unfold chs;split
 . intro c hc;cases hc
 . split
   . intro c hc;obtain⟨v,h1,_,rfl⟩:=J59.1 hc;exact J34 h1
   . split
     . intro c hc;have:c=e:=by simpa using hc
       omega
     . split
       . intro c hc;cases hc
       . intro c hc;have hc':c∈(Q10 e (J4z e)).filter (okC g k e):=hc;have:=(J4Q he (e-J4z e) (J4z e) (J1X he) (Nat.le_refl _) c (List.mem_filter.1 hc').1).1.le;omega
theorem Q4F {g:G} (hg:g.valid=true) {k:Int} {e:Nat} (hk:dk k=true) (he:e<4294967296) (hp:J2s e (J2z g.ports.length)) (h:(chs g k e).2=0):(chs g k e).1.length > 0↔e≠0:=by
 constructor
 . intro h1 h0;subst h0;rw[chs,if_pos rfl] at h1;simp at h1
 . intro h0;have h1:=Q3I hg hk he hp h0 (w:=0);have h2:rs g k e 0<4294967296:=by
    obtain⟨_,a,_⟩:=J2c.1 h1;by_cases h4:k=4
    . subst h4;rw[rs,if_neg (by decide),if_neg (by decide),if_pos rfl];exact he
    . exact Nat.lt_of_le_of_lt (Q6Q he h4).le (Q0b he)
   exact List.length_pos_of_mem ((J7x hk he h2 h).2 h1)
theorem X5F {g:G} {k:Int} {e:Nat} (he:e<4294967296):(chs g k e).1.length<=5000000000:=by
 unfold chs;split
 . show([]:List Nat).length<=_;simp
 . split
   . have:=J9j e 32;show(J5K e 32).length<=_;omega
   . split
     . show[e].length<=_;simp
     . split
       . show([]:List Nat).length<=_;simp
       . show((Q10 e (J4z e)).filter (okC g k e)).length<=_;have h1:=List.length_filter_le (okC g k e) (Q10 e (J4z e));have h2:=Q3C he (e-J4z e) (J4z e) (J1X he) (Nat.le_refl _);omega
end Go.Proofs.YtmifmchinfhbnaaGreatDoor
namespace Go.Proofs.YtmifmchinfhbnaaGreatDoor
open Go.Eng Go.Plain
set_option maxRecDepth 100000
set_option linter.unusedVariables false
def J7Y (p:Pr) (g:G) (kd:Int) (k:Nat):List (Nat×Nat):=(chs g kd (enN p g (cfK p g k))).1.map fun s=>(s,rkC p g (J0A p g (cfK p g k) s))
def toK (p:Pr) (g:G) (kd:Int) (k:Nat):List Nat:=(J7Y p g kd k).map (·.2)
def J3G (p:Pr) (g:G) (leg:Cf->Bool) (k:Nat):Bool:=leg (cfK p g k)
structure J7L (p:Pr) (g:G) (kd:Int) (c:Cf) (s:Nat):Prop where
 ne:s≠0
 part:J2s s (enN p g c)
 okc:okC g kd (enN p g c) s=true
 lt:s<16777216
inductive Lng (p:Pr) (g:G) (kd:Int) (leg:Cf->Bool):Nat->Cf->Prop
 | nil (c:Cf):Lng p g kd leg 0 c
 | step {t:Nat} {c:Cf} (s:Nat) (h:J7L p g kd c s) (hl:leg (J0A p g c s)=false) (hn:Lng p g kd leg t (J0A p g c s)):Lng p g kd leg (t+1) c
structure Srv (p:Pr) (g:G) (kd:Int) (leg:Cf->Bool) (R M:Int) (Inv:Cf->Cnt->Prop):Prop where
 closed:∀c s,J1G p g c->leg c=true->J7L p g kd c s->leg (J0A p g c s)=true
 en:∀c,J1G p g c->leg c=false->enN p g c≠0
 start:∀c,J1G p g c->leg c=false->Inv c (X71 (enN p g c))
 step:∀c n s,J1G p g c->Inv c n->leg c=false->J7L p g kd c s->leg (J0A p g c s)=false->Inv (J0A p g c s) (n.add s (enN p g (J0A p g c s)))
 rounds:∀c n,J1G p g c->Inv c n->leg c=false->(n.rounds:Int)+1<=R
 moves:0<=M->∀c n s,J1G p g c->Inv c n->leg c=false->J7L p g kd c s->(n.moves:Int)+cnt s 32<=M
 ends:∃T,∀c,J1G p g c->leg c=false->¬ Lng p g kd leg T c
theorem X4u {p:Pr} (hp:J2M p) {g:G} (hg:g.valid=true) {kd:Int} {leg:Cf->Bool} {R M:Int} {Inv:Cf->Cnt->Prop} (hS:Srv p g kd leg R M Inv)
 (hch:∀k,k<J0X p g->∀s,s∈(chs g kd (enN p g (cfK p g k))).1->J7L p g kd (cfK p g k) s) (hne:∀k,k<J0X p g->enN p g (cfK p g k)≠0->(chs g kd (enN p g (cfK p g k))).1≠[])
 {L:List Nat} (hL:An.Ord (J0X p g) (toK p g kd) (J3G p g leg) L) (hconf:∀c s,J1G p g c->J7L p g kd c s->J1G p g (J0A p g c s)):∀k,k<J0X p g->k∈L:=by
 obtain⟨T,hT⟩:=hS.ends;have key:∀t k,k<J0X p g->k∉L->Lng p g kd leg t (cfK p g k):=by
  intro t
  induction t with
  | zero=>intro k _ _;exact .nil _
  | succ t ih =>
    intro k hk hn;obtain⟨h1,h2⟩:=hL.out k hk hn;have hc:=J1q hp hg k;rcases h2 with h2 | ⟨to,h2,h3⟩
    . exfalso;refine hne k hk (hS.en _ hc h1) ?_;simpa[toK,J7Y] using h2
    . simp only[toK,J7Y,List.map_map,List.mem_map,Function.comp] at h2;obtain⟨s,hs,rfl⟩:=h2;have hst:=hch k hk s hs;have hc':=hconf _ _ hc hst;have hlt:=Q6Z hp hg hc';have:=ih _ hlt h3;rw[Q1J hp hg hc'] at this;refine .step s hst ?_ this;have:=(hL.out _ hlt h3).1;rw[J3G,Q1J hp hg hc'] at this;exact this
 intro k hk;apply Classical.byContradiction;intro hn;exact hT _ (J1q hp hg k) (hL.out k hk hn).1 (key T k hk hn)
def X2f (p:Pr) (g:G) (R:Int) (Inv:Cf->Cnt->Prop) (k pd v:Nat):Prop:=∀n,Inv (cfK p g k) n->n.pend=pd->(n.rounds:Int)+v<=R
def X3w (p:Pr) (g:G) (M:Int) (Inv:Cf->Cnt->Prop) (k v:Nat):Prop:=0<=M->∀n,Inv (cfK p g k) n->(n.moves:Int)+v<=M
def Y2k (p:Pr) (g:G) (pd s t:Nat):Nat×Bool:=if J04 pd s &&& enN p g (cfK p g t)=0 then (enN p g (cfK p g t),true) else (J04 pd s &&& enN p g (cfK p g t),false)
theorem X2t {p:Pr} (hp:J2M p) {g:G} (hg:g.valid=true) {kd:Int} {leg:Cf->Bool} {R M:Int} {Inv:Cf->Cnt->Prop} (hS:Srv p g kd leg R M Inv) {k pd:Nat} (hl:J3G p g leg k=false):X2f p g R Inv k pd 1 :=
 fun n hi _=>hS.rounds _ n (J1q hp hg k) hi hl
theorem X4m {p:Pr} (hp:J2M p) {g:G} (hg:g.valid=true) {kd:Int} {leg:Cf->Bool} {R M:Int} {Inv:Cf->Cnt->Prop} (hS:Srv p g kd leg R M Inv) {k pd s v:Nat} (hl:J3G p g leg k=false)
 (hs:J7L p g kd (cfK p g k) s) (hc':J1G p g (J0A p g (cfK p g k) s)) (hl':J3G p g leg (rkC p g (J0A p g (cfK p g k) s))=false)
 (hv:X2f p g R Inv (rkC p g (J0A p g (cfK p g k) s)) (Y2k p g pd s (rkC p g (J0A p g (cfK p g k) s))).1 v) :
 X2f p g R Inv k pd (if (Y2k p g pd s (rkC p g (J0A p g (cfK p g k) s))).2 then 1+v else v):=by
 intro n hi hpd;have e:=Q1J hp hg hc';rw[J3G,e] at hl';have hn:=hS.step _ n s (J1q hp hg k) hi hl hs hl';have:=hv _ (by rw[e];exact hn);rw[Y2k,e] at this ⊢;have hlf:lft n s (enN p g (J0A p g (cfK p g k) s))=J04 pd s &&& enN p g (J0A p g (cfK p g k) s):=by rw[lft,hpd]
 by_cases h0:J04 pd s &&& enN p g (J0A p g (cfK p g k) s)=0
 . rw[if_pos h0] at this ⊢;rw[Cnt.add,if_pos (by rw[hlf];exact h0)] at this;have h4:((n.rounds+1:Nat):Int)+v<=R:=this rfl
   push_cast at h4
   show(n.rounds:Int)+((1+v:Nat):Int)<=R
   push_cast
   omega
 . rw[if_neg h0] at this ⊢;rw[Cnt.add,if_neg (by rw[hlf];exact h0)] at this;have h4:((n.rounds:Nat):Int)+v<=R:=this hlf;show(n.rounds:Int)+(v:Int)<=R;exact h4
theorem X6T {p:Pr} {g:G} {R:Int} {Inv:Cf->Cnt->Prop} {k pd a b:Nat} (ha:X2f p g R Inv k pd a) (hb:X2f p g R Inv k pd b):X2f p g R Inv k pd (max a b):=fun n hi hpd=>by
 have:=ha n hi hpd;have:=hb n hi hpd;omega
theorem X6U {p:Pr} (hp:J2M p) {g:G} (hg:g.valid=true) {kd:Int} {leg:Cf->Bool} {R M:Int} {Inv:Cf->Cnt->Prop} (hS:Srv p g kd leg R M Inv) {k v:Nat} (hl:J3G p g leg k=false) (h:X2f p g R Inv k (enN p g (cfK p g k)) v):(v:Int)<=R:=by
 have:=h _ (hS.start _ (J1q hp hg k) hl) rfl;simp only[X71] at this;omega
theorem X4A {p:Pr} (hp:J2M p) {g:G} (hg:g.valid=true) {kd:Int} {leg:Cf->Bool} {R M:Int} {Inv:Cf->Cnt->Prop} (hS:Srv p g kd leg R M Inv) {k s v:Nat} (hl:J3G p g leg k=false)
 (hs:J7L p g kd (cfK p g k) s) (hc':J1G p g (J0A p g (cfK p g k) s))
 (hv:J3G p g leg (rkC p g (J0A p g (cfK p g k) s))=false->X3w p g M Inv (rkC p g (J0A p g (cfK p g k) s)) v) (h0:J3G p g leg (rkC p g (J0A p g (cfK p g k) s))=true->v=0):X3w p g M Inv k (cnt s 32+v):=by
 intro hM n hi;have e:=Q1J hp hg hc';cases hl':J3G p g leg (rkC p g (J0A p g (cfK p g k) s)) with
 | true =>
   have:=hS.moves hM _ n s (J1q hp hg k) hi hl hs;rw[h0 hl']
   push_cast
   omega
 | false =>
   have hv:=hv hl' hM;rw[J3G,e] at hl';have hn:=hS.step _ n s (J1q hp hg k) hi hl hs hl';have:=hv _ (by rw[e];exact hn);have h2:(n.add s (enN p g (J0A p g (cfK p g k) s))).moves=n.moves+cnt s 32:=by
    rw[Cnt.add];split<;>rfl
   rw[h2] at this
   push_cast at this ⊢
   omega
theorem X7o {p:Pr} {g:G} {M:Int} {Inv:Cf->Cnt->Prop} {k a b:Nat} (ha:X3w p g M Inv k a) (hb:X3w p g M Inv k b):X3w p g M Inv k (max a b):=fun hM n hi=>by
 have:=ha hM n hi;have:=hb hM n hi;omega
theorem X7p {p:Pr} (hp:J2M p) {g:G} (hg:g.valid=true) {kd:Int} {leg:Cf->Bool} {R M:Int} {Inv:Cf->Cnt->Prop} (hS:Srv p g kd leg R M Inv) {k v:Nat} (hl:J3G p g leg k=false) (h:X3w p g M Inv k v) (hM:0<=M):(v:Int)<=M:=by
 have:=h hM _ (hS.start _ (J1q hp hg k) hl);simp only[X71] at this;omega
def J4l (p:Pr) (g:G) (kd:Int):Tsy:=⟨J0X p g,fun k=>enN p g (cfK p g k),J7Y p g kd⟩
def J97 (f:Nat->Int):Nat->Int
 | 0=>0
 | n+1=>J97 f n+f n
theorem Q2l (f:Nat->Int):∀n,((List.range n).map f).sum=J97 f n
 | 0=>rfl
 | n+1=>by rw[List.range_succ,List.map_append,List.sum_append,Q2l f n];simp[J97]
theorem J9c {f h:Nat->Int}:∀{n:Nat},(∀i,i<n->f i=h i)->J97 f n=J97 h n
 | 0,_=>rfl
 | n+1,e=>by rw[J97,J97,J9c (fun i hi=>e i (by omega)),e n (by omega)]
theorem Q0u:∀n,J97 (fun _=>0) n=0
 | 0=>rfl
 | n+1=>by rw[J97,Q0u n];rfl
theorem J9d {f:Nat->Int} {B:Int}:∀{n:Nat},(∀i,i<n->-B<=f i/\f i<=B)->-((n:Int)*B)<=J97 f n/\J97 f n<=(n:Int)*B
 | 0,_=>by simp[J97]
 | n+1,h=>by
   have h1:=J9d (n:=n) (fun i hi=>h i (by omega));have h2:=h n (by omega);have e:((n+1:Nat):Int)*B=(n:Int)*B+B:=by rw[Int.natCast_add,Int.add_mul];simp
   rw[J97,e];omega
def gwX (p:Pr) (g:G) (c:Cf) (v x:Nat):Int:=(gI (J3D p g c v (J1m p g c v).toNat) x-gI (gC c v) x)*(plP p g v x:Nat)
def gwS (p:Pr) (g:G) (c:Cf) (v:Nat):Nat->Int:=J97 (gwX p g c v)
def gwK (p:Pr) (g:G) (c:Cf) (v:Nat):Int:=if 0<=J1m p g c v then gwS p g c v p.vars.length else 0
def toS (p:Pr) (g:G) (c:Cf) (k s b:Nat):Int:=(k:Int)+J97 (fun v=>if s.testBit v then gwK p g c v else 0) b
theorem X60 {sz:Nat->Nat} (h:∀i,0<sz i) (a l l':Nat) (hl:l<=l'):Mx.pr sz a l<=Mx.pr sz a l':=by
 induction l' with
 | zero =>
   obtain rfl:l=0:=by omega
   exact Nat.le_refl _
 | succ l' ih =>
   by_cases e:l=l'+1
   . subst e;exact Nat.le_refl _
   . have:=ih (by omega);rw[Mx.pr_snoc];exact Nat.le_trans this (Nat.le_mul_of_pos_right _ (h _))
theorem J9r {sz:Nat->Nat} (a l:Nat):∀m,Mx.pr sz a (l+m)=Mx.pr sz a l*Mx.pr sz (a+l) m
 | 0=>by simp[Mx.pr]
 | m+1=>by rw[<- Nat.add_assoc,Mx.pr_snoc,J9r a l m,Mx.pr_snoc,Nat.mul_assoc,Nat.add_assoc]
theorem Q7d (p:Pr) (g:G) {i:Nat} (hi:i<nP p g):Mx.pr (szP p g) i (nP p g-i)=szP p g i*Mx.pr (szP p g) (i+1) (nP p g-(i+1)):=by
 have e:nP p g-i=(nP p g-(i+1))+1:=by omega
 rw[e,Mx.pr]
theorem X4p (p:Pr) (g:G) {i:Nat} (hi:i<=nP p g):Mx.pr (szP p g) i (nP p g-i)<=J0X p g:=by
 have e:nP p g=i+(nP p g-i):=by omega
 rw[J0X]
 conv=>rhs;rw[e,J9r]
 rw[Nat.zero_add];exact Nat.le_mul_of_pos_left _ (Mx.pr_pos (J23 p g) _ _)
theorem X30 (p:Pr) (g:G) {v x:Nat} (hv:v<g.ids.length) (hx:x<p.vars.length):szX p g v x*plP p g v x<=J0X p g:=by
 have h1:=J7V hv hx;have h2:=Q7d p g h1;rw[J4k p g hx] at h2;rw[plP,<- h2];exact X4p p g (Nat.le_of_lt h1)
theorem Q8k {p:Pr} (hp:J2M p) {g:G} (hg:g.valid=true) {c:Cf} (hc:J1G p g c) {v x:Nat} (hv:v<g.ids.length) (hx:x<p.vars.length) (hr:0<=J1m p g c v) (hn:J0X p g<=32768) :
 -32768<=gwX p g c v x/\gwX p g c v x<=32768:=by
 obtain⟨f1,f2,f3,f4,f5,f6,f7⟩:=J0f hg;have hcl:=hc.len
 -- the step of this node alone
 have hs:J2s (2 ^ v) (enN p g c):=fun i hi=>by
  have e:=Q2t hi;rw[J46,Bool.and_eq_true,decide_eq_true_eq,decide_eq_true_eq,<- e];exact⟨hv,hr⟩
 have hd:=J1s hp hg hc hs;have hrow:=J3i p g c (2 ^ v) (v:=v) (by omega);rw[Nat.testBit_two_pow_self,if_pos rfl] at hrow;have h1:=hc.val v (by omega) x hx;have h2:=hd.val v (by rw[J3L];omega) x hx;rw[hrow] at h2;have h3:=X30 p g hv hx;have h4:=J4s hp g hg v hx;change loP p g v x<=_/\_<=hiP p g v x at h1 h2;rw[gwX];generalize gI (J3D p g c v (J1m p g c v).toNat) x=a at *;generalize gI (gC c v) x=b at *;have h5:((szX p g v x*plP p g v x:Nat):Int)<=32768:=by omega
 rw[Int.natCast_mul] at h5;have hle:(0:Int)<=(plP p g v x:Nat):=Int.natCast_nonneg _;generalize ((plP p g v x:Nat):Int)=q at *;generalize ((szX p g v x:Nat):Int)=z at *;have a1:(a-b)*q<=z*q:=Int.mul_le_mul_of_nonneg_right (by omega) hle;have a2:(b-a)*q<=z*q:=Int.mul_le_mul_of_nonneg_right (by omega) hle;have a3:(b-a)*q=-((a-b)*q):=by rw[<- Int.neg_mul];congr 1;omega
 omega
theorem Q2F {p:Pr} (hp:J2M p) {g:G} (hg:g.valid=true) {c:Cf} (hc:J1G p g c) {v:Nat} (hv:v<g.ids.length) (hr:0<=J1m p g c v) (hn:J0X p g<=32768) {x:Nat} (hx:x<=p.vars.length) :
 -32768000<=gwS p g c v x/\gwS p g c v x<=32768000:=by
 have h1:=J9d (n:=x) (f:=gwX p g c v) (B:=32768) (fun i hi=>Q8k hp hg hc hv (by omega) hr hn);have h2:=hp.vlen;rw[gwS];omega
theorem X44 {p:Pr} (hp:J2M p) {g:G} (hg:g.valid=true) {c:Cf} (hc:J1G p g c) {v:Nat} (hv:v<g.ids.length) (hn:J0X p g<=32768) :
 -32768000<=gwK p g c v/\gwK p g c v<=32768000:=by
 rw[gwK];split
 . rename_i h;exact Q2F hp hg hc hv h hn (Nat.le_refl _)
 . omega
theorem Q6v {p:Pr} (hp:J2M p) {g:G} (hg:g.valid=true) {c:Cf} (hc:J1G p g c) (hn:J0X p g<=32768) {k s b:Nat} (hk:k<32768) (hb:b<=g.ids.length) :
 -1000000000<=toS p g c k s b/\toS p g c k s b<=1000000000:=by
 obtain⟨f1,f2,f3,f4,f5,f6,f7⟩:=J0f hg;have h1:=J9d (n:=b) (f:=fun v=>if s.testBit v then gwK p g c v else 0) (B:=32768000) (fun i hi=>by
  show _<=(if s.testBit i then gwK p g c i else 0)/\(if s.testBit i then gwK p g c i else 0)<=_;split
  . exact X44 hp hg hc (by omega) hn
  . omega)
 rw[toS];omega
theorem X3X {p:Pr} (hp:J2M p) {g:G} (hg:g.valid=true) {c:Cf} (hc:J1G p g c) {s:Nat} (hs:J2s s (enN p g c)):toS p g c (rkC p g c) s g.ids.length=(rkC p g (J0A p g c s):Nat):=by
 have hcl:=hc.len;rw[X4j hc (J1s hp hg hc hs),toS,Q2l];congr 1;refine J9c fun v hv=>?_;rw[grX,Q2l,J3i p g c s (by omega)];cases e:s.testBit v with
 | false =>
   simp only[Bool.false_eq_true,if_false];symm;rw[<- Q0u p.vars.length];exact J9c fun x _=>by rw[Int.sub_self,Int.zero_mul]
 | true =>
   have:=hs v e;rw[J46,Bool.and_eq_true,decide_eq_true_eq,decide_eq_true_eq] at this;simp only[if_true];rw[gwK,if_pos this.2,gwS];rfl
theorem Q3x {p:Pr} {g:G} {c:Cf} {k s a b:Nat} (hab:a<=b) (h:∀i,a<=i->i<b->s.testBit i=false):toS p g c k s b=toS p g c k s a:=by
 induction b with
 | zero =>
   obtain rfl:a=0:=by omega
   rfl
 | succ b ih =>
   by_cases e:a=b+1
   . subst e;rfl
   . rw[<- ih (by omega) (fun i h1 h2=>h i h1 (by omega)),toS,toS,J97,h b (by omega) (by omega)];simp
theorem X0c {p:Pr} {g:G} {c:Cf} {k s b:Nat} (h:s.testBit b=true):toS p g c k s (b+1)=toS p g c k s b+gwK p g c b:=by
 rw[toS,toS,J97,h];simp;omega
theorem X6I {p:Pr} (hp:J2M p) {g:G} (hg:g.valid=true) {kd:Int} (hk:dk kd=true) (hn:J0X p g<=32768) (he:∀c,(chs g kd (enN p g c)).2=0) (ht:(J4l p g kd).tot (J0X p g)<=262144):(J4l p g kd).Ok:=by
 obtain⟨f1,f2,f3,f4,f5,f6,f7⟩:=J0f hg;have hmem:∀c s,s∈(chs g kd (enN p g c)).1->s≠0/\J2s s (enN p g c):=fun c s hs=>by
  have h32:=Q1z p hg c;have h1:=(J7x hk h32 (J48 h32 s hs) (he c)).1 hs;obtain⟨a,b,_⟩:=J2c.1 h1;exact⟨a,(J1T (J48 h32 s hs)).1 b⟩
 refine⟨Q4B p g,hn,fun k _=>Q5D p hg _,fun k hk'=>?_,fun k hk'=>?_,fun k hk' a ha=>?_,ht⟩
 . have h1:=Q4F hg hk (Q1z p hg (cfK p g k)) (J9L p hg _) (he _);show enN p g (cfK p g k)≠0↔J7Y p g kd k≠[];rw[<- h1,J7Y];simp[List.length_pos_iff]
 . show(J7Y p g kd k).Pairwise _;rw[J7Y,List.pairwise_map];exact J8L (Q1z p hg _)
 . have ha:a∈J7Y p g kd k:=ha;rw[J7Y] at ha;obtain⟨s,hs,rfl⟩:=List.mem_map.1 ha;obtain⟨h1,h2⟩:=hmem _ s hs;exact⟨h1,h2,Q6Z hp hg (J1s hp hg (J1q hp hg k) h2)⟩
def J4J (p:Pr) (g:G) (k j v x:Nat):Int:=loP p g v x+((if v*p.vars.length+x<j then dgP p g k v x else 0:Nat):Int)
def J95 (p:Pr) (g:G) (k i:Nat):Prop:=∀j,i<=j->j<nP p g->Mx.dg (szP p g) (nP p g) k j+1=szP p g j
theorem Q9w {p:Pr} {g:G} {k v x:Nat} (hv:v<g.ids.length) (hx:x<p.vars.length):J4J p g k (nP p g) v x=gI (gC (cfK p g k) v) x:=by
 rw[J4J,if_pos (J7V hv hx),J3W p g k hv hx]
theorem Q4T {p:Pr} {g:G} {k i v x:Nat} (hne:v*p.vars.length+x≠i):J4J p g k i v x=J4J p g k (i+1) v x:=by
 rw[J4J,J4J];by_cases h:v*p.vars.length+x<i
 . rw[if_pos h,if_pos (by omega)]
 . rw[if_neg h,if_neg (by omega)]
theorem X2c {p:Pr} {g:G} {k v x:Nat}:J4J p g k (v*p.vars.length+x) v x=loP p g v x:=by
 rw[J4J,if_neg (by omega)];simp
theorem Q9v {p:Pr} {g:G} {k v x:Nat}:J4J p g k (v*p.vars.length+x+1) v x=loP p g v x+dgP p g k v x:=by
 rw[J4J,if_pos (by omega)]
theorem Q8q {p:Pr} {g:G} {k v x:Nat} (hx:x<p.vars.length) (h:J95 p g k (v*p.vars.length+x+1)) (h1:dgP p g k v x+1=szX p g v x):J95 p g k (v*p.vars.length+x):=fun j hj hjn=>by
 by_cases e:j=v*p.vars.length+x
 . subst e;rw[J4k p g hx];exact h1
 . exact h j (by omega) hjn
theorem Q9x {p:Pr} {g:G} {k v x:Nat} (hk:k<J0X p g) (hv:v<g.ids.length) (hx:x<p.vars.length) (h:J95 p g k (v*p.vars.length+x+1)) (h1:dgP p g k v x+1<szX p g v x) {v' x':Nat} (hv':v'<g.ids.length) (hx':x'<p.vars.length) :
 gI (gC (cfK p g (k+1)) v') x'=J4J p g k (v*p.vars.length+x+1) v' x'+(if v'=v/\x'=x then 1 else 0):=by
 have hi:=J7V hv hx;have hi':=J7V hv' hx';have hd:=Mx.dg_next (J23 p g) hk hi (by rw[J4k p g hx];exact h1) (fun j hj hjn=>h j (by omega) hjn) hi';rw[J3W p g _ hv' hx',dgP,hd,Mx.nx,J4J];by_cases e:v'=v/\x'=x
 . obtain⟨rfl,rfl⟩:=e;rw[if_neg (by omega),if_pos rfl,if_pos (by omega),if_pos ⟨rfl,rfl⟩,dgP];omega
 . have hne:v'*p.vars.length+x'≠v*p.vars.length+x:=fun q=>e (by
    have a1:=congrArg (· / p.vars.length) q;have a2:=congrArg (· % p.vars.length) q;simp only[J4Z hx,J4Z hx',Q1f hx,Q1f hx'] at a1 a2;exact⟨a1,a2⟩)
   rw[if_neg e];by_cases q:v'*p.vars.length+x'<v*p.vars.length+x
   . rw[if_pos q,if_pos (by omega),dgP];omega
   . rw[if_neg q,if_neg hne,if_neg (by omega)];omega
theorem X7V (p:Pr) (g:G) {i:Nat} (hi:i<nP p g):Mx.dg (szP p g) (nP p g) (J0X p g) i=0:=by
 have e:nP p g=i+((nP p g-(i+1))+1):=by omega
 have h1:J0X p g=Mx.pr (szP p g) 0 i*szP p g i*Mx.pr (szP p g) (i+1) (nP p g-(i+1)):=by
  have h2:∀a l m,Mx.pr (szP p g) a (l+m)=Mx.pr (szP p g) a l*Mx.pr (szP p g) (a+l) m:=by
   intro a l m
   induction m with
   | zero=>simp[Mx.pr]
   | succ m ih=>rw[<- Nat.add_assoc,Mx.pr_snoc,ih,Mx.pr_snoc,Nat.mul_assoc,Nat.add_assoc]
  rw[J0X]
  conv=>lhs;rw[e,h2,Nat.zero_add,Mx.pr]
  rw[Nat.mul_assoc]
 rw[Mx.dg,h1,Nat.mul_div_cancel _ (Mx.pr_pos (J23 p g) _ _),Nat.mul_mod_left]
theorem X56 {p:Pr} {g:G} {k:Nat} (hk:k<J0X p g) (h:J95 p g k 0) {v x:Nat} (hv:v<g.ids.length) (hx:x<p.vars.length):J4J p g k 0 v x=gI (gC (cfK p g (k+1)) v) x:=by
 have h1:=Mx.dg_last (J23 p g) hk (fun j hj=>h j (Nat.zero_le _) hj);have h2:k+1=J0X p g:=h1;rw[J3W p g _ hv hx,J4J,if_neg (by omega),dgP,h2,X7V p g (J7V hv hx)]
def J50 (p:Pr) (g:G) (k j v x:Nat):Int:=loP p g v x+((if v*p.vars.length+x<j then 0 else dgP p g k v x:Nat):Int)
def Q0l (p:Pr) (g:G) (k j:Nat):Nat:=k / Mx.pr (szP p g) j (nP p g-j)
theorem Q6l (p:Pr) (g:G) (k:Nat):Q0l p g k (nP p g)=k:=by rw[Q0l,Nat.sub_self,Mx.pr,Nat.div_one]
theorem Q96 {p:Pr} {g:G} {k v x:Nat} (hv:v<g.ids.length) (hx:x<p.vars.length):Q0l p g k (v*p.vars.length+x+1) / szX p g v x=Q0l p g k (v*p.vars.length+x):=by
 rw[Q0l,<- J4k p g hx];exact Mx.rest_step _ _ _ (J7V hv hx)
theorem X3N {p:Pr} {g:G} {k v x:Nat} (hx:x<p.vars.length):Q0l p g k (v*p.vars.length+x+1) % szX p g v x=dgP p g k v x:=by
 rw[Q0l,<- J4k p g hx];rfl
theorem Q44 {p:Pr} {g:G} {k v x:Nat} (hv:v<g.ids.length) (hx:x<p.vars.length):J50 p g k (nP p g) v x=loP p g v x:=by
 rw[J50,if_pos (J7V hv hx)];simp
theorem Q0m {p:Pr} {g:G} {k i v x:Nat} (hne:v*p.vars.length+x≠i):J50 p g k i v x=J50 p g k (i+1) v x:=by
 rw[J50,J50];by_cases h:v*p.vars.length+x<i
 . rw[if_pos h,if_pos (by omega)]
 . rw[if_neg h,if_neg (by omega)]
theorem Q6m {p:Pr} {g:G} {k v x:Nat}:J50 p g k (v*p.vars.length+x) v x=J50 p g k (v*p.vars.length+x+1) v x+dgP p g k v x:=by
 rw[J50,J50,if_neg (by omega),if_pos (by omega)];simp
theorem Q97 {p:Pr} {g:G} {k v x:Nat} (hv:v<g.ids.length) (hx:x<p.vars.length):J50 p g k 0 v x=gI (gC (cfK p g k) v) x:=by
 rw[J50,if_neg (by omega),J3W p g k hv hx]
theorem Q03 (p:Pr) (hp:J2M p) (g:G) (hg:g.valid=true) (hn:J0X p g<=32768):Ret Tryz.prog 32 [X0f p g] (.tup [.int .i64 (J0X p g),.int .i64 0]):=by
 obtain⟨f1,f2,f3,f4,f5,f6,f7⟩:=J0f hg;have hvl:=hp.vlen;refine J0h rfl ?_;refine J0d J0b Tryz.func32 rfl hc32 hr32 rfl ?_
 repeat' ((conv=>whnf);first|fail)
 all_goals (conv=>whnf)
 refine J1a J0b [9,10] (fun v:Nat=>[(4,.int .i64 (Mx.pr (szP p g) 0 (v*p.vars.length))),(11,.int .i64 v)]) (fun m v=>m=g.ids.length-v/\v<=g.ids.length) g.ids.length 0 ⟨rfl,Nat.zero_le _⟩ ?_ ?_
 . refine J0c (fun _ _=>[]) ?_ ?_ rfl
   . repeat' (first|exact J0a.int (by rw[Nat.zero_mul];rfl)|exact True.intro|(refine⟨⟨_,rfl,?_⟩,?_⟩)|exact J0a.kf rfl)
   . repeat' (first|exact True.intro)
 rintro m v ⟨hm,hv⟩;by_cases hvn:v<g.ids.length
 . repeat' ((conv=>whnf);first|(refine Br.dec ?_ ?_<;>intro _<;>try omega)|(refine Ix.nat (by omega) ?_))
   all_goals (conv=>whnf)
   refine J1a J0b [9,10,11,15,16] (fun x:Nat=>[(4,.int .i64 (Mx.pr (szP p g) 0 (v*p.vars.length+x))),(17,.int .i64 x)]) (fun m x=>m=p.vars.length-x/\x<=p.vars.length) p.vars.length 0 ⟨rfl,Nat.zero_le _⟩ ?_ ?_
   . exact J0k (fun _ _=>[])
   rintro m2 x ⟨hm2,hx⟩;by_cases hxn:x<p.vars.length
   . have hb:=J5W hg (hp.var x hxn) (v:=v) (by omega);have hsz:=J4s hp g hg v hxn;have hix:=J7V hvn hxn;have hpr:Mx.pr (szP p g) 0 (v*p.vars.length+x+1)=Mx.pr (szP p g) 0 (v*p.vars.length+x)*szX p g v x:=by
      rw[Mx.pr_snoc,Nat.zero_add,J4k p g hxn]
     have hmul:(Mx.pr (szP p g) 0 (v*p.vars.length+x):Int)*((bnd g (gV p.vars x) v).2-(bnd g (gV p.vars x) v).1+1)=(Mx.pr (szP p g) 0 (v*p.vars.length+x+1):Nat):=by
      rw[hpr,Int.natCast_mul,hsz];rfl
     have hle:=X60 (J23 p g) 0 (v*p.vars.length+x+1) (nP p g) hix;change _<=J0X p g at hle
     repeat' ((conv=>whnf);first|(refine Ar.i64 (by rw[hmul];omega) (by rw[hmul];omega) ?_;rw[hmul])|(refine Br.dec ?_ ?_<;>intro _<;>try omega)|(refine Ar.i64 (by omega) (by omega) ?_)|(refine Ix.nat (by omega) ?_)|(refine Ix.mk 0 rfl (by omega) ?_)|(refine Ix.mk 1 rfl (by omega) ?_))
     all_goals (conv=>whnf)
     refine⟨p.vars.length-(x+1),x+1,by omega,⟨rfl,by omega⟩,?_⟩;exact J0k (fun _ _=>[])
   . have ex:x=p.vars.length:=by omega
     subst ex
     repeat' ((conv=>whnf);first|(refine Br.dec ?_ ?_<;>intro _<;>try omega)|(refine Ar.i64 (by omega) (by omega) ?_))
     all_goals (conv=>whnf)
     refine⟨g.ids.length-(v+1),v+1,by omega,⟨rfl,by omega⟩,?_⟩;refine J0c (fun _ _=>[]) ?_ ?_ rfl
     . repeat' (first|exact J0a.int (by rw[Nat.add_mul,Nat.one_mul])|exact True.intro|(refine⟨⟨_,rfl,?_⟩,?_⟩)|exact J0a.kf rfl)
     . repeat' (first|exact True.intro)
 . have ev:v=g.ids.length:=by omega
   subst ev
   repeat' ((conv=>whnf);first|(refine Br.dec ?_ ?_<;>intro _<;>try omega))
   all_goals (conv=>whnf)
   exact VLe.rfl
theorem Q7L (p:Pr) (hp:J2M p) (g:G) (hs:g.Small) (hg:g.valid=true) (hn:J0X p g<=32768):Ret Tryz.prog 24 [p.v,g.v] (.tup [.int .i64 (J0X p g),.int .i64 0]):=by
 have h1:=Q2K p hp g hs hg;have h2:=J4O p hp g hg;have h3:=Q03 p hp g hg hn;refine J0h rfl ?_;refine J0d J0b Tryz.func24 rfl hc24 hr24 rfl ?_
 repeat' ((conv=>whnf);first|(refine Br.ff ?_)|(refine h1.go ?_)|(refine h2.go ?_)|(refine h3.go ?_))
 all_goals (conv=>whnf)
 exact VLe.rfl
def Q5q (p:Pr):Nat->Nat:=fun _=>p.vars.length
def J3r (f:Nat->Nat->Int):Nat->Nat->Nat->V:=fun v x _=>.int .i64 (f v x)
def J8D (p:Pr) (g:G) (f:Nat->Nat->Int) (op:List (Nat×Nat)):Blk:=.fam g.ids.length 1 (Q5q p) (J3r f) op
def X2s (p:Pr) (g:G) (v x:Nat):Nat->Nat->V:=fun i _=>if i<x then .int .i64 (loP p g v i) else .int .i64 0
theorem Q6V (p:Pr) (g:G) (v x x' i j:Nat) (hx:x'=x) (hj:j<1):VLe (J00 (X2s p g v x) x' 0 [.int .i64 (loP p g v x)] i j) (X2s p g v (x+1) i j):=by
 obtain rfl:j=0:=by omega
 subst hx;apply VLe.of_eq;by_cases h:i=x'
 . subst h;simp[J00,X2s]
 . have h1:(i<x'+1)=(i<x'):=by simp;omega
   simp[J00,X2s,h,h1]
theorem Q0A (p:Pr) (g:G) (v i j t:Nat) (hj:j<J2K (Q36 p.vars.length v) v p.vars.length i) (ht:t<1):VLe (J3j (J3r (loP p g)) v (X2s p g v p.vars.length) i j t) (J3r (loP p g) i j t):=by
 apply VLe.of_eq;simp only[J3j];split
 . rename_i e;subst e;rw[J2K,if_pos rfl] at hj;rw[X2s,if_pos hj];rfl
 . rfl
def Y2m (p:Pr) (g:G) (F:FuncId):Prop:=J0M Tryz.prog F=true/\∀v x,v<g.ids.length->x<p.vars.length->Ret Tryz.prog F [.int .i64 v,.int .i64 x,.fe 1 1 (tab [[X0f p g]]) 0 0] (.int .i64 (loP p g v x))
set_option maxHeartbeats 8000000 in
theorem Q04 (p:Pr) (hp:J2M p) (g:G) (hg:g.valid=true) (F:FuncId) (hF:Y2m p g F) :
 J0G Tryz.prog 33 [X0f p g,.fn (.func F) false [.loc 0 0]] [(0,.cells [X0f p g])] KS2.tail fun v own' _=>v=.vec 1 1 0 g.ids.length/\own'=[(1,J8D p g (loP p g) []),(0,.cells [X0f p g])]:=by
 obtain⟨f1,f2,f3,f4,f5,f6,f7⟩:=J0f hg;have hvl:=hp.vlen;refine J1u ?_;refine J0d J0b Tryz.func33 rfl hc33 hr33 rfl ?_
 repeat' ((conv=>whnf);first|(refine Bd.nat (by omega) ?_)|(refine Len.mk (by omega) ?_)|(refine MkS.vec ?_))
 all_goals (conv=>whnf)
 refine J0u J0b [0,1,5,12] [2] [3,4,5,6,7,8,9,10,11,12,13,14,15,16,17,18,19,20,21,22,23,24,25,26,27,28,29] [2,1,0] (fun v:Nat=>[(13,.int .i64 v)])
  (fun own v=>(2,.vec (Q36 p.vars.length v v) 1 (J3r (loP p g) v))::J1l (J1l own 1 (.fam g.ids.length 1 (Q36 p.vars.length v) (J3r (loP p g)) [])) 1 (.fam g.ids.length 1 (Q36 p.vars.length v) (J3r (loP p g)) (opn v g.ids.length 2))) (fun k v=>k=g.ids.length-v/\v<=g.ids.length) g.ids.length 0 ⟨rfl,Nat.zero_le _⟩ rfl (fun _=>rfl) ?_ ?_
 . have e:opn 0 g.ids.length 2=[(0,2)]:=if_pos (by omega);simp only[e];refine J3c.trans ?_ (J0V (ks:=[2,3,4,5,6,7,8,9,10,11,12,13,14,15,16,17,18,19,20,21,22,23,24,25,26,27,28,29]) rfl rfl rfl (by omega) rfl) (J2G rfl);refine J0c (fun _ _=>[(0,some 0),(1,some 1)]) ?_ ?_ rfl
   . repeat' (first|exact True.intro|(refine J0a.fn ?_)|(refine⟨⟨_,rfl,?_⟩,?_⟩)|exact J0a.kf rfl|exact J0a.loc rfl|exact J0a.vec rfl rfl rfl|(refine And.intro ?_ ?_))
   . repeat' (first|exact⟨rfl,rfl,rfl,fun i hi=>⟨rfl,if_neg (by omega)⟩⟩|exact True.intro|(refine⟨⟨_,rfl,?_⟩,?_⟩)|exact J0a.kf rfl|(refine And.intro ?_ ?_))
 rintro k v ⟨hk,hv⟩;by_cases hvn:v<g.ids.length
 . have e:opn v g.ids.length 2=[(v,2)]:=if_pos hvn;simp only[e]
   repeat' ((conv=>whnf);first|(refine Br.dec ?_ ?_<;>intro _<;>try omega)|(refine Ix.nat (by omega) ?_)|(refine Bd.nat (by omega) ?_)|(refine Len.mk (by omega) ?_)|(refine Ltn.mk (by omega) ?_)|(refine MkS.vec ?_)|(refine J11.hd (by omega) ?_))
   all_goals (conv=>whnf)
   refine J0u J0b [0,1,5,6,12,13,29] [] [4,5,6,7,8,9,10,11,12,13,14,15,16,17,18,19,20,21,22,23,24,25,26,27,28,29] [3,2,1,0] (fun x:Nat=>[(30,.int .i64 x)])
    (fun own x=>J1l own 3 (.vec p.vars.length 1 (X2s p g v x))) (fun k x=>k=p.vars.length-x/\x<=p.vars.length) p.vars.length 0 ⟨rfl,Nat.zero_le _⟩ rfl (fun _=>rfl) ?_ ?_
   . refine J0c (fun _ _=>[(0,some 0),(1,some 1),(2,some 2),(3,some 3)]) ?_ ?_ rfl
     . repeat' (first|exact True.intro|(refine J0a.fn ?_)|(refine⟨⟨_,rfl,?_⟩,?_⟩)|exact J0a.kf rfl|exact J0a.loc rfl|exact J0a.vec rfl rfl rfl|(refine And.intro ?_ ?_))
     . repeat' (first|exact⟨rfl,rfl,⟨rfl,rfl,True.intro⟩,fun i hi=>rfl,fun i j t hi hn hj ht=>VLe.rfl⟩|(refine⟨Nat.le_refl _,rfl,fun i j hi hj=>VLe.of_eq ?_⟩;rw[X2s,if_neg (by omega)];(obtain rfl:j=0:=(by omega));rfl)|exact True.intro|(refine⟨⟨_,rfl,?_⟩,?_⟩)|exact J0a.kf rfl|(refine⟨Nat.le_refl _,rfl,fun i j hi hj=>?_⟩)|exact VLe.rfl|(refine And.intro ?_ ?_))
   rintro k x ⟨hk2,hx⟩;by_cases hxn:x<p.vars.length
   . have hfx:=hF.2 v x hvn hxn
     repeat' ((conv=>whnf);first|(refine Br.dec ?_ ?_<;>intro _<;>try omega)|(refine Ar.i64 (by omega) (by omega) ?_)|(refine Ix.nat (by omega) ?_)|(refine Ltn.mk (by omega) ?_)|(refine Opn.hdl (by omega) (show J2K _ _ _ _=p.vars.length from if_pos rfl) ?_)|(refine Chk.mk hF.1 ?_)|(refine J1j hfx rfl ⟨VLe.rfl,VLe.rfl,VLe.rfl,True.intro⟩ ?_)|(refine And.intro (Ltn.mk (by omega) (Opn.hdl (by omega) (show J2K _ _ _ _=p.vars.length from if_pos rfl) rfl)) ?_))
     all_goals (conv=>whnf)
     refine⟨p.vars.length-(x+1),x+1,by omega,⟨rfl,by omega⟩,?_⟩;refine J0c (fun _ _=>[(0,some 0),(1,some 1),(2,some 2),(3,some 3)]) ?_ ?_ rfl
     . repeat' (first|exact True.intro|(refine J0a.fn ?_)|(refine⟨⟨_,rfl,?_⟩,?_⟩)|exact J0a.kf rfl|exact J0a.loc rfl|exact J0a.vec rfl rfl rfl|(refine And.intro ?_ ?_))
     . repeat' (first|exact⟨rfl,rfl,⟨rfl,rfl,True.intro⟩,fun i hi=>rfl,fun i j t hi hn hj ht=>VLe.rfl⟩|exact Q6V _ _ _ _ _ _ _ (Nat.zero_add _) hj|exact True.intro|(refine⟨⟨_,rfl,?_⟩,?_⟩)|exact J0a.kf rfl|(refine⟨Nat.le_refl _,rfl,fun i j hi hj=>?_⟩)|exact VLe.rfl|(refine And.intro ?_ ?_))
   . have ex:x=p.vars.length:=by omega
     subst ex
     repeat' ((conv=>whnf);first|(refine Br.dec ?_ ?_<;>intro _<;>try omega)|(refine Ar.i64 (by omega) (by omega) ?_))
     all_goals (conv=>whnf)
     refine⟨g.ids.length-(v+1),v+1,by omega,⟨rfl,by omega⟩,?_⟩;refine J3c.trans (J1R (J1h (q:=3) (k:=1) (i:=v) [] rfl rfl hvn (J0n rfl) (Nat.le_of_eq (if_pos rfl)) rfl (fun j hj=>(J0j (fun e=>hj e.symm)).symm))) ?_ (J64 rfl);by_cases h1:v+1<g.ids.length
     . have e1:opn (v+1) g.ids.length 2=[(v+1,2)]:=if_pos h1;simp only[e1];refine J3c.trans ?_ (J0V (ks:=[2,3,4,5,6,7,8,9,10,11,12,13,14,15,16,17,18,19,20,21,22,23,24,25,26,27,28,29]) rfl rfl rfl h1 rfl) (J2G rfl);refine J0c (fun _ _=>[(0,some 0),(1,some 1)]) ?_ ?_ rfl
       . repeat' (first|exact True.intro|(refine J0a.fn ?_)|(refine⟨⟨_,rfl,?_⟩,?_⟩)|exact J0a.kf rfl|exact J0a.loc rfl|exact J0a.vec rfl rfl rfl|(refine And.intro ?_ ?_))
       . repeat' (first|exact⟨rfl,rfl,True.intro,fun i hi=>(J6f _ _ _).symm,fun i j t hi hn hj ht=>Q0A p g v i j t hj ht⟩|exact True.intro|(refine⟨⟨_,rfl,?_⟩,?_⟩)|exact J0a.kf rfl|(refine And.intro ?_ ?_))
     . have e1:opn (v+1) g.ids.length 2=[]:=if_neg h1;simp only[e1];refine J0c (fun _ _=>[(0,some 0),(1,some 1),(2,none)]) ?_ ?_ rfl
       . repeat' (first|exact True.intro|(refine J0a.fn ?_)|(refine⟨⟨_,rfl,?_⟩,?_⟩)|exact J0a.kf rfl|exact J0a.loc rfl|exact J0a.vec rfl rfl rfl|(refine And.intro ?_ ?_))
       . repeat' (first|exact⟨rfl,rfl,True.intro,fun i hi=>(J6f _ _ _).symm,fun i j t hi hn hj ht=>Q0A p g v i j t hj ht⟩|exact⟨1,J3r (loP p g) (v+1),by rw[Q08]⟩|exact True.intro|(refine⟨⟨_,rfl,?_⟩,?_⟩)|exact J0a.kf rfl|(refine And.intro ?_ ?_))
 . have e:opn v g.ids.length 2=[]:=if_neg hvn;have ev:v=g.ids.length:=by omega
   simp only[e]
   repeat' ((conv=>whnf);first|(refine Br.dec ?_ ?_<;>intro _<;>try omega))
   all_goals (conv=>whnf)
   exact J1A (fun _=>[(0,some 0),(1,some 1)]) _ _ ⟨rfl,rfl⟩ (J0a.vec rfl rfl rfl) (by repeat' (first|(refine⟨rfl,rfl,True.intro,fun i hi=>(if_pos (by omega)).symm,fun i j t hi hn hj ht=>VLe.rfl⟩)|exact True.intro|(refine⟨⟨_,rfl,?_⟩,?_⟩)|exact J0a.kf rfl|(refine And.intro ?_ ?_))) rfl
theorem X4K (p:Pr) (hp:J2M p) (g:G) (hg:g.valid=true):Y2m p g 61:=by
 obtain⟨f1,f2,f3,f4,f5,f6,f7⟩:=J0f hg;refine⟨by kernel_rfl,fun v x hv hx=>?_⟩;refine J0h rfl ?_;refine J0d J0b Tryz.func61 rfl hc61 hr61 rfl ?_
 repeat' ((conv=>whnf);first|(refine Ix.nat (by omega) ?_)|(refine Ix.mk 0 rfl (by omega) ?_))
 all_goals (conv=>whnf)
 exact VLe.rfl
theorem X4J (p:Pr) (hp:J2M p) (g:G) (hg:g.valid=true):Y2m p g 34:=by
 obtain⟨f1,f2,f3,f4,f5,f6,f7⟩:=J0f hg;refine⟨by kernel_rfl,fun v x hv hx=>?_⟩;refine J0h rfl ?_;refine J0d J0b Tryz.func34 rfl hc34 hr34 rfl ?_
 repeat' ((conv=>whnf);first|(refine Ix.nat (by omega) ?_)|(refine Ix.mk 0 rfl (by omega) ?_))
 all_goals (conv=>whnf)
 exact VLe.rfl
theorem Q7D (p:Pr) (hp:J2M p) (g:G) (hs:g.Small) (hg:g.valid=true):J0G Tryz.prog 27 [p.v,g.v] [] KS2 fun v own' _=>v=.tup [.vec 0 1 0 g.ids.length,.int .i64 0]/\own'=[(0,J8D p g (loP p g) [])]:=by
 have h1:=Q2K p hp g hs hg;have h2:=J4O p hp g hg;have h3:=Q04 p hp g hg _ (X4K p hp g hg);refine J1u ?_;refine J0d J0b Tryz.func27 rfl hc27 hr27 rfl ?_
 repeat' ((conv=>whnf);first|(refine Br.ff ?_)|(refine h1.go ?_)|(refine h2.go ?_)|(refine J1E [(0,some 2)] [1] (h3.mono ?_) ⟨J0a.kf rfl,J0a.fn ⟨J0a.loc rfl,True.intro⟩,True.intro⟩ (by repeat' (first|exact True.intro|(refine⟨⟨_,rfl,?_⟩,?_⟩)|exact J0a.kf rfl|(refine And.intro ?_ ?_))) rfl;rintro _ _ _ ⟨rfl,rfl⟩)|(refine Chk.mk rfl ?_))
 all_goals (conv=>whnf)
 exact J1A (fun _=>[(0,some 3)]) _ _ ⟨rfl,rfl⟩ (J0a.tup ⟨J0a.vec rfl rfl rfl,J0a.kf rfl,True.intro⟩) (by repeat' (first|(refine⟨rfl,rfl,True.intro,fun i hi=>rfl,fun i j t hi hn hj ht=>VLe.rfl⟩)|exact True.intro|(refine⟨⟨_,rfl,?_⟩,?_⟩))) rfl
theorem Q5P (p:Pr) (g:G) (k v x x' i j:Nat) (hx:x'=x) (hj:j<1) (a:Int) (ha:a=loP p g v x):VLe (J00 (J3r (J4J p g k (v*p.vars.length+x+1)) v) x' 0 [.int .i64 a] i j) (J3r (J4J p g k (v*p.vars.length+x)) v i j):=by
 obtain rfl:j=0:=by omega
 subst hx ha;apply VLe.of_eq;by_cases h:i=x'
 . subst h;have:=X2c (p:=p) (g:=g) (k:=k) (v:=v) (x:=i);simp[J00,J3r,this]
 . have:=Q4T (p:=p) (g:=g) (k:=k) (i:=v*p.vars.length+x') (v:=v) (x:=i) (by omega);simp[J00,J3r,h,this]
theorem X2d (p:Pr) (g:G) (k v x i j t:Nat) (hx:x<p.vars.length) (hj:j<p.vars.length) (hi:i≠v):VLe (J3r (J4J p g k (v*p.vars.length+x+1)) i j t) (J3r (J4J p g k (v*p.vars.length+x)) i j t):=by
 apply VLe.of_eq;have hne:i*p.vars.length+j≠v*p.vars.length+x:=fun q=>hi (by
  have a1:=congrArg (· / p.vars.length) q;simpa only[J4Z hx,J4Z hj] using a1)
 simp only[J3r];rw[Q4T hne]
theorem Q5Q (p:Pr) (g:G) (k v x x' i j:Nat) (hk:k<J0X p g) (hv:v<g.ids.length) (hxm:x<p.vars.length) (h:J95 p g k (v*p.vars.length+x+1)) (h1:dgP p g k v x+1<szX p g v x) (hx:x'=x) (hi:i<p.vars.length) (hj:j<1) (a:Int) (ha:a=J4J p g k (v*p.vars.length+x+1) v x+1) :
 VLe (J00 (J3r (J4J p g k (v*p.vars.length+x+1)) v) x' 0 [.int .i64 a] i j) (J3r (fun v x=>gI (gC (cfK p g (k+1)) v) x) v i j):=by
 obtain rfl:j=0:=by omega
 subst hx ha;apply VLe.of_eq;have:=Q9x hk hv hxm h h1 hv hi;by_cases e:i=x'
 . subst e;rw[if_pos ⟨rfl,rfl⟩] at this;simp[J00,J3r,this]
 . rw[if_neg (fun q=>e q.2)] at this;simp[J00,J3r,e,this]
theorem Q3a (p:Pr) (g:G) (k v x i j t:Nat) (hk:k<J0X p g) (hv:v<g.ids.length) (hxm:x<p.vars.length) (h:J95 p g k (v*p.vars.length+x+1)) (h1:dgP p g k v x+1<szX p g v x) (hi:i<g.ids.length) (hj:j<p.vars.length) (hne:i≠v) :
 VLe (J3r (J4J p g k (v*p.vars.length+x+1)) i j t) (J3r (fun v x=>gI (gC (cfK p g (k+1)) v) x) i j t):=by
 apply VLe.of_eq;have:=Q9x hk hv hxm h h1 hi hj;rw[if_neg (fun q=>hne q.1)] at this;simp[J3r,this]
theorem J3N (f:Nat->Nat->Nat->V) (v i j t:Nat):VLe (J3j f v (f v) i j t) (f i j t):=by
 apply VLe.of_eq;simp only[J3j];split
 . rename_i e;rw[e]
 . rfl
theorem Q5O (p:Pr) (g:G) (k v x i j t:Nat) (hk:k<J0X p g) (hv:v<g.ids.length) (hxm:x<p.vars.length) (h:J95 p g k (v*p.vars.length+x+1)) (h1:dgP p g k v x+1<szX p g v x) (hi:i<g.ids.length) (hj:j<p.vars.length) (ht:t<1) (a:Int) (ha:a=J4J p g k (v*p.vars.length+x+1) v x+1) :
 VLe (J3j (J3r (J4J p g k (v*p.vars.length+x+1))) v (J00 (J3r (J4J p g k (v*p.vars.length+x+1)) v) (0+x) 0 [.int .i64 a]) i j t) (J3r (fun v x=>gI (gC (cfK p g (k+1)) v) x) i j t):=by
 simp only[J3j];split
 . rename_i e;subst e;exact Q5Q p g k i x (0+x) j t hk hv hxm h h1 (Nat.zero_add _) hj ht a ha
 . rename_i e;exact Q3a p g k v x i j t hk hv hxm h h1 hi hj e
set_option maxHeartbeats 8000000 in
theorem X4E (p:Pr) (hp:J2M p) (g:G) (hg:g.valid=true) (k:Nat) (hk:k<J0X p g) :
 J0G Tryz.prog 29 [X0f p g,.vec 0 1 0 g.ids.length] [(0,J8D p g (fun v x=>gI (gC (cfK p g k) v) x) [])] KS.tail fun v own' _=>v=.tup []/\own'=[(0,J8D p g (fun v x=>gI (gC (cfK p g (k+1)) v) x) [])]:=by
 obtain⟨f1,f2,f3,f4,f5,f6,f7⟩:=J0f hg;have hvl:=hp.vlen;refine J1u (J7D ?_);refine J0d J0b Tryz.func29 rfl hc29 hr29 rfl ?_
 repeat' ((conv=>whnf);first|(refine Ar.i64 (by omega) (by omega) ?_)|(refine J0d J0b Tryz.func35 rfl hc35 hr35 rfl ?_)|(refine J1z ?_)|(refine Chk.mk (by kernel_rfl) ?_)|(refine J0d J0b Tryz.func69 rfl hc69 hr69 rfl ?_))
 all_goals (conv=>whnf)
 refine J0u J0b [0,1] [] [5,6,7,8,9,10,11,12,13,14,15,16,17,18,19,20,21,22,23,24,25,26,27,28,29] [3,2,1,0] (fun j:Nat=>[(3,.int .i64 ((j:Int)-1))]) (fun own j=>J1l own 0 (J8D p g (J4J p g k (j*p.vars.length)) [])) (fun m j=>m=j/\j<=g.ids.length/\J95 p g k (j*p.vars.length)) g.ids.length g.ids.length ⟨rfl,Nat.le_refl _,fun j h1 h2=>(by rw[nP] at h2;omega)⟩ rfl (fun _=>rfl) ?_ ?_
 . refine J0c (fun _ _=>[(0,some 0),(1,some 1),(2,some 2),(3,some 3)]) ?_ ?_ rfl
   . repeat' (first|exact J0a.yld rfl|exact True.intro|(refine⟨⟨_,rfl,?_⟩,?_⟩)|exact J0a.kf rfl|exact J0a.loc rfl)
   . repeat' (first|(refine J0a.fn ?_)|(refine⟨rfl,rfl,rfl,rfl,rfl,?_⟩)|exact⟨rfl,rfl,True.intro,fun i hi=>rfl,fun i j t hi hn hj ht=>VLe.of_eq (congrArg (V.int .i64) (Q9w hi hj).symm)⟩|exact True.intro|(refine⟨⟨_,rfl,?_⟩,?_⟩)|exact J0a.kf rfl|exact J0a.loc rfl|exact J0a.vec rfl rfl rfl|(refine And.intro ?_ ?_))
 rintro m j ⟨hm,hj,hfull⟩;rcases Nat.eq_zero_or_pos j with h0|h0
 . subst h0
   repeat' ((conv=>whnf);first|(refine Br.ff ?_))
   all_goals (conv=>whnf)
   have hend:=fun v x hv hx=>X56 (v:=v) (x:=x) hk (by rw[Nat.zero_mul] at hfull;exact hfull) hv hx;exact⟨_,J17.refl _,J1A (fun _=>[(0,some 0)]) _ _ ⟨rfl,rfl⟩ (J0a.kf rfl) (by repeat' (first|(refine⟨rfl,rfl,True.intro,fun i hi=>rfl,fun i j t hi hn hj ht=>VLe.of_eq (congrArg (V.int .i64) (by rw[Nat.zero_mul];exact hend i j hi hj))⟩)|exact True.intro|(refine⟨⟨_,rfl,?_⟩,?_⟩))) rfl⟩
 . obtain⟨v,rfl⟩:∃v,j=v+1:=⟨j-1,by omega⟩
   repeat' ((conv=>whnf);first|(refine Ix.mk v (by omega) (by omega) ?_)|(refine Br.dec ?_ ?_<;>intro _<;>try omega)|(refine Ar.i64 (by omega) (by omega) ?_)|(refine J0d J0b Tryz.func36 rfl hc36 hr36 rfl ?_)|(refine J1z ?_)|(refine Chk.mk (by kernel_rfl) ?_)|(refine J0d J0b Tryz.func70 rfl hc70 hr70 rfl ?_)|(refine J1f J0b rfl rfl ?_))
   all_goals (conv=>whnf)
   refine J0u J0b [0,1] [8] [9,10,11,12,13,14,15,16,17,18,19,20,21,22,23,24,25,26,27,28,29] [8,7,6,5,3,2,1,0] (fun i:Nat=>[(3,.int .i64 ((i:Int)-1))]) (fun own i=>(8,.vec (Q5q p v) 1 (J3r (J4J p g k (v*p.vars.length+i)) v))::J1l (J1l (J1l own 5 (.cells [.int .i64 v])) 0 (J8D p g (J4J p g k (v*p.vars.length+i)) [])) 0 (J8D p g (J4J p g k (v*p.vars.length+i)) [(v,8)])) (fun m i=>m=i/\i<=p.vars.length/\J95 p g k (v*p.vars.length+i)) p.vars.length p.vars.length ⟨rfl,Nat.le_refl _,by rw[Nat.add_mul,Nat.one_mul] at hfull;exact hfull⟩ rfl (fun _=>rfl) ?_ ?_
   . refine J3c.trans ?_ (J0V (ks:=[8,9,10,11,12,13,14,15,16,17,18,19,20,21,22,23,24,25,26,27,28,29]) rfl rfl rfl (show v<g.ids.length by omega) rfl) (J2G rfl);have e:(v+1)*p.vars.length=v*p.vars.length+p.vars.length:=by rw[Nat.add_mul,Nat.one_mul]
     refine J0c (fun _ _=>[(0,some 0),(1,some 1),(2,some 2),(3,some 3),(5,some 5),(6,some 6),(7,some 7)]) ?_ ?_ rfl
     . repeat' (first|exact J0a.yld rfl|exact True.intro|(refine⟨⟨_,rfl,?_⟩,?_⟩)|exact J0a.kf rfl|exact J0a.loc rfl)
     . repeat' (first|(refine J0a.fn ?_)|(refine⟨rfl,rfl,rfl,rfl,rfl,?_⟩)|exact⟨rfl,rfl,True.intro,fun i hi=>rfl,fun i j t hi hn hj ht=>by rw[e];exact VLe.rfl⟩|exact True.intro|(refine⟨⟨_,rfl,?_⟩,?_⟩)|exact J0a.kf rfl|exact J0a.int (by omega)|exact J0a.loc rfl|exact J0a.vec rfl rfl rfl|(refine And.intro ?_ ?_))
   rintro m i ⟨hm,hi,hfi⟩;rcases Nat.eq_zero_or_pos i with h1|h1
   . subst h1
     repeat' ((conv=>whnf);first|(refine Br.tt ?_)|(refine Br.ff ?_)|(refine Ar.i64 (by omega) (by omega) ?_))
     all_goals (conv=>whnf)
     refine⟨_,v,by omega,⟨rfl,by omega,by rw[Nat.add_zero] at hfi;exact hfi⟩,?_⟩;refine J3c.trans (J1R (J1h (q:=8) (k:=0) (i:=v) [] rfl rfl (show v<g.ids.length by omega) (J0n rfl) (Nat.le_refl _) rfl (fun j hj=>(J0j (fun e=>hj e.symm)).symm))) ?_ (J64 rfl);have e:v*p.vars.length+0=v*p.vars.length:=Nat.add_zero _;refine J0c (fun _ _=>[(0,some 0),(1,some 1),(2,some 2),(3,some 3)]) ?_ ?_ rfl
     . repeat' (first|exact J0a.yld rfl|exact True.intro|(refine⟨⟨_,rfl,?_⟩,?_⟩)|exact J0a.int (by omega)|exact J0a.loc rfl)
     . repeat' (first|(refine J0a.fn ?_)|(refine⟨rfl,rfl,rfl,rfl,rfl,?_⟩)|exact⟨rfl,rfl,True.intro,fun i hi=>rfl,fun i j t hi hn hj ht=>(by rw[e];exact J3N _ _ _ _ _)⟩|exact True.intro|(refine⟨⟨_,rfl,?_⟩,?_⟩)|exact J0a.kf rfl|exact J0a.loc rfl|exact J0a.vec rfl rfl rfl|(refine And.intro ?_ ?_))
   . obtain⟨x,rfl⟩:∃x,i=x+1:=⟨i-1,by omega⟩;have hxm:x<p.vars.length:=by omega
     have hlm:Q5q p v=p.vars.length:=rfl;have hvn:v<g.ids.length:=by omega
     have hval:J4J p g k (v*p.vars.length+(x+1)) v (0+x)=loP p g v x+dgP p g k v x:=by rw[Nat.zero_add,<- Nat.add_assoc];exact Q9v
     have hval':J4J p g k (v*p.vars.length+x+1) v x=loP p g v x+dgP p g k v x:=Q9v;have hsz:=J4s hp g hg v hxm;have hdl:=Q8O p g k v hxm;have hbi:=J5W hg (hp.var x hxm) (v:=v) (by omega);have hhi:(bnd g (gV p.vars x) v).2=hiP p g v x:=rfl;have hlo:(bnd g (gV p.vars x) v).1=loP p g v x:=rfl;by_cases hd:dgP p g k v x+1<szX p g v x
     . repeat' ((conv=>whnf);first|(refine Ix.mk x (by omega) (by omega) ?_)|(refine Ix.mk v (by omega) (by omega) ?_)|(refine Br.ff ?_)|(refine Br.dec ?_ ?_<;>intro _<;>try omega)|(refine Ar.i64 (by omega) (by omega) ?_)|(refine Ix.mk 1 rfl (by omega) ?_)|(refine Ltn.mk (by omega) ?_)|(refine J1f J0b rfl rfl ?_)|(refine Opn.hd (by omega) ?_))
       all_goals (conv=>whnf)
       exact⟨_,J1h (q:=8) (k:=0) (i:=v) [] rfl rfl hvn (J0n rfl) (Nat.le_refl _) rfl (fun j hj=>(J0j (fun e=>hj e.symm)).symm),J1A (fun _=>[(0,some 0)]) _ _ ⟨rfl,rfl⟩ (J0a.kf rfl) (by repeat' (first|(refine⟨rfl,rfl,True.intro,fun i hi=>rfl,fun i j t hi hn hj ht=>Q5O p g k v x i j t hk hvn hxm hfi hd hi hj ht _ (by omega)⟩)|exact True.intro|(refine⟨⟨_,rfl,?_⟩,?_⟩))) rfl⟩
     . repeat' ((conv=>whnf);first|(refine Ix.mk x (by omega) (by omega) ?_)|(refine Ix.mk v (by omega) (by omega) ?_)|(refine Br.tt ?_)|(refine Br.dec ?_ ?_<;>intro _<;>try omega)|(refine Ar.i64 (by omega) (by omega) ?_)|(refine Ix.mk 0 rfl (by omega) ?_)|(refine Ix.mk 1 rfl (by omega) ?_)|(refine Ltn.mk (by omega) ?_)|(refine J1f J0b rfl rfl ?_)|(refine Opn.hd (by omega) ?_))
       all_goals (conv=>whnf)
       have hf2:=Q8q hxm hfi (by omega);refine⟨_,x,by omega,⟨rfl,by omega,hf2⟩,?_⟩;refine J0c (fun _ _=>[(0,some 0),(1,some 1),(2,some 2),(3,some 3),(5,some 5),(6,some 6),(7,some 7),(8,some 8)]) ?_ ?_ rfl
       . repeat' (first|exact J0a.yld rfl|exact True.intro|(refine⟨⟨_,rfl,?_⟩,?_⟩)|exact J0a.int (by omega)|exact J0a.loc rfl)
       . repeat' (first|(refine J0a.fn ?_)|(refine⟨rfl,rfl,rfl,rfl,rfl,?_⟩)|exact⟨rfl,rfl,⟨rfl,rfl,True.intro⟩,fun i hi=>rfl,fun i j t hi hn hj ht=>X2d p g k v x i j t hxm hj (fun e=>by rw[e,J0n rfl] at hn;cases hn)⟩|exact Q5P p g k v x _ _ _ (Nat.zero_add _) hj _ hlo|exact True.intro|(refine⟨⟨_,rfl,?_⟩,?_⟩)|exact J0a.kf rfl|exact J0a.loc rfl|exact J0a.vec rfl rfl rfl|(refine⟨Nat.le_refl _,rfl,fun i j hi hj=>?_⟩)|(refine And.intro ?_ ?_))
theorem Q43 (p:Pr) (g:G) (k v x x' i j:Nat) (hx:x'=x) (hj:j<1) (a:Int) (ha:a=J50 p g k (v*p.vars.length+x+1) v x+dgP p g k v x):VLe (J00 (J3r (J50 p g k (v*p.vars.length+x+1)) v) x' 0 [.int .i64 a] i j) (J3r (J50 p g k (v*p.vars.length+x)) v i j):=by
 obtain rfl:j=0:=by omega
 subst hx ha;apply VLe.of_eq;by_cases h:i=x'
 . subst h;have:=Q6m (p:=p) (g:=g) (k:=k) (v:=v) (x:=i);simp[J00,J3r,this]
 . have:=Q0m (p:=p) (g:=g) (k:=k) (i:=v*p.vars.length+x') (v:=v) (x:=i) (by omega);simp[J00,J3r,h,this]
theorem Q95 (p:Pr) (g:G) (k v x i j t:Nat) (hx:x<p.vars.length) (hj:j<p.vars.length) (hi:i≠v):VLe (J3r (J50 p g k (v*p.vars.length+x+1)) i j t) (J3r (J50 p g k (v*p.vars.length+x)) i j t):=by
 apply VLe.of_eq;have hne:i*p.vars.length+j≠v*p.vars.length+x:=fun q=>hi (by
  have a1:=congrArg (· / p.vars.length) q;simpa only[J4Z hx,J4Z hj] using a1)
 simp only[J3r];rw[Q0m hne]
theorem X5N (p:Pr) (g:G) (k:Nat) (f:Nat->Nat->Int) (hf:∀v x,v<g.ids.length->x<p.vars.length->f v x=gI (gC (cfK p g k) v) x):VLe (.fz g.ids.length 1 false fun i _=>.fz (Q5q p i) 1 false (J3r f i)) (cV (cfK p g k)):=by
 refine VLe.fz (J5x p g k).symm (fun h=>h) (fun i j hi hj=>?_);refine VLe.fz ?_ (fun h=>h) (fun a b ha hb=>VLe.of_eq (congrArg (V.int .i64) (hf i a hi ha)));rw[J7y p g k hi];simp[Q5q]
set_option maxHeartbeats 8000000 in
theorem Q5l (p:Pr) (hp:J2M p) (g:G) (hs:g.Small) (hg:g.valid=true) (hn:J0X p g<=32768) (k:Nat) (hk:k<J0X p g) :
 Ret Tryz.prog 9 [p.v,g.v,.int .i64 k] (.tup [cV (cfK p g k),.int .i64 0]):=by
 obtain⟨f1,f2,f3,f4,f5,f6,f7⟩:=J0f hg;have hvl:=hp.vlen;have h1:=Q2K p hp g hs hg;have h2:=J4O p hp g hg;have h3:=Q04 p hp g hg _ (X4J p hp g hg);have h4:=Q03 p hp g hg hn;refine J0h rfl ?_;refine J0d J0b Tryz.func9 rfl hc9 hr9 rfl ?_
 repeat' ((conv=>whnf);first|(refine Br.ff ?_)|(refine Br.dec ?_ ?_<;>intro _<;>try omega)|(refine Ar.i64 (by omega) (by omega) ?_)|(refine h1.go ?_)|(refine h2.go ?_)|(refine h4.go ?_)|(refine J1E [(0,some 3)] [1] (h3.mono ?_) ⟨J0a.kf rfl,J0a.fn ⟨J0a.loc rfl,True.intro⟩,True.intro⟩ (by repeat' (first|exact True.intro|(refine⟨⟨_,rfl,?_⟩,?_⟩)|exact J0a.kf rfl|(refine And.intro ?_ ?_))) rfl;rintro _ _ _ ⟨rfl,rfl⟩)|(refine Chk.mk rfl ?_)|(refine J0d J0b Tryz.func35 rfl hc35 hr35 rfl ?_)|(refine J1z ?_)|(refine J0d J0b Tryz.func69 rfl hc69 hr69 rfl ?_))
 all_goals (conv=>whnf)
 refine J0u J0b [0,1] [] [9,10,11,12,13,14,15,16,17,18,19,20,21,22,23,24,25,26,27,28,29] [7,6,5,4,3,2,1,0] (fun j:Nat=>[(3,.int .i64 ((j:Int)-1))]) (fun own j=>J1l (J1l own 4 (J8D p g (J50 p g k (j*p.vars.length)) [])) 2 (.cells [.int .i64 (Q0l p g k (j*p.vars.length))])) (fun m j=>m=j/\j<=g.ids.length) g.ids.length g.ids.length ⟨rfl,Nat.le_refl _⟩ rfl (fun _=>rfl) ?_ ?_
 . have hst:=Q6l p g k;rw[nP] at hst;refine J0c (fun _ _=>[(0,some 0),(1,some 1),(2,some 2),(3,some 3),(4,some 4),(5,some 5),(6,some 6),(7,some 7)]) ?_ ?_ rfl
   . repeat' (first|exact J0a.yld rfl|exact True.intro|(refine⟨⟨_,rfl,?_⟩,?_⟩)|exact J0a.kf rfl|exact J0a.loc rfl)
   . repeat' (first|(refine J0a.fn ?_)|(refine⟨rfl,rfl,rfl,rfl,rfl,?_⟩)|exact⟨rfl,rfl,True.intro,fun i hi=>rfl,fun i j t hi hn hj ht=>VLe.of_eq (congrArg (V.int .i64) (Q44 hi hj).symm)⟩|exact J0a.int (by rw[hst])|exact True.intro|(refine⟨⟨_,rfl,?_⟩,?_⟩)|exact J0a.kf rfl|exact J0a.loc rfl|exact J0a.vec rfl rfl rfl|(refine And.intro ?_ ?_))
 rintro m j ⟨hm,hj⟩;rcases Nat.eq_zero_or_pos j with h0|h0
 . subst h0;have e:0*p.vars.length=0:=Nat.zero_mul _
   repeat' ((conv=>whnf);first|(refine Br.ff ?_)|(refine Len.mk (by omega) ?_))
   all_goals (conv=>whnf)
   all_goals exact VLe.tup ⟨X5N p g k _ (fun v x hv hx=>by rw[e];exact Q97 hv hx),VLe.rfl,True.intro⟩
 . obtain⟨v,rfl⟩:∃v,j=v+1:=⟨j-1,by omega⟩
   repeat' ((conv=>whnf);first|(refine Ix.mk v (by omega) (by omega) ?_)|(refine Br.dec ?_ ?_<;>intro _<;>try omega)|(refine Ar.i64 (by omega) (by omega) ?_)|(refine J0d J0b Tryz.func36 rfl hc36 hr36 rfl ?_)|(refine J1z ?_)|(refine Chk.mk (by kernel_rfl) ?_)|(refine J0d J0b Tryz.func70 rfl hc70 hr70 rfl ?_)|(refine J1f J0b rfl rfl ?_))
   all_goals (conv=>whnf)
   refine J0u J0b [0,1] [12] [13,14,15,16,17,18,19,20,21,22,23,24,25,26,27,28,29] [12,11,10,9,7,6,5,4,3,2,1,0] (fun i:Nat=>[(3,.int .i64 ((i:Int)-1))]) (fun own i=>(12,.vec (Q5q p v) 1 (J3r (J50 p g k (v*p.vars.length+i)) v))::J1l (J1l (J1l (J1l own 9 (.cells [.int .i64 v])) 2 (.cells [.int .i64 (Q0l p g k (v*p.vars.length+i))])) 4 (J8D p g (J50 p g k (v*p.vars.length+i)) [])) 4 (J8D p g (J50 p g k (v*p.vars.length+i)) [(v,12)])) (fun m i=>m=i/\i<=p.vars.length) p.vars.length p.vars.length ⟨rfl,Nat.le_refl _⟩ rfl (fun _=>rfl) ?_ ?_
   . refine J3c.trans ?_ (J0V (ks:=[12,13,14,15,16,17,18,19,20,21,22,23,24,25,26,27,28,29]) rfl rfl rfl (show v<g.ids.length by omega) rfl) (J2G rfl);have e:(v+1)*p.vars.length=v*p.vars.length+p.vars.length:=by rw[Nat.add_mul,Nat.one_mul]
     refine J0c (fun _ _=>[(0,some 0),(1,some 1),(2,some 2),(3,some 3),(4,some 4),(5,some 5),(6,some 6),(7,some 7),(9,some 9),(10,some 10),(11,some 11)]) ?_ ?_ rfl
     . repeat' (first|exact J0a.yld rfl|exact True.intro|(refine⟨⟨_,rfl,?_⟩,?_⟩)|exact J0a.kf rfl|exact J0a.loc rfl)
     . repeat' (first|(refine J0a.fn ?_)|(refine⟨rfl,rfl,rfl,rfl,rfl,?_⟩)|exact⟨rfl,rfl,True.intro,fun i hi=>rfl,fun i j t hi hn hj ht=>by rw[e];exact VLe.rfl⟩|exact J0a.int (by rw[e])|exact True.intro|(refine⟨⟨_,rfl,?_⟩,?_⟩)|exact J0a.kf rfl|exact J0a.int (by omega)|exact J0a.loc rfl|exact J0a.vec rfl rfl rfl|(refine And.intro ?_ ?_))
   rintro m i ⟨hm,hi⟩;rcases Nat.eq_zero_or_pos i with h1|h1
   . subst h1
     repeat' ((conv=>whnf);first|(refine Br.tt ?_)|(refine Br.ff ?_)|(refine Ar.i64 (by omega) (by omega) ?_))
     all_goals (conv=>whnf)
     refine⟨_,v,by omega,⟨rfl,by omega⟩,?_⟩;refine J3c.trans (J1R (J1h (q:=12) (k:=4) (i:=v) [] rfl rfl (show v<g.ids.length by omega) (J0n rfl) (Nat.le_refl _) rfl (fun j hj=>(J0j (fun e=>hj e.symm)).symm))) ?_ (J64 rfl);have e:v*p.vars.length+0=v*p.vars.length:=Nat.add_zero _;refine J0c (fun _ _=>[(0,some 0),(1,some 1),(2,some 2),(3,some 3),(4,some 4),(5,some 5),(6,some 6),(7,some 7)]) ?_ ?_ rfl
     . repeat' (first|exact J0a.yld rfl|exact True.intro|(refine⟨⟨_,rfl,?_⟩,?_⟩)|exact J0a.int (by omega)|exact J0a.loc rfl)
     . repeat' (first|(refine J0a.fn ?_)|(refine⟨rfl,rfl,rfl,rfl,rfl,?_⟩)|exact⟨rfl,rfl,True.intro,fun i hi=>rfl,fun i j t hi hn hj ht=>(by rw[e];exact J3N _ _ _ _ _)⟩|exact J0a.int (by rw[e])|exact True.intro|(refine⟨⟨_,rfl,?_⟩,?_⟩)|exact J0a.kf rfl|exact J0a.loc rfl|exact J0a.vec rfl rfl rfl|(refine And.intro ?_ ?_))
   . obtain⟨x,rfl⟩:∃x,i=x+1:=⟨i-1,by omega⟩;have hxm:x<p.vars.length:=by omega
     have hlm:Q5q p v=p.vars.length:=rfl;have hvn:v<g.ids.length:=by omega
     have hval:J50 p g k (v*p.vars.length+(x+1)) v (0+x)=loP p g v x:=by rw[Nat.zero_add,J50,if_pos (by omega)];simp
     have hval':J50 p g k (v*p.vars.length+x+1) v x=loP p g v x:=by rw[J50,if_pos (by omega)];simp
     have hsz:=J4s hp g hg v hxm;have hdl:=Q8O p g k v hxm;have hbi:=J5W hg (hp.var x hxm) (v:=v) (by omega);have hhi:(bnd g (gV p.vars x) v).2=hiP p g v x:=rfl;have hlo:(bnd g (gV p.vars x) v).1=loP p g v x:=rfl;have hrem:((Q0l p g k (v*p.vars.length+(x+1)):Nat):Int).tmod ((bnd g (gV p.vars x) v).2-(bnd g (gV p.vars x) v).1+1)=(dgP p g k v x:Nat):=by
      rw[hhi,hlo,<- hsz,wrem (by have:=J23 p g 0;rw[szX];omega),<- X3N hxm];rfl
     have hquo:((Q0l p g k (v*p.vars.length+(x+1)):Nat):Int).tdiv ((bnd g (gV p.vars x) v).2-(bnd g (gV p.vars x) v).1+1)=(Q0l p g k (v*p.vars.length+x):Nat):=by
      rw[hhi,hlo,<- hsz,<- Q96 hvn hxm];rfl
     have hkl:Q0l p g k (v*p.vars.length+(x+1))<=k:=Nat.div_le_self _ _;have hkl2:Q0l p g k (v*p.vars.length+x)<=k:=Nat.div_le_self _ _
     repeat' ((conv=>whnf);first|(refine Ix.mk x (by omega) (by omega) ?_)|(refine Ix.mk v (by omega) (by omega) ?_)|(refine Sv.mk _ hrem.symm ?_)|(refine Ar.i64 (by rw[hquo];omega) (by rw[hquo];omega) ?_;rw[hquo])|(refine Br.tt ?_)|(refine Br.dec ?_ ?_<;>intro _<;>try omega)|(refine Ar.i64 (by omega) (by omega) ?_)|(refine Nz.mk (by omega) ?_)|(refine Ix.mk 0 rfl (by omega) ?_)|(refine Ix.mk 1 rfl (by omega) ?_)|(refine Ltn.mk (by omega) ?_)|(refine J1f J0b rfl rfl ?_)|(refine Opn.hd (by omega) ?_))
     all_goals (conv=>whnf)
     refine⟨_,x,by omega,⟨rfl,by omega⟩,?_⟩;refine J0c (fun _ _=>[(0,some 0),(1,some 1),(2,some 2),(3,some 3),(4,some 4),(5,some 5),(6,some 6),(7,some 7),(9,some 9),(10,some 10),(11,some 11),(12,some 12)]) ?_ ?_ rfl
     . repeat' (first|exact J0a.yld rfl|exact True.intro|(refine⟨⟨_,rfl,?_⟩,?_⟩)|exact J0a.int (by omega)|exact J0a.loc rfl)
     . repeat' (first|(refine J0a.fn ?_)|(refine⟨rfl,rfl,rfl,rfl,rfl,?_⟩)|exact⟨rfl,rfl,⟨rfl,rfl,True.intro⟩,fun i hi=>rfl,fun i j t hi hn hj ht=>Q95 p g k v x i j t hxm hj (fun e=>by rw[e,J0n rfl] at hn;cases hn)⟩|exact Q43 p g k v x _ _ _ (Nat.zero_add _) hj _ (by omega)|exact True.intro|(refine⟨⟨_,rfl,?_⟩,?_⟩)|exact J0a.kf rfl|exact J0a.loc rfl|exact J0a.vec rfl rfl rfl|(refine⟨Nat.le_refl _,rfl,fun i j hi hj=>?_⟩)|(refine And.intro ?_ ?_))
def Q2q (p:Pr) (g:G):Nat->Nat->Nat->V:=fun v x _=>.int .i64 (plP p g v x:Nat)
def plV (p:Pr) (g:G):V:=.fz g.ids.length 1 false fun v _=>.fz p.vars.length 1 false (Q2q p g v)
def bP (p:Pr) (g:G) (kd:Int):V:=.fe 1 5 (tab [[mvP p g,.fz g.ports.length 1 false (X3L g),.int .i64 kd,X0f p g,plV p g]]) 0 0
def X6i (m j:Nat):Nat->Nat:=fun i=>if i<j then 0 else m
def X69 (j k:Nat):List (Nat×Nat):=if 0<j then[(j-1,k)] else[]
def Q0G (p:Pr) (g:G) (v i:Nat):Nat->Nat->V:=fun x _=>if x<i then .int .i64 0 else .int .i64 (plP p g v x:Nat)
theorem Q6U (p:Pr) (g:G) (v x x' i j:Nat) (hx:x'=x) (hj:j<1) (a:Int) (ha:a=(plP p g v x:Nat)):VLe (J00 (Q0G p g v (x+1)) x' 0 [.int .i64 a] i j) (Q0G p g v x i j):=by
 obtain rfl:j=0:=by omega
 subst hx ha;apply VLe.of_eq;by_cases h:i=x'
 . subst h;simp[J00,Q0G]
 . have h1:(i<x'+1)=(i<x'):=by simp;omega
   simp[J00,Q0G,h,h1]
theorem Q38 (m v i:Nat):J2K (X6i m (v+1)) v m i=X6i m v i:=by
 simp only[J2K,X6i];by_cases h:i=v
 . rw[if_pos h,if_neg (by omega)]
 . rw[if_neg h];by_cases h2:i<v
   . rw[if_pos h2,if_pos (by omega)]
   . rw[if_neg h2,if_neg (by omega)]
theorem J8f (p:Pr) (g:G) (v i j t:Nat):VLe (J3j (Q2q p g) v (Q0G p g v 0) i j t) (Q2q p g i j t):=by
 apply VLe.of_eq;simp only[J3j];split
 . rename_i e;subst e;simp[Q0G,Q2q]
 . rfl
set_option maxHeartbeats 8000000 in
theorem Q5K (p:Pr) (hp:J2M p) (g:G) (hs:g.Small) (hg:g.valid=true) (kd:Int) (hn:J0X p g<=32768) :
 Ret Tryz.prog 26 [p.v,g.v,.int .i64 kd] (bP p g kd):=by
 obtain⟨f1,f2,f3,f4,f5,f6,f7⟩:=J0f hg;have hvl:=hp.vlen;have h1:=X0O p hp g hg;have h2:=Q7w g hs hg;have h3:=J4O p hp g hg;refine J0h rfl ?_;refine J0d J0b Tryz.func26 rfl hc26 hr26 rfl ?_
 repeat' ((conv=>whnf);first|(refine Ar.i64 (by omega) (by omega) ?_)|(refine Bd.nat (by omega) ?_)|(refine Len.mk (by omega) ?_)|(refine MkS.vec ?_)|(refine h1.go ?_)|(refine h2.go ?_)|(refine h3.go ?_)|(refine And.intro rfl ?_))
 all_goals (conv=>whnf)
 refine J0u J0b [7] [4] [5,6,7,8,9,10,11,12,13,14,15,16,17,18,19,20,21,22,23,24,25,26,27,28,29] [4,3,2,1,0] (fun j:Nat=>[(8,.int .i64 (Mx.pr (szP p g) (j*p.vars.length) (nP p g-j*p.vars.length):Nat)),(9,.int .i64 ((j:Int)-1))])
  (fun own j=>(4,.vec (if 0<j then X6i p.vars.length j (j-1) else 0) 1 (Q2q p g (j-1)))::J1l (J1l own 3 (.fam g.ids.length 1 (X6i p.vars.length j) (Q2q p g) [])) 3 (.fam g.ids.length 1 (X6i p.vars.length j) (Q2q p g) (X69 j 4))) (fun m j=>m=j/\j<=g.ids.length) g.ids.length g.ids.length ⟨rfl,Nat.le_refl _⟩ rfl (fun _=>rfl) ?_ ?_
 . have e:X69 g.ids.length 4=[(g.ids.length-1,4)]:=if_pos (by omega);simp only[e,if_pos (show 0<g.ids.length by omega)];refine J3c.trans ?_ (J0V (ks:=[4,5,6,7,8,9,10,11,12,13,14,15,16,17,18,19,20,21,22,23,24,25,26,27,28,29]) rfl rfl rfl (by omega) rfl) (J2G rfl);have e1:nP p g-g.ids.length*p.vars.length=0:=Nat.sub_self _;refine J0c (fun _ _=>[(0,some 0),(1,some 1),(2,some 2),(3,some 3)]) ?_ ?_ rfl
   . repeat' (first|exact J0a.int (by rw[e1];rfl)|exact True.intro|(refine⟨⟨_,rfl,?_⟩,?_⟩)|exact J0a.kf rfl|exact J0a.loc rfl)
   . repeat' (first|exact⟨rfl,rfl,rfl,fun i hi=>⟨rfl,if_pos hi⟩⟩|exact True.intro|(refine⟨⟨_,rfl,?_⟩,?_⟩)|exact J0a.kf rfl|exact J0a.vec rfl rfl rfl|(refine And.intro ?_ ?_))
 rintro m j ⟨hm,hj⟩;rcases Nat.eq_zero_or_pos j with h0|h0
 . subst h0
   repeat' ((conv=>whnf);first|(refine Br.ff ?_)|(refine Len.mk (by omega) ?_))
   all_goals (conv=>whnf)
   refine X2k (fun a b ha hb=>?_);obtain rfl:a=0:=by omega
   have hb:b<5:=hb;rcases b with _|_|_|_|_|b
   . exact VLe.rfl
   . exact VLe.rfl
   . exact VLe.rfl
   . exact VLe.rfl
   . refine VLe.fz rfl (fun h=>h) (fun i j hi hj=>?_);exact VLe.fz (if_neg (by omega)) (fun h=>h) (fun _ _ _ _=>VLe.rfl)
   . omega
 . obtain⟨v,rfl⟩:∃v,j=v+1:=⟨j-1,by omega⟩;have e:X69 (v+1) 4=[(v,4)]:=if_pos (by omega);have ev:v+1-1=v:=rfl;simp only[e,ev,if_pos (Nat.succ_pos v)]
   repeat' ((conv=>whnf);first|(refine Ix.mk v (by omega) (by omega) ?_)|(refine Br.dec ?_ ?_<;>intro _<;>try omega)|(refine Ar.i64 (by omega) (by omega) ?_)|(refine Bd.nat (by omega) ?_)|(refine Len.mk (by omega) ?_)|(refine Ltn.mk (by omega) ?_)|(refine MkS.vec ?_)|(refine J11.hd (by omega) ?_))
   all_goals (conv=>whnf)
   have hvn:v<g.ids.length:=by omega
   refine J0u J0b [7,9] [] [6,7,8,9,10,11,12,13,14,15,16,17,18,19,20,21,22,23,24,25,26,27,28,29] [5,4,3,2,1,0] (fun i:Nat=>[(8,.int .i64 (Mx.pr (szP p g) (v*p.vars.length+i) (nP p g-(v*p.vars.length+i)):Nat)),(10,.int .i64 ((i:Int)-1))])
    (fun own i=>J1l own 5 (.vec p.vars.length 1 (Q0G p g v i))) (fun m i=>m=i/\i<=p.vars.length) p.vars.length p.vars.length ⟨rfl,Nat.le_refl _⟩ rfl (fun _=>rfl) ?_ ?_
   . have e2:(v+1)*p.vars.length=v*p.vars.length+p.vars.length:=by rw[Nat.add_mul,Nat.one_mul]
     refine J0c (fun _ _=>[(0,some 0),(1,some 1),(2,some 2),(3,some 3),(4,some 4),(5,some 5)]) ?_ ?_ rfl
     . repeat' (first|exact J0a.int (by rw[e2])|exact True.intro|(refine⟨⟨_,rfl,?_⟩,?_⟩)|exact J0a.kf rfl|exact J0a.loc rfl)
     . repeat' (first|exact⟨rfl,rfl,⟨rfl,rfl,True.intro⟩,fun i hi=>rfl,fun i j t hi hn hj ht=>VLe.rfl⟩|(refine⟨Nat.le_refl _,rfl,fun i j hi hj=>VLe.of_eq ?_⟩;rw[Q0G,if_pos hi];(obtain rfl:j=0:=(by omega));rfl)|exact True.intro|(refine⟨⟨_,rfl,?_⟩,?_⟩)|exact J0a.kf rfl|exact J0a.vec rfl rfl rfl|(refine⟨Nat.le_refl _,rfl,fun i j hi hj=>?_⟩)|exact VLe.rfl|(refine And.intro ?_ ?_))
   rintro m i ⟨hm,hi⟩;rcases Nat.eq_zero_or_pos i with h1|h1
   . subst h1
     repeat' ((conv=>whnf);first|(refine Br.ff ?_)|(refine Ar.i64 (by omega) (by omega) ?_))
     all_goals (conv=>whnf)
     refine⟨_,v,by omega,⟨rfl,by omega⟩,?_⟩;refine J3c.trans (J1R (J1h (q:=5) (k:=3) (i:=v) [] rfl rfl hvn (J0n rfl) (Nat.le_of_eq (if_pos rfl)) rfl (fun j hj=>(J0j (fun e=>hj e.symm)).symm))) ?_ (J64 rfl);have e0:v*p.vars.length+0=v*p.vars.length:=Nat.add_zero _;rcases Nat.eq_zero_or_pos v with h2|h2
     . subst h2;have e1:X69 0 4=[]:=if_neg (by omega);simp only[e1,if_neg (Nat.lt_irrefl 0)];refine J0c (fun _ _=>[(0,some 0),(1,some 1),(2,some 2),(3,some 3),(4,none)]) ?_ ?_ rfl
       . repeat' (first|exact J0a.int (by rw[e0])|exact True.intro|(refine⟨⟨_,rfl,?_⟩,?_⟩)|exact J0a.kf rfl|exact J0a.loc rfl)
       . repeat' (first|exact⟨rfl,rfl,True.intro,fun i hi=>(Q38 _ _ _).symm,fun i j t hi hn hj ht=>J8f p g 0 i j t⟩|exact True.intro|(refine⟨⟨_,rfl,?_⟩,?_⟩)|exact J0a.kf rfl|exact J0a.vec rfl rfl rfl|(refine⟨⟨_,_,rfl⟩,?_⟩)|(refine And.intro ?_ ?_))
     . have e1:X69 v 4=[(v-1,4)]:=if_pos h2;simp only[e1,if_pos h2];refine J3c.trans ?_ (J0V (ks:=[4,5,6,7,8,9,10,11,12,13,14,15,16,17,18,19,20,21,22,23,24,25,26,27,28,29]) rfl rfl rfl (show v-1<g.ids.length by omega) rfl) (J2G rfl);refine J0c (fun _ _=>[(0,some 0),(1,some 1),(2,some 2),(3,some 3)]) ?_ ?_ rfl
       . repeat' (first|exact J0a.int (by rw[e0])|exact True.intro|(refine⟨⟨_,rfl,?_⟩,?_⟩)|exact J0a.int (by omega)|exact J0a.loc rfl)
       . repeat' (first|exact⟨rfl,rfl,True.intro,fun i hi=>(Q38 _ _ _).symm,fun i j t hi hn hj ht=>J8f p g v i j t⟩|exact True.intro|(refine⟨⟨_,rfl,?_⟩,?_⟩)|exact J0a.kf rfl|exact J0a.vec rfl rfl rfl|(refine And.intro ?_ ?_))
   . obtain⟨x,rfl⟩:∃x,i=x+1:=⟨i-1,by omega⟩;have hxm:x<p.vars.length:=by omega
     have hix:=J7V hvn hxm;have hb:=J5W hg (hp.var x hxm) (v:=v) (by omega);have hsz:=J4s hp g hg v hxm;have hst:=Q7d p g hix;have hle:=X4p p g (Nat.le_of_lt hix);have hle2:=X4p p g (show v*p.vars.length+(x+1)<=nP p g from hix);rw[J4k p g hxm] at hst;have hmul:((Mx.pr (szP p g) (v*p.vars.length+(x+1)) (nP p g-(v*p.vars.length+(x+1))):Nat):Int)*((bnd g (gV p.vars x) v).2-(bnd g (gV p.vars x) v).1+1)=(Mx.pr (szP p g) (v*p.vars.length+x) (nP p g-(v*p.vars.length+x)):Nat):=by
      rw[hst,Int.natCast_mul,hsz,Int.mul_comm];rfl
     repeat' ((conv=>whnf);first|(refine Ix.mk x (by omega) (by omega) ?_)|(refine Ix.mk v (by omega) (by omega) ?_)|(refine Ar.i64 (by rw[hmul];omega) (by rw[hmul];omega) ?_;rw[hmul])|(refine Br.dec ?_ ?_<;>intro _<;>try omega)|(refine Ar.i64 (by omega) (by omega) ?_)|(refine Ix.mk 0 rfl (by omega) ?_)|(refine Ix.mk 1 rfl (by omega) ?_)|(refine Ltn.mk (by omega) ?_)|(refine Opn.hdl (by omega) (show J2K _ _ _ _=p.vars.length from if_pos rfl) ?_))
     all_goals (conv=>whnf)
     refine⟨_,x,by omega,⟨rfl,by omega⟩,?_⟩;refine J0c (fun _ _=>[(0,some 0),(1,some 1),(2,some 2),(3,some 3),(4,some 4),(5,some 5)]) ?_ ?_ rfl
     . repeat' (first|exact True.intro|(refine⟨⟨_,rfl,?_⟩,?_⟩)|exact J0a.kf rfl|exact J0a.int (by omega)|exact J0a.loc rfl)
     . repeat' (first|exact⟨rfl,rfl,⟨rfl,rfl,True.intro⟩,fun i hi=>rfl,fun i j t hi hn hj ht=>VLe.rfl⟩|exact Q6U _ _ _ _ _ _ _ (Nat.zero_add _) hj _ rfl|exact True.intro|(refine⟨⟨_,rfl,?_⟩,?_⟩)|exact J0a.kf rfl|exact J0a.vec rfl rfl rfl|(refine⟨Nat.le_refl _,rfl,fun i j hi hj=>?_⟩)|exact VLe.rfl|(refine And.intro ?_ ?_))
abbrev cF (c:Cf):Nat->Nat->Int:=fun v x=>gI (gC c v) x
theorem Q2M {p:Pr} {g:G} {c:Cf} (hc:J1G p g c) (F:Nat->Nat->Nat->V) (hF:∀i j,VLe (F i j 0) (J3r (cF c) i j 0)):VLe (.fz g.ids.length 1 false fun i _=>.fz (Q5q p i) 1 false (F i)) (cV c):=by
 refine VLe.fz hc.len.symm (fun h=>h) (fun i j hi hj=>?_);refine VLe.fz ?_ (fun h=>h) (fun a b ha hb=>?_)
 . rw[hc.row i (by rw[hc.len];exact hi)];rfl
 . obtain rfl:b=0:=by omega
   exact hF i a
theorem X36 (c:Cf) (v i j:Nat):VLe (J3j (J3r (cF c)) v (J3r (cF c) v) i j 0) (J3r (cF c) i j 0):=J3N _ _ _ _ _
set_option maxHeartbeats 8000000 in
theorem X0P (p:Pr) (hp:J2M p) (g:G) (hg:g.valid=true) (c:Cf) (hc:J1G p g c) (v:Nat) (hv:v<g.ids.length) (r:Nat) (hr:r<p.rules.length) :
 J0G Tryz.prog 63 [mvP p g,.vec 0 1 0 g.ids.length,.int .i64 v,.int .i64 r] [(0,J8D p g (cF c) [])] KS.tail fun X own' _=>X=.vec 1 1 0 p.vars.length/\own'=[(1,.vec p.vars.length 1 (vI (J3D p g c v r))),(0,J8D p g (cF c) [])]:=by
 obtain⟨f1,f2,f3,f4,f5,f6,f7⟩:=J0f hg;have hcl:=hc.len;have hrow:=hc.row v (by omega);have hvl:=hp.vlen;have hsl:=hp.slen r hr;have hlm:Q5q p v=p.vars.length:=rfl;refine J1u (J7D ?_);refine J7E 28 0 v rfl rfl hv rfl ?_;show J0G Tryz.prog _ _ [(28,.vec (Q5q p v) 1 (J3r (cF c) v)),(0,J8D p g (cF c) [(v,28)])] [1,2,3,4,5,6,7,8,9,10,11,12,13,14,15,16,17,18,19,20,21,22,23,24,25,26,27,29] _;refine J0d J0b Tryz.func63 rfl hc63 hr63 rfl ?_
 repeat' ((conv=>whnf);first|(refine Ix.nat (by omega) ?_)|(refine Len.mk (by omega) ?_)|(refine Ltn.mk (by omega) ?_)|(refine Opn.hd (by omega) ?_))
 all_goals (conv=>whnf)
 refine J0u J0b [0,1,2,9,26,27] [] [2,3,4,5,6,7,8,9,10,11,12,13,14,15,16,17,18,19,20,21,22,23,24,25,26,27,29] [1,28,0] (fun j:Nat=>[(28,.int .i64 j)]) (fun own j=>J1l own 1 (.vec (Q5q p v) 1 (vI (X2v p g c v ((gRl p.rules r).sets.take j))))) (fun m j=>m=(gRl p.rules r).sets.length-j/\j<=(gRl p.rules r).sets.length) (gRl p.rules r).sets.length 0 ⟨rfl,Nat.zero_le _⟩ rfl (fun _=>rfl) ?_ ?_
 . refine J0c (fun _ _=>[(0,some 0),(1,some 1),(28,some 28)]) ?_ ?_ rfl
   . repeat' (first|exact True.intro|(refine⟨⟨_,rfl,?_⟩,?_⟩)|exact J0a.kf rfl|exact J0a.vec rfl rfl rfl)
   . repeat' (first|exact⟨rfl,rfl,⟨rfl,rfl,True.intro⟩,fun i hi=>rfl,fun i j t hi hn hj ht=>VLe.rfl⟩|exact VLe.of_eq (by rw[J0v,Nat.zero_add];rfl)|exact True.intro|(refine⟨⟨_,rfl,?_⟩,?_⟩)|(refine⟨Nat.le_refl _,rfl,fun i j hi hj=>?_⟩)|exact VLe.rfl)
 rintro m j ⟨hm,hj⟩;have hpl:=J9p p g c v ((gRl p.rules r).sets.take j);by_cases hjl:j<(gRl p.rules r).sets.length
 . obtain⟨s1,s2,s3⟩:=hp.set r hr j hjl;simp only[Tm.okB,Bool.and_eq_true,decide_eq_true_eq] at s3;have hval:=Q4V p.pg g hg (hc.fit hp hg) v (by omega) (gS (gRl p.rules r).sets j).2 s3.2 s3.1;have hbr:=X1Z (gV p.vars (gS (gRl p.rules r).sets j).1.toNat).kind (bnd g (gV p.vars (gS (gRl p.rules r).sets j).1.toNat) v).1 (bnd g (gV p.vars (gS (gRl p.rules r).sets j).1.toNat) v).2 ((gS (gRl p.rules r).sets j).2.sem g c v (-1))
   repeat' ((conv=>whnf);first|(refine Br.dec ?_ ?_<;>intro _<;>try omega)|(refine Ar.i64 (by omega) (by omega) ?_)|(refine Ix.nat (by omega) ?_)|(refine Ix.int (by omega) (by omega) ?_)|(refine Ltn.mk (by omega) ?_)|(refine J1j hval rfl ⟨Nat.le_refl _,Nat.le_refl _,VLe.rfl,Q2M hc _ (fun i j=>X36 c v i j),VLe.rfl,VLe.rfl,True.intro⟩ ?_)|(refine hbr.go ?_)|(refine And.intro rfl ?_))
   all_goals (conv=>whnf)
   refine⟨(gRl p.rules r).sets.length-(j+1),j+1,by omega,⟨rfl,by omega⟩,?_⟩;simp only[X48 _ j hjl,Q7b];refine J0c (fun _ _=>[(0,some 0),(1,some 1),(28,some 28)]) ?_ ?_ rfl
   . repeat' (first|exact True.intro|(refine⟨⟨_,rfl,?_⟩,?_⟩)|exact J0a.kf rfl|exact J0a.vec rfl rfl rfl)
   . repeat' (first|exact⟨rfl,rfl,⟨rfl,rfl,True.intro⟩,fun i hi=>rfl,fun i j t hi hn hj ht=>VLe.rfl⟩|exact⟨Nat.le_refl _,rfl,fun i t hi ht=>by simp only[Nat.zero_add];exact Q9U _ _ _ _ _ (by rw[J9p];omega) ht⟩|exact True.intro|(refine⟨⟨_,rfl,?_⟩,?_⟩)|(refine⟨Nat.le_refl _,rfl,fun i j hi hj=>?_⟩)|exact VLe.rfl)
 . repeat' ((conv=>whnf);first|(refine Br.dec ?_ ?_<;>intro _<;>try omega))
   all_goals (conv=>whnf)
   have et:(gRl p.rules r).sets.take j=(gRl p.rules r).sets:=List.take_of_length_le (by omega);exact⟨_,J1h (q:=28) (k:=0) (i:=v) [] rfl rfl hv (J0n rfl) (Nat.le_refl _) rfl (fun j hj=>(J0j (fun e=>hj e.symm)).symm),J1A (fun _=>[(1,some 1),(0,some 0)]) _ _ ⟨rfl,rfl⟩ (J0a.vec rfl rfl rfl) (by repeat' (first|(refine⟨rfl,rfl,True.intro,fun i hi=>rfl,fun i j t hi hn hj ht=>J3N _ _ _ _ _⟩)|(refine⟨Nat.le_refl _,rfl,fun i j hi hj=>(by rw[et];exact VLe.rfl)⟩)|exact True.intro|(refine⟨⟨_,rfl,?_⟩,?_⟩))) rfl⟩
end Go.Proofs.YtmifmchinfhbnaaGreatDoor
namespace Go.Plain
abbrev St:=Nat->Bool
structure Adj (n:Nat) (a:Nat->Nat->Bool):Prop where
 sym:∀u v,u<n->v<n->a u v=true->a v u=true
 irr:∀v,v<n->a v v=false
 rng:∀u v,u<n->a u v=true->v<n
def nbM (n:Nat) (a:Nat->Nat->Bool) (m:St) (v:Nat):Bool:=(List.range n).any fun u=>a v u&&m u
def enI (n:Nat) (a:Nat->Nat->Bool) (m:St) (v:Nat):Bool:=match m v with|true=>nbM n a m v|false=>!nbM n a m v
def stI (s m:St):St:=fun v=>match s v with|true=>!m v|false=>m v
variable {n:Nat} {a:Nat->Nat->Bool} {m s:St}
def left (n:Nat) (a:Nat->Nat->Bool) (m p s:St):St:=fun v=>p v&&!s v&&enI n a (stI s m) v
end Go.Plain
namespace Go.Proofs.YtmifmchinfhbnaaGreatDoor
open Go.Eng
set_option maxRecDepth 100000
set_option linter.unusedVariables false
theorem J67 (b:Bool):(J3g b≠0)↔b=true:=by cases b<;>simp[J3g]
theorem X02 (b:Bool):(J3g b=0)↔b=false:=by cases b<;>simp[J3g]
abbrev adN (g:G):Nat->Nat->Bool:=adj g
theorem Q3b {g:G} (hg:g.valid=true):Go.Plain.Adj g.ids.length (adN g):=by
 obtain⟨f1,f2,f3,f4,f5,f6,f7⟩:=J0f hg;refine⟨fun u v hu hv h=>Q9y hg (by omega) h,fun v hv=>Q9z hg (by omega),fun u v hu h=>?_⟩;obtain⟨l,hl,e⟩:=J3b.1 h;have:=(J0B.1 (f6 u (by omega))).1 l hl;omega
end Go.Proofs.YtmifmchinfhbnaaGreatDoor
namespace Go.Proofs.YtmifmchinfhbnaaGreatDoor
open Go.Eng Go.Plain
set_option maxRecDepth 100000
set_option linter.unusedVariables false
theorem Q2S {s n:Nat} (h0:s≠0) (hs:s<2 ^ n):1<=cnt s n:=by
 apply Classical.byContradiction;intro hc;apply h0;have hz:cnt s n=0:=by omega
 have key:∀n,cnt s n=0->∀i,i<n->s.testBit i=false:=by
  intro n
  induction n with
  | zero=>intro _ i hi;omega
  | succ n ih =>
    intro h i hi;rw[cnt] at h;cases e:s.testBit n with
    | true=>rw[e] at h;simp at h
    | false =>
      rw[e] at h;by_cases q:i=n
      . subst q;exact e
      . exact ih (by simpa using h) i (by omega)
 refine Nat.eq_of_testBit_eq fun i=>?_;rw[Nat.zero_testBit];by_cases hi:i<n
 . exact key n hz i hi
 . exact Nat.testBit_lt_two_pow (Nat.lt_of_lt_of_le hs (Nat.pow_le_pow_right (by omega) (by omega)))
end Go.Proofs.YtmifmchinfhbnaaGreatDoor
namespace Go.Proofs.YtmifmchinfhbnaaGreatDoor
open Go.Eng Go.Plain
set_option maxRecDepth 100000
set_option linter.unusedVariables false
set_option linter.unusedSectionVars false
section
variable {p:Pr} (hp:J2M p) {g:G} (hg:g.valid=true) {kd:Int} (hk:dk kd=true) {leg:Cf->Bool} {R M:Int} {Inv:Cf->Cnt->Prop} (hS:Srv p g kd leg R M Inv) (he:∀c,(chs g kd (enN p g c)).2=0)
include hp hg hk he
theorem J9f {k s:Nat} (hs:s∈(chs g kd (enN p g (cfK p g k))).1):J7L p g kd (cfK p g k) s:=by
 have h32:=Q1z p hg (cfK p g k);have h24:=Q5D p hg (cfK p g k);have h1:=(J7x hk h32 (J48 h32 s hs) (he _)).1 hs;obtain⟨a,b,c⟩:=J2c.1 h1;have hpt:=(J1T (J48 h32 s hs)).1 b;exact⟨a,hpt,c,Nat.lt_of_le_of_lt hpt.le h24⟩
theorem J91 {k:Nat} {a:Nat×Nat} (ha:a∈(J4l p g kd).ar k):J7L p g kd (cfK p g k) a.1/\a.2=rkC p g (J0A p g (cfK p g k) a.1)/\J1G p g (J0A p g (cfK p g k) a.1):=by
 have ha:a∈J7Y p g kd k:=ha;rw[J7Y] at ha;obtain⟨s,hs,rfl⟩:=List.mem_map.1 ha;have h:=J9f hp hg hk he hs;exact⟨h,rfl,J1s hp hg (J1q hp hg k) h.part⟩
theorem X26 {k:Nat} (h0:enN p g (cfK p g k)≠0):(chs g kd (enN p g (cfK p g k))).1≠[] :=
 List.length_pos_iff.1 ((Q4F hg hk (Q1z p hg _) (J9L p hg _) (he _)).2 h0)
include hS
theorem Q2j {L:List Nat} (hL:An.Ord (J0X p g) (J4l p g kd).to (J3G p g leg) L):∀k,k<J0X p g->k∈L :=
 X4u hp hg hS (fun k _ s hs=>J9f hp hg hk he hs) (fun k _ h0=>X26 hp hg hk he h0) hL (fun c s hc hs=>J1s hp hg hc hs.part)
theorem Q47 {k:Nat} (hl:J3G p g leg k=true) {a:Nat×Nat} (ha:a∈(J4l p g kd).ar k):J3G p g leg a.2=true:=by
 obtain⟨h1,h2,h3⟩:=J91 hp hg hk he ha;rw[h2,J3G,Q1J hp hg h3];exact hS.closed _ _ (J1q hp hg k) hl h1
theorem X6H:RQ (J4l p g kd) (J3G p g leg) (X2f p g R Inv):=by
 refine⟨fun k pd hk' hl n hi hpd=>?_,fun k pd hk' hl=>X2t hp hg hS hl,fun k pd a v hk' hl ha hl' hv=>?_,fun k pd a b h1 h2=>X6T h1 h2⟩
 . have:=X2t hp hg hS hl n hi hpd;omega
 . obtain⟨h1,h2,h3⟩:=J91 hp hg hk he ha;obtain⟨s,t⟩:=a;simp only at h1 h2 h3 hl' hv;subst h2;exact X4m hp hg hS hl h1 h3 hl' hv
theorem X6J:MQ (J4l p g kd) (J3G p g leg) (X3w p g M Inv):=by
 refine⟨fun k hk' hl hM n hi=>?_,fun k a v hk' hl ha h1 h2=>?_,fun k a b h1 h2=>X7o h1 h2⟩
 . have hne:=X26 hp hg hk he (k:=k) (hS.en _ (J1q hp hg k) hl);obtain⟨s,hs⟩:=List.exists_mem_of_ne_nil _ hne;have:=hS.moves hM _ n s (J1q hp hg k) hi hl (J9f hp hg hk he hs);omega
 . obtain⟨s1,s2,s3⟩:=J91 hp hg hk he ha;obtain⟨s,t⟩:=a;simp only at s1 s2 s3 h1 h2;subst s2;exact X4A hp hg hS hl s1 s3 h1 h2
end
end Go.Proofs.YtmifmchinfhbnaaGreatDoor
