import Derived.Test.YtobpogkghbakmaaGreatDoorDC8
import Derived.Test.YtobpogkghbakmaaGreatDoorLFG
import Derived.Test.YtobpogkghbakmaaGreatDoorEngZ
import Derived.IntWalk
namespace Go.Proofs.YtobpogkghbakmaaGreatDoor
open Go.Eng
set_option maxRecDepth 100000
set_option linter.unusedVariables false
theorem single_low {c:Nat} (h0:c≠0) (hc:c<4294967296) (h:c &&& (c-1)=0):c=2 ^ ctz c:=by
 obtain⟨k1,k2,k3⟩:=ctz_spec h0 hc;apply Nat.eq_of_testBit_eq;intro j;have:=low_rest k2 k3 j;rw[h,Nat.zero_testBit] at this;rw[Nat.testBit_two_pow];by_cases e:ctz c=j
 . subst e;rw[k2];simp
 . rw[decide_eq_false e];have hd:decide (j≠ctz c)=true:=by rw[decide_eq_true_eq];exact fun x=>e x.symm
   rw[hd,Bool.and_true] at this;exact this.symm
theorem pow_bit {k j:Nat} (h:(2 ^ k:Nat).testBit j=true):k=j:=by rw[Nat.testBit_two_pow,decide_eq_true_eq] at h;exact h
theorem sing_mem {e c:Nat}:∀{b:Nat},c∈sing e b↔∃v,v<b/\e.testBit v=true/\c=2 ^ v
 | 0=>by simp[sing]
 | b+1=>by
   have ih:=sing_mem (e:=e) (c:=c) (b:=b);rw[sing];constructor
   . intro h;split at h
     . rename_i hb;rcases List.mem_append.1 h with h|h
       . obtain⟨v,a,b',c'⟩:=ih.1 h;exact⟨v,by omega,b',c'⟩
       . exact⟨b,by omega,hb,by simpa using h⟩
     . obtain⟨v,a,b',c'⟩:=ih.1 h;exact⟨v,by omega,b',c'⟩
   . rintro⟨v,h1,h2,rfl⟩;by_cases e1:v=b
     . subst e1;rw[if_pos h2];simp
     . have:=ih.2 ⟨v,by omega,h2,rfl⟩;split
       . exact List.mem_append_left _ this
       . exact this
theorem sing_sorted {e:Nat}:∀b,(sing e b).Pairwise (·<·)
 | 0=>.nil
 | b+1=>by
   rw[sing];split
   . refine List.pairwise_append.2 ⟨sing_sorted b,by simp,fun x hx y hy=>?_⟩;obtain⟨v,h1,_,rfl⟩:=sing_mem.1 hx;simp only[List.mem_singleton] at hy;subst hy;exact Nat.pow_lt_pow_right (by omega) h1
   . exact sing_sorted b
theorem one_bit {j:Nat} (h:j≠0):(1:Nat).testBit j=false:=by
 have:=Nat.testBit_two_pow (n:=0) (m:=j);rw[Nat.pow_zero] at this;rw[this,decide_eq_false (by omega)]
theorem nxt_least {E s t:Nat} (hE:E<4294967296) (hp:Part s E) (hpt:Part t E) (hst:s<t):nxt E s<=t:=by
 have hsE:=hp.le;have htE:=hpt.le;have hs:s<4294967296:=by omega
 have hne:s≠E:=by omega
 have hd0:ndiff E s≠0:=by
  intro h;have:=((part_iff hE).1 h).le;omega
 have hdlt:ndiff E s<4294967296:=Nat.lt_of_le_of_lt Nat.and_le_left hE;obtain⟨k1,k2,k3⟩:=ctz_spec hd0 hdlt;have hdis:s &&& ndiff E s=0:=by
  apply Nat.eq_of_testBit_eq;intro i;rw[Nat.zero_testBit,Nat.testBit_and];by_cases hi:i<32
  . rw[ndiff_bit hi];cases s.testBit i<;>simp
  . rw[bit_high hs (by omega)];rfl
 have hsum:s+ndiff E s=E:=by
  rw[add_or hs hdlt hdis];apply Nat.eq_of_testBit_eq;intro i;rw[Nat.testBit_or];by_cases hi:i<32
  . rw[ndiff_bit hi];cases e:s.testBit i with
    | false=>simp
    | true=>rw[hp i e];rfl
  . rw[bit_high hs (by omega),bit_high hdlt (by omega),bit_high hE (by omega)];rfl
 have hneg:(4294967296+s-E) % 4294967296=4294967296-ndiff E s:=by omega
 generalize hk:ctz (ndiff E s)=k at *;have hbit:∀i,i<32->(nxt E s).testBit i=((!(if i<k+1 then decide (i<k) else (ndiff E s).testBit i))&&E.testBit i):=by
  intro i hi;have e:(4294967296:Nat)-ndiff E s=2 ^ 32-((ndiff E s-1)+1):=by omega
  rw[nxt,hneg,Nat.testBit_and,e,Nat.testBit_two_pow_sub_succ (by omega),low_pred k2 k3];simp[hi]
 have hk2:=k2;rw[ndiff_bit k1,Bool.and_eq_true] at hk2;have hsk:s.testBit k=false:=by simpa using hk2.2
 -- below k the part is all of it
 have hlow:∀i,i<k->s.testBit i=E.testBit i:=fun i hi=>by
  have:=k3 i hi;rw[ndiff_bit (by omega)] at this;cases e:s.testBit i with
  | true=>rw[hp i e]
  | false=>rw[e] at this;simpa using this.symm
 -- the next one is t's high part at most
 have hlt:s / 2 ^ k<t / 2 ^ k:=by
  rcases Nat.lt_or_ge (s / 2 ^ k) (t / 2 ^ k) with h|h
  . exact h
  . exfalso;have h1:t / 2 ^ k=s / 2 ^ k:=Nat.le_antisymm h (Nat.div_le_div_right (Nat.le_of_lt hst));have h2:t % 2 ^ k<=s % 2 ^ k:=by
     apply Part.le;intro i hi;rw[Nat.testBit_mod_two_pow,Bool.and_eq_true,decide_eq_true_eq] at hi ⊢;exact⟨hi.1,by rw[hlow i hi.1];exact hpt i hi.2⟩
    have a1:=Nat.div_add_mod s (2 ^ k);have a2:=Nat.div_add_mod t (2 ^ k);rw[h1] at a2;omega
 have hn:nxt E s=2 ^ k*(s / 2 ^ k+1):=by
  have heven:s / 2 ^ k+1=s / 2 ^ k ||| 1:=by
   have h1:(s / 2 ^ k) % 2=0:=by
    rw[Nat.testBit_eq_decide_div_mod_eq,decide_eq_false_iff_not] at hsk;omega
   apply Nat.eq_of_testBit_eq;intro i;rw[Nat.testBit_or];cases i with
   | zero=>simp[Nat.testBit_zero];omega
   | succ i =>
     rw[Nat.testBit_succ,Nat.testBit_succ,Nat.testBit_succ,show(s / 2 ^ k+1) / 2=s / 2 ^ k / 2 by omega];simp
  apply Nat.eq_of_testBit_eq;intro i;rw[heven,Nat.testBit_two_pow_mul];by_cases hi:i<32
  . rw[hbit i hi];by_cases h1:i<k
    . rw[if_pos (by omega),decide_eq_true h1,decide_eq_false (by omega)];rfl
    . by_cases h2:i=k
      . subst h2;rw[if_pos (by omega),decide_eq_false (by omega),hk2.1];simp
      . rw[if_neg (by omega),ndiff_bit hi,decide_eq_true (by omega),Nat.testBit_or,Nat.testBit_div_two_pow,show i-k+k=i by omega,one_bit (show i-k≠0 by omega)];cases e:s.testBit i with
        | true=>rw[hp i e];rfl
        | false=>cases E.testBit i<;>rfl
  . have h3:(s / 2 ^ k ||| 1).testBit (i-k)=false:=by
     rw[Nat.testBit_or,Nat.testBit_div_two_pow,show i-k+k=i by omega,bit_high hs (by omega)];rw[one_bit (by omega)];rfl
    rw[h3,bit_high (nxt_lt hE) (by omega),Bool.and_false]
 rw[hn];exact Nat.le_trans (Nat.mul_le_mul_left _ hlt) (Nat.mul_div_le t (2 ^ k))
theorem subs_mem {E t:Nat} (hE:E<4294967296) (ht:Part t E) (h0:t≠0):∀f s,Part s E->s≠0->s<=t->t-s<=f->t∈subs E s
 | f,s,hp,hs0,hst,hf=>by
   rw[subs_cons hE hp hs0];by_cases e:t=s
   . subst e;simp
   . have htE:=ht.le;have hlt:s<t:=by omega
     have h1:=nxt_gt hE hp (by omega);have h2:=nxt_least hE hp ht hlt;cases f with
     | zero=>omega
     | succ f=>exact List.mem_cons_of_mem _ (subs_mem hE ht h0 f _ (nxt_part E s) (by omega) h2 (by omega))
theorem subs_sorted {E:Nat} (hE:E<4294967296):∀f s,Part s E->E-s<=f->(subs E s).Pairwise (·<·)
 | f,s,hp,hf=>by
   by_cases h0:s=0
   . subst h0;rw[subs_zero];exact .nil
   . rw[subs_cons hE hp h0];by_cases hs:s=E
     . subst hs;rw[nxt_self hE,subs_zero];simp
     . have h1:=nxt_gt hE hp hs;have h2:=hp.le;have h3:=(nxt_part E s).le;refine List.Pairwise.cons (fun t ht=>?_) ?_
       . have:=(subs_part hE (E-nxt E s) _ (nxt_part E s) (Nat.le_refl _) t ht).2.2;omega
       . cases f with
         | zero=>omega
         | succ f=>exact subs_sorted hE f _ (nxt_part E s) (by omega)
theorem lowb_least {E t:Nat} (hE:E<4294967296) (ht:Part t E) (h0:t≠0):lowb E<=t:=by
 have htE:=ht.le;have ht32:t<4294967296:=by omega
 obtain⟨k1,k2,k3⟩:=ctz_spec h0 ht32;obtain⟨j1,j2,j3⟩:=ctz_spec (s:=E) (by omega) hE;have h1:ctz E<=ctz t:=by
  rcases Nat.lt_or_ge (ctz t) (ctz E) with h|h
  . have:=j3 _ h;rw[ht _ k2] at this;cases this
  . exact h
 have h2:2 ^ ctz t<=t:=by
  have:=(lowb_part ht32).le;rw[lowb,if_neg h0] at this;exact this
 rw[lowb,if_neg (by omega)];exact Nat.le_trans (Nat.pow_le_pow_right (n:=2) (by omega) h1) h2
theorem chs_err {g:G} {k:Int} {e:Nat} (hk:dk k=true) (h:(chs g k e).2≠0):(chs g k e).2=3/\(chs g k e).1=[]/\cnt e 32 > 10/\(k=2\/k=3):=by
 rw[dk_iff] at hk;unfold chs at h ⊢;split at h
 . exact absurd rfl h
 . split at h
   . exact absurd rfl h
   . split at h
     . exact absurd rfl h
     . split at h
       . rename_i h0 k1 k4 hc;rw[if_neg h0,if_neg k1,if_neg k4,if_pos hc];exact⟨rfl,rfl,hc,by omega⟩
       . exact absurd rfl h
theorem chs_mem {g:G} {k:Int} {e c:Nat} (hk:dk k=true) (he:e<4294967296) (hc:c<4294967296) (h:(chs g k e).2=0):c∈(chs g k e).1↔inner g k e c=true:=by
 rw[dk_iff] at hk;rw[inner_iff,part_iff hc];unfold chs at h ⊢;split
 . rename_i h0;subst h0;constructor
   . intro x;cases x
   . rintro⟨a,b,_⟩;exact absurd (Nat.le_zero.1 b.le) a
 . rename_i h0;rw[if_neg h0] at h;split
   . rename_i k1;subst k1;rw[okC1];show c∈sing e 32↔_;rw[sing_mem];constructor
     . rintro⟨v,h1,h2,rfl⟩;exact⟨Nat.ne_of_gt (Nat.two_pow_pos _),fun i hi=>by rw[<- pow_bit hi];exact h2,pow_single v⟩
     . rintro⟨h1,h2,h3⟩;obtain⟨j1,j2,j3⟩:=ctz_spec h1 hc;exact⟨ctz c,j1,h2 _ j2,single_low h1 hc h3⟩
   . rename_i k1;rw[if_neg k1] at h;split
     . rename_i k4;subst k4;rw[okC4];show c∈[e]↔_;rw[List.mem_singleton];exact⟨fun x=>by subst x;exact⟨h0,fun i h=>h,rfl⟩,fun x=>x.2.2⟩
     . rename_i k4;rw[if_neg k4] at h;split
       . rename_i hc';rw[if_pos hc'] at h;cases h
       . show c∈(subs e (lowb e)).filter (okC g k e)↔_;rw[List.mem_filter];constructor
         . rintro⟨h1,h2⟩;have:=subs_part he (e-lowb e) (lowb e) (lowb_part he) (Nat.le_refl _) c h1;exact⟨this.2.1,this.1,h2⟩
         . rintro⟨h1,h2,h3⟩;exact⟨subs_mem he h2 h1 _ _ (lowb_part he) (lowb_ne h0) (lowb_least he h2 h1) (Nat.le_refl _),h3⟩
theorem chs_sorted {g:G} {k:Int} {e:Nat} (he:e<4294967296):(chs g k e).1.Pairwise (·<·):=by
 unfold chs;split
 . exact .nil
 . split
   . exact sing_sorted 32
   . split
     . show[e].Pairwise (·<·);simp
     . split
       . exact .nil
       . exact(subs_sorted he _ _ (lowb_part he) (Nat.le_refl _)).filter _
theorem chs_lt {g:G} {k:Int} {e:Nat} (he:e<4294967296):∀c∈(chs g k e).1,c<4294967296:=by
 unfold chs;split
 . intro c hc;cases hc
 . split
   . intro c hc;obtain⟨v,h1,_,rfl⟩:=sing_mem.1 hc;exact pow_lt32 h1
   . split
     . intro c hc;have:c=e:=by simpa using hc
       omega
     . split
       . intro c hc;cases hc
       . intro c hc;have hc':c∈(subs e (lowb e)).filter (okC g k e):=hc;have:=(subs_part he (e-lowb e) (lowb e) (lowb_part he) (Nat.le_refl _) c (List.mem_filter.1 hc').1).1.le;omega
theorem chs_some {g:G} (hg:g.valid=true) {k:Int} {e:Nat} (hk:dk k=true) (he:e<4294967296) (hp:Part e (full g.ports.length)) (h:(chs g k e).2=0):(chs g k e).1.length > 0↔e≠0:=by
 constructor
 . intro h1 h0;subst h0;rw[chs,if_pos rfl] at h1;simp at h1
 . intro h0;have h1:=rs_inner hg hk he hp h0 (w:=0);have h2:rs g k e 0<4294967296:=by
    obtain⟨_,a,_⟩:=inner_iff.1 h1;by_cases h4:k=4
    . subst h4;rw[rs,if_neg (by decide),if_neg (by decide),if_pos rfl];exact he
    . exact Nat.lt_of_le_of_lt (rs_part he h4).le (wsh_lt he)
   exact List.length_pos_of_mem ((chs_mem hk he h2 h).2 h1)
theorem chs_len {g:G} {k:Int} {e:Nat} (he:e<4294967296):(chs g k e).1.length<=5000000000:=by
 unfold chs;split
 . show([]:List Nat).length<=_;simp
 . split
   . have:=sing_len e 32;show(sing e 32).length<=_;omega
   . split
     . show[e].length<=_;simp
     . split
       . show([]:List Nat).length<=_;simp
       . show((subs e (lowb e)).filter (okC g k e)).length<=_;have h1:=List.length_filter_le (okC g k e) (subs e (lowb e));have h2:=subs_len he (e-lowb e) (lowb e) (lowb_part he) (Nat.le_refl _);omega
end Go.Proofs.YtobpogkghbakmaaGreatDoor
namespace Go.Plain.An
def hit (l ts:List Nat):Nat:=ts.countP fun t=>decide (t∈l)
def srcs (N:Nat) (ar:Nat->List Nat) (t:Nat):List Nat:=(List.range N).flatMap fun k=>List.replicate ((ar k).count t) k
theorem srcs_lt {N:Nat} {ar:Nat->List Nat} {t k:Nat} (h:k∈srcs N ar t):k<N:=by
 obtain⟨a,h1,h2⟩:=List.mem_flatMap.1 h;have:=List.eq_of_mem_replicate h2;subst this;exact List.mem_range.1 h1
theorem count_flat (f:Nat->Nat) (k:Nat):∀n,((List.range n).flatMap fun k=>List.replicate (f k) k).count k=if k<n then f k else 0
 | 0=>by simp
 | n+1=>by
   rw[List.range_succ,List.flatMap_append,List.count_append,count_flat f k n];simp only[List.flatMap_cons,List.flatMap_nil,List.append_nil,List.count_replicate];by_cases h:n=k
   . subst h;simp
   . simp[h];by_cases h2:k<n
     . rw[if_pos h2,if_pos (by omega)]
     . rw[if_neg h2,if_neg (by omega)]
theorem srcs_count {N:Nat} {ar:Nat->List Nat} {t k:Nat} (h:k<N):(srcs N ar t).count k=(ar k).count t:=by
 rw[srcs,count_flat (fun k=>(ar k).count t) k N,if_pos h]
theorem hit_snoc {l:List Nat} {t:Nat} (h:t∉l) (ts:List Nat):hit (l++[t]) ts=hit l ts+ts.count t:=by
 induction ts with
 | nil=>rfl
 | cons a ts ih =>
   simp only[hit,List.countP_cons,List.count_cons] at ih ⊢;rw[ih];by_cases e:a=t
   . subst e;simp[h];omega
   . have e2:¬ (a == t)=true:=by simpa using e
     by_cases q:a∈l
     . simp[q,e];omega
     . simp[q,e]
theorem hit_le (l ts:List Nat):hit l ts<=ts.length:=List.countP_le_length
theorem hit_all {l ts:List Nat}:hit l ts=ts.length↔∀t∈ts,t∈l:=by
 rw[hit,List.countP_eq_length];simp
theorem hit_count {l:List Nat} {t:Nat} (h:t∉l) (ts:List Nat):hit l ts+ts.count t<=ts.length:=by
 rw[<- hit_snoc h];exact hit_le _ _
variable {N:Nat} {ar:Nat->List Nat} {set:Nat->Bool}
structure OrdJ (N:Nat) (ar:Nat->List Nat) (set:Nat->Bool) (L:List Nat) (i q:Nat) (en:Nat->Nat):Prop where
 nodup:L.Nodup
 lt:∀k∈L,k<N
 all:∀k,k<N->set k=true->k∈L
 le:i<=L.length
 ent:∀k,k<N->en k=hit (L.take i) (ar k)+((srcs N ar (L.getD i 0)).take q).count k
 mem:∀k,k<N->set k=false->(k∈L↔(ar k≠[]/\hit (L.take i) (ar k)+((srcs N ar (L.getD i 0)).take q).count k=(ar k).length))
 ord:∀(j k:Nat),L[j]?=some k->set k=true\/(ar k≠[]/\∀t∈ar k,∃j',j'<j/\L[j']?=some t)
theorem OrdJ.start:OrdJ N ar set ((List.range N).filter set) 0 0 (fun _=>0):=by
 refine⟨List.nodup_range.sublist List.filter_sublist,fun k hk=>?_,fun k hk hs=>?_,Nat.zero_le _,fun k _=>?_,fun k hk hs=>?_,fun j k h=>?_⟩
 . exact List.mem_range.1 (List.mem_filter.1 hk).1
 . exact List.mem_filter.2 ⟨List.mem_range.2 hk,hs⟩
 . simp[hit]
 . constructor
   . intro h;have:=(List.mem_filter.1 h).2;rw[hs] at this;cases this
   . rintro⟨h1,h2⟩;have h3:hit ([]:List Nat) (ar k)=0:=by simp[hit]
     simp only[List.take_zero,List.count_nil] at h2;rw[h3] at h2;exact(h1 (List.length_eq_zero_iff.1 h2.symm)).elim
 . exact .inl (List.mem_filter.1 (List.mem_of_getElem? h)).2
theorem take_next {L:List Nat} {i:Nat} (h:i<L.length):L.take (i+1)=L.take i++[L.getD i 0]:=by
 rw[List.take_succ_eq_append_getElem h];simp[List.getD,h]
theorem not_take {L:List Nat} (hn:L.Nodup) {i:Nat} (h:i<L.length):L.getD i 0∉L.take i:=by
 intro hm;obtain⟨j,hj,e⟩:=List.mem_iff_getElem.1 hm;simp only[List.length_take] at hj;rw[List.getElem_take] at e;have e2:L.getD i 0=L[i]:=by simp[List.getD,h]
 rw[e2] at e;have:=(List.getElem_inj hn).1 e;omega
theorem count_take_next {l:List Nat} {q:Nat} (h:q<l.length) (k:Nat):(l.take (q+1)).count k=(l.take q).count k+if l.getD q 0=k then 1 else 0:=by
 rw[take_next h,List.count_append,List.count_singleton];by_cases e:l.getD q 0=k<;>simp[e]
theorem count_take_le (l:List Nat) (q k:Nat):(l.take q).count k<=l.count k:=(List.take_sublist q l).count_le k
theorem getD_mem {l:List Nat} {q:Nat} (h:q<l.length):l.getD q 0∈l:=by
 have:l.getD q 0=l[q]:=by simp[List.getD,h]
 rw[this];exact List.getElem_mem h
theorem OrdJ.step {L:List Nat} {i q:Nat} {en:Nat->Nat} (h:OrdJ N ar set L i q en) (hi:i<L.length) (hq:q<(srcs N ar (L.getD i 0)).length) :
 (srcs N ar (L.getD i 0)).getD q 0<N/\en ((srcs N ar (L.getD i 0)).getD q 0)+1<=(ar ((srcs N ar (L.getD i 0)).getD q 0)).length /\
 OrdJ N ar set (if set ((srcs N ar (L.getD i 0)).getD q 0)=false/\en ((srcs N ar (L.getD i 0)).getD q 0)+1=(ar ((srcs N ar (L.getD i 0)).getD q 0)).length then L++[(srcs N ar (L.getD i 0)).getD q 0] else L) i (q+1)
  (fun k=>if k=(srcs N ar (L.getD i 0)).getD q 0 then en k+1 else en k):=by
 have ht:=not_take h.nodup hi;have hk:(srcs N ar (L.getD i 0)).getD q 0<N:=srcs_lt (ar:=ar) (t:=L.getD i 0) (getD_mem hq);have hc:=count_take_next hq ((srcs N ar (L.getD i 0)).getD q 0);rw[if_pos rfl] at hc;have hcl:=count_take_le (srcs N ar (L.getD i 0)) (q+1) ((srcs N ar (L.getD i 0)).getD q 0);rw[srcs_count hk] at hcl;have hh:=hit_count ht (ar ((srcs N ar (L.getD i 0)).getD q 0));have he:=h.ent _ hk;generalize hK:(srcs N ar (L.getD i 0)).getD q 0=k at *;have hlt:en k+1<=(ar k).length:=by omega
 refine⟨hk,hlt,?_⟩;have hcn:∀x,((srcs N ar (L.getD i 0)).take (q+1)).count x=((srcs N ar (L.getD i 0)).take q).count x+if k=x then 1 else 0:=fun x=>by
  rw[count_take_next hq x,hK]
 have hent:∀x,x<N->(fun x=>if x=k then en x+1 else en x) x=hit (L.take i) (ar x)+((srcs N ar (L.getD i 0)).take (q+1)).count x:=fun x hx=>by
  have:=h.ent x hx;rw[hcn x];show(if x=k then en x+1 else en x)=_;by_cases e:x=k
  . rw[if_pos e,if_pos e.symm];omega
  . rw[if_neg e,if_neg (fun q=>e q.symm)];omega
 by_cases hs:set k=false/\en k+1=(ar k).length
 . rw[if_pos hs];obtain⟨hs,hL⟩:=hs;have hnm:k∉L:=fun hm=>by
    have:=((h.mem k hk hs).1 hm).2;omega
   have hi':i<=L.length:=by omega
   have etk:(L++[k]).take i=L.take i:=List.take_append_of_le_length hi';have egd:(L++[k]).getD i 0=L.getD i 0:=by
    simp only[List.getD,List.getElem?_append_left hi]
   refine⟨?_,fun x hx=>?_,fun x hx hsx=>List.mem_append_left _ (h.all x hx hsx),by simp;omega,?_,fun x hx hsx=>?_,fun j x hj=>?_⟩
   . refine List.nodup_append.2 ⟨h.nodup,by simp,fun a ha b hb=>?_⟩;simp at hb;subst hb;intro e;subst e;exact hnm ha
   . rcases List.mem_append.1 hx with hx|hx
     . exact h.lt x hx
     . simp at hx;subst hx;exact hk
   . rw[etk,egd];exact hent
   . rw[etk,egd,hcn x,List.mem_append];have:=h.mem x hx hsx;by_cases e:x=k
     . subst e;rw[if_pos rfl];constructor
       . intro _;refine⟨fun q=>by rw[q] at hL;simp at hL,?_⟩;have:=h.ent x hx;omega
       . intro _;exact .inr (by simp)
     . rw[if_neg (fun q=>e q.symm),Nat.add_zero,<- this];constructor
       . rintro (h1|h1)
         . exact h1
         . simp at h1;exact(e h1).elim
       . exact .inl
   . by_cases hjl:j<L.length
     . rw[List.getElem?_append_left hjl] at hj;rcases h.ord j x hj with h1 | ⟨h0,h1⟩
       . exact .inl h1
       . refine .inr ⟨h0,fun t ht=>?_⟩;obtain⟨j',h2,h3⟩:=h1 t ht;exact⟨j',h2,by rw[List.getElem?_append_left (by omega)];exact h3⟩
     . have ej:j=L.length:=by
        have:j<(L++[k]).length:=by
         rcases Nat.lt_or_ge j (L++[k]).length with q|q
         . exact q
         . rw[List.getElem?_eq_none q] at hj;cases hj
        simp at this;omega
       subst ej;have ex:x=k:=by simpa using hj.symm
       subst ex;have hall:hit (L.take i++[L.getD i 0]) (ar x)=(ar x).length:=by
        rw[hit_snoc ht];have:=hit_count ht (ar x);omega
       refine .inr ⟨fun q=>by rw[q] at hL;simp at hL,fun t ht2=>?_⟩;have hm:=hit_all.1 hall t ht2;rw[<- take_next hi] at hm;obtain⟨j',h1,h2⟩:=List.mem_iff_getElem.1 hm;simp only[List.length_take] at h1;rw[List.getElem_take] at h2;refine⟨j',by omega,?_⟩;rw[List.getElem?_append_left (by omega),List.getElem?_eq_getElem (by omega),h2]
 . rw[if_neg hs];refine⟨h.nodup,h.lt,h.all,h.le,hent,fun x hx hsx=>?_,h.ord⟩;rw[hcn x,h.mem x hx hsx];by_cases e:x=k
   . subst e;rw[if_pos rfl];have hne:¬ (en x+1=(ar x).length):=fun q=>hs ⟨hsx,q⟩;have:=h.ent x hx;constructor
     . rintro⟨_,h2⟩;omega
     . rintro⟨_,h2⟩;omega
   . rw[if_neg (fun q=>e q.symm),Nat.add_zero]
theorem OrdJ.next {L:List Nat} {i:Nat} {en:Nat->Nat} (h:OrdJ N ar set L i (srcs N ar (L.getD i 0)).length en) (hi:i<L.length):OrdJ N ar set L (i+1) 0 en:=by
 have ht:=not_take h.nodup hi;have key:∀k,k<N->hit (L.take (i+1)) (ar k)+((srcs N ar (L.getD (i+1) 0)).take 0).count k=hit (L.take i) (ar k)+((srcs N ar (L.getD i 0)).take (srcs N ar (L.getD i 0)).length).count k:=fun k hk=>by
  rw[take_next hi,hit_snoc ht,List.take_length,srcs_count hk];simp
 exact⟨h.nodup,h.lt,h.all,hi,fun k hk=>by rw[key k hk];exact h.ent k hk,fun k hk hs=>by rw[key k hk];exact h.mem k hk hs,h.ord⟩
structure Ord (N:Nat) (ar:Nat->List Nat) (set:Nat->Bool) (L:List Nat):Prop where
 nodup:L.Nodup
 lt:∀k∈L,k<N
 all:∀k,k<N->set k=true->k∈L
 out:∀k,k<N->k∉L->set k=false/\(ar k=[]\/∃t∈ar k,t∉L)
 ord:∀(j k:Nat),L[j]?=some k->set k=true\/(ar k≠[]/\∀t∈ar k,∃j',j'<j/\L[j']?=some t)
theorem OrdJ.done {L:List Nat} {en:Nat->Nat} {q:Nat} (h:OrdJ N ar set L L.length q en) (hq:q=0):Ord N ar set L:=by
 subst hq;refine⟨h.nodup,h.lt,h.all,fun k hk hn=>?_,h.ord⟩;have hs:set k=false:=by
  cases e:set k with
  | false=>rfl
  | true=>exact(hn (h.all k hk e)).elim
 refine⟨hs,?_⟩;have hm:=h.mem k hk hs;rw[List.take_length] at hm;by_cases e:ar k=[]
 . exact .inl e
 . right;apply Classical.byContradiction;intro hne;apply hn;refine hm.2 ⟨e,?_⟩;simp only[List.take_zero,List.count_nil,Nat.add_zero];exact hit_all.2 fun t ht=>Classical.byContradiction fun q=>hne ⟨t,ht,q⟩
theorem OrdJ.len {L:List Nat} {i q:Nat} {en:Nat->Nat} (h:OrdJ N ar set L i q en):L.length<=N:=by
 have hs:L.Subset (List.range N):=fun k hk=>List.mem_range.2 (h.lt k hk);have hnd:=h.nodup;have:=List.Nodup.length_le_of_subset hnd hs;simpa using this
end Go.Plain.An
namespace Go.Proofs.YtobpogkghbakmaaGreatDoor
open Go.Eng Go.Plain
set_option maxRecDepth 100000
set_option linter.unusedVariables false
def arcK (p:Pr) (g:G) (kd:Int) (k:Nat):List (Nat×Nat):=(chs g kd (enN p g (cfK p g k))).1.map fun s=>(s,rkC p g (stepC p g (cfK p g k) s))
def toK (p:Pr) (g:G) (kd:Int) (k:Nat):List Nat:=(arcK p g kd k).map (·.2)
def legK (p:Pr) (g:G) (leg:Cf->Bool) (k:Nat):Bool:=leg (cfK p g k)
structure StepK (p:Pr) (g:G) (kd:Int) (c:Cf) (s:Nat):Prop where
 ne:s≠0
 part:Part s (enN p g c)
 okc:okC g kd (enN p g c) s=true
 lt:s<16777216
inductive Lng (p:Pr) (g:G) (kd:Int) (leg:Cf->Bool):Nat->Cf->Prop
 | nil (c:Cf):Lng p g kd leg 0 c
 | step {t:Nat} {c:Cf} (s:Nat) (h:StepK p g kd c s) (hl:leg (stepC p g c s)=false) (hn:Lng p g kd leg t (stepC p g c s)):Lng p g kd leg (t+1) c
structure Srv (p:Pr) (g:G) (kd:Int) (leg:Cf->Bool) (R M:Int) (Inv:Cf->Cnt->Prop):Prop where
 closed:∀c s,Conf p g c->leg c=true->StepK p g kd c s->leg (stepC p g c s)=true
 en:∀c,Conf p g c->leg c=false->enN p g c≠0
 start:∀c,Conf p g c->leg c=false->Inv c (cnt0 (enN p g c))
 step:∀c n s,Conf p g c->Inv c n->leg c=false->StepK p g kd c s->leg (stepC p g c s)=false->Inv (stepC p g c s) (n.add s (enN p g (stepC p g c s)))
 rounds:∀c n,Conf p g c->Inv c n->leg c=false->(n.rounds:Int)+1<=R
 moves:0<=M->∀c n s,Conf p g c->Inv c n->leg c=false->StepK p g kd c s->(n.moves:Int)+cnt s 32<=M
 ends:∃T,∀c,Conf p g c->leg c=false->¬ Lng p g kd leg T c
theorem ord_all {p:Pr} (hp:PrOk p) {g:G} (hg:g.valid=true) {kd:Int} {leg:Cf->Bool} {R M:Int} {Inv:Cf->Cnt->Prop} (hS:Srv p g kd leg R M Inv)
 (hch:∀k,k<cntP p g->∀s,s∈(chs g kd (enN p g (cfK p g k))).1->StepK p g kd (cfK p g k) s) (hne:∀k,k<cntP p g->enN p g (cfK p g k)≠0->(chs g kd (enN p g (cfK p g k))).1≠[])
 {L:List Nat} (hL:An.Ord (cntP p g) (toK p g kd) (legK p g leg) L) (hconf:∀c s,Conf p g c->StepK p g kd c s->Conf p g (stepC p g c s)):∀k,k<cntP p g->k∈L:=by
 obtain⟨T,hT⟩:=hS.ends;have key:∀t k,k<cntP p g->k∉L->Lng p g kd leg t (cfK p g k):=by
  intro t
  induction t with
  | zero=>intro k _ _;exact .nil _
  | succ t ih =>
    intro k hk hn;obtain⟨h1,h2⟩:=hL.out k hk hn;have hc:=cfK_conf hp hg k;rcases h2 with h2 | ⟨to,h2,h3⟩
    . exfalso;refine hne k hk (hS.en _ hc h1) ?_;simpa[toK,arcK] using h2
    . simp only[toK,arcK,List.map_map,List.mem_map,Function.comp] at h2;obtain⟨s,hs,rfl⟩:=h2;have hst:=hch k hk s hs;have hc':=hconf _ _ hc hst;have hlt:=rkC_lt hp hg hc';have:=ih _ hlt h3;rw[cfK_rk hp hg hc'] at this;refine .step s hst ?_ this;have:=(hL.out _ hlt h3).1;rw[legK,cfK_rk hp hg hc'] at this;exact this
 intro k hk;apply Classical.byContradiction;intro hn;exact hT _ (cfK_conf hp hg k) (hL.out k hk hn).1 (key T k hk hn)
def RdOk (p:Pr) (g:G) (R:Int) (Inv:Cf->Cnt->Prop) (k pd v:Nat):Prop:=∀n,Inv (cfK p g k) n->n.pend=pd->(n.rounds:Int)+v<=R
def MvOk (p:Pr) (g:G) (M:Int) (Inv:Cf->Cnt->Prop) (k v:Nat):Prop:=0<=M->∀n,Inv (cfK p g k) n->(n.moves:Int)+v<=M
def aftP (p:Pr) (g:G) (pd s t:Nat):Nat×Bool:=if ndiff pd s &&& enN p g (cfK p g t)=0 then (enN p g (cfK p g t),true) else (ndiff pd s &&& enN p g (cfK p g t),false)
theorem rd_one {p:Pr} (hp:PrOk p) {g:G} (hg:g.valid=true) {kd:Int} {leg:Cf->Bool} {R M:Int} {Inv:Cf->Cnt->Prop} (hS:Srv p g kd leg R M Inv) {k pd:Nat} (hl:legK p g leg k=false):RdOk p g R Inv k pd 1 :=
 fun n hi _=>hS.rounds _ n (cfK_conf hp hg k) hi hl
theorem rd_step {p:Pr} (hp:PrOk p) {g:G} (hg:g.valid=true) {kd:Int} {leg:Cf->Bool} {R M:Int} {Inv:Cf->Cnt->Prop} (hS:Srv p g kd leg R M Inv) {k pd s v:Nat} (hl:legK p g leg k=false)
 (hs:StepK p g kd (cfK p g k) s) (hc':Conf p g (stepC p g (cfK p g k) s)) (hl':legK p g leg (rkC p g (stepC p g (cfK p g k) s))=false)
 (hv:RdOk p g R Inv (rkC p g (stepC p g (cfK p g k) s)) (aftP p g pd s (rkC p g (stepC p g (cfK p g k) s))).1 v) :
 RdOk p g R Inv k pd (if (aftP p g pd s (rkC p g (stepC p g (cfK p g k) s))).2 then 1+v else v):=by
 intro n hi hpd;have e:=cfK_rk hp hg hc';rw[legK,e] at hl';have hn:=hS.step _ n s (cfK_conf hp hg k) hi hl hs hl';have:=hv _ (by rw[e];exact hn);rw[aftP,e] at this ⊢;have hlf:lft n s (enN p g (stepC p g (cfK p g k) s))=ndiff pd s &&& enN p g (stepC p g (cfK p g k) s):=by rw[lft,hpd]
 by_cases h0:ndiff pd s &&& enN p g (stepC p g (cfK p g k) s)=0
 . rw[if_pos h0] at this ⊢;rw[Cnt.add,if_pos (by rw[hlf];exact h0)] at this;have h4:((n.rounds+1:Nat):Int)+v<=R:=this rfl
   push_cast at h4
   show(n.rounds:Int)+((1+v:Nat):Int)<=R
   push_cast
   omega
 . rw[if_neg h0] at this ⊢;rw[Cnt.add,if_neg (by rw[hlf];exact h0)] at this;have h4:((n.rounds:Nat):Int)+v<=R:=this hlf;show(n.rounds:Int)+(v:Int)<=R;exact h4
theorem rd_max {p:Pr} {g:G} {R:Int} {Inv:Cf->Cnt->Prop} {k pd a b:Nat} (ha:RdOk p g R Inv k pd a) (hb:RdOk p g R Inv k pd b):RdOk p g R Inv k pd (max a b):=fun n hi hpd=>by
 have:=ha n hi hpd;have:=hb n hi hpd;omega
theorem rd_end {p:Pr} (hp:PrOk p) {g:G} (hg:g.valid=true) {kd:Int} {leg:Cf->Bool} {R M:Int} {Inv:Cf->Cnt->Prop} (hS:Srv p g kd leg R M Inv) {k v:Nat} (hl:legK p g leg k=false) (h:RdOk p g R Inv k (enN p g (cfK p g k)) v):(v:Int)<=R:=by
 have:=h _ (hS.start _ (cfK_conf hp hg k) hl) rfl;simp only[cnt0] at this;omega
theorem mv_step {p:Pr} (hp:PrOk p) {g:G} (hg:g.valid=true) {kd:Int} {leg:Cf->Bool} {R M:Int} {Inv:Cf->Cnt->Prop} (hS:Srv p g kd leg R M Inv) {k s v:Nat} (hl:legK p g leg k=false)
 (hs:StepK p g kd (cfK p g k) s) (hc':Conf p g (stepC p g (cfK p g k) s))
 (hv:legK p g leg (rkC p g (stepC p g (cfK p g k) s))=false->MvOk p g M Inv (rkC p g (stepC p g (cfK p g k) s)) v) (h0:legK p g leg (rkC p g (stepC p g (cfK p g k) s))=true->v=0):MvOk p g M Inv k (cnt s 32+v):=by
 intro hM n hi;have e:=cfK_rk hp hg hc';cases hl':legK p g leg (rkC p g (stepC p g (cfK p g k) s)) with
 | true =>
   have:=hS.moves hM _ n s (cfK_conf hp hg k) hi hl hs;rw[h0 hl']
   push_cast
   omega
 | false =>
   have hv:=hv hl' hM;rw[legK,e] at hl';have hn:=hS.step _ n s (cfK_conf hp hg k) hi hl hs hl';have:=hv _ (by rw[e];exact hn);have h2:(n.add s (enN p g (stepC p g (cfK p g k) s))).moves=n.moves+cnt s 32:=by
    rw[Cnt.add];split<;>rfl
   rw[h2] at this
   push_cast at this ⊢
   omega
theorem mv_max {p:Pr} {g:G} {M:Int} {Inv:Cf->Cnt->Prop} {k a b:Nat} (ha:MvOk p g M Inv k a) (hb:MvOk p g M Inv k b):MvOk p g M Inv k (max a b):=fun hM n hi=>by
 have:=ha hM n hi;have:=hb hM n hi;omega
theorem mv_end {p:Pr} (hp:PrOk p) {g:G} (hg:g.valid=true) {kd:Int} {leg:Cf->Bool} {R M:Int} {Inv:Cf->Cnt->Prop} (hS:Srv p g kd leg R M Inv) {k v:Nat} (hl:legK p g leg k=false) (h:MvOk p g M Inv k v) (hM:0<=M):(v:Int)<=M:=by
 have:=h hM _ (hS.start _ (cfK_conf hp hg k) hl);simp only[cnt0] at this;omega
end Go.Proofs.YtobpogkghbakmaaGreatDoor
namespace Go.Proofs.YtobpogkghbakmaaGreatDoor
open Go.Eng Go.Plain
set_option maxRecDepth 100000
set_option linter.unusedVariables false
def tN (n:Nat) (x y:Option Nat):Nat:=let m:=min (x.getD n) (y.getD n);if m<n then m+1 else n
def oN (b:Bool) (d:Nat):Option Nat:=if b then some d else none
def t3 (n:Nat) (a b c:Bool) (d0 d1 d2:Nat) (v:Nat):Nat:=if v=0 then 0 else if v=1 then tN n (oN a d0) (oN c d2) else tN n (oN b d0) (oN c d1)
def rkT:List Nat:=[11534563070625976330,11534563070625976330,11534563070625976330,11534563070625976330,11534563070625976330,11534563070625976330,11534563070625976330,11534563070625976330,109047008310545734844533952272000163922,111705474522548540375210391971050102995,206104347640917867075800749385315819658,208762813852920672606477189084365758603,206104347640917867075800749385600503890,208762813852920672606477189084616888531,303161686971289999307067546498916159626,305820153183292804837743986197932544138,1008847240970898521327274941978177409710522661114776986258,1037965498931719734145970935696103891953911904794804074780,1905576060311852916160959145302226022708390355706499867786,2831423137613628523813339342335514072820479415981821437643,1905576060311852916160959145304871109383773889218333676178,2831423137613628523813339342337849685112480831720954828499,2802304879652807310994643348628919722381641583810056557706,2831423137613628523813339342346498032797723135072245388426]
def rk3 (n:Nat) (a b c:Bool) (d0 d1 d2:Nat):Nat:=(rkT.getD ((n-1)*8+(if a then 4 else 0)+(if b then 2 else 0)+(if c then 1 else 0)) 0 >>> (3*(16*d0+4*d1+d2))) % 8
def nx3 (m:Bool) (d t:Nat):Nat:=if m then t else d
theorem rk3_all:((List.range 3).all fun n=>[true,false].all fun a=>[true,false].all fun b=>[true,false].all fun c=>(List.range (n+2)).all fun d0=>(List.range (n+2)).all fun d1=>(List.range (n+2)).all fun d2 =>
 [true,false].all fun m0=>[true,false].all fun m1=>[true,false].all fun m2 =>
  let e0:=nx3 m0 d0 (t3 (n+1) a b c d0 d1 d2 0);let e1:=nx3 m1 d1 (t3 (n+1) a b c d0 d1 d2 1);let e2:=nx3 m2 d2 (t3 (n+1) a b c d0 d1 d2 2)
  (e0 == d0&&e1 == d1&&e2 == d2) || Nat.blt (rk3 (n+1) a b c e0 e1 e2) (rk3 (n+1) a b c d0 d1 d2))=true:=by decide +kernel
theorem rk3_dec {n:Nat} (h1:1<=n) (h3:n<=3) (a b c:Bool) {d0 d1 d2:Nat} (k0:d0<=n) (k1:d1<=n) (k2:d2<=n) (m0 m1 m2:Bool) :
 (nx3 m0 d0 (t3 n a b c d0 d1 d2 0)=d0/\nx3 m1 d1 (t3 n a b c d0 d1 d2 1)=d1/\nx3 m2 d2 (t3 n a b c d0 d1 d2 2)=d2) \/
   rk3 n a b c (nx3 m0 d0 (t3 n a b c d0 d1 d2 0)) (nx3 m1 d1 (t3 n a b c d0 d1 d2 1)) (nx3 m2 d2 (t3 n a b c d0 d1 d2 2))<rk3 n a b c d0 d1 d2:=by
 have hb:∀x:Bool,x∈[true,false]:=fun x=>by cases x<;>simp
 obtain⟨n,rfl⟩:∃k,n=k+1:=⟨n-1,by omega⟩;have h:=rk3_all;rw[List.all_eq_true] at h;have h:=h n (List.mem_range.2 (by omega));rw[List.all_eq_true] at h;have h:=h a (hb a);rw[List.all_eq_true] at h;have h:=h b (hb b);rw[List.all_eq_true] at h;have h:=h c (hb c);rw[List.all_eq_true] at h;have h:=h d0 (List.mem_range.2 (by omega));rw[List.all_eq_true] at h;have h:=h d1 (List.mem_range.2 (by omega));rw[List.all_eq_true] at h;have h:=h d2 (List.mem_range.2 (by omega));rw[List.all_eq_true] at h;have h:=h m0 (hb m0);rw[List.all_eq_true] at h;have h:=h m1 (hb m1);rw[List.all_eq_true] at h;have h:=h m2 (hb m2);simp only[Bool.or_eq_true,Bool.and_eq_true,beq_iff_eq] at h;rcases h with ⟨⟨e0,e1⟩,e2⟩|h
 . exact .inl ⟨e0,e1,e2⟩
 . exact .inr (Nat.le_of_ble_eq_true h)
theorem rk3_lt (n:Nat) (a b c:Bool) (d0 d1 d2:Nat):rk3 n a b c d0 d1 d2<8:=Nat.mod_lt _ (by omega)
theorem minI_at:∀(l:List Int) (m:Int),minI l m=m\/minI l m∈l
 | [],m=>.inl rfl
 | a::r,m=>by
   rw[minI];rcases minI_at r (if a<m then a else m) with h|h
   . rw[h];split
     . exact .inr (by simp)
     . exact .inl rfl
   . exact .inr (by simp[h])
theorem mnD_le {g:G} (d:Nat->Int) {v u:Nat} (h:adN g v u=true):mnD g d v<=d u:=by
 obtain⟨l,hl,e⟩:=adj_iff.1 h;exact(minI_le _ _).2 (d u) (List.mem_map.2 ⟨l,hl,by rw[e]⟩)
theorem mnD_at (g:G) (d:Nat->Int) (v:Nat):mnD g d v=1073741824\/∃u,adN g v u=true/\mnD g d v=d u:=by
 rcases minI_at ((gR g.ports v).map fun l=>d l.1.toNat) 1073741824 with h|h
 . exact .inl h
 . obtain⟨l,hl,e⟩:=List.mem_map.1 h;exact .inr ⟨l.1.toNat,adj_iff.2 ⟨l,hl,rfl⟩,e.symm⟩
def dN (g:G) (c:Cf) (v:Nat):Nat:=if v<g.ids.length then (dC c v).toNat else 0
theorem dN_int {g:G} {c:Cf} (hc:Conf pBfs g c) {v:Nat} (hv:v<g.ids.length):((dN g c v:Nat):Int)=dC c v:=by
 have:=bfs_nn hc v hv;rw[dN,if_pos hv];omega
theorem dN_le {g:G} {c:Cf} (hc:Conf pBfs g c) (v:Nat):dN g c v<=g.ids.length:=by
 by_cases hv:v<g.ids.length
 . have:=(bfs_rng hc hv).2.2.1;have:=dN_int hc hv;omega
 . rw[dN,if_neg hv];omega
theorem oN_get (b:Bool) (d n:Nat):(oN b d).getD n=if b=true then d else n:=by cases b<;>rfl
theorem tN_le (n p q m:Nat) (h1:m<=p) (h2:m<=q) (h3:m=p\/m=q):(let k:=min p q;if k<n then k+1 else n)=if m<n then m+1 else n:=by
 have:min p q=m:=by omega
 simp only[this]
theorem tN_cap {n x y:Nat} {m:Int} {a b:Bool} (hx:x<=n) (hy:y<=n) (hn:n<=1000) (hm:m=1073741824\/(a=true/\m=(x:Int))\/(b=true/\m=(y:Int))) (ha:a=true->m<=(x:Int)) (hb:b=true->m<=(y:Int)) :
 (if m<(n:Int) then m+1 else (n:Int))=((tN n (oN a x) (oN b y):Nat):Int):=by
 have hp:(oN a x).getD n<=n:=by rw[oN_get];split<;>omega
 have hq:(oN b y).getD n<=n:=by rw[oN_get];split<;>omega
 rcases hm with h | ⟨e,h⟩ | ⟨e,h⟩
 . have ea:¬ a=true:=fun e=>by have:=ha e;omega
   have eb:¬ b=true:=fun e=>by have:=hb e;omega
   rw[tN,tN_le n _ _ n (by rw[oN_get,if_neg ea];exact Nat.le_refl _) (by rw[oN_get,if_neg eb];exact Nat.le_refl _) (.inl (by rw[oN_get,if_neg ea])),if_neg (by omega),if_neg (by omega)]
 . have hy':x<=(oN b y).getD n:=by
    rw[oN_get];split
    . rename_i e2;have:=hb e2;omega
    . exact hx
   rw[tN,tN_le n _ _ x (by rw[oN_get,if_pos e];exact Nat.le_refl _) hy' (.inl (by rw[oN_get,if_pos e])),h];by_cases k:x<n
   . rw[if_pos (by omega),if_pos k];omega
   . rw[if_neg (by omega),if_neg k]
 . have hx':y<=(oN a x).getD n:=by
    rw[oN_get];split
    . rename_i e2;have:=ha e2;omega
    . exact hy
   rw[tN,tN_le n _ _ y hx' (by rw[oN_get,if_pos e];exact Nat.le_refl _) (.inr (by rw[oN_get,if_pos e])),h];by_cases k:y<n
   . rw[if_pos (by omega),if_pos k];omega
   . rw[if_neg (by omega),if_neg k]
theorem tgt_N {g:G} (hg:g.valid=true) {c:Cf} (hc:Conf pBfs g c) (h3:g.ids.length<=3) {v:Nat} (hv:v<g.ids.length) :
 (tgB g (dC c) v).1=((t3 g.ids.length (adN g 1 0) (adN g 2 0) (if v=1 then adN g 1 2 else adN g 2 1) (dN g c 0) (dN g c 1) (dN g c 2) v:Nat):Int):=by
 have hA:=adj_adj hg;rw[tgB];by_cases h0:v=0
 . rw[if_pos h0,t3,if_pos h0];rfl
 . rw[if_neg h0,t3,if_neg h0];simp only;have hn:∀u,adN g v u=true->u<g.ids.length/\u≠v:=fun u h=>⟨hA.rng v u hv h,fun e=>by rw[e] at h;rw[hA.irr v hv] at h;cases h⟩;have hle:∀u,adN g v u=true->mnD g (dC c) v<=((dN g c u:Nat):Int):=fun u h=>by rw[dN_int hc (hn u h).1];exact mnD_le _ h
   have hat:mnD g (dC c) v=1073741824\/∃u,adN g v u=true/\mnD g (dC c) v=((dN g c u:Nat):Int):=by
    rcases mnD_at g (dC c) v with h | ⟨u,h,e⟩
    . exact .inl h
    . exact .inr ⟨u,h,by rw[dN_int hc (hn u h).1];exact e⟩
   have hd0:=dN_le hc 0;have hd1:=dN_le hc 1;have hd2:=dN_le hc 2;generalize mnD g (dC c) v=m at *;have hnn:0<=m:=by
    rcases hat with h | ⟨u,h,e⟩
    . omega
    . rw[e];omega
   rcases (show v=1\/v=2 by omega) with rfl|rfl
   . rw[if_pos rfl,if_pos rfl];have q0:=hle 0;have q2:=hle 2;have hat':m=1073741824\/(adN g 1 0=true/\m=((dN g c 0:Nat):Int))\/(adN g 1 2=true/\m=((dN g c 2:Nat):Int)):=by
      rcases hat with h | ⟨u,h,e⟩
      . exact .inl h
      . obtain⟨a1,a2⟩:=hn u h;rcases (show u=0\/u=2 by omega) with rfl|rfl
        . exact .inr (.inl ⟨h,e⟩)
        . exact .inr (.inr ⟨h,e⟩)
     exact tN_cap hd0 hd2 (by omega) hat' q0 q2
   . rw[if_neg (show ¬ (2:Nat)=1 by omega),if_neg (show ¬ (2:Nat)=1 by omega)];have q0:=hle 0;have q1:=hle 1;have hat':m=1073741824\/(adN g 2 0=true/\m=((dN g c 0:Nat):Int))\/(adN g 2 1=true/\m=((dN g c 1:Nat):Int)):=by
      rcases hat with h | ⟨u,h,e⟩
      . exact .inl h
      . obtain⟨a1,a2⟩:=hn u h;rcases (show u=0\/u=1 by omega) with rfl|rfl
        . exact .inr (.inl ⟨h,e⟩)
        . exact .inr (.inr ⟨h,e⟩)
     exact tN_cap hd0 hd1 (by omega) hat' q0 q1
theorem tgt_N2 {g:G} (hg:g.valid=true) {c:Cf} (hc:Conf pBfs g c) (h3:g.ids.length<=3) {v:Nat} (hv:v<g.ids.length) :
 (tgB g (dC c) v).1=((t3 g.ids.length (adN g 1 0) (adN g 2 0) (adN g 1 2) (dN g c 0) (dN g c 1) (dN g c 2) v:Nat):Int):=by
 rw[tgt_N hg hc h3 hv];by_cases h1:v=1
 . rw[if_pos h1]
 . rw[if_neg h1];by_cases h0:v=0
   . rw[t3,t3,if_pos h0,if_pos h0]
   . have e:adN g 2 1=adN g 1 2:=by
      have hA:=adj_adj hg;rw[Bool.eq_iff_iff];exact⟨fun h=>hA.sym 2 1 (by omega) (by omega) h,fun h=>hA.sym 1 2 (by omega) (by omega) h⟩
     rw[e]
def rkG (g:G) (c:Cf):Nat:=rk3 g.ids.length (adN g 1 0) (adN g 2 0) (adN g 1 2) (dN g c 0) (dN g c 1) (dN g c 2)
def offN (g:G) (c:Cf):Nat:=(List.range 3).countP fun v=>(enN pBfs g c).testBit v
def muB (g:G) (c:Cf):Nat:=4*rkG g c+offN g c
theorem offN_le (g:G) (c:Cf):offN g c<=3:=by
 have:=List.countP_le_length (p:=fun v=>(enN pBfs g c).testBit v) (l:=List.range 3);simpa[offN] using this
theorem tgB_congr {g:G} {d d':Nat->Int} (h:∀v,v<g.ids.length->d v=d' v) (hg:g.valid=true) {v:Nat} (hv:v<g.ids.length):tgB g d v=tgB g d' v:=by
 obtain⟨f1,f2,f3,f4,f5,f6,f7⟩:=val_facts hg;have hok:=(okR_iff.1 (f6 v (by omega))).1;have e:∀l∈gR g.ports v,d l.1.toNat=d' l.1.toNat:=fun l hl=>h _ (by have:=hok l hl;omega);have em:mnD g d v=mnD g d' v:=by rw[mnD,mnD,List.map_congr_left e]
 rw[tgB,tgB,em,fpI_ext (q:=fun l=>decide (d' l.1.toNat=mnD g d' v)) (fun l hl=>by simp only[e l hl])]
theorem muB_dec {g:G} (hg:g.valid=true) (h3:g.ids.length<=3) {c:Cf} (hc:Conf pBfs g c) (hc':∀s,Part s (enN pBfs g c)->Conf pBfs g (stepC pBfs g c s)) {s:Nat} (h0:s≠0) (hs:Part s (enN pBfs g c)):muB g (stepC pBfs g c s)<muB g c:=by
 obtain⟨f1,f2,f3,f4,f5,f6,f7⟩:=val_facts hg;have hcn:=hc' s hs;have hst:=bfs_step hg hc hs;have hd:∀v,v<3->dN g (stepC pBfs g c s) v=nx3 (s.testBit v) (dN g c v) (t3 g.ids.length (adN g 1 0) (adN g 2 0) (adN g 1 2) (dN g c 0) (dN g c 1) (dN g c 2) v):=fun v hv3=>by
  by_cases hv:v<g.ids.length
  . have e1:=dN_int hcn hv;have e0:=dN_int hc hv;have et:=tgt_N2 hg hc h3 hv;cases hb:s.testBit v with
    | true =>
      have hen:=hs v hb;rw[bfs_en hg hc hv] at hen;have:=(hst v hv).1 hb (off_iffB.2 hen);have h2:dC (stepC pBfs g c s) v=(tgB g (dC c) v).1:=congrArg Prod.fst this;rw[nx3,if_pos rfl];omega
    | false =>
      have:=((hst v hv).2 (.inl hb)).1;have h2:dC (stepC pBfs g c s) v=dC c v:=this;rw[nx3,if_neg (by decide)];omega
  . have hb:s.testBit v=false:=by
     cases e:s.testBit v with
     | false=>rfl
     | true =>
       have:=hs v e;rw[en_bit,Bool.and_eq_true,decide_eq_true_eq] at this;omega
    rw[hb,nx3,if_neg (by decide),dN,dN,if_neg hv,if_neg hv]
 have hr:=rk3_dec (n:=g.ids.length) f1 h3 (adN g 1 0) (adN g 2 0) (adN g 1 2) (dN_le hc 0) (dN_le hc 1) (dN_le hc 2) (s.testBit 0) (s.testBit 1) (s.testBit 2);rw[<- hd 0 (by omega),<- hd 1 (by omega),<- hd 2 (by omega)] at hr;have ho:=offN_le g (stepC pBfs g c s);rcases hr with ⟨e0,e1,e2⟩|hr
 . have er:rkG g (stepC pBfs g c s)=rkG g c:=by rw[rkG,rkG,e0,e1,e2]
   rw[muB,muB,er];have hde:∀v,v<g.ids.length->dC (stepC pBfs g c s) v=dC c v:=fun v hv=>by
    have a1:=dN_int hcn hv;have a0:=dN_int hc hv;rcases (show v=0\/v=1\/v=2 by omega) with rfl|rfl|rfl<;>omega
   have hen:∀v,(enN pBfs g (stepC pBfs g c s)).testBit v=((enN pBfs g c).testBit v&&!s.testBit v):=fun v=>by
    by_cases hv:v<g.ids.length
    . rw[bfs_en hg hcn hv,bfs_en hg hc hv];have et:tgB g (dC (stepC pBfs g c s)) v=tgB g (dC c) v:=tgB_congr hde hg hv;cases hb:s.testBit v with
      | true =>
        have he:=hs v hb;rw[bfs_en hg hc hv] at he;have:=(hst v hv).1 hb (off_iffB.2 he);rw[Bool.not_true,Bool.and_false,offB,et];rw[decide_eq_false_iff_not];exact fun q=>q this
      | false =>
        obtain⟨x1,x2⟩:=(hst v hv).2 (.inl hb);rw[Bool.not_false,Bool.and_true,offB,offB,et,show dC (stepC pBfs g c s) v=dC c v from x1,show pC (stepC pBfs g c s) v=pC c v from x2]
    . rw[en_bit,en_bit,decide_eq_false hv];rfl
   have hlt:offN g (stepC pBfs g c s)<offN g c:=by
    rw[offN,offN,List.range_succ,List.range_succ,List.range_succ,List.range_zero];simp only[List.nil_append,List.countP_append,List.countP_singleton];simp only[hen];obtain⟨v,hb⟩:∃v,s.testBit v=true:=by
     apply Classical.byContradiction;intro q;exact h0 (Nat.eq_of_testBit_eq fun v=>by
      rw[Nat.zero_testBit];cases e:s.testBit v with
      | false=>rfl
      | true=>exact(q ⟨v,e⟩).elim)
    have hev:=hs v hb;have hv:v<3:=by
     have:=hev;rw[en_bit,Bool.and_eq_true,decide_eq_true_eq] at this;omega
    have g0:=hs 0;have g1:=hs 1;have g2:=hs 2;generalize (enN pBfs g c).testBit 0=x0 at *;generalize (enN pBfs g c).testBit 1=x1 at *;generalize (enN pBfs g c).testBit 2=x2 at *;rcases (show v=0\/v=1\/v=2 by omega) with rfl|rfl|rfl
    . have:=g0 hb;subst this;rw[hb];cases x1<;>cases x2<;>cases s.testBit 1<;>cases s.testBit 2<;>simp_all
    . have:=g1 hb;subst this;rw[hb];cases x0<;>cases x2<;>cases s.testBit 0<;>cases s.testBit 2<;>simp_all
    . have:=g2 hb;subst this;rw[hb];cases x0<;>cases x1<;>cases s.testBit 0<;>cases s.testBit 1<;>simp_all
   omega
 . have:rkG g (stepC pBfs g c s)<rkG g c:=hr;rw[muB,muB];omega
end Go.Proofs.YtobpogkghbakmaaGreatDoor
namespace Go.Proofs.YtobpogkghbakmaaGreatDoor
open Go.Eng Go.Plain
set_option maxRecDepth 100000
set_option linter.unusedVariables false
structure BIn (g:G) (c:Cf) (k:Cnt):Prop where
 hr:k.rounds<=g.ecc.toNat
 ok:Go.Plain.Tree.Ok g.ids.length (Dg g) (upI g) (stB c) k.rounds
 bad:∀v,v<g.ids.length->Go.Plain.Tree.bad (Dg g) (upI g) (stB c) k.rounds v->k.pend.testBit v=true
theorem badB_en {g:G} (h:g.conn=true) {c:Cf} (hc:Conf pBfs g c) {k:Nat} (ho:Go.Plain.Tree.Ok g.ids.length (Dg g) (upI g) (stB c) k) {v:Nat} (hv:v<g.ids.length) (hb:Go.Plain.Tree.bad (Dg g) (upI g) (stB c) k v):(enN pBfs g c).testBit v=true:=by
 rw[bfs_en (conn_facts h).1 hc hv];exact off_iffB.1 (ho.off_bad (netB h) (ruleB h) hv hb)
theorem bin_start {g:G} (h:g.conn=true) {c:Cf} (hc:Conf pBfs g c):BIn g c (cnt0 (enN pBfs g c)) :=
 ⟨by simp[cnt0],Go.Plain.Tree.Ok.start (bfs_nn hc),fun v hv hb=>badB_en h hc (Go.Plain.Tree.Ok.start (bfs_nn hc)) hv hb⟩
theorem maxL_memB:∀{l:List Int} {a:Int} (m:Int),a∈l->a<=maxL l m
 | [],_,_,h=>by simp at h
 | x::r,a,m,h=>by
   rw[maxL];rcases List.mem_cons.1 h with e|e
   . subst e;refine Int.le_trans ?_ (maxL_ge r _);split<;>omega
   . exact maxL_memB _ e
theorem ecc_topB {g:G} (h:g.conn=true) {v:Nat} (hv:v<g.ids.length):Dg g v<=g.ecc.toNat:=by
 obtain⟨h1,h2⟩:=conn_facts h;obtain⟨f1,f2,f3,f4,f5,f6,f7⟩:=val_facts h1;have d1:=dg_int h hv;have e:g.ecc=maxL (dst g 0) (-1):=by rw[G.ecc,if_pos h]
 have hm:gI (dst g 0) v<=maxL (dst g 0) (-1):=maxL_memB _ (gI_mem (by rw[dst_len];omega));omega
theorem dg_ecc {g:G} (h:g.conn=true) {v:Nat} (hv:v<g.ids.length):Dg g v<=g.ecc.toNat:=ecc_topB h hv
theorem bin_step {g:G} (h:g.conn=true) {c:Cf} (hc:Conf pBfs g c) {k:Cnt} (hi:BIn g c k) {s:Nat} (hs:Part s (enN pBfs g c)) (hc':Conf pBfs g (stepC pBfs g c s)) (hn:enN pBfs g (stepC pBfs g c s)≠0) :
 BIn g (stepC pBfs g c s) (k.add s (enN pBfs g (stepC pBfs g c s))):=by
 obtain⟨h1,h2⟩:=conn_facts h;obtain⟨f1,f2,f3,f4,f5,f6,f7⟩:=val_facts h1;have hstep:=bfs_step h1 hc hs;have hlf:∀v,v<g.ids.length->((lft k s (enN pBfs g (stepC pBfs g c s))).testBit v=true↔(k.pend.testBit v=true/\s.testBit v=false)/\(enN pBfs g (stepC pBfs g c s)).testBit v=true):=fun v hv=>by
  simp only[lft,Nat.testBit_and,ndiff_bit (show v<32 by omega),Bool.and_eq_true,Bool.not_eq_true']
 obtain⟨hr,ho,hb⟩:=hi;obtain⟨ho',hb'⟩:=ho.step (netB h) (ruleB h) hstep;have hbl:∀v,v<g.ids.length->Go.Plain.Tree.bad (Dg g) (upI g) (stB (stepC pBfs g c s)) k.rounds v->(lft k s (enN pBfs g (stepC pBfs g c s))).testBit v=true:=fun v hv q=>by
  obtain⟨q1,q2⟩:=hb' v hv q;exact(hlf v hv).2 ⟨⟨hb v hv q1,q2⟩,badB_en h hc' ho' hv q⟩
 by_cases hz:lft k s (enN pBfs g (stepC pBfs g c s))=0
 . rw[Cnt.add,if_pos hz];have hnx:=ho'.next fun v hv q=>by
    have:=hbl v hv q;rw[hz] at this;simp at this
   by_cases hE:k.rounds+1<=g.ecc.toNat
   . exact⟨hE,hnx,fun v hv q=>badB_en h hc' hnx hv q⟩
   . exfalso;refine hn (Nat.eq_of_testBit_eq fun v=>?_);rw[Nat.zero_testBit];by_cases hv:v<g.ids.length
     . rw[bfs_en h1 hc' hv];have:=hnx.all (netB h) (ruleB h) hv (by have:=dg_ecc h hv;omega);rw[off_iffB] at this;simpa using this
     . rw[en_bit,decide_eq_false hv];rfl
 . rw[Cnt.add,if_neg hz];exact⟨hr,ho',hbl⟩
def bleg (g:G) (c:Cf):Bool:=decide (enN pBfs g c=0)
theorem bleg_no {g:G} {c:Cf} (h:bleg g c=false):enN pBfs g c≠0:=of_decide_eq_false h
theorem bfs_srv (hp:PrOk pBfs) {g:G} (h:g.conn=true) (h3:g.ids.length<=3) (kd:Int):Srv pBfs g kd (bleg g) (g.ecc+1) (-1) (BIn g) where
 closed c s hc hl hs:=by
  exfalso;refine hs.ne (Nat.eq_of_testBit_eq fun v=>?_);have hz:enN pBfs g c=0:=of_decide_eq_true hl;rw[Nat.zero_testBit];cases e:s.testBit v with
  | false=>rfl
  | true=>have:=hs.part v e;rw[hz,Nat.zero_testBit] at this;cases this
 en c hc hl:=bleg_no hl
 start c hc _:=bin_start h hc
 step c n s hc hi hl hs hl':=bin_step h hc hi hs.part (step_conf hp (conn_facts h).1 hc hs.part) (bleg_no hl')
 rounds c n hc hi _:=by have:=hi.hr;have:=ecc_range g h;omega
 moves hM:=by omega
 ends:=by
  have key:∀t c,Conf pBfs g c->Lng pBfs g kd (bleg g) t c->t<=muB g c:=by
   intro t
   induction t with
   | zero=>intro c _ _;exact Nat.zero_le _
   | succ t ih =>
     intro c hc hL;cases hL with
     | step s hs hl hn =>
       have:=ih _ (step_conf hp (conn_facts h).1 hc hs.part) hn;have:=muB_dec (conn_facts h).1 h3 hc (fun s hs=>step_conf hp (conn_facts h).1 hc hs) hs.ne hs.part;omega
  refine⟨32,fun c hc _ hL=>?_⟩;have h1:=key 32 c hc hL;have h2:=offN_le g c;have h4:rkG g c<8:=rk3_lt _ _ _ _ _ _ _;rw[muB] at h1;omega
end Go.Proofs.YtobpogkghbakmaaGreatDoor
namespace Go.Eng
open Go.MapKept (bytes_beq)
noncomputable def fN {β:Type} (n:Nat) (K:Nat->β):β:=@Nat.rec (fun _=>β) (K 0) (fun m _=>K (Nat.succ m)) n
theorem fN_eq {β:Type} (n:Nat) (K:Nat->β):fN n K=K n:=by cases n<;>rfl
noncomputable def fI {β:Type} (n:Int) (K:Int->β):β:=@Int.rec (fun _=>β) (fun a=>fN a fun a=>K (.ofNat a)) (fun a=>fN a fun a=>K (.negSucc a)) n
theorem fI_eq {β:Type} (n:Int) (K:Int->β):fI n K=K n:=by cases n<;>simp[fI,fN_eq]
noncomputable def fB {β:Type} (b:Bool) (K:Bool->β):β:=@Bool.rec (fun _=>β) (K false) (K true) b
theorem fB_eq {β:Type} (b:Bool) (K:Bool->β):fB b K=K b:=by cases b<;>rfl
noncomputable def lk {α:Type} (l:List (Nat×α)) (t:Nat):Option α :=
 @List.rec (Nat×α) (fun _=>Option α) none (fun p _ ih=>@Prod.rec Nat α (fun _=>Option α) (fun k v=>@Bool.rec (fun _=>Option α) ih (some v) (Nat.beq k t)) p) l
theorem lk_eq {α:Type} (l:List (Nat×α)) (t:Nat):lk l t=look l t:=by
 induction l with
 | nil=>rfl
 | cons p r ih =>
   obtain⟨k,v⟩:=p;unfold look;show @Bool.rec (fun _=>Option α) (lk r t) (some v) (Nat.beq k t)=_;cases Nat.beq k t<;>simp[ih]
noncomputable def nt {α:Type} (l:List α) (n:Nat):Option α :=
 @List.rec α (fun _=>Nat->Option α) (fun _=>none) (fun x _ ih n=>@Nat.rec (fun _=>Option α) (some x) (fun m _=>ih m) n) l n
theorem nt_eq {α:Type} (l:List α) (n:Nat):nt l n=nth l n:=by
 induction l generalizing n with
 | nil=>rfl
 | cons x r ih=>cases n with
   | zero=>rfl
   | succ n=>exact ih n
theorem nth_get {α:Type}:∀(l:List α) (n:Nat),nth l n=l[n]?
 | [],n=>by simp[nth]
 | x::r,0=>by simp[nth]
 | x::r,n+1=>by simp[nth,nth_get r n]
noncomputable def dr {α:Type} (l:List α) (n:Nat):List α :=
 @List.rec α (fun _=>Nat->List α) (fun _=>[]) (fun x r ih n=>@Nat.rec (fun _=>List α) (x::r) (fun m _=>ih m) n) l n
theorem dr_eq {α:Type} (l:List α) (n:Nat):dr l n=l.drop n:=by
 induction l generalizing n with
 | nil=>simp[dr]
 | cons x r ih=>cases n with
   | zero=>rfl
   | succ n=>exact ih n
noncomputable def fH {α β:Type} (l:List α) (K:List α->β):β:=@List.rec α (fun _=>β) (K []) (fun x r _=>K (x::r)) l
theorem fH_eq {α β:Type} (l:List α) (K:List α->β):fH l K=K l:=by cases l<;>rfl
noncomputable def tk {α β:Type} (n:Nat):List α->(List α->Option β)->Option β :=
 @Nat.rec (fun _=>List α->(List α->Option β)->Option β) (fun _ K=>K []) (fun _ ih l K=>@List.rec α (fun _=>Option β) none (fun x r _=>ih r fun q=>K (x::q)) l) n
theorem tk_eq {α β:Type} (n:Nat) (l:List α) (K:List α->Option β):tk n l K=if n<=l.length then K (l.take n) else none:=by
 induction n generalizing l K with
 | zero=>simp only[Nat.zero_le,if_true,List.take_zero];rfl
 | succ n ih=>cases l with
   | nil=>rfl
   | cons x r =>
     show tk n r (fun q=>K (x::q))=_;rw[ih];simp
def bl:Nat->Nat->List UInt8
 | 0,_=>[]
 | l+1,c=>UInt8.ofNat (c % 256)::bl l (c / 256)
def bytesOf (l c:Nat):ByteArray:=⟨⟨bl l c⟩⟩
def encL:List UInt8->Nat
 | []=>0
 | b::r=>b.toNat+256*encL r
theorem bl_length:∀(l c:Nat),(bl l c).length=l
 | 0,_=>rfl
 | l+1,c=>by simp[bl,bl_length]
theorem bl_enc:∀(l:List UInt8),bl l.length (encL l)=l
 | []=>rfl
 | b::r=>by
   have hb:=b.toNat_lt;simp only[List.length_cons,bl,encL];rw[show(b.toNat+256*encL r) % 256=b.toNat by omega,show(b.toNat+256*encL r) / 256=encL r by omega,bl_enc r];simp
theorem bl_get:∀(l c m:Nat),m<l->(bl l c)[m]?=some (UInt8.ofNat (c / 256 ^ m % 256))
 | 0,c,m,h=>by omega
 | l+1,c,0,h=>by simp[bl]
 | l+1,c,m+1,h=>by
   simp only[bl,List.getElem?_cons_succ];rw[bl_get l _ m (by omega),Nat.div_div_eq_div_mul,Nat.pow_succ,Nat.mul_comm 256]
theorem bl_drop:∀(l c m:Nat),(bl l c).drop m=bl (l-m) (c / 256 ^ m)
 | 0,c,m=>by simp[bl]
 | l+1,c,0=>by simp
 | l+1,c,m+1=>by
   simp only[bl,List.drop_succ_cons];rw[bl_drop l _ m,Nat.div_div_eq_div_mul,Nat.pow_succ,Nat.mul_comm 256,show l+1-(m+1)=l-m by omega]
theorem bl_take:∀(l c m:Nat),m<=l->(bl l c).take m=bl m c
 | l,c,0,h=>by simp[bl]
 | 0,c,m+1,h=>by omega
 | l+1,c,m+1,h=>by simp[bl,bl_take l _ m (by omega)]
theorem bl_mod:∀(l c:Nat),bl l (c % 256 ^ l)=bl l c
 | 0,c=>rfl
 | l+1,c=>by
   simp only[bl];have h1:c % 256 ^ (l+1) % 256=c % 256:=by
    rw[Nat.pow_succ,Nat.mul_comm];exact Nat.mod_mul_right_mod _ _ _
   have h2:c % 256 ^ (l+1) / 256=c / 256 % 256 ^ l:=by
    rw[Nat.pow_succ,Nat.mul_comm,Nat.mod_mul_right_div_self]
   rw[h1,h2,bl_mod]
theorem bl_inj:∀(l c d:Nat),bl l c=bl l d->c % 256 ^ l=d % 256 ^ l
 | 0,c,d,_=>by simp[Nat.mod_one]
 | l+1,c,d,h=>by
   simp only[bl,List.cons.injEq] at h;have h1:c % 256=d % 256:=by
    have:=congrArg UInt8.toNat h.1;simpa using this
   have h2:=bl_inj l _ _ h.2;rw[Nat.pow_succ,Nat.mul_comm,Nat.mod_mul,Nat.mod_mul,h1,h2]
theorem bl_app:∀(l c l' c':Nat),bl l c++bl l' c'=bl (l+l') (c % 256 ^ l+256 ^ l*c')
 | 0,c,l',c'=>by simp[bl,Nat.mod_one]
 | l+1,c,l',c'=>by
   rw[show l+1+l'=(l+l')+1 by omega];simp only[bl,List.cons_append];rw[bl_app l _ l' c'];have e:c % 256 ^ (l+1)=c % 256+256*(c / 256 % 256 ^ l):=by
    rw[Nat.pow_succ,Nat.mul_comm (256 ^ l),Nat.mod_mul]
   have e2:256 ^ (l+1)*c'=256*(256 ^ l*c'):=by rw[Nat.pow_succ,Nat.mul_comm (256 ^ l),Nat.mul_assoc]
   rw[e,e2];have hlt:c % 256<256:=Nat.mod_lt _ (by omega);rw[show(c % 256+256*(c / 256 % 256 ^ l)+256*(256 ^ l*c')) % 256=c % 256 by omega,show(c % 256+256*(c / 256 % 256 ^ l)+256*(256 ^ l*c')) / 256=c / 256 % 256 ^ l+256 ^ l*c' by omega]
theorem bytesOf_size (l c:Nat):(bytesOf l c).size=l:=by
 show(bl l c).length=l;exact bl_length l c
theorem bytesOf_enc (b:ByteArray):bytesOf b.size (encL b.data.toList)=b:=by
 obtain⟨⟨l⟩⟩:=b;show ByteArray.mk ⟨bl l.length (encL l)⟩=_;rw[bl_enc]
theorem bytesOf_get (l c m:Nat) (h:m<l):((bytesOf l c).get! m).toNat=c / 256 ^ m % 256:=by
 have h1:=bl_get l c m h;show((bytesOf l c).data[m]!).toNat=_;have:(bytesOf l c).data[m]! = UInt8.ofNat (c / 256 ^ m % 256):=by
  rw[getElem!_def,show(bytesOf l c).data[m]?=some (UInt8.ofNat (c / 256 ^ m % 256)) from by simpa[bytesOf] using h1]
 rw[this];simp
theorem bytesOf_extract (l c lo hi:Nat) (h:hi<=l):(bytesOf l c).extract lo hi=bytesOf (hi-lo) (c / 256 ^ lo):=by
 apply ByteArray.ext;rw[ByteArray.data_extract];show(Array.mk (bl l c)).extract lo hi=Array.mk (bl (hi-lo) (c / 256 ^ lo));apply Array.ext';simp only[Array.toList_extract,List.extract_eq_take_drop];rw[bl_drop,bl_take _ _ _ (by omega)]
theorem bytesOf_mod (l c:Nat):bytesOf l (c % 256 ^ l)=bytesOf l c:=by unfold bytesOf;rw[bl_mod]
theorem bytesOf_app (l c l' c':Nat):bytesOf l c++bytesOf l' c'=bytesOf (l+l') (c % 256 ^ l+256 ^ l*c'):=by
 apply ByteArray.ext;rw[ByteArray.data_append];show Array.mk (bl l c)++Array.mk (bl l' c')=Array.mk _;simp[bl_app]
def eqS (l c l' c':Nat):Bool:=match Nat.beq l l' with
 | true=>Nat.beq (Nat.mod c (Nat.pow 256 l)) (Nat.mod c' (Nat.pow 256 l))
 | false=>false
theorem eqS_eq (l c l' c':Nat):eqS l c l' c'=(bytesOf l c == bytesOf l' c'):=by
 unfold eqS;have hb:(bytesOf l c == bytesOf l' c')=decide (bytesOf l c=bytesOf l' c'):=by
  rw[Bool.eq_iff_iff,bytes_beq];simp
 rw[hb];split
 . rename_i h;have h:=Nat.eq_of_beq_eq_true h;subst h;rw[Bool.eq_iff_iff,Nat.beq_eq,decide_eq_true_eq];constructor
   . intro h;have h:c % 256 ^ l=c' % 256 ^ l:=h;rw[<- bytesOf_mod l c,h,bytesOf_mod]
   . intro h;exact bl_inj l c c' (by simpa[bytesOf] using h)
 . rename_i h;symm;rw[decide_eq_false_iff_not];intro e;have:=congrArg ByteArray.size e;rw[bytesOf_size,bytesOf_size] at this;subst this;simp at h
inductive C where
 | nilptr|nilmap|nilfunc|niliface
 | unit
 | map (k:Nat)
 | fn (f:Fn) (b:Bool) (cap:List C)
 | iface (t:TypeId) (v:C)
 | fe (n s:Nat) (z:List C) (rows:List (List C)) (i j:Nat)
 | oel (k s i j:Nat)
 | fz (n s:Nat) (full:Bool) (z:List C) (rows:List (List C))
 | tup (vs:List C)
 | agg (cs:List C)
 | nilslice
 | vec (k s lo len:Nat)
 | loc (k off:Nat)
 | str (l c:Nat)
 | bool (b:Bool)
 | int (k:IntKind) (n:Int)
 deriving Inhabited
def lastV:List V->V
 | []=>default
 | [v]=>v
 | _::r=>lastV r
def tabz (z:List V) (rows:List (List V)):Nat->Nat->V:=fun i j=>(rows.getD i z).getD j (lastV z)
mutual
def C.v:C->V
 | .bool b=>.bool b
 | .int k n=>.int k n
 | .str l c=>.str (bytesOf l c)
 | .nilptr=>.nilptr | .nilslice=>.nilslice | .nilmap=>.nilmap | .nilfunc=>.nilfunc | .niliface=>.niliface
 | .loc k off=>.loc k off
 | .oel k s i j=>.oel k s i j
 | .vec k s lo len=>.vec k s lo len
 | .fz n s full z rows=>.fz n s full (tabz (C.vs z) (C.vss rows))
 | .fe n s z rows i j=>.fe n s (tabz (C.vs z) (C.vss rows)) i j
 | .map k=>.map k
 | .fn f b cap=>.fn f b (C.vs cap)
 | .iface t v=>.iface t v.v
 | .agg cs=>.agg (C.vs cs)
 | .tup cs=>.tup (C.vs cs)
 | .unit=>.raw (.tuple #[])
def C.vs:List C->List V
 | []=>[]
 | c::r=>c.v::C.vs r
def C.vss:List (List C)->List (List V)
 | []=>[]
 | c::r=>C.vs c::C.vss r
end
theorem C.vs_map:∀(l:List C),C.vs l=l.map C.v
 | []=>by simp[C.vs]
 | c::r=>by simp[C.vs,C.vs_map r]
theorem C.vss_map:∀(l:List (List C)),C.vss l=l.map C.vs
 | []=>by simp[C.vss]
 | c::r=>by simp[C.vss,C.vss_map r]
theorem C.vs_length (l:List C):(C.vs l).length=l.length:=by simp[C.vs_map]
theorem C.vs_get (l:List C) (i:Nat):(C.vs l)[i]?=(l[i]?).map C.v:=by simp[C.vs_map]
theorem C.vss_get (l:List (List C)) (i:Nat):(C.vss l)[i]?=(l[i]?).map C.vs:=by simp[C.vss_map]
abbrev CEnv:=List (Nat×C)
inductive CB where
 | cells (cs:List C)
 | vec (n s:Nat) (z:List C) (rows:List (List C))
 | map (ik:IntKind) (es:List (Int×C))
 | mapS (es:List ((Nat×Nat)×C))
 deriving Inhabited
abbrev COwn:=List (Nat×CB)
def CB.b:CB->Blk
 | .cells cs=>.cells (C.vs cs)
 | .vec n s z rows=>.vec n s (tabz (C.vs z) (C.vss rows))
 | .map ik es=>.map (.one ik) (es.map fun p=>(p.1,p.2.v))
 | .mapS es=>.map .str (es.map fun p=>(bytesOf p.1.1 p.1.2,p.2.v))
def envV (e:CEnv):Env:=e.map fun p=>(p.1,p.2.v)
def ownV (o:COwn):Own:=o.map fun p=>(p.1,p.2.b)
theorem look_map {α β:Type} (f:α->β) (l:List (Nat×α)) (t:Nat):look (l.map fun p=>(p.1,f p.2)) t=(look l t).map f:=by
 induction l with
 | nil=>rfl
 | cons p r ih =>
   simp only[List.map_cons,look];cases Nat.beq p.1 t<;>simp[ih]
theorem look_envV {e:CEnv} {t:Nat} {c:C} (h:lk e t=some c):look (envV e) t=some c.v:=by
 rw[lk_eq] at h;rw[envV,look_map,h];rfl
theorem look_ownV {o:COwn} {t:Nat} {c:CB} (h:lk o t=some c):look (ownV o) t=some c.b:=by
 rw[lk_eq] at h;rw[ownV,look_map,h];rfl
def ofV0 (v:V):Option C:=match v with
 | .bool b=>some (.bool b)
 | .int k n=>some (.int k n)
 | .str s=>some (.str s.size (encL s.data.toList))
 | .nilptr=>some .nilptr | .nilslice=>some .nilslice | .nilmap=>some .nilmap | .nilfunc=>some .nilfunc | .niliface=>some .niliface
 | .fn f b []=>some (.fn f b [])
 | _=>none
theorem ofV0_ok {v:V} {c:C} (h:ofV0 v=some c):c.v=v:=by
 unfold ofV0 at h;split at h<;>first
  | (cases h;done)
  | (cases h;simp[C.v,C.vs,bytesOf_enc])
noncomputable def ofVs (l:List V):Option (List C):=@List.rec V (fun _=>Option (List C)) (some []) (fun v _ ih=>match ofV0 v with
 | some c=>match ih with
   | some l=>some (c::l)
   | none=>none
 | none=>none) l
theorem ofVs_ok:∀(l:List V) {cs:List C},ofVs l=some cs->C.vs cs=l
 | [],cs,h=>by have h:some []=some cs:=h;cases h;simp[C.vs]
 | v::r,cs,h=>by
   have h:(match ofV0 v with
    | some c=>match ofVs r with
      | some l=>some (c::l)
      | none=>none
    | none=>none)=some cs:=h
   split at h
   . rename_i c hc;split at h
     . rename_i l hl;cases h;simp[C.vs,ofV0_ok hc,ofVs_ok r hl]
     . cases h
   . cases h
noncomputable def ofV (v:V):Option C:=match v with
 | .agg cs=>match ofVs cs with|some l=>some (.agg l)|none=>none
 | v=>ofV0 v
theorem ofV_ok (v:V) {c:C} (h:ofV v=some c):c.v=v:=by
 unfold ofV at h;split at h
 . split at h
   . rename_i l hl;cases h;simp[C.v,ofVs_ok _ hl]
   . cases h
 . exact ofV0_ok h
end Go.Eng
namespace Go.Eng
open Go.IntWalk
noncomputable def gx (x:X) (env:CEnv):Option C:=match x with | .t n=>lk env n | .k v=>ofV v
theorem gx_ok {x:X} {env:CEnv} {c:C} {K:V->Prop} (h:gx x env=some c) (hK:K c.v):x.get (envV env) K:=by
 cases x with
 | t n=>simp only[gx] at h;simp only[X.get,look_envV h];exact hK
 | k v=>simp only[gx] at h;rw[ofV_ok v h] at hK;exact hK
noncomputable def gxs (env:CEnv) (l:List X):Option (List C):=@List.rec X (fun _=>Option (List C)) (some []) (fun x _ ih=>match gx x env with
 | some c=>match ih with|some l=>some (c::l)|none=>none
 | none=>none) l
theorem gxs_cons (env:CEnv) (x:X) (r:List X):gxs env (x::r)=match gx x env with
 | some c=>match gxs env r with|some l=>some (c::l)|none=>none
 | none=>none:=rfl
theorem gxs_ok {env:CEnv}:∀{xs:List X} {cs:List C} {K:List V->Prop},gxs env xs=some cs->K (C.vs cs)->X.gets (envV env) xs K
 | [],cs,K,h,hK=>by have h:some []=some cs:=h;cases h;simpa[C.vs,X.gets] using hK
 | x::r,cs,K,h,hK=>by
   rw[gxs_cons] at h;split at h
   . rename_i c hc;split at h
     . rename_i l hl;cases h;exact gx_ok hc (gxs_ok hl (by simpa[C.vs] using hK))
     . cases h
   . cases h
theorem cmp_ok {b:Bool} {K:V->Prop} (hK:K (.bool b)):cmpK b K:=by
 cases b
 . exact⟨fun h=>(by cases h),fun _=>hK⟩
 . exact⟨fun _=>hK,fun h=>(by cases h)⟩
noncomputable def cmpC (b:Bool):Option C:=fB b fun b=>some (.bool b)
theorem cmpC_ok {b:Bool} {c:C} {K:V->Prop} (h:cmpC b=some c) (hK:K c.v):cmpK b K:=by
 simp only[cmpC,fB_eq,Option.some.injEq] at h;subst h;exact cmp_ok (by simpa[C.v] using hK)
def kEq (a b:IntKind):Bool:=Nat.beq a.ctorIdx b.ctorIdx
theorem kEq_ok {a b:IntKind} (h:kEq a b=true):a=b:=by cases a<;>cases b<;>first|rfl|(exact absurd h (by decide))
def mxN:IntKind->Nat
 | .i8=>127 | .i16=>32767 | .i32=>2147483647 | .i64=>9223372036854775807
 | .u8=>255 | .u16=>65535 | .u32=>4294967295 | .u64=>18446744073709551615
def wrC (k:IntKind) (n:Int):Int:=match n with
 | .ofNat m=>match Nat.ble m (mxN k) with|true=>.ofNat m|false=>k.wrap (.ofNat m)
 | .negSucc m=>k.wrap (.negSucc m)
theorem wrC_eq (k:IntKind) (n:Int):wrC k n=k.wrap n:=by
 unfold wrC;split
 . split
   . rename_i h;have h:=Nat.le_of_ble_eq_true h;symm;rw[Int.ofNat_eq_natCast];cases k<;>simp only[mxN] at h
     . exact i8_in _ (by omega)
     . exact i16_in _ (by omega)
     . exact i32_in _ (by omega)
     . exact i64_in _ (by omega)
     . exact u8_in _ (by omega)
     . exact u16_in _ (by omega)
     . exact u32_in _ (by omega)
     . exact u64_in _ (by omega)
   . rfl
 . rfl
noncomputable def arC (k:IntKind) (n:Int):Option C:=fI (wrC k n) fun m=>some (.int k m)
theorem arC_ok {k:IntKind} {n:Int} {c:C} {K:V->Prop} (h:arC k n=some c) (hK:K c.v):Ar k n fun m=>K (.int k m):=by
 simp only[arC,fI_eq,wrC_eq,Option.some.injEq] at h;subst h;exact⟨_,rfl,by simpa[C.v] using hK⟩
noncomputable def svC (k:IntKind) (n:Int):Option C:=fI n fun m=>some (.int k m)
theorem svC_ok {k:IntKind} {n:Int} {c:C} {K:V->Prop} (h:svC k n=some c) (hK:K c.v):Sv n fun m=>K (.int k m):=by
 simp only[svC,fI_eq,Option.some.injEq] at h;subst h;exact⟨_,rfl,by simpa[C.v] using hK⟩
def ieq:Int->Int->Bool
 | .ofNat a,.ofNat b=>Nat.beq a b
 | .negSucc a,.negSucc b=>Nat.beq a b
 | _,_=>false
theorem ieq_eq (a b:Int):ieq a b=(a == b):=by
 rw[Bool.eq_iff_iff,beq_iff_eq];cases a<;>cases b<;>simp[ieq]<;>omega
def ile:Int->Int->Bool
 | .ofNat a,.ofNat b=>Nat.ble a b
 | .negSucc a,.negSucc b=>Nat.ble b a
 | .negSucc _,.ofNat _=>true
 | .ofNat _,.negSucc _=>false
theorem ile_eq (a b:Int):ile a b=decide (a<=b):=by
 rw[Bool.eq_iff_iff,decide_eq_true_eq];cases a<;>cases b<;>simp[ile]<;>omega
noncomputable def cint (op:BinOp) (k:IntKind) (a b:Int):Option C :=
 match op with
 | .add=>arC k (Int.add a b)
 | .sub=>arC k (Int.sub a b)
 | .mul=>arC k (Int.mul a b)
 | .quo=>match ieq b 0 with|true=>none|false=>arC k (a.tdiv b)
 | .rem=>match ieq b 0 with|true=>none|false=>svC k (a.tmod b)
 | .and=>svC k (bitI .and k a b)
 | .or=>svC k (bitI .or k a b)
 | .xor=>svC k (bitI .xor k a b)
 | .andNot=>svC k (bitI .andNot k a b)
 | .eql=>cmpC (ieq a b)
 | .neq=>cmpC (!(ieq a b))
 | .lss=>cmpC (!(ile b a))
 | .leq=>cmpC (ile a b)
 | .gtr=>cmpC (!(ile a b))
 | .geq=>cmpC (ile b a)
 | _=>none
theorem cint_ok {bt:BT} {op:BinOp} {k:IntKind} {a b:Int} {c:C} {K:V->Prop} (h:cint op k a b=some c) (hK:K c.v):vbin bt op (.int k a) (.int k b) K:=by
 unfold cint at h;cases op<;>simp only[vbin,decide_true]<;>simp only at h
 case add=>exact arC_ok h hK
 case sub=>exact arC_ok h hK
 case mul=>exact arC_ok h hK
 case quo =>
  split at h
  . cases h
  . rename_i hb;rw[ieq_eq] at hb;exact⟨by simpa using hb,arC_ok h hK⟩
 case rem =>
  split at h
  . cases h
  . rename_i hb;rw[ieq_eq] at hb;exact⟨by simpa using hb,svC_ok h hK⟩
 case and=>exact svC_ok h hK
 case or=>exact svC_ok h hK
 case xor=>exact svC_ok h hK
 case andNot=>exact svC_ok h hK
 case eql=>rw[ieq_eq] at h;exact cmpC_ok h hK
 case neq=>rw[ieq_eq] at h;exact cmpC_ok h hK
 case lss =>
  rw[ile_eq] at h;rw[show decide (a<b)=!decide (b<=a) by rw[Bool.eq_iff_iff];simp];exact cmpC_ok h hK
 case leq=>rw[ile_eq] at h;exact cmpC_ok h hK
 case gtr =>
  rw[ile_eq] at h;rw[show decide (a > b)=!decide (a<=b) by rw[Bool.eq_iff_iff];simp];exact cmpC_ok h hK
 case geq =>
  rw[ile_eq] at h;exact cmpC_ok h hK
 case shl=>cases h
 case shr=>cases h
noncomputable def strC (l c:Nat):Option C:=fN l fun l=>fN c fun c=>some (.str l c)
theorem strC_ok {l d:Nat} {c:C} (h:strC l d=some c):c.v=.str (bytesOf l d):=by
 simp only[strC,fN_eq,Option.some.injEq] at h;subst h;simp[C.v]
noncomputable def b_int2 (op:BinOp) (k:IntKind) (a:Int) (k':IntKind) (b:Int):Option C:=match op with
 | .shl=>match b with | .ofNat n=>arC k (a*2 ^ (min n k.bits)) | .negSucc _=>none
 | .shr=>match b with | .ofNat n=>svC k (a.fdiv (2 ^ (min n k.bits))) | .negSucc _=>none
 | op=>match kEq k k' with|true=>cint op k a b|false=>none
noncomputable def b_int (op:BinOp) (k:IntKind) (a:Int) (y:C):Option C:=match y with
 | .int k' b=>b_int2 op k a k' b
 | _=>none
noncomputable def b_str2 (op:BinOp) (l c l' c':Nat):Option C:=match op with
 | .eql=>cmpC (eqS l c l' c')
 | .neq=>cmpC (!(eqS l c l' c'))
 | .add=>match Nat.ble (l+l') 9223372036854775807 with
   | true=>strC (l+l') (Nat.add (Nat.mod c (Nat.pow 256 l)) (Nat.mul (Nat.pow 256 l) c'))
   | false=>none
 | _=>none
noncomputable def b_str (op:BinOp) (l c:Nat) (y:C):Option C:=match y with
 | .str l' c'=>b_str2 op l c l' c'
 | _=>none
noncomputable def b_bool (bt:BT) (op:BinOp) (a:Bool) (y:C):Option C:=match y with
 | .bool b=>match bt with
   | .bool=>match op with
     | .eql=>cmpC (a == b)
     | .neq=>cmpC (!(a == b))
     | _=>none
   | _=>none
 | _=>none
def b_slc (bt:BT) (op:BinOp) (n:Nat) (y:C):Option C:=match n with
 | 0=>none
 | _+1=>match y with
   | .nilslice=>match bt with
     | .slc=>match op with
       | .eql=>some (.bool false)
       | .neq=>some (.bool true)
       | _=>none
     | _=>none
   | _=>none
def b_nil (bt:BT) (op:BinOp) (y:C):Option C:=match y with
 | .nilslice=>match bt with
   | .slc=>match op with
     | .eql=>some (.bool true)
     | .neq=>some (.bool false)
     | _=>none
   | _=>none
 | _=>none
def andO (b:Bool) (o:Option Bool):Option Bool:=match o with
 | some t=>some (b&&t)
 | none=>none
theorem andO_some {b t:Bool} {o:Option Bool} (h:andO b o=some t):∃u,o=some u/\t=(b&&u):=by
 cases o with
 | none=>cases h
 | some u=>exact⟨u,rfl,(Option.some.inj h).symm⟩
noncomputable def eqFC:List Lf->List C->List C->Option Bool
 | [],[],[]=>some true
 | .int::ls,.int k a::r,.int k' b::r'=>match kEq k k' with
   | true=>andO (ieq a b) (eqFC ls r r')
   | false=>none
 | .bool::ls,.bool a::r,.bool b::r'=>andO (a == b) (eqFC ls r r')
 | .str::ls,.str l c::r,.str l' c'::r'=>andO (eqS l c l' c') (eqFC ls r r')
 | _,_,_=>none
theorem eqFC_ok:∀(ls:List Lf) (xs ys:List C) (t:Bool) (K:Bool->Prop),eqFC ls xs ys=some t->K t->eqLK ls (C.vs xs) (C.vs ys) K
 | [],[],[],t,K,h,hK=>by
   simp only[eqFC,Option.some.injEq] at h;subst h;simpa only[C.vs,eqLK] using hK
 | .int::ls,.int k a::r,.int k' b::r',t,K,h,hK=>by
   simp only[eqFC] at h;split at h
   . rename_i hk;have:=kEq_ok hk;subst this;obtain⟨u,e1,rfl⟩:=andO_some h;simp only[C.vs,C.v,eqLK,decide_true];exact eqFC_ok ls r r' u _ e1 (by rw[<- ieq_eq];exact hK)
   . cases h
 | .bool::ls,.bool a::r,.bool b::r',t,K,h,hK=>by
   simp only[eqFC] at h;obtain⟨u,e1,rfl⟩:=andO_some h;simp only[C.vs,C.v,eqLK];exact eqFC_ok ls r r' u _ e1 hK
 | .str::ls,.str l c::r,.str l' c'::r',t,K,h,hK=>by
   simp only[eqFC] at h;obtain⟨u,e1,rfl⟩:=andO_some h;simp only[C.vs,C.v,eqLK];exact eqFC_ok ls r r' u _ e1 (by rw[<- eqS_eq];exact hK)
 | [],_::_,_,_,_,h,_=>by simp[eqFC] at h
 | [],[],_::_,_,_,h,_=>by simp[eqFC] at h
 | _::_,[],_,_,_,h,_=>by simp[eqFC] at h
 | _::_,_::_,[],_,_,h,_=>by simp[eqFC] at h
noncomputable def b_agg (bt:BT) (op:BinOp) (xs:List C) (y:C):Option C:=match y with
 | .agg ys=>match bt with
   | .flat ls=>match op with
     | .eql=>match eqFC ls xs ys with|some t=>cmpC t|none=>none
     | .neq=>match eqFC ls xs ys with|some t=>cmpC (!t)|none=>none
     | _=>none
   | _=>none
 | _=>none
noncomputable def cbin (bt:BT) (op:BinOp) (x y:C):Option C :=
 match x with
 | .agg xs=>b_agg bt op xs y
 | .int k a=>b_int op k a y
 | .str l c=>b_str op l c y
 | .bool a=>b_bool bt op a y
 | .fz n _ _ _ _=>b_slc bt op n y
 | .vec _ _ _ n=>b_slc bt op n y
 | .nilslice=>b_nil bt op y
 | _=>none
theorem cbin_ok {bt:BT} {op:BinOp} {x y c:C} {K:V->Prop} (h:cbin bt op x y=some c) (hK:K c.v):vbin bt op x.v y.v K:=by
 unfold cbin at h;split at h
 . unfold b_agg at h;split at h
   . split at h
     . simp only[C.v,vbin];split at h
       . split at h
         . rename_i t ht;exact eqFC_ok _ _ _ t _ ht (cmpC_ok h hK)
         . cases h
       . split at h
         . rename_i t ht;exact eqFC_ok _ _ _ t _ ht (cmpC_ok h hK)
         . cases h
       . cases h
     . cases h
   . cases h
 . unfold b_int at h;split at h
   . rename_i k a _ k' b;unfold b_int2 at h;simp only[C.v];split at h
     . split at h
       . rename_i n;simp only[vbin];refine⟨by simp,?_⟩;have e:(Int.ofNat n).toNat=n:=rfl;rw[e];exact arC_ok h hK
       . cases h
     . split at h
       . rename_i n;simp only[vbin];refine⟨by simp,?_⟩;have e:(Int.ofNat n).toNat=n:=rfl;rw[e];exact svC_ok h hK
       . cases h
     . split at h
       . rename_i hk;have:=kEq_ok hk;subst this;exact cint_ok h hK
       . cases h
   . cases h
 . unfold b_str at h;split at h
   . unfold b_str2 at h;simp only[C.v,vbin];split at h
     . rw[eqS_eq] at h;exact cmpC_ok h hK
     . rw[eqS_eq] at h;exact cmpC_ok h hK
     . split at h
       . rename_i l c _ l' c' hle;rw[bytesOf_size,bytesOf_size];refine⟨fun _=>?_,fun hf=>?_⟩
         . rw[bytesOf_app];rw[strC_ok h] at hK;exact hK
         . have:=Nat.le_of_ble_eq_true hle;simp[this] at hf
       . cases h
     . cases h
   . cases h
 . unfold b_bool at h;split at h
   . split at h
     . split at h
       . simp only[C.v,vbin];exact cmpC_ok h hK
       . simp only[C.v,vbin];exact cmpC_ok h hK
       . cases h
     . cases h
   . cases h
 . unfold b_slc at h;split at h
   . cases h
   . split at h
     . split at h
       . split at h
         . cases h;simp only[C.v,vbin];exact⟨fun e=>(by cases e),fun _=>(by simpa[C.v] using hK)⟩
         . cases h;simp only[C.v,vbin];exact⟨fun e=>(by cases e),fun _=>(by simpa[C.v] using hK)⟩
         . cases h
       . cases h
     . cases h
 . unfold b_slc at h;split at h
   . cases h
   . split at h
     . split at h
       . split at h
         . cases h;simp only[C.v,vbin];exact⟨fun e=>(by cases e),fun _=>(by simpa[C.v] using hK)⟩
         . cases h;simp only[C.v,vbin];exact⟨fun e=>(by cases e),fun _=>(by simpa[C.v] using hK)⟩
         . cases h
       . cases h
     . cases h
 . unfold b_nil at h;split at h
   . split at h
     . split at h
       . cases h;simp only[C.v,vbin];simpa[C.v] using hK
       . cases h;simp only[C.v,vbin];simpa[C.v] using hK
       . cases h
     . cases h
   . cases h
 . cases h
noncomputable def cbd (x:Option X) (env:CEnv) (d n:Nat):Option Nat:=match x with
 | none=>some d
 | some x=>match gx x env with
   | some (.int _ (.ofNat m))=>match Nat.ble m n with|true=>some m|false=>none
   | _=>none
theorem cbd_ok {x:Option X} {env:CEnv} {d n m:Nat} {K:Nat->Prop} (h:cbd x env d n=some m) (hK:K m):bdK x (envV env) d n K:=by
 unfold cbd at h;split at h
 . cases h;exact hK
 . split at h
   . rename_i hx;split at h
     . rename_i hb;cases h;refine gx_ok hx ?_;simp only[C.v];exact⟨_,rfl,Nat.le_of_ble_eq_true hb,hK⟩
     . cases h
   . cases h
theorem shiftF_tabz (l:Nat) (z:List V) (rows:List (List V)):shiftF l (tabz z rows)=tabz z (rows.drop l):=by
 funext i j;rw[shiftF_eq];simp[tabz,List.getD_eq_getElem?_getD]
theorem shiftF_tabzC (l:Nat) (z:List C) (rows:List (List C)):shiftF l (tabz (C.vs z) (C.vss rows))=tabz (C.vs z) (C.vss (rows.drop l)):=by
 rw[shiftF_tabz,C.vss_map,C.vss_map,List.map_drop]
noncomputable def cslc (own:COwn) (s:Nat) (x:X) (lo hi:Option X) (env:CEnv):Option C :=
 match gx x env with
 | some (.fz n s' full z rows)=>match Nat.beq s s' with
   | true=>match cbd hi env n n with
     | some h=>match cbd lo env 0 h with
       | some l=>fN (h-l) fun m=>fH (dr rows l) fun q=>some (.fz m s (match hi with|none=>full|some _=>false) z q)
       | none=>none
     | none=>none
   | false=>none
 | some .nilslice=>match cbd hi env 0 0 with
   | some h=>match cbd lo env 0 h with
     | some _=>some .nilslice
     | none=>none
   | none=>none
 | some (.vec k s' lo0 len)=>match Nat.beq s s' with
   | true=>match lk own k with
     | some (.vec n _ _ _)=>match Nat.ble (lo0+len) n with
       | true=>match cbd hi env len (n-lo0) with
         | some h=>match cbd lo env 0 h with
           | some l=>fN (lo0+l) fun a=>fN (h-l) fun b=>some (.vec k s a b)
           | none=>none
         | none=>none
       | false=>none
     | _=>match cbd hi env len len with
        | some h=>match cbd lo env 0 h with
          | some l=>fN (lo0+l) fun a=>fN (h-l) fun b=>some (.vec k s a b)
          | none=>none
        | none=>none
   | false=>none
 | _=>none
theorem cslc_ok {own:COwn} {s:Nat} {x:X} {lo hi:Option X} {same:Bool} {env:CEnv} {c:C} {K:V->Prop} (h:cslc own s x lo hi env=some c) (hK:K c.v):vslc (ownV own) s x lo hi none same (envV env) K:=by
 unfold cslc at h;unfold vslc;split at h
 . rename_i n s' full z rows hx;refine gx_ok hx ?_;simp only[C.v];split at h
   . rename_i hs;simp only[hs];split at h
     . rename_i hh e1;split at h
       . rename_i ll e2;refine cbd_ok e1 (cbd_ok e2 ?_);simp only[fN_eq,fH_eq,dr_eq,Option.some.injEq] at h;subst h;rw[shiftF_tabzC];simp only[C.v] at hK;exact hK
       . cases h
     . cases h
   . cases h
 . rename_i hx;refine gx_ok hx ?_;simp only[C.v];split at h
   . rename_i hh e1;split at h
     . rename_i ll e2;cases h;exact cbd_ok e1 (cbd_ok e2 (by simpa[C.v] using hK))
     . cases h
   . cases h
 . rename_i k s' lo0 len hx;refine gx_ok hx ?_;simp only[C.v];split at h
   . rename_i hs;simp only[hs];split at h
     . rename_i n s'' z rows hl;rw[look_ownV hl];simp only[CB.b];split at h
       . rename_i hle;refine⟨fun _=>?_,fun hf=>by rw[hle] at hf;cases hf⟩;split at h
         . rename_i hh e1;split at h
           . rename_i ll e2;refine cbd_ok e1 (cbd_ok e2 ?_);simp only[fN_eq,Option.some.injEq] at h;subst h;simpa[C.v] using hK
           . cases h
         . cases h
       . cases h
     . rename_i hne;have key:∀{A:Nat->Nat->(Nat->Nat->V)->Prop} {B:Prop},B->(match look (ownV own) k with|some (.vec n s f)=>A n s f|_=>B):=by
        intro A B hB;rw[ownV,look_map,<- lk_eq];cases hl:lk own k with
        | none=>exact hB
        | some b=>cases b with
          | vec n s z rows=>exact(hne n s z rows hl).elim
          | _=>exact hB
       refine key ?_;split at h
       . rename_i hh e1;split at h
         . rename_i ll e2;refine cbd_ok e1 (cbd_ok e2 ?_);simp only[fN_eq,Option.some.injEq] at h;subst h;simpa[C.v] using hK
         . cases h
       . cases h
   . cases h
 . cases h
noncomputable def cslc3 (s:Nat) (x:X) (lo:Option X) (hi mx:X) (same:Bool) (env:CEnv):Option C :=
 match gx x env with
 | some (.fz n s' _ z rows)=>match Nat.beq s s' with
   | true=>match cbd (some mx) env n n with
     | some m=>match cbd (some hi) env n m with
       | some h=>match cbd lo env 0 h with
         | some l=>fN (h-l) fun m=>fH (dr rows l) fun q=>some (.fz m s same z q)
         | none=>none
       | none=>none
     | none=>none
   | false=>none
 | _=>none
theorem cslc3_ok {own:Own} {s:Nat} {x:X} {lo:Option X} {hi mx:X} {same:Bool} {env:CEnv} {c:C} {K:V->Prop} (h:cslc3 s x lo hi mx same env=some c) (hK:K c.v):vslc own s x lo (some hi) (some mx) same (envV env) K:=by
 unfold cslc3 at h;unfold vslc;split at h
 . rename_i n s' full z rows hx;refine gx_ok hx ?_;simp only[C.v];split at h
   . rename_i hs;simp only[hs];split at h
     . rename_i m e0;split at h
       . rename_i hh e1;split at h
         . rename_i ll e2;refine cbd_ok e0 (cbd_ok e1 (cbd_ok e2 ?_));simp only[fN_eq,fH_eq,dr_eq,Option.some.injEq] at h;subst h;rw[shiftF_tabzC];simp only[C.v] at hK;exact hK
         . cases h
       . cases h
     . cases h
   . cases h
 . cases h
def cix (i:Int) (n:Nat):Option Nat:=match i with
 | .ofNat m=>match Nat.blt m n with|true=>some m|false=>none
 | .negSucc _=>none
theorem cix_ok {i:Int} {n m:Nat} {K:Nat->Prop} (h:cix i n=some m) (hK:K m):Ix i n K:=by
 unfold cix at h;split at h
 . split at h
   . rename_i hb;cases h;exact⟨m,rfl,Nat.le_of_ble_eq_true hb,hK⟩
   . cases h
 . cases h
theorem takeK_ok {α:Type}:∀(l:List α) (o n:Nat) (K:List α->Prop),n<=(l.drop o).length->K ((l.drop o).take n)->takeK l o n K
 | l,o,0,K,_,h=>by cases l<;>cases o<;>simpa[takeK] using h
 | [],o,n+1,K,hl,h=>by simp at hl
 | x::r,0,n+1,K,hl,h=>by
   simp only[takeK];exact takeK_ok r 0 n _ (by simpa using hl) (by simpa using h)
 | x::r,o+1,n+1,K,hl,h=>by
   simp only[takeK];exact takeK_ok r o (n+1) _ (by simpa using hl) (by simpa using h)
noncomputable def aggC (l:List C) (o n:Nat):Option C:=tk n (dr l o) fun q=>some (.agg q)
theorem aggC_ok {l:List C} {o n:Nat} {c:C} {K:V->Prop} (h:aggC l o n=some c) (hK:K c.v):takeK (C.vs l) o n fun l=>K (.agg l):=by
 unfold aggC at h;rw[tk_eq,dr_eq] at h;split at h
 . rename_i hl;cases h;refine takeK_ok _ _ _ _ (by simpa[C.vs_map] using hl) ?_;simp only[C.v,C.vs_map] at hK;simpa[C.vs_map] using hK
 . cases h
theorem nth_vs {l:List C} {i:Nat} {c:C} (h:nt l i=some c):nth (C.vs l) i=some c.v:=by
 rw[nt_eq,nth_get] at h;rw[nth_get,C.vs_get,h];rfl
noncomputable def p_mv (x:X) (env:CEnv):Option C:=gx x env
noncomputable def p_fld (off:Nat) (x:X) (env:CEnv):Option C:=match gx x env with
 | some (.loc k o)=>fN (o+off) fun m=>some (.loc k m)
 | some (.oel k s i j)=>fN (j+off) fun m=>some (.oel k s i m)
 | some (.fe n s z rows i j)=>fN (j+off) fun m=>some (.fe n s z rows i m)
 | _=>none
noncomputable def p_nilchk (x:X) (env:CEnv):Option C:=match gx x env with
 | some (.loc k o)=>some (.loc k o)
 | some (.oel k s i j)=>some (.oel k s i j)
 | some (.fe n s z rows i j)=>some (.fe n s z rows i j)
 | some (.iface t v)=>some (.iface t v)
 | _=>none
noncomputable def p_bin (bt:BT) (op:BinOp) (x:X) (y:X) (env:CEnv):Option C:=match gx x env with
 | some a=>match gx y env with
   | some b=>cbin bt op a b
   | none=>none
 | none=>none
noncomputable def p_pick (c:X) (a:X) (b:X) (env:CEnv):Option C:=match gx c env with
 | some (.bool true)=>gx a env
 | some (.bool false)=>gx b env
 | _=>none
noncomputable def p_slcs (x:X) (lo:Option X) (hi:Option X) (env:CEnv):Option C:=match gx x env with
 | some (.str l c)=>match cbd hi env l l with
   | some h=>match cbd lo env 0 h with
     | some a=>strC (h-a) (Nat.mod (Nat.div c (Nat.pow 256 a)) (Nat.pow 256 (h-a)))
     | none=>none
   | none=>none
 | _=>none
noncomputable def p_ixstr (x:X) (i:X) (env:CEnv):Option C:=match gx x env with
 | some (.str l c)=>match gx i env with
   | some (.int _ i)=>match cix i l with
     | some m=>fN (Nat.mod (Nat.div c (Nat.pow 256 m)) 256) fun b=>some (.int .u8 (.ofNat b))
     | none=>none
   | _=>none
 | _=>none
noncomputable def p_mkfn (f:Fn) (b:Bool) (cap:List X) (env:CEnv):Option C:=match gxs env cap with
 | some l=>some (.fn f b l)
 | none=>none
noncomputable def p_un (op:UnOp) (x:X) (env:CEnv):Option C:=match gx x env with
 | some (.bool b)=>match op with
   | .not=>match b with|true=>some (.bool false)|false=>some (.bool true)
   | _=>none
 | some (.int k n)=>match op with
   | .neg=>arC k (0-n)
   | .xor=>svC k (bitI .xor k (if k.signed then -1 else k.max) n)
   | _=>none
 | _=>none
noncomputable def p_toint (k:IntKind) (x:X) (env:CEnv):Option C:=match gx x env with
 | some (.int _ n)=>arC k n
 | _=>none
noncomputable def p_sel (off:Nat) (sz:Option Nat) (x:X) (env:CEnv):Option C:=match gx x env with
 | some (.agg cs)=>match sz with
   | none=>nt cs off
   | some n=>aggC cs off n
 | _=>none
noncomputable def p_ixs (s:Nat) (x:X) (i:X) (env:CEnv):Option C:=match gx x env with
 | some (.fz n s' _ z rows)=>match Nat.beq s s' with
   | true=>match gx i env with
     | some (.int _ i)=>match cix i n with
       | some m=>some (.fe n s z rows m 0)
       | none=>none
     | _=>none
   | false=>none
 | some (.vec k s' lo len)=>match Nat.beq s s' with
   | true=>match gx i env with
     | some (.int _ i)=>match cix i len with
       | some m=>fN (lo+m) fun m=>some (.oel k s m 0)
       | none=>none
     | _=>none
   | false=>none
 | _=>none
noncomputable def p_ixa (n:Nat) (s:Nat) (x:X) (i:X) (env:CEnv):Option C:=match gx x env with
 | some (.loc k o)=>match gx i env with
   | some (.int _ i)=>match cix i n with
     | some m=>fN (o+m*s) fun m=>some (.loc k m)
     | none=>none
   | _=>none
 | some (.fe n' s' z rows i0 j0)=>match gx i env with
   | some (.int _ i)=>match cix i n with
     | some m=>fN (j0+m*s) fun m=>some (.fe n' s' z rows i0 m)
     | none=>none
   | _=>none
 | some (.oel k s' i0 j0)=>match Nat.beq s s',i0,j0 with
   | true,0,0=>match gx i env with
     | some (.int _ i)=>match cix i n with
       | some m=>some (.oel k s m 0)
       | none=>none
     | _=>none
   | _,_,_=>match gx i env with
     | some (.int _ i)=>match cix i n with
       | some m=>fN (j0+m*s) fun j=>some (.oel k s' i0 j)
       | none=>none
     | _=>none
 | _=>none
noncomputable def p_ext (x:X) (i:Nat) (env:CEnv):Option C:=match gx x env with
 | some (.tup vs)=>nt vs i
 | _=>none
noncomputable def p_len (x:X) (env:CEnv):Option C:=match gx x env with
 | some (.fz n _ _ _ _)=>some (.int .i64 (.ofNat n))
 | some (.vec _ _ _ n)=>some (.int .i64 (.ofNat n))
 | some .nilslice=>some (.int .i64 0)
 | _=>none
noncomputable def p_lens (x:X) (env:CEnv):Option C:=match gx x env with
 | some (.str l _)=>some (.int .i64 (.ofNat l))
 | _=>none
noncomputable def p_mn (x:X) (y:X) (env:CEnv):Option C:=match gx x env with
 | some (.int k a)=>match gx y env with
   | some (.int _ b)=>match ile a b with
     | true=>some (.int k a)
     | false=>some (.int k b)
   | _=>none
 | _=>none
noncomputable def p_mx (x:X) (y:X) (env:CEnv):Option C:=match gx x env with
 | some (.int k a)=>match gx y env with
   | some (.int _ b)=>match ile b a with
     | true=>some (.int k a)
     | false=>some (.int k b)
   | _=>none
 | _=>none
noncomputable def cpure (o:POp) (env:CEnv):Option C :=
 match o with
 | .slc _ _ _ _ _ _=>none
 | .mv x=>p_mv x env
 | .fld off x=>p_fld off x env
 | .nilchk x=>p_nilchk x env
 | .bin bt op x y=>p_bin bt op x y env
 | .pick c a b=>p_pick c a b env
 | .slcs x lo hi=>p_slcs x lo hi env
 | .ixstr x i=>p_ixstr x i env
 | .mkfn f b cap=>p_mkfn f b cap env
 | .un op x=>p_un op x env
 | .toint k x=>p_toint k x env
 | .sel off sz x=>p_sel off sz x env
 | .ixs s x i=>p_ixs s x i env
 | .ixa n s x i=>p_ixa n s x i env
 | .ext x i=>p_ext x i env
 | .len x=>p_len x env
 | .lens x=>p_lens x env
 | .mn x y=>p_mn x y env
 | .mx x y=>p_mx x y env
theorem cpure_ok {o:POp} {env:CEnv} {c:C} {K:V->Prop} (h:cpure o env=some c) (hK:K c.v):vpure o (envV env) K:=by
 cases o with
 | slc=>cases h
 | mv x=>simp only[cpure,p_mv] at h;exact gx_ok h hK
 | fld off x =>
   simp only[cpure,p_fld] at h;simp only[vpure];split at h<;>first
    | (cases h;done)
    | (rename_i hx
       refine gx_ok hx ?_;simp only[C.v];simp only[fN_eq,Option.some.injEq] at h;subst h;simpa only[C.v] using hK)
 | nilchk x =>
   simp only[cpure,p_nilchk] at h;simp only[vpure];split at h<;>first
    | (cases h;done)
    | (rename_i hx
       refine gx_ok hx ?_;cases h;simpa only[C.v] using hK)
 | bin bt op x y =>
   simp only[cpure,p_bin] at h;simp only[vpure];split at h
   . rename_i a ha;split at h
     . rename_i b hb;exact gx_ok ha (gx_ok hb (cbin_ok h hK))
     . cases h
   . cases h
 | pick c a b =>
   simp only[cpure,p_pick] at h;simp only[vpure];split at h
   . rename_i hc;refine gx_ok hc ?_;simp only[C.v];exact gx_ok h hK
   . rename_i hc;refine gx_ok hc ?_;simp only[C.v];exact gx_ok h hK
   . cases h
 | slcs x lo hi =>
   simp only[cpure,p_slcs] at h;simp only[vpure];split at h
   . rename_i l d hx;refine gx_ok hx ?_;simp only[C.v,bytesOf_size];split at h
     . rename_i hh e1;split at h
       . rename_i a e2;have hle:hh<=l:=by
          unfold cbd at e1;split at e1
          . cases e1;exact Nat.le_refl _
          . split at e1
            . split at e1
              . rename_i hb;cases e1;exact Nat.le_of_ble_eq_true hb
              . cases e1
            . cases e1
         refine cbd_ok e1 (cbd_ok e2 ?_);rw[bytesOf_extract _ _ _ _ hle,<- bytesOf_mod];rw[strC_ok h] at hK;exact hK
       . cases h
     . cases h
   . cases h
 | ixstr x i =>
   simp only[cpure,p_ixstr] at h;simp only[vpure];split at h
   . rename_i l d hx;split at h
     . rename_i k n hi;refine gx_ok hx (gx_ok hi ?_);simp only[C.v,bytesOf_size];split at h
       . rename_i m hm;refine cix_ok hm ?_;have hlt:m<l:=by
          unfold cix at hm;split at hm
          . split at hm
            . rename_i hb;cases hm;exact Nat.le_of_ble_eq_true hb
            . cases hm
          . cases hm
         simp only[fN_eq,Option.some.injEq] at h;subst h;rw[bytesOf_get _ _ _ hlt];simp only[C.v] at hK;exact hK
       . cases h
     . cases h
   . cases h
 | mkfn f b cap =>
   simp only[cpure,p_mkfn] at h;simp only[vpure];split at h
   . rename_i l hl;cases h;exact gxs_ok hl (by simpa only[C.v] using hK)
   . cases h
 | un op x =>
   simp only[cpure,p_un] at h;simp only[vpure];split at h
   . rename_i b hx;refine gx_ok hx ?_;simp only[C.v];split at h
     . split at h
       . cases h;simpa only[C.v] using hK
       . cases h;simpa only[C.v] using hK
     . cases h
   . rename_i k n hx;refine gx_ok hx ?_;simp only[C.v];split at h
     . exact arC_ok h hK
     . exact svC_ok h hK
     . cases h
   . cases h
 | toint k x =>
   simp only[cpure,p_toint] at h;simp only[vpure];split at h
   . rename_i hx;refine gx_ok hx ?_;simp only[C.v];exact arC_ok h hK
   . cases h
 | sel off sz x =>
   simp only[cpure,p_sel] at h;simp only[vpure];split at h
   . rename_i cs hx;refine gx_ok hx ?_;simp only[C.v];split at h
     . rw[nth_vs h];exact hK
     . exact aggC_ok h hK
   . cases h
 | ixs s x i =>
   simp only[cpure,p_ixs] at h;simp only[vpure];split at h
   . rename_i n s' full z rows hx;split at h
     . rename_i hs;split at h
       . rename_i hi;refine gx_ok hx (gx_ok hi ?_);simp only[C.v,hs];split at h
         . rename_i hm;cases h;exact cix_ok hm (by simpa only[C.v] using hK)
         . cases h
       . cases h
     . cases h
   . rename_i k s' lo len hx;split at h
     . rename_i hs;split at h
       . rename_i hi;refine gx_ok hx (gx_ok hi ?_);simp only[C.v,hs];split at h
         . rename_i hm;simp only[fN_eq,Option.some.injEq] at h;subst h;exact cix_ok hm (by simpa only[C.v] using hK)
         . cases h
       . cases h
     . cases h
   . cases h
 | ixa n s x i =>
   simp only[cpure,p_ixa] at h;simp only[vpure];split at h
   . rename_i k o hx;split at h
     . rename_i hi;refine gx_ok hx (gx_ok hi ?_);simp only[C.v];split at h
       . rename_i hm;simp only[fN_eq,Option.some.injEq] at h;subst h;exact cix_ok hm (by simpa only[C.v] using hK)
       . cases h
     . cases h
   . rename_i hx;split at h
     . rename_i hi;refine gx_ok hx (gx_ok hi ?_);simp only[C.v];split at h
       . rename_i hm;simp only[fN_eq,Option.some.injEq] at h;subst h;exact cix_ok hm (by simpa only[C.v] using hK)
       . cases h
     . cases h
   . rename_i hx;split at h
     . rename_i hs;split at h
       . rename_i hi;refine gx_ok hx (gx_ok hi ?_);simp only[C.v,hs];split at h
         . rename_i hm;cases h;exact cix_ok hm (by simpa only[C.v] using hK)
         . cases h
       . cases h
     . rename_i hne;split at h
       . rename_i hi;refine gx_ok hx (gx_ok hi ?_);simp only[C.v];split at h
         . rename_i hm;simp only[fN_eq,Option.some.injEq] at h;subst h;exact cix_ok hm (by simpa only[C.v] using hK)
         . cases h
       . cases h
   . cases h
 | ext x i =>
   simp only[cpure,p_ext] at h;simp only[vpure];split at h
   . rename_i hx;refine gx_ok hx ?_;simp only[C.v];rw[nth_vs h];exact hK
   . cases h
 | len x =>
   simp only[cpure,p_len] at h;simp only[vpure];split at h<;>first
    | (cases h;done)
    | (rename_i hx
       refine gx_ok hx ?_;cases h;simp only[C.v] at hK;simp only[C.v];exact hK)
 | lens x =>
   simp only[cpure,p_lens] at h;simp only[vpure];split at h
   . rename_i hx;refine gx_ok hx ?_;cases h;simp only[C.v] at hK;simp only[C.v,bytesOf_size];exact hK
   . cases h
 | mn x y =>
   simp only[cpure,p_mn] at h;simp only[vpure];split at h
   . rename_i hx;split at h
     . rename_i hy;refine gx_ok hx (gx_ok hy ?_);simp only[C.v];refine⟨_,rfl,?_⟩;split at h
       . rename_i hc;rw[ile_eq] at hc;cases h;have hc:=of_decide_eq_true hc;rw[if_neg (by omega)];simpa only[C.v] using hK
       . rename_i hc;rw[ile_eq] at hc;cases h;have hc:=of_decide_eq_false hc;rw[if_pos (by omega)];simpa only[C.v] using hK
     . cases h
   . cases h
 | mx x y =>
   simp only[cpure,p_mx] at h;simp only[vpure];split at h
   . rename_i hx;split at h
     . rename_i hy;refine gx_ok hx (gx_ok hy ?_);simp only[C.v];refine⟨_,rfl,?_⟩;split at h
       . rename_i hc;rw[ile_eq] at hc;cases h;have hc:=of_decide_eq_true hc;rw[if_neg (by omega)];simpa only[C.v] using hK
       . rename_i hc;rw[ile_eq] at hc;cases h;have hc:=of_decide_eq_false hc;rw[if_pos (by omega)];simpa only[C.v] using hK
     . cases h
   . cases h
end Go.Eng
