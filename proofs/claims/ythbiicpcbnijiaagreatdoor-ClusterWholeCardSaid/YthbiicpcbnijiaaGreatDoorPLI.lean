import Derived.Test.YthbiicpcbnijiaaGreatDoorDC5
import Derived.Test.YthbiicpcbnijiaaGreatDoorAN1
import Derived.Test.YthbiicpcbnijiaaGreatDoorEngZ
import Derived.Test.YthbiicpcbnijiaaGreatDoorEngT
namespace Go.Proofs.YthbiicpcbnijiaaGreatDoor
open Go.Eng
set_option maxRecDepth 100000
set_option linter.unusedVariables false
def sing (e:Nat):Nat→List Nat
 | 0=>[]
 | b + 1=>if e.testBit b then sing e b ++ [2 ^ b] else sing e b
theorem sing_skip {e b:Nat}:∀ {v:Nat},b≤v→(∀ j,b≤j→j < v→e.testBit j = false)→sing e v = sing e b
 | 0,h,_=>by rw [show b = 0 by omega]
 | v + 1,h,hz=>by
   by_cases e1:b = v + 1
   . rw [e1]
   . rw [sing,hz v (by omega) (by omega),if_neg (by simp)];exact sing_skip (by omega) (fun j a c=>hz j a (by omega))
theorem sing_step {e v:Nat} (h:e.testBit v = true):sing e (v + 1) = sing e v ++ [2 ^ v]:=by rw [sing,if_pos h]
theorem sing_len (e:Nat):∀ b,(sing e b).length≤b
 | 0=>Nat.le_refl _
 | b + 1=>by have:=sing_len e b;rw [sing];split <;> simp <;> omega
def chs (g:G) (k:Int) (e:Nat):List Nat × Int :=
 if e = 0 then ([],0) else if k = 1 then (sing e 32,0) else if k = 4 then ([e],0) else if cnt e 32 > 10 then ([],3) else ((subs e (lowb e)).filter (okC g k e),0)
def lst (l:List Nat):V:=.fz l.length 1 false (vU l)
theorem getD_appN (l:List Nat) (a i:Nat):List.getD (l ++ [a]) i 0 = if i < l.length then List.getD l i 0 else if i = l.length then a else 0:=by
 by_cases h:i < l.length
 . rw [if_pos h];simp only [List.getD];rw [List.getElem?_append_left h]
 . rw [if_neg h];by_cases e:i = l.length
   . subst e;simp [List.getD]
   . rw [if_neg e];simp [List.getD];rw [List.getElem?_eq_none (by simp;omega)];rfl
theorem vle_appU (l:List Nat) (a:Nat) (x:Int) (hx:x = a) (i j:Nat) (hi:i < (l ++ [a]).length) (hj:j < 1) :
 VLe (fapp (shiftF 0 (vU l)) l.length (shiftF 0 (tab [[.int .u32 x]])) i j) (vU (l ++ [a]) i j):=by
 apply VLe.of_eq;subst hx;rw [List.length_append] at hi;simp only [List.length_cons,List.length_nil] at hi;by_cases h:i < l.length
 . rw [fapp_lt h];simp only [shiftF,vU,gN,getD_appN,if_pos h]
 . rw [fapp_ge h];have:i = l.length:=by omega
   subst this;obtain rfl:j = 0:=by omega
   simp [shiftF,vU,gN,tab]
theorem lst_end (l:List Nat):VLe (.fz l.length 1 false (shiftF 0 (vU l))) (lst l):=by
 refine VLe.fz rfl (fun h=>h) (fun i j hi hj=>VLe.of_eq ?_);simp only [shiftF]
 try simp
set_option maxHeartbeats 8000000 in
theorem nchoices_ok (g:G) (hg:g.valid = true) (k:Int) (e:Nat) (he:e < 4294967296) (hp:Part e (full g.ports.length)):RG 79 [.fz g.ports.length 1 false (vNet g),.int .i64 k,.int .u32 e] (.tup [lst (chs g k e).1,.int .i64 (chs g k e).2]):=by
 refine ret_frzG rfl ?_;refine fn_rule mixed Tryz.func79 rfl hc79 hr79 rfl ?_;have hoc:=oc_ok e he;have hneg:bitI .and .u32 (((4294967296 - e) % 4294967296:Nat):Int) (e:Int) = (lowb e:Nat):=by
  rw [bit_and (Nat.mod_lt _ (by omega)) he,Nat.and_comm,lowb_neg he]
 by_cases h0:e = 0
 . rw [chs,if_pos h0]
   repeat' ((conv=>whnf);first | (refine Br.dec ?_ ?_ <;> intro _ <;> try omega))
   all_goals (conv=>whnf)
   all_goals exact VLe.tup ⟨VLe.nilfz rfl,VLe.rfl,True.intro⟩
 rw [chs,if_neg h0];by_cases k1:k = 1
 . rw [if_pos k1]
   repeat' ((conv=>whnf);first | (refine Br.dec ?_ ?_ <;> intro _ <;> try omega) | (refine fn_rule mixed Tryz.func80 rfl hc80 hr80 rfl ?_) | (refine range_rule ?_) | (refine Chk.mk (by kernel_rfl) ?_) | (refine fn_rule mixed Tryz.func117 rfl hc117 hr117 rfl ?_))
   all_goals (conv=>whnf)
   refine loop_u mixed [0,1] [3] [4,5,6,7,8,9,10,11,12,13,14,15,16,17,18,19,20,21,22,23,24,25,26,27,28,29] [3,2,1,0,999] (fun b:Nat=>[]) (fun own b=>(3,.vec (sing e b).length 1 (vU (sing e b))) :: updO (updO own 0 (.cells [.vec 3 1 0 (sing e b).length])) 1 (.cells [.int .u32 (upS e b)])) (fun m b=>m = 32 - b∧b≤32) 32 0 ⟨rfl,by omega⟩ rfl (fun _=>rfl) ?_ ?_
   . have hx:=upS_zero he;refine weak_by (fun _ _=>[(0,some 0),(1,some 1),(2,some 2),(3,none),(999,some 999)]) ?_ ?_ rfl
     . repeat' (first | exact VRen.yld rfl | exact True.intro | (refine ⟨⟨_,rfl,?_⟩,?_⟩) | exact VRen.loc rfl)
     . repeat' (first | exact VRen.int (by rw [hx]) | (refine VRen.fn ?_) | (refine ⟨rfl,rfl,rfl,rfl,rfl,?_⟩) | exact True.intro | exact ⟨rfl,rfl,rfl⟩ | (refine ⟨⟨_,rfl,?_⟩,?_⟩) | exact VRen.kf rfl | exact VRen.loc rfl | exact VRen.nil rfl rfl | (refine ⟨⟨_,_,rfl⟩,?_⟩) | (refine And.intro ?_ ?_))
   rintro m b ⟨hm,hb⟩;have hul:=upS_lt e b;have hsl:=sing_len e b;by_cases hu:upS e b = 0
   . repeat' ((conv=>whnf);first | (refine Br.bne ?_ ?_ <;> intro _ <;> try omega) | (refine Len.mk (by omega) ?_))
     all_goals (conv=>whnf)
     have hx:sing e 32 = sing e b:=sing_skip hb (fun j hj _=>upS_end he hu j hj);show VLe _ (V.tup [lst (sing e 32),V.int IntKind.i64 0]);rw [hx];exact VLe.tup ⟨lst_end _,VLe.rfl,True.intro⟩
   . obtain ⟨v1,v2,v3,v4,v5⟩:=upS_next he hu;have htz:=tz_ok _ hu hul;have hr:bitI .and .u32 ((upS e b:Nat):Int) ((upS e b:Nat) - 1:Int) = ((upS e (ctz (upS e b) + 1):Nat):Int):=by
      rw [← v5,show ((upS e b:Nat):Int) - 1 = ((upS e b - 1:Nat):Int) by omega,bit_and hul (by omega)]
     generalize ctz (upS e b) = v at *;have hsg:sing e (v + 1) = sing e b ++ [2 ^ v]:=by rw [sing_step v3,sing_skip v2 v4]
     repeat' ((conv=>whnf);first | (refine Br.tt ?_) | (refine Br.bne ?_ ?_ <;> intro _ <;> try omega) | (refine Br.nbeq ?_ ?_ <;> intro _ <;> try omega) | (refine Ar.u32 (by omega) (by omega) ?_) | (refine Ar.sh1 (by omega) ?_) | (refine Sv.mk _ rfl ?_) | (refine Nn.mk (by omega) ?_) | (refine Len.mk (by omega) ?_) | (refine htz.gog ?_) | (refine yield_rule mixed rfl rfl ?_))
     all_goals (conv=>whnf)
     all_goals
      refine ⟨32 - (v + 1),v + 1,by omega,⟨rfl,by omega⟩,?_⟩;simp only [hsg];refine weak_by (fun env own=>[(0,some 0),(1,some 1),(2,some 2),(3,ckeyo own 0 0),(999,some 999)]) ?_ ?_ rfl
      . repeat' (first | exact VRen.yld rfl | exact True.intro | (refine ⟨⟨_,rfl,?_⟩,?_⟩) | exact VRen.loc rfl)
      . repeat' (first | exact VRen.int hr | exact VRen.vec rfl rfl (by rw [List.length_append];rfl) | (refine ⟨by rw [List.length_append];exact Nat.le_refl _,rfl,fun i j hi hj=>?_⟩) | exact vle_appU _ _ _ rfl _ _ hi hj | (refine VRen.fn ?_) | (refine ⟨rfl,rfl,rfl,rfl,rfl,?_⟩) | exact True.intro | exact ⟨rfl,rfl,rfl⟩ | (refine ⟨⟨_,rfl,?_⟩,?_⟩) | exact VRen.kf rfl | exact VRen.loc rfl | (refine And.intro ?_ ?_))
 rw [if_neg k1];by_cases k4:k = 4
 . rw [if_pos k4]
   repeat' ((conv=>whnf);first | (refine Br.dec ?_ ?_ <;> intro _ <;> try omega) | (refine Len.mk (by omega) ?_))
   all_goals (conv=>whnf)
   all_goals
    refine VLe.tup ⟨VLe.fz rfl (fun h=>h) (fun i j hi hj=>?_),VLe.rfl,True.intro⟩;obtain rfl:i = 0:=by omega
    obtain rfl:j = 0:=by omega
    exact VLe.rfl
 rw [if_neg k4];have hcl:=cnt_le e 32;by_cases hc:cnt e 32 > 10
 . rw [if_pos hc]
   repeat' ((conv=>whnf);first | (refine Br.dec ?_ ?_ <;> intro _ <;> try omega) | (refine hoc.go ?_))
   all_goals (conv=>whnf)
   all_goals exact VLe.tup ⟨VLe.nilfz rfl,VLe.rfl,True.intro⟩
 rw [if_neg hc]
 repeat' ((conv=>whnf);first | (refine Ar.neg32 he ?_) | (refine Sv.mk _ hneg.symm ?_) | (refine Br.dec ?_ ?_ <;> intro _ <;> try omega) | (refine hoc.go ?_))
 all_goals (conv=>whnf)
 refine loop_u mixed [0,1,2,8] [1] [2,3,4,5,6,7,8,9,10,11,12,13,14,15,16,17,18,19,20,21,22,23,24,25,26,27,28,29] [1,0,999] (fun p:Nat × List Nat=>[(10,.int .u32 p.1)]) (fun own p=>(1,.vec p.2.length 1 (vU p.2)) :: updO own 0 (.cells [.vec 1 1 0 p.2.length])) (fun m p=>m = (if p.1 = 0 then 0 else 4294967297 - p.1)∧Part p.1 e∧p.2 ++ (subs e p.1).filter (okC g k e) = (subs e (lowb e)).filter (okC g k e)∧p.2.length≤4294967296∧(p.1≠0→p.2.length < p.1)) _ (lowb e,[]) ⟨rfl,lowb_part he,rfl,by simp,fun h=>by simp only [List.length_nil];omega⟩ rfl (fun _=>rfl) ?_ ?_
 . exact weak_b (fun _ _=>[(0,some 0),(1,none),(999,some 999)])
 rintro m ⟨s,acc⟩ ⟨hm,hps,htot,hl1,hl2⟩;simp only at hm hps htot hl1 hl2;have hse:=hps.le;by_cases hs0:s = 0
 . repeat' ((conv=>whnf);first | (refine Br.bne ?_ ?_ <;> intro _ <;> try omega) | (refine Len.mk (by omega) ?_))
   all_goals (conv=>whnf)
   subst hs0;rw [subs_zero,List.filter_nil,List.append_nil] at htot;show VLe _ (V.tup [lst ((subs e (lowb e)).filter (okC g k e)),V.int IntKind.i64 0]);rw [← htot];exact VLe.tup ⟨lst_end _,VLe.rfl,True.intro⟩
 . have hpm:=npermits_ok g hg k e s he (by omega) hp;have hin:inner g k e s = okC g k e s:=by
    rw [inner,decide_eq_true ⟨hs0,(part_iff (by omega)).2 hps⟩,Bool.true_and]
   rw [hin] at hpm;have hsub:=subs_cons he hps hs0;have hnx:bitI .and .u32 (((4294967296 + s - e) % 4294967296:Nat):Int) (e:Int) = (nxt e s:Nat):=by
    rw [bit_and (Nat.mod_lt _ (by omega)) he];rfl
   have hgt:nxt e s = 0∨s < nxt e s:=by
    by_cases h:s = e
    . subst h;exact .inl (nxt_self he)
    . exact .inr (nxt_gt he hps h)
   have hnp:=nxt_part e s;have hnl:=nxt_lt (s:=s) he;have hl3:=hl2 hs0;cases hok:okC g k e s with
   | true =>
     rw [hok] at hpm;rw [hsub,List.filter_cons_of_pos (by rw [hok])] at htot
     repeat' ((conv=>whnf);first | (refine Ar.sub32 (by omega) he ?_) | (refine Sv.mk _ hnx.symm ?_) | (refine Br.tt ?_) | (refine Br.bne ?_ ?_ <;> intro _ <;> try omega) | (refine Br.nbeq ?_ ?_ <;> intro _ <;> try omega) | (refine Len.mk (by omega) ?_) | (refine Len.mk (by simp only [List.length_cons,List.length_nil];omega) ?_) | (refine hpm.gog ?_))
     all_goals (conv=>whnf)
     all_goals
      refine ⟨_,(nxt e s,acc ++ [s]),?_,⟨rfl,hnp,by rw [← htot];simp,by simp;omega,fun h=>by simp at h ⊢;omega⟩,?_⟩
      . simp only;rw [hm,if_neg hs0];split <;> omega
      . refine weak_by (fun env own=>[(0,some 0),(1,ckeyo own 0 0),(999,some 999)]) ?_ ?_ rfl
        . repeat' (first | exact True.intro | (refine ⟨⟨_,rfl,?_⟩,?_⟩) | exact VRen.kf rfl | exact VRen.loc rfl)
        . repeat' (first | exact VRen.vec rfl rfl (by rw [List.length_append];rfl) | (refine ⟨by rw [List.length_append];exact Nat.le_refl _,rfl,fun i j hi hj=>?_⟩) | exact vle_appU _ _ _ rfl _ _ hi hj | exact True.intro | exact ⟨rfl,rfl,rfl⟩ | (refine ⟨⟨_,rfl,?_⟩,?_⟩) | (refine And.intro ?_ ?_))
   | false =>
     rw [hok] at hpm;rw [hsub,List.filter_cons_of_neg (by rw [hok];simp)] at htot
     repeat' ((conv=>whnf);first | (refine Ar.sub32 (by omega) he ?_) | (refine Sv.mk _ hnx.symm ?_) | (refine Br.ff ?_) | (refine Br.bne ?_ ?_ <;> intro _ <;> try omega) | (refine hpm.gog ?_))
     all_goals (conv=>whnf)
     all_goals
      refine ⟨_,(nxt e s,acc),?_,⟨rfl,hnp,htot,hl1,fun h=>by simp only at h ⊢;omega⟩,?_⟩
      . simp only;rw [hm,if_neg hs0];split <;> omega
      . exact weak_b (fun env own=>[(0,some 0),(1,ckeyo own 0 0),(999,some 999)])
theorem subs_len {E:Nat} (hE:E < 4294967296):∀ f s,Part s E→E - s≤f→(subs E s).length≤f + 1
 | f,s,hp,hf=>by
   by_cases h0:s = 0
   . subst h0;rw [subs_zero];simp
   . rw [subs_cons hE hp h0,List.length_cons];by_cases hs:s = E
     . subst hs;rw [nxt_self hE,subs_zero];simp
     . have h1:=nxt_gt hE hp hs;have h2:=hp.le;cases f with
       | zero=>omega
       | succ f=>have:=subs_len hE f _ (nxt_part E s) (by have:=(nxt_part E s).le;omega);omega
theorem single_low {c:Nat} (h0:c≠0) (hc:c < 4294967296) (h:c &&& (c - 1) = 0):c = 2 ^ ctz c:=by
 obtain ⟨k1,k2,k3⟩:=ctz_spec h0 hc;apply Nat.eq_of_testBit_eq;intro j;have:=low_rest k2 k3 j;rw [h,Nat.zero_testBit] at this;rw [Nat.testBit_two_pow];by_cases e:ctz c = j
 . subst e;rw [k2];simp
 . rw [decide_eq_false e];have hd:decide (j≠ctz c) = true:=by rw [decide_eq_true_eq];exact fun x=>e x.symm
   rw [hd,Bool.and_true] at this;exact this.symm
theorem pow_bit {k j:Nat} (h:(2 ^ k:Nat).testBit j = true):k = j:=by rw [Nat.testBit_two_pow,decide_eq_true_eq] at h;exact h
theorem sing_mem {e c:Nat}:∀ {b:Nat},c∈sing e b↔∃ v,v < b∧e.testBit v = true∧c = 2 ^ v
 | 0=>by simp [sing]
 | b + 1=>by
   have ih:=sing_mem (e:=e) (c:=c) (b:=b);rw [sing];constructor
   . intro h;split at h
     . rename_i hb;rcases List.mem_append.1 h with h | h
       . obtain ⟨v,a,b',c'⟩:=ih.1 h;exact ⟨v,by omega,b',c'⟩
       . exact ⟨b,by omega,hb,by simpa using h⟩
     . obtain ⟨v,a,b',c'⟩:=ih.1 h;exact ⟨v,by omega,b',c'⟩
   . rintro ⟨v,h1,h2,rfl⟩;by_cases e1:v = b
     . subst e1;rw [if_pos h2];simp
     . have:=ih.2 ⟨v,by omega,h2,rfl⟩;split
       . exact List.mem_append_left _ this
       . exact this
theorem sing_sorted {e:Nat}:∀ b,(sing e b).Pairwise (· < ·)
 | 0=>.nil
 | b + 1=>by
   rw [sing];split
   . refine List.pairwise_append.2 ⟨sing_sorted b,by simp,fun x hx y hy=>?_⟩;obtain ⟨v,h1,_,rfl⟩:=sing_mem.1 hx;simp only [List.mem_singleton] at hy;subst hy;exact Nat.pow_lt_pow_right (by omega) h1
   . exact sing_sorted b
theorem one_bit {j:Nat} (h:j≠0):(1:Nat).testBit j = false:=by
 have:=Nat.testBit_two_pow (n:=0) (m:=j);rw [Nat.pow_zero] at this;rw [this,decide_eq_false (by omega)]
theorem nxt_least {E s t:Nat} (hE:E < 4294967296) (hp:Part s E) (hpt:Part t E) (hst:s < t):nxt E s≤t:=by
 have hsE:=hp.le;have htE:=hpt.le;have hs:s < 4294967296:=by omega
 have hne:s≠E:=by omega
 have hd0:ndiff E s≠0:=by
  intro h;have:=((part_iff hE).1 h).le;omega
 have hdlt:ndiff E s < 4294967296:=Nat.lt_of_le_of_lt Nat.and_le_left hE;obtain ⟨k1,k2,k3⟩:=ctz_spec hd0 hdlt;have hdis:s &&& ndiff E s = 0:=by
  apply Nat.eq_of_testBit_eq;intro i;rw [Nat.zero_testBit,Nat.testBit_and];by_cases hi:i < 32
  . rw [ndiff_bit hi];cases s.testBit i <;> simp
  . rw [bit_high hs (by omega)];rfl
 have hsum:s + ndiff E s = E:=by
  rw [add_or hs hdlt hdis];apply Nat.eq_of_testBit_eq;intro i;rw [Nat.testBit_or];by_cases hi:i < 32
  . rw [ndiff_bit hi];cases e:s.testBit i with
    | false=>simp
    | true=>rw [hp i e];rfl
  . rw [bit_high hs (by omega),bit_high hdlt (by omega),bit_high hE (by omega)];rfl
 have hneg:(4294967296 + s - E) % 4294967296 = 4294967296 - ndiff E s:=by omega
 generalize hk:ctz (ndiff E s) = k at *;have hbit:∀ i,i < 32→(nxt E s).testBit i = ((!(if i < k + 1 then decide (i < k) else (ndiff E s).testBit i)) && E.testBit i):=by
  intro i hi;have e:(4294967296:Nat) - ndiff E s = 2 ^ 32 - ((ndiff E s - 1) + 1):=by omega
  rw [nxt,hneg,Nat.testBit_and,e,Nat.testBit_two_pow_sub_succ (by omega),low_pred k2 k3];simp [hi]
 have hk2:=k2;rw [ndiff_bit k1,Bool.and_eq_true] at hk2;have hsk:s.testBit k = false:=by simpa using hk2.2
 -- below k the part is all of it
 have hlow:∀ i,i < k→s.testBit i = E.testBit i:=fun i hi=>by
  have:=k3 i hi;rw [ndiff_bit (by omega)] at this;cases e:s.testBit i with
  | true=>rw [hp i e]
  | false=>rw [e] at this;simpa using this.symm
 -- the next one is t's high part at most
 have hlt:s / 2 ^ k < t / 2 ^ k:=by
  rcases Nat.lt_or_ge (s / 2 ^ k) (t / 2 ^ k) with h | h
  . exact h
  . exfalso;have h1:t / 2 ^ k = s / 2 ^ k:=Nat.le_antisymm h (Nat.div_le_div_right (Nat.le_of_lt hst));have h2:t % 2 ^ k≤s % 2 ^ k:=by
     apply Part.le;intro i hi;rw [Nat.testBit_mod_two_pow,Bool.and_eq_true,decide_eq_true_eq] at hi ⊢;exact ⟨hi.1,by rw [hlow i hi.1];exact hpt i hi.2⟩
    have a1:=Nat.div_add_mod s (2 ^ k);have a2:=Nat.div_add_mod t (2 ^ k);rw [h1] at a2;omega
 have hn:nxt E s = 2 ^ k * (s / 2 ^ k + 1):=by
  have heven:s / 2 ^ k + 1 = s / 2 ^ k ||| 1:=by
   have h1:(s / 2 ^ k) % 2 = 0:=by
    rw [Nat.testBit_eq_decide_div_mod_eq,decide_eq_false_iff_not] at hsk;omega
   apply Nat.eq_of_testBit_eq;intro i;rw [Nat.testBit_or];cases i with
   | zero=>simp [Nat.testBit_zero];omega
   | succ i =>
     rw [Nat.testBit_succ,Nat.testBit_succ,Nat.testBit_succ,show (s / 2 ^ k + 1) / 2 = s / 2 ^ k / 2 by omega];simp
  apply Nat.eq_of_testBit_eq;intro i;rw [heven,Nat.testBit_two_pow_mul];by_cases hi:i < 32
  . rw [hbit i hi];by_cases h1:i < k
    . rw [if_pos (by omega),decide_eq_true h1,decide_eq_false (by omega)];rfl
    . by_cases h2:i = k
      . subst h2;rw [if_pos (by omega),decide_eq_false (by omega),hk2.1];simp
      . rw [if_neg (by omega),ndiff_bit hi,decide_eq_true (by omega),Nat.testBit_or,Nat.testBit_div_two_pow,show i - k + k = i by omega,one_bit (show i - k≠0 by omega)];cases e:s.testBit i with
        | true=>rw [hp i e];rfl
        | false=>cases E.testBit i <;> rfl
  . have h3:(s / 2 ^ k ||| 1).testBit (i - k) = false:=by
     rw [Nat.testBit_or,Nat.testBit_div_two_pow,show i - k + k = i by omega,bit_high hs (by omega)];rw [one_bit (by omega)];rfl
    rw [h3,bit_high (nxt_lt hE) (by omega),Bool.and_false]
 rw [hn];exact Nat.le_trans (Nat.mul_le_mul_left _ hlt) (Nat.mul_div_le t (2 ^ k))
theorem subs_mem {E t:Nat} (hE:E < 4294967296) (ht:Part t E) (h0:t≠0):∀ f s,Part s E→s≠0→s≤t→t - s≤f→t∈subs E s
 | f,s,hp,hs0,hst,hf=>by
   rw [subs_cons hE hp hs0];by_cases e:t = s
   . subst e;simp
   . have htE:=ht.le;have hlt:s < t:=by omega
     have h1:=nxt_gt hE hp (by omega);have h2:=nxt_least hE hp ht hlt;cases f with
     | zero=>omega
     | succ f=>exact List.mem_cons_of_mem _ (subs_mem hE ht h0 f _ (nxt_part E s) (by omega) h2 (by omega))
theorem subs_sorted {E:Nat} (hE:E < 4294967296):∀ f s,Part s E→E - s≤f→(subs E s).Pairwise (· < ·)
 | f,s,hp,hf=>by
   by_cases h0:s = 0
   . subst h0;rw [subs_zero];exact .nil
   . rw [subs_cons hE hp h0];by_cases hs:s = E
     . subst hs;rw [nxt_self hE,subs_zero];simp
     . have h1:=nxt_gt hE hp hs;have h2:=hp.le;have h3:=(nxt_part E s).le;refine List.Pairwise.cons (fun t ht=>?_) ?_
       . have:=(subs_part hE (E - nxt E s) _ (nxt_part E s) (Nat.le_refl _) t ht).2.2;omega
       . cases f with
         | zero=>omega
         | succ f=>exact subs_sorted hE f _ (nxt_part E s) (by omega)
theorem lowb_least {E t:Nat} (hE:E < 4294967296) (ht:Part t E) (h0:t≠0):lowb E≤t:=by
 have htE:=ht.le;have ht32:t < 4294967296:=by omega
 obtain ⟨k1,k2,k3⟩:=ctz_spec h0 ht32;obtain ⟨j1,j2,j3⟩:=ctz_spec (s:=E) (by omega) hE;have h1:ctz E≤ctz t:=by
  rcases Nat.lt_or_ge (ctz t) (ctz E) with h | h
  . have:=j3 _ h;rw [ht _ k2] at this;cases this
  . exact h
 have h2:2 ^ ctz t≤t:=by
  have:=(lowb_part ht32).le;rw [lowb,if_neg h0] at this;exact this
 rw [lowb,if_neg (by omega)];exact Nat.le_trans (Nat.pow_le_pow_right (n:=2) (by omega) h1) h2
theorem chs_err {g:G} {k:Int} {e:Nat} (hk:dk k = true) (h:(chs g k e).2≠0):(chs g k e).2 = 3∧(chs g k e).1 = []∧cnt e 32 > 10∧(k = 2∨k = 3):=by
 rw [dk_iff] at hk;unfold chs at h ⊢;split at h
 . exact absurd rfl h
 . split at h
   . exact absurd rfl h
   . split at h
     . exact absurd rfl h
     . split at h
       . rename_i h0 k1 k4 hc;rw [if_neg h0,if_neg k1,if_neg k4,if_pos hc];exact ⟨rfl,rfl,hc,by omega⟩
       . exact absurd rfl h
theorem chs_mem {g:G} {k:Int} {e c:Nat} (hk:dk k = true) (he:e < 4294967296) (hc:c < 4294967296) (h:(chs g k e).2 = 0):c∈(chs g k e).1↔inner g k e c = true:=by
 rw [dk_iff] at hk;rw [inner_iff,part_iff hc];unfold chs at h ⊢;split
 . rename_i h0;subst h0;constructor
   . intro x;cases x
   . rintro ⟨a,b,_⟩;exact absurd (Nat.le_zero.1 b.le) a
 . rename_i h0;rw [if_neg h0] at h;split
   . rename_i k1;subst k1;rw [okC1];show c∈sing e 32↔_;rw [sing_mem];constructor
     . rintro ⟨v,h1,h2,rfl⟩;exact ⟨Nat.ne_of_gt (Nat.two_pow_pos _),fun i hi=>by rw [← pow_bit hi];exact h2,pow_single v⟩
     . rintro ⟨h1,h2,h3⟩;obtain ⟨j1,j2,j3⟩:=ctz_spec h1 hc;exact ⟨ctz c,j1,h2 _ j2,single_low h1 hc h3⟩
   . rename_i k1;rw [if_neg k1] at h;split
     . rename_i k4;subst k4;rw [okC4];show c∈[e]↔_;rw [List.mem_singleton];exact ⟨fun x=>by subst x;exact ⟨h0,fun i h=>h,rfl⟩,fun x=>x.2.2⟩
     . rename_i k4;rw [if_neg k4] at h;split
       . rename_i hc';rw [if_pos hc'] at h;cases h
       . show c∈(subs e (lowb e)).filter (okC g k e)↔_;rw [List.mem_filter];constructor
         . rintro ⟨h1,h2⟩;have:=subs_part he (e - lowb e) (lowb e) (lowb_part he) (Nat.le_refl _) c h1;exact ⟨this.2.1,this.1,h2⟩
         . rintro ⟨h1,h2,h3⟩;exact ⟨subs_mem he h2 h1 _ _ (lowb_part he) (lowb_ne h0) (lowb_least he h2 h1) (Nat.le_refl _),h3⟩
theorem chs_sorted {g:G} {k:Int} {e:Nat} (he:e < 4294967296):(chs g k e).1.Pairwise (· < ·):=by
 unfold chs;split
 . exact .nil
 . split
   . exact sing_sorted 32
   . split
     . show [e].Pairwise (· < ·);simp
     . split
       . exact .nil
       . exact (subs_sorted he _ _ (lowb_part he) (Nat.le_refl _)).filter _
theorem chs_lt {g:G} {k:Int} {e:Nat} (he:e < 4294967296):∀ c∈(chs g k e).1,c < 4294967296:=by
 unfold chs;split
 . intro c hc;cases hc
 . split
   . intro c hc;obtain ⟨v,h1,_,rfl⟩:=sing_mem.1 hc;exact pow_lt32 h1
   . split
     . intro c hc;have:c = e:=by simpa using hc
       omega
     . split
       . intro c hc;cases hc
       . intro c hc;have hc':c∈(subs e (lowb e)).filter (okC g k e):=hc;have:=(subs_part he (e - lowb e) (lowb e) (lowb_part he) (Nat.le_refl _) c (List.mem_filter.1 hc').1).1.le;omega
theorem chs_some {g:G} (hg:g.valid = true) {k:Int} {e:Nat} (hk:dk k = true) (he:e < 4294967296) (hp:Part e (full g.ports.length)) (h:(chs g k e).2 = 0):(chs g k e).1.length > 0↔e≠0:=by
 constructor
 . intro h1 h0;subst h0;rw [chs,if_pos rfl] at h1;simp at h1
 . intro h0;have h1:=rs_inner hg hk he hp h0 (w:=0);have h2:rs g k e 0 < 4294967296:=by
    obtain ⟨_,a,_⟩:=inner_iff.1 h1;by_cases h4:k = 4
    . subst h4;rw [rs,if_neg (by decide),if_neg (by decide),if_pos rfl];exact he
    . exact Nat.lt_of_le_of_lt (rs_part he h4).le (wsh_lt he)
   exact List.length_pos_of_mem ((chs_mem hk he h2 h).2 h1)
theorem chs_len {g:G} {k:Int} {e:Nat} (he:e < 4294967296):(chs g k e).1.length≤5000000000:=by
 unfold chs;split
 . show ([]:List Nat).length≤_;simp
 . split
   . have:=sing_len e 32;show (sing e 32).length≤_;omega
   . split
     . show [e].length≤_;simp
     . split
       . show ([]:List Nat).length≤_;simp
       . show ((subs e (lowb e)).filter (okC g k e)).length≤_;have h1:=List.length_filter_le (okC g k e) (subs e (lowb e));have h2:=subs_len he (e - lowb e) (lowb e) (lowb_part he) (Nat.le_refl _);omega
end Go.Proofs.YthbiicpcbnijiaaGreatDoor
namespace Go.Proofs.YthbiicpcbnijiaaGreatDoor
open Go.Eng Go.Plain
set_option maxRecDepth 100000
set_option linter.unusedVariables false
def arcK (p:Pr) (g:G) (kd:Int) (k:Nat):List (Nat × Nat):=(chs g kd (enN p g (cfK p g k))).1.map fun s=>(s,rkC p g (stepC p g (cfK p g k) s))
def toK (p:Pr) (g:G) (kd:Int) (k:Nat):List Nat:=(arcK p g kd k).map (·.2)
def legK (p:Pr) (g:G) (leg:Cf→Bool) (k:Nat):Bool:=leg (cfK p g k)
structure StepK (p:Pr) (g:G) (kd:Int) (c:Cf) (s:Nat):Prop where
 ne:s≠0
 part:Part s (enN p g c)
 okc:okC g kd (enN p g c) s = true
 lt:s < 16777216
inductive Lng (p:Pr) (g:G) (kd:Int) (leg:Cf→Bool):Nat→Cf→Prop
 | nil (c:Cf):Lng p g kd leg 0 c
 | step {t:Nat} {c:Cf} (s:Nat) (h:StepK p g kd c s) (hl:leg (stepC p g c s) = false) (hn:Lng p g kd leg t (stepC p g c s)):Lng p g kd leg (t + 1) c
structure Srv (p:Pr) (g:G) (kd:Int) (leg:Cf→Bool) (R M:Int) (Inv:Cf→Cnt→Prop):Prop where
 closed:∀ c s,Conf p g c→leg c = true→StepK p g kd c s→leg (stepC p g c s) = true
 en:∀ c,Conf p g c→leg c = false→enN p g c≠0
 start:∀ c,Conf p g c→leg c = false→Inv c (cnt0 (enN p g c))
 step:∀ c n s,Conf p g c→Inv c n→leg c = false→StepK p g kd c s→leg (stepC p g c s) = false→Inv (stepC p g c s) (n.add s (enN p g (stepC p g c s)))
 rounds:∀ c n,Conf p g c→Inv c n→leg c = false→(n.rounds:Int) + 1≤R
 moves:0≤M→∀ c n s,Conf p g c→Inv c n→leg c = false→StepK p g kd c s→(n.moves:Int) + cnt s 32≤M
 ends:∃ T,∀ c,Conf p g c→leg c = false→¬ Lng p g kd leg T c
theorem ord_all {p:Pr} (hp:PrOk p) {g:G} (hg:g.valid = true) {kd:Int} {leg:Cf→Bool} {R M:Int} {Inv:Cf→Cnt→Prop} (hS:Srv p g kd leg R M Inv)
 (hch:∀ k,k < cntP p g→∀ s,s∈(chs g kd (enN p g (cfK p g k))).1→StepK p g kd (cfK p g k) s) (hne:∀ k,k < cntP p g→enN p g (cfK p g k)≠0→(chs g kd (enN p g (cfK p g k))).1≠[])
 {L:List Nat} (hL:An.Ord (cntP p g) (toK p g kd) (legK p g leg) L) (hconf:∀ c s,Conf p g c→StepK p g kd c s→Conf p g (stepC p g c s)):∀ k,k < cntP p g→k∈L:=by
 obtain ⟨T,hT⟩:=hS.ends;have key:∀ t k,k < cntP p g→k ∉ L→Lng p g kd leg t (cfK p g k):=by
  intro t
  induction t with
  | zero=>intro k _ _;exact .nil _
  | succ t ih =>
    intro k hk hn;obtain ⟨h1,h2⟩:=hL.out k hk hn;have hc:=cfK_conf hp hg k;rcases h2 with h2 | ⟨to,h2,h3⟩
    . exfalso;refine hne k hk (hS.en _ hc h1) ?_;simpa [toK,arcK] using h2
    . simp only [toK,arcK,List.map_map,List.mem_map,Function.comp] at h2;obtain ⟨s,hs,rfl⟩:=h2;have hst:=hch k hk s hs;have hc':=hconf _ _ hc hst;have hlt:=rkC_lt hp hg hc';have:=ih _ hlt h3;rw [cfK_rk hp hg hc'] at this;refine .step s hst ?_ this;have:=(hL.out _ hlt h3).1;rw [legK,cfK_rk hp hg hc'] at this;exact this
 intro k hk;apply Classical.byContradiction;intro hn;exact hT _ (cfK_conf hp hg k) (hL.out k hk hn).1 (key T k hk hn)
theorem ends_of {p:Pr} {g:G} {kd:Int} {leg:Cf→Bool} {M:Nat} {Inv:Cf→Cnt→Prop} (hconf:∀ c s,Conf p g c→StepK p g kd c s→Conf p g (stepC p g c s)) (hpos:∀ c s,StepK p g kd c s→1≤cnt s 32)
 (hstart:∀ c,Conf p g c→leg c = false→Inv c (cnt0 (enN p g c)))
 (hstep:∀ c n s,Conf p g c→Inv c n→leg c = false→StepK p g kd c s→leg (stepC p g c s) = false→Inv (stepC p g c s) (n.add s (enN p g (stepC p g c s))))
 (hmv:∀ c n,Conf p g c→Inv c n→leg c = false→n.moves≤M):∃ T,∀ c,Conf p g c→leg c = false→¬ Lng p g kd leg T c:=by
 have key:∀ t c n,Conf p g c→leg c = false→Inv c n→Lng p g kd leg t c→n.moves + t≤M:=by
  intro t
  induction t with
  | zero=>intro c n hc hl hi _;have:=hmv c n hc hi hl;omega
  | succ t ih =>
    intro c n hc hl hi h;cases h with
    | step s hs hl' hn =>
      have:=ih _ _ (hconf c s hc hs) hl' (hstep c n s hc hi hl hs hl') hn;have h1:=hpos c s hs;have h2:(n.add s (enN p g (stepC p g c s))).moves = n.moves + cnt s 32:=by
       rw [Cnt.add];split <;> rfl
      omega
 exact ⟨M + 1,fun c hc hl h=>by
  have:=key _ c _ hc hl (hstart c hc hl) h;omega⟩
def RdOk (p:Pr) (g:G) (R:Int) (Inv:Cf→Cnt→Prop) (k pd v:Nat):Prop:=∀ n,Inv (cfK p g k) n→n.pend = pd→(n.rounds:Int) + v≤R
def MvOk (p:Pr) (g:G) (M:Int) (Inv:Cf→Cnt→Prop) (k v:Nat):Prop:=0≤M→∀ n,Inv (cfK p g k) n→(n.moves:Int) + v≤M
def aftP (p:Pr) (g:G) (pd s t:Nat):Nat × Bool:=if ndiff pd s &&& enN p g (cfK p g t) = 0 then (enN p g (cfK p g t),true) else (ndiff pd s &&& enN p g (cfK p g t),false)
theorem rd_one {p:Pr} (hp:PrOk p) {g:G} (hg:g.valid = true) {kd:Int} {leg:Cf→Bool} {R M:Int} {Inv:Cf→Cnt→Prop} (hS:Srv p g kd leg R M Inv) {k pd:Nat} (hl:legK p g leg k = false):RdOk p g R Inv k pd 1 :=
 fun n hi _=>hS.rounds _ n (cfK_conf hp hg k) hi hl
theorem rd_step {p:Pr} (hp:PrOk p) {g:G} (hg:g.valid = true) {kd:Int} {leg:Cf→Bool} {R M:Int} {Inv:Cf→Cnt→Prop} (hS:Srv p g kd leg R M Inv) {k pd s v:Nat} (hl:legK p g leg k = false)
 (hs:StepK p g kd (cfK p g k) s) (hc':Conf p g (stepC p g (cfK p g k) s)) (hl':legK p g leg (rkC p g (stepC p g (cfK p g k) s)) = false)
 (hv:RdOk p g R Inv (rkC p g (stepC p g (cfK p g k) s)) (aftP p g pd s (rkC p g (stepC p g (cfK p g k) s))).1 v) :
 RdOk p g R Inv k pd (if (aftP p g pd s (rkC p g (stepC p g (cfK p g k) s))).2 then 1 + v else v):=by
 intro n hi hpd;have e:=cfK_rk hp hg hc';rw [legK,e] at hl';have hn:=hS.step _ n s (cfK_conf hp hg k) hi hl hs hl';have:=hv _ (by rw [e];exact hn);rw [aftP,e] at this ⊢;have hlf:lft n s (enN p g (stepC p g (cfK p g k) s)) = ndiff pd s &&& enN p g (stepC p g (cfK p g k) s):=by rw [lft,hpd]
 by_cases h0:ndiff pd s &&& enN p g (stepC p g (cfK p g k) s) = 0
 . rw [if_pos h0] at this ⊢;rw [Cnt.add,if_pos (by rw [hlf];exact h0)] at this;have h4:((n.rounds + 1:Nat):Int) + v≤R:=this rfl
   push_cast at h4
   show (n.rounds:Int) + ((1 + v:Nat):Int)≤R
   push_cast
   omega
 . rw [if_neg h0] at this ⊢;rw [Cnt.add,if_neg (by rw [hlf];exact h0)] at this;have h4:((n.rounds:Nat):Int) + v≤R:=this hlf;show (n.rounds:Int) + (v:Int)≤R;exact h4
theorem rd_max {p:Pr} {g:G} {R:Int} {Inv:Cf→Cnt→Prop} {k pd a b:Nat} (ha:RdOk p g R Inv k pd a) (hb:RdOk p g R Inv k pd b):RdOk p g R Inv k pd (max a b):=fun n hi hpd=>by
 have:=ha n hi hpd;have:=hb n hi hpd;omega
theorem rd_end {p:Pr} (hp:PrOk p) {g:G} (hg:g.valid = true) {kd:Int} {leg:Cf→Bool} {R M:Int} {Inv:Cf→Cnt→Prop} (hS:Srv p g kd leg R M Inv) {k v:Nat} (hl:legK p g leg k = false) (h:RdOk p g R Inv k (enN p g (cfK p g k)) v):(v:Int)≤R:=by
 have:=h _ (hS.start _ (cfK_conf hp hg k) hl) rfl;simp only [cnt0] at this;omega
theorem mv_step {p:Pr} (hp:PrOk p) {g:G} (hg:g.valid = true) {kd:Int} {leg:Cf→Bool} {R M:Int} {Inv:Cf→Cnt→Prop} (hS:Srv p g kd leg R M Inv) {k s v:Nat} (hl:legK p g leg k = false)
 (hs:StepK p g kd (cfK p g k) s) (hc':Conf p g (stepC p g (cfK p g k) s))
 (hv:legK p g leg (rkC p g (stepC p g (cfK p g k) s)) = false→MvOk p g M Inv (rkC p g (stepC p g (cfK p g k) s)) v) (h0:legK p g leg (rkC p g (stepC p g (cfK p g k) s)) = true→v = 0):MvOk p g M Inv k (cnt s 32 + v):=by
 intro hM n hi;have e:=cfK_rk hp hg hc';cases hl':legK p g leg (rkC p g (stepC p g (cfK p g k) s)) with
 | true =>
   have:=hS.moves hM _ n s (cfK_conf hp hg k) hi hl hs;rw [h0 hl']
   push_cast
   omega
 | false =>
   have hv:=hv hl' hM;rw [legK,e] at hl';have hn:=hS.step _ n s (cfK_conf hp hg k) hi hl hs hl';have:=hv _ (by rw [e];exact hn);have h2:(n.add s (enN p g (stepC p g (cfK p g k) s))).moves = n.moves + cnt s 32:=by
    rw [Cnt.add];split <;> rfl
   rw [h2] at this
   push_cast at this ⊢
   omega
theorem mv_max {p:Pr} {g:G} {M:Int} {Inv:Cf→Cnt→Prop} {k a b:Nat} (ha:MvOk p g M Inv k a) (hb:MvOk p g M Inv k b):MvOk p g M Inv k (max a b):=fun hM n hi=>by
 have:=ha hM n hi;have:=hb hM n hi;omega
theorem mv_end {p:Pr} (hp:PrOk p) {g:G} (hg:g.valid = true) {kd:Int} {leg:Cf→Bool} {R M:Int} {Inv:Cf→Cnt→Prop} (hS:Srv p g kd leg R M Inv) {k v:Nat} (hl:legK p g leg k = false) (h:MvOk p g M Inv k v) (hM:0≤M):(v:Int)≤M:=by
 have:=h hM _ (hS.start _ (cfK_conf hp hg k) hl);simp only [cnt0] at this;omega
def sysP (p:Pr) (g:G) (kd:Int):Tsy:=⟨cntP p g,fun k=>enN p g (cfK p g k),arcK p g kd⟩
def sumF (f:Nat→Int):Nat→Int
 | 0=>0
 | n + 1=>sumF f n + f n
theorem sumF_eq (f:Nat→Int):∀ n,((List.range n).map f).sum = sumF f n
 | 0=>rfl
 | n + 1=>by rw [List.range_succ,List.map_append,List.sum_append,sumF_eq f n];simp [sumF]
theorem sumF_ext {f h:Nat→Int}:∀ {n:Nat},(∀ i,i < n→f i = h i)→sumF f n = sumF h n
 | 0,_=>rfl
 | n + 1,e=>by rw [sumF,sumF,sumF_ext (fun i hi=>e i (by omega)),e n (by omega)]
theorem sumF_zero:∀ n,sumF (fun _=>0) n = 0
 | 0=>rfl
 | n + 1=>by rw [sumF,sumF_zero n];rfl
theorem sumF_bnd {f:Nat→Int} {B:Int}:∀ {n:Nat},(∀ i,i < n→-B≤f i∧f i≤B)→-((n:Int) * B)≤sumF f n∧sumF f n≤(n:Int) * B
 | 0,_=>by simp [sumF]
 | n + 1,h=>by
   have h1:=sumF_bnd (n:=n) (fun i hi=>h i (by omega));have h2:=h n (by omega);have e:((n + 1:Nat):Int) * B = (n:Int) * B + B:=by rw [Int.natCast_add,Int.add_mul];simp
   rw [sumF,e];omega
def gwX (p:Pr) (g:G) (c:Cf) (v x:Nat):Int:=(gI (moveL p g c v (ruleI p g c v).toNat) x - gI (gC c v) x) * (plP p g v x:Nat)
def gwS (p:Pr) (g:G) (c:Cf) (v:Nat):Nat→Int:=sumF (gwX p g c v)
def gwK (p:Pr) (g:G) (c:Cf) (v:Nat):Int:=if 0≤ruleI p g c v then gwS p g c v p.vars.length else 0
def toS (p:Pr) (g:G) (c:Cf) (k s b:Nat):Int:=(k:Int) + sumF (fun v=>if s.testBit v then gwK p g c v else 0) b
theorem pr_le1 {sz:Nat→Nat} (h:∀ i,0 < sz i) (a l l':Nat) (hl:l≤l'):Mx.pr sz a l≤Mx.pr sz a l':=by
 induction l' with
 | zero =>
   obtain rfl:l = 0:=by omega
   exact Nat.le_refl _
 | succ l' ih =>
   by_cases e:l = l' + 1
   . subst e;exact Nat.le_refl _
   . have:=ih (by omega);rw [Mx.pr_snoc];exact Nat.le_trans this (Nat.le_mul_of_pos_right _ (h _))
theorem pr_split {sz:Nat→Nat} (a l:Nat):∀ m,Mx.pr sz a (l + m) = Mx.pr sz a l * Mx.pr sz (a + l) m
 | 0=>by simp [Mx.pr]
 | m + 1=>by rw [← Nat.add_assoc,Mx.pr_snoc,pr_split a l m,Mx.pr_snoc,Nat.mul_assoc,Nat.add_assoc]
theorem pl_step (p:Pr) (g:G) {i:Nat} (hi:i < nP p g):Mx.pr (szP p g) i (nP p g - i) = szP p g i * Mx.pr (szP p g) (i + 1) (nP p g - (i + 1)):=by
 have e:nP p g - i = (nP p g - (i + 1)) + 1:=by omega
 rw [e,Mx.pr]
theorem pl_le (p:Pr) (g:G) {i:Nat} (hi:i≤nP p g):Mx.pr (szP p g) i (nP p g - i)≤cntP p g:=by
 have e:nP p g = i + (nP p g - i):=by omega
 rw [cntP]
 conv=>rhs;rw [e,pr_split]
 rw [Nat.zero_add];exact Nat.le_mul_of_pos_left _ (Mx.pr_pos (szP_pos p g) _ _)
theorem szpl_le (p:Pr) (g:G) {v x:Nat} (hv:v < g.ids.length) (hx:x < p.vars.length):szX p g v x * plP p g v x≤cntP p g:=by
 have h1:=ix_lt hv hx;have h2:=pl_step p g h1;rw [szP_ix p g hx] at h2;rw [plP,← h2];exact pl_le p g (Nat.le_of_lt h1)
theorem gwX_bnd {p:Pr} (hp:PrOk p) {g:G} (hg:g.valid = true) {c:Cf} (hc:Conf p g c) {v x:Nat} (hv:v < g.ids.length) (hx:x < p.vars.length) (hr:0≤ruleI p g c v) (hn:cntP p g≤32768) :
 -32768≤gwX p g c v x∧gwX p g c v x≤32768:=by
 obtain ⟨f1,f2,f3,f4,f5,f6,f7⟩:=val_facts hg;have hcl:=hc.len
 -- the step of this node alone
 have hs:Part (2 ^ v) (enN p g c):=fun i hi=>by
  have e:=pow_bit hi;rw [en_bit,Bool.and_eq_true,decide_eq_true_eq,decide_eq_true_eq,← e];exact ⟨hv,hr⟩
 have hd:=step_conf hp hg hc hs;have hrow:=stepC_row p g c (2 ^ v) (v:=v) (by omega);rw [Nat.testBit_two_pow_self,if_pos rfl] at hrow;have h1:=hc.val v (by omega) x hx;have h2:=hd.val v (by rw [stepC_len];omega) x hx;rw [hrow] at h2;have h3:=szpl_le p g hv hx;have h4:=szX_int hp g hg v hx;change loP p g v x≤_∧_≤hiP p g v x at h1 h2;rw [gwX];generalize gI (moveL p g c v (ruleI p g c v).toNat) x = a at *;generalize gI (gC c v) x = b at *;have h5:((szX p g v x * plP p g v x:Nat):Int)≤32768:=by omega
 rw [Int.natCast_mul] at h5;have hle:(0:Int)≤(plP p g v x:Nat):=Int.natCast_nonneg _;generalize ((plP p g v x:Nat):Int) = q at *;generalize ((szX p g v x:Nat):Int) = z at *;have a1:(a - b) * q≤z * q:=Int.mul_le_mul_of_nonneg_right (by omega) hle;have a2:(b - a) * q≤z * q:=Int.mul_le_mul_of_nonneg_right (by omega) hle;have a3:(b - a) * q = -((a - b) * q):=by rw [← Int.neg_mul];congr 1;omega
 omega
theorem gwS_bnd {p:Pr} (hp:PrOk p) {g:G} (hg:g.valid = true) {c:Cf} (hc:Conf p g c) {v:Nat} (hv:v < g.ids.length) (hr:0≤ruleI p g c v) (hn:cntP p g≤32768) {x:Nat} (hx:x≤p.vars.length) :
 -32768000≤gwS p g c v x∧gwS p g c v x≤32768000:=by
 have h1:=sumF_bnd (n:=x) (f:=gwX p g c v) (B:=32768) (fun i hi=>gwX_bnd hp hg hc hv (by omega) hr hn);have h2:=hp.vlen;rw [gwS];omega
theorem gwK_bnd {p:Pr} (hp:PrOk p) {g:G} (hg:g.valid = true) {c:Cf} (hc:Conf p g c) {v:Nat} (hv:v < g.ids.length) (hn:cntP p g≤32768) :
 -32768000≤gwK p g c v∧gwK p g c v≤32768000:=by
 rw [gwK];split
 . rename_i h;exact gwS_bnd hp hg hc hv h hn (Nat.le_refl _)
 . omega
theorem toS_bnd {p:Pr} (hp:PrOk p) {g:G} (hg:g.valid = true) {c:Cf} (hc:Conf p g c) (hn:cntP p g≤32768) {k s b:Nat} (hk:k < 32768) (hb:b≤g.ids.length) :
 -1000000000≤toS p g c k s b∧toS p g c k s b≤1000000000:=by
 obtain ⟨f1,f2,f3,f4,f5,f6,f7⟩:=val_facts hg;have h1:=sumF_bnd (n:=b) (f:=fun v=>if s.testBit v then gwK p g c v else 0) (B:=32768000) (fun i hi=>by
  show _≤(if s.testBit i then gwK p g c i else 0)∧(if s.testBit i then gwK p g c i else 0)≤_;split
  . exact gwK_bnd hp hg hc (by omega) hn
  . omega)
 rw [toS];omega
theorem toS_end {p:Pr} (hp:PrOk p) {g:G} (hg:g.valid = true) {c:Cf} (hc:Conf p g c) {s:Nat} (hs:Part s (enN p g c)):toS p g c (rkC p g c) s g.ids.length = (rkC p g (stepC p g c s):Nat):=by
 have hcl:=hc.len;rw [rk_rows hc (step_conf hp hg hc hs),toS,sumF_eq];congr 1;refine sumF_ext fun v hv=>?_;rw [grX,sumF_eq,stepC_row p g c s (by omega)];cases e:s.testBit v with
 | false =>
   simp only [Bool.false_eq_true,if_false];symm;rw [← sumF_zero p.vars.length];exact sumF_ext fun x _=>by rw [Int.sub_self,Int.zero_mul]
 | true =>
   have:=hs v e;rw [en_bit,Bool.and_eq_true,decide_eq_true_eq,decide_eq_true_eq] at this;simp only [if_true];rw [gwK,if_pos this.2,gwS];rfl
theorem toS_skip {p:Pr} {g:G} {c:Cf} {k s a b:Nat} (hab:a≤b) (h:∀ i,a≤i→i < b→s.testBit i = false):toS p g c k s b = toS p g c k s a:=by
 induction b with
 | zero =>
   obtain rfl:a = 0:=by omega
   rfl
 | succ b ih =>
   by_cases e:a = b + 1
   . subst e;rfl
   . rw [← ih (by omega) (fun i h1 h2=>h i h1 (by omega)),toS,toS,sumF,h b (by omega) (by omega)];simp
theorem toS_step {p:Pr} {g:G} {c:Cf} {k s b:Nat} (h:s.testBit b = true):toS p g c k s (b + 1) = toS p g c k s b + gwK p g c b:=by
 rw [toS,toS,sumF,h];simp;omega
theorem sys_ok {p:Pr} (hp:PrOk p) {g:G} (hg:g.valid = true) {kd:Int} (hk:dk kd = true) (hn:cntP p g≤32768) (he:∀ c,(chs g kd (enN p g c)).2 = 0) (ht:(sysP p g kd).tot (cntP p g)≤262144):(sysP p g kd).Ok:=by
 obtain ⟨f1,f2,f3,f4,f5,f6,f7⟩:=val_facts hg;have hmem:∀ c s,s∈(chs g kd (enN p g c)).1→s≠0∧Part s (enN p g c):=fun c s hs=>by
  have h32:=en_32 p hg c;have h1:=(chs_mem hk h32 (chs_lt h32 s hs) (he c)).1 hs;obtain ⟨a,b,_⟩:=inner_iff.1 h1;exact ⟨a,(part_iff (chs_lt h32 s hs)).1 b⟩
 refine ⟨cntP_pos p g,hn,fun k _=>en_24 p hg _,fun k hk'=>?_,fun k hk'=>?_,fun k hk' a ha=>?_,ht⟩
 . have h1:=chs_some hg hk (en_32 p hg (cfK p g k)) (en_part p hg _) (he _);show enN p g (cfK p g k)≠0↔arcK p g kd k≠[];rw [← h1,arcK];simp [List.length_pos_iff]
 . show (arcK p g kd k).Pairwise _;rw [arcK,List.pairwise_map];exact chs_sorted (en_32 p hg _)
 . have ha:a∈arcK p g kd k:=ha;rw [arcK] at ha;obtain ⟨s,hs,rfl⟩:=List.mem_map.1 ha;obtain ⟨h1,h2⟩:=hmem _ s hs;exact ⟨h1,h2,rkC_lt hp hg (step_conf hp hg (cfK_conf hp hg k) h2)⟩
def advI (p:Pr) (g:G) (k j v x:Nat):Int:=loP p g v x + ((if v * p.vars.length + x < j then dgP p g k v x else 0:Nat):Int)
def FullK (p:Pr) (g:G) (k i:Nat):Prop:=∀ j,i≤j→j < nP p g→Mx.dg (szP p g) (nP p g) k j + 1 = szP p g j
theorem adv_start {p:Pr} {g:G} {k v x:Nat} (hv:v < g.ids.length) (hx:x < p.vars.length):advI p g k (nP p g) v x = gI (gC (cfK p g k) v) x:=by
 rw [advI,if_pos (ix_lt hv hx),cfK_get p g k hv hx]
theorem adv_next {p:Pr} {g:G} {k i v x:Nat} (hne:v * p.vars.length + x≠i):advI p g k i v x = advI p g k (i + 1) v x:=by
 rw [advI,advI];by_cases h:v * p.vars.length + x < i
 . rw [if_pos h,if_pos (by omega)]
 . rw [if_neg h,if_neg (by omega)]
theorem adv_self {p:Pr} {g:G} {k v x:Nat}:advI p g k (v * p.vars.length + x) v x = loP p g v x:=by
 rw [advI,if_neg (by omega)];simp
theorem adv_val {p:Pr} {g:G} {k v x:Nat}:advI p g k (v * p.vars.length + x + 1) v x = loP p g v x + dgP p g k v x:=by
 rw [advI,if_pos (by omega)]
theorem full_next {p:Pr} {g:G} {k v x:Nat} (hx:x < p.vars.length) (h:FullK p g k (v * p.vars.length + x + 1)) (h1:dgP p g k v x + 1 = szX p g v x):FullK p g k (v * p.vars.length + x):=fun j hj hjn=>by
 by_cases e:j = v * p.vars.length + x
 . subst e;rw [szP_ix p g hx];exact h1
 . exact h j (by omega) hjn
theorem adv_inc {p:Pr} {g:G} {k v x:Nat} (hk:k < cntP p g) (hv:v < g.ids.length) (hx:x < p.vars.length) (h:FullK p g k (v * p.vars.length + x + 1)) (h1:dgP p g k v x + 1 < szX p g v x) {v' x':Nat} (hv':v' < g.ids.length) (hx':x' < p.vars.length) :
 gI (gC (cfK p g (k + 1)) v') x' = advI p g k (v * p.vars.length + x + 1) v' x' + (if v' = v∧x' = x then 1 else 0):=by
 have hi:=ix_lt hv hx;have hi':=ix_lt hv' hx';have hd:=Mx.dg_next (szP_pos p g) hk hi (by rw [szP_ix p g hx];exact h1) (fun j hj hjn=>h j (by omega) hjn) hi';rw [cfK_get p g _ hv' hx',dgP,hd,Mx.nx,advI];by_cases e:v' = v∧x' = x
 . obtain ⟨rfl,rfl⟩:=e;rw [if_neg (by omega),if_pos rfl,if_pos (by omega),if_pos ⟨rfl,rfl⟩,dgP];omega
 . have hne:v' * p.vars.length + x'≠v * p.vars.length + x:=fun q=>e (by
    have a1:=congrArg (· / p.vars.length) q;have a2:=congrArg (· % p.vars.length) q;simp only [ix_div hx,ix_div hx',ix_mod hx,ix_mod hx'] at a1 a2;exact ⟨a1,a2⟩)
   rw [if_neg e];by_cases q:v' * p.vars.length + x' < v * p.vars.length + x
   . rw [if_pos q,if_pos (by omega),dgP];omega
   . rw [if_neg q,if_neg hne,if_neg (by omega)];omega
theorem dg_cnt (p:Pr) (g:G) {i:Nat} (hi:i < nP p g):Mx.dg (szP p g) (nP p g) (cntP p g) i = 0:=by
 have e:nP p g = i + ((nP p g - (i + 1)) + 1):=by omega
 have h1:cntP p g = Mx.pr (szP p g) 0 i * szP p g i * Mx.pr (szP p g) (i + 1) (nP p g - (i + 1)):=by
  have h2:∀ a l m,Mx.pr (szP p g) a (l + m) = Mx.pr (szP p g) a l * Mx.pr (szP p g) (a + l) m:=by
   intro a l m
   induction m with
   | zero=>simp [Mx.pr]
   | succ m ih=>rw [← Nat.add_assoc,Mx.pr_snoc,ih,Mx.pr_snoc,Nat.mul_assoc,Nat.add_assoc]
  rw [cntP]
  conv=>lhs;rw [e,h2,Nat.zero_add,Mx.pr]
  rw [Nat.mul_assoc]
 rw [Mx.dg,h1,Nat.mul_div_cancel _ (Mx.pr_pos (szP_pos p g) _ _),Nat.mul_mod_left]
theorem adv_end {p:Pr} {g:G} {k:Nat} (hk:k < cntP p g) (h:FullK p g k 0) {v x:Nat} (hv:v < g.ids.length) (hx:x < p.vars.length):advI p g k 0 v x = gI (gC (cfK p g (k + 1)) v) x:=by
 have h1:=Mx.dg_last (szP_pos p g) hk (fun j hj=>h j (Nat.zero_le _) hj);have h2:k + 1 = cntP p g:=h1;rw [cfK_get p g _ hv hx,advI,if_neg (by omega),dgP,h2,dg_cnt p g (ix_lt hv hx)]
def unrI (p:Pr) (g:G) (k j v x:Nat):Int:=loP p g v x + ((if v * p.vars.length + x < j then 0 else dgP p g k v x:Nat):Int)
def unrK (p:Pr) (g:G) (k j:Nat):Nat:=k / Mx.pr (szP p g) j (nP p g - j)
theorem unr_start (p:Pr) (g:G) (k:Nat):unrK p g k (nP p g) = k:=by rw [unrK,Nat.sub_self,Mx.pr,Nat.div_one]
theorem unr_rest {p:Pr} {g:G} {k v x:Nat} (hv:v < g.ids.length) (hx:x < p.vars.length):unrK p g k (v * p.vars.length + x + 1) / szX p g v x = unrK p g k (v * p.vars.length + x):=by
 rw [unrK,← szP_ix p g hx];exact Mx.rest_step _ _ _ (ix_lt hv hx)
theorem unr_dig {p:Pr} {g:G} {k v x:Nat} (hx:x < p.vars.length):unrK p g k (v * p.vars.length + x + 1) % szX p g v x = dgP p g k v x:=by
 rw [unrK,← szP_ix p g hx];rfl
theorem unrI_start {p:Pr} {g:G} {k v x:Nat} (hv:v < g.ids.length) (hx:x < p.vars.length):unrI p g k (nP p g) v x = loP p g v x:=by
 rw [unrI,if_pos (ix_lt hv hx)];simp
theorem unrI_next {p:Pr} {g:G} {k i v x:Nat} (hne:v * p.vars.length + x≠i):unrI p g k i v x = unrI p g k (i + 1) v x:=by
 rw [unrI,unrI];by_cases h:v * p.vars.length + x < i
 . rw [if_pos h,if_pos (by omega)]
 . rw [if_neg h,if_neg (by omega)]
theorem unrI_self {p:Pr} {g:G} {k v x:Nat}:unrI p g k (v * p.vars.length + x) v x = unrI p g k (v * p.vars.length + x + 1) v x + dgP p g k v x:=by
 rw [unrI,unrI,if_neg (by omega),if_pos (by omega)];simp
theorem unrI_end {p:Pr} {g:G} {k v x:Nat} (hv:v < g.ids.length) (hx:x < p.vars.length):unrI p g k 0 v x = gI (gC (cfK p g k) v) x:=by
 rw [unrI,if_neg (by omega),cfK_get p g k hv hx]
theorem mcount_ok (p:Pr) (hp:PrOk p) (g:G) (hg:g.valid = true) (hn:cntP p g≤32768):Ret Tryz.prog 40 [tblV p g] (.tup [.int .i64 (cntP p g),.int .i64 0]):=by
 obtain ⟨f1,f2,f3,f4,f5,f6,f7⟩:=val_facts hg;have hvl:=hp.vlen;refine ret_frz rfl ?_;refine fn_rule mixed Tryz.func40 rfl hc40 hr40 rfl ?_
 repeat' ((conv=>whnf);first | fail)
 all_goals (conv=>whnf)
 refine loop_r mixed [9,10] (fun v:Nat=>[(4,.int .i64 (Mx.pr (szP p g) 0 (v * p.vars.length))),(11,.int .i64 v)]) (fun m v=>m = g.ids.length - v∧v≤g.ids.length) g.ids.length 0 ⟨rfl,Nat.zero_le _⟩ ?_ ?_
 . refine weak_by (fun _ _=>[]) ?_ ?_ rfl
   . repeat' (first | exact VRen.int (by rw [Nat.zero_mul];rfl) | exact True.intro | (refine ⟨⟨_,rfl,?_⟩,?_⟩) | exact VRen.kf rfl)
   . repeat' (first | exact True.intro)
 rintro m v ⟨hm,hv⟩;by_cases hvn:v < g.ids.length
 . repeat' ((conv=>whnf);first | (refine Br.dec ?_ ?_ <;> intro _ <;> try omega) | (refine Ix.nat (by omega) ?_))
   all_goals (conv=>whnf)
   refine loop_r mixed [9,10,11,15,16] (fun x:Nat=>[(4,.int .i64 (Mx.pr (szP p g) 0 (v * p.vars.length + x))),(17,.int .i64 x)]) (fun m x=>m = p.vars.length - x∧x≤p.vars.length) p.vars.length 0 ⟨rfl,Nat.zero_le _⟩ ?_ ?_
   . exact weak_b (fun _ _=>[])
   rintro m2 x ⟨hm2,hx⟩;by_cases hxn:x < p.vars.length
   . have hb:=bnd_in hg (hp.var x hxn) (v:=v) (by omega);have hsz:=szX_int hp g hg v hxn;have hix:=ix_lt hvn hxn;have hpr:Mx.pr (szP p g) 0 (v * p.vars.length + x + 1) = Mx.pr (szP p g) 0 (v * p.vars.length + x) * szX p g v x:=by
      rw [Mx.pr_snoc,Nat.zero_add,szP_ix p g hxn]
     have hmul:(Mx.pr (szP p g) 0 (v * p.vars.length + x):Int) * ((bnd g (gV p.vars x) v).2 - (bnd g (gV p.vars x) v).1 + 1) = (Mx.pr (szP p g) 0 (v * p.vars.length + x + 1):Nat):=by
      rw [hpr,Int.natCast_mul,hsz];rfl
     have hle:=pr_le1 (szP_pos p g) 0 (v * p.vars.length + x + 1) (nP p g) hix;change _≤cntP p g at hle
     repeat' ((conv=>whnf);first | (refine Ar.i64 (by rw [hmul];omega) (by rw [hmul];omega) ?_;rw [hmul]) | (refine Br.dec ?_ ?_ <;> intro _ <;> try omega) | (refine Ar.i64 (by omega) (by omega) ?_) | (refine Ix.nat (by omega) ?_) | (refine Ix.mk 0 rfl (by omega) ?_) | (refine Ix.mk 1 rfl (by omega) ?_))
     all_goals (conv=>whnf)
     refine ⟨p.vars.length - (x + 1),x + 1,by omega,⟨rfl,by omega⟩,?_⟩;exact weak_b (fun _ _=>[])
   . have ex:x = p.vars.length:=by omega
     subst ex
     repeat' ((conv=>whnf);first | (refine Br.dec ?_ ?_ <;> intro _ <;> try omega) | (refine Ar.i64 (by omega) (by omega) ?_))
     all_goals (conv=>whnf)
     refine ⟨g.ids.length - (v + 1),v + 1,by omega,⟨rfl,by omega⟩,?_⟩;refine weak_by (fun _ _=>[]) ?_ ?_ rfl
     . repeat' (first | exact VRen.int (by rw [Nat.add_mul,Nat.one_mul]) | exact True.intro | (refine ⟨⟨_,rfl,?_⟩,?_⟩) | exact VRen.kf rfl)
     . repeat' (first | exact True.intro)
 . have ev:v = g.ids.length:=by omega
   subst ev
   repeat' ((conv=>whnf);first | (refine Br.dec ?_ ?_ <;> intro _ <;> try omega))
   all_goals (conv=>whnf)
   exact VLe.rfl
theorem mCount_ok (p:Pr) (hp:PrOk p) (g:G) (hs:g.Small) (hg:g.valid = true) (hn:cntP p g≤32768):Ret Tryz.prog 32 [p.v,g.v] (.tup [.int .i64 (cntP p g),.int .i64 0]):=by
 have h1:=fits_ok p hp g hs hg;have h2:=table_ok p hp g hg;have h3:=mcount_ok p hp g hg hn;refine ret_frz rfl ?_;refine fn_rule mixed Tryz.func32 rfl hc32 hr32 rfl ?_
 repeat' ((conv=>whnf);first | (refine Br.ff ?_) | (refine h1.go ?_) | (refine h2.go ?_) | (refine h3.go ?_))
 all_goals (conv=>whnf)
 exact VLe.rfl
def lenM (p:Pr):Nat→Nat:=fun _=>p.vars.length
def rowI (f:Nat→Nat→Int):Nat→Nat→Nat→V:=fun v x _=>.int .i64 (f v x)
def famI (p:Pr) (g:G) (f:Nat→Nat→Int) (op:List (Nat × Nat)):Blk:=.fam g.ids.length 1 (lenM p) (rowI f) op
def rowJ (p:Pr) (g:G) (v x:Nat):Nat→Nat→V:=fun i _=>if i < x then .int .i64 (loP p g v i) else .int .i64 0
theorem rowJ_succ (p:Pr) (g:G) (v x x' i j:Nat) (hx:x' = x) (hj:j < 1):VLe (fset (rowJ p g v x) x' 0 [.int .i64 (loP p g v x)] i j) (rowJ p g v (x + 1) i j):=by
 obtain rfl:j = 0:=by omega
 subst hx;apply VLe.of_eq;by_cases h:i = x'
 . subst h;simp [fset,rowJ]
 . have h1:(i < x' + 1) = (i < x'):=by simp;omega
   simp [fset,rowJ,h,h1]
theorem setF_rowJ (p:Pr) (g:G) (v i j t:Nat) (hj:j < setN (lenT p.vars.length v) v p.vars.length i) (ht:t < 1):VLe (setF (rowI (loP p g)) v (rowJ p g v p.vars.length) i j t) (rowI (loP p g) i j t):=by
 apply VLe.of_eq;simp only [setF];split
 . rename_i e;subst e;rw [setN,if_pos rfl] at hj;rw [rowJ,if_pos hj];rfl
 . rfl
def LowF (p:Pr) (g:G) (F:FuncId):Prop:=callable Tryz.prog F = true∧∀ v x,v < g.ids.length→x < p.vars.length→Ret Tryz.prog F [.int .i64 v,.int .i64 x,.fe 1 1 (tab [[tblV p g]]) 0 0] (.int .i64 (loP p g v x))
set_option maxHeartbeats 8000000 in
theorem mbuild_ok (p:Pr) (hp:PrOk p) (g:G) (hg:g.valid = true) (F:FuncId) (hF:LowF p g F) :
 CallF Tryz.prog 41 [tblV p g,.fn (.func F) false [.loc 0 0]] [(0,.cells [tblV p g])] KS2.tail fun v own' _=>v = .vec 1 1 0 g.ids.length∧own' = [(1,famI p g (loP p g) []),(0,.cells [tblV p g])]:=by
 obtain ⟨f1,f2,f3,f4,f5,f6,f7⟩:=val_facts hg;have hvl:=hp.vlen;refine call_post ?_;refine fn_rule mixed Tryz.func41 rfl hc41 hr41 rfl ?_
 repeat' ((conv=>whnf);first | (refine Bd.nat (by omega) ?_) | (refine Len.mk (by omega) ?_) | (refine MkS.vec ?_))
 all_goals (conv=>whnf)
 refine loop_u mixed [0,1,5,12] [2] [3,4,5,6,7,8,9,10,11,12,13,14,15,16,17,18,19,20,21,22,23,24,25,26,27,28,29] [2,1,0] (fun v:Nat=>[(13,.int .i64 v)])
  (fun own v=>(2,.vec (lenT p.vars.length v v) 1 (rowI (loP p g) v)) :: updO (updO own 1 (.fam g.ids.length 1 (lenT p.vars.length v) (rowI (loP p g)) [])) 1 (.fam g.ids.length 1 (lenT p.vars.length v) (rowI (loP p g)) (opn v g.ids.length 2))) (fun k v=>k = g.ids.length - v∧v≤g.ids.length) g.ids.length 0 ⟨rfl,Nat.zero_le _⟩ rfl (fun _=>rfl) ?_ ?_
 . have e:opn 0 g.ids.length 2 = [(0,2)]:=if_pos (by omega);simp only [e];refine Weak.trans ?_ (weak_open (ks:=[2,3,4,5,6,7,8,9,10,11,12,13,14,15,16,17,18,19,20,21,22,23,24,25,26,27,28,29]) rfl rfl rfl (by omega) rfl) (ks_cons rfl);refine weak_by (fun _ _=>[(0,some 0),(1,some 1)]) ?_ ?_ rfl
   . repeat' (first | exact True.intro | (refine VRen.fn ?_) | (refine ⟨⟨_,rfl,?_⟩,?_⟩) | exact VRen.kf rfl | exact VRen.loc rfl | exact VRen.vec rfl rfl rfl | (refine And.intro ?_ ?_))
   . repeat' (first | exact ⟨rfl,rfl,rfl,fun i hi=>⟨rfl,if_neg (by omega)⟩⟩ | exact True.intro | (refine ⟨⟨_,rfl,?_⟩,?_⟩) | exact VRen.kf rfl | (refine And.intro ?_ ?_))
 rintro k v ⟨hk,hv⟩;by_cases hvn:v < g.ids.length
 . have e:opn v g.ids.length 2 = [(v,2)]:=if_pos hvn;simp only [e]
   repeat' ((conv=>whnf);first | (refine Br.dec ?_ ?_ <;> intro _ <;> try omega) | (refine Ix.nat (by omega) ?_) | (refine Bd.nat (by omega) ?_) | (refine Len.mk (by omega) ?_) | (refine Ltn.mk (by omega) ?_) | (refine MkS.vec ?_) | (refine OpnSet.hd (by omega) ?_))
   all_goals (conv=>whnf)
   refine loop_u mixed [0,1,5,6,12,13,29] [] [4,5,6,7,8,9,10,11,12,13,14,15,16,17,18,19,20,21,22,23,24,25,26,27,28,29] [3,2,1,0] (fun x:Nat=>[(30,.int .i64 x)])
    (fun own x=>updO own 3 (.vec p.vars.length 1 (rowJ p g v x))) (fun k x=>k = p.vars.length - x∧x≤p.vars.length) p.vars.length 0 ⟨rfl,Nat.zero_le _⟩ rfl (fun _=>rfl) ?_ ?_
   . refine weak_by (fun _ _=>[(0,some 0),(1,some 1),(2,some 2),(3,some 3)]) ?_ ?_ rfl
     . repeat' (first | exact True.intro | (refine VRen.fn ?_) | (refine ⟨⟨_,rfl,?_⟩,?_⟩) | exact VRen.kf rfl | exact VRen.loc rfl | exact VRen.vec rfl rfl rfl | (refine And.intro ?_ ?_))
     . repeat' (first | exact ⟨rfl,rfl,⟨rfl,rfl,True.intro⟩,fun i hi=>rfl,fun i j t hi hn hj ht=>VLe.rfl⟩ | (refine ⟨Nat.le_refl _,rfl,fun i j hi hj=>VLe.of_eq ?_⟩;rw [rowJ,if_neg (by omega)];(obtain rfl:j = 0:=(by omega));rfl) | exact True.intro | (refine ⟨⟨_,rfl,?_⟩,?_⟩) | exact VRen.kf rfl | (refine ⟨Nat.le_refl _,rfl,fun i j hi hj=>?_⟩) | exact VLe.rfl | (refine And.intro ?_ ?_))
   rintro k x ⟨hk2,hx⟩;by_cases hxn:x < p.vars.length
   . have hfx:=hF.2 v x hvn hxn
     repeat' ((conv=>whnf);first | (refine Br.dec ?_ ?_ <;> intro _ <;> try omega) | (refine Ar.i64 (by omega) (by omega) ?_) | (refine Ix.nat (by omega) ?_) | (refine Ltn.mk (by omega) ?_) | (refine Opn.hdl (by omega) (show setN _ _ _ _ = p.vars.length from if_pos rfl) ?_) | (refine Chk.mk hF.1 ?_) | (refine call_lend hfx rfl ⟨VLe.rfl,VLe.rfl,VLe.rfl,True.intro⟩ ?_) | (refine And.intro (Ltn.mk (by omega) (Opn.hdl (by omega) (show setN _ _ _ _ = p.vars.length from if_pos rfl) rfl)) ?_))
     all_goals (conv=>whnf)
     refine ⟨p.vars.length - (x + 1),x + 1,by omega,⟨rfl,by omega⟩,?_⟩;refine weak_by (fun _ _=>[(0,some 0),(1,some 1),(2,some 2),(3,some 3)]) ?_ ?_ rfl
     . repeat' (first | exact True.intro | (refine VRen.fn ?_) | (refine ⟨⟨_,rfl,?_⟩,?_⟩) | exact VRen.kf rfl | exact VRen.loc rfl | exact VRen.vec rfl rfl rfl | (refine And.intro ?_ ?_))
     . repeat' (first | exact ⟨rfl,rfl,⟨rfl,rfl,True.intro⟩,fun i hi=>rfl,fun i j t hi hn hj ht=>VLe.rfl⟩ | exact rowJ_succ _ _ _ _ _ _ _ (Nat.zero_add _) hj | exact True.intro | (refine ⟨⟨_,rfl,?_⟩,?_⟩) | exact VRen.kf rfl | (refine ⟨Nat.le_refl _,rfl,fun i j hi hj=>?_⟩) | exact VLe.rfl | (refine And.intro ?_ ?_))
   . have ex:x = p.vars.length:=by omega
     subst ex
     repeat' ((conv=>whnf);first | (refine Br.dec ?_ ?_ <;> intro _ <;> try omega) | (refine Ar.i64 (by omega) (by omega) ?_))
     all_goals (conv=>whnf)
     refine ⟨g.ids.length - (v + 1),v + 1,by omega,⟨rfl,by omega⟩,?_⟩;refine Weak.trans (weak_step (own_close (q:=3) (k:=1) (i:=v) [] rfl rfl hvn (look_here rfl) (Nat.le_of_eq (if_pos rfl)) rfl (fun j hj=>(look_there (fun e=>hj e.symm)).symm))) ?_ (ks_sub rfl);by_cases h1:v + 1 < g.ids.length
     . have e1:opn (v + 1) g.ids.length 2 = [(v + 1,2)]:=if_pos h1;simp only [e1];refine Weak.trans ?_ (weak_open (ks:=[2,3,4,5,6,7,8,9,10,11,12,13,14,15,16,17,18,19,20,21,22,23,24,25,26,27,28,29]) rfl rfl rfl h1 rfl) (ks_cons rfl);refine weak_by (fun _ _=>[(0,some 0),(1,some 1)]) ?_ ?_ rfl
       . repeat' (first | exact True.intro | (refine VRen.fn ?_) | (refine ⟨⟨_,rfl,?_⟩,?_⟩) | exact VRen.kf rfl | exact VRen.loc rfl | exact VRen.vec rfl rfl rfl | (refine And.intro ?_ ?_))
       . repeat' (first | exact ⟨rfl,rfl,True.intro,fun i hi=>(lenT_set _ _ _).symm,fun i j t hi hn hj ht=>setF_rowJ p g v i j t hj ht⟩ | exact True.intro | (refine ⟨⟨_,rfl,?_⟩,?_⟩) | exact VRen.kf rfl | (refine And.intro ?_ ?_))
     . have e1:opn (v + 1) g.ids.length 2 = []:=if_neg h1;simp only [e1];refine weak_by (fun _ _=>[(0,some 0),(1,some 1),(2,none)]) ?_ ?_ rfl
       . repeat' (first | exact True.intro | (refine VRen.fn ?_) | (refine ⟨⟨_,rfl,?_⟩,?_⟩) | exact VRen.kf rfl | exact VRen.loc rfl | exact VRen.vec rfl rfl rfl | (refine And.intro ?_ ?_))
       . repeat' (first | exact ⟨rfl,rfl,True.intro,fun i hi=>(lenT_set _ _ _).symm,fun i j t hi hn hj ht=>setF_rowJ p g v i j t hj ht⟩ | exact ⟨1,rowI (loP p g) (v + 1),by rw [lenT_self]⟩ | exact True.intro | (refine ⟨⟨_,rfl,?_⟩,?_⟩) | exact VRen.kf rfl | (refine And.intro ?_ ?_))
 . have e:opn v g.ids.length 2 = []:=if_neg hvn;have ev:v = g.ids.length:=by omega
   simp only [e]
   repeat' ((conv=>whnf);first | (refine Br.dec ?_ ?_ <;> intro _ <;> try omega))
   all_goals (conv=>whnf)
   exact postR_by (fun _=>[(0,some 0),(1,some 1)]) _ _ ⟨rfl,rfl⟩ (VRen.vec rfl rfl rfl) (by repeat' (first | (refine ⟨rfl,rfl,True.intro,fun i hi=>(if_pos (by omega)).symm,fun i j t hi hn hj ht=>VLe.rfl⟩) | exact True.intro | (refine ⟨⟨_,rfl,?_⟩,?_⟩) | exact VRen.kf rfl | (refine And.intro ?_ ?_))) rfl
theorem low1_ok (p:Pr) (hp:PrOk p) (g:G) (hg:g.valid = true):LowF p g 76:=by
 obtain ⟨f1,f2,f3,f4,f5,f6,f7⟩:=val_facts hg;refine ⟨by kernel_rfl,fun v x hv hx=>?_⟩;refine ret_frz rfl ?_;refine fn_rule mixed Tryz.func76 rfl hc76 hr76 rfl ?_
 repeat' ((conv=>whnf);first | (refine Ix.nat (by omega) ?_) | (refine Ix.mk 0 rfl (by omega) ?_))
 all_goals (conv=>whnf)
 exact VLe.rfl
theorem low2_ok (p:Pr) (hp:PrOk p) (g:G) (hg:g.valid = true):LowF p g 42:=by
 obtain ⟨f1,f2,f3,f4,f5,f6,f7⟩:=val_facts hg;refine ⟨by kernel_rfl,fun v x hv hx=>?_⟩;refine ret_frz rfl ?_;refine fn_rule mixed Tryz.func42 rfl hc42 hr42 rfl ?_
 repeat' ((conv=>whnf);first | (refine Ix.nat (by omega) ?_) | (refine Ix.mk 0 rfl (by omega) ?_))
 all_goals (conv=>whnf)
 exact VLe.rfl
theorem mleast_ok (p:Pr) (hp:PrOk p) (g:G) (hs:g.Small) (hg:g.valid = true):CallF Tryz.prog 35 [p.v,g.v] [] KS2 fun v own' _=>v = .tup [.vec 0 1 0 g.ids.length,.int .i64 0]∧own' = [(0,famI p g (loP p g) [])]:=by
 have h1:=fits_ok p hp g hs hg;have h2:=table_ok p hp g hg;have h3:=mbuild_ok p hp g hg _ (low1_ok p hp g hg);refine call_post ?_;refine fn_rule mixed Tryz.func35 rfl hc35 hr35 rfl ?_
 repeat' ((conv=>whnf);first | (refine Br.ff ?_) | (refine h1.go ?_) | (refine h2.go ?_) | (refine call_by [(0,some 2)] [1] (h3.mono ?_) ⟨VRen.kf rfl,VRen.fn ⟨VRen.loc rfl,True.intro⟩,True.intro⟩ (by repeat' (first | exact True.intro | (refine ⟨⟨_,rfl,?_⟩,?_⟩) | exact VRen.kf rfl | (refine And.intro ?_ ?_))) rfl;rintro _ _ _ ⟨rfl,rfl⟩) | (refine Chk.mk rfl ?_))
 all_goals (conv=>whnf)
 exact postR_by (fun _=>[(0,some 3)]) _ _ ⟨rfl,rfl⟩ (VRen.tup ⟨VRen.vec rfl rfl rfl,VRen.kf rfl,True.intro⟩) (by repeat' (first | (refine ⟨rfl,rfl,True.intro,fun i hi=>rfl,fun i j t hi hn hj ht=>VLe.rfl⟩) | exact True.intro | (refine ⟨⟨_,rfl,?_⟩,?_⟩))) rfl
theorem adv_rowset (p:Pr) (g:G) (k v x x' i j:Nat) (hx:x' = x) (hj:j < 1) (a:Int) (ha:a = loP p g v x):VLe (fset (rowI (advI p g k (v * p.vars.length + x + 1)) v) x' 0 [.int .i64 a] i j) (rowI (advI p g k (v * p.vars.length + x)) v i j):=by
 obtain rfl:j = 0:=by omega
 subst hx ha;apply VLe.of_eq;by_cases h:i = x'
 . subst h;have:=adv_self (p:=p) (g:=g) (k:=k) (v:=v) (x:=i);simp [fset,rowI,this]
 . have:=adv_next (p:=p) (g:=g) (k:=k) (i:=v * p.vars.length + x') (v:=v) (x:=i) (by omega);simp [fset,rowI,h,this]
theorem adv_rows (p:Pr) (g:G) (k v x i j t:Nat) (hx:x < p.vars.length) (hj:j < p.vars.length) (hi:i≠v):VLe (rowI (advI p g k (v * p.vars.length + x + 1)) i j t) (rowI (advI p g k (v * p.vars.length + x)) i j t):=by
 apply VLe.of_eq;have hne:i * p.vars.length + j≠v * p.vars.length + x:=fun q=>hi (by
  have a1:=congrArg (· / p.vars.length) q;simpa only [ix_div hx,ix_div hj] using a1)
 simp only [rowI];rw [adv_next hne]
theorem adv_rowinc (p:Pr) (g:G) (k v x x' i j:Nat) (hk:k < cntP p g) (hv:v < g.ids.length) (hxm:x < p.vars.length) (h:FullK p g k (v * p.vars.length + x + 1)) (h1:dgP p g k v x + 1 < szX p g v x) (hx:x' = x) (hi:i < p.vars.length) (hj:j < 1) (a:Int) (ha:a = advI p g k (v * p.vars.length + x + 1) v x + 1) :
 VLe (fset (rowI (advI p g k (v * p.vars.length + x + 1)) v) x' 0 [.int .i64 a] i j) (rowI (fun v x=>gI (gC (cfK p g (k + 1)) v) x) v i j):=by
 obtain rfl:j = 0:=by omega
 subst hx ha;apply VLe.of_eq;have:=adv_inc hk hv hxm h h1 hv hi;by_cases e:i = x'
 . subst e;rw [if_pos ⟨rfl,rfl⟩] at this;simp [fset,rowI,this]
 . rw [if_neg (fun q=>e q.2)] at this;simp [fset,rowI,e,this]
theorem adv_rowsinc (p:Pr) (g:G) (k v x i j t:Nat) (hk:k < cntP p g) (hv:v < g.ids.length) (hxm:x < p.vars.length) (h:FullK p g k (v * p.vars.length + x + 1)) (h1:dgP p g k v x + 1 < szX p g v x) (hi:i < g.ids.length) (hj:j < p.vars.length) (hne:i≠v) :
 VLe (rowI (advI p g k (v * p.vars.length + x + 1)) i j t) (rowI (fun v x=>gI (gC (cfK p g (k + 1)) v) x) i j t):=by
 apply VLe.of_eq;have:=adv_inc hk hv hxm h h1 hi hj;rw [if_neg (fun q=>hne q.1)] at this;simp [rowI,this]
theorem setF_self (f:Nat→Nat→Nat→V) (v i j t:Nat):VLe (setF f v (f v) i j t) (f i j t):=by
 apply VLe.of_eq;simp only [setF];split
 . rename_i e;rw [e]
 . rfl
theorem adv_setinc (p:Pr) (g:G) (k v x i j t:Nat) (hk:k < cntP p g) (hv:v < g.ids.length) (hxm:x < p.vars.length) (h:FullK p g k (v * p.vars.length + x + 1)) (h1:dgP p g k v x + 1 < szX p g v x) (hi:i < g.ids.length) (hj:j < p.vars.length) (ht:t < 1) (a:Int) (ha:a = advI p g k (v * p.vars.length + x + 1) v x + 1) :
 VLe (setF (rowI (advI p g k (v * p.vars.length + x + 1))) v (fset (rowI (advI p g k (v * p.vars.length + x + 1)) v) (0 + x) 0 [.int .i64 a]) i j t) (rowI (fun v x=>gI (gC (cfK p g (k + 1)) v) x) i j t):=by
 simp only [setF];split
 . rename_i e;subst e;exact adv_rowinc p g k i x (0 + x) j t hk hv hxm h h1 (Nat.zero_add _) hj ht a ha
 . rename_i e;exact adv_rowsinc p g k v x i j t hk hv hxm h h1 hi hj e
set_option maxHeartbeats 8000000 in
theorem madv_ok (p:Pr) (hp:PrOk p) (g:G) (hg:g.valid = true) (k:Nat) (hk:k < cntP p g) :
 CallF Tryz.prog 37 [tblV p g,.vec 0 1 0 g.ids.length] [(0,famI p g (fun v x=>gI (gC (cfK p g k) v) x) [])] KS.tail fun v own' _=>v = .tup []∧own' = [(0,famI p g (fun v x=>gI (gC (cfK p g (k + 1)) v) x) [])]:=by
 obtain ⟨f1,f2,f3,f4,f5,f6,f7⟩:=val_facts hg;have hvl:=hp.vlen;refine call_post (call_step ?_);refine fn_rule mixed Tryz.func37 rfl hc37 hr37 rfl ?_
 repeat' ((conv=>whnf);first | (refine Ar.i64 (by omega) (by omega) ?_) | (refine fn_rule mixed Tryz.func43 rfl hc43 hr43 rfl ?_) | (refine range_rule ?_) | (refine Chk.mk (by kernel_rfl) ?_) | (refine fn_rule mixed Tryz.func83 rfl hc83 hr83 rfl ?_))
 all_goals (conv=>whnf)
 refine loop_u mixed [0,1] [] [5,6,7,8,9,10,11,12,13,14,15,16,17,18,19,20,21,22,23,24,25,26,27,28,29] [3,2,1,0] (fun j:Nat=>[(3,.int .i64 ((j:Int) - 1))]) (fun own j=>updO own 0 (famI p g (advI p g k (j * p.vars.length)) [])) (fun m j=>m = j∧j≤g.ids.length∧FullK p g k (j * p.vars.length)) g.ids.length g.ids.length ⟨rfl,Nat.le_refl _,fun j h1 h2=>(by rw [nP] at h2;omega)⟩ rfl (fun _=>rfl) ?_ ?_
 . refine weak_by (fun _ _=>[(0,some 0),(1,some 1),(2,some 2),(3,some 3)]) ?_ ?_ rfl
   . repeat' (first | exact VRen.yld rfl | exact True.intro | (refine ⟨⟨_,rfl,?_⟩,?_⟩) | exact VRen.kf rfl | exact VRen.loc rfl)
   . repeat' (first | (refine VRen.fn ?_) | (refine ⟨rfl,rfl,rfl,rfl,rfl,?_⟩) | exact ⟨rfl,rfl,True.intro,fun i hi=>rfl,fun i j t hi hn hj ht=>VLe.of_eq (congrArg (V.int .i64) (adv_start hi hj).symm)⟩ | exact True.intro | (refine ⟨⟨_,rfl,?_⟩,?_⟩) | exact VRen.kf rfl | exact VRen.loc rfl | exact VRen.vec rfl rfl rfl | (refine And.intro ?_ ?_))
 rintro m j ⟨hm,hj,hfull⟩;rcases Nat.eq_zero_or_pos j with h0 | h0
 . subst h0
   repeat' ((conv=>whnf);first | (refine Br.ff ?_))
   all_goals (conv=>whnf)
   have hend:=fun v x hv hx=>adv_end (v:=v) (x:=x) hk (by rw [Nat.zero_mul] at hfull;exact hfull) hv hx;exact ⟨_,OwnStep.refl _,postR_by (fun _=>[(0,some 0)]) _ _ ⟨rfl,rfl⟩ (VRen.kf rfl) (by repeat' (first | (refine ⟨rfl,rfl,True.intro,fun i hi=>rfl,fun i j t hi hn hj ht=>VLe.of_eq (congrArg (V.int .i64) (by rw [Nat.zero_mul];exact hend i j hi hj))⟩) | exact True.intro | (refine ⟨⟨_,rfl,?_⟩,?_⟩))) rfl⟩
 . obtain ⟨v,rfl⟩:∃ v,j = v + 1:=⟨j - 1,by omega⟩
   repeat' ((conv=>whnf);first | (refine Ix.mk v (by omega) (by omega) ?_) | (refine Br.dec ?_ ?_ <;> intro _ <;> try omega) | (refine Ar.i64 (by omega) (by omega) ?_) | (refine fn_rule mixed Tryz.func44 rfl hc44 hr44 rfl ?_) | (refine range_rule ?_) | (refine Chk.mk (by kernel_rfl) ?_) | (refine fn_rule mixed Tryz.func84 rfl hc84 hr84 rfl ?_) | (refine yield_rule mixed rfl rfl ?_))
   all_goals (conv=>whnf)
   refine loop_u mixed [0,1] [8] [9,10,11,12,13,14,15,16,17,18,19,20,21,22,23,24,25,26,27,28,29] [8,7,6,5,3,2,1,0] (fun i:Nat=>[(3,.int .i64 ((i:Int) - 1))]) (fun own i=>(8,.vec (lenM p v) 1 (rowI (advI p g k (v * p.vars.length + i)) v)) :: updO (updO (updO own 5 (.cells [.int .i64 v])) 0 (famI p g (advI p g k (v * p.vars.length + i)) [])) 0 (famI p g (advI p g k (v * p.vars.length + i)) [(v,8)])) (fun m i=>m = i∧i≤p.vars.length∧FullK p g k (v * p.vars.length + i)) p.vars.length p.vars.length ⟨rfl,Nat.le_refl _,by rw [Nat.add_mul,Nat.one_mul] at hfull;exact hfull⟩ rfl (fun _=>rfl) ?_ ?_
   . refine Weak.trans ?_ (weak_open (ks:=[8,9,10,11,12,13,14,15,16,17,18,19,20,21,22,23,24,25,26,27,28,29]) rfl rfl rfl (show v < g.ids.length by omega) rfl) (ks_cons rfl);have e:(v + 1) * p.vars.length = v * p.vars.length + p.vars.length:=by rw [Nat.add_mul,Nat.one_mul]
     refine weak_by (fun _ _=>[(0,some 0),(1,some 1),(2,some 2),(3,some 3),(5,some 5),(6,some 6),(7,some 7)]) ?_ ?_ rfl
     . repeat' (first | exact VRen.yld rfl | exact True.intro | (refine ⟨⟨_,rfl,?_⟩,?_⟩) | exact VRen.kf rfl | exact VRen.loc rfl)
     . repeat' (first | (refine VRen.fn ?_) | (refine ⟨rfl,rfl,rfl,rfl,rfl,?_⟩) | exact ⟨rfl,rfl,True.intro,fun i hi=>rfl,fun i j t hi hn hj ht=>by rw [e];exact VLe.rfl⟩ | exact True.intro | (refine ⟨⟨_,rfl,?_⟩,?_⟩) | exact VRen.kf rfl | exact VRen.int (by omega) | exact VRen.loc rfl | exact VRen.vec rfl rfl rfl | (refine And.intro ?_ ?_))
   rintro m i ⟨hm,hi,hfi⟩;rcases Nat.eq_zero_or_pos i with h1 | h1
   . subst h1
     repeat' ((conv=>whnf);first | (refine Br.tt ?_) | (refine Br.ff ?_) | (refine Ar.i64 (by omega) (by omega) ?_))
     all_goals (conv=>whnf)
     refine ⟨_,v,by omega,⟨rfl,by omega,by rw [Nat.add_zero] at hfi;exact hfi⟩,?_⟩;refine Weak.trans (weak_step (own_close (q:=8) (k:=0) (i:=v) [] rfl rfl (show v < g.ids.length by omega) (look_here rfl) (Nat.le_refl _) rfl (fun j hj=>(look_there (fun e=>hj e.symm)).symm))) ?_ (ks_sub rfl);have e:v * p.vars.length + 0 = v * p.vars.length:=Nat.add_zero _;refine weak_by (fun _ _=>[(0,some 0),(1,some 1),(2,some 2),(3,some 3)]) ?_ ?_ rfl
     . repeat' (first | exact VRen.yld rfl | exact True.intro | (refine ⟨⟨_,rfl,?_⟩,?_⟩) | exact VRen.int (by omega) | exact VRen.loc rfl)
     . repeat' (first | (refine VRen.fn ?_) | (refine ⟨rfl,rfl,rfl,rfl,rfl,?_⟩) | exact ⟨rfl,rfl,True.intro,fun i hi=>rfl,fun i j t hi hn hj ht=>(by rw [e];exact setF_self _ _ _ _ _)⟩ | exact True.intro | (refine ⟨⟨_,rfl,?_⟩,?_⟩) | exact VRen.kf rfl | exact VRen.loc rfl | exact VRen.vec rfl rfl rfl | (refine And.intro ?_ ?_))
   . obtain ⟨x,rfl⟩:∃ x,i = x + 1:=⟨i - 1,by omega⟩;have hxm:x < p.vars.length:=by omega
     have hlm:lenM p v = p.vars.length:=rfl;have hvn:v < g.ids.length:=by omega
     have hval:advI p g k (v * p.vars.length + (x + 1)) v (0 + x) = loP p g v x + dgP p g k v x:=by rw [Nat.zero_add,← Nat.add_assoc];exact adv_val
     have hval':advI p g k (v * p.vars.length + x + 1) v x = loP p g v x + dgP p g k v x:=adv_val;have hsz:=szX_int hp g hg v hxm;have hdl:=dgP_lt p g k v hxm;have hbi:=bnd_in hg (hp.var x hxm) (v:=v) (by omega);have hhi:(bnd g (gV p.vars x) v).2 = hiP p g v x:=rfl;have hlo:(bnd g (gV p.vars x) v).1 = loP p g v x:=rfl;by_cases hd:dgP p g k v x + 1 < szX p g v x
     . repeat' ((conv=>whnf);first | (refine Ix.mk x (by omega) (by omega) ?_) | (refine Ix.mk v (by omega) (by omega) ?_) | (refine Br.ff ?_) | (refine Br.dec ?_ ?_ <;> intro _ <;> try omega) | (refine Ar.i64 (by omega) (by omega) ?_) | (refine Ix.mk 1 rfl (by omega) ?_) | (refine Ltn.mk (by omega) ?_) | (refine yield_rule mixed rfl rfl ?_) | (refine Opn.hd (by omega) ?_))
       all_goals (conv=>whnf)
       exact ⟨_,own_close (q:=8) (k:=0) (i:=v) [] rfl rfl hvn (look_here rfl) (Nat.le_refl _) rfl (fun j hj=>(look_there (fun e=>hj e.symm)).symm),postR_by (fun _=>[(0,some 0)]) _ _ ⟨rfl,rfl⟩ (VRen.kf rfl) (by repeat' (first | (refine ⟨rfl,rfl,True.intro,fun i hi=>rfl,fun i j t hi hn hj ht=>adv_setinc p g k v x i j t hk hvn hxm hfi hd hi hj ht _ (by omega)⟩) | exact True.intro | (refine ⟨⟨_,rfl,?_⟩,?_⟩))) rfl⟩
     . repeat' ((conv=>whnf);first | (refine Ix.mk x (by omega) (by omega) ?_) | (refine Ix.mk v (by omega) (by omega) ?_) | (refine Br.tt ?_) | (refine Br.dec ?_ ?_ <;> intro _ <;> try omega) | (refine Ar.i64 (by omega) (by omega) ?_) | (refine Ix.mk 0 rfl (by omega) ?_) | (refine Ix.mk 1 rfl (by omega) ?_) | (refine Ltn.mk (by omega) ?_) | (refine yield_rule mixed rfl rfl ?_) | (refine Opn.hd (by omega) ?_))
       all_goals (conv=>whnf)
       have hf2:=full_next hxm hfi (by omega);refine ⟨_,x,by omega,⟨rfl,by omega,hf2⟩,?_⟩;refine weak_by (fun _ _=>[(0,some 0),(1,some 1),(2,some 2),(3,some 3),(5,some 5),(6,some 6),(7,some 7),(8,some 8)]) ?_ ?_ rfl
       . repeat' (first | exact VRen.yld rfl | exact True.intro | (refine ⟨⟨_,rfl,?_⟩,?_⟩) | exact VRen.int (by omega) | exact VRen.loc rfl)
       . repeat' (first | (refine VRen.fn ?_) | (refine ⟨rfl,rfl,rfl,rfl,rfl,?_⟩) | exact ⟨rfl,rfl,⟨rfl,rfl,True.intro⟩,fun i hi=>rfl,fun i j t hi hn hj ht=>adv_rows p g k v x i j t hxm hj (fun e=>by rw [e,look_here rfl] at hn;cases hn)⟩ | exact adv_rowset p g k v x _ _ _ (Nat.zero_add _) hj _ hlo | exact True.intro | (refine ⟨⟨_,rfl,?_⟩,?_⟩) | exact VRen.kf rfl | exact VRen.loc rfl | exact VRen.vec rfl rfl rfl | (refine ⟨Nat.le_refl _,rfl,fun i j hi hj=>?_⟩) | (refine And.intro ?_ ?_))
theorem unr_rowset (p:Pr) (g:G) (k v x x' i j:Nat) (hx:x' = x) (hj:j < 1) (a:Int) (ha:a = unrI p g k (v * p.vars.length + x + 1) v x + dgP p g k v x):VLe (fset (rowI (unrI p g k (v * p.vars.length + x + 1)) v) x' 0 [.int .i64 a] i j) (rowI (unrI p g k (v * p.vars.length + x)) v i j):=by
 obtain rfl:j = 0:=by omega
 subst hx ha;apply VLe.of_eq;by_cases h:i = x'
 . subst h;have:=unrI_self (p:=p) (g:=g) (k:=k) (v:=v) (x:=i);simp [fset,rowI,this]
 . have:=unrI_next (p:=p) (g:=g) (k:=k) (i:=v * p.vars.length + x') (v:=v) (x:=i) (by omega);simp [fset,rowI,h,this]
theorem unr_rows (p:Pr) (g:G) (k v x i j t:Nat) (hx:x < p.vars.length) (hj:j < p.vars.length) (hi:i≠v):VLe (rowI (unrI p g k (v * p.vars.length + x + 1)) i j t) (rowI (unrI p g k (v * p.vars.length + x)) i j t):=by
 apply VLe.of_eq;have hne:i * p.vars.length + j≠v * p.vars.length + x:=fun q=>hi (by
  have a1:=congrArg (· / p.vars.length) q;simpa only [ix_div hx,ix_div hj] using a1)
 simp only [rowI];rw [unrI_next hne]
theorem cV_famI (p:Pr) (g:G) (k:Nat) (f:Nat→Nat→Int) (hf:∀ v x,v < g.ids.length→x < p.vars.length→f v x = gI (gC (cfK p g k) v) x):VLe (.fz g.ids.length 1 false fun i _=>.fz (lenM p i) 1 false (rowI f i)) (cV (cfK p g k)):=by
 refine VLe.fz (cfK_len p g k).symm (fun h=>h) (fun i j hi hj=>?_);refine VLe.fz ?_ (fun h=>h) (fun a b ha hb=>VLe.of_eq (congrArg (V.int .i64) (hf i a hi ha)));rw [cfK_row p g k hi];simp [lenM]
set_option maxHeartbeats 8000000 in
theorem munrank_ok (p:Pr) (hp:PrOk p) (g:G) (hs:g.Small) (hg:g.valid = true) (hn:cntP p g≤32768) (k:Nat) (hk:k < cntP p g) :
 Ret Tryz.prog 11 [p.v,g.v,.int .i64 k] (.tup [cV (cfK p g k),.int .i64 0]):=by
 obtain ⟨f1,f2,f3,f4,f5,f6,f7⟩:=val_facts hg;have hvl:=hp.vlen;have h1:=fits_ok p hp g hs hg;have h2:=table_ok p hp g hg;have h3:=mbuild_ok p hp g hg _ (low2_ok p hp g hg);have h4:=mcount_ok p hp g hg hn;refine ret_frz rfl ?_;refine fn_rule mixed Tryz.func11 rfl hc11 hr11 rfl ?_
 repeat' ((conv=>whnf);first | (refine Br.ff ?_) | (refine Br.dec ?_ ?_ <;> intro _ <;> try omega) | (refine Ar.i64 (by omega) (by omega) ?_) | (refine h1.go ?_) | (refine h2.go ?_) | (refine h4.go ?_) | (refine call_by [(0,some 3)] [1] (h3.mono ?_) ⟨VRen.kf rfl,VRen.fn ⟨VRen.loc rfl,True.intro⟩,True.intro⟩ (by repeat' (first | exact True.intro | (refine ⟨⟨_,rfl,?_⟩,?_⟩) | exact VRen.kf rfl | (refine And.intro ?_ ?_))) rfl;rintro _ _ _ ⟨rfl,rfl⟩) | (refine Chk.mk rfl ?_) | (refine fn_rule mixed Tryz.func43 rfl hc43 hr43 rfl ?_) | (refine range_rule ?_) | (refine fn_rule mixed Tryz.func83 rfl hc83 hr83 rfl ?_))
 all_goals (conv=>whnf)
 refine loop_u mixed [0,1] [] [9,10,11,12,13,14,15,16,17,18,19,20,21,22,23,24,25,26,27,28,29] [7,6,5,4,3,2,1,0] (fun j:Nat=>[(3,.int .i64 ((j:Int) - 1))]) (fun own j=>updO (updO own 4 (famI p g (unrI p g k (j * p.vars.length)) [])) 2 (.cells [.int .i64 (unrK p g k (j * p.vars.length))])) (fun m j=>m = j∧j≤g.ids.length) g.ids.length g.ids.length ⟨rfl,Nat.le_refl _⟩ rfl (fun _=>rfl) ?_ ?_
 . have hst:=unr_start p g k;rw [nP] at hst;refine weak_by (fun _ _=>[(0,some 0),(1,some 1),(2,some 2),(3,some 3),(4,some 4),(5,some 5),(6,some 6),(7,some 7)]) ?_ ?_ rfl
   . repeat' (first | exact VRen.yld rfl | exact True.intro | (refine ⟨⟨_,rfl,?_⟩,?_⟩) | exact VRen.kf rfl | exact VRen.loc rfl)
   . repeat' (first | (refine VRen.fn ?_) | (refine ⟨rfl,rfl,rfl,rfl,rfl,?_⟩) | exact ⟨rfl,rfl,True.intro,fun i hi=>rfl,fun i j t hi hn hj ht=>VLe.of_eq (congrArg (V.int .i64) (unrI_start hi hj).symm)⟩ | exact VRen.int (by rw [hst]) | exact True.intro | (refine ⟨⟨_,rfl,?_⟩,?_⟩) | exact VRen.kf rfl | exact VRen.loc rfl | exact VRen.vec rfl rfl rfl | (refine And.intro ?_ ?_))
 rintro m j ⟨hm,hj⟩;rcases Nat.eq_zero_or_pos j with h0 | h0
 . subst h0;have e:0 * p.vars.length = 0:=Nat.zero_mul _
   repeat' ((conv=>whnf);first | (refine Br.ff ?_) | (refine Len.mk (by omega) ?_))
   all_goals (conv=>whnf)
   all_goals exact VLe.tup ⟨cV_famI p g k _ (fun v x hv hx=>by rw [e];exact unrI_end hv hx),VLe.rfl,True.intro⟩
 . obtain ⟨v,rfl⟩:∃ v,j = v + 1:=⟨j - 1,by omega⟩
   repeat' ((conv=>whnf);first | (refine Ix.mk v (by omega) (by omega) ?_) | (refine Br.dec ?_ ?_ <;> intro _ <;> try omega) | (refine Ar.i64 (by omega) (by omega) ?_) | (refine fn_rule mixed Tryz.func44 rfl hc44 hr44 rfl ?_) | (refine range_rule ?_) | (refine Chk.mk (by kernel_rfl) ?_) | (refine fn_rule mixed Tryz.func84 rfl hc84 hr84 rfl ?_) | (refine yield_rule mixed rfl rfl ?_))
   all_goals (conv=>whnf)
   refine loop_u mixed [0,1] [12] [13,14,15,16,17,18,19,20,21,22,23,24,25,26,27,28,29] [12,11,10,9,7,6,5,4,3,2,1,0] (fun i:Nat=>[(3,.int .i64 ((i:Int) - 1))]) (fun own i=>(12,.vec (lenM p v) 1 (rowI (unrI p g k (v * p.vars.length + i)) v)) :: updO (updO (updO (updO own 9 (.cells [.int .i64 v])) 2 (.cells [.int .i64 (unrK p g k (v * p.vars.length + i))])) 4 (famI p g (unrI p g k (v * p.vars.length + i)) [])) 4 (famI p g (unrI p g k (v * p.vars.length + i)) [(v,12)])) (fun m i=>m = i∧i≤p.vars.length) p.vars.length p.vars.length ⟨rfl,Nat.le_refl _⟩ rfl (fun _=>rfl) ?_ ?_
   . refine Weak.trans ?_ (weak_open (ks:=[12,13,14,15,16,17,18,19,20,21,22,23,24,25,26,27,28,29]) rfl rfl rfl (show v < g.ids.length by omega) rfl) (ks_cons rfl);have e:(v + 1) * p.vars.length = v * p.vars.length + p.vars.length:=by rw [Nat.add_mul,Nat.one_mul]
     refine weak_by (fun _ _=>[(0,some 0),(1,some 1),(2,some 2),(3,some 3),(4,some 4),(5,some 5),(6,some 6),(7,some 7),(9,some 9),(10,some 10),(11,some 11)]) ?_ ?_ rfl
     . repeat' (first | exact VRen.yld rfl | exact True.intro | (refine ⟨⟨_,rfl,?_⟩,?_⟩) | exact VRen.kf rfl | exact VRen.loc rfl)
     . repeat' (first | (refine VRen.fn ?_) | (refine ⟨rfl,rfl,rfl,rfl,rfl,?_⟩) | exact ⟨rfl,rfl,True.intro,fun i hi=>rfl,fun i j t hi hn hj ht=>by rw [e];exact VLe.rfl⟩ | exact VRen.int (by rw [e]) | exact True.intro | (refine ⟨⟨_,rfl,?_⟩,?_⟩) | exact VRen.kf rfl | exact VRen.int (by omega) | exact VRen.loc rfl | exact VRen.vec rfl rfl rfl | (refine And.intro ?_ ?_))
   rintro m i ⟨hm,hi⟩;rcases Nat.eq_zero_or_pos i with h1 | h1
   . subst h1
     repeat' ((conv=>whnf);first | (refine Br.tt ?_) | (refine Br.ff ?_) | (refine Ar.i64 (by omega) (by omega) ?_))
     all_goals (conv=>whnf)
     refine ⟨_,v,by omega,⟨rfl,by omega⟩,?_⟩;refine Weak.trans (weak_step (own_close (q:=12) (k:=4) (i:=v) [] rfl rfl (show v < g.ids.length by omega) (look_here rfl) (Nat.le_refl _) rfl (fun j hj=>(look_there (fun e=>hj e.symm)).symm))) ?_ (ks_sub rfl);have e:v * p.vars.length + 0 = v * p.vars.length:=Nat.add_zero _;refine weak_by (fun _ _=>[(0,some 0),(1,some 1),(2,some 2),(3,some 3),(4,some 4),(5,some 5),(6,some 6),(7,some 7)]) ?_ ?_ rfl
     . repeat' (first | exact VRen.yld rfl | exact True.intro | (refine ⟨⟨_,rfl,?_⟩,?_⟩) | exact VRen.int (by omega) | exact VRen.loc rfl)
     . repeat' (first | (refine VRen.fn ?_) | (refine ⟨rfl,rfl,rfl,rfl,rfl,?_⟩) | exact ⟨rfl,rfl,True.intro,fun i hi=>rfl,fun i j t hi hn hj ht=>(by rw [e];exact setF_self _ _ _ _ _)⟩ | exact VRen.int (by rw [e]) | exact True.intro | (refine ⟨⟨_,rfl,?_⟩,?_⟩) | exact VRen.kf rfl | exact VRen.loc rfl | exact VRen.vec rfl rfl rfl | (refine And.intro ?_ ?_))
   . obtain ⟨x,rfl⟩:∃ x,i = x + 1:=⟨i - 1,by omega⟩;have hxm:x < p.vars.length:=by omega
     have hlm:lenM p v = p.vars.length:=rfl;have hvn:v < g.ids.length:=by omega
     have hval:unrI p g k (v * p.vars.length + (x + 1)) v (0 + x) = loP p g v x:=by rw [Nat.zero_add,unrI,if_pos (by omega)];simp
     have hval':unrI p g k (v * p.vars.length + x + 1) v x = loP p g v x:=by rw [unrI,if_pos (by omega)];simp
     have hsz:=szX_int hp g hg v hxm;have hdl:=dgP_lt p g k v hxm;have hbi:=bnd_in hg (hp.var x hxm) (v:=v) (by omega);have hhi:(bnd g (gV p.vars x) v).2 = hiP p g v x:=rfl;have hlo:(bnd g (gV p.vars x) v).1 = loP p g v x:=rfl;have hrem:((unrK p g k (v * p.vars.length + (x + 1)):Nat):Int).tmod ((bnd g (gV p.vars x) v).2 - (bnd g (gV p.vars x) v).1 + 1) = (dgP p g k v x:Nat):=by
      rw [hhi,hlo,← hsz,wrem (by have:=szP_pos p g 0;rw [szX];omega),← unr_dig hxm];rfl
     have hquo:((unrK p g k (v * p.vars.length + (x + 1)):Nat):Int).tdiv ((bnd g (gV p.vars x) v).2 - (bnd g (gV p.vars x) v).1 + 1) = (unrK p g k (v * p.vars.length + x):Nat):=by
      rw [hhi,hlo,← hsz,← unr_rest hvn hxm];rfl
     have hkl:unrK p g k (v * p.vars.length + (x + 1))≤k:=Nat.div_le_self _ _;have hkl2:unrK p g k (v * p.vars.length + x)≤k:=Nat.div_le_self _ _
     repeat' ((conv=>whnf);first | (refine Ix.mk x (by omega) (by omega) ?_) | (refine Ix.mk v (by omega) (by omega) ?_) | (refine Sv.mk _ hrem.symm ?_) | (refine Ar.i64 (by rw [hquo];omega) (by rw [hquo];omega) ?_;rw [hquo]) | (refine Br.tt ?_) | (refine Br.dec ?_ ?_ <;> intro _ <;> try omega) | (refine Ar.i64 (by omega) (by omega) ?_) | (refine Nz.mk (by omega) ?_) | (refine Ix.mk 0 rfl (by omega) ?_) | (refine Ix.mk 1 rfl (by omega) ?_) | (refine Ltn.mk (by omega) ?_) | (refine yield_rule mixed rfl rfl ?_) | (refine Opn.hd (by omega) ?_))
     all_goals (conv=>whnf)
     refine ⟨_,x,by omega,⟨rfl,by omega⟩,?_⟩;refine weak_by (fun _ _=>[(0,some 0),(1,some 1),(2,some 2),(3,some 3),(4,some 4),(5,some 5),(6,some 6),(7,some 7),(9,some 9),(10,some 10),(11,some 11),(12,some 12)]) ?_ ?_ rfl
     . repeat' (first | exact VRen.yld rfl | exact True.intro | (refine ⟨⟨_,rfl,?_⟩,?_⟩) | exact VRen.int (by omega) | exact VRen.loc rfl)
     . repeat' (first | (refine VRen.fn ?_) | (refine ⟨rfl,rfl,rfl,rfl,rfl,?_⟩) | exact ⟨rfl,rfl,⟨rfl,rfl,True.intro⟩,fun i hi=>rfl,fun i j t hi hn hj ht=>unr_rows p g k v x i j t hxm hj (fun e=>by rw [e,look_here rfl] at hn;cases hn)⟩ | exact unr_rowset p g k v x _ _ _ (Nat.zero_add _) hj _ (by omega) | exact True.intro | (refine ⟨⟨_,rfl,?_⟩,?_⟩) | exact VRen.kf rfl | exact VRen.loc rfl | exact VRen.vec rfl rfl rfl | (refine ⟨Nat.le_refl _,rfl,fun i j hi hj=>?_⟩) | (refine And.intro ?_ ?_))
def rowPl (p:Pr) (g:G):Nat→Nat→Nat→V:=fun v x _=>.int .i64 (plP p g v x:Nat)
def plV (p:Pr) (g:G):V:=.fz g.ids.length 1 false fun v _=>.fz p.vars.length 1 false (rowPl p g v)
def bP (p:Pr) (g:G) (kd:Int):V:=.fe 1 5 (tab [[mvP p g,.fz g.ports.length 1 false (vNet g),.int .i64 kd,tblV p g,plV p g]]) 0 0
def lenD (m j:Nat):Nat→Nat:=fun i=>if i < j then 0 else m
def opnD (j k:Nat):List (Nat × Nat):=if 0 < j then [(j - 1,k)] else []
def rowK' (p:Pr) (g:G) (v i:Nat):Nat→Nat→V:=fun x _=>if x < i then .int .i64 0 else .int .i64 (plP p g v x:Nat)
theorem rowK_step (p:Pr) (g:G) (v x x' i j:Nat) (hx:x' = x) (hj:j < 1) (a:Int) (ha:a = (plP p g v x:Nat)):VLe (fset (rowK' p g v (x + 1)) x' 0 [.int .i64 a] i j) (rowK' p g v x i j):=by
 obtain rfl:j = 0:=by omega
 subst hx ha;apply VLe.of_eq;by_cases h:i = x'
 . subst h;simp [fset,rowK']
 . have h1:(i < x' + 1) = (i < x'):=by simp;omega
   simp [fset,rowK',h,h1]
theorem lenD_set (m v i:Nat):setN (lenD m (v + 1)) v m i = lenD m v i:=by
 simp only [setN,lenD];by_cases h:i = v
 . rw [if_pos h,if_neg (by omega)]
 . rw [if_neg h];by_cases h2:i < v
   . rw [if_pos h2,if_pos (by omega)]
   . rw [if_neg h2,if_neg (by omega)]
theorem setF_rowK' (p:Pr) (g:G) (v i j t:Nat):VLe (setF (rowPl p g) v (rowK' p g v 0) i j t) (rowPl p g i j t):=by
 apply VLe.of_eq;simp only [setF];split
 . rename_i e;subst e;simp [rowK',rowPl]
 . rfl
set_option maxHeartbeats 8000000 in
theorem builder_ok (p:Pr) (hp:PrOk p) (g:G) (hs:g.Small) (hg:g.valid = true) (kd:Int) (hn:cntP p g≤32768) :
 Ret Tryz.prog 34 [p.v,g.v,.int .i64 kd] (bP p g kd):=by
 obtain ⟨f1,f2,f3,f4,f5,f6,f7⟩:=val_facts hg;have hvl:=hp.vlen;have h1:=mover_ok p hp g hg;have h2:=newnet_ok g hs hg;have h3:=table_ok p hp g hg;refine ret_frz rfl ?_;refine fn_rule mixed Tryz.func34 rfl hc34 hr34 rfl ?_
 repeat' ((conv=>whnf);first | (refine Ar.i64 (by omega) (by omega) ?_) | (refine Bd.nat (by omega) ?_) | (refine Len.mk (by omega) ?_) | (refine MkS.vec ?_) | (refine h1.go ?_) | (refine h2.go ?_) | (refine h3.go ?_) | (refine And.intro rfl ?_))
 all_goals (conv=>whnf)
 refine loop_u mixed [7] [4] [5,6,7,8,9,10,11,12,13,14,15,16,17,18,19,20,21,22,23,24,25,26,27,28,29] [4,3,2,1,0] (fun j:Nat=>[(8,.int .i64 (Mx.pr (szP p g) (j * p.vars.length) (nP p g - j * p.vars.length):Nat)),(9,.int .i64 ((j:Int) - 1))])
  (fun own j=>(4,.vec (if 0 < j then lenD p.vars.length j (j - 1) else 0) 1 (rowPl p g (j - 1))) :: updO (updO own 3 (.fam g.ids.length 1 (lenD p.vars.length j) (rowPl p g) [])) 3 (.fam g.ids.length 1 (lenD p.vars.length j) (rowPl p g) (opnD j 4))) (fun m j=>m = j∧j≤g.ids.length) g.ids.length g.ids.length ⟨rfl,Nat.le_refl _⟩ rfl (fun _=>rfl) ?_ ?_
 . have e:opnD g.ids.length 4 = [(g.ids.length - 1,4)]:=if_pos (by omega);simp only [e,if_pos (show 0 < g.ids.length by omega)];refine Weak.trans ?_ (weak_open (ks:=[4,5,6,7,8,9,10,11,12,13,14,15,16,17,18,19,20,21,22,23,24,25,26,27,28,29]) rfl rfl rfl (by omega) rfl) (ks_cons rfl);have e1:nP p g - g.ids.length * p.vars.length = 0:=Nat.sub_self _;refine weak_by (fun _ _=>[(0,some 0),(1,some 1),(2,some 2),(3,some 3)]) ?_ ?_ rfl
   . repeat' (first | exact VRen.int (by rw [e1];rfl) | exact True.intro | (refine ⟨⟨_,rfl,?_⟩,?_⟩) | exact VRen.kf rfl | exact VRen.loc rfl)
   . repeat' (first | exact ⟨rfl,rfl,rfl,fun i hi=>⟨rfl,if_pos hi⟩⟩ | exact True.intro | (refine ⟨⟨_,rfl,?_⟩,?_⟩) | exact VRen.kf rfl | exact VRen.vec rfl rfl rfl | (refine And.intro ?_ ?_))
 rintro m j ⟨hm,hj⟩;rcases Nat.eq_zero_or_pos j with h0 | h0
 . subst h0
   repeat' ((conv=>whnf);first | (refine Br.ff ?_) | (refine Len.mk (by omega) ?_))
   all_goals (conv=>whnf)
   refine vle_fe (fun a b ha hb=>?_);obtain rfl:a = 0:=by omega
   have hb:b < 5:=hb;rcases b with _ | _ | _ | _ | _ | b
   . exact VLe.rfl
   . exact VLe.rfl
   . exact VLe.rfl
   . exact VLe.rfl
   . refine VLe.fz rfl (fun h=>h) (fun i j hi hj=>?_);exact VLe.fz (if_neg (by omega)) (fun h=>h) (fun _ _ _ _=>VLe.rfl)
   . omega
 . obtain ⟨v,rfl⟩:∃ v,j = v + 1:=⟨j - 1,by omega⟩;have e:opnD (v + 1) 4 = [(v,4)]:=if_pos (by omega);have ev:v + 1 - 1 = v:=rfl;simp only [e,ev,if_pos (Nat.succ_pos v)]
   repeat' ((conv=>whnf);first | (refine Ix.mk v (by omega) (by omega) ?_) | (refine Br.dec ?_ ?_ <;> intro _ <;> try omega) | (refine Ar.i64 (by omega) (by omega) ?_) | (refine Bd.nat (by omega) ?_) | (refine Len.mk (by omega) ?_) | (refine Ltn.mk (by omega) ?_) | (refine MkS.vec ?_) | (refine OpnSet.hd (by omega) ?_))
   all_goals (conv=>whnf)
   have hvn:v < g.ids.length:=by omega
   refine loop_u mixed [7,9] [] [6,7,8,9,10,11,12,13,14,15,16,17,18,19,20,21,22,23,24,25,26,27,28,29] [5,4,3,2,1,0] (fun i:Nat=>[(8,.int .i64 (Mx.pr (szP p g) (v * p.vars.length + i) (nP p g - (v * p.vars.length + i)):Nat)),(10,.int .i64 ((i:Int) - 1))])
    (fun own i=>updO own 5 (.vec p.vars.length 1 (rowK' p g v i))) (fun m i=>m = i∧i≤p.vars.length) p.vars.length p.vars.length ⟨rfl,Nat.le_refl _⟩ rfl (fun _=>rfl) ?_ ?_
   . have e2:(v + 1) * p.vars.length = v * p.vars.length + p.vars.length:=by rw [Nat.add_mul,Nat.one_mul]
     refine weak_by (fun _ _=>[(0,some 0),(1,some 1),(2,some 2),(3,some 3),(4,some 4),(5,some 5)]) ?_ ?_ rfl
     . repeat' (first | exact VRen.int (by rw [e2]) | exact True.intro | (refine ⟨⟨_,rfl,?_⟩,?_⟩) | exact VRen.kf rfl | exact VRen.loc rfl)
     . repeat' (first | exact ⟨rfl,rfl,⟨rfl,rfl,True.intro⟩,fun i hi=>rfl,fun i j t hi hn hj ht=>VLe.rfl⟩ | (refine ⟨Nat.le_refl _,rfl,fun i j hi hj=>VLe.of_eq ?_⟩;rw [rowK',if_pos hi];(obtain rfl:j = 0:=(by omega));rfl) | exact True.intro | (refine ⟨⟨_,rfl,?_⟩,?_⟩) | exact VRen.kf rfl | exact VRen.vec rfl rfl rfl | (refine ⟨Nat.le_refl _,rfl,fun i j hi hj=>?_⟩) | exact VLe.rfl | (refine And.intro ?_ ?_))
   rintro m i ⟨hm,hi⟩;rcases Nat.eq_zero_or_pos i with h1 | h1
   . subst h1
     repeat' ((conv=>whnf);first | (refine Br.ff ?_) | (refine Ar.i64 (by omega) (by omega) ?_))
     all_goals (conv=>whnf)
     refine ⟨_,v,by omega,⟨rfl,by omega⟩,?_⟩;refine Weak.trans (weak_step (own_close (q:=5) (k:=3) (i:=v) [] rfl rfl hvn (look_here rfl) (Nat.le_of_eq (if_pos rfl)) rfl (fun j hj=>(look_there (fun e=>hj e.symm)).symm))) ?_ (ks_sub rfl);have e0:v * p.vars.length + 0 = v * p.vars.length:=Nat.add_zero _;rcases Nat.eq_zero_or_pos v with h2 | h2
     . subst h2;have e1:opnD 0 4 = []:=if_neg (by omega);simp only [e1,if_neg (Nat.lt_irrefl 0)];refine weak_by (fun _ _=>[(0,some 0),(1,some 1),(2,some 2),(3,some 3),(4,none)]) ?_ ?_ rfl
       . repeat' (first | exact VRen.int (by rw [e0]) | exact True.intro | (refine ⟨⟨_,rfl,?_⟩,?_⟩) | exact VRen.kf rfl | exact VRen.loc rfl)
       . repeat' (first | exact ⟨rfl,rfl,True.intro,fun i hi=>(lenD_set _ _ _).symm,fun i j t hi hn hj ht=>setF_rowK' p g 0 i j t⟩ | exact True.intro | (refine ⟨⟨_,rfl,?_⟩,?_⟩) | exact VRen.kf rfl | exact VRen.vec rfl rfl rfl | (refine ⟨⟨_,_,rfl⟩,?_⟩) | (refine And.intro ?_ ?_))
     . have e1:opnD v 4 = [(v - 1,4)]:=if_pos h2;simp only [e1,if_pos h2];refine Weak.trans ?_ (weak_open (ks:=[4,5,6,7,8,9,10,11,12,13,14,15,16,17,18,19,20,21,22,23,24,25,26,27,28,29]) rfl rfl rfl (show v - 1 < g.ids.length by omega) rfl) (ks_cons rfl);refine weak_by (fun _ _=>[(0,some 0),(1,some 1),(2,some 2),(3,some 3)]) ?_ ?_ rfl
       . repeat' (first | exact VRen.int (by rw [e0]) | exact True.intro | (refine ⟨⟨_,rfl,?_⟩,?_⟩) | exact VRen.int (by omega) | exact VRen.loc rfl)
       . repeat' (first | exact ⟨rfl,rfl,True.intro,fun i hi=>(lenD_set _ _ _).symm,fun i j t hi hn hj ht=>setF_rowK' p g v i j t⟩ | exact True.intro | (refine ⟨⟨_,rfl,?_⟩,?_⟩) | exact VRen.kf rfl | exact VRen.vec rfl rfl rfl | (refine And.intro ?_ ?_))
   . obtain ⟨x,rfl⟩:∃ x,i = x + 1:=⟨i - 1,by omega⟩;have hxm:x < p.vars.length:=by omega
     have hix:=ix_lt hvn hxm;have hb:=bnd_in hg (hp.var x hxm) (v:=v) (by omega);have hsz:=szX_int hp g hg v hxm;have hst:=pl_step p g hix;have hle:=pl_le p g (Nat.le_of_lt hix);have hle2:=pl_le p g (show v * p.vars.length + (x + 1)≤nP p g from hix);rw [szP_ix p g hxm] at hst;have hmul:((Mx.pr (szP p g) (v * p.vars.length + (x + 1)) (nP p g - (v * p.vars.length + (x + 1))):Nat):Int) * ((bnd g (gV p.vars x) v).2 - (bnd g (gV p.vars x) v).1 + 1) = (Mx.pr (szP p g) (v * p.vars.length + x) (nP p g - (v * p.vars.length + x)):Nat):=by
      rw [hst,Int.natCast_mul,hsz,Int.mul_comm];rfl
     repeat' ((conv=>whnf);first | (refine Ix.mk x (by omega) (by omega) ?_) | (refine Ix.mk v (by omega) (by omega) ?_) | (refine Ar.i64 (by rw [hmul];omega) (by rw [hmul];omega) ?_;rw [hmul]) | (refine Br.dec ?_ ?_ <;> intro _ <;> try omega) | (refine Ar.i64 (by omega) (by omega) ?_) | (refine Ix.mk 0 rfl (by omega) ?_) | (refine Ix.mk 1 rfl (by omega) ?_) | (refine Ltn.mk (by omega) ?_) | (refine Opn.hdl (by omega) (show setN _ _ _ _ = p.vars.length from if_pos rfl) ?_))
     all_goals (conv=>whnf)
     refine ⟨_,x,by omega,⟨rfl,by omega⟩,?_⟩;refine weak_by (fun _ _=>[(0,some 0),(1,some 1),(2,some 2),(3,some 3),(4,some 4),(5,some 5)]) ?_ ?_ rfl
     . repeat' (first | exact True.intro | (refine ⟨⟨_,rfl,?_⟩,?_⟩) | exact VRen.kf rfl | exact VRen.int (by omega) | exact VRen.loc rfl)
     . repeat' (first | exact ⟨rfl,rfl,⟨rfl,rfl,True.intro⟩,fun i hi=>rfl,fun i j t hi hn hj ht=>VLe.rfl⟩ | exact rowK_step _ _ _ _ _ _ _ (Nat.zero_add _) hj _ rfl | exact True.intro | (refine ⟨⟨_,rfl,?_⟩,?_⟩) | exact VRen.kf rfl | exact VRen.vec rfl rfl rfl | (refine ⟨Nat.le_refl _,rfl,fun i j hi hj=>?_⟩) | exact VLe.rfl | (refine And.intro ?_ ?_))
abbrev cF (c:Cf):Nat→Nat→Int:=fun v x=>gI (gC c v) x
theorem famI_cV {p:Pr} {g:G} {c:Cf} (hc:Conf p g c) (F:Nat→Nat→Nat→V) (hF:∀ i j,VLe (F i j 0) (rowI (cF c) i j 0)):VLe (.fz g.ids.length 1 false fun i _=>.fz (lenM p i) 1 false (F i)) (cV c):=by
 refine VLe.fz hc.len.symm (fun h=>h) (fun i j hi hj=>?_);refine VLe.fz ?_ (fun h=>h) (fun a b ha hb=>?_)
 . rw [hc.row i (by rw [hc.len];exact hi)];rfl
 . obtain rfl:b = 0:=by omega
   exact hF i a
theorem setF_cF (c:Cf) (v i j:Nat):VLe (setF (rowI (cF c)) v (rowI (cF c) v) i j 0) (rowI (cF c) i j 0):=setF_self _ _ _ _ _
set_option maxHeartbeats 8000000 in
theorem move_own (p:Pr) (hp:PrOk p) (g:G) (hg:g.valid = true) (c:Cf) (hc:Conf p g c) (v:Nat) (hv:v < g.ids.length) (r:Nat) (hr:r < p.rules.length) :
 CallF Tryz.prog 78 [mvP p g,.vec 0 1 0 g.ids.length,.int .i64 v,.int .i64 r] [(0,famI p g (cF c) [])] KS.tail fun X own' _=>X = .vec 1 1 0 p.vars.length∧own' = [(1,.vec p.vars.length 1 (vI (moveL p g c v r))),(0,famI p g (cF c) [])]:=by
 obtain ⟨f1,f2,f3,f4,f5,f6,f7⟩:=val_facts hg;have hcl:=hc.len;have hrow:=hc.row v (by omega);have hvl:=hp.vlen;have hsl:=hp.slen r hr;have hlm:lenM p v = p.vars.length:=rfl;refine call_post (call_step ?_);refine call_open 28 0 v rfl rfl hv rfl ?_;show CallF Tryz.prog _ _ [(28,.vec (lenM p v) 1 (rowI (cF c) v)),(0,famI p g (cF c) [(v,28)])] [1,2,3,4,5,6,7,8,9,10,11,12,13,14,15,16,17,18,19,20,21,22,23,24,25,26,27,29] _;refine fn_rule mixed Tryz.func78 rfl hc78 hr78 rfl ?_
 repeat' ((conv=>whnf);first | (refine Ix.nat (by omega) ?_) | (refine Len.mk (by omega) ?_) | (refine Ltn.mk (by omega) ?_) | (refine Opn.hd (by omega) ?_))
 all_goals (conv=>whnf)
 refine loop_u mixed [0,1,2,9,26,27] [] [2,3,4,5,6,7,8,9,10,11,12,13,14,15,16,17,18,19,20,21,22,23,24,25,26,27,29] [1,28,0] (fun j:Nat=>[(28,.int .i64 j)]) (fun own j=>updO own 1 (.vec (lenM p v) 1 (vI (putL p g c v ((gRl p.rules r).sets.take j))))) (fun m j=>m = (gRl p.rules r).sets.length - j∧j≤(gRl p.rules r).sets.length) (gRl p.rules r).sets.length 0 ⟨rfl,Nat.zero_le _⟩ rfl (fun _=>rfl) ?_ ?_
 . refine weak_by (fun _ _=>[(0,some 0),(1,some 1),(28,some 28)]) ?_ ?_ rfl
   . repeat' (first | exact True.intro | (refine ⟨⟨_,rfl,?_⟩,?_⟩) | exact VRen.kf rfl | exact VRen.vec rfl rfl rfl)
   . repeat' (first | exact ⟨rfl,rfl,⟨rfl,rfl,True.intro⟩,fun i hi=>rfl,fun i j t hi hn hj ht=>VLe.rfl⟩ | exact VLe.of_eq (by rw [shiftF_eq,Nat.zero_add];rfl) | exact True.intro | (refine ⟨⟨_,rfl,?_⟩,?_⟩) | (refine ⟨Nat.le_refl _,rfl,fun i j hi hj=>?_⟩) | exact VLe.rfl)
 rintro m j ⟨hm,hj⟩;have hpl:=putL_len p g c v ((gRl p.rules r).sets.take j);by_cases hjl:j < (gRl p.rules r).sets.length
 . obtain ⟨s1,s2,s3⟩:=hp.set r hr j hjl;simp only [Tm.okB,Bool.and_eq_true,decide_eq_true_eq] at s3;have hval:=Value_ok p.pg g hg (hc.fit hp hg) v (by omega) (gS (gRl p.rules r).sets j).2 s3.2 s3.1;have hbr:=bring_ok (gV p.vars (gS (gRl p.rules r).sets j).1.toNat).kind (bnd g (gV p.vars (gS (gRl p.rules r).sets j).1.toNat) v).1 (bnd g (gV p.vars (gS (gRl p.rules r).sets j).1.toNat) v).2 ((gS (gRl p.rules r).sets j).2.sem g c v (-1))
   repeat' ((conv=>whnf);first | (refine Br.dec ?_ ?_ <;> intro _ <;> try omega) | (refine Ar.i64 (by omega) (by omega) ?_) | (refine Ix.nat (by omega) ?_) | (refine Ix.int (by omega) (by omega) ?_) | (refine Ltn.mk (by omega) ?_) | (refine call_lend hval rfl ⟨Nat.le_refl _,Nat.le_refl _,VLe.rfl,famI_cV hc _ (fun i j=>setF_cF c v i j),VLe.rfl,VLe.rfl,True.intro⟩ ?_) | (refine hbr.go ?_) | (refine And.intro rfl ?_))
   all_goals (conv=>whnf)
   refine ⟨(gRl p.rules r).sets.length - (j + 1),j + 1,by omega,⟨rfl,by omega⟩,?_⟩;simp only [gS_take _ j hjl,putL_snoc];refine weak_by (fun _ _=>[(0,some 0),(1,some 1),(28,some 28)]) ?_ ?_ rfl
   . repeat' (first | exact True.intro | (refine ⟨⟨_,rfl,?_⟩,?_⟩) | exact VRen.kf rfl | exact VRen.vec rfl rfl rfl)
   . repeat' (first | exact ⟨rfl,rfl,⟨rfl,rfl,True.intro⟩,fun i hi=>rfl,fun i j t hi hn hj ht=>VLe.rfl⟩ | exact ⟨Nat.le_refl _,rfl,fun i t hi ht=>by simp only [Nat.zero_add];exact vle_set6 _ _ _ _ _ (by rw [putL_len];omega) ht⟩ | exact True.intro | (refine ⟨⟨_,rfl,?_⟩,?_⟩) | (refine ⟨Nat.le_refl _,rfl,fun i j hi hj=>?_⟩) | exact VLe.rfl)
 . repeat' ((conv=>whnf);first | (refine Br.dec ?_ ?_ <;> intro _ <;> try omega))
   all_goals (conv=>whnf)
   have et:(gRl p.rules r).sets.take j = (gRl p.rules r).sets:=List.take_of_length_le (by omega);exact ⟨_,own_close (q:=28) (k:=0) (i:=v) [] rfl rfl hv (look_here rfl) (Nat.le_refl _) rfl (fun j hj=>(look_there (fun e=>hj e.symm)).symm),postR_by (fun _=>[(1,some 1),(0,some 0)]) _ _ ⟨rfl,rfl⟩ (VRen.vec rfl rfl rfl) (by repeat' (first | (refine ⟨rfl,rfl,True.intro,fun i hi=>rfl,fun i j t hi hn hj ht=>setF_self _ _ _ _ _⟩) | (refine ⟨Nat.le_refl _,rfl,fun i j hi hj=>(by rw [et];exact VLe.rfl)⟩) | exact True.intro | (refine ⟨⟨_,rfl,?_⟩,?_⟩))) rfl⟩
end Go.Proofs.YthbiicpcbnijiaaGreatDoor
namespace Go.Plain
abbrev St:=Nat→Bool
structure Adj (n:Nat) (a:Nat→Nat→Bool):Prop where
 sym:∀ u v,u < n→v < n→a u v = true→a v u = true
 irr:∀ v,v < n→a v v = false
 rng:∀ u v,u < n→a u v = true→v < n
def nbM (n:Nat) (a:Nat→Nat→Bool) (m:St) (v:Nat):Bool:=(List.range n).any fun u=>a v u && m u
theorem nbM_iff {n:Nat} {a:Nat→Nat→Bool} {m:St} {v:Nat}:nbM n a m v = true↔∃ u,u < n∧a v u = true∧m u = true:=by
 simp only [nbM,List.any_eq_true,List.mem_range,Bool.and_eq_true]
def enI (n:Nat) (a:Nat→Nat→Bool) (m:St) (v:Nat):Bool:=match m v with | true=>nbM n a m v | false=>!nbM n a m v
def cfl (n:Nat) (a:Nat→Nat→Bool) (m:St) (v:Nat):Bool:=m v && nbM n a m v
def stI (s m:St):St:=fun v=>match s v with | true=>!m v | false=>m v
structure Chs (n:Nat) (a:Nat→Nat→Bool) (m s:St):Prop where
 en:∀ v,s v = true→v < n∧enI n a m v = true
 ind:∀ u v,s u = true→s v = true→a u v = false
variable {n:Nat} {a:Nat→Nat→Bool} {m s:St}
theorem enter_free (_ha:Adj n a) (hc:Chs n a m s) {v:Nat} (hs:s v = true) (hm:m v = false):stI s m v = true∧nbM n a (stI s m) v = false:=by
 obtain ⟨hv,he⟩:=hc.en v hs;refine ⟨by simp [stI,hs,hm],?_⟩;rw [Bool.eq_false_iff];intro h;obtain ⟨u,hu,h1,h2⟩:=nbM_iff.1 h;have hsu:s u = false:=by
  cases e:s u with
  | false=>rfl
  | true=>have:=hc.ind v u hs e;rw [h1] at this;cases this
 simp only [stI,hsu] at h2;simp only [enI,hm,Bool.not_eq_true'] at he;rw [nbM_iff.2 ⟨u,hu,h1,h2⟩] at he;cases he
theorem cfl_back (ha:Adj n a) (hc:Chs n a m s) {v:Nat} (hv:v < n) (h:cfl n a (stI s m) v = true):cfl n a m v = true∧s v = false:=by
 simp only [cfl,Bool.and_eq_true] at h;have hold:∀ w,w < n→stI s m w = true→nbM n a (stI s m) w = true→m w = true∧s w = false:=fun w hw h1 h2=>by
  cases e:s w with
  | true =>
    cases em:m w with
    | false=>rw [(enter_free ha hc e em).2] at h2;cases h2
    | true=>simp [stI,e,em] at h1
  | false =>
    simp only [stI,e] at h1;exact ⟨h1,rfl⟩
 obtain ⟨h1,h2⟩:=h;obtain ⟨u,hu,h3,h4⟩:=nbM_iff.1 h2;have hb:=hold v hv h1 h2;have hb2:=hold u hu h4 (nbM_iff.2 ⟨v,hv,ha.sym v u hv hu h3,h1⟩);exact ⟨by simp only [cfl,Bool.and_eq_true];exact ⟨hb.1,nbM_iff.2 ⟨u,hu,h3,hb2.1⟩⟩,hb.2⟩
theorem cfl_en {v:Nat} (h:cfl n a m v = true):enI n a m v = true:=by
 simp only [cfl,Bool.and_eq_true] at h;simp only [enI,h.1,h.2]
theorem stay (hn:∀ v,v < n→cfl n a m v = false) (hc:Chs n a m s) {v:Nat} (hv:v < n) (hm:m v = true):stI s m v = true:=by
 cases e:s v with
 | false=>simp [stI,e,hm]
 | true =>
   obtain ⟨_,he⟩:=hc.en v e;simp only [enI,hm] at he;have:=hn v hv;simp [cfl,hm,he] at this
theorem en_back (hn:∀ v,v < n→cfl n a m v = false) (hn2:∀ v,v < n→cfl n a (stI s m) v = false) (hc:Chs n a m s) {v:Nat} (hv:v < n) (h:enI n a (stI s m) v = true):enI n a m v = true∧s v = false:=by
 have hm':stI s m v = false:=by
  cases e:stI s m v with
  | false=>rfl
  | true =>
    simp only [enI,e] at h;have:=hn2 v hv;simp [cfl,e,h] at this
 have hm:m v = false:=by
  cases e:m v with
  | false=>rfl
  | true=>rw [stay hn hc hv e] at hm';cases hm'
 have hs:s v = false:=by
  cases e:s v with
  | false=>rfl
  | true=>simp [stI,e,hm] at hm'
 refine ⟨?_,hs⟩;simp only [enI,hm',Bool.not_eq_true'] at h;simp only [enI,hm,Bool.not_eq_true'];rw [Bool.eq_false_iff] at h ⊢;intro hb;obtain ⟨u,hu,h3,h4⟩:=nbM_iff.1 hb;exact h (nbM_iff.2 ⟨u,hu,h3,stay hn hc hu h4⟩)
structure IInv (n:Nat) (a:Nat→Nat→Bool) (m p:St) (r:Nat):Prop where
 r0:r = 0→∀ v,v < n→cfl n a m v = true→p v = true
 r1:1≤r→∀ v,v < n→cfl n a m v = false
 r2:r = 1→∀ v,v < n→enI n a m v = true→p v = true
 r3:2≤r→∀ v,v < n→enI n a m v = false
def left (n:Nat) (a:Nat→Nat→Bool) (m p s:St):St:=fun v=>p v && !s v && enI n a (stI s m) v
theorem IInv.start:IInv n a m (enI n a m) 0:=⟨fun _ v _ h=>cfl_en h,fun h=>by omega,fun h=>by omega,fun h=>by omega⟩
theorem IInv.same (ha:Adj n a) (hc:Chs n a m s) {p:St} {r:Nat} (h:IInv n a m p r) (hr:r≤1):IInv n a (stI s m) (left n a m p s) r:=by
 refine ⟨fun e v hv hf=>?_,fun e v hv=>?_,fun e v hv he=>?_,fun e=>by omega⟩
 . obtain ⟨h1,h2⟩:=cfl_back ha hc hv hf;simp [left,h.r0 e v hv h1,h2,cfl_en hf]
 . cases hf:cfl n a (stI s m) v with
   | false=>rfl
   | true=>have:=h.r1 e v hv;rw [(cfl_back ha hc hv hf).1] at this;cases this
 . have hn2:∀ v,v < n→cfl n a (stI s m) v = false:=fun v hv=>by
    cases hf:cfl n a (stI s m) v with
    | false=>rfl
    | true=>have:=h.r1 (by omega) v hv;rw [(cfl_back ha hc hv hf).1] at this;cases this
   obtain ⟨h1,h2⟩:=en_back (h.r1 (by omega)) hn2 hc hv he;simp [left,h.r2 e v hv h1,h2,he]
theorem IInv.next (ha:Adj n a) (hc:Chs n a m s) {p:St} {r:Nat} (h:IInv n a m p r) (hr:r≤1) (h0:∀ v,v < n→left n a m p s v = false):IInv n a (stI s m) (enI n a (stI s m)) (r + 1):=by
 have hs:=h.same ha hc hr;refine ⟨fun e=>by omega,fun _ v hv=>?_,fun _ v hv he=>he,fun e v hv=>?_⟩
 . cases hf:cfl n a (stI s m) v with
   | false=>rfl
   | true =>
     rcases (show r = 0∨1≤r by omega) with e | e
     . have:=hs.r0 e v hv hf;rw [h0 v hv] at this;cases this
     . rw [hs.r1 e v hv] at hf;cases hf
 . cases he:enI n a (stI s m) v with
   | false=>rfl
   | true=>have:=hs.r2 (by omega) v hv he;rw [h0 v hv] at this;cases this
def phi (n:Nat) (a:Nat→Nat→Bool) (m:St) (v:Nat):Nat:=match m v with | true=>(match nbM n a m v with | true=>2 | false=>0) | false=>1
def sumN (f:Nat→Nat):Nat→Nat
 | 0=>0
 | k + 1=>sumN f k + f k
theorem sumN_le {f g:Nat→Nat}:∀ {k:Nat},(∀ v,v < k→f v≤g v)→sumN f k≤sumN g k
 | 0,_=>Nat.le_refl _
 | k + 1,h=>by have:=sumN_le (k:=k) fun v hv=>h v (by omega);have:=h k (by omega);simp only [sumN];omega
theorem sumN_add (f g:Nat→Nat):∀ k,sumN (fun v=>f v + g v) k = sumN f k + sumN g k
 | 0=>rfl
 | k + 1=>by simp only [sumN,sumN_add f g k];omega
theorem phi_step (ha:Adj n a) (hc:Chs n a m s) {v:Nat} (hv:v < n):phi n a (stI s m) v + (if s v then 1 else 0)≤phi n a m v:=by
 cases hs:s v with
 | true =>
   cases hm:m v with
   | false =>
     obtain ⟨h1,h2⟩:=enter_free ha hc hs hm;simp [phi,h1,h2,hm]
   | true =>
     obtain ⟨_,he⟩:=hc.en v hs;simp only [enI,hm] at he;have h1:stI s m v = false:=by simp [stI,hs,hm]
     simp [phi,h1,hm,he]
 | false =>
   cases hm:m v with
   | false =>
     have h1:stI s m v = false:=by simp [stI,hs,hm]
     simp [phi,h1,hm]
   | true =>
     have h1:stI s m v = true:=by simp [stI,hs,hm]
     cases hb:nbM n a (stI s m) v with
     | false=>simp [phi,h1,hb]
     | true =>
       have hcf:cfl n a (stI s m) v = true:=by simp [cfl,h1,hb]
       have:=(cfl_back ha hc hv hcf).1;simp only [cfl,Bool.and_eq_true] at this;simp [phi,h1,hb,hm,this.2]
def cntS (s:St) (k:Nat):Nat:=sumN (fun v=>if s v then 1 else 0) k
end Go.Plain
