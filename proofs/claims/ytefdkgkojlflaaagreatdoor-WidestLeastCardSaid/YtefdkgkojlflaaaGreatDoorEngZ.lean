import Derived.Test.YtefdkgkojlflaaaGreatDoorEngV
namespace Go.Eng
def X20 (P:Program) (G:Blk) (f:FuncId) (args:List V) (X:V):Prop:=∀own ks,look own 999=some G->J0K P f args own ks fun v o k=>v=X/\o=own/\k=ks
theorem X20.gog {P:Program} {G:Blk} {f:FuncId} {args:List V} {X:V} {own:Own} {ks:List Nat} {K:V->Own->List Nat->Prop} (h:X20 P G f args X) (hK:K X own ks) (h0:look own 999=some G:=by rfl):J0K P f args own ks K :=
 (h own ks h0).mono (by rintro _ _ _ ⟨rfl,rfl,rfl⟩;exact hK)
def σG:Sg:=fun k=>match Nat.beq k 999 with|true=>some (none,0,0)|false=>none
theorem σG_owned {w:World} {g n:Nat} {f:Nat->Nat->V} {b:Nat}:¬ J0y w σG [(999,.glob g n f)] b:=by
 rintro⟨k,c,hm,hb⟩;simp only[List.mem_singleton,Prod.mk.injEq] at hm;obtain⟨rfl,rfl⟩:=hm;simp[J0p,J5g,J0u,σG] at hb
theorem Q0K {M:Nat->Prop} {w:World} {g n:Nat} {f:Nat->Nat->V} (ks:List Nat) (hk:ks.Nodup) (h9:J09 999 ks=false) (hd:Den M w Sg.none (.fe n 1 f 0 0) (.pointer (some ⟨g,0,none⟩))):J0R M w σG [(999,.glob g n f)] ks:=by
 refine⟨⟨fun k b hm=>?_,by simp,fun k b k' b' n h1 h2 hne=>?_⟩,fun k hk'=>?_,hk⟩
 . simp only[List.mem_singleton,Prod.mk.injEq] at hm;obtain⟨rfl,rfl⟩:=hm;exact⟨⟨0,0,rfl⟩,hd⟩
 . simp only[List.mem_singleton,Prod.mk.injEq] at h1 h2;exact(hne (h1.1.trans h2.1.symm)).elim
 . have hne:k≠999:=fun e=>by subst e;rw[J0o.2 hk'] at h9;cases h9
   simp only[σG];have:Nat.beq k 999=false:=by
    cases e:Nat.beq k 999 with
    | false=>rfl
    | true=>exact(hne (Nat.eq_of_beq_eq_true e)).elim
   rw[this]
theorem X3l {M M':Nat->Prop} {w w':World} {σ':Sg} {g n:Nat} {f:Nat->Nat->V} {own':Own} (tr:Tr M w σG [(999,.glob g n f)] M' w' σ' own'):Tr M w Sg.none [] M' w' σ' own' :=
 ⟨⟨tr.adv.os,tr.adv.tape,tr.adv.output,tr.adv.size,fun b hb _=>tr.adv.same b hb σG_owned,fun b hb _=>tr.adv.muts b hb σG_owned⟩,fun b hb=>.inr ((tr.new b hb).resolve_left σG_owned),Sg.none_le _⟩
theorem Q0e {P:Program} {f:FuncId} {args:List V} {X:V} {g n:Nat} {F:Nat->Nat->V} (ks0:List Nat) (hn:ks0.Nodup) (h9:J09 999 ks0=false) (hk:J24 V.kf args=true) (h:J0K P f args [(999,.glob g n F)] ks0 fun v own' _=>Q5m own' v fun v'=>VLe v' X):X20 P (.glob g n F) f args X:=by
 intro own ks hl;constructor;intro M w σ us hlen hd hh;have hG:=(hh.own.blk 999 _ (J0i hl)).2;refine(h.out M w σG us hlen (fun i v u hv hu=>(hd i v u hv hu).kf (J0w hk v (List.mem_of_getElem? hv)) σG) (Q0K ks0 hn h9 hG)).mono ?_;rintro e w' ⟨M',σ',v,own',ks',u,rfl,hv,hh',tr0,_,hfr⟩;have tr:=X3l tr0;obtain⟨v',hK,hv'⟩:=J4b hfr;have hM:∀b,b<w.heap.size->(J4j M' w' σ' own' b↔M b):=by
  intro b hb;have hno:¬ J0y w' σ' own' b:=fun ho=>by
   rcases tr.new b ho with h1|h1
   . exact J0T h1
   . omega
  constructor
  . intro h1;exact(tr.adv.muts b hb J0T).1 h1.1
  . intro h1;exact⟨(tr.adv.muts b hb J0T).2 h1,hno⟩
 have hfr:=J3f (M'':=J4j M' w' σ' own') hh tr hM;exact⟨_,σ,X,own,ks,u,rfl,(hK.out _ _ _ (hv' M' w' σ' u hh'.own hv)).mono (Ext.mk (fun _ _ h=>⟨h,rfl⟩) (Nat.le_refl _)) (Sg.none_le σ),hfr.1,hfr.2,Kd.refl _ _ _,rfl,rfl,rfl⟩
theorem J3s {P:Program} {f:FuncId} {args:List V} {X:V} {g n:Nat} {F:Nat->Nat->V} (hk:J24 V.kf args=true) (h:J0K P f args [(999,.glob g n F)] KS fun v own' _=>Q5m own' v fun v'=>VLe v' X):X20 P (.glob g n F) f args X :=
 Q0e KS J6q rfl hk h
theorem Q6h {P:Program} {f:FuncId} {args:List V} {X:V} {g n:Nat} {F:Nat->Nat->V} (hk:J24 V.kf args=true) (h:J0K P f args [(999,.glob g n F)] KS2 fun v own' _=>Q5m own' v fun v'=>VLe v' X):X20 P (.glob g n F) f args X :=
 Q0e KS2 Q1n rfl hk h
theorem Q1e {P:Program} {f:FuncId} {args args0:List V} {X:V} {G:Blk} {own:Own} {ks:List Nat} {K:V->Own->List Nat->Prop} (keys:List Nat) (h:X20 P G f args0 X) (hl:look (J1s keys own) 999=some G)
 (hb:X1z (J1C keys own) args fun args'=>LLe args' args0) (hK:K X (J1s keys own) ks):J0K P f args own ks K:=by
 obtain⟨args',hle,hl',hs⟩:=J3k hb;constructor;intro M w σ us hlen hd hh;obtain⟨s2,hM⟩:=J4c hh keys;have ho:=J40 hh keys;obtain⟨d1,d2⟩:=hle.dens (M:=J4j M w σ (J1C keys own)) (w:=w) (us:=us) (by omega) (fun i v' u hv' hu=>by
  have hi:i<args.length:=by rw[<- hl'];exact(List.getElem?_eq_some_iff.1 hv').1
  exact hs M w σ ho i args[i] v' u (by simp[hi]) hv' (hd i args[i] u (by simp[hi]) hu))
 refine((h (J1s keys own) ks hl).out (J4j M w σ (J1C keys own)) w σ us d1 (fun i v u hv hu=>(d2 i v u hv hu).mono (Ext.mk (fun _ _ h=>⟨h,rfl⟩) (Nat.le_refl _)) (Sg.none_le σ)) s2).mono ?_;rintro e w' ⟨M',σ',v,own',ks',u,rfl,hv,hh',tr,kd,rfl,rfl,rfl⟩;have hsub:∀b,J0y w σ (J1s keys own) b->J0y w σ own b:=fun b ⟨k,c,h1,h2⟩=>⟨k,c,(J0E.1 h1).1,h2⟩;refine⟨M',σ',_,_,_,u,rfl,hv,hh',⟨⟨tr.adv.os,tr.adv.tape,tr.adv.output,tr.adv.size,fun b hb hn=>tr.adv.same b hb fun x=>hn (hsub b x),fun b hb hn=>(tr.adv.muts b hb fun x=>hn (hsub b x)).trans (hM b hn)⟩,?_,tr.le⟩,⟨kd.1,kd.2.1,fun k hk=>?_⟩,hK⟩
 . intro b hb;rcases tr.new b hb with x|x
   . exact .inl (hsub b x)
   . exact .inr x
 . rcases kd.2.2 k hk with x|x
   . obtain⟨⟨q,c⟩,h1,h2⟩:=List.mem_map.1 x;exact .inl (List.mem_map.2 ⟨_,(J0E.1 h1).1,h2⟩)
   . exact .inr x
open Go.ChangeShapes Go.WideShapes Go.ChangeAt Go.RowKit in
theorem Q4D {P:Program} {f:FuncId} {vs:List V} {W:World} {args:Array Value} {g n:Nat} {F:Nat->Nat->V} (h:X20 P (.glob g n F) f vs (.bool true)) (hl:vs.length=args.size)
 (hG:Den (fun _=>False) W Sg.none (.fe n 1 F 0 0) (.pointer (some ⟨g,0,none⟩)))
 (hd:∀(i:Nat) (v:V) (u:Value),vs[i]?=some v->args[i]?=some u->Den (fun _=>False) W Sg.none v u) :
 Calls P f args W fun e W'=>e=.returned (.bool true)/\Below W.heap.size W W':=by
 have:=(h [(999,.glob g n F)] KS rfl).out (fun _=>False) W σG args.toList (by simpa using hl) (fun i v u hv hu=>(hd i v u hv (by simpa using hu)).mono (Ext.mk (fun _ _ h=>⟨h,rfl⟩) (Nat.le_refl _)) (Sg.none_le σG)) (Q0K KS J6q rfl hG);rw[Array.toArray_toList] at this;refine this.mono ?_;rintro e W' ⟨M',σ',v,own',ks',u,rfl,hv,hh',tr,_,rfl,rfl,rfl⟩;cases hv;exact⟨rfl,tr.adv.os,tr.adv.tape.eq,tr.adv.output,tr.adv.size,fun b hb=>tr.adv.same b hb σG_owned⟩
end Go.Eng
set_option linter.unusedVariables false
namespace Go.Eng
def Q5n (s:Nat):Nat->Nat->Nat
 | 0,i=>i
 | n+1,i=>if s.testBit i then i else Q5n s n (i+1)
def ctz (s:Nat):Nat:=Q5n s 32 0
theorem Q00 (s:Nat):∀n i,(Q5n s n i=i+n/\∀j,i<=j->j<i+n->s.testBit j=false)\/(Q5n s n i<i+n/\i<=Q5n s n i/\s.testBit (Q5n s n i)=true/\∀j,i<=j->j<Q5n s n i->s.testBit j=false)
 | 0,i=>.inl ⟨rfl,fun j h1 h2=>by omega⟩
 | n+1,i=>by
   by_cases h:s.testBit i=true
   . right;have e:Q5n s (n+1) i=i:=by rw[Q5n,if_pos h]
     rw[e];exact⟨by omega,Nat.le_refl _,h,fun j h1 h2=>by omega⟩
   . have e:Q5n s (n+1) i=Q5n s n (i+1):=by rw[Q5n,if_neg h]
     rw[e];have h':s.testBit i=false:=by simpa using h
     rcases Q00 s n (i+1) with ⟨h1,h2⟩ | ⟨h1,h2,h3,h4⟩
     . exact .inl ⟨by omega,fun j a b=>by
        by_cases e:j=i
        . subst e;exact h'
        . exact h2 j (by omega) (by omega)⟩
     . exact .inr ⟨by omega,by omega,h3,fun j a b=>by
        by_cases e:j=i
        . subst e;exact h'
        . exact h4 j (by omega) b⟩
theorem J5a {s j:Nat} (hs:s<4294967296) (hj:32<=j):s.testBit j=false :=
 Nat.testBit_lt_two_pow (Nat.lt_of_lt_of_le hs (Nat.pow_le_pow_right (n:=2) (by omega) hj))
theorem J46 {s:Nat} (h0:s≠0) (hs:s<4294967296):ctz s<32/\s.testBit (ctz s)=true/\∀j,j<ctz s->s.testBit j=false:=by
 rcases Q00 s 32 0 with ⟨h1,h2⟩ | ⟨h1,h2,h3,h4⟩
 . exfalso;apply h0;apply Nat.eq_of_testBit_eq;intro i;rw[Nat.zero_testBit];by_cases hi:i<32
   . exact h2 i (by omega) (by omega)
   . exact J5a hs (by omega)
 . exact⟨by simpa[ctz] using h1,h3,fun j hj=>h4 j (by omega) hj⟩
section
variable {s k:Nat} (hk:s.testBit k=true) (hz:∀j,j<k->s.testBit j=false)
include hk hz
theorem X39:s % 2 ^ (k+1)=2 ^ k:=by
 apply Nat.eq_of_testBit_eq;intro i;rw[Nat.testBit_mod_two_pow,Nat.testBit_two_pow];by_cases h:i=k
 . subst h;simp[hk]
 . by_cases h2:i<k
   . rw[hz i h2];simp;omega
   . have:¬ i<k+1:=by omega
     simp[this];omega
theorem Q3l (j:Nat):(s-1).testBit j=if j<k+1 then decide (j<k) else s.testBit j:=by
 have h1:=X39 hk hz;have h2:=Nat.div_add_mod s (2 ^ (k+1));have h3:s-1=2 ^ (k+1)*(s / 2 ^ (k+1))+(2 ^ k-1):=by
  have:=Nat.two_pow_pos k;omega
 have hlt:2 ^ k-1<2 ^ (k+1):=by
  have:=Nat.two_pow_pos k;have h4:2 ^ (k+1)=2*2 ^ k:=by rw[Nat.pow_succ];omega
  omega
 rw[h3,Nat.testBit_two_pow_mul_add _ hlt];by_cases h:j<k+1
 . rw[if_pos h,if_pos h,Nat.testBit_two_pow_sub_one]
 . rw[if_neg h,if_neg h,Nat.testBit_div_two_pow];congr 1;omega
theorem X0r (j:Nat):(s &&& (s-1)).testBit j=(s.testBit j&&decide (j≠k)):=by
 rw[Nat.testBit_and,Q3l hk hz];by_cases h:j<k+1
 . rw[if_pos h];by_cases e:j=k
   . subst e;simp
   . rw[hz j (by omega)];simp
 . rw[if_neg h];have:j≠k:=by omega
   simp[this]
theorem X38 (hs:s<4294967296) (hk32:k<32):s &&& (4294967296-s)=2 ^ k:=by
 apply Nat.eq_of_testBit_eq;intro i;have hpos:0<s:=by
  rcases Nat.eq_zero_or_pos s with h|h
  . subst h;simp at hk
  . exact h
 have e:(4294967296:Nat)-s=2 ^ 32-((s-1)+1):=by omega
 rw[Nat.testBit_and,e,Nat.testBit_two_pow_sub_succ (by omega),Q3l hk hz,Nat.testBit_two_pow];by_cases h:i<k+1
 . rw[if_pos h];by_cases e:i=k
   . subst e;simp[hk,hk32]
   . rw[hz i (by omega)];simp;omega
 . rw[if_neg h];have:¬ k=i:=by omega
   cases s.testBit i<;>simp[this]
end
def upS (s b:Nat):Nat:=nb (fun i=>s.testBit i&&decide (b<=i)) 32
theorem J4r {s b:Nat} (hs:s<4294967296) (i:Nat):(upS s b).testBit i=(s.testBit i&&decide (b<=i)):=by
 rw[upS,J8l];by_cases h:i<32
 . simp[h]
 . rw[J5a hs (by omega)];simp
theorem Q2G (s b:Nat):upS s b<4294967296:=X0h _ (Nat.le_refl _)
theorem J8P {s:Nat} (hs:s<4294967296):upS s 0=s:=Nat.eq_of_testBit_eq fun i=>by rw[J4r hs];simp
theorem J8Q {s b:Nat} (hs:s<4294967296) (h:upS s b≠0):ctz (upS s b)<32/\b<=ctz (upS s b)/\s.testBit (ctz (upS s b))=true/\(∀j,b<=j->j<ctz (upS s b)->s.testBit j=false)/\upS s b &&& (upS s b-1)=upS s (ctz (upS s b)+1):=by
 obtain⟨h1,h2,h3⟩:=J46 h (Q2G s b);have h4:=h2;rw[J4r hs,Bool.and_eq_true,decide_eq_true_eq] at h4;refine⟨h1,h4.2,h4.1,fun j a b'=>?_,?_⟩
 . have:=h3 j b';rw[J4r hs] at this;simpa[a] using this
 . apply Nat.eq_of_testBit_eq;intro i;rw[X0r h2 h3,J4r hs,J4r hs];by_cases e:i=ctz (upS s b)
   . have hd:decide (ctz (upS s b)+1<=i)=false:=by rw[decide_eq_false_iff_not];omega
     have hd2:decide (i≠ctz (upS s b))=false:=by rw[decide_eq_false_iff_not];exact fun h=>h e
     rw[hd,hd2,Bool.and_false,Bool.and_false]
   . have hd2:decide (i≠ctz (upS s b))=true:=by rw[decide_eq_true_eq];exact e
     rw[hd2,Bool.and_true];by_cases hi:i<ctz (upS s b)
     . have hd:decide (ctz (upS s b)+1<=i)=false:=by rw[decide_eq_false_iff_not];omega
       have:=h3 i hi;rw[J4r hs] at this;rw[this,hd,Bool.and_false]
     . have hd:decide (ctz (upS s b)+1<=i)=true:=by rw[decide_eq_true_eq];omega
       have hd3:decide (b<=i)=true:=by rw[decide_eq_true_eq];omega
       rw[hd,hd3]
theorem Q1y {s b:Nat} (hs:s<4294967296) (h:upS s b=0) (j:Nat) (hj:b<=j):s.testBit j=false:=by
 have:=J4r (b:=b) hs j;rw[h,Nat.zero_testBit] at this;simpa[hj] using this.symm
def cnt (s:Nat):Nat->Nat
 | 0=>0
 | n+1=>if s.testBit n then cnt s n+1 else cnt s n
theorem J7A (s:Nat):∀n,cnt s n<=n
 | 0=>Nat.le_refl _
 | n+1=>by have:=J7A s n;rw[cnt];split<;>omega
theorem Q8b {s t:Nat}:∀{n:Nat},(∀i,i<n->s.testBit i=t.testBit i)->cnt s n=cnt t n
 | 0,_=>rfl
 | n+1,h=>by rw[cnt,cnt,Q8b (fun i hi=>h i (by omega)),h n (by omega)]
theorem Q3R {s:Nat}:∀{n:Nat},(∀i,i<n->s.testBit i=false)->cnt s n=0
 | 0,_=>rfl
 | n+1,h=>by rw[cnt,Q3R (fun i hi=>h i (by omega)),h n (by omega)];rfl
theorem J7B {s:Nat} (a:Nat):∀b,cnt s (a+b)=cnt s a+cnt (s >>> a) b
 | 0=>rfl
 | b+1=>by
   rw[<- Nat.add_assoc,cnt,cnt,J7B a b,Nat.testBit_shiftRight];split<;>omega
theorem Q8a {s k:Nat} (hk:s.testBit k=true):∀{n:Nat},k<n->1<=cnt s n
 | 0,h=>by omega
 | n+1,h=>by
   rw[cnt];by_cases e:n=k
   . subst e;rw[if_pos hk];omega
   . have:=Q8a hk (n:=n) (by omega);split<;>omega
end Go.Eng
set_option linter.unusedVariables false
namespace Go.Eng
def J6p (s E:Nat):Prop:=∀i,s.testBit i=true->E.testBit i=true
theorem J6p.le {s E:Nat} (h:J6p s E):s<=E:=by
 apply Nat.ge_of_not_lt;intro hlt;have:s &&& E=s:=Nat.eq_of_testBit_eq fun i=>by
  rw[Nat.testBit_and];cases e:s.testBit i with
  | false=>rfl
  | true=>rw[h i e];rfl
 have:=Nat.and_le_right (n:=s) (m:=E);omega
theorem Q27 (s E:Nat):J6p (s &&& E) E:=fun i h=>by rw[Nat.testBit_and,Bool.and_eq_true] at h;exact h.2
theorem J88 {s E:Nat} (hs:s<4294967296):J3c s E=0↔J6p s E:=by
 constructor
 . intro h i hi;have hi32:i<32:=by
    rcases Nat.lt_or_ge i 32 with h|h
    . exact h
    . rw[J5a hs h] at hi;cases hi
   have:=J3N (a:=s) (b:=E) hi32;rw[h,Nat.zero_testBit,hi] at this;simpa using this.symm
 . intro h;apply Nat.eq_of_testBit_eq;intro i;rw[Nat.zero_testBit];by_cases hi:i<32
   . rw[J3N hi];cases e:s.testBit i with
     | false=>rfl
     | true=>rw[h i e];rfl
   . rw[J3c,Nat.testBit_and,J5a hs (by omega)];rfl
def Q0x (s:Nat):Nat:=if s=0 then 0 else 2 ^ ctz s
theorem Q6Z (s:Nat) (hs:s<4294967296):Q0x s<4294967296:=by
 rw[Q0x];split
 . omega
 . exact J3u (J46 (by assumption) hs).1
theorem J6a {s:Nat} (hs:s<4294967296):s &&& ((4294967296-s) % 4294967296)=Q0x s:=by
 rw[Q0x];by_cases h:s=0
 . subst h;rfl
 . rw[if_neg h,Nat.mod_eq_of_lt (by omega)];obtain⟨h1,h2,h3⟩:=J46 h hs;exact X38 h2 h3 hs h1
theorem Q0w {s:Nat} (hs:s<4294967296):J6p (Q0x s) s:=by rw[<- J6a hs,Nat.and_comm];exact Q27 _ _
theorem Q6Y {s:Nat} (h:s≠0):Q0x s≠0:=by rw[Q0x,if_neg h];exact Nat.ne_of_gt (Nat.two_pow_pos _)
theorem Ar.neg32 {a:Nat} {K:Int->Prop} (ha:a<4294967296) (hK:K (((4294967296-a) % 4294967296:Nat):Int)):Ar .u32 (0-(a:Int)) K:=by
 refine⟨_,?_,hK⟩;simp only[IntKind.wrap,IntKind.bits,IntKind.signed,Bool.false_and]
 first|(split<;>omega)|(simp;omega)
end Go.Eng
set_option linter.unusedVariables false
namespace Go.Eng
theorem Opn.hd {i i' q:Nat} {r:List (Nat×Nat)} {len:Nat->Nat} {K:Nat->Nat->Prop} (h:i'=i) (hK:K q (len i')):Opn ((i',q)::r) len i K:=⟨q,len i',J0m h,by rw[h],hK⟩
theorem Opn.tl {i i' q:Nat} {r:List (Nat×Nat)} {len:Nat->Nat} {K:Nat->Nat->Prop} (h:i'≠i) (hK:Opn r len i K):Opn ((i',q)::r) len i K:=by
 obtain⟨q',l,h',hl,hK⟩:=hK;exact⟨q',l,(J0k h).trans h',hl,hK⟩
theorem Opn.hdl {i i' q l:Nat} {r:List (Nat×Nat)} {len:Nat->Nat} {K:Nat->Nat->Prop} (h:i'=i) (hl:len i'=l) (hK:K q l):Opn ((i',q)::r) len i K:=⟨q,l,J0m h,by rw[<- h,hl],hK⟩
theorem J17.hd {i i' q q0:Nat} {r:List (Nat×Nat)} {K:Nat->List (Nat×Nat)->Prop} (h:i'=i) (hK:K i' ((i',q)::r)):J17 ((i',q0)::r) i q K :=
 ⟨i',_,h,by rw[J0m h];simp,J0m h,fun j hj=>by rw[J0k (fun e=>hj (by omega)),J0k (fun e=>hj (by omega))],hK⟩
theorem J17.tl {i i' q q0:Nat} {r:List (Nat×Nat)} {K:Nat->List (Nat×Nat)->Prop} (h:i'≠i) (hK:J17 r i q fun k r'=>K k ((i',q0)::r')):J17 ((i',q0)::r) i q K:=by
 obtain⟨k,r',hk,h0,h1,h2,hK⟩:=hK;refine⟨k,_,hk,by rw[J0k h];exact h0,by rw[J0k h];exact h1,fun j hj=>?_,hK⟩;by_cases e:i'=j
 . rw[J0m e,J0m e]
 . rw[J0k e,J0k e];exact h2 j hj
theorem J3J (k:Nat) (b:Blk):∀own:Own,(J2i own k b).map (·.1)=own.map (·.1)
 | []=>rfl
 | (q,c)::r=>by
   unfold J2i;split
   . rfl
   . simp[J3J k b r]
theorem J8O {k:Nat} {b:Blk}:∀{own:Own},(own.map (·.1)).Nodup->(∃c,(k,c)∈own)->∀q c,(q,c)∈J2i own k b↔(q=k/\c=b)\/(q≠k/\(q,c)∈own)
 | [],_,⟨c,h⟩,_,_=>by simp at h
 | (q0,c0)::r,hn,⟨c1,h1⟩,q,c=>by
   simp only[List.map_cons,List.nodup_cons] at hn;have notin:∀c,(q0,c)∉r:=fun c hc=>hn.1 (List.mem_map.2 ⟨_,hc,rfl⟩);unfold J2i;split
   . rename_i hb;have e:=Nat.eq_of_beq_eq_true hb;subst e;simp only[List.mem_cons,Prod.mk.injEq];constructor
     . rintro (⟨rfl,rfl⟩|hc)
       . exact .inl ⟨rfl,rfl⟩
       . exact .inr ⟨fun e=>notin c (e▸hc),.inr hc⟩
     . rintro (⟨rfl,rfl⟩ | ⟨hne,⟨rfl,_⟩|hc⟩)
       . exact .inl ⟨rfl,rfl⟩
       . exact(hne rfl).elim
       . exact .inr hc
   . rename_i hb;have hne:q0≠k:=fun e=>by subst e;simp at hb
     have h1':∃c,(k,c)∈r:=by
      rcases List.mem_cons.1 h1 with e|e
      . cases e;exact(hne rfl).elim
      . exact⟨_,e⟩
     simp only[List.mem_cons,Prod.mk.injEq,J8O hn.2 h1' q c];constructor
     . rintro (⟨rfl,rfl⟩ | ⟨rfl,rfl⟩ | ⟨a1,a2⟩)
       . exact .inr ⟨hne,.inl ⟨rfl,rfl⟩⟩
       . exact .inl ⟨rfl,rfl⟩
       . exact .inr ⟨a1,.inr a2⟩
     . rintro (⟨rfl,rfl⟩ | ⟨a1,⟨rfl,rfl⟩|a2⟩)
       . exact .inr (.inl ⟨rfl,rfl⟩)
       . exact .inl ⟨rfl,rfl⟩
       . exact .inr (.inr ⟨a1,a2⟩)
def X7d (q:Nat) (ks:List Nat):List Nat:=ks.filter fun x=>!Nat.beq x q
theorem J6i {q x:Nat} {ks:List Nat}:x∈X7d q ks↔x∈ks/\x≠q:=by
 have:Nat.beq x q=true↔x=q:=⟨Nat.eq_of_beq_eq_true,fun e=>by subst e;simp⟩;simp only[X7d,List.mem_filter,Bool.not_eq_true',<- Bool.not_eq_true,this]
theorem Q0I {M:Nat->Prop} {w:World} {σ:Sg} {own:Own} {ks:List Nat} (h:J0R M w σ own ks) {q k n s i:Nat} {len:Nat->Nat} {f:Nat->Nat->Nat->V} {op:List (Nat×Nat)} (hq:q∈ks)
 (hk:look own k=some (.fam n s len f op)) (hi:i<n) (ho:look op i=none) :
 ∃x,J0R M w (σ.set q x) ((q,.vec (len i) s (f i))::J2i own k (.fam n s len f ((i,q)::op))) (X7d q ks)/\(∀m,J0y w (σ.set q x) ((q,.vec (len i) s (f i))::J2i own k (.fam n s len f ((i,q)::op))) m->J0y w σ own m):=by
 have hmem:=J0i hk;have hq0:=h.fresh q hq;obtain⟨bo,base,κ,s1,s2,s3⟩:=h.own.blk k _ hmem;have hpos:0<κ:=by omega
 rcases s3 with ⟨s3,_⟩ | ⟨b,ty,us,s3,s4,s5,s6,s7,s8,s9⟩
 . omega
 subst s3;obtain⟨u,u1,a,c,u2,u3,_,u5⟩:=s7 i hi;subst u2;have hqk:q≠k:=fun e=>by rw[e] at hq0;rw[hq0] at s1;cases s1
 have hum:=J8O (b:=.fam n s len f ((i,q)::op)) h.own.nodup ⟨_,hmem⟩;have hne:∀k' c',(k',c')∈own->k'≠q:=fun k' c' hm e=>by
  obtain⟨y,hy⟩:=h.own.key hm;rw[e,hq0] at hy;cases hy
 have row:∃x:Option Nat×Nat×Nat,(∀M' w' (σ':Sg),σ' q=some x->Den M' w' σ' (.vec q s 0 (len i)) (.slice a (len i) c))/\(∀σ':Sg,σ' q=some x->J1o M w σ' q (.vec (len i) s (f i)))/\(∀m,x.1=some m->J23 us base i m):=by
  rcases Nat.eq_zero_or_pos c with hc|hc
  . subst hc;refine⟨(none,0,0),fun M' w' σ' hs=>?_,fun σ' hs=>⟨none,0,0,hs,u3,.inl ⟨rfl,rfl⟩⟩,fun m e=>by cases e⟩;exact .vec _ q s 0 (len i) none 0 0 0 a hs rfl u3 (fun e=>absurd e (by omega))
  . obtain⟨r,off,ty2,us2,p1,p2,p3,p4,p5⟩:=u5 ho hc;subst p1;refine⟨(some r,off,c),fun M' w' σ' hs=>?_,fun σ' hs=>⟨some r,off,c,hs,u3,.inr ⟨r,ty2,us2,rfl,p2,p3,p4,p5⟩⟩,fun m e=>?_⟩
    . exact .vec _ q s 0 (len i) (some r) off c c _ hs rfl u3 (fun _=>⟨r,rfl,by simp⟩)
    . cases e;exact⟨off,_,c,u1,hc⟩
 obtain⟨x,x1,x2,x3⟩:=row;have hle:σ.le (σ.set q x):=Sg.le_set x hq0;have hx:=Sg.set_same σ q x;have hhq:∀m,J0p w (σ.set q x) q (.vec (len i) s (f i)) m->J23 us base i m:=fun m e=>by
  rw[J2S rfl] at e;simp only[J0u,hx] at e;exact x3 m e
 have keepO:∀k' c' m,(k',c')∈own->(J0p w (σ.set q x) k' c' m↔J0p w σ k' c' m):=fun k' c' m hm=>J0W hle (h.own.key hm) fun _ _=>rfl;have s1':(σ.set q x) k=some (some b,base,κ):=hle _ _ s1
 -- what the family J0p now
 have hfam:∀m,J0p w (σ.set q x) k (.fam n s len f ((i,q)::op)) m->m=b\/∃i',i'<n/\i'≠i/\look op i'=none/\J23 us base i' m:=fun m e=>by
  rcases e with e | ⟨ob,base',κ',us',ty',i',e1,e2,e3,e4,e5⟩
  . simp[J0u,s1'] at e;exact .inl e.symm
  . rw[s1'] at e1;simp only[Option.some.injEq,Prod.mk.injEq] at e1;obtain⟨rfl,rfl,rfl⟩:=e1;rw[s5] at e2;simp only[Option.some.injEq,Obj.cells.injEq] at e2;obtain⟨rfl,_⟩:=e2;have hii:i≠i':=fun e=>by rw[J0m e] at e4;cases e4
    rw[J0k hii] at e4;exact .inr ⟨i',e3,fun e=>hii e.symm,e4,e5⟩
 have hfam2:∀m,J0p w (σ.set q x) k (.fam n s len f ((i,q)::op)) m->J0p w σ k (.fam n s len f op) m:=fun m e=>by
  rcases hfam m e with rfl | ⟨i',e1,_,e2,e3⟩
  . exact .inl (by simp[J0u,s1])
  . exact .inr ⟨b,base,κ,us,ty,i',s1,s5,e1,e2,e3⟩
 have hrow:∀m,J23 us base i m->J0p w σ k (.fam n s len f op) m:=fun m e=>.inr ⟨b,base,κ,us,ty,i,s1,s5,hi,ho,e⟩;refine⟨x,⟨⟨?_,?_,?_⟩,?_,?_⟩,?_⟩
 . intro k' c' hm;rcases List.mem_cons.1 hm with e|hm
   . cases e;exact x2 _ hx
   . rcases (hum k' c').1 hm with ⟨rfl,rfl⟩ | ⟨hkk,hm⟩
     . refine⟨_,base,κ,s1',s2,.inr ⟨b,ty,us,rfl,s4,s5,s6,fun i' hi'=>?_,fun i1 i2 r h1 h2 n1 n2 r1 r2=>?_,fun i1 h1 n1 r1=>?_⟩⟩
       . by_cases e:i=i'
         . subst e;rw[J0m rfl];exact⟨_,u1,a,c,rfl,u3,fun q' hq'=>by cases hq';exact x1 _ _ _ hx,fun hn=>by cases hn⟩
         . rw[J0k e];obtain⟨v,v1,a',c',v2,v3,v4,v5⟩:=s7 i' hi';exact⟨v,v1,a',c',v2,v3,fun q' hq'=>(v4 q' hq').mono ⟨fun _ _ h=>⟨h,rfl⟩,Nat.le_refl _⟩ hle,v5⟩
       . have e1:i≠i1:=fun e=>by rw[J0m e] at n1;cases n1
         have e2:i≠i2:=fun e=>by rw[J0m e] at n2;cases n2
         rw[J0k e1] at n1;rw[J0k e2] at n2;exact s8 i1 i2 r h1 h2 n1 n2 r1 r2
       . have e1:i≠i1:=fun e=>by rw[J0m e] at n1;cases n1
         rw[J0k e1] at n1;exact s9 i1 h1 n1 r1
     . exact(h.own.blk k' c' hm).mono ⟨fun _ _ h=>⟨h,rfl⟩,Nat.le_refl _⟩ hle fun m hm'=>⟨(J0r h.own ⟨k',c',hm,hm'⟩).1,rfl⟩
 . simp only[List.map_cons,List.nodup_cons,J3J];refine⟨fun hm=>?_,h.own.nodup⟩;obtain⟨⟨k',c'⟩,m1,m2⟩:=List.mem_map.1 hm;exact hne k' c' m1 m2
 . intro k1 c1 k2 c2 m m1 m2 hne' e1 e2;have one:∀k' c',(k',c')∈J2i own k (.fam n s len f ((i,q)::op))->J0p w (σ.set q x) k' c' m->J23 us base i m->False:=fun k' c' hm e hr=>by
    rcases (hum k' c').1 hm with ⟨rfl,rfl⟩ | ⟨hkk,hm⟩
    . rcases hfam m e with rfl | ⟨i',a1,a2,a3,a4⟩
      . exact s9 i hi ho hr
      . exact a2 (s8 i' i m a1 hi a3 ho a4 hr)
    . exact h.own.apart k' c' k _ m hm hmem hkk ((keepO k' c' m hm).1 e) (hrow m hr)
   rcases List.mem_cons.1 m1 with c1'|c1'
   . cases c1';rcases List.mem_cons.1 m2 with c2'|c2'
     . cases c2';exact hne' rfl
     . exact one k2 c2 c2' e2 (hhq m e1)
   . rcases List.mem_cons.1 m2 with c2'|c2'
     . cases c2';exact one k1 c1 c1' e1 (hhq m e2)
     . have old:∀k' c',(k',c')∈J2i own k (.fam n s len f ((i,q)::op))->J0p w (σ.set q x) k' c' m->∃c0,(k',c0)∈own/\J0p w σ k' c0 m:=fun k' c' hm e=>by
        rcases (hum k' c').1 hm with ⟨rfl,rfl⟩ | ⟨hkk,hm⟩
        . exact⟨_,hmem,hfam2 m e⟩
        . exact⟨_,hm,(keepO k' c' m hm).1 e⟩
       obtain⟨d1,y1,z1⟩:=old _ _ c1' e1;obtain⟨d2,y2,z2⟩:=old _ _ c2' e2;exact h.own.apart k1 d1 k2 d2 m y1 y2 hne' z1 z2
 . intro k' hk';obtain⟨a1,a2⟩:=J6i.1 hk';rw[Sg.set_other _ _ _ a2];exact h.fresh k' a1
 . exact h.knodup.filter _
 . rintro m ⟨k',c',hm,e⟩;rcases List.mem_cons.1 hm with e'|hm
   . cases e';exact⟨k,_,hmem,hrow m (hhq m e)⟩
   . rcases (hum k' c').1 hm with ⟨rfl,rfl⟩ | ⟨hkk,hm⟩
     . exact⟨_,_,hmem,hfam2 m e⟩
     . exact⟨_,_,hm,(keepO k' c' m hm).1 e⟩
structure J2e (own own':Own):Prop where
 out:∀M w σ ks,J0R M w σ own ks->J0R M w σ own' ks/\(∀m,J0y w σ own' m->J0y w σ own m)
 keys:∀k,k∈own'.map (·.1)->k∈own.map (·.1)
theorem J2e.refl (own:Own):J2e own own:=⟨fun _ _ _ _ h=>⟨h,fun _ h=>h⟩,fun _ h=>h⟩
theorem J2e.trans {a b c:Own} (h:J2e a b) (h':J2e b c):J2e a c :=
 ⟨fun M w σ ks x=>let ⟨y,z⟩:=h.out M w σ ks x;let ⟨y',z'⟩:=h'.out M w σ ks y;⟨y',fun m e=>z m (z' m e)⟩,fun k e=>h.keys k (h'.keys k e)⟩
theorem J1V {own:Own} {q k n s m i:Nat} {len:Nat->Nat} {f:Nat->Nat->Nat->V} {g:Nat->Nat->V} {op:List (Nat×Nat)} (op':List (Nat×Nat))
 (hk:look own k=some (.fam n s len f op)) (hq:look own q=some (.vec m s g)) (hi:i<n) (ho:look op i=some q) (hm:len i<=m) (h1:look op' i=none) (h2:∀j,j≠i->look op' j=look op j) :
 J2e own (J1s [q] (J2i own k (.fam n s len (J2j f i g) op'))):=by
 have hmem:=J0i hk;have hmemq:=J0i hq;have hqk:q≠k:=fun e=>by rw[e,hk] at hq;cases hq
 refine⟨fun M w σ ks h=>?_,fun k' hk'=>?_⟩
 . have hum:=J8O (b:=.fam n s len (J2j f i g) op') h.own.nodup ⟨_,hmem⟩;obtain⟨bo,base,κ,s1,s2,s3⟩:=h.own.blk k _ hmem;rcases s3 with ⟨s3,_⟩ | ⟨b,ty,us,s3,s4,s5,s6,s7,s8,s9⟩
   . omega
   subst s3;obtain⟨u,u1,a,c,u2,u3,u4,_⟩:=s7 i hi;have hden:=u4 q ho;subst u2;obtain⟨bq,baseq,κq,q1,q2,q3⟩:=h.own.blk q _ hmemq;have hrowi:∀r,J23 us base i r->J0u σ q=some r:=fun r ⟨off,l,c',e1,e2⟩=>by
    rw[u1] at e1;cases e1;cases hden with
    | vec _ _ _ _ _ bo2 base2 κ2 c2 a2 k2 kc kl ka =>
      obtain⟨b2,rfl,e3⟩:=ka e2;cases e3;simp[J0u,k2]
   have hapq:∀r,J0p w σ k (.fam n s len f op) r->J0u σ q≠some r:=fun r e e'=>h.own.apart k _ q _ r hmem hmemq (fun e=>hqk e.symm) e (.inl e');have hfam:∀r,J0p w σ k (.fam n s len (J2j f i g) op') r->J0p w σ k (.fam n s len f op) r\/J0u σ q=some r:=fun r e=>by
    rcases e with e | ⟨ob,base',κ',us',ty',i',e1,e2,e3,e4,e5⟩
    . exact .inl (.inl e)
    . have e1':=e1;rw[s1] at e1';simp only[Option.some.injEq,Prod.mk.injEq] at e1';obtain⟨rfl,rfl,rfl⟩:=e1';have e2':=e2;rw[s5] at e2';simp only[Option.some.injEq,Obj.cells.injEq] at e2';obtain⟨rfl,_⟩:=e2';by_cases ei:i'=i
      . subst ei;exact .inr (hrowi r e5)
      . rw[h2 i' ei] at e4;exact .inl (.inr ⟨b,base,κ,us,ty,i',s1,s5,e3,e4,e5⟩)
   have old:∀k' c' r,(k',c')∈J1s [q] (J2i own k (.fam n s len (J2j f i g) op'))->J0p w σ k' c' r->(k'=k/\J0u σ q=some r)\/∃c0,(k',c0)∈own/\k'≠q/\J0p w σ k' c0 r:=fun k' c' r hm' e=>by
    obtain⟨a1,a2⟩:=J0E.1 hm';simp only[List.mem_singleton] at a2;rcases (hum k' c').1 a1 with ⟨rfl,rfl⟩ | ⟨hkk,a1⟩
    . rcases hfam r e with x|x
      . exact .inr ⟨_,hmem,a2,x⟩
      . exact .inl ⟨rfl,x⟩
    . exact .inr ⟨_,a1,a2,e⟩
   refine⟨⟨⟨?_,J2G (by rw[J3J];exact h.own.nodup),?_⟩,h.fresh,h.knodup⟩,?_⟩
   . intro k' c' hm';obtain⟨a1,a2⟩:=J0E.1 hm';rcases (hum k' c').1 a1 with ⟨rfl,rfl⟩ | ⟨hkk,a1⟩
     . refine⟨_,base,κ,s1,s2,.inr ⟨b,ty,us,rfl,s4,s5,s6,fun i' hi'=>?_,fun i1 i2 r g1 g2 n1 n2 r1 r2=>?_,fun i1 g1 n1 r1=>?_⟩⟩
       . by_cases e:i'=i
         . subst e;refine⟨_,u1,a,c,rfl,u3,fun q' hq'=>(by rw[h1] at hq';cases hq'),fun _ hc=>?_⟩;cases hden with
           | vec _ _ _ _ _ bo2 base2 κ2 c2 a2 k2 kc kl ka =>
             rw[q1] at k2;simp only[Option.some.injEq,Prod.mk.injEq] at k2;obtain⟨rfl,rfl,rfl⟩:=k2;obtain⟨b2,rfl,rfl⟩:=ka hc;rcases q3 with ⟨z,_⟩ | ⟨b',ty2,us2,e1,e2,e3,e4,e5⟩
             . omega
             . cases e1;refine⟨b2,_,ty2,us2,rfl,e2,e3,?_,fun j t hj ht=>?_⟩
               . simp only[Nat.zero_mul,Nat.add_zero];have:c=κq:=by omega
                 rw[this];exact e4
               . obtain⟨y,y1,y2,y3⟩:=e5 j t (by omega) ht;exact⟨y,by simpa using y1,y2,by simpa[J2j] using y3⟩
         . obtain⟨v,v1,a',c',v2,v3,v4,v5⟩:=s7 i' hi';rw[h2 i' e];refine⟨v,v1,a',c',v2,v3,v4,fun hn hc=>?_⟩;obtain⟨r,off,ty2,us2,p1,p2,p3,p4,p5⟩:=v5 hn hc;exact⟨r,off,ty2,us2,p1,p2,p3,p4,fun j t hj ht=>by simp only[J2j,e,if_false];exact p5 j t hj ht⟩
       . by_cases e1:i1=i
         . by_cases e2:i2=i
           . rw[e1,e2]
           . subst e1;rw[h2 i2 e2] at n2;exact(hapq r (.inr ⟨b,base,κ,us,ty,i2,s1,s5,g2,n2,r2⟩) (hrowi r r1)).elim
         . by_cases e2:i2=i
           . subst e2;rw[h2 i1 e1] at n1;exact(hapq r (.inr ⟨b,base,κ,us,ty,i1,s1,s5,g1,n1,r1⟩) (hrowi r r2)).elim
           . rw[h2 i1 e1] at n1;rw[h2 i2 e2] at n2;exact s8 i1 i2 r g1 g2 n1 n2 r1 r2
       . by_cases e1:i1=i
         . subst e1;exact hapq b (.inl (by simp[J0u,s1])) (hrowi b r1)
         . rw[h2 i1 e1] at n1;exact s9 i1 g1 n1 r1
     . exact h.own.blk k' c' a1
   . intro k1 c1 k2 c2 r m1 m2 hne' e1 e2;rcases old k1 c1 r m1 e1 with ⟨a1,a2⟩ | ⟨d1,a1,a2,a3⟩
     . rcases old k2 c2 r m2 e2 with ⟨b1,b2⟩ | ⟨d2,b1,b2,b3⟩
       . exact hne' (a1.trans b1.symm)
       . exact h.own.apart k2 d2 q _ r b1 hmemq b2 b3 (.inl a2)
     . rcases old k2 c2 r m2 e2 with ⟨b1,b2⟩ | ⟨d2,b1,b2,b3⟩
       . exact h.own.apart k1 d1 q _ r a1 hmemq a2 a3 (.inl b2)
       . exact h.own.apart k1 d1 k2 d2 r a1 b1 hne' a3 b3
   . rintro r ⟨k',c',hm',e⟩;rcases old k' c' r hm' e with ⟨_,a2⟩ | ⟨d1,a1,_,a3⟩
     . exact⟨q,_,hmemq,.inl a2⟩
     . exact⟨k',d1,a1,a3⟩
 . obtain⟨⟨q',c'⟩,m1,m2⟩:=List.mem_map.1 hk';simp only at m2;subst m2;have:=(J0E.1 m1).1;rw[<- J3J k (.fam n s len (J2j f i g) op') own];exact List.mem_map.2 ⟨_,this,rfl⟩
theorem X2B {own:Own} {n s a b qa qb ma mb:Nat} {len:Nat->Nat} {f:Nat->Nat->Nat->V} {fa fb:Nat->Nat->V} (hab:a≠b) (ha:a<n) (hb:b<n) (hk:look own 1=some (.fam n s len f [(b,qb),(a,qa)]))
 (hqa:look own qa=some (.vec ma s fa)) (hqb:look (J1s [qa] (J2i own 1 (.fam n s len (J2j f a fa) [(b,qb)]))) qb=some (.vec mb s fb)) (hk2:look (J1s [qa] (J2i own 1 (.fam n s len (J2j f a fa) [(b,qb)]))) 1=some (.fam n s len (J2j f a fa) [(b,qb)]))
 (h1:len a<=ma) (h2:len b<=mb) :
 J2e own (J1s [qb] (J2i (J1s [qa] (J2i own 1 (.fam n s len (J2j f a fa) [(b,qb)]))) 1 (.fam n s len (J2j (J2j f a fa) b fb) []))):=by
 refine(J1V [(b,qb)] hk hqa ha ((J0k (fun e=>hab e.symm)).trans (J0m rfl)) h1 (J0k (fun e=>hab e.symm)) (fun j hj=>?_)).trans (J1V [] hk2 hqb hb (J0m rfl) h2 rfl (fun j hj=>?_))
 . by_cases e:b=j
   . rw[J0m e,J0m e]
   . rw[J0k e,J0k e,J0k (fun e=>hj e.symm)]
 . rw[J0k (fun e=>hj e.symm)]
theorem J3C.trans {N:Nat} {chg:List Nat} {a b c:St} (h:J3C N chg a b) (h':J3C N chg b c) (hk:∀k,k∈b.ks->k∈c.ks\/k∈chg):J3C N chg a c :=
 ⟨fun B M w σ act s=>by
   obtain⟨M1,σ1,s1,t1,q1⟩:=h.out B M w σ act s;obtain⟨M2,σ2,s2,t2,q2⟩:=h'.out B M1 w σ1 act s1;refine⟨M2,σ2,s2,t1.trans t2,fun k e1 e2=>?_⟩;rw[q2 k e1 e2,q1 k (fun e=>(hk k e).elim e1 e2) e2]⟩
theorem J27 {N:Nat} {chg:List Nat} {env:Env} {own own':Own} {ks:List Nat} (h:J2e own own'):J3C N chg ⟨env,own,ks⟩ ⟨env,own',ks⟩ :=
 ⟨fun B M w σ a s=>by
   obtain⟨h1,h2⟩:=h.out M w σ ks s.heap;exact⟨M,σ,⟨s.env,h1,s.size,⟨s.defers.base,fun d hd=>let ⟨D,e,q1,q2,q3,q4⟩:=s.defers.mark d hd;⟨D,e,q1,q2,fun x=>q3 (h2 D x),q4⟩,s.defers.nodup⟩⟩,⟨.refl _ _ _,fun m hm=>.inl (h2 m hm)⟩,fun _ _ _=>rfl⟩⟩
theorem J1e {N:Nat} {chg:List Nat} {env:Env} {own:Own} {ks:List Nat} {q k n s i:Nat} {len:Nat->Nat} {f:Nat->Nat->Nat->V} {op:List (Nat×Nat)} (hq:J09 q ks=true) (hc:J09 q chg=true)
 (hk:look own k=some (.fam n s len f op)) (hi:i<n) (ho:look op i=none) :
 J3C N chg ⟨env,own,ks⟩ ⟨env,(q,.vec (len i) s (f i))::J2i own k (.fam n s len f ((i,q)::op)),X7d q ks⟩ :=
 ⟨fun B M w σ a st=>by
   obtain⟨x,h1,h2⟩:=Q0I st.heap (J0o.1 hq) hk hi ho;have hle:σ.le (σ.set q x):=Sg.le_set x (st.heap.fresh q (J0o.1 hq));refine⟨M,σ.set q x,⟨fun t v hv=>(st.env t v hv).mono ⟨fun _ _ h=>⟨h,rfl⟩,Nat.le_refl _⟩ hle,h1,st.size,⟨st.defers.base,fun d hd=>let ⟨D,e,q1,q2,q3,q4⟩:=st.defers.mark d hd;⟨D,e,q1,q2,fun x=>q3 (h2 D x),q4⟩,st.defers.nodup⟩⟩,⟨.refl _ _ _,fun m hm=>.inl (h2 m hm)⟩,fun k' _ e2=>?_⟩;exact Sg.set_other _ _ _ (fun e=>e2 (e▸J0o.1 hc))⟩
theorem Q1d {P:Program} {fn:FuncId} {args:List V} {own:Own} {ks:List Nat} {K:V->Own->List Nat->Prop} (q k i:Nat) {n s:Nat} {len:Nat->Nat} {f:Nat->Nat->Nat->V} {op:List (Nat×Nat)} (hq:J09 q ks=true)
 (hk:look own k=some (.fam n s len f op)) (hi:i<n) (ho:look op i=none)
 (h:J0K P fn args ((q,.vec (len i) s (f i))::J2i own k (.fam n s len f ((i,q)::op))) (X7d q ks) K):J0K P fn args own ks K:=by
 constructor;intro M w σ us hlen hd hh;obtain⟨x,h1,h2⟩:=Q0I hh (J0o.1 hq) hk hi ho;have hq0:=hh.fresh q (J0o.1 hq);have hle:σ.le (σ.set q x):=Sg.le_set x hq0;refine(h.out M w (σ.set q x) us hlen (fun i v u hv hu=>(hd i v u hv hu).mono ⟨fun _ _ h=>⟨h,rfl⟩,Nat.le_refl _⟩ hle) h1).mono ?_;rintro e w' ⟨M',σ',v,own',ks',u,rfl,hv,hh',tr,kd,hK⟩;refine⟨M',σ',v,own',ks',u,rfl,hv,hh',⟨⟨tr.adv.os,tr.adv.tape,tr.adv.output,tr.adv.size,fun b hb hn=>tr.adv.same b hb fun x=>hn (h2 b x),fun b hb hn=>tr.adv.muts b hb fun x=>hn (h2 b x)⟩,fun b hb=>(tr.new b hb).imp_left (h2 b),Sg.le_trans hle tr.le⟩,⟨fun k hk=>(J6i.1 (kd.1 k hk)).1,fun k e1 e2=>?_,fun k' hk'=>?_⟩,hK⟩
 . have hne:k≠q:=fun e=>e2 (e▸J0o.1 hq);exact kd.2.1 k (by rw[Sg.set_other _ _ _ hne];exact e1) (fun e=>e2 (J6i.1 e).1)
 . rcases kd.2.2 k' hk' with x|x
   . simp only[List.map_cons,List.mem_cons,J3J] at x;rcases x with x|x
     . exact .inr (x▸J0o.1 hq)
     . exact .inl x
   . exact .inr (J6i.1 x).1
theorem Q8s {P:Program} {f:FuncId} {args:List V} {own:Own} {ks:List Nat} {K:V->Own->List Nat->Prop} (h:J0K P f args own ks fun v own' ks'=>∃own'',J2e own' own''/\K v own'' ks'):J0K P f args own ks K:=by
 constructor;intro M w σ us hlen hd hh;refine(h.out M w σ us hlen hd hh).mono ?_;rintro e w' ⟨M',σ',v,own',ks',u,rfl,hv,hh',tr,kd,own'',hs,hK⟩;obtain⟨h1,h2⟩:=hs.out M' w' σ' ks' hh';exact⟨M',σ',v,own'',ks',u,rfl,hv,h1,⟨tr.adv,fun b hb=>tr.new b (h2 b hb),tr.le⟩,⟨kd.1,kd.2.1,fun k hk=>kd.2.2 k (hs.keys k hk)⟩,hK⟩
end Go.Eng
