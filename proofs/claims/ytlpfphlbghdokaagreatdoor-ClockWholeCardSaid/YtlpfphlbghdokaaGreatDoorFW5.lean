import Derived.Test.YtlpfphlbghdokaaGreatDoorAN1
import Derived.Test.YtlpfphlbghdokaaGreatDoorEngAC
import Derived.Test.YtlpfphlbghdokaaGreatDoorGRCode
namespace Go.Eng
open Go.Plain
set_option linter.unusedVariables false
structure Tsy where
 n:Nat
 en:Nat->Nat
 ar:Nat->List (Nat×Nat)
def gA (l:List (Nat×Nat)) (i:Nat):Nat×Nat:=l.getD i (0,0)
def vAr (l:List (Nat×Nat)):Nat->Nat->V:=fun i j=>match j with
 | 0=>.int .u32 (gA l i).1
 | _=>.int .i64 (gA l i).2
def arV (l:List (Nat×Nat)):V:=.fz l.length 2 false (vAr l)
def vEn (s:Tsy):Nat->Nat->V:=fun i _=>.int .u32 (s.en i)
def Q9g (s:Tsy):Nat->Nat->V:=fun i _=>arV (s.ar i)
def Tsy.v (s:Tsy):V:=.agg [.fz s.n 1 false (vEn s),.fz s.n 1 false (Q9g s)]
def Tsy.to (s:Tsy) (k:Nat):List Nat:=(s.ar k).map (·.2)
def J7H (f:Nat->Nat):Nat->Nat
 | 0=>0
 | k+1=>J7H f k+f k
theorem J24 (f:Nat->Nat) {a b:Nat} (h:a<=b):J7H f a<=J7H f b:=by
 induction b with
 | zero =>
   obtain rfl:a=0:=by omega
   exact Nat.le_refl _
 | succ b ih =>
   by_cases e:a=b+1
   . subst e;exact Nat.le_refl _
   . have:=ih (by omega);rw[J7H];omega
theorem Q1B (f:Nat->Nat) (m:Nat) (h:∀k,f k<=m):∀n,J7H f n<=n*m
 | 0=>by simp[J7H]
 | n+1=>by have:=Q1B f m h n;have:=h n;rw[J7H,Nat.add_mul];omega
def Tsy.tot (s:Tsy) (k:Nat):Nat:=J7H (fun k=>(s.ar k).length) k
structure Tsy.Ok (s:Tsy):Prop where
 n1:1<=s.n
 n2:s.n<=32768
 en:∀k,k<s.n->s.en k<16777216
 ne:∀k,k<s.n->(s.en k≠0↔s.ar k≠[])
 sort:∀k,k<s.n->(s.ar k).Pairwise fun a b=>a.1<b.1
 arc:∀k,k<s.n->∀a∈s.ar k,a.1≠0/\J19 a.1 (s.en k)/\a.2<s.n
 tot:s.tot s.n<=262144
theorem Tsy.Ok.row {s:Tsy} (h:s.Ok) {k:Nat} (hk:k<s.n):(s.ar k).length<=262144:=by
 have h1:=h.tot;have h2:=J24 (fun k=>(s.ar k).length) (show k+1<=s.n by omega);rw[Tsy.tot] at h1;rw[J7H] at h2;omega
theorem J4Y {l:List (Nat×Nat)} {i:Nat} (h:i<l.length):gA l i∈l:=by
 rw[gA,List.getD_eq_getElem?_getD,List.getElem?_eq_getElem h];exact List.getElem_mem h
theorem Y0A {l:List (Nat×Nat)} (h:l.Pairwise fun a b=>a.1<b.1) {i j:Nat} (hij:i<j) (hj:j<l.length):(gA l i).1<(gA l j).1:=by
 have:=List.pairwise_iff_getElem.1 h i j (by omega) hj hij;simpa[gA,List.getD_eq_getElem?_getD,List.getElem?_eq_getElem hj,List.getElem?_eq_getElem (show i<l.length by omega)] using this
def blV (n:Nat) (b:Nat->Bool):V:=.fz n 1 false fun i _=>.bool (b i)
def gQ (l:List Nat) (i:Nat):Nat:=l.getD i 0
def vQ (l:List Nat):Nat->Nat->V:=fun i _=>.int .i64 (gQ l i)
theorem X6j {l:List Nat} {i:Nat} (h:i<l.length):gQ l i∈l:=by
 rw[gQ,List.getD_eq_getElem?_getD,List.getElem?_eq_getElem h];exact List.getElem_mem h
theorem Q1Y (l:List Nat) (a i:Nat):gQ (l++[a]) i=if i<l.length then gQ l i else if i=l.length then a else 0:=by
 by_cases h:i<l.length
 . simp only[gQ,List.getD,List.getElem?_append_left h,if_pos h]
 . rw[if_neg h];by_cases h2:i=l.length
   . subst h2;simp[gQ]
   . simp[gQ,h2,List.getElem?_eq_none (by simp;omega:(l++[a]).length<=i)]
theorem J8I (l:List Nat) (a:Nat) (F:Nat->Nat->V) (x:Int) (hF:F 0 0=.int .i64 x) (hx:x=a) (n i j:Nat) (hn:n=l.length) (hi:i<l.length+1) (hj:j<1):VLe (J5p (J0l 0 (vQ l)) n (J0l 0 F) i j) (vQ (l++[a]) i j):=by
 obtain rfl:j=0:=by omega
 subst hn;apply VLe.of_eq;rw[vQ,Q1Y];by_cases h:i<l.length
 . rw[J2c h,J0E,Nat.zero_add,if_pos h];rfl
 . rw[J2d h,if_neg h];have:i=l.length:=by omega
   subst this;simp[J0l,hF,hx]
instance instKySAny (l:List IntKind):DecidableEq (KyS l):=KyS.dec l
abbrev KP:List IntKind:=[.i64,.u32]
def kyP (p:Nat×Nat):KyT (.st KP):=((p.1:Int),(p.2:Int),())
structure Q1c (s:Tsy) (lg:Nat->Bool) (m:Nat) (L:List (Nat×Nat)):Prop where
 nodup:L.Nodup
 ok:∀p∈L,p.1<s.n/\p.2<m
 leg:∀p∈L,lg p.1=false
theorem Q1c.nil (s:Tsy) (lg:Nat->Bool) (m:Nat):Q1c s lg m []:=⟨.nil,fun p h=>(by cases h),fun p h=>(by cases h)⟩
theorem Q1c.snoc {s:Tsy} {lg:Nat->Bool} {m:Nat} {L:List (Nat×Nat)} (h:Q1c s lg m L) {p:Nat×Nat} (hp:p.1<s.n/\p.2<m) (hl:lg p.1=false) (hn:p∉L):Q1c s lg m (L++[p]):=by
 refine⟨?_,fun q hq=>?_,fun q hq=>?_⟩
 . rw[List.nodup_append];exact⟨h.nodup,by simp,fun a ha b hb e=>hn (by simp at hb;rw[<- hb,<- e];exact ha)⟩
 . rcases List.mem_append.1 hq with h1|h1
   . exact h.ok q h1
   . simp at h1;subst h1;exact hp
 . rcases List.mem_append.1 hq with h1|h1
   . exact h.leg q h1
   . simp at h1;subst h1;exact hl
end Go.Eng
namespace Go.Eng
open Go.Plain
def Q4u (F:Nat->List Nat):Nat->Nat:=fun t=>(F t).length
def X24 (F:Nat->List Nat):Nat->Nat->Nat->V:=fun t=>vQ (F t)
def X42 (F:Nat->List Nat) (t x:Nat):Nat->List Nat:=fun u=>if u=t then F u++[x] else F u
def X7d (b:Bool) (t q:Nat):List (Nat×Nat):=if b then[(t,q)] else[]
theorem Q3h (F:Nat->List Nat) (t x i:Nat):Q4u (X42 F t x) i=if i=t then (F t).length+1 else Q4u F i:=by
 rw[Q4u,X42];by_cases h:i=t
 . subst h;simp
 . rw[if_neg h,if_neg h];rfl
theorem Q3y {F F':Nat->List Nat} {t x n:Nat} (hF:F'=X42 F t x) {g:Nat->Nat->V} (hg:∀j u,j<(F t).length+1->u<1->VLe (g j u) (vQ (F t++[x]) j u)) (ρ:Rn) :
 X4N ρ (.fam n 1 (J2N (Q4u F) t ((F t).length+1)) (J3n (X24 F) t g) []) (.fam n 1 (Q4u F') (X24 F') []):=by
 subst hF;refine⟨rfl,rfl,True.intro,fun i hi=>?_,fun i j u hi hn hj hu=>?_⟩
 . rw[Q3h];rfl
 . simp only[J3n,X24,X42];simp only[J2N] at hj;by_cases e:i=t
   . rw[if_pos e,if_pos e];rw[if_pos e] at hj;rw[e];exact hg j u hj hu
   . rw[if_neg e,if_neg e];exact VLe.rfl
theorem ksC {c:List Nat} {q:Nat} {chg:List Nat} (h:J05 q chg=true):∀k,k∈(q::c)->k∈c\/k∈chg:=fun k hk=>by
 rcases List.mem_cons.1 hk with e|e
 . exact .inr (by rw[e];exact J0m.1 h)
 . exact .inl e
theorem ksS {a b chg:List Nat} (h:(a.all fun k=>J05 k b)=true):∀k,k∈a->k∈b\/k∈chg:=fun k hk=>.inl (J0m.1 (List.all_eq_true.1 h k hk))
end Go.Eng
namespace Go.Proofs.YtlpfphlbghdokaaGreatDoor
open Go.Eng Go.Plain
set_option maxRecDepth 100000
set_option linter.unusedVariables false
def X4E (l:List (Nat×Nat)) (i:Nat):Nat:=if i=0 then 0 else (gA l (i-1)).1
theorem Q4g (e:Nat) (l:List (Nat×Nat)) (n:Nat) (he:e<16777216) (hne:e≠0↔l≠[]) (hs:l.Pairwise fun a b=>a.1<b.1) (ha:∀a∈l,a.1≠0/\J19 a.1 e/\a.2<n) (hn:n<=32768) (hl:l.length<=262144) :
 Ret Tryz.prog 120 [.int .u32 e,arV l,.int .i64 n] (.bool true):=by
 have h24:(e:Int).fdiv (2 ^ (min (24:Int).toNat IntKind.u32.bits))=0:=by
  have:(min (24:Int).toNat IntKind.u32.bits)=24:=by decide
  rw[this,J6d,Nat.shiftRight_eq_div_pow,Nat.div_eq_of_lt (by omega)];rfl
 have hlen:e≠0↔0<l.length:=by rw[hne,List.length_pos_iff]
 have hl0:e=0->l.length=0:=fun h=>by
  rcases Nat.eq_zero_or_pos l.length with q|q
  . exact q
  . exact(hlen.2 q h).elim
 have hl1:l.length=0->e=0:=fun h=>Classical.byContradiction fun q=>by have:=hlen.1 q;omega
 refine J0g rfl ?_;refine J0d J0b Tryz.func120 rfl Y0h X9C rfl ?_;have hcase:(e=0/\l.length=0)\/(e≠0/\0<l.length):=by
  rcases Nat.eq_zero_or_pos e with h|h
  . exact .inl ⟨h,hl0 h⟩
  . exact .inr ⟨by omega,hlen.1 (by omega)⟩
 rcases hcase with ⟨e1,e2⟩ | ⟨e1,e2⟩
 . repeat' ((conv=>whnf);first|(refine Sv.mk 0 h24.symm ?_)|(refine Br.ff ?_)|(refine Br.dec ?_ ?_<;>intro _<;>try omega)|(refine Br.bne ?_ ?_<;>intro _<;>try omega)|(refine Nn.mk (by omega) ?_))
   all_goals (conv=>whnf)
   refine J0N J0b [0,2,21,22] (fun i:Nat=>[(7,.int .u32 (X4E l i)),(23,.int .i64 i)]) (fun m i=>m=l.length-i/\i<=l.length) l.length 0 ⟨rfl,Nat.zero_le _⟩ ?_ ?_
   . exact J0k (fun _ _=>[])
   rintro m i ⟨hm,hi⟩
   repeat' ((conv=>whnf);first|(refine Br.dec ?_ ?_<;>intro _<;>try omega))
   all_goals (conv=>whnf)
   exact VLe.rfl
 . repeat' ((conv=>whnf);first|(refine Sv.mk 0 h24.symm ?_)|(refine Br.ff ?_)|(refine Br.dec ?_ ?_<;>intro _<;>try omega)|(refine Br.bne ?_ ?_<;>intro _<;>try omega)|(refine Nn.mk (by omega) ?_))
   all_goals (conv=>whnf)
   refine J0N J0b [0,2,21,22] (fun i:Nat=>[(7,.int .u32 (X4E l i)),(23,.int .i64 i)]) (fun m i=>m=l.length-i/\i<=l.length) l.length 0 ⟨rfl,Nat.zero_le _⟩ ?_ ?_
   . exact J0k (fun _ _=>[])
   rintro m i ⟨hm,hi⟩;by_cases hil:i<l.length
   . obtain⟨a1,a2,a3⟩:=ha _ (J4Y hil);have a4:=a2.le;have a5:X4E l i<(gA l i).1:=by
      rw[X4E];split
      . omega
      . exact Y0A hs (by omega) hil
     have hnx:X4E l (i+1)=(gA l i).1:=by rw[X4E,if_neg (by omega),Nat.add_sub_cancel]
     have hd:J4a .andNot .u32 ((gA l i).1:Int) (e:Int)=0:=by rw[J8z (by omega) (by omega),(J1M (by omega)).2 a2];rfl
     generalize X4E l i=b at *
     repeat' ((conv=>whnf);first|(refine Sv.mk 0 hd.symm ?_)|(refine Br.ff ?_)|(refine Br.dec ?_ ?_<;>intro _<;>try omega)|(refine Ar.i64 (by omega) (by omega) ?_)|(refine Ix.nat (by omega) ?_))
     all_goals (conv=>whnf)
     refine⟨l.length-(i+1),i+1,by omega,⟨rfl,by omega⟩,?_⟩;simp only[hnx];exact J0k (fun _ _=>[])
   . repeat' ((conv=>whnf);first|(refine Br.dec ?_ ?_<;>intro _<;>try omega))
     all_goals (conv=>whnf)
     exact VLe.rfl
theorem Q5E (s:Tsy) (hs:s.Ok):Ret Tryz.prog 78 [s.v] (.bool true):=by
 have n1:=hs.n1;have n2:=hs.n2;refine J0g rfl ?_;refine J0d J0b Tryz.func78 rfl hc78 hr78 rfl ?_
 repeat' ((conv=>whnf);first|(refine Br.dec ?_ ?_<;>intro _<;>try omega)|(refine Br.bne ?_ ?_<;>intro _<;>try omega))
 all_goals (conv=>whnf)
 refine J0N J0b [1,3,22] (fun k:Nat=>[(4,.int .i64 (s.tot k)),(23,.int .i64 k)]) (fun m k=>m=s.n-k/\k<=s.n) s.n 0 ⟨rfl,Nat.zero_le _⟩ ?_ ?_
 . exact J0k (fun _ _=>[(0,some 0)])
 rintro m k ⟨hm,hk⟩;by_cases hkn:k<s.n
 . have h1:=Q4g (s.en k) (s.ar k) s.n (hs.en k hkn) (hs.ne k hkn) (hs.sort k hkn) (hs.arc k hkn) n2 (hs.row hkn);have ht:=hs.tot;have ht2:=J24 (fun k=>(s.ar k).length) (show k+1<=s.n by omega);have ht3:s.tot (k+1)=s.tot k+(s.ar k).length:=rfl;change s.tot (k+1)<=s.tot s.n at ht2;generalize s.tot k=t at *
   repeat' ((conv=>whnf);first|(refine Br.tt ?_)|(refine Br.dec ?_ ?_<;>intro _<;>try omega)|(refine Ar.i64 (by omega) (by omega) ?_)|(refine Ix.nat (by omega) ?_)|(refine h1.go ?_))
   all_goals (conv=>whnf)
   all_goals first
    | (exfalso;omega)
    | (refine⟨s.n-(k+1),k+1,by omega,⟨rfl,by omega⟩,?_⟩
       simp only[ht3];exact J0k (fun _ _=>[(0,some 0)]))
 . repeat' ((conv=>whnf);first|(refine Br.dec ?_ ?_<;>intro _<;>try omega))
   all_goals (conv=>whnf)
   exact VLe.rfl
theorem Q02 (s:Tsy) (hs:s.Ok) (lg:Nat->Bool):Ret Tryz.prog 43 [s.v,blV s.n lg] (.int .i64 0):=by
 have n2:=hs.n2;have h1:=Q5E s hs;refine J0g rfl ?_;refine J0d J0b Tryz.func43 rfl hc43 hr43 rfl ?_
 repeat' ((conv=>whnf);first|(refine Br.tt ?_)|(refine Br.bne ?_ ?_<;>intro _<;>try omega)|(refine h1.go ?_))
 all_goals (conv=>whnf)
 exact VLe.rfl
def vEt (en:Nat->Nat):Nat->Nat->V:=fun k _=>.int .i64 (en k)
theorem Q9c (i j:Nat) (hj:j<1):VLe ((fun(_ j:Nat)=>[V.int .i64 0].getD j default) i j) (vEt (fun _=>0) i j):=by
 obtain rfl:j=0:=by omega
 exact VLe.rfl
end Go.Proofs.YtlpfphlbghdokaaGreatDoor
namespace Go.Plain.Tj
variable (N:Nat) (to:Nat->List Nat) (leg:Nat->Bool)
inductive Rch:Nat->Nat->Prop
 | refl (k:Nat):Rch k k
 | step {k t u:Nat} (h:Rch k t) (ht:u∈to t) (hl:leg u=false):Rch k u
variable {N to leg}
theorem Rch.trans {a b c:Nat} (h:Rch to leg a b) (h':Rch to leg b c):Rch to leg a c:=by
 induction h' with
 | refl=>exact h
 | step _ ht hl ih=>exact .step ih ht hl
theorem Rch.one {a b:Nat} (h:b∈to a) (hl:leg b=false):Rch to leg a b:=.step (.refl a) h hl
structure S where
 idx:Nat->Nat
 low:Nat->Nat
 rt:Nat->Option Nat
 found:Nat
 pend:List Nat
 way:List (Nat×Nat)
def S.ws (s:S):List Nat:=s.way.map (·.1)
def dn (to:Nat->List Nat):List (Nat×Nat)->Nat->Nat
 | [],k=>(to k).length
 | (w,a)::r,k=>if w=k then a else dn to r k
def abv:List (Nat×Nat)->Nat->Nat->Prop
 | [],_,_=>False
 | [_],_,_=>False
 | (t,_)::(k,b)::r,x,y=>(x=k/\y=t)\/abv ((k,b)::r) x y
def Q8f (to:Nat->List Nat):List (Nat×Nat)->Prop
 | []=>True
 | [_]=>True
 | (t,_)::(k,b)::r=>t∈to k/\Q8f to ((k,b)::r)
structure Inv (N:Nat) (to:Nat->List Nat) (leg:Nat->Bool) (ex:Option (Nat×Nat)) (s:S):Prop where
 rng:∀k,k<N->∀t∈to k,t<N
 nl:∀k∈s.pend,leg k=false/\k<N
 pd:∀k,k<N->leg k=false->(k∈s.pend↔s.idx k≠0/\s.rt k=none)
 srt:s.pend.Pairwise fun a b=>s.idx b<s.idx a
 le:∀k∈s.pend,s.idx k<=s.found
 wsrt:s.ws.Pairwise fun a b=>s.idx b<s.idx a
 wp:∀w∈s.ws,w∈s.pend
 ch:Q8f to s.way
 own:∀k∈s.pend,∃w∈s.ws,s.idx w<=s.idx k/\(∀w'∈s.ws,s.idx w'<=s.idx k->s.idx w'<=s.idx w)/\Rch to leg w k/\s.low w<=s.low k
 lo:∀k∈s.pend,s.low k<=s.idx k/\∃j∈s.pend,s.idx j=s.low k/\Rch to leg k j
 fin:∀k∈s.pend,k∉s.ws->s.low k<s.idx k
 exm:∀k∈s.pend,∀i t,i<dn to s.way k->(to k)[i]?=some t->leg t=true\/s.rt t≠none\/(s.idx t≠0/\s.low k<=s.idx t)\/abv s.way k t\/ex=some (k,t)
 rtl:∀k,s.rt k≠none->leg k=false/\k<N/\s.idx k≠0
 cmp:∀k,s.rt k≠none->∀t∈to k,leg t=false->s.rt t≠none
 scc:∀k k' r,s.rt k=some r->s.rt k'=some r->Rch to leg k k'
 rr:∀k r,s.rt k=some r->s.rt r=some r
 sep:∀k k' r r',s.rt k=some r->s.rt k'=some r'->Rch to leg k k'->Rch to leg k' k->r=r'
def upd {α:Type} (f:Nat->α) (k:Nat) (x:α):Nat->α:=fun i=>if i=k then x else f i
theorem J4D {α:Type} (f:Nat->α) (k:Nat) (x:α):upd f k x k=x:=if_pos rfl
theorem J4E {α:Type} (f:Nat->α) {k i:Nat} (x:α) (h:i≠k):upd f k x i=f i:=if_neg h
def S.enter (s:S) (k:Nat):S:=⟨upd s.idx k (s.found+1),upd s.low k (s.found+1),s.rt,s.found+1,k::s.pend,(k,0)::s.way⟩
theorem Q1C {s:S} (h:s.pend.Pairwise fun a b=>s.idx b<s.idx a) {a b:Nat} (ha:a∈s.pend) (hb:b∈s.pend) (e:s.idx a=s.idx b):a=b:=by
 obtain⟨i,hi,rfl⟩:=List.getElem_of_mem ha;obtain⟨j,hj,rfl⟩:=List.getElem_of_mem hb;have hp:=List.pairwise_iff_getElem.1 h;rcases Nat.lt_trichotomy i j with q|q|q
 . have:=hp i j hi hj q;omega
 . subst q;rfl
 . have:=hp j i hj hi q;omega
theorem Q7M {to:Nat->List Nat}:∀{w:List (Nat×Nat)} {k:Nat},k∉w.map (·.1)->dn to w k=(to k).length
 | [],_,_=>rfl
 | (x,a)::r,k,h=>by
   simp only[List.map_cons,List.mem_cons,not_or] at h;rw[dn,if_neg (fun e=>h.1 e.symm)];exact Q7M h.2
theorem X1d {w a b x y:Nat} {r:List (Nat×Nat)} (h:abv ((w,a)::r) x y):abv ((w,b)::r) x y:=by
 cases r with
 | nil=>exact h
 | cons p r=>obtain⟨k,c⟩:=p;exact h
theorem Q4P {to:Nat->List Nat} {w a b:Nat} {r:List (Nat×Nat)} (h:Q8f to ((w,a)::r)):Q8f to ((w,b)::r):=by
 cases r with
 | nil=>exact h
 | cons p r=>obtain⟨k,c⟩:=p;exact h
variable {ex:Option (Nat×Nat)}
theorem Inv.bump {s:S} (h:Inv N to leg none s) {w a:Nat} {r:List (Nat×Nat)} (hw:s.way=(w,a)::r) {t:Nat} (ht:(to w)[a]?=some t):Inv N to leg (some (w,t)) { s with way:=(w,a+1)::r }:=by
 have hws:S.ws { s with way:=(w,a+1)::r }=s.ws:=by simp[S.ws,hw]
 refine⟨h.rng,h.nl,h.pd,h.srt,h.le,by rw[hws];exact h.wsrt,by rw[hws];exact h.wp,?_,by rw[hws];exact h.own,h.lo,by rw[hws];exact h.fin,?_,h.rtl,h.cmp,h.scc,h.rr,h.sep⟩
 . have:=h.ch;rw[hw] at this;exact Q4P this
 . intro k hk i u hi hu;have old:i<dn to s.way k->leg u=true\/s.rt u≠none\/(s.idx u≠0/\s.low k<=s.idx u)\/abv ((w,a+1)::r) k u\/some (w,t)=some (k,u):=fun q=>by
    rcases h.exm k hk i u q hu with q|q|q|q|q
    . exact .inl q
    . exact .inr (.inl q)
    . exact .inr (.inr (.inl q))
    . rw[hw] at q;exact .inr (.inr (.inr (.inl (X1d q))))
    . cases q
   by_cases e:w=k
   . subst e;have hi:i<a+1:=by simpa[dn] using hi
     by_cases q:i=a
     . subst q;rw[ht] at hu;cases hu;exact .inr (.inr (.inr (.inr rfl)))
     . exact old (by rw[hw,dn,if_pos rfl];omega)
   . exact old (by rw[hw,dn,if_neg e];simpa[dn,e] using hi)
theorem Inv.skip {s:S} {w t:Nat} (h:Inv N to leg (some (w,t)) s) (ht:leg t=true\/s.rt t≠none):Inv N to leg none s :=
 ⟨h.rng,h.nl,h.pd,h.srt,h.le,h.wsrt,h.wp,h.ch,h.own,h.lo,h.fin,fun k hk i u hi hu=>by
   rcases h.exm k hk i u hi hu with q|q|q|q|q
   . exact .inl q
   . exact .inr (.inl q)
   . exact .inr (.inr (.inl q))
   . exact .inr (.inr (.inr (.inl q)))
   . cases q;rcases ht with ht|ht
     . exact .inl ht
     . exact .inr (.inl ht),h.rtl,h.cmp,h.scc,h.rr,h.sep⟩
theorem Inv.enter {s:S} (h:Inv N to leg ex s) {k:Nat} (hk:k<N) (hl:leg k=false) (h0:s.idx k=0) (hw:(s.way=[]/\ex=none)\/∃w a r,s.way=(w,a)::r/\k∈to w/\ex=some (w,k)):Inv N to leg none (s.enter k):=by
 have hrt:s.rt k=none:=by
  cases e:s.rt k with
  | none=>rfl
  | some r=>exact((h.rtl k (by rw[e];simp)).2.2 h0).elim
 have hnp:k∉s.pend:=fun hm=>((h.pd k hk hl).1 hm).1 h0;have hne:∀{j},j∈s.pend->j≠k:=fun hj e=>hnp (e▸hj);have hnw:k∉s.ws:=fun hm=>hnp (h.wp k hm);have hnw2:∀{j},j∈s.ws->j≠k:=fun hj=>hne (h.wp _ hj);have hws:(s.enter k).ws=k::s.ws:=rfl;have iE:∀{j},j∈s.pend->(s.enter k).idx j=s.idx j:=fun hj=>J4E _ _ (hne hj);have lE:∀{j},j∈s.pend->(s.enter k).low j=s.low j:=fun hj=>J4E _ _ (hne hj);have iK:(s.enter k).idx k=s.found+1:=J4D _ _ _;have lK:(s.enter k).low k=s.found+1:=J4D _ _ _;refine⟨h.rng,?_,?_,?_,?_,?_,?_,?_,?_,?_,?_,?_,?_,h.cmp,h.scc,h.rr,h.sep⟩
 . intro j hj;rcases List.mem_cons.1 hj with e|e
   . subst e;exact⟨hl,hk⟩
   . exact h.nl j e
 . intro j hj hjl;by_cases e:j=k
   . subst e;exact⟨fun _=>⟨by rw[iK];omega,hrt⟩,fun _=>List.mem_cons_self⟩
   . have e2:(s.enter k).idx j=s.idx j:=J4E _ _ e;rw[e2];show j∈k::s.pend↔_;rw[List.mem_cons];exact⟨fun q=>(h.pd j hj hjl).1 (q.resolve_left e),fun q=>.inr ((h.pd j hj hjl).2 q)⟩
 . show(k::s.pend).Pairwise _;rw[List.pairwise_cons];refine⟨fun j hj=>by rw[iE hj,iK];have:=h.le j hj;omega,h.srt.imp_of_mem fun ha hb q=>by rw[iE ha,iE hb];exact q⟩
 . intro j hj;rcases List.mem_cons.1 hj with e|e
   . subst e;rw[iK];exact Nat.le_refl _
   . rw[iE e];have:=h.le j e;show _<=s.found+1;omega
 . rw[hws,List.pairwise_cons];refine⟨fun j hj=>by rw[iE (h.wp j hj),iK];have:=h.le j (h.wp j hj);omega,h.wsrt.imp_of_mem fun ha hb q=>by rw[iE (h.wp _ ha),iE (h.wp _ hb)];exact q⟩
 . intro j hj;rw[hws] at hj;rcases List.mem_cons.1 hj with e|e
   . subst e;exact List.mem_cons_self
   . exact List.mem_cons_of_mem _ (h.wp j e)
 . show Q8f to ((k,0)::s.way);rcases hw with ⟨e,_⟩ | ⟨w,a,r,e,ht,_⟩
   . rw[e];trivial
   . have:=h.ch;rw[e] at this ⊢;exact⟨ht,this⟩
 . intro j hj;rcases List.mem_cons.1 hj with e|e
   . subst e;exact⟨j,List.mem_cons_self,Nat.le_refl _,fun _ _ q=>q,.refl j,Nat.le_refl _⟩
   . obtain⟨w,h1,h2,h3,h4,h5⟩:=h.own j e;refine⟨w,List.mem_cons_of_mem _ h1,by rw[iE (h.wp w h1),iE e];exact h2,fun w' hw' q=>?_,h4,by rw[lE (h.wp w h1),lE e];exact h5⟩;rcases List.mem_cons.1 hw' with e'|e'
     . subst e';rw[iK,iE e] at q;have:=h.le j e;omega
     . rw[iE (h.wp w' e'),iE (h.wp w h1)];rw[iE (h.wp w' e'),iE e] at q;exact h3 w' e' q
 . intro j hj;rcases List.mem_cons.1 hj with e|e
   . subst e;exact⟨by rw[iK,lK];exact Nat.le_refl _,j,List.mem_cons_self,by rw[iK,lK],.refl j⟩
   . obtain⟨h1,x,h2,h3,h4⟩:=h.lo j e;exact⟨by rw[iE e,lE e];exact h1,x,List.mem_cons_of_mem _ h2,by rw[iE h2,lE e];exact h3,h4⟩
 . intro j hj hn;rw[hws,List.mem_cons,not_or] at hn;rcases List.mem_cons.1 hj with e|e
   . exact(hn.1 e).elim
   . rw[iE e,lE e];exact h.fin j e hn.2
 . intro j hj i t hi ht;rcases List.mem_cons.1 hj with e|e
   . subst e;have:dn to (s.enter j).way j=0:=if_pos rfl;omega
   . have hd:dn to (s.enter k).way j=dn to s.way j:=if_neg (fun q=>hne e q.symm);rw[hd] at hi;rcases h.exm j e i t hi ht with q|q | ⟨q1,q2⟩|q|q
     . exact .inl q
     . exact .inr (.inl q)
     . refine .inr (.inr (.inl ?_));by_cases et:t=k
       . subst et;exact(q1 h0).elim
       . exact⟨by rw[show(s.enter k).idx t=s.idx t from J4E _ _ et];exact q1,by rw[show(s.enter k).idx t=s.idx t from J4E _ _ et,lE e];exact q2⟩
     . refine .inr (.inr (.inr (.inl ?_)));show abv ((k,0)::s.way) j t;cases hsw:s.way with
       | nil=>rw[hsw] at q;exact q.elim
       | cons p r =>
         obtain⟨w,a⟩:=p;rw[hsw] at q;exact .inr q
     . refine .inr (.inr (.inr (.inl ?_)));show abv ((k,0)::s.way) j t;rcases hw with ⟨_,e2⟩ | ⟨w,a,r,e2,_,e3⟩
       . rw[e2] at q;cases q
       . rw[e3] at q;cases q;rw[e2];exact .inl ⟨rfl,rfl⟩
 . intro j hj;obtain⟨q1,q2,q3⟩:=h.rtl j hj;refine⟨q1,q2,?_⟩;have:j≠k:=fun e=>q3 (e▸h0);rw[show(s.enter k).idx j=s.idx j from J4E _ _ this];exact q3
def S.back (s:S) (w t:Nat):S:={ s with low:=upd s.low w (min (s.low w) (s.idx t)) }
theorem Inv.back {s:S} {w a:Nat} {r:List (Nat×Nat)} (hw:s.way=(w,a)::r) {t:Nat} (h:Inv N to leg (some (w,t)) s) (ht:t∈to w) (hl:leg t=false) (h0:s.idx t≠0) (hr:s.rt t=none):Inv N to leg none (s.back w t):=by
 have hww:w∈s.ws:=by simp[S.ws,hw]
 have hwp:=h.wp w hww;have htN:=h.rng w (h.nl w hwp).2 t ht;have htp:=(h.pd t htN hl).2 ⟨h0,hr⟩;have lW:(s.back w t).low w=min (s.low w) (s.idx t):=J4D _ _ _;have lE:∀{j},j≠w->(s.back w t).low j=s.low j:=fun hj=>J4E _ _ hj;have lL:∀j,(s.back w t).low j<=s.low j:=fun j=>by
  by_cases e:j=w
  . subst e;rw[lW];omega
  . rw[lE e];exact Nat.le_refl _
 refine⟨h.rng,h.nl,h.pd,h.srt,h.le,h.wsrt,h.wp,h.ch,?_,?_,?_,?_,h.rtl,h.cmp,h.scc,h.rr,h.sep⟩
 . intro k hk;obtain⟨u,h1,h2,h3,h4,h5⟩:=h.own k hk;refine⟨u,h1,h2,h3,h4,?_⟩;by_cases e:k=w
   . have:u=w:=by
      have a1:=h3 w hww (by rw[e];exact Nat.le_refl _);have a2:s.idx u<=s.idx w:=by rw[<- e];exact h2
      exact Q1C h.srt (h.wp u h1) hwp (by omega)
     rw[this,e];exact Nat.le_refl _
   . rw[lE e];exact Nat.le_trans (lL u) h5
 . intro k hk;obtain⟨h1,j,h2,h3,h4⟩:=h.lo k hk;refine⟨Nat.le_trans (lL k) h1,?_⟩;by_cases e:k=w
   . subst e;rw[lW];by_cases q:s.low k<=s.idx t
     . exact⟨j,h2,by show s.idx j=_;rw[h3];omega,h4⟩
     . exact⟨t,htp,by show s.idx t=_;omega,.one ht hl⟩
   . rw[lE e];exact⟨j,h2,h3,h4⟩
 . intro k hk hn;have e:k≠w:=fun e=>hn (e▸hww);rw[lE e];exact h.fin k hk hn
 . intro k hk i u hi hu;rcases h.exm k hk i u hi hu with q|q | ⟨q1,q2⟩|q|q
   . exact .inl q
   . exact .inr (.inl q)
   . exact .inr (.inr (.inl ⟨q1,Nat.le_trans (lL k) q2⟩))
   . exact .inr (.inr (.inr (.inl q)))
   . cases q;exact .inr (.inr (.inl ⟨h0,by rw[lW];exact Nat.min_le_right _ _⟩))
theorem Q8K:∀{w:List (Nat×Nat)} {x y:Nat},abv w x y->x∈(w.tail).map (·.1)
 | [],_,_,h=>h.elim
 | [_],_,_,h=>h.elim
 | (t,b)::(k,c)::r,x,y,h=>by
   simp only[abv] at h;rcases h with ⟨e,_⟩|h
   . subst e;simp
   . have:=Q8K h;simp only[List.tail_cons,List.map_cons,List.mem_cons] at this ⊢;exact .inr this
def S.pop (s:S):S:=match s.way with
 | (w,_)::(p,b)::r=>{ s with way:=(p,b)::r,low:=upd s.low p (min (s.low p) (s.low w)) }
 | _=>{ s with way:=[] }
theorem head_max {s:S} (h:Inv N to leg none s) {w a:Nat} {r:List (Nat×Nat)} (hw:s.way=(w,a)::r):w∈s.ws/\w∈s.pend/\(∀u∈s.ws,s.idx u<=s.idx w)/\∀u∈r.map (·.1),s.idx u<s.idx w:=by
 have hww:w∈s.ws:=by simp[S.ws,hw]
 have hs:=h.wsrt;have e:s.ws=w::r.map (·.1):=by simp[S.ws,hw]
 rw[e,List.pairwise_cons] at hs;refine⟨hww,h.wp w hww,fun u hu=>?_,hs.1⟩;rw[e] at hu;rcases List.mem_cons.1 hu with q|q
 . rw[q];exact Nat.le_refl _
 . exact Nat.le_of_lt (hs.1 u q)
theorem way_two {s:S} (h:Inv N to leg none s) {w a:Nat} (hw:s.way=[(w,a)]):s.low w=s.idx w:=by
 obtain⟨h1,h2,h3,_⟩:=head_max h hw;obtain⟨l1,j,l2,l3,_⟩:=h.lo w h2;obtain⟨u,o1,o2,_⟩:=h.own j l2;have:u=w:=by
  have:u∈[w]:=by simpa[S.ws,hw] using o1
  simpa using this
 subst this;omega
theorem Inv.keep {s:S} (h:Inv N to leg none s) {w a p b:Nat} {r:List (Nat×Nat)} (hw:s.way=(w,a)::(p,b)::r) (ha:a=(to w).length) (hlt:s.low w<s.idx w):Inv N to leg none s.pop:=by
 obtain⟨m1,m2,m3,m4⟩:=head_max h hw;have e:s.pop={ s with way:=(p,b)::r,low:=upd s.low p (min (s.low p) (s.low w)) }:=by rw[S.pop,hw]
 have ews:s.ws=w::p::r.map (·.1):=by simp[S.ws,hw]
 have hpw:s.idx p<s.idx w:=m4 p (by simp);have hpne:p≠w:=fun q=>by rw[q] at hpw;omega
 have hps:p∈s.ws:=by rw[ews];simp
 have hpp:=h.wp p hps;have hch:=h.ch;rw[hw] at hch;have hRw:Rch to leg p w:=.one hch.1 (h.nl w m2).1;have lP:s.pop.low p=min (s.low p) (s.low w):=by rw[e];exact J4D _ _ _
 have lE:∀{j},j≠p->s.pop.low j=s.low j:=fun hj=>by rw[e];exact J4E _ _ hj
 have lL:∀j,s.pop.low j<=s.low j:=fun j=>by
  by_cases q:j=p
  . subst q;rw[lP];exact Nat.min_le_left _ _
  . rw[lE q];exact Nat.le_refl _
 have iE:s.pop.idx=s.idx:=by rw[e]
 have pE:s.pop.pend=s.pend:=by rw[e]
 have rE:s.pop.rt=s.rt:=by rw[e]
 have wE:s.pop.way=(p,b)::r:=by rw[e]
 have wsE:s.pop.ws=p::r.map (·.1):=by rw[S.ws,wE];rfl
 have hsub:∀u∈s.pop.ws,u∈s.ws:=fun u hu=>by rw[wsE] at hu;rw[ews];exact List.mem_cons_of_mem _ hu
 have hback:∀u∈s.ws,u≠w->u∈s.pop.ws:=fun u hu hne=>by
  rw[ews] at hu;rw[wsE];exact(List.mem_cons.1 hu).resolve_left hne
 have hwn:w∉s.pop.ws:=fun q=>by
  rw[wsE] at q;have:=m4 w (by simpa using q);omega
 have hsrt:=h.wsrt;rw[ews,List.pairwise_cons] at hsrt;have hpmax:∀u∈s.pop.ws,s.idx u<=s.idx p:=fun u hu=>by
  rw[wsE] at hu;rcases List.mem_cons.1 hu with q|q
  . rw[q];exact Nat.le_refl _
  . exact Nat.le_of_lt ((List.pairwise_cons.1 hsrt.2).1 u q)
 refine⟨h.rng,by rw[pE];exact h.nl,by rw[pE,iE,rE];exact h.pd,by rw[pE,iE];exact h.srt,?_,?_,?_,?_,?_,?_,?_,?_,by rw[rE,iE];exact h.rtl,by rw[rE];exact h.cmp,by rw[rE];exact h.scc,by rw[rE];exact h.rr,by rw[rE];exact h.sep⟩
 . rw[pE,iE,e];exact h.le
 . rw[wsE,iE];exact hsrt.2
 . intro u hu;rw[pE];exact h.wp u (hsub u hu)
 . rw[wE];exact hch.2
 . intro k hk;rw[pE] at hk;rw[iE];obtain⟨u,h1,h2,h3,h4,h5⟩:=h.own k hk;by_cases eu:u=w
   . subst eu;refine⟨p,by rw[wsE];simp,by omega,fun w' hw' _=>hpmax w' hw',hRw.trans h4,?_⟩;have:k≠p:=fun q=>by subst q;omega
     rw[lP,lE this];exact Nat.le_trans (Nat.min_le_right _ _) h5
   . refine⟨u,hback u h1 eu,h2,fun w' hw' q=>h3 w' (hsub w' hw') q,h4,?_⟩;by_cases ek:k=p
     . have:u=k:=by
        have a1:=h3 k (by rw[ek];exact hps) (Nat.le_refl _);exact Q1C h.srt (h.wp u h1) hk (by omega)
       rw[this];exact Nat.le_refl _
     . rw[lE ek];exact Nat.le_trans (lL u) h5
 . intro k hk;rw[pE] at hk ⊢;rw[iE];obtain⟨h1,j,h2,h3,h4⟩:=h.lo k hk;refine⟨Nat.le_trans (lL k) h1,?_⟩;by_cases ek:k=p
   . subst ek;rw[lP];by_cases q:s.low k<=s.low w
     . exact⟨j,h2,by rw[h3];omega,h4⟩
     . obtain⟨_,j',j2,j3,j4⟩:=h.lo w m2;exact⟨j',j2,by rw[j3];omega,hRw.trans j4⟩
   . rw[lE ek];exact⟨j,h2,h3,h4⟩
 . intro k hk hn;rw[pE] at hk;rw[iE];have ek:k≠p:=fun q=>hn (by rw[wsE,q];simp);rw[lE ek];by_cases q:k=w
   . rw[q];exact hlt
   . exact h.fin k hk (fun q2=>hn (hback k q2 q))
 . intro k hk i t hi ht;rw[pE] at hk;rw[iE,rE,wE];rw[wE] at hi;have hi':i<dn to s.way k:=by
    rw[hw,dn];by_cases q:w=k
    . subst q;rw[if_pos rfl,ha]
      rwa[Q7M (by have:=hwn;rw[S.ws,wE] at this;exact this)] at hi
    . rw[if_neg q];exact hi
   rcases h.exm k hk i t hi' ht with q|q | ⟨q1,q2⟩|q|q
   . exact .inl q
   . exact .inr (.inl q)
   . exact .inr (.inr (.inl ⟨q1,Nat.le_trans (lL k) q2⟩))
   . rw[hw] at q;rcases q with ⟨q1,q2⟩|q
     . subst q1 q2;refine .inr (.inr (.inl ⟨((h.pd t (h.nl t m2).2 (h.nl t m2).1).1 m2).1,?_⟩));rw[lP];have:=(h.lo t m2).1;omega
     . exact .inr (.inr (.inr (.inl q)))
   . cases q
def S.cut (s:S) (l:List Nat) (w:Nat) (rest:List Nat):S:={ s with pend:=rest,rt:=fun k=>if k∈w::l then some w else s.rt k }
theorem Q55 {s:S} (h:Inv N to leg none s) {k u:Nat} (hk:s.rt k≠none) (hr:Rch to leg k u):s.rt u≠none:=by
 induction hr with
 | refl=>exact hk
 | step _ ht hl ih=>exact h.cmp _ ih _ ht hl
theorem Inv.done {s:S} (h:Inv N to leg none s) {w a:Nat} {r:List (Nat×Nat)} (hw:s.way=(w,a)::r) (ha:a=(to w).length) (hlow:s.low w=s.idx w) {l rest:List Nat} (hp:s.pend=l++w::rest) :
 Inv N to leg none (s.pop.cut l w rest):=by
 obtain⟨m1,m2,m3,m4⟩:=head_max h hw;have ews:s.ws=w::r.map (·.1):=by simp[S.ws,hw]
 have hs:=h.srt;rw[hp,List.pairwise_append] at hs;obtain⟨_,s2,s3⟩:=hs;rw[List.pairwise_cons] at s2;have big:∀k∈l,s.idx w<s.idx k:=fun k hk=>s3 k hk w List.mem_cons_self;have small:∀k∈rest,s.idx k<s.idx w:=s2.1;have memP:∀k,k∈s.pend↔k∈w::l\/k∈rest:=fun k=>by
  rw[hp];simp only[List.mem_append,List.mem_cons];constructor
  . rintro (q|q|q)
    . exact .inl (.inr q)
    . exact .inl (.inl q)
    . exact .inr q
  . rintro ((q|q)|q)
    . exact .inr (.inl q)
    . exact .inl q
    . exact .inr (.inr q)
 have geM:∀k∈w::l,s.idx w<=s.idx k:=fun k hk=>by
  rcases List.mem_cons.1 hk with q|q
  . rw[q];exact Nat.le_refl _
  . exact Nat.le_of_lt (big k q)
 have ofGe:∀k∈s.pend,s.idx w<=s.idx k->k∈w::l:=fun k hk q=>by
  rcases (memP k).1 hk with q2|q2
  . exact q2
  . have:=small k q2;omega
 have notR:∀k∈rest,k∉w::l:=fun k hk q=>by have:=small k hk;have:=geM k q;omega
 have inP:∀k∈w::l,k∈s.pend:=fun k hk=>(memP k).2 (.inl hk);have rtM:∀k∈s.pend,s.rt k=none:=fun k hk=>((h.pd k (h.nl k hk).2 (h.nl k hk).1).1 hk).2
 -- the members are led to by w,and lead to it
 have c1:∀k∈w::l,Rch to leg w k/\s.idx w<=s.low k:=fun k hk=>by
  obtain⟨u,h1,h2,h3,h4,h5⟩:=h.own k (inP k hk);have a1:=h3 w m1 (geM k hk);have a2:=m3 u h1;have:u=w:=Q1C h.srt (h.wp u h1) m2 (by omega);subst this;exact⟨h4,by omega⟩
 have offW:∀k∈l,k∉s.ws:=fun k hk q=>by have:=m3 k q;have:=big k hk;omega
 have c2:∀m k,s.idx k=m->k∈w::l->Rch to leg k w:=by
  intro m
  induction m using Nat.strongRecOn with
  | _ m ih =>
    intro k e hk;rcases List.mem_cons.1 hk with q|q
    . rw[q];exact .refl w
    . have hf:=h.fin k (inP k hk) (offW k q);obtain⟨_,j,j2,j3,j4⟩:=h.lo k (inP k hk);have:=(c1 k hk).2;exact j4.trans (ih (s.idx j) (by omega) j rfl (ofGe j j2 (by omega)))
 have c3:∀k∈w::l,∀t∈to k,leg t=false->s.rt t≠none\/t∈w::l:=fun k hk t ht hl=>by
  obtain⟨i,hi,ei⟩:=List.getElem_of_mem ht;have hd:dn to s.way k=(to k).length:=by
   rcases List.mem_cons.1 hk with q|q
   . subst q;rw[hw,dn,if_pos rfl,ha]
   . exact Q7M (offW k q)
  rcases h.exm k (inP k hk) i t (by rw[hd];exact hi) (by rw[List.getElem?_eq_getElem hi,ei]) with q|q | ⟨q1,q2⟩|q|q
  . rw[hl] at q;cases q
  . exact .inl q
  . by_cases hr:s.rt t=none
    . right;have htp:=(h.pd t (h.rng k (h.nl k (inP k hk)).2 t ht) hl).2 ⟨q1,hr⟩;have:=(c1 k hk).2;exact ofGe t htp (by omega)
    . exact .inl hr
  . exfalso;have hm:=Q8K q;rw[hw] at hm;have:=m4 k hm;have:=geM k hk;omega
  . cases q
 -- what is told on changes nothing
 have lowE:∀j,s.pop.low j=s.low j:=fun j=>by
  rw[S.pop];split
  . rename_i w' a' p b r' e;rw[hw] at e;cases e;show upd s.low p (min (s.low p) (s.low w)) j=s.low j;by_cases q:j=p
    . subst q;rw[J4D];have h1:=m4 j (by simp);have h2:=(h.lo j (h.wp j (by rw[ews];simp))).1;omega
    . exact J4E _ _ q
  . rfl
 have idxE:s.pop.idx=s.idx:=by rw[S.pop];split<;>rfl
 have rtE:s.pop.rt=s.rt:=by rw[S.pop];split<;>rfl
 have fE:s.pop.found=s.found:=by rw[S.pop];split<;>rfl
 have wayE:s.pop.way=r:=by
  rw[S.pop];split
  . rename_i w' a' p b r' e;rw[hw] at e;cases e;rfl
  . rename_i hno;cases r with
    | nil=>rfl
    | cons x r =>
      obtain⟨p,b⟩:=x;exact(hno w a p b r hw).elim
 have rtN:∀k,(s.pop.cut l w rest).rt k=if k∈w::l then some w else s.rt k:=fun k=>by
  show(if k∈w::l then some w else s.pop.rt k)=_;rw[rtE]
 have wsN:(s.pop.cut l w rest).ws=r.map (·.1):=by show s.pop.way.map (·.1)=_;rw[wayE]
 have idxN:(s.pop.cut l w rest).idx=s.idx:=idxE;have lowN:∀j,(s.pop.cut l w rest).low j=s.low j:=lowE;have wayN:(s.pop.cut l w rest).way=r:=wayE;have restP:∀k∈rest,k∈s.pend:=fun k hk=>(memP k).2 (.inr hk);have toR:∀u∈s.ws,u≠w->u∈r.map (·.1):=fun u hu hne=>by rw[ews] at hu;exact(List.mem_cons.1 hu).resolve_left hne
 have ofR:∀u∈r.map (·.1),u∈s.ws:=fun u hu=>by rw[ews];exact List.mem_cons_of_mem _ hu
 have rest_of:∀k∈s.pend,s.idx k<s.idx w->k∈rest:=fun k hk q=>by
  rcases (memP k).1 hk with q2|q2
  . have:=geM k q2;omega
  . exact q2
 have hsrt:=h.wsrt;rw[ews,List.pairwise_cons] at hsrt;refine⟨h.rng,fun k hk=>h.nl k (restP k hk),?_,?_,?_,?_,?_,?_,?_,?_,?_,?_,?_,?_,?_,?_,?_⟩
 . intro k hk hl;rw[idxN,rtN];constructor
   . intro q;have q:k∈rest:=q;rw[if_neg (notR k q)];exact(h.pd k hk hl).1 (restP k q)
   . rintro⟨q1,q2⟩;split at q2
     . cases q2
     . rename_i hn;exact((memP k).1 ((h.pd k hk hl).2 ⟨q1,q2⟩)).resolve_left hn
 . rw[idxN];exact s2.2
 . intro k hk;rw[idxN];show _<=s.pop.found;rw[fE];exact h.le k (restP k hk)
 . rw[wsN,idxN];exact hsrt.2
 . intro u hu;rw[wsN] at hu;exact rest_of u (h.wp u (ofR u hu)) (m4 u hu)
 . rw[wayN];have:=h.ch;rw[hw] at this;cases r with
   | nil=>trivial
   | cons x r=>obtain⟨p,b⟩:=x;exact this.2
 . intro k hk;have hk:k∈rest:=hk;rw[wsN,idxN];obtain⟨u,h1,h2,h3,h4,h5⟩:=h.own k (restP k hk);have:=small k hk;have une:u≠w:=fun q=>by rw[q] at h2;omega
   exact⟨u,toR u h1 une,h2,fun w' hw' q=>h3 w' (ofR w' hw') q,h4,by rw[lowN,lowN];exact h5⟩
 . intro k hk;have hk:k∈rest:=hk;rw[idxN,lowN];obtain⟨h1,j,h2,h3,h4⟩:=h.lo k (restP k hk);have:=small k hk;exact⟨h1,j,rest_of j h2 (by omega),h3,h4⟩
 . intro k hk hn;have hk:k∈rest:=hk;rw[wsN] at hn;rw[idxN,lowN];refine h.fin k (restP k hk) (fun q=>hn (toR k q (fun e=>?_)));have:=small k hk;rw[e] at this;omega
 . intro k hk i t hi ht;have hk:k∈rest:=hk;have kne:w≠k:=fun q=>by have:=small k hk;rw[<- q] at this;omega
   rw[wayN] at hi ⊢;rw[idxN,lowN,rtN];rcases h.exm k (restP k hk) i t (by rw[hw,dn,if_neg kne];exact hi) ht with q|q|q|q|q
   . exact .inl q
   . refine .inr (.inl ?_);split
     . simp
     . exact q
   . exact .inr (.inr (.inl q))
   . rw[hw] at q;cases r with
     | nil=>exact q.elim
     | cons x r =>
       obtain⟨p,b⟩:=x;rcases q with ⟨q1,q2⟩|q
       . refine .inr (.inl ?_);rw[if_pos (by rw[q2];exact List.mem_cons_self)];simp
       . exact .inr (.inr (.inr (.inl q)))
   . cases q
 . intro k hk;rw[idxN];rw[rtN] at hk;split at hk
   . rename_i hm;have hkp:=inP k hm;obtain⟨a1,a2⟩:=h.nl k hkp;exact⟨a1,a2,((h.pd k a2 a1).1 hkp).1⟩
   . exact h.rtl k hk
 . intro k hk t ht hl;rw[rtN] at hk ⊢;split at hk
   . rename_i hm;split
     . simp
     . rename_i hn;exact(c3 k hm t ht hl).resolve_right hn
   . split
     . simp
     . exact h.cmp k hk t ht hl
 . intro k k' q h1 h2;rw[rtN] at h1 h2;split at h1
   . rename_i hm;cases h1;split at h2
     . rename_i hm';exact(c2 _ k rfl hm).trans (c1 k' hm').1
     . exfalso;have:=h.rr k' w h2;rw[rtM w m2] at this;cases this
   . split at h2
     . cases h2;exfalso;have:=h.rr k w h1;rw[rtM w m2] at this;cases this
     . exact h.scc k k' q h1 h2
 . intro k q h1;rw[rtN] at h1 ⊢;split at h1
   . cases h1;rw[if_pos List.mem_cons_self]
   . split
     . rename_i hm;have:=h.rr k q h1;rw[rtM q (inP q hm)] at this;cases this
     . exact h.rr k q h1
 . intro k k' q q' h1 h2 r1 r2;rw[rtN] at h1 h2;split at h1
   . rename_i hm;cases h1;split at h2
     . cases h2;rfl
     . exfalso;have:=Q55 h (by rw[h2];simp) r2;exact this (rtM k (inP k hm))
   . split at h2
     . rename_i hm;exfalso;have:=Q55 h (by rw[h1];simp) r1;exact this (rtM k' (inP k' hm))
     . exact h.sep k k' q q' h1 h2 r1 r2
theorem Inv.start (hr:∀k,k<N->∀t∈to k,t<N):Inv N to leg none ⟨fun _=>0,fun _=>0,fun _=>none,0,[],[]⟩ :=
 ⟨hr,fun k hk=>(by simp at hk),fun k _ _=>by simp,List.Pairwise.nil,fun k hk=>(by simp at hk),List.Pairwise.nil,fun w hw=>(by simp[S.ws] at hw),trivial,fun k hk=>(by simp at hk),fun k hk=>(by simp at hk),fun k hk=>(by simp at hk),fun k hk=>(by simp at hk),
   fun k hk=>(hk rfl).elim,fun k hk=>(hk rfl).elim,fun k k' r h=>(by cases h),fun k r h=>(by cases h),fun k k' r r' h=>(by cases h)⟩
theorem Inv.idle {s:S} (h:Inv N to leg none s) (hw:s.way=[]):s.pend=[]/\∀k,k<N->leg k=false->s.idx k≠0->∃r,s.rt k=some r:=by
 have hp:s.pend=[]:=by
  cases e:s.pend with
  | nil=>rfl
  | cons k r =>
    obtain⟨u,hu,_⟩:=h.own k (by rw[e];exact List.mem_cons_self);simp[S.ws,hw] at hu
 refine⟨hp,fun k hk hl h0=>?_⟩;cases e:s.rt k with
 | some r=>exact⟨r,rfl⟩
 | none =>
   have:=(h.pd k hk hl).2 ⟨h0,e⟩;rw[hp] at this;simp at this
end Go.Plain.Tj
namespace Go.Proofs.YtlpfphlbghdokaaGreatDoor
open Go.Eng Go.Plain
set_option maxRecDepth 100000
set_option linter.unusedVariables false
def rtI (r:Nat->Option Nat) (i:Nat):Int:=match r i with
 | none=>-1
 | some a=>a
def vRt (r:Nat->Option Nat):Nat->Nat->V:=fun i _=>.int .i64 (rtI r i)
def wkC (s:Tsy) (lg:Nat->Bool) (x:Tj.S):List V:=[.fz s.n 1 false (vEn s),.fz s.n 1 false (Q9g s),blV s.n lg,.vec 1 1 0 s.n,.vec 2 1 0 s.n,.vec 3 1 0 s.n,.int .i64 x.found,.vec 4 1 0 x.pend.length]
def X5J (s:Tsy) (lg:Nat->Bool) (x:Tj.S):Own:=[(0,.cells (wkC s lg x)),(1,.vec s.n 1 (vEt x.idx)),(2,.vec s.n 1 (vEt x.low)),(3,.vec s.n 1 (vRt x.rt)),(4,.vec x.pend.length 1 (vQ x.pend.reverse))]
theorem Q7n (h:Nat) (q:List Nat):gQ (h::q).reverse q.length=h:=by
 rw[List.reverse_cons,Q1Y,if_neg (by rw[List.length_reverse];omega),if_pos (by rw[List.length_reverse])]
theorem X3Q (h:Nat) (q:List Nat) {i:Nat} (hi:i<q.length):gQ (h::q).reverse i=gQ q.reverse i:=by
 rw[List.reverse_cons,Q1Y,if_pos (by rw[List.length_reverse];exact hi)]
theorem Q5o (h:Nat) (q:List Nat) (i j:Nat) (hi:i<q.length):VLe (vQ (h::q).reverse i j) (vQ q.reverse i j) :=
 VLe.of_eq (by rw[vQ,vQ,X3Q h q hi])
theorem Q5g (r r':Nat->Option Nat) (k k':Nat) (w:Int) (hk:k'=k) (hr:∀i,rtI r' i=if i=k then w else rtI r i) (i j:Nat) (hj:j<1):VLe (J0L (vRt r) k' 0 [.int .i64 w] i j) (vRt r' i j):=by
 obtain rfl:j=0:=by omega
 subst hk;apply VLe.of_eq;rw[vRt,hr];by_cases h:i=k'
 . subst h;simp[J0L]
 . simp[J0L,vRt,h]
def ctS (x:Tj.S) (w:Nat) (rest l1 l2:List Nat):Tj.S:={ x with pend:=l2++w::rest,rt:=fun k=>if k∈l1 then some w else x.rt k }
theorem X6A (r:Nat->Option Nat) (w h:Nat) (l:List Nat) (i:Nat):rtI (fun k=>if k∈l++[h] then some w else r k) i=if i=h then (w:Int) else rtI (fun k=>if k∈l then some w else r k) i:=by
 by_cases e:i=h
 . subst e;simp[rtI]
 . by_cases q:i∈l
   . simp[rtI,q,e]
   . simp[rtI,q,e]
theorem X6B (r:Nat->Option Nat) (w:Nat) (l:List Nat) (i:Nat):rtI (fun k=>if k∈w::l then some w else r k) i=if i=w then (w:Int) else rtI (fun k=>if k∈l then some w else r k) i:=by
 by_cases e:i=w
 . subst e;simp[rtI]
 . by_cases q:i∈l
   . simp[rtI,q,e]
   . simp[rtI,q,e]
set_option maxHeartbeats 8000000 in
theorem J5S (s:Tsy) (n2:s.n<=32768) (lg:Nat->Bool) (x:Tj.S) (w:Nat) (l rest:List Nat) (hp:x.pend=l++w::rest) (hnd:w∉l) (hlt:∀k∈x.pend,k<s.n) (hln:x.pend.length<=32768) :
 J0J Tryz.prog 122 [.loc 0 0,.int .i64 w] (X5J s lg x) [5,6,7,8,9,10,11,12,13,14,15,16,17,18,19,20,21,22,23,24,25,26,27,28,29] fun v own' _=>v=.tup []/\own'=X5J s lg (x.cut l w rest):=by
 have e0:X5J s lg x=X5J s lg (ctS x w rest [] l):=by
  obtain⟨a,b,c,d,e,f⟩:=x;simp only at hp;subst hp;simp[ctS]
 rw[e0];have hln2:l.length+rest.length<32768:=by
  have:=hln;rw[hp,List.length_append,List.length_cons] at this;omega
 refine J1q (J3P ?_);refine J0d J0b Tryz.func122 rfl Y0g X9B rfl ?_
 repeat' ((conv=>whnf);first|fail)
 all_goals (conv=>whnf)
 refine J1v J0b [0,1] [] [5,6,7,8,9,10,11,12,13,14,15,16,17,18,19,20,21,22,23,24,25,26,27,28,29] [0,1,2,3,4] (fun _:List Nat×List Nat=>[]) (fun y=>X5J s lg (ctS x w rest y.1 y.2)) (fun m y=>m=y.2.length/\l=y.1++y.2) l.length ([],l) ⟨rfl,rfl⟩ rfl (fun _=>rfl) ?_ ?_
 . exact J0k (fun _ _=>[(0,some 0),(1,some 1),(2,some 2),(3,some 3),(4,some 4)])
 rintro m y ⟨hm,hl⟩;obtain⟨z,hz⟩:∃z,ctS x w rest y.1 y.2=z:=⟨_,rfl⟩;have z1:z.idx=x.idx:=by subst hz;rfl
 have z2:z.low=x.low:=by subst hz;rfl
 have z3:z.found=x.found:=by subst hz;rfl
 have z4:z.rt=fun k=>if k∈y.1 then some w else x.rt k:=by subst hz;rfl
 have z5:z.pend=y.2++w::rest:=by subst hz;rfl
 simp only[hz];cases hy:y.2 with
 | nil =>
   rw[hy,List.nil_append] at z5;rw[hy,List.append_nil] at hl;have hw:w<s.n:=hlt w (by rw[hp];simp);have hll:z.pend.length=rest.length+1:=by rw[z5];rfl
   have hk:gQ z.pend.reverse (0+rest.length)=w:=by rw[Nat.zero_add,z5];exact Q7n w rest
   repeat' ((conv=>whnf);first|(refine Ix.mk rest.length (by omega) (by omega) ?_)|(refine Ix.mk w (by rw[hk]) hw ?_)|(refine Br.dec ?_ ?_<;>intro _<;>try omega)|(refine Br.nble ?_ ?_<;>intro _<;>try omega)|(refine Ar.i64 (by omega) (by omega) ?_)|(refine Bd.int (by omega) (by omega) ?_)|(refine Ltn.mk (by omega) ?_))
   all_goals (conv=>whnf)
   exact⟨_,J1A.refl _,J1m (fun _=>[(0,some 0),(1,some 1),(2,some 2),(3,some 3),(4,some 4)]) _ _ ⟨rfl,rfl⟩ (J0a.kf rfl) (by repeat' (first|exact J0a.vec rfl rfl (show((z.pend.length:Int)-1).toNat-0=rest.length by omega)|exact J0a.int (by rw[z3];rfl)|(refine⟨show rest.length<=z.pend.length by omega,rfl,fun i j hi hj=>?_⟩)|exact VLe.of_eq (by rw[z1];rfl)|exact VLe.of_eq (by rw[z2];rfl)|exact Q5g _ _ _ _ _ (Nat.zero_add _) (fun i=>by rw[z4,<- hl];exact X6B x.rt w l i) _ _ hj|(rw[z5];exact Q5o w rest _ _ hi)|exact True.intro|(refine⟨⟨_,rfl,?_⟩,?_⟩)|exact J0a.kf rfl|exact J0a.vec rfl rfl rfl|(refine⟨Nat.le_refl _,rfl,fun i j hi hj=>?_⟩)|(refine And.intro ?_ ?_))) rfl⟩
 | cons h t =>
   rw[hy,List.cons_append] at z5;rw[hy] at hl;have hh:h<s.n:=hlt h (by rw[hp,hl];simp);have hne:h≠w:=fun e=>hnd (by rw[hl,e];simp);have hll:z.pend.length=(t++w::rest).length+1:=by rw[z5];rfl
   have hlen:(t++w::rest).length+y.1.length=l.length+rest.length:=by rw[hl];simp;omega
   have hk:gQ z.pend.reverse (0+(t++w::rest).length)=h:=by rw[Nat.zero_add,z5];exact Q7n h _
   repeat' ((conv=>whnf);first|(refine Ix.mk (t++w::rest).length (by omega) (by omega) ?_)|(refine Ix.mk h (by rw[hk]) hh ?_)|(refine Br.dec ?_ ?_<;>intro _<;>try omega)|(refine Br.nble ?_ ?_<;>intro _<;>try omega)|(refine Ar.i64 (by omega) (by omega) ?_)|(refine Bd.int (by omega) (by omega) ?_)|(refine Ltn.mk (by omega) ?_))
   all_goals (conv=>whnf)
   refine⟨t.length,(y.1++[h],t),by rw[hm,hy];exact Nat.lt_succ_self _,⟨rfl,by rw[hl];simp⟩,?_⟩;refine J0f (fun _ _=>[(0,some 0),(1,some 1),(2,some 2),(3,some 3),(4,some 4)]) ?_ ?_ rfl
   . repeat' (first|exact True.intro|(refine⟨⟨_,rfl,?_⟩,?_⟩)|exact J0a.kf rfl|exact J0a.loc rfl)
   . repeat' (first|exact J0a.vec rfl rfl (show((z.pend.length:Int)-1).toNat-0=(t++w::rest).length by omega)|exact J0a.int (by rw[z3];rfl)|(refine⟨show(t++w::rest).length<=z.pend.length by omega,rfl,fun i j hi hj=>?_⟩)|exact VLe.of_eq (by rw[z1];rfl)|exact VLe.of_eq (by rw[z2];rfl)|exact Q5g _ _ _ _ _ (Nat.zero_add _) (fun i=>by rw[z4];exact X6A x.rt w h y.1 i) _ _ hj|(rw[z5];exact Q5o h _ _ _ hi)|exact True.intro|(refine⟨⟨_,rfl,?_⟩,?_⟩)|exact J0a.kf rfl|exact J0a.vec rfl rfl rfl|(refine⟨Nat.le_refl _,rfl,fun i j hi hj=>?_⟩)|(refine And.intro ?_ ?_))
end Go.Proofs.YtlpfphlbghdokaaGreatDoor
namespace Go.Proofs.YtlpfphlbghdokaaGreatDoor
open Go.Eng Go.Plain
set_option maxRecDepth 100000
set_option linter.unusedVariables false
theorem J9X {f f':Nat->Nat}:∀n,(∀j,j<n->f' j=f j)->J7H f' n=J7H f n
 | 0,_=>rfl
 | n+1,h=>by rw[J7H,J7H,J9X n (fun j hj=>h j (by omega)),h n (by omega)]
theorem J8T {f f':Nat->Nat} {k:Nat} (h:∀j,j≠k->f' j=f j):∀n,k<n->J7H f' n+f k=J7H f n+f' k
 | 0,hk=>by omega
 | n+1,hk=>by
   by_cases e:k=n
   . subst e;have:=J9X (f:=f) (f':=f') k (fun j hj=>h j (by omega));rw[J7H,J7H,this];omega
   . have h1:=J8T h n (by omega);have h2:=h n (fun q=>e q.symm);rw[J7H,J7H,h2];omega
def unW (s:Tsy) (x:Tj.S):Nat:=J7H (fun j=>if x.idx j=0 then 1 else 0) s.n
def wtW (s:Tsy) (x:Tj.S):Nat:=J7H (fun j=>if x.idx j=0 then (s.ar j).length+2 else 0) s.n
def wyW (s:Tsy):List (Nat×Nat)->Nat
 | []=>0
 | p::r=>((s.ar p.1).length-p.2+1)+wyW s r
def meW (s:Tsy) (x:Tj.S):Nat:=wtW s x+wyW s x.way
theorem J1y (x:Tj.S) (k j:Nat):(x.enter k).idx j=if j=k then x.found+1 else x.idx j:=rfl
theorem Q2G (s:Tsy) (x:Tj.S) {k:Nat} (hk:k<s.n) (h0:x.idx k=0):unW s (x.enter k)+1=unW s x:=by
 have h:=J8T (f:=fun j=>if x.idx j=0 then 1 else 0) (f':=fun j=>if (x.enter k).idx j=0 then 1 else 0) (k:=k) (fun j hj=>by simp only[J1y,if_neg hj]) s.n hk;simp only[J1y,if_pos h0,if_true] at h;rw[unW,unW];simp only[J1y];rw[if_neg (by omega)] at h;omega
theorem Q8Y (s:Tsy) (x:Tj.S) {k:Nat} (hk:k<s.n) (h0:x.idx k=0):wtW s (x.enter k)+((s.ar k).length+2)=wtW s x:=by
 have h:=J8T (f:=fun j=>if x.idx j=0 then (s.ar j).length+2 else 0) (f':=fun j=>if (x.enter k).idx j=0 then (s.ar j).length+2 else 0) (k:=k) (fun j hj=>by simp only[J1y,if_neg hj]) s.n hk;simp only[J1y,if_pos h0,if_true] at h;rw[wtW,wtW];simp only[J1y];rw[if_neg (by omega)] at h;omega
theorem J79 {l:List Nat} {n:Nat} (h:l.Nodup) (hl:∀k∈l,k<n):l.length<=n:=by
 have:=List.Nodup.length_le_of_subset h (fun a ha=>List.mem_range.2 (hl a ha))
 rwa[List.length_range] at this
theorem J77 {N:Nat} {to:Nat->List Nat} {lg:Nat->Bool} {ex:Option (Nat×Nat)} {x:Tj.S} (h:Tj.Inv N to lg ex x):x.pend.Nodup:=h.srt.imp fun q e=>by subst e;omega
theorem Q7a {N:Nat} {to:Nat->List Nat} {lg:Nat->Bool} {ex:Option (Nat×Nat)} {x:Tj.S} (h:Tj.Inv N to lg ex x):x.pend.length<=N/\x.way.length<=N:=by
 refine⟨J79 (J77 h) (fun k hk=>(h.nl k hk).2),?_⟩;have h1:x.ws.Nodup:=h.wsrt.imp fun q e=>by subst e;omega
 have:=J79 h1 (fun k hk=>(h.nl k (h.wp k hk)).2)
 rwa[Tj.S.ws,List.length_map] at this
structure WkI (s:Tsy) (lg:Nat->Bool) (k:Nat) (x0 x:Tj.S):Prop where
 inv:Tj.Inv s.n s.to lg none x
 cnt:x.found+unW s x<=s.n
 wok:∀p∈x.way,p.2<=(s.ar p.1).length
 mono:∀j,x0.idx j≠0->x.idx j≠0
 has:x.idx k≠0
variable {s:Tsy} {lg:Nat->Bool} {k0:Nat} {x0 x:Tj.S}
theorem WkI.start (hI:Tj.Inv s.n s.to lg none x0) (hw:x0.way=[]) (hc:x0.found+unW s x0<=s.n) (hk:k0<s.n) (hl:lg k0=false) (h0:x0.idx k0=0):WkI s lg k0 x0 (x0.enter k0):=by
 have hu:=Q2G s x0 hk h0;refine⟨hI.enter hk hl h0 (.inl ⟨hw,rfl⟩),?_,fun p hp=>?_,fun j hj=>?_,?_⟩
 . show x0.found+1+_<=_;omega
 . have hp:p∈(k0,0)::x0.way:=hp;rw[hw,List.mem_singleton] at hp;subst hp;exact Nat.zero_le _
 . rw[J1y];split<;>omega
 . rw[J1y,if_pos rfl];omega
theorem Q2I (s:Tsy) {w a:Nat} (ha:a<(s.ar w).length):(s.to w)[a]?=some (gA (s.ar w) a).2:=by
 rw[Tsy.to,List.getElem?_map,gA,List.getD_eq_getElem?_getD,List.getElem?_eq_getElem ha];rfl
theorem X1k (s:Tsy) {w a:Nat} (ha:a<(s.ar w).length):(gA (s.ar w) a).2∈s.to w:=List.mem_of_getElem? (Q2I s ha)
theorem WkI.skip (h:WkI s lg k0 x0 x) {w a:Nat} {r:List (Nat×Nat)} (hw:x.way=(w,a)::r) (ha:a<(s.ar w).length) (ht:lg (gA (s.ar w) a).2=true\/x.rt (gA (s.ar w) a).2≠none) :
 WkI s lg k0 x0 { x with way:=(w,a+1)::r }/\meW s { x with way:=(w,a+1)::r }<meW s x:=by
 refine⟨⟨(h.inv.bump hw (Q2I s ha)).skip ht,h.cnt,fun p hp=>?_,h.mono,h.has⟩,?_⟩
 . rcases List.mem_cons.1 hp with e|e
   . subst e;exact ha
   . exact h.wok p (by rw[hw];exact List.mem_cons_of_mem _ e)
 . show wtW s x+wyW s ((w,a+1)::r)<wtW s x+wyW s x.way;rw[hw,wyW,wyW];simp only;omega
theorem WkI.new (h:WkI s lg k0 x0 x) {w a:Nat} {r:List (Nat×Nat)} (hw:x.way=(w,a)::r) (ha:a<(s.ar w).length) (htn:(gA (s.ar w) a).2<s.n) (hl:lg (gA (s.ar w) a).2=false) (h0:x.idx (gA (s.ar w) a).2=0) :
 WkI s lg k0 x0 (Tj.S.enter { x with way:=(w,a+1)::r } (gA (s.ar w) a).2)/\meW s (Tj.S.enter { x with way:=(w,a+1)::r } (gA (s.ar w) a).2)<meW s x:=by
 have hb:=h.inv.bump hw (Q2I s ha);have hu:=Q2G s { x with way:=(w,a+1)::r } htn h0;have hv:=Q8Y s { x with way:=(w,a+1)::r } htn h0;have hu2:unW s { x with way:=(w,a+1)::r }=unW s x:=rfl;have hv2:wtW s { x with way:=(w,a+1)::r }=wtW s x:=rfl;have hc:=h.cnt;refine⟨⟨hb.enter htn hl h0 (.inr ⟨w,a+1,r,rfl,X1k s ha,rfl⟩),?_,fun p hp=>?_,fun j hj=>?_,?_⟩,?_⟩
 . show x.found+1+_<=_;omega
 . have hp:p∈((gA (s.ar w) a).2,0)::(w,a+1)::r:=hp;rcases List.mem_cons.1 hp with e|e
   . subst e;exact Nat.zero_le _
   . rcases List.mem_cons.1 e with e|e
     . subst e;exact ha
     . exact h.wok p (by rw[hw];exact List.mem_cons_of_mem _ e)
 . have:=h.mono j hj;rw[J1y];split
   . omega
   . exact this
 . have:=h.has;rw[J1y];split
   . omega
   . exact this
 . show wtW s _+wyW s (((gA (s.ar w) a).2,0)::(w,a+1)::r)<wtW s x+wyW s x.way;rw[hw,wyW,wyW,wyW];simp only;omega
theorem WkI.back (h:WkI s lg k0 x0 x) {w a:Nat} {r:List (Nat×Nat)} (hw:x.way=(w,a)::r) (ha:a<(s.ar w).length) (hl:lg (gA (s.ar w) a).2=false) (h0:x.idx (gA (s.ar w) a).2≠0) (hr:x.rt (gA (s.ar w) a).2=none) :
 WkI s lg k0 x0 (Tj.S.back { x with way:=(w,a+1)::r } w (gA (s.ar w) a).2)/\meW s (Tj.S.back { x with way:=(w,a+1)::r } w (gA (s.ar w) a).2)<meW s x:=by
 have hb:=h.inv.bump hw (Q2I s ha);refine⟨⟨Tj.Inv.back (w:=w) (a:=a+1) (r:=r) rfl hb (X1k s ha) hl h0 hr,h.cnt,fun p hp=>?_,h.mono,h.has⟩,?_⟩
 . rcases List.mem_cons.1 hp with e|e
   . subst e;exact ha
   . exact h.wok p (by rw[hw];exact List.mem_cons_of_mem _ e)
 . show wtW s x+wyW s ((w,a+1)::r)<wtW s x+wyW s x.way;rw[hw,wyW,wyW];simp only;omega
theorem X1l (s:Tsy) (w:Nat):(s.to w).length=(s.ar w).length:=by rw[Tsy.to,List.length_map]
theorem Q1K {w a:Nat} {r:List (Nat×Nat)} (hw:x.way=(w,a)::r):x.pop.way=r/\x.pop.idx=x.idx/\x.pop.pend=x.pend/\x.pop.rt=x.rt/\x.pop.found=x.found:=by
 cases r with
 | nil=>rw[Tj.S.pop,hw];exact⟨rfl,rfl,rfl,rfl,rfl⟩
 | cons p r=>obtain⟨p,b⟩:=p;rw[Tj.S.pop,hw];exact⟨rfl,rfl,rfl,rfl,rfl⟩
theorem X1t {w a:Nat} {r:List (Nat×Nat)} (hw:x.way=(w,a)::r):meW s x.pop<meW s x/\unW s x.pop=unW s x:=by
 obtain⟨e1,e2,_⟩:=Q1K hw;refine⟨?_,by rw[unW,unW,e2]⟩;rw[meW,meW,wtW,wtW,e1,e2,hw,wyW];omega
theorem WkI.keep (h:WkI s lg k0 x0 x) {w a p b:Nat} {r:List (Nat×Nat)} (hw:x.way=(w,a)::(p,b)::r) (ha:a=(s.ar w).length) (hne:x.low w≠x.idx w):WkI s lg k0 x0 x.pop/\meW s x.pop<meW s x:=by
 obtain⟨e1,e2,e3,e4,e5⟩:=Q1K hw;obtain⟨m1,m2⟩:=X1t (s:=s) hw;have hwp:=h.inv.wp w (by simp[Tj.S.ws,hw]);have hlo:=(h.inv.lo w hwp).1;refine⟨⟨h.inv.keep hw (by rw[X1l];exact ha) (by omega),by rw[e5,m2];exact h.cnt,fun q hq=>h.wok q (by rw[e1] at hq;rw[hw];exact List.mem_cons_of_mem _ hq),by rw[e2];exact h.mono,by rw[e2];exact h.has⟩,m1⟩
theorem WkI.done (h:WkI s lg k0 x0 x) {w a:Nat} {r:List (Nat×Nat)} (hw:x.way=(w,a)::r) (ha:a=(s.ar w).length) (he:x.low w=x.idx w) {l rest:List Nat} (hp:x.pend=l++w::rest) :
 WkI s lg k0 x0 (x.pop.cut l w rest)/\meW s (x.pop.cut l w rest)<meW s x:=by
 obtain⟨e1,e2,e3,e4,e5⟩:=Q1K hw;obtain⟨m1,m2⟩:=X1t (s:=s) hw;refine⟨⟨h.inv.done hw (by rw[X1l];exact ha) he hp,?_,fun q hq=>?_,fun j hj=>?_,?_⟩,m1⟩
 . show x.pop.found+unW s x.pop<=_;rw[e5,m2];exact h.cnt
 . have hq:q∈x.pop.way:=hq;exact h.wok q (by rw[e1] at hq;rw[hw];exact List.mem_cons_of_mem _ hq)
 . show x.pop.idx j≠0;rw[e2];exact h.mono j hj
 . show x.pop.idx k0≠0;rw[e2];exact h.has
end Go.Proofs.YtlpfphlbghdokaaGreatDoor
namespace Go.Proofs.YtlpfphlbghdokaaGreatDoor
open Go.Eng Go.Plain
set_option maxRecDepth 100000
set_option linter.unusedVariables false
def vWy (l:List (Nat×Nat)):Nat->Nat->V:=fun i j=>match j with
 | 0=>.int .i64 (gA l i).1
 | _=>.int .i64 (gA l i).2
theorem Q7r (l:List (Nat×Nat)) (a:Nat×Nat) (i:Nat):gA (l++[a]) i=if i<l.length then gA l i else if i=l.length then a else (0,0):=by
 rw[gA,gA,List.getD_eq_getElem?_getD,List.getD_eq_getElem?_getD];by_cases h:i<l.length
 . rw[if_pos h,List.getElem?_append_left h]
 . rw[if_neg h,List.getElem?_append_right (by omega)];by_cases e:i=l.length
   . subst e;simp
   . rw[if_neg e,List.getElem?_eq_none (by simp;omega)];rfl
theorem J64 {L:List (Nat×Nat)} {p:Nat×Nat} {r:List (Nat×Nat)} (h:L=p::r):gA L.reverse r.length=p:=by
 subst h;rw[List.reverse_cons,Q7r,if_neg (by rw[List.length_reverse];omega),if_pos (by rw[List.length_reverse])]
theorem J65 {L:List (Nat×Nat)} {p:Nat×Nat} {r:List (Nat×Nat)} (h:L=p::r) {i:Nat} (hi:i<r.length):gA L.reverse i=gA r.reverse i:=by
 subst h;rw[List.reverse_cons,Q7r,if_pos (by rw[List.length_reverse];exact hi)]
theorem Q1o {L:List (Nat×Nat)} {p:Nat×Nat} {r:List (Nat×Nat)} (h:L=p::r) (i j:Nat) (hi:i<r.length):VLe (vWy L.reverse i j) (vWy r.reverse i j):=by
 apply VLe.of_eq;show(match j with|0=>V.int .i64 (gA L.reverse i).1|_=>V.int .i64 (gA L.reverse i).2)=(match j with|0=>V.int .i64 (gA r.reverse i).1|_=>V.int .i64 (gA r.reverse i).2);rw[J65 h hi]
theorem J9L {L:List (Nat×Nat)} {w a:Nat} {r:List (Nat×Nat)} (h:L=(w,a)::r) (n':Nat) (X:Int) (hn:n'=r.length) (hX:X=a+1) (i j:Nat) (hi:i<r.length+1) (hj:j<2):J0L (vWy L.reverse) n' 1 [.int .i64 X] i j=vWy ((w,a+1)::r).reverse i j:=by
 subst hn;subst hX;by_cases e:i=r.length
 . subst e;have h1:=J64 h;have h2:=J64 (L:=(w,a+1)::r) rfl;rcases (show j=0\/j=1 by omega) with rfl|rfl
   . simp[-List.reverse_cons,J0L,vWy,h1,h2]
   . simp[-List.reverse_cons,J0L,vWy,h1,h2]
 . have h1:=J65 h (i:=i) (by omega);have h2:=J65 (L:=(w,a+1)::r) rfl (i:=i) (by omega);rcases (show j=0\/j=1 by omega) with rfl|rfl<;>simp[-List.reverse_cons,J0L,vWy,h1,h2,e]
theorem J8G {L:List (Nat×Nat)} {w a:Nat} {r:List (Nat×Nat)} (h:L=(w,a)::r) (n':Nat) (X:Int) (hn:n'=r.length) (hX:X=a+1) (i j:Nat) (hi:i<r.length+1) (hj:j<2):VLe (J0L (vWy L.reverse) n' 1 [.int .i64 X] i j) (vWy ((w,a+1)::r).reverse i j) :=
 VLe.of_eq (J9L h n' X hn hX i j hi hj)
theorem X2s {L:List (Nat×Nat)} {t:Nat} (f:Nat->Nat->V) (hf:∀i j,i<L.length->j<2->f i j=vWy L.reverse i j) (F:Nat->Nat->V) (h0:F 0 0=.int .i64 t) (h1:F 0 1=.int .i64 0) (n i j:Nat) (hn:n=L.length) (hi:i<L.length+1) (hj:j<2) :
 VLe (J5p (J0l 0 f) n (J0l 0 F) i j) (vWy ((t,0)::L).reverse i j):=by
 subst hn;apply VLe.of_eq;by_cases e:i<L.length
 . rw[J2c e,J0E,Nat.zero_add,hf i j e hj];have h2:=J65 (L:=(t,0)::L) rfl (i:=i) e;rcases (show j=0\/j=1 by omega) with rfl|rfl<;>simp[-List.reverse_cons,vWy,h2]
 . rw[J2d e];have:i=L.length:=by omega
   subst this;have h2:=J64 (L:=(t,0)::L) rfl;rcases (show j=0\/j=1 by omega) with rfl|rfl
   . simp[-List.reverse_cons,J0l,h0,vWy,h2]
   . simp[-List.reverse_cons,J0l,h1,vWy,h2]
theorem J6l (r:Nat->Nat) (k k':Nat) (w:Int) (a:Nat) (hk:k'=k) (ha:w=a) (i j:Nat) (hj:j<1):VLe (J0L (vEt r) k' 0 [.int .i64 w] i j) (vEt (Tj.upd r k a) i j):=by
 obtain rfl:j=0:=by omega
 subst hk;subst ha;apply VLe.of_eq;rw[vEt,Tj.upd];by_cases h:i=k'
 . subst h;simp[J0L]
 . simp[J0L,vEt,h]
theorem X2r {L:List (Nat×Nat)} {k:Nat} (h:L=[(k,0)]) (i j:Nat) (hi:i<L.length) (hj:j<2):VLe (tab [[V.int .i64 k,V.int .i64 0]] i j) (vWy L.reverse i j):=by
 subst h;have hi:i<1:=hi;obtain rfl:i=0:=by omega
 rcases (show j=0\/j=1 by omega) with rfl|rfl<;>exact VLe.of_eq rfl
theorem X1f (q:List Nat) (a:Nat) (F:Nat->Nat->V) (hF:F 0 0=.int .i64 a) (n i j:Nat) (hn:n=q.length) (hi:i<q.length+1) (hj:j<1):VLe (J5p (J0l 0 (vQ q.reverse)) n (J0l 0 F) i j) (vQ (a::q).reverse i j):=by
 rw[List.reverse_cons];exact J8I q.reverse a F a hF rfl n i j (by rw[List.length_reverse];exact hn) (by rw[List.length_reverse];exact hi) hj
theorem Q6C (a b:Nat):(if (b:Int)<(a:Int) then (b:Int) else (a:Int))=((min a b:Nat):Int):=by split<;>omega
theorem Q0H (f:Nat->Nat->V) (i j:Nat) (vs:List V) {i':Nat} (h:i'≠i) (j':Nat):J0L f i j vs i' j'=f i' j':=by simp[J0L,h]
def wkQ (q:Nat) (s:Tsy) (lg:Nat->Bool) (x:Tj.S):List V:=[.fz s.n 1 false (vEn s),.fz s.n 1 false (Q9g s),blV s.n lg,.vec 1 1 0 s.n,.vec 2 1 0 s.n,.vec 3 1 0 s.n,.int .i64 x.found,.vec q 1 0 x.pend.length]
def X86 (q:Nat) (s:Tsy) (lg:Nat->Bool) (x:Tj.S):Own:=[(0,.cells (wkQ q s lg x)),(1,.vec s.n 1 (vEt x.idx)),(2,.vec s.n 1 (vEt x.low)),(3,.vec s.n 1 (vRt x.rt)),(q,.vec x.pend.length 1 (vQ x.pend.reverse))]
def ownW (s:Tsy) (lg:Nat->Bool) (x:Tj.S):Own:=(5,.vec x.way.length 2 (vWy x.way.reverse))::X86 6 s lg x
set_option maxHeartbeats 16000000 in
theorem Q4j (s:Tsy) (hs:s.Ok) (lg:Nat->Bool) (k:Nat) (x:Tj.S) (hI:Tj.Inv s.n s.to lg none x) (hw:x.way=[]) (hc:x.found+unW s x<=s.n) (hk:k<s.n) (hl:lg k=false) (h0:x.idx k=0) :
 J0J Tryz.prog 79 [.loc 0 0,.int .i64 k] (X86 4 s lg x) [5,6,7,8,9,10,11,12,13,14,15,16,17,18,19,20,21,22,23,24,25,26,27,28,29] fun v own' _=>v=.tup []/\∃y,WkI s lg k x y/\y.way=[]/\own'=X86 6 s lg y:=by
 have n1:=hs.n1;have n2:=hs.n2;obtain⟨pl,_⟩:=Q7a hI;have hst:=WkI.start hI hw hc hk hl h0;refine J1q (J3P ?_);refine J0d J0b Tryz.func79 rfl hc79 hr79 rfl ?_
 repeat' ((conv=>whnf);first|(refine Br.nbeq ?_ ?_<;>intro _<;>try omega)|(refine Ar.i64 (by omega) (by omega) ?_)|(refine Ix.nat (by omega) ?_)|(refine Len.mk (by omega) ?_)|(refine Ltn.mk (by omega) ?_)|(refine J0d J0b Tryz.func121 rfl X6c X6b rfl ?_))
 all_goals (conv=>whnf)
 have hwl:(x.enter k).way=[(k,0)]:=by show(k,0)::x.way=_;rw[hw]
 refine J1v J0b [0] [5,6] [9,10,11,12,13,14,15,16,17,18,19,20,21,22,23,24,25,26,27,28,29] [5,0,1,2,3,6] (fun y:Tj.S=>[(4,.vec 5 2 0 y.way.length)]) (ownW s lg) (fun m y=>m=meW s y/\WkI s lg k x y) (meW s (x.enter k)) (x.enter k) ⟨rfl,hst⟩ rfl (fun _=>rfl) ?_ ?_
 . refine J0f (fun env own=>[(5,X6q env 4),(0,some 0),(1,some 1),(2,some 2),(3,some 3),(6,Q2f own 0 7)]) ?_ ?_ rfl
   . repeat' (first|exact J0a.vec rfl rfl (by rw[hwl];rfl)|exact True.intro|(refine⟨⟨_,rfl,?_⟩,?_⟩)|exact J0a.loc rfl)
   . repeat' (first|exact J0a.int (show(x.found:Int)+1=((x.found+1:Nat):Int) by omega)|(refine⟨by rw[hwl];exact Nat.le_refl _,rfl,fun i j hi hj=>?_⟩)|exact X2r hwl _ _ hi hj|exact J6l _ _ _ _ _ (Nat.zero_add _) (show(x.found:Int)+1=((x.found+1:Nat):Int) by omega) _ _ hj|exact X1f _ _ _ rfl _ _ _ rfl hi hj|exact True.intro|(refine⟨⟨_,rfl,?_⟩,?_⟩)|exact J0a.kf rfl|exact J0a.vec rfl rfl rfl|(refine⟨Nat.le_refl _,rfl,fun i j hi hj=>?_⟩)|exact VLe.rfl|(refine And.intro ?_ ?_))
 rintro m y ⟨hm,hY⟩;obtain⟨ypl,ywl⟩:=Q7a hY.inv;have ycn:=hY.cnt;have hcase:y.way=[]\/∃w a r,y.way=(w,a)::r:=by
  cases y.way with
  | nil=>exact .inl rfl
  | cons p r=>exact .inr ⟨p.1,p.2,r,rfl⟩
 rcases hcase with hway | ⟨w,a,r,hway⟩
 . have hl0:y.way.length=0:=by rw[hway];rfl
   repeat' ((conv=>whnf);first|(refine Br.dec ?_ ?_<;>intro _<;>try omega))
   all_goals (conv=>whnf)
   exact⟨_,J1A.refl _,J1m (fun _=>[(0,some 0),(1,some 1),(2,some 2),(3,some 3),(6,some 6)]) _ _ ⟨rfl,y,hY,hway,rfl⟩ (J0a.kf rfl) (by repeat' (first|exact True.intro|(refine⟨⟨_,rfl,?_⟩,?_⟩)|exact J0a.kf rfl|exact J0a.vec rfl rfl rfl|(refine⟨Nat.le_refl _,rfl,fun i j hi hj=>?_⟩)|exact VLe.rfl|(refine And.intro ?_ ?_))) rfl⟩
 . have hl1:y.way.length=r.length+1:=by rw[hway];rfl
   have hg:gA y.way.reverse (0+r.length)=(w,a):=by rw[Nat.zero_add];exact J64 hway
   have hg1:(gA y.way.reverse (0+r.length)).1=w:=by rw[hg]
   have hg2:(gA y.way.reverse (0+r.length)).2=a:=by rw[hg]
   have hwp:w∈y.pend:=hY.inv.wp w (by simp[Tj.S.ws,hway]);have hwn:w<s.n:=(hY.inv.nl w hwp).2;have hrow:=hs.row hwn;by_cases ha:a<(s.ar w).length
   . obtain⟨a1,a2,a3⟩:=hs.arc _ hwn _ (J4Y ha);cases hlt:lg (gA (s.ar w) a).2 with
     | true =>
       have hst2:=hY.skip hway ha (.inl hlt)
       repeat' ((conv=>whnf);first|(refine Ix.mk r.length (by omega) (by omega) ?_)|(refine Ix.mk w (by rw[hg1]) hwn ?_)|(refine Ix.mk a (by rw[hg2]) ha ?_)|(refine Ix.mk (gA (s.ar w) a).2 (by rfl) a3 ?_)|(refine Br.mk (fun _=>?_) (fun e=>Bool.noConfusion (e.symm.trans hlt)))|(refine Br.dec ?_ ?_<;>intro _<;>try omega)|(refine Ar.i64 (by omega) (by omega) ?_)|(refine Ltn.mk (by omega) ?_))
       all_goals (conv=>whnf)
       refine⟨_,{ y with way:=(w,a+1)::r },?_,⟨rfl,hst2.1⟩,?_⟩
       . rw[hm];exact hst2.2
       . refine J0f (fun _ _=>[(5,some 5),(0,some 0),(1,some 1),(2,some 2),(3,some 3),(6,some 6)]) ?_ ?_ rfl
         . repeat' (first|exact J0a.vec rfl rfl (show y.way.length=r.length+1 from hl1)|exact True.intro|(refine⟨⟨_,rfl,?_⟩,?_⟩)|exact J0a.loc rfl)
         . repeat' (first|(refine⟨show r.length+1<=y.way.length by omega,rfl,fun i j hi hj=>?_⟩)|exact J8G hway _ _ (Nat.zero_add _) (by rw[hg2]) _ _ hi hj|exact True.intro|(refine⟨⟨_,rfl,?_⟩,?_⟩)|exact J0a.kf rfl|exact J0a.vec rfl rfl rfl|(refine⟨Nat.le_refl _,rfl,fun i j hi hj=>?_⟩)|exact VLe.rfl|(refine And.intro ?_ ?_))
     | false =>
       cases hrt:y.rt (gA (s.ar w) a).2 with
       | some q =>
         have hst2:=hY.skip hway ha (.inr (by rw[hrt];simp));have hr2:rtI y.rt (0+(gA (s.ar w) a).2)=q:=by rw[Nat.zero_add,rtI,hrt]
         repeat' ((conv=>whnf);first|(refine Ix.mk r.length (by omega) (by omega) ?_)|(refine Ix.mk w (by rw[hg1]) hwn ?_)|(refine Ix.mk a (by rw[hg2]) ha ?_)|(refine Ix.mk (gA (s.ar w) a).2 (by rfl) a3 ?_)|(refine Br.mk (fun e=>Bool.noConfusion (e.symm.trans hlt)) (fun _=>?_))|(refine Br.dec ?_ ?_<;>intro _<;>try omega)|(refine Ar.i64 (by omega) (by omega) ?_)|(refine Ltn.mk (by omega) ?_))
         all_goals (conv=>whnf)
         refine⟨_,{ y with way:=(w,a+1)::r },?_,⟨rfl,hst2.1⟩,?_⟩
         . rw[hm];exact hst2.2
         . refine J0f (fun _ _=>[(5,some 5),(0,some 0),(1,some 1),(2,some 2),(3,some 3),(6,some 6)]) ?_ ?_ rfl
           . repeat' (first|exact J0a.vec rfl rfl (show y.way.length=r.length+1 from hl1)|exact True.intro|(refine⟨⟨_,rfl,?_⟩,?_⟩)|exact J0a.loc rfl)
           . repeat' (first|(refine⟨show r.length+1<=y.way.length by omega,rfl,fun i j hi hj=>?_⟩)|exact J8G hway _ _ (Nat.zero_add _) (by rw[hg2]) _ _ hi hj|exact True.intro|(refine⟨⟨_,rfl,?_⟩,?_⟩)|exact J0a.kf rfl|exact J0a.vec rfl rfl rfl|(refine⟨Nat.le_refl _,rfl,fun i j hi hj=>?_⟩)|exact VLe.rfl|(refine And.intro ?_ ?_))
       | none =>
         have hr2:rtI y.rt (0+(gA (s.ar w) a).2)=-1:=by rw[Nat.zero_add,rtI,hrt]
         by_cases hi0:y.idx (gA (s.ar w) a).2=0
         . have hst2:=hY.new hway ha a3 hlt hi0;have hi2:y.idx (0+(gA (s.ar w) a).2)=0:=by rw[Nat.zero_add];exact hi0
           repeat' ((conv=>whnf);first|(refine Ix.mk r.length (by omega) (by omega) ?_)|(refine Ix.mk w (by rw[hg1]) hwn ?_)|(refine Ix.mk a (by rw[hg2]) ha ?_)|(refine Ix.mk (gA (s.ar w) a).2 (by rfl) a3 ?_)|(refine Br.mk (fun e=>Bool.noConfusion (e.symm.trans hlt)) (fun _=>?_))|(refine Br.dec ?_ ?_<;>intro _<;>try omega)|(refine Br.nbeq ?_ ?_<;>intro _<;>try omega)|(refine Ar.i64 (by omega) (by omega) ?_)|(refine Len.mk (by omega) ?_)|(refine Ltn.mk (by omega) ?_)|(refine J0d J0b Tryz.func121 rfl X6c X6b rfl ?_))
           all_goals (conv=>whnf)
           refine⟨_,Tj.S.enter { y with way:=(w,a+1)::r } (gA (s.ar w) a).2,?_,⟨rfl,hst2.1⟩,?_⟩
           . rw[hm];exact hst2.2
           . refine J0f (fun env own=>[(5,X6q env 4),(0,some 0),(1,some 1),(2,some 2),(3,some 3),(6,Q2f own 0 7)]) ?_ ?_ rfl
             . repeat' (first|exact J0a.vec rfl rfl (show y.way.length+1=r.length+1+1 by omega)|exact True.intro|(refine⟨⟨_,rfl,?_⟩,?_⟩)|exact J0a.loc rfl)
             . repeat' (first|exact J0a.int (show(y.found:Int)+1=((y.found+1:Nat):Int) by omega)|(refine⟨show r.length+1+1<=y.way.length+1 by omega,rfl,fun i j hi hj=>?_⟩)|exact X2s (L:=(w,a+1)::r) _ (fun i j hi hj=>J9L hway _ _ (Nat.zero_add _) (by rw[hg2]) i j hi hj) _ rfl rfl _ _ _ hl1 hi hj|exact J6l _ _ _ _ _ (Nat.zero_add _) (show(y.found:Int)+1=((y.found+1:Nat):Int) by omega) _ _ hj|exact X1f _ _ _ rfl _ _ _ rfl hi hj|exact True.intro|(refine⟨⟨_,rfl,?_⟩,?_⟩)|exact J0a.kf rfl|exact J0a.vec rfl rfl rfl|(refine⟨Nat.le_refl _,rfl,fun i j hi hj=>?_⟩)|exact VLe.rfl|(refine And.intro ?_ ?_))
         . have hst2:=hY.back hway ha hlt hi0 hrt;have hi2:y.idx (0+(gA (s.ar w) a).2)≠0:=by rw[Nat.zero_add];exact hi0
           repeat' ((conv=>whnf);first|(refine Ix.mk r.length (by omega) (by omega) ?_)|(refine Ix.mk w (by rw[hg1]) hwn ?_)|(refine Ix.mk a (by rw[hg2]) ha ?_)|(refine Ix.mk (gA (s.ar w) a).2 (by rfl) a3 ?_)|(refine Br.mk (fun e=>Bool.noConfusion (e.symm.trans hlt)) (fun _=>?_))|(refine Br.dec ?_ ?_<;>intro _<;>try omega)|(refine Ar.i64 (by omega) (by omega) ?_)|(refine Sv.mk _ rfl ?_)|(refine Ltn.mk (by omega) ?_))
           all_goals (conv=>whnf)
           refine⟨_,Tj.S.back { y with way:=(w,a+1)::r } w (gA (s.ar w) a).2,?_,⟨rfl,hst2.1⟩,?_⟩
           . rw[hm];exact hst2.2
           . refine J0f (fun _ _=>[(5,some 5),(0,some 0),(1,some 1),(2,some 2),(3,some 3),(6,some 6)]) ?_ ?_ rfl
             . repeat' (first|exact J0a.vec rfl rfl (show y.way.length=r.length+1 from hl1)|exact True.intro|(refine⟨⟨_,rfl,?_⟩,?_⟩)|exact J0a.loc rfl)
             . repeat' (first|(refine⟨show r.length+1<=y.way.length by omega,rfl,fun i j hi hj=>?_⟩)|exact J8G hway _ _ (Nat.zero_add _) (by rw[hg2]) _ _ hi hj|exact J6l _ _ _ _ _ (Nat.zero_add _) (by rw[Nat.zero_add,Nat.zero_add];exact Q6C _ _) _ _ hj|exact True.intro|(refine⟨⟨_,rfl,?_⟩,?_⟩)|exact J0a.kf rfl|exact J0a.vec rfl rfl rfl|(refine⟨Nat.le_refl _,rfl,fun i j hi hj=>?_⟩)|exact VLe.rfl|(refine And.intro ?_ ?_))
   . have ha':a=(s.ar w).length:=by have:=hY.wok (w,a) (by rw[hway];exact List.mem_cons_self);simp only at this;omega
     have hnd:=J77 hY.inv;obtain⟨l,rest,hsp⟩:=List.append_of_mem hwp;have hwl2:w∉l:=fun hq=>by
      rw[hsp,List.nodup_append] at hnd;exact absurd rfl (hnd.2.2 w hq w (by simp))
     have hlt2:∀u∈y.pend,u<s.n:=fun u hu=>(hY.inv.nl u hu).2;have hr:r=[]\/∃p b r',r=(p,b)::r':=by
      cases r with
      | nil=>exact .inl rfl
      | cons p r=>exact .inr ⟨p.1,p.2,r,rfl⟩
     rcases hr with hr | ⟨p,b,r',hr⟩
     . have hr0:r.length=0:=by rw[hr];rfl
       rw[hr] at hway;have hlow:=Tj.way_two hY.inv hway;have hlo2:y.low (0+w)=y.idx (0+w):=by rw[Nat.zero_add];exact hlow
       have hz:y.pop={ y with way:=[] }:=by rw[Tj.S.pop,hway]
       have hst2:=hY.done hway ha' hlow hsp;have hcomp:=J5S s n2 lg y.pop w l rest (by rw[hz];exact hsp) hwl2 (by rw[hz];exact hlt2) (by rw[hz];exact Nat.le_trans ypl n2);rw[hz] at hst2 hcomp
       repeat' ((conv=>whnf);first|(refine Ix.mk r.length (by omega) (by omega) ?_)|(refine Ix.mk w (by rw[hg1]) hwn ?_)|(refine Br.dec ?_ ?_<;>intro _<;>try omega)|(refine Br.nble ?_ ?_<;>intro _<;>try omega)|(refine Ar.i64 (by omega) (by omega) ?_)|(refine Bd.int (by omega) (by omega) ?_)|(refine Ltn.mk (by omega) ?_)|(refine J10 [(0,some 0),(1,some 1),(2,some 2),(3,some 3),(4,some 6)] [] (hcomp.mono ?_) ⟨J0a.loc rfl,J0a.int (by rw[hg1]),True.intro⟩ (by repeat' (first|exact True.intro|(refine⟨⟨_,rfl,?_⟩,?_⟩)|exact J0a.kf rfl|exact J0a.vec rfl rfl rfl|(refine⟨Nat.le_refl _,rfl,fun i j hi hj=>?_⟩)|exact VLe.rfl|(refine And.intro ?_ ?_))) rfl;rintro _ _ _ ⟨rfl,rfl⟩)|(refine Chk.mk (by kernel_rfl) ?_))
       all_goals (conv=>whnf)
       refine⟨_,_,?_,⟨rfl,hst2.1⟩,?_⟩
       . rw[hm];exact hst2.2
       . refine J0f (fun _ _=>[(5,some 5),(0,some 0),(1,some 1),(2,some 2),(3,some 3),(6,some 6)]) ?_ ?_ rfl
         . repeat' (first|exact J0a.vec rfl rfl (show((y.way.length:Int)-1).toNat-0=0 by omega)|exact True.intro|(refine⟨⟨_,rfl,?_⟩,?_⟩)|exact J0a.loc rfl)
         . repeat' (first|(refine⟨show 0<=y.way.length by omega,rfl,fun i j hi hj=>?_⟩)|exact Q1o hway _ _ hi|exact True.intro|(refine⟨⟨_,rfl,?_⟩,?_⟩)|exact J0a.kf rfl|exact J0a.vec rfl rfl rfl|(refine⟨Nat.le_refl _,rfl,fun i j hi hj=>?_⟩)|exact VLe.rfl|(refine And.intro ?_ ?_))
     . have hrl:r.length=r'.length+1:=by rw[hr];rfl
       rw[hr] at hway;have hgp:gA y.way.reverse r'.length=(p,b):=by
        rw[J65 hway (by simp)];exact J64 rfl
       have hgp1:(gA y.way.reverse r'.length).1=p:=by rw[hgp]
       have hpp:p∈y.pend:=hY.inv.wp p (by simp[Tj.S.ws,hway]);have hpn:p<s.n:=hlt2 p hpp;have hpw:(0+w)≠(0+p):=fun e=>by
        have:=(Tj.head_max hY.inv hway).2.2.2 p (by simp);have e2:w=p:=by omega
        rw[e2] at this;omega
       have hz:y.pop={ y with way:=(p,b)::r',low:=Tj.upd y.low p (min (y.low p) (y.low w)) }:=by rw[Tj.S.pop,hway]
       by_cases he:y.low w=y.idx w
       . have hlo2:y.low (0+w)=y.idx (0+w):=by rw[Nat.zero_add];exact he
         have hst2:=hY.done hway ha' he hsp;have hcomp:=J5S s n2 lg y.pop w l rest (by rw[hz];exact hsp) hwl2 (by rw[hz];exact hlt2) (by rw[hz];exact Nat.le_trans ypl n2);rw[hz] at hst2 hcomp
         repeat' ((conv=>whnf);first|(refine Ix.mk r.length (by omega) (by omega) ?_)|(refine Ix.mk w (by rw[hg1]) hwn ?_)|(refine Ix.mk p (by have e:(0+0+(((((y.way.length:Int)-1).toNat-0:Nat):Int)-1).toNat)=r'.length:=(by omega);rw[e,hgp1]) hpn ?_)|(refine Br.dec ?_ ?_<;>intro _<;>try omega)|(refine Br.nble ?_ ?_<;>intro _<;>try omega)|(refine Ar.i64 (by omega) (by omega) ?_)|(refine Sv.mk _ rfl ?_)|(refine Ix.int (by omega) (by omega) ?_)|(refine Bd.int (by omega) (by omega) ?_)|(refine Ltn.mk (by omega) ?_)|(refine J10 [(0,some 0),(1,some 1),(2,some 2),(3,some 3),(4,some 6)] [] (hcomp.mono ?_) ⟨J0a.loc rfl,J0a.int (by rw[hg1]),True.intro⟩ (by repeat' (first|exact J6l _ _ _ _ _ (Nat.zero_add _) (by rw[Nat.zero_add,Nat.zero_add];exact Q6C _ _) _ _ hj|exact True.intro|(refine⟨⟨_,rfl,?_⟩,?_⟩)|exact J0a.kf rfl|exact J0a.vec rfl rfl rfl|(refine⟨Nat.le_refl _,rfl,fun i j hi hj=>?_⟩)|exact VLe.rfl|(refine And.intro ?_ ?_))) rfl;rintro _ _ _ ⟨rfl,rfl⟩)|(refine Chk.mk (by kernel_rfl) ?_)|(rw[Q0H _ _ _ _ hpw]))
         all_goals (conv=>whnf)
         refine⟨_,_,?_,⟨rfl,hst2.1⟩,?_⟩
         . rw[hm];exact hst2.2
         . refine J0f (fun _ _=>[(5,some 5),(0,some 0),(1,some 1),(2,some 2),(3,some 3),(6,some 6)]) ?_ ?_ rfl
           . repeat' (first|exact J0a.vec rfl rfl (show((y.way.length:Int)-1).toNat-0=r'.length+1 by omega)|exact True.intro|(refine⟨⟨_,rfl,?_⟩,?_⟩)|exact J0a.loc rfl)
           . repeat' (first|(refine⟨show r'.length+1<=y.way.length by omega,rfl,fun i j hi hj=>?_⟩)|exact Q1o hway _ _ hi|exact True.intro|(refine⟨⟨_,rfl,?_⟩,?_⟩)|exact J0a.kf rfl|exact J0a.vec rfl rfl rfl|(refine⟨Nat.le_refl _,rfl,fun i j hi hj=>?_⟩)|exact VLe.rfl|(refine And.intro ?_ ?_))
       . have hlo2:y.low (0+w)≠y.idx (0+w):=by rw[Nat.zero_add];exact he
         have hst2:=hY.keep hway ha' he;rw[hz] at hst2
         repeat' ((conv=>whnf);first|(refine Ix.mk r.length (by omega) (by omega) ?_)|(refine Ix.mk w (by rw[hg1]) hwn ?_)|(refine Ix.mk p (by have e:(0+0+(((((y.way.length:Int)-1).toNat-0:Nat):Int)-1).toNat)=r'.length:=(by omega);rw[e,hgp1]) hpn ?_)|(refine Br.dec ?_ ?_<;>intro _<;>try omega)|(refine Br.nble ?_ ?_<;>intro _<;>try omega)|(refine Ar.i64 (by omega) (by omega) ?_)|(refine Sv.mk _ rfl ?_)|(refine Ix.int (by omega) (by omega) ?_)|(refine Bd.int (by omega) (by omega) ?_)|(refine Ltn.mk (by omega) ?_)|(rw[Q0H _ _ _ _ hpw]))
         all_goals (conv=>whnf)
         refine⟨_,_,?_,⟨rfl,hst2.1⟩,?_⟩
         . rw[hm];exact hst2.2
         . refine J0f (fun _ _=>[(5,some 5),(0,some 0),(1,some 1),(2,some 2),(3,some 3),(6,some 6)]) ?_ ?_ rfl
           . repeat' (first|exact J0a.vec rfl rfl (show((y.way.length:Int)-1).toNat-0=r'.length+1 by omega)|exact True.intro|(refine⟨⟨_,rfl,?_⟩,?_⟩)|exact J0a.loc rfl)
           . repeat' (first|(refine⟨show r'.length+1<=y.way.length by omega,rfl,fun i j hi hj=>?_⟩)|exact Q1o hway _ _ hi|exact J6l _ _ _ _ _ (Nat.zero_add _) (by rw[Nat.zero_add,Nat.zero_add];exact Q6C _ _) _ _ hj|exact True.intro|(refine⟨⟨_,rfl,?_⟩,?_⟩)|exact J0a.kf rfl|exact J0a.vec rfl rfl rfl|(refine⟨Nat.le_refl _,rfl,fun i j hi hj=>?_⟩)|exact VLe.rfl|(refine And.intro ?_ ?_))
end Go.Proofs.YtlpfphlbghdokaaGreatDoor
namespace Go.Eng
open Go.Plain
set_option linter.unusedVariables false
def adqP (lg:Nat->Bool) (L:List (Nat×Nat)) (p:Nat×Nat):List (Nat×Nat):=if lg p.1=false/\p∉L then L++[p] else L
theorem Q1c.add {s:Tsy} {lg:Nat->Bool} {m:Nat} {L:List (Nat×Nat)} (h:Q1c s lg m L) {p:Nat×Nat} (hp:p.1<s.n/\p.2<m):Q1c s lg m (adqP lg L p):=by
 rw[adqP];split
 . rename_i q;exact h.snoc hp q.1 q.2
 . exact h
structure MpI (s:Tsy) (lg:Nat->Bool) (Q:Nat->Nat->Nat->Prop) (B:Nat) (es:List (KyT (.st KP)×V)):Prop where
 get:∀(p:Nat×Nat) (v:V),p.1<s.n->lg p.1=false->J1H es (kyP p)=some v->∃r:Nat,v=.int .i64 r/\Q p.1 p.2 r/\r<=B
theorem MpI.nil (s:Tsy) (lg:Nat->Bool) (Q:Nat->Nat->Nat->Prop) (B:Nat):MpI s lg Q B []:=⟨fun p v _ _ h=>by simp[J1H] at h⟩
end Go.Eng
namespace Go.Proofs.YtlpfphlbghdokaaGreatDoor
open Go.Eng Go.Plain
set_option maxRecDepth 100000
set_option linter.unusedVariables false
def Q47:List Nat->Nat->List (KyT (.one .i64)×V)
 | [],_=>[]
 | r::L,i=>((r:Int),.int .i64 i)::Q47 L (i+1)
theorem X1U:∃f:List Nat->List (KyT (.one .i64)×V),∀l,f l=Q47 l 0:=⟨fun l=>Q47 l 0,fun _=>rfl⟩
noncomputable def enR:List Nat->List (KyT (.one .i64)×V):=Classical.choose X1U
theorem Q0P (l:List Nat):enR l=Q47 l 0:=Classical.choose_spec X1U l
theorem X31:enR []=[]:=by rw[Q0P];rfl
theorem Q3C:∀(l:List Nat) (i:Nat),(Q47 l i).length=l.length
 | [],_=>rfl
 | r::l,i=>by rw[Q47,List.length_cons,List.length_cons,Q3C l]
theorem Q7H (l:List Nat):(enR l).length=l.length:=by rw[Q0P,Q3C]
theorem Q0M (q:Nat):∀(L:List Nat) (i:Nat),J1H (Q47 L i) (q:Int)=if q∈L then some (.int .i64 ((i+L.idxOf q:Nat):Int)) else none
 | [],_=>by rw[if_neg (by simp)];rfl
 | r::L,i=>by
   have ih:=Q0M q L (i+1);show(if (r:Int)=(q:Int) then some (V.int .i64 i) else J1H (Q47 L (i+1)) (q:Int))=_;by_cases h:r=q
   . subst h;rw[if_pos rfl,if_pos (by simp)];simp
   . rw[if_neg (fun e=>h (by omega)),ih];have:(q∈r::L)↔q∈L:=by
      rw[List.mem_cons];exact⟨fun e=>e.elim (fun e=>(h e.symm).elim) id,.inr⟩
     simp only[this];by_cases hm:q∈L
     . have e:(r::L).idxOf q=L.idxOf q+1:=by
        rw[List.idxOf_cons];have:(r == q)=false:=by simpa using h
        rw[this];rfl
       rw[if_pos hm,if_pos hm,e,show i+1+List.idxOf q L=i+(List.idxOf q L+1) by omega]
     . rw[if_neg hm,if_neg hm]
theorem X0h (q:Nat) (L:List Nat):J1H (enR L) (q:Int)=if q∈L then some (.int .i64 (L.idxOf q:Nat)) else none:=by rw[Q0P,Q0M,Nat.zero_add]
theorem Q21 {q:Nat}:∀{L:List Nat} {i:Nat},q∉L->mput (Q47 L i) (q:Int) (.int .i64 ((i+L.length:Nat):Int))=Q47 (L++[q]) i
 | [],_,_=>rfl
 | r::L,i,h=>by
   have h1:r≠q:=fun e=>h (by simp[e]);have h2:q∉L:=fun e=>h (by simp[e]);show(if (r:Int)=(q:Int) then ((r:Int),V.int .i64 ((i+(r::L).length:Nat):Int))::Q47 L (i+1) else ((r:Int),V.int .i64 i)::mput (Q47 L (i+1)) (q:Int) (.int .i64 ((i+(r::L).length:Nat):Int)))=_;rw[if_neg (fun e=>h1 (by omega)),List.length_cons,show i+(L.length+1)=i+1+L.length by omega,Q21 h2];rfl
theorem X28 {q:Nat} {L:List Nat} (h:q∉L) {n:Nat} (hn:n=L.length):mput (enR L) (q:Int) (.int .i64 (n:Int))=enR (L++[q]):=by
 subst hn;have:=Q21 (i:=0) h;rw[Nat.zero_add] at this;rw[Q0P,Q0P,this]
theorem Q6G {L:List Nat} {q:Int} {r:Nat} (hq:q=r) {A:V->Prop} {B:Prop} (h1:r∈L->A (.int .i64 (L.idxOf r:Nat))) (h2:r∉L->B):X7t (J1H (enR L) q) A B:=by
 subst hq;rw[X0h];by_cases h:r∈L
 . rw[if_pos h];exact⟨fun v hv=>(by cases hv;exact h1 h),fun hn=>(by cases hn)⟩
 . rw[if_neg h];exact⟨fun v hv=>(by cases hv),fun _=>h2 h⟩
structure Q2t (lg:Nat->Bool) (rt:Nat->Option Nat) (L:List Nat) (c:Nat->Int) (k:Nat):Prop where
 len:L.length<=k
 leg:∀j,j<k->lg j=true->c j=-1
 out:∀j,j<k->lg j=false->∃r,rt j=some r/\r∈L/\c j=(L.idxOf r:Nat)
def X1j (f:Nat->Int) (k:Nat) (x:Int):Nat->Int:=fun i=>if i=k then x else f i
variable {lg:Nat->Bool} {rt:Nat->Option Nat} {L:List Nat} {c:Nat->Int} {k:Nat}
theorem Q2t.start (lg:Nat->Bool) (rt:Nat->Option Nat) (c:Nat->Int):Q2t lg rt [] c 0:=⟨Nat.le_refl _,fun j hj=>by omega,fun j hj=>by omega⟩
theorem Q2t.skip (h:Q2t lg rt L c k) (hl:lg k=true):Q2t lg rt L (X1j c k (-1)) (k+1):=by
 refine⟨by have:=h.len;omega,fun j hj hlj=>?_,fun j hj hlj=>?_⟩
 . show(if j=k then (-1:Int) else c j)=-1;split
   . rfl
   . exact h.leg j (by omega) hlj
 . have hne:j≠k:=fun e=>by rw[e,hl] at hlj;cases hlj
   obtain⟨r,h1,h2,h3⟩:=h.out j (by omega) hlj;exact⟨r,h1,h2,by show(if j=k then (-1:Int) else c j)=_;rw[if_neg hne];exact h3⟩
theorem Q2t.old (h:Q2t lg rt L c k) (hl:lg k=false) {r:Nat} (hr:rt k=some r) (hm:r∈L):Q2t lg rt L (X1j c k (L.idxOf r:Nat)) (k+1):=by
 refine⟨by have:=h.len;omega,fun j hj hlj=>?_,fun j hj hlj=>?_⟩
 . have hne:j≠k:=fun e=>by rw[e,hl] at hlj;cases hlj
   show(if j=k then _ else c j)=-1;rw[if_neg hne];exact h.leg j (by omega) hlj
 . by_cases hne:j=k
   . subst hne;exact⟨r,hr,hm,if_pos rfl⟩
   . obtain⟨r',h1,h2,h3⟩:=h.out j (by omega) hlj;exact⟨r',h1,h2,by show(if j=k then _ else c j)=_;rw[if_neg hne];exact h3⟩
theorem Q2t.new (h:Q2t lg rt L c k) (hl:lg k=false) {r:Nat} (hr:rt k=some r) (hm:r∉L):Q2t lg rt (L++[r]) (X1j c k (L.length:Nat)) (k+1):=by
 refine⟨by have:=h.len;rw[List.length_append,List.length_singleton];omega,fun j hj hlj=>?_,fun j hj hlj=>?_⟩
 . have hne:j≠k:=fun e=>by rw[e,hl] at hlj;cases hlj
   show(if j=k then _ else c j)=-1;rw[if_neg hne];exact h.leg j (by omega) hlj
 . by_cases hne:j=k
   . subst hne;refine⟨r,hr,by simp,?_⟩;show(if j=j then _ else c j)=_;rw[if_pos rfl,List.idxOf_append,if_neg hm];simp
   . obtain⟨r',h1,h2,h3⟩:=h.out j (by omega) hlj;refine⟨r',h1,by simp[h2],?_⟩;show(if j=k then _ else c j)=_;rw[if_neg hne,h3,List.idxOf_append,if_pos h2]
structure Q36 (s:Tsy) (lg:Nat->Bool) (c:Nat->Int):Prop where
 leg:∀k,k<s.n->lg k=true->c k=-1
 out:∀k,k<s.n->lg k=false->0<=c k/\c k<s.n
 scc:∀j k,j<s.n->k<s.n->lg j=false->lg k=false->c j=c k->Tj.Rch s.to lg j k
theorem Q2t.done {s:Tsy} {x:Tj.S} (h:Q2t lg x.rt L c s.n) (hI:Tj.Inv s.n s.to lg none x):Q36 s lg c:=by
 refine⟨h.leg,fun k hk hl=>?_,fun j k hj hk hlj hlk e=>?_⟩
 . obtain⟨r,h1,h2,h3⟩:=h.out k hk hl;have:=List.idxOf_lt_length_of_mem h2;have:=h.len;omega
 . obtain⟨r,h1,h2,h3⟩:=h.out j hj hlj;obtain⟨r',h1',h2',h3'⟩:=h.out k hk hlk;have e2:L.idxOf r=L.idxOf r':=by omega
   have e3:r=r':=by
    have a:=List.getElem_idxOf (List.idxOf_lt_length_of_mem h2);have b:=List.getElem_idxOf (List.idxOf_lt_length_of_mem h2');rw[<- a,<- b];simp only[e2]
   subst e3;exact hI.scc j k r h1 h1'
end Go.Proofs.YtlpfphlbghdokaaGreatDoor
namespace Go.Proofs.YtlpfphlbghdokaaGreatDoor
open Go.Eng Go.Plain
set_option maxRecDepth 100000
set_option linter.unusedVariables false
def vIc (c:Nat->Int):Nat->Nat->V:=fun i _=>.int .i64 (c i)
def X1i (k:Nat):Nat->Nat->V:=fun i _=>.int .i64 (if i<k then -1 else 0)
theorem Q89 (k k' i j:Nat) (hk:k'=k) (hj:j<1):VLe (J0L (X1i k) k' 0 [.int .i64 (-1)] i j) (X1i (k+1) i j):=by
 obtain rfl:j=0:=by omega
 subst hk;apply VLe.of_eq;rw[X1i];by_cases h:i=k'
 . subst h;simp[J0L]
 . have:(i<k'+1)↔i<k':=by omega
   simp[J0L,X1i,h,this]
theorem Q5l (i j:Nat) (hj:j<1):VLe ((fun(_ j:Nat)=>[V.int .i64 0].getD j default) i j) (X1i 0 i j):=by
 obtain rfl:j=0:=by omega
 exact VLe.of_eq (by show V.int .i64 0=V.int .i64 (if i<0 then -1 else 0);rw[if_neg (by omega)])
theorem Q9a (n i j:Nat) (hi:i<n):VLe (X1i n i j) (vRt (fun _=>none) i j):=VLe.of_eq (by rw[X1i,if_pos hi];rfl)
theorem Q1t (c:Nat->Int) (k k':Nat) (x:Int) (a:Int) (hk:k'=k) (ha:x=a) (i j:Nat) (hj:j<1):VLe (J0L (vIc c) k' 0 [.int .i64 x] i j) (vIc (X1j c k a) i j):=by
 obtain rfl:j=0:=by omega
 subst hk;subst ha;apply VLe.of_eq;rw[vIc,X1j];by_cases h:i=k'
 . subst h;simp[J0L]
 . simp[J0L,vIc,h]
theorem Q9b (i j:Nat) (hj:j<1):VLe ((fun(_ j:Nat)=>[V.int .i64 0].getD j default) i j) (vIc (fun _=>0) i j):=by
 obtain rfl:j=0:=by omega
 exact VLe.rfl
def x0T:Tj.S:=⟨fun _=>0,fun _=>0,fun _=>none,0,[],[]⟩
theorem X5d (s:Tsy) (x:Tj.S):unW s x<=s.n:=by
 have:=Q1B (fun j=>if x.idx j=0 then 1 else 0) 1 (fun k=>by split<;>omega) s.n;rw[unW];omega
def wkB (s:Tsy) (lg:Nat->Bool) (x:Tj.S):List V:=[.fz s.n 1 false (vEn s),.fz s.n 1 false (Q9g s),blV s.n lg,.vec 1 1 0 s.n,.vec 2 1 0 s.n,.vec 3 1 0 s.n,.int .i64 x.found,.vec 5 1 0 x.pend.length]
def X5K (s:Tsy) (lg:Nat->Bool) (x:Tj.S):Own:=[(4,.cells (wkB s lg x)),(3,.vec s.n 1 (vRt x.rt)),(2,.vec s.n 1 (vEt x.low)),(1,.vec s.n 1 (vEt x.idx)),(5,.vec x.pend.length 1 (vQ x.pend.reverse)),(0,.cells [.fz s.n 1 false (vEn s),.fz s.n 1 false (Q9g s)])]
structure X2n (s:Tsy) (lg:Nat->Bool) (k:Nat) (x:Tj.S):Prop where
 inv:Tj.Inv s.n s.to lg none x
 way:x.way=[]
 cnt:x.found+unW s x<=s.n
 all:∀j,j<k->lg j=false->x.idx j≠0
theorem X2n.next {s:Tsy} {lg:Nat->Bool} {k:Nat} {x y:Tj.S} (h:X2n s lg k x) (hl:lg k=false) (hy:WkI s lg k x y) (hw:y.way=[]):X2n s lg (k+1) y :=
 ⟨hy.inv,hw,hy.cnt,fun j hj hlj=>by
   by_cases e:j=k
   . subst e;exact hy.has
   . exact hy.mono j (h.all j (by omega) hlj)⟩
theorem X2n.skip {s:Tsy} {lg:Nat->Bool} {k:Nat} {x:Tj.S} (h:X2n s lg k x) (hl:lg k=true\/x.idx k≠0):X2n s lg (k+1) x :=
 ⟨h.inv,h.way,h.cnt,fun j hj hlj=>by
   by_cases e:j=k
   . subst e;rcases hl with hl|hl
     . rw[hl] at hlj;cases hlj
     . exact hl
   . exact h.all j (by omega) hlj⟩
theorem X5j {s:Tsy} (hs:s.Ok):∀k,k<s.n->∀t∈s.to k,t<s.n:=fun k hk t ht=>by
 obtain⟨a,ha,rfl⟩:=List.mem_map.1 ht;exact(hs.arc k hk a ha).2.2
set_option maxHeartbeats 16000000 in
theorem J9o (s:Tsy) (hs:s.Ok) (lg:Nat->Bool):Q8M Tryz.prog 44 [s.v,blV s.n lg] fun v=>∃c,Q36 s lg c/\v=.fz s.n 1 false (vIc c):=by
 have n1:=hs.n1;have n2:=hs.n2;refine Q9F rfl ?_;refine J0d J0b Tryz.func44 rfl hc44 hr44 rfl ?_
 repeat' ((conv=>whnf);first|(refine Bd.nat (by omega) ?_)|(refine Len.mk (by omega) ?_)|(refine MkS.vec ?_))
 all_goals (conv=>whnf)
 refine J02 J0b [1,5,26] [] [5,6,7,8,9,10,11,12,13,14,15,16,17,18,19,20,21,22,23,24,25,26,27,28,29] [4,3,2,1,0] (fun i:Nat=>[(27,.int .i64 i)]) (fun own i=>J1I own 3 (.vec s.n 1 (X1i i))) (fun m i=>m=s.n-i/\i<=s.n) s.n 0 ⟨rfl,Nat.zero_le _⟩ rfl (fun _=>rfl) ?_ ?_
 . refine J0f (fun _ _=>[(4,some 4),(3,some 3),(2,some 2),(1,some 1),(0,some 0)]) ?_ ?_ rfl
   . repeat' (first|exact True.intro|(refine⟨⟨_,rfl,?_⟩,?_⟩)|exact J0a.kf rfl|exact J0a.loc rfl)
   . repeat' (first|exact Q5l _ _ hj|exact True.intro|(refine⟨⟨_,rfl,?_⟩,?_⟩)|exact J0a.kf rfl|exact J0a.vec rfl rfl rfl|(refine⟨Nat.le_refl _,rfl,fun i j hi hj=>?_⟩)|exact VLe.rfl|(refine And.intro ?_ ?_))
 rintro m i ⟨hm,hi⟩;by_cases hin:i<s.n
 . repeat' ((conv=>whnf);first|(refine Br.dec ?_ ?_<;>intro _<;>try omega)|(refine Ar.i64 (by omega) (by omega) ?_)|(refine Ix.nat (by omega) ?_)|(refine Ltn.mk (by omega) ?_))
   all_goals (conv=>whnf)
   refine⟨s.n-(i+1),i+1,by omega,⟨rfl,by omega⟩,?_⟩;refine J0f (fun _ _=>[(4,some 4),(3,some 3),(2,some 2),(1,some 1),(0,some 0)]) ?_ ?_ rfl
   . repeat' (first|exact True.intro|(refine⟨⟨_,rfl,?_⟩,?_⟩)|exact J0a.kf rfl|exact J0a.loc rfl)
   . repeat' (first|exact Q89 _ _ _ _ (Nat.zero_add _) hj|exact True.intro|(refine⟨⟨_,rfl,?_⟩,?_⟩)|exact J0a.kf rfl|exact J0a.vec rfl rfl rfl|(refine⟨Nat.le_refl _,rfl,fun i j hi hj=>?_⟩)|exact VLe.rfl|(refine And.intro ?_ ?_))
 have ei:i=s.n:=by omega
 subst ei
 repeat' ((conv=>whnf);first|(refine Br.dec ?_ ?_<;>intro _<;>try omega))
 all_goals (conv=>whnf)
 have hst:X2n s lg 0 x0T:=⟨Tj.Inv.start (X5j hs),rfl,by have:=X5d s x0T;show 0+_<=_;omega,fun j hj=>by omega⟩;refine J1v J0b [1,5,36] [5] [6,7,8,9,10,11,12,13,14,15,16,17,18,19,20,21,22,23,24,25,26,27,28,29] [4,3,2,1,5,0] (fun y:Nat×Tj.S=>[(37,.int .i64 y.1)]) (fun y=>X5K s lg y.2) (fun m y=>m=s.n-y.1/\y.1<=s.n/\X2n s lg y.1 y.2) s.n (0,x0T) ⟨rfl,Nat.zero_le _,hst⟩ rfl (fun _=>rfl) ?_ ?_
 . refine J0f (fun _ _=>[(4,some 4),(3,some 3),(2,some 2),(1,some 1),(5,none),(0,some 0)]) ?_ ?_ rfl
   . repeat' (first|exact True.intro|(refine⟨⟨_,rfl,?_⟩,?_⟩)|exact J0a.kf rfl|exact J0a.loc rfl)
   . repeat' (first|exact Q9a _ _ _ hi|exact Q9c _ _ hj|exact True.intro|(refine⟨⟨_,rfl,?_⟩,?_⟩)|exact J0a.kf rfl|exact J0a.vec rfl rfl rfl|exact J0a.nil rfl rfl|(refine⟨Nat.le_refl _,rfl,fun i j hi hj=>?_⟩)|(refine⟨⟨_,_,rfl⟩,?_⟩)|(refine And.intro ?_ ?_))
 rintro m p ⟨hm,hq,hA⟩;by_cases hqn:p.1<s.n
 . cases hlg:lg p.1 with
   | true =>
     repeat' ((conv=>whnf);first|(refine Br.mk (fun _=>?_) (fun e=>Bool.noConfusion (e.symm.trans hlg)))|(refine Br.dec ?_ ?_<;>intro _<;>try omega)|(refine Ar.i64 (by omega) (by omega) ?_)|(refine Ix.nat (by omega) ?_))
     all_goals (conv=>whnf)
     refine⟨s.n-(p.1+1),(p.1+1,p.2),by omega,⟨rfl,hqn,hA.skip (.inl hlg)⟩,?_⟩;exact J0k (fun _ _=>[(4,some 4),(3,some 3),(2,some 2),(1,some 1),(5,some 5),(0,some 0)])
   | false =>
     by_cases hi0:p.2.idx p.1=0
     . have hi2:p.2.idx (0+p.1)=0:=by rw[Nat.zero_add];exact hi0
       have hcall:=Q4j s hs lg p.1 p.2 hA.inv hA.way hA.cnt hqn hlg hi0
       repeat' ((conv=>whnf);first|(refine Br.mk (fun e=>Bool.noConfusion (e.symm.trans hlg)) (fun _=>?_))|(refine Br.dec ?_ ?_<;>intro _<;>try omega)|(refine Ar.i64 (by omega) (by omega) ?_)|(refine Ix.nat (by omega) ?_)|(refine Ltn.mk (by omega) ?_)|(refine Chk.mk (by kernel_rfl) ?_)|(refine J10 [(0,some 4),(1,some 1),(2,some 2),(3,some 3),(4,some 5)] [6] (hcall.mono ?_) ⟨J0a.loc rfl,J0a.kf rfl,True.intro⟩ (by repeat' (first|exact True.intro|(refine⟨⟨_,rfl,?_⟩,?_⟩)|exact J0a.kf rfl|exact J0a.vec rfl rfl rfl|(refine⟨Nat.le_refl _,rfl,fun i j hi hj=>?_⟩)|exact VLe.rfl|(refine And.intro ?_ ?_))) rfl;rintro _ _ _ ⟨rfl,z,hZ,hzw,rfl⟩))
       all_goals (conv=>whnf)
       refine⟨s.n-(p.1+1),(p.1+1,z),by omega,⟨rfl,hqn,hA.next hlg hZ hzw⟩,?_⟩;exact J0k (fun env own=>[(4,some 4),(3,some 3),(2,some 2),(1,some 1),(5,Q2f own 4 7),(0,some 0)])
     . have hi2:p.2.idx (0+p.1)≠0:=by rw[Nat.zero_add];exact hi0
       repeat' ((conv=>whnf);first|(refine Br.mk (fun e=>Bool.noConfusion (e.symm.trans hlg)) (fun _=>?_))|(refine Br.dec ?_ ?_<;>intro _<;>try omega)|(refine Ar.i64 (by omega) (by omega) ?_)|(refine Ix.nat (by omega) ?_)|(refine Ltn.mk (by omega) ?_))
       all_goals (conv=>whnf)
       refine⟨s.n-(p.1+1),(p.1+1,p.2),by omega,⟨rfl,hqn,hA.skip (.inr hi0)⟩,?_⟩;exact J0k (fun _ _=>[(4,some 4),(3,some 3),(2,some 2),(1,some 1),(5,some 5),(0,some 0)])
 . have eq:p.1=s.n:=by omega
   rw[eq] at hA;have hid:=hA.inv.idle hA.way;have hrt:∀k,k<s.n->lg k=false->∃r,p.2.rt k=some r:=fun k hk hl=>hid.2 k hk hl (hA.all k hk hl);have he:=X31
   repeat' ((conv=>whnf);first|(refine Br.dec ?_ ?_<;>intro _<;>try omega)|(refine Bd.nat (by omega) ?_)|(refine Len.mk (by omega) ?_)|(refine MkS.vec ?_))
   all_goals (conv=>whnf)
   refine J1v J0b [1,5,8,9,61] [] [8,9,10,11,12,13,14,15,16,17,18,19,20,21,22,23,24,25,26,27,28,29] [7,6,4,3,2,1,5,0] (fun z:Nat×List Nat×(Nat->Int)=>[(62,.int .i64 z.1)]) (fun z=>(7,.vec s.n 1 (vIc z.2.2))::(6,.map (.one .i64) (enR z.2.1))::X5K s lg p.2) (fun m z=>m=s.n-z.1/\z.1<=s.n/\Q2t lg p.2.rt z.2.1 z.2.2 z.1) s.n (0,[],fun _=>0) ⟨rfl,Nat.zero_le _,Q2t.start _ _ _⟩ rfl (fun _=>rfl) ?_ ?_
   . refine J0f (fun _ _=>[(7,some 7),(6,some 6),(4,some 4),(3,some 3),(2,some 2),(1,some 1),(5,some 5),(0,some 0)]) ?_ ?_ rfl
     . repeat' (first|exact True.intro|exact J0a.map rfl|(refine⟨⟨_,rfl,?_⟩,?_⟩)|exact J0a.kf rfl|exact J0a.loc rfl|exact J0a.vec rfl rfl rfl)
     . repeat' (first|exact⟨rfl,he⟩|exact Q9b _ _ hj|exact True.intro|(refine⟨⟨_,rfl,?_⟩,?_⟩)|exact J0a.kf rfl|exact J0a.vec rfl rfl rfl|(refine⟨Nat.le_refl _,rfl,fun i j hi hj=>?_⟩)|exact VLe.rfl|(refine And.intro ?_ ?_))
   rintro m2 z ⟨hm2,hz,hN⟩;have hNl:=hN.len;by_cases hzn:z.1<s.n
   . cases hlg:lg z.1 with
     | true =>
       repeat' ((conv=>whnf);first|(refine Br.mk (fun _=>?_) (fun e=>Bool.noConfusion (e.symm.trans hlg)))|(refine Br.dec ?_ ?_<;>intro _<;>try omega)|(refine Ar.i64 (by omega) (by omega) ?_)|(refine Ix.nat (by omega) ?_)|(refine Ltn.mk (by omega) ?_))
       all_goals (conv=>whnf)
       refine⟨s.n-(z.1+1),(z.1+1,z.2.1,X1j z.2.2 z.1 (-1)),by omega,⟨rfl,hzn,hN.skip hlg⟩,?_⟩;refine J0f (fun _ _=>[(7,some 7),(6,some 6),(4,some 4),(3,some 3),(2,some 2),(1,some 1),(5,some 5),(0,some 0)]) ?_ ?_ rfl
       . repeat' (first|exact True.intro|exact J0a.map rfl|(refine⟨⟨_,rfl,?_⟩,?_⟩)|exact J0a.kf rfl|exact J0a.loc rfl|exact J0a.vec rfl rfl rfl)
       . repeat' (first|exact⟨rfl,rfl⟩|exact Q1t _ _ _ _ _ (Nat.zero_add _) rfl _ _ hj|exact True.intro|(refine⟨⟨_,rfl,?_⟩,?_⟩)|exact J0a.kf rfl|exact J0a.vec rfl rfl rfl|(refine⟨Nat.le_refl _,rfl,fun i j hi hj=>?_⟩)|exact VLe.rfl|(refine And.intro ?_ ?_))
     | false =>
       obtain⟨r,hr⟩:=hrt z.1 hzn hlg;have hr2:rtI p.2.rt (0+z.1)=r:=by rw[Nat.zero_add,rtI,hr]
       repeat' ((conv=>whnf);first|(refine Br.mk (fun e=>Bool.noConfusion (e.symm.trans hlg)) (fun _=>?_))|(refine Br.dec ?_ ?_<;>intro _<;>try omega)|(refine Ar.i64 (by omega) (by omega) ?_)|(refine Ix.nat (by omega) ?_)|(refine Ltn.mk (by omega) ?_)|(refine Q6G (r:=r) hr2 (fun hin=>?_) (fun hout=>?_)))
       all_goals (conv=>whnf)
       . refine⟨s.n-(z.1+1),(z.1+1,z.2.1,X1j z.2.2 z.1 (z.2.1.idxOf r:Nat)),by omega,⟨rfl,hzn,hN.old hlg hr hin⟩,?_⟩;refine J0f (fun _ _=>[(7,some 7),(6,some 6),(4,some 4),(3,some 3),(2,some 2),(1,some 1),(5,some 5),(0,some 0)]) ?_ ?_ rfl
         . repeat' (first|exact True.intro|exact J0a.map rfl|(refine⟨⟨_,rfl,?_⟩,?_⟩)|exact J0a.kf rfl|exact J0a.loc rfl|exact J0a.vec rfl rfl rfl)
         . repeat' (first|exact⟨rfl,rfl⟩|exact Q1t _ _ _ _ _ (Nat.zero_add _) rfl _ _ hj|exact True.intro|(refine⟨⟨_,rfl,?_⟩,?_⟩)|exact J0a.kf rfl|exact J0a.vec rfl rfl rfl|(refine⟨Nat.le_refl _,rfl,fun i j hi hj=>?_⟩)|exact VLe.rfl|(refine And.intro ?_ ?_))
       . have hput:enR (z.2.1++[r])=mput (enR z.2.1) (rtI p.2.rt (0+z.1)) (.int .i64 ((enR z.2.1).length:Nat)):=by
          rw[hr2];exact(X28 hout (Q7H _)).symm
         refine⟨s.n-(z.1+1),(z.1+1,z.2.1++[r],X1j z.2.2 z.1 (z.2.1.length:Nat)),by omega,⟨rfl,hzn,hN.new hlg hr hout⟩,?_⟩;refine J0f (fun _ _=>[(7,some 7),(6,some 6),(4,some 4),(3,some 3),(2,some 2),(1,some 1),(5,some 5),(0,some 0)]) ?_ ?_ rfl
         . repeat' (first|exact True.intro|exact J0a.map rfl|(refine⟨⟨_,rfl,?_⟩,?_⟩)|exact J0a.kf rfl|exact J0a.loc rfl|exact J0a.vec rfl rfl rfl)
         . repeat' (first|exact⟨rfl,hput⟩|exact Q1t _ _ _ _ _ (Nat.zero_add _) (by rw[Q7H]) _ _ hj|exact True.intro|(refine⟨⟨_,rfl,?_⟩,?_⟩)|exact J0a.kf rfl|exact J0a.vec rfl rfl rfl|(refine⟨Nat.le_refl _,rfl,fun i j hi hj=>?_⟩)|exact VLe.rfl|(refine And.intro ?_ ?_))
   . have ez:z.1=s.n:=by omega
     rw[ez] at hN;have hC:=hN.done hA.inv
     repeat' ((conv=>whnf);first|(refine Br.dec ?_ ?_<;>intro _<;>try omega)|(refine Len.mk (by omega) ?_))
     all_goals (conv=>whnf)
     exact⟨_,⟨z.2.2,hC,rfl⟩,VLe.fz rfl (fun h=>h) (fun a b ha hb=>VLe.of_eq (by rw[J0E,Nat.zero_add]))⟩
end Go.Proofs.YtlpfphlbghdokaaGreatDoor
