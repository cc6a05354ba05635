import Derived.Test.YtlpfphlbghdokaaGreatDoorAN1
import Derived.Test.YtlpfphlbghdokaaGreatDoorEngAC
namespace Go.Eng
open Go.Plain
set_option linter.unusedVariables false
structure Tsy where
 n:Nat
 en:Nat->Nat
 ar:Nat->List (Nat×Nat)
def gA (l:List (Nat×Nat)) (i:Nat):Nat×Nat:=l.getD i (0,0)
def vAr (l:List (Nat×Nat)):Nat->Nat->V:=fun i j=>match j with
 | 0=>.int .u32 (gA l i).1
 | _=>.int .i64 (gA l i).2
def arV (l:List (Nat×Nat)):V:=.fz l.length 2 false (vAr l)
def vEn (s:Tsy):Nat->Nat->V:=fun i _=>.int .u32 (s.en i)
def X0a (s:Tsy):Nat->Nat->V:=fun i _=>arV (s.ar i)
def Tsy.v (s:Tsy):V:=.agg [.fz s.n 1 false (vEn s),.fz s.n 1 false (X0a s)]
def Tsy.to (s:Tsy) (k:Nat):List Nat:=(s.ar k).map (·.2)
def J70 (f:Nat->Nat):Nat->Nat
 | 0=>0
 | k+1=>J70 f k+f k
theorem J3b (f:Nat->Nat) {a b:Nat} (h:a<=b):J70 f a<=J70 f b:=by
 induction b with
 | zero =>
   obtain rfl:a=0:=by omega
   exact Nat.le_refl _
 | succ b ih =>
   by_cases e:a=b+1
   . subst e;exact Nat.le_refl _
   . have:=ih (by omega);rw[J70];omega
theorem Q2f (f:Nat->Nat) (m:Nat) (h:∀k,f k<=m):∀n,J70 f n<=n*m
 | 0=>by simp[J70]
 | n+1=>by have:=Q2f f m h n;have:=h n;rw[J70,Nat.add_mul];omega
def Tsy.tot (s:Tsy) (k:Nat):Nat:=J70 (fun k=>(s.ar k).length) k
structure Tsy.Ok (s:Tsy):Prop where
 n1:1<=s.n
 n2:s.n<=32768
 en:∀k,k<s.n->s.en k<16777216
 ne:∀k,k<s.n->(s.en k≠0↔s.ar k≠[])
 sort:∀k,k<s.n->(s.ar k).Pairwise fun a b=>a.1<b.1
 arc:∀k,k<s.n->∀a∈s.ar k,a.1≠0/\J2e a.1 (s.en k)/\a.2<s.n
 tot:s.tot s.n<=262144
theorem Tsy.Ok.row {s:Tsy} (h:s.Ok) {k:Nat} (hk:k<s.n):(s.ar k).length<=262144:=by
 have h1:=h.tot;have h2:=J3b (fun k=>(s.ar k).length) (show k+1<=s.n by omega);rw[Tsy.tot] at h1;rw[J70] at h2;omega
theorem J5a {l:List (Nat×Nat)} {i:Nat} (h:i<l.length):gA l i∈l:=by
 rw[gA,List.getD_eq_getElem?_getD,List.getElem?_eq_getElem h];exact List.getElem_mem h
theorem Y2C {l:List (Nat×Nat)} (h:l.Pairwise fun a b=>a.1<b.1) {i j:Nat} (hij:i<j) (hj:j<l.length):(gA l i).1<(gA l j).1:=by
 have:=List.pairwise_iff_getElem.1 h i j (by omega) hj hij;simpa[gA,List.getD_eq_getElem?_getD,List.getElem?_eq_getElem hj,List.getElem?_eq_getElem (show i<l.length by omega)] using this
def blV (n:Nat) (b:Nat->Bool):V:=.fz n 1 false fun i _=>.bool (b i)
def gQ (l:List Nat) (i:Nat):Nat:=l.getD i 0
def vQ (l:List Nat):Nat->Nat->V:=fun i _=>.int .i64 (gQ l i)
theorem X7w {l:List Nat} {i:Nat} (h:i<l.length):gQ l i∈l:=by
 rw[gQ,List.getD_eq_getElem?_getD,List.getElem?_eq_getElem h];exact List.getElem_mem h
theorem Q2D (l:List Nat) (a i:Nat):gQ (l++[a]) i=if i<l.length then gQ l i else if i=l.length then a else 0:=by
 by_cases h:i<l.length
 . simp only[gQ,List.getD,List.getElem?_append_left h,if_pos h]
 . rw[if_neg h];by_cases h2:i=l.length
   . subst h2;simp[gQ]
   . simp[gQ,h2,List.getElem?_eq_none (by simp;omega:(l++[a]).length<=i)]
theorem J84 (l:List Nat) (a:Nat) (F:Nat->Nat->V) (x:Int) (hF:F 0 0=.int .i64 x) (hx:x=a) (n i j:Nat) (hn:n=l.length) (hi:i<l.length+1) (hj:j<1):VLe (J5i (J0j 0 (vQ l)) n (J0j 0 F) i j) (vQ (l++[a]) i j):=by
 obtain rfl:j=0:=by omega
 subst hn;apply VLe.of_eq;rw[vQ,Q2D];by_cases h:i<l.length
 . rw[J2a h,J0w,Nat.zero_add,if_pos h];rfl
 . rw[J2b h,if_neg h];have:i=l.length:=by omega
   subst this;simp[J0j,hF,hx]
instance instKySAny (l:List IntKind):DecidableEq (KyS l):=KyS.dec l
abbrev KP:List IntKind:=[.i64,.u32]
def kyP (p:Nat×Nat):KyT (.st KP):=((p.1:Int),(p.2:Int),())
structure Q1R (s:Tsy) (lg:Nat->Bool) (m:Nat) (L:List (Nat×Nat)):Prop where
 nodup:L.Nodup
 ok:∀p∈L,p.1<s.n/\p.2<m
 leg:∀p∈L,lg p.1=false
theorem Q1R.nil (s:Tsy) (lg:Nat->Bool) (m:Nat):Q1R s lg m []:=⟨.nil,fun p h=>(by cases h),fun p h=>(by cases h)⟩
theorem Q1R.snoc {s:Tsy} {lg:Nat->Bool} {m:Nat} {L:List (Nat×Nat)} (h:Q1R s lg m L) {p:Nat×Nat} (hp:p.1<s.n/\p.2<m) (hl:lg p.1=false) (hn:p∉L):Q1R s lg m (L++[p]):=by
 refine⟨?_,fun q hq=>?_,fun q hq=>?_⟩
 . rw[List.nodup_append];exact⟨h.nodup,by simp,fun a ha b hb e=>hn (by simp at hb;rw[<- hb,<- e];exact ha)⟩
 . rcases List.mem_append.1 hq with h1|h1
   . exact h.ok q h1
   . simp at h1;subst h1;exact hp
 . rcases List.mem_append.1 hq with h1|h1
   . exact h.leg q h1
   . simp at h1;subst h1;exact hl
structure MQ (s:Tsy) (lg:Nat->Bool) (Q:Nat->Nat->Prop):Prop where
 zero:∀k,k<s.n->lg k=false->Q k 0
 step:∀k a v,k<s.n->lg k=false->a∈s.ar k->(lg a.2=false->Q a.2 v)->(lg a.2=true->v=0)->Q k (cnt a.1 32+v)
 max:∀k a b,Q k a->Q k b->Q k (max a b)
end Go.Eng
namespace Go.Eng
open Go.Plain
def Q5l (F:Nat->List Nat):Nat->Nat:=fun t=>(F t).length
def X39 (F:Nat->List Nat):Nat->Nat->Nat->V:=fun t=>vQ (F t)
def X54 (F:Nat->List Nat) (t x:Nat):Nat->List Nat:=fun u=>if u=t then F u++[x] else F u
def X8s (b:Bool) (t q:Nat):List (Nat×Nat):=if b then[(t,q)] else[]
theorem Q34 (F:Nat->List Nat) (t x i:Nat):Q5l (X54 F t x) i=if i=t then (F t).length+1 else Q5l F i:=by
 rw[Q5l,X54];by_cases h:i=t
 . subst h;simp
 . rw[if_neg h,if_neg h];rfl
theorem Q4o {F F':Nat->List Nat} {t x n:Nat} (hF:F'=X54 F t x) {g:Nat->Nat->V} (hg:∀j u,j<(F t).length+1->u<1->VLe (g j u) (vQ (F t++[x]) j u)) (ρ:Rn) :
 X5P ρ (.fam n 1 (J2R (Q5l F) t ((F t).length+1)) (J3t (X39 F) t g) []) (.fam n 1 (Q5l F') (X39 F') []):=by
 subst hF;refine⟨rfl,rfl,True.intro,fun i hi=>?_,fun i j u hi hn hj hu=>?_⟩
 . rw[Q34];rfl
 . simp only[J3t,X39,X54];simp only[J2R] at hj;by_cases e:i=t
   . rw[if_pos e,if_pos e];rw[if_pos e] at hj;rw[e];exact hg j u hj hu
   . rw[if_neg e,if_neg e];exact VLe.rfl
theorem ksC {c:List Nat} {q:Nat} {chg:List Nat} (h:J06 q chg=true):∀k,k∈(q::c)->k∈c\/k∈chg:=fun k hk=>by
 rcases List.mem_cons.1 hk with e|e
 . exact .inr (by rw[e];exact J0m.1 h)
 . exact .inl e
theorem ksS {a b chg:List Nat} (h:(a.all fun k=>J06 k b)=true):∀k,k∈a->k∈b\/k∈chg:=fun k hk=>.inl (J0m.1 (List.all_eq_true.1 h k hk))
end Go.Eng
namespace Go.Proofs.YtlpfphlbghdokaaGreatDoor
open Go.Eng Go.Plain
set_option maxRecDepth 100000
set_option linter.unusedVariables false
def X5D (l:List (Nat×Nat)) (i:Nat):Nat:=if i=0 then 0 else (gA l (i-1)).1
theorem Q45 (e:Nat) (l:List (Nat×Nat)) (n:Nat) (he:e<16777216) (hne:e≠0↔l≠[]) (hs:l.Pairwise fun a b=>a.1<b.1) (ha:∀a∈l,a.1≠0/\J2e a.1 e/\a.2<n) (hn:n<=32768) (hl:l.length<=262144) :
 Ret Tryz.prog 120 [.int .u32 e,arV l,.int .i64 n] (.bool true):=by
 have h24:(e:Int).fdiv (2 ^ (min (24:Int).toNat IntKind.u32.bits))=0:=by
  have:(min (24:Int).toNat IntKind.u32.bits)=24:=by decide
  rw[this,J6q,Nat.shiftRight_eq_div_pow,Nat.div_eq_of_lt (by omega)];rfl
 have hlen:e≠0↔0<l.length:=by rw[hne,List.length_pos_iff]
 have hl0:e=0->l.length=0:=fun h=>by
  rcases Nat.eq_zero_or_pos l.length with q|q
  . exact q
  . exact(hlen.2 q h).elim
 have hl1:l.length=0->e=0:=fun h=>Classical.byContradiction fun q=>by have:=hlen.1 q;omega
 refine J0g rfl ?_;refine J0c J0b Tryz.func120 rfl Y2j Y1w rfl ?_;have hcase:(e=0/\l.length=0)\/(e≠0/\0<l.length):=by
  rcases Nat.eq_zero_or_pos e with h|h
  . exact .inl ⟨h,hl0 h⟩
  . exact .inr ⟨by omega,hlen.1 (by omega)⟩
 rcases hcase with ⟨e1,e2⟩ | ⟨e1,e2⟩
 . repeat' ((conv=>whnf);first|(refine Sv.mk 0 h24.symm ?_)|(refine Br.ff ?_)|(refine Br.dec ?_ ?_<;>intro _<;>try omega)|(refine Br.bne ?_ ?_<;>intro _<;>try omega)|(refine Nn.mk (by omega) ?_))
   all_goals (conv=>whnf)
   refine J0N J0b [0,2,21,22] (fun i:Nat=>[(7,.int .u32 (X5D l i)),(23,.int .i64 i)]) (fun m i=>m=l.length-i/\i<=l.length) l.length 0 ⟨rfl,Nat.zero_le _⟩ ?_ ?_
   . exact J0k (fun _ _=>[])
   rintro m i ⟨hm,hi⟩
   repeat' ((conv=>whnf);first|(refine Br.dec ?_ ?_<;>intro _<;>try omega))
   all_goals (conv=>whnf)
   exact VLe.rfl
 . repeat' ((conv=>whnf);first|(refine Sv.mk 0 h24.symm ?_)|(refine Br.ff ?_)|(refine Br.dec ?_ ?_<;>intro _<;>try omega)|(refine Br.bne ?_ ?_<;>intro _<;>try omega)|(refine Nn.mk (by omega) ?_))
   all_goals (conv=>whnf)
   refine J0N J0b [0,2,21,22] (fun i:Nat=>[(7,.int .u32 (X5D l i)),(23,.int .i64 i)]) (fun m i=>m=l.length-i/\i<=l.length) l.length 0 ⟨rfl,Nat.zero_le _⟩ ?_ ?_
   . exact J0k (fun _ _=>[])
   rintro m i ⟨hm,hi⟩;by_cases hil:i<l.length
   . obtain⟨a1,a2,a3⟩:=ha _ (J5a hil);have a4:=a2.le;have a5:X5D l i<(gA l i).1:=by
      rw[X5D];split
      . omega
      . exact Y2C hs (by omega) hil
     have hnx:X5D l (i+1)=(gA l i).1:=by rw[X5D,if_neg (by omega),Nat.add_sub_cancel]
     have hd:J20 .andNot .u32 ((gA l i).1:Int) (e:Int)=0:=by rw[J4g (by omega) (by omega),(J1S (by omega)).2 a2];rfl
     generalize X5D l i=b at *
     repeat' ((conv=>whnf);first|(refine Sv.mk 0 hd.symm ?_)|(refine Br.ff ?_)|(refine Br.dec ?_ ?_<;>intro _<;>try omega)|(refine Ar.q ?_)|(refine Ix.q ?_))
     all_goals (conv=>whnf)
     refine⟨l.length-(i+1),i+1,by omega,⟨rfl,by omega⟩,?_⟩;simp only[hnx];exact J0k (fun _ _=>[])
   . repeat' ((conv=>whnf);first|(refine Br.dec ?_ ?_<;>intro _<;>try omega))
     all_goals (conv=>whnf)
     exact VLe.rfl
theorem Q6x (s:Tsy) (hs:s.Ok):Ret Tryz.prog 78 [s.v] (.bool true):=by
 have n1:=hs.n1;have n2:=hs.n2;refine J0g rfl ?_;refine J0c J0b Tryz.func78 rfl hc78 hr78 rfl ?_
 repeat' ((conv=>whnf);first|(refine Br.dec ?_ ?_<;>intro _<;>try omega)|(refine Br.bne ?_ ?_<;>intro _<;>try omega))
 all_goals (conv=>whnf)
 refine J0N J0b [1,3,22] (fun k:Nat=>[(4,.int .i64 (s.tot k)),(23,.int .i64 k)]) (fun m k=>m=s.n-k/\k<=s.n) s.n 0 ⟨rfl,Nat.zero_le _⟩ ?_ ?_
 . exact J0k (fun _ _=>[(0,some 0)])
 rintro m k ⟨hm,hk⟩;by_cases hkn:k<s.n
 . have h1:=Q45 (s.en k) (s.ar k) s.n (hs.en k hkn) (hs.ne k hkn) (hs.sort k hkn) (hs.arc k hkn) n2 (hs.row hkn);have ht:=hs.tot;have ht2:=J3b (fun k=>(s.ar k).length) (show k+1<=s.n by omega);have ht3:s.tot (k+1)=s.tot k+(s.ar k).length:=rfl;change s.tot (k+1)<=s.tot s.n at ht2;generalize s.tot k=t at *
   repeat' ((conv=>whnf);first|(refine Br.tt ?_)|(refine Br.dec ?_ ?_<;>intro _<;>try omega)|(refine Ar.q ?_)|(refine Ix.q ?_)|(refine h1.go ?_))
   all_goals (conv=>whnf)
   all_goals first
    | (exfalso;omega)
    | (refine⟨s.n-(k+1),k+1,by omega,⟨rfl,by omega⟩,?_⟩
       simp only[ht3];exact J0k (fun _ _=>[(0,some 0)]))
 . repeat' ((conv=>whnf);first|(refine Br.dec ?_ ?_<;>intro _<;>try omega))
   all_goals (conv=>whnf)
   exact VLe.rfl
theorem Q1G (s:Tsy) (hs:s.Ok) (lg:Nat->Bool):Ret Tryz.prog 43 [s.v,blV s.n lg] (.int .i64 0):=by
 have n2:=hs.n2;have h1:=Q6x s hs;refine J0g rfl ?_;refine J0c J0b Tryz.func43 rfl hc43 hr43 rfl ?_
 repeat' ((conv=>whnf);first|(refine Br.tt ?_)|(refine Br.bne ?_ ?_<;>intro _<;>try omega)|(refine h1.go ?_))
 all_goals (conv=>whnf)
 exact VLe.rfl
def vEt (en:Nat->Nat):Nat->Nat->V:=fun k _=>.int .i64 (en k)
theorem Q96 (i j:Nat) (hj:j<1):VLe ((fun(_ j:Nat)=>[V.int .i64 0].getD j default) i j) (vEt (fun _=>0) i j):=by
 obtain rfl:j=0:=by omega
 exact VLe.rfl
end Go.Proofs.YtlpfphlbghdokaaGreatDoor
namespace Go.Plain.Tj
variable (N:Nat) (to:Nat->List Nat) (leg:Nat->Bool)
inductive Rch:Nat->Nat->Prop
 | refl (k:Nat):Rch k k
 | step {k t u:Nat} (h:Rch k t) (ht:u∈to t) (hl:leg u=false):Rch k u
variable {N to leg}
theorem Rch.trans {a b c:Nat} (h:Rch to leg a b) (h':Rch to leg b c):Rch to leg a c:=by
 induction h' with
 | refl=>exact h
 | step _ ht hl ih=>exact .step ih ht hl
theorem Rch.one {a b:Nat} (h:b∈to a) (hl:leg b=false):Rch to leg a b:=.step (.refl a) h hl
structure S where
 idx:Nat->Nat
 low:Nat->Nat
 rt:Nat->Option Nat
 found:Nat
 pend:List Nat
 way:List (Nat×Nat)
def S.ws (s:S):List Nat:=s.way.map (·.1)
def dn (to:Nat->List Nat):List (Nat×Nat)->Nat->Nat
 | [],k=>(to k).length
 | (w,a)::r,k=>if w=k then a else dn to r k
def abv:List (Nat×Nat)->Nat->Nat->Prop
 | [],_,_=>False
 | [_],_,_=>False
 | (t,_)::(k,b)::r,x,y=>(x=k/\y=t)\/abv ((k,b)::r) x y
def Q88 (to:Nat->List Nat):List (Nat×Nat)->Prop
 | []=>True
 | [_]=>True
 | (t,_)::(k,b)::r=>t∈to k/\Q88 to ((k,b)::r)
structure Inv (N:Nat) (to:Nat->List Nat) (leg:Nat->Bool) (ex:Option (Nat×Nat)) (s:S):Prop where
 rng:∀k,k<N->∀t∈to k,t<N
 nl:∀k∈s.pend,leg k=false/\k<N
 pd:∀k,k<N->leg k=false->(k∈s.pend↔s.idx k≠0/\s.rt k=none)
 srt:s.pend.Pairwise fun a b=>s.idx b<s.idx a
 le:∀k∈s.pend,s.idx k<=s.found
 wsrt:s.ws.Pairwise fun a b=>s.idx b<s.idx a
 wp:∀w∈s.ws,w∈s.pend
 ch:Q88 to s.way
 own:∀k∈s.pend,∃w∈s.ws,s.idx w<=s.idx k/\(∀w'∈s.ws,s.idx w'<=s.idx k->s.idx w'<=s.idx w)/\Rch to leg w k/\s.low w<=s.low k
 lo:∀k∈s.pend,s.low k<=s.idx k/\∃j∈s.pend,s.idx j=s.low k/\Rch to leg k j
 fin:∀k∈s.pend,k∉s.ws->s.low k<s.idx k
 exm:∀k∈s.pend,∀i t,i<dn to s.way k->(to k)[i]?=some t->leg t=true\/s.rt t≠none\/(s.idx t≠0/\s.low k<=s.idx t)\/abv s.way k t\/ex=some (k,t)
 rtl:∀k,s.rt k≠none->leg k=false/\k<N/\s.idx k≠0
 cmp:∀k,s.rt k≠none->∀t∈to k,leg t=false->s.rt t≠none
 scc:∀k k' r,s.rt k=some r->s.rt k'=some r->Rch to leg k k'
 rr:∀k r,s.rt k=some r->s.rt r=some r
 sep:∀k k' r r',s.rt k=some r->s.rt k'=some r'->Rch to leg k k'->Rch to leg k' k->r=r'
def upd {α:Type} (f:Nat->α) (k:Nat) (x:α):Nat->α:=fun i=>if i=k then x else f i
theorem J4M {α:Type} (f:Nat->α) (k:Nat) (x:α):upd f k x k=x:=if_pos rfl
theorem J4N {α:Type} (f:Nat->α) {k i:Nat} (x:α) (h:i≠k):upd f k x i=f i:=if_neg h
def S.enter (s:S) (k:Nat):S:=⟨upd s.idx k (s.found+1),upd s.low k (s.found+1),s.rt,s.found+1,k::s.pend,(k,0)::s.way⟩
theorem Q2g {s:S} (h:s.pend.Pairwise fun a b=>s.idx b<s.idx a) {a b:Nat} (ha:a∈s.pend) (hb:b∈s.pend) (e:s.idx a=s.idx b):a=b:=by
 obtain⟨i,hi,rfl⟩:=List.getElem_of_mem ha;obtain⟨j,hj,rfl⟩:=List.getElem_of_mem hb;have hp:=List.pairwise_iff_getElem.1 h;rcases Nat.lt_trichotomy i j with q|q|q
 . have:=hp i j hi hj q;omega
 . subst q;rfl
 . have:=hp j i hj hi q;omega
theorem Q8I {to:Nat->List Nat}:∀{w:List (Nat×Nat)} {k:Nat},k∉w.map (·.1)->dn to w k=(to k).length
 | [],_,_=>rfl
 | (x,a)::r,k,h=>by
   simp only[List.map_cons,List.mem_cons,not_or] at h;rw[dn,if_neg (fun e=>h.1 e.symm)];exact Q8I h.2
theorem X2i {w a b x y:Nat} {r:List (Nat×Nat)} (h:abv ((w,a)::r) x y):abv ((w,b)::r) x y:=by
 cases r with
 | nil=>exact h
 | cons p r=>obtain⟨k,c⟩:=p;exact h
theorem Q5C {to:Nat->List Nat} {w a b:Nat} {r:List (Nat×Nat)} (h:Q88 to ((w,a)::r)):Q88 to ((w,b)::r):=by
 cases r with
 | nil=>exact h
 | cons p r=>obtain⟨k,c⟩:=p;exact h
variable {ex:Option (Nat×Nat)}
theorem Inv.bump {s:S} (h:Inv N to leg none s) {w a:Nat} {r:List (Nat×Nat)} (hw:s.way=(w,a)::r) {t:Nat} (ht:(to w)[a]?=some t):Inv N to leg (some (w,t)) { s with way:=(w,a+1)::r }:=by
 have hws:S.ws { s with way:=(w,a+1)::r }=s.ws:=by simp[S.ws,hw]
 refine⟨h.rng,h.nl,h.pd,h.srt,h.le,by rw[hws];exact h.wsrt,by rw[hws];exact h.wp,?_,by rw[hws];exact h.own,h.lo,by rw[hws];exact h.fin,?_,h.rtl,h.cmp,h.scc,h.rr,h.sep⟩
 . have:=h.ch;rw[hw] at this;exact Q5C this
 . intro k hk i u hi hu;have old:i<dn to s.way k->leg u=true\/s.rt u≠none\/(s.idx u≠0/\s.low k<=s.idx u)\/abv ((w,a+1)::r) k u\/some (w,t)=some (k,u):=fun q=>by
    rcases h.exm k hk i u q hu with q|q|q|q|q
    . exact .inl q
    . exact .inr (.inl q)
    . exact .inr (.inr (.inl q))
    . rw[hw] at q;exact .inr (.inr (.inr (.inl (X2i q))))
    . cases q
   by_cases e:w=k
   . subst e;have hi:i<a+1:=by simpa[dn] using hi
     by_cases q:i=a
     . subst q;rw[ht] at hu;cases hu;exact .inr (.inr (.inr (.inr rfl)))
     . exact old (by rw[hw,dn,if_pos rfl];omega)
   . exact old (by rw[hw,dn,if_neg e];simpa[dn,e] using hi)
theorem Inv.skip {s:S} {w t:Nat} (h:Inv N to leg (some (w,t)) s) (ht:leg t=true\/s.rt t≠none):Inv N to leg none s :=
 ⟨h.rng,h.nl,h.pd,h.srt,h.le,h.wsrt,h.wp,h.ch,h.own,h.lo,h.fin,fun k hk i u hi hu=>by
   rcases h.exm k hk i u hi hu with q|q|q|q|q
   . exact .inl q
   . exact .inr (.inl q)
   . exact .inr (.inr (.inl q))
   . exact .inr (.inr (.inr (.inl q)))
   . cases q;rcases ht with ht|ht
     . exact .inl ht
     . exact .inr (.inl ht),h.rtl,h.cmp,h.scc,h.rr,h.sep⟩
theorem Inv.enter {s:S} (h:Inv N to leg ex s) {k:Nat} (hk:k<N) (hl:leg k=false) (h0:s.idx k=0) (hw:(s.way=[]/\ex=none)\/∃w a r,s.way=(w,a)::r/\k∈to w/\ex=some (w,k)):Inv N to leg none (s.enter k):=by
 have hrt:s.rt k=none:=by
  cases e:s.rt k with
  | none=>rfl
  | some r=>exact((h.rtl k (by rw[e];simp)).2.2 h0).elim
 have hnp:k∉s.pend:=fun hm=>((h.pd k hk hl).1 hm).1 h0;have hne:∀{j},j∈s.pend->j≠k:=fun hj e=>hnp (e▸hj);have hnw:k∉s.ws:=fun hm=>hnp (h.wp k hm);have hnw2:∀{j},j∈s.ws->j≠k:=fun hj=>hne (h.wp _ hj);have hws:(s.enter k).ws=k::s.ws:=rfl;have iE:∀{j},j∈s.pend->(s.enter k).idx j=s.idx j:=fun hj=>J4N _ _ (hne hj);have lE:∀{j},j∈s.pend->(s.enter k).low j=s.low j:=fun hj=>J4N _ _ (hne hj);have iK:(s.enter k).idx k=s.found+1:=J4M _ _ _;have lK:(s.enter k).low k=s.found+1:=J4M _ _ _;refine⟨h.rng,?_,?_,?_,?_,?_,?_,?_,?_,?_,?_,?_,?_,h.cmp,h.scc,h.rr,h.sep⟩
 . intro j hj;rcases List.mem_cons.1 hj with e|e
   . subst e;exact⟨hl,hk⟩
   . exact h.nl j e
 . intro j hj hjl;by_cases e:j=k
   . subst e;exact⟨fun _=>⟨by rw[iK];omega,hrt⟩,fun _=>List.mem_cons_self⟩
   . have e2:(s.enter k).idx j=s.idx j:=J4N _ _ e;rw[e2];show j∈k::s.pend↔_;rw[List.mem_cons];exact⟨fun q=>(h.pd j hj hjl).1 (q.resolve_left e),fun q=>.inr ((h.pd j hj hjl).2 q)⟩
 . show(k::s.pend).Pairwise _;rw[List.pairwise_cons];refine⟨fun j hj=>by rw[iE hj,iK];have:=h.le j hj;omega,h.srt.imp_of_mem fun ha hb q=>by rw[iE ha,iE hb];exact q⟩
 . intro j hj;rcases List.mem_cons.1 hj with e|e
   . subst e;rw[iK];exact Nat.le_refl _
   . rw[iE e];have:=h.le j e;show _<=s.found+1;omega
 . rw[hws,List.pairwise_cons];refine⟨fun j hj=>by rw[iE (h.wp j hj),iK];have:=h.le j (h.wp j hj);omega,h.wsrt.imp_of_mem fun ha hb q=>by rw[iE (h.wp _ ha),iE (h.wp _ hb)];exact q⟩
 . intro j hj;rw[hws] at hj;rcases List.mem_cons.1 hj with e|e
   . subst e;exact List.mem_cons_self
   . exact List.mem_cons_of_mem _ (h.wp j e)
 . show Q88 to ((k,0)::s.way);rcases hw with ⟨e,_⟩ | ⟨w,a,r,e,ht,_⟩
   . rw[e];trivial
   . have:=h.ch;rw[e] at this ⊢;exact⟨ht,this⟩
 . intro j hj;rcases List.mem_cons.1 hj with e|e
   . subst e;exact⟨j,List.mem_cons_self,Nat.le_refl _,fun _ _ q=>q,.refl j,Nat.le_refl _⟩
   . obtain⟨w,h1,h2,h3,h4,h5⟩:=h.own j e;refine⟨w,List.mem_cons_of_mem _ h1,by rw[iE (h.wp w h1),iE e];exact h2,fun w' hw' q=>?_,h4,by rw[lE (h.wp w h1),lE e];exact h5⟩;rcases List.mem_cons.1 hw' with e'|e'
     . subst e';rw[iK,iE e] at q;have:=h.le j e;omega
     . rw[iE (h.wp w' e'),iE (h.wp w h1)];rw[iE (h.wp w' e'),iE e] at q;exact h3 w' e' q
 . intro j hj;rcases List.mem_cons.1 hj with e|e
   . subst e;exact⟨by rw[iK,lK];exact Nat.le_refl _,j,List.mem_cons_self,by rw[iK,lK],.refl j⟩
   . obtain⟨h1,x,h2,h3,h4⟩:=h.lo j e;exact⟨by rw[iE e,lE e];exact h1,x,List.mem_cons_of_mem _ h2,by rw[iE h2,lE e];exact h3,h4⟩
 . intro j hj hn;rw[hws,List.mem_cons,not_or] at hn;rcases List.mem_cons.1 hj with e|e
   . exact(hn.1 e).elim
   . rw[iE e,lE e];exact h.fin j e hn.2
 . intro j hj i t hi ht;rcases List.mem_cons.1 hj with e|e
   . subst e;have:dn to (s.enter j).way j=0:=if_pos rfl;omega
   . have hd:dn to (s.enter k).way j=dn to s.way j:=if_neg (fun q=>hne e q.symm);rw[hd] at hi;rcases h.exm j e i t hi ht with q|q | ⟨q1,q2⟩|q|q
     . exact .inl q
     . exact .inr (.inl q)
     . refine .inr (.inr (.inl ?_));by_cases et:t=k
       . subst et;exact(q1 h0).elim
       . exact⟨by rw[show(s.enter k).idx t=s.idx t from J4N _ _ et];exact q1,by rw[show(s.enter k).idx t=s.idx t from J4N _ _ et,lE e];exact q2⟩
     . refine .inr (.inr (.inr (.inl ?_)));show abv ((k,0)::s.way) j t;cases hsw:s.way with
       | nil=>rw[hsw] at q;exact q.elim
       | cons p r =>
         obtain⟨w,a⟩:=p;rw[hsw] at q;exact .inr q
     . refine .inr (.inr (.inr (.inl ?_)));show abv ((k,0)::s.way) j t;rcases hw with ⟨_,e2⟩ | ⟨w,a,r,e2,_,e3⟩
       . rw[e2] at q;cases q
       . rw[e3] at q;cases q;rw[e2];exact .inl ⟨rfl,rfl⟩
 . intro j hj;obtain⟨q1,q2,q3⟩:=h.rtl j hj;refine⟨q1,q2,?_⟩;have:j≠k:=fun e=>q3 (e▸h0);rw[show(s.enter k).idx j=s.idx j from J4N _ _ this];exact q3
def S.back (s:S) (w t:Nat):S:={ s with low:=upd s.low w (min (s.low w) (s.idx t)) }
theorem Inv.back {s:S} {w a:Nat} {r:List (Nat×Nat)} (hw:s.way=(w,a)::r) {t:Nat} (h:Inv N to leg (some (w,t)) s) (ht:t∈to w) (hl:leg t=false) (h0:s.idx t≠0) (hr:s.rt t=none):Inv N to leg none (s.back w t):=by
 have hww:w∈s.ws:=by simp[S.ws,hw]
 have hwp:=h.wp w hww;have htN:=h.rng w (h.nl w hwp).2 t ht;have htp:=(h.pd t htN hl).2 ⟨h0,hr⟩;have lW:(s.back w t).low w=min (s.low w) (s.idx t):=J4M _ _ _;have lE:∀{j},j≠w->(s.back w t).low j=s.low j:=fun hj=>J4N _ _ hj;have lL:∀j,(s.back w t).low j<=s.low j:=fun j=>by
  by_cases e:j=w
  . subst e;rw[lW];omega
  . rw[lE e];exact Nat.le_refl _
 refine⟨h.rng,h.nl,h.pd,h.srt,h.le,h.wsrt,h.wp,h.ch,?_,?_,?_,?_,h.rtl,h.cmp,h.scc,h.rr,h.sep⟩
 . intro k hk;obtain⟨u,h1,h2,h3,h4,h5⟩:=h.own k hk;refine⟨u,h1,h2,h3,h4,?_⟩;by_cases e:k=w
   . have:u=w:=by
      have a1:=h3 w hww (by rw[e];exact Nat.le_refl _);have a2:s.idx u<=s.idx w:=by rw[<- e];exact h2
      exact Q2g h.srt (h.wp u h1) hwp (by omega)
     rw[this,e];exact Nat.le_refl _
   . rw[lE e];exact Nat.le_trans (lL u) h5
 . intro k hk;obtain⟨h1,j,h2,h3,h4⟩:=h.lo k hk;refine⟨Nat.le_trans (lL k) h1,?_⟩;by_cases e:k=w
   . subst e;rw[lW];by_cases q:s.low k<=s.idx t
     . exact⟨j,h2,by show s.idx j=_;rw[h3];omega,h4⟩
     . exact⟨t,htp,by show s.idx t=_;omega,.one ht hl⟩
   . rw[lE e];exact⟨j,h2,h3,h4⟩
 . intro k hk hn;have e:k≠w:=fun e=>hn (e▸hww);rw[lE e];exact h.fin k hk hn
 . intro k hk i u hi hu;rcases h.exm k hk i u hi hu with q|q | ⟨q1,q2⟩|q|q
   . exact .inl q
   . exact .inr (.inl q)
   . exact .inr (.inr (.inl ⟨q1,Nat.le_trans (lL k) q2⟩))
   . exact .inr (.inr (.inr (.inl q)))
   . cases q;exact .inr (.inr (.inl ⟨h0,by rw[lW];exact Nat.min_le_right _ _⟩))
theorem Q9B:∀{w:List (Nat×Nat)} {x y:Nat},abv w x y->x∈(w.tail).map (·.1)
 | [],_,_,h=>h.elim
 | [_],_,_,h=>h.elim
 | (t,b)::(k,c)::r,x,y,h=>by
   simp only[abv] at h;rcases h with ⟨e,_⟩|h
   . subst e;simp
   . have:=Q9B h;simp only[List.tail_cons,List.map_cons,List.mem_cons] at this ⊢;exact .inr this
def S.pop (s:S):S:=match s.way with
 | (w,_)::(p,b)::r=>{ s with way:=(p,b)::r,low:=upd s.low p (min (s.low p) (s.low w)) }
 | _=>{ s with way:=[] }
theorem head_max {s:S} (h:Inv N to leg none s) {w a:Nat} {r:List (Nat×Nat)} (hw:s.way=(w,a)::r):w∈s.ws/\w∈s.pend/\(∀u∈s.ws,s.idx u<=s.idx w)/\∀u∈r.map (·.1),s.idx u<s.idx w:=by
 have hww:w∈s.ws:=by simp[S.ws,hw]
 have hs:=h.wsrt;have e:s.ws=w::r.map (·.1):=by simp[S.ws,hw]
 rw[e,List.pairwise_cons] at hs;refine⟨hww,h.wp w hww,fun u hu=>?_,hs.1⟩;rw[e] at hu;rcases List.mem_cons.1 hu with q|q
 . rw[q];exact Nat.le_refl _
 . exact Nat.le_of_lt (hs.1 u q)
theorem way_two {s:S} (h:Inv N to leg none s) {w a:Nat} (hw:s.way=[(w,a)]):s.low w=s.idx w:=by
 obtain⟨h1,h2,h3,_⟩:=head_max h hw;obtain⟨l1,j,l2,l3,_⟩:=h.lo w h2;obtain⟨u,o1,o2,_⟩:=h.own j l2;have:u=w:=by
  have:u∈[w]:=by simpa[S.ws,hw] using o1
  simpa using this
 subst this;omega
theorem Inv.keep {s:S} (h:Inv N to leg none s) {w a p b:Nat} {r:List (Nat×Nat)} (hw:s.way=(w,a)::(p,b)::r) (ha:a=(to w).length) (hlt:s.low w<s.idx w):Inv N to leg none s.pop:=by
 obtain⟨m1,m2,m3,m4⟩:=head_max h hw;have e:s.pop={ s with way:=(p,b)::r,low:=upd s.low p (min (s.low p) (s.low w)) }:=by rw[S.pop,hw]
 have ews:s.ws=w::p::r.map (·.1):=by simp[S.ws,hw]
 have hpw:s.idx p<s.idx w:=m4 p (by simp);have hpne:p≠w:=fun q=>by rw[q] at hpw;omega
 have hps:p∈s.ws:=by rw[ews];simp
 have hpp:=h.wp p hps;have hch:=h.ch;rw[hw] at hch;have hRw:Rch to leg p w:=.one hch.1 (h.nl w m2).1;have lP:s.pop.low p=min (s.low p) (s.low w):=by rw[e];exact J4M _ _ _
 have lE:∀{j},j≠p->s.pop.low j=s.low j:=fun hj=>by rw[e];exact J4N _ _ hj
 have lL:∀j,s.pop.low j<=s.low j:=fun j=>by
  by_cases q:j=p
  . subst q;rw[lP];exact Nat.min_le_left _ _
  . rw[lE q];exact Nat.le_refl _
 have iE:s.pop.idx=s.idx:=by rw[e]
 have pE:s.pop.pend=s.pend:=by rw[e]
 have rE:s.pop.rt=s.rt:=by rw[e]
 have wE:s.pop.way=(p,b)::r:=by rw[e]
 have wsE:s.pop.ws=p::r.map (·.1):=by rw[S.ws,wE];rfl
 have hsub:∀u∈s.pop.ws,u∈s.ws:=fun u hu=>by rw[wsE] at hu;rw[ews];exact List.mem_cons_of_mem _ hu
 have hback:∀u∈s.ws,u≠w->u∈s.pop.ws:=fun u hu hne=>by
  rw[ews] at hu;rw[wsE];exact(List.mem_cons.1 hu).resolve_left hne
 have hwn:w∉s.pop.ws:=fun q=>by
  rw[wsE] at q;have:=m4 w (by simpa using q);omega
 have hsrt:=h.wsrt;rw[ews,List.pairwise_cons] at hsrt;have hpmax:∀u∈s.pop.ws,s.idx u<=s.idx p:=fun u hu=>by
  rw[wsE] at hu;rcases List.mem_cons.1 hu with q|q
  . rw[q];exact Nat.le_refl _
  . exact Nat.le_of_lt ((List.pairwise_cons.1 hsrt.2).1 u q)
 refine⟨h.rng,by rw[pE];exact h.nl,by rw[pE,iE,rE];exact h.pd,by rw[pE,iE];exact h.srt,?_,?_,?_,?_,?_,?_,?_,?_,by rw[rE,iE];exact h.rtl,by rw[rE];exact h.cmp,by rw[rE];exact h.scc,by rw[rE];exact h.rr,by rw[rE];exact h.sep⟩
 . rw[pE,iE,e];exact h.le
 . rw[wsE,iE];exact hsrt.2
 . intro u hu;rw[pE];exact h.wp u (hsub u hu)
 . rw[wE];exact hch.2
 . intro k hk;rw[pE] at hk;rw[iE];obtain⟨u,h1,h2,h3,h4,h5⟩:=h.own k hk;by_cases eu:u=w
   . subst eu;refine⟨p,by rw[wsE];simp,by omega,fun w' hw' _=>hpmax w' hw',hRw.trans h4,?_⟩;have:k≠p:=fun q=>by subst q;omega
     rw[lP,lE this];exact Nat.le_trans (Nat.min_le_right _ _) h5
   . refine⟨u,hback u h1 eu,h2,fun w' hw' q=>h3 w' (hsub w' hw') q,h4,?_⟩;by_cases ek:k=p
     . have:u=k:=by
        have a1:=h3 k (by rw[ek];exact hps) (Nat.le_refl _);exact Q2g h.srt (h.wp u h1) hk (by omega)
       rw[this];exact Nat.le_refl _
     . rw[lE ek];exact Nat.le_trans (lL u) h5
 . intro k hk;rw[pE] at hk ⊢;rw[iE];obtain⟨h1,j,h2,h3,h4⟩:=h.lo k hk;refine⟨Nat.le_trans (lL k) h1,?_⟩;by_cases ek:k=p
   . subst ek;rw[lP];by_cases q:s.low k<=s.low w
     . exact⟨j,h2,by rw[h3];omega,h4⟩
     . obtain⟨_,j',j2,j3,j4⟩:=h.lo w m2;exact⟨j',j2,by rw[j3];omega,hRw.trans j4⟩
   . rw[lE ek];exact⟨j,h2,h3,h4⟩
 . intro k hk hn;rw[pE] at hk;rw[iE];have ek:k≠p:=fun q=>hn (by rw[wsE,q];simp);rw[lE ek];by_cases q:k=w
   . rw[q];exact hlt
   . exact h.fin k hk (fun q2=>hn (hback k q2 q))
 . intro k hk i t hi ht;rw[pE] at hk;rw[iE,rE,wE];rw[wE] at hi;have hi':i<dn to s.way k:=by
    rw[hw,dn];by_cases q:w=k
    . subst q;rw[if_pos rfl,ha]
      rwa[Q8I (by have:=hwn;rw[S.ws,wE] at this;exact this)] at hi
    . rw[if_neg q];exact hi
   rcases h.exm k hk i t hi' ht with q|q | ⟨q1,q2⟩|q|q
   . exact .inl q
   . exact .inr (.inl q)
   . exact .inr (.inr (.inl ⟨q1,Nat.le_trans (lL k) q2⟩))
   . rw[hw] at q;rcases q with ⟨q1,q2⟩|q
     . subst q1 q2;refine .inr (.inr (.inl ⟨((h.pd t (h.nl t m2).2 (h.nl t m2).1).1 m2).1,?_⟩));rw[lP];have:=(h.lo t m2).1;omega
     . exact .inr (.inr (.inr (.inl q)))
   . cases q
def S.cut (s:S) (l:List Nat) (w:Nat) (rest:List Nat):S:={ s with pend:=rest,rt:=fun k=>if k∈w::l then some w else s.rt k }
theorem Q6X {s:S} (h:Inv N to leg none s) {k u:Nat} (hk:s.rt k≠none) (hr:Rch to leg k u):s.rt u≠none:=by
 induction hr with
 | refl=>exact hk
 | step _ ht hl ih=>exact h.cmp _ ih _ ht hl
theorem Inv.done {s:S} (h:Inv N to leg none s) {w a:Nat} {r:List (Nat×Nat)} (hw:s.way=(w,a)::r) (ha:a=(to w).length) (hlow:s.low w=s.idx w) {l rest:List Nat} (hp:s.pend=l++w::rest) :
 Inv N to leg none (s.pop.cut l w rest):=by
 obtain⟨m1,m2,m3,m4⟩:=head_max h hw;have ews:s.ws=w::r.map (·.1):=by simp[S.ws,hw]
 have hs:=h.srt;rw[hp,List.pairwise_append] at hs;obtain⟨_,s2,s3⟩:=hs;rw[List.pairwise_cons] at s2;have big:∀k∈l,s.idx w<s.idx k:=fun k hk=>s3 k hk w List.mem_cons_self;have small:∀k∈rest,s.idx k<s.idx w:=s2.1;have memP:∀k,k∈s.pend↔k∈w::l\/k∈rest:=fun k=>by
  rw[hp];simp only[List.mem_append,List.mem_cons];constructor
  . rintro (q|q|q)
    . exact .inl (.inr q)
    . exact .inl (.inl q)
    . exact .inr q
  . rintro ((q|q)|q)
    . exact .inr (.inl q)
    . exact .inl q
    . exact .inr (.inr q)
 have geM:∀k∈w::l,s.idx w<=s.idx k:=fun k hk=>by
  rcases List.mem_cons.1 hk with q|q
  . rw[q];exact Nat.le_refl _
  . exact Nat.le_of_lt (big k q)
 have ofGe:∀k∈s.pend,s.idx w<=s.idx k->k∈w::l:=fun k hk q=>by
  rcases (memP k).1 hk with q2|q2
  . exact q2
  . have:=small k q2;omega
 have notR:∀k∈rest,k∉w::l:=fun k hk q=>by have:=small k hk;have:=geM k q;omega
 have inP:∀k∈w::l,k∈s.pend:=fun k hk=>(memP k).2 (.inl hk);have rtM:∀k∈s.pend,s.rt k=none:=fun k hk=>((h.pd k (h.nl k hk).2 (h.nl k hk).1).1 hk).2
 -- the members are led to by w,and lead to it
 have c1:∀k∈w::l,Rch to leg w k/\s.idx w<=s.low k:=fun k hk=>by
  obtain⟨u,h1,h2,h3,h4,h5⟩:=h.own k (inP k hk);have a1:=h3 w m1 (geM k hk);have a2:=m3 u h1;have:u=w:=Q2g h.srt (h.wp u h1) m2 (by omega);subst this;exact⟨h4,by omega⟩
 have offW:∀k∈l,k∉s.ws:=fun k hk q=>by have:=m3 k q;have:=big k hk;omega
 have c2:∀m k,s.idx k=m->k∈w::l->Rch to leg k w:=by
  intro m
  induction m using Nat.strongRecOn with
  | _ m ih =>
    intro k e hk;rcases List.mem_cons.1 hk with q|q
    . rw[q];exact .refl w
    . have hf:=h.fin k (inP k hk) (offW k q);obtain⟨_,j,j2,j3,j4⟩:=h.lo k (inP k hk);have:=(c1 k hk).2;exact j4.trans (ih (s.idx j) (by omega) j rfl (ofGe j j2 (by omega)))
 have c3:∀k∈w::l,∀t∈to k,leg t=false->s.rt t≠none\/t∈w::l:=fun k hk t ht hl=>by
  obtain⟨i,hi,ei⟩:=List.getElem_of_mem ht;have hd:dn to s.way k=(to k).length:=by
   rcases List.mem_cons.1 hk with q|q
   . subst q;rw[hw,dn,if_pos rfl,ha]
   . exact Q8I (offW k q)
  rcases h.exm k (inP k hk) i t (by rw[hd];exact hi) (by rw[List.getElem?_eq_getElem hi,ei]) with q|q | ⟨q1,q2⟩|q|q
  . rw[hl] at q;cases q
  . exact .inl q
  . by_cases hr:s.rt t=none
    . right;have htp:=(h.pd t (h.rng k (h.nl k (inP k hk)).2 t ht) hl).2 ⟨q1,hr⟩;have:=(c1 k hk).2;exact ofGe t htp (by omega)
    . exact .inl hr
  . exfalso;have hm:=Q9B q;rw[hw] at hm;have:=m4 k hm;have:=geM k hk;omega
  . cases q
 -- what is told on changes nothing
 have lowE:∀j,s.pop.low j=s.low j:=fun j=>by
  rw[S.pop];split
  . rename_i w' a' p b r' e;rw[hw] at e;cases e;show upd s.low p (min (s.low p) (s.low w)) j=s.low j;by_cases q:j=p
    . subst q;rw[J4M];have h1:=m4 j (by simp);have h2:=(h.lo j (h.wp j (by rw[ews];simp))).1;omega
    . exact J4N _ _ q
  . rfl
 have idxE:s.pop.idx=s.idx:=by rw[S.pop];split<;>rfl
 have rtE:s.pop.rt=s.rt:=by rw[S.pop];split<;>rfl
 have fE:s.pop.found=s.found:=by rw[S.pop];split<;>rfl
 have wayE:s.pop.way=r:=by
  rw[S.pop];split
  . rename_i w' a' p b r' e;rw[hw] at e;cases e;rfl
  . rename_i hno;cases r with
    | nil=>rfl
    | cons x r =>
      obtain⟨p,b⟩:=x;exact(hno w a p b r hw).elim
 have rtN:∀k,(s.pop.cut l w rest).rt k=if k∈w::l then some w else s.rt k:=fun k=>by
  show(if k∈w::l then some w else s.pop.rt k)=_;rw[rtE]
 have wsN:(s.pop.cut l w rest).ws=r.map (·.1):=by show s.pop.way.map (·.1)=_;rw[wayE]
 have idxN:(s.pop.cut l w rest).idx=s.idx:=idxE;have lowN:∀j,(s.pop.cut l w rest).low j=s.low j:=lowE;have wayN:(s.pop.cut l w rest).way=r:=wayE;have restP:∀k∈rest,k∈s.pend:=fun k hk=>(memP k).2 (.inr hk);have toR:∀u∈s.ws,u≠w->u∈r.map (·.1):=fun u hu hne=>by rw[ews] at hu;exact(List.mem_cons.1 hu).resolve_left hne
 have ofR:∀u∈r.map (·.1),u∈s.ws:=fun u hu=>by rw[ews];exact List.mem_cons_of_mem _ hu
 have rest_of:∀k∈s.pend,s.idx k<s.idx w->k∈rest:=fun k hk q=>by
  rcases (memP k).1 hk with q2|q2
  . have:=geM k q2;omega
  . exact q2
 have hsrt:=h.wsrt;rw[ews,List.pairwise_cons] at hsrt;refine⟨h.rng,fun k hk=>h.nl k (restP k hk),?_,?_,?_,?_,?_,?_,?_,?_,?_,?_,?_,?_,?_,?_,?_⟩
 . intro k hk hl;rw[idxN,rtN];constructor
   . intro q;have q:k∈rest:=q;rw[if_neg (notR k q)];exact(h.pd k hk hl).1 (restP k q)
   . rintro⟨q1,q2⟩;split at q2
     . cases q2
     . rename_i hn;exact((memP k).1 ((h.pd k hk hl).2 ⟨q1,q2⟩)).resolve_left hn
 . rw[idxN];exact s2.2
 . intro k hk;rw[idxN];show _<=s.pop.found;rw[fE];exact h.le k (restP k hk)
 . rw[wsN,idxN];exact hsrt.2
 . intro u hu;rw[wsN] at hu;exact rest_of u (h.wp u (ofR u hu)) (m4 u hu)
 . rw[wayN];have:=h.ch;rw[hw] at this;cases r with
   | nil=>trivial
   | cons x r=>obtain⟨p,b⟩:=x;exact this.2
 . intro k hk;have hk:k∈rest:=hk;rw[wsN,idxN];obtain⟨u,h1,h2,h3,h4,h5⟩:=h.own k (restP k hk);have:=small k hk;have une:u≠w:=fun q=>by rw[q] at h2;omega
   exact⟨u,toR u h1 une,h2,fun w' hw' q=>h3 w' (ofR w' hw') q,h4,by rw[lowN,lowN];exact h5⟩
 . intro k hk;have hk:k∈rest:=hk;rw[idxN,lowN];obtain⟨h1,j,h2,h3,h4⟩:=h.lo k (restP k hk);have:=small k hk;exact⟨h1,j,rest_of j h2 (by omega),h3,h4⟩
 . intro k hk hn;have hk:k∈rest:=hk;rw[wsN] at hn;rw[idxN,lowN];refine h.fin k (restP k hk) (fun q=>hn (toR k q (fun e=>?_)));have:=small k hk;rw[e] at this;omega
 . intro k hk i t hi ht;have hk:k∈rest:=hk;have kne:w≠k:=fun q=>by have:=small k hk;rw[<- q] at this;omega
   rw[wayN] at hi ⊢;rw[idxN,lowN,rtN];rcases h.exm k (restP k hk) i t (by rw[hw,dn,if_neg kne];exact hi) ht with q|q|q|q|q
   . exact .inl q
   . refine .inr (.inl ?_);split
     . simp
     . exact q
   . exact .inr (.inr (.inl q))
   . rw[hw] at q;cases r with
     | nil=>exact q.elim
     | cons x r =>
       obtain⟨p,b⟩:=x;rcases q with ⟨q1,q2⟩|q
       . refine .inr (.inl ?_);rw[if_pos (by rw[q2];exact List.mem_cons_self)];simp
       . exact .inr (.inr (.inr (.inl q)))
   . cases q
 . intro k hk;rw[idxN];rw[rtN] at hk;split at hk
   . rename_i hm;have hkp:=inP k hm;obtain⟨a1,a2⟩:=h.nl k hkp;exact⟨a1,a2,((h.pd k a2 a1).1 hkp).1⟩
   . exact h.rtl k hk
 . intro k hk t ht hl;rw[rtN] at hk ⊢;split at hk
   . rename_i hm;split
     . simp
     . rename_i hn;exact(c3 k hm t ht hl).resolve_right hn
   . split
     . simp
     . exact h.cmp k hk t ht hl
 . intro k k' q h1 h2;rw[rtN] at h1 h2;split at h1
   . rename_i hm;cases h1;split at h2
     . rename_i hm';exact(c2 _ k rfl hm).trans (c1 k' hm').1
     . exfalso;have:=h.rr k' w h2;rw[rtM w m2] at this;cases this
   . split at h2
     . cases h2;exfalso;have:=h.rr k w h1;rw[rtM w m2] at this;cases this
     . exact h.scc k k' q h1 h2
 . intro k q h1;rw[rtN] at h1 ⊢;split at h1
   . cases h1;rw[if_pos List.mem_cons_self]
   . split
     . rename_i hm;have:=h.rr k q h1;rw[rtM q (inP q hm)] at this;cases this
     . exact h.rr k q h1
 . intro k k' q q' h1 h2 r1 r2;rw[rtN] at h1 h2;split at h1
   . rename_i hm;cases h1;split at h2
     . cases h2;rfl
     . exfalso;have:=Q6X h (by rw[h2];simp) r2;exact this (rtM k (inP k hm))
   . split at h2
     . rename_i hm;exfalso;have:=Q6X h (by rw[h1];simp) r1;exact this (rtM k' (inP k' hm))
     . exact h.sep k k' q q' h1 h2 r1 r2
theorem Inv.start (hr:∀k,k<N->∀t∈to k,t<N):Inv N to leg none ⟨fun _=>0,fun _=>0,fun _=>none,0,[],[]⟩ :=
 ⟨hr,fun k hk=>(by simp at hk),fun k _ _=>by simp,List.Pairwise.nil,fun k hk=>(by simp at hk),List.Pairwise.nil,fun w hw=>(by simp[S.ws] at hw),trivial,fun k hk=>(by simp at hk),fun k hk=>(by simp at hk),fun k hk=>(by simp at hk),fun k hk=>(by simp at hk),
   fun k hk=>(hk rfl).elim,fun k hk=>(hk rfl).elim,fun k k' r h=>(by cases h),fun k r h=>(by cases h),fun k k' r r' h=>(by cases h)⟩
theorem Inv.idle {s:S} (h:Inv N to leg none s) (hw:s.way=[]):s.pend=[]/\∀k,k<N->leg k=false->s.idx k≠0->∃r,s.rt k=some r:=by
 have hp:s.pend=[]:=by
  cases e:s.pend with
  | nil=>rfl
  | cons k r =>
    obtain⟨u,hu,_⟩:=h.own k (by rw[e];exact List.mem_cons_self);simp[S.ws,hw] at hu
 refine⟨hp,fun k hk hl h0=>?_⟩;cases e:s.rt k with
 | some r=>exact⟨r,rfl⟩
 | none =>
   have:=(h.pd k hk hl).2 ⟨h0,e⟩;rw[hp] at this;simp at this
end Go.Plain.Tj
namespace Go.Proofs.YtlpfphlbghdokaaGreatDoor
open Go.Eng Go.Plain
set_option maxRecDepth 100000
set_option linter.unusedVariables false
def rtI (r:Nat->Option Nat) (i:Nat):Int:=match r i with
 | none=>-1
 | some a=>a
def vRt (r:Nat->Option Nat):Nat->Nat->V:=fun i _=>.int .i64 (rtI r i)
def wkC (s:Tsy) (lg:Nat->Bool) (x:Tj.S):List V:=[.fz s.n 1 false (vEn s),.fz s.n 1 false (X0a s),blV s.n lg,.vec 1 1 0 s.n,.vec 2 1 0 s.n,.vec 3 1 0 s.n,.int .i64 x.found,.vec 4 1 0 x.pend.length]
def X6O (s:Tsy) (lg:Nat->Bool) (x:Tj.S):Own:=[(0,.cells (wkC s lg x)),(1,.vec s.n 1 (vEt x.idx)),(2,.vec s.n 1 (vEt x.low)),(3,.vec s.n 1 (vRt x.rt)),(4,.vec x.pend.length 1 (vQ x.pend.reverse))]
theorem Q8l (h:Nat) (q:List Nat):gQ (h::q).reverse q.length=h:=by
 rw[List.reverse_cons,Q2D,if_neg (by rw[List.length_reverse];omega),if_pos (by rw[List.length_reverse])]
theorem X4S (h:Nat) (q:List Nat) {i:Nat} (hi:i<q.length):gQ (h::q).reverse i=gQ q.reverse i:=by
 rw[List.reverse_cons,Q2D,if_pos (by rw[List.length_reverse];exact hi)]
theorem Q6f (h:Nat) (q:List Nat) (i j:Nat) (hi:i<q.length):VLe (vQ (h::q).reverse i j) (vQ q.reverse i j) :=
 VLe.of_eq (by rw[vQ,vQ,X4S h q hi])
theorem Q56 (r r':Nat->Option Nat) (k k':Nat) (w:Int) (hk:k'=k) (hr:∀i,rtI r' i=if i=k then w else rtI r i) (i j:Nat) (hj:j<1):VLe (J0M (vRt r) k' 0 [.int .i64 w] i j) (vRt r' i j):=by
 obtain rfl:j=0:=by omega
 subst hk;apply VLe.of_eq;rw[vRt,hr];by_cases h:i=k'
 . subst h;simp[J0M]
 . simp[J0M,vRt,h]
def ctS (x:Tj.S) (w:Nat) (rest l1 l2:List Nat):Tj.S:={ x with pend:=l2++w::rest,rt:=fun k=>if k∈l1 then some w else x.rt k }
theorem X7O (r:Nat->Option Nat) (w h:Nat) (l:List Nat) (i:Nat):rtI (fun k=>if k∈l++[h] then some w else r k) i=if i=h then (w:Int) else rtI (fun k=>if k∈l then some w else r k) i:=by
 by_cases e:i=h
 . subst e;simp[rtI]
 . by_cases q:i∈l
   . simp[rtI,q,e]
   . simp[rtI,q,e]
theorem X7P (r:Nat->Option Nat) (w:Nat) (l:List Nat) (i:Nat):rtI (fun k=>if k∈w::l then some w else r k) i=if i=w then (w:Int) else rtI (fun k=>if k∈l then some w else r k) i:=by
 by_cases e:i=w
 . subst e;simp[rtI]
 . by_cases q:i∈l
   . simp[rtI,q,e]
   . simp[rtI,q,e]
set_option maxHeartbeats 8000000 in
theorem J52 (s:Tsy) (n2:s.n<=32768) (lg:Nat->Bool) (x:Tj.S) (w:Nat) (l rest:List Nat) (hp:x.pend=l++w::rest) (hnd:w∉l) (hlt:∀k∈x.pend,k<s.n) (hln:x.pend.length<=32768) :
 J0G Tryz.prog 122 [.loc 0 0,.int .i64 w] (X6O s lg x) [5,6,7,8,9,10,11,12,13,14,15,16,17,18,19,20,21,22,23,24,25,26,27,28,29] fun v own' _=>v=.tup []/\own'=X6O s lg (x.cut l w rest):=by
 have e0:X6O s lg x=X6O s lg (ctS x w rest [] l):=by
  obtain⟨a,b,c,d,e,f⟩:=x;simp only at hp;subst hp;simp[ctS]
 rw[e0];have hln2:l.length+rest.length<32768:=by
  have:=hln;rw[hp,List.length_append,List.length_cons] at this;omega
 refine J1q (J3Y ?_);refine J0c J0b Tryz.func122 rfl Y2i Y1v rfl ?_
 repeat' ((conv=>whnf);first|fail)
 all_goals (conv=>whnf)
 refine J1h J0b [0,1] [] [5,6,7,8,9,10,11,12,13,14,15,16,17,18,19,20,21,22,23,24,25,26,27,28,29] [0,1,2,3,4] (fun _:List Nat×List Nat=>[]) (fun y=>X6O s lg (ctS x w rest y.1 y.2)) (fun m y=>m=y.2.length/\l=y.1++y.2) l.length ([],l) ⟨rfl,rfl⟩ rfl (fun _=>rfl) ?_ ?_
 . exact J0k (fun _ _=>[(0,some 0),(1,some 1),(2,some 2),(3,some 3),(4,some 4)])
 rintro m y ⟨hm,hl⟩;obtain⟨z,hz⟩:∃z,ctS x w rest y.1 y.2=z:=⟨_,rfl⟩;have z1:z.idx=x.idx:=by subst hz;rfl
 have z2:z.low=x.low:=by subst hz;rfl
 have z3:z.found=x.found:=by subst hz;rfl
 have z4:z.rt=fun k=>if k∈y.1 then some w else x.rt k:=by subst hz;rfl
 have z5:z.pend=y.2++w::rest:=by subst hz;rfl
 simp only[hz];cases hy:y.2 with
 | nil =>
   rw[hy,List.nil_append] at z5;rw[hy,List.append_nil] at hl;have hw:w<s.n:=hlt w (by rw[hp];simp);have hll:z.pend.length=rest.length+1:=by rw[z5];rfl
   have hk:gQ z.pend.reverse (0+rest.length)=w:=by rw[Nat.zero_add,z5];exact Q8l w rest
   repeat' ((conv=>whnf);first|(refine Ix.w rest.length ?_)|(refine Ix.mk w (by rw[hk]) hw ?_)|(refine Br.dec ?_ ?_<;>intro _<;>try omega)|(refine Br.nble ?_ ?_<;>intro _<;>try omega)|(refine Ar.q ?_)|(refine Bd.int (by omega) (by omega) ?_)|(refine Ltn.q ?_))
   all_goals (conv=>whnf)
   exact⟨_,J1I.refl _,J1l (fun _=>[(0,some 0),(1,some 1),(2,some 2),(3,some 3),(4,some 4)]) _ _ ⟨rfl,rfl⟩ (J0a.kf rfl) (by repeat' (first|exact J0a.vec rfl rfl (show((z.pend.length:Int)-1).toNat-0=rest.length by omega)|exact J0a.int (by rw[z3];rfl)|(refine⟨show rest.length<=z.pend.length by omega,rfl,fun i j hi hj=>?_⟩)|exact VLe.of_eq (by rw[z1];rfl)|exact VLe.of_eq (by rw[z2];rfl)|exact Q56 _ _ _ _ _ (Nat.zero_add _) (fun i=>by rw[z4,<- hl];exact X7P x.rt w l i) _ _ hj|(rw[z5];exact Q6f w rest _ _ hi)|exact tI|(refine⟨⟨_,rfl,?_⟩,?_⟩)|exact J0a.kf rfl|exact J0a.q|(refine⟨Nat.le_refl _,rfl,fun i j hi hj=>?_⟩)|apply And.intro)) rfl⟩
 | cons h t =>
   rw[hy,List.cons_append] at z5;rw[hy] at hl;have hh:h<s.n:=hlt h (by rw[hp,hl];simp);have hne:h≠w:=fun e=>hnd (by rw[hl,e];simp);have hll:z.pend.length=(t++w::rest).length+1:=by rw[z5];rfl
   have hlen:(t++w::rest).length+y.1.length=l.length+rest.length:=by rw[hl];simp;omega
   have hk:gQ z.pend.reverse (0+(t++w::rest).length)=h:=by rw[Nat.zero_add,z5];exact Q8l h _
   repeat' ((conv=>whnf);first|(refine Ix.mk (t++w::rest).length (by omega) (by omega) ?_)|(refine Ix.mk h (by rw[hk]) hh ?_)|(refine Br.dec ?_ ?_<;>intro _<;>try omega)|(refine Br.nble ?_ ?_<;>intro _<;>try omega)|(refine Ar.q ?_)|(refine Bd.int (by omega) (by omega) ?_)|(refine Ltn.q ?_))
   all_goals (conv=>whnf)
   refine⟨t.length,(y.1++[h],t),by rw[hm,hy];exact Nat.lt_succ_self _,⟨rfl,by rw[hl];simp⟩,?_⟩;refine J0e (fun _ _=>[(0,some 0),(1,some 1),(2,some 2),(3,some 3),(4,some 4)]) ?_ ?_ rfl
   . repeat' (first|exact tI|(refine⟨⟨_,rfl,?_⟩,?_⟩)|exact J0a.kf rfl|exact J0a.loc rfl)
   . repeat' (first|exact J0a.vec rfl rfl (show((z.pend.length:Int)-1).toNat-0=(t++w::rest).length by omega)|exact J0a.int (by rw[z3];rfl)|(refine⟨show(t++w::rest).length<=z.pend.length by omega,rfl,fun i j hi hj=>?_⟩)|exact VLe.of_eq (by rw[z1];rfl)|exact VLe.of_eq (by rw[z2];rfl)|exact Q56 _ _ _ _ _ (Nat.zero_add _) (fun i=>by rw[z4];exact X7O x.rt w h y.1 i) _ _ hj|(rw[z5];exact Q6f h _ _ _ hi)|exact tI|(refine⟨⟨_,rfl,?_⟩,?_⟩)|exact J0a.kf rfl|exact J0a.q|(refine⟨Nat.le_refl _,rfl,fun i j hi hj=>?_⟩)|apply And.intro)
end Go.Proofs.YtlpfphlbghdokaaGreatDoor
namespace Go.Proofs.YtlpfphlbghdokaaGreatDoor
open Go.Eng Go.Plain
set_option maxRecDepth 100000
set_option linter.unusedVariables false
theorem Q0w {f f':Nat->Nat}:∀n,(∀j,j<n->f' j=f j)->J70 f' n=J70 f n
 | 0,_=>rfl
 | n+1,h=>by rw[J70,J70,Q0w n (fun j hj=>h j (by omega)),h n (by omega)]
theorem J9g {f f':Nat->Nat} {k:Nat} (h:∀j,j≠k->f' j=f j):∀n,k<n->J70 f' n+f k=J70 f n+f' k
 | 0,hk=>by omega
 | n+1,hk=>by
   by_cases e:k=n
   . subst e;have:=Q0w (f:=f) (f':=f') k (fun j hj=>h j (by omega));rw[J70,J70,this];omega
   . have h1:=J9g h n (by omega);have h2:=h n (fun q=>e q.symm);rw[J70,J70,h2];omega
def unW (s:Tsy) (x:Tj.S):Nat:=J70 (fun j=>if x.idx j=0 then 1 else 0) s.n
def wtW (s:Tsy) (x:Tj.S):Nat:=J70 (fun j=>if x.idx j=0 then (s.ar j).length+2 else 0) s.n
def wyW (s:Tsy):List (Nat×Nat)->Nat
 | []=>0
 | p::r=>((s.ar p.1).length-p.2+1)+wyW s r
def meW (s:Tsy) (x:Tj.S):Nat:=wtW s x+wyW s x.way
theorem J1F (x:Tj.S) (k j:Nat):(x.enter k).idx j=if j=k then x.found+1 else x.idx j:=rfl
theorem Q3s (s:Tsy) (x:Tj.S) {k:Nat} (hk:k<s.n) (h0:x.idx k=0):unW s (x.enter k)+1=unW s x:=by
 have h:=J9g (f:=fun j=>if x.idx j=0 then 1 else 0) (f':=fun j=>if (x.enter k).idx j=0 then 1 else 0) (k:=k) (fun j hj=>by simp only[J1F,if_neg hj]) s.n hk;simp only[J1F,if_pos h0,if_true] at h;rw[unW,unW];simp only[J1F];rw[if_neg (by omega)] at h;omega
theorem Q9P (s:Tsy) (x:Tj.S) {k:Nat} (hk:k<s.n) (h0:x.idx k=0):wtW s (x.enter k)+((s.ar k).length+2)=wtW s x:=by
 have h:=J9g (f:=fun j=>if x.idx j=0 then (s.ar j).length+2 else 0) (f':=fun j=>if (x.enter k).idx j=0 then (s.ar j).length+2 else 0) (k:=k) (fun j hj=>by simp only[J1F,if_neg hj]) s.n hk;simp only[J1F,if_pos h0,if_true] at h;rw[wtW,wtW];simp only[J1F];rw[if_neg (by omega)] at h;omega
theorem J8u {l:List Nat} {n:Nat} (h:l.Nodup) (hl:∀k∈l,k<n):l.length<=n:=by
 have:=List.Nodup.length_le_of_subset h (fun a ha=>List.mem_range.2 (hl a ha))
 rwa[List.length_range] at this
theorem J8s {N:Nat} {to:Nat->List Nat} {lg:Nat->Bool} {ex:Option (Nat×Nat)} {x:Tj.S} (h:Tj.Inv N to lg ex x):x.pend.Nodup:=h.srt.imp fun q e=>by subst e;omega
theorem Q75 {N:Nat} {to:Nat->List Nat} {lg:Nat->Bool} {ex:Option (Nat×Nat)} {x:Tj.S} (h:Tj.Inv N to lg ex x):x.pend.length<=N/\x.way.length<=N:=by
 refine⟨J8u (J8s h) (fun k hk=>(h.nl k hk).2),?_⟩;have h1:x.ws.Nodup:=h.wsrt.imp fun q e=>by subst e;omega
 have:=J8u h1 (fun k hk=>(h.nl k (h.wp k hk)).2)
 rwa[Tj.S.ws,List.length_map] at this
structure WkI (s:Tsy) (lg:Nat->Bool) (k:Nat) (x0 x:Tj.S):Prop where
 inv:Tj.Inv s.n s.to lg none x
 cnt:x.found+unW s x<=s.n
 wok:∀p∈x.way,p.2<=(s.ar p.1).length
 mono:∀j,x0.idx j≠0->x.idx j≠0
 has:x.idx k≠0
variable {s:Tsy} {lg:Nat->Bool} {k0:Nat} {x0 x:Tj.S}
theorem WkI.start (hI:Tj.Inv s.n s.to lg none x0) (hw:x0.way=[]) (hc:x0.found+unW s x0<=s.n) (hk:k0<s.n) (hl:lg k0=false) (h0:x0.idx k0=0):WkI s lg k0 x0 (x0.enter k0):=by
 have hu:=Q3s s x0 hk h0;refine⟨hI.enter hk hl h0 (.inl ⟨hw,rfl⟩),?_,fun p hp=>?_,fun j hj=>?_,?_⟩
 . show x0.found+1+_<=_;omega
 . have hp:p∈(k0,0)::x0.way:=hp;rw[hw,List.mem_singleton] at hp;subst hp;exact Nat.zero_le _
 . rw[J1F];split<;>omega
 . rw[J1F,if_pos rfl];omega
theorem Q3w (s:Tsy) {w a:Nat} (ha:a<(s.ar w).length):(s.to w)[a]?=some (gA (s.ar w) a).2:=by
 rw[Tsy.to,List.getElem?_map,gA,List.getD_eq_getElem?_getD,List.getElem?_eq_getElem ha];rfl
theorem X2t (s:Tsy) {w a:Nat} (ha:a<(s.ar w).length):(gA (s.ar w) a).2∈s.to w:=List.mem_of_getElem? (Q3w s ha)
theorem WkI.skip (h:WkI s lg k0 x0 x) {w a:Nat} {r:List (Nat×Nat)} (hw:x.way=(w,a)::r) (ha:a<(s.ar w).length) (ht:lg (gA (s.ar w) a).2=true\/x.rt (gA (s.ar w) a).2≠none) :
 WkI s lg k0 x0 { x with way:=(w,a+1)::r }/\meW s { x with way:=(w,a+1)::r }<meW s x:=by
 refine⟨⟨(h.inv.bump hw (Q3w s ha)).skip ht,h.cnt,fun p hp=>?_,h.mono,h.has⟩,?_⟩
 . rcases List.mem_cons.1 hp with e|e
   . subst e;exact ha
   . exact h.wok p (by rw[hw];exact List.mem_cons_of_mem _ e)
 . show wtW s x+wyW s ((w,a+1)::r)<wtW s x+wyW s x.way;rw[hw,wyW,wyW];simp only;omega
theorem WkI.new (h:WkI s lg k0 x0 x) {w a:Nat} {r:List (Nat×Nat)} (hw:x.way=(w,a)::r) (ha:a<(s.ar w).length) (htn:(gA (s.ar w) a).2<s.n) (hl:lg (gA (s.ar w) a).2=false) (h0:x.idx (gA (s.ar w) a).2=0) :
 WkI s lg k0 x0 (Tj.S.enter { x with way:=(w,a+1)::r } (gA (s.ar w) a).2)/\meW s (Tj.S.enter { x with way:=(w,a+1)::r } (gA (s.ar w) a).2)<meW s x:=by
 have hb:=h.inv.bump hw (Q3w s ha);have hu:=Q3s s { x with way:=(w,a+1)::r } htn h0;have hv:=Q9P s { x with way:=(w,a+1)::r } htn h0;have hu2:unW s { x with way:=(w,a+1)::r }=unW s x:=rfl;have hv2:wtW s { x with way:=(w,a+1)::r }=wtW s x:=rfl;have hc:=h.cnt;refine⟨⟨hb.enter htn hl h0 (.inr ⟨w,a+1,r,rfl,X2t s ha,rfl⟩),?_,fun p hp=>?_,fun j hj=>?_,?_⟩,?_⟩
 . show x.found+1+_<=_;omega
 . have hp:p∈((gA (s.ar w) a).2,0)::(w,a+1)::r:=hp;rcases List.mem_cons.1 hp with e|e
   . subst e;exact Nat.zero_le _
   . rcases List.mem_cons.1 e with e|e
     . subst e;exact ha
     . exact h.wok p (by rw[hw];exact List.mem_cons_of_mem _ e)
 . have:=h.mono j hj;rw[J1F];split
   . omega
   . exact this
 . have:=h.has;rw[J1F];split
   . omega
   . exact this
 . show wtW s _+wyW s (((gA (s.ar w) a).2,0)::(w,a+1)::r)<wtW s x+wyW s x.way;rw[hw,wyW,wyW,wyW];simp only;omega
theorem WkI.back (h:WkI s lg k0 x0 x) {w a:Nat} {r:List (Nat×Nat)} (hw:x.way=(w,a)::r) (ha:a<(s.ar w).length) (hl:lg (gA (s.ar w) a).2=false) (h0:x.idx (gA (s.ar w) a).2≠0) (hr:x.rt (gA (s.ar w) a).2=none) :
 WkI s lg k0 x0 (Tj.S.back { x with way:=(w,a+1)::r } w (gA (s.ar w) a).2)/\meW s (Tj.S.back { x with way:=(w,a+1)::r } w (gA (s.ar w) a).2)<meW s x:=by
 have hb:=h.inv.bump hw (Q3w s ha);refine⟨⟨Tj.Inv.back (w:=w) (a:=a+1) (r:=r) rfl hb (X2t s ha) hl h0 hr,h.cnt,fun p hp=>?_,h.mono,h.has⟩,?_⟩
 . rcases List.mem_cons.1 hp with e|e
   . subst e;exact ha
   . exact h.wok p (by rw[hw];exact List.mem_cons_of_mem _ e)
 . show wtW s x+wyW s ((w,a+1)::r)<wtW s x+wyW s x.way;rw[hw,wyW,wyW];simp only;omega
theorem X2u (s:Tsy) (w:Nat):(s.to w).length=(s.ar w).length:=by rw[Tsy.to,List.length_map]
theorem Q2p {w a:Nat} {r:List (Nat×Nat)} (hw:x.way=(w,a)::r):x.pop.way=r/\x.pop.idx=x.idx/\x.pop.pend=x.pend/\x.pop.rt=x.rt/\x.pop.found=x.found:=by
 cases r with
 | nil=>rw[Tj.S.pop,hw];exact⟨rfl,rfl,rfl,rfl,rfl⟩
 | cons p r=>obtain⟨p,b⟩:=p;rw[Tj.S.pop,hw];exact⟨rfl,rfl,rfl,rfl,rfl⟩
theorem X2B {w a:Nat} {r:List (Nat×Nat)} (hw:x.way=(w,a)::r):meW s x.pop<meW s x/\unW s x.pop=unW s x:=by
 obtain⟨e1,e2,_⟩:=Q2p hw;refine⟨?_,by rw[unW,unW,e2]⟩;rw[meW,meW,wtW,wtW,e1,e2,hw,wyW];omega
theorem WkI.keep (h:WkI s lg k0 x0 x) {w a p b:Nat} {r:List (Nat×Nat)} (hw:x.way=(w,a)::(p,b)::r) (ha:a=(s.ar w).length) (hne:x.low w≠x.idx w):WkI s lg k0 x0 x.pop/\meW s x.pop<meW s x:=by
 obtain⟨e1,e2,e3,e4,e5⟩:=Q2p hw;obtain⟨m1,m2⟩:=X2B (s:=s) hw;have hwp:=h.inv.wp w (by simp[Tj.S.ws,hw]);have hlo:=(h.inv.lo w hwp).1;refine⟨⟨h.inv.keep hw (by rw[X2u];exact ha) (by omega),by rw[e5,m2];exact h.cnt,fun q hq=>h.wok q (by rw[e1] at hq;rw[hw];exact List.mem_cons_of_mem _ hq),by rw[e2];exact h.mono,by rw[e2];exact h.has⟩,m1⟩
theorem WkI.done (h:WkI s lg k0 x0 x) {w a:Nat} {r:List (Nat×Nat)} (hw:x.way=(w,a)::r) (ha:a=(s.ar w).length) (he:x.low w=x.idx w) {l rest:List Nat} (hp:x.pend=l++w::rest) :
 WkI s lg k0 x0 (x.pop.cut l w rest)/\meW s (x.pop.cut l w rest)<meW s x:=by
 obtain⟨e1,e2,e3,e4,e5⟩:=Q2p hw;obtain⟨m1,m2⟩:=X2B (s:=s) hw;refine⟨⟨h.inv.done hw (by rw[X2u];exact ha) he hp,?_,fun q hq=>?_,fun j hj=>?_,?_⟩,m1⟩
 . show x.pop.found+unW s x.pop<=_;rw[e5,m2];exact h.cnt
 . have hq:q∈x.pop.way:=hq;exact h.wok q (by rw[e1] at hq;rw[hw];exact List.mem_cons_of_mem _ hq)
 . show x.pop.idx j≠0;rw[e2];exact h.mono j hj
 . show x.pop.idx k0≠0;rw[e2];exact h.has
end Go.Proofs.YtlpfphlbghdokaaGreatDoor
namespace Go.Proofs.YtlpfphlbghdokaaGreatDoor
open Go.Eng Go.Plain
set_option maxRecDepth 100000
set_option linter.unusedVariables false
def vWy (l:List (Nat×Nat)):Nat->Nat->V:=fun i j=>match j with
 | 0=>.int .i64 (gA l i).1
 | _=>.int .i64 (gA l i).2
theorem Q8p (l:List (Nat×Nat)) (a:Nat×Nat) (i:Nat):gA (l++[a]) i=if i<l.length then gA l i else if i=l.length then a else (0,0):=by
 rw[gA,gA,List.getD_eq_getElem?_getD,List.getD_eq_getElem?_getD];by_cases h:i<l.length
 . rw[if_pos h,List.getElem?_append_left h]
 . rw[if_neg h,List.getElem?_append_right (by omega)];by_cases e:i=l.length
   . subst e;simp
   . rw[if_neg e,List.getElem?_eq_none (by simp;omega)];rfl
theorem J7m {L:List (Nat×Nat)} {p:Nat×Nat} {r:List (Nat×Nat)} (h:L=p::r):gA L.reverse r.length=p:=by
 subst h;rw[List.reverse_cons,Q8p,if_neg (by rw[List.length_reverse];omega),if_pos (by rw[List.length_reverse])]
theorem J7n {L:List (Nat×Nat)} {p:Nat×Nat} {r:List (Nat×Nat)} (h:L=p::r) {i:Nat} (hi:i<r.length):gA L.reverse i=gA r.reverse i:=by
 subst h;rw[List.reverse_cons,Q8p,if_pos (by rw[List.length_reverse];exact hi)]
theorem Q13 {L:List (Nat×Nat)} {p:Nat×Nat} {r:List (Nat×Nat)} (h:L=p::r) (i j:Nat) (hi:i<r.length):VLe (vWy L.reverse i j) (vWy r.reverse i j):=by
 apply VLe.of_eq;show(match j with|0=>V.int .i64 (gA L.reverse i).1|_=>V.int .i64 (gA L.reverse i).2)=(match j with|0=>V.int .i64 (gA r.reverse i).1|_=>V.int .i64 (gA r.reverse i).2);rw[J7n h hi]
theorem Q0f {L:List (Nat×Nat)} {w a:Nat} {r:List (Nat×Nat)} (h:L=(w,a)::r) (n':Nat) (X:Int) (hn:n'=r.length) (hX:X=a+1) (i j:Nat) (hi:i<r.length+1) (hj:j<2):J0M (vWy L.reverse) n' 1 [.int .i64 X] i j=vWy ((w,a+1)::r).reverse i j:=by
 subst hn;subst hX;by_cases e:i=r.length
 . subst e;have h1:=J7m h;have h2:=J7m (L:=(w,a+1)::r) rfl;rcases (show j=0\/j=1 by omega) with rfl|rfl
   . simp[-List.reverse_cons,J0M,vWy,h1,h2]
   . simp[-List.reverse_cons,J0M,vWy,h1,h2]
 . have h1:=J7n h (i:=i) (by omega);have h2:=J7n (L:=(w,a+1)::r) rfl (i:=i) (by omega);rcases (show j=0\/j=1 by omega) with rfl|rfl<;>simp[-List.reverse_cons,J0M,vWy,h1,h2,e]
theorem J82 {L:List (Nat×Nat)} {w a:Nat} {r:List (Nat×Nat)} (h:L=(w,a)::r) (n':Nat) (X:Int) (hn:n'=r.length) (hX:X=a+1) (i j:Nat) (hi:i<r.length+1) (hj:j<2):VLe (J0M (vWy L.reverse) n' 1 [.int .i64 X] i j) (vWy ((w,a+1)::r).reverse i j) :=
 VLe.of_eq (Q0f h n' X hn hX i j hi hj)
theorem X3D {L:List (Nat×Nat)} {t:Nat} (f:Nat->Nat->V) (hf:∀i j,i<L.length->j<2->f i j=vWy L.reverse i j) (F:Nat->Nat->V) (h0:F 0 0=.int .i64 t) (h1:F 0 1=.int .i64 0) (n i j:Nat) (hn:n=L.length) (hi:i<L.length+1) (hj:j<2) :
 VLe (J5i (J0j 0 f) n (J0j 0 F) i j) (vWy ((t,0)::L).reverse i j):=by
 subst hn;apply VLe.of_eq;by_cases e:i<L.length
 . rw[J2a e,J0w,Nat.zero_add,hf i j e hj];have h2:=J7n (L:=(t,0)::L) rfl (i:=i) e;rcases (show j=0\/j=1 by omega) with rfl|rfl<;>simp[-List.reverse_cons,vWy,h2]
 . rw[J2b e];have:i=L.length:=by omega
   subst this;have h2:=J7m (L:=(t,0)::L) rfl;rcases (show j=0\/j=1 by omega) with rfl|rfl
   . simp[-List.reverse_cons,J0j,h0,vWy,h2]
   . simp[-List.reverse_cons,J0j,h1,vWy,h2]
theorem J6B (r:Nat->Nat) (k k':Nat) (w:Int) (a:Nat) (hk:k'=k) (ha:w=a) (i j:Nat) (hj:j<1):VLe (J0M (vEt r) k' 0 [.int .i64 w] i j) (vEt (Tj.upd r k a) i j):=by
 obtain rfl:j=0:=by omega
 subst hk;subst ha;apply VLe.of_eq;rw[vEt,Tj.upd];by_cases h:i=k'
 . subst h;simp[J0M]
 . simp[J0M,vEt,h]
theorem X3C {L:List (Nat×Nat)} {k:Nat} (h:L=[(k,0)]) (i j:Nat) (hi:i<L.length) (hj:j<2):VLe (tab [[V.int .i64 k,V.int .i64 0]] i j) (vWy L.reverse i j):=by
 subst h;have hi:i<1:=hi;obtain rfl:i=0:=by omega
 rcases (show j=0\/j=1 by omega) with rfl|rfl<;>exact VLe.of_eq rfl
theorem X2n (q:List Nat) (a:Nat) (F:Nat->Nat->V) (hF:F 0 0=.int .i64 a) (n i j:Nat) (hn:n=q.length) (hi:i<q.length+1) (hj:j<1):VLe (J5i (J0j 0 (vQ q.reverse)) n (J0j 0 F) i j) (vQ (a::q).reverse i j):=by
 rw[List.reverse_cons];exact J84 q.reverse a F a hF rfl n i j (by rw[List.length_reverse];exact hn) (by rw[List.length_reverse];exact hi) hj
theorem Q7t (a b:Nat):(if (b:Int)<(a:Int) then (b:Int) else (a:Int))=((min a b:Nat):Int):=by split<;>omega
theorem Q1l (f:Nat->Nat->V) (i j:Nat) (vs:List V) {i':Nat} (h:i'≠i) (j':Nat):J0M f i j vs i' j'=f i' j':=by simp[J0M,h]
def wkQ (q:Nat) (s:Tsy) (lg:Nat->Bool) (x:Tj.S):List V:=[.fz s.n 1 false (vEn s),.fz s.n 1 false (X0a s),blV s.n lg,.vec 1 1 0 s.n,.vec 2 1 0 s.n,.vec 3 1 0 s.n,.int .i64 x.found,.vec q 1 0 x.pend.length]
def Y0O (q:Nat) (s:Tsy) (lg:Nat->Bool) (x:Tj.S):Own:=[(0,.cells (wkQ q s lg x)),(1,.vec s.n 1 (vEt x.idx)),(2,.vec s.n 1 (vEt x.low)),(3,.vec s.n 1 (vRt x.rt)),(q,.vec x.pend.length 1 (vQ x.pend.reverse))]
def ownW (s:Tsy) (lg:Nat->Bool) (x:Tj.S):Own:=(5,.vec x.way.length 2 (vWy x.way.reverse))::Y0O 6 s lg x
set_option maxHeartbeats 16000000 in
theorem Q49 (s:Tsy) (hs:s.Ok) (lg:Nat->Bool) (k:Nat) (x:Tj.S) (hI:Tj.Inv s.n s.to lg none x) (hw:x.way=[]) (hc:x.found+unW s x<=s.n) (hk:k<s.n) (hl:lg k=false) (h0:x.idx k=0) :
 J0G Tryz.prog 79 [.loc 0 0,.int .i64 k] (Y0O 4 s lg x) [5,6,7,8,9,10,11,12,13,14,15,16,17,18,19,20,21,22,23,24,25,26,27,28,29] fun v own' _=>v=.tup []/\∃y,WkI s lg k x y/\y.way=[]/\own'=Y0O 6 s lg y:=by
 have n1:=hs.n1;have n2:=hs.n2;obtain⟨pl,_⟩:=Q75 hI;have hst:=WkI.start hI hw hc hk hl h0;refine J1q (J3Y ?_);refine J0c J0b Tryz.func79 rfl hc79 hr79 rfl ?_
 repeat' ((conv=>whnf);first|(refine Br.nbeq ?_ ?_<;>intro _<;>try omega)|(refine Ar.q ?_)|(refine Ix.q ?_)|(refine Len.q ?_)|(refine Ltn.q ?_)|(refine J0c J0b Tryz.func121 rfl X7p X7l rfl ?_))
 all_goals (conv=>whnf)
 have hwl:(x.enter k).way=[(k,0)]:=by show(k,0)::x.way=_;rw[hw]
 refine J1h J0b [0] [5,6] [9,10,11,12,13,14,15,16,17,18,19,20,21,22,23,24,25,26,27,28,29] [5,0,1,2,3,6] (fun y:Tj.S=>[(4,.vec 5 2 0 y.way.length)]) (ownW s lg) (fun m y=>m=meW s y/\WkI s lg k x y) (meW s (x.enter k)) (x.enter k) ⟨rfl,hst⟩ rfl (fun _=>rfl) ?_ ?_
 . refine J0e (fun env own=>[(5,X7E env 4),(0,some 0),(1,some 1),(2,some 2),(3,some 3),(6,J9T own 0 7)]) ?_ ?_ rfl
   . repeat' (first|exact J0a.vec rfl rfl (by rw[hwl];rfl)|exact tI|(refine⟨⟨_,rfl,?_⟩,?_⟩)|exact J0a.loc rfl)
   . repeat' (first|exact J0a.int (show(x.found:Int)+1=((x.found+1:Nat):Int) by omega)|(refine⟨by rw[hwl];exact Nat.le_refl _,rfl,fun i j hi hj=>?_⟩)|exact X3C hwl _ _ hi hj|exact J6B _ _ _ _ _ (Nat.zero_add _) (show(x.found:Int)+1=((x.found+1:Nat):Int) by omega) _ _ hj|exact X2n _ _ _ rfl _ _ _ rfl hi hj|exact tI|(refine⟨⟨_,rfl,?_⟩,?_⟩)|exact J0a.kf rfl|exact J0a.q|(refine⟨Nat.le_refl _,rfl,fun i j hi hj=>?_⟩)|exact VLe.rfl|apply And.intro)
 rintro m y ⟨hm,hY⟩;obtain⟨ypl,ywl⟩:=Q75 hY.inv;have ycn:=hY.cnt;have hcase:y.way=[]\/∃w a r,y.way=(w,a)::r:=by
  cases y.way with
  | nil=>exact .inl rfl
  | cons p r=>exact .inr ⟨p.1,p.2,r,rfl⟩
 rcases hcase with hway | ⟨w,a,r,hway⟩
 . have hl0:y.way.length=0:=by rw[hway];rfl
   repeat' ((conv=>whnf);first|(refine Br.dec ?_ ?_<;>intro _<;>try omega))
   all_goals (conv=>whnf)
   exact⟨_,J1I.refl _,J1l (fun _=>[(0,some 0),(1,some 1),(2,some 2),(3,some 3),(6,some 6)]) _ _ ⟨rfl,y,hY,hway,rfl⟩ (J0a.kf rfl) (by repeat' (first|exact tI|(refine⟨⟨_,rfl,?_⟩,?_⟩)|exact J0a.kf rfl|exact J0a.q|(refine⟨Nat.le_refl _,rfl,fun i j hi hj=>?_⟩)|exact VLe.rfl|apply And.intro)) rfl⟩
 . have hl1:y.way.length=r.length+1:=by rw[hway];rfl
   have hg:gA y.way.reverse (0+r.length)=(w,a):=by rw[Nat.zero_add];exact J7m hway
   have hg1:(gA y.way.reverse (0+r.length)).1=w:=by rw[hg]
   have hg2:(gA y.way.reverse (0+r.length)).2=a:=by rw[hg]
   have hwp:w∈y.pend:=hY.inv.wp w (by simp[Tj.S.ws,hway]);have hwn:w<s.n:=(hY.inv.nl w hwp).2;have hrow:=hs.row hwn;by_cases ha:a<(s.ar w).length
   . obtain⟨a1,a2,a3⟩:=hs.arc _ hwn _ (J5a ha);cases hlt:lg (gA (s.ar w) a).2 with
     | true =>
       have hst2:=hY.skip hway ha (.inl hlt)
       repeat' ((conv=>whnf);first|(refine Ix.w r.length ?_)|(refine Ix.mk w (by rw[hg1]) hwn ?_)|(refine Ix.mk a (by rw[hg2]) ha ?_)|(refine Ix.mk (gA (s.ar w) a).2 (by rfl) a3 ?_)|(refine Br.mk (fun _=>?_) (fun e=>Bool.noConfusion (e.symm.trans hlt)))|(refine Br.dec ?_ ?_<;>intro _<;>try omega)|(refine Ar.q ?_)|(refine Ltn.q ?_))
       all_goals (conv=>whnf)
       refine⟨_,{ y with way:=(w,a+1)::r },?_,⟨rfl,hst2.1⟩,?_⟩
       . rw[hm];exact hst2.2
       . refine J0e (fun _ _=>[(5,some 5),(0,some 0),(1,some 1),(2,some 2),(3,some 3),(6,some 6)]) ?_ ?_ rfl
         . repeat' (first|exact J0a.vec rfl rfl (show y.way.length=r.length+1 from hl1)|exact tI|(refine⟨⟨_,rfl,?_⟩,?_⟩)|exact J0a.loc rfl)
         . repeat' (first|(refine⟨show r.length+1<=y.way.length by omega,rfl,fun i j hi hj=>?_⟩)|exact J82 hway _ _ (Nat.zero_add _) (by rw[hg2]) _ _ hi hj|exact tI|(refine⟨⟨_,rfl,?_⟩,?_⟩)|exact J0a.kf rfl|exact J0a.q|(refine⟨Nat.le_refl _,rfl,fun i j hi hj=>?_⟩)|exact VLe.rfl|apply And.intro)
     | false =>
       cases hrt:y.rt (gA (s.ar w) a).2 with
       | some q =>
         have hst2:=hY.skip hway ha (.inr (by rw[hrt];simp));have hr2:rtI y.rt (0+(gA (s.ar w) a).2)=q:=by rw[Nat.zero_add,rtI,hrt]
         repeat' ((conv=>whnf);first|(refine Ix.w r.length ?_)|(refine Ix.mk w (by rw[hg1]) hwn ?_)|(refine Ix.mk a (by rw[hg2]) ha ?_)|(refine Ix.mk (gA (s.ar w) a).2 (by rfl) a3 ?_)|(refine Br.mk (fun e=>Bool.noConfusion (e.symm.trans hlt)) (fun _=>?_))|(refine Br.dec ?_ ?_<;>intro _<;>try omega)|(refine Ar.q ?_)|(refine Ltn.q ?_))
         all_goals (conv=>whnf)
         refine⟨_,{ y with way:=(w,a+1)::r },?_,⟨rfl,hst2.1⟩,?_⟩
         . rw[hm];exact hst2.2
         . refine J0e (fun _ _=>[(5,some 5),(0,some 0),(1,some 1),(2,some 2),(3,some 3),(6,some 6)]) ?_ ?_ rfl
           . repeat' (first|exact J0a.vec rfl rfl (show y.way.length=r.length+1 from hl1)|exact tI|(refine⟨⟨_,rfl,?_⟩,?_⟩)|exact J0a.loc rfl)
           . repeat' (first|(refine⟨show r.length+1<=y.way.length by omega,rfl,fun i j hi hj=>?_⟩)|exact J82 hway _ _ (Nat.zero_add _) (by rw[hg2]) _ _ hi hj|exact tI|(refine⟨⟨_,rfl,?_⟩,?_⟩)|exact J0a.kf rfl|exact J0a.q|(refine⟨Nat.le_refl _,rfl,fun i j hi hj=>?_⟩)|exact VLe.rfl|apply And.intro)
       | none =>
         have hr2:rtI y.rt (0+(gA (s.ar w) a).2)=-1:=by rw[Nat.zero_add,rtI,hrt]
         by_cases hi0:y.idx (gA (s.ar w) a).2=0
         . have hst2:=hY.new hway ha a3 hlt hi0;have hi2:y.idx (0+(gA (s.ar w) a).2)=0:=by rw[Nat.zero_add];exact hi0
           repeat' ((conv=>whnf);first|(refine Ix.w r.length ?_)|(refine Ix.mk w (by rw[hg1]) hwn ?_)|(refine Ix.mk a (by rw[hg2]) ha ?_)|(refine Ix.mk (gA (s.ar w) a).2 (by rfl) a3 ?_)|(refine Br.mk (fun e=>Bool.noConfusion (e.symm.trans hlt)) (fun _=>?_))|(refine Br.dec ?_ ?_<;>intro _<;>try omega)|(refine Br.nbeq ?_ ?_<;>intro _<;>try omega)|(refine Ar.q ?_)|(refine Len.q ?_)|(refine Ltn.q ?_)|(refine J0c J0b Tryz.func121 rfl X7p X7l rfl ?_))
           all_goals (conv=>whnf)
           refine⟨_,Tj.S.enter { y with way:=(w,a+1)::r } (gA (s.ar w) a).2,?_,⟨rfl,hst2.1⟩,?_⟩
           . rw[hm];exact hst2.2
           . refine J0e (fun env own=>[(5,X7E env 4),(0,some 0),(1,some 1),(2,some 2),(3,some 3),(6,J9T own 0 7)]) ?_ ?_ rfl
             . repeat' (first|exact J0a.vec rfl rfl (show y.way.length+1=r.length+1+1 by omega)|exact tI|(refine⟨⟨_,rfl,?_⟩,?_⟩)|exact J0a.loc rfl)
             . repeat' (first|exact J0a.int (show(y.found:Int)+1=((y.found+1:Nat):Int) by omega)|(refine⟨show r.length+1+1<=y.way.length+1 by omega,rfl,fun i j hi hj=>?_⟩)|exact X3D (L:=(w,a+1)::r) _ (fun i j hi hj=>Q0f hway _ _ (Nat.zero_add _) (by rw[hg2]) i j hi hj) _ rfl rfl _ _ _ hl1 hi hj|exact J6B _ _ _ _ _ (Nat.zero_add _) (show(y.found:Int)+1=((y.found+1:Nat):Int) by omega) _ _ hj|exact X2n _ _ _ rfl _ _ _ rfl hi hj|exact tI|(refine⟨⟨_,rfl,?_⟩,?_⟩)|exact J0a.kf rfl|exact J0a.q|(refine⟨Nat.le_refl _,rfl,fun i j hi hj=>?_⟩)|exact VLe.rfl|apply And.intro)
         . have hst2:=hY.back hway ha hlt hi0 hrt;have hi2:y.idx (0+(gA (s.ar w) a).2)≠0:=by rw[Nat.zero_add];exact hi0
           repeat' ((conv=>whnf);first|(refine Ix.w r.length ?_)|(refine Ix.mk w (by rw[hg1]) hwn ?_)|(refine Ix.mk a (by rw[hg2]) ha ?_)|(refine Ix.mk (gA (s.ar w) a).2 (by rfl) a3 ?_)|(refine Br.mk (fun e=>Bool.noConfusion (e.symm.trans hlt)) (fun _=>?_))|(refine Br.dec ?_ ?_<;>intro _<;>try omega)|(refine Ar.q ?_)|(refine Sv.mk _ rfl ?_)|(refine Ltn.q ?_))
           all_goals (conv=>whnf)
           refine⟨_,Tj.S.back { y with way:=(w,a+1)::r } w (gA (s.ar w) a).2,?_,⟨rfl,hst2.1⟩,?_⟩
           . rw[hm];exact hst2.2
           . refine J0e (fun _ _=>[(5,some 5),(0,some 0),(1,some 1),(2,some 2),(3,some 3),(6,some 6)]) ?_ ?_ rfl
             . repeat' (first|exact J0a.vec rfl rfl (show y.way.length=r.length+1 from hl1)|exact tI|(refine⟨⟨_,rfl,?_⟩,?_⟩)|exact J0a.loc rfl)
             . repeat' (first|(refine⟨show r.length+1<=y.way.length by omega,rfl,fun i j hi hj=>?_⟩)|exact J82 hway _ _ (Nat.zero_add _) (by rw[hg2]) _ _ hi hj|exact J6B _ _ _ _ _ (Nat.zero_add _) (by rw[Nat.zero_add,Nat.zero_add];exact Q7t _ _) _ _ hj|exact tI|(refine⟨⟨_,rfl,?_⟩,?_⟩)|exact J0a.kf rfl|exact J0a.q|(refine⟨Nat.le_refl _,rfl,fun i j hi hj=>?_⟩)|exact VLe.rfl|apply And.intro)
   . have ha':a=(s.ar w).length:=by have:=hY.wok (w,a) (by rw[hway];exact List.mem_cons_self);simp only at this;omega
     have hnd:=J8s hY.inv;obtain⟨l,rest,hsp⟩:=List.append_of_mem hwp;have hwl2:w∉l:=fun hq=>by
      rw[hsp,List.nodup_append] at hnd;exact absurd rfl (hnd.2.2 w hq w (by simp))
     have hlt2:∀u∈y.pend,u<s.n:=fun u hu=>(hY.inv.nl u hu).2;have hr:r=[]\/∃p b r',r=(p,b)::r':=by
      cases r with
      | nil=>exact .inl rfl
      | cons p r=>exact .inr ⟨p.1,p.2,r,rfl⟩
     rcases hr with hr | ⟨p,b,r',hr⟩
     . have hr0:r.length=0:=by rw[hr];rfl
       rw[hr] at hway;have hlow:=Tj.way_two hY.inv hway;have hlo2:y.low (0+w)=y.idx (0+w):=by rw[Nat.zero_add];exact hlow
       have hz:y.pop={ y with way:=[] }:=by rw[Tj.S.pop,hway]
       have hst2:=hY.done hway ha' hlow hsp;have hcomp:=J52 s n2 lg y.pop w l rest (by rw[hz];exact hsp) hwl2 (by rw[hz];exact hlt2) (by rw[hz];exact Nat.le_trans ypl n2);rw[hz] at hst2 hcomp
       repeat' ((conv=>whnf);first|(refine Ix.w r.length ?_)|(refine Ix.mk w (by rw[hg1]) hwn ?_)|(refine Br.dec ?_ ?_<;>intro _<;>try omega)|(refine Br.nble ?_ ?_<;>intro _<;>try omega)|(refine Ar.q ?_)|(refine Bd.int (by omega) (by omega) ?_)|(refine Ltn.q ?_)|(refine J12 [(0,some 0),(1,some 1),(2,some 2),(3,some 3),(4,some 6)] [] (hcomp.mono ?_) ⟨J0a.loc rfl,J0a.int (by rw[hg1]),True.intro⟩ (by repeat' (first|exact tI|(refine⟨⟨_,rfl,?_⟩,?_⟩)|exact J0a.kf rfl|exact J0a.q|(refine⟨Nat.le_refl _,rfl,fun i j hi hj=>?_⟩)|exact VLe.rfl|apply And.intro)) rfl;rintro _ _ _ ⟨rfl,rfl⟩)|(refine Chk.q ?_))
       all_goals (conv=>whnf)
       refine⟨_,_,?_,⟨rfl,hst2.1⟩,?_⟩
       . rw[hm];exact hst2.2
       . refine J0e (fun _ _=>[(5,some 5),(0,some 0),(1,some 1),(2,some 2),(3,some 3),(6,some 6)]) ?_ ?_ rfl
         . repeat' (first|exact J0a.vec rfl rfl (show((y.way.length:Int)-1).toNat-0=0 by omega)|exact tI|(refine⟨⟨_,rfl,?_⟩,?_⟩)|exact J0a.loc rfl)
         . repeat' (first|(refine⟨show 0<=y.way.length by omega,rfl,fun i j hi hj=>?_⟩)|exact Q13 hway _ _ hi|exact tI|(refine⟨⟨_,rfl,?_⟩,?_⟩)|exact J0a.kf rfl|exact J0a.q|(refine⟨Nat.le_refl _,rfl,fun i j hi hj=>?_⟩)|exact VLe.rfl|apply And.intro)
     . have hrl:r.length=r'.length+1:=by rw[hr];rfl
       rw[hr] at hway;have hgp:gA y.way.reverse r'.length=(p,b):=by
        rw[J7n hway (by simp)];exact J7m rfl
       have hgp1:(gA y.way.reverse r'.length).1=p:=by rw[hgp]
       have hpp:p∈y.pend:=hY.inv.wp p (by simp[Tj.S.ws,hway]);have hpn:p<s.n:=hlt2 p hpp;have hpw:(0+w)≠(0+p):=fun e=>by
        have:=(Tj.head_max hY.inv hway).2.2.2 p (by simp);have e2:w=p:=by omega
        rw[e2] at this;omega
       have hz:y.pop={ y with way:=(p,b)::r',low:=Tj.upd y.low p (min (y.low p) (y.low w)) }:=by rw[Tj.S.pop,hway]
       by_cases he:y.low w=y.idx w
       . have hlo2:y.low (0+w)=y.idx (0+w):=by rw[Nat.zero_add];exact he
         have hst2:=hY.done hway ha' he hsp;have hcomp:=J52 s n2 lg y.pop w l rest (by rw[hz];exact hsp) hwl2 (by rw[hz];exact hlt2) (by rw[hz];exact Nat.le_trans ypl n2);rw[hz] at hst2 hcomp
         repeat' ((conv=>whnf);first|(refine Ix.w r.length ?_)|(refine Ix.mk w (by rw[hg1]) hwn ?_)|(refine Ix.mk p (by have e:(0+0+(((((y.way.length:Int)-1).toNat-0:Nat):Int)-1).toNat)=r'.length:=(by omega);rw[e,hgp1]) hpn ?_)|(refine Br.dec ?_ ?_<;>intro _<;>try omega)|(refine Br.nble ?_ ?_<;>intro _<;>try omega)|(refine Ar.q ?_)|(refine Sv.mk _ rfl ?_)|(refine Ix.int (by omega) (by omega) ?_)|(refine Bd.int (by omega) (by omega) ?_)|(refine Ltn.q ?_)|(refine J12 [(0,some 0),(1,some 1),(2,some 2),(3,some 3),(4,some 6)] [] (hcomp.mono ?_) ⟨J0a.loc rfl,J0a.int (by rw[hg1]),True.intro⟩ (by repeat' (first|exact J6B _ _ _ _ _ (Nat.zero_add _) (by rw[Nat.zero_add,Nat.zero_add];exact Q7t _ _) _ _ hj|exact tI|(refine⟨⟨_,rfl,?_⟩,?_⟩)|exact J0a.kf rfl|exact J0a.q|(refine⟨Nat.le_refl _,rfl,fun i j hi hj=>?_⟩)|exact VLe.rfl|apply And.intro)) rfl;rintro _ _ _ ⟨rfl,rfl⟩)|(refine Chk.q ?_)|(rw[Q1l _ _ _ _ hpw]))
         all_goals (conv=>whnf)
         refine⟨_,_,?_,⟨rfl,hst2.1⟩,?_⟩
         . rw[hm];exact hst2.2
         . refine J0e (fun _ _=>[(5,some 5),(0,some 0),(1,some 1),(2,some 2),(3,some 3),(6,some 6)]) ?_ ?_ rfl
           . repeat' (first|exact J0a.vec rfl rfl (show((y.way.length:Int)-1).toNat-0=r'.length+1 by omega)|exact tI|(refine⟨⟨_,rfl,?_⟩,?_⟩)|exact J0a.loc rfl)
           . repeat' (first|(refine⟨show r'.length+1<=y.way.length by omega,rfl,fun i j hi hj=>?_⟩)|exact Q13 hway _ _ hi|exact tI|(refine⟨⟨_,rfl,?_⟩,?_⟩)|exact J0a.kf rfl|exact J0a.q|(refine⟨Nat.le_refl _,rfl,fun i j hi hj=>?_⟩)|exact VLe.rfl|apply And.intro)
       . have hlo2:y.low (0+w)≠y.idx (0+w):=by rw[Nat.zero_add];exact he
         have hst2:=hY.keep hway ha' he;rw[hz] at hst2
         repeat' ((conv=>whnf);first|(refine Ix.w r.length ?_)|(refine Ix.mk w (by rw[hg1]) hwn ?_)|(refine Ix.mk p (by have e:(0+0+(((((y.way.length:Int)-1).toNat-0:Nat):Int)-1).toNat)=r'.length:=(by omega);rw[e,hgp1]) hpn ?_)|(refine Br.dec ?_ ?_<;>intro _<;>try omega)|(refine Br.nble ?_ ?_<;>intro _<;>try omega)|(refine Ar.q ?_)|(refine Sv.mk _ rfl ?_)|(refine Ix.int (by omega) (by omega) ?_)|(refine Bd.int (by omega) (by omega) ?_)|(refine Ltn.q ?_)|(rw[Q1l _ _ _ _ hpw]))
         all_goals (conv=>whnf)
         refine⟨_,_,?_,⟨rfl,hst2.1⟩,?_⟩
         . rw[hm];exact hst2.2
         . refine J0e (fun _ _=>[(5,some 5),(0,some 0),(1,some 1),(2,some 2),(3,some 3),(6,some 6)]) ?_ ?_ rfl
           . repeat' (first|exact J0a.vec rfl rfl (show((y.way.length:Int)-1).toNat-0=r'.length+1 by omega)|exact tI|(refine⟨⟨_,rfl,?_⟩,?_⟩)|exact J0a.loc rfl)
           . repeat' (first|(refine⟨show r'.length+1<=y.way.length by omega,rfl,fun i j hi hj=>?_⟩)|exact Q13 hway _ _ hi|exact J6B _ _ _ _ _ (Nat.zero_add _) (by rw[Nat.zero_add,Nat.zero_add];exact Q7t _ _) _ _ hj|exact tI|(refine⟨⟨_,rfl,?_⟩,?_⟩)|exact J0a.kf rfl|exact J0a.q|(refine⟨Nat.le_refl _,rfl,fun i j hi hj=>?_⟩)|exact VLe.rfl|apply And.intro)
end Go.Proofs.YtlpfphlbghdokaaGreatDoor
namespace Go.Eng
open Go.Plain
set_option linter.unusedVariables false
def adqP (lg:Nat->Bool) (L:List (Nat×Nat)) (p:Nat×Nat):List (Nat×Nat):=if lg p.1=false/\p∉L then L++[p] else L
theorem Q1R.add {s:Tsy} {lg:Nat->Bool} {m:Nat} {L:List (Nat×Nat)} (h:Q1R s lg m L) {p:Nat×Nat} (hp:p.1<s.n/\p.2<m):Q1R s lg m (adqP lg L p):=by
 rw[adqP];split
 . rename_i q;exact h.snoc hp q.1 q.2
 . exact h
structure MpI (s:Tsy) (lg:Nat->Bool) (Q:Nat->Nat->Nat->Prop) (B:Nat) (es:List (KyT (.st KP)×V)):Prop where
 get:∀(p:Nat×Nat) (v:V),p.1<s.n->lg p.1=false->J1N es (kyP p)=some v->∃r:Nat,v=.int .i64 r/\Q p.1 p.2 r/\r<=B
theorem MpI.nil (s:Tsy) (lg:Nat->Bool) (Q:Nat->Nat->Nat->Prop) (B:Nat):MpI s lg Q B []:=⟨fun p v _ _ h=>by simp[J1N] at h⟩
end Go.Eng
namespace Go.Proofs.YtlpfphlbghdokaaGreatDoor
open Go.Eng Go.Plain
set_option maxRecDepth 100000
set_option linter.unusedVariables false
def Q5T:List Nat->Nat->List (KyT (.one .i64)×V)
 | [],_=>[]
 | r::L,i=>((r:Int),.int .i64 i)::Q5T L (i+1)
theorem X22:∃f:List Nat->List (KyT (.one .i64)×V),∀l,f l=Q5T l 0:=⟨fun l=>Q5T l 0,fun _=>rfl⟩
noncomputable def enR:List Nat->List (KyT (.one .i64)×V):=Classical.choose X22
theorem Q1t (l:List Nat):enR l=Q5T l 0:=Classical.choose_spec X22 l
theorem X43:enR []=[]:=by rw[Q1t];rfl
theorem Q4s:∀(l:List Nat) (i:Nat),(Q5T l i).length=l.length
 | [],_=>rfl
 | r::l,i=>by rw[Q5T,List.length_cons,List.length_cons,Q4s l]
theorem Q8F (l:List Nat):(enR l).length=l.length:=by rw[Q1t,Q4s]
theorem Q1q (q:Nat):∀(L:List Nat) (i:Nat),J1N (Q5T L i) (q:Int)=if q∈L then some (.int .i64 ((i+L.idxOf q:Nat):Int)) else none
 | [],_=>by rw[if_neg (by simp)];rfl
 | r::L,i=>by
   have ih:=Q1q q L (i+1);show(if (r:Int)=(q:Int) then some (V.int .i64 i) else J1N (Q5T L (i+1)) (q:Int))=_;by_cases h:r=q
   . subst h;rw[if_pos rfl,if_pos (by simp)];simp
   . rw[if_neg (fun e=>h (by omega)),ih];have:(q∈r::L)↔q∈L:=by
      rw[List.mem_cons];exact⟨fun e=>e.elim (fun e=>(h e.symm).elim) id,.inr⟩
     simp only[this];by_cases hm:q∈L
     . have e:(r::L).idxOf q=L.idxOf q+1:=by
        rw[List.idxOf_cons];have:(r == q)=false:=by simpa using h
        rw[this];rfl
       rw[if_pos hm,if_pos hm,e,show i+1+List.idxOf q L=i+(List.idxOf q L+1) by omega]
     . rw[if_neg hm,if_neg hm]
theorem X1p (q:Nat) (L:List Nat):J1N (enR L) (q:Int)=if q∈L then some (.int .i64 (L.idxOf q:Nat)) else none:=by rw[Q1t,Q1q,Nat.zero_add]
theorem Q3L {q:Nat}:∀{L:List Nat} {i:Nat},q∉L->mput (Q5T L i) (q:Int) (.int .i64 ((i+L.length:Nat):Int))=Q5T (L++[q]) i
 | [],_,_=>rfl
 | r::L,i,h=>by
   have h1:r≠q:=fun e=>h (by simp[e]);have h2:q∉L:=fun e=>h (by simp[e]);show(if (r:Int)=(q:Int) then ((r:Int),V.int .i64 ((i+(r::L).length:Nat):Int))::Q5T L (i+1) else ((r:Int),V.int .i64 i)::mput (Q5T L (i+1)) (q:Int) (.int .i64 ((i+(r::L).length:Nat):Int)))=_;rw[if_neg (fun e=>h1 (by omega)),List.length_cons,show i+(L.length+1)=i+1+L.length by omega,Q3L h2];rfl
theorem X4d {q:Nat} {L:List Nat} (h:q∉L) {n:Nat} (hn:n=L.length):mput (enR L) (q:Int) (.int .i64 (n:Int))=enR (L++[q]):=by
 subst hn;have:=Q3L (i:=0) h;rw[Nat.zero_add] at this;rw[Q1t,Q1t,this]
theorem Q7x {L:List Nat} {q:Int} {r:Nat} (hq:q=r) {A:V->Prop} {B:Prop} (h1:r∈L->A (.int .i64 (L.idxOf r:Nat))) (h2:r∉L->B):X8M (J1N (enR L) q) A B:=by
 subst hq;rw[X1p];by_cases h:r∈L
 . rw[if_pos h];exact⟨fun v hv=>(by cases hv;exact h1 h),fun hn=>(by cases hn)⟩
 . rw[if_neg h];exact⟨fun v hv=>(by cases hv),fun _=>h2 h⟩
structure Q3c (lg:Nat->Bool) (rt:Nat->Option Nat) (L:List Nat) (c:Nat->Int) (k:Nat):Prop where
 len:L.length<=k
 leg:∀j,j<k->lg j=true->c j=-1
 out:∀j,j<k->lg j=false->∃r,rt j=some r/\r∈L/\c j=(L.idxOf r:Nat)
def X2r (f:Nat->Int) (k:Nat) (x:Int):Nat->Int:=fun i=>if i=k then x else f i
variable {lg:Nat->Bool} {rt:Nat->Option Nat} {L:List Nat} {c:Nat->Int} {k:Nat}
theorem Q3c.start (lg:Nat->Bool) (rt:Nat->Option Nat) (c:Nat->Int):Q3c lg rt [] c 0:=⟨Nat.le_refl _,fun j hj=>by omega,fun j hj=>by omega⟩
theorem Q3c.skip (h:Q3c lg rt L c k) (hl:lg k=true):Q3c lg rt L (X2r c k (-1)) (k+1):=by
 refine⟨by have:=h.len;omega,fun j hj hlj=>?_,fun j hj hlj=>?_⟩
 . show(if j=k then (-1:Int) else c j)=-1;split
   . rfl
   . exact h.leg j (by omega) hlj
 . have hne:j≠k:=fun e=>by rw[e,hl] at hlj;cases hlj
   obtain⟨r,h1,h2,h3⟩:=h.out j (by omega) hlj;exact⟨r,h1,h2,by show(if j=k then (-1:Int) else c j)=_;rw[if_neg hne];exact h3⟩
theorem Q3c.old (h:Q3c lg rt L c k) (hl:lg k=false) {r:Nat} (hr:rt k=some r) (hm:r∈L):Q3c lg rt L (X2r c k (L.idxOf r:Nat)) (k+1):=by
 refine⟨by have:=h.len;omega,fun j hj hlj=>?_,fun j hj hlj=>?_⟩
 . have hne:j≠k:=fun e=>by rw[e,hl] at hlj;cases hlj
   show(if j=k then _ else c j)=-1;rw[if_neg hne];exact h.leg j (by omega) hlj
 . by_cases hne:j=k
   . subst hne;exact⟨r,hr,hm,if_pos rfl⟩
   . obtain⟨r',h1,h2,h3⟩:=h.out j (by omega) hlj;exact⟨r',h1,h2,by show(if j=k then _ else c j)=_;rw[if_neg hne];exact h3⟩
theorem Q3c.new (h:Q3c lg rt L c k) (hl:lg k=false) {r:Nat} (hr:rt k=some r) (hm:r∉L):Q3c lg rt (L++[r]) (X2r c k (L.length:Nat)) (k+1):=by
 refine⟨by have:=h.len;rw[List.length_append,List.length_singleton];omega,fun j hj hlj=>?_,fun j hj hlj=>?_⟩
 . have hne:j≠k:=fun e=>by rw[e,hl] at hlj;cases hlj
   show(if j=k then _ else c j)=-1;rw[if_neg hne];exact h.leg j (by omega) hlj
 . by_cases hne:j=k
   . subst hne;refine⟨r,hr,by simp,?_⟩;show(if j=j then _ else c j)=_;rw[if_pos rfl,List.idxOf_append,if_neg hm];simp
   . obtain⟨r',h1,h2,h3⟩:=h.out j (by omega) hlj;refine⟨r',h1,by simp[h2],?_⟩;show(if j=k then _ else c j)=_;rw[if_neg hne,h3,List.idxOf_append,if_pos h2]
structure Q4T (s:Tsy) (lg:Nat->Bool) (c:Nat->Int):Prop where
 leg:∀k,k<s.n->lg k=true->c k=-1
 out:∀k,k<s.n->lg k=false->0<=c k/\c k<s.n
 scc:∀j k,j<s.n->k<s.n->lg j=false->lg k=false->c j=c k->Tj.Rch s.to lg j k
theorem Q3c.done {s:Tsy} {x:Tj.S} (h:Q3c lg x.rt L c s.n) (hI:Tj.Inv s.n s.to lg none x):Q4T s lg c:=by
 refine⟨h.leg,fun k hk hl=>?_,fun j k hj hk hlj hlk e=>?_⟩
 . obtain⟨r,h1,h2,h3⟩:=h.out k hk hl;have:=List.idxOf_lt_length_of_mem h2;have:=h.len;omega
 . obtain⟨r,h1,h2,h3⟩:=h.out j hj hlj;obtain⟨r',h1',h2',h3'⟩:=h.out k hk hlk;have e2:L.idxOf r=L.idxOf r':=by omega
   have e3:r=r':=by
    have a:=List.getElem_idxOf (List.idxOf_lt_length_of_mem h2);have b:=List.getElem_idxOf (List.idxOf_lt_length_of_mem h2');rw[<- a,<- b];simp only[e2]
   subst e3;exact hI.scc j k r h1 h1'
end Go.Proofs.YtlpfphlbghdokaaGreatDoor
namespace Go.Proofs.YtlpfphlbghdokaaGreatDoor
open Go.Eng Go.Plain
set_option maxRecDepth 100000
set_option linter.unusedVariables false
def vIc (c:Nat->Int):Nat->Nat->V:=fun i _=>.int .i64 (c i)
def X2q (k:Nat):Nat->Nat->V:=fun i _=>.int .i64 (if i<k then -1 else 0)
theorem Q93 (k k' i j:Nat) (hk:k'=k) (hj:j<1):VLe (J0M (X2q k) k' 0 [.int .i64 (-1)] i j) (X2q (k+1) i j):=by
 obtain rfl:j=0:=by omega
 subst hk;apply VLe.of_eq;rw[X2q];by_cases h:i=k'
 . subst h;simp[J0M]
 . have:(i<k'+1)↔i<k':=by omega
   simp[J0M,X2q,h,this]
theorem Q6c (i j:Nat) (hj:j<1):VLe ((fun(_ j:Nat)=>[V.int .i64 0].getD j default) i j) (X2q 0 i j):=by
 obtain rfl:j=0:=by omega
 exact VLe.of_eq (by show V.int .i64 0=V.int .i64 (if i<0 then -1 else 0);rw[if_neg (by omega)])
theorem Q94 (n i j:Nat) (hi:i<n):VLe (X2q n i j) (vRt (fun _=>none) i j):=VLe.of_eq (by rw[X2q,if_pos hi];rfl)
theorem Q18 (c:Nat->Int) (k k':Nat) (x:Int) (a:Int) (hk:k'=k) (ha:x=a) (i j:Nat) (hj:j<1):VLe (J0M (vIc c) k' 0 [.int .i64 x] i j) (vIc (X2r c k a) i j):=by
 obtain rfl:j=0:=by omega
 subst hk;subst ha;apply VLe.of_eq;rw[vIc,X2r];by_cases h:i=k'
 . subst h;simp[J0M]
 . simp[J0M,vIc,h]
theorem Q95 (i j:Nat) (hj:j<1):VLe ((fun(_ j:Nat)=>[V.int .i64 0].getD j default) i j) (vIc (fun _=>0) i j):=by
 obtain rfl:j=0:=by omega
 exact VLe.rfl
def x0T:Tj.S:=⟨fun _=>0,fun _=>0,fun _=>none,0,[],[]⟩
theorem X6k (s:Tsy) (x:Tj.S):unW s x<=s.n:=by
 have:=Q2f (fun j=>if x.idx j=0 then 1 else 0) 1 (fun k=>by split<;>omega) s.n;rw[unW];omega
def wkB (s:Tsy) (lg:Nat->Bool) (x:Tj.S):List V:=[.fz s.n 1 false (vEn s),.fz s.n 1 false (X0a s),blV s.n lg,.vec 1 1 0 s.n,.vec 2 1 0 s.n,.vec 3 1 0 s.n,.int .i64 x.found,.vec 5 1 0 x.pend.length]
def X6P (s:Tsy) (lg:Nat->Bool) (x:Tj.S):Own:=[(4,.cells (wkB s lg x)),(3,.vec s.n 1 (vRt x.rt)),(2,.vec s.n 1 (vEt x.low)),(1,.vec s.n 1 (vEt x.idx)),(5,.vec x.pend.length 1 (vQ x.pend.reverse)),(0,.cells [.fz s.n 1 false (vEn s),.fz s.n 1 false (X0a s)])]
structure X3u (s:Tsy) (lg:Nat->Bool) (k:Nat) (x:Tj.S):Prop where
 inv:Tj.Inv s.n s.to lg none x
 way:x.way=[]
 cnt:x.found+unW s x<=s.n
 all:∀j,j<k->lg j=false->x.idx j≠0
theorem X3u.next {s:Tsy} {lg:Nat->Bool} {k:Nat} {x y:Tj.S} (h:X3u s lg k x) (hl:lg k=false) (hy:WkI s lg k x y) (hw:y.way=[]):X3u s lg (k+1) y :=
 ⟨hy.inv,hw,hy.cnt,fun j hj hlj=>by
   by_cases e:j=k
   . subst e;exact hy.has
   . exact hy.mono j (h.all j (by omega) hlj)⟩
theorem X3u.skip {s:Tsy} {lg:Nat->Bool} {k:Nat} {x:Tj.S} (h:X3u s lg k x) (hl:lg k=true\/x.idx k≠0):X3u s lg (k+1) x :=
 ⟨h.inv,h.way,h.cnt,fun j hj hlj=>by
   by_cases e:j=k
   . subst e;rcases hl with hl|hl
     . rw[hl] at hlj;cases hlj
     . exact hl
   . exact h.all j (by omega) hlj⟩
theorem X6o {s:Tsy} (hs:s.Ok):∀k,k<s.n->∀t∈s.to k,t<s.n:=fun k hk t ht=>by
 obtain⟨a,ha,rfl⟩:=List.mem_map.1 ht;exact(hs.arc k hk a ha).2.2
set_option maxHeartbeats 16000000 in
theorem J9P (s:Tsy) (hs:s.Ok) (lg:Nat->Bool):Q9D Tryz.prog 44 [s.v,blV s.n lg] fun v=>∃c,Q4T s lg c/\v=.fz s.n 1 false (vIc c):=by
 have n1:=hs.n1;have n2:=hs.n2;refine X0F rfl ?_;refine J0c J0b Tryz.func44 rfl hc44 hr44 rfl ?_
 repeat' ((conv=>whnf);first|(refine Bd.q ?_)|(refine Len.q ?_)|(refine MkS.vec ?_))
 all_goals (conv=>whnf)
 refine J01 J0b [1,5,26] [] [5,6,7,8,9,10,11,12,13,14,15,16,17,18,19,20,21,22,23,24,25,26,27,28,29] [4,3,2,1,0] (fun i:Nat=>[(27,.int .i64 i)]) (fun own i=>J1H own 3 (.vec s.n 1 (X2q i))) (fun m i=>m=s.n-i/\i<=s.n) s.n 0 ⟨rfl,Nat.zero_le _⟩ rfl (fun _=>rfl) ?_ ?_
 . refine J0e (fun _ _=>[(4,some 4),(3,some 3),(2,some 2),(1,some 1),(0,some 0)]) ?_ ?_ rfl
   . repeat' (first|exact tI|(refine⟨⟨_,rfl,?_⟩,?_⟩)|exact J0a.kf rfl|exact J0a.loc rfl)
   . repeat' (first|exact Q6c _ _ hj|exact tI|(refine⟨⟨_,rfl,?_⟩,?_⟩)|exact J0a.kf rfl|exact J0a.q|(refine⟨Nat.le_refl _,rfl,fun i j hi hj=>?_⟩)|exact VLe.rfl|apply And.intro)
 rintro m i ⟨hm,hi⟩;by_cases hin:i<s.n
 . repeat' ((conv=>whnf);first|(refine Br.dec ?_ ?_<;>intro _<;>try omega)|(refine Ar.q ?_)|(refine Ix.q ?_)|(refine Ltn.q ?_))
   all_goals (conv=>whnf)
   refine⟨s.n-(i+1),i+1,by omega,⟨rfl,by omega⟩,?_⟩;refine J0e (fun _ _=>[(4,some 4),(3,some 3),(2,some 2),(1,some 1),(0,some 0)]) ?_ ?_ rfl
   . repeat' (first|exact tI|(refine⟨⟨_,rfl,?_⟩,?_⟩)|exact J0a.kf rfl|exact J0a.loc rfl)
   . repeat' (first|exact Q93 _ _ _ _ (Nat.zero_add _) hj|exact tI|(refine⟨⟨_,rfl,?_⟩,?_⟩)|exact J0a.kf rfl|exact J0a.q|(refine⟨Nat.le_refl _,rfl,fun i j hi hj=>?_⟩)|exact VLe.rfl|apply And.intro)
 have ei:i=s.n:=by omega
 subst ei
 repeat' ((conv=>whnf);first|(refine Br.dec ?_ ?_<;>intro _<;>try omega))
 all_goals (conv=>whnf)
 have hst:X3u s lg 0 x0T:=⟨Tj.Inv.start (X6o hs),rfl,by have:=X6k s x0T;show 0+_<=_;omega,fun j hj=>by omega⟩;refine J1h J0b [1,5,36] [5] [6,7,8,9,10,11,12,13,14,15,16,17,18,19,20,21,22,23,24,25,26,27,28,29] [4,3,2,1,5,0] (fun y:Nat×Tj.S=>[(37,.int .i64 y.1)]) (fun y=>X6P s lg y.2) (fun m y=>m=s.n-y.1/\y.1<=s.n/\X3u s lg y.1 y.2) s.n (0,x0T) ⟨rfl,Nat.zero_le _,hst⟩ rfl (fun _=>rfl) ?_ ?_
 . refine J0e (fun _ _=>[(4,some 4),(3,some 3),(2,some 2),(1,some 1),(5,none),(0,some 0)]) ?_ ?_ rfl
   . repeat' (first|exact tI|(refine⟨⟨_,rfl,?_⟩,?_⟩)|exact J0a.kf rfl|exact J0a.loc rfl)
   . repeat' (first|exact Q94 _ _ _ hi|exact Q96 _ _ hj|exact tI|(refine⟨⟨_,rfl,?_⟩,?_⟩)|exact J0a.kf rfl|exact J0a.q|exact J0a.nil rfl rfl|(refine⟨Nat.le_refl _,rfl,fun i j hi hj=>?_⟩)|(refine⟨⟨_,_,rfl⟩,?_⟩)|apply And.intro)
 rintro m p ⟨hm,hq,hA⟩;by_cases hqn:p.1<s.n
 . cases hlg:lg p.1 with
   | true =>
     repeat' ((conv=>whnf);first|(refine Br.mk (fun _=>?_) (fun e=>Bool.noConfusion (e.symm.trans hlg)))|(refine Br.dec ?_ ?_<;>intro _<;>try omega)|(refine Ar.q ?_)|(refine Ix.q ?_))
     all_goals (conv=>whnf)
     refine⟨s.n-(p.1+1),(p.1+1,p.2),by omega,⟨rfl,hqn,hA.skip (.inl hlg)⟩,?_⟩;exact J0k (fun _ _=>[(4,some 4),(3,some 3),(2,some 2),(1,some 1),(5,some 5),(0,some 0)])
   | false =>
     by_cases hi0:p.2.idx p.1=0
     . have hi2:p.2.idx (0+p.1)=0:=by rw[Nat.zero_add];exact hi0
       have hcall:=Q49 s hs lg p.1 p.2 hA.inv hA.way hA.cnt hqn hlg hi0
       repeat' ((conv=>whnf);first|(refine Br.mk (fun e=>Bool.noConfusion (e.symm.trans hlg)) (fun _=>?_))|(refine Br.dec ?_ ?_<;>intro _<;>try omega)|(refine Ar.q ?_)|(refine Ix.q ?_)|(refine Ltn.q ?_)|(refine Chk.q ?_)|(refine J12 [(0,some 4),(1,some 1),(2,some 2),(3,some 3),(4,some 5)] [6] (hcall.mono ?_) ⟨J0a.loc rfl,J0a.kf rfl,True.intro⟩ (by repeat' (first|exact tI|(refine⟨⟨_,rfl,?_⟩,?_⟩)|exact J0a.kf rfl|exact J0a.q|(refine⟨Nat.le_refl _,rfl,fun i j hi hj=>?_⟩)|exact VLe.rfl|apply And.intro)) rfl;rintro _ _ _ ⟨rfl,z,hZ,hzw,rfl⟩))
       all_goals (conv=>whnf)
       refine⟨s.n-(p.1+1),(p.1+1,z),by omega,⟨rfl,hqn,hA.next hlg hZ hzw⟩,?_⟩;exact J0k (fun env own=>[(4,some 4),(3,some 3),(2,some 2),(1,some 1),(5,J9T own 4 7),(0,some 0)])
     . have hi2:p.2.idx (0+p.1)≠0:=by rw[Nat.zero_add];exact hi0
       repeat' ((conv=>whnf);first|(refine Br.mk (fun e=>Bool.noConfusion (e.symm.trans hlg)) (fun _=>?_))|(refine Br.dec ?_ ?_<;>intro _<;>try omega)|(refine Ar.q ?_)|(refine Ix.q ?_)|(refine Ltn.q ?_))
       all_goals (conv=>whnf)
       refine⟨s.n-(p.1+1),(p.1+1,p.2),by omega,⟨rfl,hqn,hA.skip (.inr hi0)⟩,?_⟩;exact J0k (fun _ _=>[(4,some 4),(3,some 3),(2,some 2),(1,some 1),(5,some 5),(0,some 0)])
 . have eq:p.1=s.n:=by omega
   rw[eq] at hA;have hid:=hA.inv.idle hA.way;have hrt:∀k,k<s.n->lg k=false->∃r,p.2.rt k=some r:=fun k hk hl=>hid.2 k hk hl (hA.all k hk hl);have he:=X43
   repeat' ((conv=>whnf);first|(refine Br.dec ?_ ?_<;>intro _<;>try omega)|(refine Bd.q ?_)|(refine Len.q ?_)|(refine MkS.vec ?_))
   all_goals (conv=>whnf)
   refine J1h J0b [1,5,8,9,61] [] [8,9,10,11,12,13,14,15,16,17,18,19,20,21,22,23,24,25,26,27,28,29] [7,6,4,3,2,1,5,0] (fun z:Nat×List Nat×(Nat->Int)=>[(62,.int .i64 z.1)]) (fun z=>(7,.vec s.n 1 (vIc z.2.2))::(6,.map (.one .i64) (enR z.2.1))::X6P s lg p.2) (fun m z=>m=s.n-z.1/\z.1<=s.n/\Q3c lg p.2.rt z.2.1 z.2.2 z.1) s.n (0,[],fun _=>0) ⟨rfl,Nat.zero_le _,Q3c.start _ _ _⟩ rfl (fun _=>rfl) ?_ ?_
   . refine J0e (fun _ _=>[(7,some 7),(6,some 6),(4,some 4),(3,some 3),(2,some 2),(1,some 1),(5,some 5),(0,some 0)]) ?_ ?_ rfl
     . repeat' (first|exact tI|exact J0a.map rfl|(refine⟨⟨_,rfl,?_⟩,?_⟩)|exact J0a.kf rfl|exact J0a.loc rfl|exact J0a.q)
     . repeat' (first|exact⟨rfl,he⟩|exact Q95 _ _ hj|exact tI|(refine⟨⟨_,rfl,?_⟩,?_⟩)|exact J0a.kf rfl|exact J0a.q|(refine⟨Nat.le_refl _,rfl,fun i j hi hj=>?_⟩)|exact VLe.rfl|apply And.intro)
   rintro m2 z ⟨hm2,hz,hN⟩;have hNl:=hN.len;by_cases hzn:z.1<s.n
   . cases hlg:lg z.1 with
     | true =>
       repeat' ((conv=>whnf);first|(refine Br.mk (fun _=>?_) (fun e=>Bool.noConfusion (e.symm.trans hlg)))|(refine Br.dec ?_ ?_<;>intro _<;>try omega)|(refine Ar.q ?_)|(refine Ix.q ?_)|(refine Ltn.q ?_))
       all_goals (conv=>whnf)
       refine⟨s.n-(z.1+1),(z.1+1,z.2.1,X2r z.2.2 z.1 (-1)),by omega,⟨rfl,hzn,hN.skip hlg⟩,?_⟩;refine J0e (fun _ _=>[(7,some 7),(6,some 6),(4,some 4),(3,some 3),(2,some 2),(1,some 1),(5,some 5),(0,some 0)]) ?_ ?_ rfl
       . repeat' (first|exact tI|exact J0a.map rfl|(refine⟨⟨_,rfl,?_⟩,?_⟩)|exact J0a.kf rfl|exact J0a.loc rfl|exact J0a.q)
       . repeat' (first|exact⟨rfl,rfl⟩|exact Q18 _ _ _ _ _ (Nat.zero_add _) rfl _ _ hj|exact tI|(refine⟨⟨_,rfl,?_⟩,?_⟩)|exact J0a.kf rfl|exact J0a.q|(refine⟨Nat.le_refl _,rfl,fun i j hi hj=>?_⟩)|exact VLe.rfl|apply And.intro)
     | false =>
       obtain⟨r,hr⟩:=hrt z.1 hzn hlg;have hr2:rtI p.2.rt (0+z.1)=r:=by rw[Nat.zero_add,rtI,hr]
       repeat' ((conv=>whnf);first|(refine Br.mk (fun e=>Bool.noConfusion (e.symm.trans hlg)) (fun _=>?_))|(refine Br.dec ?_ ?_<;>intro _<;>try omega)|(refine Ar.q ?_)|(refine Ix.q ?_)|(refine Ltn.q ?_)|(refine Q7x (r:=r) hr2 (fun hin=>?_) (fun hout=>?_)))
       all_goals (conv=>whnf)
       . refine⟨s.n-(z.1+1),(z.1+1,z.2.1,X2r z.2.2 z.1 (z.2.1.idxOf r:Nat)),by omega,⟨rfl,hzn,hN.old hlg hr hin⟩,?_⟩;refine J0e (fun _ _=>[(7,some 7),(6,some 6),(4,some 4),(3,some 3),(2,some 2),(1,some 1),(5,some 5),(0,some 0)]) ?_ ?_ rfl
         . repeat' (first|exact tI|exact J0a.map rfl|(refine⟨⟨_,rfl,?_⟩,?_⟩)|exact J0a.kf rfl|exact J0a.loc rfl|exact J0a.q)
         . repeat' (first|exact⟨rfl,rfl⟩|exact Q18 _ _ _ _ _ (Nat.zero_add _) rfl _ _ hj|exact tI|(refine⟨⟨_,rfl,?_⟩,?_⟩)|exact J0a.kf rfl|exact J0a.q|(refine⟨Nat.le_refl _,rfl,fun i j hi hj=>?_⟩)|exact VLe.rfl|apply And.intro)
       . have hput:enR (z.2.1++[r])=mput (enR z.2.1) (rtI p.2.rt (0+z.1)) (.int .i64 ((enR z.2.1).length:Nat)):=by
          rw[hr2];exact(X4d hout (Q8F _)).symm
         refine⟨s.n-(z.1+1),(z.1+1,z.2.1++[r],X2r z.2.2 z.1 (z.2.1.length:Nat)),by omega,⟨rfl,hzn,hN.new hlg hr hout⟩,?_⟩;refine J0e (fun _ _=>[(7,some 7),(6,some 6),(4,some 4),(3,some 3),(2,some 2),(1,some 1),(5,some 5),(0,some 0)]) ?_ ?_ rfl
         . repeat' (first|exact tI|exact J0a.map rfl|(refine⟨⟨_,rfl,?_⟩,?_⟩)|exact J0a.kf rfl|exact J0a.loc rfl|exact J0a.q)
         . repeat' (first|exact⟨rfl,hput⟩|exact Q18 _ _ _ _ _ (Nat.zero_add _) (by rw[Q8F]) _ _ hj|exact tI|(refine⟨⟨_,rfl,?_⟩,?_⟩)|exact J0a.kf rfl|exact J0a.q|(refine⟨Nat.le_refl _,rfl,fun i j hi hj=>?_⟩)|exact VLe.rfl|apply And.intro)
   . have ez:z.1=s.n:=by omega
     rw[ez] at hN;have hC:=hN.done hA.inv
     repeat' ((conv=>whnf);first|(refine Br.dec ?_ ?_<;>intro _<;>try omega)|(refine Len.q ?_))
     all_goals (conv=>whnf)
     exact⟨_,⟨z.2.2,hC,rfl⟩,VLe.fz rfl (fun h=>h) (fun a b ha hb=>VLe.of_eq (by rw[J0w,Nat.zero_add]))⟩
end Go.Proofs.YtlpfphlbghdokaaGreatDoor
namespace Go.Proofs.YtlpfphlbghdokaaGreatDoor
open Go.Eng Go.Plain
set_option maxRecDepth 100000
set_option linter.unusedVariables false
def X8O (s:Tsy) (c:Nat->Int) (u:Nat):Prop:=∃k,k<s.n/\c k=u
def SvW (s:Tsy) (c:Nat->Int) (u v:Nat):Prop:=∃k,k<s.n/\c k=u/\((s.en k).testBit v=false\/∃a∈s.ar k,c a.2=u/\a.1.testBit v=true)
structure KpI (s:Tsy) (c:Nat->Int) (ins:Nat->Bool) (sv:Nat->Nat):Prop where
 hi:∀u,ins u=true->X8O s c u
 hs:∀u v,v<24->(sv u).testBit v=true->SvW s c u v
 lt:∀u,sv u<4294967296
def Q0h {α:Type} (f:Nat->α) (k:Nat) (x:α):Nat->α:=fun i=>if i=k then x else f i
variable {s:Tsy} {c:Nat->Int} {ins:Nat->Bool} {sv:Nat->Nat}
theorem KpI.start (s:Tsy) (c:Nat->Int):KpI s c (fun _=>false) (fun _=>0):=⟨fun u h=>(by cases h),fun u v _ h=>(by simp at h),fun u=>by decide⟩
theorem KpI.put (h:KpI s c ins sv) {k u:Nat} (hk:k<s.n) (hc:c k=u):KpI s c (Q0h ins u true) sv:=by
 refine⟨fun w hw=>?_,h.hs,h.lt⟩;by_cases e:w=u
 . subst e;exact⟨k,hk,hc⟩
 . exact h.hi w (by rw[Q0h,if_neg e] at hw;exact hw)
theorem KpI.off (h:KpI s c ins sv) (u:Nat):KpI s c (Q0h ins u false) sv:=by
 refine⟨fun w hw=>?_,h.hs,h.lt⟩;by_cases e:w=u
 . rw[Q0h,if_pos e] at hw;cases hw
 . exact h.hi w (by rw[Q0h,if_neg e] at hw;exact hw)
theorem KpI.or (h:KpI s c ins sv) {u m:Nat} (hm:m<4294967296) (hw:∀v,v<24->m.testBit v=true->SvW s c u v):KpI s c ins (Q0h sv u (sv u ||| m)):=by
 refine⟨h.hi,fun w v hv hb=>?_,fun w=>?_⟩
 . by_cases e:w=u
   . subst e;rw[Q0h,if_pos rfl,Nat.testBit_or,Bool.or_eq_true] at hb;rcases hb with hb|hb
     . exact h.hs w v hv hb
     . exact hw v hv hb
   . exact h.hs w v hv (by rw[Q0h,if_neg e] at hb;exact hb)
 . rw[Q0h];split
   . exact Nat.or_lt_two_pow (n:=32) (h.lt u) hm
   . exact h.lt w
def mxC (c:Nat->Int):Nat->Nat
 | 0=>0
 | k+1=>max (mxC c k) (c k+1).toNat
theorem Q7s (c:Nat->Int) {j:Nat}:∀{k:Nat},j<k->c j<mxC c k\/c j<0
 | 0,h=>by omega
 | k+1,h=>by
   rw[mxC];by_cases e:j=k
   . subst e;omega
   . have:=Q7s c (j:=j) (k:=k) (by omega);omega
theorem X2L (c:Nat->Int) {N:Nat}:∀{k:Nat},(∀j,j<k->c j<N)->mxC c k<=N
 | 0,_=>Nat.zero_le _
 | k+1,h=>by
   rw[mxC];have:=X2L c (k:=k) (fun j hj=>h j (by omega));have:=h k (by omega);omega
def vBn (b:Nat->Bool):Nat->Nat->V:=fun i _=>.bool (b i)
def vUn (f:Nat->Nat):Nat->Nat->V:=fun i _=>.int .u32 (f i)
theorem Q6d (b:Nat->Bool) (k k':Nat) (x:Bool) (hk:k'=k) (i j:Nat) (hj:j<1):VLe (J0M (vBn b) k' 0 [.bool x] i j) (vBn (Q0h b k x) i j):=by
 obtain rfl:j=0:=by omega
 subst hk;apply VLe.of_eq;rw[vBn,Q0h];by_cases h:i=k'
 . subst h;simp[J0M]
 . simp[J0M,vBn,h]
theorem Q55 (f:Nat->Nat) (k k':Nat) (x:Int) (a:Nat) (hk:k'=k) (hx:x=a) (i j:Nat) (hj:j<1):VLe (J0M (vUn f) k' 0 [.int .u32 x] i j) (vUn (Q0h f k a) i j):=by
 obtain rfl:j=0:=by omega
 subst hk;subst hx;apply VLe.of_eq;rw[vUn,Q0h];by_cases h:i=k'
 . subst h;simp[J0M]
 . simp[J0M,vUn,h]
theorem Q97 (i j:Nat) (hj:j<1):VLe ((fun(_ j:Nat)=>[V.bool false].getD j default) i j) (vBn (fun _=>false) i j):=by
 obtain rfl:j=0:=by omega
 exact VLe.rfl
theorem Q9W (i j:Nat) (hj:j<1):VLe ((fun(_ j:Nat)=>[V.int .u32 0].getD j default) i j) (vUn (fun _=>0) i j):=by
 obtain rfl:j=0:=by omega
 exact VLe.rfl
set_option maxHeartbeats 16000000 in
theorem X4z (s:Tsy) (hs:s.Ok) (c:Nat->Int) (hc:∀k,k<s.n->-1<=c k/\c k<s.n) (hno:∀u,¬ (X8O s c u/\∀v,v<24->SvW s c u v)) :
 Ret Tryz.prog 45 [s.v,.fz s.n 1 false (vIc c)] (.fz (mxC c s.n) 1 false (vBn fun _=>false)):=by
 have n1:=hs.n1;have n2:=hs.n2;refine J0g rfl ?_;refine J0c J0b Tryz.func45 rfl hc45 hr45 rfl ?_
 repeat' ((conv=>whnf);first|fail)
 all_goals (conv=>whnf)
 refine J0N J0b [1,2,16,17] (fun i:Nat=>[(5,.int .i64 (mxC c i)),(18,.int .i64 i)]) (fun m i=>m=s.n-i/\i<=s.n) s.n 0 ⟨rfl,Nat.zero_le _⟩ ?_ ?_
 . exact J0k (fun _ _=>[(0,some 0)])
 rintro m i ⟨hm,hi⟩;have hmx:=X2L c (k:=i) (fun j hj=>(hc j (by omega)).2);by_cases hin:i<s.n
 . have hci:=hc i hin
   repeat' ((conv=>whnf);first|(refine Br.dec ?_ ?_<;>intro _<;>try omega)|(refine Ar.q ?_)|(refine Sv.mk _ rfl ?_)|(refine Ix.q ?_))
   all_goals (conv=>whnf)
   all_goals
    refine⟨s.n-(i+1),i+1,by omega,⟨rfl,by omega⟩,?_⟩;refine J0e (fun _ _=>[(0,some 0)]) ?_ ?_ rfl
    . repeat' (first|exact J0a.int (by rw[mxC];first|omega|(split<;>omega))|exact tI|(refine⟨⟨_,rfl,?_⟩,?_⟩)|exact J0a.kf rfl|exact J0a.loc rfl)
    . repeat' (first|exact tI|(refine⟨⟨_,rfl,?_⟩,?_⟩)|exact J0a.kf rfl|apply And.intro)
 have ei:i=s.n:=by omega
 subst ei
 repeat' ((conv=>whnf);first|(refine Br.dec ?_ ?_<;>intro _<;>try omega)|(refine Bd.q ?_)|(refine Len.q ?_)|(refine MkS.vec ?_))
 all_goals (conv=>whnf)
 refine J1h J0b [1,2,5,8,9,31,32] [] [3,4,5,6,7,8,9,10,11,12,13,14,15,16,17,18,19,20,21,22,23,24,25,26,27,28,29] [2,1,0] (fun x:Nat×(Nat->Bool)×(Nat->Nat)=>[(33,.int .i64 x.1)]) (fun x=>[(2,.vec (mxC c s.n) 1 (vUn x.2.2)),(1,.vec (mxC c s.n) 1 (vBn x.2.1)),(0,.cells [.fz s.n 1 false (vEn s),.fz s.n 1 false (X0a s)])]) (fun m x=>m=s.n-x.1/\x.1<=s.n/\KpI s c x.2.1 x.2.2) s.n (0,(fun _=>false),fun _=>0) ⟨rfl,Nat.zero_le _,KpI.start s c⟩ rfl (fun _=>rfl) ?_ ?_
 . refine J0e (fun _ _=>[(2,some 2),(1,some 1),(0,some 0)]) ?_ ?_ rfl
   . repeat' (first|exact tI|(refine⟨⟨_,rfl,?_⟩,?_⟩)|exact J0a.kf rfl|exact J0a.loc rfl|exact J0a.q)
   . repeat' (first|exact Q9W _ _ hj|exact Q97 _ _ hj|exact tI|(refine⟨⟨_,rfl,?_⟩,?_⟩)|exact J0a.kf rfl|(refine⟨Nat.le_refl _,rfl,fun i j hi hj=>?_⟩)|apply And.intro)
 rintro m1 x ⟨hm1,hx,hK⟩;by_cases hxn:x.1<s.n
 . have hcx:=hc x.1 hxn;by_cases hneg:c x.1<0
   . repeat' ((conv=>whnf);first|(refine Br.dec ?_ ?_<;>intro _<;>try omega)|(refine Ar.q ?_)|(refine Ix.q ?_))
     all_goals (conv=>whnf)
     refine⟨s.n-(x.1+1),(x.1+1,x.2),by omega,⟨rfl,hxn,hK⟩,?_⟩;exact J0k (fun _ _=>[(2,some 2),(1,some 1),(0,some 0)])
   . obtain⟨u,hu⟩:∃u:Nat,c x.1=u:=⟨(c x.1).toNat,by omega⟩;have hun:u<mxC c s.n:=by have:=Q7s c hxn;omega
     have hen:=hs.en x.1 hxn;have hrow:=hs.row hxn;have hlt:=hK.lt u
     repeat' ((conv=>whnf);first|(refine Ix.mk u (by rw[hu]) hun ?_)|(refine Br.dec ?_ ?_<;>intro _<;>try omega)|(refine Sv.mk _ rfl ?_)|(refine Ix.q ?_)|(refine Ltn.q ?_))
     all_goals (conv=>whnf)
     have hx1:J20 .xor .u32 (if IntKind.u32.signed=true then -1 else IntKind.u32.max) (s.en x.1:Int)=((4294967295 ^^^ s.en x.1:Nat):Int):=X5A (a:=4294967295) (by decide) (by omega);have hxl:4294967295 ^^^ s.en x.1<4294967296:=Nat.xor_lt_two_pow (n:=32) (by decide) (by omega);have hor:=J8T hlt hxl;have hK1:=hK.or (u:=u) hxl (fun v hv hb=>⟨x.1,hxn,hu,.inl (by
      have h1:(4294967295:Nat).testBit v=true:=by
       rw[show(4294967295:Nat)=2 ^ 32-1 from rfl,Nat.testBit_two_pow_sub_one];simp;omega
      rw[Nat.testBit_xor,h1] at hb;simpa using hb)⟩)
     refine J1h J0b [1,2,5,8,9,10,11,31,32,33,56,57] [] [3,4,5,6,7,8,9,10,11,12,13,14,15,16,17,18,19,20,21,22,23,24,25,26,27,28,29] [2,1,0] (fun y:Nat×(Nat->Bool)×(Nat->Nat)=>[(58,.int .i64 y.1)]) (fun x=>[(2,.vec (mxC c s.n) 1 (vUn x.2.2)),(1,.vec (mxC c s.n) 1 (vBn x.2.1)),(0,.cells [.fz s.n 1 false (vEn s),.fz s.n 1 false (X0a s)])]) (fun m y=>m=(s.ar x.1).length-y.1/\y.1<=(s.ar x.1).length/\KpI s c y.2.1 y.2.2) (s.ar x.1).length (0,x.2.1,Q0h x.2.2 u (x.2.2 u ||| (4294967295 ^^^ s.en x.1))) ⟨rfl,Nat.zero_le _,hK1⟩ rfl (fun _=>rfl) ?_ ?_
     . refine J0e (fun _ _=>[(2,some 2),(1,some 1),(0,some 0)]) ?_ ?_ rfl
       . repeat' (first|exact tI|(refine⟨⟨_,rfl,?_⟩,?_⟩)|exact J0a.kf rfl|exact J0a.loc rfl|exact J0a.q)
       . repeat' (first|exact Q55 _ _ _ _ _ (Nat.zero_add _) (by rw[hx1,Nat.zero_add];exact hor) _ _ hj|exact tI|(refine⟨⟨_,rfl,?_⟩,?_⟩)|exact J0a.kf rfl|(refine⟨Nat.le_refl _,rfl,fun i j hi hj=>?_⟩)|exact VLe.rfl|apply And.intro)
     rintro m2 y ⟨hm2,hy,hJ⟩;have hlt2:=hJ.lt u;by_cases hyn:y.1<(s.ar x.1).length
     . obtain⟨a1,a2,a3⟩:=hs.arc _ hxn _ (J5a hyn);have ha32:=a2.le;have hor2:=J8T hlt2 (b:=(gA (s.ar x.1) y.1).1) (by omega);by_cases hce:c (gA (s.ar x.1) y.1).2=c x.1
       . have hJ2:=(hJ.put (k:=x.1) hxn hu).or (u:=u) (m:=(gA (s.ar x.1) y.1).1) (by omega) (fun v hv hb=>⟨x.1,hxn,hu,.inr ⟨_,J5a hyn,by rw[hce,hu],hb⟩⟩)
         repeat' ((conv=>whnf);first|(refine Ix.mk u (by rw[hu]) hun ?_)|(refine Br.dec ?_ ?_<;>intro _<;>try omega)|(refine Ar.q ?_)|(refine Sv.mk _ rfl ?_)|(refine Ix.q ?_)|(refine Ltn.q ?_))
         all_goals (conv=>whnf)
         refine⟨(s.ar x.1).length-(y.1+1),(y.1+1,Q0h y.2.1 u true,Q0h y.2.2 u (y.2.2 u ||| (gA (s.ar x.1) y.1).1)),by omega,⟨rfl,hyn,hJ2⟩,?_⟩;refine J0e (fun _ _=>[(2,some 2),(1,some 1),(0,some 0)]) ?_ ?_ rfl
         . repeat' (first|exact tI|(refine⟨⟨_,rfl,?_⟩,?_⟩)|exact J0a.kf rfl|exact J0a.loc rfl|exact J0a.q)
         . repeat' (first|exact Q6d _ _ _ _ (Nat.zero_add _) _ _ hj|exact Q55 _ _ _ _ _ (Nat.zero_add _) (by rw[Nat.zero_add];exact hor2) _ _ hj|exact tI|(refine⟨⟨_,rfl,?_⟩,?_⟩)|exact J0a.kf rfl|(refine⟨Nat.le_refl _,rfl,fun i j hi hj=>?_⟩)|apply And.intro)
       . repeat' ((conv=>whnf);first|(refine Br.dec ?_ ?_<;>intro _<;>try omega)|(refine Ar.q ?_)|(refine Ix.q ?_))
         all_goals (conv=>whnf)
         refine⟨(s.ar x.1).length-(y.1+1),(y.1+1,y.2),by omega,⟨rfl,hyn,hJ⟩,?_⟩;exact J0k (fun _ _=>[(2,some 2),(1,some 1),(0,some 0)])
     . repeat' ((conv=>whnf);first|(refine Br.dec ?_ ?_<;>intro _<;>try omega)|(refine Ar.q ?_))
       all_goals (conv=>whnf)
       refine⟨s.n-(x.1+1),(x.1+1,y.2),by omega,⟨rfl,hxn,hJ⟩,?_⟩;exact J0k (fun _ _=>[(2,some 2),(1,some 1),(0,some 0)])
 . have ex:x.1=s.n:=by omega
   repeat' ((conv=>whnf);first|(refine Br.dec ?_ ?_<;>intro _<;>try omega))
   all_goals (conv=>whnf)
   refine J1h J0b [1,2,5,8,9,82] [] [3,4,5,6,7,8,9,10,11,12,13,14,15,16,17,18,19,20,21,22,23,24,25,26,27,28,29] [2,1,0] (fun w:Nat×(Nat->Bool)=>[(83,.int .i64 w.1)]) (fun w=>[(2,.vec (mxC c s.n) 1 (vUn x.2.2)),(1,.vec (mxC c s.n) 1 (vBn w.2)),(0,.cells [.fz s.n 1 false (vEn s),.fz s.n 1 false (X0a s)])]) (fun m w=>m=mxC c s.n-w.1/\w.1<=mxC c s.n/\KpI s c w.2 x.2.2/\∀j,j<w.1->w.2 j=false) (mxC c s.n) (0,x.2.1) ⟨rfl,Nat.zero_le _,hK,fun j hj=>(by omega)⟩ rfl (fun _=>rfl) ?_ ?_
   . exact J0k (fun _ _=>[(2,some 2),(1,some 1),(0,some 0)])
   rintro m3 z ⟨hm3,hz,hL,hoff⟩;by_cases hzn:z.1<mxC c s.n
   . have hlt:=hL.lt z.1
     repeat' ((conv=>whnf);first|(refine Br.dec ?_ ?_<;>intro _<;>try omega))
     all_goals (conv=>whnf)
     refine J1h J0b [1,2,5,8,9,14,82,83] [] [3,4,5,6,7,8,9,10,11,12,13,14,15,16,17,18,19,20,21,22,23,24,25,26,27,28,29] [2,1,0] (fun w:Nat×(Nat->Bool)=>[(86,.int .i64 w.1)]) (fun w=>[(2,.vec (mxC c s.n) 1 (vUn x.2.2)),(1,.vec (mxC c s.n) 1 (vBn w.2)),(0,.cells [.fz s.n 1 false (vEn s),.fz s.n 1 false (X0a s)])]) (fun m w=>m=24-w.1/\w.1<=24/\KpI s c w.2 x.2.2/\(∀j,j<z.1->w.2 j=false)/\(w.2 z.1=true->∀v,v<w.1->(x.2.2 z.1).testBit v=true)) 24 (0,z.2) ⟨rfl,Nat.zero_le _,hL,hoff,fun _ v hv=>(by omega)⟩ rfl (fun _=>rfl) ?_ ?_
     . exact J0k (fun _ _=>[(2,some 2),(1,some 1),(0,some 0)])
     rintro m4 w ⟨hm4,hw,hM,hof2,hon⟩;by_cases hwn:w.1<24
     . have hsh:J20 .and .u32 ((x.2.2 (0+z.1):Int).fdiv (2 ^ (min (w.1:Int).toNat IntKind.u32.bits))) 1=if (x.2.2 z.1).testBit w.1 then 1 else 0:=by
        rw[Nat.zero_add,show min (w.1:Int).toNat IntKind.u32.bits=w.1 from by show min _ 32=_;omega];exact Q6D hlt
       cases hb:(x.2.2 z.1).testBit w.1 with
       | true =>
         rw[hb,if_pos rfl] at hsh
         repeat' ((conv=>whnf);first|(refine Br.dec ?_ ?_<;>intro _<;>try omega)|(refine Ar.q ?_)|(refine Sv.mk _ rfl ?_)|(refine Nn.mk (by omega) ?_)|(refine Ix.q ?_)|(refine Ltn.q ?_))
         all_goals (conv=>whnf)
         refine⟨24-(w.1+1),(w.1+1,w.2),by omega,⟨rfl,hwn,hM,hof2,fun h v hv=>?_⟩,?_⟩
         . by_cases e:v=w.1
           . subst e;exact hb
           . exact hon h v (by simp only at hv;omega)
         . exact J0k (fun _ _=>[(2,some 2),(1,some 1),(0,some 0)])
       | false =>
         rw[hb,if_neg (by decide)] at hsh
         repeat' ((conv=>whnf);first|(refine Br.dec ?_ ?_<;>intro _<;>try omega)|(refine Ar.q ?_)|(refine Sv.mk _ rfl ?_)|(refine Nn.mk (by omega) ?_)|(refine Ix.q ?_)|(refine Ltn.q ?_))
         all_goals (conv=>whnf)
         refine⟨24-(w.1+1),(w.1+1,Q0h w.2 z.1 false),by omega,⟨rfl,hwn,hM.off z.1,fun j hj=>?_,fun h=>?_⟩,?_⟩
         . show(if j=z.1 then false else w.2 j)=false;split
           . rfl
           . exact hof2 j hj
         . have h:(if z.1=z.1 then false else w.2 z.1)=true:=h;rw[if_pos rfl] at h;cases h
         . refine J0e (fun _ _=>[(2,some 2),(1,some 1),(0,some 0)]) ?_ ?_ rfl
           . repeat' (first|exact tI|(refine⟨⟨_,rfl,?_⟩,?_⟩)|exact J0a.kf rfl|exact J0a.loc rfl|exact J0a.q)
           . repeat' (first|exact Q6d _ _ _ _ (Nat.zero_add _) _ _ hj|exact tI|(refine⟨⟨_,rfl,?_⟩,?_⟩)|exact J0a.kf rfl|(refine⟨Nat.le_refl _,rfl,fun i j hi hj=>?_⟩)|exact VLe.rfl|apply And.intro)
     . have hlast:w.2 z.1=false:=by
        cases e:w.2 z.1 with
        | false=>rfl
        | true=>exact(hno z.1 ⟨hM.hi z.1 e,fun v hv=>hM.hs z.1 v hv (hon e v (by omega))⟩).elim
       repeat' ((conv=>whnf);first|(refine Br.dec ?_ ?_<;>intro _<;>try omega)|(refine Ar.q ?_))
       all_goals (conv=>whnf)
       refine⟨mxC c s.n-(z.1+1),(z.1+1,w.2),by omega,⟨rfl,hzn,hM,fun j hj=>?_⟩,?_⟩
       . by_cases e:j=z.1
         . subst e;exact hlast
         . exact hof2 j (by simp only at hj;omega)
       . exact J0k (fun _ _=>[(2,some 2),(1,some 1),(0,some 0)])
   . have ez:z.1=mxC c s.n:=by omega
     repeat' ((conv=>whnf);first|(refine Br.dec ?_ ?_<;>intro _<;>try omega)|(refine Len.q ?_))
     all_goals (conv=>whnf)
     exact VLe.fz rfl (fun h=>h) (fun a b ha hb=>VLe.of_eq (by rw[J0w,Nat.zero_add];show V.bool (z.2 a)=V.bool false;rw[hoff a (by omega)]))
end Go.Proofs.YtlpfphlbghdokaaGreatDoor
namespace Go.Plain.Mx
def pr (sz:Nat->Nat):Nat->Nat->Nat
 | _,0=>1
 | a,l+1=>sz a*pr sz (a+1) l
def vl (sz d:Nat->Nat):Nat->Nat->Nat
 | _,0=>0
 | a,l+1=>d a*pr sz (a+1) l+vl sz d (a+1) l
variable {sz:Nat->Nat}
theorem pr_pos (h:∀i,0<sz i):∀l a,0<pr sz a l
 | 0,_=>Nat.one_pos
 | l+1,a=>Nat.mul_pos (h a) (pr_pos h l (a+1))
theorem pr_snoc:∀l a,pr sz a (l+1)=pr sz a l*sz (a+l)
 | 0,a=>by simp[pr]
 | l+1,a=>by
   rw[pr,pr_snoc l (a+1),pr,Nat.mul_assoc];congr 2;congr 1;omega
theorem vl_lt {d:Nat->Nat}:∀l a,(∀i,a<=i->i<a+l->d i<sz i)->vl sz d a l<pr sz a l
 | 0,_,_=>Nat.one_pos
 | l+1,a,h=>by
   have h1:=vl_lt l (a+1) (fun i q q2=>h i (by omega) (by omega));have h2:=h a (Nat.le_refl _) (by omega);rw[vl,pr];have h3:(d a+1)*pr sz (a+1) l<=sz a*pr sz (a+1) l:=Nat.mul_le_mul_right _ h2;rw[Nat.add_mul] at h3;omega
theorem vl_ext {d e:Nat->Nat}:∀l a,(∀i,a<=i->i<a+l->d i=e i)->vl sz d a l=vl sz e a l
 | 0,_,_=>rfl
 | l+1,a,h=>by rw[vl,vl,h a (Nat.le_refl _) (by omega),vl_ext l (a+1) (fun i q q2=>h i (by omega) (by omega))]
def dg (sz:Nat->Nat) (N k i:Nat):Nat:=k / pr sz (i+1) (N-(i+1)) % sz i
theorem dg_lt (h:∀i,0<sz i) (N k i:Nat):dg sz N k i<sz i:=Nat.mod_lt _ (h i)
theorem X6i (h:∀i,0<sz i) (N k:Nat):∀l a,a+l=N->vl sz (dg sz N k) a l=k % pr sz a l
 | 0,a,_=>by simp[vl,pr,Nat.mod_one]
 | l+1,a,e=>by
   rw[vl,X6i h N k l (a+1) (by omega),dg,show N-(a+1)=l by omega,pr];have hp:=pr_pos h l (a+1);generalize pr sz (a+1) l=P at *;generalize sz a=s at *;rw[Nat.mul_comm s P,Nat.mod_mul,Nat.mul_comm (k / P % s) P,Nat.add_comm]
theorem X7I (h:∀i,0<sz i) (N:Nat) (d:Nat->Nat) (hd:∀i,i<N->d i<sz i):∀l a,a+l=N->∀i,a<=i->i<N->∀hi,dg sz N (hi*pr sz a l+vl sz d a l) i=d i
 | 0,a,e,i,h1,h2,hi=>by omega
 | l+1,a,e,i,h1,h2,hi=>by
   have hv:=vl_lt (sz:=sz) (d:=d) l (a+1) (fun i q q2=>hd i (by omega));have hP:=pr_pos h l (a+1);rw[vl,pr];have e2:hi*(sz a*pr sz (a+1) l)+(d a*pr sz (a+1) l+vl sz d (a+1) l)=(hi*sz a+d a)*pr sz (a+1) l+vl sz d (a+1) l:=by
    rw[Nat.add_mul,Nat.mul_assoc];omega
   rw[e2];by_cases q:i=a
   . subst q;rw[dg,show N-(i+1)=l by omega];rw[Nat.add_comm ((hi*sz i+d i)*_),Nat.add_mul_div_right _ _ hP,Nat.div_eq_of_lt hv,Nat.zero_add,Nat.add_comm,Nat.add_mul_mod_self_right,Nat.mod_eq_of_lt (hd i h2)]
   . exact X7I h N d hd l (a+1) (by omega) i (by omega) h2 _
theorem dg_val (h:∀i,0<sz i) {N:Nat} {d:Nat->Nat} (hd:∀i,i<N->d i<sz i) {i:Nat} (hi:i<N):dg sz N (vl sz d 0 N) i=d i:=by
 have:=X7I h N d hd N 0 (by omega) i (Nat.zero_le _) hi 0;simpa using this
theorem val_dg (h:∀i,0<sz i) {N k:Nat} (hk:k<pr sz 0 N):vl sz (dg sz N k) 0 N=k:=by
 rw[X6i h N k N 0 (by omega),Nat.mod_eq_of_lt hk]
theorem rest_step (N k i:Nat) (hi:i<N):k / pr sz (i+1) (N-(i+1)) / sz i=k / pr sz i (N-i):=by
 rw[Nat.div_div_eq_div_mul,show N-i=N-(i+1)+1 by omega,pr,Nat.mul_comm]
theorem Q6b {d:Nat->Nat}:∀l a,(∀i,a<=i->i<a+l->d i=0)->vl sz d a l=0
 | 0,_,_=>rfl
 | l+1,a,h=>by rw[vl,h a (Nat.le_refl _) (by omega),Q6b l (a+1) (fun i q q2=>h i (by omega) (by omega)),Nat.zero_mul]
theorem Q17 (h:∀i,0<sz i) {d:Nat->Nat}:∀l a,(∀i,a<=i->i<a+l->d i+1=sz i)->vl sz d a l+1=pr sz a l
 | 0,_,_=>rfl
 | l+1,a,q=>by
   have h1:=Q17 h (d:=d) l (a+1) (fun i q1 q2=>q i (by omega) (by omega));have h2:=q a (Nat.le_refl _) (by omega);rw[vl,pr,<- h2,Nat.add_mul];omega
def nx (d:Nat->Nat) (i j:Nat):Nat:=if j<i then d j else if j=i then d j+1 else 0
theorem X6h (h:∀i,0<sz i) (d:Nat->Nat) (N i:Nat) (hi:i<N) (hf:∀j,i<j->j<N->d j+1=sz j):∀l a,a+l=N->a<=i->vl sz (nx d i) a l=vl sz d a l+1
 | 0,a,e,q=>by omega
 | l+1,a,e,q=>by
   rw[vl,vl];by_cases ea:a=i
   . subst ea;rw[Q6b (d:=nx d a) l (a+1) (fun j q1 q2=>by rw[nx,if_neg (by omega),if_neg (by omega)]),nx,if_neg (by omega),if_pos rfl,Nat.add_mul];have:=Q17 h (d:=d) l (a+1) (fun j q1 q2=>hf j (by omega) (by omega));omega
   . rw[X6h h d N i hi hf l (a+1) (by omega) (by omega),nx,if_pos (by omega)];omega
theorem dg_next (h:∀i,0<sz i) {N k i:Nat} (hk:k<pr sz 0 N) (hi:i<N) (hn:dg sz N k i+1<sz i) (hf:∀j,i<j->j<N->dg sz N k j+1=sz j) {j:Nat} (hj:j<N):dg sz N (k+1) j=nx (dg sz N k) i j:=by
 have h1:=X6h h (dg sz N k) N i hi hf N 0 (by omega) (Nat.zero_le _);rw[val_dg h hk] at h1;rw[<- h1];refine dg_val h (fun j hj=>?_) hj;rw[nx];split
 . exact dg_lt h _ _ _
 . split
   . rename_i e;subst e;exact hn
   . exact h j
theorem dg_last (h:∀i,0<sz i) {N k:Nat} (hk:k<pr sz 0 N) (hf:∀j,j<N->dg sz N k j+1=sz j):k+1=pr sz 0 N:=by
 rw[<- Q17 h (d:=dg sz N k) N 0 (fun j _ q2=>hf j (by omega)),val_dg h hk]
theorem dg_zero (N i:Nat):dg sz N 0 i=0:=by simp[dg]
theorem vl_diff {d e:Nat->Nat}:∀l a,(vl sz e a l:Int)=vl sz d a l+((List.range l).map fun i=>((e (a+i):Int)-d (a+i))*pr sz (a+i+1) (l-(i+1))).sum
 | 0,a=>by simp[vl]
 | l+1,a=>by
   rw[vl,vl,List.range_succ_eq_map,List.map_cons,List.map_map,List.sum_cons];have h1:=vl_diff (d:=d) (e:=e) l (a+1);have e1:((fun i=>((e (a+i):Int)-d (a+i))*pr sz (a+i+1) (l+1-(i+1))) ∘ Nat.succ)=fun i=>((e (a+1+i):Int)-d (a+1+i))*pr sz (a+1+i+1) (l-(i+1)):=by
    funext i;simp only[Function.comp];rw[show a+i.succ=a+1+i by omega,show l+1-(i.succ+1)=l-(i+1) by omega]
   rw[e1]
   push_cast
   rw[h1];simp only[Nat.add_zero];have:((e a:Int)-d a)*(pr sz (a+1) l:Int)=e a*pr sz (a+1) l-d a*pr sz (a+1) l:=Int.sub_mul _ _ _;rw[this];omega
end Go.Plain.Mx
namespace Go.Proofs.YtlpfphlbghdokaaGreatDoor
open Go.Eng Go.Plain
set_option maxRecDepth 100000
set_option linter.unusedVariables false
def loP (p:Pr) (g:G) (v x:Nat):Int:=(bnd g (gV p.vars x) v).1
def hiP (p:Pr) (g:G) (v x:Nat):Int:=(bnd g (gV p.vars x) v).2
def szX (p:Pr) (g:G) (v x:Nat):Nat:=(hiP p g v x-loP p g v x).toNat+1
def szP (p:Pr) (g:G) (i:Nat):Nat:=szX p g (i / p.vars.length) (i % p.vars.length)
abbrev nP (p:Pr) (g:G):Nat:=g.ids.length*p.vars.length
def J1g (p:Pr) (g:G):Nat:=Mx.pr (szP p g) 0 (nP p g)
def dgP (p:Pr) (g:G) (k v x:Nat):Nat:=Mx.dg (szP p g) (nP p g) k (v*p.vars.length+x)
def plP (p:Pr) (g:G) (v x:Nat):Nat:=Mx.pr (szP p g) (v*p.vars.length+x+1) (nP p g-(v*p.vars.length+x+1))
def cfK (p:Pr) (g:G) (k:Nat):Cf:=(List.range g.ids.length).map fun v=>(List.range p.vars.length).map fun x=>loP p g v x+dgP p g k v x
def dgC (p:Pr) (g:G) (c:Cf) (i:Nat):Nat:=(gI (gC c (i / p.vars.length)) (i % p.vars.length)-loP p g (i / p.vars.length) (i % p.vars.length)).toNat
def rkC (p:Pr) (g:G) (c:Cf):Nat:=Mx.vl (szP p g) (dgC p g c) 0 (nP p g)
theorem J22 (p:Pr) (g:G) (i:Nat):0<szP p g i:=Nat.succ_pos _
theorem Q4w (p:Pr) (g:G):0<J1g p g:=Mx.pr_pos (J22 p g) _ _
theorem J45 {m v x:Nat} (h:x<m):(v*m+x) / m=v:=by
 rw[Nat.mul_comm,Nat.mul_add_div (by omega),Nat.div_eq_of_lt h,Nat.add_zero]
theorem Q1d {m v x:Nat} (h:x<m):(v*m+x) % m=x:=by
 rw[Nat.mul_comm,Nat.mul_add_mod,Nat.mod_eq_of_lt h]
theorem J74 {m n v x:Nat} (hv:v<n) (hx:x<m):v*m+x<n*m:=by
 have:(v+1)*m<=n*m:=Nat.mul_le_mul_right _ hv;rw[Nat.add_mul] at this;omega
theorem X7g {m n i:Nat} (h:i<n*m):i / m<n/\i % m<m/\i / m*m+i % m=i:=by
 have hm:0<m:=by
  rcases Nat.eq_zero_or_pos m with e|e
  . subst e;simp at h
  . exact e
 exact⟨(Nat.div_lt_iff_lt_mul hm).2 h,Nat.mod_lt _ hm,by rw[Nat.mul_comm];exact Nat.div_add_mod i m⟩
theorem J3D (p:Pr) (g:G) {v x:Nat} (hx:x<p.vars.length):szP p g (v*p.vars.length+x)=szX p g v x:=by rw[szP,J45 hx,Q1d hx]
theorem Q7K {p:Pr} (hp:J2p p) (g:G) (hg:g.valid=true) (v:Nat) {x:Nat} (hx:x<p.vars.length):loP p g v x<=hiP p g v x:=by
 obtain⟨f1,f2,f3,f4,f5,f6,f7⟩:=J0f hg;have ht:=Q6r hg;obtain⟨hk,h1,h2,h3,h4,h5⟩:=hp.var x hx;have m1:=Q0Y h4 ht;have m2:(gV p.vars x).pn*1<=(gV p.vars x).pn*(g.ids.length:Int):=Int.mul_le_mul_of_nonneg_left (by omega) h3.1;rw[loP,hiP,bnd];split
 . simp only;omega
 . split
   . decide
   . simp only;omega
theorem J4s {p:Pr} (hp:J2p p) (g:G) (hg:g.valid=true) (v:Nat) {x:Nat} (hx:x<p.vars.length):(szX p g v x:Int)=hiP p g v x-loP p g v x+1:=by
 have:=Q7K hp g hg v hx;rw[szX];omega
theorem J5D (p:Pr) (g:G) (k:Nat):(cfK p g k).length=g.ids.length:=by simp[cfK]
theorem J7G (p:Pr) (g:G) (k:Nat) {v:Nat} (hv:v<g.ids.length):gC (cfK p g k) v=(List.range p.vars.length).map fun x=>loP p g v x+dgP p g k v x:=by
 simp[gC,cfK,List.getD,hv]
theorem J3W (p:Pr) (g:G) (k:Nat) {v x:Nat} (hv:v<g.ids.length) (hx:x<p.vars.length):gI (gC (cfK p g k) v) x=loP p g v x+dgP p g k v x:=by
 rw[J7G p g k hv];simp[gI,List.getD,hx]
theorem Q8L (p:Pr) (g:G) (k v:Nat) {x:Nat} (hx:x<p.vars.length):dgP p g k v x<szX p g v x:=by
 have:=Mx.dg_lt (J22 p g) (nP p g) k (v*p.vars.length+x)
 rwa[J3D p g hx] at this
theorem J11 {p:Pr} (hp:J2p p) {g:G} (hg:g.valid=true) (k:Nat):J1u p g (cfK p g k):=by
 refine⟨J5D p g k,fun v hv=>?_,fun v hv x hx=>?_⟩
 . rw[J5D] at hv;rw[J7G p g k hv];simp
 . rw[J5D] at hv;rw[J3W p g k hv hx];have h1:=Q8L p g k v hx;have h2:=J4s hp g hg v hx;have h3:=Q7K hp g hg v hx;show loP p g v x<=_/\_<=hiP p g v x;omega
theorem X24 {p:Pr} (hp:J2p p) {g:G} (hg:g.valid=true) {c:Cf} (hc:J1u p g c) (i:Nat) (hi:i<nP p g):dgC p g c i<szP p g i:=by
 obtain⟨h1,h2,h3⟩:=X7g hi;have hv:=hc.val _ (by rw[hc.len];exact h1) _ h2;change loP p g _ _<=_/\_<=hiP p g _ _ at hv;have h4:=J4s hp g hg (i / p.vars.length) h2;rw[dgC,szP];omega
theorem Q6R {p:Pr} (hp:J2p p) {g:G} (hg:g.valid=true) {c:Cf} (hc:J1u p g c):rkC p g c<J1g p g :=
 Mx.vl_lt _ _ fun i _ h=>X24 hp hg hc i (by omega)
theorem X6y {p:Pr} {g:G} {k:Nat} (hk:k<J1g p g):rkC p g (cfK p g k)=k:=by
 have e:∀i,0<=i->i<0+nP p g->dgC p g (cfK p g k) i=Mx.dg (szP p g) (nP p g) k i:=fun i _ hi=>by
  obtain⟨h1,h2,h3⟩:=X7g (show i<g.ids.length*p.vars.length by simpa using hi);rw[dgC,J3W p g k h1 h2,dgP,h3];omega
 rw[rkC,Mx.vl_ext _ _ e];exact Mx.val_dg (J22 p g) hk
theorem X38 {a b:List Int} (h1:a.length=b.length) (h2:∀x,x<a.length->gI a x=gI b x):a=b :=
 List.ext_getElem h1 fun i q1 q2=>by
  have:=h2 i q1;simpa[gI,List.getD,q1,q2] using this
theorem X7T {a b:Cf} (h1:a.length=b.length) (h2:∀v,v<a.length->gC a v=gC b v):a=b :=
 List.ext_getElem h1 fun i q1 q2=>by
  have:=h2 i q1;simpa[gC,List.getD,q1,q2] using this
theorem X28 {p:Pr} (hp:J2p p) {g:G} (hg:g.valid=true) {c:Cf} (hc:J1u p g c):cfK p g (rkC p g c)=c:=by
 refine X7T (by rw[J5D,hc.len]) fun v hv=>?_;rw[J5D] at hv;have hr:=hc.row v (by rw[hc.len];exact hv);refine X38 (by rw[J7G p g _ hv,hr];simp) fun x hx=>?_;rw[J7G p g _ hv] at hx;simp only[List.length_map,List.length_range] at hx;rw[J3W p g _ hv hx,dgP,rkC,Mx.dg_val (J22 p g) (fun i hi=>X24 hp hg hc i hi) (J74 hv hx),dgC,J45 hx,Q1d hx];have:=(hc.val v (by rw[hc.len];exact hv) x hx).1;change loP p g v x<=_ at this;omega
theorem X4b (p:Pr) (g:G) (c d:Cf):(rkC p g d:Int)=rkC p g c+((List.range (nP p g)).map fun i=>((dgC p g d i:Int)-dgC p g c i)*Mx.pr (szP p g) (i+1) (nP p g-(i+1))).sum:=by
 have:=Mx.vl_diff (sz:=szP p g) (d:=dgC p g c) (e:=dgC p g d) (nP p g) 0;rw[rkC,rkC];simpa only[Nat.zero_add] using this
theorem Q3A (f:Nat->Int) (m:Nat):∀n,((List.range (n*m)).map f).sum=((List.range n).map fun v=>((List.range m).map fun x=>f (v*m+x)).sum).sum
 | 0=>by simp
 | n+1=>by
   rw[List.range_succ,List.map_append,List.sum_append,<- Q3A f m n];have e:(n+1)*m=n*m+m:=by rw[Nat.add_mul];omega
   rw[e];have e2:List.range (n*m+m)=List.range (n*m)++(List.range m).map (n*m+·):=List.range_add;rw[e2,List.map_append,List.sum_append,List.map_map];simp only[List.map_cons,List.map_nil,List.sum_cons,List.sum_nil,Int.add_zero];rfl
def grX (p:Pr) (g:G) (c d:Cf) (v:Nat):Int:=((List.range p.vars.length).map fun x=>(gI (gC d v) x-gI (gC c v) x)*(plP p g v x:Int)).sum
theorem X4a {p:Pr} {g:G} {c d:Cf} (hc:J1u p g c) (hd:J1u p g d):(rkC p g d:Int)=rkC p g c+((List.range g.ids.length).map fun v=>grX p g c d v).sum:=by
 rw[X4b p g c d,Q3A];congr 2;refine List.map_congr_left fun v hv=>?_;have hv:=List.mem_range.1 hv;congr 1;refine List.map_congr_left fun x hx=>?_;have hx:=List.mem_range.1 hx;have h1:=(hc.val v (by rw[hc.len];exact hv) x hx).1;have h2:=(hd.val v (by rw[hd.len];exact hv) x hx).1;change loP p g v x<=_ at h1 h2;rw[dgC,dgC,J45 hx,Q1d hx,plP];congr 1;omega
end Go.Proofs.YtlpfphlbghdokaaGreatDoor
namespace Go.Proofs.YtlpfphlbghdokaaGreatDoor
open Go.Eng
set_option maxRecDepth 100000
set_option linter.unusedVariables false
def gN (l:List Nat) (i:Nat):Nat:=l.getD i 0
def vU (l:List Nat):Nat->Nat->V:=fun i _=>.int .u32 (gN l i)
end Go.Proofs.YtlpfphlbghdokaaGreatDoor
namespace Go.Proofs.YtlpfphlbghdokaaGreatDoor
open Go.Eng
set_option maxRecDepth 100000
set_option linter.unusedVariables false
def J5R (e:Nat):Nat->List Nat
 | 0=>[]
 | b+1=>if e.testBit b then J5R e b++[2 ^ b] else J5R e b
theorem J6O {e b:Nat}:∀{v:Nat},b<=v->(∀j,b<=j->j<v->e.testBit j=false)->J5R e v=J5R e b
 | 0,h,_=>by rw[show b=0 by omega]
 | v+1,h,hz=>by
   by_cases e1:b=v+1
   . rw[e1]
   . rw[J5R,hz v (by omega) (by omega),if_neg (by simp)];exact J6O (by omega) (fun j a c=>hz j a (by omega))
theorem Q6C {e v:Nat} (h:e.testBit v=true):J5R e (v+1)=J5R e v++[2 ^ v]:=by rw[J5R,if_pos h]
theorem J9i (e:Nat):∀b,(J5R e b).length<=b
 | 0=>Nat.le_refl _
 | b+1=>by have:=J9i e b;rw[J5R];split<;>simp<;>omega
def chs (g:G) (k:Int) (e:Nat):List Nat×Int :=
 if e=0 then ([],0) else if k=1 then (J5R e 32,0) else if k=4 then ([e],0) else if cnt e 32 > 10 then ([],3) else ((Q1W e (J3P e)).filter (okC g k e),0)
def lst (l:List Nat):V:=.fz l.length 1 false (vU l)
theorem Q8i (l:List Nat) (a i:Nat):List.getD (l++[a]) i 0=if i<l.length then List.getD l i 0 else if i=l.length then a else 0:=by
 by_cases h:i<l.length
 . rw[if_pos h];simp only[List.getD];rw[List.getElem?_append_left h]
 . rw[if_neg h];by_cases e:i=l.length
   . subst e;simp[List.getD]
   . rw[if_neg e];simp[List.getD];rw[List.getElem?_eq_none (by simp;omega)];rfl
theorem Q3o (l:List Nat) (a:Nat) (x:Int) (hx:x=a) (i j:Nat) (hi:i<(l++[a]).length) (hj:j<1) :
 VLe (J5i (J0j 0 (vU l)) l.length (J0j 0 (tab [[.int .u32 x]])) i j) (vU (l++[a]) i j):=by
 apply VLe.of_eq;subst hx;rw[List.length_append] at hi;simp only[List.length_cons,List.length_nil] at hi;by_cases h:i<l.length
 . rw[J2a h];simp only[J0j,vU,gN,Q8i,if_pos h]
 . rw[J2b h];have:i=l.length:=by omega
   subst this;obtain rfl:j=0:=by omega
   simp[J0j,vU,gN,tab]
theorem Q7G (l:List Nat):VLe (.fz l.length 1 false (J0j 0 (vU l))) (lst l):=by
 refine VLe.fz rfl (fun h=>h) (fun i j hi hj=>VLe.of_eq ?_);simp only[J0j]
 try simp
set_option maxHeartbeats 8000000 in
theorem Q2w (g:G) (hg:g.valid=true) (k:Int) (e:Nat) (he:e<4294967296) (hp:J2e e (J15 g.ports.length)):RG 67 [.fz g.ports.length 1 false (Q9I g),.int .i64 k,.int .u32 e] (.tup [lst (chs g k e).1,.int .i64 (chs g k e).2]):=by
 refine J3u rfl ?_;refine J0c J0b Tryz.func67 rfl hc67 hr67 rfl ?_;have hoc:=X6S e he;have hneg:J20 .and .u32 (((4294967296-e) % 4294967296:Nat):Int) (e:Int)=(J3P e:Nat):=by
  rw[J0W (Nat.mod_lt _ (by omega)) he,Nat.and_comm,J40 he]
 by_cases h0:e=0
 . rw[chs,if_pos h0]
   repeat' ((conv=>whnf);first|(refine Br.dec ?_ ?_<;>intro _<;>try omega))
   all_goals (conv=>whnf)
   all_goals exact VLe.tup ⟨VLe.nilfz rfl,VLe.rfl,True.intro⟩
 rw[chs,if_neg h0];by_cases k1:k=1
 . rw[if_pos k1]
   repeat' ((conv=>whnf);first|(refine Br.dec ?_ ?_<;>intro _<;>try omega)|(refine J0c J0b Tryz.func68 rfl X7n X7j rfl ?_)|(refine J1A ?_)|(refine Chk.q ?_)|(refine J0c J0b Tryz.func108 rfl Q8f Q8d rfl ?_))
   all_goals (conv=>whnf)
   refine J01 J0b [0,1] [3] [4,5,6,7,8,9,10,11,12,13,14,15,16,17,18,19,20,21,22,23,24,25,26,27,28,29] [3,2,1,0,999] (fun b:Nat=>[]) (fun own b=>(3,.vec (J5R e b).length 1 (vU (J5R e b)))::J1H (J1H own 0 (.cells [.vec 3 1 0 (J5R e b).length])) 1 (.cells [.int .u32 (upS e b)])) (fun m b=>m=32-b/\b<=32) 32 0 ⟨rfl,by omega⟩ rfl (fun _=>rfl) ?_ ?_
   . have hx:=J4O he;refine J0e (fun _ _=>[(0,some 0),(1,some 1),(2,some 2),(3,none),(999,some 999)]) ?_ ?_ rfl
     . repeat' (first|exact J0a.yld rfl|exact tI|(refine⟨⟨_,rfl,?_⟩,?_⟩)|exact J0a.loc rfl)
     . repeat' (first|exact J0a.int (by rw[hx])|(refine J0a.fn ?_)|(refine⟨rfl,rfl,rfl,rfl,rfl,?_⟩)|exact tI|exact⟨rfl,rfl,rfl⟩|(refine⟨⟨_,rfl,?_⟩,?_⟩)|exact J0a.kf rfl|exact J0a.loc rfl|exact J0a.nil rfl rfl|(refine⟨⟨_,_,rfl⟩,?_⟩)|apply And.intro)
   rintro m b ⟨hm,hb⟩;have hul:=J8g e b;have hsl:=J9i e b;by_cases hu:upS e b=0
   . repeat' ((conv=>whnf);first|(refine Br.bne ?_ ?_<;>intro _<;>try omega)|(refine Len.q ?_))
     all_goals (conv=>whnf)
     have hx:J5R e 32=J5R e b:=J6O hb (fun j hj _=>J6E he hu j hj);show VLe _ (V.tup [lst (J5R e 32),V.int IntKind.i64 0]);rw[hx];exact VLe.tup ⟨Q7G _,VLe.rfl,True.intro⟩
   . obtain⟨v1,v2,v3,v4,v5⟩:=J4P he hu;have htz:=Q6j _ hu hul;have hr:J20 .and .u32 ((upS e b:Nat):Int) ((upS e b:Nat)-1:Int)=((upS e (ctz (upS e b)+1):Nat):Int):=by
      rw[<- v5,show((upS e b:Nat):Int)-1=((upS e b-1:Nat):Int) by omega,J0W hul (by omega)]
     generalize ctz (upS e b)=v at *;have hsg:J5R e (v+1)=J5R e b++[2 ^ v]:=by rw[Q6C v3,J6O v2 v4]
     repeat' ((conv=>whnf);first|(refine Br.tt ?_)|(refine Br.bne ?_ ?_<;>intro _<;>try omega)|(refine Br.nbeq ?_ ?_<;>intro _<;>try omega)|(refine Ar.u32 (by omega) (by omega) ?_)|(refine Ar.sh1 (by omega) ?_)|(refine Sv.mk _ rfl ?_)|(refine Nn.mk (by omega) ?_)|(refine Len.q ?_)|(refine htz.gog ?_)|(refine J1r J0b rfl rfl ?_))
     all_goals (conv=>whnf)
     all_goals
      refine⟨32-(v+1),v+1,by omega,⟨rfl,by omega⟩,?_⟩;simp only[hsg];refine J0e (fun env own=>[(0,some 0),(1,some 1),(2,some 2),(3,J9T own 0 0),(999,some 999)]) ?_ ?_ rfl
      . repeat' (first|exact J0a.yld rfl|exact tI|(refine⟨⟨_,rfl,?_⟩,?_⟩)|exact J0a.loc rfl)
      . repeat' (first|exact J0a.int hr|exact J0a.vec rfl rfl (by rw[List.length_append];rfl)|(refine⟨by rw[List.length_append];exact Nat.le_refl _,rfl,fun i j hi hj=>?_⟩)|exact Q3o _ _ _ rfl _ _ hi hj|(refine J0a.fn ?_)|(refine⟨rfl,rfl,rfl,rfl,rfl,?_⟩)|exact tI|exact⟨rfl,rfl,rfl⟩|(refine⟨⟨_,rfl,?_⟩,?_⟩)|exact J0a.kf rfl|exact J0a.loc rfl|apply And.intro)
 rw[if_neg k1];by_cases k4:k=4
 . rw[if_pos k4]
   repeat' ((conv=>whnf);first|(refine Br.dec ?_ ?_<;>intro _<;>try omega)|(refine Len.q ?_))
   all_goals (conv=>whnf)
   all_goals
    refine VLe.tup ⟨VLe.fz rfl (fun h=>h) (fun i j hi hj=>?_),VLe.rfl,True.intro⟩;obtain rfl:i=0:=by omega
    obtain rfl:j=0:=by omega
    exact VLe.rfl
 rw[if_neg k4];have hcl:=J4o e 32;by_cases hc:cnt e 32 > 10
 . rw[if_pos hc]
   repeat' ((conv=>whnf);first|(refine Br.dec ?_ ?_<;>intro _<;>try omega)|(refine hoc.go ?_))
   all_goals (conv=>whnf)
   all_goals exact VLe.tup ⟨VLe.nilfz rfl,VLe.rfl,True.intro⟩
 rw[if_neg hc]
 repeat' ((conv=>whnf);first|(refine Ar.neg32 he ?_)|(refine Sv.mk _ hneg.symm ?_)|(refine Br.dec ?_ ?_<;>intro _<;>try omega)|(refine hoc.go ?_))
 all_goals (conv=>whnf)
 refine J01 J0b [0,1,2,8] [1] [2,3,4,5,6,7,8,9,10,11,12,13,14,15,16,17,18,19,20,21,22,23,24,25,26,27,28,29] [1,0,999] (fun p:Nat×List Nat=>[(10,.int .u32 p.1)]) (fun own p=>(1,.vec p.2.length 1 (vU p.2))::J1H own 0 (.cells [.vec 1 1 0 p.2.length])) (fun m p=>m=(if p.1=0 then 0 else 4294967297-p.1)/\J2e p.1 e/\p.2++(Q1W e p.1).filter (okC g k e)=(Q1W e (J3P e)).filter (okC g k e)/\p.2.length<=4294967296/\(p.1≠0->p.2.length<p.1)) _ (J3P e,[]) ⟨rfl,J1W he,rfl,by simp,fun h=>by simp only[List.length_nil];omega⟩ rfl (fun _=>rfl) ?_ ?_
 . exact J0k (fun _ _=>[(0,some 0),(1,none),(999,some 999)])
 rintro m ⟨s,acc⟩ ⟨hm,hps,htot,hl1,hl2⟩;simp only at hm hps htot hl1 hl2;have hse:=hps.le;by_cases hs0:s=0
 . repeat' ((conv=>whnf);first|(refine Br.bne ?_ ?_<;>intro _<;>try omega)|(refine Len.q ?_))
   all_goals (conv=>whnf)
   subst hs0;rw[J2j,List.filter_nil,List.append_nil] at htot;show VLe _ (V.tup [lst ((Q1W e (J3P e)).filter (okC g k e)),V.int IntKind.i64 0]);rw[<- htot];exact VLe.tup ⟨Q7G _,VLe.rfl,True.intro⟩
 . have hpm:=J67 g hg k e s he (by omega) hp;have hin:J9C g k e s=okC g k e s:=by
    rw[J9C,decide_eq_true ⟨hs0,(J1S (by omega)).2 hps⟩,Bool.true_and]
   rw[hin] at hpm;have hsub:=J3L he hps hs0;have hnx:J20 .and .u32 (((4294967296+s-e) % 4294967296:Nat):Int) (e:Int)=(nxt e s:Nat):=by
    rw[J0W (Nat.mod_lt _ (by omega)) he];rfl
   have hgt:nxt e s=0\/s<nxt e s:=by
    by_cases h:s=e
    . subst h;exact .inl (J36 he)
    . exact .inr (J66 he hps h)
   have hnp:=J2g e s;have hnl:=Q7g (s:=s) he;have hl3:=hl2 hs0;cases hok:okC g k e s with
   | true =>
     rw[hok] at hpm;rw[hsub,List.filter_cons_of_pos (by rw[hok])] at htot
     repeat' ((conv=>whnf);first|(refine Ar.sub32 (by omega) he ?_)|(refine Sv.mk _ hnx.symm ?_)|(refine Br.tt ?_)|(refine Br.bne ?_ ?_<;>intro _<;>try omega)|(refine Br.nbeq ?_ ?_<;>intro _<;>try omega)|(refine Len.q ?_)|(refine Len.mk (by simp only[List.length_cons,List.length_nil];omega) ?_)|(refine hpm.gog ?_))
     all_goals (conv=>whnf)
     all_goals
      refine⟨_,(nxt e s,acc++[s]),?_,⟨rfl,hnp,by rw[<- htot];simp,by simp;omega,fun h=>by simp at h ⊢;omega⟩,?_⟩
      . simp only;rw[hm,if_neg hs0];split<;>omega
      . refine J0e (fun env own=>[(0,some 0),(1,J9T own 0 0),(999,some 999)]) ?_ ?_ rfl
        . repeat' (first|exact tI|(refine⟨⟨_,rfl,?_⟩,?_⟩)|exact J0a.kf rfl|exact J0a.loc rfl)
        . repeat' (first|exact J0a.vec rfl rfl (by rw[List.length_append];rfl)|(refine⟨by rw[List.length_append];exact Nat.le_refl _,rfl,fun i j hi hj=>?_⟩)|exact Q3o _ _ _ rfl _ _ hi hj|exact tI|exact⟨rfl,rfl,rfl⟩|(refine⟨⟨_,rfl,?_⟩,?_⟩)|apply And.intro)
   | false =>
     rw[hok] at hpm;rw[hsub,List.filter_cons_of_neg (by rw[hok];simp)] at htot
     repeat' ((conv=>whnf);first|(refine Ar.sub32 (by omega) he ?_)|(refine Sv.mk _ hnx.symm ?_)|(refine Br.ff ?_)|(refine Br.bne ?_ ?_<;>intro _<;>try omega)|(refine hpm.gog ?_))
     all_goals (conv=>whnf)
     all_goals
      refine⟨_,(nxt e s,acc),?_,⟨rfl,hnp,htot,hl1,fun h=>by simp only at h ⊢;omega⟩,?_⟩
      . simp only;rw[hm,if_neg hs0];split<;>omega
      . exact J0k (fun env own=>[(0,some 0),(1,J9T own 0 0),(999,some 999)])
end Go.Proofs.YtlpfphlbghdokaaGreatDoor
namespace Go.Proofs.YtlpfphlbghdokaaGreatDoor
open Go.Eng
set_option maxRecDepth 100000
set_option linter.unusedVariables false
theorem Q3C {E:Nat} (hE:E<4294967296):∀f s,J2e s E->E-s<=f->(Q1W E s).length<=f+1
 | f,s,hp,hf=>by
   by_cases h0:s=0
   . subst h0;rw[J2j];simp
   . rw[J3L hE hp h0,List.length_cons];by_cases hs:s=E
     . subst hs;rw[J36 hE,J2j];simp
     . have h1:=J66 hE hp hs;have h2:=hp.le;cases f with
       | zero=>omega
       | succ f=>have:=Q3C hE f _ (J2g E s) (by have:=(J2g E s).le;omega);omega
end Go.Proofs.YtlpfphlbghdokaaGreatDoor
namespace Go.Proofs.YtlpfphlbghdokaaGreatDoor
open Go.Eng
set_option maxRecDepth 100000
set_option linter.unusedVariables false
theorem Q47 {c:Nat} (h0:c≠0) (hc:c<4294967296) (h:c &&& (c-1)=0):c=2 ^ ctz c:=by
 obtain⟨k1,k2,k3⟩:=J1Z h0 hc;apply Nat.eq_of_testBit_eq;intro j;have:=Q32 k2 k3 j;rw[h,Nat.zero_testBit] at this;rw[Nat.testBit_two_pow];by_cases e:ctz c=j
 . subst e;rw[k2];simp
 . rw[decide_eq_false e];have hd:decide (j≠ctz c)=true:=by rw[decide_eq_true_eq];exact fun x=>e x.symm
   rw[hd,Bool.and_true] at this;exact this.symm
theorem Q2o {k j:Nat} (h:(2 ^ k:Nat).testBit j=true):k=j:=by rw[Nat.testBit_two_pow,decide_eq_true_eq] at h;exact h
theorem J6f {e c:Nat}:∀{b:Nat},c∈J5R e b↔∃v,v<b/\e.testBit v=true/\c=2 ^ v
 | 0=>by simp[J5R]
 | b+1=>by
   have ih:=J6f (e:=e) (c:=c) (b:=b);rw[J5R];constructor
   . intro h;split at h
     . rename_i hb;rcases List.mem_append.1 h with h|h
       . obtain⟨v,a,b',c'⟩:=ih.1 h;exact⟨v,by omega,b',c'⟩
       . exact⟨b,by omega,hb,by simpa using h⟩
     . obtain⟨v,a,b',c'⟩:=ih.1 h;exact⟨v,by omega,b',c'⟩
   . rintro⟨v,h1,h2,rfl⟩;by_cases e1:v=b
     . subst e1;rw[if_pos h2];simp
     . have:=ih.2 ⟨v,by omega,h2,rfl⟩;split
       . exact List.mem_append_left _ this
       . exact this
theorem J4t {e:Nat}:∀b,(J5R e b).Pairwise (·<·)
 | 0=>.nil
 | b+1=>by
   rw[J5R];split
   . refine List.pairwise_append.2 ⟨J4t b,by simp,fun x hx y hy=>?_⟩;obtain⟨v,h1,_,rfl⟩:=J6f.1 hx;simp only[List.mem_singleton] at hy;subst hy;exact Nat.pow_lt_pow_right (by omega) h1
   . exact J4t b
theorem Q69 {j:Nat} (h:j≠0):(1:Nat).testBit j=false:=by
 have:=Nat.testBit_two_pow (n:=0) (m:=j);rw[Nat.pow_zero] at this;rw[this,decide_eq_false (by omega)]
theorem Q7h {E s t:Nat} (hE:E<4294967296) (hp:J2e s E) (hpt:J2e t E) (hst:s<t):nxt E s<=t:=by
 have hsE:=hp.le;have htE:=hpt.le;have hs:s<4294967296:=by omega
 have hne:s≠E:=by omega
 have hd0:J1o E s≠0:=by
  intro h;have:=((J1S hE).1 h).le;omega
 have hdlt:J1o E s<4294967296:=Nat.lt_of_le_of_lt Nat.and_le_left hE;obtain⟨k1,k2,k3⟩:=J1Z hd0 hdlt;have hdis:s &&& J1o E s=0:=by
  apply Nat.eq_of_testBit_eq;intro i;rw[Nat.zero_testBit,Nat.testBit_and];by_cases hi:i<32
  . rw[J00 hi];cases s.testBit i<;>simp
  . rw[J09 hs (by omega)];rfl
 have hsum:s+J1o E s=E:=by
  rw[X3q hs hdlt hdis];apply Nat.eq_of_testBit_eq;intro i;rw[Nat.testBit_or];by_cases hi:i<32
  . rw[J00 hi];cases e:s.testBit i with
    | false=>simp
    | true=>rw[hp i e];rfl
  . rw[J09 hs (by omega),J09 hdlt (by omega),J09 hE (by omega)];rfl
 have hneg:(4294967296+s-E) % 4294967296=4294967296-J1o E s:=by omega
 generalize hk:ctz (J1o E s)=k at *;have hbit:∀i,i<32->(nxt E s).testBit i=((!(if i<k+1 then decide (i<k) else (J1o E s).testBit i))&&E.testBit i):=by
  intro i hi;have e:(4294967296:Nat)-J1o E s=2 ^ 32-((J1o E s-1)+1):=by omega
  rw[nxt,hneg,Nat.testBit_and,e,Nat.testBit_two_pow_sub_succ (by omega),J6j k2 k3];simp[hi]
 have hk2:=k2;rw[J00 k1,Bool.and_eq_true] at hk2;have hsk:s.testBit k=false:=by simpa using hk2.2
 -- below k the part is all of it
 have hlow:∀i,i<k->s.testBit i=E.testBit i:=fun i hi=>by
  have:=k3 i hi;rw[J00 (by omega)] at this;cases e:s.testBit i with
  | true=>rw[hp i e]
  | false=>rw[e] at this;simpa using this.symm
 -- the next one is t's high part at most
 have hlt:s / 2 ^ k<t / 2 ^ k:=by
  rcases Nat.lt_or_ge (s / 2 ^ k) (t / 2 ^ k) with h|h
  . exact h
  . exfalso;have h1:t / 2 ^ k=s / 2 ^ k:=Nat.le_antisymm h (Nat.div_le_div_right (Nat.le_of_lt hst));have h2:t % 2 ^ k<=s % 2 ^ k:=by
     apply J2e.le;intro i hi;rw[Nat.testBit_mod_two_pow,Bool.and_eq_true,decide_eq_true_eq] at hi ⊢;exact⟨hi.1,by rw[hlow i hi.1];exact hpt i hi.2⟩
    have a1:=Nat.div_add_mod s (2 ^ k);have a2:=Nat.div_add_mod t (2 ^ k);rw[h1] at a2;omega
 have hn:nxt E s=2 ^ k*(s / 2 ^ k+1):=by
  have heven:s / 2 ^ k+1=s / 2 ^ k ||| 1:=by
   have h1:(s / 2 ^ k) % 2=0:=by
    rw[Nat.testBit_eq_decide_div_mod_eq,decide_eq_false_iff_not] at hsk;omega
   apply Nat.eq_of_testBit_eq;intro i;rw[Nat.testBit_or];cases i with
   | zero=>simp[Nat.testBit_zero];omega
   | succ i =>
     rw[Nat.testBit_succ,Nat.testBit_succ,Nat.testBit_succ,show(s / 2 ^ k+1) / 2=s / 2 ^ k / 2 by omega];simp
  apply Nat.eq_of_testBit_eq;intro i;rw[heven,Nat.testBit_two_pow_mul];by_cases hi:i<32
  . rw[hbit i hi];by_cases h1:i<k
    . rw[if_pos (by omega),decide_eq_true h1,decide_eq_false (by omega)];rfl
    . by_cases h2:i=k
      . subst h2;rw[if_pos (by omega),decide_eq_false (by omega),hk2.1];simp
      . rw[if_neg (by omega),J00 hi,decide_eq_true (by omega),Nat.testBit_or,Nat.testBit_div_two_pow,show i-k+k=i by omega,Q69 (show i-k≠0 by omega)];cases e:s.testBit i with
        | true=>rw[hp i e];rfl
        | false=>cases E.testBit i<;>rfl
  . have h3:(s / 2 ^ k ||| 1).testBit (i-k)=false:=by
     rw[Nat.testBit_or,Nat.testBit_div_two_pow,show i-k+k=i by omega,J09 hs (by omega)];rw[Q69 (by omega)];rfl
    rw[h3,J09 (Q7g hE) (by omega),Bool.and_false]
 rw[hn];exact Nat.le_trans (Nat.mul_le_mul_left _ hlt) (Nat.mul_div_le t (2 ^ k))
theorem Q3B {E t:Nat} (hE:E<4294967296) (ht:J2e t E) (h0:t≠0):∀f s,J2e s E->s≠0->s<=t->t-s<=f->t∈Q1W E s
 | f,s,hp,hs0,hst,hf=>by
   rw[J3L hE hp hs0];by_cases e:t=s
   . subst e;simp
   . have htE:=ht.le;have hlt:s<t:=by omega
     have h1:=J66 hE hp (by omega);have h2:=Q7h hE hp ht hlt;cases f with
     | zero=>omega
     | succ f=>exact List.mem_cons_of_mem _ (Q3B hE ht h0 f _ (J2g E s) (by omega) h2 (by omega))
theorem J6L {E:Nat} (hE:E<4294967296):∀f s,J2e s E->E-s<=f->(Q1W E s).Pairwise (·<·)
 | f,s,hp,hf=>by
   by_cases h0:s=0
   . subst h0;rw[J2j];exact .nil
   . rw[J3L hE hp h0];by_cases hs:s=E
     . subst hs;rw[J36 hE,J2j];simp
     . have h1:=J66 hE hp hs;have h2:=hp.le;have h3:=(J2g E s).le;refine List.Pairwise.cons (fun t ht=>?_) ?_
       . have:=(J4S hE (E-nxt E s) _ (J2g E s) (Nat.le_refl _) t ht).2.2;omega
       . cases f with
         | zero=>omega
         | succ f=>exact J6L hE f _ (J2g E s) (by omega)
theorem Q5j {E t:Nat} (hE:E<4294967296) (ht:J2e t E) (h0:t≠0):J3P E<=t:=by
 have htE:=ht.le;have ht32:t<4294967296:=by omega
 obtain⟨k1,k2,k3⟩:=J1Z h0 ht32;obtain⟨j1,j2,j3⟩:=J1Z (s:=E) (by omega) hE;have h1:ctz E<=ctz t:=by
  rcases Nat.lt_or_ge (ctz t) (ctz E) with h|h
  . have:=j3 _ h;rw[ht _ k2] at this;cases this
  . exact h
 have h2:2 ^ ctz t<=t:=by
  have:=(J1W ht32).le;rw[J3P,if_neg h0] at this;exact this
 rw[J3P,if_neg (by omega)];exact Nat.le_trans (Nat.pow_le_pow_right (n:=2) (by omega) h1) h2
theorem Q86 {g:G} {k:Int} {e:Nat} (hk:dk k=true) (h:(chs g k e).2≠0):(chs g k e).2=3/\(chs g k e).1=[]/\cnt e 32 > 10/\(k=2\/k=3):=by
 rw[Q8J] at hk;unfold chs at h ⊢;split at h
 . exact absurd rfl h
 . split at h
   . exact absurd rfl h
   . split at h
     . exact absurd rfl h
     . split at h
       . rename_i h0 k1 k4 hc;rw[if_neg h0,if_neg k1,if_neg k4,if_pos hc];exact⟨rfl,rfl,hc,by omega⟩
       . exact absurd rfl h
theorem J7F {g:G} {k:Int} {e c:Nat} (hk:dk k=true) (he:e<4294967296) (hc:c<4294967296) (h:(chs g k e).2=0):c∈(chs g k e).1↔J9C g k e c=true:=by
 rw[Q8J] at hk;rw[J2k,J1S hc];unfold chs at h ⊢;split
 . rename_i h0;subst h0;constructor
   . intro x;cases x
   . rintro⟨a,b,_⟩;exact absurd (Nat.le_zero.1 b.le) a
 . rename_i h0;rw[if_neg h0] at h;split
   . rename_i k1;subst k1;rw[okC1];show c∈J5R e 32↔_;rw[J6f];constructor
     . rintro⟨v,h1,h2,rfl⟩;exact⟨Nat.ne_of_gt (Nat.two_pow_pos _),fun i hi=>by rw[<- Q2o hi];exact h2,J8r v⟩
     . rintro⟨h1,h2,h3⟩;obtain⟨j1,j2,j3⟩:=J1Z h1 hc;exact⟨ctz c,j1,h2 _ j2,Q47 h1 hc h3⟩
   . rename_i k1;rw[if_neg k1] at h;split
     . rename_i k4;subst k4;rw[okC4];show c∈[e]↔_;rw[List.mem_singleton];exact⟨fun x=>by subst x;exact⟨h0,fun i h=>h,rfl⟩,fun x=>x.2.2⟩
     . rename_i k4;rw[if_neg k4] at h;split
       . rename_i hc';rw[if_pos hc'] at h;cases h
       . show c∈(Q1W e (J3P e)).filter (okC g k e)↔_;rw[List.mem_filter];constructor
         . rintro⟨h1,h2⟩;have:=J4S he (e-J3P e) (J3P e) (J1W he) (Nat.le_refl _) c h1;exact⟨this.2.1,this.1,h2⟩
         . rintro⟨h1,h2,h3⟩;exact⟨Q3B he h2 h1 _ _ (J1W he) (Q2y h0) (Q5j he h2 h1) (Nat.le_refl _),h3⟩
theorem J8P {g:G} {k:Int} {e:Nat} (he:e<4294967296):(chs g k e).1.Pairwise (·<·):=by
 unfold chs;split
 . exact .nil
 . split
   . exact J4t 32
   . split
     . show[e].Pairwise (·<·);simp
     . split
       . exact .nil
       . exact(J6L he _ _ (J1W he) (Nat.le_refl _)).filter _
theorem J5e {g:G} {k:Int} {e:Nat} (he:e<4294967296):∀c∈(chs g k e).1,c<4294967296:=by
 unfold chs;split
 . intro c hc;cases hc
 . split
   . intro c hc;obtain⟨v,h1,_,rfl⟩:=J6f.1 hc;exact J2U h1
   . split
     . intro c hc;have:c=e:=by simpa using hc
       omega
     . split
       . intro c hc;cases hc
       . intro c hc;have hc':c∈(Q1W e (J3P e)).filter (okC g k e):=hc;have:=(J4S he (e-J3P e) (J3P e) (J1W he) (Nat.le_refl _) c (List.mem_filter.1 hc').1).1.le;omega
theorem X1O {g:G} (hg:g.valid=true) {k:Int} {e:Nat} (hk:dk k=true) (he:e<4294967296) (hp:J2e e (J15 g.ports.length)) (h:(chs g k e).2=0):(chs g k e).1.length > 0↔e≠0:=by
 constructor
 . intro h1 h0;subst h0;rw[chs,if_pos rfl] at h1;simp at h1
 . intro h0;have h1:=J9l hg hk he hp h0 (w:=0);have h2:rs g k e 0<4294967296:=by
    obtain⟨_,a,_⟩:=J2k.1 h1;by_cases h4:k=4
    . subst h4;rw[rs,if_neg (by decide),if_neg (by decide),if_pos rfl];exact he
    . exact Nat.lt_of_le_of_lt (Q6J he h4).le (J8a he)
   exact List.length_pos_of_mem ((J7F hk he h2 h).2 h1)
theorem X5k {g:G} {k:Int} {e:Nat} (he:e<4294967296):(chs g k e).1.length<=5000000000:=by
 unfold chs;split
 . show([]:List Nat).length<=_;simp
 . split
   . have:=J9i e 32;show(J5R e 32).length<=_;omega
   . split
     . show[e].length<=_;simp
     . split
       . show([]:List Nat).length<=_;simp
       . show((Q1W e (J3P e)).filter (okC g k e)).length<=_;have h1:=List.length_filter_le (okC g k e) (Q1W e (J3P e));have h2:=Q3C he (e-J3P e) (J3P e) (J1W he) (Nat.le_refl _);omega
end Go.Proofs.YtlpfphlbghdokaaGreatDoor
namespace Go.Proofs.YtlpfphlbghdokaaGreatDoor
open Go.Eng Go.Plain
set_option maxRecDepth 100000
set_option linter.unusedVariables false
def J76 (p:Pr) (g:G) (kd:Int) (k:Nat):List (Nat×Nat):=(chs g kd (enN p g (cfK p g k))).1.map fun s=>(s,rkC p g (J0H p g (cfK p g k) s))
def toK (p:Pr) (g:G) (kd:Int) (k:Nat):List Nat:=(J76 p g kd k).map (·.2)
def J6l (p:Pr) (g:G) (leg:Cf->Bool) (k:Nat):Bool:=leg (cfK p g k)
structure J7T (p:Pr) (g:G) (kd:Int) (c:Cf) (s:Nat):Prop where
 ne:s≠0
 part:J2e s (enN p g c)
 okc:okC g kd (enN p g c) s=true
 lt:s<16777216
inductive Lng (p:Pr) (g:G) (kd:Int) (leg:Cf->Bool):Nat->Cf->Prop
 | nil (c:Cf):Lng p g kd leg 0 c
 | step {t:Nat} {c:Cf} (s:Nat) (h:J7T p g kd c s) (hl:leg (J0H p g c s)=false) (hn:Lng p g kd leg t (J0H p g c s)):Lng p g kd leg (t+1) c
structure Srv (p:Pr) (g:G) (kd:Int) (leg:Cf->Bool) (R M:Int) (Inv:Cf->Cnt->Prop):Prop where
 closed:∀c s,J1u p g c->leg c=true->J7T p g kd c s->leg (J0H p g c s)=true
 en:∀c,J1u p g c->leg c=false->enN p g c≠0
 start:∀c,J1u p g c->leg c=false->Inv c (J7X (enN p g c))
 step:∀c n s,J1u p g c->Inv c n->leg c=false->J7T p g kd c s->leg (J0H p g c s)=false->Inv (J0H p g c s) (n.add s (enN p g (J0H p g c s)))
 rounds:∀c n,J1u p g c->Inv c n->leg c=false->(n.rounds:Int)+1<=R
 moves:0<=M->∀c n s,J1u p g c->Inv c n->leg c=false->J7T p g kd c s->(n.moves:Int)+cnt s 32<=M
 ends:∃T,∀c,J1u p g c->leg c=false->¬ Lng p g kd leg T c
end Go.Proofs.YtlpfphlbghdokaaGreatDoor
namespace Go.Proofs.YtlpfphlbghdokaaGreatDoor
open Go.Eng Go.Plain
set_option maxRecDepth 100000
set_option linter.unusedVariables false
structure X8i (p:Pr) (g:G) (kd:Int) (leg:Cf->Bool) (R:Int) (Inv:Cf->Cnt->Prop):Prop where
 closed:∀c s,J1u p g c->leg c=true->J7T p g kd c s->leg (J0H p g c s)=true
 en:∀c,J1u p g c->leg c=false->enN p g c≠0
 start:∀c,J1u p g c->leg c=false->Inv c (J7X (enN p g c))
 step:∀c n s,J1u p g c->Inv c n->leg c=false->J7T p g kd c s->leg (J0H p g c s)=false->Inv (J0H p g c s) (n.add s (enN p g (J0H p g c s)))
 rounds:∀c n,J1u p g c->Inv c n->leg c=false->(n.rounds:Int)+1<=R
inductive Pth (p:Pr) (g:G) (kd:Int) (leg:Cf->Bool) (k:Nat) (n:Cnt):Nat->Cnt->Prop
 | nil:Pth p g kd leg k n k n
 | step {k1 k2:Nat} {n1:Cnt} (h:Pth p g kd leg k n k1 n1) (s:Nat) (hs:(s,k2)∈J76 p g kd k1) (hl:J6l p g leg k2=false):Pth p g kd leg k n k2 (n1.add s (enN p g (cfK p g k2)))
variable {p:Pr} {g:G} {kd:Int} {leg:Cf->Bool}
theorem Pth.trans {k k1 k2:Nat} {n n1 n2:Cnt} (h:Pth p g kd leg k n k1 n1) (h':Pth p g kd leg k1 n1 k2 n2):Pth p g kd leg k n k2 n2:=by
 induction h' with
 | nil=>exact h
 | step _ s hs hl ih=>exact .step ih s hs hl
theorem Q62 {k t:Nat} (h:Tj.Rch (toK p g kd) (J6l p g leg) k t) (n:Cnt):∃n',Pth p g kd leg k n t n':=by
 induction h with
 | refl=>exact⟨n,.nil⟩
 | step _ ht hl ih =>
   obtain⟨n1,h1⟩:=ih;obtain⟨⟨s,u⟩,hm,e⟩:=List.mem_map.1 ht;simp only at e;subst e;exact⟨_,.step h1 s hm hl⟩
theorem J92 (n:Cnt) (s e:Nat):n.rounds<=(n.add s e).rounds/\((n.add s e).rounds=n.rounds->J2e (n.add s e).pend n.pend/\∀v,s.testBit v=true->v<32->(n.add s e).pend.testBit v=false)/\J2e (n.add s e).pend e:=by
 rw[Cnt.add];split
 . refine⟨by simp only;omega,fun h=>by simp only at h;omega,fun _ h=>h⟩
 . refine⟨Nat.le_refl _,fun _=>⟨fun i h=>?_,fun v hv hv2=>?_⟩,fun i h=>?_⟩
   . simp only[lft,J1o,Nat.testBit_and,Bool.and_eq_true] at h;exact h.1.1
   . simp only[lft,Nat.testBit_and,J00 hv2,hv];simp
   . simp only[lft,Nat.testBit_and,Bool.and_eq_true] at h;exact h.2
theorem Pth.mono {k t:Nat} {n n':Cnt} (h:Pth p g kd leg k n t n'):n.rounds<=n'.rounds/\(n'.rounds=n.rounds->J2e n'.pend n.pend):=by
 induction h with
 | nil=>exact⟨Nat.le_refl _,fun _ _ h=>h⟩
 | step _ s hs hl ih =>
   rename_i k1 k2 n1 _;obtain⟨h1,h2⟩:=ih;obtain⟨a1,a2,_⟩:=J92 n1 s (enN p g (cfK p g k2));refine⟨by omega,fun e i hi=>?_⟩;exact h2 (by omega) i ((a2 (by omega)).1 i hi)
structure X8l (p:Pr) (g:G) (k:Nat) (n:Cnt):Prop where
 part:J2e n.pend (enN p g (cfK p g k))
 ne:n.pend≠0
theorem Pth.pd {k t:Nat} {n n':Cnt} (h:Pth p g kd leg k n t n') (hen:∀k,J6l p g leg k=false->enN p g (cfK p g k)≠0) (h0:X8l p g k n):X8l p g t n':=by
 induction h with
 | nil=>exact h0
 | step _ s hs hl ih =>
   rename_i k1 k2 n1 _;refine⟨(J92 n1 s _).2.2,?_⟩;rw[Cnt.add];split
   . exact hen _ hl
   . rename_i q;exact q
theorem Pth.inv (hp:J2p p) (hg:g.valid=true) {R:Int} {Inv:Cf->Cnt->Prop} (hS:X8i p g kd leg R Inv) (hch:∀k,k<J1g p g->∀s,s∈(chs g kd (enN p g (cfK p g k))).1->J7T p g kd (cfK p g k) s) {k t:Nat} {n n':Cnt}
 (h:Pth p g kd leg k n t n') (hk:k<J1g p g) (hl:J6l p g leg k=false) (hi:Inv (cfK p g k) n):t<J1g p g/\J6l p g leg t=false/\Inv (cfK p g t) n':=by
 induction h with
 | nil=>exact⟨hk,hl,hi⟩
 | step _ s hs hl' ih =>
   rename_i k1 k2 n1 _;obtain⟨h1,h2,h3⟩:=ih;obtain⟨s',hm,e⟩:=List.mem_map.1 hs;cases e;have hst:=hch k1 h1 s hm;have hc':=J1Q hp hg (J11 hp hg k1) hst.part;have e:=X28 hp hg hc';refine⟨Q6R hp hg hc',hl',?_⟩;rw[e];rw[J6l,e] at hl';exact hS.step _ _ _ (J11 hp hg k1) h3 h2 hst hl'
structure Y25 (p:Pr) (g:G) (kd:Int) (leg:Cf->Bool) (M:Nat->Prop):Prop where
 in_:∀k,M k->k<J1g p g/\J6l p g leg k=false
 scc:∀k t,M k->M t->Tj.Rch (toK p g kd) (J6l p g leg) k t
 served:∀v,v<24->∃k,M k/\((enN p g (cfK p g k)).testBit v=false\/∃s t,(s,t)∈J76 p g kd k/\M t/\s.testBit v=true)
 some:∃k,M k
theorem Q5t {M:Nat->Prop} (hM:Y25 p g kd leg M) (hen:∀k,J6l p g leg k=false->enN p g (cfK p g k)≠0) {k0:Nat} (hk:M k0) {v:Nat} (hv:v<24) {n:Cnt} (h0:X8l p g k0 n) :
 ∃n',Pth p g kd leg k0 n k0 n'/\(n'.rounds=n.rounds->n'.pend.testBit v=false):=by
 obtain⟨j,hj,q⟩:=hM.served v hv;obtain⟨n1,p1⟩:=Q62 (hM.scc k0 j hk hj) n;rcases q with q | ⟨s,t,hs,ht,hb⟩
 . obtain⟨n2,p2⟩:=Q62 (hM.scc j k0 hj hk) n1;refine⟨n2,p1.trans p2,fun e=>?_⟩;have m1:=p1.mono;have m2:=p2.mono;have h1:=(p1.pd hen h0).part;cases x:n2.pend.testBit v with
   | false=>rfl
   | true =>
     have:=h1 v (m2.2 (by omega) v x);rw[q] at this;cases this
 . have p2:Pth p g kd leg k0 n t _:=.step p1 s hs (hM.in_ t ht).2;obtain⟨n3,p3⟩:=Q62 (hM.scc t k0 ht hk) (n1.add s (enN p g (cfK p g t)));refine⟨n3,p2.trans p3,fun e=>?_⟩;have m1:=p1.mono;have m3:=p3.mono;obtain⟨a1,a2,_⟩:=J92 n1 s (enN p g (cfK p g t));cases x:n3.pend.testBit v with
   | false=>rfl
   | true =>
     have:=m3.2 (by omega) v x;rw[(a2 (by omega)).2 v hb (by omega)] at this;cases this
theorem Q5u {M:Nat->Prop} (hM:Y25 p g kd leg M) (hg:g.valid=true) (hen:∀k,J6l p g leg k=false->enN p g (cfK p g k)≠0) {k0:Nat} (hk:M k0) {n:Cnt} (h0:X8l p g k0 n) :
 ∃n',Pth p g kd leg k0 n k0 n'/\n.rounds<n'.rounds:=by
 have key:∀m,m<=24->∃n',Pth p g kd leg k0 n k0 n'/\(n'.rounds=n.rounds->∀v,v<m->n'.pend.testBit v=false):=by
  intro m
  induction m with
  | zero=>intro _;exact⟨n,.nil,fun _ v hv=>by omega⟩
  | succ m ih =>
    intro hm;obtain⟨n1,p1,h1⟩:=ih (by omega);obtain⟨n2,p2,h2⟩:=Q5t hM hen hk (v:=m) (by omega) (p1.pd hen h0);have m1:=p1.mono;have m2:=p2.mono;refine⟨n2,p1.trans p2,fun e v hv=>?_⟩;by_cases q:v=m
    . subst q;exact h2 (by omega)
    . cases x:n2.pend.testBit v with
      | false=>rfl
      | true =>
        have:=m2.2 (by omega) v x;rw[h1 (by omega) v (by omega)] at this;cases this
 obtain⟨n',p',h'⟩:=key 24 (Nat.le_refl _);refine⟨n',p',?_⟩;apply Classical.byContradiction;intro hn;have m':=p'.mono;have hpd:=p'.pd hen h0;refine hpd.ne (Nat.eq_of_testBit_eq fun v=>?_);rw[Nat.zero_testBit];by_cases hv:v<24
 . exact h' (by omega) v hv
 . cases x:n'.pend.testBit v with
   | false=>rfl
   | true =>
     have h1:=hpd.part v x;have h2:=J9J p hg (cfK p g k0);have:(enN p g (cfK p g k0)).testBit v=false:=Nat.testBit_lt_two_pow (Nat.lt_of_lt_of_le (show _<2 ^ 24 from h2) (Nat.pow_le_pow_right (by omega) (by omega)));rw[this] at h1;cases h1
theorem Q71 (hp:J2p p) (hg:g.valid=true) {R:Int} {Inv:Cf->Cnt->Prop} (hS:X8i p g kd leg R Inv) (hch:∀k,k<J1g p g->∀s,s∈(chs g kd (enN p g (cfK p g k))).1->J7T p g kd (cfK p g k) s)
 {M:Nat->Prop}:¬ Y25 p g kd leg M:=fun hM=>by
 have hen:∀k,J6l p g leg k=false->enN p g (cfK p g k)≠0:=fun k hl=>hS.en _ (J11 hp hg k) hl;obtain⟨k0,hk⟩:=hM.some;obtain⟨hlt,hl⟩:=hM.in_ k0 hk;have hst:=hS.start _ (J11 hp hg k0) hl;have h0:X8l p g k0 (J7X (enN p g (cfK p g k0))):=⟨fun _ h=>h,hen k0 hl⟩;have key:∀m,∃n',Pth p g kd leg k0 (J7X (enN p g (cfK p g k0))) k0 n'/\m<=n'.rounds:=by
  intro m
  induction m with
  | zero=>exact⟨_,.nil,Nat.zero_le _⟩
  | succ m ih =>
    obtain⟨n1,p1,h1⟩:=ih;obtain⟨n2,p2,h2⟩:=Q5u hM hg hen hk (p1.pd hen h0);exact⟨n2,p1.trans p2,by omega⟩
 obtain⟨n',p',h'⟩:=key R.toNat;obtain⟨_,_,hi⟩:=p'.inv hp hg hS hch hlt hl hst;have:=hS.rounds _ n' (J11 hp hg k0) hi hl;omega
end Go.Proofs.YtlpfphlbghdokaaGreatDoor
namespace Go.Proofs.YtlpfphlbghdokaaGreatDoor
open Go.Eng Go.Plain
set_option maxRecDepth 100000
set_option linter.unusedVariables false
set_option maxHeartbeats 16000000 in
theorem X1q (s:Tsy) (hs:s.Ok) (lg:Nat->Bool) (hne:∀k,k<s.n->lg k=false->s.ar k≠[]) (hno:∀c,Q4T s lg c->∀u:Nat,¬ (X8O s c u/\∀v,v<24->SvW s c u v)) :
 Ret Tryz.prog 12 [s.v,blV s.n lg] (.tup [blV s.n fun _=>false,.int .i64 0]):=by
 have n1:=hs.n1;have n2:=hs.n2;have hch:=Q1G s hs lg;have hcm:=J9P s hs lg;refine J0g rfl ?_;refine J0c J0b Tryz.func12 rfl hc12 hr12 rfl ?_
 repeat' ((conv=>whnf);first|(refine Br.ff ?_)|(refine Bd.q ?_)|(refine Len.q ?_)|(refine MkS.vec ?_)|(refine hch.go ?_)|(refine hcm.go ?_;rintro _ ⟨c,hC,rfl⟩;have hkp:=X4z s hs c (fun k hk=>by cases e:lg k with|true=>have:=hC.leg k hk e;omega|false=>have:=hC.out k hk e;omega) (hno c hC))|(refine hkp.go ?_))
 all_goals (conv=>whnf)
 refine J01 J0b [1,2,7,8,9,10,11,36,37] [] [3,4,5,6,7,8,9,10,11,12,13,14,15,16,17,18,19,20,21,22,23,24,25,26,27,28,29] [2,1,0] (fun x:Nat×(Nat->List Nat)=>[(38,.int .i64 x.1)]) (fun own x=>J1H own 1 (.fam s.n 1 (Q5l x.2) (X39 x.2) [])) (fun m x=>m=s.n-x.1/\x.1<=s.n/\∀t,(x.2 t).length<=s.tot x.1) s.n (0,fun _=>[]) ⟨rfl,Nat.zero_le _,fun t=>Nat.zero_le _⟩ rfl (fun _=>rfl) ?_ ?_
 . refine J0e (fun _ _=>[(2,some 2),(1,some 1),(0,some 0)]) ?_ ?_ rfl
   . repeat' (first|exact tI|(refine⟨⟨_,rfl,?_⟩,?_⟩)|exact J0a.kf rfl|exact J0a.loc rfl|exact J0a.q)
   . repeat' (first|exact⟨rfl,rfl,rfl,fun i hi=>⟨rfl,rfl⟩⟩|exact tI|(refine⟨⟨_,rfl,?_⟩,?_⟩)|exact J0a.kf rfl|(refine⟨Nat.le_refl _,rfl,fun i j hi hj=>?_⟩)|exact VLe.rfl|apply And.intro)
 rintro m x ⟨hm,hx,hF⟩;have htm:=J3b (fun k=>(s.ar k).length) hx;have htt:=hs.tot;by_cases hxn:x.1<s.n
 . have hrow:=hs.row hxn;have harc:=hs.arc x.1 hxn;cases hlg:lg x.1 with
   | true =>
     repeat' ((conv=>whnf);first|(refine Br.mk (fun _=>?_) (fun e=>Bool.noConfusion (e.symm.trans hlg)))|(refine Br.dec ?_ ?_<;>intro _<;>try omega)|(refine Ar.q ?_)|(refine Ix.q ?_))
     all_goals (conv=>whnf)
     refine⟨s.n-(x.1+1),(x.1+1,x.2),by omega,⟨rfl,hxn,fun t=>Nat.le_trans (hF t) (J3b _ (Nat.le_succ _))⟩,?_⟩;refine J0e (fun _ _=>[(2,some 2),(1,some 1),(0,some 0)]) ?_ ?_ rfl
     . repeat' (first|exact tI|(refine⟨⟨_,rfl,?_⟩,?_⟩)|exact J0a.kf rfl|exact J0a.loc rfl|exact J0a.q)
     . repeat' (first|exact⟨rfl,rfl,True.intro,fun i hi=>rfl,fun i j t hi hn hj ht=>VLe.rfl⟩|exact tI|(refine⟨⟨_,rfl,?_⟩,?_⟩)|exact J0a.kf rfl|(refine⟨Nat.le_refl _,rfl,fun i j hi hj=>?_⟩)|exact VLe.rfl|apply And.intro)
   | false =>
     have hl0:(s.ar x.1).length≠0:=fun e=>hne x.1 hxn hlg (List.length_eq_zero_iff.1 e);have hc:=hC.out x.1 hxn hlg;obtain⟨u,hu⟩:∃u:Nat,c x.1=u:=⟨(c x.1).toNat,by omega⟩;have hun:u<mxC c s.n:=by have:=Q7s c hxn;omega
     repeat' ((conv=>whnf);first|(refine Br.mk (fun e=>Bool.noConfusion (e.symm.trans hlg)) (fun _=>?_))|(refine Ix.mk u (by rw[hu]) hun ?_)|(refine Br.ff ?_)|(refine Br.dec ?_ ?_<;>intro _<;>try omega)|(refine Ix.q ?_))
     all_goals (conv=>whnf)
     refine J01 J0b [1,2,7,8,9,10,11,12,36,37,38,72,73] [3] [4,5,6,7,8,9,10,11,12,13,14,15,16,17,18,19,20,21,22,23,24,25,26,27,28,29] [3,2,1,0] (fun y:Nat×(Nat->List Nat)=>[(74,.int .i64 y.1)]) (fun own y=>(3,.vec (if y.1<(s.ar x.1).length then Q5l y.2 (gA (s.ar x.1) y.1).2 else 0) 1 (X39 y.2 (gA (s.ar x.1) y.1).2))::J1H (J1H own 1 (.fam s.n 1 (Q5l y.2) (X39 y.2) [])) 1 (.fam s.n 1 (Q5l y.2) (X39 y.2) (X8s (decide (y.1<(s.ar x.1).length)) (gA (s.ar x.1) y.1).2 3))) (fun m y=>m=(s.ar x.1).length-y.1/\y.1<=(s.ar x.1).length/\∀t,(y.2 t).length<=s.tot x.1+y.1) (s.ar x.1).length (0,x.2) ⟨rfl,Nat.zero_le _,hF⟩ rfl (fun _=>rfl) ?_ ?_
     . have h1:0<(s.ar x.1).length:=by omega
       obtain⟨b1,b2,b3⟩:=harc _ (J5a h1);simp only[decide_eq_true h1,X8s,if_true,if_pos h1];refine J3A.trans ?_ (J1b (ks:=[3,4,5,6,7,8,9,10,11,12,13,14,15,16,17,18,19,20,21,22,23,24,25,26,27,28,29]) rfl rfl rfl b3 rfl) (ksC rfl);refine J0e (fun _ _=>[(2,some 2),(1,some 1),(0,some 0)]) ?_ ?_ rfl
       . repeat' (first|exact tI|(refine⟨⟨_,rfl,?_⟩,?_⟩)|exact J0a.kf rfl|exact J0a.loc rfl|exact J0a.q)
       . repeat' (first|exact⟨rfl,rfl,True.intro,fun i hi=>rfl,fun i j t hi hn hj ht=>VLe.rfl⟩|exact tI|(refine⟨⟨_,rfl,?_⟩,?_⟩)|exact J0a.kf rfl|(refine⟨Nat.le_refl _,rfl,fun i j hi hj=>?_⟩)|exact VLe.rfl|apply And.intro)
     rintro m2 y ⟨hm2,hy,hG⟩;have htx:s.tot (x.1+1)=s.tot x.1+(s.ar x.1).length:=rfl;have htl:s.tot (x.1+1)<=s.tot s.n:=J3b _ hxn;by_cases hyn:y.1<(s.ar x.1).length
     . obtain⟨a1,a2,a3⟩:=harc _ (J5a hyn);have hlen:Q5l y.2 (gA (s.ar x.1) y.1).2<=262144:=by have:=hG (gA (s.ar x.1) y.1).2;rw[Q5l];omega
       simp only[decide_eq_true hyn,X8s,if_true,if_pos hyn]
       repeat' ((conv=>whnf);first|(refine Br.dec ?_ ?_<;>intro _<;>try omega)|(refine Br.nbeq ?_ ?_<;>intro _<;>try omega)|(refine Ar.q ?_)|(refine Ix.q ?_)|(refine Len.q ?_)|(refine Ltn.q ?_)|(refine Opn.hd (by omega) ?_)|(refine J16.hd (by omega) ?_)|(refine And.intro rfl ?_))
       all_goals (conv=>whnf)
       refine⟨(s.ar x.1).length-(y.1+1),(y.1+1,X54 y.2 (gA (s.ar x.1) y.1).2 x.1),by omega,⟨rfl,hyn,fun t=>?_⟩,?_⟩
       . have h1:=hG t;have h2:=Q34 y.2 (gA (s.ar x.1) y.1).2 x.1 t;have h3:=hG (gA (s.ar x.1) y.1).2;rw[Q5l] at h2;show(X54 y.2 (gA (s.ar x.1) y.1).2 x.1 t).length<=s.tot x.1+(y.1+1);rw[h2];split
         . omega
         . rw[Q5l];omega
       refine J3A.trans (J2i (J1m (q:=6) (k:=1) (i:=(gA (s.ar x.1) y.1).2) [] rfl rfl a3 (J0n rfl) (Nat.le_of_eq (if_pos rfl)) rfl (fun j hj=>(J0l (fun e=>hj e.symm)).symm))) ?_ (ksS rfl);by_cases h1:y.1+1<(s.ar x.1).length
       . obtain⟨b1,b2,b3⟩:=harc _ (J5a h1);simp only[decide_eq_true h1,if_true,if_pos h1];refine J3A.trans ?_ (J1b (ks:=[3,4,5,6,7,8,9,10,11,12,13,14,15,16,17,18,19,20,21,22,23,24,25,26,27,28,29]) rfl rfl rfl b3 rfl) (ksC rfl);refine J0e (fun _ _=>[(2,some 2),(1,some 1),(0,some 0)]) ?_ ?_ rfl
         . repeat' (first|exact tI|(refine⟨⟨_,rfl,?_⟩,?_⟩)|exact J0a.kf rfl|exact J0a.loc rfl|exact J0a.q)
         . repeat' (first|exact Q4o rfl (fun j u hj hu=>J84 _ _ _ x.1 rfl rfl _ _ _ rfl hj hu) _|exact tI|(refine⟨⟨_,rfl,?_⟩,?_⟩)|exact J0a.kf rfl|(refine⟨Nat.le_refl _,rfl,fun i j hi hj=>?_⟩)|exact VLe.rfl|apply And.intro)
       . simp only[decide_eq_false h1,Bool.false_eq_true,if_false,if_neg h1];refine J0e (fun _ _=>[(3,none),(2,some 2),(1,some 1),(0,some 0)]) ?_ ?_ rfl
         . repeat' (first|exact tI|(refine⟨⟨_,rfl,?_⟩,?_⟩)|exact J0a.kf rfl|exact J0a.loc rfl|exact J0a.q)
         . repeat' (first|exact Q4o rfl (fun j u hj hu=>J84 _ _ _ x.1 rfl rfl _ _ _ rfl hj hu) _|exact tI|(refine⟨⟨_,rfl,?_⟩,?_⟩)|exact J0a.kf rfl|(refine⟨Nat.le_refl _,rfl,fun i j hi hj=>?_⟩)|exact VLe.rfl|(refine⟨⟨_,_,rfl⟩,?_⟩)|apply And.intro)
     . simp only[decide_eq_false hyn,X8s,Bool.false_eq_true,if_false,if_neg hyn]
       repeat' ((conv=>whnf);first|(refine Br.dec ?_ ?_<;>intro _<;>try omega)|(refine Ar.q ?_))
       all_goals (conv=>whnf)
       refine⟨s.n-(x.1+1),(x.1+1,y.2),by omega,⟨rfl,hxn,fun t=>Nat.le_trans (hG t) (show s.tot x.1+y.1<=s.tot x.1+(s.ar x.1).length by omega)⟩,?_⟩;refine J0e (fun _ _=>[(2,some 2),(1,some 1),(0,some 0)]) ?_ ?_ rfl
       . repeat' (first|exact tI|(refine⟨⟨_,rfl,?_⟩,?_⟩)|exact J0a.kf rfl|exact J0a.loc rfl|exact J0a.q)
       . repeat' (first|exact⟨rfl,rfl,True.intro,fun i hi=>rfl,fun i j t hi hn hj ht=>VLe.rfl⟩|exact tI|(refine⟨⟨_,rfl,?_⟩,?_⟩)|exact J0a.kf rfl|(refine⟨Nat.le_refl _,rfl,fun i j hi hj=>?_⟩)|exact VLe.rfl|apply And.intro)
 . have ex:x.1=s.n:=by omega
   repeat' ((conv=>whnf);first|(refine Br.dec ?_ ?_<;>intro _<;>try omega))
   all_goals (conv=>whnf)
   refine J0N J0b [9,10,11] (fun _:Unit=>[(15,.int .i64 0)]) (fun _ _=>True) 0 () True.intro ?_ ?_
   . refine J0e (fun _ _=>[(2,some 2),(1,some 1),(0,some 0)]) ?_ ?_ rfl
     . repeat' (first|exact tI|(refine⟨⟨_,rfl,?_⟩,?_⟩)|exact J0a.kf rfl|exact J0a.q)
     . repeat' (first|exact⟨rfl,rfl,True.intro,fun i hi=>rfl,fun i j t hi hn hj ht=>VLe.rfl⟩|exact tI|(refine⟨⟨_,rfl,?_⟩,?_⟩)|exact J0a.kf rfl|(refine⟨Nat.le_refl _,rfl,fun i j hi hj=>?_⟩)|exact VLe.rfl|apply And.intro)
   rintro m2 y _
   repeat' ((conv=>whnf);first|(refine Br.ff ?_)|(refine Len.q ?_))
   all_goals (conv=>whnf)
   exact VLe.tup ⟨VLe.fz rfl (fun h=>h) (fun i j hi hj=>by
    obtain rfl:j=0:=by omega
    exact VLe.of_eq (by rw[J0w];rfl)),VLe.rfl,True.intro⟩
end Go.Proofs.YtlpfphlbghdokaaGreatDoor
namespace Go.Proofs.YtlpfphlbghdokaaGreatDoor
open Go.Eng Go.Plain
set_option maxRecDepth 100000
set_option linter.unusedVariables false
def J5N (p:Pr) (g:G) (kd:Int):Tsy:=⟨J1g p g,fun k=>enN p g (cfK p g k),J76 p g kd⟩
def J98 (f:Nat->Int):Nat->Int
 | 0=>0
 | n+1=>J98 f n+f n
theorem Q2e (f:Nat->Int):∀n,((List.range n).map f).sum=J98 f n
 | 0=>rfl
 | n+1=>by rw[List.range_succ,List.map_append,List.sum_append,Q2e f n];simp[J98]
theorem J9e {f h:Nat->Int}:∀{n:Nat},(∀i,i<n->f i=h i)->J98 f n=J98 h n
 | 0,_=>rfl
 | n+1,e=>by rw[J98,J98,J9e (fun i hi=>e i (by omega)),e n (by omega)]
theorem Q0v:∀n,J98 (fun _=>0) n=0
 | 0=>rfl
 | n+1=>by rw[J98,Q0v n];rfl
theorem J9f {f:Nat->Int} {B:Int}:∀{n:Nat},(∀i,i<n->-B<=f i/\f i<=B)->-((n:Int)*B)<=J98 f n/\J98 f n<=(n:Int)*B
 | 0,_=>by simp[J98]
 | n+1,h=>by
   have h1:=J9f (n:=n) (fun i hi=>h i (by omega));have h2:=h n (by omega);have e:((n+1:Nat):Int)*B=(n:Int)*B+B:=by rw[Int.natCast_add,Int.add_mul];simp
   rw[J98,e];omega
def gwX (p:Pr) (g:G) (c:Cf) (v x:Nat):Int:=(gI (J1E p g c v (J0F p g c v).toNat) x-gI (gC c v) x)*(plP p g v x:Nat)
def gwS (p:Pr) (g:G) (c:Cf) (v:Nat):Nat->Int:=J98 (gwX p g c v)
def gwK (p:Pr) (g:G) (c:Cf) (v:Nat):Int:=if 0<=J0F p g c v then gwS p g c v p.vars.length else 0
def toS (p:Pr) (g:G) (c:Cf) (k s b:Nat):Int:=(k:Int)+J98 (fun v=>if s.testBit v then gwK p g c v else 0) b
theorem X6F {sz:Nat->Nat} (h:∀i,0<sz i) (a l l':Nat) (hl:l<=l'):Mx.pr sz a l<=Mx.pr sz a l':=by
 induction l' with
 | zero =>
   obtain rfl:l=0:=by omega
   exact Nat.le_refl _
 | succ l' ih =>
   by_cases e:l=l'+1
   . subst e;exact Nat.le_refl _
   . have:=ih (by omega);rw[Mx.pr_snoc];exact Nat.le_trans this (Nat.le_mul_of_pos_right _ (h _))
theorem J9q {sz:Nat->Nat} (a l:Nat):∀m,Mx.pr sz a (l+m)=Mx.pr sz a l*Mx.pr sz (a+l) m
 | 0=>by simp[Mx.pr]
 | m+1=>by rw[<- Nat.add_assoc,Mx.pr_snoc,J9q a l m,Mx.pr_snoc,Nat.mul_assoc,Nat.add_assoc]
theorem Q64 (p:Pr) (g:G) {i:Nat} (hi:i<nP p g):Mx.pr (szP p g) i (nP p g-i)=szP p g i*Mx.pr (szP p g) (i+1) (nP p g-(i+1)):=by
 have e:nP p g-i=(nP p g-(i+1))+1:=by omega
 rw[e,Mx.pr]
theorem X4f (p:Pr) (g:G) {i:Nat} (hi:i<=nP p g):Mx.pr (szP p g) i (nP p g-i)<=J1g p g:=by
 have e:nP p g=i+(nP p g-i):=by omega
 rw[J1g]
 conv=>rhs;rw[e,J9q]
 rw[Nat.zero_add];exact Nat.le_mul_of_pos_left _ (Mx.pr_pos (J22 p g) _ _)
theorem X3U (p:Pr) (g:G) {v x:Nat} (hv:v<g.ids.length) (hx:x<p.vars.length):szX p g v x*plP p g v x<=J1g p g:=by
 have h1:=J74 hv hx;have h2:=Q64 p g h1;rw[J3D p g hx] at h2;rw[plP,<- h2];exact X4f p g (Nat.le_of_lt h1)
theorem Q8g {p:Pr} (hp:J2p p) {g:G} (hg:g.valid=true) {c:Cf} (hc:J1u p g c) {v x:Nat} (hv:v<g.ids.length) (hx:x<p.vars.length) (hr:0<=J0F p g c v) (hn:J1g p g<=32768) :
 -32768<=gwX p g c v x/\gwX p g c v x<=32768:=by
 obtain⟨f1,f2,f3,f4,f5,f6,f7⟩:=J0f hg;have hcl:=hc.len
 -- the step of this node alone
 have hs:J2e (2 ^ v) (enN p g c):=fun i hi=>by
  have e:=Q2o hi;rw[J3U,Bool.and_eq_true,decide_eq_true_eq,decide_eq_true_eq,<- e];exact⟨hv,hr⟩
 have hd:=J1Q hp hg hc hs;have hrow:=J1R p g c (2 ^ v) (v:=v) (by omega);rw[Nat.testBit_two_pow_self,if_pos rfl] at hrow;have h1:=hc.val v (by omega) x hx;have h2:=hd.val v (by rw[J3c];omega) x hx;rw[hrow] at h2;have h3:=X3U p g hv hx;have h4:=J4s hp g hg v hx;change loP p g v x<=_/\_<=hiP p g v x at h1 h2;rw[gwX];generalize gI (J1E p g c v (J0F p g c v).toNat) x=a at *;generalize gI (gC c v) x=b at *;have h5:((szX p g v x*plP p g v x:Nat):Int)<=32768:=by omega
 rw[Int.natCast_mul] at h5;have hle:(0:Int)<=(plP p g v x:Nat):=Int.natCast_nonneg _;generalize ((plP p g v x:Nat):Int)=q at *;generalize ((szX p g v x:Nat):Int)=z at *;have a1:(a-b)*q<=z*q:=Int.mul_le_mul_of_nonneg_right (by omega) hle;have a2:(b-a)*q<=z*q:=Int.mul_le_mul_of_nonneg_right (by omega) hle;have a3:(b-a)*q=-((a-b)*q):=by rw[<- Int.neg_mul];congr 1;omega
 omega
theorem Q2B {p:Pr} (hp:J2p p) {g:G} (hg:g.valid=true) {c:Cf} (hc:J1u p g c) {v:Nat} (hv:v<g.ids.length) (hr:0<=J0F p g c v) (hn:J1g p g<=32768) {x:Nat} (hx:x<=p.vars.length) :
 -32768000<=gwS p g c v x/\gwS p g c v x<=32768000:=by
 have h1:=J9f (n:=x) (f:=gwX p g c v) (B:=32768) (fun i hi=>Q8g hp hg hc hv (by omega) hr hn);have h2:=hp.vlen;rw[gwS];omega
theorem X4M {p:Pr} (hp:J2p p) {g:G} (hg:g.valid=true) {c:Cf} (hc:J1u p g c) {v:Nat} (hv:v<g.ids.length) (hn:J1g p g<=32768) :
 -32768000<=gwK p g c v/\gwK p g c v<=32768000:=by
 rw[gwK];split
 . rename_i h;exact Q2B hp hg hc hv h hn (Nat.le_refl _)
 . omega
theorem Q6s {p:Pr} (hp:J2p p) {g:G} (hg:g.valid=true) {c:Cf} (hc:J1u p g c) (hn:J1g p g<=32768) {k s b:Nat} (hk:k<32768) (hb:b<=g.ids.length) :
 -1000000000<=toS p g c k s b/\toS p g c k s b<=1000000000:=by
 obtain⟨f1,f2,f3,f4,f5,f6,f7⟩:=J0f hg;have h1:=J9f (n:=b) (f:=fun v=>if s.testBit v then gwK p g c v else 0) (B:=32768000) (fun i hi=>by
  show _<=(if s.testBit i then gwK p g c i else 0)/\(if s.testBit i then gwK p g c i else 0)<=_;split
  . exact X4M hp hg hc (by omega) hn
  . omega)
 rw[toS];omega
theorem X3T {p:Pr} (hp:J2p p) {g:G} (hg:g.valid=true) {c:Cf} (hc:J1u p g c) {s:Nat} (hs:J2e s (enN p g c)):toS p g c (rkC p g c) s g.ids.length=(rkC p g (J0H p g c s):Nat):=by
 have hcl:=hc.len;rw[X4a hc (J1Q hp hg hc hs),toS,Q2e];congr 1;refine J9e fun v hv=>?_;rw[grX,Q2e,J1R p g c s (by omega)];cases e:s.testBit v with
 | false =>
   simp only[Bool.false_eq_true,if_false];symm;rw[<- Q0v p.vars.length];exact J9e fun x _=>by rw[Int.sub_self,Int.zero_mul]
 | true =>
   have:=hs v e;rw[J3U,Bool.and_eq_true,decide_eq_true_eq,decide_eq_true_eq] at this;simp only[if_true];rw[gwK,if_pos this.2,gwS];rfl
theorem Q3x {p:Pr} {g:G} {c:Cf} {k s a b:Nat} (hab:a<=b) (h:∀i,a<=i->i<b->s.testBit i=false):toS p g c k s b=toS p g c k s a:=by
 induction b with
 | zero =>
   obtain rfl:a=0:=by omega
   rfl
 | succ b ih =>
   by_cases e:a=b+1
   . subst e;rfl
   . rw[<- ih (by omega) (fun i h1 h2=>h i h1 (by omega)),toS,toS,J98,h b (by omega) (by omega)];simp
theorem X0k {p:Pr} {g:G} {c:Cf} {k s b:Nat} (h:s.testBit b=true):toS p g c k s (b+1)=toS p g c k s b+gwK p g c b:=by
 rw[toS,toS,J98,h];simp;omega
theorem X6s {p:Pr} (hp:J2p p) {g:G} (hg:g.valid=true) {kd:Int} (hk:dk kd=true) (hn:J1g p g<=32768) (he:∀c,(chs g kd (enN p g c)).2=0) (ht:(J5N p g kd).tot (J1g p g)<=262144):(J5N p g kd).Ok:=by
 obtain⟨f1,f2,f3,f4,f5,f6,f7⟩:=J0f hg;have hmem:∀c s,s∈(chs g kd (enN p g c)).1->s≠0/\J2e s (enN p g c):=fun c s hs=>by
  have h32:=J6b p hg c;have h1:=(J7F hk h32 (J5e h32 s hs) (he c)).1 hs;obtain⟨a,b,_⟩:=J2k.1 h1;exact⟨a,(J1S (J5e h32 s hs)).1 b⟩
 refine⟨Q4w p g,hn,fun k _=>J9J p hg _,fun k hk'=>?_,fun k hk'=>?_,fun k hk' a ha=>?_,ht⟩
 . have h1:=X1O hg hk (J6b p hg (cfK p g k)) (J4B p hg _) (he _);show enN p g (cfK p g k)≠0↔J76 p g kd k≠[];rw[<- h1,J76];simp[List.length_pos_iff]
 . show(J76 p g kd k).Pairwise _;rw[J76,List.pairwise_map];exact J8P (J6b p hg _)
 . have ha:a∈J76 p g kd k:=ha;rw[J76] at ha;obtain⟨s,hs,rfl⟩:=List.mem_map.1 ha;obtain⟨h1,h2⟩:=hmem _ s hs;exact⟨h1,h2,Q6R hp hg (J1Q hp hg (J11 hp hg k) h2)⟩
end Go.Proofs.YtlpfphlbghdokaaGreatDoor
namespace Go.Proofs.YtlpfphlbghdokaaGreatDoor
open Go.Eng Go.Plain
set_option maxRecDepth 100000
set_option linter.unusedVariables false
theorem X4W {p:Pr} (hp:J2p p) {g:G} (hg:g.valid=true) {kd:Int} {leg:Cf->Bool} {R:Int} {Inv:Cf->Cnt->Prop} (hS:X8i p g kd leg R Inv) (hok:(J5N p g kd).Ok)
 (hch:∀k,k<J1g p g->∀s,s∈(chs g kd (enN p g (cfK p g k))).1->J7T p g kd (cfK p g k) s) (c:Nat->Int) (hC:Q4T (J5N p g kd) (J6l p g leg) c) (u:Nat) :
 ¬ (X8O (J5N p g kd) c u/\∀v,v<24->SvW (J5N p g kd) c u v):=fun⟨hi,hv⟩=>by
 have hlg:∀k,k<J1g p g->c k=u->J6l p g leg k=false:=fun k hk e=>by
  cases q:J6l p g leg k with
  | false=>rfl
  | true=>have:=hC.leg k hk q;omega
 refine Q71 hp hg hS hch (M:=fun k=>k<J1g p g/\c k=u) ⟨fun k hk=>⟨hk.1,hlg k hk.1 hk.2⟩,fun k t hk ht=>hC.scc k t hk.1 ht.1 (hlg k hk.1 hk.2) (hlg t ht.1 ht.2) (by rw[hk.2,ht.2]),fun v hv2=>?_,?_⟩
 . obtain⟨k,hk,e,q⟩:=hv v hv2;refine⟨k,⟨hk,e⟩,?_⟩;rcases q with q | ⟨a,ha,e2,q⟩
   . exact .inl q
   . exact .inr ⟨a.1,a.2,ha,⟨(hok.arc k hk a ha).2.2,e2⟩,q⟩
 . obtain⟨k,hk,e⟩:=hi;exact⟨k,hk,e⟩
end Go.Proofs.YtlpfphlbghdokaaGreatDoor
namespace Go.Proofs.YtlpfphlbghdokaaGreatDoor
open Go.Eng Go.Plain
set_option maxRecDepth 100000
set_option linter.unusedVariables false
def vBl (b:Nat->Bool):Nat->Nat->V:=fun i _=>.bool (b i)
theorem Q5D (s:Tsy) (hs:s.Ok) (lg:Nat->Bool) (hcl:∀k,k<s.n->lg k=true->∀a∈s.ar k,lg a.2=true):Ret Tryz.prog 13 [s.v,blV s.n lg] (.tup [.bool true,.int .i64 0]):=by
 have n1:=hs.n1;have n2:=hs.n2;have hch:=Q1G s hs lg;refine J0g rfl ?_;refine J0c J0b Tryz.func13 rfl hc13 hr13 rfl ?_
 repeat' ((conv=>whnf);first|(refine Br.ff ?_)|(refine hch.go ?_))
 all_goals (conv=>whnf)
 refine J0N J0b [1,18,19] (fun k:Nat=>[(20,.int .i64 k)]) (fun m k=>m=s.n-k/\k<=s.n) s.n 0 ⟨rfl,Nat.zero_le _⟩ ?_ ?_
 . exact J0k (fun _ _=>[(0,some 0)])
 rintro m k ⟨hm,hk⟩;by_cases hkn:k<s.n
 . cases hlg:lg k with
   | false =>
     repeat' ((conv=>whnf);first|(refine Br.mk (fun e=>Bool.noConfusion (e.symm.trans hlg)) (fun _=>?_))|(refine Br.dec ?_ ?_<;>intro _<;>try omega)|(refine Ar.q ?_)|(refine Ix.q ?_))
     all_goals (conv=>whnf)
     refine⟨s.n-(k+1),k+1,by omega,⟨rfl,by omega⟩,?_⟩;exact J0k (fun _ _=>[(0,some 0)])
   | true =>
     have hrow:=hs.row hkn
     repeat' ((conv=>whnf);first|(refine Br.mk (fun _=>?_) (fun e=>Bool.noConfusion (e.symm.trans hlg)))|(refine Br.dec ?_ ?_<;>intro _<;>try omega)|(refine Ix.q ?_))
     all_goals (conv=>whnf)
     refine J0N J0b [1,18,19,20,30,31] (fun i:Nat=>[(32,.int .i64 i)]) (fun m i=>m=(s.ar k).length-i/\i<=(s.ar k).length) (s.ar k).length 0 ⟨rfl,Nat.zero_le _⟩ ?_ ?_
     . exact J0k (fun _ _=>[(0,some 0)])
     rintro m2 i ⟨hm2,hi⟩;by_cases hil:i<(s.ar k).length
     . have hlt:=hcl k hkn hlg _ (J5a hil);obtain⟨a1,a2,a3⟩:=hs.arc k hkn _ (J5a hil)
       repeat' ((conv=>whnf);first|(refine Br.mk (fun _=>?_) (fun e=>Bool.noConfusion (e.symm.trans hlt)))|(refine Br.dec ?_ ?_<;>intro _<;>try omega)|(refine Ar.q ?_)|(refine Ix.q ?_))
       all_goals (conv=>whnf)
       refine⟨(s.ar k).length-(i+1),i+1,by omega,⟨rfl,by omega⟩,?_⟩;exact J0k (fun _ _=>[(0,some 0)])
     . repeat' ((conv=>whnf);first|(refine Br.dec ?_ ?_<;>intro _<;>try omega)|(refine Ar.q ?_))
       all_goals (conv=>whnf)
       refine⟨s.n-(k+1),k+1,by omega,⟨rfl,by omega⟩,?_⟩;exact J0k (fun _ _=>[(0,some 0)])
 . repeat' ((conv=>whnf);first|(refine Br.dec ?_ ?_<;>intro _<;>try omega))
   all_goals (conv=>whnf)
   repeat' (first|exact VLe.rfl)
end Go.Proofs.YtlpfphlbghdokaaGreatDoor
