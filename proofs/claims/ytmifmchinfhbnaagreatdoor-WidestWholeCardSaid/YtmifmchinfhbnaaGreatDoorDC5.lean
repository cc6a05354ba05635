import Derived.Test.YtmifmchinfhbnaaGreatDoorAN1
import Derived.Test.YtmifmchinfhbnaaGreatDoorEngAC
import Derived.Test.YtmifmchinfhbnaaGreatDoorGRCode
import Derived.Test.YtmifmchinfhbnaaGreatDoorEngZ
namespace Go.Eng
open Go.Plain
set_option linter.unusedVariables false
structure Tsy where
 n:Nat
 en:Nat->Nat
 ar:Nat->List (Nat×Nat)
def gA (l:List (Nat×Nat)) (i:Nat):Nat×Nat:=l.getD i (0,0)
def vAr (l:List (Nat×Nat)):Nat->Nat->V:=fun i j=>match j with
 | 0=>.int .u32 (gA l i).1
 | _=>.int .i64 (gA l i).2
def arV (l:List (Nat×Nat)):V:=.fz l.length 2 false (vAr l)
def vEn (s:Tsy):Nat->Nat->V:=fun i _=>.int .u32 (s.en i)
def X8t (s:Tsy):Nat->Nat->V:=fun i _=>arV (s.ar i)
def Tsy.v (s:Tsy):V:=.agg [.fz s.n 1 false (vEn s),.fz s.n 1 false (X8t s)]
def Tsy.to (s:Tsy) (k:Nat):List Nat:=(s.ar k).map (·.2)
def X0j (f:Nat->Nat):Nat->Nat
 | 0=>0
 | k+1=>X0j f k+f k
theorem J4P (f:Nat->Nat) {a b:Nat} (h:a<=b):X0j f a<=X0j f b:=by
 induction b with
 | zero =>
   obtain rfl:a=0:=by omega
   exact Nat.le_refl _
 | succ b ih =>
   by_cases e:a=b+1
   . subst e;exact Nat.le_refl _
   . have:=ih (by omega);rw[X0j];omega
theorem Q6B (f:Nat->Nat) (m:Nat) (h:∀k,f k<=m):∀n,X0j f n<=n*m
 | 0=>by simp[X0j]
 | n+1=>by have:=Q6B f m h n;have:=h n;rw[X0j,Nat.add_mul];omega
def Tsy.tot (s:Tsy) (k:Nat):Nat:=X0j (fun k=>(s.ar k).length) k
structure Tsy.Ok (s:Tsy):Prop where
 n1:1<=s.n
 n2:s.n<=32768
 en:∀k,k<s.n->s.en k<16777216
 ne:∀k,k<s.n->(s.en k≠0↔s.ar k≠[])
 sort:∀k,k<s.n->(s.ar k).Pairwise fun a b=>a.1<b.1
 arc:∀k,k<s.n->∀a∈s.ar k,a.1≠0/\J2s a.1 (s.en k)/\a.2<s.n
 tot:s.tot s.n<=262144
theorem Tsy.Ok.row {s:Tsy} (h:s.Ok) {k:Nat} (hk:k<s.n):(s.ar k).length<=262144:=by
 have h1:=h.tot;have h2:=J4P (fun k=>(s.ar k).length) (show k+1<=s.n by omega);rw[Tsy.tot] at h1;rw[X0j] at h2;omega
theorem J3R {l:List (Nat×Nat)} {i:Nat} (h:i<l.length):gA l i∈l:=by
 rw[gA,List.getD_eq_getElem?_getD,List.getElem?_eq_getElem h];exact List.getElem_mem h
theorem Y1V {l:List (Nat×Nat)} (h:l.Pairwise fun a b=>a.1<b.1) {i j:Nat} (hij:i<j) (hj:j<l.length):(gA l i).1<(gA l j).1:=by
 have:=List.pairwise_iff_getElem.1 h i j (by omega) hj hij;simpa[gA,List.getD_eq_getElem?_getD,List.getElem?_eq_getElem hj,List.getElem?_eq_getElem (show i<l.length by omega)] using this
def blV (n:Nat) (b:Nat->Bool):V:=.fz n 1 false fun i _=>.bool (b i)
def inV (n:Nat) (r:Nat->Nat):V:=.fz n 1 false fun i _=>.int .i64 (r i)
def gQ (l:List Nat) (i:Nat):Nat:=l.getD i 0
def vQ (l:List Nat):Nat->Nat->V:=fun i _=>.int .i64 (gQ l i)
def nlV (l:List Nat):V:=.fz l.length 1 false (vQ l)
theorem J8x {l:List Nat} {i:Nat} (h:i<l.length):gQ l i∈l:=by
 rw[gQ,List.getD_eq_getElem?_getD,List.getElem?_eq_getElem h];exact List.getElem_mem h
theorem Q2H (l:List Nat) (a i:Nat):gQ (l++[a]) i=if i<l.length then gQ l i else if i=l.length then a else 0:=by
 by_cases h:i<l.length
 . simp only[gQ,List.getD,List.getElem?_append_left h,if_pos h]
 . rw[if_neg h];by_cases h2:i=l.length
   . subst h2;simp[gQ]
   . simp[gQ,h2,List.getElem?_eq_none (by simp;omega:(l++[a]).length<=i)]
theorem J58 (l:List Nat) (a:Nat) (F:Nat->Nat->V) (x:Int) (hF:F 0 0=.int .i64 x) (hx:x=a) (n i j:Nat) (hn:n=l.length) (hi:i<l.length+1) (hj:j<1):VLe (J43 (J0l 0 (vQ l)) n (J0l 0 F) i j) (vQ (l++[a]) i j):=by
 obtain rfl:j=0:=by omega
 subst hn;apply VLe.of_eq;rw[vQ,Q2H];by_cases h:i<l.length
 . rw[J1I h,J0v,Nat.zero_add,if_pos h];rfl
 . rw[J1J h,if_neg h];have:i=l.length:=by omega
   subst this;simp[J0l,hF,hx]
theorem Q7g {l:List (Nat×Nat)} {n m:Nat} (hn:l.Nodup) (h:∀p∈l,p.1<n/\p.2<m):l.length<=n*m:=by
 have h1:(l.map fun p=>p.1*m+p.2).Nodup:=by
  rw[List.nodup_iff_pairwise_ne,List.pairwise_map];refine List.Pairwise.imp_of_mem ?_ hn;intro a b ha hb hne e;have h2:=h a ha;have h3:=h b hb;apply hne;have e1:a.1=b.1:=by
   have:(a.1*m+a.2) / m=(b.1*m+b.2) / m:=by rw[e]
   rw[Nat.add_comm,Nat.add_mul_div_right _ _ (by omega),Nat.div_eq_of_lt h2.2,Nat.add_comm (b.1*m),Nat.add_mul_div_right _ _ (by omega),Nat.div_eq_of_lt h3.2] at this;omega
  have e2:a.2=b.2:=by rw[e1] at e;omega
  exact Prod.ext e1 e2
 have h2:(l.map fun p=>p.1*m+p.2).Subset (List.range (n*m)):=fun k hk=>by
  obtain⟨p,hp,rfl⟩:=List.mem_map.1 hk;have:=h p hp;rw[List.mem_range];have h3:(p.1+1)*m<=n*m:=Nat.mul_le_mul_right _ this.1;rw[Nat.add_mul] at h3;omega
 have:=List.Nodup.length_le_of_subset h1 h2;simpa using this
theorem Q01 {α:Type} [DecidableEq α] (p q:α) (v:V):∀es:List (α×V),J09 (mput es p v) q=if p=q then some v else J09 es q
 | []=>by
   simp only[mput,J09]
 | (a,u)::r=>by
   rw[mput];by_cases h:a=p
   . rw[if_pos h];by_cases h2:p=q
     . rw[if_pos h2,J09,if_pos (h.trans h2)]
     . rw[if_neg h2,J09,J09,if_neg (fun e=>h2 (h.symm.trans e)),if_neg (fun e=>h2 (h.symm.trans e))]
   . rw[if_neg h,J09,J09,Q01 p q v r];by_cases h2:a=q
     . rw[if_pos h2,if_pos h2,if_neg (fun e=>h (h2.trans e.symm))]
     . rw[if_neg h2,if_neg h2]
instance instKySAny (l:List IntKind):DecidableEq (KyS l):=KyS.dec l
abbrev KP:List IntKind:=[.i64,.u32]
def kyP (p:Nat×Nat):KyT (.st KP):=((p.1:Int),(p.2:Int),())
theorem Q2C {p q:Nat×Nat} (h:kyP p=kyP q):p=q:=by
 have h1:(p.1:Int)=q.1:=congrArg (fun x:Int×Int×Unit=>x.1) h;have h2:(p.2:Int)=q.2:=congrArg (fun x:Int×Int×Unit=>x.2.1) h;exact Prod.ext (by omega) (by omega)
def X1u (L:List (Nat×Nat)):List (KyT (.st KP)×V):=L.map fun p=>(kyP p,.bool true)
theorem X21:∃f:List (Nat×Nat)->List (KyT (.st KP)×V),∀l,f l=X1u l:=⟨X1u,fun _=>rfl⟩
noncomputable def enQ:List (Nat×Nat)->List (KyT (.st KP)×V):=Classical.choose X21
theorem Q4v (l:List (Nat×Nat)):enQ l=X1u l:=Classical.choose_spec X21 l
theorem X5n:enQ []=[]:=by rw[Q4v];rfl
theorem Q1v (p:Nat×Nat):∀L:List (Nat×Nat),J09 (X1u L) (kyP p)=if p∈L then some (.bool true) else none
 | []=>by rw[if_neg (by simp)];rfl
 | q::r=>by
   have ih:=Q1v p r;show(if kyP q=kyP p then some (V.bool true) else J09 (X1u r) (kyP p))=_;by_cases h:q=p
   . subst h;rw[if_pos rfl,if_pos (by simp)]
   . rw[if_neg (fun e=>h (Q2C e)),ih];have:(p∈q::r)↔p∈r:=by
      rw[List.mem_cons];exact⟨fun e=>e.elim (fun e=>(h e.symm).elim) id,.inr⟩
     simp only[this]
theorem X1j (p:Nat×Nat) (L:List (Nat×Nat)):J09 (enQ L) (kyP p)=if p∈L then some (.bool true) else none:=by rw[Q4v,Q1v]
theorem Q3N {p:Nat×Nat}:∀{L:List (Nat×Nat)},p∉L->mput (X1u L) (kyP p) (.bool true)=X1u (L++[p])
 | [],_=>rfl
 | q::r,h=>by
   have h1:q≠p:=fun e=>h (by simp[e]);have h2:p∉r:=fun e=>h (by simp[e]);show(if kyP q=kyP p then (kyP q,V.bool true)::X1u r else (kyP q,V.bool true)::mput (X1u r) (kyP p) (.bool true))=_;rw[if_neg (fun e=>h1 (Q2C e)),Q3N h2];rfl
theorem Q7a {p:Nat×Nat} {L:List (Nat×Nat)} (h:p∉L):mput (enQ L) (kyP p) (.bool true)=enQ (L++[p]):=by rw[Q4v,Q4v,Q3N h]
def Tsy.aft (s:Tsy) (pd:Nat) (a:Nat×Nat):Nat×Bool:=if J04 pd a.1 &&& s.en a.2=0 then (s.en a.2,true) else (J04 pd a.1 &&& s.en a.2,false)
theorem Tsy.aft_le (s:Tsy) (pd:Nat) (a:Nat×Nat):(s.aft pd a).1<=s.en a.2:=by
 rw[Tsy.aft];split
 . exact Nat.le_refl _
 . exact Nat.and_le_right
structure J4j (s:Tsy) (lg:Nat->Bool) (m:Nat) (L:List (Nat×Nat)):Prop where
 nodup:L.Nodup
 ok:∀p∈L,p.1<s.n/\p.2<m
 leg:∀p∈L,lg p.1=false
theorem J4j.nil (s:Tsy) (lg:Nat->Bool) (m:Nat):J4j s lg m []:=⟨.nil,fun p h=>(by cases h),fun p h=>(by cases h)⟩
theorem J4j.snoc {s:Tsy} {lg:Nat->Bool} {m:Nat} {L:List (Nat×Nat)} (h:J4j s lg m L) {p:Nat×Nat} (hp:p.1<s.n/\p.2<m) (hl:lg p.1=false) (hn:p∉L):J4j s lg m (L++[p]):=by
 refine⟨?_,fun q hq=>?_,fun q hq=>?_⟩
 . rw[List.nodup_append];exact⟨h.nodup,by simp,fun a ha b hb e=>hn (by simp at hb;rw[<- hb,<- e];exact ha)⟩
 . rcases List.mem_append.1 hq with h1|h1
   . exact h.ok q h1
   . simp at h1;subst h1;exact hp
 . rcases List.mem_append.1 hq with h1|h1
   . exact h.leg q h1
   . simp at h1;subst h1;exact hl
theorem J4j.len {s:Tsy} {lg:Nat->Bool} {m:Nat} {L:List (Nat×Nat)} (h:J4j s lg m L):L.length<=s.n*m:=Q7g h.nodup h.ok
def gP (l:List (Nat×Nat)) (i:Nat):Nat×Nat:=l.getD i (0,0)
def vPr (l:List (Nat×Nat)):Nat->Nat->V:=fun i j=>match j with
 | 0=>.int .i64 (gP l i).1
 | _+1=>.int .u32 (gP l i).2
theorem Q4k {l:List (Nat×Nat)} {i:Nat} (h:i<l.length):gP l i∈l:=by
 rw[gP,List.getD_eq_getElem?_getD,List.getElem?_eq_getElem h];exact List.getElem_mem h
theorem X5a (l:List (Nat×Nat)) (a:Nat×Nat) (i:Nat) (h:i<l.length+1):gP (l++[a]) i=if i<l.length then gP l i else a:=by
 by_cases e:i<l.length
 . simp[gP,List.getD,e,List.getElem?_append_left e]
 . have:i=l.length:=by omega
   subst this;simp[gP,List.getD]
theorem Q3n (l:List (Nat×Nat)) (a:Nat×Nat) (F:Nat->Nat->V) (h0:F 0 0=.int .i64 a.1) (h1:F 0 1=.int .u32 a.2) (n i j:Nat) (hn:n=l.length) (hi:i<l.length+1) (hj:j<2):VLe (J43 (J0l 0 (vPr l)) n (J0l 0 F) i j) (vPr (l++[a]) i j):=by
 apply VLe.of_eq;subst hn;have e:=X5a l a i hi;by_cases h:i<l.length
 . rw[J1I h,J0v,Nat.zero_add];rw[if_pos h] at e;rcases j with _|j
   . show V.int .i64 _=V.int .i64 _;rw[e]
   . show V.int .u32 _=V.int .u32 _;rw[e]
 . rw[J1J h];rw[if_neg h] at e;obtain rfl:i=l.length:=by omega
   rw[Nat.sub_self,J0v];rcases j with _|_|j
   . show F 0 0=V.int .i64 _;rw[e,h0]
   . show F 0 1=V.int .u32 _;rw[e,h1]
   . omega
structure RQ (s:Tsy) (lg:Nat->Bool) (Q:Nat->Nat->Nat->Prop):Prop where
 zero:∀k pd,k<s.n->lg k=false->Q k pd 0
 one:∀k pd,k<s.n->lg k=false->Q k pd 1
 step:∀k pd a v,k<s.n->lg k=false->a∈s.ar k->lg a.2=false->Q a.2 (s.aft pd a).1 v->Q k pd (if (s.aft pd a).2 then 1+v else v)
 max:∀k pd a b,Q k pd a->Q k pd b->Q k pd (max a b)
structure MQ (s:Tsy) (lg:Nat->Bool) (Q:Nat->Nat->Prop):Prop where
 zero:∀k,k<s.n->lg k=false->Q k 0
 step:∀k a v,k<s.n->lg k=false->a∈s.ar k->(lg a.2=false->Q a.2 v)->(lg a.2=true->v=0)->Q k (cnt a.1 32+v)
 max:∀k a b,Q k a->Q k b->Q k (max a b)
def uV (l:List Nat):V:=.fz l.length 1 false fun i _=>.int .u32 (gQ l i)
end Go.Eng
namespace Go.Eng
open Go.Plain
def J61 (F:Nat->List Nat):Nat->Nat:=fun t=>(F t).length
def X4h (F:Nat->List Nat):Nat->Nat->Nat->V:=fun t=>vQ (F t)
def Q27 (F:Nat->List Nat) (t x:Nat):Nat->List Nat:=fun u=>if u=t then F u++[x] else F u
def Q3R (b:Bool) (t q:Nat):List (Nat×Nat):=if b then[(t,q)] else[]
theorem J9z (F:Nat->List Nat) (t x i:Nat):J61 (Q27 F t x) i=if i=t then (F t).length+1 else J61 F i:=by
 rw[J61,Q27];by_cases h:i=t
 . subst h;simp
 . rw[if_neg h,if_neg h];rfl
theorem Q4p {F F':Nat->List Nat} {t x n:Nat} (hF:F'=Q27 F t x) {g:Nat->Nat->V} (hg:∀j u,j<(F t).length+1->u<1->VLe (g j u) (vQ (F t++[x]) j u)) (ρ:Rn) :
 X3x ρ (.fam n 1 (J2K (J61 F) t ((F t).length+1)) (J3j (X4h F) t g) []) (.fam n 1 (J61 F') (X4h F') []):=by
 subst hF;refine⟨rfl,rfl,True.intro,fun i hi=>?_,fun i j u hi hn hj hu=>?_⟩
 . rw[J9z];rfl
 . simp only[J3j,X4h,Q27];simp only[J2K] at hj;by_cases e:i=t
   . rw[if_pos e,if_pos e];rw[if_pos e] at hj;rw[e];exact hg j u hj hu
   . rw[if_neg e,if_neg e];exact VLe.rfl
theorem ksC {c:List Nat} {q:Nat} {chg:List Nat} (h:J1c q chg=true):∀k,k∈(q::c)->k∈c\/k∈chg:=fun k hk=>by
 rcases List.mem_cons.1 hk with e|e
 . exact .inr (by rw[e];exact J0m.1 h)
 . exact .inl e
theorem ksS {a b chg:List Nat} (h:(a.all fun k=>J1c k b)=true):∀k,k∈a->k∈b\/k∈chg:=fun k hk=>.inl (J0m.1 (List.all_eq_true.1 h k hk))
def J2b (s:Tsy) (k i:Nat):Nat->List Nat:=fun t=>An.srcs k s.to t++List.replicate (((s.to k).take i).count t) k
theorem J8d (s:Tsy) (k t:Nat):J2b s k 0 t=An.srcs k s.to t:=by simp[J2b]
theorem Q6F (s:Tsy) (k t:Nat):J2b s k (s.ar k).length t=J2b s (k+1) 0 t:=by
 have h:(s.to k).take (s.ar k).length=s.to k:=List.take_of_length_le (by simp[Tsy.to]);rw[J8d,J2b,h,An.srcs,An.srcs,List.range_succ,List.flatMap_append];simp
theorem Q49 (s:Tsy) (k i:Nat) (hi:i<(s.ar k).length):J2b s k (i+1)=Q27 (J2b s k i) (gA (s.ar k) i).2 k:=by
 funext t;have hto:(s.to k).getD i 0=(gA (s.ar k) i).2:=by
  simp[Tsy.to,gA,List.getD_eq_getElem?_getD,List.getElem?_eq_getElem hi]
 have hc:=An.count_take_next (l:=s.to k) (q:=i) (by simpa[Tsy.to] using hi) t;rw[hto] at hc;rw[Q27,J2b,J2b,hc];by_cases h:t=(gA (s.ar k) i).2
 . subst h;rw[if_pos rfl,if_pos rfl,List.append_assoc,<- List.replicate_succ']
 . rw[if_neg h,if_neg (fun e=>h e.symm),Nat.add_zero]
theorem J9g (s:Tsy) (t:Nat):∀k,(An.srcs k s.to t).length<=s.tot k
 | 0=>Nat.le_refl _
 | k+1=>by
   have ih:=J9g s t k;have h1:An.srcs (k+1) s.to t=An.srcs k s.to t++List.replicate ((s.to k).count t) k:=by
    rw[An.srcs,An.srcs,List.range_succ,List.flatMap_append];simp
   have h2:=List.count_le_length (a:=t) (l:=s.to k);have h3:(s.to k).length=(s.ar k).length:=by simp[Tsy.to]
   have h4:s.tot (k+1)=s.tot k+(s.ar k).length:=rfl;rw[h1,List.length_append,List.length_replicate,h4];omega
theorem Q6G {s:Tsy} (hs:s.Ok) {k i:Nat} (hk:k<s.n) (hi:i<=(s.ar k).length) (t:Nat):J61 (J2b s k i) t<=262144:=by
 have h1:=J9g s t k;have h2:=J4P (fun k=>(s.ar k).length) (show k+1<=s.n by omega);have h3:s.tot (k+1)=s.tot k+(s.ar k).length:=rfl;have h4:=hs.tot;change s.tot (k+1)<=s.tot s.n at h2;have h5:=List.count_le_length (a:=t) (l:=(s.to k).take i);have h6:((s.to k).take i).length<=i:=List.length_take_le _ _;rw[J61,J2b,List.length_append,List.length_replicate];omega
theorem Q2m (s:Tsy) (t:Nat):J2b s 0 0 t=[]:=by simp[J2b,An.srcs]
end Go.Eng
namespace Go.Proofs.YtmifmchinfhbnaaGreatDoor
open Go.Eng Go.Plain
set_option maxRecDepth 100000
set_option linter.unusedVariables false
def X50 (l:List (Nat×Nat)) (i:Nat):Nat:=if i=0 then 0 else (gA l (i-1)).1
theorem Q48 (e:Nat) (l:List (Nat×Nat)) (n:Nat) (he:e<16777216) (hne:e≠0↔l≠[]) (hs:l.Pairwise fun a b=>a.1<b.1) (ha:∀a∈l,a.1≠0/\J2s a.1 e/\a.2<n) (hn:n<=32768) (hl:l.length<=262144) :
 Ret Tryz.prog 114 [.int .u32 e,arV l,.int .i64 n] (.bool true):=by
 have h24:(e:Int).fdiv (2 ^ (min (24:Int).toNat IntKind.u32.bits))=0:=by
  have:(min (24:Int).toNat IntKind.u32.bits)=24:=by decide
  rw[this,J6j,Nat.shiftRight_eq_div_pow,Nat.div_eq_of_lt (by omega)];rfl
 have hlen:e≠0↔0<l.length:=by rw[hne,List.length_pos_iff]
 have hl0:e=0->l.length=0:=fun h=>by
  rcases Nat.eq_zero_or_pos l.length with q|q
  . exact q
  . exact(hlen.2 q h).elim
 have hl1:l.length=0->e=0:=fun h=>Classical.byContradiction fun q=>by have:=hlen.1 q;omega
 refine J0h rfl ?_;refine J0d J0b Tryz.func114 rfl Y1G Y02 rfl ?_;have hcase:(e=0/\l.length=0)\/(e≠0/\0<l.length):=by
  rcases Nat.eq_zero_or_pos e with h|h
  . exact .inl ⟨h,hl0 h⟩
  . exact .inr ⟨by omega,hlen.1 (by omega)⟩
 rcases hcase with ⟨e1,e2⟩ | ⟨e1,e2⟩
 . repeat' ((conv=>whnf);first|(refine Sv.mk 0 h24.symm ?_)|(refine Br.ff ?_)|(refine Br.dec ?_ ?_<;>intro _<;>try omega)|(refine Br.bne ?_ ?_<;>intro _<;>try omega)|(refine Nn.mk (by omega) ?_))
   all_goals (conv=>whnf)
   refine J1a J0b [0,2,21,22] (fun i:Nat=>[(7,.int .u32 (X50 l i)),(23,.int .i64 i)]) (fun m i=>m=l.length-i/\i<=l.length) l.length 0 ⟨rfl,Nat.zero_le _⟩ ?_ ?_
   . exact J0k (fun _ _=>[])
   rintro m i ⟨hm,hi⟩
   repeat' ((conv=>whnf);first|(refine Br.dec ?_ ?_<;>intro _<;>try omega))
   all_goals (conv=>whnf)
   exact VLe.rfl
 . repeat' ((conv=>whnf);first|(refine Sv.mk 0 h24.symm ?_)|(refine Br.ff ?_)|(refine Br.dec ?_ ?_<;>intro _<;>try omega)|(refine Br.bne ?_ ?_<;>intro _<;>try omega)|(refine Nn.mk (by omega) ?_))
   all_goals (conv=>whnf)
   refine J1a J0b [0,2,21,22] (fun i:Nat=>[(7,.int .u32 (X50 l i)),(23,.int .i64 i)]) (fun m i=>m=l.length-i/\i<=l.length) l.length 0 ⟨rfl,Nat.zero_le _⟩ ?_ ?_
   . exact J0k (fun _ _=>[])
   rintro m i ⟨hm,hi⟩;by_cases hil:i<l.length
   . obtain⟨a1,a2,a3⟩:=ha _ (J3R hil);have a4:=a2.le;have a5:X50 l i<(gA l i).1:=by
      rw[X50];split
      . omega
      . exact Y1V hs (by omega) hil
     have hnx:X50 l (i+1)=(gA l i).1:=by rw[X50,if_neg (by omega),Nat.add_sub_cancel]
     have hd:J5X .andNot .u32 ((gA l i).1:Int) (e:Int)=0:=by rw[J5z (by omega) (by omega),(J1T (by omega)).2 a2];rfl
     generalize X50 l i=b at *
     repeat' ((conv=>whnf);first|(refine Sv.mk 0 hd.symm ?_)|(refine Br.ff ?_)|(refine Br.dec ?_ ?_<;>intro _<;>try omega)|(refine Ar.i64 (by omega) (by omega) ?_)|(refine Ix.nat (by omega) ?_))
     all_goals (conv=>whnf)
     refine⟨l.length-(i+1),i+1,by omega,⟨rfl,by omega⟩,?_⟩;simp only[hnx];exact J0k (fun _ _=>[])
   . repeat' ((conv=>whnf);first|(refine Br.dec ?_ ?_<;>intro _<;>try omega))
     all_goals (conv=>whnf)
     exact VLe.rfl
theorem Q6z (s:Tsy) (hs:s.Ok):Ret Tryz.prog 73 [s.v] (.bool true):=by
 have n1:=hs.n1;have n2:=hs.n2;refine J0h rfl ?_;refine J0d J0b Tryz.func73 rfl hc73 hr73 rfl ?_
 repeat' ((conv=>whnf);first|(refine Br.dec ?_ ?_<;>intro _<;>try omega)|(refine Br.bne ?_ ?_<;>intro _<;>try omega))
 all_goals (conv=>whnf)
 refine J1a J0b [1,3,22] (fun k:Nat=>[(4,.int .i64 (s.tot k)),(23,.int .i64 k)]) (fun m k=>m=s.n-k/\k<=s.n) s.n 0 ⟨rfl,Nat.zero_le _⟩ ?_ ?_
 . exact J0k (fun _ _=>[(0,some 0)])
 rintro m k ⟨hm,hk⟩;by_cases hkn:k<s.n
 . have h1:=Q48 (s.en k) (s.ar k) s.n (hs.en k hkn) (hs.ne k hkn) (hs.sort k hkn) (hs.arc k hkn) n2 (hs.row hkn);have ht:=hs.tot;have ht2:=J4P (fun k=>(s.ar k).length) (show k+1<=s.n by omega);have ht3:s.tot (k+1)=s.tot k+(s.ar k).length:=rfl;change s.tot (k+1)<=s.tot s.n at ht2;generalize s.tot k=t at *
   repeat' ((conv=>whnf);first|(refine Br.tt ?_)|(refine Br.dec ?_ ?_<;>intro _<;>try omega)|(refine Ar.i64 (by omega) (by omega) ?_)|(refine Ix.nat (by omega) ?_)|(refine h1.go ?_))
   all_goals (conv=>whnf)
   all_goals first
    | (exfalso;omega)
    | (refine⟨s.n-(k+1),k+1,by omega,⟨rfl,by omega⟩,?_⟩
       simp only[ht3];exact J0k (fun _ _=>[(0,some 0)]))
 . repeat' ((conv=>whnf);first|(refine Br.dec ?_ ?_<;>intro _<;>try omega))
   all_goals (conv=>whnf)
   exact VLe.rfl
theorem J7A (s:Tsy) (hs:s.Ok) (lg:Nat->Bool):Ret Tryz.prog 42 [s.v,blV s.n lg] (.int .i64 0):=by
 have n2:=hs.n2;have h1:=Q6z s hs;refine J0h rfl ?_;refine J0d J0b Tryz.func42 rfl hc42 hr42 rfl ?_
 repeat' ((conv=>whnf);first|(refine Br.tt ?_)|(refine Br.bne ?_ ?_<;>intro _<;>try omega)|(refine h1.go ?_))
 all_goals (conv=>whnf)
 exact VLe.rfl
set_option maxHeartbeats 8000000 in
theorem Q5b (s:Tsy) (hs:s.Ok):Ret Tryz.prog 113 [s.v] (.fz s.n 1 false fun t _=>nlV (An.srcs s.n s.to t)):=by
 have n1:=hs.n1;have n2:=hs.n2;refine J0h rfl ?_;refine J0d J0b Tryz.func113 rfl Y1H Y03 rfl ?_
 repeat' ((conv=>whnf);first|(refine Bd.nat (by omega) ?_)|(refine Len.mk (by omega) ?_)|(refine MkS.vec ?_))
 all_goals (conv=>whnf)
 refine J0u J0b [3,13,14] [] [2,3,4,5,6,7,8,9,10,11,12,13,14,15,16,17,18,19,20,21,22,23,24,25,26,27,28,29] [1,0] (fun k:Nat=>[(15,.int .i64 k)]) (fun own k=>J1l own 1 (.fam s.n 1 (J61 (J2b s k 0)) (X4h (J2b s k 0)) [])) (fun m k=>m=s.n-k/\k<=s.n) s.n 0 ⟨rfl,Nat.zero_le _⟩ rfl (fun _=>rfl) ?_ ?_
 . refine J0c (fun _ _=>[(0,some 0),(1,some 1)]) ?_ ?_ rfl
   . repeat' (first|exact True.intro|(refine⟨⟨_,rfl,?_⟩,?_⟩)|exact J0a.kf rfl|exact J0a.vec rfl rfl rfl)
   . repeat' (first|exact⟨rfl,rfl,rfl,fun i hi=>⟨rfl,by rw[J61,Q2m];rfl⟩⟩|exact True.intro|(refine⟨⟨_,rfl,?_⟩,?_⟩)|exact J0a.kf rfl|(refine And.intro ?_ ?_))
 rintro m k ⟨hm,hk⟩;by_cases hkn:k<s.n
 . have hrow:=hs.row hkn;have harc:=hs.arc k hkn
   repeat' ((conv=>whnf);first|(refine Br.dec ?_ ?_<;>intro _<;>try omega)|(refine Ix.nat (by omega) ?_))
   all_goals (conv=>whnf)
   refine J0u J0b [3,4,13,14,15,20,21] [2] [3,4,5,6,7,8,9,10,11,12,13,14,15,16,17,18,19,20,21,22,23,24,25,26,27,28,29] [2,1,0] (fun i:Nat=>[(22,.int .i64 i)]) (fun own i=>(2,.vec (if i<(s.ar k).length then J61 (J2b s k i) (gA (s.ar k) i).2 else 0) 1 (X4h (J2b s k i) (gA (s.ar k) i).2))::J1l (J1l own 1 (.fam s.n 1 (J61 (J2b s k i)) (X4h (J2b s k i)) [])) 1 (.fam s.n 1 (J61 (J2b s k i)) (X4h (J2b s k i)) (Q3R (decide (i<(s.ar k).length)) (gA (s.ar k) i).2 2))) (fun m i=>m=(s.ar k).length-i/\i<=(s.ar k).length) (s.ar k).length 0 ⟨rfl,Nat.zero_le _⟩ rfl (fun _=>rfl) ?_ ?_
   . by_cases h1:0<(s.ar k).length
     . obtain⟨b1,b2,b3⟩:=harc _ (J3R h1);simp only[decide_eq_true h1,Q3R,if_true,if_pos h1];refine J3c.trans ?_ (J0V (ks:=[2,3,4,5,6,7,8,9,10,11,12,13,14,15,16,17,18,19,20,21,22,23,24,25,26,27,28,29]) rfl rfl rfl b3 rfl) (ksC rfl);refine J0c (fun _ _=>[(0,some 0),(1,some 1)]) ?_ ?_ rfl
       . repeat' (first|exact True.intro|(refine⟨⟨_,rfl,?_⟩,?_⟩)|exact J0a.kf rfl|exact J0a.vec rfl rfl rfl)
       . repeat' (first|exact⟨rfl,rfl,True.intro,fun i hi=>rfl,fun i j t hi hn hj ht=>VLe.rfl⟩|exact True.intro|(refine⟨⟨_,rfl,?_⟩,?_⟩)|exact J0a.kf rfl|(refine And.intro ?_ ?_))
     . simp only[decide_eq_false h1,Q3R,Bool.false_eq_true,if_false,if_neg h1];refine J0c (fun _ _=>[(0,some 0),(1,some 1),(2,none)]) ?_ ?_ rfl
       . repeat' (first|exact True.intro|(refine⟨⟨_,rfl,?_⟩,?_⟩)|exact J0a.kf rfl|exact J0a.vec rfl rfl rfl)
       . repeat' (first|exact⟨rfl,rfl,True.intro,fun i hi=>rfl,fun i j t hi hn hj ht=>VLe.rfl⟩|exact True.intro|(refine⟨⟨_,rfl,?_⟩,?_⟩)|exact J0a.kf rfl|(refine⟨⟨_,_,rfl⟩,?_⟩)|(refine And.intro ?_ ?_))
   rintro m i ⟨hm2,hi⟩;by_cases hil:i<(s.ar k).length
   . obtain⟨a1,a2,a3⟩:=harc _ (J3R hil);have hlen:J61 (J2b s k i) (gA (s.ar k) i).2<=262144:=Q6G hs hkn hi _;have hst:=Q49 s k i hil;simp only[decide_eq_true hil,Q3R,if_true,if_pos hil]
     repeat' ((conv=>whnf);first|(refine Br.dec ?_ ?_<;>intro _<;>try omega)|(refine Br.nbeq ?_ ?_<;>intro _<;>try omega)|(refine Ar.i64 (by omega) (by omega) ?_)|(refine Ix.nat (by omega) ?_)|(refine Len.mk (by omega) ?_)|(refine Ltn.mk (by omega) ?_)|(refine Opn.hd (by omega) ?_)|(refine J11.hd (by omega) ?_)|(refine And.intro rfl ?_))
     all_goals (conv=>whnf)
     refine⟨(s.ar k).length-(i+1),i+1,by omega,⟨rfl,by omega⟩,?_⟩;refine J3c.trans (J1R (J1h (q:=5) (k:=1) (i:=(gA (s.ar k) i).2) [] rfl rfl a3 (J0n rfl) (Nat.le_of_eq (if_pos rfl)) rfl (fun j hj=>(J0j (fun e=>hj e.symm)).symm))) ?_ (ksS rfl);by_cases h1:i+1<(s.ar k).length
     . obtain⟨b1,b2,b3⟩:=harc _ (J3R h1);simp only[decide_eq_true h1,Q3R,if_true,if_pos h1];refine J3c.trans ?_ (J0V (ks:=[2,3,4,5,6,7,8,9,10,11,12,13,14,15,16,17,18,19,20,21,22,23,24,25,26,27,28,29]) rfl rfl rfl b3 rfl) (ksC rfl);refine J0c (fun _ _=>[(0,some 0),(1,some 1)]) ?_ ?_ rfl
       . repeat' (first|exact True.intro|(refine⟨⟨_,rfl,?_⟩,?_⟩)|exact J0a.kf rfl|exact J0a.vec rfl rfl rfl)
       . repeat' (first|exact Q4p hst (fun j u hj hu=>J58 _ _ _ k rfl rfl _ _ _ rfl hj hu) _|exact True.intro|(refine⟨⟨_,rfl,?_⟩,?_⟩)|exact J0a.kf rfl|(refine And.intro ?_ ?_))
     . simp only[decide_eq_false h1,Q3R,Bool.false_eq_true,if_false,if_neg h1];refine J0c (fun _ _=>[(0,some 0),(1,some 1),(2,none)]) ?_ ?_ rfl
       . repeat' (first|exact True.intro|(refine⟨⟨_,rfl,?_⟩,?_⟩)|exact J0a.kf rfl|exact J0a.vec rfl rfl rfl)
       . repeat' (first|exact Q4p hst (fun j u hj hu=>J58 _ _ _ k rfl rfl _ _ _ rfl hj hu) _|exact True.intro|(refine⟨⟨_,rfl,?_⟩,?_⟩)|exact J0a.kf rfl|(refine⟨⟨_,_,rfl⟩,?_⟩)|(refine And.intro ?_ ?_))
   . have ei:i=(s.ar k).length:=by omega
     subst ei;simp only[decide_eq_false hil,Q3R,Bool.false_eq_true,if_false,if_neg hil]
     repeat' ((conv=>whnf);first|(refine Br.dec ?_ ?_<;>intro _<;>try omega)|(refine Ar.i64 (by omega) (by omega) ?_))
     all_goals (conv=>whnf)
     refine⟨s.n-(k+1),k+1,by omega,⟨rfl,by omega⟩,?_⟩;have hrw:J2b s k (s.ar k).length=J2b s (k+1) 0:=funext fun t=>Q6F s k t;refine J0c (fun _ _=>[(0,some 0),(1,some 1)]) ?_ ?_ rfl
     . repeat' (first|exact True.intro|(refine⟨⟨_,rfl,?_⟩,?_⟩)|exact J0a.kf rfl|exact J0a.vec rfl rfl rfl)
     . repeat' (first|exact⟨rfl,rfl,True.intro,fun i hi=>by rw[hrw],fun i j t hi hn hj ht=>by rw[hrw];exact VLe.rfl⟩|exact True.intro|(refine⟨⟨_,rfl,?_⟩,?_⟩)|exact J0a.kf rfl|(refine And.intro ?_ ?_))
 . have ek:k=s.n:=by omega
   subst ek
   repeat' ((conv=>whnf);first|(refine Br.dec ?_ ?_<;>intro _<;>try omega)|(refine Len.mk (by omega) ?_))
   all_goals (conv=>whnf)
   refine VLe.fz rfl (fun h=>h) (fun i j hi hj=>?_);show VLe (.fz (J2b s s.n 0 i).length 1 false (vQ (J2b s s.n 0 i))) (nlV (An.srcs s.n s.to i));rw[J8d];exact VLe.rfl
def vEt (en:Nat->Nat):Nat->Nat->V:=fun k _=>.int .i64 (en k)
theorem Q2c (en:Nat->Nat) (k k' i j:Nat) (hk:k'=k) (hj:j<1):VLe (J00 (vEt en) k' 0 [.int .i64 ((en k':Int)+1)] i j) (vEt (fun x=>if x=k then en x+1 else en x) i j):=by
 obtain rfl:j=0:=by omega
 subst hk;apply VLe.of_eq;by_cases h:i=k'
 . subst h;simp[J00,vEt]
 . simp[J00,vEt,h]
theorem J81 (i j:Nat) (hj:j<1):VLe ((fun(_ j:Nat)=>[V.int .i64 0].getD j default) i j) (vEt (fun _=>0) i j):=by
 obtain rfl:j=0:=by omega
 exact VLe.rfl
theorem Q1p (f:Nat->Nat->V) (i:Nat) (v:V):J00 f i 0 [v] i 0=v:=by simp[J00]
theorem Q8w (lg:Nat->Bool) (i:Nat):(List.range (i+1)).filter lg=(List.range i).filter lg++(if lg i=true then[i] else[]):=by
 rw[List.range_succ,List.filter_append];congr 1;cases h:lg i<;>simp[h]
theorem X1k (lg:Nat->Bool) (i:Nat):((List.range i).filter lg).length<=i:=by
 have:=List.length_filter_le lg (List.range i);simpa using this
structure OrdS where
 L:List Nat
 i:Nat
 en:Nat->Nat
set_option maxHeartbeats 8000000 in
theorem Q3Q (s:Tsy) (hs:s.Ok) (lg:Nat->Bool):J8U Tryz.prog 72 [s.v,blV s.n lg] fun v=>∃L,An.Ord s.n s.to lg L/\v=nlV L:=by
 have n1:=hs.n1;have n2:=hs.n2;have hso:=Q5b s hs;refine J6a rfl ?_;refine J0d J0b Tryz.func72 rfl hc72 hr72 rfl ?_
 repeat' ((conv=>whnf);first|fail)
 all_goals (conv=>whnf)
 refine J0u J0b [1,2,13,14] [1] [2,3,4,5,6,7,8,9,10,11,12,13,14,15,16,17,18,19,20,21,22,23,24,25,26,27,28,29] [1,0] (fun i:Nat=>[(5,.vec 1 1 0 ((List.range i).filter lg).length),(15,.int .i64 i)]) (fun own i=>(1,.vec ((List.range i).filter lg).length 1 (vQ ((List.range i).filter lg)))::own) (fun m i=>m=s.n-i/\i<=s.n) s.n 0 ⟨rfl,Nat.zero_le _⟩ rfl (fun _=>rfl) ?_ ?_
 . exact J0k (fun _ _=>[(0,some 0),(1,none)])
 rintro m i ⟨hm,hi⟩;have hfl:=X1k lg i;by_cases hin:i<s.n
 . have hfs:=Q8w lg i;cases hlg:lg i with
   | true =>
     rw[hlg,if_pos rfl] at hfs
     repeat' ((conv=>whnf);first|(refine Br.mk (fun _=>?_) (fun e=>Bool.noConfusion (e.symm.trans hlg)))|(refine Br.dec ?_ ?_<;>intro _<;>try omega)|(refine Br.nbeq ?_ ?_<;>intro _<;>try omega)|(refine Ar.i64 (by omega) (by omega) ?_)|(refine Ix.nat (by omega) ?_)|(refine Len.mk (by omega) ?_))
     all_goals (conv=>whnf)
     refine⟨s.n-(i+1),i+1,by omega,⟨rfl,by omega⟩,?_⟩;simp only[hfs];refine J0c (fun env own=>[(0,some 0),(1,X5p env 5)]) ?_ ?_ rfl
     . repeat' (first|exact J0a.vec rfl rfl (by rw[List.length_append];rfl)|exact True.intro|(refine⟨⟨_,rfl,?_⟩,?_⟩)|exact J0a.kf rfl|exact J0a.loc rfl)
     . repeat' (first|(refine⟨by rw[List.length_append];exact Nat.le_refl _,rfl,fun a b ha hb=>?_⟩)|exact J58 _ _ _ i rfl rfl _ _ _ rfl (by rw[List.length_append] at ha;exact ha) hb|exact True.intro|(refine⟨⟨_,rfl,?_⟩,?_⟩)|exact J0a.kf rfl|(refine And.intro ?_ ?_))
   | false =>
     rw[hlg,if_neg (by decide),List.append_nil] at hfs
     repeat' ((conv=>whnf);first|(refine Br.mk (fun e=>Bool.noConfusion (e.symm.trans hlg)) (fun _=>?_))|(refine Br.dec ?_ ?_<;>intro _<;>try omega)|(refine Ar.i64 (by omega) (by omega) ?_)|(refine Ix.nat (by omega) ?_))
     all_goals (conv=>whnf)
     refine⟨s.n-(i+1),i+1,by omega,⟨rfl,by omega⟩,?_⟩;simp only[hfs];exact J0k (fun env own=>[(0,some 0),(1,some 1)])
 have ei:i=s.n:=by omega
 subst ei
 repeat' ((conv=>whnf);first|(refine Br.dec ?_ ?_<;>intro _<;>try omega)|(refine Bd.nat (by omega) ?_)|(refine Len.mk (by omega) ?_)|(refine MkS.vec ?_)|(refine hso.go ?_))
 all_goals (conv=>whnf)
 refine J0u J0b [1,2,8,9] [1] [3,4,5,6,7,8,9,10,11,12,13,14,15,16,17,18,19,20,21,22,23,24,25,26,27,28,29] [1,2,0] (fun x:OrdS=>[(5,.vec 1 1 0 x.L.length),(10,.int .i64 x.i)]) (fun own x=>[(1,.vec x.L.length 1 (vQ x.L)),(2,.vec s.n 1 (vEt x.en)),(0,.cells [.fz s.n 1 false (vEn s),.fz s.n 1 false (X8t s)])]) (fun m x=>m=s.n-x.i/\An.OrdJ s.n s.to lg x.L x.i 0 x.en) s.n ⟨(List.range s.n).filter lg,0,fun _=>0⟩ ⟨rfl,An.OrdJ.start⟩ rfl (fun _=>rfl) ?_ ?_
 . refine J0c (fun env own=>[(0,some 0),(1,some 1),(2,X5p env 9)]) ?_ ?_ rfl
   . repeat' (first|exact True.intro|(refine⟨⟨_,rfl,?_⟩,?_⟩)|exact J0a.kf rfl|exact J0a.loc rfl|exact J0a.vec rfl rfl rfl)
   . repeat' (first|exact J81 _ _ hj|exact True.intro|(refine⟨⟨_,rfl,?_⟩,?_⟩)|exact J0a.kf rfl|(refine⟨Nat.le_refl _,rfl,fun i j hi hj=>?_⟩)|exact VLe.rfl|(refine And.intro ?_ ?_))
 rintro m x ⟨hm,hI⟩;have hLn:=hI.len;have hle:=hI.le;by_cases hil:x.i<x.L.length
 . have hv:gQ x.L x.i<s.n:=hI.lt _ (J8x hil);have hz:gQ x.L (0+x.i)=gQ x.L x.i:=by rw[Nat.zero_add]
   repeat' ((conv=>whnf);first|(refine Ix.mk (gQ x.L x.i) (by rw[hz]) hv ?_)|(refine Br.dec ?_ ?_<;>intro _<;>try omega)|(refine Ix.nat (by omega) ?_)|(refine Ltn.mk (by omega) ?_))
   all_goals (conv=>whnf)
   refine J0u J0b [1,2,8,9,10,43,44] [1] [3,4,5,6,7,8,9,10,11,12,13,14,15,16,17,18,19,20,21,22,23,24,25,26,27,28,29] [1,2,0] (fun y:OrdS=>[(5,.vec 1 1 0 y.L.length),(45,.int .i64 y.i)]) (fun own y=>J1l (J1l own 1 (.vec y.L.length 1 (vQ y.L))) 2 (.vec s.n 1 (vEt y.en))) (fun m y=>m=(An.srcs s.n s.to (gQ x.L x.i)).length-y.i/\y.i<=(An.srcs s.n s.to (gQ x.L x.i)).length/\x.i<y.L.length/\gQ y.L x.i=gQ x.L x.i/\An.OrdJ s.n s.to lg y.L x.i y.i y.en) _ ⟨x.L,0,x.en⟩ ⟨rfl,Nat.zero_le _,hil,rfl,hI⟩ rfl (fun _=>rfl) ?_ ?_
   . exact J0k (fun env own=>[(0,some 0),(1,some 1),(2,some 2)])
   rintro m2 y ⟨hm2,hy,hyl,hyq,hJ⟩;have hLy:=hJ.len;by_cases hq:y.i<(An.srcs s.n s.to (gQ x.L x.i)).length
   . have hstep:=hJ.step hyl (by change y.i<(An.srcs s.n s.to (gQ y.L x.i)).length;rw[hyq];exact hq);change gQ (An.srcs s.n s.to (gQ y.L x.i)) y.i<s.n/\y.en (gQ (An.srcs s.n s.to (gQ y.L x.i)) y.i)+1<=(s.to (gQ (An.srcs s.n s.to (gQ y.L x.i)) y.i)).length/\An.OrdJ s.n s.to lg (if lg (gQ (An.srcs s.n s.to (gQ y.L x.i)) y.i)=false/\y.en (gQ (An.srcs s.n s.to (gQ y.L x.i)) y.i)+1=(s.to (gQ (An.srcs s.n s.to (gQ y.L x.i)) y.i)).length then y.L++[gQ (An.srcs s.n s.to (gQ y.L x.i)) y.i] else y.L) x.i (y.i+1) (fun k=>if k=gQ (An.srcs s.n s.to (gQ y.L x.i)) y.i then y.en k+1 else y.en k) at hstep;rw[hyq] at hstep;obtain⟨k1,k2,k3⟩:=hstep;have hz2:gQ (An.srcs s.n s.to (gQ x.L x.i)) y.i=gQ (An.srcs s.n s.to (gQ x.L x.i)) y.i:=rfl;have htl:(s.to (gQ (An.srcs s.n s.to (gQ x.L x.i)) y.i)).length=(s.ar (gQ (An.srcs s.n s.to (gQ x.L x.i)) y.i)).length:=by simp[Tsy.to]
     rw[htl] at k2 k3;have hrow:=hs.row k1;have hsl:=J9g s (gQ x.L x.i) s.n;have hto:=hs.tot;generalize hT:gQ (An.srcs s.n s.to (gQ x.L x.i)) y.i=t at *;have k2':y.en (0+t)+1<=(s.ar t).length:=by rw[Nat.zero_add];exact k2
     cases hlg:lg t with
     | true =>
       rw[hlg,if_neg (fun h=>Bool.noConfusion h.1)] at k3
       repeat' ((conv=>whnf);first|(refine Ix.mk t (by rw[hT]) k1 ?_)|(refine Br.mk (fun _=>?_) (fun e=>Bool.noConfusion (e.symm.trans hlg)))|(refine Br.dec ?_ ?_<;>intro _<;>try omega)|(refine Ar.i64 (by omega) (by omega) ?_)|(refine Ix.nat (by omega) ?_)|(refine Ltn.mk (by omega) ?_))
       all_goals (conv=>whnf)
       refine⟨_,⟨y.L,y.i+1,fun k=>if k=t then y.en k+1 else y.en k⟩,?_,⟨rfl,hq,hyl,hyq,k3⟩,?_⟩
       . simp only;omega
       . refine J0c (fun env own=>[(0,some 0),(1,some 1),(2,some 2)]) ?_ ?_ rfl
         . repeat' (first|exact True.intro|(refine⟨⟨_,rfl,?_⟩,?_⟩)|exact J0a.kf rfl|exact J0a.loc rfl|exact J0a.vec rfl rfl rfl)
         . repeat' (first|exact Q2c _ _ _ _ _ (Nat.zero_add _) hj|exact True.intro|(refine⟨⟨_,rfl,?_⟩,?_⟩)|exact J0a.kf rfl|(refine⟨Nat.le_refl _,rfl,fun i j hi hj=>?_⟩)|exact VLe.rfl|(refine And.intro ?_ ?_))
     | false =>
       by_cases hfull:y.en t+1=(s.ar t).length
       . rw[if_pos ⟨hlg,hfull⟩] at k3;have hfull':y.en (0+t)+1=(s.ar t).length:=by rw[Nat.zero_add];exact hfull
         repeat' ((conv=>whnf);first|(refine Ix.mk t (by rw[hT]) k1 ?_)|(refine Br.mk (fun e=>Bool.noConfusion (e.symm.trans hlg)) (fun _=>?_))|(refine Br.dec ?_ ?_<;>intro _<;>try omega)|(refine Br.nbeq ?_ ?_<;>intro _<;>try omega)|(refine Ar.i64 (by omega) (by omega) ?_)|(refine Ix.nat (by omega) ?_)|(refine Len.mk (by omega) ?_)|(refine Ltn.mk (by omega) ?_)|(rw[Q1p]))
         all_goals (conv=>whnf)
         refine⟨_,⟨y.L++[t],y.i+1,fun k=>if k=t then y.en k+1 else y.en k⟩,?_,⟨rfl,hq,by simp only[List.length_append];omega,?_,k3⟩,?_⟩
         . simp only;omega
         . simp only;rw[Q2H,if_pos hyl];exact hyq
         . refine J0c (fun env own=>[(0,some 0),(1,X5p env 5),(2,some 2)]) ?_ ?_ rfl
           . repeat' (first|exact J0a.vec rfl rfl (by rw[List.length_append];rfl)|exact True.intro|(refine⟨⟨_,rfl,?_⟩,?_⟩)|exact J0a.kf rfl|exact J0a.loc rfl|exact J0a.vec rfl rfl rfl)
           . repeat' (first|exact Q2c _ _ _ _ _ (Nat.zero_add _) hj|(refine⟨by rw[List.length_append];exact Nat.le_refl _,rfl,fun i j hi hj=>?_⟩)|exact J58 _ _ _ _ rfl (by rw[hT]) _ _ _ rfl (by rw[List.length_append] at hi;exact hi) hj|exact True.intro|(refine⟨⟨_,rfl,?_⟩,?_⟩)|exact J0a.kf rfl|(refine⟨Nat.le_refl _,rfl,fun i j hi hj=>?_⟩)|(refine And.intro ?_ ?_))
       . rw[if_neg (fun h=>hfull h.2)] at k3;have hfull':¬ y.en (0+t)+1=(s.ar t).length:=by rw[Nat.zero_add];exact hfull
         repeat' ((conv=>whnf);first|(refine Ix.mk t (by rw[hT]) k1 ?_)|(refine Br.mk (fun e=>Bool.noConfusion (e.symm.trans hlg)) (fun _=>?_))|(refine Br.dec ?_ ?_<;>intro _<;>try omega)|(refine Ar.i64 (by omega) (by omega) ?_)|(refine Ix.nat (by omega) ?_)|(refine Ltn.mk (by omega) ?_)|(rw[Q1p]))
         all_goals (conv=>whnf)
         refine⟨_,⟨y.L,y.i+1,fun k=>if k=t then y.en k+1 else y.en k⟩,?_,⟨rfl,hq,hyl,hyq,k3⟩,?_⟩
         . simp only;omega
         . refine J0c (fun env own=>[(0,some 0),(1,some 1),(2,some 2)]) ?_ ?_ rfl
           . repeat' (first|exact True.intro|(refine⟨⟨_,rfl,?_⟩,?_⟩)|exact J0a.kf rfl|exact J0a.loc rfl|exact J0a.vec rfl rfl rfl)
           . repeat' (first|exact Q2c _ _ _ _ _ (Nat.zero_add _) hj|exact True.intro|(refine⟨⟨_,rfl,?_⟩,?_⟩)|exact J0a.kf rfl|(refine⟨Nat.le_refl _,rfl,fun i j hi hj=>?_⟩)|exact VLe.rfl|(refine And.intro ?_ ?_))
   . have hyi:y.i=(An.srcs s.n s.to (gQ x.L x.i)).length:=by omega
     have hJ':An.OrdJ s.n s.to lg y.L (x.i+1) 0 y.en:=by
      refine An.OrdJ.next ?_ hyl;change An.OrdJ s.n s.to lg y.L x.i (An.srcs s.n s.to (gQ y.L x.i)).length y.en;rw[hyq,<- hyi];exact hJ
     repeat' ((conv=>whnf);first|(refine Br.dec ?_ ?_<;>intro _<;>try omega)|(refine Ar.i64 (by omega) (by omega) ?_))
     all_goals (conv=>whnf)
     refine⟨_,⟨y.L,x.i+1,y.en⟩,?_,⟨rfl,hJ'⟩,?_⟩
     . simp only;omega
     . exact J0k (fun env own=>[(0,some 0),(1,some 1),(2,some 2)])
 . repeat' ((conv=>whnf);first|(refine Br.dec ?_ ?_<;>intro _<;>try omega)|(refine Len.mk (by omega) ?_))
   all_goals (conv=>whnf)
   refine⟨nlV x.L,⟨x.L,?_,rfl⟩,?_⟩
   . have:x.i=x.L.length:=by omega
     rw[this] at hI;exact hI.done rfl
   . exact VLe.fz rfl (fun h=>h) (fun a b ha hb=>VLe.of_eq (by rw[J0v,Nat.zero_add]))
def vBl (b:Nat->Bool):Nat->Nat->V:=fun i _=>.bool (b i)
theorem Q6i (b b':Nat->Bool) (k k':Nat) (x:Bool) (hk:k'=k) (hx:∀i,b' i=if i=k then x else b i) (i j:Nat) (hj:j<1):VLe (J00 (vBl b) k' 0 [.bool x] i j) (vBl b' i j):=by
 obtain rfl:j=0:=by omega
 subst hk;apply VLe.of_eq;rw[vBl,hx];by_cases h:i=k'
 . subst h;simp[J00]
 . simp[J00,vBl,h]
theorem Q91 (i j:Nat) (hj:j<1):VLe ((fun(_ j:Nat)=>[V.bool false].getD j default) i j) (vBl (fun _=>false) i j):=by
 obtain rfl:j=0:=by omega
 exact VLe.rfl
theorem J89 {L:List Nat} {i:Nat} (h:i<L.length) (k:Nat):decide (k∈L.take (i+1))=if k=gQ L i then true else decide (k∈L.take i):=by
 have:L.take (i+1)=L.take i++[gQ L i]:=An.take_next h;rw[this];by_cases e:k=gQ L i
 . rw[if_pos e,e];simp
 . rw[if_neg e];simp[e]
theorem Q1U (s:Tsy) (hs:s.Ok) (lg:Nat->Bool):J0G Tryz.prog 41 [s.v,blV s.n lg] [] KS fun v own' _=>∃L,An.Ord s.n s.to lg L/\v=.tup [.vec 0 1 0 s.n,.int .i64 0]/\own'=[(0,.vec s.n 1 (vBl fun k=>decide (k∈L)))]:=by
 have n1:=hs.n1;have n2:=hs.n2;have hch:=J7A s hs lg;have hor:=Q3Q s hs lg;refine J1u ?_;refine J0d J0b Tryz.func41 rfl hc41 hr41 rfl ?_
 repeat' ((conv=>whnf);first|(refine Br.ff ?_)|(refine Bd.nat (by omega) ?_)|(refine Len.mk (by omega) ?_)|(refine MkS.vec ?_)|(refine hch.go ?_)|(refine hor.go ?_;rintro _ ⟨L,hL,rfl⟩))
 all_goals (conv=>whnf)
 have hLl:L.length<=s.n:=by
  have:=List.Nodup.length_le_of_subset hL.nodup (fun a ha=>List.mem_range.2 (hL.lt a ha));simpa using this
 refine J0u J0b [7,21,22] [] [2,3,4,5,6,7,8,9,10,11,12,13,14,15,16,17,18,19,20,21,22,23,24,25,26,27,28,29] [1,0] (fun i:Nat=>[(23,.int .i64 i)]) (fun own i=>J1l own 1 (.vec s.n 1 (vBl fun k=>decide (k∈L.take i)))) (fun m i=>m=L.length-i/\i<=L.length) L.length 0 ⟨rfl,Nat.zero_le _⟩ rfl (fun _=>rfl) ?_ ?_
 . refine J0c (fun _ _=>[(0,some 0),(1,some 1)]) ?_ ?_ rfl
   . repeat' (first|exact True.intro|(refine⟨⟨_,rfl,?_⟩,?_⟩)|exact J0a.kf rfl|exact J0a.vec rfl rfl rfl)
   . repeat' (first|exact Q91 _ _ hj|exact True.intro|(refine⟨⟨_,rfl,?_⟩,?_⟩)|exact J0a.kf rfl|(refine⟨Nat.le_refl _,rfl,fun i j hi hj=>?_⟩)|(refine And.intro ?_ ?_))
 rintro m q ⟨hm,hq⟩;by_cases hil:q<L.length
 . have hv:gQ L q<s.n:=hL.lt _ (J8x hil)
   repeat' ((conv=>whnf);first|(refine Ix.mk (gQ L q) (by rfl) hv ?_)|(refine Br.dec ?_ ?_<;>intro _<;>try omega)|(refine Ar.i64 (by omega) (by omega) ?_)|(refine Ix.nat (by omega) ?_)|(refine Ltn.mk (by omega) ?_))
   all_goals (conv=>whnf)
   refine⟨L.length-(q+1),q+1,by omega,⟨rfl,by omega⟩,?_⟩;refine J0c (fun _ _=>[(0,some 0),(1,some 1)]) ?_ ?_ rfl
   . repeat' (first|exact True.intro|(refine⟨⟨_,rfl,?_⟩,?_⟩)|exact J0a.kf rfl|exact J0a.vec rfl rfl rfl)
   . repeat' (first|exact Q6i _ _ (gQ L q) _ _ (Nat.zero_add _) (fun k=>J89 hil k) _ _ hj|exact True.intro|(refine⟨⟨_,rfl,?_⟩,?_⟩)|exact J0a.kf rfl|(refine⟨Nat.le_refl _,rfl,fun i j hi hj=>?_⟩)|(refine And.intro ?_ ?_))
 . have ei:L.take q=L:=List.take_of_length_le (by omega);simp only[ei]
   repeat' ((conv=>whnf);first|(refine Br.dec ?_ ?_<;>intro _<;>try omega))
   all_goals (conv=>whnf)
   exact J1A (fun _=>[(0,some 1)]) _ _ ⟨L,hL,rfl,rfl⟩ (J0a.tup ⟨J0a.vec rfl rfl rfl,J0a.kf rfl,True.intro⟩) (by repeat' (first|exact True.intro|(refine⟨⟨_,rfl,?_⟩,?_⟩)|(refine⟨Nat.le_refl _,rfl,fun i j hi hj=>?_⟩)|exact VLe.rfl)) rfl
theorem Q8u (L:List Nat) {q:Nat} {b:Bool} (hb:decide (q∈L)=b) (k:Nat):(if k<q+1 then !decide (k∈L) else decide (k∈L))=if k=q then !b else if k<q then !decide (k∈L) else decide (k∈L):=by
 by_cases h:k=q
 . subst h;rw[if_pos (by omega),if_pos rfl,hb]
 . rw[if_neg h];by_cases h2:k<q
   . rw[if_pos h2,if_pos (by omega)]
   . rw[if_neg h2,if_neg (by omega)]
theorem X5z (s:Tsy) (hs:s.Ok) (lg:Nat->Bool):J8U Tryz.prog 11 [s.v,blV s.n lg] fun v=>∃L,An.Ord s.n s.to lg L/\v=.tup [blV s.n fun k=>!decide (k∈L),.int .i64 0]:=by
 have n1:=hs.n1;have n2:=hs.n2;have hat:=Q1U s hs lg;refine J6a rfl ?_;refine J0d J0b Tryz.func11 rfl hc11 hr11 rfl ?_
 repeat' ((conv=>whnf);first|(refine Br.ff ?_)|(refine J1E [] [0] (hat.mono ?_) ⟨J0a.kf rfl,J0a.kf rfl,True.intro⟩ True.intro rfl;rintro _ _ _ ⟨L,hL,rfl,rfl⟩)|(refine Chk.mk rfl ?_))
 all_goals (conv=>whnf)
 refine J0u J0b [6,19] [] [2,3,4,5,6,7,8,9,10,11,12,13,14,15,16,17,18,19,20,21,22,23,24,25,26,27,28,29] [1,0] (fun q:Nat=>[(20,.int .i64 q)]) (fun own q=>J1l own 1 (.vec s.n 1 (vBl fun k=>if k<q then !decide (k∈L) else decide (k∈L)))) (fun m q=>m=s.n-q/\q<=s.n) s.n 0 ⟨rfl,Nat.zero_le _⟩ rfl (fun _=>rfl) ?_ ?_
 . refine J0c (fun _ _=>[(0,some 0),(1,some 1)]) ?_ ?_ rfl
   . repeat' (first|exact True.intro|(refine⟨⟨_,rfl,?_⟩,?_⟩)|exact J0a.kf rfl|exact J0a.vec rfl rfl rfl)
   . repeat' (first|exact VLe.of_eq (by simp[vBl])|exact True.intro|(refine⟨⟨_,rfl,?_⟩,?_⟩)|exact J0a.kf rfl|(refine⟨Nat.le_refl _,rfl,fun i j hi hj=>?_⟩)|(refine And.intro ?_ ?_))
 rintro m q ⟨hm,hq⟩;by_cases hqn:q<s.n
 . repeat' ((conv=>whnf);first|(refine Br.dec ?_ ?_<;>intro _<;>try omega)|(refine Ar.i64 (by omega) (by omega) ?_)|(refine Ix.nat (by omega) ?_)|(refine Ltn.mk (by omega) ?_)|(refine Br.any (fun _=>?_) (fun _=>?_)))
   all_goals (conv=>whnf)
   all_goals
    rename_i hb;simp only[Nat.zero_add,Nat.lt_irrefl,if_false] at hb;refine⟨s.n-(q+1),q+1,by omega,⟨rfl,by omega⟩,?_⟩;refine J0c (fun _ _=>[(0,some 0),(1,some 1)]) ?_ ?_ rfl
    . repeat' (first|exact True.intro|(refine⟨⟨_,rfl,?_⟩,?_⟩)|exact J0a.kf rfl|exact J0a.vec rfl rfl rfl)
    . repeat' (first|exact Q6i _ _ q _ _ (Nat.zero_add _) (Q8u L hb) _ _ hj|exact True.intro|(refine⟨⟨_,rfl,?_⟩,?_⟩)|exact J0a.kf rfl|(refine⟨Nat.le_refl _,rfl,fun i j hi hj=>?_⟩)|(refine And.intro ?_ ?_))
 . have hq':q=s.n:=by omega
   subst hq'
   repeat' ((conv=>whnf);first|(refine Br.dec ?_ ?_<;>intro _<;>try omega)|(refine Len.mk (by omega) ?_))
   all_goals (conv=>whnf)
   refine⟨_,⟨L,hL,rfl⟩,VLe.tup ⟨VLe.fz rfl (fun h=>h) (fun a b ha hb=>VLe.of_eq ?_),VLe.rfl,True.intro⟩⟩;simp[J0l,vBl,ha]
theorem Q5G (s:Tsy) (hs:s.Ok) (lg:Nat->Bool) (hcl:∀k,k<s.n->lg k=true->∀a∈s.ar k,lg a.2=true):Ret Tryz.prog 12 [s.v,blV s.n lg] (.tup [.bool true,.int .i64 0]):=by
 have n1:=hs.n1;have n2:=hs.n2;have hch:=J7A s hs lg;refine J0h rfl ?_;refine J0d J0b Tryz.func12 rfl hc12 hr12 rfl ?_
 repeat' ((conv=>whnf);first|(refine Br.ff ?_)|(refine hch.go ?_))
 all_goals (conv=>whnf)
 refine J1a J0b [1,18,19] (fun k:Nat=>[(20,.int .i64 k)]) (fun m k=>m=s.n-k/\k<=s.n) s.n 0 ⟨rfl,Nat.zero_le _⟩ ?_ ?_
 . exact J0k (fun _ _=>[(0,some 0)])
 rintro m k ⟨hm,hk⟩;by_cases hkn:k<s.n
 . cases hlg:lg k with
   | false =>
     repeat' ((conv=>whnf);first|(refine Br.mk (fun e=>Bool.noConfusion (e.symm.trans hlg)) (fun _=>?_))|(refine Br.dec ?_ ?_<;>intro _<;>try omega)|(refine Ar.i64 (by omega) (by omega) ?_)|(refine Ix.nat (by omega) ?_))
     all_goals (conv=>whnf)
     refine⟨s.n-(k+1),k+1,by omega,⟨rfl,by omega⟩,?_⟩;exact J0k (fun _ _=>[(0,some 0)])
   | true =>
     have hrow:=hs.row hkn
     repeat' ((conv=>whnf);first|(refine Br.mk (fun _=>?_) (fun e=>Bool.noConfusion (e.symm.trans hlg)))|(refine Br.dec ?_ ?_<;>intro _<;>try omega)|(refine Ix.nat (by omega) ?_))
     all_goals (conv=>whnf)
     refine J1a J0b [1,18,19,20,30,31] (fun i:Nat=>[(32,.int .i64 i)]) (fun m i=>m=(s.ar k).length-i/\i<=(s.ar k).length) (s.ar k).length 0 ⟨rfl,Nat.zero_le _⟩ ?_ ?_
     . exact J0k (fun _ _=>[(0,some 0)])
     rintro m2 i ⟨hm2,hi⟩;by_cases hil:i<(s.ar k).length
     . have hlt:=hcl k hkn hlg _ (J3R hil);obtain⟨a1,a2,a3⟩:=hs.arc k hkn _ (J3R hil)
       repeat' ((conv=>whnf);first|(refine Br.mk (fun _=>?_) (fun e=>Bool.noConfusion (e.symm.trans hlt)))|(refine Br.dec ?_ ?_<;>intro _<;>try omega)|(refine Ar.i64 (by omega) (by omega) ?_)|(refine Ix.nat (by omega) ?_))
       all_goals (conv=>whnf)
       refine⟨(s.ar k).length-(i+1),i+1,by omega,⟨rfl,by omega⟩,?_⟩;exact J0k (fun _ _=>[(0,some 0)])
     . repeat' ((conv=>whnf);first|(refine Br.dec ?_ ?_<;>intro _<;>try omega)|(refine Ar.i64 (by omega) (by omega) ?_))
       all_goals (conv=>whnf)
       refine⟨s.n-(k+1),k+1,by omega,⟨rfl,by omega⟩,?_⟩;exact J0k (fun _ _=>[(0,some 0)])
 . repeat' ((conv=>whnf);first|(refine Br.dec ?_ ?_<;>intro _<;>try omega))
   all_goals (conv=>whnf)
   repeat' (first|exact VLe.rfl)
theorem X4t {n:Nat} {ar:Nat->List Nat} {lg:Nat->Bool} {L:List Nat} (h:An.Ord n ar lg L) (hall:∀k,k<n->k∈L):L.length=n:=by
 have h1:=List.Nodup.length_le_of_subset h.nodup (fun a ha=>List.mem_range.2 (h.lt a ha));have h2:=List.Nodup.length_le_of_subset (List.nodup_range (n:=n)) (fun a ha=>hall a (List.mem_range.1 ha));rw[List.length_range] at h1 h2;omega
theorem Q0d (s:Tsy) (hs:s.Ok) (lg:Nat->Bool) (hall:∀L,An.Ord s.n s.to lg L->∀k,k<s.n->k∈L):J8U Tryz.prog 43 [s.v,blV s.n lg] fun v=>∃L,An.Ord s.n s.to lg L/\L.length=s.n/\v=.tup [nlV L,.int .i64 0]:=by
 have n1:=hs.n1;have n2:=hs.n2;have hch:=J7A s hs lg;have hor:=Q3Q s hs lg;refine J6a rfl ?_;refine J0d J0b Tryz.func43 rfl hc43 hr43 rfl ?_
 repeat' ((conv=>whnf);first|(refine Br.ff ?_)|(refine Br.dec ?_ ?_<;>intro _<;>try omega)|(refine hch.go ?_)|(refine hor.go ?_;rintro _ ⟨L,hL,rfl⟩;have hlen:=X4t hL (hall L hL)))
 all_goals (conv=>whnf)
 exact⟨_,⟨L,hL,hlen,rfl⟩,VLe.tup ⟨VLe.rfl,VLe.rfl,True.intro⟩⟩
theorem Q56 (a b:Nat) (ha:a<4294967296):Ret Tryz.prog 47 [.agg [.int .u32 a,.int .i64 b]] (.int .i64 (cnt a 32)):=by
 have h1:=X7b a ha;refine J0h rfl ?_;refine J0d J0b Tryz.func47 rfl hc47 hr47 rfl ?_
 repeat' ((conv=>whnf);first|(refine h1.go ?_))
 all_goals (conv=>whnf)
 exact VLe.rfl
structure MvI (s:Tsy) (lg:Nat->Bool) (Q:Nat->Nat->Prop) (B:Nat) (r:Nat->Nat):Prop where
 leg:∀k,k<s.n->lg k=true->r k=0
 out:∀k,k<s.n->lg k=false->Q k (r k)
 bnd:∀k,r k<=B
theorem MvI.step {s:Tsy} {lg:Nat->Bool} {Q:Nat->Nat->Prop} (hQ:MQ s lg Q) {B:Nat} {r:Nat->Nat} (h:MvI s lg Q B r) {k:Nat} {a:Nat×Nat} (hk:k<s.n) (hl:lg k=false) (ha:a∈s.ar k) (hto:a.2<s.n) :
 MvI s lg Q (B+32) (fun x=>if x=k then max (r k) (cnt a.1 32+r a.2) else r x):=by
 refine⟨fun x hx hlx=>?_,fun x hx hlx=>?_,fun x=>?_⟩
 . show(if x=k then _ else r x)=0;rw[if_neg (fun e=>by rw[e,hl] at hlx;cases hlx)];exact h.leg x hx hlx
 . show Q x (if x=k then _ else r x);by_cases e:x=k
   . subst e;rw[if_pos rfl];exact hQ.max _ _ _ (h.out x hx hlx) (hQ.step x a _ hx hlx ha (fun q=>h.out _ hto q) (fun q=>h.leg _ hto q))
   . rw[if_neg e];exact h.out x hx hlx
 . show(if x=k then _ else r x)<=_;have h1:=h.bnd k;have h2:=h.bnd a.2;have h3:=h.bnd x;have h4:=J4p a.1 32;split<;>omega
theorem MvI.mono {s:Tsy} {lg:Nat->Bool} {Q:Nat->Nat->Prop} {B B':Nat} {r:Nat->Nat} (h:MvI s lg Q B r) (hB:B<=B'):MvI s lg Q B' r:=⟨h.leg,h.out,fun k=>Nat.le_trans (h.bnd k) hB⟩
theorem Q6h (r r':Nat->Nat) (k k':Nat) (x:Int) (hk:k'=k) (hx:∀i,(r' i:Int)=if i=k then x else r i) (i j:Nat) (hj:j<1):VLe (J00 (vEt r) k' 0 [.int .i64 x] i j) (vEt r' i j):=by
 obtain rfl:j=0:=by omega
 subst hk;apply VLe.of_eq;rw[vEt,hx];by_cases h:i=k'
 . subst h;simp[J00]
 . simp[J00,vEt,h]
theorem X7m (r:Nat->Nat) (k t c i:Nat):((if i=k then max (r k) (c+r t) else r i:Nat):Int)=if i=k then (if (c:Int)+(r (0+t):Nat) > (r (0+k):Nat) then (c:Int)+(r (0+t):Nat) else (r (0+k):Nat)) else (r i:Nat):=by
 rw[Nat.zero_add,Nat.zero_add];by_cases h:i=k
 . rw[if_pos h,if_pos h];split<;>omega
 . rw[if_neg h,if_neg h]
set_option maxHeartbeats 8000000 in
theorem X0N (s:Tsy) (hs:s.Ok) (lg:Nat->Bool) (hall:∀L,An.Ord s.n s.to lg L->∀k,k<s.n->k∈L) (Q:Nat->Nat->Prop) (hQ:MQ s lg Q) :
 J8U Tryz.prog 14 [s.v,blV s.n lg] fun v=>∃r:Nat->Nat,(∀k,k<s.n->lg k=true->r k=0)/\(∀k,k<s.n->lg k=false->Q k (r k))/\v=.tup [inV s.n r,.int .i64 0]:=by
 have n1:=hs.n1;have n2:=hs.n2;have hwo:=Q0d s hs lg hall;refine J6a rfl ?_;refine J0d J0b Tryz.func14 rfl hc14 hr14 rfl ?_
 repeat' ((conv=>whnf);first|(refine Br.ff ?_)|(refine Bd.nat (by omega) ?_)|(refine Len.mk (by omega) ?_)|(refine MkS.vec ?_)|(refine J0d J0b Tryz.func46 rfl hc46 hr46 rfl ?_)|(refine hwo.go ?_;rintro _ ⟨L,hL,hLn,rfl⟩))
 all_goals (conv=>whnf)
 refine J0u J0b [1,2,3,10,27,28] [] [3,4,5,6,7,8,9,10,11,12,13,14,15,16,17,18,19,20,21,22,23,24,25,26,27,28,29] [2,1,0] (fun x:Nat×(Nat->Nat)=>[(29,.int .i64 x.1)]) (fun own x=>J1l own 2 (.vec s.n 1 (vEt x.2))) (fun m x=>m=s.n-x.1/\x.1<=s.n/\MvI s lg Q (32*(x.1*262145)) x.2) s.n (0,fun _=>0) ⟨rfl,Nat.zero_le _,fun _ _ _=>rfl,fun k hk hl=>hQ.zero k hk hl,fun _=>Nat.zero_le _⟩ rfl (fun _=>rfl) ?_ ?_
 . refine J0c (fun _ _=>[(0,some 0),(1,some 1),(2,some 2)]) ?_ ?_ rfl
   . repeat' (first|exact True.intro|(refine J0a.fn ?_)|(refine⟨⟨_,rfl,?_⟩,?_⟩)|exact J0a.kf rfl|exact J0a.loc rfl|exact J0a.vec rfl rfl rfl)
   . repeat' (first|exact J81 _ _ hj|exact True.intro|(refine⟨⟨_,rfl,?_⟩,?_⟩)|exact J0a.kf rfl|(refine⟨Nat.le_refl _,rfl,fun i j hi hj=>?_⟩)|(refine And.intro ?_ ?_))
 rintro m x ⟨hm,hx,hI⟩;by_cases hxn:x.1<s.n
 . have hv:gQ L x.1<s.n:=hL.lt _ (J8x (by omega));cases hlg:lg (gQ L x.1) with
   | true =>
     repeat' ((conv=>whnf);first|(refine Ix.mk (gQ L x.1) (by rfl) hv ?_)|(refine Br.mk (fun _=>?_) (fun e=>Bool.noConfusion (e.symm.trans hlg)))|(refine Br.dec ?_ ?_<;>intro _<;>try omega)|(refine Ar.i64 (by omega) (by omega) ?_)|(refine Ix.nat (by omega) ?_))
     all_goals (conv=>whnf)
     refine⟨_,(x.1+1,x.2),?_,⟨rfl,hxn,hI.mono (by simp only;omega)⟩,?_⟩
     . simp only;omega
     . exact J0k (fun env own=>[(0,some 0),(1,some 1),(2,some 2)])
   | false =>
     have hrow:=hs.row hv
     repeat' ((conv=>whnf);first|(refine Ix.mk (gQ L x.1) (by rfl) hv ?_)|(refine Br.mk (fun e=>Bool.noConfusion (e.symm.trans hlg)) (fun _=>?_))|(refine Br.dec ?_ ?_<;>intro _<;>try omega)|(refine Ix.nat (by omega) ?_))
     all_goals (conv=>whnf)
     refine J0u J0b [1,2,3,10,12,27,28,29,41,42] [] [3,4,5,6,7,8,9,10,11,12,13,14,15,16,17,18,19,20,21,22,23,24,25,26,27,28,29] [2,1,0] (fun y:Nat×(Nat->Nat)=>[(43,.int .i64 y.1)]) (fun own y=>J1l own 2 (.vec s.n 1 (vEt y.2))) (fun m y=>m=(s.ar (gQ L x.1)).length-y.1/\y.1<=(s.ar (gQ L x.1)).length/\MvI s lg Q (32*(x.1*262145+y.1)) y.2) (s.ar (gQ L x.1)).length (0,x.2) ⟨rfl,Nat.zero_le _,hI.mono (by omega)⟩ rfl (fun _=>rfl) ?_ ?_
     . exact J0k (fun env own=>[(0,some 0),(1,some 1),(2,some 2)])
     rintro m2 y ⟨hm2,hy,hJ⟩;by_cases hyl:y.1<(s.ar (gQ L x.1)).length
     . obtain⟨a1,a2,a3⟩:=hs.arc _ hv _ (J3R hyl);have hen:=hs.en _ hv;have ha32:=a2.le;have hmv:=Q56 (gA (s.ar (gQ L x.1)) y.1).1 (gA (s.ar (gQ L x.1)) y.1).2 (by omega);have hst:=hJ.step hQ hv hlg (J3R hyl) a3;have hc32:=J4p (gA (s.ar (gQ L x.1)) y.1).1 32;have hb1:=hJ.bnd (0+(gA (s.ar (gQ L x.1)) y.1).2);have hb2:x.1*262145<=32768*262145:=Nat.mul_le_mul_right _ (by omega)
       repeat' ((conv=>whnf);first|(refine Ix.mk (gQ L x.1) (by rfl) hv ?_)|(refine Br.dec ?_ ?_<;>intro _<;>try omega)|(refine Ar.i64 (by omega) (by omega) ?_)|(refine Sv.mk _ rfl ?_)|(refine Ix.nat (by omega) ?_)|(refine Ltn.mk (by omega) ?_)|(refine Chk.mk (by kernel_rfl) ?_)|(refine hmv.go ?_)|(refine And.intro rfl ?_)|(refine And.intro (Ltn.mk (by omega) rfl) ?_))
       all_goals (conv=>whnf)
       refine⟨_,(y.1+1,fun z=>if z=gQ L x.1 then max (y.2 (gQ L x.1)) (cnt (gA (s.ar (gQ L x.1)) y.1).1 32+y.2 (gA (s.ar (gQ L x.1)) y.1).2) else y.2 z),?_,⟨rfl,hyl,hst.mono (by simp only;omega)⟩,?_⟩
       . simp only;omega
       . refine J0c (fun env own=>[(0,some 0),(1,some 1),(2,some 2)]) ?_ ?_ rfl
         . repeat' (first|exact True.intro|(refine J0a.fn ?_)|(refine⟨⟨_,rfl,?_⟩,?_⟩)|exact J0a.kf rfl|exact J0a.loc rfl|exact J0a.vec rfl rfl rfl)
         . repeat' (first|exact Q6h _ _ _ _ _ (Nat.zero_add _) (fun z=>X7m y.2 _ _ _ z) _ _ hj|exact True.intro|(refine⟨⟨_,rfl,?_⟩,?_⟩)|exact J0a.kf rfl|(refine⟨Nat.le_refl _,rfl,fun i j hi hj=>?_⟩)|(refine And.intro ?_ ?_))
     . repeat' ((conv=>whnf);first|(refine Br.dec ?_ ?_<;>intro _<;>try omega)|(refine Ar.i64 (by omega) (by omega) ?_))
       all_goals (conv=>whnf)
       refine⟨_,(x.1+1,y.2),?_,⟨rfl,hxn,hJ.mono (by simp only;omega)⟩,?_⟩
       . simp only;omega
       . exact J0k (fun env own=>[(0,some 0),(1,some 1),(2,some 2)])
 . repeat' ((conv=>whnf);first|(refine Br.dec ?_ ?_<;>intro _<;>try omega)|(refine Len.mk (by omega) ?_))
   all_goals (conv=>whnf)
   exact⟨_,⟨x.2,hI.leg,hI.out,rfl⟩,VLe.tup ⟨VLe.fz rfl (fun h=>h) (fun a b ha hb=>VLe.of_eq (by rw[J0v,Nat.zero_add];rfl)),VLe.rfl,True.intro⟩⟩
end Go.Proofs.YtmifmchinfhbnaaGreatDoor
namespace Go.Eng
open Go.Plain
set_option linter.unusedVariables false
def vW4 (l:List Nat):Nat->Nat->V:=fun i _=>.int .u32 (gQ l i)
def Q2p (F:Nat->List Nat):Nat->Nat->Nat->V:=fun t=>vW4 (F t)
theorem Q6e (l:List Nat) (a:Nat) (F:Nat->Nat->V) (x:Int) (hF:F 0 0=.int .u32 x) (hx:x=a) (n i j:Nat) (hn:n=l.length) (hi:i<l.length+1) (hj:j<1):VLe (J43 (J0l 0 (vW4 l)) n (J0l 0 F) i j) (vW4 (l++[a]) i j):=by
 obtain rfl:j=0:=by omega
 subst hn;apply VLe.of_eq;rw[vW4,Q2H];by_cases h:i<l.length
 . rw[J1I h,J0v,Nat.zero_add,if_pos h];rfl
 . rw[J1J h,if_neg h];have:i=l.length:=by omega
   subst this;simp[J0l,hF,hx]
theorem Q8y {F F':Nat->List Nat} {t x n:Nat} (hF:F'=Q27 F t x) {g:Nat->Nat->V} (hg:∀j u,j<(F t).length+1->u<1->VLe (g j u) (vW4 (F t++[x]) j u)) (ρ:Rn) :
 X3x ρ (.fam n 1 (J2K (J61 F) t ((F t).length+1)) (J3j (Q2p F) t g) []) (.fam n 1 (J61 F') (Q2p F') []):=by
 subst hF;refine⟨rfl,rfl,True.intro,fun i hi=>?_,fun i j u hi hn hj hu=>?_⟩
 . rw[J9z];rfl
 . simp only[J3j,Q2p,Q27];simp only[J2K] at hj;by_cases e:i=t
   . rw[if_pos e,if_pos e];rw[if_pos e] at hj;rw[e];exact hg j u hj hu
   . rw[if_neg e,if_neg e];exact VLe.rfl
def X6o (lg:Nat->Bool) (L:List (Nat×Nat)) (p:Nat×Nat):List (Nat×Nat):=if lg p.1=false/\p∉L then L++[p] else L
theorem J4j.add {s:Tsy} {lg:Nat->Bool} {m:Nat} {L:List (Nat×Nat)} (h:J4j s lg m L) {p:Nat×Nat} (hp:p.1<s.n/\p.2<m):J4j s lg m (X6o lg L p):=by
 rw[X6o];split
 . rename_i q;exact h.snoc hp q.1 q.2
 . exact h
theorem Q0Z {L:List (Nat×Nat)} {p:Nat×Nat} {A:V->Prop} {B:Prop} (h1:p∈L->A (.bool true)) (h2:p∉L->B):X2g (J09 (enQ L) (kyP p)) A B:=by
 rw[X1j];by_cases h:p∈L
 . rw[if_pos h];exact⟨fun v hv=>(by cases hv;exact h1 h),fun hn=>(by cases hn)⟩
 . rw[if_neg h];exact⟨fun v hv=>(by cases hv),fun _=>h2 h⟩
theorem X2e {lg:Nat->Bool} {L:List (Nat×Nat)} {p:Nat×Nat} (h:lg p.1=true):X6o lg L p=L:=if_neg (fun q=>by rw[h] at q;exact Bool.noConfusion q.1)
theorem Q4U {lg:Nat->Bool} {L:List (Nat×Nat)} {p:Nat×Nat} (h1:lg p.1=false) (h:p∉L):X6o lg L p=L++[p]:=if_pos ⟨h1,h⟩
structure MpI (s:Tsy) (lg:Nat->Bool) (Q:Nat->Nat->Nat->Prop) (B:Nat) (es:List (KyT (.st KP)×V)):Prop where
 get:∀(p:Nat×Nat) (v:V),p.1<s.n->lg p.1=false->J09 es (kyP p)=some v->∃r:Nat,v=.int .i64 r/\Q p.1 p.2 r/\r<=B
theorem MpI.nil (s:Tsy) (lg:Nat->Bool) (Q:Nat->Nat->Nat->Prop) (B:Nat):MpI s lg Q B []:=⟨fun p v _ _ h=>by simp[J09] at h⟩
theorem MpI.mono {s:Tsy} {lg:Nat->Bool} {Q:Nat->Nat->Nat->Prop} {B B':Nat} {es:List (KyT (.st KP)×V)} (h:MpI s lg Q B es) (hB:B<=B'):MpI s lg Q B' es:=⟨fun p v h1 h2 h3=>by
 obtain⟨r,a,b,c⟩:=h.get p v h1 h2 h3;exact⟨r,a,b,Nat.le_trans c hB⟩⟩
theorem MpI.mget {s:Tsy} {lg:Nat->Bool} {Q:Nat->Nat->Nat->Prop} (hQ:RQ s lg Q) {B:Nat} {es:List (KyT (.st KP)×V)} (h:MpI s lg Q B es) {p:Nat×Nat} (h1:p.1<s.n) (h2:lg p.1=false) {A:V->Prop}
 (hA:∀r:Nat,Q p.1 p.2 r->r<=B->A (.int .i64 r)):X2g (J09 es (kyP p)) A (A (.int .i64 0)):=by
 refine⟨fun v hv=>?_,fun hn=>?_⟩
 . obtain⟨r,rfl,b,c⟩:=h.get p v h1 h2 hv;exact hA r b c
 . exact hA 0 (hQ.zero _ _ h1 h2) (Nat.zero_le _)
theorem MpI.put {s:Tsy} {lg:Nat->Bool} {Q:Nat->Nat->Nat->Prop} {B:Nat} {es:List (KyT (.st KP)×V)} (h:MpI s lg Q B es) {p:Nat×Nat} {r:Nat} (hr:Q p.1 p.2 r) (hB:r<=B+1):MpI s lg Q (B+1) (mput es (kyP p) (.int .i64 r)):=⟨fun q v h1 h2 h3=>by
 rw[Q01] at h3;split at h3
 . rename_i e;have e:=Q2C e;subst e;cases h3;exact⟨r,rfl,hr,hB⟩
 . obtain⟨r',a,b,c⟩:=h.get q v h1 h2 h3;exact⟨r',a,b,by omega⟩⟩
end Go.Eng
namespace Go.Proofs.YtmifmchinfhbnaaGreatDoor
open Go.Eng Go.Plain
set_option maxRecDepth 100000
set_option linter.unusedVariables false
theorem Q0h (s:Tsy) (hs:s.Ok) (k pd:Nat) (hp:pd<4294967296) (a:Nat×Nat) (ha:a.1<4294967296) (ht:a.2<s.n) :
 Ret Tryz.prog 45 [s.v,.agg [.int .i64 k,.int .u32 pd],.agg [.int .u32 a.1,.int .i64 a.2]] (.tup [.agg [.int .i64 a.2,.int .u32 (s.aft pd a).1],.bool (s.aft pd a).2]):=by
 have hen:=hs.en _ ht;have n2:=hs.n2;have hd:=J5z hp ha;have hnd:J04 pd a.1<4294967296:=Nat.lt_of_le_of_lt Nat.and_le_left hp;have hb:=J2j hnd (show s.en a.2<4294967296 by omega);refine J0h rfl ?_;refine J0d J0b Tryz.func45 rfl hc45 hr45 rfl ?_
 repeat' ((conv=>whnf);first|(refine Sv.mk _ hd.symm ?_)|(refine Sv.mk _ hb.symm ?_)|(refine Br.dec ?_ ?_<;>intro _<;>try omega)|(refine Ix.nat (by omega) ?_))
 all_goals (conv=>whnf)
 . rename_i h;have h:J04 pd a.1 &&& s.en a.2=0:=by omega
   rw[Tsy.aft,if_pos h];exact VLe.rfl
 . rename_i h;have h:¬ J04 pd a.1 &&& s.en a.2=0:=by omega
   rw[Tsy.aft,if_neg h];exact VLe.rfl
structure Y2l where
 L:List (Nat×Nat)
 i:Nat
 F:Nat->List Nat
structure RchI (s:Tsy) (lg:Nat->Bool) (m:Nat) (x:Y2l):Prop where
 pr:J4j s lg m x.L
 le:x.i<=x.L.length
 row:∀t,J61 x.F t<=x.i
 val:∀t,∀a∈x.F t,a<m/\lg t=false
noncomputable def X4s (s:Tsy) (lg:Nat->Bool) (L:List (Nat×Nat)):Own:=[(5,.vec L.length 2 (vPr L)),(4,.cells [.vec 5 2 0 L.length]),(3,.cells [.map 2]),(2,.map (.st KP) (enQ L)),(1,.cells [blV s.n lg]),(0,.cells [.fz s.n 1 false (vEn s),.fz s.n 1 false (X8t s)])]
noncomputable def X4r (s:Tsy) (lg:Nat->Bool) (x:Y2l):Own:=(6,.fam s.n 1 (J61 x.F) (Q2p x.F) [])::X4s s lg x.L
set_option maxHeartbeats 8000000 in
theorem X0A (s:Tsy) (hs:s.Ok) (lg:Nat->Bool) (m0:Nat) (hm0:∀k,k<s.n->s.en k<m0) (hnm:s.n*m0<=262144) :
 J8U Tryz.prog 44 [s.v,blV s.n lg] fun v=>∃F:Nat->List Nat,(∀k,(F k).length<=262144)/\(∀k,∀a∈F k,a<262144/\lg k=false)/\v=.tup [.fz s.n 1 false fun k _=>uV (F k),.int .i64 0]:=by
 have n1:=hs.n1;have hm1:m0<=262144:=Nat.le_trans (Nat.le_mul_of_pos_left m0 n1) hnm;have n2:=hs.n2;refine Q0K rfl ?_;refine J0d J0b Tryz.func44 rfl hc44 hr44 rfl ?_
 repeat' ((conv=>whnf);first|fail)
 all_goals (conv=>whnf)
 refine J1M J0b [2,3,7,8,21,22] [5] [6,7,8,9,10,11,12,13,14,15,16,17,18,19,20,21,22,23,24,25,26,27,28,29,30,31,32,33,34,35,36,37,38,39] [5,4,3,2,1,0] (fun x:Nat×List (Nat×Nat)=>[(23,.int .i64 x.1)]) (fun x=>X4s s lg x.2) (fun m x=>m=s.n-x.1/\x.1<=s.n/\J4j s lg m0 x.2) s.n (0,[]) ⟨rfl,Nat.zero_le _,J4j.nil s lg m0⟩ rfl (fun _=>rfl) ?_ ?_
 . have he:=X5n;refine J0c (fun _ _=>[(0,some 0),(1,some 1),(2,some 2),(3,some 3),(4,some 4),(5,none)]) ?_ ?_ rfl
   . repeat' (first|exact True.intro|(refine J0a.fn ?_)|(refine⟨⟨_,rfl,?_⟩,?_⟩)|exact J0a.kf rfl|exact J0a.loc rfl|(refine And.intro ?_ ?_))
   . repeat' (first|exact⟨rfl,he⟩|exact True.intro|exact J0a.map rfl|(refine⟨⟨_,rfl,?_⟩,?_⟩)|exact J0a.kf rfl|exact J0a.nil rfl rfl|(refine⟨⟨_,_,rfl⟩,?_⟩)|(refine And.intro ?_ ?_))
 rintro m x ⟨hm,hx,hP⟩;have hPl:=hP.len;by_cases hxn:x.1<s.n
 . have hadd:J4j s lg m0 (X6o lg x.2 (x.1,s.en x.1)):=hP.add ⟨hxn,hm0 _ hxn⟩;cases hlg:lg x.1 with
   | true =>
     have he:=X2e (lg:=lg) (L:=x.2) (p:=(x.1,s.en x.1)) hlg
     repeat' ((conv=>whnf);first|(refine Br.mk (fun _=>?_) (fun e=>Bool.noConfusion (e.symm.trans hlg)))|(refine Br.dec ?_ ?_<;>intro _<;>try omega)|(refine Ar.i64 (by omega) (by omega) ?_)|(refine Ix.nat (by omega) ?_)|(refine J0d J0b Tryz.func74 rfl X8B X8A rfl ?_)|(refine Chk.mk (by kernel_rfl) ?_))
     all_goals (conv=>whnf)
     refine⟨_,(x.1+1,x.2),?_,⟨rfl,hxn,hP⟩,?_⟩
     . simp only;omega
     . refine J0c (fun _ _=>[(0,some 0),(1,some 1),(2,some 2),(3,some 3),(4,some 4),(5,some 5)]) ?_ ?_ rfl
       . repeat' (first|exact True.intro|(refine J0a.fn ?_)|(refine⟨⟨_,rfl,?_⟩,?_⟩)|exact J0a.kf rfl|exact J0a.loc rfl|(refine And.intro ?_ ?_))
       . repeat' (first|exact⟨rfl,rfl⟩|exact True.intro|exact J0a.map rfl|(refine⟨⟨_,rfl,?_⟩,?_⟩)|exact J0a.kf rfl|exact J0a.vec rfl rfl rfl|(refine⟨Nat.le_refl _,rfl,fun i j hi hj=>?_⟩)|exact VLe.rfl|(refine And.intro ?_ ?_))
   | false =>
     repeat' ((conv=>whnf);first|(refine Br.mk (fun e=>Bool.noConfusion (e.symm.trans hlg)) (fun _=>?_))|(refine Br.dec ?_ ?_<;>intro _<;>try omega)|(refine Br.nbeq ?_ ?_<;>intro _<;>try omega)|(refine Ar.i64 (by omega) (by omega) ?_)|(refine Ix.nat (by omega) ?_)|(refine Len.mk (by omega) ?_)|(refine J0d J0b Tryz.func74 rfl X8B X8A rfl ?_)|(refine Chk.mk (by kernel_rfl) ?_)|(refine Q0Z (p:=(x.1,s.en x.1)) (fun hin=>?_) (fun hout=>?_)))
     all_goals (conv=>whnf)
     . refine⟨_,(x.1+1,x.2),?_,⟨rfl,hxn,hP⟩,?_⟩
       . simp only;omega
       . refine J0c (fun _ _=>[(0,some 0),(1,some 1),(2,some 2),(3,some 3),(4,some 4),(5,some 5)]) ?_ ?_ rfl
         . repeat' (first|exact True.intro|(refine J0a.fn ?_)|(refine⟨⟨_,rfl,?_⟩,?_⟩)|exact J0a.kf rfl|exact J0a.loc rfl|(refine And.intro ?_ ?_))
         . repeat' (first|exact⟨rfl,rfl⟩|exact True.intro|exact J0a.map rfl|(refine⟨⟨_,rfl,?_⟩,?_⟩)|exact J0a.kf rfl|exact J0a.vec rfl rfl rfl|(refine⟨Nat.le_refl _,rfl,fun i j hi hj=>?_⟩)|exact VLe.rfl|(refine And.intro ?_ ?_))
     . rw[Q4U hlg hout] at hadd;have hpe:=Q7a hout;refine⟨_,(x.1+1,x.2++[(x.1,s.en x.1)]),?_,⟨rfl,hxn,hadd⟩,?_⟩
       . simp only;omega
       . refine J0c (fun env own=>[(0,some 0),(1,some 1),(2,some 2),(3,some 3),(4,some 4),(5,Q2V own 4 0)]) ?_ ?_ rfl
         . repeat' (first|exact True.intro|(refine J0a.fn ?_)|(refine⟨⟨_,rfl,?_⟩,?_⟩)|exact J0a.kf rfl|exact J0a.loc rfl|(refine And.intro ?_ ?_))
         . repeat' (first|exact⟨rfl,hpe.symm⟩|exact J0a.vec rfl rfl (by simp only[List.length_append,List.length_singleton])|(refine⟨by simp only[List.length_append,List.length_singleton];omega,rfl,fun i j hi hj=>?_⟩)|exact Q3n _ _ _ rfl rfl _ _ _ rfl (by simpa using hi) hj|exact True.intro|exact J0a.map rfl|(refine⟨⟨_,rfl,?_⟩,?_⟩)|exact J0a.kf rfl|(refine And.intro ?_ ?_))
 have hx':x.1=s.n:=by omega
 repeat' ((conv=>whnf);first|(refine Br.dec ?_ ?_<;>intro _<;>try omega)|(refine Bd.nat (by omega) ?_)|(refine Len.mk (by omega) ?_)|(refine MkS.vec ?_))
 all_goals (conv=>whnf)
 generalize x.2=L0 at *;clear hx' hx hm;refine J1M J0b [2,7,8,11] [5,7] [8,9,10,11,12,13,14,15,16,17,18,19,20,21,22,23,24,25,26,27,28,29,30,31,32,33,34,35,36,37,38,39] [7,6,5,4,3,2,1,0] (fun x:Y2l=>[(12,.int .i64 x.i)]) (fun x=>(7,.vec (if x.i<x.L.length then J61 x.F (gP x.L x.i).1 else 0) 1 (Q2p x.F (gP x.L x.i).1))::J1l (X4r s lg x) 6 (.fam s.n 1 (J61 x.F) (Q2p x.F) (Q3R (decide (x.i<x.L.length)) (gP x.L x.i).1 7))) (fun m x=>m=s.n*m0-x.i/\RchI s lg m0 x) (s.n*m0) ⟨L0,0,fun _=>[]⟩ ⟨rfl,hP,Nat.zero_le _,fun _=>Nat.zero_le _,fun _ a h=>(by cases h)⟩ rfl (fun _=>rfl) ?_ ?_
 . by_cases h1:0<L0.length
   . have b3:=(hP.ok _ (Q4k h1)).1;simp only[decide_eq_true h1,Q3R,if_true,if_pos h1];refine J3c.trans ?_ (J0V (own:=X4r s lg ⟨L0,0,fun _=>[]⟩) (ks:=[7,8,9,10,11,12,13,14,15,16,17,18,19,20,21,22,23,24,25,26,27,28,29,30,31,32,33,34,35,36,37,38,39]) rfl rfl rfl b3 rfl) (ksC rfl);refine J0c (fun _ _=>[(0,some 0),(1,some 1),(2,some 2),(3,some 3),(4,some 4),(5,some 5),(6,some 6)]) ?_ ?_ rfl
     . repeat' (first|exact True.intro|(refine J0a.fn ?_)|(refine⟨⟨_,rfl,?_⟩,?_⟩)|exact J0a.kf rfl|exact J0a.loc rfl|exact J0a.vec rfl rfl rfl|(refine And.intro ?_ ?_))
     . repeat' (first|exact⟨rfl,rfl,rfl,fun i hi=>⟨rfl,rfl⟩⟩|exact⟨rfl,rfl⟩|exact True.intro|exact J0a.map rfl|(refine⟨⟨_,rfl,?_⟩,?_⟩)|exact J0a.kf rfl|exact J0a.vec rfl rfl rfl|(refine⟨Nat.le_refl _,rfl,fun i j hi hj=>?_⟩)|exact VLe.rfl|(refine And.intro ?_ ?_))
   . simp only[decide_eq_false h1,Q3R,Bool.false_eq_true,if_false,if_neg h1];refine J0c (fun _ _=>[(0,some 0),(1,some 1),(2,some 2),(3,some 3),(4,some 4),(5,some 5),(6,some 6),(7,none)]) ?_ ?_ rfl
     . repeat' (first|exact True.intro|(refine J0a.fn ?_)|(refine⟨⟨_,rfl,?_⟩,?_⟩)|exact J0a.kf rfl|exact J0a.loc rfl|exact J0a.vec rfl rfl rfl|(refine And.intro ?_ ?_))
     . repeat' (first|exact⟨rfl,rfl,rfl,fun i hi=>⟨rfl,rfl⟩⟩|exact⟨rfl,rfl⟩|exact True.intro|exact J0a.map rfl|(refine⟨⟨_,rfl,?_⟩,?_⟩)|exact J0a.kf rfl|exact J0a.vec rfl rfl rfl|(refine⟨Nat.le_refl _,rfl,fun i j hi hj=>?_⟩)|exact VLe.rfl|(refine⟨⟨_,_,rfl⟩,?_⟩)|(refine And.intro ?_ ?_))
 rintro m x ⟨hm,hI⟩;have hIl:=hI.pr.len;have hle:=hI.le;by_cases hil:x.i<x.L.length
 . have hp:=hI.pr.ok _ (Q4k hil);have hpl:=hI.pr.leg _ (Q4k hil);have hrw:=hI.row (gP x.L x.i).1;have hrow:=hs.row hp.1;have hen:=hm0 _ hp.1;have hl0:gP x.L (0+x.i)=gP x.L x.i:=by rw[Nat.zero_add]
   generalize hpp:gP x.L x.i=p at *;simp only[decide_eq_true hil,Q3R,if_true,if_pos hil]
   repeat' ((conv=>whnf);first|(refine Ix.mk p.1 (by rw[hl0]) hp.1 ?_)|(refine Br.dec ?_ ?_<;>intro _<;>try omega)|(refine Br.nbeq ?_ ?_<;>intro _<;>try omega)|(refine Ix.nat (by omega) ?_)|(refine Len.mk (by omega) ?_)|(refine Ltn.mk (by omega) ?_)|(refine Opn.hd (by omega) ?_)|(refine J11.hd (by omega) ?_)|(refine And.intro rfl ?_))
   all_goals (conv=>whnf)
   refine J1M J0b [2,7,8,11,12,13,68,69] [5] [11,12,13,14,15,16,17,18,19,20,21,22,23,24,25,26,27,28,29,30,31,32,33,34,35,36,37,38,39] [8,6,5,4,3,2,1,0] (fun y:Nat×List (Nat×Nat)=>[(70,.int .i64 y.1)]) (fun y=>(8,.cells [.int .i64 p.1,.int .u32 p.2])::(6,.fam s.n 1 (J61 (Q27 x.F p.1 p.2)) (Q2p (Q27 x.F p.1 p.2)) [])::X4s s lg y.2) (fun m y=>m=(s.ar p.1).length-y.1/\y.1<=(s.ar p.1).length/\J4j s lg m0 y.2/\x.i<y.2.length) (s.ar p.1).length (0,x.L) ⟨rfl,Nat.zero_le _,hI.pr,hil⟩ rfl (fun _=>rfl) ?_ ?_
   . refine J3c.trans (J1R (J1h (q:=10) (k:=6) (i:=p.1) [] rfl rfl hp.1 (J0n rfl) (Nat.le_of_eq (if_pos rfl)) rfl (fun j hj=>(J0j (fun e=>hj e.symm)).symm))) ?_ (ksS rfl);refine J0c (fun _ _=>[(0,some 0),(1,some 1),(2,some 2),(3,some 3),(4,some 4),(5,some 5),(6,some 6),(8,some 8)]) ?_ ?_ rfl
     . repeat' (first|exact True.intro|(refine J0a.fn ?_)|(refine⟨⟨_,rfl,?_⟩,?_⟩)|exact J0a.kf rfl|exact J0a.loc rfl|exact J0a.vec rfl rfl rfl|(refine And.intro ?_ ?_))
     . repeat' (first|exact Q8y rfl (fun j u hj hu=>Q6e _ _ _ _ rfl (by rw[hl0]) _ _ _ rfl hj hu) _|exact J0a.int (by rw[hl0])|exact⟨rfl,rfl⟩|exact True.intro|exact J0a.map rfl|(refine⟨⟨_,rfl,?_⟩,?_⟩)|exact J0a.kf rfl|exact J0a.vec rfl rfl rfl|(refine⟨Nat.le_refl _,rfl,fun i j hi hj=>?_⟩)|exact VLe.rfl|(refine And.intro ?_ ?_))
   rintro m2 y ⟨hm2,hy,hP2,hyl⟩;have hP2l:=hP2.len;by_cases hyn:y.1<(s.ar p.1).length
   . obtain⟨a1,a2,a3⟩:=hs.arc _ hp.1 _ (J3R hyn);have ha32:=a2.le;have hen2:=hs.en _ hp.1;have haf:=s.aft_le p.2 (gA (s.ar p.1) y.1);have haf2:=hm0 _ a3;have hwa:=Q0h s hs p.1 p.2 (by omega) (gA (s.ar p.1) y.1) (by omega) a3;have hadd:J4j s lg m0 (X6o lg y.2 ((gA (s.ar p.1) y.1).2,(s.aft p.2 (gA (s.ar p.1) y.1)).1)):=hP2.add ⟨a3,by simp only;omega⟩;obtain⟨b,hb⟩:∃b,(s.aft p.2 (gA (s.ar p.1) y.1)).2=b:=⟨_,rfl⟩;rw[hb] at hwa;cases b
     all_goals
      cases hlg:lg (gA (s.ar p.1) y.1).2 with
      | true =>
        repeat' ((conv=>whnf);first|(refine Br.mk (fun _=>?_) (fun e=>Bool.noConfusion (e.symm.trans hlg)))|(refine Br.tt ?_)|(refine Br.ff ?_)|(refine Br.dec ?_ ?_<;>intro _<;>try omega)|(refine Ar.i64 (by omega) (by omega) ?_)|(refine Ix.nat (by omega) ?_)|(refine hwa.go ?_)|(refine J0d J0b Tryz.func74 rfl X8B X8A rfl ?_)|(refine Chk.mk (by kernel_rfl) ?_))
        all_goals (conv=>whnf)
        refine⟨_,(y.1+1,y.2),?_,⟨rfl,hyn,hP2,hyl⟩,?_⟩
        . simp only;omega
        . refine J0c (fun _ _=>[(0,some 0),(1,some 1),(2,some 2),(3,some 3),(4,some 4),(5,some 5),(6,some 6),(8,some 8)]) ?_ ?_ rfl
          . repeat' (first|exact True.intro|(refine J0a.fn ?_)|(refine⟨⟨_,rfl,?_⟩,?_⟩)|exact J0a.kf rfl|exact J0a.loc rfl|exact J0a.vec rfl rfl rfl|(refine And.intro ?_ ?_))
          . repeat' (first|exact⟨rfl,rfl⟩|exact⟨rfl,rfl,True.intro,fun i hi=>rfl,fun i j t hi hn hj ht=>VLe.rfl⟩|exact True.intro|exact J0a.map rfl|(refine⟨⟨_,rfl,?_⟩,?_⟩)|exact J0a.kf rfl|exact J0a.vec rfl rfl rfl|(refine⟨Nat.le_refl _,rfl,fun i j hi hj=>?_⟩)|exact VLe.rfl|(refine And.intro ?_ ?_))
      | false =>
        repeat' ((conv=>whnf);first|(refine Br.mk (fun e=>Bool.noConfusion (e.symm.trans hlg)) (fun _=>?_))|(refine Br.tt ?_)|(refine Br.ff ?_)|(refine Br.dec ?_ ?_<;>intro _<;>try omega)|(refine Br.nbeq ?_ ?_<;>intro _<;>try omega)|(refine Ar.i64 (by omega) (by omega) ?_)|(refine Ix.nat (by omega) ?_)|(refine Len.mk (by omega) ?_)|(refine hwa.go ?_)|(refine J0d J0b Tryz.func74 rfl X8B X8A rfl ?_)|(refine Chk.mk (by kernel_rfl) ?_)|(refine Q0Z (p:=((gA (s.ar p.1) y.1).2,(s.aft p.2 (gA (s.ar p.1) y.1)).1)) (fun hin=>?_) (fun hout=>?_)))
        all_goals (conv=>whnf)
        . refine⟨_,(y.1+1,y.2),?_,⟨rfl,hyn,hP2,hyl⟩,?_⟩
          . simp only;omega
          . refine J0c (fun _ _=>[(0,some 0),(1,some 1),(2,some 2),(3,some 3),(4,some 4),(5,some 5),(6,some 6),(8,some 8)]) ?_ ?_ rfl
            . repeat' (first|exact True.intro|(refine J0a.fn ?_)|(refine⟨⟨_,rfl,?_⟩,?_⟩)|exact J0a.kf rfl|exact J0a.loc rfl|exact J0a.vec rfl rfl rfl|(refine And.intro ?_ ?_))
            . repeat' (first|exact⟨rfl,rfl⟩|exact⟨rfl,rfl,True.intro,fun i hi=>rfl,fun i j t hi hn hj ht=>VLe.rfl⟩|exact True.intro|exact J0a.map rfl|(refine⟨⟨_,rfl,?_⟩,?_⟩)|exact J0a.kf rfl|exact J0a.vec rfl rfl rfl|(refine⟨Nat.le_refl _,rfl,fun i j hi hj=>?_⟩)|exact VLe.rfl|(refine And.intro ?_ ?_))
        . rw[Q4U hlg hout] at hadd;have hpe:=Q7a hout;refine⟨_,(y.1+1,y.2++[((gA (s.ar p.1) y.1).2,(s.aft p.2 (gA (s.ar p.1) y.1)).1)]),?_,⟨rfl,hyn,hadd,by simp only[List.length_append];omega⟩,?_⟩
          . simp only;omega
          . refine J0c (fun env own=>[(0,some 0),(1,some 1),(2,some 2),(3,some 3),(4,some 4),(5,Q2V own 4 0),(6,some 6),(8,some 8)]) ?_ ?_ rfl
            . repeat' (first|exact J0a.vec rfl rfl (by simp only[List.length_append,List.length_singleton])|exact True.intro|(refine J0a.fn ?_)|(refine⟨⟨_,rfl,?_⟩,?_⟩)|exact J0a.kf rfl|exact J0a.loc rfl|(refine And.intro ?_ ?_))
            . repeat' (first|exact⟨rfl,hpe.symm⟩|exact J0a.vec rfl rfl (by simp only[List.length_append,List.length_singleton])|(refine⟨by simp only[List.length_append,List.length_singleton];omega,rfl,fun i j hi hj=>?_⟩)|exact Q3n _ _ _ rfl rfl _ _ _ rfl (by simpa using hi) hj|exact⟨rfl,rfl,True.intro,fun i hi=>rfl,fun i j t hi hn hj ht=>VLe.rfl⟩|exact True.intro|exact J0a.map rfl|(refine⟨⟨_,rfl,?_⟩,?_⟩)|exact J0a.kf rfl|(refine And.intro ?_ ?_))
   . repeat' ((conv=>whnf);first|(refine Br.dec ?_ ?_<;>intro _<;>try omega)|(refine Ar.i64 (by omega) (by omega) ?_))
     all_goals (conv=>whnf)
     have hrow':∀t,J61 (Q27 x.F p.1 p.2) t<=x.i+1:=fun t=>by
      rw[J9z];have h1:=hI.row t;have h2:=hI.row p.1;rw[J61] at h2;split<;>omega
     have hval':∀t,∀a∈Q27 x.F p.1 p.2 t,a<m0/\lg t=false:=fun t a ha=>by
      rw[Q27] at ha;split at ha
      . rename_i e;subst e;rcases List.mem_append.1 ha with h|h
        . exact hI.val _ a h
        . simp at h;subst h;exact⟨hp.2,hpl⟩
      . exact hI.val t a ha
     refine⟨_,⟨y.2,x.i+1,Q27 x.F p.1 p.2⟩,?_,⟨rfl,hP2,hyl,hrow',hval'⟩,?_⟩
     . simp only;omega
     . by_cases h1:x.i+1<y.2.length
       . have b3:=(hP2.ok _ (Q4k h1)).1;simp only[decide_eq_true h1,Q3R,if_true,if_pos h1];refine J3c.trans ?_ (J0V (own:=X4r s lg ⟨y.2,x.i+1,Q27 x.F p.1 p.2⟩) (ks:=[7,8,9,10,11,12,13,14,15,16,17,18,19,20,21,22,23,24,25,26,27,28,29,30,31,32,33,34,35,36,37,38,39]) rfl rfl rfl b3 rfl) (ksC rfl);refine J0c (fun _ _=>[(0,some 0),(1,some 1),(2,some 2),(3,some 3),(4,some 4),(5,some 5),(6,some 6)]) ?_ ?_ rfl
         . repeat' (first|exact True.intro|(refine J0a.fn ?_)|(refine⟨⟨_,rfl,?_⟩,?_⟩)|exact J0a.kf rfl|exact J0a.loc rfl|exact J0a.vec rfl rfl rfl|(refine And.intro ?_ ?_))
         . repeat' (first|exact⟨rfl,rfl,True.intro,fun i hi=>rfl,fun i j t hi hn hj ht=>VLe.rfl⟩|exact⟨rfl,rfl⟩|exact True.intro|exact J0a.map rfl|(refine⟨⟨_,rfl,?_⟩,?_⟩)|exact J0a.kf rfl|exact J0a.vec rfl rfl rfl|(refine⟨Nat.le_refl _,rfl,fun i j hi hj=>?_⟩)|exact VLe.rfl|(refine And.intro ?_ ?_))
       . simp only[decide_eq_false h1,Q3R,Bool.false_eq_true,if_false,if_neg h1];refine J0c (fun _ _=>[(0,some 0),(1,some 1),(2,some 2),(3,some 3),(4,some 4),(5,some 5),(6,some 6),(7,none)]) ?_ ?_ rfl
         . repeat' (first|exact True.intro|(refine J0a.fn ?_)|(refine⟨⟨_,rfl,?_⟩,?_⟩)|exact J0a.kf rfl|exact J0a.loc rfl|exact J0a.vec rfl rfl rfl|(refine And.intro ?_ ?_))
         . repeat' (first|exact⟨rfl,rfl,True.intro,fun i hi=>rfl,fun i j t hi hn hj ht=>VLe.rfl⟩|exact⟨rfl,rfl⟩|exact True.intro|exact J0a.map rfl|(refine⟨⟨_,rfl,?_⟩,?_⟩)|exact J0a.kf rfl|exact J0a.vec rfl rfl rfl|(refine⟨Nat.le_refl _,rfl,fun i j hi hj=>?_⟩)|exact VLe.rfl|(refine⟨⟨_,_,rfl⟩,?_⟩)|(refine And.intro ?_ ?_))
 . simp only[decide_eq_false hil,Q3R,Bool.false_eq_true,if_false,if_neg hil]
   repeat' ((conv=>whnf);first|(refine Br.dec ?_ ?_<;>intro _<;>try omega)|(refine Len.mk (by omega) ?_))
   all_goals (conv=>whnf)
   refine⟨_,⟨x.F,fun k=>?_,fun k a ha=>⟨by have:=(hI.val k a ha).1;omega,(hI.val k a ha).2⟩,rfl⟩,?_⟩
   . have:=hI.row k;rw[J61] at this;omega
   . refine VLe.tup ⟨VLe.fz rfl (fun h=>h) (fun a b ha hb=>?_),VLe.rfl,True.intro⟩;exact VLe.rfl
end Go.Proofs.YtmifmchinfhbnaaGreatDoor
namespace Go.Eng
theorem Q9g:∃f:Nat->Nat->Nat,∀i j,f i j=i*300000+j:=⟨fun i j=>i*300000+j,fun _ _=>rfl⟩
noncomputable def X1T:Nat->Nat->Nat:=Classical.choose Q9g
theorem J7B (i j:Nat):X1T i j=i*300000+j:=Classical.choose_spec Q9g i j
theorem Q9e (i j:Nat):X1T i (j+1)=X1T i j+1:=by
 have h1:=J7B i (j+1);have h2:=J7B i j;omega
theorem Q9f {i j:Nat} (h:j<=262144):X1T i j<=X1T (i+1) 0:=by
 have h1:=J7B (i+1) 0;have h2:=J7B i j;omega
theorem X1S {i j:Nat} (hi:i<=32768) (h:j<=262144):X1T i j<=1000000000000:=by
 have h2:=J7B i j;omega
end Go.Eng
namespace Go.Proofs.YtmifmchinfhbnaaGreatDoor
open Go.Eng Go.Plain
set_option maxRecDepth 100000
set_option linter.unusedVariables false
abbrev X2C (s:Tsy):Blk:=.cells [.fz s.n 1 false (vEn s),.fz s.n 1 false (X8t s)]
theorem mx_n (a b:Nat) (x:Int) (hx:x=(b:Int)):(if x > (a:Int) then x else (a:Int))=((max a b:Nat):Int):=by
 subst hx;split<;>omega
structure RdI (s:Tsy) (lg:Nat->Bool) (Q:Nat->Nat->Nat->Prop) (i:Nat) (r:Nat->Nat):Prop where
 leg:∀k,k<s.n->lg k=true->r k=0
 out:∀k,k<s.n->k<i->lg k=false->Q k (s.en k) (r k)
theorem RdI.start (s:Tsy) (lg:Nat->Bool) (Q:Nat->Nat->Nat->Prop):RdI s lg Q 0 (fun _=>0):=⟨fun _ _ _=>rfl,fun k _ h=>by omega⟩
theorem RdI.skip {s:Tsy} {lg:Nat->Bool} {Q:Nat->Nat->Nat->Prop} {i:Nat} {r:Nat->Nat} (h:RdI s lg Q i r) (hl:lg i=true):RdI s lg Q (i+1) r :=
 ⟨h.leg,fun k hk hki hlk=>h.out k hk (by
   rcases Nat.lt_or_ge k i with q|q
   . exact q
   . have:k=i:=by omega
     subst this;rw[hl] at hlk;cases hlk) hlk⟩
theorem RdI.put {s:Tsy} {lg:Nat->Bool} {Q:Nat->Nat->Nat->Prop} {i:Nat} {r:Nat->Nat} (h:RdI s lg Q i r) (hl:lg i=false) {v:Nat} (hv:Q i (s.en i) v):RdI s lg Q (i+1) (fun k=>if k=i then v else r k):=by
 refine⟨fun k hk hlk=>?_,fun k hk hki hlk=>?_⟩
 . show(if k=i then v else r k)=0;rw[if_neg (fun e=>by rw[e,hl] at hlk;cases hlk)];exact h.leg k hk hlk
 . show Q k (s.en k) (if k=i then v else r k);by_cases e:k=i
   . subst e;rw[if_pos rfl];exact hv
   . rw[if_neg e];exact h.out k hk (by omega) hlk
set_option maxHeartbeats 16000000 in
theorem Q6X (s:Tsy) (hs:s.Ok) (lg:Nat->Bool) (hall:∀L,An.Ord s.n s.to lg L->∀k,k<s.n->k∈L) (m0:Nat) (hm0:∀k,k<s.n->s.en k<m0) (hnm:s.n*m0<=262144) (Q:Nat->Nat->Nat->Prop) (hQ:RQ s lg Q) :
 J8U Tryz.prog 13 [s.v,blV s.n lg] fun v=>∃r:Nat->Nat,(∀k,k<s.n->lg k=true->r k=0)/\(∀k,k<s.n->lg k=false->Q k (s.en k) (r k))/\v=.tup [inV s.n r,.int .i64 0]:=by
 have n1:=hs.n1;have n2:=hs.n2;have hwo:=Q0d s hs lg hall;have hre:=X0A s hs lg m0 hm0 hnm;refine Q0K rfl ?_;refine J0d J0b Tryz.func13 rfl hc13 hr13 rfl ?_
 repeat' ((conv=>whnf);first|(refine Br.ff ?_)|(refine hwo.go ?_;rintro _ ⟨L,hL,hLn,rfl⟩)|(refine hre.go ?_;rintro _ ⟨F,hF1,hF2,rfl⟩))
 all_goals (conv=>whnf)
 refine J1M J0b [1,2,8,9,42,43] [] [2,3,4,5,6,7,8,9,10,11,12,13,14,15,16,17,18,19,20,21,22,23,24,25,26,27,28,29] [1,0] (fun x:Nat×List (KyT (.st KP)×V)=>[(44,.int .i64 x.1)]) (fun x=>[(1,.map (.st KP) x.2),(0,X2C s)]) (fun m x=>m=s.n-x.1/\x.1<=s.n/\MpI s lg Q (X1T x.1 0) x.2) s.n (0,[]) ⟨rfl,Nat.zero_le _,MpI.nil _ _ _ _⟩ rfl (fun _=>rfl) ?_ ?_
 . refine J0c (fun _ _=>[(0,some 0),(1,some 1)]) ?_ ?_ rfl
   . repeat' (first|exact True.intro|exact J0a.map rfl|(refine⟨⟨_,rfl,?_⟩,?_⟩)|exact J0a.kf rfl|exact J0a.loc rfl)
   . repeat' (first|exact⟨rfl,rfl⟩|exact True.intro|(refine⟨⟨_,rfl,?_⟩,?_⟩)|exact J0a.kf rfl|(refine And.intro ?_ ?_))
 rintro m x ⟨hm,hx,hM⟩;by_cases hxn:x.1<s.n
 . have hv:gQ L x.1<s.n:=hL.lt _ (J8x (by omega));have hfl:=hF1 (gQ L x.1);have hfv:=hF2 (gQ L x.1);have hrow:=hs.row hv
   repeat' ((conv=>whnf);first|(refine Ix.mk (gQ L x.1) (by rfl) hv ?_)|(refine Br.dec ?_ ?_<;>intro _<;>try omega)|(refine Ix.nat (by omega) ?_))
   all_goals (conv=>whnf)
   refine J1M J0b [1,2,8,9,11,42,43,44,51,52] [] [2,3,4,5,6,7,8,9,10,11,12,13,14,15,16,17,18,19,20,21,22,23,24,25,26,27,28,29] [1,0] (fun y:Nat×List (KyT (.st KP)×V)=>[(53,.int .i64 y.1)]) (fun y=>[(1,.map (.st KP) y.2),(0,X2C s)]) (fun m y=>m=(F (gQ L x.1)).length-y.1/\y.1<=(F (gQ L x.1)).length/\MpI s lg Q (X1T x.1 y.1) y.2) (F (gQ L x.1)).length (0,x.2) ⟨rfl,Nat.zero_le _,hM⟩ rfl (fun _=>rfl) ?_ ?_
   . refine J0c (fun _ _=>[(0,some 0),(1,some 1)]) ?_ ?_ rfl
     . repeat' (first|exact True.intro|exact J0a.map rfl|(refine⟨⟨_,rfl,?_⟩,?_⟩)|exact J0a.kf rfl|exact J0a.loc rfl)
     . repeat' (first|exact⟨rfl,rfl⟩|exact True.intro|(refine⟨⟨_,rfl,?_⟩,?_⟩)|exact J0a.kf rfl|(refine And.intro ?_ ?_))
   rintro m2 y ⟨hm2,hy,hN⟩;have hx3:=X1S (i:=x.1) (j:=y.1) (by omega) (by omega);by_cases hyn:y.1<(F (gQ L x.1)).length
   . obtain⟨hpd,hlk⟩:=hfv _ (J8x hyn);have h1:=hQ.one (gQ L x.1) (gQ (F (gQ L x.1)) y.1) hv hlk
     repeat' ((conv=>whnf);first|(refine Ix.mk (gQ L x.1) (by rfl) hv ?_)|(refine Br.dec ?_ ?_<;>intro _<;>try omega)|(refine Ix.nat (by omega) ?_))
     all_goals (conv=>whnf)
     refine J1M J0b [1,2,8,9,11,14,42,43,44,51,52,53,64,65] [] [3,4,5,6,7,8,9,10,11,12,13,14,15,16,17,18,19,20,21,22,23,24,25,26,27,28,29] [2,1,0] (fun z:Nat×Nat=>[(15,.int .i64 z.2),(66,.int .i64 z.1)]) (fun z=>[(2,.cells [.int .i64 (gQ L x.1),.int .u32 (gQ (F (gQ L x.1)) y.1)]),(1,.map (.st KP) y.2),(0,X2C s)]) (fun m z=>m=(s.ar (gQ L x.1)).length-z.1/\z.1<=(s.ar (gQ L x.1)).length/\Q (gQ L x.1) (gQ (F (gQ L x.1)) y.1) z.2/\z.2<=X1T x.1 y.1+1) (s.ar (gQ L x.1)).length (0,1) ⟨rfl,Nat.zero_le _,h1,by omega⟩ rfl (fun _=>rfl) ?_ ?_
     . refine J0c (fun _ _=>[(0,some 0),(1,some 1),(2,some 2)]) ?_ ?_ rfl
       . repeat' (first|exact True.intro|exact J0a.map rfl|(refine⟨⟨_,rfl,?_⟩,?_⟩)|exact J0a.kf rfl|exact J0a.loc rfl)
       . repeat' (first|exact⟨rfl,rfl⟩|exact True.intro|(refine⟨⟨_,rfl,?_⟩,?_⟩)|exact J0a.kf rfl|(refine And.intro ?_ ?_))
     rintro m3 z ⟨hm3,hz,hq,hzb⟩;by_cases hzn:z.1<(s.ar (gQ L x.1)).length
     . obtain⟨a1,a2,a3⟩:=hs.arc _ hv _ (J3R hzn);have ha32:=a2.le;have hen2:=hs.en _ hv;have hwa:=Q0h s hs (gQ L x.1) (gQ (F (gQ L x.1)) y.1) (by omega) (gA (s.ar (gQ L x.1)) z.1) (by omega) a3;cases hlg:lg ((gA (s.ar (gQ L x.1)) z.1)).2 with
       | true =>
         repeat' ((conv=>whnf);first|(refine Br.mk (fun _=>?_) (fun e=>Bool.noConfusion (e.symm.trans hlg)))|(refine Br.dec ?_ ?_<;>intro _<;>try omega)|(refine Ar.i64 (by omega) (by omega) ?_)|(refine Ix.nat (by omega) ?_))
         all_goals (conv=>whnf)
         refine⟨_,(z.1+1,z.2),?_,⟨rfl,hzn,hq,hzb⟩,?_⟩
         . simp only;omega
         . refine J0c (fun _ _=>[(0,some 0),(1,some 1),(2,some 2)]) ?_ ?_ rfl
           . repeat' (first|exact True.intro|exact J0a.map rfl|(refine⟨⟨_,rfl,?_⟩,?_⟩)|exact J0a.kf rfl|exact J0a.loc rfl)
           . repeat' (first|exact⟨rfl,rfl⟩|exact True.intro|(refine⟨⟨_,rfl,?_⟩,?_⟩)|exact J0a.kf rfl|(refine And.intro ?_ ?_))
       | false =>
         have hst:=fun r=>hQ.step (gQ L x.1) (gQ (F (gQ L x.1)) y.1) (gA (s.ar (gQ L x.1)) z.1) r hv hlk (J3R hzn) hlg;cases hb:(s.aft (gQ (F (gQ L x.1)) y.1) (gA (s.ar (gQ L x.1)) z.1)).2 with
         | true =>
           rw[hb] at hwa;simp only[hb,if_true] at hst
           repeat' ((conv=>whnf);first|(refine Br.mk (fun e=>Bool.noConfusion (e.symm.trans hlg)) (fun _=>?_))|(refine Br.tt ?_)|(refine Br.dec ?_ ?_<;>intro _<;>try omega)|(refine Ar.i64 (by omega) (by omega) ?_)|(refine Sv.mk _ rfl ?_)|(refine Ix.nat (by omega) ?_)|(refine hwa.go ?_)|(refine hN.mget hQ (p:=(((gA (s.ar (gQ L x.1)) z.1)).2,(s.aft (gQ (F (gQ L x.1)) y.1) (gA (s.ar (gQ L x.1)) z.1)).1)) a3 hlg (fun r hr hrb=>?_)))
           all_goals (conv=>whnf)
           have hmx:=mx_n z.2 (1+r) (1+(r:Int)) (by omega);refine⟨_,(z.1+1,max z.2 (1+r)),?_,⟨rfl,hzn,hQ.max _ _ _ _ hq (hst r hr),by simp only;omega⟩,?_⟩
           . simp only;omega
           . refine J0c (fun _ _=>[(0,some 0),(1,some 1),(2,some 2)]) ?_ ?_ rfl
             . repeat' (first|exact J0a.int hmx|exact True.intro|exact J0a.map rfl|(refine⟨⟨_,rfl,?_⟩,?_⟩)|exact J0a.kf rfl|exact J0a.loc rfl)
             . repeat' (first|exact⟨rfl,rfl⟩|exact True.intro|(refine⟨⟨_,rfl,?_⟩,?_⟩)|exact J0a.kf rfl|(refine And.intro ?_ ?_))
         | false =>
           rw[hb] at hwa;simp only[hb,Bool.false_eq_true,if_false] at hst
           repeat' ((conv=>whnf);first|(refine Br.mk (fun e=>Bool.noConfusion (e.symm.trans hlg)) (fun _=>?_))|(refine Br.ff ?_)|(refine Br.dec ?_ ?_<;>intro _<;>try omega)|(refine Ar.i64 (by omega) (by omega) ?_)|(refine Sv.mk _ rfl ?_)|(refine Ix.nat (by omega) ?_)|(refine hwa.go ?_)|(refine hN.mget hQ (p:=(((gA (s.ar (gQ L x.1)) z.1)).2,(s.aft (gQ (F (gQ L x.1)) y.1) (gA (s.ar (gQ L x.1)) z.1)).1)) a3 hlg (fun r hr hrb=>?_)))
           all_goals (conv=>whnf)
           have hmx:=mx_n z.2 r (r:Int) rfl;refine⟨_,(z.1+1,max z.2 r),?_,⟨rfl,hzn,hQ.max _ _ _ _ hq (hst r hr),by simp only;omega⟩,?_⟩
           . simp only;omega
           . refine J0c (fun _ _=>[(0,some 0),(1,some 1),(2,some 2)]) ?_ ?_ rfl
             . repeat' (first|exact J0a.int hmx|exact True.intro|exact J0a.map rfl|(refine⟨⟨_,rfl,?_⟩,?_⟩)|exact J0a.kf rfl|exact J0a.loc rfl)
             . repeat' (first|exact⟨rfl,rfl⟩|exact True.intro|(refine⟨⟨_,rfl,?_⟩,?_⟩)|exact J0a.kf rfl|(refine And.intro ?_ ?_))
     . repeat' ((conv=>whnf);first|(refine Br.dec ?_ ?_<;>intro _<;>try omega)|(refine Ar.i64 (by omega) (by omega) ?_))
       all_goals (conv=>whnf)
       refine⟨_,(y.1+1,mput y.2 (kyP ((gQ L x.1),gQ (F (gQ L x.1)) y.1)) (.int .i64 z.2)),?_,⟨rfl,hyn,?_⟩,?_⟩
       . simp only;omega
       . simp only;rw[Q9e];exact hN.put (p:=((gQ L x.1),gQ (F (gQ L x.1)) y.1)) hq hzb
       . refine J0c (fun _ _=>[(0,some 0),(1,some 1)]) ?_ ?_ rfl
         . repeat' (first|exact True.intro|exact J0a.map rfl|(refine⟨⟨_,rfl,?_⟩,?_⟩)|exact J0a.kf rfl|exact J0a.loc rfl)
         . repeat' (first|exact⟨rfl,rfl⟩|exact True.intro|(refine⟨⟨_,rfl,?_⟩,?_⟩)|exact J0a.kf rfl|(refine And.intro ?_ ?_))
   . repeat' ((conv=>whnf);first|(refine Br.dec ?_ ?_<;>intro _<;>try omega)|(refine Ar.i64 (by omega) (by omega) ?_))
     all_goals (conv=>whnf)
     refine⟨_,(x.1+1,y.2),?_,⟨rfl,hxn,hN.mono (by simp only;have:=Q9f (i:=x.1) (j:=y.1) (by omega);exact this)⟩,?_⟩
     . simp only;omega
     . refine J0c (fun _ _=>[(0,some 0),(1,some 1)]) ?_ ?_ rfl
       . repeat' (first|exact True.intro|exact J0a.map rfl|(refine⟨⟨_,rfl,?_⟩,?_⟩)|exact J0a.kf rfl|exact J0a.loc rfl)
       . repeat' (first|exact⟨rfl,rfl⟩|exact True.intro|(refine⟨⟨_,rfl,?_⟩,?_⟩)|exact J0a.kf rfl|(refine And.intro ?_ ?_))
 . repeat' ((conv=>whnf);first|(refine Br.dec ?_ ?_<;>intro _<;>try omega)|(refine Bd.nat (by omega) ?_)|(refine Len.mk (by omega) ?_)|(refine MkS.vec ?_))
   all_goals (conv=>whnf)
   have hx':x.1=s.n:=by omega
   generalize x.1=xi at *;generalize x.2=es at *;refine J1M J0b [1,9,20,104,105] [] [3,4,5,6,7,8,9,10,11,12,13,14,15,16,17,18,19,20,21,22,23,24,25,26,27,28,29] [2,1,0] (fun y:Nat×(Nat->Nat)=>[(106,.int .i64 y.1)]) (fun y=>[(2,.vec s.n 1 (vEt y.2)),(1,.map (.st KP) es),(0,X2C s)]) (fun m y=>m=s.n-y.1/\y.1<=s.n/\RdI s lg Q y.1 y.2) s.n (0,fun _=>0) ⟨rfl,Nat.zero_le _,RdI.start s lg Q⟩ rfl (fun _=>rfl) ?_ ?_
   . refine J0c (fun _ _=>[(0,some 0),(1,some 1),(2,some 2)]) ?_ ?_ rfl
     . repeat' (first|exact True.intro|exact J0a.map rfl|(refine⟨⟨_,rfl,?_⟩,?_⟩)|exact J0a.kf rfl|exact J0a.vec rfl rfl rfl)
     . repeat' (first|exact⟨rfl,rfl⟩|exact J81 _ _ hj|exact True.intro|(refine⟨⟨_,rfl,?_⟩,?_⟩)|exact J0a.kf rfl|(refine⟨Nat.le_refl _,rfl,fun i j hi hj=>?_⟩)|(refine And.intro ?_ ?_))
   rintro m2 y ⟨hm2,hy,hJ⟩;by_cases hyn:y.1<s.n
   . cases hlg:lg y.1 with
     | true =>
       repeat' ((conv=>whnf);first|(refine Br.mk (fun _=>?_) (fun e=>Bool.noConfusion (e.symm.trans hlg)))|(refine Br.dec ?_ ?_<;>intro _<;>try omega)|(refine Ar.i64 (by omega) (by omega) ?_)|(refine Ix.nat (by omega) ?_))
       all_goals (conv=>whnf)
       refine⟨_,(y.1+1,y.2),?_,⟨rfl,hyn,hJ.skip hlg⟩,?_⟩
       . simp only;omega
       . refine J0c (fun _ _=>[(0,some 0),(1,some 1),(2,some 2)]) ?_ ?_ rfl
         . repeat' (first|exact True.intro|exact J0a.map rfl|(refine⟨⟨_,rfl,?_⟩,?_⟩)|exact J0a.kf rfl|exact J0a.vec rfl rfl rfl)
         . repeat' (first|exact⟨rfl,rfl⟩|exact True.intro|(refine⟨⟨_,rfl,?_⟩,?_⟩)|exact J0a.kf rfl|(refine⟨Nat.le_refl _,rfl,fun i j hi hj=>?_⟩)|exact VLe.rfl|(refine And.intro ?_ ?_))
     | false =>
       repeat' ((conv=>whnf);first|(refine Br.mk (fun e=>Bool.noConfusion (e.symm.trans hlg)) (fun _=>?_))|(refine Br.dec ?_ ?_<;>intro _<;>try omega)|(refine Ar.i64 (by omega) (by omega) ?_)|(refine Ix.nat (by omega) ?_)|(refine Ltn.mk (by omega) ?_)|(refine hM.mget hQ (p:=(y.1,s.en y.1)) hyn hlg (fun r hr hrb=>?_)))
       all_goals (conv=>whnf)
       refine⟨_,(y.1+1,fun k=>if k=y.1 then r else y.2 k),?_,⟨rfl,hyn,hJ.put hlg hr⟩,?_⟩
       . simp only;omega
       . refine J0c (fun _ _=>[(0,some 0),(1,some 1),(2,some 2)]) ?_ ?_ rfl
         . repeat' (first|exact True.intro|exact J0a.map rfl|(refine⟨⟨_,rfl,?_⟩,?_⟩)|exact J0a.kf rfl|exact J0a.vec rfl rfl rfl)
         . repeat' (first|exact⟨rfl,rfl⟩|exact Q6h _ _ y.1 _ _ (Nat.zero_add _) (fun z=>by simp only;split<;>rfl) _ _ hj|exact True.intro|(refine⟨⟨_,rfl,?_⟩,?_⟩)|exact J0a.kf rfl|(refine⟨Nat.le_refl _,rfl,fun i j hi hj=>?_⟩)|(refine And.intro ?_ ?_))
   . have hy':y.1=s.n:=by omega
     repeat' ((conv=>whnf);first|(refine Br.dec ?_ ?_<;>intro _<;>try omega)|(refine Len.mk (by omega) ?_))
     all_goals (conv=>whnf)
     exact⟨_,⟨y.2,fun k hk hl=>hJ.leg k hk hl,fun k hk hl=>hJ.out k hk (by omega) hl,rfl⟩,VLe.tup ⟨VLe.fz rfl (fun h=>h) (fun a b ha hb=>VLe.of_eq (by rw[J0v,Nat.zero_add];rfl)),VLe.rfl,True.intro⟩⟩
end Go.Proofs.YtmifmchinfhbnaaGreatDoor
namespace Go.Plain.Mx
def pr (sz:Nat->Nat):Nat->Nat->Nat
 | _,0=>1
 | a,l+1=>sz a*pr sz (a+1) l
def vl (sz d:Nat->Nat):Nat->Nat->Nat
 | _,0=>0
 | a,l+1=>d a*pr sz (a+1) l+vl sz d (a+1) l
variable {sz:Nat->Nat}
theorem pr_pos (h:∀i,0<sz i):∀l a,0<pr sz a l
 | 0,_=>Nat.one_pos
 | l+1,a=>Nat.mul_pos (h a) (pr_pos h l (a+1))
theorem pr_snoc:∀l a,pr sz a (l+1)=pr sz a l*sz (a+l)
 | 0,a=>by simp[pr]
 | l+1,a=>by
   rw[pr,pr_snoc l (a+1),pr,Nat.mul_assoc];congr 2;congr 1;omega
theorem vl_lt {d:Nat->Nat}:∀l a,(∀i,a<=i->i<a+l->d i<sz i)->vl sz d a l<pr sz a l
 | 0,_,_=>Nat.one_pos
 | l+1,a,h=>by
   have h1:=vl_lt l (a+1) (fun i q q2=>h i (by omega) (by omega));have h2:=h a (Nat.le_refl _) (by omega);rw[vl,pr];have h3:(d a+1)*pr sz (a+1) l<=sz a*pr sz (a+1) l:=Nat.mul_le_mul_right _ h2;rw[Nat.add_mul] at h3;omega
theorem vl_ext {d e:Nat->Nat}:∀l a,(∀i,a<=i->i<a+l->d i=e i)->vl sz d a l=vl sz e a l
 | 0,_,_=>rfl
 | l+1,a,h=>by rw[vl,vl,h a (Nat.le_refl _) (by omega),vl_ext l (a+1) (fun i q q2=>h i (by omega) (by omega))]
def dg (sz:Nat->Nat) (N k i:Nat):Nat:=k / pr sz (i+1) (N-(i+1)) % sz i
theorem dg_lt (h:∀i,0<sz i) (N k i:Nat):dg sz N k i<sz i:=Nat.mod_lt _ (h i)
theorem X6y (h:∀i,0<sz i) (N k:Nat):∀l a,a+l=N->vl sz (dg sz N k) a l=k % pr sz a l
 | 0,a,_=>by simp[vl,pr,Nat.mod_one]
 | l+1,a,e=>by
   rw[vl,X6y h N k l (a+1) (by omega),dg,show N-(a+1)=l by omega,pr];have hp:=pr_pos h l (a+1);generalize pr sz (a+1) l=P at *;generalize sz a=s at *;rw[Nat.mul_comm s P,Nat.mod_mul,Nat.mul_comm (k / P % s) P,Nat.add_comm]
theorem X7T (h:∀i,0<sz i) (N:Nat) (d:Nat->Nat) (hd:∀i,i<N->d i<sz i):∀l a,a+l=N->∀i,a<=i->i<N->∀hi,dg sz N (hi*pr sz a l+vl sz d a l) i=d i
 | 0,a,e,i,h1,h2,hi=>by omega
 | l+1,a,e,i,h1,h2,hi=>by
   have hv:=vl_lt (sz:=sz) (d:=d) l (a+1) (fun i q q2=>hd i (by omega));have hP:=pr_pos h l (a+1);rw[vl,pr];have e2:hi*(sz a*pr sz (a+1) l)+(d a*pr sz (a+1) l+vl sz d (a+1) l)=(hi*sz a+d a)*pr sz (a+1) l+vl sz d (a+1) l:=by
    rw[Nat.add_mul,Nat.mul_assoc];omega
   rw[e2];by_cases q:i=a
   . subst q;rw[dg,show N-(i+1)=l by omega];rw[Nat.add_comm ((hi*sz i+d i)*_),Nat.add_mul_div_right _ _ hP,Nat.div_eq_of_lt hv,Nat.zero_add,Nat.add_comm,Nat.add_mul_mod_self_right,Nat.mod_eq_of_lt (hd i h2)]
   . exact X7T h N d hd l (a+1) (by omega) i (by omega) h2 _
theorem dg_val (h:∀i,0<sz i) {N:Nat} {d:Nat->Nat} (hd:∀i,i<N->d i<sz i) {i:Nat} (hi:i<N):dg sz N (vl sz d 0 N) i=d i:=by
 have:=X7T h N d hd N 0 (by omega) i (Nat.zero_le _) hi 0;simpa using this
theorem val_dg (h:∀i,0<sz i) {N k:Nat} (hk:k<pr sz 0 N):vl sz (dg sz N k) 0 N=k:=by
 rw[X6y h N k N 0 (by omega),Nat.mod_eq_of_lt hk]
theorem rest_step (N k i:Nat) (hi:i<N):k / pr sz (i+1) (N-(i+1)) / sz i=k / pr sz i (N-i):=by
 rw[Nat.div_div_eq_div_mul,show N-i=N-(i+1)+1 by omega,pr,Nat.mul_comm]
theorem Q6g {d:Nat->Nat}:∀l a,(∀i,a<=i->i<a+l->d i=0)->vl sz d a l=0
 | 0,_,_=>rfl
 | l+1,a,h=>by rw[vl,h a (Nat.le_refl _) (by omega),Q6g l (a+1) (fun i q q2=>h i (by omega) (by omega)),Nat.zero_mul]
theorem Q2b (h:∀i,0<sz i) {d:Nat->Nat}:∀l a,(∀i,a<=i->i<a+l->d i+1=sz i)->vl sz d a l+1=pr sz a l
 | 0,_,_=>rfl
 | l+1,a,q=>by
   have h1:=Q2b h (d:=d) l (a+1) (fun i q1 q2=>q i (by omega) (by omega));have h2:=q a (Nat.le_refl _) (by omega);rw[vl,pr,<- h2,Nat.add_mul];omega
def nx (d:Nat->Nat) (i j:Nat):Nat:=if j<i then d j else if j=i then d j+1 else 0
theorem X6x (h:∀i,0<sz i) (d:Nat->Nat) (N i:Nat) (hi:i<N) (hf:∀j,i<j->j<N->d j+1=sz j):∀l a,a+l=N->a<=i->vl sz (nx d i) a l=vl sz d a l+1
 | 0,a,e,q=>by omega
 | l+1,a,e,q=>by
   rw[vl,vl];by_cases ea:a=i
   . subst ea;rw[Q6g (d:=nx d a) l (a+1) (fun j q1 q2=>by rw[nx,if_neg (by omega),if_neg (by omega)]),nx,if_neg (by omega),if_pos rfl,Nat.add_mul];have:=Q2b h (d:=d) l (a+1) (fun j q1 q2=>hf j (by omega) (by omega));omega
   . rw[X6x h d N i hi hf l (a+1) (by omega) (by omega),nx,if_pos (by omega)];omega
theorem dg_next (h:∀i,0<sz i) {N k i:Nat} (hk:k<pr sz 0 N) (hi:i<N) (hn:dg sz N k i+1<sz i) (hf:∀j,i<j->j<N->dg sz N k j+1=sz j) {j:Nat} (hj:j<N):dg sz N (k+1) j=nx (dg sz N k) i j:=by
 have h1:=X6x h (dg sz N k) N i hi hf N 0 (by omega) (Nat.zero_le _);rw[val_dg h hk] at h1;rw[<- h1];refine dg_val h (fun j hj=>?_) hj;rw[nx];split
 . exact dg_lt h _ _ _
 . split
   . rename_i e;subst e;exact hn
   . exact h j
theorem dg_last (h:∀i,0<sz i) {N k:Nat} (hk:k<pr sz 0 N) (hf:∀j,j<N->dg sz N k j+1=sz j):k+1=pr sz 0 N:=by
 rw[<- Q2b h (d:=dg sz N k) N 0 (fun j _ q2=>hf j (by omega)),val_dg h hk]
theorem dg_zero (N i:Nat):dg sz N 0 i=0:=by simp[dg]
theorem vl_diff {d e:Nat->Nat}:∀l a,(vl sz e a l:Int)=vl sz d a l+((List.range l).map fun i=>((e (a+i):Int)-d (a+i))*pr sz (a+i+1) (l-(i+1))).sum
 | 0,a=>by simp[vl]
 | l+1,a=>by
   rw[vl,vl,List.range_succ_eq_map,List.map_cons,List.map_map,List.sum_cons];have h1:=vl_diff (d:=d) (e:=e) l (a+1);have e1:((fun i=>((e (a+i):Int)-d (a+i))*pr sz (a+i+1) (l+1-(i+1))) ∘ Nat.succ)=fun i=>((e (a+1+i):Int)-d (a+1+i))*pr sz (a+1+i+1) (l-(i+1)):=by
    funext i;simp only[Function.comp];rw[show a+i.succ=a+1+i by omega,show l+1-(i.succ+1)=l-(i+1) by omega]
   rw[e1]
   push_cast
   rw[h1];simp only[Nat.add_zero];have:((e a:Int)-d a)*(pr sz (a+1) l:Int)=e a*pr sz (a+1) l-d a*pr sz (a+1) l:=Int.sub_mul _ _ _;rw[this];omega
end Go.Plain.Mx
namespace Go.Proofs.YtmifmchinfhbnaaGreatDoor
open Go.Eng Go.Plain
set_option maxRecDepth 100000
set_option linter.unusedVariables false
def loP (p:Pr) (g:G) (v x:Nat):Int:=(bnd g (gV p.vars x) v).1
def hiP (p:Pr) (g:G) (v x:Nat):Int:=(bnd g (gV p.vars x) v).2
def szX (p:Pr) (g:G) (v x:Nat):Nat:=(hiP p g v x-loP p g v x).toNat+1
def szP (p:Pr) (g:G) (i:Nat):Nat:=szX p g (i / p.vars.length) (i % p.vars.length)
abbrev nP (p:Pr) (g:G):Nat:=g.ids.length*p.vars.length
def J0X (p:Pr) (g:G):Nat:=Mx.pr (szP p g) 0 (nP p g)
def dgP (p:Pr) (g:G) (k v x:Nat):Nat:=Mx.dg (szP p g) (nP p g) k (v*p.vars.length+x)
def plP (p:Pr) (g:G) (v x:Nat):Nat:=Mx.pr (szP p g) (v*p.vars.length+x+1) (nP p g-(v*p.vars.length+x+1))
def cfK (p:Pr) (g:G) (k:Nat):Cf:=(List.range g.ids.length).map fun v=>(List.range p.vars.length).map fun x=>loP p g v x+dgP p g k v x
def dgC (p:Pr) (g:G) (c:Cf) (i:Nat):Nat:=(gI (gC c (i / p.vars.length)) (i % p.vars.length)-loP p g (i / p.vars.length) (i % p.vars.length)).toNat
def rkC (p:Pr) (g:G) (c:Cf):Nat:=Mx.vl (szP p g) (dgC p g c) 0 (nP p g)
theorem J23 (p:Pr) (g:G) (i:Nat):0<szP p g i:=Nat.succ_pos _
theorem Q4B (p:Pr) (g:G):0<J0X p g:=Mx.pr_pos (J23 p g) _ _
theorem J4Z {m v x:Nat} (h:x<m):(v*m+x) / m=v:=by
 rw[Nat.mul_comm,Nat.mul_add_div (by omega),Nat.div_eq_of_lt h,Nat.add_zero]
theorem Q1f {m v x:Nat} (h:x<m):(v*m+x) % m=x:=by
 rw[Nat.mul_comm,Nat.mul_add_mod,Nat.mod_eq_of_lt h]
theorem J7V {m n v x:Nat} (hv:v<n) (hx:x<m):v*m+x<n*m:=by
 have:(v+1)*m<=n*m:=Nat.mul_le_mul_right _ hv;rw[Nat.add_mul] at this;omega
theorem X7A {m n i:Nat} (h:i<n*m):i / m<n/\i % m<m/\i / m*m+i % m=i:=by
 have hm:0<m:=by
  rcases Nat.eq_zero_or_pos m with e|e
  . subst e;simp at h
  . exact e
 exact⟨(Nat.div_lt_iff_lt_mul hm).2 h,Nat.mod_lt _ hm,by rw[Nat.mul_comm];exact Nat.div_add_mod i m⟩
theorem J4k (p:Pr) (g:G) {v x:Nat} (hx:x<p.vars.length):szP p g (v*p.vars.length+x)=szX p g v x:=by rw[szP,J4Z hx,Q1f hx]
theorem Q7R {p:Pr} (hp:J2M p) (g:G) (hg:g.valid=true) (v:Nat) {x:Nat} (hx:x<p.vars.length):loP p g v x<=hiP p g v x:=by
 obtain⟨f1,f2,f3,f4,f5,f6,f7⟩:=J0f hg;have ht:=Q6u hg;obtain⟨hk,h1,h2,h3,h4,h5⟩:=hp.var x hx;have m1:=Q0U h4 ht;have m2:(gV p.vars x).pn*1<=(gV p.vars x).pn*(g.ids.length:Int):=Int.mul_le_mul_of_nonneg_left (by omega) h3.1;rw[loP,hiP,bnd];split
 . simp only;omega
 . split
   . decide
   . simp only;omega
theorem J4s {p:Pr} (hp:J2M p) (g:G) (hg:g.valid=true) (v:Nat) {x:Nat} (hx:x<p.vars.length):(szX p g v x:Int)=hiP p g v x-loP p g v x+1:=by
 have:=Q7R hp g hg v hx;rw[szX];omega
theorem J5x (p:Pr) (g:G) (k:Nat):(cfK p g k).length=g.ids.length:=by simp[cfK]
theorem J7y (p:Pr) (g:G) (k:Nat) {v:Nat} (hv:v<g.ids.length):gC (cfK p g k) v=(List.range p.vars.length).map fun x=>loP p g v x+dgP p g k v x:=by
 simp[gC,cfK,List.getD,hv]
theorem J3W (p:Pr) (g:G) (k:Nat) {v x:Nat} (hv:v<g.ids.length) (hx:x<p.vars.length):gI (gC (cfK p g k) v) x=loP p g v x+dgP p g k v x:=by
 rw[J7y p g k hv];simp[gI,List.getD,hx]
theorem Q8O (p:Pr) (g:G) (k v:Nat) {x:Nat} (hx:x<p.vars.length):dgP p g k v x<szX p g v x:=by
 have:=Mx.dg_lt (J23 p g) (nP p g) k (v*p.vars.length+x)
 rwa[J4k p g hx] at this
theorem J1q {p:Pr} (hp:J2M p) {g:G} (hg:g.valid=true) (k:Nat):J1G p g (cfK p g k):=by
 refine⟨J5x p g k,fun v hv=>?_,fun v hv x hx=>?_⟩
 . rw[J5x] at hv;rw[J7y p g k hv];simp
 . rw[J5x] at hv;rw[J3W p g k hv hx];have h1:=Q8O p g k v hx;have h2:=J4s hp g hg v hx;have h3:=Q7R hp g hg v hx;show loP p g v x<=_/\_<=hiP p g v x;omega
theorem X22 {p:Pr} (hp:J2M p) {g:G} (hg:g.valid=true) {c:Cf} (hc:J1G p g c) (i:Nat) (hi:i<nP p g):dgC p g c i<szP p g i:=by
 obtain⟨h1,h2,h3⟩:=X7A hi;have hv:=hc.val _ (by rw[hc.len];exact h1) _ h2;change loP p g _ _<=_/\_<=hiP p g _ _ at hv;have h4:=J4s hp g hg (i / p.vars.length) h2;rw[dgC,szP];omega
theorem Q6Z {p:Pr} (hp:J2M p) {g:G} (hg:g.valid=true) {c:Cf} (hc:J1G p g c):rkC p g c<J0X p g :=
 Mx.vl_lt _ _ fun i _ h=>X22 hp hg hc i (by omega)
theorem X6P {p:Pr} {g:G} {k:Nat} (hk:k<J0X p g):rkC p g (cfK p g k)=k:=by
 have e:∀i,0<=i->i<0+nP p g->dgC p g (cfK p g k) i=Mx.dg (szP p g) (nP p g) k i:=fun i _ hi=>by
  obtain⟨h1,h2,h3⟩:=X7A (show i<g.ids.length*p.vars.length by simpa using hi);rw[dgC,J3W p g k h1 h2,dgP,h3];omega
 rw[rkC,Mx.vl_ext _ _ e];exact Mx.val_dg (J23 p g) hk
theorem X4g {a b:List Int} (h1:a.length=b.length) (h2:∀x,x<a.length->gI a x=gI b x):a=b :=
 List.ext_getElem h1 fun i q1 q2=>by
  have:=h2 i q1;simpa[gI,List.getD,q1,q2] using this
theorem X73 {a b:Cf} (h1:a.length=b.length) (h2:∀v,v<a.length->gC a v=gC b v):a=b :=
 List.ext_getElem h1 fun i q1 q2=>by
  have:=h2 i q1;simpa[gC,List.getD,q1,q2] using this
theorem Q1J {p:Pr} (hp:J2M p) {g:G} (hg:g.valid=true) {c:Cf} (hc:J1G p g c):cfK p g (rkC p g c)=c:=by
 refine X73 (by rw[J5x,hc.len]) fun v hv=>?_;rw[J5x] at hv;have hr:=hc.row v (by rw[hc.len];exact hv);refine X4g (by rw[J7y p g _ hv,hr];simp) fun x hx=>?_;rw[J7y p g _ hv] at hx;simp only[List.length_map,List.length_range] at hx;rw[J3W p g _ hv hx,dgP,rkC,Mx.dg_val (J23 p g) (fun i hi=>X22 hp hg hc i hi) (J7V hv hx),dgC,J4Z hx,Q1f hx];have:=(hc.val v (by rw[hc.len];exact hv) x hx).1;change loP p g v x<=_ at this;omega
theorem X4k (p:Pr) (g:G) (c d:Cf):(rkC p g d:Int)=rkC p g c+((List.range (nP p g)).map fun i=>((dgC p g d i:Int)-dgC p g c i)*Mx.pr (szP p g) (i+1) (nP p g-(i+1))).sum:=by
 have:=Mx.vl_diff (sz:=szP p g) (d:=dgC p g c) (e:=dgC p g d) (nP p g) 0;rw[rkC,rkC];simpa only[Nat.zero_add] using this
theorem Q3A (f:Nat->Int) (m:Nat):∀n,((List.range (n*m)).map f).sum=((List.range n).map fun v=>((List.range m).map fun x=>f (v*m+x)).sum).sum
 | 0=>by simp
 | n+1=>by
   rw[List.range_succ,List.map_append,List.sum_append,<- Q3A f m n];have e:(n+1)*m=n*m+m:=by rw[Nat.add_mul];omega
   rw[e];have e2:List.range (n*m+m)=List.range (n*m)++(List.range m).map (n*m+·):=List.range_add;rw[e2,List.map_append,List.sum_append,List.map_map];simp only[List.map_cons,List.map_nil,List.sum_cons,List.sum_nil,Int.add_zero];rfl
def grX (p:Pr) (g:G) (c d:Cf) (v:Nat):Int:=((List.range p.vars.length).map fun x=>(gI (gC d v) x-gI (gC c v) x)*(plP p g v x:Int)).sum
theorem X4j {p:Pr} {g:G} {c d:Cf} (hc:J1G p g c) (hd:J1G p g d):(rkC p g d:Int)=rkC p g c+((List.range g.ids.length).map fun v=>grX p g c d v).sum:=by
 rw[X4k p g c d,Q3A];congr 2;refine List.map_congr_left fun v hv=>?_;have hv:=List.mem_range.1 hv;congr 1;refine List.map_congr_left fun x hx=>?_;have hx:=List.mem_range.1 hx;have h1:=(hc.val v (by rw[hc.len];exact hv) x hx).1;have h2:=(hd.val v (by rw[hd.len];exact hv) x hx).1;change loP p g v x<=_ at h1 h2;rw[dgC,dgC,J4Z hx,Q1f hx,plP];congr 1;omega
end Go.Proofs.YtmifmchinfhbnaaGreatDoor
namespace Go.Proofs.YtmifmchinfhbnaaGreatDoor
open Go.Eng
set_option maxRecDepth 100000
set_option linter.unusedVariables false
def gN (l:List Nat) (i:Nat):Nat:=l.getD i 0
def vU (l:List Nat):Nat->Nat->V:=fun i _=>.int .u32 (gN l i)
end Go.Proofs.YtmifmchinfhbnaaGreatDoor
