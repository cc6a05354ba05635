import Derived.Test.YtobpogkghbakmaaGreatDoorEvB
import Derived.Test.YtobpogkghbakmaaGreatDoorEngAC
import Derived.Test.YtobpogkghbakmaaGreatDoorGRCode
import Derived.Test.YtobpogkghbakmaaGreatDoorLFG
import Derived.Test.YtobpogkghbakmaaGreatDoorGR10
import Derived.Test.YtobpogkghbakmaaGreatDoorDC8
import Derived.Test.YtobpogkghbakmaaGreatDoorTabF
import Derived.KernelRfl
import Derived.Test.YtobpogkghbakmaaGreatDoorBMK
namespace Go.Eng
open Go.Plain
set_option linter.unusedVariables false
structure Tsy where
 n:Nat
 en:Nat->Nat
 ar:Nat->List (Nat×Nat)
def gA (l:List (Nat×Nat)) (i:Nat):Nat×Nat:=l.getD i (0,0)
def vAr (l:List (Nat×Nat)):Nat->Nat->V:=fun i j=>match j with
 | 0=>.int .u32 (gA l i).1
 | _=>.int .i64 (gA l i).2
def arV (l:List (Nat×Nat)):V:=.fz l.length 2 false (vAr l)
def vEn (s:Tsy):Nat->Nat->V:=fun i _=>.int .u32 (s.en i)
def vArs (s:Tsy):Nat->Nat->V:=fun i _=>arV (s.ar i)
def Tsy.v (s:Tsy):V:=.agg [.fz s.n 1 false (vEn s),.fz s.n 1 false (vArs s)]
def Tsy.to (s:Tsy) (k:Nat):List Nat:=(s.ar k).map (·.2)
def sumA (f:Nat->Nat):Nat->Nat
 | 0=>0
 | k+1=>sumA f k+f k
theorem sumA_mono (f:Nat->Nat) {a b:Nat} (h:a<=b):sumA f a<=sumA f b:=by
 induction b with
 | zero =>
   obtain rfl:a=0:=by omega
   exact Nat.le_refl _
 | succ b ih =>
   by_cases e:a=b+1
   . subst e;exact Nat.le_refl _
   . have:=ih (by omega);rw[sumA];omega
theorem sumA_le (f:Nat->Nat) (m:Nat) (h:∀k,f k<=m):∀n,sumA f n<=n*m
 | 0=>by simp[sumA]
 | n+1=>by have:=sumA_le f m h n;have:=h n;rw[sumA,Nat.add_mul];omega
def Tsy.tot (s:Tsy) (k:Nat):Nat:=sumA (fun k=>(s.ar k).length) k
structure Tsy.Ok (s:Tsy):Prop where
 n1:1<=s.n
 n2:s.n<=32768
 en:∀k,k<s.n->s.en k<16777216
 ne:∀k,k<s.n->(s.en k≠0↔s.ar k≠[])
 sort:∀k,k<s.n->(s.ar k).Pairwise fun a b=>a.1<b.1
 arc:∀k,k<s.n->∀a∈s.ar k,a.1≠0/\Part a.1 (s.en k)/\a.2<s.n
 tot:s.tot s.n<=262144
theorem Tsy.Ok.row {s:Tsy} (h:s.Ok) {k:Nat} (hk:k<s.n):(s.ar k).length<=262144:=by
 have h1:=h.tot;have h2:=sumA_mono (fun k=>(s.ar k).length) (show k+1<=s.n by omega);rw[Tsy.tot] at h1;rw[sumA] at h2;omega
theorem gA_mem {l:List (Nat×Nat)} {i:Nat} (h:i<l.length):gA l i∈l:=by
 rw[gA,List.getD_eq_getElem?_getD,List.getElem?_eq_getElem h];exact List.getElem_mem h
theorem gA_lt {l:List (Nat×Nat)} (h:l.Pairwise fun a b=>a.1<b.1) {i j:Nat} (hij:i<j) (hj:j<l.length):(gA l i).1<(gA l j).1:=by
 have:=List.pairwise_iff_getElem.1 h i j (by omega) hj hij;simpa[gA,List.getD_eq_getElem?_getD,List.getElem?_eq_getElem hj,List.getElem?_eq_getElem (show i<l.length by omega)] using this
def blV (n:Nat) (b:Nat->Bool):V:=.fz n 1 false fun i _=>.bool (b i)
def inV (n:Nat) (r:Nat->Nat):V:=.fz n 1 false fun i _=>.int .i64 (r i)
def gQ (l:List Nat) (i:Nat):Nat:=l.getD i 0
def vQ (l:List Nat):Nat->Nat->V:=fun i _=>.int .i64 (gQ l i)
def nlV (l:List Nat):V:=.fz l.length 1 false (vQ l)
theorem gQ_mem {l:List Nat} {i:Nat} (h:i<l.length):gQ l i∈l:=by
 rw[gQ,List.getD_eq_getElem?_getD,List.getElem?_eq_getElem h];exact List.getElem_mem h
theorem gQ_snoc (l:List Nat) (a i:Nat):gQ (l++[a]) i=if i<l.length then gQ l i else if i=l.length then a else 0:=by
 by_cases h:i<l.length
 . simp only[gQ,List.getD,List.getElem?_append_left h,if_pos h]
 . rw[if_neg h];by_cases h2:i=l.length
   . subst h2;simp[gQ]
   . simp[gQ,h2,List.getElem?_eq_none (by simp;omega:(l++[a]).length<=i)]
theorem vle_appQ (l:List Nat) (a:Nat) (F:Nat->Nat->V) (x:Int) (hF:F 0 0=.int .i64 x) (hx:x=a) (n i j:Nat) (hn:n=l.length) (hi:i<l.length+1) (hj:j<1):VLe (fapp (shiftF 0 (vQ l)) n (shiftF 0 F) i j) (vQ (l++[a]) i j):=by
 obtain rfl:j=0:=by omega
 subst hn;apply VLe.of_eq;rw[vQ,gQ_snoc];by_cases h:i<l.length
 . rw[fapp_lt h,shiftF_eq,Nat.zero_add,if_pos h];rfl
 . rw[fapp_ge h,if_neg h];have:i=l.length:=by omega
   subst this;simp[shiftF,hF,hx]
theorem pairs_len {l:List (Nat×Nat)} {n m:Nat} (hn:l.Nodup) (h:∀p∈l,p.1<n/\p.2<m):l.length<=n*m:=by
 have h1:(l.map fun p=>p.1*m+p.2).Nodup:=by
  rw[List.nodup_iff_pairwise_ne,List.pairwise_map];refine List.Pairwise.imp_of_mem ?_ hn;intro a b ha hb hne e;have h2:=h a ha;have h3:=h b hb;apply hne;have e1:a.1=b.1:=by
   have:(a.1*m+a.2) / m=(b.1*m+b.2) / m:=by rw[e]
   rw[Nat.add_comm,Nat.add_mul_div_right _ _ (by omega),Nat.div_eq_of_lt h2.2,Nat.add_comm (b.1*m),Nat.add_mul_div_right _ _ (by omega),Nat.div_eq_of_lt h3.2] at this;omega
  have e2:a.2=b.2:=by rw[e1] at e;omega
  exact Prod.ext e1 e2
 have h2:(l.map fun p=>p.1*m+p.2).Subset (List.range (n*m)):=fun k hk=>by
  obtain⟨p,hp,rfl⟩:=List.mem_map.1 hk;have:=h p hp;rw[List.mem_range];have h3:(p.1+1)*m<=n*m:=Nat.mul_le_mul_right _ this.1;rw[Nat.add_mul] at h3;omega
 have:=List.Nodup.length_le_of_subset h1 h2;simpa using this
theorem mfind_put {α:Type} [DecidableEq α] (p q:α) (v:V):∀es:List (α×V),mfind (mput es p v) q=if p=q then some v else mfind es q
 | []=>by
   simp only[mput,mfind]
 | (a,u)::r=>by
   rw[mput];by_cases h:a=p
   . rw[if_pos h];by_cases h2:p=q
     . rw[if_pos h2,mfind,if_pos (h.trans h2)]
     . rw[if_neg h2,mfind,mfind,if_neg (fun e=>h2 (h.symm.trans e)),if_neg (fun e=>h2 (h.symm.trans e))]
   . rw[if_neg h,mfind,mfind,mfind_put p q v r];by_cases h2:a=q
     . rw[if_pos h2,if_pos h2,if_neg (fun e=>h (h2.trans e.symm))]
     . rw[if_neg h2,if_neg h2]
instance instKySAny (l:List IntKind):DecidableEq (KyS l):=KyS.dec l
abbrev KP:List IntKind:=[.i64,.u32]
def kyP (p:Nat×Nat):KyT (.st KP):=((p.1:Int),(p.2:Int),())
theorem kyP_inj {p q:Nat×Nat} (h:kyP p=kyP q):p=q:=by
 have h1:(p.1:Int)=q.1:=congrArg (fun x:Int×Int×Unit=>x.1) h;have h2:(p.2:Int)=q.2:=congrArg (fun x:Int×Int×Unit=>x.2.1) h;exact Prod.ext (by omega) (by omega)
def enQ0 (L:List (Nat×Nat)):List (KyT (.st KP)×V):=L.map fun p=>(kyP p,.bool true)
theorem enQ_ex:∃f:List (Nat×Nat)->List (KyT (.st KP)×V),∀l,f l=enQ0 l:=⟨enQ0,fun _=>rfl⟩
noncomputable def enQ:List (Nat×Nat)->List (KyT (.st KP)×V):=Classical.choose enQ_ex
theorem enQ_eq (l:List (Nat×Nat)):enQ l=enQ0 l:=Classical.choose_spec enQ_ex l
theorem enQ_nil:enQ []=[]:=by rw[enQ_eq];rfl
theorem find_enQ0 (p:Nat×Nat):∀L:List (Nat×Nat),mfind (enQ0 L) (kyP p)=if p∈L then some (.bool true) else none
 | []=>by rw[if_neg (by simp)];rfl
 | q::r=>by
   have ih:=find_enQ0 p r;show(if kyP q=kyP p then some (V.bool true) else mfind (enQ0 r) (kyP p))=_;by_cases h:q=p
   . subst h;rw[if_pos rfl,if_pos (by simp)]
   . rw[if_neg (fun e=>h (kyP_inj e)),ih];have:(p∈q::r)↔p∈r:=by
      rw[List.mem_cons];exact⟨fun e=>e.elim (fun e=>(h e.symm).elim) id,.inr⟩
     simp only[this]
theorem find_enQ (p:Nat×Nat) (L:List (Nat×Nat)):mfind (enQ L) (kyP p)=if p∈L then some (.bool true) else none:=by rw[enQ_eq,find_enQ0]
theorem put_enQ0 {p:Nat×Nat}:∀{L:List (Nat×Nat)},p∉L->mput (enQ0 L) (kyP p) (.bool true)=enQ0 (L++[p])
 | [],_=>rfl
 | q::r,h=>by
   have h1:q≠p:=fun e=>h (by simp[e]);have h2:p∉r:=fun e=>h (by simp[e]);show(if kyP q=kyP p then (kyP q,V.bool true)::enQ0 r else (kyP q,V.bool true)::mput (enQ0 r) (kyP p) (.bool true))=_;rw[if_neg (fun e=>h1 (kyP_inj e)),put_enQ0 h2];rfl
theorem put_enQ {p:Nat×Nat} {L:List (Nat×Nat)} (h:p∉L):mput (enQ L) (kyP p) (.bool true)=enQ (L++[p]):=by rw[enQ_eq,enQ_eq,put_enQ0 h]
def Tsy.aft (s:Tsy) (pd:Nat) (a:Nat×Nat):Nat×Bool:=if ndiff pd a.1 &&& s.en a.2=0 then (s.en a.2,true) else (ndiff pd a.1 &&& s.en a.2,false)
theorem Tsy.aft_le (s:Tsy) (pd:Nat) (a:Nat×Nat):(s.aft pd a).1<=s.en a.2:=by
 rw[Tsy.aft];split
 . exact Nat.le_refl _
 . exact Nat.and_le_right
structure PairI (s:Tsy) (lg:Nat->Bool) (m:Nat) (L:List (Nat×Nat)):Prop where
 nodup:L.Nodup
 ok:∀p∈L,p.1<s.n/\p.2<m
 leg:∀p∈L,lg p.1=false
theorem PairI.nil (s:Tsy) (lg:Nat->Bool) (m:Nat):PairI s lg m []:=⟨.nil,fun p h=>(by cases h),fun p h=>(by cases h)⟩
theorem PairI.snoc {s:Tsy} {lg:Nat->Bool} {m:Nat} {L:List (Nat×Nat)} (h:PairI s lg m L) {p:Nat×Nat} (hp:p.1<s.n/\p.2<m) (hl:lg p.1=false) (hn:p∉L):PairI s lg m (L++[p]):=by
 refine⟨?_,fun q hq=>?_,fun q hq=>?_⟩
 . rw[List.nodup_append];exact⟨h.nodup,by simp,fun a ha b hb e=>hn (by simp at hb;rw[<- hb,<- e];exact ha)⟩
 . rcases List.mem_append.1 hq with h1|h1
   . exact h.ok q h1
   . simp at h1;subst h1;exact hp
 . rcases List.mem_append.1 hq with h1|h1
   . exact h.leg q h1
   . simp at h1;subst h1;exact hl
theorem PairI.len {s:Tsy} {lg:Nat->Bool} {m:Nat} {L:List (Nat×Nat)} (h:PairI s lg m L):L.length<=s.n*m:=pairs_len h.nodup h.ok
def gP (l:List (Nat×Nat)) (i:Nat):Nat×Nat:=l.getD i (0,0)
def vPr (l:List (Nat×Nat)):Nat->Nat->V:=fun i j=>match j with
 | 0=>.int .i64 (gP l i).1
 | _+1=>.int .u32 (gP l i).2
theorem gP_mem {l:List (Nat×Nat)} {i:Nat} (h:i<l.length):gP l i∈l:=by
 rw[gP,List.getD_eq_getElem?_getD,List.getElem?_eq_getElem h];exact List.getElem_mem h
theorem gP_snoc (l:List (Nat×Nat)) (a:Nat×Nat) (i:Nat) (h:i<l.length+1):gP (l++[a]) i=if i<l.length then gP l i else a:=by
 by_cases e:i<l.length
 . simp[gP,List.getD,e,List.getElem?_append_left e]
 . have:i=l.length:=by omega
   subst this;simp[gP,List.getD]
theorem vle_appP (l:List (Nat×Nat)) (a:Nat×Nat) (F:Nat->Nat->V) (h0:F 0 0=.int .i64 a.1) (h1:F 0 1=.int .u32 a.2) (n i j:Nat) (hn:n=l.length) (hi:i<l.length+1) (hj:j<2):VLe (fapp (shiftF 0 (vPr l)) n (shiftF 0 F) i j) (vPr (l++[a]) i j):=by
 apply VLe.of_eq;subst hn;have e:=gP_snoc l a i hi;by_cases h:i<l.length
 . rw[fapp_lt h,shiftF_eq,Nat.zero_add];rw[if_pos h] at e;rcases j with _|j
   . show V.int .i64 _=V.int .i64 _;rw[e]
   . show V.int .u32 _=V.int .u32 _;rw[e]
 . rw[fapp_ge h];rw[if_neg h] at e;obtain rfl:i=l.length:=by omega
   rw[Nat.sub_self,shiftF_eq];rcases j with _|_|j
   . show F 0 0=V.int .i64 _;rw[e,h0]
   . show F 0 1=V.int .u32 _;rw[e,h1]
   . omega
structure RQ (s:Tsy) (lg:Nat->Bool) (Q:Nat->Nat->Nat->Prop):Prop where
 zero:∀k pd,k<s.n->lg k=false->Q k pd 0
 one:∀k pd,k<s.n->lg k=false->Q k pd 1
 step:∀k pd a v,k<s.n->lg k=false->a∈s.ar k->lg a.2=false->Q a.2 (s.aft pd a).1 v->Q k pd (if (s.aft pd a).2 then 1+v else v)
 max:∀k pd a b,Q k pd a->Q k pd b->Q k pd (max a b)
structure MQ (s:Tsy) (lg:Nat->Bool) (Q:Nat->Nat->Prop):Prop where
 zero:∀k,k<s.n->lg k=false->Q k 0
 step:∀k a v,k<s.n->lg k=false->a∈s.ar k->(lg a.2=false->Q a.2 v)->(lg a.2=true->v=0)->Q k (cnt a.1 32+v)
 max:∀k a b,Q k a->Q k b->Q k (max a b)
def uV (l:List Nat):V:=.fz l.length 1 false fun i _=>.int .u32 (gQ l i)
end Go.Eng
namespace Go.Eng
open Go.Plain
def lenQ (F:Nat->List Nat):Nat->Nat:=fun t=>(F t).length
def rowQ (F:Nat->List Nat):Nat->Nat->Nat->V:=fun t=>vQ (F t)
def appQ (F:Nat->List Nat) (t x:Nat):Nat->List Nat:=fun u=>if u=t then F u++[x] else F u
def opnI (b:Bool) (t q:Nat):List (Nat×Nat):=if b then[(t,q)] else[]
theorem lenQ_app (F:Nat->List Nat) (t x i:Nat):lenQ (appQ F t x) i=if i=t then (F t).length+1 else lenQ F i:=by
 rw[lenQ,appQ];by_cases h:i=t
 . subst h;simp
 . rw[if_neg h,if_neg h];rfl
theorem fam_appQ {F F':Nat->List Nat} {t x n:Nat} (hF:F'=appQ F t x) {g:Nat->Nat->V} (hg:∀j u,j<(F t).length+1->u<1->VLe (g j u) (vQ (F t++[x]) j u)) (ρ:Rn) :
 BRen ρ (.fam n 1 (setN (lenQ F) t ((F t).length+1)) (setF (rowQ F) t g) []) (.fam n 1 (lenQ F') (rowQ F') []):=by
 subst hF;refine⟨rfl,rfl,True.intro,fun i hi=>?_,fun i j u hi hn hj hu=>?_⟩
 . rw[lenQ_app];rfl
 . simp only[setF,rowQ,appQ];simp only[setN] at hj;by_cases e:i=t
   . rw[if_pos e,if_pos e];rw[if_pos e] at hj;rw[e];exact hg j u hj hu
   . rw[if_neg e,if_neg e];exact VLe.rfl
theorem ksC {c:List Nat} {q:Nat} {chg:List Nat} (h:memN q chg=true):∀k,k∈(q::c)->k∈c\/k∈chg:=fun k hk=>by
 rcases List.mem_cons.1 hk with e|e
 . exact .inr (by rw[e];exact memN_iff.1 h)
 . exact .inl e
theorem ksS {a b chg:List Nat} (h:(a.all fun k=>memN k b)=true):∀k,k∈a->k∈b\/k∈chg:=fun k hk=>.inl (memN_iff.1 (List.all_eq_true.1 h k hk))
def srcsP (s:Tsy) (k i:Nat):Nat->List Nat:=fun t=>An.srcs k s.to t++List.replicate (((s.to k).take i).count t) k
theorem srcsP_zero (s:Tsy) (k t:Nat):srcsP s k 0 t=An.srcs k s.to t:=by simp[srcsP]
theorem srcsP_row (s:Tsy) (k t:Nat):srcsP s k (s.ar k).length t=srcsP s (k+1) 0 t:=by
 have h:(s.to k).take (s.ar k).length=s.to k:=List.take_of_length_le (by simp[Tsy.to]);rw[srcsP_zero,srcsP,h,An.srcs,An.srcs,List.range_succ,List.flatMap_append];simp
theorem srcsP_step (s:Tsy) (k i:Nat) (hi:i<(s.ar k).length):srcsP s k (i+1)=appQ (srcsP s k i) (gA (s.ar k) i).2 k:=by
 funext t;have hto:(s.to k).getD i 0=(gA (s.ar k) i).2:=by
  simp[Tsy.to,gA,List.getD_eq_getElem?_getD,List.getElem?_eq_getElem hi]
 have hc:=An.count_take_next (l:=s.to k) (q:=i) (by simpa[Tsy.to] using hi) t;rw[hto] at hc;rw[appQ,srcsP,srcsP,hc];by_cases h:t=(gA (s.ar k) i).2
 . subst h;rw[if_pos rfl,if_pos rfl,List.append_assoc,<- List.replicate_succ']
 . rw[if_neg h,if_neg (fun e=>h e.symm),Nat.add_zero]
theorem srcs_len (s:Tsy) (t:Nat):∀k,(An.srcs k s.to t).length<=s.tot k
 | 0=>Nat.le_refl _
 | k+1=>by
   have ih:=srcs_len s t k;have h1:An.srcs (k+1) s.to t=An.srcs k s.to t++List.replicate ((s.to k).count t) k:=by
    rw[An.srcs,An.srcs,List.range_succ,List.flatMap_append];simp
   have h2:=List.count_le_length (a:=t) (l:=s.to k);have h3:(s.to k).length=(s.ar k).length:=by simp[Tsy.to]
   have h4:s.tot (k+1)=s.tot k+(s.ar k).length:=rfl;rw[h1,List.length_append,List.length_replicate,h4];omega
theorem srcsP_len {s:Tsy} (hs:s.Ok) {k i:Nat} (hk:k<s.n) (hi:i<=(s.ar k).length) (t:Nat):lenQ (srcsP s k i) t<=262144:=by
 have h1:=srcs_len s t k;have h2:=sumA_mono (fun k=>(s.ar k).length) (show k+1<=s.n by omega);have h3:s.tot (k+1)=s.tot k+(s.ar k).length:=rfl;have h4:=hs.tot;change s.tot (k+1)<=s.tot s.n at h2;have h5:=List.count_le_length (a:=t) (l:=(s.to k).take i);have h6:((s.to k).take i).length<=i:=List.length_take_le _ _;rw[lenQ,srcsP,List.length_append,List.length_replicate];omega
theorem srcsP_start (s:Tsy) (t:Nat):srcsP s 0 0 t=[]:=by simp[srcsP,An.srcs]
end Go.Eng
namespace Go.Proofs.YtobpogkghbakmaaGreatDoor
open Go.Eng Go.Plain
set_option maxRecDepth 100000
set_option linter.unusedVariables false
def befS (l:List (Nat×Nat)) (i:Nat):Nat:=if i=0 then 0 else (gA l (i-1)).1
theorem svalid1_ok (e:Nat) (l:List (Nat×Nat)) (n:Nat) (he:e<16777216) (hne:e≠0↔l≠[]) (hs:l.Pairwise fun a b=>a.1<b.1) (ha:∀a∈l,a.1≠0/\Part a.1 e/\a.2<n) (hn:n<=32768) (hl:l.length<=262144) :
 Ret Tryz.prog 169 [.int .u32 e,arV l,.int .i64 n] (.bool true):=by
 have h24:(e:Int).fdiv (2 ^ (min (24:Int).toNat IntKind.u32.bits))=0:=by
  have:(min (24:Int).toNat IntKind.u32.bits)=24:=by decide
  rw[this,fdiv_shr,Nat.shiftRight_eq_div_pow,Nat.div_eq_of_lt (by omega)];rfl
 have hlen:e≠0↔0<l.length:=by rw[hne,List.length_pos_iff]
 have hl0:e=0->l.length=0:=fun h=>by
  rcases Nat.eq_zero_or_pos l.length with q|q
  . exact q
  . exact(hlen.2 q h).elim
 have hl1:l.length=0->e=0:=fun h=>Classical.byContradiction fun q=>by have:=hlen.1 q;omega
 refine ret_frz rfl ?_;refine fn_rule mixed Tryz.func169 rfl hc169 hr169 rfl ?_;have hcase:(e=0/\l.length=0)\/(e≠0/\0<l.length):=by
  rcases Nat.eq_zero_or_pos e with h|h
  . exact .inl ⟨h,hl0 h⟩
  . exact .inr ⟨by omega,hlen.1 (by omega)⟩
 rcases hcase with ⟨e1,e2⟩ | ⟨e1,e2⟩
 . repeat' ((conv=>whnf);first|(refine Sv.mk 0 h24.symm ?_)|(refine Br.ff ?_)|(refine Br.dec ?_ ?_<;>intro _<;>try omega)|(refine Br.bne ?_ ?_<;>intro _<;>try omega)|(refine Nn.mk (by omega) ?_))
   all_goals (conv=>whnf)
   refine loop_r mixed [0,2,21,22] (fun i:Nat=>[(7,.int .u32 (befS l i)),(23,.int .i64 i)]) (fun m i=>m=l.length-i/\i<=l.length) l.length 0 ⟨rfl,Nat.zero_le _⟩ ?_ ?_
   . exact weak_b (fun _ _=>[])
   rintro m i ⟨hm,hi⟩
   repeat' ((conv=>whnf);first|(refine Br.dec ?_ ?_<;>intro _<;>try omega))
   all_goals (conv=>whnf)
   exact VLe.rfl
 . repeat' ((conv=>whnf);first|(refine Sv.mk 0 h24.symm ?_)|(refine Br.ff ?_)|(refine Br.dec ?_ ?_<;>intro _<;>try omega)|(refine Br.bne ?_ ?_<;>intro _<;>try omega)|(refine Nn.mk (by omega) ?_))
   all_goals (conv=>whnf)
   refine loop_r mixed [0,2,21,22] (fun i:Nat=>[(7,.int .u32 (befS l i)),(23,.int .i64 i)]) (fun m i=>m=l.length-i/\i<=l.length) l.length 0 ⟨rfl,Nat.zero_le _⟩ ?_ ?_
   . exact weak_b (fun _ _=>[])
   rintro m i ⟨hm,hi⟩;by_cases hil:i<l.length
   . obtain⟨a1,a2,a3⟩:=ha _ (gA_mem hil);have a4:=a2.le;have a5:befS l i<(gA l i).1:=by
      rw[befS];split
      . omega
      . exact gA_lt hs (by omega) hil
     have hnx:befS l (i+1)=(gA l i).1:=by rw[befS,if_neg (by omega),Nat.add_sub_cancel]
     have hd:bitI .andNot .u32 ((gA l i).1:Int) (e:Int)=0:=by rw[bit_andNot (by omega) (by omega),(part_iff (by omega)).2 a2];rfl
     generalize befS l i=b at *
     repeat' ((conv=>whnf);first|(refine Sv.mk 0 hd.symm ?_)|(refine Br.ff ?_)|(refine Br.dec ?_ ?_<;>intro _<;>try omega)|(refine Ar.i64 (by omega) (by omega) ?_)|(refine Ix.nat (by omega) ?_))
     all_goals (conv=>whnf)
     refine⟨l.length-(i+1),i+1,by omega,⟨rfl,by omega⟩,?_⟩;simp only[hnx];exact weak_b (fun _ _=>[])
   . repeat' ((conv=>whnf);first|(refine Br.dec ?_ ?_<;>intro _<;>try omega))
     all_goals (conv=>whnf)
     exact VLe.rfl
theorem svalid_ok (s:Tsy) (hs:s.Ok):Ret Tryz.prog 140 [s.v] (.bool true):=by
 have n1:=hs.n1;have n2:=hs.n2;refine ret_frz rfl ?_;refine fn_rule mixed Tryz.func140 rfl hc140 hr140 rfl ?_
 repeat' ((conv=>whnf);first|(refine Br.dec ?_ ?_<;>intro _<;>try omega)|(refine Br.bne ?_ ?_<;>intro _<;>try omega))
 all_goals (conv=>whnf)
 refine loop_r mixed [1,3,22] (fun k:Nat=>[(4,.int .i64 (s.tot k)),(23,.int .i64 k)]) (fun m k=>m=s.n-k/\k<=s.n) s.n 0 ⟨rfl,Nat.zero_le _⟩ ?_ ?_
 . exact weak_b (fun _ _=>[(0,some 0)])
 rintro m k ⟨hm,hk⟩;by_cases hkn:k<s.n
 . have h1:=svalid1_ok (s.en k) (s.ar k) s.n (hs.en k hkn) (hs.ne k hkn) (hs.sort k hkn) (hs.arc k hkn) n2 (hs.row hkn);have ht:=hs.tot;have ht2:=sumA_mono (fun k=>(s.ar k).length) (show k+1<=s.n by omega);have ht3:s.tot (k+1)=s.tot k+(s.ar k).length:=rfl;change s.tot (k+1)<=s.tot s.n at ht2;generalize s.tot k=t at *
   repeat' ((conv=>whnf);first|(refine Br.tt ?_)|(refine Br.dec ?_ ?_<;>intro _<;>try omega)|(refine Ar.i64 (by omega) (by omega) ?_)|(refine Ix.nat (by omega) ?_)|(refine h1.go ?_))
   all_goals (conv=>whnf)
   all_goals first
    | (exfalso;omega)
    | (refine⟨s.n-(k+1),k+1,by omega,⟨rfl,by omega⟩,?_⟩
       simp only[ht3];exact weak_b (fun _ _=>[(0,some 0)]))
 . repeat' ((conv=>whnf);first|(refine Br.dec ?_ ?_<;>intro _<;>try omega))
   all_goals (conv=>whnf)
   exact VLe.rfl
theorem ccheck_ok (s:Tsy) (hs:s.Ok) (lg:Nat->Bool):Ret Tryz.prog 105 [s.v,blV s.n lg] (.int .i64 0):=by
 have n2:=hs.n2;have h1:=svalid_ok s hs;refine ret_frz rfl ?_;refine fn_rule mixed Tryz.func105 rfl hc105 hr105 rfl ?_
 repeat' ((conv=>whnf);first|(refine Br.tt ?_)|(refine Br.bne ?_ ?_<;>intro _<;>try omega)|(refine h1.go ?_))
 all_goals (conv=>whnf)
 exact VLe.rfl
def lightG (g:G):Bool:=decide (g.ids.length<=30/\g.ports.length<=30/\∀v,v<g.ports.length->(gR g.ports v).length<=30)
theorem light_ok (g:G) (hs:g.Small):Ret Tryz.prog 4 [g.v] (.bool (lightG g)):=by
 have s1:=hs.ids;have s2:=hs.ports;refine ret_frz rfl ?_;refine fn_rule mixed Tryz.func4 rfl hc4 hr4 rfl ?_;by_cases h:g.ids.length<=30/\g.ports.length<=30
 . obtain⟨h1,h2⟩:=h
   repeat' ((conv=>whnf);first|(refine Br.dec ?_ ?_<;>intro _<;>try omega))
   all_goals (conv=>whnf)
   refine loop_r mixed [1] (fun i:Nat=>[(3,.int .i64 i)]) (fun m i=>m=g.ports.length-i/\i<=g.ports.length/\∀v,v<i->(gR g.ports v).length<=30) g.ports.length 0 ⟨rfl,Nat.zero_le _,fun v hv=>by omega⟩ ?_ ?_
   . exact weak_b (fun _ _=>[(0,some 0)])
   rintro m i ⟨hm,hi,hall⟩;by_cases hil:i<g.ports.length
   . by_cases h3:(gR g.ports i).length<=30
     . repeat' ((conv=>whnf);first|(refine Br.dec ?_ ?_<;>intro _<;>try omega)|(refine Ar.i64 (by omega) (by omega) ?_)|(refine Ix.nat (by omega) ?_))
       all_goals (conv=>whnf)
       refine⟨g.ports.length-(i+1),i+1,by omega,⟨rfl,by omega,fun v hv=>?_⟩,?_⟩
       . by_cases e:v=i
         . subst e;exact h3
         . exact hall v (by omega)
       . exact weak_b (fun _ _=>[(0,some 0)])
     . repeat' ((conv=>whnf);first|(refine Br.dec ?_ ?_<;>intro _<;>try omega)|(refine Ix.nat (by omega) ?_))
       all_goals (conv=>whnf)
       exact VLe.bool (decide_eq_false (fun q=>h3 (q.2.2 i hil))).symm
   . repeat' ((conv=>whnf);first|(refine Br.dec ?_ ?_<;>intro _<;>try omega))
     all_goals (conv=>whnf)
     exact VLe.bool (decide_eq_true (⟨h1,h2,fun v hv=>hall v (by omega)⟩:g.ids.length<=30/\g.ports.length<=30/\∀v,v<g.ports.length->(gR g.ports v).length<=30)).symm
 . have hf:lightG g=false:=decide_eq_false (fun q=>h ⟨q.1,q.2.1⟩);rw[hf];by_cases h1:g.ids.length<=30
   . have h2:¬ g.ports.length<=30:=fun q=>h ⟨h1,q⟩
     repeat' ((conv=>whnf);first|(refine Br.dec ?_ ?_<;>intro _<;>try omega))
     all_goals (conv=>whnf)
     all_goals exact VLe.rfl
   . repeat' ((conv=>whnf);first|(refine Br.dec ?_ ?_<;>intro _<;>try omega))
     all_goals (conv=>whnf)
     all_goals exact VLe.rfl
def md4 (k:Int):Int:=if k.tmod 4<0 then k.tmod 4+4 else k.tmod 4
theorem md4_range (k:Int):0<=md4 k/\md4 k<=3:=by
 have h1:=Int.tmod_lt_of_pos k (show(0:Int)<4 by omega);have h2:-4<k.tmod 4:=by
  have:=Int.tmod_lt_of_pos (-k) (show(0:Int)<4 by omega);rw[Int.neg_tmod] at this;omega
 rw[md4];split<;>omega
theorem mod4_ok (k:Int) (hk:-9223372036854775808<=k/\k<=9223372036854775807):Ret Tryz.prog 10 [.int .i64 k,.int .i64 4] (.int .i64 (md4 k)):=by
 have h1:=Int.tmod_lt_of_pos k (show(0:Int)<4 by omega);have h2:-4<k.tmod 4:=by
  have:=Int.tmod_lt_of_pos (-k) (show(0:Int)<4 by omega);rw[Int.neg_tmod] at this;omega
 refine ret_frz rfl ?_;refine fn_rule mixed Tryz.func10 rfl hc10 hr10 rfl ?_;by_cases h:k.tmod 4<0
 . rw[md4,if_pos h]
   repeat' ((conv=>whnf);first|(refine Br.dec ?_ ?_<;>intro _<;>try omega)|(refine Ar.i64 (by omega) (by omega) ?_)|(refine Sv.mk _ rfl ?_)|(refine Nz.mk (by omega) ?_))
   all_goals (conv=>whnf)
   all_goals exact VLe.rfl
 . rw[md4,if_neg h]
   repeat' ((conv=>whnf);first|(refine Br.dec ?_ ?_<;>intro _<;>try omega)|(refine Sv.mk _ rfl ?_)|(refine Nz.mk (by omega) ?_))
   all_goals (conv=>whnf)
   all_goals exact VLe.rfl
theorem arcs18_ok (e:Nat) (l:List (Nat×Nat)) (n:Nat) (he:e<16777216) (hne:e≠0↔l≠[]) (hs:l.Pairwise fun a b=>a.1<b.1) (ha:∀a∈l,a.1≠0/\Part a.1 e/\a.2<n) (hn:n<=32768) (hl:l.length<=262144) :
 Ret Tryz.prog 59 [arV l,.int .u32 e,.int .i64 n] (.bool true):=by
 have hlen:e≠0↔0<l.length:=by rw[hne,List.length_pos_iff]
 refine ret_frz rfl ?_;refine fn_rule mixed Tryz.func59 rfl hc59 hr59 rfl ?_;have hcase:(e=0/\l.length=0)\/(e≠0/\0<l.length):=by
  rcases Nat.eq_zero_or_pos e with h|h
  . refine .inl ⟨h,?_⟩;rcases Nat.eq_zero_or_pos l.length with q|q
    . exact q
    . exact(hlen.2 q h).elim
  . exact .inr ⟨by omega,hlen.1 (by omega)⟩
 rcases hcase with ⟨e1,e2⟩ | ⟨e1,e2⟩
 . repeat' ((conv=>whnf);first|(refine Br.ff ?_)|(refine Br.dec ?_ ?_<;>intro _<;>try omega)|(refine Br.bne ?_ ?_<;>intro _<;>try omega))
   all_goals (conv=>whnf)
   refine loop_r mixed [0,1,2] (fun i:Nat=>[(7,.int .i64 i)]) (fun m i=>m=l.length-i/\i<=l.length) l.length 0 ⟨rfl,Nat.zero_le _⟩ ?_ ?_
   . exact weak_b (fun _ _=>[])
   rintro m i ⟨hm,hi⟩
   repeat' ((conv=>whnf);first|(refine Br.dec ?_ ?_<;>intro _<;>try omega))
   all_goals (conv=>whnf)
   exact VLe.rfl
 . repeat' ((conv=>whnf);first|(refine Br.ff ?_)|(refine Br.dec ?_ ?_<;>intro _<;>try omega)|(refine Br.bne ?_ ?_<;>intro _<;>try omega))
   all_goals (conv=>whnf)
   refine loop_r mixed [0,1,2] (fun i:Nat=>[(7,.int .i64 i)]) (fun m i=>m=l.length-i/\i<=l.length) l.length 0 ⟨rfl,Nat.zero_le _⟩ ?_ ?_
   . exact weak_b (fun _ _=>[])
   rintro m i ⟨hm,hi⟩;by_cases hil:i<l.length
   . obtain⟨a1,a2,a3⟩:=ha _ (gA_mem hil);have a4:=a2.le;have hd:bitI .andNot .u32 ((gA l i).1:Int) (e:Int)=0:=by rw[bit_andNot (by omega) (by omega),(part_iff (by omega)).2 a2];rfl
     have hin:=in_ok ((gA l i).2:Int) 0 ((n:Int)-1);rw[decide_eq_true (by omega)] at hin;by_cases h0:i=0
     . subst h0
       repeat' ((conv=>whnf);first|(refine Sv.mk 0 hd.symm ?_)|(refine Br.tt ?_)|(refine Br.ff ?_)|(refine Br.dec ?_ ?_<;>intro _<;>try omega)|(refine Ar.i64 (by omega) (by omega) ?_)|(refine Ix.nat (by omega) ?_)|(refine hin.go ?_))
       all_goals (conv=>whnf)
       all_goals first
        | (exfalso;omega)
        | (refine⟨l.length-(0+1),0+1,by omega,⟨rfl,by omega⟩,?_⟩
           exact weak_b (fun _ _=>[]))
     . have a5:(gA l (i-1)).1<(gA l i).1:=gA_lt hs (by omega) hil
       repeat' ((conv=>whnf);first|(refine Sv.mk 0 hd.symm ?_)|(refine Ix.mk (i-1) (by omega) (by omega) ?_)|(refine Br.tt ?_)|(refine Br.ff ?_)|(refine Br.dec ?_ ?_<;>intro _<;>try omega)|(refine Ar.i64 (by omega) (by omega) ?_)|(refine Ix.nat (by omega) ?_)|(refine hin.go ?_))
       all_goals (conv=>whnf)
       all_goals first
        | (exfalso;omega)
        | (refine⟨l.length-(i+1),i+1,by omega,⟨rfl,by omega⟩,?_⟩
           exact weak_b (fun _ _=>[]))
   . repeat' ((conv=>whnf);first|(refine Br.dec ?_ ?_<;>intro _<;>try omega))
     all_goals (conv=>whnf)
     exact VLe.rfl
theorem valid18_ok (s:Tsy) (hs:s.Ok):Ret Tryz.prog 24 [s.v] (.bool true):=by
 have n1:=hs.n1;have n2:=hs.n2;have hin:=in_ok (s.n:Int) 1 32768;rw[decide_eq_true (by omega)] at hin;have hall:=rall_ok 24 (by omega);have hf:full 24=16777215:=by decide
 rw[hf] at hall;refine ret_frz rfl ?_;refine fn_rule mixed Tryz.func24 rfl hc24 hr24 rfl ?_
 repeat' ((conv=>whnf);first|(refine Br.tt ?_)|(refine Br.bne ?_ ?_<;>intro _<;>try omega)|(refine hin.go ?_))
 all_goals (conv=>whnf)
 refine loop_r mixed [1,3] (fun k:Nat=>[(4,.int .i64 (s.tot k)),(5,.int .i64 k)]) (fun m k=>m=s.n-k/\k<=s.n) s.n 0 ⟨rfl,Nat.zero_le _⟩ ?_ ?_
 . exact weak_b (fun _ _=>[(0,some 0)])
 rintro m k ⟨hm,hk⟩;by_cases hkn:k<s.n
 . have h1:=arcs18_ok (s.en k) (s.ar k) s.n (hs.en k hkn) (hs.ne k hkn) (hs.sort k hkn) (hs.arc k hkn) n2 (hs.row hkn);have ht:=hs.tot;have ht2:=sumA_mono (fun k=>(s.ar k).length) (show k+1<=s.n by omega);have ht3:s.tot (k+1)=s.tot k+(s.ar k).length:=rfl;have hen:=hs.en k hkn;have hd:bitI .andNot .u32 (s.en k:Int) 16777215=0:=by
    have:=bit_andNot (a:=s.en k) (b:=16777215) (by omega) (by omega);rw[nd24 hen] at this;exact this
   change s.tot (k+1)<=s.tot s.n at ht2;generalize s.tot k=t at *
   repeat' ((conv=>whnf);first|(refine Sv.mk 0 hd.symm ?_)|(refine Br.tt ?_)|(refine Br.ff ?_)|(refine Br.dec ?_ ?_<;>intro _<;>try omega)|(refine Ar.i64 (by omega) (by omega) ?_)|(refine Ix.nat (by omega) ?_)|(refine h1.go ?_)|(refine hall.go ?_)|(refine And.intro rfl ?_))
   all_goals (conv=>whnf)
   all_goals first
    | (exfalso;omega)
    | (refine⟨s.n-(k+1),k+1,by omega,⟨rfl,by omega⟩,?_⟩
       simp only[ht3];exact weak_b (fun _ _=>[(0,some 0)]))
 . repeat' ((conv=>whnf);first|(refine Br.dec ?_ ?_<;>intro _<;>try omega))
   all_goals (conv=>whnf)
   exact VLe.rfl
end Go.Proofs.YtobpogkghbakmaaGreatDoor
namespace Go.Proofs.YtobpogkghbakmaaGreatDoor
open Go.Eng
set_option maxRecDepth 100000
def textK:C:=(.str 75 958954176738384771924702422111511911544110482939806858974280425429575098598422230438626101274097334780293910657822040401209410379130964618491132456158977708537816154392283248030320)
def aggK:C:=(.agg [(.str 7 32495471027842915),(.fz 1 6 false [] [[(.str 1 99),(.int .i64 1),(.int .i64 0),(.int .i64 0),(.int .i64 1),(.int .i64 0)]]),(.fz 1 3 false [] [[(.str 3 7891302),(.fz 4 2 false [] [[(.int .i64 21),(.int .i64 0)],[(.int .i64 35),(.int .i64 0)],[(.int .i64 12),(.int .i64 0)],[(.int .i64 5),(.int .i64 0)]]),(.fz 1 2 false [] [[(.int .i64 0),(.fz 2 2 false [] [[(.int .i64 27),(.int .i64 0)],[(.int .i64 12),(.int .i64 0)]])]])]])])
def progK:C:=.tup [aggK,.int .i64 0,.int .i64 0]
theorem ev_parseK:evX tf 10000 100 8 [textK]=some progK:=by kernel_rfl
theorem ev_checkK:evX tf 10000 100 22 [aggK]=some (.int .i64 0):=by kernel_rfl
end Go.Proofs.YtobpogkghbakmaaGreatDoor
namespace Go.Proofs.YtobpogkghbakmaaGreatDoor
open Go.Eng
set_option maxRecDepth 100000
set_option linter.unusedVariables false
theorem copyR_ok (c:Cf) (hc:c.length<=1000) (hr:∀v,v<c.length->(gC c v).length<=1000):Ret Tryz.prog 113 [cV c] (cV c):=by
 refine ret_frz rfl ?_;refine(copy_ok c hc hr).mono ?_;rintro v own' _ ⟨rfl,rfl⟩
 conv=>whnf
 refine Len.mk (by omega) ?_;exact VLe.fz rfl (fun h=>h) (fun i j hi hj=>VLe.of_eq (by rw[shiftF_eq,Nat.zero_add]))
theorem rcheck_ok (p:Pr) (hp:PrOk p) (g:G) (hs:g.Small) (hg:g.valid=true) (c:Cf) (hc:Conf p g c) (k:Int) (hk:dk k=true) (n:Nat) (hn:n<=4096):Ret Tryz.prog 32 [p.v,g.v,.int .i64 k,cV c,.int .i64 n] (.int .i64 0):=by
 have h1:=check_ok p hp g hs hg c hc;have h2:=dvalid_ok k;rw[hk] at h2;refine ret_frz rfl ?_;refine fn_rule mixed Tryz.func32 rfl hc32 hr32 rfl ?_
 repeat' ((conv=>whnf);first|(refine Br.tt ?_)|(refine Br.ff ?_)|(refine Br.dec ?_ ?_<;>intro _<;>try omega)|(refine h1.go ?_)|(refine h2.go ?_))
 all_goals (conv=>whnf)
 all_goals exact VLe.rfl
theorem en_and (p:Pr) {g:G} (hg:g.valid=true) (c:Cf):bitI .and .u32 (enN p g c:Int) (full g.ids.length:Nat)=(enN p g c:Nat):=by
 obtain⟨f1,f2,f3,f4,f5,f6,f7⟩:=val_facts hg;rw[bit_and (en_32 p hg c) (by rw[full];exact nb_lt _ (by omega))];congr 1;apply Nat.eq_of_testBit_eq;intro i;rw[Nat.testBit_and];cases e:(enN p g c).testBit i with
 | false=>rfl
 | true =>
   have:=en_part p hg c i e;rw[f3] at this;rw[this];rfl
structure RunS where
 c:Cf
 n:Cnt
 pre:List (Cf×Cnt)
 ch:List Nat
 en:List Nat
structure RunI (p:Pr) (g:G) (k:Int) (c0:Cf) (n0:Cnt) (ws:List Nat) (x:RunS):Prop where
 le:x.ch.length<=ws.length
 conf:Conf p g x.c
 ok:x.n.Ok
 steps:x.n.steps=x.ch.length
 pl:x.pre.length=x.ch.length
 el:x.en.length=x.ch.length+1
 tot:trc p g k c0 n0 ws=x.pre++trc p g k x.c x.n (ws.drop x.ch.length)
 cho:chsL p g k c0 ws=x.ch++chsL p g k x.c (ws.drop x.ch.length)
def cntC (k:Cnt):List V:=[.int .i64 k.steps,.int .i64 k.moves,.int .i64 k.rounds,.int .i64 k.begun,.int .u32 k.pend]
theorem ws_drop {ws:List Nat} {i:Nat} (h:i<ws.length):ws.drop i=ws.getD i 0::ws.drop (i+1):=by
 rw[List.drop_eq_getElem_cons h];simp[List.getD,h]
theorem run_start {p:Pr} {g:G} (hg:g.valid=true) {k:Int} {c:Cf} (hc:Conf p g c) (ws:List Nat):RunI p g k c (cnt0 (enN p g c)) ws ⟨c,cnt0 (enN p g c),[],[],[enN p g c]⟩ :=
 ⟨Nat.zero_le _,hc,cnt0_ok (en_24 p hg c),rfl,rfl,rfl,rfl,rfl⟩
theorem run_next {p:Pr} (hp:PrOk p) {g:G} (hg:g.valid=true) {k:Int} (hk:dk k=true) {c0:Cf} {n0:Cnt} {ws:List Nat} (hl:ws.length<=4000) {x:RunS} (hx:RunI p g k c0 n0 ws x) (hi:x.ch.length<ws.length) (h0:enN p g x.c≠0) :
 RunI p g k c0 n0 ws ⟨nxC p g k x.c (ws.getD x.ch.length 0),nxK p g k x.c x.n (ws.getD x.ch.length 0),x.pre++[(x.c,x.n)],x.ch++[chC p g k x.c (ws.getD x.ch.length 0)],x.en++[enN p g (nxC p g k x.c (ws.getD x.ch.length 0))]⟩:=by
 obtain⟨k1,k2⟩:=nx_ok hg hk hx.ok (by have:=hx.steps;omega) (ws.getD x.ch.length 0) h0 (k:=k);have ht:=hx.tot;have hc:=hx.cho;rw[ws_drop hi,trc,if_neg h0] at ht;rw[ws_drop hi,chsL,if_neg h0] at hc;refine⟨by simp only[List.length_append,List.length_singleton];omega,nx_conf hp hg hk hx.conf _ h0,k1,?_,?_,?_,?_,?_⟩
 . simp only[List.length_append,List.length_singleton];rw[k2,hx.steps]
 . simp only[List.length_append,List.length_singleton];rw[hx.pl]
 . simp only[List.length_append,List.length_singleton];rw[hx.el]
 . simp only[List.length_append,List.length_singleton];rw[ht];simp
 . simp only[List.length_append,List.length_singleton];rw[hc];simp
theorem run_end {p:Pr} {g:G} {k:Int} {c0:Cf} {n0:Cnt} {ws:List Nat} {x:RunS} (hx:RunI p g k c0 n0 ws x) (h:x.ch.length=ws.length\/enN p g x.c=0):trc p g k c0 n0 ws=x.pre++[(x.c,x.n)]/\chsL p g k c0 ws=x.ch:=by
 have ht:=hx.tot;have hc:=hx.cho;by_cases e:x.ch.length<ws.length
 . have h0:enN p g x.c=0:=by rcases h with h|h;omega;exact h
   rw[ws_drop e,trc,if_pos h0] at ht;rw[ws_drop e,chsL,if_pos h0] at hc;exact⟨ht,by simpa using hc⟩
 . rw[List.drop_of_length_le (by omega)] at ht hc;exact⟨ht,by simpa[chsL] using hc⟩
theorem vle_appU7 (l:List Nat) (a:Nat) (F:Nat->Nat->V) (x:Int) (hF:F 0 0=.int .u32 x) (hx:x=a) (i j:Nat) (hi:i<(l++[a]).length) (hj:j<1):VLe (fapp (shiftF 0 (vU7 l)) l.length (shiftF 0 F) i j) (vU7 (l++[a]) i j):=by
 obtain rfl:j=0:=by omega
 apply VLe.of_eq;simp only[List.length_append,List.length_singleton] at hi;by_cases h:i<l.length
 . rw[fapp_lt h,shiftF_eq,Nat.zero_add];simp[vU7,List.getD,List.getElem?_append_left h]
 . rw[fapp_ge h];have:i=l.length:=by omega
   subst this;simp[shiftF,hF,vU7,hx]
theorem vle_e0 {X:V} {F:Nat->Nat->V} (h:F 0 0=X) (i j:Nat) (hi:i<1) (hj:j<1):VLe (shiftF 0 (tab [[X]]) i j) (F i j):=by
 obtain rfl:i=0:=by omega
 obtain rfl:j=0:=by omega
 rw[h];exact VLe.rfl
def trcV (ch en:List Nat) (c:Cf) (n:Cnt):V:=.agg [.fz ch.length 1 false (vU7 ch),.fz en.length 1 false (vU7 en),cV c,.int .i64 n.steps,.int .i64 n.moves,.int .i64 n.rounds,.int .i64 n.begun,.int .u32 n.pend]
structure FolI (p:Pr) (g:G) (k:Int) (c0:Cf) (n0:Cnt) (ws:List Nat) (x:RunS):Prop where
 run:RunI p g k c0 n0 ws x
 ens:x.en=x.pre.map (fun y=>enN p g y.1)++[enN p g x.c]
theorem lastOf {p:Pr} {g:G} {k:Int} {c0:Cf} {n0:Cnt} {ws:List Nat} {x:RunS} (h:trc p g k c0 n0 ws=x.pre++[(x.c,x.n)]):lastC (trc p g k c0 n0 ws)=x.c:=by
 rw[h];simp[lastC]
theorem lastK {p:Pr} {g:G} {k:Int} {c0:Cf} {n0:Cnt} {ws:List Nat} {x:RunS} (h:trc p g k c0 n0 ws=x.pre++[(x.c,x.n)]):((trc p g k c0 n0 ws).getLast?.getD default).2=x.n:=by
 rw[h];simp
def ensL (p:Pr) (g:G) (L:List (Cf×Cnt)):List Nat:=L.map fun x=>enN p g x.1
def folV (p:Pr) (g:G) (k:Int) (c:Cf) (n:Cnt) (ws:List Nat):V:=trcV (chsL p g k c ws) (ensL p g (trc p g k c n ws)) (lastC (trc p g k c n ws)) ((trc p g k c n ws).getLast?.getD default).2
set_option maxHeartbeats 16000000 in
theorem follow_ok (p:Pr) (hp:PrOk p) (g:G) (hs:g.Small) (hg:g.valid=true) (k:Int) (hk:dk k=true) (c:Cf) (hc:Conf p g c) (ws:List Nat) (hwl:ws.length<=1000) (hw:∀w∈ws,w<4294967296) :
 RG 18 [p.v,g.v,.int .i64 k,cV c,.fz ws.length 1 false (vU7 ws)] (.tup [folV p g k c (cnt0 (enN p g c)) ws,.int .i64 0]):=by
 obtain⟨f1,f2,f3,f4,f5,f6,f7⟩:=val_facts hg;have hcl:=hc.len;have hvl:=hp.vlen;have h1:=rcheck_ok p hp g hs hg c hc k hk ws.length (by omega);have h2:=mover_ok p hp g hg;have h3:=newnet_ok g hs hg;have h4:=all_ok g hg;have h5:=copyR_ok c (by omega) (fun v hv=>by have:=hc.row v hv;omega);have h6:=men_ok p hp g hg c hc;have h7:=begin_ok (enN p g c) (en_24 p hg c);have ha:=en_and p hg c;refine ret_frzG2 rfl ?_;refine fn_rule mixed Tryz.func18 rfl hc18 hr18 rfl ?_
 repeat' ((conv=>whnf);first|(refine Sv.mk _ ha.symm ?_)|(refine Br.ff ?_)|(refine Len.mk (by omega) ?_)|(refine h1.go ?_)|(refine h2.go ?_)|(refine h3.go ?_)|(refine h4.go ?_)|(refine h5.go ?_)|(refine h6.go ?_)|(refine h7.go ?_)|(refine fn_rule mixed Tryz.func33 rfl hc33 hr33 rfl ?_)|(refine fn_rule mixed Tryz.func35 rfl hc35 hr35 rfl ?_)|(refine fn_rule mixed Tryz.func71 rfl hc71 hr71 rfl ?_)|(refine fn_rule mixed Tryz.func34 rfl hc34 hr34 rfl ?_)|(refine Chk.mk (by kernel_rfl) ?_)|(refine And.intro rfl ?_))
 all_goals (conv=>whnf)
 refine loop_w mixed [3,4,8,10,12,39] [15,16] [17,18,19,20,21,22,23,24,25,26,27,28,29,30,31,32,33,34,35,36,37,38,39,40,41,42,43,44,45,46,47,48,49,50,51,52,53,54,55,56,57,58,59] [16,15,12,11,10,9,8,7,6,2,999] (fun x:RunS=>[(1,cV x.c),(11,.int .u32 (enN p g x.c:Nat)),(40,.int .i64 x.ch.length)]) (fun x=>[(16,.vec x.ch.length 1 (vU7 x.ch)),(15,.vec x.en.length 1 (vU7 x.en)),(12,.cells (cntC x.n)),(11,.cells [.vec 16 1 0 x.ch.length,.vec 15 1 0 x.en.length,.nilslice,.int .i64 0,.int .i64 0,.int .i64 0,.int .i64 0,.int .u32 0]),(10,.cells [.nilslice,.nilslice,.nilslice,.int .i64 0,.int .i64 0,.int .i64 0,.int .i64 0,.int .u32 0]),(9,.cells [mvP p g,.fz g.ports.length 1 false (vNet g),.int .i64 k,.int .u32 (full g.ids.length:Nat),.fn (.func 34) false []]),(8,.cells [.nilslice,.nilslice,.nilslice,.int .i64 0,.int .i64 0,.int .i64 0,.int .i64 0,.int .u32 0]),(7,.cells [.fz ws.length 1 false (vU7 ws)]),(6,.cells [mvP p g,.fz g.ports.length 1 false (vNet g),.int .i64 k,.int .u32 (full g.ids.length:Nat),.fn (.func 34) false []]),(2,.cells [.nilslice,.nilslice,.nilslice,.int .i64 0,.int .i64 0,.int .i64 0,.int .i64 0,.int .u32 0]),(999,GB)]) (fun m x=>m=ws.length-x.ch.length/\FolI p g k c (cnt0 (enN p g c)) ws x) ws.length ⟨c,cnt0 (enN p g c),[],[],[enN p g c]⟩ ⟨rfl,run_start hg hc ws,rfl⟩ rfl (fun _=>rfl) ?_ ?_
 . refine weak_by (fun _ _=>[(12,some 12),(11,some 11),(10,some 10),(9,some 9),(8,some 8),(7,some 7),(6,some 6),(2,some 2),(999,some 999),(15,some 15),(16,none)]) ?_ ?_ rfl
   . repeat' (first|exact True.intro|(refine VRen.fn ?_)|(refine⟨⟨_,rfl,?_⟩,?_⟩)|exact VRen.kf rfl|exact VRen.loc rfl|(refine And.intro ?_ ?_))
   . repeat' (first|exact vle_e0 (by rfl) _ _ hi hj|exact True.intro|(refine VRen.fn ?_)|exact⟨rfl,rfl,rfl⟩|(refine⟨⟨_,rfl,?_⟩,?_⟩)|exact VRen.kf rfl|exact VRen.vec rfl rfl rfl|exact VRen.nil rfl rfl|(refine⟨Nat.le_refl _,rfl,fun i j hi hj=>?_⟩)|(refine⟨⟨_,_,rfl⟩,?_⟩)|(refine And.intro ?_ ?_))
 rintro m x ⟨hm,hf⟩;obtain⟨hx,hens⟩:=hf;clear h5 h6 h7 ha;have hcx:=hx.conf;have hlx:=hcx.len;have hpl:=hx.pl;have hel:=hx.el;have hle:=hx.le;have fin:∀(h:x.ch.length=ws.length\/enN p g x.c=0),VLe (V.tup [.agg [.fz x.ch.length 1 false (shiftF 0 (vU7 x.ch)),.fz x.en.length 1 false (shiftF 0 (vU7 x.en)),cV x.c,.int .i64 x.n.steps,.int .i64 x.n.moves,.int .i64 x.n.rounds,.int .i64 x.n.begun,.int .u32 x.n.pend],.int .i64 0]) (.tup [folV p g k c (cnt0 (enN p g c)) ws,.int .i64 0]):=fun h=>by
  obtain⟨e1,e2⟩:=run_end hx h;rw[folV,lastOf e1,lastK e1,e2,e1,ensL,List.map_append,List.map_singleton,<- hens,trcV];refine VLe.tup ⟨VLe.agg ⟨VLe.fz rfl (fun h=>h) (fun i j _ _=>VLe.of_eq (by rw[shiftF_eq,Nat.zero_add])),VLe.fz rfl (fun h=>h) (fun i j _ _=>VLe.of_eq (by rw[shiftF_eq,Nat.zero_add])),VLe.rfl,VLe.rfl,VLe.rfl,VLe.rfl,VLe.rfl,VLe.rfl,True.intro⟩,VLe.rfl,True.intro⟩
 by_cases hi:x.ch.length<ws.length
 . have hwb:ws.getD x.ch.length 0<4294967296:=hw _ (by rw[List.getD_eq_getElem?_getD,List.getElem?_eq_getElem hi];exact List.getElem_mem hi);have hrs:=nresolve_ok g hg k (enN p g x.c) (ws.getD x.ch.length 0) (en_32 p hg x.c) hwb (en_part p hg x.c);change RG _ _ (.int .u32 (chC p g k x.c (ws.getD x.ch.length 0):Nat)) at hrs;by_cases h0:enN p g x.c=0
   . repeat' ((conv=>whnf);first|(refine Br.ff ?_)|(refine Br.dec ?_ ?_<;>intro _<;>try omega)|(refine Br.bne ?_ ?_<;>intro _<;>try omega)|(refine Ix.nat (by omega) ?_)|(refine Len.mk (by omega) ?_)|(refine hrs.gog ?_)|(refine fn_rule mixed Tryz.func72 rfl hc72 hr72 rfl ?_)|(refine Chk.mk (by kernel_rfl) ?_)|(refine And.intro rfl ?_))
     all_goals (conv=>whnf)
     all_goals exact fin (.inr h0)
   . have hnx:=run_next hp hg hk (by omega) hx hi h0;have hens':x.en++[enN p g (nxC p g k x.c (ws.getD x.ch.length 0))]=(x.pre++[(x.c,x.n)]).map (fun y=>enN p g y.1)++[enN p g (nxC p g k x.c (ws.getD x.ch.length 0))]:=by rw[hens];simp
     obtain⟨c1,c2,c3,c4,c5,c6⟩:=ch_facts p hg hk x.c (ws.getD x.ch.length 0) h0;have hcn:=nx_conf hp hg hk hcx (ws.getD x.ch.length 0) h0;have hpm:=npermits_ok g hg k (enN p g x.c) (chC p g k x.c (ws.getD x.ch.length 0)) (en_32 p hg x.c) (by omega) (en_part p hg x.c);have hin:inner g k (enN p g x.c) (chC p g k x.c (ws.getD x.ch.length 0))=true:=rs_inner hg hk (en_32 p hg x.c) (en_part p hg x.c) h0;rw[hin] at hpm;have hst:=mstep_ok p hp g hg x.c hcx (chC p g k x.c (ws.getD x.ch.length 0)) (by omega) (fun v hv hb=>by have:=c2 v hb;rw[en_bit,Bool.and_eq_true,decide_eq_true_eq,decide_eq_true_eq] at this;exact this.2);change Ret _ _ _ (cV (nxC p g k x.c (ws.getD x.ch.length 0))) at hst;have hen:=men_ok p hp g hg _ hcn;have ha:=en_and p hg (nxC p g k x.c (ws.getD x.ch.length 0));have had:=add_ok x.n hx.ok (by have:=hx.steps;omega) (chC p g k x.c (ws.getD x.ch.length 0)) (enN p g (nxC p g k x.c (ws.getD x.ch.length 0))) c1 c4 (en_24 p hg _);change Ret _ _ _ (.tup [(nxK p g k x.c x.n (ws.getD x.ch.length 0)).v,.int .i64 0]) at had;generalize nxK p g k x.c x.n (ws.getD x.ch.length 0)=n' at *;generalize nxC p g k x.c (ws.getD x.ch.length 0)=c' at *;generalize chC p g k x.c (ws.getD x.ch.length 0)=s at *;have e1:=en_32 p hg x.c
     repeat' ((conv=>whnf);first|(refine Sv.mk _ ha.symm ?_)|(refine Br.tt ?_)|(refine Br.dec ?_ ?_<;>intro _<;>try omega)|(refine Br.bne ?_ ?_<;>intro _<;>try omega)|(refine Br.nbeq ?_ ?_<;>intro _<;>try omega)|(refine Ar.i64 (by omega) (by omega) ?_)|(refine Ix.nat (by omega) ?_)|(refine Len.mk (by omega) ?_)|(refine hrs.gog ?_)|(refine hpm.gog ?_)|(refine hst.go ?_)|(refine hen.go ?_)|(refine had.go ?_)|(refine fn_rule mixed Tryz.func34 rfl hc34 hr34 rfl ?_)|(refine fn_rule mixed Tryz.func72 rfl hc72 hr72 rfl ?_)|(refine Chk.mk (by kernel_rfl) ?_)|(refine And.intro rfl ?_))
     all_goals (conv=>whnf)
     refine⟨_,_,?_,⟨rfl,hnx,hens'⟩,?_⟩
     . simp only[List.length_append,List.length_singleton];omega
     . refine weak_by (fun env own=>[(12,some 12),(11,some 11),(10,some 10),(9,some 9),(8,some 8),(7,some 7),(6,some 6),(2,some 2),(999,some 999),(15,ckeyo own 11 1),(16,ckeyo own 11 0)]) ?_ ?_ rfl
       . repeat' (first|exact VRen.int (by simp only[List.length_append,List.length_singleton]<;>omega)|exact True.intro|(refine VRen.fn ?_)|(refine⟨⟨_,rfl,?_⟩,?_⟩)|exact VRen.kf rfl|exact VRen.loc rfl|(refine And.intro ?_ ?_))
       . repeat' (first|exact VRen.vec rfl rfl (by simp only[List.length_append,List.length_singleton]<;>omega)|(refine⟨by simp only[List.length_append,List.length_singleton]<;>omega,rfl,fun i j hi hj=>?_⟩)|exact VRen.int (by simp only[List.length_append,List.length_singleton]<;>omega)|exact vle_appU7 _ _ _ _ (by rfl) (by rfl) _ _ hi hj|exact True.intro|(refine VRen.fn ?_)|exact⟨rfl,rfl,rfl⟩|(refine⟨⟨_,rfl,?_⟩,?_⟩)|exact VRen.kf rfl|(refine And.intro ?_ ?_))
 . repeat' ((conv=>whnf);first|(refine Br.dec ?_ ?_<;>intro _<;>try omega)|(refine Len.mk (by omega) ?_)|(refine And.intro rfl ?_))
   all_goals (conv=>whnf)
   all_goals exact fin (.inl (by omega))
def pCol:Pr:=⟨ByteArray.mk #[99,111,108,111,117,114,115],[⟨ByteArray.mk #[99],1,0,0,1,0⟩],[⟨ByteArray.mk #[102,105,120],.agg 21 (.bin 35 (.leaf 12 0) (.leaf 5 0)),[(0,.agg 27 (.leaf 12 0))]⟩]⟩
theorem kpr_agg:VLe pCol.v aggK.v:=by
 repeat' (first|exact True.intro|exact VLe.rfl|exact vle_str (by kernel_rfl)|(refine VLe.agg ?_)|(refine vle_fzA ?_)|(refine And.intro ?_ ?_))
theorem agg_kpr:VLe aggK.v pCol.v:=by
 repeat' (first|exact True.intro|exact VLe.rfl|exact vle_str (by kernel_rfl)|(refine VLe.agg ?_)|(refine vle_fzA ?_)|(refine And.intro ?_ ?_))
theorem kcheck_ok:Ret Tryz.prog 22 [pCol.v] (.int .i64 0):=by
 have h:=ev_ret mixed tf_ok ev_checkK;exact ret_args (args:=[aggK.v]) rfl ⟨kpr_agg,True.intro⟩ (by simpa only[C.vs,C.v] using h)
theorem col_types:Ret Tryz.prog 131 [pCol.v] (.bool true):=by
 refine ret_frz rfl ?_;refine fn_rule mixed Tryz.func131 rfl hc131 hr131 rfl ?_
 repeat' ((conv=>whnf);first|(refine Br.tt ?_)|(refine kcheck_ok.go ?_))
 all_goals (conv=>whnf)
 exact VLe.rfl
def txtK:ByteArray:=match textK with | .str l c=>bytesOf l c|_=>default
theorem parseK_ok:Ret Tryz.prog 8 [.str txtK] (.tup [pCol.v,.int .i64 0,.int .i64 0]):=by
 have h:Ret Tryz.prog 8 [.str txtK] (.tup [aggK.v,.int .i64 0,.int .i64 0]):=by
  have:=ev_ret mixed tf_ok ev_parseK;simpa only[C.vs,C.v,textK,txtK,progK] using this
 exact ret_res (X:=.tup [aggK.v,.int .i64 0,.int .i64 0]) rfl (VLe.tup ⟨agg_kpr,VLe.rfl,VLe.rfl,True.intro⟩) h
theorem txtK_eq:txtK=ByteArray.mk (Array.mk [112,114,111,103,114,97,109,32,99,111,108,111,117,114,115,59,32,118,97,114,32,99,32,58,32,48,32,46,46,32,110,59,32,114,117,108,101,32,102,105,120,58,32,115,111,109,101,40,113,46,99,32,61,61,32,99,41,32,45,62,32,99,32,58,61,32,109,101,120,40,113,46,99,41,59]):=by kernel_rfl
theorem col_prOk:PrOk pCol where
 vlen:=by decide
 var:=fun i hi=>by
  obtain rfl:i=0:=by have:i<1:=hi;omega
  exact⟨.inl rfl,by decide,by decide,by decide,by decide,by decide⟩
 rlen:=by decide
 gd:=fun i hi=>by
  obtain rfl:i=0:=by have:i<1:=hi;omega
  decide
 slen:=fun i hi=>by
  obtain rfl:i=0:=by have:i<1:=hi;omega
  decide
 set:=fun i hi j hj=>by
  obtain rfl:i=0:=by have:i<1:=hi;omega
  obtain rfl:j=0:=by have:j<1:=hj;omega
  decide
 types:=col_types
def g2:G:=⟨[0,1],[[(1,1)],[(0,1)]]⟩
theorem g2_small:g2.Small:=⟨by decide,by decide,by decide⟩
theorem g2_valid:g2.valid=true:=by decide +kernel
theorem path2_ok:Ret Tryz.prog 17 [.int .i64 2] (.tup [g2.v,.int .i64 0]):=by
 refine ret_frz rfl ?_;refine fn_rule mixed Tryz.func17 rfl hc17 hr17 rfl ?_
 repeat' ((conv=>whnf);first|(refine Br.tt ?_)|(refine Br.ff ?_)|(refine Ar.i64 (by omega) (by omega) ?_)|(refine Sv.mk _ rfl ?_)|(refine Ix.mk 0 rfl (by omega) ?_)|(refine Ix.mk 1 rfl (by omega) ?_)|(refine Bd.int (by omega) (by omega) ?_)|(refine Len.mk (by omega) ?_)|(refine Ltn.mk (by omega) ?_)|(refine MkS.vec ?_)|(refine fn_rule mixed Tryz.func30 rfl hc30 hr30 rfl ?_)|(refine fn_rule mixed Tryz.func66 rfl hc66 hr66 rfl ?_)|(refine fn_rule mixed Tryz.func110 rfl hc110 hr110 rfl ?_)|(refine fn_rule mixed Tryz.func31 rfl hc31 hr31 rfl ?_)|(refine loop_fuel mixed 20 ?_)|(refine Chk.mk (by kernel_rfl) ?_)|(refine And.intro rfl ?_))
 all_goals (conv=>whnf)
 refine VLe.tup ⟨VLe.agg ⟨VLe.fz rfl (fun h=>h) (fun i j hi hj=>?_),VLe.fz rfl (fun h=>h) (fun i j hi hj=>?_),True.intro⟩,VLe.rfl,True.intro⟩
 . rcases i with _|_|i
   all_goals first|(exfalso;omega)|(rcases j with _|j;exact VLe.rfl;exfalso;omega)
 . rcases i with _|_|i
   all_goals first|(exfalso;omega)|skip
   all_goals
    obtain rfl:j=0:=by omega
    conv=>arg 1;whnf
    conv=>arg 2;whnf
    refine VLe.fz rfl (fun h=>h) (fun i j hi hj=>?_);rcases i with _|i
    all_goals first|(exfalso;omega)|(rcases j with _|_|j;exact VLe.rfl;exact VLe.rfl;exfalso;omega)
def kA:Cf:=[[0],[0]]
theorem kconfA:Conf pCol g2 kA:=by
 have h2:(List.range kA.length).all (fun v=>decide ((gC kA v).length=1)&&(List.range 1).all fun x=>decide ((bnd g2 (gV pCol.vars x) v).1<=gI (gC kA v) x/\gI (gC kA v) x<=(bnd g2 (gV pCol.vars x) v).2))=true:=by decide +kernel
 simp only[List.all_eq_true,List.mem_range,Bool.and_eq_true,decide_eq_true_eq] at h2;exact⟨rfl,fun v hv=>(h2 v hv).1,fun v hv x hx=>(h2 v hv).2 x hx⟩
theorem kLast:lastC (trc pCol g2 1 kA (cnt0 (enN pCol g2 kA)) [3,3])=[[1],[0]]:=by decide +kernel
theorem kRounds:((trc pCol g2 1 kA (cnt0 (enN pCol g2 kA)) [3,3]).getLast?.getD default).2.rounds=1:=by decide +kernel
theorem kCh:chsL pCol g2 1 kA [3,3]=[1]:=by decide +kernel
theorem krow1 (a:Int) (f:Nat->Nat->V) (h0:f 0 0=.int .i64 a):VLe (.fz 1 1 false f) (.fz 1 1 false (vI [a])):=VLe.fz rfl (fun h=>h) (fun i j hi hj=>by
 obtain rfl:i=0:=by omega
 obtain rfl:j=0:=by omega
 rw[h0];exact VLe.rfl)
theorem krows (k1 k2 f:Nat->Nat->V) (h1:VLe (.fz 1 1 false k1) (.fz 1 1 false (vI [0]))) (h2:VLe (.fz 1 1 false k2) (.fz 1 1 false (vI [0]))) (f0:f 0 0=.fz 1 1 false k1) (f1:f 1 0=.fz 1 1 false k2):VLe (.fz 2 1 false f) (cV kA):=by
 refine VLe.fz rfl (fun h=>h) (fun i j hi hj=>?_);obtain rfl:j=0:=by omega
 rcases i with _|_|i
 . rw[f0];exact h1
 . rw[f1];exact h2
 . exfalso;omega
theorem kws_le (f:Nat->Nat->V) (h0:f 0 0=.int .u32 3) (h1:f 1 0=.int .u32 3):VLe (.fz 2 1 false f) (.fz [3,3].length 1 false (vU7 [3,3])):=by
 refine VLe.fz rfl (fun h=>h) (fun i j hi hj=>?_);obtain rfl:j=0:=by omega
 rcases (show i=0\/i=1 by omega) with rfl|rfl
 . rw[h0];exact VLe.rfl
 . rw[h1];exact VLe.rfl
set_option maxHeartbeats 8000000 in
theorem awake_ok:RG 7 [] (.bool true):=by
 have hp:=parseK_ok;rw[txtK_eq] at hp;have h2:=path2_ok;have hf:=follow_ok pCol col_prOk g2 g2_small g2_valid 1 (by decide) kA kconfA [3,3] (by decide) (by decide);have hr:=kRounds;rw[folV,trcV,kLast,kCh] at hf;generalize ((trc pCol g2 1 kA (cnt0 (enN pCol g2 kA)) [3,3]).getLast?.getD default).2=lk at hf hr;rw[hr] at hf;generalize ensL pCol g2 (trc pCol g2 1 kA (cnt0 (enN pCol g2 kA)) [3,3])=en at hf;refine ret_frzG2 rfl ?_;refine fn_rule mixed Tryz.func7 rfl hc7 hr7 rfl ?_
 repeat' ((conv=>whnf);first|(refine Ix.mk 0 rfl (by decide) ?_)|(refine Br.tt ?_)|(refine hp.go ?_)|(refine h2.go ?_)|(refine call_frzG [2,3,4,5] hf rfl ⟨by decide,by decide,by decide,VLe.rfl,VLe.rfl,VLe.rfl,krows _ _ _ (krow1 _ _ rfl) (krow1 _ _ rfl) rfl rfl,kws_le _ rfl rfl,True.intro⟩ ?_))
 all_goals (conv=>whnf)
 all_goals exact VLe.rfl
end Go.Proofs.YtobpogkghbakmaaGreatDoor
namespace Go.Proofs.YtobpogkghbakmaaGreatDoor
open Go.Eng Go.Plain
set_option maxRecDepth 100000
set_option linter.unusedVariables false
set_option maxHeartbeats 8000000 in
theorem sources_ok (s:Tsy) (hs:s.Ok):Ret Tryz.prog 141 [s.v] (.fz s.n 1 false fun t _=>nlV (An.srcs s.n s.to t)):=by
 have n1:=hs.n1;have n2:=hs.n2;refine ret_frz rfl ?_;refine fn_rule mixed Tryz.func141 rfl hc141 hr141 rfl ?_
 repeat' ((conv=>whnf);first|(refine Bd.nat (by omega) ?_)|(refine Len.mk (by omega) ?_)|(refine MkS.vec ?_))
 all_goals (conv=>whnf)
 refine loop_u mixed [3,13,14] [] [2,3,4,5,6,7,8,9,10,11,12,13,14,15,16,17,18,19,20,21,22,23,24,25,26,27,28,29] [1,0] (fun k:Nat=>[(15,.int .i64 k)]) (fun own k=>updO own 1 (.fam s.n 1 (lenQ (srcsP s k 0)) (rowQ (srcsP s k 0)) [])) (fun m k=>m=s.n-k/\k<=s.n) s.n 0 ⟨rfl,Nat.zero_le _⟩ rfl (fun _=>rfl) ?_ ?_
 . refine weak_by (fun _ _=>[(0,some 0),(1,some 1)]) ?_ ?_ rfl
   . repeat' (first|exact True.intro|(refine⟨⟨_,rfl,?_⟩,?_⟩)|exact VRen.kf rfl|exact VRen.vec rfl rfl rfl)
   . repeat' (first|exact⟨rfl,rfl,rfl,fun i hi=>⟨rfl,by rw[lenQ,srcsP_start];rfl⟩⟩|exact True.intro|(refine⟨⟨_,rfl,?_⟩,?_⟩)|exact VRen.kf rfl|(refine And.intro ?_ ?_))
 rintro m k ⟨hm,hk⟩;by_cases hkn:k<s.n
 . have hrow:=hs.row hkn;have harc:=hs.arc k hkn
   repeat' ((conv=>whnf);first|(refine Br.dec ?_ ?_<;>intro _<;>try omega)|(refine Ix.nat (by omega) ?_))
   all_goals (conv=>whnf)
   refine loop_u mixed [3,4,13,14,15,20,21] [2] [3,4,5,6,7,8,9,10,11,12,13,14,15,16,17,18,19,20,21,22,23,24,25,26,27,28,29] [2,1,0] (fun i:Nat=>[(22,.int .i64 i)]) (fun own i=>(2,.vec (if i<(s.ar k).length then lenQ (srcsP s k i) (gA (s.ar k) i).2 else 0) 1 (rowQ (srcsP s k i) (gA (s.ar k) i).2))::updO (updO own 1 (.fam s.n 1 (lenQ (srcsP s k i)) (rowQ (srcsP s k i)) [])) 1 (.fam s.n 1 (lenQ (srcsP s k i)) (rowQ (srcsP s k i)) (opnI (decide (i<(s.ar k).length)) (gA (s.ar k) i).2 2))) (fun m i=>m=(s.ar k).length-i/\i<=(s.ar k).length) (s.ar k).length 0 ⟨rfl,Nat.zero_le _⟩ rfl (fun _=>rfl) ?_ ?_
   . by_cases h1:0<(s.ar k).length
     . obtain⟨b1,b2,b3⟩:=harc _ (gA_mem h1);simp only[decide_eq_true h1,opnI,if_true,if_pos h1];refine Weak.trans ?_ (weak_open (ks:=[2,3,4,5,6,7,8,9,10,11,12,13,14,15,16,17,18,19,20,21,22,23,24,25,26,27,28,29]) rfl rfl rfl b3 rfl) (ksC rfl);refine weak_by (fun _ _=>[(0,some 0),(1,some 1)]) ?_ ?_ rfl
       . repeat' (first|exact True.intro|(refine⟨⟨_,rfl,?_⟩,?_⟩)|exact VRen.kf rfl|exact VRen.vec rfl rfl rfl)
       . repeat' (first|exact⟨rfl,rfl,True.intro,fun i hi=>rfl,fun i j t hi hn hj ht=>VLe.rfl⟩|exact True.intro|(refine⟨⟨_,rfl,?_⟩,?_⟩)|exact VRen.kf rfl|(refine And.intro ?_ ?_))
     . simp only[decide_eq_false h1,opnI,Bool.false_eq_true,if_false,if_neg h1];refine weak_by (fun _ _=>[(0,some 0),(1,some 1),(2,none)]) ?_ ?_ rfl
       . repeat' (first|exact True.intro|(refine⟨⟨_,rfl,?_⟩,?_⟩)|exact VRen.kf rfl|exact VRen.vec rfl rfl rfl)
       . repeat' (first|exact⟨rfl,rfl,True.intro,fun i hi=>rfl,fun i j t hi hn hj ht=>VLe.rfl⟩|exact True.intro|(refine⟨⟨_,rfl,?_⟩,?_⟩)|exact VRen.kf rfl|(refine⟨⟨_,_,rfl⟩,?_⟩)|(refine And.intro ?_ ?_))
   rintro m i ⟨hm2,hi⟩;by_cases hil:i<(s.ar k).length
   . obtain⟨a1,a2,a3⟩:=harc _ (gA_mem hil);have hlen:lenQ (srcsP s k i) (gA (s.ar k) i).2<=262144:=srcsP_len hs hkn hi _;have hst:=srcsP_step s k i hil;simp only[decide_eq_true hil,opnI,if_true,if_pos hil]
     repeat' ((conv=>whnf);first|(refine Br.dec ?_ ?_<;>intro _<;>try omega)|(refine Br.nbeq ?_ ?_<;>intro _<;>try omega)|(refine Ar.i64 (by omega) (by omega) ?_)|(refine Ix.nat (by omega) ?_)|(refine Len.mk (by omega) ?_)|(refine Ltn.mk (by omega) ?_)|(refine Opn.hd (by omega) ?_)|(refine OpnSet.hd (by omega) ?_)|(refine And.intro rfl ?_))
     all_goals (conv=>whnf)
     refine⟨(s.ar k).length-(i+1),i+1,by omega,⟨rfl,by omega⟩,?_⟩;refine Weak.trans (weak_step (own_close (q:=5) (k:=1) (i:=(gA (s.ar k) i).2) [] rfl rfl a3 (look_here rfl) (Nat.le_of_eq (if_pos rfl)) rfl (fun j hj=>(look_there (fun e=>hj e.symm)).symm))) ?_ (ksS rfl);by_cases h1:i+1<(s.ar k).length
     . obtain⟨b1,b2,b3⟩:=harc _ (gA_mem h1);simp only[decide_eq_true h1,if_true,if_pos h1];refine Weak.trans ?_ (weak_open (ks:=[2,3,4,5,6,7,8,9,10,11,12,13,14,15,16,17,18,19,20,21,22,23,24,25,26,27,28,29]) rfl rfl rfl b3 rfl) (ksC rfl);refine weak_by (fun _ _=>[(0,some 0),(1,some 1)]) ?_ ?_ rfl
       . repeat' (first|exact True.intro|(refine⟨⟨_,rfl,?_⟩,?_⟩)|exact VRen.kf rfl|exact VRen.vec rfl rfl rfl)
       . repeat' (first|exact fam_appQ hst (fun j u hj hu=>vle_appQ _ _ _ k rfl rfl _ _ _ rfl hj hu) _|exact True.intro|(refine⟨⟨_,rfl,?_⟩,?_⟩)|exact VRen.kf rfl|(refine And.intro ?_ ?_))
     . simp only[decide_eq_false h1,Bool.false_eq_true,if_false,if_neg h1];refine weak_by (fun _ _=>[(0,some 0),(1,some 1),(2,none)]) ?_ ?_ rfl
       . repeat' (first|exact True.intro|(refine⟨⟨_,rfl,?_⟩,?_⟩)|exact VRen.kf rfl|exact VRen.vec rfl rfl rfl)
       . repeat' (first|exact fam_appQ hst (fun j u hj hu=>vle_appQ _ _ _ k rfl rfl _ _ _ rfl hj hu) _|exact True.intro|(refine⟨⟨_,rfl,?_⟩,?_⟩)|exact VRen.kf rfl|(refine⟨⟨_,_,rfl⟩,?_⟩)|(refine And.intro ?_ ?_))
   . have ei:i=(s.ar k).length:=by omega
     subst ei;simp only[decide_eq_false hil,opnI,Bool.false_eq_true,if_false,if_neg hil]
     repeat' ((conv=>whnf);first|(refine Br.dec ?_ ?_<;>intro _<;>try omega)|(refine Ar.i64 (by omega) (by omega) ?_))
     all_goals (conv=>whnf)
     refine⟨s.n-(k+1),k+1,by omega,⟨rfl,by omega⟩,?_⟩;have hrw:srcsP s k (s.ar k).length=srcsP s (k+1) 0:=funext fun t=>srcsP_row s k t;refine weak_by (fun _ _=>[(0,some 0),(1,some 1)]) ?_ ?_ rfl
     . repeat' (first|exact True.intro|(refine⟨⟨_,rfl,?_⟩,?_⟩)|exact VRen.kf rfl|exact VRen.vec rfl rfl rfl)
     . repeat' (first|exact⟨rfl,rfl,True.intro,fun i hi=>by rw[hrw],fun i j t hi hn hj ht=>by rw[hrw];exact VLe.rfl⟩|exact True.intro|(refine⟨⟨_,rfl,?_⟩,?_⟩)|exact VRen.kf rfl|(refine And.intro ?_ ?_))
 . have ek:k=s.n:=by omega
   subst ek
   repeat' ((conv=>whnf);first|(refine Br.dec ?_ ?_<;>intro _<;>try omega)|(refine Len.mk (by omega) ?_))
   all_goals (conv=>whnf)
   refine VLe.fz rfl (fun h=>h) (fun i j hi hj=>?_);show VLe (.fz (srcsP s s.n 0 i).length 1 false (vQ (srcsP s s.n 0 i))) (nlV (An.srcs s.n s.to i));rw[srcsP_zero];exact VLe.rfl
def vEt (en:Nat->Nat):Nat->Nat->V:=fun k _=>.int .i64 (en k)
theorem vet_set (en:Nat->Nat) (k k' i j:Nat) (hk:k'=k) (hj:j<1):VLe (fset (vEt en) k' 0 [.int .i64 ((en k':Int)+1)] i j) (vEt (fun x=>if x=k then en x+1 else en x) i j):=by
 obtain rfl:j=0:=by omega
 subst hk;apply VLe.of_eq;by_cases h:i=k'
 . subst h;simp[fset,vEt]
 . simp[fset,vEt,h]
theorem vet_zero (i j:Nat) (hj:j<1):VLe ((fun(_ j:Nat)=>[V.int .i64 0].getD j default) i j) (vEt (fun _=>0) i j):=by
 obtain rfl:j=0:=by omega
 exact VLe.rfl
theorem fset_same (f:Nat->Nat->V) (i:Nat) (v:V):fset f i 0 [v] i 0=v:=by simp[fset]
theorem filt_succ (lg:Nat->Bool) (i:Nat):(List.range (i+1)).filter lg=(List.range i).filter lg++(if lg i=true then[i] else[]):=by
 rw[List.range_succ,List.filter_append];congr 1;cases h:lg i<;>simp[h]
theorem filt_len (lg:Nat->Bool) (i:Nat):((List.range i).filter lg).length<=i:=by
 have:=List.length_filter_le lg (List.range i);simpa using this
structure OrdS where
 L:List Nat
 i:Nat
 en:Nat->Nat
set_option maxHeartbeats 8000000 in
theorem order_ok (s:Tsy) (hs:s.Ok) (lg:Nat->Bool):RetP Tryz.prog 106 [s.v,blV s.n lg] fun v=>∃L,An.Ord s.n s.to lg L/\v=nlV L:=by
 have n1:=hs.n1;have n2:=hs.n2;have hso:=sources_ok s hs;refine ret_frzP rfl ?_;refine fn_rule mixed Tryz.func106 rfl hc106 hr106 rfl ?_
 repeat' ((conv=>whnf);first|fail)
 all_goals (conv=>whnf)
 refine loop_u mixed [1,2,13,14] [1] [2,3,4,5,6,7,8,9,10,11,12,13,14,15,16,17,18,19,20,21,22,23,24,25,26,27,28,29] [1,0] (fun i:Nat=>[(5,.vec 1 1 0 ((List.range i).filter lg).length),(15,.int .i64 i)]) (fun own i=>(1,.vec ((List.range i).filter lg).length 1 (vQ ((List.range i).filter lg)))::own) (fun m i=>m=s.n-i/\i<=s.n) s.n 0 ⟨rfl,Nat.zero_le _⟩ rfl (fun _=>rfl) ?_ ?_
 . exact weak_b (fun _ _=>[(0,some 0),(1,none)])
 rintro m i ⟨hm,hi⟩;have hfl:=filt_len lg i;by_cases hin:i<s.n
 . have hfs:=filt_succ lg i;cases hlg:lg i with
   | true =>
     rw[hlg,if_pos rfl] at hfs
     repeat' ((conv=>whnf);first|(refine Br.mk (fun _=>?_) (fun e=>Bool.noConfusion (e.symm.trans hlg)))|(refine Br.dec ?_ ?_<;>intro _<;>try omega)|(refine Br.nbeq ?_ ?_<;>intro _<;>try omega)|(refine Ar.i64 (by omega) (by omega) ?_)|(refine Ix.nat (by omega) ?_)|(refine Len.mk (by omega) ?_))
     all_goals (conv=>whnf)
     refine⟨s.n-(i+1),i+1,by omega,⟨rfl,by omega⟩,?_⟩;simp only[hfs];refine weak_by (fun env own=>[(0,some 0),(1,ekey env 5)]) ?_ ?_ rfl
     . repeat' (first|exact VRen.vec rfl rfl (by rw[List.length_append];rfl)|exact True.intro|(refine⟨⟨_,rfl,?_⟩,?_⟩)|exact VRen.kf rfl|exact VRen.loc rfl)
     . repeat' (first|(refine⟨by rw[List.length_append];exact Nat.le_refl _,rfl,fun a b ha hb=>?_⟩)|exact vle_appQ _ _ _ i rfl rfl _ _ _ rfl (by rw[List.length_append] at ha;exact ha) hb|exact True.intro|(refine⟨⟨_,rfl,?_⟩,?_⟩)|exact VRen.kf rfl|(refine And.intro ?_ ?_))
   | false =>
     rw[hlg,if_neg (by decide),List.append_nil] at hfs
     repeat' ((conv=>whnf);first|(refine Br.mk (fun e=>Bool.noConfusion (e.symm.trans hlg)) (fun _=>?_))|(refine Br.dec ?_ ?_<;>intro _<;>try omega)|(refine Ar.i64 (by omega) (by omega) ?_)|(refine Ix.nat (by omega) ?_))
     all_goals (conv=>whnf)
     refine⟨s.n-(i+1),i+1,by omega,⟨rfl,by omega⟩,?_⟩;simp only[hfs];exact weak_b (fun env own=>[(0,some 0),(1,some 1)])
 have ei:i=s.n:=by omega
 subst ei
 repeat' ((conv=>whnf);first|(refine Br.dec ?_ ?_<;>intro _<;>try omega)|(refine Bd.nat (by omega) ?_)|(refine Len.mk (by omega) ?_)|(refine MkS.vec ?_)|(refine hso.go ?_))
 all_goals (conv=>whnf)
 refine loop_u mixed [1,2,8,9] [1] [3,4,5,6,7,8,9,10,11,12,13,14,15,16,17,18,19,20,21,22,23,24,25,26,27,28,29] [1,2,0] (fun x:OrdS=>[(5,.vec 1 1 0 x.L.length),(10,.int .i64 x.i)]) (fun own x=>[(1,.vec x.L.length 1 (vQ x.L)),(2,.vec s.n 1 (vEt x.en)),(0,.cells [.fz s.n 1 false (vEn s),.fz s.n 1 false (vArs s)])]) (fun m x=>m=s.n-x.i/\An.OrdJ s.n s.to lg x.L x.i 0 x.en) s.n ⟨(List.range s.n).filter lg,0,fun _=>0⟩ ⟨rfl,An.OrdJ.start⟩ rfl (fun _=>rfl) ?_ ?_
 . refine weak_by (fun env own=>[(0,some 0),(1,some 1),(2,ekey env 9)]) ?_ ?_ rfl
   . repeat' (first|exact True.intro|(refine⟨⟨_,rfl,?_⟩,?_⟩)|exact VRen.kf rfl|exact VRen.loc rfl|exact VRen.vec rfl rfl rfl)
   . repeat' (first|exact vet_zero _ _ hj|exact True.intro|(refine⟨⟨_,rfl,?_⟩,?_⟩)|exact VRen.kf rfl|(refine⟨Nat.le_refl _,rfl,fun i j hi hj=>?_⟩)|exact VLe.rfl|(refine And.intro ?_ ?_))
 rintro m x ⟨hm,hI⟩;have hLn:=hI.len;have hle:=hI.le;by_cases hil:x.i<x.L.length
 . have hv:gQ x.L x.i<s.n:=hI.lt _ (gQ_mem hil);have hz:gQ x.L (0+x.i)=gQ x.L x.i:=by rw[Nat.zero_add]
   repeat' ((conv=>whnf);first|(refine Ix.mk (gQ x.L x.i) (by rw[hz]) hv ?_)|(refine Br.dec ?_ ?_<;>intro _<;>try omega)|(refine Ix.nat (by omega) ?_)|(refine Ltn.mk (by omega) ?_))
   all_goals (conv=>whnf)
   refine loop_u mixed [1,2,8,9,10,43,44] [1] [3,4,5,6,7,8,9,10,11,12,13,14,15,16,17,18,19,20,21,22,23,24,25,26,27,28,29] [1,2,0] (fun y:OrdS=>[(5,.vec 1 1 0 y.L.length),(45,.int .i64 y.i)]) (fun own y=>updO (updO own 1 (.vec y.L.length 1 (vQ y.L))) 2 (.vec s.n 1 (vEt y.en))) (fun m y=>m=(An.srcs s.n s.to (gQ x.L x.i)).length-y.i/\y.i<=(An.srcs s.n s.to (gQ x.L x.i)).length/\x.i<y.L.length/\gQ y.L x.i=gQ x.L x.i/\An.OrdJ s.n s.to lg y.L x.i y.i y.en) _ ⟨x.L,0,x.en⟩ ⟨rfl,Nat.zero_le _,hil,rfl,hI⟩ rfl (fun _=>rfl) ?_ ?_
   . exact weak_b (fun env own=>[(0,some 0),(1,some 1),(2,some 2)])
   rintro m2 y ⟨hm2,hy,hyl,hyq,hJ⟩;have hLy:=hJ.len;by_cases hq:y.i<(An.srcs s.n s.to (gQ x.L x.i)).length
   . have hstep:=hJ.step hyl (by change y.i<(An.srcs s.n s.to (gQ y.L x.i)).length;rw[hyq];exact hq);change gQ (An.srcs s.n s.to (gQ y.L x.i)) y.i<s.n/\y.en (gQ (An.srcs s.n s.to (gQ y.L x.i)) y.i)+1<=(s.to (gQ (An.srcs s.n s.to (gQ y.L x.i)) y.i)).length/\An.OrdJ s.n s.to lg (if lg (gQ (An.srcs s.n s.to (gQ y.L x.i)) y.i)=false/\y.en (gQ (An.srcs s.n s.to (gQ y.L x.i)) y.i)+1=(s.to (gQ (An.srcs s.n s.to (gQ y.L x.i)) y.i)).length then y.L++[gQ (An.srcs s.n s.to (gQ y.L x.i)) y.i] else y.L) x.i (y.i+1) (fun k=>if k=gQ (An.srcs s.n s.to (gQ y.L x.i)) y.i then y.en k+1 else y.en k) at hstep;rw[hyq] at hstep;obtain⟨k1,k2,k3⟩:=hstep;have hz2:gQ (An.srcs s.n s.to (gQ x.L x.i)) y.i=gQ (An.srcs s.n s.to (gQ x.L x.i)) y.i:=rfl;have htl:(s.to (gQ (An.srcs s.n s.to (gQ x.L x.i)) y.i)).length=(s.ar (gQ (An.srcs s.n s.to (gQ x.L x.i)) y.i)).length:=by simp[Tsy.to]
     rw[htl] at k2 k3;have hrow:=hs.row k1;have hsl:=srcs_len s (gQ x.L x.i) s.n;have hto:=hs.tot;generalize hT:gQ (An.srcs s.n s.to (gQ x.L x.i)) y.i=t at *;have k2':y.en (0+t)+1<=(s.ar t).length:=by rw[Nat.zero_add];exact k2
     cases hlg:lg t with
     | true =>
       rw[hlg,if_neg (fun h=>Bool.noConfusion h.1)] at k3
       repeat' ((conv=>whnf);first|(refine Ix.mk t (by rw[hT]) k1 ?_)|(refine Br.mk (fun _=>?_) (fun e=>Bool.noConfusion (e.symm.trans hlg)))|(refine Br.dec ?_ ?_<;>intro _<;>try omega)|(refine Ar.i64 (by omega) (by omega) ?_)|(refine Ix.nat (by omega) ?_)|(refine Ltn.mk (by omega) ?_))
       all_goals (conv=>whnf)
       refine⟨_,⟨y.L,y.i+1,fun k=>if k=t then y.en k+1 else y.en k⟩,?_,⟨rfl,hq,hyl,hyq,k3⟩,?_⟩
       . simp only;omega
       . refine weak_by (fun env own=>[(0,some 0),(1,some 1),(2,some 2)]) ?_ ?_ rfl
         . repeat' (first|exact True.intro|(refine⟨⟨_,rfl,?_⟩,?_⟩)|exact VRen.kf rfl|exact VRen.loc rfl|exact VRen.vec rfl rfl rfl)
         . repeat' (first|exact vet_set _ _ _ _ _ (Nat.zero_add _) hj|exact True.intro|(refine⟨⟨_,rfl,?_⟩,?_⟩)|exact VRen.kf rfl|(refine⟨Nat.le_refl _,rfl,fun i j hi hj=>?_⟩)|exact VLe.rfl|(refine And.intro ?_ ?_))
     | false =>
       by_cases hfull:y.en t+1=(s.ar t).length
       . rw[if_pos ⟨hlg,hfull⟩] at k3;have hfull':y.en (0+t)+1=(s.ar t).length:=by rw[Nat.zero_add];exact hfull
         repeat' ((conv=>whnf);first|(refine Ix.mk t (by rw[hT]) k1 ?_)|(refine Br.mk (fun e=>Bool.noConfusion (e.symm.trans hlg)) (fun _=>?_))|(refine Br.dec ?_ ?_<;>intro _<;>try omega)|(refine Br.nbeq ?_ ?_<;>intro _<;>try omega)|(refine Ar.i64 (by omega) (by omega) ?_)|(refine Ix.nat (by omega) ?_)|(refine Len.mk (by omega) ?_)|(refine Ltn.mk (by omega) ?_)|(rw[fset_same]))
         all_goals (conv=>whnf)
         refine⟨_,⟨y.L++[t],y.i+1,fun k=>if k=t then y.en k+1 else y.en k⟩,?_,⟨rfl,hq,by simp only[List.length_append];omega,?_,k3⟩,?_⟩
         . simp only;omega
         . simp only;rw[gQ_snoc,if_pos hyl];exact hyq
         . refine weak_by (fun env own=>[(0,some 0),(1,ekey env 5),(2,some 2)]) ?_ ?_ rfl
           . repeat' (first|exact VRen.vec rfl rfl (by rw[List.length_append];rfl)|exact True.intro|(refine⟨⟨_,rfl,?_⟩,?_⟩)|exact VRen.kf rfl|exact VRen.loc rfl|exact VRen.vec rfl rfl rfl)
           . repeat' (first|exact vet_set _ _ _ _ _ (Nat.zero_add _) hj|(refine⟨by rw[List.length_append];exact Nat.le_refl _,rfl,fun i j hi hj=>?_⟩)|exact vle_appQ _ _ _ _ rfl (by rw[hT]) _ _ _ rfl (by rw[List.length_append] at hi;exact hi) hj|exact True.intro|(refine⟨⟨_,rfl,?_⟩,?_⟩)|exact VRen.kf rfl|(refine⟨Nat.le_refl _,rfl,fun i j hi hj=>?_⟩)|(refine And.intro ?_ ?_))
       . rw[if_neg (fun h=>hfull h.2)] at k3;have hfull':¬ y.en (0+t)+1=(s.ar t).length:=by rw[Nat.zero_add];exact hfull
         repeat' ((conv=>whnf);first|(refine Ix.mk t (by rw[hT]) k1 ?_)|(refine Br.mk (fun e=>Bool.noConfusion (e.symm.trans hlg)) (fun _=>?_))|(refine Br.dec ?_ ?_<;>intro _<;>try omega)|(refine Ar.i64 (by omega) (by omega) ?_)|(refine Ix.nat (by omega) ?_)|(refine Ltn.mk (by omega) ?_)|(rw[fset_same]))
         all_goals (conv=>whnf)
         refine⟨_,⟨y.L,y.i+1,fun k=>if k=t then y.en k+1 else y.en k⟩,?_,⟨rfl,hq,hyl,hyq,k3⟩,?_⟩
         . simp only;omega
         . refine weak_by (fun env own=>[(0,some 0),(1,some 1),(2,some 2)]) ?_ ?_ rfl
           . repeat' (first|exact True.intro|(refine⟨⟨_,rfl,?_⟩,?_⟩)|exact VRen.kf rfl|exact VRen.loc rfl|exact VRen.vec rfl rfl rfl)
           . repeat' (first|exact vet_set _ _ _ _ _ (Nat.zero_add _) hj|exact True.intro|(refine⟨⟨_,rfl,?_⟩,?_⟩)|exact VRen.kf rfl|(refine⟨Nat.le_refl _,rfl,fun i j hi hj=>?_⟩)|exact VLe.rfl|(refine And.intro ?_ ?_))
   . have hyi:y.i=(An.srcs s.n s.to (gQ x.L x.i)).length:=by omega
     have hJ':An.OrdJ s.n s.to lg y.L (x.i+1) 0 y.en:=by
      refine An.OrdJ.next ?_ hyl;change An.OrdJ s.n s.to lg y.L x.i (An.srcs s.n s.to (gQ y.L x.i)).length y.en;rw[hyq,<- hyi];exact hJ
     repeat' ((conv=>whnf);first|(refine Br.dec ?_ ?_<;>intro _<;>try omega)|(refine Ar.i64 (by omega) (by omega) ?_))
     all_goals (conv=>whnf)
     refine⟨_,⟨y.L,x.i+1,y.en⟩,?_,⟨rfl,hJ'⟩,?_⟩
     . simp only;omega
     . exact weak_b (fun env own=>[(0,some 0),(1,some 1),(2,some 2)])
 . repeat' ((conv=>whnf);first|(refine Br.dec ?_ ?_<;>intro _<;>try omega)|(refine Len.mk (by omega) ?_))
   all_goals (conv=>whnf)
   refine⟨nlV x.L,⟨x.L,?_,rfl⟩,?_⟩
   . have:x.i=x.L.length:=by omega
     rw[this] at hI;exact hI.done rfl
   . exact VLe.fz rfl (fun h=>h) (fun a b ha hb=>VLe.of_eq (by rw[shiftF_eq,Nat.zero_add]))
def vBl (b:Nat->Bool):Nat->Nat->V:=fun i _=>.bool (b i)
theorem ord_len {n:Nat} {ar:Nat->List Nat} {lg:Nat->Bool} {L:List Nat} (h:An.Ord n ar lg L) (hall:∀k,k<n->k∈L):L.length=n:=by
 have h1:=List.Nodup.length_le_of_subset h.nodup (fun a ha=>List.mem_range.2 (h.lt a ha));have h2:=List.Nodup.length_le_of_subset (List.nodup_range (n:=n)) (fun a ha=>hall a (List.mem_range.1 ha));rw[List.length_range] at h1 h2;omega
theorem worder_ok (s:Tsy) (hs:s.Ok) (lg:Nat->Bool) (hall:∀L,An.Ord s.n s.to lg L->∀k,k<s.n->k∈L):RetP Tryz.prog 62 [s.v,blV s.n lg] fun v=>∃L,An.Ord s.n s.to lg L/\L.length=s.n/\v=.tup [nlV L,.int .i64 0]:=by
 have n1:=hs.n1;have n2:=hs.n2;have hch:=ccheck_ok s hs lg;have hor:=order_ok s hs lg;refine ret_frzP rfl ?_;refine fn_rule mixed Tryz.func62 rfl hc62 hr62 rfl ?_
 repeat' ((conv=>whnf);first|(refine Br.ff ?_)|(refine Br.dec ?_ ?_<;>intro _<;>try omega)|(refine hch.go ?_)|(refine hor.go ?_;rintro _ ⟨L,hL,rfl⟩;have hlen:=ord_len hL (hall L hL)))
 all_goals (conv=>whnf)
 exact⟨_,⟨L,hL,hlen,rfl⟩,VLe.tup ⟨VLe.rfl,VLe.rfl,True.intro⟩⟩
theorem wmoves_ok (a b:Nat) (ha:a<4294967296):Ret Tryz.prog 61 [.agg [.int .u32 a,.int .i64 b]] (.int .i64 (cnt a 32)):=by
 have h1:=oc_ok a ha;refine ret_frz rfl ?_;refine fn_rule mixed Tryz.func61 rfl hc61 hr61 rfl ?_
 repeat' ((conv=>whnf);first|(refine h1.go ?_))
 all_goals (conv=>whnf)
 exact VLe.rfl
structure MvI (s:Tsy) (lg:Nat->Bool) (Q:Nat->Nat->Prop) (B:Nat) (r:Nat->Nat):Prop where
 leg:∀k,k<s.n->lg k=true->r k=0
 out:∀k,k<s.n->lg k=false->Q k (r k)
 bnd:∀k,r k<=B
theorem MvI.step {s:Tsy} {lg:Nat->Bool} {Q:Nat->Nat->Prop} (hQ:MQ s lg Q) {B:Nat} {r:Nat->Nat} (h:MvI s lg Q B r) {k:Nat} {a:Nat×Nat} (hk:k<s.n) (hl:lg k=false) (ha:a∈s.ar k) (hto:a.2<s.n) :
 MvI s lg Q (B+32) (fun x=>if x=k then max (r k) (cnt a.1 32+r a.2) else r x):=by
 refine⟨fun x hx hlx=>?_,fun x hx hlx=>?_,fun x=>?_⟩
 . show(if x=k then _ else r x)=0;rw[if_neg (fun e=>by rw[e,hl] at hlx;cases hlx)];exact h.leg x hx hlx
 . show Q x (if x=k then _ else r x);by_cases e:x=k
   . subst e;rw[if_pos rfl];exact hQ.max _ _ _ (h.out x hx hlx) (hQ.step x a _ hx hlx ha (fun q=>h.out _ hto q) (fun q=>h.leg _ hto q))
   . rw[if_neg e];exact h.out x hx hlx
 . show(if x=k then _ else r x)<=_;have h1:=h.bnd k;have h2:=h.bnd a.2;have h3:=h.bnd x;have h4:=cnt_le a.1 32;split<;>omega
theorem MvI.mono {s:Tsy} {lg:Nat->Bool} {Q:Nat->Nat->Prop} {B B':Nat} {r:Nat->Nat} (h:MvI s lg Q B r) (hB:B<=B'):MvI s lg Q B' r:=⟨h.leg,h.out,fun k=>Nat.le_trans (h.bnd k) hB⟩
theorem vet_put (r r':Nat->Nat) (k k':Nat) (x:Int) (hk:k'=k) (hx:∀i,(r' i:Int)=if i=k then x else r i) (i j:Nat) (hj:j<1):VLe (fset (vEt r) k' 0 [.int .i64 x] i j) (vEt r' i j):=by
 obtain rfl:j=0:=by omega
 subst hk;apply VLe.of_eq;rw[vEt,hx];by_cases h:i=k'
 . subst h;simp[fset]
 . simp[fset,vEt,h]
theorem mx_put (r:Nat->Nat) (k t c i:Nat):((if i=k then max (r k) (c+r t) else r i:Nat):Int)=if i=k then (if (c:Int)+(r (0+t):Nat) > (r (0+k):Nat) then (c:Int)+(r (0+t):Nat) else (r (0+k):Nat)) else (r i:Nat):=by
 rw[Nat.zero_add,Nat.zero_add];by_cases h:i=k
 . rw[if_pos h,if_pos h];split<;>omega
 . rw[if_neg h,if_neg h]
set_option maxHeartbeats 8000000 in
theorem moves_ok (s:Tsy) (hs:s.Ok) (lg:Nat->Bool) (hall:∀L,An.Ord s.n s.to lg L->∀k,k<s.n->k∈L) (Q:Nat->Nat->Prop) (hQ:MQ s lg Q) :
 RetP Tryz.prog 25 [s.v,blV s.n lg] fun v=>∃r:Nat->Nat,(∀k,k<s.n->lg k=true->r k=0)/\(∀k,k<s.n->lg k=false->Q k (r k))/\v=.tup [inV s.n r,.int .i64 0]:=by
 have n1:=hs.n1;have n2:=hs.n2;have hwo:=worder_ok s hs lg hall;refine ret_frzP rfl ?_;refine fn_rule mixed Tryz.func25 rfl hc25 hr25 rfl ?_
 repeat' ((conv=>whnf);first|(refine Br.ff ?_)|(refine Bd.nat (by omega) ?_)|(refine Len.mk (by omega) ?_)|(refine MkS.vec ?_)|(refine fn_rule mixed Tryz.func60 rfl hc60 hr60 rfl ?_)|(refine hwo.go ?_;rintro _ ⟨L,hL,hLn,rfl⟩))
 all_goals (conv=>whnf)
 refine loop_u mixed [1,2,3,10,27,28] [] [3,4,5,6,7,8,9,10,11,12,13,14,15,16,17,18,19,20,21,22,23,24,25,26,27,28,29] [2,1,0] (fun x:Nat×(Nat->Nat)=>[(29,.int .i64 x.1)]) (fun own x=>updO own 2 (.vec s.n 1 (vEt x.2))) (fun m x=>m=s.n-x.1/\x.1<=s.n/\MvI s lg Q (32*(x.1*262145)) x.2) s.n (0,fun _=>0) ⟨rfl,Nat.zero_le _,fun _ _ _=>rfl,fun k hk hl=>hQ.zero k hk hl,fun _=>Nat.zero_le _⟩ rfl (fun _=>rfl) ?_ ?_
 . refine weak_by (fun _ _=>[(0,some 0),(1,some 1),(2,some 2)]) ?_ ?_ rfl
   . repeat' (first|exact True.intro|(refine VRen.fn ?_)|(refine⟨⟨_,rfl,?_⟩,?_⟩)|exact VRen.kf rfl|exact VRen.loc rfl|exact VRen.vec rfl rfl rfl)
   . repeat' (first|exact vet_zero _ _ hj|exact True.intro|(refine⟨⟨_,rfl,?_⟩,?_⟩)|exact VRen.kf rfl|(refine⟨Nat.le_refl _,rfl,fun i j hi hj=>?_⟩)|(refine And.intro ?_ ?_))
 rintro m x ⟨hm,hx,hI⟩;by_cases hxn:x.1<s.n
 . have hv:gQ L x.1<s.n:=hL.lt _ (gQ_mem (by omega));cases hlg:lg (gQ L x.1) with
   | true =>
     repeat' ((conv=>whnf);first|(refine Ix.mk (gQ L x.1) (by rfl) hv ?_)|(refine Br.mk (fun _=>?_) (fun e=>Bool.noConfusion (e.symm.trans hlg)))|(refine Br.dec ?_ ?_<;>intro _<;>try omega)|(refine Ar.i64 (by omega) (by omega) ?_)|(refine Ix.nat (by omega) ?_))
     all_goals (conv=>whnf)
     refine⟨_,(x.1+1,x.2),?_,⟨rfl,hxn,hI.mono (by simp only;omega)⟩,?_⟩
     . simp only;omega
     . exact weak_b (fun env own=>[(0,some 0),(1,some 1),(2,some 2)])
   | false =>
     have hrow:=hs.row hv
     repeat' ((conv=>whnf);first|(refine Ix.mk (gQ L x.1) (by rfl) hv ?_)|(refine Br.mk (fun e=>Bool.noConfusion (e.symm.trans hlg)) (fun _=>?_))|(refine Br.dec ?_ ?_<;>intro _<;>try omega)|(refine Ix.nat (by omega) ?_))
     all_goals (conv=>whnf)
     refine loop_u mixed [1,2,3,10,12,27,28,29,41,42] [] [3,4,5,6,7,8,9,10,11,12,13,14,15,16,17,18,19,20,21,22,23,24,25,26,27,28,29] [2,1,0] (fun y:Nat×(Nat->Nat)=>[(43,.int .i64 y.1)]) (fun own y=>updO own 2 (.vec s.n 1 (vEt y.2))) (fun m y=>m=(s.ar (gQ L x.1)).length-y.1/\y.1<=(s.ar (gQ L x.1)).length/\MvI s lg Q (32*(x.1*262145+y.1)) y.2) (s.ar (gQ L x.1)).length (0,x.2) ⟨rfl,Nat.zero_le _,hI.mono (by omega)⟩ rfl (fun _=>rfl) ?_ ?_
     . exact weak_b (fun env own=>[(0,some 0),(1,some 1),(2,some 2)])
     rintro m2 y ⟨hm2,hy,hJ⟩;by_cases hyl:y.1<(s.ar (gQ L x.1)).length
     . obtain⟨a1,a2,a3⟩:=hs.arc _ hv _ (gA_mem hyl);have hen:=hs.en _ hv;have ha32:=a2.le;have hmv:=wmoves_ok (gA (s.ar (gQ L x.1)) y.1).1 (gA (s.ar (gQ L x.1)) y.1).2 (by omega);have hst:=hJ.step hQ hv hlg (gA_mem hyl) a3;have hc32:=cnt_le (gA (s.ar (gQ L x.1)) y.1).1 32;have hb1:=hJ.bnd (0+(gA (s.ar (gQ L x.1)) y.1).2);have hb2:x.1*262145<=32768*262145:=Nat.mul_le_mul_right _ (by omega)
       repeat' ((conv=>whnf);first|(refine Ix.mk (gQ L x.1) (by rfl) hv ?_)|(refine Br.dec ?_ ?_<;>intro _<;>try omega)|(refine Ar.i64 (by omega) (by omega) ?_)|(refine Sv.mk _ rfl ?_)|(refine Ix.nat (by omega) ?_)|(refine Ltn.mk (by omega) ?_)|(refine Chk.mk (by kernel_rfl) ?_)|(refine hmv.go ?_)|(refine And.intro rfl ?_)|(refine And.intro (Ltn.mk (by omega) rfl) ?_))
       all_goals (conv=>whnf)
       refine⟨_,(y.1+1,fun z=>if z=gQ L x.1 then max (y.2 (gQ L x.1)) (cnt (gA (s.ar (gQ L x.1)) y.1).1 32+y.2 (gA (s.ar (gQ L x.1)) y.1).2) else y.2 z),?_,⟨rfl,hyl,hst.mono (by simp only;omega)⟩,?_⟩
       . simp only;omega
       . refine weak_by (fun env own=>[(0,some 0),(1,some 1),(2,some 2)]) ?_ ?_ rfl
         . repeat' (first|exact True.intro|(refine VRen.fn ?_)|(refine⟨⟨_,rfl,?_⟩,?_⟩)|exact VRen.kf rfl|exact VRen.loc rfl|exact VRen.vec rfl rfl rfl)
         . repeat' (first|exact vet_put _ _ _ _ _ (Nat.zero_add _) (fun z=>mx_put y.2 _ _ _ z) _ _ hj|exact True.intro|(refine⟨⟨_,rfl,?_⟩,?_⟩)|exact VRen.kf rfl|(refine⟨Nat.le_refl _,rfl,fun i j hi hj=>?_⟩)|(refine And.intro ?_ ?_))
     . repeat' ((conv=>whnf);first|(refine Br.dec ?_ ?_<;>intro _<;>try omega)|(refine Ar.i64 (by omega) (by omega) ?_))
       all_goals (conv=>whnf)
       refine⟨_,(x.1+1,y.2),?_,⟨rfl,hxn,hJ.mono (by simp only;omega)⟩,?_⟩
       . simp only;omega
       . exact weak_b (fun env own=>[(0,some 0),(1,some 1),(2,some 2)])
 . repeat' ((conv=>whnf);first|(refine Br.dec ?_ ?_<;>intro _<;>try omega)|(refine Len.mk (by omega) ?_))
   all_goals (conv=>whnf)
   exact⟨_,⟨x.2,hI.leg,hI.out,rfl⟩,VLe.tup ⟨VLe.fz rfl (fun h=>h) (fun a b ha hb=>VLe.of_eq (by rw[shiftF_eq,Nat.zero_add];rfl)),VLe.rfl,True.intro⟩⟩
end Go.Proofs.YtobpogkghbakmaaGreatDoor
namespace Go.Eng
open Go.Plain
set_option linter.unusedVariables false
def vW4 (l:List Nat):Nat->Nat->V:=fun i _=>.int .u32 (gQ l i)
def rowW4 (F:Nat->List Nat):Nat->Nat->Nat->V:=fun t=>vW4 (F t)
theorem vle_appW4 (l:List Nat) (a:Nat) (F:Nat->Nat->V) (x:Int) (hF:F 0 0=.int .u32 x) (hx:x=a) (n i j:Nat) (hn:n=l.length) (hi:i<l.length+1) (hj:j<1):VLe (fapp (shiftF 0 (vW4 l)) n (shiftF 0 F) i j) (vW4 (l++[a]) i j):=by
 obtain rfl:j=0:=by omega
 subst hn;apply VLe.of_eq;rw[vW4,gQ_snoc];by_cases h:i<l.length
 . rw[fapp_lt h,shiftF_eq,Nat.zero_add,if_pos h];rfl
 . rw[fapp_ge h,if_neg h];have:i=l.length:=by omega
   subst this;simp[shiftF,hF,hx]
theorem fam_appW4 {F F':Nat->List Nat} {t x n:Nat} (hF:F'=appQ F t x) {g:Nat->Nat->V} (hg:∀j u,j<(F t).length+1->u<1->VLe (g j u) (vW4 (F t++[x]) j u)) (ρ:Rn) :
 BRen ρ (.fam n 1 (setN (lenQ F) t ((F t).length+1)) (setF (rowW4 F) t g) []) (.fam n 1 (lenQ F') (rowW4 F') []):=by
 subst hF;refine⟨rfl,rfl,True.intro,fun i hi=>?_,fun i j u hi hn hj hu=>?_⟩
 . rw[lenQ_app];rfl
 . simp only[setF,rowW4,appQ];simp only[setN] at hj;by_cases e:i=t
   . rw[if_pos e,if_pos e];rw[if_pos e] at hj;rw[e];exact hg j u hj hu
   . rw[if_neg e,if_neg e];exact VLe.rfl
def adqP (lg:Nat->Bool) (L:List (Nat×Nat)) (p:Nat×Nat):List (Nat×Nat):=if lg p.1=false/\p∉L then L++[p] else L
theorem PairI.add {s:Tsy} {lg:Nat->Bool} {m:Nat} {L:List (Nat×Nat)} (h:PairI s lg m L) {p:Nat×Nat} (hp:p.1<s.n/\p.2<m):PairI s lg m (adqP lg L p):=by
 rw[adqP];split
 . rename_i q;exact h.snoc hp q.1 q.2
 . exact h
theorem mget_pair {L:List (Nat×Nat)} {p:Nat×Nat} {A:V->Prop} {B:Prop} (h1:p∈L->A (.bool true)) (h2:p∉L->B):MGet (mfind (enQ L) (kyP p)) A B:=by
 rw[find_enQ];by_cases h:p∈L
 . rw[if_pos h];exact⟨fun v hv=>(by cases hv;exact h1 h),fun hn=>(by cases hn)⟩
 . rw[if_neg h];exact⟨fun v hv=>(by cases hv),fun _=>h2 h⟩
theorem adqP_leg {lg:Nat->Bool} {L:List (Nat×Nat)} {p:Nat×Nat} (h:lg p.1=true):adqP lg L p=L:=if_neg (fun q=>by rw[h] at q;exact Bool.noConfusion q.1)
theorem adqP_new {lg:Nat->Bool} {L:List (Nat×Nat)} {p:Nat×Nat} (h1:lg p.1=false) (h:p∉L):adqP lg L p=L++[p]:=if_pos ⟨h1,h⟩
structure MpI (s:Tsy) (lg:Nat->Bool) (Q:Nat->Nat->Nat->Prop) (B:Nat) (es:List (KyT (.st KP)×V)):Prop where
 get:∀(p:Nat×Nat) (v:V),p.1<s.n->lg p.1=false->mfind es (kyP p)=some v->∃r:Nat,v=.int .i64 r/\Q p.1 p.2 r/\r<=B
theorem MpI.nil (s:Tsy) (lg:Nat->Bool) (Q:Nat->Nat->Nat->Prop) (B:Nat):MpI s lg Q B []:=⟨fun p v _ _ h=>by simp[mfind] at h⟩
theorem MpI.mono {s:Tsy} {lg:Nat->Bool} {Q:Nat->Nat->Nat->Prop} {B B':Nat} {es:List (KyT (.st KP)×V)} (h:MpI s lg Q B es) (hB:B<=B'):MpI s lg Q B' es:=⟨fun p v h1 h2 h3=>by
 obtain⟨r,a,b,c⟩:=h.get p v h1 h2 h3;exact⟨r,a,b,Nat.le_trans c hB⟩⟩
theorem MpI.mget {s:Tsy} {lg:Nat->Bool} {Q:Nat->Nat->Nat->Prop} (hQ:RQ s lg Q) {B:Nat} {es:List (KyT (.st KP)×V)} (h:MpI s lg Q B es) {p:Nat×Nat} (h1:p.1<s.n) (h2:lg p.1=false) {A:V->Prop}
 (hA:∀r:Nat,Q p.1 p.2 r->r<=B->A (.int .i64 r)):MGet (mfind es (kyP p)) A (A (.int .i64 0)):=by
 refine⟨fun v hv=>?_,fun hn=>?_⟩
 . obtain⟨r,rfl,b,c⟩:=h.get p v h1 h2 hv;exact hA r b c
 . exact hA 0 (hQ.zero _ _ h1 h2) (Nat.zero_le _)
theorem MpI.put {s:Tsy} {lg:Nat->Bool} {Q:Nat->Nat->Nat->Prop} {B:Nat} {es:List (KyT (.st KP)×V)} (h:MpI s lg Q B es) {p:Nat×Nat} {r:Nat} (hr:Q p.1 p.2 r) (hB:r<=B+1):MpI s lg Q (B+1) (mput es (kyP p) (.int .i64 r)):=⟨fun q v h1 h2 h3=>by
 rw[mfind_put] at h3;split at h3
 . rename_i e;have e:=kyP_inj e;subst e;cases h3;exact⟨r,rfl,hr,hB⟩
 . obtain⟨r',a,b,c⟩:=h.get q v h1 h2 h3;exact⟨r',a,b,by omega⟩⟩
end Go.Eng
namespace Go.Proofs.YtobpogkghbakmaaGreatDoor
open Go.Eng Go.Plain
set_option maxRecDepth 100000
set_option linter.unusedVariables false
theorem wafter_ok (s:Tsy) (hs:s.Ok) (k pd:Nat) (hp:pd<4294967296) (a:Nat×Nat) (ha:a.1<4294967296) (ht:a.2<s.n) :
 Ret Tryz.prog 64 [s.v,.agg [.int .i64 k,.int .u32 pd],.agg [.int .u32 a.1,.int .i64 a.2]] (.tup [.agg [.int .i64 a.2,.int .u32 (s.aft pd a).1],.bool (s.aft pd a).2]):=by
 have hen:=hs.en _ ht;have n2:=hs.n2;have hd:=bit_andNot hp ha;have hnd:ndiff pd a.1<4294967296:=Nat.lt_of_le_of_lt Nat.and_le_left hp;have hb:=bit_and hnd (show s.en a.2<4294967296 by omega);refine ret_frz rfl ?_;refine fn_rule mixed Tryz.func64 rfl hc64 hr64 rfl ?_
 repeat' ((conv=>whnf);first|(refine Sv.mk _ hd.symm ?_)|(refine Sv.mk _ hb.symm ?_)|(refine Br.dec ?_ ?_<;>intro _<;>try omega)|(refine Ix.nat (by omega) ?_))
 all_goals (conv=>whnf)
 . rename_i h;have h:ndiff pd a.1 &&& s.en a.2=0:=by omega
   rw[Tsy.aft,if_pos h];exact VLe.rfl
 . rename_i h;have h:¬ ndiff pd a.1 &&& s.en a.2=0:=by omega
   rw[Tsy.aft,if_neg h];exact VLe.rfl
structure RchS where
 L:List (Nat×Nat)
 i:Nat
 F:Nat->List Nat
structure RchI (s:Tsy) (lg:Nat->Bool) (m:Nat) (x:RchS):Prop where
 pr:PairI s lg m x.L
 le:x.i<=x.L.length
 row:∀t,lenQ x.F t<=x.i
 val:∀t,∀a∈x.F t,a<m/\lg t=false
noncomputable def ownRc (s:Tsy) (lg:Nat->Bool) (L:List (Nat×Nat)):Own:=[(5,.vec L.length 2 (vPr L)),(4,.cells [.vec 5 2 0 L.length]),(3,.cells [.map 2]),(2,.map (.st KP) (enQ L)),(1,.cells [blV s.n lg]),(0,.cells [.fz s.n 1 false (vEn s),.fz s.n 1 false (vArs s)])]
noncomputable def ownRr (s:Tsy) (lg:Nat->Bool) (x:RchS):Own:=(6,.fam s.n 1 (lenQ x.F) (rowW4 x.F) [])::ownRc s lg x.L
set_option maxHeartbeats 8000000 in
theorem reach_ok (s:Tsy) (hs:s.Ok) (lg:Nat->Bool) (m0:Nat) (hm0:∀k,k<s.n->s.en k<m0) (hnm:s.n*m0<=262144) :
 RetP Tryz.prog 63 [s.v,blV s.n lg] fun v=>∃F:Nat->List Nat,(∀k,(F k).length<=262144)/\(∀k,∀a∈F k,a<262144/\lg k=false)/\v=.tup [.fz s.n 1 false fun k _=>uV (F k),.int .i64 0]:=by
 have n1:=hs.n1;have hm1:m0<=262144:=Nat.le_trans (Nat.le_mul_of_pos_left m0 n1) hnm;have n2:=hs.n2;refine ret_frzP2 rfl ?_;refine fn_rule mixed Tryz.func63 rfl hc63 hr63 rfl ?_
 repeat' ((conv=>whnf);first|fail)
 all_goals (conv=>whnf)
 refine loop_w mixed [2,3,7,8,21,22] [5] [6,7,8,9,10,11,12,13,14,15,16,17,18,19,20,21,22,23,24,25,26,27,28,29,30,31,32,33,34,35,36,37,38,39] [5,4,3,2,1,0] (fun x:Nat×List (Nat×Nat)=>[(23,.int .i64 x.1)]) (fun x=>ownRc s lg x.2) (fun m x=>m=s.n-x.1/\x.1<=s.n/\PairI s lg m0 x.2) s.n (0,[]) ⟨rfl,Nat.zero_le _,PairI.nil s lg m0⟩ rfl (fun _=>rfl) ?_ ?_
 . have he:=enQ_nil;refine weak_by (fun _ _=>[(0,some 0),(1,some 1),(2,some 2),(3,some 3),(4,some 4),(5,none)]) ?_ ?_ rfl
   . repeat' (first|exact True.intro|(refine VRen.fn ?_)|(refine⟨⟨_,rfl,?_⟩,?_⟩)|exact VRen.kf rfl|exact VRen.loc rfl|(refine And.intro ?_ ?_))
   . repeat' (first|exact⟨rfl,he⟩|exact True.intro|exact VRen.map rfl|(refine⟨⟨_,rfl,?_⟩,?_⟩)|exact VRen.kf rfl|exact VRen.nil rfl rfl|(refine⟨⟨_,_,rfl⟩,?_⟩)|(refine And.intro ?_ ?_))
 rintro m x ⟨hm,hx,hP⟩;have hPl:=hP.len;by_cases hxn:x.1<s.n
 . have hadd:PairI s lg m0 (adqP lg x.2 (x.1,s.en x.1)):=hP.add ⟨hxn,hm0 _ hxn⟩;cases hlg:lg x.1 with
   | true =>
     have he:=adqP_leg (lg:=lg) (L:=x.2) (p:=(x.1,s.en x.1)) hlg
     repeat' ((conv=>whnf);first|(refine Br.mk (fun _=>?_) (fun e=>Bool.noConfusion (e.symm.trans hlg)))|(refine Br.dec ?_ ?_<;>intro _<;>try omega)|(refine Ar.i64 (by omega) (by omega) ?_)|(refine Ix.nat (by omega) ?_)|(refine fn_rule mixed Tryz.func107 rfl hc107 hr107 rfl ?_)|(refine Chk.mk (by kernel_rfl) ?_))
     all_goals (conv=>whnf)
     refine⟨_,(x.1+1,x.2),?_,⟨rfl,hxn,hP⟩,?_⟩
     . simp only;omega
     . refine weak_by (fun _ _=>[(0,some 0),(1,some 1),(2,some 2),(3,some 3),(4,some 4),(5,some 5)]) ?_ ?_ rfl
       . repeat' (first|exact True.intro|(refine VRen.fn ?_)|(refine⟨⟨_,rfl,?_⟩,?_⟩)|exact VRen.kf rfl|exact VRen.loc rfl|(refine And.intro ?_ ?_))
       . repeat' (first|exact⟨rfl,rfl⟩|exact True.intro|exact VRen.map rfl|(refine⟨⟨_,rfl,?_⟩,?_⟩)|exact VRen.kf rfl|exact VRen.vec rfl rfl rfl|(refine⟨Nat.le_refl _,rfl,fun i j hi hj=>?_⟩)|exact VLe.rfl|(refine And.intro ?_ ?_))
   | false =>
     repeat' ((conv=>whnf);first|(refine Br.mk (fun e=>Bool.noConfusion (e.symm.trans hlg)) (fun _=>?_))|(refine Br.dec ?_ ?_<;>intro _<;>try omega)|(refine Br.nbeq ?_ ?_<;>intro _<;>try omega)|(refine Ar.i64 (by omega) (by omega) ?_)|(refine Ix.nat (by omega) ?_)|(refine Len.mk (by omega) ?_)|(refine fn_rule mixed Tryz.func107 rfl hc107 hr107 rfl ?_)|(refine Chk.mk (by kernel_rfl) ?_)|(refine mget_pair (p:=(x.1,s.en x.1)) (fun hin=>?_) (fun hout=>?_)))
     all_goals (conv=>whnf)
     . refine⟨_,(x.1+1,x.2),?_,⟨rfl,hxn,hP⟩,?_⟩
       . simp only;omega
       . refine weak_by (fun _ _=>[(0,some 0),(1,some 1),(2,some 2),(3,some 3),(4,some 4),(5,some 5)]) ?_ ?_ rfl
         . repeat' (first|exact True.intro|(refine VRen.fn ?_)|(refine⟨⟨_,rfl,?_⟩,?_⟩)|exact VRen.kf rfl|exact VRen.loc rfl|(refine And.intro ?_ ?_))
         . repeat' (first|exact⟨rfl,rfl⟩|exact True.intro|exact VRen.map rfl|(refine⟨⟨_,rfl,?_⟩,?_⟩)|exact VRen.kf rfl|exact VRen.vec rfl rfl rfl|(refine⟨Nat.le_refl _,rfl,fun i j hi hj=>?_⟩)|exact VLe.rfl|(refine And.intro ?_ ?_))
     . rw[adqP_new hlg hout] at hadd;have hpe:=put_enQ hout;refine⟨_,(x.1+1,x.2++[(x.1,s.en x.1)]),?_,⟨rfl,hxn,hadd⟩,?_⟩
       . simp only;omega
       . refine weak_by (fun env own=>[(0,some 0),(1,some 1),(2,some 2),(3,some 3),(4,some 4),(5,ckeyo own 4 0)]) ?_ ?_ rfl
         . repeat' (first|exact True.intro|(refine VRen.fn ?_)|(refine⟨⟨_,rfl,?_⟩,?_⟩)|exact VRen.kf rfl|exact VRen.loc rfl|(refine And.intro ?_ ?_))
         . repeat' (first|exact⟨rfl,hpe.symm⟩|exact VRen.vec rfl rfl (by simp only[List.length_append,List.length_singleton])|(refine⟨by simp only[List.length_append,List.length_singleton];omega,rfl,fun i j hi hj=>?_⟩)|exact vle_appP _ _ _ rfl rfl _ _ _ rfl (by simpa using hi) hj|exact True.intro|exact VRen.map rfl|(refine⟨⟨_,rfl,?_⟩,?_⟩)|exact VRen.kf rfl|(refine And.intro ?_ ?_))
 have hx':x.1=s.n:=by omega
 repeat' ((conv=>whnf);first|(refine Br.dec ?_ ?_<;>intro _<;>try omega)|(refine Bd.nat (by omega) ?_)|(refine Len.mk (by omega) ?_)|(refine MkS.vec ?_))
 all_goals (conv=>whnf)
 generalize x.2=L0 at *;clear hx' hx hm;refine loop_w mixed [2,7,8,11] [5,7] [8,9,10,11,12,13,14,15,16,17,18,19,20,21,22,23,24,25,26,27,28,29,30,31,32,33,34,35,36,37,38,39] [7,6,5,4,3,2,1,0] (fun x:RchS=>[(12,.int .i64 x.i)]) (fun x=>(7,.vec (if x.i<x.L.length then lenQ x.F (gP x.L x.i).1 else 0) 1 (rowW4 x.F (gP x.L x.i).1))::updO (ownRr s lg x) 6 (.fam s.n 1 (lenQ x.F) (rowW4 x.F) (opnI (decide (x.i<x.L.length)) (gP x.L x.i).1 7))) (fun m x=>m=s.n*m0-x.i/\RchI s lg m0 x) (s.n*m0) ⟨L0,0,fun _=>[]⟩ ⟨rfl,hP,Nat.zero_le _,fun _=>Nat.zero_le _,fun _ a h=>(by cases h)⟩ rfl (fun _=>rfl) ?_ ?_
 . by_cases h1:0<L0.length
   . have b3:=(hP.ok _ (gP_mem h1)).1;simp only[decide_eq_true h1,opnI,if_true,if_pos h1];refine Weak.trans ?_ (weak_open (own:=ownRr s lg ⟨L0,0,fun _=>[]⟩) (ks:=[7,8,9,10,11,12,13,14,15,16,17,18,19,20,21,22,23,24,25,26,27,28,29,30,31,32,33,34,35,36,37,38,39]) rfl rfl rfl b3 rfl) (ksC rfl);refine weak_by (fun _ _=>[(0,some 0),(1,some 1),(2,some 2),(3,some 3),(4,some 4),(5,some 5),(6,some 6)]) ?_ ?_ rfl
     . repeat' (first|exact True.intro|(refine VRen.fn ?_)|(refine⟨⟨_,rfl,?_⟩,?_⟩)|exact VRen.kf rfl|exact VRen.loc rfl|exact VRen.vec rfl rfl rfl|(refine And.intro ?_ ?_))
     . repeat' (first|exact⟨rfl,rfl,rfl,fun i hi=>⟨rfl,rfl⟩⟩|exact⟨rfl,rfl⟩|exact True.intro|exact VRen.map rfl|(refine⟨⟨_,rfl,?_⟩,?_⟩)|exact VRen.kf rfl|exact VRen.vec rfl rfl rfl|(refine⟨Nat.le_refl _,rfl,fun i j hi hj=>?_⟩)|exact VLe.rfl|(refine And.intro ?_ ?_))
   . simp only[decide_eq_false h1,opnI,Bool.false_eq_true,if_false,if_neg h1];refine weak_by (fun _ _=>[(0,some 0),(1,some 1),(2,some 2),(3,some 3),(4,some 4),(5,some 5),(6,some 6),(7,none)]) ?_ ?_ rfl
     . repeat' (first|exact True.intro|(refine VRen.fn ?_)|(refine⟨⟨_,rfl,?_⟩,?_⟩)|exact VRen.kf rfl|exact VRen.loc rfl|exact VRen.vec rfl rfl rfl|(refine And.intro ?_ ?_))
     . repeat' (first|exact⟨rfl,rfl,rfl,fun i hi=>⟨rfl,rfl⟩⟩|exact⟨rfl,rfl⟩|exact True.intro|exact VRen.map rfl|(refine⟨⟨_,rfl,?_⟩,?_⟩)|exact VRen.kf rfl|exact VRen.vec rfl rfl rfl|(refine⟨Nat.le_refl _,rfl,fun i j hi hj=>?_⟩)|exact VLe.rfl|(refine⟨⟨_,_,rfl⟩,?_⟩)|(refine And.intro ?_ ?_))
 rintro m x ⟨hm,hI⟩;have hIl:=hI.pr.len;have hle:=hI.le;by_cases hil:x.i<x.L.length
 . have hp:=hI.pr.ok _ (gP_mem hil);have hpl:=hI.pr.leg _ (gP_mem hil);have hrw:=hI.row (gP x.L x.i).1;have hrow:=hs.row hp.1;have hen:=hm0 _ hp.1;have hl0:gP x.L (0+x.i)=gP x.L x.i:=by rw[Nat.zero_add]
   generalize hpp:gP x.L x.i=p at *;simp only[decide_eq_true hil,opnI,if_true,if_pos hil]
   repeat' ((conv=>whnf);first|(refine Ix.mk p.1 (by rw[hl0]) hp.1 ?_)|(refine Br.dec ?_ ?_<;>intro _<;>try omega)|(refine Br.nbeq ?_ ?_<;>intro _<;>try omega)|(refine Ix.nat (by omega) ?_)|(refine Len.mk (by omega) ?_)|(refine Ltn.mk (by omega) ?_)|(refine Opn.hd (by omega) ?_)|(refine OpnSet.hd (by omega) ?_)|(refine And.intro rfl ?_))
   all_goals (conv=>whnf)
   refine loop_w mixed [2,7,8,11,12,13,68,69] [5] [11,12,13,14,15,16,17,18,19,20,21,22,23,24,25,26,27,28,29,30,31,32,33,34,35,36,37,38,39] [8,6,5,4,3,2,1,0] (fun y:Nat×List (Nat×Nat)=>[(70,.int .i64 y.1)]) (fun y=>(8,.cells [.int .i64 p.1,.int .u32 p.2])::(6,.fam s.n 1 (lenQ (appQ x.F p.1 p.2)) (rowW4 (appQ x.F p.1 p.2)) [])::ownRc s lg y.2) (fun m y=>m=(s.ar p.1).length-y.1/\y.1<=(s.ar p.1).length/\PairI s lg m0 y.2/\x.i<y.2.length) (s.ar p.1).length (0,x.L) ⟨rfl,Nat.zero_le _,hI.pr,hil⟩ rfl (fun _=>rfl) ?_ ?_
   . refine Weak.trans (weak_step (own_close (q:=10) (k:=6) (i:=p.1) [] rfl rfl hp.1 (look_here rfl) (Nat.le_of_eq (if_pos rfl)) rfl (fun j hj=>(look_there (fun e=>hj e.symm)).symm))) ?_ (ksS rfl);refine weak_by (fun _ _=>[(0,some 0),(1,some 1),(2,some 2),(3,some 3),(4,some 4),(5,some 5),(6,some 6),(8,some 8)]) ?_ ?_ rfl
     . repeat' (first|exact True.intro|(refine VRen.fn ?_)|(refine⟨⟨_,rfl,?_⟩,?_⟩)|exact VRen.kf rfl|exact VRen.loc rfl|exact VRen.vec rfl rfl rfl|(refine And.intro ?_ ?_))
     . repeat' (first|exact fam_appW4 rfl (fun j u hj hu=>vle_appW4 _ _ _ _ rfl (by rw[hl0]) _ _ _ rfl hj hu) _|exact VRen.int (by rw[hl0])|exact⟨rfl,rfl⟩|exact True.intro|exact VRen.map rfl|(refine⟨⟨_,rfl,?_⟩,?_⟩)|exact VRen.kf rfl|exact VRen.vec rfl rfl rfl|(refine⟨Nat.le_refl _,rfl,fun i j hi hj=>?_⟩)|exact VLe.rfl|(refine And.intro ?_ ?_))
   rintro m2 y ⟨hm2,hy,hP2,hyl⟩;have hP2l:=hP2.len;by_cases hyn:y.1<(s.ar p.1).length
   . obtain⟨a1,a2,a3⟩:=hs.arc _ hp.1 _ (gA_mem hyn);have ha32:=a2.le;have hen2:=hs.en _ hp.1;have haf:=s.aft_le p.2 (gA (s.ar p.1) y.1);have haf2:=hm0 _ a3;have hwa:=wafter_ok s hs p.1 p.2 (by omega) (gA (s.ar p.1) y.1) (by omega) a3;have hadd:PairI s lg m0 (adqP lg y.2 ((gA (s.ar p.1) y.1).2,(s.aft p.2 (gA (s.ar p.1) y.1)).1)):=hP2.add ⟨a3,by simp only;omega⟩;obtain⟨b,hb⟩:∃b,(s.aft p.2 (gA (s.ar p.1) y.1)).2=b:=⟨_,rfl⟩;rw[hb] at hwa;cases b
     all_goals
      cases hlg:lg (gA (s.ar p.1) y.1).2 with
      | true =>
        repeat' ((conv=>whnf);first|(refine Br.mk (fun _=>?_) (fun e=>Bool.noConfusion (e.symm.trans hlg)))|(refine Br.tt ?_)|(refine Br.ff ?_)|(refine Br.dec ?_ ?_<;>intro _<;>try omega)|(refine Ar.i64 (by omega) (by omega) ?_)|(refine Ix.nat (by omega) ?_)|(refine hwa.go ?_)|(refine fn_rule mixed Tryz.func107 rfl hc107 hr107 rfl ?_)|(refine Chk.mk (by kernel_rfl) ?_))
        all_goals (conv=>whnf)
        refine⟨_,(y.1+1,y.2),?_,⟨rfl,hyn,hP2,hyl⟩,?_⟩
        . simp only;omega
        . refine weak_by (fun _ _=>[(0,some 0),(1,some 1),(2,some 2),(3,some 3),(4,some 4),(5,some 5),(6,some 6),(8,some 8)]) ?_ ?_ rfl
          . repeat' (first|exact True.intro|(refine VRen.fn ?_)|(refine⟨⟨_,rfl,?_⟩,?_⟩)|exact VRen.kf rfl|exact VRen.loc rfl|exact VRen.vec rfl rfl rfl|(refine And.intro ?_ ?_))
          . repeat' (first|exact⟨rfl,rfl⟩|exact⟨rfl,rfl,True.intro,fun i hi=>rfl,fun i j t hi hn hj ht=>VLe.rfl⟩|exact True.intro|exact VRen.map rfl|(refine⟨⟨_,rfl,?_⟩,?_⟩)|exact VRen.kf rfl|exact VRen.vec rfl rfl rfl|(refine⟨Nat.le_refl _,rfl,fun i j hi hj=>?_⟩)|exact VLe.rfl|(refine And.intro ?_ ?_))
      | false =>
        repeat' ((conv=>whnf);first|(refine Br.mk (fun e=>Bool.noConfusion (e.symm.trans hlg)) (fun _=>?_))|(refine Br.tt ?_)|(refine Br.ff ?_)|(refine Br.dec ?_ ?_<;>intro _<;>try omega)|(refine Br.nbeq ?_ ?_<;>intro _<;>try omega)|(refine Ar.i64 (by omega) (by omega) ?_)|(refine Ix.nat (by omega) ?_)|(refine Len.mk (by omega) ?_)|(refine hwa.go ?_)|(refine fn_rule mixed Tryz.func107 rfl hc107 hr107 rfl ?_)|(refine Chk.mk (by kernel_rfl) ?_)|(refine mget_pair (p:=((gA (s.ar p.1) y.1).2,(s.aft p.2 (gA (s.ar p.1) y.1)).1)) (fun hin=>?_) (fun hout=>?_)))
        all_goals (conv=>whnf)
        . refine⟨_,(y.1+1,y.2),?_,⟨rfl,hyn,hP2,hyl⟩,?_⟩
          . simp only;omega
          . refine weak_by (fun _ _=>[(0,some 0),(1,some 1),(2,some 2),(3,some 3),(4,some 4),(5,some 5),(6,some 6),(8,some 8)]) ?_ ?_ rfl
            . repeat' (first|exact True.intro|(refine VRen.fn ?_)|(refine⟨⟨_,rfl,?_⟩,?_⟩)|exact VRen.kf rfl|exact VRen.loc rfl|exact VRen.vec rfl rfl rfl|(refine And.intro ?_ ?_))
            . repeat' (first|exact⟨rfl,rfl⟩|exact⟨rfl,rfl,True.intro,fun i hi=>rfl,fun i j t hi hn hj ht=>VLe.rfl⟩|exact True.intro|exact VRen.map rfl|(refine⟨⟨_,rfl,?_⟩,?_⟩)|exact VRen.kf rfl|exact VRen.vec rfl rfl rfl|(refine⟨Nat.le_refl _,rfl,fun i j hi hj=>?_⟩)|exact VLe.rfl|(refine And.intro ?_ ?_))
        . rw[adqP_new hlg hout] at hadd;have hpe:=put_enQ hout;refine⟨_,(y.1+1,y.2++[((gA (s.ar p.1) y.1).2,(s.aft p.2 (gA (s.ar p.1) y.1)).1)]),?_,⟨rfl,hyn,hadd,by simp only[List.length_append];omega⟩,?_⟩
          . simp only;omega
          . refine weak_by (fun env own=>[(0,some 0),(1,some 1),(2,some 2),(3,some 3),(4,some 4),(5,ckeyo own 4 0),(6,some 6),(8,some 8)]) ?_ ?_ rfl
            . repeat' (first|exact VRen.vec rfl rfl (by simp only[List.length_append,List.length_singleton])|exact True.intro|(refine VRen.fn ?_)|(refine⟨⟨_,rfl,?_⟩,?_⟩)|exact VRen.kf rfl|exact VRen.loc rfl|(refine And.intro ?_ ?_))
            . repeat' (first|exact⟨rfl,hpe.symm⟩|exact VRen.vec rfl rfl (by simp only[List.length_append,List.length_singleton])|(refine⟨by simp only[List.length_append,List.length_singleton];omega,rfl,fun i j hi hj=>?_⟩)|exact vle_appP _ _ _ rfl rfl _ _ _ rfl (by simpa using hi) hj|exact⟨rfl,rfl,True.intro,fun i hi=>rfl,fun i j t hi hn hj ht=>VLe.rfl⟩|exact True.intro|exact VRen.map rfl|(refine⟨⟨_,rfl,?_⟩,?_⟩)|exact VRen.kf rfl|(refine And.intro ?_ ?_))
   . repeat' ((conv=>whnf);first|(refine Br.dec ?_ ?_<;>intro _<;>try omega)|(refine Ar.i64 (by omega) (by omega) ?_))
     all_goals (conv=>whnf)
     have hrow':∀t,lenQ (appQ x.F p.1 p.2) t<=x.i+1:=fun t=>by
      rw[lenQ_app];have h1:=hI.row t;have h2:=hI.row p.1;rw[lenQ] at h2;split<;>omega
     have hval':∀t,∀a∈appQ x.F p.1 p.2 t,a<m0/\lg t=false:=fun t a ha=>by
      rw[appQ] at ha;split at ha
      . rename_i e;subst e;rcases List.mem_append.1 ha with h|h
        . exact hI.val _ a h
        . simp at h;subst h;exact⟨hp.2,hpl⟩
      . exact hI.val t a ha
     refine⟨_,⟨y.2,x.i+1,appQ x.F p.1 p.2⟩,?_,⟨rfl,hP2,hyl,hrow',hval'⟩,?_⟩
     . simp only;omega
     . by_cases h1:x.i+1<y.2.length
       . have b3:=(hP2.ok _ (gP_mem h1)).1;simp only[decide_eq_true h1,if_true,if_pos h1];refine Weak.trans ?_ (weak_open (own:=ownRr s lg ⟨y.2,x.i+1,appQ x.F p.1 p.2⟩) (ks:=[7,8,9,10,11,12,13,14,15,16,17,18,19,20,21,22,23,24,25,26,27,28,29,30,31,32,33,34,35,36,37,38,39]) rfl rfl rfl b3 rfl) (ksC rfl);refine weak_by (fun _ _=>[(0,some 0),(1,some 1),(2,some 2),(3,some 3),(4,some 4),(5,some 5),(6,some 6)]) ?_ ?_ rfl
         . repeat' (first|exact True.intro|(refine VRen.fn ?_)|(refine⟨⟨_,rfl,?_⟩,?_⟩)|exact VRen.kf rfl|exact VRen.loc rfl|exact VRen.vec rfl rfl rfl|(refine And.intro ?_ ?_))
         . repeat' (first|exact⟨rfl,rfl,True.intro,fun i hi=>rfl,fun i j t hi hn hj ht=>VLe.rfl⟩|exact⟨rfl,rfl⟩|exact True.intro|exact VRen.map rfl|(refine⟨⟨_,rfl,?_⟩,?_⟩)|exact VRen.kf rfl|exact VRen.vec rfl rfl rfl|(refine⟨Nat.le_refl _,rfl,fun i j hi hj=>?_⟩)|exact VLe.rfl|(refine And.intro ?_ ?_))
       . simp only[decide_eq_false h1,Bool.false_eq_true,if_false,if_neg h1];refine weak_by (fun _ _=>[(0,some 0),(1,some 1),(2,some 2),(3,some 3),(4,some 4),(5,some 5),(6,some 6),(7,none)]) ?_ ?_ rfl
         . repeat' (first|exact True.intro|(refine VRen.fn ?_)|(refine⟨⟨_,rfl,?_⟩,?_⟩)|exact VRen.kf rfl|exact VRen.loc rfl|exact VRen.vec rfl rfl rfl|(refine And.intro ?_ ?_))
         . repeat' (first|exact⟨rfl,rfl,True.intro,fun i hi=>rfl,fun i j t hi hn hj ht=>VLe.rfl⟩|exact⟨rfl,rfl⟩|exact True.intro|exact VRen.map rfl|(refine⟨⟨_,rfl,?_⟩,?_⟩)|exact VRen.kf rfl|exact VRen.vec rfl rfl rfl|(refine⟨Nat.le_refl _,rfl,fun i j hi hj=>?_⟩)|exact VLe.rfl|(refine⟨⟨_,_,rfl⟩,?_⟩)|(refine And.intro ?_ ?_))
 . simp only[decide_eq_false hil,opnI,Bool.false_eq_true,if_false,if_neg hil]
   repeat' ((conv=>whnf);first|(refine Br.dec ?_ ?_<;>intro _<;>try omega)|(refine Len.mk (by omega) ?_))
   all_goals (conv=>whnf)
   refine⟨_,⟨x.F,fun k=>?_,fun k a ha=>⟨by have:=(hI.val k a ha).1;omega,(hI.val k a ha).2⟩,rfl⟩,?_⟩
   . have:=hI.row k;rw[lenQ] at this;omega
   . refine VLe.tup ⟨VLe.fz rfl (fun h=>h) (fun a b ha hb=>?_),VLe.rfl,True.intro⟩;exact VLe.rfl
end Go.Proofs.YtobpogkghbakmaaGreatDoor
namespace Go.Eng
theorem capR_ex:∃f:Nat->Nat->Nat,∀i j,f i j=i*300000+j:=⟨fun i j=>i*300000+j,fun _ _=>rfl⟩
noncomputable def capR:Nat->Nat->Nat:=Classical.choose capR_ex
theorem capR_eq (i j:Nat):capR i j=i*300000+j:=Classical.choose_spec capR_ex i j
theorem capR_succ (i j:Nat):capR i (j+1)=capR i j+1:=by
 have h1:=capR_eq i (j+1);have h2:=capR_eq i j;omega
theorem capR_next {i j:Nat} (h:j<=262144):capR i j<=capR (i+1) 0:=by
 have h1:=capR_eq (i+1) 0;have h2:=capR_eq i j;omega
theorem capR_bnd {i j:Nat} (hi:i<=32768) (h:j<=262144):capR i j<=1000000000000:=by
 have h2:=capR_eq i j;omega
end Go.Eng
