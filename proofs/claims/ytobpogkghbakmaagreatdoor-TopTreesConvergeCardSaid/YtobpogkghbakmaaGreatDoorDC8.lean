import Derived.Test.YtobpogkghbakmaaGreatDoorLFG
import Derived.Test.YtobpogkghbakmaaGreatDoorSV1
import Derived.Test.YtobpogkghbakmaaGreatDoorEngZ
namespace Go.Plain
abbrev St:=Nat->Bool
structure Adj (n:Nat) (a:Nat->Nat->Bool):Prop where
 sym:∀u v,u<n->v<n->a u v=true->a v u=true
 irr:∀v,v<n->a v v=false
 rng:∀u v,u<n->a u v=true->v<n
def nbM (n:Nat) (a:Nat->Nat->Bool) (m:St) (v:Nat):Bool:=(List.range n).any fun u=>a v u&&m u
theorem nbM_iff {n:Nat} {a:Nat->Nat->Bool} {m:St} {v:Nat}:nbM n a m v=true↔∃u,u<n/\a v u=true/\m u=true:=by
 simp only[nbM,List.any_eq_true,List.mem_range,Bool.and_eq_true]
def enI (n:Nat) (a:Nat->Nat->Bool) (m:St) (v:Nat):Bool:=match m v with|true=>nbM n a m v|false=>!nbM n a m v
def cfl (n:Nat) (a:Nat->Nat->Bool) (m:St) (v:Nat):Bool:=m v&&nbM n a m v
def stI (s m:St):St:=fun v=>match s v with|true=>!m v|false=>m v
structure Chs (n:Nat) (a:Nat->Nat->Bool) (m s:St):Prop where
 en:∀v,s v=true->v<n/\enI n a m v=true
 ind:∀u v,s u=true->s v=true->a u v=false
variable {n:Nat} {a:Nat->Nat->Bool} {m s:St}
theorem enter_free (_ha:Adj n a) (hc:Chs n a m s) {v:Nat} (hs:s v=true) (hm:m v=false):stI s m v=true/\nbM n a (stI s m) v=false:=by
 obtain⟨hv,he⟩:=hc.en v hs;refine⟨by simp[stI,hs,hm],?_⟩;rw[Bool.eq_false_iff];intro h;obtain⟨u,hu,h1,h2⟩:=nbM_iff.1 h;have hsu:s u=false:=by
  cases e:s u with
  | false=>rfl
  | true=>have:=hc.ind v u hs e;rw[h1] at this;cases this
 simp only[stI,hsu] at h2;simp only[enI,hm,Bool.not_eq_true'] at he;rw[nbM_iff.2 ⟨u,hu,h1,h2⟩] at he;cases he
theorem cfl_back (ha:Adj n a) (hc:Chs n a m s) {v:Nat} (hv:v<n) (h:cfl n a (stI s m) v=true):cfl n a m v=true/\s v=false:=by
 simp only[cfl,Bool.and_eq_true] at h;have hold:∀w,w<n->stI s m w=true->nbM n a (stI s m) w=true->m w=true/\s w=false:=fun w hw h1 h2=>by
  cases e:s w with
  | true =>
    cases em:m w with
    | false=>rw[(enter_free ha hc e em).2] at h2;cases h2
    | true=>simp[stI,e,em] at h1
  | false =>
    simp only[stI,e] at h1;exact⟨h1,rfl⟩
 obtain⟨h1,h2⟩:=h;obtain⟨u,hu,h3,h4⟩:=nbM_iff.1 h2;have hb:=hold v hv h1 h2;have hb2:=hold u hu h4 (nbM_iff.2 ⟨v,hv,ha.sym v u hv hu h3,h1⟩);exact⟨by simp only[cfl,Bool.and_eq_true];exact⟨hb.1,nbM_iff.2 ⟨u,hu,h3,hb2.1⟩⟩,hb.2⟩
theorem cfl_en {v:Nat} (h:cfl n a m v=true):enI n a m v=true:=by
 simp only[cfl,Bool.and_eq_true] at h;simp only[enI,h.1,h.2]
theorem stay (hn:∀v,v<n->cfl n a m v=false) (hc:Chs n a m s) {v:Nat} (hv:v<n) (hm:m v=true):stI s m v=true:=by
 cases e:s v with
 | false=>simp[stI,e,hm]
 | true =>
   obtain⟨_,he⟩:=hc.en v e;simp only[enI,hm] at he;have:=hn v hv;simp[cfl,hm,he] at this
theorem en_back (hn:∀v,v<n->cfl n a m v=false) (hn2:∀v,v<n->cfl n a (stI s m) v=false) (hc:Chs n a m s) {v:Nat} (hv:v<n) (h:enI n a (stI s m) v=true):enI n a m v=true/\s v=false:=by
 have hm':stI s m v=false:=by
  cases e:stI s m v with
  | false=>rfl
  | true =>
    simp only[enI,e] at h;have:=hn2 v hv;simp[cfl,e,h] at this
 have hm:m v=false:=by
  cases e:m v with
  | false=>rfl
  | true=>rw[stay hn hc hv e] at hm';cases hm'
 have hs:s v=false:=by
  cases e:s v with
  | false=>rfl
  | true=>simp[stI,e,hm] at hm'
 refine⟨?_,hs⟩;simp only[enI,hm',Bool.not_eq_true'] at h;simp only[enI,hm,Bool.not_eq_true'];rw[Bool.eq_false_iff] at h ⊢;intro hb;obtain⟨u,hu,h3,h4⟩:=nbM_iff.1 hb;exact h (nbM_iff.2 ⟨u,hu,h3,stay hn hc hu h4⟩)
structure IInv (n:Nat) (a:Nat->Nat->Bool) (m p:St) (r:Nat):Prop where
 r0:r=0->∀v,v<n->cfl n a m v=true->p v=true
 r1:1<=r->∀v,v<n->cfl n a m v=false
 r2:r=1->∀v,v<n->enI n a m v=true->p v=true
 r3:2<=r->∀v,v<n->enI n a m v=false
def left (n:Nat) (a:Nat->Nat->Bool) (m p s:St):St:=fun v=>p v&&!s v&&enI n a (stI s m) v
theorem IInv.start:IInv n a m (enI n a m) 0:=⟨fun _ v _ h=>cfl_en h,fun h=>by omega,fun h=>by omega,fun h=>by omega⟩
theorem IInv.same (ha:Adj n a) (hc:Chs n a m s) {p:St} {r:Nat} (h:IInv n a m p r) (hr:r<=1):IInv n a (stI s m) (left n a m p s) r:=by
 refine⟨fun e v hv hf=>?_,fun e v hv=>?_,fun e v hv he=>?_,fun e=>by omega⟩
 . obtain⟨h1,h2⟩:=cfl_back ha hc hv hf;simp[left,h.r0 e v hv h1,h2,cfl_en hf]
 . cases hf:cfl n a (stI s m) v with
   | false=>rfl
   | true=>have:=h.r1 e v hv;rw[(cfl_back ha hc hv hf).1] at this;cases this
 . have hn2:∀v,v<n->cfl n a (stI s m) v=false:=fun v hv=>by
    cases hf:cfl n a (stI s m) v with
    | false=>rfl
    | true=>have:=h.r1 (by omega) v hv;rw[(cfl_back ha hc hv hf).1] at this;cases this
   obtain⟨h1,h2⟩:=en_back (h.r1 (by omega)) hn2 hc hv he;simp[left,h.r2 e v hv h1,h2,he]
theorem IInv.next (ha:Adj n a) (hc:Chs n a m s) {p:St} {r:Nat} (h:IInv n a m p r) (hr:r<=1) (h0:∀v,v<n->left n a m p s v=false):IInv n a (stI s m) (enI n a (stI s m)) (r+1):=by
 have hs:=h.same ha hc hr;refine⟨fun e=>by omega,fun _ v hv=>?_,fun _ v hv he=>he,fun e v hv=>?_⟩
 . cases hf:cfl n a (stI s m) v with
   | false=>rfl
   | true =>
     rcases (show r=0\/1<=r by omega) with e|e
     . have:=hs.r0 e v hv hf;rw[h0 v hv] at this;cases this
     . rw[hs.r1 e v hv] at hf;cases hf
 . cases he:enI n a (stI s m) v with
   | false=>rfl
   | true=>have:=hs.r2 (by omega) v hv he;rw[h0 v hv] at this;cases this
end Go.Plain
namespace Go.Proofs.YtobpogkghbakmaaGreatDoor
open Go.Eng
set_option maxRecDepth 100000
set_option linter.unusedVariables false
theorem itru_ne (b:Bool):(truI b≠0)↔b=true:=by cases b<;>simp[truI]
theorem itru_eq0 (b:Bool):(truI b=0)↔b=false:=by cases b<;>simp[truI]
abbrev adN (g:G):Nat->Nat->Bool:=adj g
theorem adj_adj {g:G} (hg:g.valid=true):Go.Plain.Adj g.ids.length (adN g):=by
 obtain⟨f1,f2,f3,f4,f5,f6,f7⟩:=val_facts hg;refine⟨fun u v hu hv h=>adj_sym hg (by omega) h,fun v hv=>adj_irr hg (by omega),fun u v hu h=>?_⟩;obtain⟨l,hl,e⟩:=adj_iff.1 h;have:=(okR_iff.1 (f6 u (by omega))).1 l hl;omega
end Go.Proofs.YtobpogkghbakmaaGreatDoor
namespace Go.Proofs.YtobpogkghbakmaaGreatDoor
open Go.Eng
set_option maxRecDepth 100000
set_option linter.unusedVariables false
theorem lenN_le:∀{l m:List Nat},l.Nodup->(∀a∈l,a∈m)->l.length<=m.length
 | [],m,_,_=>Nat.zero_le _
 | a::l,m,hn,hs=>by
   rw[List.nodup_cons] at hn;have ham:=hs a (by simp);have h1:=lenN_le (l:=l) (m:=m.erase a) hn.2 (fun b hb=>(List.mem_erase_of_ne (fun e=>hn.1 (by rw[<- e];exact hb))).2 (hs b (by simp[hb])));have h2:=List.length_erase_of_mem ham;have h3:=List.length_pos_of_mem ham;simp only[List.length_cons];omega
abbrev Pt:=List (List (Int×Int))
def toN (p:Pt) (v i:Nat):Nat:=(gF (gR p v) i).1.toNat
def lay (p:Pt) (f:Nat):Nat->Nat->Int
 | 0,v=>if v=f then 0 else -1
 | k+1,v=>if 0<=lay p f k v then lay p f k v else if (gR p v).any (fun l=>decide (lay p f k l.1.toNat=k)) then (k:Int)+1 else -1
structure Found (p:Pt) (f:Nat) (r:Nat->Int):Prop where
 low:∀v,v<p.length->-1<=r v
 from_:r f=0
 back:∀v,v<p.length->v≠f->0<=r v->∃l∈gR p v,r l.1.toNat=r v-1/\0<=r l.1.toNat
 on:∀v,v<p.length->0<=r v->∀l∈gR p v,0<=r l.1.toNat/\r l.1.toNat<=r v+1
structure Und (p:Pt):Prop where
 rng:∀v,v<p.length->∀l∈gR p v,l.1.toNat<p.length
 sym:∀v,v<p.length->∀l∈gR p v,∃m∈gR p l.1.toNat,m.1.toNat=v
theorem Found.at_ {p:Pt} {f:Nat} {r:Nat->Int} (hu:Und p) (h:Found p f r) (hf:f<p.length):∀k v,v<p.length->lay p f k v=if 0<=r v/\r v<=k then r v else -1
 | 0,v,hv=>by
   simp only[lay];by_cases e:v=f
   . subst e;rw[if_pos rfl,h.from_];simp
   . rw[if_neg e];by_cases h0:0<=r v
     . obtain⟨l,_,h1,h2⟩:=h.back v hv e h0;rw[if_neg (by omega)]
     . rw[if_neg (by omega)]
 | k+1,v,hv=>by
   have ih:=fun v hv=>Found.at_ hu h hf k v hv;have hl:=h.low v hv;rw[lay];by_cases h0:0<=r v/\r v<=k
   . have e1:lay p f k v=r v:=by rw[ih v hv,if_pos h0]
     rw[e1,if_pos h0.1];exact(if_pos ⟨h0.1,by omega⟩).symm
   . have e1:lay p f k v=-1:=by rw[ih v hv,if_neg h0]
     rw[e1,if_neg (by decide)];by_cases h1:0<=r v/\r v=k+1
     . have hvf:v≠f:=fun e=>by subst e;rw[h.from_] at h1;omega
       obtain⟨l,hl,q1,q2⟩:=h.back v hv hvf h1.1;have ha:(gR p v).any (fun l=>decide (lay p f k l.1.toNat=k))=true:=by
        rw[List.any_eq_true];refine⟨l,hl,decide_eq_true ?_⟩;rw[ih _ (hu.rng v hv l hl),if_pos ⟨q2,by omega⟩];omega
       rw[if_pos ha];refine Eq.trans ?_ (if_pos ⟨h1.1,by omega⟩).symm;omega
     . refine Eq.trans (if_neg ?_) (if_neg (show ¬ (0<=r v/\r v<=((k+1:Nat):Int)) by omega)).symm;intro ha;rw[List.any_eq_true] at ha;obtain⟨l,hl,e⟩:=ha;have e:=of_decide_eq_true e;have hlr:=hu.rng v hv l hl;rw[ih _ hlr] at e;split at e
       . rename_i h2;obtain⟨m,hm,em⟩:=hu.sym v hv l hl;obtain⟨q1,q2⟩:=h.on _ hlr h2.1 m hm;rw[em] at q1 q2;omega
       . omega
theorem Found.lt {p:Pt} {f:Nat} {r:Nat->Int} (hu:Und p) (h:Found p f r) {v:Nat} (hv:v<p.length):r v<p.length:=by
 have key:∀m:Nat,∀v,v<p.length->r v=m->∃l:List Nat,l.length=m+1/\l.Nodup/\(∀u∈l,u<p.length)/\∀u∈l,r u<=m:=by
  intro m
  induction m with
  | zero=>intro v hv e;exact⟨[v],rfl,by simp,by simpa using hv,by simp;omega⟩
  | succ m ih =>
    intro v hv e;have hvf:v≠f:=fun x=>by subst x;rw[h.from_] at e;omega
    obtain⟨l,hl,q1,q2⟩:=h.back v hv hvf (by omega);obtain⟨L,l1,l2,l3,l4⟩:=ih _ (hu.rng v hv l hl) (by omega);refine⟨v::L,by simp[l1],List.nodup_cons.2 ⟨fun hm=>?_,l2⟩,?_,?_⟩
    . have:=l4 v hm;omega
    . intro u hu;rcases List.mem_cons.1 hu with rfl|hu
      . exact hv
      . exact l3 u hu
    . intro u hu;rcases List.mem_cons.1 hu with rfl|hu
      . omega
      . have:=l4 u hu;omega
 rcases Int.lt_or_le (r v) 0 with h0|h0
 . omega
 . obtain⟨L,l1,l2,l3,_⟩:=key (r v).toNat v hv (by omega);have:L.length<=(List.range p.length).length:=lenN_le l2 (fun u hu=>List.mem_range.2 (l3 u hu));rw[l1,List.length_range] at this;omega
theorem Found.eq {p:Pt} {f:Nat} {r:Nat->Int} (hu:Und p) (h:Found p f r) (hf:f<p.length) {v:Nat} (hv:v<p.length):lay p f (p.length-1) v=r v:=by
 have h1:=h.lt hu hv;have h2:=h.low v hv;rw[h.at_ hu hf _ v hv];split
 . rfl
 . omega
def cntU (p:Nat->Bool):Nat->Nat
 | 0=>0
 | n+1=>cntU p n+if p n then 1 else 0
theorem cntU_ext {p q:Nat->Bool}:∀{n:Nat},(∀v,v<n->p v=q v)->cntU p n=cntU q n
 | 0,_=>rfl
 | n+1,h=>by
   have h1:=cntU_ext (n:=n) fun v hv=>h v (by omega);simp only[cntU,h1,h n (by omega)]
theorem cntU_one {p q:Nat->Bool} {u:Nat} (hp:p u=true) (hq:q u=false) (h:∀v,v≠u->p v=q v):∀{n:Nat},u<n->cntU p n=cntU q n+1
 | n+1,hn=>by
   simp only[cntU];by_cases e:u=n
   . subst e;rw[cntU_ext (fun v hv=>h v (by omega)),hp,hq];simp
   . rw[cntU_one hp hq h (n:=n) (by omega),h n (fun x=>e x.symm)];omega
def unv (r:List Int) (n:Nat):Nat:=cntU (fun v=>decide (gI r v<0)) n
theorem gI_set (r:List Int) (u v:Nat) (d:Int) (hu:u<r.length):gI (r.set u d) v=if v=u then d else gI r v:=by
 simp only[gI,List.getD,List.getElem?_set];by_cases h:u=v
 . subst h;simp[hu]
 . have:¬ v=u:=fun e=>h e.symm;simp[h,this]
structure BI (p:Pt) (f:Nat) (q:List Nat) (r:List Int):Prop where
 len:r.length=p.length
 low:∀v,v<p.length->-1<=gI r v
 from_:gI r f=0
 back:∀v,v<p.length->v≠f->0<=gI r v->∃l∈gR p v,gI r l.1.toNat=gI r v-1/\0<=gI r l.1.toNat
 qn:∀u∈q,u<p.length/\0<=gI r u
 sorted:q.Pairwise fun a b=>gI r a<=gI r b
structure BO (p:Pt) (f:Nat) (q:List Nat) (r:List Int):Prop extends BI p f q r where
 top:∀u∈q,∀v,v<p.length->gI r v<=gI r u+1
 done:∀v,v<p.length->0<=gI r v->v∉q->∀l∈gR p v,0<=gI r l.1.toNat/\gI r l.1.toNat<=gI r v+1
structure BP (p:Pt) (f v i:Nat) (q:List Nat) (r:List Int):Prop extends BI p f q r where
 vn:v<p.length/\0<=gI r v
 most:∀x,x<p.length->gI r x<=gI r v+1
 least:∀u∈q,gI r v<=gI r u
 done:∀x,x<p.length->0<=gI r x->x∉q->x≠v->∀l∈gR p x,0<=gI r l.1.toNat/\gI r l.1.toNat<=gI r x+1
 seen:∀l∈(gR p v).take i,0<=gI r l.1.toNat
theorem BO.pop {p:Pt} {f v:Nat} {q:List Nat} {r:List Int} (h:BO p f (v::q) r):BP p f v 0 q r where
 len:=h.len
 low:=h.low
 from_:=h.from_
 back:=h.back
 qn:=fun u hu=>h.qn u (by simp[hu])
 sorted:=(List.pairwise_cons.1 h.sorted).2
 vn:=h.qn v (by simp)
 most:=h.top v (by simp)
 least:=(List.pairwise_cons.1 h.sorted).1
 done:=fun x hx h0 hq hv=>h.done x hx h0 (by simp only[List.mem_cons,not_or];exact⟨hv,hq⟩)
 seen:=by simp
theorem BP.fin {p:Pt} {f v i:Nat} {q:List Nat} {r:List Int} (hu:Und p) (h:BP p f v i q r) (hi:(gR p v).length<=i):BO p f q r where
 toBI:=h.toBI
 top:=fun u hu x hx=>by have:=h.least u hu;have:=h.most x hx;omega
 done:=fun x hx h0 hq=>by
  by_cases e:x=v
  . subst e;intro l hl;refine⟨h.seen l (by rw[List.take_of_length_le hi];exact hl),h.most _ (hu.rng x hx l hl)⟩
  . exact h.done x hx h0 hq e
theorem BP.skip {p:Pt} {f v i:Nat} {q:List Nat} {r:List Int} (h:BP p f v i q r) (hi:i<(gR p v).length) (h0:0<=gI r (toN p v i)):BP p f v (i+1) q r where
 toBI:=h.toBI
 vn:=h.vn
 most:=h.most
 least:=h.least
 done:=h.done
 seen:=fun l hl=>by
  rw[gF_take _ i hi] at hl;rcases List.mem_append.1 hl with h1|h1
  . exact h.seen l h1
  . simp at h1;rw[h1];exact h0
theorem BP.visit {p:Pt} {f v i:Nat} {q:List Nat} {r:List Int} (hu:Und p) (h:BP p f v i q r) (hi:i<(gR p v).length) (h0:gI r (toN p v i)<0) :
 BP p f v (i+1) (q++[toN p v i]) (r.set (toN p v i) (gI r v+1))/\unv r p.length=unv (r.set (toN p v i) (gI r v+1)) p.length+1:=by
 obtain⟨hv,hv0⟩:=h.vn;have hun:toN p v i<p.length:=hu.rng v hv _ (gF_mem hi);obtain⟨m,hm,hmv⟩:=hu.sym v hv _ (gF_mem hi);have hg:=fun x=>gI_set r (toN p v i) x (gI r v+1) (by rw[h.len];exact hun);change m∈gR p (toN p v i) at hm;have hlast:(gF (gR p v) i).1.toNat=toN p v i:=rfl;generalize toN p v i=u at *;have hvu:v≠u:=fun e=>by subst e;omega
 have keep:∀x,0<=gI r x->gI (r.set u (gI r v+1)) x=gI r x:=fun x hx=>by
  rw[hg,if_neg (fun e=>by subst e;omega)]
 have hle:∀x,x<p.length->gI (r.set u (gI r v+1)) x<=gI r v+1:=fun x hx=>by
  rw[hg];split
  . omega
  . exact h.most x hx
 refine⟨{ len:=by simp[h.len],low:=?_,from_:=?_,back:=?_,qn:=?_,sorted:=?_,vn:=?_,most:=?_,least:=?_,done:=?_,seen:=?_ },?_⟩
 . intro x hx;rw[hg];split
   . omega
   . exact h.low x hx
 . rw[keep f (by rw[h.from_];omega)];exact h.from_
 . intro x hx hxf hx0;by_cases e:x=u
   . subst e;refine⟨m,hm,?_⟩;rw[hmv,keep v hv0,hg,if_pos rfl];omega
   . rw[hg,if_neg e] at hx0 ⊢;obtain⟨l,hl,a,b⟩:=h.back x hx hxf hx0;exact⟨l,hl,by rw[keep _ b];exact a,by rw[keep _ b];exact b⟩
 . intro w hw;rcases List.mem_append.1 hw with h1|h1
   . obtain⟨a,b⟩:=h.qn w h1;exact⟨a,by rw[keep w b];exact b⟩
   . simp at h1;subst h1;exact⟨hun,by rw[hg,if_pos rfl];omega⟩
 . rw[List.pairwise_append];refine⟨h.sorted.imp_of_mem fun {a b} ha hb hab=>?_,by simp,fun a ha b hb=>?_⟩
   . rw[keep a (h.qn a ha).2,keep b (h.qn b hb).2];exact hab
   . simp at hb;subst hb;rw[keep a (h.qn a ha).2,hg,if_pos rfl];exact h.most a (h.qn a ha).1
 . exact⟨hv,by rw[keep v hv0];exact hv0⟩
 . intro x hx;rw[keep v hv0];exact hle x hx
 . intro w hw;rw[keep v hv0];rcases List.mem_append.1 hw with h1|h1
   . rw[keep w (h.qn w h1).2];exact h.least w h1
   . simp at h1;subst h1;rw[hg,if_pos rfl];omega
 . intro x hx hx0 hq hxv l hl;have hxu:x≠u:=fun e=>hq (by simp[e]);rw[hg,if_neg hxu] at hx0;rw[keep x hx0];obtain⟨a,b⟩:=h.done x hx hx0 (fun e=>hq (by simp[e])) hxv l hl;rw[keep _ a];exact⟨a,b⟩
 . intro l hl;rw[gF_take _ i hi] at hl;rcases List.mem_append.1 hl with h1|h1
   . rw[keep _ (h.seen l h1)];exact h.seen l h1
   . simp at h1;rw[h1,hlast,hg,if_pos rfl];omega
 . refine cntU_one (u:=u) (by simpa using h0) (by rw[hg,if_pos rfl];simp;omega) (fun x hx=>?_) hun;show decide _=decide _;rw[hg,if_neg hx]
theorem BO.found {p:Pt} {f:Nat} {r:List Int} (h:BO p f [] r):Found p f (gI r) where
 low:=h.low
 from_:=h.from_
 back:=h.back
 on:=fun v hv h0 l hl=>h.done v hv h0 (by simp) l hl
end Go.Proofs.YtobpogkghbakmaaGreatDoor
namespace Go.Proofs.YtobpogkghbakmaaGreatDoor
open Go.Eng
set_option maxRecDepth 100000
set_option linter.unusedVariables false
theorem und_of {g:G} (hg:g.valid=true):Und g.ports:=by
 obtain⟨f1,f2,f3,f4,f5,f6,f7⟩:=val_facts hg;refine⟨fun v hv l hl=>?_,fun v hv l hl=>⟨_,f7 v hv l hl,by simp⟩⟩;have h:=f6 v hv;rw[okR,Bool.and_eq_true,List.all_eq_true] at h;have:=h.1 _ hl;rw[okL,decide_eq_true_eq] at this;omega
def dst (g:G) (f:Nat):List Int:=(List.range g.ports.length).map (lay g.ports f (g.ports.length-1))
theorem dst_len (g:G) (f:Nat):(dst g f).length=g.ports.length:=by simp[dst]
theorem dst_get (g:G) (f:Nat) {v:Nat} (hv:v<g.ports.length):gI (dst g f) v=lay g.ports f (g.ports.length-1) v:=by
 simp[dst,gI,hv]
theorem row_le' {g:G} (hg:g.valid=true) (v:Nat):(gR g.ports v).length<=24:=by
 obtain⟨f1,f2,f3,f4,f5,f6,f7⟩:=val_facts hg;by_cases h:v<g.ports.length
 . have:=okR_len h (f6 v h);omega
 . rw[show gR g.ports v=[] by simp only[gR,List.getD];rw[List.getElem?_eq_none (by omega)];rfl];simp
theorem okR_to' {n v:Nat} {r:List (Int×Int)} (h:okR n v r=true) {i:Nat} (hi:i<r.length):0<=(gF r i).1/\(gF r i).1<n:=by
 rw[okR,Bool.and_eq_true,List.all_eq_true] at h;have:=h.1 _ (gF_mem hi);rw[okL,decide_eq_true_eq] at this;exact⟨this.1,this.2.1⟩
def vN (l:List Nat):Nat->Nat->V:=fun i _=>.int .i64 (l.getD i 0:Nat)
def iniF (j:Nat):Nat->Nat->V:=fun i _=>.int .i64 (if i<j then -1 else 0)
theorem iniF_step (n j i t:Nat) (hi:i<n) (ht:t<1):VLe (fset (iniF j) j 0 [.int .i64 (-1)] i t) (iniF (j+1) i t):=by
 obtain rfl:t=0:=by omega
 apply VLe.of_eq;by_cases h:i=j
 . subst h;simp[fset,iniF]
 . have h1:(i<j+1)=(i<j):=by simp;omega
   simp[fset,iniF,h,h1]
theorem vle_set (r:List Int) (u i t:Nat) (d:Int) (hu:u<r.length) (ht:t<1):VLe (fset (vI r) u 0 [.int .i64 d] i t) (vI (r.set u d) i t):=by
 obtain rfl:t=0:=by omega
 apply VLe.of_eq;simp only[fset,vI,gI_set r u i d hu];by_cases h:i=u
 . subst h;simp
 . simp[h]
theorem ini_end (n f i t:Nat) (hf:f<n) (hi:i<n) (ht:t<1):VLe (fset (iniF n) f 0 [.int .i64 0] i t) (vI ((List.replicate n (-1)).set f 0) i t):=by
 obtain rfl:t=0:=by omega
 apply VLe.of_eq;simp only[fset,vI];rw[gI_set _ _ _ _ (by simpa using hf)];by_cases h:i=f
 . subst h;simp
 . rw[if_neg (by simp[h]),if_neg h];simp[iniF,hi,gI]
theorem cntU_le (p:Nat->Bool):∀n,cntU p n<=n
 | 0=>Nat.le_refl _
 | n+1=>by have:=cntU_le p n;rw[cntU];split<;>omega
theorem bo_start {p:Pt} (hu:Und p) {f:Nat} (hf:f<p.length):BO p f [f] ((List.replicate p.length (-1)).set f 0):=by
 have hg:=fun x=>gI_set (List.replicate p.length (-1)) f x 0 (by simpa using hf);have hr:∀x,x<p.length->gI (List.replicate p.length (-1)) x=-1:=fun x hx=>by simp[gI,hx]
 have hv:∀x,x<p.length->x≠f->gI ((List.replicate p.length (-1)).set f 0) x=-1:=fun x hx h=>by rw[hg,if_neg h,hr x hx]
 have h0:gI ((List.replicate p.length (-1)).set f 0) f=0:=by rw[hg,if_pos rfl]
 refine { len:=by simp,low:=fun x hx=>?_,from_:=h0,back:=fun x hx hxf h=>?_,qn:=fun u hu=>?_,sorted:=by simp,top:=fun u hu x hx=>?_,done:=fun x hx h hq=>?_ }
 . by_cases e:x=f
   . subst e;rw[h0];decide
   . rw[hv x hx e];decide
 . rw[hv x hx hxf] at h;omega
 . simp at hu;subst hu;exact⟨hf,by rw[h0];decide⟩
 . simp at hu;subst hu;rw[h0];by_cases e:x=u
   . subst e;rw[h0];decide
   . rw[hv x hx e];decide
 . have:x≠f:=by simpa using hq
   rw[hv x hx this] at h;omega
theorem sh_at (lo:Nat) (f:Nat->Nat->V) (i j:Nat):shiftF lo f i j=f (lo+i) j:=by
 cases lo with
 | zero=>simp[shiftF]
 | succ n=>simp[shiftF]
theorem vle_appN (Q:List Nat) (lo u i t:Nat) (hlo:lo<=Q.length) (hi:i<Q.length-lo+1) (ht:t<1) :
 VLe (fapp (shiftF lo (vN Q)) (Q.length-lo) (shiftF 0 (tab [[.int .i64 (u:Int)]])) i t) (vN (Q.drop lo++[u]) i t):=by
 obtain rfl:t=0:=by omega
 apply VLe.of_eq;by_cases h:i<Q.length-lo
 . rw[fapp_lt h];simp only[sh_at,vN];have:(Q.drop lo++[u]).getD i 0=Q.getD (lo+i) 0:=by
    rw[List.getD_eq_getElem?_getD,List.getD_eq_getElem?_getD,List.getElem?_append_left (by simpa using h),List.getElem?_drop]
   rw[this]
 . rw[fapp_ge h];have:i=Q.length-lo:=by omega
   subst this;simp[shiftF,tab,vN]
theorem ini_bnd {n f:Nat} (hf:f<n):∀y,y<n->gI ((List.replicate n (-1)).set f 0) y+unv ((List.replicate n (-1)).set f 0) n<n:=by
 have hg:=fun x=>gI_set (List.replicate n (-1)) f x 0 (by simpa using hf);have h1:unv ((List.replicate n (-1)).set f 0) n+1<=n:=by
  have:=cntU_one (p:=fun _=>true) (q:=fun v=>decide (v≠f)) (u:=f) rfl (by simp) (fun v hv=>by simp[hv]) hf;have h2:unv ((List.replicate n (-1)).set f 0) n=cntU (fun v=>decide (v≠f)) n:=cntU_ext fun v hv=>by
   rw[hg];by_cases e:v=f
   . simp[e]
   . simp[e,gI,hv]
  have h3:=cntU_le (fun _=>true) n;omega
 intro y hy;rw[hg];split
 . omega
 . simp only[gI,List.getD,List.getElem?_replicate,hy,if_true,Option.getD_some];omega
theorem vle_appN2 (Q:List Nat) (lo i t:Nat) (a:Int) (u:Nat) (hlo:lo<=Q.length) (hi:i<Q.length-lo+1) (ht:t<1) (hu:a=u) :
 VLe (fapp (shiftF lo (vN Q)) (Q.length-lo) (shiftF 0 (tab [[.int .i64 a]])) i t) (vN (Q.drop lo++[u]) i t):=by
 subst hu;exact vle_appN Q lo u i t hlo hi ht
set_option maxHeartbeats 16000000 in
theorem search_ok (g:G) (hg:g.valid=true) (f:Nat) (hf:f<g.ports.length):Ret Tryz.prog 29 [g.v,.int .i64 f] (.fz (dst g f).length 1 false (vI (dst g f))):=by
 obtain⟨f1,f2,f3,f4,f5,f6,f7⟩:=val_facts hg;have hu:=und_of hg;refine ret_frz rfl ?_;refine fn_rule mixed Tryz.func29 rfl hc29 hr29 rfl ?_
 repeat' ((conv=>whnf);first|(refine Bd.nat (by omega) ?_)|(refine Len.mk (by omega) ?_)|(refine MkS.vec ?_))
 all_goals (conv=>whnf)
 refine loop_w mixed [1,2,5,16] [] [2,3,4,5,6,7,8,9,10,11,12,13,14,15,16,17,18,19,20,21,22,23,24,25,26,27,28,29] [1,0] (fun j:Nat=>[(17,.int .i64 j)]) (fun j=>[(1,.vec g.ports.length 1 (iniF j)),(0,.cells [.fz g.ids.length 1 false (vI g.ids),.fz g.ports.length 1 false (vP g.ports)])]) (fun m j=>m=g.ports.length-j/\j<=g.ports.length) g.ports.length 0 ⟨rfl,Nat.zero_le _⟩ rfl (fun _=>rfl) ?_ ?_
 . refine weak_by (fun _ _=>[(0,some 0),(1,some 1)]) ?_ ?_ rfl
   . repeat' (first|exact True.intro|(refine⟨⟨_,rfl,?_⟩,?_⟩)|exact VRen.kf rfl|exact VRen.loc rfl|exact VRen.vec rfl rfl rfl)
   . repeat' (first|exact⟨Nat.le_refl _,rfl,fun i j hi hj=>VLe.of_eq (by obtain rfl:j=0:=(by omega);rfl)⟩|exact True.intro|(refine⟨⟨_,rfl,?_⟩,?_⟩)|exact VRen.kf rfl|(refine And.intro ?_ ?_))
 rintro m j ⟨hm,hj⟩;by_cases hjn:j<g.ports.length
 . repeat' ((conv=>whnf);first|(refine Br.dec ?_ ?_<;>intro _<;>try omega)|(refine Ar.i64 (by omega) (by omega) ?_)|(refine Ix.nat (by omega) ?_)|(refine Ltn.mk (by omega) ?_))
   all_goals (conv=>whnf)
   refine⟨g.ports.length-(j+1),j+1,by omega,⟨rfl,by omega⟩,?_⟩;refine weak_by (fun _ _=>[(0,some 0),(1,some 1)]) ?_ ?_ rfl
   . repeat' (first|exact True.intro|(refine⟨⟨_,rfl,?_⟩,?_⟩)|exact VRen.kf rfl|exact VRen.loc rfl|exact VRen.vec rfl rfl rfl)
   . repeat' (first|exact⟨Nat.le_refl _,rfl,fun i t hi ht=>by simp only[Nat.zero_add];exact iniF_step _ _ _ _ hi ht⟩|exact True.intro|(refine⟨⟨_,rfl,?_⟩,?_⟩)|exact VRen.kf rfl|(refine And.intro ?_ ?_))
 . have ej:j=g.ports.length:=by omega
   subst ej
   repeat' ((conv=>whnf);first|(refine Br.dec ?_ ?_<;>intro _<;>try omega)|(refine Ix.nat (by omega) ?_)|(refine Ltn.mk (by omega) ?_))
   all_goals (conv=>whnf)
   refine loop_w mixed [2,5] [2] [3,4,5,6,7,8,9,10,11,12,13,14,15,16,17,18,19,20,21,22,23,24,25,26,27,28,29] [2,1,0] (fun x:Nat×List Nat×List Int=>[(7,.vec 2 1 x.1 (x.2.1.length-x.1))]) (fun x=>[(2,.vec x.2.1.length 1 (vN x.2.1)),(1,.vec g.ports.length 1 (vI x.2.2)),(0,.cells [.fz g.ids.length 1 false (vI g.ids),.fz g.ports.length 1 false (vP g.ports)])])
    (fun m x=>m=2*unv x.2.2 g.ports.length+(x.2.1.length-x.1)/\x.1<=x.2.1.length/\x.2.1.length<=60/\m<=50/\BO g.ports f (x.2.1.drop x.1) x.2.2/\∀y,y<g.ports.length->gI x.2.2 y+unv x.2.2 g.ports.length<g.ports.length) _ (0,[f],(List.replicate g.ports.length (-1)).set f 0) ⟨rfl,by simp,by simp,?_,bo_start hu hf,ini_bnd hf⟩ rfl (fun _=>rfl) ?_ ?_
   . have:=cntU_le (fun v=>decide (gI ((List.replicate g.ports.length (-1)).set f 0) v<0)) g.ports.length;simp only[unv,List.length_cons,List.length_nil];omega
   . refine weak_by (fun _ _=>[(0,some 0),(1,some 1),(2,some 2)]) ?_ ?_ rfl
     . repeat' (first|exact True.intro|(refine⟨⟨_,rfl,?_⟩,?_⟩)|exact VRen.loc rfl|exact VRen.vec rfl rfl rfl)
     . repeat' (first|exact⟨Nat.le_refl _,rfl,fun i t hi ht=>by simp only[Nat.zero_add];exact ini_end _ _ _ _ hf hi ht⟩|exact⟨Nat.le_refl _,rfl,fun i t hi ht=>VLe.of_eq (by obtain rfl:i=0:=(by simpa using hi);obtain rfl:t=0:=(by omega);rfl)⟩|exact True.intro|(refine⟨⟨_,rfl,?_⟩,?_⟩)|exact VRen.kf rfl|(refine And.intro ?_ ?_))
   rintro m ⟨lo,Q,r⟩ ⟨hm,hlo,hQ,hm50,hbo,hbd⟩;simp only at hm hlo hQ hbo hbd ⊢;by_cases hq:lo<Q.length
   . obtain⟨v,hv⟩:∃v,Q.getD lo 0=v:=⟨_,rfl⟩;have hdrop:Q.drop lo=v::Q.drop (lo+1):=by
      rw[List.drop_eq_getElem_cons hq,<- hv];simp[hq]
     rw[hdrop] at hbo;have hbp:=hbo.pop;obtain⟨hvn,hv0⟩:=hbp.vn;have hrl:=row_le' hg v;have hlen:=hbp.len;have hQv:vN Q lo 0=.int .i64 (v:Int):=by simp only[vN,hv]
     have hQ0:Q.getD (lo+0) 0=v:=hv
     repeat' ((conv=>whnf);first|(refine Ix.mk v (by omega) (by omega) ?_)|(refine Br.dec ?_ ?_<;>intro _<;>try omega)|(refine Br.nble ?_ ?_<;>intro _<;>try omega)|(refine Ix.mk 0 rfl (by omega) ?_)|(refine Bd.mk 1 rfl (by omega) ?_)|(refine Ltn.mk (by omega) ?_))
     all_goals (conv=>whnf)
     refine loop_w mixed [2,5,8,41,42] [2] [3,4,5,6,7,8,9,10,11,12,13,14,15,16,17,18,19,20,21,22,23,24,25,26,27,28,29] [2,1,0] (fun x:Nat×Nat×List Nat×List Int=>[(7,.vec 2 1 x.2.1 (x.2.2.1.length-x.2.1)),(43,.int .i64 x.1)]) (fun x=>[(2,.vec x.2.2.1.length 1 (vN x.2.2.1)),(1,.vec g.ports.length 1 (vI x.2.2.2)),(0,.cells [.fz g.ids.length 1 false (vI g.ids),.fz g.ports.length 1 false (vP g.ports)])])
      (fun k x=>k=(gR g.ports v).length-x.1/\x.1<=(gR g.ports v).length/\x.2.1<=x.2.2.1.length/\x.2.2.1.length<=60/\2*unv x.2.2.2 g.ports.length+(x.2.2.1.length-x.2.1)<m/\BP g.ports f v x.1 (x.2.2.1.drop x.2.1) x.2.2.2/\∀y,y<g.ports.length->gI x.2.2.2 y+unv x.2.2.2 g.ports.length<g.ports.length) _ (0,lo+1,Q,r) ⟨rfl,by simp,by simp only;omega,hQ,by simp only;omega,hbp,hbd⟩ rfl (fun _=>rfl) ?_ ?_
     . exact weak_b (fun _ _=>[(0,some 0),(1,some 1),(2,some 2)])
     rintro k ⟨i,lo2,Q2,r2⟩ ⟨hk,hi,hlo2,hQ2,hm2,hbp2,hbd2⟩;simp only at hk hi hlo2 hQ2 hm2 hbp2 hbd2 ⊢;obtain⟨_,hv2⟩:=hbp2.vn;have hlen2:=hbp2.len;have hvb:0<=gI r2 (0+v)/\gI r2 (0+v)<=24:=by rw[Nat.zero_add];have:=hbd2 v hvn;omega
     by_cases hil:i<(gR g.ports v).length
     . have hr:=okR_to' (f6 v hvn) hil;have hr':toN g.ports v i<g.ports.length:=by show(gF (gR g.ports v) i).1.toNat<_;omega
       by_cases hneg:gI r2 (gF (gR g.ports v) i).1.toNat<0
       . obtain⟨hbp3,hun⟩:=hbp2.visit hu hil hneg;have hneg2:gI r2 (0+(gF (gR g.ports v) i).1.toNat)<0:=by rw[Nat.zero_add];exact hneg
         repeat' ((conv=>whnf);first|(refine Ix.mk v (by omega) (by omega) ?_)|(refine Br.dec ?_ ?_<;>intro _<;>try omega)|(refine Br.nbeq ?_ ?_<;>intro _<;>try omega)|(refine Ar.i64 (by omega) (by omega) ?_)|(refine Ix.nat (by omega) ?_)|(refine Ix.int (by omega) (by omega) ?_)|(refine Len.mk (by omega) ?_)|(refine Ltn.mk (by omega) ?_))
         all_goals (conv=>whnf)
         have hdl:(Q2.drop lo2++[toN g.ports v i]).length=Q2.length-lo2+1:=by simp
         refine⟨(gR g.ports v).length-(i+1),(i+1,0,Q2.drop lo2++[toN g.ports v i],r2.set (toN g.ports v i) (gI r2 v+1)),by omega,⟨rfl,by simp only;omega,by simp,by simp only[hdl];omega,by simp only[hdl];omega,hbp3,fun y hy=>?_⟩,?_⟩
         . have hb:=hbd2 y hy;have hb2:=hbd2 v hvn;simp only;rw[gI_set _ _ _ _ (by rw[hlen2];exact hr')];split<;>omega
         simp only[hdl];refine weak_by (fun env own=>[(0,some 0),(1,some 1),(2,ekey env 66)]) ?_ ?_ rfl
         . repeat' (first|exact True.intro|(refine⟨⟨_,rfl,?_⟩,?_⟩)|exact VRen.kf rfl|exact VRen.loc rfl|exact VRen.vec rfl rfl rfl)
         . repeat' (first|exact⟨Nat.le_refl _,rfl,fun a t ha ht=>by simp only[Nat.zero_add];exact vle_set _ _ _ _ _ (by rw[hlen2];exact hr') ht⟩|exact⟨by omega,rfl,fun a t ha ht=>vle_appN2 _ _ _ _ _ _ hlo2 ha ht (show(gF (gR g.ports v) i).1=((gF (gR g.ports v) i).1.toNat:Nat) by omega)⟩|exact True.intro|(refine⟨⟨_,rfl,?_⟩,?_⟩)|exact VRen.kf rfl|(refine And.intro ?_ ?_))
       . have hneg2:¬ gI r2 (0+(gF (gR g.ports v) i).1.toNat)<0:=by rw[Nat.zero_add];exact hneg
         have hbp3:=hbp2.skip hil (show 0<=gI r2 (gF (gR g.ports v) i).1.toNat by omega)
         repeat' ((conv=>whnf);first|(refine Br.dec ?_ ?_<;>intro _<;>try omega)|(refine Ar.i64 (by omega) (by omega) ?_)|(refine Ix.nat (by omega) ?_)|(refine Ix.int (by omega) (by omega) ?_)|(refine Ltn.mk (by omega) ?_))
         all_goals (conv=>whnf)
         refine⟨(gR g.ports v).length-(i+1),(i+1,lo2,Q2,r2),by omega,⟨rfl,by simp only;omega,hlo2,hQ2,hm2,hbp3,hbd2⟩,?_⟩;exact weak_b (fun env own=>[(0,some 0),(1,some 1),(2,some 2)])
     . have hfin:=hbp2.fin hu (by omega)
       repeat' ((conv=>whnf);first|(refine Br.dec ?_ ?_<;>intro _<;>try omega))
       all_goals (conv=>whnf)
       refine⟨_,(lo2,Q2,r2),hm2,⟨rfl,hlo2,hQ2,by omega,hfin,hbd2⟩,?_⟩;exact weak_b (fun env own=>[(0,some 0),(1,some 1),(2,some 2)])
   . have e:lo=Q.length:=by omega
     subst e;rw[List.drop_length] at hbo;have hfd:=hbo.found;have hlen:=hbo.len
     repeat' ((conv=>whnf);first|(refine Br.dec ?_ ?_<;>intro _<;>try omega)|(refine Len.mk (by omega) ?_))
     all_goals (conv=>whnf)
     refine VLe.fz (dst_len g f).symm (fun h=>h) (fun i t hi ht=>VLe.of_eq ?_);rw[sh_at];simp only[vI,Nat.zero_add];rw[dst_get g f hi,hfd.eq hu hf hi]
end Go.Proofs.YtobpogkghbakmaaGreatDoor
namespace Go.Proofs.YtobpogkghbakmaaGreatDoor
open Go.Eng
set_option maxRecDepth 100000
set_option linter.unusedVariables false
theorem layd_low (p:Pt) (f:Nat):∀k v,-1<=lay p f k v/\lay p f k v<=k
 | 0,v=>by rw[lay];split<;>omega
 | k+1,v=>by
   have:=layd_low p f k v;rw[lay];split
   . omega
   . split<;>omega
theorem layd_keep {p:Pt} {f k v:Nat} (h:0<=lay p f k v):∀m,lay p f (k+m) v=lay p f k v
 | 0=>rfl
 | m+1=>by
   have:=layd_keep h m;rw[<- Nat.add_assoc,lay,this,if_pos h]
theorem layd_self {p:Pt} {f:Nat}:∀{k v:Nat},0<=lay p f k v->lay p f (lay p f k v).toNat v=lay p f k v
 | 0,v,h=>by
   have:=layd_low p f 0 v;have e:lay p f 0 v=0:=by omega
   rw[e];exact e
 | k+1,v,h=>by
   by_cases h0:0<=lay p f k v
   . have e:lay p f (k+1) v=lay p f k v:=by rw[lay,if_pos h0]
     rw[e];exact layd_self h0
   . have e:lay p f (k+1) v=(k:Int)+1:=by
      rw[lay,if_neg h0] at h ⊢;split at h
      . rename_i q;rw[if_pos q]
      . omega
     rw[e,show((k:Int)+1).toNat=k+1 by omega,e]
theorem layd_agree {p:Pt} {f k m v:Nat} (h:0<=lay p f k v) (h':0<=lay p f m v):lay p f k v=lay p f m v:=by
 rcases Nat.le_total k m with q|q
 . have:=layd_keep h (m-k);rw[show k+(m-k)=m by omega] at this;exact this.symm
 . have:=layd_keep h' (k-m);rw[show m+(k-m)=k by omega] at this;exact this
theorem lay_back' {p:Pt} {f:Nat}:∀{k v:Nat},0<=lay p f k v->v≠f->∃l∈gR p v,lay p f k l.1.toNat=lay p f k v-1/\0<=lay p f k l.1.toNat
 | 0,v,h,hv=>by rw[lay,if_neg hv] at h;omega
 | k+1,v,h,hv=>by
   by_cases h0:0<=lay p f k v
   . obtain⟨l,hl,a,b⟩:=lay_back' h0 hv;have e1:lay p f (k+1) v=lay p f k v:=by rw[lay,if_pos h0]
     have e2:lay p f (k+1) l.1.toNat=lay p f k l.1.toNat:=by rw[lay,if_pos b]
     exact⟨l,hl,by rw[e1,e2];exact a,by rw[e2];exact b⟩
   . by_cases ha:(gR p v).any (fun l=>decide (lay p f k l.1.toNat=k))=true
     . have e1:lay p f (k+1) v=(k:Int)+1:=by rw[lay,if_neg h0,if_pos ha]
       rw[List.any_eq_true] at ha;obtain⟨l,hl,e⟩:=ha;have e:=of_decide_eq_true e;have e2:lay p f (k+1) l.1.toNat=k:=by rw[lay,if_pos (by omega)];exact e
       exact⟨l,hl,by rw[e1,e2];omega,by rw[e2];omega⟩
     . rw[lay,if_neg h0,if_neg ha] at h;omega
open Classical in
noncomputable def layR (p:Pt) (f v:Nat):Int:=if h:∃k,0<=lay p f k v then lay p f (Classical.choose h) v else -1
theorem layR_of {p:Pt} {f k v:Nat} (h:0<=lay p f k v):layR p f v=lay p f k v:=by
 have hx:∃k,0<=lay p f k v:=⟨k,h⟩;rw[layR,dif_pos hx];exact layd_agree (Classical.choose_spec hx) h
theorem layR_has {p:Pt} {f v:Nat} (h:0<=layR p f v):∃k,0<=lay p f k v/\layR p f v=lay p f k v:=by
 by_cases hx:∃k,0<=lay p f k v
 . obtain⟨k,hk⟩:=hx;exact⟨k,hk,layR_of hk⟩
 . rw[layR,dif_neg hx] at h;omega
theorem layR_low (p:Pt) (f v:Nat):-1<=layR p f v:=by
 rw[layR];split
 . exact(layd_low p f _ v).1
 . omega
theorem layR_found {p:Pt} (f:Nat) (hu:Und p):Found p f (layR p f):=by
 have hf0:lay p f 0 f=0:=by rw[lay,if_pos rfl]
 refine⟨fun v _=>layR_low p f v,by rw[layR_of (k:=0) (by omega),hf0],fun v hv hvf h=>?_,fun v hv h l hl=>?_⟩
 . obtain⟨k,hk,e⟩:=layR_has h;obtain⟨l,hl,a,b⟩:=lay_back' hk hvf;exact⟨l,hl,by rw[layR_of b,e];exact a,by rw[layR_of b];exact b⟩
 . obtain⟨k,hk,e⟩:=layR_has h;obtain⟨m,hm,em⟩:=hu.sym v hv l hl;have hs:=layd_self hk;have hd:((lay p f k v).toNat:Int)=lay p f k v:=by omega
   generalize (lay p f k v).toNat=d at *;have key:0<=lay p f (d+1) l.1.toNat:=by
    rw[lay];split
    . assumption
    . rw[if_pos (by rw[List.any_eq_true];exact⟨m,hm,by rw[em,hs,<- hd];simp⟩)];omega
   have hle:=(layd_low p f (d+1) l.1.toNat).2;rw[layR_of key,e,<- hd];omega
theorem dst_found {g:G} (hg:g.valid=true):Found g.ports 0 (fun v=>gI (dst g 0) v):=by
 obtain⟨f1,f2,f3,f4,f5,f6,f7⟩:=val_facts hg;have hu:=und_of hg;have hF:=layR_found 0 hu;have he:∀v,v<g.ports.length->gI (dst g 0) v=layR g.ports 0 v:=fun v hv=>by rw[dst_get g 0 hv];exact hF.eq hu (by omega) hv
 refine⟨fun v hv=>by rw[he v hv];exact hF.low v hv,by rw[he 0 (by omega)];exact hF.from_,fun v hv h0 h=>?_,fun v hv h l hl=>?_⟩
 . rw[he v hv] at h ⊢;obtain⟨l,hl,a,b⟩:=hF.back v hv h0 h;exact⟨l,hl,by rw[he _ (hu.rng v hv l hl)];exact a,by rw[he _ (hu.rng v hv l hl)];exact b⟩
 . rw[he v hv] at h ⊢;rw[he _ (hu.rng v hv l hl)];exact hF.on v hv h l hl
end Go.Proofs.YtobpogkghbakmaaGreatDoor
namespace Go.Proofs.YtobpogkghbakmaaGreatDoor
open Go.Eng
set_option maxRecDepth 100000
set_option linter.unusedVariables false
theorem grt_ok (l:List Int) (hl:l.length<=1000):Ret Tryz.prog 28 [.fz l.length 1 false (vI l)] (.int .i64 (maxL l (-1))):=by
 refine ret_frz rfl ?_;refine fn_rule mixed Tryz.func28 rfl hc28 hr28 rfl ?_
 repeat' ((conv=>whnf);first|fail)
 all_goals (conv=>whnf)
 refine loop_r mixed [6,7] (fun i:Nat=>[(3,.int .i64 (maxL (l.take i) (-1))),(8,.int .i64 i)]) (fun m i=>m=l.length-i/\i<=l.length) l.length 0 ⟨rfl,Nat.zero_le _⟩ ?_ ?_
 . exact weak_b (fun _ _=>[])
 rintro m i ⟨hm,hi⟩
 repeat' ((conv=>whnf);first|(refine Br.dec ?_ ?_<;>intro _<;>try omega)|(refine Ar.i64 (by omega) (by omega) ?_)|(refine Sv.mk _ rfl ?_)|(refine Ix.nat (by omega) ?_))
 all_goals (conv=>whnf)
 . refine⟨l.length-(i+1),i+1,by omega,⟨rfl,by omega⟩,?_⟩;simp only[gI_take l i (by omega),maxL_snoc];exact weak_b (fun _ _=>[])
 . rw[List.take_of_length_le (by omega)];exact VLe.rfl
def negB (l:List Int):Bool:=l.any fun a=>decide (a<0)
theorem negB_no {l:List Int}:negB l=false↔∀a∈l,0<=a:=by
 rw[negB,List.any_eq_false];constructor
 . intro h a ha;have:=h a ha;simp at this;omega
 . intro h a ha;have:=h a ha;simp;omega
def rgrt (l:List Int):Int:=if negB l then -1 else maxL l (-1)
theorem rgrt_ok (l:List Int) (hl:l.length<=1000):Ret Tryz.prog 15 [.fz l.length 1 false (vI l)] (.int .i64 (rgrt l)):=by
 refine ret_frz rfl ?_;refine fn_rule mixed Tryz.func15 rfl hc15 hr15 rfl ?_
 repeat' ((conv=>whnf);first|fail)
 all_goals (conv=>whnf)
 refine loop_r mixed [0] (fun i:Nat=>[(3,.int .i64 (maxL (l.take i) (-1))),(4,.int .i64 i)]) (fun m i=>m=l.length-i/\i<=l.length/\∀a∈l.take i,0<=a) l.length 0 ⟨rfl,Nat.zero_le _,by simp⟩ ?_ ?_
 . exact weak_b (fun _ _=>[])
 rintro m i ⟨hm,hi,hall⟩
 repeat' ((conv=>whnf);first|(refine Br.dec ?_ ?_<;>intro _<;>try omega)|(refine Ar.i64 (by omega) (by omega) ?_)|(refine Sv.mk _ rfl ?_)|(refine Ix.nat (by omega) ?_))
 all_goals (conv=>whnf)
 . refine VLe.int ?_;rw[rgrt,if_pos];rw[negB,List.any_eq_true];exact⟨gI l i,gI_mem (by omega),by simp;omega⟩
 . refine⟨l.length-(i+1),i+1,by omega,⟨rfl,by omega,?_⟩,?_⟩
   . rw[gI_take l i (by omega)];intro a ha;rcases List.mem_append.1 ha with h|h
     . exact hall a h
     . simp at h;omega
   . simp only[gI_take l i (by omega),maxL_snoc];exact weak_b (fun _ _=>[])
 . rw[List.take_of_length_le (by omega)] at hall ⊢;refine VLe.int ?_;rw[rgrt,negB_no.2 hall,if_neg (by simp)]
def G.conn (g:G):Bool:=g.valid&&!negB (dst g 0)
theorem conn_ok (g:G) (hs:g.Small):Ret Tryz.prog 27 [g.v] (.bool g.conn):=by
 have hval:=valid_ok g hs;refine ret_frz rfl ?_;refine fn_rule mixed Tryz.func27 rfl hc27 hr27 rfl ?_;rw[G.conn];by_cases hg:g.valid=true
 . obtain⟨f1,f2,f3,f4,f5,f6,f7⟩:=val_facts hg;have hsr:=search_ok g hg 0 (by omega);have hdl:=dst_len g 0;rw[hg] at hval ⊢;rw[Bool.true_and];generalize dst g 0=l at *
   repeat' ((conv=>whnf);first|(refine Br.tt ?_)|(refine hval.go ?_)|(refine hsr.go ?_))
   all_goals (conv=>whnf)
   refine loop_r mixed [9,10] (fun i:Nat=>[(11,.int .i64 i)]) (fun m i=>m=l.length-i/\i<=l.length/\∀a∈l.take i,0<=a) l.length 0 ⟨rfl,Nat.zero_le _,by simp⟩ ?_ ?_
   . exact weak_b (fun _ _=>[(0,some 0)])
   rintro m i ⟨hm,hi,hall⟩
   repeat' ((conv=>whnf);first|(refine Br.dec ?_ ?_<;>intro _<;>try omega)|(refine Ar.i64 (by omega) (by omega) ?_)|(refine Ix.nat (by omega) ?_))
   all_goals (conv=>whnf)
   . refine VLe.bool ?_;have:negB l=true:=by
      rw[negB,List.any_eq_true];exact⟨gI l i,gI_mem (by omega),by simp;omega⟩
     rw[this];rfl
   . refine⟨l.length-(i+1),i+1,by omega,⟨rfl,by omega,?_⟩,?_⟩
     . rw[gI_take l i (by omega)];intro a ha;rcases List.mem_append.1 ha with h|h
       . exact hall a h
       . simp at h;omega
     . exact weak_b (fun _ _=>[(0,some 0)])
   . rw[List.take_of_length_le (by omega)] at hall;rw[negB_no.2 hall];exact VLe.rfl
 . simp only[Bool.not_eq_true] at hg;rw[hg] at hval ⊢
   repeat' ((conv=>whnf);first|(refine Br.ff ?_)|(refine hval.go ?_))
   all_goals (conv=>whnf)
   all_goals exact VLe.rfl
theorem conn_facts {g:G} (h:g.conn=true):g.valid=true/\∀v,v<g.ports.length->0<=gI (dst g 0) v:=by
 simp only[G.conn,Bool.and_eq_true,Bool.not_eq_true'] at h;exact⟨h.1,fun v hv=>negB_no.1 h.2 _ (gI_mem (by rw[dst_len];exact hv))⟩
def mixI (p:Pt) (f k v:Nat) (w:Int) (u:Nat):Int:=if u<v then lay p f (k+1) u else if u=v then w else lay p f k u
def vMix (p:Pt) (f k v:Nat) (w:Int):Nat->Nat->V:=fun u _=>.int .i64 (mixI p f k v w u)
theorem lay_low (p:Pt) (f:Nat):∀k v,-1<=lay p f k v/\lay p f k v<=k
 | 0,v=>by rw[lay];split<;>omega
 | k+1,v=>by
   have:=lay_low p f k v;rw[lay];split
   . omega
   . split<;>omega
theorem lay_same (p:Pt) (f k u:Nat):lay p f (k+1) u=k↔lay p f k u=k:=by
 have:=lay_low p f k u;rw[lay];split
 . exact Iff.rfl
 . split<;>omega
def midI (p:Pt) (f k v i:Nat):Int:=if 0<=lay p f k v then lay p f k v else if ((gR p v).take i).any (fun l=>decide (lay p f k l.1.toNat=k)) then (k:Int)+1 else -1
theorem mid_zero (p:Pt) (f k v:Nat):midI p f k v 0=lay p f k v:=by
 have:=lay_low p f k v;rw[midI];split
 . rfl
 . simp;omega
theorem mid_end (p:Pt) (f k v i:Nat) (h:(gR p v).length<=i):midI p f k v i=lay p f (k+1) v:=by
 rw[midI,lay,List.take_of_length_le h]
theorem mid_stop {p:Pt} {f k v i j:Nat} (h:0<=midI p f k v i) (hij:i<=j):midI p f k v j=midI p f k v i:=by
 rw[midI,midI] at *;split
 . rfl
 . rename_i h0;rw[if_neg h0] at h;split at h
   . rename_i h1;rw[List.any_eq_true] at h1;obtain⟨l,hl,e⟩:=h1;have:((gR p v).take j).any (fun l=>decide (lay p f k l.1.toNat=k))=true:=by
      rw[List.any_eq_true];exact⟨l,(List.take_sublist_take_left hij).mem hl,e⟩
     rw[if_pos this,if_pos];rw[List.any_eq_true];exact⟨l,hl,e⟩
   . omega
theorem mid_next {p:Pt} {f k v i:Nat} (hi:i<(gR p v).length) (h:midI p f k v i<0):midI p f k v (i+1)=if lay p f k (toN p v i)=k then (k:Int)+1 else -1:=by
 have h0:¬ 0<=lay p f k v:=fun h0=>by rw[midI,if_pos h0] at h;omega
 rw[midI,if_neg h0] at h ⊢;rw[gF_take _ i hi,List.any_append];have h1:((gR p v).take i).any (fun l=>decide (lay p f k l.1.toNat=k))=false:=by
  cases e:((gR p v).take i).any (fun l=>decide (lay p f k l.1.toNat=k)) with
  | false=>rfl
  | true=>rw[e,if_pos rfl] at h;omega
 rw[h1];by_cases e:lay p f k (toN p v i)=k
 . rw[if_pos e,if_pos (by simpa[toN] using e)]
 . rw[if_neg e,if_neg (by simpa[toN] using e)]
theorem mix_start (p:Pt) (f k u:Nat) (w:Int) (hw:w=lay p f k 0):mixI p f k 0 w u=lay p f k u:=by
 rw[mixI,if_neg (by omega)];split
 . rename_i e;rw[e];exact hw
 . rfl
theorem mix_next (p:Pt) (f k v u:Nat) (w w':Int) (hw:w=lay p f (k+1) v) (hw':w'=lay p f k (v+1)):mixI p f k v w u=mixI p f k (v+1) w' u:=by
 simp only[mixI];by_cases h1:u<v
 . rw[if_pos h1,if_pos (by omega)]
 . rw[if_neg h1];by_cases h2:u=v
   . subst h2;rw[if_pos rfl,if_pos (by omega)];exact hw
   . rw[if_neg h2,if_neg (by omega)];split
     . rename_i e;rw[e];exact hw'.symm
     . rfl
def Hide (p:Prop):Prop:=p
theorem vle_ones (n i j:Nat) (hi:i<n+1) (hj:j<1):VLe (fapp (shiftF 0 fun _ _=>.int .i64 (-1)) n (shiftF 0 (tab [[.int .i64 (-1)]])) i j) (.int .i64 (-1)):=by
 obtain rfl:j=0:=by omega
 apply VLe.of_eq;by_cases h:i<n
 . rw[fapp_lt h];rfl
 . rw[fapp_ge h,show i-n=0 by omega];rfl
theorem vle_lay0 (p:Pt) (f i j:Nat) (hj:j<1):VLe (fset (fun _ _=>.int .i64 (-1)) (0+f) 0 [.int .i64 0] i j) (vMix p f 0 0 (lay p f 0 0) i j):=by
 obtain rfl:j=0:=by omega
 apply VLe.of_eq;simp only[fset,vMix];rw[mix_start p f 0 i _ rfl,lay,Nat.zero_add];by_cases h:i=f
 . subst h;simp
 . rw[if_neg (by simp[h]),if_neg h]
theorem mix_at {p:Pt} {f k v u:Nat} {w:Int} (h:u≠v):(mixI p f k v w u=k↔lay p f k u=k):=by
 rw[mixI];split
 . exact lay_same p f k u
 . first
    | exact Iff.rfl
    | rw[if_neg h]
theorem okR_ne {n v:Nat} {r:List (Int×Int)} (h:okR n v r=true) {i:Nat} (hi:i<r.length):(gF r i).1.toNat≠v:=by
 rw[okR,Bool.and_eq_true,List.all_eq_true] at h;have:=h.1 _ (gF_mem hi);rw[okL,decide_eq_true_eq] at this;omega
theorem mid_low (p:Pt) (f k v i:Nat):-1<=midI p f k v i/\midI p f k v i<=k+1:=by
 have:=lay_low p f k v;rw[midI]
 repeat' split
 all_goals omega
theorem vle_mixset (p:Pt) (f k v:Nat) (w w':Int) (a t:Nat) (ht:t<1):VLe (fset (vMix p f k v w) v 0 [.int .i64 w'] a t) (vMix p f k v w' a t):=by
 obtain rfl:t=0:=by omega
 apply VLe.of_eq;simp only[fset,vMix,mixI];by_cases h:a=v
 . subst h;simp
 . rw[if_neg (by simp[h]),if_neg h];simp[h]
set_option maxHeartbeats 16000000 in
theorem rdist_ok (g:G) (hs:g.Small) (hg:g.valid=true) (f:Nat) (hf:f<g.ports.length):Ret Tryz.prog 16 [g.v,.int .i64 f] (.fz (dst g f).length 1 false (vI (dst g f))):=by
 obtain⟨f1,f2,f3,f4,f5,f6,f7⟩:=val_facts hg;have hval:=rvalid_ok g hs;rw[hg] at hval;have hin:=in_ok f 0 ((g.ports.length:Int)-1);rw[decide_eq_true (by omega)] at hin;refine ret_frz rfl ?_;refine fn_rule mixed Tryz.func16 rfl hc16 hr16 rfl ?_
 repeat' ((conv=>whnf);first|(refine Br.tt ?_)|(refine Ar.i64 (by omega) (by omega) ?_)|(refine hval.go ?_)|(refine hin.go ?_))
 all_goals (conv=>whnf)
 refine loop_u mixed [1,2,5] [1] [2,3,4,5,6,7,8,9,10,11,12,13,14,15,16,17,18,19,20,21,22,23,24,25,26,27,28,29] [1,0] (fun v:Nat=>[(6,.vec 1 1 0 v),(7,.int .i64 v)]) (fun own v=>(1,.vec v 1 (fun _ _=>.int .i64 (-1)))::own) (fun m v=>m=g.ports.length-v/\v<=g.ports.length) g.ports.length 0 ⟨rfl,Nat.zero_le _⟩ rfl (fun _=>rfl) ?_ ?_
 . exact weak_b (fun _ _=>[(0,some 0),(1,none)])
 rintro m v ⟨hm,hv⟩;by_cases hvn:v<g.ports.length
 . repeat' ((conv=>whnf);first|(refine Br.dec ?_ ?_<;>intro _<;>try omega)|(refine Br.nbeq ?_ ?_<;>intro _<;>try omega)|(refine Ar.i64 (by omega) (by omega) ?_)|(refine Len.mk (by omega) ?_))
   all_goals (conv=>whnf)
   all_goals
    refine⟨g.ports.length-(v+1),v+1,by omega,⟨rfl,by omega⟩,?_⟩;refine weak_by (fun env own=>[(0,some 0),(1,ekey env 6)]) ?_ ?_ rfl
    . repeat' (first|exact True.intro|(refine⟨⟨_,rfl,?_⟩,?_⟩)|exact VRen.kf rfl|exact VRen.loc rfl|exact VRen.vec rfl rfl rfl)
    . repeat' (first|(refine⟨Nat.le_refl _,rfl,fun i j hi hj=>?_⟩)|exact vle_ones _ _ _ hi hj|exact True.intro|(refine⟨⟨_,rfl,?_⟩,?_⟩)|exact VRen.kf rfl|(refine And.intro ?_ ?_))
 . have ev:v=g.ports.length:=by omega
   subst ev
   repeat' ((conv=>whnf);first|(refine Br.dec ?_ ?_<;>intro _<;>try omega)|(refine Ix.nat (by omega) ?_)|(refine Ltn.mk (by omega) ?_))
   all_goals (conv=>whnf)
   refine loop_w mixed [2,5,6] [] [2,3,4,5,6,7,8,9,10,11,12,13,14,15,16,17,18,19,20,21,22,23,24,25,26,27,28,29] [1,0] (fun k:Nat=>[(8,.int .i64 ((k:Int)+1))]) (fun k=>[(1,.vec g.ports.length 1 (vMix g.ports f k 0 (lay g.ports f k 0))),(0,.cells [.fz g.ids.length 1 false (vI g.ids),.fz g.ports.length 1 false (vP g.ports)])]) (fun m k=>m=g.ports.length-1-k/\k<=g.ports.length-1) (g.ports.length-1) 0 ⟨rfl,Nat.zero_le _⟩ rfl (fun _=>rfl) ?_ ?_
   . refine weak_by (fun _ _=>[(0,some 0),(1,some 1)]) ?_ ?_ rfl
     . repeat' (first|exact True.intro|(refine⟨⟨_,rfl,?_⟩,?_⟩)|exact VRen.kf rfl|exact VRen.loc rfl|exact VRen.vec rfl rfl rfl)
     . repeat' (first|exact⟨Nat.le_refl _,rfl,fun i j hi hj=>vle_lay0 _ _ _ _ hj⟩|exact True.intro|(refine⟨⟨_,rfl,?_⟩,?_⟩)|exact VRen.kf rfl|(refine And.intro ?_ ?_))
   rintro m k ⟨hm,hk⟩;by_cases hkn:k<g.ports.length-1
   . repeat' ((conv=>whnf);first|(refine Br.dec ?_ ?_<;>intro _<;>try omega))
     all_goals (conv=>whnf)
     refine loop_w mixed [2,5,6,8] [] [2,3,4,5,6,7,8,9,10,11,12,13,14,15,16,17,18,19,20,21,22,23,24,25,26,27,28,29] [1,0] (fun v:Nat=>[(9,.int .i64 v)]) (fun v=>[(1,.vec g.ports.length 1 (vMix g.ports f k v (lay g.ports f k v))),(0,.cells [.fz g.ids.length 1 false (vI g.ids),.fz g.ports.length 1 false (vP g.ports)])]) (fun m v=>m=g.ports.length-v/\v<=g.ports.length) g.ports.length 0 ⟨rfl,Nat.zero_le _⟩ rfl (fun _=>rfl) ?_ ?_
     . exact weak_b (fun _ _=>[(0,some 0),(1,some 1)])
     rintro m v ⟨hm,hv⟩;by_cases hvn:v<g.ports.length
     . have hrl:=row_le' hg v
       repeat' ((conv=>whnf);first|(refine Br.dec ?_ ?_<;>intro _<;>try omega))
       all_goals (conv=>whnf)
       refine loop_w mixed [2,5,6,8,9] [] [2,3,4,5,6,7,8,9,10,11,12,13,14,15,16,17,18,19,20,21,22,23,24,25,26,27,28,29] [1,0] (fun i:Nat=>[(10,.int .i64 i)]) (fun i=>[(1,.vec g.ports.length 1 (vMix g.ports f k v (midI g.ports f k v i))),(0,.cells [.fz g.ids.length 1 false (vI g.ids),.fz g.ports.length 1 false (vP g.ports)])]) (fun m i=>m=(gR g.ports v).length-i/\i<=(gR g.ports v).length) (gR g.ports v).length 0 ⟨rfl,Nat.zero_le _⟩ rfl (fun _=>rfl) ?_ ?_
       . refine weak_by (fun _ _=>[(0,some 0),(1,some 1)]) ?_ ?_ rfl
         . repeat' (first|exact True.intro|(refine⟨⟨_,rfl,?_⟩,?_⟩)|exact VRen.kf rfl|exact VRen.loc rfl|exact VRen.vec rfl rfl rfl)
         . repeat' (first|exact⟨Nat.le_refl _,rfl,fun i j hi hj=>VLe.of_eq (by rw[mid_zero])⟩|exact True.intro|(refine⟨⟨_,rfl,?_⟩,?_⟩)|exact VRen.kf rfl|(refine And.intro ?_ ?_))
       rintro m i ⟨hm,hi⟩;have hml:=mid_low g.ports f k v i;have hv0:mixI g.ports f k v (midI g.ports f k v i) (0+v)=midI g.ports f k v i:=by rw[Nat.zero_add,mixI,if_neg (by omega),if_pos rfl]
       have hfin:Hide ((¬ i<(gR g.ports v).length)\/0<=midI g.ports f k v i->midI g.ports f k v i=lay g.ports f (k+1) v):=fun h=>by
        rw[<- mid_end g.ports f k v (gR g.ports v).length (Nat.le_refl _)];rcases h with h|h
        . rw[show i=(gR g.ports v).length by omega]
        . exact(mid_stop h hi).symm
       by_cases hgo:i<(gR g.ports v).length/\midI g.ports f k v i<0
       . obtain⟨hil,hneg⟩:=hgo;have hr:=okR_to' (f6 v hvn) hil;have hrn:=okR_ne (f6 v hvn) hil;have hat:=mix_at (p:=g.ports) (f:=f) (k:=k) (w:=midI g.ports f k v i) hrn;have hnx:=mid_next hil hneg;rw[show toN g.ports v i=(gF (gR g.ports v) i).1.toNat from rfl] at hnx;rw[<- Nat.zero_add (gF (gR g.ports v) i).1.toNat] at hat;have hat:Hide _:=hat;have hnx:Hide _:=hnx
         repeat' ((conv=>whnf);first|(refine Br.dec ?_ ?_<;>intro _<;>try omega)|(refine Ar.i64 (by omega) (by omega) ?_)|(refine Ix.nat (by omega) ?_)|(refine Ix.int (by omega) (by omega) ?_)|(refine Ltn.mk (by omega) ?_))
         all_goals (conv=>whnf)
         . rename_i he;unfold Hide at hat hnx;rw[if_pos (by rw[<- Nat.zero_add (gF (gR g.ports v) i).1.toNat,<- hat];omega)] at hnx;refine⟨(gR g.ports v).length-(i+1),i+1,by omega,⟨rfl,by omega⟩,?_⟩;simp only[hnx];refine weak_by (fun _ _=>[(0,some 0),(1,some 1)]) ?_ ?_ rfl
           . repeat' (first|exact True.intro|(refine⟨⟨_,rfl,?_⟩,?_⟩)|exact VRen.kf rfl|exact VRen.loc rfl|exact VRen.vec rfl rfl rfl)
           . repeat' (first|exact⟨Nat.le_refl _,rfl,fun a t ha ht=>by simp only[Nat.zero_add];exact vle_mixset _ _ _ _ _ _ _ _ ht⟩|exact True.intro|(refine⟨⟨_,rfl,?_⟩,?_⟩)|exact VRen.kf rfl|(refine And.intro ?_ ?_))
         . rename_i he;unfold Hide at hat hnx;rw[if_neg (by rw[<- Nat.zero_add (gF (gR g.ports v) i).1.toNat,<- hat];omega)] at hnx;refine⟨(gR g.ports v).length-(i+1),i+1,by omega,⟨rfl,by omega⟩,?_⟩;rw[show midI g.ports f k v i=-1 by omega];simp only[hnx];exact weak_b (fun _ _=>[(0,some 0),(1,some 1)])
       . unfold Hide at hfin;have hfin:=hfin (by omega)
         repeat' ((conv=>whnf);first|(refine Br.dec ?_ ?_<;>intro _<;>try omega)|(refine Ar.i64 (by omega) (by omega) ?_)|(refine Ix.nat (by omega) ?_)|(refine Ltn.mk (by omega) ?_))
         all_goals (conv=>whnf)
         all_goals
          refine⟨g.ports.length-(v+1),v+1,by omega,⟨rfl,by omega⟩,?_⟩;refine weak_by (fun _ _=>[(0,some 0),(1,some 1)]) ?_ ?_ rfl
          . repeat' (first|exact True.intro|(refine⟨⟨_,rfl,?_⟩,?_⟩)|exact VRen.kf rfl|exact VRen.loc rfl|exact VRen.vec rfl rfl rfl)
          . repeat' (first|exact⟨Nat.le_refl _,rfl,fun a t ha ht=>VLe.of_eq (congrArg (V.int .i64) (mix_next _ _ _ _ _ _ _ hfin rfl))⟩|exact True.intro|(refine⟨⟨_,rfl,?_⟩,?_⟩)|exact VRen.kf rfl|(refine And.intro ?_ ?_))
     . have ev:v=g.ports.length:=by omega
       subst ev
       repeat' ((conv=>whnf);first|(refine Br.dec ?_ ?_<;>intro _<;>try omega)|(refine Ar.i64 (by omega) (by omega) ?_))
       all_goals (conv=>whnf)
       refine⟨g.ports.length-1-(k+1),k+1,by omega,⟨rfl,by omega⟩,?_⟩;refine weak_by (fun _ _=>[(0,some 0),(1,some 1)]) ?_ ?_ rfl
       . repeat' (first|exact True.intro|(refine⟨⟨_,rfl,?_⟩,?_⟩)|exact VRen.kf rfl|exact VRen.loc rfl|exact VRen.vec rfl rfl rfl)
       . repeat' (first|exact⟨Nat.le_refl _,rfl,fun a t ha ht=>VLe.of_eq (congrArg (V.int .i64) ((if_pos ha).trans (mix_start _ _ _ _ _ rfl).symm))⟩|exact True.intro|(refine⟨⟨_,rfl,?_⟩,?_⟩)|exact VRen.kf rfl|(refine And.intro ?_ ?_))
   . have ek:k=g.ports.length-1:=by omega
     subst ek
     repeat' ((conv=>whnf);first|(refine Br.dec ?_ ?_<;>intro _<;>try omega)|(refine Len.mk (by omega) ?_))
     all_goals (conv=>whnf)
     refine VLe.fz (dst_len g f).symm (fun h=>h) (fun i t hi ht=>VLe.of_eq ?_);rw[sh_at,vMix,Nat.zero_add,mix_start _ _ _ _ _ rfl,vI,dst_get g f hi]
end Go.Proofs.YtobpogkghbakmaaGreatDoor
namespace Go.Proofs.YtobpogkghbakmaaGreatDoor
open Go.Eng
set_option maxRecDepth 100000
set_option linter.unusedVariables false
theorem rdist_bad (g:G) (hs:g.Small) (hg:g.valid=false) (f:Int):Ret Tryz.prog 16 [g.v,.int .i64 f] .nilslice:=by
 have hval:=rvalid_ok g hs;rw[hg] at hval;refine ret_frz rfl ?_;refine fn_rule mixed Tryz.func16 rfl hc16 hr16 rfl ?_
 repeat' ((conv=>whnf);first|(refine Br.ff ?_)|(refine hval.go ?_))
 all_goals (conv=>whnf)
 exact VLe.rfl
theorem rgrt_nil:Ret Tryz.prog 15 [.nilslice] (.int .i64 (-1)):=by
 refine ret_frz rfl ?_;refine fn_rule mixed Tryz.func15 rfl hc15 hr15 rfl ?_
 repeat' ((conv=>whnf);first|(refine loop_fuel mixed 2 ?_)|(refine Br.ff ?_))
 all_goals (conv=>whnf)
 exact VLe.rfl
theorem dst_ne (g:G) (hg:g.valid=true):0<(dst g 0).length:=by
 obtain⟨f1,f2,f3,f4,f5,f6,f7⟩:=val_facts hg;rw[dst_len];omega
theorem maxL_pos {l:List Int} (h0:0<l.length) (h:∀a∈l,0<=a):0<=maxL l (-1):=by
 match l,h0 with
 | a::r,_ =>
   have:=h a (by simp);have h1:=maxL_ge r (if a > -1 then a else -1);have h2:a<=if a > -1 then a else -1:=by split<;>omega
   simp only[maxL];exact Int.le_trans ‹0<=a› (Int.le_trans h2 h1)
theorem rgrt_conn (g:G) (hg:g.valid=true):(0<=rgrt (dst g 0))↔g.conn=true:=by
 rw[G.conn,hg,Bool.true_and,rgrt];cases h:negB (dst g 0) with
 | true=>simp
 | false=>simpa using maxL_pos (dst_ne g hg) (negB_no.1 h)
theorem rconn_ok (g:G) (hs:g.Small):Ret Tryz.prog 6 [g.v] (.bool g.conn):=by
 refine ret_frz rfl ?_;refine fn_rule mixed Tryz.func6 rfl hc6 hr6 rfl ?_;by_cases hg:g.valid=true
 . obtain⟨f1,f2,f3,f4,f5,f6,f7⟩:=val_facts hg;have hd:=rdist_ok g hs hg 0 (by omega);have hr:=rgrt_ok (dst g 0) (by rw[dst_len];omega);have hcn:=rgrt_conn g hg
   repeat' ((conv=>whnf);first|(refine Br.dec ?_ ?_<;>intro _<;>try omega)|(refine hd.go ?_)|(refine hr.go ?_))
   all_goals (conv=>whnf)
   . rename_i h;exact VLe.bool (hcn.1 h).symm
   . rename_i h;refine VLe.bool ?_;cases e:g.conn with
     | false=>rfl
     | true=>exact(h (hcn.2 e)).elim
 . simp only[Bool.not_eq_true] at hg;have hd:=rdist_bad g hs hg 0;have hn:=rgrt_nil;rw[G.conn,hg]
   repeat' ((conv=>whnf);first|(refine Br.ff ?_)|(refine hd.go ?_)|(refine hn.go ?_))
   all_goals (conv=>whnf)
   exact VLe.rfl
def G.ecc (g:G):Int:=if g.conn then maxL (dst g 0) (-1) else -1
theorem dst_le (g:G) {v:Nat} (hv:v<g.ports.length):-1<=gI (dst g 0) v/\gI (dst g 0) v<g.ports.length:=by
 rw[dst_get g 0 hv];have:=lay_low g.ports 0 (g.ports.length-1) v;omega
theorem ecc_range (g:G) (hg:g.conn=true):0<=g.ecc/\g.ecc<=23:=by
 obtain⟨h1,h2⟩:=conn_facts hg;obtain⟨f1,f2,f3,f4,f5,f6,f7⟩:=val_facts h1;rw[G.ecc,if_pos hg];refine⟨maxL_pos (dst_ne g h1) (fun a ha=>?_),maxL_le _ _ _ (by omega) (fun a ha=>?_)⟩
 . obtain⟨i,hi,rfl⟩:=gI_get ha;exact h2 i (by rw[dst_len] at hi;exact hi)
 . obtain⟨i,hi,rfl⟩:=gI_get ha;rw[dst_len] at hi;have:=dst_le g hi;omega
theorem ecc_ok (g:G) (hs:g.Small):Ret Tryz.prog 11 [g.v,.int .i64 0] (.int .i64 g.ecc):=by
 have hcn:=conn_ok g hs;refine ret_frz rfl ?_;refine fn_rule mixed Tryz.func11 rfl hc11 hr11 rfl ?_;rw[G.ecc];cases hc:g.conn with
 | true =>
   obtain⟨h1,_⟩:=conn_facts hc;obtain⟨f1,f2,f3,f4,f5,f6,f7⟩:=val_facts h1;have hd:=search_ok g h1 0 (by omega);have hr:=grt_ok (dst g 0) (by rw[dst_len];omega);rw[hc] at hcn
   repeat' ((conv=>whnf);first|(refine Br.tt ?_)|(refine Br.ff ?_)|(refine Br.dec ?_ ?_<;>intro _<;>try omega)|(refine hcn.go ?_)|(refine hd.go ?_)|(refine hr.go ?_))
   all_goals (conv=>whnf)
   exact VLe.rfl
 | false =>
   rw[hc] at hcn
   repeat' ((conv=>whnf);first|(refine Br.ff ?_)|(refine hcn.go ?_))
   all_goals (conv=>whnf)
   exact VLe.rfl
abbrev Lt2':=List (Int×Int)
def fpI (p:Int×Int->Bool):Nat->Lt2'->Int
 | _,[]=>-1
 | k,l::r=>if p l then k else fpI p (k+1) r
theorem fpI_range (p:Int×Int->Bool):∀(l:Lt2') (k:Nat),fpI p k l=-1\/((k:Int)<=fpI p k l/\fpI p k l<(k+l.length:Nat))
 | [],k=>.inl rfl
 | a::r,k=>by
   simp only[fpI];split
   . right;simp;omega
   . rcases fpI_range p r (k+1) with h|h
     . exact .inl h
     . right;simp at *;omega
def nearB (g:G) (v:Nat) (l:Int×Int):Bool:=decide (gI (dst g 0) l.1.toNat=gI (dst g 0) v-1)
def upI (g:G) (v:Nat):Int:=fpI (nearB g v) 0 (gR g.ports v)
end Go.Proofs.YtobpogkghbakmaaGreatDoor
namespace Go.Proofs.YtobpogkghbakmaaGreatDoor
open Go.Eng
set_option maxRecDepth 100000
set_option linter.unusedVariables false
end Go.Proofs.YtobpogkghbakmaaGreatDoor
namespace Go.Proofs.YtobpogkghbakmaaGreatDoor
open Go.Eng
set_option maxRecDepth 100000
set_option linter.unusedVariables false
end Go.Proofs.YtobpogkghbakmaaGreatDoor
namespace Go.Proofs.YtobpogkghbakmaaGreatDoor
open Go.Eng
set_option maxRecDepth 100000
set_option linter.unusedVariables false
theorem fpI_none {p:Int×Int->Bool}:∀{l:Lt2'} {k:Nat},(∀a∈l,p a=false)->fpI p k l=-1
 | [],k,_=>rfl
 | a::r,k,h=>by rw[fpI,h a (by simp),if_neg (by simp)];exact fpI_none fun b hb=>h b (by simp[hb])
theorem dst_root (g:G) (hg:g.valid=true):gI (dst g 0) 0=0:=by
 obtain⟨f1,f2,f3,f4,f5,f6,f7⟩:=val_facts hg;have h:∀k,lay g.ports 0 k 0=0:=by
  intro k
  induction k with
  | zero=>rfl
  | succ k ih=>rw[lay,ih];rfl
 rw[dst_get g 0 (by omega),h]
theorem up_root {g:G} (hg:g.conn=true):upI g 0=-1:=by
 obtain⟨h1,h2⟩:=conn_facts hg;have hr:=(und_of h1).rng 0;obtain⟨f1,f2,f3,f4,f5,f6,f7⟩:=val_facts h1;refine fpI_none fun l hl=>decide_eq_false ?_;have:=h2 _ (hr (by omega) l hl);rw[dst_root g h1];omega
end Go.Proofs.YtobpogkghbakmaaGreatDoor
namespace Go.Plain.Tree
structure Net (n:Nat) (a:Nat->Nat->Bool) (D:Nat->Nat):Prop where
 rng:∀u v,u<n->a u v=true->v<n
 root:∀v,v<n->(D v=0↔v=0)
 near:∀v,v<n->v≠0->∃u,a v u=true/\D u+1=D v
 step:∀u v,u<n->a u v=true->D u<=D v+1
 top:∀v,v<n->D v+1<=n
structure St where
 d:Nat->Int
 p:Nat->Int
structure Rule (n:Nat) (a:Nat->Nat->Bool) (D:Nat->Nat) (P:Nat->Int) (tg:(Nat->Int)->Nat->Int×Int):Prop where
 root:∀d,tg d 0=(0,-1)
 right:∀d v,v<n->v≠0->(∀u,a v u=true->D u+1=D v->d u=((D u:Nat):Int))->(∀u,a v u=true->D v<=D u->(D v:Int)<=d u)->tg d v=(((D v:Nat):Int),P v)
 low:∀d v (k:Nat),v<n->v≠0->k+1<=n->(∀u,a v u=true->(k:Int)<=d u)->((k+1:Nat):Int)<=(tg d v).1
 proot:P 0=-1
variable {n:Nat} {a:Nat->Nat->Bool} {D:Nat->Nat} {P:Nat->Int} {tg:(Nat->Int)->Nat->Int×Int}
def right (D:Nat->Nat) (P:Nat->Int) (s:St) (v:Nat):Prop:=s.d v=((D v:Nat):Int)/\s.p v=P v
def off (tg:(Nat->Int)->Nat->Int×Int) (s:St) (v:Nat):Prop:=(s.d v,s.p v)≠tg s.d v
def Step (n:Nat) (tg:(Nat->Int)->Nat->Int×Int) (s:St) (c:Nat->Bool) (s':St):Prop :=
 ∀v,v<n->(c v=true->off tg s v->(s'.d v,s'.p v)=tg s.d v)/\(c v=false\/¬ off tg s v->s'.d v=s.d v/\s'.p v=s.p v)
structure Ok (n:Nat) (D:Nat->Nat) (P:Nat->Int) (s:St) (k:Nat):Prop where
 low:∀v,v<n->D v<k->right D P s v
 far:∀v,v<n->k<=D v->(k:Int)<=s.d v
def bad (D:Nat->Nat) (P:Nat->Int) (s:St) (k v:Nat):Prop:=(D v=k/\¬ right D P s v)\/(k<D v/\s.d v<(k:Int)+1)
theorem Ok.start {s:St} (h:∀v,v<n->0<=s.d v):Ok n D P s 0:=⟨fun v _ h=>by omega,fun v hv _=>by simpa using h v hv⟩
theorem Ok.tgt (hN:Net n a D) (hR:Rule n a D P tg) {s:St} {k:Nat} (h:Ok n D P s k) {v:Nat} (hv:v<n) (hk:D v<=k):tg s.d v=(((D v:Nat):Int),P v):=by
 by_cases h0:v=0
 . subst h0;rw[hR.root,(hN.root 0 hv).2 rfl,hR.proot];rfl
 . refine hR.right s.d v hv h0 (fun u hu e=>?_) (fun u hu e=>?_)
   . exact(h.low u (hN.rng v u hv hu) (by omega)).1
   . have hun:=hN.rng v u hv hu;by_cases q:D u<k
     . rw[(h.low u hun q).1];omega
     . have:=h.far u hun (by omega);omega
theorem Ok.tgfar (hN:Net n a D) (hR:Rule n a D P tg) {s:St} {k:Nat} (h:Ok n D P s k) {v:Nat} (hv:v<n) (hk:k<D v):((k+1:Nat):Int)<=(tg s.d v).1:=by
 have h0:v≠0:=fun e=>by have:=(hN.root v hv).2 e;omega
 have ht:=hN.top v hv;refine hR.low s.d v k hv h0 (by omega) fun u hu=>?_;have:=hN.step v u hv hu;exact h.far u (hN.rng v u hv hu) (by omega)
theorem Ok.off_bad (hN:Net n a D) (hR:Rule n a D P tg) {s:St} {k:Nat} (h:Ok n D P s k) {v:Nat} (hv:v<n) (hb:bad D P s k v):off tg s v:=by
 rcases hb with ⟨h1,h2⟩ | ⟨h1,h2⟩
 . intro e;rw[h.tgt hN hR hv (by omega)] at e;exact h2 ⟨(Prod.mk.inj e).1,(Prod.mk.inj e).2⟩
 . intro e;have:=h.tgfar hN hR hv h1;rw[<- e] at this;simp only at this;omega
theorem Ok.step (hN:Net n a D) (hR:Rule n a D P tg) {s s':St} {c:Nat->Bool} {k:Nat} (h:Ok n D P s k) (hs:Step n tg s c s') :
 Ok n D P s' k/\∀v,v<n->bad D P s' k v->bad D P s k v/\c v=false:=by
 have key:∀v,v<n->(c v=true/\off tg s v/\(s'.d v,s'.p v)=tg s.d v)\/((c v=false\/¬ off tg s v)/\s'.d v=s.d v/\s'.p v=s.p v):=fun v hv=>by
  obtain⟨h1,h2⟩:=hs v hv;by_cases q:c v=false\/¬ off tg s v
  . exact .inr ⟨q,h2 q⟩
  . have qc:c v=true:=by
     cases e:c v with
     | true=>rfl
     | false=>exact(q (.inl e)).elim
    have qo:off tg s v:=Classical.byContradiction fun e=>q (.inr e);exact .inl ⟨qc,qo,h1 qc qo⟩
 have low':∀v,v<n->D v<k->right D P s' v:=fun v hv hk=>by
  rcases key v hv with ⟨_,_,e⟩ | ⟨_,e1,e2⟩
  . rw[h.tgt hN hR hv (by omega)] at e;exact⟨(Prod.mk.inj e).1,(Prod.mk.inj e).2⟩
  . obtain⟨r1,r2⟩:=h.low v hv hk;exact⟨by rw[e1];exact r1,by rw[e2];exact r2⟩
 have far':∀v,v<n->k<=D v->(k:Int)<=s'.d v:=fun v hv hk=>by
  rcases key v hv with ⟨_,_,e⟩ | ⟨_,e1,_⟩
  . by_cases q:D v=k
    . rw[h.tgt hN hR hv (by omega)] at e;rw[(Prod.mk.inj e).1];omega
    . have:=h.tgfar hN hR hv (by omega);rw[<- e] at this;simp only at this;omega
  . rw[e1];exact h.far v hv hk
 refine⟨⟨low',far'⟩,fun v hv hb=>?_⟩;rcases key v hv with ⟨_,_,e⟩ | ⟨q,e1,e2⟩
 . exfalso;rcases hb with ⟨h1,h2⟩ | ⟨h1,h2⟩
   . rw[h.tgt hN hR hv (by omega)] at e;exact h2 ⟨(Prod.mk.inj e).1,(Prod.mk.inj e).2⟩
   . have:=h.tgfar hN hR hv h1;rw[<- e] at this;simp only at this;omega
 . have hb0:bad D P s k v:=by
    rcases hb with ⟨h1,h2⟩ | ⟨h1,h2⟩
    . exact .inl ⟨h1,fun r=>h2 ⟨by rw[e1];exact r.1,by rw[e2];exact r.2⟩⟩
    . exact .inr ⟨h1,by rw[<- e1];exact h2⟩
   refine⟨hb0,?_⟩;rcases q with q|q
   . exact q
   . exact(q (h.off_bad hN hR hv hb0)).elim
theorem Ok.next {s:St} {k:Nat} (h:Ok n D P s k) (hb:∀v,v<n->¬ bad D P s k v):Ok n D P s (k+1):=by
 refine⟨fun v hv hk=>?_,fun v hv hk=>?_⟩
 . by_cases e:D v=k
   . exact Classical.byContradiction fun q=>hb v hv (.inl ⟨e,q⟩)
   . exact h.low v hv (by omega)
 . have:=hb v hv;apply Classical.byContradiction;intro q;exact this (.inr ⟨by omega,by omega⟩)
theorem Ok.all (hN:Net n a D) (hR:Rule n a D P tg) {s:St} {k:Nat} (h:Ok n D P s k) {v:Nat} (hv:v<n) (hk:D v<k):¬ off tg s v:=fun e=>by
 obtain⟨r1,r2⟩:=h.low v hv hk;apply e;rw[h.tgt hN hR hv (by omega),r1,r2]
end Go.Plain.Tree
namespace Go.Proofs.YtobpogkghbakmaaGreatDoor
open Go.Eng
set_option maxRecDepth 100000
set_option linter.unusedVariables false
def Dg (g:G) (v:Nat):Nat:=(gI (dst g 0) v).toNat
theorem dg_int {g:G} (h:g.conn=true) {v:Nat} (hv:v<g.ids.length):((Dg g v:Nat):Int)=gI (dst g 0) v:=by
 obtain⟨h1,h2⟩:=conn_facts h;obtain⟨f1,f2,f3,f4,f5,f6,f7⟩:=val_facts h1;have:=h2 v (by omega);rw[Dg];omega
theorem netB {g:G} (h:g.conn=true):Go.Plain.Tree.Net g.ids.length (adN g) (Dg g):=by
 obtain⟨h1,h2⟩:=conn_facts h;obtain⟨f1,f2,f3,f4,f5,f6,f7⟩:=val_facts h1;have hu:=und_of h1;have hF:=dst_found h1;have hD:=fun v (hv:v<g.ids.length)=>dg_int h hv;have near:∀v,v<g.ids.length->v≠0->∃u,adN g v u=true/\Dg g u+1=Dg g v:=fun v hv h0=>by
  obtain⟨l,hl,a,b⟩:=hF.back v (by omega) h0 (h2 v (by omega));have hln:=hu.rng v (by omega) l hl;have e1:=hD v hv;have e2:=hD l.1.toNat (by omega);exact⟨l.1.toNat,adj_iff.2 ⟨l,hl,rfl⟩,by omega⟩
 refine⟨fun u v hu' hv=>(adj_adj h1).rng u v hu' hv,fun v hv=>⟨fun e=>?_,fun e=>?_⟩,near,fun u v hun huv=>?_,fun v hv=>?_⟩
 . apply Classical.byContradiction;intro h0;obtain⟨u,_,q⟩:=near v hv h0;omega
 . subst e;have:=hD 0 hv;have e0:=hF.from_;omega
 . have hvn:=(adj_adj h1).rng u v hun huv;have hvu:=(adj_adj h1).sym u v hun hvn huv;obtain⟨l,hl,e⟩:=adj_iff.1 hvu;have:=(hF.on v (by omega) (h2 v (by omega)) l hl).2;rw[e] at this;have e1:=hD v hvn;have e2:=hD u hun;omega
 . have:=hF.lt hu (v:=v) (by omega);have e1:=hD v hv;omega
theorem minI_le:∀(l:List Int) (m:Int),minI l m<=m/\∀a∈l,minI l m<=a
 | [],m=>⟨Int.le_refl _,by simp⟩
 | a::r,m=>by
   have q1:(if a<m then a else m)<=m:=by split<;>omega
   have q2:(if a<m then a else m)<=a:=by split<;>omega
   obtain⟨h1,h2⟩:=minI_le r (if a<m then a else m);rw[minI];refine⟨Int.le_trans h1 q1,fun b hb=>?_⟩;rcases List.mem_cons.1 hb with e|hb
   . rw[e];exact Int.le_trans h1 q2
   . exact h2 b hb
theorem minI_ge:∀(l:List Int) (m k:Int),k<=m->(∀a∈l,k<=a)->k<=minI l m
 | [],m,k,h,_=>h
 | a::r,m,k,h,ha=>by
   rw[minI];exact minI_ge r _ k (by have:=ha a (by simp);split<;>omega) (fun b hb=>ha b (by simp[hb]))
def mnD (g:G) (d:Nat->Int) (v:Nat):Int:=minI ((gR g.ports v).map fun l=>d l.1.toNat) 1073741824
def tgB (g:G) (d:Nat->Int) (v:Nat):Int×Int :=
 if v=0 then (0,-1) else (if mnD g d v<g.ids.length then mnD g d v+1 else g.ids.length,fpI (fun l=>decide (d l.1.toNat=mnD g d v)) 0 (gR g.ports v))
theorem fpI_ext {p q:Int×Int->Bool}:∀{r:Lt2'} {k:Nat},(∀l∈r,p l=q l)->fpI p k r=fpI q k r
 | [],_,_=>rfl
 | l::r,k,h=>by rw[fpI,fpI,h l (by simp),fpI_ext (fun x hx=>h x (by simp[hx]))]
theorem ruleB {g:G} (h:g.conn=true):Go.Plain.Tree.Rule g.ids.length (adN g) (Dg g) (upI g) (tgB g):=by
 obtain⟨h1,h2⟩:=conn_facts h;obtain⟨f1,f2,f3,f4,f5,f6,f7⟩:=val_facts h1;have hN:=netB h;have hu:=und_of h1;refine⟨fun d=>if_pos rfl,fun d v hv h0 hr1 hr2=>?_,fun d v k hv h0 hk hd=>?_,up_root h⟩
 . have hmem:∀l∈gR g.ports v,adN g v l.1.toNat=true:=fun l hl=>adj_iff.2 ⟨l,hl,rfl⟩;have h4:=hN.top v hv;have hm:mnD g d v=((Dg g v:Nat):Int)-1:=by
    obtain⟨u,hu1,hu2⟩:=hN.near v hv h0;obtain⟨l,hl,e⟩:=adj_iff.1 hu1;have a1:=(minI_le ((gR g.ports v).map fun l=>d l.1.toNat) 1073741824).2 (d u) (List.mem_map.2 ⟨l,hl,by rw[e]⟩);rw[hr1 u hu1 hu2] at a1;have a2:((Dg g v:Nat):Int)-1<=minI ((gR g.ports v).map fun l=>d l.1.toNat) 1073741824:=by
     refine minI_ge _ _ _ (by omega) fun b hb=>?_;obtain⟨l',hl',rfl⟩:=List.mem_map.1 hb;have hal:=hmem l' hl';by_cases q:Dg g v<=Dg g l'.1.toNat
     . have:=hr2 _ hal q;omega
     . have hs:=hN.step v l'.1.toNat hv hal;rw[hr1 _ hal (by omega)];omega
    rw[mnD];omega
   have hv1:1<=Dg g v:=by
    have:=(hN.root v hv);omega
   rw[tgB,if_neg h0,hm,if_pos (by omega)];refine Prod.ext (by simp only;omega) ?_;show fpI _ 0 _=fpI (nearB g v) 0 _;refine fpI_ext fun l hl=>?_;have hal:=hmem l hl;have hln:=hN.rng v l.1.toNat hv hal;have e1:=dg_int h hv;have e2:=dg_int h hln;have hs:=hN.step v l.1.toNat hv hal;rw[nearB,decide_eq_decide,<- e1,<- e2];by_cases q:Dg g v<=Dg g l.1.toNat
   . have:=hr2 _ hal q;omega
   . rw[hr1 _ hal (by omega)]
 . have hm:(k:Int)<=mnD g d v:=by
    refine minI_ge _ _ _ (by omega) fun b hb=>?_;obtain⟨l,hl,rfl⟩:=List.mem_map.1 hb;exact hd _ (adj_iff.2 ⟨l,hl,rfl⟩)
   rw[tgB,if_neg h0];simp only;split<;>omega
def mnT:Tm:=.agg 24 (.leaf 12 0)
def dTm:Tm:=.ite (.bin 37 mnT (.leaf 6 0)) (.bin 33 mnT (.leaf 1 1)) (.leaf 6 0)
def pTm:Tm:=.agg 23 (.bin 35 (.leaf 12 0) mnT)
def topG:Tm:=.bin 41 (.leaf 10 0) (.bin 42 (.bin 36 (.leaf 5 0) (.leaf 1 0)) (.bin 36 (.leaf 5 1) (.leaf 4 0)))
def lowG:Tm:=.bin 41 (.un 19 (.leaf 10 0)) (.bin 42 (.bin 36 (.leaf 5 0) dTm) (.bin 36 (.leaf 5 1) pTm))
abbrev dC (c:Cf) (v:Nat):Int:=gI (gC c v) 0
abbrev pC (c:Cf) (v:Nat):Int:=gI (gC c v) 1
theorem range_map (r:Lt2') (f:Int×Int->Int):((List.range r.length).map fun i=>f (gF r i))=r.map f:=by
 refine List.ext_getElem (by simp) fun i h1 h2=>?_;simp at h1;simp[gF,List.getD,h1]
theorem mn_sem (g:G) (c:Cf) (v:Nat) (port:Int):mnT.sem g c v port=mnD g (dC c) v:=by
 show minI ((List.range (gR g.ports v).length).map fun(i:Nat)=>gI (gC c (nbV g v i)) 0) 1073741824=_;rw[mnD,<- range_map (gR g.ports v) (fun l=>dC c l.1.toNat)];simp only[nbV,Int.toNat_natCast]
theorem mn_nn {g:G} {c:Cf} (hd:∀v,v<g.ids.length->0<=dC c v) (hg:g.valid=true) {v:Nat} (hv:v<g.ids.length):0<=mnD g (dC c) v:=by
 obtain⟨f1,f2,f3,f4,f5,f6,f7⟩:=val_facts hg;have hok:=(okR_iff.1 (f6 v (by omega))).1;refine minI_ge _ _ _ (by omega) fun b hb=>?_;obtain⟨l,hl,rfl⟩:=List.mem_map.1 hb;have:=hok l hl;exact hd _ (by omega)
theorem d_sem {g:G} (hg:g.valid=true) {c:Cf} (hd:∀v,v<g.ids.length->0<=dC c v) {v:Nat} (hv:v<g.ids.length) (h0:v≠0) (port:Int):dTm.sem g c v port=(tgB g (dC c) v).1:=by
 obtain⟨f1,f2,f3,f4,f5,f6,f7⟩:=val_facts hg;have hm:=mn_nn hd hg hv;show(if truI (decide (mnT.sem g c v port<(g.ids.length:Int)))≠0 then sat (mnT.sem g c v port+1) else (g.ids.length:Int))=_;rw[mn_sem,tgB,if_neg h0];simp only;by_cases q:mnD g (dC c) v<g.ids.length
 . rw[decide_eq_true q,if_pos (by decide),if_pos q,sat_eq (by unfold inR;omega)]
 . rw[decide_eq_false q,if_neg (by decide),if_neg q]
theorem idx_fpI {f:Int×Int->Int} {p:Int×Int->Bool}:∀{r:Lt2'} {k:Nat},(∀l∈r,f l≠0↔p l=true)->idxI k (r.map f)=fpI p k r
 | [],_,_=>rfl
 | l::r,k,h=>by
   have h1:=h l (by simp);rw[List.map_cons,idxI,fpI,idx_fpI (fun x hx=>h x (by simp[hx]))];by_cases e:p l=true
   . rw[if_pos (h1.2 e),if_pos e]
   . rw[if_neg (fun q=>e (h1.1 q)),if_neg e]
theorem p_sem (g:G) (c:Cf) (v:Nat) (h0:v≠0) (port:Int):pTm.sem g c v port=(tgB g (dC c) v).2:=by
 show idxI 0 ((List.range (gR g.ports v).length).map fun(i:Nat)=>truI (decide (gI (gC c (nbV g v i)) 0=mnT.sem g c v i)))=_;rw[tgB,if_neg h0];simp only;have e:((List.range (gR g.ports v).length).map fun(i:Nat)=>truI (decide (gI (gC c (nbV g v i)) 0=mnT.sem g c v i)))=(gR g.ports v).map fun l=>truI (decide (dC c l.1.toNat=mnD g (dC c) v)):=by
  rw[<- range_map (gR g.ports v) (fun l=>truI (decide (dC c l.1.toNat=mnD g (dC c) v)))];simp only[nbV,Int.toNat_natCast,mn_sem]
 rw[e];exact idx_fpI fun l _=>by rw[itru_ne]
def offB (g:G) (c:Cf) (v:Nat):Bool:=decide ((dC c v,pC c v)≠tgB g (dC c) v)
theorem top_sem (g:G) (c:Cf) (v:Nat):topG.sem g c v (-1)=truI (decide (v=0)&&offB g c v):=by
 show truI (decide (truI (decide (v=0))≠0/\truI (decide (truI (decide (dC c v≠0))≠0\/truI (decide (pC c v≠-1))≠0))≠0))=_;congr 1;simp only[itru_ne,decide_eq_true_eq];by_cases h0:v=0
 . rw[offB,tgB,if_pos h0];simp only[h0,true_and,decide_true,Bool.true_and];rw[decide_eq_decide];simp only[ne_eq,Prod.mk.injEq];exact(Classical.not_and_iff_not_or_not).symm
 . simp[h0]
theorem low_sem {g:G} (hg:g.valid=true) {c:Cf} (hd:∀v,v<g.ids.length->0<=dC c v) {v:Nat} (hv:v<g.ids.length):lowG.sem g c v (-1)=truI (!decide (v=0)&&offB g c v):=by
 show truI (decide (truI (decide (truI (decide (v=0))=0))≠0/\truI (decide (truI (decide (dC c v≠dTm.sem g c v (-1)))≠0\/truI (decide (pC c v≠pTm.sem g c v (-1)))≠0))≠0))=_;congr 1;simp only[itru_ne,itru_eq0,decide_eq_true_eq,decide_eq_false_iff_not];by_cases h0:v=0
 . simp[h0]
 . rw[d_sem hg hd hv h0,p_sem g c v h0,offB];simp only[h0,not_false_eq_true,true_and,decide_false,Bool.not_false,Bool.true_and];rw[decide_eq_decide];generalize tgB g (dC c) v=t;obtain⟨t1,t2⟩:=t;simp only[ne_eq,Prod.mk.injEq];exact(Classical.not_and_iff_not_or_not).symm
end Go.Proofs.YtobpogkghbakmaaGreatDoor
namespace Go.Proofs.YtobpogkghbakmaaGreatDoor
open Go.Eng
set_option maxRecDepth 100000
set_option linter.unusedVariables false
def vTr:List Vr:=[⟨ByteArray.mk #[100],1,0,0,1,0⟩,⟨ByteArray.mk #[112],3,0,0,0,0⟩]
def pBfs:Pr:=⟨ByteArray.mk #[98,102,115],vTr,[⟨ByteArray.mk #[116,111,112],topG,[(0,.leaf 1 0),(1,.leaf 4 0)]⟩,
 ⟨ByteArray.mk #[108,111,119],lowG,[(0,dTm),(1,pTm)]⟩]⟩
theorem bfs_rng {g:G} {c:Cf} (h:Conf pBfs g c) {v:Nat} (hv:v<g.ids.length):(gC c v).length=2/\0<=dC c v/\dC c v<=g.ids.length/\-1<=pC c v/\pC c v<=((gR g.ports v).length:Int)-1:=by
 have hl:v<c.length:=by rw[h.len];exact hv
 have h0:=h.val v hl 0 (by decide);have h1:=h.val v hl 1 (by decide);have e0:bnd g (gV pBfs.vars 0) v=(0,0+1*(g.ids.length:Int)+0*topI g):=rfl;have e1:bnd g (gV pBfs.vars 1) v=(-1,((gR g.ports v).length:Int)-1):=rfl;rw[e0] at h0;rw[e1] at h1;obtain⟨a1,a2⟩:=h0;obtain⟨b1,b2⟩:=h1;simp only at a1 a2 b1 b2;exact⟨h.row v hl,a1,by show gI (gC c v) 0<=_;omega,b1,b2⟩
theorem bfs_nn {g:G} {c:Cf} (hc:Conf pBfs g c):∀v,v<g.ids.length->0<=dC c v:=fun v hv=>(bfs_rng hc hv).2.1
theorem bfs_gds (g:G) (c:Cf) (v:Nat):gds pBfs g c v=[topG.sem g c v (-1),lowG.sem g c v (-1)]:=rfl
theorem bfs_rule {g:G} (hg:g.valid=true) {c:Cf} (hc:Conf pBfs g c) {v:Nat} (hv:v<g.ids.length):ruleI pBfs g c v=if offB g c v=true then (if v=0 then 0 else 1) else -1:=by
 rw[ruleI,bfs_gds,top_sem,low_sem hg (bfs_nn hc) hv];cases offB g c v with
 | true =>
   rw[if_pos rfl];by_cases h0:v=0
   . rw[decide_eq_true h0,if_pos h0];rfl
   . rw[decide_eq_false h0,if_neg h0];rfl
 | false=>rw[Bool.and_false,Bool.and_false];rfl
theorem bfs_en {g:G} (hg:g.valid=true) {c:Cf} (hc:Conf pBfs g c) {v:Nat} (hv:v<g.ids.length):(enN pBfs g c).testBit v=offB g c v:=by
 rw[en_bit,bfs_rule hg hc hv,decide_eq_true hv,Bool.true_and];cases offB g c v with
 | true=>rw[if_pos rfl,decide_eq_true_eq];split<;>omega
 | false=>rfl
def stB (c:Cf):Go.Plain.Tree.St:=⟨dC c,pC c⟩
theorem off_iffB {g:G} {c:Cf} {v:Nat}:Go.Plain.Tree.off (tgB g) (stB c) v↔offB g c v=true:=by
 rw[offB,decide_eq_true_eq];exact Iff.rfl
theorem bv0 (g:G) (c:Cf) (v:Nat):moveL pBfs g c v 0=((gC c v).set 0 (brI 1 0 (0+1*(g.ids.length:Int)+0*topI g) 0)).set 1 (brI 3 (-1) (((gR g.ports v).length:Int)-1) (-1)):=rfl
theorem bv1 (g:G) (c:Cf) (v:Nat):moveL pBfs g c v 1=((gC c v).set 0 (brI 1 0 (0+1*(g.ids.length:Int)+0*topI g) (dTm.sem g c v (-1)))).set 1 (brI 3 (-1) (((gR g.ports v).length:Int)-1) (pTm.sem g c v (-1))):=rfl
theorem brB_val {k lo hi a:Int} (h:lo<=a/\a<=hi):brI k lo hi a=a:=by rw[brI,if_pos h]
theorem tgB_rngB {g:G} (hg:g.valid=true) {c:Cf} (hd:∀v,v<g.ids.length->0<=dC c v) {v:Nat} (hv:v<g.ids.length) (h0:v≠0):0<=(tgB g (dC c) v).1/\(tgB g (dC c) v).1<=g.ids.length/\-1<=(tgB g (dC c) v).2/\(tgB g (dC c) v).2<=((gR g.ports v).length:Int)-1:=by
 have hm:=mn_nn hd hg hv;have hf:=fpI_range (fun l=>decide (dC c l.1.toNat=mnD g (dC c) v)) (gR g.ports v) 0;rw[tgB,if_neg h0];simp only;split<;>omega
theorem bfs_step {g:G} (hg:g.valid=true) {c:Cf} (hc:Conf pBfs g c) {s:Nat} (hs:Part s (enN pBfs g c)):Go.Plain.Tree.Step g.ids.length (tgB g) (stB c) (fun v=>s.testBit v) (stB (stepC pBfs g c s)):=by
 intro v hv;have hl:=hc.len;have hlen:=(bfs_rng hc hv).1;have hrow:=stepC_row pBfs g c s (v:=v) (by omega);refine⟨fun hb ho=>?_,fun hq=>?_⟩
 . rw[off_iffB] at ho;rw[if_pos hb,bfs_rule hg hc hv,if_pos ho] at hrow;show(gI (gC (stepC pBfs g c s) v) 0,gI (gC (stepC pBfs g c s) v) 1)=tgB g (dC c) v;by_cases h0:v=0
   . rw[if_pos h0] at hrow;rw[hrow,show(0:Int).toNat=0 from rfl,bv0];rw[gI_stx _ _ _ _ (by rw[List.length_set];omega),if_neg (by decide),gI_stx _ _ _ _ (by omega),if_pos rfl,gI_stx _ _ _ _ (by rw[List.length_set];omega),if_pos rfl,tgB,if_pos h0,brB_val (by omega),brB_val (by omega)]
   . rw[if_neg h0] at hrow;obtain⟨r1,r2,r3,r4⟩:=tgB_rngB hg (bfs_nn hc) hv h0;rw[hrow,show(1:Int).toNat=1 from rfl,bv1,d_sem hg (bfs_nn hc) hv h0,p_sem g c v h0];rw[gI_stx _ _ _ _ (by rw[List.length_set];omega),if_neg (by decide),gI_stx _ _ _ _ (by omega),if_pos rfl,gI_stx _ _ _ _ (by rw[List.length_set];omega),if_pos rfl,brB_val (by omega),brB_val (by omega)]
 . show gI (gC (stepC pBfs g c s) v) 0=gI (gC c v) 0/\gI (gC (stepC pBfs g c s) v) 1=gI (gC c v) 1;cases hb:s.testBit v with
   | false=>rw[hrow,hb];exact⟨rfl,rfl⟩
   | true =>
     exfalso;have hen:=hs v hb;rw[bfs_en hg hc hv] at hen;rcases hq with q|q
     . exact absurd (hb.symm.trans q) (by simp)
     . exact q (off_iffB.2 hen)
end Go.Proofs.YtobpogkghbakmaaGreatDoor
namespace Go.Plain.Mx
def pr (sz:Nat->Nat):Nat->Nat->Nat
 | _,0=>1
 | a,l+1=>sz a*pr sz (a+1) l
def vl (sz d:Nat->Nat):Nat->Nat->Nat
 | _,0=>0
 | a,l+1=>d a*pr sz (a+1) l+vl sz d (a+1) l
variable {sz:Nat->Nat}
theorem pr_pos (h:∀i,0<sz i):∀l a,0<pr sz a l
 | 0,_=>Nat.one_pos
 | l+1,a=>Nat.mul_pos (h a) (pr_pos h l (a+1))
theorem pr_snoc:∀l a,pr sz a (l+1)=pr sz a l*sz (a+l)
 | 0,a=>by simp[pr]
 | l+1,a=>by
   rw[pr,pr_snoc l (a+1),pr,Nat.mul_assoc];congr 2;congr 1;omega
theorem vl_lt {d:Nat->Nat}:∀l a,(∀i,a<=i->i<a+l->d i<sz i)->vl sz d a l<pr sz a l
 | 0,_,_=>Nat.one_pos
 | l+1,a,h=>by
   have h1:=vl_lt l (a+1) (fun i q q2=>h i (by omega) (by omega));have h2:=h a (Nat.le_refl _) (by omega);rw[vl,pr];have h3:(d a+1)*pr sz (a+1) l<=sz a*pr sz (a+1) l:=Nat.mul_le_mul_right _ h2;rw[Nat.add_mul] at h3;omega
theorem vl_ext {d e:Nat->Nat}:∀l a,(∀i,a<=i->i<a+l->d i=e i)->vl sz d a l=vl sz e a l
 | 0,_,_=>rfl
 | l+1,a,h=>by rw[vl,vl,h a (Nat.le_refl _) (by omega),vl_ext l (a+1) (fun i q q2=>h i (by omega) (by omega))]
def dg (sz:Nat->Nat) (N k i:Nat):Nat:=k / pr sz (i+1) (N-(i+1)) % sz i
theorem dg_lt (h:∀i,0<sz i) (N k i:Nat):dg sz N k i<sz i:=Nat.mod_lt _ (h i)
theorem vl_dg (h:∀i,0<sz i) (N k:Nat):∀l a,a+l=N->vl sz (dg sz N k) a l=k % pr sz a l
 | 0,a,_=>by simp[vl,pr,Nat.mod_one]
 | l+1,a,e=>by
   rw[vl,vl_dg h N k l (a+1) (by omega),dg,show N-(a+1)=l by omega,pr];have hp:=pr_pos h l (a+1);generalize pr sz (a+1) l=P at *;generalize sz a=s at *;rw[Nat.mul_comm s P,Nat.mod_mul,Nat.mul_comm (k / P % s) P,Nat.add_comm]
theorem dg_vl (h:∀i,0<sz i) (N:Nat) (d:Nat->Nat) (hd:∀i,i<N->d i<sz i):∀l a,a+l=N->∀i,a<=i->i<N->∀hi,dg sz N (hi*pr sz a l+vl sz d a l) i=d i
 | 0,a,e,i,h1,h2,hi=>by omega
 | l+1,a,e,i,h1,h2,hi=>by
   have hv:=vl_lt (sz:=sz) (d:=d) l (a+1) (fun i q q2=>hd i (by omega));have hP:=pr_pos h l (a+1);rw[vl,pr];have e2:hi*(sz a*pr sz (a+1) l)+(d a*pr sz (a+1) l+vl sz d (a+1) l)=(hi*sz a+d a)*pr sz (a+1) l+vl sz d (a+1) l:=by
    rw[Nat.add_mul,Nat.mul_assoc];omega
   rw[e2];by_cases q:i=a
   . subst q;rw[dg,show N-(i+1)=l by omega];rw[Nat.add_comm ((hi*sz i+d i)*_),Nat.add_mul_div_right _ _ hP,Nat.div_eq_of_lt hv,Nat.zero_add,Nat.add_comm,Nat.add_mul_mod_self_right,Nat.mod_eq_of_lt (hd i h2)]
   . exact dg_vl h N d hd l (a+1) (by omega) i (by omega) h2 _
theorem dg_val (h:∀i,0<sz i) {N:Nat} {d:Nat->Nat} (hd:∀i,i<N->d i<sz i) {i:Nat} (hi:i<N):dg sz N (vl sz d 0 N) i=d i:=by
 have:=dg_vl h N d hd N 0 (by omega) i (Nat.zero_le _) hi 0;simpa using this
theorem val_dg (h:∀i,0<sz i) {N k:Nat} (hk:k<pr sz 0 N):vl sz (dg sz N k) 0 N=k:=by
 rw[vl_dg h N k N 0 (by omega),Nat.mod_eq_of_lt hk]
theorem vl_zero {d:Nat->Nat}:∀l a,(∀i,a<=i->i<a+l->d i=0)->vl sz d a l=0
 | 0,_,_=>rfl
 | l+1,a,h=>by rw[vl,h a (Nat.le_refl _) (by omega),vl_zero l (a+1) (fun i q q2=>h i (by omega) (by omega)),Nat.zero_mul]
theorem vl_full (h:∀i,0<sz i) {d:Nat->Nat}:∀l a,(∀i,a<=i->i<a+l->d i+1=sz i)->vl sz d a l+1=pr sz a l
 | 0,_,_=>rfl
 | l+1,a,q=>by
   have h1:=vl_full h (d:=d) l (a+1) (fun i q1 q2=>q i (by omega) (by omega));have h2:=q a (Nat.le_refl _) (by omega);rw[vl,pr,<- h2,Nat.add_mul];omega
def nx (d:Nat->Nat) (i j:Nat):Nat:=if j<i then d j else if j=i then d j+1 else 0
theorem vl_nx (h:∀i,0<sz i) (d:Nat->Nat) (N i:Nat) (hi:i<N) (hf:∀j,i<j->j<N->d j+1=sz j):∀l a,a+l=N->a<=i->vl sz (nx d i) a l=vl sz d a l+1
 | 0,a,e,q=>by omega
 | l+1,a,e,q=>by
   rw[vl,vl];by_cases ea:a=i
   . subst ea;rw[vl_zero (d:=nx d a) l (a+1) (fun j q1 q2=>by rw[nx,if_neg (by omega),if_neg (by omega)]),nx,if_neg (by omega),if_pos rfl,Nat.add_mul];have:=vl_full h (d:=d) l (a+1) (fun j q1 q2=>hf j (by omega) (by omega));omega
   . rw[vl_nx h d N i hi hf l (a+1) (by omega) (by omega),nx,if_pos (by omega)];omega
theorem dg_next (h:∀i,0<sz i) {N k i:Nat} (hk:k<pr sz 0 N) (hi:i<N) (hn:dg sz N k i+1<sz i) (hf:∀j,i<j->j<N->dg sz N k j+1=sz j) {j:Nat} (hj:j<N):dg sz N (k+1) j=nx (dg sz N k) i j:=by
 have h1:=vl_nx h (dg sz N k) N i hi hf N 0 (by omega) (Nat.zero_le _);rw[val_dg h hk] at h1;rw[<- h1];refine dg_val h (fun j hj=>?_) hj;rw[nx];split
 . exact dg_lt h _ _ _
 . split
   . rename_i e;subst e;exact hn
   . exact h j
theorem dg_last (h:∀i,0<sz i) {N k:Nat} (hk:k<pr sz 0 N) (hf:∀j,j<N->dg sz N k j+1=sz j):k+1=pr sz 0 N:=by
 rw[<- vl_full h (d:=dg sz N k) N 0 (fun j _ q2=>hf j (by omega)),val_dg h hk]
theorem dg_zero (N i:Nat):dg sz N 0 i=0:=by simp[dg]
theorem vl_diff {d e:Nat->Nat}:∀l a,(vl sz e a l:Int)=vl sz d a l+((List.range l).map fun i=>((e (a+i):Int)-d (a+i))*pr sz (a+i+1) (l-(i+1))).sum
 | 0,a=>by simp[vl]
 | l+1,a=>by
   rw[vl,vl,List.range_succ_eq_map,List.map_cons,List.map_map,List.sum_cons];have h1:=vl_diff (d:=d) (e:=e) l (a+1);have e1:((fun i=>((e (a+i):Int)-d (a+i))*pr sz (a+i+1) (l+1-(i+1))) ∘ Nat.succ)=fun i=>((e (a+1+i):Int)-d (a+1+i))*pr sz (a+1+i+1) (l-(i+1)):=by
    funext i;simp only[Function.comp];rw[show a+i.succ=a+1+i by omega,show l+1-(i.succ+1)=l-(i+1) by omega]
   rw[e1]
   push_cast
   rw[h1];simp only[Nat.add_zero];have:((e a:Int)-d a)*(pr sz (a+1) l:Int)=e a*pr sz (a+1) l-d a*pr sz (a+1) l:=Int.sub_mul _ _ _;rw[this];omega
end Go.Plain.Mx
namespace Go.Proofs.YtobpogkghbakmaaGreatDoor
open Go.Eng Go.Plain
set_option maxRecDepth 100000
set_option linter.unusedVariables false
def loP (p:Pr) (g:G) (v x:Nat):Int:=(bnd g (gV p.vars x) v).1
def hiP (p:Pr) (g:G) (v x:Nat):Int:=(bnd g (gV p.vars x) v).2
def szX (p:Pr) (g:G) (v x:Nat):Nat:=(hiP p g v x-loP p g v x).toNat+1
def szP (p:Pr) (g:G) (i:Nat):Nat:=szX p g (i / p.vars.length) (i % p.vars.length)
abbrev nP (p:Pr) (g:G):Nat:=g.ids.length*p.vars.length
def cntP (p:Pr) (g:G):Nat:=Mx.pr (szP p g) 0 (nP p g)
def dgP (p:Pr) (g:G) (k v x:Nat):Nat:=Mx.dg (szP p g) (nP p g) k (v*p.vars.length+x)
def plP (p:Pr) (g:G) (v x:Nat):Nat:=Mx.pr (szP p g) (v*p.vars.length+x+1) (nP p g-(v*p.vars.length+x+1))
def cfK (p:Pr) (g:G) (k:Nat):Cf:=(List.range g.ids.length).map fun v=>(List.range p.vars.length).map fun x=>loP p g v x+dgP p g k v x
def dgC (p:Pr) (g:G) (c:Cf) (i:Nat):Nat:=(gI (gC c (i / p.vars.length)) (i % p.vars.length)-loP p g (i / p.vars.length) (i % p.vars.length)).toNat
def rkC (p:Pr) (g:G) (c:Cf):Nat:=Mx.vl (szP p g) (dgC p g c) 0 (nP p g)
theorem szP_pos (p:Pr) (g:G) (i:Nat):0<szP p g i:=Nat.succ_pos _
theorem cntP_pos (p:Pr) (g:G):0<cntP p g:=Mx.pr_pos (szP_pos p g) _ _
theorem ix_div {m v x:Nat} (h:x<m):(v*m+x) / m=v:=by
 rw[Nat.mul_comm,Nat.mul_add_div (by omega),Nat.div_eq_of_lt h,Nat.add_zero]
theorem ix_mod {m v x:Nat} (h:x<m):(v*m+x) % m=x:=by
 rw[Nat.mul_comm,Nat.mul_add_mod,Nat.mod_eq_of_lt h]
theorem ix_lt {m n v x:Nat} (hv:v<n) (hx:x<m):v*m+x<n*m:=by
 have:(v+1)*m<=n*m:=Nat.mul_le_mul_right _ hv;rw[Nat.add_mul] at this;omega
theorem ix_of {m n i:Nat} (h:i<n*m):i / m<n/\i % m<m/\i / m*m+i % m=i:=by
 have hm:0<m:=by
  rcases Nat.eq_zero_or_pos m with e|e
  . subst e;simp at h
  . exact e
 exact⟨(Nat.div_lt_iff_lt_mul hm).2 h,Nat.mod_lt _ hm,by rw[Nat.mul_comm];exact Nat.div_add_mod i m⟩
theorem szP_ix (p:Pr) (g:G) {v x:Nat} (hx:x<p.vars.length):szP p g (v*p.vars.length+x)=szX p g v x:=by rw[szP,ix_div hx,ix_mod hx]
theorem lohi_le {p:Pr} (hp:PrOk p) (g:G) (hg:g.valid=true) (v:Nat) {x:Nat} (hx:x<p.vars.length):loP p g v x<=hiP p g v x:=by
 obtain⟨f1,f2,f3,f4,f5,f6,f7⟩:=val_facts hg;have ht:=top_in hg;obtain⟨hk,h1,h2,h3,h4,h5⟩:=hp.var x hx;have m1:=mul_nn h4 ht;have m2:(gV p.vars x).pn*1<=(gV p.vars x).pn*(g.ids.length:Int):=Int.mul_le_mul_of_nonneg_left (by omega) h3.1;rw[loP,hiP,bnd];split
 . simp only;omega
 . split
   . decide
   . simp only;omega
theorem szX_int {p:Pr} (hp:PrOk p) (g:G) (hg:g.valid=true) (v:Nat) {x:Nat} (hx:x<p.vars.length):(szX p g v x:Int)=hiP p g v x-loP p g v x+1:=by
 have:=lohi_le hp g hg v hx;rw[szX];omega
theorem cfK_len (p:Pr) (g:G) (k:Nat):(cfK p g k).length=g.ids.length:=by simp[cfK]
theorem cfK_row (p:Pr) (g:G) (k:Nat) {v:Nat} (hv:v<g.ids.length):gC (cfK p g k) v=(List.range p.vars.length).map fun x=>loP p g v x+dgP p g k v x:=by
 simp[gC,cfK,List.getD,hv]
theorem cfK_get (p:Pr) (g:G) (k:Nat) {v x:Nat} (hv:v<g.ids.length) (hx:x<p.vars.length):gI (gC (cfK p g k) v) x=loP p g v x+dgP p g k v x:=by
 rw[cfK_row p g k hv];simp[gI,List.getD,hx]
theorem dgP_lt (p:Pr) (g:G) (k v:Nat) {x:Nat} (hx:x<p.vars.length):dgP p g k v x<szX p g v x:=by
 have:=Mx.dg_lt (szP_pos p g) (nP p g) k (v*p.vars.length+x)
 rwa[szP_ix p g hx] at this
theorem cfK_conf {p:Pr} (hp:PrOk p) {g:G} (hg:g.valid=true) (k:Nat):Conf p g (cfK p g k):=by
 refine⟨cfK_len p g k,fun v hv=>?_,fun v hv x hx=>?_⟩
 . rw[cfK_len] at hv;rw[cfK_row p g k hv];simp
 . rw[cfK_len] at hv;rw[cfK_get p g k hv hx];have h1:=dgP_lt p g k v hx;have h2:=szX_int hp g hg v hx;have h3:=lohi_le hp g hg v hx;show loP p g v x<=_/\_<=hiP p g v x;omega
theorem dgC_lt {p:Pr} (hp:PrOk p) {g:G} (hg:g.valid=true) {c:Cf} (hc:Conf p g c) (i:Nat) (hi:i<nP p g):dgC p g c i<szP p g i:=by
 obtain⟨h1,h2,h3⟩:=ix_of hi;have hv:=hc.val _ (by rw[hc.len];exact h1) _ h2;change loP p g _ _<=_/\_<=hiP p g _ _ at hv;have h4:=szX_int hp g hg (i / p.vars.length) h2;rw[dgC,szP];omega
theorem rkC_lt {p:Pr} (hp:PrOk p) {g:G} (hg:g.valid=true) {c:Cf} (hc:Conf p g c):rkC p g c<cntP p g :=
 Mx.vl_lt _ _ fun i _ h=>dgC_lt hp hg hc i (by omega)
theorem rk_cfK {p:Pr} {g:G} {k:Nat} (hk:k<cntP p g):rkC p g (cfK p g k)=k:=by
 have e:∀i,0<=i->i<0+nP p g->dgC p g (cfK p g k) i=Mx.dg (szP p g) (nP p g) k i:=fun i _ hi=>by
  obtain⟨h1,h2,h3⟩:=ix_of (show i<g.ids.length*p.vars.length by simpa using hi);rw[dgC,cfK_get p g k h1 h2,dgP,h3];omega
 rw[rkC,Mx.vl_ext _ _ e];exact Mx.val_dg (szP_pos p g) hk
theorem row_ext {a b:List Int} (h1:a.length=b.length) (h2:∀x,x<a.length->gI a x=gI b x):a=b :=
 List.ext_getElem h1 fun i q1 q2=>by
  have:=h2 i q1;simpa[gI,List.getD,q1,q2] using this
theorem cf_ext {a b:Cf} (h1:a.length=b.length) (h2:∀v,v<a.length->gC a v=gC b v):a=b :=
 List.ext_getElem h1 fun i q1 q2=>by
  have:=h2 i q1;simpa[gC,List.getD,q1,q2] using this
theorem cfK_rk {p:Pr} (hp:PrOk p) {g:G} (hg:g.valid=true) {c:Cf} (hc:Conf p g c):cfK p g (rkC p g c)=c:=by
 refine cf_ext (by rw[cfK_len,hc.len]) fun v hv=>?_;rw[cfK_len] at hv;have hr:=hc.row v (by rw[hc.len];exact hv);refine row_ext (by rw[cfK_row p g _ hv,hr];simp) fun x hx=>?_;rw[cfK_row p g _ hv] at hx;simp only[List.length_map,List.length_range] at hx;rw[cfK_get p g _ hv hx,dgP,rkC,Mx.dg_val (szP_pos p g) (fun i hi=>dgC_lt hp hg hc i hi) (ix_lt hv hx),dgC,ix_div hx,ix_mod hx];have:=(hc.val v (by rw[hc.len];exact hv) x hx).1;change loP p g v x<=_ at this;omega
theorem rk_diff (p:Pr) (g:G) (c d:Cf):(rkC p g d:Int)=rkC p g c+((List.range (nP p g)).map fun i=>((dgC p g d i:Int)-dgC p g c i)*Mx.pr (szP p g) (i+1) (nP p g-(i+1))).sum:=by
 have:=Mx.vl_diff (sz:=szP p g) (d:=dgC p g c) (e:=dgC p g d) (nP p g) 0;rw[rkC,rkC];simpa only[Nat.zero_add] using this
theorem sum_rows (f:Nat->Int) (m:Nat):∀n,((List.range (n*m)).map f).sum=((List.range n).map fun v=>((List.range m).map fun x=>f (v*m+x)).sum).sum
 | 0=>by simp
 | n+1=>by
   rw[List.range_succ,List.map_append,List.sum_append,<- sum_rows f m n];have e:(n+1)*m=n*m+m:=by rw[Nat.add_mul];omega
   rw[e];have e2:List.range (n*m+m)=List.range (n*m)++(List.range m).map (n*m+·):=List.range_add;rw[e2,List.map_append,List.sum_append,List.map_map];simp only[List.map_cons,List.map_nil,List.sum_cons,List.sum_nil,Int.add_zero];rfl
def grX (p:Pr) (g:G) (c d:Cf) (v:Nat):Int:=((List.range p.vars.length).map fun x=>(gI (gC d v) x-gI (gC c v) x)*(plP p g v x:Int)).sum
theorem rk_rows {p:Pr} {g:G} {c d:Cf} (hc:Conf p g c) (hd:Conf p g d):(rkC p g d:Int)=rkC p g c+((List.range g.ids.length).map fun v=>grX p g c d v).sum:=by
 rw[rk_diff p g c d,sum_rows];congr 2;refine List.map_congr_left fun v hv=>?_;have hv:=List.mem_range.1 hv;congr 1;refine List.map_congr_left fun x hx=>?_;have hx:=List.mem_range.1 hx;have h1:=(hc.val v (by rw[hc.len];exact hv) x hx).1;have h2:=(hd.val v (by rw[hd.len];exact hv) x hx).1;change loP p g v x<=_ at h1 h2;rw[dgC,dgC,ix_div hx,ix_mod hx,plP];congr 1;omega
end Go.Proofs.YtobpogkghbakmaaGreatDoor
namespace Go.Proofs.YtobpogkghbakmaaGreatDoor
open Go.Eng
set_option maxRecDepth 100000
set_option linter.unusedVariables false
def gN (l:List Nat) (i:Nat):Nat:=l.getD i 0
def vU (l:List Nat):Nat->Nat->V:=fun i _=>.int .u32 (gN l i)
end Go.Proofs.YtobpogkghbakmaaGreatDoor
namespace Go.Proofs.YtobpogkghbakmaaGreatDoor
open Go.Eng
set_option maxRecDepth 100000
set_option linter.unusedVariables false
def sing (e:Nat):Nat->List Nat
 | 0=>[]
 | b+1=>if e.testBit b then sing e b++[2 ^ b] else sing e b
theorem sing_skip {e b:Nat}:∀{v:Nat},b<=v->(∀j,b<=j->j<v->e.testBit j=false)->sing e v=sing e b
 | 0,h,_=>by rw[show b=0 by omega]
 | v+1,h,hz=>by
   by_cases e1:b=v+1
   . rw[e1]
   . rw[sing,hz v (by omega) (by omega),if_neg (by simp)];exact sing_skip (by omega) (fun j a c=>hz j a (by omega))
theorem sing_step {e v:Nat} (h:e.testBit v=true):sing e (v+1)=sing e v++[2 ^ v]:=by rw[sing,if_pos h]
theorem sing_len (e:Nat):∀b,(sing e b).length<=b
 | 0=>Nat.le_refl _
 | b+1=>by have:=sing_len e b;rw[sing];split<;>simp<;>omega
def chs (g:G) (k:Int) (e:Nat):List Nat×Int :=
 if e=0 then ([],0) else if k=1 then (sing e 32,0) else if k=4 then ([e],0) else if cnt e 32 > 10 then ([],3) else ((subs e (lowb e)).filter (okC g k e),0)
def lst (l:List Nat):V:=.fz l.length 1 false (vU l)
theorem getD_appN (l:List Nat) (a i:Nat):List.getD (l++[a]) i 0=if i<l.length then List.getD l i 0 else if i=l.length then a else 0:=by
 by_cases h:i<l.length
 . rw[if_pos h];simp only[List.getD];rw[List.getElem?_append_left h]
 . rw[if_neg h];by_cases e:i=l.length
   . subst e;simp[List.getD]
   . rw[if_neg e];simp[List.getD];rw[List.getElem?_eq_none (by simp;omega)];rfl
theorem vle_appU (l:List Nat) (a:Nat) (x:Int) (hx:x=a) (i j:Nat) (hi:i<(l++[a]).length) (hj:j<1) :
 VLe (fapp (shiftF 0 (vU l)) l.length (shiftF 0 (tab [[.int .u32 x]])) i j) (vU (l++[a]) i j):=by
 apply VLe.of_eq;subst hx;rw[List.length_append] at hi;simp only[List.length_cons,List.length_nil] at hi;by_cases h:i<l.length
 . rw[fapp_lt h];simp only[shiftF,vU,gN,getD_appN,if_pos h]
 . rw[fapp_ge h];have:i=l.length:=by omega
   subst this;obtain rfl:j=0:=by omega
   simp[shiftF,vU,gN,tab]
theorem lst_end (l:List Nat):VLe (.fz l.length 1 false (shiftF 0 (vU l))) (lst l):=by
 refine VLe.fz rfl (fun h=>h) (fun i j hi hj=>VLe.of_eq ?_);simp only[shiftF]
 try simp
set_option maxHeartbeats 8000000 in
theorem nchoices_ok (g:G) (hg:g.valid=true) (k:Int) (e:Nat) (he:e<4294967296) (hp:Part e (full g.ports.length)):RG 100 [.fz g.ports.length 1 false (vNet g),.int .i64 k,.int .u32 e] (.tup [lst (chs g k e).1,.int .i64 (chs g k e).2]):=by
 refine ret_frzG rfl ?_;refine fn_rule mixed Tryz.func100 rfl hc100 hr100 rfl ?_;have hoc:=oc_ok e he;have hneg:bitI .and .u32 (((4294967296-e) % 4294967296:Nat):Int) (e:Int)=(lowb e:Nat):=by
  rw[bit_and (Nat.mod_lt _ (by omega)) he,Nat.and_comm,lowb_neg he]
 by_cases h0:e=0
 . rw[chs,if_pos h0]
   repeat' ((conv=>whnf);first|(refine Br.dec ?_ ?_<;>intro _<;>try omega))
   all_goals (conv=>whnf)
   all_goals exact VLe.tup ⟨VLe.nilfz rfl,VLe.rfl,True.intro⟩
 rw[chs,if_neg h0];by_cases k1:k=1
 . rw[if_pos k1]
   repeat' ((conv=>whnf);first|(refine Br.dec ?_ ?_<;>intro _<;>try omega)|(refine fn_rule mixed Tryz.func101 rfl hc101 hr101 rfl ?_)|(refine range_rule ?_)|(refine Chk.mk (by kernel_rfl) ?_)|(refine fn_rule mixed Tryz.func136 rfl hc136 hr136 rfl ?_))
   all_goals (conv=>whnf)
   refine loop_u mixed [0,1] [3] [4,5,6,7,8,9,10,11,12,13,14,15,16,17,18,19,20,21,22,23,24,25,26,27,28,29] [3,2,1,0,999] (fun b:Nat=>[]) (fun own b=>(3,.vec (sing e b).length 1 (vU (sing e b)))::updO (updO own 0 (.cells [.vec 3 1 0 (sing e b).length])) 1 (.cells [.int .u32 (upS e b)])) (fun m b=>m=32-b/\b<=32) 32 0 ⟨rfl,by omega⟩ rfl (fun _=>rfl) ?_ ?_
   . have hx:=upS_zero he;refine weak_by (fun _ _=>[(0,some 0),(1,some 1),(2,some 2),(3,none),(999,some 999)]) ?_ ?_ rfl
     . repeat' (first|exact VRen.yld rfl|exact True.intro|(refine⟨⟨_,rfl,?_⟩,?_⟩)|exact VRen.loc rfl)
     . repeat' (first|exact VRen.int (by rw[hx])|(refine VRen.fn ?_)|(refine⟨rfl,rfl,rfl,rfl,rfl,?_⟩)|exact True.intro|exact⟨rfl,rfl,rfl⟩|(refine⟨⟨_,rfl,?_⟩,?_⟩)|exact VRen.kf rfl|exact VRen.loc rfl|exact VRen.nil rfl rfl|(refine⟨⟨_,_,rfl⟩,?_⟩)|(refine And.intro ?_ ?_))
   rintro m b ⟨hm,hb⟩;have hul:=upS_lt e b;have hsl:=sing_len e b;by_cases hu:upS e b=0
   . repeat' ((conv=>whnf);first|(refine Br.bne ?_ ?_<;>intro _<;>try omega)|(refine Len.mk (by omega) ?_))
     all_goals (conv=>whnf)
     have hx:sing e 32=sing e b:=sing_skip hb (fun j hj _=>upS_end he hu j hj);show VLe _ (V.tup [lst (sing e 32),V.int IntKind.i64 0]);rw[hx];exact VLe.tup ⟨lst_end _,VLe.rfl,True.intro⟩
   . obtain⟨v1,v2,v3,v4,v5⟩:=upS_next he hu;have htz:=tz_ok _ hu hul;have hr:bitI .and .u32 ((upS e b:Nat):Int) ((upS e b:Nat)-1:Int)=((upS e (ctz (upS e b)+1):Nat):Int):=by
      rw[<- v5,show((upS e b:Nat):Int)-1=((upS e b-1:Nat):Int) by omega,bit_and hul (by omega)]
     generalize ctz (upS e b)=v at *;have hsg:sing e (v+1)=sing e b++[2 ^ v]:=by rw[sing_step v3,sing_skip v2 v4]
     repeat' ((conv=>whnf);first|(refine Br.tt ?_)|(refine Br.bne ?_ ?_<;>intro _<;>try omega)|(refine Br.nbeq ?_ ?_<;>intro _<;>try omega)|(refine Ar.u32 (by omega) (by omega) ?_)|(refine Ar.sh1 (by omega) ?_)|(refine Sv.mk _ rfl ?_)|(refine Nn.mk (by omega) ?_)|(refine Len.mk (by omega) ?_)|(refine htz.gog ?_)|(refine yield_rule mixed rfl rfl ?_))
     all_goals (conv=>whnf)
     all_goals
      refine⟨32-(v+1),v+1,by omega,⟨rfl,by omega⟩,?_⟩;simp only[hsg];refine weak_by (fun env own=>[(0,some 0),(1,some 1),(2,some 2),(3,ckeyo own 0 0),(999,some 999)]) ?_ ?_ rfl
      . repeat' (first|exact VRen.yld rfl|exact True.intro|(refine⟨⟨_,rfl,?_⟩,?_⟩)|exact VRen.loc rfl)
      . repeat' (first|exact VRen.int hr|exact VRen.vec rfl rfl (by rw[List.length_append];rfl)|(refine⟨by rw[List.length_append];exact Nat.le_refl _,rfl,fun i j hi hj=>?_⟩)|exact vle_appU _ _ _ rfl _ _ hi hj|(refine VRen.fn ?_)|(refine⟨rfl,rfl,rfl,rfl,rfl,?_⟩)|exact True.intro|exact⟨rfl,rfl,rfl⟩|(refine⟨⟨_,rfl,?_⟩,?_⟩)|exact VRen.kf rfl|exact VRen.loc rfl|(refine And.intro ?_ ?_))
 rw[if_neg k1];by_cases k4:k=4
 . rw[if_pos k4]
   repeat' ((conv=>whnf);first|(refine Br.dec ?_ ?_<;>intro _<;>try omega)|(refine Len.mk (by omega) ?_))
   all_goals (conv=>whnf)
   all_goals
    refine VLe.tup ⟨VLe.fz rfl (fun h=>h) (fun i j hi hj=>?_),VLe.rfl,True.intro⟩;obtain rfl:i=0:=by omega
    obtain rfl:j=0:=by omega
    exact VLe.rfl
 rw[if_neg k4];have hcl:=cnt_le e 32;by_cases hc:cnt e 32 > 10
 . rw[if_pos hc]
   repeat' ((conv=>whnf);first|(refine Br.dec ?_ ?_<;>intro _<;>try omega)|(refine hoc.go ?_))
   all_goals (conv=>whnf)
   all_goals exact VLe.tup ⟨VLe.nilfz rfl,VLe.rfl,True.intro⟩
 rw[if_neg hc]
 repeat' ((conv=>whnf);first|(refine Ar.neg32 he ?_)|(refine Sv.mk _ hneg.symm ?_)|(refine Br.dec ?_ ?_<;>intro _<;>try omega)|(refine hoc.go ?_))
 all_goals (conv=>whnf)
 refine loop_u mixed [0,1,2,8] [1] [2,3,4,5,6,7,8,9,10,11,12,13,14,15,16,17,18,19,20,21,22,23,24,25,26,27,28,29] [1,0,999] (fun p:Nat×List Nat=>[(10,.int .u32 p.1)]) (fun own p=>(1,.vec p.2.length 1 (vU p.2))::updO own 0 (.cells [.vec 1 1 0 p.2.length])) (fun m p=>m=(if p.1=0 then 0 else 4294967297-p.1)/\Part p.1 e/\p.2++(subs e p.1).filter (okC g k e)=(subs e (lowb e)).filter (okC g k e)/\p.2.length<=4294967296/\(p.1≠0->p.2.length<p.1)) _ (lowb e,[]) ⟨rfl,lowb_part he,rfl,by simp,fun h=>by simp only[List.length_nil];omega⟩ rfl (fun _=>rfl) ?_ ?_
 . exact weak_b (fun _ _=>[(0,some 0),(1,none),(999,some 999)])
 rintro m ⟨s,acc⟩ ⟨hm,hps,htot,hl1,hl2⟩;simp only at hm hps htot hl1 hl2;have hse:=hps.le;by_cases hs0:s=0
 . repeat' ((conv=>whnf);first|(refine Br.bne ?_ ?_<;>intro _<;>try omega)|(refine Len.mk (by omega) ?_))
   all_goals (conv=>whnf)
   subst hs0;rw[subs_zero,List.filter_nil,List.append_nil] at htot;show VLe _ (V.tup [lst ((subs e (lowb e)).filter (okC g k e)),V.int IntKind.i64 0]);rw[<- htot];exact VLe.tup ⟨lst_end _,VLe.rfl,True.intro⟩
 . have hpm:=npermits_ok g hg k e s he (by omega) hp;have hin:inner g k e s=okC g k e s:=by
    rw[inner,decide_eq_true ⟨hs0,(part_iff (by omega)).2 hps⟩,Bool.true_and]
   rw[hin] at hpm;have hsub:=subs_cons he hps hs0;have hnx:bitI .and .u32 (((4294967296+s-e) % 4294967296:Nat):Int) (e:Int)=(nxt e s:Nat):=by
    rw[bit_and (Nat.mod_lt _ (by omega)) he];rfl
   have hgt:nxt e s=0\/s<nxt e s:=by
    by_cases h:s=e
    . subst h;exact .inl (nxt_self he)
    . exact .inr (nxt_gt he hps h)
   have hnp:=nxt_part e s;have hnl:=nxt_lt (s:=s) he;have hl3:=hl2 hs0;cases hok:okC g k e s with
   | true =>
     rw[hok] at hpm;rw[hsub,List.filter_cons_of_pos (by rw[hok])] at htot
     repeat' ((conv=>whnf);first|(refine Ar.sub32 (by omega) he ?_)|(refine Sv.mk _ hnx.symm ?_)|(refine Br.tt ?_)|(refine Br.bne ?_ ?_<;>intro _<;>try omega)|(refine Br.nbeq ?_ ?_<;>intro _<;>try omega)|(refine Len.mk (by omega) ?_)|(refine Len.mk (by simp only[List.length_cons,List.length_nil];omega) ?_)|(refine hpm.gog ?_))
     all_goals (conv=>whnf)
     all_goals
      refine⟨_,(nxt e s,acc++[s]),?_,⟨rfl,hnp,by rw[<- htot];simp,by simp;omega,fun h=>by simp at h ⊢;omega⟩,?_⟩
      . simp only;rw[hm,if_neg hs0];split<;>omega
      . refine weak_by (fun env own=>[(0,some 0),(1,ckeyo own 0 0),(999,some 999)]) ?_ ?_ rfl
        . repeat' (first|exact True.intro|(refine⟨⟨_,rfl,?_⟩,?_⟩)|exact VRen.kf rfl|exact VRen.loc rfl)
        . repeat' (first|exact VRen.vec rfl rfl (by rw[List.length_append];rfl)|(refine⟨by rw[List.length_append];exact Nat.le_refl _,rfl,fun i j hi hj=>?_⟩)|exact vle_appU _ _ _ rfl _ _ hi hj|exact True.intro|exact⟨rfl,rfl,rfl⟩|(refine⟨⟨_,rfl,?_⟩,?_⟩)|(refine And.intro ?_ ?_))
   | false =>
     rw[hok] at hpm;rw[hsub,List.filter_cons_of_neg (by rw[hok];simp)] at htot
     repeat' ((conv=>whnf);first|(refine Ar.sub32 (by omega) he ?_)|(refine Sv.mk _ hnx.symm ?_)|(refine Br.ff ?_)|(refine Br.bne ?_ ?_<;>intro _<;>try omega)|(refine hpm.gog ?_))
     all_goals (conv=>whnf)
     all_goals
      refine⟨_,(nxt e s,acc),?_,⟨rfl,hnp,htot,hl1,fun h=>by simp only at h ⊢;omega⟩,?_⟩
      . simp only;rw[hm,if_neg hs0];split<;>omega
      . exact weak_b (fun env own=>[(0,some 0),(1,ckeyo own 0 0),(999,some 999)])
end Go.Proofs.YtobpogkghbakmaaGreatDoor
namespace Go.Proofs.YtobpogkghbakmaaGreatDoor
open Go.Eng
set_option maxRecDepth 100000
set_option linter.unusedVariables false
theorem subs_len {E:Nat} (hE:E<4294967296):∀f s,Part s E->E-s<=f->(subs E s).length<=f+1
 | f,s,hp,hf=>by
   by_cases h0:s=0
   . subst h0;rw[subs_zero];simp
   . rw[subs_cons hE hp h0,List.length_cons];by_cases hs:s=E
     . subst hs;rw[nxt_self hE,subs_zero];simp
     . have h1:=nxt_gt hE hp hs;have h2:=hp.le;cases f with
       | zero=>omega
       | succ f=>have:=subs_len hE f _ (nxt_part E s) (by have:=(nxt_part E s).le;omega);omega
end Go.Proofs.YtobpogkghbakmaaGreatDoor
