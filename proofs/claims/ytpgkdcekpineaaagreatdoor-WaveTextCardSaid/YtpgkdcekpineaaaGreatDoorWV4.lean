import Derived.Test.YtpgkdcekpineaaaGreatDoorLFD
import Derived.Test.YtpgkdcekpineaaaGreatDoorSV1
import Derived.Test.YtpgkdcekpineaaaGreatDoorEngZ
namespace Go.Plain
abbrev St:=Nat→Bool
structure Adj (n:Nat) (a:Nat→Nat→Bool):Prop where
 sym:∀ u v,u < n→v < n→a u v = true→a v u = true
 irr:∀ v,v < n→a v v = false
 rng:∀ u v,u < n→a u v = true→v < n
def nbM (n:Nat) (a:Nat→Nat→Bool) (m:St) (v:Nat):Bool:=(List.range n).any fun u=>a v u && m u
theorem nbM_iff {n:Nat} {a:Nat→Nat→Bool} {m:St} {v:Nat}:nbM n a m v = true↔∃ u,u < n∧a v u = true∧m u = true:=by
 simp only [nbM,List.any_eq_true,List.mem_range,Bool.and_eq_true]
def enI (n:Nat) (a:Nat→Nat→Bool) (m:St) (v:Nat):Bool:=match m v with | true=>nbM n a m v | false=>!nbM n a m v
def cfl (n:Nat) (a:Nat→Nat→Bool) (m:St) (v:Nat):Bool:=m v && nbM n a m v
def stI (s m:St):St:=fun v=>match s v with | true=>!m v | false=>m v
structure Chs (n:Nat) (a:Nat→Nat→Bool) (m s:St):Prop where
 en:∀ v,s v = true→v < n∧enI n a m v = true
 ind:∀ u v,s u = true→s v = true→a u v = false
variable {n:Nat} {a:Nat→Nat→Bool} {m s:St}
theorem enter_free (ha:Adj n a) (hc:Chs n a m s) {v:Nat} (hs:s v = true) (hm:m v = false):stI s m v = true∧nbM n a (stI s m) v = false:=by
 obtain ⟨hv,he⟩:=hc.en v hs;refine ⟨by simp [stI,hs,hm],?_⟩;rw [Bool.eq_false_iff];intro h;obtain ⟨u,hu,h1,h2⟩:=nbM_iff.1 h;have hsu:s u = false:=by
  cases e:s u with
  | false=>rfl
  | true=>have:=hc.ind v u hs e;rw [h1] at this;cases this
 simp only [stI,hsu] at h2;simp only [enI,hm,Bool.not_eq_true'] at he;rw [nbM_iff.2 ⟨u,hu,h1,h2⟩] at he;cases he
theorem cfl_back (ha:Adj n a) (hc:Chs n a m s) {v:Nat} (hv:v < n) (h:cfl n a (stI s m) v = true):cfl n a m v = true∧s v = false:=by
 simp only [cfl,Bool.and_eq_true] at h;have hold:∀ w,w < n→stI s m w = true→nbM n a (stI s m) w = true→m w = true∧s w = false:=fun w hw h1 h2=>by
  cases e:s w with
  | true =>
    cases em:m w with
    | false=>rw [(enter_free ha hc e em).2] at h2;cases h2
    | true=>simp [stI,e,em] at h1
  | false =>
    simp only [stI,e] at h1;exact ⟨h1,rfl⟩
 obtain ⟨h1,h2⟩:=h;obtain ⟨u,hu,h3,h4⟩:=nbM_iff.1 h2;have hb:=hold v hv h1 h2;have hb2:=hold u hu h4 (nbM_iff.2 ⟨v,hv,ha.sym v u hv hu h3,h1⟩);exact ⟨by simp only [cfl,Bool.and_eq_true];exact ⟨hb.1,nbM_iff.2 ⟨u,hu,h3,hb2.1⟩⟩,hb.2⟩
theorem cfl_en {v:Nat} (h:cfl n a m v = true):enI n a m v = true:=by
 simp only [cfl,Bool.and_eq_true] at h;simp only [enI,h.1,h.2]
theorem stay (hn:∀ v,v < n→cfl n a m v = false) (hc:Chs n a m s) {v:Nat} (hv:v < n) (hm:m v = true):stI s m v = true:=by
 cases e:s v with
 | false=>simp [stI,e,hm]
 | true =>
   obtain ⟨_,he⟩:=hc.en v e;simp only [enI,hm] at he;have:=hn v hv;simp [cfl,hm,he] at this
theorem en_back (hn:∀ v,v < n→cfl n a m v = false) (hn2:∀ v,v < n→cfl n a (stI s m) v = false) (hc:Chs n a m s) {v:Nat} (hv:v < n) (h:enI n a (stI s m) v = true):enI n a m v = true∧s v = false:=by
 have hm':stI s m v = false:=by
  cases e:stI s m v with
  | false=>rfl
  | true =>
    simp only [enI,e] at h;have:=hn2 v hv;simp [cfl,e,h] at this
 have hm:m v = false:=by
  cases e:m v with
  | false=>rfl
  | true=>rw [stay hn hc hv e] at hm';cases hm'
 have hs:s v = false:=by
  cases e:s v with
  | false=>rfl
  | true=>simp [stI,e,hm] at hm'
 refine ⟨?_,hs⟩;simp only [enI,hm',Bool.not_eq_true'] at h;simp only [enI,hm,Bool.not_eq_true'];rw [Bool.eq_false_iff] at h ⊢;intro hb;obtain ⟨u,hu,h3,h4⟩:=nbM_iff.1 hb;exact h (nbM_iff.2 ⟨u,hu,h3,stay hn hc hu h4⟩)
structure IInv (n:Nat) (a:Nat→Nat→Bool) (m p:St) (r:Nat):Prop where
 r0:r = 0→∀ v,v < n→cfl n a m v = true→p v = true
 r1:1≤r→∀ v,v < n→cfl n a m v = false
 r2:r = 1→∀ v,v < n→enI n a m v = true→p v = true
 r3:2≤r→∀ v,v < n→enI n a m v = false
def left (n:Nat) (a:Nat→Nat→Bool) (m p s:St):St:=fun v=>p v && !s v && enI n a (stI s m) v
theorem IInv.start:IInv n a m (enI n a m) 0:=⟨fun _ v _ h=>cfl_en h,fun h=>by omega,fun h=>by omega,fun h=>by omega⟩
theorem IInv.same (ha:Adj n a) (hc:Chs n a m s) {p:St} {r:Nat} (h:IInv n a m p r) (hr:r≤1):IInv n a (stI s m) (left n a m p s) r:=by
 refine ⟨fun e v hv hf=>?_,fun e v hv=>?_,fun e v hv he=>?_,fun e=>by omega⟩
 . obtain ⟨h1,h2⟩:=cfl_back ha hc hv hf;simp [left,h.r0 e v hv h1,h2,cfl_en hf]
 . cases hf:cfl n a (stI s m) v with
   | false=>rfl
   | true=>have:=h.r1 e v hv;rw [(cfl_back ha hc hv hf).1] at this;cases this
 . have hn2:∀ v,v < n→cfl n a (stI s m) v = false:=fun v hv=>by
    cases hf:cfl n a (stI s m) v with
    | false=>rfl
    | true=>have:=h.r1 (by omega) v hv;rw [(cfl_back ha hc hv hf).1] at this;cases this
   obtain ⟨h1,h2⟩:=en_back (h.r1 (by omega)) hn2 hc hv he;simp [left,h.r2 e v hv h1,h2,he]
theorem IInv.next (ha:Adj n a) (hc:Chs n a m s) {p:St} {r:Nat} (h:IInv n a m p r) (hr:r≤1) (h0:∀ v,v < n→left n a m p s v = false):IInv n a (stI s m) (enI n a (stI s m)) (r + 1):=by
 have hs:=h.same ha hc hr;refine ⟨fun e=>by omega,fun _ v hv=>?_,fun _ v hv he=>he,fun e v hv=>?_⟩
 . cases hf:cfl n a (stI s m) v with
   | false=>rfl
   | true =>
     rcases (show r = 0∨1≤r by omega) with e | e
     . have:=hs.r0 e v hv hf;rw [h0 v hv] at this;cases this
     . rw [hs.r1 e v hv] at hf;cases hf
 . cases he:enI n a (stI s m) v with
   | false=>rfl
   | true=>have:=hs.r2 (by omega) v hv he;rw [h0 v hv] at this;cases this
end Go.Plain
namespace Go.Proofs.YtpgkdcekpineaaaGreatDoor
open Go.Eng
set_option maxRecDepth 100000
set_option linter.unusedVariables false
end Go.Proofs.YtpgkdcekpineaaaGreatDoor
namespace Go.Proofs.YtpgkdcekpineaaaGreatDoor
open Go.Eng
set_option maxRecDepth 100000
set_option linter.unusedVariables false
theorem lenN_le:∀ {l m:List Nat},l.Nodup→(∀ a∈l,a∈m)→l.length≤m.length
 | [],m,_,_=>Nat.zero_le _
 | a :: l,m,hn,hs=>by
   rw [List.nodup_cons] at hn;have ham:=hs a (by simp);have h1:=lenN_le (l:=l) (m:=m.erase a) hn.2 (fun b hb=>(List.mem_erase_of_ne (fun e=>hn.1 (by rw [← e];exact hb))).2 (hs b (by simp [hb])));have h2:=List.length_erase_of_mem ham;have h3:=List.length_pos_of_mem ham;simp only [List.length_cons];omega
abbrev Pt:=List (List (Int × Int))
def toN (p:Pt) (v i:Nat):Nat:=(gF (gR p v) i).1.toNat
def lay (p:Pt) (f:Nat):Nat→Nat→Int
 | 0,v=>if v = f then 0 else -1
 | k + 1,v=>if 0≤lay p f k v then lay p f k v else if (gR p v).any (fun l=>decide (lay p f k l.1.toNat = k)) then (k:Int) + 1 else -1
structure Found (p:Pt) (f:Nat) (r:Nat→Int):Prop where
 low:∀ v,v < p.length→-1≤r v
 from_:r f = 0
 back:∀ v,v < p.length→v≠f→0≤r v→∃ l∈gR p v,r l.1.toNat = r v - 1∧0≤r l.1.toNat
 on:∀ v,v < p.length→0≤r v→∀ l∈gR p v,0≤r l.1.toNat∧r l.1.toNat≤r v + 1
structure Und (p:Pt):Prop where
 rng:∀ v,v < p.length→∀ l∈gR p v,l.1.toNat < p.length
 sym:∀ v,v < p.length→∀ l∈gR p v,∃ m∈gR p l.1.toNat,m.1.toNat = v
theorem Found.at_ {p:Pt} {f:Nat} {r:Nat→Int} (hu:Und p) (h:Found p f r) (hf:f < p.length):∀ k v,v < p.length→lay p f k v = if 0≤r v∧r v≤k then r v else -1
 | 0,v,hv=>by
   simp only [lay];by_cases e:v = f
   . subst e;rw [if_pos rfl,h.from_];simp
   . rw [if_neg e];by_cases h0:0≤r v
     . obtain ⟨l,_,h1,h2⟩:=h.back v hv e h0;rw [if_neg (by omega)]
     . rw [if_neg (by omega)]
 | k + 1,v,hv=>by
   have ih:=fun v hv=>Found.at_ hu h hf k v hv;have hl:=h.low v hv;rw [lay];by_cases h0:0≤r v∧r v≤k
   . have e1:lay p f k v = r v:=by rw [ih v hv,if_pos h0]
     rw [e1,if_pos h0.1];exact (if_pos ⟨h0.1,by omega⟩).symm
   . have e1:lay p f k v = -1:=by rw [ih v hv,if_neg h0]
     rw [e1,if_neg (by decide)];by_cases h1:0≤r v∧r v = k + 1
     . have hvf:v≠f:=fun e=>by subst e;rw [h.from_] at h1;omega
       obtain ⟨l,hl,q1,q2⟩:=h.back v hv hvf h1.1;have ha:(gR p v).any (fun l=>decide (lay p f k l.1.toNat = k)) = true:=by
        rw [List.any_eq_true];refine ⟨l,hl,decide_eq_true ?_⟩;rw [ih _ (hu.rng v hv l hl),if_pos ⟨q2,by omega⟩];omega
       rw [if_pos ha];refine Eq.trans ?_ (if_pos ⟨h1.1,by omega⟩).symm;omega
     . refine Eq.trans (if_neg ?_) (if_neg (show ¬ (0≤r v∧r v≤((k + 1:Nat):Int)) by omega)).symm;intro ha;rw [List.any_eq_true] at ha;obtain ⟨l,hl,e⟩:=ha;have e:=of_decide_eq_true e;have hlr:=hu.rng v hv l hl;rw [ih _ hlr] at e;split at e
       . rename_i h2;obtain ⟨m,hm,em⟩:=hu.sym v hv l hl;obtain ⟨q1,q2⟩:=h.on _ hlr h2.1 m hm;rw [em] at q1 q2;omega
       . omega
theorem Found.lt {p:Pt} {f:Nat} {r:Nat→Int} (hu:Und p) (h:Found p f r) {v:Nat} (hv:v < p.length):r v < p.length:=by
 have key:∀ m:Nat,∀ v,v < p.length→r v = m→∃ l:List Nat,l.length = m + 1∧l.Nodup∧(∀ u∈l,u < p.length)∧∀ u∈l,r u≤m:=by
  intro m
  induction m with
  | zero=>intro v hv e;exact ⟨[v],rfl,by simp,by simpa using hv,by simp;omega⟩
  | succ m ih =>
    intro v hv e;have hvf:v≠f:=fun x=>by subst x;rw [h.from_] at e;omega
    obtain ⟨l,hl,q1,q2⟩:=h.back v hv hvf (by omega);obtain ⟨L,l1,l2,l3,l4⟩:=ih _ (hu.rng v hv l hl) (by omega);refine ⟨v :: L,by simp [l1],List.nodup_cons.2 ⟨fun hm=>?_,l2⟩,?_,?_⟩
    . have:=l4 v hm;omega
    . intro u hu;rcases List.mem_cons.1 hu with rfl | hu
      . exact hv
      . exact l3 u hu
    . intro u hu;rcases List.mem_cons.1 hu with rfl | hu
      . omega
      . have:=l4 u hu;omega
 rcases Int.lt_or_le (r v) 0 with h0 | h0
 . omega
 . obtain ⟨L,l1,l2,l3,_⟩:=key (r v).toNat v hv (by omega);have:L.length≤(List.range p.length).length:=lenN_le l2 (fun u hu=>List.mem_range.2 (l3 u hu));rw [l1,List.length_range] at this;omega
theorem Found.eq {p:Pt} {f:Nat} {r:Nat→Int} (hu:Und p) (h:Found p f r) (hf:f < p.length) {v:Nat} (hv:v < p.length):lay p f (p.length - 1) v = r v:=by
 have h1:=h.lt hu hv;have h2:=h.low v hv;rw [h.at_ hu hf _ v hv];split
 . rfl
 . omega
def cntU (p:Nat→Bool):Nat→Nat
 | 0=>0
 | n + 1=>cntU p n + if p n then 1 else 0
theorem cntU_ext {p q:Nat→Bool}:∀ {n:Nat},(∀ v,v < n→p v = q v)→cntU p n = cntU q n
 | 0,_=>rfl
 | n + 1,h=>by
   have h1:=cntU_ext (n:=n) fun v hv=>h v (by omega);simp only [cntU,h1,h n (by omega)]
theorem cntU_one {p q:Nat→Bool} {u:Nat} (hp:p u = true) (hq:q u = false) (h:∀ v,v≠u→p v = q v):∀ {n:Nat},u < n→cntU p n = cntU q n + 1
 | n + 1,hn=>by
   simp only [cntU];by_cases e:u = n
   . subst e;rw [cntU_ext (fun v hv=>h v (by omega)),hp,hq];simp
   . rw [cntU_one hp hq h (n:=n) (by omega),h n (fun x=>e x.symm)];omega
def unv (r:List Int) (n:Nat):Nat:=cntU (fun v=>decide (gI r v < 0)) n
theorem gI_set (r:List Int) (u v:Nat) (d:Int) (hu:u < r.length):gI (r.set u d) v = if v = u then d else gI r v:=by
 simp only [gI,List.getD,List.getElem?_set];by_cases h:u = v
 . subst h;simp [hu]
 . have:¬ v = u:=fun e=>h e.symm;simp [h,this]
structure BI (p:Pt) (f:Nat) (q:List Nat) (r:List Int):Prop where
 len:r.length = p.length
 low:∀ v,v < p.length→-1≤gI r v
 from_:gI r f = 0
 back:∀ v,v < p.length→v≠f→0≤gI r v→∃ l∈gR p v,gI r l.1.toNat = gI r v - 1∧0≤gI r l.1.toNat
 qn:∀ u∈q,u < p.length∧0≤gI r u
 sorted:q.Pairwise fun a b=>gI r a≤gI r b
structure BO (p:Pt) (f:Nat) (q:List Nat) (r:List Int):Prop extends BI p f q r where
 top:∀ u∈q,∀ v,v < p.length→gI r v≤gI r u + 1
 done:∀ v,v < p.length→0≤gI r v→v ∉ q→∀ l∈gR p v,0≤gI r l.1.toNat∧gI r l.1.toNat≤gI r v + 1
structure BP (p:Pt) (f v i:Nat) (q:List Nat) (r:List Int):Prop extends BI p f q r where
 vn:v < p.length∧0≤gI r v
 most:∀ x,x < p.length→gI r x≤gI r v + 1
 least:∀ u∈q,gI r v≤gI r u
 done:∀ x,x < p.length→0≤gI r x→x ∉ q→x≠v→∀ l∈gR p x,0≤gI r l.1.toNat∧gI r l.1.toNat≤gI r x + 1
 seen:∀ l∈(gR p v).take i,0≤gI r l.1.toNat
theorem BO.pop {p:Pt} {f v:Nat} {q:List Nat} {r:List Int} (h:BO p f (v :: q) r):BP p f v 0 q r where
 len:=h.len
 low:=h.low
 from_:=h.from_
 back:=h.back
 qn:=fun u hu=>h.qn u (by simp [hu])
 sorted:=(List.pairwise_cons.1 h.sorted).2
 vn:=h.qn v (by simp)
 most:=h.top v (by simp)
 least:=(List.pairwise_cons.1 h.sorted).1
 done:=fun x hx h0 hq hv=>h.done x hx h0 (by simp only [List.mem_cons,not_or];exact ⟨hv,hq⟩)
 seen:=by simp
theorem BP.fin {p:Pt} {f v i:Nat} {q:List Nat} {r:List Int} (hu:Und p) (h:BP p f v i q r) (hi:(gR p v).length≤i):BO p f q r where
 toBI:=h.toBI
 top:=fun u hu x hx=>by have:=h.least u hu;have:=h.most x hx;omega
 done:=fun x hx h0 hq=>by
  by_cases e:x = v
  . subst e;intro l hl;refine ⟨h.seen l (by rw [List.take_of_length_le hi];exact hl),h.most _ (hu.rng x hx l hl)⟩
  . exact h.done x hx h0 hq e
theorem BP.skip {p:Pt} {f v i:Nat} {q:List Nat} {r:List Int} (h:BP p f v i q r) (hi:i < (gR p v).length) (h0:0≤gI r (toN p v i)):BP p f v (i + 1) q r where
 toBI:=h.toBI
 vn:=h.vn
 most:=h.most
 least:=h.least
 done:=h.done
 seen:=fun l hl=>by
  rw [gF_take _ i hi] at hl;rcases List.mem_append.1 hl with h1 | h1
  . exact h.seen l h1
  . simp at h1;rw [h1];exact h0
theorem BP.visit {p:Pt} {f v i:Nat} {q:List Nat} {r:List Int} (hu:Und p) (h:BP p f v i q r) (hi:i < (gR p v).length) (h0:gI r (toN p v i) < 0) :
 BP p f v (i + 1) (q ++ [toN p v i]) (r.set (toN p v i) (gI r v + 1))∧unv r p.length = unv (r.set (toN p v i) (gI r v + 1)) p.length + 1:=by
 obtain ⟨hv,hv0⟩:=h.vn;have hun:toN p v i < p.length:=hu.rng v hv _ (gF_mem hi);obtain ⟨m,hm,hmv⟩:=hu.sym v hv _ (gF_mem hi);have hg:=fun x=>gI_set r (toN p v i) x (gI r v + 1) (by rw [h.len];exact hun);change m∈gR p (toN p v i) at hm;have hlast:(gF (gR p v) i).1.toNat = toN p v i:=rfl;generalize toN p v i = u at *;have hvu:v≠u:=fun e=>by subst e;omega
 have keep:∀ x,0≤gI r x→gI (r.set u (gI r v + 1)) x = gI r x:=fun x hx=>by
  rw [hg,if_neg (fun e=>by subst e;omega)]
 have hle:∀ x,x < p.length→gI (r.set u (gI r v + 1)) x≤gI r v + 1:=fun x hx=>by
  rw [hg];split
  . omega
  . exact h.most x hx
 refine ⟨{ len:=by simp [h.len],low:=?_,from_:=?_,back:=?_,qn:=?_,sorted:=?_,vn:=?_,most:=?_,least:=?_,done:=?_,seen:=?_ },?_⟩
 . intro x hx;rw [hg];split
   . omega
   . exact h.low x hx
 . rw [keep f (by rw [h.from_];omega)];exact h.from_
 . intro x hx hxf hx0;by_cases e:x = u
   . subst e;refine ⟨m,hm,?_⟩;rw [hmv,keep v hv0,hg,if_pos rfl];omega
   . rw [hg,if_neg e] at hx0 ⊢;obtain ⟨l,hl,a,b⟩:=h.back x hx hxf hx0;exact ⟨l,hl,by rw [keep _ b];exact a,by rw [keep _ b];exact b⟩
 . intro w hw;rcases List.mem_append.1 hw with h1 | h1
   . obtain ⟨a,b⟩:=h.qn w h1;exact ⟨a,by rw [keep w b];exact b⟩
   . simp at h1;subst h1;exact ⟨hun,by rw [hg,if_pos rfl];omega⟩
 . rw [List.pairwise_append];refine ⟨h.sorted.imp_of_mem fun {a b} ha hb hab=>?_,by simp,fun a ha b hb=>?_⟩
   . rw [keep a (h.qn a ha).2,keep b (h.qn b hb).2];exact hab
   . simp at hb;subst hb;rw [keep a (h.qn a ha).2,hg,if_pos rfl];exact h.most a (h.qn a ha).1
 . exact ⟨hv,by rw [keep v hv0];exact hv0⟩
 . intro x hx;rw [keep v hv0];exact hle x hx
 . intro w hw;rw [keep v hv0];rcases List.mem_append.1 hw with h1 | h1
   . rw [keep w (h.qn w h1).2];exact h.least w h1
   . simp at h1;subst h1;rw [hg,if_pos rfl];omega
 . intro x hx hx0 hq hxv l hl;have hxu:x≠u:=fun e=>hq (by simp [e]);rw [hg,if_neg hxu] at hx0;rw [keep x hx0];obtain ⟨a,b⟩:=h.done x hx hx0 (fun e=>hq (by simp [e])) hxv l hl;rw [keep _ a];exact ⟨a,b⟩
 . intro l hl;rw [gF_take _ i hi] at hl;rcases List.mem_append.1 hl with h1 | h1
   . rw [keep _ (h.seen l h1)];exact h.seen l h1
   . simp at h1;rw [h1,hlast,hg,if_pos rfl];omega
 . refine cntU_one (u:=u) (by simpa using h0) (by rw [hg,if_pos rfl];simp;omega) (fun x hx=>?_) hun;show decide _ = decide _;rw [hg,if_neg hx]
theorem BO.found {p:Pt} {f:Nat} {r:List Int} (h:BO p f [] r):Found p f (gI r) where
 low:=h.low
 from_:=h.from_
 back:=h.back
 on:=fun v hv h0 l hl=>h.done v hv h0 (by simp) l hl
end Go.Proofs.YtpgkdcekpineaaaGreatDoor
namespace Go.Proofs.YtpgkdcekpineaaaGreatDoor
open Go.Eng
set_option maxRecDepth 100000
set_option linter.unusedVariables false
theorem und_of {g:G} (hg:g.valid = true):Und g.ports:=by
 obtain ⟨f1,f2,f3,f4,f5,f6,f7⟩:=val_facts hg;refine ⟨fun v hv l hl=>?_,fun v hv l hl=>⟨_,f7 v hv l hl,by simp⟩⟩;have h:=f6 v hv;rw [okR,Bool.and_eq_true,List.all_eq_true] at h;have:=h.1 _ hl;rw [okL,decide_eq_true_eq] at this;omega
def dst (g:G) (f:Nat):List Int:=(List.range g.ports.length).map (lay g.ports f (g.ports.length - 1))
theorem dst_len (g:G) (f:Nat):(dst g f).length = g.ports.length:=by simp [dst]
theorem dst_get (g:G) (f:Nat) {v:Nat} (hv:v < g.ports.length):gI (dst g f) v = lay g.ports f (g.ports.length - 1) v:=by
 simp [dst,gI,hv]
theorem row_le' {g:G} (hg:g.valid = true) (v:Nat):(gR g.ports v).length≤24:=by
 obtain ⟨f1,f2,f3,f4,f5,f6,f7⟩:=val_facts hg;by_cases h:v < g.ports.length
 . have:=okR_len h (f6 v h);omega
 . rw [show gR g.ports v = [] by simp only [gR,List.getD];rw [List.getElem?_eq_none (by omega)];rfl];simp
theorem okR_to' {n v:Nat} {r:List (Int × Int)} (h:okR n v r = true) {i:Nat} (hi:i < r.length):0≤(gF r i).1∧(gF r i).1 < n:=by
 rw [okR,Bool.and_eq_true,List.all_eq_true] at h;have:=h.1 _ (gF_mem hi);rw [okL,decide_eq_true_eq] at this;exact ⟨this.1,this.2.1⟩
def vN (l:List Nat):Nat→Nat→V:=fun i _=>.int .i64 (l.getD i 0:Nat)
def iniF (j:Nat):Nat→Nat→V:=fun i _=>.int .i64 (if i < j then -1 else 0)
theorem iniF_step (n j i t:Nat) (hi:i < n) (ht:t < 1):VLe (fset (iniF j) j 0 [.int .i64 (-1)] i t) (iniF (j + 1) i t):=by
 obtain rfl:t = 0:=by omega
 apply VLe.of_eq;by_cases h:i = j
 . subst h;simp [fset,iniF]
 . have h1:(i < j + 1) = (i < j):=by simp;omega
   simp [fset,iniF,h,h1]
theorem vle_set (r:List Int) (u i t:Nat) (d:Int) (hu:u < r.length) (ht:t < 1):VLe (fset (vI r) u 0 [.int .i64 d] i t) (vI (r.set u d) i t):=by
 obtain rfl:t = 0:=by omega
 apply VLe.of_eq;simp only [fset,vI,gI_set r u i d hu];by_cases h:i = u
 . subst h;simp
 . simp [h]
theorem ini_end (n f i t:Nat) (hf:f < n) (hi:i < n) (ht:t < 1):VLe (fset (iniF n) f 0 [.int .i64 0] i t) (vI ((List.replicate n (-1)).set f 0) i t):=by
 obtain rfl:t = 0:=by omega
 apply VLe.of_eq;simp only [fset,vI];rw [gI_set _ _ _ _ (by simpa using hf)];by_cases h:i = f
 . subst h;simp
 . rw [if_neg (by simp [h]),if_neg h];simp [iniF,hi,gI]
theorem cntU_le (p:Nat→Bool):∀ n,cntU p n≤n
 | 0=>Nat.le_refl _
 | n + 1=>by have:=cntU_le p n;rw [cntU];split <;> omega
theorem bo_start {p:Pt} (hu:Und p) {f:Nat} (hf:f < p.length):BO p f [f] ((List.replicate p.length (-1)).set f 0):=by
 have hg:=fun x=>gI_set (List.replicate p.length (-1)) f x 0 (by simpa using hf);have hr:∀ x,x < p.length→gI (List.replicate p.length (-1)) x = -1:=fun x hx=>by simp [gI,hx]
 have hv:∀ x,x < p.length→x≠f→gI ((List.replicate p.length (-1)).set f 0) x = -1:=fun x hx h=>by rw [hg,if_neg h,hr x hx]
 have h0:gI ((List.replicate p.length (-1)).set f 0) f = 0:=by rw [hg,if_pos rfl]
 refine { len:=by simp,low:=fun x hx=>?_,from_:=h0,back:=fun x hx hxf h=>?_,qn:=fun u hu=>?_,sorted:=by simp,top:=fun u hu x hx=>?_,done:=fun x hx h hq=>?_ }
 . by_cases e:x = f
   . subst e;rw [h0];decide
   . rw [hv x hx e];decide
 . rw [hv x hx hxf] at h;omega
 . simp at hu;subst hu;exact ⟨hf,by rw [h0];decide⟩
 . simp at hu;subst hu;rw [h0];by_cases e:x = u
   . subst e;rw [h0];decide
   . rw [hv x hx e];decide
 . have:x≠f:=by simpa using hq
   rw [hv x hx this] at h;omega
theorem sh_at (lo:Nat) (f:Nat→Nat→V) (i j:Nat):shiftF lo f i j = f (lo + i) j:=by
 cases lo with
 | zero=>simp [shiftF]
 | succ n=>simp [shiftF]
theorem vle_appN (Q:List Nat) (lo u i t:Nat) (hlo:lo≤Q.length) (hi:i < Q.length - lo + 1) (ht:t < 1) :
 VLe (fapp (shiftF lo (vN Q)) (Q.length - lo) (shiftF 0 (tab [[.int .i64 (u:Int)]])) i t) (vN (Q.drop lo ++ [u]) i t):=by
 obtain rfl:t = 0:=by omega
 apply VLe.of_eq;by_cases h:i < Q.length - lo
 . rw [fapp_lt h];simp only [sh_at,vN];have:(Q.drop lo ++ [u]).getD i 0 = Q.getD (lo + i) 0:=by
    rw [List.getD_eq_getElem?_getD,List.getD_eq_getElem?_getD,List.getElem?_append_left (by simpa using h),List.getElem?_drop]
   rw [this]
 . rw [fapp_ge h];have:i = Q.length - lo:=by omega
   subst this;simp [shiftF,tab,vN]
theorem ini_bnd {n f:Nat} (hf:f < n):∀ y,y < n→gI ((List.replicate n (-1)).set f 0) y + unv ((List.replicate n (-1)).set f 0) n < n:=by
 have hg:=fun x=>gI_set (List.replicate n (-1)) f x 0 (by simpa using hf);have h1:unv ((List.replicate n (-1)).set f 0) n + 1≤n:=by
  have:=cntU_one (p:=fun _=>true) (q:=fun v=>decide (v≠f)) (u:=f) rfl (by simp) (fun v hv=>by simp [hv]) hf;have h2:unv ((List.replicate n (-1)).set f 0) n = cntU (fun v=>decide (v≠f)) n:=cntU_ext fun v hv=>by
   rw [hg];by_cases e:v = f
   . simp [e]
   . simp [e,gI,hv]
  have h3:=cntU_le (fun _=>true) n;omega
 intro y hy;rw [hg];split
 . omega
 . simp only [gI,List.getD,List.getElem?_replicate,hy,if_true,Option.getD_some];omega
theorem vle_appN2 (Q:List Nat) (lo i t:Nat) (a:Int) (u:Nat) (hlo:lo≤Q.length) (hi:i < Q.length - lo + 1) (ht:t < 1) (hu:a = u) :
 VLe (fapp (shiftF lo (vN Q)) (Q.length - lo) (shiftF 0 (tab [[.int .i64 a]])) i t) (vN (Q.drop lo ++ [u]) i t):=by
 subst hu;exact vle_appN Q lo u i t hlo hi ht
set_option maxHeartbeats 16000000 in
theorem search_ok (g:G) (hg:g.valid = true) (f:Nat) (hf:f < g.ports.length):Ret Tryz.prog 79 [g.v,.int .i64 f] (.fz (dst g f).length 1 false (vI (dst g f))):=by
 obtain ⟨f1,f2,f3,f4,f5,f6,f7⟩:=val_facts hg;have hu:=und_of hg;refine ret_frz rfl ?_;refine fn_rule mixed Tryz.func79 rfl hc79 hr79 rfl ?_
 repeat' ((conv=>whnf);first | (refine Bd.nat (by omega) ?_) | (refine Len.mk (by omega) ?_) | (refine MkS.vec ?_))
 all_goals (conv=>whnf)
 refine loop_w mixed [1,2,5,16] [] [2,3,4,5,6,7,8,9,10,11,12,13,14,15,16,17,18,19,20,21,22,23,24,25,26,27,28,29] [1,0] (fun j:Nat=>[(17,.int .i64 j)]) (fun j=>[(1,.vec g.ports.length 1 (iniF j)),(0,.cells [.fz g.ids.length 1 false (vI g.ids),.fz g.ports.length 1 false (vP g.ports)])]) (fun m j=>m = g.ports.length - j∧j≤g.ports.length) g.ports.length 0 ⟨rfl,Nat.zero_le _⟩ rfl (fun _=>rfl) ?_ ?_
 . refine weak_by (fun _ _=>[(0,some 0),(1,some 1)]) ?_ ?_ rfl
   . repeat' (first | exact True.intro | (refine ⟨⟨_,rfl,?_⟩,?_⟩) | exact VRen.kf rfl | exact VRen.loc rfl | exact VRen.vec rfl rfl rfl)
   . repeat' (first | exact ⟨Nat.le_refl _,rfl,fun i j hi hj=>VLe.of_eq (by obtain rfl:j = 0:=(by omega);rfl)⟩ | exact True.intro | (refine ⟨⟨_,rfl,?_⟩,?_⟩) | exact VRen.kf rfl | (refine And.intro ?_ ?_))
 rintro m j ⟨hm,hj⟩;by_cases hjn:j < g.ports.length
 . repeat' ((conv=>whnf);first | (refine Br.dec ?_ ?_ <;> intro _ <;> try omega) | (refine Ar.i64 (by omega) (by omega) ?_) | (refine Ix.nat (by omega) ?_) | (refine Ltn.mk (by omega) ?_))
   all_goals (conv=>whnf)
   refine ⟨g.ports.length - (j + 1),j + 1,by omega,⟨rfl,by omega⟩,?_⟩;refine weak_by (fun _ _=>[(0,some 0),(1,some 1)]) ?_ ?_ rfl
   . repeat' (first | exact True.intro | (refine ⟨⟨_,rfl,?_⟩,?_⟩) | exact VRen.kf rfl | exact VRen.loc rfl | exact VRen.vec rfl rfl rfl)
   . repeat' (first | exact ⟨Nat.le_refl _,rfl,fun i t hi ht=>by simp only [Nat.zero_add];exact iniF_step _ _ _ _ hi ht⟩ | exact True.intro | (refine ⟨⟨_,rfl,?_⟩,?_⟩) | exact VRen.kf rfl | (refine And.intro ?_ ?_))
 . have ej:j = g.ports.length:=by omega
   subst ej
   repeat' ((conv=>whnf);first | (refine Br.dec ?_ ?_ <;> intro _ <;> try omega) | (refine Ix.nat (by omega) ?_) | (refine Ltn.mk (by omega) ?_))
   all_goals (conv=>whnf)
   refine loop_w mixed [2,5] [2] [3,4,5,6,7,8,9,10,11,12,13,14,15,16,17,18,19,20,21,22,23,24,25,26,27,28,29] [2,1,0] (fun x:Nat × List Nat × List Int=>[(7,.vec 2 1 x.1 (x.2.1.length - x.1))]) (fun x=>[(2,.vec x.2.1.length 1 (vN x.2.1)),(1,.vec g.ports.length 1 (vI x.2.2)),(0,.cells [.fz g.ids.length 1 false (vI g.ids),.fz g.ports.length 1 false (vP g.ports)])])
    (fun m x=>m = 2 * unv x.2.2 g.ports.length + (x.2.1.length - x.1)∧x.1≤x.2.1.length∧x.2.1.length≤60∧m≤50∧BO g.ports f (x.2.1.drop x.1) x.2.2∧∀ y,y < g.ports.length→gI x.2.2 y + unv x.2.2 g.ports.length < g.ports.length) _ (0,[f],(List.replicate g.ports.length (-1)).set f 0) ⟨rfl,by simp,by simp,?_,bo_start hu hf,ini_bnd hf⟩ rfl (fun _=>rfl) ?_ ?_
   . have:=cntU_le (fun v=>decide (gI ((List.replicate g.ports.length (-1)).set f 0) v < 0)) g.ports.length;simp only [unv,List.length_cons,List.length_nil];omega
   . refine weak_by (fun _ _=>[(0,some 0),(1,some 1),(2,some 2)]) ?_ ?_ rfl
     . repeat' (first | exact True.intro | (refine ⟨⟨_,rfl,?_⟩,?_⟩) | exact VRen.loc rfl | exact VRen.vec rfl rfl rfl)
     . repeat' (first | exact ⟨Nat.le_refl _,rfl,fun i t hi ht=>by simp only [Nat.zero_add];exact ini_end _ _ _ _ hf hi ht⟩ | exact ⟨Nat.le_refl _,rfl,fun i t hi ht=>VLe.of_eq (by obtain rfl:i = 0:=(by simpa using hi);obtain rfl:t = 0:=(by omega);rfl)⟩ | exact True.intro | (refine ⟨⟨_,rfl,?_⟩,?_⟩) | exact VRen.kf rfl | (refine And.intro ?_ ?_))
   rintro m ⟨lo,Q,r⟩ ⟨hm,hlo,hQ,hm50,hbo,hbd⟩;simp only at hm hlo hQ hbo hbd ⊢;by_cases hq:lo < Q.length
   . obtain ⟨v,hv⟩:∃ v,Q.getD lo 0 = v:=⟨_,rfl⟩;have hdrop:Q.drop lo = v :: Q.drop (lo + 1):=by
      rw [List.drop_eq_getElem_cons hq,← hv];simp [hq]
     rw [hdrop] at hbo;have hbp:=hbo.pop;obtain ⟨hvn,hv0⟩:=hbp.vn;have hrl:=row_le' hg v;have hlen:=hbp.len;have hQv:vN Q lo 0 = .int .i64 (v:Int):=by simp only [vN,hv]
     have hQ0:Q.getD (lo + 0) 0 = v:=hv
     repeat' ((conv=>whnf);first | (refine Ix.mk v (by omega) (by omega) ?_) | (refine Br.dec ?_ ?_ <;> intro _ <;> try omega) | (refine Br.nble ?_ ?_ <;> intro _ <;> try omega) | (refine Ix.mk 0 rfl (by omega) ?_) | (refine Bd.mk 1 rfl (by omega) ?_) | (refine Ltn.mk (by omega) ?_))
     all_goals (conv=>whnf)
     refine loop_w mixed [2,5,8,41,42] [2] [3,4,5,6,7,8,9,10,11,12,13,14,15,16,17,18,19,20,21,22,23,24,25,26,27,28,29] [2,1,0] (fun x:Nat × Nat × List Nat × List Int=>[(7,.vec 2 1 x.2.1 (x.2.2.1.length - x.2.1)),(43,.int .i64 x.1)]) (fun x=>[(2,.vec x.2.2.1.length 1 (vN x.2.2.1)),(1,.vec g.ports.length 1 (vI x.2.2.2)),(0,.cells [.fz g.ids.length 1 false (vI g.ids),.fz g.ports.length 1 false (vP g.ports)])])
      (fun k x=>k = (gR g.ports v).length - x.1∧x.1≤(gR g.ports v).length∧x.2.1≤x.2.2.1.length∧x.2.2.1.length≤60∧2 * unv x.2.2.2 g.ports.length + (x.2.2.1.length - x.2.1) < m∧BP g.ports f v x.1 (x.2.2.1.drop x.2.1) x.2.2.2∧∀ y,y < g.ports.length→gI x.2.2.2 y + unv x.2.2.2 g.ports.length < g.ports.length) _ (0,lo + 1,Q,r) ⟨rfl,by simp,by simp only;omega,hQ,by simp only;omega,hbp,hbd⟩ rfl (fun _=>rfl) ?_ ?_
     . exact weak_b (fun _ _=>[(0,some 0),(1,some 1),(2,some 2)])
     rintro k ⟨i,lo2,Q2,r2⟩ ⟨hk,hi,hlo2,hQ2,hm2,hbp2,hbd2⟩;simp only at hk hi hlo2 hQ2 hm2 hbp2 hbd2 ⊢;obtain ⟨_,hv2⟩:=hbp2.vn;have hlen2:=hbp2.len;have hvb:0≤gI r2 (0 + v)∧gI r2 (0 + v)≤24:=by rw [Nat.zero_add];have:=hbd2 v hvn;omega
     by_cases hil:i < (gR g.ports v).length
     . have hr:=okR_to' (f6 v hvn) hil;have hr':toN g.ports v i < g.ports.length:=by show (gF (gR g.ports v) i).1.toNat < _;omega
       by_cases hneg:gI r2 (gF (gR g.ports v) i).1.toNat < 0
       . obtain ⟨hbp3,hun⟩:=hbp2.visit hu hil hneg;have hneg2:gI r2 (0 + (gF (gR g.ports v) i).1.toNat) < 0:=by rw [Nat.zero_add];exact hneg
         repeat' ((conv=>whnf);first | (refine Ix.mk v (by omega) (by omega) ?_) | (refine Br.dec ?_ ?_ <;> intro _ <;> try omega) | (refine Br.nbeq ?_ ?_ <;> intro _ <;> try omega) | (refine Ar.i64 (by omega) (by omega) ?_) | (refine Ix.nat (by omega) ?_) | (refine Ix.int (by omega) (by omega) ?_) | (refine Len.mk (by omega) ?_) | (refine Ltn.mk (by omega) ?_))
         all_goals (conv=>whnf)
         have hdl:(Q2.drop lo2 ++ [toN g.ports v i]).length = Q2.length - lo2 + 1:=by simp
         refine ⟨(gR g.ports v).length - (i + 1),(i + 1,0,Q2.drop lo2 ++ [toN g.ports v i],r2.set (toN g.ports v i) (gI r2 v + 1)),by omega,⟨rfl,by simp only;omega,by simp,by simp only [hdl];omega,by simp only [hdl];omega,hbp3,fun y hy=>?_⟩,?_⟩
         . have hb:=hbd2 y hy;have hb2:=hbd2 v hvn;simp only;rw [gI_set _ _ _ _ (by rw [hlen2];exact hr')];split <;> omega
         simp only [hdl];refine weak_by (fun env own=>[(0,some 0),(1,some 1),(2,ekey env 66)]) ?_ ?_ rfl
         . repeat' (first | exact True.intro | (refine ⟨⟨_,rfl,?_⟩,?_⟩) | exact VRen.kf rfl | exact VRen.loc rfl | exact VRen.vec rfl rfl rfl)
         . repeat' (first | exact ⟨Nat.le_refl _,rfl,fun a t ha ht=>by simp only [Nat.zero_add];exact vle_set _ _ _ _ _ (by rw [hlen2];exact hr') ht⟩ | exact ⟨by omega,rfl,fun a t ha ht=>vle_appN2 _ _ _ _ _ _ hlo2 ha ht (show (gF (gR g.ports v) i).1 = ((gF (gR g.ports v) i).1.toNat:Nat) by omega)⟩ | exact True.intro | (refine ⟨⟨_,rfl,?_⟩,?_⟩) | exact VRen.kf rfl | (refine And.intro ?_ ?_))
       . have hneg2:¬ gI r2 (0 + (gF (gR g.ports v) i).1.toNat) < 0:=by rw [Nat.zero_add];exact hneg
         have hbp3:=hbp2.skip hil (show 0≤gI r2 (gF (gR g.ports v) i).1.toNat by omega)
         repeat' ((conv=>whnf);first | (refine Br.dec ?_ ?_ <;> intro _ <;> try omega) | (refine Ar.i64 (by omega) (by omega) ?_) | (refine Ix.nat (by omega) ?_) | (refine Ix.int (by omega) (by omega) ?_) | (refine Ltn.mk (by omega) ?_))
         all_goals (conv=>whnf)
         refine ⟨(gR g.ports v).length - (i + 1),(i + 1,lo2,Q2,r2),by omega,⟨rfl,by simp only;omega,hlo2,hQ2,hm2,hbp3,hbd2⟩,?_⟩;exact weak_b (fun env own=>[(0,some 0),(1,some 1),(2,some 2)])
     . have hfin:=hbp2.fin hu (by omega)
       repeat' ((conv=>whnf);first | (refine Br.dec ?_ ?_ <;> intro _ <;> try omega))
       all_goals (conv=>whnf)
       refine ⟨_,(lo2,Q2,r2),hm2,⟨rfl,hlo2,hQ2,by omega,hfin,hbd2⟩,?_⟩;exact weak_b (fun env own=>[(0,some 0),(1,some 1),(2,some 2)])
   . have e:lo = Q.length:=by omega
     subst e;rw [List.drop_length] at hbo;have hfd:=hbo.found;have hlen:=hbo.len
     repeat' ((conv=>whnf);first | (refine Br.dec ?_ ?_ <;> intro _ <;> try omega) | (refine Len.mk (by omega) ?_))
     all_goals (conv=>whnf)
     refine VLe.fz (dst_len g f).symm (fun h=>h) (fun i t hi ht=>VLe.of_eq ?_);rw [sh_at];simp only [vI,Nat.zero_add];rw [dst_get g f hi,hfd.eq hu hf hi]
end Go.Proofs.YtpgkdcekpineaaaGreatDoor
namespace Go.Proofs.YtpgkdcekpineaaaGreatDoor
open Go.Eng
set_option maxRecDepth 100000
set_option linter.unusedVariables false
end Go.Proofs.YtpgkdcekpineaaaGreatDoor
namespace Go.Proofs.YtpgkdcekpineaaaGreatDoor
open Go.Eng
set_option maxRecDepth 100000
set_option linter.unusedVariables false
theorem grt_ok (l:List Int) (hl:l.length≤1000):Ret Tryz.prog 91 [.fz l.length 1 false (vI l)] (.int .i64 (maxL l (-1))):=by
 refine ret_frz rfl ?_;refine fn_rule mixed Tryz.func91 rfl hc91 hr91 rfl ?_
 repeat' ((conv=>whnf);first | fail)
 all_goals (conv=>whnf)
 refine loop_r mixed [6,7] (fun i:Nat=>[(3,.int .i64 (maxL (l.take i) (-1))),(8,.int .i64 i)]) (fun m i=>m = l.length - i∧i≤l.length) l.length 0 ⟨rfl,Nat.zero_le _⟩ ?_ ?_
 . exact weak_b (fun _ _=>[])
 rintro m i ⟨hm,hi⟩
 repeat' ((conv=>whnf);first | (refine Br.dec ?_ ?_ <;> intro _ <;> try omega) | (refine Ar.i64 (by omega) (by omega) ?_) | (refine Sv.mk _ rfl ?_) | (refine Ix.nat (by omega) ?_))
 all_goals (conv=>whnf)
 . refine ⟨l.length - (i + 1),i + 1,by omega,⟨rfl,by omega⟩,?_⟩;simp only [gI_take l i (by omega),maxL_snoc];exact weak_b (fun _ _=>[])
 . rw [List.take_of_length_le (by omega)];exact VLe.rfl
def negB (l:List Int):Bool:=l.any fun a=>decide (a < 0)
theorem negB_no {l:List Int}:negB l = false↔∀ a∈l,0≤a:=by
 rw [negB,List.any_eq_false];constructor
 . intro h a ha;have:=h a ha;simp at this;omega
 . intro h a ha;have:=h a ha;simp;omega
def G.conn (g:G):Bool:=g.valid && !negB (dst g 0)
theorem conn_ok (g:G) (hs:g.Small):Ret Tryz.prog 37 [g.v] (.bool g.conn):=by
 have hval:=valid_ok g hs;refine ret_frz rfl ?_;refine fn_rule mixed Tryz.func37 rfl hc37 hr37 rfl ?_;rw [G.conn];by_cases hg:g.valid = true
 . obtain ⟨f1,f2,f3,f4,f5,f6,f7⟩:=val_facts hg;have hsr:=search_ok g hg 0 (by omega);have hdl:=dst_len g 0;rw [hg] at hval ⊢;rw [Bool.true_and];generalize dst g 0 = l at *
   repeat' ((conv=>whnf);first | (refine Br.tt ?_) | (refine hval.go ?_) | (refine hsr.go ?_))
   all_goals (conv=>whnf)
   refine loop_r mixed [9,10] (fun i:Nat=>[(11,.int .i64 i)]) (fun m i=>m = l.length - i∧i≤l.length∧∀ a∈l.take i,0≤a) l.length 0 ⟨rfl,Nat.zero_le _,by simp⟩ ?_ ?_
   . exact weak_b (fun _ _=>[(0,some 0)])
   rintro m i ⟨hm,hi,hall⟩
   repeat' ((conv=>whnf);first | (refine Br.dec ?_ ?_ <;> intro _ <;> try omega) | (refine Ar.i64 (by omega) (by omega) ?_) | (refine Ix.nat (by omega) ?_))
   all_goals (conv=>whnf)
   . refine VLe.bool ?_;have:negB l = true:=by
      rw [negB,List.any_eq_true];exact ⟨gI l i,gI_mem (by omega),by simp;omega⟩
     rw [this];rfl
   . refine ⟨l.length - (i + 1),i + 1,by omega,⟨rfl,by omega,?_⟩,?_⟩
     . rw [gI_take l i (by omega)];intro a ha;rcases List.mem_append.1 ha with h | h
       . exact hall a h
       . simp at h;omega
     . exact weak_b (fun _ _=>[(0,some 0)])
   . rw [List.take_of_length_le (by omega)] at hall;rw [negB_no.2 hall];exact VLe.rfl
 . simp only [Bool.not_eq_true] at hg;rw [hg] at hval ⊢
   repeat' ((conv=>whnf);first | (refine Br.ff ?_) | (refine hval.go ?_))
   all_goals (conv=>whnf)
   all_goals exact VLe.rfl
theorem conn_facts {g:G} (h:g.conn = true):g.valid = true∧∀ v,v < g.ports.length→0≤gI (dst g 0) v:=by
 simp only [G.conn,Bool.and_eq_true,Bool.not_eq_true'] at h;exact ⟨h.1,fun v hv=>negB_no.1 h.2 _ (gI_mem (by rw [dst_len];exact hv))⟩
theorem lay_low (p:Pt) (f:Nat):∀ k v,-1≤lay p f k v∧lay p f k v≤k
 | 0,v=>by rw [lay];split <;> omega
 | k + 1,v=>by
   have:=lay_low p f k v;rw [lay];split
   . omega
   . split <;> omega
end Go.Proofs.YtpgkdcekpineaaaGreatDoor
namespace Go.Proofs.YtpgkdcekpineaaaGreatDoor
open Go.Eng
set_option maxRecDepth 100000
set_option linter.unusedVariables false
theorem dst_ne (g:G) (hg:g.valid = true):0 < (dst g 0).length:=by
 obtain ⟨f1,f2,f3,f4,f5,f6,f7⟩:=val_facts hg;rw [dst_len];omega
theorem maxL_pos {l:List Int} (h0:0 < l.length) (h:∀ a∈l,0≤a):0≤maxL l (-1):=by
 match l,h0 with
 | a :: r,_ =>
   have:=h a (by simp);have h1:=maxL_ge r (if a > -1 then a else -1);have h2:a≤if a > -1 then a else -1:=by split <;> omega
   simp only [maxL];exact Int.le_trans ‹0≤a› (Int.le_trans h2 h1)
def G.ecc (g:G):Int:=if g.conn then maxL (dst g 0) (-1) else -1
theorem dst_le (g:G) {v:Nat} (hv:v < g.ports.length):-1≤gI (dst g 0) v∧gI (dst g 0) v < g.ports.length:=by
 rw [dst_get g 0 hv];have:=lay_low g.ports 0 (g.ports.length - 1) v;omega
theorem ecc_range (g:G) (hg:g.conn = true):0≤g.ecc∧g.ecc≤23:=by
 obtain ⟨h1,h2⟩:=conn_facts hg;obtain ⟨f1,f2,f3,f4,f5,f6,f7⟩:=val_facts h1;rw [G.ecc,if_pos hg];refine ⟨maxL_pos (dst_ne g h1) (fun a ha=>?_),maxL_le _ _ _ (by omega) (fun a ha=>?_)⟩
 . obtain ⟨i,hi,rfl⟩:=gI_get ha;exact h2 i (by rw [dst_len] at hi;exact hi)
 . obtain ⟨i,hi,rfl⟩:=gI_get ha;rw [dst_len] at hi;have:=dst_le g hi;omega
theorem ecc_ok (g:G) (hs:g.Small):Ret Tryz.prog 45 [g.v,.int .i64 0] (.int .i64 g.ecc):=by
 have hcn:=conn_ok g hs;refine ret_frz rfl ?_;refine fn_rule mixed Tryz.func45 rfl hc45 hr45 rfl ?_;rw [G.ecc];cases hc:g.conn with
 | true =>
   obtain ⟨h1,_⟩:=conn_facts hc;obtain ⟨f1,f2,f3,f4,f5,f6,f7⟩:=val_facts h1;have hd:=search_ok g h1 0 (by omega);have hr:=grt_ok (dst g 0) (by rw [dst_len];omega);rw [hc] at hcn
   repeat' ((conv=>whnf);first | (refine Br.tt ?_) | (refine Br.ff ?_) | (refine Br.dec ?_ ?_ <;> intro _ <;> try omega) | (refine hcn.go ?_) | (refine hd.go ?_) | (refine hr.go ?_))
   all_goals (conv=>whnf)
   exact VLe.rfl
 | false =>
   rw [hc] at hcn
   repeat' ((conv=>whnf);first | (refine Br.ff ?_) | (refine hcn.go ?_))
   all_goals (conv=>whnf)
   exact VLe.rfl
theorem distances_ok (g:G) (hs:g.Small) (hg:g.valid = true):Ret Tryz.prog 84 [g.v,.int .i64 0] (.fz (dst g 0).length 1 false (vI (dst g 0))):=by
 obtain ⟨f1,f2,f3,f4,f5,f6,f7⟩:=val_facts hg;have hval:=valid_ok g hs;rw [hg] at hval;have hd:=search_ok g hg 0 (by omega);refine ret_frz rfl ?_;refine fn_rule mixed Tryz.func84 rfl hc84 hr84 rfl ?_
 repeat' ((conv=>whnf);first | (refine Br.tt ?_) | (refine Br.ff ?_) | (refine Br.dec ?_ ?_ <;> intro _ <;> try omega) | (refine hval.go ?_) | (refine hd.go ?_))
 all_goals (conv=>whnf)
 exact VLe.rfl
abbrev Lt2':=List (Int × Int)
theorem gF_drop' {l:Lt2'} {i:Nat} (h:i < l.length):l.drop i = gF l i :: l.drop (i + 1):=by
 rw [List.drop_eq_getElem_cons h];simp only [gF,List.getD,List.getElem?_eq_getElem h,Option.getD_some]
def fpI (p:Int × Int→Bool):Nat→Lt2'→Int
 | _,[]=>-1
 | k,l :: r=>if p l then k else fpI p (k + 1) r
theorem fpI_split (p:Int × Int→Bool):∀ (l:Lt2') (k i:Nat),i≤l.length→(∀ a∈l.take i,p a = false)→fpI p k l = fpI p (k + i) (l.drop i)
 | _,k,0,_,_=>by simp
 | [],k,i + 1,h,_=>by simp at h
 | a :: r,k,i + 1,h,h2=>by
   have ha:p a = false:=h2 a (by simp);simp only [fpI,ha,List.drop_succ_cons];rw [if_neg (by simp),fpI_split p r (k + 1) i (by simpa using h) (fun x hx=>h2 x (by simp [hx]))];congr 1;omega
theorem fpI_range (p:Int × Int→Bool):∀ (l:Lt2') (k:Nat),fpI p k l = -1∨((k:Int)≤fpI p k l∧fpI p k l < (k + l.length:Nat))
 | [],k=>.inl rfl
 | a :: r,k=>by
   simp only [fpI];split
   . right;simp;omega
   . rcases fpI_range p r (k + 1) with h | h
     . exact .inl h
     . right;simp at *;omega
def nearB (g:G) (v:Nat) (l:Int × Int):Bool:=decide (gI (dst g 0) l.1.toNat = gI (dst g 0) v - 1)
def upI (g:G) (v:Nat):Int:=fpI (nearB g v) 0 (gR g.ports v)
def dV (g:G):V:=.fz (dst g 0).length 1 false (vI (dst g 0))
theorem right1_ok (g:G) (hg:g.valid = true) (v:Nat) (hv:v < g.ports.length) (i:Nat) (hi:i < (gR g.ports v).length) :
 Ret Tryz.prog 130 [.agg [.int .i64 (gF (gR g.ports v) i).1,.int .i64 (gF (gR g.ports v) i).2],.fe 1 1 (tab [[dV g]]) 0 0,.fe 1 1 (tab [[.int .i64 v]]) 0 0] (.bool (nearB g v (gF (gR g.ports v) i))):=by
 obtain ⟨f1,f2,f3,f4,f5,f6,f7⟩:=val_facts hg;have hr:=okR_to' (f6 v hv) hi;have hl:=dst_len g 0;have h1:=dst_le g hv;refine ret_frz rfl ?_;refine fn_rule mixed Tryz.func130 rfl hc130 hr130 rfl ?_
 repeat' ((conv=>whnf);first | (refine Br.dec ?_ ?_ <;> intro _ <;> try omega) | (refine Ar.i64 (by omega) (by omega) ?_) | (refine Ix.nat (by omega) ?_) | (refine Ix.int (by omega) (by omega) ?_))
 all_goals (conv=>whnf)
 . rename_i h;exact VLe.bool (decide_eq_true h).symm
 . rename_i h;exact VLe.bool (decide_eq_false h).symm
theorem fp_ok (g:G) (hg:g.valid = true) (v:Nat) (hv:v < g.ports.length) :
 CallF Tryz.prog 129 [g.v,.int .i64 v,.fn (.func 130) false [.loc 1 0,.loc 0 0]] [(1,.cells [dV g]),(0,.cells [.int .i64 v])] [2,3,4,5,6,7,8,9,10,11,12,13,14,15,16,17,18,19,20,21,22,23,24,25,26,27,28,29] fun X own' _=>X = .int .i64 (upI g v)∧own' = [(1,.cells [dV g]),(0,.cells [.int .i64 v])]:=by
 have hrl:=row_le' hg v;refine call_post ?_;refine fn_rule mixed Tryz.func129 rfl hc129 hr129 rfl ?_
 repeat' ((conv=>whnf);first | (refine Ix.nat (by omega) ?_))
 all_goals (conv=>whnf)
 refine loop_r mixed [2,13,14] (fun i:Nat=>[(15,.int .i64 i)]) (fun m i=>m = (gR g.ports v).length - i∧i≤(gR g.ports v).length∧∀ l∈(gR g.ports v).take i,nearB g v l = false) (gR g.ports v).length 0 ⟨rfl,Nat.zero_le _,by simp⟩ ?_ ?_
 . exact weak_b (fun _ _=>[(0,some 0),(1,some 1),(2,some 2)])
 rintro m i ⟨hm,hi,hall⟩;by_cases hil:i < (gR g.ports v).length
 . have h1:=right1_ok g hg v hv i hil;cases hb:nearB g v (gF (gR g.ports v) i) with
   | true =>
     rw [hb] at h1
     repeat' ((conv=>whnf);first | (refine Br.tt ?_) | (refine Br.dec ?_ ?_ <;> intro _ <;> try omega) | (refine Ix.nat (by omega) ?_) | (refine Chk.mk (by kernel_rfl) ?_) | (refine call_lend h1 rfl ⟨VLe.rfl,VLe.rfl,VLe.rfl,True.intro⟩ ?_))
     all_goals (conv=>whnf)
     have e:upI g v = i:=by rw [upI,fpI_split _ _ 0 i hi hall,gF_drop' hil,fpI,if_pos hb];omega
     exact postR_by (fun _=>[(0,some 0),(1,some 1)]) _ _ ⟨by rw [e],rfl⟩ (VRen.kf rfl) (by repeat' (first | exact True.intro | (refine ⟨⟨_,rfl,?_⟩,?_⟩) | exact VRen.kf rfl | (refine And.intro ?_ ?_))) rfl
   | false =>
     rw [hb] at h1
     repeat' ((conv=>whnf);first | (refine Br.ff ?_) | (refine Br.dec ?_ ?_ <;> intro _ <;> try omega) | (refine Ar.i64 (by omega) (by omega) ?_) | (refine Ix.nat (by omega) ?_) | (refine Chk.mk (by kernel_rfl) ?_) | (refine call_lend h1 rfl ⟨VLe.rfl,VLe.rfl,VLe.rfl,True.intro⟩ ?_))
     all_goals (conv=>whnf)
     refine ⟨(gR g.ports v).length - (i + 1),i + 1,by omega,⟨rfl,by omega,fun l hl=>?_⟩,?_⟩
     . rw [gF_take _ i hil] at hl;rcases List.mem_append.1 hl with h | h
       . exact hall l h
       . simp at h;rw [h];exact hb
     . exact weak_b (fun _ _=>[(0,some 0),(1,some 1),(2,some 2)])
 . repeat' ((conv=>whnf);first | (refine Br.dec ?_ ?_ <;> intro _ <;> try omega))
   all_goals (conv=>whnf)
   have e:upI g v = -1:=by rw [upI,fpI_split _ _ 0 i hi hall,List.drop_of_length_le (by omega)];rfl
   exact postR_by (fun _=>[(0,some 0),(1,some 1)]) _ _ ⟨by rw [e],rfl⟩ (VRen.kf rfl) (by repeat' (first | exact True.intro | (refine ⟨⟨_,rfl,?_⟩,?_⟩) | exact VRen.kf rfl | (refine And.intro ?_ ?_))) rfl
end Go.Proofs.YtpgkdcekpineaaaGreatDoor
namespace Go.Proofs.YtpgkdcekpineaaaGreatDoor
open Go.Eng
set_option maxRecDepth 100000
set_option linter.unusedVariables false
theorem equal_ok (a b:List Int) (ha:a.length≤9223372036854775807) (hb:b.length≤9223372036854775807):Ret Tryz.prog 131 [.fz a.length 1 false (vI a),.fz b.length 1 false (vI b)] (.bool (decide (a = b))):=by
 refine ret_frz rfl ?_;refine fn_rule mixed Tryz.func131 rfl hc131 hr131 rfl ?_
 repeat' ((conv=>whnf);first | (refine Br.bne ?_ ?_ <;> intro _ <;> try omega))
 all_goals (conv=>whnf)
 . exact VLe.bool (by rw [decide_eq_false (fun h=>by subst h;omega)])
 refine loop_r mixed [0,1,12] (fun i:Nat=>[(13,.int .i64 i)]) (fun m i=>m = a.length - i∧i≤a.length∧∀ j,j < i→gI a j = gI b j) a.length 0 ⟨rfl,Nat.zero_le _,fun j hj=>by omega⟩ ?_ ?_
 . exact weak_b (fun _ _=>[])
 rintro m i ⟨hm,hi,hall⟩
 repeat' ((conv=>whnf);first | (refine Br.dec ?_ ?_ <;> intro _ <;> try omega) | (refine Br.bne ?_ ?_ <;> intro _ <;> try omega) | (refine Ar.i64 (by omega) (by omega) ?_) | (refine Ix.nat (by omega) ?_))
 all_goals (conv=>whnf)
 . rename_i hne;exact VLe.bool (by rw [decide_eq_false (fun h=>by subst h;exact hne rfl)])
 . refine ⟨a.length - (i + 1),i + 1,by omega,⟨rfl,by omega,fun j hj=>?_⟩,?_⟩
   . by_cases e:j = i
     . subst e;assumption
     . exact hall j (by omega)
   . exact weak_b (fun _ _=>[])
 . have e:a = b:=List.ext_getElem (by omega) (fun j h1 h2=>by
    have:=hall j (by omega);simpa [gI,List.getD,List.getElem?_eq_getElem h1,List.getElem?_eq_getElem h2] using this)
   exact VLe.bool (by rw [decide_eq_true e])
theorem two_le' (a b:Int) (f:Nat→Nat→V) (h0:f 0 0 = .int .i64 a) (h1:f 1 0 = .int .i64 b):∀ i j:Nat,i < 2→j < 1→VLe (f i j) (vI [a,b] i j):=by
 intro i j hi hj;obtain rfl:j = 0:=by omega
 rcases (show i = 0∨i = 1 by omega) with rfl | rfl
 . rw [h0];exact VLe.rfl
 . rw [h1];exact VLe.rfl
theorem right_ok (g:G) (hg:g.valid = true) (v:Nat) (hv:v < g.ports.length) (st:List Int) (hst:st.length≤9223372036854775807) :
 Ret Tryz.prog 85 [g.v,.int .i64 v,dV g,.fz st.length 1 false (vI st)] (.bool (decide (st = [gI (dst g 0) v,upI g v]))):=by
 have hfp:=fp_ok g hg v hv;have hl:=dst_len g 0;have he:=equal_ok st [gI (dst g 0) v,upI g v] hst (by simp);refine ret_frz rfl ?_;refine fn_rule mixed Tryz.func85 rfl hc85 hr85 rfl ?_
 repeat' ((conv=>whnf);first | (refine Br.dec ?_ ?_ <;> intro _ <;> try omega) | (refine Ix.nat (by omega) ?_) | (refine call_by [(0,some 1),(1,some 2)] [] (hfp.mono ?_) ⟨VRen.kf rfl,VRen.int rfl,VRen.fn ⟨VRen.loc rfl,VRen.loc rfl,True.intro⟩,True.intro⟩ (by repeat' (first | exact True.intro | (refine ⟨⟨_,rfl,?_⟩,?_⟩) | exact VRen.kf rfl | (refine And.intro ?_ ?_))) rfl;rintro _ _ _ ⟨rfl,rfl⟩) | (refine Chk.mk rfl ?_) | (refine call_lend he rfl ⟨by decide,VLe.rfl,VLe.fz rfl (fun h=>h) (two_le' _ _ _ rfl rfl),True.intro⟩ ?_))
 all_goals (conv=>whnf)
 all_goals exact VLe.bool (Eq.symm (by first | assumption | exact decide_eq_true (by assumption) | exact decide_eq_false (by assumption)))
theorem bfit_ok (g:G) (hs:g.Small):Ret Tryz.prog 128 [g.v] (.bool g.conn):=by
 have h:=conn_ok g hs;refine ret_frz rfl ?_;refine fn_rule mixed Tryz.func128 rfl hc128 hr128 rfl ?_;cases hc:g.conn
 all_goals rw [hc] at h
 all_goals
  repeat' ((conv=>whnf);first | (refine Br.tt ?_) | (refine Br.ff ?_) | (refine h.go ?_))
  all_goals (conv=>whnf)
  exact VLe.rfl
def G.bconf (g:G) (c:Cf):Bool:=conf g.ids.length 2 (bG g [(g.ids.length:Int),-1]) c
theorem bconfiguration_ok (g:G) (hs:g.Small) (c:Cf) (hc:CSmall c):Ret Tryz.prog 83 [g.v,cV c] (.bool (g.conn && g.bconf c)):=by
 have hf:=bfit_ok g hs;refine ret_frz rfl ?_;refine fn_rule mixed Tryz.func83 rfl hc83 hr83 rfl ?_;cases hg:g.conn with
 | true =>
   rw [hg] at hf;rw [Bool.true_and];obtain ⟨h1,_⟩:=conn_facts hg;obtain ⟨f1,f2,f3,f4,f5,f6,f7⟩:=val_facts h1;have hb:=bconf_ok g hs f3 c hc [(g.ids.length:Int),-1] (by simp);rw [show conf g.ids.length [(g.ids.length:Int),-1].length (bG g [(g.ids.length:Int),-1]) c = g.bconf c from rfl] at hb
   repeat' ((conv=>whnf);first | (refine Br.tt ?_) | (refine hf.go ?_) | (refine call_frz [1] hb ⟨by decide,VLe.rfl,VLe.rfl,VLe.fz rfl (fun h=>h) (two_le' _ _ _ rfl rfl),True.intro⟩ ?_) | (refine Br.any (fun _=>?_) (fun _=>?_)))
   all_goals (conv=>whnf)
   all_goals exact VLe.bool (Eq.symm (by first | assumption | exact decide_eq_true (by assumption) | exact decide_eq_false (by assumption)))
 | false =>
   rw [hg] at hf
   repeat' ((conv=>whnf);first | (refine Br.ff ?_) | (refine hf.go ?_))
   all_goals (conv=>whnf)
   all_goals exact VLe.rfl
def treeB (g:G) (c:Cf):Bool:=decide (∀ v,v < c.length→gI (gC c v) 0 = gI (dst g 0) v∧gI (gC c v) 1 = upI g v)
theorem treeB_iff {g:G} {c:Cf}:treeB g c = true↔∀ v,v < c.length→gI (gC c v) 0 = gI (dst g 0) v∧gI (gC c v) 1 = upI g v:=by rw [treeB,decide_eq_true_eq]
theorem list2 {l:List Int} {a b:Int} (h:l.length = 2):l = [a,b]↔gI l 0 = a∧gI l 1 = b:=by
 match l,h with
 | [x,y],_=>simp [gI]
theorem blegit_ok (g:G) (hs:g.Small) (c:Cf) (hc:CSmall c):Ret Tryz.prog 40 [g.v,cV c] (.bool (g.conn && g.bconf c && treeB g c)):=by
 have h0:=bconfiguration_ok g hs c hc;refine ret_frz rfl ?_;refine fn_rule mixed Tryz.func40 rfl hc40 hr40 rfl ?_;cases hgc:g.conn && g.bconf c with
 | false =>
   rw [hgc] at h0
   repeat' ((conv=>whnf);first | (refine Br.ff ?_) | (refine h0.go ?_))
   all_goals (conv=>whnf)
   exact VLe.rfl
 | true =>
   rw [hgc] at h0;rw [Bool.true_and];rw [Bool.and_eq_true] at hgc;obtain ⟨h1,_⟩:=conn_facts hgc.1;obtain ⟨f1,f2,f3,f4,f5,f6,f7⟩:=val_facts h1;have hcf:=conf_iff.1 hgc.2;have hd:=distances_ok g hs h1
   repeat' ((conv=>whnf);first | (refine Br.tt ?_) | (refine h0.go ?_) | (refine hd.go ?_))
   all_goals (conv=>whnf)
   refine loop_r mixed [2,5,14,15] (fun i:Nat=>[(16,.int .i64 i)]) (fun m i=>m = c.length - i∧i≤c.length∧∀ v,v < i→gI (gC c v) 0 = gI (dst g 0) v∧gI (gC c v) 1 = upI g v) c.length 0 ⟨rfl,Nat.zero_le _,fun v hv=>by omega⟩ ?_ ?_
   . exact weak_b (fun _ _=>[(0,some 0)])
   rintro m i ⟨hm,hi,hall⟩;by_cases hil:i < c.length
   . have hrow:=(hcf.2 i (by omega)).1;have hr:=right_ok g h1 i (by omega) (gC c i) (by omega);cases hdd:decide (gC c i = [gI (dst g 0) i,upI g i]) with
     | true =>
       rw [hdd] at hr;have h2:=(list2 hrow).1 (of_decide_eq_true hdd)
       repeat' ((conv=>whnf);first | (refine Br.tt ?_) | (refine Br.dec ?_ ?_ <;> intro _ <;> try omega) | (refine Ar.i64 (by omega) (by omega) ?_) | (refine Ix.nat (by omega) ?_) | (refine hr.go ?_))
       all_goals (conv=>whnf)
       refine ⟨c.length - (i + 1),i + 1,by omega,⟨rfl,by omega,fun v hv=>?_⟩,?_⟩
       . by_cases e:v = i
         . subst e;exact h2
         . exact hall v (by omega)
       . exact weak_b (fun _ _=>[(0,some 0)])
     | false =>
       rw [hdd] at hr
       repeat' ((conv=>whnf);first | (refine Br.ff ?_) | (refine Br.dec ?_ ?_ <;> intro _ <;> try omega) | (refine Ix.nat (by omega) ?_) | (refine hr.go ?_))
       all_goals (conv=>whnf)
       refine VLe.bool ?_;cases e:treeB g c with
       | false=>rfl
       | true=>exact (of_decide_eq_false hdd ((list2 hrow).2 (treeB_iff.1 e i hil))).elim
   . repeat' ((conv=>whnf);first | (refine Br.dec ?_ ?_ <;> intro _ <;> try omega))
     all_goals (conv=>whnf)
     exact VLe.bool (treeB_iff.2 (fun v hv=>hall v (by omega))).symm
end Go.Proofs.YtpgkdcekpineaaaGreatDoor
namespace Go.Proofs.YtpgkdcekpineaaaGreatDoor
open Go.Eng
set_option maxRecDepth 100000
set_option linter.unusedVariables false
theorem conf_ext' {n m:Nat} {B B':Nat→Nat→Int × Int} {c:Cf} (h:∀ v x,v < n→x < m→B v x = B' v x):conf n m B c = conf n m B' c:=by
 rw [Bool.eq_iff_iff,conf_iff,conf_iff];refine ⟨fun ⟨a,b⟩=>⟨a,fun v hv=>⟨(b v hv).1,fun x hx=>by rw [← h v x hv hx];exact (b v hv).2 x hx⟩⟩,fun ⟨a,b⟩=>⟨a,fun v hv=>⟨(b v hv).1,fun x hx=>by rw [h v x hv hx];exact (b v hv).2 x hx⟩⟩⟩
theorem cnumber_ok (s:ByteArray) (a b d:Int):Ret Tryz.prog 70 [.str s,.int .i64 a,.int .i64 b,.int .i64 d] (.agg [.str s,.int .i64 1,.int .i64 0,.int .i64 a,.int .i64 b,.int .i64 d]):=by
 refine ret_frz rfl ?_;refine fn_rule mixed Tryz.func70 rfl hc70 hr70 rfl ?_
 repeat' ((conv=>whnf);first | fail)
 all_goals (conv=>whnf)
 exact VLe.rfl
theorem cpointer_ok (s:ByteArray):Ret Tryz.prog 71 [.str s] (.agg [.str s,.int .i64 3,.int .i64 0,.int .i64 0,.int .i64 0,.int .i64 0]):=by
 refine ret_frz rfl ?_;refine fn_rule mixed Tryz.func71 rfl hc71 hr71 rfl ?_
 repeat' ((conv=>whnf);first | fail)
 all_goals (conv=>whnf)
 exact VLe.rfl
def tkC (c:Cf):Cf:=c.map fun r=>r.take 2
theorem tkC_len (c:Cf):(tkC c).length = c.length:=by simp [tkC]
theorem tkC_row (c:Cf) (v:Nat):gC (tkC c) v = (gC c v).take 2:=by
 simp only [gC,tkC,List.getD,List.getElem?_map];cases c[v]? <;> simp
theorem gI_take2 (l:List Int) (i:Nat) (hi:i < 2):gI (l.take 2) i = gI l i:=by
 simp only [gI,List.getD,List.getElem?_take,hi,if_true]
def rowsTk (c:Cf) (v:Nat):Nat→Nat→V:=fun i _=>if i < v then .fz 2 1 false (vI (gC c i)) else .nilslice
theorem vle_tk (c:Cf) (v i t:Nat) (f:Bool) (F:Nat→Nat→V) (hF:∀ a b,VLe (F a b) (vI (gC c v) a b)) (ht:t < 1):VLe (fset (rowsTk c v) v 0 [.fz 2 1 f F] i t) (rowsTk c (v + 1) i t):=by
 obtain rfl:t = 0:=by omega
 by_cases h:i = v
 . subst h;have e1:fset (rowsTk c i) i 0 [.fz 2 1 f F] i 0 = .fz 2 1 f F:=by simp [fset]
   have e2:rowsTk c (i + 1) i 0 = .fz 2 1 false (vI (gC c i)):=if_pos (by omega);rw [e1,e2];exact VLe.fz rfl (fun h=>by cases h) (fun a b _ _=>hF a b)
 . apply VLe.of_eq;simp only [fset,rowsTk];rw [if_neg (by simp [h])];by_cases h2:i < v
   . rw [if_pos h2,if_pos (by omega)]
   . rw [if_neg h2,if_neg (by omega)]
def tw (g:G) (c:Cf) (v:Nat):Int:=if 0≤gI (gC c v) 1 then (gF (gR g.ports v) (gI (gC c v) 1).toNat).1 else -1
def twL (g:G) (c:Cf) (n:Nat):List Int:=(List.range n).map (tw g c)
theorem twL_len (g:G) (c:Cf) (n:Nat):(twL g c n).length = n:=by simp [twL]
theorem twL_get (g:G) (c:Cf) {n v:Nat} (h:v < n):gI (twL g c n) v = tw g c v:=by simp [twL,gI,h]
def twF (g:G) (c:Cf) (v:Nat):Nat→Nat→V:=fun i _=>.int .i64 (if i < v then tw g c i else 0)
theorem twF_set (g:G) (c:Cf) (v i t:Nat) (x:Int) (hx:x = tw g c v) (ht:t < 1):VLe (fset (fset (twF g c v) v 0 [.int .i64 (-1)]) v 0 [.int .i64 x] i t) (twF g c (v + 1) i t):=by
 obtain rfl:t = 0:=by omega
 apply VLe.of_eq;by_cases h:i = v
 . subst h;simp [fset,twF,hx]
 . have h1:(i < v + 1) = (i < v):=by simp;omega
   simp [fset,twF,h,h1]
theorem twF_set1 (g:G) (c:Cf) (v i t:Nat) (hx:tw g c v = -1) (ht:t < 1):VLe (fset (twF g c v) v 0 [.int .i64 (-1)] i t) (twF g c (v + 1) i t):=by
 obtain rfl:t = 0:=by omega
 apply VLe.of_eq;by_cases h:i = v
 . subst h;simp [fset,twF,hx]
 . have h1:(i < v + 1) = (i < v):=by simp;omega
   simp [fset,twF,h,h1]
structure PtOk (g:G) (c:Cf):Prop where
 len:c.length = g.ports.length
 row:∀ v,v < c.length→2≤(gC c v).length∧(gC c v).length≤1000
 pt:∀ v,v < c.length→-1≤gI (gC c v) 1∧gI (gC c v) 1 < (gR g.ports v).length
theorem towards_ok (g:G) (hg:g.valid = true) (c:Cf) (hc:PtOk g c):Ret Tryz.prog 42 [g.v,cV c,.int .i64 1] (.fz (twL g c c.length).length 1 false (vI (twL g c c.length))):=by
 obtain ⟨f1,f2,f3,f4,f5,f6,f7⟩:=val_facts hg;have hcl:=hc.len;refine ret_frz rfl ?_;refine fn_rule mixed Tryz.func42 rfl hc42 hr42 rfl ?_
 repeat' ((conv=>whnf);first | (refine Bd.nat (by omega) ?_) | (refine Len.mk (by omega) ?_) | (refine MkS.vec ?_))
 all_goals (conv=>whnf)
 refine loop_u mixed [2,3,7,13,14] [] [2,3,4,5,6,7,8,9,10,11,12,13,14,15,16,17,18,19,20,21,22,23,24,25,26,27,28,29] [1,0] (fun v:Nat=>[(15,.int .i64 v)]) (fun own v=>updO own 1 (.vec c.length 1 (twF g c v))) (fun m v=>m = c.length - v∧v≤c.length) c.length 0 ⟨rfl,Nat.zero_le _⟩ rfl (fun _=>rfl) ?_ ?_
 . refine weak_by (fun _ _=>[(0,some 0),(1,some 1)]) ?_ ?_ rfl
   . repeat' (first | exact True.intro | (refine ⟨⟨_,rfl,?_⟩,?_⟩) | exact VRen.kf rfl | exact VRen.loc rfl | exact VRen.vec rfl rfl rfl)
   . repeat' (first | exact ⟨Nat.le_refl _,rfl,fun i j hi hj=>VLe.of_eq (by obtain rfl:j = 0:=(by omega);rfl)⟩ | exact True.intro | (refine ⟨⟨_,rfl,?_⟩,?_⟩) | exact VRen.kf rfl | (refine And.intro ?_ ?_))
 rintro m v ⟨hm,hv⟩;by_cases hvn:v < c.length
 . have h1:=hc.row v hvn;have h2:=hc.pt v hvn;have hrl:=row_le' hg v
   repeat' ((conv=>whnf);first | (refine Br.dec ?_ ?_ <;> intro _ <;> try omega) | (refine Ar.i64 (by omega) (by omega) ?_) | (refine Ix.nat (by omega) ?_) | (refine Ix.mk 1 rfl (by omega) ?_) | (refine Ix.int (by omega) (by omega) ?_) | (refine Ltn.mk (by omega) ?_))
   all_goals (conv=>whnf)
   . rename_i hp;refine ⟨c.length - (v + 1),v + 1,by omega,⟨rfl,by omega⟩,?_⟩;refine weak_by (fun _ _=>[(0,some 0),(1,some 1)]) ?_ ?_ rfl
     . repeat' (first | exact True.intro | (refine ⟨⟨_,rfl,?_⟩,?_⟩) | exact VRen.kf rfl | exact VRen.loc rfl | exact VRen.vec rfl rfl rfl)
     . repeat' (first | exact ⟨Nat.le_refl _,rfl,fun i t hi ht=>by simp only [Nat.zero_add];exact twF_set g c v i t _ (if_pos hp).symm ht⟩ | exact True.intro | (refine ⟨⟨_,rfl,?_⟩,?_⟩) | exact VRen.kf rfl | (refine And.intro ?_ ?_))
   . rename_i hp;refine ⟨c.length - (v + 1),v + 1,by omega,⟨rfl,by omega⟩,?_⟩;refine weak_by (fun _ _=>[(0,some 0),(1,some 1)]) ?_ ?_ rfl
     . repeat' (first | exact True.intro | (refine ⟨⟨_,rfl,?_⟩,?_⟩) | exact VRen.kf rfl | exact VRen.loc rfl | exact VRen.vec rfl rfl rfl)
     . repeat' (first | exact ⟨Nat.le_refl _,rfl,fun i t hi ht=>by simp only [Nat.zero_add];exact twF_set1 g c v i t (if_neg hp) ht⟩ | exact True.intro | (refine ⟨⟨_,rfl,?_⟩,?_⟩) | exact VRen.kf rfl | (refine And.intro ?_ ?_))
 . repeat' ((conv=>whnf);first | (refine Br.dec ?_ ?_ <;> intro _ <;> try omega) | (refine Len.mk (by omega) ?_))
   all_goals (conv=>whnf)
   refine VLe.fz (twL_len g c _).symm (fun h=>h) (fun i t hi ht=>VLe.of_eq ?_);rw [sh_at,vI,twL_get g c hi];simp only [twF,Nat.zero_add];rw [if_pos (by omega)]
end Go.Proofs.YtpgkdcekpineaaaGreatDoor
namespace Go.Proofs.YtpgkdcekpineaaaGreatDoor
open Go.Eng
set_option maxRecDepth 100000
set_option linter.unusedVariables false
theorem lay_back {p:Pt} {f:Nat}:∀ {k v:Nat},0≤lay p f k v→v≠f→∃ l∈gR p v,lay p f k l.1.toNat = lay p f k v - 1∧0≤lay p f k l.1.toNat
 | 0,v,h,hv=>by rw [lay,if_neg hv] at h;omega
 | k + 1,v,h,hv=>by
   by_cases h0:0≤lay p f k v
   . obtain ⟨l,hl,a,b⟩:=lay_back h0 hv;have e1:lay p f (k + 1) v = lay p f k v:=by rw [lay,if_pos h0]
     have e2:lay p f (k + 1) l.1.toNat = lay p f k l.1.toNat:=by rw [lay,if_pos b]
     exact ⟨l,hl,by rw [e1,e2];exact a,by rw [e2];exact b⟩
   . by_cases ha:(gR p v).any (fun l=>decide (lay p f k l.1.toNat = k)) = true
     . have e1:lay p f (k + 1) v = (k:Int) + 1:=by rw [lay,if_neg h0,if_pos ha]
       rw [List.any_eq_true] at ha;obtain ⟨l,hl,e⟩:=ha;have e:=of_decide_eq_true e;have e2:lay p f (k + 1) l.1.toNat = k:=by rw [lay,if_pos (by omega)];exact e
       exact ⟨l,hl,by rw [e1,e2];omega,by rw [e2];omega⟩
     . rw [lay,if_neg h0,if_neg ha] at h;omega
theorem fpI_none {p:Int × Int→Bool}:∀ {l:Lt2'} {k:Nat},(∀ a∈l,p a = false)→fpI p k l = -1
 | [],k,_=>rfl
 | a :: r,k,h=>by rw [fpI,h a (by simp),if_neg (by simp)];exact fpI_none fun b hb=>h b (by simp [hb])
theorem fpI_some {p:Int × Int→Bool}:∀ {l:Lt2'} {k:Nat},(∃ a∈l,p a = true)→0≤fpI p k l
 | [],k,h=>by simp at h
 | a :: r,k,h=>by
   rw [fpI];split
   . omega
   . rename_i hn;refine fpI_some ?_;obtain ⟨b,hb,e⟩:=h;rcases List.mem_cons.1 hb with rfl | hb
     . exact (hn e).elim
     . exact ⟨b,hb,e⟩
theorem dst_root (g:G) (hg:g.valid = true):gI (dst g 0) 0 = 0:=by
 obtain ⟨f1,f2,f3,f4,f5,f6,f7⟩:=val_facts hg;have h:∀ k,lay g.ports 0 k 0 = 0:=by
  intro k
  induction k with
  | zero=>rfl
  | succ k ih=>rw [lay,ih];rfl
 rw [dst_get g 0 (by omega),h]
theorem up_root {g:G} (hg:g.conn = true):upI g 0 = -1:=by
 obtain ⟨h1,h2⟩:=conn_facts hg;have hr:=(und_of h1).rng 0;obtain ⟨f1,f2,f3,f4,f5,f6,f7⟩:=val_facts h1;refine fpI_none fun l hl=>decide_eq_false ?_;have:=h2 _ (hr (by omega) l hl);rw [dst_root g h1];omega
theorem up_other {g:G} (hg:g.conn = true) {v:Nat} (hv:v < g.ports.length) (h0:v≠0):0≤upI g v∧upI g v < (gR g.ports v).length:=by
 obtain ⟨h1,h2⟩:=conn_facts hg;have hr:=(und_of h1).rng v hv;have hd:=h2 v hv;rw [dst_get g 0 hv] at hd;obtain ⟨l,hl,a,b⟩:=lay_back hd h0;have h3:0≤upI g v:=fpI_some ⟨l,hl,decide_eq_true (by rw [dst_get g 0 (hr l hl),dst_get g 0 hv];exact a)⟩;have:=fpI_range (nearB g v) (gR g.ports v) 0;refine ⟨h3,?_⟩;unfold upI at *;omega
theorem tw_treeP {g:G} {c:Cf} (hg:g.conn = true) (hc:PtOk g c) (ht:treeB g c = true) {v:Nat} (hv:v < c.length):(v = 0→tw g c v = -1)∧(v≠0→0≤tw g c v∧tw g c v < c.length):=by
 obtain ⟨h1,h2⟩:=conn_facts hg;obtain ⟨f1,f2,f3,f4,f5,f6,f7⟩:=val_facts h1;have hl:=hc.len;have h:=(treeB_iff.1 ht v hv).2;refine ⟨fun e=>?_,fun e=>?_⟩
 . subst e;rw [tw,h,up_root hg,if_neg (by omega)]
 . obtain ⟨a,b⟩:=up_other hg (show v < g.ports.length by omega) e;have:=okR_to' (f6 v (by omega)) (i:=(upI g v).toNat) (by omega);rw [tw,h,if_pos a];omega
end Go.Proofs.YtpgkdcekpineaaaGreatDoor
namespace Go.Plain.Tree
structure Net (n:Nat) (a:Nat→Nat→Bool) (D:Nat→Nat):Prop where
 rng:∀ u v,u < n→a u v = true→v < n
 root:∀ v,v < n→(D v = 0↔v = 0)
 near:∀ v,v < n→v≠0→∃ u,a v u = true∧D u + 1 = D v
 step:∀ u v,u < n→a u v = true→D u≤D v + 1
 top:∀ v,v < n→D v + 1≤n
structure St where
 d:Nat→Int
 p:Nat→Int
structure Rule (n:Nat) (a:Nat→Nat→Bool) (D:Nat→Nat) (P:Nat→Int) (tg:(Nat→Int)→Nat→Int × Int):Prop where
 root:∀ d,tg d 0 = (0,-1)
 right:∀ d v,v < n→v≠0→(∀ u,a v u = true→D u + 1 = D v→d u = ((D u:Nat):Int))→(∀ u,a v u = true→D v≤D u→(D v:Int)≤d u)→tg d v = (((D v:Nat):Int),P v)
 low:∀ d v (k:Nat),v < n→v≠0→k + 1≤n→(∀ u,a v u = true→(k:Int)≤d u)→((k + 1:Nat):Int)≤(tg d v).1
 proot:P 0 = -1
variable {n:Nat} {a:Nat→Nat→Bool} {D:Nat→Nat} {P:Nat→Int} {tg:(Nat→Int)→Nat→Int × Int}
def right (D:Nat→Nat) (P:Nat→Int) (s:St) (v:Nat):Prop:=s.d v = ((D v:Nat):Int)∧s.p v = P v
def off (tg:(Nat→Int)→Nat→Int × Int) (s:St) (v:Nat):Prop:=(s.d v,s.p v)≠tg s.d v
def Step (n:Nat) (tg:(Nat→Int)→Nat→Int × Int) (s:St) (c:Nat→Bool) (s':St):Prop :=
 ∀ v,v < n→(c v = true→off tg s v→(s'.d v,s'.p v) = tg s.d v)∧(c v = false∨¬ off tg s v→s'.d v = s.d v∧s'.p v = s.p v)
structure Ok (n:Nat) (D:Nat→Nat) (P:Nat→Int) (s:St) (k:Nat):Prop where
 low:∀ v,v < n→D v < k→right D P s v
 far:∀ v,v < n→k≤D v→(k:Int)≤s.d v
def bad (D:Nat→Nat) (P:Nat→Int) (s:St) (k v:Nat):Prop:=(D v = k∧¬ right D P s v)∨(k < D v∧s.d v < (k:Int) + 1)
theorem Ok.start {s:St} (h:∀ v,v < n→0≤s.d v):Ok n D P s 0:=⟨fun v _ h=>by omega,fun v hv _=>by simpa using h v hv⟩
theorem Ok.tgt (hN:Net n a D) (hR:Rule n a D P tg) {s:St} {k:Nat} (h:Ok n D P s k) {v:Nat} (hv:v < n) (hk:D v≤k):tg s.d v = (((D v:Nat):Int),P v):=by
 by_cases h0:v = 0
 . subst h0;rw [hR.root,(hN.root 0 hv).2 rfl,hR.proot];rfl
 . refine hR.right s.d v hv h0 (fun u hu e=>?_) (fun u hu e=>?_)
   . exact (h.low u (hN.rng v u hv hu) (by omega)).1
   . have hun:=hN.rng v u hv hu;by_cases q:D u < k
     . rw [(h.low u hun q).1];omega
     . have:=h.far u hun (by omega);omega
theorem Ok.tgfar (hN:Net n a D) (hR:Rule n a D P tg) {s:St} {k:Nat} (h:Ok n D P s k) {v:Nat} (hv:v < n) (hk:k < D v):((k + 1:Nat):Int)≤(tg s.d v).1:=by
 have h0:v≠0:=fun e=>by have:=(hN.root v hv).2 e;omega
 have ht:=hN.top v hv;refine hR.low s.d v k hv h0 (by omega) fun u hu=>?_;have:=hN.step v u hv hu;exact h.far u (hN.rng v u hv hu) (by omega)
theorem Ok.off_bad (hN:Net n a D) (hR:Rule n a D P tg) {s:St} {k:Nat} (h:Ok n D P s k) {v:Nat} (hv:v < n) (hb:bad D P s k v):off tg s v:=by
 rcases hb with ⟨h1,h2⟩ | ⟨h1,h2⟩
 . intro e;rw [h.tgt hN hR hv (by omega)] at e;exact h2 ⟨(Prod.mk.inj e).1,(Prod.mk.inj e).2⟩
 . intro e;have:=h.tgfar hN hR hv h1;rw [← e] at this;simp only at this;omega
theorem Ok.step (hN:Net n a D) (hR:Rule n a D P tg) {s s':St} {c:Nat→Bool} {k:Nat} (h:Ok n D P s k) (hs:Step n tg s c s') :
 Ok n D P s' k∧∀ v,v < n→bad D P s' k v→bad D P s k v∧c v = false:=by
 have key:∀ v,v < n→(c v = true∧off tg s v∧(s'.d v,s'.p v) = tg s.d v)∨((c v = false∨¬ off tg s v)∧s'.d v = s.d v∧s'.p v = s.p v):=fun v hv=>by
  obtain ⟨h1,h2⟩:=hs v hv;by_cases q:c v = false∨¬ off tg s v
  . exact .inr ⟨q,h2 q⟩
  . have qc:c v = true:=by
     cases e:c v with
     | true=>rfl
     | false=>exact (q (.inl e)).elim
    have qo:off tg s v:=Classical.byContradiction fun e=>q (.inr e);exact .inl ⟨qc,qo,h1 qc qo⟩
 have low':∀ v,v < n→D v < k→right D P s' v:=fun v hv hk=>by
  rcases key v hv with ⟨_,_,e⟩ | ⟨_,e1,e2⟩
  . rw [h.tgt hN hR hv (by omega)] at e;exact ⟨(Prod.mk.inj e).1,(Prod.mk.inj e).2⟩
  . obtain ⟨r1,r2⟩:=h.low v hv hk;exact ⟨by rw [e1];exact r1,by rw [e2];exact r2⟩
 have far':∀ v,v < n→k≤D v→(k:Int)≤s'.d v:=fun v hv hk=>by
  rcases key v hv with ⟨_,_,e⟩ | ⟨_,e1,_⟩
  . by_cases q:D v = k
    . rw [h.tgt hN hR hv (by omega)] at e;rw [(Prod.mk.inj e).1];omega
    . have:=h.tgfar hN hR hv (by omega);rw [← e] at this;simp only at this;omega
  . rw [e1];exact h.far v hv hk
 refine ⟨⟨low',far'⟩,fun v hv hb=>?_⟩;rcases key v hv with ⟨_,_,e⟩ | ⟨q,e1,e2⟩
 . exfalso;rcases hb with ⟨h1,h2⟩ | ⟨h1,h2⟩
   . rw [h.tgt hN hR hv (by omega)] at e;exact h2 ⟨(Prod.mk.inj e).1,(Prod.mk.inj e).2⟩
   . have:=h.tgfar hN hR hv h1;rw [← e] at this;simp only at this;omega
 . have hb0:bad D P s k v:=by
    rcases hb with ⟨h1,h2⟩ | ⟨h1,h2⟩
    . exact .inl ⟨h1,fun r=>h2 ⟨by rw [e1];exact r.1,by rw [e2];exact r.2⟩⟩
    . exact .inr ⟨h1,by rw [← e1];exact h2⟩
   refine ⟨hb0,?_⟩;rcases q with q | q
   . exact q
   . exact (q (h.off_bad hN hR hv hb0)).elim
theorem Ok.next {s:St} {k:Nat} (h:Ok n D P s k) (hb:∀ v,v < n→¬ bad D P s k v):Ok n D P s (k + 1):=by
 refine ⟨fun v hv hk=>?_,fun v hv hk=>?_⟩
 . by_cases e:D v = k
   . exact Classical.byContradiction fun q=>hb v hv (.inl ⟨e,q⟩)
   . exact h.low v hv (by omega)
 . have:=hb v hv;apply Classical.byContradiction;intro q;exact this (.inr ⟨by omega,by omega⟩)
theorem Ok.all (hN:Net n a D) (hR:Rule n a D P tg) {s:St} {k:Nat} (h:Ok n D P s k) {v:Nat} (hv:v < n) (hk:D v < k):¬ off tg s v:=fun e=>by
 obtain ⟨r1,r2⟩:=h.low v hv hk;apply e;rw [h.tgt hN hR hv (by omega),r1,r2]
end Go.Plain.Tree
namespace Go.Proofs.YtpgkdcekpineaaaGreatDoor
open Go.Eng
set_option maxRecDepth 100000
set_option linter.unusedVariables false
def mnT:Tm:=.agg 24 (.leaf 12 0)
def dTm:Tm:=.ite (.bin 37 mnT (.leaf 6 0)) (.bin 33 mnT (.leaf 1 1)) (.leaf 6 0)
def pTm:Tm:=.agg 23 (.bin 35 (.leaf 12 0) mnT)
def topG:Tm:=.bin 41 (.leaf 10 0) (.bin 42 (.bin 36 (.leaf 5 0) (.leaf 1 0)) (.bin 36 (.leaf 5 1) (.leaf 4 0)))
def lowG:Tm:=.bin 41 (.un 19 (.leaf 10 0)) (.bin 42 (.bin 36 (.leaf 5 0) dTm) (.bin 36 (.leaf 5 1) pTm))
end Go.Proofs.YtpgkdcekpineaaaGreatDoor
namespace Go.Plain.Clock
structure Tree (n:Nat) (par:Nat→Nat) (D:Nat→Nat) (E:Nat):Prop where
 pos:0 < n
 lt:∀ v,v < n→v≠0→par v < n
 dep:∀ v,v < n→v≠0→D v = D (par v) + 1
 root:D 0 = 0
 top:∀ v,v < n→D v≤E
variable {n:Nat} {par:Nat→Nat} {D:Nat→Nat} {E:Nat} {x:Nat→Int} {s p:Nat→Bool}
def child (n:Nat) (par:Nat→Nat) (v c:Nat):Prop:=c < n∧c≠0∧par c = v
def dif (par:Nat→Nat) (x:Nat→Int) (v:Nat):Prop:=x v≠x (par v)
def en (n:Nat) (par:Nat→Nat) (x:Nat→Int) (v:Nat):Prop:=(∀ c,child n par v c→¬ dif par x c)∧(v≠0→dif par x v)
def st (par:Nat→Nat) (s:Nat→Bool) (x:Nat→Int):Nat→Int:=fun v=>if s v = true then (if v = 0 then (x 0 + 1) % 4 else x (par v)) else x v
def df (par:Nat→Nat) (x:Nat→Int) (v:Nat):Int:=(x (par v) - x v) % 4
def bad (par:Nat→Nat) (x:Nat→Int) (v:Nat):Prop:=1 < df par x v
structure Ch (n:Nat) (par:Nat→Nat) (x:Nat→Int) (s:Nat→Bool):Prop where
 en:∀ v,s v = true→v < n∧en n par x v
theorem bad_dif {v:Nat} (h:bad par x v):dif par x v:=fun e=>by
 rw [bad,df,e,Int.sub_self,Int.zero_emod] at h;omega
theorem par_rests (hc:Ch n par x s) {v:Nat} (hv:v < n) (h0:v≠0) (hd:dif par x v):s (par v) = false:=by
 cases e:s (par v) with
 | false=>rfl
 | true=>exact ((hc.en _ e).2.1 v ⟨hv,h0,rfl⟩ hd).elim
theorem keep (hc:Ch n par x s) {v:Nat} (hv:v < n) (h0:v≠0) (hd:dif par x v) (hs:s v = false):dif par (st par s x) v:=by
 rw [dif,st,st,par_rests hc hv h0 hd,hs];exact hd
theorem fall (hc:Ch n par x s) {v:Nat} (h0:v≠0) (hd:¬ dif par x v) (hp:s (par v) = false):¬ dif par (st par s x) v:=by
 have hs:s v = false:=by
  cases e:s v with
  | false=>rfl
  | true=>exact (hd ((hc.en v e).2.2 h0)).elim
 rw [dif,st,st,hp,hs];exact hd
theorem moved (hc:Ch n par x s) {v:Nat} (hv:v < n) (h0:v≠0) (hs:s v = true):¬ dif par (st par s x) v:=by
 have hd:=(hc.en v hs).2.2 h0;rw [dif,st,st,par_rests hc hv h0 hd,if_pos hs,if_neg h0];simp
def Cert (n:Nat) (par:Nat→Nat) (x:Nat→Int) (p:Nat→Bool):Nat→Nat→Prop
 | 0,_=>False
 | 1,v=>p v = true∧∀ c,child n par v c→¬ dif par x c
 | j + 2,v=>∀ c,child n par v c→dif par x c→Cert n par x p (j + 1) c
theorem Cert.step (hT:Tree n par D E) (hc:Ch n par x s) {p':Nat→Bool} (hp:∀ v,v < n→p v = true→s v = false→en n par (st par s x) v→p' v = true) :
 ∀ (j v:Nat),v < n→v≠0→dif par x v→s v = false→Cert n par x p j v→Cert n par (st par s x) p' j v
 | 0,_,_,_,_,_,h=>h
 | 1,v,hv,h0,hd,hs,h=>by
   have hch:∀ c,child n par v c→¬ dif par (st par s x) c:=fun c hcc=>fall hc hcc.2.1 (h.2 c hcc) (by rw [hcc.2.2];exact hs);exact ⟨hp v hv h.1 hs ⟨hch,fun _=>keep hc hv h0 hd hs⟩,hch⟩
 | j + 2,v,hv,h0,hd,hs,h=>by
   intro c hcc hdc;have hd0:dif par x c:=Classical.byContradiction fun q=>fall hc hcc.2.1 q (by rw [hcc.2.2];exact hs) hdc;have hsc:s c = false:=by
    cases e:s c with
    | false=>rfl
    | true=>exact (moved hc hcc.1 hcc.2.1 e hdc).elim
   exact Cert.step hT hc hp (j + 1) c hcc.1 hcc.2.1 hd0 hsc (h c hcc hd0)
theorem Cert.round {q:Nat→Bool} (hz:∀ v,v < n→p v = false) (hq:∀ v,v < n→en n par x v→q v = true):∀ (j v:Nat),v < n→v≠0→dif par x v→Cert n par x p (j + 1) v→Cert n par x q j v
 | 0,v,hv,_,_,h=>by have:=h.1;rw [hz v hv] at this;cases this
 | 1,v,hv,h0,hd,h=>by
   have hch:∀ c,child n par v c→¬ dif par x c:=fun c hcc hdc=>by
    have:=(h c hcc hdc).1;rw [hz c hcc.1] at this;cases this
   exact ⟨hq v hv ⟨hch,fun _=>hd⟩,hch⟩
 | j + 2,v,hv,h0,hd,h=>fun c hcc hdc=>Cert.round hz hq (j + 1) c hcc.1 hcc.2.1 hdc (h c hcc hdc)
theorem Cert.start (hT:Tree n par D E) (hq:∀ v,v < n→en n par x v→p v = true):∀ (j v:Nat),v < n→v≠0→dif par x v→D v + j = E + 1→Cert n par x p j v
 | 0,v,hv,_,_,h=>by have:=hT.top v hv;omega
 | 1,v,hv,h0,hd,h=>by
   have hch:∀ c,child n par v c→¬ dif par x c:=fun c hcc _=>by
    have h1:=hT.dep c hcc.1 hcc.2.1;have h2:=hT.top c hcc.1;rw [hcc.2.2] at h1;omega
   exact ⟨hq v hv ⟨hch,fun _=>hd⟩,hch⟩
 | j + 2,v,hv,h0,hd,h=>fun c hcc hdc=>Cert.start hT hq (j + 1) c hcc.1 hcc.2.1 hdc (by
   have h1:=hT.dep c hcc.1 hcc.2.1;rw [hcc.2.2] at h1;omega)
theorem bad_back (hT:Tree n par D E) (hc:Ch n par x s) (hx:∀ v,v < n→0≤x v∧x v≤3) {v:Nat} (hv:v < n) (h0:v≠0) (hb:bad par (st par s x) v):(bad par x v∧s v = false)∨(par v≠0∧bad par x (par v)):=by
 have hd:=bad_dif hb;have hs:s v = false:=by
  cases e:s v with
  | false=>rfl
  | true=>exact (moved hc hv h0 e hd).elim
 cases e:s (par v) with
 | false =>
   left;rw [bad,df,st,st,e,hs] at hb;exact ⟨hb,hs⟩
 | true =>
   have hpn:=hT.lt v hv h0;have hxe:x v = x (par v):=Classical.byContradiction fun q=>(hc.en _ e).2.1 v ⟨hv,h0,rfl⟩ q;simp only [bad,df,st,e,hs,if_true,Bool.false_eq_true,if_false] at hb;by_cases q:par v = 0
   . exfalso;rw [if_pos q,hxe,q] at hb;have:=hx 0 hT.pos;omega
   . right;rw [if_neg q,hxe] at hb;exact ⟨q,hb⟩
def tri:Nat→Nat
 | 0=>0
 | k + 1=>tri k + k
structure Lev (n:Nat) (par:Nat→Nat) (D:Nat→Nat) (E:Nat) (x:Nat→Int) (p:Nat→Bool) (R r:Nat) (i j:Nat):Prop where
 i1:1≤i
 j1:1≤j
 up:∀ v,v < n→v≠0→D v < i→¬ bad par x v
 at_:∀ v,v < n→v≠0→D v = i→bad par x v→Cert n par x p j v
 ij:i + j≤E + 1
 bud:r + tri (E + 1 - i) + j≤R + tri (E + 1)
theorem dep_pos (hT:Tree n par D E) {v:Nat} (hv:v < n) (h0:v≠0):1≤D v:=by have:=hT.dep v hv h0;omega
theorem Lev.start (hT:Tree n par D E) (hE:1≤E) (hq:∀ v,v < n→en n par x v→p v = true) {R r:Nat} (hr:r≤R):Lev n par D E x p R r 1 E :=
 ⟨Nat.le_refl _,hE,fun v hv h0 h=>by have:=dep_pos hT hv h0;omega,fun v hv h0 h hb=>Cert.start hT hq E v hv h0 (bad_dif hb) (by omega),by omega,by
   rw [show E + 1 - 1 = E by omega,tri];omega⟩
theorem Lev.step (hT:Tree n par D E) (hc:Ch n par x s) (hx:∀ v,v < n→0≤x v∧x v≤3) {p':Nat→Bool} {R r i j:Nat} (h:Lev n par D E x p R r i j)
 (hp:∀ v,v < n→p v = true→s v = false→en n par (st par s x) v→p' v = true):Lev n par D E (st par s x) p' R r i j:=by
 refine ⟨h.i1,h.j1,fun v hv h0 hi hb=>?_,fun v hv h0 hi hb=>?_,h.ij,h.bud⟩
 . rcases bad_back hT hc hx hv h0 hb with ⟨q,_⟩ | ⟨q1,q2⟩
   . exact h.up v hv h0 hi q
   . exact h.up (par v) (hT.lt v hv h0) q1 (by have:=hT.dep v hv h0;omega) q2
 . rcases bad_back hT hc hx hv h0 hb with ⟨q,q2⟩ | ⟨q1,q2⟩
   . exact Cert.step hT hc hp j v hv h0 (bad_dif q) q2 (h.at_ v hv h0 hi q)
   . exact (h.up (par v) (hT.lt v hv h0) q1 (by have:=hT.dep v hv h0;omega) q2).elim
theorem Lev.round (hT:Tree n par D E) {q:Nat→Bool} {R r i j:Nat} (h:Lev n par D E x p R r i j) (hz:∀ v,v < n→p v = false) (hq:∀ v,v < n→en n par x v→q v = true) (hb:∃ v,v < n∧v≠0∧bad par x v) :
 ∃ i' j',Lev n par D E x q R (r + 1) i' j':=by
 by_cases h1:j = 1
 . subst h1;have no:∀ v,v < n→v≠0→D v < i + 1→¬ bad par x v:=fun v hv h0 hi hbv=>by
    by_cases e:D v = i
    . have:=(h.at_ v hv h0 e hbv).1;rw [hz v hv] at this;cases this
    . exact h.up v hv h0 (by omega) hbv
   obtain ⟨v,hv,h0,hbv⟩:=hb;have hiE:i + 1≤E:=by
    have:=hT.top v hv;apply Classical.byContradiction;intro hne;exact no v hv h0 (by omega) hbv
   have hbud:=h.bud;refine ⟨i + 1,E - i,by omega,by omega,no,fun v hv h0 hi hbv=>Cert.start hT hq (E - i) v hv h0 (bad_dif hbv) (by omega),by omega,?_⟩;have e:E + 1 - i = (E + 1 - (i + 1)) + 1:=by omega
   rw [e,tri] at hbud;omega
 . have hj:=h.j1;obtain ⟨k,rfl⟩:∃ k,j = k + 1:=⟨j - 1,by omega⟩;have hbud:=h.bud;have hij:=h.ij;exact ⟨i,k,h.i1,by omega,h.up,fun v hv h0 hi hbv=>Cert.round hz hq k v hv h0 (bad_dif hbv) (h.at_ v hv h0 hi hbv),by omega,by omega⟩
end Go.Plain.Clock
namespace Go.Proofs.YtpgkdcekpineaaaGreatDoor
open Go.Eng
set_option maxRecDepth 100000
set_option linter.unusedVariables false
theorem treeB_tk (g:G) (c:Cf):treeB g (tkC c) = treeB g c:=by
 rw [Bool.eq_iff_iff,treeB_iff,treeB_iff,tkC_len];refine ⟨fun h v hv=>?_,fun h v hv=>?_⟩
 . have:=h v hv
   rwa [tkC_row,gI_take2 _ 0 (by omega),gI_take2 _ 1 (by omega)] at this
 . rw [tkC_row,gI_take2 _ 0 (by omega),gI_take2 _ 1 (by omega)];exact h v hv
theorem csmall_tk {c:Cf} (h:CSmall c):CSmall (tkC c):=by
 refine ⟨by rw [tkC_len];exact h.len,fun r hr=>?_⟩;obtain ⟨a,ha,rfl⟩:=List.mem_map.1 hr;have:=h.rows a ha;rw [List.length_take];omega
end Go.Proofs.YtpgkdcekpineaaaGreatDoor
namespace Go.Proofs.YtpgkdcekpineaaaGreatDoor
open Go.Eng
set_option maxRecDepth 100000
set_option linter.unusedVariables false
end Go.Proofs.YtpgkdcekpineaaaGreatDoor
namespace Go.Plain.Wave
open Go.Plain.Clock
variable {n:Nat} {par:Nat→Nat} {D:Nat→Nat} {E:Nat} {s b s' b' m p:Nat→Bool}
def ord (par:Nat→Nat) (s b:Nat→Bool) (v:Nat):Prop:=s (par v) = true∨(s v = s (par v)∧b v = b (par v))
def tk (par:Nat→Nat) (s b:Nat→Bool) (v:Nat):Prop:=b (par v)≠b v∨(s v = true∧s (par v) = false)
def fin (n:Nat) (par:Nat→Nat) (s b:Nat→Bool) (v:Nat):Prop:=s v = true∧∀ u,child n par v u→s u = false∧b u = b v
def en (n:Nat) (par:Nat→Nat) (s b:Nat→Bool) (v:Nat):Prop:=if v = 0 then s 0 = false∨fin n par s b 0 else tk par s b v∨fin n par s b v
structure Ch (n:Nat) (par:Nat→Nat) (s b m s' b':Nat→Bool):Prop where
 lt:∀ v,m v = true→v < n
 rest:∀ v,v < n→m v = false→s' v = s v∧b' v = b v
 root:m 0 = true→(s 0 = false∧s' 0 = true∧b' 0 = !b 0)∨(fin n par s b 0∧s' 0 = false∧b' 0 = b 0)
 oth:∀ v,m v = true→v≠0→(tk par s b v∧s' v = s (par v)∧b' v = b (par v))∨(¬ tk par s b v∧fin n par s b v∧s' v = false∧b' v = b v)
theorem not_ord {v:Nat} (h:¬ ord par s b v):tk par s b v:=by
 rw [ord,not_or] at h;rw [tk];revert h;generalize s (par v) = a;generalize b (par v) = c;cases a <;> cases c <;> cases s v <;> cases b v <;> simp
theorem ord_step (hT:Tree n par D E) (hc:Ch n par s b m s' b') {v:Nat} (hv:v < n) (h0:v≠0) (hu:par v≠0→ord par s b (par v)) (h:ord par s b v∨m v = true):ord par s' b' v:=by
 have hun:=hT.lt v hv h0;have hch:child n par (par v) v:=⟨hv,h0,rfl⟩
 -- the parent finishes: the child is as it,and rests
 have hfin:fin n par s b (par v)→s' (par v) = false→b' (par v) = b (par v)→ord par s' b' v:=fun hf e1 e2=>by
  obtain ⟨c1,c2⟩:=hf.2 v hch;have hm:m v = false:=by
   cases e:m v with
   | false=>rfl
   | true =>
     rcases hc.oth v e h0 with ⟨q,_⟩ | ⟨_,q,_⟩
     . rcases q with q | q
       . exact (q c2.symm).elim
       . rw [c1] at q;exact (Bool.noConfusion q.1)
     . rw [fin,c1] at q;exact (Bool.noConfusion q.1)
  obtain ⟨r1,r2⟩:=hc.rest v hv hm;exact .inr ⟨by rw [r1,c1,e1],by rw [r2,c2,e2]⟩
 cases em:m (par v) with
 | false =>
   obtain ⟨r1,r2⟩:=hc.rest _ hun em;cases ev:m v with
   | false =>
     obtain ⟨q1,q2⟩:=hc.rest v hv ev;rcases h with h | h
     . rw [ord,r1,r2,q1,q2];exact h
     . rw [ev] at h;cases h
   | true =>
     rcases hc.oth v ev h0 with ⟨_,q1,q2⟩ | ⟨q0,qf,_⟩
     . exact .inr ⟨by rw [q1,r1],by rw [q2,r2]⟩
     . left;rw [r1];cases e:s (par v) with
       | true=>rfl
       | false=>exact (q0 (.inr ⟨qf.1,e⟩)).elim
 | true =>
   by_cases e0:par v = 0
   . rw [e0] at em hfin;rcases hc.root em with ⟨_,q,_⟩ | ⟨q,q1,q2⟩
     . left;rw [e0];exact q
     . exact hfin q q1 q2
   . rcases hc.oth _ em e0 with ⟨q,q1,_⟩ | ⟨_,q,q1,q2⟩
     . left;rw [q1];cases e:s (par (par v)) with
       | true=>rfl
       | false =>
         rcases hu e0 with hx | ⟨x1,x2⟩
         . rw [e] at hx;cases hx
         . rcases q with q | q
           . exact (q x2.symm).elim
           . rw [x1,e] at q;exact (Bool.noConfusion q.1)
     . exact hfin q q1 q2
def okUp (n:Nat) (par:Nat→Nat) (D:Nat→Nat) (s b:Nat→Bool) (k:Nat):Prop:=∀ v,v < n→v≠0→D v≤k→ord par s b v
theorem okUp.step (hT:Tree n par D E) (hc:Ch n par s b m s' b') {k:Nat} (h:okUp n par D s b k):okUp n par D s' b' k:=fun v hv h0 hd =>
 ord_step hT hc hv h0 (fun e=>h _ (hT.lt v hv h0) e (by have:=hT.dep v hv h0;omega)) (.inl (h v hv h0 hd))
structure Lev (n:Nat) (par:Nat→Nat) (D:Nat→Nat) (s b p:Nat→Bool) (j:Nat):Prop where
 ok:okUp n par D s b j
 pend:∀ v,v < n→v≠0→D v = j + 1→¬ ord par s b v→p v = true
theorem not_en {v:Nat} (h0:v≠0) (h:¬ ord par s b v):en n par s b v:=by rw [en,if_neg h0];exact .inl (not_ord h)
theorem Lev.start (hT:Tree n par D E) (hp:∀ v,v < n→en n par s b v→p v = true):Lev n par D s b p 0 :=
 ⟨fun v hv h0 hd=>by have:=hT.dep v hv h0;omega,fun v hv h0 _ ho=>hp v hv (not_en h0 ho)⟩
theorem Lev.step (hT:Tree n par D E) (hc:Ch n par s b m s' b') {j:Nat} (h:Lev n par D s b p j) {p':Nat→Bool} (hp:∀ v,v < n→p v = true→m v = false→en n par s' b' v→p' v = true):Lev n par D s' b' p' j :=
 ⟨h.ok.step hT hc,fun v hv h0 hd ho=>by
   have key:=fun q=>ord_step hT hc hv h0 (fun e=>h.ok _ (hT.lt v hv h0) e (by have:=hT.dep v hv h0;omega)) q;refine hp v hv (h.pend v hv h0 hd fun q=>ho (key (.inl q))) ?_ (not_en h0 ho);cases e:m v with
   | false=>rfl
   | true=>exact (ho (key (.inr e))).elim⟩
theorem Lev.round {j:Nat} (h:Lev n par D s b p j) (hz:∀ v,v < n→p v = false) {q:Nat→Bool} (hq:∀ v,v < n→en n par s b v→q v = true):Lev n par D s b q (j + 1) :=
 ⟨fun v hv h0 hd=>by
   by_cases e:D v = j + 1
   . exact Classical.byContradiction fun ho=>by have:=h.pend v hv h0 e ho;rw [hz v hv] at this;cases this
   . exact h.ok v hv h0 (by omega),fun v hv h0 _ ho=>hq v hv (not_en h0 ho)⟩
end Go.Plain.Wave
namespace Go.Proofs.YtpgkdcekpineaaaGreatDoor
open Go.Eng
set_option maxRecDepth 100000
set_option linter.unusedVariables false
def qpT:Tm:=.bin 35 (.leaf 11 0) (.leaf 5 1)
def takeC:Tm:=.bin 42 (.bin 36 (.leaf 12 3) (.leaf 5 3)) (.bin 41 (.leaf 5 2) (.un 19 (.leaf 12 2)))
def begG:Tm:=.bin 41 (.leaf 10 0) (.un 19 (.leaf 5 2))
def takeG:Tm:=.bin 41 (.un 19 (.leaf 10 0)) (.agg 21 (.bin 41 qpT takeC))
def finC:Tm:=.bin 41 (.un 19 (.leaf 12 2)) (.bin 35 (.leaf 12 3) (.leaf 5 3))
def finG:Tm:=.bin 41 (.leaf 5 2) (.agg 20 (.bin 42 (.bin 36 (.leaf 12 1) (.leaf 17 0)) finC))
def takeT (x:Int):Tm:=.agg 21 (.bin 41 qpT (.leaf 12 x))
def vWv:List Vr:=[⟨ByteArray.mk #[100],1,0,0,1,0⟩,⟨ByteArray.mk #[112],3,0,0,0,0⟩,⟨ByteArray.mk #[115],2,0,0,0,0⟩,⟨ByteArray.mk #[98],2,0,0,0,0⟩]
def pWav:Pr:=⟨ByteArray.mk #[119,97,118,101],vWv,[⟨ByteArray.mk #[116,111,112],topG,[(0,.leaf 1 0),(1,.leaf 4 0)]⟩,
 ⟨ByteArray.mk #[108,111,119],lowG,[(0,dTm),(1,pTm)]⟩,
 ⟨ByteArray.mk #[98,101,103,105,110],begG,[(2,.leaf 2 0),(3,.un 19 (.leaf 5 3))]⟩,
 ⟨ByteArray.mk #[116,97,107,101],takeG,[(2,takeT 2),(3,takeT 3)]⟩,
 ⟨ByteArray.mk #[102,105,110,105,115,104],finG,[(2,.leaf 3 0)]⟩]⟩
end Go.Proofs.YtpgkdcekpineaaaGreatDoor
namespace Go.Proofs.YtpgkdcekpineaaaGreatDoor
open Go.Eng
set_option maxRecDepth 100000
set_option linter.unusedVariables false
end Go.Proofs.YtpgkdcekpineaaaGreatDoor
namespace Go.Proofs.YtpgkdcekpineaaaGreatDoor
open Go.Eng
set_option maxRecDepth 100000
set_option linter.unusedVariables false
end Go.Proofs.YtpgkdcekpineaaaGreatDoor
namespace Go.Proofs.YtpgkdcekpineaaaGreatDoor
open Go.Eng
set_option maxRecDepth 100000
set_option linter.unusedVariables false
def bWv (g:G) (v x:Nat):Int × Int:=if x = 0 then (0,g.ids.length) else if x = 1 then (-1,((gR g.ports v).length:Int) - 1) else (0,1)
def G.wconf (g:G) (c:Cf):Bool:=conf g.ids.length 4 (bWv g) c
theorem wconf_g (g:G) (c:Cf):conf g.ids.length [(g.ids.length:Int),-1,1,1].length (bG g [(g.ids.length:Int),-1,1,1]) c = g.wconf c:=conf_ext' (fun v x hv hx=>by
 have e:x = 0∨x = 1∨x = 2∨x = 3:=by simp at hx;omega
 rcases e with rfl | rfl | rfl | rfl
 . rw [bG,show gI [(g.ids.length:Int),-1,1,1] 0 = g.ids.length from rfl,if_neg (by omega)];rfl
 . rfl
 . rfl
 . rfl)
theorem wconf_facts {g:G} {c:Cf} (h:g.wconf c = true):c.length = g.ids.length∧∀ v,v < c.length→(gC c v).length = 4∧0≤gI (gC c v) 0∧gI (gC c v) 0≤g.ids.length∧-1≤gI (gC c v) 1∧gI (gC c v) 1 < (gR g.ports v).length∧(0≤gI (gC c v) 2∧gI (gC c v) 2≤1)∧0≤gI (gC c v) 3∧gI (gC c v) 3≤1:=by
 have:=conf_iff.1 h;refine ⟨this.1,fun v hv=>?_⟩;have h2:=this.2 v (by omega);have h3:=h2.2 0 (by omega);have h4:=h2.2 1 (by omega);have h5:=h2.2 2 (by omega);have h6:=h2.2 3 (by omega);simp only [bWv,if_true,Nat.one_ne_zero,if_false,show ¬ (2:Nat) = 0 by decide,show ¬ (2:Nat) = 1 by decide,show ¬ (3:Nat) = 0 by decide,show ¬ (3:Nat) = 1 by decide] at h3 h4 h5 h6;omega
theorem ptokW {g:G} {c:Cf} (h:g.valid = true) (hc:g.wconf c = true):PtOk g c:=by
 obtain ⟨f1,f2,f3,f4,f5,f6,f7⟩:=val_facts h;obtain ⟨e1,e2⟩:=wconf_facts hc;exact ⟨by omega,fun v hv=>by have:=e2 v hv;omega,fun v hv=>by have:=e2 v hv;omega⟩
theorem four_le (a b d e:Int) (f:Nat→Nat→V) (h0:f 0 0 = .int .i64 a) (h1:f 1 0 = .int .i64 b) (h2:f 2 0 = .int .i64 d) (h3:f 3 0 = .int .i64 e):∀ i j:Nat,i < 4→j < 1→VLe (f i j) (vI [a,b,d,e] i j):=by
 intro i j hi hj;obtain rfl:j = 0:=by omega
 rcases (show i = 0∨i = 1∨i = 2∨i = 3 by omega) with rfl | rfl | rfl | rfl
 . rw [h0];exact VLe.rfl
 . rw [h1];exact VLe.rfl
 . rw [h2];exact VLe.rfl
 . rw [h3];exact VLe.rfl
theorem wfit_ok (g:G) (hs:g.Small):Ret Tryz.prog 13 [g.v] (.bool g.conn):=by
 have h:=conn_ok g hs;refine ret_frz rfl ?_;refine fn_rule mixed Tryz.func13 rfl hc13 hr13 rfl ?_;cases hc:g.conn
 all_goals rw [hc] at h
 all_goals
  repeat' ((conv=>whnf);first | (refine Br.tt ?_) | (refine Br.ff ?_) | (refine h.go ?_))
  all_goals (conv=>whnf)
  exact VLe.rfl
theorem wconfiguration_ok (g:G) (hs:g.Small) (c:Cf) (hc:CSmall c):Ret Tryz.prog 39 [g.v,cV c] (.bool (g.conn && g.wconf c)):=by
 have hf:=wfit_ok g hs;refine ret_frz rfl ?_;refine fn_rule mixed Tryz.func39 rfl hc39 hr39 rfl ?_;cases hg:g.conn with
 | true =>
   rw [hg] at hf;rw [Bool.true_and];obtain ⟨h1,_⟩:=conn_facts hg;obtain ⟨f1,f2,f3,f4,f5,f6,f7⟩:=val_facts h1;have hb:=bconf_ok g hs f3 c hc [(g.ids.length:Int),-1,1,1] (by simp);rw [wconf_g] at hb
   repeat' ((conv=>whnf);first | (refine Br.tt ?_) | (refine hf.go ?_) | (refine call_frz [1] hb ⟨by decide,VLe.rfl,VLe.rfl,VLe.fz rfl (fun h=>h) (four_le _ _ _ _ _ rfl rfl rfl rfl),True.intro⟩ ?_) | (refine Br.any (fun _=>?_) (fun _=>?_)))
   all_goals (conv=>whnf)
   all_goals exact VLe.bool (Eq.symm (by assumption))
 | false =>
   rw [hg] at hf
   repeat' ((conv=>whnf);first | (refine Br.ff ?_) | (refine hf.go ?_))
   all_goals (conv=>whnf)
   all_goals exact VLe.rfl
theorem wtruth_ok (s:ByteArray):Ret Tryz.prog 33 [.str s] (.agg [.str s,.int .i64 2,.int .i64 0,.int .i64 0,.int .i64 0,.int .i64 0]):=by
 refine ret_frz rfl ?_;refine fn_rule mixed Tryz.func33 rfl hc33 hr33 rfl ?_
 repeat' ((conv=>whnf);first | fail)
 all_goals (conv=>whnf)
 exact VLe.rfl
theorem wvars_ok:Ret Tryz.prog 8 [] (.fz vWv.length 6 false (vV vWv)):=by
 refine ret_frz rfl ?_;refine fn_rule mixed Tryz.func8 rfl hc8 hr8 rfl ?_
 repeat' ((conv=>whnf);first | (refine Br.tt ?_) | (refine Len.mk (by omega) ?_) | (refine fn_rule mixed Tryz.func32 rfl hc32 hr32 rfl ?_) | (refine (cnumber_ok _ _ _ _).go ?_) | (refine (cpointer_ok _).go ?_) | (refine (wtruth_ok _).go ?_))
 all_goals (conv=>whnf)
 refine VLe.fz rfl (fun h=>h) (fun i j hi hj=>?_);rcases (show i = 0∨i = 1∨i = 2∨i = 3 by omega) with rfl | rfl | rfl | rfl
 all_goals
  rcases (show j = 0∨j = 1∨j = 2∨j = 3∨j = 4∨j = 5 by omega) with rfl | rfl | rfl | rfl | rfl | rfl
 all_goals exact VLe.of_eq rfl
theorem wtree_ok (c:Cf) (hc:c.length≤1000) (hr:∀ v,v < c.length→(gC c v).length = 4):Ret Tryz.prog 41 [cV c] (cV (tkC c)):=by
 refine ret_frz rfl ?_;refine fn_rule mixed Tryz.func41 rfl hc41 hr41 rfl ?_
 repeat' ((conv=>whnf);first | (refine Bd.nat (by omega) ?_) | (refine Len.mk (by omega) ?_) | (refine MkS.vec ?_))
 all_goals (conv=>whnf)
 refine loop_w mixed [3,9,10] [] [1,2,3,4,5,6,7,8,9,10,11,12,13,14,15,16,17,18,19,20,21,22,23,24,25,26,27,28,29] [0] (fun v:Nat=>[(11,.int .i64 v)]) (fun v=>[(0,.vec c.length 1 (rowsTk c v))]) (fun m v=>m = c.length - v∧v≤c.length) c.length 0 ⟨rfl,Nat.zero_le _⟩ rfl (fun _=>rfl) ?_ ?_
 . refine weak_by (fun _ _=>[(0,some 0)]) ?_ ?_ rfl
   . repeat' (first | exact True.intro | (refine ⟨⟨_,rfl,?_⟩,?_⟩) | exact VRen.kf rfl | exact VRen.vec rfl rfl rfl)
   . repeat' (first | exact ⟨Nat.le_refl _,rfl,fun i j hi hj=>VLe.of_eq (by obtain rfl:j = 0:=(by omega);rfl)⟩ | exact True.intro | (refine ⟨⟨_,rfl,?_⟩,?_⟩))
 rintro m v ⟨hm,hv⟩;by_cases hvn:v < c.length
 . have h3:=hr v hvn
   repeat' ((conv=>whnf);first | (refine Bd.mk 2 rfl (by omega) ?_) | (refine Br.dec ?_ ?_ <;> intro _ <;> try omega) | (refine Ar.i64 (by omega) (by omega) ?_) | (refine Ix.nat (by omega) ?_) | (refine Bd.mk 0 rfl (by omega) ?_) | (refine Ltn.mk (by omega) ?_))
   all_goals (conv=>whnf)
   refine ⟨c.length - (v + 1),v + 1,by omega,⟨rfl,by omega⟩,?_⟩;refine weak_by (fun _ _=>[(0,some 0)]) ?_ ?_ rfl
   . repeat' (first | exact True.intro | (refine ⟨⟨_,rfl,?_⟩,?_⟩) | exact VRen.kf rfl | exact VRen.vec rfl rfl rfl)
   . repeat' (first | exact ⟨Nat.le_refl _,rfl,fun i t hi ht=>by simp only [Nat.zero_add];exact vle_tk c v i t _ _ (fun a b=>VLe.of_eq (by simp [shiftF])) ht⟩ | exact True.intro | (refine ⟨⟨_,rfl,?_⟩,?_⟩))
 . repeat' ((conv=>whnf);first | (refine Br.dec ?_ ?_ <;> intro _ <;> try omega) | (refine Len.mk (by omega) ?_))
   all_goals (conv=>whnf)
   refine VLe.fz (tkC_len c).symm (fun h=>h) (fun i t hi ht=>?_);have e1:shiftF 0 (rowsTk c v) i t = .fz 2 1 false (vI (gC c i)):=by rw [sh_at,Nat.zero_add];exact if_pos (by omega)
   have hl:(gC (tkC c) i).length = 2:=by rw [tkC_row,List.length_take,hr i hi];rfl
   rw [e1];show VLe _ (.fz (gC (tkC c) i).length 1 false (vI (gC (tkC c) i)));rw [hl];refine VLe.fz rfl (fun h=>h) (fun a b ha hb=>VLe.of_eq ?_);simp only [vI];rw [tkC_row,gI_take2 _ _ ha]
theorem bconf_tkW {g:G} {c:Cf} (h:g.wconf c = true):g.bconf (tkC c) = true:=by
 have h1:=conf_iff.1 h;refine conf_iff.2 ⟨by rw [tkC_len];exact h1.1,fun v hv=>?_⟩;have h2:=h1.2 v hv;refine ⟨by rw [tkC_row,List.length_take,h2.1];rfl,fun x hx=>?_⟩;have h3:=h2.2 x (by omega);rw [tkC_row,gI_take2 _ x hx];rcases (show x = 0∨x = 1 by omega) with rfl | rfl
 . rw [bG,show gI [(g.ids.length:Int),-1] 0 = g.ids.length from rfl,if_neg (by omega)];exact h3
 . exact h3
def orD (c:Cf) (v:Nat) (u:Int):Prop:=gI (gC c u.toNat) 2 = 1∨(gI (gC c v) 2 = gI (gC c u.toNat) 2∧gI (gC c v) 3 = gI (gC c u.toNat) 3)
instance (c:Cf) (v:Nat) (u:Int):Decidable (orD c v u):=inferInstanceAs (Decidable (_∨_))
def orB (g:G) (c:Cf):Bool:=decide (∀ v,v < c.length→0≤tw g c v→orD c v (tw g c v))
theorem orB_iff {g:G} {c:Cf}:orB g c = true↔∀ v,v < c.length→0≤tw g c v→orD c v (tw g c v):=by rw [orB,decide_eq_true_eq]
theorem orB_no {g:G} {c:Cf} {v:Nat} (hv:v < c.length) (h0:0≤tw g c v) (hn:¬ orD c v (tw g c v)):orB g c = false:=by
 cases e:orB g c with
 | false=>rfl
 | true=>exact (hn (orB_iff.1 e v hv h0)).elim
def G.wleg (g:G) (c:Cf):Bool:=g.conn && g.wconf c && treeB g c && orB g c
theorem wlegit_ok (g:G) (hs:g.Small) (c:Cf) (hc:CSmall c):Ret Tryz.prog 15 [g.v,cV c] (.bool (g.wleg c)):=by
 have h0:=wconfiguration_ok g hs c hc;refine ret_frz rfl ?_;refine fn_rule mixed Tryz.func15 rfl hc15 hr15 rfl ?_;rw [G.wleg];cases hgc:g.conn && g.wconf c with
 | false =>
   rw [hgc] at h0
   repeat' ((conv=>whnf);first | (refine Br.ff ?_) | (refine h0.go ?_))
   all_goals (conv=>whnf)
   exact VLe.rfl
 | true =>
   rw [hgc] at h0;rw [Bool.true_and];rw [Bool.and_eq_true] at hgc;obtain ⟨h1,_⟩:=conn_facts hgc.1;obtain ⟨f1,f2,f3,f4,f5,f6,f7⟩:=val_facts h1;obtain ⟨e1,e2⟩:=wconf_facts hgc.2;have ht:=wtree_ok c (by omega) (fun v hv=>(e2 v hv).1);have hb:=blegit_ok g hs (tkC c) (csmall_tk hc);rw [hgc.1,bconf_tkW hgc.2,treeB_tk,Bool.true_and,Bool.true_and] at hb;have hpt:=ptokW h1 hgc.2;have hw:=towards_ok g h1 c hpt;have hwl:=twL_len g c c.length;cases htb:treeB g c with
   | false =>
     rw [htb] at hb
     repeat' ((conv=>whnf);first | (refine Br.tt ?_) | (refine Br.ff ?_) | (refine h0.go ?_) | (refine ht.go ?_) | (refine hb.go ?_) | (refine And.intro rfl ?_))
     all_goals (conv=>whnf)
     exact VLe.rfl
   | true =>
     rw [htb] at hb;rw [Bool.true_and]
     repeat' ((conv=>whnf);first | (refine Br.tt ?_) | (refine h0.go ?_) | (refine ht.go ?_) | (refine hb.go ?_) | (refine hw.go ?_) | (refine And.intro rfl ?_))
     all_goals (conv=>whnf)
     refine loop_r mixed [1,20,21] (fun i:Nat=>[(22,.int .i64 i)]) (fun m i=>m = c.length - i∧i≤c.length∧∀ v,v < i→0≤tw g c v→orD c v (tw g c v)) c.length 0 ⟨rfl,Nat.zero_le _,fun v hv=>by omega⟩ ?_ ?_
     . exact weak_b (fun _ _=>[(0,some 0)])
     rintro m i ⟨hm,hi,hall⟩;by_cases hil:i < c.length
     . have hx:=twL_get g c hil;have hr:=e2 i hil;obtain ⟨t1,t2⟩:=tw_treeP hgc.1 hpt htb hil;by_cases h0t:0≤tw g c i
       . have hlt:tw g c i < c.length:=by
          by_cases e:i = 0
          . have:=t1 e;omega
          . exact (t2 e).2
         have hru:=e2 (gI (twL g c c.length) i).toNat (by omega);have hod:orD c i (tw g c i)↔gI (gC c (gI (twL g c c.length) i).toNat) 2 = 1∨(gI (gC c i) 2 = gI (gC c (gI (twL g c c.length) i).toNat) 2∧gI (gC c i) 3 = gI (gC c (gI (twL g c c.length) i).toNat) 3):=by rw [hx];exact Iff.rfl
         have hno:¬ (gI (gC c (gI (twL g c c.length) i).toNat) 2 = 1∨(gI (gC c i) 2 = gI (gC c (gI (twL g c c.length) i).toNat) 2∧gI (gC c i) 3 = gI (gC c (gI (twL g c c.length) i).toNat) 3))→orB g c = false:=fun q=>orB_no hil h0t (fun e=>q (hod.1 e));have hyes:(gI (gC c (gI (twL g c c.length) i).toNat) 2 = 1∨(gI (gC c i) 2 = gI (gC c (gI (twL g c c.length) i).toNat) 2∧gI (gC c i) 3 = gI (gC c (gI (twL g c c.length) i).toNat) 3))→∀ v,v < i + 1→0≤tw g c v→orD c v (tw g c v):=fun q v hv hv0=>by
          by_cases e:v = i
          . subst e;exact hod.2 q
          . exact hall v (by omega) hv0
         have z2:Int.toNat 2 = 2:=rfl;have z3:Int.toNat 3 = 3:=rfl
         repeat' ((conv=>whnf);first | (refine Ix.mk 2 rfl (by omega) ?_) | (refine Ix.mk 3 rfl (by omega) ?_) | (refine Br.dec ?_ ?_ <;> intro _ <;> try omega) | (refine Br.bne ?_ ?_ <;> intro _ <;> try omega) | (refine Ar.i64 (by omega) (by omega) ?_) | (refine Ix.nat (by omega) ?_) | (refine Ix.int (by omega) (by omega) ?_))
         all_goals (conv=>whnf)
         all_goals first
          | (refine ⟨c.length - (i + 1),i + 1,by omega,⟨rfl,by omega,hyes (by simp_all)⟩,?_⟩
             exact weak_b (fun _ _=>[(0,some 0)]))
          | (rw [hno (by simp_all)];exact VLe.rfl)
       . repeat' ((conv=>whnf);first | (refine Br.dec ?_ ?_ <;> intro _ <;> try omega) | (refine Ar.i64 (by omega) (by omega) ?_) | (refine Ix.nat (by omega) ?_))
         all_goals (conv=>whnf)
         refine ⟨c.length - (i + 1),i + 1,by omega,⟨rfl,by omega,fun v hv hv0=>?_⟩,?_⟩
         . by_cases e:v = i
           . subst e;exact absurd hv0 h0t
           . exact hall v (by omega) hv0
         . exact weak_b (fun _ _=>[(0,some 0)])
     . repeat' ((conv=>whnf);first | (refine Br.dec ?_ ?_ <;> intro _ <;> try omega))
       all_goals (conv=>whnf)
       exact VLe.bool (orB_iff.2 (fun v hv=>hall v (by omega))).symm
end Go.Proofs.YtpgkdcekpineaaaGreatDoor
namespace Go.Proofs.YtpgkdcekpineaaaGreatDoor
open Go.Eng
set_option maxRecDepth 100000
set_option linter.unusedVariables false
def clmW (e:Int):V:=.agg [.int .i64 3,.bool true,.bool false,.int .i64 (2 * e + 1),.int .i64 (-1)]
def clmW0:V:=.agg [.int .i64 0,.bool false,.bool false,.int .i64 0,.int .i64 0]
theorem wclaim_ok (g:G) (hs:g.Small):Ret Tryz.prog 17 [g.v] (if g.conn = true then clmW g.ecc else clmW0):=by
 have hf:=wfit_ok g hs;have he:=ecc_ok g hs;refine ret_frz rfl ?_;refine fn_rule mixed Tryz.func17 rfl hc17 hr17 rfl ?_;cases hgc:g.conn with
 | true =>
   obtain ⟨r1,r2⟩:=ecc_range g hgc;rw [hgc] at hf;rw [if_pos rfl]
   repeat' ((conv=>whnf);first | (refine Br.tt ?_) | (refine Ar.i64 (by omega) (by omega) ?_) | (refine hf.go ?_) | (refine he.go ?_))
   all_goals (conv=>whnf)
   exact VLe.rfl
 | false =>
   rw [hgc] at hf;rw [if_neg (by simp)]
   repeat' ((conv=>whnf);first | (refine Br.ff ?_) | (refine hf.go ?_))
   all_goals (conv=>whnf)
   exact VLe.rfl
end Go.Proofs.YtpgkdcekpineaaaGreatDoor
