import Derived.Test.YthbiicpcbnijiaaGreatDoorAN1
import Derived.Test.YthbiicpcbnijiaaGreatDoorPLI
import Derived.Test.YthbiicpcbnijiaaGreatDoorDC5
namespace Go.Proofs.YthbiicpcbnijiaaGreatDoor
open Go.Eng
set_option maxRecDepth 100000
set_option linter.unusedVariables false
def mT:Tm:=.leaf 5 0
def smT:Tm:=.agg 21 (.leaf 12 0)
def pInd:Pr:=⟨ByteArray.mk #[105,110,100,101,112,101,110,100,101,110,116],vM,[⟨ByteArray.mk #[108,101,97,118,101],.bin 41 mT smT,[(0,.leaf 3 0)]⟩,
 ⟨ByteArray.mk #[101,110,116,101,114],.bin 41 (.un 19 mT) (.un 19 smT),[(0,.leaf 2 0)]⟩]⟩
theorem itru_ne (b:Bool):(truI b≠0)↔b = true:=by cases b <;> simp [truI]
theorem itru_eq0 (b:Bool):(truI b = 0)↔b = false:=by cases b <;> simp [truI]
abbrev adN (g:G):Nat→Nat→Bool:=adj g
theorem adj_adj {g:G} (hg:g.valid = true):Go.Plain.Adj g.ids.length (adN g):=by
 obtain ⟨f1,f2,f3,f4,f5,f6,f7⟩:=val_facts hg;refine ⟨fun u v hu hv h=>adj_sym hg (by omega) h,fun v hv=>adj_irr hg (by omega),fun u v hu h=>?_⟩;obtain ⟨l,hl,e⟩:=adj_iff.1 h;have:=(okR_iff.1 (f6 u (by omega))).1 l hl;omega
def isBool (c:Cf) (n x:Nat):Prop:=∀ v,v < n→gI (gC c v) x = 0∨gI (gC c v) x = 1
theorem one_tru {c:Cf} {n x:Nat} (h:isBool c n x) {v:Nat} (hv:v < n):gI (gC c v) x = truI (one c x v):=by
 rcases h v hv with e | e <;> simp [one,e,truI]
theorem cnt_pos_iff (l:List Int):0 < cntI l↔∃ a∈l,a≠0:=by
 rw [cntI,List.countP_pos_iff];simp only [decide_eq_true_eq]
theorem gF_of_mem {l:List (Int × Int)} {a:Int × Int} (h:a∈l):∃ i,i < l.length∧gF l i = a:=by
 obtain ⟨i,hi,e⟩:=List.mem_iff_getElem.1 h;exact ⟨i,hi,by simp [gF,List.getD,hi,e]⟩
theorem some_sem {g:G} (hg:g.valid = true) {c:Cf} (x:Nat) (hb:isBool c g.ids.length x) {v:Nat} (hv:v < g.ids.length) (port:Int) :
 (Tm.agg 21 (.leaf 12 x)).sem g c v port = truI (Go.Plain.nbM g.ids.length (adN g) (one c x) v):=by
 obtain ⟨f1,f2,f3,f4,f5,f6,f7⟩:=val_facts hg;have hok:=(okR_iff.1 (f6 v (by omega))).1;show truI (decide (0 < cntI ((List.range (gR g.ports v).length).map fun (i:Nat)=>gI (gC c (nbV g v i)) x))) = _;congr 1;rw [Bool.eq_iff_iff,decide_eq_true_eq,cnt_pos_iff,Go.Plain.nbM_iff];constructor
 . rintro ⟨a,ha,h0⟩;obtain ⟨i,hi,rfl⟩:=List.mem_map.1 ha;rw [List.mem_range] at hi;have hm:=gF_mem hi;have:=hok _ hm;refine ⟨nbV g v i,by simp only [nbV,Int.toNat_natCast];omega,adj_iff.2 ⟨_,hm,by simp [nbV]⟩,?_⟩;rw [one,decide_eq_true_eq];rcases hb (nbV g v i) (by simp only [nbV,Int.toNat_natCast];omega) with e | e
   . exact (h0 e).elim
   . exact e
 . rintro ⟨u,hu,h1,h2⟩;obtain ⟨l,hl,e⟩:=adj_iff.1 h1;obtain ⟨i,hi,e2⟩:=gF_of_mem hl;refine ⟨_,List.mem_map.2 ⟨i,List.mem_range.2 hi,rfl⟩,?_⟩;rw [one,decide_eq_true_eq] at h2;have:nbV g v i = u:=by simp only [nbV,Int.toNat_natCast];rw [e2];exact e
   rw [this,h2];decide
theorem ind_gds {g:G} (hg:g.valid = true) {c:Cf} (hb:isBool c g.ids.length 0) {v:Nat} (hv:v < g.ids.length) :
 gds pInd g c v = [truI (one c 0 v && Go.Plain.nbM g.ids.length (adN g) (one c 0) v),truI (!one c 0 v && !Go.Plain.nbM g.ids.length (adN g) (one c 0) v)]:=by
 have e0:mT.sem g c v (-1) = truI (one c 0 v):=one_tru hb hv;have es:smT.sem g c v (-1) = truI (Go.Plain.nbM g.ids.length (adN g) (one c 0) v):=some_sem hg 0 hb hv (-1);have e1:(Tm.bin 41 mT smT).sem g c v (-1) = truI (one c 0 v && Go.Plain.nbM g.ids.length (adN g) (one c 0) v):=by
  show truI (decide (mT.sem g c v (-1)≠0∧smT.sem g c v (-1)≠0)) = _;rw [e0,es];congr 1;simp only [itru_ne,Bool.decide_and,Bool.decide_eq_true]
 have e2:(Tm.bin 41 (.un 19 mT) (.un 19 smT)).sem g c v (-1) = truI (!one c 0 v && !Go.Plain.nbM g.ids.length (adN g) (one c 0) v):=by
  show truI (decide (truI (decide (mT.sem g c v (-1) = 0))≠0∧truI (decide (smT.sem g c v (-1) = 0))≠0)) = _;rw [e0,es];congr 1;simp only [itru_ne,itru_eq0,decide_eq_true_eq];cases one c 0 v <;> cases Go.Plain.nbM g.ids.length (adN g) (one c 0) v <;> rfl
 exact congr (congrArg List.cons e1) (congrArg (fun x=>[x]) e2)
theorem nbr_nbM {g:G} (hg:g.valid = true) (m:Nat→Bool) {v:Nat} (hv:v < g.ids.length):nbr g (nb m g.ports.length) v = Go.Plain.nbM g.ids.length (adN g) m v:=by
 obtain ⟨f1,f2,f3,f4,f5,f6,f7⟩:=val_facts hg;have hok:=(okR_iff.1 (f6 v (by omega))).1;rw [Bool.eq_iff_iff,nbr,nbrR,List.any_eq_true,Go.Plain.nbM_iff];constructor
 . rintro ⟨l,hl,h⟩;rw [nb_bit,Bool.and_eq_true,decide_eq_true_eq] at h;exact ⟨l.1.toNat,by omega,adj_iff.2 ⟨l,hl,rfl⟩,h.2⟩
 . rintro ⟨u,hu,h1,h2⟩;obtain ⟨l,hl,e⟩:=adj_iff.1 h1;exact ⟨l,hl,by rw [nb_bit,e,h2];simp;omega⟩
theorem nbM_ext {n:Nat} {a:Nat→Nat→Bool} {m m':Go.Plain.St} (h:∀ v,v < n→m v = m' v) (v:Nat):Go.Plain.nbM n a m v = Go.Plain.nbM n a m' v:=by
 rw [Bool.eq_iff_iff,Go.Plain.nbM_iff,Go.Plain.nbM_iff];constructor <;> rintro ⟨u,hu,h1,h2⟩
 . exact ⟨u,hu,h1,by rw [← h u hu];exact h2⟩
 . exact ⟨u,hu,h1,by rw [h u hu];exact h2⟩
theorem cfl_ext {n:Nat} {a:Nat→Nat→Bool} {m m':Go.Plain.St} (h:∀ v,v < n→m v = m' v) {v:Nat} (hv:v < n):Go.Plain.cfl n a m v = Go.Plain.cfl n a m' v:=by
 rw [Go.Plain.cfl,Go.Plain.cfl,h v hv,nbM_ext h]
theorem enI_ext {n:Nat} {a:Nat→Nat→Bool} {m m':Go.Plain.St} (h:∀ v,v < n→m v = m' v) {v:Nat} (hv:v < n):Go.Plain.enI n a m v = Go.Plain.enI n a m' v:=by
 rw [Go.Plain.enI,Go.Plain.enI,h v hv,nbM_ext h]
theorem phi_ext {n:Nat} {a:Nat→Nat→Bool} {m m':Go.Plain.St} (h:∀ v,v < n→m v = m' v) {v:Nat} (hv:v < n):Go.Plain.phi n a m v = Go.Plain.phi n a m' v:=by
 rw [Go.Plain.phi,Go.Plain.phi,h v hv,nbM_ext h]
theorem pl_sum_ext {f g:Nat→Nat}:∀ {n:Nat},(∀ v,v < n→f v = g v)→Go.Plain.sumN f n = Go.Plain.sumN g n
 | 0,_=>rfl
 | n + 1,h=>by rw [Go.Plain.sumN,Go.Plain.sumN,pl_sum_ext (fun v hv=>h v (by omega)),h n (by omega)]
theorem cnt_sumI (s:Nat):∀ n,cnt s n = Go.Plain.sumN (fun v=>if s.testBit v = true then 1 else 0) n
 | 0=>rfl
 | n + 1=>by
   rw [cnt,Go.Plain.sumN,← cnt_sumI s n];cases s.testBit n <;> simp
theorem icnt_cut {s n:Nat} (hs:s < 2 ^ n):∀ k,cnt s (n + k) = cnt s n
 | 0=>rfl
 | k + 1=>by
   rw [← Nat.add_assoc,cnt,icnt_cut hs k];have:s.testBit (n + k) = false:=Nat.testBit_lt_two_pow (Nat.lt_of_lt_of_le hs (Nat.pow_le_pow_right (by omega) (by omega)));rw [this];simp
theorem ipart_lt {s n:Nat} {p:Nat→Bool} (h:Part s (nb p n)):s < 2 ^ n:=by
 apply Nat.lt_of_not_le;intro hge;obtain ⟨i,hi1,hi2⟩:=Nat.exists_ge_and_testBit_of_ge_two_pow (n:=n) hge;have:=h i hi2;rw [nb_bit,Bool.and_eq_true,decide_eq_true_eq] at this;omega
end Go.Proofs.YthbiicpcbnijiaaGreatDoor
namespace Go.Proofs.YthbiicpcbnijiaaGreatDoor
open Go.Eng Go.Plain
set_option maxRecDepth 100000
set_option linter.unusedVariables false
theorem part_none {s e:Nat} (h:Part s e) (h0:e = 0):s = 0:=Nat.eq_of_testBit_eq fun i=>by
 rw [Nat.zero_testBit];cases q:s.testBit i with
 | false=>rfl
 | true=>have:=h i q;rw [h0] at this;simp at this
theorem cnt_pos {s n:Nat} (h0:s≠0) (hs:s < 2 ^ n):1≤cnt s n:=by
 apply Classical.byContradiction;intro hc;apply h0;have hz:cnt s n = 0:=by omega
 have key:∀ n,cnt s n = 0→∀ i,i < n→s.testBit i = false:=by
  intro n
  induction n with
  | zero=>intro _ i hi;omega
  | succ n ih =>
    intro h i hi;rw [cnt] at h;cases e:s.testBit n with
    | true=>rw [e] at h;simp at h
    | false =>
      rw [e] at h;by_cases q:i = n
      . subst q;exact e
      . exact ih (by simpa using h) i (by omega)
 refine Nat.eq_of_testBit_eq fun i=>?_;rw [Nat.zero_testBit];by_cases hi:i < n
 . exact key n hz i hi
 . exact Nat.testBit_lt_two_pow (Nat.lt_of_lt_of_le hs (Nat.pow_le_pow_right (by omega) (by omega)))
theorem stepK_pos {p:Pr} {g:G} {kd:Int} {c:Cf} {s:Nat} (h:StepK p g kd c s):1≤cnt s 32:=cnt_pos h.ne (by have:=h.lt;omega)
end Go.Proofs.YthbiicpcbnijiaaGreatDoor
namespace Go.Proofs.YthbiicpcbnijiaaGreatDoor
open Go.Eng Go.Plain
set_option maxRecDepth 100000
set_option linter.unusedVariables false
set_option linter.unusedSectionVars false
section
variable {p:Pr} (hp:PrOk p) {g:G} (hg:g.valid = true) {kd:Int} (hk:dk kd = true) {leg:Cf→Bool} {R M:Int} {Inv:Cf→Cnt→Prop} (hS:Srv p g kd leg R M Inv) (he:∀ c,(chs g kd (enN p g c)).2 = 0)
include hp hg hk he
theorem stepK_of {k s:Nat} (hs:s∈(chs g kd (enN p g (cfK p g k))).1):StepK p g kd (cfK p g k) s:=by
 have h32:=en_32 p hg (cfK p g k);have h24:=en_24 p hg (cfK p g k);have h1:=(chs_mem hk h32 (chs_lt h32 s hs) (he _)).1 hs;obtain ⟨a,b,c⟩:=inner_iff.1 h1;have hpt:=(part_iff (chs_lt h32 s hs)).1 b;exact ⟨a,hpt,c,Nat.lt_of_le_of_lt hpt.le h24⟩
theorem arc_step {k:Nat} {a:Nat × Nat} (ha:a∈(sysP p g kd).ar k):StepK p g kd (cfK p g k) a.1∧a.2 = rkC p g (stepC p g (cfK p g k) a.1)∧Conf p g (stepC p g (cfK p g k) a.1):=by
 have ha:a∈arcK p g kd k:=ha;rw [arcK] at ha;obtain ⟨s,hs,rfl⟩:=List.mem_map.1 ha;have h:=stepK_of hp hg hk he hs;exact ⟨h,rfl,step_conf hp hg (cfK_conf hp hg k) h.part⟩
theorem chs_ne {k:Nat} (h0:enN p g (cfK p g k)≠0):(chs g kd (enN p g (cfK p g k))).1≠[] :=
 List.length_pos_iff.1 ((chs_some hg hk (en_32 p hg _) (en_part p hg _) (he _)).2 h0)
include hS
theorem sys_all {L:List Nat} (hL:An.Ord (cntP p g) (sysP p g kd).to (legK p g leg) L):∀ k,k < cntP p g→k∈L :=
 ord_all hp hg hS (fun k _ s hs=>stepK_of hp hg hk he hs) (fun k _ h0=>chs_ne hp hg hk he h0) hL (fun c s hc hs=>step_conf hp hg hc hs.part)
theorem sys_closed {k:Nat} (hl:legK p g leg k = true) {a:Nat × Nat} (ha:a∈(sysP p g kd).ar k):legK p g leg a.2 = true:=by
 obtain ⟨h1,h2,h3⟩:=arc_step hp hg hk he ha;rw [h2,legK,cfK_rk hp hg h3];exact hS.closed _ _ (cfK_conf hp hg k) hl h1
theorem sys_rq:RQ (sysP p g kd) (legK p g leg) (RdOk p g R Inv):=by
 refine ⟨fun k pd hk' hl n hi hpd=>?_,fun k pd hk' hl=>rd_one hp hg hS hl,fun k pd a v hk' hl ha hl' hv=>?_,fun k pd a b h1 h2=>rd_max h1 h2⟩
 . have:=rd_one hp hg hS hl n hi hpd;omega
 . obtain ⟨h1,h2,h3⟩:=arc_step hp hg hk he ha;obtain ⟨s,t⟩:=a;simp only at h1 h2 h3 hl' hv;subst h2;exact rd_step hp hg hS hl h1 h3 hl' hv
theorem sys_mq:MQ (sysP p g kd) (legK p g leg) (MvOk p g M Inv):=by
 refine ⟨fun k hk' hl hM n hi=>?_,fun k a v hk' hl ha h1 h2=>?_,fun k a b h1 h2=>mv_max h1 h2⟩
 . have hne:=chs_ne hp hg hk he (k:=k) (hS.en _ (cfK_conf hp hg k) hl);obtain ⟨s,hs⟩:=List.exists_mem_of_ne_nil _ hne;have:=hS.moves hM _ n s (cfK_conf hp hg k) hi hl (stepK_of hp hg hk he hs);omega
 . obtain ⟨s1,s2,s3⟩:=arc_step hp hg hk he ha;obtain ⟨s,t⟩:=a;simp only at s1 s2 s3 h1 h2;subst s2;exact mv_step hp hg hS hl s1 s3 h1 h2
end
end Go.Proofs.YthbiicpcbnijiaaGreatDoor
namespace Go.Proofs.YthbiicpcbnijiaaGreatDoor
open Go.Eng Go.Plain
set_option maxRecDepth 100000
set_option linter.unusedVariables false
def gwF (p:Pr) (g:G) (c:Cf) (v x:Nat):Nat→Nat→V:=fun u _=>.int .i64 (if u < v then gwK p g c u else if u = v then gwS p g c v x else 0)
theorem gw_zero (p:Pr) (g:G) (c:Cf) (u j:Nat) (F:Nat→Nat→V) (hF:F u j = .int .i64 0):VLe (F u j) (gwF p g c 0 0 u j):=by
 apply VLe.of_eq;rw [hF,gwF];by_cases h:u = 0
 . subst h;rfl
 . rw [if_neg (by omega),if_neg h]
theorem gw_skip (p:Pr) (g:G) (c:Cf) (v u j:Nat) (h:¬ 0≤ruleI p g c v):VLe (gwF p g c v 0 u j) (gwF p g c (v + 1) 0 u j):=by
 apply VLe.of_eq;rw [gwF,gwF];congr 1;by_cases h1:u < v
 . rw [if_pos h1,if_pos (by omega)]
 . rw [if_neg h1];by_cases h2:u = v
   . subst h2;rw [if_pos rfl,if_pos (by omega),gwK,if_neg h];rfl
   . rw [if_neg h2,if_neg (by omega)];by_cases h3:u = v + 1
     . rw [if_pos h3];rfl
     . rw [if_neg h3]
theorem gw_row (p:Pr) (g:G) (c:Cf) (v u j:Nat) (h:0≤ruleI p g c v):VLe (gwF p g c v p.vars.length u j) (gwF p g c (v + 1) 0 u j):=by
 apply VLe.of_eq;rw [gwF,gwF];congr 1;by_cases h1:u < v
 . rw [if_pos h1,if_pos (by omega)]
 . rw [if_neg h1];by_cases h2:u = v
   . subst h2;rw [if_pos rfl,if_pos (by omega),gwK,if_pos h]
   . rw [if_neg h2,if_neg (by omega)];by_cases h3:u = v + 1
     . rw [if_pos h3];rfl
     . rw [if_neg h3]
theorem gw_step (p:Pr) (g:G) (c:Cf) (v v' x u j:Nat) (hv:v' = v) (hj:j < 1) (a:Int) (ha:a = gwS p g c v (x + 1)):VLe (fset (gwF p g c v x) v' 0 [.int .i64 a] u j) (gwF p g c v (x + 1) u j):=by
 obtain rfl:j = 0:=by omega
 subst hv ha;apply VLe.of_eq;by_cases h:u = v'
 . subst h;simp [fset,gwF]
 . simp [fset,gwF,h]
def arX (cl:List Nat) (T:Nat→Nat) (i m:Nat) (t:Int):Nat→Nat→V:=fun q j=>match j with
 | 0=>.int .u32 (if q < m then gN cl q else 0:Nat)
 | _ + 1=>.int .i64 (if q < i then (T (gN cl q):Int) else if q = i then t else 0)
theorem arX_zero (cl:List Nat) (T:Nat→Nat) (q j:Nat) (hj:j < 2):VLe ((fun (_ j:Nat)=>[V.int .u32 0,V.int .i64 0].getD j default) q j) (arX cl T 0 0 0 q j):=by
 apply VLe.of_eq;rcases j with _ | _ | j
 . rfl
 . show V.int .i64 0 = V.int .i64 _;congr 1;rw [if_neg (by omega)];by_cases h:q = 0
   . rw [if_pos h]
   . rw [if_neg h]
 . omega
theorem arX_new (cl:List Nat) (T:Nat→Nat) (i i' q j:Nat) (hi:i' = i) (hj:j < 2) (s k:Int) (hs:s = (gN cl i:Nat)):VLe (fset (arX cl T i i 0) i' 0 [.int .u32 s,.int .i64 k] q j) (arX cl T i (i + 1) k q j):=by
 subst hi hs;apply VLe.of_eq;by_cases h:q = i'
 . subst h;rcases j with _ | _ | j
   . simp [fset,arX]
   . simp [fset,arX]
   . omega
 . rcases j with _ | _ | j
   . have:(q < i' + 1) = (q < i'):=by simp;omega
     simp [fset,arX,h,this]
   . simp [fset,arX,h]
   . omega
theorem arX_to (cl:List Nat) (T:Nat→Nat) (i i' q j j':Nat) (hi:i' = i) (hj':j' = 1) (hj:j < 2) (t t':Int):VLe (fset (arX cl T i (i + 1) t) i' j' [.int .i64 t'] q j) (arX cl T i (i + 1) t' q j):=by
 subst hi hj';apply VLe.of_eq;by_cases h:q = i'
 . subst h;rcases j with _ | _ | j
   . simp [fset,arX]
   . simp [fset,arX]
   . omega
 . rcases j with _ | _ | j
   . simp [fset,arX,h]
   . simp [fset,arX,h]
   . omega
theorem arX_next (cl:List Nat) (T:Nat→Nat) (i q j:Nat) (t:Int) (ht:t = (T (gN cl i):Nat)):VLe (arX cl T i (i + 1) t q j) (arX cl T (i + 1) (i + 1) 0 q j):=by
 subst ht;apply VLe.of_eq;rcases j with _ | j
 . rfl
 . show V.int .i64 _ = V.int .i64 _;congr 1;by_cases h:q < i
   . rw [if_pos h,if_pos (by omega)]
   . rw [if_neg h];by_cases h2:q = i
     . rw [if_pos h2,if_pos (by omega),h2]
     . rw [if_neg h2,if_neg (by omega)];by_cases h3:q = i + 1
       . rw [if_pos h3]
       . rw [if_neg h3]
theorem arX_end (cl:List Nat) (T:Nat→Nat) (q j:Nat) (hq:q < cl.length):VLe (arX cl T cl.length cl.length 0 q j) (vAr (cl.map fun s=>(s,T s)) q j):=by
 apply VLe.of_eq;have hg:gA (cl.map fun s=>(s,T s)) q = (gN cl q,T (gN cl q)):=by
  simp [gA,gN,List.getD_eq_getElem?_getD,List.getElem?_eq_getElem hq]
 rcases j with _ | j
 . show V.int .u32 _ = V.int .u32 _;rw [hg,if_pos hq]
 . show V.int .i64 _ = V.int .i64 _;rw [hg,if_pos hq]
theorem moveL_in {p:Pr} (hp:PrOk p) {g:G} (hg:g.valid = true) {c:Cf} (hc:Conf p g c) {v x:Nat} (hv:v < g.ids.length) (hx:x < p.vars.length) (hr:0≤ruleI p g c v) :
 (bnd g (gV p.vars x) v).1≤gI (moveL p g c v (ruleI p g c v).toNat) x∧gI (moveL p g c v (ruleI p g c v).toNat) x≤(bnd g (gV p.vars x) v).2:=by
 have hcl:=hc.len;have hs:Part (2 ^ v) (enN p g c):=fun i hi=>by
  have e:=pow_bit hi;rw [en_bit,Bool.and_eq_true,decide_eq_true_eq,decide_eq_true_eq,← e];exact ⟨hv,hr⟩
 have hd:=step_conf hp hg hc hs;have hrow:=stepC_row p g c (2 ^ v) (v:=v) (by omega);rw [Nat.testBit_two_pow_self,if_pos rfl] at hrow;have h2:=hd.val v (by rw [stepC_len];omega) x hx;rw [hrow] at h2;exact h2
set_option maxHeartbeats 16000000 in
theorem state_own (p:Pr) (hp:PrOk p) (g:G) (hg:g.valid = true) (kd:Int) (hk:dk kd = true) (hn:cntP p g≤32768) (c:Cf) (hc:Conf p g c) (he:(chs g kd (enN p g c)).2 = 0) :
 CallF Tryz.prog 36 [bP p g kd,.vec 0 1 0 g.ids.length,.int .i64 (rkC p g c)] [(999,GB),(0,famI p g (cF c) [])] KS.tail fun X own' _=>X = .tup [.int .u32 (enN p g c),.vec 1 2 0 (chs g kd (enN p g c)).1.length,.int .i64 0] ∧
  own' = [(1,.vec (chs g kd (enN p g c)).1.length 2 (vAr ((chs g kd (enN p g c)).1.map fun s=>(s,rkC p g (stepC p g c s))))),(999,GB),(0,famI p g (cF c) [])]:=by
 obtain ⟨f1,f2,f3,f4,f5,f6,f7⟩:=val_facts hg;have hcl:=hc.len;have hvl:=hp.vlen;refine call_post ?_;refine fn_rule mixed Tryz.func36 rfl hc36 hr36 rfl ?_
 repeat' ((conv=>whnf);first | fail)
 all_goals (conv=>whnf)
 refine loop_u mixed [0,1,2,10,21,22] [] [2,3,4,5,6,7,8,9,10,11,12,13,14,15,16,17,18,19,20,21,22,23,24,25,26,27,28,29] [1,999,0] (fun v:Nat=>[(9,.int .u32 (nb (fun u=>decide (0≤ruleI p g c u)) v)),(23,.int .i64 v)]) (fun own v=>updO own 1 (.vec 24 1 (gwF p g c v 0))) (fun m v=>m = g.ids.length - v∧v≤g.ids.length) g.ids.length 0 ⟨rfl,Nat.zero_le _⟩ rfl (fun _=>rfl) ?_ ?_
 . refine weak_by (fun _ _=>[(0,some 0),(1,some 1),(999,some 999)]) ?_ ?_ rfl
   . repeat' (first | exact True.intro | exact VRen.oel rfl rfl | (refine ⟨⟨_,rfl,?_⟩,?_⟩) | exact VRen.kf rfl | exact VRen.vec rfl rfl rfl)
   . repeat' (first | exact ⟨rfl,rfl,True.intro,fun i hi=>rfl,fun i j t hi hn hj ht=>VLe.rfl⟩ | exact gw_zero p g c i j (fun _ _=>.int .i64 0) rfl | exact True.intro | exact ⟨rfl,rfl,rfl⟩ | (refine ⟨⟨_,rfl,?_⟩,?_⟩) | (refine ⟨Nat.le_refl _,rfl,fun i j hi hj=>?_⟩))
 rintro m v ⟨hm,hv⟩;by_cases hvn:v < g.ids.length
 . have hru:=rule_ok p hp g hg c hc v (by omega);by_cases hr0:0≤ruleI p g c v
   . have hrl:=ruleI_lt p g c v;have hmo:=move_own p hp g hg c hc v hvn (ruleI p g c v).toNat (by omega);rw [show (((ruleI p g c v).toNat:Nat):Int) = ruleI p g c v by omega] at hmo
     repeat' ((conv=>whnf);first | (refine Br.dec ?_ ?_ <;> intro _ <;> try omega) | (refine Ar.sh1 (by omega) ?_) | (refine Sv.mk _ rfl ?_) | (refine Nn.mk (by omega) ?_) | (refine call_lend hru rfl ⟨Nat.le_refl _,VLe.rfl,famI_cV hc _ (fun i j=>VLe.rfl),VLe.rfl,True.intro⟩ ?_) | (refine call_by [(0,some 0)] [1] (hmo.mono ?_) ⟨VRen.kf rfl,VRen.vec rfl rfl rfl,VRen.kf rfl,VRen.kf rfl,True.intro⟩ (by repeat' (first | (refine ⟨rfl,rfl,True.intro,fun i hi=>rfl,fun i j t hi hn hj ht=>VLe.rfl⟩) | exact True.intro | (refine ⟨⟨_,rfl,?_⟩,?_⟩))) rfl;rintro _ _ _ ⟨rfl,rfl⟩) | (refine Chk.mk rfl ?_))
     all_goals (conv=>whnf)
     refine loop_w mixed [0,1,2,9,10,11,21,22,23,46,47] [3] [4,5,6,7,8,9,10,11,12,13,14,15,16,17,18,19,20,21,22,23,24,25,26,27,28,29] [3,2,1,999,0] (fun x:Nat=>[(48,.int .i64 x)]) (fun x=>(3,.vec (lenM p v) 1 (rowI (cF c) v)) :: updO [(2,.vec p.vars.length 1 (vI (moveL p g c v (ruleI p g c v).toNat))),(1,.vec 24 1 (gwF p g c v x)),(999,GB),(0,famI p g (cF c) [])] 0 (famI p g (cF c) [(v,3)])) (fun m x=>m = p.vars.length - x∧x≤p.vars.length) p.vars.length 0 ⟨rfl,Nat.zero_le _⟩ rfl (fun _=>rfl) ?_ ?_
     . refine Weak.trans ?_ (weak_open (own:=[(2,.vec p.vars.length 1 (vI (moveL p g c v (ruleI p g c v).toNat))),(1,.vec 24 1 (gwF p g c v 0)),(999,GB),(0,famI p g (cF c) [])]) (ks:=[3,4,5,6,7,8,9,10,11,12,13,14,15,16,17,18,19,20,21,22,23,24,25,26,27,28,29]) rfl rfl rfl hvn rfl) (ks_cons rfl);refine weak_by (fun _ _=>[(0,some 0),(1,some 1),(2,some 2),(999,some 999)]) ?_ ?_ rfl
       . repeat' (first | exact True.intro | exact VRen.oel rfl rfl | (refine ⟨⟨_,rfl,?_⟩,?_⟩) | exact VRen.kf rfl | exact VRen.vec rfl rfl rfl)
       . repeat' (first | exact ⟨rfl,rfl,True.intro,fun i hi=>rfl,fun i j t hi hn hj ht=>VLe.rfl⟩ | exact True.intro | exact ⟨rfl,rfl,rfl⟩ | (refine ⟨⟨_,rfl,?_⟩,?_⟩) | (refine ⟨Nat.le_refl _,rfl,fun i j hi hj=>?_⟩) | exact VLe.rfl)
     rintro m2 x ⟨hm2,hx⟩;have hlm:lenM p v = p.vars.length:=rfl;by_cases hxn:x < p.vars.length
     . have hgx:=gwX_bnd hp hg hc hvn hxn hr0 hn;have hgs:=gwS_bnd hp hg hc hvn hr0 hn (x:=x) (by omega);have hgs2:=gwS_bnd hp hg hc hvn hr0 hn (x:=x + 1) (by omega);have hb1:=hc.val v (by omega) x hxn;have hmi:=moveL_in hp hg hc hvn hxn hr0;have hbi:=bnd_in hg (hp.var x hxn) (v:=v) (by omega);have hmz:gI (moveL p g c v (ruleI p g c v).toNat) (0 + x) = gI (moveL p g c v (ruleI p g c v).toNat) x:=by rw [Nat.zero_add]
       have hcv:cF c v (0 + x) = gI (gC c v) x:=by rw [Nat.zero_add]
       have hmulx:(gI (moveL p g c v (ruleI p g c v).toNat) (0 + x) - cF c v (0 + x)) * (plP p g v x:Nat) = gwX p g c v x:=by rw [Nat.zero_add];rfl
       have hsum:(if v < v then gwK p g c v else if v = v then gwS p g c v x else 0) + gwX p g c v x = gwS p g c v (x + 1):=by
        rw [if_neg (Nat.lt_irrefl _),if_pos rfl];rfl
       repeat' ((conv=>whnf);first | (refine Ar.i64 (by rw [hmulx];omega) (by rw [hmulx];omega) ?_;rw [hmulx]) | (refine Ar.i64 (by rw [hsum];omega) (by rw [hsum];omega) ?_;rw [hsum]) | (refine Br.dec ?_ ?_ <;> intro _ <;> try omega) | (refine Ar.i64 (by omega) (by omega) ?_) | (refine Ix.nat (by omega) ?_) | (refine Ltn.mk (by omega) ?_) | (refine Opn.hd (by omega) ?_))
       all_goals (conv=>whnf)
       refine ⟨_,x + 1,by omega,⟨rfl,by omega⟩,?_⟩;refine weak_by (fun _ _=>[(0,some 0),(1,some 1),(2,some 2),(3,some 3),(999,some 999)]) ?_ ?_ rfl
       . repeat' (first | exact True.intro | exact VRen.oel rfl rfl | (refine ⟨⟨_,rfl,?_⟩,?_⟩) | exact VRen.kf rfl | exact VRen.vec rfl rfl rfl)
       . repeat' (first | exact ⟨rfl,rfl,⟨rfl,rfl,True.intro⟩,fun i hi=>rfl,fun i j t hi hn hj ht=>VLe.rfl⟩ | exact gw_step _ _ _ _ _ _ _ _ rfl hj _ rfl | exact True.intro | exact ⟨rfl,rfl,rfl⟩ | (refine ⟨⟨_,rfl,?_⟩,?_⟩) | (refine ⟨Nat.le_refl _,rfl,fun i j hi hj=>?_⟩) | exact VLe.rfl)
     . repeat' ((conv=>whnf);first | (refine Br.dec ?_ ?_ <;> intro _ <;> try omega) | (refine Ar.i64 (by omega) (by omega) ?_))
       all_goals (conv=>whnf)
       have ex:x = p.vars.length:=by omega
       have hx:=nb_or (p:=fun u=>decide (0≤ruleI p g c u)) (k:=v) (by omega) (decide_eq_true hr0);refine ⟨_,v + 1,by omega,⟨rfl,by omega⟩,?_⟩;refine Weak.trans (weak_step (own_close (q:=3) (k:=0) (i:=v) [] rfl rfl hvn (look_here rfl) (Nat.le_refl _) rfl (fun j hj=>(look_there (fun e=>hj e.symm)).symm))) ?_ (ks_sub rfl);refine weak_by (fun _ _=>[(0,some 0),(1,some 1),(999,some 999)]) ?_ ?_ rfl
       . repeat' (first | exact VRen.int hx | exact True.intro | exact VRen.oel rfl rfl | (refine ⟨⟨_,rfl,?_⟩,?_⟩) | exact VRen.kf rfl | exact VRen.vec rfl rfl rfl)
       . repeat' (first | exact ⟨rfl,rfl,True.intro,fun i hi=>rfl,fun i j t hi hn hj ht=>setF_self _ _ _ _ _⟩ | (rw [ex];exact gw_row _ _ _ _ _ _ hr0) | exact True.intro | exact ⟨rfl,rfl,rfl⟩ | (refine ⟨⟨_,rfl,?_⟩,?_⟩) | (refine ⟨Nat.le_refl _,rfl,fun i j hi hj=>?_⟩))
   . repeat' ((conv=>whnf);first | (refine Br.dec ?_ ?_ <;> intro _ <;> try omega) | (refine Ar.i64 (by omega) (by omega) ?_) | (refine call_lend hru rfl ⟨Nat.le_refl _,VLe.rfl,famI_cV hc _ (fun i j=>VLe.rfl),VLe.rfl,True.intro⟩ ?_))
     all_goals (conv=>whnf)
     have hx:=nb_no (p:=fun u=>decide (0≤ruleI p g c u)) (k:=v) (decide_eq_false hr0);refine ⟨_,v + 1,by omega,⟨rfl,by omega⟩,?_⟩;refine weak_by (fun _ _=>[(0,some 0),(1,some 1),(999,some 999)]) ?_ ?_ rfl
     . repeat' (first | exact VRen.int (by rw [hx]) | exact True.intro | exact VRen.oel rfl rfl | (refine ⟨⟨_,rfl,?_⟩,?_⟩) | exact VRen.kf rfl | exact VRen.vec rfl rfl rfl)
     . repeat' (first | exact ⟨rfl,rfl,True.intro,fun i hi=>rfl,fun i j t hi hn hj ht=>VLe.rfl⟩ | exact gw_skip _ _ _ _ _ _ hr0 | exact True.intro | exact ⟨rfl,rfl,rfl⟩ | (refine ⟨⟨_,rfl,?_⟩,?_⟩) | (refine ⟨Nat.le_refl _,rfl,fun i j hi hj=>?_⟩))
 . have ev:v = g.ids.length:=by omega
   subst ev;have h32:=en_32 p hg c;have hch:=nchoices_ok g hg kd (enN p g c) h32 (en_part p hg c);rw [he] at hch;have hcl2:=chs_len (g:=g) (k:=kd) h32;have hcm:∀ s,s∈(chs g kd (enN p g c)).1→s < 4294967296∧Part s (enN p g c):=fun s hs=>⟨chs_lt h32 s hs,(part_iff (chs_lt h32 s hs)).1 (inner_iff.1 ((chs_mem hk h32 (chs_lt h32 s hs) he).1 hs)).2.1⟩;change RG _ [_,_,.int .u32 (nb (fun u=>decide (0≤ruleI p g c u)) g.ids.length:Nat)] _ at hch;generalize (chs g kd (enN p g c)).1 = cl at *
   repeat' ((conv=>whnf);first | (refine Br.ff ?_) | (refine Br.dec ?_ ?_ <;> intro _ <;> try omega) | (refine Bd.nat (by omega) ?_) | (refine Len.mk (by omega) ?_) | (refine hch.gog ?_))
   all_goals (conv=>whnf)
   refine loop_w mixed [2,9,10,17,99,100] [] [4,5,6,7,8,9,10,11,12,13,14,15,16,17,18,19,20,21,22,23,24,25,26,27,28,29] [3,2,1,999,0] (fun i:Nat=>[(101,.int .i64 i)]) (fun i=>[(3,.cells [.vec 2 2 0 cl.length]),(2,.vec cl.length 2 (arX cl (fun s=>rkC p g (stepC p g c s)) i i 0)),(1,.vec 24 1 (gwF p g c g.ids.length 0)),(999,GB),(0,famI p g (cF c) [])]) (fun m i=>m = cl.length - i∧i≤cl.length) cl.length 0 ⟨rfl,Nat.zero_le _⟩ rfl (fun _=>rfl) ?_ ?_
   . refine weak_by (fun _ _=>[(0,some 0),(1,some 1),(2,some 2),(3,some 3),(999,some 999)]) ?_ ?_ rfl
     . repeat' (first | exact True.intro | exact VRen.oel rfl rfl | (refine ⟨⟨_,rfl,?_⟩,?_⟩) | exact VRen.kf rfl | exact VRen.loc rfl)
     . repeat' (first | exact ⟨rfl,rfl,True.intro,fun i hi=>rfl,fun i j t hi hn hj ht=>VLe.rfl⟩ | exact arX_zero _ _ _ _ hj | exact True.intro | exact ⟨rfl,rfl,rfl⟩ | (refine ⟨⟨_,rfl,?_⟩,?_⟩) | exact VRen.vec rfl rfl rfl | (refine ⟨Nat.le_refl _,rfl,fun i j hi hj=>?_⟩) | exact VLe.rfl | (refine And.intro ?_ ?_))
   rintro m i ⟨hm2,hi⟩;by_cases hil:i < cl.length
   . obtain ⟨s32,spt⟩:=hcm (gN cl i) (gQ_mem hil);generalize hs:gN cl i = s at *
     repeat' ((conv=>whnf);first | (refine Br.dec ?_ ?_ <;> intro _ <;> try omega) | (refine Ix.nat (by omega) ?_) | (refine Ltn.mk (by omega) ?_) | (refine fn_rule mixed Tryz.func80 rfl hc80 hr80 rfl ?_) | (refine range_rule ?_) | (refine Chk.mk (by kernel_rfl) ?_) | (refine fn_rule mixed Tryz.func117 rfl hc117 hr117 rfl ?_))
     all_goals (conv=>whnf)
     have hkc:=rkC_lt hp hg hc;have hsn:∀ u,s.testBit u = true→u < g.ids.length:=fun u hu=>by
      have:=spt u hu;rw [en_bit,Bool.and_eq_true,decide_eq_true_eq] at this;exact this.1
     refine loop_u mixed [0,1] [] [7,8,9,10,11,12,13,14,15,16,17,18,19,20,21,22,23,24,25,26,27,28,29] [6,5,4,3,2,1,999,0] (fun b:Nat=>[]) (fun own b=>updO (updO own 5 (.cells [.int .u32 (upS s b)])) 2 (.vec cl.length 2 (arX cl (fun s=>rkC p g (stepC p g c s)) i (i + 1) (toS p g c (rkC p g c) s b)))) (fun m b=>m = g.ids.length - b∧b≤g.ids.length) g.ids.length 0 ⟨rfl,Nat.zero_le _⟩ rfl (fun _=>rfl) ?_ ?_
     . have hx:=upS_zero s32;have ht0:toS p g c (rkC p g c) s 0 = (rkC p g c:Nat):=by rw [toS,sumF];exact Int.add_zero _
       refine weak_by (fun _ _=>[(0,some 0),(1,some 1),(2,some 2),(3,some 3),(4,some 4),(5,some 5),(6,some 6),(999,some 999)]) ?_ ?_ rfl
       . repeat' (first | exact VRen.yld rfl | exact True.intro | (refine ⟨⟨_,rfl,?_⟩,?_⟩) | exact VRen.loc rfl)
       . repeat' (first | exact ⟨rfl,rfl,True.intro,fun i hi=>rfl,fun i j t hi hn hj ht=>VLe.rfl⟩ | exact VRen.int (by rw [hx,← hs]) | (refine VRen.fn ?_) | (refine ⟨rfl,rfl,rfl,rfl,rfl,?_⟩) | (rw [ht0];exact arX_new _ _ _ _ _ _ (Nat.zero_add _) hj _ _ rfl) | exact True.intro | exact VRen.oel rfl rfl | exact ⟨rfl,rfl,rfl⟩ | (refine ⟨⟨_,rfl,?_⟩,?_⟩) | exact VRen.kf rfl | exact VRen.loc rfl | exact VRen.vec rfl rfl rfl | (refine ⟨Nat.le_refl _,rfl,fun i j hi hj=>?_⟩) | exact VLe.rfl | (refine And.intro ?_ ?_))
     rintro m3 b ⟨hm3,hb⟩;have hul:=upS_lt s b;have hbn:=toS_bnd hp hg hc hn (k:=rkC p g c) (s:=s) (b:=b) (by omega) hb;by_cases hu:upS s b = 0
     . have hte:=toS_end hp hg hc spt;rw [toS_skip hb (fun u h1 h2=>upS_end s32 hu u h1)] at hte
       repeat' ((conv=>whnf);first | (refine Br.bne ?_ ?_ <;> intro _ <;> try omega) | (refine Ar.i64 (by omega) (by omega) ?_))
       all_goals (conv=>whnf)
       refine ⟨_,i + 1,by omega,⟨rfl,by omega⟩,?_⟩;refine weak_by (fun _ _=>[(0,some 0),(1,some 1),(2,some 2),(3,some 3),(999,some 999)]) ?_ ?_ rfl
       . repeat' (first | exact True.intro | exact VRen.oel rfl rfl | (refine ⟨⟨_,rfl,?_⟩,?_⟩) | exact VRen.kf rfl | exact VRen.loc rfl)
       . repeat' (first | exact ⟨rfl,rfl,True.intro,fun i hi=>rfl,fun i j t hi hn hj ht=>VLe.rfl⟩ | exact arX_next _ _ _ _ _ _ (by rw [hs];exact hte) | exact True.intro | exact ⟨rfl,rfl,rfl⟩ | (refine ⟨⟨_,rfl,?_⟩,?_⟩) | exact VRen.vec rfl rfl rfl | (refine ⟨Nat.le_refl _,rfl,fun i j hi hj=>?_⟩) | exact VLe.rfl | (refine And.intro ?_ ?_))
     . obtain ⟨v1,v2,v3,v4,v5⟩:=upS_next s32 hu;have htz:=tz_ok _ hu hul;have hr:bitI .and .u32 ((upS s b:Nat):Int) ((upS s b:Nat) - 1:Int) = ((upS s (ctz (upS s b) + 1):Nat):Int):=by
        rw [← v5,show ((upS s b:Nat):Int) - 1 = ((upS s b - 1:Nat):Int) by omega,bit_and hul (by omega)]
       generalize ctz (upS s b) = v at *;have hvn:=hsn v v3;have hts:=toS_step (p:=p) (g:=g) (c:=c) (k:=rkC p g c) v3;rw [toS_skip v2 v4] at hts;have hbn2:=toS_bnd hp hg hc hn (k:=rkC p g c) (s:=s) (b:=v + 1) (by omega) hvn;have hsum:(if 0 + i < i then ((rkC p g (stepC p g c (gN cl (0 + i))):Nat):Int) else if 0 + i = i then toS p g c (rkC p g c) s b else 0) + (if v < g.ids.length then gwK p g c v else if v = g.ids.length then gwS p g c g.ids.length 0 else 0) = toS p g c (rkC p g c) s (v + 1):=by
        rw [Nat.zero_add,if_neg (Nat.lt_irrefl _),if_pos rfl,if_pos hvn,hts]
       repeat' ((conv=>whnf);first | (refine Ar.i64 (by rw [hsum];omega) (by rw [hsum];omega) ?_;rw [hsum]) | (refine Br.tt ?_) | (refine Br.bne ?_ ?_ <;> intro _ <;> try omega) | (refine Ar.u32 (by omega) (by omega) ?_) | (refine Sv.mk _ rfl ?_) | (refine Ix.nat (by omega) ?_) | (refine Ltn.mk (by omega) ?_) | (refine htz.gog ?_) | (refine yield_rule mixed rfl rfl ?_))
       all_goals (conv=>whnf)
       refine ⟨_,v + 1,by omega,⟨rfl,hvn⟩,?_⟩;refine weak_by (fun _ _=>[(0,some 0),(1,some 1),(2,some 2),(3,some 3),(4,some 4),(5,some 5),(6,some 6),(999,some 999)]) ?_ ?_ rfl
       . repeat' (first | exact VRen.yld rfl | exact True.intro | (refine ⟨⟨_,rfl,?_⟩,?_⟩) | exact VRen.loc rfl)
       . repeat' (first | exact ⟨rfl,rfl,True.intro,fun i hi=>rfl,fun i j t hi hn hj ht=>VLe.rfl⟩ | exact VRen.int hr | (refine VRen.fn ?_) | (refine ⟨rfl,rfl,rfl,rfl,rfl,?_⟩) | exact arX_to _ _ _ _ _ _ _ (Nat.zero_add _) rfl hj _ _ | exact True.intro | exact VRen.oel rfl rfl | exact ⟨rfl,rfl,rfl⟩ | (refine ⟨⟨_,rfl,?_⟩,?_⟩) | exact VRen.kf rfl | exact VRen.loc rfl | exact VRen.vec rfl rfl rfl | (refine ⟨Nat.le_refl _,rfl,fun i j hi hj=>?_⟩) | exact VLe.rfl | (refine And.intro ?_ ?_))
   . have ei:i = cl.length:=by omega
     subst ei
     repeat' ((conv=>whnf);first | (refine Br.dec ?_ ?_ <;> intro _ <;> try omega) | (refine And.intro rfl ?_))
     all_goals (conv=>whnf)
     exact postR_by (fun _=>[(0,some 0),(1,some 2),(999,some 999)]) _ _ ⟨rfl,rfl⟩ (VRen.tup ⟨VRen.kf rfl,VRen.vec rfl rfl rfl,VRen.kf rfl,True.intro⟩) (by repeat' (first | (refine ⟨rfl,rfl,True.intro,fun i hi=>rfl,fun i j t hi hn hj ht=>VLe.rfl⟩) | (refine ⟨Nat.le_refl _,rfl,fun i j hi hj=>arX_end _ _ _ _ hi⟩) | exact True.intro | exact ⟨rfl,rfl,rfl⟩ | (refine ⟨⟨_,rfl,?_⟩,?_⟩))) rfl
end Go.Proofs.YthbiicpcbnijiaaGreatDoor
namespace Go.Proofs.YthbiicpcbnijiaaGreatDoor
open Go.Eng Go.Plain
set_option maxRecDepth 100000
set_option linter.unusedVariables false
def arsF (p:Pr) (g:G) (kd:Int) (k:Nat):Nat→Nat→V:=fun i _=>if i < k then arV (arcK p g kd i) else .nilslice
def ensF (p:Pr) (g:G) (k:Nat):Nat→Nat→V:=fun i _=>.int .u32 (if i < k then enN p g (cfK p g i) else 0:Nat)
theorem arsF_zero (p:Pr) (g:G) (kd:Int) (i j:Nat) (hj:j < 1):VLe ((fun (_ j:Nat)=>[V.nilslice].getD j default) i j) (arsF p g kd 0 i j):=by
 obtain rfl:j = 0:=by omega
 exact VLe.rfl
theorem ensF_zero (p:Pr) (g:G) (i j:Nat) (hj:j < 1):VLe ((fun (_ j:Nat)=>[V.int .u32 0].getD j default) i j) (ensF p g 0 i j):=by
 obtain rfl:j = 0:=by omega
 exact VLe.rfl
theorem ensF_set (p:Pr) (g:G) (k k' i j:Nat) (hk:k' = k) (hj:j < 1):VLe (fset (ensF p g k) k' 0 [.int .u32 (enN p g (cfK p g k))] i j) (ensF p g (k + 1) i j):=by
 obtain rfl:j = 0:=by omega
 subst hk;apply VLe.of_eq;by_cases h:i = k'
 . subst h;simp [fset,ensF]
 . have h1:(i < k' + 1) = (i < k'):=by simp;omega
   simp [fset,ensF,h,h1]
theorem arsF_set (p:Pr) (g:G) (kd:Int) (k k' i j:Nat) (X:V) (hX:VLe X (arV (arcK p g kd k))) (hk:k' = k) (hj:j < 1):VLe (fset (arsF p g kd k) k' 0 [X] i j) (arsF p g kd (k + 1) i j):=by
 obtain rfl:j = 0:=by omega
 subst hk;by_cases h:i = k'
 . subst h;have e1:fset (arsF p g kd i) i 0 [X] i 0 = X:=by simp [fset]
   have e2:arsF p g kd (i + 1) i 0 = arV (arcK p g kd i):=by simp [arsF]
   rw [e1,e2];exact hX
 . apply VLe.of_eq;have h1:(i < k' + 1) = (i < k'):=by simp;omega
   simp [fset,arsF,h,h1]
theorem cfK_lo (p:Pr) (g:G) {v x:Nat} (hv:v < g.ids.length) (hx:x < p.vars.length):loP p g v x = cF (cfK p g 0) v x:=by
 show _ = gI (gC (cfK p g 0) v) x;rw [cfK_get p g 0 hv hx,dgP,Mx.dg_zero];simp
theorem arcV_le (p:Pr) (g:G) (kd:Int) (k n:Nat) (hn:n = (chs g kd (enN p g (cfK p g k))).1.length):VLe (.fz n 2 false (shiftF 0 (vAr ((chs g kd (enN p g (cfK p g k))).1.map fun s=>(s,rkC p g (stepC p g (cfK p g k) s)))))) (arV (arcK p g kd k)):=by
 refine VLe.fz ?_ (fun h=>h) (fun i j hi hj=>VLe.of_eq (by rw [shiftF_eq,Nat.zero_add];rfl));rw [hn,arcK,List.length_map]
set_option maxHeartbeats 16000000 in
theorem sbuild_ok (p:Pr) (hp:PrOk p) (g:G) (hs:g.Small) (hg:g.valid = true) (kd:Int) (hk:dk kd = true) (hn:cntP p g≤32768) (he:∀ c,(chs g kd (enN p g c)).2 = 0) (ht:(sysP p g kd).tot (cntP p g)≤262144) :
 RG 10 [p.v,g.v,.int .i64 kd] (.tup [(sysP p g kd).v,.int .i64 0]):=by
 obtain ⟨f1,f2,f3,f4,f5,f6,f7⟩:=val_facts hg;have hvl:=hp.vlen;have h1:=mCount_ok p hp g hs hg hn;have h2:=dvalid_ok kd;rw [hk] at h2;have h3:=builder_ok p hp g hs hg kd hn;have h4:=mleast_ok p hp g hs hg;refine ret_frzG rfl ?_;refine fn_rule mixed Tryz.func10 rfl hc10 hr10 rfl ?_
 repeat' ((conv=>whnf);first | (refine Br.tt ?_) | (refine Br.ff ?_) | (refine Bd.nat (by omega) ?_) | (refine Len.mk (by omega) ?_) | (refine MkS.vec ?_) | (refine h1.go ?_) | (refine h2.go ?_) | (refine h3.go ?_) | (refine call_by [] [0] (h4.mono ?_) ⟨VRen.kf rfl,VRen.kf rfl,True.intro⟩ True.intro rfl;rintro _ _ _ ⟨rfl,rfl⟩) | (refine Chk.mk rfl ?_))
 all_goals (conv=>whnf)
 refine loop_w mixed [6,10,11,12,56] [] [7,8,9,10,11,12,13,14,15,16,17,18,19,20,21,22,23,24,25,26,27,28,29] [6,5,4,3,2,1,0,999] (fun k:Nat=>[(14,.int .i64 ((sysP p g kd).tot k)),(57,.int .i64 k)]) (fun k=>[(6,famI p g (cF (cfK p g k)) []),(5,.cells [.vec 3 1 0 (cntP p g),.vec 4 1 0 (cntP p g)]),(4,.vec (cntP p g) 1 (arsF p g kd k)),(3,.vec (cntP p g) 1 (ensF p g k)),(2,.cells [.nilslice,.nilslice]),(1,.cells [.fz g.ids.length 1 false (vI g.ids),.fz g.ports.length 1 false (vP g.ports)]),(0,.cells [.str p.nm,p.pg.vs,p.pg.rs]),(999,GB)]) (fun m k=>m = cntP p g - k∧k≤cntP p g) (cntP p g) 0 ⟨rfl,Nat.zero_le _⟩ rfl (fun _=>rfl) ?_ ?_
 . refine weak_by (fun _ _=>[(0,some 0),(1,some 1),(2,some 2),(3,some 3),(4,some 4),(5,some 5),(6,some 6),(999,some 999)]) ?_ ?_ rfl
   . repeat' (first | exact True.intro | (refine ⟨⟨_,rfl,?_⟩,?_⟩) | exact VRen.kf rfl | exact VRen.loc rfl | exact VRen.vec rfl rfl rfl)
   . repeat' (first | exact ⟨rfl,rfl,True.intro,fun i hi=>rfl,fun i j t hi hn hj ht=>VLe.of_eq (congrArg (V.int .i64) (cfK_lo p g hi hj))⟩ | exact arsF_zero _ _ _ _ _ hj | exact ensF_zero _ _ _ _ hj | exact True.intro | exact ⟨rfl,rfl,rfl⟩ | (refine ⟨⟨_,rfl,?_⟩,?_⟩) | exact VRen.kf rfl | exact VRen.vec rfl rfl rfl | (refine ⟨Nat.le_refl _,rfl,fun i j hi hj=>?_⟩) | (refine And.intro ?_ ?_))
 rintro m k ⟨hm,hkc⟩;by_cases hkn:k < cntP p g
 . have hst:=state_own p hp g hg kd hk hn (cfK p g k) (cfK_conf hp hg k) (he _);rw [rk_cfK hkn] at hst;have had:=madv_ok p hp g hg k hkn;have htk:=sumA_mono (fun k=>((sysP p g kd).ar k).length) (show k + 1≤cntP p g by omega);change (sysP p g kd).tot (k + 1)≤(sysP p g kd).tot (cntP p g) at htk;have htn:(sysP p g kd).tot (k + 1) = (sysP p g kd).tot k + (chs g kd (enN p g (cfK p g k))).1.length:=by
    show (sysP p g kd).tot k + (arcK p g kd k).length = _;rw [arcK,List.length_map]
   repeat' ((conv=>whnf);first | (refine Br.ff ?_) | (refine Br.dec ?_ ?_ <;> intro _ <;> try omega) | (refine Ar.i64 (by omega) (by omega) ?_) | (refine Ix.nat (by omega) ?_) | (refine Len.mk (by omega) ?_) | (refine Ltn.mk (by omega) ?_) | (refine call_by [(999,some 999),(0,some 6)] [1] (hst.mono ?_) ⟨VRen.kf rfl,VRen.vec rfl rfl rfl,VRen.kf rfl,True.intro⟩ (by repeat' (first | (refine ⟨rfl,rfl,True.intro,fun i hi=>rfl,fun i j t hi hn hj ht=>VLe.rfl⟩) | exact True.intro | exact ⟨rfl,rfl,rfl⟩ | (refine ⟨⟨_,rfl,?_⟩,?_⟩))) rfl;rintro _ _ _ ⟨rfl,rfl⟩) | (refine call_by [(0,some 6)] [] (had.mono ?_) ⟨VRen.kf rfl,VRen.vec rfl rfl rfl,True.intro⟩ (by repeat' (first | (refine ⟨rfl,rfl,True.intro,fun i hi=>rfl,fun i j t hi hn hj ht=>VLe.rfl⟩) | exact True.intro | (refine ⟨⟨_,rfl,?_⟩,?_⟩))) rfl;rintro _ _ _ ⟨rfl,rfl⟩) | (refine Chk.mk rfl ?_) | (refine And.intro rfl ?_))
   all_goals (conv=>whnf)
   refine ⟨_,k + 1,by omega,⟨rfl,by omega⟩,?_⟩;refine weak_by (fun _ _=>[(0,some 0),(1,some 1),(2,some 2),(3,some 3),(4,some 4),(5,some 5),(6,some 6),(999,some 999)]) ?_ ?_ rfl
   . repeat' (first | exact True.intro | (refine ⟨⟨_,rfl,?_⟩,?_⟩) | exact VRen.kf rfl | exact VRen.int (by omega) | exact VRen.loc rfl | exact VRen.vec rfl rfl rfl)
   . repeat' (first | exact ⟨rfl,rfl,True.intro,fun i hi=>rfl,fun i j t hi hn hj ht=>VLe.rfl⟩ | exact ensF_set _ _ _ _ _ _ (Nat.zero_add _) hj | exact arsF_set p g kd _ _ _ _ _ (arcV_le p g kd k _ rfl) (Nat.zero_add _) hj | exact True.intro | exact ⟨rfl,rfl,rfl⟩ | (refine ⟨⟨_,rfl,?_⟩,?_⟩) | exact VRen.kf rfl | exact VRen.vec rfl rfl rfl | (refine ⟨Nat.le_refl _,rfl,fun i j hi hj=>?_⟩) | (refine And.intro ?_ ?_))
 . have ek:k = cntP p g:=by omega
   subst ek
   repeat' ((conv=>whnf);first | (refine Br.dec ?_ ?_ <;> intro _ <;> try omega) | (refine Len.mk (by omega) ?_))
   all_goals (conv=>whnf)
   refine VLe.tup ⟨VLe.agg ⟨VLe.fz rfl (fun h=>h) (fun i j hi hj=>VLe.of_eq ?_),VLe.fz rfl (fun h=>h) (fun i j hi hj=>VLe.of_eq ?_),True.intro⟩,VLe.rfl,True.intro⟩
   . rw [shiftF_eq,Nat.zero_add,ensF,if_pos hi];rfl
   . rw [shiftF_eq,Nat.zero_add,arsF,if_pos hi];rfl
end Go.Proofs.YthbiicpcbnijiaaGreatDoor
namespace Go.Proofs.YthbiicpcbnijiaaGreatDoor
open Go.Eng Go.Plain
set_option maxRecDepth 100000
set_option linter.unusedVariables false
theorem row_pow {sz:Nat→Nat} {m B:Nat}:∀ {n:Nat},(∀ v,v < n→Mx.pr sz (v * m) m≤B)→Mx.pr sz 0 (n * m)≤B ^ n
 | 0,_=>by simp [Mx.pr]
 | n + 1,h=>by
   rw [Nat.add_mul,Nat.one_mul,pr_split,Nat.zero_add,Nat.pow_succ];exact Nat.mul_le_mul (row_pow fun v hv=>h v (by omega)) (h n (by omega))
theorem nodup_len {l:List Nat} {m:Nat} (hn:l.Pairwise (· < ·)) (h:∀ a∈l,a < m):l.length≤m:=by
 have h1:l.Nodup:=by
  rw [List.nodup_iff_pairwise_ne];exact hn.imp fun {a b} h=>Nat.ne_of_lt h
 have:=List.Nodup.length_le_of_subset h1 (fun a ha=>List.mem_range.2 (h a ha));simpa using this
theorem chs_pow {p:Pr} {g:G} (hg:g.valid = true) {kd:Int} (hk:dk kd = true) (c:Cf):(chs g kd (enN p g c)).1.length≤2 ^ g.ids.length:=by
 have h32:=en_32 p hg c;have hpw:=en_pow p g c;refine nodup_len (chs_sorted h32) fun a ha=>?_;by_cases he:(chs g kd (enN p g c)).2 = 0
 . have h1:=(chs_mem hk h32 (chs_lt h32 a ha) he).1 ha;obtain ⟨_,b,_⟩:=inner_iff.1 h1;exact Nat.lt_of_le_of_lt ((part_iff (chs_lt h32 a ha)).1 b).le hpw
 . rw [(chs_err hk he).2.1] at ha;cases ha
theorem tot_pow {p:Pr} {g:G} (hg:g.valid = true) {kd:Int} (hk:dk kd = true):(sysP p g kd).tot (cntP p g)≤cntP p g * 2 ^ g.ids.length:=by
 rw [Tsy.tot];refine sumA_le _ _ (fun k=>?_) _;show (arcK p g kd k).length≤_;rw [arcK,List.length_map];exact chs_pow hg hk _
theorem cnt_pow:∀ {n e:Nat},e < 2 ^ n→n≤32→cnt e 32≤n:=by
 intro n e h hn;have e1:(32:Nat) = n + (32 - n):=by omega
 rw [e1,cnt_add,Nat.shiftRight_eq_div_pow,Nat.div_eq_of_lt h,cnt_zero (fun i _=>Nat.zero_testBit i)];have:=cnt_le e n;omega
theorem chs_fine {p:Pr} {g:G} (hg:g.valid = true) {kd:Int} (hk:dk kd = true) (hn:g.ids.length≤10) (c:Cf):(chs g kd (enN p g c)).2 = 0:=by
 apply Classical.byContradiction;intro h;have h1:=(chs_err hk h).2.2.1;have h2:=cnt_pow (en_pow p g c) (by omega);omega
end Go.Proofs.YthbiicpcbnijiaaGreatDoor
namespace Go.Proofs.YthbiicpcbnijiaaGreatDoor
open Go.Eng Go.Plain
set_option maxRecDepth 100000
set_option linter.unusedVariables false
set_option linter.unusedSectionVars false
theorem retp_args {P:Program} {f:FuncId} {args args':List V} {Φ:V→Prop} (hk:allB V.kf args' = true) (hl:LLe args' args) (h:RetP P f args Φ):RetP P f args' Φ:=fun own ks=>by
 constructor;intro M w σ us hlen hd hh;obtain ⟨d1,d2⟩:=hl.dens (M:=M) (w:=w) (us:=us) hlen (fun i v u hv hu=>(hd i v u hv hu).kf (allB_mem hk v (List.mem_of_getElem? hv)) Sg.none);exact (h own ks).out M w σ us d1 (fun i v u hv hu=>(d2 i v u hv hu).mono (Ext.mk (fun _ _ h=>⟨h,rfl⟩) (Nat.le_refl _)) (Sg.none_le σ)) hh
theorem ret_argsW {P:Program} {f:FuncId} {args args':List V} {X:V} (hk:allB V.kf args' = true) (hl:LLe args' args) (h:Ret P f args X):Ret P f args' X :=
 RetP.ret (Φ:=fun v=>v = X) (retp_args hk hl (h.p rfl)) (fun _ h=>h)
theorem retp_res {P:Program} {f:FuncId} {args:List V} {Φ:V→Prop} {X:V} (h:RetP P f args Φ) (hX:∀ v,Φ v→v.kf = true∧VLe v X):Ret P f args X:=fun own ks=>by
 constructor;intro M w σ us hlen hd hh;refine ((h own ks).out M w σ us hlen hd hh).mono ?_;rintro e w' ⟨M',σ',v,own',ks',u,rfl,hv,hh',tr,kd,hΦ,rfl,rfl⟩;obtain ⟨hk,hl⟩:=hX v hΦ;exact ⟨M',σ',X,_,_,u,rfl,(hl.out _ _ _ (hv.kf hk Sg.none)).mono (Ext.mk (fun _ _ h=>⟨h,rfl⟩) (Nat.le_refl _)) (Sg.none_le σ'),hh',tr,kd,rfl,rfl,rfl⟩
def blW (n:Nat) (lg:Nat→Bool):V:=.fz n 1 false (shiftF 0 (vBl lg))
theorem bl_le (n:Nat) (lg:Nat→Bool):VLe (blW n lg) (blV n lg):=VLe.fz rfl (fun h=>h) fun i j hi hj=>VLe.of_eq (by rw [shiftF_eq,Nat.zero_add];rfl)
theorem vle_appL (lg:Nat→Bool) (n m i j:Nat) (hm:m = n) (hi:i < n + 1) (hj:j < 1) (b:Bool) (F:Nat→Nat→V) (hF:F 0 0 = .bool b) (hb:b = lg n):VLe (fapp (shiftF 0 (vBl lg)) m (shiftF 0 F) i j) (vBl lg i j):=by
 obtain rfl:j = 0:=by omega
 subst hm;apply VLe.of_eq;by_cases h:i < m
 . rw [fapp_lt h,shiftF_eq,Nat.zero_add]
 . rw [fapp_ge h];have:i = m:=by omega
   subst this;simp [shiftF,hF,vBl,hb]
theorem csmallW {p:Pr} (hp:PrOk p) {g:G} (hg:g.valid = true) {c:Cf} (h:Conf p g c):CSmall c:=by
 obtain ⟨f1,f2,f3,f4,f5,f6,f7⟩:=val_facts hg;have hl:=h.len;have hv:=hp.vlen;refine ⟨by omega,fun r hr=>?_⟩;obtain ⟨i,hi,e⟩:=List.mem_iff_getElem.1 hr;have h2:gC c i = r:=by simp [gC,List.getD,hi,e]
 have:=h.row i hi;rw [← h2];omega
theorem deg_le {g:G} (hg:g.valid = true) {v:Nat} (hv:v < g.ports.length):(gR g.ports v).length≤g.ports.length:=by
 obtain ⟨f1,f2,f3,f4,f5,f6,f7⟩:=val_facts hg;have h:=f6 v hv;rw [okR,Bool.and_eq_true,decide_eq_true_eq] at h;have h1:=List.Nodup.length_le_of_subset (l₂:=(List.range g.ports.length).map Int.ofNat) h.2 (fun a ha=>by
  obtain ⟨l,hl,rfl⟩:=List.mem_map.1 ha;have h2:=List.all_eq_true.1 h.1 l hl;simp only [okL,Bool.and_eq_true,decide_eq_true_eq] at h2;exact List.mem_map.2 ⟨l.1.toNat,List.mem_range.2 (by omega),by simp;omega⟩)
 simpa using h1
theorem cnt_rows {p:Pr} {g:G} {B:Nat} (h:∀ v,v < g.ids.length→Mx.pr (szP p g) (v * p.vars.length) p.vars.length≤B):cntP p g≤B ^ g.ids.length:=row_pow h
section
variable {p:Pr} (hp:PrOk p) {g:G} (hs:g.Small) (hg:g.valid = true) {kd:Int} (hk:dk kd = true) {leg:Cf→Bool} {R M:Int} {Inv:Cf→Cnt→Prop} (hS:Srv p g kd leg R M Inv)
 (h10:g.ids.length≤10) (hN:cntP p g≤32768) (hNm:cntP p g * 2 ^ g.ids.length≤262144)
include hp hs hg hk h10 hN hNm
theorem whole_build:RG 10 [p.v,g.v,.int .i64 kd] (.tup [(sysP p g kd).v,.int .i64 0]) :=
 sbuild_ok p hp g hs hg kd hk hN (chs_fine hg hk h10) (Nat.le_trans (tot_pow hg hk) hNm)
theorem whole_ok:(sysP p g kd).Ok:=sys_ok hp hg hk hN (chs_fine hg hk h10) (Nat.le_trans (tot_pow hg hk) hNm)
include hS
theorem whole_core:Ret Tryz.prog 13 [(sysP p g kd).v,blW (cntP p g) (legK p g leg)] (.tup [blV (cntP p g) fun _=>false,.int .i64 0]):=by
 refine ret_argsW (args:=[(sysP p g kd).v,blV (cntP p g) (legK p g leg)]) rfl ⟨VLe.rfl,bl_le _ _,True.intro⟩ (retp_res (core_ok (sysP p g kd) (whole_ok hp hs hg hk h10 hN hNm) (legK p g leg)) ?_);rintro _ ⟨L,hL,rfl⟩;have hall:=sys_all hp hg hk hS (chs_fine hg hk h10) hL;refine ⟨rfl,VLe.tup ⟨VLe.fz rfl (fun h=>h) (fun i j hi hj=>VLe.bool ?_),VLe.rfl,True.intro⟩⟩;have:decide (i∈L) = true:=decide_eq_true (hall i hi);show (!decide (i∈L)) = false;rw [this];rfl
theorem whole_closed:Ret Tryz.prog 14 [(sysP p g kd).v,blW (cntP p g) (legK p g leg)] (.tup [.bool true,.int .i64 0]) :=
 ret_argsW (args:=[(sysP p g kd).v,blV (cntP p g) (legK p g leg)]) rfl ⟨VLe.rfl,bl_le _ _,True.intro⟩ (cclosed_ok (sysP p g kd) (whole_ok hp hs hg hk h10 hN hNm) (legK p g leg) (fun k _ hl a ha=>sys_closed hp hg hk hS (chs_fine hg hk h10) hl ha))
theorem whole_rounds (hR:0≤R):RetP Tryz.prog 15 [(sysP p g kd).v,blW (cntP p g) (legK p g leg)] fun v=>∃ r:Nat→Nat,(∀ k,k < cntP p g→(r k:Int)≤R)∧v = .tup [inV (cntP p g) r,.int .i64 0]:=by
 have h:=rounds_ok (sysP p g kd) (whole_ok hp hs hg hk h10 hN hNm) (legK p g leg) (fun L hL=>sys_all hp hg hk hS (chs_fine hg hk h10) hL) (2 ^ g.ids.length) (fun k _=>en_pow p g _) hNm (RdOk p g R Inv) (sys_rq hp hg hk hS (chs_fine hg hk h10));refine retp_args (args:=[(sysP p g kd).v,blV (cntP p g) (legK p g leg)]) rfl ⟨VLe.rfl,bl_le _ _,True.intro⟩ (fun own ks=>(h own ks).mono ?_);rintro _ _ _ ⟨⟨r,h1,h2,rfl⟩,rfl,rfl⟩;refine ⟨⟨r,fun k hk'=>?_,rfl⟩,rfl,rfl⟩;cases e:legK p g leg k with
 | true=>have:=h1 k hk' e;omega
 | false=>exact rd_end hp hg hS e (h2 k hk' e)
theorem whole_moves:RetP Tryz.prog 16 [(sysP p g kd).v,blW (cntP p g) (legK p g leg)] fun v=>∃ r:Nat→Nat,(0≤M→∀ k,k < cntP p g→(r k:Int)≤M)∧v = .tup [inV (cntP p g) r,.int .i64 0]:=by
 have h:=moves_ok (sysP p g kd) (whole_ok hp hs hg hk h10 hN hNm) (legK p g leg) (fun L hL=>sys_all hp hg hk hS (chs_fine hg hk h10) hL) (MvOk p g M Inv) (sys_mq hp hg hk hS (chs_fine hg hk h10));refine retp_args (args:=[(sysP p g kd).v,blV (cntP p g) (legK p g leg)]) rfl ⟨VLe.rfl,bl_le _ _,True.intro⟩ (fun own ks=>(h own ks).mono ?_);rintro _ _ _ ⟨⟨r,h1,h2,rfl⟩,rfl,rfl⟩;refine ⟨⟨r,fun hM k hk'=>?_,rfl⟩,rfl,rfl⟩;cases e:legK p g leg k with
 | true=>have:=h1 k hk' e;omega
 | false=>exact mv_end hp hg hS e (h2 k hk' e) hM
end
end Go.Proofs.YthbiicpcbnijiaaGreatDoor
namespace Go.Proofs.YthbiicpcbnijiaaGreatDoor
open Go.Eng
set_option maxRecDepth 100000
set_option linter.unusedVariables false
def l01:List Int:=[0,1]
def netL (n:Int) (l:List Int):V:=.agg [.int .i64 n,.fz l.length 1 false (vI l),.nilslice,.nilslice,.bool false,.bool false]
def t3:G:=⟨[0,1,2],[[(1,1)],[(0,1),(2,1)],[(1,1)]]⟩
theorem at01_0:Ret Tryz.prog 29 [.fz 2 1 false (vI l01),.int .i64 0] (.int .i64 0):=at_ok l01 (by decide) 0
theorem at01_1:Ret Tryz.prog 29 [.fz 2 1 false (vI l01),.int .i64 1] (.int .i64 1):=at_ok l01 (by decide) 1
theorem w_0_1:Ret Tryz.prog 28 [.int .i64 0,.int .i64 1] (.int .i64 0):=within_ok 0 1 (by decide)
theorem w_1_2:Ret Tryz.prog 28 [.int .i64 1,.int .i64 2] (.int .i64 1):=within_ok 1 2 (by decide)
set_option maxHeartbeats 4000000 in
theorem tree3:Ret Tryz.prog 60 [netL 3 l01,.int .i64 3] t3.v:=by
 refine ret_frz2 rfl ?_;refine fn_rule mixed Tryz.func60 rfl hc60 hr60 rfl ?_
 repeat' ((conv=>whnf);first | (refine MkS.cells ?_) | (refine Bd.mk 3 (by decide) (by omega) ?_) | (refine Sv.mk 1 (by decide) ?_) | (refine Sv.mk 2 (by decide) ?_) | (refine Br.tt ?_) | (refine Br.ff ?_) | (refine Ar.i64 (by omega) (by omega) ?_) | (refine Nz.mk (by omega) ?_) | (refine Ix.mk 0 rfl (by omega) ?_) | (refine Ix.mk 1 rfl (by omega) ?_) | (refine Ix.int (by omega) (by omega) ?_) | (refine Len.mk (by omega) ?_) | (refine Ltn.mk (by omega) ?_) | (refine And.intro rfl ?_) | (refine fn_rule mixed Tryz.func27 rfl hc27 hr27 rfl ?_) | (refine fn_rule mixed Tryz.func90 rfl hc90 hr90 rfl ?_) | (refine fn_rule mixed Tryz.func125 rfl hc125 hr125 rfl ?_) | (refine w_2_3.go ?_) | (refine w_0_256.go ?_) | (refine w_0_15.go ?_) | (refine w_0_1.go ?_) | (refine w_1_2.go ?_) | (refine at01_0.go ?_) | (refine at01_1.go ?_) | (refine loop_fuel mixed 20 ?_) | (refine call_frz [] (at_nil 0) ⟨VLe.nilfz rfl,VLe.int (by omega),True.intro⟩ ?_) | (refine call_frz [] (at_nil 1) ⟨VLe.nilfz rfl,VLe.int (by omega),True.intro⟩ ?_) | (refine call_frz [] (at_nil 2) ⟨VLe.nilfz rfl,VLe.int (by omega),True.intro⟩ ?_))
 all_goals (conv=>whnf)
 refine VLe.agg ⟨VLe.fz rfl (fun h=>h) (fun i j hi hj=>?_),VLe.fz rfl (fun h=>h) (fun i j hi hj=>?_),True.intro⟩
 . rcases i with _ | _ | _ | i
   all_goals first | (exfalso;omega) | (rcases j with _ | j;exact VLe.rfl;exfalso;omega)
 . rcases i with _ | _ | _ | i
   all_goals first | (exfalso;omega) | skip
   all_goals
    obtain rfl:j = 0:=by omega
    conv=>arg 1;whnf
    conv=>arg 2;whnf
    refine VLe.fz rfl (fun h=>h) (fun i j hi hj=>?_);rcases i with _ | _ | i
    all_goals first | (exfalso;omega) | (rcases j with _ | _ | j;exact VLe.rfl;exact VLe.rfl;exfalso;omega)
theorem t3_small:t3.Small:=⟨by decide,by decide,by decide⟩
theorem two_le (a b:Int) (f:Nat→Nat→V) (h0:f 0 0 = .int .i64 a) (h1:f 1 0 = .int .i64 b):∀ i j:Nat,i < 2→j < 1→VLe (f i j) (vI [a,b] i j):=by
 intro i j hi hj;have e':j = 0:=by omega
 subst e';rcases i with _ | _ | i
 . rw [h0];exact VLe.rfl
 . rw [h1];exact VLe.rfl
 . exfalso;omega
end Go.Proofs.YthbiicpcbnijiaaGreatDoor
namespace Go.Proofs.YthbiicpcbnijiaaGreatDoor
open Go.Eng
set_option maxRecDepth 100000
set_option linter.unusedVariables false
theorem kfit_ok (g:G) (hs:g.Small):Ret Tryz.prog 62 [g.v] (.bool g.valid):=by
 have h:=valid_ok g hs;refine ret_frz rfl ?_;refine fn_rule mixed Tryz.func62 rfl hc62 hr62 rfl ?_
 repeat' ((conv=>whnf);first | (refine h.go ?_) | (refine Br.any (fun _=>?_) (fun _=>?_)))
 all_goals (conv=>whnf)
 all_goals exact VLe.bool (Eq.symm (by assumption))
def vK:List Vr:=[⟨ByteArray.mk #[109],2,0,0,0,0⟩,⟨ByteArray.mk #[104],3,0,0,0,0⟩]
def bK (g:G) (v x:Nat):Int × Int:=if x = 0 then (0,1) else (-1,((gR g.ports v).length:Int) - 1)
def G.kconf (g:G) (c:Cf):Bool:=conf g.ids.length 2 (bK g) c
theorem kconf_g (g:G) (c:Cf):conf g.ids.length [(1:Int),-1].length (bG g [1,-1]) c = g.kconf c:=conf_ext (fun v x hv hx=>by
 have e:x = 0∨x = 1:=by simp at hx;omega
 rcases e with rfl | rfl <;> rfl)
theorem kconf_facts {g:G} {c:Cf} (h:g.kconf c = true):c.length = g.ids.length∧∀ v,v < c.length→(gC c v).length = 2∧0≤gI (gC c v) 0∧gI (gC c v) 0≤1∧-1≤gI (gC c v) 1∧gI (gC c v) 1 < (gR g.ports v).length:=by
 have:=conf_iff.1 h;refine ⟨this.1,fun v hv=>?_⟩;have h2:=this.2 v (by omega);have h3:=h2.2 0 (by omega);have h4:=h2.2 1 (by omega);simp only [bK,if_true,Nat.one_ne_zero,if_false] at h3 h4;omega
theorem kconfiguration_ok (g:G) (hs:g.Small) (c:Cf) (hc:CSmall c):Ret Tryz.prog 64 [g.v,cV c] (.bool (g.valid && g.kconf c)):=by
 have hval:=kfit_ok g hs;refine ret_frz rfl ?_;refine fn_rule mixed Tryz.func64 rfl hc64 hr64 rfl ?_;by_cases hg:g.valid = true
 . rw [hg] at hval ⊢;rw [Bool.true_and];obtain ⟨f1,f2,f3,f4,f5,f6,f7⟩:=val_facts hg;have hb:=bconf_ok g hs f3 c hc [1,-1] (by decide);rw [kconf_g] at hb
   repeat' ((conv=>whnf);first | (refine Br.tt ?_) | (refine hval.go ?_) | (refine call_frz [1] hb ⟨by decide,VLe.rfl,VLe.rfl,VLe.fz rfl (fun h=>h) (two_le _ _ _ rfl rfl),True.intro⟩ ?_) | (refine Br.any (fun _=>?_) (fun _=>?_)))
   all_goals (conv=>whnf)
   all_goals exact VLe.bool (Eq.symm (by assumption))
 . simp only [Bool.not_eq_true] at hg;rw [hg] at hval ⊢;rw [Bool.false_and]
   repeat' ((conv=>whnf);first | (refine Br.ff ?_) | (refine hval.go ?_))
   all_goals (conv=>whnf)
   all_goals exact VLe.rfl
def sumR (p:List (List (Int × Int))):Nat→Nat
 | 0=>0
 | v + 1=>sumR p v + (gR p v).length
theorem sumR_le {p:List (List (Int × Int))} (h:∀ v,v < p.length→(gR p v).length≤24):∀ v,v≤p.length→sumR p v≤24 * v
 | 0,_=>by simp [sumR]
 | v + 1,hv=>by have:=sumR_le h v (by omega);have:=h v (by omega);rw [sumR];omega
theorem rows_le {g:G} (hg:g.valid = true):∀ v,v < g.ports.length→(gR g.ports v).length≤24:=by
 obtain ⟨f1,f2,f3,f4,f5,f6,f7⟩:=val_facts hg;intro v hv;have:=okR_len hv (f6 v hv);omega
def G.size (g:G):V:=if g.valid then .tup [.int .i64 g.ids.length,.int .i64 ((sumR g.ports g.ports.length:Int).tdiv 2)] else .tup [.int .i64 0,.int .i64 0]
theorem tdiv_facts {n:Nat} (h:n≤576):0≤(n:Int).tdiv 2∧(n:Int).tdiv 2≤576:=by
 rw [Int.tdiv_eq_ediv_of_nonneg (by omega)];omega
theorem ksize_ok (g:G) (hs:g.Small):Ret Tryz.prog 63 [g.v] g.size:=by
 have hval:=valid_ok g hs;refine ret_frz rfl ?_;refine fn_rule mixed Tryz.func63 rfl hc63 hr63 rfl ?_;rw [G.size];by_cases hg:g.valid = true
 . rw [hg] at hval ⊢;rw [if_pos rfl];obtain ⟨f1,f2,f3,f4,f5,f6,f7⟩:=val_facts hg
   repeat' ((conv=>whnf);first | (refine Br.tt ?_) | (refine hval.go ?_))
   all_goals (conv=>whnf)
   refine loop_r mixed [1,10,11] (fun i:Nat=>[(3,.int .i64 (sumR g.ports i)),(12,.int .i64 i)]) (fun m v=>m = g.ports.length - v∧v≤g.ports.length) g.ports.length 0 ⟨rfl,Nat.zero_le _⟩ ?_ ?_
   . exact weak_b (fun _ _=>[(0,some 0)])
   rintro m v ⟨hm,hv⟩;have hr:=rows_le hg v;have hsl:=sumR_le (rows_le hg) v hv;have ht:=tdiv_facts (n:=sumR g.ports v) (by omega)
   repeat' ((conv=>whnf);first | (refine Br.dec ?_ ?_ <;> intro _ <;> try omega) | (refine Ar.i64 (by omega) (by omega) ?_) | (refine Nz.mk (by omega) ?_) | (refine Ix.nat (by omega) ?_))
   all_goals (conv=>whnf)
   . refine ⟨g.ports.length - (v + 1),v + 1,by omega,⟨rfl,by omega⟩,?_⟩;have hx:sumR g.ports (v + 1) = sumR g.ports v + (gR g.ports v).length:=rfl;exact weak_b (fun _ _=>[(0,some 0)])
   . have e:v = g.ports.length:=by omega
     rw [← e];exact VLe.rfl
 . simp only [Bool.not_eq_true] at hg;rw [hg] at hval ⊢;rw [if_neg (by simp)]
   repeat' ((conv=>whnf);first | (refine Br.ff ?_) | (refine hval.go ?_))
   all_goals (conv=>whnf)
   all_goals exact VLe.rfl
def G.kclaim (g:G):V:=if g.valid then .agg [.int .i64 2,.bool false,.bool true,.int .i64 3,.int .i64 (5 * (g.ids.length:Int) + 4 * ((sumR g.ports g.ports.length:Int).tdiv 2))] else .agg [.int .i64 0,.bool false,.bool false,.int .i64 0,.int .i64 0]
theorem kclaim_ok (g:G) (hs:g.Small):Ret Tryz.prog 24 [g.v] g.kclaim:=by
 have h0:=kfit_ok g hs;have h1:=ksize_ok g hs;refine ret_frz rfl ?_;refine fn_rule mixed Tryz.func24 rfl hc24 hr24 rfl ?_;by_cases hv:g.valid = true
 . obtain ⟨f1,f2,f3,f4,f5,f6,f7⟩:=val_facts hv;have hsl:=sumR_le (rows_le hv) _ (Nat.le_refl _);have ht:=tdiv_facts (n:=sumR g.ports g.ports.length) (by omega);rw [G.kclaim,if_pos hv];rw [G.size,if_pos hv] at h1;rw [hv] at h0
   repeat' ((conv=>whnf);first | (refine Br.tt ?_) | (refine Ar.i64 (by omega) (by omega) ?_) | (refine h0.go ?_) | (refine h1.go ?_))
   all_goals (conv=>whnf)
   all_goals exact VLe.rfl
 . rw [G.kclaim,if_neg hv];simp only [Bool.not_eq_true] at hv;rw [hv] at h0
   repeat' ((conv=>whnf);first | (refine Br.ff ?_) | (refine h0.go ?_))
   all_goals (conv=>whnf)
   all_goals exact VLe.rfl
theorem same34_ok (a b:List Int) (ha:a.length≤1000000) (hb:b.length≤1000000):Ret Tryz.prog 67 [.fz a.length 1 false (vI a),.fz b.length 1 false (vI b)] (.bool (decide (a = b))):=by
 refine ret_frz rfl ?_;refine fn_rule mixed Tryz.func67 rfl hc67 hr67 rfl ?_
 repeat' ((conv=>whnf);first | (refine Br.bne ?_ ?_ <;> intro _ <;> try omega))
 all_goals (conv=>whnf)
 . exact VLe.bool (by rw [decide_eq_false (fun h=>by subst h;omega)])
 refine loop_r mixed [0,1] (fun i:Nat=>[(5,.int .i64 i)]) (fun m i=>m = a.length - i∧i≤a.length∧∀ j,j < i→gI a j = gI b j) a.length 0 ⟨rfl,Nat.zero_le _,fun j hj=>by omega⟩ ?_ ?_
 . exact weak_b (fun _ _=>[])
 rintro m i ⟨hm,hi,hall⟩
 repeat' ((conv=>whnf);first | (refine Br.dec ?_ ?_ <;> intro _ <;> try omega) | (refine Br.bne ?_ ?_ <;> intro _ <;> try omega) | (refine Ar.i64 (by omega) (by omega) ?_) | (refine Ix.nat (by omega) ?_))
 all_goals (conv=>whnf)
 . rename_i hne;exact VLe.bool (by rw [decide_eq_false (fun h=>by subst h;exact hne rfl)])
 . refine ⟨a.length - (i + 1),i + 1,by omega,⟨rfl,by omega,fun j hj=>?_⟩,?_⟩
   . by_cases e:j = i
     . subst e;assumption
     . exact hall j (by omega)
   . exact weak_b (fun _ _=>[])
 . have e:a = b:=List.ext_getElem (by omega) (fun j h1 h2=>by
    have:=hall j (by omega);simpa [gI,List.getD,List.getElem?_eq_getElem h1,List.getElem?_eq_getElem h2] using this)
   exact VLe.bool (by rw [decide_eq_true e])
end Go.Proofs.YthbiicpcbnijiaaGreatDoor
namespace Go.Proofs.YthbiicpcbnijiaaGreatDoor
open Go.Eng
set_option maxRecDepth 100000
set_option linter.unusedVariables false
def fpL (p:Int × Int→Bool):List (Int × Int)→Nat→Int
 | [],_=>-1
 | l :: r,k=>if p l then k else fpL p r (k + 1)
def pd (c:Cf) (l:Int × Int):Bool:=decide (gI (gC c l.1.toNat) 0 = 1)
def kport (g:G) (c:Cf) (v:Nat):Int:=if gI (gC c v) 0 = 0 then fpL (pd c) (gR g.ports v) 0 else -1
def kgood (g:G) (c:Cf):Bool:=decide (∀ v,v < c.length→gI (gC c v) 1 = kport g c v)
def G.klegit (g:G) (c:Cf):Bool:=g.valid && g.kconf c && mx g (one c 0) && kgood g c
theorem kgood_no {g:G} {c:Cf} {v:Nat} (hv:v < c.length) (h:gI (gC c v) 1≠kport g c v):kgood g c = false:=by
 rw [kgood,decide_eq_false_iff_not];exact fun hh=>h (hh v hv)
theorem kF_drop {r:List (Int × Int)} {i:Nat} (h:i < r.length):r.drop i = gF r i :: r.drop (i + 1):=by
 rw [List.drop_eq_getElem_cons h];simp only [gF,List.getD,List.getElem?_eq_getElem h,Option.getD_some]
theorem fpL_yes {p:Int × Int→Bool} {r:List (Int × Int)} {i:Nat} (h:i < r.length) (hp:p (gF r i) = true):fpL p (r.drop i) i = i:=by
 rw [kF_drop h,fpL,if_pos hp]
theorem fpL_no {p:Int × Int→Bool} {r:List (Int × Int)} {i:Nat} (h:i < r.length) (hp:p (gF r i) = false):fpL p (r.drop i) i = fpL p (r.drop (i + 1)) (i + 1):=by
 rw [kF_drop h,fpL,if_neg (by simp [hp])]
theorem fpL_end {p:Int × Int→Bool} {r:List (Int × Int)} {i:Nat} (h:r.length≤i):fpL p (r.drop i) i = -1:=by
 rw [List.drop_eq_nil_of_le h];rfl
set_option maxHeartbeats 8000000 in
theorem klegit_ok (g:G) (hs:g.Small) (c:Cf) (hc:CSmall c):Ret Tryz.prog 25 [g.v,cV c] (.bool (g.klegit c)):=by
 have h1:=kconfiguration_ok g hs c hc;refine ret_frz rfl ?_;refine fn_rule mixed Tryz.func25 rfl hc25 hr25 rfl ?_;rw [G.klegit];by_cases hg:(g.valid && g.kconf c) = true
 . rw [hg] at h1 ⊢;rw [Bool.true_and];rw [Bool.and_eq_true] at hg;obtain ⟨f1,f2,f3,f4,f5,f6,f7⟩:=val_facts hg.1;obtain ⟨e1,e2⟩:=kconf_facts hg.2;have h2:=true_ok c 0 (by omega) (fun v hv=>by have:=e2 v hv;omega);have h3:=maximal_ok g hs hg.1 (one c 0);rw [show c.length = g.ports.length by omega] at h2;cases hmx:mx g (one c 0) with
   | false =>
     rw [hmx] at h3;rw [Bool.false_and]
     repeat' ((conv=>whnf);first | (refine Br.tt ?_) | (refine Br.ff ?_) | (refine h1.go ?_) | (refine h2.go ?_) | (refine h3.go ?_) | (refine And.intro rfl ?_))
     all_goals (conv=>whnf)
     all_goals exact VLe.rfl
   | true =>
     rw [hmx] at h3;rw [Bool.true_and]
     repeat' ((conv=>whnf);first | (refine Br.tt ?_) | (refine h1.go ?_) | (refine h2.go ?_) | (refine h3.go ?_) | (refine And.intro rfl ?_))
     all_goals (conv=>whnf)
     refine loop_r mixed [2,3,19,20] (fun i:Nat=>[(21,.int .i64 i)]) (fun m v=>m = c.length - v∧v≤c.length∧∀ u,u < v→gI (gC c u) 1 = kport g c u) c.length 0 ⟨rfl,Nat.zero_le _,fun u hu=>by omega⟩ ?_ ?_
     . exact weak_b (fun _ _=>[(0,some 0),(1,some 1)])
     rintro m v ⟨hm,hv,hall⟩;have e2v:=e2 v;have hrl:=gR_len hs.rows v
     repeat' ((conv=>whnf);first | (refine Br.dec ?_ ?_ <;> intro _ <;> try omega) | (refine Br.bne ?_ ?_ <;> intro _ <;> try omega) | (refine Ar.i64 (by omega) (by omega) ?_) | (refine Ix.nat (by omega) ?_) | (refine Ix.mk 0 rfl (by omega) ?_) | (refine Ix.mk 1 rfl (by omega) ?_) | (refine fn_rule mixed Tryz.func65 rfl hc65 hr65 rfl ?_))
     all_goals (conv=>whnf)
     . refine loop_r mixed [2,13,14] (fun i:Nat=>[(15,.int .i64 i)]) (fun m i=>m = (gR g.ports v).length - i∧i≤(gR g.ports v).length∧fpL (pd c) (gR g.ports v) 0 = fpL (pd c) ((gR g.ports v).drop i) i) (gR g.ports v).length 0 ⟨rfl,Nat.zero_le _,rfl⟩ ?_ ?_
       . exact weak_b (fun _ _=>[(0,some 0),(1,some 1),(2,some 2)])
       rintro m i ⟨hm,hi,hfp⟩;have hto:=fun h=>okR_to (f6 v (by omega)) (i:=i) h;have e2t:=e2 (gF (gR g.ports v) i).1.toNat
       repeat' ((conv=>whnf);first | (refine Br.tt ?_) | (refine Br.ff ?_) | (refine Br.dec ?_ ?_ <;> intro _ <;> try omega) | (refine Br.bne ?_ ?_ <;> intro _ <;> try omega) | (refine Ar.i64 (by omega) (by omega) ?_) | (refine Ix.nat (by omega) ?_) | (refine Ix.mk 0 rfl (by omega) ?_) | (refine Ix.mk 1 rfl (by omega) ?_) | (refine Ix.int (by omega) (by omega) ?_) | (refine Chk.mk (by kernel_rfl) ?_) | (refine fn_rule mixed Tryz.func66 rfl hc66 hr66 rfl ?_))
       all_goals (conv=>whnf)
       . have hk:kport g c v = i:=by rw [kport,if_pos (by assumption),hfp];exact fpL_yes (by omega) (by rw [pd,decide_eq_true_eq];assumption)
         exact VLe.bool (kgood_no (v:=v) (by omega) (by rw [hk];assumption)).symm
       . have hk:kport g c v = i:=by rw [kport,if_pos (by assumption),hfp];exact fpL_yes (by omega) (by rw [pd,decide_eq_true_eq];assumption)
         refine ⟨c.length - (v + 1),v + 1,by omega,⟨rfl,by omega,fun u hu=>?_⟩,?_⟩
         . by_cases e:u = v
           . subst e;rw [hk];assumption
           . exact hall u (by omega)
         . exact weak_b (fun _ _=>[(0,some 0),(1,some 1)])
       . refine ⟨(gR g.ports v).length - (i + 1),i + 1,by omega,⟨rfl,by omega,?_⟩,?_⟩
         . rw [hfp];exact fpL_no (by omega) (by rw [pd,decide_eq_false_iff_not];assumption)
         . exact weak_b (fun _ _=>[(0,some 0),(1,some 1),(2,some 2)])
       . have hk:kport g c v = -1:=by rw [kport,if_pos (by assumption),hfp];exact fpL_end (by omega)
         exact VLe.bool (kgood_no (v:=v) (by omega) (by rw [hk];assumption)).symm
       . have hk:kport g c v = -1:=by rw [kport,if_pos (by assumption),hfp];exact fpL_end (by omega)
         refine ⟨c.length - (v + 1),v + 1,by omega,⟨rfl,by omega,fun u hu=>?_⟩,?_⟩
         . by_cases e:u = v
           . subst e;rw [hk];assumption
           . exact hall u (by omega)
         . exact weak_b (fun _ _=>[(0,some 0),(1,some 1)])
     . have hk:kport g c v = -1:=by rw [kport,if_neg (by assumption)]
       exact VLe.bool (kgood_no (v:=v) (by omega) (by rw [hk];assumption)).symm
     . have hk:kport g c v = -1:=by rw [kport,if_neg (by assumption)]
       refine ⟨c.length - (v + 1),v + 1,by omega,⟨rfl,by omega,fun u hu=>?_⟩,?_⟩
       . by_cases e:u = v
         . subst e;rw [hk];assumption
         . exact hall u (by omega)
       . exact weak_b (fun _ _=>[(0,some 0),(1,some 1)])
     . exact VLe.bool (by rw [kgood,decide_eq_true (fun u hu=>hall u (by omega))])
 . simp only [Bool.not_eq_true] at hg;rw [hg] at h1 ⊢;rw [Bool.false_and,Bool.false_and]
   repeat' ((conv=>whnf);first | (refine Br.ff ?_) | (refine h1.go ?_))
   all_goals (conv=>whnf)
   all_goals exact VLe.rfl
end Go.Proofs.YthbiicpcbnijiaaGreatDoor
namespace Go.Plain
structure Tgt (n:Nat) (a:Nat→Nat→Bool) (T:St→Nat→Int):Prop where
 loc:∀ m m' v,v < n→m v = m' v→(∀ u,u < n→a v u = true→m u = m' u)→T m v = T m' v
def ptE (T:St→Nat→Int) (m:St) (h:Nat→Int) (v:Nat):Bool:=decide (h v≠T m v)
def enC (n:Nat) (a:Nat→Nat→Bool) (T:St→Nat→Int) (m:St) (h:Nat→Int) (v:Nat):Bool:=enI n a m v || ptE T m h v
def mS (n:Nat) (a:Nat→Nat→Bool) (m s:St):St:=fun v=>s v && enI n a m v
def stM (n:Nat) (a:Nat→Nat→Bool) (m s:St):St:=stI (mS n a m s) m
def stH (n:Nat) (a:Nat→Nat→Bool) (T:St→Nat→Int) (m s:St) (h:Nat→Int):Nat→Int:=fun v=>if s v = true∧enI n a m v = false then T m v else h v
structure ChsC (n:Nat) (a:Nat→Nat→Bool) (T:St→Nat→Int) (m s:St) (h:Nat→Int):Prop where
 en:∀ v,s v = true→v < n∧enC n a T m h v = true
 ind:∀ u v,s u = true→s v = true→a u v = false
variable {n:Nat} {a:Nat→Nat→Bool} {T:St→Nat→Int} {m s:St} {h:Nat→Int}
theorem ChsC.low (hc:ChsC n a T m s h):Chs n a m (mS n a m s) :=
 ⟨fun v hv=>by simp only [mS,Bool.and_eq_true] at hv;exact ⟨(hc.en v hv.1).1,hv.2⟩,fun u v hu hv=>by simp only [mS,Bool.and_eq_true] at hu hv;exact hc.ind u v hu.1 hv.1⟩
theorem mS_false {v:Nat} (he:enI n a m v = true) (hs:mS n a m s v = false):s v = false:=by
 simpa [mS,he] using hs
def leftC (n:Nat) (a:Nat→Nat→Bool) (T:St→Nat→Int) (m p s:St) (h:Nat→Int):St:=fun v=>p v && !s v && enC n a T (stM n a m s) (stH n a T m s h) v
structure CInv (n:Nat) (a:Nat→Nat→Bool) (T:St→Nat→Int) (m p:St) (h:Nat→Int) (r:Nat):Prop where
 r0:r = 0→∀ v,v < n→cfl n a m v = true→p v = true
 r1:1≤r→∀ v,v < n→cfl n a m v = false
 r2:r = 1→∀ v,v < n→enI n a m v = true→p v = true
 r3:2≤r→∀ v,v < n→enI n a m v = false
 r4:r = 2→∀ v,v < n→ptE T m h v = true→p v = true
 r5:3≤r→∀ v,v < n→ptE T m h v = false
theorem enC_low {v:Nat} (he:enI n a m v = true):enC n a T m h v = true:=by simp [enC,he]
theorem CInv.start:CInv n a T m (enC n a T m h) h 0 :=
 ⟨fun _ v _ hc=>enC_low (cfl_en hc),fun e=>by omega,fun e=>by omega,fun e=>by omega,fun e=>by omega,fun e=>by omega⟩
theorem stM_same (hn:∀ v,v < n→enI n a m v = false) (hc:ChsC n a T m s h) (v:Nat):stM n a m s v = m v:=by
 have:mS n a m s v = false:=by
  cases e:mS n a m s v with
  | false=>rfl
  | true=>obtain ⟨h1,h2⟩:=hc.low.en v e;rw [hn v h1] at h2;cases h2
 simp [stM,stI,this]
theorem nbM_same {m':St} (hm:∀ v,v < n→m v = m' v) (v:Nat):nbM n a m v = nbM n a m' v:=by
 rw [Bool.eq_iff_iff,nbM_iff,nbM_iff];constructor <;> rintro ⟨u,hu,h1,h2⟩
 . exact ⟨u,hu,h1,by rw [← hm u hu];exact h2⟩
 . exact ⟨u,hu,h1,by rw [hm u hu];exact h2⟩
theorem CInv.same (ha:Adj n a) (hT:Tgt n a T) (hc:ChsC n a T m s h) {p:St} {r:Nat} (hi:CInv n a T m p h r) (hr:r≤2):CInv n a T (stM n a m s) (leftC n a T m p s h) (stH n a T m s h) r:=by
 have hl:=hc.low;have noc:1≤r→∀ v,v < n→cfl n a (stM n a m s) v = false:=fun e v hv=>by
  cases hf:cfl n a (stM n a m s) v with
  | false=>rfl
  | true=>have:=hi.r1 e v hv;rw [(cfl_back ha hl hv hf).1] at this;cases this
 have noe:2≤r→∀ v,v < n→enI n a (stM n a m s) v = false:=fun e v hv=>by
  have hs:=fun v=>stM_same (hi.r3 e) hc v;rw [enI,hs v,nbM_same (fun v _=>hs v)];exact hi.r3 e v hv
 refine ⟨fun e v hv hf=>?_,noc,fun e v hv he=>?_,noe,fun e v hv hp=>?_,fun e=>by omega⟩
 . obtain ⟨h1,h2⟩:=cfl_back ha hl hv hf;simp [leftC,hi.r0 e v hv h1,mS_false (cfl_en h1) h2,enC_low (cfl_en hf)]
 . obtain ⟨h1,h2⟩:=en_back (hi.r1 (by omega)) (noc (by omega)) hl hv he;simp [leftC,hi.r2 e v hv h1,mS_false h1 h2,enC_low he]
 . have hn:=hi.r3 (by omega);have hs:=fun v=>stM_same hn hc v;have hTs:T (stM n a m s) v = T m v:=hT.loc _ _ v hv (hs v) (fun u _ _=>hs u);have hsv:s v = false:=by
    cases e2:s v with
    | false=>rfl
    | true=>simp [ptE,stH,e2,hn v hv,hTs] at hp
   have hp2:ptE T m h v = true:=by
    have:stH n a T m s h v = h v:=by simp [stH,hsv]
    rw [ptE,this,hTs] at hp;exact hp
   simp [leftC,hi.r4 e v hv hp2,hsv,enC,hp]
theorem CInv.next (ha:Adj n a) (hT:Tgt n a T) (hc:ChsC n a T m s h) {p:St} {r:Nat} (hi:CInv n a T m p h r) (hr:r≤2) (h0:∀ v,v < n→leftC n a T m p s h v = false):CInv n a T (stM n a m s) (enC n a T (stM n a m s) (stH n a T m s h)) (stH n a T m s h) (r + 1):=by
 have hs:=hi.same ha hT hc hr;refine ⟨fun e=>by omega,fun _ v hv=>?_,fun _ v hv he=>enC_low he,fun e v hv=>?_,fun _ v hv hp=>by simp [enC,hp],fun e v hv=>?_⟩
 . cases hf:cfl n a (stM n a m s) v with
   | false=>rfl
   | true =>
     rcases (show r = 0∨1≤r by omega) with e | e
     . have:=hs.r0 e v hv hf;rw [h0 v hv] at this;cases this
     . rw [hs.r1 e v hv] at hf;cases hf
 . cases he:enI n a (stM n a m s) v with
   | false=>rfl
   | true =>
     rcases (show r = 1∨2≤r by omega) with e | e
     . have:=hs.r2 e v hv he;rw [h0 v hv] at this;cases this
     . rw [hs.r3 e v hv] at he;cases he
 . cases hp:ptE T (stM n a m s) (stH n a T m s h) v with
   | false=>rfl
   | true=>have:=hs.r4 (by omega) v hv hp;rw [h0 v hv] at this;cases this
def b1 (b:Bool):Nat:=if b then 1 else 0
def dg (n:Nat) (a:Nat→Nat→Bool) (u:Nat):Nat:=sumN (fun v=>b1 (a u v)) n
def phiC (n:Nat) (a:Nat→Nat→Bool) (T:St→Nat→Int) (m:St) (h:Nat→Int) (v:Nat):Nat:=phi n a m v * (2 + dg n a v) + b1 (ptE T m h v)
def nearM (n:Nat) (a:Nat→Nat→Bool) (q:St) (v:Nat):Nat:=b1 (q v) + sumN (fun u=>b1 (a v u && q u)) n
theorem sumN_zero {f:Nat→Nat}:∀ {k:Nat},(∀ v,v < k→f v = 0)→sumN f k = 0
 | 0,_=>rfl
 | k + 1,hz=>by rw [sumN,sumN_zero (fun v hv=>hz v (by omega)),hz k (by omega)]
theorem sumN_pos {f:Nat→Nat} {u:Nat}:∀ {k:Nat},u < k→f u≤sumN f k
 | 0,h=>by omega
 | k + 1,h=>by
   rw [sumN];by_cases e:u = k
   . subst e;omega
   . have:=sumN_pos (f:=f) (show u < k by omega);omega
theorem sumN_ext {f g:Nat→Nat}:∀ {k:Nat},(∀ v,v < k→f v = g v)→sumN f k = sumN g k
 | 0,_=>rfl
 | k + 1,hz=>by rw [sumN,sumN,sumN_ext (fun v hv=>hz v (by omega)),hz k (by omega)]
theorem sumN_swap (f:Nat→Nat→Nat) (k:Nat):∀ j,sumN (fun v=>sumN (f v) k) j = sumN (fun u=>sumN (fun v=>f v u) j) k
 | 0=>(sumN_zero fun _ _=>rfl).symm
 | j + 1=>by rw [sumN,sumN_swap f k j,← sumN_add];rfl
theorem near_sum (ha:Adj n a) (q:St):sumN (nearM n a q) n = sumN (fun u=>b1 (q u) * (1 + dg n a u)) n:=by
 have e1:sumN (nearM n a q) n = sumN (fun v=>b1 (q v)) n + sumN (fun v=>sumN (fun u=>b1 (a v u && q u)) n) n:=sumN_add _ _ n;rw [e1,sumN_swap (fun v u=>b1 (a v u && q u)) n n,← sumN_add];refine sumN_ext fun u hu=>?_;rw [Nat.mul_add,Nat.mul_one];congr 1;rw [dg];cases hq:q u with
 | false =>
   rw [show b1 false = 0 from rfl,Nat.zero_mul];exact sumN_zero fun v _=>by simp [b1]
 | true =>
   rw [show b1 true = 1 from rfl,Nat.one_mul];refine sumN_ext fun v hv=>?_;rw [Bool.and_true];congr 1;rw [Bool.eq_iff_iff];exact ⟨fun hx=>ha.sym v u hv hu hx,fun hx=>ha.sym u v hu hv hx⟩
theorem pt_step (ha:Adj n a) (hT:Tgt n a T) (hc:ChsC n a T m s h) {v:Nat} (hv:v < n) :
 b1 (ptE T (stM n a m s) (stH n a T m s h) v) + b1 (s v && !enI n a m v)≤b1 (ptE T m h v) + nearM n a (mS n a m s) v:=by
 by_cases hmv:mS n a m s v = true
 . have:enI n a m v = true:=by simp only [mS,Bool.and_eq_true] at hmv;exact hmv.2
   rw [this,nearM,hmv];simp only [b1,Bool.not_true,Bool.and_false,Bool.false_eq_true,if_false,if_true];split <;> omega
 . by_cases hnb:∃ u,u < n∧a v u = true∧mS n a m s u = true
   . obtain ⟨u,hu,h1,h2⟩:=hnb;have hsv:s v = false:=by
      cases e:s v with
      | false=>rfl
      | true =>
        simp only [mS,Bool.and_eq_true] at h2;have:=hc.ind v u e h2.1;rw [h1] at this;cases this
     have hpos:1≤sumN (fun u=>b1 (a v u && mS n a m s u)) n:=by
      have:=sumN_pos (f:=fun u=>b1 (a v u && mS n a m s u)) hu;simp only [h1,h2] at this;exact this
     rw [hsv,nearM];simp only [Bool.false_and,b1,Bool.false_eq_true,if_false] at hpos ⊢;split <;> omega
   . have hsame:stM n a m s v = m v:=by simp [stM,stI,hmv]
     have hTs:T (stM n a m s) v = T m v:=hT.loc _ _ v hv hsame (fun u hu hau=>by
      have:mS n a m s u = false:=by
       cases e:mS n a m s u with
       | false=>rfl
       | true=>exact (hnb ⟨u,hu,hau,e⟩).elim
      simp [stM,stI,this])
     cases hs:s v with
     | false =>
       have:stH n a T m s h v = h v:=by simp [stH,hs]
       have e:ptE T (stM n a m s) (stH n a T m s h) v = ptE T m h v:=by rw [ptE,this,hTs,ptE]
       rw [e,Bool.false_and];simp only [b1,Bool.false_eq_true,if_false];omega
     | true =>
       have he:enI n a m v = false:=by
        cases e:enI n a m v with
        | false=>rfl
        | true=>simp [mS,hs,e] at hmv
       have hp:ptE T m h v = true:=by
        have:=(hc.en v hs).2;simpa [enC,he] using this
       have:stH n a T m s h v = T m v:=by simp [stH,hs,he]
       rw [ptE,this,hTs,hp,he];simp [b1]
theorem movesC_step (ha:Adj n a) (hT:Tgt n a T) (hc:ChsC n a T m s h):sumN (phiC n a T (stM n a m s) (stH n a T m s h)) n + cntS s n≤sumN (phiC n a T m h) n:=by
 have h1:∀ v,v < n→phi n a (stM n a m s) v * (2 + dg n a v) + b1 (mS n a m s v) * (2 + dg n a v)≤phi n a m v * (2 + dg n a v):=fun v hv=>by
  rw [← Nat.add_mul];exact Nat.mul_le_mul_right _ (phi_step ha hc.low hv)
 have h2:=fun v (hv:v < n)=>pt_step ha hT hc hv;have h3:∀ v,v < n→(if s v = true then 1 else 0) = b1 (mS n a m s v) + b1 (s v && !enI n a m v):=fun v _=>by
  cases hs:s v <;> cases he:enI n a m v <;> simp [mS,hs,he,b1]
 have key:sumN (fun v=>(phiC n a T (stM n a m s) (stH n a T m s h) v + (if s v = true then 1 else 0)) + b1 (mS n a m s v) * (1 + dg n a v)) n≤sumN (fun v=>phiC n a T m h v + nearM n a (mS n a m s) v) n:=by
  refine sumN_le fun v hv=>?_;have:=h1 v hv;have:=h2 v hv;have:=h3 v hv;have e:b1 (mS n a m s v) * (2 + dg n a v) = b1 (mS n a m s v) * (1 + dg n a v) + b1 (mS n a m s v):=by
   rw [show 2 + dg n a v = (1 + dg n a v) + 1 by omega,Nat.mul_add,Nat.mul_one]
  simp only [phiC] at *;omega
 have e1:=sumN_add (fun v=>phiC n a T (stM n a m s) (stH n a T m s h) v + (if s v = true then 1 else 0)) (fun v=>b1 (mS n a m s v) * (1 + dg n a v)) n;have e2:=sumN_add (phiC n a T m h) (nearM n a (mS n a m s)) n;have e3:=near_sum ha (mS n a m s);have e4:=sumN_add (phiC n a T (stM n a m s) (stH n a T m s h)) (fun v=>if s v = true then 1 else 0) n;rw [e1,e2,e3,e4] at key;rw [cntS];omega
theorem movesC_all (n:Nat) (a:Nat→Nat→Bool) (T:St→Nat→Int) (m:St) (h:Nat→Int):sumN (phiC n a T m h) n≤5 * n + 2 * sumN (dg n a) n:=by
 have hk:∀ k,sumN (phiC n a T m h) k≤5 * k + 2 * sumN (dg n a) k:=by
  intro k
  induction k with
  | zero=>simp [sumN]
  | succ k ih =>
    have h1:phi n a m k≤2:=by (unfold phi;repeat' split) <;> omega
    have h2:phi n a m k * (2 + dg n a k)≤2 * (2 + dg n a k):=Nat.mul_le_mul_right _ h1;have h3:b1 (ptE T m h k)≤1:=by unfold b1;split <;> omega
    simp only [sumN,phiC] at *;omega
 exact hk n
end Go.Plain
namespace Go.Proofs.YthbiicpcbnijiaaGreatDoor
open Go.Eng
set_option maxRecDepth 100000
set_option linter.unusedVariables false
def tgT:Tm:=.ite mT (.leaf 4 0) (.agg 23 (.leaf 12 0))
def pClu:Pr:=⟨ByteArray.mk #[99,108,117,115,116,101,114],vK,[⟨ByteArray.mk #[108,101,97,118,101],.bin 41 mT smT,[(0,.leaf 3 0)]⟩,
 ⟨ByteArray.mk #[101,110,116,101,114],.bin 41 (.un 19 mT) (.un 19 smT),[(0,.leaf 2 0)]⟩,
 ⟨ByteArray.mk #[112,111,105,110,116],.bin 36 (.leaf 5 1) tgT,[(1,tgT)]⟩]⟩
def tgV (g:G) (m:Nat→Bool) (v:Nat):Int:=if m v = true then -1 else fpL (fun l=>m l.1.toNat) (gR g.ports v) 0
abbrev hh (c:Cf) (v:Nat):Int:=gI (gC c v) 1
theorem fpL_ext {p q:Int × Int→Bool}:∀ {r:List (Int × Int)} {k:Nat},(∀ l∈r,p l = q l)→fpL p r k = fpL q r k
 | [],_,_=>rfl
 | l :: r,k,h=>by
   rw [fpL,fpL,h l (by simp),fpL_ext (fun x hx=>h x (by simp [hx]))]
theorem fpL_range {p:Int × Int→Bool}:∀ (r:List (Int × Int)) (k:Nat),-1≤fpL p r k∧fpL p r k < ((k + r.length:Nat):Int)
 | [],k=>by simp [fpL];omega
 | l :: r,k=>by
   rw [fpL];split
   . simp;omega
   . have:=fpL_range (p:=p) r (k + 1);simp only [List.length_cons];omega
theorem tg_tgt {g:G} (hg:g.valid = true):Go.Plain.Tgt g.ids.length (adN g) (tgV g):=by
 obtain ⟨f1,f2,f3,f4,f5,f6,f7⟩:=val_facts hg;refine ⟨fun m m' v hv h1 h2=>?_⟩;have hok:=(okR_iff.1 (f6 v (by omega))).1;rw [tgV,tgV,h1,fpL_ext (q:=fun l=>m' l.1.toNat) (fun l hl=>h2 _ (by have:=hok l hl;omega) (adj_iff.2 ⟨l,hl,rfl⟩))]
theorem tg_range (g:G) (m:Nat→Bool) (v:Nat):-1≤tgV g m v∧tgV g m v≤((gR g.ports v).length:Int) - 1:=by
 rw [tgV];split
 . omega
 . have:=fpL_range (p:=fun l=>m l.1.toNat) (gR g.ports v) 0;rw [Nat.zero_add] at this;omega
theorem idx_fp {f:Int × Int→Int} {p:Int × Int→Bool}:∀ {r:List (Int × Int)} {k:Nat},(∀ l∈r,f l≠0↔p l = true)→idxI k (r.map f) = fpL p r k
 | [],_,_=>rfl
 | l :: r,k,h=>by
   have h1:=h l (by simp);rw [List.map_cons,idxI,fpL,idx_fp (fun x hx=>h x (by simp [hx]))];by_cases e:p l = true
   . rw [if_pos (h1.2 e),if_pos e]
   . rw [if_neg (fun q=>e (h1.1 q)),if_neg e]
theorem range_row (r:List (Int × Int)) (f:Int→Int):((List.range r.length).map fun i=>f (gF r i).1) = r.map fun l=>f l.1:=by
 refine List.ext_getElem (by simp) fun i h1 h2=>?_;simp at h1;simp [gF,List.getD,h1]
theorem tg_sem {g:G} (hg:g.valid = true) {c:Cf} (hb:isBool c g.ids.length 0) {v:Nat} (hv:v < g.ids.length):tgT.sem g c v (-1) = tgV g (one c 0) v:=by
 obtain ⟨f1,f2,f3,f4,f5,f6,f7⟩:=val_facts hg;have hok:=(okR_iff.1 (f6 v (by omega))).1;have e0:mT.sem g c v (-1) = truI (one c 0 v):=one_tru hb hv;show (if mT.sem g c v (-1)≠0 then (-1:Int) else idxI 0 ((List.range (gR g.ports v).length).map fun (i:Nat)=>gI (gC c (nbV g v i)) 0)) = _;rw [e0,tgV];cases em:one c 0 v with
 | true=>rw [if_pos (by decide),if_pos rfl]
 | false =>
   rw [if_neg (by decide),if_neg (by simp)];have e:((List.range (gR g.ports v).length).map fun (i:Nat)=>gI (gC c (nbV g v i)) 0) = (gR g.ports v).map fun l=>gI (gC c l.1.toNat) 0:=by
    rw [← range_row (gR g.ports v) (fun a=>gI (gC c a.toNat) 0)];simp only [nbV,Int.toNat_natCast]
   rw [e];refine idx_fp fun l hl=>?_;have:=hok l hl;rw [one,decide_eq_true_eq];rcases hb l.1.toNat (by omega) with q | q <;> simp [q]
theorem clu_bool {g:G} {c:Cf} (h:Conf pClu g c):isBool c g.ids.length 0:=fun v hv=>by
 have:=h.val v (by rw [h.len];exact hv) 0 (by decide);have e:bnd g (gV pClu.vars 0) v = (0,1):=rfl;rw [e] at this;have h1:=this.1;have h2:=this.2;simp only at h1 h2;omega
theorem kconf_of {g:G} {c:Cf} (h:Conf pClu g c):g.kconf c = true:=by
 rw [G.kconf,conf_iff];refine ⟨h.len,fun v hv=>?_⟩;have hl:v < c.length:=by rw [h.len];exact hv
 refine ⟨h.row v hl,fun x hx=>?_⟩;have:=h.val v hl x hx;rcases (show x = 0∨x = 1 by omega) with rfl | rfl
 . exact this
 . exact this
theorem clu_gds {g:G} (hg:g.valid = true) {c:Cf} (hb:isBool c g.ids.length 0) {v:Nat} (hv:v < g.ids.length) :
 gds pClu g c v = [truI (one c 0 v && Go.Plain.nbM g.ids.length (adN g) (one c 0) v),truI (!one c 0 v && !Go.Plain.nbM g.ids.length (adN g) (one c 0) v),truI (Go.Plain.ptE (tgV g) (one c 0) (hh c) v)]:=by
 have h2:=ind_gds hg hb hv;have e3:(Tm.bin 36 (.leaf 5 1) tgT).sem g c v (-1) = truI (Go.Plain.ptE (tgV g) (one c 0) (hh c) v):=by
  show truI (decide (hh c v≠tgT.sem g c v (-1))) = _;rw [tg_sem hg hb hv,Go.Plain.ptE]
 have e:gds pClu g c v = gds pInd g c v ++ [(Tm.bin 36 (.leaf 5 1) tgT).sem g c v (-1)]:=rfl;rw [e,h2,e3];rfl
theorem clu_rule {g:G} (hg:g.valid = true) {c:Cf} (hb:isBool c g.ids.length 0) {v:Nat} (hv:v < g.ids.length) :
 ruleI pClu g c v = if Go.Plain.enI g.ids.length (adN g) (one c 0) v = true then (if one c 0 v = true then 0 else 1) else if Go.Plain.ptE (tgV g) (one c 0) (hh c) v = true then 2 else -1:=by
 rw [ruleI,clu_gds hg hb hv,Go.Plain.enI];cases one c 0 v <;> cases Go.Plain.nbM g.ids.length (adN g) (one c 0) v <;> cases Go.Plain.ptE (tgV g) (one c 0) (hh c) v <;> rfl
theorem clu_en {g:G} (hg:g.valid = true) {c:Cf} (hb:isBool c g.ids.length 0) {v:Nat} (hv:v < g.ids.length):(enN pClu g c).testBit v = Go.Plain.enC g.ids.length (adN g) (tgV g) (one c 0) (hh c) v:=by
 rw [en_bit,decide_eq_true hv,Bool.true_and,clu_rule hg hb hv,Go.Plain.enC];cases Go.Plain.enI g.ids.length (adN g) (one c 0) v <;> cases Go.Plain.ptE (tgV g) (one c 0) (hh c) v <;> cases one c 0 v <;> rfl
theorem gI_set2 (l:List Int) (a i:Nat) (x:Int) (ha:a < l.length) (h:i≠a):gI (l.set a x) i = gI l i:=by rw [gI_stx _ _ _ _ ha,if_neg h]
theorem clu_step {g:G} (hg:g.valid = true) {c:Cf} (h:Conf pClu g c) {s:Nat} (hs:Part s (enN pClu g c)) {v:Nat} (hv:v < g.ids.length) :
 one (stepC pClu g c s) 0 v = Go.Plain.stM g.ids.length (adN g) (one c 0) (fun v=>s.testBit v) v∧hh (stepC pClu g c s) v = Go.Plain.stH g.ids.length (adN g) (tgV g) (one c 0) (fun v=>s.testBit v) (hh c) v:=by
 have hl:=h.len;have hb:=clu_bool h;have hlen:(gC c v).length = 2:=h.row v (by omega);have hrow:=stepC_row pClu g c s (v:=v) (by omega);have hr:=clu_rule hg hb hv;rw [Go.Plain.stM,Go.Plain.stI,Go.Plain.mS,Go.Plain.stH];show decide (gI (gC (stepC pClu g c s) v) 0 = 1) = _∧gI (gC (stepC pClu g c s) v) 1 = _;rw [hrow];cases e:s.testBit v with
 | false=>simp [one]
 | true =>
   rw [if_pos rfl];have hen:=hs v e;rw [clu_en hg hb hv,Go.Plain.enC] at hen;cases ei:Go.Plain.enI g.ids.length (adN g) (one c 0) v with
   | true =>
     rw [ei,if_pos rfl] at hr;cases em:one c 0 v with
     | true =>
       rw [em,if_pos rfl] at hr;rw [hr];show decide (gI ((gC c v).set 0 (brI 2 0 1 0)) 0 = 1) = _∧gI ((gC c v).set 0 (brI 2 0 1 0)) 1 = _;rw [gI_stx _ _ _ _ (by omega),if_pos rfl,gI_set2 _ _ _ _ (by omega) (by decide)];exact ⟨rfl,by simp⟩
     | false =>
       rw [em,if_neg (by simp)] at hr;rw [hr];show decide (gI ((gC c v).set 0 (brI 2 0 1 1)) 0 = 1) = _∧gI ((gC c v).set 0 (brI 2 0 1 1)) 1 = _;rw [gI_stx _ _ _ _ (by omega),if_pos rfl,gI_set2 _ _ _ _ (by omega) (by decide)];exact ⟨rfl,by simp⟩
   | false =>
     rw [ei,Bool.false_or] at hen;rw [ei,if_neg (by simp),hen,if_pos rfl] at hr;rw [hr];have hrg:=tg_range g (one c 0) v;have hbr:brI 3 (-1) (((gR g.ports v).length:Int) - 1) (tgT.sem g c v (-1)) = tgV g (one c 0) v:=by
      rw [tg_sem hg hb hv,brI,if_pos (by omega)]
     show decide (gI ((gC c v).set 1 (brI 3 (-1) (((gR g.ports v).length:Int) - 1) (tgT.sem g c v (-1)))) 0 = 1) = _∧gI ((gC c v).set 1 (brI 3 (-1) (((gR g.ports v).length:Int) - 1) (tgT.sem g c v (-1)))) 1 = _;rw [hbr,gI_stx _ _ _ _ (by omega),if_neg (by decide),gI_stx _ _ _ _ (by omega),if_pos rfl];simp [one]
theorem kport_tg {g:G} (hg:g.valid = true) {c:Cf} (hb:isBool c g.ids.length 0) {v:Nat} (hv:v < g.ids.length):kport g c v = tgV g (one c 0) v:=by
 rw [kport,tgV];rcases hb v hv with e | e
 . have:one c 0 v = false:=by simp [one,e]
   rw [if_pos e,this,if_neg (by simp)];exact fpL_ext fun l _=>rfl
 . have:one c 0 v = true:=by simp [one,e]
   rw [if_neg (by omega),this,if_pos rfl]
theorem clu_rest {g:G} (hg:g.valid = true) {c:Cf} (h:Conf pClu g c):g.klegit c = decide (enN pClu g c = 0):=by
 obtain ⟨f1,f2,f3,f4,f5,f6,f7⟩:=val_facts hg;have hb:=clu_bool h;rw [G.klegit,hg,kconf_of h,Bool.true_and,Bool.true_and,Bool.eq_iff_iff,Bool.and_eq_true,mx,kgood,decide_eq_true_eq,decide_eq_true_eq,decide_eq_true_eq,enN,nb_zero_iff,f3,h.len];have key:∀ v,v < g.ids.length→((nbr g (nb (one c 0) g.ids.length) v = !one c 0 v∧gI (gC c v) 1 = kport g c v)↔decide (0≤ruleI pClu g c v) = false):=fun v hv=>by
  have he:=clu_en hg hb hv;rw [en_bit,decide_eq_true hv,Bool.true_and] at he;have h2:=nbr_nbM hg (one c 0) hv;rw [f3] at h2;rw [he,h2,kport_tg hg hb hv,Go.Plain.enC,Go.Plain.enI,Go.Plain.ptE];cases one c 0 v <;> cases Go.Plain.nbM g.ids.length (adN g) (one c 0) v <;> simp
 constructor
 . rintro ⟨h1,h2⟩ v hv;exact (key v hv).1 ⟨h1 v hv,h2 v hv⟩
 . intro hz;exact ⟨fun v hv=>((key v hv).2 (hz v hv)).1,fun v hv=>((key v hv).2 (hz v hv)).2⟩
end Go.Proofs.YthbiicpcbnijiaaGreatDoor
namespace Go.Proofs.YthbiicpcbnijiaaGreatDoor
open Go.Eng
set_option maxRecDepth 100000
set_option linter.unusedVariables false
section
variable {n:Nat} {a:Nat→Nat→Bool} {T:Go.Plain.St→Nat→Int} {m m':Go.Plain.St} {h h':Nat→Int}
theorem ptE_ext (hT:Go.Plain.Tgt n a T) (hm:∀ v,v < n→m v = m' v) (hh:∀ v,v < n→h v = h' v) {v:Nat} (hv:v < n):Go.Plain.ptE T m h v = Go.Plain.ptE T m' h' v:=by
 rw [Go.Plain.ptE,Go.Plain.ptE,hh v hv,hT.loc m m' v hv (hm v hv) (fun u hu _=>hm u hu)]
theorem cinv_ext {r:Nat} {p p':Go.Plain.St} (hT:Go.Plain.Tgt n a T) (hm:∀ v,v < n→m v = m' v) (hh:∀ v,v < n→h v = h' v) (hp:∀ v,v < n→p v = true→p' v = true) (hi:Go.Plain.CInv n a T m p h r):Go.Plain.CInv n a T m' p' h' r :=
 ⟨fun e v hv hc=>hp v hv (hi.r0 e v hv (by rw [cfl_ext hm hv];exact hc)),fun e v hv=>by rw [← cfl_ext hm hv];exact hi.r1 e v hv,fun e v hv hc=>hp v hv (hi.r2 e v hv (by rw [enI_ext hm hv];exact hc)),fun e v hv=>by rw [← enI_ext hm hv];exact hi.r3 e v hv,
  fun e v hv hc=>hp v hv (hi.r4 e v hv (by rw [ptE_ext hT hm hh hv];exact hc)),fun e v hv=>by rw [← ptE_ext hT hm hh hv];exact hi.r5 e v hv⟩
theorem enC_ext (hT:Go.Plain.Tgt n a T) (hm:∀ v,v < n→m v = m' v) (hh:∀ v,v < n→h v = h' v) {v:Nat} (hv:v < n):Go.Plain.enC n a T m h v = Go.Plain.enC n a T m' h' v:=by
 rw [Go.Plain.enC,Go.Plain.enC,enI_ext hm hv,ptE_ext hT hm hh hv]
theorem phiC_ext (hT:Go.Plain.Tgt n a T) (hm:∀ v,v < n→m v = m' v) (hh:∀ v,v < n→h v = h' v) {v:Nat} (hv:v < n):Go.Plain.phiC n a T m h v = Go.Plain.phiC n a T m' h' v:=by
 rw [Go.Plain.phiC,Go.Plain.phiC,phi_ext hm hv,ptE_ext hT hm hh hv]
end
theorem sum_mem:∀ (l:List Nat) (n:Nat),l.Nodup→(∀ x∈l,x < n)→Go.Plain.sumN (fun v=>Go.Plain.b1 (decide (v∈l))) n = l.length
 | [],n,_,_=>Go.Plain.sumN_zero fun v _=>by simp [Go.Plain.b1]
 | x :: r,n,hn,hl=>by
   rw [List.nodup_cons] at hn;have ih:=sum_mem r n hn.2 (fun y hy=>hl y (by simp [hy]));have h1:∀ k,Go.Plain.sumN (fun v=>Go.Plain.b1 (decide (v = x))) k = if x < k then 1 else 0:=by
    intro k
    induction k with
    | zero=>simp [Go.Plain.sumN]
    | succ k ihk =>
      rw [Go.Plain.sumN,ihk];by_cases e:k = x
      . subst e;simp [Go.Plain.b1]
      . have:decide (k = x) = false:=by simpa using e
        rw [this];simp only [Go.Plain.b1,Bool.false_eq_true,if_false];split <;> split <;> omega
   have h2:Go.Plain.sumN (fun v=>Go.Plain.b1 (decide (v∈x :: r))) n = Go.Plain.sumN (fun v=>Go.Plain.b1 (decide (v = x)) + Go.Plain.b1 (decide (v∈r))) n:=by
    refine Go.Plain.sumN_ext fun v _=>?_;by_cases e:v = x
    . subst e;simp [Go.Plain.b1,hn.1]
    . simp [Go.Plain.b1,e]
   have h3:=Go.Plain.sumN_add (fun v=>Go.Plain.b1 (decide (v = x))) (fun v=>Go.Plain.b1 (decide (v∈r))) n;rw [h2,h3,ih,h1,if_pos (hl x (by simp)),List.length_cons];omega
theorem dg_row {g:G} (hg:g.valid = true) {v:Nat} (hv:v < g.ids.length):Go.Plain.dg g.ids.length (adN g) v = (gR g.ports v).length:=by
 obtain ⟨f1,f2,f3,f4,f5,f6,f7⟩:=val_facts hg;obtain ⟨o1,o2⟩:=okR_iff.1 (f6 v (by omega));have hnd:((gR g.ports v).map fun l=>l.1.toNat).Nodup:=by
  have:((gR g.ports v).map fun l=>l.1.toNat) = ((gR g.ports v).map (·.1)).map Int.toNat:=by rw [List.map_map];rfl
  rw [this];rw [List.nodup_iff_pairwise_ne,List.pairwise_map];refine List.Pairwise.imp_of_mem ?_ (List.nodup_iff_pairwise_ne.1 o2);intro x y hx hy hne e;obtain ⟨l,hl,rfl⟩:=List.mem_map.1 hx;obtain ⟨l',hl',rfl⟩:=List.mem_map.1 hy;have:=o1 l hl;have:=o1 l' hl';omega
 have:=sum_mem _ g.ids.length hnd (fun x hx=>by
  obtain ⟨l,hl,rfl⟩:=List.mem_map.1 hx;have:=o1 l hl;omega)
 rw [List.length_map] at this;rw [Go.Plain.dg,← this];refine Go.Plain.sumN_ext fun u _=>?_;congr 1;rw [Bool.eq_iff_iff,decide_eq_true_eq,List.mem_map];exact adj_iff
theorem dg_sumR {g:G} (hg:g.valid = true):∀ k,k≤g.ids.length→Go.Plain.sumN (Go.Plain.dg g.ids.length (adN g)) k = sumR g.ports k
 | 0,_=>rfl
 | k + 1,h=>by rw [Go.Plain.sumN,sumR,dg_sumR hg k (by omega),dg_row hg (by omega)]
theorem square_even {n:Nat} {a:Nat→Nat→Bool} (ha:Go.Plain.Adj n a):∀ k,k≤n→∃ q,Go.Plain.sumN (fun v=>Go.Plain.sumN (fun u=>Go.Plain.b1 (a v u)) k) k = 2 * q
 | 0,_=>⟨0,rfl⟩
 | k + 1,h=>by
   obtain ⟨q,hq⟩:=square_even ha k (by omega);refine ⟨q + Go.Plain.sumN (fun u=>Go.Plain.b1 (a k u)) k,?_⟩;have e1:Go.Plain.sumN (fun v=>Go.Plain.sumN (fun u=>Go.Plain.b1 (a v u)) (k + 1)) k = Go.Plain.sumN (fun v=>Go.Plain.sumN (fun u=>Go.Plain.b1 (a v u)) k) k + Go.Plain.sumN (fun v=>Go.Plain.b1 (a v k)) k:=by
    rw [← Go.Plain.sumN_add];rfl
   have e2:Go.Plain.sumN (fun v=>Go.Plain.b1 (a v k)) k = Go.Plain.sumN (fun u=>Go.Plain.b1 (a k u)) k:=Go.Plain.sumN_ext fun v hv=>by
    congr 1;rw [Bool.eq_iff_iff];exact ⟨fun x=>ha.sym v k (by omega) (by omega) x,fun x=>ha.sym k v (by omega) (by omega) x⟩
   have e3:Go.Plain.b1 (a k k) = 0:=by rw [ha.irr k (by omega)];rfl
   rw [Go.Plain.sumN,e1,e2,hq,Go.Plain.sumN,e3];omega
theorem sumR_even {g:G} (hg:g.valid = true):∃ q,sumR g.ports g.ids.length = 2 * q:=by
 have:=square_even (adj_adj hg) g.ids.length (Nat.le_refl _);rw [← dg_sumR hg _ (Nat.le_refl _)];exact this
theorem clu_chs {g:G} (hg:g.valid = true) {c:Cf} (h:Conf pClu g c) {s:Nat} (hs:Part s (enN pClu g c)) (hk:ind g s = true):Go.Plain.ChsC g.ids.length (adN g) (tgV g) (one c 0) (fun v=>s.testBit v) (hh c):=by
 obtain ⟨f1,f2,f3,f4,f5,f6,f7⟩:=val_facts hg;have hb:=clu_bool h;have hlt:∀ v,s.testBit v = true→v < g.ids.length:=fun v hv=>by
  have:=hs v hv;rw [en_bit,Bool.and_eq_true,decide_eq_true_eq] at this;exact this.1
 refine ⟨fun v hv=>⟨hlt v hv,by rw [← clu_en hg hb (hlt v hv)];exact hs v hv⟩,fun u v hu hv=>?_⟩;cases e:adj g u v with
 | false=>exact e
 | true=>have:=ind_iff.1 hk u v (by rw [f3];exact hlt u hu) hu e;rw [hv] at this;cases this
structure KIn (g:G) (c:Cf) (k:Cnt):Prop where
 inv:Go.Plain.CInv g.ids.length (adN g) (tgV g) (one c 0) (fun v=>k.pend.testBit v) (hh c) k.rounds
 mv:k.moves + Go.Plain.sumN (Go.Plain.phiC g.ids.length (adN g) (tgV g) (one c 0) (hh c)) g.ids.length≤5 * g.ids.length + 2 * sumR g.ports g.ids.length
theorem kin_start {g:G} (hg:g.valid = true) {c:Cf} (h:Conf pClu g c):KIn g c (cnt0 (enN pClu g c)):=by
 refine ⟨cinv_ext (tg_tgt hg) (fun _ _=>rfl) (fun _ _=>rfl) (fun v hv e=>by rw [cnt0];simp only;rw [clu_en hg (clu_bool h) hv];exact e) Go.Plain.CInv.start,?_⟩;have:=Go.Plain.movesC_all g.ids.length (adN g) (tgV g) (one c 0) (hh c);rw [dg_sumR hg _ (Nat.le_refl _)] at this;simp only [cnt0];omega
theorem kin_rounds {g:G} (hg:g.valid = true) {c:Cf} (h:Conf pClu g c) {k:Cnt} (hi:KIn g c k) (h0:enN pClu g c≠0):k.rounds≤2:=by
 apply Classical.byContradiction;intro hr;apply h0;rw [enN,nb_zero_iff];intro v hv;have h1:=hi.inv.r3 (by omega) v hv;have h2:=hi.inv.r5 (by omega) v hv;have he:=clu_en hg (clu_bool h) hv;rw [en_bit,decide_eq_true hv,Bool.true_and,Go.Plain.enC,h1,h2] at he;exact he
theorem kin_step {g:G} (hg:g.valid = true) {c:Cf} (h:Conf pClu g c) {k:Cnt} (hi:KIn g c k) (h0:enN pClu g c≠0) {s:Nat} (hs:Part s (enN pClu g c)) (hk:ind g s = true) (hc':Conf pClu g (stepC pClu g c s)) :
 KIn g (stepC pClu g c s) (k.add s (enN pClu g (stepC pClu g c s))):=by
 obtain ⟨f1,f2,f3,f4,f5,f6,f7⟩:=val_facts hg;have hr:=kin_rounds hg h hi h0;have ha:=adj_adj hg;have hT:=tg_tgt hg;have hch:=clu_chs hg h hs hk;have hm:∀ v,v < g.ids.length→Go.Plain.stM g.ids.length (adN g) (one c 0) (fun v=>s.testBit v) v = one (stepC pClu g c s) 0 v:=fun v hv=>(clu_step hg h hs hv).1.symm;have hH:∀ v,v < g.ids.length→Go.Plain.stH g.ids.length (adN g) (tgV g) (one c 0) (fun v=>s.testBit v) (hh c) v = hh (stepC pClu g c s) v:=fun v hv=>(clu_step hg h hs hv).2.symm;have hen:∀ v,v < g.ids.length→(enN pClu g (stepC pClu g c s)).testBit v = Go.Plain.enC g.ids.length (adN g) (tgV g) (Go.Plain.stM g.ids.length (adN g) (one c 0) (fun v=>s.testBit v)) (Go.Plain.stH g.ids.length (adN g) (tgV g) (one c 0) (fun v=>s.testBit v) (hh c)) v:=fun v hv=>by
  rw [clu_en hg (clu_bool hc') hv];exact (enC_ext hT hm hH hv).symm
 have hlf:∀ v,v < g.ids.length→(lft k s (enN pClu g (stepC pClu g c s))).testBit v = Go.Plain.leftC g.ids.length (adN g) (tgV g) (one c 0) (fun v=>k.pend.testBit v) (fun v=>s.testBit v) (hh c) v:=fun v hv=>by
  simp only [lft,Nat.testBit_and,ndiff_bit (show v < 32 by omega),hen v hv,Go.Plain.leftC]
 have hmv:(k.add s (enN pClu g (stepC pClu g c s))).moves = k.moves + cnt s 32:=by rw [Cnt.add];split <;> rfl
 have hcs:cnt s 32 = Go.Plain.cntS (fun v=>s.testBit v) g.ids.length:=by
  rw [Go.Plain.cntS,← cnt_sumI,show (32:Nat) = g.ids.length + (32 - g.ids.length) by omega,icnt_cut (ipart_lt hs)]
 have hphi:Go.Plain.sumN (Go.Plain.phiC g.ids.length (adN g) (tgV g) (one (stepC pClu g c s) 0) (hh (stepC pClu g c s))) g.ids.length = Go.Plain.sumN (Go.Plain.phiC g.ids.length (adN g) (tgV g) (Go.Plain.stM g.ids.length (adN g) (one c 0) (fun v=>s.testBit v)) (Go.Plain.stH g.ids.length (adN g) (tgV g) (one c 0) (fun v=>s.testBit v) (hh c))) g.ids.length:=pl_sum_ext fun v hv=>(phiC_ext hT hm hH hv).symm;refine ⟨?_,?_⟩
 . by_cases hz0:lft k s (enN pClu g (stepC pClu g c s)) = 0
   . have e:k.add s (enN pClu g (stepC pClu g c s)) = ⟨k.steps + 1,k.moves + cnt s 32,k.rounds + 1,k.rounds + 1,enN pClu g (stepC pClu g c s)⟩:=by rw [Cnt.add,if_pos hz0]
     rw [e];refine cinv_ext hT hm hH (fun v hv h=>?_) (hi.inv.next ha hT hch hr fun v hv=>by rw [← hlf v hv,hz0];simp);simp only;rw [hen v hv];exact h
   . have e:k.add s (enN pClu g (stepC pClu g c s)) = ⟨k.steps + 1,k.moves + cnt s 32,k.rounds,k.rounds + 1,lft k s (enN pClu g (stepC pClu g c s))⟩:=by rw [Cnt.add,if_neg hz0]
     rw [e];refine cinv_ext hT hm hH (fun v hv h=>?_) (hi.inv.same ha hT hch hr);simp only;rw [hlf v hv];exact h
 . rw [hmv,hcs,hphi];have:=Go.Plain.movesC_step ha hT hch;have:=hi.mv;omega
end Go.Proofs.YthbiicpcbnijiaaGreatDoor
namespace Go.Proofs.YthbiicpcbnijiaaGreatDoor
open Go.Eng Go.Plain
set_option maxRecDepth 100000
set_option linter.unusedVariables false
theorem kin_moves {g:G} (hg:g.valid = true) {c:Cf} (hp:PrOk pClu) (h:Conf pClu g c) {k:Cnt} (hi:KIn g c k) (h0:enN pClu g c≠0) {s:Nat} (hs:StepK pClu g 2 c s):k.moves + cnt s 32≤5 * g.ids.length + 2 * sumR g.ports g.ids.length:=by
 have:=(kin_step hg h hi h0 hs.part (okC2.1 hs.okc) (step_conf hp hg h hs.part)).mv;have hmv:(k.add s (enN pClu g (stepC pClu g c s))).moves = k.moves + cnt s 32:=by rw [Cnt.add];split <;> rfl
 omega
theorem clu_srv (hp:PrOk pClu) {g:G} (hg:g.valid = true):Srv pClu g 2 g.klegit 3 (5 * (g.ids.length:Int) + 4 * ((sumR g.ports g.ports.length:Int).tdiv 2)) (KIn g):=by
 obtain ⟨f1,f2,f3,f4,f5,f6,f7⟩:=val_facts hg;obtain ⟨q,hq⟩:=sumR_even hg;have hen:∀ c,Conf pClu g c→g.klegit c = false→enN pClu g c≠0:=fun c hc hl q=>by
  rw [clu_rest hg hc,decide_eq_true q] at hl;cases hl
 have hst:∀ c n s,Conf pClu g c→KIn g c n→g.klegit c = false→StepK pClu g 2 c s→g.klegit (stepC pClu g c s) = false→KIn g (stepC pClu g c s) (n.add s (enN pClu g (stepC pClu g c s))):=fun c n s hc hi hl hs _ =>
  kin_step hg hc hi (hen c hc hl) hs.part (okC2.1 hs.okc) (step_conf hp hg hc hs.part)
 refine ⟨fun c s hc hl hs=>?_,hen,fun c hc _=>kin_start hg hc,hst,fun c n hc hi hl=>?_,fun _ c n s hc hi hl hs=>?_,?_⟩
 . rw [clu_rest hg hc,decide_eq_true_eq] at hl;exact (hs.ne (part_none hs.part hl)).elim
 . have:=kin_rounds hg hc hi (hen c hc hl);omega
 . have:=kin_moves hg hp hc hi (hen c hc hl) hs;rw [f3,hq,Int.tdiv_eq_ediv_of_nonneg (by omega)];omega
 . refine ends_of (M:=5 * g.ids.length + 2 * sumR g.ports g.ids.length) (Inv:=KIn g) (fun c s hc hs=>step_conf hp hg hc hs.part) (fun c s hs=>stepK_pos hs) (fun c hc _=>kin_start hg hc) hst (fun c n hc hi hl=>?_);have:=hi.mv;omega
end Go.Proofs.YthbiicpcbnijiaaGreatDoor
