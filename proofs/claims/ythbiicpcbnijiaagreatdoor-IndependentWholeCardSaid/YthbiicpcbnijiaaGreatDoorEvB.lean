import Derived.Test.YthbiicpcbnijiaaGreatDoorAN1
import Derived.Test.YthbiicpcbnijiaaGreatDoorPLI
import Derived.Test.YthbiicpcbnijiaaGreatDoorDC5
import Derived.Test.YthbiicpcbnijiaaGreatDoorEngZ
import Derived.IntWalk
namespace Go.Proofs.YthbiicpcbnijiaaGreatDoor
open Go.Eng
set_option maxRecDepth 100000
set_option linter.unusedVariables false
def mT:Tm:=.leaf 5 0
def smT:Tm:=.agg 21 (.leaf 12 0)
def pInd:Pr:=⟨ByteArray.mk #[105,110,100,101,112,101,110,100,101,110,116],vM,[⟨ByteArray.mk #[108,101,97,118,101],.bin 41 mT smT,[(0,.leaf 3 0)]⟩,
 ⟨ByteArray.mk #[101,110,116,101,114],.bin 41 (.un 19 mT) (.un 19 smT),[(0,.leaf 2 0)]⟩]⟩
theorem itru_ne (b:Bool):(truI b≠0)↔b = true:=by cases b <;> simp [truI]
theorem itru_eq0 (b:Bool):(truI b = 0)↔b = false:=by cases b <;> simp [truI]
abbrev adN (g:G):Nat→Nat→Bool:=adj g
theorem adj_adj {g:G} (hg:g.valid = true):Go.Plain.Adj g.ids.length (adN g):=by
 obtain ⟨f1,f2,f3,f4,f5,f6,f7⟩:=val_facts hg;refine ⟨fun u v hu hv h=>adj_sym hg (by omega) h,fun v hv=>adj_irr hg (by omega),fun u v hu h=>?_⟩;obtain ⟨l,hl,e⟩:=adj_iff.1 h;have:=(okR_iff.1 (f6 u (by omega))).1 l hl;omega
def isBool (c:Cf) (n x:Nat):Prop:=∀ v,v < n→gI (gC c v) x = 0∨gI (gC c v) x = 1
theorem one_tru {c:Cf} {n x:Nat} (h:isBool c n x) {v:Nat} (hv:v < n):gI (gC c v) x = truI (one c x v):=by
 rcases h v hv with e | e <;> simp [one,e,truI]
theorem cnt_pos_iff (l:List Int):0 < cntI l↔∃ a∈l,a≠0:=by
 rw [cntI,List.countP_pos_iff];simp only [decide_eq_true_eq]
theorem gF_of_mem {l:List (Int × Int)} {a:Int × Int} (h:a∈l):∃ i,i < l.length∧gF l i = a:=by
 obtain ⟨i,hi,e⟩:=List.mem_iff_getElem.1 h;exact ⟨i,hi,by simp [gF,List.getD,hi,e]⟩
theorem some_sem {g:G} (hg:g.valid = true) {c:Cf} (x:Nat) (hb:isBool c g.ids.length x) {v:Nat} (hv:v < g.ids.length) (port:Int) :
 (Tm.agg 21 (.leaf 12 x)).sem g c v port = truI (Go.Plain.nbM g.ids.length (adN g) (one c x) v):=by
 obtain ⟨f1,f2,f3,f4,f5,f6,f7⟩:=val_facts hg;have hok:=(okR_iff.1 (f6 v (by omega))).1;show truI (decide (0 < cntI ((List.range (gR g.ports v).length).map fun (i:Nat)=>gI (gC c (nbV g v i)) x))) = _;congr 1;rw [Bool.eq_iff_iff,decide_eq_true_eq,cnt_pos_iff,Go.Plain.nbM_iff];constructor
 . rintro ⟨a,ha,h0⟩;obtain ⟨i,hi,rfl⟩:=List.mem_map.1 ha;rw [List.mem_range] at hi;have hm:=gF_mem hi;have:=hok _ hm;refine ⟨nbV g v i,by simp only [nbV,Int.toNat_natCast];omega,adj_iff.2 ⟨_,hm,by simp [nbV]⟩,?_⟩;rw [one,decide_eq_true_eq];rcases hb (nbV g v i) (by simp only [nbV,Int.toNat_natCast];omega) with e | e
   . exact (h0 e).elim
   . exact e
 . rintro ⟨u,hu,h1,h2⟩;obtain ⟨l,hl,e⟩:=adj_iff.1 h1;obtain ⟨i,hi,e2⟩:=gF_of_mem hl;refine ⟨_,List.mem_map.2 ⟨i,List.mem_range.2 hi,rfl⟩,?_⟩;rw [one,decide_eq_true_eq] at h2;have:nbV g v i = u:=by simp only [nbV,Int.toNat_natCast];rw [e2];exact e
   rw [this,h2];decide
theorem ind_gds {g:G} (hg:g.valid = true) {c:Cf} (hb:isBool c g.ids.length 0) {v:Nat} (hv:v < g.ids.length) :
 gds pInd g c v = [truI (one c 0 v && Go.Plain.nbM g.ids.length (adN g) (one c 0) v),truI (!one c 0 v && !Go.Plain.nbM g.ids.length (adN g) (one c 0) v)]:=by
 have e0:mT.sem g c v (-1) = truI (one c 0 v):=one_tru hb hv;have es:smT.sem g c v (-1) = truI (Go.Plain.nbM g.ids.length (adN g) (one c 0) v):=some_sem hg 0 hb hv (-1);have e1:(Tm.bin 41 mT smT).sem g c v (-1) = truI (one c 0 v && Go.Plain.nbM g.ids.length (adN g) (one c 0) v):=by
  show truI (decide (mT.sem g c v (-1)≠0∧smT.sem g c v (-1)≠0)) = _;rw [e0,es];congr 1;simp only [itru_ne,Bool.decide_and,Bool.decide_eq_true]
 have e2:(Tm.bin 41 (.un 19 mT) (.un 19 smT)).sem g c v (-1) = truI (!one c 0 v && !Go.Plain.nbM g.ids.length (adN g) (one c 0) v):=by
  show truI (decide (truI (decide (mT.sem g c v (-1) = 0))≠0∧truI (decide (smT.sem g c v (-1) = 0))≠0)) = _;rw [e0,es];congr 1;simp only [itru_ne,itru_eq0,decide_eq_true_eq];cases one c 0 v <;> cases Go.Plain.nbM g.ids.length (adN g) (one c 0) v <;> rfl
 exact congr (congrArg List.cons e1) (congrArg (fun x=>[x]) e2)
theorem ind_rule {g:G} (hg:g.valid = true) {c:Cf} (hb:isBool c g.ids.length 0) {v:Nat} (hv:v < g.ids.length) :
 ruleI pInd g c v = if one c 0 v = true∧Go.Plain.nbM g.ids.length (adN g) (one c 0) v = true then 0 else if one c 0 v = false∧Go.Plain.nbM g.ids.length (adN g) (one c 0) v = false then 1 else -1:=by
 rw [ruleI,ind_gds hg hb hv];cases one c 0 v <;> cases Go.Plain.nbM g.ids.length (adN g) (one c 0) v <;> rfl
theorem ind_en {g:G} (hg:g.valid = true) {c:Cf} (hb:isBool c g.ids.length 0) {v:Nat} (hv:v < g.ids.length):(enN pInd g c).testBit v = Go.Plain.enI g.ids.length (adN g) (one c 0) v:=by
 rw [en_bit,decide_eq_true hv,Bool.true_and,ind_rule hg hb hv,Go.Plain.enI];cases one c 0 v <;> cases Go.Plain.nbM g.ids.length (adN g) (one c 0) v <;> rfl
theorem ind_bool {g:G} {c:Cf} (h:Conf pInd g c):isBool c g.ids.length 0:=fun v hv=>by
 have:=h.val v (by rw [h.len];exact hv) 0 (by decide);have e:bnd g (gV pInd.vars 0) v = (0,1):=rfl;rw [e] at this;have h1:=this.1;have h2:=this.2;simp only at h1 h2;omega
theorem iconf_of {g:G} {c:Cf} (h:Conf pInd g c):g.iconf c = true:=by
 rw [G.iconf,conf_iff];refine ⟨h.len,fun v hv=>?_⟩;have hl:v < c.length:=by rw [h.len];exact hv
 refine ⟨h.row v hl,fun x hx=>?_⟩;obtain rfl:x = 0:=by omega
 exact h.val v hl 0 (by decide)
theorem ind_step {g:G} (hg:g.valid = true) {c:Cf} (h:Conf pInd g c) {s:Nat} (hs:Part s (enN pInd g c)) {v:Nat} (hv:v < g.ids.length) :
 one (stepC pInd g c s) 0 v = Go.Plain.stI (fun v=>s.testBit v) (one c 0) v:=by
 have hl:=h.len;have hb:=ind_bool h;have hlen:0 < (gC c v).length:=by have:=h.row v (by omega);have:(gC c v).length = 1:=this;omega
 show decide (gI (gC (stepC pInd g c s) v) 0 = 1) = _;rw [stepC_row pInd g c s (by omega),Go.Plain.stI];cases e:s.testBit v with
 | false=>rfl
 | true =>
   have hen:=hs v e;rw [ind_en hg hb hv,Go.Plain.enI] at hen;have hr:=ind_rule hg hb hv;rw [if_pos rfl];cases em:one c 0 v with
   | true =>
     rw [em] at hen hr;replace hen:Go.Plain.nbM g.ids.length (adN g) (one c 0) v = true:=hen;rw [hen,if_pos ⟨rfl,rfl⟩] at hr;rw [hr];show decide (gI ((gC c v).set 0 (brI 2 0 1 0)) 0 = 1) = _;rw [gI_stx _ _ _ _ hlen,if_pos rfl];rfl
   | false =>
     rw [em] at hen hr;replace hen:(!Go.Plain.nbM g.ids.length (adN g) (one c 0) v) = true:=hen;simp only [Bool.not_eq_true'] at hen;rw [hen,if_neg (by simp),if_pos ⟨rfl,rfl⟩] at hr;rw [hr];show decide (gI ((gC c v).set 0 (brI 2 0 1 1)) 0 = 1) = _;rw [gI_stx _ _ _ _ hlen,if_pos rfl];rfl
theorem nbr_nbM {g:G} (hg:g.valid = true) (m:Nat→Bool) {v:Nat} (hv:v < g.ids.length):nbr g (nb m g.ports.length) v = Go.Plain.nbM g.ids.length (adN g) m v:=by
 obtain ⟨f1,f2,f3,f4,f5,f6,f7⟩:=val_facts hg;have hok:=(okR_iff.1 (f6 v (by omega))).1;rw [Bool.eq_iff_iff,nbr,nbrR,List.any_eq_true,Go.Plain.nbM_iff];constructor
 . rintro ⟨l,hl,h⟩;rw [nb_bit,Bool.and_eq_true,decide_eq_true_eq] at h;exact ⟨l.1.toNat,by omega,adj_iff.2 ⟨l,hl,rfl⟩,h.2⟩
 . rintro ⟨u,hu,h1,h2⟩;obtain ⟨l,hl,e⟩:=adj_iff.1 h1;exact ⟨l,hl,by rw [nb_bit,e,h2];simp;omega⟩
theorem ind_rest {g:G} (hg:g.valid = true) {c:Cf} (h:Conf pInd g c):g.ilegit c = decide (enN pInd g c = 0):=by
 obtain ⟨f1,f2,f3,f4,f5,f6,f7⟩:=val_facts hg;have hb:=ind_bool h;rw [G.ilegit,hg,iconf_of h,Bool.true_and,Bool.true_and,Bool.eq_iff_iff,mx,decide_eq_true_eq,decide_eq_true_eq,enN,nb_zero_iff,f3];refine forall_congr' fun v=>forall_congr' fun hv=>?_;have he:=ind_en hg hb hv;rw [en_bit,decide_eq_true hv,Bool.true_and] at he;have h2:=nbr_nbM hg (one c 0) hv;rw [f3] at h2;rw [he,h2,Go.Plain.enI];cases one c 0 v <;> cases Go.Plain.nbM g.ids.length (adN g) (one c 0) v <;> simp
theorem ind_chs {g:G} (hg:g.valid = true) {c:Cf} (h:Conf pInd g c) {s:Nat} (hs:Part s (enN pInd g c)) (hk:ind g s = true):Go.Plain.Chs g.ids.length (adN g) (one c 0) (fun v=>s.testBit v):=by
 obtain ⟨f1,f2,f3,f4,f5,f6,f7⟩:=val_facts hg;have hb:=ind_bool h;have hlt:∀ v,s.testBit v = true→v < g.ids.length:=fun v hv=>by
  have:=hs v hv;rw [en_bit,Bool.and_eq_true,decide_eq_true_eq] at this;exact this.1
 refine ⟨fun v hv=>⟨hlt v hv,by rw [← ind_en hg hb (hlt v hv)];exact hs v hv⟩,fun u v hu hv=>?_⟩;cases e:adj g u v with
 | false=>exact e
 | true=>have:=ind_iff.1 hk u v (by rw [f3];exact hlt u hu) hu e;rw [hv] at this;cases this
theorem nbM_ext {n:Nat} {a:Nat→Nat→Bool} {m m':Go.Plain.St} (h:∀ v,v < n→m v = m' v) (v:Nat):Go.Plain.nbM n a m v = Go.Plain.nbM n a m' v:=by
 rw [Bool.eq_iff_iff,Go.Plain.nbM_iff,Go.Plain.nbM_iff];constructor <;> rintro ⟨u,hu,h1,h2⟩
 . exact ⟨u,hu,h1,by rw [← h u hu];exact h2⟩
 . exact ⟨u,hu,h1,by rw [h u hu];exact h2⟩
theorem cfl_ext {n:Nat} {a:Nat→Nat→Bool} {m m':Go.Plain.St} (h:∀ v,v < n→m v = m' v) {v:Nat} (hv:v < n):Go.Plain.cfl n a m v = Go.Plain.cfl n a m' v:=by
 rw [Go.Plain.cfl,Go.Plain.cfl,h v hv,nbM_ext h]
theorem enI_ext {n:Nat} {a:Nat→Nat→Bool} {m m':Go.Plain.St} (h:∀ v,v < n→m v = m' v) {v:Nat} (hv:v < n):Go.Plain.enI n a m v = Go.Plain.enI n a m' v:=by
 rw [Go.Plain.enI,Go.Plain.enI,h v hv,nbM_ext h]
theorem phi_ext {n:Nat} {a:Nat→Nat→Bool} {m m':Go.Plain.St} (h:∀ v,v < n→m v = m' v) {v:Nat} (hv:v < n):Go.Plain.phi n a m v = Go.Plain.phi n a m' v:=by
 rw [Go.Plain.phi,Go.Plain.phi,h v hv,nbM_ext h]
theorem iinv_ext {n r:Nat} {a:Nat→Nat→Bool} {m m' p p':Go.Plain.St} (h:∀ v,v < n→m v = m' v) (hp:∀ v,v < n→p v = true→p' v = true) (hi:Go.Plain.IInv n a m p r):Go.Plain.IInv n a m' p' r :=
 ⟨fun e v hv hc=>hp v hv (hi.r0 e v hv (by rw [cfl_ext h hv];exact hc)),fun e v hv=>by rw [← cfl_ext h hv];exact hi.r1 e v hv,fun e v hv hc=>hp v hv (hi.r2 e v hv (by rw [enI_ext h hv];exact hc)),fun e v hv=>by rw [← enI_ext h hv];exact hi.r3 e v hv⟩
theorem pl_sum_ext {f g:Nat→Nat}:∀ {n:Nat},(∀ v,v < n→f v = g v)→Go.Plain.sumN f n = Go.Plain.sumN g n
 | 0,_=>rfl
 | n + 1,h=>by rw [Go.Plain.sumN,Go.Plain.sumN,pl_sum_ext (fun v hv=>h v (by omega)),h n (by omega)]
theorem cnt_sumI (s:Nat):∀ n,cnt s n = Go.Plain.sumN (fun v=>if s.testBit v = true then 1 else 0) n
 | 0=>rfl
 | n + 1=>by
   rw [cnt,Go.Plain.sumN,← cnt_sumI s n];cases s.testBit n <;> simp
theorem icnt_cut {s n:Nat} (hs:s < 2 ^ n):∀ k,cnt s (n + k) = cnt s n
 | 0=>rfl
 | k + 1=>by
   rw [← Nat.add_assoc,cnt,icnt_cut hs k];have:s.testBit (n + k) = false:=Nat.testBit_lt_two_pow (Nat.lt_of_lt_of_le hs (Nat.pow_le_pow_right (by omega) (by omega)));rw [this];simp
theorem ipart_lt {s n:Nat} {p:Nat→Bool} (h:Part s (nb p n)):s < 2 ^ n:=by
 apply Nat.lt_of_not_le;intro hge;obtain ⟨i,hi1,hi2⟩:=Nat.exists_ge_and_testBit_of_ge_two_pow (n:=n) hge;have:=h i hi2;rw [nb_bit,Bool.and_eq_true,decide_eq_true_eq] at this;omega
structure IIn (g:G) (c:Cf) (k:Cnt):Prop where
 inv:Go.Plain.IInv g.ids.length (adN g) (one c 0) (fun v=>k.pend.testBit v) k.rounds
 mv:k.moves + Go.Plain.sumN (Go.Plain.phi g.ids.length (adN g) (one c 0)) g.ids.length≤2 * g.ids.length
theorem iin_start {g:G} (hg:g.valid = true) {c:Cf} (h:Conf pInd g c):IIn g c (cnt0 (enN pInd g c)):=by
 refine ⟨iinv_ext (fun _ _=>rfl) (fun v hv e=>by rw [cnt0];simp only;rw [ind_en hg (ind_bool h) hv];exact e) Go.Plain.IInv.start,?_⟩;have:=Go.Plain.moves_all g.ids.length (adN g) (one c 0);simp only [cnt0];omega
theorem iin_rounds {g:G} (hg:g.valid = true) {c:Cf} (h:Conf pInd g c) {k:Cnt} (hi:IIn g c k) (h0:enN pInd g c≠0):k.rounds≤1:=by
 apply Classical.byContradiction;intro hr;apply h0;rw [enN,nb_zero_iff];intro v hv;have:=hi.inv.r3 (by omega) v hv;rw [← ind_en hg (ind_bool h) hv,en_bit,decide_eq_true hv,Bool.true_and] at this;exact this
theorem iin_step {g:G} (hg:g.valid = true) {c:Cf} (h:Conf pInd g c) {k:Cnt} (hi:IIn g c k) (h0:enN pInd g c≠0) {s:Nat} (hs:Part s (enN pInd g c)) (hk:ind g s = true) (hc':Conf pInd g (stepC pInd g c s)) :
 IIn g (stepC pInd g c s) (k.add s (enN pInd g (stepC pInd g c s))):=by
 obtain ⟨f1,f2,f3,f4,f5,f6,f7⟩:=val_facts hg;have hr:=iin_rounds hg h hi h0;have ha:=adj_adj hg;have hch:=ind_chs hg h hs hk;have hst:∀ v,v < g.ids.length→Go.Plain.stI (fun v=>s.testBit v) (one c 0) v = one (stepC pInd g c s) 0 v:=fun v hv=>(ind_step hg h hs hv).symm;have hen:∀ v,v < g.ids.length→(enN pInd g (stepC pInd g c s)).testBit v = Go.Plain.enI g.ids.length (adN g) (Go.Plain.stI (fun v=>s.testBit v) (one c 0)) v:=fun v hv=>by
  rw [ind_en hg (ind_bool hc') hv];exact (enI_ext hst hv).symm
 have hlf:∀ v,v < g.ids.length→(lft k s (enN pInd g (stepC pInd g c s))).testBit v = Go.Plain.left g.ids.length (adN g) (one c 0) (fun v=>k.pend.testBit v) (fun v=>s.testBit v) v:=fun v hv=>by
  simp only [lft,Nat.testBit_and,ndiff_bit (show v < 32 by omega),hen v hv,Go.Plain.left]
 have hmv:(k.add s (enN pInd g (stepC pInd g c s))).moves = k.moves + cnt s 32:=by rw [Cnt.add];split <;> rfl
 have hcs:cnt s 32 = Go.Plain.cntS (fun v=>s.testBit v) g.ids.length:=by
  rw [Go.Plain.cntS,← cnt_sumI,show (32:Nat) = g.ids.length + (32 - g.ids.length) by omega,icnt_cut (ipart_lt hs)]
 have hphi:Go.Plain.sumN (Go.Plain.phi g.ids.length (adN g) (one (stepC pInd g c s) 0)) g.ids.length = Go.Plain.sumN (Go.Plain.phi g.ids.length (adN g) (Go.Plain.stI (fun v=>s.testBit v) (one c 0))) g.ids.length:=pl_sum_ext fun v hv=>(phi_ext hst hv).symm;refine ⟨?_,?_⟩
 . by_cases hz0:lft k s (enN pInd g (stepC pInd g c s)) = 0
   . have e:k.add s (enN pInd g (stepC pInd g c s)) = ⟨k.steps + 1,k.moves + cnt s 32,k.rounds + 1,k.rounds + 1,enN pInd g (stepC pInd g c s)⟩:=by rw [Cnt.add,if_pos hz0]
     rw [e];refine iinv_ext hst (fun v hv h=>?_) (hi.inv.next ha hch hr fun v hv=>by rw [← hlf v hv,hz0];simp);simp only;rw [hen v hv];exact h
   . have e:k.add s (enN pInd g (stepC pInd g c s)) = ⟨k.steps + 1,k.moves + cnt s 32,k.rounds,k.rounds + 1,lft k s (enN pInd g (stepC pInd g c s))⟩:=by rw [Cnt.add,if_neg hz0]
     rw [e];refine iinv_ext hst (fun v hv h=>?_) (hi.inv.same ha hch hr);simp only;rw [hlf v hv];exact h
 . rw [hmv,hcs,hphi];have:=Go.Plain.moves_step ha hch;have:=hi.mv;omega
end Go.Proofs.YthbiicpcbnijiaaGreatDoor
namespace Go.Proofs.YthbiicpcbnijiaaGreatDoor
open Go.Eng Go.Plain
set_option maxRecDepth 100000
set_option linter.unusedVariables false
theorem part_none {s e:Nat} (h:Part s e) (h0:e = 0):s = 0:=Nat.eq_of_testBit_eq fun i=>by
 rw [Nat.zero_testBit];cases q:s.testBit i with
 | false=>rfl
 | true=>have:=h i q;rw [h0] at this;simp at this
theorem cnt_pos {s n:Nat} (h0:s≠0) (hs:s < 2 ^ n):1≤cnt s n:=by
 apply Classical.byContradiction;intro hc;apply h0;have hz:cnt s n = 0:=by omega
 have key:∀ n,cnt s n = 0→∀ i,i < n→s.testBit i = false:=by
  intro n
  induction n with
  | zero=>intro _ i hi;omega
  | succ n ih =>
    intro h i hi;rw [cnt] at h;cases e:s.testBit n with
    | true=>rw [e] at h;simp at h
    | false =>
      rw [e] at h;by_cases q:i = n
      . subst q;exact e
      . exact ih (by simpa using h) i (by omega)
 refine Nat.eq_of_testBit_eq fun i=>?_;rw [Nat.zero_testBit];by_cases hi:i < n
 . exact key n hz i hi
 . exact Nat.testBit_lt_two_pow (Nat.lt_of_lt_of_le hs (Nat.pow_le_pow_right (by omega) (by omega)))
theorem stepK_pos {p:Pr} {g:G} {kd:Int} {c:Cf} {s:Nat} (h:StepK p g kd c s):1≤cnt s 32:=cnt_pos h.ne (by have:=h.lt;omega)
theorem iin_moves {g:G} (hg:g.valid = true) {c:Cf} (hp:PrOk pInd) (h:Conf pInd g c) {k:Cnt} (hi:IIn g c k) (h0:enN pInd g c≠0) {s:Nat} (hs:StepK pInd g 2 c s):k.moves + cnt s 32≤2 * g.ids.length:=by
 have:=(iin_step hg h hi h0 hs.part (okC2.1 hs.okc) (step_conf hp hg h hs.part)).mv;have hmv:(k.add s (enN pInd g (stepC pInd g c s))).moves = k.moves + cnt s 32:=by rw [Cnt.add];split <;> rfl
 omega
theorem ind_srv (hp:PrOk pInd) {g:G} (hg:g.valid = true):Srv pInd g 2 g.ilegit 2 (2 * (g.ids.length:Int)) (IIn g):=by
 have hen:∀ c,Conf pInd g c→g.ilegit c = false→enN pInd g c≠0:=fun c hc hl q=>by
  rw [ind_rest hg hc,decide_eq_true q] at hl;cases hl
 have hst:∀ c n s,Conf pInd g c→IIn g c n→g.ilegit c = false→StepK pInd g 2 c s→g.ilegit (stepC pInd g c s) = false→IIn g (stepC pInd g c s) (n.add s (enN pInd g (stepC pInd g c s))):=fun c n s hc hi hl hs _ =>
  iin_step hg hc hi (hen c hc hl) hs.part (okC2.1 hs.okc) (step_conf hp hg hc hs.part)
 refine ⟨fun c s hc hl hs=>?_,hen,fun c hc _=>iin_start hg hc,hst,fun c n hc hi hl=>?_,fun _ c n s hc hi hl hs=>?_,?_⟩
 . rw [ind_rest hg hc,decide_eq_true_eq] at hl;exact (hs.ne (part_none hs.part hl)).elim
 . have:=iin_rounds hg hc hi (hen c hc hl);omega
 . have:=iin_moves hg hp hc hi (hen c hc hl) hs;omega
 . refine ends_of (M:=2 * g.ids.length) (Inv:=IIn g) (fun c s hc hs=>step_conf hp hg hc hs.part) (fun c s hs=>stepK_pos hs) (fun c hc _=>iin_start hg hc) hst (fun c n hc hi hl=>?_);have:=hi.mv;omega
end Go.Proofs.YthbiicpcbnijiaaGreatDoor
namespace Go.Proofs.YthbiicpcbnijiaaGreatDoor
open Go.Eng Go.Plain
set_option maxRecDepth 100000
set_option linter.unusedVariables false
set_option linter.unusedSectionVars false
section
variable {p:Pr} (hp:PrOk p) {g:G} (hg:g.valid = true) {kd:Int} (hk:dk kd = true) {leg:Cf→Bool} {R M:Int} {Inv:Cf→Cnt→Prop} (hS:Srv p g kd leg R M Inv) (he:∀ c,(chs g kd (enN p g c)).2 = 0)
include hp hg hk he
theorem stepK_of {k s:Nat} (hs:s∈(chs g kd (enN p g (cfK p g k))).1):StepK p g kd (cfK p g k) s:=by
 have h32:=en_32 p hg (cfK p g k);have h24:=en_24 p hg (cfK p g k);have h1:=(chs_mem hk h32 (chs_lt h32 s hs) (he _)).1 hs;obtain ⟨a,b,c⟩:=inner_iff.1 h1;have hpt:=(part_iff (chs_lt h32 s hs)).1 b;exact ⟨a,hpt,c,Nat.lt_of_le_of_lt hpt.le h24⟩
theorem arc_step {k:Nat} {a:Nat × Nat} (ha:a∈(sysP p g kd).ar k):StepK p g kd (cfK p g k) a.1∧a.2 = rkC p g (stepC p g (cfK p g k) a.1)∧Conf p g (stepC p g (cfK p g k) a.1):=by
 have ha:a∈arcK p g kd k:=ha;rw [arcK] at ha;obtain ⟨s,hs,rfl⟩:=List.mem_map.1 ha;have h:=stepK_of hp hg hk he hs;exact ⟨h,rfl,step_conf hp hg (cfK_conf hp hg k) h.part⟩
theorem chs_ne {k:Nat} (h0:enN p g (cfK p g k)≠0):(chs g kd (enN p g (cfK p g k))).1≠[] :=
 List.length_pos_iff.1 ((chs_some hg hk (en_32 p hg _) (en_part p hg _) (he _)).2 h0)
include hS
theorem sys_all {L:List Nat} (hL:An.Ord (cntP p g) (sysP p g kd).to (legK p g leg) L):∀ k,k < cntP p g→k∈L :=
 ord_all hp hg hS (fun k _ s hs=>stepK_of hp hg hk he hs) (fun k _ h0=>chs_ne hp hg hk he h0) hL (fun c s hc hs=>step_conf hp hg hc hs.part)
theorem sys_closed {k:Nat} (hl:legK p g leg k = true) {a:Nat × Nat} (ha:a∈(sysP p g kd).ar k):legK p g leg a.2 = true:=by
 obtain ⟨h1,h2,h3⟩:=arc_step hp hg hk he ha;rw [h2,legK,cfK_rk hp hg h3];exact hS.closed _ _ (cfK_conf hp hg k) hl h1
theorem sys_rq:RQ (sysP p g kd) (legK p g leg) (RdOk p g R Inv):=by
 refine ⟨fun k pd hk' hl n hi hpd=>?_,fun k pd hk' hl=>rd_one hp hg hS hl,fun k pd a v hk' hl ha hl' hv=>?_,fun k pd a b h1 h2=>rd_max h1 h2⟩
 . have:=rd_one hp hg hS hl n hi hpd;omega
 . obtain ⟨h1,h2,h3⟩:=arc_step hp hg hk he ha;obtain ⟨s,t⟩:=a;simp only at h1 h2 h3 hl' hv;subst h2;exact rd_step hp hg hS hl h1 h3 hl' hv
theorem sys_mq:MQ (sysP p g kd) (legK p g leg) (MvOk p g M Inv):=by
 refine ⟨fun k hk' hl hM n hi=>?_,fun k a v hk' hl ha h1 h2=>?_,fun k a b h1 h2=>mv_max h1 h2⟩
 . have hne:=chs_ne hp hg hk he (k:=k) (hS.en _ (cfK_conf hp hg k) hl);obtain ⟨s,hs⟩:=List.exists_mem_of_ne_nil _ hne;have:=hS.moves hM _ n s (cfK_conf hp hg k) hi hl (stepK_of hp hg hk he hs);omega
 . obtain ⟨s1,s2,s3⟩:=arc_step hp hg hk he ha;obtain ⟨s,t⟩:=a;simp only at s1 s2 s3 h1 h2;subst s2;exact mv_step hp hg hS hl s1 s3 h1 h2
end
end Go.Proofs.YthbiicpcbnijiaaGreatDoor
namespace Go.Proofs.YthbiicpcbnijiaaGreatDoor
open Go.Eng Go.Plain
set_option maxRecDepth 100000
set_option linter.unusedVariables false
def gwF (p:Pr) (g:G) (c:Cf) (v x:Nat):Nat→Nat→V:=fun u _=>.int .i64 (if u < v then gwK p g c u else if u = v then gwS p g c v x else 0)
theorem gw_zero (p:Pr) (g:G) (c:Cf) (u j:Nat) (F:Nat→Nat→V) (hF:F u j = .int .i64 0):VLe (F u j) (gwF p g c 0 0 u j):=by
 apply VLe.of_eq;rw [hF,gwF];by_cases h:u = 0
 . subst h;rfl
 . rw [if_neg (by omega),if_neg h]
theorem gw_skip (p:Pr) (g:G) (c:Cf) (v u j:Nat) (h:¬ 0≤ruleI p g c v):VLe (gwF p g c v 0 u j) (gwF p g c (v + 1) 0 u j):=by
 apply VLe.of_eq;rw [gwF,gwF];congr 1;by_cases h1:u < v
 . rw [if_pos h1,if_pos (by omega)]
 . rw [if_neg h1];by_cases h2:u = v
   . subst h2;rw [if_pos rfl,if_pos (by omega),gwK,if_neg h];rfl
   . rw [if_neg h2,if_neg (by omega)];by_cases h3:u = v + 1
     . rw [if_pos h3];rfl
     . rw [if_neg h3]
theorem gw_row (p:Pr) (g:G) (c:Cf) (v u j:Nat) (h:0≤ruleI p g c v):VLe (gwF p g c v p.vars.length u j) (gwF p g c (v + 1) 0 u j):=by
 apply VLe.of_eq;rw [gwF,gwF];congr 1;by_cases h1:u < v
 . rw [if_pos h1,if_pos (by omega)]
 . rw [if_neg h1];by_cases h2:u = v
   . subst h2;rw [if_pos rfl,if_pos (by omega),gwK,if_pos h]
   . rw [if_neg h2,if_neg (by omega)];by_cases h3:u = v + 1
     . rw [if_pos h3];rfl
     . rw [if_neg h3]
theorem gw_step (p:Pr) (g:G) (c:Cf) (v v' x u j:Nat) (hv:v' = v) (hj:j < 1) (a:Int) (ha:a = gwS p g c v (x + 1)):VLe (fset (gwF p g c v x) v' 0 [.int .i64 a] u j) (gwF p g c v (x + 1) u j):=by
 obtain rfl:j = 0:=by omega
 subst hv ha;apply VLe.of_eq;by_cases h:u = v'
 . subst h;simp [fset,gwF]
 . simp [fset,gwF,h]
def arX (cl:List Nat) (T:Nat→Nat) (i m:Nat) (t:Int):Nat→Nat→V:=fun q j=>match j with
 | 0=>.int .u32 (if q < m then gN cl q else 0:Nat)
 | _ + 1=>.int .i64 (if q < i then (T (gN cl q):Int) else if q = i then t else 0)
theorem arX_zero (cl:List Nat) (T:Nat→Nat) (q j:Nat) (hj:j < 2):VLe ((fun (_ j:Nat)=>[V.int .u32 0,V.int .i64 0].getD j default) q j) (arX cl T 0 0 0 q j):=by
 apply VLe.of_eq;rcases j with _ | _ | j
 . rfl
 . show V.int .i64 0 = V.int .i64 _;congr 1;rw [if_neg (by omega)];by_cases h:q = 0
   . rw [if_pos h]
   . rw [if_neg h]
 . omega
theorem arX_new (cl:List Nat) (T:Nat→Nat) (i i' q j:Nat) (hi:i' = i) (hj:j < 2) (s k:Int) (hs:s = (gN cl i:Nat)):VLe (fset (arX cl T i i 0) i' 0 [.int .u32 s,.int .i64 k] q j) (arX cl T i (i + 1) k q j):=by
 subst hi hs;apply VLe.of_eq;by_cases h:q = i'
 . subst h;rcases j with _ | _ | j
   . simp [fset,arX]
   . simp [fset,arX]
   . omega
 . rcases j with _ | _ | j
   . have:(q < i' + 1) = (q < i'):=by simp;omega
     simp [fset,arX,h,this]
   . simp [fset,arX,h]
   . omega
theorem arX_to (cl:List Nat) (T:Nat→Nat) (i i' q j j':Nat) (hi:i' = i) (hj':j' = 1) (hj:j < 2) (t t':Int):VLe (fset (arX cl T i (i + 1) t) i' j' [.int .i64 t'] q j) (arX cl T i (i + 1) t' q j):=by
 subst hi hj';apply VLe.of_eq;by_cases h:q = i'
 . subst h;rcases j with _ | _ | j
   . simp [fset,arX]
   . simp [fset,arX]
   . omega
 . rcases j with _ | _ | j
   . simp [fset,arX,h]
   . simp [fset,arX,h]
   . omega
theorem arX_next (cl:List Nat) (T:Nat→Nat) (i q j:Nat) (t:Int) (ht:t = (T (gN cl i):Nat)):VLe (arX cl T i (i + 1) t q j) (arX cl T (i + 1) (i + 1) 0 q j):=by
 subst ht;apply VLe.of_eq;rcases j with _ | j
 . rfl
 . show V.int .i64 _ = V.int .i64 _;congr 1;by_cases h:q < i
   . rw [if_pos h,if_pos (by omega)]
   . rw [if_neg h];by_cases h2:q = i
     . rw [if_pos h2,if_pos (by omega),h2]
     . rw [if_neg h2,if_neg (by omega)];by_cases h3:q = i + 1
       . rw [if_pos h3]
       . rw [if_neg h3]
theorem arX_end (cl:List Nat) (T:Nat→Nat) (q j:Nat) (hq:q < cl.length):VLe (arX cl T cl.length cl.length 0 q j) (vAr (cl.map fun s=>(s,T s)) q j):=by
 apply VLe.of_eq;have hg:gA (cl.map fun s=>(s,T s)) q = (gN cl q,T (gN cl q)):=by
  simp [gA,gN,List.getD_eq_getElem?_getD,List.getElem?_eq_getElem hq]
 rcases j with _ | j
 . show V.int .u32 _ = V.int .u32 _;rw [hg,if_pos hq]
 . show V.int .i64 _ = V.int .i64 _;rw [hg,if_pos hq]
theorem moveL_in {p:Pr} (hp:PrOk p) {g:G} (hg:g.valid = true) {c:Cf} (hc:Conf p g c) {v x:Nat} (hv:v < g.ids.length) (hx:x < p.vars.length) (hr:0≤ruleI p g c v) :
 (bnd g (gV p.vars x) v).1≤gI (moveL p g c v (ruleI p g c v).toNat) x∧gI (moveL p g c v (ruleI p g c v).toNat) x≤(bnd g (gV p.vars x) v).2:=by
 have hcl:=hc.len;have hs:Part (2 ^ v) (enN p g c):=fun i hi=>by
  have e:=pow_bit hi;rw [en_bit,Bool.and_eq_true,decide_eq_true_eq,decide_eq_true_eq,← e];exact ⟨hv,hr⟩
 have hd:=step_conf hp hg hc hs;have hrow:=stepC_row p g c (2 ^ v) (v:=v) (by omega);rw [Nat.testBit_two_pow_self,if_pos rfl] at hrow;have h2:=hd.val v (by rw [stepC_len];omega) x hx;rw [hrow] at h2;exact h2
set_option maxHeartbeats 16000000 in
theorem state_own (p:Pr) (hp:PrOk p) (g:G) (hg:g.valid = true) (kd:Int) (hk:dk kd = true) (hn:cntP p g≤32768) (c:Cf) (hc:Conf p g c) (he:(chs g kd (enN p g c)).2 = 0) :
 CallF Tryz.prog 36 [bP p g kd,.vec 0 1 0 g.ids.length,.int .i64 (rkC p g c)] [(999,GB),(0,famI p g (cF c) [])] KS.tail fun X own' _=>X = .tup [.int .u32 (enN p g c),.vec 1 2 0 (chs g kd (enN p g c)).1.length,.int .i64 0] ∧
  own' = [(1,.vec (chs g kd (enN p g c)).1.length 2 (vAr ((chs g kd (enN p g c)).1.map fun s=>(s,rkC p g (stepC p g c s))))),(999,GB),(0,famI p g (cF c) [])]:=by
 obtain ⟨f1,f2,f3,f4,f5,f6,f7⟩:=val_facts hg;have hcl:=hc.len;have hvl:=hp.vlen;refine call_post ?_;refine fn_rule mixed Tryz.func36 rfl hc36 hr36 rfl ?_
 repeat' ((conv=>whnf);first | fail)
 all_goals (conv=>whnf)
 refine loop_u mixed [0,1,2,10,21,22] [] [2,3,4,5,6,7,8,9,10,11,12,13,14,15,16,17,18,19,20,21,22,23,24,25,26,27,28,29] [1,999,0] (fun v:Nat=>[(9,.int .u32 (nb (fun u=>decide (0≤ruleI p g c u)) v)),(23,.int .i64 v)]) (fun own v=>updO own 1 (.vec 24 1 (gwF p g c v 0))) (fun m v=>m = g.ids.length - v∧v≤g.ids.length) g.ids.length 0 ⟨rfl,Nat.zero_le _⟩ rfl (fun _=>rfl) ?_ ?_
 . refine weak_by (fun _ _=>[(0,some 0),(1,some 1),(999,some 999)]) ?_ ?_ rfl
   . repeat' (first | exact True.intro | exact VRen.oel rfl rfl | (refine ⟨⟨_,rfl,?_⟩,?_⟩) | exact VRen.kf rfl | exact VRen.vec rfl rfl rfl)
   . repeat' (first | exact ⟨rfl,rfl,True.intro,fun i hi=>rfl,fun i j t hi hn hj ht=>VLe.rfl⟩ | exact gw_zero p g c i j (fun _ _=>.int .i64 0) rfl | exact True.intro | exact ⟨rfl,rfl,rfl⟩ | (refine ⟨⟨_,rfl,?_⟩,?_⟩) | (refine ⟨Nat.le_refl _,rfl,fun i j hi hj=>?_⟩))
 rintro m v ⟨hm,hv⟩;by_cases hvn:v < g.ids.length
 . have hru:=rule_ok p hp g hg c hc v (by omega);by_cases hr0:0≤ruleI p g c v
   . have hrl:=ruleI_lt p g c v;have hmo:=move_own p hp g hg c hc v hvn (ruleI p g c v).toNat (by omega);rw [show (((ruleI p g c v).toNat:Nat):Int) = ruleI p g c v by omega] at hmo
     repeat' ((conv=>whnf);first | (refine Br.dec ?_ ?_ <;> intro _ <;> try omega) | (refine Ar.sh1 (by omega) ?_) | (refine Sv.mk _ rfl ?_) | (refine Nn.mk (by omega) ?_) | (refine call_lend hru rfl ⟨Nat.le_refl _,VLe.rfl,famI_cV hc _ (fun i j=>VLe.rfl),VLe.rfl,True.intro⟩ ?_) | (refine call_by [(0,some 0)] [1] (hmo.mono ?_) ⟨VRen.kf rfl,VRen.vec rfl rfl rfl,VRen.kf rfl,VRen.kf rfl,True.intro⟩ (by repeat' (first | (refine ⟨rfl,rfl,True.intro,fun i hi=>rfl,fun i j t hi hn hj ht=>VLe.rfl⟩) | exact True.intro | (refine ⟨⟨_,rfl,?_⟩,?_⟩))) rfl;rintro _ _ _ ⟨rfl,rfl⟩) | (refine Chk.mk rfl ?_))
     all_goals (conv=>whnf)
     refine loop_w mixed [0,1,2,9,10,11,21,22,23,46,47] [3] [4,5,6,7,8,9,10,11,12,13,14,15,16,17,18,19,20,21,22,23,24,25,26,27,28,29] [3,2,1,999,0] (fun x:Nat=>[(48,.int .i64 x)]) (fun x=>(3,.vec (lenM p v) 1 (rowI (cF c) v)) :: updO [(2,.vec p.vars.length 1 (vI (moveL p g c v (ruleI p g c v).toNat))),(1,.vec 24 1 (gwF p g c v x)),(999,GB),(0,famI p g (cF c) [])] 0 (famI p g (cF c) [(v,3)])) (fun m x=>m = p.vars.length - x∧x≤p.vars.length) p.vars.length 0 ⟨rfl,Nat.zero_le _⟩ rfl (fun _=>rfl) ?_ ?_
     . refine Weak.trans ?_ (weak_open (own:=[(2,.vec p.vars.length 1 (vI (moveL p g c v (ruleI p g c v).toNat))),(1,.vec 24 1 (gwF p g c v 0)),(999,GB),(0,famI p g (cF c) [])]) (ks:=[3,4,5,6,7,8,9,10,11,12,13,14,15,16,17,18,19,20,21,22,23,24,25,26,27,28,29]) rfl rfl rfl hvn rfl) (ks_cons rfl);refine weak_by (fun _ _=>[(0,some 0),(1,some 1),(2,some 2),(999,some 999)]) ?_ ?_ rfl
       . repeat' (first | exact True.intro | exact VRen.oel rfl rfl | (refine ⟨⟨_,rfl,?_⟩,?_⟩) | exact VRen.kf rfl | exact VRen.vec rfl rfl rfl)
       . repeat' (first | exact ⟨rfl,rfl,True.intro,fun i hi=>rfl,fun i j t hi hn hj ht=>VLe.rfl⟩ | exact True.intro | exact ⟨rfl,rfl,rfl⟩ | (refine ⟨⟨_,rfl,?_⟩,?_⟩) | (refine ⟨Nat.le_refl _,rfl,fun i j hi hj=>?_⟩) | exact VLe.rfl)
     rintro m2 x ⟨hm2,hx⟩;have hlm:lenM p v = p.vars.length:=rfl;by_cases hxn:x < p.vars.length
     . have hgx:=gwX_bnd hp hg hc hvn hxn hr0 hn;have hgs:=gwS_bnd hp hg hc hvn hr0 hn (x:=x) (by omega);have hgs2:=gwS_bnd hp hg hc hvn hr0 hn (x:=x + 1) (by omega);have hb1:=hc.val v (by omega) x hxn;have hmi:=moveL_in hp hg hc hvn hxn hr0;have hbi:=bnd_in hg (hp.var x hxn) (v:=v) (by omega);have hmz:gI (moveL p g c v (ruleI p g c v).toNat) (0 + x) = gI (moveL p g c v (ruleI p g c v).toNat) x:=by rw [Nat.zero_add]
       have hcv:cF c v (0 + x) = gI (gC c v) x:=by rw [Nat.zero_add]
       have hmulx:(gI (moveL p g c v (ruleI p g c v).toNat) (0 + x) - cF c v (0 + x)) * (plP p g v x:Nat) = gwX p g c v x:=by rw [Nat.zero_add];rfl
       have hsum:(if v < v then gwK p g c v else if v = v then gwS p g c v x else 0) + gwX p g c v x = gwS p g c v (x + 1):=by
        rw [if_neg (Nat.lt_irrefl _),if_pos rfl];rfl
       repeat' ((conv=>whnf);first | (refine Ar.i64 (by rw [hmulx];omega) (by rw [hmulx];omega) ?_;rw [hmulx]) | (refine Ar.i64 (by rw [hsum];omega) (by rw [hsum];omega) ?_;rw [hsum]) | (refine Br.dec ?_ ?_ <;> intro _ <;> try omega) | (refine Ar.i64 (by omega) (by omega) ?_) | (refine Ix.nat (by omega) ?_) | (refine Ltn.mk (by omega) ?_) | (refine Opn.hd (by omega) ?_))
       all_goals (conv=>whnf)
       refine ⟨_,x + 1,by omega,⟨rfl,by omega⟩,?_⟩;refine weak_by (fun _ _=>[(0,some 0),(1,some 1),(2,some 2),(3,some 3),(999,some 999)]) ?_ ?_ rfl
       . repeat' (first | exact True.intro | exact VRen.oel rfl rfl | (refine ⟨⟨_,rfl,?_⟩,?_⟩) | exact VRen.kf rfl | exact VRen.vec rfl rfl rfl)
       . repeat' (first | exact ⟨rfl,rfl,⟨rfl,rfl,True.intro⟩,fun i hi=>rfl,fun i j t hi hn hj ht=>VLe.rfl⟩ | exact gw_step _ _ _ _ _ _ _ _ rfl hj _ rfl | exact True.intro | exact ⟨rfl,rfl,rfl⟩ | (refine ⟨⟨_,rfl,?_⟩,?_⟩) | (refine ⟨Nat.le_refl _,rfl,fun i j hi hj=>?_⟩) | exact VLe.rfl)
     . repeat' ((conv=>whnf);first | (refine Br.dec ?_ ?_ <;> intro _ <;> try omega) | (refine Ar.i64 (by omega) (by omega) ?_))
       all_goals (conv=>whnf)
       have ex:x = p.vars.length:=by omega
       have hx:=nb_or (p:=fun u=>decide (0≤ruleI p g c u)) (k:=v) (by omega) (decide_eq_true hr0);refine ⟨_,v + 1,by omega,⟨rfl,by omega⟩,?_⟩;refine Weak.trans (weak_step (own_close (q:=3) (k:=0) (i:=v) [] rfl rfl hvn (look_here rfl) (Nat.le_refl _) rfl (fun j hj=>(look_there (fun e=>hj e.symm)).symm))) ?_ (ks_sub rfl);refine weak_by (fun _ _=>[(0,some 0),(1,some 1),(999,some 999)]) ?_ ?_ rfl
       . repeat' (first | exact VRen.int hx | exact True.intro | exact VRen.oel rfl rfl | (refine ⟨⟨_,rfl,?_⟩,?_⟩) | exact VRen.kf rfl | exact VRen.vec rfl rfl rfl)
       . repeat' (first | exact ⟨rfl,rfl,True.intro,fun i hi=>rfl,fun i j t hi hn hj ht=>setF_self _ _ _ _ _⟩ | (rw [ex];exact gw_row _ _ _ _ _ _ hr0) | exact True.intro | exact ⟨rfl,rfl,rfl⟩ | (refine ⟨⟨_,rfl,?_⟩,?_⟩) | (refine ⟨Nat.le_refl _,rfl,fun i j hi hj=>?_⟩))
   . repeat' ((conv=>whnf);first | (refine Br.dec ?_ ?_ <;> intro _ <;> try omega) | (refine Ar.i64 (by omega) (by omega) ?_) | (refine call_lend hru rfl ⟨Nat.le_refl _,VLe.rfl,famI_cV hc _ (fun i j=>VLe.rfl),VLe.rfl,True.intro⟩ ?_))
     all_goals (conv=>whnf)
     have hx:=nb_no (p:=fun u=>decide (0≤ruleI p g c u)) (k:=v) (decide_eq_false hr0);refine ⟨_,v + 1,by omega,⟨rfl,by omega⟩,?_⟩;refine weak_by (fun _ _=>[(0,some 0),(1,some 1),(999,some 999)]) ?_ ?_ rfl
     . repeat' (first | exact VRen.int (by rw [hx]) | exact True.intro | exact VRen.oel rfl rfl | (refine ⟨⟨_,rfl,?_⟩,?_⟩) | exact VRen.kf rfl | exact VRen.vec rfl rfl rfl)
     . repeat' (first | exact ⟨rfl,rfl,True.intro,fun i hi=>rfl,fun i j t hi hn hj ht=>VLe.rfl⟩ | exact gw_skip _ _ _ _ _ _ hr0 | exact True.intro | exact ⟨rfl,rfl,rfl⟩ | (refine ⟨⟨_,rfl,?_⟩,?_⟩) | (refine ⟨Nat.le_refl _,rfl,fun i j hi hj=>?_⟩))
 . have ev:v = g.ids.length:=by omega
   subst ev;have h32:=en_32 p hg c;have hch:=nchoices_ok g hg kd (enN p g c) h32 (en_part p hg c);rw [he] at hch;have hcl2:=chs_len (g:=g) (k:=kd) h32;have hcm:∀ s,s∈(chs g kd (enN p g c)).1→s < 4294967296∧Part s (enN p g c):=fun s hs=>⟨chs_lt h32 s hs,(part_iff (chs_lt h32 s hs)).1 (inner_iff.1 ((chs_mem hk h32 (chs_lt h32 s hs) he).1 hs)).2.1⟩;change RG _ [_,_,.int .u32 (nb (fun u=>decide (0≤ruleI p g c u)) g.ids.length:Nat)] _ at hch;generalize (chs g kd (enN p g c)).1 = cl at *
   repeat' ((conv=>whnf);first | (refine Br.ff ?_) | (refine Br.dec ?_ ?_ <;> intro _ <;> try omega) | (refine Bd.nat (by omega) ?_) | (refine Len.mk (by omega) ?_) | (refine hch.gog ?_))
   all_goals (conv=>whnf)
   refine loop_w mixed [2,9,10,17,99,100] [] [4,5,6,7,8,9,10,11,12,13,14,15,16,17,18,19,20,21,22,23,24,25,26,27,28,29] [3,2,1,999,0] (fun i:Nat=>[(101,.int .i64 i)]) (fun i=>[(3,.cells [.vec 2 2 0 cl.length]),(2,.vec cl.length 2 (arX cl (fun s=>rkC p g (stepC p g c s)) i i 0)),(1,.vec 24 1 (gwF p g c g.ids.length 0)),(999,GB),(0,famI p g (cF c) [])]) (fun m i=>m = cl.length - i∧i≤cl.length) cl.length 0 ⟨rfl,Nat.zero_le _⟩ rfl (fun _=>rfl) ?_ ?_
   . refine weak_by (fun _ _=>[(0,some 0),(1,some 1),(2,some 2),(3,some 3),(999,some 999)]) ?_ ?_ rfl
     . repeat' (first | exact True.intro | exact VRen.oel rfl rfl | (refine ⟨⟨_,rfl,?_⟩,?_⟩) | exact VRen.kf rfl | exact VRen.loc rfl)
     . repeat' (first | exact ⟨rfl,rfl,True.intro,fun i hi=>rfl,fun i j t hi hn hj ht=>VLe.rfl⟩ | exact arX_zero _ _ _ _ hj | exact True.intro | exact ⟨rfl,rfl,rfl⟩ | (refine ⟨⟨_,rfl,?_⟩,?_⟩) | exact VRen.vec rfl rfl rfl | (refine ⟨Nat.le_refl _,rfl,fun i j hi hj=>?_⟩) | exact VLe.rfl | (refine And.intro ?_ ?_))
   rintro m i ⟨hm2,hi⟩;by_cases hil:i < cl.length
   . obtain ⟨s32,spt⟩:=hcm (gN cl i) (gQ_mem hil);generalize hs:gN cl i = s at *
     repeat' ((conv=>whnf);first | (refine Br.dec ?_ ?_ <;> intro _ <;> try omega) | (refine Ix.nat (by omega) ?_) | (refine Ltn.mk (by omega) ?_) | (refine fn_rule mixed Tryz.func80 rfl hc80 hr80 rfl ?_) | (refine range_rule ?_) | (refine Chk.mk (by kernel_rfl) ?_) | (refine fn_rule mixed Tryz.func117 rfl hc117 hr117 rfl ?_))
     all_goals (conv=>whnf)
     have hkc:=rkC_lt hp hg hc;have hsn:∀ u,s.testBit u = true→u < g.ids.length:=fun u hu=>by
      have:=spt u hu;rw [en_bit,Bool.and_eq_true,decide_eq_true_eq] at this;exact this.1
     refine loop_u mixed [0,1] [] [7,8,9,10,11,12,13,14,15,16,17,18,19,20,21,22,23,24,25,26,27,28,29] [6,5,4,3,2,1,999,0] (fun b:Nat=>[]) (fun own b=>updO (updO own 5 (.cells [.int .u32 (upS s b)])) 2 (.vec cl.length 2 (arX cl (fun s=>rkC p g (stepC p g c s)) i (i + 1) (toS p g c (rkC p g c) s b)))) (fun m b=>m = g.ids.length - b∧b≤g.ids.length) g.ids.length 0 ⟨rfl,Nat.zero_le _⟩ rfl (fun _=>rfl) ?_ ?_
     . have hx:=upS_zero s32;have ht0:toS p g c (rkC p g c) s 0 = (rkC p g c:Nat):=by rw [toS,sumF];exact Int.add_zero _
       refine weak_by (fun _ _=>[(0,some 0),(1,some 1),(2,some 2),(3,some 3),(4,some 4),(5,some 5),(6,some 6),(999,some 999)]) ?_ ?_ rfl
       . repeat' (first | exact VRen.yld rfl | exact True.intro | (refine ⟨⟨_,rfl,?_⟩,?_⟩) | exact VRen.loc rfl)
       . repeat' (first | exact ⟨rfl,rfl,True.intro,fun i hi=>rfl,fun i j t hi hn hj ht=>VLe.rfl⟩ | exact VRen.int (by rw [hx,← hs]) | (refine VRen.fn ?_) | (refine ⟨rfl,rfl,rfl,rfl,rfl,?_⟩) | (rw [ht0];exact arX_new _ _ _ _ _ _ (Nat.zero_add _) hj _ _ rfl) | exact True.intro | exact VRen.oel rfl rfl | exact ⟨rfl,rfl,rfl⟩ | (refine ⟨⟨_,rfl,?_⟩,?_⟩) | exact VRen.kf rfl | exact VRen.loc rfl | exact VRen.vec rfl rfl rfl | (refine ⟨Nat.le_refl _,rfl,fun i j hi hj=>?_⟩) | exact VLe.rfl | (refine And.intro ?_ ?_))
     rintro m3 b ⟨hm3,hb⟩;have hul:=upS_lt s b;have hbn:=toS_bnd hp hg hc hn (k:=rkC p g c) (s:=s) (b:=b) (by omega) hb;by_cases hu:upS s b = 0
     . have hte:=toS_end hp hg hc spt;rw [toS_skip hb (fun u h1 h2=>upS_end s32 hu u h1)] at hte
       repeat' ((conv=>whnf);first | (refine Br.bne ?_ ?_ <;> intro _ <;> try omega) | (refine Ar.i64 (by omega) (by omega) ?_))
       all_goals (conv=>whnf)
       refine ⟨_,i + 1,by omega,⟨rfl,by omega⟩,?_⟩;refine weak_by (fun _ _=>[(0,some 0),(1,some 1),(2,some 2),(3,some 3),(999,some 999)]) ?_ ?_ rfl
       . repeat' (first | exact True.intro | exact VRen.oel rfl rfl | (refine ⟨⟨_,rfl,?_⟩,?_⟩) | exact VRen.kf rfl | exact VRen.loc rfl)
       . repeat' (first | exact ⟨rfl,rfl,True.intro,fun i hi=>rfl,fun i j t hi hn hj ht=>VLe.rfl⟩ | exact arX_next _ _ _ _ _ _ (by rw [hs];exact hte) | exact True.intro | exact ⟨rfl,rfl,rfl⟩ | (refine ⟨⟨_,rfl,?_⟩,?_⟩) | exact VRen.vec rfl rfl rfl | (refine ⟨Nat.le_refl _,rfl,fun i j hi hj=>?_⟩) | exact VLe.rfl | (refine And.intro ?_ ?_))
     . obtain ⟨v1,v2,v3,v4,v5⟩:=upS_next s32 hu;have htz:=tz_ok _ hu hul;have hr:bitI .and .u32 ((upS s b:Nat):Int) ((upS s b:Nat) - 1:Int) = ((upS s (ctz (upS s b) + 1):Nat):Int):=by
        rw [← v5,show ((upS s b:Nat):Int) - 1 = ((upS s b - 1:Nat):Int) by omega,bit_and hul (by omega)]
       generalize ctz (upS s b) = v at *;have hvn:=hsn v v3;have hts:=toS_step (p:=p) (g:=g) (c:=c) (k:=rkC p g c) v3;rw [toS_skip v2 v4] at hts;have hbn2:=toS_bnd hp hg hc hn (k:=rkC p g c) (s:=s) (b:=v + 1) (by omega) hvn;have hsum:(if 0 + i < i then ((rkC p g (stepC p g c (gN cl (0 + i))):Nat):Int) else if 0 + i = i then toS p g c (rkC p g c) s b else 0) + (if v < g.ids.length then gwK p g c v else if v = g.ids.length then gwS p g c g.ids.length 0 else 0) = toS p g c (rkC p g c) s (v + 1):=by
        rw [Nat.zero_add,if_neg (Nat.lt_irrefl _),if_pos rfl,if_pos hvn,hts]
       repeat' ((conv=>whnf);first | (refine Ar.i64 (by rw [hsum];omega) (by rw [hsum];omega) ?_;rw [hsum]) | (refine Br.tt ?_) | (refine Br.bne ?_ ?_ <;> intro _ <;> try omega) | (refine Ar.u32 (by omega) (by omega) ?_) | (refine Sv.mk _ rfl ?_) | (refine Ix.nat (by omega) ?_) | (refine Ltn.mk (by omega) ?_) | (refine htz.gog ?_) | (refine yield_rule mixed rfl rfl ?_))
       all_goals (conv=>whnf)
       refine ⟨_,v + 1,by omega,⟨rfl,hvn⟩,?_⟩;refine weak_by (fun _ _=>[(0,some 0),(1,some 1),(2,some 2),(3,some 3),(4,some 4),(5,some 5),(6,some 6),(999,some 999)]) ?_ ?_ rfl
       . repeat' (first | exact VRen.yld rfl | exact True.intro | (refine ⟨⟨_,rfl,?_⟩,?_⟩) | exact VRen.loc rfl)
       . repeat' (first | exact ⟨rfl,rfl,True.intro,fun i hi=>rfl,fun i j t hi hn hj ht=>VLe.rfl⟩ | exact VRen.int hr | (refine VRen.fn ?_) | (refine ⟨rfl,rfl,rfl,rfl,rfl,?_⟩) | exact arX_to _ _ _ _ _ _ _ (Nat.zero_add _) rfl hj _ _ | exact True.intro | exact VRen.oel rfl rfl | exact ⟨rfl,rfl,rfl⟩ | (refine ⟨⟨_,rfl,?_⟩,?_⟩) | exact VRen.kf rfl | exact VRen.loc rfl | exact VRen.vec rfl rfl rfl | (refine ⟨Nat.le_refl _,rfl,fun i j hi hj=>?_⟩) | exact VLe.rfl | (refine And.intro ?_ ?_))
   . have ei:i = cl.length:=by omega
     subst ei
     repeat' ((conv=>whnf);first | (refine Br.dec ?_ ?_ <;> intro _ <;> try omega) | (refine And.intro rfl ?_))
     all_goals (conv=>whnf)
     exact postR_by (fun _=>[(0,some 0),(1,some 2),(999,some 999)]) _ _ ⟨rfl,rfl⟩ (VRen.tup ⟨VRen.kf rfl,VRen.vec rfl rfl rfl,VRen.kf rfl,True.intro⟩) (by repeat' (first | (refine ⟨rfl,rfl,True.intro,fun i hi=>rfl,fun i j t hi hn hj ht=>VLe.rfl⟩) | (refine ⟨Nat.le_refl _,rfl,fun i j hi hj=>arX_end _ _ _ _ hi⟩) | exact True.intro | exact ⟨rfl,rfl,rfl⟩ | (refine ⟨⟨_,rfl,?_⟩,?_⟩))) rfl
end Go.Proofs.YthbiicpcbnijiaaGreatDoor
namespace Go.Proofs.YthbiicpcbnijiaaGreatDoor
open Go.Eng Go.Plain
set_option maxRecDepth 100000
set_option linter.unusedVariables false
def arsF (p:Pr) (g:G) (kd:Int) (k:Nat):Nat→Nat→V:=fun i _=>if i < k then arV (arcK p g kd i) else .nilslice
def ensF (p:Pr) (g:G) (k:Nat):Nat→Nat→V:=fun i _=>.int .u32 (if i < k then enN p g (cfK p g i) else 0:Nat)
theorem arsF_zero (p:Pr) (g:G) (kd:Int) (i j:Nat) (hj:j < 1):VLe ((fun (_ j:Nat)=>[V.nilslice].getD j default) i j) (arsF p g kd 0 i j):=by
 obtain rfl:j = 0:=by omega
 exact VLe.rfl
theorem ensF_zero (p:Pr) (g:G) (i j:Nat) (hj:j < 1):VLe ((fun (_ j:Nat)=>[V.int .u32 0].getD j default) i j) (ensF p g 0 i j):=by
 obtain rfl:j = 0:=by omega
 exact VLe.rfl
theorem ensF_set (p:Pr) (g:G) (k k' i j:Nat) (hk:k' = k) (hj:j < 1):VLe (fset (ensF p g k) k' 0 [.int .u32 (enN p g (cfK p g k))] i j) (ensF p g (k + 1) i j):=by
 obtain rfl:j = 0:=by omega
 subst hk;apply VLe.of_eq;by_cases h:i = k'
 . subst h;simp [fset,ensF]
 . have h1:(i < k' + 1) = (i < k'):=by simp;omega
   simp [fset,ensF,h,h1]
theorem arsF_set (p:Pr) (g:G) (kd:Int) (k k' i j:Nat) (X:V) (hX:VLe X (arV (arcK p g kd k))) (hk:k' = k) (hj:j < 1):VLe (fset (arsF p g kd k) k' 0 [X] i j) (arsF p g kd (k + 1) i j):=by
 obtain rfl:j = 0:=by omega
 subst hk;by_cases h:i = k'
 . subst h;have e1:fset (arsF p g kd i) i 0 [X] i 0 = X:=by simp [fset]
   have e2:arsF p g kd (i + 1) i 0 = arV (arcK p g kd i):=by simp [arsF]
   rw [e1,e2];exact hX
 . apply VLe.of_eq;have h1:(i < k' + 1) = (i < k'):=by simp;omega
   simp [fset,arsF,h,h1]
theorem cfK_lo (p:Pr) (g:G) {v x:Nat} (hv:v < g.ids.length) (hx:x < p.vars.length):loP p g v x = cF (cfK p g 0) v x:=by
 show _ = gI (gC (cfK p g 0) v) x;rw [cfK_get p g 0 hv hx,dgP,Mx.dg_zero];simp
theorem arcV_le (p:Pr) (g:G) (kd:Int) (k n:Nat) (hn:n = (chs g kd (enN p g (cfK p g k))).1.length):VLe (.fz n 2 false (shiftF 0 (vAr ((chs g kd (enN p g (cfK p g k))).1.map fun s=>(s,rkC p g (stepC p g (cfK p g k) s)))))) (arV (arcK p g kd k)):=by
 refine VLe.fz ?_ (fun h=>h) (fun i j hi hj=>VLe.of_eq (by rw [shiftF_eq,Nat.zero_add];rfl));rw [hn,arcK,List.length_map]
set_option maxHeartbeats 16000000 in
theorem sbuild_ok (p:Pr) (hp:PrOk p) (g:G) (hs:g.Small) (hg:g.valid = true) (kd:Int) (hk:dk kd = true) (hn:cntP p g≤32768) (he:∀ c,(chs g kd (enN p g c)).2 = 0) (ht:(sysP p g kd).tot (cntP p g)≤262144) :
 RG 10 [p.v,g.v,.int .i64 kd] (.tup [(sysP p g kd).v,.int .i64 0]):=by
 obtain ⟨f1,f2,f3,f4,f5,f6,f7⟩:=val_facts hg;have hvl:=hp.vlen;have h1:=mCount_ok p hp g hs hg hn;have h2:=dvalid_ok kd;rw [hk] at h2;have h3:=builder_ok p hp g hs hg kd hn;have h4:=mleast_ok p hp g hs hg;refine ret_frzG rfl ?_;refine fn_rule mixed Tryz.func10 rfl hc10 hr10 rfl ?_
 repeat' ((conv=>whnf);first | (refine Br.tt ?_) | (refine Br.ff ?_) | (refine Bd.nat (by omega) ?_) | (refine Len.mk (by omega) ?_) | (refine MkS.vec ?_) | (refine h1.go ?_) | (refine h2.go ?_) | (refine h3.go ?_) | (refine call_by [] [0] (h4.mono ?_) ⟨VRen.kf rfl,VRen.kf rfl,True.intro⟩ True.intro rfl;rintro _ _ _ ⟨rfl,rfl⟩) | (refine Chk.mk rfl ?_))
 all_goals (conv=>whnf)
 refine loop_w mixed [6,10,11,12,56] [] [7,8,9,10,11,12,13,14,15,16,17,18,19,20,21,22,23,24,25,26,27,28,29] [6,5,4,3,2,1,0,999] (fun k:Nat=>[(14,.int .i64 ((sysP p g kd).tot k)),(57,.int .i64 k)]) (fun k=>[(6,famI p g (cF (cfK p g k)) []),(5,.cells [.vec 3 1 0 (cntP p g),.vec 4 1 0 (cntP p g)]),(4,.vec (cntP p g) 1 (arsF p g kd k)),(3,.vec (cntP p g) 1 (ensF p g k)),(2,.cells [.nilslice,.nilslice]),(1,.cells [.fz g.ids.length 1 false (vI g.ids),.fz g.ports.length 1 false (vP g.ports)]),(0,.cells [.str p.nm,p.pg.vs,p.pg.rs]),(999,GB)]) (fun m k=>m = cntP p g - k∧k≤cntP p g) (cntP p g) 0 ⟨rfl,Nat.zero_le _⟩ rfl (fun _=>rfl) ?_ ?_
 . refine weak_by (fun _ _=>[(0,some 0),(1,some 1),(2,some 2),(3,some 3),(4,some 4),(5,some 5),(6,some 6),(999,some 999)]) ?_ ?_ rfl
   . repeat' (first | exact True.intro | (refine ⟨⟨_,rfl,?_⟩,?_⟩) | exact VRen.kf rfl | exact VRen.loc rfl | exact VRen.vec rfl rfl rfl)
   . repeat' (first | exact ⟨rfl,rfl,True.intro,fun i hi=>rfl,fun i j t hi hn hj ht=>VLe.of_eq (congrArg (V.int .i64) (cfK_lo p g hi hj))⟩ | exact arsF_zero _ _ _ _ _ hj | exact ensF_zero _ _ _ _ hj | exact True.intro | exact ⟨rfl,rfl,rfl⟩ | (refine ⟨⟨_,rfl,?_⟩,?_⟩) | exact VRen.kf rfl | exact VRen.vec rfl rfl rfl | (refine ⟨Nat.le_refl _,rfl,fun i j hi hj=>?_⟩) | (refine And.intro ?_ ?_))
 rintro m k ⟨hm,hkc⟩;by_cases hkn:k < cntP p g
 . have hst:=state_own p hp g hg kd hk hn (cfK p g k) (cfK_conf hp hg k) (he _);rw [rk_cfK hkn] at hst;have had:=madv_ok p hp g hg k hkn;have htk:=sumA_mono (fun k=>((sysP p g kd).ar k).length) (show k + 1≤cntP p g by omega);change (sysP p g kd).tot (k + 1)≤(sysP p g kd).tot (cntP p g) at htk;have htn:(sysP p g kd).tot (k + 1) = (sysP p g kd).tot k + (chs g kd (enN p g (cfK p g k))).1.length:=by
    show (sysP p g kd).tot k + (arcK p g kd k).length = _;rw [arcK,List.length_map]
   repeat' ((conv=>whnf);first | (refine Br.ff ?_) | (refine Br.dec ?_ ?_ <;> intro _ <;> try omega) | (refine Ar.i64 (by omega) (by omega) ?_) | (refine Ix.nat (by omega) ?_) | (refine Len.mk (by omega) ?_) | (refine Ltn.mk (by omega) ?_) | (refine call_by [(999,some 999),(0,some 6)] [1] (hst.mono ?_) ⟨VRen.kf rfl,VRen.vec rfl rfl rfl,VRen.kf rfl,True.intro⟩ (by repeat' (first | (refine ⟨rfl,rfl,True.intro,fun i hi=>rfl,fun i j t hi hn hj ht=>VLe.rfl⟩) | exact True.intro | exact ⟨rfl,rfl,rfl⟩ | (refine ⟨⟨_,rfl,?_⟩,?_⟩))) rfl;rintro _ _ _ ⟨rfl,rfl⟩) | (refine call_by [(0,some 6)] [] (had.mono ?_) ⟨VRen.kf rfl,VRen.vec rfl rfl rfl,True.intro⟩ (by repeat' (first | (refine ⟨rfl,rfl,True.intro,fun i hi=>rfl,fun i j t hi hn hj ht=>VLe.rfl⟩) | exact True.intro | (refine ⟨⟨_,rfl,?_⟩,?_⟩))) rfl;rintro _ _ _ ⟨rfl,rfl⟩) | (refine Chk.mk rfl ?_) | (refine And.intro rfl ?_))
   all_goals (conv=>whnf)
   refine ⟨_,k + 1,by omega,⟨rfl,by omega⟩,?_⟩;refine weak_by (fun _ _=>[(0,some 0),(1,some 1),(2,some 2),(3,some 3),(4,some 4),(5,some 5),(6,some 6),(999,some 999)]) ?_ ?_ rfl
   . repeat' (first | exact True.intro | (refine ⟨⟨_,rfl,?_⟩,?_⟩) | exact VRen.kf rfl | exact VRen.int (by omega) | exact VRen.loc rfl | exact VRen.vec rfl rfl rfl)
   . repeat' (first | exact ⟨rfl,rfl,True.intro,fun i hi=>rfl,fun i j t hi hn hj ht=>VLe.rfl⟩ | exact ensF_set _ _ _ _ _ _ (Nat.zero_add _) hj | exact arsF_set p g kd _ _ _ _ _ (arcV_le p g kd k _ rfl) (Nat.zero_add _) hj | exact True.intro | exact ⟨rfl,rfl,rfl⟩ | (refine ⟨⟨_,rfl,?_⟩,?_⟩) | exact VRen.kf rfl | exact VRen.vec rfl rfl rfl | (refine ⟨Nat.le_refl _,rfl,fun i j hi hj=>?_⟩) | (refine And.intro ?_ ?_))
 . have ek:k = cntP p g:=by omega
   subst ek
   repeat' ((conv=>whnf);first | (refine Br.dec ?_ ?_ <;> intro _ <;> try omega) | (refine Len.mk (by omega) ?_))
   all_goals (conv=>whnf)
   refine VLe.tup ⟨VLe.agg ⟨VLe.fz rfl (fun h=>h) (fun i j hi hj=>VLe.of_eq ?_),VLe.fz rfl (fun h=>h) (fun i j hi hj=>VLe.of_eq ?_),True.intro⟩,VLe.rfl,True.intro⟩
   . rw [shiftF_eq,Nat.zero_add,ensF,if_pos hi];rfl
   . rw [shiftF_eq,Nat.zero_add,arsF,if_pos hi];rfl
end Go.Proofs.YthbiicpcbnijiaaGreatDoor
namespace Go.Proofs.YthbiicpcbnijiaaGreatDoor
open Go.Eng Go.Plain
set_option maxRecDepth 100000
set_option linter.unusedVariables false
theorem row_pow {sz:Nat→Nat} {m B:Nat}:∀ {n:Nat},(∀ v,v < n→Mx.pr sz (v * m) m≤B)→Mx.pr sz 0 (n * m)≤B ^ n
 | 0,_=>by simp [Mx.pr]
 | n + 1,h=>by
   rw [Nat.add_mul,Nat.one_mul,pr_split,Nat.zero_add,Nat.pow_succ];exact Nat.mul_le_mul (row_pow fun v hv=>h v (by omega)) (h n (by omega))
theorem nodup_len {l:List Nat} {m:Nat} (hn:l.Pairwise (· < ·)) (h:∀ a∈l,a < m):l.length≤m:=by
 have h1:l.Nodup:=by
  rw [List.nodup_iff_pairwise_ne];exact hn.imp fun {a b} h=>Nat.ne_of_lt h
 have:=List.Nodup.length_le_of_subset h1 (fun a ha=>List.mem_range.2 (h a ha));simpa using this
theorem chs_pow {p:Pr} {g:G} (hg:g.valid = true) {kd:Int} (hk:dk kd = true) (c:Cf):(chs g kd (enN p g c)).1.length≤2 ^ g.ids.length:=by
 have h32:=en_32 p hg c;have hpw:=en_pow p g c;refine nodup_len (chs_sorted h32) fun a ha=>?_;by_cases he:(chs g kd (enN p g c)).2 = 0
 . have h1:=(chs_mem hk h32 (chs_lt h32 a ha) he).1 ha;obtain ⟨_,b,_⟩:=inner_iff.1 h1;exact Nat.lt_of_le_of_lt ((part_iff (chs_lt h32 a ha)).1 b).le hpw
 . rw [(chs_err hk he).2.1] at ha;cases ha
theorem tot_pow {p:Pr} {g:G} (hg:g.valid = true) {kd:Int} (hk:dk kd = true):(sysP p g kd).tot (cntP p g)≤cntP p g * 2 ^ g.ids.length:=by
 rw [Tsy.tot];refine sumA_le _ _ (fun k=>?_) _;show (arcK p g kd k).length≤_;rw [arcK,List.length_map];exact chs_pow hg hk _
theorem cnt_pow:∀ {n e:Nat},e < 2 ^ n→n≤32→cnt e 32≤n:=by
 intro n e h hn;have e1:(32:Nat) = n + (32 - n):=by omega
 rw [e1,cnt_add,Nat.shiftRight_eq_div_pow,Nat.div_eq_of_lt h,cnt_zero (fun i _=>Nat.zero_testBit i)];have:=cnt_le e n;omega
theorem chs_fine {p:Pr} {g:G} (hg:g.valid = true) {kd:Int} (hk:dk kd = true) (hn:g.ids.length≤10) (c:Cf):(chs g kd (enN p g c)).2 = 0:=by
 apply Classical.byContradiction;intro h;have h1:=(chs_err hk h).2.2.1;have h2:=cnt_pow (en_pow p g c) (by omega);omega
end Go.Proofs.YthbiicpcbnijiaaGreatDoor
namespace Go.Proofs.YthbiicpcbnijiaaGreatDoor
open Go.Eng Go.Plain
set_option maxRecDepth 100000
set_option linter.unusedVariables false
set_option linter.unusedSectionVars false
theorem retp_args {P:Program} {f:FuncId} {args args':List V} {Φ:V→Prop} (hk:allB V.kf args' = true) (hl:LLe args' args) (h:RetP P f args Φ):RetP P f args' Φ:=fun own ks=>by
 constructor;intro M w σ us hlen hd hh;obtain ⟨d1,d2⟩:=hl.dens (M:=M) (w:=w) (us:=us) hlen (fun i v u hv hu=>(hd i v u hv hu).kf (allB_mem hk v (List.mem_of_getElem? hv)) Sg.none);exact (h own ks).out M w σ us d1 (fun i v u hv hu=>(d2 i v u hv hu).mono (Ext.mk (fun _ _ h=>⟨h,rfl⟩) (Nat.le_refl _)) (Sg.none_le σ)) hh
theorem ret_argsW {P:Program} {f:FuncId} {args args':List V} {X:V} (hk:allB V.kf args' = true) (hl:LLe args' args) (h:Ret P f args X):Ret P f args' X :=
 RetP.ret (Φ:=fun v=>v = X) (retp_args hk hl (h.p rfl)) (fun _ h=>h)
theorem retp_res {P:Program} {f:FuncId} {args:List V} {Φ:V→Prop} {X:V} (h:RetP P f args Φ) (hX:∀ v,Φ v→v.kf = true∧VLe v X):Ret P f args X:=fun own ks=>by
 constructor;intro M w σ us hlen hd hh;refine ((h own ks).out M w σ us hlen hd hh).mono ?_;rintro e w' ⟨M',σ',v,own',ks',u,rfl,hv,hh',tr,kd,hΦ,rfl,rfl⟩;obtain ⟨hk,hl⟩:=hX v hΦ;exact ⟨M',σ',X,_,_,u,rfl,(hl.out _ _ _ (hv.kf hk Sg.none)).mono (Ext.mk (fun _ _ h=>⟨h,rfl⟩) (Nat.le_refl _)) (Sg.none_le σ'),hh',tr,kd,rfl,rfl,rfl⟩
def blW (n:Nat) (lg:Nat→Bool):V:=.fz n 1 false (shiftF 0 (vBl lg))
theorem bl_le (n:Nat) (lg:Nat→Bool):VLe (blW n lg) (blV n lg):=VLe.fz rfl (fun h=>h) fun i j hi hj=>VLe.of_eq (by rw [shiftF_eq,Nat.zero_add];rfl)
theorem vle_appL (lg:Nat→Bool) (n m i j:Nat) (hm:m = n) (hi:i < n + 1) (hj:j < 1) (b:Bool) (F:Nat→Nat→V) (hF:F 0 0 = .bool b) (hb:b = lg n):VLe (fapp (shiftF 0 (vBl lg)) m (shiftF 0 F) i j) (vBl lg i j):=by
 obtain rfl:j = 0:=by omega
 subst hm;apply VLe.of_eq;by_cases h:i < m
 . rw [fapp_lt h,shiftF_eq,Nat.zero_add]
 . rw [fapp_ge h];have:i = m:=by omega
   subst this;simp [shiftF,hF,vBl,hb]
theorem csmallW {p:Pr} (hp:PrOk p) {g:G} (hg:g.valid = true) {c:Cf} (h:Conf p g c):CSmall c:=by
 obtain ⟨f1,f2,f3,f4,f5,f6,f7⟩:=val_facts hg;have hl:=h.len;have hv:=hp.vlen;refine ⟨by omega,fun r hr=>?_⟩;obtain ⟨i,hi,e⟩:=List.mem_iff_getElem.1 hr;have h2:gC c i = r:=by simp [gC,List.getD,hi,e]
 have:=h.row i hi;rw [← h2];omega
theorem cnt_rows {p:Pr} {g:G} {B:Nat} (h:∀ v,v < g.ids.length→Mx.pr (szP p g) (v * p.vars.length) p.vars.length≤B):cntP p g≤B ^ g.ids.length:=row_pow h
section
variable {p:Pr} (hp:PrOk p) {g:G} (hs:g.Small) (hg:g.valid = true) {kd:Int} (hk:dk kd = true) {leg:Cf→Bool} {R M:Int} {Inv:Cf→Cnt→Prop} (hS:Srv p g kd leg R M Inv)
 (h10:g.ids.length≤10) (hN:cntP p g≤32768) (hNm:cntP p g * 2 ^ g.ids.length≤262144)
include hp hs hg hk h10 hN hNm
theorem whole_build:RG 10 [p.v,g.v,.int .i64 kd] (.tup [(sysP p g kd).v,.int .i64 0]) :=
 sbuild_ok p hp g hs hg kd hk hN (chs_fine hg hk h10) (Nat.le_trans (tot_pow hg hk) hNm)
theorem whole_ok:(sysP p g kd).Ok:=sys_ok hp hg hk hN (chs_fine hg hk h10) (Nat.le_trans (tot_pow hg hk) hNm)
include hS
theorem whole_core:Ret Tryz.prog 13 [(sysP p g kd).v,blW (cntP p g) (legK p g leg)] (.tup [blV (cntP p g) fun _=>false,.int .i64 0]):=by
 refine ret_argsW (args:=[(sysP p g kd).v,blV (cntP p g) (legK p g leg)]) rfl ⟨VLe.rfl,bl_le _ _,True.intro⟩ (retp_res (core_ok (sysP p g kd) (whole_ok hp hs hg hk h10 hN hNm) (legK p g leg)) ?_);rintro _ ⟨L,hL,rfl⟩;have hall:=sys_all hp hg hk hS (chs_fine hg hk h10) hL;refine ⟨rfl,VLe.tup ⟨VLe.fz rfl (fun h=>h) (fun i j hi hj=>VLe.bool ?_),VLe.rfl,True.intro⟩⟩;have:decide (i∈L) = true:=decide_eq_true (hall i hi);show (!decide (i∈L)) = false;rw [this];rfl
theorem whole_closed:Ret Tryz.prog 14 [(sysP p g kd).v,blW (cntP p g) (legK p g leg)] (.tup [.bool true,.int .i64 0]) :=
 ret_argsW (args:=[(sysP p g kd).v,blV (cntP p g) (legK p g leg)]) rfl ⟨VLe.rfl,bl_le _ _,True.intro⟩ (cclosed_ok (sysP p g kd) (whole_ok hp hs hg hk h10 hN hNm) (legK p g leg) (fun k _ hl a ha=>sys_closed hp hg hk hS (chs_fine hg hk h10) hl ha))
theorem whole_rounds (hR:0≤R):RetP Tryz.prog 15 [(sysP p g kd).v,blW (cntP p g) (legK p g leg)] fun v=>∃ r:Nat→Nat,(∀ k,k < cntP p g→(r k:Int)≤R)∧v = .tup [inV (cntP p g) r,.int .i64 0]:=by
 have h:=rounds_ok (sysP p g kd) (whole_ok hp hs hg hk h10 hN hNm) (legK p g leg) (fun L hL=>sys_all hp hg hk hS (chs_fine hg hk h10) hL) (2 ^ g.ids.length) (fun k _=>en_pow p g _) hNm (RdOk p g R Inv) (sys_rq hp hg hk hS (chs_fine hg hk h10));refine retp_args (args:=[(sysP p g kd).v,blV (cntP p g) (legK p g leg)]) rfl ⟨VLe.rfl,bl_le _ _,True.intro⟩ (fun own ks=>(h own ks).mono ?_);rintro _ _ _ ⟨⟨r,h1,h2,rfl⟩,rfl,rfl⟩;refine ⟨⟨r,fun k hk'=>?_,rfl⟩,rfl,rfl⟩;cases e:legK p g leg k with
 | true=>have:=h1 k hk' e;omega
 | false=>exact rd_end hp hg hS e (h2 k hk' e)
theorem whole_moves:RetP Tryz.prog 16 [(sysP p g kd).v,blW (cntP p g) (legK p g leg)] fun v=>∃ r:Nat→Nat,(0≤M→∀ k,k < cntP p g→(r k:Int)≤M)∧v = .tup [inV (cntP p g) r,.int .i64 0]:=by
 have h:=moves_ok (sysP p g kd) (whole_ok hp hs hg hk h10 hN hNm) (legK p g leg) (fun L hL=>sys_all hp hg hk hS (chs_fine hg hk h10) hL) (MvOk p g M Inv) (sys_mq hp hg hk hS (chs_fine hg hk h10));refine retp_args (args:=[(sysP p g kd).v,blV (cntP p g) (legK p g leg)]) rfl ⟨VLe.rfl,bl_le _ _,True.intro⟩ (fun own ks=>(h own ks).mono ?_);rintro _ _ _ ⟨⟨r,h1,h2,rfl⟩,rfl,rfl⟩;refine ⟨⟨r,fun hM k hk'=>?_,rfl⟩,rfl,rfl⟩;cases e:legK p g leg k with
 | true=>have:=h1 k hk' e;omega
 | false=>exact mv_end hp hg hS e (h2 k hk' e) hM
end
end Go.Proofs.YthbiicpcbnijiaaGreatDoor
namespace Go.Eng
open Go.MapKept (bytes_beq)
noncomputable def fN {β:Type} (n:Nat) (K:Nat→β):β:=@Nat.rec (fun _=>β) (K 0) (fun m _=>K (Nat.succ m)) n
theorem fN_eq {β:Type} (n:Nat) (K:Nat→β):fN n K = K n:=by cases n <;> rfl
noncomputable def fI {β:Type} (n:Int) (K:Int→β):β:=@Int.rec (fun _=>β) (fun a=>fN a fun a=>K (.ofNat a)) (fun a=>fN a fun a=>K (.negSucc a)) n
theorem fI_eq {β:Type} (n:Int) (K:Int→β):fI n K = K n:=by cases n <;> simp [fI,fN_eq]
noncomputable def fB {β:Type} (b:Bool) (K:Bool→β):β:=@Bool.rec (fun _=>β) (K false) (K true) b
theorem fB_eq {β:Type} (b:Bool) (K:Bool→β):fB b K = K b:=by cases b <;> rfl
noncomputable def lk {α:Type} (l:List (Nat × α)) (t:Nat):Option α :=
 @List.rec (Nat × α) (fun _=>Option α) none (fun p _ ih=>@Prod.rec Nat α (fun _=>Option α) (fun k v=>@Bool.rec (fun _=>Option α) ih (some v) (Nat.beq k t)) p) l
theorem lk_eq {α:Type} (l:List (Nat × α)) (t:Nat):lk l t = look l t:=by
 induction l with
 | nil=>rfl
 | cons p r ih =>
   obtain ⟨k,v⟩:=p;unfold look;show @Bool.rec (fun _=>Option α) (lk r t) (some v) (Nat.beq k t) = _;cases Nat.beq k t <;> simp [ih]
noncomputable def nt {α:Type} (l:List α) (n:Nat):Option α :=
 @List.rec α (fun _=>Nat→Option α) (fun _=>none) (fun x _ ih n=>@Nat.rec (fun _=>Option α) (some x) (fun m _=>ih m) n) l n
theorem nt_eq {α:Type} (l:List α) (n:Nat):nt l n = nth l n:=by
 induction l generalizing n with
 | nil=>rfl
 | cons x r ih=>cases n with
   | zero=>rfl
   | succ n=>exact ih n
theorem nth_get {α:Type}:∀ (l:List α) (n:Nat),nth l n = l[n]?
 | [],n=>by simp [nth]
 | x :: r,0=>by simp [nth]
 | x :: r,n + 1=>by simp [nth,nth_get r n]
noncomputable def dr {α:Type} (l:List α) (n:Nat):List α :=
 @List.rec α (fun _=>Nat→List α) (fun _=>[]) (fun x r ih n=>@Nat.rec (fun _=>List α) (x :: r) (fun m _=>ih m) n) l n
theorem dr_eq {α:Type} (l:List α) (n:Nat):dr l n = l.drop n:=by
 induction l generalizing n with
 | nil=>simp [dr]
 | cons x r ih=>cases n with
   | zero=>rfl
   | succ n=>exact ih n
noncomputable def fH {α β:Type} (l:List α) (K:List α→β):β:=@List.rec α (fun _=>β) (K []) (fun x r _=>K (x :: r)) l
theorem fH_eq {α β:Type} (l:List α) (K:List α→β):fH l K = K l:=by cases l <;> rfl
noncomputable def tk {α β:Type} (n:Nat):List α→(List α→Option β)→Option β :=
 @Nat.rec (fun _=>List α→(List α→Option β)→Option β) (fun _ K=>K []) (fun _ ih l K=>@List.rec α (fun _=>Option β) none (fun x r _=>ih r fun q=>K (x :: q)) l) n
theorem tk_eq {α β:Type} (n:Nat) (l:List α) (K:List α→Option β):tk n l K = if n≤l.length then K (l.take n) else none:=by
 induction n generalizing l K with
 | zero=>simp only [Nat.zero_le,if_true,List.take_zero];rfl
 | succ n ih=>cases l with
   | nil=>rfl
   | cons x r =>
     show tk n r (fun q=>K (x :: q)) = _;rw [ih];simp
def bl:Nat→Nat→List UInt8
 | 0,_=>[]
 | l + 1,c=>UInt8.ofNat (c % 256) :: bl l (c / 256)
def bytesOf (l c:Nat):ByteArray:=⟨⟨bl l c⟩⟩
def encL:List UInt8→Nat
 | []=>0
 | b :: r=>b.toNat + 256 * encL r
theorem bl_length:∀ (l c:Nat),(bl l c).length = l
 | 0,_=>rfl
 | l + 1,c=>by simp [bl,bl_length]
theorem bl_enc:∀ (l:List UInt8),bl l.length (encL l) = l
 | []=>rfl
 | b :: r=>by
   have hb:=b.toNat_lt;simp only [List.length_cons,bl,encL];rw [show (b.toNat + 256 * encL r) % 256 = b.toNat by omega,show (b.toNat + 256 * encL r) / 256 = encL r by omega,bl_enc r];simp
theorem bl_get:∀ (l c m:Nat),m < l→(bl l c)[m]? = some (UInt8.ofNat (c / 256 ^ m % 256))
 | 0,c,m,h=>by omega
 | l + 1,c,0,h=>by simp [bl]
 | l + 1,c,m + 1,h=>by
   simp only [bl,List.getElem?_cons_succ];rw [bl_get l _ m (by omega),Nat.div_div_eq_div_mul,Nat.pow_succ,Nat.mul_comm 256]
theorem bl_drop:∀ (l c m:Nat),(bl l c).drop m = bl (l - m) (c / 256 ^ m)
 | 0,c,m=>by simp [bl]
 | l + 1,c,0=>by simp
 | l + 1,c,m + 1=>by
   simp only [bl,List.drop_succ_cons];rw [bl_drop l _ m,Nat.div_div_eq_div_mul,Nat.pow_succ,Nat.mul_comm 256,show l + 1 - (m + 1) = l - m by omega]
theorem bl_take:∀ (l c m:Nat),m≤l→(bl l c).take m = bl m c
 | l,c,0,h=>by simp [bl]
 | 0,c,m + 1,h=>by omega
 | l + 1,c,m + 1,h=>by simp [bl,bl_take l _ m (by omega)]
theorem bl_mod:∀ (l c:Nat),bl l (c % 256 ^ l) = bl l c
 | 0,c=>rfl
 | l + 1,c=>by
   simp only [bl];have h1:c % 256 ^ (l + 1) % 256 = c % 256:=by
    rw [Nat.pow_succ,Nat.mul_comm];exact Nat.mod_mul_right_mod _ _ _
   have h2:c % 256 ^ (l + 1) / 256 = c / 256 % 256 ^ l:=by
    rw [Nat.pow_succ,Nat.mul_comm,Nat.mod_mul_right_div_self]
   rw [h1,h2,bl_mod]
theorem bl_inj:∀ (l c d:Nat),bl l c = bl l d→c % 256 ^ l = d % 256 ^ l
 | 0,c,d,_=>by simp [Nat.mod_one]
 | l + 1,c,d,h=>by
   simp only [bl,List.cons.injEq] at h;have h1:c % 256 = d % 256:=by
    have:=congrArg UInt8.toNat h.1;simpa using this
   have h2:=bl_inj l _ _ h.2;rw [Nat.pow_succ,Nat.mul_comm,Nat.mod_mul,Nat.mod_mul,h1,h2]
theorem bl_app:∀ (l c l' c':Nat),bl l c ++ bl l' c' = bl (l + l') (c % 256 ^ l + 256 ^ l * c')
 | 0,c,l',c'=>by simp [bl,Nat.mod_one]
 | l + 1,c,l',c'=>by
   rw [show l + 1 + l' = (l + l') + 1 by omega];simp only [bl,List.cons_append];rw [bl_app l _ l' c'];have e:c % 256 ^ (l + 1) = c % 256 + 256 * (c / 256 % 256 ^ l):=by
    rw [Nat.pow_succ,Nat.mul_comm (256 ^ l),Nat.mod_mul]
   have e2:256 ^ (l + 1) * c' = 256 * (256 ^ l * c'):=by rw [Nat.pow_succ,Nat.mul_comm (256 ^ l),Nat.mul_assoc]
   rw [e,e2];have hlt:c % 256 < 256:=Nat.mod_lt _ (by omega);rw [show (c % 256 + 256 * (c / 256 % 256 ^ l) + 256 * (256 ^ l * c')) % 256 = c % 256 by omega,show (c % 256 + 256 * (c / 256 % 256 ^ l) + 256 * (256 ^ l * c')) / 256 = c / 256 % 256 ^ l + 256 ^ l * c' by omega]
theorem bytesOf_size (l c:Nat):(bytesOf l c).size = l:=by
 show (bl l c).length = l;exact bl_length l c
theorem bytesOf_enc (b:ByteArray):bytesOf b.size (encL b.data.toList) = b:=by
 obtain ⟨⟨l⟩⟩:=b;show ByteArray.mk ⟨bl l.length (encL l)⟩ = _;rw [bl_enc]
theorem bytesOf_get (l c m:Nat) (h:m < l):((bytesOf l c).get! m).toNat = c / 256 ^ m % 256:=by
 have h1:=bl_get l c m h;show ((bytesOf l c).data[m]!).toNat = _;have:(bytesOf l c).data[m]! = UInt8.ofNat (c / 256 ^ m % 256):=by
  rw [getElem!_def,show (bytesOf l c).data[m]? = some (UInt8.ofNat (c / 256 ^ m % 256)) from by simpa [bytesOf] using h1]
 rw [this];simp
theorem bytesOf_extract (l c lo hi:Nat) (h:hi≤l):(bytesOf l c).extract lo hi = bytesOf (hi - lo) (c / 256 ^ lo):=by
 apply ByteArray.ext;rw [ByteArray.data_extract];show (Array.mk (bl l c)).extract lo hi = Array.mk (bl (hi - lo) (c / 256 ^ lo));apply Array.ext';simp only [Array.toList_extract,List.extract_eq_take_drop];rw [bl_drop,bl_take _ _ _ (by omega)]
theorem bytesOf_mod (l c:Nat):bytesOf l (c % 256 ^ l) = bytesOf l c:=by unfold bytesOf;rw [bl_mod]
theorem bytesOf_app (l c l' c':Nat):bytesOf l c ++ bytesOf l' c' = bytesOf (l + l') (c % 256 ^ l + 256 ^ l * c'):=by
 apply ByteArray.ext;rw [ByteArray.data_append];show Array.mk (bl l c) ++ Array.mk (bl l' c') = Array.mk _;simp [bl_app]
def eqS (l c l' c':Nat):Bool:=match Nat.beq l l' with
 | true=>Nat.beq (Nat.mod c (Nat.pow 256 l)) (Nat.mod c' (Nat.pow 256 l))
 | false=>false
theorem eqS_eq (l c l' c':Nat):eqS l c l' c' = (bytesOf l c == bytesOf l' c'):=by
 unfold eqS;have hb:(bytesOf l c == bytesOf l' c') = decide (bytesOf l c = bytesOf l' c'):=by
  rw [Bool.eq_iff_iff,bytes_beq];simp
 rw [hb];split
 . rename_i h;have h:=Nat.eq_of_beq_eq_true h;subst h;rw [Bool.eq_iff_iff,Nat.beq_eq,decide_eq_true_eq];constructor
   . intro h;have h:c % 256 ^ l = c' % 256 ^ l:=h;rw [← bytesOf_mod l c,h,bytesOf_mod]
   . intro h;exact bl_inj l c c' (by simpa [bytesOf] using h)
 . rename_i h;symm;rw [decide_eq_false_iff_not];intro e;have:=congrArg ByteArray.size e;rw [bytesOf_size,bytesOf_size] at this;subst this;simp at h
inductive C where
 | nilptr | nilmap | nilfunc | niliface
 | unit
 | map (k:Nat)
 | fn (f:Fn) (b:Bool) (cap:List C)
 | iface (t:TypeId) (v:C)
 | fe (n s:Nat) (z:List C) (rows:List (List C)) (i j:Nat)
 | oel (k s i j:Nat)
 | fz (n s:Nat) (full:Bool) (z:List C) (rows:List (List C))
 | tup (vs:List C)
 | agg (cs:List C)
 | nilslice
 | vec (k s lo len:Nat)
 | loc (k off:Nat)
 | str (l c:Nat)
 | bool (b:Bool)
 | int (k:IntKind) (n:Int)
 deriving Inhabited
def lastV:List V→V
 | []=>default
 | [v]=>v
 | _ :: r=>lastV r
def tabz (z:List V) (rows:List (List V)):Nat→Nat→V:=fun i j=>(rows.getD i z).getD j (lastV z)
mutual
def C.v:C→V
 | .bool b=>.bool b
 | .int k n=>.int k n
 | .str l c=>.str (bytesOf l c)
 | .nilptr=>.nilptr | .nilslice=>.nilslice | .nilmap=>.nilmap | .nilfunc=>.nilfunc | .niliface=>.niliface
 | .loc k off=>.loc k off
 | .oel k s i j=>.oel k s i j
 | .vec k s lo len=>.vec k s lo len
 | .fz n s full z rows=>.fz n s full (tabz (C.vs z) (C.vss rows))
 | .fe n s z rows i j=>.fe n s (tabz (C.vs z) (C.vss rows)) i j
 | .map k=>.map k
 | .fn f b cap=>.fn f b (C.vs cap)
 | .iface t v=>.iface t v.v
 | .agg cs=>.agg (C.vs cs)
 | .tup cs=>.tup (C.vs cs)
 | .unit=>.raw (.tuple #[])
def C.vs:List C→List V
 | []=>[]
 | c :: r=>c.v :: C.vs r
def C.vss:List (List C)→List (List V)
 | []=>[]
 | c :: r=>C.vs c :: C.vss r
end
theorem C.vs_map:∀ (l:List C),C.vs l = l.map C.v
 | []=>by simp [C.vs]
 | c :: r=>by simp [C.vs,C.vs_map r]
theorem C.vss_map:∀ (l:List (List C)),C.vss l = l.map C.vs
 | []=>by simp [C.vss]
 | c :: r=>by simp [C.vss,C.vss_map r]
theorem C.vs_length (l:List C):(C.vs l).length = l.length:=by simp [C.vs_map]
theorem C.vs_get (l:List C) (i:Nat):(C.vs l)[i]? = (l[i]?).map C.v:=by simp [C.vs_map]
theorem C.vss_get (l:List (List C)) (i:Nat):(C.vss l)[i]? = (l[i]?).map C.vs:=by simp [C.vss_map]
abbrev CEnv:=List (Nat × C)
inductive CB where
 | cells (cs:List C)
 | vec (n s:Nat) (z:List C) (rows:List (List C))
 | map (ik:IntKind) (es:List (Int × C))
 | mapS (es:List ((Nat × Nat) × C))
 deriving Inhabited
abbrev COwn:=List (Nat × CB)
def CB.b:CB→Blk
 | .cells cs=>.cells (C.vs cs)
 | .vec n s z rows=>.vec n s (tabz (C.vs z) (C.vss rows))
 | .map ik es=>.map (.one ik) (es.map fun p=>(p.1,p.2.v))
 | .mapS es=>.map .str (es.map fun p=>(bytesOf p.1.1 p.1.2,p.2.v))
def envV (e:CEnv):Env:=e.map fun p=>(p.1,p.2.v)
def ownV (o:COwn):Own:=o.map fun p=>(p.1,p.2.b)
theorem look_map {α β:Type} (f:α→β) (l:List (Nat × α)) (t:Nat):look (l.map fun p=>(p.1,f p.2)) t = (look l t).map f:=by
 induction l with
 | nil=>rfl
 | cons p r ih =>
   simp only [List.map_cons,look];cases Nat.beq p.1 t <;> simp [ih]
theorem look_envV {e:CEnv} {t:Nat} {c:C} (h:lk e t = some c):look (envV e) t = some c.v:=by
 rw [lk_eq] at h;rw [envV,look_map,h];rfl
theorem look_ownV {o:COwn} {t:Nat} {c:CB} (h:lk o t = some c):look (ownV o) t = some c.b:=by
 rw [lk_eq] at h;rw [ownV,look_map,h];rfl
def ofV0 (v:V):Option C:=match v with
 | .bool b=>some (.bool b)
 | .int k n=>some (.int k n)
 | .str s=>some (.str s.size (encL s.data.toList))
 | .nilptr=>some .nilptr | .nilslice=>some .nilslice | .nilmap=>some .nilmap | .nilfunc=>some .nilfunc | .niliface=>some .niliface
 | .fn f b []=>some (.fn f b [])
 | _=>none
theorem ofV0_ok {v:V} {c:C} (h:ofV0 v = some c):c.v = v:=by
 unfold ofV0 at h;split at h <;> first
  | (cases h;done)
  | (cases h;simp [C.v,C.vs,bytesOf_enc])
noncomputable def ofVs (l:List V):Option (List C):=@List.rec V (fun _=>Option (List C)) (some []) (fun v _ ih=>match ofV0 v with
 | some c=>match ih with
   | some l=>some (c :: l)
   | none=>none
 | none=>none) l
theorem ofVs_ok:∀ (l:List V) {cs:List C},ofVs l = some cs→C.vs cs = l
 | [],cs,h=>by have h:some [] = some cs:=h;cases h;simp [C.vs]
 | v :: r,cs,h=>by
   have h:(match ofV0 v with
    | some c=>match ofVs r with
      | some l=>some (c :: l)
      | none=>none
    | none=>none) = some cs:=h
   split at h
   . rename_i c hc;split at h
     . rename_i l hl;cases h;simp [C.vs,ofV0_ok hc,ofVs_ok r hl]
     . cases h
   . cases h
noncomputable def ofV (v:V):Option C:=match v with
 | .agg cs=>match ofVs cs with | some l=>some (.agg l) | none=>none
 | v=>ofV0 v
theorem ofV_ok (v:V) {c:C} (h:ofV v = some c):c.v = v:=by
 unfold ofV at h;split at h
 . split at h
   . rename_i l hl;cases h;simp [C.v,ofVs_ok _ hl]
   . cases h
 . exact ofV0_ok h
end Go.Eng
namespace Go.Eng
open Go.IntWalk
noncomputable def gx (x:X) (env:CEnv):Option C:=match x with | .t n=>lk env n | .k v=>ofV v
theorem gx_ok {x:X} {env:CEnv} {c:C} {K:V→Prop} (h:gx x env = some c) (hK:K c.v):x.get (envV env) K:=by
 cases x with
 | t n=>simp only [gx] at h;simp only [X.get,look_envV h];exact hK
 | k v=>simp only [gx] at h;rw [ofV_ok v h] at hK;exact hK
noncomputable def gxs (env:CEnv) (l:List X):Option (List C):=@List.rec X (fun _=>Option (List C)) (some []) (fun x _ ih=>match gx x env with
 | some c=>match ih with | some l=>some (c :: l) | none=>none
 | none=>none) l
theorem gxs_cons (env:CEnv) (x:X) (r:List X):gxs env (x :: r) = match gx x env with
 | some c=>match gxs env r with | some l=>some (c :: l) | none=>none
 | none=>none:=rfl
theorem gxs_ok {env:CEnv}:∀ {xs:List X} {cs:List C} {K:List V→Prop},gxs env xs = some cs→K (C.vs cs)→X.gets (envV env) xs K
 | [],cs,K,h,hK=>by have h:some [] = some cs:=h;cases h;simpa [C.vs,X.gets] using hK
 | x :: r,cs,K,h,hK=>by
   rw [gxs_cons] at h;split at h
   . rename_i c hc;split at h
     . rename_i l hl;cases h;exact gx_ok hc (gxs_ok hl (by simpa [C.vs] using hK))
     . cases h
   . cases h
theorem cmp_ok {b:Bool} {K:V→Prop} (hK:K (.bool b)):cmpK b K:=by
 cases b
 . exact ⟨fun h=>(by cases h),fun _=>hK⟩
 . exact ⟨fun _=>hK,fun h=>(by cases h)⟩
noncomputable def cmpC (b:Bool):Option C:=fB b fun b=>some (.bool b)
theorem cmpC_ok {b:Bool} {c:C} {K:V→Prop} (h:cmpC b = some c) (hK:K c.v):cmpK b K:=by
 simp only [cmpC,fB_eq,Option.some.injEq] at h;subst h;exact cmp_ok (by simpa [C.v] using hK)
def kEq (a b:IntKind):Bool:=Nat.beq a.ctorIdx b.ctorIdx
theorem kEq_ok {a b:IntKind} (h:kEq a b = true):a = b:=by cases a <;> cases b <;> first | rfl | (exact absurd h (by decide))
def mxN:IntKind→Nat
 | .i8=>127 | .i16=>32767 | .i32=>2147483647 | .i64=>9223372036854775807
 | .u8=>255 | .u16=>65535 | .u32=>4294967295 | .u64=>18446744073709551615
def wrC (k:IntKind) (n:Int):Int:=match n with
 | .ofNat m=>match Nat.ble m (mxN k) with | true=>.ofNat m | false=>k.wrap (.ofNat m)
 | .negSucc m=>k.wrap (.negSucc m)
theorem wrC_eq (k:IntKind) (n:Int):wrC k n = k.wrap n:=by
 unfold wrC;split
 . split
   . rename_i h;have h:=Nat.le_of_ble_eq_true h;symm;rw [Int.ofNat_eq_natCast];cases k <;> simp only [mxN] at h
     . exact i8_in _ (by omega)
     . exact i16_in _ (by omega)
     . exact i32_in _ (by omega)
     . exact i64_in _ (by omega)
     . exact u8_in _ (by omega)
     . exact u16_in _ (by omega)
     . exact u32_in _ (by omega)
     . exact u64_in _ (by omega)
   . rfl
 . rfl
noncomputable def arC (k:IntKind) (n:Int):Option C:=fI (wrC k n) fun m=>some (.int k m)
theorem arC_ok {k:IntKind} {n:Int} {c:C} {K:V→Prop} (h:arC k n = some c) (hK:K c.v):Ar k n fun m=>K (.int k m):=by
 simp only [arC,fI_eq,wrC_eq,Option.some.injEq] at h;subst h;exact ⟨_,rfl,by simpa [C.v] using hK⟩
noncomputable def svC (k:IntKind) (n:Int):Option C:=fI n fun m=>some (.int k m)
theorem svC_ok {k:IntKind} {n:Int} {c:C} {K:V→Prop} (h:svC k n = some c) (hK:K c.v):Sv n fun m=>K (.int k m):=by
 simp only [svC,fI_eq,Option.some.injEq] at h;subst h;exact ⟨_,rfl,by simpa [C.v] using hK⟩
def ieq:Int→Int→Bool
 | .ofNat a,.ofNat b=>Nat.beq a b
 | .negSucc a,.negSucc b=>Nat.beq a b
 | _,_=>false
theorem ieq_eq (a b:Int):ieq a b = (a == b):=by
 rw [Bool.eq_iff_iff,beq_iff_eq];cases a <;> cases b <;> simp [ieq] <;> omega
def ile:Int→Int→Bool
 | .ofNat a,.ofNat b=>Nat.ble a b
 | .negSucc a,.negSucc b=>Nat.ble b a
 | .negSucc _,.ofNat _=>true
 | .ofNat _,.negSucc _=>false
theorem ile_eq (a b:Int):ile a b = decide (a≤b):=by
 rw [Bool.eq_iff_iff,decide_eq_true_eq];cases a <;> cases b <;> simp [ile] <;> omega
noncomputable def cint (op:BinOp) (k:IntKind) (a b:Int):Option C :=
 match op with
 | .add=>arC k (Int.add a b)
 | .sub=>arC k (Int.sub a b)
 | .mul=>arC k (Int.mul a b)
 | .quo=>match ieq b 0 with | true=>none | false=>arC k (a.tdiv b)
 | .rem=>match ieq b 0 with | true=>none | false=>svC k (a.tmod b)
 | .and=>svC k (bitI .and k a b)
 | .or=>svC k (bitI .or k a b)
 | .xor=>svC k (bitI .xor k a b)
 | .andNot=>svC k (bitI .andNot k a b)
 | .eql=>cmpC (ieq a b)
 | .neq=>cmpC (!(ieq a b))
 | .lss=>cmpC (!(ile b a))
 | .leq=>cmpC (ile a b)
 | .gtr=>cmpC (!(ile a b))
 | .geq=>cmpC (ile b a)
 | _=>none
theorem cint_ok {bt:BT} {op:BinOp} {k:IntKind} {a b:Int} {c:C} {K:V→Prop} (h:cint op k a b = some c) (hK:K c.v):vbin bt op (.int k a) (.int k b) K:=by
 unfold cint at h;cases op <;> simp only [vbin,decide_true] <;> simp only at h
 case add=>exact arC_ok h hK
 case sub=>exact arC_ok h hK
 case mul=>exact arC_ok h hK
 case quo =>
  split at h
  . cases h
  . rename_i hb;rw [ieq_eq] at hb;exact ⟨by simpa using hb,arC_ok h hK⟩
 case rem =>
  split at h
  . cases h
  . rename_i hb;rw [ieq_eq] at hb;exact ⟨by simpa using hb,svC_ok h hK⟩
 case and=>exact svC_ok h hK
 case or=>exact svC_ok h hK
 case xor=>exact svC_ok h hK
 case andNot=>exact svC_ok h hK
 case eql=>rw [ieq_eq] at h;exact cmpC_ok h hK
 case neq=>rw [ieq_eq] at h;exact cmpC_ok h hK
 case lss =>
  rw [ile_eq] at h;rw [show decide (a < b) = !decide (b≤a) by rw [Bool.eq_iff_iff];simp];exact cmpC_ok h hK
 case leq=>rw [ile_eq] at h;exact cmpC_ok h hK
 case gtr =>
  rw [ile_eq] at h;rw [show decide (a > b) = !decide (a≤b) by rw [Bool.eq_iff_iff];simp];exact cmpC_ok h hK
 case geq =>
  rw [ile_eq] at h;exact cmpC_ok h hK
 case shl=>cases h
 case shr=>cases h
noncomputable def strC (l c:Nat):Option C:=fN l fun l=>fN c fun c=>some (.str l c)
theorem strC_ok {l d:Nat} {c:C} (h:strC l d = some c):c.v = .str (bytesOf l d):=by
 simp only [strC,fN_eq,Option.some.injEq] at h;subst h;simp [C.v]
noncomputable def b_int2 (op:BinOp) (k:IntKind) (a:Int) (k':IntKind) (b:Int):Option C:=match op with
 | .shl=>match b with | .ofNat n=>arC k (a * 2 ^ (min n k.bits)) | .negSucc _=>none
 | .shr=>match b with | .ofNat n=>svC k (a.fdiv (2 ^ (min n k.bits))) | .negSucc _=>none
 | op=>match kEq k k' with | true=>cint op k a b | false=>none
noncomputable def b_int (op:BinOp) (k:IntKind) (a:Int) (y:C):Option C:=match y with
 | .int k' b=>b_int2 op k a k' b
 | _=>none
noncomputable def b_str2 (op:BinOp) (l c l' c':Nat):Option C:=match op with
 | .eql=>cmpC (eqS l c l' c')
 | .neq=>cmpC (!(eqS l c l' c'))
 | .add=>match Nat.ble (l + l') 9223372036854775807 with
   | true=>strC (l + l') (Nat.add (Nat.mod c (Nat.pow 256 l)) (Nat.mul (Nat.pow 256 l) c'))
   | false=>none
 | _=>none
noncomputable def b_str (op:BinOp) (l c:Nat) (y:C):Option C:=match y with
 | .str l' c'=>b_str2 op l c l' c'
 | _=>none
noncomputable def b_bool (bt:BT) (op:BinOp) (a:Bool) (y:C):Option C:=match y with
 | .bool b=>match bt with
   | .bool=>match op with
     | .eql=>cmpC (a == b)
     | .neq=>cmpC (!(a == b))
     | _=>none
   | _=>none
 | _=>none
def b_slc (bt:BT) (op:BinOp) (n:Nat) (y:C):Option C:=match n with
 | 0=>none
 | _ + 1=>match y with
   | .nilslice=>match bt with
     | .slc=>match op with
       | .eql=>some (.bool false)
       | .neq=>some (.bool true)
       | _=>none
     | _=>none
   | _=>none
def b_nil (bt:BT) (op:BinOp) (y:C):Option C:=match y with
 | .nilslice=>match bt with
   | .slc=>match op with
     | .eql=>some (.bool true)
     | .neq=>some (.bool false)
     | _=>none
   | _=>none
 | _=>none
def andO (b:Bool) (o:Option Bool):Option Bool:=match o with
 | some t=>some (b && t)
 | none=>none
theorem andO_some {b t:Bool} {o:Option Bool} (h:andO b o = some t):∃ u,o = some u∧t = (b && u):=by
 cases o with
 | none=>cases h
 | some u=>exact ⟨u,rfl,(Option.some.inj h).symm⟩
noncomputable def eqFC:List Lf→List C→List C→Option Bool
 | [],[],[]=>some true
 | .int :: ls,.int k a :: r,.int k' b :: r'=>match kEq k k' with
   | true=>andO (ieq a b) (eqFC ls r r')
   | false=>none
 | .bool :: ls,.bool a :: r,.bool b :: r'=>andO (a == b) (eqFC ls r r')
 | .str :: ls,.str l c :: r,.str l' c' :: r'=>andO (eqS l c l' c') (eqFC ls r r')
 | _,_,_=>none
theorem eqFC_ok:∀ (ls:List Lf) (xs ys:List C) (t:Bool) (K:Bool→Prop),eqFC ls xs ys = some t→K t→eqLK ls (C.vs xs) (C.vs ys) K
 | [],[],[],t,K,h,hK=>by
   simp only [eqFC,Option.some.injEq] at h;subst h;simpa only [C.vs,eqLK] using hK
 | .int :: ls,.int k a :: r,.int k' b :: r',t,K,h,hK=>by
   simp only [eqFC] at h;split at h
   . rename_i hk;have:=kEq_ok hk;subst this;obtain ⟨u,e1,rfl⟩:=andO_some h;simp only [C.vs,C.v,eqLK,decide_true];exact eqFC_ok ls r r' u _ e1 (by rw [← ieq_eq];exact hK)
   . cases h
 | .bool :: ls,.bool a :: r,.bool b :: r',t,K,h,hK=>by
   simp only [eqFC] at h;obtain ⟨u,e1,rfl⟩:=andO_some h;simp only [C.vs,C.v,eqLK];exact eqFC_ok ls r r' u _ e1 hK
 | .str :: ls,.str l c :: r,.str l' c' :: r',t,K,h,hK=>by
   simp only [eqFC] at h;obtain ⟨u,e1,rfl⟩:=andO_some h;simp only [C.vs,C.v,eqLK];exact eqFC_ok ls r r' u _ e1 (by rw [← eqS_eq];exact hK)
 | [],_ :: _,_,_,_,h,_=>by simp [eqFC] at h
 | [],[],_ :: _,_,_,h,_=>by simp [eqFC] at h
 | _ :: _,[],_,_,_,h,_=>by simp [eqFC] at h
 | _ :: _,_ :: _,[],_,_,h,_=>by simp [eqFC] at h
noncomputable def b_agg (bt:BT) (op:BinOp) (xs:List C) (y:C):Option C:=match y with
 | .agg ys=>match bt with
   | .flat ls=>match op with
     | .eql=>match eqFC ls xs ys with | some t=>cmpC t | none=>none
     | .neq=>match eqFC ls xs ys with | some t=>cmpC (!t) | none=>none
     | _=>none
   | _=>none
 | _=>none
noncomputable def cbin (bt:BT) (op:BinOp) (x y:C):Option C :=
 match x with
 | .agg xs=>b_agg bt op xs y
 | .int k a=>b_int op k a y
 | .str l c=>b_str op l c y
 | .bool a=>b_bool bt op a y
 | .fz n _ _ _ _=>b_slc bt op n y
 | .vec _ _ _ n=>b_slc bt op n y
 | .nilslice=>b_nil bt op y
 | _=>none
theorem cbin_ok {bt:BT} {op:BinOp} {x y c:C} {K:V→Prop} (h:cbin bt op x y = some c) (hK:K c.v):vbin bt op x.v y.v K:=by
 unfold cbin at h;split at h
 . unfold b_agg at h;split at h
   . split at h
     . simp only [C.v,vbin];split at h
       . split at h
         . rename_i t ht;exact eqFC_ok _ _ _ t _ ht (cmpC_ok h hK)
         . cases h
       . split at h
         . rename_i t ht;exact eqFC_ok _ _ _ t _ ht (cmpC_ok h hK)
         . cases h
       . cases h
     . cases h
   . cases h
 . unfold b_int at h;split at h
   . rename_i k a _ k' b;unfold b_int2 at h;simp only [C.v];split at h
     . split at h
       . rename_i n;simp only [vbin];refine ⟨by simp,?_⟩;have e:(Int.ofNat n).toNat = n:=rfl;rw [e];exact arC_ok h hK
       . cases h
     . split at h
       . rename_i n;simp only [vbin];refine ⟨by simp,?_⟩;have e:(Int.ofNat n).toNat = n:=rfl;rw [e];exact svC_ok h hK
       . cases h
     . split at h
       . rename_i hk;have:=kEq_ok hk;subst this;exact cint_ok h hK
       . cases h
   . cases h
 . unfold b_str at h;split at h
   . unfold b_str2 at h;simp only [C.v,vbin];split at h
     . rw [eqS_eq] at h;exact cmpC_ok h hK
     . rw [eqS_eq] at h;exact cmpC_ok h hK
     . split at h
       . rename_i l c _ l' c' hle;rw [bytesOf_size,bytesOf_size];refine ⟨fun _=>?_,fun hf=>?_⟩
         . rw [bytesOf_app];rw [strC_ok h] at hK;exact hK
         . have:=Nat.le_of_ble_eq_true hle;simp [this] at hf
       . cases h
     . cases h
   . cases h
 . unfold b_bool at h;split at h
   . split at h
     . split at h
       . simp only [C.v,vbin];exact cmpC_ok h hK
       . simp only [C.v,vbin];exact cmpC_ok h hK
       . cases h
     . cases h
   . cases h
 . unfold b_slc at h;split at h
   . cases h
   . split at h
     . split at h
       . split at h
         . cases h;simp only [C.v,vbin];exact ⟨fun e=>(by cases e),fun _=>(by simpa [C.v] using hK)⟩
         . cases h;simp only [C.v,vbin];exact ⟨fun e=>(by cases e),fun _=>(by simpa [C.v] using hK)⟩
         . cases h
       . cases h
     . cases h
 . unfold b_slc at h;split at h
   . cases h
   . split at h
     . split at h
       . split at h
         . cases h;simp only [C.v,vbin];exact ⟨fun e=>(by cases e),fun _=>(by simpa [C.v] using hK)⟩
         . cases h;simp only [C.v,vbin];exact ⟨fun e=>(by cases e),fun _=>(by simpa [C.v] using hK)⟩
         . cases h
       . cases h
     . cases h
 . unfold b_nil at h;split at h
   . split at h
     . split at h
       . cases h;simp only [C.v,vbin];simpa [C.v] using hK
       . cases h;simp only [C.v,vbin];simpa [C.v] using hK
       . cases h
     . cases h
   . cases h
 . cases h
noncomputable def cbd (x:Option X) (env:CEnv) (d n:Nat):Option Nat:=match x with
 | none=>some d
 | some x=>match gx x env with
   | some (.int _ (.ofNat m))=>match Nat.ble m n with | true=>some m | false=>none
   | _=>none
theorem cbd_ok {x:Option X} {env:CEnv} {d n m:Nat} {K:Nat→Prop} (h:cbd x env d n = some m) (hK:K m):bdK x (envV env) d n K:=by
 unfold cbd at h;split at h
 . cases h;exact hK
 . split at h
   . rename_i hx;split at h
     . rename_i hb;cases h;refine gx_ok hx ?_;simp only [C.v];exact ⟨_,rfl,Nat.le_of_ble_eq_true hb,hK⟩
     . cases h
   . cases h
theorem shiftF_tabz (l:Nat) (z:List V) (rows:List (List V)):shiftF l (tabz z rows) = tabz z (rows.drop l):=by
 funext i j;rw [shiftF_eq];simp [tabz,List.getD_eq_getElem?_getD]
theorem shiftF_tabzC (l:Nat) (z:List C) (rows:List (List C)):shiftF l (tabz (C.vs z) (C.vss rows)) = tabz (C.vs z) (C.vss (rows.drop l)):=by
 rw [shiftF_tabz,C.vss_map,C.vss_map,List.map_drop]
noncomputable def cslc (own:COwn) (s:Nat) (x:X) (lo hi:Option X) (env:CEnv):Option C :=
 match gx x env with
 | some (.fz n s' full z rows)=>match Nat.beq s s' with
   | true=>match cbd hi env n n with
     | some h=>match cbd lo env 0 h with
       | some l=>fN (h - l) fun m=>fH (dr rows l) fun q=>some (.fz m s (match hi with | none=>full | some _=>false) z q)
       | none=>none
     | none=>none
   | false=>none
 | some .nilslice=>match cbd hi env 0 0 with
   | some h=>match cbd lo env 0 h with
     | some _=>some .nilslice
     | none=>none
   | none=>none
 | some (.vec k s' lo0 len)=>match Nat.beq s s' with
   | true=>match lk own k with
     | some (.vec n _ _ _)=>match Nat.ble (lo0 + len) n with
       | true=>match cbd hi env len (n - lo0) with
         | some h=>match cbd lo env 0 h with
           | some l=>fN (lo0 + l) fun a=>fN (h - l) fun b=>some (.vec k s a b)
           | none=>none
         | none=>none
       | false=>none
     | _=>match cbd hi env len len with
        | some h=>match cbd lo env 0 h with
          | some l=>fN (lo0 + l) fun a=>fN (h - l) fun b=>some (.vec k s a b)
          | none=>none
        | none=>none
   | false=>none
 | _=>none
theorem cslc_ok {own:COwn} {s:Nat} {x:X} {lo hi:Option X} {same:Bool} {env:CEnv} {c:C} {K:V→Prop} (h:cslc own s x lo hi env = some c) (hK:K c.v):vslc (ownV own) s x lo hi none same (envV env) K:=by
 unfold cslc at h;unfold vslc;split at h
 . rename_i n s' full z rows hx;refine gx_ok hx ?_;simp only [C.v];split at h
   . rename_i hs;simp only [hs];split at h
     . rename_i hh e1;split at h
       . rename_i ll e2;refine cbd_ok e1 (cbd_ok e2 ?_);simp only [fN_eq,fH_eq,dr_eq,Option.some.injEq] at h;subst h;rw [shiftF_tabzC];simp only [C.v] at hK;exact hK
       . cases h
     . cases h
   . cases h
 . rename_i hx;refine gx_ok hx ?_;simp only [C.v];split at h
   . rename_i hh e1;split at h
     . rename_i ll e2;cases h;exact cbd_ok e1 (cbd_ok e2 (by simpa [C.v] using hK))
     . cases h
   . cases h
 . rename_i k s' lo0 len hx;refine gx_ok hx ?_;simp only [C.v];split at h
   . rename_i hs;simp only [hs];split at h
     . rename_i n s'' z rows hl;rw [look_ownV hl];simp only [CB.b];split at h
       . rename_i hle;refine ⟨fun _=>?_,fun hf=>by rw [hle] at hf;cases hf⟩;split at h
         . rename_i hh e1;split at h
           . rename_i ll e2;refine cbd_ok e1 (cbd_ok e2 ?_);simp only [fN_eq,Option.some.injEq] at h;subst h;simpa [C.v] using hK
           . cases h
         . cases h
       . cases h
     . rename_i hne;have key:∀ {A:Nat→Nat→(Nat→Nat→V)→Prop} {B:Prop},B→(match look (ownV own) k with | some (.vec n s f)=>A n s f | _=>B):=by
        intro A B hB;rw [ownV,look_map,← lk_eq];cases hl:lk own k with
        | none=>exact hB
        | some b=>cases b with
          | vec n s z rows=>exact (hne n s z rows hl).elim
          | _=>exact hB
       refine key ?_;split at h
       . rename_i hh e1;split at h
         . rename_i ll e2;refine cbd_ok e1 (cbd_ok e2 ?_);simp only [fN_eq,Option.some.injEq] at h;subst h;simpa [C.v] using hK
         . cases h
       . cases h
   . cases h
 . cases h
noncomputable def cslc3 (s:Nat) (x:X) (lo:Option X) (hi mx:X) (same:Bool) (env:CEnv):Option C :=
 match gx x env with
 | some (.fz n s' _ z rows)=>match Nat.beq s s' with
   | true=>match cbd (some mx) env n n with
     | some m=>match cbd (some hi) env n m with
       | some h=>match cbd lo env 0 h with
         | some l=>fN (h - l) fun m=>fH (dr rows l) fun q=>some (.fz m s same z q)
         | none=>none
       | none=>none
     | none=>none
   | false=>none
 | _=>none
theorem cslc3_ok {own:Own} {s:Nat} {x:X} {lo:Option X} {hi mx:X} {same:Bool} {env:CEnv} {c:C} {K:V→Prop} (h:cslc3 s x lo hi mx same env = some c) (hK:K c.v):vslc own s x lo (some hi) (some mx) same (envV env) K:=by
 unfold cslc3 at h;unfold vslc;split at h
 . rename_i n s' full z rows hx;refine gx_ok hx ?_;simp only [C.v];split at h
   . rename_i hs;simp only [hs];split at h
     . rename_i m e0;split at h
       . rename_i hh e1;split at h
         . rename_i ll e2;refine cbd_ok e0 (cbd_ok e1 (cbd_ok e2 ?_));simp only [fN_eq,fH_eq,dr_eq,Option.some.injEq] at h;subst h;rw [shiftF_tabzC];simp only [C.v] at hK;exact hK
         . cases h
       . cases h
     . cases h
   . cases h
 . cases h
def cix (i:Int) (n:Nat):Option Nat:=match i with
 | .ofNat m=>match Nat.blt m n with | true=>some m | false=>none
 | .negSucc _=>none
theorem cix_ok {i:Int} {n m:Nat} {K:Nat→Prop} (h:cix i n = some m) (hK:K m):Ix i n K:=by
 unfold cix at h;split at h
 . split at h
   . rename_i hb;cases h;exact ⟨m,rfl,Nat.le_of_ble_eq_true hb,hK⟩
   . cases h
 . cases h
theorem takeK_ok {α:Type}:∀ (l:List α) (o n:Nat) (K:List α→Prop),n≤(l.drop o).length→K ((l.drop o).take n)→takeK l o n K
 | l,o,0,K,_,h=>by cases l <;> cases o <;> simpa [takeK] using h
 | [],o,n + 1,K,hl,h=>by simp at hl
 | x :: r,0,n + 1,K,hl,h=>by
   simp only [takeK];exact takeK_ok r 0 n _ (by simpa using hl) (by simpa using h)
 | x :: r,o + 1,n + 1,K,hl,h=>by
   simp only [takeK];exact takeK_ok r o (n + 1) _ (by simpa using hl) (by simpa using h)
noncomputable def aggC (l:List C) (o n:Nat):Option C:=tk n (dr l o) fun q=>some (.agg q)
theorem aggC_ok {l:List C} {o n:Nat} {c:C} {K:V→Prop} (h:aggC l o n = some c) (hK:K c.v):takeK (C.vs l) o n fun l=>K (.agg l):=by
 unfold aggC at h;rw [tk_eq,dr_eq] at h;split at h
 . rename_i hl;cases h;refine takeK_ok _ _ _ _ (by simpa [C.vs_map] using hl) ?_;simp only [C.v,C.vs_map] at hK;simpa [C.vs_map] using hK
 . cases h
theorem nth_vs {l:List C} {i:Nat} {c:C} (h:nt l i = some c):nth (C.vs l) i = some c.v:=by
 rw [nt_eq,nth_get] at h;rw [nth_get,C.vs_get,h];rfl
noncomputable def p_mv (x:X) (env:CEnv):Option C:=gx x env
noncomputable def p_fld (off:Nat) (x:X) (env:CEnv):Option C:=match gx x env with
 | some (.loc k o)=>fN (o + off) fun m=>some (.loc k m)
 | some (.oel k s i j)=>fN (j + off) fun m=>some (.oel k s i m)
 | some (.fe n s z rows i j)=>fN (j + off) fun m=>some (.fe n s z rows i m)
 | _=>none
noncomputable def p_nilchk (x:X) (env:CEnv):Option C:=match gx x env with
 | some (.loc k o)=>some (.loc k o)
 | some (.oel k s i j)=>some (.oel k s i j)
 | some (.fe n s z rows i j)=>some (.fe n s z rows i j)
 | some (.iface t v)=>some (.iface t v)
 | _=>none
noncomputable def p_bin (bt:BT) (op:BinOp) (x:X) (y:X) (env:CEnv):Option C:=match gx x env with
 | some a=>match gx y env with
   | some b=>cbin bt op a b
   | none=>none
 | none=>none
noncomputable def p_pick (c:X) (a:X) (b:X) (env:CEnv):Option C:=match gx c env with
 | some (.bool true)=>gx a env
 | some (.bool false)=>gx b env
 | _=>none
noncomputable def p_slcs (x:X) (lo:Option X) (hi:Option X) (env:CEnv):Option C:=match gx x env with
 | some (.str l c)=>match cbd hi env l l with
   | some h=>match cbd lo env 0 h with
     | some a=>strC (h - a) (Nat.mod (Nat.div c (Nat.pow 256 a)) (Nat.pow 256 (h - a)))
     | none=>none
   | none=>none
 | _=>none
noncomputable def p_ixstr (x:X) (i:X) (env:CEnv):Option C:=match gx x env with
 | some (.str l c)=>match gx i env with
   | some (.int _ i)=>match cix i l with
     | some m=>fN (Nat.mod (Nat.div c (Nat.pow 256 m)) 256) fun b=>some (.int .u8 (.ofNat b))
     | none=>none
   | _=>none
 | _=>none
noncomputable def p_mkfn (f:Fn) (b:Bool) (cap:List X) (env:CEnv):Option C:=match gxs env cap with
 | some l=>some (.fn f b l)
 | none=>none
noncomputable def p_un (op:UnOp) (x:X) (env:CEnv):Option C:=match gx x env with
 | some (.bool b)=>match op with
   | .not=>match b with | true=>some (.bool false) | false=>some (.bool true)
   | _=>none
 | some (.int k n)=>match op with
   | .neg=>arC k (0 - n)
   | .xor=>svC k (bitI .xor k (if k.signed then -1 else k.max) n)
   | _=>none
 | _=>none
noncomputable def p_toint (k:IntKind) (x:X) (env:CEnv):Option C:=match gx x env with
 | some (.int _ n)=>arC k n
 | _=>none
noncomputable def p_sel (off:Nat) (sz:Option Nat) (x:X) (env:CEnv):Option C:=match gx x env with
 | some (.agg cs)=>match sz with
   | none=>nt cs off
   | some n=>aggC cs off n
 | _=>none
noncomputable def p_ixs (s:Nat) (x:X) (i:X) (env:CEnv):Option C:=match gx x env with
 | some (.fz n s' _ z rows)=>match Nat.beq s s' with
   | true=>match gx i env with
     | some (.int _ i)=>match cix i n with
       | some m=>some (.fe n s z rows m 0)
       | none=>none
     | _=>none
   | false=>none
 | some (.vec k s' lo len)=>match Nat.beq s s' with
   | true=>match gx i env with
     | some (.int _ i)=>match cix i len with
       | some m=>fN (lo + m) fun m=>some (.oel k s m 0)
       | none=>none
     | _=>none
   | false=>none
 | _=>none
noncomputable def p_ixa (n:Nat) (s:Nat) (x:X) (i:X) (env:CEnv):Option C:=match gx x env with
 | some (.loc k o)=>match gx i env with
   | some (.int _ i)=>match cix i n with
     | some m=>fN (o + m * s) fun m=>some (.loc k m)
     | none=>none
   | _=>none
 | some (.fe n' s' z rows i0 j0)=>match gx i env with
   | some (.int _ i)=>match cix i n with
     | some m=>fN (j0 + m * s) fun m=>some (.fe n' s' z rows i0 m)
     | none=>none
   | _=>none
 | some (.oel k s' i0 j0)=>match Nat.beq s s',i0,j0 with
   | true,0,0=>match gx i env with
     | some (.int _ i)=>match cix i n with
       | some m=>some (.oel k s m 0)
       | none=>none
     | _=>none
   | _,_,_=>match gx i env with
     | some (.int _ i)=>match cix i n with
       | some m=>fN (j0 + m * s) fun j=>some (.oel k s' i0 j)
       | none=>none
     | _=>none
 | _=>none
noncomputable def p_ext (x:X) (i:Nat) (env:CEnv):Option C:=match gx x env with
 | some (.tup vs)=>nt vs i
 | _=>none
noncomputable def p_len (x:X) (env:CEnv):Option C:=match gx x env with
 | some (.fz n _ _ _ _)=>some (.int .i64 (.ofNat n))
 | some (.vec _ _ _ n)=>some (.int .i64 (.ofNat n))
 | some .nilslice=>some (.int .i64 0)
 | _=>none
noncomputable def p_lens (x:X) (env:CEnv):Option C:=match gx x env with
 | some (.str l _)=>some (.int .i64 (.ofNat l))
 | _=>none
noncomputable def p_mn (x:X) (y:X) (env:CEnv):Option C:=match gx x env with
 | some (.int k a)=>match gx y env with
   | some (.int _ b)=>match ile a b with
     | true=>some (.int k a)
     | false=>some (.int k b)
   | _=>none
 | _=>none
noncomputable def p_mx (x:X) (y:X) (env:CEnv):Option C:=match gx x env with
 | some (.int k a)=>match gx y env with
   | some (.int _ b)=>match ile b a with
     | true=>some (.int k a)
     | false=>some (.int k b)
   | _=>none
 | _=>none
noncomputable def cpure (o:POp) (env:CEnv):Option C :=
 match o with
 | .slc _ _ _ _ _ _=>none
 | .mv x=>p_mv x env
 | .fld off x=>p_fld off x env
 | .nilchk x=>p_nilchk x env
 | .bin bt op x y=>p_bin bt op x y env
 | .pick c a b=>p_pick c a b env
 | .slcs x lo hi=>p_slcs x lo hi env
 | .ixstr x i=>p_ixstr x i env
 | .mkfn f b cap=>p_mkfn f b cap env
 | .un op x=>p_un op x env
 | .toint k x=>p_toint k x env
 | .sel off sz x=>p_sel off sz x env
 | .ixs s x i=>p_ixs s x i env
 | .ixa n s x i=>p_ixa n s x i env
 | .ext x i=>p_ext x i env
 | .len x=>p_len x env
 | .lens x=>p_lens x env
 | .mn x y=>p_mn x y env
 | .mx x y=>p_mx x y env
theorem cpure_ok {o:POp} {env:CEnv} {c:C} {K:V→Prop} (h:cpure o env = some c) (hK:K c.v):vpure o (envV env) K:=by
 cases o with
 | slc=>cases h
 | mv x=>simp only [cpure,p_mv] at h;exact gx_ok h hK
 | fld off x =>
   simp only [cpure,p_fld] at h;simp only [vpure];split at h <;> first
    | (cases h;done)
    | (rename_i hx
       refine gx_ok hx ?_;simp only [C.v];simp only [fN_eq,Option.some.injEq] at h;subst h;simpa only [C.v] using hK)
 | nilchk x =>
   simp only [cpure,p_nilchk] at h;simp only [vpure];split at h <;> first
    | (cases h;done)
    | (rename_i hx
       refine gx_ok hx ?_;cases h;simpa only [C.v] using hK)
 | bin bt op x y =>
   simp only [cpure,p_bin] at h;simp only [vpure];split at h
   . rename_i a ha;split at h
     . rename_i b hb;exact gx_ok ha (gx_ok hb (cbin_ok h hK))
     . cases h
   . cases h
 | pick c a b =>
   simp only [cpure,p_pick] at h;simp only [vpure];split at h
   . rename_i hc;refine gx_ok hc ?_;simp only [C.v];exact gx_ok h hK
   . rename_i hc;refine gx_ok hc ?_;simp only [C.v];exact gx_ok h hK
   . cases h
 | slcs x lo hi =>
   simp only [cpure,p_slcs] at h;simp only [vpure];split at h
   . rename_i l d hx;refine gx_ok hx ?_;simp only [C.v,bytesOf_size];split at h
     . rename_i hh e1;split at h
       . rename_i a e2;have hle:hh≤l:=by
          unfold cbd at e1;split at e1
          . cases e1;exact Nat.le_refl _
          . split at e1
            . split at e1
              . rename_i hb;cases e1;exact Nat.le_of_ble_eq_true hb
              . cases e1
            . cases e1
         refine cbd_ok e1 (cbd_ok e2 ?_);rw [bytesOf_extract _ _ _ _ hle,← bytesOf_mod];rw [strC_ok h] at hK;exact hK
       . cases h
     . cases h
   . cases h
 | ixstr x i =>
   simp only [cpure,p_ixstr] at h;simp only [vpure];split at h
   . rename_i l d hx;split at h
     . rename_i k n hi;refine gx_ok hx (gx_ok hi ?_);simp only [C.v,bytesOf_size];split at h
       . rename_i m hm;refine cix_ok hm ?_;have hlt:m < l:=by
          unfold cix at hm;split at hm
          . split at hm
            . rename_i hb;cases hm;exact Nat.le_of_ble_eq_true hb
            . cases hm
          . cases hm
         simp only [fN_eq,Option.some.injEq] at h;subst h;rw [bytesOf_get _ _ _ hlt];simp only [C.v] at hK;exact hK
       . cases h
     . cases h
   . cases h
 | mkfn f b cap =>
   simp only [cpure,p_mkfn] at h;simp only [vpure];split at h
   . rename_i l hl;cases h;exact gxs_ok hl (by simpa only [C.v] using hK)
   . cases h
 | un op x =>
   simp only [cpure,p_un] at h;simp only [vpure];split at h
   . rename_i b hx;refine gx_ok hx ?_;simp only [C.v];split at h
     . split at h
       . cases h;simpa only [C.v] using hK
       . cases h;simpa only [C.v] using hK
     . cases h
   . rename_i k n hx;refine gx_ok hx ?_;simp only [C.v];split at h
     . exact arC_ok h hK
     . exact svC_ok h hK
     . cases h
   . cases h
 | toint k x =>
   simp only [cpure,p_toint] at h;simp only [vpure];split at h
   . rename_i hx;refine gx_ok hx ?_;simp only [C.v];exact arC_ok h hK
   . cases h
 | sel off sz x =>
   simp only [cpure,p_sel] at h;simp only [vpure];split at h
   . rename_i cs hx;refine gx_ok hx ?_;simp only [C.v];split at h
     . rw [nth_vs h];exact hK
     . exact aggC_ok h hK
   . cases h
 | ixs s x i =>
   simp only [cpure,p_ixs] at h;simp only [vpure];split at h
   . rename_i n s' full z rows hx;split at h
     . rename_i hs;split at h
       . rename_i hi;refine gx_ok hx (gx_ok hi ?_);simp only [C.v,hs];split at h
         . rename_i hm;cases h;exact cix_ok hm (by simpa only [C.v] using hK)
         . cases h
       . cases h
     . cases h
   . rename_i k s' lo len hx;split at h
     . rename_i hs;split at h
       . rename_i hi;refine gx_ok hx (gx_ok hi ?_);simp only [C.v,hs];split at h
         . rename_i hm;simp only [fN_eq,Option.some.injEq] at h;subst h;exact cix_ok hm (by simpa only [C.v] using hK)
         . cases h
       . cases h
     . cases h
   . cases h
 | ixa n s x i =>
   simp only [cpure,p_ixa] at h;simp only [vpure];split at h
   . rename_i k o hx;split at h
     . rename_i hi;refine gx_ok hx (gx_ok hi ?_);simp only [C.v];split at h
       . rename_i hm;simp only [fN_eq,Option.some.injEq] at h;subst h;exact cix_ok hm (by simpa only [C.v] using hK)
       . cases h
     . cases h
   . rename_i hx;split at h
     . rename_i hi;refine gx_ok hx (gx_ok hi ?_);simp only [C.v];split at h
       . rename_i hm;simp only [fN_eq,Option.some.injEq] at h;subst h;exact cix_ok hm (by simpa only [C.v] using hK)
       . cases h
     . cases h
   . rename_i hx;split at h
     . rename_i hs;split at h
       . rename_i hi;refine gx_ok hx (gx_ok hi ?_);simp only [C.v,hs];split at h
         . rename_i hm;cases h;exact cix_ok hm (by simpa only [C.v] using hK)
         . cases h
       . cases h
     . rename_i hne;split at h
       . rename_i hi;refine gx_ok hx (gx_ok hi ?_);simp only [C.v];split at h
         . rename_i hm;simp only [fN_eq,Option.some.injEq] at h;subst h;exact cix_ok hm (by simpa only [C.v] using hK)
         . cases h
       . cases h
   . cases h
 | ext x i =>
   simp only [cpure,p_ext] at h;simp only [vpure];split at h
   . rename_i hx;refine gx_ok hx ?_;simp only [C.v];rw [nth_vs h];exact hK
   . cases h
 | len x =>
   simp only [cpure,p_len] at h;simp only [vpure];split at h <;> first
    | (cases h;done)
    | (rename_i hx
       refine gx_ok hx ?_;cases h;simp only [C.v] at hK;simp only [C.v];exact hK)
 | lens x =>
   simp only [cpure,p_lens] at h;simp only [vpure];split at h
   . rename_i hx;refine gx_ok hx ?_;cases h;simp only [C.v] at hK;simp only [C.v,bytesOf_size];exact hK
   . cases h
 | mn x y =>
   simp only [cpure,p_mn] at h;simp only [vpure];split at h
   . rename_i hx;split at h
     . rename_i hy;refine gx_ok hx (gx_ok hy ?_);simp only [C.v];refine ⟨_,rfl,?_⟩;split at h
       . rename_i hc;rw [ile_eq] at hc;cases h;have hc:=of_decide_eq_true hc;rw [if_neg (by omega)];simpa only [C.v] using hK
       . rename_i hc;rw [ile_eq] at hc;cases h;have hc:=of_decide_eq_false hc;rw [if_pos (by omega)];simpa only [C.v] using hK
     . cases h
   . cases h
 | mx x y =>
   simp only [cpure,p_mx] at h;simp only [vpure];split at h
   . rename_i hx;split at h
     . rename_i hy;refine gx_ok hx (gx_ok hy ?_);simp only [C.v];refine ⟨_,rfl,?_⟩;split at h
       . rename_i hc;rw [ile_eq] at hc;cases h;have hc:=of_decide_eq_true hc;rw [if_neg (by omega)];simpa only [C.v] using hK
       . rename_i hc;rw [ile_eq] at hc;cases h;have hc:=of_decide_eq_false hc;rw [if_pos (by omega)];simpa only [C.v] using hK
     . cases h
   . cases h
end Go.Eng
