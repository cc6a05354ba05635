import Derived.Test.YthbiicpcbnijiaaGreatDoorBP2
import Derived.Test.YthbiicpcbnijiaaGreatDoorDC5
import Derived.Test.YthbiicpcbnijiaaGreatDoorAN1
import Derived.Test.YthbiicpcbnijiaaGreatDoorGR10
import Derived.Test.YthbiicpcbnijiaaGreatDoorEngV
import Derived.Test.YthbiicpcbnijiaaGreatDoorEngZ
import Derived.IntWalk
namespace Go.Proofs.YthbiicpcbnijiaaGreatDoor
open Go.Eng Go.Plain
set_option maxRecDepth 100000
set_option linter.unusedVariables false
def gwF (p:Pr) (g:G) (c:Cf) (v x:Nat):Nat→Nat→V:=fun u _=>.int .i64 (if u < v then gwK p g c u else if u = v then gwS p g c v x else 0)
theorem gw_zero (p:Pr) (g:G) (c:Cf) (u j:Nat) (F:Nat→Nat→V) (hF:F u j = .int .i64 0):VLe (F u j) (gwF p g c 0 0 u j):=by
 apply VLe.of_eq;rw [hF,gwF];by_cases h:u = 0
 . subst h;rfl
 . rw [if_neg (by omega),if_neg h]
theorem gw_skip (p:Pr) (g:G) (c:Cf) (v u j:Nat) (h:¬ 0≤ruleI p g c v):VLe (gwF p g c v 0 u j) (gwF p g c (v + 1) 0 u j):=by
 apply VLe.of_eq;rw [gwF,gwF];congr 1;by_cases h1:u < v
 . rw [if_pos h1,if_pos (by omega)]
 . rw [if_neg h1];by_cases h2:u = v
   . subst h2;rw [if_pos rfl,if_pos (by omega),gwK,if_neg h];rfl
   . rw [if_neg h2,if_neg (by omega)];by_cases h3:u = v + 1
     . rw [if_pos h3];rfl
     . rw [if_neg h3]
theorem gw_row (p:Pr) (g:G) (c:Cf) (v u j:Nat) (h:0≤ruleI p g c v):VLe (gwF p g c v p.vars.length u j) (gwF p g c (v + 1) 0 u j):=by
 apply VLe.of_eq;rw [gwF,gwF];congr 1;by_cases h1:u < v
 . rw [if_pos h1,if_pos (by omega)]
 . rw [if_neg h1];by_cases h2:u = v
   . subst h2;rw [if_pos rfl,if_pos (by omega),gwK,if_pos h]
   . rw [if_neg h2,if_neg (by omega)];by_cases h3:u = v + 1
     . rw [if_pos h3];rfl
     . rw [if_neg h3]
theorem gw_step (p:Pr) (g:G) (c:Cf) (v v' x u j:Nat) (hv:v' = v) (hj:j < 1) (a:Int) (ha:a = gwS p g c v (x + 1)):VLe (fset (gwF p g c v x) v' 0 [.int .i64 a] u j) (gwF p g c v (x + 1) u j):=by
 obtain rfl:j = 0:=by omega
 subst hv ha;apply VLe.of_eq;by_cases h:u = v'
 . subst h;simp [fset,gwF]
 . simp [fset,gwF,h]
def arX (cl:List Nat) (T:Nat→Nat) (i m:Nat) (t:Int):Nat→Nat→V:=fun q j=>match j with
 | 0=>.int .u32 (if q < m then gN cl q else 0:Nat)
 | _ + 1=>.int .i64 (if q < i then (T (gN cl q):Int) else if q = i then t else 0)
theorem arX_zero (cl:List Nat) (T:Nat→Nat) (q j:Nat) (hj:j < 2):VLe ((fun (_ j:Nat)=>[V.int .u32 0,V.int .i64 0].getD j default) q j) (arX cl T 0 0 0 q j):=by
 apply VLe.of_eq;rcases j with _ | _ | j
 . rfl
 . show V.int .i64 0 = V.int .i64 _;congr 1;rw [if_neg (by omega)];by_cases h:q = 0
   . rw [if_pos h]
   . rw [if_neg h]
 . omega
theorem arX_new (cl:List Nat) (T:Nat→Nat) (i i' q j:Nat) (hi:i' = i) (hj:j < 2) (s k:Int) (hs:s = (gN cl i:Nat)):VLe (fset (arX cl T i i 0) i' 0 [.int .u32 s,.int .i64 k] q j) (arX cl T i (i + 1) k q j):=by
 subst hi hs;apply VLe.of_eq;by_cases h:q = i'
 . subst h;rcases j with _ | _ | j
   . simp [fset,arX]
   . simp [fset,arX]
   . omega
 . rcases j with _ | _ | j
   . have:(q < i' + 1) = (q < i'):=by simp;omega
     simp [fset,arX,h,this]
   . simp [fset,arX,h]
   . omega
theorem arX_to (cl:List Nat) (T:Nat→Nat) (i i' q j j':Nat) (hi:i' = i) (hj':j' = 1) (hj:j < 2) (t t':Int):VLe (fset (arX cl T i (i + 1) t) i' j' [.int .i64 t'] q j) (arX cl T i (i + 1) t' q j):=by
 subst hi hj';apply VLe.of_eq;by_cases h:q = i'
 . subst h;rcases j with _ | _ | j
   . simp [fset,arX]
   . simp [fset,arX]
   . omega
 . rcases j with _ | _ | j
   . simp [fset,arX,h]
   . simp [fset,arX,h]
   . omega
theorem arX_next (cl:List Nat) (T:Nat→Nat) (i q j:Nat) (t:Int) (ht:t = (T (gN cl i):Nat)):VLe (arX cl T i (i + 1) t q j) (arX cl T (i + 1) (i + 1) 0 q j):=by
 subst ht;apply VLe.of_eq;rcases j with _ | j
 . rfl
 . show V.int .i64 _ = V.int .i64 _;congr 1;by_cases h:q < i
   . rw [if_pos h,if_pos (by omega)]
   . rw [if_neg h];by_cases h2:q = i
     . rw [if_pos h2,if_pos (by omega),h2]
     . rw [if_neg h2,if_neg (by omega)];by_cases h3:q = i + 1
       . rw [if_pos h3]
       . rw [if_neg h3]
theorem arX_end (cl:List Nat) (T:Nat→Nat) (q j:Nat) (hq:q < cl.length):VLe (arX cl T cl.length cl.length 0 q j) (vAr (cl.map fun s=>(s,T s)) q j):=by
 apply VLe.of_eq;have hg:gA (cl.map fun s=>(s,T s)) q = (gN cl q,T (gN cl q)):=by
  simp [gA,gN,List.getD_eq_getElem?_getD,List.getElem?_eq_getElem hq]
 rcases j with _ | j
 . show V.int .u32 _ = V.int .u32 _;rw [hg,if_pos hq]
 . show V.int .i64 _ = V.int .i64 _;rw [hg,if_pos hq]
theorem moveL_in {p:Pr} (hp:PrOk p) {g:G} (hg:g.valid = true) {c:Cf} (hc:Conf p g c) {v x:Nat} (hv:v < g.ids.length) (hx:x < p.vars.length) (hr:0≤ruleI p g c v) :
 (bnd g (gV p.vars x) v).1≤gI (moveL p g c v (ruleI p g c v).toNat) x∧gI (moveL p g c v (ruleI p g c v).toNat) x≤(bnd g (gV p.vars x) v).2:=by
 have hcl:=hc.len;have hs:Part (2 ^ v) (enN p g c):=fun i hi=>by
  have e:=pow_bit hi;rw [en_bit,Bool.and_eq_true,decide_eq_true_eq,decide_eq_true_eq,← e];exact ⟨hv,hr⟩
 have hd:=step_conf hp hg hc hs;have hrow:=stepC_row p g c (2 ^ v) (v:=v) (by omega);rw [Nat.testBit_two_pow_self,if_pos rfl] at hrow;have h2:=hd.val v (by rw [stepC_len];omega) x hx;rw [hrow] at h2;exact h2
set_option maxHeartbeats 16000000 in
theorem state_own (p:Pr) (hp:PrOk p) (g:G) (hg:g.valid = true) (kd:Int) (hk:dk kd = true) (hn:cntP p g≤32768) (c:Cf) (hc:Conf p g c) (he:(chs g kd (enN p g c)).2 = 0) :
 CallF Tryz.prog 36 [bP p g kd,.vec 0 1 0 g.ids.length,.int .i64 (rkC p g c)] [(999,GB),(0,famI p g (cF c) [])] KS.tail fun X own' _=>X = .tup [.int .u32 (enN p g c),.vec 1 2 0 (chs g kd (enN p g c)).1.length,.int .i64 0] ∧
  own' = [(1,.vec (chs g kd (enN p g c)).1.length 2 (vAr ((chs g kd (enN p g c)).1.map fun s=>(s,rkC p g (stepC p g c s))))),(999,GB),(0,famI p g (cF c) [])]:=by
 obtain ⟨f1,f2,f3,f4,f5,f6,f7⟩:=val_facts hg;have hcl:=hc.len;have hvl:=hp.vlen;refine call_post ?_;refine fn_rule mixed Tryz.func36 rfl hc36 hr36 rfl ?_
 repeat' ((conv=>whnf);first | fail)
 all_goals (conv=>whnf)
 refine loop_u mixed [0,1,2,10,21,22] [] [2,3,4,5,6,7,8,9,10,11,12,13,14,15,16,17,18,19,20,21,22,23,24,25,26,27,28,29] [1,999,0] (fun v:Nat=>[(9,.int .u32 (nb (fun u=>decide (0≤ruleI p g c u)) v)),(23,.int .i64 v)]) (fun own v=>updO own 1 (.vec 24 1 (gwF p g c v 0))) (fun m v=>m = g.ids.length - v∧v≤g.ids.length) g.ids.length 0 ⟨rfl,Nat.zero_le _⟩ rfl (fun _=>rfl) ?_ ?_
 . refine weak_by (fun _ _=>[(0,some 0),(1,some 1),(999,some 999)]) ?_ ?_ rfl
   . repeat' (first | exact True.intro | exact VRen.oel rfl rfl | (refine ⟨⟨_,rfl,?_⟩,?_⟩) | exact VRen.kf rfl | exact VRen.vec rfl rfl rfl)
   . repeat' (first | exact ⟨rfl,rfl,True.intro,fun i hi=>rfl,fun i j t hi hn hj ht=>VLe.rfl⟩ | exact gw_zero p g c i j (fun _ _=>.int .i64 0) rfl | exact True.intro | exact ⟨rfl,rfl,rfl⟩ | (refine ⟨⟨_,rfl,?_⟩,?_⟩) | (refine ⟨Nat.le_refl _,rfl,fun i j hi hj=>?_⟩))
 rintro m v ⟨hm,hv⟩;by_cases hvn:v < g.ids.length
 . have hru:=rule_ok p hp g hg c hc v (by omega);by_cases hr0:0≤ruleI p g c v
   . have hrl:=ruleI_lt p g c v;have hmo:=move_own p hp g hg c hc v hvn (ruleI p g c v).toNat (by omega);rw [show (((ruleI p g c v).toNat:Nat):Int) = ruleI p g c v by omega] at hmo
     repeat' ((conv=>whnf);first | (refine Br.dec ?_ ?_ <;> intro _ <;> try omega) | (refine Ar.sh1 (by omega) ?_) | (refine Sv.mk _ rfl ?_) | (refine Nn.mk (by omega) ?_) | (refine call_lend hru rfl ⟨Nat.le_refl _,VLe.rfl,famI_cV hc _ (fun i j=>VLe.rfl),VLe.rfl,True.intro⟩ ?_) | (refine call_by [(0,some 0)] [1] (hmo.mono ?_) ⟨VRen.kf rfl,VRen.vec rfl rfl rfl,VRen.kf rfl,VRen.kf rfl,True.intro⟩ (by repeat' (first | (refine ⟨rfl,rfl,True.intro,fun i hi=>rfl,fun i j t hi hn hj ht=>VLe.rfl⟩) | exact True.intro | (refine ⟨⟨_,rfl,?_⟩,?_⟩))) rfl;rintro _ _ _ ⟨rfl,rfl⟩) | (refine Chk.mk rfl ?_))
     all_goals (conv=>whnf)
     refine loop_w mixed [0,1,2,9,10,11,21,22,23,46,47] [3] [4,5,6,7,8,9,10,11,12,13,14,15,16,17,18,19,20,21,22,23,24,25,26,27,28,29] [3,2,1,999,0] (fun x:Nat=>[(48,.int .i64 x)]) (fun x=>(3,.vec (lenM p v) 1 (rowI (cF c) v)) :: updO [(2,.vec p.vars.length 1 (vI (moveL p g c v (ruleI p g c v).toNat))),(1,.vec 24 1 (gwF p g c v x)),(999,GB),(0,famI p g (cF c) [])] 0 (famI p g (cF c) [(v,3)])) (fun m x=>m = p.vars.length - x∧x≤p.vars.length) p.vars.length 0 ⟨rfl,Nat.zero_le _⟩ rfl (fun _=>rfl) ?_ ?_
     . refine Weak.trans ?_ (weak_open (own:=[(2,.vec p.vars.length 1 (vI (moveL p g c v (ruleI p g c v).toNat))),(1,.vec 24 1 (gwF p g c v 0)),(999,GB),(0,famI p g (cF c) [])]) (ks:=[3,4,5,6,7,8,9,10,11,12,13,14,15,16,17,18,19,20,21,22,23,24,25,26,27,28,29]) rfl rfl rfl hvn rfl) (ks_cons rfl);refine weak_by (fun _ _=>[(0,some 0),(1,some 1),(2,some 2),(999,some 999)]) ?_ ?_ rfl
       . repeat' (first | exact True.intro | exact VRen.oel rfl rfl | (refine ⟨⟨_,rfl,?_⟩,?_⟩) | exact VRen.kf rfl | exact VRen.vec rfl rfl rfl)
       . repeat' (first | exact ⟨rfl,rfl,True.intro,fun i hi=>rfl,fun i j t hi hn hj ht=>VLe.rfl⟩ | exact True.intro | exact ⟨rfl,rfl,rfl⟩ | (refine ⟨⟨_,rfl,?_⟩,?_⟩) | (refine ⟨Nat.le_refl _,rfl,fun i j hi hj=>?_⟩) | exact VLe.rfl)
     rintro m2 x ⟨hm2,hx⟩;have hlm:lenM p v = p.vars.length:=rfl;by_cases hxn:x < p.vars.length
     . have hgx:=gwX_bnd hp hg hc hvn hxn hr0 hn;have hgs:=gwS_bnd hp hg hc hvn hr0 hn (x:=x) (by omega);have hgs2:=gwS_bnd hp hg hc hvn hr0 hn (x:=x + 1) (by omega);have hb1:=hc.val v (by omega) x hxn;have hmi:=moveL_in hp hg hc hvn hxn hr0;have hbi:=bnd_in hg (hp.var x hxn) (v:=v) (by omega);have hmz:gI (moveL p g c v (ruleI p g c v).toNat) (0 + x) = gI (moveL p g c v (ruleI p g c v).toNat) x:=by rw [Nat.zero_add]
       have hcv:cF c v (0 + x) = gI (gC c v) x:=by rw [Nat.zero_add]
       have hmulx:(gI (moveL p g c v (ruleI p g c v).toNat) (0 + x) - cF c v (0 + x)) * (plP p g v x:Nat) = gwX p g c v x:=by rw [Nat.zero_add];rfl
       have hsum:(if v < v then gwK p g c v else if v = v then gwS p g c v x else 0) + gwX p g c v x = gwS p g c v (x + 1):=by
        rw [if_neg (Nat.lt_irrefl _),if_pos rfl];rfl
       repeat' ((conv=>whnf);first | (refine Ar.i64 (by rw [hmulx];omega) (by rw [hmulx];omega) ?_;rw [hmulx]) | (refine Ar.i64 (by rw [hsum];omega) (by rw [hsum];omega) ?_;rw [hsum]) | (refine Br.dec ?_ ?_ <;> intro _ <;> try omega) | (refine Ar.i64 (by omega) (by omega) ?_) | (refine Ix.nat (by omega) ?_) | (refine Ltn.mk (by omega) ?_) | (refine Opn.hd (by omega) ?_))
       all_goals (conv=>whnf)
       refine ⟨_,x + 1,by omega,⟨rfl,by omega⟩,?_⟩;refine weak_by (fun _ _=>[(0,some 0),(1,some 1),(2,some 2),(3,some 3),(999,some 999)]) ?_ ?_ rfl
       . repeat' (first | exact True.intro | exact VRen.oel rfl rfl | (refine ⟨⟨_,rfl,?_⟩,?_⟩) | exact VRen.kf rfl | exact VRen.vec rfl rfl rfl)
       . repeat' (first | exact ⟨rfl,rfl,⟨rfl,rfl,True.intro⟩,fun i hi=>rfl,fun i j t hi hn hj ht=>VLe.rfl⟩ | exact gw_step _ _ _ _ _ _ _ _ rfl hj _ rfl | exact True.intro | exact ⟨rfl,rfl,rfl⟩ | (refine ⟨⟨_,rfl,?_⟩,?_⟩) | (refine ⟨Nat.le_refl _,rfl,fun i j hi hj=>?_⟩) | exact VLe.rfl)
     . repeat' ((conv=>whnf);first | (refine Br.dec ?_ ?_ <;> intro _ <;> try omega) | (refine Ar.i64 (by omega) (by omega) ?_))
       all_goals (conv=>whnf)
       have ex:x = p.vars.length:=by omega
       have hx:=nb_or (p:=fun u=>decide (0≤ruleI p g c u)) (k:=v) (by omega) (decide_eq_true hr0);refine ⟨_,v + 1,by omega,⟨rfl,by omega⟩,?_⟩;refine Weak.trans (weak_step (own_close (q:=3) (k:=0) (i:=v) [] rfl rfl hvn (look_here rfl) (Nat.le_refl _) rfl (fun j hj=>(look_there (fun e=>hj e.symm)).symm))) ?_ (ks_sub rfl);refine weak_by (fun _ _=>[(0,some 0),(1,some 1),(999,some 999)]) ?_ ?_ rfl
       . repeat' (first | exact VRen.int hx | exact True.intro | exact VRen.oel rfl rfl | (refine ⟨⟨_,rfl,?_⟩,?_⟩) | exact VRen.kf rfl | exact VRen.vec rfl rfl rfl)
       . repeat' (first | exact ⟨rfl,rfl,True.intro,fun i hi=>rfl,fun i j t hi hn hj ht=>setF_self _ _ _ _ _⟩ | (rw [ex];exact gw_row _ _ _ _ _ _ hr0) | exact True.intro | exact ⟨rfl,rfl,rfl⟩ | (refine ⟨⟨_,rfl,?_⟩,?_⟩) | (refine ⟨Nat.le_refl _,rfl,fun i j hi hj=>?_⟩))
   . repeat' ((conv=>whnf);first | (refine Br.dec ?_ ?_ <;> intro _ <;> try omega) | (refine Ar.i64 (by omega) (by omega) ?_) | (refine call_lend hru rfl ⟨Nat.le_refl _,VLe.rfl,famI_cV hc _ (fun i j=>VLe.rfl),VLe.rfl,True.intro⟩ ?_))
     all_goals (conv=>whnf)
     have hx:=nb_no (p:=fun u=>decide (0≤ruleI p g c u)) (k:=v) (decide_eq_false hr0);refine ⟨_,v + 1,by omega,⟨rfl,by omega⟩,?_⟩;refine weak_by (fun _ _=>[(0,some 0),(1,some 1),(999,some 999)]) ?_ ?_ rfl
     . repeat' (first | exact VRen.int (by rw [hx]) | exact True.intro | exact VRen.oel rfl rfl | (refine ⟨⟨_,rfl,?_⟩,?_⟩) | exact VRen.kf rfl | exact VRen.vec rfl rfl rfl)
     . repeat' (first | exact ⟨rfl,rfl,True.intro,fun i hi=>rfl,fun i j t hi hn hj ht=>VLe.rfl⟩ | exact gw_skip _ _ _ _ _ _ hr0 | exact True.intro | exact ⟨rfl,rfl,rfl⟩ | (refine ⟨⟨_,rfl,?_⟩,?_⟩) | (refine ⟨Nat.le_refl _,rfl,fun i j hi hj=>?_⟩))
 . have ev:v = g.ids.length:=by omega
   subst ev;have h32:=en_32 p hg c;have hch:=nchoices_ok g hg kd (enN p g c) h32 (en_part p hg c);rw [he] at hch;have hcl2:=chs_len (g:=g) (k:=kd) h32;have hcm:∀ s,s∈(chs g kd (enN p g c)).1→s < 4294967296∧Part s (enN p g c):=fun s hs=>⟨chs_lt h32 s hs,(part_iff (chs_lt h32 s hs)).1 (inner_iff.1 ((chs_mem hk h32 (chs_lt h32 s hs) he).1 hs)).2.1⟩;change RG _ [_,_,.int .u32 (nb (fun u=>decide (0≤ruleI p g c u)) g.ids.length:Nat)] _ at hch;generalize (chs g kd (enN p g c)).1 = cl at *
   repeat' ((conv=>whnf);first | (refine Br.ff ?_) | (refine Br.dec ?_ ?_ <;> intro _ <;> try omega) | (refine Bd.nat (by omega) ?_) | (refine Len.mk (by omega) ?_) | (refine hch.gog ?_))
   all_goals (conv=>whnf)
   refine loop_w mixed [2,9,10,17,99,100] [] [4,5,6,7,8,9,10,11,12,13,14,15,16,17,18,19,20,21,22,23,24,25,26,27,28,29] [3,2,1,999,0] (fun i:Nat=>[(101,.int .i64 i)]) (fun i=>[(3,.cells [.vec 2 2 0 cl.length]),(2,.vec cl.length 2 (arX cl (fun s=>rkC p g (stepC p g c s)) i i 0)),(1,.vec 24 1 (gwF p g c g.ids.length 0)),(999,GB),(0,famI p g (cF c) [])]) (fun m i=>m = cl.length - i∧i≤cl.length) cl.length 0 ⟨rfl,Nat.zero_le _⟩ rfl (fun _=>rfl) ?_ ?_
   . refine weak_by (fun _ _=>[(0,some 0),(1,some 1),(2,some 2),(3,some 3),(999,some 999)]) ?_ ?_ rfl
     . repeat' (first | exact True.intro | exact VRen.oel rfl rfl | (refine ⟨⟨_,rfl,?_⟩,?_⟩) | exact VRen.kf rfl | exact VRen.loc rfl)
     . repeat' (first | exact ⟨rfl,rfl,True.intro,fun i hi=>rfl,fun i j t hi hn hj ht=>VLe.rfl⟩ | exact arX_zero _ _ _ _ hj | exact True.intro | exact ⟨rfl,rfl,rfl⟩ | (refine ⟨⟨_,rfl,?_⟩,?_⟩) | exact VRen.vec rfl rfl rfl | (refine ⟨Nat.le_refl _,rfl,fun i j hi hj=>?_⟩) | exact VLe.rfl | (refine And.intro ?_ ?_))
   rintro m i ⟨hm2,hi⟩;by_cases hil:i < cl.length
   . obtain ⟨s32,spt⟩:=hcm (gN cl i) (gQ_mem hil);generalize hs:gN cl i = s at *
     repeat' ((conv=>whnf);first | (refine Br.dec ?_ ?_ <;> intro _ <;> try omega) | (refine Ix.nat (by omega) ?_) | (refine Ltn.mk (by omega) ?_) | (refine fn_rule mixed Tryz.func80 rfl hc80 hr80 rfl ?_) | (refine range_rule ?_) | (refine Chk.mk (by kernel_rfl) ?_) | (refine fn_rule mixed Tryz.func117 rfl hc117 hr117 rfl ?_))
     all_goals (conv=>whnf)
     have hkc:=rkC_lt hp hg hc;have hsn:∀ u,s.testBit u = true→u < g.ids.length:=fun u hu=>by
      have:=spt u hu;rw [en_bit,Bool.and_eq_true,decide_eq_true_eq] at this;exact this.1
     refine loop_u mixed [0,1] [] [7,8,9,10,11,12,13,14,15,16,17,18,19,20,21,22,23,24,25,26,27,28,29] [6,5,4,3,2,1,999,0] (fun b:Nat=>[]) (fun own b=>updO (updO own 5 (.cells [.int .u32 (upS s b)])) 2 (.vec cl.length 2 (arX cl (fun s=>rkC p g (stepC p g c s)) i (i + 1) (toS p g c (rkC p g c) s b)))) (fun m b=>m = g.ids.length - b∧b≤g.ids.length) g.ids.length 0 ⟨rfl,Nat.zero_le _⟩ rfl (fun _=>rfl) ?_ ?_
     . have hx:=upS_zero s32;have ht0:toS p g c (rkC p g c) s 0 = (rkC p g c:Nat):=by rw [toS,sumF];exact Int.add_zero _
       refine weak_by (fun _ _=>[(0,some 0),(1,some 1),(2,some 2),(3,some 3),(4,some 4),(5,some 5),(6,some 6),(999,some 999)]) ?_ ?_ rfl
       . repeat' (first | exact VRen.yld rfl | exact True.intro | (refine ⟨⟨_,rfl,?_⟩,?_⟩) | exact VRen.loc rfl)
       . repeat' (first | exact ⟨rfl,rfl,True.intro,fun i hi=>rfl,fun i j t hi hn hj ht=>VLe.rfl⟩ | exact VRen.int (by rw [hx,← hs]) | (refine VRen.fn ?_) | (refine ⟨rfl,rfl,rfl,rfl,rfl,?_⟩) | (rw [ht0];exact arX_new _ _ _ _ _ _ (Nat.zero_add _) hj _ _ rfl) | exact True.intro | exact VRen.oel rfl rfl | exact ⟨rfl,rfl,rfl⟩ | (refine ⟨⟨_,rfl,?_⟩,?_⟩) | exact VRen.kf rfl | exact VRen.loc rfl | exact VRen.vec rfl rfl rfl | (refine ⟨Nat.le_refl _,rfl,fun i j hi hj=>?_⟩) | exact VLe.rfl | (refine And.intro ?_ ?_))
     rintro m3 b ⟨hm3,hb⟩;have hul:=upS_lt s b;have hbn:=toS_bnd hp hg hc hn (k:=rkC p g c) (s:=s) (b:=b) (by omega) hb;by_cases hu:upS s b = 0
     . have hte:=toS_end hp hg hc spt;rw [toS_skip hb (fun u h1 h2=>upS_end s32 hu u h1)] at hte
       repeat' ((conv=>whnf);first | (refine Br.bne ?_ ?_ <;> intro _ <;> try omega) | (refine Ar.i64 (by omega) (by omega) ?_))
       all_goals (conv=>whnf)
       refine ⟨_,i + 1,by omega,⟨rfl,by omega⟩,?_⟩;refine weak_by (fun _ _=>[(0,some 0),(1,some 1),(2,some 2),(3,some 3),(999,some 999)]) ?_ ?_ rfl
       . repeat' (first | exact True.intro | exact VRen.oel rfl rfl | (refine ⟨⟨_,rfl,?_⟩,?_⟩) | exact VRen.kf rfl | exact VRen.loc rfl)
       . repeat' (first | exact ⟨rfl,rfl,True.intro,fun i hi=>rfl,fun i j t hi hn hj ht=>VLe.rfl⟩ | exact arX_next _ _ _ _ _ _ (by rw [hs];exact hte) | exact True.intro | exact ⟨rfl,rfl,rfl⟩ | (refine ⟨⟨_,rfl,?_⟩,?_⟩) | exact VRen.vec rfl rfl rfl | (refine ⟨Nat.le_refl _,rfl,fun i j hi hj=>?_⟩) | exact VLe.rfl | (refine And.intro ?_ ?_))
     . obtain ⟨v1,v2,v3,v4,v5⟩:=upS_next s32 hu;have htz:=tz_ok _ hu hul;have hr:bitI .and .u32 ((upS s b:Nat):Int) ((upS s b:Nat) - 1:Int) = ((upS s (ctz (upS s b) + 1):Nat):Int):=by
        rw [← v5,show ((upS s b:Nat):Int) - 1 = ((upS s b - 1:Nat):Int) by omega,bit_and hul (by omega)]
       generalize ctz (upS s b) = v at *;have hvn:=hsn v v3;have hts:=toS_step (p:=p) (g:=g) (c:=c) (k:=rkC p g c) v3;rw [toS_skip v2 v4] at hts;have hbn2:=toS_bnd hp hg hc hn (k:=rkC p g c) (s:=s) (b:=v + 1) (by omega) hvn;have hsum:(if 0 + i < i then ((rkC p g (stepC p g c (gN cl (0 + i))):Nat):Int) else if 0 + i = i then toS p g c (rkC p g c) s b else 0) + (if v < g.ids.length then gwK p g c v else if v = g.ids.length then gwS p g c g.ids.length 0 else 0) = toS p g c (rkC p g c) s (v + 1):=by
        rw [Nat.zero_add,if_neg (Nat.lt_irrefl _),if_pos rfl,if_pos hvn,hts]
       repeat' ((conv=>whnf);first | (refine Ar.i64 (by rw [hsum];omega) (by rw [hsum];omega) ?_;rw [hsum]) | (refine Br.tt ?_) | (refine Br.bne ?_ ?_ <;> intro _ <;> try omega) | (refine Ar.u32 (by omega) (by omega) ?_) | (refine Sv.mk _ rfl ?_) | (refine Ix.nat (by omega) ?_) | (refine Ltn.mk (by omega) ?_) | (refine htz.gog ?_) | (refine yield_rule mixed rfl rfl ?_))
       all_goals (conv=>whnf)
       refine ⟨_,v + 1,by omega,⟨rfl,hvn⟩,?_⟩;refine weak_by (fun _ _=>[(0,some 0),(1,some 1),(2,some 2),(3,some 3),(4,some 4),(5,some 5),(6,some 6),(999,some 999)]) ?_ ?_ rfl
       . repeat' (first | exact VRen.yld rfl | exact True.intro | (refine ⟨⟨_,rfl,?_⟩,?_⟩) | exact VRen.loc rfl)
       . repeat' (first | exact ⟨rfl,rfl,True.intro,fun i hi=>rfl,fun i j t hi hn hj ht=>VLe.rfl⟩ | exact VRen.int hr | (refine VRen.fn ?_) | (refine ⟨rfl,rfl,rfl,rfl,rfl,?_⟩) | exact arX_to _ _ _ _ _ _ _ (Nat.zero_add _) rfl hj _ _ | exact True.intro | exact VRen.oel rfl rfl | exact ⟨rfl,rfl,rfl⟩ | (refine ⟨⟨_,rfl,?_⟩,?_⟩) | exact VRen.kf rfl | exact VRen.loc rfl | exact VRen.vec rfl rfl rfl | (refine ⟨Nat.le_refl _,rfl,fun i j hi hj=>?_⟩) | exact VLe.rfl | (refine And.intro ?_ ?_))
   . have ei:i = cl.length:=by omega
     subst ei
     repeat' ((conv=>whnf);first | (refine Br.dec ?_ ?_ <;> intro _ <;> try omega) | (refine And.intro rfl ?_))
     all_goals (conv=>whnf)
     exact postR_by (fun _=>[(0,some 0),(1,some 2),(999,some 999)]) _ _ ⟨rfl,rfl⟩ (VRen.tup ⟨VRen.kf rfl,VRen.vec rfl rfl rfl,VRen.kf rfl,True.intro⟩) (by repeat' (first | (refine ⟨rfl,rfl,True.intro,fun i hi=>rfl,fun i j t hi hn hj ht=>VLe.rfl⟩) | (refine ⟨Nat.le_refl _,rfl,fun i j hi hj=>arX_end _ _ _ _ hi⟩) | exact True.intro | exact ⟨rfl,rfl,rfl⟩ | (refine ⟨⟨_,rfl,?_⟩,?_⟩))) rfl
def arsF (p:Pr) (g:G) (kd:Int) (k:Nat):Nat→Nat→V:=fun i _=>if i < k then arV (arcK p g kd i) else .nilslice
def ensF (p:Pr) (g:G) (k:Nat):Nat→Nat→V:=fun i _=>.int .u32 (if i < k then enN p g (cfK p g i) else 0:Nat)
theorem arsF_zero (p:Pr) (g:G) (kd:Int) (i j:Nat) (hj:j < 1):VLe ((fun (_ j:Nat)=>[V.nilslice].getD j default) i j) (arsF p g kd 0 i j):=by
 obtain rfl:j = 0:=by omega
 exact VLe.rfl
theorem ensF_zero (p:Pr) (g:G) (i j:Nat) (hj:j < 1):VLe ((fun (_ j:Nat)=>[V.int .u32 0].getD j default) i j) (ensF p g 0 i j):=by
 obtain rfl:j = 0:=by omega
 exact VLe.rfl
theorem ensF_set (p:Pr) (g:G) (k k' i j:Nat) (hk:k' = k) (hj:j < 1):VLe (fset (ensF p g k) k' 0 [.int .u32 (enN p g (cfK p g k))] i j) (ensF p g (k + 1) i j):=by
 obtain rfl:j = 0:=by omega
 subst hk;apply VLe.of_eq;by_cases h:i = k'
 . subst h;simp [fset,ensF]
 . have h1:(i < k' + 1) = (i < k'):=by simp;omega
   simp [fset,ensF,h,h1]
theorem arsF_set (p:Pr) (g:G) (kd:Int) (k k' i j:Nat) (X:V) (hX:VLe X (arV (arcK p g kd k))) (hk:k' = k) (hj:j < 1):VLe (fset (arsF p g kd k) k' 0 [X] i j) (arsF p g kd (k + 1) i j):=by
 obtain rfl:j = 0:=by omega
 subst hk;by_cases h:i = k'
 . subst h;have e1:fset (arsF p g kd i) i 0 [X] i 0 = X:=by simp [fset]
   have e2:arsF p g kd (i + 1) i 0 = arV (arcK p g kd i):=by simp [arsF]
   rw [e1,e2];exact hX
 . apply VLe.of_eq;have h1:(i < k' + 1) = (i < k'):=by simp;omega
   simp [fset,arsF,h,h1]
theorem cfK_lo (p:Pr) (g:G) {v x:Nat} (hv:v < g.ids.length) (hx:x < p.vars.length):loP p g v x = cF (cfK p g 0) v x:=by
 show _ = gI (gC (cfK p g 0) v) x;rw [cfK_get p g 0 hv hx,dgP,Mx.dg_zero];simp
theorem arcV_le (p:Pr) (g:G) (kd:Int) (k n:Nat) (hn:n = (chs g kd (enN p g (cfK p g k))).1.length):VLe (.fz n 2 false (shiftF 0 (vAr ((chs g kd (enN p g (cfK p g k))).1.map fun s=>(s,rkC p g (stepC p g (cfK p g k) s)))))) (arV (arcK p g kd k)):=by
 refine VLe.fz ?_ (fun h=>h) (fun i j hi hj=>VLe.of_eq (by rw [shiftF_eq,Nat.zero_add];rfl));rw [hn,arcK,List.length_map]
set_option maxHeartbeats 16000000 in
theorem sbuild_ok (p:Pr) (hp:PrOk p) (g:G) (hs:g.Small) (hg:g.valid = true) (kd:Int) (hk:dk kd = true) (hn:cntP p g≤32768) (he:∀ c,(chs g kd (enN p g c)).2 = 0) (ht:(sysP p g kd).tot (cntP p g)≤262144) :
 RG 10 [p.v,g.v,.int .i64 kd] (.tup [(sysP p g kd).v,.int .i64 0]):=by
 obtain ⟨f1,f2,f3,f4,f5,f6,f7⟩:=val_facts hg;have hvl:=hp.vlen;have h1:=mCount_ok p hp g hs hg hn;have h2:=dvalid_ok kd;rw [hk] at h2;have h3:=builder_ok p hp g hs hg kd hn;have h4:=mleast_ok p hp g hs hg;refine ret_frzG rfl ?_;refine fn_rule mixed Tryz.func10 rfl hc10 hr10 rfl ?_
 repeat' ((conv=>whnf);first | (refine Br.tt ?_) | (refine Br.ff ?_) | (refine Bd.nat (by omega) ?_) | (refine Len.mk (by omega) ?_) | (refine MkS.vec ?_) | (refine h1.go ?_) | (refine h2.go ?_) | (refine h3.go ?_) | (refine call_by [] [0] (h4.mono ?_) ⟨VRen.kf rfl,VRen.kf rfl,True.intro⟩ True.intro rfl;rintro _ _ _ ⟨rfl,rfl⟩) | (refine Chk.mk rfl ?_))
 all_goals (conv=>whnf)
 refine loop_w mixed [6,10,11,12,56] [] [7,8,9,10,11,12,13,14,15,16,17,18,19,20,21,22,23,24,25,26,27,28,29] [6,5,4,3,2,1,0,999] (fun k:Nat=>[(14,.int .i64 ((sysP p g kd).tot k)),(57,.int .i64 k)]) (fun k=>[(6,famI p g (cF (cfK p g k)) []),(5,.cells [.vec 3 1 0 (cntP p g),.vec 4 1 0 (cntP p g)]),(4,.vec (cntP p g) 1 (arsF p g kd k)),(3,.vec (cntP p g) 1 (ensF p g k)),(2,.cells [.nilslice,.nilslice]),(1,.cells [.fz g.ids.length 1 false (vI g.ids),.fz g.ports.length 1 false (vP g.ports)]),(0,.cells [.str p.nm,p.pg.vs,p.pg.rs]),(999,GB)]) (fun m k=>m = cntP p g - k∧k≤cntP p g) (cntP p g) 0 ⟨rfl,Nat.zero_le _⟩ rfl (fun _=>rfl) ?_ ?_
 . refine weak_by (fun _ _=>[(0,some 0),(1,some 1),(2,some 2),(3,some 3),(4,some 4),(5,some 5),(6,some 6),(999,some 999)]) ?_ ?_ rfl
   . repeat' (first | exact True.intro | (refine ⟨⟨_,rfl,?_⟩,?_⟩) | exact VRen.kf rfl | exact VRen.loc rfl | exact VRen.vec rfl rfl rfl)
   . repeat' (first | exact ⟨rfl,rfl,True.intro,fun i hi=>rfl,fun i j t hi hn hj ht=>VLe.of_eq (congrArg (V.int .i64) (cfK_lo p g hi hj))⟩ | exact arsF_zero _ _ _ _ _ hj | exact ensF_zero _ _ _ _ hj | exact True.intro | exact ⟨rfl,rfl,rfl⟩ | (refine ⟨⟨_,rfl,?_⟩,?_⟩) | exact VRen.kf rfl | exact VRen.vec rfl rfl rfl | (refine ⟨Nat.le_refl _,rfl,fun i j hi hj=>?_⟩) | (refine And.intro ?_ ?_))
 rintro m k ⟨hm,hkc⟩;by_cases hkn:k < cntP p g
 . have hst:=state_own p hp g hg kd hk hn (cfK p g k) (cfK_conf hp hg k) (he _);rw [rk_cfK hkn] at hst;have had:=madv_ok p hp g hg k hkn;have htk:=sumA_mono (fun k=>((sysP p g kd).ar k).length) (show k + 1≤cntP p g by omega);change (sysP p g kd).tot (k + 1)≤(sysP p g kd).tot (cntP p g) at htk;have htn:(sysP p g kd).tot (k + 1) = (sysP p g kd).tot k + (chs g kd (enN p g (cfK p g k))).1.length:=by
    show (sysP p g kd).tot k + (arcK p g kd k).length = _;rw [arcK,List.length_map]
   repeat' ((conv=>whnf);first | (refine Br.ff ?_) | (refine Br.dec ?_ ?_ <;> intro _ <;> try omega) | (refine Ar.i64 (by omega) (by omega) ?_) | (refine Ix.nat (by omega) ?_) | (refine Len.mk (by omega) ?_) | (refine Ltn.mk (by omega) ?_) | (refine call_by [(999,some 999),(0,some 6)] [1] (hst.mono ?_) ⟨VRen.kf rfl,VRen.vec rfl rfl rfl,VRen.kf rfl,True.intro⟩ (by repeat' (first | (refine ⟨rfl,rfl,True.intro,fun i hi=>rfl,fun i j t hi hn hj ht=>VLe.rfl⟩) | exact True.intro | exact ⟨rfl,rfl,rfl⟩ | (refine ⟨⟨_,rfl,?_⟩,?_⟩))) rfl;rintro _ _ _ ⟨rfl,rfl⟩) | (refine call_by [(0,some 6)] [] (had.mono ?_) ⟨VRen.kf rfl,VRen.vec rfl rfl rfl,True.intro⟩ (by repeat' (first | (refine ⟨rfl,rfl,True.intro,fun i hi=>rfl,fun i j t hi hn hj ht=>VLe.rfl⟩) | exact True.intro | (refine ⟨⟨_,rfl,?_⟩,?_⟩))) rfl;rintro _ _ _ ⟨rfl,rfl⟩) | (refine Chk.mk rfl ?_) | (refine And.intro rfl ?_))
   all_goals (conv=>whnf)
   refine ⟨_,k + 1,by omega,⟨rfl,by omega⟩,?_⟩;refine weak_by (fun _ _=>[(0,some 0),(1,some 1),(2,some 2),(3,some 3),(4,some 4),(5,some 5),(6,some 6),(999,some 999)]) ?_ ?_ rfl
   . repeat' (first | exact True.intro | (refine ⟨⟨_,rfl,?_⟩,?_⟩) | exact VRen.kf rfl | exact VRen.int (by omega) | exact VRen.loc rfl | exact VRen.vec rfl rfl rfl)
   . repeat' (first | exact ⟨rfl,rfl,True.intro,fun i hi=>rfl,fun i j t hi hn hj ht=>VLe.rfl⟩ | exact ensF_set _ _ _ _ _ _ (Nat.zero_add _) hj | exact arsF_set p g kd _ _ _ _ _ (arcV_le p g kd k _ rfl) (Nat.zero_add _) hj | exact True.intro | exact ⟨rfl,rfl,rfl⟩ | (refine ⟨⟨_,rfl,?_⟩,?_⟩) | exact VRen.kf rfl | exact VRen.vec rfl rfl rfl | (refine ⟨Nat.le_refl _,rfl,fun i j hi hj=>?_⟩) | (refine And.intro ?_ ?_))
 . have ek:k = cntP p g:=by omega
   subst ek
   repeat' ((conv=>whnf);first | (refine Br.dec ?_ ?_ <;> intro _ <;> try omega) | (refine Len.mk (by omega) ?_))
   all_goals (conv=>whnf)
   refine VLe.tup ⟨VLe.agg ⟨VLe.fz rfl (fun h=>h) (fun i j hi hj=>VLe.of_eq ?_),VLe.fz rfl (fun h=>h) (fun i j hi hj=>VLe.of_eq ?_),True.intro⟩,VLe.rfl,True.intro⟩
   . rw [shiftF_eq,Nat.zero_add,ensF,if_pos hi];rfl
   . rw [shiftF_eq,Nat.zero_add,arsF,if_pos hi];rfl
theorem row_pow {sz:Nat→Nat} {m B:Nat}:∀ {n:Nat},(∀ v,v < n→Mx.pr sz (v * m) m≤B)→Mx.pr sz 0 (n * m)≤B ^ n
 | 0,_=>by simp [Mx.pr]
 | n + 1,h=>by
   rw [Nat.add_mul,Nat.one_mul,pr_split,Nat.zero_add,Nat.pow_succ];exact Nat.mul_le_mul (row_pow fun v hv=>h v (by omega)) (h n (by omega))
theorem nodup_len {l:List Nat} {m:Nat} (hn:l.Pairwise (· < ·)) (h:∀ a∈l,a < m):l.length≤m:=by
 have h1:l.Nodup:=by
  rw [List.nodup_iff_pairwise_ne];exact hn.imp fun {a b} h=>Nat.ne_of_lt h
 have:=List.Nodup.length_le_of_subset h1 (fun a ha=>List.mem_range.2 (h a ha));simpa using this
theorem chs_pow {p:Pr} {g:G} (hg:g.valid = true) {kd:Int} (hk:dk kd = true) (c:Cf):(chs g kd (enN p g c)).1.length≤2 ^ g.ids.length:=by
 have h32:=en_32 p hg c;have hpw:=en_pow p g c;refine nodup_len (chs_sorted h32) fun a ha=>?_;by_cases he:(chs g kd (enN p g c)).2 = 0
 . have h1:=(chs_mem hk h32 (chs_lt h32 a ha) he).1 ha;obtain ⟨_,b,_⟩:=inner_iff.1 h1;exact Nat.lt_of_le_of_lt ((part_iff (chs_lt h32 a ha)).1 b).le hpw
 . rw [(chs_err hk he).2.1] at ha;cases ha
theorem tot_pow {p:Pr} {g:G} (hg:g.valid = true) {kd:Int} (hk:dk kd = true):(sysP p g kd).tot (cntP p g)≤cntP p g * 2 ^ g.ids.length:=by
 rw [Tsy.tot];refine sumA_le _ _ (fun k=>?_) _;show (arcK p g kd k).length≤_;rw [arcK,List.length_map];exact chs_pow hg hk _
theorem cnt_pow:∀ {n e:Nat},e < 2 ^ n→n≤32→cnt e 32≤n:=by
 intro n e h hn;have e1:(32:Nat) = n + (32 - n):=by omega
 rw [e1,cnt_add,Nat.shiftRight_eq_div_pow,Nat.div_eq_of_lt h,cnt_zero (fun i _=>Nat.zero_testBit i)];have:=cnt_le e n;omega
theorem chs_fine {p:Pr} {g:G} (hg:g.valid = true) {kd:Int} (hk:dk kd = true) (hn:g.ids.length≤10) (c:Cf):(chs g kd (enN p g c)).2 = 0:=by
 apply Classical.byContradiction;intro h;have h1:=(chs_err hk h).2.2.1;have h2:=cnt_pow (en_pow p g c) (by omega);omega
end Go.Proofs.YthbiicpcbnijiaaGreatDoor
namespace Go.Proofs.YthbiicpcbnijiaaGreatDoor
open Go.Eng Go.Plain
set_option maxRecDepth 100000
set_option linter.unusedVariables false
set_option linter.unusedSectionVars false
theorem retp_args {P:Program} {f:FuncId} {args args':List V} {Φ:V→Prop} (hk:allB V.kf args' = true) (hl:LLe args' args) (h:RetP P f args Φ):RetP P f args' Φ:=fun own ks=>by
 constructor;intro M w σ us hlen hd hh;obtain ⟨d1,d2⟩:=hl.dens (M:=M) (w:=w) (us:=us) hlen (fun i v u hv hu=>(hd i v u hv hu).kf (allB_mem hk v (List.mem_of_getElem? hv)) Sg.none);exact (h own ks).out M w σ us d1 (fun i v u hv hu=>(d2 i v u hv hu).mono (Ext.mk (fun _ _ h=>⟨h,rfl⟩) (Nat.le_refl _)) (Sg.none_le σ)) hh
theorem ret_argsW {P:Program} {f:FuncId} {args args':List V} {X:V} (hk:allB V.kf args' = true) (hl:LLe args' args) (h:Ret P f args X):Ret P f args' X :=
 RetP.ret (Φ:=fun v=>v = X) (retp_args hk hl (h.p rfl)) (fun _ h=>h)
theorem retp_res {P:Program} {f:FuncId} {args:List V} {Φ:V→Prop} {X:V} (h:RetP P f args Φ) (hX:∀ v,Φ v→v.kf = true∧VLe v X):Ret P f args X:=fun own ks=>by
 constructor;intro M w σ us hlen hd hh;refine ((h own ks).out M w σ us hlen hd hh).mono ?_;rintro e w' ⟨M',σ',v,own',ks',u,rfl,hv,hh',tr,kd,hΦ,rfl,rfl⟩;obtain ⟨hk,hl⟩:=hX v hΦ;exact ⟨M',σ',X,_,_,u,rfl,(hl.out _ _ _ (hv.kf hk Sg.none)).mono (Ext.mk (fun _ _ h=>⟨h,rfl⟩) (Nat.le_refl _)) (Sg.none_le σ'),hh',tr,kd,rfl,rfl,rfl⟩
def blW (n:Nat) (lg:Nat→Bool):V:=.fz n 1 false (shiftF 0 (vBl lg))
theorem bl_le (n:Nat) (lg:Nat→Bool):VLe (blW n lg) (blV n lg):=VLe.fz rfl (fun h=>h) fun i j hi hj=>VLe.of_eq (by rw [shiftF_eq,Nat.zero_add];rfl)
theorem vle_appL (lg:Nat→Bool) (n m i j:Nat) (hm:m = n) (hi:i < n + 1) (hj:j < 1) (b:Bool) (F:Nat→Nat→V) (hF:F 0 0 = .bool b) (hb:b = lg n):VLe (fapp (shiftF 0 (vBl lg)) m (shiftF 0 F) i j) (vBl lg i j):=by
 obtain rfl:j = 0:=by omega
 subst hm;apply VLe.of_eq;by_cases h:i < m
 . rw [fapp_lt h,shiftF_eq,Nat.zero_add]
 . rw [fapp_ge h];have:i = m:=by omega
   subst this;simp [shiftF,hF,vBl,hb]
theorem csmallW {p:Pr} (hp:PrOk p) {g:G} (hg:g.valid = true) {c:Cf} (h:Conf p g c):CSmall c:=by
 obtain ⟨f1,f2,f3,f4,f5,f6,f7⟩:=val_facts hg;have hl:=h.len;have hv:=hp.vlen;refine ⟨by omega,fun r hr=>?_⟩;obtain ⟨i,hi,e⟩:=List.mem_iff_getElem.1 hr;have h2:gC c i = r:=by simp [gC,List.getD,hi,e]
 have:=h.row i hi;rw [← h2];omega
theorem cnt_rows {p:Pr} {g:G} {B:Nat} (h:∀ v,v < g.ids.length→Mx.pr (szP p g) (v * p.vars.length) p.vars.length≤B):cntP p g≤B ^ g.ids.length:=row_pow h
section
variable {p:Pr} (hp:PrOk p) {g:G} (hs:g.Small) (hg:g.valid = true) {kd:Int} (hk:dk kd = true) {leg:Cf→Bool} {R M:Int} {Inv:Cf→Cnt→Prop} (hS:Srv p g kd leg R M Inv)
 (h10:g.ids.length≤10) (hN:cntP p g≤32768) (hNm:cntP p g * 2 ^ g.ids.length≤262144)
include hp hs hg hk h10 hN hNm
theorem whole_build:RG 10 [p.v,g.v,.int .i64 kd] (.tup [(sysP p g kd).v,.int .i64 0]) :=
 sbuild_ok p hp g hs hg kd hk hN (chs_fine hg hk h10) (Nat.le_trans (tot_pow hg hk) hNm)
theorem whole_ok:(sysP p g kd).Ok:=sys_ok hp hg hk hN (chs_fine hg hk h10) (Nat.le_trans (tot_pow hg hk) hNm)
include hS
theorem whole_core:Ret Tryz.prog 13 [(sysP p g kd).v,blW (cntP p g) (legK p g leg)] (.tup [blV (cntP p g) fun _=>false,.int .i64 0]):=by
 refine ret_argsW (args:=[(sysP p g kd).v,blV (cntP p g) (legK p g leg)]) rfl ⟨VLe.rfl,bl_le _ _,True.intro⟩ (retp_res (core_ok (sysP p g kd) (whole_ok hp hs hg hk h10 hN hNm) (legK p g leg)) ?_);rintro _ ⟨L,hL,rfl⟩;have hall:=sys_all hp hg hk hS (chs_fine hg hk h10) hL;refine ⟨rfl,VLe.tup ⟨VLe.fz rfl (fun h=>h) (fun i j hi hj=>VLe.bool ?_),VLe.rfl,True.intro⟩⟩;have:decide (i∈L) = true:=decide_eq_true (hall i hi);show (!decide (i∈L)) = false;rw [this];rfl
theorem whole_closed:Ret Tryz.prog 14 [(sysP p g kd).v,blW (cntP p g) (legK p g leg)] (.tup [.bool true,.int .i64 0]) :=
 ret_argsW (args:=[(sysP p g kd).v,blV (cntP p g) (legK p g leg)]) rfl ⟨VLe.rfl,bl_le _ _,True.intro⟩ (cclosed_ok (sysP p g kd) (whole_ok hp hs hg hk h10 hN hNm) (legK p g leg) (fun k _ hl a ha=>sys_closed hp hg hk hS (chs_fine hg hk h10) hl ha))
theorem whole_rounds (hR:0≤R):RetP Tryz.prog 15 [(sysP p g kd).v,blW (cntP p g) (legK p g leg)] fun v=>∃ r:Nat→Nat,(∀ k,k < cntP p g→(r k:Int)≤R)∧v = .tup [inV (cntP p g) r,.int .i64 0]:=by
 have h:=rounds_ok (sysP p g kd) (whole_ok hp hs hg hk h10 hN hNm) (legK p g leg) (fun L hL=>sys_all hp hg hk hS (chs_fine hg hk h10) hL) (2 ^ g.ids.length) (fun k _=>en_pow p g _) hNm (RdOk p g R Inv) (sys_rq hp hg hk hS (chs_fine hg hk h10));refine retp_args (args:=[(sysP p g kd).v,blV (cntP p g) (legK p g leg)]) rfl ⟨VLe.rfl,bl_le _ _,True.intro⟩ (fun own ks=>(h own ks).mono ?_);rintro _ _ _ ⟨⟨r,h1,h2,rfl⟩,rfl,rfl⟩;refine ⟨⟨r,fun k hk'=>?_,rfl⟩,rfl,rfl⟩;cases e:legK p g leg k with
 | true=>have:=h1 k hk' e;omega
 | false=>exact rd_end hp hg hS e (h2 k hk' e)
theorem whole_moves:RetP Tryz.prog 16 [(sysP p g kd).v,blW (cntP p g) (legK p g leg)] fun v=>∃ r:Nat→Nat,(0≤M→∀ k,k < cntP p g→(r k:Int)≤M)∧v = .tup [inV (cntP p g) r,.int .i64 0]:=by
 have h:=moves_ok (sysP p g kd) (whole_ok hp hs hg hk h10 hN hNm) (legK p g leg) (fun L hL=>sys_all hp hg hk hS (chs_fine hg hk h10) hL) (MvOk p g M Inv) (sys_mq hp hg hk hS (chs_fine hg hk h10));refine retp_args (args:=[(sysP p g kd).v,blV (cntP p g) (legK p g leg)]) rfl ⟨VLe.rfl,bl_le _ _,True.intro⟩ (fun own ks=>(h own ks).mono ?_);rintro _ _ _ ⟨⟨r,h1,h2,rfl⟩,rfl,rfl⟩;refine ⟨⟨r,fun hM k hk'=>?_,rfl⟩,rfl,rfl⟩;cases e:legK p g leg k with
 | true=>have:=h1 k hk' e;omega
 | false=>exact mv_end hp hg hS e (h2 k hk' e) hM
end
end Go.Proofs.YthbiicpcbnijiaaGreatDoor
namespace Go.Proofs.YthbiicpcbnijiaaGreatDoor
open Go.Eng
set_option maxRecDepth 100000
set_option linter.unusedVariables false
theorem len_le:∀ {l m:List Int},l.Nodup→(∀ a∈l,a∈m)→l.length≤m.length
 | [],m,_,_=>Nat.zero_le _
 | a :: l,m,hn,hs=>by
   rw [List.nodup_cons] at hn;have ham:=hs a (by simp);have h1:=len_le (l:=l) (m:=m.erase a) hn.2 (fun b hb=>(List.mem_erase_of_ne (fun e=>hn.1 (by rw [← e];exact hb))).2 (hs b (by simp [hb])));have h2:=List.length_erase_of_mem ham;have h3:=List.length_pos_of_mem ham;simp only [List.length_cons];omega
def freeF (l:List Int):Nat→Int→Int
 | 0,i=>i
 | f + 1,i=>if i∈l then freeF l f ((i + 1) % 256) else i
def tryI (i:Int) (k:Nat):Int:=(i + k) % 256
theorem tryI_next {i:Int} {k:Nat}:(tryI i k + 1) % 256 = tryI i (k + 1):=by rw [tryI,tryI];omega
theorem free_ends {l:List Int} (hl:l.length < 256) (i:Int):¬ ∀ j,j < 256→tryI i j∈l:=by
 intro h;have h1:((List.range 256).map (tryI i)).Nodup:=by
  rw [List.nodup_iff_pairwise_ne,List.pairwise_map];refine List.Pairwise.imp_of_mem ?_ List.nodup_range;intro a b ha hb hne e;rw [List.mem_range] at ha hb;rw [tryI,tryI] at e;omega
 have h2:=len_le h1 (fun a ha=>by
  obtain ⟨j,hj,rfl⟩:=List.mem_map.1 ha;exact h j (List.mem_range.1 hj))
 simp at h2;omega
def idsF (x:List Int):Nat→List Int
 | 0=>[]
 | v + 1=>idsF x v ++ [freeF (idsF x v) 256 (within (gI x v) 256)]
theorem idsF_len (x:List Int):∀ v,(idsF x v).length = v
 | 0=>rfl
 | v + 1=>by rw [idsF,List.length_append,idsF_len x v];rfl
theorem within_range (a:Int) {b:Int} (hb:1≤b):0≤within a b∧within a b < b:=by
 have h1:=Int.tmod_lt_of_pos a (show (0:Int) < b by omega);have h2:=Int.tmod_lt_of_pos (-a) (show (0:Int) < b by omega);rw [Int.neg_tmod] at h2;rw [within,if_neg (by omega)];split <;> omega
theorem free_spec {l:List Int} {i:Int} (h0:0≤i) (h1:i≤255):∀ f k,k + f = 256→(∀ j,j < k→tryI i j∈l)→l.length < 256→0≤freeF l f (tryI i k)∧freeF l f (tryI i k)≤255∧freeF l f (tryI i k) ∉ l
 | 0,k,hk,hall,hl=>(free_ends hl i (fun j hj=>hall j (by omega))).elim
 | f + 1,k,hk,hall,hl=>by
   rw [freeF];split
   . rename_i hm;rw [tryI_next];exact free_spec h0 h1 f (k + 1) (by omega) (fun j hj=>by
      by_cases e:j = k
      . subst e;exact hm
      . exact hall j (by omega)) hl
   . rename_i hm;refine ⟨?_,?_,hm⟩ <;> (rw [tryI];omega)
theorem try_zero {i:Int} (h0:0≤i) (h1:i≤255):tryI i 0 = i:=by rw [tryI];omega
theorem idsF_ok (x:List Int):∀ v,v≤255→(∀ a∈idsF x v,0≤a∧a≤255)∧(idsF x v).Nodup
 | 0,_=>⟨fun a h=>(by simp [idsF] at h),by simp [idsF]⟩
 | v + 1,hv=>by
   obtain ⟨i1,i2⟩:=idsF_ok x v (by omega);have hw:=within_range (gI x v) (b:=256) (by omega);have hf:=free_spec (l:=idsF x v) (i:=within (gI x v) 256) hw.1 (by omega) 256 0 rfl (fun j hj=>by omega) (by rw [idsF_len];omega);rw [try_zero hw.1 (by omega)] at hf;rw [idsF];refine ⟨fun a ha=>?_,?_⟩
   . rcases List.mem_append.1 ha with h | h
     . exact i1 a h
     . have:a = freeF (idsF x v) 256 (within (gI x v) 256):=by simpa using h
       rw [this];exact ⟨hf.1,hf.2.1⟩
   . rw [List.nodup_append];refine ⟨i2,by simp,fun a ha b hb e=>?_⟩;have:b = freeF (idsF x v) 256 (within (gI x v) 256):=by simpa using hb
     rw [← this,← e] at hf;exact hf.2.2 ha
def ownN (x:Net) (n:Nat):Own:=[(0,.vec n 1 (vI (idsF x.ids n))),(1,.vec n 1 fun _ _=>.nilslice)]
def Net.n1 (x:Net):Int:=IntKind.i64.wrap (x.n - 1)
def Net.size (x:Net) (most:Int):Nat:=(1 + within x.n1 most).toNat
theorem getD_snocI (l:List Int) (a:Int) (i:Nat):gI (l ++ [a]) i = if i < l.length then gI l i else if i = l.length then a else 0:=by
 by_cases h:i < l.length
 . simp only [gI,List.getD,List.getElem?_append_left h,if_pos h]
 . rw [if_neg h];by_cases h2:i = l.length
   . subst h2;simp [gI]
   . simp [gI,h2,List.getElem?_eq_none (by simp;omega:(l ++ [a]).length≤i)]
theorem vle_appI (l:List Int) (a:Int) (n:Nat) (hn:l.length = n) (i j:Nat) (hi:i < n + 1) (hj:j < 1) :
 VLe (fapp (shiftF 0 (vI l)) n (shiftF 0 (tab [[.int .i64 a]])) i j) (vI (l ++ [a]) i j):=by
 apply VLe.of_eq;subst hn;by_cases h:i < l.length
 . rw [fapp_lt h];simp only [shiftF,vI,getD_snocI,if_pos h]
 . rw [fapp_ge h];have:i = l.length:=by omega
   subst this;obtain rfl:j = 0:=by omega
   simp [shiftF,vI,getD_snocI,tab]
set_option maxHeartbeats 8000000 in
theorem nodes_ok (x:Net) (hx:x.Small) (most:Int) (h1:1≤most) (h2:most≤24) :
 CallF Tryz.prog 27 [x.v,.int .i64 most] [] KS fun v own' _=>v = gV1 (x.size most) (x.size most)∧own' = ownN x (x.size most):=by
 have hw:=within_ok x.n1 most (by omega);have hwr:=within_range x.n1 h1;have hn:1 + within x.n1 most = (x.size most:Nat):=by rw [Net.size];omega
 have hsz:1≤x.size most∧x.size most≤24:=by omega
 have hids:=hx.ids;generalize x.size most = n at *;refine call_post ?_;refine fn_rule mixed Tryz.func27 rfl hc27 hr27 rfl ?_
 repeat' ((conv=>whnf);first | (refine Ar.mk x.n1 rfl ?_) | (refine Ar.i64 (by omega) (by omega) ?_;rw [hn]) | (refine Bd.nat (by omega) ?_) | (refine Len.mk (by omega) ?_) | (refine MkS.vec ?_) | (refine hw.go ?_))
 all_goals (conv=>whnf)
 refine loop_u mixed [2,4,5,6] [4] [5,6,7,8,9,10,11,12,13,14,15,16,17,18,19,20,21,22,23,24,25,26,27,28,29] [4,3,2,1,0] (fun v:Nat=>[(7,.int .i64 v)]) (fun own v=>(4,.vec v 1 (vI (idsF x.ids v))) :: updO own 3 (.cells [.vec 4 1 0 v,.vec 2 1 0 n])) (fun m v=>m = n - v∧v≤n) n 0 ⟨rfl,by omega⟩ rfl (fun _=>rfl) ?_ ?_
 . exact weak_b (fun _ _=>[(0,some 0),(1,some 1),(2,some 2),(3,some 3),(4,none)])
 rintro m v ⟨hm,hv⟩;have hat:=at_ok x.ids hids v;have hw2:=within_ok (gI x.ids v) 256 (by omega);have hr2:=within_range (gI x.ids v) (b:=256) (by omega);have hil:=idsF_len x.ids v;have hsn:idsF x.ids (v + 1) = idsF x.ids v ++ [freeF (idsF x.ids v) 256 (within (gI x.ids v) 256)]:=rfl;have htz:=try_zero hr2.1 (by omega);generalize within (gI x.ids v) 256 = id0 at *;generalize hL:idsF x.ids v = L at *
 repeat' ((conv=>whnf);first | (refine Br.dec ?_ ?_ <;> intro _ <;> try omega) | (refine hat.go ?_) | (refine hw2.go ?_))
 all_goals (conv=>whnf)
 . refine loop_r mixed [2,4,5,6,7] (fun p:Nat × Nat=>[(8,.int .i64 (tryI id0 p.1)),(9,.int .i64 p.2)]) (fun m p=>m = (256 - p.1) * 25 + (v - p.2)∧p.1≤256∧p.2≤v∧(∀ j,j < p.1→tryI id0 j∈L)∧(∀ j,j < p.2→gI L j≠tryI id0 p.1)∧freeF L (256 - p.1) (tryI id0 p.1) = freeF L 256 id0) _ (0,0) ⟨rfl,by omega,by omega,fun j hj=>(by omega),fun j hj=>(by omega),(by show freeF L 256 (tryI id0 0) = _;rw [htz])⟩ ?_ ?_
   . refine weak_by (fun _ _=>[(0,some 0),(1,some 1),(2,some 2),(3,some 3),(4,some 4)]) ?_ ?_ rfl
     . repeat' (first | exact VRen.int htz.symm | exact True.intro | (refine ⟨⟨_,rfl,?_⟩,?_⟩) | exact VRen.kf rfl | exact VRen.loc rfl)
     . repeat' (first | exact True.intro | (refine ⟨⟨_,rfl,?_⟩,?_⟩) | exact VRen.kf rfl | exact VRen.vec rfl rfl rfl | (refine ⟨Nat.le_refl _,rfl,fun i j hi hj=>?_⟩) | exact VLe.rfl | (refine And.intro ?_ ?_))
   rintro m ⟨k,u⟩ ⟨hm2,hk,hu,hall,hne,hfr⟩;simp only at hm2 hk hu hall hne hfr;have htr:0≤tryI id0 k∧tryI id0 k≤255:=by rw [tryI];omega
   have htn:(tryI id0 k + 1).tmod 256 = tryI id0 (k + 1):=by rw [Int.tmod_eq_emod_of_nonneg (by omega),tryI_next]
   generalize hT:tryI id0 k = T at *
   repeat' ((conv=>whnf);first | (refine Br.dec ?_ ?_ <;> intro _ <;> try omega) | (refine Br.nbeq ?_ ?_ <;> intro _ <;> try omega) | (refine Ar.i64 (by omega) (by omega) ?_) | (refine Sv.mk _ rfl ?_) | (refine Nz.mk (by omega) ?_) | (refine Ix.nat (by omega) ?_) | (refine Len.mk (by omega) ?_) | (refine Ltn.mk (by omega) ?_))
   all_goals (conv=>whnf)
   . rename_i h3 h4;have hin:T∈L:=by rw [← h4];exact gI_mem (by omega)
     have hk2:k < 256:=by
      rcases Nat.lt_or_ge k 256 with h | h
      . exact h
      . exact (free_ends (l:=L) (by omega) id0 (fun j hj=>hall j (by omega))).elim
     refine ⟨_,(k + 1,0),?_,⟨rfl,by omega,by omega,fun j hj=>?_,fun j hj=>(by omega),?_⟩,?_⟩
     . simp only;omega
     . simp only at hj;by_cases e:j = k
       . subst e;rw [hT];exact hin
       . exact hall j (by omega)
     . simp only;rw [← hfr,show 256 - k = (256 - (k + 1)) + 1 by omega,freeF,if_pos hin,← hT,tryI_next]
     . refine weak_by (fun _ _=>[(0,some 0),(1,some 1),(2,some 2),(3,some 3),(4,some 4)]) ?_ ?_ rfl
       . repeat' (first | exact VRen.int htn | exact True.intro | (refine ⟨⟨_,rfl,?_⟩,?_⟩) | exact VRen.kf rfl | exact VRen.loc rfl)
       . repeat' (first | exact True.intro | (refine ⟨⟨_,rfl,?_⟩,?_⟩) | exact VRen.kf rfl | exact VRen.vec rfl rfl rfl | (refine ⟨Nat.le_refl _,rfl,fun i j hi hj=>?_⟩) | exact VLe.rfl | (refine And.intro ?_ ?_))
   . rename_i h3 h4;refine ⟨_,(k,u + 1),?_,⟨rfl,hk,by omega,hall,fun j hj=>?_,by rw [hT];exact hfr⟩,?_⟩
     . simp only;omega
     . simp only at hj ⊢;rw [hT];by_cases e:j = u
       . subst e;simpa using h4
       . exact hne j (by omega)
     . refine weak_by (fun _ _=>[(0,some 0),(1,some 1),(2,some 2),(3,some 3),(4,some 4)]) ?_ ?_ rfl
       . repeat' (first | exact VRen.int hT.symm | exact True.intro | (refine ⟨⟨_,rfl,?_⟩,?_⟩) | exact VRen.kf rfl | exact VRen.loc rfl)
       . repeat' (first | exact True.intro | (refine ⟨⟨_,rfl,?_⟩,?_⟩) | exact VRen.kf rfl | exact VRen.vec rfl rfl rfl | (refine ⟨Nat.le_refl _,rfl,fun i j hi hj=>?_⟩) | exact VLe.rfl | (refine And.intro ?_ ?_))
   . have hno:T ∉ L:=fun h=>by
      obtain ⟨j,j1,j2⟩:=gI_get h;exact hne j (by omega) j2
     have hfin:freeF L 256 id0 = T:=by
      rw [← hfr];cases h:256 - k with
      | zero=>rfl
      | succ f=>rw [freeF,if_neg hno]
     rw [hfin] at hsn
     repeat' ((conv=>whnf);first | fail)
     all_goals (conv=>whnf)
     all_goals
      refine ⟨n - (v + 1),v + 1,by omega,⟨rfl,by omega⟩,?_⟩;simp only [hsn];refine weak_by (fun env own=>[(0,some 0),(1,some 1),(2,some 2),(3,some 3),(4,ckeyo own 3 0)]) ?_ ?_ rfl
      . repeat' (first | exact True.intro | (refine ⟨⟨_,rfl,?_⟩,?_⟩) | exact VRen.kf rfl | exact VRen.loc rfl)
      . repeat' (first | (refine ⟨Nat.le_refl _,rfl,fun i j hi hj=>?_⟩) | exact vle_appI _ _ _ hil _ _ hi hj | exact True.intro | (refine ⟨⟨_,rfl,?_⟩,?_⟩) | exact VRen.kf rfl | exact VRen.vec rfl rfl rfl | exact VLe.rfl | (refine And.intro ?_ ?_))
 . have e:v = n:=by omega
   subst e;exact postR_byV (fun v o=>[(0,vkey v 0),(1,vkey v 1)]) _ _ ⟨rfl,rfl⟩ (VRen.agg ⟨VRen.vec rfl rfl rfl,VRen.vec rfl rfl rfl,True.intro⟩) ⟨⟨_,rfl,Nat.le_refl _,rfl,fun _ _ _ _=>VLe.of_eq (by rw [hL])⟩,⟨_,rfl,Nat.le_refl _,rfl,fun i j hi hj=>VLe.of_eq (by obtain rfl:j = 0:=(by omega);rfl)⟩,True.intro⟩ rfl
theorem mem_gR {p:Ps} {r:List (Int × Int)} (h:r∈p):∃ u,gR p u = r:=by
 obtain ⟨i,hi,e⟩:=List.mem_iff_getElem.1 h;exact ⟨i,by simp [gR,List.getD,hi,e]⟩
theorem small_of {g:G} (h1:g.ids.length≤1000) (h2:g.ports.length≤1000) (h3:∀ u,(gR g.ports u).length≤1000):g.Small :=
 ⟨by omega,by omega,fun r hr=>by obtain ⟨u,rfl⟩:=mem_gR hr;have:=h3 u;omega⟩
end Go.Proofs.YthbiicpcbnijiaaGreatDoor
namespace Go.Proofs.YthbiicpcbnijiaaGreatDoor
open Go.Eng
set_option maxRecDepth 100000
set_option linter.unusedVariables false
end Go.Proofs.YthbiicpcbnijiaaGreatDoor
namespace Go.Proofs.YthbiicpcbnijiaaGreatDoor
open Go.Eng
set_option maxRecDepth 100000
set_option linter.unusedVariables false
def fzI (l:List Int):Nat→Int→Int
 | 0,i=>i
 | f + 1,i=>if i∈l then fzI l f (i + 1) else i
def freeI (l:List Int):Int:=fzI l 300 0
theorem low_ends {l:List Int} (hl:l.length < 300):¬ ∀ j:Nat,j < 300→(j:Int)∈l:=by
 intro h;have h1:((List.range 300).map fun j:Nat=>(j:Int)).Nodup:=by
  rw [List.nodup_iff_pairwise_ne,List.pairwise_map];refine List.Pairwise.imp_of_mem ?_ List.nodup_range;intro a b _ _ hne e;omega
 have h2:=len_le h1 (fun a ha=>by
  obtain ⟨j,hj,rfl⟩:=List.mem_map.1 ha;exact h j (List.mem_range.1 hj))
 simp at h2;omega
theorem fz_spec {l:List Int}:∀ (f k:Nat),k + f = 300→(∀ j:Nat,j < k→(j:Int)∈l)→l.length < 300→0≤fzI l f k∧fzI l f k≤l.length∧fzI l f k ∉ l
 | 0,k,hk,hall,hl=>(low_ends hl (fun j hj=>hall j (by omega))).elim
 | f + 1,k,hk,hall,hl=>by
   rw [fzI];split
   . rename_i hm;exact fz_spec f (k + 1) (by omega) (fun j hj=>by
      by_cases e:j = k
      . subst e;exact hm
      . exact hall j (by omega)) hl
   . rename_i hm;refine ⟨by omega,?_,hm⟩;have h1:((List.range k).map fun j:Nat=>(j:Int)).Nodup:=by
      rw [List.nodup_iff_pairwise_ne,List.pairwise_map];refine List.Pairwise.imp_of_mem ?_ List.nodup_range;intro a b _ _ hne e;omega
     have h2:=len_le h1 (fun a ha=>by
      obtain ⟨j,hj,rfl⟩:=List.mem_map.1 ha;exact hall j (List.mem_range.1 hj))
     simp at h2;omega
theorem free_spec2 {l:List Int} (hl:l.length < 300):0≤freeI l∧freeI l≤l.length∧freeI l ∉ l:=fz_spec 300 0 rfl (fun j hj=>by omega) hl
def extI:Nat→List Int→List Int
 | 0,l=>l
 | k + 1,l=>extI k (l ++ [freeI l])
theorem extI_len:∀ (k:Nat) (l:List Int),(extI k l).length = l.length + k
 | 0,l=>rfl
 | k + 1,l=>by rw [extI,extI_len k];simp;omega
theorem extI_ok:∀ (k:Nat) (l:List Int),l.length + k≤200→(∀ a∈l,0≤a∧a≤255)→l.Nodup→(∀ a∈extI k l,0≤a∧a≤255)∧(extI k l).Nodup
 | 0,l,_,h1,h2=>⟨h1,h2⟩
 | k + 1,l,hl,h1,h2=>by
   obtain ⟨f1,f2,f3⟩:=free_spec2 (l:=l) (by omega);rw [extI];refine extI_ok k _ (by simp;omega) (fun a ha=>?_) ?_
   . rcases List.mem_append.1 ha with h | h
     . exact h1 a h
     . simp at h;rw [h];omega
   . rw [List.nodup_append];refine ⟨h2,by simp,fun a ha b hb e=>?_⟩;simp at hb;rw [e,hb] at ha;exact f3 ha
def Net.rids (x:Net) (most:Int):List Int:=extI (3 - x.size (most - 2)) (idsF x.ids (x.size (most - 2)))
def rwt (x:Net) (i:Nat):Int:=1 + within (gI x.weights i) 15
def rngR (x:Net) (n v:Nat):List (Int × Int):=[(((v + n - 1) % n:Nat),rwt x ((v + n - 1) % n)),(((v + 1) % n:Nat),rwt x v)]
def Net.ringG (x:Net) (most:Int):G:=⟨x.rids most,(List.range (x.rids most).length).map (rngR x (x.rids most).length)⟩
theorem vle_nils (n i j:Nat) (hi:i < n + 1) (hj:j < 1):VLe (fapp (shiftF 0 fun _ _=>.nilslice) n (shiftF 0 (tab [[.nilslice]])) i j) V.nilslice:=by
 obtain rfl:j = 0:=by omega
 apply VLe.of_eq;by_cases h:i < n
 . rw [fapp_lt h];rfl
 . rw [fapp_ge h,show i - n = 0 by omega];rfl
theorem mod_pred {v n:Nat} (h:v < n):(((v:Int) + n) - 1).tmod n = ((v + n - 1) % n:Nat):=by
 rw [Int.tmod_eq_emod_of_nonneg (by omega),Int.natCast_emod];congr 1;omega
theorem mod_next {v n:Nat}:((v:Int) + 1).tmod n = ((v + 1) % n:Nat):=by
 rw [Int.tmod_eq_emod_of_nonneg (by omega),Int.natCast_emod];rfl
def rowsR (x:Net) (n v:Nat):Nat→Nat→V:=fun i _=>if i < v then .fz 2 2 false (vF (rngR x n i)) else .nilslice
theorem rng_row (x:Net) {n i:Nat} (hi:i < n):gR ((List.range n).map (rngR x n)) i = rngR x n i:=by
 simp [gR,hi]
theorem vle_rows (x:Net) (n v i j:Nat) (hj:j < 1):VLe (fset (rowsR x n v) (0 + v) 0 [.fz 2 2 false (shiftF 0 (tab [[.int .i64 ((v + n - 1) % n:Nat),.int .i64 (1 + within (gI x.weights ((v + n - 1) % n)) 15)],[.int .i64 ((v + 1) % n:Nat),.int .i64 (1 + within (gI x.weights v) 15)]]))] i j) (rowsR x n (v + 1) i j):=by
 obtain rfl:j = 0:=by omega
 rw [Nat.zero_add];by_cases h:i = v
 . subst h;simp only [fset,rowsR];rw [if_pos ⟨trivial,by simp⟩,if_pos (by omega)];refine VLe.fz rfl (fun h=>h) (fun a b ha hb=>?_);rcases (show a = 0∨a = 1 by omega) with rfl | rfl
   all_goals rcases (show b = 0∨b = 1 by omega) with rfl | rfl
   all_goals exact VLe.rfl
 . apply VLe.of_eq;simp only [fset,rowsR];rw [if_neg (by simp [h])];by_cases h2:i < v
   . rw [if_pos h2,if_pos (by omega)]
   . rw [if_neg h2,if_neg (by omega)]
set_option maxHeartbeats 8000000 in
theorem ringNet_ok (x:Net) (hx:x.Small) (most:Int) (h1:3≤most) (h2:most≤26):Ret Tryz.prog 6 [x.v,.int .i64 most] (x.ringG most).v:=by
 have hn:=nodes_ok x hx (most - 2) (by omega) (by omega);have hsz:1≤x.size (most - 2)∧x.size (most - 2)≤24:=by
  have:=within_range x.n1 (b:=most - 2) (by omega);rw [Net.size];omega
 have hwl:=hx.weights;have hG:x.ringG most = ⟨x.rids most,(List.range (x.rids most).length).map (rngR x (x.rids most).length)⟩:=rfl;have hR:x.rids most = extI (3 - x.size (most - 2)) (idsF x.ids (x.size (most - 2))):=rfl;have hil:=idsF_len x.ids (x.size (most - 2));generalize hI:idsF x.ids (x.size (most - 2)) = I at *;generalize x.size (most - 2) = k at *;have hRl:(x.rids most).length = k + (3 - k):=by rw [hR,extI_len];omega
 rw [hG];refine ret_frz rfl ?_;refine fn_rule mixed Tryz.func6 rfl hc6 hr6 rfl ?_
 repeat' ((conv=>whnf);first | (refine Ar.i64 (by omega) (by omega) ?_) | (refine call_by [] [0,1] (hn.mono ?_) ⟨VRen.kf rfl,VRen.kf rfl,True.intro⟩ True.intro rfl;rintro _ _ _ ⟨rfl,rfl⟩) | (refine Chk.mk rfl ?_))
 all_goals (conv=>whnf)
 refine loop_u mixed [2,4,5] [2,3] [5,6,7,8,9,10,11,12,13,14,15,16,17,18,19,20,21,22,23,24,25,26,27,28,29] [4,2,3,1,0] (fun _:List Int=>[])
  (fun own L=>updO (updO (updO own 2 (.vec L.length 1 (vI L))) 3 (.vec L.length 1 fun _ _=>.nilslice)) 4 (.cells [.vec 2 1 0 L.length,.vec 3 1 0 L.length])) (fun m L=>m = 3 - L.length∧1≤L.length∧L.length≤24∧extI (3 - L.length) L = x.rids most) (3 - I.length) I ⟨rfl,by omega,by omega,by rw [hil,hR]⟩ rfl (fun _=>rfl) ?_ ?_
 . subst hil;refine weak_by (fun _ _=>[(0,some 0),(1,some 1),(2,some 2),(3,some 3),(4,some 4)]) ?_ ?_ rfl
   . repeat' (first | exact True.intro | (refine ⟨⟨_,rfl,?_⟩,?_⟩) | exact VRen.loc rfl)
   . repeat' (first | (refine ⟨Nat.le_refl _,rfl,fun i j hi hj=>VLe.of_eq ?_⟩;show vI (idsF x.ids I.length) i j = vI I i j;rw [hI]) | exact True.intro | (refine ⟨⟨_,rfl,?_⟩,?_⟩) | exact VRen.kf rfl | exact VRen.vec rfl rfl rfl | (refine ⟨Nat.le_refl _,rfl,fun i j hi hj=>?_⟩) | exact VLe.rfl | (refine And.intro ?_ ?_))
 rintro m L ⟨hm,hL1,hL2,hext⟩;by_cases h3:L.length < 3
 . have hfs:=free_spec2 (l:=L) (by omega)
   repeat' ((conv=>whnf);first | (refine Br.dec ?_ ?_ <;> intro _ <;> try omega))
   all_goals (conv=>whnf)
   refine loop_r mixed [2,4,5] (fun p:Nat × Nat=>[(6,.int .i64 (p.1:Int)),(7,.int .i64 p.2)]) (fun m p=>m = (300 - p.1) * 25 + (L.length - p.2)∧p.1≤300∧p.2≤L.length∧(∀ j:Nat,j < p.1→(j:Int)∈L)∧(∀ j,j < p.2→gI L j≠p.1)∧fzI L (300 - p.1) p.1 = freeI L) _ (0,0) ⟨rfl,by omega,by omega,fun j hj=>(by omega),fun j hj=>(by omega),rfl⟩ ?_ ?_
   . exact weak_b (fun _ _=>[(0,some 0),(1,some 1),(2,some 2),(3,some 3),(4,some 4)])
   rintro m2 ⟨d,u⟩ ⟨hm2,hd,hu,hall,hne,hfr⟩;simp only at hm2 hd hu hall hne hfr
   repeat' ((conv=>whnf);first | (refine Br.dec ?_ ?_ <;> intro _ <;> try omega) | (refine Br.nbeq ?_ ?_ <;> intro _ <;> try omega) | (refine Ar.i64 (by omega) (by omega) ?_) | (refine Ix.nat (by omega) ?_) | (refine Len.mk (by omega) ?_) | (refine Ltn.mk (by omega) ?_) | (refine And.intro rfl ?_))
   all_goals (conv=>whnf)
   . rename_i q1 q2;have hin:(d:Int)∈L:=by rw [← q2];exact gI_mem (by omega)
     have hk2:d < 300:=by
      rcases Nat.lt_or_ge d 300 with h | h
      . exact h
      . exact (low_ends (l:=L) (by omega) (fun j hj=>hall j (by omega))).elim
     refine ⟨_,(d + 1,0),?_,⟨rfl,by omega,by omega,fun j hj=>?_,fun j hj=>(by omega),?_⟩,?_⟩
     . simp only;omega
     . simp only at hj;by_cases e:j = d
       . subst e;exact hin
       . exact hall j (by omega)
     . simp only;rw [← hfr,show 300 - d = (300 - (d + 1)) + 1 by omega,fzI,if_pos hin];rfl
     . exact weak_b (fun _ _=>[(0,some 0),(1,some 1),(2,some 2),(3,some 3),(4,some 4)])
   . rename_i q1 q2;refine ⟨_,(d,u + 1),?_,⟨rfl,hd,by omega,hall,fun j hj=>?_,hfr⟩,?_⟩
     . simp only;omega
     . simp only at hj ⊢;by_cases e:j = u
       . subst e;simpa using q2
       . exact hne j (by omega)
     . exact weak_b (fun _ _=>[(0,some 0),(1,some 1),(2,some 2),(3,some 3),(4,some 4)])
   . have hno:(d:Int) ∉ L:=fun h=>by
      obtain ⟨j,j1,j2⟩:=gI_get h;exact hne j (by omega) j2
     have hfin:freeI L = (d:Int):=by
      rw [← hfr];cases h:300 - d with
      | zero=>rfl
      | succ f=>rw [fzI,if_neg hno]
     have hll:(L ++ [(d:Int)]).length = L.length + 1:=by simp
     refine ⟨3 - (L.length + 1),L ++ [(d:Int)],by omega,⟨by rw [hll],by rw [hll];omega,by rw [hll];omega,?_⟩,?_⟩
     . rw [← hext,hll,show 3 - L.length = (3 - (L.length + 1)) + 1 by omega,extI,hfin]
     . simp only [hll];refine weak_by (fun env own=>[(0,some 0),(1,some 1),(2,ekey env 40),(3,ekey env 44),(4,some 4)]) ?_ ?_ rfl
       . repeat' (first | exact True.intro | (refine ⟨⟨_,rfl,?_⟩,?_⟩) | exact VRen.loc rfl)
       . repeat' (first | (refine ⟨Nat.le_refl _,rfl,fun i j hi hj=>?_⟩) | exact vle_appI _ _ _ rfl _ _ hi hj | exact vle_nils _ _ _ hi hj | exact True.intro | (refine ⟨⟨_,rfl,?_⟩,?_⟩) | exact VRen.kf rfl | exact VRen.vec rfl rfl rfl | (refine And.intro ?_ ?_))
 . have hrid:L = x.rids most:=by rw [← hext,show 3 - L.length = 0 by omega];rfl
   subst hrid;generalize hL:x.rids most = L at *
   repeat' ((conv=>whnf);first | (refine Br.dec ?_ ?_ <;> intro _ <;> try omega))
   all_goals (conv=>whnf)
   refine loop_u mixed [2,4,5,8] [3] [5,6,7,8,9,10,11,12,13,14,15,16,17,18,19,20,21,22,23,24,25,26,27,28,29] [4,2,3,1,0] (fun v:Nat=>[(9,.int .i64 v)]) (fun own v=>updO own 3 (.vec L.length 1 (rowsR x L.length v))) (fun m v=>m = L.length - v∧v≤L.length) L.length 0 ⟨rfl,by omega⟩ rfl (fun _=>rfl) ?_ ?_
   . exact weak_b (fun _ _=>[(0,some 0),(1,some 1),(2,some 2),(3,some 3),(4,some 4)])
   rintro m v ⟨hm,hv⟩;by_cases hvn:v < L.length
   . have q1:=mod_pred hvn;have q2:=mod_next (v:=v) (n:=L.length);have ha1:=at_ok x.weights hwl ((v + L.length - 1) % L.length);have ha2:=at_ok x.weights hwl v;have hw1:=within_ok (gI x.weights ((v + L.length - 1) % L.length)) 15 (by omega);have hw2:=within_ok (gI x.weights v) 15 (by omega);have hr1:=within_range (gI x.weights ((v + L.length - 1) % L.length)) (b:=15) (by omega);have hr2:=within_range (gI x.weights v) (b:=15) (by omega)
     repeat' ((conv=>whnf);first | (refine Sv.mk (((v + L.length - 1) % L.length:Nat):Int) q1.symm ?_) | (refine Sv.mk (((v + 1) % L.length:Nat):Int) q2.symm ?_) | (refine Br.dec ?_ ?_ <;> intro _ <;> try omega) | (refine Ar.i64 (by omega) (by omega) ?_) | (refine Nz.mk (by omega) ?_) | (refine Ix.nat (by omega) ?_) | (refine Len.mk (by omega) ?_) | (refine Ltn.mk (by omega) ?_) | (refine ha1.go ?_) | (refine ha2.go ?_) | (refine hw1.go ?_) | (refine hw2.go ?_))
     all_goals (conv=>whnf)
     refine ⟨L.length - (v + 1),v + 1,by omega,⟨rfl,by omega⟩,?_⟩;refine weak_by (fun _ _=>[(0,some 0),(1,some 1),(2,some 2),(3,some 3),(4,some 4)]) ?_ ?_ rfl
     . repeat' (first | exact True.intro | (refine ⟨⟨_,rfl,?_⟩,?_⟩) | exact VRen.kf rfl | exact VRen.loc rfl)
     . repeat' (first | exact ⟨Nat.le_refl _,rfl,fun i j hi hj=>vle_rows x L.length v i j hj⟩ | exact True.intro | (refine ⟨⟨_,rfl,?_⟩,?_⟩) | exact VRen.kf rfl | exact VRen.vec rfl rfl rfl | (refine ⟨Nat.le_refl _,rfl,fun i j hi hj=>?_⟩) | exact VLe.rfl | (refine And.intro ?_ ?_))
   . repeat' ((conv=>whnf);first | (refine Br.dec ?_ ?_ <;> intro _ <;> try omega) | (refine Len.mk (by omega) ?_))
     all_goals (conv=>whnf)
     have ev:v = L.length:=by omega
     subst ev;refine VLe.agg ⟨VLe.fz rfl (fun h=>h) (fun i j hi hj=>VLe.of_eq (by simp [shiftF])),VLe.fz (by simp) (fun h=>h) (fun i j hi hj=>?_),True.intro⟩;have e1:shiftF 0 (rowsR x L.length L.length) i j = .fz 2 2 false (vF (rngR x L.length i)):=by simp [shiftF,rowsR,hi]
     have e2:vP ((List.range L.length).map (rngR x L.length)) i j = .fz 2 2 false (vF (rngR x L.length i)):=by simp only [vP,rng_row x hi];rfl
     exact VLe.of_eq (e1.trans e2.symm)
theorem rids_facts (x:Net) {most:Int} (h1:3≤most) (h2:most≤26):3≤(x.rids most).length∧(x.rids most).length≤24∧(∀ a∈x.rids most,0≤a∧a≤255)∧(x.rids most).Nodup:=by
 have hsz:1≤x.size (most - 2)∧x.size (most - 2)≤24:=by
  have:=within_range x.n1 (b:=most - 2) (by omega);rw [Net.size];omega
 have hil:=idsF_len x.ids (x.size (most - 2));obtain ⟨i1,i2⟩:=idsF_ok x.ids (x.size (most - 2)) (by omega);have hl:(x.rids most).length = x.size (most - 2) + (3 - x.size (most - 2)):=by rw [Net.rids,extI_len];omega
 obtain ⟨e1,e2⟩:=extI_ok (3 - x.size (most - 2)) _ (by omega) i1 i2;exact ⟨by omega,by omega,e1,e2⟩
theorem rwt_range (x:Net) (i:Nat):1≤rwt x i∧rwt x i≤15:=by
 have:=within_range (gI x.weights i) (b:=15) (by omega);rw [rwt];omega
theorem prev_next {n v:Nat} (h3:3≤n) (hv:v < n):(v + n - 1) % n < n∧(v + n - 1) % n≠v∧(v + 1) % n < n∧(v + 1) % n≠v∧(v + n - 1) % n≠(v + 1) % n∧((v + n - 1) % n + 1) % n = v∧((v + 1) % n + n - 1) % n = v:=by
 have hp:(v + n - 1) % n = if v = 0 then n - 1 else v - 1:=by
  split
  . rename_i h;subst h;rw [Nat.zero_add,Nat.mod_eq_of_lt (by omega)]
  . rw [show v + n - 1 = v - 1 + n by omega,Nat.add_mod_right,Nat.mod_eq_of_lt (by omega)]
 have hn:(v + 1) % n = if v + 1 = n then 0 else v + 1:=by
  split
  . rename_i h;rw [h,Nat.mod_self]
  . rw [Nat.mod_eq_of_lt (by omega)]
 rw [hp,hn];refine ⟨by split <;> omega,by split <;> omega,by split <;> omega,by split <;> omega,by split <;> split <;> omega,?_,?_⟩
 . split
   . rename_i h;subst h;rw [show n - 1 + 1 = n by omega,Nat.mod_self]
   . rw [show v - 1 + 1 = v by omega,Nat.mod_eq_of_lt hv]
 . split
   . rename_i h;rw [Nat.zero_add,Nat.mod_eq_of_lt (by omega)];omega
   . rw [show v + 1 + n - 1 = v + n by omega,Nat.add_mod_right,Nat.mod_eq_of_lt hv]
theorem ringG_ok (x:Net) {most:Int} (h1:3≤most) (h2:most≤26):(x.ringG most).rfit = true∧(x.ringG most).Small:=by
 obtain ⟨r1,r2,r3,r4⟩:=rids_facts x h1 h2;generalize hL:x.rids most = L at *;have hG:x.ringG most = ⟨L,(List.range L.length).map (rngR x L.length)⟩:=by rw [Net.ringG,hL]
 rw [hG];have hpl:((List.range L.length).map (rngR x L.length)).length = L.length:=by simp
 refine ⟨?_,?_⟩
 . simp only [G.rfit,Bool.and_eq_true];refine ⟨?_,ring_iff.2 ⟨r1,fun v hv=>?_⟩⟩
   . simp only [G.valid,Bool.and_eq_true,decide_eq_true_eq,portsOk];refine ⟨⟨by omega,r2,hpl⟩,(idsOk_iff _).2 ⟨r3,r4⟩,rowsOk_iff.2 fun v hv=>?_,symOk_iff.2 fun v hv l hl=>?_⟩
     . rw [hpl] at hv ⊢;rw [rng_row x hv];obtain ⟨a1,a2,a3,a4,a5,a6,a7⟩:=prev_next r1 hv;have w1:=rwt_range x ((v + L.length - 1) % L.length);have w2:=rwt_range x v;simp only [okR,rngR,okL,List.all_cons,List.all_nil,Bool.and_eq_true,decide_eq_true_eq,List.map_cons,List.map_nil,Bool.and_true];refine ⟨⟨⟨by omega,by omega,by omega,by omega,by omega⟩,⟨by omega,by omega,by omega,by omega,by omega⟩⟩,?_⟩;simp only [List.nodup_cons,List.mem_singleton,List.not_mem_nil,not_false_eq_true,List.nodup_nil,and_true];omega
     . rw [hpl] at hv;rw [rng_row x hv] at hl;obtain ⟨a1,a2,a3,a4,a5,a6,a7⟩:=prev_next r1 hv;simp only [rngR,List.mem_cons,List.not_mem_nil,or_false] at hl;rcases hl with rfl | rfl
       . simp only [Int.toNat_natCast];rw [rng_row x a1];simp [rngR,a6]
       . simp only [Int.toNat_natCast];rw [rng_row x a3];simp [rngR,a7]
   . rw [hpl] at hv;rw [rng_row x hv];exact fitR_iff.2 ⟨rfl,(mod_pred hv).symm,mod_next.symm⟩
 . refine small_of (show L.length≤1000 by omega) (show ((List.range L.length).map (rngR x L.length)).length≤1000 by rw [hpl];omega) fun u=>?_;show (gR ((List.range L.length).map (rngR x L.length)) u).length≤1000;by_cases hu:u < L.length
   . rw [rng_row x hu];simp [rngR]
   . rw [show gR ((List.range L.length).map (rngR x L.length)) u = [] by simp only [gR,List.getD];rw [List.getElem?_eq_none (by rw [hpl];omega)];rfl];simp
end Go.Proofs.YthbiicpcbnijiaaGreatDoor
namespace Go.Proofs.YthbiicpcbnijiaaGreatDoor
open Go.Eng
set_option maxRecDepth 100000
set_option linter.unusedVariables false
def hdT:Tm:=.agg 29 (.leaf 12 0)
def ownT:Tm:=.leaf 5 0
def pRing:Pr:=⟨ByteArray.mk #[114,105,110,103],vX,[⟨ByteArray.mk #[116,117,114,110],.bin 41 (.leaf 10 0) (.bin 35 ownT hdT),[(0,.bin 32 (.bin 33 ownT (.leaf 1 1)) (.bin 33 (.leaf 6 0) (.leaf 1 1)))]⟩,
 ⟨ByteArray.mk #[99,111,112,121],.bin 41 (.un 19 (.leaf 10 0)) (.bin 36 ownT hdT),[(0,hdT)]⟩]⟩
theorem tru_ne (b:Bool):(truI b≠0)↔b = true:=by cases b <;> simp [truI]
theorem tru_eq0 (b:Bool):(truI b = 0)↔b = false:=by cases b <;> simp [truI]
def prevN (n v:Nat):Nat:=(v + n - 1) % n
theorem ring_row {g:G} (h:g.rfit = true) {v:Nat} (hv:v < g.ids.length):(gR g.ports v).length = 2∧(gF (gR g.ports v) 0).1 = (prevN g.ids.length v:Nat)∧(gF (gR g.ports v) 1).1 = ((v + 1) % g.ids.length:Nat):=by
 obtain ⟨h1,h2,h3,h4⟩:=rfit_facts h;simp only [G.rfit,Bool.and_eq_true] at h;obtain ⟨r1,r2⟩:=ring_iff.1 h.2;obtain ⟨q1,q2,q3⟩:=fitR_iff.1 (r2 v (by omega));refine ⟨q1,?_,?_⟩
 . rw [q2,prevN,← mod_facts hv]
 . rw [q3,Int.tmod_eq_emod_of_nonneg (by omega)]
   norm_cast
theorem hd_sem {g:G} (h:g.rfit = true) (c:Cf) {v:Nat} (hv:v < g.ids.length) (port:Int):hdT.sem g c v port = x0 c (prevN g.ids.length v):=by
 obtain ⟨h1,h2,h3⟩:=ring_row h hv;have:(List.range 2).map (fun i:Nat=>(Tm.leaf 12 0).sem g c v (i:Nat)) = [gI (gC c (nbV g v 0)) 0,gI (gC c (nbV g v 1)) 0]:=rfl;simp only [hdT,Tm.sem,h1];show fldI 29 [gI (gC c (nbV g v 0)) 0,gI (gC c (nbV g v 1)) 0] = _;show gI (gC c (nbV g v 0)) 0 = _;simp only [nbV,Int.toNat_zero,h2,Int.toNat_natCast]
theorem own_sem (g:G) (c:Cf) (v:Nat) (port:Int):ownT.sem g c v port = x0 c v:=rfl
theorem ring_gds {g:G} (h:g.rfit = true) (c:Cf) {v:Nat} (hv:v < g.ids.length):gds pRing g c v = [truI (decide (v = 0) && decide (x0 c v = x0 c (prevN g.ids.length v))),truI (!decide (v = 0) && !decide (x0 c v = x0 c (prevN g.ids.length v)))]:=by
 have e1:(Tm.bin 41 (.leaf 10 0) (.bin 35 ownT hdT)).sem g c v (-1) = truI (decide (v = 0) && decide (x0 c v = x0 c (prevN g.ids.length v))):=by
  simp only [Tm.sem,hd_sem h c hv,own_sem];show truI (decide (truI (decide (v = 0))≠0∧truI (decide (x0 c v = x0 c (prevN g.ids.length v)))≠0)) = _;congr 1;simp only [tru_ne,decide_eq_true_eq,Bool.decide_and]
 have e2:(Tm.bin 41 (.un 19 (.leaf 10 0)) (.bin 36 ownT hdT)).sem g c v (-1) = truI (!decide (v = 0) && !decide (x0 c v = x0 c (prevN g.ids.length v))):=by
  simp only [Tm.sem,hd_sem h c hv,own_sem];show truI (decide (truI (decide (truI (decide (v = 0)) = 0))≠0∧truI (decide (x0 c v≠x0 c (prevN g.ids.length v)))≠0)) = _;congr 1;simp only [tru_ne,decide_eq_true_eq,Bool.decide_and,tru_eq0,decide_eq_false_iff_not];simp
 exact congr (congrArg List.cons e1) (congrArg (fun x=>[x]) e2)
theorem ring_rule {g:G} (h:g.rfit = true) (c:Cf) {v:Nat} (hv:v < g.ids.length):decide (0≤ruleI pRing g c v) = pv c g.ids.length v:=by
 rw [ruleI,ring_gds h c hv,pv];show decide (0≤idxI 0 _) = (decide (x0 c v = x0 c (prevN g.ids.length v)) == decide (v = 0));cases decide (v = 0) <;> cases decide (x0 c v = x0 c (prevN g.ids.length v)) <;> rfl
theorem ring_en {g:G} (h:g.rfit = true) {c:Cf} (hc:g.rconf c = true):enN pRing g c = g.rpriv c:=by
 have hl:c.length = g.ids.length:=(conf_small hc).1;rw [G.rpriv,h,hc,if_pos (by rfl),enN,hl];exact nb_ext fun v hv=>ring_rule h c hv
def cntB (p:Nat→Bool):Nat→Nat
 | 0=>0
 | n + 1=>cntB p n + if p n then 1 else 0
theorem cntB_shift (p:Nat→Bool):∀ n,cntB p (n + 1) = (if p 0 then 1 else 0) + cntB (fun v=>p (v + 1)) n
 | 0=>by simp [cntB]
 | n + 1=>by rw [cntB,cntB_shift p n,cntB];omega
theorem chg_cnt (c:Cf):∀ k,chg c k = cntB (fun v=>!decide (x0 c v = x0 c (v + 1))) k
 | 0=>rfl
 | k + 1=>by
   rw [chg,cntB,← chg_cnt c k];by_cases h:x0 c k = x0 c (k + 1) <;> simp [h]
theorem cntB_ext {p q:Nat→Bool}:∀ {n:Nat},(∀ v,v < n→p v = q v)→cntB p n = cntB q n
 | 0,_=>rfl
 | n + 1,h=>by
   have h1:=cntB_ext (n:=n) fun v hv=>h v (by omega);simp only [cntB,h1,h n (by omega)]
theorem chg_zero {c:Cf}:∀ {k:Nat},chg c k = 0→x0 c 0 = x0 c k
 | 0,_=>rfl
 | k + 1,h=>by
   by_cases e:x0 c k = x0 c (k + 1)
   . rw [chg_eq e] at h;exact (chg_zero h).trans e
   . rw [chg_ne e] at h;omega
theorem chg_one {c:Cf}:∀ {k:Nat},chg c k = 1→x0 c 0≠x0 c k
 | 0,h=>by simp [chg] at h
 | k + 1,h=>by
   by_cases e:x0 c k = x0 c (k + 1)
   . rw [chg_eq e] at h;rw [← e];exact chg_one h
   . rw [chg_ne e] at h;have:=chg_zero (show chg c k = 0 by omega);rw [this];exact e
theorem priv_cnt {c:Cf} {n:Nat} (hn:1≤n):cntB (pv c n) n = (if x0 c 0 = x0 c (n - 1) then 1 else 0) + chg c (n - 1):=by
 obtain ⟨m,rfl⟩:∃ m,n = m + 1:=⟨n - 1,by omega⟩;rw [cntB_shift,pv_zero (by omega),chg_cnt];congr 1
 . simp
 . show cntB _ m = cntB _ m;refine cntB_ext fun v hv=>?_;show pv c (m + 1) (v + 1) = _;rw [pv_pos (by omega) (by omega)];show (!decide (x0 c (v + 1) = x0 c v)) = _;congr 1;exact decide_eq_decide.2 ⟨fun h=>h.symm,fun h=>h.symm⟩
theorem priv_one {c:Cf} {n:Nat} (hn:1≤n):1≤cntB (pv c n) n∧(cntB (pv c n) n = 1↔chg c (n - 1)≤1):=by
 rw [priv_cnt hn];by_cases h0:chg c (n - 1) = 0
 . rw [if_pos (chg_zero h0)];omega
 . by_cases h1:chg c (n - 1) = 1
   . rw [if_neg (chg_one h1)];omega
   . split <;> omega
theorem nb_plus {p:Nat→Bool} {n:Nat} (h:p n = true):nb p (n + 1) = nb p n + 2 ^ n:=by
 have:=Nat.two_pow_add_eq_or_of_lt (nb_pow p n) 1;rw [Nat.mul_one] at this;rw [nb_yes h,Nat.or_comm,← this,Nat.add_comm]
theorem nb_cnt0 {p:Nat→Bool}:∀ {n:Nat},cntB p n = 0↔nb p n = 0
 | 0=>by simp [cntB,nb]
 | n + 1=>by
   have ih:=nb_cnt0 (p:=p) (n:=n);cases e:p n with
   | false=>rw [nb_no e,cntB,e];simpa using ih
   | true =>
     rw [nb_plus e,cntB,e];have:0 < 2 ^ n:=Nat.two_pow_pos n;constructor
     . intro h;simp at h
     . intro h;have:0 < 2 ^ n:=Nat.two_pow_pos n;omega
theorem and_pred_of_low {a k:Nat} (ha:a < 2 ^ k) (h0:a≠0):(a + 2 ^ k) &&& (a + 2 ^ k - 1)≠0:=by
 intro h;have h1:(a + 2 ^ k).testBit k = true:=by
  rw [Nat.add_comm,Nat.testBit_two_pow_add_eq];simp [Nat.testBit_lt_two_pow ha]
 have h2:(a + 2 ^ k - 1).testBit k = true:=by
  rw [show a + 2 ^ k - 1 = 2 ^ k + (a - 1) by omega,Nat.testBit_two_pow_add_eq];simp [Nat.testBit_lt_two_pow (show a - 1 < 2 ^ k by omega)]
 have:((a + 2 ^ k) &&& (a + 2 ^ k - 1)).testBit k = true:=by rw [Nat.testBit_and,h1,h2];rfl
 rw [h] at this;simp at this
theorem nb_single {p:Nat→Bool}:∀ {n:Nat},(nb p n &&& (nb p n - 1) = 0↔cntB p n≤1)
 | 0=>by simp [cntB,nb]
 | n + 1=>by
   cases e:p n with
   | false=>rw [nb_no e,cntB,e];simpa using nb_single (p:=p) (n:=n)
   | true =>
     rw [nb_plus e,cntB,e];by_cases h:nb p n = 0
     . have h0:=nb_cnt0.2 h;rw [h,h0];simp only [Nat.zero_add,if_true,Nat.le_refl,iff_true];rw [Nat.and_two_pow_sub_one_eq_mod,Nat.mod_self]
     . have hc:cntB p n≠0:=fun h2=>h (nb_cnt0.1 h2);constructor
       . intro h2;exact (and_pred_of_low (nb_pow p n) h h2).elim
       . intro h2;simp at h2;omega
theorem ring_tokens {g:G} (h:g.rfit = true) {c:Cf} (hc:g.rconf c = true):g.rpriv c≠0∧(g.rlegit c = true↔g.rpriv c &&& (g.rpriv c - 1) = 0):=by
 obtain ⟨h1,h2,h3,h4⟩:=rfit_facts h;have hl:c.length = g.ids.length:=(conf_small hc).1;obtain ⟨p1,p2⟩:=priv_one (c:=c) (n:=c.length) (by omega);have e:g.rpriv c = nb (pv c c.length) c.length:=by rw [G.rpriv,h,hc,if_pos (by rfl)]
 rw [e,nb_single,G.rlegit,h,hc,Bool.true_and,Bool.true_and,decide_eq_true_eq];refine ⟨fun h0=>?_,?_⟩
 . have:=nb_cnt0.2 h0;omega
 . omega
end Go.Proofs.YthbiicpcbnijiaaGreatDoor
namespace Go.Eng
open Go.MapKept (bytes_beq)
noncomputable def fN {β:Type} (n:Nat) (K:Nat→β):β:=@Nat.rec (fun _=>β) (K 0) (fun m _=>K (Nat.succ m)) n
theorem fN_eq {β:Type} (n:Nat) (K:Nat→β):fN n K = K n:=by cases n <;> rfl
noncomputable def fI {β:Type} (n:Int) (K:Int→β):β:=@Int.rec (fun _=>β) (fun a=>fN a fun a=>K (.ofNat a)) (fun a=>fN a fun a=>K (.negSucc a)) n
theorem fI_eq {β:Type} (n:Int) (K:Int→β):fI n K = K n:=by cases n <;> simp [fI,fN_eq]
noncomputable def fB {β:Type} (b:Bool) (K:Bool→β):β:=@Bool.rec (fun _=>β) (K false) (K true) b
theorem fB_eq {β:Type} (b:Bool) (K:Bool→β):fB b K = K b:=by cases b <;> rfl
noncomputable def lk {α:Type} (l:List (Nat × α)) (t:Nat):Option α :=
 @List.rec (Nat × α) (fun _=>Option α) none (fun p _ ih=>@Prod.rec Nat α (fun _=>Option α) (fun k v=>@Bool.rec (fun _=>Option α) ih (some v) (Nat.beq k t)) p) l
theorem lk_eq {α:Type} (l:List (Nat × α)) (t:Nat):lk l t = look l t:=by
 induction l with
 | nil=>rfl
 | cons p r ih =>
   obtain ⟨k,v⟩:=p;unfold look;show @Bool.rec (fun _=>Option α) (lk r t) (some v) (Nat.beq k t) = _;cases Nat.beq k t <;> simp [ih]
noncomputable def nt {α:Type} (l:List α) (n:Nat):Option α :=
 @List.rec α (fun _=>Nat→Option α) (fun _=>none) (fun x _ ih n=>@Nat.rec (fun _=>Option α) (some x) (fun m _=>ih m) n) l n
theorem nt_eq {α:Type} (l:List α) (n:Nat):nt l n = nth l n:=by
 induction l generalizing n with
 | nil=>rfl
 | cons x r ih=>cases n with
   | zero=>rfl
   | succ n=>exact ih n
theorem nth_get {α:Type}:∀ (l:List α) (n:Nat),nth l n = l[n]?
 | [],n=>by simp [nth]
 | x :: r,0=>by simp [nth]
 | x :: r,n + 1=>by simp [nth,nth_get r n]
noncomputable def dr {α:Type} (l:List α) (n:Nat):List α :=
 @List.rec α (fun _=>Nat→List α) (fun _=>[]) (fun x r ih n=>@Nat.rec (fun _=>List α) (x :: r) (fun m _=>ih m) n) l n
theorem dr_eq {α:Type} (l:List α) (n:Nat):dr l n = l.drop n:=by
 induction l generalizing n with
 | nil=>simp [dr]
 | cons x r ih=>cases n with
   | zero=>rfl
   | succ n=>exact ih n
noncomputable def fH {α β:Type} (l:List α) (K:List α→β):β:=@List.rec α (fun _=>β) (K []) (fun x r _=>K (x :: r)) l
theorem fH_eq {α β:Type} (l:List α) (K:List α→β):fH l K = K l:=by cases l <;> rfl
noncomputable def tk {α β:Type} (n:Nat):List α→(List α→Option β)→Option β :=
 @Nat.rec (fun _=>List α→(List α→Option β)→Option β) (fun _ K=>K []) (fun _ ih l K=>@List.rec α (fun _=>Option β) none (fun x r _=>ih r fun q=>K (x :: q)) l) n
theorem tk_eq {α β:Type} (n:Nat) (l:List α) (K:List α→Option β):tk n l K = if n≤l.length then K (l.take n) else none:=by
 induction n generalizing l K with
 | zero=>simp only [Nat.zero_le,if_true,List.take_zero];rfl
 | succ n ih=>cases l with
   | nil=>rfl
   | cons x r =>
     show tk n r (fun q=>K (x :: q)) = _;rw [ih];simp
def bl:Nat→Nat→List UInt8
 | 0,_=>[]
 | l + 1,c=>UInt8.ofNat (c % 256) :: bl l (c / 256)
def bytesOf (l c:Nat):ByteArray:=⟨⟨bl l c⟩⟩
def encL:List UInt8→Nat
 | []=>0
 | b :: r=>b.toNat + 256 * encL r
theorem bl_length:∀ (l c:Nat),(bl l c).length = l
 | 0,_=>rfl
 | l + 1,c=>by simp [bl,bl_length]
theorem bl_enc:∀ (l:List UInt8),bl l.length (encL l) = l
 | []=>rfl
 | b :: r=>by
   have hb:=b.toNat_lt;simp only [List.length_cons,bl,encL];rw [show (b.toNat + 256 * encL r) % 256 = b.toNat by omega,show (b.toNat + 256 * encL r) / 256 = encL r by omega,bl_enc r];simp
theorem bl_get:∀ (l c m:Nat),m < l→(bl l c)[m]? = some (UInt8.ofNat (c / 256 ^ m % 256))
 | 0,c,m,h=>by omega
 | l + 1,c,0,h=>by simp [bl]
 | l + 1,c,m + 1,h=>by
   simp only [bl,List.getElem?_cons_succ];rw [bl_get l _ m (by omega),Nat.div_div_eq_div_mul,Nat.pow_succ,Nat.mul_comm 256]
theorem bl_drop:∀ (l c m:Nat),(bl l c).drop m = bl (l - m) (c / 256 ^ m)
 | 0,c,m=>by simp [bl]
 | l + 1,c,0=>by simp
 | l + 1,c,m + 1=>by
   simp only [bl,List.drop_succ_cons];rw [bl_drop l _ m,Nat.div_div_eq_div_mul,Nat.pow_succ,Nat.mul_comm 256,show l + 1 - (m + 1) = l - m by omega]
theorem bl_take:∀ (l c m:Nat),m≤l→(bl l c).take m = bl m c
 | l,c,0,h=>by simp [bl]
 | 0,c,m + 1,h=>by omega
 | l + 1,c,m + 1,h=>by simp [bl,bl_take l _ m (by omega)]
theorem bl_mod:∀ (l c:Nat),bl l (c % 256 ^ l) = bl l c
 | 0,c=>rfl
 | l + 1,c=>by
   simp only [bl];have h1:c % 256 ^ (l + 1) % 256 = c % 256:=by
    rw [Nat.pow_succ,Nat.mul_comm];exact Nat.mod_mul_right_mod _ _ _
   have h2:c % 256 ^ (l + 1) / 256 = c / 256 % 256 ^ l:=by
    rw [Nat.pow_succ,Nat.mul_comm,Nat.mod_mul_right_div_self]
   rw [h1,h2,bl_mod]
theorem bl_inj:∀ (l c d:Nat),bl l c = bl l d→c % 256 ^ l = d % 256 ^ l
 | 0,c,d,_=>by simp [Nat.mod_one]
 | l + 1,c,d,h=>by
   simp only [bl,List.cons.injEq] at h;have h1:c % 256 = d % 256:=by
    have:=congrArg UInt8.toNat h.1;simpa using this
   have h2:=bl_inj l _ _ h.2;rw [Nat.pow_succ,Nat.mul_comm,Nat.mod_mul,Nat.mod_mul,h1,h2]
theorem bl_app:∀ (l c l' c':Nat),bl l c ++ bl l' c' = bl (l + l') (c % 256 ^ l + 256 ^ l * c')
 | 0,c,l',c'=>by simp [bl,Nat.mod_one]
 | l + 1,c,l',c'=>by
   rw [show l + 1 + l' = (l + l') + 1 by omega];simp only [bl,List.cons_append];rw [bl_app l _ l' c'];have e:c % 256 ^ (l + 1) = c % 256 + 256 * (c / 256 % 256 ^ l):=by
    rw [Nat.pow_succ,Nat.mul_comm (256 ^ l),Nat.mod_mul]
   have e2:256 ^ (l + 1) * c' = 256 * (256 ^ l * c'):=by rw [Nat.pow_succ,Nat.mul_comm (256 ^ l),Nat.mul_assoc]
   rw [e,e2];have hlt:c % 256 < 256:=Nat.mod_lt _ (by omega);rw [show (c % 256 + 256 * (c / 256 % 256 ^ l) + 256 * (256 ^ l * c')) % 256 = c % 256 by omega,show (c % 256 + 256 * (c / 256 % 256 ^ l) + 256 * (256 ^ l * c')) / 256 = c / 256 % 256 ^ l + 256 ^ l * c' by omega]
theorem bytesOf_size (l c:Nat):(bytesOf l c).size = l:=by
 show (bl l c).length = l;exact bl_length l c
theorem bytesOf_enc (b:ByteArray):bytesOf b.size (encL b.data.toList) = b:=by
 obtain ⟨⟨l⟩⟩:=b;show ByteArray.mk ⟨bl l.length (encL l)⟩ = _;rw [bl_enc]
theorem bytesOf_get (l c m:Nat) (h:m < l):((bytesOf l c).get! m).toNat = c / 256 ^ m % 256:=by
 have h1:=bl_get l c m h;show ((bytesOf l c).data[m]!).toNat = _;have:(bytesOf l c).data[m]! = UInt8.ofNat (c / 256 ^ m % 256):=by
  rw [getElem!_def,show (bytesOf l c).data[m]? = some (UInt8.ofNat (c / 256 ^ m % 256)) from by simpa [bytesOf] using h1]
 rw [this];simp
theorem bytesOf_extract (l c lo hi:Nat) (h:hi≤l):(bytesOf l c).extract lo hi = bytesOf (hi - lo) (c / 256 ^ lo):=by
 apply ByteArray.ext;rw [ByteArray.data_extract];show (Array.mk (bl l c)).extract lo hi = Array.mk (bl (hi - lo) (c / 256 ^ lo));apply Array.ext';simp only [Array.toList_extract,List.extract_eq_take_drop];rw [bl_drop,bl_take _ _ _ (by omega)]
theorem bytesOf_mod (l c:Nat):bytesOf l (c % 256 ^ l) = bytesOf l c:=by unfold bytesOf;rw [bl_mod]
theorem bytesOf_app (l c l' c':Nat):bytesOf l c ++ bytesOf l' c' = bytesOf (l + l') (c % 256 ^ l + 256 ^ l * c'):=by
 apply ByteArray.ext;rw [ByteArray.data_append];show Array.mk (bl l c) ++ Array.mk (bl l' c') = Array.mk _;simp [bl_app]
def eqS (l c l' c':Nat):Bool:=match Nat.beq l l' with
 | true=>Nat.beq (Nat.mod c (Nat.pow 256 l)) (Nat.mod c' (Nat.pow 256 l))
 | false=>false
theorem eqS_eq (l c l' c':Nat):eqS l c l' c' = (bytesOf l c == bytesOf l' c'):=by
 unfold eqS;have hb:(bytesOf l c == bytesOf l' c') = decide (bytesOf l c = bytesOf l' c'):=by
  rw [Bool.eq_iff_iff,bytes_beq];simp
 rw [hb];split
 . rename_i h;have h:=Nat.eq_of_beq_eq_true h;subst h;rw [Bool.eq_iff_iff,Nat.beq_eq,decide_eq_true_eq];constructor
   . intro h;have h:c % 256 ^ l = c' % 256 ^ l:=h;rw [← bytesOf_mod l c,h,bytesOf_mod]
   . intro h;exact bl_inj l c c' (by simpa [bytesOf] using h)
 . rename_i h;symm;rw [decide_eq_false_iff_not];intro e;have:=congrArg ByteArray.size e;rw [bytesOf_size,bytesOf_size] at this;subst this;simp at h
inductive C where
 | nilptr | nilmap | nilfunc | niliface
 | unit
 | map (k:Nat)
 | fn (f:Fn) (b:Bool) (cap:List C)
 | iface (t:TypeId) (v:C)
 | fe (n s:Nat) (z:List C) (rows:List (List C)) (i j:Nat)
 | oel (k s i j:Nat)
 | fz (n s:Nat) (full:Bool) (z:List C) (rows:List (List C))
 | tup (vs:List C)
 | agg (cs:List C)
 | nilslice
 | vec (k s lo len:Nat)
 | loc (k off:Nat)
 | str (l c:Nat)
 | bool (b:Bool)
 | int (k:IntKind) (n:Int)
 deriving Inhabited
def lastV:List V→V
 | []=>default
 | [v]=>v
 | _ :: r=>lastV r
def tabz (z:List V) (rows:List (List V)):Nat→Nat→V:=fun i j=>(rows.getD i z).getD j (lastV z)
mutual
def C.v:C→V
 | .bool b=>.bool b
 | .int k n=>.int k n
 | .str l c=>.str (bytesOf l c)
 | .nilptr=>.nilptr | .nilslice=>.nilslice | .nilmap=>.nilmap | .nilfunc=>.nilfunc | .niliface=>.niliface
 | .loc k off=>.loc k off
 | .oel k s i j=>.oel k s i j
 | .vec k s lo len=>.vec k s lo len
 | .fz n s full z rows=>.fz n s full (tabz (C.vs z) (C.vss rows))
 | .fe n s z rows i j=>.fe n s (tabz (C.vs z) (C.vss rows)) i j
 | .map k=>.map k
 | .fn f b cap=>.fn f b (C.vs cap)
 | .iface t v=>.iface t v.v
 | .agg cs=>.agg (C.vs cs)
 | .tup cs=>.tup (C.vs cs)
 | .unit=>.raw (.tuple #[])
def C.vs:List C→List V
 | []=>[]
 | c :: r=>c.v :: C.vs r
def C.vss:List (List C)→List (List V)
 | []=>[]
 | c :: r=>C.vs c :: C.vss r
end
theorem C.vs_map:∀ (l:List C),C.vs l = l.map C.v
 | []=>by simp [C.vs]
 | c :: r=>by simp [C.vs,C.vs_map r]
theorem C.vss_map:∀ (l:List (List C)),C.vss l = l.map C.vs
 | []=>by simp [C.vss]
 | c :: r=>by simp [C.vss,C.vss_map r]
theorem C.vs_length (l:List C):(C.vs l).length = l.length:=by simp [C.vs_map]
theorem C.vs_get (l:List C) (i:Nat):(C.vs l)[i]? = (l[i]?).map C.v:=by simp [C.vs_map]
theorem C.vss_get (l:List (List C)) (i:Nat):(C.vss l)[i]? = (l[i]?).map C.vs:=by simp [C.vss_map]
abbrev CEnv:=List (Nat × C)
inductive CB where
 | cells (cs:List C)
 | vec (n s:Nat) (z:List C) (rows:List (List C))
 | map (ik:IntKind) (es:List (Int × C))
 | mapS (es:List ((Nat × Nat) × C))
 deriving Inhabited
abbrev COwn:=List (Nat × CB)
def CB.b:CB→Blk
 | .cells cs=>.cells (C.vs cs)
 | .vec n s z rows=>.vec n s (tabz (C.vs z) (C.vss rows))
 | .map ik es=>.map (.one ik) (es.map fun p=>(p.1,p.2.v))
 | .mapS es=>.map .str (es.map fun p=>(bytesOf p.1.1 p.1.2,p.2.v))
def envV (e:CEnv):Env:=e.map fun p=>(p.1,p.2.v)
def ownV (o:COwn):Own:=o.map fun p=>(p.1,p.2.b)
theorem look_map {α β:Type} (f:α→β) (l:List (Nat × α)) (t:Nat):look (l.map fun p=>(p.1,f p.2)) t = (look l t).map f:=by
 induction l with
 | nil=>rfl
 | cons p r ih =>
   simp only [List.map_cons,look];cases Nat.beq p.1 t <;> simp [ih]
theorem look_envV {e:CEnv} {t:Nat} {c:C} (h:lk e t = some c):look (envV e) t = some c.v:=by
 rw [lk_eq] at h;rw [envV,look_map,h];rfl
theorem look_ownV {o:COwn} {t:Nat} {c:CB} (h:lk o t = some c):look (ownV o) t = some c.b:=by
 rw [lk_eq] at h;rw [ownV,look_map,h];rfl
def ofV0 (v:V):Option C:=match v with
 | .bool b=>some (.bool b)
 | .int k n=>some (.int k n)
 | .str s=>some (.str s.size (encL s.data.toList))
 | .nilptr=>some .nilptr | .nilslice=>some .nilslice | .nilmap=>some .nilmap | .nilfunc=>some .nilfunc | .niliface=>some .niliface
 | .fn f b []=>some (.fn f b [])
 | _=>none
theorem ofV0_ok {v:V} {c:C} (h:ofV0 v = some c):c.v = v:=by
 unfold ofV0 at h;split at h <;> first
  | (cases h;done)
  | (cases h;simp [C.v,C.vs,bytesOf_enc])
noncomputable def ofVs (l:List V):Option (List C):=@List.rec V (fun _=>Option (List C)) (some []) (fun v _ ih=>match ofV0 v with
 | some c=>match ih with
   | some l=>some (c :: l)
   | none=>none
 | none=>none) l
theorem ofVs_ok:∀ (l:List V) {cs:List C},ofVs l = some cs→C.vs cs = l
 | [],cs,h=>by have h:some [] = some cs:=h;cases h;simp [C.vs]
 | v :: r,cs,h=>by
   have h:(match ofV0 v with
    | some c=>match ofVs r with
      | some l=>some (c :: l)
      | none=>none
    | none=>none) = some cs:=h
   split at h
   . rename_i c hc;split at h
     . rename_i l hl;cases h;simp [C.vs,ofV0_ok hc,ofVs_ok r hl]
     . cases h
   . cases h
noncomputable def ofV (v:V):Option C:=match v with
 | .agg cs=>match ofVs cs with | some l=>some (.agg l) | none=>none
 | v=>ofV0 v
theorem ofV_ok (v:V) {c:C} (h:ofV v = some c):c.v = v:=by
 unfold ofV at h;split at h
 . split at h
   . rename_i l hl;cases h;simp [C.v,ofVs_ok _ hl]
   . cases h
 . exact ofV0_ok h
end Go.Eng
