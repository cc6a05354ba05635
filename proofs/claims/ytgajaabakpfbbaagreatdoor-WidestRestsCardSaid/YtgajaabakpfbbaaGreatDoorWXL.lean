import Derived.Test.YtgajaabakpfbbaaGreatDoorWX4
namespace Go.Proofs.YtgajaabakpfbbaaGreatDoor
open Go.Eng
set_option maxRecDepth 100000
set_option linter.unusedVariables false
def cup (x:Nat→Bool) (v:Nat) (t:Bool):Nat→Bool:=fun u=>if u = v then t else x u
structure BIn (g:G) (b:Int) (r:Nat) (x:Nat→Bool):Prop where
 root:x 0 = true
 snd:∀ v,v < g.ids.length→x v = true→((Tv g v:Nat):Int) + 1≤b * g.ids.length + cntU x g.ids.length
 ok:∀ v,v < g.ids.length→rkV g v < r→((Tv g v / g.ids.length:Nat):Int)≤b→x v = true
structure BPs (g:G) (b:Int) (r v i:Nat) (x:Nat→Bool):Prop where
 base:BIn g b r x
 before:∀ u,u < v→u < g.ids.length→rkV g u≤r→((Tv g u / g.ids.length:Nat):Int)≤b→x u = true
 here:∀ j,j < i→j < (gR g.ports v).length→Tv g v = exN g.ids.length (Tv g (gF (gR g.ports v) j).1.toNat) (gF (gR g.ports v) j).2.toNat→rkV g v≤r→((Tv g v / g.ids.length:Nat):Int)≤b→x v = true
theorem BPs.start {g:G} {b:Int} {r:Nat} {x:Nat→Bool} (h:BIn g b r x):BPs g b r 0 0 x:=⟨h,fun u hu=>by omega,fun j hj=>by omega⟩
theorem BIn.start {g:G} {b:Int} (hb:0≤b) (hn:0 < g.ids.length):BIn g b 0 (fun v=>decide (v = 0)):=by
 refine ⟨rfl,fun v hv e=>?_,fun v hv q=>by omega⟩;have e:=of_decide_eq_true e;subst e;rw [tv_root];have h1:cntU (fun v=>decide (v = 0)) g.ids.length = 1:=by
  obtain ⟨m,hm⟩:∃ m,g.ids.length = m + 1:=⟨g.ids.length - 1,by omega⟩;rw [hm];clear hm hn
  induction m with
  | zero=>rfl
  | succ m ih=>rw [cntU,ih];simp
 have h2:0≤b * (g.ids.length:Int):=Int.mul_nonneg hb (by omega);omega
theorem BPs.step {g:G} (h:g.conn = true) {b:Int} (hb:0≤b) {r v i:Nat} {x:Nat→Bool} (hp:BPs g b r v i x) (hv:v < g.ids.length) (hi:i < (gR g.ports v).length) :
 BPs g b r v (i + 1) (cup x v (x v || (x (gF (gR g.ports v) i).1.toNat && decide ((gF (gR g.ports v) i).2≤b)))):=by
 obtain ⟨h1,h2⟩:=conn_facts h;obtain ⟨f1,f2,f3,f4,f5,f6,f7⟩:=val_facts h1;have hB:=hp.base;have hl:=gF_mem hi;have hok:=(okR_iff.1 (f6 v (by omega))).1 _ hl;generalize hL:gF (gR g.ports v) i = l at *;have hun:l.1.toNat < g.ids.length:=by omega
 have hst:∀ u,x u = true→cup x v (x v || (x l.1.toNat && decide (l.2≤b))) u = true:=fun u e=>by
  rw [cup];split
  . rename_i q;subst q;simp [e]
  . exact e
 refine ⟨⟨hst 0 hB.root,fun u hu e=>?_,fun u hu q q2=>hst u (hB.ok u hu q q2)⟩,fun u hu hun q q2=>hst u (hp.before u hu hun q q2),fun j hj hj2 e q q2=>?_⟩
 . by_cases hxu:x u = true
   . have h3:=hB.snd u hu hxu;have h4:cntU x g.ids.length≤cntU (cup x v (x v || (x l.1.toNat && decide (l.2≤b)))) g.ids.length:=cntV_le fun w _ q=>hst w q;omega
   . have hxf:x u = false:=by simpa using hxu
     have huv:u = v:=by
      apply Classical.byContradiction;intro ne;rw [cup,if_neg ne] at e;exact hxu e
     subst huv;have e2:=e;rw [cup,if_pos rfl,hxf,Bool.false_or,Bool.and_eq_true,decide_eq_true_eq] at e2;have h3:=hB.snd _ hun e2.1;have h4:cntU (cup x u (x u || (x l.1.toNat && decide (l.2≤b)))) g.ids.length = cntU x g.ids.length + 1:=cntU_one (u:=u) e hxf (fun w hw=>by rw [cup,if_neg hw]) hu;have h5:=tv_link h hv hl;have h6:((l.2.toNat * g.ids.length:Nat):Int)≤b * g.ids.length:=by
      push_cast
      rw [Int.toNat_of_nonneg (by omega)];exact Int.mul_le_mul_of_nonneg_right e2.2 (by omega)
     rw [h4];simp only [exN] at h5;generalize l.2.toNat * g.ids.length = m at *;generalize b * (g.ids.length:Int) = t at *;omega
 . by_cases ej:j = i
   . subst ej;rw [hL] at e;have hlt:Tv g l.1.toNat < Tv g v:=by rw [e];exact exN_gt
     have hrk:=rk_lt hun hlt;have hx:=hB.ok l.1.toNat hun (by omega) (by
      have:Tv g l.1.toNat / g.ids.length≤Tv g v / g.ids.length:=Nat.div_le_div_right (by omega);omega)
     have hw:l.2≤b:=by
      have h7:l.2.toNat * g.ids.length≤Tv g v:=by rw [e,exN];omega
      have h8:l.2.toNat≤Tv g v / g.ids.length:=(Nat.le_div_iff_mul_le (by omega)).2 h7;omega
     rw [cup,if_pos rfl,hx,decide_eq_true hw];simp
   . exact hst v (hp.here j (by omega) hj2 e q q2)
theorem BPs.row {g:G} (h:g.conn = true) {b:Int} {r v:Nat} {x:Nat→Bool} (hp:BPs g b r v (gR g.ports v).length x) (hv:v < g.ids.length):BPs g b r (v + 1) 0 x:=by
 refine ⟨hp.base,fun u hu hun q q2=>?_,fun j hj=>by omega⟩;by_cases e:u = v
 . subst e;by_cases h0:u = 0
   . subst h0;exact hp.base.root
   . obtain ⟨l,hl,e⟩:=tv_back h hun h0;obtain ⟨j,hj,ej⟩:=List.getElem_of_mem hl;have ej:gF (gR g.ports u) j = l:=by rw [← ej];simp [gF,List.getD,hj]
     exact hp.here j hj hj (by rw [ej];exact e) q q2
 . exact hp.before u (by omega) hun q q2
theorem BPs.over {g:G} {b:Int} {r v:Nat} {x:Nat→Bool} (hp:BPs g b r v 0 x) (hv:g.ids.length≤v):BIn g b (r + 1) x :=
 ⟨hp.base.root,hp.base.snd,fun u hu q q2=>hp.before u (by omega) hu (by omega) q2⟩
theorem BIn.done {g:G} {b:Int} (hb:0≤b) {x:Nat→Bool} (h:BIn g b g.ids.length x) {v:Nat} (hv:v < g.ids.length):x v = decide (((Tv g v / g.ids.length:Nat):Int)≤b):=by
 cases e:x v with
 | true =>
   symm;rw [decide_eq_true_eq];have h1:=h.snd v hv e;have h2:=cntV_all x g.ids.length;obtain ⟨k,rfl⟩:∃ k:Nat,b = (k:Int):=⟨b.toNat,by omega⟩;have h3:Tv g v < (k + 1) * g.ids.length:=by
    have:(k:Int) * (g.ids.length:Int) = ((k * g.ids.length:Nat):Int):=by push_cast;rfl
    rw [this] at h1;rw [Nat.add_mul];omega
   have h4:=(Nat.div_lt_iff_lt_mul (by omega)).2 h3;omega
 | false =>
   symm;rw [decide_eq_false_iff_not];intro q;have:=h.ok v hv (by have:=rk_top (g:=g) hv;omega) q;rw [e] at this;cases this
def bX (g:G) (v x:Nat):Int × Int:=if x = 0 then (0,16 * g.ids.length) else (-1,((gR g.ports v).length:Int) - 1)
def G.xconf (g:G) (c:Cf):Bool:=conf g.ids.length 2 (bX g) c
theorem xconf_g (g:G) (hg:g.valid = true) (c:Cf):conf g.ids.length [16 * (g.ids.length:Int),-1].length (bG g [16 * (g.ids.length:Int),-1]) c = g.xconf c:=conf_ext' (fun v x hv hx=>by
 have e:x = 0∨x = 1:=by simp at hx;omega
 rcases e with rfl | rfl
 . rw [bG,show gI [16 * (g.ids.length:Int),-1] 0 = 16 * (g.ids.length:Int) from rfl,if_neg (by omega)];rfl
 . rfl)
theorem vW_ok:VOk vW2:=⟨by decide,fun x=>by
 rcases x with _ | _ | x
 . decide
 . decide
 . have:gV vW2 (x + 2) = default:=by simp [gV,vW2,List.getD]
   rw [this];decide⟩
theorem vW_lo (x:Nat):0≤(gV vW2 x).lo∧(gV vW2 x).lo≤1000:=by
 rcases x with _ | _ | x
 . exact ⟨by decide,by decide⟩
 . exact ⟨by decide,by decide⟩
 . have:gV vW2 (x + 2) = default:=by simp [gV,vW2,List.getD]
   rw [this];exact ⟨by decide,by decide⟩
theorem xconf_facts {g:G} {c:Cf} (h:g.xconf c = true):c.length = g.ids.length∧∀ v,v < c.length→(gC c v).length = 2∧0≤gI (gC c v) 0∧gI (gC c v) 0≤16 * g.ids.length∧-1≤gI (gC c v) 1∧gI (gC c v) 1 < (gR g.ports v).length:=by
 have:=conf_iff.1 h;refine ⟨this.1,fun v hv=>?_⟩;have h2:=this.2 v (by omega);have h3:=h2.2 0 (by omega);have h4:=h2.2 1 (by omega);simp only [bX,if_true,Nat.one_ne_zero,if_false] at h3 h4;omega
theorem xconf_of {g:G} {c:Cf} (h:Conf pWid g c):g.xconf c = true:=by
 rw [G.xconf,conf_iff];refine ⟨h.len,fun v hv=>?_⟩;obtain ⟨h0,h1,h2,h3,h4⟩:=wid_rng h hv;refine ⟨h0,fun x hx=>?_⟩;rcases (show x = 0∨x = 1 by omega) with rfl | rfl
 . exact ⟨h1,h2⟩
 . exact ⟨h3,h4⟩
theorem wdfit_ok (g:G) (hs:g.Small):Ret Tryz.prog 47 [g.v] (.bool g.conn):=by
 have h:=conn_ok g hs;refine ret_frz rfl ?_;refine fn_rule mixed Tryz.func47 rfl hc47 hr47 rfl ?_;cases hc:g.conn
 all_goals rw [hc] at h
 all_goals
  repeat' ((conv=>whnf);first | (refine Br.tt ?_) | (refine Br.ff ?_) | (refine h.go ?_))
  all_goals (conv=>whnf)
  exact VLe.rfl
theorem wdconfiguration_ok (g:G) (hs:g.Small) (c:Cf) (hc:CSmall c):Ret Tryz.prog 32 [g.v,cV c] (.bool (g.conn && g.xconf c)):=by
 have hf:=wdfit_ok g hs;refine ret_frz rfl ?_;refine fn_rule mixed Tryz.func32 rfl hc32 hr32 rfl ?_;cases hg:g.conn with
 | true =>
   rw [hg] at hf;rw [Bool.true_and];obtain ⟨h1,_⟩:=conn_facts hg;obtain ⟨f1,f2,f3,f4,f5,f6,f7⟩:=val_facts h1;have hb:=bconf_ok g hs f3 c hc [16 * (g.ids.length:Int),-1] (by simp);rw [xconf_g g h1] at hb
   repeat' ((conv=>whnf);first | (refine Br.tt ?_) | (refine Ar.i64 (by omega) (by omega) ?_) | (refine hf.go ?_) | (refine call_frz [1] hb ⟨by decide,VLe.rfl,VLe.rfl,VLe.fz rfl (fun h=>h) (two_le' _ _ _ (by first | rfl | (congr 1;omega)) rfl),True.intro⟩ ?_) | (refine Br.any (fun _=>?_) (fun _=>?_)))
   all_goals (conv=>whnf)
   all_goals exact VLe.bool (Eq.symm (by first | assumption | exact decide_eq_true (by assumption) | exact decide_eq_false (by assumption)))
 | false =>
   rw [hg] at hf
   repeat' ((conv=>whnf);first | (refine Br.ff ?_) | (refine hf.go ?_))
   all_goals (conv=>whnf)
   all_goals exact VLe.rfl
theorem wvars25_ok:Ret Tryz.prog 18 [] (.fz vW2.length 6 false (vV vW2)):=by
 refine ret_frz rfl ?_;refine fn_rule mixed Tryz.func18 rfl hc18 hr18 rfl ?_
 repeat' ((conv=>whnf);first | (refine Len.mk (by omega) ?_) | (refine (cnumber_ok _ _ _ _).go ?_) | (refine (cpointer_ok _).go ?_))
 all_goals (conv=>whnf)
 refine VLe.fz rfl (fun h=>h) (fun i j hi hj=>?_);rcases (show i = 0∨i = 1 by omega) with rfl | rfl
 all_goals
  rcases (show j = 0∨j = 1∨j = 2∨j = 3∨j = 4∨j = 5 by omega) with rfl | rfl | rfl | rfl | rfl | rfl
 all_goals exact VLe.of_eq rfl
noncomputable def trXB (g:G) (c:Cf):Bool:=decide (∀ v,v < c.length→gI (gC c v) 0 = gI (vals g) v∧gI (gC c v) 1 = upW g v)
theorem trXB_iff {g:G} {c:Cf}:trXB g c = true↔∀ v,v < c.length→gI (gC c v) 0 = gI (vals g) v∧gI (gC c v) 1 = upW g v:=by rw [trXB,decide_eq_true_eq]
noncomputable def G.xleg (g:G) (c:Cf):Bool:=g.conn && g.xconf c && trXB g c
theorem xleg_iff {g:G} (h:g.conn = true) {c:Cf} (hc:Conf pWid g c):g.xleg c = true↔TrX g c:=by
 have hl:=hc.len;rw [G.xleg,h,xconf_of hc,Bool.true_and,Bool.true_and,trXB_iff,hl];refine forall_congr' fun v=>forall_congr' fun hv=>?_;rw [vals_get hv]
theorem xleg_rest {g:G} (h:g.conn = true) {c:Cf} (hc:Conf pWid g c):g.xleg c = decide (enN pWid g c = 0):=by
 rw [Bool.eq_iff_iff,decide_eq_true_eq,xleg_iff h hc,wid_rests h hc]
theorem maxV_le:∀ {l:List Int} {m b:Int},m≤b→(∀ a∈l,a≤b)→maxL l m≤b
 | [],m,b,h,_=>h
 | a :: r,m,b,h,ha=>by
   rw [maxL];exact maxV_le (by have:=ha a (by simp);split <;> omega) (fun x hx=>ha x (by simp [hx]))
theorem mx_top {g:G} (h:g.conn = true):0≤mxV g∧mxV g + 2≤16 * g.ids.length∧g.ids.length≤24:=by
 obtain ⟨f1,f2,f3,f4,f5,f6,f7⟩:=val_facts (conn_facts h).1;refine ⟨mx_nn g,?_,f2⟩;have:mxV g≤16 * (g.ids.length:Int) - 2:=by
  refine maxV_le (by omega) fun a ha=>?_;obtain ⟨v,hv,rfl⟩:=List.mem_map.1 ha;have:=tv_top h (List.mem_range.1 hv);omega
 omega
theorem wn_facts {g:G} (hg:g.valid = true) {w:Int} (h0:0≤w) (h1:w≤15):0≤w * (g.ids.length:Int)∧w * (g.ids.length:Int)≤360:=by
 obtain ⟨f1,f2,f3,f4,f5,f6,f7⟩:=val_facts hg;obtain ⟨k,rfl⟩:∃ k:Nat,w = (k:Int):=⟨w.toNat,by omega⟩;have:k * g.ids.length≤15 * 24:=Nat.mul_le_mul (by omega) f2;have e:((k:Int) * (g.ids.length:Int)) = ((k * g.ids.length:Nat):Int):=by push_cast;rfl
 rw [e];omega
theorem extended_ok (g:G) (hg:g.valid = true) (y:Int) (hy:0≤y∧y≤1073741824) (l:Int × Int) (hl:0≤l.2∧l.2≤15) :
 Ret Tryz.prog 54 [.int .i64 g.ids.length,.int .i64 y,.agg [.int .i64 l.1,.int .i64 l.2]] (.int .i64 (exI g y l.2)):=by
 have hw:=wn_facts hg hl.1 hl.2;refine ret_frz rfl ?_;refine fn_rule mixed Tryz.func54 rfl hc54 hr54 rfl ?_
 repeat' ((conv=>whnf);first | (refine Ar.i64 (by omega) (by omega) ?_) | (refine Sv.mk _ rfl ?_))
 all_goals (conv=>whnf)
 exact VLe.of_eq rfl
def iniW (n:Nat) (k:Nat):Nat→Nat→V:=fun i _=>.int .i64 (if 1≤i∧i < k + 1 then 16 * n else 0)
def iniL (n:Nat) (b:Int):List Int:=(List.range n).map fun v=>if v = 0 then 0 else b
theorem iniL_len (n:Nat) (b:Int):(iniL n b).length = n:=by simp [iniL]
theorem iniL_get {n:Nat} (b:Int) {v:Nat} (h:v < n):gI (iniL n b) v = if v = 0 then 0 else b:=by simp [iniL,gI,List.getD,h]
def clE:Env→List Nat→Env
 | [],_=>[]
 | (t,v) :: r,seen=>match memN t seen with
   | true=>clE r seen
   | false=>(t,v) :: clE r (t :: seen)
def clB:Blk→Blk
 | .loop st pe env N ps C=>.loop st pe (clE env []) N ps C
 | b=>b
def clO:Own→Own
 | []=>[]
 | (k,b) :: r=>(k,clB b) :: clO r
theorem iniW_zero (n i j:Nat) (hj:j < 1):VLe ((fun (_:Nat) j=>[V.int .i64 0].getD j default) i j) (iniW n 0 i j):=by
 obtain rfl:j = 0:=by omega
 apply VLe.of_eq;rw [iniW,if_neg (by omega)];rfl
theorem iniW_set (n k i j:Nat) (hj:j < 1):VLe (fset (iniW n k) (k + 1) 0 [.int .i64 (16 * (n:Int))] i j) (iniW n (k + 1) i j):=by
 obtain rfl:j = 0:=by omega
 apply VLe.of_eq;by_cases h:i = k + 1
 . subst h;simp [fset,iniW]
 . simp only [fset,iniW];rw [if_neg (by simp [h])];congr 1;by_cases h2:1≤i∧i < k + 1
   . rw [if_pos h2,if_pos (by omega)]
   . rw [if_neg h2,if_neg (by omega)]
theorem iniW_end (n i j:Nat) (hn:1≤n) (hi:i < n) (hj:j < 1):VLe (iniW n (n - 1) i j) (vI (iniL n (16 * n)) i j):=by
 obtain rfl:j = 0:=by omega
 apply VLe.of_eq;simp only [iniW,vI];rw [iniL_get _ hi];congr 1;by_cases h:i = 0
 . subst h;simp
 . rw [if_pos (by omega),if_neg h]
set_option maxHeartbeats 16000000 in
theorem values_ok (g:G) (hs:g.Small) (hgc:g.conn = true):Ret Tryz.prog 49 [g.v] (.fz (vals g).length 1 false (vI (vals g))):=by
 obtain ⟨hg,_⟩:=conn_facts hgc;obtain ⟨f1,f2,f3,f4,f5,f6,f7⟩:=val_facts hg;refine ret_frz rfl ?_;refine fn_rule mixed Tryz.func49 rfl hc49 hr49 rfl ?_
 repeat' ((conv=>whnf);first | (refine Bd.nat (by omega) ?_) | (refine Len.mk (by omega) ?_) | (refine MkS.vec ?_))
 all_goals (conv=>whnf)
 refine loop_u mixed [1,3,4] [] [4,5,6,7,8,9,10,11,12,13,14,15,16,17,18,19,20,21,22,23,24,25,26,27,28,29] [3,2,1,0] (fun k:Nat=>[(5,.int .i64 ((k:Int) + 1))]) (fun own k=>updO own 2 (.vec g.ids.length 1 (iniW g.ids.length k))) (fun m k=>m = g.ids.length - 1 - k∧k≤g.ids.length - 1) (g.ids.length - 1) 0 ⟨rfl,Nat.zero_le _⟩ rfl (fun _=>rfl) ?_ ?_
 . refine weak_by (fun _ _=>[(0,some 0),(1,some 1),(2,some 2),(3,some 3)]) ?_ ?_ rfl
   . repeat' (first | exact True.intro | (refine ⟨⟨_,rfl,?_⟩,?_⟩) | exact VRen.kf rfl | exact VRen.loc rfl)
   . repeat' (first | exact ⟨Nat.le_refl _,rfl,fun i j hi hj=>iniW_zero _ i j hj⟩ | exact True.intro | (refine ⟨⟨_,rfl,?_⟩,?_⟩) | exact VRen.kf rfl | exact VRen.vec rfl rfl rfl | (refine And.intro ?_ ?_))
 rintro m k ⟨hm,hk⟩;by_cases hkn:k < g.ids.length - 1
 . repeat' ((conv=>whnf);first | (refine Ix.mk (k + 1) (by omega) (by omega) ?_) | (refine Br.dec ?_ ?_ <;> intro _ <;> try omega) | (refine Ar.i64 (by omega) (by omega) ?_) | (refine Ltn.mk (by omega) ?_))
   all_goals (conv=>whnf)
   refine ⟨g.ids.length - 1 - (k + 1),k + 1,by omega,⟨rfl,by omega⟩,?_⟩;refine weak_by (fun _ _=>[(0,some 0),(1,some 1),(2,some 2),(3,some 3)]) ?_ ?_ rfl
   . repeat' (first | exact True.intro | (refine ⟨⟨_,rfl,?_⟩,?_⟩) | exact VRen.kf rfl | exact VRen.loc rfl)
   . repeat' (first | exact ⟨Nat.le_refl _,rfl,fun i j hi hj=>by simp only [Nat.zero_add];exact iniW_set _ k i j hj⟩ | exact True.intro | (refine ⟨⟨_,rfl,?_⟩,?_⟩) | exact VRen.kf rfl | exact VRen.vec rfl rfl rfl | (refine And.intro ?_ ?_))
 . have ek:k = g.ids.length - 1:=by omega
   subst ek
   repeat' ((conv=>whnf);first | (refine Br.dec ?_ ?_ <;> intro _ <;> try omega))
   all_goals (conv=>whnf)
   have hlen0:=iniL_len g.ids.length (16 * (g.ids.length:Int));have hin0:VIn g 0 (iniL g.ids.length (16 * (g.ids.length:Int))):=VIn.start hgc hlen0 (by rw [iniL_get _ (by omega)];rfl) (fun v hv h0=>by rw [iniL_get _ hv,if_neg h0];omega);refine loop_u mixed [1,3,4,23] [] [4,5,6,7,8,9,10,11,12,13,14,15,16,17,18,19,20,21,22,23,24,25,26,27,28,29] [3,2,1,0] (fun p:Nat × List Int=>[(24,.int .i64 p.1)]) (fun own p=>updO own 2 (.vec g.ids.length 1 (vI p.2))) (fun m p=>m = g.ids.length - p.1∧p.1≤g.ids.length∧VIn g p.1 p.2) g.ids.length (0,iniL g.ids.length (16 * (g.ids.length:Int))) ⟨rfl,Nat.zero_le _,hin0⟩ rfl (fun _=>rfl) ?_ ?_
   . refine weak_by (fun _ _=>[(0,some 0),(1,some 1),(2,some 2),(3,some 3)]) ?_ ?_ rfl
     . repeat' (first | exact True.intro | (refine ⟨⟨_,rfl,?_⟩,?_⟩) | exact VRen.kf rfl | exact VRen.loc rfl)
     . repeat' (first | exact ⟨Nat.le_refl _,rfl,fun i j hi hj=>by first | exact iniW_end _ i j f1 hi hj | (simp only [Nat.zero_add];exact iniW_end _ i j f1 hi hj)⟩ | exact True.intro | (refine ⟨⟨_,rfl,?_⟩,?_⟩) | exact VRen.kf rfl | exact VRen.vec rfl rfl rfl | (refine And.intro ?_ ?_))
   rintro m ⟨r,x⟩ ⟨hm,hr,hI⟩;simp only at hm hr hI;by_cases hrn:r < g.ids.length
   . dsimp only
     repeat' ((conv=>whnf);first | (refine Br.dec ?_ ?_ <;> intro _ <;> try omega) | (refine fn_rule mixed Tryz.func66 rfl hc66 hr66 rfl ?_) | (refine range_rule ?_) | (refine Chk.mk (by kernel_rfl) ?_) | (refine fn_rule mixed Tryz.func94 rfl hc94 hr94 rfl ?_))
     all_goals (conv=>whnf)
     refine loop_u mixed [0,8,9] [] [6,7,8,9,10,11,12,13,14,15,16,17,18,19,20,21,22,23,24,25,26,27,28,29] [5,4,3,2,1,0] (fun p:Nat × List Int=>[(10,.int .i64 p.1)]) (fun own p=>clO (updO own 2 (.vec g.ids.length 1 (vI p.2)))) (fun m p=>m = g.ids.length - p.1∧p.1≤g.ids.length∧VPs g r p.1 0 p.2) g.ids.length (0,x) ⟨rfl,Nat.zero_le _,VPs.start hI⟩ rfl (fun _=>rfl) ?_ ?_
     . refine weak_by (fun _ _=>[(0,some 0),(1,some 1),(2,some 2),(3,some 3),(4,some 4),(5,some 5)]) ?_ ?_ rfl
       . repeat' (first | exact VRen.yld rfl | exact True.intro | (refine ⟨⟨_,rfl,?_⟩,?_⟩) | exact VRen.kf rfl)
       . repeat' (first | (refine VRen.fn ?_) | (refine ⟨rfl,rfl,rfl,rfl,rfl,?_⟩) | exact ⟨Nat.le_refl _,rfl,fun i j hi hj=>VLe.rfl⟩ | exact True.intro | (refine ⟨⟨_,rfl,?_⟩,?_⟩) | exact VRen.kf rfl | exact VRen.loc rfl | exact VRen.vec rfl rfl rfl | (refine And.intro ?_ ?_))
     rintro m ⟨v,y⟩ ⟨hm2,hv,hP⟩;simp only at hm2 hv hP;by_cases hvn:v < g.ids.length
     . dsimp only;have hrl:=row_le' hg v
       repeat' ((conv=>whnf);first | (refine Br.dec ?_ ?_ <;> intro _ <;> try omega) | (refine Ix.nat (by omega) ?_))
       all_goals (conv=>whnf)
       refine loop_u mixed [0,3,8,9,10,15,16] [] [6,7,8,9,10,11,12,13,14,15,16,17,18,19,20,21,22,23,24,25,26,27,28,29] [5,4,3,2,1,0] (fun p:Nat × List Int=>[(17,.int .i64 p.1)]) (fun own p=>clO (updO own 2 (.vec g.ids.length 1 (vI p.2)))) (fun m p=>m = (gR g.ports v).length - p.1∧p.1≤(gR g.ports v).length∧VPs g r v p.1 p.2) (gR g.ports v).length (0,y) ⟨rfl,Nat.zero_le _,hP⟩ rfl (fun _=>rfl) ?_ ?_
       . refine weak_by (fun _ _=>[(0,some 0),(1,some 1),(2,some 2),(3,some 3),(4,some 4),(5,some 5)]) ?_ ?_ rfl
         . repeat' (first | exact VRen.yld rfl | exact True.intro | (refine ⟨⟨_,rfl,?_⟩,?_⟩) | exact VRen.kf rfl)
         . repeat' (first | (refine VRen.fn ?_) | (refine ⟨rfl,rfl,rfl,rfl,rfl,?_⟩) | exact ⟨Nat.le_refl _,rfl,fun i j hi hj=>VLe.rfl⟩ | exact True.intro | (refine ⟨⟨_,rfl,?_⟩,?_⟩) | exact VRen.kf rfl | exact VRen.loc rfl | exact VRen.vec rfl rfl rfl | (refine And.intro ?_ ?_))
       rintro m ⟨i,z⟩ ⟨hm3,hi,hQ⟩;simp only at hm3 hi hQ;by_cases hin:i < (gR g.ports v).length
       . dsimp only;have hok:=(okR_iff.1 (f6 v (by omega))).1 _ (gF_mem hin);have hb:=hQ.base;have hzl:=hb.len;have hlo:=hb.low (gF (gR g.ports v) i).1.toNat (by omega);have hto:=hb.top (gF (gR g.ports v) i).1.toNat (by omega);have hext:=extended_ok g hg (gI z (0 + (gF (gR g.ports v) i).1.toNat)) ⟨by rw [Nat.zero_add];omega,by rw [Nat.zero_add];exact hto⟩ (gF (gR g.ports v) i) ⟨by omega,by omega⟩
         repeat' ((conv=>whnf);first | (refine Ix.mk (gF (gR g.ports v) i).1.toNat (by omega) (by omega) ?_) | (refine Br.tt ?_) | (refine Br.dec ?_ ?_ <;> intro _ <;> try omega) | (refine Ar.i64 (by omega) (by omega) ?_) | (refine Sv.mk _ rfl ?_) | (refine Ix.nat (by omega) ?_) | (refine Ltn.mk (by omega) ?_) | (refine hext.go ?_) | (refine yield_rule mixed rfl rfl ?_) | (refine And.intro rfl ?_) | (refine And.intro (Ltn.mk (by omega) rfl) ?_))
         all_goals (conv=>whnf)
         refine ⟨(gR g.ports v).length - (i + 1),(i + 1,relax g z v (gF (gR g.ports v) i)),by omega,⟨rfl,by omega,hQ.step hgc hvn hin⟩,?_⟩;refine weak_by (fun _ _=>[(0,some 0),(1,some 1),(2,some 2),(3,some 3),(4,some 4),(5,some 5)]) ?_ ?_ rfl
         . repeat' (first | exact VRen.yld rfl | exact True.intro | (refine ⟨⟨_,rfl,?_⟩,?_⟩) | exact VRen.kf rfl)
         . repeat' (first | (refine VRen.fn ?_) | (refine ⟨rfl,rfl,rfl,rfl,rfl,?_⟩) | exact ⟨Nat.le_refl _,rfl,fun i j hi hj=>by simp only [Nat.zero_add];exact vle_set z v _ _ _ (by omega) hj⟩ | exact True.intro | (refine ⟨⟨_,rfl,?_⟩,?_⟩) | exact VRen.kf rfl | exact VRen.loc rfl | exact VRen.vec rfl rfl rfl | (refine And.intro ?_ ?_))
       . repeat' ((conv=>whnf);first | (refine Br.dec ?_ ?_ <;> intro _ <;> try omega) | (refine Ar.i64 (by omega) (by omega) ?_))
         all_goals (conv=>whnf)
         refine ⟨g.ids.length - (v + 1),(v + 1,z),by omega,⟨rfl,by omega,?_⟩,?_⟩
         . have e:i = (gR g.ports v).length:=by omega
           subst e;exact hQ.row hgc hvn
         . refine weak_by (fun _ _=>[(0,some 0),(1,some 1),(2,some 2),(3,some 3),(4,some 4),(5,some 5)]) ?_ ?_ rfl
           . repeat' (first | exact VRen.yld rfl | exact True.intro | (refine ⟨⟨_,rfl,?_⟩,?_⟩) | exact VRen.kf rfl)
           . repeat' (first | (refine VRen.fn ?_) | (refine ⟨rfl,rfl,rfl,rfl,rfl,?_⟩) | exact ⟨Nat.le_refl _,rfl,fun i j hi hj=>VLe.rfl⟩ | exact True.intro | (refine ⟨⟨_,rfl,?_⟩,?_⟩) | exact VRen.kf rfl | exact VRen.loc rfl | exact VRen.vec rfl rfl rfl | (refine And.intro ?_ ?_))
     . repeat' ((conv=>whnf);first | (refine Br.dec ?_ ?_ <;> intro _ <;> try omega) | (refine Ar.i64 (by omega) (by omega) ?_))
       all_goals (conv=>whnf)
       refine ⟨g.ids.length - (r + 1),(r + 1,y),by omega,⟨rfl,by omega,hP.over (by omega)⟩,?_⟩;refine weak_by (fun _ _=>[(0,some 0),(1,some 1),(2,some 2),(3,some 3)]) ?_ ?_ rfl
       . repeat' (first | exact True.intro | (refine ⟨⟨_,rfl,?_⟩,?_⟩) | exact VRen.kf rfl | exact VRen.loc rfl)
       . repeat' (first | exact ⟨Nat.le_refl _,rfl,fun i j hi hj=>VLe.rfl⟩ | exact True.intro | (refine ⟨⟨_,rfl,?_⟩,?_⟩) | exact VRen.kf rfl | exact VRen.vec rfl rfl rfl | (refine And.intro ?_ ?_))
   . repeat' ((conv=>whnf);first | (refine Br.dec ?_ ?_ <;> intro _ <;> try omega) | (refine Len.mk (by omega) ?_))
     all_goals (conv=>whnf)
     have er:r = g.ids.length:=by omega
     subst er;have hx:=hI.done;subst hx;exact VLe.fz (vals_len g).symm (fun h=>h) (fun i j hi hj=>VLe.of_eq (by simp [shiftF]))
def clmX (m:Int):V:=.agg [.int .i64 3,.bool false,.bool true,.int .i64 (m + 1),.int .i64 (-1)]
theorem maxL_split:∀ (l:List Int) (m:Int) (i:Nat),maxL l m = maxL (l.drop i) (maxL (l.take i) m)
 | [],m,i=>by simp [maxL]
 | a :: r,m,0=>by simp [maxL]
 | a :: r,m,i + 1=>by
   rw [List.drop_succ_cons,List.take_succ_cons,maxL,maxL];exact maxL_split r _ i
theorem maxL_next {l:List Int} {m:Int} {i:Nat} (h:i < l.length):maxL (l.take (i + 1)) m = if maxL (l.take i) m < gI l i then gI l i else maxL (l.take i) m:=by
 rw [maxL_split (l.take (i + 1)) m i,List.take_take,Nat.min_eq_left (by omega)];have e:(l.take (i + 1)).drop i = [gI l i]:=by
  rw [List.take_succ_eq_append_getElem h,List.drop_append,List.drop_of_length_le (by simp;omega)];simp [gI,List.getD,h,Nat.min_eq_left (by omega:i≤l.length)]
 rw [e,maxL,maxL]
theorem smax_ok (l:List Int) (h0:0 < l.length) (hl:l.length≤9223372036854775807) (hp:0≤gI l 0):Ret Tryz.prog 48 [.fz l.length 1 false (vI l)] (.int .i64 (maxL l 0)):=by
 refine ret_frz rfl ?_;refine fn_rule mixed Tryz.func48 rfl hc48 hr48 rfl ?_
 repeat' ((conv=>whnf);first | (refine Br.dec ?_ ?_ <;> intro _ <;> try omega) | (refine Ix.nat (by omega) ?_))
 all_goals (conv=>whnf)
 have e1:maxL (l.take 1) 0 = gI l 0:=by
  rw [maxL_next (i:=0) (by omega)];simp only [List.take_zero,maxL];split <;> omega
 refine loop_r mixed [0] (fun i:Nat=>[(3,.int .i64 (maxL (l.take (i + 1)) 0)),(4,.int .i64 ((i:Int) + 1))]) (fun m i=>m = l.length - 1 - i∧i + 1≤l.length) (l.length - 1) 0 ⟨rfl,by omega⟩ ?_ ?_
 . refine weak_by (fun _ _=>[]) ?_ ?_ rfl
   . repeat' (first | exact VRen.int (by rw [e1]) | exact True.intro | (refine ⟨⟨_,rfl,?_⟩,?_⟩) | exact VRen.kf rfl)
   . repeat' (first | exact True.intro)
 rintro m i ⟨hm,hi⟩;by_cases hil:i + 1 < l.length
 . repeat' ((conv=>whnf);first | (refine Ix.mk (i + 1) (by omega) (by omega) ?_) | (refine Br.dec ?_ ?_ <;> intro _ <;> try omega) | (refine Ar.i64 (by omega) (by omega) ?_) | (refine Sv.mk _ rfl ?_))
   all_goals (conv=>whnf)
   refine ⟨l.length - 1 - (i + 1),i + 1,by omega,⟨rfl,by omega⟩,?_⟩;refine weak_by (fun _ _=>[]) ?_ ?_ rfl
   . repeat' (first | exact VRen.int (by rw [maxL_next hil]) | exact True.intro | (refine ⟨⟨_,rfl,?_⟩,?_⟩) | exact VRen.kf rfl)
   . repeat' (first | exact True.intro)
 . repeat' ((conv=>whnf);first | (refine Br.dec ?_ ?_ <;> intro _ <;> try omega))
   all_goals (conv=>whnf)
   have:i + 1 = l.length:=by omega
   rw [this,List.take_length];exact VLe.rfl
theorem mxV_facts {g:G} (h:g.conn = true):0 < (vals g).length∧(vals g).length≤24∧gI (vals g) 0 = 0:=by
 obtain ⟨f1,f2,f3,f4,f5,f6,f7⟩:=val_facts (conn_facts h).1;refine ⟨by rw [vals_len];omega,by rw [vals_len];exact f2,?_⟩;rw [vals_get (by omega),tv_root];rfl
theorem wdclaim_ok (g:G) (hs:g.Small) (hgc:g.conn = true):Ret Tryz.prog 21 [g.v] (clmX (mxV g)):=by
 have hf:=wdfit_ok g hs;have hv:=values_ok g hs hgc;obtain ⟨m1,m2,m3⟩:=mxV_facts hgc;have hm:=smax_ok (vals g) m1 (by omega) (by omega);rw [show maxL (vals g) 0 = mxV g from rfl] at hm;obtain ⟨t1,t2,t3⟩:=mx_top hgc;rw [hgc] at hf;refine ret_frz rfl ?_;refine fn_rule mixed Tryz.func21 rfl hc21 hr21 rfl ?_
 repeat' ((conv=>whnf);first | (refine Br.tt ?_) | (refine Ar.i64 (by omega) (by omega) ?_) | (refine hf.go ?_) | (refine hv.go ?_) | (refine hm.go ?_))
 all_goals (conv=>whnf)
 exact VLe.rfl
def btL (c:Cf):List Int:=c.map fun r=>(gI r 0).tdiv c.length
theorem btL_len (c:Cf):(btL c).length = c.length:=by simp [btL]
theorem btL_get (c:Cf) {v:Nat} (h:v < c.length):gI (btL c) v = (gI (gC c v) 0).tdiv c.length:=by simp [btL,gI,gC,List.getD,h]
def G.botX (g:G) (c:Cf):List Int:=if g.conn && g.xconf c then btL c else []
def btF (c:Cf) (v:Nat):Nat→Nat→V:=fun i _=>.int .i64 (if i < v then gI (btL c) i else 0)
theorem btF_set (c:Cf) (v i t:Nat) (x:Int) (hx:x = gI (btL c) v) (ht:t < 1):VLe (fset (btF c v) v 0 [.int .i64 x] i t) (btF c (v + 1) i t):=by
 obtain rfl:t = 0:=by omega
 apply VLe.of_eq;by_cases e:i = v
 . subst e;simp [fset,btF,hx]
 . have:(i < v + 1) = (i < v):=by simp;omega
   simp [fset,btF,e,this]
theorem tdiv_rng {a:Int} {n:Nat} (h0:0≤a) (h1:a≤1000):0≤a.tdiv n∧a.tdiv n≤1000:=by
 rw [Int.tdiv_eq_ediv_of_nonneg h0];exact ⟨Int.ediv_nonneg h0 (Int.natCast_nonneg _),Int.le_trans (Int.ediv_le_self _ h0) h1⟩
set_option maxHeartbeats 4000000 in
theorem wdbottle_ok (g:G) (hs:g.Small) (c:Cf) (hc:CSmall c):Ret Tryz.prog 10 [g.v,cV c] (.fz (g.botX c).length 1 false (vI (g.botX c))):=by
 have hcf:=wdconfiguration_ok g hs c hc;have hcl:=hc.len;refine ret_frz rfl ?_;refine fn_rule mixed Tryz.func10 rfl hc10 hr10 rfl ?_;by_cases h:(g.conn && g.xconf c) = true
 . rw [h] at hcf;rw [G.botX,if_pos h,btL_len];rw [Bool.and_eq_true] at h;obtain ⟨e1,e2⟩:=xconf_facts h.2;obtain ⟨f1,f2,f3,f4,f5,f6,f7⟩:=val_facts (conn_facts h.1).1
   repeat' ((conv=>whnf);first | (refine Br.tt ?_) | (refine Bd.nat (by omega) ?_) | (refine Len.mk (by omega) ?_) | (refine MkS.vec ?_) | (refine hcf.go ?_))
   all_goals (conv=>whnf)
   refine loop_u mixed [1,5,15,16] [] [2,3,4,5,6,7,8,9,10,11,12,13,14,15,16,17,18,19,20,21,22,23,24,25,26,27,28,29] [1,0] (fun v:Nat=>[(17,.int .i64 v)]) (fun own v=>updO own 1 (.vec c.length 1 (btF c v))) (fun m v=>m = c.length - v∧v≤c.length) c.length 0 ⟨rfl,Nat.zero_le _⟩ rfl (fun _=>rfl) ?_ ?_
   . refine weak_by (fun _ _=>[(0,some 0),(1,some 1)]) ?_ ?_ rfl
     . repeat' (first | exact True.intro | (refine ⟨⟨_,rfl,?_⟩,?_⟩) | exact VRen.kf rfl | exact VRen.vec rfl rfl rfl)
     . repeat' (first | (refine ⟨Nat.le_refl _,rfl,fun i j hi hj=>VLe.of_eq ?_⟩;obtain rfl:j = 0:=(by omega);rfl) | exact True.intro | (refine ⟨⟨_,rfl,?_⟩,?_⟩) | exact VRen.kf rfl | (refine And.intro ?_ ?_))
   rintro m v ⟨hm,hv⟩;by_cases hvl:v < c.length
   . have hr:=e2 v hvl;have hd:=tdiv_rng (n:=c.length) hr.2.1 (by omega)
     repeat' ((conv=>whnf);first | (refine Ar.i64 (by omega) (by omega) ?_) | (refine Br.dec ?_ ?_ <;> intro _ <;> try omega) | (refine Nz.mk (by omega) ?_) | (refine Ix.nat (by omega) ?_) | (refine Ix.mk 0 rfl (by omega) ?_) | (refine Ltn.mk (by omega) ?_))
     all_goals (conv=>whnf)
     refine ⟨c.length - (v + 1),v + 1,by omega,⟨rfl,by omega⟩,?_⟩;refine weak_by (fun _ _=>[(0,some 0),(1,some 1)]) ?_ ?_ rfl
     . repeat' (first | exact True.intro | (refine ⟨⟨_,rfl,?_⟩,?_⟩) | exact VRen.kf rfl | exact VRen.vec rfl rfl rfl)
     . repeat' (first | (refine ⟨Nat.le_refl _,rfl,fun i j hi hj=>?_⟩;simp only [Nat.zero_add];exact btF_set c v i j _ (btL_get c hvl).symm hj) | exact True.intro | (refine ⟨⟨_,rfl,?_⟩,?_⟩) | exact VRen.kf rfl | (refine And.intro ?_ ?_))
   . have ev:v = c.length:=by omega
     subst ev
     repeat' ((conv=>whnf);first | (refine Br.dec ?_ ?_ <;> intro _ <;> try omega) | (refine Len.mk (by omega) ?_))
     all_goals (conv=>whnf)
     refine VLe.fz rfl (fun h=>h) (fun i j hi hj=>VLe.of_eq ?_);obtain rfl:j = 0:=by omega
     rw [shiftF_eq,Nat.zero_add,btF,if_pos hi];rfl
 . rw [G.botX,if_neg h];simp only [Bool.not_eq_true] at h;rw [h] at hcf
   repeat' ((conv=>whnf);first | (refine Br.ff ?_) | (refine hcf.go ?_))
   all_goals (conv=>whnf)
   exact VLe.nilfz rfl
noncomputable def vlV (g:G):V:=.fz (vals g).length 1 false (vI (vals g))
def gCs (g:G):List V:=[.fz g.ids.length 1 false (vI g.ids),.fz g.ports.length 1 false (vP g.ports)]
noncomputable def attP (g:G) (v:Nat) (l:Int × Int):Bool:=decide (exI g (gI (vals g) l.1.toNat) l.2 = gI (vals g) v)
theorem upW_att {g:G} (h:g.conn = true) {v:Nat} (hv:v < g.ids.length) (h0:v≠0):upW g v = fpI (attP g v) 0 (gR g.ports v):=by
 obtain ⟨f1,f2,f3,f4,f5,f6,f7⟩:=val_facts (conn_facts h).1;rw [upW,if_neg h0];refine fpI_ext fun l hl=>?_;have hok:=(okR_iff.1 (f6 v (by omega))).1 l hl;rw [attP,vals_get hv,vals_get (show l.1.toNat < g.ids.length by omega)]
theorem vals_rng {g:G} (h:g.conn = true) (v:Nat):0≤gI (vals g) v∧gI (vals g) v≤400:=by
 obtain ⟨f1,f2,f3,f4,f5,f6,f7⟩:=val_facts (conn_facts h).1;by_cases hv:v < g.ids.length
 . rw [vals_get hv];have:=tv_top h hv;omega
 . have hl:=vals_len g;have:gI (vals g) v = 0:=by simp [gI,List.getD,List.getElem?_eq_none (show (vals g).length≤v by omega)]
   omega
theorem legit1_ok (g:G) (hgc:g.conn = true) (v:Nat) (hv:v < g.ports.length) (i:Nat) (hi:i < (gR g.ports v).length) :
 Ret Tryz.prog 53 [.agg [.int .i64 (gF (gR g.ports v) i).1,.int .i64 (gF (gR g.ports v) i).2],.fe 1 2 (tab [gCs g]) 0 0,.fe 1 1 (tab [[vlV g]]) 0 0,.fe 1 1 (tab [[.int .i64 v]]) 0 0] (.bool (attP g v (gF (gR g.ports v) i))):=by
 obtain ⟨hg,_⟩:=conn_facts hgc;obtain ⟨f1,f2,f3,f4,f5,f6,f7⟩:=val_facts hg;have hok:=(okR_iff.1 (f6 v (by omega))).1 _ (gF_mem hi);have hr:=okR_to' (f6 v hv) hi;have hl:=vals_len g;have hy:=vals_rng hgc (0 + (gF (gR g.ports v) i).1.toNat);have hext:=extended_ok g hg (gI (vals g) (0 + (gF (gR g.ports v) i).1.toNat)) ⟨by omega,by omega⟩ (gF (gR g.ports v) i) ⟨by omega,by omega⟩;have hext2:=extended_ok g hg (gI (vals g) (gF (gR g.ports v) i).1.toNat) ⟨by rw [Nat.zero_add] at hy;omega,by rw [Nat.zero_add] at hy;omega⟩ (gF (gR g.ports v) i) ⟨by omega,by omega⟩;refine ret_frz rfl ?_;refine fn_rule mixed Tryz.func53 rfl hc53 hr53 rfl ?_
 repeat' ((conv=>whnf);first | (refine Br.dec ?_ ?_ <;> intro _ <;> try omega) | (refine Ix.nat (by omega) ?_) | (refine Ix.int (by omega) (by omega) ?_) | (refine hext2.go ?_) | (refine And.intro rfl ?_))
 all_goals (conv=>whnf)
 . rename_i h;exact VLe.bool (decide_eq_true (by simpa using h)).symm
 . rename_i h;exact VLe.bool (decide_eq_false (by simpa using h)).symm
theorem wfp_ok (g:G) (hgc:g.conn = true) (v:Nat) (hv:v < g.ports.length) (h0:v≠0) :
 CallF Tryz.prog 52 [g.v,.int .i64 v,.fn (.func 53) false [.loc 2 0,.loc 1 0,.loc 0 0]] [(2,.cells (gCs g)),(1,.cells [vlV g]),(0,.cells [.int .i64 v])] [3,4,5,6,7,8,9,10,11,12,13,14,15,16,17,18,19,20,21,22,23,24,25,26,27,28,29] fun X own' _=>X = .int .i64 (upW g v)∧own' = [(2,.cells (gCs g)),(1,.cells [vlV g]),(0,.cells [.int .i64 v])]:=by
 obtain ⟨hg,_⟩:=conn_facts hgc;obtain ⟨f1,f2,f3,f4,f5,f6,f7⟩:=val_facts hg;have hup:=upW_att hgc (show v < g.ids.length by omega) h0;have hrl:=row_le' hg v;refine call_post ?_;refine fn_rule mixed Tryz.func52 rfl hc52 hr52 rfl ?_
 repeat' ((conv=>whnf);first | (refine Ix.nat (by omega) ?_))
 all_goals (conv=>whnf)
 refine loop_r mixed [2,13,14] (fun i:Nat=>[(15,.int .i64 i)]) (fun m i=>m = (gR g.ports v).length - i∧i≤(gR g.ports v).length∧∀ l∈(gR g.ports v).take i,attP g v l = false) (gR g.ports v).length 0 ⟨rfl,Nat.zero_le _,by simp⟩ ?_ ?_
 . exact weak_b (fun _ _=>[(0,some 0),(1,some 1),(2,some 2),(3,some 3)])
 rintro m i ⟨hm,hi,hall⟩;by_cases hil:i < (gR g.ports v).length
 . have h1:=legit1_ok g hgc v hv i hil;cases hb:attP g v (gF (gR g.ports v) i) with
   | true =>
     rw [hb] at h1
     repeat' ((conv=>whnf);first | (refine Br.tt ?_) | (refine Br.dec ?_ ?_ <;> intro _ <;> try omega) | (refine Ix.nat (by omega) ?_) | (refine Chk.mk (by kernel_rfl) ?_) | (refine call_lend h1 rfl ⟨VLe.rfl,VLe.rfl,VLe.rfl,VLe.rfl,True.intro⟩ ?_))
     all_goals (conv=>whnf)
     have e:upW g v = i:=by rw [hup,fpI_split _ _ 0 i hi hall,gF_drop' hil,fpI,if_pos hb];omega
     exact postR_by (fun _=>[(0,some 0),(1,some 1),(2,some 2)]) _ _ ⟨by rw [e],rfl⟩ (VRen.kf rfl) (by repeat' (first | exact True.intro | (refine ⟨⟨_,rfl,?_⟩,?_⟩) | exact VRen.kf rfl | (refine And.intro ?_ ?_))) rfl
   | false =>
     rw [hb] at h1
     repeat' ((conv=>whnf);first | (refine Br.ff ?_) | (refine Br.dec ?_ ?_ <;> intro _ <;> try omega) | (refine Ar.i64 (by omega) (by omega) ?_) | (refine Ix.nat (by omega) ?_) | (refine Chk.mk (by kernel_rfl) ?_) | (refine call_lend h1 rfl ⟨VLe.rfl,VLe.rfl,VLe.rfl,VLe.rfl,True.intro⟩ ?_))
     all_goals (conv=>whnf)
     refine ⟨(gR g.ports v).length - (i + 1),i + 1,by omega,⟨rfl,by omega,fun l hl=>?_⟩,?_⟩
     . rw [gF_take _ i hil] at hl;rcases List.mem_append.1 hl with h | h
       . exact hall l h
       . simp at h;rw [h];exact hb
     . exact weak_b (fun _ _=>[(0,some 0),(1,some 1),(2,some 2),(3,some 3)])
 . repeat' ((conv=>whnf);first | (refine Br.dec ?_ ?_ <;> intro _ <;> try omega))
   all_goals (conv=>whnf)
   have e:upW g v = -1:=by rw [hup,fpI_split _ _ 0 i hi hall,List.drop_of_length_le (by omega)];rfl
   exact postR_by (fun _=>[(0,some 0),(1,some 1),(2,some 2)]) _ _ ⟨by rw [e],rfl⟩ (VRen.kf rfl) (by repeat' (first | exact True.intro | (refine ⟨⟨_,rfl,?_⟩,?_⟩) | exact VRen.kf rfl | (refine And.intro ?_ ?_))) rfl
set_option maxHeartbeats 4000000 in
theorem wdlegit_ok (g:G) (hs:g.Small) (c:Cf) (hc:CSmall c):Ret Tryz.prog 24 [g.v,cV c] (.bool (g.xleg c)):=by
 have h0:=wdconfiguration_ok g hs c hc;have hcl:=hc.len;refine ret_frz rfl ?_;refine fn_rule mixed Tryz.func24 rfl hc24 hr24 rfl ?_;rw [G.xleg];cases hgc:g.conn && g.xconf c with
 | false =>
   rw [hgc] at h0
   repeat' ((conv=>whnf);first | (refine Br.ff ?_) | (refine h0.go ?_))
   all_goals (conv=>whnf)
   exact VLe.rfl
 | true =>
   rw [hgc] at h0;rw [Bool.true_and];rw [Bool.and_eq_true] at hgc;obtain ⟨h1,_⟩:=conn_facts hgc.1;obtain ⟨f1,f2,f3,f4,f5,f6,f7⟩:=val_facts h1;obtain ⟨e1,e2⟩:=xconf_facts hgc.2;have hv:=values_ok g hs hgc.1;have hvl:=vals_len g
   repeat' ((conv=>whnf);first | (refine Br.tt ?_) | (refine h0.go ?_) | (refine hv.go ?_))
   all_goals (conv=>whnf)
   refine loop_r mixed [1,2,5,15,16] (fun i:Nat=>[(17,.int .i64 i)]) (fun m i=>m = c.length - i∧i≤c.length∧∀ v,v < i→gI (gC c v) 0 = gI (vals g) v∧gI (gC c v) 1 = upW g v) c.length 0 ⟨rfl,Nat.zero_le _,fun v hv=>by omega⟩ ?_ ?_
   . exact weak_b (fun _ _=>[(0,some 0),(1,some 1)])
   rintro m i ⟨hm,hi,hall⟩;by_cases hil:i < c.length
   . have hrow:=e2 i hil;have hno:∀ a:Prop,(gI (gC c i) 0≠gI (vals g) i∨gI (gC c i) 1≠upW g i)→VLe (V.bool false) (.bool (trXB g c)):=fun _ q=>VLe.bool (by
      cases e:trXB g c with
      | false=>rfl
      | true =>
        obtain ⟨q1,q2⟩:=trXB_iff.1 e i hil;rcases q with q | q
        . exact (q q1).elim
        . exact (q q2).elim)
     by_cases hz:i = 0
     . have hup:upW g i = -1:=if_pos hz
       repeat' ((conv=>whnf);first | (refine Ix.mk 1 rfl (by omega) ?_) | (refine Br.dec ?_ ?_ <;> intro _ <;> try omega) | (refine Br.bne ?_ ?_ <;> intro _ <;> try omega) | (refine Ar.i64 (by omega) (by omega) ?_) | (refine Ix.nat (by omega) ?_) | (refine Ix.mk 0 rfl (by omega) ?_))
       all_goals (conv=>whnf)
       . rename_i h;exact hno True (.inl h)
       . rename_i h;exact hno True (.inr (by rw [hup];exact h))
       . rename_i q1 q2;refine ⟨c.length - (i + 1),i + 1,by omega,⟨rfl,by omega,fun v hv=>?_⟩,?_⟩
         . by_cases e:v = i
           . subst e;exact ⟨q1,by rw [hup];exact q2⟩
           . exact hall v (by omega)
         . exact weak_b (fun _ _=>[(0,some 0),(1,some 1)])
     . have hfp:=wfp_ok g hgc.1 i (by omega) hz
       repeat' ((conv=>whnf);first | (refine Ix.mk 1 rfl (by omega) ?_) | (refine Br.dec ?_ ?_ <;> intro _ <;> try omega) | (refine Br.bne ?_ ?_ <;> intro _ <;> try omega) | (refine Ar.i64 (by omega) (by omega) ?_) | (refine Ix.nat (by omega) ?_) | (refine Ix.mk 0 rfl (by omega) ?_) | (refine call_by [(0,some 2),(1,some 1),(2,some 0)] [] (hfp.mono ?_) ⟨VRen.kf rfl,VRen.int rfl,VRen.fn ⟨VRen.loc rfl,VRen.loc rfl,VRen.loc rfl,True.intro⟩,True.intro⟩ (by repeat' (first | exact True.intro | (refine ⟨⟨_,rfl,?_⟩,?_⟩) | exact VRen.kf rfl | (refine And.intro ?_ ?_))) rfl;rintro _ _ _ ⟨rfl,rfl⟩) | (refine Chk.mk rfl ?_))
       all_goals (conv=>whnf)
       . rename_i h;exact hno True (.inl h)
       . rename_i h;exact hno True (.inr h)
       . rename_i q1 q2;refine ⟨c.length - (i + 1),i + 1,by omega,⟨rfl,by omega,fun v hv=>?_⟩,?_⟩
         . by_cases e:v = i
           . subst e;exact ⟨q1,q2⟩
           . exact hall v (by omega)
         . exact weak_b (fun _ _=>[(0,some 0),(1,some 1)])
   . repeat' ((conv=>whnf);first | (refine Br.dec ?_ ?_ <;> intro _ <;> try omega))
     all_goals (conv=>whnf)
     exact VLe.bool (trXB_iff.2 (fun v hv=>hall v (by omega))).symm
inductive JD (D:List (Nat × Nat)):Nat→Nat→Prop
 | refl (u:Nat):JD D u u
 | edge {u v:Nat} (h:(u,v)∈D):JD D u v
 | symm {u v:Nat} (h:JD D u v):JD D v u
 | trans {u v w:Nat} (h:JD D u v) (h':JD D v w):JD D u w
theorem JD.mono {D D':List (Nat × Nat)} (hs:∀ p∈D,p∈D') {u v:Nat} (h:JD D u v):JD D' u v:=by
 induction h with
 | refl u=>exact .refl u
 | edge h=>exact .edge (hs _ h)
 | symm _ ih=>exact .symm ih
 | trans _ _ i1 i2=>exact .trans i1 i2
theorem JD.snoc {D:List (Nat × Nat)} {a b u v:Nat}:JD (D ++ [(a,b)]) u v↔JD D u v∨(JD D u a∧JD D b v)∨(JD D u b∧JD D a v):=by
 constructor
 . intro h
   induction h with
   | refl u=>exact .inl (.refl u)
   | edge h =>
     rcases List.mem_append.1 h with h | h
     . exact .inl (.edge h)
     . simp at h;obtain ⟨rfl,rfl⟩:=h;exact .inr (.inl ⟨.refl _,.refl _⟩)
   | symm _ ih =>
     rcases ih with h | ⟨h1,h2⟩ | ⟨h1,h2⟩
     . exact .inl h.symm
     . exact .inr (.inr ⟨h2.symm,h1.symm⟩)
     . exact .inr (.inl ⟨h2.symm,h1.symm⟩)
   | trans _ _ i1 i2 =>
     rcases i1 with h | ⟨h1,h2⟩ | ⟨h1,h2⟩ <;> rcases i2 with k | ⟨k1,k2⟩ | ⟨k1,k2⟩
     . exact .inl (h.trans k)
     . exact .inr (.inl ⟨h.trans k1,k2⟩)
     . exact .inr (.inr ⟨h.trans k1,k2⟩)
     . exact .inr (.inl ⟨h1,h2.trans k⟩)
     . exact .inr (.inl ⟨h1,k2⟩)
     . exact .inl (h1.trans k2)
     . exact .inr (.inr ⟨h1,h2.trans k⟩)
     . exact .inl (h1.trans k2)
     . exact .inr (.inr ⟨h1,k2⟩)
 . intro h;have hm:∀ {x y:Nat},JD D x y→JD (D ++ [(a,b)]) x y:=fun h=>h.mono fun p hp=>List.mem_append.2 (.inl hp);have he:JD (D ++ [(a,b)]) a b:=.edge (List.mem_append.2 (.inr (by simp)));rcases h with h | ⟨h1,h2⟩ | ⟨h1,h2⟩
   . exact hm h
   . exact ((hm h1).trans he).trans (hm h2)
   . exact ((hm h1).trans he.symm).trans (hm h2)
def PtI (n:Nat) (D:List (Nat × Nat)) (p:Nat→Int):Prop:=∀ u v,u < n→v < n→(p u = p v↔JD D u v)
theorem PtI.start (n:Nat):PtI n [] (fun v=>(v:Int)):=by
 intro u v _ _;constructor
 . intro e;have e:(u:Int) = (v:Int):=e;have:u = v:=by omega
   subst this;exact .refl u
 . intro h;have key:∀ {x y:Nat},JD [] x y→x = y:=fun h=>by
    induction h with
    | refl u=>rfl
    | edge h=>simp at h
    | symm _ ih=>exact ih.symm
    | trans _ _ i1 i2=>exact i1.trans i2
   rw [key h]
def joP (p:Nat→Int) (a b:Nat):Nat→Int:=fun v=>if p v = max (p a) (p b) then min (p a) (p b) else p v
theorem PtI.join {n:Nat} {D:List (Nat × Nat)} {p:Nat→Int} (h:PtI n D p) {a b:Nat} (ha:a < n) (hb:b < n):PtI n (D ++ [(a,b)]) (joP p a b):=by
 intro u v hu hv;rw [JD.snoc,← h u v hu hv,← h u a hu ha,← h b v hb hv,← h u b hu hb,← h a v ha hv,joP,joP];generalize p u = x;generalize p v = y;generalize p a = s;generalize p b = t;split <;> split <;> omega
inductive Jn (g:G) (w:Int) (a:Nat):Nat→Prop
 | refl:Jn g w a a
 | step {v:Nat} {l:Int × Int} (hv:v < g.ids.length) (hl:l∈gR g.ports v) (hw:l.2 < w) (h:Jn g w a l.1.toNat):Jn g w a v
def ClJ (g:G) (w:Int) (x:Nat→Bool):Prop:=∀ v,v < g.ids.length→∀ l∈gR g.ports v,l.2 < w→x l.1.toNat = true→x v = true
theorem Jn.in_ {g:G} {w:Int} {a:Nat} {x:Nat→Bool} (hc:ClJ g w x) (ha:x a = true) {v:Nat} (h:Jn g w a v):x v = true:=by
 induction h with
 | refl=>exact ha
 | step hv hl hw _ ih=>exact hc _ hv _ hl hw ih
structure EdgeG (g:G) (u v:Nat) (w:Int):Prop where
 lu:u < g.ids.length
 lv:v < g.ids.length
 mem:((v:Int),w)∈gR g.ports u
theorem EdgeG.symm {g:G} (hg:g.valid = true) {u v:Nat} {w:Int} (h:EdgeG g u v w):EdgeG g v u w:=by
 obtain ⟨f1,f2,f3,f4,f5,f6,f7⟩:=val_facts hg;have:=f7 u (by rw [f3];exact h.lu) _ h.mem;simp only [Int.toNat_natCast] at this;exact ⟨h.lv,h.lu,this⟩
def LtD (g:G) (w:Int) (D:List (Nat × Nat)):Prop:=(∀ u v,(u,v)∈D→∃ k,EdgeG g u v k∧k < w)∧∀ u v k,EdgeG g u v k→k < w→(u,v)∈D∨(v,u)∈D
theorem jn_jd {g:G} (hg:g.valid = true) {w:Int} {D:List (Nat × Nat)} (hD:LtD g w D) {a v:Nat} (ha:a < g.ids.length):Jn g w a v↔(v < g.ids.length∧JD D a v):=by
 obtain ⟨f1,f2,f3,f4,f5,f6,f7⟩:=val_facts hg;constructor
 . intro h
   induction h with
   | refl=>exact ⟨ha,.refl a⟩
   | step hv hl hw hu ih =>
     rename_i v l;have hok:=(okR_iff.1 (f6 v (by omega))).1 l hl;refine ⟨hv,ih.2.trans ?_⟩;have he:EdgeG g v l.1.toNat l.2:=⟨hv,by omega,by rw [Int.toNat_of_nonneg (by omega)];exact hl⟩;rcases hD.2 _ _ _ he hw with q | q
     . exact (JD.edge q).symm
     . exact JD.edge q
 . rintro ⟨hv,h⟩;have tr:∀ {x y z:Nat},Jn g w x y→Jn g w y z→Jn g w x z:=fun h h'=>by
    induction h' with
    | refl=>exact h
    | step hv hl hw _ ih=>exact .step hv hl hw ih
   have one:∀ {x y:Nat} {k:Int},EdgeG g x y k→k < w→Jn g w x y:=fun {x y k} he hk=>by
    have he':=he.symm hg;exact .step (l:=((x:Int),k)) he.lv he'.mem hk (by simp only [Int.toNat_natCast];exact .refl)
   have sy:∀ {x y:Nat},x < g.ids.length→Jn g w x y→Jn g w y x∧y < g.ids.length:=fun {x y} hx h=>by
    induction h with
    | refl=>exact ⟨.refl,hx⟩
    | step hv hl hw hu ih =>
      rename_i v l;have hok:=(okR_iff.1 (f6 v (by omega))).1 l hl;have he:EdgeG g v l.1.toNat l.2:=⟨hv,by omega,by rw [Int.toNat_of_nonneg (by omega)];exact hl⟩;exact ⟨tr (one he hw) ih.1,hv⟩
   have key:∀ {x y:Nat},JD D x y→(x < g.ids.length∨y < g.ids.length)→Jn g w x y∧x < g.ids.length∧y < g.ids.length:=by
    intro x y h
    induction h with
    | refl u=>intro q;exact ⟨.refl,by omega,by omega⟩
    | edge h =>
      intro _;obtain ⟨k,he,hk⟩:=hD.1 _ _ h;exact ⟨one he hk,he.lu,he.lv⟩
    | symm _ ih =>
      intro q;obtain ⟨i1,i2,i3⟩:=ih q.symm;exact ⟨(sy i2 i1).1,i3,i2⟩
    | trans _ _ i1 i2 =>
      intro q;rcases q with q | q
      . obtain ⟨a1,a2,a3⟩:=i1 (.inl q);obtain ⟨b1,b2,b3⟩:=i2 (.inl a3);exact ⟨tr a1 b1,a2,b3⟩
      . obtain ⟨b1,b2,b3⟩:=i2 (.inr q);obtain ⟨a1,a2,a3⟩:=i1 (.inr b2);exact ⟨tr a1 b1,a2,b3⟩
   exact (key h (.inl ha)).1
structure CPs (g:G) (w:Int) (a r v i:Nat) (x:Nat→Bool):Prop where
 start:x a = true
 snd:∀ u,x u = true→Jn g w a u
 cl:ClJ g w x∨r + 2≤cntU x g.ids.length∨(r + 1≤cntU x g.ids.length∧∀ u j,(u < v∨(u = v∧j < i))→u < g.ids.length→j < (gR g.ports u).length→(gF (gR g.ports u) j).2 < w→x (gF (gR g.ports u) j).1.toNat = true→x u = true)
structure CIv (g:G) (w:Int) (a r:Nat) (x:Nat→Bool):Prop where
 start:x a = true
 snd:∀ u,x u = true→Jn g w a u
 cl:ClJ g w x∨r + 1≤cntU x g.ids.length
theorem cup_self {x:Nat→Bool} {v:Nat}:cup x v (x v) = x:=by
 funext u;rw [cup];split
 . rename_i e;rw [e]
 . rfl
theorem CPs.step {g:G} {w:Int} {a r v i:Nat} {x:Nat→Bool} (h:CPs g w a r v i x) (hv:v < g.ids.length) (hi:i < (gR g.ports v).length) :
 CPs g w a r v (i + 1) (cup x v (x v || (decide ((gF (gR g.ports v) i).2 < w) && x (gF (gR g.ports v) i).1.toNat))):=by
 have hl:=gF_mem hi;generalize hL:gF (gR g.ports v) i = l at *;by_cases hadd:l.2 < w∧x l.1.toNat = true∧x v = false
 . obtain ⟨q1,q2,q3⟩:=hadd;have hx:(x v || (decide (l.2 < w) && x l.1.toNat)) = true:=by rw [q2,decide_eq_true q1];simp
   rw [hx];have hc:cntU (cup x v true) g.ids.length = cntU x g.ids.length + 1:=cntU_one (u:=v) (by rw [cup,if_pos rfl]) q3 (fun u hu=>by rw [cup,if_neg hu]) hv;have hst:∀ u,x u = true→cup x v true u = true:=fun u e=>by
    rw [cup];split
    . rfl
    . exact e
   refine ⟨hst a h.start,fun u e=>?_,?_⟩
   . by_cases eu:u = v
     . subst eu;exact .step hv hl q1 (h.snd _ q2)
     . rw [cup,if_neg eu] at e;exact h.snd u e
   . rcases h.cl with q | q | ⟨q,_⟩
     . have:=q v hv l hl q1 q2;rw [q3] at this;cases this
     . exact .inr (.inl (by omega))
     . exact .inr (.inl (by omega))
 . have hx:(x v || (decide (l.2 < w) && x l.1.toNat)) = x v:=by
    cases e:x v with
    | true=>rfl
    | false =>
      rw [Bool.false_or,Bool.and_eq_false_iff,decide_eq_false_iff_not];by_cases q1:l.2 < w
      . right;cases e2:x l.1.toNat with
        | false=>rfl
        | true=>exact (hadd ⟨q1,e2,e⟩).elim
      . exact .inl q1
   rw [hx,cup_self];refine ⟨h.start,h.snd,h.cl.imp id (Or.imp id fun ⟨q,q'⟩=>⟨q,fun u j hq hu hj hw hxl=>?_⟩)⟩;by_cases e:u = v∧j = i
   . obtain ⟨rfl,rfl⟩:=e;rw [hL] at hw hxl;cases e:x u with
     | true=>rfl
     | false=>exact (hadd ⟨hw,hxl,e⟩).elim
   . exact q' u j (by omega) hu hj hw hxl
theorem CPs.row {g:G} {w:Int} {a r v:Nat} {x:Nat→Bool} (h:CPs g w a r v (gR g.ports v).length x):CPs g w a r (v + 1) 0 x :=
 ⟨h.start,h.snd,h.cl.imp id (Or.imp id fun ⟨q,q'⟩=>⟨q,fun u j hq hu hj=>q' u j (by
   rcases Nat.lt_or_ge u v with e | e
   . exact .inl e
   . obtain rfl:u = v:=by omega
     exact .inr ⟨rfl,hj⟩) hu hj⟩)⟩
theorem CPs.over {g:G} {w:Int} {a r v:Nat} {x:Nat→Bool} (h:CPs g w a r v 0 x) (hv:g.ids.length≤v):CIv g w a (r + 1) x:=by
 refine ⟨h.start,h.snd,?_⟩;rcases h.cl with q | q | ⟨_,q⟩
 . exact .inl q
 . exact .inr q
 . refine .inl fun u hu l hl hw hx=>?_;obtain ⟨j,hj,ej⟩:=List.getElem_of_mem hl;have ej:gF (gR g.ports u) j = l:=by rw [← ej];simp [gF,List.getD,hj]
   exact q u j (.inl (by omega)) hu hj (by rw [ej];exact hw) (by rw [ej];exact hx)
theorem CIv.done {g:G} {w:Int} {a:Nat} {x:Nat→Bool} (h:CIv g w a g.ids.length x) (v:Nat):x v = true↔Jn g w a v:=by
 refine ⟨h.snd v,fun q=>?_⟩;rcases h.cl with c | c
 . exact q.in_ c h.start
 . have:=cntV_all x g.ids.length;omega
structure Ed where
 a:Nat
 b:Nat
 w:Int
 deriving DecidableEq
instance:Inhabited Ed:=⟨⟨0,0,0⟩⟩
def Ed.lt (e f:Ed):Prop:=e.a < f.a∨(e.a = f.a∧e.b < f.b)
theorem sorted_uniq {α:Type} {r:α→α→Prop} (has:∀ x y,r x y→¬ r y x):∀ (l m:List α),l.Pairwise r→m.Pairwise r→(∀ x,x∈l↔x∈m)→l = m
 | [],m,_,_,h=>by
   cases m with
   | nil=>rfl
   | cons y m=>exact absurd ((h y).2 (by simp)) (by simp)
 | x :: l,[],_,_,h=>absurd ((h x).1 (by simp)) (by simp)
 | x :: l,y :: m,hl,hm,h=>by
   rw [List.pairwise_cons] at hl hm;have hxy:x = y:=by
    apply Classical.byContradiction;intro ne;have h1:x∈m:=by
     rcases List.mem_cons.1 ((h x).1 (by simp)) with q | q
     . exact (ne q).elim
     . exact q
    have h2:y∈l:=by
     rcases List.mem_cons.1 ((h y).2 (by simp)) with q | q
     . exact (ne q.symm).elim
     . exact q
    exact has _ _ (hl.1 y h2) (hm.1 x h1)
   subst hxy;have irr:∀ z,z∈l→z≠x:=fun z hz e=>by subst e;exact has _ _ (hl.1 z hz) (hl.1 z hz)
   have irr2:∀ z,z∈m→z≠x:=fun z hz e=>by subst e;exact has _ _ (hm.1 z hz) (hm.1 z hz)
   rw [sorted_uniq has l m hl.2 hm.2 fun z=>?_];constructor
   . intro hz;rcases List.mem_cons.1 ((h z).1 (List.mem_cons_of_mem _ hz)) with q | q
     . exact (irr z hz q).elim
     . exact q
   . intro hz;rcases List.mem_cons.1 ((h z).2 (List.mem_cons_of_mem _ hz)) with q | q
     . exact (irr2 z hz q).elim
     . exact q
theorem lt_as (e f:Ed) (h:e.lt f):¬ f.lt e:=by
 intro h';rcases h with h | h <;> rcases h' with h' | h' <;> omega
def edE (g:G) (a b:Nat):Option Ed:=if a < b∧0≤ptoI 0 (gR g.ports a) b then some ⟨a,b,(gF (gR g.ports a) (ptoI 0 (gR g.ports a) b).toNat).2⟩ else none
def edgesL (g:G):List Ed:=(List.range g.ids.length).flatMap fun a=>(List.range g.ids.length).filterMap (edE g a)
theorem pto_spec {b:Int}:∀ {l:Lt2'} {k:Nat},(ptoI k l b = -1∧∀ a∈l,a.1≠b)∨∃ i,i < l.length∧ptoI k l b = ((k + i:Nat):Int)∧(gF l i).1 = b
 | [],_=>.inl ⟨rfl,by simp⟩
 | a :: r,k=>by
   rw [ptoI];by_cases e:a.1 = b
   . rw [if_pos e];exact .inr ⟨0,by simp,rfl,e⟩
   . rw [if_neg e];rcases pto_spec (b:=b) (l:=r) (k:=k + 1) with ⟨h1,h2⟩ | ⟨i,h1,h2,h3⟩
     . refine .inl ⟨h1,fun x hx=>?_⟩;rcases List.mem_cons.1 hx with q | q
       . rw [q];exact e
       . exact h2 x q
     . exact .inr ⟨i + 1,by simp;omega,by rw [h2];congr 1;omega,by simpa [gF] using h3⟩
theorem fst_inj {r:Lt2'} (h:(r.map (·.1)).Nodup) {x y:Int × Int} (hx:x∈r) (hy:y∈r) (e:x.1 = y.1):x = y:=by
 obtain ⟨i,hi,rfl⟩:=List.getElem_of_mem hx;obtain ⟨j,hj,rfl⟩:=List.getElem_of_mem hy;have hp:=List.pairwise_iff_getElem.1 h;rcases Nat.lt_trichotomy i j with q | q | q
 . exact (hp i j (by simpa using hi) (by simpa using hj) q (by simpa using e)).elim
 . subst q;rfl
 . exact (hp j i (by simpa using hj) (by simpa using hi) q (by simpa using e.symm)).elim
theorem edE_iff {g:G} (hg:g.valid = true) {a b:Nat} (ha:a < g.ids.length) (hb:b < g.ids.length) {e:Ed}:edE g a b = some e↔(e.a = a∧e.b = b∧a < b∧EdgeG g a b e.w):=by
 obtain ⟨f1,f2,f3,f4,f5,f6,f7⟩:=val_facts hg;have hnd:=(okR_iff.1 (f6 a (by omega))).2;rw [edE];rcases pto_spec (b:=(b:Int)) (l:=gR g.ports a) (k:=0) with ⟨h1,h2⟩ | ⟨i,h1,h2,h3⟩
 . rw [if_neg (by omega)];refine ⟨fun h=>(by cases h),fun ⟨_,_,_,h⟩=>(h2 _ h.mem rfl).elim⟩
 . rw [Nat.zero_add] at h2;rw [h2,Int.toNat_natCast];have hm:=gF_mem h1;by_cases q:a < b
   . rw [if_pos ⟨q,by omega⟩];constructor
     . intro h;cases h;refine ⟨rfl,rfl,q,⟨ha,hb,?_⟩⟩;simp only;rw [← h3];exact hm
     . rintro ⟨e1,e2,_,h⟩;have:=fst_inj hnd h.mem hm (by rw [h3]);obtain ⟨ea,eb,ew⟩:=e;simp only at e1 e2 this;subst e1 e2;rw [← this]
   . rw [if_neg (fun h=>q h.1)];exact ⟨fun h=>(by cases h),fun h=>(q h.2.2.1).elim⟩
theorem edges_mem {g:G} (hg:g.valid = true) {e:Ed}:e∈edgesL g↔(e.a < e.b∧EdgeG g e.a e.b e.w):=by
 simp only [edgesL,List.mem_flatMap,List.mem_range,List.mem_filterMap];constructor
 . rintro ⟨a,ha,b,hb,h⟩;obtain ⟨rfl,rfl,h1,h2⟩:=(edE_iff hg ha hb).1 h;exact ⟨h1,h2⟩
 . rintro ⟨h1,h2⟩;exact ⟨e.a,h2.lu,e.b,h2.lv,(edE_iff hg h2.lu h2.lv).2 ⟨rfl,rfl,h1,h2⟩⟩
theorem edges_sorted (g:G):(edgesL g).Pairwise Ed.lt:=by
 have hr:∀ n:Nat,(List.range n).Pairwise (· < ·):=fun n=>List.pairwise_lt_range;have ea:∀ {a b:Nat} {e:Ed},edE g a b = some e→e.a = a∧e.b = b:=fun {a b e} h=>by
  rw [edE] at h;split at h
  . cases h;exact ⟨rfl,rfl⟩
  . cases h
 rw [edgesL,List.pairwise_flatMap];refine ⟨fun a _=>?_,(hr _).imp fun {a a'} haa x hx y hy=>?_⟩
 . rw [List.pairwise_filterMap];refine (hr _).imp fun {b b'} hbb x hx y hy=>?_;obtain ⟨x1,x2⟩:=ea hx;obtain ⟨y1,y2⟩:=ea hy;exact .inr ⟨by omega,by omega⟩
 . obtain ⟨b,_,hx⟩:=List.mem_filterMap.1 hx;obtain ⟨b',_,hy⟩:=List.mem_filterMap.1 hy;obtain ⟨x1,x2⟩:=ea hx;obtain ⟨y1,y2⟩:=ea hy;exact .inl (by omega)
def rawE (v:Nat) (l:Int × Int):Option Ed:=if (v:Int) < l.1 then some ⟨v,l.1.toNat,l.2⟩ else none
def rawL (g:G):List Ed:=(List.range g.ids.length).flatMap fun v=>(gR g.ports v).filterMap (rawE v)
theorem raw_mem {g:G} (hg:g.valid = true) {e:Ed}:e∈rawL g↔(e.a < e.b∧EdgeG g e.a e.b e.w):=by
 obtain ⟨f1,f2,f3,f4,f5,f6,f7⟩:=val_facts hg;simp only [rawL,List.mem_flatMap,List.mem_range,List.mem_filterMap,rawE];constructor
 . rintro ⟨v,hv,l,hl,h⟩;have hok:=(okR_iff.1 (f6 v (by omega))).1 l hl;split at h
   . rename_i q;cases h;refine ⟨by show v < l.1.toNat;omega,⟨hv,by show l.1.toNat < _;omega,?_⟩⟩;show (((l.1.toNat:Nat):Int),l.2)∈_;rw [Int.toNat_of_nonneg (by omega)];exact hl
   . cases h
 . rintro ⟨h1,h2⟩;refine ⟨e.a,h2.lu,_,h2.mem,?_⟩;rw [if_pos (by simp only;omega)];simp
theorem raw_nodup {g:G} (hg:g.valid = true):(rawL g).Nodup:=by
 obtain ⟨f1,f2,f3,f4,f5,f6,f7⟩:=val_facts hg;rw [rawL,List.nodup_iff_pairwise_ne,List.pairwise_flatMap];have ra:∀ {v:Nat} {l:Int × Int} {e:Ed},rawE v l = some e→e.a = v∧e.b = l.1.toNat∧(v:Int) < l.1:=fun {v l e} h=>by
  rw [rawE] at h;split at h
  . rename_i q;cases h;exact ⟨rfl,rfl,q⟩
  . cases h
 refine ⟨fun v hv=>?_,List.pairwise_lt_range.imp fun {a a'} haa x hx y hy e=>?_⟩
 . rw [List.pairwise_filterMap];have hnd:=(okR_iff.1 (f6 v (by have:=List.mem_range.1 hv;omega))).2;rw [List.nodup_iff_pairwise_ne,List.pairwise_map] at hnd;refine hnd.imp fun {l l'} hne x hx y hy e=>?_;obtain ⟨x1,x2,x3⟩:=ra hx;obtain ⟨y1,y2,y3⟩:=ra hy;apply hne;rw [e] at x2;omega
 . obtain ⟨l,_,hx⟩:=List.mem_filterMap.1 hx;obtain ⟨l',_,hy⟩:=List.mem_filterMap.1 hy;have:=(ra hx).1;have:=(ra hy).1;rw [e] at *;omega
theorem sorted_edges {g:G} (hg:g.valid = true) {L:List Ed} (hp:L.Perm (rawL g)) (hs:L.Pairwise fun e f=>¬ f.lt e):L = edgesL g:=by
 obtain ⟨f1,f2,f3,f4,f5,f6,f7⟩:=val_facts hg;have hmem:∀ e,e∈L↔(e.a < e.b∧EdgeG g e.a e.b e.w):=fun e=>by rw [hp.mem_iff,raw_mem hg]
 have hnd:L.Nodup:=hp.nodup_iff.2 (raw_nodup hg);have hst:L.Pairwise Ed.lt:=by
  rw [List.nodup_iff_pairwise_ne] at hnd;have hboth:=hs.and hnd;refine List.Pairwise.imp_of_mem (fun {e f} he hf h=>?_) hboth;obtain ⟨h1,h2⟩:=h;apply Classical.byContradiction;intro q;apply h2;have hab:e.a = f.a∧e.b = f.b:=by simp only [Ed.lt] at h1 q;omega
  have me:=((hmem e).1 he).2;have mf:=((hmem f).1 hf).2;have hndr:=(okR_iff.1 (f6 e.a (by have:=me.lu;omega))).2;rw [← hab.1,← hab.2] at mf;have:=fst_inj hndr me.mem mf.mem rfl;obtain ⟨ea,eb,ew⟩:=e;obtain ⟨fa,fb,fw⟩:=f;simp only at hab this;obtain ⟨rfl,rfl⟩:=hab;rw [(Prod.mk.inj this).2]
 exact sorted_uniq lt_as _ _ hst (edges_sorted g) fun e=>by rw [hmem,edges_mem hg]
open Classical in
noncomputable def chE (g:G) (e:Ed):Bool:=decide (¬ Jn g e.w e.a e.b)
noncomputable def selE (g:G) (a b:Nat):Option (Nat × Nat):=match edE g a b with
 | some e=>if chE g e = true then some (a,b) else none
 | none=>none
noncomputable def spanL (g:G):List (Nat × Nat):=(List.range g.ids.length).flatMap fun a=>(List.range g.ids.length).filterMap (selE g a)
theorem span_edges (g:G):((edgesL g).filter (chE g)).map (fun e=>(e.a,e.b)) = spanL g:=by
 rw [edgesL,spanL,List.filter_flatMap,List.map_flatMap];congr 1;funext a;rw [List.filter_filterMap,List.map_filterMap];congr 1;funext b;rw [selE];cases h:edE g a b with
 | none=>rfl
 | some e =>
   have:e.a = a∧e.b = b:=by
    rw [edE] at h;split at h
    . cases h;exact ⟨rfl,rfl⟩
    . cases h
   simp only [Option.filter,Option.map];by_cases q:chE g e = true
   . rw [if_pos q,if_pos q];simp [this.1,this.2]
   . rw [if_neg q,if_neg q]
def prs (l:List Ed):List (Nat × Nat):=l.map fun e=>(e.a,e.b)
theorem ltD_prefix {g:G} (hg:g.valid = true) {B:List Ed} (hp:B.Perm (edgesL g)) (hs:B.Pairwise fun e f=>e.w≤f.w) {i:Nat} {w:Int} (hlt:∀ j,j < i→∀ e,B[j]? = some e→e.w < w) (hge:∀ j,i≤j→∀ e,B[j]? = some e→w≤e.w) :
 LtD g w (prs (B.take i)):=by
 constructor
 . intro u v h;obtain ⟨e,he,q⟩:=List.mem_map.1 h;simp only [Prod.mk.injEq] at q;obtain ⟨rfl,rfl⟩:=q;obtain ⟨j,hj,ej⟩:=List.getElem_of_mem he;rw [List.getElem_take] at ej;have hm:=((edges_mem hg).1 (hp.mem_iff.1 (List.mem_of_mem_take he))).2;exact ⟨e.w,hm,hlt j (by simp at hj;omega) e (by rw [List.getElem?_eq_getElem (by simp at hj;omega),ej])⟩
 . intro u v k h hk;have key:∀ {u v:Nat},EdgeG g u v k→u < v→(u,v)∈prs (B.take i):=fun {u v} h huv=>by
    have hm:(⟨u,v,k⟩:Ed)∈B:=hp.mem_iff.2 ((edges_mem hg).2 ⟨huv,h⟩);obtain ⟨j,hj,ej⟩:=List.getElem_of_mem hm;have hji:j < i:=by
     apply Nat.lt_of_not_le;intro q;have:=hge j q ⟨u,v,k⟩ (by rw [List.getElem?_eq_getElem hj,ej]);simp only at this;omega
    refine List.mem_map.2 ⟨⟨u,v,k⟩,?_,rfl⟩;rw [← ej];exact List.mem_iff_getElem.2 ⟨j,by simp;omega,by rw [List.getElem_take]⟩
   rcases Nat.lt_trichotomy u v with q | q | q
   . exact .inl (key h q)
   . exfalso;subst q;obtain ⟨f1,f2,f3,f4,f5,f6,f7⟩:=val_facts hg;have:=(okR_iff.1 (f6 u (by have:=h.lu;omega))).1 _ h.mem;simp only at this;omega
   . exact .inr (key (h.symm hg) q)
abbrev gE (L:List Ed) (i:Nat):Ed:=L.getD i default
def eF (L:List Ed):Nat→Nat→V:=fun i j=>match j with
 | 0=>.int .i64 (gE L i).a
 | 1=>.int .i64 (gE L i).b
 | _=>.int .i64 (gE L i).w
structure Wo (lt:Ed→Ed→Prop):Prop where
 asy:∀ x y,lt x y→¬ lt y x
 nt:∀ x y z,¬ lt y x→¬ lt z y→¬ lt z x
def swE (L:List Ed) (i j:Nat):List Ed:=(L.set i (gE L j)).set j (gE L i)
theorem swE_len (L:List Ed) (i j:Nat):(swE L i j).length = L.length:=by simp [swE]
theorem swE_get {L:List Ed} {i j:Nat} (hi:i < L.length) (hj:j < L.length) (k:Nat):gE (swE L i j) k = if k = j then gE L i else if k = i then gE L j else gE L k:=by
 simp only [gE,swE,List.getD,List.getElem?_set,List.length_set];by_cases e:k = j
 . subst e;simp [hj]
 . rw [if_neg (fun q=>e q.symm),if_neg e];by_cases e2:k = i
   . subst e2;simp [hi]
   . rw [if_neg (fun q=>e2 q.symm),if_neg e2]
theorem ext_gE {l m:List Ed} (hl:l.length = m.length) (h:∀ k,k < l.length→gE l k = gE m k):l = m :=
 List.ext_getElem hl fun k h1 h2=>by have:=h k h1;simpa [gE,List.getD,h1,h2] using this
theorem swE_perm {L:List Ed} {i:Nat} (hi:i + 1 < L.length):(swE L (i + 1) i).Perm L:=by
 have e:L = L.take i ++ (gE L i :: gE L (i + 1) :: L.drop (i + 2)):=by
  have h1:L.drop i = gE L i :: L.drop (i + 1):=by rw [List.drop_eq_getElem_cons (by omega)];simp [gE,List.getD,show i < L.length by omega]
  have h2:L.drop (i + 1) = gE L (i + 1) :: L.drop (i + 2):=by rw [List.drop_eq_getElem_cons (by omega)];simp [gE,List.getD,hi]
  rw [← h2,← h1,List.take_append_drop]
 have e2:swE L (i + 1) i = L.take i ++ (gE L (i + 1) :: gE L i :: L.drop (i + 2)):=by
  refine ext_gE (by rw [swE_len];simp;omega) fun k hk=>?_;rw [swE_len] at hk;rw [swE_get hi (by omega)];have ht:(L.take i).length = i:=by simp;omega
  simp only [gE,List.getD];rcases Nat.lt_trichotomy k i with q | q | q
  . rw [if_neg (by omega),if_neg (by omega),List.getElem?_append_left (by omega),List.getElem?_take,if_pos q]
  . subst q;rw [if_pos rfl,List.getElem?_append_right (by omega),ht];simp
  . rw [if_neg (by omega),List.getElem?_append_right (by omega),ht];by_cases q2:k = i + 1
    . subst q2;rw [if_pos rfl,show i + 1 - i = 1 by omega];simp
    . rw [if_neg q2];obtain ⟨d,rfl⟩:∃ d,k = i + 2 + d:=⟨k - (i + 2),by omega⟩;rw [show i + 2 + d - i = d + 2 by omega];simp
 rw [e2]
 conv=>rhs;rw [e]
 exact (List.Perm.swap _ _ _).append_left _
def SoI (lt:Ed→Ed→Prop) (L:List Ed) (i:Nat):Prop:=∀ p q,p < q→q < i→¬ lt (gE L q) (gE L p)
structure SoJ (lt:Ed→Ed→Prop) (L:List Ed) (i j:Nat):Prop where
 le:j≤i
 but:∀ p q,p < q→q≤i→p≠j→q≠j→¬ lt (gE L q) (gE L p)
 behind:∀ q,j < q→q≤i→¬ lt (gE L q) (gE L j)
theorem SoJ.start {lt:Ed→Ed→Prop} {L:List Ed} {i:Nat} (h:SoI lt L i):SoJ lt L i i :=
 ⟨Nat.le_refl _,fun p q h1 h2 h3 h4=>h p q h1 (by omega),fun q h1 h2=>by omega⟩
theorem SoJ.done {lt:Ed→Ed→Prop} (hw:Wo lt) {L:List Ed} {i j:Nat} (h:SoJ lt L i j) (hj:j = 0∨¬ lt (gE L j) (gE L (j - 1))):SoI lt L (i + 1):=by
 intro p q h1 h2;by_cases e:q = j
 . subst e;rcases hj with hj | hj
   . omega
   . by_cases e2:p = q - 1
     . rw [e2];exact hj
     . exact hw.nt _ _ _ (h.but p (q - 1) (by omega) (by omega) (by omega) (by omega)) hj
 . by_cases e2:p = j
   . subst e2;exact h.behind q h1 (by omega)
   . exact h.but p q h1 (by omega) e2 e
theorem SoJ.step {lt:Ed→Ed→Prop} (hw:Wo lt) {L:List Ed} {i j:Nat} (h:SoJ lt L i (j + 1)) (hi:i < L.length) (hlt:lt (gE L (j + 1)) (gE L j)):SoJ lt (swE L (j + 1) j) i j:=by
 have hle:=h.le;have hg:=fun k=>swE_get (L:=L) (i:=j + 1) (j:=j) (by omega) (by omega) k;refine ⟨by omega,fun p q h1 h2 h3 h4=>?_,fun q h1 h2=>?_⟩
 . rw [hg,hg,if_neg h4,if_neg h3];by_cases e:q = j + 1
   . rw [if_pos e,if_neg (by omega)];exact h.but p j (by omega) (by omega) (by omega) (by omega)
   . rw [if_neg e];by_cases e2:p = j + 1
     . rw [if_pos e2];exact h.but j q (by omega) h2 (by omega) e
     . rw [if_neg e2];exact h.but p q h1 h2 e2 e
 . rw [hg,hg,if_neg (by omega),if_pos rfl];by_cases e:q = j + 1
   . rw [if_pos e];exact hw.asy _ _ hlt
   . rw [if_neg e];exact h.behind q (by omega) h2
theorem SoI.pairwise {lt:Ed→Ed→Prop} {L:List Ed} (h:SoI lt L L.length):L.Pairwise fun e f=>¬ lt f e:=by
 rw [List.pairwise_iff_getElem];intro i j h1 h2 h3;have:=h i j h3 h2;simpa [gE,List.getD,h1,h2] using this
theorem SoI.one {lt:Ed→Ed→Prop} {L:List Ed} {i:Nat} (h:i≤1):SoI lt L i:=fun p q h1 h2=>by omega
def ltW (e f:Ed):Prop:=e.w < f.w
theorem wo_lt:Wo Ed.lt:=⟨fun x y h h'=>lt_as x y h h',fun x y z h1 h2 h3=>by simp only [Ed.lt] at h1 h2 h3;omega⟩
theorem wo_w:Wo ltW:=⟨fun x y h h'=>by simp only [ltW] at h h';omega,fun x y z h1 h2 h3=>by simp only [ltW] at h1 h2 h3;omega⟩
instance (l:List IntKind):DecidableEq (KyS l):=KyS.dec l
abbrev KE:List IntKind:=[.i64,.i64,.i64]
def keyE (e:Ed):KyT (.st KE):=((e.a:Int),(e.b:Int),e.w,())
theorem keyE_inj {e f:Ed} (h:keyE e = keyE f):e = f:=by
 obtain ⟨a,b,w⟩:=e;obtain ⟨a',b',w'⟩:=f;obtain ⟨h1,h⟩:=Prod.mk.inj h;obtain ⟨h2,h⟩:=Prod.mk.inj h;obtain ⟨h3,_⟩:=Prod.mk.inj h;simp only at h1 h2 h3;obtain rfl:a = a':=by omega
 obtain rfl:b = b':=by omega
 rw [h3]
theorem mput_new {α:Type} [DecidableEq α]:∀ {l:List (α × V)} {k:α} {v:V},(∀ p∈l,p.1≠k)→mput l k v = l ++ [(k,v)]
 | [],_,_,_=>rfl
 | (q,u) :: r,k,v,h=>by
   rw [mput,if_neg (h (q,u) (by simp)),mput_new (fun p hp=>h p (by simp [hp]))];rfl
theorem mfind_map {α:Type} [DecidableEq α] {β:Type} {f:β→α} {v:β→V} (hf:∀ x y,f x = f y→x = y):∀ {l:List β} {x:β},x∈l→mfind (l.map fun x=>(f x,v x)) (f x) = some (v x)
 | [],_,h=>by simp at h
 | y :: r,x,h=>by
   rw [List.map_cons,mfind];by_cases e:f y = f x
   . rw [if_pos e,hf _ _ e]
   . rw [if_neg e];rcases List.mem_cons.1 h with q | q
     . subst q;exact (e rfl).elim
     . exact mfind_map hf q
noncomputable def enM (g:G) (l:List Ed):List (KyT (.st KE) × V):=l.map fun e=>(keyE e,.bool (chE g e))
theorem gE_of {L:List Ed} {i:Nat} (h:i < L.length):L[i] = gE L i:=by simp [gE,List.getD,h]
theorem take_gE {L:List Ed} {i:Nat} (h:i < L.length):L.take (i + 1) = L.take i ++ [gE L i]:=by
 rw [List.take_succ_eq_append_getElem h,gE_of h]
theorem enM_put (g:G) {B:List Ed} (hn:B.Nodup) {i:Nat} (hi:i < B.length) {v:V} (hv:v = .bool (chE g (gE B i))):mput (enM g (B.take i)) (keyE (gE B i)) v = enM g (B.take (i + 1)):=by
 rw [mput_new,take_gE hi,enM,enM,List.map_append,hv]
 . rfl
 . intro p hp q;obtain ⟨e,he,rfl⟩:=List.mem_map.1 hp;have:=keyE_inj q;subst this;obtain ⟨j,hj,ej⟩:=List.getElem_of_mem he;simp at hj;rw [List.getElem_take,gE_of (by omega)] at ej;have hp:=List.pairwise_iff_getElem.1 (List.nodup_iff_pairwise_ne.1 hn) j i (by omega) hi (by omega);rw [gE_of,gE_of] at hp;exact hp ej
theorem enM_find (g:G) {B:List Ed} {e:Ed} (he:e∈B):mfind (enM g B) (keyE e) = some (.bool (chE g e)):=mfind_map (fun _ _ h=>keyE_inj h) he
theorem enX_ex:∃ f:G→List Ed→List (KyT (.st KE) × V),∀ g l,f g l = enM g l:=⟨enM,fun _ _=>rfl⟩
noncomputable def enX:G→List Ed→List (KyT (.st KE) × V):=Classical.choose enX_ex
theorem enX_eq (g:G) (l:List Ed):enX g l = enM g l:=Classical.choose_spec enX_ex g l
theorem enX_nil (g:G) (B:List Ed):enX g (B.take 0) = []:=by rw [enX_eq];rfl
theorem enX_put (g:G) {B:List Ed} (hn:B.Nodup) {i:Nat} (hi:i < B.length) {v:V} (hv:v = .bool (chE g (gE B i))):mput (enX g (B.take i)) (keyE (gE B i)) v = enX g (B.take (i + 1)):=by
 rw [enX_eq,enX_eq];exact enM_put g hn hi hv
theorem enX_find (g:G) {B:List Ed} {e:Ed} (he:e∈B):mfind (enX g B) (keyE e) = some (.bool (chE g e)):=by
 rw [enX_eq];exact enM_find g he
structure ByW (g:G) (B:List Ed):Prop where
 perm:B.Perm (edgesL g)
 so:SoI ltW B B.length
theorem ByW.le {g:G} {B:List Ed} (h:ByW g B) {i j:Nat} (hij:i≤j) (hj:j < B.length):(gE B i).w≤(gE B j).w:=by
 by_cases e:i = j
 . subst e;exact Int.le_refl _
 . have:=h.so i j (by omega) hj;simp only [ltW] at this;omega
theorem ByW.nodup {g:G} (hg:g.valid = true) {B:List Ed} (h:ByW g B):B.Nodup:=by
 rw [h.perm.nodup_iff,List.nodup_iff_pairwise_ne];exact (edges_sorted g).imp fun {e f} hl q=>by subst q;exact lt_as _ _ hl hl
theorem ByW.edge {g:G} (hg:g.valid = true) {B:List Ed} (h:ByW g B) {i:Nat} (hi:i < B.length):(gE B i).a < (gE B i).b∧EdgeG g (gE B i).a (gE B i).b (gE B i).w:=by
 rw [← edges_mem hg,← h.perm.mem_iff,← gE_of hi];exact List.getElem_mem hi
structure Cls (g:G) (B:List Ed) (i:Nat) (p:Nat→Int):Prop where
 le:i≤B.length
 pt:PtI g.ids.length (prs (B.take i)) p
 bd:∀ j,j < i→i < B.length→(gE B j).w < (gE B i).w
theorem Cls.start {g:G} (B:List Ed):Cls g B 0 (fun v=>(v:Int)):=⟨Nat.zero_le _,by simpa [prs] using PtI.start g.ids.length,fun j hj=>by omega⟩
theorem Cls.ch {g:G} (hg:g.valid = true) {B:List Ed} (hB:ByW g B) {i:Nat} {p:Nat→Int} (h:Cls g B i p) {k:Nat} (hik:i≤k) (hk:k < B.length) (hw:(gE B k).w = (gE B i).w) :
 (!decide (p (gE B k).a = p (gE B k).b)) = chE g (gE B k):=by
 have he:=(hB.edge hg hk).2;have hD:LtD g (gE B k).w (prs (B.take i)):=by
  refine ltD_prefix hg hB.perm ?_ (fun j hj e ee=>?_) (fun j hj e ee=>?_)
  . refine hB.so.pairwise.imp fun {e f} q=>?_;simp only [ltW] at q;omega
  . have hjl:j < B.length:=by have:=h.le;omega
    rw [List.getElem?_eq_getElem hjl,gE_of hjl] at ee;cases ee;rw [hw];exact h.bd j hj (by omega)
  . have hjl:j < B.length:=(List.getElem?_eq_some_iff.1 ee).1;rw [List.getElem?_eq_getElem hjl,gE_of hjl] at ee;cases ee;rw [hw];exact hB.le hj hjl
 have hj:=jn_jd hg hD (v:=(gE B k).b) he.lu;have hp:=h.pt _ _ he.lu he.lv;rw [chE,← decide_not,decide_eq_decide,hj,hp];exact ⟨fun q r=>q r.2,fun q r=>q ⟨he.lv,r⟩⟩
structure Jng (g:G) (B:List Ed) (i k m:Nat) (p:Nat→Int):Prop where
 le:i≤m∧m≤k∧k≤B.length
 pt:PtI g.ids.length (prs (B.take m)) p
theorem Jng.step {g:G} (hg:g.valid = true) {B:List Ed} (hB:ByW g B) {i k m:Nat} {p:Nat→Int} (h:Jng g B i k m p) (hm:m < k):Jng g B i k (m + 1) (joP p (gE B m).a (gE B m).b):=by
 have hl:=h.le;have he:=(hB.edge hg (i:=m) (by omega)).2;refine ⟨⟨by omega,by omega,hl.2.2⟩,?_⟩;rw [take_gE (by omega),prs,List.map_append];exact h.pt.join he.lu he.lv
theorem Jng.next {g:G} {B:List Ed} (hB:ByW g B) {i k:Nat} {p:Nat→Int} (h:Jng g B i k k p) (hik:i < k) (hw:∀ j,i≤j→j < k→(gE B j).w = (gE B i).w) (hn:k < B.length→(gE B k).w≠(gE B i).w):Cls g B k p:=by
 have hl:=h.le;refine ⟨hl.2.2,h.pt,fun j hj hk=>?_⟩;have h1:=hB.le (i:=i) (j:=k) (by omega) hk;have h2:=hn hk;have h3:(gE B j).w≤(gE B i).w:=by
  by_cases e:i≤j
  . rw [hw j e hj];exact Int.le_refl _
  . exact hB.le (by omega) (by omega)
 omega
def cpI (a b:Int):Int:=if a < b then -1 else if a > b then 1 else 0
def edC (e:Ed):List V:=[.int .i64 e.a,.int .i64 e.b,.int .i64 e.w]
def edV (e:Ed):V:=.agg (edC e)
theorem isnan_ok (a:Int):Ret Tryz.prog 71 [.int .i64 a] (.bool false):=by
 refine ret_frz rfl ?_;refine fn_rule mixed Tryz.func71 rfl hc71 hr71 rfl ?_
 repeat' ((conv=>whnf);first | (refine Br.bne ?_ ?_ <;> intro _ <;> try omega))
 all_goals (conv=>whnf)
 all_goals first
  | exact VLe.rfl
  | (exfalso;rename_i h;exact h rfl)
theorem compare_ok (a b:Int):Ret Tryz.prog 38 [.int .i64 a,.int .i64 b] (.int .i64 (cpI a b)):=by
 have h1:=isnan_ok a;have h2:=isnan_ok b;refine ret_frz rfl ?_;refine fn_rule mixed Tryz.func38 rfl hc38 hr38 rfl ?_
 repeat' ((conv=>whnf);first | (refine Br.ff ?_) | (refine Br.dec ?_ ?_ <;> intro _ <;> try omega) | (refine h1.go ?_) | (refine h2.go ?_))
 all_goals (conv=>whnf)
 all_goals exact VLe.int (by rw [cpI];repeat' split;all_goals first | rfl | omega)
theorem or_ok (a b:Int):Ret Tryz.prog 69 [.fz 2 1 false (vI [a,b])] (.int .i64 (if a = 0 then b else a)):=by
 refine ret_frz rfl ?_;refine fn_rule mixed Tryz.func69 rfl hc69 hr69 rfl ?_;have e0:vI [a,b] 0 0 = .int .i64 a:=rfl;have e1:vI [a,b] 1 0 = .int .i64 b:=rfl
 repeat' ((conv=>whnf);first | fail)
 all_goals (conv=>whnf)
 refine loop_fuel mixed 3 ?_
 repeat' ((conv=>whnf);first | (refine Br.tt ?_) | (refine Br.ff ?_) | (refine Br.bne ?_ ?_ <;> intro _ <;> try omega) | (refine Ar.i64 (by omega) (by omega) ?_) | (refine Ix.mk 0 rfl (by omega) ?_) | (refine Ix.mk 1 rfl (by omega) ?_))
 all_goals (conv=>whnf)
 all_goals first
  | (rename_i h;have h:a≠0:=h;rw [if_neg h];exact VLe.rfl)
  | (rename_i h _;have h:a = 0:=h;rw [if_pos h];exact VLe.rfl)
  | (rename_i h h2;have h:a = 0:=h;have h2:b = 0:=h2;rw [if_pos h,h2];exact VLe.rfl)
def cfE (x y:Ed):Int:=if cpI x.a y.a = 0 then cpI x.b y.b else cpI x.a y.a
theorem cfE_lt (x y:Ed):cfE x y < 0↔x.lt y:=by
 simp only [cfE,cpI,Ed.lt]
 repeat' split
 all_goals omega
theorem cpW_lt (x y:Ed):cpI x.w y.w < 0↔ltW x y:=by
 simp only [cpI,ltW]
 repeat' split
 all_goals omega
theorem span1_ok (x y:Ed):Ret Tryz.prog 37 [edV x,edV y] (.int .i64 (cpI x.w y.w)):=by
 have h:=compare_ok x.w y.w;refine ret_frz rfl ?_;refine fn_rule mixed Tryz.func37 rfl hc37 hr37 rfl ?_
 repeat' ((conv=>whnf);first | (refine h.go ?_))
 all_goals (conv=>whnf)
 exact VLe.rfl
theorem edges1_ok (x y:Ed):Ret Tryz.prog 68 [edV x,edV y] (.int .i64 (cfE x y)):=by
 have h1:=compare_ok x.a y.a;have h2:=compare_ok x.b y.b;have h3:=or_ok (cpI x.a y.a) (cpI x.b y.b);refine ret_frz rfl ?_;refine fn_rule mixed Tryz.func68 rfl hc68 hr68 rfl ?_
 repeat' ((conv=>whnf);first | (refine h1.go ?_) | (refine h2.go ?_) | (refine And.intro rfl ?_) | (refine call_lend h3 rfl ⟨by decide,VLe.fz rfl (fun h=>h) (two_le' _ _ _ rfl rfl),True.intro⟩ ?_))
 all_goals (conv=>whnf)
 exact VLe.rfl
theorem edC_get (e:Ed) (j:Nat) (hj:j < 3) (L:List Ed) (i:Nat) (he:gE L i = e):eF L i j = (edC e).getD j default:=by
 subst he;rcases (show j = 0∨j = 1∨j = 2 by omega) with rfl | rfl | rfl <;> rfl
theorem swap_le (L:List Ed) (q:Nat) (hq:q + 1 < L.length) (i t:Nat) (ht:t < 3):VLe (fset (fset (eF L) (q + 1) 0 (edC (gE L q))) q 0 (edC (gE L (q + 1))) i t) (eF (swE L (q + 1) q) i t):=by
 apply VLe.of_eq;have hg:=swE_get (L:=L) (i:=q + 1) (j:=q) hq (by omega) i;have hl:∀ e:Ed,(edC e).length = 3:=fun e=>rfl;simp only [fset,hl,Nat.sub_zero,Nat.zero_le,true_and,Nat.zero_add];by_cases e1:i = q
 . rw [if_pos e1] at hg;rw [if_pos ⟨e1,ht⟩,edC_get _ t ht _ i hg]
 . rw [if_neg e1] at hg;rw [if_neg (fun h=>e1 h.1)];by_cases e2:i = q + 1
   . rw [if_pos e2] at hg;rw [if_pos ⟨e2,ht⟩,edC_get _ t ht _ i hg]
   . rw [if_neg e2] at hg;rw [if_neg (fun h=>e2 h.1),edC_get _ t ht _ i hg,edC_get _ t ht _ i rfl]
set_option maxHeartbeats 8000000 in
theorem ins_ok (cl:FuncId) (hcl:callable Tryz.prog cl = true) (cf:Ed→Ed→Int) (hcf:∀ x y,Ret Tryz.prog cl [edV x,edV y] (.int .i64 (cf x y))) (lt:Ed→Ed→Prop) (hw:Wo lt) (hlt:∀ x y,cf x y < 0↔lt x y) (L0:List Ed) (hL:L0.length≤1000) :
 CallF Tryz.prog 97 [.vec 0 3 0 L0.length,.int .i64 0,.int .i64 L0.length,.fn (.func cl) false []] [(0,.vec L0.length 3 (eF L0))] [1,2,3,4,5,6,7,8,9,10,11,12,13,14,15,16,17,18,19,20,21,22,23,24,25,26,27,28,29]
  fun v own' _=>∃ L:List Ed,(L.Perm L0∧SoI lt L L.length)∧v = .tup []∧own' = [(0,.vec L0.length 3 (eF L))]:=by
 refine fn_rule mixed Tryz.func97 rfl hc97 hr97 rfl ?_
 repeat' ((conv=>whnf);first | (refine Ar.i64 (by omega) (by omega) ?_))
 all_goals (conv=>whnf)
 refine loop_u mixed [0,1,2,3] [] [1,2,3,4,5,6,7,8,9,10,11,12,13,14,15,16,17,18,19,20,21,22,23,24,25,26,27,28,29] [0] (fun p:Nat × List Ed=>[(8,.int .i64 ((p.1:Int) + 1))]) (fun own p=>updO own 0 (.vec L0.length 3 (eF p.2))) (fun m p=>m = L0.length - p.1∧(p.1 = 0∨p.1 + 1≤L0.length)∧p.2.Perm L0∧SoI lt p.2 (p.1 + 1)) L0.length (0,L0) ⟨rfl,.inl rfl,.refl _,SoI.one (by omega)⟩ rfl (fun _=>rfl) ?_ ?_
 . exact weak_b (fun _ _=>[(0,some 0)])
 rintro m ⟨k,L1⟩ ⟨hm,hk,hp1,hs1⟩;simp only at hm hk hp1 hs1;have hl1:=hp1.length_eq;by_cases hkn:k + 1 < L0.length
 . dsimp only
   repeat' ((conv=>whnf);first | (refine Br.dec ?_ ?_ <;> intro _ <;> try omega))
   all_goals (conv=>whnf)
   refine loop_u mixed [0,1,2,3,8] [] [1,2,3,4,5,6,7,8,9,10,11,12,13,14,15,16,17,18,19,20,21,22,23,24,25,26,27,28,29] [0] (fun p:Nat × List Ed=>[(9,.int .i64 p.1)]) (fun own p=>updO own 0 (.vec L0.length 3 (eF p.2))) (fun m p=>m = p.1∧SoJ lt p.2 (k + 1) p.1∧p.2.Perm L0) (k + 1) (k + 1,L1) ⟨rfl,SoJ.start hs1,hp1⟩ rfl (fun _=>rfl) ?_ ?_
   . exact weak_b (fun _ _=>[(0,some 0)])
   rintro m ⟨j,L⟩ ⟨hm2,hj,hp⟩;simp only at hm2 hj hp;have hl:=hp.length_eq;have hle:=hj.le;subst hm2;rcases m with _ | q
   . dsimp only
     repeat' ((conv=>whnf);first | (refine Br.ff ?_) | (refine Ar.i64 (by omega) (by omega) ?_))
     all_goals (conv=>whnf)
     refine ⟨L0.length - (k + 1),(k + 1,L),by omega,⟨rfl,.inr (by omega),hp,hj.done hw (.inl rfl)⟩,?_⟩;exact weak_b (fun _ _=>[(0,some 0)])
   . dsimp only;have h1:=hcf (gE L (0 + (q + 1))) (gE L (0 + q));have z1:0 + (q + 1) = q + 1:=Nat.zero_add _;have z2:0 + q = q:=Nat.zero_add _;by_cases hc:cf (gE L (0 + (q + 1))) (gE L (0 + q)) < 0
     . repeat' ((conv=>whnf);first | (refine Ix.mk (q + 1) (by omega) (by omega) ?_) | (refine Ix.mk q (by omega) (by omega) ?_) | (refine Br.dec ?_ ?_ <;> intro _ <;> try omega) | (refine Ar.i64 (by omega) (by omega) ?_) | (refine Ltn.mk (by omega) ?_) | (refine Chk.mk hcl ?_) | (refine h1.go ?_))
       all_goals (conv=>whnf)
       rw [z1,z2] at hc;refine ⟨q,(q,swE L (q + 1) q),by omega,⟨rfl,hj.step hw (by omega) ((hlt _ _).1 hc),(swE_perm (by omega)).trans hp⟩,?_⟩;refine weak_by (fun _ _=>[(0,some 0)]) ?_ ?_ rfl
       . repeat' (first | exact True.intro | (refine VRen.fn ?_) | (refine ⟨⟨_,rfl,?_⟩,?_⟩) | exact VRen.kf rfl | exact VRen.int (by omega) | exact VRen.vec rfl rfl rfl)
       . repeat' (first | exact ⟨Nat.le_refl _,rfl,fun i t hi ht=>by simp only [Nat.zero_add];exact swap_le L q (by omega) i t ht⟩ | exact True.intro | (refine ⟨⟨_,rfl,?_⟩,?_⟩))
     . repeat' ((conv=>whnf);first | (refine Ix.mk (q + 1) (by omega) (by omega) ?_) | (refine Ix.mk q (by omega) (by omega) ?_) | (refine Br.dec ?_ ?_ <;> intro _ <;> try omega) | (refine Ar.i64 (by omega) (by omega) ?_) | (refine Ltn.mk (by omega) ?_) | (refine Chk.mk hcl ?_) | (refine h1.go ?_))
       all_goals (conv=>whnf)
       rw [z1,z2] at hc;refine ⟨L0.length - (k + 1),(k + 1,L),by omega,⟨rfl,.inr (by omega),hp,hj.done hw (.inr (fun h=>hc ((hlt _ _).2 h)))⟩,?_⟩;exact weak_b (fun _ _=>[(0,some 0)])
 . dsimp only
   repeat' ((conv=>whnf);first | (refine Br.dec ?_ ?_ <;> intro _ <;> try omega))
   all_goals (conv=>whnf)
   refine ⟨L1,⟨hp1,?_⟩,rfl,rfl⟩;intro p q h1 h2;exact hs1 p q h1 (by omega)
def lnTb (n:Nat):Int:=if n = 0 then 0 else if n = 1 then 1 else if n≤3 then 2 else if n≤7 then 3 else 4
theorem ar_u8 {n:Int} {K:Int→Prop} (h1:0≤n) (h2:n≤255) (hK:K n):Ar .u8 n K:=⟨n,by simp [IntKind.wrap,IntKind.bits,IntKind.signed];omega,hK⟩
theorem blen64_ok (n:Nat) (h:n≤12):Ret Tryz.prog 136 [.int .u64 n] (.int .i64 (lnTb n)):=by
 rcases (show n = 0∨n = 1∨n = 2∨n = 3∨n = 4∨n = 5∨n = 6∨n = 7∨n = 8∨n = 9∨n = 10∨n = 11∨n = 12 by omega) with rfl | rfl | rfl | rfl | rfl | rfl | rfl | rfl | rfl | rfl | rfl | rfl | rfl
 all_goals
  refine ret_frz rfl ?_;refine fn_rule mixed Tryz.func136 rfl hc136 hr136 rfl ?_
  repeat' ((conv=>whnf);first | (refine Br.ff ?_) | (refine ar_u8 (by omega) (by omega) ?_) | (refine Ix.nat (by decide) ?_) | (refine Ar.i64 (by decide) (by decide) ?_))
  all_goals (conv=>whnf)
  first
   | (refine VLe.int ?_;decide)
   | (refine VLe.int ?_;rfl)
   | exact VLe.of_eq rfl
theorem blen_ok (n:Nat) (h:n≤12):Ret Tryz.prog 96 [.int .u64 n] (.int .i64 (lnTb n)):=by
 have h1:=blen64_ok n h;refine ret_frz rfl ?_;refine fn_rule mixed Tryz.func96 rfl hc96 hr96 rfl ?_
 repeat' ((conv=>whnf);first | (refine h1.go ?_))
 all_goals (conv=>whnf)
 exact VLe.rfl
abbrev ks29:List Nat:=[1,2,3,4,5,6,7,8,9,10,11,12,13,14,15,16,17,18,19,20,21,22,23,24,25,26,27,28,29]
theorem pdq_ok (cl:FuncId) (hcl:callable Tryz.prog cl = true) (cf:Ed→Ed→Int) (hcf:∀ x y,Ret Tryz.prog cl [edV x,edV y] (.int .i64 (cf x y))) (lt:Ed→Ed→Prop) (hw:Wo lt) (hlt:∀ x y,cf x y < 0↔lt x y) (L0:List Ed) (hL:L0.length≤12) (lim:Int) :
 CallF Tryz.prog 95 [.vec 0 3 0 L0.length,.int .i64 0,.int .i64 L0.length,.int .i64 lim,.fn (.func cl) false []] [(0,.vec L0.length 3 (eF L0))] ks29
  fun v own' _=>∃ L:List Ed,(L.Perm L0∧SoI lt L L.length)∧v = .tup []∧own' = [(0,.vec L0.length 3 (eF L))]:=by
 have hi:=ins_ok cl hcl cf hcf lt hw hlt L0 (by omega);refine fn_rule mixed Tryz.func95 rfl hc95 hr95 rfl ?_
 repeat' ((conv=>whnf);first | fail)
 all_goals (conv=>whnf)
 refine loop_fuel mixed 1 ?_
 repeat' ((conv=>whnf);first | (refine Br.dec ?_ ?_ <;> intro _ <;> try omega) | (refine Ar.i64 (by omega) (by omega) ?_) | (refine hi.mono ?_;rintro _ _ _ ⟨L,hp,rfl,rfl⟩))
 all_goals (conv=>whnf)
 exact ⟨L,hp,rfl,rfl⟩
theorem sortf_ok (cl:FuncId) (hcl:callable Tryz.prog cl = true) (cf:Ed→Ed→Int) (hcf:∀ x y,Ret Tryz.prog cl [edV x,edV y] (.int .i64 (cf x y))) (lt:Ed→Ed→Prop) (hw:Wo lt) (hlt:∀ x y,cf x y < 0↔lt x y) (L0:List Ed) (hL:L0.length≤12) :
 CallF Tryz.prog 67 [.vec 0 3 0 L0.length,.fn (.func cl) false []] [(0,.vec L0.length 3 (eF L0))] ks29
  fun v own' _=>∃ L:List Ed,(L.Perm L0∧SoI lt L L.length)∧v = .tup []∧own' = [(0,.vec L0.length 3 (eF L))]:=by
 have hb:=blen_ok L0.length hL;have hi:=pdq_ok cl hcl cf hcf lt hw hlt L0 hL (lnTb L0.length);refine fn_rule mixed Tryz.func67 rfl hc67 hr67 rfl ?_
 repeat' ((conv=>whnf);first | (refine Ar.u64 (by omega) (by omega) ?_) | (refine hb.go ?_) | (refine hi.mono ?_;rintro _ _ _ ⟨L,hp,rfl,rfl⟩))
 all_goals (conv=>whnf)
 exact ⟨L,hp,rfl,rfl⟩
theorem stable_ok (cl:FuncId) (hcl:callable Tryz.prog cl = true) (cf:Ed→Ed→Int) (hcf:∀ x y,Ret Tryz.prog cl [edV x,edV y] (.int .i64 (cf x y))) (lt:Ed→Ed→Prop) (hw:Wo lt) (hlt:∀ x y,cf x y < 0↔lt x y) (L0:List Ed) (hL:L0.length≤12) :
 CallF Tryz.prog 70 [.vec 0 3 0 L0.length,.int .i64 L0.length,.fn (.func cl) false []] [(0,.vec L0.length 3 (eF L0))] ks29
  fun v own' _=>∃ L:List Ed,(L.Perm L0∧SoI lt L L.length)∧v = .tup []∧own' = [(0,.vec L0.length 3 (eF L))]:=by
 have hi:=ins_ok cl hcl cf hcf lt hw hlt L0 (by omega);refine fn_rule mixed Tryz.func70 rfl hc70 hr70 rfl ?_
 repeat' ((conv=>whnf);first | fail)
 all_goals (conv=>whnf)
 refine loop_fuel mixed 1 ?_
 repeat' ((conv=>whnf);first | (refine Br.dec ?_ ?_ <;> intro _ <;> try omega) | (refine hi.mono ?_;rintro _ _ _ ⟨L,hp,rfl,rfl⟩))
 all_goals (conv=>whnf)
 refine loop_fuel mixed 1 ?_
 repeat' ((conv=>whnf);first | (refine Br.dec ?_ ?_ <;> intro _ <;> try omega))
 all_goals (conv=>whnf)
 exact ⟨L,hp,rfl,rfl⟩
theorem sorts_ok (cl:FuncId) (hcl:callable Tryz.prog cl = true) (cf:Ed→Ed→Int) (hcf:∀ x y,Ret Tryz.prog cl [edV x,edV y] (.int .i64 (cf x y))) (lt:Ed→Ed→Prop) (hw:Wo lt) (hlt:∀ x y,cf x y < 0↔lt x y) (L0:List Ed) (hL:L0.length≤12) :
 CallF Tryz.prog 36 [.vec 0 3 0 L0.length,.fn (.func cl) false []] [(0,.vec L0.length 3 (eF L0))] ks29
  fun v own' _=>∃ L:List Ed,(L.Perm L0∧SoI lt L L.length)∧v = .tup []∧own' = [(0,.vec L0.length 3 (eF L))]:=by
 have hi:=stable_ok cl hcl cf hcf lt hw hlt L0 hL;refine fn_rule mixed Tryz.func36 rfl hc36 hr36 rfl ?_
 repeat' ((conv=>whnf);first | (refine hi.mono ?_;rintro _ _ _ ⟨L,hp,rfl,rfl⟩))
 all_goals (conv=>whnf)
 exact ⟨L,hp,rfl,rfl⟩
def rawP (g:G) (v i:Nat):List Ed:=((List.range v).flatMap fun v=>(gR g.ports v).filterMap (rawE v)) ++ ((gR g.ports v).take i).filterMap (rawE v)
theorem rawP_row (g:G) (v:Nat):rawP g v (gR g.ports v).length = rawP g (v + 1) 0:=by
 rw [rawP,rawP,List.take_length,List.range_succ,List.flatMap_append];simp
theorem rawP_end (g:G):rawP g g.ids.length 0 = rawL g:=by simp [rawP,rawL]
theorem rawP_zero (g:G):rawP g 0 0 = []:=by simp [rawP]
theorem rawP_next (g:G) (v:Nat) {i:Nat} (hi:i < (gR g.ports v).length):rawP g v (i + 1) = rawP g v i ++ (rawE v (gF (gR g.ports v) i)).toList:=by
 rw [rawP,rawP,gF_take _ i hi,List.filterMap_append,← List.append_assoc];congr 1
theorem flat_len {α β:Type} (f:α→List β):∀ {l m:List α},l.Sublist m→(l.flatMap f).length≤(m.flatMap f).length:=fun h=>by
 induction h with
 | slnil=>simp
 | cons a _ ih=>simp only [List.flatMap_cons,List.length_append];omega
 | cons_cons a _ ih=>simp only [List.flatMap_cons,List.length_append];omega
theorem rawP_le (g:G) {v i:Nat} (hv:v < g.ids.length):(rawP g v i).length≤(rawL g).length:=by
 have h1:(rawP g v i).length≤(rawP g (v + 1) 0).length:=by
  rw [← rawP_row,rawP,rawP,List.take_length];simp only [List.length_append];have:=(List.Sublist.filterMap (rawE v) (List.take_sublist i (gR g.ports v))).length_le;omega
 have h2:(rawP g (v + 1) 0).length≤(rawL g).length:=by
  simp only [rawP,rawL,List.take_zero,List.filterMap_nil,List.append_nil];exact flat_len _ (List.range_sublist.2 (by omega))
 omega
theorem vle_appE (L:List Ed) (e:Ed) (n i j:Nat) (hn:L.length = n) (f:Nat→Nat→V) (h0:f 0 0 = .int .i64 e.a) (h1:f 0 1 = .int .i64 e.b) (h2:f 0 2 = .int .i64 e.w) (hi:i < n + 1) (hj:j < 3) :
 VLe (fapp (shiftF 0 (eF L)) n (shiftF 0 f) i j) (eF (L ++ [e]) i j):=by
 subst hn;apply VLe.of_eq;by_cases h:i < L.length
 . rw [fapp_lt h,sh_at,Nat.zero_add];have:gE (L ++ [e]) i = gE L i:=by simp [gE,List.getD,List.getElem?_append_left h]
   rw [edC_get _ j hj _ i this,edC_get _ j hj _ i rfl]
 . rw [fapp_ge h,sh_at,Nat.zero_add];have hil:i = L.length:=by omega
   subst hil;have:gE (L ++ [e]) L.length = e:=by simp [gE,List.getD]
   rw [edC_get _ j hj _ _ this,Nat.sub_self];rcases (show j = 0∨j = 1∨j = 2 by omega) with rfl | rfl | rfl
   . rw [h0];rfl
   . rw [h1];rfl
   . rw [h2];rfl
set_option maxHeartbeats 16000000 in
theorem edges_ok (g:G) (hs:g.Small) (hg:g.valid = true) (h12:(rawL g).length≤12):Ret Tryz.prog 34 [g.v] (.fz (edgesL g).length 3 false (eF (edgesL g))):=by
 obtain ⟨f1,f2,f3,f4,f5,f6,f7⟩:=val_facts hg;refine ret_frz rfl ?_;refine fn_rule mixed Tryz.func34 rfl hc34 hr34 rfl ?_
 repeat' ((conv=>whnf);first | (refine fn_rule mixed Tryz.func66 rfl hc66 hr66 rfl ?_) | (refine range_rule ?_) | (refine Chk.mk (by kernel_rfl) ?_) | (refine fn_rule mixed Tryz.func94 rfl hc94 hr94 rfl ?_))
 all_goals (conv=>whnf)
 refine loop_u mixed [0,8,9] [4] [5,6,7,8,9,10,11,12,13,14,15,16,17,18,19,20,21,22,23,24,25,26,27,28,29] [4,3,2,1,0] (fun v:Nat=>[(10,.int .i64 v)]) (fun own v=>clO ((4,.vec (rawP g v 0).length 3 (eF (rawP g v 0))) :: updO own 1 (.cells [.vec 4 3 0 (rawP g v 0).length]))) (fun m v=>m = g.ids.length - v∧v≤g.ids.length) g.ids.length 0 ⟨rfl,Nat.zero_le _⟩ rfl (fun _=>rfl) ?_ ?_
 . simp only [rawP_zero];refine weak_by (fun _ _=>[(0,some 0),(1,some 1),(2,some 2),(3,some 3),(4,none)]) ?_ ?_ rfl
   . repeat' (first | exact VRen.yld rfl | exact True.intro | (refine ⟨⟨_,rfl,?_⟩,?_⟩) | exact VRen.kf rfl)
   . repeat' (first | (refine VRen.fn ?_) | (refine ⟨rfl,rfl,rfl,rfl,rfl,?_⟩) | exact True.intro | (refine ⟨⟨_,rfl,?_⟩,?_⟩) | exact VRen.kf rfl | exact VRen.loc rfl | exact VRen.nil rfl rfl | (refine ⟨⟨_,_,rfl⟩,?_⟩) | (refine And.intro ?_ ?_))
 rintro m v ⟨hm,hv⟩;by_cases hvn:v < g.ids.length
 . have hrl:=row_le' hg v
   repeat' ((conv=>whnf);first | (refine Br.dec ?_ ?_ <;> intro _ <;> try omega) | (refine Ix.nat (by omega) ?_))
   all_goals (conv=>whnf)
   refine loop_u mixed [0,3,8,9,10,15,16] [4] [5,6,7,8,9,10,11,12,13,14,15,16,17,18,19,20,21,22,23,24,25,26,27,28,29] [4,3,2,1,0] (fun i:Nat=>[(17,.int .i64 i)]) (fun own i=>clO (updO (updO own 4 (.vec (rawP g v i).length 3 (eF (rawP g v i)))) 1 (.cells [.vec 4 3 0 (rawP g v i).length]))) (fun m i=>m = (gR g.ports v).length - i∧i≤(gR g.ports v).length) (gR g.ports v).length 0 ⟨rfl,Nat.zero_le _⟩ rfl (fun _=>rfl) ?_ ?_
   . refine weak_by (fun _ _=>[(0,some 0),(1,some 1),(2,some 2),(3,some 3),(4,some 4)]) ?_ ?_ rfl
     . repeat' (first | exact VRen.yld rfl | exact True.intro | (refine ⟨⟨_,rfl,?_⟩,?_⟩) | exact VRen.kf rfl)
     . repeat' (first | (refine VRen.fn ?_) | (refine ⟨rfl,rfl,rfl,rfl,rfl,?_⟩) | exact True.intro | (refine ⟨⟨_,rfl,?_⟩,?_⟩) | exact VRen.kf rfl | exact VRen.loc rfl | exact VRen.vec rfl rfl rfl | (refine ⟨Nat.le_refl _,rfl,fun i j hi hj=>?_⟩) | exact VLe.rfl | (refine And.intro ?_ ?_))
   rintro m i ⟨hm2,hi⟩;by_cases hin:i < (gR g.ports v).length
   . have hok:=(okR_iff.1 (f6 v (by omega))).1 _ (gF_mem hin);have hnx:=rawP_next g v hin;have hle:=rawP_le g (v:=v) (i:=i) hvn;by_cases hlt:(v:Int) < (gF (gR g.ports v) i).1
     . have hre:rawE v (gF (gR g.ports v) i) = some ⟨v,(gF (gR g.ports v) i).1.toNat,(gF (gR g.ports v) i).2⟩:=if_pos hlt;rw [hre,Option.toList_some] at hnx
       repeat' ((conv=>whnf);first | (refine Br.tt ?_) | (refine Br.dec ?_ ?_ <;> intro _ <;> try omega) | (refine Br.nbeq ?_ ?_ <;> intro _ <;> try omega) | (refine Ar.i64 (by omega) (by omega) ?_) | (refine Ix.nat (by omega) ?_) | (refine Len.mk (by omega) ?_) | (refine yield_rule mixed rfl rfl ?_))
       all_goals (conv=>whnf)
       refine ⟨(gR g.ports v).length - (i + 1),i + 1,by omega,⟨rfl,by omega⟩,?_⟩;simp only [hnx,List.length_append,List.length_singleton];refine weak_by (fun _ own=>[(0,some 0),(1,some 1),(2,some 2),(3,some 3),(4,ckeyo own 1 0)]) ?_ ?_ rfl
       . repeat' (first | exact VRen.yld rfl | exact True.intro | (refine ⟨⟨_,rfl,?_⟩,?_⟩) | exact VRen.kf rfl)
       . repeat' (first | (refine VRen.fn ?_) | (refine ⟨rfl,rfl,rfl,rfl,rfl,?_⟩) | (refine ⟨Nat.le_refl _,rfl,fun i j hi hj=>?_⟩) | exact vle_appE _ _ _ _ _ rfl _ rfl (by show V.int .i64 _ = V.int .i64 _;rw [Int.toNat_of_nonneg (by omega)]) rfl hi hj | exact True.intro | (refine ⟨⟨_,rfl,?_⟩,?_⟩) | exact VRen.kf rfl | exact VRen.loc rfl | exact VRen.vec rfl rfl rfl | (refine And.intro ?_ ?_))
     . have hre:rawE v (gF (gR g.ports v) i) = none:=if_neg hlt;rw [hre,Option.toList_none,List.append_nil] at hnx
       repeat' ((conv=>whnf);first | (refine Br.tt ?_) | (refine Br.dec ?_ ?_ <;> intro _ <;> try omega) | (refine Ar.i64 (by omega) (by omega) ?_) | (refine Ix.nat (by omega) ?_) | (refine yield_rule mixed rfl rfl ?_))
       all_goals (conv=>whnf)
       refine ⟨(gR g.ports v).length - (i + 1),i + 1,by omega,⟨rfl,by omega⟩,?_⟩;simp only [hnx];refine weak_by (fun _ _=>[(0,some 0),(1,some 1),(2,some 2),(3,some 3),(4,some 4)]) ?_ ?_ rfl
       . repeat' (first | exact VRen.yld rfl | exact True.intro | (refine ⟨⟨_,rfl,?_⟩,?_⟩) | exact VRen.kf rfl)
       . repeat' (first | (refine VRen.fn ?_) | (refine ⟨rfl,rfl,rfl,rfl,rfl,?_⟩) | exact True.intro | (refine ⟨⟨_,rfl,?_⟩,?_⟩) | exact VRen.kf rfl | exact VRen.loc rfl | exact VRen.vec rfl rfl rfl | (refine ⟨Nat.le_refl _,rfl,fun i j hi hj=>?_⟩) | exact VLe.rfl | (refine And.intro ?_ ?_))
   . repeat' ((conv=>whnf);first | (refine Br.dec ?_ ?_ <;> intro _ <;> try omega) | (refine Ar.i64 (by omega) (by omega) ?_))
     all_goals (conv=>whnf)
     refine ⟨g.ids.length - (v + 1),v + 1,by omega,⟨rfl,by omega⟩,?_⟩;have e:i = (gR g.ports v).length:=by omega
     subst e;simp only [← rawP_row];refine weak_by (fun _ _=>[(0,some 0),(1,some 1),(2,some 2),(3,some 3),(4,some 4)]) ?_ ?_ rfl
     . repeat' (first | exact VRen.yld rfl | exact True.intro | (refine ⟨⟨_,rfl,?_⟩,?_⟩) | exact VRen.kf rfl)
     . repeat' (first | (refine VRen.fn ?_) | (refine ⟨rfl,rfl,rfl,rfl,rfl,?_⟩) | exact True.intro | (refine ⟨⟨_,rfl,?_⟩,?_⟩) | exact VRen.kf rfl | exact VRen.loc rfl | exact VRen.vec rfl rfl rfl | (refine ⟨Nat.le_refl _,rfl,fun i j hi hj=>?_⟩) | exact VLe.rfl | (refine And.intro ?_ ?_))
 . have ev:v = g.ids.length:=by omega
   subst ev;simp only [rawP_end];have hso:=sortf_ok 68 (by kernel_rfl) cfE edges1_ok Ed.lt wo_lt cfE_lt (rawL g) h12
   repeat' ((conv=>whnf);first | (refine Br.dec ?_ ?_ <;> intro _ <;> try omega) | (refine Len.mk (by omega) ?_) | (refine call_by [(0,some 4)] [] (hso.mono ?_) ⟨VRen.vec rfl rfl rfl,VRen.fn True.intro,True.intro⟩ (by repeat' (first | exact True.intro | (refine ⟨⟨_,rfl,?_⟩,?_⟩) | (refine ⟨Nat.le_refl _,rfl,fun i j hi hj=>?_⟩) | exact VLe.rfl)) rfl;rintro _ _ _ ⟨L,⟨hp,hsl⟩,rfl,rfl⟩) | (refine Chk.mk rfl ?_))
   all_goals (conv=>whnf)
   have hE:=sorted_edges hg hp hsl.pairwise;subst hE;exact VLe.fz hp.length_eq.symm (fun h=>h) (fun i j hi hj=>VLe.of_eq (by rw [sh_at,Nat.zero_add]))
def pF (p:Nat→Int):Nat→Nat→V:=fun i _=>.int .i64 (p i)
theorem pf_set (p:Nat→Int) (v:Nat) (x:Int) (n i j:Nat) (hi:i < n) (hj:j < 1):VLe (fset (pF p) v 0 [.int .i64 x] i j) (pF (fun u=>if u = v then x else p u) i j):=by
 apply VLe.of_eq;obtain rfl:j = 0:=by omega
 simp only [pF,fset];by_cases h:i = v
 . subst h;simp
 . simp [h]
structure JoS (p:Nat→Int) (a b v:Nat) (q:Nat→Int):Prop where
 lo:∀ u,u < v→q u = joP p a b u
 hi:∀ u,v≤u→q u = p u
theorem JoS.start {p:Nat→Int} {a b:Nat}:JoS p a b 0 p:=⟨fun u h=>by omega,fun _ _=>rfl⟩
theorem JoS.yes {p:Nat→Int} {a b v:Nat} {q:Nat→Int} (h:JoS p a b v q) (he:p v = max (p a) (p b)):JoS p a b (v + 1) (fun u=>if u = v then min (p a) (p b) else q u):=by
 refine ⟨fun u hu=>?_,fun u hu=>?_⟩
 . show (if u = v then _ else q u) = _;by_cases e:u = v
   . subst e;rw [if_pos rfl,joP,if_pos he]
   . rw [if_neg e];exact h.lo u (by omega)
 . show (if u = v then _ else q u) = _;rw [if_neg (by omega)];exact h.hi u (by omega)
theorem JoS.no {p:Nat→Int} {a b v:Nat} {q:Nat→Int} (h:JoS p a b v q) (he:¬ p v = max (p a) (p b)):JoS p a b (v + 1) q:=by
 refine ⟨fun u hu=>?_,fun u hu=>h.hi u (by omega)⟩;by_cases e:u = v
 . subst e;rw [joP,if_neg he];exact h.hi u (Nat.le_refl _)
 . exact h.lo u (by omega)
theorem mxR (x y:Int):(if y > x then y else x) = max x y:=by
 rw [Int.max_def];split <;> split <;> omega
theorem mnR (x y:Int):(if y < x then y else x) = min x y:=by
 rw [Int.min_def];split <;> split <;> omega
set_option maxHeartbeats 8000000 in
theorem join_ok (n:Nat) (hn:n≤1000000) (p:Nat→Int) (a b:Nat) (ha:a < n) (hb:b < n) :
 CallF Tryz.prog 39 [.vec 0 1 0 n,.int .i64 a,.int .i64 b] [(0,.vec n 1 (pF p))] ks29
  fun v own' _=>∃ q:Nat→Int,(∀ u,u < n→q u = joP p a b u)∧v = .tup []∧own' = [(0,.vec n 1 (pF q))]:=by
 refine fn_rule mixed Tryz.func39 rfl hc39 hr39 rfl ?_
 repeat' ((conv=>whnf);first | (refine Ix.mk a (by omega) (by omega) ?_) | (refine Ix.mk b (by omega) (by omega) ?_) | (refine Sv.mk _ rfl ?_) | (refine Ltn.mk (by omega) ?_) | (refine And.intro (Ltn.mk (by omega) rfl) ?_))
 all_goals (conv=>whnf)
 refine loop_u mixed [0,6,7,28] [] ks29 [0] (fun s:Nat × (Nat→Int)=>[(29,.int .i64 s.1)]) (fun own s=>updO own 0 (.vec n 1 (pF s.2))) (fun m s=>m = n - s.1∧s.1≤n∧JoS p a b s.1 s.2) n (0,p) ⟨rfl,Nat.zero_le _,JoS.start⟩ rfl (fun _=>rfl) ?_ ?_
 . exact weak_b (fun _ _=>[(0,some 0)])
 rintro m ⟨v,q⟩ ⟨hm,hv,hJ⟩;simp only at hm hv hJ;by_cases hvn:v < n
 . dsimp only;have hqv:=hJ.hi v (Nat.le_refl _);have z0:0 + a = a:=Nat.zero_add _;have z1:0 + b = b:=Nat.zero_add _;have z2:0 + v = v:=Nat.zero_add _;by_cases hc:q (0 + v) = (if p (0 + b) > p (0 + a) then p (0 + b) else p (0 + a))
   . repeat' ((conv=>whnf);first | (refine Br.dec ?_ ?_ <;> intro _ <;> try omega) | (refine Ar.i64 (by omega) (by omega) ?_) | (refine Ix.nat (by omega) ?_) | (refine Ltn.mk (by omega) ?_))
     all_goals (conv=>whnf)
     rw [mxR,z0,z1,z2,hqv] at hc;refine ⟨n - (v + 1),(v + 1,fun u=>if u = v then (if p (0 + b) < p (0 + a) then p (0 + b) else p (0 + a)) else q u),by omega,⟨rfl,by omega,?_⟩,?_⟩
     . rw [mnR,z0,z1];exact hJ.yes hc
     . refine weak_by (fun _ _=>[(0,some 0)]) ?_ ?_ rfl
       . repeat' (first | exact True.intro | (refine ⟨⟨_,rfl,?_⟩,?_⟩) | exact VRen.kf rfl | exact VRen.vec rfl rfl rfl)
       . repeat' (first | exact ⟨Nat.le_refl _,rfl,fun i t hi ht=>by simp only [Nat.zero_add];exact pf_set q v _ n i t (by omega) ht⟩ | exact True.intro | (refine ⟨⟨_,rfl,?_⟩,?_⟩))
   . repeat' ((conv=>whnf);first | (refine Br.dec ?_ ?_ <;> intro _ <;> try omega) | (refine Ar.i64 (by omega) (by omega) ?_) | (refine Ix.nat (by omega) ?_) | (refine Ltn.mk (by omega) ?_))
     all_goals (conv=>whnf)
     rw [mxR,z0,z1,z2,hqv] at hc;refine ⟨n - (v + 1),(v + 1,q),by omega,⟨rfl,by omega,hJ.no hc⟩,?_⟩;exact weak_b (fun _ _=>[(0,some 0)])
 . dsimp only
   repeat' ((conv=>whnf);first | (refine Br.dec ?_ ?_ <;> intro _ <;> try omega))
   all_goals (conv=>whnf)
   exact ⟨q,fun u hu=>hJ.lo u (by omega),rfl,rfl⟩
end Go.Proofs.YtgajaabakpfbbaaGreatDoor
