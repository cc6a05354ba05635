import Derived.Test.YtpgkdcekpineaaaGreatDoorWT3
import Derived.Test.YtpgkdcekpineaaaGreatDoorEngAB
import Derived.Test.YtpgkdcekpineaaaGreatDoorCK1
namespace Go.Proofs.YtpgkdcekpineaaaGreatDoor
open Go.Eng
set_option maxRecDepth 100000
set_option linter.unusedVariables false
theorem same35_ok (a b:List Int) (ha:a.length≤1000000) (hb:b.length≤1000000):Ret Tryz.prog 36 [.fz a.length 1 false (vI a),.fz b.length 1 false (vI b)] (.bool (decide (a = b))):=by
 refine ret_frz rfl ?_;refine fn_rule mixed Tryz.func36 rfl hc36 hr36 rfl ?_
 repeat' ((conv=>whnf);first | (refine Br.bne ?_ ?_ <;> intro _ <;> try omega))
 all_goals (conv=>whnf)
 . exact VLe.bool (by rw [decide_eq_false (fun h=>by subst h;omega)])
 refine loop_r mixed [0,1] (fun i:Nat=>[(5,.int .i64 i)]) (fun m i=>m = a.length - i∧i≤a.length∧∀ j,j < i→gI a j = gI b j) a.length 0 ⟨rfl,Nat.zero_le _,fun j hj=>by omega⟩ ?_ ?_
 . exact weak_b (fun _ _=>[])
 rintro m i ⟨hm,hi,hall⟩
 repeat' ((conv=>whnf);first | (refine Br.dec ?_ ?_ <;> intro _ <;> try omega) | (refine Br.bne ?_ ?_ <;> intro _ <;> try omega) | (refine Ar.i64 (by omega) (by omega) ?_) | (refine Ix.nat (by omega) ?_))
 all_goals (conv=>whnf)
 . rename_i hne;exact VLe.bool (by rw [decide_eq_false (fun h=>by subst h;exact hne rfl)])
 . refine ⟨a.length - (i + 1),i + 1,by omega,⟨rfl,by omega,fun j hj=>?_⟩,?_⟩
   . by_cases e:j = i
     . subst e;assumption
     . exact hall j (by omega)
   . exact weak_b (fun _ _=>[])
 . have e:a = b:=List.ext_getElem (by omega) (fun j h1 h2=>by
    have:=hall j (by omega);simpa [gI,List.getD,List.getElem?_eq_getElem h1,List.getElem?_eq_getElem h2] using this)
   exact VLe.bool (by rw [decide_eq_true e])
def t2:G:=⟨[0,1],[[(1,1)],[(0,1)]]⟩
theorem t2_small:t2.Small:=⟨by decide,by decide,by decide⟩
set_option maxHeartbeats 4000000 in
theorem tree2:Ret Tryz.prog 34 [.agg [.int .i64 2,.nilslice,.nilslice,.nilslice,.bool false,.bool false],.int .i64 2] t2.v:=by
 refine ret_frz2 rfl ?_;refine fn_rule mixed Tryz.func34 rfl hc34 hr34 rfl ?_
 repeat' ((conv=>whnf);first | (refine MkS.cells ?_) | (refine Bd.mk 2 (by decide) (by omega) ?_) | (refine Sv.mk 1 (by decide) ?_) | (refine Br.tt ?_) | (refine Br.ff ?_) | (refine Ar.i64 (by omega) (by omega) ?_) | (refine Nz.mk (by omega) ?_) | (refine Ix.mk 0 rfl (by omega) ?_) | (refine Ix.mk 1 rfl (by omega) ?_) | (refine Len.mk (by omega) ?_) | (refine Ltn.mk (by omega) ?_) | (refine And.intro rfl ?_) | (refine fn_rule mixed Tryz.func72 rfl hc72 hr72 rfl ?_) | (refine fn_rule mixed Tryz.func73 rfl hc73 hr73 rfl ?_) | (refine fn_rule mixed Tryz.func119 rfl hc119 hr119 rfl ?_) | (refine w_0_256.go ?_) | (refine w_0_15.go ?_) | (refine w_0_1.go ?_) | (refine w_1_2.go ?_) | (refine loop_fuel mixed 20 ?_) | (refine call_frz [] (at_nil 0) ⟨VLe.nilfz rfl,VLe.int (by omega),True.intro⟩ ?_) | (refine call_frz [] (at_nil 1) ⟨VLe.nilfz rfl,VLe.int (by omega),True.intro⟩ ?_))
 all_goals (conv=>whnf)
 refine VLe.agg ⟨VLe.fz rfl (fun h=>h) (fun i j hi hj=>?_),VLe.fz rfl (fun h=>h) (fun i j hi hj=>?_),True.intro⟩
 . rcases i with _ | _ | i
   all_goals first | (exfalso;omega) | (rcases j with _ | j;exact VLe.rfl;exfalso;omega)
 . rcases i with _ | _ | i
   all_goals first | (exfalso;omega) | skip
   all_goals
    obtain rfl:j = 0:=by omega
    conv=>arg 1;whnf
    conv=>arg 2;whnf
    refine VLe.fz rfl (fun h=>h) (fun i j hi hj=>?_);rcases i with _ | i
    all_goals first | (exfalso;omega) | (rcases j with _ | _ | j;exact VLe.rfl;exact VLe.rfl;exfalso;omega)
def wA:Cf:=[[0,-1,0,0],[1,0,0,0]]
def wB:Cf:=[[0,-1,0,1],[1,0,0,1]]
def wWs:List Nat:=[1,2,2,1]
theorem conf_ofBW {g:G} {c:Cf} (h1:c.length = g.ids.length) (h2:(List.range c.length).all (fun v=>decide ((gC c v).length = 4) && (List.range 4).all fun x=>decide ((bnd g (gV pWav.vars x) v).1≤gI (gC c v) x∧gI (gC c v) x≤(bnd g (gV pWav.vars x) v).2)) = true):Conf pWav g c:=by
 simp only [List.all_eq_true,List.mem_range,Bool.and_eq_true,decide_eq_true_eq] at h2;exact ⟨h1,fun v hv=>(h2 v hv).1,fun v hv x hx=>(h2 v hv).2 x hx⟩
theorem wconfA:Conf pWav t2 wA:=conf_ofBW rfl (by decide +kernel)
theorem wA_small:CSmall wA:=⟨by decide,by simp [wA]⟩
theorem wlegA:t2.wleg wA = true:=by decide +kernel
theorem wlastA:lastC (trc pWav t2 1 wA (cnt0 (enN pWav t2 wA)) wWs) = wB:=by decide +kernel
theorem t2_ecc:t2.ecc = 1:=by decide +kernel
theorem t2_conn:t2.conn = true:=by decide +kernel
theorem wrow4 (a b d e:Int) (f:Nat→Nat→V) (h0:f 0 0 = .int .i64 a) (h1:f 1 0 = .int .i64 b) (h2:f 2 0 = .int .i64 d) (h3:f 3 0 = .int .i64 e):VLe (.fz 4 1 false f) (.fz 4 1 false (vI [a,b,d,e])):=VLe.fz rfl (fun h=>h) (four_le a b d e f h0 h1 h2 h3)
theorem wrows (k1 k2 f:Nat→Nat→V) (h1:VLe (.fz 4 1 false k1) (.fz 4 1 false (vI [0,-1,0,0]))) (h2:VLe (.fz 4 1 false k2) (.fz 4 1 false (vI [1,0,0,0]))) (f0:f 0 0 = .fz 4 1 false k1) (f1:f 1 0 = .fz 4 1 false k2):VLe (.fz 2 1 false f) (cV wA):=by
 refine VLe.fz rfl (fun h=>h) (fun i j hi hj=>?_);obtain rfl:j = 0:=by omega
 rcases i with _ | _ | i
 . rw [f0];exact h1
 . rw [f1];exact h2
 . exfalso;omega
theorem wws_le (f:Nat→Nat→V) (h0:f 0 0 = .int .u32 1) (h1:f 1 0 = .int .u32 2) (h2:f 2 0 = .int .u32 2) (h3:f 3 0 = .int .u32 1):VLe (.fz 4 1 false f) (.fz wWs.length 1 false (vU7 wWs)):=by
 refine VLe.fz rfl (fun h=>h) (fun i j hi hj=>?_);obtain rfl:j = 0:=by omega
 rcases (show i = 0∨i = 1∨i = 2∨i = 3 by omega) with rfl | rfl | rfl | rfl
 . rw [h0];exact VLe.rfl
 . rw [h1];exact VLe.rfl
 . rw [h2];exact VLe.rfl
 . rw [h3];exact VLe.rfl
set_option maxHeartbeats 8000000 in
theorem known35_ok:RG 10 [] (.bool true):=by
 have hg:t2.valid = true:=(conn_facts t2_conn).1;have h1:=wlegit_ok t2 t2_small wA wA_small;have h4:=wclaim_ok t2 t2_small;have h5:=same35_ok [0,-1,0,1] [0,-1,0,1] (by decide) (by decide);have h6:=same35_ok [1,0,0,1] [1,0,0,1] (by decide) (by decide);have hf:=follow_ok pWav wav_prOk t2 t2_small hg 1 (by decide) wA wconfA wWs (by decide) (by decide);rw [folV,trcV,wlastA] at hf;generalize chsL pWav t2 1 wA wWs = ch at hf;generalize ((trc pWav t2 1 wA (cnt0 (enN pWav t2 wA)) wWs).getLast?.getD default).2 = lk at hf;generalize ensL pWav t2 (trc pWav t2 1 wA (cnt0 (enN pWav t2 wA)) wWs) = en at hf;rw [wlegA] at h1;rw [if_pos t2_conn,t2_ecc,clmW] at h4;rw [decide_eq_true rfl] at h5 h6;have htx:=text_ok;have hpr:=program_ok;refine ret_frzG2 rfl ?_;refine call_sem Tryz.func10 rfl hc10 hr10 rfl ?_;refine sem_seq (sem_vc mixed ?_)
 repeat' ((conv=>whnf);first | fail)
 all_goals (conv=>whnf)
 refine sem_seq (sem_vc mixed ?_)
 repeat' ((conv=>whnf);first | (refine tree2.go ?_))
 all_goals (conv=>whnf)
 refine sem_seq (sem_vc mixed ?_)
 repeat' ((conv=>whnf);first | (refine htx.go ?_) | (refine hpr.go ?_))
 all_goals (conv=>whnf)
 refine sem_seq (sem_vc mixed ?_)
 repeat' ((conv=>whnf);first | fail)
 all_goals (conv=>whnf)
 refine sem_frz 3 rfl (by (conv=>whnf);exact ⟨by decide,by decide,rfl,rfl⟩) (sem_vc mixed ?_)
 repeat' ((conv=>whnf);first | (refine Ix.mk 0 rfl (by decide) ?_) | (refine Ix.mk 1 rfl (by decide) ?_) | (refine Br.tt ?_) | (refine call_frzG [5] hf rfl ⟨by decide,VLe.rfl,VLe.rfl,VLe.rfl,wrows _ _ _ (wrow4 _ _ _ _ _ rfl rfl rfl rfl) (wrow4 _ _ _ _ _ rfl rfl rfl rfl) rfl rfl,wws_le _ rfl rfl rfl rfl,True.intro⟩ ?_) | (refine call_frz [] h1 ⟨VLe.rfl,wrows _ _ _ (wrow4 _ _ _ _ _ rfl rfl rfl rfl) (wrow4 _ _ _ _ _ rfl rfl rfl rfl) rfl rfl,True.intro⟩ ?_) | (refine h4.go ?_) | (refine call_lend h5 rfl ⟨by decide,VLe.rfl,VLe.fz rfl (fun h=>h) (four_le _ _ _ _ _ rfl rfl rfl rfl),True.intro⟩ ?_) | (refine call_lend h6 rfl ⟨by decide,VLe.rfl,VLe.fz rfl (fun h=>h) (four_le _ _ _ _ _ rfl rfl rfl rfl),True.intro⟩ ?_))
 all_goals (conv=>whnf)
 all_goals exact VLe.rfl
def legs (leg:Cf→Bool) (T:List (Cf × Cnt)):List (Bool × Cnt):=T.map fun x=>(leg x.1,x.2)
theorem legs_len (leg:Cf→Bool) (T:List (Cf × Cnt)):(legs leg T).length = T.length:=by simp [legs]
theorem legs_get (leg:Cf→Bool) (T:List (Cf × Cnt)) (i:Nat) (h:i < T.length):gH (legs leg T) i = (leg (gT T i).1,(gT T i).2):=by
 simp [gH,gT,legs,List.getD,h]
theorem gT_mem {T:List (Cf × Cnt)} {i:Nat} (h:i < T.length):gT T i∈T:=by
 simp [gT,List.getD,h]
theorem gT_last {T:List (Cf × Cnt)} (h:0 < T.length):(gT T (T.length - 1)).1 = lastC T:=by
 have:T.getLast? = T[T.length - 1]?:=List.getLast?_eq_getElem?;simp only [gT,lastC,this,List.getD]
def vLg (leg:Cf→Bool) (T:List (Cf × Cnt)):Nat→Nat→V:=fun i _=>.bool (leg (gT T i).1)
theorem vle_appB (leg:Cf→Bool) (T:List (Cf × Cnt)) (n i j:Nat) (hi:i < n + 1) (hj:j < 1) (b:Bool) (F:Nat→Nat→V) (hF:F 0 0 = .bool b) (hb:b = leg (gT T n).1):VLe (fapp (shiftF 0 (vLg leg T)) n (shiftF 0 F) i j) (vLg leg T i j):=by
 obtain rfl:j = 0:=by omega
 apply VLe.of_eq;by_cases h:i < n
 . rw [fapp_lt h,shiftF_eq,Nat.zero_add]
 . rw [fapp_ge h];have:i = n:=by omega
   subst this;simp [shiftF,hF,vLg,hb]
theorem vle_legs (leg:Cf→Bool) (T:List (Cf × Cnt)):VLe (.fz T.length 1 false (shiftF 0 (vLg leg T))) (.fz (legs leg T).length 1 false (vHb (legs leg T))) :=
 VLe.fz (legs_len leg T).symm (fun h=>h) fun i j hi hj=>VLe.of_eq (by
  rw [shiftF_eq,Nat.zero_add,vLg,vHb,legs_get leg T i hi])
theorem vle_cnts (leg:Cf→Bool) (T:List (Cf × Cnt)):VLe (.fz T.length 5 false (vKs T)) (.fz (legs leg T).length 5 false (vHk (legs leg T))) :=
 VLe.fz (legs_len leg T).symm (fun h=>h) fun i j hi hj=>VLe.of_eq (by
  rw [vKs,vHk,legs_get leg T i hi])
theorem csmall_of {p:Pr} (hp:PrOk p) {g:G} (hg:g.valid = true) {c:Cf} (h:Conf p g c):CSmall c:=by
 obtain ⟨f1,f2,f3,f4,f5,f6,f7⟩:=val_facts hg;have hl:=h.len;have hv:=hp.vlen;refine ⟨by omega,fun r hr=>?_⟩;obtain ⟨i,hi,e⟩:=List.mem_iff_getElem.1 hr;have h2:gC c i = r:=by simp [gC,List.getD,hi,e]
 have:=h.row i hi;rw [← h2];omega
theorem linkP_get {bk:Bool} {p:Ps} {a b:Nat} {w:Int} (ha:a < p.length) (hb:b < p.length) (hc:¬ (a = b∨lnk p a b = true)) (v:Nat) :
 gR (linkP bk p a b w) v = if v = b then addP bk (gR p b) ((a:Int),w) else if v = a then addP bk (gR p a) ((b:Int),w) else gR p v:=by
 rw [linkP,if_neg hc,gR_set _ b _ (by simpa using hb),gR_set p a _ ha]
theorem linkP_keep {bk:Bool} {p:Ps} {a b:Nat} {w:Int} (ha:a < p.length) (hb:b < p.length) {v:Nat} {l:Int × Int} (hl:l∈gR p v):l∈gR (linkP bk p a b w) v:=by
 by_cases hc:a = b∨lnk p a b = true
 . rw [linkP,if_pos hc];exact hl
 . rw [linkP_get ha hb hc];split
   . rename_i e;subst e;exact mem_addP.2 (.inr hl)
   . split
     . rename_i e;subst e;exact mem_addP.2 (.inr hl)
     . exact hl
theorem linkP_new {bk:Bool} {p:Ps} (h:PV p) {a b:Nat} {w:Int} (ha:a < p.length) (hb:b < p.length) (hab:a≠b):∃ l∈gR (linkP bk p a b w) b,l.1 = (a:Int):=by
 by_cases hc:lnk p a b = true
 . rw [linkP,if_pos (.inr hc)];rw [lnk,List.any_eq_true] at hc;obtain ⟨l,hl,e⟩:=hc;have e:l.1 = (b:Int):=by simpa using e
   have:=h.sym a ha l hl;rw [e,Int.toNat_natCast] at this;exact ⟨_,this,rfl⟩
 . rw [linkP_get ha hb (by rintro (e | e);exact hab e;exact hc e),if_pos rfl];exact ⟨_,mem_addP.2 (.inl rfl),rfl⟩
def Anc (p:Ps) (k:Nat):Prop:=∀ v,1≤v→v≤k→∃ l∈gR p v,l.1.toNat < v
theorem anc_tree (x:Net) (n:Nat):∀ k,k < n→Anc (treeP x n k) k
 | 0,_=>fun v h1 h2=>by omega
 | k + 1,hk=>by
   intro v h1 h2;have ht:=treeP_to x k;have hpv:=pv_tree x n k (by omega);have hl:=treeP_len x n k;rw [treeP];by_cases e:v = k + 1
   . subst e;obtain ⟨l,hl1,e⟩:=linkP_new (bk:=x.back) (w:=wgt x k) hpv (a:=(within (gI x.links k) ((k:Int) + 1)).toNat) (b:=k + 1) (by omega) (by omega) (by omega);exact ⟨l,hl1,by rw [e,Int.toNat_natCast];exact ht⟩
   . obtain ⟨l,hl1,e2⟩:=anc_tree x n k (by omega) v h1 (by omega);exact ⟨l,linkP_keep (by omega) (by omega) hl1,e2⟩
theorem anc_more (x:Net) {n:Nat} (hn:1≤n) {p:Ps} (hp:p.length = n) {m:Nat} (h:Anc p m):∀ k,Anc (moreP x n p k) m
 | 0=>h
 | k + 1=>by
   intro v h1 h2;obtain ⟨l,hl,e⟩:=anc_more x hn hp h k v h1 h2;rw [moreP];exact ⟨l,linkP_keep (by rw [moreP_len,hp];exact within_lt hn) (by rw [moreP_len,hp];exact within_lt hn) hl,e⟩
theorem conn_of {g:G} (hg:g.valid = true) (ha:∀ v,1≤v→v < g.ports.length→∃ l∈gR g.ports v,l.1.toNat < v):g.conn = true:=by
 obtain ⟨f1,f2,f3,f4,f5,f6,f7⟩:=val_facts hg;have hF:=dst_found hg;have hu:=und_of hg;have key:∀ m v,v < m→v < g.ports.length→0≤gI (dst g 0) v:=by
  intro m
  induction m with
  | zero=>intro v h;omega
  | succ m ih =>
    intro v hm hv;by_cases h0:v = 0
    . subst h0;have:=hF.from_;have this:gI (dst g 0) 0 = 0:=this;omega
    . obtain ⟨l,hl,e⟩:=ha v (by omega) hv;have h1:=ih l.1.toNat (by omega) (by omega);obtain ⟨m',hm',em⟩:=hu.sym v hv l hl;have:=(hF.on l.1.toNat (by omega) h1 m' hm').1;rw [em] at this;exact this
 rw [G.conn,hg,Bool.true_and,negB_no.2 (fun a ham=>?_)]
 . rfl
 . obtain ⟨i,hi,e⟩:=List.mem_iff_getElem.1 ham;have:=key (i + 1) i (by omega) (by rw [dst_len] at hi;exact hi);rw [← e];simpa [gI,hi] using this
theorem con_conn (x:Net) {most:Int} (h1:1≤most) (h2:most≤24):(x.con most).conn = true:=by
 have hs:=size_ok x h1;refine conn_of (con_valid x h1 h2) fun v hv1 hv=>?_;rw [(con_len x most).2] at hv;exact anc_more x hs.1 (treeP_len _ _ _) (anc_tree x (x.size most) (x.size most - 1) (by omega)) _ v hv1 (by omega)
theorem vWv_lo' (x:Nat):0≤(gV vWv x).lo∧(gV vWv x).lo≤1000:=by
 rcases x with _ | _ | _ | _ | x
 . exact ⟨by decide,by decide⟩
 . exact ⟨by decide,by decide⟩
 . exact ⟨by decide,by decide⟩
 . exact ⟨by decide,by decide⟩
 . have:gV vWv (x + 4) = default:=by simp [gV,vWv,List.getD]
   rw [this];exact ⟨by decide,by decide⟩
set_option maxHeartbeats 16000000 in
theorem lawWReaches (x:Net) (hx:x.Small) (raw:List Int) (hraw:raw.length≤9223372036854775807) (wi:List Int) (hwi:wi.length≤9223372036854775807) :
 RG 5 [x.v,.fz raw.length 1 false (vI raw),.fz wi.length 1 false (vUI wi)] (.bool true):=by
 have h0:=connected_ok x hx 7 (by omega) (by omega);have hgc:=con_conn x (most:=7) (by omega) (by omega);generalize x.con 7 = g at *;obtain ⟨hg,_⟩:=conn_facts hgc;obtain ⟨f1,f2,f3,f4,f5,f6,f7⟩:=val_facts hg;have hs:=valid_small hg;have hcf:=config_ok g hg vWv vWv_ok vWv_lo' raw hraw;have hc:=cfg_conf pWav wav_prOk g hg raw;change Conf pWav g (cfg g vWv raw) at hc;generalize cfg g vWv raw = c at *;have hv:=wvars_ok;have hk:=known35_ok;have htx:=text_ok;have hpr:=program_ok;have hcl:=wclaim_ok g hs;rw [if_pos hgc,clmW] at hcl;have hwi:=wishes_ok wi hwi 120 (by omega);have hwl:=wsL_len wi 120;have hwlt:=wsL_lt wi 120;generalize wsL wi 120 = ws at *;have hrun:=wrun_ok txtB pWav wav_prOk program_ok g hs hg 3 (by decide) c hc ws (by omega) hwlt;have hall:=trc_all wav_prOk hg (k:=3) (by decide) ws c (cnt0 (enN pWav g c)) hc (cnt0_ok (en_24 _ hg c)) (by simp only [cnt0];omega);have hne:=trc_ne pWav g 3 c (cnt0 (enN pWav g c)) ws;have hlen:=trc_len pWav g 3 ws c (cnt0 (enN pWav g c));have hrcl:=rwclaim_ok g hs;rw [if_pos hgc,clmW] at hrcl;have hheld:heldL (2 * g.ecc + 1) (-1) (decide (enN pWav g (lastC (trc pWav g 3 c (cnt0 (enN pWav g c)) ws)) = 0)) false (legs g.wleg (trc pWav g 3 c (cnt0 (enN pWav g c)) ws)) = true:=by
  refine held_trc wav_prOk hg (k:=3) (by decide) _ _ g.wleg (fun c k=>WIn g c k) ?_ ?_ ?_ ?_ ws c (cnt0 (enN pWav g c)) false hc (cnt0_ok (en_24 _ hg c)) (by simp only [cnt0];omega) (fun h=>by cases h) (fun _=>win_start hgc hc)
  . intro c s h1 h2 h3 h4 h5;exact (wleg_iff hgc (step_conf wav_prOk hg h1 h3)).2 (legW_step hgc h1 ((wleg_iff hgc h1).1 h2) h3)
  . intro c n h1 h2 h3 h4;exact ⟨win_bound hgc h2 h3 (fun q=>by rw [(wleg_iff hgc h1).2 q] at h4;cases h4),fun h=>by omega⟩
  . intro c h1 h2;exact legW_en hgc h1 (fun q=>by rw [(wleg_iff hgc h1).2 q] at h2;cases h2)
  . intro c n s h1 h2 h3 h4 h5 h6 h7 h8 h9;exact win_step hgc h1 h3 h5 (step_conf wav_prOk hg h1 h5)
 generalize 2 * g.ecc + 1 = R at *;generalize trc pWav g 3 c (cnt0 (enN pWav g c)) ws = T at *;have hlast:=gT_last hne;have hlc:Conf pWav g (gT T (T.length - 1)).1:=(hall _ (gT_mem (by omega))).1;have hen:=senabled_ok pWav wav_prOk g hs hg _ hlc;have hhl:=held_ok (legs g.wleg T) (by rw [legs_len];exact hne) (by rw [legs_len];omega) 3 R (-1) true false (decide (enN pWav g (lastC T) = 0));rw [hheld,← hlast] at hhl;refine ret_frzG rfl ?_;refine fn_rule mixed Tryz.func5 rfl hc5 hr5 rfl ?_
 repeat' ((conv=>whnf);first | (refine Br.tt ?_) | (refine h0.go ?_) | (refine hcf.go ?_) | (refine hv.go ?_) | (refine htx.go ?_) | (refine hcl.go ?_) | (refine hrcl.go ?_) | (refine hwi.go ?_) | (refine hrun.gog ?_) | (refine And.intro rfl ?_) | (refine Br.any (fun _=>?_) (fun _=>?_)))
 all_goals (conv=>whnf)
 . exfalso;rename_i h;simp at h
 refine loop_u mixed [7,9,10] [2] [3,4,5,6,7,8,9,10,11,12,13,14,15,16,17,18,19,20,21,22,23,24,25,26,27,28,29] [2,1,0,999] (fun i:Nat=>[(12,.vec 2 1 0 i),(13,.int .i64 i)]) (fun own i=>(2,.vec i 1 (vLg g.wleg T)) :: own) (fun m i=>m = T.length - i∧i≤T.length) T.length 0 ⟨rfl,Nat.zero_le _⟩ rfl (fun _=>rfl) ?_ ?_
 . exact weak_b (fun _ _=>[(0,some 0),(1,some 1),(2,none),(999,some 999)])
 rintro m i ⟨hm,hi⟩;by_cases hil:i < T.length
 . have hlg:Ret Tryz.prog 15 [g.v,cV (gT T i).1] (.bool (g.wleg (gT T i).1)):=wlegit_ok g hs _ (csmall_of wav_prOk hg (hall _ (gT_mem hil)).1)
   repeat' ((conv=>whnf);first | (refine Br.dec ?_ ?_ <;> intro _ <;> try omega) | (refine Br.nbeq ?_ ?_ <;> intro _ <;> try omega) | (refine Ar.i64 (by omega) (by omega) ?_) | (refine Ix.nat (by omega) ?_) | (refine Len.mk (by omega) ?_) | (refine hlg.go ?_) | (refine Br.any (fun _=>?_) (fun _=>?_)))
   all_goals (conv=>whnf)
   all_goals
    refine ⟨T.length - (i + 1),i + 1,by omega,⟨rfl,by omega⟩,?_⟩;refine weak_by (fun env own=>[(0,some 0),(1,some 1),(2,ekey env 12),(999,some 999)]) ?_ ?_ rfl
    . repeat' (first | exact True.intro | (refine ⟨⟨_,rfl,?_⟩,?_⟩) | exact VRen.kf rfl | exact VRen.loc rfl | exact VRen.vec rfl rfl rfl)
    . repeat' (first | exact vle_appB g.wleg T _ _ _ hi hj _ _ (by rfl) (by first | rfl | (symm;assumption)) | exact True.intro | exact ⟨rfl,rfl,rfl⟩ | (refine ⟨⟨_,rfl,?_⟩,?_⟩) | exact VRen.kf rfl | (refine ⟨Nat.le_refl _,rfl,fun i j hi hj=>?_⟩) | (refine And.intro ?_ ?_))
 . have ei:i = T.length:=by omega
   subst ei;by_cases hz:enN pWav g (gT T (T.length - 1)).1 = 0
   . rw [decide_eq_true hz] at hhl;rw [hz] at hen
     repeat' ((conv=>whnf);first | (refine Ix.mk (T.length - 1) (by omega) (by omega) ?_) | (refine Br.tt ?_) | (refine Br.dec ?_ ?_ <;> intro _ <;> try omega) | (refine Ar.i64 (by omega) (by omega) ?_) | (refine hk.gog ?_) | (refine htx.go ?_) | (refine hpr.go ?_) | (refine hcl.go ?_) | (refine hen.go ?_) | (refine call_lend hhl rfl ⟨by omega,vle_legs _ _,vle_cnts _ _,VLe.rfl,VLe.rfl,True.intro⟩ ?_) | (refine And.intro rfl ?_))
     all_goals (conv=>whnf)
     all_goals exact VLe.rfl
   . rw [decide_eq_false hz] at hhl
     repeat' ((conv=>whnf);first | (refine Ix.mk (T.length - 1) (by omega) (by omega) ?_) | (refine Br.tt ?_) | (refine Br.dec ?_ ?_ <;> intro _ <;> try omega) | (refine Ar.i64 (by omega) (by omega) ?_) | (refine hk.gog ?_) | (refine htx.go ?_) | (refine hpr.go ?_) | (refine hcl.go ?_) | (refine hen.go ?_) | (refine call_lend hhl rfl ⟨by omega,vle_legs _ _,vle_cnts _ _,VLe.rfl,VLe.rfl,True.intro⟩ ?_) | (refine And.intro rfl ?_))
     all_goals (conv=>whnf)
     all_goals exact VLe.rfl
end Go.Proofs.YtpgkdcekpineaaaGreatDoor
