import Derived.Test.YtpoplpohbpfbmaaGreatDoorWT3
import Derived.Test.YtpoplpohbpfbmaaGreatDoorEngAB
import Derived.Test.YtpoplpohbpfbmaaGreatDoorCK1
import Derived.Test.YtpoplpohbpfbmaaGreatDoorWV7
namespace Go.Proofs.YtpoplpohbpfbmaaGreatDoor
open Go.Eng
set_option maxRecDepth 100000
set_option linter.unusedVariables false
theorem same35_ok (a b:List Int) (ha:a.length<=1000000) (hb:b.length<=1000000):Ret Tryz.prog 31 [.fz a.length 1 false (vI a),.fz b.length 1 false (vI b)] (.bool (decide (a=b))):=by
 refine ret_frz rfl ?_;refine fn_rule mixed Tryz.func31 rfl hc31 hr31 rfl ?_
 repeat' ((conv=>whnf);first|(refine Br.bne ?_ ?_<;>intro _<;>try omega))
 all_goals (conv=>whnf)
 . exact VLe.bool (by rw[decide_eq_false (fun h=>by subst h;omega)])
 refine loop_r mixed [0,1] (fun i:Nat=>[(5,.int .i64 i)]) (fun m i=>m=a.length-i/\i<=a.length/\∀j,j<i->gI a j=gI b j) a.length 0 ⟨rfl,Nat.zero_le _,fun j hj=>by omega⟩ ?_ ?_
 . exact weak_b (fun _ _=>[])
 rintro m i ⟨hm,hi,hall⟩
 repeat' ((conv=>whnf);first|(refine Br.dec ?_ ?_<;>intro _<;>try omega)|(refine Br.bne ?_ ?_<;>intro _<;>try omega)|(refine Ar.i64 (by omega) (by omega) ?_)|(refine Ix.nat (by omega) ?_))
 all_goals (conv=>whnf)
 . rename_i hne;exact VLe.bool (by rw[decide_eq_false (fun h=>by subst h;exact hne rfl)])
 . refine⟨a.length-(i+1),i+1,by omega,⟨rfl,by omega,fun j hj=>?_⟩,?_⟩
   . by_cases e:j=i
     . subst e;assumption
     . exact hall j (by omega)
   . exact weak_b (fun _ _=>[])
 . have e:a=b:=List.ext_getElem (by omega) (fun j h1 h2=>by
    have:=hall j (by omega);simpa[gI,List.getD,List.getElem?_eq_getElem h1,List.getElem?_eq_getElem h2] using this)
   exact VLe.bool (by rw[decide_eq_true e])
def t2:G:=⟨[0,1],[[(1,1)],[(0,1)]]⟩
theorem t2_small:t2.Small:=⟨by decide,by decide,by decide⟩
set_option maxHeartbeats 4000000 in
theorem tree2:Ret Tryz.prog 17 [.agg [.int .i64 2,.nilslice,.nilslice,.nilslice,.bool false,.bool false],.int .i64 2] t2.v:=by
 refine ret_frz2 rfl ?_;refine fn_rule mixed Tryz.func17 rfl hc17 hr17 rfl ?_
 repeat' ((conv=>whnf);first|(refine MkS.cells ?_)|(refine Bd.mk 2 (by decide) (by omega) ?_)|(refine Sv.mk 1 (by decide) ?_)|(refine Br.tt ?_)|(refine Br.ff ?_)|(refine Ar.i64 (by omega) (by omega) ?_)|(refine Nz.mk (by omega) ?_)|(refine Ix.mk 0 rfl (by omega) ?_)|(refine Ix.mk 1 rfl (by omega) ?_)|(refine Len.mk (by omega) ?_)|(refine Ltn.mk (by omega) ?_)|(refine And.intro rfl ?_)|(refine fn_rule mixed Tryz.func37 rfl hc37 hr37 rfl ?_)|(refine fn_rule mixed Tryz.func34 rfl hc34 hr34 rfl ?_)|(refine fn_rule mixed Tryz.func62 rfl hc62 hr62 rfl ?_)|(refine w_0_256.go ?_)|(refine w_0_15.go ?_)|(refine w_0_1.go ?_)|(refine w_1_2.go ?_)|(refine loop_fuel mixed 20 ?_)|(refine call_frz [] (at_nil 0) ⟨VLe.nilfz rfl,VLe.int (by omega),True.intro⟩ ?_)|(refine call_frz [] (at_nil 1) ⟨VLe.nilfz rfl,VLe.int (by omega),True.intro⟩ ?_))
 all_goals (conv=>whnf)
 refine VLe.agg ⟨VLe.fz rfl (fun h=>h) (fun i j hi hj=>?_),VLe.fz rfl (fun h=>h) (fun i j hi hj=>?_),True.intro⟩
 . rcases i with _|_|i
   all_goals first|(exfalso;omega)|(rcases j with _|j;exact VLe.rfl;exfalso;omega)
 . rcases i with _|_|i
   all_goals first|(exfalso;omega)|skip
   all_goals
    obtain rfl:j=0:=by omega
    conv=>arg 1;whnf
    conv=>arg 2;whnf
    refine VLe.fz rfl (fun h=>h) (fun i j hi hj=>?_);rcases i with _|i
    all_goals first|(exfalso;omega)|(rcases j with _|_|j;exact VLe.rfl;exact VLe.rfl;exfalso;omega)
def wA:Cf:=[[0,-1,0,0],[1,0,0,0]]
def wB:Cf:=[[0,-1,0,1],[1,0,0,1]]
def wWs:List Nat:=[1,2,2,1]
theorem conf_ofBW {g:G} {c:Cf} (h1:c.length=g.ids.length) (h2:(List.range c.length).all (fun v=>decide ((gC c v).length=4)&&(List.range 4).all fun x=>decide ((bnd g (gV pWav.vars x) v).1<=gI (gC c v) x/\gI (gC c v) x<=(bnd g (gV pWav.vars x) v).2))=true):Conf pWav g c:=by
 simp only[List.all_eq_true,List.mem_range,Bool.and_eq_true,decide_eq_true_eq] at h2;exact⟨h1,fun v hv=>(h2 v hv).1,fun v hv x hx=>(h2 v hv).2 x hx⟩
theorem wconfA:Conf pWav t2 wA:=conf_ofBW rfl (by decide +kernel)
theorem wA_small:CSmall wA:=⟨by decide,by simp[wA]⟩
theorem wlegA:t2.wleg wA=true:=by decide +kernel
theorem wlastA:lastC (trc pWav t2 1 wA (cnt0 (enN pWav t2 wA)) wWs)=wB:=by decide +kernel
theorem t2_ecc:t2.ecc=1:=by decide +kernel
theorem t2_conn:t2.conn=true:=by decide +kernel
theorem wrow4 (a b d e:Int) (f:Nat->Nat->V) (h0:f 0 0=.int .i64 a) (h1:f 1 0=.int .i64 b) (h2:f 2 0=.int .i64 d) (h3:f 3 0=.int .i64 e):VLe (.fz 4 1 false f) (.fz 4 1 false (vI [a,b,d,e])):=VLe.fz rfl (fun h=>h) (four_le a b d e f h0 h1 h2 h3)
theorem wrows (k1 k2 f:Nat->Nat->V) (h1:VLe (.fz 4 1 false k1) (.fz 4 1 false (vI [0,-1,0,0]))) (h2:VLe (.fz 4 1 false k2) (.fz 4 1 false (vI [1,0,0,0]))) (f0:f 0 0=.fz 4 1 false k1) (f1:f 1 0=.fz 4 1 false k2):VLe (.fz 2 1 false f) (cV wA):=by
 refine VLe.fz rfl (fun h=>h) (fun i j hi hj=>?_);obtain rfl:j=0:=by omega
 rcases i with _|_|i
 . rw[f0];exact h1
 . rw[f1];exact h2
 . exfalso;omega
theorem wws_le (f:Nat->Nat->V) (h0:f 0 0=.int .u32 1) (h1:f 1 0=.int .u32 2) (h2:f 2 0=.int .u32 2) (h3:f 3 0=.int .u32 1):VLe (.fz 4 1 false f) (.fz wWs.length 1 false (vU7 wWs)):=by
 refine VLe.fz rfl (fun h=>h) (fun i j hi hj=>?_);obtain rfl:j=0:=by omega
 rcases (show i=0\/i=1\/i=2\/i=3 by omega) with rfl|rfl|rfl|rfl
 . rw[h0];exact VLe.rfl
 . rw[h1];exact VLe.rfl
 . rw[h2];exact VLe.rfl
 . rw[h3];exact VLe.rfl
set_option maxHeartbeats 8000000 in
theorem known35_ok:RG 14 [] (.bool true):=by
 have hg:t2.valid=true:=(conn_facts t2_conn).1;have h1:=wlegit_ok t2 t2_small wA wA_small;have h4:=wclaim_ok t2 t2_small;have h5:=same35_ok [0,-1,0,1] [0,-1,0,1] (by decide) (by decide);have h6:=same35_ok [1,0,0,1] [1,0,0,1] (by decide) (by decide);have hf:=follow_ok pWav wav_prOk t2 t2_small hg 1 (by decide) wA wconfA wWs (by decide) (by decide);rw[folV,trcV,wlastA] at hf;generalize chsL pWav t2 1 wA wWs=ch at hf;generalize ((trc pWav t2 1 wA (cnt0 (enN pWav t2 wA)) wWs).getLast?.getD default).2=lk at hf;generalize ensL pWav t2 (trc pWav t2 1 wA (cnt0 (enN pWav t2 wA)) wWs)=en at hf;rw[wlegA] at h1;rw[if_pos t2_conn,t2_ecc,clmW] at h4;rw[decide_eq_true rfl] at h5 h6;have htx:=text_ok;have hpr:=program_ok;refine ret_frzG2 rfl ?_;refine call_sem Tryz.func14 rfl hc14 hr14 rfl ?_;refine sem_seq (sem_vc mixed ?_)
 repeat' ((conv=>whnf);first|fail)
 all_goals (conv=>whnf)
 refine sem_seq (sem_vc mixed ?_)
 repeat' ((conv=>whnf);first|(refine tree2.go ?_))
 all_goals (conv=>whnf)
 refine sem_seq (sem_vc mixed ?_)
 repeat' ((conv=>whnf);first|(refine htx.go ?_)|(refine hpr.go ?_))
 all_goals (conv=>whnf)
 refine sem_seq (sem_vc mixed ?_)
 repeat' ((conv=>whnf);first|fail)
 all_goals (conv=>whnf)
 refine sem_frz 3 rfl (by(conv=>whnf);exact⟨by decide,by decide,rfl,rfl⟩) (sem_vc mixed ?_)
 repeat' ((conv=>whnf);first|(refine Ix.mk 0 rfl (by decide) ?_)|(refine Ix.mk 1 rfl (by decide) ?_)|(refine Br.tt ?_)|(refine call_frzG [5] hf rfl ⟨by decide,VLe.rfl,VLe.rfl,VLe.rfl,wrows _ _ _ (wrow4 _ _ _ _ _ rfl rfl rfl rfl) (wrow4 _ _ _ _ _ rfl rfl rfl rfl) rfl rfl,wws_le _ rfl rfl rfl rfl,True.intro⟩ ?_)|(refine call_frz [] h1 ⟨VLe.rfl,wrows _ _ _ (wrow4 _ _ _ _ _ rfl rfl rfl rfl) (wrow4 _ _ _ _ _ rfl rfl rfl rfl) rfl rfl,True.intro⟩ ?_)|(refine h4.go ?_)|(refine call_lend h5 rfl ⟨by decide,VLe.rfl,VLe.fz rfl (fun h=>h) (four_le _ _ _ _ _ rfl rfl rfl rfl),True.intro⟩ ?_)|(refine call_lend h6 rfl ⟨by decide,VLe.rfl,VLe.fz rfl (fun h=>h) (four_le _ _ _ _ _ rfl rfl rfl rfl),True.intro⟩ ?_))
 all_goals (conv=>whnf)
 all_goals exact VLe.rfl
theorem gT_mem {T:List (Cf×Cnt)} {i:Nat} (h:i<T.length):gT T i∈T:=by
 simp[gT,List.getD,h]
theorem gT_last {T:List (Cf×Cnt)} (h:0<T.length):(gT T (T.length-1)).1=lastC T:=by
 have:T.getLast?=T[T.length-1]?:=List.getLast?_eq_getElem?;simp only[gT,lastC,this,List.getD]
theorem csmall_of {p:Pr} (hp:PrOk p) {g:G} (hg:g.valid=true) {c:Cf} (h:Conf p g c):CSmall c:=by
 obtain⟨f1,f2,f3,f4,f5,f6,f7⟩:=val_facts hg;have hl:=h.len;have hv:=hp.vlen;refine⟨by omega,fun r hr=>?_⟩;obtain⟨i,hi,e⟩:=List.mem_iff_getElem.1 hr;have h2:gC c i=r:=by simp[gC,List.getD,hi,e]
 have:=h.row i hi;rw[<- h2];omega
structure StepAt (p:Pr) (g:G) (k:Int) (a:Cf×Cnt) (s:Nat) (b:Cf×Cnt):Prop where
 conf:Conf p g a.1
 ok:a.2.Ok
 en:enN p g a.1≠0
 ne:s≠0
 part:Part s (enN p g a.1)
 okc:okC g k (enN p g a.1) s=true
 lt:s<16777216
 cf:b.1=stepC p g a.1 s
 cn:b.2=a.2.add s (enN p g b.1)
theorem trc_step {p:Pr} (hp:PrOk p) {g:G} (hg:g.valid=true) {k:Int} (hk:dk k=true):∀(ws:List Nat) (c:Cf) (n:Cnt) (i:Nat),Conf p g c->n.Ok->n.steps+ws.length<=4096->i+1<(trc p g k c n ws).length ->
 StepAt p g k (gT (trc p g k c n ws) i) ((chsL p g k c ws).getD i 0) (gT (trc p g k c n ws) (i+1))
 | [],c,n,i,_,_,_,h=>by simp[trc] at h
 | w::ws,c,n,i,hc,hn,hl,h=>by
   simp only[List.length_cons] at hl;by_cases h0:enN p g c=0
   . rw[trc,if_pos h0] at h;simp at h
   . rw[trc,if_neg h0] at h ⊢;rw[chsL,if_neg h0];obtain⟨c1,c2,c3,c4,c5,c6⟩:=ch_facts p hg hk c w h0;obtain⟨k1,k2⟩:=nx_ok hg hk hn (by omega) w h0 (k:=k);have hcn:=nx_conf hp hg hk hc w h0;cases i with
     | zero =>
       have e:gT ((c,n)::trc p g k (nxC p g k c w) (nxK p g k c n w) ws) (0+1)=(nxC p g k c w,nxK p g k c n w):=by
        cases ws<;>rfl
       rw[e];exact⟨hc,hn,h0,c1,c2,c3,c4,rfl,rfl⟩
     | succ i =>
       have:=trc_step hp hg hk ws (nxC p g k c w) (nxK p g k c n w) i hcn k1 (by omega) (by simpa using h);exact this
theorem trc_zero (p:Pr) (g:G) (k:Int) (c:Cf) (n:Cnt) (ws:List Nat):gT (trc p g k c n ws) 0=(c,n):=by
 cases ws<;>rfl
theorem linkP_get {bk:Bool} {p:Ps} {a b:Nat} {w:Int} (ha:a<p.length) (hb:b<p.length) (hc:¬ (a=b\/lnk p a b=true)) (v:Nat) :
 gR (linkP bk p a b w) v=if v=b then addP bk (gR p b) ((a:Int),w) else if v=a then addP bk (gR p a) ((b:Int),w) else gR p v:=by
 rw[linkP,if_neg hc,gR_set _ b _ (by simpa using hb),gR_set p a _ ha]
theorem linkP_keep {bk:Bool} {p:Ps} {a b:Nat} {w:Int} (ha:a<p.length) (hb:b<p.length) {v:Nat} {l:Int×Int} (hl:l∈gR p v):l∈gR (linkP bk p a b w) v:=by
 by_cases hc:a=b\/lnk p a b=true
 . rw[linkP,if_pos hc];exact hl
 . rw[linkP_get ha hb hc];split
   . rename_i e;subst e;exact mem_addP.2 (.inr hl)
   . split
     . rename_i e;subst e;exact mem_addP.2 (.inr hl)
     . exact hl
theorem linkP_new {bk:Bool} {p:Ps} (h:PV p) {a b:Nat} {w:Int} (ha:a<p.length) (hb:b<p.length) (hab:a≠b):∃l∈gR (linkP bk p a b w) b,l.1=(a:Int):=by
 by_cases hc:lnk p a b=true
 . rw[linkP,if_pos (.inr hc)];rw[lnk,List.any_eq_true] at hc;obtain⟨l,hl,e⟩:=hc;have e:l.1=(b:Int):=by simpa using e
   have:=h.sym a ha l hl;rw[e,Int.toNat_natCast] at this;exact⟨_,this,rfl⟩
 . rw[linkP_get ha hb (by rintro (e|e);exact hab e;exact hc e),if_pos rfl];exact⟨_,mem_addP.2 (.inl rfl),rfl⟩
def Anc (p:Ps) (k:Nat):Prop:=∀v,1<=v->v<=k->∃l∈gR p v,l.1.toNat<v
theorem anc_tree (x:Net) (n:Nat):∀k,k<n->Anc (treeP x n k) k
 | 0,_=>fun v h1 h2=>by omega
 | k+1,hk=>by
   intro v h1 h2;have ht:=treeP_to x k;have hpv:=pv_tree x n k (by omega);have hl:=treeP_len x n k;rw[treeP];by_cases e:v=k+1
   . subst e;obtain⟨l,hl1,e⟩:=linkP_new (bk:=x.back) (w:=wgt x k) hpv (a:=(within (gI x.links k) ((k:Int)+1)).toNat) (b:=k+1) (by omega) (by omega) (by omega);exact⟨l,hl1,by rw[e,Int.toNat_natCast];exact ht⟩
   . obtain⟨l,hl1,e2⟩:=anc_tree x n k (by omega) v h1 (by omega);exact⟨l,linkP_keep (by omega) (by omega) hl1,e2⟩
theorem anc_more (x:Net) {n:Nat} (hn:1<=n) {p:Ps} (hp:p.length=n) {m:Nat} (h:Anc p m):∀k,Anc (moreP x n p k) m
 | 0=>h
 | k+1=>by
   intro v h1 h2;obtain⟨l,hl,e⟩:=anc_more x hn hp h k v h1 h2;rw[moreP];exact⟨l,linkP_keep (by rw[moreP_len,hp];exact within_lt hn) (by rw[moreP_len,hp];exact within_lt hn) hl,e⟩
theorem conn_of {g:G} (hg:g.valid=true) (ha:∀v,1<=v->v<g.ports.length->∃l∈gR g.ports v,l.1.toNat<v):g.conn=true:=by
 obtain⟨f1,f2,f3,f4,f5,f6,f7⟩:=val_facts hg;have hF:=dst_found hg;have hu:=und_of hg;have key:∀m v,v<m->v<g.ports.length->0<=gI (dst g 0) v:=by
  intro m
  induction m with
  | zero=>intro v h;omega
  | succ m ih =>
    intro v hm hv;by_cases h0:v=0
    . subst h0;have:=hF.from_;have this:gI (dst g 0) 0=0:=this;omega
    . obtain⟨l,hl,e⟩:=ha v (by omega) hv;have h1:=ih l.1.toNat (by omega) (by omega);obtain⟨m',hm',em⟩:=hu.sym v hv l hl;have:=(hF.on l.1.toNat (by omega) h1 m' hm').1;rw[em] at this;exact this
 rw[G.conn,hg,Bool.true_and,negB_no.2 (fun a ham=>?_)]
 . rfl
 . obtain⟨i,hi,e⟩:=List.mem_iff_getElem.1 ham;have:=key (i+1) i (by omega) (by rw[dst_len] at hi;exact hi);rw[<- e];simpa[gI,hi] using this
theorem con_conn (x:Net) {most:Int} (h1:1<=most) (h2:most<=24):(x.con most).conn=true:=by
 have hs:=size_ok x h1;refine conn_of (con_valid x h1 h2) fun v hv1 hv=>?_;rw[(con_len x most).2] at hv;exact anc_more x hs.1 (treeP_len _ _ _) (anc_tree x (x.size most) (x.size most-1) (by omega)) _ v hv1 (by omega)
end Go.Proofs.YtpoplpohbpfbmaaGreatDoor
namespace Go.Plain.Wave
open Go.Plain.Clock
variable {n:Nat} {par:Nat->Nat} {D:Nat->Nat} {E:Nat} {s b s' b' c:Nat->Bool} {β:Bool} {m:Nat->Nat}
structure Ph (n:Nat) (par:Nat->Nat) (β:Bool) (m:Nat->Nat) (s b:Nat->Bool):Prop where
 le:∀v,v<n->m v<=2
 s:∀v,v<n->s v=decide (m v=1)
 b:∀v,v<n->b v=if m v=0 then β else !β
 up:∀v,v<n->v≠0->1<=m v->1<=m (par v)
 dn:∀v,v<n->v≠0->m (par v)=2->m v=2
theorem Ph.tk_iff (hT:Tree n par D E) (h:Ph n par β m s b) {v:Nat} (hv:v<n) (h0:v≠0):tk par s b v↔m v=0/\m (par v)=1:=by
 have hu:=hT.lt v hv h0;have a1:=h.le v hv;have a2:=h.le _ hu;have a3:=h.up v hv h0;have a4:=h.dn v hv h0;rw[Wave.tk,h.b v hv,h.b _ hu,h.s v hv,h.s _ hu];rcases (show m v=0\/m v=1\/m v=2 by omega) with e|e|e<;>rcases (show m (par v)=0\/m (par v)=1\/m (par v)=2 by omega) with f|f|f<;>first|(exfalso;omega)|(rw[e,f];cases β<;>simp)
theorem Ph.fin_iff (h:Ph n par β m s b) {v:Nat} (hv:v<n):fin n par s b v↔m v=1/\∀u,child n par v u->m u=2:=by
 rw[Wave.fin,h.s v hv,decide_eq_true_eq];refine and_congr_right fun e=>forall_congr' fun u=>forall_congr' fun hc=>?_;have a1:=h.le u hc.1;rw[h.s u hc.1,h.b u hc.1,h.b v hv,e];rcases (show m u=0\/m u=1\/m u=2 by omega) with f|f|f<;>rw[f]<;>cases β<;>simp
theorem Ph.en_iff (hT:Tree n par D E) (h:Ph n par β m s b) (h2:m 0≠2) {v:Nat} (hv:v<n):en n par s b v↔(m v=0/\(v≠0->m (par v)=1))\/(m v=1/\∀u,child n par v u->m u=2):=by
 rw[Wave.en];by_cases h0:v=0
 . subst h0;have a1:=h.le 0 hv;rw[if_pos rfl,h.s 0 hv,h.fin_iff hv,decide_eq_false_iff_not];constructor
   . rintro (q|q)
     . exact .inl ⟨by omega,fun e=>(e rfl).elim⟩
     . exact .inr q
   . rintro (q|q)
     . exact .inl (by omega)
     . exact .inr q
 . rw[if_neg h0,h.tk_iff hT hv h0,h.fin_iff hv];constructor
   . rintro (q|q)
     . exact .inl ⟨q.1,fun _=>q.2⟩
     . exact .inr q
   . rintro (q|q)
     . exact .inl ⟨q.1,q.2 h0⟩
     . exact .inr q
def adv (c:Nat->Bool) (m:Nat->Nat) (v:Nat):Nat:=if c v=true then m v+1 else m v
theorem Ph.step (hT:Tree n par D E) (h:Ph n par β m s b) (h2:m 0≠2) (hc:Ch n par s b c s' b') (hen:∀v,c v=true->en n par s b v):Ph n par β (adv c m) s' b':=by
 have key:∀v,v<n->c v=true->(m v=0/\(v≠0->m (par v)=1))\/(m v=1/\∀u,child n par v u->m u=2):=fun v hv e=>(h.en_iff hT h2 hv).1 (hen v e);have hst:∀v,v<n->c v=true->s' v=decide (m v=0)/\b' v=!β:=fun v hv e=>by
  have hk:=key v hv e;by_cases h0:v=0
  . subst h0;rcases hc.root e with ⟨a1,a2,a3⟩ | ⟨a1,a2,a3⟩
    . have e1:=h.s 0 hv;rw[a1] at e1;have e2:=h.b 0 hv;have:m 0≠1:=of_decide_eq_false e1.symm;have l:=h.le 0 hv;have e0:m 0=0:=by omega
      rw[a2,a3,e2,e0];simp
    . have e1:=(h.fin_iff hv).1 a1;rw[a2,a3,h.b 0 hv,e1.1];simp
  . have hu:=hT.lt v hv h0;rcases hc.oth v e h0 with ⟨a1,a2,a3⟩ | ⟨a0,a1,a2,a3⟩
    . have e1:=(h.tk_iff hT hv h0).1 a1;rw[a2,a3,h.s _ hu,h.b _ hu,e1.1,e1.2];simp
    . have e1:=(h.fin_iff hv).1 a1;rw[a2,a3,h.b v hv,e1.1];simp
 refine⟨fun v hv=>?_,fun v hv=>?_,fun v hv=>?_,fun v hv h0=>?_,fun v hv h0=>?_⟩
 . rw[adv];have:=h.le v hv;by_cases e:c v=true
   . rw[if_pos e];have:=key v hv e;omega
   . rw[if_neg e];omega
 . rw[adv];by_cases e:c v=true
   . rw[if_pos e,(hst v hv e).1,decide_eq_decide];omega
   . rw[if_neg e,(hc.rest v hv (by simpa using e)).1,h.s v hv]
 . rw[adv];by_cases e:c v=true
   . rw[if_pos e,(hst v hv e).2,if_neg (by omega)]
   . rw[if_neg e,(hc.rest v hv (by simpa using e)).2,h.b v hv]
 . have a1:=h.up v hv h0;rw[adv,adv];by_cases e:c v=true
   . have:=key v hv e;rw[if_pos e];intro _;split<;>omega
   . rw[if_neg e];intro q;split<;>omega
 . have hu:=hT.lt v hv h0;have a1:=h.dn v hv h0;have hle:=h.le v hv;rw[adv,adv];by_cases e:c (par v)=true
   . rw[if_pos e];intro q;have hk:=key _ hu e;have hv2:m v=2:=by
      rcases hk with q1|q1
      . omega
      . exact q1.2 v ⟨hv,h0,rfl⟩
     by_cases e2:c v=true
     . have:=key v hv e2;omega
     . rw[if_neg e2];exact hv2
   . rw[if_neg e];intro q;by_cases e2:c v=true
     . have:=key v hv e2;have:=a1 q;omega
     . rw[if_neg e2];exact a1 q
theorem Ph.start (hs:∀v,v<n->s v=false) (hb:∀v,v<n->b v=β):Ph n par β (fun _=>0) s b :=
 ⟨fun v _=>by simp,fun v hv=>by rw[hs v hv];rfl,fun v hv=>by rw[hb v hv];rfl,fun v _ _ h=>by simp at h,fun v _ _ h=>by simp at h⟩
theorem Ph.all (hT:Tree n par D E) (h:Ph n par β m s b) (h2:m 0=2):∀k v,v<n->D v<=k->m v=2
 | 0,v,hv,hd=>by
   by_cases h0:v=0
   . subst h0;exact h2
   . have:=hT.dep v hv h0;omega
 | k+1,v,hv,hd=>by
   by_cases h0:v=0
   . subst h0;exact h2
   . exact h.dn v hv h0 (Ph.all hT h h2 k _ (hT.lt v hv h0) (by have:=hT.dep v hv h0;omega))
theorem Ph.some_en (hT:Tree n par D E) (h:Ph n par β m s b) (h2:m 0≠2):∃v,v<n/\en n par s b v:=by
 by_cases q:∃v,v<n/\m v=0
 . -- the nearest to node 0
   have key:∀k v,v<n->D v<=k->m v=0->∃u,u<n/\en n par s b u:=by
    intro k
    induction k with
    | zero =>
      intro v hv hd e;refine⟨v,hv,(h.en_iff hT h2 hv).2 (.inl ⟨e,fun h0=>?_⟩)⟩;have:=hT.dep v hv h0;omega
    | succ k ih =>
      intro v hv hd e;by_cases h0:v=0
      . exact⟨v,hv,(h.en_iff hT h2 hv).2 (.inl ⟨e,fun q=>(q h0).elim⟩)⟩
      . have hu:=hT.lt v hv h0;by_cases e2:m (par v)=0
        . exact ih _ hu (by have:=hT.dep v hv h0;omega) e2
        . have a1:=h.le _ hu;have a2:=h.dn v hv h0;exact⟨v,hv,(h.en_iff hT h2 hv).2 (.inl ⟨e,fun _=>by omega⟩)⟩
   obtain⟨v,hv,e⟩:=q;exact key (D v) v hv (Nat.le_refl _) e
 . -- the farthest that has not finished
   have h1:∀v,v<n->1<=m v:=fun v hv=>Nat.pos_of_ne_zero fun e=>q ⟨v,hv,e⟩;have key:∀k v,v<n->E<=D v+k->m v=1->∃u,u<n/\en n par s b u:=by
    intro k
    induction k with
    | zero =>
      intro v hv hd e;refine⟨v,hv,(h.en_iff hT h2 hv).2 (.inr ⟨e,fun u hc=>?_⟩)⟩;have a1:=hT.dep u hc.1 hc.2.1;have a2:=hT.top u hc.1;rw[hc.2.2] at a1;omega
    | succ k ih =>
      intro v hv hd e;by_cases q2:∃u,child n par v u/\m u=1
      . obtain⟨u,hc,e2⟩:=q2;have a1:=hT.dep u hc.1 hc.2.1;rw[hc.2.2] at a1;exact ih u hc.1 (by omega) e2
      . refine⟨v,hv,(h.en_iff hT h2 hv).2 (.inr ⟨e,fun u hc=>?_⟩)⟩;have a1:=h1 u hc.1;have a2:=h.le u hc.1;have a3:m u≠1:=fun e=>q2 ⟨u,hc,e⟩;omega
   have hle:=h.le 0 hT.pos;have:=h1 0 hT.pos;exact key E 0 hT.pos (by omega) (by omega)
structure Vis (n:Nat) (D:Nat->Nat) (E:Nat) (m:Nat->Nat) (p:Nat->Bool) (r:Nat):Prop where
 out:∀v,v<n->D v<r->1<=m v
 outp:∀v,v<n->D v=r->m v=0->p v=true
 back:∀v,v<n->E+E+1<D v+r->m v=2
 backp:∀v,v<n->E<r->D v+r=E+E+1->m v=1->p v=true
theorem Vis.bound (hT:Tree n par D E) {p:Nat->Bool} {r:Nat} (h:Vis n D E m p r) (h2:m 0≠2):r<=2*E+1:=by
 apply Nat.le_of_not_lt;intro q;exact h2 (h.back 0 hT.pos (by rw[hT.root];omega))
theorem Vis.step {p p':Nat->Bool} {r:Nat} (h:Vis n D E m p r) (hc:∀v,v<n->c v=true->m v<=1)
 (hp:∀v,v<n->p v=true->c v=false->(D v=r->m v=0->p' v=true)/\(E<r->D v+r=E+E+1->m v=1->p' v=true)):Vis n D E (adv c m) p' r:=by
 refine⟨fun v hv hd=>?_,fun v hv hd e=>?_,fun v hv hd=>?_,fun v hv h1 hd e=>?_⟩
 . have:=h.out v hv hd;rw[adv];split<;>omega
 . rw[adv] at e;by_cases q:c v=true
   . rw[if_pos q] at e;omega
   . rw[if_neg q] at e;exact(hp v hv (h.outp v hv hd e) (by simpa using q)).1 hd e
 . have:=h.back v hv hd;rw[adv];by_cases q:c v=true
   . have:=hc v hv q;omega
   . rw[if_neg q];exact this
 . rw[adv] at e;by_cases q:c v=true
   . rw[if_pos q] at e
     -- it took part just now: it must have done so before
     have:=h.out v hv (by omega);omega
   . rw[if_neg q] at e;exact(hp v hv (h.backp v hv h1 hd e) (by simpa using q)).2 h1 hd e
theorem Vis.start (hT:Tree n par D E) {p:Nat->Bool} (hp:p 0=true):Vis n D E (fun _=>0) p 0 :=
 ⟨fun v _ hd=>by omega,fun v hv hd _=>by
   by_cases h0:v=0
   . subst h0;exact hp
   . have:=hT.dep v hv h0;omega,fun v hv hd=>by have:=hT.top v hv;omega,fun v _ h1=>by omega⟩
theorem Vis.next (hT:Tree n par D E) (hP:Ph n par β m s b) (h2:m 0≠2) {p:Nat->Bool} {r:Nat} (h:Vis n D E m p r) (hz:∀v,v<n->p v=false) {q:Nat->Bool} (hq:∀v,v<n->en n par s b v->q v=true):Vis n D E m q (r+1):=by
 have out:∀v,v<n->D v<r+1->1<=m v:=fun v hv hd=>by
  by_cases e:D v=r
  . apply Nat.pos_of_ne_zero;intro e0;have:=h.outp v hv e e0;rw[hz v hv] at this;cases this
  . exact h.out v hv (by omega)
 have back:∀v,v<n->E+E+1<D v+(r+1)->m v=2:=fun v hv hd=>by
  by_cases e:D v+r=E+E+1
  . have t:=hT.top v hv;have a1:=out v hv (by omega);have a2:=hP.le v hv;have a3:m v≠1:=fun e1=>by
     have:=h.backp v hv (by omega) e e1;rw[hz v hv] at this;cases this
    omega
  . exact h.back v hv (by omega)
 refine⟨out,fun v hv hd e=>hq v hv ((hP.en_iff hT h2 hv).2 (.inl ⟨e,fun h0=>?_⟩)),back,fun v hv h1 hd e=>hq v hv ((hP.en_iff hT h2 hv).2 (.inr ⟨e,fun u hc=>?_⟩))⟩
 . have hu:=hT.lt v hv h0;have a1:=out _ hu (by have:=hT.dep v hv h0;omega);have a2:=hP.le _ hu;have a3:=hP.dn v hv h0;omega
 . have a1:=hT.dep u hc.1 hc.2.1;rw[hc.2.2] at a1;exact back u hc.1 (by omega)
end Go.Plain.Wave
namespace Go.Proofs.YtpoplpohbpfbmaaGreatDoor
open Go.Eng
set_option maxRecDepth 100000
set_option linter.unusedVariables false
theorem ptrK_fp (g:G) (v:Nat):∀k,k<=(gR g.ports v).length->ptrK g v k=fpI (nearB g v) ((gR g.ports v).length-k) ((gR g.ports v).drop ((gR g.ports v).length-k))
 | 0,_=>by rw[ptrK,Nat.sub_zero,List.drop_length];rfl
 | k+1,h=>by
   have hj:(gR g.ports v).length-(k+1)<(gR g.ports v).length:=by omega
   rw[gF_drop' hj,fpI,show(gR g.ports v).length-(k+1)+1=(gR g.ports v).length-k by omega,<- ptrK_fp g v k (by omega),ptrK,nearB,show(gR g.ports v).length-1-k=(gR g.ports v).length-(k+1) by omega];simp only[decide_eq_true_eq]
theorem ptr_up (g:G) (v:Nat):ptrK g v (gR g.ports v).length=upI g v:=by
 rw[ptrK_fp g v _ (Nat.le_refl _),Nat.sub_self];rfl
theorem stC_len (g:G) (b:Bool):(stC g b).length=g.ports.length:=by simp[stC]
theorem stC_row (g:G) (b:Bool) {v:Nat} (hv:v<g.ports.length):gC (stC g b) v=[gI (dst g 0) v,upI g v,0,if b then 1 else 0]:=by
 rw[<- ptr_up];simp[gC,stC,List.getD,hv,rowK']
theorem stC_conf {g:G} (h:g.conn=true) (b:Bool):Conf pWav g (stC g b):=by
 obtain⟨h1,h2⟩:=conn_facts h;obtain⟨f1,f2,f3,f4,f5,f6,f7⟩:=val_facts h1;have hl:=stC_len g b;refine⟨by omega,fun v hv=>by rw[stC_row g b (by omega)];rfl,fun v hv x hx=>?_⟩;have hv':v<g.ports.length:=by omega
 rw[stC_row g b hv'];have d1:=h2 v hv';have d2:=dst_le g hv';have e0:bnd g (gV pWav.vars 0) v=(0,0+1*(g.ids.length:Int)+0*topI g):=rfl;have e1:bnd g (gV pWav.vars 1) v=(-1,((gR g.ports v).length:Int)-1):=rfl;have e2:bnd g (gV pWav.vars 2) v=(0,1):=rfl;have e3:bnd g (gV pWav.vars 3) v=(0,1):=rfl;have hu:-1<=upI g v/\upI g v<=((gR g.ports v).length:Int)-1:=by
  by_cases h0:v=0
  . subst h0;rw[up_root h];omega
  . have:=up_other h hv' h0;omega
 have hx4:x<4:=hx;rcases (show x=0\/x=1\/x=2\/x=3 by omega) with rfl|rfl|rfl|rfl
 . rw[e0];show 0<=gI (dst g 0) v/\gI (dst g 0) v<=_;omega
 . rw[e1];exact hu
 . rw[e2];exact⟨by show(0:Int)<=0;omega,by show(0:Int)<=1;omega⟩
 . rw[e3];show(0:Int)<=(if b then 1 else 0)/\(if b then 1 else 0)<=(1:Int);cases b<;>simp
theorem stC_tr {g:G} (h:g.conn=true) (b:Bool):TrC g (stC g b):=fun v hv=>by
 obtain⟨h1,h2⟩:=conn_facts h;obtain⟨f1,f2,f3,f4,f5,f6,f7⟩:=val_facts h1;rw[dg_int h hv];show gI (gC (stC g b) v) 0=_/\gI (gC (stC g b) v) 1=_;rw[stC_row g b (by omega)];exact⟨rfl,rfl⟩
theorem stC_s {g:G} (h:g.conn=true) (b:Bool) {v:Nat} (hv:v<g.ids.length):sW (stC g b) v=false/\bW (stC g b) v=b:=by
 obtain⟨h1,h2⟩:=conn_facts h;obtain⟨f1,f2,f3,f4,f5,f6,f7⟩:=val_facts h1;show one (stC g b) 2 v=false/\one (stC g b) 3 v=b;rw[one,one,stC_row g b (by omega)];refine⟨rfl,?_⟩;show decide ((if b then 1 else 0:Int)=1)=b;cases b<;>rfl
theorem stC_leg {g:G} (h:g.conn=true) (b:Bool):g.wleg (stC g b)=true :=
 (wleg_iff h (stC_conf h b)).2 ⟨stC_tr h b,fun v hv h0=>by
   obtain⟨i,hu⟩:=up_at h hv h0;exact .inr ⟨by rw[(stC_s h b hv).1,(stC_s h b hu.rng).1],by rw[(stC_s h b hv).2,(stC_s h b hu.rng).2]⟩⟩
theorem nb_none {p:Nat->Bool}:∀{n:Nat},(∀v,v<n->p v=false)->nb p n=0:=fun {n} hp=>by
 refine Nat.eq_of_testBit_eq fun i=>?_;rw[nb_bit,Nat.zero_testBit];by_cases h:i<n
 . rw[hp i h,Bool.and_false]
 . rw[decide_eq_false h,Bool.false_and]
theorem wact_conf {g:G} (h:g.conn=true) {c:Cf} (hc:Conf pWav g c):g.wact c=nb (sW c) g.ids.length:=by
 rw[G.wact,h,wconf_of hc,hc.len];rfl
theorem stC_act {g:G} (h:g.conn=true) (b:Bool):g.wact (stC g b)=0:=by
 rw[wact_conf h (stC_conf h b)];exact nb_none fun v hv=>(stC_s h b hv).1
open Go.Plain.Wave in
structure VI (g:G) (β:Bool) (m:Nat->Nat) (i:Nat) (x:Cf×Cnt):Prop where
 tr:TrC g x.1
 ph:Ph g.ids.length (parI g) β m (sW x.1) (bW x.1)
 vis:Vis g.ids.length (Dg g) g.ecc.toNat m (fun v=>x.2.pend.testBit v) x.2.rounds
 mv:x.2.moves=Go.Plain.sumN m g.ids.length
 st:x.2.steps=i
theorem sumN_zero:∀n,Go.Plain.sumN (fun _=>0) n=0
 | 0=>rfl
 | n+1=>by rw[Go.Plain.sumN,sumN_zero n]
theorem vi_start {g:G} (h:g.conn=true) (b:Bool):VI g b (fun _=>0) 0 (stC g b,cnt0 (enN pWav g (stC g b))):=by
 have hT:=treeC h;refine⟨stC_tr h b,Go.Plain.Wave.Ph.start (fun v hv=>(stC_s h b hv).1) (fun v hv=>(stC_s h b hv).2),Go.Plain.Wave.Vis.start hT ?_,(sumN_zero _).symm,rfl⟩;show(enN pWav g (stC g b)).testBit 0=true;rw[onW_en h (stC_conf h b) (stC_tr h b) hT.pos];show Go.Plain.Wave.en g.ids.length (parI g) (sW (stC g b)) (bW (stC g b)) 0;rw[Go.Plain.Wave.en,if_pos rfl];exact .inl (stC_s h b hT.pos).1
def sB (s:Nat):Nat->Bool:=fun v=>s.testBit v
theorem adv_sum (c:Nat->Bool) (m:Nat->Nat):∀n,Go.Plain.sumN (Go.Plain.Wave.adv c m) n=Go.Plain.sumN m n+Go.Plain.sumN (fun v=>if c v=true then 1 else 0) n
 | 0=>rfl
 | n+1=>by
   rw[Go.Plain.sumN,Go.Plain.sumN,Go.Plain.sumN,adv_sum c m n,Go.Plain.Wave.adv];split<;>omega
theorem vi_step {g:G} (h:g.conn=true) {β:Bool} {m:Nat->Nat} {i:Nat} {x y:Cf×Cnt} {s:Nat} (hst:StepAt pWav g 3 x s y) (hcy:Conf pWav g y.1) (hi:VI g β m i x) (h2:m 0≠2):VI g β (Go.Plain.Wave.adv (sB s) m) (i+1) y:=by
 obtain⟨h1,h3⟩:=conn_facts h;obtain⟨f1,f2,f3,f4,f5,f6,f7⟩:=val_facts h1;have hT:=treeC h;have hcx:=hst.conf;have hlt:∀v,s.testBit v=true->v<g.ids.length:=fun v hv=>by
  have hb:=hst.part v hv;rw[en_bit,Bool.and_eq_true,decide_eq_true_eq] at hb;exact hb.1
 have htr:TrC g y.1:=by rw[hst.cf];exact trW_step h hcx hi.tr hst.part
 have hch:Go.Plain.Wave.Ch g.ids.length (parI g) (sW x.1) (bW x.1) (sB s) (sW y.1) (bW y.1):=by rw[hst.cf];exact wav_ch h hcx hi.tr hst.part
 have hph:=hi.ph.step hT h2 hch (fun v hv=>(onW_en h hcx hi.tr (hlt v hv)).1 (hst.part v hv));have hle:=hi.ph.le;have hle':=hph.le;have hlf:∀v,v<g.ids.length->((lft x.2 s (enN pWav g y.1)).testBit v=true↔(x.2.pend.testBit v=true/\s.testBit v=false)/\(enN pWav g y.1).testBit v=true):=fun v hv=>by
  simp only[lft,Nat.testBit_and,ndiff_bit (show v<32 by omega),Bool.and_eq_true,Bool.not_eq_true']
 have hkeep:∀v,s.testBit v=false->Go.Plain.Wave.adv (sB s) m v=m v:=fun v hv=>by
  rw[Go.Plain.Wave.adv,sB,hv];simp
 have hge:∀v,m v<=Go.Plain.Wave.adv (sB s) m v:=fun v=>by rw[Go.Plain.Wave.adv];split<;>omega
 have hen':∀v,v<g.ids.length->Go.Plain.Wave.en g.ids.length (parI g) (sW y.1) (bW y.1) v->(enN pWav g y.1).testBit v=true:=fun v hv he=>(onW_en h hcy htr hv).2 he;have hvis:=hi.vis.step (p':=fun v=>(lft x.2 s (enN pWav g y.1)).testBit v) (c:=sB s) (fun v hv hs=>by
  have:=hle' v hv;rw[Go.Plain.Wave.adv,if_pos hs] at this;omega) (fun v hv hp hs=>by
  have hs':s.testBit v=false:=hs;refine⟨fun hd e=>?_,fun h1 hd e=>?_⟩
  . have e':=hkeep v hs';rw[e] at e';have hn2:Go.Plain.Wave.adv (sB s) m 0≠2:=fun q=>by have:=hph.all hT q _ v hv (Nat.le_refl _);omega
    refine(hlf v hv).2 ⟨⟨hp,hs'⟩,hen' v hv ((hph.en_iff hT hn2 hv).2 (.inl ⟨e',fun h0=>?_⟩))⟩;have hu:=hT.lt v hv h0;have a1:=hi.vis.out _ hu (by have:=hT.dep v hv h0;omega);have a2:=hge (parI g v);have a3:=hle' _ hu;have a4:=hph.dn v hv h0;omega
  . have e':=hkeep v hs';rw[e] at e';have hn2:Go.Plain.Wave.adv (sB s) m 0≠2:=fun q=>by have:=hph.all hT q _ v hv (Nat.le_refl _);omega
    refine(hlf v hv).2 ⟨⟨hp,hs'⟩,hen' v hv ((hph.en_iff hT hn2 hv).2 (.inr ⟨e',fun u hc=>?_⟩))⟩;have a1:=hT.dep u hc.1 hc.2.1;rw[hc.2.2] at a1;have a2:=hi.vis.back u hc.1 (by omega);have a3:=hge u;have a4:=hle' u hc.1;omega)
 have hcs:cnt s 32=Go.Plain.sumN (fun v=>if sB s v=true then 1 else 0) g.ids.length:=by
  show cnt s 32=Go.Plain.sumN (fun v=>if s.testBit v=true then 1 else 0) g.ids.length;rw[<- cnt_sumI,show(32:Nat)=g.ids.length+(32-g.ids.length) by omega,icnt_cut (ipart_lt hst.part)]
 have hmv:y.2.moves=x.2.moves+cnt s 32:=by rw[hst.cn,Cnt.add];split<;>rfl
 have hsteps:y.2.steps=x.2.steps+1:=by rw[hst.cn,Cnt.add];split<;>rfl
 refine⟨htr,hph,?_,by rw[hmv,hi.mv,hcs,adv_sum],by rw[hsteps,hi.st]⟩;by_cases hz:lft x.2 s (enN pWav g y.1)=0
 . have e:y.2=⟨x.2.steps+1,x.2.moves+cnt s 32,x.2.rounds+1,x.2.rounds+1,enN pWav g y.1⟩:=by rw[hst.cn,Cnt.add,if_pos hz]
   rw[e];by_cases hn2:Go.Plain.Wave.adv (sB s) m 0=2
   . have hall:=fun v hv=>hph.all hT hn2 _ v hv (Nat.le_refl (Dg g v));exact⟨fun v hv _=>by have:=hall v hv;omega,fun v hv _ e=>by have:=hall v hv;omega,fun v hv _=>hall v hv,fun v hv _ _ e=>by have:=hall v hv;omega⟩
   . exact hvis.next hT hph hn2 (fun v hv=>by simp only[hz];simp) hen'
 . have e:y.2=⟨x.2.steps+1,x.2.moves+cnt s 32,x.2.rounds,x.2.rounds+1,lft x.2 s (enN pWav g y.1)⟩:=by rw[hst.cn,Cnt.add,if_neg hz]
   rw[e];exact hvis
theorem vi_begun {g:G} (h:g.conn=true) {β:Bool} {m:Nat->Nat} {i:Nat} {x y:Cf×Cnt} {s:Nat} (hst:StepAt pWav g 3 x s y) (hi:VI g β m i x) (h2:m 0≠2):(y.2.begun:Int)<=2*g.ecc+2:=by
 have hb:=hi.vis.bound (treeC h) h2;obtain⟨e1,e2⟩:=ecc_range g h;have e:y.2.begun=x.2.rounds+1:=by rw[hst.cn,Cnt.add];split<;>rfl
 omega
def mvN (ch:List Nat):Nat->Nat->Nat
 | 0=>fun _=>0
 | i+1=>Go.Plain.Wave.adv (sB (ch.getD i 0)) (mvN ch i)
theorem sumN_lt {m:Nat->Nat} (h0:m 0≠2):∀{n:Nat},(∀v,v<n+1->m v<=2)->Go.Plain.sumN m (n+1)<=2*n+1
 | 0,h=>by have:=h 0 (by omega);rw[Go.Plain.sumN,Go.Plain.sumN];omega
 | n+1,h=>by have:=sumN_lt h0 (n:=n) (fun v hv=>h v (by omega));have:=h (n+1) (by omega);rw[Go.Plain.sumN];omega
theorem sumN_all {m:Nat->Nat}:∀{n:Nat},(∀v,v<n->m v=2)->Go.Plain.sumN m n=2*n
 | 0,_=>rfl
 | n+1,h=>by have:=sumN_all (n:=n) (fun v hv=>h v (by omega));have:=h n (by omega);rw[Go.Plain.sumN];omega
theorem chsL_end (p:Pr) (g:G) (k:Int):∀(ws:List Nat) (c:Cf) (n:Cnt),(chsL p g k c ws).length=ws.length\/enN p g (lastC (trc p g k c n ws))=0
 | [],c,n=>.inl rfl
 | w::ws,c,n=>by
   by_cases h0:enN p g c=0
   . right;rw[trc,if_pos h0];exact h0
   . rw[chsL,if_neg h0,trc,if_neg h0,lastC_cons _ (trc_ne p g k _ _ ws)];rcases chsL_end p g k ws (nxC p g k c w) (nxK p g k c n w) with e|e
     . left;rw[List.length_cons,List.length_cons,e]
     . exact .inr e
theorem vi_ends {g:G} (h:g.conn=true) {β:Bool} {m:Nat->Nat} {i:Nat} {x:Cf×Cnt} (hc:Conf pWav g x.1) (hk:x.2.Ok) (hi:VI g β m i x) (h2:m 0≠2):i<2*g.ids.length/\enN pWav g x.1≠0:=by
 have hT:=treeC h;have hp:=hT.pos;have e1:=hk.sm;have e2:=hi.mv;have e3:=hi.st;obtain⟨n,hn⟩:∃n,g.ids.length=n+1:=⟨g.ids.length-1,by omega⟩;have e4:=sumN_lt h2 (n:=n) (fun v hv=>hi.ph.le v (by omega));rw[<- hn] at e4;refine⟨by omega,fun e=>?_⟩;obtain⟨v,hv,he⟩:=hi.ph.some_en hT h2;have:=(onW_en h hc hi.tr hv).2 he;rw[e] at this;simp at this
theorem vi_moves {g:G} (h:g.conn=true) {β:Bool} {m:Nat->Nat} {i:Nat} {x y:Cf×Cnt} {s:Nat} (hst:StepAt pWav g 3 x s y) (hi:VI g β m i x) (hy:VI g β (Go.Plain.Wave.adv (sB s) m) (i+1) y) (h2:m 0≠2) {v:Nat} (hv:s.testBit v=true) :
 v<g.ids.length/\m v<=1/\sW y.1 v=decide (m v=0)/\(m v=0->v≠0->sW x.1 (parI g v)=true)/\(m v=1->∀u,u<g.ids.length->u≠0->parI g u=v->m u=2/\Go.Plain.Wave.adv (sB s) m u=2):=by
 have hT:=treeC h;have hb:=hst.part v hv;rw[en_bit,Bool.and_eq_true,decide_eq_true_eq] at hb;have hn:=hb.1;have he:=(hi.ph.en_iff hT h2 hn).1 ((onW_en h hst.conf hi.tr hn).1 (hst.part v hv));have ev:Go.Plain.Wave.adv (sB s) m v=m v+1:=by rw[Go.Plain.Wave.adv,if_pos (show sB s v=true from hv)]
 have a1:=hy.ph.le v hn;refine⟨hn,by omega,?_,fun e h0=>?_,fun e u hu h0 hp=>?_⟩
 . rw[hy.ph.s v hn,ev,decide_eq_decide];omega
 . rcases he with q|q
   . rw[hi.ph.s _ (hT.lt v hn h0),q.2 h0];rfl
   . omega
 . rcases he with q|q
   . omega
   . have q2:=q.2 u ⟨hu,h0,hp⟩;have q3:=hy.ph.le u hu;refine⟨q2,?_⟩;rw[Go.Plain.Wave.adv] at q3 ⊢;split at q3<;>simp_all
end Go.Proofs.YtpoplpohbpfbmaaGreatDoor
namespace Go.Proofs.YtpoplpohbpfbmaaGreatDoor
open Go.Eng
set_option maxRecDepth 100000
set_option linter.unusedVariables false
theorem vWl_lo' (x:Nat):0<=(gV vWv x).lo/\(gV vWv x).lo<=1000:=by
 rcases x with _|_|_|_|x
 . exact⟨by decide,by decide⟩
 . exact⟨by decide,by decide⟩
 . exact⟨by decide,by decide⟩
 . exact⟨by decide,by decide⟩
 . have:gV vWv (x+4)=default:=by simp[gV,vWv,List.getD]
   rw[this];exact⟨by decide,by decide⟩
def mvF (m:Nat->Nat):Nat->Nat->V:=fun u _=>.int .i64 (m u:Nat)
def mvC (m:Nat->Nat) (s v:Nat):Nat->Nat:=fun u=>if u<v then Go.Plain.Wave.adv (sB s) m u else m u
theorem mvC_zero (m:Nat->Nat) (s:Nat):mvC m s 0=m:=by funext u;simp[mvC]
theorem mvC_end {m:Nat->Nat} {s n u:Nat} (hu:u<n):mvC m s n u=Go.Plain.Wave.adv (sB s) m u:=by simp[mvC,hu]
theorem mvC_at (m:Nat->Nat) (s v:Nat):mvC m s v v=m v:=by simp[mvC]
theorem mvC_skip {m:Nat->Nat} {s v:Nat} (h:s.testBit v=false) (u:Nat):mvC m s (v+1) u=mvC m s v u:=by
 simp only[mvC];by_cases e:u=v
 . subst e;simp[Go.Plain.Wave.adv,sB,h]
 . by_cases e2:u<v
   . rw[if_pos e2,if_pos (by omega)]
   . rw[if_neg e2,if_neg (by omega)]
theorem mvC_hit {m:Nat->Nat} {s v:Nat} (h:s.testBit v=true) (u:Nat):mvC m s (v+1) u=if u=v then m v+1 else mvC m s v u:=by
 simp only[mvC];by_cases e:u=v
 . subst e;simp[Go.Plain.Wave.adv,sB,h]
 . rw[if_neg e];by_cases e2:u<v
   . rw[if_pos e2,if_pos (by omega)]
   . rw[if_neg e2,if_neg (by omega)]
theorem mvC_two {m:Nat->Nat} {s v u:Nat} (h1:m u=2) (h2:Go.Plain.Wave.adv (sB s) m u=2):mvC m s v u=2:=by
 simp only[mvC];split<;>assumption
theorem hasB_of {s:Nat} {v:Nat} (hv:v<32):hasB s (v:Int)=s.testBit v:=by
 rw[hasB,decide_eq_true (by omega),Bool.true_and,Int.toNat_natCast]
theorem bitW_ok (s:Nat) (hs:s<4294967296) (v:Nat) (hv:v<32):Ret Tryz.prog 13 [.int .u32 s,.int .i64 v] (.bool (s.testBit v)):=by
 rw[<- hasB_of hv];exact bit_ok s hs v
theorem mv_start (ch:List Nat) (i j:Nat) (hj:j<1):VLe ((fun _ j=>[V.int IntKind.i64 0].getD j default:Nat->Nat->V) i j) (mvF (mvN ch 0) i j):=by
 obtain rfl:j=0:=by omega
 exact VLe.of_eq rfl
theorem mvN_zero (ch:List Nat):mvN ch 0 0≠2:=by simp[mvN]
theorem mvN_succ (ch:List Nat) (i:Nat):mvN ch (i+1)=Go.Plain.Wave.adv (sB (ch.getD i 0)) (mvN ch i):=rfl
theorem mvF_ext {m m':Nat->Nat} {n:Nat} (h:∀u,u<n->m u=m' u) (i j:Nat) (hi:i<n):VLe (mvF m i j) (mvF m' i j):=VLe.of_eq (by rw[mvF,mvF,h i hi])
theorem mvF_hit {m:Nat->Nat} {s v:Nat} (h:s.testBit v=true) (x:Int) (hx:x=(m v:Nat)+1) (i j:Nat) (hj:j<1):VLe (fset (mvF (mvC m s v)) (0+v) 0 [V.int IntKind.i64 x] i j) (mvF (mvC m s (v+1)) i j):=by
 obtain rfl:j=0:=by omega
 apply VLe.of_eq;simp only[mvF,mvC_hit h,Nat.zero_add];by_cases e:i=v
 . subst e;simp[fset,hx]
 . simp[fset,e,mvF]
set_option maxHeartbeats 16000000 in
theorem lawWVisits (x:Net) (hx:x.Small) (b:Bool) (wi:List Int) (hwi:wi.length<=9223372036854775807) :
 RG 3 [x.v,.bool b,.fz wi.length 1 false (vUI wi)] (.bool true):=by
 have h0:=connected_ok x hx 7 (by omega) (by omega);have hgc:=con_conn x (most:=7) (by omega) (by omega);generalize x.con 7=g at *;obtain⟨hg,_⟩:=conn_facts hgc;obtain⟨f1,f2,f3,f4,f5,f6,f7⟩:=val_facts hg;have hs:=valid_small hg;have hsta:=start_ok g hs hg b wvars_ok vWl_lo';have hc:=stC_conf hgc b;have hlg:Ret Tryz.prog 11 [g.v,cV (stC g b)] (.bool true):=by rw[<- stC_leg hgc b];exact wlegit_ok g hs _ (csmall_of wav_prOk hg hc)
 have hac:Ret Tryz.prog 12 [g.v,cV (stC g b)] (.int .u32 (0:Nat)):=by rw[<- stC_act hgc b];exact wactive_ok g hs _ (csmall_of wav_prOk hg hc)
 have hrw:∀v,v<g.ports.length->(gC (stC g b) v).length=4/\gI (gC (stC g b) v) 1=upI g v:=fun v hv=>by rw[stC_row g b hv];exact⟨rfl,rfl⟩
 have hvi0:=vi_start hgc b;have hcl:=stC_len g b;generalize stC g b=c at *;have hk:=known35_ok;have htx:=text_ok;have hpr:=program_ok;have hec:=recc_ok g hs hgc;obtain⟨ec1,ec2⟩:=ecc_range g hgc;have hwi:=wishes_ok wi hwi (2*g.ports.length) (by omega);rw[show((2*g.ports.length:Nat):Int)=2*(g.ports.length:Int) by omega] at hwi;have hwl:=wsL_len wi (2*g.ports.length);have hwlt:=wsL_lt wi (2*g.ports.length);generalize wsL wi (2*g.ports.length)=ws at *;have hfo:=follow_ok pWav wav_prOk g hs hg 3 (by decide) c hc ws (by omega) hwlt;rw[folV,trcV] at hfo;have hrun:=wrun_ok txtB pWav wav_prOk program_ok g hs hg 3 (by decide) c hc ws (by omega) hwlt;have hall:=trc_all wav_prOk hg (k:=3) (by decide) ws c (cnt0 (enN pWav g c)) hc (cnt0_ok (en_24 _ hg c)) (by simp only[cnt0];omega);have hne:=trc_ne pWav g 3 c (cnt0 (enN pWav g c)) ws;have hlen:=trc_len pWav g 3 ws c (cnt0 (enN pWav g c));have hcn:=chsL_len pWav g 3 ws c (cnt0 (enN pWav g c));have hend:=chsL_end pWav g 3 ws c (cnt0 (enN pWav g c));have hzero:=trc_zero pWav g 3 c (cnt0 (enN pWav g c)) ws;have hstep:=fun i=>trc_step wav_prOk hg (k:=3) (by decide) ws c (cnt0 (enN pWav g c)) i hc (cnt0_ok (en_24 _ hg c)) (by simp only[cnt0];omega);rw[<- hzero] at hvi0;have hlast:=gT_last hne;generalize ensL pWav g (trc pWav g 3 c (cnt0 (enN pWav g c)) ws)=en at *;generalize lastC (trc pWav g 3 c (cnt0 (enN pWav g c)) ws)=lc at *;generalize ((trc pWav g 3 c (cnt0 (enN pWav g c)) ws).getLast?.getD default).2=lk at *;generalize trc pWav g 3 c (cnt0 (enN pWav g c)) ws=T at *;generalize chsL pWav g 3 c ws=ch at *;have hids:g.ids.length=g.ports.length:=f3.symm;have hcid:c.length=g.ports.length:=hcl;refine ret_frzG rfl ?_;refine fn_rule mixed Tryz.func3 rfl hc3 hr3 rfl ?_
 repeat' ((conv=>whnf);first|(refine Br.tt ?_)|(refine Br.ff ?_)|(refine Br.bne ?_ ?_<;>intro _<;>try omega)|(refine Ar.i64 (by omega) (by omega) ?_)|(refine Bd.nat (by omega) ?_)|(refine Len.mk (by omega) ?_)|(refine MkS.vec ?_)|(refine h0.go ?_)|(refine hsta.go ?_)|(refine hlg.go ?_)|(refine hac.go ?_)|(refine htx.go ?_)|(refine hpr.go ?_)|(refine hwi.go ?_)|(refine hfo.gog ?_)|(refine hrun.gog ?_)|(refine And.intro rfl ?_))
 all_goals (conv=>whnf)
 refine loop_u mixed [] [] [4,5,6,7,8,9,10,11,12,13,14,15,16,17,18,19,20,21,22,23,24,25,26,27,28,29] [3,2,1,0,999] (fun i:Nat=>[(16,.int .i64 i),(7,.loc 1 0),(8,.int .i64 g.ports.length),(9,cV c),(10,.loc 2 0),(12,.fz T.length 1 false (vCfs T)),(13,.fz T.length 5 false (vKs T)),(15,.vec 3 1 0 g.ports.length)]) (fun _ i=>[(3,.vec g.ports.length 1 (mvF (mvN ch i))),(2,.cells [.fz ch.length 1 false (vU7 ch),.fz en.length 1 false (vU7 en),cV lc,.int .i64 lk.steps,.int .i64 lk.moves,.int .i64 lk.rounds,.int .i64 lk.begun,.int .u32 lk.pend]),(1,.cells [.fz g.ids.length 1 false (vI g.ids),.fz g.ports.length 1 false (vP g.ports)]),(0,.cells [.int .i64 x.n,.fz x.links.length 1 false (vI x.links),.fz x.weights.length 1 false (vI x.weights),.fz x.ids.length 1 false (vI x.ids),.bool x.apart,.bool x.back]),(999,.glob 0 32 tzF)]) (fun m i=>m=ch.length-i/\i<=ch.length/\VI g b (mvN ch i) i (gT T i)/\mvN ch i 0≠2) ch.length 0 ⟨rfl,Nat.zero_le _,hvi0,mvN_zero ch⟩ rfl (fun _=>rfl) ?_ ?_
 . refine weak_by (fun _ _=>[(0,some 0),(1,some 1),(2,some 2),(3,some 3),(999,some 999)]) ?_ ?_ rfl
   . repeat' (first|exact True.intro|(refine⟨⟨_,rfl,?_⟩,?_⟩)|exact VRen.kf rfl|exact VRen.loc rfl|exact VRen.vec rfl rfl rfl)
   . repeat' (first|exact mv_start _ _ _ hj|exact True.intro|exact⟨rfl,rfl,rfl⟩|(refine⟨⟨_,rfl,?_⟩,?_⟩)|exact VRen.kf rfl|(refine⟨Nat.le_refl _,rfl,fun i j hi hj=>?_⟩)|(refine And.intro ?_ ?_))
 rintro m i ⟨hm,hi,hvi,h2⟩;by_cases hil:i<ch.length
 . have hst:=hstep i (by omega);have hci:=hst.conf;have hcj:=(hall _ (gT_mem (i:=i+1) (by omega))).1;have hkj:=(hall _ (gT_mem (i:=i+1) (by omega))).2;have hnx:=vi_step hgc hst hcj hvi h2;have hbg:=vi_begun hgc hst hvi h2;have hcb:ch.length<=100:=by omega
   have hmov:=fun v hv=>vi_moves hgc hst hvi hnx h2 (v:=v) hv;have hml:=hvi.ph.le;have hsl:=hst.lt;have ha1:Ret Tryz.prog 12 [g.v,cV (gT T i).1] (.int .u32 (nb (sW (gT T i).1) g.ids.length:Nat)):=by rw[<- wact_conf hgc hci];exact wactive_ok g hs _ (csmall_of wav_prOk hg hci)
   have ha2:Ret Tryz.prog 12 [g.v,cV (gT T (i+1)).1] (.int .u32 (nb (sW (gT T (i+1)).1) g.ids.length:Nat)):=by rw[<- wact_conf hgc hcj];exact wactive_ok g hs _ (csmall_of wav_prOk hg hcj)
   have hb1:nb (sW (gT T i).1) g.ids.length<4294967296:=by have:=nb_pow (sW (gT T i).1) g.ids.length;have:=Nat.pow_le_pow_right (show 0<2 by omega) (show g.ids.length<=24 by omega);omega
   have hb2:nb (sW (gT T (i+1)).1) g.ids.length<4294967296:=by have:=nb_pow (sW (gT T (i+1)).1) g.ids.length;have:=Nat.pow_le_pow_right (show 0<2 by omega) (show g.ids.length<=24 by omega);omega
   rw[<- mvN_succ] at hnx hmov
   repeat' ((conv=>whnf);first|(refine Br.dec ?_ ?_<;>intro _<;>try omega)|(refine Ar.i64 (by omega) (by omega) ?_)|(refine Ix.nat (by omega) ?_)|(refine Ix.int (by omega) (by omega) ?_)|(refine ha1.go ?_)|(refine ha2.go ?_)|(refine And.intro rfl ?_))
   all_goals (conv=>whnf)
   refine loop_u mixed [] [] [4,5,6,7,8,9,10,11,12,13,14,15,16,17,18,19,20,21,22,23,24,25,26,27,28,29] [3,2,1,0,999] (fun v:Nat=>[(19,.int .i64 v),(7,.loc 1 0),(8,.int .i64 g.ports.length),(9,cV c),(10,.loc 2 0),(12,.fz T.length 1 false (vCfs T)),(13,.fz T.length 5 false (vKs T)),(15,.vec 3 1 0 g.ports.length),(16,.int .i64 i),(17,.int .u32 (nb (sW (gT T i).1) g.ids.length:Nat)),(18,.int .u32 (nb (sW (gT T (i+1)).1) g.ids.length:Nat))]) (fun _ v=>[(3,.vec g.ports.length 1 (mvF (mvC (mvN ch i) (ch.getD i 0) v))),(2,.cells [.fz ch.length 1 false (vU7 ch),.fz en.length 1 false (vU7 en),cV lc,.int .i64 lk.steps,.int .i64 lk.moves,.int .i64 lk.rounds,.int .i64 lk.begun,.int .u32 lk.pend]),(1,.cells [.fz g.ids.length 1 false (vI g.ids),.fz g.ports.length 1 false (vP g.ports)]),(0,.cells [.int .i64 x.n,.fz x.links.length 1 false (vI x.links),.fz x.weights.length 1 false (vI x.weights),.fz x.ids.length 1 false (vI x.ids),.bool x.apart,.bool x.back]),(999,.glob 0 32 tzF)]) (fun m v=>m=g.ports.length-v/\v<=g.ports.length) g.ports.length 0 ⟨rfl,Nat.zero_le _⟩ rfl (fun _=>rfl) ?_ ?_
   . refine weak_by (fun _ _=>[(0,some 0),(1,some 1),(2,some 2),(3,some 3),(999,some 999)]) ?_ ?_ rfl
     . repeat' (first|exact True.intro|(refine⟨⟨_,rfl,?_⟩,?_⟩)|exact VRen.kf rfl|exact VRen.loc rfl|exact VRen.vec rfl rfl rfl)
     . repeat' (first|exact VLe.of_eq (by rw[mvC_zero])|exact True.intro|exact⟨rfl,rfl,rfl⟩|(refine⟨⟨_,rfl,?_⟩,?_⟩)|exact VRen.kf rfl|(refine⟨Nat.le_refl _,rfl,fun i j hi hj=>?_⟩)|(refine And.intro ?_ ?_))
   rintro m3 v ⟨hm3,hv⟩;by_cases hvn:v<g.ports.length
   . clear h0 hsta hlg hac hk htx hpr hec hwi hfo hrun hall hend hstep hlast hvi0 hzero hwl hwlt hlen hne hvi hbg hst hci hcj hkj hml ha1 ha2 ec1 ec2 h2 f1 f4 f5 f6 f7 hm hnx;have hbv:=bitW_ok (ch.getD i 0) (by omega) v (by omega);cases hbit:(ch.getD i 0).testBit v with
     | false =>
       rw[hbit] at hbv
       repeat' ((conv=>whnf);first|(refine Br.ff ?_)|(refine Br.dec ?_ ?_<;>intro _<;>try omega)|(refine Ar.i64 (by omega) (by omega) ?_)|(refine Ix.nat (by omega) ?_)|(refine hbv.go ?_))
       all_goals (conv=>whnf)
       refine⟨g.ports.length-(v+1),v+1,by omega,⟨rfl,by omega⟩,?_⟩;refine weak_by (fun _ _=>[(0,some 0),(1,some 1),(2,some 2),(3,some 3),(999,some 999)]) ?_ ?_ rfl
       . repeat' (first|exact True.intro|(refine⟨⟨_,rfl,?_⟩,?_⟩)|exact VRen.kf rfl|exact VRen.loc rfl|exact VRen.vec rfl rfl rfl)
       . repeat' (first|exact mvF_ext (fun u hu=>(mvC_skip hbit u).symm) _ _ hi|exact True.intro|exact⟨rfl,rfl,rfl⟩|(refine⟨⟨_,rfl,?_⟩,?_⟩)|exact VRen.kf rfl|(refine⟨Nat.le_refl _,rfl,fun i j hi hj=>?_⟩)|(refine And.intro ?_ ?_))
     | true =>
       rw[hbit] at hbv;obtain⟨e1,e2,e3,e4,e5⟩:=hmov v hbit;obtain⟨r1,r2⟩:=hrw v hvn;have r2':gI (gC c v) (Int.toNat 1)=upI g v:=r2;have hba:=bitW_ok (nb (sW (gT T (i+1)).1) g.ids.length) hb2 v (by omega);rw[nb_bit,decide_eq_true e1,Bool.true_and,e3] at hba;have hat:mvC (mvN ch i) (ch.getD i 0) v (0+v)=mvN ch i v:=by rw[Nat.zero_add];exact mvC_at _ _ _
       rcases (show mvN ch i v=0\/mvN ch i v=1 by omega) with hz|hz
       . rw[hz,decide_eq_true (by decide)] at hba;by_cases h0:v=0
         . have hu0:upI g v=-1:=by rw[h0];exact up_root hgc
           repeat' ((conv=>whnf);first|(refine Br.tt ?_)|(refine Br.ff ?_)|(refine Br.dec ?_ ?_<;>intro _<;>try omega)|(refine Ix.nat (by omega) ?_)|(refine Ix.mk 1 rfl (by omega) ?_)|(refine Ltn.mk (by omega) ?_)|(refine hbv.go ?_)|(refine hba.go ?_)|(refine And.intro (Ltn.mk (by omega) rfl) ?_))
           all_goals (conv=>whnf)
           refine loop_u mixed [] [] [4,5,6,7,8,9,10,11,12,13,14,15,16,17,18,19,20,21,22,23,24,25,26,27,28,29] [3,2,1,0,999] (fun u:Nat=>[(21,.int .i64 u),(19,.int .i64 v),(7,.loc 1 0),(8,.int .i64 g.ports.length),(9,cV c),(10,.loc 2 0),(12,.fz T.length 1 false (vCfs T)),(13,.fz T.length 5 false (vKs T)),(15,.vec 3 1 0 g.ports.length),(16,.int .i64 i),(17,.int .u32 (nb (sW (gT T i).1) g.ids.length:Nat)),(18,.int .u32 (nb (sW (gT T (i+1)).1) g.ids.length:Nat))]) (fun _ u=>[(3,.vec g.ports.length 1 (mvF (mvC (mvN ch i) (ch.getD i 0) v))),(2,.cells [.fz ch.length 1 false (vU7 ch),.fz en.length 1 false (vU7 en),cV lc,.int .i64 lk.steps,.int .i64 lk.moves,.int .i64 lk.rounds,.int .i64 lk.begun,.int .u32 lk.pend]),(1,.cells [.fz g.ids.length 1 false (vI g.ids),.fz g.ports.length 1 false (vP g.ports)]),(0,.cells [.int .i64 x.n,.fz x.links.length 1 false (vI x.links),.fz x.weights.length 1 false (vI x.weights),.fz x.ids.length 1 false (vI x.ids),.bool x.apart,.bool x.back]),(999,.glob 0 32 tzF)]) (fun m u=>m=g.ports.length-u/\u<=g.ports.length) g.ports.length 0 ⟨rfl,Nat.zero_le _⟩ rfl (fun _=>rfl) ?_ ?_
           . exact weak_b (fun _ _=>[(0,some 0),(1,some 1),(2,some 2),(3,some 3),(999,some 999)])
           rintro m4 u ⟨hm4,hu4⟩
           repeat' ((conv=>whnf);first|(refine Br.dec ?_ ?_<;>intro _<;>try omega)|(refine Ar.i64 (by omega) (by omega) ?_)|(refine Ix.nat (by omega) ?_)|(refine Ltn.mk (by omega) ?_))
           all_goals (conv=>whnf)
           all_goals
            refine⟨g.ports.length-(v+1),v+1,by omega,⟨rfl,by omega⟩,?_⟩;refine weak_by (fun _ _=>[(0,some 0),(1,some 1),(2,some 2),(3,some 3),(999,some 999)]) ?_ ?_ rfl
            . repeat' (first|exact True.intro|(refine⟨⟨_,rfl,?_⟩,?_⟩)|exact VRen.kf rfl|exact VRen.loc rfl|exact VRen.vec rfl rfl rfl)
            . repeat' (first|exact mvF_hit hbit _ (by omega) _ _ hj|exact True.intro|exact⟨rfl,rfl,rfl⟩|(refine⟨⟨_,rfl,?_⟩,?_⟩)|exact VRen.kf rfl|(refine⟨Nat.le_refl _,rfl,fun i j hi hj=>?_⟩)|(refine And.intro ?_ ?_))
         . obtain⟨p,hu⟩:=up_at hgc (by omega:v<g.ids.length) h0;have hpl:=hu.lt;have hpe:=hu.up;have hpp:=hu.par;have hpr:=hu.rng;have hbp:=bitW_ok (nb (sW (gT T i).1) g.ids.length) hb1 (parI g v) (by omega);rw[nb_bit,decide_eq_true hpr,Bool.true_and,e4 hz h0,<- hpp] at hbp
           repeat' ((conv=>whnf);first|(refine Ix.mk p (by omega) (by omega) ?_)|(refine Br.tt ?_)|(refine Br.ff ?_)|(refine Br.dec ?_ ?_<;>intro _<;>try omega)|(refine Ix.nat (by omega) ?_)|(refine Ix.mk 1 rfl (by omega) ?_)|(refine Ltn.mk (by omega) ?_)|(refine hbv.go ?_)|(refine hba.go ?_)|(refine hbp.go ?_)|(refine And.intro (Ltn.mk (by omega) rfl) ?_))
           all_goals (conv=>whnf)
           refine loop_u mixed [] [] [4,5,6,7,8,9,10,11,12,13,14,15,16,17,18,19,20,21,22,23,24,25,26,27,28,29] [3,2,1,0,999] (fun u:Nat=>[(21,.int .i64 u),(19,.int .i64 v),(7,.loc 1 0),(8,.int .i64 g.ports.length),(9,cV c),(10,.loc 2 0),(12,.fz T.length 1 false (vCfs T)),(13,.fz T.length 5 false (vKs T)),(15,.vec 3 1 0 g.ports.length),(16,.int .i64 i),(17,.int .u32 (nb (sW (gT T i).1) g.ids.length:Nat)),(18,.int .u32 (nb (sW (gT T (i+1)).1) g.ids.length:Nat))]) (fun _ u=>[(3,.vec g.ports.length 1 (mvF (mvC (mvN ch i) (ch.getD i 0) v))),(2,.cells [.fz ch.length 1 false (vU7 ch),.fz en.length 1 false (vU7 en),cV lc,.int .i64 lk.steps,.int .i64 lk.moves,.int .i64 lk.rounds,.int .i64 lk.begun,.int .u32 lk.pend]),(1,.cells [.fz g.ids.length 1 false (vI g.ids),.fz g.ports.length 1 false (vP g.ports)]),(0,.cells [.int .i64 x.n,.fz x.links.length 1 false (vI x.links),.fz x.weights.length 1 false (vI x.weights),.fz x.ids.length 1 false (vI x.ids),.bool x.apart,.bool x.back]),(999,.glob 0 32 tzF)]) (fun m u=>m=g.ports.length-u/\u<=g.ports.length) g.ports.length 0 ⟨rfl,Nat.zero_le _⟩ rfl (fun _=>rfl) ?_ ?_
           . exact weak_b (fun _ _=>[(0,some 0),(1,some 1),(2,some 2),(3,some 3),(999,some 999)])
           rintro m4 u ⟨hm4,hu4⟩
           repeat' ((conv=>whnf);first|(refine Br.dec ?_ ?_<;>intro _<;>try omega)|(refine Ar.i64 (by omega) (by omega) ?_)|(refine Ix.nat (by omega) ?_)|(refine Ltn.mk (by omega) ?_))
           all_goals (conv=>whnf)
           all_goals
            refine⟨g.ports.length-(v+1),v+1,by omega,⟨rfl,by omega⟩,?_⟩;refine weak_by (fun _ _=>[(0,some 0),(1,some 1),(2,some 2),(3,some 3),(999,some 999)]) ?_ ?_ rfl
            . repeat' (first|exact True.intro|(refine⟨⟨_,rfl,?_⟩,?_⟩)|exact VRen.kf rfl|exact VRen.loc rfl|exact VRen.vec rfl rfl rfl)
            . repeat' (first|exact mvF_hit hbit _ (by omega) _ _ hj|exact True.intro|exact⟨rfl,rfl,rfl⟩|(refine⟨⟨_,rfl,?_⟩,?_⟩)|exact VRen.kf rfl|(refine⟨Nat.le_refl _,rfl,fun i j hi hj=>?_⟩)|(refine And.intro ?_ ?_))
       . rw[hz,decide_eq_false (by decide)] at hba;by_cases h0:v=0
         . have hu0:upI g v=-1:=by rw[h0];exact up_root hgc
           repeat' ((conv=>whnf);first|(refine Br.tt ?_)|(refine Br.ff ?_)|(refine Br.dec ?_ ?_<;>intro _<;>try omega)|(refine Ix.nat (by omega) ?_)|(refine Ix.mk 1 rfl (by omega) ?_)|(refine Ltn.mk (by omega) ?_)|(refine hbv.go ?_)|(refine hba.go ?_)|(refine And.intro (Ltn.mk (by omega) rfl) ?_))
           all_goals (conv=>whnf)
           refine loop_u mixed [] [] [4,5,6,7,8,9,10,11,12,13,14,15,16,17,18,19,20,21,22,23,24,25,26,27,28,29] [3,2,1,0,999] (fun u:Nat=>[(21,.int .i64 u),(19,.int .i64 v),(7,.loc 1 0),(8,.int .i64 g.ports.length),(9,cV c),(10,.loc 2 0),(12,.fz T.length 1 false (vCfs T)),(13,.fz T.length 5 false (vKs T)),(15,.vec 3 1 0 g.ports.length),(16,.int .i64 i),(17,.int .u32 (nb (sW (gT T i).1) g.ids.length:Nat)),(18,.int .u32 (nb (sW (gT T (i+1)).1) g.ids.length:Nat))]) (fun _ u=>[(3,.vec g.ports.length 1 (mvF (mvC (mvN ch i) (ch.getD i 0) v))),(2,.cells [.fz ch.length 1 false (vU7 ch),.fz en.length 1 false (vU7 en),cV lc,.int .i64 lk.steps,.int .i64 lk.moves,.int .i64 lk.rounds,.int .i64 lk.begun,.int .u32 lk.pend]),(1,.cells [.fz g.ids.length 1 false (vI g.ids),.fz g.ports.length 1 false (vP g.ports)]),(0,.cells [.int .i64 x.n,.fz x.links.length 1 false (vI x.links),.fz x.weights.length 1 false (vI x.weights),.fz x.ids.length 1 false (vI x.ids),.bool x.apart,.bool x.back]),(999,.glob 0 32 tzF)]) (fun m u=>m=g.ports.length-u/\u<=g.ports.length) g.ports.length 0 ⟨rfl,Nat.zero_le _⟩ rfl (fun _=>rfl) ?_ ?_
           . exact weak_b (fun _ _=>[(0,some 0),(1,some 1),(2,some 2),(3,some 3),(999,some 999)])
           rintro m4 u ⟨hm4,hu4⟩;by_cases hun:u<g.ports.length
           . obtain⟨q1,q2⟩:=hrw u hun;have q2':gI (gC c u) (Int.toNat 1)=upI g u:=q2;by_cases hu0:u=0
             . have q3:upI g u=-1:=by rw[hu0];exact up_root hgc
               repeat' ((conv=>whnf);first|(refine Br.dec ?_ ?_<;>intro _<;>try omega)|(refine Ar.i64 (by omega) (by omega) ?_)|(refine Ix.nat (by omega) ?_)|(refine Ix.mk 1 rfl (by omega) ?_)|(refine Ltn.mk (by omega) ?_))
               all_goals (conv=>whnf)
               all_goals
                refine⟨g.ports.length-(u+1),u+1,by omega,⟨rfl,by omega⟩,?_⟩;exact weak_b (fun _ _=>[(0,some 0),(1,some 1),(2,some 2),(3,some 3),(999,some 999)])
             . obtain⟨d,hd⟩:=up_at hgc (by omega:u<g.ids.length) hu0;have d1:=hd.lt;have d2:=hd.up;have d3:=hd.par;have d4:parI g u=v->mvC (mvN ch i) (ch.getD i 0) v (0+u)=2:=fun e=>by rw[Nat.zero_add];exact mvC_two (e5 hz u (by omega) hu0 e).1 (by rw[<- mvN_succ];exact(e5 hz u (by omega) hu0 e).2)
               by_cases d5:parI g u=v
               . have d6:=d4 d5;clear d4
                 repeat' ((conv=>whnf);first|(refine Ix.mk d (by omega) (by omega) ?_)|(refine Br.dec ?_ ?_<;>intro _<;>try omega)|(refine Br.bne ?_ ?_<;>intro _<;>try omega)|(refine Ar.i64 (by omega) (by omega) ?_)|(refine Ix.nat (by omega) ?_)|(refine Ix.mk 1 rfl (by omega) ?_)|(refine Ltn.mk (by omega) ?_))
                 all_goals (conv=>whnf)
                 all_goals
                  refine⟨g.ports.length-(u+1),u+1,by omega,⟨rfl,by omega⟩,?_⟩;exact weak_b (fun _ _=>[(0,some 0),(1,some 1),(2,some 2),(3,some 3),(999,some 999)])
               . have d6:=trivial;clear d4
                 repeat' ((conv=>whnf);first|(refine Ix.mk d (by omega) (by omega) ?_)|(refine Br.dec ?_ ?_<;>intro _<;>try omega)|(refine Ar.i64 (by omega) (by omega) ?_)|(refine Ix.nat (by omega) ?_)|(refine Ix.mk 1 rfl (by omega) ?_)|(refine Ltn.mk (by omega) ?_))
                 all_goals (conv=>whnf)
                 all_goals
                  refine⟨g.ports.length-(u+1),u+1,by omega,⟨rfl,by omega⟩,?_⟩;exact weak_b (fun _ _=>[(0,some 0),(1,some 1),(2,some 2),(3,some 3),(999,some 999)])
           . repeat' ((conv=>whnf);first|(refine Br.dec ?_ ?_<;>intro _<;>try omega)|(refine Ar.i64 (by omega) (by omega) ?_)|(refine Ix.nat (by omega) ?_)|(refine Ltn.mk (by omega) ?_))
             all_goals (conv=>whnf)
             all_goals
              refine⟨g.ports.length-(v+1),v+1,by omega,⟨rfl,by omega⟩,?_⟩;refine weak_by (fun _ _=>[(0,some 0),(1,some 1),(2,some 2),(3,some 3),(999,some 999)]) ?_ ?_ rfl
              . repeat' (first|exact True.intro|(refine⟨⟨_,rfl,?_⟩,?_⟩)|exact VRen.kf rfl|exact VRen.loc rfl|exact VRen.vec rfl rfl rfl)
              . repeat' (first|exact mvF_hit hbit _ (by omega) _ _ hj|exact True.intro|exact⟨rfl,rfl,rfl⟩|(refine⟨⟨_,rfl,?_⟩,?_⟩)|exact VRen.kf rfl|(refine⟨Nat.le_refl _,rfl,fun i j hi hj=>?_⟩)|(refine And.intro ?_ ?_))
         . obtain⟨p,hu⟩:=up_at hgc (by omega:v<g.ids.length) h0;have hpl:=hu.lt;have hpe:=hu.up;have hpp:=hu.par;have hpr:=hu.rng;have hbp:=bitW_ok (nb (sW (gT T i).1) g.ids.length) hb1 (parI g v) (by omega);rw[nb_bit,decide_eq_true hpr,Bool.true_and,<- hpp] at hbp
           repeat' ((conv=>whnf);first|(refine Ix.mk p (by omega) (by omega) ?_)|(refine Br.tt ?_)|(refine Br.ff ?_)|(refine Br.dec ?_ ?_<;>intro _<;>try omega)|(refine Ix.nat (by omega) ?_)|(refine Ix.mk 1 rfl (by omega) ?_)|(refine Ltn.mk (by omega) ?_)|(refine hbv.go ?_)|(refine hba.go ?_)|(refine And.intro (Ltn.mk (by omega) rfl) ?_))
           all_goals (conv=>whnf)
           refine loop_u mixed [] [] [4,5,6,7,8,9,10,11,12,13,14,15,16,17,18,19,20,21,22,23,24,25,26,27,28,29] [3,2,1,0,999] (fun u:Nat=>[(21,.int .i64 u),(19,.int .i64 v),(7,.loc 1 0),(8,.int .i64 g.ports.length),(9,cV c),(10,.loc 2 0),(12,.fz T.length 1 false (vCfs T)),(13,.fz T.length 5 false (vKs T)),(15,.vec 3 1 0 g.ports.length),(16,.int .i64 i),(17,.int .u32 (nb (sW (gT T i).1) g.ids.length:Nat)),(18,.int .u32 (nb (sW (gT T (i+1)).1) g.ids.length:Nat))]) (fun _ u=>[(3,.vec g.ports.length 1 (mvF (mvC (mvN ch i) (ch.getD i 0) v))),(2,.cells [.fz ch.length 1 false (vU7 ch),.fz en.length 1 false (vU7 en),cV lc,.int .i64 lk.steps,.int .i64 lk.moves,.int .i64 lk.rounds,.int .i64 lk.begun,.int .u32 lk.pend]),(1,.cells [.fz g.ids.length 1 false (vI g.ids),.fz g.ports.length 1 false (vP g.ports)]),(0,.cells [.int .i64 x.n,.fz x.links.length 1 false (vI x.links),.fz x.weights.length 1 false (vI x.weights),.fz x.ids.length 1 false (vI x.ids),.bool x.apart,.bool x.back]),(999,.glob 0 32 tzF)]) (fun m u=>m=g.ports.length-u/\u<=g.ports.length) g.ports.length 0 ⟨rfl,Nat.zero_le _⟩ rfl (fun _=>rfl) ?_ ?_
           . exact weak_b (fun _ _=>[(0,some 0),(1,some 1),(2,some 2),(3,some 3),(999,some 999)])
           rintro m4 u ⟨hm4,hu4⟩;by_cases hun:u<g.ports.length
           . obtain⟨q1,q2⟩:=hrw u hun;have q2':gI (gC c u) (Int.toNat 1)=upI g u:=q2;by_cases hu0:u=0
             . have q3:upI g u=-1:=by rw[hu0];exact up_root hgc
               repeat' ((conv=>whnf);first|(refine Br.dec ?_ ?_<;>intro _<;>try omega)|(refine Ar.i64 (by omega) (by omega) ?_)|(refine Ix.nat (by omega) ?_)|(refine Ix.mk 1 rfl (by omega) ?_)|(refine Ltn.mk (by omega) ?_))
               all_goals (conv=>whnf)
               all_goals
                refine⟨g.ports.length-(u+1),u+1,by omega,⟨rfl,by omega⟩,?_⟩;exact weak_b (fun _ _=>[(0,some 0),(1,some 1),(2,some 2),(3,some 3),(999,some 999)])
             . obtain⟨d,hd⟩:=up_at hgc (by omega:u<g.ids.length) hu0;have d1:=hd.lt;have d2:=hd.up;have d3:=hd.par;have d4:parI g u=v->mvC (mvN ch i) (ch.getD i 0) v (0+u)=2:=fun e=>by rw[Nat.zero_add];exact mvC_two (e5 hz u (by omega) hu0 e).1 (by rw[<- mvN_succ];exact(e5 hz u (by omega) hu0 e).2)
               by_cases d5:parI g u=v
               . have d6:=d4 d5;clear d4
                 repeat' ((conv=>whnf);first|(refine Ix.mk d (by omega) (by omega) ?_)|(refine Br.dec ?_ ?_<;>intro _<;>try omega)|(refine Br.bne ?_ ?_<;>intro _<;>try omega)|(refine Ar.i64 (by omega) (by omega) ?_)|(refine Ix.nat (by omega) ?_)|(refine Ix.mk 1 rfl (by omega) ?_)|(refine Ltn.mk (by omega) ?_))
                 all_goals (conv=>whnf)
                 all_goals
                  refine⟨g.ports.length-(u+1),u+1,by omega,⟨rfl,by omega⟩,?_⟩;exact weak_b (fun _ _=>[(0,some 0),(1,some 1),(2,some 2),(3,some 3),(999,some 999)])
               . have d6:=trivial;clear d4
                 repeat' ((conv=>whnf);first|(refine Ix.mk d (by omega) (by omega) ?_)|(refine Br.dec ?_ ?_<;>intro _<;>try omega)|(refine Ar.i64 (by omega) (by omega) ?_)|(refine Ix.nat (by omega) ?_)|(refine Ix.mk 1 rfl (by omega) ?_)|(refine Ltn.mk (by omega) ?_))
                 all_goals (conv=>whnf)
                 all_goals
                  refine⟨g.ports.length-(u+1),u+1,by omega,⟨rfl,by omega⟩,?_⟩;exact weak_b (fun _ _=>[(0,some 0),(1,some 1),(2,some 2),(3,some 3),(999,some 999)])
           . repeat' ((conv=>whnf);first|(refine Br.dec ?_ ?_<;>intro _<;>try omega)|(refine Ar.i64 (by omega) (by omega) ?_)|(refine Ix.nat (by omega) ?_)|(refine Ltn.mk (by omega) ?_))
             all_goals (conv=>whnf)
             all_goals
              refine⟨g.ports.length-(v+1),v+1,by omega,⟨rfl,by omega⟩,?_⟩;refine weak_by (fun _ _=>[(0,some 0),(1,some 1),(2,some 2),(3,some 3),(999,some 999)]) ?_ ?_ rfl
              . repeat' (first|exact True.intro|(refine⟨⟨_,rfl,?_⟩,?_⟩)|exact VRen.kf rfl|exact VRen.loc rfl|exact VRen.vec rfl rfl rfl)
              . repeat' (first|exact mvF_hit hbit _ (by omega) _ _ hj|exact True.intro|exact⟨rfl,rfl,rfl⟩|(refine⟨⟨_,rfl,?_⟩,?_⟩)|exact VRen.kf rfl|(refine⟨Nat.le_refl _,rfl,fun i j hi hj=>?_⟩)|(refine And.intro ?_ ?_))
   . obtain rfl:v=g.ports.length:=by omega
     have hz0:mvC (mvN ch i) (ch.getD i 0) g.ports.length (0+0)=mvN ch (i+1) 0:=mvC_end (by omega);by_cases h2':mvN ch (i+1) 0=2
     . have hphn:=hnx.ph.all (treeC hgc) h2';have hall2:∀v,v<g.ids.length->mvN ch (i+1) v=2:=fun v hv=>hphn _ v hv (Nat.le_refl _);have hsum:=sumN_all hall2;have hmv:=hnx.mv;have haf:nb (sW (gT T (i+1)).1) g.ids.length=0:=nb_none fun v hv=>by rw[hnx.ph.s v hv,hall2 v hv];rfl
       have hmc:∀v,v<g.ports.length->mvC (mvN ch i) (ch.getD i 0) g.ports.length (0+v)=2:=fun v hv=>by rw[Nat.zero_add,mvC_end hv,<- mvN_succ];exact hall2 v (by omega)
       have hs2:∀v,v<=g.ports.length->Go.Plain.sumN (mvN ch (i+1)) v=2*v:=fun v hv=>sumN_all fun u hu=>hall2 u (by omega);clear h0 hsta hlg hac htx hpr hwi hfo hrun hall hend hstep hlast hvi0 hzero hwl hwlt hlen hne hvi hst hci hcj hml ha1 ha2 h2 f4 f5 f6 f7 hm hnx hmov hphn hall2
       repeat' ((conv=>whnf);first|(refine Br.dec ?_ ?_<;>intro _<;>try omega)|(refine Ix.mk 0 rfl (by omega) ?_)|(refine Ltn.mk (by omega) ?_))
       all_goals (conv=>whnf)
       refine loop_u mixed [] [] [4,5,6,7,8,9,10,11,12,13,14,15,16,17,18,19,20,21,22,23,24,25,26,27,28,29] [3,2,1,0,999] (fun v:Nat=>[(22,.int .i64 (2*v:Nat)),(23,.int .i64 v),(7,.loc 1 0),(8,.int .i64 g.ports.length),(13,.fz T.length 5 false (vKs T)),(15,.vec 3 1 0 g.ports.length),(16,.int .i64 i),(18,.int .u32 (nb (sW (gT T (i+1)).1) g.ids.length:Nat))]) (fun _ v=>[(3,.vec g.ports.length 1 (mvF (mvC (mvN ch i) (ch.getD i 0) g.ports.length))),(2,.cells [.fz ch.length 1 false (vU7 ch),.fz en.length 1 false (vU7 en),cV lc,.int .i64 lk.steps,.int .i64 lk.moves,.int .i64 lk.rounds,.int .i64 lk.begun,.int .u32 lk.pend]),(1,.cells [.fz g.ids.length 1 false (vI g.ids),.fz g.ports.length 1 false (vP g.ports)]),(0,.cells [.int .i64 x.n,.fz x.links.length 1 false (vI x.links),.fz x.weights.length 1 false (vI x.weights),.fz x.ids.length 1 false (vI x.ids),.bool x.apart,.bool x.back]),(999,.glob 0 32 tzF)]) (fun m v=>m=g.ports.length-v/\v<=g.ports.length) g.ports.length 0 ⟨rfl,Nat.zero_le _⟩ rfl (fun _=>rfl) ?_ ?_
       . exact weak_b (fun _ _=>[(0,some 0),(1,some 1),(2,some 2),(3,some 3),(999,some 999)])
       rintro m5 v ⟨hm5,hv5⟩;by_cases hvn:v<g.ports.length
       . have hmv5:=hmc v hvn
         repeat' ((conv=>whnf);first|(refine Br.dec ?_ ?_<;>intro _<;>try omega)|(refine Ar.i64 (by omega) (by omega) ?_)|(refine Ix.nat (by omega) ?_)|(refine Ltn.mk (by omega) ?_))
         all_goals (conv=>whnf)
         all_goals
          refine⟨g.ports.length-(v+1),v+1,by omega,⟨rfl,by omega⟩,?_⟩;refine weak_by (fun _ _=>[(0,some 0),(1,some 1),(2,some 2),(3,some 3),(999,some 999)]) ?_ ?_ rfl
          . repeat' (first|exact VRen.int (by omega)|exact True.intro|(refine⟨⟨_,rfl,?_⟩,?_⟩)|exact VRen.kf rfl|exact VRen.loc rfl|exact VRen.vec rfl rfl rfl)
          . repeat' (first|exact VRen.int (by omega)|exact True.intro|exact⟨rfl,rfl,rfl⟩|(refine⟨⟨_,rfl,?_⟩,?_⟩)|exact VRen.kf rfl|(refine⟨Nat.le_refl _,rfl,fun i j hi hj=>?_⟩)|exact VLe.rfl|(refine And.intro ?_ ?_))
       . obtain rfl:v=g.ports.length:=by omega
         repeat' ((conv=>whnf);first|(refine Ix.mk (i+1) (by omega) (by omega) ?_)|(refine Br.tt ?_)|(refine Br.dec ?_ ?_<;>intro _<;>try omega)|(refine Ar.i64 (by omega) (by omega) ?_)|(refine hk.gog ?_)|(refine hec.go ?_)|(refine And.intro rfl ?_))
         all_goals (conv=>whnf)
         all_goals exact VLe.rfl
     . repeat' ((conv=>whnf);first|(refine Br.dec ?_ ?_<;>intro _<;>try omega)|(refine Ar.i64 (by omega) (by omega) ?_)|(refine Ix.mk 0 rfl (by omega) ?_)|(refine Ltn.mk (by omega) ?_))
       all_goals (conv=>whnf)
       refine⟨ch.length-(i+1),i+1,by omega,⟨rfl,by omega,hnx,h2'⟩,?_⟩;refine weak_by (fun _ _=>[(0,some 0),(1,some 1),(2,some 2),(3,some 3),(999,some 999)]) ?_ ?_ rfl
       . repeat' (first|exact True.intro|(refine⟨⟨_,rfl,?_⟩,?_⟩)|exact VRen.kf rfl|exact VRen.loc rfl|exact VRen.vec rfl rfl rfl)
       . repeat' (first|exact mvF_ext (fun u hu=>mvC_end hu) _ _ hi|exact True.intro|exact⟨rfl,rfl,rfl⟩|(refine⟨⟨_,rfl,?_⟩,?_⟩)|exact VRen.kf rfl|(refine⟨Nat.le_refl _,rfl,fun i j hi hj=>?_⟩)|(refine And.intro ?_ ?_))
 . exfalso;obtain rfl:i=ch.length:=by omega
   obtain⟨z1,z2⟩:=vi_ends hgc (hall _ (gT_mem (i:=ch.length) (by omega))).1 (hall _ (gT_mem (i:=ch.length) (by omega))).2 hvi h2;rcases hend with e|e
   . omega
   . rw[<- hlast,hcn,Nat.add_sub_cancel] at e;exact z2 e
end Go.Proofs.YtpoplpohbpfbmaaGreatDoor
