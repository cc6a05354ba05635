import Derived.Test.YtkimongfladmfaaGreatDoorCK2
import Derived.Test.YtkimongfladmfaaGreatDoorEngZ
import Derived.IntWalk
namespace Go.Proofs.YtkimongfladmfaaGreatDoor
open Go.Eng
set_option maxRecDepth 100000
set_option linter.unusedVariables false
theorem lay_back {p:Pt} {f:Nat}:∀ {k v:Nat},0≤lay p f k v→v≠f→∃ l∈gR p v,lay p f k l.1.toNat = lay p f k v - 1∧0≤lay p f k l.1.toNat
 | 0,v,h,hv=>by rw [lay,if_neg hv] at h;omega
 | k + 1,v,h,hv=>by
   by_cases h0:0≤lay p f k v
   . obtain ⟨l,hl,a,b⟩:=lay_back h0 hv;have e1:lay p f (k + 1) v = lay p f k v:=by rw [lay,if_pos h0]
     have e2:lay p f (k + 1) l.1.toNat = lay p f k l.1.toNat:=by rw [lay,if_pos b]
     exact ⟨l,hl,by rw [e1,e2];exact a,by rw [e2];exact b⟩
   . by_cases ha:(gR p v).any (fun l=>decide (lay p f k l.1.toNat = k)) = true
     . have e1:lay p f (k + 1) v = (k:Int) + 1:=by rw [lay,if_neg h0,if_pos ha]
       rw [List.any_eq_true] at ha;obtain ⟨l,hl,e⟩:=ha;have e:=of_decide_eq_true e;have e2:lay p f (k + 1) l.1.toNat = k:=by rw [lay,if_pos (by omega)];exact e
       exact ⟨l,hl,by rw [e1,e2];omega,by rw [e2];omega⟩
     . rw [lay,if_neg h0,if_neg ha] at h;omega
theorem fpI_none {p:Int × Int→Bool}:∀ {l:Lt2'} {k:Nat},(∀ a∈l,p a = false)→fpI p k l = -1
 | [],k,_=>rfl
 | a :: r,k,h=>by rw [fpI,h a (by simp),if_neg (by simp)];exact fpI_none fun b hb=>h b (by simp [hb])
theorem fpI_some {p:Int × Int→Bool}:∀ {l:Lt2'} {k:Nat},(∃ a∈l,p a = true)→0≤fpI p k l
 | [],k,h=>by simp at h
 | a :: r,k,h=>by
   rw [fpI];split
   . omega
   . rename_i hn;refine fpI_some ?_;obtain ⟨b,hb,e⟩:=h;rcases List.mem_cons.1 hb with rfl | hb
     . exact (hn e).elim
     . exact ⟨b,hb,e⟩
theorem dst_root (g:G) (hg:g.valid = true):gI (dst g 0) 0 = 0:=by
 obtain ⟨f1,f2,f3,f4,f5,f6,f7⟩:=val_facts hg;have h:∀ k,lay g.ports 0 k 0 = 0:=by
  intro k
  induction k with
  | zero=>rfl
  | succ k ih=>rw [lay,ih];rfl
 rw [dst_get g 0 (by omega),h]
theorem up_root {g:G} (hg:g.conn = true):upI g 0 = -1:=by
 obtain ⟨h1,h2⟩:=conn_facts hg;have hr:=(und_of h1).rng 0;obtain ⟨f1,f2,f3,f4,f5,f6,f7⟩:=val_facts h1;refine fpI_none fun l hl=>decide_eq_false ?_;have:=h2 _ (hr (by omega) l hl);rw [dst_root g h1];omega
theorem up_other {g:G} (hg:g.conn = true) {v:Nat} (hv:v < g.ports.length) (h0:v≠0):0≤upI g v∧upI g v < (gR g.ports v).length:=by
 obtain ⟨h1,h2⟩:=conn_facts hg;have hr:=(und_of h1).rng v hv;have hd:=h2 v hv;rw [dst_get g 0 hv] at hd;obtain ⟨l,hl,a,b⟩:=lay_back hd h0;have h3:0≤upI g v:=fpI_some ⟨l,hl,decide_eq_true (by rw [dst_get g 0 (hr l hl),dst_get g 0 hv];exact a)⟩;have:=fpI_range (nearB g v) (gR g.ports v) 0;refine ⟨h3,?_⟩;unfold upI at *;omega
theorem ptok {g:G} {c:Cf} (h:g.valid = true) (hc:g.cconf c = true):PtOk g c:=by
 obtain ⟨f1,f2,f3,f4,f5,f6,f7⟩:=val_facts h;obtain ⟨e1,e2⟩:=cconf_facts hc;exact ⟨by omega,fun v hv=>by have:=e2 v hv;omega,fun v hv=>by have:=e2 v hv;omega⟩
theorem tw_treeP {g:G} {c:Cf} (hg:g.conn = true) (hc:PtOk g c) (ht:treeB g c = true) {v:Nat} (hv:v < c.length):(v = 0→tw g c v = -1)∧(v≠0→0≤tw g c v∧tw g c v < c.length):=by
 obtain ⟨h1,h2⟩:=conn_facts hg;obtain ⟨f1,f2,f3,f4,f5,f6,f7⟩:=val_facts h1;have hl:=hc.len;have h:=(treeB_iff.1 ht v hv).2;refine ⟨fun e=>?_,fun e=>?_⟩
 . subst e;rw [tw,h,up_root hg,if_neg (by omega)]
 . obtain ⟨a,b⟩:=up_other hg (show v < g.ports.length by omega) e;have:=okR_to' (f6 v (by omega)) (i:=(upI g v).toNat) (by omega);rw [tw,h,if_pos a];omega
theorem tw_tree {g:G} {c:Cf} (hg:g.conn = true) (hc:g.cconf c = true) (ht:treeB g c = true) {v:Nat} (hv:v < c.length):(v = 0→tw g c v = -1)∧(v≠0→0≤tw g c v∧tw g c v < c.length) :=
 tw_treeP hg (ptok (conn_facts hg).1 hc) ht hv
end Go.Proofs.YtkimongfladmfaaGreatDoor
namespace Go.Plain.Tree
structure Net (n:Nat) (a:Nat→Nat→Bool) (D:Nat→Nat):Prop where
 rng:∀ u v,u < n→a u v = true→v < n
 root:∀ v,v < n→(D v = 0↔v = 0)
 near:∀ v,v < n→v≠0→∃ u,a v u = true∧D u + 1 = D v
 step:∀ u v,u < n→a u v = true→D u≤D v + 1
 top:∀ v,v < n→D v + 1≤n
structure St where
 d:Nat→Int
 p:Nat→Int
structure Rule (n:Nat) (a:Nat→Nat→Bool) (D:Nat→Nat) (P:Nat→Int) (tg:(Nat→Int)→Nat→Int × Int):Prop where
 root:∀ d,tg d 0 = (0,-1)
 right:∀ d v,v < n→v≠0→(∀ u,a v u = true→D u + 1 = D v→d u = ((D u:Nat):Int))→(∀ u,a v u = true→D v≤D u→(D v:Int)≤d u)→tg d v = (((D v:Nat):Int),P v)
 low:∀ d v (k:Nat),v < n→v≠0→k + 1≤n→(∀ u,a v u = true→(k:Int)≤d u)→((k + 1:Nat):Int)≤(tg d v).1
 proot:P 0 = -1
variable {n:Nat} {a:Nat→Nat→Bool} {D:Nat→Nat} {P:Nat→Int} {tg:(Nat→Int)→Nat→Int × Int}
def right (D:Nat→Nat) (P:Nat→Int) (s:St) (v:Nat):Prop:=s.d v = ((D v:Nat):Int)∧s.p v = P v
def off (tg:(Nat→Int)→Nat→Int × Int) (s:St) (v:Nat):Prop:=(s.d v,s.p v)≠tg s.d v
def Step (n:Nat) (tg:(Nat→Int)→Nat→Int × Int) (s:St) (c:Nat→Bool) (s':St):Prop :=
 ∀ v,v < n→(c v = true→off tg s v→(s'.d v,s'.p v) = tg s.d v)∧(c v = false∨¬ off tg s v→s'.d v = s.d v∧s'.p v = s.p v)
structure Ok (n:Nat) (D:Nat→Nat) (P:Nat→Int) (s:St) (k:Nat):Prop where
 low:∀ v,v < n→D v < k→right D P s v
 far:∀ v,v < n→k≤D v→(k:Int)≤s.d v
def bad (D:Nat→Nat) (P:Nat→Int) (s:St) (k v:Nat):Prop:=(D v = k∧¬ right D P s v)∨(k < D v∧s.d v < (k:Int) + 1)
theorem Ok.start {s:St} (h:∀ v,v < n→0≤s.d v):Ok n D P s 0:=⟨fun v _ h=>by omega,fun v hv _=>by simpa using h v hv⟩
theorem Ok.tgt (hN:Net n a D) (hR:Rule n a D P tg) {s:St} {k:Nat} (h:Ok n D P s k) {v:Nat} (hv:v < n) (hk:D v≤k):tg s.d v = (((D v:Nat):Int),P v):=by
 by_cases h0:v = 0
 . subst h0;rw [hR.root,(hN.root 0 hv).2 rfl,hR.proot];rfl
 . refine hR.right s.d v hv h0 (fun u hu e=>?_) (fun u hu e=>?_)
   . exact (h.low u (hN.rng v u hv hu) (by omega)).1
   . have hun:=hN.rng v u hv hu;by_cases q:D u < k
     . rw [(h.low u hun q).1];omega
     . have:=h.far u hun (by omega);omega
theorem Ok.tgfar (hN:Net n a D) (hR:Rule n a D P tg) {s:St} {k:Nat} (h:Ok n D P s k) {v:Nat} (hv:v < n) (hk:k < D v):((k + 1:Nat):Int)≤(tg s.d v).1:=by
 have h0:v≠0:=fun e=>by have:=(hN.root v hv).2 e;omega
 have ht:=hN.top v hv;refine hR.low s.d v k hv h0 (by omega) fun u hu=>?_;have:=hN.step v u hv hu;exact h.far u (hN.rng v u hv hu) (by omega)
theorem Ok.off_bad (hN:Net n a D) (hR:Rule n a D P tg) {s:St} {k:Nat} (h:Ok n D P s k) {v:Nat} (hv:v < n) (hb:bad D P s k v):off tg s v:=by
 rcases hb with ⟨h1,h2⟩ | ⟨h1,h2⟩
 . intro e;rw [h.tgt hN hR hv (by omega)] at e;exact h2 ⟨(Prod.mk.inj e).1,(Prod.mk.inj e).2⟩
 . intro e;have:=h.tgfar hN hR hv h1;rw [← e] at this;simp only at this;omega
theorem Ok.step (hN:Net n a D) (hR:Rule n a D P tg) {s s':St} {c:Nat→Bool} {k:Nat} (h:Ok n D P s k) (hs:Step n tg s c s') :
 Ok n D P s' k∧∀ v,v < n→bad D P s' k v→bad D P s k v∧c v = false:=by
 have key:∀ v,v < n→(c v = true∧off tg s v∧(s'.d v,s'.p v) = tg s.d v)∨((c v = false∨¬ off tg s v)∧s'.d v = s.d v∧s'.p v = s.p v):=fun v hv=>by
  obtain ⟨h1,h2⟩:=hs v hv;by_cases q:c v = false∨¬ off tg s v
  . exact .inr ⟨q,h2 q⟩
  . have qc:c v = true:=by
     cases e:c v with
     | true=>rfl
     | false=>exact (q (.inl e)).elim
    have qo:off tg s v:=Classical.byContradiction fun e=>q (.inr e);exact .inl ⟨qc,qo,h1 qc qo⟩
 have low':∀ v,v < n→D v < k→right D P s' v:=fun v hv hk=>by
  rcases key v hv with ⟨_,_,e⟩ | ⟨_,e1,e2⟩
  . rw [h.tgt hN hR hv (by omega)] at e;exact ⟨(Prod.mk.inj e).1,(Prod.mk.inj e).2⟩
  . obtain ⟨r1,r2⟩:=h.low v hv hk;exact ⟨by rw [e1];exact r1,by rw [e2];exact r2⟩
 have far':∀ v,v < n→k≤D v→(k:Int)≤s'.d v:=fun v hv hk=>by
  rcases key v hv with ⟨_,_,e⟩ | ⟨_,e1,_⟩
  . by_cases q:D v = k
    . rw [h.tgt hN hR hv (by omega)] at e;rw [(Prod.mk.inj e).1];omega
    . have:=h.tgfar hN hR hv (by omega);rw [← e] at this;simp only at this;omega
  . rw [e1];exact h.far v hv hk
 refine ⟨⟨low',far'⟩,fun v hv hb=>?_⟩;rcases key v hv with ⟨_,_,e⟩ | ⟨q,e1,e2⟩
 . exfalso;rcases hb with ⟨h1,h2⟩ | ⟨h1,h2⟩
   . rw [h.tgt hN hR hv (by omega)] at e;exact h2 ⟨(Prod.mk.inj e).1,(Prod.mk.inj e).2⟩
   . have:=h.tgfar hN hR hv h1;rw [← e] at this;simp only at this;omega
 . have hb0:bad D P s k v:=by
    rcases hb with ⟨h1,h2⟩ | ⟨h1,h2⟩
    . exact .inl ⟨h1,fun r=>h2 ⟨by rw [e1];exact r.1,by rw [e2];exact r.2⟩⟩
    . exact .inr ⟨h1,by rw [← e1];exact h2⟩
   refine ⟨hb0,?_⟩;rcases q with q | q
   . exact q
   . exact (q (h.off_bad hN hR hv hb0)).elim
theorem Ok.next {s:St} {k:Nat} (h:Ok n D P s k) (hb:∀ v,v < n→¬ bad D P s k v):Ok n D P s (k + 1):=by
 refine ⟨fun v hv hk=>?_,fun v hv hk=>?_⟩
 . by_cases e:D v = k
   . exact Classical.byContradiction fun q=>hb v hv (.inl ⟨e,q⟩)
   . exact h.low v hv (by omega)
 . have:=hb v hv;apply Classical.byContradiction;intro q;exact this (.inr ⟨by omega,by omega⟩)
theorem Ok.all (hN:Net n a D) (hR:Rule n a D P tg) {s:St} {k:Nat} (h:Ok n D P s k) {v:Nat} (hv:v < n) (hk:D v < k):¬ off tg s v:=fun e=>by
 obtain ⟨r1,r2⟩:=h.low v hv hk;apply e;rw [h.tgt hN hR hv (by omega),r1,r2]
end Go.Plain.Tree
namespace Go.Proofs.YtkimongfladmfaaGreatDoor
open Go.Eng
set_option maxRecDepth 100000
set_option linter.unusedVariables false
def Dg (g:G) (v:Nat):Nat:=(gI (dst g 0) v).toNat
theorem dg_int {g:G} (h:g.conn = true) {v:Nat} (hv:v < g.ids.length):((Dg g v:Nat):Int) = gI (dst g 0) v:=by
 obtain ⟨h1,h2⟩:=conn_facts h;obtain ⟨f1,f2,f3,f4,f5,f6,f7⟩:=val_facts h1;have:=h2 v (by omega);rw [Dg];omega
theorem netB {g:G} (h:g.conn = true):Go.Plain.Tree.Net g.ids.length (adN g) (Dg g):=by
 obtain ⟨h1,h2⟩:=conn_facts h;obtain ⟨f1,f2,f3,f4,f5,f6,f7⟩:=val_facts h1;have hu:=und_of h1;have hF:=dst_found h1;have hD:=fun v (hv:v < g.ids.length)=>dg_int h hv;have near:∀ v,v < g.ids.length→v≠0→∃ u,adN g v u = true∧Dg g u + 1 = Dg g v:=fun v hv h0=>by
  obtain ⟨l,hl,a,b⟩:=hF.back v (by omega) h0 (h2 v (by omega));have hln:=hu.rng v (by omega) l hl;have e1:=hD v hv;have e2:=hD l.1.toNat (by omega);exact ⟨l.1.toNat,adj_iff.2 ⟨l,hl,rfl⟩,by omega⟩
 refine ⟨fun u v hu' hv=>(adj_adj h1).rng u v hu' hv,fun v hv=>⟨fun e=>?_,fun e=>?_⟩,near,fun u v hun huv=>?_,fun v hv=>?_⟩
 . apply Classical.byContradiction;intro h0;obtain ⟨u,_,q⟩:=near v hv h0;omega
 . subst e;have:=hD 0 hv;have e0:=hF.from_;omega
 . have hvn:=(adj_adj h1).rng u v hun huv;have hvu:=(adj_adj h1).sym u v hun hvn huv;obtain ⟨l,hl,e⟩:=adj_iff.1 hvu;have:=(hF.on v (by omega) (h2 v (by omega)) l hl).2;rw [e] at this;have e1:=hD v hvn;have e2:=hD u hun;omega
 . have:=hF.lt hu (v:=v) (by omega);have e1:=hD v hv;omega
theorem minI_le:∀ (l:List Int) (m:Int),minI l m≤m∧∀ a∈l,minI l m≤a
 | [],m=>⟨Int.le_refl _,by simp⟩
 | a :: r,m=>by
   have q1:(if a < m then a else m)≤m:=by split <;> omega
   have q2:(if a < m then a else m)≤a:=by split <;> omega
   obtain ⟨h1,h2⟩:=minI_le r (if a < m then a else m);rw [minI];refine ⟨Int.le_trans h1 q1,fun b hb=>?_⟩;rcases List.mem_cons.1 hb with e | hb
   . rw [e];exact Int.le_trans h1 q2
   . exact h2 b hb
theorem minI_ge:∀ (l:List Int) (m k:Int),k≤m→(∀ a∈l,k≤a)→k≤minI l m
 | [],m,k,h,_=>h
 | a :: r,m,k,h,ha=>by
   rw [minI];exact minI_ge r _ k (by have:=ha a (by simp);split <;> omega) (fun b hb=>ha b (by simp [hb]))
def mnD (g:G) (d:Nat→Int) (v:Nat):Int:=minI ((gR g.ports v).map fun l=>d l.1.toNat) 1073741824
def tgB (g:G) (d:Nat→Int) (v:Nat):Int × Int :=
 if v = 0 then (0,-1) else (if mnD g d v < g.ids.length then mnD g d v + 1 else g.ids.length,fpI (fun l=>decide (d l.1.toNat = mnD g d v)) 0 (gR g.ports v))
theorem fpI_ext {p q:Int × Int→Bool}:∀ {r:Lt2'} {k:Nat},(∀ l∈r,p l = q l)→fpI p k r = fpI q k r
 | [],_,_=>rfl
 | l :: r,k,h=>by rw [fpI,fpI,h l (by simp),fpI_ext (fun x hx=>h x (by simp [hx]))]
theorem ruleB {g:G} (h:g.conn = true):Go.Plain.Tree.Rule g.ids.length (adN g) (Dg g) (upI g) (tgB g):=by
 obtain ⟨h1,h2⟩:=conn_facts h;obtain ⟨f1,f2,f3,f4,f5,f6,f7⟩:=val_facts h1;have hN:=netB h;have hu:=und_of h1;refine ⟨fun d=>if_pos rfl,fun d v hv h0 hr1 hr2=>?_,fun d v k hv h0 hk hd=>?_,up_root h⟩
 . have hmem:∀ l∈gR g.ports v,adN g v l.1.toNat = true:=fun l hl=>adj_iff.2 ⟨l,hl,rfl⟩;have h4:=hN.top v hv;have hm:mnD g d v = ((Dg g v:Nat):Int) - 1:=by
    obtain ⟨u,hu1,hu2⟩:=hN.near v hv h0;obtain ⟨l,hl,e⟩:=adj_iff.1 hu1;have a1:=(minI_le ((gR g.ports v).map fun l=>d l.1.toNat) 1073741824).2 (d u) (List.mem_map.2 ⟨l,hl,by rw [e]⟩);rw [hr1 u hu1 hu2] at a1;have a2:((Dg g v:Nat):Int) - 1≤minI ((gR g.ports v).map fun l=>d l.1.toNat) 1073741824:=by
     refine minI_ge _ _ _ (by omega) fun b hb=>?_;obtain ⟨l',hl',rfl⟩:=List.mem_map.1 hb;have hal:=hmem l' hl';by_cases q:Dg g v≤Dg g l'.1.toNat
     . have:=hr2 _ hal q;omega
     . have hs:=hN.step v l'.1.toNat hv hal;rw [hr1 _ hal (by omega)];omega
    rw [mnD];omega
   have hv1:1≤Dg g v:=by
    have:=(hN.root v hv);omega
   rw [tgB,if_neg h0,hm,if_pos (by omega)];refine Prod.ext (by simp only;omega) ?_;show fpI _ 0 _ = fpI (nearB g v) 0 _;refine fpI_ext fun l hl=>?_;have hal:=hmem l hl;have hln:=hN.rng v l.1.toNat hv hal;have e1:=dg_int h hv;have e2:=dg_int h hln;have hs:=hN.step v l.1.toNat hv hal;rw [nearB,decide_eq_decide,← e1,← e2];by_cases q:Dg g v≤Dg g l.1.toNat
   . have:=hr2 _ hal q;omega
   . rw [hr1 _ hal (by omega)]
 . have hm:(k:Int)≤mnD g d v:=by
    refine minI_ge _ _ _ (by omega) fun b hb=>?_;obtain ⟨l,hl,rfl⟩:=List.mem_map.1 hb;exact hd _ (adj_iff.2 ⟨l,hl,rfl⟩)
   rw [tgB,if_neg h0];simp only;split <;> omega
def mnT:Tm:=.agg 24 (.leaf 12 0)
def dTm:Tm:=.ite (.bin 37 mnT (.leaf 6 0)) (.bin 33 mnT (.leaf 1 1)) (.leaf 6 0)
def pTm:Tm:=.agg 23 (.bin 35 (.leaf 12 0) mnT)
def topG:Tm:=.bin 41 (.leaf 10 0) (.bin 42 (.bin 36 (.leaf 5 0) (.leaf 1 0)) (.bin 36 (.leaf 5 1) (.leaf 4 0)))
def lowG:Tm:=.bin 41 (.un 19 (.leaf 10 0)) (.bin 42 (.bin 36 (.leaf 5 0) dTm) (.bin 36 (.leaf 5 1) pTm))
abbrev dC (c:Cf) (v:Nat):Int:=gI (gC c v) 0
abbrev pC (c:Cf) (v:Nat):Int:=gI (gC c v) 1
theorem range_map (r:Lt2') (f:Int × Int→Int):((List.range r.length).map fun i=>f (gF r i)) = r.map f:=by
 refine List.ext_getElem (by simp) fun i h1 h2=>?_;simp at h1;simp [gF,List.getD,h1]
theorem mn_sem (g:G) (c:Cf) (v:Nat) (port:Int):mnT.sem g c v port = mnD g (dC c) v:=by
 show minI ((List.range (gR g.ports v).length).map fun (i:Nat)=>gI (gC c (nbV g v i)) 0) 1073741824 = _;rw [mnD,← range_map (gR g.ports v) (fun l=>dC c l.1.toNat)];simp only [nbV,Int.toNat_natCast]
theorem mn_nn {g:G} {c:Cf} (hd:∀ v,v < g.ids.length→0≤dC c v) (hg:g.valid = true) {v:Nat} (hv:v < g.ids.length):0≤mnD g (dC c) v:=by
 obtain ⟨f1,f2,f3,f4,f5,f6,f7⟩:=val_facts hg;have hok:=(okR_iff.1 (f6 v (by omega))).1;refine minI_ge _ _ _ (by omega) fun b hb=>?_;obtain ⟨l,hl,rfl⟩:=List.mem_map.1 hb;have:=hok l hl;exact hd _ (by omega)
theorem d_sem {g:G} (hg:g.valid = true) {c:Cf} (hd:∀ v,v < g.ids.length→0≤dC c v) {v:Nat} (hv:v < g.ids.length) (h0:v≠0) (port:Int):dTm.sem g c v port = (tgB g (dC c) v).1:=by
 obtain ⟨f1,f2,f3,f4,f5,f6,f7⟩:=val_facts hg;have hm:=mn_nn hd hg hv;show (if truI (decide (mnT.sem g c v port < (g.ids.length:Int)))≠0 then sat (mnT.sem g c v port + 1) else (g.ids.length:Int)) = _;rw [mn_sem,tgB,if_neg h0];simp only;by_cases q:mnD g (dC c) v < g.ids.length
 . rw [decide_eq_true q,if_pos (by decide),if_pos q,sat_eq (by unfold inR;omega)]
 . rw [decide_eq_false q,if_neg (by decide),if_neg q]
theorem idx_fpI {f:Int × Int→Int} {p:Int × Int→Bool}:∀ {r:Lt2'} {k:Nat},(∀ l∈r,f l≠0↔p l = true)→idxI k (r.map f) = fpI p k r
 | [],_,_=>rfl
 | l :: r,k,h=>by
   have h1:=h l (by simp);rw [List.map_cons,idxI,fpI,idx_fpI (fun x hx=>h x (by simp [hx]))];by_cases e:p l = true
   . rw [if_pos (h1.2 e),if_pos e]
   . rw [if_neg (fun q=>e (h1.1 q)),if_neg e]
theorem p_sem (g:G) (c:Cf) (v:Nat) (h0:v≠0) (port:Int):pTm.sem g c v port = (tgB g (dC c) v).2:=by
 show idxI 0 ((List.range (gR g.ports v).length).map fun (i:Nat)=>truI (decide (gI (gC c (nbV g v i)) 0 = mnT.sem g c v i))) = _;rw [tgB,if_neg h0];simp only;have e:((List.range (gR g.ports v).length).map fun (i:Nat)=>truI (decide (gI (gC c (nbV g v i)) 0 = mnT.sem g c v i))) = (gR g.ports v).map fun l=>truI (decide (dC c l.1.toNat = mnD g (dC c) v)):=by
  rw [← range_map (gR g.ports v) (fun l=>truI (decide (dC c l.1.toNat = mnD g (dC c) v)))];simp only [nbV,Int.toNat_natCast,mn_sem]
 rw [e];exact idx_fpI fun l _=>by rw [itru_ne]
def offB (g:G) (c:Cf) (v:Nat):Bool:=decide ((dC c v,pC c v)≠tgB g (dC c) v)
theorem top_sem (g:G) (c:Cf) (v:Nat):topG.sem g c v (-1) = truI (decide (v = 0) && offB g c v):=by
 show truI (decide (truI (decide (v = 0))≠0∧truI (decide (truI (decide (dC c v≠0))≠0∨truI (decide (pC c v≠-1))≠0))≠0)) = _;congr 1;simp only [itru_ne,decide_eq_true_eq];by_cases h0:v = 0
 . rw [offB,tgB,if_pos h0];simp only [h0,true_and,decide_true,Bool.true_and];rw [decide_eq_decide];simp only [ne_eq,Prod.mk.injEq];exact (Classical.not_and_iff_not_or_not).symm
 . simp [h0]
theorem low_sem {g:G} (hg:g.valid = true) {c:Cf} (hd:∀ v,v < g.ids.length→0≤dC c v) {v:Nat} (hv:v < g.ids.length):lowG.sem g c v (-1) = truI (!decide (v = 0) && offB g c v):=by
 show truI (decide (truI (decide (truI (decide (v = 0)) = 0))≠0∧truI (decide (truI (decide (dC c v≠dTm.sem g c v (-1)))≠0∨truI (decide (pC c v≠pTm.sem g c v (-1)))≠0))≠0)) = _;congr 1;simp only [itru_ne,itru_eq0,decide_eq_true_eq,decide_eq_false_iff_not];by_cases h0:v = 0
 . simp [h0]
 . rw [d_sem hg hd hv h0,p_sem g c v h0,offB];simp only [h0,not_false_eq_true,true_and,decide_false,Bool.not_false,Bool.true_and];rw [decide_eq_decide];generalize tgB g (dC c) v = t;obtain ⟨t1,t2⟩:=t;simp only [ne_eq,Prod.mk.injEq];exact (Classical.not_and_iff_not_or_not).symm
end Go.Proofs.YtkimongfladmfaaGreatDoor
namespace Go.Plain.Clock
structure Tree (n:Nat) (par:Nat→Nat) (D:Nat→Nat) (E:Nat):Prop where
 pos:0 < n
 lt:∀ v,v < n→v≠0→par v < n
 dep:∀ v,v < n→v≠0→D v = D (par v) + 1
 root:D 0 = 0
 top:∀ v,v < n→D v≤E
variable {n:Nat} {par:Nat→Nat} {D:Nat→Nat} {E:Nat} {x:Nat→Int} {s p:Nat→Bool}
def child (n:Nat) (par:Nat→Nat) (v c:Nat):Prop:=c < n∧c≠0∧par c = v
def dif (par:Nat→Nat) (x:Nat→Int) (v:Nat):Prop:=x v≠x (par v)
def en (n:Nat) (par:Nat→Nat) (x:Nat→Int) (v:Nat):Prop:=(∀ c,child n par v c→¬ dif par x c)∧(v≠0→dif par x v)
def st (par:Nat→Nat) (s:Nat→Bool) (x:Nat→Int):Nat→Int:=fun v=>if s v = true then (if v = 0 then (x 0 + 1) % 4 else x (par v)) else x v
def df (par:Nat→Nat) (x:Nat→Int) (v:Nat):Int:=(x (par v) - x v) % 4
def bad (par:Nat→Nat) (x:Nat→Int) (v:Nat):Prop:=1 < df par x v
structure Ch (n:Nat) (par:Nat→Nat) (x:Nat→Int) (s:Nat→Bool):Prop where
 en:∀ v,s v = true→v < n∧en n par x v
theorem bad_dif {v:Nat} (h:bad par x v):dif par x v:=fun e=>by
 rw [bad,df,e,Int.sub_self,Int.zero_emod] at h;omega
theorem par_rests (hc:Ch n par x s) {v:Nat} (hv:v < n) (h0:v≠0) (hd:dif par x v):s (par v) = false:=by
 cases e:s (par v) with
 | false=>rfl
 | true=>exact ((hc.en _ e).2.1 v ⟨hv,h0,rfl⟩ hd).elim
theorem keep (hc:Ch n par x s) {v:Nat} (hv:v < n) (h0:v≠0) (hd:dif par x v) (hs:s v = false):dif par (st par s x) v:=by
 rw [dif,st,st,par_rests hc hv h0 hd,hs];exact hd
theorem fall (hc:Ch n par x s) {v:Nat} (h0:v≠0) (hd:¬ dif par x v) (hp:s (par v) = false):¬ dif par (st par s x) v:=by
 have hs:s v = false:=by
  cases e:s v with
  | false=>rfl
  | true=>exact (hd ((hc.en v e).2.2 h0)).elim
 rw [dif,st,st,hp,hs];exact hd
theorem moved (hc:Ch n par x s) {v:Nat} (hv:v < n) (h0:v≠0) (hs:s v = true):¬ dif par (st par s x) v:=by
 have hd:=(hc.en v hs).2.2 h0;rw [dif,st,st,par_rests hc hv h0 hd,if_pos hs,if_neg h0];simp
def Cert (n:Nat) (par:Nat→Nat) (x:Nat→Int) (p:Nat→Bool):Nat→Nat→Prop
 | 0,_=>False
 | 1,v=>p v = true∧∀ c,child n par v c→¬ dif par x c
 | j + 2,v=>∀ c,child n par v c→dif par x c→Cert n par x p (j + 1) c
theorem Cert.step (hT:Tree n par D E) (hc:Ch n par x s) {p':Nat→Bool} (hp:∀ v,v < n→p v = true→s v = false→en n par (st par s x) v→p' v = true) :
 ∀ (j v:Nat),v < n→v≠0→dif par x v→s v = false→Cert n par x p j v→Cert n par (st par s x) p' j v
 | 0,_,_,_,_,_,h=>h
 | 1,v,hv,h0,hd,hs,h=>by
   have hch:∀ c,child n par v c→¬ dif par (st par s x) c:=fun c hcc=>fall hc hcc.2.1 (h.2 c hcc) (by rw [hcc.2.2];exact hs);exact ⟨hp v hv h.1 hs ⟨hch,fun _=>keep hc hv h0 hd hs⟩,hch⟩
 | j + 2,v,hv,h0,hd,hs,h=>by
   intro c hcc hdc;have hd0:dif par x c:=Classical.byContradiction fun q=>fall hc hcc.2.1 q (by rw [hcc.2.2];exact hs) hdc;have hsc:s c = false:=by
    cases e:s c with
    | false=>rfl
    | true=>exact (moved hc hcc.1 hcc.2.1 e hdc).elim
   exact Cert.step hT hc hp (j + 1) c hcc.1 hcc.2.1 hd0 hsc (h c hcc hd0)
theorem Cert.round {q:Nat→Bool} (hz:∀ v,v < n→p v = false) (hq:∀ v,v < n→en n par x v→q v = true):∀ (j v:Nat),v < n→v≠0→dif par x v→Cert n par x p (j + 1) v→Cert n par x q j v
 | 0,v,hv,_,_,h=>by have:=h.1;rw [hz v hv] at this;cases this
 | 1,v,hv,h0,hd,h=>by
   have hch:∀ c,child n par v c→¬ dif par x c:=fun c hcc hdc=>by
    have:=(h c hcc hdc).1;rw [hz c hcc.1] at this;cases this
   exact ⟨hq v hv ⟨hch,fun _=>hd⟩,hch⟩
 | j + 2,v,hv,h0,hd,h=>fun c hcc hdc=>Cert.round hz hq (j + 1) c hcc.1 hcc.2.1 hdc (h c hcc hdc)
theorem Cert.start (hT:Tree n par D E) (hq:∀ v,v < n→en n par x v→p v = true):∀ (j v:Nat),v < n→v≠0→dif par x v→D v + j = E + 1→Cert n par x p j v
 | 0,v,hv,_,_,h=>by have:=hT.top v hv;omega
 | 1,v,hv,h0,hd,h=>by
   have hch:∀ c,child n par v c→¬ dif par x c:=fun c hcc _=>by
    have h1:=hT.dep c hcc.1 hcc.2.1;have h2:=hT.top c hcc.1;rw [hcc.2.2] at h1;omega
   exact ⟨hq v hv ⟨hch,fun _=>hd⟩,hch⟩
 | j + 2,v,hv,h0,hd,h=>fun c hcc hdc=>Cert.start hT hq (j + 1) c hcc.1 hcc.2.1 hdc (by
   have h1:=hT.dep c hcc.1 hcc.2.1;rw [hcc.2.2] at h1;omega)
theorem bad_back (hT:Tree n par D E) (hc:Ch n par x s) (hx:∀ v,v < n→0≤x v∧x v≤3) {v:Nat} (hv:v < n) (h0:v≠0) (hb:bad par (st par s x) v):(bad par x v∧s v = false)∨(par v≠0∧bad par x (par v)):=by
 have hd:=bad_dif hb;have hs:s v = false:=by
  cases e:s v with
  | false=>rfl
  | true=>exact (moved hc hv h0 e hd).elim
 cases e:s (par v) with
 | false =>
   left;rw [bad,df,st,st,e,hs] at hb;exact ⟨hb,hs⟩
 | true =>
   have hpn:=hT.lt v hv h0;have hxe:x v = x (par v):=Classical.byContradiction fun q=>(hc.en _ e).2.1 v ⟨hv,h0,rfl⟩ q;simp only [bad,df,st,e,hs,if_true,Bool.false_eq_true,if_false] at hb;by_cases q:par v = 0
   . exfalso;rw [if_pos q,hxe,q] at hb;have:=hx 0 hT.pos;omega
   . right;rw [if_neg q,hxe] at hb;exact ⟨q,hb⟩
def tri:Nat→Nat
 | 0=>0
 | k + 1=>tri k + k
structure Lev (n:Nat) (par:Nat→Nat) (D:Nat→Nat) (E:Nat) (x:Nat→Int) (p:Nat→Bool) (R r:Nat) (i j:Nat):Prop where
 i1:1≤i
 j1:1≤j
 up:∀ v,v < n→v≠0→D v < i→¬ bad par x v
 at_:∀ v,v < n→v≠0→D v = i→bad par x v→Cert n par x p j v
 ij:i + j≤E + 1
 bud:r + tri (E + 1 - i) + j≤R + tri (E + 1)
theorem dep_pos (hT:Tree n par D E) {v:Nat} (hv:v < n) (h0:v≠0):1≤D v:=by have:=hT.dep v hv h0;omega
theorem Lev.start (hT:Tree n par D E) (hE:1≤E) (hq:∀ v,v < n→en n par x v→p v = true) {R r:Nat} (hr:r≤R):Lev n par D E x p R r 1 E :=
 ⟨Nat.le_refl _,hE,fun v hv h0 h=>by have:=dep_pos hT hv h0;omega,fun v hv h0 h hb=>Cert.start hT hq E v hv h0 (bad_dif hb) (by omega),by omega,by
   rw [show E + 1 - 1 = E by omega,tri];omega⟩
theorem Lev.step (hT:Tree n par D E) (hc:Ch n par x s) (hx:∀ v,v < n→0≤x v∧x v≤3) {p':Nat→Bool} {R r i j:Nat} (h:Lev n par D E x p R r i j)
 (hp:∀ v,v < n→p v = true→s v = false→en n par (st par s x) v→p' v = true):Lev n par D E (st par s x) p' R r i j:=by
 refine ⟨h.i1,h.j1,fun v hv h0 hi hb=>?_,fun v hv h0 hi hb=>?_,h.ij,h.bud⟩
 . rcases bad_back hT hc hx hv h0 hb with ⟨q,_⟩ | ⟨q1,q2⟩
   . exact h.up v hv h0 hi q
   . exact h.up (par v) (hT.lt v hv h0) q1 (by have:=hT.dep v hv h0;omega) q2
 . rcases bad_back hT hc hx hv h0 hb with ⟨q,q2⟩ | ⟨q1,q2⟩
   . exact Cert.step hT hc hp j v hv h0 (bad_dif q) q2 (h.at_ v hv h0 hi q)
   . exact (h.up (par v) (hT.lt v hv h0) q1 (by have:=hT.dep v hv h0;omega) q2).elim
theorem Lev.round (hT:Tree n par D E) {q:Nat→Bool} {R r i j:Nat} (h:Lev n par D E x p R r i j) (hz:∀ v,v < n→p v = false) (hq:∀ v,v < n→en n par x v→q v = true) (hb:∃ v,v < n∧v≠0∧bad par x v) :
 ∃ i' j',Lev n par D E x q R (r + 1) i' j':=by
 by_cases h1:j = 1
 . subst h1;have no:∀ v,v < n→v≠0→D v < i + 1→¬ bad par x v:=fun v hv h0 hi hbv=>by
    by_cases e:D v = i
    . have:=(h.at_ v hv h0 e hbv).1;rw [hz v hv] at this;cases this
    . exact h.up v hv h0 (by omega) hbv
   obtain ⟨v,hv,h0,hbv⟩:=hb;have hiE:i + 1≤E:=by
    have:=hT.top v hv;apply Classical.byContradiction;intro hne;exact no v hv h0 (by omega) hbv
   have hbud:=h.bud;refine ⟨i + 1,E - i,by omega,by omega,no,fun v hv h0 hi hbv=>Cert.start hT hq (E - i) v hv h0 (bad_dif hbv) (by omega),by omega,?_⟩;have e:E + 1 - i = (E + 1 - (i + 1)) + 1:=by omega
   rw [e,tri] at hbud;omega
 . have hj:=h.j1;obtain ⟨k,rfl⟩:∃ k,j = k + 1:=⟨j - 1,by omega⟩;have hbud:=h.bud;have hij:=h.ij;exact ⟨i,k,h.i1,by omega,h.up,fun v hv h0 hi hbv=>Cert.round hz hq k v hv h0 (bad_dif hbv) (h.at_ v hv h0 hi hbv),by omega,by omega⟩
end Go.Plain.Clock
namespace Go.Proofs.YtkimongfladmfaaGreatDoor
open Go.Eng
set_option maxRecDepth 100000
set_option linter.unusedVariables false
def phD (c:Cf) (v:Nat) (u:Int):Int:=(gI (gC c u.toNat) 2 - gI (gC c v) 2 + 4).tmod 4
def phB (g:G) (c:Cf):Bool:=decide (∀ v,v < c.length→0≤tw g c v→phD c v (tw g c v)≤1)
theorem phB_iff {g:G} {c:Cf}:phB g c = true↔∀ v,v < c.length→0≤tw g c v→phD c v (tw g c v)≤1:=by rw [phB,decide_eq_true_eq]
theorem treeB_tk (g:G) (c:Cf):treeB g (tkC c) = treeB g c:=by
 rw [Bool.eq_iff_iff,treeB_iff,treeB_iff,tkC_len];refine ⟨fun h v hv=>?_,fun h v hv=>?_⟩
 . have:=h v hv
   rwa [tkC_row,gI_take2 _ 0 (by omega),gI_take2 _ 1 (by omega)] at this
 . rw [tkC_row,gI_take2 _ 0 (by omega),gI_take2 _ 1 (by omega)];exact h v hv
theorem bconf_tk {g:G} {c:Cf} (h:g.cconf c = true):g.bconf (tkC c) = true:=by
 have h1:=conf_iff.1 h;refine conf_iff.2 ⟨by rw [tkC_len];exact h1.1,fun v hv=>?_⟩;have h2:=h1.2 v hv;refine ⟨by rw [tkC_row,List.length_take,h2.1];rfl,fun x hx=>?_⟩;have h3:=h2.2 x (by omega);rw [tkC_row,gI_take2 _ x hx];rcases (show x = 0∨x = 1 by omega) with rfl | rfl
 . rw [bG,show gI [(g.ids.length:Int),-1] 0 = g.ids.length from rfl,if_neg (by omega)];exact h3
 . exact h3
theorem csmall_tk {c:Cf} (h:CSmall c):CSmall (tkC c):=by
 refine ⟨by rw [tkC_len];exact h.len,fun r hr=>?_⟩;obtain ⟨a,ha,rfl⟩:=List.mem_map.1 hr;have:=h.rows a ha;rw [List.length_take];omega
theorem phD_go (c:Cf) (v:Nat) (u:Nat):(gI (gC c u) 2 - gI (gC c v) 2 + 4).tmod 4 = phD c v u:=by simp [phD]
theorem clegit_ok (g:G) (hs:g.Small) (c:Cf) (hc:CSmall c):Ret Tryz.prog 30 [g.v,cV c] (.bool (g.conn && g.cconf c && treeB g c && phB g c)):=by
 have h0:=cconfiguration_ok g hs c hc;refine ret_frz rfl ?_;refine fn_rule mixed Tryz.func30 rfl hc30 hr30 rfl ?_;cases hgc:g.conn && g.cconf c with
 | false =>
   rw [hgc] at h0
   repeat' ((conv=>whnf);first | (refine Br.ff ?_) | (refine h0.go ?_))
   all_goals (conv=>whnf)
   exact VLe.rfl
 | true =>
   rw [hgc] at h0;rw [Bool.true_and];rw [Bool.and_eq_true] at hgc;obtain ⟨h1,_⟩:=conn_facts hgc.1;obtain ⟨f1,f2,f3,f4,f5,f6,f7⟩:=val_facts h1;obtain ⟨e1,e2⟩:=cconf_facts hgc.2;have ht:=ctree_ok c (by omega) (fun v hv=>(e2 v hv).1);have hb:=blegit_ok g hs (tkC c) (csmall_tk hc);rw [hgc.1,bconf_tk hgc.2,treeB_tk,Bool.true_and,Bool.true_and] at hb;have hw:=towards_ok g h1 c (ptok h1 hgc.2);have hwl:=twL_len g c c.length;cases htb:treeB g c with
   | false =>
     rw [htb] at hb
     repeat' ((conv=>whnf);first | (refine Br.tt ?_) | (refine Br.ff ?_) | (refine h0.go ?_) | (refine ht.go ?_) | (refine hb.go ?_) | (refine And.intro rfl ?_))
     all_goals (conv=>whnf)
     exact VLe.rfl
   | true =>
     rw [htb] at hb;rw [Bool.true_and]
     repeat' ((conv=>whnf);first | (refine Br.tt ?_) | (refine h0.go ?_) | (refine ht.go ?_) | (refine hb.go ?_) | (refine hw.go ?_) | (refine And.intro rfl ?_))
     all_goals (conv=>whnf)
     refine loop_r mixed [1,20,21] (fun i:Nat=>[(22,.int .i64 i)]) (fun m i=>m = c.length - i∧i≤c.length∧∀ v,v < i→0≤tw g c v→phD c v (tw g c v)≤1) c.length 0 ⟨rfl,Nat.zero_le _,fun v hv=>by omega⟩ ?_ ?_
     . exact weak_b (fun _ _=>[(0,some 0)])
     rintro m i ⟨hm,hi,hall⟩;by_cases hil:i < c.length
     . have hx:=twL_get g c hil;have hr:=e2 i hil;obtain ⟨t1,t2⟩:=tw_tree hgc.1 hgc.2 htb hil;by_cases h0t:0≤tw g c i
       . have hlt:tw g c i < c.length:=by
          by_cases e:i = 0
          . have:=t1 e;omega
          . exact (t2 e).2
         have hru:=e2 (gI (twL g c c.length) i).toNat (by omega);have hp1:0≤gI (gC c i) (Int.toNat 2)∧gI (gC c i) (Int.toNat 2)≤3:=hr.2.2.2.2.2;have hp2:0≤gI (gC c (gI (twL g c c.length) i).toNat) (Int.toNat 2)∧gI (gC c (gI (twL g c c.length) i).toNat) (Int.toNat 2)≤3:=hru.2.2.2.2.2
         repeat' ((conv=>whnf);first | (refine Br.dec ?_ ?_ <;> intro _ <;> try omega) | (refine Ar.i64 (by omega) (by omega) ?_) | (refine Sv.mk _ rfl ?_) | (refine Nz.mk (by omega) ?_) | (refine Ix.nat (by omega) ?_) | (refine Ix.int (by omega) (by omega) ?_))
         all_goals (conv=>whnf)
         . rename_i hgt;refine VLe.bool ?_;cases e:phB g c with
           | false=>rfl
           | true =>
             have:=phB_iff.1 e i hil h0t;rw [phD,← hx] at this;exact absurd hgt (Int.not_lt.2 this)
         . rename_i hgt;refine ⟨c.length - (i + 1),i + 1,by omega,⟨rfl,by omega,fun v hv hv0=>?_⟩,?_⟩
           . by_cases e:v = i
             . subst e;rw [phD,← hx];exact Int.not_lt.1 hgt
             . exact hall v (by omega) hv0
           . exact weak_b (fun _ _=>[(0,some 0)])
       . repeat' ((conv=>whnf);first | (refine Br.dec ?_ ?_ <;> intro _ <;> try omega) | (refine Ar.i64 (by omega) (by omega) ?_) | (refine Ix.nat (by omega) ?_))
         all_goals (conv=>whnf)
         refine ⟨c.length - (i + 1),i + 1,by omega,⟨rfl,by omega,fun v hv hv0=>?_⟩,?_⟩
         . by_cases e:v = i
           . subst e;exact absurd hv0 h0t
           . exact hall v (by omega) hv0
         . exact weak_b (fun _ _=>[(0,some 0)])
     . repeat' ((conv=>whnf);first | (refine Br.dec ?_ ?_ <;> intro _ <;> try omega))
       all_goals (conv=>whnf)
       exact VLe.bool (phB_iff.2 (fun v hv=>hall v (by omega))).symm
end Go.Proofs.YtkimongfladmfaaGreatDoor
namespace Go.Proofs.YtkimongfladmfaaGreatDoor
open Go.Eng
set_option maxRecDepth 100000
set_option linter.unusedVariables false
def allT:Tm:=.agg 20 (.bin 42 (.bin 36 (.leaf 12 1) (.leaf 17 0)) (.bin 35 (.leaf 12 2) (.leaf 5 2)))
def someT:Tm:=.agg 21 (.bin 41 (.bin 35 (.leaf 11 0) (.leaf 5 1)) (.bin 36 (.leaf 12 2) (.leaf 5 2)))
def tickG:Tm:=.bin 41 (.leaf 10 0) allT
def copyG:Tm:=.bin 41 (.bin 41 (.un 19 (.leaf 10 0)) someT) allT
def tickT:Tm:=.bin 32 (.bin 33 (.leaf 5 2) (.leaf 1 1)) (.leaf 1 4)
def copyT:Tm:=.agg 26 (.ite (.bin 35 (.leaf 11 0) (.leaf 5 1)) (.leaf 12 2) (.leaf 1 0))
def pClk:Pr:=⟨ByteArray.mk #[99,108,111,99,107],vC',[⟨ByteArray.mk #[116,111,112],topG,[(0,.leaf 1 0),(1,.leaf 4 0)]⟩,
 ⟨ByteArray.mk #[108,111,119],lowG,[(0,dTm),(1,pTm)]⟩,
 ⟨ByteArray.mk #[116,105,99,107],tickG,[(2,tickT)]⟩,
 ⟨ByteArray.mk #[99,111,112,121],copyG,[(2,copyT)]⟩]⟩
abbrev xC (c:Cf) (v:Nat):Int:=gI (gC c v) 2
theorem clk_rng {g:G} {c:Cf} (h:Conf pClk g c) {v:Nat} (hv:v < g.ids.length):(gC c v).length = 3∧0≤dC c v∧dC c v≤g.ids.length∧-1≤pC c v∧pC c v≤((gR g.ports v).length:Int) - 1∧0≤xC c v∧xC c v≤3:=by
 have hl:v < c.length:=by rw [h.len];exact hv
 have h0:=h.val v hl 0 (by decide);have h1:=h.val v hl 1 (by decide);have h2:=h.val v hl 2 (by decide);have e0:bnd g (gV pClk.vars 0) v = (0,0 + 1 * (g.ids.length:Int) + 0 * topI g):=rfl;have e1:bnd g (gV pClk.vars 1) v = (-1,((gR g.ports v).length:Int) - 1):=rfl;have e2:bnd g (gV pClk.vars 2) v = (0,3 + 0 * (g.ids.length:Int) + 0 * topI g):=rfl;rw [e0] at h0;rw [e1] at h1;rw [e2] at h2;obtain ⟨a1,a2⟩:=h0;obtain ⟨b1,b2⟩:=h1;obtain ⟨d1,d2⟩:=h2;simp only at a1 a2 b1 b2 d1 d2;exact ⟨h.row v hl,a1,by show gI (gC c v) 0≤_;omega,b1,b2,d1,by show gI (gC c v) 2≤_;omega⟩
theorem cconf_of {g:G} {c:Cf} (h:Conf pClk g c):g.cconf c = true:=by
 rw [G.cconf,conf_iff];refine ⟨h.len,fun v hv=>?_⟩;obtain ⟨h0,h1,h2,h3,h4,h5,h6⟩:=clk_rng h hv;refine ⟨h0,fun x hx=>?_⟩;rcases (show x = 0∨x = 1∨x = 2 by omega) with rfl | rfl | rfl
 . exact ⟨h1,h2⟩
 . exact ⟨h3,h4⟩
 . exact ⟨h5,h6⟩
theorem fpI_hit {p:Int × Int→Bool}:∀ {l:Lt2'} {k:Nat},fpI p k l≠-1→∃ i,i < l.length∧fpI p k l = ((k + i:Nat):Int)∧p (gF l i) = true
 | [],_,h=>(h rfl).elim
 | a :: r,k,h=>by
   rw [fpI] at h ⊢;by_cases e:p a = true
   . rw [if_pos e];exact ⟨0,by simp,rfl,e⟩
   . rw [if_neg e] at h ⊢;obtain ⟨i,h1,h2,h3⟩:=fpI_hit h;exact ⟨i + 1,by simp;omega,by rw [h2];congr 1;omega,by simpa [gF] using h3⟩
theorem ptoI_hit {b:Int}:∀ {l:Lt2'} {k:Nat},(∃ a∈l,a.1 = b)→∃ i,i < l.length∧ptoI k l b = ((k + i:Nat):Int)∧(gF l i).1 = b
 | [],_,h=>by simp at h
 | a :: r,k,h=>by
   rw [ptoI];by_cases e:a.1 = b
   . rw [if_pos e];exact ⟨0,by simp,rfl,e⟩
   . rw [if_neg e];obtain ⟨x,hx,ex⟩:=h;rcases List.mem_cons.1 hx with q | q
     . rw [q] at ex;exact (e ex).elim
     . obtain ⟨i,h1,h2,h3⟩:=ptoI_hit (k:=k + 1) ⟨x,q,ex⟩;exact ⟨i + 1,by simp;omega,by rw [h2];congr 1;omega,by simpa [gF] using h3⟩
theorem gF_inj {r:Lt2'} (h:(r.map (·.1)).Nodup) {i j:Nat} (hi:i < r.length) (hj:j < r.length) (e:(gF r i).1 = (gF r j).1):i = j:=by
 have h1:(r.map (·.1))[i]'(by simpa using hi) = (r.map (·.1))[j]'(by simpa using hj):=by simpa [gF,List.getD,hi,hj] using e
 have hp:=List.pairwise_iff_getElem.1 h;rcases Nat.lt_trichotomy i j with q | q | q
 . exact (hp i j (by simpa using hi) (by simpa using hj) q h1).elim
 . exact q
 . exact (hp j i (by simpa using hj) (by simpa using hi) q h1.symm).elim
theorem maxL_mem:∀ {l:List Int} {a:Int} (m:Int),a∈l→a≤maxL l m
 | [],_,_,h=>by simp at h
 | x :: r,a,m,h=>by
   rw [maxL];rcases List.mem_cons.1 h with e | e
   . subst e;refine Int.le_trans ?_ (maxL_ge r _);split <;> omega
   . exact maxL_mem _ e
def parI (g:G) (v:Nat):Nat:=(gF (gR g.ports v) (upI g v).toNat).1.toNat
structure UpAt (g:G) (v:Nat) (i:Nat):Prop where
 lt:i < (gR g.ports v).length
 up:upI g v = (i:Int)
 par:(gF (gR g.ports v) i).1 = ((parI g v:Nat):Int)
 rng:parI g v < g.ids.length
 dep:Dg g v = Dg g (parI g v) + 1
theorem up_at {g:G} (h:g.conn = true) {v:Nat} (hv:v < g.ids.length) (h0:v≠0):∃ i,UpAt g v i:=by
 obtain ⟨h1,h2⟩:=conn_facts h;obtain ⟨f1,f2,f3,f4,f5,f6,f7⟩:=val_facts h1;obtain ⟨u1,u2⟩:=up_other h (by omega) h0;obtain ⟨i,hi,e,hp⟩:=fpI_hit (p:=nearB g v) (l:=gR g.ports v) (k:=0) (by rw [upI] at u1;omega);rw [Nat.zero_add] at e;have e:upI g v = (i:Int):=e;have hok:=(okR_iff.1 (f6 v (by omega))).1 _ (gF_mem hi);have ep:parI g v = (gF (gR g.ports v) i).1.toNat:=by rw [parI,e,Int.toNat_natCast]
 rw [nearB,decide_eq_true_eq] at hp;have d1:=dg_int h hv;have d2:=dg_int h (v:=(gF (gR g.ports v) i).1.toNat) (by omega);exact ⟨i,hi,e,by rw [ep];omega,by rw [ep];omega,by rw [ep];omega⟩
theorem treeC {g:G} (h:g.conn = true):Go.Plain.Clock.Tree g.ids.length (parI g) (Dg g) g.ecc.toNat:=by
 obtain ⟨h1,h2⟩:=conn_facts h;obtain ⟨f1,f2,f3,f4,f5,f6,f7⟩:=val_facts h1;refine ⟨by omega,fun v hv h0=>?_,fun v hv h0=>?_,((netB h).root 0 (by omega)).2 rfl,fun v hv=>?_⟩
 . obtain ⟨i,hu⟩:=up_at h hv h0;exact hu.rng
 . obtain ⟨i,hu⟩:=up_at h hv h0;exact hu.dep
 . have d1:=dg_int h hv;have e:g.ecc = maxL (dst g 0) (-1):=by rw [G.ecc,if_pos h]
   have hm:gI (dst g 0) v≤maxL (dst g 0) (-1):=maxL_mem _ (gI_mem (by rw [dst_len];omega));omega
theorem par_adj {g:G} (h:g.conn = true) {v:Nat} (hv:v < g.ids.length) (h0:v≠0):adN g v (parI g v) = true:=by
 obtain ⟨i,hu⟩:=up_at h hv h0;exact adj_iff.2 ⟨_,gF_mem hu.lt,by rw [hu.par,Int.toNat_natCast]⟩
theorem back_iff {g:G} (h:g.conn = true) {v:Nat} (hv:v < g.ids.length) {i:Nat} (hi:i < (gR g.ports v).length):upI g (nbV g v i) = backI g v i↔nbV g v i≠0∧parI g (nbV g v i) = v:=by
 obtain ⟨h1,h2⟩:=conn_facts h;obtain ⟨f1,f2,f3,f4,f5,f6,f7⟩:=val_facts h1;have hok:=(okR_iff.1 (f6 v (by omega))).1 _ (gF_mem hi);have eu:nbV g v i = (gF (gR g.ports v) i).1.toNat:=by simp [nbV]
 have hun:nbV g v i < g.ids.length:=by omega
 have hback:=f7 v (by omega) _ (gF_mem hi);rw [← eu] at hback;have eb:backI g v i = ptoI 0 (gR g.ports (nbV g v i)) v:=by rw [backI,eu]
 generalize nbV g v i = u at *;obtain ⟨b,hb,e,ev⟩:=ptoI_hit (k:=0) (b:=(v:Int)) ⟨_,hback,rfl⟩;rw [Nat.zero_add] at e;rw [eb,e];constructor
 . intro q;have h0:u≠0:=fun e0=>by rw [e0,up_root h] at q;omega
   exact ⟨h0,by rw [parI,q,Int.toNat_natCast,ev,Int.toNat_natCast]⟩
 . rintro ⟨h0,q⟩;obtain ⟨j,hu⟩:=up_at h hun h0;have hj:=hu.par;rw [q] at hj;rw [hu.up,gF_inj (okR_iff.1 (f6 u (by omega))).2 hu.lt hb (hj.trans ev.symm)]
def TrC (g:G) (c:Cf):Prop:=∀ v,v < g.ids.length→dC c v = ((Dg g v:Nat):Int)∧pC c v = upI g v
theorem cnt_all_iff (l:List Int):cntI l = l.length↔∀ a∈l,a≠0:=by
 rw [cntI,List.countP_eq_length];simp only [decide_eq_true_eq]
open Classical in
theorem all_sem {g:G} (h:g.conn = true) {c:Cf} (ht:TrC g c) {v:Nat} (hv:v < g.ids.length) (port:Int) :
 allT.sem g c v port = truI (decide (∀ u,Go.Plain.Clock.child g.ids.length (parI g) v u→¬ Go.Plain.Clock.dif (parI g) (xC c) u)):=by
 obtain ⟨h1,h2⟩:=conn_facts h;obtain ⟨f1,f2,f3,f4,f5,f6,f7⟩:=val_facts h1;show truI (decide (cntI ((List.range (gR g.ports v).length).map fun (i:Nat)=>truI (decide (truI (decide (gI (gC c (nbV g v i)) 1≠backI g v ((i:Nat):Int).toNat))≠0∨truI (decide (gI (gC c (nbV g v i)) 2 = gI (gC c v) 2))≠0))) = ((List.range (gR g.ports v).length).map fun (i:Nat)=>truI (decide (truI (decide (gI (gC c (nbV g v i)) 1≠backI g v ((i:Nat):Int).toNat))≠0∨truI (decide (gI (gC c (nbV g v i)) 2 = gI (gC c v) 2))≠0))).length)) = _;congr 1;rw [decide_eq_decide,cnt_all_iff];simp only [List.mem_map,List.mem_range,forall_exists_index,and_imp,forall_apply_eq_imp_iff₂,itru_ne,decide_eq_true_eq,Int.toNat_natCast];have hun:∀ i,i < (gR g.ports v).length→nbV g v i < g.ids.length:=fun i hi=>by
  have hok:=(okR_iff.1 (f6 v (by omega))).1 _ (gF_mem hi);have eu:nbV g v i = (gF (gR g.ports v) i).1.toNat:=by simp [nbV]
  omega
 constructor
 . intro hall u hc hd;obtain ⟨l,hl,e⟩:=adj_iff.1 ((adj_adj h1).sym u v hc.1 hv (by have:=par_adj h hc.1 hc.2.1;rw [hc.2.2] at this;exact this));obtain ⟨i,hi,e2⟩:=gF_of_mem hl;have eu:nbV g v i = u:=by simp only [nbV,Int.toNat_natCast];rw [e2];exact e
   rcases hall i hi with q | q
   . apply q;show pC c (nbV g v i) = _;rw [(ht _ (hun i hi)).2];exact (back_iff h hv hi).2 (by rw [eu];exact hc.2)
   . rw [eu] at q;exact hd (by rw [hc.2.2];exact q)
 . intro hall i hi;by_cases q:gI (gC c (nbV g v i)) 1 = backI g v i
   . right;have q':pC c (nbV g v i) = backI g v i:=q;rw [(ht _ (hun i hi)).2] at q';have hc:=(back_iff h hv hi).1 q';have:=hall _ ⟨hun i hi,hc⟩;rw [Go.Plain.Clock.dif,hc.2] at this;exact Classical.byContradiction fun e=>this e
   . exact .inl q
theorem some_semC {g:G} (h:g.conn = true) {c:Cf} (ht:TrC g c) {v:Nat} (hv:v < g.ids.length) (h0:v≠0) (port:Int) :
 someT.sem g c v port = truI (decide (xC c v≠xC c (parI g v))):=by
 obtain ⟨j,hu⟩:=up_at h hv h0;have hp:=(ht v hv).2;show truI (decide (0 < cntI ((List.range (gR g.ports v).length).map fun (i:Nat)=>truI (decide (truI (decide (((i:Nat):Int) = gI (gC c v) 1))≠0∧truI (decide (gI (gC c (nbV g v i)) 2≠gI (gC c v) 2))≠0))))) = _;congr 1;rw [decide_eq_decide,cnt_pos_iff];simp only [List.mem_map,List.mem_range,itru_ne,decide_eq_true_eq];have eu:nbV g v j = parI g v:=by simp only [nbV,Int.toNat_natCast];rw [hu.par];simp
 have hp':gI (gC c v) 1 = (j:Int):=by rw [← hu.up];exact hp
 constructor
 . rintro ⟨a,⟨i,hi,rfl⟩,ha⟩;rw [itru_ne,decide_eq_true_eq] at ha;obtain ⟨a1,a2⟩:=ha;have:i = j:=by omega
   subst this;rw [eu] at a2;exact fun e=>a2 e.symm
 . intro hne;refine ⟨_,⟨j,hu.lt,rfl⟩,?_⟩;rw [itru_ne,decide_eq_true_eq];exact ⟨hp'.symm,by rw [eu];exact fun e=>hne e.symm⟩
theorem sumI_one {f:Nat→Int} {j:Nat} (hz:∀ i,i≠j→f i = 0):∀ (n:Nat),sumI ((List.range n).map f) 0 = if j < n then f j else 0
 | 0=>by simp [sumI]
 | n + 1=>by
   rw [List.range_succ,List.map_append,List.map_singleton,sumI_snoc,sumI_one hz n];by_cases e:n = j
   . subst e;simp
   . rw [hz n e,Int.add_zero];by_cases q:j < n
     . rw [if_pos q,if_pos (by omega)]
     . rw [if_neg q,if_neg (by omega)]
theorem copy_sem {g:G} (h:g.conn = true) {c:Cf} (hc:Conf pClk g c) (ht:TrC g c) {v:Nat} (hv:v < g.ids.length) (h0:v≠0) (port:Int):copyT.sem g c v port = xC c (parI g v):=by
 obtain ⟨j,hu⟩:=up_at h hv h0;have hp:=(ht v hv).2;have eu:nbV g v j = parI g v:=by simp only [nbV,Int.toNat_natCast];rw [hu.par];simp
 have hp':gI (gC c v) 1 = (j:Int):=by rw [← hu.up];exact hp
 have hr:=clk_rng hc hu.rng;show sat (sumI ((List.range (gR g.ports v).length).map fun (i:Nat)=>if truI (decide (((i:Nat):Int) = gI (gC c v) 1))≠0 then gI (gC c (nbV g v i)) 2 else 0) 0) = _;rw [sumI_one (f:=fun (i:Nat)=>if truI (decide (((i:Nat):Int) = gI (gC c v) 1))≠0 then gI (gC c (nbV g v i)) 2 else 0) (j:=j),if_pos hu.lt]
 . rw [hp'];simp only [decide_true,itru_ne,if_true];rw [eu];have r1:=hr.2.2.2.2.2;exact sat_eq (by unfold inR;exact ⟨Int.le_trans (by omega) r1.1,Int.le_trans r1.2 (by omega)⟩)
 . intro i hne;simp only [itru_ne,decide_eq_true_eq];rw [if_neg (by omega)]
theorem tick_sem {g:G} {c:Cf} (hc:Conf pClk g c) {v:Nat} (hv:v < g.ids.length) (port:Int):tickT.sem g c v port = (xC c v + 1) % 4:=by
 have hr:=clk_rng hc hv;show binI 32 (binI 33 (xC c v) 1) 4 = _;have e1:binI 33 (xC c v) 1 = xC c v + 1:=sat_eq (by unfold inR;omega);rw [e1];generalize xC c v = a at *;obtain ⟨_,_,_,_,_,a0,a3⟩:=hr;rcases (show a = 0∨a = 1∨a = 2∨a = 3 by omega) with rfl | rfl | rfl | rfl <;> decide
end Go.Proofs.YtkimongfladmfaaGreatDoor
namespace Go.Proofs.YtkimongfladmfaaGreatDoor
open Go.Eng
set_option maxRecDepth 100000
set_option linter.unusedVariables false
def stT (c:Cf):Go.Plain.Tree.St:=⟨dC c,pC c⟩
theorem off_iff {g:G} {c:Cf} {v:Nat}:Go.Plain.Tree.off (tgB g) (stT c) v↔offB g c v = true:=by
 rw [offB,decide_eq_true_eq];exact Iff.rfl
theorem clk_gds (g:G) (c:Cf) (v:Nat):gds pClk g c v = [topG.sem g c v (-1),lowG.sem g c v (-1),tickG.sem g c v (-1),copyG.sem g c v (-1)]:=rfl
theorem clk_nn {g:G} {c:Cf} (hc:Conf pClk g c):∀ v,v < g.ids.length→0≤dC c v:=fun v hv=>(clk_rng hc hv).2.1
theorem clk_off {g:G} (hg:g.valid = true) {c:Cf} (hc:Conf pClk g c) {v:Nat} (hv:v < g.ids.length) (ho:offB g c v = true):ruleI pClk g c v = if v = 0 then 0 else 1:=by
 rw [ruleI,clk_gds,top_sem,low_sem hg (clk_nn hc) hv,ho];by_cases h0:v = 0
 . rw [decide_eq_true h0,if_pos h0];rfl
 . rw [decide_eq_false h0,if_neg h0];rfl
theorem clk_noff {g:G} (hg:g.valid = true) {c:Cf} (hc:Conf pClk g c) {v:Nat} (hv:v < g.ids.length) (ho:offB g c v = false):ruleI pClk g c v = if tickG.sem g c v (-1)≠0 then 2 else if copyG.sem g c v (-1)≠0 then 3 else -1:=by
 rw [ruleI,clk_gds,top_sem,low_sem hg (clk_nn hc) hv,ho,Bool.and_false,Bool.and_false];rfl
theorem tr_ok {g:G} (h:g.conn = true) {c:Cf} (ht:TrC g c):Go.Plain.Tree.Ok g.ids.length (Dg g) (upI g) (stT c) g.ids.length :=
 ⟨fun v hv _=>ht v hv,fun v hv hk=>by have:=(netB h).top v hv;omega⟩
theorem ok_tr {g:G} (h:g.conn = true) {c:Cf} {k:Nat} (ho:Go.Plain.Tree.Ok g.ids.length (Dg g) (upI g) (stT c) k) (hk:∀ v,v < g.ids.length→Dg g v < k):TrC g c :=
 fun v hv=>ho.low v hv (hk v hv)
theorem tr_noff {g:G} (h:g.conn = true) {c:Cf} (ht:TrC g c) {v:Nat} (hv:v < g.ids.length):offB g c v = false:=by
 have:=(tr_ok h ht).all (netB h) (ruleB h) hv (by have:=(netB h).top v hv;omega);rw [off_iff] at this;simpa using this
open Classical in
theorem clk_on {g:G} (h:g.conn = true) {c:Cf} (hc:Conf pClk g c) (ht:TrC g c) {v:Nat} (hv:v < g.ids.length):ruleI pClk g c v = if Go.Plain.Clock.en g.ids.length (parI g) (xC c) v then (if v = 0 then 2 else 3) else -1:=by
 obtain ⟨h1,h2⟩:=conn_facts h;rw [clk_noff h1 hc hv (tr_noff h ht hv)];have e1:tickG.sem g c v (-1)≠0↔v = 0∧∀ u,Go.Plain.Clock.child g.ids.length (parI g) v u→¬ Go.Plain.Clock.dif (parI g) (xC c) u:=by
  show truI (decide (truI (decide (v = 0))≠0∧allT.sem g c v (-1)≠0))≠0↔_;rw [all_sem h ht hv];simp only [itru_ne,decide_eq_true_eq]
 have e2:copyG.sem g c v (-1)≠0↔(v≠0∧someT.sem g c v (-1)≠0)∧∀ u,Go.Plain.Clock.child g.ids.length (parI g) v u→¬ Go.Plain.Clock.dif (parI g) (xC c) u:=by
  show truI (decide (truI (decide (truI (decide (truI (decide (v = 0)) = 0))≠0∧someT.sem g c v (-1)≠0))≠0∧allT.sem g c v (-1)≠0))≠0↔_;rw [all_sem h ht hv];simp only [itru_ne,itru_eq0,decide_eq_true_eq,decide_eq_false_iff_not]
 by_cases h0:v = 0
 . have e3:¬ copyG.sem g c v (-1)≠0:=fun q=>(e2.1 q).1.1 h0;rw [if_neg e3];by_cases q:Go.Plain.Clock.en g.ids.length (parI g) (xC c) v
   . rw [if_pos (e1.2 ⟨h0,q.1⟩),if_pos q,if_pos h0]
   . rw [if_neg (fun e=>q ⟨(e1.1 e).2,fun e0=>(e0 h0).elim⟩),if_neg q]
 . rw [if_neg (fun q=>h0 (e1.1 q).1)];have e3:someT.sem g c v (-1)≠0↔Go.Plain.Clock.dif (parI g) (xC c) v:=by
    rw [some_semC h ht hv h0,itru_ne,decide_eq_true_eq];exact Iff.rfl
   by_cases q:Go.Plain.Clock.en g.ids.length (parI g) (xC c) v
   . rw [if_pos (e2.2 ⟨⟨h0,e3.2 (q.2 h0)⟩,q.1⟩),if_pos q,if_neg h0]
   . rw [if_neg (fun e=>q ⟨(e2.1 e).2,fun _=>e3.1 (e2.1 e).1.2⟩),if_neg q]
theorem on_en {g:G} (h:g.conn = true) {c:Cf} (hc:Conf pClk g c) (ht:TrC g c) {v:Nat} (hv:v < g.ids.length):(enN pClk g c).testBit v = true↔Go.Plain.Clock.en g.ids.length (parI g) (xC c) v:=by
 rw [en_bit,clk_on h hc ht hv,decide_eq_true hv,Bool.true_and,decide_eq_true_eq];by_cases q:Go.Plain.Clock.en g.ids.length (parI g) (xC c) v
 . rw [if_pos q];refine ⟨fun _=>q,fun _=>?_⟩;split <;> omega
 . rw [if_neg q];exact ⟨fun e=>by omega,fun e=>(q e).elim⟩
theorem mv0 (g:G) (c:Cf) (v:Nat):moveL pClk g c v 0 = ((gC c v).set 0 (brI 1 0 (0 + 1 * (g.ids.length:Int) + 0 * topI g) 0)).set 1 (brI 3 (-1) (((gR g.ports v).length:Int) - 1) (-1)):=rfl
theorem mv1 (g:G) (c:Cf) (v:Nat):moveL pClk g c v 1 = ((gC c v).set 0 (brI 1 0 (0 + 1 * (g.ids.length:Int) + 0 * topI g) (dTm.sem g c v (-1)))).set 1 (brI 3 (-1) (((gR g.ports v).length:Int) - 1) (pTm.sem g c v (-1))):=rfl
theorem mv2 (g:G) (c:Cf) (v:Nat):moveL pClk g c v 2 = (gC c v).set 2 (brI 1 0 (3 + 0 * (g.ids.length:Int) + 0 * topI g) (tickT.sem g c v (-1))):=rfl
theorem mv3 (g:G) (c:Cf) (v:Nat):moveL pClk g c v 3 = (gC c v).set 2 (brI 1 0 (3 + 0 * (g.ids.length:Int) + 0 * topI g) (copyT.sem g c v (-1))):=rfl
theorem brI_val {k lo hi a:Int} (h:lo≤a∧a≤hi):brI k lo hi a = a:=by rw [brI,if_pos h]
theorem tgB_rng {g:G} (hg:g.valid = true) {c:Cf} (hc:Conf pClk g c) {v:Nat} (hv:v < g.ids.length) (h0:v≠0):0≤(tgB g (dC c) v).1∧(tgB g (dC c) v).1≤g.ids.length∧-1≤(tgB g (dC c) v).2∧(tgB g (dC c) v).2≤((gR g.ports v).length:Int) - 1:=by
 have hm:=mn_nn (clk_nn hc) hg hv;have hf:=fpI_range (fun l=>decide (dC c l.1.toNat = mnD g (dC c) v)) (gR g.ports v) 0;rw [tgB,if_neg h0];simp only;split <;> omega
theorem clk_step {g:G} (hg:g.valid = true) {c:Cf} (hc:Conf pClk g c) {s:Nat} (hs:Part s (enN pClk g c)):Go.Plain.Tree.Step g.ids.length (tgB g) (stT c) (fun v=>s.testBit v) (stT (stepC pClk g c s)):=by
 intro v hv;have hl:=hc.len;have hlen:=(clk_rng hc hv).1;have hrow:=stepC_row pClk g c s (v:=v) (by omega);refine ⟨fun hb ho=>?_,fun hq=>?_⟩
 . rw [off_iff] at ho;rw [if_pos hb,clk_off hg hc hv ho] at hrow;show (gI (gC (stepC pClk g c s) v) 0,gI (gC (stepC pClk g c s) v) 1) = tgB g (dC c) v;by_cases h0:v = 0
   . rw [if_pos h0] at hrow;rw [hrow,show (0:Int).toNat = 0 from rfl,mv0];rw [gI_stx _ _ _ _ (by rw [List.length_set];omega),if_neg (by decide),gI_stx _ _ _ _ (by omega),if_pos rfl,gI_stx _ _ _ _ (by rw [List.length_set];omega),if_pos rfl,tgB,if_pos h0,brI_val (by omega),brI_val (by omega)]
   . rw [if_neg h0] at hrow;obtain ⟨r1,r2,r3,r4⟩:=tgB_rng hg hc hv h0;rw [hrow,show (1:Int).toNat = 1 from rfl,mv1,d_sem hg (clk_nn hc) hv h0,p_sem g c v h0];rw [gI_stx _ _ _ _ (by rw [List.length_set];omega),if_neg (by decide),gI_stx _ _ _ _ (by omega),if_pos rfl,gI_stx _ _ _ _ (by rw [List.length_set];omega),if_pos rfl,brI_val (by omega),brI_val (by omega)]
 . show gI (gC (stepC pClk g c s) v) 0 = gI (gC c v) 0∧gI (gC (stepC pClk g c s) v) 1 = gI (gC c v) 1;cases hb:s.testBit v with
   | false=>rw [hrow,hb];exact ⟨rfl,rfl⟩
   | true =>
     have ho:offB g c v = false:=by
      rcases hq with q | q
      . exact absurd (hb.symm.trans q) (by simp)
      . rw [off_iff] at q;simpa using q
     have hen:=hs v hb;rw [en_bit,Bool.and_eq_true,decide_eq_true_eq,decide_eq_true_eq] at hen;have hr:=clk_noff hg hc hv ho;rw [if_pos hb] at hrow;by_cases q1:tickG.sem g c v (-1)≠0
     . rw [if_pos q1] at hr;rw [hrow,hr,show (2:Int).toNat = 2 from rfl,mv2,gI_stx _ _ _ _ (by omega),gI_stx _ _ _ _ (by omega),if_neg (by decide),if_neg (by decide)];exact ⟨rfl,rfl⟩
     . rw [if_neg q1] at hr;by_cases q2:copyG.sem g c v (-1)≠0
       . rw [if_pos q2] at hr;rw [hrow,hr,show (3:Int).toNat = 3 from rfl,mv3,gI_stx _ _ _ _ (by omega),gI_stx _ _ _ _ (by omega),if_neg (by decide),if_neg (by decide)];exact ⟨rfl,rfl⟩
       . rw [if_neg q2] at hr;omega
theorem clk_ch {g:G} (h:g.conn = true) {c:Cf} (hc:Conf pClk g c) (ht:TrC g c) {s:Nat} (hs:Part s (enN pClk g c)):Go.Plain.Clock.Ch g.ids.length (parI g) (xC c) (fun v=>s.testBit v) :=
 ⟨fun v hv=>by
   have hb:=hs v hv;have hlt:v < g.ids.length:=by rw [en_bit,Bool.and_eq_true,decide_eq_true_eq] at hb;exact hb.1
   exact ⟨hlt,(on_en h hc ht hlt).1 hb⟩⟩
theorem clk_x {g:G} (h:g.conn = true) {c:Cf} (hc:Conf pClk g c) (ht:TrC g c) {s:Nat} (hs:Part s (enN pClk g c)):xC (stepC pClk g c s) = Go.Plain.Clock.st (parI g) (fun v=>s.testBit v) (xC c):=by
 funext v;have hl:=hc.len;show gI (gC (stepC pClk g c s) v) 2 = _;rw [Go.Plain.Clock.st];by_cases hv:v < g.ids.length
 . have hlen:=(clk_rng hc hv).1;rw [stepC_row pClk g c s (by omega)];cases hb:s.testBit v with
   | false=>rfl
   | true =>
     have hen:=((clk_ch h hc ht hs).en v hb).2;rw [if_pos rfl,if_pos rfl,clk_on h hc ht hv,if_pos hen];by_cases h0:v = 0
     . have hr:=(clk_rng hc hv).2.2.2.2.2;rw [if_pos h0,if_pos h0,show (2:Int).toNat = 2 from rfl,mv2,gI_stx _ _ _ _ (by omega),if_pos rfl,tick_sem hc hv,brI_val (by omega),h0]
     . obtain ⟨i,hu⟩:=up_at h hv h0;have hr:=(clk_rng hc hu.rng).2.2.2.2.2;rw [if_neg h0,if_neg h0,show (3:Int).toNat = 3 from rfl,mv3,gI_stx _ _ _ _ (by omega),if_pos rfl,copy_sem h hc ht hv h0,brI_val (by omega)]
 . have hb:s.testBit v = false:=by
    cases e:s.testBit v with
    | false=>rfl
    | true =>
      have:=hs v e;rw [en_bit,Bool.and_eq_true,decide_eq_true_eq] at this;exact (hv this.1).elim
   simp only [hb,Bool.false_eq_true,if_false];have e1:gC (stepC pClk g c s) v = gC c v:=by
    simp only [gC,List.getD];rw [List.getElem?_eq_none (by rw [stepC_len];omega),List.getElem?_eq_none (by omega)]
   rw [e1]
theorem tr_step {g:G} (h:g.conn = true) {c:Cf} (hc:Conf pClk g c) (ht:TrC g c) {s:Nat} (hs:Part s (enN pClk g c)):TrC g (stepC pClk g c s):=by
 obtain ⟨h1,h2⟩:=conn_facts h;exact ok_tr h ((tr_ok h ht).step (netB h) (ruleB h) (clk_step h1 hc hs)).1 fun v hv=>by have:=(netB h).top v hv;omega
def G.cleg (g:G) (c:Cf):Bool:=g.conn && g.cconf c && treeB g c && phB g c
theorem cleg_iff {g:G} (h:g.conn = true) {c:Cf} (hc:Conf pClk g c):g.cleg c = true↔TrC g c∧∀ v,v < g.ids.length→v≠0→¬ Go.Plain.Clock.bad (parI g) (xC c) v:=by
 have hl:=hc.len;rw [G.cleg,h,cconf_of hc,Bool.true_and,Bool.true_and,Bool.and_eq_true,treeB_iff,phB_iff];have e1:(∀ v,v < c.length→gI (gC c v) 0 = gI (dst g 0) v∧gI (gC c v) 1 = upI g v)↔TrC g c:=by
  rw [hl];refine forall_congr' fun v=>forall_congr' fun hv=>?_;rw [← dg_int h hv]
 rw [e1];refine and_congr_right fun ht=>?_;rw [hl];refine forall_congr' fun v=>forall_congr' fun hv=>?_;have hp:=(ht v hv).2;have hp':gI (gC c v) 1 = upI g v:=hp;by_cases h0:v = 0
 . have e:tw g c v = -1:=by rw [tw,hp',h0,up_root h];rfl
   rw [e];exact ⟨fun _ q=>(q h0).elim,fun _ q=>by omega⟩
 . obtain ⟨i,hu⟩:=up_at h hv h0;have e:tw g c v = ((parI g v:Nat):Int):=by rw [tw,hp',hu.up,if_pos (by omega),Int.toNat_natCast,hu.par]
   have r1:=(clk_rng hc hv).2.2.2.2.2;have r2:=(clk_rng hc hu.rng).2.2.2.2.2;have e2:phD c v ((parI g v:Nat):Int) = Go.Plain.Clock.df (parI g) (xC c) v:=by
    rw [← phD_go,Go.Plain.Clock.df];show (xC c (parI g v) - xC c v + 4).tmod 4 = _;rw [Int.tmod_eq_emod_of_nonneg (by omega)];omega
   rw [e,e2,Go.Plain.Clock.bad];exact ⟨fun q _=>by have:=q (by omega);omega,fun q _=>by have:=q h0;omega⟩
theorem cleg_step {g:G} (h:g.conn = true) {c:Cf} (hc:Conf pClk g c) (hl:g.cleg c = true) {s:Nat} (hs:Part s (enN pClk g c)) (hc':Conf pClk g (stepC pClk g c s)):g.cleg (stepC pClk g c s) = true:=by
 obtain ⟨ht,hb⟩:=(cleg_iff h hc).1 hl;refine (cleg_iff h hc').2 ⟨tr_step h hc ht hs,fun v hv h0 q=>?_⟩;rw [clk_x h hc ht hs] at q;have hT:=treeC h;rcases Go.Plain.Clock.bad_back hT (clk_ch h hc ht hs) (fun v hv=>(clk_rng hc hv).2.2.2.2.2) hv h0 q with ⟨q1,_⟩ | ⟨q1,q2⟩
 . exact hb v hv h0 q1
 . exact hb _ (hT.lt v hv h0) q1 q2
end Go.Proofs.YtkimongfladmfaaGreatDoor
namespace Go.Eng
open Go.MapKept (bytes_beq)
noncomputable def fN {β:Type} (n:Nat) (K:Nat→β):β:=@Nat.rec (fun _=>β) (K 0) (fun m _=>K (Nat.succ m)) n
theorem fN_eq {β:Type} (n:Nat) (K:Nat→β):fN n K = K n:=by cases n <;> rfl
noncomputable def fI {β:Type} (n:Int) (K:Int→β):β:=@Int.rec (fun _=>β) (fun a=>fN a fun a=>K (.ofNat a)) (fun a=>fN a fun a=>K (.negSucc a)) n
theorem fI_eq {β:Type} (n:Int) (K:Int→β):fI n K = K n:=by cases n <;> simp [fI,fN_eq]
noncomputable def fB {β:Type} (b:Bool) (K:Bool→β):β:=@Bool.rec (fun _=>β) (K false) (K true) b
theorem fB_eq {β:Type} (b:Bool) (K:Bool→β):fB b K = K b:=by cases b <;> rfl
noncomputable def lk {α:Type} (l:List (Nat × α)) (t:Nat):Option α :=
 @List.rec (Nat × α) (fun _=>Option α) none (fun p _ ih=>@Prod.rec Nat α (fun _=>Option α) (fun k v=>@Bool.rec (fun _=>Option α) ih (some v) (Nat.beq k t)) p) l
theorem lk_eq {α:Type} (l:List (Nat × α)) (t:Nat):lk l t = look l t:=by
 induction l with
 | nil=>rfl
 | cons p r ih =>
   obtain ⟨k,v⟩:=p;unfold look;show @Bool.rec (fun _=>Option α) (lk r t) (some v) (Nat.beq k t) = _;cases Nat.beq k t <;> simp [ih]
noncomputable def nt {α:Type} (l:List α) (n:Nat):Option α :=
 @List.rec α (fun _=>Nat→Option α) (fun _=>none) (fun x _ ih n=>@Nat.rec (fun _=>Option α) (some x) (fun m _=>ih m) n) l n
theorem nt_eq {α:Type} (l:List α) (n:Nat):nt l n = nth l n:=by
 induction l generalizing n with
 | nil=>rfl
 | cons x r ih=>cases n with
   | zero=>rfl
   | succ n=>exact ih n
theorem nth_get {α:Type}:∀ (l:List α) (n:Nat),nth l n = l[n]?
 | [],n=>by simp [nth]
 | x :: r,0=>by simp [nth]
 | x :: r,n + 1=>by simp [nth,nth_get r n]
noncomputable def dr {α:Type} (l:List α) (n:Nat):List α :=
 @List.rec α (fun _=>Nat→List α) (fun _=>[]) (fun x r ih n=>@Nat.rec (fun _=>List α) (x :: r) (fun m _=>ih m) n) l n
theorem dr_eq {α:Type} (l:List α) (n:Nat):dr l n = l.drop n:=by
 induction l generalizing n with
 | nil=>simp [dr]
 | cons x r ih=>cases n with
   | zero=>rfl
   | succ n=>exact ih n
noncomputable def fH {α β:Type} (l:List α) (K:List α→β):β:=@List.rec α (fun _=>β) (K []) (fun x r _=>K (x :: r)) l
theorem fH_eq {α β:Type} (l:List α) (K:List α→β):fH l K = K l:=by cases l <;> rfl
noncomputable def tk {α β:Type} (n:Nat):List α→(List α→Option β)→Option β :=
 @Nat.rec (fun _=>List α→(List α→Option β)→Option β) (fun _ K=>K []) (fun _ ih l K=>@List.rec α (fun _=>Option β) none (fun x r _=>ih r fun q=>K (x :: q)) l) n
theorem tk_eq {α β:Type} (n:Nat) (l:List α) (K:List α→Option β):tk n l K = if n≤l.length then K (l.take n) else none:=by
 induction n generalizing l K with
 | zero=>simp only [Nat.zero_le,if_true,List.take_zero];rfl
 | succ n ih=>cases l with
   | nil=>rfl
   | cons x r =>
     show tk n r (fun q=>K (x :: q)) = _;rw [ih];simp
def bl:Nat→Nat→List UInt8
 | 0,_=>[]
 | l + 1,c=>UInt8.ofNat (c % 256) :: bl l (c / 256)
def bytesOf (l c:Nat):ByteArray:=⟨⟨bl l c⟩⟩
def encL:List UInt8→Nat
 | []=>0
 | b :: r=>b.toNat + 256 * encL r
theorem bl_length:∀ (l c:Nat),(bl l c).length = l
 | 0,_=>rfl
 | l + 1,c=>by simp [bl,bl_length]
theorem bl_enc:∀ (l:List UInt8),bl l.length (encL l) = l
 | []=>rfl
 | b :: r=>by
   have hb:=b.toNat_lt;simp only [List.length_cons,bl,encL];rw [show (b.toNat + 256 * encL r) % 256 = b.toNat by omega,show (b.toNat + 256 * encL r) / 256 = encL r by omega,bl_enc r];simp
theorem bl_get:∀ (l c m:Nat),m < l→(bl l c)[m]? = some (UInt8.ofNat (c / 256 ^ m % 256))
 | 0,c,m,h=>by omega
 | l + 1,c,0,h=>by simp [bl]
 | l + 1,c,m + 1,h=>by
   simp only [bl,List.getElem?_cons_succ];rw [bl_get l _ m (by omega),Nat.div_div_eq_div_mul,Nat.pow_succ,Nat.mul_comm 256]
theorem bl_drop:∀ (l c m:Nat),(bl l c).drop m = bl (l - m) (c / 256 ^ m)
 | 0,c,m=>by simp [bl]
 | l + 1,c,0=>by simp
 | l + 1,c,m + 1=>by
   simp only [bl,List.drop_succ_cons];rw [bl_drop l _ m,Nat.div_div_eq_div_mul,Nat.pow_succ,Nat.mul_comm 256,show l + 1 - (m + 1) = l - m by omega]
theorem bl_take:∀ (l c m:Nat),m≤l→(bl l c).take m = bl m c
 | l,c,0,h=>by simp [bl]
 | 0,c,m + 1,h=>by omega
 | l + 1,c,m + 1,h=>by simp [bl,bl_take l _ m (by omega)]
theorem bl_mod:∀ (l c:Nat),bl l (c % 256 ^ l) = bl l c
 | 0,c=>rfl
 | l + 1,c=>by
   simp only [bl];have h1:c % 256 ^ (l + 1) % 256 = c % 256:=by
    rw [Nat.pow_succ,Nat.mul_comm];exact Nat.mod_mul_right_mod _ _ _
   have h2:c % 256 ^ (l + 1) / 256 = c / 256 % 256 ^ l:=by
    rw [Nat.pow_succ,Nat.mul_comm,Nat.mod_mul_right_div_self]
   rw [h1,h2,bl_mod]
theorem bl_inj:∀ (l c d:Nat),bl l c = bl l d→c % 256 ^ l = d % 256 ^ l
 | 0,c,d,_=>by simp [Nat.mod_one]
 | l + 1,c,d,h=>by
   simp only [bl,List.cons.injEq] at h;have h1:c % 256 = d % 256:=by
    have:=congrArg UInt8.toNat h.1;simpa using this
   have h2:=bl_inj l _ _ h.2;rw [Nat.pow_succ,Nat.mul_comm,Nat.mod_mul,Nat.mod_mul,h1,h2]
theorem bl_app:∀ (l c l' c':Nat),bl l c ++ bl l' c' = bl (l + l') (c % 256 ^ l + 256 ^ l * c')
 | 0,c,l',c'=>by simp [bl,Nat.mod_one]
 | l + 1,c,l',c'=>by
   rw [show l + 1 + l' = (l + l') + 1 by omega];simp only [bl,List.cons_append];rw [bl_app l _ l' c'];have e:c % 256 ^ (l + 1) = c % 256 + 256 * (c / 256 % 256 ^ l):=by
    rw [Nat.pow_succ,Nat.mul_comm (256 ^ l),Nat.mod_mul]
   have e2:256 ^ (l + 1) * c' = 256 * (256 ^ l * c'):=by rw [Nat.pow_succ,Nat.mul_comm (256 ^ l),Nat.mul_assoc]
   rw [e,e2];have hlt:c % 256 < 256:=Nat.mod_lt _ (by omega);rw [show (c % 256 + 256 * (c / 256 % 256 ^ l) + 256 * (256 ^ l * c')) % 256 = c % 256 by omega,show (c % 256 + 256 * (c / 256 % 256 ^ l) + 256 * (256 ^ l * c')) / 256 = c / 256 % 256 ^ l + 256 ^ l * c' by omega]
theorem bytesOf_size (l c:Nat):(bytesOf l c).size = l:=by
 show (bl l c).length = l;exact bl_length l c
theorem bytesOf_enc (b:ByteArray):bytesOf b.size (encL b.data.toList) = b:=by
 obtain ⟨⟨l⟩⟩:=b;show ByteArray.mk ⟨bl l.length (encL l)⟩ = _;rw [bl_enc]
theorem bytesOf_get (l c m:Nat) (h:m < l):((bytesOf l c).get! m).toNat = c / 256 ^ m % 256:=by
 have h1:=bl_get l c m h;show ((bytesOf l c).data[m]!).toNat = _;have:(bytesOf l c).data[m]! = UInt8.ofNat (c / 256 ^ m % 256):=by
  rw [getElem!_def,show (bytesOf l c).data[m]? = some (UInt8.ofNat (c / 256 ^ m % 256)) from by simpa [bytesOf] using h1]
 rw [this];simp
theorem bytesOf_extract (l c lo hi:Nat) (h:hi≤l):(bytesOf l c).extract lo hi = bytesOf (hi - lo) (c / 256 ^ lo):=by
 apply ByteArray.ext;rw [ByteArray.data_extract];show (Array.mk (bl l c)).extract lo hi = Array.mk (bl (hi - lo) (c / 256 ^ lo));apply Array.ext';simp only [Array.toList_extract,List.extract_eq_take_drop];rw [bl_drop,bl_take _ _ _ (by omega)]
theorem bytesOf_mod (l c:Nat):bytesOf l (c % 256 ^ l) = bytesOf l c:=by unfold bytesOf;rw [bl_mod]
theorem bytesOf_app (l c l' c':Nat):bytesOf l c ++ bytesOf l' c' = bytesOf (l + l') (c % 256 ^ l + 256 ^ l * c'):=by
 apply ByteArray.ext;rw [ByteArray.data_append];show Array.mk (bl l c) ++ Array.mk (bl l' c') = Array.mk _;simp [bl_app]
def eqS (l c l' c':Nat):Bool:=match Nat.beq l l' with
 | true=>Nat.beq (Nat.mod c (Nat.pow 256 l)) (Nat.mod c' (Nat.pow 256 l))
 | false=>false
theorem eqS_eq (l c l' c':Nat):eqS l c l' c' = (bytesOf l c == bytesOf l' c'):=by
 unfold eqS;have hb:(bytesOf l c == bytesOf l' c') = decide (bytesOf l c = bytesOf l' c'):=by
  rw [Bool.eq_iff_iff,bytes_beq];simp
 rw [hb];split
 . rename_i h;have h:=Nat.eq_of_beq_eq_true h;subst h;rw [Bool.eq_iff_iff,Nat.beq_eq,decide_eq_true_eq];constructor
   . intro h;have h:c % 256 ^ l = c' % 256 ^ l:=h;rw [← bytesOf_mod l c,h,bytesOf_mod]
   . intro h;exact bl_inj l c c' (by simpa [bytesOf] using h)
 . rename_i h;symm;rw [decide_eq_false_iff_not];intro e;have:=congrArg ByteArray.size e;rw [bytesOf_size,bytesOf_size] at this;subst this;simp at h
inductive C where
 | nilptr | nilmap | nilfunc | niliface
 | unit
 | map (k:Nat)
 | fn (f:Fn) (b:Bool) (cap:List C)
 | iface (t:TypeId) (v:C)
 | fe (n s:Nat) (z:List C) (rows:List (List C)) (i j:Nat)
 | oel (k s i j:Nat)
 | fz (n s:Nat) (full:Bool) (z:List C) (rows:List (List C))
 | tup (vs:List C)
 | agg (cs:List C)
 | nilslice
 | vec (k s lo len:Nat)
 | loc (k off:Nat)
 | str (l c:Nat)
 | bool (b:Bool)
 | int (k:IntKind) (n:Int)
 deriving Inhabited
def lastV:List V→V
 | []=>default
 | [v]=>v
 | _ :: r=>lastV r
def tabz (z:List V) (rows:List (List V)):Nat→Nat→V:=fun i j=>(rows.getD i z).getD j (lastV z)
mutual
def C.v:C→V
 | .bool b=>.bool b
 | .int k n=>.int k n
 | .str l c=>.str (bytesOf l c)
 | .nilptr=>.nilptr | .nilslice=>.nilslice | .nilmap=>.nilmap | .nilfunc=>.nilfunc | .niliface=>.niliface
 | .loc k off=>.loc k off
 | .oel k s i j=>.oel k s i j
 | .vec k s lo len=>.vec k s lo len
 | .fz n s full z rows=>.fz n s full (tabz (C.vs z) (C.vss rows))
 | .fe n s z rows i j=>.fe n s (tabz (C.vs z) (C.vss rows)) i j
 | .map k=>.map k
 | .fn f b cap=>.fn f b (C.vs cap)
 | .iface t v=>.iface t v.v
 | .agg cs=>.agg (C.vs cs)
 | .tup cs=>.tup (C.vs cs)
 | .unit=>.raw (.tuple #[])
def C.vs:List C→List V
 | []=>[]
 | c :: r=>c.v :: C.vs r
def C.vss:List (List C)→List (List V)
 | []=>[]
 | c :: r=>C.vs c :: C.vss r
end
theorem C.vs_map:∀ (l:List C),C.vs l = l.map C.v
 | []=>by simp [C.vs]
 | c :: r=>by simp [C.vs,C.vs_map r]
theorem C.vss_map:∀ (l:List (List C)),C.vss l = l.map C.vs
 | []=>by simp [C.vss]
 | c :: r=>by simp [C.vss,C.vss_map r]
theorem C.vs_length (l:List C):(C.vs l).length = l.length:=by simp [C.vs_map]
theorem C.vs_get (l:List C) (i:Nat):(C.vs l)[i]? = (l[i]?).map C.v:=by simp [C.vs_map]
theorem C.vss_get (l:List (List C)) (i:Nat):(C.vss l)[i]? = (l[i]?).map C.vs:=by simp [C.vss_map]
abbrev CEnv:=List (Nat × C)
inductive CB where
 | cells (cs:List C)
 | vec (n s:Nat) (z:List C) (rows:List (List C))
 | map (ik:IntKind) (es:List (Int × C))
 | mapS (es:List ((Nat × Nat) × C))
 deriving Inhabited
abbrev COwn:=List (Nat × CB)
def CB.b:CB→Blk
 | .cells cs=>.cells (C.vs cs)
 | .vec n s z rows=>.vec n s (tabz (C.vs z) (C.vss rows))
 | .map ik es=>.map (.one ik) (es.map fun p=>(p.1,p.2.v))
 | .mapS es=>.map .str (es.map fun p=>(bytesOf p.1.1 p.1.2,p.2.v))
def envV (e:CEnv):Env:=e.map fun p=>(p.1,p.2.v)
def ownV (o:COwn):Own:=o.map fun p=>(p.1,p.2.b)
theorem look_map {α β:Type} (f:α→β) (l:List (Nat × α)) (t:Nat):look (l.map fun p=>(p.1,f p.2)) t = (look l t).map f:=by
 induction l with
 | nil=>rfl
 | cons p r ih =>
   simp only [List.map_cons,look];cases Nat.beq p.1 t <;> simp [ih]
theorem look_envV {e:CEnv} {t:Nat} {c:C} (h:lk e t = some c):look (envV e) t = some c.v:=by
 rw [lk_eq] at h;rw [envV,look_map,h];rfl
theorem look_ownV {o:COwn} {t:Nat} {c:CB} (h:lk o t = some c):look (ownV o) t = some c.b:=by
 rw [lk_eq] at h;rw [ownV,look_map,h];rfl
def ofV0 (v:V):Option C:=match v with
 | .bool b=>some (.bool b)
 | .int k n=>some (.int k n)
 | .str s=>some (.str s.size (encL s.data.toList))
 | .nilptr=>some .nilptr | .nilslice=>some .nilslice | .nilmap=>some .nilmap | .nilfunc=>some .nilfunc | .niliface=>some .niliface
 | .fn f b []=>some (.fn f b [])
 | _=>none
theorem ofV0_ok {v:V} {c:C} (h:ofV0 v = some c):c.v = v:=by
 unfold ofV0 at h;split at h <;> first
  | (cases h;done)
  | (cases h;simp [C.v,C.vs,bytesOf_enc])
noncomputable def ofVs (l:List V):Option (List C):=@List.rec V (fun _=>Option (List C)) (some []) (fun v _ ih=>match ofV0 v with
 | some c=>match ih with
   | some l=>some (c :: l)
   | none=>none
 | none=>none) l
theorem ofVs_ok:∀ (l:List V) {cs:List C},ofVs l = some cs→C.vs cs = l
 | [],cs,h=>by have h:some [] = some cs:=h;cases h;simp [C.vs]
 | v :: r,cs,h=>by
   have h:(match ofV0 v with
    | some c=>match ofVs r with
      | some l=>some (c :: l)
      | none=>none
    | none=>none) = some cs:=h
   split at h
   . rename_i c hc;split at h
     . rename_i l hl;cases h;simp [C.vs,ofV0_ok hc,ofVs_ok r hl]
     . cases h
   . cases h
noncomputable def ofV (v:V):Option C:=match v with
 | .agg cs=>match ofVs cs with | some l=>some (.agg l) | none=>none
 | v=>ofV0 v
theorem ofV_ok (v:V) {c:C} (h:ofV v = some c):c.v = v:=by
 unfold ofV at h;split at h
 . split at h
   . rename_i l hl;cases h;simp [C.v,ofVs_ok _ hl]
   . cases h
 . exact ofV0_ok h
end Go.Eng
namespace Go.Eng
open Go.IntWalk
noncomputable def gx (x:X) (env:CEnv):Option C:=match x with | .t n=>lk env n | .k v=>ofV v
theorem gx_ok {x:X} {env:CEnv} {c:C} {K:V→Prop} (h:gx x env = some c) (hK:K c.v):x.get (envV env) K:=by
 cases x with
 | t n=>simp only [gx] at h;simp only [X.get,look_envV h];exact hK
 | k v=>simp only [gx] at h;rw [ofV_ok v h] at hK;exact hK
noncomputable def gxs (env:CEnv) (l:List X):Option (List C):=@List.rec X (fun _=>Option (List C)) (some []) (fun x _ ih=>match gx x env with
 | some c=>match ih with | some l=>some (c :: l) | none=>none
 | none=>none) l
theorem gxs_cons (env:CEnv) (x:X) (r:List X):gxs env (x :: r) = match gx x env with
 | some c=>match gxs env r with | some l=>some (c :: l) | none=>none
 | none=>none:=rfl
theorem gxs_ok {env:CEnv}:∀ {xs:List X} {cs:List C} {K:List V→Prop},gxs env xs = some cs→K (C.vs cs)→X.gets (envV env) xs K
 | [],cs,K,h,hK=>by have h:some [] = some cs:=h;cases h;simpa [C.vs,X.gets] using hK
 | x :: r,cs,K,h,hK=>by
   rw [gxs_cons] at h;split at h
   . rename_i c hc;split at h
     . rename_i l hl;cases h;exact gx_ok hc (gxs_ok hl (by simpa [C.vs] using hK))
     . cases h
   . cases h
theorem cmp_ok {b:Bool} {K:V→Prop} (hK:K (.bool b)):cmpK b K:=by
 cases b
 . exact ⟨fun h=>(by cases h),fun _=>hK⟩
 . exact ⟨fun _=>hK,fun h=>(by cases h)⟩
noncomputable def cmpC (b:Bool):Option C:=fB b fun b=>some (.bool b)
theorem cmpC_ok {b:Bool} {c:C} {K:V→Prop} (h:cmpC b = some c) (hK:K c.v):cmpK b K:=by
 simp only [cmpC,fB_eq,Option.some.injEq] at h;subst h;exact cmp_ok (by simpa [C.v] using hK)
def kEq (a b:IntKind):Bool:=Nat.beq a.ctorIdx b.ctorIdx
theorem kEq_ok {a b:IntKind} (h:kEq a b = true):a = b:=by cases a <;> cases b <;> first | rfl | (exact absurd h (by decide))
def mxN:IntKind→Nat
 | .i8=>127 | .i16=>32767 | .i32=>2147483647 | .i64=>9223372036854775807
 | .u8=>255 | .u16=>65535 | .u32=>4294967295 | .u64=>18446744073709551615
def wrC (k:IntKind) (n:Int):Int:=match n with
 | .ofNat m=>match Nat.ble m (mxN k) with | true=>.ofNat m | false=>k.wrap (.ofNat m)
 | .negSucc m=>k.wrap (.negSucc m)
theorem wrC_eq (k:IntKind) (n:Int):wrC k n = k.wrap n:=by
 unfold wrC;split
 . split
   . rename_i h;have h:=Nat.le_of_ble_eq_true h;symm;rw [Int.ofNat_eq_natCast];cases k <;> simp only [mxN] at h
     . exact i8_in _ (by omega)
     . exact i16_in _ (by omega)
     . exact i32_in _ (by omega)
     . exact i64_in _ (by omega)
     . exact u8_in _ (by omega)
     . exact u16_in _ (by omega)
     . exact u32_in _ (by omega)
     . exact u64_in _ (by omega)
   . rfl
 . rfl
noncomputable def arC (k:IntKind) (n:Int):Option C:=fI (wrC k n) fun m=>some (.int k m)
theorem arC_ok {k:IntKind} {n:Int} {c:C} {K:V→Prop} (h:arC k n = some c) (hK:K c.v):Ar k n fun m=>K (.int k m):=by
 simp only [arC,fI_eq,wrC_eq,Option.some.injEq] at h;subst h;exact ⟨_,rfl,by simpa [C.v] using hK⟩
noncomputable def svC (k:IntKind) (n:Int):Option C:=fI n fun m=>some (.int k m)
theorem svC_ok {k:IntKind} {n:Int} {c:C} {K:V→Prop} (h:svC k n = some c) (hK:K c.v):Sv n fun m=>K (.int k m):=by
 simp only [svC,fI_eq,Option.some.injEq] at h;subst h;exact ⟨_,rfl,by simpa [C.v] using hK⟩
def ieq:Int→Int→Bool
 | .ofNat a,.ofNat b=>Nat.beq a b
 | .negSucc a,.negSucc b=>Nat.beq a b
 | _,_=>false
theorem ieq_eq (a b:Int):ieq a b = (a == b):=by
 rw [Bool.eq_iff_iff,beq_iff_eq];cases a <;> cases b <;> simp [ieq] <;> omega
def ile:Int→Int→Bool
 | .ofNat a,.ofNat b=>Nat.ble a b
 | .negSucc a,.negSucc b=>Nat.ble b a
 | .negSucc _,.ofNat _=>true
 | .ofNat _,.negSucc _=>false
theorem ile_eq (a b:Int):ile a b = decide (a≤b):=by
 rw [Bool.eq_iff_iff,decide_eq_true_eq];cases a <;> cases b <;> simp [ile] <;> omega
noncomputable def cint (op:BinOp) (k:IntKind) (a b:Int):Option C :=
 match op with
 | .add=>arC k (Int.add a b)
 | .sub=>arC k (Int.sub a b)
 | .mul=>arC k (Int.mul a b)
 | .quo=>match ieq b 0 with | true=>none | false=>arC k (a.tdiv b)
 | .rem=>match ieq b 0 with | true=>none | false=>svC k (a.tmod b)
 | .and=>svC k (bitI .and k a b)
 | .or=>svC k (bitI .or k a b)
 | .xor=>svC k (bitI .xor k a b)
 | .andNot=>svC k (bitI .andNot k a b)
 | .eql=>cmpC (ieq a b)
 | .neq=>cmpC (!(ieq a b))
 | .lss=>cmpC (!(ile b a))
 | .leq=>cmpC (ile a b)
 | .gtr=>cmpC (!(ile a b))
 | .geq=>cmpC (ile b a)
 | _=>none
theorem cint_ok {bt:BT} {op:BinOp} {k:IntKind} {a b:Int} {c:C} {K:V→Prop} (h:cint op k a b = some c) (hK:K c.v):vbin bt op (.int k a) (.int k b) K:=by
 unfold cint at h;cases op <;> simp only [vbin,decide_true] <;> simp only at h
 case add=>exact arC_ok h hK
 case sub=>exact arC_ok h hK
 case mul=>exact arC_ok h hK
 case quo =>
  split at h
  . cases h
  . rename_i hb;rw [ieq_eq] at hb;exact ⟨by simpa using hb,arC_ok h hK⟩
 case rem =>
  split at h
  . cases h
  . rename_i hb;rw [ieq_eq] at hb;exact ⟨by simpa using hb,svC_ok h hK⟩
 case and=>exact svC_ok h hK
 case or=>exact svC_ok h hK
 case xor=>exact svC_ok h hK
 case andNot=>exact svC_ok h hK
 case eql=>rw [ieq_eq] at h;exact cmpC_ok h hK
 case neq=>rw [ieq_eq] at h;exact cmpC_ok h hK
 case lss =>
  rw [ile_eq] at h;rw [show decide (a < b) = !decide (b≤a) by rw [Bool.eq_iff_iff];simp];exact cmpC_ok h hK
 case leq=>rw [ile_eq] at h;exact cmpC_ok h hK
 case gtr =>
  rw [ile_eq] at h;rw [show decide (a > b) = !decide (a≤b) by rw [Bool.eq_iff_iff];simp];exact cmpC_ok h hK
 case geq =>
  rw [ile_eq] at h;exact cmpC_ok h hK
 case shl=>cases h
 case shr=>cases h
noncomputable def strC (l c:Nat):Option C:=fN l fun l=>fN c fun c=>some (.str l c)
theorem strC_ok {l d:Nat} {c:C} (h:strC l d = some c):c.v = .str (bytesOf l d):=by
 simp only [strC,fN_eq,Option.some.injEq] at h;subst h;simp [C.v]
noncomputable def b_int2 (op:BinOp) (k:IntKind) (a:Int) (k':IntKind) (b:Int):Option C:=match op with
 | .shl=>match b with | .ofNat n=>arC k (a * 2 ^ (min n k.bits)) | .negSucc _=>none
 | .shr=>match b with | .ofNat n=>svC k (a.fdiv (2 ^ (min n k.bits))) | .negSucc _=>none
 | op=>match kEq k k' with | true=>cint op k a b | false=>none
noncomputable def b_int (op:BinOp) (k:IntKind) (a:Int) (y:C):Option C:=match y with
 | .int k' b=>b_int2 op k a k' b
 | _=>none
noncomputable def b_str2 (op:BinOp) (l c l' c':Nat):Option C:=match op with
 | .eql=>cmpC (eqS l c l' c')
 | .neq=>cmpC (!(eqS l c l' c'))
 | .add=>match Nat.ble (l + l') 9223372036854775807 with
   | true=>strC (l + l') (Nat.add (Nat.mod c (Nat.pow 256 l)) (Nat.mul (Nat.pow 256 l) c'))
   | false=>none
 | _=>none
noncomputable def b_str (op:BinOp) (l c:Nat) (y:C):Option C:=match y with
 | .str l' c'=>b_str2 op l c l' c'
 | _=>none
noncomputable def b_bool (bt:BT) (op:BinOp) (a:Bool) (y:C):Option C:=match y with
 | .bool b=>match bt with
   | .bool=>match op with
     | .eql=>cmpC (a == b)
     | .neq=>cmpC (!(a == b))
     | _=>none
   | _=>none
 | _=>none
def b_slc (bt:BT) (op:BinOp) (n:Nat) (y:C):Option C:=match n with
 | 0=>none
 | _ + 1=>match y with
   | .nilslice=>match bt with
     | .slc=>match op with
       | .eql=>some (.bool false)
       | .neq=>some (.bool true)
       | _=>none
     | _=>none
   | _=>none
def b_nil (bt:BT) (op:BinOp) (y:C):Option C:=match y with
 | .nilslice=>match bt with
   | .slc=>match op with
     | .eql=>some (.bool true)
     | .neq=>some (.bool false)
     | _=>none
   | _=>none
 | _=>none
noncomputable def cbin (bt:BT) (op:BinOp) (x y:C):Option C :=
 match x with
 | .int k a=>b_int op k a y
 | .str l c=>b_str op l c y
 | .bool a=>b_bool bt op a y
 | .fz n _ _ _ _=>b_slc bt op n y
 | .vec _ _ _ n=>b_slc bt op n y
 | .nilslice=>b_nil bt op y
 | _=>none
theorem cbin_ok {bt:BT} {op:BinOp} {x y c:C} {K:V→Prop} (h:cbin bt op x y = some c) (hK:K c.v):vbin bt op x.v y.v K:=by
 unfold cbin at h;split at h
 . unfold b_int at h;split at h
   . rename_i k a _ k' b;unfold b_int2 at h;simp only [C.v];split at h
     . split at h
       . rename_i n;simp only [vbin];refine ⟨by simp,?_⟩;have e:(Int.ofNat n).toNat = n:=rfl;rw [e];exact arC_ok h hK
       . cases h
     . split at h
       . rename_i n;simp only [vbin];refine ⟨by simp,?_⟩;have e:(Int.ofNat n).toNat = n:=rfl;rw [e];exact svC_ok h hK
       . cases h
     . split at h
       . rename_i hk;have:=kEq_ok hk;subst this;exact cint_ok h hK
       . cases h
   . cases h
 . unfold b_str at h;split at h
   . unfold b_str2 at h;simp only [C.v,vbin];split at h
     . rw [eqS_eq] at h;exact cmpC_ok h hK
     . rw [eqS_eq] at h;exact cmpC_ok h hK
     . split at h
       . rename_i l c _ l' c' hle;rw [bytesOf_size,bytesOf_size];refine ⟨fun _=>?_,fun hf=>?_⟩
         . rw [bytesOf_app];rw [strC_ok h] at hK;exact hK
         . have:=Nat.le_of_ble_eq_true hle;simp [this] at hf
       . cases h
     . cases h
   . cases h
 . unfold b_bool at h;split at h
   . split at h
     . split at h
       . simp only [C.v,vbin];exact cmpC_ok h hK
       . simp only [C.v,vbin];exact cmpC_ok h hK
       . cases h
     . cases h
   . cases h
 . unfold b_slc at h;split at h
   . cases h
   . split at h
     . split at h
       . split at h
         . cases h;simp only [C.v,vbin];exact ⟨fun e=>(by cases e),fun _=>(by simpa [C.v] using hK)⟩
         . cases h;simp only [C.v,vbin];exact ⟨fun e=>(by cases e),fun _=>(by simpa [C.v] using hK)⟩
         . cases h
       . cases h
     . cases h
 . unfold b_slc at h;split at h
   . cases h
   . split at h
     . split at h
       . split at h
         . cases h;simp only [C.v,vbin];exact ⟨fun e=>(by cases e),fun _=>(by simpa [C.v] using hK)⟩
         . cases h;simp only [C.v,vbin];exact ⟨fun e=>(by cases e),fun _=>(by simpa [C.v] using hK)⟩
         . cases h
       . cases h
     . cases h
 . unfold b_nil at h;split at h
   . split at h
     . split at h
       . cases h;simp only [C.v,vbin];simpa [C.v] using hK
       . cases h;simp only [C.v,vbin];simpa [C.v] using hK
       . cases h
     . cases h
   . cases h
 . cases h
noncomputable def cbd (x:Option X) (env:CEnv) (d n:Nat):Option Nat:=match x with
 | none=>some d
 | some x=>match gx x env with
   | some (.int _ (.ofNat m))=>match Nat.ble m n with | true=>some m | false=>none
   | _=>none
theorem cbd_ok {x:Option X} {env:CEnv} {d n m:Nat} {K:Nat→Prop} (h:cbd x env d n = some m) (hK:K m):bdK x (envV env) d n K:=by
 unfold cbd at h;split at h
 . cases h;exact hK
 . split at h
   . rename_i hx;split at h
     . rename_i hb;cases h;refine gx_ok hx ?_;simp only [C.v];exact ⟨_,rfl,Nat.le_of_ble_eq_true hb,hK⟩
     . cases h
   . cases h
theorem shiftF_tabz (l:Nat) (z:List V) (rows:List (List V)):shiftF l (tabz z rows) = tabz z (rows.drop l):=by
 funext i j;rw [shiftF_eq];simp [tabz,List.getD_eq_getElem?_getD]
theorem shiftF_tabzC (l:Nat) (z:List C) (rows:List (List C)):shiftF l (tabz (C.vs z) (C.vss rows)) = tabz (C.vs z) (C.vss (rows.drop l)):=by
 rw [shiftF_tabz,C.vss_map,C.vss_map,List.map_drop]
noncomputable def cslc (own:COwn) (s:Nat) (x:X) (lo hi:Option X) (env:CEnv):Option C :=
 match gx x env with
 | some (.fz n s' full z rows)=>match Nat.beq s s' with
   | true=>match cbd hi env n n with
     | some h=>match cbd lo env 0 h with
       | some l=>fN (h - l) fun m=>fH (dr rows l) fun q=>some (.fz m s (match hi with | none=>full | some _=>false) z q)
       | none=>none
     | none=>none
   | false=>none
 | some .nilslice=>match cbd hi env 0 0 with
   | some h=>match cbd lo env 0 h with
     | some _=>some .nilslice
     | none=>none
   | none=>none
 | some (.vec k s' lo0 len)=>match Nat.beq s s' with
   | true=>match lk own k with
     | some (.vec n _ _ _)=>match Nat.ble (lo0 + len) n with
       | true=>match cbd hi env len (n - lo0) with
         | some h=>match cbd lo env 0 h with
           | some l=>fN (lo0 + l) fun a=>fN (h - l) fun b=>some (.vec k s a b)
           | none=>none
         | none=>none
       | false=>none
     | _=>match cbd hi env len len with
        | some h=>match cbd lo env 0 h with
          | some l=>fN (lo0 + l) fun a=>fN (h - l) fun b=>some (.vec k s a b)
          | none=>none
        | none=>none
   | false=>none
 | _=>none
theorem cslc_ok {own:COwn} {s:Nat} {x:X} {lo hi:Option X} {same:Bool} {env:CEnv} {c:C} {K:V→Prop} (h:cslc own s x lo hi env = some c) (hK:K c.v):vslc (ownV own) s x lo hi none same (envV env) K:=by
 unfold cslc at h;unfold vslc;split at h
 . rename_i n s' full z rows hx;refine gx_ok hx ?_;simp only [C.v];split at h
   . rename_i hs;simp only [hs];split at h
     . rename_i hh e1;split at h
       . rename_i ll e2;refine cbd_ok e1 (cbd_ok e2 ?_);simp only [fN_eq,fH_eq,dr_eq,Option.some.injEq] at h;subst h;rw [shiftF_tabzC];simp only [C.v] at hK;exact hK
       . cases h
     . cases h
   . cases h
 . rename_i hx;refine gx_ok hx ?_;simp only [C.v];split at h
   . rename_i hh e1;split at h
     . rename_i ll e2;cases h;exact cbd_ok e1 (cbd_ok e2 (by simpa [C.v] using hK))
     . cases h
   . cases h
 . rename_i k s' lo0 len hx;refine gx_ok hx ?_;simp only [C.v];split at h
   . rename_i hs;simp only [hs];split at h
     . rename_i n s'' z rows hl;rw [look_ownV hl];simp only [CB.b];split at h
       . rename_i hle;refine ⟨fun _=>?_,fun hf=>by rw [hle] at hf;cases hf⟩;split at h
         . rename_i hh e1;split at h
           . rename_i ll e2;refine cbd_ok e1 (cbd_ok e2 ?_);simp only [fN_eq,Option.some.injEq] at h;subst h;simpa [C.v] using hK
           . cases h
         . cases h
       . cases h
     . rename_i hne;have key:∀ {A:Nat→Nat→(Nat→Nat→V)→Prop} {B:Prop},B→(match look (ownV own) k with | some (.vec n s f)=>A n s f | _=>B):=by
        intro A B hB;rw [ownV,look_map,← lk_eq];cases hl:lk own k with
        | none=>exact hB
        | some b=>cases b with
          | vec n s z rows=>exact (hne n s z rows hl).elim
          | _=>exact hB
       refine key ?_;split at h
       . rename_i hh e1;split at h
         . rename_i ll e2;refine cbd_ok e1 (cbd_ok e2 ?_);simp only [fN_eq,Option.some.injEq] at h;subst h;simpa [C.v] using hK
         . cases h
       . cases h
   . cases h
 . cases h
noncomputable def cslc3 (s:Nat) (x:X) (lo:Option X) (hi mx:X) (same:Bool) (env:CEnv):Option C :=
 match gx x env with
 | some (.fz n s' _ z rows)=>match Nat.beq s s' with
   | true=>match cbd (some mx) env n n with
     | some m=>match cbd (some hi) env n m with
       | some h=>match cbd lo env 0 h with
         | some l=>fN (h - l) fun m=>fH (dr rows l) fun q=>some (.fz m s same z q)
         | none=>none
       | none=>none
     | none=>none
   | false=>none
 | _=>none
theorem cslc3_ok {own:Own} {s:Nat} {x:X} {lo:Option X} {hi mx:X} {same:Bool} {env:CEnv} {c:C} {K:V→Prop} (h:cslc3 s x lo hi mx same env = some c) (hK:K c.v):vslc own s x lo (some hi) (some mx) same (envV env) K:=by
 unfold cslc3 at h;unfold vslc;split at h
 . rename_i n s' full z rows hx;refine gx_ok hx ?_;simp only [C.v];split at h
   . rename_i hs;simp only [hs];split at h
     . rename_i m e0;split at h
       . rename_i hh e1;split at h
         . rename_i ll e2;refine cbd_ok e0 (cbd_ok e1 (cbd_ok e2 ?_));simp only [fN_eq,fH_eq,dr_eq,Option.some.injEq] at h;subst h;rw [shiftF_tabzC];simp only [C.v] at hK;exact hK
         . cases h
       . cases h
     . cases h
   . cases h
 . cases h
def cix (i:Int) (n:Nat):Option Nat:=match i with
 | .ofNat m=>match Nat.blt m n with | true=>some m | false=>none
 | .negSucc _=>none
theorem cix_ok {i:Int} {n m:Nat} {K:Nat→Prop} (h:cix i n = some m) (hK:K m):Ix i n K:=by
 unfold cix at h;split at h
 . split at h
   . rename_i hb;cases h;exact ⟨m,rfl,Nat.le_of_ble_eq_true hb,hK⟩
   . cases h
 . cases h
theorem takeK_ok {α:Type}:∀ (l:List α) (o n:Nat) (K:List α→Prop),n≤(l.drop o).length→K ((l.drop o).take n)→takeK l o n K
 | l,o,0,K,_,h=>by cases l <;> cases o <;> simpa [takeK] using h
 | [],o,n + 1,K,hl,h=>by simp at hl
 | x :: r,0,n + 1,K,hl,h=>by
   simp only [takeK];exact takeK_ok r 0 n _ (by simpa using hl) (by simpa using h)
 | x :: r,o + 1,n + 1,K,hl,h=>by
   simp only [takeK];exact takeK_ok r o (n + 1) _ (by simpa using hl) (by simpa using h)
noncomputable def aggC (l:List C) (o n:Nat):Option C:=tk n (dr l o) fun q=>some (.agg q)
theorem aggC_ok {l:List C} {o n:Nat} {c:C} {K:V→Prop} (h:aggC l o n = some c) (hK:K c.v):takeK (C.vs l) o n fun l=>K (.agg l):=by
 unfold aggC at h;rw [tk_eq,dr_eq] at h;split at h
 . rename_i hl;cases h;refine takeK_ok _ _ _ _ (by simpa [C.vs_map] using hl) ?_;simp only [C.v,C.vs_map] at hK;simpa [C.vs_map] using hK
 . cases h
theorem nth_vs {l:List C} {i:Nat} {c:C} (h:nt l i = some c):nth (C.vs l) i = some c.v:=by
 rw [nt_eq,nth_get] at h;rw [nth_get,C.vs_get,h];rfl
noncomputable def p_mv (x:X) (env:CEnv):Option C:=gx x env
noncomputable def p_fld (off:Nat) (x:X) (env:CEnv):Option C:=match gx x env with
 | some (.loc k o)=>fN (o + off) fun m=>some (.loc k m)
 | some (.oel k s i j)=>fN (j + off) fun m=>some (.oel k s i m)
 | some (.fe n s z rows i j)=>fN (j + off) fun m=>some (.fe n s z rows i m)
 | _=>none
noncomputable def p_nilchk (x:X) (env:CEnv):Option C:=match gx x env with
 | some (.loc k o)=>some (.loc k o)
 | some (.oel k s i j)=>some (.oel k s i j)
 | some (.fe n s z rows i j)=>some (.fe n s z rows i j)
 | some (.iface t v)=>some (.iface t v)
 | _=>none
noncomputable def p_bin (bt:BT) (op:BinOp) (x:X) (y:X) (env:CEnv):Option C:=match gx x env with
 | some a=>match gx y env with
   | some b=>cbin bt op a b
   | none=>none
 | none=>none
noncomputable def p_pick (c:X) (a:X) (b:X) (env:CEnv):Option C:=match gx c env with
 | some (.bool true)=>gx a env
 | some (.bool false)=>gx b env
 | _=>none
noncomputable def p_slcs (x:X) (lo:Option X) (hi:Option X) (env:CEnv):Option C:=match gx x env with
 | some (.str l c)=>match cbd hi env l l with
   | some h=>match cbd lo env 0 h with
     | some a=>strC (h - a) (Nat.mod (Nat.div c (Nat.pow 256 a)) (Nat.pow 256 (h - a)))
     | none=>none
   | none=>none
 | _=>none
noncomputable def p_ixstr (x:X) (i:X) (env:CEnv):Option C:=match gx x env with
 | some (.str l c)=>match gx i env with
   | some (.int _ i)=>match cix i l with
     | some m=>fN (Nat.mod (Nat.div c (Nat.pow 256 m)) 256) fun b=>some (.int .u8 (.ofNat b))
     | none=>none
   | _=>none
 | _=>none
noncomputable def p_mkfn (f:Fn) (b:Bool) (cap:List X) (env:CEnv):Option C:=match gxs env cap with
 | some l=>some (.fn f b l)
 | none=>none
noncomputable def p_un (op:UnOp) (x:X) (env:CEnv):Option C:=match gx x env with
 | some (.bool b)=>match op with
   | .not=>match b with | true=>some (.bool false) | false=>some (.bool true)
   | _=>none
 | some (.int k n)=>match op with
   | .neg=>arC k (0 - n)
   | .xor=>svC k (bitI .xor k (if k.signed then -1 else k.max) n)
   | _=>none
 | _=>none
noncomputable def p_toint (k:IntKind) (x:X) (env:CEnv):Option C:=match gx x env with
 | some (.int _ n)=>arC k n
 | _=>none
noncomputable def p_sel (off:Nat) (sz:Option Nat) (x:X) (env:CEnv):Option C:=match gx x env with
 | some (.agg cs)=>match sz with
   | none=>nt cs off
   | some n=>aggC cs off n
 | _=>none
noncomputable def p_ixs (s:Nat) (x:X) (i:X) (env:CEnv):Option C:=match gx x env with
 | some (.fz n s' _ z rows)=>match Nat.beq s s' with
   | true=>match gx i env with
     | some (.int _ i)=>match cix i n with
       | some m=>some (.fe n s z rows m 0)
       | none=>none
     | _=>none
   | false=>none
 | some (.vec k s' lo len)=>match Nat.beq s s' with
   | true=>match gx i env with
     | some (.int _ i)=>match cix i len with
       | some m=>fN (lo + m) fun m=>some (.oel k s m 0)
       | none=>none
     | _=>none
   | false=>none
 | _=>none
noncomputable def p_ixa (n:Nat) (s:Nat) (x:X) (i:X) (env:CEnv):Option C:=match gx x env with
 | some (.loc k o)=>match gx i env with
   | some (.int _ i)=>match cix i n with
     | some m=>fN (o + m * s) fun m=>some (.loc k m)
     | none=>none
   | _=>none
 | some (.fe n' s' z rows i0 j0)=>match gx i env with
   | some (.int _ i)=>match cix i n with
     | some m=>fN (j0 + m * s) fun m=>some (.fe n' s' z rows i0 m)
     | none=>none
   | _=>none
 | some (.oel k s' i0 j0)=>match Nat.beq s s',i0,j0 with
   | true,0,0=>match gx i env with
     | some (.int _ i)=>match cix i n with
       | some m=>some (.oel k s m 0)
       | none=>none
     | _=>none
   | _,_,_=>match gx i env with
     | some (.int _ i)=>match cix i n with
       | some m=>fN (j0 + m * s) fun j=>some (.oel k s' i0 j)
       | none=>none
     | _=>none
 | _=>none
noncomputable def p_ext (x:X) (i:Nat) (env:CEnv):Option C:=match gx x env with
 | some (.tup vs)=>nt vs i
 | _=>none
noncomputable def p_len (x:X) (env:CEnv):Option C:=match gx x env with
 | some (.fz n _ _ _ _)=>some (.int .i64 (.ofNat n))
 | some (.vec _ _ _ n)=>some (.int .i64 (.ofNat n))
 | some .nilslice=>some (.int .i64 0)
 | _=>none
noncomputable def p_lens (x:X) (env:CEnv):Option C:=match gx x env with
 | some (.str l _)=>some (.int .i64 (.ofNat l))
 | _=>none
noncomputable def p_mn (x:X) (y:X) (env:CEnv):Option C:=match gx x env with
 | some (.int k a)=>match gx y env with
   | some (.int _ b)=>match ile a b with
     | true=>some (.int k a)
     | false=>some (.int k b)
   | _=>none
 | _=>none
noncomputable def p_mx (x:X) (y:X) (env:CEnv):Option C:=match gx x env with
 | some (.int k a)=>match gx y env with
   | some (.int _ b)=>match ile b a with
     | true=>some (.int k a)
     | false=>some (.int k b)
   | _=>none
 | _=>none
noncomputable def cpure (o:POp) (env:CEnv):Option C :=
 match o with
 | .slc _ _ _ _ _ _=>none
 | .mv x=>p_mv x env
 | .fld off x=>p_fld off x env
 | .nilchk x=>p_nilchk x env
 | .bin bt op x y=>p_bin bt op x y env
 | .pick c a b=>p_pick c a b env
 | .slcs x lo hi=>p_slcs x lo hi env
 | .ixstr x i=>p_ixstr x i env
 | .mkfn f b cap=>p_mkfn f b cap env
 | .un op x=>p_un op x env
 | .toint k x=>p_toint k x env
 | .sel off sz x=>p_sel off sz x env
 | .ixs s x i=>p_ixs s x i env
 | .ixa n s x i=>p_ixa n s x i env
 | .ext x i=>p_ext x i env
 | .len x=>p_len x env
 | .lens x=>p_lens x env
 | .mn x y=>p_mn x y env
 | .mx x y=>p_mx x y env
theorem cpure_ok {o:POp} {env:CEnv} {c:C} {K:V→Prop} (h:cpure o env = some c) (hK:K c.v):vpure o (envV env) K:=by
 cases o with
 | slc=>cases h
 | mv x=>simp only [cpure,p_mv] at h;exact gx_ok h hK
 | fld off x =>
   simp only [cpure,p_fld] at h;simp only [vpure];split at h <;> first
    | (cases h;done)
    | (rename_i hx
       refine gx_ok hx ?_;simp only [C.v];simp only [fN_eq,Option.some.injEq] at h;subst h;simpa only [C.v] using hK)
 | nilchk x =>
   simp only [cpure,p_nilchk] at h;simp only [vpure];split at h <;> first
    | (cases h;done)
    | (rename_i hx
       refine gx_ok hx ?_;cases h;simpa only [C.v] using hK)
 | bin bt op x y =>
   simp only [cpure,p_bin] at h;simp only [vpure];split at h
   . rename_i a ha;split at h
     . rename_i b hb;exact gx_ok ha (gx_ok hb (cbin_ok h hK))
     . cases h
   . cases h
 | pick c a b =>
   simp only [cpure,p_pick] at h;simp only [vpure];split at h
   . rename_i hc;refine gx_ok hc ?_;simp only [C.v];exact gx_ok h hK
   . rename_i hc;refine gx_ok hc ?_;simp only [C.v];exact gx_ok h hK
   . cases h
 | slcs x lo hi =>
   simp only [cpure,p_slcs] at h;simp only [vpure];split at h
   . rename_i l d hx;refine gx_ok hx ?_;simp only [C.v,bytesOf_size];split at h
     . rename_i hh e1;split at h
       . rename_i a e2;have hle:hh≤l:=by
          unfold cbd at e1;split at e1
          . cases e1;exact Nat.le_refl _
          . split at e1
            . split at e1
              . rename_i hb;cases e1;exact Nat.le_of_ble_eq_true hb
              . cases e1
            . cases e1
         refine cbd_ok e1 (cbd_ok e2 ?_);rw [bytesOf_extract _ _ _ _ hle,← bytesOf_mod];rw [strC_ok h] at hK;exact hK
       . cases h
     . cases h
   . cases h
 | ixstr x i =>
   simp only [cpure,p_ixstr] at h;simp only [vpure];split at h
   . rename_i l d hx;split at h
     . rename_i k n hi;refine gx_ok hx (gx_ok hi ?_);simp only [C.v,bytesOf_size];split at h
       . rename_i m hm;refine cix_ok hm ?_;have hlt:m < l:=by
          unfold cix at hm;split at hm
          . split at hm
            . rename_i hb;cases hm;exact Nat.le_of_ble_eq_true hb
            . cases hm
          . cases hm
         simp only [fN_eq,Option.some.injEq] at h;subst h;rw [bytesOf_get _ _ _ hlt];simp only [C.v] at hK;exact hK
       . cases h
     . cases h
   . cases h
 | mkfn f b cap =>
   simp only [cpure,p_mkfn] at h;simp only [vpure];split at h
   . rename_i l hl;cases h;exact gxs_ok hl (by simpa only [C.v] using hK)
   . cases h
 | un op x =>
   simp only [cpure,p_un] at h;simp only [vpure];split at h
   . rename_i b hx;refine gx_ok hx ?_;simp only [C.v];split at h
     . split at h
       . cases h;simpa only [C.v] using hK
       . cases h;simpa only [C.v] using hK
     . cases h
   . rename_i k n hx;refine gx_ok hx ?_;simp only [C.v];split at h
     . exact arC_ok h hK
     . exact svC_ok h hK
     . cases h
   . cases h
 | toint k x =>
   simp only [cpure,p_toint] at h;simp only [vpure];split at h
   . rename_i hx;refine gx_ok hx ?_;simp only [C.v];exact arC_ok h hK
   . cases h
 | sel off sz x =>
   simp only [cpure,p_sel] at h;simp only [vpure];split at h
   . rename_i cs hx;refine gx_ok hx ?_;simp only [C.v];split at h
     . rw [nth_vs h];exact hK
     . exact aggC_ok h hK
   . cases h
 | ixs s x i =>
   simp only [cpure,p_ixs] at h;simp only [vpure];split at h
   . rename_i n s' full z rows hx;split at h
     . rename_i hs;split at h
       . rename_i hi;refine gx_ok hx (gx_ok hi ?_);simp only [C.v,hs];split at h
         . rename_i hm;cases h;exact cix_ok hm (by simpa only [C.v] using hK)
         . cases h
       . cases h
     . cases h
   . rename_i k s' lo len hx;split at h
     . rename_i hs;split at h
       . rename_i hi;refine gx_ok hx (gx_ok hi ?_);simp only [C.v,hs];split at h
         . rename_i hm;simp only [fN_eq,Option.some.injEq] at h;subst h;exact cix_ok hm (by simpa only [C.v] using hK)
         . cases h
       . cases h
     . cases h
   . cases h
 | ixa n s x i =>
   simp only [cpure,p_ixa] at h;simp only [vpure];split at h
   . rename_i k o hx;split at h
     . rename_i hi;refine gx_ok hx (gx_ok hi ?_);simp only [C.v];split at h
       . rename_i hm;simp only [fN_eq,Option.some.injEq] at h;subst h;exact cix_ok hm (by simpa only [C.v] using hK)
       . cases h
     . cases h
   . rename_i hx;split at h
     . rename_i hi;refine gx_ok hx (gx_ok hi ?_);simp only [C.v];split at h
       . rename_i hm;simp only [fN_eq,Option.some.injEq] at h;subst h;exact cix_ok hm (by simpa only [C.v] using hK)
       . cases h
     . cases h
   . rename_i hx;split at h
     . rename_i hs;split at h
       . rename_i hi;refine gx_ok hx (gx_ok hi ?_);simp only [C.v,hs];split at h
         . rename_i hm;cases h;exact cix_ok hm (by simpa only [C.v] using hK)
         . cases h
       . cases h
     . rename_i hne;split at h
       . rename_i hi;refine gx_ok hx (gx_ok hi ?_);simp only [C.v];split at h
         . rename_i hm;simp only [fN_eq,Option.some.injEq] at h;subst h;exact cix_ok hm (by simpa only [C.v] using hK)
         . cases h
       . cases h
   . cases h
 | ext x i =>
   simp only [cpure,p_ext] at h;simp only [vpure];split at h
   . rename_i hx;refine gx_ok hx ?_;simp only [C.v];rw [nth_vs h];exact hK
   . cases h
 | len x =>
   simp only [cpure,p_len] at h;simp only [vpure];split at h <;> first
    | (cases h;done)
    | (rename_i hx
       refine gx_ok hx ?_;cases h;simp only [C.v] at hK;simp only [C.v];exact hK)
 | lens x =>
   simp only [cpure,p_lens] at h;simp only [vpure];split at h
   . rename_i hx;refine gx_ok hx ?_;cases h;simp only [C.v] at hK;simp only [C.v,bytesOf_size];exact hK
   . cases h
 | mn x y =>
   simp only [cpure,p_mn] at h;simp only [vpure];split at h
   . rename_i hx;split at h
     . rename_i hy;refine gx_ok hx (gx_ok hy ?_);simp only [C.v];refine ⟨_,rfl,?_⟩;split at h
       . rename_i hc;rw [ile_eq] at hc;cases h;have hc:=of_decide_eq_true hc;rw [if_neg (by omega)];simpa only [C.v] using hK
       . rename_i hc;rw [ile_eq] at hc;cases h;have hc:=of_decide_eq_false hc;rw [if_pos (by omega)];simpa only [C.v] using hK
     . cases h
   . cases h
 | mx x y =>
   simp only [cpure,p_mx] at h;simp only [vpure];split at h
   . rename_i hx;split at h
     . rename_i hy;refine gx_ok hx (gx_ok hy ?_);simp only [C.v];refine ⟨_,rfl,?_⟩;split at h
       . rename_i hc;rw [ile_eq] at hc;cases h;have hc:=of_decide_eq_true hc;rw [if_neg (by omega)];simpa only [C.v] using hK
       . rename_i hc;rw [ile_eq] at hc;cases h;have hc:=of_decide_eq_false hc;rw [if_pos (by omega)];simpa only [C.v] using hK
     . cases h
   . cases h
end Go.Eng
