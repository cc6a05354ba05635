import Derived.Test.YtgajaabakpfbbaaGreatDoorRB1
namespace Go.Proofs.YtgajaabakpfbbaaGreatDoor
open Go.Eng
set_option maxRecDepth 100000
set_option linter.unusedVariables false
def exN (n x w:Nat):Nat:=max (x + 1) (w * n)
theorem exN_mono {n x y w:Nat} (h:x≤y):exN n x w≤exN n y w:=by simp only [exN];omega
theorem exN_gt {n x w:Nat}:x < exN n x w:=by simp only [exN];omega
inductive Wk (g:G):Nat→Nat→Prop
 | nil:Wk g 0 0
 | step {v x:Nat} {l:Int × Int} (hv:v < g.ids.length) (hl:l∈gR g.ports v) (h:Wk g l.1.toNat x):Wk g v (exN g.ids.length x l.2.toNat)
theorem least_of {p:Nat→Prop}:∀ (x:Nat),p x→∃ x,p x∧∀ y,p y→x≤y:=by
 intro x
 induction x using Nat.strongRecOn with
 | _ x ih =>
   intro h;by_cases q:∃ y,p y∧y < x
   . obtain ⟨y,h1,h2⟩:=q;exact ih y h2 h1
   . exact ⟨x,h,fun y hy=>Nat.le_of_not_lt fun e=>q ⟨y,hy,e⟩⟩
noncomputable def Tv (g:G) (v:Nat):Nat:=by
 classical exact if h:∃ x,Wk g v x then Classical.choose (least_of _ (Classical.choose_spec h)) else 0
theorem tv_spec {g:G} {v:Nat} (h:∃ x,Wk g v x):Wk g v (Tv g v)∧∀ y,Wk g v y→Tv g v≤y:=by
 unfold Tv;rw [dif_pos h];exact Classical.choose_spec (least_of _ (Classical.choose_spec h))
theorem wk_ex {g:G} (h:g.conn = true):∀ (d v:Nat),v < g.ids.length→Dg g v = d→∃ x,Wk g v x∧(d = 0→x = 0)∧(0 < d→x + 1≤15 * g.ids.length + d):=by
 obtain ⟨h1,h2⟩:=J0o h;obtain ⟨f1,f2,f3,f4,f5,f6,f7⟩:=J0e h1;have hN:=netB h;intro d
 induction d with
 | zero =>
   intro v hv hd;have:=(hN.root v hv).1 hd;subst this;exact ⟨0,.nil,fun _=>rfl,fun h=>by omega⟩
 | succ d ih =>
   intro v hv hd;have h0:v≠0:=fun e=>by have:=(hN.root v hv).2 e;omega
   obtain ⟨u,hu,e⟩:=hN.near v hv h0;obtain ⟨l,hl,rfl⟩:=J2K.1 hu;have hun:=hN.rng v _ hv hu;obtain ⟨x,hx,hb1,hb2⟩:=ih l.1.toNat hun (by omega);refine ⟨_,.step hv hl hx,fun h=>by omega,fun _=>?_⟩;have hw:=((J0t.1 (f6 v (by omega))).1 l hl).2.2.2.2;have hw2:l.2.toNat * g.ids.length≤15 * g.ids.length:=Nat.mul_le_mul_right _ (by omega);simp only [exN];rcases Nat.eq_zero_or_pos d with e0 | e0
   . have:=hb1 e0;omega
   . have:=hb2 e0;omega
theorem tv_wk {g:G} (h:g.conn = true) {v:Nat} (hv:v < g.ids.length):Wk g v (Tv g v):=by
 obtain ⟨x,hx,_⟩:=wk_ex h _ v hv rfl;exact (tv_spec ⟨x,hx⟩).1
theorem tv_le {g:G} {v x:Nat} (h:Wk g v x):Tv g v≤x:=(tv_spec ⟨x,h⟩).2 x h
theorem J30 (g:G):Tv g 0 = 0:=Nat.le_zero.1 (tv_le .nil)
theorem J57 {g:G} (h:g.conn = true) {v:Nat} (hv:v < g.ids.length) {l:Int × Int} (hl:l∈gR g.ports v):Tv g v≤exN g.ids.length (Tv g l.1.toNat) l.2.toNat:=by
 have hln:=(netB h).rng v l.1.toNat hv (J2K.2 ⟨l,hl,rfl⟩);exact tv_le (.step hv hl (tv_wk h hln))
theorem tv_back {g:G} (h:g.conn = true) {v:Nat} (hv:v < g.ids.length) (h0:v≠0):∃ l∈gR g.ports v,Tv g v = exN g.ids.length (Tv g l.1.toNat) l.2.toNat:=by
 have hw:=tv_wk h hv;generalize hx:Tv g v = t at hw;cases hw with
 | nil=>exact (h0 rfl).elim
 | step hv' hl hu =>
   rename_i x l;refine ⟨l,hl,Nat.le_antisymm ?_ (exN_mono (tv_le hu))⟩;rw [← hx];exact J57 h hv hl
theorem tv_zero {g:G} (h:g.conn = true) {v:Nat} (hv:v < g.ids.length):Tv g v = 0↔v = 0:=by
 refine ⟨fun e=>Classical.byContradiction fun h0=>?_,fun e=>by subst e;exact J30 g⟩;obtain ⟨l,_,q⟩:=tv_back h hv h0;have:=exN_gt (n:=g.ids.length) (x:=Tv g l.1.toNat) (w:=l.2.toNat);omega
theorem J7B {g:G} (h:g.conn = true) {v:Nat} (hv:v < g.ids.length):Tv g v + 2≤16 * g.ids.length:=by
 obtain ⟨x,hx,hb1,hb2⟩:=wk_ex h _ v hv rfl;have:=tv_le hx;have ht:=(netB h).top v hv;rcases Nat.eq_zero_or_pos (Dg g v) with e | e
 . have:=hb1 e;omega
 . have:=hb2 e;omega
noncomputable def rkV (g:G) (v:Nat):Nat:=J3M (fun u=>decide (Tv g u < Tv g v)) g.ids.length
theorem cntV_le {p q:Nat→Bool}:∀ {n:Nat},(∀ v,v < n→p v = true→q v = true)→J3M p n≤J3M q n
 | 0,_=>Nat.le_refl _
 | n + 1,h=>by
   have h1:=cntV_le (n:=n) fun v hv=>h v (by omega);have h2:=h n (by omega);simp only [J3M];cases hp:p n <;> cases hq:q n <;> simp_all <;> omega
theorem cntV_lt {p q:Nat→Bool} {u:Nat} (hp:p u = false) (hq:q u = true):∀ {n:Nat},u < n→(∀ v,v < n→p v = true→q v = true)→J3M p n < J3M q n
 | n + 1,hn,h=>by
   have h2:=h n (by omega);simp only [J3M];by_cases e:u = n
   . subst e;have h1:=cntV_le (n:=u) fun v hv=>h v (by omega);rw [hp,hq];simp;omega
   . have h1:=cntV_lt hp hq (n:=n) (by omega) fun v hv=>h v (by omega);cases hp:p n <;> cases hq:q n <;> simp_all <;> omega
theorem J5W (p:Nat→Bool):∀ (n:Nat),J3M p n≤n
 | 0=>Nat.le_refl _
 | n + 1=>by
   have:=J5W p n;simp only [J3M];split <;> omega
theorem cntV_top {p:Nat→Bool} {u:Nat} (hp:p u = false):∀ {n:Nat},u < n→J3M p n + 1≤n
 | n + 1,hn=>by
   simp only [J3M];by_cases e:u = n
   . subst e;have:=J5W p u;rw [hp];simp;omega
   . have:=cntV_top hp (n:=n) (by omega);split <;> omega
theorem rk_lt {g:G} {u v:Nat} (hu:u < g.ids.length) (h:Tv g u < Tv g v):rkV g u < rkV g v :=
 cntV_lt (u:=u) (by simp) (by simpa using h) hu fun w _ q=>by simp only [decide_eq_true_eq] at q ⊢;omega
theorem rk_top {g:G} {v:Nat} (hv:v < g.ids.length):rkV g v + 1≤g.ids.length:=cntV_top (u:=v) (by simp) hv
def exI (g:G) (y w:Int):Int:=if y + 1 < w * g.ids.length then w * g.ids.length else y + 1
theorem J6W (g:G) (x:Nat) {w:Int} (hw:0≤w):exI g x w = ((exN g.ids.length x w.toNat:Nat):Int):=by
 obtain ⟨k,rfl⟩:∃ k:Nat,w = (k:Int):=⟨w.toNat,by omega⟩;have e:((k:Int) * (g.ids.length:Int)) = ((k * g.ids.length:Nat):Int):=by push_cast;rfl
 rw [exI,exN,e,Int.toNat_natCast];generalize k * g.ids.length = m;split <;> omega
theorem exI_mono {g:G} {y z w:Int} (h:y≤z):exI g y w≤exI g z w:=by
 rw [exI,exI];generalize w * (g.ids.length:Int) = m;split <;> split <;> omega
structure VIn (g:G) (r:Nat) (x:List Int):Prop where
 len:x.length = g.ids.length
 root:gI x 0 = 0
 low:∀ v,v < g.ids.length→((Tv g v:Nat):Int)≤gI x v
 top:∀ v,v < g.ids.length→gI x v≤1073741824
 ok:∀ v,v < g.ids.length→rkV g v < r→gI x v = ((Tv g v:Nat):Int)
structure VPs (g:G) (r v i:Nat) (x:List Int):Prop where
 base:VIn g r x
 before:∀ u,u < v→u < g.ids.length→rkV g u≤r→gI x u = ((Tv g u:Nat):Int)
 here:∀ j,j < i→j < (gR g.ports v).length→Tv g v = exN g.ids.length (Tv g (gF (gR g.ports v) j).1.toNat) (gF (gR g.ports v) j).2.toNat→rkV g v≤r→gI x v = ((Tv g v:Nat):Int)
theorem VPs.start {g:G} {r:Nat} {x:List Int} (h:VIn g r x):VPs g r 0 0 x:=⟨h,fun u hu=>by omega,fun j hj=>by omega⟩
def relax (g:G) (x:List Int) (v:Nat) (l:Int × Int):List Int:=x.set v (if exI g (gI x l.1.toNat) l.2 < gI x v then exI g (gI x l.1.toNat) l.2 else gI x v)
theorem VPs.step {g:G} (h:g.conn = true) {r v i:Nat} {x:List Int} (hp:VPs g r v i x) (hv:v < g.ids.length) (hi:i < (gR g.ports v).length):VPs g r v (i + 1) (relax g x v (gF (gR g.ports v) i)):=by
 obtain ⟨h1,h2⟩:=J0o h;obtain ⟨f1,f2,f3,f4,f5,f6,f7⟩:=J0e h1;have hB:=hp.base;have hl:=J1l hi;have hok:=(J0t.1 (f6 v (by omega))).1 _ hl;generalize hL:gF (gR g.ports v) i = l at *;have hun:l.1.toNat < g.ids.length:=by omega
 have hw:0≤l.2:=by omega
 have hlen:=hB.len;have hg:∀ u,gI (relax g x v l) u = if u = v then (if exI g (gI x l.1.toNat) l.2 < gI x v then exI g (gI x l.1.toNat) l.2 else gI x v) else gI x u:=fun u=>J6O x v u _ (by omega)
 have hlow:((Tv g v:Nat):Int)≤exI g (gI x l.1.toNat) l.2:=by
  have h3:=J57 h hv hl;have h4:=exI_mono (g:=g) (w:=l.2) (hB.low l.1.toNat hun);rw [J6W g _ hw] at h4;omega
 have hst:∀ u,u < g.ids.length→gI x u = ((Tv g u:Nat):Int)→gI (relax g x v l) u = ((Tv g u:Nat):Int):=fun u hu e=>by
  rw [hg];split
  . rename_i q;subst q;split <;> omega
  . exact e
 refine ⟨⟨by rw [relax,List.length_set];exact hlen,?_,fun u hu=>?_,fun u hu=>?_,fun u hu q=>hst u hu (hB.ok u hu q)⟩,fun u hu hun q=>hst u hun (hp.before u hu hun q),fun j hj hj2 e q=>?_⟩
 . have:=hst 0 (by omega) (by rw [J30];exact hB.root);rw [J30] at this;exact this
 . rw [hg];have:=hB.low u hu;split
   . rename_i q;subst q;split <;> omega
   . exact this
 . rw [hg];have:=hB.top u hu;split
   . rename_i q;subst q;split <;> omega
   . exact this
 . by_cases ej:j = i
   . subst ej;rw [hL] at e;have hlt:Tv g l.1.toNat < Tv g v:=by rw [e];exact exN_gt
     have hrk:=rk_lt hun hlt;have hx:=hB.ok l.1.toNat hun (by omega);have hlo:=hB.low v hv;rw [hg,if_pos rfl,hx,J6W g _ hw,← e];split <;> omega
   . exact hst v hv (hp.here j (by omega) hj2 e q)
theorem VPs.row {g:G} (h:g.conn = true) {r v:Nat} {x:List Int} (hp:VPs g r v (gR g.ports v).length x) (hv:v < g.ids.length):VPs g r (v + 1) 0 x:=by
 refine ⟨hp.base,fun u hu hun q=>?_,fun j hj=>by omega⟩;by_cases e:u = v
 . subst e;by_cases h0:u = 0
   . subst h0;rw [J30];exact hp.base.root
   . obtain ⟨l,hl,e⟩:=tv_back h hun h0;obtain ⟨j,hj,ej⟩:=List.getElem_of_mem hl;have ej:gF (gR g.ports u) j = l:=by rw [← ej];simp [gF,List.getD,hj]
     exact hp.here j hj hj (by rw [ej];exact e) q
 . exact hp.before u (by omega) hun q
theorem VPs.over {g:G} {r v:Nat} {x:List Int} (hp:VPs g r v 0 x) (hv:g.ids.length≤v):VIn g (r + 1) x :=
 ⟨hp.base.len,hp.base.root,hp.base.low,hp.base.top,fun u hu q=>hp.before u (by omega) hu (by omega)⟩
noncomputable def J1u (g:G):List Int:=(List.range g.ids.length).map fun v=>((Tv g v:Nat):Int)
theorem J17 (g:G):(J1u g).length = g.ids.length:=by simp [J1u]
theorem J22 {g:G} {v:Nat} (hv:v < g.ids.length):gI (J1u g) v = ((Tv g v:Nat):Int):=by simp [J1u,gI,List.getD,hv]
theorem VIn.done {g:G} {x:List Int} (h:VIn g g.ids.length x):x = J1u g:=by
 refine List.ext_getElem (by rw [J17,h.len]) fun i h1 h2=>?_;have hi:i < g.ids.length:=by rw [← h.len];exact h1
 have e1:=h.ok i hi (by have:=rk_top (g:=g) hi;omega);have e2:=J22 (g:=g) hi;simp only [gI,List.getD,List.getElem?_eq_getElem h1,List.getElem?_eq_getElem h2,Option.getD_some] at e1 e2;rw [e1,e2]
theorem VIn.start {g:G} (h:g.conn = true) {x:List Int} (hl:x.length = g.ids.length) (h0:gI x 0 = 0) (hx:∀ v,v < g.ids.length→v≠0→16 * (g.ids.length:Int)≤gI x v∧gI x v≤1073741824):VIn g 0 x:=by
 refine ⟨hl,h0,fun v hv=>?_,fun v hv=>?_,fun v hv q=>by omega⟩
 . by_cases e:v = 0
   . subst e;rw [J30,h0];exact Int.le_refl _
   . have:=(hx v hv e).1;have:=J7B h hv;omega
 . by_cases e:v = 0
   . subst e;omega
   . exact (hx v hv e).2
end Go.Proofs.YtgajaabakpfbbaaGreatDoor
namespace Go.Plain.Val
structure Net (n:Nat) (a:Nat→Nat→Bool) (D:Nat→Nat):Prop where
 rng:∀ u v,u < n→a u v = true→v < n
 root:∀ v,v < n→(D v = 0↔v = 0)
structure St where
 d:Nat→Int
 p:Nat→Int
structure Rule (n:Nat) (a:Nat→Nat→Bool) (D:Nat→Nat) (P:Nat→Int) (tg:(Nat→Int)→Nat→Int × Int):Prop where
 root:∀ d,tg d 0 = (0,-1)
 right:∀ d v,v < n→v≠0→(∀ u,a v u = true→D u < D v→d u = ((D u:Nat):Int))→(∀ u,a v u = true→D v≤D u→(D v:Int)≤d u)→tg d v = (((D v:Nat):Int),P v)
 low:∀ d v (k:Nat),v < n→v≠0→k < D v→(∀ u,a v u = true→(D u < k→d u = ((D u:Nat):Int))∧(k≤D u→(k:Int)≤d u))→((k + 1:Nat):Int)≤(tg d v).1
 proot:P 0 = -1
variable {n:Nat} {a:Nat→Nat→Bool} {D:Nat→Nat} {P:Nat→Int} {tg:(Nat→Int)→Nat→Int × Int}
def right (D:Nat→Nat) (P:Nat→Int) (s:St) (v:Nat):Prop:=s.d v = ((D v:Nat):Int)∧s.p v = P v
def off (tg:(Nat→Int)→Nat→Int × Int) (s:St) (v:Nat):Prop:=(s.d v,s.p v)≠tg s.d v
def Step (n:Nat) (tg:(Nat→Int)→Nat→Int × Int) (s:St) (c:Nat→Bool) (s':St):Prop :=
 ∀ v,v < n→(c v = true→off tg s v→(s'.d v,s'.p v) = tg s.d v)∧(c v = false∨¬ off tg s v→s'.d v = s.d v∧s'.p v = s.p v)
structure Ok (n:Nat) (D:Nat→Nat) (P:Nat→Int) (s:St) (k:Nat):Prop where
 low:∀ v,v < n→D v < k→right D P s v
 far:∀ v,v < n→k≤D v→(k:Int)≤s.d v
def bad (D:Nat→Nat) (P:Nat→Int) (s:St) (k v:Nat):Prop:=(D v = k∧¬ right D P s v)∨(k < D v∧s.d v < (k:Int) + 1)
theorem Ok.start {s:St} (h:∀ v,v < n→0≤s.d v):Ok n D P s 0:=⟨fun v _ h=>by omega,fun v hv _=>by simpa using h v hv⟩
theorem Ok.tgt (hN:Net n a D) (hR:Rule n a D P tg) {s:St} {k:Nat} (h:Ok n D P s k) {v:Nat} (hv:v < n) (hk:D v≤k):tg s.d v = (((D v:Nat):Int),P v):=by
 by_cases h0:v = 0
 . subst h0;rw [hR.root,(hN.root 0 hv).2 rfl,hR.proot];rfl
 . refine hR.right s.d v hv h0 (fun u hu e=>?_) (fun u hu e=>?_)
   . exact (h.low u (hN.rng v u hv hu) (by omega)).1
   . have hun:=hN.rng v u hv hu;by_cases q:D u < k
     . rw [(h.low u hun q).1];omega
     . have:=h.far u hun (by omega);omega
theorem Ok.tgfar (hN:Net n a D) (hR:Rule n a D P tg) {s:St} {k:Nat} (h:Ok n D P s k) {v:Nat} (hv:v < n) (hk:k < D v):((k + 1:Nat):Int)≤(tg s.d v).1:=by
 have h0:v≠0:=fun e=>by have:=(hN.root v hv).2 e;omega
 refine hR.low s.d v k hv h0 hk fun u hu=>⟨fun q=>(h.low u (hN.rng v u hv hu) q).1,fun q=>h.far u (hN.rng v u hv hu) q⟩
theorem Ok.off_bad (hN:Net n a D) (hR:Rule n a D P tg) {s:St} {k:Nat} (h:Ok n D P s k) {v:Nat} (hv:v < n) (hb:bad D P s k v):off tg s v:=by
 rcases hb with ⟨h1,h2⟩ | ⟨h1,h2⟩
 . intro e;rw [h.tgt hN hR hv (by omega)] at e;exact h2 ⟨(Prod.mk.inj e).1,(Prod.mk.inj e).2⟩
 . intro e;have:=h.tgfar hN hR hv h1;rw [← e] at this;simp only at this;omega
theorem Ok.step (hN:Net n a D) (hR:Rule n a D P tg) {s s':St} {c:Nat→Bool} {k:Nat} (h:Ok n D P s k) (hs:Step n tg s c s') :
 Ok n D P s' k∧∀ v,v < n→bad D P s' k v→bad D P s k v∧c v = false:=by
 have key:∀ v,v < n→(c v = true∧off tg s v∧(s'.d v,s'.p v) = tg s.d v)∨((c v = false∨¬ off tg s v)∧s'.d v = s.d v∧s'.p v = s.p v):=fun v hv=>by
  obtain ⟨h1,h2⟩:=hs v hv;by_cases q:c v = false∨¬ off tg s v
  . exact .inr ⟨q,h2 q⟩
  . have qc:c v = true:=by
     cases e:c v with
     | true=>rfl
     | false=>exact (q (.inl e)).elim
    have qo:off tg s v:=Classical.byContradiction fun e=>q (.inr e);exact .inl ⟨qc,qo,h1 qc qo⟩
 have low':∀ v,v < n→D v < k→right D P s' v:=fun v hv hk=>by
  rcases key v hv with ⟨_,_,e⟩ | ⟨_,e1,e2⟩
  . rw [h.tgt hN hR hv (by omega)] at e;exact ⟨(Prod.mk.inj e).1,(Prod.mk.inj e).2⟩
  . obtain ⟨r1,r2⟩:=h.low v hv hk;exact ⟨by rw [e1];exact r1,by rw [e2];exact r2⟩
 have far':∀ v,v < n→k≤D v→(k:Int)≤s'.d v:=fun v hv hk=>by
  rcases key v hv with ⟨_,_,e⟩ | ⟨_,e1,_⟩
  . by_cases q:D v = k
    . rw [h.tgt hN hR hv (by omega)] at e;rw [(Prod.mk.inj e).1];omega
    . have:=h.tgfar hN hR hv (by omega);rw [← e] at this;simp only at this;omega
  . rw [e1];exact h.far v hv hk
 refine ⟨⟨low',far'⟩,fun v hv hb=>?_⟩;rcases key v hv with ⟨_,_,e⟩ | ⟨q,e1,e2⟩
 . exfalso;rcases hb with ⟨h1,h2⟩ | ⟨h1,h2⟩
   . rw [h.tgt hN hR hv (by omega)] at e;exact h2 ⟨(Prod.mk.inj e).1,(Prod.mk.inj e).2⟩
   . have:=h.tgfar hN hR hv h1;rw [← e] at this;simp only at this;omega
 . have hb0:bad D P s k v:=by
    rcases hb with ⟨h1,h2⟩ | ⟨h1,h2⟩
    . exact .inl ⟨h1,fun r=>h2 ⟨by rw [e1];exact r.1,by rw [e2];exact r.2⟩⟩
    . exact .inr ⟨h1,by rw [← e1];exact h2⟩
   refine ⟨hb0,?_⟩;rcases q with q | q
   . exact q
   . exact (q (h.off_bad hN hR hv hb0)).elim
theorem Ok.next {s:St} {k:Nat} (h:Ok n D P s k) (hb:∀ v,v < n→¬ bad D P s k v):Ok n D P s (k + 1):=by
 refine ⟨fun v hv hk=>?_,fun v hv hk=>?_⟩
 . by_cases e:D v = k
   . exact Classical.byContradiction fun q=>hb v hv (.inl ⟨e,q⟩)
   . exact h.low v hv (by omega)
 . have:=hb v hv;apply Classical.byContradiction;intro q;exact this (.inr ⟨by omega,by omega⟩)
theorem Ok.all (hN:Net n a D) (hR:Rule n a D P tg) {s:St} {k:Nat} (h:Ok n D P s k) {v:Nat} (hv:v < n) (hk:D v < k):¬ off tg s v:=fun e=>by
 obtain ⟨r1,r2⟩:=h.low v hv hk;apply e;rw [h.tgt hN hR hv (by omega),r1,r2]
end Go.Plain.Val
namespace Go.Proofs.YtgajaabakpfbbaaGreatDoor
open Go.Eng
set_option maxRecDepth 100000
set_option linter.unusedVariables false
noncomputable def upW (g:G) (v:Nat):Int:=if v = 0 then -1 else fpI (fun l=>decide (exI g ((Tv g l.1.toNat:Nat):Int) l.2 = ((Tv g v:Nat):Int))) 0 (gR g.ports v)
def mnW (g:G) (d:Nat→Int) (v:Nat):Int:=minI ((gR g.ports v).map fun l=>exI g (d l.1.toNat) l.2) 1073741824
def tgW (g:G) (d:Nat→Int) (v:Nat):Int × Int :=
 if v = 0 then (0,-1) else (if mnW g d v < 16 * g.ids.length then mnW g d v else 16 * g.ids.length,fpI (fun l=>decide (exI g (d l.1.toNat) l.2 = mnW g d v)) 0 (gR g.ports v))
theorem exI_gt (g:G) (y w:Int):y < exI g y w:=by
 rw [exI];generalize w * (g.ids.length:Int) = m;split <;> omega
theorem netW {g:G} (h:g.conn = true):Go.Plain.Val.Net g.ids.length (adN g) (Tv g) :=
 ⟨fun u v hu hv=>(netB h).rng u v hu hv,fun v hv=>tv_zero h hv⟩
theorem ruleW {g:G} (h:g.conn = true):Go.Plain.Val.Rule g.ids.length (adN g) (Tv g) (upW g) (tgW g):=by
 obtain ⟨h1,h2⟩:=J0o h;obtain ⟨f1,f2,f3,f4,f5,f6,f7⟩:=J0e h1;refine ⟨fun d=>if_pos rfl,fun d v hv h0 hr1 hr2=>?_,fun d v k hv h0 hk hd=>?_,if_pos rfl⟩
 . have ht:=J7B h hv;have hok:=(J0t.1 (f6 v (by omega))).1;have hmem:∀ l∈gR g.ports v,adN g v l.1.toNat = true:=fun l hl=>J2K.2 ⟨l,hl,rfl⟩;have hle:∀ l∈gR g.ports v,((Tv g v:Nat):Int)≤exI g (d l.1.toNat) l.2:=fun l hl=>by
    have hw:0≤l.2:=by have:=hok l hl;omega
    by_cases q:Tv g l.1.toNat < Tv g v
    . rw [hr1 _ (hmem l hl) q,J6W g _ hw];have:=J57 h hv hl;omega
    . have:=hr2 _ (hmem l hl) (by omega);have:=exI_gt g (d l.1.toNat) l.2;omega
   have hm:mnW g d v = ((Tv g v:Nat):Int):=by
    obtain ⟨l,hl,e⟩:=tv_back h hv h0;have hw:0≤l.2:=by have:=hok l hl;omega
    have hlt:Tv g l.1.toNat < Tv g v:=by rw [e];exact exN_gt
    have a1:=(minI_le ((gR g.ports v).map fun l=>exI g (d l.1.toNat) l.2) 1073741824).2 _ (List.mem_map.2 ⟨l,hl,rfl⟩);rw [hr1 _ (hmem l hl) hlt,J6W g _ hw,← e] at a1;have a2:((Tv g v:Nat):Int)≤minI ((gR g.ports v).map fun l=>exI g (d l.1.toNat) l.2) 1073741824:=by
     refine minI_ge _ _ _ (by omega) fun b hb=>?_;obtain ⟨l',hl',rfl⟩:=List.mem_map.1 hb;exact hle l' hl'
    rw [mnW];omega
   rw [tgW,if_neg h0,hm,if_pos (by omega),upW,if_neg h0];refine Prod.ext rfl ?_;refine fpI_ext fun l hl=>?_;by_cases q:Tv g l.1.toNat < Tv g v
   . rw [hr1 _ (hmem l hl) q]
   . have q1:=hr2 _ (hmem l hl) (by omega);have q2:=exI_gt g (d l.1.toNat) l.2;have q3:=exI_gt g ((Tv g l.1.toNat:Nat):Int) l.2;rw [decide_eq_false (by omega),decide_eq_false (by omega)]
 . have ht:=J7B h hv;have hok:=(J0t.1 (f6 v (by omega))).1;have hm:((k + 1:Nat):Int)≤mnW g d v:=by
    refine minI_ge _ _ _ (by omega) fun b hb=>?_;obtain ⟨l,hl,rfl⟩:=List.mem_map.1 hb;have hw:0≤l.2:=by have:=hok l hl;omega
    obtain ⟨d1,d2⟩:=hd _ (J2K.2 ⟨l,hl,rfl⟩);by_cases q:Tv g l.1.toNat < k
    . rw [d1 q,J6W g _ hw];have:=J57 h hv hl;omega
    . have:=d2 (by omega);have:=exI_gt g (d l.1.toNat) l.2;omega
   rw [tgW,if_neg h0];simp only;split <;> omega
def qxT:Tm:=.bin 33 (.leaf 12 0) (.leaf 1 1)
def qwT:Tm:=.bin 30 (.leaf 16 0) (.leaf 6 0)
def exT:Tm:=.ite (.bin 39 qxT qwT) qxT qwT
def mwT:Tm:=.agg 24 exT
def n16T:Tm:=.bin 30 (.leaf 1 16) (.leaf 6 0)
def xWT:Tm:=.ite (.bin 37 mwT n16T) mwT n16T
def pWT:Tm:=.agg 23 (.bin 35 exT mwT)
def topWG:Tm:=.bin 41 (.leaf 10 0) (.bin 42 (.bin 36 (.leaf 5 0) (.leaf 1 0)) (.bin 36 (.leaf 5 1) (.leaf 4 0)))
def lowWG:Tm:=.bin 41 (.un 19 (.leaf 10 0)) (.bin 42 (.bin 36 (.leaf 5 0) xWT) (.bin 36 (.leaf 5 1) pWT))
def NnW (g:G) (c:Cf):Prop:=∀ v,v < g.ids.length→0≤dC c v∧dC c v≤16 * g.ids.length
theorem ex_sem {g:G} (hg:g.valid = true) {c:Cf} (hd:NnW g c) {v i:Nat} (hv:v < g.ids.length) (hi:i < (gR g.ports v).length):exT.sem g c v (i:Nat) = exI g (dC c (gF (gR g.ports v) i).1.toNat) (gF (gR g.ports v) i).2:=by
 obtain ⟨f1,f2,f3,f4,f5,f6,f7⟩:=J0e hg;have hok:=(J0t.1 (f6 v (by omega))).1 _ (J1l hi);have hdl:=hd (gF (gR g.ports v) i).1.toNat (by omega);have e1:qxT.sem g c v (i:Nat) = dC c (gF (gR g.ports v) i).1.toNat + 1:=by
  show sat (gI (gC c (nbV g v i)) 0 + 1) = _;have:nbV g v i = (gF (gR g.ports v) i).1.toNat:=by simp [nbV]
  rw [this];have hd2:0≤gI (gC c (gF (gR g.ports v) i).1.toNat) 0∧gI (gC c (gF (gR g.ports v) i).1.toNat) 0≤16 * g.ids.length:=hdl;exact sat_eq (by unfold inR;omega)
 have hmul:∃ m:Nat,(gF (gR g.ports v) i).2 * (g.ids.length:Int) = (m:Int)∧m≤15 * 24:=by
  refine ⟨(gF (gR g.ports v) i).2.toNat * g.ids.length,?_,Nat.mul_le_mul (by omega) f2⟩
  push_cast
  rw [Int.toNat_of_nonneg (by omega)]
 obtain ⟨m,hm,hm2⟩:=hmul;have e2:qwT.sem g c v (i:Nat) = (gF (gR g.ports v) i).2 * (g.ids.length:Int):=by
  show sat ((gF (gR g.ports v) ((i:Nat):Int).toNat).2 * (g.ids.length:Int)) = _;rw [Int.toNat_natCast,hm];exact sat_eq (by unfold inR;omega)
 show (if J2O (decide (qxT.sem g c v (i:Nat) > qwT.sem g c v (i:Nat)))≠0 then qxT.sem g c v (i:Nat) else qwT.sem g c v (i:Nat)) = _;rw [e1,e2,exI];simp only [J6H,decide_eq_true_eq];generalize (gF (gR g.ports v) i).2 * (g.ids.length:Int) = t;split <;> split <;> omega
theorem map_ex {g:G} (hg:g.valid = true) {c:Cf} (hd:NnW g c) {v:Nat} (hv:v < g.ids.length):((List.range (gR g.ports v).length).map fun (i:Nat)=>exT.sem g c v (i:Nat)) = (gR g.ports v).map fun l=>exI g (dC c l.1.toNat) l.2:=by
 rw [← range_map (gR g.ports v) (fun l=>exI g (dC c l.1.toNat) l.2)];refine List.map_congr_left fun i hi=>?_;exact ex_sem hg hd hv (List.mem_range.1 hi)
theorem mw_sem {g:G} (hg:g.valid = true) {c:Cf} (hd:NnW g c) {v:Nat} (hv:v < g.ids.length) (port:Int):mwT.sem g c v port = mnW g (dC c) v:=by
 show minI ((List.range (gR g.ports v).length).map fun (i:Nat)=>exT.sem g c v (i:Nat)) 1073741824 = _;rw [map_ex hg hd hv];rfl
theorem n16_sem {g:G} (hg:g.valid = true) (c:Cf) (v:Nat) (port:Int):n16T.sem g c v port = 16 * (g.ids.length:Int):=by
 obtain ⟨f1,f2,f3,f4,f5,f6,f7⟩:=J0e hg;show sat (16 * (g.ids.length:Int)) = _;exact sat_eq (by unfold inR;omega)
theorem mnW_nn {g:G} (hg:g.valid = true) {c:Cf} (hd:NnW g c) {v:Nat} (hv:v < g.ids.length):0≤mnW g (dC c) v:=by
 obtain ⟨f1,f2,f3,f4,f5,f6,f7⟩:=J0e hg;have hok:=(J0t.1 (f6 v (by omega))).1;refine minI_ge _ _ _ (by omega) fun b hb=>?_;obtain ⟨l,hl,rfl⟩:=List.mem_map.1 hb;have:=hok l hl;have:=(hd l.1.toNat (by omega)).1;have:=exI_gt g (dC c l.1.toNat) l.2;omega
theorem x_semW {g:G} (hg:g.valid = true) {c:Cf} (hd:NnW g c) {v:Nat} (hv:v < g.ids.length) (h0:v≠0) (port:Int):xWT.sem g c v port = (tgW g (dC c) v).1:=by
 show (if J2O (decide (mwT.sem g c v port < n16T.sem g c v port))≠0 then mwT.sem g c v port else n16T.sem g c v port) = _;rw [mw_sem hg hd hv,n16_sem hg,tgW,if_neg h0];simp only [J6H,decide_eq_true_eq]
theorem p_semW {g:G} (hg:g.valid = true) {c:Cf} (hd:NnW g c) {v:Nat} (hv:v < g.ids.length) (h0:v≠0) (port:Int):pWT.sem g c v port = (tgW g (dC c) v).2:=by
 show idxI 0 ((List.range (gR g.ports v).length).map fun (i:Nat)=>J2O (decide (exT.sem g c v (i:Nat) = mwT.sem g c v (i:Nat)))) = _;rw [tgW,if_neg h0];simp only;have e:((List.range (gR g.ports v).length).map fun (i:Nat)=>J2O (decide (exT.sem g c v (i:Nat) = mwT.sem g c v (i:Nat)))) = (gR g.ports v).map fun l=>J2O (decide (exI g (dC c l.1.toNat) l.2 = mnW g (dC c) v)):=by
  rw [← range_map (gR g.ports v) (fun l=>J2O (decide (exI g (dC c l.1.toNat) l.2 = mnW g (dC c) v)))];refine List.map_congr_left fun i hi=>?_;rw [ex_sem hg hd hv (List.mem_range.1 hi),mw_sem hg hd hv]
 rw [e];exact idx_fpI fun l _=>by rw [J6H]
def offW (g:G) (c:Cf) (v:Nat):Bool:=decide ((dC c v,pC c v)≠tgW g (dC c) v)
theorem topW_sem (g:G) (c:Cf) (v:Nat):topWG.sem g c v (-1) = J2O (decide (v = 0) && offW g c v):=by
 show J2O (decide (J2O (decide (v = 0))≠0∧J2O (decide (J2O (decide (dC c v≠0))≠0∨J2O (decide (pC c v≠-1))≠0))≠0)) = _;congr 1;simp only [J6H,decide_eq_true_eq];by_cases h0:v = 0
 . rw [offW,tgW,if_pos h0];simp only [h0,true_and,decide_true,Bool.true_and];rw [decide_eq_decide];simp only [ne_eq,Prod.mk.injEq];exact (Classical.not_and_iff_not_or_not).symm
 . simp [h0]
theorem lowW_sem {g:G} (hg:g.valid = true) {c:Cf} (hd:NnW g c) {v:Nat} (hv:v < g.ids.length):lowWG.sem g c v (-1) = J2O (!decide (v = 0) && offW g c v):=by
 show J2O (decide (J2O (decide (J2O (decide (v = 0)) = 0))≠0∧J2O (decide (J2O (decide (dC c v≠xWT.sem g c v (-1)))≠0∨J2O (decide (pC c v≠pWT.sem g c v (-1)))≠0))≠0)) = _;congr 1;simp only [J6H,itru_eq0,decide_eq_true_eq,decide_eq_false_iff_not];by_cases h0:v = 0
 . simp [h0]
 . rw [x_semW hg hd hv h0,p_semW hg hd hv h0,offW];simp only [h0,not_false_eq_true,true_and,decide_false,Bool.not_false,Bool.true_and];rw [decide_eq_decide];generalize tgW g (dC c) v = t;obtain ⟨t1,t2⟩:=t;simp only [ne_eq,Prod.mk.injEq];exact (Classical.not_and_iff_not_or_not).symm
end Go.Proofs.YtgajaabakpfbbaaGreatDoor
namespace Go.Proofs.YtgajaabakpfbbaaGreatDoor
open Go.Eng
set_option maxRecDepth 100000
set_option linter.unusedVariables false
def vW2:List Vr:=[⟨ByteArray.mk #[120],1,0,0,16,0⟩,⟨ByteArray.mk #[112],3,0,0,0,0⟩]
def J0U:Pr:=⟨ByteArray.mk #[119,105,100,101,115,116],vW2,[⟨ByteArray.mk #[116,111,112],topWG,[(0,.leaf 1 0),(1,.leaf 4 0)]⟩,
 ⟨ByteArray.mk #[108,111,119],lowWG,[(0,xWT),(1,pWT)]⟩]⟩
theorem wid_rng {g:G} {c:Cf} (h:J1O J0U g c) {v:Nat} (hv:v < g.ids.length):(gC c v).length = 2∧0≤dC c v∧dC c v≤16 * g.ids.length∧-1≤pC c v∧pC c v≤((gR g.ports v).length:Int) - 1:=by
 have hl:v < c.length:=by rw [h.len];exact hv
 have h0:=h.val v hl 0 (by decide);have h1:=h.val v hl 1 (by decide);have e0:bnd g (gV J0U.vars 0) v = (0,0 + 16 * (g.ids.length:Int) + 0 * topI g):=rfl;have e1:bnd g (gV J0U.vars 1) v = (-1,((gR g.ports v).length:Int) - 1):=rfl;rw [e0] at h0;rw [e1] at h1;obtain ⟨a1,a2⟩:=h0;obtain ⟨b1,b2⟩:=h1;simp only at a1 a2 b1 b2;exact ⟨h.row v hl,a1,by show gI (gC c v) 0≤_;omega,b1,b2⟩
theorem J7u {g:G} {c:Cf} (h:J1O J0U g c):NnW g c:=fun v hv=>⟨(wid_rng h hv).2.1,(wid_rng h hv).2.2.1⟩
def stX (c:Cf):Go.Plain.Val.St:=⟨dC c,pC c⟩
theorem J4t {g:G} {c:Cf} {v:Nat}:Go.Plain.Val.off (tgW g) (stX c) v↔offW g c v = true:=by
 rw [offW,decide_eq_true_eq];exact Iff.rfl
theorem wid_gds (g:G) (c:Cf) (v:Nat):gds J0U g c v = [topWG.sem g c v (-1),lowWG.sem g c v (-1)]:=rfl
theorem wid_off {g:G} (hg:g.valid = true) {c:Cf} (hc:J1O J0U g c) {v:Nat} (hv:v < g.ids.length) (ho:offW g c v = true):J1G J0U g c v = if v = 0 then 0 else 1:=by
 rw [J1G,wid_gds,topW_sem,lowW_sem hg (J7u hc) hv,ho];by_cases h0:v = 0
 . rw [decide_eq_true h0,if_pos h0];rfl
 . rw [decide_eq_false h0,if_neg h0];rfl
theorem wid_noff {g:G} (hg:g.valid = true) {c:Cf} (hc:J1O J0U g c) {v:Nat} (hv:v < g.ids.length) (ho:offW g c v = false):J1G J0U g c v = -1:=by
 rw [J1G,wid_gds,topW_sem,lowW_sem hg (J7u hc) hv,ho,Bool.and_false,Bool.and_false];rfl
theorem wid_en {g:G} (hg:g.valid = true) {c:Cf} (hc:J1O J0U g c) {v:Nat} (hv:v < g.ids.length):(enN J0U g c).testBit v = true↔offW g c v = true:=by
 rw [en_bit,decide_eq_true hv,Bool.true_and,decide_eq_true_eq];cases ho:offW g c v with
 | true =>
   rw [wid_off hg hc hv ho];exact ⟨fun _=>rfl,fun _=>by split <;> omega⟩
 | false =>
   rw [wid_noff hg hc hv ho];exact ⟨fun h=>by omega,fun h=>by cases h⟩
theorem wid_en0 {g:G} (hg:g.valid = true) {c:Cf} (hc:J1O J0U g c):enN J0U g c = 0↔∀ v,v < g.ids.length→offW g c v = false:=by
 constructor
 . intro e v hv;cases ho:offW g c v with
   | false=>rfl
   | true =>
     have:=(wid_en hg hc hv).2 ho;rw [e] at this;simp at this
 . intro h;apply Nat.eq_of_testBit_eq;intro v;rw [Nat.zero_testBit];cases e:(enN J0U g c).testBit v with
   | false=>rfl
   | true =>
     have hlt:v < g.ids.length:=by rw [en_bit,Bool.and_eq_true,decide_eq_true_eq] at e;exact e.1
     have:=(wid_en hg hc hlt).1 e;rw [h v hlt] at this;cases this
theorem wd0 (g:G) (c:Cf) (v:Nat):J35 J0U g c v 0 = ((gC c v).set 0 (brI 1 0 (0 + 16 * (g.ids.length:Int) + 0 * topI g) 0)).set 1 (brI 3 (-1) (((gR g.ports v).length:Int) - 1) (-1)):=rfl
theorem wd1 (g:G) (c:Cf) (v:Nat):J35 J0U g c v 1 = ((gC c v).set 0 (brI 1 0 (0 + 16 * (g.ids.length:Int) + 0 * topI g) (xWT.sem g c v (-1)))).set 1 (brI 3 (-1) (((gR g.ports v).length:Int) - 1) (pWT.sem g c v (-1))):=rfl
theorem brX_val {k lo hi a:Int} (h:lo≤a∧a≤hi):brI k lo hi a = a:=by rw [brI,if_pos h]
theorem tgW_rng {g:G} (hg:g.valid = true) {c:Cf} (hc:J1O J0U g c) {v:Nat} (hv:v < g.ids.length) (h0:v≠0):0≤(tgW g (dC c) v).1∧(tgW g (dC c) v).1≤16 * g.ids.length∧-1≤(tgW g (dC c) v).2∧(tgW g (dC c) v).2≤((gR g.ports v).length:Int) - 1:=by
 have hm:=mnW_nn hg (J7u hc) hv;have hf:=fpI_range (fun l=>decide (exI g (dC c l.1.toNat) l.2 = mnW g (dC c) v)) (gR g.ports v) 0;rw [tgW,if_neg h0];simp only;split <;> omega
theorem wid_step {g:G} (hg:g.valid = true) {c:Cf} (hc:J1O J0U g c) {s:Nat} (hs:J5b s (enN J0U g c)):Go.Plain.Val.Step g.ids.length (tgW g) (stX c) (fun v=>s.testBit v) (stX (J1D J0U g c s)):=by
 intro v hv;have hl:=hc.len;have hlen:=(wid_rng hc hv).1;have hrow:=J4o J0U g c s (v:=v) (by omega);refine ⟨fun hb ho=>?_,fun hq=>?_⟩
 . rw [J4t] at ho;rw [if_pos hb,wid_off hg hc hv ho] at hrow;show (gI (gC (J1D J0U g c s) v) 0,gI (gC (J1D J0U g c s) v) 1) = tgW g (dC c) v;by_cases h0:v = 0
   . rw [if_pos h0] at hrow;rw [hrow,show (0:Int).toNat = 0 from rfl,wd0];rw [J6N _ _ _ _ (by rw [List.length_set];omega),if_neg (by decide),J6N _ _ _ _ (by omega),if_pos rfl,J6N _ _ _ _ (by rw [List.length_set];omega),if_pos rfl,tgW,if_pos h0,brX_val (by omega),brX_val (by omega)]
   . rw [if_neg h0] at hrow;obtain ⟨r1,r2,r3,r4⟩:=tgW_rng hg hc hv h0;rw [hrow,show (1:Int).toNat = 1 from rfl,wd1,x_semW hg (J7u hc) hv h0,p_semW hg (J7u hc) hv h0];rw [J6N _ _ _ _ (by rw [List.length_set];omega),if_neg (by decide),J6N _ _ _ _ (by omega),if_pos rfl,J6N _ _ _ _ (by rw [List.length_set];omega),if_pos rfl,brX_val (by omega),brX_val (by omega)]
 . show gI (gC (J1D J0U g c s) v) 0 = gI (gC c v) 0∧gI (gC (J1D J0U g c s) v) 1 = gI (gC c v) 1;cases hb:s.testBit v with
   | false=>rw [hrow,hb];exact ⟨rfl,rfl⟩
   | true =>
     exfalso;have ho:=(wid_en hg hc hv).1 (hs v hb);rcases hq with q | q
     . exact absurd (hb.symm.trans q) (by simp)
     . rw [J4t] at q;exact q ho
theorem maxV_mem:∀ {l:List Int} {a:Int} (m:Int),a∈l→a≤J1V l m
 | [],_,_,h=>by simp at h
 | x :: r,a,m,h=>by
   rw [J1V];rcases List.mem_cons.1 h with e | e
   . subst e;refine Int.le_trans ?_ (J3p r _);split <;> omega
   . exact maxV_mem _ e
def TrX (g:G) (c:Cf):Prop:=∀ v,v < g.ids.length→dC c v = ((Tv g v:Nat):Int)∧pC c v = upW g v
noncomputable def mxV (g:G):Int:=J1V (J1u g) 0
theorem mx_le {g:G} {v:Nat} (hv:v < g.ids.length):((Tv g v:Nat):Int)≤mxV g:=by
 have:gI (J1u g) v∈J1u g:=by
  have hl:=J17 g;simp only [gI,List.getD,List.getElem?_eq_getElem (show v < (J1u g).length by omega),Option.getD_some];exact List.getElem_mem _
 rw [← J22 hv];exact maxV_mem 0 this
theorem trX_ok {g:G} {c:Cf} (ht:TrX g c) {k:Nat} (hk:∀ v,v < g.ids.length→Tv g v < k):Go.Plain.Val.Ok g.ids.length (Tv g) (upW g) (stX c) k :=
 ⟨fun v hv _=>ht v hv,fun v hv q=>by have:=hk v hv;omega⟩
theorem okX_tr {g:G} {c:Cf} {k:Nat} (ho:Go.Plain.Val.Ok g.ids.length (Tv g) (upW g) (stX c) k) (hk:∀ v,v < g.ids.length→Tv g v < k):TrX g c :=
 fun v hv=>ho.low v hv (hk v hv)
theorem tv_lt {g:G} (h:g.conn = true):∀ v,v < g.ids.length→Tv g v < 16 * g.ids.length:=fun v hv=>by have:=J7B h hv;omega
theorem trX_noff {g:G} (h:g.conn = true) {c:Cf} (ht:TrX g c) {v:Nat} (hv:v < g.ids.length):offW g c v = false:=by
 have:=(trX_ok ht (tv_lt h)).all (netW h) (ruleW h) hv (tv_lt h v hv);rw [J4t] at this;simpa using this
theorem trX_step {g:G} (h:g.conn = true) {c:Cf} (hc:J1O J0U g c) (ht:TrX g c) {s:Nat} (hs:J5b s (enN J0U g c)):TrX g (J1D J0U g c s) :=
 okX_tr ((trX_ok ht (tv_lt h)).step (netW h) (ruleW h) (wid_step (J0o h).1 hc hs)).1 (tv_lt h)
theorem wid_nnS {g:G} {c:Cf} (hc:J1O J0U g c):∀ v,v < g.ids.length→0≤dC c v:=fun v hv=>(J7u hc v hv).1
theorem all_trX {g:G} (h:g.conn = true) {c:Cf} (hc:J1O J0U g c) (ho:∀ v,v < g.ids.length→offW g c v = false):TrX g c:=by
 have key:∀ k,Go.Plain.Val.Ok g.ids.length (Tv g) (upW g) (stX c) k:=fun k=>by
  induction k with
  | zero=>exact Go.Plain.Val.Ok.start (wid_nnS hc)
  | succ k ih =>
    refine ih.next fun v hv hb=>?_;have:=ih.off_bad (netW h) (ruleW h) hv hb;rw [J4t,ho v hv] at this;cases this
 exact okX_tr (key _) (tv_lt h)
theorem wid_rests {g:G} (h:g.conn = true) {c:Cf} (hc:J1O J0U g c):enN J0U g c = 0↔TrX g c:=by
 rw [wid_en0 (J0o h).1 hc];exact ⟨fun q=>all_trX h hc q,fun q v hv=>trX_noff h q hv⟩
structure XIn (g:G) (c:Cf) (k:Cnt):Prop where
 hr:(k.rounds:Int)≤mxV g
 ho:Go.Plain.Val.Ok g.ids.length (Tv g) (upW g) (stX c) k.rounds
 hb:∀ v,v < g.ids.length→Go.Plain.Val.bad (Tv g) (upW g) (stX c) k.rounds v→k.pend.testBit v = true
theorem badX_en {g:G} (h:g.conn = true) {c:Cf} (hc:J1O J0U g c) {k:Nat} (ho:Go.Plain.Val.Ok g.ids.length (Tv g) (upW g) (stX c) k) {v:Nat} (hv:v < g.ids.length) (hb:Go.Plain.Val.bad (Tv g) (upW g) (stX c) k v):(enN J0U g c).testBit v = true :=
 (wid_en (J0o h).1 hc hv).2 (J4t.1 (ho.off_bad (netW h) (ruleW h) hv hb))
theorem mx_nn (g:G):0≤mxV g:=J3p _ _
theorem xin_start {g:G} (h:g.conn = true) {c:Cf} (hc:J1O J0U g c):XIn g c (J4f (enN J0U g c)) :=
 ⟨by simpa [J4f] using mx_nn g,Go.Plain.Val.Ok.start (wid_nnS hc),fun v hv hb=>badX_en h hc (Go.Plain.Val.Ok.start (wid_nnS hc)) hv hb⟩
theorem xin_bound {g:G} {c:Cf} {k:Cnt} (hk:k.Ok) (hi:XIn g c k):(k.begun:Int)≤mxV g + 1:=by
 have:=hk.br;have:=hi.hr;omega
theorem xin_step {g:G} (h:g.conn = true) {c:Cf} (hc:J1O J0U g c) {k:Cnt} (hi:XIn g c k) {s:Nat} (hs:J5b s (enN J0U g c)) (hc':J1O J0U g (J1D J0U g c s)) (hn:¬ TrX g (J1D J0U g c s)) :
 XIn g (J1D J0U g c s) (k.add s (enN J0U g (J1D J0U g c s))):=by
 obtain ⟨h1,h2⟩:=J0o h;obtain ⟨f1,f2,f3,f4,f5,f6,f7⟩:=J0e h1;have hstep:=wid_step h1 hc hs;obtain ⟨hr,ho,hb⟩:=hi;have hlf:∀ v,v < g.ids.length→((lft k s (enN J0U g (J1D J0U g c s))).testBit v = true↔(k.pend.testBit v = true∧s.testBit v = false)∧(enN J0U g (J1D J0U g c s)).testBit v = true):=fun v hv=>by
  simp only [lft,Nat.testBit_and,J4u (show v < 32 by omega),Bool.and_eq_true,Bool.not_eq_true']
 obtain ⟨ho',hb'⟩:=ho.step (netW h) (ruleW h) hstep;have hbl:∀ v,v < g.ids.length→Go.Plain.Val.bad (Tv g) (upW g) (stX (J1D J0U g c s)) k.rounds v→(lft k s (enN J0U g (J1D J0U g c s))).testBit v = true:=fun v hv q=>by
  obtain ⟨q1,q2⟩:=hb' v hv q;exact (hlf v hv).2 ⟨⟨hb v hv q1,q2⟩,badX_en h hc' ho' hv q⟩
 by_cases hz:lft k s (enN J0U g (J1D J0U g c s)) = 0
 . rw [Cnt.add,if_pos hz];have hnx:=ho'.next fun v hv q=>by
    have:=hbl v hv q;rw [hz] at this;simp at this
   refine ⟨?_,hnx,fun v hv q=>badX_en h hc' hnx hv q⟩;apply Classical.byContradiction;intro q;refine hn (okX_tr hnx fun v hv=>?_);have:=mx_le (g:=g) hv;simp only at q;omega
 . rw [Cnt.add,if_neg hz];exact ⟨hr,ho',hbl⟩
end Go.Proofs.YtgajaabakpfbbaaGreatDoor
namespace Go.Proofs.YtgajaabakpfbbaaGreatDoor
open Go.Eng
set_option maxRecDepth 100000
set_option linter.unusedVariables false
def cup (x:Nat→Bool) (v:Nat) (t:Bool):Nat→Bool:=fun u=>if u = v then t else x u
structure BIn (g:G) (b:Int) (r:Nat) (x:Nat→Bool):Prop where
 root:x 0 = true
 snd:∀ v,v < g.ids.length→x v = true→((Tv g v:Nat):Int) + 1≤b * g.ids.length + J3M x g.ids.length
 ok:∀ v,v < g.ids.length→rkV g v < r→((Tv g v / g.ids.length:Nat):Int)≤b→x v = true
structure BPs (g:G) (b:Int) (r v i:Nat) (x:Nat→Bool):Prop where
 base:BIn g b r x
 before:∀ u,u < v→u < g.ids.length→rkV g u≤r→((Tv g u / g.ids.length:Nat):Int)≤b→x u = true
 here:∀ j,j < i→j < (gR g.ports v).length→Tv g v = exN g.ids.length (Tv g (gF (gR g.ports v) j).1.toNat) (gF (gR g.ports v) j).2.toNat→rkV g v≤r→((Tv g v / g.ids.length:Nat):Int)≤b→x v = true
theorem BPs.start {g:G} {b:Int} {r:Nat} {x:Nat→Bool} (h:BIn g b r x):BPs g b r 0 0 x:=⟨h,fun u hu=>by omega,fun j hj=>by omega⟩
theorem BIn.start {g:G} {b:Int} (hb:0≤b) (hn:0 < g.ids.length):BIn g b 0 (fun v=>decide (v = 0)):=by
 refine ⟨rfl,fun v hv e=>?_,fun v hv q=>by omega⟩;have e:=of_decide_eq_true e;subst e;rw [J30];have h1:J3M (fun v=>decide (v = 0)) g.ids.length = 1:=by
  obtain ⟨m,hm⟩:∃ m,g.ids.length = m + 1:=⟨g.ids.length - 1,by omega⟩;rw [hm];clear hm hn
  induction m with
  | zero=>rfl
  | succ m ih=>rw [J3M,ih];simp
 have h2:0≤b * (g.ids.length:Int):=Int.mul_nonneg hb (by omega);omega
theorem BPs.step {g:G} (h:g.conn = true) {b:Int} (hb:0≤b) {r v i:Nat} {x:Nat→Bool} (hp:BPs g b r v i x) (hv:v < g.ids.length) (hi:i < (gR g.ports v).length) :
 BPs g b r v (i + 1) (cup x v (x v || (x (gF (gR g.ports v) i).1.toNat && decide ((gF (gR g.ports v) i).2≤b)))):=by
 obtain ⟨h1,h2⟩:=J0o h;obtain ⟨f1,f2,f3,f4,f5,f6,f7⟩:=J0e h1;have hB:=hp.base;have hl:=J1l hi;have hok:=(J0t.1 (f6 v (by omega))).1 _ hl;generalize hL:gF (gR g.ports v) i = l at *;have hun:l.1.toNat < g.ids.length:=by omega
 have hst:∀ u,x u = true→cup x v (x v || (x l.1.toNat && decide (l.2≤b))) u = true:=fun u e=>by
  rw [cup];split
  . rename_i q;subst q;simp [e]
  . exact e
 refine ⟨⟨hst 0 hB.root,fun u hu e=>?_,fun u hu q q2=>hst u (hB.ok u hu q q2)⟩,fun u hu hun q q2=>hst u (hp.before u hu hun q q2),fun j hj hj2 e q q2=>?_⟩
 . by_cases hxu:x u = true
   . have h3:=hB.snd u hu hxu;have h4:J3M x g.ids.length≤J3M (cup x v (x v || (x l.1.toNat && decide (l.2≤b)))) g.ids.length:=cntV_le fun w _ q=>hst w q;omega
   . have hxf:x u = false:=by simpa using hxu
     have huv:u = v:=by
      apply Classical.byContradiction;intro ne;rw [cup,if_neg ne] at e;exact hxu e
     subst huv;have e2:=e;rw [cup,if_pos rfl,hxf,Bool.false_or,Bool.and_eq_true,decide_eq_true_eq] at e2;have h3:=hB.snd _ hun e2.1;have h4:J3M (cup x u (x u || (x l.1.toNat && decide (l.2≤b)))) g.ids.length = J3M x g.ids.length + 1:=J4G (u:=u) e hxf (fun w hw=>by rw [cup,if_neg hw]) hu;have h5:=J57 h hv hl;have h6:((l.2.toNat * g.ids.length:Nat):Int)≤b * g.ids.length:=by
      push_cast
      rw [Int.toNat_of_nonneg (by omega)];exact Int.mul_le_mul_of_nonneg_right e2.2 (by omega)
     rw [h4];simp only [exN] at h5;generalize l.2.toNat * g.ids.length = m at *;generalize b * (g.ids.length:Int) = t at *;omega
 . by_cases ej:j = i
   . subst ej;rw [hL] at e;have hlt:Tv g l.1.toNat < Tv g v:=by rw [e];exact exN_gt
     have hrk:=rk_lt hun hlt;have hx:=hB.ok l.1.toNat hun (by omega) (by
      have:Tv g l.1.toNat / g.ids.length≤Tv g v / g.ids.length:=Nat.div_le_div_right (by omega);omega)
     have hw:l.2≤b:=by
      have h7:l.2.toNat * g.ids.length≤Tv g v:=by rw [e,exN];omega
      have h8:l.2.toNat≤Tv g v / g.ids.length:=(Nat.le_div_iff_mul_le (by omega)).2 h7;omega
     rw [cup,if_pos rfl,hx,decide_eq_true hw];simp
   . exact hst v (hp.here j (by omega) hj2 e q q2)
theorem BPs.row {g:G} (h:g.conn = true) {b:Int} {r v:Nat} {x:Nat→Bool} (hp:BPs g b r v (gR g.ports v).length x) (hv:v < g.ids.length):BPs g b r (v + 1) 0 x:=by
 refine ⟨hp.base,fun u hu hun q q2=>?_,fun j hj=>by omega⟩;by_cases e:u = v
 . subst e;by_cases h0:u = 0
   . subst h0;exact hp.base.root
   . obtain ⟨l,hl,e⟩:=tv_back h hun h0;obtain ⟨j,hj,ej⟩:=List.getElem_of_mem hl;have ej:gF (gR g.ports u) j = l:=by rw [← ej];simp [gF,List.getD,hj]
     exact hp.here j hj hj (by rw [ej];exact e) q q2
 . exact hp.before u (by omega) hun q q2
theorem BPs.over {g:G} {b:Int} {r v:Nat} {x:Nat→Bool} (hp:BPs g b r v 0 x) (hv:g.ids.length≤v):BIn g b (r + 1) x :=
 ⟨hp.base.root,hp.base.snd,fun u hu q q2=>hp.before u (by omega) hu (by omega) q2⟩
theorem BIn.done {g:G} {b:Int} (hb:0≤b) {x:Nat→Bool} (h:BIn g b g.ids.length x) {v:Nat} (hv:v < g.ids.length):x v = decide (((Tv g v / g.ids.length:Nat):Int)≤b):=by
 cases e:x v with
 | true =>
   symm;rw [decide_eq_true_eq];have h1:=h.snd v hv e;have h2:=J5W x g.ids.length;obtain ⟨k,rfl⟩:∃ k:Nat,b = (k:Int):=⟨b.toNat,by omega⟩;have h3:Tv g v < (k + 1) * g.ids.length:=by
    have:(k:Int) * (g.ids.length:Int) = ((k * g.ids.length:Nat):Int):=by push_cast;rfl
    rw [this] at h1;rw [Nat.add_mul];omega
   have h4:=(Nat.div_lt_iff_lt_mul (by omega)).2 h3;omega
 | false =>
   symm;rw [decide_eq_false_iff_not];intro q;have:=h.ok v hv (by have:=rk_top (g:=g) hv;omega) q;rw [e] at this;cases this
end Go.Proofs.YtgajaabakpfbbaaGreatDoor
namespace Go.Proofs.YtgajaabakpfbbaaGreatDoor
open Go.Eng
set_option maxRecDepth 100000
set_option linter.unusedVariables false
def bX (g:G) (v x:Nat):Int × Int:=if x = 0 then (0,16 * g.ids.length) else (-1,((gR g.ports v).length:Int) - 1)
def G.xconf (g:G) (c:Cf):Bool:=conf g.ids.length 2 (bX g) c
theorem xconf_g (g:G) (hg:g.valid = true) (c:Cf):conf g.ids.length [16 * (g.ids.length:Int),-1].length (bG g [16 * (g.ids.length:Int),-1]) c = g.xconf c:=conf_ext' (fun v x hv hx=>by
 have e:x = 0∨x = 1:=by simp at hx;omega
 rcases e with rfl | rfl
 . rw [bG,show gI [16 * (g.ids.length:Int),-1] 0 = 16 * (g.ids.length:Int) from rfl,if_neg (by omega)];rfl
 . rfl)
theorem vW_ok:VOk vW2:=⟨by decide,fun x=>by
 rcases x with _ | _ | x
 . decide
 . decide
 . have:gV vW2 (x + 2) = default:=by simp [gV,vW2,List.getD]
   rw [this];decide⟩
theorem vW_lo (x:Nat):0≤(gV vW2 x).lo∧(gV vW2 x).lo≤1000:=by
 rcases x with _ | _ | x
 . exact ⟨by decide,by decide⟩
 . exact ⟨by decide,by decide⟩
 . have:gV vW2 (x + 2) = default:=by simp [gV,vW2,List.getD]
   rw [this];exact ⟨by decide,by decide⟩
theorem J53 {g:G} {c:Cf} (h:g.xconf c = true):c.length = g.ids.length∧∀ v,v < c.length→(gC c v).length = 2∧0≤gI (gC c v) 0∧gI (gC c v) 0≤16 * g.ids.length∧-1≤gI (gC c v) 1∧gI (gC c v) 1 < (gR g.ports v).length:=by
 have:=J3L.1 h;refine ⟨this.1,fun v hv=>?_⟩;have h2:=this.2 v (by omega);have h3:=h2.2 0 (by omega);have h4:=h2.2 1 (by omega);simp only [bX,if_true,Nat.one_ne_zero,if_false] at h3 h4;omega
theorem xconf_of {g:G} {c:Cf} (h:J1O J0U g c):g.xconf c = true:=by
 rw [G.xconf,J3L];refine ⟨h.len,fun v hv=>?_⟩;obtain ⟨h0,h1,h2,h3,h4⟩:=wid_rng h hv;refine ⟨h0,fun x hx=>?_⟩;rcases (show x = 0∨x = 1 by omega) with rfl | rfl
 . exact ⟨h1,h2⟩
 . exact ⟨h3,h4⟩
theorem wdfit_ok (g:G) (hs:g.Small):Ret Tryz.prog 47 [g.v] (.bool g.conn):=by
 have h:=conn_ok g hs;refine J0f rfl ?_;refine J0b J0a Tryz.func47 rfl hc47 hr47 rfl ?_;cases hc:g.conn
 all_goals rw [hc] at h
 all_goals
  repeat' ((conv=>whnf);first | (refine Br.tt ?_) | (refine Br.ff ?_) | (refine h.go ?_))
  all_goals (conv=>whnf)
  exact VLe.rfl
theorem rwdfit_ok (g:G) (hs:g.Small):Ret Tryz.prog 50 [g.v] (.bool g.conn):=by
 have h:=rconn_ok g hs;refine J0f rfl ?_;refine J0b J0a Tryz.func50 rfl hc50 hr50 rfl ?_;cases hc:g.conn
 all_goals rw [hc] at h
 all_goals
  repeat' ((conv=>whnf);first | (refine Br.tt ?_) | (refine Br.ff ?_) | (refine h.go ?_))
  all_goals (conv=>whnf)
  exact VLe.rfl
theorem J2w (g:G) (hs:g.Small) (c:Cf) (hc:J7i c):Ret Tryz.prog 32 [g.v,cV c] (.bool (g.conn && g.xconf c)):=by
 have hf:=wdfit_ok g hs;refine J0f rfl ?_;refine J0b J0a Tryz.func32 rfl hc32 hr32 rfl ?_;cases hg:g.conn with
 | true =>
   rw [hg] at hf;rw [Bool.true_and];obtain ⟨h1,_⟩:=J0o hg;obtain ⟨f1,f2,f3,f4,f5,f6,f7⟩:=J0e h1;have hb:=bconf_ok g hs f3 c hc [16 * (g.ids.length:Int),-1] (by simp);rw [xconf_g g h1] at hb
   repeat' ((conv=>whnf);first | (refine Br.tt ?_) | (refine Ar.i64 (by omega) (by omega) ?_) | (refine hf.go ?_) | (refine J3N [1] hb ⟨by decide,VLe.rfl,VLe.rfl,VLe.fz rfl (fun h=>h) (two_le' _ _ _ (by first | rfl | (congr 1;omega)) rfl),True.intro⟩ ?_) | (refine Br.any (fun _=>?_) (fun _=>?_)))
   all_goals (conv=>whnf)
   all_goals exact VLe.bool (Eq.symm (by first | assumption | exact decide_eq_true (by assumption) | exact decide_eq_false (by assumption)))
 | false =>
   rw [hg] at hf
   repeat' ((conv=>whnf);first | (refine Br.ff ?_) | (refine hf.go ?_))
   all_goals (conv=>whnf)
   all_goals exact VLe.rfl
theorem wvars25_ok:Ret Tryz.prog 18 [] (.fz vW2.length 6 false (vV vW2)):=by
 refine J0f rfl ?_;refine J0b J0a Tryz.func18 rfl hc18 hr18 rfl ?_
 repeat' ((conv=>whnf);first | (refine Len.mk (by omega) ?_) | (refine (cnumber_ok _ _ _ _).go ?_) | (refine (cpointer_ok _).go ?_))
 all_goals (conv=>whnf)
 refine VLe.fz rfl (fun h=>h) (fun i j hi hj=>?_);rcases (show i = 0∨i = 1 by omega) with rfl | rfl
 all_goals
  rcases (show j = 0∨j = 1∨j = 2∨j = 3∨j = 4∨j = 5 by omega) with rfl | rfl | rfl | rfl | rfl | rfl
 all_goals exact VLe.of_eq rfl
noncomputable def trXB (g:G) (c:Cf):Bool:=decide (∀ v,v < c.length→gI (gC c v) 0 = gI (J1u g) v∧gI (gC c v) 1 = upW g v)
theorem trXB_iff {g:G} {c:Cf}:trXB g c = true↔∀ v,v < c.length→gI (gC c v) 0 = gI (J1u g) v∧gI (gC c v) 1 = upW g v:=by rw [trXB,decide_eq_true_eq]
noncomputable def G.xleg (g:G) (c:Cf):Bool:=g.conn && g.xconf c && trXB g c
theorem J5D {g:G} (h:g.conn = true) {c:Cf} (hc:J1O J0U g c):g.xleg c = true↔TrX g c:=by
 have hl:=hc.len;rw [G.xleg,h,xconf_of hc,Bool.true_and,Bool.true_and,trXB_iff,hl];refine forall_congr' fun v=>forall_congr' fun hv=>?_;rw [J22 hv]
theorem xleg_no {g:G} (h:g.conn = true) {c:Cf} (hc:J1O J0U g c) (hn:g.xleg c = false):¬ TrX g c:=fun q=>by
 rw [(J5D h hc).2 q] at hn;cases hn
theorem xleg_step {g:G} (h:g.conn = true) {c:Cf} (hc:J1O J0U g c) (hl:g.xleg c = true) {s:Nat} (hs:J5b s (enN J0U g c)) (hc':J1O J0U g (J1D J0U g c s)):g.xleg (J1D J0U g c s) = true :=
 (J5D h hc').2 (trX_step h hc ((J5D h hc).1 hl) hs)
theorem xleg_en {g:G} (h:g.conn = true) {c:Cf} (hc:J1O J0U g c) (hn:g.xleg c = false):enN J0U g c≠0:=fun q=>xleg_no h hc hn ((wid_rests h hc).1 q)
theorem xleg_rest {g:G} (h:g.conn = true) {c:Cf} (hc:J1O J0U g c):g.xleg c = decide (enN J0U g c = 0):=by
 rw [Bool.eq_iff_iff,decide_eq_true_eq,J5D h hc,wid_rests h hc]
theorem maxV_le:∀ {l:List Int} {m b:Int},m≤b→(∀ a∈l,a≤b)→J1V l m≤b
 | [],m,b,h,_=>h
 | a :: r,m,b,h,ha=>by
   rw [J1V];exact maxV_le (by have:=ha a (by simp);split <;> omega) (fun x hx=>ha x (by simp [hx]))
theorem mx_top {g:G} (h:g.conn = true):0≤mxV g∧mxV g + 2≤16 * g.ids.length∧g.ids.length≤24:=by
 obtain ⟨f1,f2,f3,f4,f5,f6,f7⟩:=J0e (J0o h).1;refine ⟨mx_nn g,?_,f2⟩;have:mxV g≤16 * (g.ids.length:Int) - 2:=by
  refine maxV_le (by omega) fun a ha=>?_;obtain ⟨v,hv,rfl⟩:=List.mem_map.1 ha;have:=J7B h (List.mem_range.1 hv);omega
 omega
end Go.Proofs.YtgajaabakpfbbaaGreatDoor
namespace Go.Proofs.YtgajaabakpfbbaaGreatDoor
open Go.Eng
set_option maxRecDepth 100000
set_option linter.unusedVariables false
theorem wn_facts {g:G} (hg:g.valid = true) {w:Int} (h0:0≤w) (h1:w≤15):0≤w * (g.ids.length:Int)∧w * (g.ids.length:Int)≤360:=by
 obtain ⟨f1,f2,f3,f4,f5,f6,f7⟩:=J0e hg;obtain ⟨k,rfl⟩:∃ k:Nat,w = (k:Int):=⟨w.toNat,by omega⟩;have:k * g.ids.length≤15 * 24:=Nat.mul_le_mul (by omega) f2;have e:((k:Int) * (g.ids.length:Int)) = ((k * g.ids.length:Nat):Int):=by push_cast;rfl
 rw [e];omega
theorem J4c (g:G) (hg:g.valid = true) (y:Int) (hy:0≤y∧y≤1073741824) (l:Int × Int) (hl:0≤l.2∧l.2≤15) :
 Ret Tryz.prog 54 [.int .i64 g.ids.length,.int .i64 y,.agg [.int .i64 l.1,.int .i64 l.2]] (.int .i64 (exI g y l.2)):=by
 have hw:=wn_facts hg hl.1 hl.2;refine J0f rfl ?_;refine J0b J0a Tryz.func54 rfl hc54 hr54 rfl ?_
 repeat' ((conv=>whnf);first | (refine Ar.i64 (by omega) (by omega) ?_) | (refine Sv.mk _ rfl ?_))
 all_goals (conv=>whnf)
 exact VLe.of_eq rfl
theorem longer_ok (g:G) (hg:g.valid = true) (y:Int) (hy:0≤y∧y≤1073741824) (w:Int) (hl:0≤w∧w≤15) :
 Ret Tryz.prog 80 [.int .i64 y,.int .i64 w,.int .i64 g.ids.length] (.int .i64 (exI g y w)):=by
 have hw:=wn_facts hg hl.1 hl.2;refine J0f rfl ?_;refine J0b J0a Tryz.func80 rfl hc80 hr80 rfl ?_
 repeat' ((conv=>whnf);first | (refine Ar.i64 (by omega) (by omega) ?_) | (refine Sv.mk _ rfl ?_))
 all_goals (conv=>whnf)
 exact VLe.of_eq rfl
def iniW (n:Nat) (k:Nat):Nat→Nat→V:=fun i _=>.int .i64 (if 1≤i∧i < k + 1 then 16 * n else 0)
def iniL (n:Nat) (b:Int):List Int:=(List.range n).map fun v=>if v = 0 then 0 else b
theorem iniL_len (n:Nat) (b:Int):(iniL n b).length = n:=by simp [iniL]
theorem J3E {n:Nat} (b:Int) {v:Nat} (h:v < n):gI (iniL n b) v = if v = 0 then 0 else b:=by simp [iniL,gI,List.getD,h]
def clE:Env→List Nat→Env
 | [],_=>[]
 | (t,v) :: r,seen=>match J01 t seen with
   | true=>clE r seen
   | false=>(t,v) :: clE r (t :: seen)
def clB:Blk→Blk
 | .loop st pe env N ps C=>.loop st pe (clE env []) N ps C
 | b=>b
def clO:Own→Own
 | []=>[]
 | (k,b) :: r=>(k,clB b) :: clO r
theorem iniW_zero (n i j:Nat) (hj:j < 1):VLe ((fun (_:Nat) j=>[V.int .i64 0].getD j default) i j) (iniW n 0 i j):=by
 obtain rfl:j = 0:=by omega
 apply VLe.of_eq;rw [iniW,if_neg (by omega)];rfl
theorem iniW_set (n k i j:Nat) (hj:j < 1):VLe (J1W (iniW n k) (k + 1) 0 [.int .i64 (16 * (n:Int))] i j) (iniW n (k + 1) i j):=by
 obtain rfl:j = 0:=by omega
 apply VLe.of_eq;by_cases h:i = k + 1
 . subst h;simp [J1W,iniW]
 . simp only [J1W,iniW];rw [if_neg (by simp [h])];congr 1;by_cases h2:1≤i∧i < k + 1
   . rw [if_pos h2,if_pos (by omega)]
   . rw [if_neg h2,if_neg (by omega)]
theorem iniW_end (n i j:Nat) (hn:1≤n) (hi:i < n) (hj:j < 1):VLe (iniW n (n - 1) i j) (vI (iniL n (16 * n)) i j):=by
 obtain rfl:j = 0:=by omega
 apply VLe.of_eq;simp only [iniW,vI];rw [J3E _ hi];congr 1;by_cases h:i = 0
 . subst h;simp
 . rw [if_pos (by omega),if_neg h]
set_option maxHeartbeats 16000000 in
theorem values_ok (g:G) (hs:g.Small) (hgc:g.conn = true):Ret Tryz.prog 49 [g.v] (.fz (J1u g).length 1 false (vI (J1u g))):=by
 obtain ⟨hg,_⟩:=J0o hgc;obtain ⟨f1,f2,f3,f4,f5,f6,f7⟩:=J0e hg;refine J0f rfl ?_;refine J0b J0a Tryz.func49 rfl hc49 hr49 rfl ?_
 repeat' ((conv=>whnf);first | (refine Bd.nat (by omega) ?_) | (refine Len.mk (by omega) ?_) | (refine MkS.vec ?_))
 all_goals (conv=>whnf)
 refine J0Q J0a [1,3,4] [] [4,5,6,7,8,9,10,11,12,13,14,15,16,17,18,19,20,21,22,23,24,25,26,27,28,29] [3,2,1,0] (fun k:Nat=>[(5,.int .i64 ((k:Int) + 1))]) (fun own k=>J1Z own 2 (.vec g.ids.length 1 (iniW g.ids.length k))) (fun m k=>m = g.ids.length - 1 - k∧k≤g.ids.length - 1) (g.ids.length - 1) 0 ⟨rfl,Nat.zero_le _⟩ rfl (fun _=>rfl) ?_ ?_
 . refine J0g (fun _ _=>[(0,some 0),(1,some 1),(2,some 2),(3,some 3)]) ?_ ?_ rfl
   . repeat' (first | exact True.intro | (refine ⟨⟨_,rfl,?_⟩,?_⟩) | exact J0d.kf rfl | exact J0d.loc rfl)
   . repeat' (first | exact ⟨Nat.le_refl _,rfl,fun i j hi hj=>iniW_zero _ i j hj⟩ | exact True.intro | (refine ⟨⟨_,rfl,?_⟩,?_⟩) | exact J0d.kf rfl | exact J0d.vec rfl rfl rfl | (refine And.intro ?_ ?_))
 rintro m k ⟨hm,hk⟩;by_cases hkn:k < g.ids.length - 1
 . repeat' ((conv=>whnf);first | (refine Ix.mk (k + 1) (by omega) (by omega) ?_) | (refine Br.dec ?_ ?_ <;> intro _ <;> try omega) | (refine Ar.i64 (by omega) (by omega) ?_) | (refine Ltn.mk (by omega) ?_))
   all_goals (conv=>whnf)
   refine ⟨g.ids.length - 1 - (k + 1),k + 1,by omega,⟨rfl,by omega⟩,?_⟩;refine J0g (fun _ _=>[(0,some 0),(1,some 1),(2,some 2),(3,some 3)]) ?_ ?_ rfl
   . repeat' (first | exact True.intro | (refine ⟨⟨_,rfl,?_⟩,?_⟩) | exact J0d.kf rfl | exact J0d.loc rfl)
   . repeat' (first | exact ⟨Nat.le_refl _,rfl,fun i j hi hj=>by simp only [Nat.zero_add];exact iniW_set _ k i j hj⟩ | exact True.intro | (refine ⟨⟨_,rfl,?_⟩,?_⟩) | exact J0d.kf rfl | exact J0d.vec rfl rfl rfl | (refine And.intro ?_ ?_))
 . have ek:k = g.ids.length - 1:=by omega
   subst ek
   repeat' ((conv=>whnf);first | (refine Br.dec ?_ ?_ <;> intro _ <;> try omega))
   all_goals (conv=>whnf)
   have hlen0:=iniL_len g.ids.length (16 * (g.ids.length:Int));have hin0:VIn g 0 (iniL g.ids.length (16 * (g.ids.length:Int))):=VIn.start hgc hlen0 (by rw [J3E _ (by omega)];rfl) (fun v hv h0=>by rw [J3E _ hv,if_neg h0];omega);refine J0Q J0a [1,3,4,23] [] [4,5,6,7,8,9,10,11,12,13,14,15,16,17,18,19,20,21,22,23,24,25,26,27,28,29] [3,2,1,0] (fun p:Nat × List Int=>[(24,.int .i64 p.1)]) (fun own p=>J1Z own 2 (.vec g.ids.length 1 (vI p.2))) (fun m p=>m = g.ids.length - p.1∧p.1≤g.ids.length∧VIn g p.1 p.2) g.ids.length (0,iniL g.ids.length (16 * (g.ids.length:Int))) ⟨rfl,Nat.zero_le _,hin0⟩ rfl (fun _=>rfl) ?_ ?_
   . refine J0g (fun _ _=>[(0,some 0),(1,some 1),(2,some 2),(3,some 3)]) ?_ ?_ rfl
     . repeat' (first | exact True.intro | (refine ⟨⟨_,rfl,?_⟩,?_⟩) | exact J0d.kf rfl | exact J0d.loc rfl)
     . repeat' (first | exact ⟨Nat.le_refl _,rfl,fun i j hi hj=>by first | exact iniW_end _ i j f1 hi hj | (simp only [Nat.zero_add];exact iniW_end _ i j f1 hi hj)⟩ | exact True.intro | (refine ⟨⟨_,rfl,?_⟩,?_⟩) | exact J0d.kf rfl | exact J0d.vec rfl rfl rfl | (refine And.intro ?_ ?_))
   rintro m ⟨r,x⟩ ⟨hm,hr,hI⟩;simp only at hm hr hI;by_cases hrn:r < g.ids.length
   . dsimp only
     repeat' ((conv=>whnf);first | (refine Br.dec ?_ ?_ <;> intro _ <;> try omega) | (refine J0b J0a Tryz.func66 rfl hc66 hr66 rfl ?_) | (refine J2P ?_) | (refine Chk.mk (by kernel_rfl) ?_) | (refine J0b J0a Tryz.func94 rfl hc94 hr94 rfl ?_))
     all_goals (conv=>whnf)
     refine J0Q J0a [0,8,9] [] [6,7,8,9,10,11,12,13,14,15,16,17,18,19,20,21,22,23,24,25,26,27,28,29] [5,4,3,2,1,0] (fun p:Nat × List Int=>[(10,.int .i64 p.1)]) (fun own p=>clO (J1Z own 2 (.vec g.ids.length 1 (vI p.2)))) (fun m p=>m = g.ids.length - p.1∧p.1≤g.ids.length∧VPs g r p.1 0 p.2) g.ids.length (0,x) ⟨rfl,Nat.zero_le _,VPs.start hI⟩ rfl (fun _=>rfl) ?_ ?_
     . refine J0g (fun _ _=>[(0,some 0),(1,some 1),(2,some 2),(3,some 3),(4,some 4),(5,some 5)]) ?_ ?_ rfl
       . repeat' (first | exact J0d.yld rfl | exact True.intro | (refine ⟨⟨_,rfl,?_⟩,?_⟩) | exact J0d.kf rfl)
       . repeat' (first | (refine J0d.fn ?_) | (refine ⟨rfl,rfl,rfl,rfl,rfl,?_⟩) | exact ⟨Nat.le_refl _,rfl,fun i j hi hj=>VLe.rfl⟩ | exact True.intro | (refine ⟨⟨_,rfl,?_⟩,?_⟩) | exact J0d.kf rfl | exact J0d.loc rfl | exact J0d.vec rfl rfl rfl | (refine And.intro ?_ ?_))
     rintro m ⟨v,y⟩ ⟨hm2,hv,hP⟩;simp only at hm2 hv hP;by_cases hvn:v < g.ids.length
     . dsimp only;have hrl:=J4O hg v
       repeat' ((conv=>whnf);first | (refine Br.dec ?_ ?_ <;> intro _ <;> try omega) | (refine Ix.nat (by omega) ?_))
       all_goals (conv=>whnf)
       refine J0Q J0a [0,3,8,9,10,15,16] [] [6,7,8,9,10,11,12,13,14,15,16,17,18,19,20,21,22,23,24,25,26,27,28,29] [5,4,3,2,1,0] (fun p:Nat × List Int=>[(17,.int .i64 p.1)]) (fun own p=>clO (J1Z own 2 (.vec g.ids.length 1 (vI p.2)))) (fun m p=>m = (gR g.ports v).length - p.1∧p.1≤(gR g.ports v).length∧VPs g r v p.1 p.2) (gR g.ports v).length (0,y) ⟨rfl,Nat.zero_le _,hP⟩ rfl (fun _=>rfl) ?_ ?_
       . refine J0g (fun _ _=>[(0,some 0),(1,some 1),(2,some 2),(3,some 3),(4,some 4),(5,some 5)]) ?_ ?_ rfl
         . repeat' (first | exact J0d.yld rfl | exact True.intro | (refine ⟨⟨_,rfl,?_⟩,?_⟩) | exact J0d.kf rfl)
         . repeat' (first | (refine J0d.fn ?_) | (refine ⟨rfl,rfl,rfl,rfl,rfl,?_⟩) | exact ⟨Nat.le_refl _,rfl,fun i j hi hj=>VLe.rfl⟩ | exact True.intro | (refine ⟨⟨_,rfl,?_⟩,?_⟩) | exact J0d.kf rfl | exact J0d.loc rfl | exact J0d.vec rfl rfl rfl | (refine And.intro ?_ ?_))
       rintro m ⟨i,z⟩ ⟨hm3,hi,hQ⟩;simp only at hm3 hi hQ;by_cases hin:i < (gR g.ports v).length
       . dsimp only;have hok:=(J0t.1 (f6 v (by omega))).1 _ (J1l hin);have hb:=hQ.base;have hzl:=hb.len;have hlo:=hb.low (gF (gR g.ports v) i).1.toNat (by omega);have hto:=hb.top (gF (gR g.ports v) i).1.toNat (by omega);have hext:=J4c g hg (gI z (0 + (gF (gR g.ports v) i).1.toNat)) ⟨by rw [Nat.zero_add];omega,by rw [Nat.zero_add];exact hto⟩ (gF (gR g.ports v) i) ⟨by omega,by omega⟩
         repeat' ((conv=>whnf);first | (refine Ix.mk (gF (gR g.ports v) i).1.toNat (by omega) (by omega) ?_) | (refine Br.tt ?_) | (refine Br.dec ?_ ?_ <;> intro _ <;> try omega) | (refine Ar.i64 (by omega) (by omega) ?_) | (refine Sv.mk _ rfl ?_) | (refine Ix.nat (by omega) ?_) | (refine Ltn.mk (by omega) ?_) | (refine hext.go ?_) | (refine J2e J0a rfl rfl ?_) | (refine And.intro rfl ?_) | (refine And.intro (Ltn.mk (by omega) rfl) ?_))
         all_goals (conv=>whnf)
         refine ⟨(gR g.ports v).length - (i + 1),(i + 1,relax g z v (gF (gR g.ports v) i)),by omega,⟨rfl,by omega,hQ.step hgc hvn hin⟩,?_⟩;refine J0g (fun _ _=>[(0,some 0),(1,some 1),(2,some 2),(3,some 3),(4,some 4),(5,some 5)]) ?_ ?_ rfl
         . repeat' (first | exact J0d.yld rfl | exact True.intro | (refine ⟨⟨_,rfl,?_⟩,?_⟩) | exact J0d.kf rfl)
         . repeat' (first | (refine J0d.fn ?_) | (refine ⟨rfl,rfl,rfl,rfl,rfl,?_⟩) | exact ⟨Nat.le_refl _,rfl,fun i j hi hj=>by simp only [Nat.zero_add];exact vle_set z v _ _ _ (by omega) hj⟩ | exact True.intro | (refine ⟨⟨_,rfl,?_⟩,?_⟩) | exact J0d.kf rfl | exact J0d.loc rfl | exact J0d.vec rfl rfl rfl | (refine And.intro ?_ ?_))
       . repeat' ((conv=>whnf);first | (refine Br.dec ?_ ?_ <;> intro _ <;> try omega) | (refine Ar.i64 (by omega) (by omega) ?_))
         all_goals (conv=>whnf)
         refine ⟨g.ids.length - (v + 1),(v + 1,z),by omega,⟨rfl,by omega,?_⟩,?_⟩
         . have e:i = (gR g.ports v).length:=by omega
           subst e;exact hQ.row hgc hvn
         . refine J0g (fun _ _=>[(0,some 0),(1,some 1),(2,some 2),(3,some 3),(4,some 4),(5,some 5)]) ?_ ?_ rfl
           . repeat' (first | exact J0d.yld rfl | exact True.intro | (refine ⟨⟨_,rfl,?_⟩,?_⟩) | exact J0d.kf rfl)
           . repeat' (first | (refine J0d.fn ?_) | (refine ⟨rfl,rfl,rfl,rfl,rfl,?_⟩) | exact ⟨Nat.le_refl _,rfl,fun i j hi hj=>VLe.rfl⟩ | exact True.intro | (refine ⟨⟨_,rfl,?_⟩,?_⟩) | exact J0d.kf rfl | exact J0d.loc rfl | exact J0d.vec rfl rfl rfl | (refine And.intro ?_ ?_))
     . repeat' ((conv=>whnf);first | (refine Br.dec ?_ ?_ <;> intro _ <;> try omega) | (refine Ar.i64 (by omega) (by omega) ?_))
       all_goals (conv=>whnf)
       refine ⟨g.ids.length - (r + 1),(r + 1,y),by omega,⟨rfl,by omega,hP.over (by omega)⟩,?_⟩;refine J0g (fun _ _=>[(0,some 0),(1,some 1),(2,some 2),(3,some 3)]) ?_ ?_ rfl
       . repeat' (first | exact True.intro | (refine ⟨⟨_,rfl,?_⟩,?_⟩) | exact J0d.kf rfl | exact J0d.loc rfl)
       . repeat' (first | exact ⟨Nat.le_refl _,rfl,fun i j hi hj=>VLe.rfl⟩ | exact True.intro | (refine ⟨⟨_,rfl,?_⟩,?_⟩) | exact J0d.kf rfl | exact J0d.vec rfl rfl rfl | (refine And.intro ?_ ?_))
   . repeat' ((conv=>whnf);first | (refine Br.dec ?_ ?_ <;> intro _ <;> try omega) | (refine Len.mk (by omega) ?_))
     all_goals (conv=>whnf)
     have er:r = g.ids.length:=by omega
     subst er;have hx:=hI.done;subst hx;exact VLe.fz (J17 g).symm (fun h=>h) (fun i j hi hj=>VLe.of_eq (by simp [J0k]))
end Go.Proofs.YtgajaabakpfbbaaGreatDoor
namespace Go.Proofs.YtgajaabakpfbbaaGreatDoor
open Go.Eng
set_option maxRecDepth 100000
set_option linter.unusedVariables false
def allF (b:Int):Nat→Nat→V:=fun _ _=>.int .i64 b
theorem vle_all (b:Int) (n i j:Nat) (hi:i < n + 1) (hj:j < 1):VLe (J3Y (J0k 0 (allF b)) n (J0k 0 (tab [[.int .i64 b]])) i j) (allF b i j):=by
 apply VLe.of_eq;by_cases h:i < n
 . rw [J1h h];rfl
 . rw [J1i h];have:i - n = 0:=by omega
   obtain rfl:j = 0:=by omega
   rw [this];rfl
theorem all_end (n:Nat) (b:Int) (i j:Nat) (hn:1≤n) (hi:i < n) (hj:j < 1):VLe (J1W (allF b) 0 0 [.int .i64 0] i j) (vI (iniL n b) i j):=by
 obtain rfl:j = 0:=by omega
 apply VLe.of_eq;simp only [vI,J3E b hi,J1W,allF];by_cases h:i = 0
 . subst h;simp
 . simp [h]
set_option maxHeartbeats 16000000 in
theorem rvalues_ok (g:G) (hs:g.Small) (hgc:g.conn = true):Ret Tryz.prog 51 [g.v] (.fz (J1u g).length 1 false (vI (J1u g))):=by
 obtain ⟨hg,_⟩:=J0o hgc;obtain ⟨f1,f2,f3,f4,f5,f6,f7⟩:=J0e hg;refine J0f rfl ?_;refine J0b J0a Tryz.func51 rfl hc51 hr51 rfl ?_
 repeat' ((conv=>whnf);first | fail)
 all_goals (conv=>whnf)
 refine J0Q J0a [1,3] [1] [2,3,4,5,6,7,8,9,10,11,12,13,14,15,16,17,18,19,20,21,22,23,24,25,26,27,28,29] [1,0] (fun v:Nat=>[(4,.vec 1 1 0 v),(5,.int .i64 v)]) (fun own v=>(1,.vec v 1 (allF 1073741824)) :: own) (fun m v=>m = g.ports.length - v∧v≤g.ports.length) g.ports.length 0 ⟨rfl,Nat.zero_le _⟩ rfl (fun _=>rfl) ?_ ?_
 . exact J0j (fun _ _=>[(0,some 0),(1,none)])
 rintro m v ⟨hm,hv⟩;by_cases hvn:v < g.ports.length
 . repeat' ((conv=>whnf);first | (refine Br.dec ?_ ?_ <;> intro _ <;> try omega) | (refine Br.nbeq ?_ ?_ <;> intro _ <;> try omega) | (refine Ar.i64 (by omega) (by omega) ?_) | (refine Len.mk (by omega) ?_))
   all_goals (conv=>whnf)
   all_goals
    refine ⟨g.ports.length - (v + 1),v + 1,by omega,⟨rfl,by omega⟩,?_⟩;refine J0g (fun env own=>[(0,some 0),(1,ekey env 4)]) ?_ ?_ rfl
    . repeat' (first | exact True.intro | (refine ⟨⟨_,rfl,?_⟩,?_⟩) | exact J0d.kf rfl | exact J0d.loc rfl | exact J0d.vec rfl rfl rfl)
    . repeat' (first | (refine ⟨Nat.le_refl _,rfl,fun i j hi hj=>?_⟩) | exact vle_all _ _ _ _ hi hj | exact True.intro | (refine ⟨⟨_,rfl,?_⟩,?_⟩) | exact J0d.kf rfl | (refine And.intro ?_ ?_))
 . have ev:v = g.ports.length:=by omega
   subst ev;have hin0:VIn g 0 (iniL g.ports.length 1073741824):=VIn.start hgc (by rw [iniL_len,f3]) (by rw [J3E _ (by omega)];rfl) (fun v hv h0=>by rw [J3E _ (by omega),if_neg h0];omega)
   repeat' ((conv=>whnf);first | (refine Br.dec ?_ ?_ <;> intro _ <;> try omega) | (refine Ix.mk 0 rfl (by omega) ?_) | (refine Ltn.mk (by omega) ?_))
   all_goals (conv=>whnf)
   refine J1x J0a [1,3,4] [] [2,3,4,5,6,7,8,9,10,11,12,13,14,15,16,17,18,19,20,21,22,23,24,25,26,27,28,29] [1,0] (fun p:Nat × List Int=>[(6,.int .i64 p.1)]) (fun p=>[(1,.vec g.ports.length 1 (vI p.2)),(0,.cells [.fz g.ids.length 1 false (vI g.ids),.fz g.ports.length 1 false (vP g.ports)])]) (fun m p=>m = g.ids.length - p.1∧p.1≤g.ids.length∧VIn g p.1 p.2) g.ids.length (0,iniL g.ports.length 1073741824) ⟨rfl,Nat.zero_le _,hin0⟩ rfl (fun _=>rfl) ?_ ?_
   . refine J0g (fun _ _=>[(0,some 0),(1,some 1)]) ?_ ?_ rfl
     . repeat' (first | exact True.intro | (refine ⟨⟨_,rfl,?_⟩,?_⟩) | exact J0d.kf rfl | exact J0d.loc rfl | exact J0d.vec rfl rfl rfl)
     . repeat' (first | exact ⟨Nat.le_refl _,rfl,fun i j hi hj=>by first | exact all_end _ _ i j (by omega) hi hj | (simp only [Nat.zero_add];exact all_end _ _ i j (by omega) hi hj)⟩ | exact True.intro | (refine ⟨⟨_,rfl,?_⟩,?_⟩) | exact J0d.kf rfl | (refine And.intro ?_ ?_))
   rintro m ⟨r,x⟩ ⟨hm,hr,hI⟩;simp only at hm hr hI;by_cases hrn:r < g.ids.length
   . dsimp only
     repeat' ((conv=>whnf);first | (refine Br.dec ?_ ?_ <;> intro _ <;> try omega))
     all_goals (conv=>whnf)
     refine J1x J0a [1,3,4,6] [] [2,3,4,5,6,7,8,9,10,11,12,13,14,15,16,17,18,19,20,21,22,23,24,25,26,27,28,29] [1,0] (fun p:Nat × List Int=>[(7,.int .i64 p.1)]) (fun p=>[(1,.vec g.ports.length 1 (vI p.2)),(0,.cells [.fz g.ids.length 1 false (vI g.ids),.fz g.ports.length 1 false (vP g.ports)])]) (fun m p=>m = g.ids.length - p.1∧p.1≤g.ids.length∧VPs g r p.1 0 p.2) g.ids.length (0,x) ⟨rfl,Nat.zero_le _,VPs.start hI⟩ rfl (fun _=>rfl) ?_ ?_
     . exact J0j (fun _ _=>[(0,some 0),(1,some 1)])
     rintro m ⟨v,y⟩ ⟨hm2,hv,hP⟩;simp only at hm2 hv hP;by_cases hvn:v < g.ids.length
     . dsimp only;have hrl:=J4O hg v
       repeat' ((conv=>whnf);first | (refine Br.dec ?_ ?_ <;> intro _ <;> try omega))
       all_goals (conv=>whnf)
       refine J1x J0a [1,3,4,6,7] [] [2,3,4,5,6,7,8,9,10,11,12,13,14,15,16,17,18,19,20,21,22,23,24,25,26,27,28,29] [1,0] (fun p:Nat × List Int=>[(8,.int .i64 p.1)]) (fun p=>[(1,.vec g.ports.length 1 (vI p.2)),(0,.cells [.fz g.ids.length 1 false (vI g.ids),.fz g.ports.length 1 false (vP g.ports)])]) (fun m p=>m = (gR g.ports v).length - p.1∧p.1≤(gR g.ports v).length∧VPs g r v p.1 p.2) (gR g.ports v).length (0,y) ⟨rfl,Nat.zero_le _,hP⟩ rfl (fun _=>rfl) ?_ ?_
       . exact J0j (fun _ _=>[(0,some 0),(1,some 1)])
       rintro m ⟨i,z⟩ ⟨hm3,hi,hQ⟩;simp only at hm3 hi hQ;by_cases hin:i < (gR g.ports v).length
       . dsimp only;have hok:=(J0t.1 (f6 v (by omega))).1 _ (J1l hin);have hb:=hQ.base;have hzl:=hb.len;have hlo:=hb.low (gF (gR g.ports v) i).1.toNat (by omega);have hto:=hb.top (gF (gR g.ports v) i).1.toNat (by omega);have hext:=longer_ok g hg (gI z (0 + (gF (gR g.ports v) i).1.toNat)) ⟨by rw [Nat.zero_add];omega,by rw [Nat.zero_add];exact hto⟩ (gF (gR g.ports v) i).2 ⟨by omega,by omega⟩;rw [← f3] at hext
         repeat' ((conv=>whnf);first | (refine Ix.mk (gF (gR g.ports v) i).1.toNat (by omega) (by omega) ?_) | (refine Br.dec ?_ ?_ <;> intro _ <;> try omega) | (refine Ar.i64 (by omega) (by omega) ?_) | (refine Sv.mk _ rfl ?_) | (refine Ix.nat (by omega) ?_) | (refine Ltn.mk (by omega) ?_) | (refine hext.go ?_) | (refine And.intro (Ltn.mk (by omega) rfl) ?_))
         all_goals (conv=>whnf)
         refine ⟨(gR g.ports v).length - (i + 1),(i + 1,relax g z v (gF (gR g.ports v) i)),by omega,⟨rfl,by omega,hQ.step hgc hvn hin⟩,?_⟩;refine J0g (fun _ _=>[(0,some 0),(1,some 1)]) ?_ ?_ rfl
         . repeat' (first | exact True.intro | (refine ⟨⟨_,rfl,?_⟩,?_⟩) | exact J0d.kf rfl | exact J0d.loc rfl | exact J0d.vec rfl rfl rfl)
         . repeat' (first | exact ⟨Nat.le_refl _,rfl,fun i j hi hj=>by simp only [Nat.zero_add];exact vle_set z v _ _ _ (by omega) hj⟩ | exact True.intro | (refine ⟨⟨_,rfl,?_⟩,?_⟩) | exact J0d.kf rfl | (refine And.intro ?_ ?_))
       . repeat' ((conv=>whnf);first | (refine Br.dec ?_ ?_ <;> intro _ <;> try omega) | (refine Ar.i64 (by omega) (by omega) ?_) | (refine Ix.nat (by omega) ?_))
         all_goals (conv=>whnf)
         refine ⟨g.ids.length - (v + 1),(v + 1,z),by omega,⟨rfl,by omega,?_⟩,?_⟩
         . have e:i = (gR g.ports v).length:=by omega
           subst e;exact hQ.row hgc hvn
         . exact J0j (fun _ _=>[(0,some 0),(1,some 1)])
     . repeat' ((conv=>whnf);first | (refine Br.dec ?_ ?_ <;> intro _ <;> try omega) | (refine Ar.i64 (by omega) (by omega) ?_))
       all_goals (conv=>whnf)
       refine ⟨g.ids.length - (r + 1),(r + 1,y),by omega,⟨rfl,by omega,hP.over (by omega)⟩,?_⟩;exact J0j (fun _ _=>[(0,some 0),(1,some 1)])
   . repeat' ((conv=>whnf);first | (refine Br.dec ?_ ?_ <;> intro _ <;> try omega) | (refine Len.mk (by omega) ?_))
     all_goals (conv=>whnf)
     have er:r = g.ids.length:=by omega
     subst er;have hx:=hI.done;subst hx;exact VLe.fz (by rw [J17,f3]) (fun h=>h) (fun i j hi hj=>VLe.of_eq (by simp [J0k]))
def clmX (m:Int):V:=.agg [.int .i64 3,.bool false,.bool true,.int .i64 (m + 1),.int .i64 (-1)]
theorem J4Y:∀ (l:List Int) (m:Int) (i:Nat),J1V l m = J1V (l.drop i) (J1V (l.take i) m)
 | [],m,i=>by simp [J1V]
 | a :: r,m,0=>by simp [J1V]
 | a :: r,m,i + 1=>by
   rw [List.drop_succ_cons,List.take_succ_cons,J1V,J1V];exact J4Y r _ i
theorem J6z {l:List Int} {m:Int} {i:Nat} (h:i < l.length):J1V (l.take (i + 1)) m = if J1V (l.take i) m < gI l i then gI l i else J1V (l.take i) m:=by
 rw [J4Y (l.take (i + 1)) m i,List.take_take,Nat.min_eq_left (by omega)];have e:(l.take (i + 1)).drop i = [gI l i]:=by
  rw [List.take_succ_eq_append_getElem h,List.drop_append,List.drop_of_length_le (by simp;omega)];simp [gI,List.getD,h,Nat.min_eq_left (by omega:i≤l.length)]
 rw [e,J1V,J1V]
theorem smax_ok (l:List Int) (h0:0 < l.length) (hl:l.length≤9223372036854775807) (hp:0≤gI l 0):Ret Tryz.prog 48 [.fz l.length 1 false (vI l)] (.int .i64 (J1V l 0)):=by
 refine J0f rfl ?_;refine J0b J0a Tryz.func48 rfl hc48 hr48 rfl ?_
 repeat' ((conv=>whnf);first | (refine Br.dec ?_ ?_ <;> intro _ <;> try omega) | (refine Ix.nat (by omega) ?_))
 all_goals (conv=>whnf)
 have e1:J1V (l.take 1) 0 = gI l 0:=by
  rw [J6z (i:=0) (by omega)];simp only [List.take_zero,J1V];split <;> omega
 refine J0M J0a [0] (fun i:Nat=>[(3,.int .i64 (J1V (l.take (i + 1)) 0)),(4,.int .i64 ((i:Int) + 1))]) (fun m i=>m = l.length - 1 - i∧i + 1≤l.length) (l.length - 1) 0 ⟨rfl,by omega⟩ ?_ ?_
 . refine J0g (fun _ _=>[]) ?_ ?_ rfl
   . repeat' (first | exact J0d.int (by rw [e1]) | exact True.intro | (refine ⟨⟨_,rfl,?_⟩,?_⟩) | exact J0d.kf rfl)
   . repeat' (first | exact True.intro)
 rintro m i ⟨hm,hi⟩;by_cases hil:i + 1 < l.length
 . repeat' ((conv=>whnf);first | (refine Ix.mk (i + 1) (by omega) (by omega) ?_) | (refine Br.dec ?_ ?_ <;> intro _ <;> try omega) | (refine Ar.i64 (by omega) (by omega) ?_) | (refine Sv.mk _ rfl ?_))
   all_goals (conv=>whnf)
   refine ⟨l.length - 1 - (i + 1),i + 1,by omega,⟨rfl,by omega⟩,?_⟩;refine J0g (fun _ _=>[]) ?_ ?_ rfl
   . repeat' (first | exact J0d.int (by rw [J6z hil]) | exact True.intro | (refine ⟨⟨_,rfl,?_⟩,?_⟩) | exact J0d.kf rfl)
   . repeat' (first | exact True.intro)
 . repeat' ((conv=>whnf);first | (refine Br.dec ?_ ?_ <;> intro _ <;> try omega))
   all_goals (conv=>whnf)
   have:i + 1 = l.length:=by omega
   rw [this,List.take_length];exact VLe.rfl
end Go.Proofs.YtgajaabakpfbbaaGreatDoor
namespace Go.Proofs.YtgajaabakpfbbaaGreatDoor
open Go.Eng
set_option maxRecDepth 100000
set_option linter.unusedVariables false
theorem mxV_facts {g:G} (h:g.conn = true):0 < (J1u g).length∧(J1u g).length≤24∧gI (J1u g) 0 = 0:=by
 obtain ⟨f1,f2,f3,f4,f5,f6,f7⟩:=J0e (J0o h).1;refine ⟨by rw [J17];omega,by rw [J17];exact f2,?_⟩;rw [J22 (by omega),J30];rfl
theorem wdclaim_ok (g:G) (hs:g.Small) (hgc:g.conn = true):Ret Tryz.prog 21 [g.v] (clmX (mxV g)):=by
 have hf:=wdfit_ok g hs;have hv:=values_ok g hs hgc;obtain ⟨m1,m2,m3⟩:=mxV_facts hgc;have hm:=smax_ok (J1u g) m1 (by omega) (by omega);rw [show J1V (J1u g) 0 = mxV g from rfl] at hm;obtain ⟨t1,t2,t3⟩:=mx_top hgc;rw [hgc] at hf;refine J0f rfl ?_;refine J0b J0a Tryz.func21 rfl hc21 hr21 rfl ?_
 repeat' ((conv=>whnf);first | (refine Br.tt ?_) | (refine Ar.i64 (by omega) (by omega) ?_) | (refine hf.go ?_) | (refine hv.go ?_) | (refine hm.go ?_))
 all_goals (conv=>whnf)
 exact VLe.rfl
theorem rwdclaim_ok (g:G) (hs:g.Small) (hgc:g.conn = true):Ret Tryz.prog 23 [g.v] (clmX (mxV g)):=by
 have hf:=rwdfit_ok g hs;have hv:=rvalues_ok g hs hgc;obtain ⟨m1,m2,m3⟩:=mxV_facts hgc;obtain ⟨t1,t2,t3⟩:=mx_top hgc;rw [hgc] at hf;have hb:∀ i,i≤(J1u g).length→0≤J1V ((J1u g).take i) 0∧J1V ((J1u g).take i) 0≤mxV g:=fun i hi=>by
  refine ⟨J3p _ _,?_⟩;rw [mxV,J4Y (J1u g) 0 i];exact J3p _ _
 refine J0f rfl ?_;refine J0b J0a Tryz.func23 rfl hc23 hr23 rfl ?_
 repeat' ((conv=>whnf);first | (refine Br.tt ?_) | (refine hf.go ?_) | (refine hv.go ?_))
 all_goals (conv=>whnf)
 refine J0M J0a [1,2,3] (fun i:Nat=>[(4,.int .i64 (J1V ((J1u g).take i) 0)),(5,.int .i64 i)]) (fun m i=>m = (J1u g).length - i∧i≤(J1u g).length) (J1u g).length 0 ⟨rfl,Nat.zero_le _⟩ ?_ ?_
 . exact J0j (fun _ _=>[(0,some 0),(1,some 1)])
 rintro m i ⟨hm,hi⟩;by_cases hil:i < (J1u g).length
 . have hx:=J6z (m:=0) hil
   repeat' ((conv=>whnf);first | (refine Br.dec ?_ ?_ <;> intro _ <;> try omega) | (refine Ar.i64 (by omega) (by omega) ?_) | (refine Sv.mk _ rfl ?_) | (refine Ix.nat (by omega) ?_))
   all_goals (conv=>whnf)
   refine ⟨(J1u g).length - (i + 1),i + 1,by omega,⟨rfl,by omega⟩,?_⟩;refine J0g (fun _ _=>[(0,some 0),(1,some 1)]) ?_ ?_ rfl
   . repeat' (first | exact J0d.int (by rw [hx]) | exact True.intro | (refine ⟨⟨_,rfl,?_⟩,?_⟩) | exact J0d.kf rfl | exact J0d.loc rfl)
   . repeat' (first | exact True.intro | (refine ⟨⟨_,rfl,?_⟩,?_⟩) | exact J0d.kf rfl | (refine And.intro ?_ ?_))
 . have ei:i = (J1u g).length:=by omega
   subst ei;rw [List.take_length,show J1V (J1u g) 0 = mxV g from rfl]
   repeat' ((conv=>whnf);first | (refine Br.dec ?_ ?_ <;> intro _ <;> try omega) | (refine Ar.i64 (by omega) (by omega) ?_))
   all_goals (conv=>whnf)
   exact VLe.rfl
def btL (c:Cf):List Int:=c.map fun r=>(gI r 0).tdiv c.length
theorem btL_len (c:Cf):(btL c).length = c.length:=by simp [btL]
theorem btL_get (c:Cf) {v:Nat} (h:v < c.length):gI (btL c) v = (gI (gC c v) 0).tdiv c.length:=by simp [btL,gI,gC,List.getD,h]
def G.botX (g:G) (c:Cf):List Int:=if g.conn && g.xconf c then btL c else []
def btF (c:Cf) (v:Nat):Nat→Nat→V:=fun i _=>.int .i64 (if i < v then gI (btL c) i else 0)
theorem btF_set (c:Cf) (v i t:Nat) (x:Int) (hx:x = gI (btL c) v) (ht:t < 1):VLe (J1W (btF c v) v 0 [.int .i64 x] i t) (btF c (v + 1) i t):=by
 obtain rfl:t = 0:=by omega
 apply VLe.of_eq;by_cases e:i = v
 . subst e;simp [J1W,btF,hx]
 . have:(i < v + 1) = (i < v):=by simp;omega
   simp [J1W,btF,e,this]
theorem tdiv_rng {a:Int} {n:Nat} (h0:0≤a) (h1:a≤1000):0≤a.tdiv n∧a.tdiv n≤1000:=by
 rw [Int.tdiv_eq_ediv_of_nonneg h0];exact ⟨Int.ediv_nonneg h0 (Int.natCast_nonneg _),Int.le_trans (Int.ediv_le_self _ h0) h1⟩
set_option maxHeartbeats 4000000 in
theorem wdbottle_ok (g:G) (hs:g.Small) (c:Cf) (hc:J7i c):Ret Tryz.prog 10 [g.v,cV c] (.fz (g.botX c).length 1 false (vI (g.botX c))):=by
 have hcf:=J2w g hs c hc;have hcl:=hc.len;refine J0f rfl ?_;refine J0b J0a Tryz.func10 rfl hc10 hr10 rfl ?_;by_cases h:(g.conn && g.xconf c) = true
 . rw [h] at hcf;rw [G.botX,if_pos h,btL_len];rw [Bool.and_eq_true] at h;obtain ⟨e1,e2⟩:=J53 h.2;obtain ⟨f1,f2,f3,f4,f5,f6,f7⟩:=J0e (J0o h.1).1
   repeat' ((conv=>whnf);first | (refine Br.tt ?_) | (refine Bd.nat (by omega) ?_) | (refine Len.mk (by omega) ?_) | (refine MkS.vec ?_) | (refine hcf.go ?_))
   all_goals (conv=>whnf)
   refine J0Q J0a [1,5,15,16] [] [2,3,4,5,6,7,8,9,10,11,12,13,14,15,16,17,18,19,20,21,22,23,24,25,26,27,28,29] [1,0] (fun v:Nat=>[(17,.int .i64 v)]) (fun own v=>J1Z own 1 (.vec c.length 1 (btF c v))) (fun m v=>m = c.length - v∧v≤c.length) c.length 0 ⟨rfl,Nat.zero_le _⟩ rfl (fun _=>rfl) ?_ ?_
   . refine J0g (fun _ _=>[(0,some 0),(1,some 1)]) ?_ ?_ rfl
     . repeat' (first | exact True.intro | (refine ⟨⟨_,rfl,?_⟩,?_⟩) | exact J0d.kf rfl | exact J0d.vec rfl rfl rfl)
     . repeat' (first | (refine ⟨Nat.le_refl _,rfl,fun i j hi hj=>VLe.of_eq ?_⟩;obtain rfl:j = 0:=(by omega);rfl) | exact True.intro | (refine ⟨⟨_,rfl,?_⟩,?_⟩) | exact J0d.kf rfl | (refine And.intro ?_ ?_))
   rintro m v ⟨hm,hv⟩;by_cases hvl:v < c.length
   . have hr:=e2 v hvl;have hd:=tdiv_rng (n:=c.length) hr.2.1 (by omega)
     repeat' ((conv=>whnf);first | (refine Ar.i64 (by omega) (by omega) ?_) | (refine Br.dec ?_ ?_ <;> intro _ <;> try omega) | (refine Nz.mk (by omega) ?_) | (refine Ix.nat (by omega) ?_) | (refine Ix.mk 0 rfl (by omega) ?_) | (refine Ltn.mk (by omega) ?_))
     all_goals (conv=>whnf)
     refine ⟨c.length - (v + 1),v + 1,by omega,⟨rfl,by omega⟩,?_⟩;refine J0g (fun _ _=>[(0,some 0),(1,some 1)]) ?_ ?_ rfl
     . repeat' (first | exact True.intro | (refine ⟨⟨_,rfl,?_⟩,?_⟩) | exact J0d.kf rfl | exact J0d.vec rfl rfl rfl)
     . repeat' (first | (refine ⟨Nat.le_refl _,rfl,fun i j hi hj=>?_⟩;simp only [Nat.zero_add];exact btF_set c v i j _ (btL_get c hvl).symm hj) | exact True.intro | (refine ⟨⟨_,rfl,?_⟩,?_⟩) | exact J0d.kf rfl | (refine And.intro ?_ ?_))
   . have ev:v = c.length:=by omega
     subst ev
     repeat' ((conv=>whnf);first | (refine Br.dec ?_ ?_ <;> intro _ <;> try omega) | (refine Len.mk (by omega) ?_))
     all_goals (conv=>whnf)
     refine VLe.fz rfl (fun h=>h) (fun i j hi hj=>VLe.of_eq ?_);obtain rfl:j = 0:=by omega
     rw [J0x,Nat.zero_add,btF,if_pos hi];rfl
 . rw [G.botX,if_neg h];simp only [Bool.not_eq_true] at h;rw [h] at hcf
   repeat' ((conv=>whnf);first | (refine Br.ff ?_) | (refine hcf.go ?_))
   all_goals (conv=>whnf)
   exact VLe.nilfz rfl
end Go.Proofs.YtgajaabakpfbbaaGreatDoor
namespace Go.Proofs.YtgajaabakpfbbaaGreatDoor
open Go.Eng
set_option maxRecDepth 100000
set_option linter.unusedVariables false
noncomputable def vlV (g:G):V:=.fz (J1u g).length 1 false (vI (J1u g))
def gCs (g:G):List V:=[.fz g.ids.length 1 false (vI g.ids),.fz g.ports.length 1 false (vP g.ports)]
noncomputable def attP (g:G) (v:Nat) (l:Int × Int):Bool:=decide (exI g (gI (J1u g) l.1.toNat) l.2 = gI (J1u g) v)
theorem upW_att {g:G} (h:g.conn = true) {v:Nat} (hv:v < g.ids.length) (h0:v≠0):upW g v = fpI (attP g v) 0 (gR g.ports v):=by
 obtain ⟨f1,f2,f3,f4,f5,f6,f7⟩:=J0e (J0o h).1;rw [upW,if_neg h0];refine fpI_ext fun l hl=>?_;have hok:=(J0t.1 (f6 v (by omega))).1 l hl;rw [attP,J22 hv,J22 (show l.1.toNat < g.ids.length by omega)]
theorem vals_rng {g:G} (h:g.conn = true) (v:Nat):0≤gI (J1u g) v∧gI (J1u g) v≤400:=by
 obtain ⟨f1,f2,f3,f4,f5,f6,f7⟩:=J0e (J0o h).1;by_cases hv:v < g.ids.length
 . rw [J22 hv];have:=J7B h hv;omega
 . have hl:=J17 g;have:gI (J1u g) v = 0:=by simp [gI,List.getD,List.getElem?_eq_none (show (J1u g).length≤v by omega)]
   omega
theorem legit1_ok (g:G) (hgc:g.conn = true) (v:Nat) (hv:v < g.ports.length) (i:Nat) (hi:i < (gR g.ports v).length) :
 Ret Tryz.prog 53 [.agg [.int .i64 (gF (gR g.ports v) i).1,.int .i64 (gF (gR g.ports v) i).2],.fe 1 2 (tab [gCs g]) 0 0,.fe 1 1 (tab [[vlV g]]) 0 0,.fe 1 1 (tab [[.int .i64 v]]) 0 0] (.bool (attP g v (gF (gR g.ports v) i))):=by
 obtain ⟨hg,_⟩:=J0o hgc;obtain ⟨f1,f2,f3,f4,f5,f6,f7⟩:=J0e hg;have hok:=(J0t.1 (f6 v (by omega))).1 _ (J1l hi);have hr:=okR_to' (f6 v hv) hi;have hl:=J17 g;have hy:=vals_rng hgc (0 + (gF (gR g.ports v) i).1.toNat);have hext:=J4c g hg (gI (J1u g) (0 + (gF (gR g.ports v) i).1.toNat)) ⟨by omega,by omega⟩ (gF (gR g.ports v) i) ⟨by omega,by omega⟩;have hext2:=J4c g hg (gI (J1u g) (gF (gR g.ports v) i).1.toNat) ⟨by rw [Nat.zero_add] at hy;omega,by rw [Nat.zero_add] at hy;omega⟩ (gF (gR g.ports v) i) ⟨by omega,by omega⟩;refine J0f rfl ?_;refine J0b J0a Tryz.func53 rfl hc53 hr53 rfl ?_
 repeat' ((conv=>whnf);first | (refine Br.dec ?_ ?_ <;> intro _ <;> try omega) | (refine Ix.nat (by omega) ?_) | (refine Ix.int (by omega) (by omega) ?_) | (refine hext2.go ?_) | (refine And.intro rfl ?_))
 all_goals (conv=>whnf)
 . rename_i h;exact VLe.bool (decide_eq_true (by simpa using h)).symm
 . rename_i h;exact VLe.bool (decide_eq_false (by simpa using h)).symm
theorem wfp_ok (g:G) (hgc:g.conn = true) (v:Nat) (hv:v < g.ports.length) (h0:v≠0) :
 J0K Tryz.prog 52 [g.v,.int .i64 v,.fn (.func 53) false [.loc 2 0,.loc 1 0,.loc 0 0]] [(2,.cells (gCs g)),(1,.cells [vlV g]),(0,.cells [.int .i64 v])] [3,4,5,6,7,8,9,10,11,12,13,14,15,16,17,18,19,20,21,22,23,24,25,26,27,28,29] fun X own' _=>X = .int .i64 (upW g v)∧own' = [(2,.cells (gCs g)),(1,.cells [vlV g]),(0,.cells [.int .i64 v])]:=by
 obtain ⟨hg,_⟩:=J0o hgc;obtain ⟨f1,f2,f3,f4,f5,f6,f7⟩:=J0e hg;have hup:=upW_att hgc (show v < g.ids.length by omega) h0;have hrl:=J4O hg v;refine J2p ?_;refine J0b J0a Tryz.func52 rfl hc52 hr52 rfl ?_
 repeat' ((conv=>whnf);first | (refine Ix.nat (by omega) ?_))
 all_goals (conv=>whnf)
 refine J0M J0a [2,13,14] (fun i:Nat=>[(15,.int .i64 i)]) (fun m i=>m = (gR g.ports v).length - i∧i≤(gR g.ports v).length∧∀ l∈(gR g.ports v).take i,attP g v l = false) (gR g.ports v).length 0 ⟨rfl,Nat.zero_le _,by simp⟩ ?_ ?_
 . exact J0j (fun _ _=>[(0,some 0),(1,some 1),(2,some 2),(3,some 3)])
 rintro m i ⟨hm,hi,hall⟩;by_cases hil:i < (gR g.ports v).length
 . have h1:=legit1_ok g hgc v hv i hil;cases hb:attP g v (gF (gR g.ports v) i) with
   | true =>
     rw [hb] at h1
     repeat' ((conv=>whnf);first | (refine Br.tt ?_) | (refine Br.dec ?_ ?_ <;> intro _ <;> try omega) | (refine Ix.nat (by omega) ?_) | (refine Chk.mk (by kernel_rfl) ?_) | (refine J08 h1 rfl ⟨VLe.rfl,VLe.rfl,VLe.rfl,VLe.rfl,True.intro⟩ ?_))
     all_goals (conv=>whnf)
     have e:upW g v = i:=by rw [hup,J6P _ _ 0 i hi hall,gF_drop' hil,fpI,if_pos hb];omega
     exact J25 (fun _=>[(0,some 0),(1,some 1),(2,some 2)]) _ _ ⟨by rw [e],rfl⟩ (J0d.kf rfl) (by repeat' (first | exact True.intro | (refine ⟨⟨_,rfl,?_⟩,?_⟩) | exact J0d.kf rfl | (refine And.intro ?_ ?_))) rfl
   | false =>
     rw [hb] at h1
     repeat' ((conv=>whnf);first | (refine Br.ff ?_) | (refine Br.dec ?_ ?_ <;> intro _ <;> try omega) | (refine Ar.i64 (by omega) (by omega) ?_) | (refine Ix.nat (by omega) ?_) | (refine Chk.mk (by kernel_rfl) ?_) | (refine J08 h1 rfl ⟨VLe.rfl,VLe.rfl,VLe.rfl,VLe.rfl,True.intro⟩ ?_))
     all_goals (conv=>whnf)
     refine ⟨(gR g.ports v).length - (i + 1),i + 1,by omega,⟨rfl,by omega,fun l hl=>?_⟩,?_⟩
     . rw [J1t _ i hil] at hl;rcases List.mem_append.1 hl with h | h
       . exact hall l h
       . simp at h;rw [h];exact hb
     . exact J0j (fun _ _=>[(0,some 0),(1,some 1),(2,some 2),(3,some 3)])
 . repeat' ((conv=>whnf);first | (refine Br.dec ?_ ?_ <;> intro _ <;> try omega))
   all_goals (conv=>whnf)
   have e:upW g v = -1:=by rw [hup,J6P _ _ 0 i hi hall,List.drop_of_length_le (by omega)];rfl
   exact J25 (fun _=>[(0,some 0),(1,some 1),(2,some 2)]) _ _ ⟨by rw [e],rfl⟩ (J0d.kf rfl) (by repeat' (first | exact True.intro | (refine ⟨⟨_,rfl,?_⟩,?_⟩) | exact J0d.kf rfl | (refine And.intro ?_ ?_))) rfl
set_option maxHeartbeats 4000000 in
theorem J7v (g:G) (hs:g.Small) (c:Cf) (hc:J7i c):Ret Tryz.prog 24 [g.v,cV c] (.bool (g.xleg c)):=by
 have h0:=J2w g hs c hc;have hcl:=hc.len;refine J0f rfl ?_;refine J0b J0a Tryz.func24 rfl hc24 hr24 rfl ?_;rw [G.xleg];cases hgc:g.conn && g.xconf c with
 | false =>
   rw [hgc] at h0
   repeat' ((conv=>whnf);first | (refine Br.ff ?_) | (refine h0.go ?_))
   all_goals (conv=>whnf)
   exact VLe.rfl
 | true =>
   rw [hgc] at h0;rw [Bool.true_and];rw [Bool.and_eq_true] at hgc;obtain ⟨h1,_⟩:=J0o hgc.1;obtain ⟨f1,f2,f3,f4,f5,f6,f7⟩:=J0e h1;obtain ⟨e1,e2⟩:=J53 hgc.2;have hv:=values_ok g hs hgc.1;have hvl:=J17 g
   repeat' ((conv=>whnf);first | (refine Br.tt ?_) | (refine h0.go ?_) | (refine hv.go ?_))
   all_goals (conv=>whnf)
   refine J0M J0a [1,2,5,15,16] (fun i:Nat=>[(17,.int .i64 i)]) (fun m i=>m = c.length - i∧i≤c.length∧∀ v,v < i→gI (gC c v) 0 = gI (J1u g) v∧gI (gC c v) 1 = upW g v) c.length 0 ⟨rfl,Nat.zero_le _,fun v hv=>by omega⟩ ?_ ?_
   . exact J0j (fun _ _=>[(0,some 0),(1,some 1)])
   rintro m i ⟨hm,hi,hall⟩;by_cases hil:i < c.length
   . have hrow:=e2 i hil;have hno:∀ a:Prop,(gI (gC c i) 0≠gI (J1u g) i∨gI (gC c i) 1≠upW g i)→VLe (V.bool false) (.bool (trXB g c)):=fun _ q=>VLe.bool (by
      cases e:trXB g c with
      | false=>rfl
      | true =>
        obtain ⟨q1,q2⟩:=trXB_iff.1 e i hil;rcases q with q | q
        . exact (q q1).elim
        . exact (q q2).elim)
     by_cases hz:i = 0
     . have hup:upW g i = -1:=if_pos hz
       repeat' ((conv=>whnf);first | (refine Ix.mk 1 rfl (by omega) ?_) | (refine Br.dec ?_ ?_ <;> intro _ <;> try omega) | (refine Br.bne ?_ ?_ <;> intro _ <;> try omega) | (refine Ar.i64 (by omega) (by omega) ?_) | (refine Ix.nat (by omega) ?_) | (refine Ix.mk 0 rfl (by omega) ?_))
       all_goals (conv=>whnf)
       . rename_i h;exact hno True (.inl h)
       . rename_i h;exact hno True (.inr (by rw [hup];exact h))
       . rename_i q1 q2;refine ⟨c.length - (i + 1),i + 1,by omega,⟨rfl,by omega,fun v hv=>?_⟩,?_⟩
         . by_cases e:v = i
           . subst e;exact ⟨q1,by rw [hup];exact q2⟩
           . exact hall v (by omega)
         . exact J0j (fun _ _=>[(0,some 0),(1,some 1)])
     . have hfp:=wfp_ok g hgc.1 i (by omega) hz
       repeat' ((conv=>whnf);first | (refine Ix.mk 1 rfl (by omega) ?_) | (refine Br.dec ?_ ?_ <;> intro _ <;> try omega) | (refine Br.bne ?_ ?_ <;> intro _ <;> try omega) | (refine Ar.i64 (by omega) (by omega) ?_) | (refine Ix.nat (by omega) ?_) | (refine Ix.mk 0 rfl (by omega) ?_) | (refine J2q [(0,some 2),(1,some 1),(2,some 0)] [] (hfp.mono ?_) ⟨J0d.kf rfl,J0d.int rfl,J0d.fn ⟨J0d.loc rfl,J0d.loc rfl,J0d.loc rfl,True.intro⟩,True.intro⟩ (by repeat' (first | exact True.intro | (refine ⟨⟨_,rfl,?_⟩,?_⟩) | exact J0d.kf rfl | (refine And.intro ?_ ?_))) rfl;rintro _ _ _ ⟨rfl,rfl⟩) | (refine Chk.mk rfl ?_))
       all_goals (conv=>whnf)
       . rename_i h;exact hno True (.inl h)
       . rename_i h;exact hno True (.inr h)
       . rename_i q1 q2;refine ⟨c.length - (i + 1),i + 1,by omega,⟨rfl,by omega,fun v hv=>?_⟩,?_⟩
         . by_cases e:v = i
           . subst e;exact ⟨q1,q2⟩
           . exact hall v (by omega)
         . exact J0j (fun _ _=>[(0,some 0),(1,some 1)])
   . repeat' ((conv=>whnf);first | (refine Br.dec ?_ ?_ <;> intro _ <;> try omega))
     all_goals (conv=>whnf)
     exact VLe.bool (trXB_iff.2 (fun v hv=>hall v (by omega))).symm
end Go.Proofs.YtgajaabakpfbbaaGreatDoor
namespace Go.Proofs.YtgajaabakpfbbaaGreatDoor
open Go.Eng
set_option maxRecDepth 100000
set_option linter.unusedVariables false
end Go.Proofs.YtgajaabakpfbbaaGreatDoor
namespace Go.Proofs.YtgajaabakpfbbaaGreatDoor
open Go.Eng
set_option maxRecDepth 100000
set_option linter.unusedVariables false
inductive JD (D:List (Nat × Nat)):Nat→Nat→Prop
 | refl (u:Nat):JD D u u
 | edge {u v:Nat} (h:(u,v)∈D):JD D u v
 | symm {u v:Nat} (h:JD D u v):JD D v u
 | trans {u v w:Nat} (h:JD D u v) (h':JD D v w):JD D u w
theorem JD.mono {D D':List (Nat × Nat)} (hs:∀ p∈D,p∈D') {u v:Nat} (h:JD D u v):JD D' u v:=by
 induction h with
 | refl u=>exact .refl u
 | edge h=>exact .edge (hs _ h)
 | symm _ ih=>exact .symm ih
 | trans _ _ i1 i2=>exact .trans i1 i2
theorem JD.snoc {D:List (Nat × Nat)} {a b u v:Nat}:JD (D ++ [(a,b)]) u v↔JD D u v∨(JD D u a∧JD D b v)∨(JD D u b∧JD D a v):=by
 constructor
 . intro h
   induction h with
   | refl u=>exact .inl (.refl u)
   | edge h =>
     rcases List.mem_append.1 h with h | h
     . exact .inl (.edge h)
     . simp at h;obtain ⟨rfl,rfl⟩:=h;exact .inr (.inl ⟨.refl _,.refl _⟩)
   | symm _ ih =>
     rcases ih with h | ⟨h1,h2⟩ | ⟨h1,h2⟩
     . exact .inl h.symm
     . exact .inr (.inr ⟨h2.symm,h1.symm⟩)
     . exact .inr (.inl ⟨h2.symm,h1.symm⟩)
   | trans _ _ i1 i2 =>
     rcases i1 with h | ⟨h1,h2⟩ | ⟨h1,h2⟩ <;> rcases i2 with k | ⟨k1,k2⟩ | ⟨k1,k2⟩
     . exact .inl (h.trans k)
     . exact .inr (.inl ⟨h.trans k1,k2⟩)
     . exact .inr (.inr ⟨h.trans k1,k2⟩)
     . exact .inr (.inl ⟨h1,h2.trans k⟩)
     . exact .inr (.inl ⟨h1,k2⟩)
     . exact .inl (h1.trans k2)
     . exact .inr (.inr ⟨h1,h2.trans k⟩)
     . exact .inl (h1.trans k2)
     . exact .inr (.inr ⟨h1,k2⟩)
 . intro h;have hm:∀ {x y:Nat},JD D x y→JD (D ++ [(a,b)]) x y:=fun h=>h.mono fun p hp=>List.mem_append.2 (.inl hp);have he:JD (D ++ [(a,b)]) a b:=.edge (List.mem_append.2 (.inr (by simp)));rcases h with h | ⟨h1,h2⟩ | ⟨h1,h2⟩
   . exact hm h
   . exact ((hm h1).trans he).trans (hm h2)
   . exact ((hm h1).trans he.symm).trans (hm h2)
def PtI (n:Nat) (D:List (Nat × Nat)) (p:Nat→Int):Prop:=∀ u v,u < n→v < n→(p u = p v↔JD D u v)
theorem PtI.start (n:Nat):PtI n [] (fun v=>(v:Int)):=by
 intro u v _ _;constructor
 . intro e;have e:(u:Int) = (v:Int):=e;have:u = v:=by omega
   subst this;exact .refl u
 . intro h;have key:∀ {x y:Nat},JD [] x y→x = y:=fun h=>by
    induction h with
    | refl u=>rfl
    | edge h=>simp at h
    | symm _ ih=>exact ih.symm
    | trans _ _ i1 i2=>exact i1.trans i2
   rw [key h]
def joP (p:Nat→Int) (a b:Nat):Nat→Int:=fun v=>if p v = max (p a) (p b) then min (p a) (p b) else p v
theorem PtI.join {n:Nat} {D:List (Nat × Nat)} {p:Nat→Int} (h:PtI n D p) {a b:Nat} (ha:a < n) (hb:b < n):PtI n (D ++ [(a,b)]) (joP p a b):=by
 intro u v hu hv;rw [JD.snoc,← h u v hu hv,← h u a hu ha,← h b v hb hv,← h u b hu hb,← h a v ha hv,joP,joP];generalize p u = x;generalize p v = y;generalize p a = s;generalize p b = t;split <;> split <;> omega
inductive Jn (g:G) (w:Int) (a:Nat):Nat→Prop
 | refl:Jn g w a a
 | step {v:Nat} {l:Int × Int} (hv:v < g.ids.length) (hl:l∈gR g.ports v) (hw:l.2 < w) (h:Jn g w a l.1.toNat):Jn g w a v
def ClJ (g:G) (w:Int) (x:Nat→Bool):Prop:=∀ v,v < g.ids.length→∀ l∈gR g.ports v,l.2 < w→x l.1.toNat = true→x v = true
theorem Jn.in_ {g:G} {w:Int} {a:Nat} {x:Nat→Bool} (hc:ClJ g w x) (ha:x a = true) {v:Nat} (h:Jn g w a v):x v = true:=by
 induction h with
 | refl=>exact ha
 | step hv hl hw _ ih=>exact hc _ hv _ hl hw ih
structure J4I (g:G) (u v:Nat) (w:Int):Prop where
 lu:u < g.ids.length
 lv:v < g.ids.length
 mem:((v:Int),w)∈gR g.ports u
theorem J4I.symm {g:G} (hg:g.valid = true) {u v:Nat} {w:Int} (h:J4I g u v w):J4I g v u w:=by
 obtain ⟨f1,f2,f3,f4,f5,f6,f7⟩:=J0e hg;have:=f7 u (by rw [f3];exact h.lu) _ h.mem;simp only [Int.toNat_natCast] at this;exact ⟨h.lv,h.lu,this⟩
def LtD (g:G) (w:Int) (D:List (Nat × Nat)):Prop:=(∀ u v,(u,v)∈D→∃ k,J4I g u v k∧k < w)∧∀ u v k,J4I g u v k→k < w→(u,v)∈D∨(v,u)∈D
theorem jn_jd {g:G} (hg:g.valid = true) {w:Int} {D:List (Nat × Nat)} (hD:LtD g w D) {a v:Nat} (ha:a < g.ids.length):Jn g w a v↔(v < g.ids.length∧JD D a v):=by
 obtain ⟨f1,f2,f3,f4,f5,f6,f7⟩:=J0e hg;constructor
 . intro h
   induction h with
   | refl=>exact ⟨ha,.refl a⟩
   | step hv hl hw hu ih =>
     rename_i v l;have hok:=(J0t.1 (f6 v (by omega))).1 l hl;refine ⟨hv,ih.2.trans ?_⟩;have he:J4I g v l.1.toNat l.2:=⟨hv,by omega,by rw [Int.toNat_of_nonneg (by omega)];exact hl⟩;rcases hD.2 _ _ _ he hw with q | q
     . exact (JD.edge q).symm
     . exact JD.edge q
 . rintro ⟨hv,h⟩;have tr:∀ {x y z:Nat},Jn g w x y→Jn g w y z→Jn g w x z:=fun h h'=>by
    induction h' with
    | refl=>exact h
    | step hv hl hw _ ih=>exact .step hv hl hw ih
   have one:∀ {x y:Nat} {k:Int},J4I g x y k→k < w→Jn g w x y:=fun {x y k} he hk=>by
    have he':=he.symm hg;exact .step (l:=((x:Int),k)) he.lv he'.mem hk (by simp only [Int.toNat_natCast];exact .refl)
   have sy:∀ {x y:Nat},x < g.ids.length→Jn g w x y→Jn g w y x∧y < g.ids.length:=fun {x y} hx h=>by
    induction h with
    | refl=>exact ⟨.refl,hx⟩
    | step hv hl hw hu ih =>
      rename_i v l;have hok:=(J0t.1 (f6 v (by omega))).1 l hl;have he:J4I g v l.1.toNat l.2:=⟨hv,by omega,by rw [Int.toNat_of_nonneg (by omega)];exact hl⟩;exact ⟨tr (one he hw) ih.1,hv⟩
   have key:∀ {x y:Nat},JD D x y→(x < g.ids.length∨y < g.ids.length)→Jn g w x y∧x < g.ids.length∧y < g.ids.length:=by
    intro x y h
    induction h with
    | refl u=>intro q;exact ⟨.refl,by omega,by omega⟩
    | edge h =>
      intro _;obtain ⟨k,he,hk⟩:=hD.1 _ _ h;exact ⟨one he hk,he.lu,he.lv⟩
    | symm _ ih =>
      intro q;obtain ⟨i1,i2,i3⟩:=ih q.symm;exact ⟨(sy i2 i1).1,i3,i2⟩
    | trans _ _ i1 i2 =>
      intro q;rcases q with q | q
      . obtain ⟨a1,a2,a3⟩:=i1 (.inl q);obtain ⟨b1,b2,b3⟩:=i2 (.inl a3);exact ⟨tr a1 b1,a2,b3⟩
      . obtain ⟨b1,b2,b3⟩:=i2 (.inr q);obtain ⟨a1,a2,a3⟩:=i1 (.inr b2);exact ⟨tr a1 b1,a2,b3⟩
   exact (key h (.inl ha)).1
structure CPs (g:G) (w:Int) (a r v i:Nat) (x:Nat→Bool):Prop where
 start:x a = true
 snd:∀ u,x u = true→Jn g w a u
 cl:ClJ g w x∨r + 2≤J3M x g.ids.length∨(r + 1≤J3M x g.ids.length∧∀ u j,(u < v∨(u = v∧j < i))→u < g.ids.length→j < (gR g.ports u).length→(gF (gR g.ports u) j).2 < w→x (gF (gR g.ports u) j).1.toNat = true→x u = true)
structure CIv (g:G) (w:Int) (a r:Nat) (x:Nat→Bool):Prop where
 start:x a = true
 snd:∀ u,x u = true→Jn g w a u
 cl:ClJ g w x∨r + 1≤J3M x g.ids.length
theorem cup_self {x:Nat→Bool} {v:Nat}:cup x v (x v) = x:=by
 funext u;rw [cup];split
 . rename_i e;rw [e]
 . rfl
theorem CPs.step {g:G} {w:Int} {a r v i:Nat} {x:Nat→Bool} (h:CPs g w a r v i x) (hv:v < g.ids.length) (hi:i < (gR g.ports v).length) :
 CPs g w a r v (i + 1) (cup x v (x v || (decide ((gF (gR g.ports v) i).2 < w) && x (gF (gR g.ports v) i).1.toNat))):=by
 have hl:=J1l hi;generalize hL:gF (gR g.ports v) i = l at *;by_cases hadd:l.2 < w∧x l.1.toNat = true∧x v = false
 . obtain ⟨q1,q2,q3⟩:=hadd;have hx:(x v || (decide (l.2 < w) && x l.1.toNat)) = true:=by rw [q2,decide_eq_true q1];simp
   rw [hx];have hc:J3M (cup x v true) g.ids.length = J3M x g.ids.length + 1:=J4G (u:=v) (by rw [cup,if_pos rfl]) q3 (fun u hu=>by rw [cup,if_neg hu]) hv;have hst:∀ u,x u = true→cup x v true u = true:=fun u e=>by
    rw [cup];split
    . rfl
    . exact e
   refine ⟨hst a h.start,fun u e=>?_,?_⟩
   . by_cases eu:u = v
     . subst eu;exact .step hv hl q1 (h.snd _ q2)
     . rw [cup,if_neg eu] at e;exact h.snd u e
   . rcases h.cl with q | q | ⟨q,_⟩
     . have:=q v hv l hl q1 q2;rw [q3] at this;cases this
     . exact .inr (.inl (by omega))
     . exact .inr (.inl (by omega))
 . have hx:(x v || (decide (l.2 < w) && x l.1.toNat)) = x v:=by
    cases e:x v with
    | true=>rfl
    | false =>
      rw [Bool.false_or,Bool.and_eq_false_iff,decide_eq_false_iff_not];by_cases q1:l.2 < w
      . right;cases e2:x l.1.toNat with
        | false=>rfl
        | true=>exact (hadd ⟨q1,e2,e⟩).elim
      . exact .inl q1
   rw [hx,cup_self];refine ⟨h.start,h.snd,h.cl.imp id (Or.imp id fun ⟨q,q'⟩=>⟨q,fun u j hq hu hj hw hxl=>?_⟩)⟩;by_cases e:u = v∧j = i
   . obtain ⟨rfl,rfl⟩:=e;rw [hL] at hw hxl;cases e:x u with
     | true=>rfl
     | false=>exact (hadd ⟨hw,hxl,e⟩).elim
   . exact q' u j (by omega) hu hj hw hxl
theorem CPs.row {g:G} {w:Int} {a r v:Nat} {x:Nat→Bool} (h:CPs g w a r v (gR g.ports v).length x):CPs g w a r (v + 1) 0 x :=
 ⟨h.start,h.snd,h.cl.imp id (Or.imp id fun ⟨q,q'⟩=>⟨q,fun u j hq hu hj=>q' u j (by
   rcases Nat.lt_or_ge u v with e | e
   . exact .inl e
   . obtain rfl:u = v:=by omega
     exact .inr ⟨rfl,hj⟩) hu hj⟩)⟩
theorem CPs.over {g:G} {w:Int} {a r v:Nat} {x:Nat→Bool} (h:CPs g w a r v 0 x) (hv:g.ids.length≤v):CIv g w a (r + 1) x:=by
 refine ⟨h.start,h.snd,?_⟩;rcases h.cl with q | q | ⟨_,q⟩
 . exact .inl q
 . exact .inr q
 . refine .inl fun u hu l hl hw hx=>?_;obtain ⟨j,hj,ej⟩:=List.getElem_of_mem hl;have ej:gF (gR g.ports u) j = l:=by rw [← ej];simp [gF,List.getD,hj]
   exact q u j (.inl (by omega)) hu hj (by rw [ej];exact hw) (by rw [ej];exact hx)
theorem CIv.done {g:G} {w:Int} {a:Nat} {x:Nat→Bool} (h:CIv g w a g.ids.length x) (v:Nat):x v = true↔Jn g w a v:=by
 refine ⟨h.snd v,fun q=>?_⟩;rcases h.cl with c | c
 . exact q.in_ c h.start
 . have:=J5W x g.ids.length;omega
end Go.Proofs.YtgajaabakpfbbaaGreatDoor
