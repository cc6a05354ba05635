import Derived.Test.YtpoplpohbpfbmaaGreatDoorCK1
import Derived.Test.YtpoplpohbpfbmaaGreatDoorDN11
namespace Go.Proofs.YtpoplpohbpfbmaaGreatDoor
open Go.Eng
set_option maxRecDepth 100000
set_option linter.unusedVariables false
theorem conf_ext' {n m:Nat} {B B':Nat->Nat->Int×Int} {c:Cf} (h:∀v x,v<n->x<m->B v x=B' v x):conf n m B c=conf n m B' c:=by
 rw[Bool.eq_iff_iff,conf_iff,conf_iff];refine⟨fun⟨a,b⟩=>⟨a,fun v hv=>⟨(b v hv).1,fun x hx=>by rw[<- h v x hv hx];exact(b v hv).2 x hx⟩⟩,fun⟨a,b⟩=>⟨a,fun v hv=>⟨(b v hv).1,fun x hx=>by rw[h v x hv hx];exact(b v hv).2 x hx⟩⟩⟩
theorem cnumber_ok (s:ByteArray) (a b d:Int):Ret Tryz.prog 65 [.str s,.int .i64 a,.int .i64 b,.int .i64 d] (.agg [.str s,.int .i64 1,.int .i64 0,.int .i64 a,.int .i64 b,.int .i64 d]):=by
 refine ret_frz rfl ?_;refine fn_rule mixed Tryz.func65 rfl hc65 hr65 rfl ?_
 repeat' ((conv=>whnf);first|fail)
 all_goals (conv=>whnf)
 exact VLe.rfl
theorem cpointer_ok (s:ByteArray):Ret Tryz.prog 66 [.str s] (.agg [.str s,.int .i64 3,.int .i64 0,.int .i64 0,.int .i64 0,.int .i64 0]):=by
 refine ret_frz rfl ?_;refine fn_rule mixed Tryz.func66 rfl hc66 hr66 rfl ?_
 repeat' ((conv=>whnf);first|fail)
 all_goals (conv=>whnf)
 exact VLe.rfl
def tkC (c:Cf):Cf:=c.map fun r=>r.take 2
theorem tkC_len (c:Cf):(tkC c).length=c.length:=by simp[tkC]
theorem tkC_row (c:Cf) (v:Nat):gC (tkC c) v=(gC c v).take 2:=by
 simp only[gC,tkC,List.getD,List.getElem?_map];cases c[v]?<;>simp
theorem gI_take2 (l:List Int) (i:Nat) (hi:i<2):gI (l.take 2) i=gI l i:=by
 simp only[gI,List.getD,List.getElem?_take,hi,if_true]
def rowsTk (c:Cf) (v:Nat):Nat->Nat->V:=fun i _=>if i<v then .fz 2 1 false (vI (gC c i)) else .nilslice
theorem vle_tk (c:Cf) (v i t:Nat) (f:Bool) (F:Nat->Nat->V) (hF:∀a b,VLe (F a b) (vI (gC c v) a b)) (ht:t<1):VLe (fset (rowsTk c v) v 0 [.fz 2 1 f F] i t) (rowsTk c (v+1) i t):=by
 obtain rfl:t=0:=by omega
 by_cases h:i=v
 . subst h;have e1:fset (rowsTk c i) i 0 [.fz 2 1 f F] i 0=.fz 2 1 f F:=by simp[fset]
   have e2:rowsTk c (i+1) i 0=.fz 2 1 false (vI (gC c i)):=if_pos (by omega);rw[e1,e2];exact VLe.fz rfl (fun h=>by cases h) (fun a b _ _=>hF a b)
 . apply VLe.of_eq;simp only[fset,rowsTk];rw[if_neg (by simp[h])];by_cases h2:i<v
   . rw[if_pos h2,if_pos (by omega)]
   . rw[if_neg h2,if_neg (by omega)]
def tw (g:G) (c:Cf) (v:Nat):Int:=if 0<=gI (gC c v) 1 then (gF (gR g.ports v) (gI (gC c v) 1).toNat).1 else -1
def twL (g:G) (c:Cf) (n:Nat):List Int:=(List.range n).map (tw g c)
theorem twL_len (g:G) (c:Cf) (n:Nat):(twL g c n).length=n:=by simp[twL]
theorem twL_get (g:G) (c:Cf) {n v:Nat} (h:v<n):gI (twL g c n) v=tw g c v:=by simp[twL,gI,h]
def twF (g:G) (c:Cf) (v:Nat):Nat->Nat->V:=fun i _=>.int .i64 (if i<v then tw g c i else 0)
theorem twF_set (g:G) (c:Cf) (v i t:Nat) (x:Int) (hx:x=tw g c v) (ht:t<1):VLe (fset (fset (twF g c v) v 0 [.int .i64 (-1)]) v 0 [.int .i64 x] i t) (twF g c (v+1) i t):=by
 obtain rfl:t=0:=by omega
 apply VLe.of_eq;by_cases h:i=v
 . subst h;simp[fset,twF,hx]
 . have h1:(i<v+1)=(i<v):=by simp;omega
   simp[fset,twF,h,h1]
theorem twF_set1 (g:G) (c:Cf) (v i t:Nat) (hx:tw g c v=-1) (ht:t<1):VLe (fset (twF g c v) v 0 [.int .i64 (-1)] i t) (twF g c (v+1) i t):=by
 obtain rfl:t=0:=by omega
 apply VLe.of_eq;by_cases h:i=v
 . subst h;simp[fset,twF,hx]
 . have h1:(i<v+1)=(i<v):=by simp;omega
   simp[fset,twF,h,h1]
structure PtOk (g:G) (c:Cf):Prop where
 len:c.length=g.ports.length
 row:∀v,v<c.length->2<=(gC c v).length/\(gC c v).length<=1000
 pt:∀v,v<c.length->-1<=gI (gC c v) 1/\gI (gC c v) 1<(gR g.ports v).length
theorem towards_ok (g:G) (hg:g.valid=true) (c:Cf) (hc:PtOk g c):Ret Tryz.prog 30 [g.v,cV c,.int .i64 1] (.fz (twL g c c.length).length 1 false (vI (twL g c c.length))):=by
 obtain⟨f1,f2,f3,f4,f5,f6,f7⟩:=val_facts hg;have hcl:=hc.len;refine ret_frz rfl ?_;refine fn_rule mixed Tryz.func30 rfl hc30 hr30 rfl ?_
 repeat' ((conv=>whnf);first|(refine Bd.nat (by omega) ?_)|(refine Len.mk (by omega) ?_)|(refine MkS.vec ?_))
 all_goals (conv=>whnf)
 refine loop_u mixed [2,3,7,13,14] [] [2,3,4,5,6,7,8,9,10,11,12,13,14,15,16,17,18,19,20,21,22,23,24,25,26,27,28,29] [1,0] (fun v:Nat=>[(15,.int .i64 v)]) (fun own v=>updO own 1 (.vec c.length 1 (twF g c v))) (fun m v=>m=c.length-v/\v<=c.length) c.length 0 ⟨rfl,Nat.zero_le _⟩ rfl (fun _=>rfl) ?_ ?_
 . refine weak_by (fun _ _=>[(0,some 0),(1,some 1)]) ?_ ?_ rfl
   . repeat' (first|exact True.intro|(refine⟨⟨_,rfl,?_⟩,?_⟩)|exact VRen.kf rfl|exact VRen.loc rfl|exact VRen.vec rfl rfl rfl)
   . repeat' (first|exact⟨Nat.le_refl _,rfl,fun i j hi hj=>VLe.of_eq (by obtain rfl:j=0:=(by omega);rfl)⟩|exact True.intro|(refine⟨⟨_,rfl,?_⟩,?_⟩)|exact VRen.kf rfl|(refine And.intro ?_ ?_))
 rintro m v ⟨hm,hv⟩;by_cases hvn:v<c.length
 . have h1:=hc.row v hvn;have h2:=hc.pt v hvn;have hrl:=row_le' hg v
   repeat' ((conv=>whnf);first|(refine Br.dec ?_ ?_<;>intro _<;>try omega)|(refine Ar.i64 (by omega) (by omega) ?_)|(refine Ix.nat (by omega) ?_)|(refine Ix.mk 1 rfl (by omega) ?_)|(refine Ix.int (by omega) (by omega) ?_)|(refine Ltn.mk (by omega) ?_))
   all_goals (conv=>whnf)
   . rename_i hp;refine⟨c.length-(v+1),v+1,by omega,⟨rfl,by omega⟩,?_⟩;refine weak_by (fun _ _=>[(0,some 0),(1,some 1)]) ?_ ?_ rfl
     . repeat' (first|exact True.intro|(refine⟨⟨_,rfl,?_⟩,?_⟩)|exact VRen.kf rfl|exact VRen.loc rfl|exact VRen.vec rfl rfl rfl)
     . repeat' (first|exact⟨Nat.le_refl _,rfl,fun i t hi ht=>by simp only[Nat.zero_add];exact twF_set g c v i t _ (if_pos hp).symm ht⟩|exact True.intro|(refine⟨⟨_,rfl,?_⟩,?_⟩)|exact VRen.kf rfl|(refine And.intro ?_ ?_))
   . rename_i hp;refine⟨c.length-(v+1),v+1,by omega,⟨rfl,by omega⟩,?_⟩;refine weak_by (fun _ _=>[(0,some 0),(1,some 1)]) ?_ ?_ rfl
     . repeat' (first|exact True.intro|(refine⟨⟨_,rfl,?_⟩,?_⟩)|exact VRen.kf rfl|exact VRen.loc rfl|exact VRen.vec rfl rfl rfl)
     . repeat' (first|exact⟨Nat.le_refl _,rfl,fun i t hi ht=>by simp only[Nat.zero_add];exact twF_set1 g c v i t (if_neg hp) ht⟩|exact True.intro|(refine⟨⟨_,rfl,?_⟩,?_⟩)|exact VRen.kf rfl|(refine And.intro ?_ ?_))
 . repeat' ((conv=>whnf);first|(refine Br.dec ?_ ?_<;>intro _<;>try omega)|(refine Len.mk (by omega) ?_))
   all_goals (conv=>whnf)
   refine VLe.fz (twL_len g c _).symm (fun h=>h) (fun i t hi ht=>VLe.of_eq ?_);rw[sh_at,vI,twL_get g c hi];simp only[twF,Nat.zero_add];rw[if_pos (by omega)]
theorem lay_back {p:Pt} {f:Nat}:∀{k v:Nat},0<=lay p f k v->v≠f->∃l∈gR p v,lay p f k l.1.toNat=lay p f k v-1/\0<=lay p f k l.1.toNat
 | 0,v,h,hv=>by rw[lay,if_neg hv] at h;omega
 | k+1,v,h,hv=>by
   by_cases h0:0<=lay p f k v
   . obtain⟨l,hl,a,b⟩:=lay_back h0 hv;have e1:lay p f (k+1) v=lay p f k v:=by rw[lay,if_pos h0]
     have e2:lay p f (k+1) l.1.toNat=lay p f k l.1.toNat:=by rw[lay,if_pos b]
     exact⟨l,hl,by rw[e1,e2];exact a,by rw[e2];exact b⟩
   . by_cases ha:(gR p v).any (fun l=>decide (lay p f k l.1.toNat=k))=true
     . have e1:lay p f (k+1) v=(k:Int)+1:=by rw[lay,if_neg h0,if_pos ha]
       rw[List.any_eq_true] at ha;obtain⟨l,hl,e⟩:=ha;have e:=of_decide_eq_true e;have e2:lay p f (k+1) l.1.toNat=k:=by rw[lay,if_pos (by omega)];exact e
       exact⟨l,hl,by rw[e1,e2];omega,by rw[e2];omega⟩
     . rw[lay,if_neg h0,if_neg ha] at h;omega
theorem fpI_none {p:Int×Int->Bool}:∀{l:Lt2'} {k:Nat},(∀a∈l,p a=false)->fpI p k l=-1
 | [],k,_=>rfl
 | a::r,k,h=>by rw[fpI,h a (by simp),if_neg (by simp)];exact fpI_none fun b hb=>h b (by simp[hb])
theorem fpI_some {p:Int×Int->Bool}:∀{l:Lt2'} {k:Nat},(∃a∈l,p a=true)->0<=fpI p k l
 | [],k,h=>by simp at h
 | a::r,k,h=>by
   rw[fpI];split
   . omega
   . rename_i hn;refine fpI_some ?_;obtain⟨b,hb,e⟩:=h;rcases List.mem_cons.1 hb with rfl|hb
     . exact(hn e).elim
     . exact⟨b,hb,e⟩
theorem dst_root (g:G) (hg:g.valid=true):gI (dst g 0) 0=0:=by
 obtain⟨f1,f2,f3,f4,f5,f6,f7⟩:=val_facts hg;have h:∀k,lay g.ports 0 k 0=0:=by
  intro k
  induction k with
  | zero=>rfl
  | succ k ih=>rw[lay,ih];rfl
 rw[dst_get g 0 (by omega),h]
theorem up_root {g:G} (hg:g.conn=true):upI g 0=-1:=by
 obtain⟨h1,h2⟩:=conn_facts hg;have hr:=(und_of h1).rng 0;obtain⟨f1,f2,f3,f4,f5,f6,f7⟩:=val_facts h1;refine fpI_none fun l hl=>decide_eq_false ?_;have:=h2 _ (hr (by omega) l hl);rw[dst_root g h1];omega
theorem up_other {g:G} (hg:g.conn=true) {v:Nat} (hv:v<g.ports.length) (h0:v≠0):0<=upI g v/\upI g v<(gR g.ports v).length:=by
 obtain⟨h1,h2⟩:=conn_facts hg;have hr:=(und_of h1).rng v hv;have hd:=h2 v hv;rw[dst_get g 0 hv] at hd;obtain⟨l,hl,a,b⟩:=lay_back hd h0;have h3:0<=upI g v:=fpI_some ⟨l,hl,decide_eq_true (by rw[dst_get g 0 (hr l hl),dst_get g 0 hv];exact a)⟩;have:=fpI_range (nearB g v) (gR g.ports v) 0;refine⟨h3,?_⟩;unfold upI at *;omega
theorem tw_treeP {g:G} {c:Cf} (hg:g.conn=true) (hc:PtOk g c) (ht:treeB g c=true) {v:Nat} (hv:v<c.length):(v=0->tw g c v=-1)/\(v≠0->0<=tw g c v/\tw g c v<c.length):=by
 obtain⟨h1,h2⟩:=conn_facts hg;obtain⟨f1,f2,f3,f4,f5,f6,f7⟩:=val_facts h1;have hl:=hc.len;have h:=(treeB_iff.1 ht v hv).2;refine⟨fun e=>?_,fun e=>?_⟩
 . subst e;rw[tw,h,up_root hg,if_neg (by omega)]
 . obtain⟨a,b⟩:=up_other hg (show v<g.ports.length by omega) e;have:=okR_to' (f6 v (by omega)) (i:=(upI g v).toNat) (by omega);rw[tw,h,if_pos a];omega
end Go.Proofs.YtpoplpohbpfbmaaGreatDoor
namespace Go.Plain.Tree
structure Net (n:Nat) (a:Nat->Nat->Bool) (D:Nat->Nat):Prop where
 rng:∀u v,u<n->a u v=true->v<n
 root:∀v,v<n->(D v=0↔v=0)
 near:∀v,v<n->v≠0->∃u,a v u=true/\D u+1=D v
 step:∀u v,u<n->a u v=true->D u<=D v+1
 top:∀v,v<n->D v+1<=n
structure St where
 d:Nat->Int
 p:Nat->Int
structure Rule (n:Nat) (a:Nat->Nat->Bool) (D:Nat->Nat) (P:Nat->Int) (tg:(Nat->Int)->Nat->Int×Int):Prop where
 root:∀d,tg d 0=(0,-1)
 right:∀d v,v<n->v≠0->(∀u,a v u=true->D u+1=D v->d u=((D u:Nat):Int))->(∀u,a v u=true->D v<=D u->(D v:Int)<=d u)->tg d v=(((D v:Nat):Int),P v)
 low:∀d v (k:Nat),v<n->v≠0->k+1<=n->(∀u,a v u=true->(k:Int)<=d u)->((k+1:Nat):Int)<=(tg d v).1
 proot:P 0=-1
variable {n:Nat} {a:Nat->Nat->Bool} {D:Nat->Nat} {P:Nat->Int} {tg:(Nat->Int)->Nat->Int×Int}
def right (D:Nat->Nat) (P:Nat->Int) (s:St) (v:Nat):Prop:=s.d v=((D v:Nat):Int)/\s.p v=P v
def off (tg:(Nat->Int)->Nat->Int×Int) (s:St) (v:Nat):Prop:=(s.d v,s.p v)≠tg s.d v
def Step (n:Nat) (tg:(Nat->Int)->Nat->Int×Int) (s:St) (c:Nat->Bool) (s':St):Prop :=
 ∀v,v<n->(c v=true->off tg s v->(s'.d v,s'.p v)=tg s.d v)/\(c v=false\/¬ off tg s v->s'.d v=s.d v/\s'.p v=s.p v)
structure Ok (n:Nat) (D:Nat->Nat) (P:Nat->Int) (s:St) (k:Nat):Prop where
 low:∀v,v<n->D v<k->right D P s v
 far:∀v,v<n->k<=D v->(k:Int)<=s.d v
def bad (D:Nat->Nat) (P:Nat->Int) (s:St) (k v:Nat):Prop:=(D v=k/\¬ right D P s v)\/(k<D v/\s.d v<(k:Int)+1)
theorem Ok.start {s:St} (h:∀v,v<n->0<=s.d v):Ok n D P s 0:=⟨fun v _ h=>by omega,fun v hv _=>by simpa using h v hv⟩
theorem Ok.tgt (hN:Net n a D) (hR:Rule n a D P tg) {s:St} {k:Nat} (h:Ok n D P s k) {v:Nat} (hv:v<n) (hk:D v<=k):tg s.d v=(((D v:Nat):Int),P v):=by
 by_cases h0:v=0
 . subst h0;rw[hR.root,(hN.root 0 hv).2 rfl,hR.proot];rfl
 . refine hR.right s.d v hv h0 (fun u hu e=>?_) (fun u hu e=>?_)
   . exact(h.low u (hN.rng v u hv hu) (by omega)).1
   . have hun:=hN.rng v u hv hu;by_cases q:D u<k
     . rw[(h.low u hun q).1];omega
     . have:=h.far u hun (by omega);omega
theorem Ok.tgfar (hN:Net n a D) (hR:Rule n a D P tg) {s:St} {k:Nat} (h:Ok n D P s k) {v:Nat} (hv:v<n) (hk:k<D v):((k+1:Nat):Int)<=(tg s.d v).1:=by
 have h0:v≠0:=fun e=>by have:=(hN.root v hv).2 e;omega
 have ht:=hN.top v hv;refine hR.low s.d v k hv h0 (by omega) fun u hu=>?_;have:=hN.step v u hv hu;exact h.far u (hN.rng v u hv hu) (by omega)
theorem Ok.off_bad (hN:Net n a D) (hR:Rule n a D P tg) {s:St} {k:Nat} (h:Ok n D P s k) {v:Nat} (hv:v<n) (hb:bad D P s k v):off tg s v:=by
 rcases hb with ⟨h1,h2⟩ | ⟨h1,h2⟩
 . intro e;rw[h.tgt hN hR hv (by omega)] at e;exact h2 ⟨(Prod.mk.inj e).1,(Prod.mk.inj e).2⟩
 . intro e;have:=h.tgfar hN hR hv h1;rw[<- e] at this;simp only at this;omega
theorem Ok.step (hN:Net n a D) (hR:Rule n a D P tg) {s s':St} {c:Nat->Bool} {k:Nat} (h:Ok n D P s k) (hs:Step n tg s c s') :
 Ok n D P s' k/\∀v,v<n->bad D P s' k v->bad D P s k v/\c v=false:=by
 have key:∀v,v<n->(c v=true/\off tg s v/\(s'.d v,s'.p v)=tg s.d v)\/((c v=false\/¬ off tg s v)/\s'.d v=s.d v/\s'.p v=s.p v):=fun v hv=>by
  obtain⟨h1,h2⟩:=hs v hv;by_cases q:c v=false\/¬ off tg s v
  . exact .inr ⟨q,h2 q⟩
  . have qc:c v=true:=by
     cases e:c v with
     | true=>rfl
     | false=>exact(q (.inl e)).elim
    have qo:off tg s v:=Classical.byContradiction fun e=>q (.inr e);exact .inl ⟨qc,qo,h1 qc qo⟩
 have low':∀v,v<n->D v<k->right D P s' v:=fun v hv hk=>by
  rcases key v hv with ⟨_,_,e⟩ | ⟨_,e1,e2⟩
  . rw[h.tgt hN hR hv (by omega)] at e;exact⟨(Prod.mk.inj e).1,(Prod.mk.inj e).2⟩
  . obtain⟨r1,r2⟩:=h.low v hv hk;exact⟨by rw[e1];exact r1,by rw[e2];exact r2⟩
 have far':∀v,v<n->k<=D v->(k:Int)<=s'.d v:=fun v hv hk=>by
  rcases key v hv with ⟨_,_,e⟩ | ⟨_,e1,_⟩
  . by_cases q:D v=k
    . rw[h.tgt hN hR hv (by omega)] at e;rw[(Prod.mk.inj e).1];omega
    . have:=h.tgfar hN hR hv (by omega);rw[<- e] at this;simp only at this;omega
  . rw[e1];exact h.far v hv hk
 refine⟨⟨low',far'⟩,fun v hv hb=>?_⟩;rcases key v hv with ⟨_,_,e⟩ | ⟨q,e1,e2⟩
 . exfalso;rcases hb with ⟨h1,h2⟩ | ⟨h1,h2⟩
   . rw[h.tgt hN hR hv (by omega)] at e;exact h2 ⟨(Prod.mk.inj e).1,(Prod.mk.inj e).2⟩
   . have:=h.tgfar hN hR hv h1;rw[<- e] at this;simp only at this;omega
 . have hb0:bad D P s k v:=by
    rcases hb with ⟨h1,h2⟩ | ⟨h1,h2⟩
    . exact .inl ⟨h1,fun r=>h2 ⟨by rw[e1];exact r.1,by rw[e2];exact r.2⟩⟩
    . exact .inr ⟨h1,by rw[<- e1];exact h2⟩
   refine⟨hb0,?_⟩;rcases q with q|q
   . exact q
   . exact(q (h.off_bad hN hR hv hb0)).elim
theorem Ok.next {s:St} {k:Nat} (h:Ok n D P s k) (hb:∀v,v<n->¬ bad D P s k v):Ok n D P s (k+1):=by
 refine⟨fun v hv hk=>?_,fun v hv hk=>?_⟩
 . by_cases e:D v=k
   . exact Classical.byContradiction fun q=>hb v hv (.inl ⟨e,q⟩)
   . exact h.low v hv (by omega)
 . have:=hb v hv;apply Classical.byContradiction;intro q;exact this (.inr ⟨by omega,by omega⟩)
theorem Ok.all (hN:Net n a D) (hR:Rule n a D P tg) {s:St} {k:Nat} (h:Ok n D P s k) {v:Nat} (hv:v<n) (hk:D v<k):¬ off tg s v:=fun e=>by
 obtain⟨r1,r2⟩:=h.low v hv hk;apply e;rw[h.tgt hN hR hv (by omega),r1,r2]
end Go.Plain.Tree
namespace Go.Proofs.YtpoplpohbpfbmaaGreatDoor
open Go.Eng
set_option maxRecDepth 100000
set_option linter.unusedVariables false
def Dg (g:G) (v:Nat):Nat:=(gI (dst g 0) v).toNat
theorem dg_int {g:G} (h:g.conn=true) {v:Nat} (hv:v<g.ids.length):((Dg g v:Nat):Int)=gI (dst g 0) v:=by
 obtain⟨h1,h2⟩:=conn_facts h;obtain⟨f1,f2,f3,f4,f5,f6,f7⟩:=val_facts h1;have:=h2 v (by omega);rw[Dg];omega
theorem netB {g:G} (h:g.conn=true):Go.Plain.Tree.Net g.ids.length (adN g) (Dg g):=by
 obtain⟨h1,h2⟩:=conn_facts h;obtain⟨f1,f2,f3,f4,f5,f6,f7⟩:=val_facts h1;have hu:=und_of h1;have hF:=dst_found h1;have hD:=fun v (hv:v<g.ids.length)=>dg_int h hv;have near:∀v,v<g.ids.length->v≠0->∃u,adN g v u=true/\Dg g u+1=Dg g v:=fun v hv h0=>by
  obtain⟨l,hl,a,b⟩:=hF.back v (by omega) h0 (h2 v (by omega));have hln:=hu.rng v (by omega) l hl;have e1:=hD v hv;have e2:=hD l.1.toNat (by omega);exact⟨l.1.toNat,adj_iff.2 ⟨l,hl,rfl⟩,by omega⟩
 refine⟨fun u v hu' hv=>(adj_adj h1).rng u v hu' hv,fun v hv=>⟨fun e=>?_,fun e=>?_⟩,near,fun u v hun huv=>?_,fun v hv=>?_⟩
 . apply Classical.byContradiction;intro h0;obtain⟨u,_,q⟩:=near v hv h0;omega
 . subst e;have:=hD 0 hv;have e0:=hF.from_;omega
 . have hvn:=(adj_adj h1).rng u v hun huv;have hvu:=(adj_adj h1).sym u v hun hvn huv;obtain⟨l,hl,e⟩:=adj_iff.1 hvu;have:=(hF.on v (by omega) (h2 v (by omega)) l hl).2;rw[e] at this;have e1:=hD v hvn;have e2:=hD u hun;omega
 . have:=hF.lt hu (v:=v) (by omega);have e1:=hD v hv;omega
theorem minI_le:∀(l:List Int) (m:Int),minI l m<=m/\∀a∈l,minI l m<=a
 | [],m=>⟨Int.le_refl _,by simp⟩
 | a::r,m=>by
   have q1:(if a<m then a else m)<=m:=by split<;>omega
   have q2:(if a<m then a else m)<=a:=by split<;>omega
   obtain⟨h1,h2⟩:=minI_le r (if a<m then a else m);rw[minI];refine⟨Int.le_trans h1 q1,fun b hb=>?_⟩;rcases List.mem_cons.1 hb with e|hb
   . rw[e];exact Int.le_trans h1 q2
   . exact h2 b hb
theorem minI_ge:∀(l:List Int) (m k:Int),k<=m->(∀a∈l,k<=a)->k<=minI l m
 | [],m,k,h,_=>h
 | a::r,m,k,h,ha=>by
   rw[minI];exact minI_ge r _ k (by have:=ha a (by simp);split<;>omega) (fun b hb=>ha b (by simp[hb]))
def mnD (g:G) (d:Nat->Int) (v:Nat):Int:=minI ((gR g.ports v).map fun l=>d l.1.toNat) 1073741824
def tgB (g:G) (d:Nat->Int) (v:Nat):Int×Int :=
 if v=0 then (0,-1) else (if mnD g d v<g.ids.length then mnD g d v+1 else g.ids.length,fpI (fun l=>decide (d l.1.toNat=mnD g d v)) 0 (gR g.ports v))
theorem fpI_ext {p q:Int×Int->Bool}:∀{r:Lt2'} {k:Nat},(∀l∈r,p l=q l)->fpI p k r=fpI q k r
 | [],_,_=>rfl
 | l::r,k,h=>by rw[fpI,fpI,h l (by simp),fpI_ext (fun x hx=>h x (by simp[hx]))]
theorem ruleB {g:G} (h:g.conn=true):Go.Plain.Tree.Rule g.ids.length (adN g) (Dg g) (upI g) (tgB g):=by
 obtain⟨h1,h2⟩:=conn_facts h;obtain⟨f1,f2,f3,f4,f5,f6,f7⟩:=val_facts h1;have hN:=netB h;have hu:=und_of h1;refine⟨fun d=>if_pos rfl,fun d v hv h0 hr1 hr2=>?_,fun d v k hv h0 hk hd=>?_,up_root h⟩
 . have hmem:∀l∈gR g.ports v,adN g v l.1.toNat=true:=fun l hl=>adj_iff.2 ⟨l,hl,rfl⟩;have h4:=hN.top v hv;have hm:mnD g d v=((Dg g v:Nat):Int)-1:=by
    obtain⟨u,hu1,hu2⟩:=hN.near v hv h0;obtain⟨l,hl,e⟩:=adj_iff.1 hu1;have a1:=(minI_le ((gR g.ports v).map fun l=>d l.1.toNat) 1073741824).2 (d u) (List.mem_map.2 ⟨l,hl,by rw[e]⟩);rw[hr1 u hu1 hu2] at a1;have a2:((Dg g v:Nat):Int)-1<=minI ((gR g.ports v).map fun l=>d l.1.toNat) 1073741824:=by
     refine minI_ge _ _ _ (by omega) fun b hb=>?_;obtain⟨l',hl',rfl⟩:=List.mem_map.1 hb;have hal:=hmem l' hl';by_cases q:Dg g v<=Dg g l'.1.toNat
     . have:=hr2 _ hal q;omega
     . have hs:=hN.step v l'.1.toNat hv hal;rw[hr1 _ hal (by omega)];omega
    rw[mnD];omega
   have hv1:1<=Dg g v:=by
    have:=(hN.root v hv);omega
   rw[tgB,if_neg h0,hm,if_pos (by omega)];refine Prod.ext (by simp only;omega) ?_;show fpI _ 0 _=fpI (nearB g v) 0 _;refine fpI_ext fun l hl=>?_;have hal:=hmem l hl;have hln:=hN.rng v l.1.toNat hv hal;have e1:=dg_int h hv;have e2:=dg_int h hln;have hs:=hN.step v l.1.toNat hv hal;rw[nearB,decide_eq_decide,<- e1,<- e2];by_cases q:Dg g v<=Dg g l.1.toNat
   . have:=hr2 _ hal q;omega
   . rw[hr1 _ hal (by omega)]
 . have hm:(k:Int)<=mnD g d v:=by
    refine minI_ge _ _ _ (by omega) fun b hb=>?_;obtain⟨l,hl,rfl⟩:=List.mem_map.1 hb;exact hd _ (adj_iff.2 ⟨l,hl,rfl⟩)
   rw[tgB,if_neg h0];simp only;split<;>omega
def mnT:Tm:=.agg 24 (.leaf 12 0)
def dTm:Tm:=.ite (.bin 37 mnT (.leaf 6 0)) (.bin 33 mnT (.leaf 1 1)) (.leaf 6 0)
def pTm:Tm:=.agg 23 (.bin 35 (.leaf 12 0) mnT)
def topG:Tm:=.bin 41 (.leaf 10 0) (.bin 42 (.bin 36 (.leaf 5 0) (.leaf 1 0)) (.bin 36 (.leaf 5 1) (.leaf 4 0)))
def lowG:Tm:=.bin 41 (.un 19 (.leaf 10 0)) (.bin 42 (.bin 36 (.leaf 5 0) dTm) (.bin 36 (.leaf 5 1) pTm))
abbrev dC (c:Cf) (v:Nat):Int:=gI (gC c v) 0
abbrev pC (c:Cf) (v:Nat):Int:=gI (gC c v) 1
theorem range_map (r:Lt2') (f:Int×Int->Int):((List.range r.length).map fun i=>f (gF r i))=r.map f:=by
 refine List.ext_getElem (by simp) fun i h1 h2=>?_;simp at h1;simp[gF,List.getD,h1]
theorem mn_sem (g:G) (c:Cf) (v:Nat) (port:Int):mnT.sem g c v port=mnD g (dC c) v:=by
 show minI ((List.range (gR g.ports v).length).map fun(i:Nat)=>gI (gC c (nbV g v i)) 0) 1073741824=_;rw[mnD,<- range_map (gR g.ports v) (fun l=>dC c l.1.toNat)];simp only[nbV,Int.toNat_natCast]
theorem mn_nn {g:G} {c:Cf} (hd:∀v,v<g.ids.length->0<=dC c v) (hg:g.valid=true) {v:Nat} (hv:v<g.ids.length):0<=mnD g (dC c) v:=by
 obtain⟨f1,f2,f3,f4,f5,f6,f7⟩:=val_facts hg;have hok:=(okR_iff.1 (f6 v (by omega))).1;refine minI_ge _ _ _ (by omega) fun b hb=>?_;obtain⟨l,hl,rfl⟩:=List.mem_map.1 hb;have:=hok l hl;exact hd _ (by omega)
theorem d_sem {g:G} (hg:g.valid=true) {c:Cf} (hd:∀v,v<g.ids.length->0<=dC c v) {v:Nat} (hv:v<g.ids.length) (h0:v≠0) (port:Int):dTm.sem g c v port=(tgB g (dC c) v).1:=by
 obtain⟨f1,f2,f3,f4,f5,f6,f7⟩:=val_facts hg;have hm:=mn_nn hd hg hv;show(if truI (decide (mnT.sem g c v port<(g.ids.length:Int)))≠0 then sat (mnT.sem g c v port+1) else (g.ids.length:Int))=_;rw[mn_sem,tgB,if_neg h0];simp only;by_cases q:mnD g (dC c) v<g.ids.length
 . rw[decide_eq_true q,if_pos (by decide),if_pos q,sat_eq (by unfold inR;omega)]
 . rw[decide_eq_false q,if_neg (by decide),if_neg q]
theorem idx_fpI {f:Int×Int->Int} {p:Int×Int->Bool}:∀{r:Lt2'} {k:Nat},(∀l∈r,f l≠0↔p l=true)->idxI k (r.map f)=fpI p k r
 | [],_,_=>rfl
 | l::r,k,h=>by
   have h1:=h l (by simp);rw[List.map_cons,idxI,fpI,idx_fpI (fun x hx=>h x (by simp[hx]))];by_cases e:p l=true
   . rw[if_pos (h1.2 e),if_pos e]
   . rw[if_neg (fun q=>e (h1.1 q)),if_neg e]
theorem p_sem (g:G) (c:Cf) (v:Nat) (h0:v≠0) (port:Int):pTm.sem g c v port=(tgB g (dC c) v).2:=by
 show idxI 0 ((List.range (gR g.ports v).length).map fun(i:Nat)=>truI (decide (gI (gC c (nbV g v i)) 0=mnT.sem g c v i)))=_;rw[tgB,if_neg h0];simp only;have e:((List.range (gR g.ports v).length).map fun(i:Nat)=>truI (decide (gI (gC c (nbV g v i)) 0=mnT.sem g c v i)))=(gR g.ports v).map fun l=>truI (decide (dC c l.1.toNat=mnD g (dC c) v)):=by
  rw[<- range_map (gR g.ports v) (fun l=>truI (decide (dC c l.1.toNat=mnD g (dC c) v)))];simp only[nbV,Int.toNat_natCast,mn_sem]
 rw[e];exact idx_fpI fun l _=>by rw[itru_ne]
def offB (g:G) (c:Cf) (v:Nat):Bool:=decide ((dC c v,pC c v)≠tgB g (dC c) v)
theorem top_sem (g:G) (c:Cf) (v:Nat):topG.sem g c v (-1)=truI (decide (v=0)&&offB g c v):=by
 show truI (decide (truI (decide (v=0))≠0/\truI (decide (truI (decide (dC c v≠0))≠0\/truI (decide (pC c v≠-1))≠0))≠0))=_;congr 1;simp only[itru_ne,decide_eq_true_eq];by_cases h0:v=0
 . rw[offB,tgB,if_pos h0];simp only[h0,true_and,decide_true,Bool.true_and];rw[decide_eq_decide];simp only[ne_eq,Prod.mk.injEq];exact(Classical.not_and_iff_not_or_not).symm
 . simp[h0]
theorem low_sem {g:G} (hg:g.valid=true) {c:Cf} (hd:∀v,v<g.ids.length->0<=dC c v) {v:Nat} (hv:v<g.ids.length):lowG.sem g c v (-1)=truI (!decide (v=0)&&offB g c v):=by
 show truI (decide (truI (decide (truI (decide (v=0))=0))≠0/\truI (decide (truI (decide (dC c v≠dTm.sem g c v (-1)))≠0\/truI (decide (pC c v≠pTm.sem g c v (-1)))≠0))≠0))=_;congr 1;simp only[itru_ne,itru_eq0,decide_eq_true_eq,decide_eq_false_iff_not];by_cases h0:v=0
 . simp[h0]
 . rw[d_sem hg hd hv h0,p_sem g c v h0,offB];simp only[h0,not_false_eq_true,true_and,decide_false,Bool.not_false,Bool.true_and];rw[decide_eq_decide];generalize tgB g (dC c) v=t;obtain⟨t1,t2⟩:=t;simp only[ne_eq,Prod.mk.injEq];exact(Classical.not_and_iff_not_or_not).symm
end Go.Proofs.YtpoplpohbpfbmaaGreatDoor
namespace Go.Plain.Clock
structure Tree (n:Nat) (par:Nat->Nat) (D:Nat->Nat) (E:Nat):Prop where
 pos:0<n
 lt:∀v,v<n->v≠0->par v<n
 dep:∀v,v<n->v≠0->D v=D (par v)+1
 root:D 0=0
 top:∀v,v<n->D v<=E
variable {n:Nat} {par:Nat->Nat} {D:Nat->Nat} {E:Nat} {x:Nat->Int} {s p:Nat->Bool}
def child (n:Nat) (par:Nat->Nat) (v c:Nat):Prop:=c<n/\c≠0/\par c=v
def dif (par:Nat->Nat) (x:Nat->Int) (v:Nat):Prop:=x v≠x (par v)
def en (n:Nat) (par:Nat->Nat) (x:Nat->Int) (v:Nat):Prop:=(∀c,child n par v c->¬ dif par x c)/\(v≠0->dif par x v)
def st (par:Nat->Nat) (s:Nat->Bool) (x:Nat->Int):Nat->Int:=fun v=>if s v=true then (if v=0 then (x 0+1) % 4 else x (par v)) else x v
def df (par:Nat->Nat) (x:Nat->Int) (v:Nat):Int:=(x (par v)-x v) % 4
def bad (par:Nat->Nat) (x:Nat->Int) (v:Nat):Prop:=1<df par x v
structure Ch (n:Nat) (par:Nat->Nat) (x:Nat->Int) (s:Nat->Bool):Prop where
 en:∀v,s v=true->v<n/\en n par x v
theorem bad_dif {v:Nat} (h:bad par x v):dif par x v:=fun e=>by
 rw[bad,df,e,Int.sub_self,Int.zero_emod] at h;omega
theorem par_rests (hc:Ch n par x s) {v:Nat} (hv:v<n) (h0:v≠0) (hd:dif par x v):s (par v)=false:=by
 cases e:s (par v) with
 | false=>rfl
 | true=>exact((hc.en _ e).2.1 v ⟨hv,h0,rfl⟩ hd).elim
theorem keep (hc:Ch n par x s) {v:Nat} (hv:v<n) (h0:v≠0) (hd:dif par x v) (hs:s v=false):dif par (st par s x) v:=by
 rw[dif,st,st,par_rests hc hv h0 hd,hs];exact hd
theorem fall (hc:Ch n par x s) {v:Nat} (h0:v≠0) (hd:¬ dif par x v) (hp:s (par v)=false):¬ dif par (st par s x) v:=by
 have hs:s v=false:=by
  cases e:s v with
  | false=>rfl
  | true=>exact(hd ((hc.en v e).2.2 h0)).elim
 rw[dif,st,st,hp,hs];exact hd
theorem moved (hc:Ch n par x s) {v:Nat} (hv:v<n) (h0:v≠0) (hs:s v=true):¬ dif par (st par s x) v:=by
 have hd:=(hc.en v hs).2.2 h0;rw[dif,st,st,par_rests hc hv h0 hd,if_pos hs,if_neg h0];simp
def Cert (n:Nat) (par:Nat->Nat) (x:Nat->Int) (p:Nat->Bool):Nat->Nat->Prop
 | 0,_=>False
 | 1,v=>p v=true/\∀c,child n par v c->¬ dif par x c
 | j+2,v=>∀c,child n par v c->dif par x c->Cert n par x p (j+1) c
theorem Cert.step (hT:Tree n par D E) (hc:Ch n par x s) {p':Nat->Bool} (hp:∀v,v<n->p v=true->s v=false->en n par (st par s x) v->p' v=true) :
 ∀(j v:Nat),v<n->v≠0->dif par x v->s v=false->Cert n par x p j v->Cert n par (st par s x) p' j v
 | 0,_,_,_,_,_,h=>h
 | 1,v,hv,h0,hd,hs,h=>by
   have hch:∀c,child n par v c->¬ dif par (st par s x) c:=fun c hcc=>fall hc hcc.2.1 (h.2 c hcc) (by rw[hcc.2.2];exact hs);exact⟨hp v hv h.1 hs ⟨hch,fun _=>keep hc hv h0 hd hs⟩,hch⟩
 | j+2,v,hv,h0,hd,hs,h=>by
   intro c hcc hdc;have hd0:dif par x c:=Classical.byContradiction fun q=>fall hc hcc.2.1 q (by rw[hcc.2.2];exact hs) hdc;have hsc:s c=false:=by
    cases e:s c with
    | false=>rfl
    | true=>exact(moved hc hcc.1 hcc.2.1 e hdc).elim
   exact Cert.step hT hc hp (j+1) c hcc.1 hcc.2.1 hd0 hsc (h c hcc hd0)
theorem Cert.round {q:Nat->Bool} (hz:∀v,v<n->p v=false) (hq:∀v,v<n->en n par x v->q v=true):∀(j v:Nat),v<n->v≠0->dif par x v->Cert n par x p (j+1) v->Cert n par x q j v
 | 0,v,hv,_,_,h=>by have:=h.1;rw[hz v hv] at this;cases this
 | 1,v,hv,h0,hd,h=>by
   have hch:∀c,child n par v c->¬ dif par x c:=fun c hcc hdc=>by
    have:=(h c hcc hdc).1;rw[hz c hcc.1] at this;cases this
   exact⟨hq v hv ⟨hch,fun _=>hd⟩,hch⟩
 | j+2,v,hv,h0,hd,h=>fun c hcc hdc=>Cert.round hz hq (j+1) c hcc.1 hcc.2.1 hdc (h c hcc hdc)
theorem Cert.start (hT:Tree n par D E) (hq:∀v,v<n->en n par x v->p v=true):∀(j v:Nat),v<n->v≠0->dif par x v->D v+j=E+1->Cert n par x p j v
 | 0,v,hv,_,_,h=>by have:=hT.top v hv;omega
 | 1,v,hv,h0,hd,h=>by
   have hch:∀c,child n par v c->¬ dif par x c:=fun c hcc _=>by
    have h1:=hT.dep c hcc.1 hcc.2.1;have h2:=hT.top c hcc.1;rw[hcc.2.2] at h1;omega
   exact⟨hq v hv ⟨hch,fun _=>hd⟩,hch⟩
 | j+2,v,hv,h0,hd,h=>fun c hcc hdc=>Cert.start hT hq (j+1) c hcc.1 hcc.2.1 hdc (by
   have h1:=hT.dep c hcc.1 hcc.2.1;rw[hcc.2.2] at h1;omega)
theorem bad_back (hT:Tree n par D E) (hc:Ch n par x s) (hx:∀v,v<n->0<=x v/\x v<=3) {v:Nat} (hv:v<n) (h0:v≠0) (hb:bad par (st par s x) v):(bad par x v/\s v=false)\/(par v≠0/\bad par x (par v)):=by
 have hd:=bad_dif hb;have hs:s v=false:=by
  cases e:s v with
  | false=>rfl
  | true=>exact(moved hc hv h0 e hd).elim
 cases e:s (par v) with
 | false =>
   left;rw[bad,df,st,st,e,hs] at hb;exact⟨hb,hs⟩
 | true =>
   have hpn:=hT.lt v hv h0;have hxe:x v=x (par v):=Classical.byContradiction fun q=>(hc.en _ e).2.1 v ⟨hv,h0,rfl⟩ q;simp only[bad,df,st,e,hs,if_true,Bool.false_eq_true,if_false] at hb;by_cases q:par v=0
   . exfalso;rw[if_pos q,hxe,q] at hb;have:=hx 0 hT.pos;omega
   . right;rw[if_neg q,hxe] at hb;exact⟨q,hb⟩
def tri:Nat->Nat
 | 0=>0
 | k+1=>tri k+k
structure Lev (n:Nat) (par:Nat->Nat) (D:Nat->Nat) (E:Nat) (x:Nat->Int) (p:Nat->Bool) (R r:Nat) (i j:Nat):Prop where
 i1:1<=i
 j1:1<=j
 up:∀v,v<n->v≠0->D v<i->¬ bad par x v
 at_:∀v,v<n->v≠0->D v=i->bad par x v->Cert n par x p j v
 ij:i+j<=E+1
 bud:r+tri (E+1-i)+j<=R+tri (E+1)
theorem dep_pos (hT:Tree n par D E) {v:Nat} (hv:v<n) (h0:v≠0):1<=D v:=by have:=hT.dep v hv h0;omega
theorem Lev.start (hT:Tree n par D E) (hE:1<=E) (hq:∀v,v<n->en n par x v->p v=true) {R r:Nat} (hr:r<=R):Lev n par D E x p R r 1 E :=
 ⟨Nat.le_refl _,hE,fun v hv h0 h=>by have:=dep_pos hT hv h0;omega,fun v hv h0 h hb=>Cert.start hT hq E v hv h0 (bad_dif hb) (by omega),by omega,by
   rw[show E+1-1=E by omega,tri];omega⟩
theorem Lev.step (hT:Tree n par D E) (hc:Ch n par x s) (hx:∀v,v<n->0<=x v/\x v<=3) {p':Nat->Bool} {R r i j:Nat} (h:Lev n par D E x p R r i j)
 (hp:∀v,v<n->p v=true->s v=false->en n par (st par s x) v->p' v=true):Lev n par D E (st par s x) p' R r i j:=by
 refine⟨h.i1,h.j1,fun v hv h0 hi hb=>?_,fun v hv h0 hi hb=>?_,h.ij,h.bud⟩
 . rcases bad_back hT hc hx hv h0 hb with ⟨q,_⟩ | ⟨q1,q2⟩
   . exact h.up v hv h0 hi q
   . exact h.up (par v) (hT.lt v hv h0) q1 (by have:=hT.dep v hv h0;omega) q2
 . rcases bad_back hT hc hx hv h0 hb with ⟨q,q2⟩ | ⟨q1,q2⟩
   . exact Cert.step hT hc hp j v hv h0 (bad_dif q) q2 (h.at_ v hv h0 hi q)
   . exact(h.up (par v) (hT.lt v hv h0) q1 (by have:=hT.dep v hv h0;omega) q2).elim
theorem Lev.round (hT:Tree n par D E) {q:Nat->Bool} {R r i j:Nat} (h:Lev n par D E x p R r i j) (hz:∀v,v<n->p v=false) (hq:∀v,v<n->en n par x v->q v=true) (hb:∃v,v<n/\v≠0/\bad par x v) :
 ∃i' j',Lev n par D E x q R (r+1) i' j':=by
 by_cases h1:j=1
 . subst h1;have no:∀v,v<n->v≠0->D v<i+1->¬ bad par x v:=fun v hv h0 hi hbv=>by
    by_cases e:D v=i
    . have:=(h.at_ v hv h0 e hbv).1;rw[hz v hv] at this;cases this
    . exact h.up v hv h0 (by omega) hbv
   obtain⟨v,hv,h0,hbv⟩:=hb;have hiE:i+1<=E:=by
    have:=hT.top v hv;apply Classical.byContradiction;intro hne;exact no v hv h0 (by omega) hbv
   have hbud:=h.bud;refine⟨i+1,E-i,by omega,by omega,no,fun v hv h0 hi hbv=>Cert.start hT hq (E-i) v hv h0 (bad_dif hbv) (by omega),by omega,?_⟩;have e:E+1-i=(E+1-(i+1))+1:=by omega
   rw[e,tri] at hbud;omega
 . have hj:=h.j1;obtain⟨k,rfl⟩:∃k,j=k+1:=⟨j-1,by omega⟩;have hbud:=h.bud;have hij:=h.ij;exact⟨i,k,h.i1,by omega,h.up,fun v hv h0 hi hbv=>Cert.round hz hq k v hv h0 (bad_dif hbv) (h.at_ v hv h0 hi hbv),by omega,by omega⟩
end Go.Plain.Clock
namespace Go.Proofs.YtpoplpohbpfbmaaGreatDoor
open Go.Eng
set_option maxRecDepth 100000
set_option linter.unusedVariables false
theorem treeB_tk (g:G) (c:Cf):treeB g (tkC c)=treeB g c:=by
 rw[Bool.eq_iff_iff,treeB_iff,treeB_iff,tkC_len];refine⟨fun h v hv=>?_,fun h v hv=>?_⟩
 . have:=h v hv
   rwa[tkC_row,gI_take2 _ 0 (by omega),gI_take2 _ 1 (by omega)] at this
 . rw[tkC_row,gI_take2 _ 0 (by omega),gI_take2 _ 1 (by omega)];exact h v hv
theorem csmall_tk {c:Cf} (h:CSmall c):CSmall (tkC c):=by
 refine⟨by rw[tkC_len];exact h.len,fun r hr=>?_⟩;obtain⟨a,ha,rfl⟩:=List.mem_map.1 hr;have:=h.rows a ha;rw[List.length_take];omega
end Go.Proofs.YtpoplpohbpfbmaaGreatDoor
namespace Go.Proofs.YtpoplpohbpfbmaaGreatDoor
open Go.Eng
set_option maxRecDepth 100000
set_option linter.unusedVariables false
theorem fpI_hit {p:Int×Int->Bool}:∀{l:Lt2'} {k:Nat},fpI p k l≠-1->∃i,i<l.length/\fpI p k l=((k+i:Nat):Int)/\p (gF l i)=true
 | [],_,h=>(h rfl).elim
 | a::r,k,h=>by
   rw[fpI] at h ⊢;by_cases e:p a=true
   . rw[if_pos e];exact⟨0,by simp,rfl,e⟩
   . rw[if_neg e] at h ⊢;obtain⟨i,h1,h2,h3⟩:=fpI_hit h;exact⟨i+1,by simp;omega,by rw[h2];congr 1;omega,by simpa[gF] using h3⟩
theorem ptoI_hit {b:Int}:∀{l:Lt2'} {k:Nat},(∃a∈l,a.1=b)->∃i,i<l.length/\ptoI k l b=((k+i:Nat):Int)/\(gF l i).1=b
 | [],_,h=>by simp at h
 | a::r,k,h=>by
   rw[ptoI];by_cases e:a.1=b
   . rw[if_pos e];exact⟨0,by simp,rfl,e⟩
   . rw[if_neg e];obtain⟨x,hx,ex⟩:=h;rcases List.mem_cons.1 hx with q|q
     . rw[q] at ex;exact(e ex).elim
     . obtain⟨i,h1,h2,h3⟩:=ptoI_hit (k:=k+1) ⟨x,q,ex⟩;exact⟨i+1,by simp;omega,by rw[h2];congr 1;omega,by simpa[gF] using h3⟩
theorem gF_inj {r:Lt2'} (h:(r.map (·.1)).Nodup) {i j:Nat} (hi:i<r.length) (hj:j<r.length) (e:(gF r i).1=(gF r j).1):i=j:=by
 have h1:(r.map (·.1))[i]'(by simpa using hi)=(r.map (·.1))[j]'(by simpa using hj):=by simpa[gF,List.getD,hi,hj] using e
 have hp:=List.pairwise_iff_getElem.1 h;rcases Nat.lt_trichotomy i j with q|q|q
 . exact(hp i j (by simpa using hi) (by simpa using hj) q h1).elim
 . exact q
 . exact(hp j i (by simpa using hj) (by simpa using hi) q h1.symm).elim
theorem maxL_mem:∀{l:List Int} {a:Int} (m:Int),a∈l->a<=maxL l m
 | [],_,_,h=>by simp at h
 | x::r,a,m,h=>by
   rw[maxL];rcases List.mem_cons.1 h with e|e
   . subst e;refine Int.le_trans ?_ (maxL_ge r _);split<;>omega
   . exact maxL_mem _ e
def parI (g:G) (v:Nat):Nat:=(gF (gR g.ports v) (upI g v).toNat).1.toNat
structure UpAt (g:G) (v:Nat) (i:Nat):Prop where
 lt:i<(gR g.ports v).length
 up:upI g v=(i:Int)
 par:(gF (gR g.ports v) i).1=((parI g v:Nat):Int)
 rng:parI g v<g.ids.length
 dep:Dg g v=Dg g (parI g v)+1
theorem up_at {g:G} (h:g.conn=true) {v:Nat} (hv:v<g.ids.length) (h0:v≠0):∃i,UpAt g v i:=by
 obtain⟨h1,h2⟩:=conn_facts h;obtain⟨f1,f2,f3,f4,f5,f6,f7⟩:=val_facts h1;obtain⟨u1,u2⟩:=up_other h (by omega) h0;obtain⟨i,hi,e,hp⟩:=fpI_hit (p:=nearB g v) (l:=gR g.ports v) (k:=0) (by rw[upI] at u1;omega);rw[Nat.zero_add] at e;have e:upI g v=(i:Int):=e;have hok:=(okR_iff.1 (f6 v (by omega))).1 _ (gF_mem hi);have ep:parI g v=(gF (gR g.ports v) i).1.toNat:=by rw[parI,e,Int.toNat_natCast]
 rw[nearB,decide_eq_true_eq] at hp;have d1:=dg_int h hv;have d2:=dg_int h (v:=(gF (gR g.ports v) i).1.toNat) (by omega);exact⟨i,hi,e,by rw[ep];omega,by rw[ep];omega,by rw[ep];omega⟩
theorem treeC {g:G} (h:g.conn=true):Go.Plain.Clock.Tree g.ids.length (parI g) (Dg g) g.ecc.toNat:=by
 obtain⟨h1,h2⟩:=conn_facts h;obtain⟨f1,f2,f3,f4,f5,f6,f7⟩:=val_facts h1;refine⟨by omega,fun v hv h0=>?_,fun v hv h0=>?_,((netB h).root 0 (by omega)).2 rfl,fun v hv=>?_⟩
 . obtain⟨i,hu⟩:=up_at h hv h0;exact hu.rng
 . obtain⟨i,hu⟩:=up_at h hv h0;exact hu.dep
 . have d1:=dg_int h hv;have e:g.ecc=maxL (dst g 0) (-1):=by rw[G.ecc,if_pos h]
   have hm:gI (dst g 0) v<=maxL (dst g 0) (-1):=maxL_mem _ (gI_mem (by rw[dst_len];omega));omega
theorem par_adj {g:G} (h:g.conn=true) {v:Nat} (hv:v<g.ids.length) (h0:v≠0):adN g v (parI g v)=true:=by
 obtain⟨i,hu⟩:=up_at h hv h0;exact adj_iff.2 ⟨_,gF_mem hu.lt,by rw[hu.par,Int.toNat_natCast]⟩
theorem back_iff {g:G} (h:g.conn=true) {v:Nat} (hv:v<g.ids.length) {i:Nat} (hi:i<(gR g.ports v).length):upI g (nbV g v i)=backI g v i↔nbV g v i≠0/\parI g (nbV g v i)=v:=by
 obtain⟨h1,h2⟩:=conn_facts h;obtain⟨f1,f2,f3,f4,f5,f6,f7⟩:=val_facts h1;have hok:=(okR_iff.1 (f6 v (by omega))).1 _ (gF_mem hi);have eu:nbV g v i=(gF (gR g.ports v) i).1.toNat:=by simp[nbV]
 have hun:nbV g v i<g.ids.length:=by omega
 have hback:=f7 v (by omega) _ (gF_mem hi);rw[<- eu] at hback;have eb:backI g v i=ptoI 0 (gR g.ports (nbV g v i)) v:=by rw[backI,eu]
 generalize nbV g v i=u at *;obtain⟨b,hb,e,ev⟩:=ptoI_hit (k:=0) (b:=(v:Int)) ⟨_,hback,rfl⟩;rw[Nat.zero_add] at e;rw[eb,e];constructor
 . intro q;have h0:u≠0:=fun e0=>by rw[e0,up_root h] at q;omega
   exact⟨h0,by rw[parI,q,Int.toNat_natCast,ev,Int.toNat_natCast]⟩
 . rintro⟨h0,q⟩;obtain⟨j,hu⟩:=up_at h hun h0;have hj:=hu.par;rw[q] at hj;rw[hu.up,gF_inj (okR_iff.1 (f6 u (by omega))).2 hu.lt hb (hj.trans ev.symm)]
def TrC (g:G) (c:Cf):Prop:=∀v,v<g.ids.length->dC c v=((Dg g v:Nat):Int)/\pC c v=upI g v
theorem cnt_all_iff (l:List Int):cntI l=l.length↔∀a∈l,a≠0:=by
 rw[cntI,List.countP_eq_length];simp only[decide_eq_true_eq]
end Go.Proofs.YtpoplpohbpfbmaaGreatDoor
namespace Go.Plain.Wave
open Go.Plain.Clock
variable {n:Nat} {par:Nat->Nat} {D:Nat->Nat} {E:Nat} {s b s' b' m p:Nat->Bool}
def ord (par:Nat->Nat) (s b:Nat->Bool) (v:Nat):Prop:=s (par v)=true\/(s v=s (par v)/\b v=b (par v))
def tk (par:Nat->Nat) (s b:Nat->Bool) (v:Nat):Prop:=b (par v)≠b v\/(s v=true/\s (par v)=false)
def fin (n:Nat) (par:Nat->Nat) (s b:Nat->Bool) (v:Nat):Prop:=s v=true/\∀u,child n par v u->s u=false/\b u=b v
def en (n:Nat) (par:Nat->Nat) (s b:Nat->Bool) (v:Nat):Prop:=if v=0 then s 0=false\/fin n par s b 0 else tk par s b v\/fin n par s b v
structure Ch (n:Nat) (par:Nat->Nat) (s b m s' b':Nat->Bool):Prop where
 lt:∀v,m v=true->v<n
 rest:∀v,v<n->m v=false->s' v=s v/\b' v=b v
 root:m 0=true->(s 0=false/\s' 0=true/\b' 0=!b 0)\/(fin n par s b 0/\s' 0=false/\b' 0=b 0)
 oth:∀v,m v=true->v≠0->(tk par s b v/\s' v=s (par v)/\b' v=b (par v))\/(¬ tk par s b v/\fin n par s b v/\s' v=false/\b' v=b v)
theorem not_ord {v:Nat} (h:¬ ord par s b v):tk par s b v:=by
 rw[ord,not_or] at h;rw[tk];revert h;generalize s (par v)=a;generalize b (par v)=c;cases a<;>cases c<;>cases s v<;>cases b v<;>simp
theorem ord_step (hT:Tree n par D E) (hc:Ch n par s b m s' b') {v:Nat} (hv:v<n) (h0:v≠0) (hu:par v≠0->ord par s b (par v)) (h:ord par s b v\/m v=true):ord par s' b' v:=by
 have hun:=hT.lt v hv h0;have hch:child n par (par v) v:=⟨hv,h0,rfl⟩
 -- the parent finishes: the child is as it,and rests
 have hfin:fin n par s b (par v)->s' (par v)=false->b' (par v)=b (par v)->ord par s' b' v:=fun hf e1 e2=>by
  obtain⟨c1,c2⟩:=hf.2 v hch;have hm:m v=false:=by
   cases e:m v with
   | false=>rfl
   | true =>
     rcases hc.oth v e h0 with ⟨q,_⟩ | ⟨_,q,_⟩
     . rcases q with q|q
       . exact(q c2.symm).elim
       . rw[c1] at q;exact(Bool.noConfusion q.1)
     . rw[fin,c1] at q;exact(Bool.noConfusion q.1)
  obtain⟨r1,r2⟩:=hc.rest v hv hm;exact .inr ⟨by rw[r1,c1,e1],by rw[r2,c2,e2]⟩
 cases em:m (par v) with
 | false =>
   obtain⟨r1,r2⟩:=hc.rest _ hun em;cases ev:m v with
   | false =>
     obtain⟨q1,q2⟩:=hc.rest v hv ev;rcases h with h|h
     . rw[ord,r1,r2,q1,q2];exact h
     . rw[ev] at h;cases h
   | true =>
     rcases hc.oth v ev h0 with ⟨_,q1,q2⟩ | ⟨q0,qf,_⟩
     . exact .inr ⟨by rw[q1,r1],by rw[q2,r2]⟩
     . left;rw[r1];cases e:s (par v) with
       | true=>rfl
       | false=>exact(q0 (.inr ⟨qf.1,e⟩)).elim
 | true =>
   by_cases e0:par v=0
   . rw[e0] at em hfin;rcases hc.root em with ⟨_,q,_⟩ | ⟨q,q1,q2⟩
     . left;rw[e0];exact q
     . exact hfin q q1 q2
   . rcases hc.oth _ em e0 with ⟨q,q1,_⟩ | ⟨_,q,q1,q2⟩
     . left;rw[q1];cases e:s (par (par v)) with
       | true=>rfl
       | false =>
         rcases hu e0 with hx | ⟨x1,x2⟩
         . rw[e] at hx;cases hx
         . rcases q with q|q
           . exact(q x2.symm).elim
           . rw[x1,e] at q;exact(Bool.noConfusion q.1)
     . exact hfin q q1 q2
def okUp (n:Nat) (par:Nat->Nat) (D:Nat->Nat) (s b:Nat->Bool) (k:Nat):Prop:=∀v,v<n->v≠0->D v<=k->ord par s b v
theorem okUp.step (hT:Tree n par D E) (hc:Ch n par s b m s' b') {k:Nat} (h:okUp n par D s b k):okUp n par D s' b' k:=fun v hv h0 hd =>
 ord_step hT hc hv h0 (fun e=>h _ (hT.lt v hv h0) e (by have:=hT.dep v hv h0;omega)) (.inl (h v hv h0 hd))
structure Lev (n:Nat) (par:Nat->Nat) (D:Nat->Nat) (s b p:Nat->Bool) (j:Nat):Prop where
 ok:okUp n par D s b j
 pend:∀v,v<n->v≠0->D v=j+1->¬ ord par s b v->p v=true
theorem not_en {v:Nat} (h0:v≠0) (h:¬ ord par s b v):en n par s b v:=by rw[en,if_neg h0];exact .inl (not_ord h)
theorem Lev.start (hT:Tree n par D E) (hp:∀v,v<n->en n par s b v->p v=true):Lev n par D s b p 0 :=
 ⟨fun v hv h0 hd=>by have:=hT.dep v hv h0;omega,fun v hv h0 _ ho=>hp v hv (not_en h0 ho)⟩
theorem Lev.step (hT:Tree n par D E) (hc:Ch n par s b m s' b') {j:Nat} (h:Lev n par D s b p j) {p':Nat->Bool} (hp:∀v,v<n->p v=true->m v=false->en n par s' b' v->p' v=true):Lev n par D s' b' p' j :=
 ⟨h.ok.step hT hc,fun v hv h0 hd ho=>by
   have key:=fun q=>ord_step hT hc hv h0 (fun e=>h.ok _ (hT.lt v hv h0) e (by have:=hT.dep v hv h0;omega)) q;refine hp v hv (h.pend v hv h0 hd fun q=>ho (key (.inl q))) ?_ (not_en h0 ho);cases e:m v with
   | false=>rfl
   | true=>exact(ho (key (.inr e))).elim⟩
theorem Lev.round {j:Nat} (h:Lev n par D s b p j) (hz:∀v,v<n->p v=false) {q:Nat->Bool} (hq:∀v,v<n->en n par s b v->q v=true):Lev n par D s b q (j+1) :=
 ⟨fun v hv h0 hd=>by
   by_cases e:D v=j+1
   . exact Classical.byContradiction fun ho=>by have:=h.pend v hv h0 e ho;rw[hz v hv] at this;cases this
   . exact h.ok v hv h0 (by omega),fun v hv h0 _ ho=>hq v hv (not_en h0 ho)⟩
end Go.Plain.Wave
namespace Go.Proofs.YtpoplpohbpfbmaaGreatDoor
open Go.Eng
set_option maxRecDepth 100000
set_option linter.unusedVariables false
def qpT:Tm:=.bin 35 (.leaf 11 0) (.leaf 5 1)
def takeC:Tm:=.bin 42 (.bin 36 (.leaf 12 3) (.leaf 5 3)) (.bin 41 (.leaf 5 2) (.un 19 (.leaf 12 2)))
def begG:Tm:=.bin 41 (.leaf 10 0) (.un 19 (.leaf 5 2))
def takeG:Tm:=.bin 41 (.un 19 (.leaf 10 0)) (.agg 21 (.bin 41 qpT takeC))
def finC:Tm:=.bin 41 (.un 19 (.leaf 12 2)) (.bin 35 (.leaf 12 3) (.leaf 5 3))
def finG:Tm:=.bin 41 (.leaf 5 2) (.agg 20 (.bin 42 (.bin 36 (.leaf 12 1) (.leaf 17 0)) finC))
def takeT (x:Int):Tm:=.agg 21 (.bin 41 qpT (.leaf 12 x))
def vWv:List Vr:=[⟨ByteArray.mk #[100],1,0,0,1,0⟩,⟨ByteArray.mk #[112],3,0,0,0,0⟩,⟨ByteArray.mk #[115],2,0,0,0,0⟩,⟨ByteArray.mk #[98],2,0,0,0,0⟩]
def pWav:Pr:=⟨ByteArray.mk #[119,97,118,101],vWv,[⟨ByteArray.mk #[116,111,112],topG,[(0,.leaf 1 0),(1,.leaf 4 0)]⟩,
 ⟨ByteArray.mk #[108,111,119],lowG,[(0,dTm),(1,pTm)]⟩,
 ⟨ByteArray.mk #[98,101,103,105,110],begG,[(2,.leaf 2 0),(3,.un 19 (.leaf 5 3))]⟩,
 ⟨ByteArray.mk #[116,97,107,101],takeG,[(2,takeT 2),(3,takeT 3)]⟩,
 ⟨ByteArray.mk #[102,105,110,105,115,104],finG,[(2,.leaf 3 0)]⟩]⟩
abbrev sW (c:Cf) (v:Nat):Bool:=one c 2 v
abbrev bW (c:Cf) (v:Nat):Bool:=one c 3 v
theorem wav_rng {g:G} {c:Cf} (h:Conf pWav g c) {v:Nat} (hv:v<g.ids.length):(gC c v).length=4/\0<=dC c v/\dC c v<=g.ids.length/\-1<=pC c v/\pC c v<=((gR g.ports v).length:Int)-1/\(0<=gI (gC c v) 2/\gI (gC c v) 2<=1)/\0<=gI (gC c v) 3/\gI (gC c v) 3<=1:=by
 have hl:v<c.length:=by rw[h.len];exact hv
 have h0:=h.val v hl 0 (by decide);have h1:=h.val v hl 1 (by decide);have h2:=h.val v hl 2 (by decide);have h3:=h.val v hl 3 (by decide);have e0:bnd g (gV pWav.vars 0) v=(0,0+1*(g.ids.length:Int)+0*topI g):=rfl;have e1:bnd g (gV pWav.vars 1) v=(-1,((gR g.ports v).length:Int)-1):=rfl;have e2:bnd g (gV pWav.vars 2) v=(0,1):=rfl;have e3:bnd g (gV pWav.vars 3) v=(0,1):=rfl;rw[e0] at h0;rw[e1] at h1;rw[e2] at h2;rw[e3] at h3;obtain⟨a1,a2⟩:=h0;obtain⟨b1,b2⟩:=h1;simp only at a1 a2 b1 b2;exact⟨h.row v hl,a1,by show gI (gC c v) 0<=_;omega,b1,b2,h2,h3⟩
theorem wav_bool {g:G} {c:Cf} (h:Conf pWav g c):isBool c g.ids.length 2/\isBool c g.ids.length 3 :=
 ⟨fun v hv=>by obtain⟨_,_,_,_,_,h2,_⟩:=wav_rng h hv;omega,fun v hv=>by obtain⟨_,_,_,_,_,_,h3⟩:=wav_rng h hv;omega⟩
theorem wav_nn {g:G} {c:Cf} (hc:Conf pWav g c):∀v,v<g.ids.length->0<=dC c v:=fun v hv=>(wav_rng hc hv).2.1
theorem nb_lt' {g:G} (hg:g.valid=true) {v:Nat} (hv:v<g.ids.length) {i:Nat} (hi:i<(gR g.ports v).length):nbV g v (i:Nat)<g.ids.length:=by
 obtain⟨f1,f2,f3,f4,f5,f6,f7⟩:=val_facts hg;have hok:=(okR_iff.1 (f6 v (by omega))).1 _ (gF_mem hi);have eu:nbV g v i=(gF (gR g.ports v) i).1.toNat:=by simp[nbV]
 omega
theorem cnt_port {g:G} {c:Cf} {v j:Nat} (hj:j<(gR g.ports v).length) (hp:gI (gC c v) 1=(j:Int)) (f:Int->Int) :
 (0<cntI ((List.range (gR g.ports v).length).map fun(i:Nat)=>truI (decide (truI (decide (((i:Nat):Int)=gI (gC c v) 1))≠0/\f ((i:Nat):Int)≠0))))↔f (j:Int)≠0:=by
 rw[cnt_pos_iff];simp only[List.mem_map,List.mem_range];constructor
 . rintro⟨a,⟨i,hi,rfl⟩,ha⟩;rw[itru_ne,decide_eq_true_eq,itru_ne,decide_eq_true_eq,hp] at ha;have:i=j:=by omega
   subst this;exact ha.2
 . intro hne;refine⟨_,⟨j,hj,rfl⟩,?_⟩;rw[itru_ne,decide_eq_true_eq,itru_ne,decide_eq_true_eq];exact⟨hp.symm,hne⟩
theorem pt_sem {g:G} (h:g.conn=true) {c:Cf} (ht:TrC g c) {v:Nat} (hv:v<g.ids.length) (h0:v≠0) (t:Tm) (port:Int) :
 ∃j:Nat,j<(gR g.ports v).length/\nbV g v (j:Int)=parI g v/\((Tm.agg 21 (.bin 41 qpT t)).sem g c v port=truI (decide (t.sem g c v (j:Int)≠0))):=by
 obtain⟨j,hu⟩:=up_at h hv h0;have hp:=(ht v hv).2;have hp':gI (gC c v) 1=(j:Int):=by rw[<- hu.up];exact hp
 refine⟨j,hu.lt,by simp only[nbV,Int.toNat_natCast];rw[hu.par];simp,?_⟩;show truI (decide (0<cntI ((List.range (gR g.ports v).length).map fun(i:Nat)=>truI (decide (truI (decide (((i:Nat):Int)=gI (gC c v) 1))≠0/\t.sem g c v ((i:Nat):Int)≠0)))))=_;congr 1;rw[decide_eq_decide];exact cnt_port hu.lt hp' fun i=>t.sem g c v i
theorem takeT_sem {g:G} (h:g.conn=true) {c:Cf} (hc:Conf pWav g c) (ht:TrC g c) {v:Nat} (hv:v<g.ids.length) (h0:v≠0) (x:Nat) (hx:isBool c g.ids.length x) (port:Int) :
 (takeT (x:Nat)).sem g c v port=truI (one c x (parI g v)):=by
 obtain⟨j,hj,e,q⟩:=pt_sem h ht hv h0 (.leaf 12 (x:Nat)) port;rw[takeT,q];have e2:(Tm.leaf 12 ((x:Nat):Int)).sem g c v (j:Int)=gI (gC c (nbV g v (j:Int))) x:=rfl;rw[e2,e,one];congr 1;rw[decide_eq_decide];have:=hx (parI g v) ((treeC h).lt v hv h0);omega
open Classical in
theorem take_sem {g:G} (h:g.conn=true) {c:Cf} (hc:Conf pWav g c) (ht:TrC g c) {v:Nat} (hv:v<g.ids.length) :
 takeG.sem g c v (-1)≠0↔v≠0/\Go.Plain.Wave.tk (parI g) (sW c) (bW c) v:=by
 show truI (decide (truI (decide (truI (decide (v=0))=0))≠0/\(Tm.agg 21 (.bin 41 qpT takeC)).sem g c v (-1)≠0))≠0↔_;simp only[itru_ne,itru_eq0,decide_eq_true_eq,decide_eq_false_iff_not];by_cases h0:v=0
 . exact⟨fun q=>(q.1 h0).elim,fun q=>(q.1 h0).elim⟩
 . obtain⟨j,hj,e,q⟩:=pt_sem h ht hv h0 takeC (-1);have hun:=(treeC h).lt v hv h0;have b2:=(wav_bool hc).1;have b3:=(wav_bool hc).2;rw[q,itru_ne,decide_eq_true_eq];have e2:takeC.sem g c v (j:Int)≠0↔Go.Plain.Wave.tk (parI g) (sW c) (bW c) v:=by
    show truI (decide (truI (decide (gI (gC c (nbV g v (j:Int))) 3≠gI (gC c v) 3))≠0\/truI (decide (gI (gC c v) 2≠0/\truI (decide (gI (gC c (nbV g v (j:Int))) 2=0))≠0))≠0))≠0↔one c 3 (parI g v)≠one c 3 v\/(one c 2 v=true/\one c 2 (parI g v)=false);rw[e,one_tru b3 hun,one_tru b3 hv,one_tru b2 hun,one_tru b2 hv];simp only[itru_ne,itru_eq0,decide_eq_true_eq];cases one c 3 (parI g v)<;>cases one c 3 v<;>cases one c 2 (parI g v)<;>cases one c 2 v<;>simp[truI]
   rw[e2]
open Classical in
theorem fin_sem {g:G} (h:g.conn=true) {c:Cf} (hc:Conf pWav g c) (ht:TrC g c) {v:Nat} (hv:v<g.ids.length) :
 finG.sem g c v (-1)≠0↔Go.Plain.Wave.fin g.ids.length (parI g) (sW c) (bW c) v:=by
 obtain⟨h1,h2⟩:=conn_facts h;obtain⟨f1,f2,f3,f4,f5,f6,f7⟩:=val_facts h1;have b2:=(wav_bool hc).1;have b3:=(wav_bool hc).2;show truI (decide (gI (gC c v) 2≠0/\truI (decide (cntI ((List.range (gR g.ports v).length).map fun(i:Nat)=>truI (decide (truI (decide (gI (gC c (nbV g v (i:Nat))) 1≠backI g v ((i:Nat):Int).toNat))≠0\/finC.sem g c v ((i:Nat):Int)≠0)))=((List.range (gR g.ports v).length).map fun(i:Nat)=>truI (decide (truI (decide (gI (gC c (nbV g v (i:Nat))) 1≠backI g v ((i:Nat):Int).toNat))≠0\/finC.sem g c v ((i:Nat):Int)≠0))).length))≠0))≠0↔_;have hf:∀i:Nat,i<(gR g.ports v).length->(finC.sem g c v ((i:Nat):Int)≠0↔sW c (nbV g v (i:Nat))=false/\bW c (nbV g v (i:Nat))=bW c v):=fun i hi=>by
  have hun:=nb_lt' h1 hv hi;show truI (decide (truI (decide (gI (gC c (nbV g v (i:Nat))) 2=0))≠0/\truI (decide (gI (gC c (nbV g v (i:Nat))) 3=gI (gC c v) 3))≠0))≠0↔one c 2 (nbV g v (i:Nat))=false/\one c 3 (nbV g v (i:Nat))=one c 3 v;rw[one_tru b2 hun,one_tru b3 hun,one_tru b3 hv];simp only[itru_ne,itru_eq0,decide_eq_true_eq];cases one c 2 (nbV g v (i:Nat))<;>cases one c 3 (nbV g v (i:Nat))<;>cases one c 3 v<;>simp[truI]
 rw[itru_ne,decide_eq_true_eq,itru_ne,decide_eq_true_eq,cnt_all_iff,Go.Plain.Wave.fin];refine and_congr (by rw[one_tru b2 hv,itru_ne]) ?_;simp only[List.mem_map,List.mem_range,forall_exists_index,and_imp,forall_apply_eq_imp_iff₂,itru_ne,decide_eq_true_eq,Int.toNat_natCast];constructor
 . intro hall u hcu;obtain⟨l,hl,e⟩:=adj_iff.1 ((adj_adj h1).sym u v hcu.1 hv (by have:=par_adj h hcu.1 hcu.2.1;rw[hcu.2.2] at this;exact this));obtain⟨i,hi,e2⟩:=gF_of_mem hl;have eu:nbV g v i=u:=by simp only[nbV,Int.toNat_natCast];rw[e2];exact e
   rcases hall i hi with q|q
   . exfalso;apply q;show pC c (nbV g v i)=_;rw[(ht _ (nb_lt' h1 hv hi)).2];exact(back_iff h hv hi).2 (by rw[eu];exact hcu.2)
   . have:=(hf i hi).1 q;rw[eu] at this;exact this
 . intro hall i hi;by_cases q:gI (gC c (nbV g v i)) 1=backI g v i
   . right;have q':pC c (nbV g v i)=backI g v i:=q;rw[(ht _ (nb_lt' h1 hv hi)).2] at q';have hcu:=(back_iff h hv hi).1 q';exact(hf i hi).2 (hall _ ⟨nb_lt' h1 hv hi,hcu⟩)
   . exact .inl q
theorem beg_sem {g:G} {c:Cf} (hc:Conf pWav g c) {v:Nat} (hv:v<g.ids.length):begG.sem g c v (-1)≠0↔v=0/\sW c 0=false:=by
 have b2:=(wav_bool hc).1;show truI (decide (truI (decide (v=0))≠0/\truI (decide (gI (gC c v) 2=0))≠0))≠0↔_;rw[one_tru b2 hv];simp only[itru_ne,itru_eq0,decide_eq_true_eq];constructor
 . rintro⟨h0,h1⟩;rw[h0] at h1;exact⟨h0,h1⟩
 . rintro⟨h0,h1⟩;exact⟨h0,by rw[h0];exact h1⟩
end Go.Proofs.YtpoplpohbpfbmaaGreatDoor
namespace Go.Proofs.YtpoplpohbpfbmaaGreatDoor
open Go.Eng
set_option maxRecDepth 100000
set_option linter.unusedVariables false
def stW (c:Cf):Go.Plain.Tree.St:=⟨dC c,pC c⟩
theorem off_iffW {g:G} {c:Cf} {v:Nat}:Go.Plain.Tree.off (tgB g) (stW c) v↔offB g c v=true:=by
 rw[offB,decide_eq_true_eq];exact Iff.rfl
theorem wav_gds (g:G) (c:Cf) (v:Nat):gds pWav g c v=[topG.sem g c v (-1),lowG.sem g c v (-1),begG.sem g c v (-1),takeG.sem g c v (-1),finG.sem g c v (-1)]:=rfl
theorem wav_off {g:G} (hg:g.valid=true) {c:Cf} (hc:Conf pWav g c) {v:Nat} (hv:v<g.ids.length) (ho:offB g c v=true):ruleI pWav g c v=if v=0 then 0 else 1:=by
 rw[ruleI,wav_gds,top_sem,low_sem hg (wav_nn hc) hv,ho];by_cases h0:v=0
 . rw[decide_eq_true h0,if_pos h0];rfl
 . rw[decide_eq_false h0,if_neg h0];rfl
theorem wav_noff {g:G} (hg:g.valid=true) {c:Cf} (hc:Conf pWav g c) {v:Nat} (hv:v<g.ids.length) (ho:offB g c v=false):ruleI pWav g c v=if begG.sem g c v (-1)≠0 then 2 else if takeG.sem g c v (-1)≠0 then 3 else if finG.sem g c v (-1)≠0 then 4 else -1:=by
 rw[ruleI,wav_gds,top_sem,low_sem hg (wav_nn hc) hv,ho,Bool.and_false,Bool.and_false];rfl
theorem trW_ok {g:G} (h:g.conn=true) {c:Cf} (ht:TrC g c):Go.Plain.Tree.Ok g.ids.length (Dg g) (upI g) (stW c) g.ids.length :=
 ⟨fun v hv _=>ht v hv,fun v hv hk=>by have:=(netB h).top v hv;omega⟩
theorem okW_tr {g:G} (h:g.conn=true) {c:Cf} {k:Nat} (ho:Go.Plain.Tree.Ok g.ids.length (Dg g) (upI g) (stW c) k) (hk:∀v,v<g.ids.length->Dg g v<k):TrC g c :=
 fun v hv=>ho.low v hv (hk v hv)
theorem trW_noff {g:G} (h:g.conn=true) {c:Cf} (ht:TrC g c) {v:Nat} (hv:v<g.ids.length):offB g c v=false:=by
 have:=(trW_ok h ht).all (netB h) (ruleB h) hv (by have:=(netB h).top v hv;omega);rw[off_iffW] at this;simpa using this
abbrev enW (g:G) (c:Cf) (v:Nat):Prop:=Go.Plain.Wave.en g.ids.length (parI g) (sW c) (bW c) v
inductive Wr (g:G) (c:Cf) (v:Nat):Int->Prop
 | beg (h0:v=0) (h:sW c 0=false):Wr g c v 2
 | take (h0:v≠0) (h:Go.Plain.Wave.tk (parI g) (sW c) (bW c) v):Wr g c v 3
 | fin (h:Go.Plain.Wave.fin g.ids.length (parI g) (sW c) (bW c) v) (h1:v≠0->¬ Go.Plain.Wave.tk (parI g) (sW c) (bW c) v):Wr g c v 4
 | none (h:¬ enW g c v):Wr g c v (-1)
theorem wav_on {g:G} (h:g.conn=true) {c:Cf} (hc:Conf pWav g c) (ht:TrC g c) {v:Nat} (hv:v<g.ids.length):Wr g c v (ruleI pWav g c v):=by
 obtain⟨h1,h2⟩:=conn_facts h;rw[wav_noff h1 hc hv (trW_noff h ht hv)];by_cases q1:begG.sem g c v (-1)≠0
 . rw[if_pos q1];exact .beg ((beg_sem hc hv).1 q1).1 ((beg_sem hc hv).1 q1).2
 . rw[if_neg q1];by_cases q2:takeG.sem g c v (-1)≠0
   . rw[if_pos q2];exact .take ((take_sem h hc ht hv).1 q2).1 ((take_sem h hc ht hv).1 q2).2
   . rw[if_neg q2];have e2:v≠0->¬ Go.Plain.Wave.tk (parI g) (sW c) (bW c) v:=fun h0 q=>q2 ((take_sem h hc ht hv).2 ⟨h0,q⟩);by_cases q3:finG.sem g c v (-1)≠0
     . rw[if_pos q3];exact .fin ((fin_sem h hc ht hv).1 q3) e2
     . rw[if_neg q3];refine .none fun q=>?_;rw[enW,Go.Plain.Wave.en] at q;have e3:=fun q=>q3 ((fin_sem h hc ht hv).2 q);by_cases h0:v=0
       . rw[if_pos h0] at q;rcases q with q|q
         . exact q1 ((beg_sem hc hv).2 ⟨h0,q⟩)
         . exact e3 (by rw[h0];exact q)
       . rw[if_neg h0] at q;rcases q with q|q
         . exact e2 h0 q
         . exact e3 q
theorem wr_en {g:G} {c:Cf} {v:Nat} {r:Int} (h:Wr g c v r):0<=r↔enW g c v:=by
 rw[enW,Go.Plain.Wave.en];cases h with
 | beg h0 h=>rw[if_pos h0];exact⟨fun _=>.inl h,fun _=>by omega⟩
 | take h0 h=>rw[if_neg h0];exact⟨fun _=>.inl h,fun _=>by omega⟩
 | fin h h1 =>
   refine⟨fun _=>?_,fun _=>by omega⟩;by_cases h0:v=0
   . rw[if_pos h0];exact .inr (by rw[h0] at h;exact h)
   . rw[if_neg h0];exact .inr h
 | none h=>exact⟨fun q=>by omega,fun q=>(h q).elim⟩
theorem onW_en {g:G} (h:g.conn=true) {c:Cf} (hc:Conf pWav g c) (ht:TrC g c) {v:Nat} (hv:v<g.ids.length):(enN pWav g c).testBit v=true↔enW g c v:=by
 rw[en_bit,decide_eq_true hv,Bool.true_and,decide_eq_true_eq];exact wr_en (wav_on h hc ht hv)
theorem wv0 (g:G) (c:Cf) (v:Nat):moveL pWav g c v 0=((gC c v).set 0 (brI 1 0 (0+1*(g.ids.length:Int)+0*topI g) 0)).set 1 (brI 3 (-1) (((gR g.ports v).length:Int)-1) (-1)):=rfl
theorem wv1 (g:G) (c:Cf) (v:Nat):moveL pWav g c v 1=((gC c v).set 0 (brI 1 0 (0+1*(g.ids.length:Int)+0*topI g) (dTm.sem g c v (-1)))).set 1 (brI 3 (-1) (((gR g.ports v).length:Int)-1) (pTm.sem g c v (-1))):=rfl
theorem wv2 (g:G) (c:Cf) (v:Nat):moveL pWav g c v 2=((gC c v).set 2 (brI 2 0 1 1)).set 3 (brI 2 0 1 (truI (decide (gI (gC c v) 3=0)))):=rfl
theorem wv3 (g:G) (c:Cf) (v:Nat):moveL pWav g c v 3=((gC c v).set 2 (brI 2 0 1 ((takeT 2).sem g c v (-1)))).set 3 (brI 2 0 1 ((takeT 3).sem g c v (-1))):=rfl
theorem wv4 (g:G) (c:Cf) (v:Nat):moveL pWav g c v 4=(gC c v).set 2 (brI 2 0 1 0):=rfl
theorem brW_val {k lo hi a:Int} (h:lo<=a/\a<=hi):brI k lo hi a=a:=by rw[brI,if_pos h]
theorem brW_tru (b:Bool):brI 2 0 1 (truI b)=truI b:=brW_val (by cases b<;>simp[truI])
theorem tgB_rngW {g:G} (hg:g.valid=true) {c:Cf} (hc:Conf pWav g c) {v:Nat} (hv:v<g.ids.length) (h0:v≠0):0<=(tgB g (dC c) v).1/\(tgB g (dC c) v).1<=g.ids.length/\-1<=(tgB g (dC c) v).2/\(tgB g (dC c) v).2<=((gR g.ports v).length:Int)-1:=by
 have hm:=mn_nn (wav_nn hc) hg hv;have hf:=fpI_range (fun l=>decide (dC c l.1.toNat=mnD g (dC c) v)) (gR g.ports v) 0;rw[tgB,if_neg h0];simp only;split<;>omega
theorem wv_keep {g:G} {c:Cf} {v:Nat} (hlen:(gC c v).length=4) {r:Int} (hr:r=2\/r=3\/r=4):gI (moveL pWav g c v r.toNat) 0=dC c v/\gI (moveL pWav g c v r.toNat) 1=pC c v:=by
 rcases hr with rfl|rfl|rfl
 . rw[show(2:Int).toNat=2 from rfl,wv2,gI_stx _ _ _ _ (by rw[List.length_set];omega),if_neg (by decide),gI_stx _ _ _ _ (by omega),if_neg (by decide),gI_stx _ _ _ _ (by rw[List.length_set];omega),if_neg (by decide),gI_stx _ _ _ _ (by omega),if_neg (by decide)];exact⟨rfl,rfl⟩
 . rw[show(3:Int).toNat=3 from rfl,wv3,gI_stx _ _ _ _ (by rw[List.length_set];omega),if_neg (by decide),gI_stx _ _ _ _ (by omega),if_neg (by decide),gI_stx _ _ _ _ (by rw[List.length_set];omega),if_neg (by decide),gI_stx _ _ _ _ (by omega),if_neg (by decide)];exact⟨rfl,rfl⟩
 . rw[show(4:Int).toNat=4 from rfl,wv4,gI_stx _ _ _ _ (by omega),if_neg (by decide),gI_stx _ _ _ _ (by omega),if_neg (by decide)];exact⟨rfl,rfl⟩
theorem wav_step {g:G} (hg:g.valid=true) {c:Cf} (hc:Conf pWav g c) {s:Nat} (hs:Part s (enN pWav g c)):Go.Plain.Tree.Step g.ids.length (tgB g) (stW c) (fun v=>s.testBit v) (stW (stepC pWav g c s)):=by
 intro v hv;have hl:=hc.len;have hlen:=(wav_rng hc hv).1;have hrow:=stepC_row pWav g c s (v:=v) (by omega);refine⟨fun hb ho=>?_,fun hq=>?_⟩
 . rw[off_iffW] at ho;rw[if_pos hb,wav_off hg hc hv ho] at hrow;show(gI (gC (stepC pWav g c s) v) 0,gI (gC (stepC pWav g c s) v) 1)=tgB g (dC c) v;by_cases h0:v=0
   . rw[if_pos h0] at hrow;rw[hrow,show(0:Int).toNat=0 from rfl,wv0];rw[gI_stx _ _ _ _ (by rw[List.length_set];omega),if_neg (by decide),gI_stx _ _ _ _ (by omega),if_pos rfl,gI_stx _ _ _ _ (by rw[List.length_set];omega),if_pos rfl,tgB,if_pos h0,brW_val (by omega),brW_val (by omega)]
   . rw[if_neg h0] at hrow;obtain⟨r1,r2,r3,r4⟩:=tgB_rngW hg hc hv h0;rw[hrow,show(1:Int).toNat=1 from rfl,wv1,d_sem hg (wav_nn hc) hv h0,p_sem g c v h0];rw[gI_stx _ _ _ _ (by rw[List.length_set];omega),if_neg (by decide),gI_stx _ _ _ _ (by omega),if_pos rfl,gI_stx _ _ _ _ (by rw[List.length_set];omega),if_pos rfl,brW_val (by omega),brW_val (by omega)]
 . show gI (gC (stepC pWav g c s) v) 0=gI (gC c v) 0/\gI (gC (stepC pWav g c s) v) 1=gI (gC c v) 1;cases hb:s.testBit v with
   | false=>rw[hrow,hb];exact⟨rfl,rfl⟩
   | true =>
     have ho:offB g c v=false:=by
      rcases hq with q|q
      . exact absurd (hb.symm.trans q) (by simp)
      . rw[off_iffW] at q;simpa using q
     have hen:=hs v hb;rw[en_bit,Bool.and_eq_true,decide_eq_true_eq,decide_eq_true_eq] at hen;have hr:=wav_noff hg hc hv ho;rw[if_pos hb] at hrow;rw[hrow];refine wv_keep hlen ?_;have h5:=hen.2;rw[hr] at h5 ⊢;split
     . exact .inl rfl
     . split
       . exact .inr (.inl rfl)
       . split
         . exact .inr (.inr rfl)
         . rename_i a1 a2 a3;rw[if_neg a1,if_neg a2,if_neg a3] at h5;omega
theorem trW_step {g:G} (h:g.conn=true) {c:Cf} (hc:Conf pWav g c) (ht:TrC g c) {s:Nat} (hs:Part s (enN pWav g c)):TrC g (stepC pWav g c s):=by
 obtain⟨h1,h2⟩:=conn_facts h;exact okW_tr h ((trW_ok h ht).step (netB h) (ruleB h) (wav_step h1 hc hs)).1 fun v hv=>by have:=(netB h).top v hv;omega
theorem one_of {c:Cf} {v x:Nat} {b:Bool} (h:gI (gC c v) x=truI b):one c x v=b:=by
 rw[one,h];cases b<;>rfl
theorem wav_ch {g:G} (h:g.conn=true) {c:Cf} (hc:Conf pWav g c) (ht:TrC g c) {s:Nat} (hs:Part s (enN pWav g c)) :
 Go.Plain.Wave.Ch g.ids.length (parI g) (sW c) (bW c) (fun v=>s.testBit v) (sW (stepC pWav g c s)) (bW (stepC pWav g c s)):=by
 have hl:=hc.len;have b2:=(wav_bool hc).1;have b3:=(wav_bool hc).2;have hlt:∀v,s.testBit v=true->v<g.ids.length:=fun v hv=>by
  have hb:=hs v hv;rw[en_bit,Bool.and_eq_true,decide_eq_true_eq] at hb;exact hb.1
 have key:∀v,s.testBit v=true->gC (stepC pWav g c s) v=moveL pWav g c v (ruleI pWav g c v).toNat/\0<=ruleI pWav g c v/\Wr g c v (ruleI pWav g c v):=fun v hv=>by
  have hn:=hlt v hv;have hrow:=stepC_row pWav g c s (v:=v) (by omega);rw[if_pos hv] at hrow;have hb:=hs v hv;rw[en_bit,Bool.and_eq_true,decide_eq_true_eq,decide_eq_true_eq] at hb;exact⟨hrow,hb.2,wav_on h hc ht hn⟩
 have hfin:∀v,v<g.ids.length->gC (stepC pWav g c s) v=moveL pWav g c v (4:Int).toNat->sW (stepC pWav g c s) v=false/\bW (stepC pWav g c s) v=bW c v:=fun v hv e=>by
  have hlen:=(wav_rng hc hv).1;rw[show(4:Int).toNat=4 from rfl,wv4] at e;refine⟨one_of (b:=false) ?_,?_⟩
  . rw[e,gI_stx _ _ _ _ (by omega),if_pos rfl];rfl
  . show decide (gI (gC (stepC pWav g c s) v) 3=1)=decide (gI (gC c v) 3=1);rw[e,gI_stx _ _ _ _ (by omega),if_neg (by decide)]
 refine⟨hlt,fun v hv hm=>?_,fun hm=>?_,fun v hm h0=>?_⟩
 . have hrow:=stepC_row pWav g c s (v:=v) (by omega);have hm':s.testBit v=false:=hm;rw[if_neg (by simp[hm'])] at hrow;show decide (gI (gC (stepC pWav g c s) v) 2=1)=decide (gI (gC c v) 2=1)/\decide (gI (gC (stepC pWav g c s) v) 3=1)=decide (gI (gC c v) 3=1);rw[hrow];exact⟨rfl,rfl⟩
 . have hn:=hlt 0 hm;have hlen:=(wav_rng hc hn).1;obtain⟨k1,k2,k3⟩:=key 0 hm;generalize ruleI pWav g c 0=r at *;cases k3 with
   | beg h0 hq =>
     left;rw[show(2:Int).toNat=2 from rfl,wv2] at k1;refine⟨hq,one_of (b:=true) ?_,one_of ?_⟩
     . rw[k1,gI_stx _ _ _ _ (by rw[List.length_set];omega),if_neg (by decide),gI_stx _ _ _ _ (by omega),if_pos rfl];rfl
     . rw[k1,gI_stx _ _ _ _ (by rw[List.length_set];omega),if_pos rfl,brW_tru];rw[one_tru b3 hn];show truI (decide (truI (one c 3 0)=0))=truI (!one c 3 0);cases one c 3 0<;>rfl
   | take h0=>exact(h0 rfl).elim
   | fin hq _=>exact .inr ⟨hq,hfin 0 hn k1⟩
   | none=>omega
 . have hn:=hlt v hm;have hlen:=(wav_rng hc hn).1;obtain⟨k1,k2,k3⟩:=key v hm;generalize ruleI pWav g c v=r at *;cases k3 with
   | beg h0' hq=>exact(h0 h0').elim
   | take _ hq =>
     left;have e2:=takeT_sem h hc ht hn h0 2 b2 (-1);have e3:=takeT_sem h hc ht hn h0 3 b3 (-1);rw[show(3:Int).toNat=3 from rfl,wv3] at k1;have e2:(takeT 2).sem g c v (-1)=truI (one c 2 (parI g v)):=e2;have e3:(takeT 3).sem g c v (-1)=truI (one c 3 (parI g v)):=e3;rw[e2,e3,brW_tru,brW_tru] at k1;refine⟨hq,one_of ?_,one_of ?_⟩
     . rw[k1,gI_stx _ _ _ _ (by rw[List.length_set];omega),if_neg (by decide),gI_stx _ _ _ _ (by omega),if_pos rfl]
     . rw[k1,gI_stx _ _ _ _ (by rw[List.length_set];omega),if_pos rfl]
   | fin hq hn2=>exact .inr ⟨hn2 h0,hq,hfin v hn k1⟩
   | none=>omega
def LegW (g:G) (c:Cf):Prop:=TrC g c/\∀v,v<g.ids.length->v≠0->Go.Plain.Wave.ord (parI g) (sW c) (bW c) v
end Go.Proofs.YtpoplpohbpfbmaaGreatDoor
namespace Go.Proofs.YtpoplpohbpfbmaaGreatDoor
open Go.Eng
set_option maxRecDepth 100000
set_option linter.unusedVariables false
end Go.Proofs.YtpoplpohbpfbmaaGreatDoor
namespace Go.Proofs.YtpoplpohbpfbmaaGreatDoor
open Go.Eng
set_option maxRecDepth 100000
set_option linter.unusedVariables false
def bWv (g:G) (v x:Nat):Int×Int:=if x=0 then (0,g.ids.length) else if x=1 then (-1,((gR g.ports v).length:Int)-1) else (0,1)
def G.wconf (g:G) (c:Cf):Bool:=conf g.ids.length 4 (bWv g) c
theorem wconf_g (g:G) (c:Cf):conf g.ids.length [(g.ids.length:Int),-1,1,1].length (bG g [(g.ids.length:Int),-1,1,1]) c=g.wconf c:=conf_ext' (fun v x hv hx=>by
 have e:x=0\/x=1\/x=2\/x=3:=by simp at hx;omega
 rcases e with rfl|rfl|rfl|rfl
 . rw[bG,show gI [(g.ids.length:Int),-1,1,1] 0=g.ids.length from rfl,if_neg (by omega)];rfl
 . rfl
 . rfl
 . rfl)
theorem vWv_ok:VOk vWv:=⟨by decide,fun x=>by
 rcases x with _|_|_|_|x
 . decide
 . decide
 . decide
 . decide
 . have:gV vWv (x+4)=default:=by simp[gV,vWv,List.getD]
   rw[this];decide⟩
theorem wconf_facts {g:G} {c:Cf} (h:g.wconf c=true):c.length=g.ids.length/\∀v,v<c.length->(gC c v).length=4/\0<=gI (gC c v) 0/\gI (gC c v) 0<=g.ids.length/\-1<=gI (gC c v) 1/\gI (gC c v) 1<(gR g.ports v).length/\(0<=gI (gC c v) 2/\gI (gC c v) 2<=1)/\0<=gI (gC c v) 3/\gI (gC c v) 3<=1:=by
 have:=conf_iff.1 h;refine⟨this.1,fun v hv=>?_⟩;have h2:=this.2 v (by omega);have h3:=h2.2 0 (by omega);have h4:=h2.2 1 (by omega);have h5:=h2.2 2 (by omega);have h6:=h2.2 3 (by omega);simp only[bWv,if_true,Nat.one_ne_zero,if_false,show ¬ (2:Nat)=0 by decide,show ¬ (2:Nat)=1 by decide,show ¬ (3:Nat)=0 by decide,show ¬ (3:Nat)=1 by decide] at h3 h4 h5 h6;omega
theorem wconf_of {g:G} {c:Cf} (h:Conf pWav g c):g.wconf c=true:=by
 rw[G.wconf,conf_iff];refine⟨h.len,fun v hv=>?_⟩;obtain⟨h0,h1,h2,h3,h4,⟨h5,h6⟩,h7,h8⟩:=wav_rng h hv;refine⟨h0,fun x hx=>?_⟩;rcases (show x=0\/x=1\/x=2\/x=3 by omega) with rfl|rfl|rfl|rfl
 . exact⟨h1,h2⟩
 . exact⟨h3,h4⟩
 . exact⟨h5,h6⟩
 . exact⟨h7,h8⟩
theorem ptokW {g:G} {c:Cf} (h:g.valid=true) (hc:g.wconf c=true):PtOk g c:=by
 obtain⟨f1,f2,f3,f4,f5,f6,f7⟩:=val_facts h;obtain⟨e1,e2⟩:=wconf_facts hc;exact⟨by omega,fun v hv=>by have:=e2 v hv;omega,fun v hv=>by have:=e2 v hv;omega⟩
theorem four_le (a b d e:Int) (f:Nat->Nat->V) (h0:f 0 0=.int .i64 a) (h1:f 1 0=.int .i64 b) (h2:f 2 0=.int .i64 d) (h3:f 3 0=.int .i64 e):∀i j:Nat,i<4->j<1->VLe (f i j) (vI [a,b,d,e] i j):=by
 intro i j hi hj;obtain rfl:j=0:=by omega
 rcases (show i=0\/i=1\/i=2\/i=3 by omega) with rfl|rfl|rfl|rfl
 . rw[h0];exact VLe.rfl
 . rw[h1];exact VLe.rfl
 . rw[h2];exact VLe.rfl
 . rw[h3];exact VLe.rfl
theorem wfit_ok (g:G) (hs:g.Small):Ret Tryz.prog 56 [g.v] (.bool g.conn):=by
 have h:=conn_ok g hs;refine ret_frz rfl ?_;refine fn_rule mixed Tryz.func56 rfl hc56 hr56 rfl ?_;cases hc:g.conn
 all_goals rw[hc] at h
 all_goals
  repeat' ((conv=>whnf);first|(refine Br.tt ?_)|(refine Br.ff ?_)|(refine h.go ?_))
  all_goals (conv=>whnf)
  exact VLe.rfl
theorem wconfiguration_ok (g:G) (hs:g.Small) (c:Cf) (hc:CSmall c):Ret Tryz.prog 27 [g.v,cV c] (.bool (g.conn&&g.wconf c)):=by
 have hf:=wfit_ok g hs;refine ret_frz rfl ?_;refine fn_rule mixed Tryz.func27 rfl hc27 hr27 rfl ?_;cases hg:g.conn with
 | true =>
   rw[hg] at hf;rw[Bool.true_and];obtain⟨h1,_⟩:=conn_facts hg;obtain⟨f1,f2,f3,f4,f5,f6,f7⟩:=val_facts h1;have hb:=bconf_ok g hs f3 c hc [(g.ids.length:Int),-1,1,1] (by simp);rw[wconf_g] at hb
   repeat' ((conv=>whnf);first|(refine Br.tt ?_)|(refine hf.go ?_)|(refine call_frz [1] hb ⟨by decide,VLe.rfl,VLe.rfl,VLe.fz rfl (fun h=>h) (four_le _ _ _ _ _ rfl rfl rfl rfl),True.intro⟩ ?_)|(refine Br.any (fun _=>?_) (fun _=>?_)))
   all_goals (conv=>whnf)
   all_goals exact VLe.bool (Eq.symm (by assumption))
 | false =>
   rw[hg] at hf
   repeat' ((conv=>whnf);first|(refine Br.ff ?_)|(refine hf.go ?_))
   all_goals (conv=>whnf)
   all_goals exact VLe.rfl
theorem wtruth_ok (s:ByteArray):Ret Tryz.prog 41 [.str s] (.agg [.str s,.int .i64 2,.int .i64 0,.int .i64 0,.int .i64 0,.int .i64 0]):=by
 refine ret_frz rfl ?_;refine fn_rule mixed Tryz.func41 rfl hc41 hr41 rfl ?_
 repeat' ((conv=>whnf);first|fail)
 all_goals (conv=>whnf)
 exact VLe.rfl
theorem wvars_ok:Ret Tryz.prog 20 [] (.fz vWv.length 6 false (vV vWv)):=by
 refine ret_frz rfl ?_;refine fn_rule mixed Tryz.func20 rfl hc20 hr20 rfl ?_
 repeat' ((conv=>whnf);first|(refine Br.tt ?_)|(refine Len.mk (by omega) ?_)|(refine fn_rule mixed Tryz.func40 rfl hc40 hr40 rfl ?_)|(refine(cnumber_ok _ _ _ _).go ?_)|(refine(cpointer_ok _).go ?_)|(refine(wtruth_ok _).go ?_))
 all_goals (conv=>whnf)
 refine VLe.fz rfl (fun h=>h) (fun i j hi hj=>?_);rcases (show i=0\/i=1\/i=2\/i=3 by omega) with rfl|rfl|rfl|rfl
 all_goals
  rcases (show j=0\/j=1\/j=2\/j=3\/j=4\/j=5 by omega) with rfl|rfl|rfl|rfl|rfl|rfl
 all_goals exact VLe.of_eq rfl
theorem wtree_ok (c:Cf) (hc:c.length<=1000) (hr:∀v,v<c.length->(gC c v).length=4):Ret Tryz.prog 29 [cV c] (cV (tkC c)):=by
 refine ret_frz rfl ?_;refine fn_rule mixed Tryz.func29 rfl hc29 hr29 rfl ?_
 repeat' ((conv=>whnf);first|(refine Bd.nat (by omega) ?_)|(refine Len.mk (by omega) ?_)|(refine MkS.vec ?_))
 all_goals (conv=>whnf)
 refine loop_w mixed [3,9,10] [] [1,2,3,4,5,6,7,8,9,10,11,12,13,14,15,16,17,18,19,20,21,22,23,24,25,26,27,28,29] [0] (fun v:Nat=>[(11,.int .i64 v)]) (fun v=>[(0,.vec c.length 1 (rowsTk c v))]) (fun m v=>m=c.length-v/\v<=c.length) c.length 0 ⟨rfl,Nat.zero_le _⟩ rfl (fun _=>rfl) ?_ ?_
 . refine weak_by (fun _ _=>[(0,some 0)]) ?_ ?_ rfl
   . repeat' (first|exact True.intro|(refine⟨⟨_,rfl,?_⟩,?_⟩)|exact VRen.kf rfl|exact VRen.vec rfl rfl rfl)
   . repeat' (first|exact⟨Nat.le_refl _,rfl,fun i j hi hj=>VLe.of_eq (by obtain rfl:j=0:=(by omega);rfl)⟩|exact True.intro|(refine⟨⟨_,rfl,?_⟩,?_⟩))
 rintro m v ⟨hm,hv⟩;by_cases hvn:v<c.length
 . have h3:=hr v hvn
   repeat' ((conv=>whnf);first|(refine Bd.mk 2 rfl (by omega) ?_)|(refine Br.dec ?_ ?_<;>intro _<;>try omega)|(refine Ar.i64 (by omega) (by omega) ?_)|(refine Ix.nat (by omega) ?_)|(refine Bd.mk 0 rfl (by omega) ?_)|(refine Ltn.mk (by omega) ?_))
   all_goals (conv=>whnf)
   refine⟨c.length-(v+1),v+1,by omega,⟨rfl,by omega⟩,?_⟩;refine weak_by (fun _ _=>[(0,some 0)]) ?_ ?_ rfl
   . repeat' (first|exact True.intro|(refine⟨⟨_,rfl,?_⟩,?_⟩)|exact VRen.kf rfl|exact VRen.vec rfl rfl rfl)
   . repeat' (first|exact⟨Nat.le_refl _,rfl,fun i t hi ht=>by simp only[Nat.zero_add];exact vle_tk c v i t _ _ (fun a b=>VLe.of_eq (by simp[shiftF])) ht⟩|exact True.intro|(refine⟨⟨_,rfl,?_⟩,?_⟩))
 . repeat' ((conv=>whnf);first|(refine Br.dec ?_ ?_<;>intro _<;>try omega)|(refine Len.mk (by omega) ?_))
   all_goals (conv=>whnf)
   refine VLe.fz (tkC_len c).symm (fun h=>h) (fun i t hi ht=>?_);have e1:shiftF 0 (rowsTk c v) i t=.fz 2 1 false (vI (gC c i)):=by rw[sh_at,Nat.zero_add];exact if_pos (by omega)
   have hl:(gC (tkC c) i).length=2:=by rw[tkC_row,List.length_take,hr i hi];rfl
   rw[e1];show VLe _ (.fz (gC (tkC c) i).length 1 false (vI (gC (tkC c) i)));rw[hl];refine VLe.fz rfl (fun h=>h) (fun a b ha hb=>VLe.of_eq ?_);simp only[vI];rw[tkC_row,gI_take2 _ _ ha]
theorem bconf_tkW {g:G} {c:Cf} (h:g.wconf c=true):g.bconf (tkC c)=true:=by
 have h1:=conf_iff.1 h;refine conf_iff.2 ⟨by rw[tkC_len];exact h1.1,fun v hv=>?_⟩;have h2:=h1.2 v hv;refine⟨by rw[tkC_row,List.length_take,h2.1];rfl,fun x hx=>?_⟩;have h3:=h2.2 x (by omega);rw[tkC_row,gI_take2 _ x hx];rcases (show x=0\/x=1 by omega) with rfl|rfl
 . rw[bG,show gI [(g.ids.length:Int),-1] 0=g.ids.length from rfl,if_neg (by omega)];exact h3
 . exact h3
def orD (c:Cf) (v:Nat) (u:Int):Prop:=gI (gC c u.toNat) 2=1\/(gI (gC c v) 2=gI (gC c u.toNat) 2/\gI (gC c v) 3=gI (gC c u.toNat) 3)
instance (c:Cf) (v:Nat) (u:Int):Decidable (orD c v u):=inferInstanceAs (Decidable (_\/_))
def orB (g:G) (c:Cf):Bool:=decide (∀v,v<c.length->0<=tw g c v->orD c v (tw g c v))
theorem orB_iff {g:G} {c:Cf}:orB g c=true↔∀v,v<c.length->0<=tw g c v->orD c v (tw g c v):=by rw[orB,decide_eq_true_eq]
theorem orB_no {g:G} {c:Cf} {v:Nat} (hv:v<c.length) (h0:0<=tw g c v) (hn:¬ orD c v (tw g c v)):orB g c=false:=by
 cases e:orB g c with
 | false=>rfl
 | true=>exact(hn (orB_iff.1 e v hv h0)).elim
def G.wleg (g:G) (c:Cf):Bool:=g.conn&&g.wconf c&&treeB g c&&orB g c
theorem wlegit_ok (g:G) (hs:g.Small) (c:Cf) (hc:CSmall c):Ret Tryz.prog 11 [g.v,cV c] (.bool (g.wleg c)):=by
 have h0:=wconfiguration_ok g hs c hc;refine ret_frz rfl ?_;refine fn_rule mixed Tryz.func11 rfl hc11 hr11 rfl ?_;rw[G.wleg];cases hgc:g.conn&&g.wconf c with
 | false =>
   rw[hgc] at h0
   repeat' ((conv=>whnf);first|(refine Br.ff ?_)|(refine h0.go ?_))
   all_goals (conv=>whnf)
   exact VLe.rfl
 | true =>
   rw[hgc] at h0;rw[Bool.true_and];rw[Bool.and_eq_true] at hgc;obtain⟨h1,_⟩:=conn_facts hgc.1;obtain⟨f1,f2,f3,f4,f5,f6,f7⟩:=val_facts h1;obtain⟨e1,e2⟩:=wconf_facts hgc.2;have ht:=wtree_ok c (by omega) (fun v hv=>(e2 v hv).1);have hb:=blegit_ok g hs (tkC c) (csmall_tk hc);rw[hgc.1,bconf_tkW hgc.2,treeB_tk,Bool.true_and,Bool.true_and] at hb;have hpt:=ptokW h1 hgc.2;have hw:=towards_ok g h1 c hpt;have hwl:=twL_len g c c.length;cases htb:treeB g c with
   | false =>
     rw[htb] at hb
     repeat' ((conv=>whnf);first|(refine Br.tt ?_)|(refine Br.ff ?_)|(refine h0.go ?_)|(refine ht.go ?_)|(refine hb.go ?_)|(refine And.intro rfl ?_))
     all_goals (conv=>whnf)
     exact VLe.rfl
   | true =>
     rw[htb] at hb;rw[Bool.true_and]
     repeat' ((conv=>whnf);first|(refine Br.tt ?_)|(refine h0.go ?_)|(refine ht.go ?_)|(refine hb.go ?_)|(refine hw.go ?_)|(refine And.intro rfl ?_))
     all_goals (conv=>whnf)
     refine loop_r mixed [1,20,21] (fun i:Nat=>[(22,.int .i64 i)]) (fun m i=>m=c.length-i/\i<=c.length/\∀v,v<i->0<=tw g c v->orD c v (tw g c v)) c.length 0 ⟨rfl,Nat.zero_le _,fun v hv=>by omega⟩ ?_ ?_
     . exact weak_b (fun _ _=>[(0,some 0)])
     rintro m i ⟨hm,hi,hall⟩;by_cases hil:i<c.length
     . have hx:=twL_get g c hil;have hr:=e2 i hil;obtain⟨t1,t2⟩:=tw_treeP hgc.1 hpt htb hil;by_cases h0t:0<=tw g c i
       . have hlt:tw g c i<c.length:=by
          by_cases e:i=0
          . have:=t1 e;omega
          . exact(t2 e).2
         have hru:=e2 (gI (twL g c c.length) i).toNat (by omega);have hod:orD c i (tw g c i)↔gI (gC c (gI (twL g c c.length) i).toNat) 2=1\/(gI (gC c i) 2=gI (gC c (gI (twL g c c.length) i).toNat) 2/\gI (gC c i) 3=gI (gC c (gI (twL g c c.length) i).toNat) 3):=by rw[hx];exact Iff.rfl
         have hno:¬ (gI (gC c (gI (twL g c c.length) i).toNat) 2=1\/(gI (gC c i) 2=gI (gC c (gI (twL g c c.length) i).toNat) 2/\gI (gC c i) 3=gI (gC c (gI (twL g c c.length) i).toNat) 3))->orB g c=false:=fun q=>orB_no hil h0t (fun e=>q (hod.1 e));have hyes:(gI (gC c (gI (twL g c c.length) i).toNat) 2=1\/(gI (gC c i) 2=gI (gC c (gI (twL g c c.length) i).toNat) 2/\gI (gC c i) 3=gI (gC c (gI (twL g c c.length) i).toNat) 3))->∀v,v<i+1->0<=tw g c v->orD c v (tw g c v):=fun q v hv hv0=>by
          by_cases e:v=i
          . subst e;exact hod.2 q
          . exact hall v (by omega) hv0
         have z2:Int.toNat 2=2:=rfl;have z3:Int.toNat 3=3:=rfl
         repeat' ((conv=>whnf);first|(refine Ix.mk 2 rfl (by omega) ?_)|(refine Ix.mk 3 rfl (by omega) ?_)|(refine Br.dec ?_ ?_<;>intro _<;>try omega)|(refine Br.bne ?_ ?_<;>intro _<;>try omega)|(refine Ar.i64 (by omega) (by omega) ?_)|(refine Ix.nat (by omega) ?_)|(refine Ix.int (by omega) (by omega) ?_))
         all_goals (conv=>whnf)
         all_goals first
          | (refine⟨c.length-(i+1),i+1,by omega,⟨rfl,by omega,hyes (by simp_all)⟩,?_⟩
             exact weak_b (fun _ _=>[(0,some 0)]))
          | (rw[hno (by simp_all)];exact VLe.rfl)
       . repeat' ((conv=>whnf);first|(refine Br.dec ?_ ?_<;>intro _<;>try omega)|(refine Ar.i64 (by omega) (by omega) ?_)|(refine Ix.nat (by omega) ?_))
         all_goals (conv=>whnf)
         refine⟨c.length-(i+1),i+1,by omega,⟨rfl,by omega,fun v hv hv0=>?_⟩,?_⟩
         . by_cases e:v=i
           . subst e;exact absurd hv0 h0t
           . exact hall v (by omega) hv0
         . exact weak_b (fun _ _=>[(0,some 0)])
     . repeat' ((conv=>whnf);first|(refine Br.dec ?_ ?_<;>intro _<;>try omega))
       all_goals (conv=>whnf)
       exact VLe.bool (orB_iff.2 (fun v hv=>hall v (by omega))).symm
end Go.Proofs.YtpoplpohbpfbmaaGreatDoor
namespace Go.Proofs.YtpoplpohbpfbmaaGreatDoor
open Go.Eng
set_option maxRecDepth 100000
set_option linter.unusedVariables false
theorem ksS6 {a b chg:List Nat} (h:(a.all fun k=>memN k b)=true):∀k,k∈a->k∈b\/k∈chg:=fun k hk=>.inl (memN_iff.1 (List.all_eq_true.1 h k hk))
theorem setF_row (f:Nat->Nat->Nat->V) (v i j t:Nat):VLe (setF f v (f v) i j t) (f i j t):=by
 apply VLe.of_eq;by_cases h:i=v
 . subst h;simp[setF]
 . simp[setF,h]
set_option maxHeartbeats 16000000 in
theorem config_own (g:G) (hg:g.valid=true) (vs:List Vr) (hv:VOk vs) (hlo:∀x,0<=(gV vs x).lo/\(gV vs x).lo<=1000) (hv0:0<vs.length) :
 CallF Tryz.prog 19 [g.v,.fz vs.length 6 false (vV vs),.nilslice] [] KS fun v own' _=>v=.vec 0 1 0 g.ports.length/\own'=[(0,.fam g.ports.length 1 (fun _=>vs.length) (fun u=>vI (cfgR g vs [] u vs.length)) [])]:=by
 obtain⟨f1,f2,f3,f4,f5,f6,f7⟩:=val_facts hg;have htop0:=maxL_ge g.ids 0;have htop1:=maxL_le g.ids 0 255 (by omega) (fun a ha=>(f4 a ha).2);have hvl:=hv.len;refine call_post ?_;refine fn_rule mixed Tryz.func19 rfl hc19 hr19 rfl ?_
 repeat' ((conv=>whnf);first|fail)
 all_goals (conv=>whnf)
 refine loop_r mixed [1,2,3,7] (fun i:Nat=>[(8,.int .i64 (maxL (g.ids.take i) 0)),(9,.int .i64 i)]) (fun m i=>m=g.ports.length-i/\i<=g.ports.length) g.ports.length 0 ⟨rfl,Nat.zero_le _⟩ ?_ ?_
 . exact weak_b (fun _ _=>[(0,some 0)])
 rintro m i ⟨hm,hi⟩
 repeat' ((conv=>whnf);first|(refine Br.dec ?_ ?_<;>intro _<;>try omega)|(refine Ar.i64 (by omega) (by omega) ?_)|(refine Sv.mk _ rfl ?_)|(refine Ix.nat (by omega) ?_))
 all_goals (conv=>whnf)
 all_goals try
  (refine⟨g.ports.length-(i+1),i+1,by omega,⟨rfl,by omega⟩,?_⟩
   simp only[gI_take g.ids i (by omega),maxL_snoc];refine weak_by (fun _ _=>[(0,some 0)]) ?_ ?_ rfl
   . repeat' (first|exact VRen.int (by split<;>omega)|exact True.intro|(refine⟨⟨_,rfl,?_⟩,?_⟩)|exact VRen.kf rfl|exact VRen.loc rfl)
   . repeat' (first|exact True.intro|(refine⟨⟨_,rfl,?_⟩,?_⟩)|exact VRen.kf rfl|(refine And.intro ?_ ?_)))
 have hti:g.ids.take i=g.ids:=List.take_of_length_le (by omega);simp only[hti];clear hti hm hi;generalize htop:maxL g.ids 0=top at *;refine loop_u mixed [1,2,3,7,8] [1] [2,3,4,5,6,7,8,9,10,11,12,13,14,15,16,17,18,19,20,21,22,23,24,25,26,27,28,29] [1,0] (fun v:Nat=>[(10,.vec 1 1 0 v),(11,.int .i64 v)]) (fun own v=>(1,.fam v 1 (fun _=>vs.length) (fun u=>vI (cfgR g vs [] u vs.length)) [])::own) (fun m v=>m=g.ports.length-v/\v<=g.ports.length) g.ports.length 0 ⟨rfl,Nat.zero_le _⟩ rfl (fun _=>rfl) ?_ ?_
 . show Weak _ _ (St.mk ?E ?O ?Q) _;refine Weak.trans (b:=⟨[(10,.vec 1 1 0 0),(11,.int .i64 0)]++Go.Eng.selE ?E [1,2,3,7,8],(1,.vec 0 1 fun _ _=>.nilslice)::?O,[2,3,4,5,6,7,8,9,10,11,12,13,14,15,16,17,18,19,20,21,22,23,24,25,26,27,28,29]⟩) ?_ ?_ (fun k hk=>.inl hk)
   . exact weak_b (fun _ _=>[(0,some 0),(1,none)])
   . refine weak_by (fun _ _=>[(0,some 0),(1,some 1)]) ?_ ?_ rfl
     . repeat' (first|exact True.intro|(refine⟨⟨_,rfl,?_⟩,?_⟩)|exact VRen.kf rfl|exact VRen.loc rfl|exact VRen.vec rfl rfl rfl)
     . repeat' (first|exact⟨rfl,rfl,rfl,fun i hi=>by omega⟩|exact True.intro|(refine⟨⟨_,rfl,?_⟩,?_⟩)|exact VRen.kf rfl|(refine And.intro ?_ ?_))
 rintro m v ⟨hm,hvn⟩
 repeat' ((conv=>whnf);first|(refine Br.dec ?_ ?_<;>intro _<;>try omega))
 all_goals (conv=>whnf)
 . refine loop_u mixed [1,2,3,7,8,10,11] [2] [3,4,5,6,7,8,9,10,11,12,13,14,15,16,17,18,19,20,21,22,23,24,25,26,27,28,29] [2,1,0] (fun i:Nat=>[(12,.vec 2 1 0 i),(13,.int .i64 i)]) (fun own i=>(2,.vec i 1 (vI (cfgR g vs [] v i)))::own) (fun m i=>m=vs.length-i/\i<=vs.length) vs.length 0 ⟨rfl,Nat.zero_le _⟩ rfl (fun _=>rfl) ?_ ?_
   . refine weak_by (fun _ _=>[(0,some 0),(1,some 1),(2,none)]) ?_ ?_ rfl
     . repeat' (first|exact True.intro|(refine⟨⟨_,rfl,?_⟩,?_⟩)|exact VRen.kf rfl|exact VRen.loc rfl|exact VRen.vec rfl rfl rfl|exact VRen.nil rfl rfl)
     . repeat' (first|exact⟨rfl,rfl,True.intro,fun i hi=>rfl,fun i j t hi hn hj ht=>VLe.rfl⟩|exact True.intro|(refine⟨⟨_,rfl,?_⟩,?_⟩)|exact VRen.kf rfl|(refine⟨⟨_,_,rfl⟩,?_⟩)|(refine And.intro ?_ ?_))
   rintro m i ⟨hm2,hi⟩;have hrl:=cfgR_len g vs [] v i;by_cases hil:i<vs.length
   . obtain⟨b1,b2,b3,b4,b5,b6⟩:=hv.b i;obtain⟨l1,l2⟩:=hlo i;have m1:=mul_bound b3 b4 (show(0:Int)<=g.ports.length by omega) (show(g.ports.length:Int)<=24 by omega);have m2:=mul_bound b5 b6 (show(0:Int)<=top by omega) (show top<=255 by omega);have m3:=mul_bound (show(0:Int)<=v by omega) (show(v:Int)<=24 by omega) (show(0:Int)<=vs.length by omega) (show(vs.length:Int)<=1000 by omega);have hrow:=okR_len (show v<g.ports.length by omega) (f6 v (by omega));have hat:=at_ok [] (by simp) (v*vs.length+i);have e1:((v*vs.length+i:Nat):Int)=(v:Int)*vs.length+i:=by rw[Int.natCast_add,Int.natCast_mul]
     rw[e1] at hat;have hE:cfgE g vs [] v i=(bV g vs v i).1+within (gI [] (v*vs.length+i)) ((bV g vs v i).2-(bV g vs v i).1+1):=rfl;generalize gI [] (v*vs.length+i)=q at *;have hsn:=cfgR_succ g vs [] v i;generalize cfgE g vs [] v i=E at *;generalize hp1:(gV vs i).pn*(g.ports.length:Int)=P1 at *;generalize hp2:(gV vs i).pid*top=P2 at *;generalize hp3:(v:Int)*(vs.length:Int)=P3 at *;by_cases k2:(gV vs i).kind=2
     . have hb:bV g vs v i=(0,1):=by rw[bV,if_pos k2]
       rw[hb] at hE;have hw:=within_ok q (1-0+1) (by omega);have hwr:=within_range q (b:=1-0+1) (by omega);simp only at hE;generalize within q (1-0+1)=W at *
       repeat' ((conv=>whnf);first|(refine Ar.mk P1 (by rw[hp1];exact(wrap_i64 (by omega) (by omega)).symm) ?_)|(refine Ar.mk P2 (by rw[hp2];exact(wrap_i64 (by omega) (by omega)).symm) ?_)|(refine Ar.mk P3 (by rw[hp3];exact(wrap_i64 (by omega) (by omega)).symm) ?_)|(refine Br.dec ?_ ?_<;>intro _<;>try omega)|(refine Br.nbeq ?_ ?_<;>intro _<;>try omega)|(refine Ar.i64 (by omega) (by omega) ?_)|(refine Ix.nat (by omega) ?_)|(refine Len.mk (by omega) ?_)|(refine call_lend hat rfl ⟨VLe.nilfz rfl,VLe.rfl,True.intro⟩ ?_)|(refine hw.go ?_)|(refine And.intro rfl ?_))
       all_goals (conv=>whnf)
       all_goals
        refine⟨vs.length-(i+1),i+1,by omega,⟨rfl,by omega⟩,?_⟩;simp only[hsn];refine weak_by (fun env own=>[(0,some 0),(1,some 1),(2,ekey env 12)]) ?_ ?_ rfl
        . repeat' (first|exact True.intro|(refine⟨⟨_,rfl,?_⟩,?_⟩)|exact VRen.kf rfl|exact VRen.loc rfl|exact VRen.vec rfl rfl rfl)
        . repeat' (first|exact⟨rfl,rfl,True.intro,fun i hi=>rfl,fun i j t hi hn hj ht=>VLe.rfl⟩|(refine⟨Nat.le_refl _,rfl,fun i j hi hj=>?_⟩)|(rw[hE];exact vle_appI _ _ _ hrl _ _ hi hj)|exact True.intro|(refine⟨⟨_,rfl,?_⟩,?_⟩)|exact VRen.kf rfl|(refine And.intro ?_ ?_))
     . by_cases k3:(gV vs i).kind=3
       . have hb:bV g vs v i=(-1,((gR g.ports v).length:Int)-1):=by rw[bV,if_neg k2,if_pos k3]
         rw[hb] at hE;have hw:=within_ok q (((gR g.ports v).length:Int)-1-(-1)+1) (by omega);have hwr:=within_range q (b:=((gR g.ports v).length:Int)-1-(-1)+1) (by omega);simp only at hE;generalize within q (((gR g.ports v).length:Int)-1-(-1)+1)=W at *
         repeat' ((conv=>whnf);first|(refine Ar.mk P1 (by rw[hp1];exact(wrap_i64 (by omega) (by omega)).symm) ?_)|(refine Ar.mk P2 (by rw[hp2];exact(wrap_i64 (by omega) (by omega)).symm) ?_)|(refine Ar.mk P3 (by rw[hp3];exact(wrap_i64 (by omega) (by omega)).symm) ?_)|(refine Br.dec ?_ ?_<;>intro _<;>try omega)|(refine Br.nbeq ?_ ?_<;>intro _<;>try omega)|(refine Ar.i64 (by omega) (by omega) ?_)|(refine Ix.nat (by omega) ?_)|(refine Len.mk (by omega) ?_)|(refine call_lend hat rfl ⟨VLe.nilfz rfl,VLe.rfl,True.intro⟩ ?_)|(refine hw.go ?_)|(refine And.intro rfl ?_))
         all_goals (conv=>whnf)
         all_goals
          refine⟨vs.length-(i+1),i+1,by omega,⟨rfl,by omega⟩,?_⟩;simp only[hsn];refine weak_by (fun env own=>[(0,some 0),(1,some 1),(2,ekey env 12)]) ?_ ?_ rfl
          . repeat' (first|exact True.intro|(refine⟨⟨_,rfl,?_⟩,?_⟩)|exact VRen.kf rfl|exact VRen.loc rfl|exact VRen.vec rfl rfl rfl)
          . repeat' (first|exact⟨rfl,rfl,True.intro,fun i hi=>rfl,fun i j t hi hn hj ht=>VLe.rfl⟩|(refine⟨Nat.le_refl _,rfl,fun i j hi hj=>?_⟩)|(rw[hE];exact vle_appI _ _ _ hrl _ _ hi hj)|exact True.intro|(refine⟨⟨_,rfl,?_⟩,?_⟩)|exact VRen.kf rfl|(refine And.intro ?_ ?_))
       . have hb:bV g vs v i=((gV vs i).lo,(gV vs i).hi+P1+P2):=by rw[bV,if_neg k2,if_neg k3,hp1,htop,hp2]
         rw[hb] at hE;have hw:=within_ok q ((gV vs i).hi+P1+P2-(gV vs i).lo+1) (by omega);have hwr:-1<=within q ((gV vs i).hi+P1+P2-(gV vs i).lo+1)/\within q ((gV vs i).hi+P1+P2-(gV vs i).lo+1)<=1000000:=by
          by_cases h:1<=(gV vs i).hi+P1+P2-(gV vs i).lo+1
          . have:=within_range q h;omega
          . rw[within,if_pos (by omega)];omega
         simp only at hE;generalize within q ((gV vs i).hi+P1+P2-(gV vs i).lo+1)=W at *
         repeat' ((conv=>whnf);first|(refine Ar.mk P1 (by rw[hp1];exact(wrap_i64 (by omega) (by omega)).symm) ?_)|(refine Ar.mk P2 (by rw[hp2];exact(wrap_i64 (by omega) (by omega)).symm) ?_)|(refine Ar.mk P3 (by rw[hp3];exact(wrap_i64 (by omega) (by omega)).symm) ?_)|(refine Br.dec ?_ ?_<;>intro _<;>try omega)|(refine Br.nbeq ?_ ?_<;>intro _<;>try omega)|(refine Ar.i64 (by omega) (by omega) ?_)|(refine Ix.nat (by omega) ?_)|(refine Len.mk (by omega) ?_)|(refine call_lend hat rfl ⟨VLe.nilfz rfl,VLe.rfl,True.intro⟩ ?_)|(refine hw.go ?_)|(refine And.intro rfl ?_))
         all_goals (conv=>whnf)
         all_goals
          refine⟨vs.length-(i+1),i+1,by omega,⟨rfl,by omega⟩,?_⟩;simp only[hsn];refine weak_by (fun env own=>[(0,some 0),(1,some 1),(2,ekey env 12)]) ?_ ?_ rfl
          . repeat' (first|exact True.intro|(refine⟨⟨_,rfl,?_⟩,?_⟩)|exact VRen.kf rfl|exact VRen.loc rfl|exact VRen.vec rfl rfl rfl)
          . repeat' (first|exact⟨rfl,rfl,True.intro,fun i hi=>rfl,fun i j t hi hn hj ht=>VLe.rfl⟩|(refine⟨Nat.le_refl _,rfl,fun i j hi hj=>?_⟩)|(rw[hE];exact vle_appI _ _ _ hrl _ _ hi hj)|exact True.intro|(refine⟨⟨_,rfl,?_⟩,?_⟩)|exact VRen.kf rfl|(refine And.intro ?_ ?_))
   . have ei:i=vs.length:=by omega
     subst ei
     repeat' ((conv=>whnf);first|(refine Br.dec ?_ ?_<;>intro _<;>try omega)|(refine Ar.i64 (by omega) (by omega) ?_)|(refine Len.mk (by omega) ?_))
     all_goals (conv=>whnf)
     refine⟨g.ports.length-(v+1),v+1,by omega,⟨rfl,by omega⟩,?_⟩;refine Weak.trans (weak_step (own_close (q:=2) (k:=4) (i:=v) [] rfl rfl (by omega) (look_here rfl) (by simp[lenX]) rfl (fun j hj=>(look_there (fun e=>hj e.symm)).symm))) ?_ (ksS6 rfl);refine weak_by (fun _ _=>[(0,some 0),(1,some 4)]) ?_ ?_ rfl
     . repeat' (first|exact True.intro|(refine⟨⟨_,rfl,?_⟩,?_⟩)|exact VRen.kf rfl|exact VRen.loc rfl|exact VRen.vec rfl rfl rfl)
     . repeat' (first|exact⟨rfl,rfl,True.intro,fun i hi=>by simp[lenX],fun i j t hi hn hj ht=>setF_row _ _ _ _ _⟩|exact True.intro|(refine⟨⟨_,rfl,?_⟩,?_⟩)|exact VRen.kf rfl|(refine And.intro ?_ ?_))
 . have e:v=g.ports.length:=by omega
   subst e;exact postR_byV (fun v o=>[(0,vkey v 0)]) _ _ ⟨rfl,rfl⟩ (VRen.vec rfl rfl rfl) ⟨⟨_,rfl,rfl,rfl,True.intro,fun i hi=>rfl,fun i j t hi hn hj ht=>VLe.rfl⟩,True.intro⟩ rfl
end Go.Proofs.YtpoplpohbpfbmaaGreatDoor
namespace Go.Proofs.YtpoplpohbpfbmaaGreatDoor
open Go.Eng
set_option maxRecDepth 100000
set_option linter.unusedVariables false
def ptrK (g:G) (v:Nat):Nat->Int
 | 0=>-1
 | k+1=>if gI (dst g 0) (gF (gR g.ports v) ((gR g.ports v).length-1-k)).1.toNat=gI (dst g 0) v-1 then (((gR g.ports v).length-1-k:Nat):Int) else ptrK g v k
def rowK' (g:G) (v k:Nat) (b:Bool):List Int:=[gI (dst g 0) v,ptrK g v k,0,if b then 1 else 0]
def stC (g:G) (b:Bool):Cf:=(List.range g.ports.length).map fun v=>rowK' g v (gR g.ports v).length b
def fSt (g:G) (b:Bool) (v u:Nat):Nat->Nat->V:=if u<v then vI (rowK' g u (gR g.ports u).length b) else vI (cfgR g vWv [] u vWv.length)
def opSt (n v:Nat):List (Nat×Nat):=if v<n then[(v,2)] else[]
def bkSt (g:G) (b:Bool) (v:Nat):Blk:=if v<g.ports.length then .vec 4 1 (fSt g b v v) else .vec 0 1 fun _ _=>.nilslice
def famSt (g:G) (b:Bool) (v:Nat) (op:List (Nat×Nat)):Blk:=.fam g.ports.length 1 (fun _=>4) (fSt g b v) op
theorem row4 (F:Nat->Nat->V) (d:Int) (i j:Nat) (hi:i<4) (hj:j<1):VLe (fset (fset (fset (fset F (0+0) 0 [V.int IntKind.i64 d]) (0+1) 0 [V.int IntKind.i64 (-1)]) (0+Int.toNat 2) 0 [V.int IntKind.i64 0]) (0+Int.toNat 3) 0 [V.int IntKind.i64 0] i j) (vI [d,-1,0,0] i j):=by
 obtain rfl:j=0:=by omega
 apply VLe.of_eq;rcases (show i=0\/i=1\/i=2\/i=3 by omega) with rfl|rfl|rfl|rfl<;>simp[fset,vI,gI]
theorem row_hit {g:G} {v k:Nat} (he:gI (dst g 0) (gF (gR g.ports v) ((gR g.ports v).length-1-k)).1.toNat=gI (dst g 0) v-1) {x:Int} (hx:x=(((gR g.ports v).length-1-k:Nat):Int)) (i j:Nat) (hi:i<4) (hj:j<1):VLe (fset (vI (rowK' g v k false)) (0+1) 0 [V.int IntKind.i64 x] i j) (vI (rowK' g v (k+1) false) i j):=by
 obtain rfl:j=0:=by omega
 have hp:ptrK g v (k+1)=(((gR g.ports v).length-1-k:Nat):Int):=by rw[ptrK,if_pos he]
 apply VLe.of_eq;rcases (show i=0\/i=1\/i=2\/i=3 by omega) with rfl|rfl|rfl|rfl<;>simp[fset,vI,gI,rowK',hp,hx]
theorem row_miss {g:G} {v k:Nat} (he:¬ gI (dst g 0) (gF (gR g.ports v) ((gR g.ports v).length-1-k)).1.toNat=gI (dst g 0) v-1) (i j:Nat) (hi:i<4) (hj:j<1):VLe (vI (rowK' g v k false) i j) (vI (rowK' g v (k+1) false) i j):=by
 apply VLe.of_eq;rw[rowK',rowK',ptrK,if_neg he]
theorem st_nextF (g:G) (v i j t:Nat):VLe (setF (fSt g false v) v (vI (rowK' g v (gR g.ports v).length false)) i j t) (fSt g false (v+1) i j t):=by
 apply VLe.of_eq;by_cases h:i=v
 . subst h;simp[setF,fSt]
 . by_cases h2:i<v
   . simp[setF,fSt,h,h2,show i<v+1 by omega]
   . simp[setF,fSt,h,h2,show ¬ i<v+1 by omega]
theorem st_nextT (g:G) (v i j t:Nat) (hj:j<4) (ht:t<1):VLe (setF (fSt g true v) v (fset (vI (rowK' g v (gR g.ports v).length false)) (0+Int.toNat 3) 0 [V.int IntKind.i64 1]) i j t) (fSt g true (v+1) i j t):=by
 obtain rfl:t=0:=by omega
 apply VLe.of_eq;by_cases h:i=v
 . subst h;simp only[setF,fSt,if_pos,Nat.lt_succ_self,show i<i+1 by omega];rcases (show j=0\/j=1\/j=2\/j=3 by omega) with rfl|rfl|rfl|rfl<;>simp[fset,vI,gI,rowK']
 . by_cases h2:i<v
   . simp[setF,fSt,h,h2,show i<v+1 by omega]
   . simp[setF,fSt,h,h2,show ¬ i<v+1 by omega]
theorem ksC7 {c:List Nat} {q:Nat} {chg:List Nat} (h:memN q chg=true):∀k,k∈(q::c)->k∈c\/k∈chg:=fun k hk=>by
 rcases List.mem_cons.1 hk with e|e
 . exact .inr (by rw[e];exact memN_iff.1 h)
 . exact .inl e
set_option maxHeartbeats 16000000 in
theorem start_ok (g:G) (hs:g.Small) (hg:g.valid=true) (b:Bool) (hvw:Ret Tryz.prog 20 [] (.fz vWv.length 6 false (vV vWv))) (hlo:∀x,0<=(gV vWv x).lo/\(gV vWv x).lo<=1000):Ret Tryz.prog 5 [g.v,.bool b] (cV (stC g b)):=by
 obtain⟨f1,f2,f3,f4,f5,f6,f7⟩:=val_facts hg;have hd:=rdist_ok g hs hg 0 (by omega);have hdl:(dst g 0).length=g.ports.length:=by simp[dst_len]
 have hcf:=config_own g hg vWv vWv_ok hlo (by decide);refine ret_frz rfl ?_;refine fn_rule mixed Tryz.func5 rfl hc5 hr5 rfl ?_
 repeat' ((conv=>whnf);first|(refine hd.go ?_)|(refine hvw.go ?_)|(refine call_by [] [0] (hcf.mono ?_) ⟨VRen.kf rfl,VRen.kf rfl,VRen.kf rfl,True.intro⟩ True.intro rfl;rintro _ _ _ ⟨rfl,rfl⟩)|(refine Chk.mk rfl ?_)|(refine And.intro rfl ?_))
 all_goals (conv=>whnf)
 have hn0:0<g.ports.length:=by omega
 refine loop_u mixed [1,2,5,6] [2] [3,4,5,6,7,8,9,10,11,12,13,14,15,16,17,18,19,20,21,22,23,24,25,26,27,28,29] [2,1,0] (fun v:Nat=>[(7,.int .i64 v)]) (fun own v=>(2,bkSt g b v)::updO (updO own 1 (famSt g b v [])) 1 (famSt g b v (opSt g.ports.length v))) (fun m v=>m=g.ports.length-v/\v<=g.ports.length) g.ports.length 0 ⟨rfl,Nat.zero_le _⟩ rfl (fun _=>rfl) ?_ ?_
 . simp only[bkSt,opSt,if_pos hn0];refine Weak.trans ?_ (weak_open (len:=fun _=>4) (f:=fSt g b 0) (q:=2) (k:=1) (i:=0) (ks:=[2,3,4,5,6,7,8,9,10,11,12,13,14,15,16,17,18,19,20,21,22,23,24,25,26,27,28,29]) rfl rfl rfl hn0 rfl) (ksC7 rfl);refine weak_by (fun _ _=>[(0,some 0),(1,some 1)]) ?_ ?_ rfl
   . repeat' (first|exact True.intro|(refine⟨⟨_,rfl,?_⟩,?_⟩)|exact VRen.kf rfl|exact VRen.loc rfl|exact VRen.vec rfl rfl rfl)
   . repeat' (first|exact⟨rfl,rfl,True.intro,fun i hi=>rfl,fun i j t hi hn hj ht=>VLe.of_eq (by simp[fSt])⟩|exact True.intro|(refine⟨⟨_,rfl,?_⟩,?_⟩)|exact VRen.kf rfl|(refine And.intro ?_ ?_))
 rintro m v ⟨hm,hv⟩;by_cases hvn:v<g.ports.length
 . have hrow:=row_le' hg v;have hdv:=dst_le g hvn;simp only[bkSt,opSt,if_pos hvn,famSt]
   repeat' ((conv=>whnf);first|(refine Ix.mk v rfl (by omega) ?_)|(refine Br.dec ?_ ?_<;>intro _<;>try omega)|(refine Ar.i64 (by omega) (by omega) ?_)|(refine Ix.mk 0 rfl (by omega) ?_)|(refine Ix.mk 1 rfl (by omega) ?_)|(refine Ix.int (by omega) (by omega) ?_)|(refine Ltn.mk (by omega) ?_)|(refine Opn.hdl (by omega) rfl ?_))
   all_goals (conv=>whnf)
   refine loop_u mixed [1,2,5,6,7] [] [3,4,5,6,7,8,9,10,11,12,13,14,15,16,17,18,19,20,21,22,23,24,25,26,27,28,29] [2,1,0] (fun k:Nat=>[(8,.int .i64 ((gR g.ports v).length-1-(k:Int)))]) (fun own k=>updO own 2 (.vec 4 1 (vI (rowK' g v k false)))) (fun m k=>m=(gR g.ports v).length-k/\k<=(gR g.ports v).length) (gR g.ports v).length 0 ⟨rfl,Nat.zero_le _⟩ rfl (fun _=>rfl) ?_ ?_
   . refine weak_by (fun _ _=>[(0,some 0),(1,some 1),(2,some 2)]) ?_ ?_ rfl
     . repeat' (first|exact True.intro|(refine⟨⟨_,rfl,?_⟩,?_⟩)|exact VRen.kf rfl|exact VRen.int (by omega)|exact VRen.loc rfl|exact VRen.vec rfl rfl rfl)
     . repeat' (first|exact row4 _ _ _ _ hi hj|exact⟨rfl,rfl,⟨rfl,rfl,True.intro⟩,fun i hi=>rfl,fun i j t hi hn hj ht=>VLe.rfl⟩|exact True.intro|(refine⟨⟨_,rfl,?_⟩,?_⟩)|exact VRen.kf rfl|(refine⟨Nat.le_refl _,rfl,fun i j hi hj=>?_⟩)|(refine And.intro ?_ ?_))
   rintro m2 k ⟨hm2,hk⟩;by_cases hkn:k<(gR g.ports v).length
   . have hx:(gR g.ports v).length-1-k<(gR g.ports v).length:=by omega
     have hok:=(okR_iff.1 (f6 v hvn)).1 _ (gF_mem hx);have hto:(gF (gR g.ports v) ((gR g.ports v).length-1-k)).1=((gF (gR g.ports v) ((gR g.ports v).length-1-k)).1.toNat:Int):=by omega
     have hto2:(gF (gR g.ports v) ((gR g.ports v).length-1-k)).1.toNat<g.ports.length:=by omega
     by_cases he:gI (dst g 0) (gF (gR g.ports v) ((gR g.ports v).length-1-k)).1.toNat=gI (dst g 0) v-1
     . repeat' ((conv=>whnf);first|(refine Ix.mk v rfl (by omega) ?_)|(refine Ix.mk ((gR g.ports v).length-1-k) (by omega) (by omega) ?_)|(refine Ix.mk (gF (gR g.ports v) ((gR g.ports v).length-1-k)).1.toNat hto (by omega) ?_)|(refine Br.dec ?_ ?_<;>intro _<;>try omega)|(refine Ar.i64 (by omega) (by omega) ?_)|(refine Ix.mk 1 rfl (by omega) ?_)|(refine Ltn.mk (by omega) ?_)|(refine Opn.hdl (by omega) rfl ?_))
       all_goals (conv=>whnf)
       all_goals
        refine⟨(gR g.ports v).length-(k+1),k+1,by omega,⟨rfl,by omega⟩,?_⟩;refine weak_by (fun _ _=>[(0,some 0),(1,some 1),(2,some 2)]) ?_ ?_ rfl
        . repeat' (first|exact True.intro|(refine⟨⟨_,rfl,?_⟩,?_⟩)|exact VRen.kf rfl|exact VRen.int (by omega)|exact VRen.loc rfl|exact VRen.vec rfl rfl rfl)
        . repeat' (first|exact row_hit he (by omega) _ _ hi hj|exact⟨rfl,rfl,⟨rfl,rfl,True.intro⟩,fun i hi=>rfl,fun i j t hi hn hj ht=>VLe.rfl⟩|exact True.intro|(refine⟨⟨_,rfl,?_⟩,?_⟩)|exact VRen.kf rfl|(refine⟨Nat.le_refl _,rfl,fun i j hi hj=>?_⟩)|(refine And.intro ?_ ?_))
     . repeat' ((conv=>whnf);first|(refine Ix.mk v rfl (by omega) ?_)|(refine Ix.mk ((gR g.ports v).length-1-k) (by omega) (by omega) ?_)|(refine Ix.mk (gF (gR g.ports v) ((gR g.ports v).length-1-k)).1.toNat hto (by omega) ?_)|(refine Br.dec ?_ ?_<;>intro _<;>try omega)|(refine Ar.i64 (by omega) (by omega) ?_))
       all_goals (conv=>whnf)
       all_goals
        refine⟨(gR g.ports v).length-(k+1),k+1,by omega,⟨rfl,by omega⟩,?_⟩;refine weak_by (fun _ _=>[(0,some 0),(1,some 1),(2,some 2)]) ?_ ?_ rfl
        . repeat' (first|exact True.intro|(refine⟨⟨_,rfl,?_⟩,?_⟩)|exact VRen.kf rfl|exact VRen.int (by omega)|exact VRen.loc rfl|exact VRen.vec rfl rfl rfl)
        . repeat' (first|exact row_miss he _ _ hi hj|exact⟨rfl,rfl,⟨rfl,rfl,True.intro⟩,fun i hi=>rfl,fun i j t hi hn hj ht=>VLe.rfl⟩|exact True.intro|(refine⟨⟨_,rfl,?_⟩,?_⟩)|exact VRen.kf rfl|(refine⟨Nat.le_refl _,rfl,fun i j hi hj=>?_⟩)|(refine And.intro ?_ ?_))
   . obtain rfl:k=(gR g.ports v).length:=by omega
     cases b
     . repeat' ((conv=>whnf);first|(refine Br.dec ?_ ?_<;>intro _<;>try omega)|(refine Ar.i64 (by omega) (by omega) ?_))
       all_goals (conv=>whnf)
       refine⟨g.ports.length-(v+1),v+1,by omega,⟨rfl,by omega⟩,?_⟩;refine Weak.trans (weak_step (own_close (q:=2) (k:=1) (i:=v) [] rfl rfl hvn (look_here rfl) (Nat.le_refl _) rfl (fun j hj=>(look_there (fun e=>hj e.symm)).symm))) ?_ (ksS6 rfl);by_cases hv2:v+1<g.ports.length
       . simp only[bkSt,opSt,if_pos hv2];refine Weak.trans ?_ (weak_open (len:=fun _=>4) (f:=fSt g _ (v+1)) (q:=2) (k:=1) (i:=v+1) (ks:=[2,3,4,5,6,7,8,9,10,11,12,13,14,15,16,17,18,19,20,21,22,23,24,25,26,27,28,29]) rfl rfl rfl hv2 rfl) (ksC7 rfl);refine weak_by (fun _ _=>[(0,some 0),(1,some 1)]) ?_ ?_ rfl
         . repeat' (first|exact True.intro|(refine⟨⟨_,rfl,?_⟩,?_⟩)|exact VRen.kf rfl|exact VRen.loc rfl|exact VRen.vec rfl rfl rfl)
         . repeat' (first|exact⟨rfl,rfl,True.intro,fun i hi=>rfl,fun i j t hi hn hj ht=>st_nextF g v i j t⟩|exact True.intro|(refine⟨⟨_,rfl,?_⟩,?_⟩)|exact VRen.kf rfl|(refine And.intro ?_ ?_))
       . simp only[bkSt,opSt,if_neg hv2];refine weak_by (fun _ _=>[(0,some 0),(1,some 1),(2,none)]) ?_ ?_ rfl
         . repeat' (first|exact True.intro|(refine⟨⟨_,rfl,?_⟩,?_⟩)|exact VRen.kf rfl|exact VRen.loc rfl|exact VRen.vec rfl rfl rfl)
         . repeat' (first|exact⟨rfl,rfl,True.intro,fun i hi=>rfl,fun i j t hi hn hj ht=>st_nextF g v i j t⟩|exact True.intro|(refine⟨⟨_,rfl,?_⟩,?_⟩)|exact VRen.kf rfl|(refine⟨⟨_,_,rfl⟩,?_⟩)|(refine And.intro ?_ ?_))
     . repeat' ((conv=>whnf);first|(refine Ix.mk v rfl (by omega) ?_)|(refine Br.dec ?_ ?_<;>intro _<;>try omega)|(refine Ar.i64 (by omega) (by omega) ?_)|(refine Ix.int (by omega) (by omega) ?_)|(refine Ltn.mk (by omega) ?_)|(refine Opn.hdl (by omega) rfl ?_))
       all_goals (conv=>whnf)
       refine⟨g.ports.length-(v+1),v+1,by omega,⟨rfl,by omega⟩,?_⟩;refine Weak.trans (weak_step (own_close (q:=2) (k:=1) (i:=v) [] rfl rfl hvn (look_here rfl) (Nat.le_refl _) rfl (fun j hj=>(look_there (fun e=>hj e.symm)).symm))) ?_ (ksS6 rfl);by_cases hv2:v+1<g.ports.length
       . simp only[bkSt,opSt,if_pos hv2];refine Weak.trans ?_ (weak_open (len:=fun _=>4) (f:=fSt g _ (v+1)) (q:=2) (k:=1) (i:=v+1) (ks:=[2,3,4,5,6,7,8,9,10,11,12,13,14,15,16,17,18,19,20,21,22,23,24,25,26,27,28,29]) rfl rfl rfl hv2 rfl) (ksC7 rfl);refine weak_by (fun _ _=>[(0,some 0),(1,some 1)]) ?_ ?_ rfl
         . repeat' (first|exact True.intro|(refine⟨⟨_,rfl,?_⟩,?_⟩)|exact VRen.kf rfl|exact VRen.loc rfl|exact VRen.vec rfl rfl rfl)
         . repeat' (first|exact⟨rfl,rfl,True.intro,fun i hi=>rfl,fun i j t hi hn hj ht=>st_nextT g v i j t hj ht⟩|exact True.intro|(refine⟨⟨_,rfl,?_⟩,?_⟩)|exact VRen.kf rfl|(refine And.intro ?_ ?_))
       . simp only[bkSt,opSt,if_neg hv2];refine weak_by (fun _ _=>[(0,some 0),(1,some 1),(2,none)]) ?_ ?_ rfl
         . repeat' (first|exact True.intro|(refine⟨⟨_,rfl,?_⟩,?_⟩)|exact VRen.kf rfl|exact VRen.loc rfl|exact VRen.vec rfl rfl rfl)
         . repeat' (first|exact⟨rfl,rfl,True.intro,fun i hi=>rfl,fun i j t hi hn hj ht=>st_nextT g v i j t hj ht⟩|exact True.intro|(refine⟨⟨_,rfl,?_⟩,?_⟩)|exact VRen.kf rfl|(refine⟨⟨_,_,rfl⟩,?_⟩)|(refine And.intro ?_ ?_))
 . have e:v=g.ports.length:=by omega
   subst e;simp only[bkSt,opSt,if_neg (Nat.lt_irrefl _),famSt]
   repeat' ((conv=>whnf);first|(refine Br.dec ?_ ?_<;>intro _<;>try omega)|(refine Len.mk (by omega) ?_))
   all_goals (conv=>whnf)
   refine VLe.fz (by simp[stC]) (fun h=>h) (fun i j hi hj=>?_);have e:gC (stC g b) i=rowK' g i (gR g.ports i).length b:=by simp[gC,stC,List.getD,hi]
   show VLe _ (.fz (gC (stC g b) i).length 1 false (vI (gC (stC g b) i)));rw[e];simp only[fSt,if_pos hi];exact VLe.rfl
end Go.Proofs.YtpoplpohbpfbmaaGreatDoor
