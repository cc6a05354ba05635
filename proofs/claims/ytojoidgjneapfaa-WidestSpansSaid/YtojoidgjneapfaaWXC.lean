import Derived.Test.YtojoidgjneapfaaDS1
import Derived.Test.YtojoidgjneapfaaEngZ
namespace Go.Proofs.Ytojoidgjneapfaa
open Go.Eng
set_option maxRecDepth 100000
set_option linter.unusedVariables false
theorem J9a {g:G} (hg:g.valid=true):Und g.ports:=by
 obtain⟨f1,f2,f3,f4,f5,f6,f7⟩:=J0f hg;refine⟨fun v hv l hl=>?_,fun v hv l hl=>⟨_,f7 v hv l hl,by simp⟩⟩;have h:=f6 v hv;rw[okR,Bool.and_eq_true,List.all_eq_true] at h;have:=h.1 _ hl;rw[okL,decide_eq_true_eq] at this;omega
def dst (g:G) (f:Nat):List Int:=(List.range g.ports.length).map (lay g.ports f (g.ports.length-1))
theorem J3A (g:G) (f:Nat):(dst g f).length=g.ports.length:=by simp[dst]
theorem J7t (g:G) (f:Nat) {v:Nat} (hv:v<g.ports.length):gI (dst g f) v=lay g.ports f (g.ports.length-1) v:=by
 simp[dst,gI,hv]
theorem J2Z {g:G} (hg:g.valid=true) (v:Nat):(gR g.ports v).length<=24:=by
 obtain⟨f1,f2,f3,f4,f5,f6,f7⟩:=J0f hg;by_cases h:v<g.ports.length
 . have:=J9B h (f6 v h);omega
 . rw[show gR g.ports v=[] by simp only[gR,List.getD];rw[List.getElem?_eq_none (by omega)];rfl];simp
theorem J7l {n v:Nat} {r:List (Int×Int)} (h:okR n v r=true) {i:Nat} (hi:i<r.length):0<=(gF r i).1/\(gF r i).1<n:=by
 rw[okR,Bool.and_eq_true,List.all_eq_true] at h;have:=h.1 _ (J02 hi);rw[okL,decide_eq_true_eq] at this;exact⟨this.1,this.2.1⟩
def vN (l:List Nat):Nat->Nat->V:=fun i _=>.int .i64 (l.getD i 0:Nat)
def Q3A (j:Nat):Nat->Nat->V:=fun i _=>.int .i64 (if i<j then -1 else 0)
theorem J90 (n j i t:Nat) (hi:i<n) (ht:t<1):VLe (J2b (Q3A j) j 0 [.int .i64 (-1)] i t) (Q3A (j+1) i t):=by
 obtain rfl:t=0:=by omega
 apply VLe.of_eq;by_cases h:i=j
 . subst h;simp[J2b,Q3A]
 . have h1:(i<j+1)=(i<j):=by simp;omega
   simp[J2b,Q3A,h,h1]
theorem J82 (r:List Int) (u i t:Nat) (d:Int) (hu:u<r.length) (ht:t<1):VLe (J2b (vI r) u 0 [.int .i64 d] i t) (vI (r.set u d) i t):=by
 obtain rfl:t=0:=by omega
 apply VLe.of_eq;simp only[J2b,vI,J4B r u i d hu];by_cases h:i=u
 . subst h;simp
 . simp[h]
theorem Q3x (n f i t:Nat) (hf:f<n) (hi:i<n) (ht:t<1):VLe (J2b (Q3A n) f 0 [.int .i64 0] i t) (vI ((List.replicate n (-1)).set f 0) i t):=by
 obtain rfl:t=0:=by omega
 apply VLe.of_eq;simp only[J2b,vI];rw[J4B _ _ _ _ (by simpa using hf)];by_cases h:i=f
 . subst h;simp
 . rw[if_neg (by simp[h]),if_neg h];simp[Q3A,hi,gI]
theorem J7x (p:Nat->Bool):∀n,J3S p n<=n
 | 0=>Nat.le_refl _
 | n+1=>by have:=J7x p n;rw[J3S];split<;>omega
theorem Q2i {p:Pt} (hu:Und p) {f:Nat} (hf:f<p.length):BO p f [f] ((List.replicate p.length (-1)).set f 0):=by
 have hg:=fun x=>J4B (List.replicate p.length (-1)) f x 0 (by simpa using hf);have hr:∀x,x<p.length->gI (List.replicate p.length (-1)) x=-1:=fun x hx=>by simp[gI,hx]
 have hv:∀x,x<p.length->x≠f->gI ((List.replicate p.length (-1)).set f 0) x=-1:=fun x hx h=>by rw[hg,if_neg h,hr x hx]
 have h0:gI ((List.replicate p.length (-1)).set f 0) f=0:=by rw[hg,if_pos rfl]
 refine { len:=by simp,low:=fun x hx=>?_,from_:=h0,back:=fun x hx hxf h=>?_,qn:=fun u hu=>?_,sorted:=by simp,top:=fun u hu x hx=>?_,done:=fun x hx h hq=>?_ }
 . by_cases e:x=f
   . subst e;rw[h0];decide
   . rw[hv x hx e];decide
 . rw[hv x hx hxf] at h;omega
 . simp at hu;subst hu;exact⟨hf,by rw[h0];decide⟩
 . simp at hu;subst hu;rw[h0];by_cases e:x=u
   . subst e;rw[h0];decide
   . rw[hv x hx e];decide
 . have:x≠f:=by simpa using hq
   rw[hv x hx this] at h;omega
theorem J8A (lo:Nat) (f:Nat->Nat->V) (i j:Nat):J0n lo f i j=f (lo+i) j:=by
 cases lo with
 | zero=>simp[J0n]
 | succ n=>simp[J0n]
theorem Q0W (Q:List Nat) (lo u i t:Nat) (hlo:lo<=Q.length) (hi:i<Q.length-lo+1) (ht:t<1) :
 VLe (J4P (J0n lo (vN Q)) (Q.length-lo) (J0n 0 (tab [[.int .i64 (u:Int)]])) i t) (vN (Q.drop lo++[u]) i t):=by
 obtain rfl:t=0:=by omega
 apply VLe.of_eq;by_cases h:i<Q.length-lo
 . rw[J2k h];simp only[J8A,vN];have:(Q.drop lo++[u]).getD i 0=Q.getD (lo+i) 0:=by
    rw[List.getD_eq_getElem?_getD,List.getD_eq_getElem?_getD,List.getElem?_append_left (by simpa using h),List.getElem?_drop]
   rw[this]
 . rw[J2l h];have:i=Q.length-lo:=by omega
   subst this;simp[J0n,tab,vN]
theorem Q3y {n f:Nat} (hf:f<n):∀y,y<n->gI ((List.replicate n (-1)).set f 0) y+unv ((List.replicate n (-1)).set f 0) n<n:=by
 have hg:=fun x=>J4B (List.replicate n (-1)) f x 0 (by simpa using hf);have h1:unv ((List.replicate n (-1)).set f 0) n+1<=n:=by
  have:=J50 (p:=fun _=>true) (q:=fun v=>decide (v≠f)) (u:=f) rfl (by simp) (fun v hv=>by simp[hv]) hf;have h2:unv ((List.replicate n (-1)).set f 0) n=J3S (fun v=>decide (v≠f)) n:=J51 fun v hv=>by
   rw[hg];by_cases e:v=f
   . simp[e]
   . simp[e,gI,hv]
  have h3:=J7x (fun _=>true) n;omega
 intro y hy;rw[hg];split
 . omega
 . simp only[gI,List.getD,List.getElem?_replicate,hy,if_true,Option.getD_some];omega
theorem J83 (Q:List Nat) (lo i t:Nat) (a:Int) (u:Nat) (hlo:lo<=Q.length) (hi:i<Q.length-lo+1) (ht:t<1) (hu:a=u) :
 VLe (J4P (J0n lo (vN Q)) (Q.length-lo) (J0n 0 (tab [[.int .i64 a]])) i t) (vN (Q.drop lo++[u]) i t):=by
 subst hu;exact Q0W Q lo u i t hlo hi ht
set_option maxHeartbeats 16000000 in
theorem J9i (g:G) (hg:g.valid=true) (f:Nat) (hf:f<g.ports.length):Ret Try.prog 31 [g.v,.int .i64 f] (.fz (dst g f).length 1 false (vI (dst g f))):=by
 obtain⟨f1,f2,f3,f4,f5,f6,f7⟩:=J0f hg;have hu:=J9a hg;refine J0h rfl ?_;refine J0d mixed Try.func31 rfl hc31 hr31 rfl ?_
 repeat' ((conv=>whnf);first|(refine Bd.q ?_)|(refine Len.q ?_)|(refine MkS.vec ?_))
 all_goals (conv=>whnf)
 refine J1H mixed [1,2,5,16] [] [2,3,4,5,6,7,8,9,10,11,12,13,14,15,16,17,18,19,20,21,22,23,24,25,26,27,28,29] [1,0] (fun j:Nat=>[(17,.int .i64 j)]) (fun j=>[(1,.vec g.ports.length 1 (Q3A j)),(0,.cells [.fz g.ids.length 1 false (vI g.ids),.fz g.ports.length 1 false (vP g.ports)])]) (fun m j=>m=g.ports.length-j/\j<=g.ports.length) g.ports.length 0 ⟨rfl,Nat.zero_le _⟩ rfl (fun _=>rfl) ?_ ?_
 . refine J0g (fun _ _=>[(0,some 0),(1,some 1)]) ?_ ?_ rfl
   . repeat' (first|exact tI|(refine⟨⟨_,rfl,?_⟩,?_⟩)|exact J0a.kf rfl|exact J0a.loc rfl|exact J0a.q)
   . repeat' (first|exact⟨Nat.le_refl _,rfl,fun i j hi hj=>VLe.of_eq (by obtain rfl:j=0:=(by omega);rfl)⟩|exact tI|(refine⟨⟨_,rfl,?_⟩,?_⟩)|exact J0a.kf rfl|apply And.intro)
 rintro m j ⟨hm,hj⟩;by_cases hjn:j<g.ports.length
 . repeat' ((conv=>whnf);first|(refine Br.dec ?_ ?_<;>intro _<;>try omega)|(refine Ar.q ?_)|(refine Ix.q ?_)|(refine Ltn.q ?_))
   all_goals (conv=>whnf)
   refine⟨g.ports.length-(j+1),j+1,by omega,⟨rfl,by omega⟩,?_⟩;refine J0g (fun _ _=>[(0,some 0),(1,some 1)]) ?_ ?_ rfl
   . repeat' (first|exact tI|(refine⟨⟨_,rfl,?_⟩,?_⟩)|exact J0a.kf rfl|exact J0a.loc rfl|exact J0a.q)
   . repeat' (first|exact⟨Nat.le_refl _,rfl,fun i t hi ht=>by simp only[Nat.zero_add];exact J90 _ _ _ _ hi ht⟩|exact tI|(refine⟨⟨_,rfl,?_⟩,?_⟩)|exact J0a.kf rfl|apply And.intro)
 . have ej:j=g.ports.length:=by omega
   subst ej
   repeat' ((conv=>whnf);first|(refine Br.dec ?_ ?_<;>intro _<;>try omega)|(refine Ix.q ?_)|(refine Ltn.q ?_))
   all_goals (conv=>whnf)
   refine J1H mixed [2,5] [2] [3,4,5,6,7,8,9,10,11,12,13,14,15,16,17,18,19,20,21,22,23,24,25,26,27,28,29] [2,1,0] (fun x:Nat×List Nat×List Int=>[(7,.vec 2 1 x.1 (x.2.1.length-x.1))]) (fun x=>[(2,.vec x.2.1.length 1 (vN x.2.1)),(1,.vec g.ports.length 1 (vI x.2.2)),(0,.cells [.fz g.ids.length 1 false (vI g.ids),.fz g.ports.length 1 false (vP g.ports)])])
    (fun m x=>m=2*unv x.2.2 g.ports.length+(x.2.1.length-x.1)/\x.1<=x.2.1.length/\x.2.1.length<=60/\m<=50/\BO g.ports f (x.2.1.drop x.1) x.2.2/\∀y,y<g.ports.length->gI x.2.2 y+unv x.2.2 g.ports.length<g.ports.length) _ (0,[f],(List.replicate g.ports.length (-1)).set f 0) ⟨rfl,by simp,by simp,?_,Q2i hu hf,Q3y hf⟩ rfl (fun _=>rfl) ?_ ?_
   . have:=J7x (fun v=>decide (gI ((List.replicate g.ports.length (-1)).set f 0) v<0)) g.ports.length;simp only[unv,List.length_cons,List.length_nil];omega
   . refine J0g (fun _ _=>[(0,some 0),(1,some 1),(2,some 2)]) ?_ ?_ rfl
     . repeat' (first|exact tI|(refine⟨⟨_,rfl,?_⟩,?_⟩)|exact J0a.loc rfl|exact J0a.q)
     . repeat' (first|exact⟨Nat.le_refl _,rfl,fun i t hi ht=>by simp only[Nat.zero_add];exact Q3x _ _ _ _ hf hi ht⟩|exact⟨Nat.le_refl _,rfl,fun i t hi ht=>VLe.of_eq (by obtain rfl:i=0:=(by simpa using hi);obtain rfl:t=0:=(by omega);rfl)⟩|exact tI|(refine⟨⟨_,rfl,?_⟩,?_⟩)|exact J0a.kf rfl|apply And.intro)
   rintro m ⟨lo,Q,r⟩ ⟨hm,hlo,hQ,hm50,hbo,hbd⟩;simp only at hm hlo hQ hbo hbd ⊢;by_cases hq:lo<Q.length
   . obtain⟨v,hv⟩:∃v,Q.getD lo 0=v:=⟨_,rfl⟩;have hdrop:Q.drop lo=v::Q.drop (lo+1):=by
      rw[List.drop_eq_getElem_cons hq,<- hv];simp[hq]
     rw[hdrop] at hbo;have hbp:=hbo.pop;obtain⟨hvn,hv0⟩:=hbp.vn;have hrl:=J2Z hg v;have hlen:=hbp.len;have hQv:vN Q lo 0=.int .i64 (v:Int):=by simp only[vN,hv]
     have hQ0:Q.getD (lo+0) 0=v:=hv
     repeat' ((conv=>whnf);first|(refine Ix.w v ?_)|(refine Br.dec ?_ ?_<;>intro _<;>try omega)|(refine Br.nble ?_ ?_<;>intro _<;>try omega)|(refine Ix.mk 0 rfl (by omega) ?_)|(refine Bd.mk 1 rfl (by omega) ?_)|(refine Ltn.q ?_))
     all_goals (conv=>whnf)
     refine J1H mixed [2,5,8,41,42] [2] [3,4,5,6,7,8,9,10,11,12,13,14,15,16,17,18,19,20,21,22,23,24,25,26,27,28,29] [2,1,0] (fun x:Nat×Nat×List Nat×List Int=>[(7,.vec 2 1 x.2.1 (x.2.2.1.length-x.2.1)),(43,.int .i64 x.1)]) (fun x=>[(2,.vec x.2.2.1.length 1 (vN x.2.2.1)),(1,.vec g.ports.length 1 (vI x.2.2.2)),(0,.cells [.fz g.ids.length 1 false (vI g.ids),.fz g.ports.length 1 false (vP g.ports)])])
      (fun k x=>k=(gR g.ports v).length-x.1/\x.1<=(gR g.ports v).length/\x.2.1<=x.2.2.1.length/\x.2.2.1.length<=60/\2*unv x.2.2.2 g.ports.length+(x.2.2.1.length-x.2.1)<m/\BP g.ports f v x.1 (x.2.2.1.drop x.2.1) x.2.2.2/\∀y,y<g.ports.length->gI x.2.2.2 y+unv x.2.2.2 g.ports.length<g.ports.length) _ (0,lo+1,Q,r) ⟨rfl,by simp,by simp only;omega,hQ,by simp only;omega,hbp,hbd⟩ rfl (fun _=>rfl) ?_ ?_
     . exact J0e (fun _ _=>[(0,some 0),(1,some 1),(2,some 2)])
     rintro k ⟨i,lo2,Q2,r2⟩ ⟨hk,hi,hlo2,hQ2,hm2,hbp2,hbd2⟩;simp only at hk hi hlo2 hQ2 hm2 hbp2 hbd2 ⊢;obtain⟨_,hv2⟩:=hbp2.vn;have hlen2:=hbp2.len;have hvb:0<=gI r2 (0+v)/\gI r2 (0+v)<=24:=by rw[Nat.zero_add];have:=hbd2 v hvn;omega
     by_cases hil:i<(gR g.ports v).length
     . have hr:=J7l (f6 v hvn) hil;have hr':toN g.ports v i<g.ports.length:=by show(gF (gR g.ports v) i).1.toNat<_;omega
       by_cases hneg:gI r2 (gF (gR g.ports v) i).1.toNat<0
       . obtain⟨hbp3,hun⟩:=hbp2.visit hu hil hneg;have hneg2:gI r2 (0+(gF (gR g.ports v) i).1.toNat)<0:=by rw[Nat.zero_add];exact hneg
         repeat' ((conv=>whnf);first|(refine Ix.w v ?_)|(refine Br.dec ?_ ?_<;>intro _<;>try omega)|(refine Br.nbeq ?_ ?_<;>intro _<;>try omega)|(refine Ar.q ?_)|(refine Ix.q ?_)|(refine Ix.int (by omega) (by omega) ?_)|(refine Len.q ?_)|(refine Ltn.q ?_))
         all_goals (conv=>whnf)
         have hdl:(Q2.drop lo2++[toN g.ports v i]).length=Q2.length-lo2+1:=by simp
         refine⟨(gR g.ports v).length-(i+1),(i+1,0,Q2.drop lo2++[toN g.ports v i],r2.set (toN g.ports v i) (gI r2 v+1)),by omega,⟨rfl,by simp only;omega,by simp,by simp only[hdl];omega,by simp only[hdl];omega,hbp3,fun y hy=>?_⟩,?_⟩
         . have hb:=hbd2 y hy;have hb2:=hbd2 v hvn;simp only;rw[J4B _ _ _ _ (by rw[hlen2];exact hr')];split<;>omega
         simp only[hdl];refine J0g (fun env own=>[(0,some 0),(1,some 1),(2,Q5h env 66)]) ?_ ?_ rfl
         . repeat' (first|exact tI|(refine⟨⟨_,rfl,?_⟩,?_⟩)|exact J0a.kf rfl|exact J0a.loc rfl|exact J0a.q)
         . repeat' (first|exact⟨Nat.le_refl _,rfl,fun a t ha ht=>by simp only[Nat.zero_add];exact J82 _ _ _ _ _ (by rw[hlen2];exact hr') ht⟩|exact⟨by omega,rfl,fun a t ha ht=>J83 _ _ _ _ _ _ hlo2 ha ht (show(gF (gR g.ports v) i).1=((gF (gR g.ports v) i).1.toNat:Nat) by omega)⟩|exact tI|(refine⟨⟨_,rfl,?_⟩,?_⟩)|exact J0a.kf rfl|apply And.intro)
       . have hneg2:¬ gI r2 (0+(gF (gR g.ports v) i).1.toNat)<0:=by rw[Nat.zero_add];exact hneg
         have hbp3:=hbp2.skip hil (show 0<=gI r2 (gF (gR g.ports v) i).1.toNat by omega)
         repeat' ((conv=>whnf);first|(refine Br.dec ?_ ?_<;>intro _<;>try omega)|(refine Ar.q ?_)|(refine Ix.q ?_)|(refine Ix.int (by omega) (by omega) ?_)|(refine Ltn.q ?_))
         all_goals (conv=>whnf)
         refine⟨(gR g.ports v).length-(i+1),(i+1,lo2,Q2,r2),by omega,⟨rfl,by simp only;omega,hlo2,hQ2,hm2,hbp3,hbd2⟩,?_⟩;exact J0e (fun env own=>[(0,some 0),(1,some 1),(2,some 2)])
     . have hfin:=hbp2.fin hu (by omega)
       repeat' ((conv=>whnf);first|(refine Br.dec ?_ ?_<;>intro _<;>try omega))
       all_goals (conv=>whnf)
       refine⟨_,(lo2,Q2,r2),hm2,⟨rfl,hlo2,hQ2,by omega,hfin,hbd2⟩,?_⟩;exact J0e (fun env own=>[(0,some 0),(1,some 1),(2,some 2)])
   . have e:lo=Q.length:=by omega
     subst e;rw[List.drop_length] at hbo;have hfd:=hbo.found;have hlen:=hbo.len
     repeat' ((conv=>whnf);first|(refine Br.dec ?_ ?_<;>intro _<;>try omega)|(refine Len.q ?_))
     all_goals (conv=>whnf)
     refine VLe.fz (J3A g f).symm (fun h=>h) (fun i t hi ht=>VLe.of_eq ?_);rw[J8A];simp only[vI,Nat.zero_add];rw[J7t g f hi,hfd.eq hu hf hi]
theorem J30 (p:Pt) (f:Nat):∀k v,-1<=lay p f k v/\lay p f k v<=k
 | 0,v=>by rw[lay];split<;>omega
 | k+1,v=>by
   have:=J30 p f k v;rw[lay];split
   . omega
   . split<;>omega
theorem J4s {p:Pt} {f k v:Nat} (h:0<=lay p f k v):∀m,lay p f (k+m) v=lay p f k v
 | 0=>rfl
 | m+1=>by
   have:=J4s h m;rw[<- Nat.add_assoc,lay,this,if_pos h]
theorem J6L {p:Pt} {f:Nat}:∀{k v:Nat},0<=lay p f k v->lay p f (lay p f k v).toNat v=lay p f k v
 | 0,v,h=>by
   have:=J30 p f 0 v;have e:lay p f 0 v=0:=by omega
   rw[e];exact e
 | k+1,v,h=>by
   by_cases h0:0<=lay p f k v
   . have e:lay p f (k+1) v=lay p f k v:=by rw[lay,if_pos h0]
     rw[e];exact J6L h0
   . have e:lay p f (k+1) v=(k:Int)+1:=by
      rw[lay,if_neg h0] at h ⊢;split at h
      . rename_i q;rw[if_pos q]
      . omega
     rw[e,show((k:Int)+1).toNat=k+1 by omega,e]
theorem J8L {p:Pt} {f k m v:Nat} (h:0<=lay p f k v) (h':0<=lay p f m v):lay p f k v=lay p f m v:=by
 rcases Nat.le_total k m with q|q
 . have:=J4s h (m-k);rw[show k+(m-k)=m by omega] at this;exact this.symm
 . have:=J4s h' (k-m);rw[show m+(k-m)=k by omega] at this;exact this
theorem J6M {p:Pt} {f:Nat}:∀{k v:Nat},0<=lay p f k v->v≠f->∃l∈gR p v,lay p f k l.1.toNat=lay p f k v-1/\0<=lay p f k l.1.toNat
 | 0,v,h,hv=>by rw[lay,if_neg hv] at h;omega
 | k+1,v,h,hv=>by
   by_cases h0:0<=lay p f k v
   . obtain⟨l,hl,a,b⟩:=J6M h0 hv;have e1:lay p f (k+1) v=lay p f k v:=by rw[lay,if_pos h0]
     have e2:lay p f (k+1) l.1.toNat=lay p f k l.1.toNat:=by rw[lay,if_pos b]
     exact⟨l,hl,by rw[e1,e2];exact a,by rw[e2];exact b⟩
   . by_cases ha:(gR p v).any (fun l=>decide (lay p f k l.1.toNat=k))=true
     . have e1:lay p f (k+1) v=(k:Int)+1:=by rw[lay,if_neg h0,if_pos ha]
       rw[List.any_eq_true] at ha;obtain⟨l,hl,e⟩:=ha;have e:=of_decide_eq_true e;have e2:lay p f (k+1) l.1.toNat=k:=by rw[lay,if_pos (by omega)];exact e
       exact⟨l,hl,by rw[e1,e2];omega,by rw[e2];omega⟩
     . rw[lay,if_neg h0,if_neg ha] at h;omega
open Classical in
noncomputable def Q1I (p:Pt) (f v:Nat):Int:=if h:∃k,0<=lay p f k v then lay p f (Classical.choose h) v else -1
theorem J4t {p:Pt} {f k v:Nat} (h:0<=lay p f k v):Q1I p f v=lay p f k v:=by
 have hx:∃k,0<=lay p f k v:=⟨k,h⟩;rw[Q1I,dif_pos hx];exact J8L (Classical.choose_spec hx) h
theorem J74 {p:Pt} {f v:Nat} (h:0<=Q1I p f v):∃k,0<=lay p f k v/\Q1I p f v=lay p f k v:=by
 by_cases hx:∃k,0<=lay p f k v
 . obtain⟨k,hk⟩:=hx;exact⟨k,hk,J4t hk⟩
 . rw[Q1I,dif_neg hx] at h;omega
theorem Q1H (p:Pt) (f v:Nat):-1<=Q1I p f v:=by
 rw[Q1I];split
 . exact(J30 p f _ v).1
 . omega
theorem J8M {p:Pt} (f:Nat) (hu:Und p):J4W p f (Q1I p f):=by
 have hf0:lay p f 0 f=0:=by rw[lay,if_pos rfl]
 refine⟨fun v _=>Q1H p f v,by rw[J4t (k:=0) (by omega),hf0],fun v hv hvf h=>?_,fun v hv h l hl=>?_⟩
 . obtain⟨k,hk,e⟩:=J74 h;obtain⟨l,hl,a,b⟩:=J6M hk hvf;exact⟨l,hl,by rw[J4t b,e];exact a,by rw[J4t b];exact b⟩
 . obtain⟨k,hk,e⟩:=J74 h;obtain⟨m,hm,em⟩:=hu.sym v hv l hl;have hs:=J6L hk;have hd:((lay p f k v).toNat:Int)=lay p f k v:=by omega
   generalize (lay p f k v).toNat=d at *;have key:0<=lay p f (d+1) l.1.toNat:=by
    rw[lay];split
    . assumption
    . rw[if_pos (by rw[List.any_eq_true];exact⟨m,hm,by rw[em,hs,<- hd];simp⟩)];omega
   have hle:=(J30 p f (d+1) l.1.toNat).2;rw[J4t key,e,<- hd];omega
theorem Q0f {g:G} (hg:g.valid=true):J4W g.ports 0 (fun v=>gI (dst g 0) v):=by
 obtain⟨f1,f2,f3,f4,f5,f6,f7⟩:=J0f hg;have hu:=J9a hg;have hF:=J8M 0 hu;have he:∀v,v<g.ports.length->gI (dst g 0) v=Q1I g.ports 0 v:=fun v hv=>by rw[J7t g 0 hv];exact hF.eq hu (by omega) hv
 refine⟨fun v hv=>by rw[he v hv];exact hF.low v hv,by rw[he 0 (by omega)];exact hF.from_,fun v hv h0 h=>?_,fun v hv h l hl=>?_⟩
 . rw[he v hv] at h ⊢;obtain⟨l,hl,a,b⟩:=hF.back v hv h0 h;exact⟨l,hl,by rw[he _ (hu.rng v hv l hl)];exact a,by rw[he _ (hu.rng v hv l hl)];exact b⟩
 . rw[he v hv] at h ⊢;rw[he _ (hu.rng v hv l hl)];exact hF.on v hv h l hl
def Q2u (l:List Int):Bool:=l.any fun a=>decide (a<0)
theorem J5J {l:List Int}:Q2u l=false↔∀a∈l,0<=a:=by
 rw[Q2u,List.any_eq_false];constructor
 . intro h a ha;have:=h a ha;simp at this;omega
 . intro h a ha;have:=h a ha;simp;omega
def Q4E (l:List Int):Int:=if Q2u l then -1 else Q0K l (-1)
theorem Q3k (l:List Int) (hl:l.length<=1000):Ret Try.prog 52 [.fz l.length 1 false (vI l)] (.int .i64 (Q4E l)):=by
 refine J0h rfl ?_;refine J0d mixed Try.func52 rfl hc52 hr52 rfl ?_
 repeat' ((conv=>whnf);first|fail)
 all_goals (conv=>whnf)
 refine J1r mixed [0] (fun i:Nat=>[(3,.int .i64 (Q0K (l.take i) (-1))),(4,.int .i64 i)]) (fun m i=>m=l.length-i/\i<=l.length/\∀a∈l.take i,0<=a) l.length 0 ⟨rfl,Nat.zero_le _,by simp⟩ ?_ ?_
 . exact J0e (fun _ _=>[])
 rintro m i ⟨hm,hi,hall⟩
 repeat' ((conv=>whnf);first|(refine Br.dec ?_ ?_<;>intro _<;>try omega)|(refine Ar.q ?_)|(refine Sv.mk _ rfl ?_)|(refine Ix.q ?_))
 all_goals (conv=>whnf)
 . refine VLe.int ?_;rw[Q4E,if_pos];rw[Q2u,List.any_eq_true];exact⟨gI l i,J5g (by omega),by simp;omega⟩
 . refine⟨l.length-(i+1),i+1,by omega,⟨rfl,by omega,?_⟩,?_⟩
   . rw[J1I l i (by omega)];intro a ha;rcases List.mem_append.1 ha with h|h
     . exact hall a h
     . simp at h;omega
   . simp only[J1I l i (by omega),J6I];exact J0e (fun _ _=>[])
 . rw[List.take_of_length_le (by omega)] at hall ⊢;refine VLe.int ?_;rw[Q4E,J5J.2 hall,if_neg (by simp)]
def G.conn (g:G):Bool:=g.valid&&!Q2u (dst g 0)
theorem J5Y (g:G) (hs:g.Small):Ret Try.prog 13 [g.v] (.bool g.conn):=by
 have hval:=Q00 g hs;refine J0h rfl ?_;refine J0d mixed Try.func13 rfl hc13 hr13 rfl ?_;rw[G.conn];by_cases hg:g.valid=true
 . obtain⟨f1,f2,f3,f4,f5,f6,f7⟩:=J0f hg;have hsr:=J9i g hg 0 (by omega);have hdl:=J3A g 0;rw[hg] at hval ⊢;rw[Bool.true_and];generalize dst g 0=l at *
   repeat' ((conv=>whnf);first|(refine Br.tt ?_)|(refine hval.go ?_)|(refine hsr.go ?_))
   all_goals (conv=>whnf)
   refine J1r mixed [9,10] (fun i:Nat=>[(11,.int .i64 i)]) (fun m i=>m=l.length-i/\i<=l.length/\∀a∈l.take i,0<=a) l.length 0 ⟨rfl,Nat.zero_le _,by simp⟩ ?_ ?_
   . exact J0e (fun _ _=>[(0,some 0)])
   rintro m i ⟨hm,hi,hall⟩
   repeat' ((conv=>whnf);first|(refine Br.dec ?_ ?_<;>intro _<;>try omega)|(refine Ar.q ?_)|(refine Ix.q ?_))
   all_goals (conv=>whnf)
   . refine VLe.bool ?_;have:Q2u l=true:=by
      rw[Q2u,List.any_eq_true];exact⟨gI l i,J5g (by omega),by simp;omega⟩
     rw[this];rfl
   . refine⟨l.length-(i+1),i+1,by omega,⟨rfl,by omega,?_⟩,?_⟩
     . rw[J1I l i (by omega)];intro a ha;rcases List.mem_append.1 ha with h|h
       . exact hall a h
       . simp at h;omega
     . exact J0e (fun _ _=>[(0,some 0)])
   . rw[List.take_of_length_le (by omega)] at hall;rw[J5J.2 hall];exact VLe.rfl
 . simp only[Bool.not_eq_true] at hg;rw[hg] at hval ⊢
   repeat' ((conv=>whnf);first|(refine Br.ff ?_)|(refine hval.go ?_))
   all_goals (conv=>whnf)
   all_goals exact VLe.rfl
theorem J0o {g:G} (h:g.conn=true):g.valid=true/\∀v,v<g.ports.length->0<=gI (dst g 0) v:=by
 simp only[G.conn,Bool.and_eq_true,Bool.not_eq_true'] at h;exact⟨h.1,fun v hv=>J5J.1 h.2 _ (J5g (by rw[J3A];exact hv))⟩
def J9E (p:Pt) (f k v:Nat) (w:Int) (u:Nat):Int:=if u<v then lay p f (k+1) u else if u=v then w else lay p f k u
def Q01 (p:Pt) (f k v:Nat) (w:Int):Nat->Nat->V:=fun u _=>.int .i64 (J9E p f k v w u)
theorem J5N (p:Pt) (f:Nat):∀k v,-1<=lay p f k v/\lay p f k v<=k
 | 0,v=>by rw[lay];split<;>omega
 | k+1,v=>by
   have:=J5N p f k v;rw[lay];split
   . omega
   . split<;>omega
theorem Q1G (p:Pt) (f k u:Nat):lay p f (k+1) u=k↔lay p f k u=k:=by
 have:=J5N p f k u;rw[lay];split
 . exact Iff.rfl
 . split<;>omega
def J3X (p:Pt) (f k v i:Nat):Int:=if 0<=lay p f k v then lay p f k v else if ((gR p v).take i).any (fun l=>decide (lay p f k l.1.toNat=k)) then (k:Int)+1 else -1
theorem Q1z (p:Pt) (f k v:Nat):J3X p f k v 0=lay p f k v:=by
 have:=J5N p f k v;rw[J3X];split
 . rfl
 . simp;omega
theorem Q3t (p:Pt) (f k v i:Nat) (h:(gR p v).length<=i):J3X p f k v i=lay p f (k+1) v:=by
 rw[J3X,lay,List.take_of_length_le h]
theorem Q1A {p:Pt} {f k v i j:Nat} (h:0<=J3X p f k v i) (hij:i<=j):J3X p f k v j=J3X p f k v i:=by
 rw[J3X,J3X] at *;split
 . rfl
 . rename_i h0;rw[if_neg h0] at h;split at h
   . rename_i h1;rw[List.any_eq_true] at h1;obtain⟨l,hl,e⟩:=h1;have:((gR p v).take j).any (fun l=>decide (lay p f k l.1.toNat=k))=true:=by
      rw[List.any_eq_true];exact⟨l,(List.take_sublist_take_left hij).mem hl,e⟩
     rw[if_pos this,if_pos];rw[List.any_eq_true];exact⟨l,hl,e⟩
   . omega
theorem Q1B {p:Pt} {f k v i:Nat} (hi:i<(gR p v).length) (h:J3X p f k v i<0):J3X p f k v (i+1)=if lay p f k (toN p v i)=k then (k:Int)+1 else -1:=by
 have h0:¬ 0<=lay p f k v:=fun h0=>by rw[J3X,if_pos h0] at h;omega
 rw[J3X,if_neg h0] at h ⊢;rw[J1k _ i hi,List.any_append];have h1:((gR p v).take i).any (fun l=>decide (lay p f k l.1.toNat=k))=false:=by
  cases e:((gR p v).take i).any (fun l=>decide (lay p f k l.1.toNat=k)) with
  | false=>rfl
  | true=>rw[e,if_pos rfl] at h;omega
 rw[h1];by_cases e:lay p f k (toN p v i)=k
 . rw[if_pos e,if_pos (by simpa[toN] using e)]
 . rw[if_neg e,if_neg (by simpa[toN] using e)]
theorem J4p (p:Pt) (f k u:Nat) (w:Int) (hw:w=lay p f k 0):J9E p f k 0 w u=lay p f k u:=by
 rw[J9E,if_neg (by omega)];split
 . rename_i e;rw[e];exact hw
 . rfl
theorem Q1y (p:Pt) (f k v u:Nat) (w w':Int) (hw:w=lay p f (k+1) v) (hw':w'=lay p f k (v+1)):J9E p f k v w u=J9E p f k (v+1) w' u:=by
 simp only[J9E];by_cases h1:u<v
 . rw[if_pos h1,if_pos (by omega)]
 . rw[if_neg h1];by_cases h2:u=v
   . subst h2;rw[if_pos rfl,if_pos (by omega)];exact hw
   . rw[if_neg h2,if_neg (by omega)];split
     . rename_i e;rw[e];exact hw'.symm
     . rfl
def Q4f (p:Prop):Prop:=p
theorem Q0U (n i j:Nat) (hi:i<n+1) (hj:j<1):VLe (J4P (J0n 0 fun _ _=>.int .i64 (-1)) n (J0n 0 (tab [[.int .i64 (-1)]])) i j) (.int .i64 (-1)):=by
 obtain rfl:j=0:=by omega
 apply VLe.of_eq;by_cases h:i<n
 . rw[J2k h];rfl
 . rw[J2l h,show i-n=0 by omega];rfl
theorem Q0V (p:Pt) (f i j:Nat) (hj:j<1):VLe (J2b (fun _ _=>.int .i64 (-1)) (0+f) 0 [.int .i64 0] i j) (Q01 p f 0 0 (lay p f 0 0) i j):=by
 obtain rfl:j=0:=by omega
 apply VLe.of_eq;simp only[J2b,Q01];rw[J4p p f 0 i _ rfl,lay,Nat.zero_add];by_cases h:i=f
 . subst h;simp
 . rw[if_neg (by simp[h]),if_neg h]
theorem Q4O {p:Pt} {f k v u:Nat} {w:Int} (h:u≠v):(J9E p f k v w u=k↔lay p f k u=k):=by
 rw[J9E];split
 . exact Q1G p f k u
 . first
    | exact Iff.rfl
    | rw[if_neg h]
theorem Q4K {n v:Nat} {r:List (Int×Int)} (h:okR n v r=true) {i:Nat} (hi:i<r.length):(gF r i).1.toNat≠v:=by
 rw[okR,Bool.and_eq_true,List.all_eq_true] at h;have:=h.1 _ (J02 hi);rw[okL,decide_eq_true_eq] at this;omega
theorem Q3s (p:Pt) (f k v i:Nat):-1<=J3X p f k v i/\J3X p f k v i<=k+1:=by
 have:=J5N p f k v;rw[J3X]
 repeat' split
 all_goals omega
theorem J8t (p:Pt) (f k v:Nat) (w w':Int) (a t:Nat) (ht:t<1):VLe (J2b (Q01 p f k v w) v 0 [.int .i64 w'] a t) (Q01 p f k v w' a t):=by
 obtain rfl:t=0:=by omega
 apply VLe.of_eq;simp only[J2b,Q01,J9E];by_cases h:a=v
 . subst h;simp
 . rw[if_neg (by simp[h]),if_neg h];simp[h]
set_option maxHeartbeats 16000000 in
theorem Q1p (g:G) (hs:g.Small) (hg:g.valid=true) (f:Nat) (hf:f<g.ports.length):Ret Try.prog 53 [g.v,.int .i64 f] (.fz (dst g f).length 1 false (vI (dst g f))):=by
 obtain⟨f1,f2,f3,f4,f5,f6,f7⟩:=J0f hg;have hval:=J6s g hs;rw[hg] at hval;have hin:=J91 f 0 ((g.ports.length:Int)-1);rw[decide_eq_true (by omega)] at hin;refine J0h rfl ?_;refine J0d mixed Try.func53 rfl hc53 hr53 rfl ?_
 repeat' ((conv=>whnf);first|(refine Br.tt ?_)|(refine Ar.q ?_)|(refine hval.go ?_)|(refine hin.go ?_))
 all_goals (conv=>whnf)
 refine J0A mixed [1,2,5] [1] [2,3,4,5,6,7,8,9,10,11,12,13,14,15,16,17,18,19,20,21,22,23,24,25,26,27,28,29] [1,0] (fun v:Nat=>[(6,.vec 1 1 0 v),(7,.int .i64 v)]) (fun own v=>(1,.vec v 1 (fun _ _=>.int .i64 (-1)))::own) (fun m v=>m=g.ports.length-v/\v<=g.ports.length) g.ports.length 0 ⟨rfl,Nat.zero_le _⟩ rfl (fun _=>rfl) ?_ ?_
 . exact J0e (fun _ _=>[(0,some 0),(1,none)])
 rintro m v ⟨hm,hv⟩;by_cases hvn:v<g.ports.length
 . repeat' ((conv=>whnf);first|(refine Br.dec ?_ ?_<;>intro _<;>try omega)|(refine Br.nbeq ?_ ?_<;>intro _<;>try omega)|(refine Ar.q ?_)|(refine Len.q ?_))
   all_goals (conv=>whnf)
   all_goals
    refine⟨g.ports.length-(v+1),v+1,by omega,⟨rfl,by omega⟩,?_⟩;refine J0g (fun env own=>[(0,some 0),(1,Q5h env 6)]) ?_ ?_ rfl
    . repeat' (first|exact tI|(refine⟨⟨_,rfl,?_⟩,?_⟩)|exact J0a.kf rfl|exact J0a.loc rfl|exact J0a.q)
    . repeat' (first|(refine⟨Nat.le_refl _,rfl,fun i j hi hj=>?_⟩)|exact Q0U _ _ _ hi hj|exact tI|(refine⟨⟨_,rfl,?_⟩,?_⟩)|exact J0a.kf rfl|apply And.intro)
 . have ev:v=g.ports.length:=by omega
   subst ev
   repeat' ((conv=>whnf);first|(refine Br.dec ?_ ?_<;>intro _<;>try omega)|(refine Ix.q ?_)|(refine Ltn.q ?_))
   all_goals (conv=>whnf)
   refine J1H mixed [2,5,6] [] [2,3,4,5,6,7,8,9,10,11,12,13,14,15,16,17,18,19,20,21,22,23,24,25,26,27,28,29] [1,0] (fun k:Nat=>[(8,.int .i64 ((k:Int)+1))]) (fun k=>[(1,.vec g.ports.length 1 (Q01 g.ports f k 0 (lay g.ports f k 0))),(0,.cells [.fz g.ids.length 1 false (vI g.ids),.fz g.ports.length 1 false (vP g.ports)])]) (fun m k=>m=g.ports.length-1-k/\k<=g.ports.length-1) (g.ports.length-1) 0 ⟨rfl,Nat.zero_le _⟩ rfl (fun _=>rfl) ?_ ?_
   . refine J0g (fun _ _=>[(0,some 0),(1,some 1)]) ?_ ?_ rfl
     . repeat' (first|exact tI|(refine⟨⟨_,rfl,?_⟩,?_⟩)|exact J0a.kf rfl|exact J0a.loc rfl|exact J0a.q)
     . repeat' (first|exact⟨Nat.le_refl _,rfl,fun i j hi hj=>Q0V _ _ _ _ hj⟩|exact tI|(refine⟨⟨_,rfl,?_⟩,?_⟩)|exact J0a.kf rfl|apply And.intro)
   rintro m k ⟨hm,hk⟩;by_cases hkn:k<g.ports.length-1
   . repeat' ((conv=>whnf);first|(refine Br.dec ?_ ?_<;>intro _<;>try omega))
     all_goals (conv=>whnf)
     refine J1H mixed [2,5,6,8] [] [2,3,4,5,6,7,8,9,10,11,12,13,14,15,16,17,18,19,20,21,22,23,24,25,26,27,28,29] [1,0] (fun v:Nat=>[(9,.int .i64 v)]) (fun v=>[(1,.vec g.ports.length 1 (Q01 g.ports f k v (lay g.ports f k v))),(0,.cells [.fz g.ids.length 1 false (vI g.ids),.fz g.ports.length 1 false (vP g.ports)])]) (fun m v=>m=g.ports.length-v/\v<=g.ports.length) g.ports.length 0 ⟨rfl,Nat.zero_le _⟩ rfl (fun _=>rfl) ?_ ?_
     . exact J0e (fun _ _=>[(0,some 0),(1,some 1)])
     rintro m v ⟨hm,hv⟩;by_cases hvn:v<g.ports.length
     . have hrl:=J2Z hg v
       repeat' ((conv=>whnf);first|(refine Br.dec ?_ ?_<;>intro _<;>try omega))
       all_goals (conv=>whnf)
       refine J1H mixed [2,5,6,8,9] [] [2,3,4,5,6,7,8,9,10,11,12,13,14,15,16,17,18,19,20,21,22,23,24,25,26,27,28,29] [1,0] (fun i:Nat=>[(10,.int .i64 i)]) (fun i=>[(1,.vec g.ports.length 1 (Q01 g.ports f k v (J3X g.ports f k v i))),(0,.cells [.fz g.ids.length 1 false (vI g.ids),.fz g.ports.length 1 false (vP g.ports)])]) (fun m i=>m=(gR g.ports v).length-i/\i<=(gR g.ports v).length) (gR g.ports v).length 0 ⟨rfl,Nat.zero_le _⟩ rfl (fun _=>rfl) ?_ ?_
       . refine J0g (fun _ _=>[(0,some 0),(1,some 1)]) ?_ ?_ rfl
         . repeat' (first|exact tI|(refine⟨⟨_,rfl,?_⟩,?_⟩)|exact J0a.kf rfl|exact J0a.loc rfl|exact J0a.q)
         . repeat' (first|exact⟨Nat.le_refl _,rfl,fun i j hi hj=>VLe.of_eq (by rw[Q1z])⟩|exact tI|(refine⟨⟨_,rfl,?_⟩,?_⟩)|exact J0a.kf rfl|apply And.intro)
       rintro m i ⟨hm,hi⟩;have hml:=Q3s g.ports f k v i;have hv0:J9E g.ports f k v (J3X g.ports f k v i) (0+v)=J3X g.ports f k v i:=by rw[Nat.zero_add,J9E,if_neg (by omega),if_pos rfl]
       have hfin:Q4f ((¬ i<(gR g.ports v).length)\/0<=J3X g.ports f k v i->J3X g.ports f k v i=lay g.ports f (k+1) v):=fun h=>by
        rw[<- Q3t g.ports f k v (gR g.ports v).length (Nat.le_refl _)];rcases h with h|h
        . rw[show i=(gR g.ports v).length by omega]
        . exact(Q1A h hi).symm
       by_cases hgo:i<(gR g.ports v).length/\J3X g.ports f k v i<0
       . obtain⟨hil,hneg⟩:=hgo;have hr:=J7l (f6 v hvn) hil;have hrn:=Q4K (f6 v hvn) hil;have hat:=Q4O (p:=g.ports) (f:=f) (k:=k) (w:=J3X g.ports f k v i) hrn;have hnx:=Q1B hil hneg;rw[show toN g.ports v i=(gF (gR g.ports v) i).1.toNat from rfl] at hnx;rw[<- Nat.zero_add (gF (gR g.ports v) i).1.toNat] at hat;have hat:Q4f _:=hat;have hnx:Q4f _:=hnx
         repeat' ((conv=>whnf);first|(refine Br.dec ?_ ?_<;>intro _<;>try omega)|(refine Ar.q ?_)|(refine Ix.q ?_)|(refine Ix.int (by omega) (by omega) ?_)|(refine Ltn.q ?_))
         all_goals (conv=>whnf)
         . rename_i he;unfold Q4f at hat hnx;rw[if_pos (by rw[<- Nat.zero_add (gF (gR g.ports v) i).1.toNat,<- hat];omega)] at hnx;refine⟨(gR g.ports v).length-(i+1),i+1,by omega,⟨rfl,by omega⟩,?_⟩;simp only[hnx];refine J0g (fun _ _=>[(0,some 0),(1,some 1)]) ?_ ?_ rfl
           . repeat' (first|exact tI|(refine⟨⟨_,rfl,?_⟩,?_⟩)|exact J0a.kf rfl|exact J0a.loc rfl|exact J0a.q)
           . repeat' (first|exact⟨Nat.le_refl _,rfl,fun a t ha ht=>by simp only[Nat.zero_add];exact J8t _ _ _ _ _ _ _ _ ht⟩|exact tI|(refine⟨⟨_,rfl,?_⟩,?_⟩)|exact J0a.kf rfl|apply And.intro)
         . rename_i he;unfold Q4f at hat hnx;rw[if_neg (by rw[<- Nat.zero_add (gF (gR g.ports v) i).1.toNat,<- hat];omega)] at hnx;refine⟨(gR g.ports v).length-(i+1),i+1,by omega,⟨rfl,by omega⟩,?_⟩;rw[show J3X g.ports f k v i=-1 by omega];simp only[hnx];exact J0e (fun _ _=>[(0,some 0),(1,some 1)])
       . unfold Q4f at hfin;have hfin:=hfin (by omega)
         repeat' ((conv=>whnf);first|(refine Br.dec ?_ ?_<;>intro _<;>try omega)|(refine Ar.q ?_)|(refine Ix.q ?_)|(refine Ltn.q ?_))
         all_goals (conv=>whnf)
         all_goals
          refine⟨g.ports.length-(v+1),v+1,by omega,⟨rfl,by omega⟩,?_⟩;refine J0g (fun _ _=>[(0,some 0),(1,some 1)]) ?_ ?_ rfl
          . repeat' (first|exact tI|(refine⟨⟨_,rfl,?_⟩,?_⟩)|exact J0a.kf rfl|exact J0a.loc rfl|exact J0a.q)
          . repeat' (first|exact⟨Nat.le_refl _,rfl,fun a t ha ht=>VLe.of_eq (congrArg (V.int .i64) (Q1y _ _ _ _ _ _ _ hfin rfl))⟩|exact tI|(refine⟨⟨_,rfl,?_⟩,?_⟩)|exact J0a.kf rfl|apply And.intro)
     . have ev:v=g.ports.length:=by omega
       subst ev
       repeat' ((conv=>whnf);first|(refine Br.dec ?_ ?_<;>intro _<;>try omega)|(refine Ar.q ?_))
       all_goals (conv=>whnf)
       refine⟨g.ports.length-1-(k+1),k+1,by omega,⟨rfl,by omega⟩,?_⟩;refine J0g (fun _ _=>[(0,some 0),(1,some 1)]) ?_ ?_ rfl
       . repeat' (first|exact tI|(refine⟨⟨_,rfl,?_⟩,?_⟩)|exact J0a.kf rfl|exact J0a.loc rfl|exact J0a.q)
       . repeat' (first|exact⟨Nat.le_refl _,rfl,fun a t ha ht=>VLe.of_eq (congrArg (V.int .i64) ((if_pos ha).trans (J4p _ _ _ _ _ rfl).symm))⟩|exact tI|(refine⟨⟨_,rfl,?_⟩,?_⟩)|exact J0a.kf rfl|apply And.intro)
   . have ek:k=g.ports.length-1:=by omega
     subst ek
     repeat' ((conv=>whnf);first|(refine Br.dec ?_ ?_<;>intro _<;>try omega)|(refine Len.q ?_))
     all_goals (conv=>whnf)
     refine VLe.fz (J3A g f).symm (fun h=>h) (fun i t hi ht=>VLe.of_eq ?_);rw[J8A,Q01,Nat.zero_add,J4p _ _ _ _ _ rfl,vI,J7t g f hi]
theorem J9s (g:G) (hs:g.Small) (hg:g.valid=false) (f:Int):Ret Try.prog 53 [g.v,.int .i64 f] .nilslice:=by
 have hval:=J6s g hs;rw[hg] at hval;refine J0h rfl ?_;refine J0d mixed Try.func53 rfl hc53 hr53 rfl ?_
 repeat' ((conv=>whnf);first|(refine Br.ff ?_)|(refine hval.go ?_))
 all_goals (conv=>whnf)
 exact VLe.rfl
theorem Q1i:Ret Try.prog 52 [.nilslice] (.int .i64 (-1)):=by
 refine J0h rfl ?_;refine J0d mixed Try.func52 rfl hc52 hr52 rfl ?_
 repeat' ((conv=>whnf);first|(refine J04 mixed 2 ?_)|(refine Br.ff ?_))
 all_goals (conv=>whnf)
 exact VLe.rfl
theorem Q44 (g:G) (hg:g.valid=true):0<(dst g 0).length:=by
 obtain⟨f1,f2,f3,f4,f5,f6,f7⟩:=J0f hg;rw[J3A];omega
theorem Q1C {l:List Int} (h0:0<l.length) (h:∀a∈l,0<=a):0<=Q0K l (-1):=by
 match l,h0 with
 | a::r,_ =>
   have:=h a (by simp);have h1:=J9H r (if a > -1 then a else -1);have h2:a<=if a > -1 then a else -1:=by split<;>omega
   simp only[Q0K];exact Int.le_trans ‹0<=a› (Int.le_trans h2 h1)
theorem J9m (g:G) (hg:g.valid=true):(0<=Q4E (dst g 0))↔g.conn=true:=by
 rw[G.conn,hg,Bool.true_and,Q4E];cases h:Q2u (dst g 0) with
 | true=>simp
 | false=>simpa using Q1C (Q44 g hg) (J5J.1 h)
theorem Q1q (g:G) (hs:g.Small):Ret Try.prog 38 [g.v] (.bool g.conn):=by
 refine J0h rfl ?_;refine J0d mixed Try.func38 rfl hc38 hr38 rfl ?_;by_cases hg:g.valid=true
 . obtain⟨f1,f2,f3,f4,f5,f6,f7⟩:=J0f hg;have hd:=Q1p g hs hg 0 (by omega);have hr:=Q3k (dst g 0) (by rw[J3A];omega);have hcn:=J9m g hg
   repeat' ((conv=>whnf);first|(refine Br.dec ?_ ?_<;>intro _<;>try omega)|(refine hd.go ?_)|(refine hr.go ?_))
   all_goals (conv=>whnf)
   . rename_i h;exact VLe.bool (hcn.1 h).symm
   . rename_i h;refine VLe.bool ?_;cases e:g.conn with
     | false=>rfl
     | true=>exact(h (hcn.2 e)).elim
 . simp only[Bool.not_eq_true] at hg;have hd:=J9s g hs hg 0;have hn:=Q1i;rw[G.conn,hg]
   repeat' ((conv=>whnf);first|(refine Br.ff ?_)|(refine hd.go ?_)|(refine hn.go ?_))
   all_goals (conv=>whnf)
   exact VLe.rfl
abbrev Q2V:=List (Int×Int)
theorem Q1S {l:Q2V} {i:Nat} (h:i<l.length):l.drop i=gF l i::l.drop (i+1):=by
 rw[List.drop_eq_getElem_cons h];simp only[gF,List.getD,List.getElem?_eq_getElem h,Option.getD_some]
def fpI (p:Int×Int->Bool):Nat->Q2V->Int
 | _,[]=>-1
 | k,l::r=>if p l then k else fpI p (k+1) r
theorem J4C (p:Int×Int->Bool):∀(l:Q2V) (k i:Nat),i<=l.length->(∀a∈l.take i,p a=false)->fpI p k l=fpI p (k+i) (l.drop i)
 | _,k,0,_,_=>by simp
 | [],k,i+1,h,_=>by simp at h
 | a::r,k,i+1,h,h2=>by
   have ha:p a=false:=h2 a (by simp);simp only[fpI,ha,List.drop_succ_cons];rw[if_neg (by simp),J4C p r (k+1) i (by simpa using h) (fun x hx=>h2 x (by simp[hx]))];congr 1;omega
theorem J9b (a b:Int) (f:Nat->Nat->V) (h0:f 0 0=.int .i64 a) (h1:f 1 0=.int .i64 b):∀i j:Nat,i<2->j<1->VLe (f i j) (vI [a,b] i j):=by
 intro i j hi hj;obtain rfl:j=0:=by omega
 rcases (show i=0\/i=1 by omega) with rfl|rfl
 . rw[h0];exact VLe.rfl
 . rw[h1];exact VLe.rfl
theorem Q0k {n m:Nat} {B B':Nat->Nat->Int×Int} {c:Cf} (h:∀v x,v<n->x<m->B v x=B' v x):Q2I n m B c=Q2I n m B' c:=by
 rw[Bool.eq_iff_iff,J2O,J2O];refine⟨fun⟨a,b⟩=>⟨a,fun v hv=>⟨(b v hv).1,fun x hx=>by rw[<- h v x hv hx];exact(b v hv).2 x hx⟩⟩,fun⟨a,b⟩=>⟨a,fun v hv=>⟨(b v hv).1,fun x hx=>by rw[h v x hv hx];exact(b v hv).2 x hx⟩⟩⟩
def inR (a:Int):Prop:=-1073741824<=a/\a<=1073741824
def J2W (b:Bool):Int:=match b with|true=>1|false=>0
def sat (a:Int):Int:=if (if 1073741824<a then 1073741824 else a) > -1073741824 then (if 1073741824<a then 1073741824 else a) else -1073741824
theorem J9j {a:Int} (h:inR a):sat a=a:=by unfold inR at h;unfold sat;rw[if_neg (show ¬ 1073741824<a by omega)];split<;>omega
def unI (op a:Int):Int:=if op=18 then -a else J2W (decide (a=0))
def quoI (a b:Int):Int:=if b=0 then 0 else if a.tmod b≠0/\¬ ((a<0)↔(b<0)) then a.tdiv b-1 else a.tdiv b
def cmpI (op a b:Int):Bool :=
 if op=35 then decide (a=b) else if op=36 then decide (a≠b) else if op=37 then decide (a<b) else if op=38 then decide (a<=b) else if op=39 then decide (b<a) else decide (b<=a)
def binI (op a b:Int):Int :=
 if op=30 then sat (a*b) else if op=31 then sat (quoI a b) else if op=32 then (if b=0 then 0 else sat (a-b*quoI a b)) else if op=33 then sat (a+b) else if op=34 then sat (a-b)
 else if op=41 then J2W (decide (a≠0/\b≠0)) else if op=42 then J2W (decide (a≠0\/b≠0)) else J2W (cmpI op a b)
def Q5M (l:List Int):Nat:=l.countP fun a=>decide (a≠0)
def Q4b:Nat->List Int->Int
 | _,[]=>-1
 | k,a::r=>if a≠0 then k else Q4b (k+1) r
def two (g s a:Int):Int×Int:=if a > g then (a,g) else (g,if a > s then a else s)
def twoL:List Int->Int×Int->Int×Int
 | [],p=>p
 | a::r,p=>twoL r (two p.1 p.2 a)
def twoI (l:List Int):Int×Int:=twoL l (-1073741824,-1073741824)
def Q0J:List Int->Int->Int
 | [],m=>m
 | a::r,m=>Q0J r (if a<m then a else m)
def sumI:List Int->Int->Int
 | [],m=>m
 | a::r,m=>sumI r (m+a)
def fldI (op:Int) (l:List Int):Int :=
 if op=20 then J2W (decide (Q5M l=l.length)) else if op=21 then J2W (decide (0<Q5M l)) else if op=22 then Q5M l else if op=23 then Q4b 0 l
 else if op=24 then Q0J l 1073741824 else if op=25 then (twoI l).1 else if op=26 then sat (sumI l 0) else if op=28 then (twoI l).2 else gI l 0
inductive Tm where
 | leaf (op arg:Int)
 | un (op:Int) (a:Tm)
 | agg (op:Int) (a:Tm)
 | bin (op:Int) (a b:Tm)
 | ite (c a b:Tm)
abbrev Lt2:=List (Int×Int)
def Q3n:Nat->Lt2->Int->Int
 | _,[],_=>-1
 | k,l::r,b=>if l.1=b then k else Q3n (k+1) r b
def Q5V (g:G) (v i:Nat):Int:=Q3n 0 (gR g.ports (gF (gR g.ports v) i).1.toNat) v
def Q5t (g:G):Int:=Q0K g.ids 0
def Q5K (g:G) (v:Nat) (port op:Int):Int :=
 if op=6 then g.ids.length else if op=7 then Q5t g else if op=8 then gI g.ids v else if op=9 then (gR g.ports v).length else if op=10 then J2W (decide (v=0)) else if op=11 then port
 else if op=13 then gI g.ids (gF (gR g.ports v) port.toNat).1.toNat else if op=14 then (gR g.ports (gF (gR g.ports v) port.toNat).1.toNat).length else if op=15 then J2W (decide ((gF (gR g.ports v) port.toNat).1=0))
 else if op=16 then (gF (gR g.ports v) port.toNat).2 else Q5V g v port.toNat
def nbV (g:G) (v:Nat) (port:Int):Nat:=(gF (gR g.ports v) port.toNat).1.toNat
def Q5C (g:G) (c:Cf) (v:Nat) (port op arg:Int):Int :=
 if op=1 then arg else if op=2 then 1 else if op=3 then 0 else if op=4 then -1 else if op=5 then gI (gC c v) arg.toNat else if op=12 then gI (gC c (nbV g v port)) arg.toNat else Q5K g v port op
def Tm.sem (g:G) (c:Cf) (v:Nat):Tm->Int->Int
 | .leaf op arg,port=>Q5C g c v port op arg
 | .un op a,port=>unI op (a.sem g c v port)
 | .agg op a,_=>fldI op ((List.range (gR g.ports v).length).map fun i=>a.sem g c v (i:Nat))
 | .bin op a b,port=>binI op (a.sem g c v port) (b.sem g c v port)
 | .ite q a b,port=>if q.sem g c v port≠0 then a.sem g c v port else b.sem g c v port
structure Rl where
 nm:ByteArray
 gd:Tm
 sets:List (Int×Tm)
instance:Inhabited Tm:=⟨.leaf 2 0⟩
instance:Inhabited Rl:=⟨⟨ByteArray.mk #[],default,[]⟩⟩
structure Pr where
 nm:ByteArray
 vars:List Vr
 rules:List Rl
def bnd (g:G) (x:Vr) (v:Nat):Int×Int:=if x.kind=1 then (x.lo,x.hi+x.pn*g.ids.length+x.pid*Q5t g) else if x.kind=2 then (0,1) else (-1,((gR g.ports v).length:Int)-1)
abbrev x0 (c:Cf) (v:Nat):Int:=gI (gC c v) 0
def J0K (a b:Int):Int:=if b<1 then 0 else if a.tmod b<0 then a.tmod b+b else a.tmod b
theorem J1F (a b:Int) (hb:b<=9223372036854775807):Ret Try.prog 40 [.int .i64 a,.int .i64 b] (.int .i64 (J0K a b)):=by
 refine J0h rfl ?_;refine J0d mixed Try.func40 rfl hc40 hr40 rfl ?_;have h1:1<=b->-b<a.tmod b:=fun h=>Int.neg_lt_of_neg_lt (by have:=Int.lt_tmod_of_pos (-a) (show 0<b by omega);rw[Int.neg_tmod] at this;have h2:=Int.tmod_lt_of_pos (-a) (show 0<b by omega);rw[Int.neg_tmod] at h2;omega);rw[J0K]
 repeat' ((conv=>whnf);first|(refine Br.dec ?_ ?_<;>intro _<;>try omega)|(refine Ar.q ?_)|(refine Sv.mk _ rfl ?_)|(refine Nz.mk (by omega) ?_))
 all_goals (conv=>whnf)
 . rw[if_pos (by omega)];exact VLe.rfl
 . rw[if_neg (by omega),if_pos (by omega)];exact VLe.rfl
 . rw[if_neg (by omega),if_neg (by omega)];exact VLe.rfl
theorem Q2l (l:List Int) (hl:l.length<=9223372036854775807) (i:Nat):Ret Try.prog 41 [.fz l.length 1 false (vI l),.int .i64 i] (.int .i64 (gI l i)):=by
 refine J0h rfl ?_;refine J0d mixed Try.func41 rfl hc41 hr41 rfl ?_
 repeat' ((conv=>whnf);first|(refine Br.dec ?_ ?_<;>intro _<;>try omega)|(refine Ix.q ?_))
 all_goals (conv=>whnf)
 . exact VLe.rfl
 . have:gI l i=0:=by simp only[gI,List.getD];rw[List.getElem?_eq_none (by omega)];rfl
   rw[this];exact VLe.rfl
structure J8p (p:Pr) (g:G) (c:Cf):Prop where
 len:c.length=g.ids.length
 row:∀v,v<c.length->(gC c v).length=p.vars.length
 val:∀v,v<c.length->∀x,x<p.vars.length->(bnd g (gV p.vars x) v).1<=gI (gC c v) x/\gI (gC c v) x<=(bnd g (gV p.vars x) v).2
def gds (p:Pr) (g:G) (c:Cf) (v:Nat):List Int:=p.rules.map fun r=>r.gd.sem g c v (-1)
def J8D (p:Pr) (g:G) (c:Cf) (v:Nat):Int:=Q4b 0 (gds p g c v)
def enN (p:Pr) (g:G) (c:Cf):Nat:=nb (fun v=>decide (0<=J8D p g c v)) g.ids.length
structure Cnt where
 steps:Nat
 moves:Nat
 rounds:Nat
 begun:Nat
 pend:Nat
def one (c:Cf) (x v:Nat):Bool:=decide (gI (gC c v) x=1)
def nm:List (Int×Int)->Nat
 | []=>0
 | l::r=>2 ^ l.1.toNat ||| nm r
theorem Q2t (u:Nat):∀r:List (Int×Int),(nm r).testBit u=r.any fun l=>decide (l.1.toNat=u)
 | []=>by simp[nm]
 | l::r=>by rw[nm,Nat.testBit_or,Nat.testBit_two_pow,Q2t u r,List.any_cons]
def gr (g:G) (W:Nat):Nat->Nat
 | 0=>0
 | b+1=>if W.testBit b=true/\nm (gR g.ports b) &&& gr g W b=0 then gr g W b ||| 2 ^ b else gr g W b
def wsh (e w:Nat):Nat:=if w &&& e=0 then lowb e else w &&& e
def rs (g:G) (k:Int) (e w:Nat):Nat:=if k=1 then lowb (wsh e w) else if k=2 then gr g (wsh e w) 32 else if k=4 then e else wsh e w
def adj (g:G) (u v:Nat):Bool:=(nm (gR g.ports u)).testBit v
theorem J1O {g:G} {u v:Nat}:adj g u v=true↔∃l∈gR g.ports u,l.1.toNat=v:=by
 rw[adj,Q2t,List.any_eq_true];simp
theorem Q3Z {g:G} (hg:g.valid=true) {u v:Nat} (hu:u<g.ports.length) (h:adj g u v=true):adj g v u=true:=by
 obtain⟨f1,f2,f3,f4,f5,f6,f7⟩:=J0f hg;obtain⟨l,hl,rfl⟩:=J1O.1 h;exact J1O.2 ⟨_,f7 u hu l hl,by simp⟩
theorem Q30 {g:G} (hg:g.valid=true) {u:Nat} (hu:u<g.ports.length):adj g u u=false:=by
 obtain⟨f1,f2,f3,f4,f5,f6,f7⟩:=J0f hg;cases h:adj g u u with
 | false=>rfl
 | true =>
   obtain⟨l,hl,h2⟩:=J1O.1 h;have:=(J0s.1 (f6 u hu)).1 l hl;omega
instance:Inhabited Cnt:=⟨⟨0,0,0,0,0⟩⟩
theorem Q2D (p:Pr) (g:G) (c:Cf) (v:Nat):(enN p g c).testBit v=(decide (v<g.ids.length)&&decide (0<=J8D p g c v)):=Q2v _ _ _
end Go.Proofs.Ytojoidgjneapfaa
namespace Go.Plain
abbrev St:=Nat->Bool
structure Adj (n:Nat) (a:Nat->Nat->Bool):Prop where
 sym:∀u v,u<n->v<n->a u v=true->a v u=true
 irr:∀v,v<n->a v v=false
 rng:∀u v,u<n->a u v=true->v<n
def nbM (n:Nat) (a:Nat->Nat->Bool) (m:St) (v:Nat):Bool:=(List.range n).any fun u=>a v u&&m u
def enI (n:Nat) (a:Nat->Nat->Bool) (m:St) (v:Nat):Bool:=match m v with|true=>nbM n a m v|false=>!nbM n a m v
def stI (s m:St):St:=fun v=>match s v with|true=>!m v|false=>m v
variable {n:Nat} {a:Nat->Nat->Bool} {m s:St}
def left (n:Nat) (a:Nat->Nat->Bool) (m p s:St):St:=fun v=>p v&&!s v&&enI n a (stI s m) v
end Go.Plain
namespace Go.Proofs.Ytojoidgjneapfaa
open Go.Eng
set_option maxRecDepth 100000
set_option linter.unusedVariables false
theorem J4v (b:Bool):(J2W b≠0)↔b=true:=by cases b<;>simp[J2W]
theorem Q1L (b:Bool):(J2W b=0)↔b=false:=by cases b<;>simp[J2W]
abbrev adN (g:G):Nat->Nat->Bool:=adj g
theorem J57 {g:G} (hg:g.valid=true):Go.Plain.Adj g.ids.length (adN g):=by
 obtain⟨f1,f2,f3,f4,f5,f6,f7⟩:=J0f hg;refine⟨fun u v hu hv h=>Q3Z hg (by omega) h,fun v hv=>Q30 hg (by omega),fun u v hu h=>?_⟩;obtain⟨l,hl,e⟩:=J1O.1 h;have:=(J0s.1 (f6 u (by omega))).1 l hl;omega
end Go.Proofs.Ytojoidgjneapfaa
namespace Go.Plain.Tree
structure Net (n:Nat) (a:Nat->Nat->Bool) (D:Nat->Nat):Prop where
 rng:∀u v,u<n->a u v=true->v<n
 root:∀v,v<n->(D v=0↔v=0)
 near:∀v,v<n->v≠0->∃u,a v u=true/\D u+1=D v
 step:∀u v,u<n->a u v=true->D u<=D v+1
 top:∀v,v<n->D v+1<=n
structure St where
 d:Nat->Int
 p:Nat->Int
structure Rule (n:Nat) (a:Nat->Nat->Bool) (D:Nat->Nat) (P:Nat->Int) (tg:(Nat->Int)->Nat->Int×Int):Prop where
 root:∀d,tg d 0=(0,-1)
 right:∀d v,v<n->v≠0->(∀u,a v u=true->D u+1=D v->d u=((D u:Nat):Int))->(∀u,a v u=true->D v<=D u->(D v:Int)<=d u)->tg d v=(((D v:Nat):Int),P v)
 low:∀d v (k:Nat),v<n->v≠0->k+1<=n->(∀u,a v u=true->(k:Int)<=d u)->((k+1:Nat):Int)<=(tg d v).1
 proot:P 0=-1
variable {n:Nat} {a:Nat->Nat->Bool} {D:Nat->Nat} {P:Nat->Int} {tg:(Nat->Int)->Nat->Int×Int}
def right (D:Nat->Nat) (P:Nat->Int) (s:St) (v:Nat):Prop:=s.d v=((D v:Nat):Int)/\s.p v=P v
def off (tg:(Nat->Int)->Nat->Int×Int) (s:St) (v:Nat):Prop:=(s.d v,s.p v)≠tg s.d v
structure Ok (n:Nat) (D:Nat->Nat) (P:Nat->Int) (s:St) (k:Nat):Prop where
 low:∀v,v<n->D v<k->right D P s v
 far:∀v,v<n->k<=D v->(k:Int)<=s.d v
def bad (D:Nat->Nat) (P:Nat->Int) (s:St) (k v:Nat):Prop:=(D v=k/\¬ right D P s v)\/(k<D v/\s.d v<(k:Int)+1)
theorem Ok.start {s:St} (h:∀v,v<n->0<=s.d v):Ok n D P s 0:=⟨fun v _ h=>by omega,fun v hv _=>by simpa using h v hv⟩
theorem Ok.tgt (hN:Net n a D) (hR:Rule n a D P tg) {s:St} {k:Nat} (h:Ok n D P s k) {v:Nat} (hv:v<n) (hk:D v<=k):tg s.d v=(((D v:Nat):Int),P v):=by
 by_cases h0:v=0
 . subst h0;rw[hR.root,(hN.root 0 hv).2 rfl,hR.proot];rfl
 . refine hR.right s.d v hv h0 (fun u hu e=>?_) (fun u hu e=>?_)
   . exact(h.low u (hN.rng v u hv hu) (by omega)).1
   . have hun:=hN.rng v u hv hu;by_cases q:D u<k
     . rw[(h.low u hun q).1];omega
     . have:=h.far u hun (by omega);omega
theorem Ok.tgfar (hN:Net n a D) (hR:Rule n a D P tg) {s:St} {k:Nat} (h:Ok n D P s k) {v:Nat} (hv:v<n) (hk:k<D v):((k+1:Nat):Int)<=(tg s.d v).1:=by
 have h0:v≠0:=fun e=>by have:=(hN.root v hv).2 e;omega
 have ht:=hN.top v hv;refine hR.low s.d v k hv h0 (by omega) fun u hu=>?_;have:=hN.step v u hv hu;exact h.far u (hN.rng v u hv hu) (by omega)
theorem Ok.off_bad (hN:Net n a D) (hR:Rule n a D P tg) {s:St} {k:Nat} (h:Ok n D P s k) {v:Nat} (hv:v<n) (hb:bad D P s k v):off tg s v:=by
 rcases hb with ⟨h1,h2⟩ | ⟨h1,h2⟩
 . intro e;rw[h.tgt hN hR hv (by omega)] at e;exact h2 ⟨(Prod.mk.inj e).1,(Prod.mk.inj e).2⟩
 . intro e;have:=h.tgfar hN hR hv h1;rw[<- e] at this;simp only at this;omega
theorem Ok.next {s:St} {k:Nat} (h:Ok n D P s k) (hb:∀v,v<n->¬ bad D P s k v):Ok n D P s (k+1):=by
 refine⟨fun v hv hk=>?_,fun v hv hk=>?_⟩
 . by_cases e:D v=k
   . exact Classical.byContradiction fun q=>hb v hv (.inl ⟨e,q⟩)
   . exact h.low v hv (by omega)
 . have:=hb v hv;apply Classical.byContradiction;intro q;exact this (.inr ⟨by omega,by omega⟩)
theorem Ok.all (hN:Net n a D) (hR:Rule n a D P tg) {s:St} {k:Nat} (h:Ok n D P s k) {v:Nat} (hv:v<n) (hk:D v<k):¬ off tg s v:=fun e=>by
 obtain⟨r1,r2⟩:=h.low v hv hk;apply e;rw[h.tgt hN hR hv (by omega),r1,r2]
end Go.Plain.Tree
namespace Go.Proofs.Ytojoidgjneapfaa
open Go.Eng
set_option maxRecDepth 100000
set_option linter.unusedVariables false
def Dg (g:G) (v:Nat):Nat:=(gI (dst g 0) v).toNat
theorem Q45 {g:G} (h:g.conn=true) {v:Nat} (hv:v<g.ids.length):((Dg g v:Nat):Int)=gI (dst g 0) v:=by
 obtain⟨h1,h2⟩:=J0o h;obtain⟨f1,f2,f3,f4,f5,f6,f7⟩:=J0f h1;have:=h2 v (by omega);rw[Dg];omega
theorem Q36 {g:G} (h:g.conn=true):Go.Plain.Tree.Net g.ids.length (adN g) (Dg g):=by
 obtain⟨h1,h2⟩:=J0o h;obtain⟨f1,f2,f3,f4,f5,f6,f7⟩:=J0f h1;have hu:=J9a h1;have hF:=Q0f h1;have hD:=fun v (hv:v<g.ids.length)=>Q45 h hv;have near:∀v,v<g.ids.length->v≠0->∃u,adN g v u=true/\Dg g u+1=Dg g v:=fun v hv h0=>by
  obtain⟨l,hl,a,b⟩:=hF.back v (by omega) h0 (h2 v (by omega));have hln:=hu.rng v (by omega) l hl;have e1:=hD v hv;have e2:=hD l.1.toNat (by omega);exact⟨l.1.toNat,J1O.2 ⟨l,hl,rfl⟩,by omega⟩
 refine⟨fun u v hu' hv=>(J57 h1).rng u v hu' hv,fun v hv=>⟨fun e=>?_,fun e=>?_⟩,near,fun u v hun huv=>?_,fun v hv=>?_⟩
 . apply Classical.byContradiction;intro h0;obtain⟨u,_,q⟩:=near v hv h0;omega
 . subst e;have:=hD 0 hv;have e0:=hF.from_;omega
 . have hvn:=(J57 h1).rng u v hun huv;have hvu:=(J57 h1).sym u v hun hvn huv;obtain⟨l,hl,e⟩:=J1O.1 hvu;have:=(hF.on v (by omega) (h2 v (by omega)) l hl).2;rw[e] at this;have e1:=hD v hvn;have e2:=hD u hun;omega
 . have:=hF.lt hu (v:=v) (by omega);have e1:=hD v hv;omega
theorem J9F:∀(l:List Int) (m:Int),Q0J l m<=m/\∀a∈l,Q0J l m<=a
 | [],m=>⟨Int.le_refl _,by simp⟩
 | a::r,m=>by
   have q1:(if a<m then a else m)<=m:=by split<;>omega
   have q2:(if a<m then a else m)<=a:=by split<;>omega
   obtain⟨h1,h2⟩:=J9F r (if a<m then a else m);rw[Q0J];refine⟨Int.le_trans h1 q1,fun b hb=>?_⟩;rcases List.mem_cons.1 hb with e|hb
   . rw[e];exact Int.le_trans h1 q2
   . exact h2 b hb
theorem J7m:∀(l:List Int) (m k:Int),k<=m->(∀a∈l,k<=a)->k<=Q0J l m
 | [],m,k,h,_=>h
 | a::r,m,k,h,ha=>by
   rw[Q0J];exact J7m r _ k (by have:=ha a (by simp);split<;>omega) (fun b hb=>ha b (by simp[hb]))
theorem J7s {p q:Int×Int->Bool}:∀{r:Q2V} {k:Nat},(∀l∈r,p l=q l)->fpI p k r=fpI q k r
 | [],_,_=>rfl
 | l::r,k,h=>by rw[fpI,fpI,h l (by simp),J7s (fun x hx=>h x (by simp[hx]))]
abbrev dC (c:Cf) (v:Nat):Int:=gI (gC c v) 0
abbrev pC (c:Cf) (v:Nat):Int:=gI (gC c v) 1
theorem J6z (r:Q2V) (f:Int×Int->Int):((List.range r.length).map fun i=>f (gF r i))=r.map f:=by
 refine List.ext_getElem (by simp) fun i h1 h2=>?_;simp at h1;simp[gF,List.getD,h1]
theorem J92 {f:Int×Int->Int} {p:Int×Int->Bool}:∀{r:Q2V} {k:Nat},(∀l∈r,f l≠0↔p l=true)->Q4b k (r.map f)=fpI p k r
 | [],_,_=>rfl
 | l::r,k,h=>by
   have h1:=h l (by simp);rw[List.map_cons,Q4b,fpI,J92 (fun x hx=>h x (by simp[hx]))];by_cases e:p l=true
   . rw[if_pos (h1.2 e),if_pos e]
   . rw[if_neg (fun q=>e (h1.1 q)),if_neg e]
end Go.Proofs.Ytojoidgjneapfaa
namespace Go.Proofs.Ytojoidgjneapfaa
open Go.Eng
set_option maxRecDepth 100000
set_option linter.unusedVariables false
def exN (n x w:Nat):Nat:=max (x+1) (w*n)
theorem Q1V {n x y w:Nat} (h:x<=y):exN n x w<=exN n y w:=by simp only[exN];omega
theorem J99 {n x w:Nat}:x<exN n x w:=by simp only[exN];omega
inductive Wk (g:G):Nat->Nat->Prop
 | nil:Wk g 0 0
 | step {v x:Nat} {l:Int×Int} (hv:v<g.ids.length) (hl:l∈gR g.ports v) (h:Wk g l.1.toNat x):Wk g v (exN g.ids.length x l.2.toNat)
theorem J73 {p:Nat->Prop}:∀(x:Nat),p x->∃x,p x/\∀y,p y->x<=y:=by
 intro x
 induction x using Nat.strongRecOn with
 | _ x ih =>
   intro h;by_cases q:∃y,p y/\y<x
   . obtain⟨y,h1,h2⟩:=q;exact ih y h2 h1
   . exact⟨x,h,fun y hy=>Nat.le_of_not_lt fun e=>q ⟨y,hy,e⟩⟩
noncomputable def Tv (g:G) (v:Nat):Nat:=by
 classical exact if h:∃x,Wk g v x then Classical.choose (J73 _ (Classical.choose_spec h)) else 0
theorem J9c {g:G} {v:Nat} (h:∃x,Wk g v x):Wk g v (Tv g v)/\∀y,Wk g v y->Tv g v<=y:=by
 unfold Tv;rw[dif_pos h];exact Classical.choose_spec (J73 _ (Classical.choose_spec h))
theorem Q4l {g:G} (h:g.conn=true):∀(d v:Nat),v<g.ids.length->Dg g v=d->∃x,Wk g v x/\(d=0->x=0)/\(0<d->x+1<=15*g.ids.length+d):=by
 obtain⟨h1,h2⟩:=J0o h;obtain⟨f1,f2,f3,f4,f5,f6,f7⟩:=J0f h1;have hN:=Q36 h;intro d
 induction d with
 | zero =>
   intro v hv hd;have:=(hN.root v hv).1 hd;subst this;exact⟨0,.nil,fun _=>rfl,fun h=>by omega⟩
 | succ d ih =>
   intro v hv hd;have h0:v≠0:=fun e=>by have:=(hN.root v hv).2 e;omega
   obtain⟨u,hu,e⟩:=hN.near v hv h0;obtain⟨l,hl,rfl⟩:=J1O.1 hu;have hun:=hN.rng v _ hv hu;obtain⟨x,hx,hb1,hb2⟩:=ih l.1.toNat hun (by omega);refine⟨_,.step hv hl hx,fun h=>by omega,fun _=>?_⟩;have hw:=((J0s.1 (f6 v (by omega))).1 l hl).2.2.2.2;have hw2:l.2.toNat*g.ids.length<=15*g.ids.length:=Nat.mul_le_mul_right _ (by omega);simp only[exN];rcases Nat.eq_zero_or_pos d with e0|e0
   . have:=hb1 e0;omega
   . have:=hb2 e0;omega
theorem Q4r {g:G} (h:g.conn=true) {v:Nat} (hv:v<g.ids.length):Wk g v (Tv g v):=by
 obtain⟨x,hx,_⟩:=Q4l h _ v hv rfl;exact(J9c ⟨x,hx⟩).1
theorem Q02 {g:G} {v x:Nat} (h:Wk g v x):Tv g v<=x:=(J9c ⟨x,h⟩).2 x h
theorem J4a (g:G):Tv g 0=0:=Nat.le_zero.1 (Q02 .nil)
theorem J5A {g:G} (h:g.conn=true) {v:Nat} (hv:v<g.ids.length) {l:Int×Int} (hl:l∈gR g.ports v):Tv g v<=exN g.ids.length (Tv g l.1.toNat) l.2.toNat:=by
 have hln:=(Q36 h).rng v l.1.toNat hv (J1O.2 ⟨l,hl,rfl⟩);exact Q02 (.step hv hl (Q4r h hln))
theorem J7c {g:G} (h:g.conn=true) {v:Nat} (hv:v<g.ids.length) (h0:v≠0):∃l∈gR g.ports v,Tv g v=exN g.ids.length (Tv g l.1.toNat) l.2.toNat:=by
 have hw:=Q4r h hv;generalize hx:Tv g v=t at hw;cases hw with
 | nil=>exact(h0 rfl).elim
 | step hv' hl hu =>
   rename_i x l;refine⟨l,hl,Nat.le_antisymm ?_ (Q1V (Q02 hu))⟩;rw[<- hx];exact J5A h hv hl
theorem Q27 {g:G} (h:g.conn=true) {v:Nat} (hv:v<g.ids.length):Tv g v=0↔v=0:=by
 refine⟨fun e=>Classical.byContradiction fun h0=>?_,fun e=>by subst e;exact J4a g⟩;obtain⟨l,_,q⟩:=J7c h hv h0;have:=J99 (n:=g.ids.length) (x:=Tv g l.1.toNat) (w:=l.2.toNat);omega
theorem J6g {g:G} (h:g.conn=true) {v:Nat} (hv:v<g.ids.length):Tv g v+2<=16*g.ids.length:=by
 obtain⟨x,hx,hb1,hb2⟩:=Q4l h _ v hv rfl;have:=Q02 hx;have ht:=(Q36 h).top v hv;rcases Nat.eq_zero_or_pos (Dg g v) with e|e
 . have:=hb1 e;omega
 . have:=hb2 e;omega
noncomputable def rkV (g:G) (v:Nat):Nat:=J3S (fun u=>decide (Tv g u<Tv g v)) g.ids.length
theorem Q0n {p q:Nat->Bool}:∀{n:Nat},(∀v,v<n->p v=true->q v=true)->J3S p n<=J3S q n
 | 0,_=>Nat.le_refl _
 | n+1,h=>by
   have h1:=Q0n (n:=n) fun v hv=>h v (by omega);have h2:=h n (by omega);simp only[J3S];cases hp:p n<;>cases hq:q n<;>simp_all<;>omega
theorem J7w {p q:Nat->Bool} {u:Nat} (hp:p u=false) (hq:q u=true):∀{n:Nat},u<n->(∀v,v<n->p v=true->q v=true)->J3S p n<J3S q n
 | n+1,hn,h=>by
   have h2:=h n (by omega);simp only[J3S];by_cases e:u=n
   . subst e;have h1:=Q0n (n:=u) fun v hv=>h v (by omega);rw[hp,hq];simp;omega
   . have h1:=J7w hp hq (n:=n) (by omega) fun v hv=>h v (by omega);cases hp:p n<;>cases hq:q n<;>simp_all<;>omega
theorem J5Z (p:Nat->Bool):∀(n:Nat),J3S p n<=n
 | 0=>Nat.le_refl _
 | n+1=>by
   have:=J5Z p n;simp only[J3S];split<;>omega
theorem J8i {p:Nat->Bool} {u:Nat} (hp:p u=false):∀{n:Nat},u<n->J3S p n+1<=n
 | n+1,hn=>by
   simp only[J3S];by_cases e:u=n
   . subst e;have:=J5Z p u;rw[hp];simp;omega
   . have:=J8i hp (n:=n) (by omega);split<;>omega
theorem Q5u {g:G} {u v:Nat} (hu:u<g.ids.length) (h:Tv g u<Tv g v):rkV g u<rkV g v :=
 J7w (u:=u) (by simp) (by simpa using h) hu fun w _ q=>by simp only[decide_eq_true_eq] at q ⊢;omega
theorem Q4D {g:G} {v:Nat} (hv:v<g.ids.length):rkV g v+1<=g.ids.length:=J8i (u:=v) (by simp) hv
def exI (g:G) (y w:Int):Int:=if y+1<w*g.ids.length then w*g.ids.length else y+1
theorem J4H (g:G) (x:Nat) {w:Int} (hw:0<=w):exI g x w=((exN g.ids.length x w.toNat:Nat):Int):=by
 obtain⟨k,rfl⟩:∃k:Nat,w=(k:Int):=⟨w.toNat,by omega⟩;have e:((k:Int)*(g.ids.length:Int))=((k*g.ids.length:Nat):Int):=by push_cast;rfl
 rw[exI,exN,e,Int.toNat_natCast];generalize k*g.ids.length=m;split<;>omega
theorem Q1W {g:G} {y z w:Int} (h:y<=z):exI g y w<=exI g z w:=by
 rw[exI,exI];generalize w*(g.ids.length:Int)=m;split<;>split<;>omega
structure VIn (g:G) (r:Nat) (x:List Int):Prop where
 len:x.length=g.ids.length
 root:gI x 0=0
 low:∀v,v<g.ids.length->((Tv g v:Nat):Int)<=gI x v
 top:∀v,v<g.ids.length->gI x v<=1073741824
 ok:∀v,v<g.ids.length->rkV g v<r->gI x v=((Tv g v:Nat):Int)
structure VPs (g:G) (r v i:Nat) (x:List Int):Prop where
 base:VIn g r x
 before:∀u,u<v->u<g.ids.length->rkV g u<=r->gI x u=((Tv g u:Nat):Int)
 here:∀j,j<i->j<(gR g.ports v).length->Tv g v=exN g.ids.length (Tv g (gF (gR g.ports v) j).1.toNat) (gF (gR g.ports v) j).2.toNat->rkV g v<=r->gI x v=((Tv g v:Nat):Int)
theorem VPs.start {g:G} {r:Nat} {x:List Int} (h:VIn g r x):VPs g r 0 0 x:=⟨h,fun u hu=>by omega,fun j hj=>by omega⟩
def J9q (g:G) (x:List Int) (v:Nat) (l:Int×Int):List Int:=x.set v (if exI g (gI x l.1.toNat) l.2<gI x v then exI g (gI x l.1.toNat) l.2 else gI x v)
theorem VPs.step {g:G} (h:g.conn=true) {r v i:Nat} {x:List Int} (hp:VPs g r v i x) (hv:v<g.ids.length) (hi:i<(gR g.ports v).length):VPs g r v (i+1) (J9q g x v (gF (gR g.ports v) i)):=by
 obtain⟨h1,h2⟩:=J0o h;obtain⟨f1,f2,f3,f4,f5,f6,f7⟩:=J0f h1;have hB:=hp.base;have hl:=J02 hi;have hok:=(J0s.1 (f6 v (by omega))).1 _ hl;generalize hL:gF (gR g.ports v) i=l at *;have hun:l.1.toNat<g.ids.length:=by omega
 have hw:0<=l.2:=by omega
 have hlen:=hB.len;have hg:∀u,gI (J9q g x v l) u=if u=v then (if exI g (gI x l.1.toNat) l.2<gI x v then exI g (gI x l.1.toNat) l.2 else gI x v) else gI x u:=fun u=>J4B x v u _ (by omega)
 have hlow:((Tv g v:Nat):Int)<=exI g (gI x l.1.toNat) l.2:=by
  have h3:=J5A h hv hl;have h4:=Q1W (g:=g) (w:=l.2) (hB.low l.1.toNat hun);rw[J4H g _ hw] at h4;omega
 have hst:∀u,u<g.ids.length->gI x u=((Tv g u:Nat):Int)->gI (J9q g x v l) u=((Tv g u:Nat):Int):=fun u hu e=>by
  rw[hg];split
  . rename_i q;subst q;split<;>omega
  . exact e
 refine⟨⟨by rw[J9q,List.length_set];exact hlen,?_,fun u hu=>?_,fun u hu=>?_,fun u hu q=>hst u hu (hB.ok u hu q)⟩,fun u hu hun q=>hst u hun (hp.before u hu hun q),fun j hj hj2 e q=>?_⟩
 . have:=hst 0 (by omega) (by rw[J4a];exact hB.root);rw[J4a] at this;exact this
 . rw[hg];have:=hB.low u hu;split
   . rename_i q;subst q;split<;>omega
   . exact this
 . rw[hg];have:=hB.top u hu;split
   . rename_i q;subst q;split<;>omega
   . exact this
 . by_cases ej:j=i
   . subst ej;rw[hL] at e;have hlt:Tv g l.1.toNat<Tv g v:=by rw[e];exact J99
     have hrk:=Q5u hun hlt;have hx:=hB.ok l.1.toNat hun (by omega);have hlo:=hB.low v hv;rw[hg,if_pos rfl,hx,J4H g _ hw,<- e];split<;>omega
   . exact hst v hv (hp.here j (by omega) hj2 e q)
theorem VPs.row {g:G} (h:g.conn=true) {r v:Nat} {x:List Int} (hp:VPs g r v (gR g.ports v).length x) (hv:v<g.ids.length):VPs g r (v+1) 0 x:=by
 refine⟨hp.base,fun u hu hun q=>?_,fun j hj=>by omega⟩;by_cases e:u=v
 . subst e;by_cases h0:u=0
   . subst h0;rw[J4a];exact hp.base.root
   . obtain⟨l,hl,e⟩:=J7c h hun h0;obtain⟨j,hj,ej⟩:=List.getElem_of_mem hl;have ej:gF (gR g.ports u) j=l:=by rw[<- ej];simp[gF,List.getD,hj]
     exact hp.here j hj hj (by rw[ej];exact e) q
 . exact hp.before u (by omega) hun q
theorem VPs.over {g:G} {r v:Nat} {x:List Int} (hp:VPs g r v 0 x) (hv:g.ids.length<=v):VIn g (r+1) x :=
 ⟨hp.base.len,hp.base.root,hp.base.low,hp.base.top,fun u hu q=>hp.before u (by omega) hu (by omega)⟩
noncomputable def J1Z (g:G):List Int:=(List.range g.ids.length).map fun v=>((Tv g v:Nat):Int)
theorem J3b (g:G):(J1Z g).length=g.ids.length:=by simp[J1Z]
theorem J3c {g:G} {v:Nat} (hv:v<g.ids.length):gI (J1Z g) v=((Tv g v:Nat):Int):=by simp[J1Z,gI,List.getD,hv]
theorem VIn.done {g:G} {x:List Int} (h:VIn g g.ids.length x):x=J1Z g:=by
 refine List.ext_getElem (by rw[J3b,h.len]) fun i h1 h2=>?_;have hi:i<g.ids.length:=by rw[<- h.len];exact h1
 have e1:=h.ok i hi (by have:=Q4D (g:=g) hi;omega);have e2:=J3c (g:=g) hi;simp only[gI,List.getD,List.getElem?_eq_getElem h1,List.getElem?_eq_getElem h2,Option.getD_some] at e1 e2;rw[e1,e2]
theorem VIn.start {g:G} (h:g.conn=true) {x:List Int} (hl:x.length=g.ids.length) (h0:gI x 0=0) (hx:∀v,v<g.ids.length->v≠0->16*(g.ids.length:Int)<=gI x v/\gI x v<=1073741824):VIn g 0 x:=by
 refine⟨hl,h0,fun v hv=>?_,fun v hv=>?_,fun v hv q=>by omega⟩
 . by_cases e:v=0
   . subst e;rw[J4a,h0];exact Int.le_refl _
   . have:=(hx v hv e).1;have:=J6g h hv;omega
 . by_cases e:v=0
   . subst e;omega
   . exact(hx v hv e).2
end Go.Proofs.Ytojoidgjneapfaa
namespace Go.Plain.Val
structure Net (n:Nat) (a:Nat->Nat->Bool) (D:Nat->Nat):Prop where
 rng:∀u v,u<n->a u v=true->v<n
 root:∀v,v<n->(D v=0↔v=0)
structure St where
 d:Nat->Int
 p:Nat->Int
structure Rule (n:Nat) (a:Nat->Nat->Bool) (D:Nat->Nat) (P:Nat->Int) (tg:(Nat->Int)->Nat->Int×Int):Prop where
 root:∀d,tg d 0=(0,-1)
 right:∀d v,v<n->v≠0->(∀u,a v u=true->D u<D v->d u=((D u:Nat):Int))->(∀u,a v u=true->D v<=D u->(D v:Int)<=d u)->tg d v=(((D v:Nat):Int),P v)
 low:∀d v (k:Nat),v<n->v≠0->k<D v->(∀u,a v u=true->(D u<k->d u=((D u:Nat):Int))/\(k<=D u->(k:Int)<=d u))->((k+1:Nat):Int)<=(tg d v).1
 proot:P 0=-1
variable {n:Nat} {a:Nat->Nat->Bool} {D:Nat->Nat} {P:Nat->Int} {tg:(Nat->Int)->Nat->Int×Int}
def right (D:Nat->Nat) (P:Nat->Int) (s:St) (v:Nat):Prop:=s.d v=((D v:Nat):Int)/\s.p v=P v
def off (tg:(Nat->Int)->Nat->Int×Int) (s:St) (v:Nat):Prop:=(s.d v,s.p v)≠tg s.d v
structure Ok (n:Nat) (D:Nat->Nat) (P:Nat->Int) (s:St) (k:Nat):Prop where
 low:∀v,v<n->D v<k->right D P s v
 far:∀v,v<n->k<=D v->(k:Int)<=s.d v
def bad (D:Nat->Nat) (P:Nat->Int) (s:St) (k v:Nat):Prop:=(D v=k/\¬ right D P s v)\/(k<D v/\s.d v<(k:Int)+1)
theorem Ok.start {s:St} (h:∀v,v<n->0<=s.d v):Ok n D P s 0:=⟨fun v _ h=>by omega,fun v hv _=>by simpa using h v hv⟩
theorem Ok.tgt (hN:Net n a D) (hR:Rule n a D P tg) {s:St} {k:Nat} (h:Ok n D P s k) {v:Nat} (hv:v<n) (hk:D v<=k):tg s.d v=(((D v:Nat):Int),P v):=by
 by_cases h0:v=0
 . subst h0;rw[hR.root,(hN.root 0 hv).2 rfl,hR.proot];rfl
 . refine hR.right s.d v hv h0 (fun u hu e=>?_) (fun u hu e=>?_)
   . exact(h.low u (hN.rng v u hv hu) (by omega)).1
   . have hun:=hN.rng v u hv hu;by_cases q:D u<k
     . rw[(h.low u hun q).1];omega
     . have:=h.far u hun (by omega);omega
theorem Ok.tgfar (hN:Net n a D) (hR:Rule n a D P tg) {s:St} {k:Nat} (h:Ok n D P s k) {v:Nat} (hv:v<n) (hk:k<D v):((k+1:Nat):Int)<=(tg s.d v).1:=by
 have h0:v≠0:=fun e=>by have:=(hN.root v hv).2 e;omega
 refine hR.low s.d v k hv h0 hk fun u hu=>⟨fun q=>(h.low u (hN.rng v u hv hu) q).1,fun q=>h.far u (hN.rng v u hv hu) q⟩
theorem Ok.off_bad (hN:Net n a D) (hR:Rule n a D P tg) {s:St} {k:Nat} (h:Ok n D P s k) {v:Nat} (hv:v<n) (hb:bad D P s k v):off tg s v:=by
 rcases hb with ⟨h1,h2⟩ | ⟨h1,h2⟩
 . intro e;rw[h.tgt hN hR hv (by omega)] at e;exact h2 ⟨(Prod.mk.inj e).1,(Prod.mk.inj e).2⟩
 . intro e;have:=h.tgfar hN hR hv h1;rw[<- e] at this;simp only at this;omega
theorem Ok.next {s:St} {k:Nat} (h:Ok n D P s k) (hb:∀v,v<n->¬ bad D P s k v):Ok n D P s (k+1):=by
 refine⟨fun v hv hk=>?_,fun v hv hk=>?_⟩
 . by_cases e:D v=k
   . exact Classical.byContradiction fun q=>hb v hv (.inl ⟨e,q⟩)
   . exact h.low v hv (by omega)
 . have:=hb v hv;apply Classical.byContradiction;intro q;exact this (.inr ⟨by omega,by omega⟩)
theorem Ok.all (hN:Net n a D) (hR:Rule n a D P tg) {s:St} {k:Nat} (h:Ok n D P s k) {v:Nat} (hv:v<n) (hk:D v<k):¬ off tg s v:=fun e=>by
 obtain⟨r1,r2⟩:=h.low v hv hk;apply e;rw[h.tgt hN hR hv (by omega),r1,r2]
end Go.Plain.Val
namespace Go.Proofs.Ytojoidgjneapfaa
open Go.Eng
set_option maxRecDepth 100000
set_option linter.unusedVariables false
noncomputable def upW (g:G) (v:Nat):Int:=if v=0 then -1 else fpI (fun l=>decide (exI g ((Tv g l.1.toNat:Nat):Int) l.2=((Tv g v:Nat):Int))) 0 (gR g.ports v)
def mnW (g:G) (d:Nat->Int) (v:Nat):Int:=Q0J ((gR g.ports v).map fun l=>exI g (d l.1.toNat) l.2) 1073741824
def tgW (g:G) (d:Nat->Int) (v:Nat):Int×Int :=
 if v=0 then (0,-1) else (if mnW g d v<16*g.ids.length then mnW g d v else 16*g.ids.length,fpI (fun l=>decide (exI g (d l.1.toNat) l.2=mnW g d v)) 0 (gR g.ports v))
theorem J8d (g:G) (y w:Int):y<exI g y w:=by
 rw[exI];generalize w*(g.ids.length:Int)=m;split<;>omega
theorem netW {g:G} (h:g.conn=true):Go.Plain.Val.Net g.ids.length (adN g) (Tv g) :=
 ⟨fun u v hu hv=>(Q36 h).rng u v hu hv,fun v hv=>Q27 h hv⟩
theorem Q4z {g:G} (h:g.conn=true):Go.Plain.Val.Rule g.ids.length (adN g) (Tv g) (upW g) (tgW g):=by
 obtain⟨h1,h2⟩:=J0o h;obtain⟨f1,f2,f3,f4,f5,f6,f7⟩:=J0f h1;refine⟨fun d=>if_pos rfl,fun d v hv h0 hr1 hr2=>?_,fun d v k hv h0 hk hd=>?_,if_pos rfl⟩
 . have ht:=J6g h hv;have hok:=(J0s.1 (f6 v (by omega))).1;have hmem:∀l∈gR g.ports v,adN g v l.1.toNat=true:=fun l hl=>J1O.2 ⟨l,hl,rfl⟩;have hle:∀l∈gR g.ports v,((Tv g v:Nat):Int)<=exI g (d l.1.toNat) l.2:=fun l hl=>by
    have hw:0<=l.2:=by have:=hok l hl;omega
    by_cases q:Tv g l.1.toNat<Tv g v
    . rw[hr1 _ (hmem l hl) q,J4H g _ hw];have:=J5A h hv hl;omega
    . have:=hr2 _ (hmem l hl) (by omega);have:=J8d g (d l.1.toNat) l.2;omega
   have hm:mnW g d v=((Tv g v:Nat):Int):=by
    obtain⟨l,hl,e⟩:=J7c h hv h0;have hw:0<=l.2:=by have:=hok l hl;omega
    have hlt:Tv g l.1.toNat<Tv g v:=by rw[e];exact J99
    have a1:=(J9F ((gR g.ports v).map fun l=>exI g (d l.1.toNat) l.2) 1073741824).2 _ (List.mem_map.2 ⟨l,hl,rfl⟩);rw[hr1 _ (hmem l hl) hlt,J4H g _ hw,<- e] at a1;have a2:((Tv g v:Nat):Int)<=Q0J ((gR g.ports v).map fun l=>exI g (d l.1.toNat) l.2) 1073741824:=by
     refine J7m _ _ _ (by omega) fun b hb=>?_;obtain⟨l',hl',rfl⟩:=List.mem_map.1 hb;exact hle l' hl'
    rw[mnW];omega
   rw[tgW,if_neg h0,hm,if_pos (by omega),upW,if_neg h0];refine Prod.ext rfl ?_;refine J7s fun l hl=>?_;by_cases q:Tv g l.1.toNat<Tv g v
   . rw[hr1 _ (hmem l hl) q]
   . have q1:=hr2 _ (hmem l hl) (by omega);have q2:=J8d g (d l.1.toNat) l.2;have q3:=J8d g ((Tv g l.1.toNat:Nat):Int) l.2;rw[decide_eq_false (by omega),decide_eq_false (by omega)]
 . have ht:=J6g h hv;have hok:=(J0s.1 (f6 v (by omega))).1;have hm:((k+1:Nat):Int)<=mnW g d v:=by
    refine J7m _ _ _ (by omega) fun b hb=>?_;obtain⟨l,hl,rfl⟩:=List.mem_map.1 hb;have hw:0<=l.2:=by have:=hok l hl;omega
    obtain⟨d1,d2⟩:=hd _ (J1O.2 ⟨l,hl,rfl⟩);by_cases q:Tv g l.1.toNat<k
    . rw[d1 q,J4H g _ hw];have:=J5A h hv hl;omega
    . have:=d2 (by omega);have:=J8d g (d l.1.toNat) l.2;omega
   rw[tgW,if_neg h0];simp only;split<;>omega
def qxT:Tm:=.bin 33 (.leaf 12 0) (.leaf 1 1)
def qwT:Tm:=.bin 30 (.leaf 16 0) (.leaf 6 0)
def exT:Tm:=.ite (.bin 39 qxT qwT) qxT qwT
def mwT:Tm:=.agg 24 exT
def Q4M:Tm:=.bin 30 (.leaf 1 16) (.leaf 6 0)
def xWT:Tm:=.ite (.bin 37 mwT Q4M) mwT Q4M
def pWT:Tm:=.agg 23 (.bin 35 exT mwT)
def Q3a:Tm:=.bin 41 (.leaf 10 0) (.bin 42 (.bin 36 (.leaf 5 0) (.leaf 1 0)) (.bin 36 (.leaf 5 1) (.leaf 4 0)))
def Q3u:Tm:=.bin 41 (.un 19 (.leaf 10 0)) (.bin 42 (.bin 36 (.leaf 5 0) xWT) (.bin 36 (.leaf 5 1) pWT))
def NnW (g:G) (c:Cf):Prop:=∀v,v<g.ids.length->0<=dC c v/\dC c v<=16*g.ids.length
theorem Q2C {g:G} (hg:g.valid=true) {c:Cf} (hd:NnW g c) {v i:Nat} (hv:v<g.ids.length) (hi:i<(gR g.ports v).length):exT.sem g c v (i:Nat)=exI g (dC c (gF (gR g.ports v) i).1.toNat) (gF (gR g.ports v) i).2:=by
 obtain⟨f1,f2,f3,f4,f5,f6,f7⟩:=J0f hg;have hok:=(J0s.1 (f6 v (by omega))).1 _ (J02 hi);have hdl:=hd (gF (gR g.ports v) i).1.toNat (by omega);have e1:qxT.sem g c v (i:Nat)=dC c (gF (gR g.ports v) i).1.toNat+1:=by
  show sat (gI (gC c (nbV g v i)) 0+1)=_;have:nbV g v i=(gF (gR g.ports v) i).1.toNat:=by simp[nbV]
  rw[this];have hd2:0<=gI (gC c (gF (gR g.ports v) i).1.toNat) 0/\gI (gC c (gF (gR g.ports v) i).1.toNat) 0<=16*g.ids.length:=hdl;exact J9j (by unfold inR;omega)
 have hmul:∃m:Nat,(gF (gR g.ports v) i).2*(g.ids.length:Int)=(m:Int)/\m<=15*24:=by
  refine⟨(gF (gR g.ports v) i).2.toNat*g.ids.length,?_,Nat.mul_le_mul (by omega) f2⟩
  push_cast
  rw[Int.toNat_of_nonneg (by omega)]
 obtain⟨m,hm,hm2⟩:=hmul;have e2:qwT.sem g c v (i:Nat)=(gF (gR g.ports v) i).2*(g.ids.length:Int):=by
  show sat ((gF (gR g.ports v) ((i:Nat):Int).toNat).2*(g.ids.length:Int))=_;rw[Int.toNat_natCast,hm];exact J9j (by unfold inR;omega)
 show(if J2W (decide (qxT.sem g c v (i:Nat) > qwT.sem g c v (i:Nat)))≠0 then qxT.sem g c v (i:Nat) else qwT.sem g c v (i:Nat))=_;rw[e1,e2,exI];simp only[J4v,decide_eq_true_eq];generalize (gF (gR g.ports v) i).2*(g.ids.length:Int)=t;split<;>split<;>omega
theorem Q4R {g:G} (hg:g.valid=true) {c:Cf} (hd:NnW g c) {v:Nat} (hv:v<g.ids.length):((List.range (gR g.ports v).length).map fun(i:Nat)=>exT.sem g c v (i:Nat))=(gR g.ports v).map fun l=>exI g (dC c l.1.toNat) l.2:=by
 rw[<- J6z (gR g.ports v) (fun l=>exI g (dC c l.1.toNat) l.2)];refine List.map_congr_left fun i hi=>?_;exact Q2C hg hd hv (List.mem_range.1 hi)
theorem Q2w {g:G} (hg:g.valid=true) {c:Cf} (hd:NnW g c) {v:Nat} (hv:v<g.ids.length) (port:Int):mwT.sem g c v port=mnW g (dC c) v:=by
 show Q0J ((List.range (gR g.ports v).length).map fun(i:Nat)=>exT.sem g c v (i:Nat)) 1073741824=_;rw[Q4R hg hd hv];rfl
theorem Q3p {g:G} (hg:g.valid=true) (c:Cf) (v:Nat) (port:Int):Q4M.sem g c v port=16*(g.ids.length:Int):=by
 obtain⟨f1,f2,f3,f4,f5,f6,f7⟩:=J0f hg;show sat (16*(g.ids.length:Int))=_;exact J9j (by unfold inR;omega)
theorem Q4j {g:G} (hg:g.valid=true) {c:Cf} (hd:NnW g c) {v:Nat} (hv:v<g.ids.length) (h0:v≠0) (port:Int):xWT.sem g c v port=(tgW g (dC c) v).1:=by
 show(if J2W (decide (mwT.sem g c v port<Q4M.sem g c v port))≠0 then mwT.sem g c v port else Q4M.sem g c v port)=_;rw[Q2w hg hd hv,Q3p hg,tgW,if_neg h0];simp only[J4v,decide_eq_true_eq]
theorem Q4I {g:G} (hg:g.valid=true) {c:Cf} (hd:NnW g c) {v:Nat} (hv:v<g.ids.length) (h0:v≠0) (port:Int):pWT.sem g c v port=(tgW g (dC c) v).2:=by
 show Q4b 0 ((List.range (gR g.ports v).length).map fun(i:Nat)=>J2W (decide (exT.sem g c v (i:Nat)=mwT.sem g c v (i:Nat))))=_;rw[tgW,if_neg h0];simp only;have e:((List.range (gR g.ports v).length).map fun(i:Nat)=>J2W (decide (exT.sem g c v (i:Nat)=mwT.sem g c v (i:Nat))))=(gR g.ports v).map fun l=>J2W (decide (exI g (dC c l.1.toNat) l.2=mnW g (dC c) v)):=by
  rw[<- J6z (gR g.ports v) (fun l=>J2W (decide (exI g (dC c l.1.toNat) l.2=mnW g (dC c) v)))];refine List.map_congr_left fun i hi=>?_;rw[Q2C hg hd hv (List.mem_range.1 hi),Q2w hg hd hv]
 rw[e];exact J92 fun l _=>by rw[J4v]
def J7W (g:G) (c:Cf) (v:Nat):Bool:=decide ((dC c v,pC c v)≠tgW g (dC c) v)
theorem J7N (g:G) (c:Cf) (v:Nat):Q3a.sem g c v (-1)=J2W (decide (v=0)&&J7W g c v):=by
 show J2W (decide (J2W (decide (v=0))≠0/\J2W (decide (J2W (decide (dC c v≠0))≠0\/J2W (decide (pC c v≠-1))≠0))≠0))=_;congr 1;simp only[J4v,decide_eq_true_eq];by_cases h0:v=0
 . rw[J7W,tgW,if_pos h0];simp only[h0,true_and,decide_true,Bool.true_and];rw[decide_eq_decide];simp only[ne_eq,Prod.mk.injEq];exact(Classical.not_and_iff_not_or_not).symm
 . simp[h0]
theorem J72 {g:G} (hg:g.valid=true) {c:Cf} (hd:NnW g c) {v:Nat} (hv:v<g.ids.length):Q3u.sem g c v (-1)=J2W (!decide (v=0)&&J7W g c v):=by
 show J2W (decide (J2W (decide (J2W (decide (v=0))=0))≠0/\J2W (decide (J2W (decide (dC c v≠xWT.sem g c v (-1)))≠0\/J2W (decide (pC c v≠pWT.sem g c v (-1)))≠0))≠0))=_;congr 1;simp only[J4v,Q1L,decide_eq_true_eq,decide_eq_false_iff_not];by_cases h0:v=0
 . simp[h0]
 . rw[Q4j hg hd hv h0,Q4I hg hd hv h0,J7W];simp only[h0,not_false_eq_true,true_and,decide_false,Bool.not_false,Bool.true_and];rw[decide_eq_decide];generalize tgW g (dC c) v=t;obtain⟨t1,t2⟩:=t;simp only[ne_eq,Prod.mk.injEq];exact(Classical.not_and_iff_not_or_not).symm
end Go.Proofs.Ytojoidgjneapfaa
namespace Go.Proofs.Ytojoidgjneapfaa
open Go.Eng
set_option maxRecDepth 100000
set_option linter.unusedVariables false
def vW2:List Vr:=[⟨ByteArray.mk #[120],1,0,0,16,0⟩,⟨ByteArray.mk #[112],3,0,0,0,0⟩]
def J3H:Pr:=⟨ByteArray.mk #[119,105,100,101,115,116],vW2,[⟨ByteArray.mk #[116,111,112],Q3a,[(0,.leaf 1 0),(1,.leaf 4 0)]⟩,
 ⟨ByteArray.mk #[108,111,119],Q3u,[(0,xWT),(1,pWT)]⟩]⟩
theorem J64 {g:G} {c:Cf} (h:J8p J3H g c) {v:Nat} (hv:v<g.ids.length):(gC c v).length=2/\0<=dC c v/\dC c v<=16*g.ids.length/\-1<=pC c v/\pC c v<=((gR g.ports v).length:Int)-1:=by
 have hl:v<c.length:=by rw[h.len];exact hv
 have h0:=h.val v hl 0 (by decide);have h1:=h.val v hl 1 (by decide);have e0:bnd g (gV J3H.vars 0) v=(0,0+16*(g.ids.length:Int)+0*Q5t g):=rfl;have e1:bnd g (gV J3H.vars 1) v=(-1,((gR g.ports v).length:Int)-1):=rfl;rw[e0] at h0;rw[e1] at h1;obtain⟨a1,a2⟩:=h0;obtain⟨b1,b2⟩:=h1;simp only at a1 a2 b1 b2;exact⟨h.row v hl,a1,by show gI (gC c v) 0<=_;omega,b1,b2⟩
theorem J80 {g:G} {c:Cf} (h:J8p J3H g c):NnW g c:=fun v hv=>⟨(J64 h hv).2.1,(J64 h hv).2.2.1⟩
def stX (c:Cf):Go.Plain.Val.St:=⟨dC c,pC c⟩
theorem J7V {g:G} {c:Cf} {v:Nat}:Go.Plain.Val.off (tgW g) (stX c) v↔J7W g c v=true:=by
 rw[J7W,decide_eq_true_eq];exact Iff.rfl
theorem J81 (g:G) (c:Cf) (v:Nat):gds J3H g c v=[Q3a.sem g c v (-1),Q3u.sem g c v (-1)]:=rfl
theorem Q2Z {g:G} (hg:g.valid=true) {c:Cf} (hc:J8p J3H g c) {v:Nat} (hv:v<g.ids.length) (ho:J7W g c v=true):J8D J3H g c v=if v=0 then 0 else 1:=by
 rw[J8D,J81,J7N,J72 hg (J80 hc) hv,ho];by_cases h0:v=0
 . rw[decide_eq_true h0,if_pos h0];rfl
 . rw[decide_eq_false h0,if_neg h0];rfl
theorem Q0R {g:G} (hg:g.valid=true) {c:Cf} (hc:J8p J3H g c) {v:Nat} (hv:v<g.ids.length) (ho:J7W g c v=false):J8D J3H g c v=-1:=by
 rw[J8D,J81,J7N,J72 hg (J80 hc) hv,ho,Bool.and_false,Bool.and_false];rfl
theorem Q2m {g:G} (hg:g.valid=true) {c:Cf} (hc:J8p J3H g c) {v:Nat} (hv:v<g.ids.length):(enN J3H g c).testBit v=true↔J7W g c v=true:=by
 rw[Q2D,decide_eq_true hv,Bool.true_and,decide_eq_true_eq];cases ho:J7W g c v with
 | true =>
   rw[Q2Z hg hc hv ho];exact⟨fun _=>rfl,fun _=>by split<;>omega⟩
 | false =>
   rw[Q0R hg hc hv ho];exact⟨fun h=>by omega,fun h=>by cases h⟩
theorem Q21 {g:G} (hg:g.valid=true) {c:Cf} (hc:J8p J3H g c):enN J3H g c=0↔∀v,v<g.ids.length->J7W g c v=false:=by
 constructor
 . intro e v hv;cases ho:J7W g c v with
   | false=>rfl
   | true =>
     have:=(Q2m hg hc hv).2 ho;rw[e] at this;simp at this
 . intro h;apply Nat.eq_of_testBit_eq;intro v;rw[Nat.zero_testBit];cases e:(enN J3H g c).testBit v with
   | false=>rfl
   | true =>
     have hlt:v<g.ids.length:=by rw[Q2D,Bool.and_eq_true,decide_eq_true_eq] at e;exact e.1
     have:=(Q2m hg hc hlt).1 e;rw[h v hlt] at this;cases this
def TrX (g:G) (c:Cf):Prop:=∀v,v<g.ids.length->dC c v=((Tv g v:Nat):Int)/\pC c v=upW g v
theorem Q4s {g:G} {c:Cf} (ht:TrX g c) {k:Nat} (hk:∀v,v<g.ids.length->Tv g v<k):Go.Plain.Val.Ok g.ids.length (Tv g) (upW g) (stX c) k :=
 ⟨fun v hv _=>ht v hv,fun v hv q=>by have:=hk v hv;omega⟩
theorem Q4J {g:G} {c:Cf} {k:Nat} (ho:Go.Plain.Val.Ok g.ids.length (Tv g) (upW g) (stX c) k) (hk:∀v,v<g.ids.length->Tv g v<k):TrX g c :=
 fun v hv=>ho.low v hv (hk v hv)
theorem Q28 {g:G} (h:g.conn=true):∀v,v<g.ids.length->Tv g v<16*g.ids.length:=fun v hv=>by have:=J6g h hv;omega
theorem Q05 {g:G} (h:g.conn=true) {c:Cf} (ht:TrX g c) {v:Nat} (hv:v<g.ids.length):J7W g c v=false:=by
 have:=(Q4s ht (Q28 h)).all (netW h) (Q4z h) hv (Q28 h v hv);rw[J7V] at this;simpa using this
theorem Q20 {g:G} {c:Cf} (hc:J8p J3H g c):∀v,v<g.ids.length->0<=dC c v:=fun v hv=>(J80 hc v hv).1
theorem Q3Y {g:G} (h:g.conn=true) {c:Cf} (hc:J8p J3H g c) (ho:∀v,v<g.ids.length->J7W g c v=false):TrX g c:=by
 have key:∀k,Go.Plain.Val.Ok g.ids.length (Tv g) (upW g) (stX c) k:=fun k=>by
  induction k with
  | zero=>exact Go.Plain.Val.Ok.start (Q20 hc)
  | succ k ih =>
    refine ih.next fun v hv hb=>?_;have:=ih.off_bad (netW h) (Q4z h) hv hb;rw[J7V,ho v hv] at this;cases this
 exact Q4J (key _) (Q28 h)
theorem J8Z {g:G} (h:g.conn=true) {c:Cf} (hc:J8p J3H g c):enN J3H g c=0↔TrX g c:=by
 rw[Q21 (J0o h).1 hc];exact⟨fun q=>Q3Y h hc q,fun q v hv=>Q05 h q hv⟩
end Go.Proofs.Ytojoidgjneapfaa
namespace Go.Proofs.Ytojoidgjneapfaa
open Go.Eng
set_option maxRecDepth 100000
set_option linter.unusedVariables false
end Go.Proofs.Ytojoidgjneapfaa
namespace Go.Proofs.Ytojoidgjneapfaa
open Go.Eng
set_option maxRecDepth 100000
set_option linter.unusedVariables false
def bX (g:G) (v x:Nat):Int×Int:=if x=0 then (0,16*g.ids.length) else (-1,((gR g.ports v).length:Int)-1)
def G.xconf (g:G) (c:Cf):Bool:=Q2I g.ids.length 2 (bX g) c
theorem Q2X (g:G) (hg:g.valid=true) (c:Cf):Q2I g.ids.length [16*(g.ids.length:Int),-1].length (bG g [16*(g.ids.length:Int),-1]) c=g.xconf c:=Q0k (fun v x hv hx=>by
 have e:x=0\/x=1:=by simp at hx;omega
 rcases e with rfl|rfl
 . rw[bG,show gI [16*(g.ids.length:Int),-1] 0=16*(g.ids.length:Int) from rfl,if_neg (by omega)];rfl
 . rfl)
theorem J36 {g:G} {c:Cf} (h:g.xconf c=true):c.length=g.ids.length/\∀v,v<c.length->(gC c v).length=2/\0<=gI (gC c v) 0/\gI (gC c v) 0<=16*g.ids.length/\-1<=gI (gC c v) 1/\gI (gC c v) 1<(gR g.ports v).length:=by
 have:=J2O.1 h;refine⟨this.1,fun v hv=>?_⟩;have h2:=this.2 v (by omega);have h3:=h2.2 0 (by omega);have h4:=h2.2 1 (by omega);simp only[bX,if_true,Nat.one_ne_zero,if_false] at h3 h4;omega
theorem Q0N {g:G} {c:Cf} (h:J8p J3H g c):g.xconf c=true:=by
 rw[G.xconf,J2O];refine⟨h.len,fun v hv=>?_⟩;obtain⟨h0,h1,h2,h3,h4⟩:=J64 h hv;refine⟨h0,fun x hx=>?_⟩;rcases (show x=0\/x=1 by omega) with rfl|rfl
 . exact⟨h1,h2⟩
 . exact⟨h3,h4⟩
theorem Q0T (g:G) (hs:g.Small):Ret Try.prog 43 [g.v] (.bool g.conn):=by
 have h:=J5Y g hs;refine J0h rfl ?_;refine J0d mixed Try.func43 rfl hc43 hr43 rfl ?_;cases hc:g.conn
 all_goals rw[hc] at h
 all_goals
  repeat' ((conv=>whnf);first|(refine Br.tt ?_)|(refine Br.ff ?_)|(refine h.go ?_))
  all_goals (conv=>whnf)
  exact VLe.rfl
theorem J6r (g:G) (hs:g.Small):Ret Try.prog 20 [g.v] (.bool g.conn):=by
 have h:=Q1q g hs;refine J0h rfl ?_;refine J0d mixed Try.func20 rfl hc20 hr20 rfl ?_;cases hc:g.conn
 all_goals rw[hc] at h
 all_goals
  repeat' ((conv=>whnf);first|(refine Br.tt ?_)|(refine Br.ff ?_)|(refine h.go ?_))
  all_goals (conv=>whnf)
  exact VLe.rfl
theorem J1R (g:G) (hs:g.Small) (c:Cf) (hc:J5t c):Ret Try.prog 25 [g.v,cV c] (.bool (g.conn&&g.xconf c)):=by
 have hf:=Q0T g hs;refine J0h rfl ?_;refine J0d mixed Try.func25 rfl hc25 hr25 rfl ?_;cases hg:g.conn with
 | true =>
   rw[hg] at hf;rw[Bool.true_and];obtain⟨h1,_⟩:=J0o hg;obtain⟨f1,f2,f3,f4,f5,f6,f7⟩:=J0f h1;have hb:=Q2k g hs f3 c hc [16*(g.ids.length:Int),-1] (by simp);rw[Q2X g h1] at hb
   repeat' ((conv=>whnf);first|(refine Br.tt ?_)|(refine Ar.q ?_)|(refine hf.go ?_)|(refine J34 [1] hb ⟨by decide,VLe.rfl,VLe.rfl,VLe.fz rfl (fun h=>h) (J9b _ _ _ (by first|rfl|(congr 1;omega)) rfl),True.intro⟩ ?_)|(refine Br.any (fun _=>?_) (fun _=>?_)))
   all_goals (conv=>whnf)
   all_goals exact VLe.bool (Eq.symm (by first|assumption|exact decide_eq_true (by assumption)|exact decide_eq_false (by assumption)))
 | false =>
   rw[hg] at hf
   repeat' ((conv=>whnf);first|(refine Br.ff ?_)|(refine hf.go ?_))
   all_goals (conv=>whnf)
   all_goals exact VLe.rfl
noncomputable def Q4t (g:G) (c:Cf):Bool:=decide (∀v,v<c.length->gI (gC c v) 0=gI (J1Z g) v/\gI (gC c v) 1=upW g v)
theorem J5B {g:G} {c:Cf}:Q4t g c=true↔∀v,v<c.length->gI (gC c v) 0=gI (J1Z g) v/\gI (gC c v) 1=upW g v:=by rw[Q4t,decide_eq_true_eq]
noncomputable def G.xleg (g:G) (c:Cf):Bool:=g.conn&&g.xconf c&&Q4t g c
theorem Q0M {g:G} (h:g.conn=true) {c:Cf} (hc:J8p J3H g c):g.xleg c=true↔TrX g c:=by
 have hl:=hc.len;rw[G.xleg,h,Q0N hc,Bool.true_and,Bool.true_and,J5B,hl];refine forall_congr' fun v=>forall_congr' fun hv=>?_;rw[J3c hv]
theorem J8X {g:G} (h:g.conn=true) {c:Cf} (hc:J8p J3H g c):g.xleg c=decide (enN J3H g c=0):=by
 rw[Bool.eq_iff_iff,decide_eq_true_eq,Q0M h hc,J8Z h hc]
end Go.Proofs.Ytojoidgjneapfaa
namespace Go.Proofs.Ytojoidgjneapfaa
open Go.Eng
set_option maxRecDepth 100000
set_option linter.unusedVariables false
theorem Q0Q {g:G} (hg:g.valid=true) {w:Int} (h0:0<=w) (h1:w<=15):0<=w*(g.ids.length:Int)/\w*(g.ids.length:Int)<=360:=by
 obtain⟨f1,f2,f3,f4,f5,f6,f7⟩:=J0f hg;obtain⟨k,rfl⟩:∃k:Nat,w=(k:Int):=⟨w.toNat,by omega⟩;have:k*g.ids.length<=15*24:=Nat.mul_le_mul (by omega) f2;have e:((k:Int)*(g.ids.length:Int))=((k*g.ids.length:Nat):Int):=by push_cast;rfl
 rw[e];omega
theorem J25 (g:G) (hg:g.valid=true) (y:Int) (hy:0<=y/\y<=1073741824) (l:Int×Int) (hl:0<=l.2/\l.2<=15) :
 Ret Try.prog 29 [.int .i64 g.ids.length,.int .i64 y,.agg [.int .i64 l.1,.int .i64 l.2]] (.int .i64 (exI g y l.2)):=by
 have hw:=Q0Q hg hl.1 hl.2;refine J0h rfl ?_;refine J0d mixed Try.func29 rfl hc29 hr29 rfl ?_
 repeat' ((conv=>whnf);first|(refine Ar.q ?_)|(refine Sv.mk _ rfl ?_))
 all_goals (conv=>whnf)
 exact VLe.of_eq rfl
def Q1O (n:Nat) (k:Nat):Nat->Nat->V:=fun i _=>.int .i64 (if 1<=i/\i<k+1 then 16*n else 0)
def Q3z (n:Nat) (b:Int):List Int:=(List.range n).map fun v=>if v=0 then 0 else b
theorem Q1P (n:Nat) (b:Int):(Q3z n b).length=n:=by simp[Q3z]
theorem J5Q {n:Nat} (b:Int) {v:Nat} (h:v<n):gI (Q3z n b) v=if v=0 then 0 else b:=by simp[Q3z,gI,List.getD,h]
def clE:Env->List Nat->Env
 | [],_=>[]
 | (t,v)::r,seen=>match J09 t seen with
   | true=>clE r seen
   | false=>(t,v)::clE r (t::seen)
def clB:Blk->Blk
 | .loop st pe env N ps C=>.loop st pe (clE env []) N ps C
 | b=>b
def clO:Own->Own
 | []=>[]
 | (k,b)::r=>(k,clB b)::clO r
theorem J9Z (n i j:Nat) (hj:j<1):VLe ((fun(_:Nat) j=>[V.int .i64 0].getD j default) i j) (Q1O n 0 i j):=by
 obtain rfl:j=0:=by omega
 apply VLe.of_eq;rw[Q1O,if_neg (by omega)];rfl
theorem Q1N (n k i j:Nat) (hj:j<1):VLe (J2b (Q1O n k) (k+1) 0 [.int .i64 (16*(n:Int))] i j) (Q1O n (k+1) i j):=by
 obtain rfl:j=0:=by omega
 apply VLe.of_eq;by_cases h:i=k+1
 . subst h;simp[J2b,Q1O]
 . simp only[J2b,Q1O];rw[if_neg (by simp[h])];congr 1;by_cases h2:1<=i/\i<k+1
   . rw[if_pos h2,if_pos (by omega)]
   . rw[if_neg h2,if_neg (by omega)]
theorem J78 (n i j:Nat) (hn:1<=n) (hi:i<n) (hj:j<1):VLe (Q1O n (n-1) i j) (vI (Q3z n (16*n)) i j):=by
 obtain rfl:j=0:=by omega
 apply VLe.of_eq;simp only[Q1O,vI];rw[J5Q _ hi];congr 1;by_cases h:i=0
 . subst h;simp
 . rw[if_pos (by omega),if_neg h]
set_option maxHeartbeats 16000000 in
theorem J85 (g:G) (hs:g.Small) (hgc:g.conn=true):Ret Try.prog 26 [g.v] (.fz (J1Z g).length 1 false (vI (J1Z g))):=by
 obtain⟨hg,_⟩:=J0o hgc;obtain⟨f1,f2,f3,f4,f5,f6,f7⟩:=J0f hg;refine J0h rfl ?_;refine J0d mixed Try.func26 rfl hc26 hr26 rfl ?_
 repeat' ((conv=>whnf);first|(refine Bd.q ?_)|(refine Len.q ?_)|(refine MkS.vec ?_))
 all_goals (conv=>whnf)
 refine J0A mixed [1,3,4] [] [4,5,6,7,8,9,10,11,12,13,14,15,16,17,18,19,20,21,22,23,24,25,26,27,28,29] [3,2,1,0] (fun k:Nat=>[(5,.int .i64 ((k:Int)+1))]) (fun own k=>J2T own 2 (.vec g.ids.length 1 (Q1O g.ids.length k))) (fun m k=>m=g.ids.length-1-k/\k<=g.ids.length-1) (g.ids.length-1) 0 ⟨rfl,Nat.zero_le _⟩ rfl (fun _=>rfl) ?_ ?_
 . refine J0g (fun _ _=>[(0,some 0),(1,some 1),(2,some 2),(3,some 3)]) ?_ ?_ rfl
   . repeat' (first|exact tI|(refine⟨⟨_,rfl,?_⟩,?_⟩)|exact J0a.kf rfl|exact J0a.loc rfl)
   . repeat' (first|exact⟨Nat.le_refl _,rfl,fun i j hi hj=>J9Z _ i j hj⟩|exact tI|(refine⟨⟨_,rfl,?_⟩,?_⟩)|exact J0a.kf rfl|exact J0a.q|apply And.intro)
 rintro m k ⟨hm,hk⟩;by_cases hkn:k<g.ids.length-1
 . repeat' ((conv=>whnf);first|(refine Ix.w (k+1) ?_)|(refine Br.dec ?_ ?_<;>intro _<;>try omega)|(refine Ar.q ?_)|(refine Ltn.q ?_))
   all_goals (conv=>whnf)
   refine⟨g.ids.length-1-(k+1),k+1,by omega,⟨rfl,by omega⟩,?_⟩;refine J0g (fun _ _=>[(0,some 0),(1,some 1),(2,some 2),(3,some 3)]) ?_ ?_ rfl
   . repeat' (first|exact tI|(refine⟨⟨_,rfl,?_⟩,?_⟩)|exact J0a.kf rfl|exact J0a.loc rfl)
   . repeat' (first|exact⟨Nat.le_refl _,rfl,fun i j hi hj=>by simp only[Nat.zero_add];exact Q1N _ k i j hj⟩|exact tI|(refine⟨⟨_,rfl,?_⟩,?_⟩)|exact J0a.kf rfl|exact J0a.q|apply And.intro)
 . have ek:k=g.ids.length-1:=by omega
   subst ek
   repeat' ((conv=>whnf);first|(refine Br.dec ?_ ?_<;>intro _<;>try omega))
   all_goals (conv=>whnf)
   have hlen0:=Q1P g.ids.length (16*(g.ids.length:Int));have hin0:VIn g 0 (Q3z g.ids.length (16*(g.ids.length:Int))):=VIn.start hgc hlen0 (by rw[J5Q _ (by omega)];rfl) (fun v hv h0=>by rw[J5Q _ hv,if_neg h0];omega);refine J0A mixed [1,3,4,23] [] [4,5,6,7,8,9,10,11,12,13,14,15,16,17,18,19,20,21,22,23,24,25,26,27,28,29] [3,2,1,0] (fun p:Nat×List Int=>[(24,.int .i64 p.1)]) (fun own p=>J2T own 2 (.vec g.ids.length 1 (vI p.2))) (fun m p=>m=g.ids.length-p.1/\p.1<=g.ids.length/\VIn g p.1 p.2) g.ids.length (0,Q3z g.ids.length (16*(g.ids.length:Int))) ⟨rfl,Nat.zero_le _,hin0⟩ rfl (fun _=>rfl) ?_ ?_
   . refine J0g (fun _ _=>[(0,some 0),(1,some 1),(2,some 2),(3,some 3)]) ?_ ?_ rfl
     . repeat' (first|exact tI|(refine⟨⟨_,rfl,?_⟩,?_⟩)|exact J0a.kf rfl|exact J0a.loc rfl)
     . repeat' (first|exact⟨Nat.le_refl _,rfl,fun i j hi hj=>by first|exact J78 _ i j f1 hi hj|(simp only[Nat.zero_add];exact J78 _ i j f1 hi hj)⟩|exact tI|(refine⟨⟨_,rfl,?_⟩,?_⟩)|exact J0a.kf rfl|exact J0a.q|apply And.intro)
   rintro m ⟨r,x⟩ ⟨hm,hr,hI⟩;simp only at hm hr hI;by_cases hrn:r<g.ids.length
   . dsimp only
     repeat' ((conv=>whnf);first|(refine Br.dec ?_ ?_<;>intro _<;>try omega)|(refine J0d mixed Try.func32 rfl hc32 hr32 rfl ?_)|(refine J46 ?_)|(refine Chk.q ?_)|(refine J0d mixed Try.func47 rfl hc47 hr47 rfl ?_))
     all_goals (conv=>whnf)
     refine J0A mixed [0,8,9] [] [6,7,8,9,10,11,12,13,14,15,16,17,18,19,20,21,22,23,24,25,26,27,28,29] [5,4,3,2,1,0] (fun p:Nat×List Int=>[(10,.int .i64 p.1)]) (fun own p=>clO (J2T own 2 (.vec g.ids.length 1 (vI p.2)))) (fun m p=>m=g.ids.length-p.1/\p.1<=g.ids.length/\VPs g r p.1 0 p.2) g.ids.length (0,x) ⟨rfl,Nat.zero_le _,VPs.start hI⟩ rfl (fun _=>rfl) ?_ ?_
     . refine J0g (fun _ _=>[(0,some 0),(1,some 1),(2,some 2),(3,some 3),(4,some 4),(5,some 5)]) ?_ ?_ rfl
       . repeat' (first|exact J0a.yld rfl|exact tI|(refine⟨⟨_,rfl,?_⟩,?_⟩)|exact J0a.kf rfl)
       . repeat' (first|(refine J0a.fn ?_)|(refine⟨rfl,rfl,rfl,rfl,rfl,?_⟩)|exact⟨Nat.le_refl _,rfl,fun i j hi hj=>VLe.rfl⟩|exact tI|(refine⟨⟨_,rfl,?_⟩,?_⟩)|exact J0a.kf rfl|exact J0a.loc rfl|exact J0a.q|apply And.intro)
     rintro m ⟨v,y⟩ ⟨hm2,hv,hP⟩;simp only at hm2 hv hP;by_cases hvn:v<g.ids.length
     . dsimp only;have hrl:=J2Z hg v
       repeat' ((conv=>whnf);first|(refine Br.dec ?_ ?_<;>intro _<;>try omega)|(refine Ix.q ?_))
       all_goals (conv=>whnf)
       refine J0A mixed [0,3,8,9,10,15,16] [] [6,7,8,9,10,11,12,13,14,15,16,17,18,19,20,21,22,23,24,25,26,27,28,29] [5,4,3,2,1,0] (fun p:Nat×List Int=>[(17,.int .i64 p.1)]) (fun own p=>clO (J2T own 2 (.vec g.ids.length 1 (vI p.2)))) (fun m p=>m=(gR g.ports v).length-p.1/\p.1<=(gR g.ports v).length/\VPs g r v p.1 p.2) (gR g.ports v).length (0,y) ⟨rfl,Nat.zero_le _,hP⟩ rfl (fun _=>rfl) ?_ ?_
       . refine J0g (fun _ _=>[(0,some 0),(1,some 1),(2,some 2),(3,some 3),(4,some 4),(5,some 5)]) ?_ ?_ rfl
         . repeat' (first|exact J0a.yld rfl|exact tI|(refine⟨⟨_,rfl,?_⟩,?_⟩)|exact J0a.kf rfl)
         . repeat' (first|(refine J0a.fn ?_)|(refine⟨rfl,rfl,rfl,rfl,rfl,?_⟩)|exact⟨Nat.le_refl _,rfl,fun i j hi hj=>VLe.rfl⟩|exact tI|(refine⟨⟨_,rfl,?_⟩,?_⟩)|exact J0a.kf rfl|exact J0a.loc rfl|exact J0a.q|apply And.intro)
       rintro m ⟨i,z⟩ ⟨hm3,hi,hQ⟩;simp only at hm3 hi hQ;by_cases hin:i<(gR g.ports v).length
       . dsimp only;have hok:=(J0s.1 (f6 v (by omega))).1 _ (J02 hin);have hb:=hQ.base;have hzl:=hb.len;have hlo:=hb.low (gF (gR g.ports v) i).1.toNat (by omega);have hto:=hb.top (gF (gR g.ports v) i).1.toNat (by omega);have hext:=J25 g hg (gI z (0+(gF (gR g.ports v) i).1.toNat)) ⟨by rw[Nat.zero_add];omega,by rw[Nat.zero_add];exact hto⟩ (gF (gR g.ports v) i) ⟨by omega,by omega⟩
         repeat' ((conv=>whnf);first|(refine Ix.mk (gF (gR g.ports v) i).1.toNat (by omega) (by omega) ?_)|(refine Br.tt ?_)|(refine Br.dec ?_ ?_<;>intro _<;>try omega)|(refine Ar.q ?_)|(refine Sv.mk _ rfl ?_)|(refine Ix.q ?_)|(refine Ltn.q ?_)|(refine hext.go ?_)|(refine J3p mixed rfl rfl ?_)|(refine And.intro rfl ?_)|(refine And.intro (Ltn.mk (by omega) rfl) ?_))
         all_goals (conv=>whnf)
         refine⟨(gR g.ports v).length-(i+1),(i+1,J9q g z v (gF (gR g.ports v) i)),by omega,⟨rfl,by omega,hQ.step hgc hvn hin⟩,?_⟩;refine J0g (fun _ _=>[(0,some 0),(1,some 1),(2,some 2),(3,some 3),(4,some 4),(5,some 5)]) ?_ ?_ rfl
         . repeat' (first|exact J0a.yld rfl|exact tI|(refine⟨⟨_,rfl,?_⟩,?_⟩)|exact J0a.kf rfl)
         . repeat' (first|(refine J0a.fn ?_)|(refine⟨rfl,rfl,rfl,rfl,rfl,?_⟩)|exact⟨Nat.le_refl _,rfl,fun i j hi hj=>by simp only[Nat.zero_add];exact J82 z v _ _ _ (by omega) hj⟩|exact tI|(refine⟨⟨_,rfl,?_⟩,?_⟩)|exact J0a.kf rfl|exact J0a.loc rfl|exact J0a.q|apply And.intro)
       . repeat' ((conv=>whnf);first|(refine Br.dec ?_ ?_<;>intro _<;>try omega)|(refine Ar.q ?_))
         all_goals (conv=>whnf)
         refine⟨g.ids.length-(v+1),(v+1,z),by omega,⟨rfl,by omega,?_⟩,?_⟩
         . have e:i=(gR g.ports v).length:=by omega
           subst e;exact hQ.row hgc hvn
         . refine J0g (fun _ _=>[(0,some 0),(1,some 1),(2,some 2),(3,some 3),(4,some 4),(5,some 5)]) ?_ ?_ rfl
           . repeat' (first|exact J0a.yld rfl|exact tI|(refine⟨⟨_,rfl,?_⟩,?_⟩)|exact J0a.kf rfl)
           . repeat' (first|(refine J0a.fn ?_)|(refine⟨rfl,rfl,rfl,rfl,rfl,?_⟩)|exact⟨Nat.le_refl _,rfl,fun i j hi hj=>VLe.rfl⟩|exact tI|(refine⟨⟨_,rfl,?_⟩,?_⟩)|exact J0a.kf rfl|exact J0a.loc rfl|exact J0a.q|apply And.intro)
     . repeat' ((conv=>whnf);first|(refine Br.dec ?_ ?_<;>intro _<;>try omega)|(refine Ar.q ?_))
       all_goals (conv=>whnf)
       refine⟨g.ids.length-(r+1),(r+1,y),by omega,⟨rfl,by omega,hP.over (by omega)⟩,?_⟩;refine J0g (fun _ _=>[(0,some 0),(1,some 1),(2,some 2),(3,some 3)]) ?_ ?_ rfl
       . repeat' (first|exact tI|(refine⟨⟨_,rfl,?_⟩,?_⟩)|exact J0a.kf rfl|exact J0a.loc rfl)
       . repeat' (first|exact⟨Nat.le_refl _,rfl,fun i j hi hj=>VLe.rfl⟩|exact tI|(refine⟨⟨_,rfl,?_⟩,?_⟩)|exact J0a.kf rfl|exact J0a.q|apply And.intro)
   . repeat' ((conv=>whnf);first|(refine Br.dec ?_ ?_<;>intro _<;>try omega)|(refine Len.q ?_))
     all_goals (conv=>whnf)
     have er:r=g.ids.length:=by omega
     subst er;have hx:=hI.done;subst hx;exact VLe.fz (J3b g).symm (fun h=>h) (fun i j hi hj=>VLe.of_eq (by simp[J0n]))
end Go.Proofs.Ytojoidgjneapfaa
namespace Go.Proofs.Ytojoidgjneapfaa
open Go.Eng
set_option maxRecDepth 100000
set_option linter.unusedVariables false
end Go.Proofs.Ytojoidgjneapfaa
