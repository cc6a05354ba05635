import Derived.Test.YtbceaajfhcgnjaaGreatTabM
import Derived.KernelRfl
import Derived.Test.YtbceaajfhcgnjaaGreatSV1
import Derived.Test.YtbceaajfhcgnjaaGreatEngZ
import Derived.Test.YtbceaajfhcgnjaaGreatGR10
import Derived.Test.YtbceaajfhcgnjaaGreatEvA
import Derived.Test.YtbceaajfhcgnjaaGreatEvX2
import Derived.Test.YtbceaajfhcgnjaaGreatLY3
import Derived.Test.YtbceaajfhcgnjaaGreatEngT
import Derived.Test.YtbceaajfhcgnjaaGreatRows
namespace Go.Proofs.YtbceaajfhcgnjaaGreat
open Go.Eng
set_option maxRecDepth 100000
def DD:List C:=[(.int .i64 0),(.int .i64 0),(.bool false)]
def rlR:C:=(.fz 2 3 false [] [[(.str 5 435777791340),(.fz 4 2 false DD [[(.int .i64 41),(.int .i64 0)],[(.int .i64 5),(.int .i64 0)],[(.int .i64 21),(.int .i64 0)],[(.int .i64 12),(.int .i64 0)]]),(.fz 1 2 false [] [[(.int .i64 0),(.fz 1 2 false DD [[(.int .i64 3),(.int .i64 0)]])]])],[(.str 5 491328400997),(.fz 6 2 false DD [[(.int .i64 41),(.int .i64 0)],[(.int .i64 19),(.int .i64 0)],[(.int .i64 5),(.int .i64 0)],[(.int .i64 19),(.int .i64 0)],[(.int .i64 21),(.int .i64 0)],[(.int .i64 12),(.int .i64 0)]]),(.fz 1 2 false [] [[(.int .i64 0),(.fz 1 2 false DD [[(.int .i64 2),(.int .i64 0)]])]])]])
def aggR2:C:=.agg [nmQ,vrI,rlR]
def aggJ:C:=.agg [(.str 7 32199698172701795),(.fz 2 6 false [] [[(.str 1 109),(.int .i64 2),(.int .i64 0),(.int .i64 0),(.int .i64 0),(.int .i64 0)],[(.str 1 104),(.int .i64 3),(.int .i64 0),(.int .i64 0),(.int .i64 0),(.int .i64 0)]]),(.fz 3 3 false [] [[(.str 5 435777791340),(.fz 4 2 false DD [[(.int .i64 41),(.int .i64 0)],[(.int .i64 5),(.int .i64 0)],[(.int .i64 21),(.int .i64 0)],[(.int .i64 12),(.int .i64 0)]]),(.fz 1 2 false [] [[(.int .i64 0),(.fz 1 2 false DD [[(.int .i64 3),(.int .i64 0)]])]])],[(.str 5 491328400997),(.fz 6 2 false DD [[(.int .i64 41),(.int .i64 0)],[(.int .i64 19),(.int .i64 0)],[(.int .i64 5),(.int .i64 0)],[(.int .i64 19),(.int .i64 0)],[(.int .i64 21),(.int .i64 0)],[(.int .i64 12),(.int .i64 0)]]),(.fz 1 2 false [] [[(.int .i64 0),(.fz 1 2 false DD [[(.int .i64 2),(.int .i64 0)]])]])],[(.str 5 500068609904),(.fz 7 2 false DD [[(.int .i64 36),(.int .i64 0)],[(.int .i64 5),(.int .i64 1)],[(.int .i64 43),(.int .i64 0)],[(.int .i64 5),(.int .i64 0)],[(.int .i64 4),(.int .i64 0)],[(.int .i64 23),(.int .i64 0)],[(.int .i64 12),(.int .i64 0)]]),(.fz 1 2 false [] [[(.int .i64 1),(.fz 5 2 false DD [[(.int .i64 43),(.int .i64 0)],[(.int .i64 5),(.int .i64 0)],[(.int .i64 4),(.int .i64 0)],[(.int .i64 23),(.int .i64 0)],[(.int .i64 12),(.int .i64 0)]])]])]])]
theorem ev_join:evX tm 10000 100 9 [aggI,aggU]=some (.tup [aggJ,.int .i64 0]):=by kernel_rfl
theorem ev_restrict:evX tm 10000 100 11 [aggQ,.int .u32 1]=some (.tup [aggR2,.int .i64 0]):=by kernel_rfl
theorem ev_lower1:evX tm 10000 100 14 [aggQ,.int .u32 1]=some (.bool true):=by kernel_rfl
theorem ev_lower2:evX tm 10000 100 14 [aggQ,.int .u32 2]=some (.bool false):=by kernel_rfl
theorem ev_sameQ:evX tm 10000 100 13 [aggQ,aggQ]=some (.bool true):=by kernel_rfl
theorem ev_sameI:evX tm 10000 100 13 [aggI,aggI]=some (.bool true):=by kernel_rfl
end Go.Proofs.YtbceaajfhcgnjaaGreat
namespace Go.Proofs.YtbceaajfhcgnjaaGreat
open Go.Eng
set_option maxRecDepth 100000
set_option linter.unusedVariables false
abbrev Pt:=List (List (Int×Int))
def toN (p:Pt) (v i:Nat):Nat:=(gF (gR p v) i).1.toNat
def lay (p:Pt) (f:Nat):Nat->Nat->Int
 | 0,v=>if v=f then 0 else -1
 | k+1,v=>if 0<=lay p f k v then lay p f k v else if (gR p v).any (fun l=>decide (lay p f k l.1.toNat=k)) then (k:Int)+1 else -1
structure Found (p:Pt) (f:Nat) (r:Nat->Int):Prop where
 low:∀v,v<p.length->-1<=r v
 from_:r f=0
 back:∀v,v<p.length->v≠f->0<=r v->∃l∈gR p v,r l.1.toNat=r v-1/\0<=r l.1.toNat
 on:∀v,v<p.length->0<=r v->∀l∈gR p v,0<=r l.1.toNat/\r l.1.toNat<=r v+1
structure Und (p:Pt):Prop where
 rng:∀v,v<p.length->∀l∈gR p v,l.1.toNat<p.length
 sym:∀v,v<p.length->∀l∈gR p v,∃m∈gR p l.1.toNat,m.1.toNat=v
theorem Found.at_ {p:Pt} {f:Nat} {r:Nat->Int} (hu:Und p) (h:Found p f r) (hf:f<p.length):∀k v,v<p.length->lay p f k v=if 0<=r v/\r v<=k then r v else -1
 | 0,v,hv=>by
   simp only[lay];by_cases e:v=f
   . subst e;rw[if_pos rfl,h.from_];simp
   . rw[if_neg e];by_cases h0:0<=r v
     . obtain⟨l,_,h1,h2⟩:=h.back v hv e h0;rw[if_neg (by omega)]
     . rw[if_neg (by omega)]
 | k+1,v,hv=>by
   have ih:=fun v hv=>Found.at_ hu h hf k v hv;have hl:=h.low v hv;rw[lay];by_cases h0:0<=r v/\r v<=k
   . have e1:lay p f k v=r v:=by rw[ih v hv,if_pos h0]
     rw[e1,if_pos h0.1];exact(if_pos ⟨h0.1,by omega⟩).symm
   . have e1:lay p f k v=-1:=by rw[ih v hv,if_neg h0]
     rw[e1,if_neg (by decide)];by_cases h1:0<=r v/\r v=k+1
     . have hvf:v≠f:=fun e=>by subst e;rw[h.from_] at h1;omega
       obtain⟨l,hl,q1,q2⟩:=h.back v hv hvf h1.1;have ha:(gR p v).any (fun l=>decide (lay p f k l.1.toNat=k))=true:=by
        rw[List.any_eq_true];refine⟨l,hl,decide_eq_true ?_⟩;rw[ih _ (hu.rng v hv l hl),if_pos ⟨q2,by omega⟩];omega
       rw[if_pos ha];refine Eq.trans ?_ (if_pos ⟨h1.1,by omega⟩).symm;omega
     . refine Eq.trans (if_neg ?_) (if_neg (show ¬ (0<=r v/\r v<=((k+1:Nat):Int)) by omega)).symm;intro ha;rw[List.any_eq_true] at ha;obtain⟨l,hl,e⟩:=ha;have e:=of_decide_eq_true e;have hlr:=hu.rng v hv l hl;rw[ih _ hlr] at e;split at e
       . rename_i h2;obtain⟨m,hm,em⟩:=hu.sym v hv l hl;obtain⟨q1,q2⟩:=h.on _ hlr h2.1 m hm;rw[em] at q1 q2;omega
       . omega
structure BI (p:Pt) (f:Nat) (q:List Nat) (r:List Int):Prop where
 len:r.length=p.length
 low:∀v,v<p.length->-1<=gI r v
 from_:gI r f=0
 back:∀v,v<p.length->v≠f->0<=gI r v->∃l∈gR p v,gI r l.1.toNat=gI r v-1/\0<=gI r l.1.toNat
 qn:∀u∈q,u<p.length/\0<=gI r u
 sorted:q.Pairwise fun a b=>gI r a<=gI r b
structure BO (p:Pt) (f:Nat) (q:List Nat) (r:List Int):Prop extends BI p f q r where
 top:∀u∈q,∀v,v<p.length->gI r v<=gI r u+1
 done:∀v,v<p.length->0<=gI r v->v∉q->∀l∈gR p v,0<=gI r l.1.toNat/\gI r l.1.toNat<=gI r v+1
structure BP (p:Pt) (f v i:Nat) (q:List Nat) (r:List Int):Prop extends BI p f q r where
 vn:v<p.length/\0<=gI r v
 most:∀x,x<p.length->gI r x<=gI r v+1
 least:∀u∈q,gI r v<=gI r u
 done:∀x,x<p.length->0<=gI r x->x∉q->x≠v->∀l∈gR p x,0<=gI r l.1.toNat/\gI r l.1.toNat<=gI r x+1
 seen:∀l∈(gR p v).take i,0<=gI r l.1.toNat
theorem BP.fin {p:Pt} {f v i:Nat} {q:List Nat} {r:List Int} (hu:Und p) (h:BP p f v i q r) (hi:(gR p v).length<=i):BO p f q r where
 toBI:=h.toBI
 top:=fun u hu x hx=>by have:=h.least u hu;have:=h.most x hx;omega
 done:=fun x hx h0 hq=>by
  by_cases e:x=v
  . subst e;intro l hl;refine⟨h.seen l (by rw[List.take_of_length_le hi];exact hl),h.most _ (hu.rng x hx l hl)⟩
  . exact h.done x hx h0 hq e
theorem BP.skip {p:Pt} {f v i:Nat} {q:List Nat} {r:List Int} (h:BP p f v i q r) (hi:i<(gR p v).length) (h0:0<=gI r (toN p v i)):BP p f v (i+1) q r where
 toBI:=h.toBI
 vn:=h.vn
 most:=h.most
 least:=h.least
 done:=h.done
 seen:=fun l hl=>by
  rw[gF_take _ i hi] at hl;rcases List.mem_append.1 hl with h1|h1
  . exact h.seen l h1
  . simp at h1;rw[h1];exact h0
theorem BO.found {p:Pt} {f:Nat} {r:List Int} (h:BO p f [] r):Found p f (gI r) where
 low:=h.low
 from_:=h.from_
 back:=h.back
 on:=fun v hv h0 l hl=>h.done v hv h0 (by simp) l hl
def dst (g:G) (f:Nat):List Int:=(List.range g.ports.length).map (lay g.ports f (g.ports.length-1))
theorem sh_at (lo:Nat) (f:Nat->Nat->V) (i j:Nat):shiftF lo f i j=f (lo+i) j:=by
 cases lo with
 | zero=>simp[shiftF]
 | succ n=>simp[shiftF]
def pjC (k:Nat) (c:Cf):Cf:=c.map fun r=>r.take k
theorem pjC_len (k:Nat) (c:Cf):(pjC k c).length=c.length:=by simp[pjC]
theorem pjC_row (k:Nat) (c:Cf) (v:Nat):gC (pjC k c) v=(gC c v).take k:=by
 simp only[gC,pjC,List.getD,List.getElem?_map];cases c[v]?<;>simp
theorem gI_takeK (l:List Int) (k i:Nat) (hi:i<k):gI (l.take k) i=gI l i:=by
 simp only[gI,List.getD,List.getElem?_take,hi,if_true]
structure PjI (k:Nat) (c:Cf) (v:Nat) (F:Nat->Nat->V):Prop where
 done:∀i,i<v->F i 0=.fz k 1 false (vI (gC c i))
 rest:∀i,v<=i->F i 0=.nilslice
def pjF (k:Nat) (c:Cf) (v:Nat) (F:Nat->Nat->V):Nat->Nat->V:=fun i j=>if i=v then .fz k 1 false (vI (gC c v)) else F i j
theorem pjF_set (k:Nat) (c:Cf) (v:Nat) (F:Nat->Nat->V) (X:V) (hX:VLe X (.fz k 1 false (vI (gC c v)))) (i t:Nat) (ht:t<1):VLe (fset F v 0 [X] i t) (pjF k c v F i t):=by
 obtain rfl:t=0:=by omega
 rw[pjF];by_cases h:i=v
 . subst h;have e1:fset F i 0 [X] i 0=X:=by simp[fset]
   rw[e1,if_pos rfl];exact hX
 . rw[if_neg h];apply VLe.of_eq;simp only[fset];rw[if_neg (by simp[h])]
theorem PjI.next {k:Nat} {c:Cf} {v:Nat} {F:Nat->Nat->V} (h:PjI k c v F):PjI k c (v+1) (pjF k c v F) :=
 ⟨fun i hi=>by
   rw[pjF];by_cases e:i=v
   . subst e;rw[if_pos rfl]
   . rw[if_neg e];exact h.done i (by omega),fun i hi=>by rw[pjF,if_neg (by omega)];exact h.rest i (by omega)⟩
theorem PjI.end_ {k:Nat} {c:Cf} {F:Nat->Nat->V} (h:PjI k c c.length F) (hr:∀v,v<c.length->k<=(gC c v).length):VLe (.fz c.length 1 false (shiftF 0 F)) (cV (pjC k c)):=by
 refine VLe.fz (pjC_len k c).symm (fun h=>h) (fun i t hi ht=>?_);obtain rfl:t=0:=by omega
 have hl:(gC (pjC k c) i).length=k:=by rw[pjC_row,List.length_take];have:=hr i hi;omega
 rw[sh_at,Nat.zero_add,h.done i hi];show VLe _ (.fz (gC (pjC k c) i).length 1 false (vI (gC (pjC k c) i)));rw[hl];refine VLe.fz rfl (fun h=>h) (fun a b ha hb=>VLe.of_eq ?_);simp only[vI];rw[pjC_row,gI_takeK _ _ _ ha]
set_option maxHeartbeats 4000000 in
theorem project1_ok (c:Cf) (hc:c.length<=1000) (hr:∀v,v<c.length->(gC c v).length=2):Ret Tryz.prog 16 [cV c,.int .u32 1] (cV (pjC 1 c)):=by
 refine ret_frz rfl ?_;refine fn_rule mixed Tryz.func16 rfl hc16 hr16 rfl ?_
 repeat' ((conv=>whnf);first|(refine Bd.nat (by omega) ?_)|(refine Len.mk (by omega) ?_)|(refine MkS.vec ?_))
 all_goals (conv=>whnf)
 refine loop_w mixed [1,5,13,14] [] [1,2,3,4,5,6,7,8,9,10,11,12,13,14,15,16,17,18,19,20,21,22,23,24,25,26,27,28,29] [0] (fun x:Nat×(Nat->Nat->V)=>[(15,.int .i64 x.1)]) (fun x=>[(0,.vec c.length 1 x.2)]) (fun m x=>m=c.length-x.1/\x.1<=c.length/\PjI 1 c x.1 x.2) c.length (0,fun _ _=>.nilslice) ⟨rfl,Nat.zero_le _,⟨fun i hi=>by omega,fun i _=>rfl⟩⟩ rfl (fun _=>rfl) ?_ ?_
 . refine weak_by (fun _ _=>[(0,some 0)]) ?_ ?_ rfl
   . repeat' (first|exact True.intro|(refine⟨⟨_,rfl,?_⟩,?_⟩)|exact VRen.kf rfl|exact VRen.vec rfl rfl rfl)
   . repeat' (first|exact⟨Nat.le_refl _,rfl,fun i j hi hj=>VLe.of_eq (by obtain rfl:j=0:=(by omega);rfl)⟩|exact True.intro|(refine⟨⟨_,rfl,?_⟩,?_⟩))
 rintro m ⟨v,F⟩ ⟨hm,hv,hI⟩;simp only at hm hv hI;by_cases hvn:v<c.length
 . have h3:=hr v hvn;have h0:=hI.rest v (Nat.le_refl _);have em:(if 32<((gC c v).length:Int) then (32:Int) else ((gC c v).length:Int))=2:=by rw[h3];rfl
   have eb0:bitI BinOp.and IntKind.u32 (Int.fdiv 1 (2 ^ min (Int.toNat 0) IntKind.u32.bits)) 1=1:=by decide
   have eb1:¬ bitI BinOp.and IntKind.u32 (Int.fdiv 1 (2 ^ min (Int.toNat (0+1)) IntKind.u32.bits)) 1=1:=by decide
   dsimp only
   repeat' ((conv=>whnf);first|(refine Br.dec ?_ ?_<;>intro _<;>try omega)|(refine Sv.mk _ rfl ?_)|(refine Ix.nat (by omega) ?_)|(refine Bd.int (by omega) (by omega) ?_))
   all_goals (conv=>whnf)
   simp only[em];refine loop_fuel mixed 4 ?_
   repeat' ((conv=>whnf);first|(refine Br.tt ?_)|(refine Sv.mk _ rfl ?_)|(refine Nn.mk (by omega) ?_)|(refine Ix.nat (by omega) ?_)|(refine Ix.mk 0 rfl (by omega) ?_)|(refine Ltn.mk (by omega) ?_))
   all_goals (conv=>whnf)
   . simp only[Nat.zero_add,h0]
     repeat' ((conv=>whnf);first|(refine Br.tt ?_)|(refine Br.ff ?_)|(refine Ar.i64 (by omega) (by omega) ?_)|(refine Sv.mk _ rfl ?_)|(refine Nn.mk (by omega) ?_)|(refine Ix.nat (by omega) ?_)|(refine Ix.mk 1 rfl (by omega) ?_)|(refine Len.mk (by omega) ?_)|(refine Ltn.mk (by omega) ?_))
     all_goals (conv=>whnf)
     all_goals
      refine⟨c.length-(v+1),(v+1,pjF 1 c v F),by omega,⟨rfl,by show v+1<=c.length;omega,hI.next⟩,?_⟩;refine weak_by (fun _ _=>[(0,some 0)]) ?_ ?_ rfl
      . repeat' (first|exact True.intro|(refine⟨⟨_,rfl,?_⟩,?_⟩)|exact VRen.kf rfl|exact VRen.vec rfl rfl rfl)
      . repeat' (first|(refine⟨Nat.le_refl _,rfl,fun i t hi ht=>?_⟩;simp only[Nat.zero_add];exact pjF_set 1 c v F _ (VLe.fz rfl (fun h=>h) (fun a b ha hb=>by(obtain rfl:a=0:=by omega);(obtain rfl:b=0:=by omega);exact VLe.rfl)) i t ht)|exact True.intro|(refine⟨⟨_,rfl,?_⟩,?_⟩))
 . repeat' ((conv=>whnf);first|(refine Br.dec ?_ ?_<;>intro _<;>try omega)|(refine Len.mk (by omega) ?_))
   all_goals (conv=>whnf)
   have e:v=c.length:=by omega
   subst e;exact hI.end_ (fun v hv=>by rw[hr v hv];omega)
structure Net where
 n:Int
 links:List Int
 weights:List Int
 ids:List Int
 apart:Bool
 back:Bool
def Net.v (x:Net):V:=.agg [.int .i64 x.n,.fz x.links.length 1 false (vI x.links),.fz x.weights.length 1 false (vI x.weights),.fz x.ids.length 1 false (vI x.ids),.bool x.apart,.bool x.back]
structure Net.Small (x:Net):Prop where
 links:x.links.length<=9223372036854775807
 weights:x.weights.length<=9223372036854775807
 ids:x.ids.length<=9223372036854775807
abbrev Ps:=List (List (Int×Int))
def lnk (p:Ps) (a:Nat) (b:Int):Bool:=(gR p a).any fun l=>decide (l.1=b)
theorem linked_ok (g:G) (hs:g.Small) (a:Nat) (b:Int) (ha:a<g.ports.length):Ret Tryz.prog 69 [g.v,.int .i64 a,.int .i64 b] (.bool (lnk g.ports a b)):=by
 have hrl:=gR_len hs.rows a;refine ret_frz rfl ?_;refine fn_rule mixed Tryz.func69 rfl hc69 hr69 rfl ?_
 repeat' ((conv=>whnf);first|fail)
 all_goals (conv=>whnf)
 refine loop_r mixed [1,2,3] (fun i:Nat=>[(7,.int .i64 i)]) (fun m i=>m=(gR g.ports a).length-i/\i<=(gR g.ports a).length/\((gR g.ports a).take i).any (fun l=>decide (l.1=b))=false) (gR g.ports a).length 0 ⟨rfl,Nat.zero_le _,rfl⟩ ?_ ?_
 . exact weak_b (fun _ _=>[(0,some 0)])
 rintro m i ⟨hm,hi,hall⟩
 repeat' ((conv=>whnf);first|(refine Br.dec ?_ ?_<;>intro _<;>try omega)|(refine Ar.i64 (by omega) (by omega) ?_)|(refine Ix.nat (by omega) ?_))
 all_goals (conv=>whnf)
 . refine VLe.bool ?_;symm;rw[lnk,List.any_eq_true];exact⟨_,gF_mem (show i<(gR g.ports a).length by omega),by simp;omega⟩
 . refine⟨(gR g.ports a).length-(i+1),i+1,by omega,⟨rfl,by omega,?_⟩,?_⟩
   . rw[gF_take _ _ (by omega),List.any_append,hall];simp;omega
   . exact weak_b (fun _ _=>[(0,some 0)])
 . refine VLe.bool ?_;rw[lnk,<- hall,List.take_of_length_le (by omega)]
def addP (bk:Bool) (r:List (Int×Int)) (l:Int×Int):List (Int×Int):=if bk then l::r else r++[l]
def linkP (bk:Bool) (p:Ps) (a b:Nat) (w:Int):Ps:=if a=b\/lnk p a b=true then p else (p.set a (addP bk (gR p a) ((b:Int),w))).set b (addP bk (gR p b) ((a:Int),w))
def lenP (p:Ps) (i:Nat):Nat:=(gR p i).length
def rowP (p:Ps) (i:Nat):Nat->Nat->V:=vF (gR p i)
abbrev famP (p:Ps):Blk:=.fam p.length 2 (lenP p) (rowP p) []
def KS4:List Nat:=[2,3,4,5,6,7,8,9,10,11,12,13,14,15,16,17,18,19,20,21,22,23,24,25,26,27,28,29]
def gOwn (g:G):Own:=[(0,.vec g.ids.length 1 (vI g.ids)),(1,famP g.ports)]
abbrev gV1 (i n:Nat):V:=.agg [.vec 0 1 0 i,.vec 1 1 0 n]
theorem lend_g (g:G):VLe (V.agg [.fz g.ids.length 1 false (shiftF 0 (vI g.ids)),.fz g.ports.length 1 false fun i _=>.fz (lenP g.ports i) 2 false (rowP g.ports i)]) g.v:=by
 refine VLe.agg ⟨VLe.fz rfl (fun h=>h) (fun i j hi hj=>VLe.of_eq ?_),VLe.rfl,True.intro⟩;simp[shiftF]
theorem lend_g2 (g:G) (a b:Nat):VLe (V.agg [.fz g.ids.length 1 false (shiftF 0 (vI g.ids)),.fz g.ports.length 1 false fun i _=>.fz (lenP g.ports i) 2 false (setF (setF (rowP g.ports) a (rowP g.ports a)) b (rowP g.ports b) i)]) g.v:=by
 have e:setF (setF (rowP g.ports) a (rowP g.ports a)) b (rowP g.ports b)=rowP g.ports:=by
  funext i;simp only[setF];split
  . rename_i h;rw[h]
  . split
    . rename_i h;rw[h]
    . rfl
 rw[e];exact lend_g g
theorem gR_set (p:Ps) (a:Nat) (A:List (Int×Int)) (ha:a<p.length) (i:Nat):gR (p.set a A) i=if i=a then A else gR p i:=by
 simp only[gR,List.getD,List.getElem?_set];by_cases h:a=i
 . subst h;simp[ha]
 . have:¬ i=a:=fun e=>h e.symm;simp[h,this]
theorem getD_snocF (l:List (Int×Int)) (x:Int×Int) (i:Nat):gF (l++[x]) i=if i<l.length then gF l i else if i=l.length then x else (0,0):=by
 by_cases h:i<l.length
 . simp only[gF,List.getD,List.getElem?_append_left h,if_pos h]
 . rw[if_neg h];by_cases h2:i=l.length
   . subst h2;simp[gF]
   . simp[gF,h2,List.getElem?_eq_none (by simp;omega:(l++[x]).length<=i)]
theorem vle_appF (l:List (Int×Int)) (a b:Int) (i j:Nat) (hi:i<l.length+1) (hj:j<2) :
 VLe (fapp (shiftF 0 (vF l)) l.length (shiftF 0 (tab [[.int .i64 a,.int .i64 b]])) i j) (vF (l++[(a,b)]) i j):=by
 apply VLe.of_eq;by_cases h:i<l.length
 . rw[fapp_lt h];obtain rfl|rfl:j=0\/j=1:=by omega
   . simp[shiftF,vF,getD_snocF,h]
   . simp[shiftF,vF,getD_snocF,h]
 . rw[fapp_ge h];have:i=l.length:=by omega
   subst this;obtain rfl|rfl:j=0\/j=1:=by omega
   . simp[shiftF,vF,getD_snocF,tab]
   . simp[shiftF,vF,getD_snocF,tab]
theorem vle_preF (l:List (Int×Int)) (a b:Int) (i j:Nat) (hi:i<1+l.length) (hj:j<2) :
 VLe (fapp (shiftF 0 (tab [[.int .i64 a,.int .i64 b]])) 1 (shiftF 0 (vF l)) i j) (vF ((a,b)::l) i j):=by
 apply VLe.of_eq;cases i with
 | zero =>
   rw[fapp_lt (by omega)];obtain rfl|rfl:j=0\/j=1:=by omega
   . simp[shiftF,vF,gF,tab]
   . simp[shiftF,vF,gF,tab]
 | succ i =>
   rw[fapp_ge (by omega)];obtain rfl|rfl:j=0\/j=1:=by omega
   . simp[shiftF,vF,gF]
   . simp[shiftF,vF,gF]
theorem rows2 {p:Ps} {a b:Nat} (ha:a<p.length) (hb:b<p.length) (hab:a≠b) {A B:List (Int×Int)} {fa fb:Nat->Nat->V} {la lb:Nat} (h1:A.length=la) (h2:B.length=lb)
 (h3:∀j t,j<la->t<2->VLe (fa j t) (vF A j t)) (h4:∀j t,j<lb->t<2->VLe (fb j t) (vF B j t)) (ρ:Rn) :
 BRen ρ (.fam p.length 2 (setN (setN (lenP p) a la) b lb) (setF (setF (rowP p) a fa) b fb) []) (famP ((p.set a A).set b B)):=by
 refine⟨by simp,rfl,True.intro,fun i hi=>?_,fun i j t hi hn hj ht=>?_⟩
 . show(gR ((p.set a A).set b B) i).length=_;rw[gR_set _ b B (by simpa using hb),gR_set p a A ha];simp only[setN];split
   . exact h2
   . split
     . exact h1
     . rfl
 . simp only[setN] at hj;show VLe _ (vF (gR ((p.set a A).set b B) i) j t);rw[gR_set _ b B (by simpa using hb),gR_set p a A ha];simp only[setF];split
   . rename_i e;rw[if_pos e] at hj;exact h4 j t hj ht
   . rename_i e;rw[if_neg e] at hj;split
     . rename_i e;rw[if_pos e] at hj;exact h3 j t hj ht
     . exact VLe.rfl
set_option maxHeartbeats 8000000 in
theorem link_ok (x:Net) (g:G) (hs:g.Small) (hr:∀v,(gR g.ports v).length<=1000) (a b:Nat) (ha:a<g.ports.length) (hb:b<g.ports.length) (w:Int) :
 CallF Tryz.prog 44 [x.v,gV1 g.ids.length g.ports.length,.int .i64 a,.int .i64 b,.int .i64 w] (gOwn g) KS4 fun v own' _=>v=.tup []/\own'=gOwn ⟨g.ids,linkP x.back g.ports a b w⟩:=by
 have hl:=linked_ok g hs a b ha;have ra:lenP g.ports a<=1000:=hr a;have rb:lenP g.ports b<=1000:=hr b;refine call_post (call_step ?_);by_cases hab:a=b
 . rw[linkP,if_pos (.inl hab)];refine fn_rule mixed Tryz.func44 rfl hc44 hr44 rfl ?_
   repeat' ((conv=>whnf);first|(refine Br.dec ?_ ?_<;>intro _<;>try omega))
   all_goals (conv=>whnf)
   exact⟨_,OwnStep.refl _,postR_by (fun _=>[(0,some 0),(1,some 1)]) _ _ ⟨rfl,rfl⟩ (VRen.kf rfl) (by repeat' (first|(refine⟨rfl,rfl,True.intro,fun i hi=>rfl,fun i j t hi hn hj ht=>VLe.rfl⟩)|exact True.intro|(refine⟨⟨_,rfl,?_⟩,?_⟩)|(refine⟨Nat.le_refl _,rfl,fun i j hi hj=>?_⟩)|exact VLe.rfl)) rfl⟩
 cases hk:lnk g.ports a b with
 | true =>
   rw[hk] at hl;rw[linkP,if_pos (.inr hk)];refine fn_rule mixed Tryz.func44 rfl hc44 hr44 rfl ?_
   repeat' ((conv=>whnf);first|(refine Br.tt ?_)|(refine Br.dec ?_ ?_<;>intro _<;>try omega)|(refine call_lend hl rfl ⟨by omega,by omega,lend_g g,VLe.rfl,VLe.rfl,True.intro⟩ ?_))
   all_goals (conv=>whnf)
   exact⟨_,OwnStep.refl _,postR_by (fun _=>[(0,some 0),(1,some 1)]) _ _ ⟨rfl,rfl⟩ (VRen.kf rfl) (by repeat' (first|(refine⟨rfl,rfl,True.intro,fun i hi=>rfl,fun i j t hi hn hj ht=>VLe.rfl⟩)|exact True.intro|(refine⟨⟨_,rfl,?_⟩,?_⟩)|(refine⟨Nat.le_refl _,rfl,fun i j hi hj=>?_⟩)|exact VLe.rfl)) rfl⟩
 | false =>
   rw[hk] at hl;rw[linkP,if_neg (fun h=>h.elim hab (fun h=>by rw[hk] at h;cases h))];refine call_open 28 1 a rfl rfl ha rfl ?_;refine call_open 29 1 b rfl rfl hb (look_there hab) ?_;show CallF Tryz.prog _ _ [(29,.vec (lenP g.ports b) 2 (rowP g.ports b)),(28,.vec (lenP g.ports a) 2 (rowP g.ports a)),(0,.vec g.ids.length 1 (vI g.ids)),(1,.fam g.ports.length 2 (lenP g.ports) (rowP g.ports) [(b,29),(a,28)])] [2,3,4,5,6,7,8,9,10,11,12,13,14,15,16,17,18,19,20,21,22,23,24,25,26,27] _;refine fn_rule mixed Tryz.func44 rfl hc44 hr44 rfl ?_;obtain⟨xn,xl,xw,xi,xa,xb⟩:=x;cases xb
   . repeat' ((conv=>whnf);first|(refine Br.ff ?_)|(refine Br.dec ?_ ?_<;>intro _<;>try omega)|(refine Br.nbeq ?_ ?_<;>intro _<;>try omega)|(refine Ix.nat (by omega) ?_)|(refine Len.mk (by omega) ?_)|(refine Ltn.mk (by omega) ?_)|(refine call_lend hl rfl ⟨by omega,by omega,Nat.le_refl _,Nat.le_refl _,lend_g2 g a b,VLe.rfl,VLe.rfl,True.intro⟩ ?_)|(refine Opn.hd (by omega) ?_)|(refine Opn.tl (by omega) (Opn.hd (by omega) ?_))|(refine And.intro rfl ?_)|(refine And.intro (Ltn.mk (by omega) (Opn.hd (by omega) rfl)) ?_)|(refine OpnSet.hd (by omega) ?_)|(refine OpnSet.tl (by omega) (OpnSet.hd (by omega) ?_)))
     all_goals (conv=>whnf)
     all_goals exact⟨_,close2 hab ha hb rfl rfl rfl rfl (by first|exact Nat.le_refl _|simp[setN,hab]) (by first|exact Nat.le_refl _|simp[setN]),postR_by (fun _=>[(0,some 0),(1,some 1)]) _ _ ⟨rfl,rfl⟩ (VRen.kf rfl) ⟨⟨_,rfl,Nat.le_refl _,rfl,fun _ _ _ _=>VLe.rfl⟩,⟨_,rfl,rows2 ha hb hab (by first|(simp;done)|simp[addP,lenP]) (by first|(simp;done)|simp[lenP]) (fun j t hj ht=>vle_appF _ _ _ _ _ hj ht) (fun j t hj ht=>vle_appF _ _ _ _ _ hj ht) _⟩,True.intro⟩ rfl⟩
   . repeat' ((conv=>whnf);first|(refine Br.tt ?_)|(refine Br.ff ?_)|(refine Br.dec ?_ ?_<;>intro _<;>try omega)|(refine Ix.nat (by omega) ?_)|(refine Len.mk (by omega) ?_)|(refine Ltn.mk (by omega) ?_)|(refine call_lend hl rfl ⟨by omega,by omega,Nat.le_refl _,Nat.le_refl _,lend_g2 g a b,VLe.rfl,VLe.rfl,True.intro⟩ ?_)|(refine Opn.hdl (by omega) (show setN _ _ _ _=lenP g.ports b from if_neg (by omega)) ?_)|(refine Opn.tl (by omega) (Opn.hd (by omega) ?_))|(refine And.intro rfl ?_)|(refine OpnSet.hd (by omega) ?_)|(refine OpnSet.tl (by omega) (OpnSet.hd (by omega) ?_)))
     all_goals (conv=>whnf)
     all_goals exact⟨_,close2 hab ha hb rfl rfl rfl rfl (by first|exact Nat.le_refl _|simp[setN,hab]) (by first|exact Nat.le_refl _|simp[setN]),postR_by (fun _=>[(0,some 0),(1,some 1)]) _ _ ⟨rfl,rfl⟩ (VRen.kf rfl) ⟨⟨_,rfl,Nat.le_refl _,rfl,fun _ _ _ _=>VLe.rfl⟩,⟨_,rfl,rows2 ha hb hab (by first|(simp;omega)|(simp[addP];omega)|(simp[addP,lenP];omega)) (by first|(simp;omega)|(simp[lenP];omega)) (fun j t hj ht=>vle_preF _ _ _ _ _ hj ht) (fun j t hj ht=>vle_preF _ _ _ _ _ hj ht) _⟩,True.intro⟩ rfl⟩
theorem len_le:∀{l m:List Int},l.Nodup->(∀a∈l,a∈m)->l.length<=m.length
 | [],m,_,_=>Nat.zero_le _
 | a::l,m,hn,hs=>by
   rw[List.nodup_cons] at hn;have ham:=hs a (by simp);have h1:=len_le (l:=l) (m:=m.erase a) hn.2 (fun b hb=>(List.mem_erase_of_ne (fun e=>hn.1 (by rw[<- e];exact hb))).2 (hs b (by simp[hb])));have h2:=List.length_erase_of_mem ham;have h3:=List.length_pos_of_mem ham;simp only[List.length_cons];omega
def freeF (l:List Int):Nat->Int->Int
 | 0,i=>i
 | f+1,i=>if i∈l then freeF l f ((i+1) % 256) else i
def tryI (i:Int) (k:Nat):Int:=(i+k) % 256
theorem tryI_next {i:Int} {k:Nat}:(tryI i k+1) % 256=tryI i (k+1):=by rw[tryI,tryI];omega
theorem free_ends {l:List Int} (hl:l.length<256) (i:Int):¬ ∀j,j<256->tryI i j∈l:=by
 intro h;have h1:((List.range 256).map (tryI i)).Nodup:=by
  rw[List.nodup_iff_pairwise_ne,List.pairwise_map];refine List.Pairwise.imp_of_mem ?_ List.nodup_range;intro a b ha hb hne e;rw[List.mem_range] at ha hb;rw[tryI,tryI] at e;omega
 have h2:=len_le h1 (fun a ha=>by
  obtain⟨j,hj,rfl⟩:=List.mem_map.1 ha;exact h j (List.mem_range.1 hj))
 simp at h2;omega
def idsF (x:List Int):Nat->List Int
 | 0=>[]
 | v+1=>idsF x v++[freeF (idsF x v) 256 (within (gI x v) 256)]
theorem idsF_len (x:List Int):∀v,(idsF x v).length=v
 | 0=>rfl
 | v+1=>by rw[idsF,List.length_append,idsF_len x v];rfl
theorem within_range (a:Int) {b:Int} (hb:1<=b):0<=within a b/\within a b<b:=by
 have h1:=Int.tmod_lt_of_pos a (show(0:Int)<b by omega);have h2:=Int.tmod_lt_of_pos (-a) (show(0:Int)<b by omega);rw[Int.neg_tmod] at h2;rw[within,if_neg (by omega)];split<;>omega
theorem free_spec {l:List Int} {i:Int} (h0:0<=i) (h1:i<=255):∀f k,k+f=256->(∀j,j<k->tryI i j∈l)->l.length<256->0<=freeF l f (tryI i k)/\freeF l f (tryI i k)<=255/\freeF l f (tryI i k)∉l
 | 0,k,hk,hall,hl=>(free_ends hl i (fun j hj=>hall j (by omega))).elim
 | f+1,k,hk,hall,hl=>by
   rw[freeF];split
   . rename_i hm;rw[tryI_next];exact free_spec h0 h1 f (k+1) (by omega) (fun j hj=>by
      by_cases e:j=k
      . subst e;exact hm
      . exact hall j (by omega)) hl
   . rename_i hm;refine⟨?_,?_,hm⟩<;>(rw[tryI];omega)
theorem try_zero {i:Int} (h0:0<=i) (h1:i<=255):tryI i 0=i:=by rw[tryI];omega
theorem idsF_ok (x:List Int):∀v,v<=255->(∀a∈idsF x v,0<=a/\a<=255)/\(idsF x v).Nodup
 | 0,_=>⟨fun a h=>(by simp[idsF] at h),by simp[idsF]⟩
 | v+1,hv=>by
   obtain⟨i1,i2⟩:=idsF_ok x v (by omega);have hw:=within_range (gI x v) (b:=256) (by omega);have hf:=free_spec (l:=idsF x v) (i:=within (gI x v) 256) hw.1 (by omega) 256 0 rfl (fun j hj=>by omega) (by rw[idsF_len];omega);rw[try_zero hw.1 (by omega)] at hf;rw[idsF];refine⟨fun a ha=>?_,?_⟩
   . rcases List.mem_append.1 ha with h|h
     . exact i1 a h
     . have:a=freeF (idsF x v) 256 (within (gI x v) 256):=by simpa using h
       rw[this];exact⟨hf.1,hf.2.1⟩
   . rw[List.nodup_append];refine⟨i2,by simp,fun a ha b hb e=>?_⟩;have:b=freeF (idsF x v) 256 (within (gI x v) 256):=by simpa using hb
     rw[<- this,<- e] at hf;exact hf.2.2 ha
def ownN (x:Net) (n:Nat):Own:=[(0,.vec n 1 (vI (idsF x.ids n))),(1,.vec n 1 fun _ _=>.nilslice)]
def Net.n1 (x:Net):Int:=IntKind.i64.wrap (x.n-1)
def Net.size (x:Net) (most:Int):Nat:=(1+within x.n1 most).toNat
theorem getD_snocI (l:List Int) (a:Int) (i:Nat):gI (l++[a]) i=if i<l.length then gI l i else if i=l.length then a else 0:=by
 by_cases h:i<l.length
 . simp only[gI,List.getD,List.getElem?_append_left h,if_pos h]
 . rw[if_neg h];by_cases h2:i=l.length
   . subst h2;simp[gI]
   . simp[gI,h2,List.getElem?_eq_none (by simp;omega:(l++[a]).length<=i)]
theorem vle_appI (l:List Int) (a:Int) (n:Nat) (hn:l.length=n) (i j:Nat) (hi:i<n+1) (hj:j<1) :
 VLe (fapp (shiftF 0 (vI l)) n (shiftF 0 (tab [[.int .i64 a]])) i j) (vI (l++[a]) i j):=by
 apply VLe.of_eq;subst hn;by_cases h:i<l.length
 . rw[fapp_lt h];simp only[shiftF,vI,getD_snocI,if_pos h]
 . rw[fapp_ge h];have:i=l.length:=by omega
   subst this;obtain rfl:j=0:=by omega
   simp[shiftF,vI,getD_snocI,tab]
set_option maxHeartbeats 8000000 in
theorem nodes_ok (x:Net) (hx:x.Small) (most:Int) (h1:1<=most) (h2:most<=24) :
 CallF Tryz.prog 19 [x.v,.int .i64 most] [] KS fun v own' _=>v=gV1 (x.size most) (x.size most)/\own'=ownN x (x.size most):=by
 have hw:=within_ok x.n1 most (by omega);have hwr:=within_range x.n1 h1;have hn:1+within x.n1 most=(x.size most:Nat):=by rw[Net.size];omega
 have hsz:1<=x.size most/\x.size most<=24:=by omega
 have hids:=hx.ids;generalize x.size most=n at *;refine call_post ?_;refine fn_rule mixed Tryz.func19 rfl hc19 hr19 rfl ?_
 repeat' ((conv=>whnf);first|(refine Ar.mk x.n1 rfl ?_)|(refine Ar.i64 (by omega) (by omega) ?_;rw[hn])|(refine Bd.nat (by omega) ?_)|(refine Len.mk (by omega) ?_)|(refine MkS.vec ?_)|(refine hw.go ?_))
 all_goals (conv=>whnf)
 refine loop_u mixed [2,4,5,6] [4] [5,6,7,8,9,10,11,12,13,14,15,16,17,18,19,20,21,22,23,24,25,26,27,28,29] [4,3,2,1,0] (fun v:Nat=>[(7,.int .i64 v)]) (fun own v=>(4,.vec v 1 (vI (idsF x.ids v)))::updO own 3 (.cells [.vec 4 1 0 v,.vec 2 1 0 n])) (fun m v=>m=n-v/\v<=n) n 0 ⟨rfl,by omega⟩ rfl (fun _=>rfl) ?_ ?_
 . exact weak_b (fun _ _=>[(0,some 0),(1,some 1),(2,some 2),(3,some 3),(4,none)])
 rintro m v ⟨hm,hv⟩;have hat:=at_ok x.ids hids v;have hw2:=within_ok (gI x.ids v) 256 (by omega);have hr2:=within_range (gI x.ids v) (b:=256) (by omega);have hil:=idsF_len x.ids v;have hsn:idsF x.ids (v+1)=idsF x.ids v++[freeF (idsF x.ids v) 256 (within (gI x.ids v) 256)]:=rfl;have htz:=try_zero hr2.1 (by omega);generalize within (gI x.ids v) 256=id0 at *;generalize hL:idsF x.ids v=L at *
 repeat' ((conv=>whnf);first|(refine Br.dec ?_ ?_<;>intro _<;>try omega)|(refine hat.go ?_)|(refine hw2.go ?_))
 all_goals (conv=>whnf)
 . refine loop_r mixed [2,4,5,6,7] (fun p:Nat×Nat=>[(8,.int .i64 (tryI id0 p.1)),(9,.int .i64 p.2)]) (fun m p=>m=(256-p.1)*25+(v-p.2)/\p.1<=256/\p.2<=v/\(∀j,j<p.1->tryI id0 j∈L)/\(∀j,j<p.2->gI L j≠tryI id0 p.1)/\freeF L (256-p.1) (tryI id0 p.1)=freeF L 256 id0) _ (0,0) ⟨rfl,by omega,by omega,fun j hj=>(by omega),fun j hj=>(by omega),(by show freeF L 256 (tryI id0 0)=_;rw[htz])⟩ ?_ ?_
   . refine weak_by (fun _ _=>[(0,some 0),(1,some 1),(2,some 2),(3,some 3),(4,some 4)]) ?_ ?_ rfl
     . repeat' (first|exact VRen.int htz.symm|exact True.intro|(refine⟨⟨_,rfl,?_⟩,?_⟩)|exact VRen.kf rfl|exact VRen.loc rfl)
     . repeat' (first|exact True.intro|(refine⟨⟨_,rfl,?_⟩,?_⟩)|exact VRen.kf rfl|exact VRen.vec rfl rfl rfl|(refine⟨Nat.le_refl _,rfl,fun i j hi hj=>?_⟩)|exact VLe.rfl|(refine And.intro ?_ ?_))
   rintro m ⟨k,u⟩ ⟨hm2,hk,hu,hall,hne,hfr⟩;simp only at hm2 hk hu hall hne hfr;have htr:0<=tryI id0 k/\tryI id0 k<=255:=by rw[tryI];omega
   have htn:(tryI id0 k+1).tmod 256=tryI id0 (k+1):=by rw[Int.tmod_eq_emod_of_nonneg (by omega),tryI_next]
   generalize hT:tryI id0 k=T at *
   repeat' ((conv=>whnf);first|(refine Br.dec ?_ ?_<;>intro _<;>try omega)|(refine Br.nbeq ?_ ?_<;>intro _<;>try omega)|(refine Ar.i64 (by omega) (by omega) ?_)|(refine Sv.mk _ rfl ?_)|(refine Nz.mk (by omega) ?_)|(refine Ix.nat (by omega) ?_)|(refine Len.mk (by omega) ?_)|(refine Ltn.mk (by omega) ?_))
   all_goals (conv=>whnf)
   . rename_i h3 h4;have hin:T∈L:=by rw[<- h4];exact gI_mem (by omega)
     have hk2:k<256:=by
      rcases Nat.lt_or_ge k 256 with h|h
      . exact h
      . exact(free_ends (l:=L) (by omega) id0 (fun j hj=>hall j (by omega))).elim
     refine⟨_,(k+1,0),?_,⟨rfl,by omega,by omega,fun j hj=>?_,fun j hj=>(by omega),?_⟩,?_⟩
     . simp only;omega
     . simp only at hj;by_cases e:j=k
       . subst e;rw[hT];exact hin
       . exact hall j (by omega)
     . simp only;rw[<- hfr,show 256-k=(256-(k+1))+1 by omega,freeF,if_pos hin,<- hT,tryI_next]
     . refine weak_by (fun _ _=>[(0,some 0),(1,some 1),(2,some 2),(3,some 3),(4,some 4)]) ?_ ?_ rfl
       . repeat' (first|exact VRen.int htn|exact True.intro|(refine⟨⟨_,rfl,?_⟩,?_⟩)|exact VRen.kf rfl|exact VRen.loc rfl)
       . repeat' (first|exact True.intro|(refine⟨⟨_,rfl,?_⟩,?_⟩)|exact VRen.kf rfl|exact VRen.vec rfl rfl rfl|(refine⟨Nat.le_refl _,rfl,fun i j hi hj=>?_⟩)|exact VLe.rfl|(refine And.intro ?_ ?_))
   . rename_i h3 h4;refine⟨_,(k,u+1),?_,⟨rfl,hk,by omega,hall,fun j hj=>?_,by rw[hT];exact hfr⟩,?_⟩
     . simp only;omega
     . simp only at hj ⊢;rw[hT];by_cases e:j=u
       . subst e;simpa using h4
       . exact hne j (by omega)
     . refine weak_by (fun _ _=>[(0,some 0),(1,some 1),(2,some 2),(3,some 3),(4,some 4)]) ?_ ?_ rfl
       . repeat' (first|exact VRen.int hT.symm|exact True.intro|(refine⟨⟨_,rfl,?_⟩,?_⟩)|exact VRen.kf rfl|exact VRen.loc rfl)
       . repeat' (first|exact True.intro|(refine⟨⟨_,rfl,?_⟩,?_⟩)|exact VRen.kf rfl|exact VRen.vec rfl rfl rfl|(refine⟨Nat.le_refl _,rfl,fun i j hi hj=>?_⟩)|exact VLe.rfl|(refine And.intro ?_ ?_))
   . have hno:T∉L:=fun h=>by
      obtain⟨j,j1,j2⟩:=gI_get h;exact hne j (by omega) j2
     have hfin:freeF L 256 id0=T:=by
      rw[<- hfr];cases h:256-k with
      | zero=>rfl
      | succ f=>rw[freeF,if_neg hno]
     rw[hfin] at hsn
     repeat' ((conv=>whnf);first|fail)
     all_goals (conv=>whnf)
     all_goals
      refine⟨n-(v+1),v+1,by omega,⟨rfl,by omega⟩,?_⟩;simp only[hsn];refine weak_by (fun env own=>[(0,some 0),(1,some 1),(2,some 2),(3,some 3),(4,ckeyo own 3 0)]) ?_ ?_ rfl
      . repeat' (first|exact True.intro|(refine⟨⟨_,rfl,?_⟩,?_⟩)|exact VRen.kf rfl|exact VRen.loc rfl)
      . repeat' (first|(refine⟨Nat.le_refl _,rfl,fun i j hi hj=>?_⟩)|exact vle_appI _ _ _ hil _ _ hi hj|exact True.intro|(refine⟨⟨_,rfl,?_⟩,?_⟩)|exact VRen.kf rfl|exact VRen.vec rfl rfl rfl|exact VLe.rfl|(refine And.intro ?_ ?_))
 . have e:v=n:=by omega
   subst e;exact postR_byV (fun v o=>[(0,vkey v 0),(1,vkey v 1)]) _ _ ⟨rfl,rfl⟩ (VRen.agg ⟨VRen.vec rfl rfl rfl,VRen.vec rfl rfl rfl,True.intro⟩) ⟨⟨_,rfl,Nat.le_refl _,rfl,fun _ _ _ _=>VLe.of_eq (by rw[hL])⟩,⟨_,rfl,Nat.le_refl _,rfl,fun i j hi hj=>VLe.of_eq (by obtain rfl:j=0:=(by omega);rfl)⟩,True.intro⟩ rfl
theorem mem_gR {p:Ps} {r:List (Int×Int)} (h:r∈p):∃u,gR p u=r:=by
 obtain⟨i,hi,e⟩:=List.mem_iff_getElem.1 h;exact⟨i,by simp[gR,List.getD,hi,e]⟩
theorem small_of {g:G} (h1:g.ids.length<=1000) (h2:g.ports.length<=1000) (h3:∀u,(gR g.ports u).length<=1000):g.Small :=
 ⟨by omega,by omega,fun r hr=>by obtain⟨u,rfl⟩:=mem_gR hr;have:=h3 u;omega⟩
def cfgE (g:G) (vs:List Vr) (raw:List Int) (v i:Nat):Int:=(bV g vs v i).1+within (gI raw (v*vs.length+i)) ((bV g vs v i).2-(bV g vs v i).1+1)
def cfgR (g:G) (vs:List Vr) (raw:List Int) (v k:Nat):List Int:=(List.range k).map (cfgE g vs raw v)
def cfgC (g:G) (vs:List Vr) (raw:List Int) (k:Nat):Cf:=(List.range k).map fun v=>cfgR g vs raw v vs.length
def cfg (g:G) (vs:List Vr) (raw:List Int):Cf:=cfgC g vs raw g.ports.length
theorem cfgR_len (g:G) (vs:List Vr) (raw:List Int) (v k:Nat):(cfgR g vs raw v k).length=k:=by simp[cfgR]
theorem cfgC_len (g:G) (vs:List Vr) (raw:List Int) (k:Nat):(cfgC g vs raw k).length=k:=by simp[cfgC]
theorem cfgR_succ (g:G) (vs:List Vr) (raw:List Int) (v k:Nat):cfgR g vs raw v (k+1)=cfgR g vs raw v k++[cfgE g vs raw v k]:=by simp[cfgR,List.range_succ]
theorem cfgC_succ (g:G) (vs:List Vr) (raw:List Int) (k:Nat):cfgC g vs raw (k+1)=cfgC g vs raw k++[cfgR g vs raw k vs.length]:=by simp[cfgC,List.range_succ]
theorem gC_snoc (c:Cf) (r:List Int) (i:Nat):gC (c++[r]) i=if i<c.length then gC c i else if i=c.length then r else[]:=by
 by_cases h:i<c.length
 . simp only[gC,List.getD,List.getElem?_append_left h,if_pos h]
 . rw[if_neg h];by_cases h2:i=c.length
   . subst h2;simp[gC]
   . simp[gC,h2,List.getElem?_eq_none (by simp;omega:(c++[r]).length<=i)]
theorem vle_appC (c:Cf) (r:List Int) (n m:Nat) (hn:c.length=n) (hr:r.length=m) (F:Nat->Nat->V) (hF:F 0 0=.fz m 1 false (shiftF 0 (vI r))) (i j:Nat) (hi:i<n+1) (hj:j<1) :
 VLe (fapp (shiftF 0 (vC c)) n F i j) (vC (c++[r]) i j):=by
 subst hn hr;obtain rfl:j=0:=by omega
 by_cases h:i<c.length
 . rw[fapp_lt h];apply VLe.of_eq;simp only[shiftF,vC,gC_snoc,if_pos h]
 . rw[fapp_ge h];have:i=c.length:=by omega
   subst this;rw[Nat.sub_self,hF];simp only[vC,gC_snoc,Nat.lt_irrefl,if_false,if_true];exact VLe.fz rfl (fun h=>h) (fun i j hi hj=>VLe.of_eq (by simp[shiftF]))
theorem mul_bound {a b A B:Int} (h0:0<=a) (h1:a<=A) (h2:0<=b) (h3:b<=B):0<=a*b/\a*b<=A*B :=
 ⟨Int.mul_nonneg h0 h2,Int.mul_le_mul h1 h3 h2 (by omega)⟩
set_option maxHeartbeats 16000000 in
theorem config_ok (g:G) (hg:g.valid=true) (vs:List Vr) (hv:VOk vs) (hlo:∀x,0<=(gV vs x).lo/\(gV vs x).lo<=1000) (raw:List Int) (hraw:raw.length<=9223372036854775807) :
 Ret Tryz.prog 5 [g.v,.fz vs.length 6 false (vV vs),.fz raw.length 1 false (vI raw)] (cV (cfg g vs raw)):=by
 obtain⟨f1,f2,f3,f4,f5,f6,f7⟩:=val_facts hg;have htop0:=maxL_ge g.ids 0;have htop1:=maxL_le g.ids 0 255 (by omega) (fun a ha=>(f4 a ha).2);have hvl:=hv.len;refine ret_frz rfl ?_;refine fn_rule mixed Tryz.func5 rfl hc5 hr5 rfl ?_
 repeat' ((conv=>whnf);first|fail)
 all_goals (conv=>whnf)
 refine loop_r mixed [1,2,3,7] (fun i:Nat=>[(8,.int .i64 (maxL (g.ids.take i) 0)),(9,.int .i64 i)]) (fun m i=>m=g.ports.length-i/\i<=g.ports.length) g.ports.length 0 ⟨rfl,Nat.zero_le _⟩ ?_ ?_
 . exact weak_b (fun _ _=>[(0,some 0)])
 rintro m i ⟨hm,hi⟩
 repeat' ((conv=>whnf);first|(refine Br.dec ?_ ?_<;>intro _<;>try omega)|(refine Ar.i64 (by omega) (by omega) ?_)|(refine Sv.mk _ rfl ?_)|(refine Ix.nat (by omega) ?_))
 all_goals (conv=>whnf)
 all_goals try
  (refine⟨g.ports.length-(i+1),i+1,by omega,⟨rfl,by omega⟩,?_⟩
   simp only[gI_take g.ids i (by omega),maxL_snoc];refine weak_by (fun _ _=>[(0,some 0)]) ?_ ?_ rfl
   . repeat' (first|exact VRen.int (by split<;>omega)|exact True.intro|(refine⟨⟨_,rfl,?_⟩,?_⟩)|exact VRen.kf rfl|exact VRen.loc rfl)
   . repeat' (first|exact True.intro|(refine⟨⟨_,rfl,?_⟩,?_⟩)|exact VRen.kf rfl|(refine And.intro ?_ ?_)))
 have hti:g.ids.take i=g.ids:=List.take_of_length_le (by omega);simp only[hti];clear hti hm hi;generalize htop:maxL g.ids 0=top at *;refine loop_u mixed [1,2,3,7,8] [1] [2,3,4,5,6,7,8,9,10,11,12,13,14,15,16,17,18,19,20,21,22,23,24,25,26,27,28,29] [1,0] (fun v:Nat=>[(10,.vec 1 1 0 v),(11,.int .i64 v)]) (fun own v=>(1,.vec v 1 (vC (cfgC g vs raw v)))::own) (fun m v=>m=g.ports.length-v/\v<=g.ports.length) g.ports.length 0 ⟨rfl,Nat.zero_le _⟩ rfl (fun _=>rfl) ?_ ?_
 . exact weak_b (fun _ _=>[(0,some 0),(1,none)])
 rintro m v ⟨hm,hvn⟩;have hcl:=cfgC_len g vs raw v
 repeat' ((conv=>whnf);first|(refine Br.dec ?_ ?_<;>intro _<;>try omega)|(refine Len.mk (by omega) ?_))
 all_goals (conv=>whnf)
 . refine loop_u mixed [1,2,3,7,8,10,11] [2] [3,4,5,6,7,8,9,10,11,12,13,14,15,16,17,18,19,20,21,22,23,24,25,26,27,28,29] [2,1,0] (fun i:Nat=>[(12,.vec 2 1 0 i),(13,.int .i64 i)]) (fun own i=>(2,.vec i 1 (vI (cfgR g vs raw v i)))::own) (fun m i=>m=vs.length-i/\i<=vs.length) vs.length 0 ⟨rfl,Nat.zero_le _⟩ rfl (fun _=>rfl) ?_ ?_
   . exact weak_b (fun _ _=>[(0,some 0),(1,some 1),(2,none)])
   rintro m i ⟨hm2,hi⟩;have hrl:=cfgR_len g vs raw v i;by_cases hil:i<vs.length
   . obtain⟨b1,b2,b3,b4,b5,b6⟩:=hv.b i;obtain⟨l1,l2⟩:=hlo i;have m1:=mul_bound b3 b4 (show(0:Int)<=g.ports.length by omega) (show(g.ports.length:Int)<=24 by omega);have m2:=mul_bound b5 b6 (show(0:Int)<=top by omega) (show top<=255 by omega);have m3:=mul_bound (show(0:Int)<=v by omega) (show(v:Int)<=24 by omega) (show(0:Int)<=vs.length by omega) (show(vs.length:Int)<=1000 by omega);have hrow:=okR_len (show v<g.ports.length by omega) (f6 v (by omega));have hat:=at_ok raw hraw (v*vs.length+i);have e1:((v*vs.length+i:Nat):Int)=(v:Int)*vs.length+i:=by rw[Int.natCast_add,Int.natCast_mul]
     rw[e1] at hat;have hE:cfgE g vs raw v i=(bV g vs v i).1+within (gI raw (v*vs.length+i)) ((bV g vs v i).2-(bV g vs v i).1+1):=rfl;generalize gI raw (v*vs.length+i)=q at *;have hsn:=cfgR_succ g vs raw v i;generalize cfgE g vs raw v i=E at *;generalize hp1:(gV vs i).pn*(g.ports.length:Int)=P1 at *;generalize hp2:(gV vs i).pid*top=P2 at *;generalize hp3:(v:Int)*(vs.length:Int)=P3 at *;by_cases k2:(gV vs i).kind=2
     . have hb:bV g vs v i=(0,1):=by rw[bV,if_pos k2]
       rw[hb] at hE;have hw:=within_ok q (1-0+1) (by omega);have hwr:=within_range q (b:=1-0+1) (by omega);simp only at hE;generalize within q (1-0+1)=W at *
       repeat' ((conv=>whnf);first|(refine Ar.mk P1 (by rw[hp1];exact(wrap_i64 (by omega) (by omega)).symm) ?_)|(refine Ar.mk P2 (by rw[hp2];exact(wrap_i64 (by omega) (by omega)).symm) ?_)|(refine Ar.mk P3 (by rw[hp3];exact(wrap_i64 (by omega) (by omega)).symm) ?_)|(refine Br.dec ?_ ?_<;>intro _<;>try omega)|(refine Br.nbeq ?_ ?_<;>intro _<;>try omega)|(refine Ar.i64 (by omega) (by omega) ?_)|(refine Ix.nat (by omega) ?_)|(refine Len.mk (by omega) ?_)|(refine hat.go ?_)|(refine hw.go ?_)|(refine And.intro rfl ?_))
       all_goals (conv=>whnf)
       all_goals
        refine⟨vs.length-(i+1),i+1,by omega,⟨rfl,by omega⟩,?_⟩;simp only[hsn];refine weak_by (fun env own=>[(0,some 0),(1,some 1),(2,ekey env 12)]) ?_ ?_ rfl
        . repeat' (first|exact True.intro|(refine⟨⟨_,rfl,?_⟩,?_⟩)|exact VRen.kf rfl|exact VRen.loc rfl|exact VRen.vec rfl rfl rfl)
        . repeat' (first|(refine⟨Nat.le_refl _,rfl,fun i j hi hj=>?_⟩)|(rw[hE];exact vle_appI _ _ _ hrl _ _ hi hj)|exact True.intro|(refine⟨⟨_,rfl,?_⟩,?_⟩)|exact VRen.kf rfl|exact VLe.rfl|(refine And.intro ?_ ?_))
     . by_cases k3:(gV vs i).kind=3
       . have hb:bV g vs v i=(-1,((gR g.ports v).length:Int)-1):=by rw[bV,if_neg k2,if_pos k3]
         rw[hb] at hE;have hw:=within_ok q (((gR g.ports v).length:Int)-1-(-1)+1) (by omega);have hwr:=within_range q (b:=((gR g.ports v).length:Int)-1-(-1)+1) (by omega);simp only at hE;generalize within q (((gR g.ports v).length:Int)-1-(-1)+1)=W at *
         repeat' ((conv=>whnf);first|(refine Ar.mk P1 (by rw[hp1];exact(wrap_i64 (by omega) (by omega)).symm) ?_)|(refine Ar.mk P2 (by rw[hp2];exact(wrap_i64 (by omega) (by omega)).symm) ?_)|(refine Ar.mk P3 (by rw[hp3];exact(wrap_i64 (by omega) (by omega)).symm) ?_)|(refine Br.dec ?_ ?_<;>intro _<;>try omega)|(refine Br.nbeq ?_ ?_<;>intro _<;>try omega)|(refine Ar.i64 (by omega) (by omega) ?_)|(refine Ix.nat (by omega) ?_)|(refine Len.mk (by omega) ?_)|(refine hat.go ?_)|(refine hw.go ?_)|(refine And.intro rfl ?_))
         all_goals (conv=>whnf)
         all_goals
          refine⟨vs.length-(i+1),i+1,by omega,⟨rfl,by omega⟩,?_⟩;simp only[hsn];refine weak_by (fun env own=>[(0,some 0),(1,some 1),(2,ekey env 12)]) ?_ ?_ rfl
          . repeat' (first|exact True.intro|(refine⟨⟨_,rfl,?_⟩,?_⟩)|exact VRen.kf rfl|exact VRen.loc rfl|exact VRen.vec rfl rfl rfl)
          . repeat' (first|(refine⟨Nat.le_refl _,rfl,fun i j hi hj=>?_⟩)|(rw[hE];exact vle_appI _ _ _ hrl _ _ hi hj)|exact True.intro|(refine⟨⟨_,rfl,?_⟩,?_⟩)|exact VRen.kf rfl|exact VLe.rfl|(refine And.intro ?_ ?_))
       . have hb:bV g vs v i=((gV vs i).lo,(gV vs i).hi+P1+P2):=by rw[bV,if_neg k2,if_neg k3,hp1,htop,hp2]
         rw[hb] at hE;have hw:=within_ok q ((gV vs i).hi+P1+P2-(gV vs i).lo+1) (by omega);have hwr:-1<=within q ((gV vs i).hi+P1+P2-(gV vs i).lo+1)/\within q ((gV vs i).hi+P1+P2-(gV vs i).lo+1)<=1000000:=by
          by_cases h:1<=(gV vs i).hi+P1+P2-(gV vs i).lo+1
          . have:=within_range q h;omega
          . rw[within,if_pos (by omega)];omega
         simp only at hE;generalize within q ((gV vs i).hi+P1+P2-(gV vs i).lo+1)=W at *
         repeat' ((conv=>whnf);first|(refine Ar.mk P1 (by rw[hp1];exact(wrap_i64 (by omega) (by omega)).symm) ?_)|(refine Ar.mk P2 (by rw[hp2];exact(wrap_i64 (by omega) (by omega)).symm) ?_)|(refine Ar.mk P3 (by rw[hp3];exact(wrap_i64 (by omega) (by omega)).symm) ?_)|(refine Br.dec ?_ ?_<;>intro _<;>try omega)|(refine Br.nbeq ?_ ?_<;>intro _<;>try omega)|(refine Ar.i64 (by omega) (by omega) ?_)|(refine Ix.nat (by omega) ?_)|(refine Len.mk (by omega) ?_)|(refine hat.go ?_)|(refine hw.go ?_)|(refine And.intro rfl ?_))
         all_goals (conv=>whnf)
         all_goals
          refine⟨vs.length-(i+1),i+1,by omega,⟨rfl,by omega⟩,?_⟩;simp only[hsn];refine weak_by (fun env own=>[(0,some 0),(1,some 1),(2,ekey env 12)]) ?_ ?_ rfl
          . repeat' (first|exact True.intro|(refine⟨⟨_,rfl,?_⟩,?_⟩)|exact VRen.kf rfl|exact VRen.loc rfl|exact VRen.vec rfl rfl rfl)
          . repeat' (first|(refine⟨Nat.le_refl _,rfl,fun i j hi hj=>?_⟩)|(rw[hE];exact vle_appI _ _ _ hrl _ _ hi hj)|exact True.intro|(refine⟨⟨_,rfl,?_⟩,?_⟩)|exact VRen.kf rfl|exact VLe.rfl|(refine And.intro ?_ ?_))
   . have ei:i=vs.length:=by omega
     subst ei;have hsc:=cfgC_succ g vs raw v
     repeat' ((conv=>whnf);first|(refine Br.dec ?_ ?_<;>intro _<;>try omega)|(refine Br.nbeq ?_ ?_<;>intro _<;>try omega)|(refine Ar.i64 (by omega) (by omega) ?_)|(refine Len.mk (by omega) ?_))
     all_goals (conv=>whnf)
     all_goals
      refine⟨g.ports.length-(v+1),v+1,by omega,⟨rfl,by omega⟩,?_⟩;simp only[hsc];refine weak_by (fun env own=>[(0,some 0),(1,ekey env 10)]) ?_ ?_ rfl
      . repeat' (first|exact True.intro|(refine⟨⟨_,rfl,?_⟩,?_⟩)|exact VRen.kf rfl|exact VRen.loc rfl|exact VRen.vec rfl rfl rfl)
      . repeat' (first|(refine⟨Nat.le_refl _,rfl,fun i j hi hj=>?_⟩)|exact vle_appC _ _ _ _ hcl hrl _ rfl _ _ hi hj|exact True.intro|(refine⟨⟨_,rfl,?_⟩,?_⟩)|exact VRen.kf rfl|(refine And.intro ?_ ?_))
 . have e:v=g.ports.length:=by omega
   subst e;refine VLe.fz hcl.symm (fun h=>h) (fun i j hi hj=>VLe.of_eq ?_);simp[shiftF,cfg]
theorem ret_args {P:Program} {f:FuncId} {args args':List V} {X:V} (hk:allB V.kf args'=true) (hl:LLe args' args) (h:Ret P f args X):Ret P f args' X:=fun own ks=>by
 constructor;intro M w σ us hlen hd hh;obtain⟨d1,d2⟩:=hl.dens (M:=M) (w:=w) (us:=us) hlen (fun i v u hv hu=>(hd i v u hv hu).kf (allB_mem hk v (List.mem_of_getElem? hv)) Sg.none);exact(h own ks).out M w σ us d1 (fun i v u hv hu=>(d2 i v u hv hu).mono (Ext.mk (fun _ _ h=>⟨h,rfl⟩) (Nat.le_refl _)) (Sg.none_le σ)) hh
theorem ret_res {P:Program} {f:FuncId} {args:List V} {X X':V} (hk:X.kf=true) (hl:VLe X X') (h:Ret P f args X):Ret P f args X':=fun own ks=>by
 constructor;intro M w σ us hlen hd hh;refine((h own ks).out M w σ us hlen hd hh).mono ?_;rintro e w' ⟨M',σ',v,own',ks',u,rfl,hv,hh',tr,kd,rfl,rfl,rfl⟩;exact⟨M',σ',X',_,_,u,rfl,(hl.out _ _ _ (hv.kf hk Sg.none)).mono (Ext.mk (fun _ _ h=>⟨h,rfl⟩) (Nat.le_refl _)) (Sg.none_le σ'),hh',tr,kd,rfl,rfl,rfl⟩
def AllLt:Nat->(Nat->Prop)->Prop
 | 0,_=>True
 | n+1,P=>P 0/\AllLt n fun i=>P (i+1)
theorem AllLt.out:∀{n:Nat} {P:Nat->Prop},AllLt n P->∀i,i<n->P i
 | n+1,P,h,0,_=>h.1
 | n+1,P,h,i+1,hi=>AllLt.out h.2 i (by omega)
theorem vle_fzA {n s:Nat} {f g:Nat->Nat->V} (h:AllLt n fun i=>AllLt s fun j=>VLe (f i j) (g i j)):VLe (.fz n s false f) (.fz n s false g) :=
 VLe.fz rfl (fun h=>h) fun i j hi hj=>(h.out i hi).out j hj
theorem vle_str {a b:ByteArray} (h:a=b):VLe (.str a) (.str b):=by subst h;exact .rfl
theorem cfg_len (g:G) (vs:List Vr) (raw:List Int):(cfg g vs raw).length=g.ports.length:=cfgC_len _ _ _ _
theorem cfg_row (g:G) (vs:List Vr) (raw:List Int) {v:Nat} (hv:v<g.ports.length):gC (cfg g vs raw) v=cfgR g vs raw v vs.length:=by
 simp[gC,cfg,cfgC,List.getD,hv]
theorem cfgR_get (g:G) (vs:List Vr) (raw:List Int) (v k:Nat) {i:Nat} (hi:i<k):gI (cfgR g vs raw v k) i=cfgE g vs raw v i:=by
 simp[gI,cfgR,List.getD,hi]
theorem bV_bnd (p:Pr) (hp:PrOk p) (g:G) (hg:g.valid=true) (v x:Nat) (hx:x<p.vars.length):bV g p.vars v x=bnd g (gV p.vars x) v:=by
 obtain⟨f1,f2,f3,f4,f5,f6,f7⟩:=val_facts hg;rw[bV,bnd,f3];rcases (hp.var x hx).kind with h|h|h
 . rw[if_neg (by omega),if_neg (by omega),if_pos h];rfl
 . rw[if_pos h,if_neg (by omega),if_pos h]
 . rw[if_neg (by omega),if_pos h,if_neg (by omega),if_neg (by omega)]
theorem cfg_conf (p:Pr) (hp:PrOk p) (g:G) (hg:g.valid=true) (raw:List Int):Conf p g (cfg g p.vars raw):=by
 obtain⟨f1,f2,f3,f4,f5,f6,f7⟩:=val_facts hg;refine⟨by rw[cfg_len];exact f3,fun v hv=>?_,fun v hv x hx=>?_⟩
 . rw[cfg_len] at hv;rw[cfg_row g _ raw hv,cfgR_len]
 . rw[cfg_len] at hv;rw[cfg_row g _ raw hv,cfgR_get _ _ _ _ _ hx,cfgE,bV_bnd p hp g hg v x hx];have hb:(bnd g (gV p.vars x) v).1<=(bnd g (gV p.vars x) v).2:=by
    have hx:=hp.var x hx;have h1:=bnd_in hg hx hv;rcases hx.kind with h|h|h
    . have:=h1.2.2.2.2 h;omega
    . rw[bnd,if_neg (by omega),if_pos h];decide
    . rw[bnd,if_neg (by omega),if_neg (by omega)];simp only;omega
   have hw:=within_range (gI raw (v*p.vars.length+x)) (b:=(bnd g (gV p.vars x) v).2-(bnd g (gV p.vars x) v).1+1) (by omega);omega
theorem prI_agg:VLe pInd.v aggI.v:=by
 repeat' (first|exact True.intro|exact VLe.rfl|exact vle_str (by kernel_rfl)|(refine VLe.agg ?_)|(refine vle_fzA ?_)|(refine And.intro ?_ ?_))
theorem prI_agg':VLe aggI.v pInd.v:=by
 repeat' (first|exact True.intro|exact VLe.rfl|exact vle_str (by kernel_rfl)|(refine VLe.agg ?_)|(refine vle_fzA ?_)|(refine And.intro ?_ ?_))
theorem prQ_agg:VLe pClu.v aggQ.v:=by
 repeat' (first|exact True.intro|exact VLe.rfl|exact vle_str (by kernel_rfl)|(refine VLe.agg ?_)|(refine vle_fzA ?_)|(refine And.intro ?_ ?_))
theorem prQ_agg':VLe aggQ.v pClu.v:=by
 repeat' (first|exact True.intro|exact VLe.rfl|exact vle_str (by kernel_rfl)|(refine VLe.agg ?_)|(refine vle_fzA ?_)|(refine And.intro ?_ ?_))
def pRes:Pr:=⟨ByteArray.mk #[99,108,117,115,116,101,114],vM,pInd.rules⟩
theorem aggR_pr:VLe aggR2.v pRes.v:=by
 repeat' (first|exact True.intro|exact VLe.rfl|exact vle_str (by kernel_rfl)|(refine VLe.agg ?_)|(refine vle_fzA ?_)|(refine And.intro ?_ ?_))
theorem aggJ_pr:VLe aggJ.v pClu.v:=by
 repeat' (first|exact True.intro|exact VLe.rfl|exact vle_str (by kernel_rfl)|(refine VLe.agg ?_)|(refine vle_fzA ?_)|(refine And.intro ?_ ?_))
theorem ind_types:Ret Tryz.prog 25 [pInd.v] (.bool true):=by
 have h:=ev_ret mixed tb_ok ev_typesI;exact ret_args (args:=[aggI.v]) rfl ⟨prI_agg,True.intro⟩ (by simpa only[C.vs,C.v] using h)
theorem clu_types:Ret Tryz.prog 25 [pClu.v] (.bool true):=by
 have h:=ev_ret mixed tb_ok ev_typesQ;exact ret_args (args:=[aggQ.v]) rfl ⟨prQ_agg,True.intro⟩ (by simpa only[C.vs,C.v] using h)
def bytesC (c:C):ByteArray:=match c with | .str l c=>bytesOf l c|_=>default
def txtQ:ByteArray:=bytesC textQ
def txtI:ByteArray:=bytesC textI
def txtU:ByteArray:=bytesC textU
theorem textQ_ok:Ret Tryz.prog 10 [] (.str txtQ):=by
 have:=ev_ret mixed tb_ok ev_textQ;simpa only[C.vs,C.v,textQ,txtQ,bytesC] using this
theorem textI_ok:Ret Tryz.prog 8 [] (.str txtI):=by
 have:=ev_ret mixed tb_ok ev_textI;simpa only[C.vs,C.v,textI,txtI,bytesC] using this
theorem parseQ_ok:Ret Tryz.prog 24 [.str txtQ] (.tup [aggQ.v,.int .i64 0,.int .i64 0]):=by
 have:=ev_ret mixed tb_ok ev_parseQ;simpa only[C.vs,C.v,textQ,txtQ,bytesC,progOf] using this
theorem parseI_ok:Ret Tryz.prog 24 [.str txtI] (.tup [aggI.v,.int .i64 0,.int .i64 0]):=by
 have:=ev_ret mixed tb_ok ev_parseI;simpa only[C.vs,C.v,textI,txtI,bytesC,progOf] using this
theorem parseU_ok:Ret Tryz.prog 24 [.str txtU] (.tup [aggU.v,.int .i64 0,.int .i64 0]):=by
 have:=ev_ret mixed tb_ok ev_parseU;simpa only[C.vs,C.v,textU,txtU,bytesC,progOf] using this
theorem programQ_ok:Ret Tryz.prog 7 [.str txtQ] pClu.v:=by
 have h:Ret Tryz.prog 24 [.str txtQ] (.tup [pClu.v,.int .i64 0,.int .i64 0]):=ret_res (X:=.tup [aggQ.v,.int .i64 0,.int .i64 0]) rfl (VLe.tup ⟨prQ_agg',VLe.rfl,VLe.rfl,True.intro⟩) parseQ_ok;refine ret_frz rfl ?_;refine fn_rule mixed Tryz.func7 rfl hc7 hr7 rfl ?_
 repeat' ((conv=>whnf);first|(refine h.go ?_))
 all_goals (conv=>whnf)
 exact VLe.rfl
theorem programI_ok:Ret Tryz.prog 7 [.str txtI] pInd.v:=by
 have h:Ret Tryz.prog 24 [.str txtI] (.tup [pInd.v,.int .i64 0,.int .i64 0]):=ret_res (X:=.tup [aggI.v,.int .i64 0,.int .i64 0]) rfl (VLe.tup ⟨prI_agg',VLe.rfl,VLe.rfl,True.intro⟩) parseI_ok;refine ret_frz rfl ?_;refine fn_rule mixed Tryz.func7 rfl hc7 hr7 rfl ?_
 repeat' ((conv=>whnf);first|(refine h.go ?_))
 all_goals (conv=>whnf)
 exact VLe.rfl
theorem programU_ok:Ret Tryz.prog 7 [.str txtU] aggU.v:=by
 have h:Ret Tryz.prog 24 [.str txtU] (.tup [aggU.v,.int .i64 0,.int .i64 0]):=ret_res (X:=.tup [aggU.v,.int .i64 0,.int .i64 0]) rfl (VLe.tup ⟨VLe.rfl,VLe.rfl,VLe.rfl,True.intro⟩) parseU_ok;refine ret_frz rfl ?_;refine fn_rule mixed Tryz.func7 rfl hc7 hr7 rfl ?_
 repeat' ((conv=>whnf);first|(refine h.go ?_))
 all_goals (conv=>whnf)
 exact VLe.rfl
theorem join_ok:Ret Tryz.prog 9 [pInd.v,aggU.v] (.tup [pClu.v,.int .i64 0]):=by
 have h:=ev_ret mixed tm_ok ev_join;exact ret_res (X:=.tup [aggJ.v,.int .i64 0]) rfl (VLe.tup ⟨aggJ_pr,VLe.rfl,True.intro⟩) (ret_args (args:=[aggI.v,aggU.v]) rfl ⟨prI_agg,VLe.rfl,True.intro⟩ (by simpa only[C.vs,C.v] using h))
theorem restrict_ok:Ret Tryz.prog 11 [pClu.v,.int .u32 1] (.tup [pRes.v,.int .i64 0]):=by
 have h:=ev_ret mixed tm_ok ev_restrict;exact ret_res (X:=.tup [aggR2.v,.int .i64 0]) rfl (VLe.tup ⟨aggR_pr,VLe.rfl,True.intro⟩) (ret_args (args:=[aggQ.v,.int .u32 1]) rfl ⟨prQ_agg,VLe.rfl,True.intro⟩ (by simpa only[C.vs,C.v] using h))
theorem lower1_ok:Ret Tryz.prog 14 [pClu.v,.int .u32 1] (.bool true):=by
 have h:=ev_ret mixed tm_ok ev_lower1;exact ret_args (args:=[aggQ.v,.int .u32 1]) rfl ⟨prQ_agg,VLe.rfl,True.intro⟩ (by simpa only[C.vs,C.v] using h)
theorem lower2_ok:Ret Tryz.prog 14 [pClu.v,.int .u32 2] (.bool false):=by
 have h:=ev_ret mixed tm_ok ev_lower2;exact ret_args (args:=[aggQ.v,.int .u32 2]) rfl ⟨prQ_agg,VLe.rfl,True.intro⟩ (by simpa only[C.vs,C.v] using h)
theorem same7Q_ok:Ret Tryz.prog 13 [pClu.v,pClu.v] (.bool true):=by
 have h:=ev_ret mixed tm_ok ev_sameQ;exact ret_args (args:=[aggQ.v,aggQ.v]) rfl ⟨prQ_agg,prQ_agg,True.intro⟩ (by simpa only[C.vs,C.v] using h)
theorem same7I_ok:Ret Tryz.prog 13 [pInd.v,pInd.v] (.bool true):=by
 have h:=ev_ret mixed tm_ok ev_sameI;exact ret_args (args:=[aggI.v,aggI.v]) rfl ⟨prI_agg,prI_agg,True.intro⟩ (by simpa only[C.vs,C.v] using h)
theorem ind_prOk:PrOk pInd where
 vlen:=by decide
 var:=fun i hi=>by
  obtain rfl:i=0:=by have:i<1:=hi;omega
  exact⟨.inr (.inl rfl),by decide,by decide,by decide,by decide,by decide⟩
 rlen:=by decide
 gd:=fun i hi=>by
  rcases (show i=0\/i=1 by have:i<2:=hi;omega) with rfl|rfl
  . decide
  . decide
 slen:=fun i hi=>by
  rcases (show i=0\/i=1 by have:i<2:=hi;omega) with rfl|rfl
  . decide
  . decide
 set:=fun i hi j hj=>by
  rcases (show i=0\/i=1 by have:i<2:=hi;omega) with rfl|rfl
  . obtain rfl:j=0:=by have:j<1:=hj;omega
    decide
  . obtain rfl:j=0:=by have:j<1:=hj;omega
    decide
 types:=ind_types
theorem clu_prOk:PrOk pClu where
 vlen:=by decide
 var:=fun i hi=>by
  rcases (show i=0\/i=1 by have:i<2:=hi;omega) with rfl|rfl
  . exact⟨.inr (.inl rfl),by decide,by decide,by decide,by decide,by decide⟩
  . exact⟨.inr (.inr rfl),by decide,by decide,by decide,by decide,by decide⟩
 rlen:=by decide
 gd:=fun i hi=>by
  rcases (show i=0\/i=1\/i=2 by have:i<3:=hi;omega) with rfl|rfl|rfl
  . decide
  . decide
  . decide
 slen:=fun i hi=>by
  rcases (show i=0\/i=1\/i=2 by have:i<3:=hi;omega) with rfl|rfl|rfl
  . decide
  . decide
  . decide
 set:=fun i hi j hj=>by
  rcases (show i=0\/i=1\/i=2 by have:i<3:=hi;omega) with rfl|rfl|rfl
  . (obtain rfl:j=0:=by have:j<1:=hj;omega);decide
  . (obtain rfl:j=0:=by have:j<1:=hj;omega);decide
  . (obtain rfl:j=0:=by have:j<1:=hj;omega);decide
 types:=clu_types
theorem pj1_at (c:Cf) (v:Nat):gI (gC (pjC 1 c) v) 0=gI (gC c v) 0:=by rw[pjC_row,gI_takeK _ _ _ (by omega)]
theorem pj1_one (c:Cf):one (pjC 1 c) 0=one c 0:=funext fun v=>by rw[one,one,pj1_at]
theorem pj1_conf {g:G} {c:Cf} (h:Conf pClu g c):Conf pInd g (pjC 1 c):=by
 refine⟨by rw[pjC_len];exact h.len,fun v hv=>?_,fun v hv x hx=>?_⟩
 . rw[pjC_len] at hv;have:(gC c v).length=2:=h.row v hv;rw[pjC_row,List.length_take,this];rfl
 . rw[pjC_len] at hv;obtain rfl:x=0:=by have:x<1:=hx;omega
   rw[pj1_at];exact h.val v hv 0 (by decide)
theorem layer_part {g:G} (hg:g.valid=true) {c:Cf} (h:Conf pClu g c):Part (enN pInd g (pjC 1 c)) (enN pClu g c):=fun v hv=>by
 have hn:v<g.ids.length:=by rw[en_bit,Bool.and_eq_true,decide_eq_true_eq] at hv;exact hv.1
 have hi:=pj1_conf h;rw[ind_en hg (ind_bool hi) hn,pj1_one] at hv;rw[clu_en hg (clu_bool h) hn,Go.Plain.enC,hv];rfl
theorem andNot_part {a b:Nat} (ha:a<4294967296) (hb:b<4294967296) (h:Part a b):bitI .andNot .u32 (a:Int) (b:Int)=0:=by
 rw[bit_andNot ha hb];have:ndiff a b=0:=zero_bits.2 fun i=>by
  by_cases hi:i<32
  . rw[ndiff_bit hi];cases e:a.testBit i with
    | false=>rfl
    | true=>rw[h i e];rfl
  . have h1:a.testBit i=false:=Nat.testBit_lt_two_pow (Nat.lt_of_lt_of_le (show a<2 ^ 32 from ha) (Nat.pow_le_pow_right (by omega) (by omega)));rw[ndiff,Nat.testBit_and,h1,Bool.false_and]
 rw[this];rfl
def twK (g:G) (c:Cf) (v:Nat):Int:=if 0<=gI (gC c v) 1 then (gF (gR g.ports v) (gI (gC c v) 1).toNat).1 else -1
def hdv (g:G) (c:Cf) (v:Nat):Int:=if gI (gC c v) 0=1 then v else twK g c v
def G.kheads (g:G) (c:Cf):List Int:=if g.valid&&g.kconf c then (List.range c.length).map (hdv g c) else[]
def arr (h d:Nat->Int) (v:Nat):Nat->Nat->V:=fun i _=>.int .i64 (if i<v then h i else d i)
theorem arr_upd {h d:Nat->Int} {v i j:Nat} {F:Nat->Nat->V} (hj:j<1) (hF:∀i,i≠v->F i 0=arr h d v i 0) (hv:F v 0=.int .i64 (h v)):VLe (F i j) (arr h d (v+1) i j):=by
 obtain rfl:j=0:=by omega
 apply VLe.of_eq;by_cases e:i=v
 . subst e;rw[hv,arr,if_pos (by omega)]
 . rw[hF i e,arr,arr];by_cases h2:i<v
   . rw[if_pos h2,if_pos (by omega)]
   . rw[if_neg h2,if_neg (by omega)]
theorem arr_skip {h d:Nat->Int} {v i j:Nat} (hv:h v=d v):VLe (arr h d v i j) (arr h d (v+1) i j):=by
 apply VLe.of_eq;rw[arr,arr];by_cases h2:i<v
 . rw[if_pos h2,if_pos (by omega)]
 . by_cases e:i=v
   . subst e;rw[if_neg h2,if_pos (by omega),hv]
   . rw[if_neg h2,if_neg (by omega)]
theorem arr_zero {h:Nat->Int} {i j:Nat} (hj:j<1):VLe ((fun(x:Nat) (j:Nat)=>[V.int .i64 0].getD j default) i j) (arr h (fun _=>0) 0 i j):=by
 obtain rfl:j=0:=by omega
 apply VLe.of_eq;rw[arr,if_neg (by omega)];rfl
theorem arr_next {h d h2:Nat->Int} {n i j:Nat} (hi:i<n):VLe (arr h d n i j) (arr h2 h 0 i j):=by
 apply VLe.of_eq;rw[arr,arr,if_pos hi,if_neg (by omega)]
theorem gI_range {h:Nat->Int} {n i:Nat} (hi:i<n):gI ((List.range n).map h) i=h i:=by
 simp[gI,hi]
theorem arr_end {h d:Nat->Int} {n:Nat}:VLe (.fz n 1 false (shiftF 0 (arr h d n))) (.fz ((List.range n).map h).length 1 false (vI ((List.range n).map h))):=by
 refine VLe.fz (by simp) (fun h=>h) (fun i j hi hj=>VLe.of_eq ?_);simp only[shiftF,arr,vI]
 try simp only[Nat.add_zero]
 try simp only[Nat.zero_add]
 rw[if_pos hi,gI_range hi]
set_option maxHeartbeats 8000000 in
theorem heads_ok (g:G) (hs:g.Small) (c:Cf) (hc:CSmall c):Ret Tryz.prog 38 [g.v,cV c] (.fz (g.kheads c).length 1 false (vI (g.kheads c))):=by
 have h1:=kconfiguration_ok g hs c hc;refine ret_frz rfl ?_;refine fn_rule mixed Tryz.func38 rfl hc38 hr38 rfl ?_;rw[G.kheads];by_cases hg:(g.valid&&g.kconf c)=true
 . rw[hg] at h1 ⊢;rw[if_pos rfl];rw[Bool.and_eq_true] at hg;obtain⟨f1,f2,f3,f4,f5,f6,f7⟩:=val_facts hg.1;obtain⟨e1,e2⟩:=kconf_facts hg.2
   repeat' ((conv=>whnf);first|(refine Br.tt ?_)|(refine Bd.nat (by omega) ?_)|(refine Len.mk (by omega) ?_)|(refine MkS.vec ?_)|(refine h1.go ?_)|(refine fn_rule mixed Tryz.func61 rfl hc61 hr61 rfl ?_))
   all_goals (conv=>whnf)
   refine loop_u mixed [2,3,7,13,14] [] [3,4,5,6,7,8,9,10,11,12,13,14,15,16,17,18,19,20,21,22,23,24,25,26,27,28,29] [2,1,0] (fun i:Nat=>[(15,.int .i64 i)]) (fun own v=>updO own 2 (.vec c.length 1 (arr (twK g c) (fun _=>0) v))) (fun m v=>m=c.length-v/\v<=c.length) c.length 0 ⟨rfl,Nat.zero_le _⟩ rfl (fun _=>rfl) ?_ ?_
   . refine weak_by (fun _ _=>[(0,some 0),(1,some 1),(2,some 2)]) ?_ ?_ rfl
     . repeat' (first|exact True.intro|(refine⟨⟨_,rfl,?_⟩,?_⟩)|exact VRen.kf rfl|exact VRen.loc rfl|exact VRen.vec rfl rfl rfl)
     . repeat' (first|exact arr_zero hj|exact True.intro|(refine⟨⟨_,rfl,?_⟩,?_⟩)|exact VRen.kf rfl|(refine⟨Nat.le_refl _,rfl,fun i j hi hj=>?_⟩)|(refine And.intro ?_ ?_))
   rintro m v ⟨hm,hv⟩;have e2v:=e2 v;have hrl:=gR_len hs.rows v
   repeat' ((conv=>whnf);first|(refine Br.dec ?_ ?_<;>intro _<;>try omega)|(refine Ar.i64 (by omega) (by omega) ?_)|(refine Ix.nat (by omega) ?_)|(refine Ix.mk 1 rfl (by omega) ?_)|(refine Ix.int (by omega) (by omega) ?_)|(refine Ltn.mk (by omega) ?_))
   all_goals (conv=>whnf)
   . have htw:twK g c v=(gF (gR g.ports v) (gI (gC c v) 1).toNat).1:=by rw[twK,if_pos (by assumption)]
     refine⟨c.length-(v+1),v+1,by omega,⟨rfl,by omega⟩,?_⟩;refine weak_by (fun _ _=>[(0,some 0),(1,some 1),(2,some 2)]) ?_ ?_ rfl
     . repeat' (first|exact True.intro|(refine⟨⟨_,rfl,?_⟩,?_⟩)|exact VRen.kf rfl|exact VRen.loc rfl|exact VRen.vec rfl rfl rfl)
     . repeat' (first|exact arr_upd hj (fun i hne=>by simp[fset,hne]) (by simp[fset,htw])|exact True.intro|(refine⟨⟨_,rfl,?_⟩,?_⟩)|exact VRen.kf rfl|(refine⟨Nat.le_refl _,rfl,fun i j hi hj=>?_⟩)|(refine And.intro ?_ ?_))
   . have htw:twK g c v=-1:=by rw[twK,if_neg (by assumption)]
     refine⟨c.length-(v+1),v+1,by omega,⟨rfl,by omega⟩,?_⟩;refine weak_by (fun _ _=>[(0,some 0),(1,some 1),(2,some 2)]) ?_ ?_ rfl
     . repeat' (first|exact True.intro|(refine⟨⟨_,rfl,?_⟩,?_⟩)|exact VRen.kf rfl|exact VRen.loc rfl|exact VRen.vec rfl rfl rfl)
     . repeat' (first|exact arr_upd hj (fun i hne=>by simp[fset,hne]) (by simp[fset,htw])|exact True.intro|(refine⟨⟨_,rfl,?_⟩,?_⟩)|exact VRen.kf rfl|(refine⟨Nat.le_refl _,rfl,fun i j hi hj=>?_⟩)|(refine And.intro ?_ ?_))
   have e:v=c.length:=by omega
   subst e;refine loop_u mixed [5,15,16] [] [3,4,5,6,7,8,9,10,11,12,13,14,15,16,17,18,19,20,21,22,23,24,25,26,27,28,29] [2,1,0] (fun i:Nat=>[(17,.int .i64 i)]) (fun own v=>updO own 2 (.vec c.length 1 (arr (hdv g c) (twK g c) v))) (fun m v=>m=c.length-v/\v<=c.length) c.length 0 ⟨rfl,Nat.zero_le _⟩ rfl (fun _=>rfl) ?_ ?_
   . refine weak_by (fun _ _=>[(0,some 0),(1,some 1),(2,some 2)]) ?_ ?_ rfl
     . repeat' (first|exact True.intro|(refine⟨⟨_,rfl,?_⟩,?_⟩)|exact VRen.kf rfl|exact VRen.vec rfl rfl rfl)
     . repeat' (first|exact arr_next hi|exact True.intro|(refine⟨⟨_,rfl,?_⟩,?_⟩)|exact VRen.kf rfl|(refine⟨Nat.le_refl _,rfl,fun i j hi hj=>?_⟩)|(refine And.intro ?_ ?_))
   rintro m v ⟨hm,hv⟩;have e2v:=e2 v
   repeat' ((conv=>whnf);first|(refine Br.dec ?_ ?_<;>intro _<;>try omega)|(refine Ar.i64 (by omega) (by omega) ?_)|(refine Ix.nat (by omega) ?_)|(refine Ix.mk 0 rfl (by omega) ?_)|(refine Len.mk (by omega) ?_)|(refine Ltn.mk (by omega) ?_))
   all_goals (conv=>whnf)
   . have hh:hdv g c v=v:=by rw[hdv,if_pos (by assumption)]
     refine⟨c.length-(v+1),v+1,by omega,⟨rfl,by omega⟩,?_⟩;refine weak_by (fun _ _=>[(0,some 0),(1,some 1),(2,some 2)]) ?_ ?_ rfl
     . repeat' (first|exact True.intro|(refine⟨⟨_,rfl,?_⟩,?_⟩)|exact VRen.kf rfl|exact VRen.vec rfl rfl rfl)
     . repeat' (first|exact arr_upd hj (fun i hne=>by simp[fset,hne]) (by simp[fset,hh])|exact True.intro|(refine⟨⟨_,rfl,?_⟩,?_⟩)|exact VRen.kf rfl|(refine⟨Nat.le_refl _,rfl,fun i j hi hj=>?_⟩)|(refine And.intro ?_ ?_))
   . have hh:hdv g c v=twK g c v:=by rw[hdv,if_neg (by assumption)]
     refine⟨c.length-(v+1),v+1,by omega,⟨rfl,by omega⟩,?_⟩;refine weak_by (fun _ _=>[(0,some 0),(1,some 1),(2,some 2)]) ?_ ?_ rfl
     . repeat' (first|exact True.intro|(refine⟨⟨_,rfl,?_⟩,?_⟩)|exact VRen.kf rfl|exact VRen.vec rfl rfl rfl)
     . repeat' (first|exact arr_skip hh|exact True.intro|(refine⟨⟨_,rfl,?_⟩,?_⟩)|exact VRen.kf rfl|(refine⟨Nat.le_refl _,rfl,fun i j hi hj=>?_⟩)|(refine And.intro ?_ ?_))
   . have e:v=c.length:=by omega
     subst e;exact arr_end
 . simp only[Bool.not_eq_true] at hg;rw[hg] at h1 ⊢;rw[if_neg (by simp)]
   repeat' ((conv=>whnf);first|(refine Br.ff ?_)|(refine h1.go ?_))
   all_goals (conv=>whnf)
   all_goals exact VLe.nilfz rfl
theorem cf2_small (a b d a' b' d':Int):CSmall [[a,a'],[b,b'],[d,d']]:=⟨by simp,by simp⟩
theorem cf32_le {a b d a' b' d':Int} {k1 k2 k3:Nat->Nat->V} (h1:k1 0 0=.int .i64 a) (h2:k2 0 0=.int .i64 b) (h3:k3 0 0=.int .i64 d) (h1':k1 1 0=.int .i64 a') (h2':k2 1 0=.int .i64 b') (h3':k3 1 0=.int .i64 d') {f:Nat->Nat->V}
 (f0:f 0 0=.fz 2 1 false k1) (f1:f 1 0=.fz 2 1 false k2) (f2:f 2 0=.fz 2 1 false k3):VLe (.fz 3 1 false f) (cV [[a,a'],[b,b'],[d,d']]):=by
 refine VLe.fz rfl (fun h=>h) (fun i j hi hj=>?_);have e:j=0:=by omega
 subst e;rcases i with _|_|_|i
 . rw[f0];exact VLe.fz rfl (fun h=>h) (two_le _ _ _ h1 h1')
 . rw[f1];exact VLe.fz rfl (fun h=>h) (two_le _ _ _ h2 h2')
 . rw[f2];exact VLe.fz rfl (fun h=>h) (two_le _ _ _ h3 h3')
 . exfalso;omega
theorem threeK_le (a b d:Int) (f:Nat->Nat->V) (h0:f 0 0=.int .i64 a) (h1:f 1 0=.int .i64 b) (h2:f 2 0=.int .i64 d):∀i j:Nat,i<3->j<1->VLe (f i j) (vI [a,b,d] i j):=by
 intro i j hi hj;have e':j=0:=by omega
 subst e';rcases i with _|_|_|i
 . rw[h0];exact VLe.rfl
 . rw[h1];exact VLe.rfl
 . rw[h2];exact VLe.rfl
 . exfalso;omega
theorem k1:t3.klegit [[0,0],[1,-1],[0,0]]=true:=by decide +kernel
theorem k2:t3.klegit [[0,0],[1,0],[0,0]]=false:=by decide +kernel
theorem k3:t3.kheads [[0,0],[1,-1],[0,0]]=[1,1,1]:=by decide +kernel
set_option maxHeartbeats 4000000 in
theorem known34_ok:Ret Tryz.prog 12 [] (.bool true):=by
 have h1:=klegit_ok t3 t3_small _ (cf2_small 0 1 0 0 (-1) 0);have h2:=klegit_ok t3 t3_small _ (cf2_small 0 1 0 0 0 0);have h3:=heads_ok t3 t3_small _ (cf2_small 0 1 0 0 (-1) 0);have h4:=same34_ok [1,1,1] [1,1,1] (by decide) (by decide);rw[k1] at h1;rw[k2] at h2;rw[k3] at h3;rw[decide_eq_true rfl] at h4;refine ret_frz2 rfl ?_;refine fn_rule mixed Tryz.func12 rfl hc12 hr12 rfl ?_
 repeat' ((conv=>whnf);first|(refine Br.tt ?_)|(refine Br.ff ?_)|(refine call_frz [0] tree3 ⟨by decide,VLe.agg ⟨VLe.rfl,VLe.fz rfl (fun h=>h) (two_le _ _ _ rfl rfl),VLe.rfl,VLe.rfl,VLe.rfl,VLe.rfl,True.intro⟩,VLe.rfl,True.intro⟩ ?_)|(refine call_lend h1 rfl ⟨by decide,by decide,by decide,VLe.rfl,cf32_le rfl rfl rfl rfl rfl rfl rfl rfl rfl,True.intro⟩ ?_)|(refine call_frz [2,3,4,5] h3 ⟨by decide,by decide,by decide,VLe.rfl,cf32_le rfl rfl rfl rfl rfl rfl rfl rfl rfl,True.intro⟩ ?_)|(refine call_frz [6] h4 ⟨by decide,VLe.rfl,VLe.fz rfl (fun h=>h) (threeK_le _ _ _ _ rfl rfl rfl),True.intro⟩ ?_)|(refine call_frz [7,8,9,10] h2 ⟨by decide,by decide,by decide,VLe.rfl,cf32_le rfl rfl rfl rfl rfl rfl rfl rfl rfl,True.intro⟩ ?_))
 all_goals (conv=>whnf)
 all_goals exact VLe.rfl
theorem linkP_len (bk:Bool) (p:Ps) (a b:Nat) (w:Int):(linkP bk p a b w).length=p.length:=by
 rw[linkP];split<;>simp
theorem linkP_row (bk:Bool) (p:Ps) {a b:Nat} (w:Int) (ha:a<p.length) (hb:b<p.length) (u:Nat):(gR (linkP bk p a b w) u).length<=(gR p u).length+1:=by
 rw[linkP];split
 . omega
 . rename_i h;have hab:¬ a=b:=fun e=>h (.inl e);have hl:∀r l,(addP bk r l).length=r.length+1:=fun r l=>by rw[addP];split<;>simp
   rw[gR_set _ b _ (by simpa using hb),gR_set p a _ ha];split
   . rename_i e;subst e;rw[hl];omega
   . split
     . rename_i e;subst e;rw[hl];omega
     . omega
def wgt (x:Net) (i:Nat):Int:=1+within (gI x.weights i) 15
def treeP (x:Net) (n:Nat):Nat->Ps
 | 0=>List.replicate n []
 | k+1=>linkP x.back (treeP x n k) (within (gI x.links k) ((k:Int)+1)).toNat (k+1) (wgt x k)
theorem treeP_len (x:Net) (n:Nat):∀k,(treeP x n k).length=n
 | 0=>by simp[treeP]
 | k+1=>by rw[treeP,linkP_len,treeP_len x n k]
theorem treeP_to (x:Net) (k:Nat):(within (gI x.links k) ((k:Int)+1)).toNat<k+1:=by
 have:=within_range (gI x.links k) (b:=(k:Int)+1) (by omega);omega
theorem rep_row (n u:Nat):gR (List.replicate n []) u=[]:=by
 simp only[gR,List.getD,List.getElem?_replicate];split<;>rfl
theorem treeP_row (x:Net) (n:Nat):∀k,k<n->∀u,(gR (treeP x n k) u).length<=k
 | 0,_,u=>by rw[treeP,rep_row];simp
 | k+1,hk,u=>by
   have h1:=treeP_to x k;have h2:=linkP_row x.back (treeP x n k) (wgt x k) (a:=(within (gI x.links k) ((k:Int)+1)).toNat) (b:=k+1) (by rw[treeP_len];omega) (by rw[treeP_len];exact hk) u;have h3:=treeP_row x n k (by omega) u;rw[treeP];omega
abbrev netOwn (I:List Int) (p:Ps):Own:=gOwn ⟨I,p⟩
theorem vec_fam (ρ:Rn) (n:Nat):BRen ρ (.vec n 1 fun _ _=>.nilslice) (famP (List.replicate n [])):=⟨by simp,rfl,rfl,fun i hi=>⟨rfl,by rw[lenP,rep_row];rfl⟩⟩
theorem fam_fam (ρ:Rn) (p:Ps):BRen ρ (famP p) (famP p):=⟨rfl,rfl,True.intro,fun i hi=>rfl,fun i j t hi hn hj ht=>VLe.rfl⟩
set_option maxHeartbeats 8000000 in
theorem tree_ok (x:Net) (hx:x.Small) (most:Int) (h1:1<=most) (h2:most<=24) :
 CallF Tryz.prog 35 [x.v,.int .i64 most] [] KS fun v own' _=>v=gV1 (x.size most) (x.size most)/\own'=netOwn (idsF x.ids (x.size most)) (treeP x (x.size most) (x.size most-1)):=by
 have hn:=nodes_ok x hx most h1 h2;have hsz:1<=x.size most/\x.size most<=24:=by
  have:=within_range x.n1 h1;rw[Net.size];omega
 have hll:=hx.links;have hwl:=hx.weights;generalize x.size most=n at *;have hil:=idsF_len x.ids n;refine call_post ?_;refine fn_rule mixed Tryz.func35 rfl hc35 hr35 rfl ?_
 repeat' ((conv=>whnf);first|(refine call_by [] [0,1] (hn.mono ?_) ⟨VRen.kf rfl,VRen.kf rfl,True.intro⟩ True.intro rfl;rintro _ _ _ ⟨rfl,rfl⟩)|(refine Chk.mk rfl ?_))
 all_goals (conv=>whnf)
 refine loop_u mixed [2,4,5] [3] [5,6,7,8,9,10,11,12,13,14,15,16,17,18,19,20,21,22,23,24,25,26,27,28,29] [4,2,3,1,0] (fun k:Nat=>[(6,.int .i64 ((k:Int)+1))]) (fun own k=>updO own 3 (famP (treeP x n k))) (fun m k=>m=n-1-k/\k<=n-1) (n-1) 0 ⟨rfl,by omega⟩ rfl (fun _=>rfl) ?_ ?_
 . refine weak_by (fun _ _=>[(0,some 0),(1,some 1),(2,some 2),(3,some 3),(4,some 4)]) ?_ ?_ rfl
   . repeat' (first|exact True.intro|(refine⟨⟨_,rfl,?_⟩,?_⟩)|exact VRen.kf rfl|exact VRen.loc rfl)
   . repeat' (first|exact vec_fam _ _|exact True.intro|(refine⟨⟨_,rfl,?_⟩,?_⟩)|exact VRen.kf rfl|exact VRen.vec rfl rfl rfl|(refine⟨Nat.le_refl _,rfl,fun i j hi hj=>?_⟩)|exact VLe.rfl|(refine And.intro ?_ ?_))
 rintro m k ⟨hm,hk⟩;have hln:=treeP_len x n k;by_cases hkn:k<n-1
 . have ha1:=at_ok x.links hll k;have ha2:=at_ok x.weights hwl k;have hw1:=within_ok (gI x.links k) ((k:Int)+1) (by omega);have hw2:=within_ok (gI x.weights k) 15 (by omega);have hr1:=within_range (gI x.links k) (b:=(k:Int)+1) (by omega);have hr2:=within_range (gI x.weights k) (b:=15) (by omega);have hrow:=treeP_row x n k (by omega);have hl:=link_ok x ⟨idsF x.ids n,treeP x n k⟩ (small_of (by show(idsF x.ids n).length<=_;omega) (by show(treeP x n k).length<=_;omega) (fun u=>by have:=hrow u;show(gR (treeP x n k) u).length<=_;omega)) (fun u=>by have:=hrow u;show(gR (treeP x n k) u).length<=_;omega) (within (gI x.links k) ((k:Int)+1)).toNat (k+1) (by show _<(treeP x n k).length;omega) (by show _<(treeP x n k).length;omega) (wgt x k);have hnx:linkP x.back (treeP x n k) (within (gI x.links k) ((k:Int)+1)).toNat (k+1) (wgt x k)=treeP x n (k+1):=rfl;have hwg:wgt x k=1+within (gI x.weights k) 15:=rfl;simp only[hnx,hil,hln] at hl;generalize within (gI x.links k) ((k:Int)+1)=a at *;generalize within (gI x.weights k) 15=w at *
   repeat' ((conv=>whnf);first|(refine Ar.i64 (by omega) (by omega) ?_;rw[show(k:Int)+1-1=(k:Int) by omega])|(refine Br.dec ?_ ?_<;>intro _<;>try omega)|(refine Ar.i64 (by omega) (by omega) ?_)|(refine ha1.go ?_)|(refine ha2.go ?_)|(refine hw1.go ?_)|(refine hw2.go ?_)|(refine And.intro rfl ?_)|(refine call_by [(0,some 2),(1,some 3)] [] (hl.mono ?_) ⟨VRen.kf rfl,VRen.agg ⟨VRen.vec rfl rfl rfl,VRen.vec rfl rfl rfl,True.intro⟩,VRen.int (by omega),VRen.int (by omega),VRen.int (by omega),True.intro⟩ ⟨⟨_,rfl,Nat.le_of_eq hil,rfl,fun _ _ _ _=>VLe.rfl⟩,⟨_,rfl,fam_fam _ _⟩,True.intro⟩ rfl;rintro _ _ _ ⟨rfl,rfl⟩)|(refine Chk.mk rfl ?_))
   all_goals (conv=>whnf)
   all_goals
    refine⟨n-1-(k+1),k+1,by omega,⟨rfl,by omega⟩,?_⟩;refine weak_by (fun _ _=>[(0,some 0),(1,some 1),(2,some 2),(3,some 3),(4,some 4)]) ?_ ?_ rfl
    . repeat' (first|exact True.intro|(refine⟨⟨_,rfl,?_⟩,?_⟩)|exact VRen.kf rfl|exact VRen.loc rfl)
    . repeat' (first|exact fam_fam _ _|exact⟨Nat.le_of_eq hil.symm,rfl,fun _ _ _ _=>VLe.rfl⟩|exact True.intro|(refine⟨⟨_,rfl,?_⟩,?_⟩)|exact VRen.kf rfl|exact VRen.vec rfl rfl rfl|(refine And.intro ?_ ?_))
 . have e:k=n-1:=by omega
   subst e
   repeat' ((conv=>whnf);first|(refine Br.dec ?_ ?_<;>intro _<;>try omega))
   all_goals (conv=>whnf)
   exact postR_byV (fun v o=>[(0,vkey v 0),(1,vkey v 1)]) _ _ ⟨rfl,rfl⟩ (VRen.agg ⟨VRen.vec rfl rfl rfl,VRen.vec rfl rfl rfl,True.intro⟩) ⟨⟨_,rfl,Nat.le_of_eq hil,rfl,fun _ _ _ _=>VLe.rfl⟩,⟨_,rfl,fam_fam _ _⟩,True.intro⟩ rfl
def moreP (x:Net) (n:Nat) (p:Ps):Nat->Ps
 | 0=>p
 | k+1=>linkP x.back (moreP x n p k) (within (gI x.links (n+2*k)) n).toNat (within (gI x.links (n+2*k+1)) n).toNat (wgt x (n+2*k))
def moreN (x:Net) (n:Nat):Nat:=min ((x.links.length-n) / 2) ((61-n) / 2)
theorem moreP_len (x:Net) (n:Nat) (p:Ps):∀k,(moreP x n p k).length=p.length
 | 0=>rfl
 | k+1=>by rw[moreP,linkP_len,moreP_len x n p k]
theorem within_lt {a:Int} {n:Nat} (hn:1<=n):(within a n).toNat<n:=by
 have:=within_range a (b:=(n:Int)) (by omega);omega
theorem moreP_row (x:Net) (n:Nat) (p:Ps) (hn:1<=n) (hp:p.length=n):∀k u,(gR (moreP x n p k) u).length<=(gR p u).length+k
 | 0,u=>by rw[moreP];omega
 | k+1,u=>by
   have h2:=linkP_row x.back (moreP x n p k) (wgt x (n+2*k)) (a:=(within (gI x.links (n+2*k)) n).toNat) (b:=(within (gI x.links (n+2*k+1)) n).toNat) (by rw[moreP_len,hp];exact within_lt hn) (by rw[moreP_len,hp];exact within_lt hn) u;have h3:=moreP_row x n p hn hp k u;rw[moreP];omega
set_option maxHeartbeats 8000000 in
theorem more_ok (x:Net) (hx:x.Small) (I:List Int) (p:Ps) (n:Nat) (hn:1<=n) (hn2:n<=24) (hI:I.length=n) (hp:p.length=n) (hr:∀u,(gR p u).length<=100) :
 CallF Tryz.prog 18 [x.v,gV1 n n] (netOwn I p) KS4 fun v own' _=>v=gV1 n n/\own'=netOwn I (moreP x n p (moreN x n)):=by
 have hll:=hx.links;have hwl:=hx.weights;have hN:moreN x n<=31/\∀k,k<moreN x n↔(n+2*k+1<x.links.length/\n+2*k<60):=by
  rw[moreN];exact⟨by omega,fun k=>by omega⟩
 refine call_post ?_;refine fn_rule mixed Tryz.func18 rfl hc18 hr18 rfl ?_
 repeat' ((conv=>whnf);first|fail)
 all_goals (conv=>whnf)
 refine loop_u mixed [2,3,4,5] [] [5,6,7,8,9,10,11,12,13,14,15,16,17,18,19,20,21,22,23,24,25,26,27,28,29] [4,3,2,0,1] (fun k:Nat=>[(6,.int .i64 ((n:Int)+2*k))]) (fun own k=>updO own 1 (famP (moreP x n p k))) (fun m k=>m=moreN x n-k/\k<=moreN x n) (moreN x n) 0 ⟨rfl,by omega⟩ rfl (fun _=>rfl) ?_ ?_
 . refine weak_by (fun _ _=>[(0,some 0),(1,some 1),(2,some 2),(3,some 3),(4,some 4)]) ?_ ?_ rfl
   . repeat' (first|exact True.intro|(refine⟨⟨_,rfl,?_⟩,?_⟩)|exact VRen.kf rfl|exact VRen.loc rfl)
   . repeat' (first|exact fam_fam _ _|exact True.intro|(refine⟨⟨_,rfl,?_⟩,?_⟩)|exact VRen.kf rfl|exact VRen.vec rfl rfl rfl|(refine⟨Nat.le_refl _,rfl,fun i j hi hj=>?_⟩)|exact VLe.rfl|(refine And.intro ?_ ?_))
 rintro m k ⟨hm,hk⟩;have hln:=(moreP_len x n p k).trans hp;have hk2:=hN.2 k;by_cases hkn:k<moreN x n
 . obtain⟨c1,c2⟩:=hk2.1 hkn;have ha2:=at_ok x.weights hwl (n+2*k);have hw1:=within_ok (gI x.links (n+2*k)) n (by omega);have hw3:=within_ok (gI x.links (n+2*k+1)) n (by omega);have hw2:=within_ok (gI x.weights (n+2*k)) 15 (by omega);have hr1:=within_range (gI x.links (n+2*k)) (b:=n) (by omega);have hr3:=within_range (gI x.links (n+2*k+1)) (b:=n) (by omega);have hr2:=within_range (gI x.weights (n+2*k)) (b:=15) (by omega);have hrow:∀u,(gR (moreP x n p k) u).length<=1000:=fun u=>by have:=moreP_row x n p hn hp k u;have:=hr u;omega
   have hl:=link_ok x ⟨I,moreP x n p k⟩ (small_of (by show I.length<=_;omega) (by show(moreP x n p k).length<=_;omega) hrow) hrow (within (gI x.links (n+2*k)) n).toNat (within (gI x.links (n+2*k+1)) n).toNat (by show _<(moreP x n p k).length;omega) (by show _<(moreP x n p k).length;omega) (wgt x (n+2*k));have hnx:linkP x.back (moreP x n p k) (within (gI x.links (n+2*k)) n).toNat (within (gI x.links (n+2*k+1)) n).toNat (wgt x (n+2*k))=moreP x n p (k+1):=rfl;have hwg:wgt x (n+2*k)=1+within (gI x.weights (n+2*k)) 15:=rfl;simp only[hnx,hI,hln] at hl;have e2k:((n+2*k:Nat):Int)=(n:Int)+2*k:=by omega
   rw[e2k] at ha2
   repeat' ((conv=>whnf);first|(refine Ix.mk (n+2*k) (by omega) (by omega) ?_;try rw[Nat.zero_add])|(refine Ix.mk (n+2*k+1) (by omega) (by omega) ?_;try rw[Nat.zero_add])|(refine Br.dec ?_ ?_<;>intro _<;>try omega)|(refine Ar.i64 (by omega) (by omega) ?_)|(refine ha2.go ?_)|(refine hw1.go ?_)|(refine hw3.go ?_)|(refine hw2.go ?_)|(refine And.intro rfl ?_)|(refine call_by [(0,some 0),(1,some 1)] [] (hl.mono ?_) ⟨VRen.kf rfl,VRen.agg ⟨VRen.vec rfl rfl rfl,VRen.vec rfl rfl rfl,True.intro⟩,VRen.int (by omega),VRen.int (by omega),VRen.int (by omega),True.intro⟩ ⟨⟨_,rfl,Nat.le_of_eq (by first|rfl|exact hI|exact hI.symm),rfl,fun _ _ _ _=>VLe.rfl⟩,⟨_,rfl,fam_fam _ _⟩,True.intro⟩ rfl;rintro _ _ _ ⟨rfl,rfl⟩)|(refine Chk.mk rfl ?_))
   all_goals (conv=>whnf)
   all_goals
    refine⟨moreN x n-(k+1),k+1,by omega,⟨rfl,by omega⟩,?_⟩;refine weak_by (fun _ _=>[(0,some 0),(1,some 1),(2,some 2),(3,some 3),(4,some 4)]) ?_ ?_ rfl
    . repeat' (first|exact True.intro|(refine⟨⟨_,rfl,?_⟩,?_⟩)|exact VRen.kf rfl|exact VRen.loc rfl)
    . repeat' (first|exact fam_fam _ _|exact⟨Nat.le_refl _,rfl,fun _ _ _ _=>VLe.rfl⟩|exact True.intro|(refine⟨⟨_,rfl,?_⟩,?_⟩)|exact VRen.kf rfl|exact VRen.vec rfl rfl rfl|(refine And.intro ?_ ?_))
 . have e:k=moreN x n:=by omega
   subst e;by_cases h1:n+2*moreN x n+1<x.links.length
   all_goals
    repeat' ((conv=>whnf);first|(refine Br.dec ?_ ?_<;>intro _<;>try omega)|(refine Ar.i64 (by omega) (by omega) ?_))
    all_goals (conv=>whnf)
    all_goals exact postR_byV (fun v o=>[(0,vkey v 0),(1,vkey v 1)]) _ _ ⟨rfl,rfl⟩ (VRen.agg ⟨VRen.vec rfl rfl rfl,VRen.vec rfl rfl rfl,True.intro⟩) ⟨⟨_,rfl,Nat.le_refl _,rfl,fun _ _ _ _=>VLe.rfl⟩,⟨_,rfl,fam_fam _ _⟩,True.intro⟩ rfl
theorem size_ok (x:Net) {most:Int} (h1:1<=most):1<=x.size most/\(x.size most:Int)<=most:=by
 have:=within_range x.n1 h1;rw[Net.size];omega
def Net.con (x:Net) (most:Int):G:=⟨idsF x.ids (x.size most),moreP x (x.size most) (treeP x (x.size most) (x.size most-1)) (moreN x (x.size most))⟩
def Net.any (x:Net) (most:Int):G:=if x.apart then⟨idsF x.ids (x.size most),moreP x (x.size most) (List.replicate (x.size most) []) (moreN x (x.size most))⟩ else x.con most
theorem view_g {g:G} {n:Nat} (h1:g.ids.length=n) (h2:g.ports.length=n):VLe (V.agg [.fz n 1 false (shiftF 0 (vI g.ids)),.fz n 1 false fun i _=>.fz (lenP g.ports i) 2 false (rowP g.ports i)]) g.v:=by
 refine VLe.agg ⟨?_,?_,True.intro⟩
 . exact VLe.fz h1.symm (fun h=>h) (fun i j hi hj=>VLe.of_eq (by simp[shiftF]))
 . exact VLe.fz h2.symm (fun h=>h) (fun i j hi hj=>VLe.rfl)
set_option maxHeartbeats 8000000 in
theorem connected_call (x:Net) (hx:x.Small) (most:Int) (h1:1<=most) (h2:most<=24) :
 CallF Tryz.prog 17 [x.v,.int .i64 most] [] KS fun v own' _=>v=gV1 (x.size most) (x.size most)/\own'=gOwn (x.con most):=by
 have ht:=tree_ok x hx most h1 h2;have hsz:=size_ok x h1;have hm:=more_ok x hx (idsF x.ids (x.size most)) (treeP x (x.size most) (x.size most-1)) (x.size most) hsz.1 (by omega) (idsF_len _ _) (treeP_len _ _ _) (fun u=>by have:=treeP_row x (x.size most) (x.size most-1) (by omega) u;omega);refine call_post ?_;refine fn_rule mixed Tryz.func17 rfl hc17 hr17 rfl ?_
 repeat' ((conv=>whnf);first|(refine call_by [] [0,1] (ht.mono ?_) ⟨VRen.kf rfl,VRen.kf rfl,True.intro⟩ True.intro rfl;rintro _ _ _ ⟨rfl,rfl⟩)|(refine call_by [(0,some 2),(1,some 3)] [] (hm.mono ?_) ⟨VRen.kf rfl,VRen.agg ⟨VRen.vec rfl rfl rfl,VRen.vec rfl rfl rfl,True.intro⟩,True.intro⟩ ⟨⟨_,rfl,Nat.le_refl _,rfl,fun _ _ _ _=>VLe.rfl⟩,⟨_,rfl,fam_fam _ _⟩,True.intro⟩ rfl;rintro _ _ _ ⟨rfl,rfl⟩)|(refine Chk.mk rfl ?_)|(refine And.intro rfl ?_))
 all_goals (conv=>whnf)
 exact postR_byV (fun v o=>[(0,vkey v 0),(1,vkey v 1)]) _ _ ⟨rfl,rfl⟩ (VRen.agg ⟨VRen.vec rfl rfl rfl,VRen.vec rfl rfl rfl,True.intro⟩) ⟨⟨_,rfl,Nat.le_refl _,rfl,fun _ _ _ _=>VLe.rfl⟩,⟨_,rfl,fam_fam _ _⟩,True.intro⟩ rfl
theorem con_len (x:Net) (most:Int):(x.con most).ids.length=x.size most/\(x.con most).ports.length=x.size most:=⟨idsF_len _ _,(moreP_len _ _ _ _).trans (treeP_len _ _ _)⟩
theorem any_len (x:Net) (most:Int):(x.any most).ids.length=x.size most/\(x.any most).ports.length=x.size most:=by
 rw[Net.any];split
 . exact⟨idsF_len _ _,(moreP_len _ _ _ _).trans (by simp)⟩
 . exact con_len x most
set_option maxHeartbeats 8000000 in
theorem any_ok (x:Net) (hx:x.Small) (most:Int) (h1:1<=most) (h2:most<=24):Ret Tryz.prog 4 [x.v,.int .i64 most] (x.any most).v:=by
 have hc:=connected_call x hx most h1 h2;have ht:=nodes_ok x hx most h1 h2;have hsz:=size_ok x h1;have hm:=more_ok x hx (idsF x.ids (x.size most)) (List.replicate (x.size most) []) (x.size most) hsz.1 (by omega) (idsF_len _ _) (by simp) (fun u=>by rw[rep_row];simp);have hl:=any_len x most;refine ret_frz rfl ?_;refine fn_rule mixed Tryz.func4 rfl hc4 hr4 rfl ?_;cases hap:x.apart with
 | false =>
   have he:x.any most=x.con most:=by rw[Net.any,hap];rfl
   rw[he] at hl ⊢;obtain⟨xn,xl,xw,xi,xa,xb⟩:=x;simp only at hap;subst hap
   repeat' ((conv=>whnf);first|(refine Br.ff ?_)|(refine Len.mk (by omega) ?_)|(refine call_by [] [0,1] (hc.mono ?_) ⟨VRen.kf rfl,VRen.kf rfl,True.intro⟩ True.intro rfl;rintro _ _ _ ⟨rfl,rfl⟩)|(refine Chk.mk rfl ?_))
   all_goals (conv=>whnf)
   exact view_g hl.1 hl.2
 | true =>
   have he:x.any most=⟨idsF x.ids (x.size most),moreP x (x.size most) (List.replicate (x.size most) []) (moreN x (x.size most))⟩:=by rw[Net.any,hap];rfl
   rw[he] at hl ⊢;obtain⟨xn,xl,xw,xi,xa,xb⟩:=x;simp only at hap;subst hap
   repeat' ((conv=>whnf);first|(refine Br.tt ?_)|(refine Len.mk (by omega) ?_)|(refine call_by [] [0,1] (ht.mono ?_) ⟨VRen.kf rfl,VRen.kf rfl,True.intro⟩ True.intro rfl;rintro _ _ _ ⟨rfl,rfl⟩)|(refine call_by [(0,some 2),(1,some 3)] [] (hm.mono ?_) ⟨VRen.kf rfl,VRen.agg ⟨VRen.vec rfl rfl rfl,VRen.vec rfl rfl rfl,True.intro⟩,True.intro⟩ ⟨⟨_,rfl,Nat.le_of_eq (idsF_len _ _),rfl,fun _ _ _ _=>VLe.rfl⟩,⟨_,rfl,vec_fam _ _⟩,True.intro⟩ rfl;rintro _ _ _ ⟨rfl,rfl⟩)|(refine Chk.mk rfl ?_)|(refine And.intro rfl ?_))
   all_goals (conv=>whnf)
   exact view_g hl.1 hl.2
structure PV (p:Ps):Prop where
 ok:∀v,v<p.length->okR p.length v (gR p v)=true
 sym:∀v,v<p.length->∀l∈gR p v,((v:Int),l.2)∈gR p l.1.toNat
theorem mem_addP {bk:Bool} {r:List (Int×Int)} {x l:Int×Int}:l∈addP bk r x↔l=x\/l∈r:=by
 rw[addP];split
 . simp
 . simp only[List.mem_append,List.mem_singleton];exact⟨Or.symm,Or.symm⟩
theorem nodup_addP {bk:Bool} {r:List (Int×Int)} {x:Int×Int} (h:(r.map (·.1)).Nodup) (hx:∀l∈r,l.1≠x.1):((addP bk r x).map (·.1)).Nodup:=by
 have hn:x.1∉r.map (·.1):=fun hm=>by
  obtain⟨l,h1,h2⟩:=List.mem_map.1 hm;exact hx l h1 h2
 rw[addP];split
 . rw[List.map_cons,List.nodup_cons];exact⟨hn,h⟩
 . rw[List.map_append,List.nodup_append];refine⟨h,by simp,fun a ha b hb e=>hn ?_⟩;have:b=x.1:=by simpa using hb
   rw[<- this,<- e];exact ha
theorem pv_rep (n:Nat):PV (List.replicate n []):=⟨fun v _=>by rw[rep_row];rfl,fun v _ l hl=>by rw[rep_row] at hl;cases hl⟩
theorem pv_link {bk:Bool} {p:Ps} (h:PV p) {a b:Nat} {w:Int} (ha:a<p.length) (hb:b<p.length) (hw:1<=w/\w<=15):PV (linkP bk p a b w):=by
 have hlen:=linkP_len bk p a b w;rw[linkP] at hlen ⊢;split
 . exact h
 . rename_i hc;rw[if_neg hc] at hlen;have hab:a≠b:=fun e=>hc (.inl e);have hnl:∀l∈gR p a,l.1≠b:=fun l hl e=>hc (.inr (by rw[lnk,List.any_eq_true];exact⟨l,hl,by simpa using e⟩));have hnl2:∀l∈gR p b,l.1≠a:=fun l hl e=>by
    have:=h.sym b hb l hl;rw[e] at this;exact hnl _ this rfl
   have hg:∀v,gR ((p.set a (addP bk (gR p a) ((b:Int),w))).set b (addP bk (gR p b) ((a:Int),w))) v=if v=b then addP bk (gR p b) ((a:Int),w) else if v=a then addP bk (gR p a) ((b:Int),w) else gR p v:=fun v=>by
    rw[gR_set _ b _ (by simpa using hb),gR_set p a _ ha]
   constructor
   . intro v hv;rw[hlen] at hv ⊢;rw[hg];split
     . rename_i e;subst e;obtain⟨o1,o2⟩:=okR_iff.1 (h.ok v hv);refine okR_iff.2 ⟨fun l hl=>?_,nodup_addP o2 hnl2⟩;rcases mem_addP.1 hl with rfl|hl
       . simp only;omega
       . exact o1 l hl
     . split
       . rename_i e;subst e;obtain⟨o1,o2⟩:=okR_iff.1 (h.ok v hv);refine okR_iff.2 ⟨fun l hl=>?_,nodup_addP o2 hnl⟩;rcases mem_addP.1 hl with rfl|hl
         . simp only;omega
         . exact o1 l hl
       . exact h.ok v hv
   . intro v hv l hl;rw[hlen] at hv;have old:∀u x,x∈gR p u->x∈gR ((p.set a (addP bk (gR p a) ((b:Int),w))).set b (addP bk (gR p b) ((a:Int),w))) u:=fun u x hx=>by
      rw[hg];split
      . rename_i e;subst e;exact mem_addP.2 (.inr hx)
      . split
        . rename_i e;subst e;exact mem_addP.2 (.inr hx)
        . exact hx
     rw[hg] at hl;split at hl
     . rename_i e;subst e;rcases mem_addP.1 hl with rfl|hl
       . simp only[Int.toNat_natCast];rw[hg,if_neg hab,if_pos rfl];exact mem_addP.2 (.inl rfl)
       . exact old _ _ (h.sym v hv l hl)
     . split at hl
       . rename_i e;subst e;rcases mem_addP.1 hl with rfl|hl
         . simp only[Int.toNat_natCast];rw[hg,if_pos rfl];exact mem_addP.2 (.inl rfl)
         . exact old _ _ (h.sym v hv l hl)
       . exact old _ _ (h.sym v hv l hl)
theorem wgt_ok (x:Net) (i:Nat):1<=wgt x i/\wgt x i<=15:=by
 have:=within_range (gI x.weights i) (b:=15) (by omega);rw[wgt];omega
theorem pv_tree (x:Net) (n:Nat):∀k,k<n->PV (treeP x n k)
 | 0,_=>pv_rep n
 | k+1,hk=>by
   have h1:=treeP_to x k;rw[treeP];exact pv_link (pv_tree x n k (by omega)) (by rw[treeP_len];omega) (by rw[treeP_len];exact hk) (wgt_ok x k)
theorem pv_more (x:Net) {n:Nat} (hn:1<=n) {p:Ps} (hp:p.length=n) (h:PV p):∀k,PV (moreP x n p k)
 | 0=>h
 | k+1=>by
   rw[moreP];exact pv_link (pv_more x hn hp h k) (by rw[moreP_len,hp];exact within_lt hn) (by rw[moreP_len,hp];exact within_lt hn) (wgt_ok x _)
theorem valid_of {I:List Int} {p:Ps} {n:Nat} (h1:1<=n) (h2:n<=24) (hI:I.length=n) (hp:p.length=n) (h3:∀a∈I,0<=a/\a<=255) (h4:I.Nodup) (h:PV p):(⟨I,p⟩:G).valid=true:=by
 rw[G.valid,Bool.and_eq_true,Bool.and_eq_true,decide_eq_true_eq];refine⟨⟨by show 1<=I.length;omega,by show I.length<=24;omega,by show p.length=I.length;omega⟩,(idsOk_iff _).2 ⟨h3,h4⟩,?_⟩;rw[portsOk,Bool.and_eq_true];exact⟨rowsOk_iff.2 h.ok,symOk_iff.2 h.sym⟩
theorem con_valid (x:Net) {most:Int} (h1:1<=most) (h2:most<=24):(x.con most).valid=true:=by
 have hs:=size_ok x h1;have hi:=idsF_ok x.ids (x.size most) (by omega);exact valid_of hs.1 (by omega) (con_len x most).1 (con_len x most).2 hi.1 hi.2 (pv_more x hs.1 (treeP_len _ _ _) (pv_tree x _ _ (by omega)) _)
theorem any_valid (x:Net) {most:Int} (h1:1<=most) (h2:most<=24):(x.any most).valid=true:=by
 have hs:=size_ok x h1;have hi:=idsF_ok x.ids (x.size most) (by omega);have hl:=any_len x most;rw[Net.any] at hl ⊢;split
 . rename_i h;rw[if_pos h] at hl;exact valid_of hs.1 (by omega) hl.1 hl.2 hi.1 hi.2 (pv_more x hs.1 (by simp) (pv_rep _) _)
 . exact con_valid x h1 h2
theorem valid_small {g:G} (h:g.valid=true):g.Small:=by
 obtain⟨f1,f2,f3,f4,f5,f6,f7⟩:=val_facts h;refine small_of (by omega) (by omega) (fun u=>?_);by_cases hu:u<g.ports.length
 . have:=okR_len hu (f6 u hu);omega
 . have:gR g.ports u=[]:=by simp[gR,List.getD,List.getElem?_eq_none (Nat.le_of_not_lt hu)]
   rw[this];simp
theorem vK_lo' (x:Nat):0<=(gV vK x).lo/\(gV vK x).lo<=1000:=by
 rcases x with _|_|x
 . exact⟨by decide,by decide⟩
 . exact⟨by decide,by decide⟩
 . have:gV vK (x+2)=default:=by simp[gV,vK,List.getD]
   rw[this];exact⟨by decide,by decide⟩
set_option maxHeartbeats 16000000 in
theorem lawKLayers (x:Net) (hx:x.Small) (raw:List Int) (hraw:raw.length<=9223372036854775807) :
 Ret Tryz.prog 3 [x.v,.fz raw.length 1 false (vI raw)] (.bool true):=by
 have h0:=any_ok x hx 8 (by omega) (by omega);have hg:=any_valid x (most:=8) (by omega) (by omega);generalize x.any 8=g at *;obtain⟨f1,f2,f3,f4,f5,f6,f7⟩:=val_facts hg;have hs:=valid_small hg;have hcf:=config_ok g hg vK vK_ok vK_lo' raw hraw;have hc:=cfg_conf pClu clu_prOk g hg raw;change Conf pClu g (cfg g vK raw) at hc;generalize cfg g vK raw=c at *;have hl:=hc.len;have hv:=kvars_ok;have hk:=known34_ok;have ht1:=textI_ok;have ht2:=textQ_ok;have hp1:=programI_ok;have hp2:=programQ_ok;have hp3:=programU_ok;have hj:=join_ok;have hr:=restrict_ok;have hl1:=lower1_ok;have hl2:=lower2_ok;have hs1:=same7Q_ok;have hs2:=same7I_ok;have hpj:=project1_ok c (by omega) (fun v hv=>hc.row v hv);have he1:=senabled_ok pInd ind_prOk g hs hg _ (pj1_conf hc);have he2:=senabled_ok pClu clu_prOk g hs hg c hc;have hd:=andNot_part (en_32 pInd hg (pjC 1 c)) (en_32 pClu hg c) (layer_part hg hc);refine ret_frz rfl ?_;refine fn_rule mixed Tryz.func3 rfl hc3 hr3 rfl ?_
 repeat' ((conv=>whnf);first|(refine Br.tt ?_)|(refine Br.ff ?_)|(refine Br.dec ?_ ?_<;>intro _<;>try omega)|(refine Sv.mk _ rfl ?_)|(refine h0.go ?_)|(refine hcf.go ?_)|(refine hv.go ?_)|(refine hk.go ?_)|(refine ht1.go ?_)|(refine ht2.go ?_)|(refine hp1.go ?_)|(refine hp2.go ?_)|(refine hp3.go ?_)|(refine hj.go ?_)|(refine hr.go ?_)|(refine hl1.go ?_)|(refine hl2.go ?_)|(refine hs1.go ?_)|(refine hs2.go ?_)|(refine hpj.go ?_)|(refine he1.go ?_)|(refine he2.go ?_)|(refine And.intro rfl ?_))
 all_goals (conv=>whnf)
 all_goals exact VLe.rfl
end Go.Proofs.YtbceaajfhcgnjaaGreat
namespace Go.Proofs.YtbceaajfhcgnjaaGreat
open Go.Eng Go.ChangeShapes Go.WideShapes Go.ChangeAt Go.RowKit
set_option maxRecDepth 100000
set_option linter.unusedVariables false
theorem own:ownKnob Tryz.prog.godebug=none:=by kernel_rfl
theorem laid:laidOutB Tryz.prog=true:=by kernel_rfl
theorem max_le {n:Nat} (h:n<=maxLen):n<=9223372036854775807:=h
theorem cells3:Tryz.prog.cellsOf 3=1:=by kernel_rfl
theorem cells22:Tryz.prog.cellsOf 22=1:=by kernel_rfl
theorem cells4:Tryz.prog.cellsOf 4=1:=by kernel_rfl
theorem cells24:Tryz.prog.cellsOf 24=6:=by kernel_rfl
theorem read24:Tryz.prog.readableRec 24=true:=by kernel_rfl
theorem read22:Tryz.prog.readableRec 22=true:=by kernel_rfl
theorem size24  :24<Tryz.prog.types.size:=of_decide_eq_true (by kernel_rfl)
theorem size22:22<Tryz.prog.types.size:=of_decide_eq_true (by kernel_rfl)
section
variable {H:Type} {enc:TypeId×Value->H} {W:World} {sp:Nat->Bool} {hd:Bool}
theorem den_net {v:Value} {d:DataW H} {ps:List MemPlace} (hv:∃cs,v=.agg cs) (h:DataW.Trod enc Tryz.prog W 0 sp hd 24 v d ps):∃x:Net,x.Small/\Den (fun _=>False) W Sg.none x.v v:=by
 obtain⟨arr,rfl⟩:=hv;obtain⟨fuel,h⟩:=h;obtain⟨hl,n,hf⟩:=trod_struct_inv Tryz.underlying24 h;simp only[Value.cells] at hl hf;generalize hcs:arr.toList=cs at hl hf;rw[cells24] at hl;obtain⟨x0,y0⟩:=hf 0 _ rfl;obtain⟨x1,y1⟩:=hf 1 _ rfl;obtain⟨x2,y2⟩:=hf 2 _ rfl;obtain⟨x3,y3⟩:=hf 3 _ rfl;obtain⟨x4,y4⟩:=hf 4 _ rfl;obtain⟨x5,y5⟩:=hf 5 _ rfl;simp only[cells3,cells22,cells4] at y0 y1 y2 y3 y4 y5;obtain⟨n0,e0,_⟩:=trod_int_inv Tryz.underlying3 y0;obtain⟨u1,l1,e1,_,d1,m1,_⟩:=den_ints Sg.none Tryz.underlying22 Tryz.underlying3 cells3 y1;obtain⟨u2,l2,e2,_,d2,m2,_⟩:=den_ints Sg.none Tryz.underlying22 Tryz.underlying3 cells3 y2;obtain⟨u3,l3,e3,_,d3,m3,_⟩:=den_ints Sg.none Tryz.underlying22 Tryz.underlying3 cells3 y3;obtain⟨b4,e4⟩:=trod_bool_inv Tryz.underlying4 y4;obtain⟨b5,e5⟩:=trod_bool_inv Tryz.underlying4 y5
 match cs,hl with
 | [c0,c1,c2,c3,c4,c5],_ =>
   simp at e0 e1 e2 e3 e4 e5;subst e0 e1 e2 e3 e4 e5;refine⟨⟨n0,l1,l2,l3,b4,b5⟩,⟨max_le m1,max_le m2,max_le m3⟩,?_⟩;have:arr=[.int .i64 n0,c1,c2,c3,.bool b4,.bool b5].toArray:=by rw[<- hcs]
   rw[this];refine .agg _ _ _ rfl ?_;intro i v u hv hu
   match i,hv,hu with
   | 0,hv,hu=>simp at hv hu;subst hv hu;exact .int _ _ _
   | 1,hv,hu=>simp at hv hu;subst hv hu;exact d1
   | 2,hv,hu=>simp at hv hu;subst hv hu;exact d2
   | 3,hv,hu=>simp at hv hu;subst hv hu;exact d3
   | 4,hv,hu=>simp at hv hu;subst hv hu;exact .bool _ _
   | 5,hv,hu=>simp at hv hu;subst hv hu;exact .bool _ _
   | i+6,hv,hu=>simp at hv
theorem den_raw {v:Value} {d:DataW H} {ps:List MemPlace} (hv:v.cells=#[v]) (h:DataW.Trod enc Tryz.prog W 0 sp hd 22 v d ps):∃l:List Int,l.length<=9223372036854775807/\Den (fun _=>False) W Sg.none (.fz l.length 1 false (vI l)) v:=by
 obtain⟨fuel,h⟩:=h;rw[hv] at h;obtain⟨u1,l1,e1,_,d1,m1,_⟩:=den_ints Sg.none Tryz.underlying22 Tryz.underlying3 cells3 h;simp at e1;subst e1;exact⟨l1,max_le m1,d1⟩
end
theorem agg24_of_ok {W:World} {base:Nat} {v:Value} (h:Value.okWide Tryz.prog W .any base 24 v):∃cs,v=.agg cs:=by
 unfold Value.okWide at h;rw[Tryz.underlying24] at h;obtain⟨cs,h,_⟩:=h;exact⟨cs,h⟩
theorem slice22_of_ok {W:World} {base:Nat} {v:Value} (h:Value.okWide Tryz.prog W .any base 22 v):v.cells=#[v]:=by
 unfold Value.okWide at h;rw[Tryz.underlying22] at h;unfold Cell.okWide at h;rw[Tryz.underlying22] at h;cases v<;>first|rfl|(simp[Cell.ok,Tryz.underlying22] at h)
theorem tokens_lifted (os:Os) (started:os.Started) (H:Type) (enc:TypeId×Value->H) :
 ReturnsInHanded {} Tryz.checked os 3 .any (Rows.clusterLayersSpec.pre6 enc Tryz.prog Tryz.f3 Rows.clusterLayersRow.domain false) (Rows.clusterLayersSpec.post enc Tryz.prog Tryz.f3 false true false false):=by
 refine returnsInHanded_of_change (C:=Tryz.checked) own started (by kernel_rfl) Tryz.func3
  (ChangeSpec.witness6 (enc:=enc) (C:=Tryz.checked) false ⟨#[],#[.agg #[.int .i64 0,.slice none 0 0,.slice none 0 0,.slice none 0 0,.bool false,.bool false],.slice none 0 0],[]⟩ 8 (by kernel_rfl) (by kernel_rfl) (by kernel_rfl) (by kernel_rfl)) ?_
 intro W base args ds gs before hval0 hW hcnd _;have hval:∀(j:Nat) t v,Tryz.f3.params[j]?=some t->args[j]?=some v->Value.okWide Tryz.prog W .any base t v:=hval0;have hW':=hW;obtain⟨p,q,hA0,hV,rfl,hfz,hnd⟩:=hW;have hA:DataW.TrodAll enc Tryz.prog W 0 (fun _=>true) true Tryz.f3.params.toList args.toList ds p:=hA0;rw[Tryz.params3] at hA hval;obtain⟨v0,vs0,d0,ds0,p0,q0,hargs,rfl,rfl,h0,r0⟩:=trodAll_cons hA;obtain⟨v1,vs1,d1,ds1,p1,q1,hargs1,rfl,rfl,h1,r1⟩:=trodAll_cons r0;obtain⟨rfl,rfl,rfl⟩:=trodAll_nil r1;subst hargs1;obtain rfl:args=#[v0,v1]:=by cases args;simp_all
 obtain⟨rfl,rfl⟩:=trodVars_none hV;obtain⟨x,hs,hr⟩:=den_net (agg24_of_ok (hval 0 24 v0 rfl rfl)) h0;obtain⟨c,hc,hl⟩:=den_raw (slice22_of_ok (hval 1 22 v1 rfl rfl)) h1;refine(ret_calls (args:=#[v0,v1]) (W:=W) (lawKLayers x hs c hc) rfl ?_).mono ?_
 . intro i v u hv hu
   match i,hv,hu with
   | 0,hv,hu=>simp at hv hu;subst hv hu;exact hr
   | 1,hv,hu=>simp at hv hu;subst hv hu;exact hl
   | i+2,hv,hu=>simp at hv
 . rintro e W' ⟨rfl,hb⟩;refine⟨_,rfl,post_law (tb:=4) laid rfl hW' ?_ (by kernel_rfl) Tryz.underlying4 rfl rfl rfl hb⟩;rw[Tryz.params3];intro t ht;simp at ht;rcases ht with rfl|rfl
   . exact⟨read24,size24⟩
   . exact⟨read22,size22⟩
theorem clusterLayers_holds:Rows.ClusterLayersSaid :=
 OpenClaim.holds_of_wide 3 Tryz.f3 rfl rfl rfl rfl rfl rfl rfl ⟨rfl,rfl,rfl,rfl,rfl⟩ rfl rfl rfl rfl rfl (by kernel_rfl) Tryz.func3 (by kernel_rfl)
  (of_decide_eq_true (by kernel_rfl)) (by unfold Func.isWrapper;first|(rw[if_pos (by decide +kernel)];kernel_rfl)|(rw[if_neg (by decide +kernel)];exact⟨rfl,rfl⟩))
  (fun os started H enc _=>tokens_lifted os started H enc)
end Go.Proofs.YtbceaajfhcgnjaaGreat
