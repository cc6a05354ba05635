import Derived.Test.YtgajaabakpfbbaaGreatWXA
import Derived.Test.YtgajaabakpfbbaaGreatEngZ
namespace Go.Proofs.YtgajaabakpfbbaaGreat
open Go.Eng
set_option maxRecDepth 100000
set_option linter.unusedVariables false
structure Net where
 n:Int
 links:List Int
 weights:List Int
 ids:List Int
 apart:Bool
 back:Bool
def Net.v (x:Net):V:=.agg [.int .i64 x.n,.fz x.links.length 1 false (vI x.links),.fz x.weights.length 1 false (vI x.weights),.fz x.ids.length 1 false (vI x.ids),.bool x.apart,.bool x.back]
structure Net.Small (x:Net):Prop where
 links:x.links.length≤9223372036854775807
 weights:x.weights.length≤9223372036854775807
 ids:x.ids.length≤9223372036854775807
abbrev Ps:=List (List (Int × Int))
def lnk (p:Ps) (a:Nat) (b:Int):Bool:=(gR p a).any fun l=>decide (l.1 = b)
theorem linked_ok (g:G) (hs:g.Small) (a:Nat) (b:Int) (ha:a < g.ports.length):Ret Tryz.prog 95 [g.v,.int .i64 a,.int .i64 b] (.bool (lnk g.ports a b)):=by
 have hrl:=gR_len hs.rows a;refine ret_frz rfl ?_;refine fn_rule mixed Tryz.func95 rfl hc95 hr95 rfl ?_
 repeat' ((conv=>whnf);first | fail)
 all_goals (conv=>whnf)
 refine loop_r mixed [1,2,3] (fun i:Nat=>[(7,.int .i64 i)]) (fun m i=>m = (gR g.ports a).length - i∧i≤(gR g.ports a).length∧((gR g.ports a).take i).any (fun l=>decide (l.1 = b)) = false) (gR g.ports a).length 0 ⟨rfl,Nat.zero_le _,rfl⟩ ?_ ?_
 . exact weak_b (fun _ _=>[(0,some 0)])
 rintro m i ⟨hm,hi,hall⟩
 repeat' ((conv=>whnf);first | (refine Br.dec ?_ ?_ <;> intro _ <;> try omega) | (refine Ar.i64 (by omega) (by omega) ?_) | (refine Ix.nat (by omega) ?_))
 all_goals (conv=>whnf)
 . refine VLe.bool ?_;symm;rw [lnk,List.any_eq_true];exact ⟨_,gF_mem (show i < (gR g.ports a).length by omega),by simp;omega⟩
 . refine ⟨(gR g.ports a).length - (i + 1),i + 1,by omega,⟨rfl,by omega,?_⟩,?_⟩
   . rw [gF_take _ _ (by omega),List.any_append,hall];simp;omega
   . exact weak_b (fun _ _=>[(0,some 0)])
 . refine VLe.bool ?_;rw [lnk,← hall,List.take_of_length_le (by omega)]
def addP (bk:Bool) (r:List (Int × Int)) (l:Int × Int):List (Int × Int):=if bk then l :: r else r ++ [l]
def linkP (bk:Bool) (p:Ps) (a b:Nat) (w:Int):Ps:=if a = b∨lnk p a b = true then p else (p.set a (addP bk (gR p a) ((b:Int),w))).set b (addP bk (gR p b) ((a:Int),w))
def lenP (p:Ps) (i:Nat):Nat:=(gR p i).length
def rowP (p:Ps) (i:Nat):Nat→Nat→V:=vF (gR p i)
abbrev famP (p:Ps):Blk:=.fam p.length 2 (lenP p) (rowP p) []
def KS4:List Nat:=[2,3,4,5,6,7,8,9,10,11,12,13,14,15,16,17,18,19,20,21,22,23,24,25,26,27,28,29]
def gOwn (g:G):Own:=[(0,.vec g.ids.length 1 (vI g.ids)),(1,famP g.ports)]
abbrev gV1 (i n:Nat):V:=.agg [.vec 0 1 0 i,.vec 1 1 0 n]
theorem lend_g (g:G):VLe (V.agg [.fz g.ids.length 1 false (shiftF 0 (vI g.ids)),.fz g.ports.length 1 false fun i _=>.fz (lenP g.ports i) 2 false (rowP g.ports i)]) g.v:=by
 refine VLe.agg ⟨VLe.fz rfl (fun h=>h) (fun i j hi hj=>VLe.of_eq ?_),VLe.rfl,True.intro⟩;simp [shiftF]
theorem lend_g2 (g:G) (a b:Nat):VLe (V.agg [.fz g.ids.length 1 false (shiftF 0 (vI g.ids)),.fz g.ports.length 1 false fun i _=>.fz (lenP g.ports i) 2 false (setF (setF (rowP g.ports) a (rowP g.ports a)) b (rowP g.ports b) i)]) g.v:=by
 have e:setF (setF (rowP g.ports) a (rowP g.ports a)) b (rowP g.ports b) = rowP g.ports:=by
  funext i;simp only [setF];split
  . rename_i h;rw [h]
  . split
    . rename_i h;rw [h]
    . rfl
 rw [e];exact lend_g g
theorem gR_set (p:Ps) (a:Nat) (A:List (Int × Int)) (ha:a < p.length) (i:Nat):gR (p.set a A) i = if i = a then A else gR p i:=by
 simp only [gR,List.getD,List.getElem?_set];by_cases h:a = i
 . subst h;simp [ha]
 . have:¬ i = a:=fun e=>h e.symm;simp [h,this]
theorem getD_snocF (l:List (Int × Int)) (x:Int × Int) (i:Nat):gF (l ++ [x]) i = if i < l.length then gF l i else if i = l.length then x else (0,0):=by
 by_cases h:i < l.length
 . simp only [gF,List.getD,List.getElem?_append_left h,if_pos h]
 . rw [if_neg h];by_cases h2:i = l.length
   . subst h2;simp [gF]
   . simp [gF,h2,List.getElem?_eq_none (by simp;omega:(l ++ [x]).length≤i)]
theorem vle_appF (l:List (Int × Int)) (a b:Int) (i j:Nat) (hi:i < l.length + 1) (hj:j < 2) :
 VLe (fapp (shiftF 0 (vF l)) l.length (shiftF 0 (tab [[.int .i64 a,.int .i64 b]])) i j) (vF (l ++ [(a,b)]) i j):=by
 apply VLe.of_eq;by_cases h:i < l.length
 . rw [fapp_lt h];obtain rfl | rfl:j = 0∨j = 1:=by omega
   . simp [shiftF,vF,getD_snocF,h]
   . simp [shiftF,vF,getD_snocF,h]
 . rw [fapp_ge h];have:i = l.length:=by omega
   subst this;obtain rfl | rfl:j = 0∨j = 1:=by omega
   . simp [shiftF,vF,getD_snocF,tab]
   . simp [shiftF,vF,getD_snocF,tab]
theorem vle_preF (l:List (Int × Int)) (a b:Int) (i j:Nat) (hi:i < 1 + l.length) (hj:j < 2) :
 VLe (fapp (shiftF 0 (tab [[.int .i64 a,.int .i64 b]])) 1 (shiftF 0 (vF l)) i j) (vF ((a,b) :: l) i j):=by
 apply VLe.of_eq;cases i with
 | zero =>
   rw [fapp_lt (by omega)];obtain rfl | rfl:j = 0∨j = 1:=by omega
   . simp [shiftF,vF,gF,tab]
   . simp [shiftF,vF,gF,tab]
 | succ i =>
   rw [fapp_ge (by omega)];obtain rfl | rfl:j = 0∨j = 1:=by omega
   . simp [shiftF,vF,gF]
   . simp [shiftF,vF,gF]
theorem rows2 {p:Ps} {a b:Nat} (ha:a < p.length) (hb:b < p.length) (hab:a≠b) {A B:List (Int × Int)} {fa fb:Nat→Nat→V} {la lb:Nat} (h1:A.length = la) (h2:B.length = lb)
 (h3:∀ j t,j < la→t < 2→VLe (fa j t) (vF A j t)) (h4:∀ j t,j < lb→t < 2→VLe (fb j t) (vF B j t)) (ρ:Rn) :
 BRen ρ (.fam p.length 2 (setN (setN (lenP p) a la) b lb) (setF (setF (rowP p) a fa) b fb) []) (famP ((p.set a A).set b B)):=by
 refine ⟨by simp,rfl,True.intro,fun i hi=>?_,fun i j t hi hn hj ht=>?_⟩
 . show (gR ((p.set a A).set b B) i).length = _;rw [gR_set _ b B (by simpa using hb),gR_set p a A ha];simp only [setN];split
   . exact h2
   . split
     . exact h1
     . rfl
 . simp only [setN] at hj;show VLe _ (vF (gR ((p.set a A).set b B) i) j t);rw [gR_set _ b B (by simpa using hb),gR_set p a A ha];simp only [setF];split
   . rename_i e;rw [if_pos e] at hj;exact h4 j t hj ht
   . rename_i e;rw [if_neg e] at hj;split
     . rename_i e;rw [if_pos e] at hj;exact h3 j t hj ht
     . exact VLe.rfl
set_option maxHeartbeats 8000000 in
theorem link_ok (x:Net) (g:G) (hs:g.Small) (hr:∀ v,(gR g.ports v).length≤1000) (a b:Nat) (ha:a < g.ports.length) (hb:b < g.ports.length) (w:Int) :
 CallF Tryz.prog 70 [x.v,gV1 g.ids.length g.ports.length,.int .i64 a,.int .i64 b,.int .i64 w] (gOwn g) KS4 fun v own' _=>v = .tup []∧own' = gOwn ⟨g.ids,linkP x.back g.ports a b w⟩:=by
 have hl:=linked_ok g hs a b ha;have ra:lenP g.ports a≤1000:=hr a;have rb:lenP g.ports b≤1000:=hr b;refine call_post (call_step ?_);by_cases hab:a = b
 . rw [linkP,if_pos (.inl hab)];refine fn_rule mixed Tryz.func70 rfl hc70 hr70 rfl ?_
   repeat' ((conv=>whnf);first | (refine Br.dec ?_ ?_ <;> intro _ <;> try omega))
   all_goals (conv=>whnf)
   exact ⟨_,OwnStep.refl _,postR_by (fun _=>[(0,some 0),(1,some 1)]) _ _ ⟨rfl,rfl⟩ (VRen.kf rfl) (by repeat' (first | (refine ⟨rfl,rfl,True.intro,fun i hi=>rfl,fun i j t hi hn hj ht=>VLe.rfl⟩) | exact True.intro | (refine ⟨⟨_,rfl,?_⟩,?_⟩) | (refine ⟨Nat.le_refl _,rfl,fun i j hi hj=>?_⟩) | exact VLe.rfl)) rfl⟩
 cases hk:lnk g.ports a b with
 | true =>
   rw [hk] at hl;rw [linkP,if_pos (.inr hk)];refine fn_rule mixed Tryz.func70 rfl hc70 hr70 rfl ?_
   repeat' ((conv=>whnf);first | (refine Br.tt ?_) | (refine Br.dec ?_ ?_ <;> intro _ <;> try omega) | (refine call_lend hl rfl ⟨by omega,by omega,lend_g g,VLe.rfl,VLe.rfl,True.intro⟩ ?_))
   all_goals (conv=>whnf)
   exact ⟨_,OwnStep.refl _,postR_by (fun _=>[(0,some 0),(1,some 1)]) _ _ ⟨rfl,rfl⟩ (VRen.kf rfl) (by repeat' (first | (refine ⟨rfl,rfl,True.intro,fun i hi=>rfl,fun i j t hi hn hj ht=>VLe.rfl⟩) | exact True.intro | (refine ⟨⟨_,rfl,?_⟩,?_⟩) | (refine ⟨Nat.le_refl _,rfl,fun i j hi hj=>?_⟩) | exact VLe.rfl)) rfl⟩
 | false =>
   rw [hk] at hl;rw [linkP,if_neg (fun h=>h.elim hab (fun h=>by rw [hk] at h;cases h))];refine call_open 28 1 a rfl rfl ha rfl ?_;refine call_open 29 1 b rfl rfl hb (look_there hab) ?_;show CallF Tryz.prog _ _ [(29,.vec (lenP g.ports b) 2 (rowP g.ports b)),(28,.vec (lenP g.ports a) 2 (rowP g.ports a)),(0,.vec g.ids.length 1 (vI g.ids)),(1,.fam g.ports.length 2 (lenP g.ports) (rowP g.ports) [(b,29),(a,28)])] [2,3,4,5,6,7,8,9,10,11,12,13,14,15,16,17,18,19,20,21,22,23,24,25,26,27] _;refine fn_rule mixed Tryz.func70 rfl hc70 hr70 rfl ?_;obtain ⟨xn,xl,xw,xi,xa,xb⟩:=x;cases xb
   . repeat' ((conv=>whnf);first | (refine Br.ff ?_) | (refine Br.dec ?_ ?_ <;> intro _ <;> try omega) | (refine Br.nbeq ?_ ?_ <;> intro _ <;> try omega) | (refine Ix.nat (by omega) ?_) | (refine Len.mk (by omega) ?_) | (refine Ltn.mk (by omega) ?_) | (refine call_lend hl rfl ⟨by omega,by omega,Nat.le_refl _,Nat.le_refl _,lend_g2 g a b,VLe.rfl,VLe.rfl,True.intro⟩ ?_) | (refine Opn.hd (by omega) ?_) | (refine Opn.tl (by omega) (Opn.hd (by omega) ?_)) | (refine And.intro rfl ?_) | (refine And.intro (Ltn.mk (by omega) (Opn.hd (by omega) rfl)) ?_) | (refine OpnSet.hd (by omega) ?_) | (refine OpnSet.tl (by omega) (OpnSet.hd (by omega) ?_)))
     all_goals (conv=>whnf)
     all_goals exact ⟨_,close2 hab ha hb rfl rfl rfl rfl (by first | exact Nat.le_refl _ | simp [setN,hab]) (by first | exact Nat.le_refl _ | simp [setN]),postR_by (fun _=>[(0,some 0),(1,some 1)]) _ _ ⟨rfl,rfl⟩ (VRen.kf rfl) ⟨⟨_,rfl,Nat.le_refl _,rfl,fun _ _ _ _=>VLe.rfl⟩,⟨_,rfl,rows2 ha hb hab (by first | (simp;done) | simp [addP,lenP]) (by first | (simp;done) | simp [lenP]) (fun j t hj ht=>vle_appF _ _ _ _ _ hj ht) (fun j t hj ht=>vle_appF _ _ _ _ _ hj ht) _⟩,True.intro⟩ rfl⟩
   . repeat' ((conv=>whnf);first | (refine Br.tt ?_) | (refine Br.ff ?_) | (refine Br.dec ?_ ?_ <;> intro _ <;> try omega) | (refine Ix.nat (by omega) ?_) | (refine Len.mk (by omega) ?_) | (refine Ltn.mk (by omega) ?_) | (refine call_lend hl rfl ⟨by omega,by omega,Nat.le_refl _,Nat.le_refl _,lend_g2 g a b,VLe.rfl,VLe.rfl,True.intro⟩ ?_) | (refine Opn.hdl (by omega) (show setN _ _ _ _ = lenP g.ports b from if_neg (by omega)) ?_) | (refine Opn.tl (by omega) (Opn.hd (by omega) ?_)) | (refine And.intro rfl ?_) | (refine OpnSet.hd (by omega) ?_) | (refine OpnSet.tl (by omega) (OpnSet.hd (by omega) ?_)))
     all_goals (conv=>whnf)
     all_goals exact ⟨_,close2 hab ha hb rfl rfl rfl rfl (by first | exact Nat.le_refl _ | simp [setN,hab]) (by first | exact Nat.le_refl _ | simp [setN]),postR_by (fun _=>[(0,some 0),(1,some 1)]) _ _ ⟨rfl,rfl⟩ (VRen.kf rfl) ⟨⟨_,rfl,Nat.le_refl _,rfl,fun _ _ _ _=>VLe.rfl⟩,⟨_,rfl,rows2 ha hb hab (by first | (simp;omega) | (simp [addP];omega) | (simp [addP,lenP];omega)) (by first | (simp;omega) | (simp [lenP];omega)) (fun j t hj ht=>vle_preF _ _ _ _ _ hj ht) (fun j t hj ht=>vle_preF _ _ _ _ _ hj ht) _⟩,True.intro⟩ rfl⟩
theorem len_le:∀ {l m:List Int},l.Nodup→(∀ a∈l,a∈m)→l.length≤m.length
 | [],m,_,_=>Nat.zero_le _
 | a :: l,m,hn,hs=>by
   rw [List.nodup_cons] at hn;have ham:=hs a (by simp);have h1:=len_le (l:=l) (m:=m.erase a) hn.2 (fun b hb=>(List.mem_erase_of_ne (fun e=>hn.1 (by rw [← e];exact hb))).2 (hs b (by simp [hb])));have h2:=List.length_erase_of_mem ham;have h3:=List.length_pos_of_mem ham;simp only [List.length_cons];omega
def freeF (l:List Int):Nat→Int→Int
 | 0,i=>i
 | f + 1,i=>if i∈l then freeF l f ((i + 1) % 256) else i
def tryI (i:Int) (k:Nat):Int:=(i + k) % 256
theorem tryI_next {i:Int} {k:Nat}:(tryI i k + 1) % 256 = tryI i (k + 1):=by rw [tryI,tryI];omega
theorem free_ends {l:List Int} (hl:l.length < 256) (i:Int):¬ ∀ j,j < 256→tryI i j∈l:=by
 intro h;have h1:((List.range 256).map (tryI i)).Nodup:=by
  rw [List.nodup_iff_pairwise_ne,List.pairwise_map];refine List.Pairwise.imp_of_mem ?_ List.nodup_range;intro a b ha hb hne e;rw [List.mem_range] at ha hb;rw [tryI,tryI] at e;omega
 have h2:=len_le h1 (fun a ha=>by
  obtain ⟨j,hj,rfl⟩:=List.mem_map.1 ha;exact h j (List.mem_range.1 hj))
 simp at h2;omega
def idsF (x:List Int):Nat→List Int
 | 0=>[]
 | v + 1=>idsF x v ++ [freeF (idsF x v) 256 (within (gI x v) 256)]
theorem idsF_len (x:List Int):∀ v,(idsF x v).length = v
 | 0=>rfl
 | v + 1=>by rw [idsF,List.length_append,idsF_len x v];rfl
theorem within_range (a:Int) {b:Int} (hb:1≤b):0≤within a b∧within a b < b:=by
 have h1:=Int.tmod_lt_of_pos a (show (0:Int) < b by omega);have h2:=Int.tmod_lt_of_pos (-a) (show (0:Int) < b by omega);rw [Int.neg_tmod] at h2;rw [within,if_neg (by omega)];split <;> omega
theorem try_zero {i:Int} (h0:0≤i) (h1:i≤255):tryI i 0 = i:=by rw [tryI];omega
def ownN (x:Net) (n:Nat):Own:=[(0,.vec n 1 (vI (idsF x.ids n))),(1,.vec n 1 fun _ _=>.nilslice)]
def Net.n1 (x:Net):Int:=IntKind.i64.wrap (x.n - 1)
def Net.size (x:Net) (most:Int):Nat:=(1 + within x.n1 most).toNat
theorem getD_snocI (l:List Int) (a:Int) (i:Nat):gI (l ++ [a]) i = if i < l.length then gI l i else if i = l.length then a else 0:=by
 by_cases h:i < l.length
 . simp only [gI,List.getD,List.getElem?_append_left h,if_pos h]
 . rw [if_neg h];by_cases h2:i = l.length
   . subst h2;simp [gI]
   . simp [gI,h2,List.getElem?_eq_none (by simp;omega:(l ++ [a]).length≤i)]
theorem vle_appI (l:List Int) (a:Int) (n:Nat) (hn:l.length = n) (i j:Nat) (hi:i < n + 1) (hj:j < 1) :
 VLe (fapp (shiftF 0 (vI l)) n (shiftF 0 (tab [[.int .i64 a]])) i j) (vI (l ++ [a]) i j):=by
 apply VLe.of_eq;subst hn;by_cases h:i < l.length
 . rw [fapp_lt h];simp only [shiftF,vI,getD_snocI,if_pos h]
 . rw [fapp_ge h];have:i = l.length:=by omega
   subst this;obtain rfl:j = 0:=by omega
   simp [shiftF,vI,getD_snocI,tab]
set_option maxHeartbeats 8000000 in
theorem nodes_ok (x:Net) (hx:x.Small) (most:Int) (h1:1≤most) (h2:most≤24) :
 CallF Tryz.prog 72 [x.v,.int .i64 most] [] KS fun v own' _=>v = gV1 (x.size most) (x.size most)∧own' = ownN x (x.size most):=by
 have hw:=within_ok x.n1 most (by omega);have hwr:=within_range x.n1 h1;have hn:1 + within x.n1 most = (x.size most:Nat):=by rw [Net.size];omega
 have hsz:1≤x.size most∧x.size most≤24:=by omega
 have hids:=hx.ids;generalize x.size most = n at *;refine call_post ?_;refine fn_rule mixed Tryz.func72 rfl hc72 hr72 rfl ?_
 repeat' ((conv=>whnf);first | (refine Ar.mk x.n1 rfl ?_) | (refine Ar.i64 (by omega) (by omega) ?_;rw [hn]) | (refine Bd.nat (by omega) ?_) | (refine Len.mk (by omega) ?_) | (refine MkS.vec ?_) | (refine hw.go ?_))
 all_goals (conv=>whnf)
 refine loop_u mixed [2,4,5,6] [4] [5,6,7,8,9,10,11,12,13,14,15,16,17,18,19,20,21,22,23,24,25,26,27,28,29] [4,3,2,1,0] (fun v:Nat=>[(7,.int .i64 v)]) (fun own v=>(4,.vec v 1 (vI (idsF x.ids v))) :: updO own 3 (.cells [.vec 4 1 0 v,.vec 2 1 0 n])) (fun m v=>m = n - v∧v≤n) n 0 ⟨rfl,by omega⟩ rfl (fun _=>rfl) ?_ ?_
 . exact weak_b (fun _ _=>[(0,some 0),(1,some 1),(2,some 2),(3,some 3),(4,none)])
 rintro m v ⟨hm,hv⟩;have hat:=at_ok x.ids hids v;have hw2:=within_ok (gI x.ids v) 256 (by omega);have hr2:=within_range (gI x.ids v) (b:=256) (by omega);have hil:=idsF_len x.ids v;have hsn:idsF x.ids (v + 1) = idsF x.ids v ++ [freeF (idsF x.ids v) 256 (within (gI x.ids v) 256)]:=rfl;have htz:=try_zero hr2.1 (by omega);generalize within (gI x.ids v) 256 = id0 at *;generalize hL:idsF x.ids v = L at *
 repeat' ((conv=>whnf);first | (refine Br.dec ?_ ?_ <;> intro _ <;> try omega) | (refine hat.go ?_) | (refine hw2.go ?_))
 all_goals (conv=>whnf)
 . refine loop_r mixed [2,4,5,6,7] (fun p:Nat × Nat=>[(8,.int .i64 (tryI id0 p.1)),(9,.int .i64 p.2)]) (fun m p=>m = (256 - p.1) * 25 + (v - p.2)∧p.1≤256∧p.2≤v∧(∀ j,j < p.1→tryI id0 j∈L)∧(∀ j,j < p.2→gI L j≠tryI id0 p.1)∧freeF L (256 - p.1) (tryI id0 p.1) = freeF L 256 id0) _ (0,0) ⟨rfl,by omega,by omega,fun j hj=>(by omega),fun j hj=>(by omega),(by show freeF L 256 (tryI id0 0) = _;rw [htz])⟩ ?_ ?_
   . refine weak_by (fun _ _=>[(0,some 0),(1,some 1),(2,some 2),(3,some 3),(4,some 4)]) ?_ ?_ rfl
     . repeat' (first | exact VRen.int htz.symm | exact True.intro | (refine ⟨⟨_,rfl,?_⟩,?_⟩) | exact VRen.kf rfl | exact VRen.loc rfl)
     . repeat' (first | exact True.intro | (refine ⟨⟨_,rfl,?_⟩,?_⟩) | exact VRen.kf rfl | exact VRen.vec rfl rfl rfl | (refine ⟨Nat.le_refl _,rfl,fun i j hi hj=>?_⟩) | exact VLe.rfl | (refine And.intro ?_ ?_))
   rintro m ⟨k,u⟩ ⟨hm2,hk,hu,hall,hne,hfr⟩;simp only at hm2 hk hu hall hne hfr;have htr:0≤tryI id0 k∧tryI id0 k≤255:=by rw [tryI];omega
   have htn:(tryI id0 k + 1).tmod 256 = tryI id0 (k + 1):=by rw [Int.tmod_eq_emod_of_nonneg (by omega),tryI_next]
   generalize hT:tryI id0 k = T at *
   repeat' ((conv=>whnf);first | (refine Br.dec ?_ ?_ <;> intro _ <;> try omega) | (refine Br.nbeq ?_ ?_ <;> intro _ <;> try omega) | (refine Ar.i64 (by omega) (by omega) ?_) | (refine Sv.mk _ rfl ?_) | (refine Nz.mk (by omega) ?_) | (refine Ix.nat (by omega) ?_) | (refine Len.mk (by omega) ?_) | (refine Ltn.mk (by omega) ?_))
   all_goals (conv=>whnf)
   . rename_i h3 h4;have hin:T∈L:=by rw [← h4];exact gI_mem (by omega)
     have hk2:k < 256:=by
      rcases Nat.lt_or_ge k 256 with h | h
      . exact h
      . exact (free_ends (l:=L) (by omega) id0 (fun j hj=>hall j (by omega))).elim
     refine ⟨_,(k + 1,0),?_,⟨rfl,by omega,by omega,fun j hj=>?_,fun j hj=>(by omega),?_⟩,?_⟩
     . simp only;omega
     . simp only at hj;by_cases e:j = k
       . subst e;rw [hT];exact hin
       . exact hall j (by omega)
     . simp only;rw [← hfr,show 256 - k = (256 - (k + 1)) + 1 by omega,freeF,if_pos hin,← hT,tryI_next]
     . refine weak_by (fun _ _=>[(0,some 0),(1,some 1),(2,some 2),(3,some 3),(4,some 4)]) ?_ ?_ rfl
       . repeat' (first | exact VRen.int htn | exact True.intro | (refine ⟨⟨_,rfl,?_⟩,?_⟩) | exact VRen.kf rfl | exact VRen.loc rfl)
       . repeat' (first | exact True.intro | (refine ⟨⟨_,rfl,?_⟩,?_⟩) | exact VRen.kf rfl | exact VRen.vec rfl rfl rfl | (refine ⟨Nat.le_refl _,rfl,fun i j hi hj=>?_⟩) | exact VLe.rfl | (refine And.intro ?_ ?_))
   . rename_i h3 h4;refine ⟨_,(k,u + 1),?_,⟨rfl,hk,by omega,hall,fun j hj=>?_,by rw [hT];exact hfr⟩,?_⟩
     . simp only;omega
     . simp only at hj ⊢;rw [hT];by_cases e:j = u
       . subst e;simpa using h4
       . exact hne j (by omega)
     . refine weak_by (fun _ _=>[(0,some 0),(1,some 1),(2,some 2),(3,some 3),(4,some 4)]) ?_ ?_ rfl
       . repeat' (first | exact VRen.int hT.symm | exact True.intro | (refine ⟨⟨_,rfl,?_⟩,?_⟩) | exact VRen.kf rfl | exact VRen.loc rfl)
       . repeat' (first | exact True.intro | (refine ⟨⟨_,rfl,?_⟩,?_⟩) | exact VRen.kf rfl | exact VRen.vec rfl rfl rfl | (refine ⟨Nat.le_refl _,rfl,fun i j hi hj=>?_⟩) | exact VLe.rfl | (refine And.intro ?_ ?_))
   . have hno:T ∉ L:=fun h=>by
      obtain ⟨j,j1,j2⟩:=gI_get h;exact hne j (by omega) j2
     have hfin:freeF L 256 id0 = T:=by
      rw [← hfr];cases h:256 - k with
      | zero=>rfl
      | succ f=>rw [freeF,if_neg hno]
     rw [hfin] at hsn
     repeat' ((conv=>whnf);first | fail)
     all_goals (conv=>whnf)
     all_goals
      refine ⟨n - (v + 1),v + 1,by omega,⟨rfl,by omega⟩,?_⟩;simp only [hsn];refine weak_by (fun env own=>[(0,some 0),(1,some 1),(2,some 2),(3,some 3),(4,ckeyo own 3 0)]) ?_ ?_ rfl
      . repeat' (first | exact True.intro | (refine ⟨⟨_,rfl,?_⟩,?_⟩) | exact VRen.kf rfl | exact VRen.loc rfl)
      . repeat' (first | (refine ⟨Nat.le_refl _,rfl,fun i j hi hj=>?_⟩) | exact vle_appI _ _ _ hil _ _ hi hj | exact True.intro | (refine ⟨⟨_,rfl,?_⟩,?_⟩) | exact VRen.kf rfl | exact VRen.vec rfl rfl rfl | exact VLe.rfl | (refine And.intro ?_ ?_))
 . have e:v = n:=by omega
   subst e;exact postR_byV (fun v o=>[(0,vkey v 0),(1,vkey v 1)]) _ _ ⟨rfl,rfl⟩ (VRen.agg ⟨VRen.vec rfl rfl rfl,VRen.vec rfl rfl rfl,True.intro⟩) ⟨⟨_,rfl,Nat.le_refl _,rfl,fun _ _ _ _=>VLe.of_eq (by rw [hL])⟩,⟨_,rfl,Nat.le_refl _,rfl,fun i j hi hj=>VLe.of_eq (by obtain rfl:j = 0:=(by omega);rfl)⟩,True.intro⟩ rfl
theorem mem_gR {p:Ps} {r:List (Int × Int)} (h:r∈p):∃ u,gR p u = r:=by
 obtain ⟨i,hi,e⟩:=List.mem_iff_getElem.1 h;exact ⟨i,by simp [gR,List.getD,hi,e]⟩
theorem small_of {g:G} (h1:g.ids.length≤1000) (h2:g.ports.length≤1000) (h3:∀ u,(gR g.ports u).length≤1000):g.Small :=
 ⟨by omega,by omega,fun r hr=>by obtain ⟨u,rfl⟩:=mem_gR hr;have:=h3 u;omega⟩
theorem linkP_len (bk:Bool) (p:Ps) (a b:Nat) (w:Int):(linkP bk p a b w).length = p.length:=by
 rw [linkP];split <;> simp
theorem linkP_row (bk:Bool) (p:Ps) {a b:Nat} (w:Int) (ha:a < p.length) (hb:b < p.length) (u:Nat):(gR (linkP bk p a b w) u).length≤(gR p u).length + 1:=by
 rw [linkP];split
 . omega
 . rename_i h;have hab:¬ a = b:=fun e=>h (.inl e);have hl:∀ r l,(addP bk r l).length = r.length + 1:=fun r l=>by rw [addP];split <;> simp
   rw [gR_set _ b _ (by simpa using hb),gR_set p a _ ha];split
   . rename_i e;subst e;rw [hl];omega
   . split
     . rename_i e;subst e;rw [hl];omega
     . omega
def wgt (x:Net) (i:Nat):Int:=1 + within (gI x.weights i) 15
def treeP (x:Net) (n:Nat):Nat→Ps
 | 0=>List.replicate n []
 | k + 1=>linkP x.back (treeP x n k) (within (gI x.links k) ((k:Int) + 1)).toNat (k + 1) (wgt x k)
theorem treeP_len (x:Net) (n:Nat):∀ k,(treeP x n k).length = n
 | 0=>by simp [treeP]
 | k + 1=>by rw [treeP,linkP_len,treeP_len x n k]
theorem treeP_to (x:Net) (k:Nat):(within (gI x.links k) ((k:Int) + 1)).toNat < k + 1:=by
 have:=within_range (gI x.links k) (b:=(k:Int) + 1) (by omega);omega
theorem rep_row (n u:Nat):gR (List.replicate n []) u = []:=by
 simp only [gR,List.getD,List.getElem?_replicate];split <;> rfl
theorem treeP_row (x:Net) (n:Nat):∀ k,k < n→∀ u,(gR (treeP x n k) u).length≤k
 | 0,_,u=>by rw [treeP,rep_row];simp
 | k + 1,hk,u=>by
   have h1:=treeP_to x k;have h2:=linkP_row x.back (treeP x n k) (wgt x k) (a:=(within (gI x.links k) ((k:Int) + 1)).toNat) (b:=k + 1) (by rw [treeP_len];omega) (by rw [treeP_len];exact hk) u;have h3:=treeP_row x n k (by omega) u;rw [treeP];omega
abbrev netOwn (I:List Int) (p:Ps):Own:=gOwn ⟨I,p⟩
theorem vec_fam (ρ:Rn) (n:Nat):BRen ρ (.vec n 1 fun _ _=>.nilslice) (famP (List.replicate n [])):=⟨by simp,rfl,rfl,fun i hi=>⟨rfl,by rw [lenP,rep_row];rfl⟩⟩
theorem fam_fam (ρ:Rn) (p:Ps):BRen ρ (famP p) (famP p):=⟨rfl,rfl,True.intro,fun i hi=>rfl,fun i j t hi hn hj ht=>VLe.rfl⟩
set_option maxHeartbeats 8000000 in
theorem tree_ok (x:Net) (hx:x.Small) (most:Int) (h1:1≤most) (h2:most≤24) :
 CallF Tryz.prog 38 [x.v,.int .i64 most] [] KS fun v own' _=>v = gV1 (x.size most) (x.size most)∧own' = netOwn (idsF x.ids (x.size most)) (treeP x (x.size most) (x.size most - 1)):=by
 have hn:=nodes_ok x hx most h1 h2;have hsz:1≤x.size most∧x.size most≤24:=by
  have:=within_range x.n1 h1;rw [Net.size];omega
 have hll:=hx.links;have hwl:=hx.weights;generalize x.size most = n at *;have hil:=idsF_len x.ids n;refine call_post ?_;refine fn_rule mixed Tryz.func38 rfl hc38 hr38 rfl ?_
 repeat' ((conv=>whnf);first | (refine call_by [] [0,1] (hn.mono ?_) ⟨VRen.kf rfl,VRen.kf rfl,True.intro⟩ True.intro rfl;rintro _ _ _ ⟨rfl,rfl⟩) | (refine Chk.mk rfl ?_))
 all_goals (conv=>whnf)
 refine loop_u mixed [2,4,5] [3] [5,6,7,8,9,10,11,12,13,14,15,16,17,18,19,20,21,22,23,24,25,26,27,28,29] [4,2,3,1,0] (fun k:Nat=>[(6,.int .i64 ((k:Int) + 1))]) (fun own k=>updO own 3 (famP (treeP x n k))) (fun m k=>m = n - 1 - k∧k≤n - 1) (n - 1) 0 ⟨rfl,by omega⟩ rfl (fun _=>rfl) ?_ ?_
 . refine weak_by (fun _ _=>[(0,some 0),(1,some 1),(2,some 2),(3,some 3),(4,some 4)]) ?_ ?_ rfl
   . repeat' (first | exact True.intro | (refine ⟨⟨_,rfl,?_⟩,?_⟩) | exact VRen.kf rfl | exact VRen.loc rfl)
   . repeat' (first | exact vec_fam _ _ | exact True.intro | (refine ⟨⟨_,rfl,?_⟩,?_⟩) | exact VRen.kf rfl | exact VRen.vec rfl rfl rfl | (refine ⟨Nat.le_refl _,rfl,fun i j hi hj=>?_⟩) | exact VLe.rfl | (refine And.intro ?_ ?_))
 rintro m k ⟨hm,hk⟩;have hln:=treeP_len x n k;by_cases hkn:k < n - 1
 . have ha1:=at_ok x.links hll k;have ha2:=at_ok x.weights hwl k;have hw1:=within_ok (gI x.links k) ((k:Int) + 1) (by omega);have hw2:=within_ok (gI x.weights k) 15 (by omega);have hr1:=within_range (gI x.links k) (b:=(k:Int) + 1) (by omega);have hr2:=within_range (gI x.weights k) (b:=15) (by omega);have hrow:=treeP_row x n k (by omega);have hl:=link_ok x ⟨idsF x.ids n,treeP x n k⟩ (small_of (by show (idsF x.ids n).length≤_;omega) (by show (treeP x n k).length≤_;omega) (fun u=>by have:=hrow u;show (gR (treeP x n k) u).length≤_;omega)) (fun u=>by have:=hrow u;show (gR (treeP x n k) u).length≤_;omega) (within (gI x.links k) ((k:Int) + 1)).toNat (k + 1) (by show _ < (treeP x n k).length;omega) (by show _ < (treeP x n k).length;omega) (wgt x k);have hnx:linkP x.back (treeP x n k) (within (gI x.links k) ((k:Int) + 1)).toNat (k + 1) (wgt x k) = treeP x n (k + 1):=rfl;have hwg:wgt x k = 1 + within (gI x.weights k) 15:=rfl;simp only [hnx,hil,hln] at hl;generalize within (gI x.links k) ((k:Int) + 1) = a at *;generalize within (gI x.weights k) 15 = w at *
   repeat' ((conv=>whnf);first | (refine Ar.i64 (by omega) (by omega) ?_;rw [show (k:Int) + 1 - 1 = (k:Int) by omega]) | (refine Br.dec ?_ ?_ <;> intro _ <;> try omega) | (refine Ar.i64 (by omega) (by omega) ?_) | (refine ha1.go ?_) | (refine ha2.go ?_) | (refine hw1.go ?_) | (refine hw2.go ?_) | (refine And.intro rfl ?_) | (refine call_by [(0,some 2),(1,some 3)] [] (hl.mono ?_) ⟨VRen.kf rfl,VRen.agg ⟨VRen.vec rfl rfl rfl,VRen.vec rfl rfl rfl,True.intro⟩,VRen.int (by omega),VRen.int (by omega),VRen.int (by omega),True.intro⟩ ⟨⟨_,rfl,Nat.le_of_eq hil,rfl,fun _ _ _ _=>VLe.rfl⟩,⟨_,rfl,fam_fam _ _⟩,True.intro⟩ rfl;rintro _ _ _ ⟨rfl,rfl⟩) | (refine Chk.mk rfl ?_))
   all_goals (conv=>whnf)
   all_goals
    refine ⟨n - 1 - (k + 1),k + 1,by omega,⟨rfl,by omega⟩,?_⟩;refine weak_by (fun _ _=>[(0,some 0),(1,some 1),(2,some 2),(3,some 3),(4,some 4)]) ?_ ?_ rfl
    . repeat' (first | exact True.intro | (refine ⟨⟨_,rfl,?_⟩,?_⟩) | exact VRen.kf rfl | exact VRen.loc rfl)
    . repeat' (first | exact fam_fam _ _ | exact ⟨Nat.le_of_eq hil.symm,rfl,fun _ _ _ _=>VLe.rfl⟩ | exact True.intro | (refine ⟨⟨_,rfl,?_⟩,?_⟩) | exact VRen.kf rfl | exact VRen.vec rfl rfl rfl | (refine And.intro ?_ ?_))
 . have e:k = n - 1:=by omega
   subst e
   repeat' ((conv=>whnf);first | (refine Br.dec ?_ ?_ <;> intro _ <;> try omega))
   all_goals (conv=>whnf)
   exact postR_byV (fun v o=>[(0,vkey v 0),(1,vkey v 1)]) _ _ ⟨rfl,rfl⟩ (VRen.agg ⟨VRen.vec rfl rfl rfl,VRen.vec rfl rfl rfl,True.intro⟩) ⟨⟨_,rfl,Nat.le_of_eq hil,rfl,fun _ _ _ _=>VLe.rfl⟩,⟨_,rfl,fam_fam _ _⟩,True.intro⟩ rfl
def moreP (x:Net) (n:Nat) (p:Ps):Nat→Ps
 | 0=>p
 | k + 1=>linkP x.back (moreP x n p k) (within (gI x.links (n + 2 * k)) n).toNat (within (gI x.links (n + 2 * k + 1)) n).toNat (wgt x (n + 2 * k))
def moreN (x:Net) (n:Nat):Nat:=min ((x.links.length - n) / 2) ((61 - n) / 2)
theorem moreP_len (x:Net) (n:Nat) (p:Ps):∀ k,(moreP x n p k).length = p.length
 | 0=>rfl
 | k + 1=>by rw [moreP,linkP_len,moreP_len x n p k]
theorem within_lt {a:Int} {n:Nat} (hn:1≤n):(within a n).toNat < n:=by
 have:=within_range a (b:=(n:Int)) (by omega);omega
theorem moreP_row (x:Net) (n:Nat) (p:Ps) (hn:1≤n) (hp:p.length = n):∀ k u,(gR (moreP x n p k) u).length≤(gR p u).length + k
 | 0,u=>by rw [moreP];omega
 | k + 1,u=>by
   have h2:=linkP_row x.back (moreP x n p k) (wgt x (n + 2 * k)) (a:=(within (gI x.links (n + 2 * k)) n).toNat) (b:=(within (gI x.links (n + 2 * k + 1)) n).toNat) (by rw [moreP_len,hp];exact within_lt hn) (by rw [moreP_len,hp];exact within_lt hn) u;have h3:=moreP_row x n p hn hp k u;rw [moreP];omega
set_option maxHeartbeats 8000000 in
theorem more_ok (x:Net) (hx:x.Small) (I:List Int) (p:Ps) (n:Nat) (hn:1≤n) (hn2:n≤24) (hI:I.length = n) (hp:p.length = n) (hr:∀ u,(gR p u).length≤100) :
 CallF Tryz.prog 37 [x.v,gV1 n n] (netOwn I p) KS4 fun v own' _=>v = gV1 n n∧own' = netOwn I (moreP x n p (moreN x n)):=by
 have hll:=hx.links;have hwl:=hx.weights;have hN:moreN x n≤31∧∀ k,k < moreN x n↔(n + 2 * k + 1 < x.links.length∧n + 2 * k < 60):=by
  rw [moreN];exact ⟨by omega,fun k=>by omega⟩
 refine call_post ?_;refine fn_rule mixed Tryz.func37 rfl hc37 hr37 rfl ?_
 repeat' ((conv=>whnf);first | fail)
 all_goals (conv=>whnf)
 refine loop_u mixed [2,3,4,5] [] [5,6,7,8,9,10,11,12,13,14,15,16,17,18,19,20,21,22,23,24,25,26,27,28,29] [4,3,2,0,1] (fun k:Nat=>[(6,.int .i64 ((n:Int) + 2 * k))]) (fun own k=>updO own 1 (famP (moreP x n p k))) (fun m k=>m = moreN x n - k∧k≤moreN x n) (moreN x n) 0 ⟨rfl,by omega⟩ rfl (fun _=>rfl) ?_ ?_
 . refine weak_by (fun _ _=>[(0,some 0),(1,some 1),(2,some 2),(3,some 3),(4,some 4)]) ?_ ?_ rfl
   . repeat' (first | exact True.intro | (refine ⟨⟨_,rfl,?_⟩,?_⟩) | exact VRen.kf rfl | exact VRen.loc rfl)
   . repeat' (first | exact fam_fam _ _ | exact True.intro | (refine ⟨⟨_,rfl,?_⟩,?_⟩) | exact VRen.kf rfl | exact VRen.vec rfl rfl rfl | (refine ⟨Nat.le_refl _,rfl,fun i j hi hj=>?_⟩) | exact VLe.rfl | (refine And.intro ?_ ?_))
 rintro m k ⟨hm,hk⟩;have hln:=(moreP_len x n p k).trans hp;have hk2:=hN.2 k;by_cases hkn:k < moreN x n
 . obtain ⟨c1,c2⟩:=hk2.1 hkn;have ha2:=at_ok x.weights hwl (n + 2 * k);have hw1:=within_ok (gI x.links (n + 2 * k)) n (by omega);have hw3:=within_ok (gI x.links (n + 2 * k + 1)) n (by omega);have hw2:=within_ok (gI x.weights (n + 2 * k)) 15 (by omega);have hr1:=within_range (gI x.links (n + 2 * k)) (b:=n) (by omega);have hr3:=within_range (gI x.links (n + 2 * k + 1)) (b:=n) (by omega);have hr2:=within_range (gI x.weights (n + 2 * k)) (b:=15) (by omega);have hrow:∀ u,(gR (moreP x n p k) u).length≤1000:=fun u=>by have:=moreP_row x n p hn hp k u;have:=hr u;omega
   have hl:=link_ok x ⟨I,moreP x n p k⟩ (small_of (by show I.length≤_;omega) (by show (moreP x n p k).length≤_;omega) hrow) hrow (within (gI x.links (n + 2 * k)) n).toNat (within (gI x.links (n + 2 * k + 1)) n).toNat (by show _ < (moreP x n p k).length;omega) (by show _ < (moreP x n p k).length;omega) (wgt x (n + 2 * k));have hnx:linkP x.back (moreP x n p k) (within (gI x.links (n + 2 * k)) n).toNat (within (gI x.links (n + 2 * k + 1)) n).toNat (wgt x (n + 2 * k)) = moreP x n p (k + 1):=rfl;have hwg:wgt x (n + 2 * k) = 1 + within (gI x.weights (n + 2 * k)) 15:=rfl;simp only [hnx,hI,hln] at hl;have e2k:((n + 2 * k:Nat):Int) = (n:Int) + 2 * k:=by omega
   rw [e2k] at ha2
   repeat' ((conv=>whnf);first | (refine Ix.mk (n + 2 * k) (by omega) (by omega) ?_;try rw [Nat.zero_add]) | (refine Ix.mk (n + 2 * k + 1) (by omega) (by omega) ?_;try rw [Nat.zero_add]) | (refine Br.dec ?_ ?_ <;> intro _ <;> try omega) | (refine Ar.i64 (by omega) (by omega) ?_) | (refine ha2.go ?_) | (refine hw1.go ?_) | (refine hw3.go ?_) | (refine hw2.go ?_) | (refine And.intro rfl ?_) | (refine call_by [(0,some 0),(1,some 1)] [] (hl.mono ?_) ⟨VRen.kf rfl,VRen.agg ⟨VRen.vec rfl rfl rfl,VRen.vec rfl rfl rfl,True.intro⟩,VRen.int (by omega),VRen.int (by omega),VRen.int (by omega),True.intro⟩ ⟨⟨_,rfl,Nat.le_of_eq (by first | rfl | exact hI | exact hI.symm),rfl,fun _ _ _ _=>VLe.rfl⟩,⟨_,rfl,fam_fam _ _⟩,True.intro⟩ rfl;rintro _ _ _ ⟨rfl,rfl⟩) | (refine Chk.mk rfl ?_))
   all_goals (conv=>whnf)
   all_goals
    refine ⟨moreN x n - (k + 1),k + 1,by omega,⟨rfl,by omega⟩,?_⟩;refine weak_by (fun _ _=>[(0,some 0),(1,some 1),(2,some 2),(3,some 3),(4,some 4)]) ?_ ?_ rfl
    . repeat' (first | exact True.intro | (refine ⟨⟨_,rfl,?_⟩,?_⟩) | exact VRen.kf rfl | exact VRen.loc rfl)
    . repeat' (first | exact fam_fam _ _ | exact ⟨Nat.le_refl _,rfl,fun _ _ _ _=>VLe.rfl⟩ | exact True.intro | (refine ⟨⟨_,rfl,?_⟩,?_⟩) | exact VRen.kf rfl | exact VRen.vec rfl rfl rfl | (refine And.intro ?_ ?_))
 . have e:k = moreN x n:=by omega
   subst e;by_cases h1:n + 2 * moreN x n + 1 < x.links.length
   all_goals
    repeat' ((conv=>whnf);first | (refine Br.dec ?_ ?_ <;> intro _ <;> try omega) | (refine Ar.i64 (by omega) (by omega) ?_))
    all_goals (conv=>whnf)
    all_goals exact postR_byV (fun v o=>[(0,vkey v 0),(1,vkey v 1)]) _ _ ⟨rfl,rfl⟩ (VRen.agg ⟨VRen.vec rfl rfl rfl,VRen.vec rfl rfl rfl,True.intro⟩) ⟨⟨_,rfl,Nat.le_refl _,rfl,fun _ _ _ _=>VLe.rfl⟩,⟨_,rfl,fam_fam _ _⟩,True.intro⟩ rfl
theorem size_ok (x:Net) {most:Int} (h1:1≤most):1≤x.size most∧(x.size most:Int)≤most:=by
 have:=within_range x.n1 h1;rw [Net.size];omega
def Net.con (x:Net) (most:Int):G:=⟨idsF x.ids (x.size most),moreP x (x.size most) (treeP x (x.size most) (x.size most - 1)) (moreN x (x.size most))⟩
def Net.any (x:Net) (most:Int):G:=if x.apart then ⟨idsF x.ids (x.size most),moreP x (x.size most) (List.replicate (x.size most) []) (moreN x (x.size most))⟩ else x.con most
theorem view_g {g:G} {n:Nat} (h1:g.ids.length = n) (h2:g.ports.length = n):VLe (V.agg [.fz n 1 false (shiftF 0 (vI g.ids)),.fz n 1 false fun i _=>.fz (lenP g.ports i) 2 false (rowP g.ports i)]) g.v:=by
 refine VLe.agg ⟨?_,?_,True.intro⟩
 . exact VLe.fz h1.symm (fun h=>h) (fun i j hi hj=>VLe.of_eq (by simp [shiftF]))
 . exact VLe.fz h2.symm (fun h=>h) (fun i j hi hj=>VLe.rfl)
theorem ret_g {g:G} {n:Nat} (h1:g.ids.length = n) (h2:g.ports.length = n):frzT (gOwn g) (gV1 n n) fun v=>VLe v g.v :=
 ⟨by rw [Nat.zero_add,h1];exact Nat.le_refl _,Nat.le_of_eq h2.symm,view_g h1 h2⟩
set_option maxHeartbeats 8000000 in
theorem connected_call (x:Net) (hx:x.Small) (most:Int) (h1:1≤most) (h2:most≤24) :
 CallF Tryz.prog 16 [x.v,.int .i64 most] [] KS fun v own' _=>v = gV1 (x.size most) (x.size most)∧own' = gOwn (x.con most):=by
 have ht:=tree_ok x hx most h1 h2;have hsz:=size_ok x h1;have hm:=more_ok x hx (idsF x.ids (x.size most)) (treeP x (x.size most) (x.size most - 1)) (x.size most) hsz.1 (by omega) (idsF_len _ _) (treeP_len _ _ _) (fun u=>by have:=treeP_row x (x.size most) (x.size most - 1) (by omega) u;omega);refine call_post ?_;refine fn_rule mixed Tryz.func16 rfl hc16 hr16 rfl ?_
 repeat' ((conv=>whnf);first | (refine call_by [] [0,1] (ht.mono ?_) ⟨VRen.kf rfl,VRen.kf rfl,True.intro⟩ True.intro rfl;rintro _ _ _ ⟨rfl,rfl⟩) | (refine call_by [(0,some 2),(1,some 3)] [] (hm.mono ?_) ⟨VRen.kf rfl,VRen.agg ⟨VRen.vec rfl rfl rfl,VRen.vec rfl rfl rfl,True.intro⟩,True.intro⟩ ⟨⟨_,rfl,Nat.le_refl _,rfl,fun _ _ _ _=>VLe.rfl⟩,⟨_,rfl,fam_fam _ _⟩,True.intro⟩ rfl;rintro _ _ _ ⟨rfl,rfl⟩) | (refine Chk.mk rfl ?_) | (refine And.intro rfl ?_))
 all_goals (conv=>whnf)
 exact postR_byV (fun v o=>[(0,vkey v 0),(1,vkey v 1)]) _ _ ⟨rfl,rfl⟩ (VRen.agg ⟨VRen.vec rfl rfl rfl,VRen.vec rfl rfl rfl,True.intro⟩) ⟨⟨_,rfl,Nat.le_refl _,rfl,fun _ _ _ _=>VLe.rfl⟩,⟨_,rfl,fam_fam _ _⟩,True.intro⟩ rfl
theorem con_len (x:Net) (most:Int):(x.con most).ids.length = x.size most∧(x.con most).ports.length = x.size most:=⟨idsF_len _ _,(moreP_len _ _ _ _).trans (treeP_len _ _ _)⟩
theorem connected_ok (x:Net) (hx:x.Small) (most:Int) (h1:1≤most) (h2:most≤24):Ret Tryz.prog 16 [x.v,.int .i64 most] (x.con most).v:=by
 refine ret_frz rfl ((connected_call x hx most h1 h2).mono ?_);rintro _ _ _ ⟨rfl,rfl⟩;exact ret_g (con_len x most).1 (con_len x most).2
end Go.Proofs.YtgajaabakpfbbaaGreat
