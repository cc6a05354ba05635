import Derived.Test.YthbiicpcbnijiaaGreatDoorEvA
import Derived.Test.YthbiicpcbnijiaaGreatDoorR2
import Derived.Test.YthbiicpcbnijiaaGreatDoorAN1
import Derived.Test.YthbiicpcbnijiaaGreatDoorBP2
import Derived.Test.YthbiicpcbnijiaaGreatDoorGR10
namespace Go.Proofs.YthbiicpcbnijiaaGreatDoor
open Go.Eng
set_option maxRecDepth 100000
set_option linter.unusedVariables false
theorem ret_args {P:Program} {f:FuncId} {args args':List V} {X:V} (hk:allB V.kf args' = true) (hl:LLe args' args) (h:Ret P f args X):Ret P f args' X:=fun own ks=>by
 constructor;intro M w σ us hlen hd hh;obtain ⟨d1,d2⟩:=hl.dens (M:=M) (w:=w) (us:=us) hlen (fun i v u hv hu=>(hd i v u hv hu).kf (allB_mem hk v (List.mem_of_getElem? hv)) Sg.none);exact (h own ks).out M w σ us d1 (fun i v u hv hu=>(d2 i v u hv hu).mono (Ext.mk (fun _ _ h=>⟨h,rfl⟩) (Nat.le_refl _)) (Sg.none_le σ)) hh
theorem ret_res {P:Program} {f:FuncId} {args:List V} {X X':V} (hk:X.kf = true) (hl:VLe X X') (h:Ret P f args X):Ret P f args X':=fun own ks=>by
 constructor;intro M w σ us hlen hd hh;refine ((h own ks).out M w σ us hlen hd hh).mono ?_;rintro e w' ⟨M',σ',v,own',ks',u,rfl,hv,hh',tr,kd,rfl,rfl,rfl⟩;exact ⟨M',σ',X',_,_,u,rfl,(hl.out _ _ _ (hv.kf hk Sg.none)).mono (Ext.mk (fun _ _ h=>⟨h,rfl⟩) (Nat.le_refl _)) (Sg.none_le σ'),hh',tr,kd,rfl,rfl,rfl⟩
def AllLt:Nat→(Nat→Prop)→Prop
 | 0,_=>True
 | n + 1,P=>P 0∧AllLt n fun i=>P (i + 1)
theorem AllLt.out:∀ {n:Nat} {P:Nat→Prop},AllLt n P→∀ i,i < n→P i
 | n + 1,P,h,0,_=>h.1
 | n + 1,P,h,i + 1,hi=>AllLt.out h.2 i (by omega)
theorem vle_fzA {n s:Nat} {f g:Nat→Nat→V} (h:AllLt n fun i=>AllLt s fun j=>VLe (f i j) (g i j)):VLe (.fz n s false f) (.fz n s false g) :=
 VLe.fz rfl (fun h=>h) fun i j hi hj=>(h.out i hi).out j hj
theorem vle_str {a b:ByteArray} (h:a = b):VLe (.str a) (.str b):=by subst h;exact .rfl
theorem pr_agg:VLe pRing.v aggC.v:=by
 repeat' (first | exact True.intro | exact VLe.rfl | exact vle_str (by kernel_rfl) | (refine VLe.agg ?_) | (refine vle_fzA ?_) | (refine And.intro ?_ ?_))
theorem agg_pr:VLe aggC.v pRing.v:=by
 repeat' (first | exact True.intro | exact VLe.rfl | exact vle_str (by kernel_rfl) | (refine VLe.agg ?_) | (refine vle_fzA ?_) | (refine And.intro ?_ ?_))
theorem ring_types:Ret Tryz.prog 81 [pRing.v] (.bool true):=by
 have h:=ev_ret mixed tb_ok ev_types;exact ret_args (args:=[aggC.v]) rfl ⟨pr_agg,True.intro⟩ (by simpa only [C.vs,C.v] using h)
def txtB:ByteArray:=match textC with | .str l c=>bytesOf l c | _=>default
theorem text_ok:Ret Tryz.prog 8 [] (.str txtB):=by
 have:=ev_ret mixed tb_ok ev_text;simpa only [C.vs,C.v,textC,txtB] using this
theorem parse_ok:Ret Tryz.prog 30 [.str txtB] (.tup [aggC.v,.int .i64 0,.int .i64 0]):=by
 have:=ev_ret mixed tb_ok ev_parse;simpa only [C.vs,C.v,textC,txtB,progC] using this
theorem parse_ok2:Ret Tryz.prog 30 [.str txtB] (.tup [pRing.v,.int .i64 0,.int .i64 0]) :=
 ret_res (X:=.tup [aggC.v,.int .i64 0,.int .i64 0]) rfl (VLe.tup ⟨agg_pr,VLe.rfl,VLe.rfl,True.intro⟩) parse_ok
theorem program_ok:Ret Tryz.prog 7 [.str txtB] pRing.v:=by
 refine ret_frz rfl ?_;refine fn_rule mixed Tryz.func7 rfl hc7 hr7 rfl ?_
 repeat' ((conv=>whnf);first | (refine parse_ok2.go ?_))
 all_goals (conv=>whnf)
 exact VLe.rfl
theorem ring_prOk:PrOk pRing where
 vlen:=by decide
 var:=fun i hi=>by
  obtain rfl:i = 0:=by have:i < 1:=hi;omega
  exact ⟨.inl rfl,by decide,by decide,by decide,by decide,by decide⟩
 rlen:=by decide
 gd:=fun i hi=>by
  rcases (show i = 0∨i = 1 by have:i < 2:=hi;omega) with rfl | rfl
  . decide
  . decide
 slen:=fun i hi=>by
  rcases (show i = 0∨i = 1 by have:i < 2:=hi;omega) with rfl | rfl
  . decide
  . decide
 set:=fun i hi j hj=>by
  rcases (show i = 0∨i = 1 by have:i < 2:=hi;omega) with rfl | rfl
  . obtain rfl:j = 0:=by have:j < 1:=hj;omega
    decide
  . obtain rfl:j = 0:=by have:j < 1:=hj;omega
    decide
 types:=ring_types
end Go.Proofs.YthbiicpcbnijiaaGreatDoor
namespace Go.Plain.Ring
abbrev Vl:=Nat→Int
abbrev Sb:=Nat→Bool
def en (n:Nat) (x:Vl) (v:Nat):Prop:=if v = 0 then x 0 = x (n - 1) else x v≠x (v - 1)
def st (n:Nat) (s:Sb) (x:Vl):Vl:=fun v=>if s v = true then (if v = 0 then (x 0 + 1) % ((n:Int) + 1) else x (v - 1)) else x v
structure Ch (n:Nat) (x:Vl) (s:Sb):Prop where
 en:∀ v,v < n→s v = true→en n x v
def Eqs (n:Nat) (x:Vl):Prop:=∀ v,v < n→x v = x 0
variable {n:Nat} {x:Vl} {s:Sb}
theorem lenI_le:∀ {l m:List Int},l.Nodup→(∀ a∈l,a∈m)→l.length≤m.length
 | [],m,_,_=>Nat.zero_le _
 | a :: l,m,hn,hs=>by
   rw [List.nodup_cons] at hn;have ham:=hs a (by simp);have h1:=lenI_le (l:=l) (m:=m.erase a) hn.2 (fun b hb=>(List.mem_erase_of_ne (fun e=>hn.1 (by rw [← e];exact hb))).2 (hs b (by simp [hb])));have h2:=List.length_erase_of_mem ham;have h3:=List.length_pos_of_mem ham;simp only [List.length_cons];omega
theorem fresh (hn:1≤n) (x:Vl) (b:Int):∃ j:Nat,1≤j∧j≤n∧∀ v,1≤v→v < n→x v≠(b + j) % ((n:Int) + 1):=by
 by_cases h:∃ j:Nat,1≤j∧j≤n∧∀ v,1≤v→v < n→x v≠(b + j) % ((n:Int) + 1)
 . exact h
 . exfalso;have hall:∀ j:Nat,1≤j→j≤n→∃ v,1≤v∧v < n∧x v = (b + j) % ((n:Int) + 1):=fun j h1 h2 =>
    Classical.byContradiction fun hc=>h ⟨j,h1,h2,fun v hv1 hv2 e=>hc ⟨v,hv1,hv2,e⟩⟩
   have hnd:((List.range n).map fun i:Nat=>(b + ((i + 1:Nat):Int)) % ((n:Int) + 1)).Nodup:=by
    rw [List.nodup_iff_pairwise_ne,List.pairwise_map];refine List.Pairwise.imp_of_mem ?_ List.nodup_range;intro p q hp hq hne e;rw [List.mem_range] at hp hq;have h1:((n:Int) + 1) ∣ ((b + ((p + 1:Nat):Int)) - (b + ((q + 1:Nat):Int))):=Int.dvd_of_emod_eq_zero (by rw [Int.sub_emod,e,Int.sub_self,Int.zero_emod]);obtain ⟨k,hk⟩:=h1;have h2:((p:Int) - q) = ((n:Int) + 1) * k:=by omega
    rcases Int.lt_trichotomy k 0 with h3 | h3 | h3
    . have:((n:Int) + 1) * k≤((n:Int) + 1) * (-1):=Int.mul_le_mul_of_nonneg_left (by omega) (by omega);omega
    . subst h3;rw [Int.mul_zero] at h2;omega
    . have:((n:Int) + 1) * 1≤((n:Int) + 1) * k:=Int.mul_le_mul_of_nonneg_left (by omega) (by omega);omega
   have:=lenI_le (m:=(List.range (n - 1)).map fun i=>x (i + 1)) hnd (fun a ha=>by
    obtain ⟨i,hi,rfl⟩:=List.mem_map.1 ha;rw [List.mem_range] at hi;obtain ⟨v,h1,h2,h3⟩:=hall (i + 1) (by omega) (by omega);exact List.mem_map.2 ⟨v - 1,List.mem_range.2 (by omega),by rw [show v - 1 + 1 = v by omega,h3]⟩)
   simp at this;omega
structure Zi (n:Nat) (b:Int) (j:Nat) (x:Vl) (z:Nat):Prop where
 le:z≤j
 val:x 0 = (b + z) % ((n:Int) + 1)
 new:z < j→∀ v,1≤v→v < n→x v≠(b + j) % ((n:Int) + 1)
 pre:z = j→∀ v,1≤v→v < n→x v = (b + j) % ((n:Int) + 1)→x (v - 1) = (b + j) % ((n:Int) + 1)
theorem mod_ne {b:Int} {z j n:Nat} (h:z < j) (hj:j≤n):(b + z) % ((n:Int) + 1)≠(b + j) % ((n:Int) + 1):=by
 intro e;have h1:((b + z) - (b + j)) % ((n:Int) + 1) = 0:=by rw [Int.sub_emod,e,Int.sub_self,Int.zero_emod]
 obtain ⟨k,hk⟩:=Int.dvd_of_emod_eq_zero h1;rcases Int.lt_trichotomy k 0 with h3 | h3 | h3
 . have:((n:Int) + 1) * k≤((n:Int) + 1) * (-1):=Int.mul_le_mul_of_nonneg_left (by omega) (by omega);omega
 . subst h3;rw [Int.mul_zero] at hk;omega
 . have:((n:Int) + 1) * 1≤((n:Int) + 1) * k:=Int.mul_le_mul_of_nonneg_left (by omega) (by omega);omega
theorem Zi.step {b:Int} {j z:Nat} (hn:1≤n) (hj:j≤n) (h:Zi n b j x z) (hc:Ch n x s) (hne:¬ Eqs n x):Zi n b j (st n s x) (z + if s 0 = true then 1 else 0):=by
 obtain ⟨h1,h2,h3,h4⟩:=h;cases hs:s 0 with
 | true =>
   simp only [if_true];have hen:x 0 = x (n - 1):=by have:=hc.en 0 (by omega) hs;simpa [Go.Plain.Ring.en] using this
   have hlt:z < j:=by
    rcases Nat.lt_or_ge z j with e | e
    . exact e
    . exfalso;have ez:z = j:=by omega
      apply hne;have hw:x 0 = (b + j) % ((n:Int) + 1):=by rw [h2,ez]
      have key:∀ d,d < n→x (n - 1 - d) = (b + j) % ((n:Int) + 1):=by
       intro d
       induction d with
       | zero=>intro _;rw [Nat.sub_zero,← hen,hw]
       | succ d ih =>
         intro hd;have:=h4 ez (n - 1 - d) (by omega) (by omega) (ih (by omega))
         rwa [show n - 1 - d - 1 = n - 1 - (d + 1) by omega] at this
      intro v hv;rw [hw];have:=key (n - 1 - v) (by omega)
      rwa [show n - 1 - (n - 1 - v) = v by omega] at this
   have hx0:st n s x 0 = (b + ((z + 1:Nat):Int)) % ((n:Int) + 1):=by
    simp only [st,hs,if_true];rw [h2,Int.emod_add_emod];congr 1;omega
   have hx0n:x 0≠(b + j) % ((n:Int) + 1):=by rw [h2];exact mod_ne hlt hj
   have hall:∀ v,1≤v→v < n→st n s x v≠(b + j) % ((n:Int) + 1):=fun v hv1 hv2=>by
    simp only [st];split
    . rw [if_neg (by omega)];by_cases e:v = 1
      . subst e;exact hx0n
      . exact h3 hlt (v - 1) (by omega) (by omega)
    . exact h3 hlt v hv1 hv2
   exact ⟨by omega,hx0,fun _=>hall,fun _ v hv1 hv2 e=>(hall v hv1 hv2 e).elim⟩
 | false =>
   simp only [Bool.false_eq_true,if_false,Nat.add_zero];have hx0:st n s x 0 = x 0:=by simp [st,hs]
   refine ⟨h1,by rw [hx0];exact h2,fun hlt v hv1 hv2=>?_,fun ez v hv1 hv2 e=>?_⟩
   . simp only [st];split
     . rw [if_neg (by omega)];by_cases e:v = 1
       . subst e;rw [h2];exact mod_ne hlt hj
       . exact h3 hlt (v - 1) (by omega) (by omega)
     . exact h3 hlt v hv1 hv2
   . have hw:x (v - 1) = (b + j) % ((n:Int) + 1):=by
      simp only [st] at e;split at e
      . rwa [if_neg (by omega)] at e
      . exact h4 ez v hv1 hv2 e
     simp only [st];split
     . rename_i hsv;by_cases e0:v = 1
       . subst e0;rw [hs] at hsv;cases hsv
       . rw [if_neg (by omega)];exact h4 ez (v - 1) (by omega) (by omega) hw
     . exact hw
structure Mi (n:Nat) (x:Vl) (mv:Nat→Nat):Prop where
 le:∀ v,1≤v→v < n→mv v≤mv (v - 1) + 1
 eq:∀ v,1≤v→v < n→mv v = mv (v - 1) + 1→x v = x (v - 1)
def up (s:Sb) (mv:Nat→Nat):Nat→Nat:=fun v=>mv v + if s v = true then 1 else 0
theorem Mi.step {mv:Nat→Nat} (h:Mi n x mv) (hc:Ch n x s):Mi n (st n s x) (up s mv):=by
 have key:∀ v,1≤v→v < n→up s mv v≤up s mv (v - 1) + 1∧(up s mv v = up s mv (v - 1) + 1→st n s x v = st n s x (v - 1)):=fun v hv1 hv2=>by
  have hle:=h.le v hv1 hv2;have heq:=h.eq v hv1 hv2;cases hs:s v with
  | true =>
    have hne:x v≠x (v - 1):=by have:=hc.en v hv2 hs;simpa [en,show v≠0 by omega] using this
    have hlt:mv v≤mv (v - 1):=by
     rcases Nat.lt_or_ge (mv (v - 1)) (mv v) with e | e
     . exact (hne (heq (by omega))).elim
     . exact e
    cases hs2:s (v - 1) with
    | true=>simp only [up,hs,hs2,if_true];exact ⟨by omega,fun e=>by omega⟩
    | false =>
      simp only [up,hs,hs2,if_true,Bool.false_eq_true,if_false];refine ⟨by omega,fun _=>?_⟩;simp [st,hs,hs2,show v≠0 by omega]
  | false =>
    cases hs2:s (v - 1) with
    | true=>simp only [up,hs,hs2,if_true,Bool.false_eq_true,if_false];exact ⟨by omega,fun e=>by omega⟩
    | false =>
      simp only [up,hs,hs2,Bool.false_eq_true,if_false];refine ⟨by omega,fun e=>?_⟩;simp [st,hs,hs2];exact heq (by omega)
 exact ⟨fun v a b=>(key v a b).1,fun v a b=>(key v a b).2⟩
structure Gi (n:Nat) (x:Vl) (p:Sb) (g:Nat):Prop where
 le:g≤n
 eq:∀ v,v < g→x v = x 0
 pend:1≤g→g < n→x g≠x 0→p g = true
def left (n:Nat) (x:Vl) (p s:Sb):Vl→Sb→Prop:=fun y q=>∀ v,v < n→(q v = true↔p v = true∧s v = false∧en n y v)
theorem Gi.stay {p q:Sb} {g:Nat} (h:Gi n x p g) (hc:Ch n x s) (h0:s 0 = false) (hq:left n x p s (st n s x) q):Gi n (st n s x) q g:=by
 have hx0:st n s x 0 = x 0:=by simp [st,h0]
 have heq:∀ v,v < g→st n s x v = x 0:=fun v hv=>by
  simp only [st];split
  . rename_i hs;by_cases e:v = 0
    . subst e;rw [h0] at hs;cases hs
    . rw [if_neg e];exact h.eq (v - 1) (by omega)
  . exact h.eq v hv
 refine ⟨h.le,fun v hv=>by rw [hx0];exact heq v hv,fun h1 h2 h3=>?_⟩;rw [hx0] at h3;have hng:s g = false:=by
  cases e:s g with
  | false=>rfl
  | true =>
    exfalso;apply h3;simp only [st,e,if_true];rw [if_neg (by omega)];exact h.eq (g - 1) (by omega)
 have hxg:st n s x g = x g:=by simp [st,hng]
 rw [hxg] at h3;refine (hq g h2).2 ⟨h.pend h1 h2 h3,hng,?_⟩;rw [en,if_neg (by omega),hxg,heq (g - 1) (by omega)];exact h3
theorem Gi.full {p q:Sb} {g:Nat} (h:Gi n x p g) (hc:Ch n x s) (h0:s 0 = false) (hq:left n x p s (st n s x) q) (hz:∀ v,v < n→q v = false) (hne:¬ Eqs n (st n s x)) {q':Sb} (hq':∀ v,v < n→en n (st n s x) v→q' v = true) :
 Gi n (st n s x) q' (g + 1):=by
 have hs:=h.stay hc h0 hq;have hgn:g < n:=by
  rcases Nat.lt_or_ge g n with e | e
  . exact e
  . exact (hne fun v hv=>hs.eq v (by omega)).elim
 have hg:∀ v,v < g + 1→st n s x v = st n s x 0:=fun v hv=>by
  by_cases e:v = g
  . subst e;by_cases e0:v = 0
    . rw [e0]
    . exact Classical.byContradiction fun hx=>by
       have:=hs.pend (by omega) hgn hx;rw [hz v hgn] at this;cases this
  . exact hs.eq v (by omega)
 refine ⟨by omega,hg,fun h1 h2 h3=>hq' _ h2 ?_⟩;rw [en,if_neg (by omega),Nat.add_sub_cancel,hg g (by omega)];exact h3
theorem Gi.new (hn:1≤n) {q':Sb} (hq':∀ v,v < n→en n x v→q' v = true):Gi n x q' 1:=by
 refine ⟨hn,fun v hv=>by rw [show v = 0 by omega],fun _ h2 h3=>hq' _ h2 ?_⟩;rw [en,if_neg (by omega)];exact h3
theorem Gi.none (p:Sb):Gi n x p 0:=⟨by omega,fun v hv=>by omega,fun h=>by omega⟩
structure Inv (n:Nat) (b:Int) (j:Nat) (x:Vl) (p:Sb) (z r:Nat) (mv:Nat→Nat):Prop where
 zi:Zi n b j x z
 mi:Mi n x mv
 mz:mv 0 = z
 gi:∃ g,Gi n x p g∧r + 1≤z * n + g
theorem Inv.start (hn:1≤n) {j:Nat} (hj:1≤j) (hx:0≤x 0∧x 0≤n) (hf:∀ v,1≤v→v < n→x v≠(x 0 + j) % ((n:Int) + 1)) {p:Sb} (hp:∀ v,v < n→en n x v→p v = true):Inv n (x 0) j x p 0 0 fun _=>0:=by
 refine ⟨⟨Nat.zero_le _,?_,fun _=>hf,fun e=>by omega⟩,⟨fun v _ _=>by omega,fun v _ _ e=>by omega⟩,rfl,1,Gi.new hn hp,by omega⟩;rw [Int.natCast_zero,Int.add_zero,Int.emod_eq_of_lt hx.1 (by omega)]
theorem Inv.step {b:Int} {j z r:Nat} {p q:Sb} {mv:Nat→Nat} (hn:1≤n) (hj:j≤n) (h:Inv n b j x p z r mv) (hc:Ch n x s) (hne:¬ Eqs n x) (hne':¬ Eqs n (st n s x)) (hq:left n x p s (st n s x) q) :
 ((∃ v,v < n∧q v = true)→Inv n b j (st n s x) q (z + if s 0 = true then 1 else 0) r (up s mv)) ∧
 ((∀ v,v < n→q v = false)→∀ q':Sb,(∀ v,v < n→en n (st n s x) v→q' v = true)→Inv n b j (st n s x) q' (z + if s 0 = true then 1 else 0) (r + 1) (up s mv)):=by
 obtain ⟨h1,h2,h3,g,h4,h5⟩:=h;have z1:=h1.step hn hj hc hne;have m1:=h2.step hc;have m0:up s mv 0 = z + if s 0 = true then 1 else 0:=by simp only [up,h3]
 have hg:=h4.le;refine ⟨fun _=>⟨z1,m1,m0,?_⟩,fun hz q' hq'=>⟨z1,m1,m0,?_⟩⟩
 . cases hs:s 0 with
   | true=>exact ⟨0,Gi.none q,by simp only [if_true,Nat.add_mul];omega⟩
   | false=>exact ⟨g,h4.stay hc hs hq,by simp only [Bool.false_eq_true,if_false,Nat.add_zero];exact h5⟩
 . cases hs:s 0 with
   | true=>exact ⟨1,Gi.new hn hq',by simp only [if_true,Nat.add_mul];omega⟩
   | false=>exact ⟨g + 1,h4.full hc hs hq hz hne' hq',by simp only [Bool.false_eq_true,if_false,Nat.add_zero];omega⟩
def sumN (f:Nat→Nat):Nat→Nat
 | 0=>0
 | k + 1=>sumN f k + f k
def tri:Nat→Nat
 | 0=>0
 | k + 1=>tri k + k
theorem tri_eq:∀ k,2 * tri k = k * (k - 1)
 | 0=>rfl
 | 1=>rfl
 | k + 2=>by
   have:=tri_eq (k + 1);simp only [tri] at this ⊢;have e1:(k + 2) * (k + 2 - 1) = (k + 1) * (k + 1 - 1) + 2 * (k + 1):=by
    simp only [Nat.add_sub_cancel,show k + 2 - 1 = k + 1 by omega,Nat.add_mul,Nat.mul_add];omega
   omega
theorem Inv.bounds {b:Int} {j z r:Nat} {p:Sb} {mv:Nat→Nat} (hn:1≤n) (hj:j≤n) (h:Inv n b j x p z r mv) (hne:¬ Eqs n x):mv 0≤n∧(∀ v,v < n→mv v≤n + v)∧sumN mv n≤n * n + tri n∧r + 1≤n * n + n:=by
 obtain ⟨h1,h2,h3,g,h4,h5⟩:=h;have hz:=h1.le;have hv:∀ v,v < n→mv v≤n + v:=by
  intro v
  induction v with
  | zero=>intro _;omega
  | succ v ih=>intro hv;have:=h2.le (v + 1) (by omega) hv;have:=ih (by omega);rw [Nat.add_sub_cancel] at *;omega
 have hs:∀ k,k≤n→sumN mv k≤n * k + tri k:=by
  intro k
  induction k with
  | zero=>intro _;simp [sumN,tri]
  | succ k ih=>intro hk;have:=ih (by omega);have:=hv k (by omega);simp only [sumN,tri,Nat.mul_succ];omega
 have hg:=h4.le;have hzn:z * n≤n * n:=Nat.mul_le_mul_right n (by omega);exact ⟨by omega,hv,hs n (Nat.le_refl _),by omega⟩
end Go.Plain.Ring
namespace Go.Proofs.YthbiicpcbnijiaaGreatDoor
open Go.Eng
set_option maxRecDepth 100000
set_option linter.unusedVariables false
theorem rconf_of {g:G} (hg:g.valid = true) {c:Cf} (h:Conf pRing g c):g.rconf c = true:=by
 obtain ⟨f1,f2,f3,f4,f5,f6,f7⟩:=val_facts hg;rw [G.rconf,conf_iff];refine ⟨h.len,fun v hv=>?_⟩;have hl:v < c.length:=by rw [h.len];exact hv
 refine ⟨h.row v hl,fun x hx=>?_⟩;obtain rfl:x = 0:=by omega
 have:=h.val v hl 0 (by decide);have e:bnd g (gV pRing.vars 0) v = (0,0 + 1 * (g.ids.length:Int) + 0 * topI g):=rfl;rw [e] at this;simp only [bN];change 0≤gI (gC c v) 0∧gI (gC c v) 0≤0 + 1 * (g.ids.length:Int) + 0 * topI g at this;omega
theorem ring_range {g:G} {c:Cf} (h:g.rconf c = true) {v:Nat} (hv:v < g.ids.length):0≤x0 c v∧x0 c v≤g.ids.length:=by
 rw [G.rconf,conf_iff] at h;have:=(h.2 v hv).2 0 (by omega);exact this
theorem mod_sem {a n:Int} (h:0≤a∧a≤n) (hn:1≤n∧n≤24):binI 32 (binI 33 a 1) (binI 33 n 1) = (a + 1) % (n + 1):=by
 have e1:binI 33 a 1 = a + 1:=sat_eq (by unfold inR;omega);have e2:binI 33 n 1 = n + 1:=sat_eq (by unfold inR;omega);rw [e1,e2];have e3:binI 32 (a + 1) (n + 1) = if n + 1 = 0 then 0 else sat (a + 1 - (n + 1) * quoI (a + 1) (n + 1)):=rfl
 rw [e3,if_neg (by omega)];have e4:quoI (a + 1) (n + 1) = (a + 1) / (n + 1):=by
  rw [quoI,if_neg (by omega),if_neg (by omega)];exact Int.tdiv_eq_ediv_of_nonneg (by omega)
 rw [e4,← Int.emod_def];have:=Int.emod_nonneg (a + 1) (show n + 1≠0 by omega);have:=Int.emod_lt_of_pos (a + 1) (show 0 < n + 1 by omega);exact sat_eq (by unfold inR;omega)
theorem ring_move0 {g:G} (h:g.rfit = true) {c:Cf} (hc:g.rconf c = true) (he:pv c g.ids.length 0 = true):gI (moveL pRing g c 0 (ruleI pRing g c 0).toNat) 0 = (x0 c 0 + 1) % ((g.ids.length:Int) + 1):=by
 obtain ⟨h1,h2,h3,h4⟩:=rfit_facts h;have hr:=ring_range hc (v:=0) (by omega);have hlen:0 < (gC c 0).length:=by rw [G.rconf,conf_iff] at hc;have:=(hc.2 0 (by omega)).1;omega
 have e:ruleI pRing g c 0 = 0:=by
  rw [ruleI,ring_gds h c (by omega)];rw [pv] at he;have hx:decide (x0 c 0 = x0 c (prevN g.ids.length 0)) = true:=by simpa [prevN] using he
  rw [hx];rfl
 rw [e];show gI ((gC c 0).set 0 (brI 1 0 (0 + 1 * (g.ids.length:Int) + 0 * topI g) (binI 32 (binI 33 (x0 c 0) 1) (binI 33 (g.ids.length:Int) 1)))) 0 = _;rw [gI_stx _ _ _ _ hlen,if_pos rfl,mod_sem hr (by omega)];have:=Int.emod_nonneg (x0 c 0 + 1) (show (g.ids.length:Int) + 1≠0 by omega);have:=Int.emod_lt_of_pos (x0 c 0 + 1) (show 0 < (g.ids.length:Int) + 1 by omega);rw [brI,if_pos (by omega)]
theorem ring_moveS {g:G} (h:g.rfit = true) {c:Cf} (hc:g.rconf c = true) {v:Nat} (hv0:1≤v) (hv:v < g.ids.length) (he:pv c g.ids.length v = true):gI (moveL pRing g c v (ruleI pRing g c v).toNat) 0 = x0 c (v - 1):=by
 obtain ⟨h1,h2,h3,h4⟩:=rfit_facts h;have hr:=ring_range hc (v:=v - 1) (by omega);have hlen:0 < (gC c v).length:=by rw [G.rconf,conf_iff] at hc;have:=(hc.2 v hv).1;omega
 have hp:prevN g.ids.length v = v - 1:=by rw [prevN,show v + g.ids.length - 1 = (v - 1) + g.ids.length by omega,Nat.add_mod_right,Nat.mod_eq_of_lt (by omega)]
 have e:ruleI pRing g c v = 1:=by
  rw [ruleI,ring_gds h c hv,hp];rw [pv_pos hv0 hv] at he;have hx:decide (x0 c v = x0 c (v - 1)) = false:=by simpa using he
  rw [hx,show decide (v = 0) = false by rw [decide_eq_false_iff_not];omega];rfl
 rw [e];show gI ((gC c v).set 0 (brI 1 0 (0 + 1 * (g.ids.length:Int) + 0 * topI g) (hdT.sem g c v (-1)))) 0 = _;rw [gI_stx _ _ _ _ hlen,if_pos rfl,hd_sem h c hv,hp,brI,if_pos (by omega)]
theorem ring_step {g:G} (h:g.rfit = true) {c:Cf} (hc:g.rconf c = true) {s:Nat} (hs:Part s (enN pRing g c)) {v:Nat} (hv:v < g.ids.length) :
 x0 (stepC pRing g c s) v = Go.Plain.Ring.st g.ids.length (fun v=>s.testBit v) (x0 c) v:=by
 have hl:c.length = g.ids.length:=(conf_small hc).1;show gI (gC (stepC pRing g c s) v) 0 = _;rw [stepC_row pRing g c s (by omega),Go.Plain.Ring.st];split
 . rename_i hb;have hen:=hs v hb;rw [en_bit,ring_rule h c hv,Bool.and_eq_true] at hen;by_cases e:v = 0
   . subst e;rw [if_pos rfl];exact ring_move0 h hc hen.2
   . rw [if_neg e];exact ring_moveS h hc (by omega) hv hen.2
 . rfl
theorem ring_enabled {g:G} (h:g.rfit = true) (c:Cf) {v:Nat} (hv:v < g.ids.length):(enN pRing g c).testBit v = true↔Go.Plain.Ring.en g.ids.length (x0 c) v:=by
 rw [en_bit,ring_rule h c hv,decide_eq_true hv,Bool.true_and,Go.Plain.Ring.en];by_cases e:v = 0
 . subst e;rw [if_pos rfl,pv_zero (by omega),decide_eq_true_eq]
 . rw [if_neg e,pv_pos (by omega) hv];simp
theorem ring_ch {g:G} (h:g.rfit = true) {c:Cf} {s:Nat} (hs:Part s (enN pRing g c)):Go.Plain.Ring.Ch g.ids.length (x0 c) (fun v=>s.testBit v) :=
 ⟨fun v hv hb=>(ring_enabled h c hv).1 (hs v hb)⟩
theorem chg_mono {c:Cf}:∀ {k m:Nat},m≤k→chg c m≤chg c k
 | 0,m,h=>by rw [show m = 0 by omega];exact Nat.le_refl _
 | k + 1,m,h=>by
   by_cases e:m = k + 1
   . rw [e];exact Nat.le_refl _
   . have:=chg_mono (c:=c) (show m≤k by omega);rw [chg];split <;> omega
theorem form_of_chg {c:Cf}:∀ {k:Nat},chg c k≤1→∃ j,j≤k∧(∀ v,v≤j→x0 c v = x0 c 0)∧(∀ v,j < v→v≤k→x0 c v = x0 c k)
 | 0,_=>⟨0,Nat.le_refl _,fun v hv=>by rw [show v = 0 by omega],fun v a b=>by omega⟩
 | k + 1,h=>by
   by_cases e:x0 c k = x0 c (k + 1)
   . rw [chg_eq e] at h;obtain ⟨j,j1,j2,j3⟩:=form_of_chg h;refine ⟨j,by omega,j2,fun v a b=>?_⟩;by_cases ev:v = k + 1
     . rw [ev]
     . rw [← e];exact j3 v a (by omega)
   . rw [chg_ne e] at h;have h0:chg c k = 0:=by omega
     refine ⟨k,by omega,fun v hv=>?_,fun v a b=>by rw [show v = k + 1 by omega]⟩;have:=chg_mono (c:=c) hv;exact (chg_zero (by omega)).symm
theorem chg_of_form {c:Cf} {k j:Nat} (hj:j≤k) (h1:∀ v,v≤j→x0 c v = x0 c 0) (h2:∀ v,j < v→v≤k→x0 c v = x0 c k):chg c k≤1:=by
 have z:∀ i,i≤j→chg c i = 0:=by
  intro i
  induction i with
  | zero=>intro _;rfl
  | succ i ih =>
    intro hi;rw [chg,if_pos ((h1 i (by omega)).trans (h1 (i + 1) hi).symm)];exact ih (by omega)
 have o:∀ i,i≤k→chg c i≤1:=by
  intro i
  induction i with
  | zero=>intro _;simp [chg]
  | succ i ih =>
    intro hi;by_cases e:i + 1≤j
    . rw [z _ e];omega
    . by_cases e2:i = j
      . rw [chg,z i (by omega)];split <;> omega
      . rw [chg,if_pos ((h2 i (by omega) (by omega)).trans (h2 (i + 1) (by omega) hi).symm)];exact ih (by omega)
 exact o k (Nat.le_refl _)
theorem legit_form {g:G} (h:g.rfit = true) {c:Cf} (hc:g.rconf c = true) (hl:g.rlegit c = true) :
 ∃ j,j < g.ids.length∧(∀ v,v≤j→x0 c v = x0 c 0)∧(∀ v,j < v→v < g.ids.length→x0 c v = x0 c (g.ids.length - 1)):=by
 obtain ⟨h1,h2,h3,h4⟩:=rfit_facts h;have hcl:c.length = g.ids.length:=(conf_small hc).1;rw [G.rlegit,h,hc,Bool.true_and,Bool.true_and,decide_eq_true_eq,hcl] at hl;obtain ⟨j,j1,j2,j3⟩:=form_of_chg hl;exact ⟨j,by omega,j2,fun v a b=>j3 v a (by omega)⟩
theorem legit_of_form {g:G} (h:g.rfit = true) {c:Cf} (hc:g.rconf c = true) {j:Nat} (hj:j < g.ids.length) (j2:∀ v,v≤j→x0 c v = x0 c 0) (j3:∀ v,j < v→v < g.ids.length→x0 c v = x0 c (g.ids.length - 1)):g.rlegit c = true:=by
 have hcl:c.length = g.ids.length:=(conf_small hc).1;rw [G.rlegit,h,hc,Bool.true_and,Bool.true_and,decide_eq_true_eq,hcl];exact chg_of_form (by omega) j2 (fun v a b=>j3 v a (by omega))
theorem legit_step {g:G} (h:g.rfit = true) {c:Cf} (hc:Conf pRing g c) (hl:g.rlegit c = true) {s:Nat} (hs:Part s (enN pRing g c)) (h0:s≠0):g.rlegit (stepC pRing g c s) = true:=by
 obtain ⟨h1,h2,h3,h4⟩:=rfit_facts h;have hrc:=rconf_of h1 hc;have hrc':=rconf_of h1 (step_conf ring_prOk h1 hc hs);obtain ⟨j,j1,j2,j3⟩:=legit_form h hrc hl;have st:=fun v (hv:v < g.ids.length)=>ring_step h hrc hs hv;have bit:∃ u,s.testBit u = true:=Classical.byContradiction fun hn=>h0 (zero_bits.2 fun i=>by
  cases hb:s.testBit i with
  | false=>rfl
  | true=>exact (hn ⟨i,hb⟩).elim)
 obtain ⟨u,hu⟩:=bit;have hun:u < g.ids.length:=by have:=hs u hu;rw [en_bit,Bool.and_eq_true,decide_eq_true_eq] at this;exact this.1
 have hen:∀ v,v < g.ids.length→s.testBit v = true→Go.Plain.Ring.en g.ids.length (x0 c) v:=fun v hv hb=>(ring_enabled h c hv).1 (hs v hb);by_cases heq:x0 c 0 = x0 c (g.ids.length - 1)
 . -- all are equal: node 0 moves
   have all:∀ v,v < g.ids.length→x0 c v = x0 c 0:=fun v hv=>by
    by_cases e:v≤j
    . exact j2 v e
    . rw [heq];exact j3 v (by omega) hv
   have only:∀ v,v < g.ids.length→s.testBit v = true→v = 0:=fun v hv hb=>by
    have:=hen v hv hb;rw [Go.Plain.Ring.en] at this;apply Classical.byContradiction;intro e;rw [if_neg e,all v hv,all (v - 1) (by omega)] at this;exact this rfl
   have low:∀ v,1≤v→v < g.ids.length→x0 (stepC pRing g c s) v = x0 c 0:=fun v a hv=>by
    rw [st v hv,Go.Plain.Ring.st,if_neg (fun hb=>by have:=only v hv hb;omega)];exact all v hv
   refine legit_of_form h hrc' (j:=0) (by omega) (fun v hv=>by rw [show v = 0 by omega]) (fun v a b=>?_);rw [low v (by omega) b,low (g.ids.length - 1) (by omega) (by omega)]
 . have hjn:j + 1 < g.ids.length:=by
    apply Classical.byContradiction;intro e;exact heq (j2 (g.ids.length - 1) (by omega)).symm
   have only:∀ v,v < g.ids.length→s.testBit v = true→v = j + 1:=fun v hv hb=>by
    have:=hen v hv hb;rw [Go.Plain.Ring.en] at this;by_cases e0:v = 0
    . rw [if_pos e0] at this;exact (heq this).elim
    . rw [if_neg e0] at this;rcases (show v≤j∨v = j + 1∨j + 1 < v by omega) with e | e | e
      . rw [j2 v e,j2 (v - 1) (by omega)] at this;exact (this rfl).elim
      . exact e
      . rw [j3 v (by omega) hv,j3 (v - 1) (by omega) (by omega)] at this;exact (this rfl).elim
   have hj:=only u hun hu;have lo:∀ v,v≤j + 1→x0 (stepC pRing g c s) v = x0 c 0:=fun v hv=>by
    rw [st v (by omega),Go.Plain.Ring.st];by_cases e:v = j + 1
    . rw [if_pos (by rw [e,← hj];exact hu),if_neg (by omega)];exact j2 _ (by omega)
    . rw [if_neg (fun hb=>e (only v (by omega) hb))];exact j2 v (by omega)
   have hi:∀ v,j + 1 < v→v < g.ids.length→x0 (stepC pRing g c s) v = x0 c (g.ids.length - 1):=fun v a hv=>by
    rw [st v hv,Go.Plain.Ring.st,if_neg (fun hb=>by have:=only v hv hb;omega)];exact j3 v (by omega) hv
   refine legit_of_form h hrc' (j:=j + 1) hjn (fun v hv=>by rw [lo v hv,lo 0 (by omega)]) (fun v a b=>?_);rw [hi v a b,hi (g.ids.length - 1) (by omega) (by omega)]
theorem eqs_legit {g:G} (h:g.rfit = true) {c:Cf} (hc:g.rconf c = true) (he:Go.Plain.Ring.Eqs g.ids.length (x0 c)):g.rlegit c = true:=by
 obtain ⟨h1,h2,h3,h4⟩:=rfit_facts h;exact legit_of_form h hc (j:=0) (by omega) (fun v hv=>by rw [show v = 0 by omega]) (fun v a b=>(he v b).trans (he _ (by omega)).symm)
theorem cnt_sum (s:Nat):∀ n,cnt s n = Go.Plain.Ring.sumN (fun v=>if s.testBit v = true then 1 else 0) n
 | 0=>rfl
 | n + 1=>by
   rw [cnt,Go.Plain.Ring.sumN,← cnt_sum s n];cases s.testBit n <;> simp
theorem cnt_cut {s n:Nat} (hs:s < 2 ^ n):∀ k,cnt s (n + k) = cnt s n
 | 0=>rfl
 | k + 1=>by
   rw [← Nat.add_assoc,cnt,cnt_cut hs k];have:s.testBit (n + k) = false:=Nat.testBit_lt_two_pow (Nat.lt_of_lt_of_le hs (Nat.pow_le_pow_right (by omega) (by omega)));rw [this];simp
theorem part_lt {s n:Nat} {p:Nat→Bool} (h:Part s (nb p n)):s < 2 ^ n:=by
 apply Nat.lt_of_not_le;intro hge;obtain ⟨i,hi1,hi2⟩:=Nat.exists_ge_and_testBit_of_ge_two_pow (n:=n) hge;have:=h i hi2;rw [nb_bit,Bool.and_eq_true,decide_eq_true_eq] at this;omega
theorem sumN_up (s:Go.Plain.Ring.Sb) (mv:Nat→Nat):∀ n,Go.Plain.Ring.sumN (Go.Plain.Ring.up s mv) n = Go.Plain.Ring.sumN mv n + Go.Plain.Ring.sumN (fun v=>if s v = true then 1 else 0) n
 | 0=>rfl
 | n + 1=>by simp only [Go.Plain.Ring.sumN,sumN_up s mv n,Go.Plain.Ring.up];omega
def RInv (g:G) (b:Int) (j:Nat) (c:Cf) (k:Cnt) (mv:Nat→Nat):Prop :=
 ∃ z,Go.Plain.Ring.Inv g.ids.length b j (x0 c) (fun v=>k.pend.testBit v) z k.rounds mv∧k.moves = Go.Plain.Ring.sumN mv g.ids.length
theorem rinv_start {g:G} (h:g.rfit = true) {c:Cf} (hc:g.rconf c = true):∃ b j,j≤g.ids.length∧RInv g b j c (cnt0 (enN pRing g c)) (fun _=>0):=by
 obtain ⟨h1,h2,h3,h4⟩:=rfit_facts h;obtain ⟨j,j1,j2,j3⟩:=Go.Plain.Ring.fresh (n:=g.ids.length) (by omega) (x0 c) (x0 c 0);refine ⟨x0 c 0,j,j2,0,Go.Plain.Ring.Inv.start (by omega) j1 (ring_range hc (by omega)) j3 (fun v hv he=>(ring_enabled h c hv).2 he),?_⟩;have:∀ n,Go.Plain.Ring.sumN (fun _=>0) n = 0:=fun n=>by
  induction n with
  | zero=>rfl
  | succ n ih=>simp [Go.Plain.Ring.sumN,ih]
 rw [this];rfl
theorem rinv_step {g:G} (h:g.rfit = true) {c:Cf} (hc:Conf pRing g c) {b:Int} {j:Nat} (hj:j≤g.ids.length) {k:Cnt} {mv:Nat→Nat} (hi:RInv g b j c k mv) (hl:g.rlegit c = false) {s:Nat} (hs:Part s (enN pRing g c)) (hl':g.rlegit (stepC pRing g c s) = false) :
 RInv g b j (stepC pRing g c s) (k.add s (enN pRing g (stepC pRing g c s))) (Go.Plain.Ring.up (fun v=>s.testBit v) mv):=by
 obtain ⟨h1,h2,h3,h4⟩:=rfit_facts h;obtain ⟨z,hz,hm⟩:=hi;have hrc:=rconf_of h1 hc;have hrc':=rconf_of h1 (step_conf ring_prOk h1 hc hs);have hne:¬ Go.Plain.Ring.Eqs g.ids.length (x0 c):=fun e=>by rw [eqs_legit h hrc e] at hl;cases hl
 have hst:∀ v,v < g.ids.length→Go.Plain.Ring.st g.ids.length (fun v=>s.testBit v) (x0 c) v = x0 (stepC pRing g c s) v:=fun v hv=>(ring_step h hrc hs hv).symm;have hne':¬ Go.Plain.Ring.Eqs g.ids.length (Go.Plain.Ring.st g.ids.length (fun v=>s.testBit v) (x0 c)):=fun e=>by
  have:Go.Plain.Ring.Eqs g.ids.length (x0 (stepC pRing g c s)):=fun v hv=>by rw [← hst v hv,← hst 0 (by omega)];exact e v hv
  rw [eqs_legit h hrc' this] at hl';cases hl'
 have hen':∀ v,v < g.ids.length→((enN pRing g (stepC pRing g c s)).testBit v = true↔Go.Plain.Ring.en g.ids.length (Go.Plain.Ring.st g.ids.length (fun v=>s.testBit v) (x0 c)) v):=fun v hv=>by
  rw [ring_enabled h _ hv,Go.Plain.Ring.en,Go.Plain.Ring.en,hst 0 (by omega),hst (g.ids.length - 1) (by omega),hst v hv,hst (v - 1) (by omega)]
 have hlf:Go.Plain.Ring.left g.ids.length (x0 c) (fun v=>k.pend.testBit v) (fun v=>s.testBit v) (Go.Plain.Ring.st g.ids.length (fun v=>s.testBit v) (x0 c)) (fun v=>(lft k s (enN pRing g (stepC pRing g c s))).testBit v):=fun v hv=>by
  simp only [lft,Nat.testBit_and,ndiff_bit (show v < 32 by omega),Bool.and_eq_true,Bool.not_eq_true',← hen' v hv,and_assoc]
 obtain ⟨s1,s2⟩:=hz.step (by omega) hj (ring_ch h hs) hne hne' hlf;have hcong:∀ {p q:Nat} {z r:Nat} {mv:Nat→Nat},Go.Plain.Ring.Inv g.ids.length b j (Go.Plain.Ring.st g.ids.length (fun v=>s.testBit v) (x0 c)) (fun v=>p.testBit v) z r mv→Go.Plain.Ring.Inv g.ids.length b j (x0 (stepC pRing g c s)) (fun v=>p.testBit v) z r mv:=fun hh =>
  ⟨⟨hh.zi.le,by rw [← hst 0 (by omega)];exact hh.zi.val,fun a v b1 b2=>by rw [← hst v b2];exact hh.zi.new a v b1 b2,fun a v b1 b2 b3=>by rw [← hst (v - 1) (by omega)];rw [← hst v b2] at b3;exact hh.zi.pre a v b1 b2 b3⟩,
   ⟨hh.mi.le,fun v b1 b2 b3=>by rw [← hst v b2,← hst (v - 1) (by omega)];exact hh.mi.eq v b1 b2 b3⟩,hh.mz,by
    obtain ⟨q,q1,q2⟩:=hh.gi;exact ⟨q,⟨q1.le,fun v hv=>by have:=q1.le;rw [← hst v (by omega),← hst 0 (by omega)];exact q1.eq v hv,fun a a2 a3=>q1.pend a a2 (by rw [← hst q a2,← hst 0 (by omega)] at a3;exact a3)⟩,q2⟩⟩
 have hmv:(k.add s (enN pRing g (stepC pRing g c s))).moves = k.moves + cnt s 32:=by rw [Cnt.add];split <;> rfl
 have hcs:cnt s 32 = Go.Plain.Ring.sumN (fun v=>if s.testBit v = true then 1 else 0) g.ids.length:=by
  rw [← cnt_sum,show (32:Nat) = g.ids.length + (32 - g.ids.length) by omega,cnt_cut (part_lt hs)]
 have hmm:(k.add s (enN pRing g (stepC pRing g c s))).moves = Go.Plain.Ring.sumN (Go.Plain.Ring.up (fun v=>s.testBit v) mv) g.ids.length:=by rw [hmv,sumN_up,hm,hcs]
 by_cases hz0:lft k s (enN pRing g (stepC pRing g c s)) = 0
 . refine ⟨z + (if s.testBit 0 = true then 1 else 0),?_,hmm⟩;have e:k.add s (enN pRing g (stepC pRing g c s)) = ⟨k.steps + 1,k.moves + cnt s 32,k.rounds + 1,k.rounds + 1,enN pRing g (stepC pRing g c s)⟩:=by rw [Cnt.add,if_pos hz0]
   rw [e];exact hcong (q:=0) (s2 (fun v hv=>by rw [hz0];simp) (fun v=>(enN pRing g (stepC pRing g c s)).testBit v) (fun v hv he=>(hen' v hv).2 he))
 . refine ⟨z + (if s.testBit 0 = true then 1 else 0),?_,hmm⟩;have e:k.add s (enN pRing g (stepC pRing g c s)) = ⟨k.steps + 1,k.moves + cnt s 32,k.rounds,k.rounds + 1,lft k s (enN pRing g (stepC pRing g c s))⟩:=by rw [Cnt.add,if_neg hz0]
   rw [e];refine hcong (q:=0) (s1 ?_);apply Classical.byContradiction;intro hn;refine hz0 (zero_bits.2 fun i=>?_);cases hb:(lft k s (enN pRing g (stepC pRing g c s))).testBit i with
   | false=>rfl
   | true =>
     have:(enN pRing g (stepC pRing g c s)).testBit i = true:=by rw [lft,Nat.testBit_and,Bool.and_eq_true] at hb;exact hb.2
     rw [en_bit,Bool.and_eq_true,decide_eq_true_eq] at this;exact (hn ⟨i,this.1,hb⟩).elim
end Go.Proofs.YthbiicpcbnijiaaGreatDoor
namespace Go.Proofs.YthbiicpcbnijiaaGreatDoor
open Go.Eng Go.Plain
set_option maxRecDepth 100000
set_option linter.unusedVariables false
theorem ring_mvs {n:Nat} {x:Ring.Vl} {s:Ring.Sb} {b:Int} {j z r:Nat} {p:Ring.Sb} {mv:Nat→Nat} (hn:1≤n) (hj:j≤n) (h:Ring.Inv n b j x p z r mv) (hc:Ring.Ch n x s) (hne:¬ Ring.Eqs n x):Ring.sumN (Ring.up s mv) n≤n * n + Ring.tri n:=by
 have z1:=(h.zi.step hn hj hc hne).le;have m1:=h.mi.step hc;have m0:Ring.up s mv 0 = z + if s 0 = true then 1 else 0:=by simp only [Ring.up,h.mz]
 generalize Ring.up s mv = m at *;have hv:∀ v,v < n→m v≤n + v:=by
  intro v
  induction v with
  | zero=>intro _;omega
  | succ v ih=>intro hv;have:=m1.le (v + 1) (by omega) hv;have:=ih (by omega);rw [Nat.add_sub_cancel] at *;omega
 have hs:∀ k,k≤n→Ring.sumN m k≤n * k + Ring.tri k:=by
  intro k
  induction k with
  | zero=>intro _;simp [Ring.sumN,Ring.tri]
  | succ k ih=>intro hk;have:=ih (by omega);have:=hv k (by omega);simp only [Ring.sumN,Ring.tri,Nat.mul_succ];omega
 exact hs n (Nat.le_refl _)
def RInvE (g:G) (c:Cf) (k:Cnt):Prop:=∃ b j mv,j≤g.ids.length∧RInv g b j c k mv
theorem ring_srv {g:G} (h:g.rfit = true):Srv pRing g 3 g.rlegit ((g.ids.length:Int) * g.ids.length + g.ids.length) ((g.ids.length:Int) * g.ids.length + ((g.ids.length:Int) * (g.ids.length - 1)).tdiv 2) (RInvE g):=by
 obtain ⟨hg,h2,h3,h4⟩:=rfit_facts h;have e1:((g.ids.length * g.ids.length:Nat):Int) = (g.ids.length:Int) * g.ids.length:=by push_cast;rfl
 have e2:((g.ids.length * (g.ids.length - 1):Nat):Int) = (g.ids.length:Int) * ((g.ids.length:Int) - 1):=by
  rw [Int.natCast_mul,Int.natCast_sub (by omega)];rfl
 have ht:=Ring.tri_eq g.ids.length;have hM:((g.ids.length * g.ids.length + Ring.tri g.ids.length:Nat):Int)≤(g.ids.length:Int) * g.ids.length + ((g.ids.length:Int) * (g.ids.length - 1)).tdiv 2:=by
  rw [← e1,← e2,Int.tdiv_eq_ediv_of_nonneg (by omega)];omega
 have hstart:∀ c,Conf pRing g c→g.rlegit c = false→RInvE g c (cnt0 (enN pRing g c)):=fun c hc _=>by
  obtain ⟨b,j,hj,hi⟩:=rinv_start h (rconf_of hg hc);exact ⟨b,j,_,hj,hi⟩
 have hst:∀ c n s,Conf pRing g c→RInvE g c n→g.rlegit c = false→StepK pRing g 3 c s→g.rlegit (stepC pRing g c s) = false→RInvE g (stepC pRing g c s) (n.add s (enN pRing g (stepC pRing g c s))):=by
  rintro c n s hc ⟨b,j,mv,hj,hi⟩ hl hs hl';exact ⟨b,j,_,hj,rinv_step h hc hj hi hl hs.part hl'⟩
 have hne:∀ c,Conf pRing g c→g.rlegit c = false→¬ Ring.Eqs g.ids.length (x0 c):=fun c hc hl e=>by
  rw [eqs_legit h (rconf_of hg hc) e] at hl;cases hl
 have hmv:∀ c n s,Conf pRing g c→RInvE g c n→g.rlegit c = false→StepK pRing g 3 c s→n.moves + cnt s 32≤g.ids.length * g.ids.length + Ring.tri g.ids.length:=by
  rintro c n s hc ⟨b,j,mv,hj,z,hz,hm⟩ hl hs;have:=ring_mvs (by omega) hj hz (ring_ch h hs.part) (hne c hc hl);rw [sumN_up] at this;have hcs:cnt s 32 = Ring.sumN (fun v=>if s.testBit v = true then 1 else 0) g.ids.length:=by
   rw [← cnt_sum,show (32:Nat) = g.ids.length + (32 - g.ids.length) by omega,cnt_cut (part_lt hs.part)]
  rw [hcs,hm];exact this
 have hen:∀ c,Conf pRing g c→g.rlegit c = false→enN pRing g c≠0:=fun c hc hl=>by
  rw [ring_en h (rconf_of hg hc)];exact (ring_tokens h (rconf_of hg hc)).1
 refine ⟨fun c s hc hl hs=>legit_step h hc hl hs.part hs.ne,hen,hstart,hst,?_,fun _ c n s hc hi hl hs=>?_,?_⟩
 . rintro c n hc ⟨b,j,mv,hj,z,hz,hm⟩ hl;obtain ⟨_,_,_,b4⟩:=hz.bounds (by omega) hj (hne c hc hl);rw [← e1];omega
 . have:=hmv c n s hc hi hl hs;omega
 . refine ends_of (M:=g.ids.length * g.ids.length + Ring.tri g.ids.length) (Inv:=RInvE g) (fun c s hc hs=>step_conf ring_prOk hg hc hs.part) (fun c s hs=>stepK_pos hs) hstart hst ?_;rintro c n hc ⟨b,j,mv,hj,z,hz,hm⟩ hl;obtain ⟨_,_,b3,_⟩:=hz.bounds (by omega) hj (hne c hc hl);omega
end Go.Proofs.YthbiicpcbnijiaaGreatDoor
namespace Go.Proofs.YthbiicpcbnijiaaGreatDoor
open Go.Eng Go.Plain
set_option maxRecDepth 100000
set_option linter.unusedVariables false
theorem ring4_len (x:Net):(x.ringG 4).ids.length = 3:=by
 show (x.rids 4).length = 3;have hw:=within_range x.n1 (b:=2) (by omega);have hz:x.size (4 - 2) = (1 + within x.n1 2).toNat:=rfl;rw [Net.rids,extI_len,idsF_len,hz];omega
theorem ring_cnt {g:G} (h:g.ids.length = 3):cntP pRing g≤64:=by
 refine Nat.le_trans (cnt_rows (B:=4) fun v hv=>?_) (by rw [h];decide);show szP pRing g (v * 1) * 1≤4;have e:=szP_ix pRing g (v:=v) (x:=0) (show 0 < 1 by omega);change szP pRing g (v * 1 + 0) = _ at e;rw [Nat.add_zero] at e;rw [Nat.mul_one,e];show ((0 + 1 * (g.ids.length:Int) + 0 * topI g) - 0).toNat + 1≤4;omega
set_option maxHeartbeats 16000000 in
theorem lawRWhole (x:Net) (hx:x.Small):RG 3 [x.v] (.bool true):=by
 have h0:=ringNet_ok x hx 4 (by omega) (by omega);have hlen:(x.ringG 4).ids.length = 3:=ring4_len x;obtain ⟨hfit,hs⟩:=ringG_ok x (most:=4) (by omega) (by omega);generalize x.ringG 4 = g at *;obtain ⟨hg,n3,n24,hpl⟩:=rfit_facts hfit;have hclm:=claim_ok g hs;rw [G.rclaim,if_pos hfit,clm] at hclm;have hS:=ring_srv hfit;have h10:g.ids.length≤10:=by omega
 have hcn:=ring_cnt hlen;have hN:cntP pRing g≤32768:=by omega
 have hNm:cntP pRing g * 2 ^ g.ids.length≤262144:=by rw [hlen];omega
 have hprk:=ring_prOk;have hb:=whole_build hprk hs hg (kd:=3) rfl h10 hN hNm;have hco:=whole_core hprk hs hg (kd:=3) rfl hS h10 hN hNm;have hcl:=whole_closed hprk hs hg (kd:=3) rfl hS h10 hN hNm;have hro:=whole_rounds hprk hs hg (kd:=3) rfl hS h10 hN hNm (by have:=Int.mul_nonneg (Int.natCast_nonneg g.ids.length) (Int.natCast_nonneg g.ids.length);omega);have hmo:=whole_moves hprk hs hg (kd:=3) rfl hS h10 hN hNm;have hpos:=cntP_pos pRing g;have hun:=fun k hk=>munrank_ok pRing hprk g hs hg hN k hk;have hlg:=fun k=>legit_ok g hs (cfK pRing g k) (csmallW hprk hg (cfK_conf hprk hg k));have htx:=text_ok;have hpr:=program_ok;have hkn:=known_ok;have hsn:(sysP pRing g 3).n = cntP pRing g:=rfl;generalize (g.ids.length:Int) * g.ids.length + g.ids.length = R at *;generalize (g.ids.length:Int) * g.ids.length + ((g.ids.length:Int) * (g.ids.length - 1)).tdiv 2 = M at *;refine ret_frzG rfl ?_;refine call_sem Tryz.func3 rfl hc3 hr3 rfl ?_;refine sem_seq (sem_vc mixed ?_)
 repeat' ((conv=>whnf);first | fail)
 all_goals (conv=>whnf)
 refine sem_seq (sem_vc mixed ?_)
 repeat' ((conv=>whnf);first | (refine h0.go ?_))
 all_goals (conv=>whnf)
 refine sem_seq (sem_vc mixed ?_)
 repeat' ((conv=>whnf);first | (refine htx.go ?_) | (refine hpr.go ?_))
 all_goals (conv=>whnf)
 refine sem_seq (sem_vc mixed ?_)
 repeat' ((conv=>whnf);first | (refine hclm.go ?_))
 all_goals (conv=>whnf)
 refine sem_seq (sem_vc mixed ?_)
 repeat' ((conv=>whnf);first | (refine hb.gog ?_))
 all_goals (conv=>whnf)
 refine sem_seq (sem_vc mixed ?_)
 repeat' ((conv=>whnf);first | (refine Br.ff ?_) | (refine Br.dec ?_ ?_ <;> intro _ <;> try omega))
 all_goals (conv=>whnf)
 refine sem_seq (sem_vc mixed ?_)
 repeat' ((conv=>whnf);first | fail)
 all_goals (conv=>whnf)
 refine sem_seq (sem_vc mixed ?_)
 repeat' ((conv=>whnf);first | fail)
 all_goals (conv=>whnf)
 refine loop_u mixed [3,4,5,6] [5] [6,7,8,9,10,11,12,13,14,15,16,17,18,19,20,21,22,23,24,25,26,27,28,29] [5,4,3,2,1,0,999] (fun i:Nat=>[(8,.vec 5 1 0 i),(9,.int .i64 i)]) (fun own i=>(5,.vec i 1 (vBl (legK pRing g g.rlegit))) :: own) (fun m i=>m = cntP pRing g - i∧i≤cntP pRing g) (cntP pRing g) 0 ⟨rfl,Nat.zero_le _⟩ rfl (fun _=>rfl) ?_ ?_
 . exact weak_b (fun _ _=>[(0,some 0),(1,some 1),(2,some 2),(3,some 3),(4,some 4),(5,none),(999,some 999)])
 rintro m i ⟨hm,hi⟩;by_cases hil:i < cntP pRing g
 . have hui:=hun i hil;have hli:=hlg i;change Ret _ _ _ (.bool (legK pRing g g.rlegit i)) at hli
   repeat' ((conv=>whnf);first | (refine Br.ff ?_) | (refine Br.dec ?_ ?_ <;> intro _ <;> try omega) | (refine Br.nbeq ?_ ?_ <;> intro _ <;> try omega) | (refine Ar.i64 (by omega) (by omega) ?_) | (refine Len.mk (by omega) ?_) | (refine hui.go ?_) | (refine hli.go ?_) | (refine Br.any (fun _=>?_) (fun _=>?_)))
   all_goals (conv=>whnf)
   all_goals
    refine ⟨cntP pRing g - (i + 1),i + 1,by omega,⟨rfl,by omega⟩,?_⟩;refine weak_by (fun env own=>[(0,some 0),(1,some 1),(2,some 2),(3,some 3),(4,some 4),(5,ekey env 8),(999,some 999)]) ?_ ?_ rfl
    . repeat' (first | exact True.intro | (refine ⟨⟨_,rfl,?_⟩,?_⟩) | exact VRen.kf rfl | exact VRen.loc rfl | exact VRen.vec rfl rfl rfl)
    . repeat' (first | exact vle_appL _ _ _ _ _ rfl hi hj _ _ (by rfl) (by first | rfl | (symm;assumption)) | exact True.intro | exact ⟨rfl,rfl,rfl⟩ | (refine ⟨⟨_,rfl,?_⟩,?_⟩) | exact VRen.kf rfl | (refine ⟨Nat.le_refl _,rfl,fun i j hi hj=>?_⟩) | (refine And.intro ?_ ?_))
 have ei:i = cntP pRing g:=by omega
 subst ei
 repeat' ((conv=>whnf);first | (refine Br.dec ?_ ?_ <;> intro _ <;> try omega))
 all_goals (conv=>whnf)
 refine sem_frz 8 (v':=blW (cntP pRing g) (legK pRing g g.rlegit)) rfl (by (conv=>whnf);exact ⟨by omega,rfl,rfl⟩) (sem_vc mixed ?_)
 repeat' ((conv=>whnf);first | (refine Br.tt ?_) | (refine Br.ff ?_) | (refine Br.bne ?_ ?_ <;> intro _ <;> try omega) | (refine hco.go ?_) | (refine hcl.go ?_))
 all_goals (conv=>whnf)
 refine loop_r mixed [5,6,8,12] (fun i:Nat=>[(16,.int .i64 i)]) (fun m i=>m = cntP pRing g - i∧i≤cntP pRing g) (cntP pRing g) 0 ⟨rfl,Nat.zero_le _⟩ ?_ ?_
 . exact weak_b (fun _ _=>[(0,some 0),(1,some 1),(2,some 2),(3,some 3),(4,some 4),(999,some 999)])
 rintro m i ⟨hm,hi⟩;by_cases hil:i < cntP pRing g
 . repeat' ((conv=>whnf);first | (refine Br.ff ?_) | (refine Br.dec ?_ ?_ <;> intro _ <;> try omega) | (refine Ar.i64 (by omega) (by omega) ?_) | (refine Ix.nat (by omega) ?_))
   all_goals (conv=>whnf)
   refine ⟨cntP pRing g - (i + 1),i + 1,by omega,⟨rfl,by omega⟩,?_⟩;exact weak_b (fun _ _=>[(0,some 0),(1,some 1),(2,some 2),(3,some 3),(4,some 4),(999,some 999)])
 repeat' ((conv=>whnf);first | (refine Br.ff ?_) | (refine Br.dec ?_ ?_ <;> intro _ <;> try omega) | (refine Br.bne ?_ ?_ <;> intro _ <;> try omega) | (refine hro.go ?_;rintro _ ⟨r,hr,rfl⟩) | (refine hmo.go ?_;rintro _ ⟨t,ht,rfl⟩))
 all_goals (conv=>whnf)
 refine loop_r mixed [5,17,19] (fun i:Nat=>[(21,.int .i64 i)]) (fun m i=>m = cntP pRing g - i∧i≤cntP pRing g) (cntP pRing g) 0 ⟨rfl,Nat.zero_le _⟩ ?_ ?_
 . exact weak_b (fun _ _=>[(0,some 0),(1,some 1),(2,some 2),(3,some 3),(4,some 4),(999,some 999)])
 rintro m i ⟨hm,hi⟩;by_cases hil:i < cntP pRing g
 . have hri:=hr i hil;by_cases hM0:0≤M
   . have hti:=ht hM0 i hil
     repeat' ((conv=>whnf);first | (refine Br.dec ?_ ?_ <;> intro _ <;> try omega) | (refine Ar.i64 (by omega) (by omega) ?_) | (refine Ix.nat (by omega) ?_))
     all_goals (conv=>whnf)
     all_goals
      refine ⟨cntP pRing g - (i + 1),i + 1,by omega,⟨rfl,by omega⟩,?_⟩;exact weak_b (fun _ _=>[(0,some 0),(1,some 1),(2,some 2),(3,some 3),(4,some 4),(999,some 999)])
   . repeat' ((conv=>whnf);first | (refine Br.dec ?_ ?_ <;> intro _ <;> try omega) | (refine Ar.i64 (by omega) (by omega) ?_) | (refine Ix.nat (by omega) ?_))
     all_goals (conv=>whnf)
     all_goals
      refine ⟨cntP pRing g - (i + 1),i + 1,by omega,⟨rfl,by omega⟩,?_⟩;exact weak_b (fun _ _=>[(0,some 0),(1,some 1),(2,some 2),(3,some 3),(4,some 4),(999,some 999)])
 repeat' ((conv=>whnf);first | (refine Br.tt ?_) | (refine Br.dec ?_ ?_ <;> intro _ <;> try omega) | (refine hkn.go ?_))
 all_goals (conv=>whnf)
 all_goals exact VLe.rfl
end Go.Proofs.YthbiicpcbnijiaaGreatDoor
