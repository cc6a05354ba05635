import Derived.Test.YtpgkdcekpineaaaGreatDoorTabB
import Derived.KernelRfl
import Derived.Test.YtpgkdcekpineaaaGreatDoorLFD
import Derived.Test.YtpgkdcekpineaaaGreatDoorEvG
import Derived.Test.YtpgkdcekpineaaaGreatDoorWV4
namespace Go.Proofs.YtpgkdcekpineaaaGreatDoor
open Go.Eng
set_option maxRecDepth 100000
theorem ev_parse:evX tp 10000 100 6 [textC] = some progC:=by kernel_rfl
end Go.Proofs.YtpgkdcekpineaaaGreatDoor
namespace Go.Proofs.YtpgkdcekpineaaaGreatDoor
open Go.Eng
set_option maxRecDepth 100000
set_option linter.unusedVariables false
def freeF (l:List Int):Nat→Int→Int
 | 0,i=>i
 | f + 1,i=>if i∈l then freeF l f ((i + 1) % 256) else i
def idsF (x:List Int):Nat→List Int
 | 0=>[]
 | v + 1=>idsF x v ++ [freeF (idsF x v) 256 (within (gI x v) 256)]
def Net.n1 (x:Net):Int:=IntKind.i64.wrap (x.n - 1)
def Net.size (x:Net) (most:Int):Nat:=(1 + within x.n1 most).toNat
theorem ret_args {P:Program} {f:FuncId} {args args':List V} {X:V} (hk:allB V.kf args' = true) (hl:LLe args' args) (h:Ret P f args X):Ret P f args' X:=fun own ks=>by
 constructor;intro M w σ us hlen hd hh;obtain ⟨d1,d2⟩:=hl.dens (M:=M) (w:=w) (us:=us) hlen (fun i v u hv hu=>(hd i v u hv hu).kf (allB_mem hk v (List.mem_of_getElem? hv)) Sg.none);exact (h own ks).out M w σ us d1 (fun i v u hv hu=>(d2 i v u hv hu).mono (Ext.mk (fun _ _ h=>⟨h,rfl⟩) (Nat.le_refl _)) (Sg.none_le σ)) hh
theorem ret_res {P:Program} {f:FuncId} {args:List V} {X X':V} (hk:X.kf = true) (hl:VLe X X') (h:Ret P f args X):Ret P f args X':=fun own ks=>by
 constructor;intro M w σ us hlen hd hh;refine ((h own ks).out M w σ us hlen hd hh).mono ?_;rintro e w' ⟨M',σ',v,own',ks',u,rfl,hv,hh',tr,kd,rfl,rfl,rfl⟩;exact ⟨M',σ',X',_,_,u,rfl,(hl.out _ _ _ (hv.kf hk Sg.none)).mono (Ext.mk (fun _ _ h=>⟨h,rfl⟩) (Nat.le_refl _)) (Sg.none_le σ'),hh',tr,kd,rfl,rfl,rfl⟩
def AllLt:Nat→(Nat→Prop)→Prop
 | 0,_=>True
 | n + 1,P=>P 0∧AllLt n fun i=>P (i + 1)
theorem AllLt.out:∀ {n:Nat} {P:Nat→Prop},AllLt n P→∀ i,i < n→P i
 | n + 1,P,h,0,_=>h.1
 | n + 1,P,h,i + 1,hi=>AllLt.out h.2 i (by omega)
theorem vle_fzA {n s:Nat} {f g:Nat→Nat→V} (h:AllLt n fun i=>AllLt s fun j=>VLe (f i j) (g i j)):VLe (.fz n s false f) (.fz n s false g) :=
 VLe.fz rfl (fun h=>h) fun i j hi hj=>(h.out i hi).out j hj
theorem vle_str {a b:ByteArray} (h:a = b):VLe (.str a) (.str b):=by subst h;exact .rfl
theorem wpr_agg:VLe pWav.v aggC.v:=by
 repeat' (first | exact True.intro | exact VLe.rfl | exact vle_str (by kernel_rfl) | (refine VLe.agg ?_) | (refine vle_fzA ?_) | (refine And.intro ?_ ?_))
theorem agg_wpr:VLe aggC.v pWav.v:=by
 repeat' (first | exact True.intro | exact VLe.rfl | exact vle_str (by kernel_rfl) | (refine VLe.agg ?_) | (refine vle_fzA ?_) | (refine And.intro ?_ ?_))
theorem wcheck_ok:Ret Tryz.prog 31 [pWav.v] (.int .i64 0):=by
 have h:=ev_ret mixed tc_ok ev_check;exact ret_args (args:=[aggC.v]) rfl ⟨wpr_agg,True.intro⟩ (by simpa only [C.vs,C.v] using h)
theorem wav_types:Ret Tryz.prog 156 [pWav.v] (.bool true):=by
 refine ret_frz rfl ?_;refine fn_rule mixed Tryz.func156 rfl hc156 hr156 rfl ?_
 repeat' ((conv=>whnf);first | (refine Br.tt ?_) | (refine wcheck_ok.go ?_))
 all_goals (conv=>whnf)
 exact VLe.rfl
def txtB:ByteArray:=match textC with | .str l c=>bytesOf l c | _=>default
theorem text_ok:Ret Tryz.prog 7 [] (.str txtB):=by
 have:=ev_ret mixed ta_ok ev_text;simpa only [C.vs,C.v,textC,txtB] using this
theorem parse_ok:Ret Tryz.prog 6 [.str txtB] (.tup [aggC.v,.int .i64 0,.int .i64 0]):=by
 have:=ev_ret mixed tp_ok ev_parse;simpa only [C.vs,C.v,textC,txtB,progC] using this
theorem parse_ok2:Ret Tryz.prog 6 [.str txtB] (.tup [pWav.v,.int .i64 0,.int .i64 0]) :=
 ret_res (X:=.tup [aggC.v,.int .i64 0,.int .i64 0]) rfl (VLe.tup ⟨agg_wpr,VLe.rfl,VLe.rfl,True.intro⟩) parse_ok
theorem program_ok:Ret Tryz.prog 26 [.str txtB] pWav.v:=by
 refine ret_frz rfl ?_;refine fn_rule mixed Tryz.func26 rfl hc26 hr26 rfl ?_
 repeat' ((conv=>whnf);first | (refine parse_ok2.go ?_))
 all_goals (conv=>whnf)
 exact VLe.rfl
theorem wav_prOk:PrOk pWav where
 vlen:=by decide
 var:=fun i hi=>by
  rcases (show i = 0∨i = 1∨i = 2∨i = 3 by have:i < 4:=hi;omega) with rfl | rfl | rfl | rfl
  . exact ⟨.inl rfl,by decide,by decide,by decide,by decide,by decide⟩
  . exact ⟨.inr (.inr rfl),by decide,by decide,by decide,by decide,by decide⟩
  . exact ⟨.inr (.inl rfl),by decide,by decide,by decide,by decide,by decide⟩
  . exact ⟨.inr (.inl rfl),by decide,by decide,by decide,by decide,by decide⟩
 rlen:=by decide
 gd:=fun i hi=>by
  rcases (show i = 0∨i = 1∨i = 2∨i = 3∨i = 4 by have:i < 5:=hi;omega) with rfl | rfl | rfl | rfl | rfl
  all_goals decide
 slen:=fun i hi=>by
  rcases (show i = 0∨i = 1∨i = 2∨i = 3∨i = 4 by have:i < 5:=hi;omega) with rfl | rfl | rfl | rfl | rfl
  all_goals decide
 set:=fun i hi j hj=>by
  rcases (show i = 0∨i = 1∨i = 2∨i = 3∨i = 4 by have:i < 5:=hi;omega) with rfl | rfl | rfl | rfl | rfl
  . rcases (show j = 0∨j = 1 by have:j < 2:=hj;omega) with rfl | rfl <;> decide
  . rcases (show j = 0∨j = 1 by have:j < 2:=hj;omega) with rfl | rfl <;> decide
  . rcases (show j = 0∨j = 1 by have:j < 2:=hj;omega) with rfl | rfl <;> decide
  . rcases (show j = 0∨j = 1 by have:j < 2:=hj;omega) with rfl | rfl <;> decide
  . (obtain rfl:j = 0:=by have:j < 1:=hj;omega);decide
 types:=wav_types
def wgt (x:Net) (i:Nat):Int:=1 + within (gI x.weights i) 15
def treeP (x:Net) (n:Nat):Nat→Ps
 | 0=>List.replicate n []
 | k + 1=>linkP x.back (treeP x n k) (within (gI x.links k) ((k:Int) + 1)).toNat (k + 1) (wgt x k)
def moreP (x:Net) (n:Nat) (p:Ps):Nat→Ps
 | 0=>p
 | k + 1=>linkP x.back (moreP x n p k) (within (gI x.links (n + 2 * k)) n).toNat (within (gI x.links (n + 2 * k + 1)) n).toNat (wgt x (n + 2 * k))
def moreN (x:Net) (n:Nat):Nat:=min ((x.links.length - n) / 2) ((61 - n) / 2)
def Net.con (x:Net) (most:Int):G:=⟨idsF x.ids (x.size most),moreP x (x.size most) (treeP x (x.size most) (x.size most - 1)) (moreN x (x.size most))⟩
def Net.any (x:Net) (most:Int):G:=if x.apart then ⟨idsF x.ids (x.size most),moreP x (x.size most) (List.replicate (x.size most) []) (moreN x (x.size most))⟩ else x.con most
def t3:G:=⟨[0,1,2],[[(1,1)],[(0,1),(2,1)],[(1,1)]]⟩
theorem w_0_1:Ret Tryz.prog 9 [.int .i64 0,.int .i64 1] (.int .i64 0):=within_ok 0 1 (by decide)
theorem w_1_2:Ret Tryz.prog 9 [.int .i64 1,.int .i64 2] (.int .i64 1):=within_ok 1 2 (by decide)
theorem copyR_ok (c:Cf) (hc:c.length≤1000) (hr:∀ v,v < c.length→(gC c v).length≤1000):Ret Tryz.prog 93 [cV c] (cV c):=by
 refine ret_frz rfl ?_;refine (copy_ok c hc hr).mono ?_;rintro v own' _ ⟨rfl,rfl⟩
 conv=>whnf
 refine Len.mk (by omega) ?_;exact VLe.fz rfl (fun h=>h) (fun i j hi hj=>VLe.of_eq (by rw [shiftF_eq,Nat.zero_add]))
theorem rcheck_ok (p:Pr) (hp:PrOk p) (g:G) (hs:g.Small) (hg:g.valid = true) (c:Cf) (hc:Conf p g c) (k:Int) (hk:dk k = true) (n:Nat) (hn:n≤4096):Ret Tryz.prog 74 [p.v,g.v,.int .i64 k,cV c,.int .i64 n] (.int .i64 0):=by
 have h1:=check_ok p hp g hs hg c hc;have h2:=dvalid_ok k;rw [hk] at h2;refine ret_frz rfl ?_;refine fn_rule mixed Tryz.func74 rfl hc74 hr74 rfl ?_
 repeat' ((conv=>whnf);first | (refine Br.tt ?_) | (refine Br.ff ?_) | (refine Br.dec ?_ ?_ <;> intro _ <;> try omega) | (refine h1.go ?_) | (refine h2.go ?_))
 all_goals (conv=>whnf)
 all_goals exact VLe.rfl
theorem en_and (p:Pr) {g:G} (hg:g.valid = true) (c:Cf):bitI .and .u32 (enN p g c:Int) (full g.ids.length:Nat) = (enN p g c:Nat):=by
 obtain ⟨f1,f2,f3,f4,f5,f6,f7⟩:=val_facts hg;rw [bit_and (en_32 p hg c) (by rw [full];exact nb_lt _ (by omega))];congr 1;apply Nat.eq_of_testBit_eq;intro i;rw [Nat.testBit_and];cases e:(enN p g c).testBit i with
 | false=>rfl
 | true =>
   have:=en_part p hg c i e;rw [f3] at this;rw [this];rfl
structure RunS where
 c:Cf
 n:Cnt
 pre:List (Cf × Cnt)
 ch:List Nat
 en:List Nat
structure RunI (p:Pr) (g:G) (k:Int) (c0:Cf) (n0:Cnt) (ws:List Nat) (x:RunS):Prop where
 le:x.ch.length≤ws.length
 conf:Conf p g x.c
 ok:x.n.Ok
 steps:x.n.steps = x.ch.length
 pl:x.pre.length = x.ch.length
 el:x.en.length = x.ch.length + 1
 tot:trc p g k c0 n0 ws = x.pre ++ trc p g k x.c x.n (ws.drop x.ch.length)
 cho:chsL p g k c0 ws = x.ch ++ chsL p g k x.c (ws.drop x.ch.length)
def cntC (k:Cnt):List V:=[.int .i64 k.steps,.int .i64 k.moves,.int .i64 k.rounds,.int .i64 k.begun,.int .u32 k.pend]
theorem ws_drop {ws:List Nat} {i:Nat} (h:i < ws.length):ws.drop i = ws.getD i 0 :: ws.drop (i + 1):=by
 rw [List.drop_eq_getElem_cons h];simp [List.getD,h]
theorem run_start {p:Pr} {g:G} (hg:g.valid = true) {k:Int} {c:Cf} (hc:Conf p g c) (ws:List Nat):RunI p g k c (cnt0 (enN p g c)) ws ⟨c,cnt0 (enN p g c),[],[],[enN p g c]⟩ :=
 ⟨Nat.zero_le _,hc,cnt0_ok (en_24 p hg c),rfl,rfl,rfl,rfl,rfl⟩
theorem run_next {p:Pr} (hp:PrOk p) {g:G} (hg:g.valid = true) {k:Int} (hk:dk k = true) {c0:Cf} {n0:Cnt} {ws:List Nat} (hl:ws.length≤4000) {x:RunS} (hx:RunI p g k c0 n0 ws x) (hi:x.ch.length < ws.length) (h0:enN p g x.c≠0) :
 RunI p g k c0 n0 ws ⟨nxC p g k x.c (ws.getD x.ch.length 0),nxK p g k x.c x.n (ws.getD x.ch.length 0),x.pre ++ [(x.c,x.n)],x.ch ++ [chC p g k x.c (ws.getD x.ch.length 0)],x.en ++ [enN p g (nxC p g k x.c (ws.getD x.ch.length 0))]⟩:=by
 obtain ⟨k1,k2⟩:=nx_ok hg hk hx.ok (by have:=hx.steps;omega) (ws.getD x.ch.length 0) h0 (k:=k);have ht:=hx.tot;have hc:=hx.cho;rw [ws_drop hi,trc,if_neg h0] at ht;rw [ws_drop hi,chsL,if_neg h0] at hc;refine ⟨by simp only [List.length_append,List.length_singleton];omega,nx_conf hp hg hk hx.conf _ h0,k1,?_,?_,?_,?_,?_⟩
 . simp only [List.length_append,List.length_singleton];rw [k2,hx.steps]
 . simp only [List.length_append,List.length_singleton];rw [hx.pl]
 . simp only [List.length_append,List.length_singleton];rw [hx.el]
 . simp only [List.length_append,List.length_singleton];rw [ht];simp
 . simp only [List.length_append,List.length_singleton];rw [hc];simp
theorem run_end {p:Pr} {g:G} {k:Int} {c0:Cf} {n0:Cnt} {ws:List Nat} {x:RunS} (hx:RunI p g k c0 n0 ws x) (h:x.ch.length = ws.length∨enN p g x.c = 0):trc p g k c0 n0 ws = x.pre ++ [(x.c,x.n)]∧chsL p g k c0 ws = x.ch:=by
 have ht:=hx.tot;have hc:=hx.cho;by_cases e:x.ch.length < ws.length
 . have h0:enN p g x.c = 0:=by rcases h with h | h;omega;exact h
   rw [ws_drop e,trc,if_pos h0] at ht;rw [ws_drop e,chsL,if_pos h0] at hc;exact ⟨ht,by simpa using hc⟩
 . rw [List.drop_of_length_le (by omega)] at ht hc;exact ⟨ht,by simpa [chsL] using hc⟩
theorem vle_appU7 (l:List Nat) (a:Nat) (F:Nat→Nat→V) (x:Int) (hF:F 0 0 = .int .u32 x) (hx:x = a) (i j:Nat) (hi:i < (l ++ [a]).length) (hj:j < 1):VLe (fapp (shiftF 0 (vU7 l)) l.length (shiftF 0 F) i j) (vU7 (l ++ [a]) i j):=by
 obtain rfl:j = 0:=by omega
 apply VLe.of_eq;simp only [List.length_append,List.length_singleton] at hi;by_cases h:i < l.length
 . rw [fapp_lt h,shiftF_eq,Nat.zero_add];simp [vU7,List.getD,List.getElem?_append_left h]
 . rw [fapp_ge h];have:i = l.length:=by omega
   subst this;simp [shiftF,hF,vU7,hx]
theorem vle_e0 {X:V} {F:Nat→Nat→V} (h:F 0 0 = X) (i j:Nat) (hi:i < 1) (hj:j < 1):VLe (shiftF 0 (tab [[X]]) i j) (F i j):=by
 obtain rfl:i = 0:=by omega
 obtain rfl:j = 0:=by omega
 rw [h];exact VLe.rfl
def trcV (ch en:List Nat) (c:Cf) (n:Cnt):V:=.agg [.fz ch.length 1 false (vU7 ch),.fz en.length 1 false (vU7 en),cV c,.int .i64 n.steps,.int .i64 n.moves,.int .i64 n.rounds,.int .i64 n.begun,.int .u32 n.pend]
structure FolI (p:Pr) (g:G) (k:Int) (c0:Cf) (n0:Cnt) (ws:List Nat) (x:RunS):Prop where
 run:RunI p g k c0 n0 ws x
 ens:x.en = x.pre.map (fun y=>enN p g y.1) ++ [enN p g x.c]
theorem lastOf {p:Pr} {g:G} {k:Int} {c0:Cf} {n0:Cnt} {ws:List Nat} {x:RunS} (h:trc p g k c0 n0 ws = x.pre ++ [(x.c,x.n)]):lastC (trc p g k c0 n0 ws) = x.c:=by
 rw [h];simp [lastC]
theorem lastK {p:Pr} {g:G} {k:Int} {c0:Cf} {n0:Cnt} {ws:List Nat} {x:RunS} (h:trc p g k c0 n0 ws = x.pre ++ [(x.c,x.n)]):((trc p g k c0 n0 ws).getLast?.getD default).2 = x.n:=by
 rw [h];simp
def ensL (p:Pr) (g:G) (L:List (Cf × Cnt)):List Nat:=L.map fun x=>enN p g x.1
def folV (p:Pr) (g:G) (k:Int) (c:Cf) (n:Cnt) (ws:List Nat):V:=trcV (chsL p g k c ws) (ensL p g (trc p g k c n ws)) (lastC (trc p g k c n ws)) ((trc p g k c n ws).getLast?.getD default).2
set_option maxHeartbeats 16000000 in
theorem follow_ok (p:Pr) (hp:PrOk p) (g:G) (hs:g.Small) (hg:g.valid = true) (k:Int) (hk:dk k = true) (c:Cf) (hc:Conf p g c) (ws:List Nat) (hwl:ws.length≤1000) (hw:∀ w∈ws,w < 4294967296) :
 RG 35 [p.v,g.v,.int .i64 k,cV c,.fz ws.length 1 false (vU7 ws)] (.tup [folV p g k c (cnt0 (enN p g c)) ws,.int .i64 0]):=by
 obtain ⟨f1,f2,f3,f4,f5,f6,f7⟩:=val_facts hg;have hcl:=hc.len;have hvl:=hp.vlen;have h1:=rcheck_ok p hp g hs hg c hc k hk ws.length (by omega);have h2:=mover_ok p hp g hg;have h3:=newnet_ok g hs hg;have h4:=all_ok g hg;have h5:=copyR_ok c (by omega) (fun v hv=>by have:=hc.row v hv;omega);have h6:=men_ok p hp g hg c hc;have h7:=begin_ok (enN p g c) (en_24 p hg c);have ha:=en_and p hg c;refine ret_frzG2 rfl ?_;refine fn_rule mixed Tryz.func35 rfl hc35 hr35 rfl ?_
 repeat' ((conv=>whnf);first | (refine Sv.mk _ ha.symm ?_) | (refine Br.ff ?_) | (refine Len.mk (by omega) ?_) | (refine h1.go ?_) | (refine h2.go ?_) | (refine h3.go ?_) | (refine h4.go ?_) | (refine h5.go ?_) | (refine h6.go ?_) | (refine h7.go ?_) | (refine fn_rule mixed Tryz.func75 rfl hc75 hr75 rfl ?_) | (refine fn_rule mixed Tryz.func77 rfl hc77 hr77 rfl ?_) | (refine fn_rule mixed Tryz.func123 rfl hc123 hr123 rfl ?_) | (refine fn_rule mixed Tryz.func76 rfl hc76 hr76 rfl ?_) | (refine Chk.mk (by kernel_rfl) ?_) | (refine And.intro rfl ?_))
 all_goals (conv=>whnf)
 refine loop_w mixed [3,4,8,10,12,39] [15,16] [17,18,19,20,21,22,23,24,25,26,27,28,29,30,31,32,33,34,35,36,37,38,39,40,41,42,43,44,45,46,47,48,49,50,51,52,53,54,55,56,57,58,59] [16,15,12,11,10,9,8,7,6,2,999] (fun x:RunS=>[(1,cV x.c),(11,.int .u32 (enN p g x.c:Nat)),(40,.int .i64 x.ch.length)]) (fun x=>[(16,.vec x.ch.length 1 (vU7 x.ch)),(15,.vec x.en.length 1 (vU7 x.en)),(12,.cells (cntC x.n)),(11,.cells [.vec 16 1 0 x.ch.length,.vec 15 1 0 x.en.length,.nilslice,.int .i64 0,.int .i64 0,.int .i64 0,.int .i64 0,.int .u32 0]),(10,.cells [.nilslice,.nilslice,.nilslice,.int .i64 0,.int .i64 0,.int .i64 0,.int .i64 0,.int .u32 0]),(9,.cells [mvP p g,.fz g.ports.length 1 false (vNet g),.int .i64 k,.int .u32 (full g.ids.length:Nat),.fn (.func 76) false []]),(8,.cells [.nilslice,.nilslice,.nilslice,.int .i64 0,.int .i64 0,.int .i64 0,.int .i64 0,.int .u32 0]),(7,.cells [.fz ws.length 1 false (vU7 ws)]),(6,.cells [mvP p g,.fz g.ports.length 1 false (vNet g),.int .i64 k,.int .u32 (full g.ids.length:Nat),.fn (.func 76) false []]),(2,.cells [.nilslice,.nilslice,.nilslice,.int .i64 0,.int .i64 0,.int .i64 0,.int .i64 0,.int .u32 0]),(999,GB)]) (fun m x=>m = ws.length - x.ch.length∧FolI p g k c (cnt0 (enN p g c)) ws x) ws.length ⟨c,cnt0 (enN p g c),[],[],[enN p g c]⟩ ⟨rfl,run_start hg hc ws,rfl⟩ rfl (fun _=>rfl) ?_ ?_
 . refine weak_by (fun _ _=>[(12,some 12),(11,some 11),(10,some 10),(9,some 9),(8,some 8),(7,some 7),(6,some 6),(2,some 2),(999,some 999),(15,some 15),(16,none)]) ?_ ?_ rfl
   . repeat' (first | exact True.intro | (refine VRen.fn ?_) | (refine ⟨⟨_,rfl,?_⟩,?_⟩) | exact VRen.kf rfl | exact VRen.loc rfl | (refine And.intro ?_ ?_))
   . repeat' (first | exact vle_e0 (by rfl) _ _ hi hj | exact True.intro | (refine VRen.fn ?_) | exact ⟨rfl,rfl,rfl⟩ | (refine ⟨⟨_,rfl,?_⟩,?_⟩) | exact VRen.kf rfl | exact VRen.vec rfl rfl rfl | exact VRen.nil rfl rfl | (refine ⟨Nat.le_refl _,rfl,fun i j hi hj=>?_⟩) | (refine ⟨⟨_,_,rfl⟩,?_⟩) | (refine And.intro ?_ ?_))
 rintro m x ⟨hm,hf⟩;obtain ⟨hx,hens⟩:=hf;clear h5 h6 h7 ha;have hcx:=hx.conf;have hlx:=hcx.len;have hpl:=hx.pl;have hel:=hx.el;have hle:=hx.le;have fin:∀ (h:x.ch.length = ws.length∨enN p g x.c = 0),VLe (V.tup [.agg [.fz x.ch.length 1 false (shiftF 0 (vU7 x.ch)),.fz x.en.length 1 false (shiftF 0 (vU7 x.en)),cV x.c,.int .i64 x.n.steps,.int .i64 x.n.moves,.int .i64 x.n.rounds,.int .i64 x.n.begun,.int .u32 x.n.pend],.int .i64 0]) (.tup [folV p g k c (cnt0 (enN p g c)) ws,.int .i64 0]):=fun h=>by
  obtain ⟨e1,e2⟩:=run_end hx h;rw [folV,lastOf e1,lastK e1,e2,e1,ensL,List.map_append,List.map_singleton,← hens,trcV];refine VLe.tup ⟨VLe.agg ⟨VLe.fz rfl (fun h=>h) (fun i j _ _=>VLe.of_eq (by rw [shiftF_eq,Nat.zero_add])),VLe.fz rfl (fun h=>h) (fun i j _ _=>VLe.of_eq (by rw [shiftF_eq,Nat.zero_add])),VLe.rfl,VLe.rfl,VLe.rfl,VLe.rfl,VLe.rfl,VLe.rfl,True.intro⟩,VLe.rfl,True.intro⟩
 by_cases hi:x.ch.length < ws.length
 . have hwb:ws.getD x.ch.length 0 < 4294967296:=hw _ (by rw [List.getD_eq_getElem?_getD,List.getElem?_eq_getElem hi];exact List.getElem_mem hi);have hrs:=nresolve_ok g hg k (enN p g x.c) (ws.getD x.ch.length 0) (en_32 p hg x.c) hwb (en_part p hg x.c);change RG _ _ (.int .u32 (chC p g k x.c (ws.getD x.ch.length 0):Nat)) at hrs;by_cases h0:enN p g x.c = 0
   . repeat' ((conv=>whnf);first | (refine Br.ff ?_) | (refine Br.dec ?_ ?_ <;> intro _ <;> try omega) | (refine Br.bne ?_ ?_ <;> intro _ <;> try omega) | (refine Ix.nat (by omega) ?_) | (refine Len.mk (by omega) ?_) | (refine hrs.gog ?_) | (refine fn_rule mixed Tryz.func124 rfl hc124 hr124 rfl ?_) | (refine Chk.mk (by kernel_rfl) ?_) | (refine And.intro rfl ?_))
     all_goals (conv=>whnf)
     all_goals exact fin (.inr h0)
   . have hnx:=run_next hp hg hk (by omega) hx hi h0;have hens':x.en ++ [enN p g (nxC p g k x.c (ws.getD x.ch.length 0))] = (x.pre ++ [(x.c,x.n)]).map (fun y=>enN p g y.1) ++ [enN p g (nxC p g k x.c (ws.getD x.ch.length 0))]:=by rw [hens];simp
     obtain ⟨c1,c2,c3,c4,c5,c6⟩:=ch_facts p hg hk x.c (ws.getD x.ch.length 0) h0;have hcn:=nx_conf hp hg hk hcx (ws.getD x.ch.length 0) h0;have hpm:=npermits_ok g hg k (enN p g x.c) (chC p g k x.c (ws.getD x.ch.length 0)) (en_32 p hg x.c) (by omega) (en_part p hg x.c);have hin:inner g k (enN p g x.c) (chC p g k x.c (ws.getD x.ch.length 0)) = true:=rs_inner hg hk (en_32 p hg x.c) (en_part p hg x.c) h0;rw [hin] at hpm;have hst:=mstep_ok p hp g hg x.c hcx (chC p g k x.c (ws.getD x.ch.length 0)) (by omega) (fun v hv hb=>by have:=c2 v hb;rw [en_bit,Bool.and_eq_true,decide_eq_true_eq,decide_eq_true_eq] at this;exact this.2);change Ret _ _ _ (cV (nxC p g k x.c (ws.getD x.ch.length 0))) at hst;have hen:=men_ok p hp g hg _ hcn;have ha:=en_and p hg (nxC p g k x.c (ws.getD x.ch.length 0));have had:=add_ok x.n hx.ok (by have:=hx.steps;omega) (chC p g k x.c (ws.getD x.ch.length 0)) (enN p g (nxC p g k x.c (ws.getD x.ch.length 0))) c1 c4 (en_24 p hg _);change Ret _ _ _ (.tup [(nxK p g k x.c x.n (ws.getD x.ch.length 0)).v,.int .i64 0]) at had;generalize nxK p g k x.c x.n (ws.getD x.ch.length 0) = n' at *;generalize nxC p g k x.c (ws.getD x.ch.length 0) = c' at *;generalize chC p g k x.c (ws.getD x.ch.length 0) = s at *;have e1:=en_32 p hg x.c
     repeat' ((conv=>whnf);first | (refine Sv.mk _ ha.symm ?_) | (refine Br.tt ?_) | (refine Br.dec ?_ ?_ <;> intro _ <;> try omega) | (refine Br.bne ?_ ?_ <;> intro _ <;> try omega) | (refine Br.nbeq ?_ ?_ <;> intro _ <;> try omega) | (refine Ar.i64 (by omega) (by omega) ?_) | (refine Ix.nat (by omega) ?_) | (refine Len.mk (by omega) ?_) | (refine hrs.gog ?_) | (refine hpm.gog ?_) | (refine hst.go ?_) | (refine hen.go ?_) | (refine had.go ?_) | (refine fn_rule mixed Tryz.func76 rfl hc76 hr76 rfl ?_) | (refine fn_rule mixed Tryz.func124 rfl hc124 hr124 rfl ?_) | (refine Chk.mk (by kernel_rfl) ?_) | (refine And.intro rfl ?_))
     all_goals (conv=>whnf)
     refine ⟨_,_,?_,⟨rfl,hnx,hens'⟩,?_⟩
     . simp only [List.length_append,List.length_singleton];omega
     . refine weak_by (fun env own=>[(12,some 12),(11,some 11),(10,some 10),(9,some 9),(8,some 8),(7,some 7),(6,some 6),(2,some 2),(999,some 999),(15,ckeyo own 11 1),(16,ckeyo own 11 0)]) ?_ ?_ rfl
       . repeat' (first | exact VRen.int (by simp only [List.length_append,List.length_singleton] <;> omega) | exact True.intro | (refine VRen.fn ?_) | (refine ⟨⟨_,rfl,?_⟩,?_⟩) | exact VRen.kf rfl | exact VRen.loc rfl | (refine And.intro ?_ ?_))
       . repeat' (first | exact VRen.vec rfl rfl (by simp only [List.length_append,List.length_singleton] <;> omega) | (refine ⟨by simp only [List.length_append,List.length_singleton] <;> omega,rfl,fun i j hi hj=>?_⟩) | exact VRen.int (by simp only [List.length_append,List.length_singleton] <;> omega) | exact vle_appU7 _ _ _ _ (by rfl) (by rfl) _ _ hi hj | exact True.intro | (refine VRen.fn ?_) | exact ⟨rfl,rfl,rfl⟩ | (refine ⟨⟨_,rfl,?_⟩,?_⟩) | exact VRen.kf rfl | (refine And.intro ?_ ?_))
 . repeat' ((conv=>whnf);first | (refine Br.dec ?_ ?_ <;> intro _ <;> try omega) | (refine Len.mk (by omega) ?_) | (refine And.intro rfl ?_))
   all_goals (conv=>whnf)
   all_goals exact fin (.inl (by omega))
end Go.Proofs.YtpgkdcekpineaaaGreatDoor
