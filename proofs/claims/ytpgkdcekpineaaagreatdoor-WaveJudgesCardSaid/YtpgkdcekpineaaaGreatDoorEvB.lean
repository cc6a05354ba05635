import Derived.Test.YtpgkdcekpineaaaGreatDoorRP1
import Derived.Test.YtpgkdcekpineaaaGreatDoorLFD
import Derived.Test.YtpgkdcekpineaaaGreatDoorEngZ
import Derived.IntWalk
namespace Go.Plain.Wave
open Go.Plain.Clock
variable {n:Nat} {par:Nat→Nat} {D:Nat→Nat} {E:Nat} {s b s' b' m p:Nat→Bool}
def ord (par:Nat→Nat) (s b:Nat→Bool) (v:Nat):Prop:=s (par v) = true∨(s v = s (par v)∧b v = b (par v))
def tk (par:Nat→Nat) (s b:Nat→Bool) (v:Nat):Prop:=b (par v)≠b v∨(s v = true∧s (par v) = false)
def fin (n:Nat) (par:Nat→Nat) (s b:Nat→Bool) (v:Nat):Prop:=s v = true∧∀ u,child n par v u→s u = false∧b u = b v
def en (n:Nat) (par:Nat→Nat) (s b:Nat→Bool) (v:Nat):Prop:=if v = 0 then s 0 = false∨fin n par s b 0 else tk par s b v∨fin n par s b v
structure Ch (n:Nat) (par:Nat→Nat) (s b m s' b':Nat→Bool):Prop where
 lt:∀ v,m v = true→v < n
 rest:∀ v,v < n→m v = false→s' v = s v∧b' v = b v
 root:m 0 = true→(s 0 = false∧s' 0 = true∧b' 0 = !b 0)∨(fin n par s b 0∧s' 0 = false∧b' 0 = b 0)
 oth:∀ v,m v = true→v≠0→(tk par s b v∧s' v = s (par v)∧b' v = b (par v))∨(¬ tk par s b v∧fin n par s b v∧s' v = false∧b' v = b v)
theorem not_ord {v:Nat} (h:¬ ord par s b v):tk par s b v:=by
 rw [ord,not_or] at h;rw [tk];revert h;generalize s (par v) = a;generalize b (par v) = c;cases a <;> cases c <;> cases s v <;> cases b v <;> simp
theorem ord_step (hT:Tree n par D E) (hc:Ch n par s b m s' b') {v:Nat} (hv:v < n) (h0:v≠0) (hu:par v≠0→ord par s b (par v)) (h:ord par s b v∨m v = true):ord par s' b' v:=by
 have hun:=hT.lt v hv h0;have hch:child n par (par v) v:=⟨hv,h0,rfl⟩
 -- the parent finishes: the child is as it,and rests
 have hfin:fin n par s b (par v)→s' (par v) = false→b' (par v) = b (par v)→ord par s' b' v:=fun hf e1 e2=>by
  obtain ⟨c1,c2⟩:=hf.2 v hch;have hm:m v = false:=by
   cases e:m v with
   | false=>rfl
   | true =>
     rcases hc.oth v e h0 with ⟨q,_⟩ | ⟨_,q,_⟩
     . rcases q with q | q
       . exact (q c2.symm).elim
       . rw [c1] at q;exact (Bool.noConfusion q.1)
     . rw [fin,c1] at q;exact (Bool.noConfusion q.1)
  obtain ⟨r1,r2⟩:=hc.rest v hv hm;exact .inr ⟨by rw [r1,c1,e1],by rw [r2,c2,e2]⟩
 cases em:m (par v) with
 | false =>
   obtain ⟨r1,r2⟩:=hc.rest _ hun em;cases ev:m v with
   | false =>
     obtain ⟨q1,q2⟩:=hc.rest v hv ev;rcases h with h | h
     . rw [ord,r1,r2,q1,q2];exact h
     . rw [ev] at h;cases h
   | true =>
     rcases hc.oth v ev h0 with ⟨_,q1,q2⟩ | ⟨q0,qf,_⟩
     . exact .inr ⟨by rw [q1,r1],by rw [q2,r2]⟩
     . left;rw [r1];cases e:s (par v) with
       | true=>rfl
       | false=>exact (q0 (.inr ⟨qf.1,e⟩)).elim
 | true =>
   by_cases e0:par v = 0
   . rw [e0] at em hfin;rcases hc.root em with ⟨_,q,_⟩ | ⟨q,q1,q2⟩
     . left;rw [e0];exact q
     . exact hfin q q1 q2
   . rcases hc.oth _ em e0 with ⟨q,q1,_⟩ | ⟨_,q,q1,q2⟩
     . left;rw [q1];cases e:s (par (par v)) with
       | true=>rfl
       | false =>
         rcases hu e0 with hx | ⟨x1,x2⟩
         . rw [e] at hx;cases hx
         . rcases q with q | q
           . exact (q x2.symm).elim
           . rw [x1,e] at q;exact (Bool.noConfusion q.1)
     . exact hfin q q1 q2
def okUp (n:Nat) (par:Nat→Nat) (D:Nat→Nat) (s b:Nat→Bool) (k:Nat):Prop:=∀ v,v < n→v≠0→D v≤k→ord par s b v
theorem okUp.step (hT:Tree n par D E) (hc:Ch n par s b m s' b') {k:Nat} (h:okUp n par D s b k):okUp n par D s' b' k:=fun v hv h0 hd =>
 ord_step hT hc hv h0 (fun e=>h _ (hT.lt v hv h0) e (by have:=hT.dep v hv h0;omega)) (.inl (h v hv h0 hd))
structure Lev (n:Nat) (par:Nat→Nat) (D:Nat→Nat) (s b p:Nat→Bool) (j:Nat):Prop where
 ok:okUp n par D s b j
 pend:∀ v,v < n→v≠0→D v = j + 1→¬ ord par s b v→p v = true
theorem not_en {v:Nat} (h0:v≠0) (h:¬ ord par s b v):en n par s b v:=by rw [en,if_neg h0];exact .inl (not_ord h)
theorem Lev.start (hT:Tree n par D E) (hp:∀ v,v < n→en n par s b v→p v = true):Lev n par D s b p 0 :=
 ⟨fun v hv h0 hd=>by have:=hT.dep v hv h0;omega,fun v hv h0 _ ho=>hp v hv (not_en h0 ho)⟩
theorem Lev.step (hT:Tree n par D E) (hc:Ch n par s b m s' b') {j:Nat} (h:Lev n par D s b p j) {p':Nat→Bool} (hp:∀ v,v < n→p v = true→m v = false→en n par s' b' v→p' v = true):Lev n par D s' b' p' j :=
 ⟨h.ok.step hT hc,fun v hv h0 hd ho=>by
   have key:=fun q=>ord_step hT hc hv h0 (fun e=>h.ok _ (hT.lt v hv h0) e (by have:=hT.dep v hv h0;omega)) q;refine hp v hv (h.pend v hv h0 hd fun q=>ho (key (.inl q))) ?_ (not_en h0 ho);cases e:m v with
   | false=>rfl
   | true=>exact (ho (key (.inr e))).elim⟩
theorem Lev.round {j:Nat} (h:Lev n par D s b p j) (hz:∀ v,v < n→p v = false) {q:Nat→Bool} (hq:∀ v,v < n→en n par s b v→q v = true):Lev n par D s b q (j + 1) :=
 ⟨fun v hv h0 hd=>by
   by_cases e:D v = j + 1
   . exact Classical.byContradiction fun ho=>by have:=h.pend v hv h0 e ho;rw [hz v hv] at this;cases this
   . exact h.ok v hv h0 (by omega),fun v hv h0 _ ho=>hq v hv (not_en h0 ho)⟩
end Go.Plain.Wave
namespace Go.Proofs.YtpgkdcekpineaaaGreatDoor
open Go.Eng
set_option maxRecDepth 100000
set_option linter.unusedVariables false
def qpT:Tm:=.bin 35 (.leaf 11 0) (.leaf 5 1)
def takeC:Tm:=.bin 42 (.bin 36 (.leaf 12 3) (.leaf 5 3)) (.bin 41 (.leaf 5 2) (.un 19 (.leaf 12 2)))
def begG:Tm:=.bin 41 (.leaf 10 0) (.un 19 (.leaf 5 2))
def takeG:Tm:=.bin 41 (.un 19 (.leaf 10 0)) (.agg 21 (.bin 41 qpT takeC))
def finC:Tm:=.bin 41 (.un 19 (.leaf 12 2)) (.bin 35 (.leaf 12 3) (.leaf 5 3))
def finG:Tm:=.bin 41 (.leaf 5 2) (.agg 20 (.bin 42 (.bin 36 (.leaf 12 1) (.leaf 17 0)) finC))
def takeT (x:Int):Tm:=.agg 21 (.bin 41 qpT (.leaf 12 x))
def vWv:List Vr:=[⟨ByteArray.mk #[100],1,0,0,1,0⟩,⟨ByteArray.mk #[112],3,0,0,0,0⟩,⟨ByteArray.mk #[115],2,0,0,0,0⟩,⟨ByteArray.mk #[98],2,0,0,0,0⟩]
def pWav:Pr:=⟨ByteArray.mk #[119,97,118,101],vWv,[⟨ByteArray.mk #[116,111,112],topG,[(0,.leaf 1 0),(1,.leaf 4 0)]⟩,
 ⟨ByteArray.mk #[108,111,119],lowG,[(0,dTm),(1,pTm)]⟩,
 ⟨ByteArray.mk #[98,101,103,105,110],begG,[(2,.leaf 2 0),(3,.un 19 (.leaf 5 3))]⟩,
 ⟨ByteArray.mk #[116,97,107,101],takeG,[(2,takeT 2),(3,takeT 3)]⟩,
 ⟨ByteArray.mk #[102,105,110,105,115,104],finG,[(2,.leaf 3 0)]⟩]⟩
end Go.Proofs.YtpgkdcekpineaaaGreatDoor
namespace Go.Proofs.YtpgkdcekpineaaaGreatDoor
open Go.Eng
set_option maxRecDepth 100000
set_option linter.unusedVariables false
end Go.Proofs.YtpgkdcekpineaaaGreatDoor
namespace Go.Proofs.YtpgkdcekpineaaaGreatDoor
open Go.Eng
set_option maxRecDepth 100000
set_option linter.unusedVariables false
end Go.Proofs.YtpgkdcekpineaaaGreatDoor
namespace Go.Proofs.YtpgkdcekpineaaaGreatDoor
open Go.Eng
set_option maxRecDepth 100000
set_option linter.unusedVariables false
def bWv (g:G) (v x:Nat):Int × Int:=if x = 0 then (0,g.ids.length) else if x = 1 then (-1,((gR g.ports v).length:Int) - 1) else (0,1)
def G.wconf (g:G) (c:Cf):Bool:=conf g.ids.length 4 (bWv g) c
theorem wconf_g (g:G) (c:Cf):conf g.ids.length [(g.ids.length:Int),-1,1,1].length (bG g [(g.ids.length:Int),-1,1,1]) c = g.wconf c:=conf_ext' (fun v x hv hx=>by
 have e:x = 0∨x = 1∨x = 2∨x = 3:=by simp at hx;omega
 rcases e with rfl | rfl | rfl | rfl
 . rw [bG,show gI [(g.ids.length:Int),-1,1,1] 0 = g.ids.length from rfl,if_neg (by omega)];rfl
 . rfl
 . rfl
 . rfl)
theorem vWv_ok:VOk vWv:=⟨by decide,fun x=>by
 rcases x with _ | _ | _ | _ | x
 . decide
 . decide
 . decide
 . decide
 . have:gV vWv (x + 4) = default:=by simp [gV,vWv,List.getD]
   rw [this];decide⟩
theorem wconf_v (g:G) (hg:g.valid = true) (c:Cf):(g.valid && conf g.ports.length vWv.length (bV g vWv) c) = g.wconf c:=by
 obtain ⟨f1,f2,f3,f4,f5,f6,f7⟩:=val_facts hg;rw [hg,Bool.true_and,f3];refine conf_ext' (fun v x hv hx=>?_);have e:x = 0∨x = 1∨x = 2∨x = 3:=by simp [vWv] at hx;omega
 rcases e with rfl | rfl | rfl | rfl
 . show (0,0 + 1 * (g.ports.length:Int) + 0 * maxL g.ids 0) = (0,(g.ids.length:Int));rw [f3];congr 1;omega
 . rfl
 . rfl
 . rfl
theorem wconf_facts {g:G} {c:Cf} (h:g.wconf c = true):c.length = g.ids.length∧∀ v,v < c.length→(gC c v).length = 4∧0≤gI (gC c v) 0∧gI (gC c v) 0≤g.ids.length∧-1≤gI (gC c v) 1∧gI (gC c v) 1 < (gR g.ports v).length∧(0≤gI (gC c v) 2∧gI (gC c v) 2≤1)∧0≤gI (gC c v) 3∧gI (gC c v) 3≤1:=by
 have:=conf_iff.1 h;refine ⟨this.1,fun v hv=>?_⟩;have h2:=this.2 v (by omega);have h3:=h2.2 0 (by omega);have h4:=h2.2 1 (by omega);have h5:=h2.2 2 (by omega);have h6:=h2.2 3 (by omega);simp only [bWv,if_true,Nat.one_ne_zero,if_false,show ¬ (2:Nat) = 0 by decide,show ¬ (2:Nat) = 1 by decide,show ¬ (3:Nat) = 0 by decide,show ¬ (3:Nat) = 1 by decide] at h3 h4 h5 h6;omega
theorem ptokW {g:G} {c:Cf} (h:g.valid = true) (hc:g.wconf c = true):PtOk g c:=by
 obtain ⟨f1,f2,f3,f4,f5,f6,f7⟩:=val_facts h;obtain ⟨e1,e2⟩:=wconf_facts hc;exact ⟨by omega,fun v hv=>by have:=e2 v hv;omega,fun v hv=>by have:=e2 v hv;omega⟩
theorem four_le (a b d e:Int) (f:Nat→Nat→V) (h0:f 0 0 = .int .i64 a) (h1:f 1 0 = .int .i64 b) (h2:f 2 0 = .int .i64 d) (h3:f 3 0 = .int .i64 e):∀ i j:Nat,i < 4→j < 1→VLe (f i j) (vI [a,b,d,e] i j):=by
 intro i j hi hj;obtain rfl:j = 0:=by omega
 rcases (show i = 0∨i = 1∨i = 2∨i = 3 by omega) with rfl | rfl | rfl | rfl
 . rw [h0];exact VLe.rfl
 . rw [h1];exact VLe.rfl
 . rw [h2];exact VLe.rfl
 . rw [h3];exact VLe.rfl
theorem wfit_ok (g:G) (hs:g.Small):Ret Tryz.prog 13 [g.v] (.bool g.conn):=by
 have h:=conn_ok g hs;refine ret_frz rfl ?_;refine fn_rule mixed Tryz.func13 rfl hc13 hr13 rfl ?_;cases hc:g.conn
 all_goals rw [hc] at h
 all_goals
  repeat' ((conv=>whnf);first | (refine Br.tt ?_) | (refine Br.ff ?_) | (refine h.go ?_))
  all_goals (conv=>whnf)
  exact VLe.rfl
theorem rwfit_ok (g:G) (hs:g.Small):Ret Tryz.prog 14 [g.v] (.bool g.conn):=by
 have h:=rconn_ok g hs;refine ret_frz rfl ?_;refine fn_rule mixed Tryz.func14 rfl hc14 hr14 rfl ?_;cases hc:g.conn
 all_goals rw [hc] at h
 all_goals
  repeat' ((conv=>whnf);first | (refine Br.tt ?_) | (refine Br.ff ?_) | (refine h.go ?_))
  all_goals (conv=>whnf)
  exact VLe.rfl
theorem wconfiguration_ok (g:G) (hs:g.Small) (c:Cf) (hc:CSmall c):Ret Tryz.prog 39 [g.v,cV c] (.bool (g.conn && g.wconf c)):=by
 have hf:=wfit_ok g hs;refine ret_frz rfl ?_;refine fn_rule mixed Tryz.func39 rfl hc39 hr39 rfl ?_;cases hg:g.conn with
 | true =>
   rw [hg] at hf;rw [Bool.true_and];obtain ⟨h1,_⟩:=conn_facts hg;obtain ⟨f1,f2,f3,f4,f5,f6,f7⟩:=val_facts h1;have hb:=bconf_ok g hs f3 c hc [(g.ids.length:Int),-1,1,1] (by simp);rw [wconf_g] at hb
   repeat' ((conv=>whnf);first | (refine Br.tt ?_) | (refine hf.go ?_) | (refine call_frz [1] hb ⟨by decide,VLe.rfl,VLe.rfl,VLe.fz rfl (fun h=>h) (four_le _ _ _ _ _ rfl rfl rfl rfl),True.intro⟩ ?_) | (refine Br.any (fun _=>?_) (fun _=>?_)))
   all_goals (conv=>whnf)
   all_goals exact VLe.bool (Eq.symm (by assumption))
 | false =>
   rw [hg] at hf
   repeat' ((conv=>whnf);first | (refine Br.ff ?_) | (refine hf.go ?_))
   all_goals (conv=>whnf)
   all_goals exact VLe.rfl
theorem wtruth_ok (s:ByteArray):Ret Tryz.prog 33 [.str s] (.agg [.str s,.int .i64 2,.int .i64 0,.int .i64 0,.int .i64 0,.int .i64 0]):=by
 refine ret_frz rfl ?_;refine fn_rule mixed Tryz.func33 rfl hc33 hr33 rfl ?_
 repeat' ((conv=>whnf);first | fail)
 all_goals (conv=>whnf)
 exact VLe.rfl
theorem wvars_ok:Ret Tryz.prog 8 [] (.fz vWv.length 6 false (vV vWv)):=by
 refine ret_frz rfl ?_;refine fn_rule mixed Tryz.func8 rfl hc8 hr8 rfl ?_
 repeat' ((conv=>whnf);first | (refine Br.tt ?_) | (refine Len.mk (by omega) ?_) | (refine fn_rule mixed Tryz.func32 rfl hc32 hr32 rfl ?_) | (refine (cnumber_ok _ _ _ _).go ?_) | (refine (cpointer_ok _).go ?_) | (refine (wtruth_ok _).go ?_))
 all_goals (conv=>whnf)
 refine VLe.fz rfl (fun h=>h) (fun i j hi hj=>?_);rcases (show i = 0∨i = 1∨i = 2∨i = 3 by omega) with rfl | rfl | rfl | rfl
 all_goals
  rcases (show j = 0∨j = 1∨j = 2∨j = 3∨j = 4∨j = 5 by omega) with rfl | rfl | rfl | rfl | rfl | rfl
 all_goals exact VLe.of_eq rfl
theorem wtree_ok (c:Cf) (hc:c.length≤1000) (hr:∀ v,v < c.length→(gC c v).length = 4):Ret Tryz.prog 41 [cV c] (cV (tkC c)):=by
 refine ret_frz rfl ?_;refine fn_rule mixed Tryz.func41 rfl hc41 hr41 rfl ?_
 repeat' ((conv=>whnf);first | (refine Bd.nat (by omega) ?_) | (refine Len.mk (by omega) ?_) | (refine MkS.vec ?_))
 all_goals (conv=>whnf)
 refine loop_w mixed [3,9,10] [] [1,2,3,4,5,6,7,8,9,10,11,12,13,14,15,16,17,18,19,20,21,22,23,24,25,26,27,28,29] [0] (fun v:Nat=>[(11,.int .i64 v)]) (fun v=>[(0,.vec c.length 1 (rowsTk c v))]) (fun m v=>m = c.length - v∧v≤c.length) c.length 0 ⟨rfl,Nat.zero_le _⟩ rfl (fun _=>rfl) ?_ ?_
 . refine weak_by (fun _ _=>[(0,some 0)]) ?_ ?_ rfl
   . repeat' (first | exact True.intro | (refine ⟨⟨_,rfl,?_⟩,?_⟩) | exact VRen.kf rfl | exact VRen.vec rfl rfl rfl)
   . repeat' (first | exact ⟨Nat.le_refl _,rfl,fun i j hi hj=>VLe.of_eq (by obtain rfl:j = 0:=(by omega);rfl)⟩ | exact True.intro | (refine ⟨⟨_,rfl,?_⟩,?_⟩))
 rintro m v ⟨hm,hv⟩;by_cases hvn:v < c.length
 . have h3:=hr v hvn
   repeat' ((conv=>whnf);first | (refine Bd.mk 2 rfl (by omega) ?_) | (refine Br.dec ?_ ?_ <;> intro _ <;> try omega) | (refine Ar.i64 (by omega) (by omega) ?_) | (refine Ix.nat (by omega) ?_) | (refine Bd.mk 0 rfl (by omega) ?_) | (refine Ltn.mk (by omega) ?_))
   all_goals (conv=>whnf)
   refine ⟨c.length - (v + 1),v + 1,by omega,⟨rfl,by omega⟩,?_⟩;refine weak_by (fun _ _=>[(0,some 0)]) ?_ ?_ rfl
   . repeat' (first | exact True.intro | (refine ⟨⟨_,rfl,?_⟩,?_⟩) | exact VRen.kf rfl | exact VRen.vec rfl rfl rfl)
   . repeat' (first | exact ⟨Nat.le_refl _,rfl,fun i t hi ht=>by simp only [Nat.zero_add];exact vle_tk c v i t _ _ (fun a b=>VLe.of_eq (by simp [shiftF])) ht⟩ | exact True.intro | (refine ⟨⟨_,rfl,?_⟩,?_⟩))
 . repeat' ((conv=>whnf);first | (refine Br.dec ?_ ?_ <;> intro _ <;> try omega) | (refine Len.mk (by omega) ?_))
   all_goals (conv=>whnf)
   refine VLe.fz (tkC_len c).symm (fun h=>h) (fun i t hi ht=>?_);have e1:shiftF 0 (rowsTk c v) i t = .fz 2 1 false (vI (gC c i)):=by rw [sh_at,Nat.zero_add];exact if_pos (by omega)
   have hl:(gC (tkC c) i).length = 2:=by rw [tkC_row,List.length_take,hr i hi];rfl
   rw [e1];show VLe _ (.fz (gC (tkC c) i).length 1 false (vI (gC (tkC c) i)));rw [hl];refine VLe.fz rfl (fun h=>h) (fun a b ha hb=>VLe.of_eq ?_);simp only [vI];rw [tkC_row,gI_take2 _ _ ha]
theorem bconf_tkW {g:G} {c:Cf} (h:g.wconf c = true):g.bconf (tkC c) = true:=by
 have h1:=conf_iff.1 h;refine conf_iff.2 ⟨by rw [tkC_len];exact h1.1,fun v hv=>?_⟩;have h2:=h1.2 v hv;refine ⟨by rw [tkC_row,List.length_take,h2.1];rfl,fun x hx=>?_⟩;have h3:=h2.2 x (by omega);rw [tkC_row,gI_take2 _ x hx];rcases (show x = 0∨x = 1 by omega) with rfl | rfl
 . rw [bG,show gI [(g.ids.length:Int),-1] 0 = g.ids.length from rfl,if_neg (by omega)];exact h3
 . exact h3
def orD (c:Cf) (v:Nat) (u:Int):Prop:=gI (gC c u.toNat) 2 = 1∨(gI (gC c v) 2 = gI (gC c u.toNat) 2∧gI (gC c v) 3 = gI (gC c u.toNat) 3)
instance (c:Cf) (v:Nat) (u:Int):Decidable (orD c v u):=inferInstanceAs (Decidable (_∨_))
def orB (g:G) (c:Cf):Bool:=decide (∀ v,v < c.length→0≤tw g c v→orD c v (tw g c v))
theorem orB_iff {g:G} {c:Cf}:orB g c = true↔∀ v,v < c.length→0≤tw g c v→orD c v (tw g c v):=by rw [orB,decide_eq_true_eq]
theorem orB_no {g:G} {c:Cf} {v:Nat} (hv:v < c.length) (h0:0≤tw g c v) (hn:¬ orD c v (tw g c v)):orB g c = false:=by
 cases e:orB g c with
 | false=>rfl
 | true=>exact (hn (orB_iff.1 e v hv h0)).elim
def G.wleg (g:G) (c:Cf):Bool:=g.conn && g.wconf c && treeB g c && orB g c
theorem wlegit_ok (g:G) (hs:g.Small) (c:Cf) (hc:CSmall c):Ret Tryz.prog 15 [g.v,cV c] (.bool (g.wleg c)):=by
 have h0:=wconfiguration_ok g hs c hc;refine ret_frz rfl ?_;refine fn_rule mixed Tryz.func15 rfl hc15 hr15 rfl ?_;rw [G.wleg];cases hgc:g.conn && g.wconf c with
 | false =>
   rw [hgc] at h0
   repeat' ((conv=>whnf);first | (refine Br.ff ?_) | (refine h0.go ?_))
   all_goals (conv=>whnf)
   exact VLe.rfl
 | true =>
   rw [hgc] at h0;rw [Bool.true_and];rw [Bool.and_eq_true] at hgc;obtain ⟨h1,_⟩:=conn_facts hgc.1;obtain ⟨f1,f2,f3,f4,f5,f6,f7⟩:=val_facts h1;obtain ⟨e1,e2⟩:=wconf_facts hgc.2;have ht:=wtree_ok c (by omega) (fun v hv=>(e2 v hv).1);have hb:=blegit_ok g hs (tkC c) (csmall_tk hc);rw [hgc.1,bconf_tkW hgc.2,treeB_tk,Bool.true_and,Bool.true_and] at hb;have hpt:=ptokW h1 hgc.2;have hw:=towards_ok g h1 c hpt;have hwl:=twL_len g c c.length;cases htb:treeB g c with
   | false =>
     rw [htb] at hb
     repeat' ((conv=>whnf);first | (refine Br.tt ?_) | (refine Br.ff ?_) | (refine h0.go ?_) | (refine ht.go ?_) | (refine hb.go ?_) | (refine And.intro rfl ?_))
     all_goals (conv=>whnf)
     exact VLe.rfl
   | true =>
     rw [htb] at hb;rw [Bool.true_and]
     repeat' ((conv=>whnf);first | (refine Br.tt ?_) | (refine h0.go ?_) | (refine ht.go ?_) | (refine hb.go ?_) | (refine hw.go ?_) | (refine And.intro rfl ?_))
     all_goals (conv=>whnf)
     refine loop_r mixed [1,20,21] (fun i:Nat=>[(22,.int .i64 i)]) (fun m i=>m = c.length - i∧i≤c.length∧∀ v,v < i→0≤tw g c v→orD c v (tw g c v)) c.length 0 ⟨rfl,Nat.zero_le _,fun v hv=>by omega⟩ ?_ ?_
     . exact weak_b (fun _ _=>[(0,some 0)])
     rintro m i ⟨hm,hi,hall⟩;by_cases hil:i < c.length
     . have hx:=twL_get g c hil;have hr:=e2 i hil;obtain ⟨t1,t2⟩:=tw_treeP hgc.1 hpt htb hil;by_cases h0t:0≤tw g c i
       . have hlt:tw g c i < c.length:=by
          by_cases e:i = 0
          . have:=t1 e;omega
          . exact (t2 e).2
         have hru:=e2 (gI (twL g c c.length) i).toNat (by omega);have hod:orD c i (tw g c i)↔gI (gC c (gI (twL g c c.length) i).toNat) 2 = 1∨(gI (gC c i) 2 = gI (gC c (gI (twL g c c.length) i).toNat) 2∧gI (gC c i) 3 = gI (gC c (gI (twL g c c.length) i).toNat) 3):=by rw [hx];exact Iff.rfl
         have hno:¬ (gI (gC c (gI (twL g c c.length) i).toNat) 2 = 1∨(gI (gC c i) 2 = gI (gC c (gI (twL g c c.length) i).toNat) 2∧gI (gC c i) 3 = gI (gC c (gI (twL g c c.length) i).toNat) 3))→orB g c = false:=fun q=>orB_no hil h0t (fun e=>q (hod.1 e));have hyes:(gI (gC c (gI (twL g c c.length) i).toNat) 2 = 1∨(gI (gC c i) 2 = gI (gC c (gI (twL g c c.length) i).toNat) 2∧gI (gC c i) 3 = gI (gC c (gI (twL g c c.length) i).toNat) 3))→∀ v,v < i + 1→0≤tw g c v→orD c v (tw g c v):=fun q v hv hv0=>by
          by_cases e:v = i
          . subst e;exact hod.2 q
          . exact hall v (by omega) hv0
         have z2:Int.toNat 2 = 2:=rfl;have z3:Int.toNat 3 = 3:=rfl
         repeat' ((conv=>whnf);first | (refine Ix.mk 2 rfl (by omega) ?_) | (refine Ix.mk 3 rfl (by omega) ?_) | (refine Br.dec ?_ ?_ <;> intro _ <;> try omega) | (refine Br.bne ?_ ?_ <;> intro _ <;> try omega) | (refine Ar.i64 (by omega) (by omega) ?_) | (refine Ix.nat (by omega) ?_) | (refine Ix.int (by omega) (by omega) ?_))
         all_goals (conv=>whnf)
         all_goals first
          | (refine ⟨c.length - (i + 1),i + 1,by omega,⟨rfl,by omega,hyes (by simp_all)⟩,?_⟩
             exact weak_b (fun _ _=>[(0,some 0)]))
          | (rw [hno (by simp_all)];exact VLe.rfl)
       . repeat' ((conv=>whnf);first | (refine Br.dec ?_ ?_ <;> intro _ <;> try omega) | (refine Ar.i64 (by omega) (by omega) ?_) | (refine Ix.nat (by omega) ?_))
         all_goals (conv=>whnf)
         refine ⟨c.length - (i + 1),i + 1,by omega,⟨rfl,by omega,fun v hv hv0=>?_⟩,?_⟩
         . by_cases e:v = i
           . subst e;exact absurd hv0 h0t
           . exact hall v (by omega) hv0
         . exact weak_b (fun _ _=>[(0,some 0)])
     . repeat' ((conv=>whnf);first | (refine Br.dec ?_ ?_ <;> intro _ <;> try omega))
       all_goals (conv=>whnf)
       exact VLe.bool (orB_iff.2 (fun v hv=>hall v (by omega))).symm
end Go.Proofs.YtpgkdcekpineaaaGreatDoor
namespace Go.Proofs.YtpgkdcekpineaaaGreatDoor
open Go.Eng
set_option maxRecDepth 100000
set_option linter.unusedVariables false
theorem rwconf_ok (g:G) (hs:g.Small) (c:Cf) (hc:CSmall c) (hg:g.valid = true):Ret Tryz.prog 43 [g.v,cV c,.fz vWv.length 6 false (vV vWv)] (.bool (g.wconf c)):=by
 have h:=rconf_ok g hs c hc vWv vWv_ok
 rwa [wconf_v g hg c] at h
theorem rordered_ok (g:G) (hs:g.Small) (hgc:g.conn = true) (c:Cf) (hcc:g.wconf c = true):Ret Tryz.prog 44 [g.v,cV c] (.bool (treeB g c && orB g c)):=by
 obtain ⟨h1,_⟩:=conn_facts hgc;obtain ⟨f1,f2,f3,f4,f5,f6,f7⟩:=val_facts h1;obtain ⟨e1,e2⟩:=wconf_facts hcc;have hpt:=ptokW h1 hcc;have ht:=rtree_okP g hs hgc c hpt;refine ret_frz rfl ?_;refine fn_rule mixed Tryz.func44 rfl hc44 hr44 rfl ?_;cases htb:treeB g c with
 | false =>
   rw [htb] at ht
   repeat' ((conv=>whnf);first | (refine Br.ff ?_) | (refine ht.go ?_))
   all_goals (conv=>whnf)
   exact VLe.rfl
 | true =>
   rw [htb] at ht;rw [Bool.true_and];have hw:=named_ok g h1 c hpt;have hwl:=twL_len g c c.length
   repeat' ((conv=>whnf);first | (refine Br.tt ?_) | (refine ht.go ?_) | (refine hw.go ?_))
   all_goals (conv=>whnf)
   refine loop_r mixed [1,5] (fun i:Nat=>[(6,.int .i64 i)]) (fun m i=>m = c.length - i∧1≤i∧i≤c.length∧∀ v,v < i→0≤tw g c v→orD c v (tw g c v)) (c.length - 1) 1 ⟨rfl,Nat.le_refl _,by omega,fun v hv hv0=>?_⟩ ?_ ?_
   . obtain ⟨t1,_⟩:=tw_treeP hgc hpt htb (show v < c.length by omega);have:=t1 (by omega);omega
   . exact weak_b (fun _ _=>[(0,some 0)])
   rintro m i ⟨hm,h1i,hi,hall⟩;by_cases hil:i < c.length
   . have hx:=twL_get g c hil;have hr:=e2 i hil;obtain ⟨t1,t2⟩:=tw_treeP hgc hpt htb hil;obtain ⟨h0t,hlt⟩:=t2 (by omega);have hru:=e2 (gI (twL g c c.length) i).toNat (by omega);have hod:orD c i (tw g c i)↔gI (gC c (gI (twL g c c.length) i).toNat) 2 = 1∨(gI (gC c i) 2 = gI (gC c (gI (twL g c c.length) i).toNat) 2∧gI (gC c i) 3 = gI (gC c (gI (twL g c c.length) i).toNat) 3):=by rw [hx];exact Iff.rfl
     have hno:¬ (gI (gC c (gI (twL g c c.length) i).toNat) 2 = 1∨(gI (gC c i) 2 = gI (gC c (gI (twL g c c.length) i).toNat) 2∧gI (gC c i) 3 = gI (gC c (gI (twL g c c.length) i).toNat) 3))→orB g c = false:=fun q=>orB_no hil h0t (fun e=>q (hod.1 e));have hyes:(gI (gC c (gI (twL g c c.length) i).toNat) 2 = 1∨(gI (gC c i) 2 = gI (gC c (gI (twL g c c.length) i).toNat) 2∧gI (gC c i) 3 = gI (gC c (gI (twL g c c.length) i).toNat) 3))→∀ v,v < i + 1→0≤tw g c v→orD c v (tw g c v):=fun q v hv hv0=>by
      by_cases e:v = i
      . subst e;exact hod.2 q
      . exact hall v (by omega) hv0
     repeat' ((conv=>whnf);first | (refine Ix.mk 2 rfl (by omega) ?_) | (refine Ix.mk 3 rfl (by omega) ?_) | (refine Br.dec ?_ ?_ <;> intro _ <;> try omega) | (refine Br.bne ?_ ?_ <;> intro _ <;> try omega) | (refine Ar.i64 (by omega) (by omega) ?_) | (refine Ix.nat (by omega) ?_) | (refine Ix.int (by omega) (by omega) ?_))
     all_goals (conv=>whnf)
     all_goals first
      | (refine ⟨c.length - (i + 1),i + 1,by omega,⟨rfl,by omega,by omega,hyes (by omega)⟩,?_⟩
         exact weak_b (fun _ _=>[(0,some 0)]))
      | (rw [hno (by omega)];exact VLe.rfl)
   . repeat' ((conv=>whnf);first | (refine Br.dec ?_ ?_ <;> intro _ <;> try omega))
     all_goals (conv=>whnf)
     exact VLe.bool (orB_iff.2 (fun v hv=>hall v (by omega))).symm
theorem rwlegit_ok (g:G) (hs:g.Small) (c:Cf) (hc:CSmall c):Ret Tryz.prog 16 [g.v,cV c] (.bool (g.wleg c)):=by
 have hf:=rwfit_ok g hs;have hvs:=wvars_ok;refine ret_frz rfl ?_;refine fn_rule mixed Tryz.func16 rfl hc16 hr16 rfl ?_;rw [G.wleg];cases hgc:g.conn with
 | false =>
   rw [hgc] at hf
   repeat' ((conv=>whnf);first | (refine Br.ff ?_) | (refine hf.go ?_))
   all_goals (conv=>whnf)
   exact VLe.rfl
 | true =>
   rw [hgc] at hf;obtain ⟨h1,_⟩:=conn_facts hgc;have hcf:=rwconf_ok g hs c hc h1;cases hcc:g.wconf c with
   | false =>
     rw [hcc] at hcf
     repeat' ((conv=>whnf);first | (refine Br.tt ?_) | (refine Br.ff ?_) | (refine hf.go ?_) | (refine hvs.go ?_) | (refine hcf.go ?_) | (refine And.intro rfl ?_))
     all_goals (conv=>whnf)
     exact VLe.rfl
   | true =>
     rw [hcc] at hcf;have ho:=rordered_ok g hs hgc c hcc;cases hb:treeB g c && orB g c
     all_goals
      rw [hb] at ho
      repeat' ((conv=>whnf);first | (refine Br.tt ?_) | (refine Br.ff ?_) | (refine hf.go ?_) | (refine hvs.go ?_) | (refine hcf.go ?_) | (refine ho.go ?_) | (refine And.intro rfl ?_))
      all_goals (conv=>whnf)
      exact VLe.bool (by rw [Bool.true_and,Bool.true_and,hb])
def clmW (e:Int):V:=.agg [.int .i64 3,.bool true,.bool false,.int .i64 (2 * e + 1),.int .i64 (-1)]
def clmW0:V:=.agg [.int .i64 0,.bool false,.bool false,.int .i64 0,.int .i64 0]
theorem wclaim_ok (g:G) (hs:g.Small):Ret Tryz.prog 17 [g.v] (if g.conn = true then clmW g.ecc else clmW0):=by
 have hf:=wfit_ok g hs;have he:=ecc_ok g hs;refine ret_frz rfl ?_;refine fn_rule mixed Tryz.func17 rfl hc17 hr17 rfl ?_;cases hgc:g.conn with
 | true =>
   obtain ⟨r1,r2⟩:=ecc_range g hgc;rw [hgc] at hf;rw [if_pos rfl]
   repeat' ((conv=>whnf);first | (refine Br.tt ?_) | (refine Ar.i64 (by omega) (by omega) ?_) | (refine hf.go ?_) | (refine he.go ?_))
   all_goals (conv=>whnf)
   exact VLe.rfl
 | false =>
   rw [hgc] at hf;rw [if_neg (by simp)]
   repeat' ((conv=>whnf);first | (refine Br.ff ?_) | (refine hf.go ?_))
   all_goals (conv=>whnf)
   exact VLe.rfl
theorem rwclaim_ok (g:G) (hs:g.Small):Ret Tryz.prog 18 [g.v] (if g.conn = true then clmW g.ecc else clmW0):=by
 have hf:=rwfit_ok g hs;refine ret_frz rfl ?_;refine fn_rule mixed Tryz.func18 rfl hc18 hr18 rfl ?_;cases hgc:g.conn with
 | true =>
   have he:=recc_ok g hs hgc;obtain ⟨r1,r2⟩:=ecc_range g hgc;rw [hgc] at hf;rw [if_pos rfl]
   repeat' ((conv=>whnf);first | (refine Br.tt ?_) | (refine Ar.i64 (by omega) (by omega) ?_) | (refine hf.go ?_) | (refine he.go ?_))
   all_goals (conv=>whnf)
   exact VLe.rfl
 | false =>
   rw [hgc] at hf;rw [if_neg (by simp)]
   repeat' ((conv=>whnf);first | (refine Br.ff ?_) | (refine hf.go ?_))
   all_goals (conv=>whnf)
   exact VLe.rfl
def G.wact (g:G) (c:Cf):Nat:=if g.conn && g.wconf c then nb (one c 2) c.length else 0
theorem wactive_ok (g:G) (hs:g.Small) (c:Cf) (hc:CSmall c):Ret Tryz.prog 19 [g.v,cV c] (.int .u32 (g.wact c)):=by
 have h0:=wconfiguration_ok g hs c hc;refine ret_frz rfl ?_;refine fn_rule mixed Tryz.func19 rfl hc19 hr19 rfl ?_;rw [G.wact];by_cases h:(g.conn && g.wconf c) = true
 . rw [h] at h0;rw [if_pos h];rw [Bool.and_eq_true] at h;obtain ⟨e1,e2⟩:=wconf_facts h.2;obtain ⟨f1,f2,f3,f4,f5,f6,f7⟩:=val_facts (conn_facts h.1).1
   repeat' ((conv=>whnf);first | (refine Br.tt ?_) | (refine h0.go ?_))
   all_goals (conv=>whnf)
   refine loop_r mixed [12,13] (fun v:Nat=>[(5,.int .u32 (nb (one c 2) v)),(14,.int .i64 v)]) (fun m v=>m = c.length - v∧v≤c.length) c.length 0 ⟨rfl,Nat.zero_le _⟩ ?_ ?_
   . exact weak_b (fun _ _=>[(0,some 0)])
   rintro m v ⟨hm,hv⟩;by_cases hvl:v < c.length
   . have hr:=e2 v hvl;have hor:=one_or (c:=c) (x:=2) (v:=v) (by omega)
     repeat' ((conv=>whnf);first | (refine Ix.mk 2 rfl (by omega) ?_) | (refine Ar.sh01 (by omega) (by omega) (by omega) ?_) | (refine Br.dec ?_ ?_ <;> intro _ <;> try omega) | (refine Ar.i64 (by omega) (by omega) ?_) | (refine Ar.u32 (by omega) (by omega) ?_) | (refine Sv.mk _ rfl ?_) | (refine Nn.mk (by omega) ?_) | (refine Ix.nat (by omega) ?_))
     all_goals (conv=>whnf)
     all_goals
      refine ⟨c.length - (v + 1),v + 1,by omega,⟨rfl,by omega⟩,?_⟩;refine weak_by (fun _ _=>[(0,some 0)]) ?_ ?_ rfl
      . repeat' (first | exact VRen.int hor | exact True.intro | (refine ⟨⟨_,rfl,?_⟩,?_⟩) | exact VRen.kf rfl)
      . repeat' (first | exact True.intro | (refine ⟨⟨_,rfl,?_⟩,?_⟩) | exact VRen.kf rfl | (refine And.intro ?_ ?_))
   . have ev:v = c.length:=by omega
     subst ev
     repeat' ((conv=>whnf);first | (refine Br.dec ?_ ?_ <;> intro _ <;> try omega))
     all_goals (conv=>whnf)
     exact VLe.rfl
 . rw [if_neg h];simp only [Bool.not_eq_true] at h;rw [h] at h0
   repeat' ((conv=>whnf);first | (refine Br.ff ?_) | (refine h0.go ?_))
   all_goals (conv=>whnf)
   exact VLe.rfl
theorem rwactive_ok (g:G) (hs:g.Small) (c:Cf) (hc:CSmall c):Ret Tryz.prog 20 [g.v,cV c] (.int .u32 (g.wact c)):=by
 have hf:=rwfit_ok g hs;have hvs:=wvars_ok;refine ret_frz rfl ?_;refine fn_rule mixed Tryz.func20 rfl hc20 hr20 rfl ?_;rw [G.wact];cases hgc:g.conn with
 | false =>
   rw [hgc] at hf
   repeat' ((conv=>whnf);first | (refine Br.ff ?_) | (refine hf.go ?_))
   all_goals (conv=>whnf)
   exact VLe.rfl
 | true =>
   rw [hgc] at hf;obtain ⟨h1,_⟩:=conn_facts hgc;obtain ⟨f1,f2,f3,f4,f5,f6,f7⟩:=val_facts h1;have hcf:=rwconf_ok g hs c hc h1;cases hcc:g.wconf c with
   | false =>
     rw [hcc] at hcf
     repeat' ((conv=>whnf);first | (refine Br.tt ?_) | (refine Br.ff ?_) | (refine hf.go ?_) | (refine hvs.go ?_) | (refine hcf.go ?_) | (refine And.intro rfl ?_))
     all_goals (conv=>whnf)
     exact VLe.rfl
   | true =>
     rw [hcc] at hcf;obtain ⟨e1,e2⟩:=wconf_facts hcc;have ho:=ones_ok c 2 (by omega) (fun v hv=>by have:=(e2 v hv).1;omega)
     repeat' ((conv=>whnf);first | (refine Br.tt ?_) | (refine hf.go ?_) | (refine hvs.go ?_) | (refine hcf.go ?_) | (refine ho.go ?_) | (refine And.intro rfl ?_))
     all_goals (conv=>whnf)
     exact VLe.rfl
end Go.Proofs.YtpgkdcekpineaaaGreatDoor
namespace Go.Eng
open Go.MapKept (bytes_beq)
noncomputable def fN {β:Type} (n:Nat) (K:Nat→β):β:=@Nat.rec (fun _=>β) (K 0) (fun m _=>K (Nat.succ m)) n
theorem fN_eq {β:Type} (n:Nat) (K:Nat→β):fN n K = K n:=by cases n <;> rfl
noncomputable def fI {β:Type} (n:Int) (K:Int→β):β:=@Int.rec (fun _=>β) (fun a=>fN a fun a=>K (.ofNat a)) (fun a=>fN a fun a=>K (.negSucc a)) n
theorem fI_eq {β:Type} (n:Int) (K:Int→β):fI n K = K n:=by cases n <;> simp [fI,fN_eq]
noncomputable def fB {β:Type} (b:Bool) (K:Bool→β):β:=@Bool.rec (fun _=>β) (K false) (K true) b
theorem fB_eq {β:Type} (b:Bool) (K:Bool→β):fB b K = K b:=by cases b <;> rfl
noncomputable def lk {α:Type} (l:List (Nat × α)) (t:Nat):Option α :=
 @List.rec (Nat × α) (fun _=>Option α) none (fun p _ ih=>@Prod.rec Nat α (fun _=>Option α) (fun k v=>@Bool.rec (fun _=>Option α) ih (some v) (Nat.beq k t)) p) l
theorem lk_eq {α:Type} (l:List (Nat × α)) (t:Nat):lk l t = look l t:=by
 induction l with
 | nil=>rfl
 | cons p r ih =>
   obtain ⟨k,v⟩:=p;unfold look;show @Bool.rec (fun _=>Option α) (lk r t) (some v) (Nat.beq k t) = _;cases Nat.beq k t <;> simp [ih]
noncomputable def nt {α:Type} (l:List α) (n:Nat):Option α :=
 @List.rec α (fun _=>Nat→Option α) (fun _=>none) (fun x _ ih n=>@Nat.rec (fun _=>Option α) (some x) (fun m _=>ih m) n) l n
theorem nt_eq {α:Type} (l:List α) (n:Nat):nt l n = nth l n:=by
 induction l generalizing n with
 | nil=>rfl
 | cons x r ih=>cases n with
   | zero=>rfl
   | succ n=>exact ih n
theorem nth_get {α:Type}:∀ (l:List α) (n:Nat),nth l n = l[n]?
 | [],n=>by simp [nth]
 | x :: r,0=>by simp [nth]
 | x :: r,n + 1=>by simp [nth,nth_get r n]
noncomputable def dr {α:Type} (l:List α) (n:Nat):List α :=
 @List.rec α (fun _=>Nat→List α) (fun _=>[]) (fun x r ih n=>@Nat.rec (fun _=>List α) (x :: r) (fun m _=>ih m) n) l n
theorem dr_eq {α:Type} (l:List α) (n:Nat):dr l n = l.drop n:=by
 induction l generalizing n with
 | nil=>simp [dr]
 | cons x r ih=>cases n with
   | zero=>rfl
   | succ n=>exact ih n
noncomputable def fH {α β:Type} (l:List α) (K:List α→β):β:=@List.rec α (fun _=>β) (K []) (fun x r _=>K (x :: r)) l
theorem fH_eq {α β:Type} (l:List α) (K:List α→β):fH l K = K l:=by cases l <;> rfl
noncomputable def tk {α β:Type} (n:Nat):List α→(List α→Option β)→Option β :=
 @Nat.rec (fun _=>List α→(List α→Option β)→Option β) (fun _ K=>K []) (fun _ ih l K=>@List.rec α (fun _=>Option β) none (fun x r _=>ih r fun q=>K (x :: q)) l) n
theorem tk_eq {α β:Type} (n:Nat) (l:List α) (K:List α→Option β):tk n l K = if n≤l.length then K (l.take n) else none:=by
 induction n generalizing l K with
 | zero=>simp only [Nat.zero_le,if_true,List.take_zero];rfl
 | succ n ih=>cases l with
   | nil=>rfl
   | cons x r =>
     show tk n r (fun q=>K (x :: q)) = _;rw [ih];simp
def bl:Nat→Nat→List UInt8
 | 0,_=>[]
 | l + 1,c=>UInt8.ofNat (c % 256) :: bl l (c / 256)
def bytesOf (l c:Nat):ByteArray:=⟨⟨bl l c⟩⟩
def encL:List UInt8→Nat
 | []=>0
 | b :: r=>b.toNat + 256 * encL r
theorem bl_length:∀ (l c:Nat),(bl l c).length = l
 | 0,_=>rfl
 | l + 1,c=>by simp [bl,bl_length]
theorem bl_enc:∀ (l:List UInt8),bl l.length (encL l) = l
 | []=>rfl
 | b :: r=>by
   have hb:=b.toNat_lt;simp only [List.length_cons,bl,encL];rw [show (b.toNat + 256 * encL r) % 256 = b.toNat by omega,show (b.toNat + 256 * encL r) / 256 = encL r by omega,bl_enc r];simp
theorem bl_get:∀ (l c m:Nat),m < l→(bl l c)[m]? = some (UInt8.ofNat (c / 256 ^ m % 256))
 | 0,c,m,h=>by omega
 | l + 1,c,0,h=>by simp [bl]
 | l + 1,c,m + 1,h=>by
   simp only [bl,List.getElem?_cons_succ];rw [bl_get l _ m (by omega),Nat.div_div_eq_div_mul,Nat.pow_succ,Nat.mul_comm 256]
theorem bl_drop:∀ (l c m:Nat),(bl l c).drop m = bl (l - m) (c / 256 ^ m)
 | 0,c,m=>by simp [bl]
 | l + 1,c,0=>by simp
 | l + 1,c,m + 1=>by
   simp only [bl,List.drop_succ_cons];rw [bl_drop l _ m,Nat.div_div_eq_div_mul,Nat.pow_succ,Nat.mul_comm 256,show l + 1 - (m + 1) = l - m by omega]
theorem bl_take:∀ (l c m:Nat),m≤l→(bl l c).take m = bl m c
 | l,c,0,h=>by simp [bl]
 | 0,c,m + 1,h=>by omega
 | l + 1,c,m + 1,h=>by simp [bl,bl_take l _ m (by omega)]
theorem bl_mod:∀ (l c:Nat),bl l (c % 256 ^ l) = bl l c
 | 0,c=>rfl
 | l + 1,c=>by
   simp only [bl];have h1:c % 256 ^ (l + 1) % 256 = c % 256:=by
    rw [Nat.pow_succ,Nat.mul_comm];exact Nat.mod_mul_right_mod _ _ _
   have h2:c % 256 ^ (l + 1) / 256 = c / 256 % 256 ^ l:=by
    rw [Nat.pow_succ,Nat.mul_comm,Nat.mod_mul_right_div_self]
   rw [h1,h2,bl_mod]
theorem bl_inj:∀ (l c d:Nat),bl l c = bl l d→c % 256 ^ l = d % 256 ^ l
 | 0,c,d,_=>by simp [Nat.mod_one]
 | l + 1,c,d,h=>by
   simp only [bl,List.cons.injEq] at h;have h1:c % 256 = d % 256:=by
    have:=congrArg UInt8.toNat h.1;simpa using this
   have h2:=bl_inj l _ _ h.2;rw [Nat.pow_succ,Nat.mul_comm,Nat.mod_mul,Nat.mod_mul,h1,h2]
theorem bl_app:∀ (l c l' c':Nat),bl l c ++ bl l' c' = bl (l + l') (c % 256 ^ l + 256 ^ l * c')
 | 0,c,l',c'=>by simp [bl,Nat.mod_one]
 | l + 1,c,l',c'=>by
   rw [show l + 1 + l' = (l + l') + 1 by omega];simp only [bl,List.cons_append];rw [bl_app l _ l' c'];have e:c % 256 ^ (l + 1) = c % 256 + 256 * (c / 256 % 256 ^ l):=by
    rw [Nat.pow_succ,Nat.mul_comm (256 ^ l),Nat.mod_mul]
   have e2:256 ^ (l + 1) * c' = 256 * (256 ^ l * c'):=by rw [Nat.pow_succ,Nat.mul_comm (256 ^ l),Nat.mul_assoc]
   rw [e,e2];have hlt:c % 256 < 256:=Nat.mod_lt _ (by omega);rw [show (c % 256 + 256 * (c / 256 % 256 ^ l) + 256 * (256 ^ l * c')) % 256 = c % 256 by omega,show (c % 256 + 256 * (c / 256 % 256 ^ l) + 256 * (256 ^ l * c')) / 256 = c / 256 % 256 ^ l + 256 ^ l * c' by omega]
theorem bytesOf_size (l c:Nat):(bytesOf l c).size = l:=by
 show (bl l c).length = l;exact bl_length l c
theorem bytesOf_enc (b:ByteArray):bytesOf b.size (encL b.data.toList) = b:=by
 obtain ⟨⟨l⟩⟩:=b;show ByteArray.mk ⟨bl l.length (encL l)⟩ = _;rw [bl_enc]
theorem bytesOf_get (l c m:Nat) (h:m < l):((bytesOf l c).get! m).toNat = c / 256 ^ m % 256:=by
 have h1:=bl_get l c m h;show ((bytesOf l c).data[m]!).toNat = _;have:(bytesOf l c).data[m]! = UInt8.ofNat (c / 256 ^ m % 256):=by
  rw [getElem!_def,show (bytesOf l c).data[m]? = some (UInt8.ofNat (c / 256 ^ m % 256)) from by simpa [bytesOf] using h1]
 rw [this];simp
theorem bytesOf_extract (l c lo hi:Nat) (h:hi≤l):(bytesOf l c).extract lo hi = bytesOf (hi - lo) (c / 256 ^ lo):=by
 apply ByteArray.ext;rw [ByteArray.data_extract];show (Array.mk (bl l c)).extract lo hi = Array.mk (bl (hi - lo) (c / 256 ^ lo));apply Array.ext';simp only [Array.toList_extract,List.extract_eq_take_drop];rw [bl_drop,bl_take _ _ _ (by omega)]
theorem bytesOf_mod (l c:Nat):bytesOf l (c % 256 ^ l) = bytesOf l c:=by unfold bytesOf;rw [bl_mod]
theorem bytesOf_app (l c l' c':Nat):bytesOf l c ++ bytesOf l' c' = bytesOf (l + l') (c % 256 ^ l + 256 ^ l * c'):=by
 apply ByteArray.ext;rw [ByteArray.data_append];show Array.mk (bl l c) ++ Array.mk (bl l' c') = Array.mk _;simp [bl_app]
def eqS (l c l' c':Nat):Bool:=match Nat.beq l l' with
 | true=>Nat.beq (Nat.mod c (Nat.pow 256 l)) (Nat.mod c' (Nat.pow 256 l))
 | false=>false
theorem eqS_eq (l c l' c':Nat):eqS l c l' c' = (bytesOf l c == bytesOf l' c'):=by
 unfold eqS;have hb:(bytesOf l c == bytesOf l' c') = decide (bytesOf l c = bytesOf l' c'):=by
  rw [Bool.eq_iff_iff,bytes_beq];simp
 rw [hb];split
 . rename_i h;have h:=Nat.eq_of_beq_eq_true h;subst h;rw [Bool.eq_iff_iff,Nat.beq_eq,decide_eq_true_eq];constructor
   . intro h;have h:c % 256 ^ l = c' % 256 ^ l:=h;rw [← bytesOf_mod l c,h,bytesOf_mod]
   . intro h;exact bl_inj l c c' (by simpa [bytesOf] using h)
 . rename_i h;symm;rw [decide_eq_false_iff_not];intro e;have:=congrArg ByteArray.size e;rw [bytesOf_size,bytesOf_size] at this;subst this;simp at h
inductive C where
 | nilptr | nilmap | nilfunc | niliface
 | unit
 | map (k:Nat)
 | fn (f:Fn) (b:Bool) (cap:List C)
 | iface (t:TypeId) (v:C)
 | fe (n s:Nat) (z:List C) (rows:List (List C)) (i j:Nat)
 | oel (k s i j:Nat)
 | fz (n s:Nat) (full:Bool) (z:List C) (rows:List (List C))
 | tup (vs:List C)
 | agg (cs:List C)
 | nilslice
 | vec (k s lo len:Nat)
 | loc (k off:Nat)
 | str (l c:Nat)
 | bool (b:Bool)
 | int (k:IntKind) (n:Int)
 deriving Inhabited
def lastV:List V→V
 | []=>default
 | [v]=>v
 | _ :: r=>lastV r
def tabz (z:List V) (rows:List (List V)):Nat→Nat→V:=fun i j=>(rows.getD i z).getD j (lastV z)
mutual
def C.v:C→V
 | .bool b=>.bool b
 | .int k n=>.int k n
 | .str l c=>.str (bytesOf l c)
 | .nilptr=>.nilptr | .nilslice=>.nilslice | .nilmap=>.nilmap | .nilfunc=>.nilfunc | .niliface=>.niliface
 | .loc k off=>.loc k off
 | .oel k s i j=>.oel k s i j
 | .vec k s lo len=>.vec k s lo len
 | .fz n s full z rows=>.fz n s full (tabz (C.vs z) (C.vss rows))
 | .fe n s z rows i j=>.fe n s (tabz (C.vs z) (C.vss rows)) i j
 | .map k=>.map k
 | .fn f b cap=>.fn f b (C.vs cap)
 | .iface t v=>.iface t v.v
 | .agg cs=>.agg (C.vs cs)
 | .tup cs=>.tup (C.vs cs)
 | .unit=>.raw (.tuple #[])
def C.vs:List C→List V
 | []=>[]
 | c :: r=>c.v :: C.vs r
def C.vss:List (List C)→List (List V)
 | []=>[]
 | c :: r=>C.vs c :: C.vss r
end
theorem C.vs_map:∀ (l:List C),C.vs l = l.map C.v
 | []=>by simp [C.vs]
 | c :: r=>by simp [C.vs,C.vs_map r]
theorem C.vss_map:∀ (l:List (List C)),C.vss l = l.map C.vs
 | []=>by simp [C.vss]
 | c :: r=>by simp [C.vss,C.vss_map r]
theorem C.vs_length (l:List C):(C.vs l).length = l.length:=by simp [C.vs_map]
theorem C.vs_get (l:List C) (i:Nat):(C.vs l)[i]? = (l[i]?).map C.v:=by simp [C.vs_map]
theorem C.vss_get (l:List (List C)) (i:Nat):(C.vss l)[i]? = (l[i]?).map C.vs:=by simp [C.vss_map]
abbrev CEnv:=List (Nat × C)
inductive CB where
 | cells (cs:List C)
 | vec (n s:Nat) (z:List C) (rows:List (List C))
 | map (ik:IntKind) (es:List (Int × C))
 | mapS (es:List ((Nat × Nat) × C))
 deriving Inhabited
abbrev COwn:=List (Nat × CB)
def CB.b:CB→Blk
 | .cells cs=>.cells (C.vs cs)
 | .vec n s z rows=>.vec n s (tabz (C.vs z) (C.vss rows))
 | .map ik es=>.map (.one ik) (es.map fun p=>(p.1,p.2.v))
 | .mapS es=>.map .str (es.map fun p=>(bytesOf p.1.1 p.1.2,p.2.v))
def envV (e:CEnv):Env:=e.map fun p=>(p.1,p.2.v)
def ownV (o:COwn):Own:=o.map fun p=>(p.1,p.2.b)
theorem look_map {α β:Type} (f:α→β) (l:List (Nat × α)) (t:Nat):look (l.map fun p=>(p.1,f p.2)) t = (look l t).map f:=by
 induction l with
 | nil=>rfl
 | cons p r ih =>
   simp only [List.map_cons,look];cases Nat.beq p.1 t <;> simp [ih]
theorem look_envV {e:CEnv} {t:Nat} {c:C} (h:lk e t = some c):look (envV e) t = some c.v:=by
 rw [lk_eq] at h;rw [envV,look_map,h];rfl
theorem look_ownV {o:COwn} {t:Nat} {c:CB} (h:lk o t = some c):look (ownV o) t = some c.b:=by
 rw [lk_eq] at h;rw [ownV,look_map,h];rfl
def ofV0 (v:V):Option C:=match v with
 | .bool b=>some (.bool b)
 | .int k n=>some (.int k n)
 | .str s=>some (.str s.size (encL s.data.toList))
 | .nilptr=>some .nilptr | .nilslice=>some .nilslice | .nilmap=>some .nilmap | .nilfunc=>some .nilfunc | .niliface=>some .niliface
 | .fn f b []=>some (.fn f b [])
 | _=>none
theorem ofV0_ok {v:V} {c:C} (h:ofV0 v = some c):c.v = v:=by
 unfold ofV0 at h;split at h <;> first
  | (cases h;done)
  | (cases h;simp [C.v,C.vs,bytesOf_enc])
noncomputable def ofVs (l:List V):Option (List C):=@List.rec V (fun _=>Option (List C)) (some []) (fun v _ ih=>match ofV0 v with
 | some c=>match ih with
   | some l=>some (c :: l)
   | none=>none
 | none=>none) l
theorem ofVs_ok:∀ (l:List V) {cs:List C},ofVs l = some cs→C.vs cs = l
 | [],cs,h=>by have h:some [] = some cs:=h;cases h;simp [C.vs]
 | v :: r,cs,h=>by
   have h:(match ofV0 v with
    | some c=>match ofVs r with
      | some l=>some (c :: l)
      | none=>none
    | none=>none) = some cs:=h
   split at h
   . rename_i c hc;split at h
     . rename_i l hl;cases h;simp [C.vs,ofV0_ok hc,ofVs_ok r hl]
     . cases h
   . cases h
noncomputable def ofV (v:V):Option C:=match v with
 | .agg cs=>match ofVs cs with | some l=>some (.agg l) | none=>none
 | v=>ofV0 v
theorem ofV_ok (v:V) {c:C} (h:ofV v = some c):c.v = v:=by
 unfold ofV at h;split at h
 . split at h
   . rename_i l hl;cases h;simp [C.v,ofVs_ok _ hl]
   . cases h
 . exact ofV0_ok h
end Go.Eng
namespace Go.Eng
open Go.IntWalk
noncomputable def gx (x:X) (env:CEnv):Option C:=match x with | .t n=>lk env n | .k v=>ofV v
theorem gx_ok {x:X} {env:CEnv} {c:C} {K:V→Prop} (h:gx x env = some c) (hK:K c.v):x.get (envV env) K:=by
 cases x with
 | t n=>simp only [gx] at h;simp only [X.get,look_envV h];exact hK
 | k v=>simp only [gx] at h;rw [ofV_ok v h] at hK;exact hK
noncomputable def gxs (env:CEnv) (l:List X):Option (List C):=@List.rec X (fun _=>Option (List C)) (some []) (fun x _ ih=>match gx x env with
 | some c=>match ih with | some l=>some (c :: l) | none=>none
 | none=>none) l
theorem gxs_cons (env:CEnv) (x:X) (r:List X):gxs env (x :: r) = match gx x env with
 | some c=>match gxs env r with | some l=>some (c :: l) | none=>none
 | none=>none:=rfl
theorem gxs_ok {env:CEnv}:∀ {xs:List X} {cs:List C} {K:List V→Prop},gxs env xs = some cs→K (C.vs cs)→X.gets (envV env) xs K
 | [],cs,K,h,hK=>by have h:some [] = some cs:=h;cases h;simpa [C.vs,X.gets] using hK
 | x :: r,cs,K,h,hK=>by
   rw [gxs_cons] at h;split at h
   . rename_i c hc;split at h
     . rename_i l hl;cases h;exact gx_ok hc (gxs_ok hl (by simpa [C.vs] using hK))
     . cases h
   . cases h
theorem cmp_ok {b:Bool} {K:V→Prop} (hK:K (.bool b)):cmpK b K:=by
 cases b
 . exact ⟨fun h=>(by cases h),fun _=>hK⟩
 . exact ⟨fun _=>hK,fun h=>(by cases h)⟩
noncomputable def cmpC (b:Bool):Option C:=fB b fun b=>some (.bool b)
theorem cmpC_ok {b:Bool} {c:C} {K:V→Prop} (h:cmpC b = some c) (hK:K c.v):cmpK b K:=by
 simp only [cmpC,fB_eq,Option.some.injEq] at h;subst h;exact cmp_ok (by simpa [C.v] using hK)
def kEq (a b:IntKind):Bool:=Nat.beq a.ctorIdx b.ctorIdx
theorem kEq_ok {a b:IntKind} (h:kEq a b = true):a = b:=by cases a <;> cases b <;> first | rfl | (exact absurd h (by decide))
def mxN:IntKind→Nat
 | .i8=>127 | .i16=>32767 | .i32=>2147483647 | .i64=>9223372036854775807
 | .u8=>255 | .u16=>65535 | .u32=>4294967295 | .u64=>18446744073709551615
def wrC (k:IntKind) (n:Int):Int:=match n with
 | .ofNat m=>match Nat.ble m (mxN k) with | true=>.ofNat m | false=>k.wrap (.ofNat m)
 | .negSucc m=>k.wrap (.negSucc m)
theorem wrC_eq (k:IntKind) (n:Int):wrC k n = k.wrap n:=by
 unfold wrC;split
 . split
   . rename_i h;have h:=Nat.le_of_ble_eq_true h;symm;rw [Int.ofNat_eq_natCast];cases k <;> simp only [mxN] at h
     . exact i8_in _ (by omega)
     . exact i16_in _ (by omega)
     . exact i32_in _ (by omega)
     . exact i64_in _ (by omega)
     . exact u8_in _ (by omega)
     . exact u16_in _ (by omega)
     . exact u32_in _ (by omega)
     . exact u64_in _ (by omega)
   . rfl
 . rfl
noncomputable def arC (k:IntKind) (n:Int):Option C:=fI (wrC k n) fun m=>some (.int k m)
theorem arC_ok {k:IntKind} {n:Int} {c:C} {K:V→Prop} (h:arC k n = some c) (hK:K c.v):Ar k n fun m=>K (.int k m):=by
 simp only [arC,fI_eq,wrC_eq,Option.some.injEq] at h;subst h;exact ⟨_,rfl,by simpa [C.v] using hK⟩
noncomputable def svC (k:IntKind) (n:Int):Option C:=fI n fun m=>some (.int k m)
theorem svC_ok {k:IntKind} {n:Int} {c:C} {K:V→Prop} (h:svC k n = some c) (hK:K c.v):Sv n fun m=>K (.int k m):=by
 simp only [svC,fI_eq,Option.some.injEq] at h;subst h;exact ⟨_,rfl,by simpa [C.v] using hK⟩
def ieq:Int→Int→Bool
 | .ofNat a,.ofNat b=>Nat.beq a b
 | .negSucc a,.negSucc b=>Nat.beq a b
 | _,_=>false
theorem ieq_eq (a b:Int):ieq a b = (a == b):=by
 rw [Bool.eq_iff_iff,beq_iff_eq];cases a <;> cases b <;> simp [ieq] <;> omega
def ile:Int→Int→Bool
 | .ofNat a,.ofNat b=>Nat.ble a b
 | .negSucc a,.negSucc b=>Nat.ble b a
 | .negSucc _,.ofNat _=>true
 | .ofNat _,.negSucc _=>false
theorem ile_eq (a b:Int):ile a b = decide (a≤b):=by
 rw [Bool.eq_iff_iff,decide_eq_true_eq];cases a <;> cases b <;> simp [ile] <;> omega
noncomputable def cint (op:BinOp) (k:IntKind) (a b:Int):Option C :=
 match op with
 | .add=>arC k (Int.add a b)
 | .sub=>arC k (Int.sub a b)
 | .mul=>arC k (Int.mul a b)
 | .quo=>match ieq b 0 with | true=>none | false=>arC k (a.tdiv b)
 | .rem=>match ieq b 0 with | true=>none | false=>svC k (a.tmod b)
 | .and=>svC k (bitI .and k a b)
 | .or=>svC k (bitI .or k a b)
 | .xor=>svC k (bitI .xor k a b)
 | .andNot=>svC k (bitI .andNot k a b)
 | .eql=>cmpC (ieq a b)
 | .neq=>cmpC (!(ieq a b))
 | .lss=>cmpC (!(ile b a))
 | .leq=>cmpC (ile a b)
 | .gtr=>cmpC (!(ile a b))
 | .geq=>cmpC (ile b a)
 | _=>none
theorem cint_ok {bt:BT} {op:BinOp} {k:IntKind} {a b:Int} {c:C} {K:V→Prop} (h:cint op k a b = some c) (hK:K c.v):vbin bt op (.int k a) (.int k b) K:=by
 unfold cint at h;cases op <;> simp only [vbin,decide_true] <;> simp only at h
 case add=>exact arC_ok h hK
 case sub=>exact arC_ok h hK
 case mul=>exact arC_ok h hK
 case quo =>
  split at h
  . cases h
  . rename_i hb;rw [ieq_eq] at hb;exact ⟨by simpa using hb,arC_ok h hK⟩
 case rem =>
  split at h
  . cases h
  . rename_i hb;rw [ieq_eq] at hb;exact ⟨by simpa using hb,svC_ok h hK⟩
 case and=>exact svC_ok h hK
 case or=>exact svC_ok h hK
 case xor=>exact svC_ok h hK
 case andNot=>exact svC_ok h hK
 case eql=>rw [ieq_eq] at h;exact cmpC_ok h hK
 case neq=>rw [ieq_eq] at h;exact cmpC_ok h hK
 case lss =>
  rw [ile_eq] at h;rw [show decide (a < b) = !decide (b≤a) by rw [Bool.eq_iff_iff];simp];exact cmpC_ok h hK
 case leq=>rw [ile_eq] at h;exact cmpC_ok h hK
 case gtr =>
  rw [ile_eq] at h;rw [show decide (a > b) = !decide (a≤b) by rw [Bool.eq_iff_iff];simp];exact cmpC_ok h hK
 case geq =>
  rw [ile_eq] at h;exact cmpC_ok h hK
 case shl=>cases h
 case shr=>cases h
noncomputable def strC (l c:Nat):Option C:=fN l fun l=>fN c fun c=>some (.str l c)
theorem strC_ok {l d:Nat} {c:C} (h:strC l d = some c):c.v = .str (bytesOf l d):=by
 simp only [strC,fN_eq,Option.some.injEq] at h;subst h;simp [C.v]
noncomputable def b_int2 (op:BinOp) (k:IntKind) (a:Int) (k':IntKind) (b:Int):Option C:=match op with
 | .shl=>match b with | .ofNat n=>arC k (a * 2 ^ (min n k.bits)) | .negSucc _=>none
 | .shr=>match b with | .ofNat n=>svC k (a.fdiv (2 ^ (min n k.bits))) | .negSucc _=>none
 | op=>match kEq k k' with | true=>cint op k a b | false=>none
noncomputable def b_int (op:BinOp) (k:IntKind) (a:Int) (y:C):Option C:=match y with
 | .int k' b=>b_int2 op k a k' b
 | _=>none
noncomputable def b_str2 (op:BinOp) (l c l' c':Nat):Option C:=match op with
 | .eql=>cmpC (eqS l c l' c')
 | .neq=>cmpC (!(eqS l c l' c'))
 | .add=>match Nat.ble (l + l') 9223372036854775807 with
   | true=>strC (l + l') (Nat.add (Nat.mod c (Nat.pow 256 l)) (Nat.mul (Nat.pow 256 l) c'))
   | false=>none
 | _=>none
noncomputable def b_str (op:BinOp) (l c:Nat) (y:C):Option C:=match y with
 | .str l' c'=>b_str2 op l c l' c'
 | _=>none
noncomputable def b_bool (bt:BT) (op:BinOp) (a:Bool) (y:C):Option C:=match y with
 | .bool b=>match bt with
   | .bool=>match op with
     | .eql=>cmpC (a == b)
     | .neq=>cmpC (!(a == b))
     | _=>none
   | _=>none
 | _=>none
def b_slc (bt:BT) (op:BinOp) (n:Nat) (y:C):Option C:=match n with
 | 0=>none
 | _ + 1=>match y with
   | .nilslice=>match bt with
     | .slc=>match op with
       | .eql=>some (.bool false)
       | .neq=>some (.bool true)
       | _=>none
     | _=>none
   | _=>none
def b_nil (bt:BT) (op:BinOp) (y:C):Option C:=match y with
 | .nilslice=>match bt with
   | .slc=>match op with
     | .eql=>some (.bool true)
     | .neq=>some (.bool false)
     | _=>none
   | _=>none
 | _=>none
noncomputable def cbin (bt:BT) (op:BinOp) (x y:C):Option C :=
 match x with
 | .int k a=>b_int op k a y
 | .str l c=>b_str op l c y
 | .bool a=>b_bool bt op a y
 | .fz n _ _ _ _=>b_slc bt op n y
 | .vec _ _ _ n=>b_slc bt op n y
 | .nilslice=>b_nil bt op y
 | _=>none
theorem cbin_ok {bt:BT} {op:BinOp} {x y c:C} {K:V→Prop} (h:cbin bt op x y = some c) (hK:K c.v):vbin bt op x.v y.v K:=by
 unfold cbin at h;split at h
 . unfold b_int at h;split at h
   . rename_i k a _ k' b;unfold b_int2 at h;simp only [C.v];split at h
     . split at h
       . rename_i n;simp only [vbin];refine ⟨by simp,?_⟩;have e:(Int.ofNat n).toNat = n:=rfl;rw [e];exact arC_ok h hK
       . cases h
     . split at h
       . rename_i n;simp only [vbin];refine ⟨by simp,?_⟩;have e:(Int.ofNat n).toNat = n:=rfl;rw [e];exact svC_ok h hK
       . cases h
     . split at h
       . rename_i hk;have:=kEq_ok hk;subst this;exact cint_ok h hK
       . cases h
   . cases h
 . unfold b_str at h;split at h
   . unfold b_str2 at h;simp only [C.v,vbin];split at h
     . rw [eqS_eq] at h;exact cmpC_ok h hK
     . rw [eqS_eq] at h;exact cmpC_ok h hK
     . split at h
       . rename_i l c _ l' c' hle;rw [bytesOf_size,bytesOf_size];refine ⟨fun _=>?_,fun hf=>?_⟩
         . rw [bytesOf_app];rw [strC_ok h] at hK;exact hK
         . have:=Nat.le_of_ble_eq_true hle;simp [this] at hf
       . cases h
     . cases h
   . cases h
 . unfold b_bool at h;split at h
   . split at h
     . split at h
       . simp only [C.v,vbin];exact cmpC_ok h hK
       . simp only [C.v,vbin];exact cmpC_ok h hK
       . cases h
     . cases h
   . cases h
 . unfold b_slc at h;split at h
   . cases h
   . split at h
     . split at h
       . split at h
         . cases h;simp only [C.v,vbin];exact ⟨fun e=>(by cases e),fun _=>(by simpa [C.v] using hK)⟩
         . cases h;simp only [C.v,vbin];exact ⟨fun e=>(by cases e),fun _=>(by simpa [C.v] using hK)⟩
         . cases h
       . cases h
     . cases h
 . unfold b_slc at h;split at h
   . cases h
   . split at h
     . split at h
       . split at h
         . cases h;simp only [C.v,vbin];exact ⟨fun e=>(by cases e),fun _=>(by simpa [C.v] using hK)⟩
         . cases h;simp only [C.v,vbin];exact ⟨fun e=>(by cases e),fun _=>(by simpa [C.v] using hK)⟩
         . cases h
       . cases h
     . cases h
 . unfold b_nil at h;split at h
   . split at h
     . split at h
       . cases h;simp only [C.v,vbin];simpa [C.v] using hK
       . cases h;simp only [C.v,vbin];simpa [C.v] using hK
       . cases h
     . cases h
   . cases h
 . cases h
noncomputable def cbd (x:Option X) (env:CEnv) (d n:Nat):Option Nat:=match x with
 | none=>some d
 | some x=>match gx x env with
   | some (.int _ (.ofNat m))=>match Nat.ble m n with | true=>some m | false=>none
   | _=>none
theorem cbd_ok {x:Option X} {env:CEnv} {d n m:Nat} {K:Nat→Prop} (h:cbd x env d n = some m) (hK:K m):bdK x (envV env) d n K:=by
 unfold cbd at h;split at h
 . cases h;exact hK
 . split at h
   . rename_i hx;split at h
     . rename_i hb;cases h;refine gx_ok hx ?_;simp only [C.v];exact ⟨_,rfl,Nat.le_of_ble_eq_true hb,hK⟩
     . cases h
   . cases h
theorem shiftF_tabz (l:Nat) (z:List V) (rows:List (List V)):shiftF l (tabz z rows) = tabz z (rows.drop l):=by
 funext i j;rw [shiftF_eq];simp [tabz,List.getD_eq_getElem?_getD]
theorem shiftF_tabzC (l:Nat) (z:List C) (rows:List (List C)):shiftF l (tabz (C.vs z) (C.vss rows)) = tabz (C.vs z) (C.vss (rows.drop l)):=by
 rw [shiftF_tabz,C.vss_map,C.vss_map,List.map_drop]
noncomputable def cslc (own:COwn) (s:Nat) (x:X) (lo hi:Option X) (env:CEnv):Option C :=
 match gx x env with
 | some (.fz n s' full z rows)=>match Nat.beq s s' with
   | true=>match cbd hi env n n with
     | some h=>match cbd lo env 0 h with
       | some l=>fN (h - l) fun m=>fH (dr rows l) fun q=>some (.fz m s (match hi with | none=>full | some _=>false) z q)
       | none=>none
     | none=>none
   | false=>none
 | some .nilslice=>match cbd hi env 0 0 with
   | some h=>match cbd lo env 0 h with
     | some _=>some .nilslice
     | none=>none
   | none=>none
 | some (.vec k s' lo0 len)=>match Nat.beq s s' with
   | true=>match lk own k with
     | some (.vec n _ _ _)=>match Nat.ble (lo0 + len) n with
       | true=>match cbd hi env len (n - lo0) with
         | some h=>match cbd lo env 0 h with
           | some l=>fN (lo0 + l) fun a=>fN (h - l) fun b=>some (.vec k s a b)
           | none=>none
         | none=>none
       | false=>none
     | _=>match cbd hi env len len with
        | some h=>match cbd lo env 0 h with
          | some l=>fN (lo0 + l) fun a=>fN (h - l) fun b=>some (.vec k s a b)
          | none=>none
        | none=>none
   | false=>none
 | _=>none
theorem cslc_ok {own:COwn} {s:Nat} {x:X} {lo hi:Option X} {same:Bool} {env:CEnv} {c:C} {K:V→Prop} (h:cslc own s x lo hi env = some c) (hK:K c.v):vslc (ownV own) s x lo hi none same (envV env) K:=by
 unfold cslc at h;unfold vslc;split at h
 . rename_i n s' full z rows hx;refine gx_ok hx ?_;simp only [C.v];split at h
   . rename_i hs;simp only [hs];split at h
     . rename_i hh e1;split at h
       . rename_i ll e2;refine cbd_ok e1 (cbd_ok e2 ?_);simp only [fN_eq,fH_eq,dr_eq,Option.some.injEq] at h;subst h;rw [shiftF_tabzC];simp only [C.v] at hK;exact hK
       . cases h
     . cases h
   . cases h
 . rename_i hx;refine gx_ok hx ?_;simp only [C.v];split at h
   . rename_i hh e1;split at h
     . rename_i ll e2;cases h;exact cbd_ok e1 (cbd_ok e2 (by simpa [C.v] using hK))
     . cases h
   . cases h
 . rename_i k s' lo0 len hx;refine gx_ok hx ?_;simp only [C.v];split at h
   . rename_i hs;simp only [hs];split at h
     . rename_i n s'' z rows hl;rw [look_ownV hl];simp only [CB.b];split at h
       . rename_i hle;refine ⟨fun _=>?_,fun hf=>by rw [hle] at hf;cases hf⟩;split at h
         . rename_i hh e1;split at h
           . rename_i ll e2;refine cbd_ok e1 (cbd_ok e2 ?_);simp only [fN_eq,Option.some.injEq] at h;subst h;simpa [C.v] using hK
           . cases h
         . cases h
       . cases h
     . rename_i hne;have key:∀ {A:Nat→Nat→(Nat→Nat→V)→Prop} {B:Prop},B→(match look (ownV own) k with | some (.vec n s f)=>A n s f | _=>B):=by
        intro A B hB;rw [ownV,look_map,← lk_eq];cases hl:lk own k with
        | none=>exact hB
        | some b=>cases b with
          | vec n s z rows=>exact (hne n s z rows hl).elim
          | _=>exact hB
       refine key ?_;split at h
       . rename_i hh e1;split at h
         . rename_i ll e2;refine cbd_ok e1 (cbd_ok e2 ?_);simp only [fN_eq,Option.some.injEq] at h;subst h;simpa [C.v] using hK
         . cases h
       . cases h
   . cases h
 . cases h
noncomputable def cslc3 (s:Nat) (x:X) (lo:Option X) (hi mx:X) (same:Bool) (env:CEnv):Option C :=
 match gx x env with
 | some (.fz n s' _ z rows)=>match Nat.beq s s' with
   | true=>match cbd (some mx) env n n with
     | some m=>match cbd (some hi) env n m with
       | some h=>match cbd lo env 0 h with
         | some l=>fN (h - l) fun m=>fH (dr rows l) fun q=>some (.fz m s same z q)
         | none=>none
       | none=>none
     | none=>none
   | false=>none
 | _=>none
theorem cslc3_ok {own:Own} {s:Nat} {x:X} {lo:Option X} {hi mx:X} {same:Bool} {env:CEnv} {c:C} {K:V→Prop} (h:cslc3 s x lo hi mx same env = some c) (hK:K c.v):vslc own s x lo (some hi) (some mx) same (envV env) K:=by
 unfold cslc3 at h;unfold vslc;split at h
 . rename_i n s' full z rows hx;refine gx_ok hx ?_;simp only [C.v];split at h
   . rename_i hs;simp only [hs];split at h
     . rename_i m e0;split at h
       . rename_i hh e1;split at h
         . rename_i ll e2;refine cbd_ok e0 (cbd_ok e1 (cbd_ok e2 ?_));simp only [fN_eq,fH_eq,dr_eq,Option.some.injEq] at h;subst h;rw [shiftF_tabzC];simp only [C.v] at hK;exact hK
         . cases h
       . cases h
     . cases h
   . cases h
 . cases h
def cix (i:Int) (n:Nat):Option Nat:=match i with
 | .ofNat m=>match Nat.blt m n with | true=>some m | false=>none
 | .negSucc _=>none
theorem cix_ok {i:Int} {n m:Nat} {K:Nat→Prop} (h:cix i n = some m) (hK:K m):Ix i n K:=by
 unfold cix at h;split at h
 . split at h
   . rename_i hb;cases h;exact ⟨m,rfl,Nat.le_of_ble_eq_true hb,hK⟩
   . cases h
 . cases h
theorem takeK_ok {α:Type}:∀ (l:List α) (o n:Nat) (K:List α→Prop),n≤(l.drop o).length→K ((l.drop o).take n)→takeK l o n K
 | l,o,0,K,_,h=>by cases l <;> cases o <;> simpa [takeK] using h
 | [],o,n + 1,K,hl,h=>by simp at hl
 | x :: r,0,n + 1,K,hl,h=>by
   simp only [takeK];exact takeK_ok r 0 n _ (by simpa using hl) (by simpa using h)
 | x :: r,o + 1,n + 1,K,hl,h=>by
   simp only [takeK];exact takeK_ok r o (n + 1) _ (by simpa using hl) (by simpa using h)
noncomputable def aggC (l:List C) (o n:Nat):Option C:=tk n (dr l o) fun q=>some (.agg q)
theorem aggC_ok {l:List C} {o n:Nat} {c:C} {K:V→Prop} (h:aggC l o n = some c) (hK:K c.v):takeK (C.vs l) o n fun l=>K (.agg l):=by
 unfold aggC at h;rw [tk_eq,dr_eq] at h;split at h
 . rename_i hl;cases h;refine takeK_ok _ _ _ _ (by simpa [C.vs_map] using hl) ?_;simp only [C.v,C.vs_map] at hK;simpa [C.vs_map] using hK
 . cases h
theorem nth_vs {l:List C} {i:Nat} {c:C} (h:nt l i = some c):nth (C.vs l) i = some c.v:=by
 rw [nt_eq,nth_get] at h;rw [nth_get,C.vs_get,h];rfl
noncomputable def p_mv (x:X) (env:CEnv):Option C:=gx x env
noncomputable def p_fld (off:Nat) (x:X) (env:CEnv):Option C:=match gx x env with
 | some (.loc k o)=>fN (o + off) fun m=>some (.loc k m)
 | some (.oel k s i j)=>fN (j + off) fun m=>some (.oel k s i m)
 | some (.fe n s z rows i j)=>fN (j + off) fun m=>some (.fe n s z rows i m)
 | _=>none
noncomputable def p_nilchk (x:X) (env:CEnv):Option C:=match gx x env with
 | some (.loc k o)=>some (.loc k o)
 | some (.oel k s i j)=>some (.oel k s i j)
 | some (.fe n s z rows i j)=>some (.fe n s z rows i j)
 | some (.iface t v)=>some (.iface t v)
 | _=>none
noncomputable def p_bin (bt:BT) (op:BinOp) (x:X) (y:X) (env:CEnv):Option C:=match gx x env with
 | some a=>match gx y env with
   | some b=>cbin bt op a b
   | none=>none
 | none=>none
noncomputable def p_pick (c:X) (a:X) (b:X) (env:CEnv):Option C:=match gx c env with
 | some (.bool true)=>gx a env
 | some (.bool false)=>gx b env
 | _=>none
noncomputable def p_slcs (x:X) (lo:Option X) (hi:Option X) (env:CEnv):Option C:=match gx x env with
 | some (.str l c)=>match cbd hi env l l with
   | some h=>match cbd lo env 0 h with
     | some a=>strC (h - a) (Nat.mod (Nat.div c (Nat.pow 256 a)) (Nat.pow 256 (h - a)))
     | none=>none
   | none=>none
 | _=>none
noncomputable def p_ixstr (x:X) (i:X) (env:CEnv):Option C:=match gx x env with
 | some (.str l c)=>match gx i env with
   | some (.int _ i)=>match cix i l with
     | some m=>fN (Nat.mod (Nat.div c (Nat.pow 256 m)) 256) fun b=>some (.int .u8 (.ofNat b))
     | none=>none
   | _=>none
 | _=>none
noncomputable def p_mkfn (f:Fn) (b:Bool) (cap:List X) (env:CEnv):Option C:=match gxs env cap with
 | some l=>some (.fn f b l)
 | none=>none
noncomputable def p_un (op:UnOp) (x:X) (env:CEnv):Option C:=match gx x env with
 | some (.bool b)=>match op with
   | .not=>match b with | true=>some (.bool false) | false=>some (.bool true)
   | _=>none
 | some (.int k n)=>match op with
   | .neg=>arC k (0 - n)
   | .xor=>svC k (bitI .xor k (if k.signed then -1 else k.max) n)
   | _=>none
 | _=>none
noncomputable def p_toint (k:IntKind) (x:X) (env:CEnv):Option C:=match gx x env with
 | some (.int _ n)=>arC k n
 | _=>none
noncomputable def p_sel (off:Nat) (sz:Option Nat) (x:X) (env:CEnv):Option C:=match gx x env with
 | some (.agg cs)=>match sz with
   | none=>nt cs off
   | some n=>aggC cs off n
 | _=>none
noncomputable def p_ixs (s:Nat) (x:X) (i:X) (env:CEnv):Option C:=match gx x env with
 | some (.fz n s' _ z rows)=>match Nat.beq s s' with
   | true=>match gx i env with
     | some (.int _ i)=>match cix i n with
       | some m=>some (.fe n s z rows m 0)
       | none=>none
     | _=>none
   | false=>none
 | some (.vec k s' lo len)=>match Nat.beq s s' with
   | true=>match gx i env with
     | some (.int _ i)=>match cix i len with
       | some m=>fN (lo + m) fun m=>some (.oel k s m 0)
       | none=>none
     | _=>none
   | false=>none
 | _=>none
noncomputable def p_ixa (n:Nat) (s:Nat) (x:X) (i:X) (env:CEnv):Option C:=match gx x env with
 | some (.loc k o)=>match gx i env with
   | some (.int _ i)=>match cix i n with
     | some m=>fN (o + m * s) fun m=>some (.loc k m)
     | none=>none
   | _=>none
 | some (.fe n' s' z rows i0 j0)=>match gx i env with
   | some (.int _ i)=>match cix i n with
     | some m=>fN (j0 + m * s) fun m=>some (.fe n' s' z rows i0 m)
     | none=>none
   | _=>none
 | some (.oel k s' i0 j0)=>match Nat.beq s s',i0,j0 with
   | true,0,0=>match gx i env with
     | some (.int _ i)=>match cix i n with
       | some m=>some (.oel k s m 0)
       | none=>none
     | _=>none
   | _,_,_=>match gx i env with
     | some (.int _ i)=>match cix i n with
       | some m=>fN (j0 + m * s) fun j=>some (.oel k s' i0 j)
       | none=>none
     | _=>none
 | _=>none
noncomputable def p_ext (x:X) (i:Nat) (env:CEnv):Option C:=match gx x env with
 | some (.tup vs)=>nt vs i
 | _=>none
noncomputable def p_len (x:X) (env:CEnv):Option C:=match gx x env with
 | some (.fz n _ _ _ _)=>some (.int .i64 (.ofNat n))
 | some (.vec _ _ _ n)=>some (.int .i64 (.ofNat n))
 | some .nilslice=>some (.int .i64 0)
 | _=>none
noncomputable def p_lens (x:X) (env:CEnv):Option C:=match gx x env with
 | some (.str l _)=>some (.int .i64 (.ofNat l))
 | _=>none
noncomputable def p_mn (x:X) (y:X) (env:CEnv):Option C:=match gx x env with
 | some (.int k a)=>match gx y env with
   | some (.int _ b)=>match ile a b with
     | true=>some (.int k a)
     | false=>some (.int k b)
   | _=>none
 | _=>none
noncomputable def p_mx (x:X) (y:X) (env:CEnv):Option C:=match gx x env with
 | some (.int k a)=>match gx y env with
   | some (.int _ b)=>match ile b a with
     | true=>some (.int k a)
     | false=>some (.int k b)
   | _=>none
 | _=>none
noncomputable def cpure (o:POp) (env:CEnv):Option C :=
 match o with
 | .slc _ _ _ _ _ _=>none
 | .mv x=>p_mv x env
 | .fld off x=>p_fld off x env
 | .nilchk x=>p_nilchk x env
 | .bin bt op x y=>p_bin bt op x y env
 | .pick c a b=>p_pick c a b env
 | .slcs x lo hi=>p_slcs x lo hi env
 | .ixstr x i=>p_ixstr x i env
 | .mkfn f b cap=>p_mkfn f b cap env
 | .un op x=>p_un op x env
 | .toint k x=>p_toint k x env
 | .sel off sz x=>p_sel off sz x env
 | .ixs s x i=>p_ixs s x i env
 | .ixa n s x i=>p_ixa n s x i env
 | .ext x i=>p_ext x i env
 | .len x=>p_len x env
 | .lens x=>p_lens x env
 | .mn x y=>p_mn x y env
 | .mx x y=>p_mx x y env
theorem cpure_ok {o:POp} {env:CEnv} {c:C} {K:V→Prop} (h:cpure o env = some c) (hK:K c.v):vpure o (envV env) K:=by
 cases o with
 | slc=>cases h
 | mv x=>simp only [cpure,p_mv] at h;exact gx_ok h hK
 | fld off x =>
   simp only [cpure,p_fld] at h;simp only [vpure];split at h <;> first
    | (cases h;done)
    | (rename_i hx
       refine gx_ok hx ?_;simp only [C.v];simp only [fN_eq,Option.some.injEq] at h;subst h;simpa only [C.v] using hK)
 | nilchk x =>
   simp only [cpure,p_nilchk] at h;simp only [vpure];split at h <;> first
    | (cases h;done)
    | (rename_i hx
       refine gx_ok hx ?_;cases h;simpa only [C.v] using hK)
 | bin bt op x y =>
   simp only [cpure,p_bin] at h;simp only [vpure];split at h
   . rename_i a ha;split at h
     . rename_i b hb;exact gx_ok ha (gx_ok hb (cbin_ok h hK))
     . cases h
   . cases h
 | pick c a b =>
   simp only [cpure,p_pick] at h;simp only [vpure];split at h
   . rename_i hc;refine gx_ok hc ?_;simp only [C.v];exact gx_ok h hK
   . rename_i hc;refine gx_ok hc ?_;simp only [C.v];exact gx_ok h hK
   . cases h
 | slcs x lo hi =>
   simp only [cpure,p_slcs] at h;simp only [vpure];split at h
   . rename_i l d hx;refine gx_ok hx ?_;simp only [C.v,bytesOf_size];split at h
     . rename_i hh e1;split at h
       . rename_i a e2;have hle:hh≤l:=by
          unfold cbd at e1;split at e1
          . cases e1;exact Nat.le_refl _
          . split at e1
            . split at e1
              . rename_i hb;cases e1;exact Nat.le_of_ble_eq_true hb
              . cases e1
            . cases e1
         refine cbd_ok e1 (cbd_ok e2 ?_);rw [bytesOf_extract _ _ _ _ hle,← bytesOf_mod];rw [strC_ok h] at hK;exact hK
       . cases h
     . cases h
   . cases h
 | ixstr x i =>
   simp only [cpure,p_ixstr] at h;simp only [vpure];split at h
   . rename_i l d hx;split at h
     . rename_i k n hi;refine gx_ok hx (gx_ok hi ?_);simp only [C.v,bytesOf_size];split at h
       . rename_i m hm;refine cix_ok hm ?_;have hlt:m < l:=by
          unfold cix at hm;split at hm
          . split at hm
            . rename_i hb;cases hm;exact Nat.le_of_ble_eq_true hb
            . cases hm
          . cases hm
         simp only [fN_eq,Option.some.injEq] at h;subst h;rw [bytesOf_get _ _ _ hlt];simp only [C.v] at hK;exact hK
       . cases h
     . cases h
   . cases h
 | mkfn f b cap =>
   simp only [cpure,p_mkfn] at h;simp only [vpure];split at h
   . rename_i l hl;cases h;exact gxs_ok hl (by simpa only [C.v] using hK)
   . cases h
 | un op x =>
   simp only [cpure,p_un] at h;simp only [vpure];split at h
   . rename_i b hx;refine gx_ok hx ?_;simp only [C.v];split at h
     . split at h
       . cases h;simpa only [C.v] using hK
       . cases h;simpa only [C.v] using hK
     . cases h
   . rename_i k n hx;refine gx_ok hx ?_;simp only [C.v];split at h
     . exact arC_ok h hK
     . exact svC_ok h hK
     . cases h
   . cases h
 | toint k x =>
   simp only [cpure,p_toint] at h;simp only [vpure];split at h
   . rename_i hx;refine gx_ok hx ?_;simp only [C.v];exact arC_ok h hK
   . cases h
 | sel off sz x =>
   simp only [cpure,p_sel] at h;simp only [vpure];split at h
   . rename_i cs hx;refine gx_ok hx ?_;simp only [C.v];split at h
     . rw [nth_vs h];exact hK
     . exact aggC_ok h hK
   . cases h
 | ixs s x i =>
   simp only [cpure,p_ixs] at h;simp only [vpure];split at h
   . rename_i n s' full z rows hx;split at h
     . rename_i hs;split at h
       . rename_i hi;refine gx_ok hx (gx_ok hi ?_);simp only [C.v,hs];split at h
         . rename_i hm;cases h;exact cix_ok hm (by simpa only [C.v] using hK)
         . cases h
       . cases h
     . cases h
   . rename_i k s' lo len hx;split at h
     . rename_i hs;split at h
       . rename_i hi;refine gx_ok hx (gx_ok hi ?_);simp only [C.v,hs];split at h
         . rename_i hm;simp only [fN_eq,Option.some.injEq] at h;subst h;exact cix_ok hm (by simpa only [C.v] using hK)
         . cases h
       . cases h
     . cases h
   . cases h
 | ixa n s x i =>
   simp only [cpure,p_ixa] at h;simp only [vpure];split at h
   . rename_i k o hx;split at h
     . rename_i hi;refine gx_ok hx (gx_ok hi ?_);simp only [C.v];split at h
       . rename_i hm;simp only [fN_eq,Option.some.injEq] at h;subst h;exact cix_ok hm (by simpa only [C.v] using hK)
       . cases h
     . cases h
   . rename_i hx;split at h
     . rename_i hi;refine gx_ok hx (gx_ok hi ?_);simp only [C.v];split at h
       . rename_i hm;simp only [fN_eq,Option.some.injEq] at h;subst h;exact cix_ok hm (by simpa only [C.v] using hK)
       . cases h
     . cases h
   . rename_i hx;split at h
     . rename_i hs;split at h
       . rename_i hi;refine gx_ok hx (gx_ok hi ?_);simp only [C.v,hs];split at h
         . rename_i hm;cases h;exact cix_ok hm (by simpa only [C.v] using hK)
         . cases h
       . cases h
     . rename_i hne;split at h
       . rename_i hi;refine gx_ok hx (gx_ok hi ?_);simp only [C.v];split at h
         . rename_i hm;simp only [fN_eq,Option.some.injEq] at h;subst h;exact cix_ok hm (by simpa only [C.v] using hK)
         . cases h
       . cases h
   . cases h
 | ext x i =>
   simp only [cpure,p_ext] at h;simp only [vpure];split at h
   . rename_i hx;refine gx_ok hx ?_;simp only [C.v];rw [nth_vs h];exact hK
   . cases h
 | len x =>
   simp only [cpure,p_len] at h;simp only [vpure];split at h <;> first
    | (cases h;done)
    | (rename_i hx
       refine gx_ok hx ?_;cases h;simp only [C.v] at hK;simp only [C.v];exact hK)
 | lens x =>
   simp only [cpure,p_lens] at h;simp only [vpure];split at h
   . rename_i hx;refine gx_ok hx ?_;cases h;simp only [C.v] at hK;simp only [C.v,bytesOf_size];exact hK
   . cases h
 | mn x y =>
   simp only [cpure,p_mn] at h;simp only [vpure];split at h
   . rename_i hx;split at h
     . rename_i hy;refine gx_ok hx (gx_ok hy ?_);simp only [C.v];refine ⟨_,rfl,?_⟩;split at h
       . rename_i hc;rw [ile_eq] at hc;cases h;have hc:=of_decide_eq_true hc;rw [if_neg (by omega)];simpa only [C.v] using hK
       . rename_i hc;rw [ile_eq] at hc;cases h;have hc:=of_decide_eq_false hc;rw [if_pos (by omega)];simpa only [C.v] using hK
     . cases h
   . cases h
 | mx x y =>
   simp only [cpure,p_mx] at h;simp only [vpure];split at h
   . rename_i hx;split at h
     . rename_i hy;refine gx_ok hx (gx_ok hy ?_);simp only [C.v];refine ⟨_,rfl,?_⟩;split at h
       . rename_i hc;rw [ile_eq] at hc;cases h;have hc:=of_decide_eq_true hc;rw [if_neg (by omega)];simpa only [C.v] using hK
       . rename_i hc;rw [ile_eq] at hc;cases h;have hc:=of_decide_eq_false hc;rw [if_pos (by omega)];simpa only [C.v] using hK
     . cases h
   . cases h
end Go.Eng
