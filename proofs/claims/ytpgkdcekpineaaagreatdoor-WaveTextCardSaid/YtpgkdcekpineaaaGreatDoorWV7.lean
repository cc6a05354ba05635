import Derived.Test.YtpgkdcekpineaaaGreatDoorWT3
import Derived.Test.YtpgkdcekpineaaaGreatDoorEngAB
namespace Go.Proofs.YtpgkdcekpineaaaGreatDoor
open Go.Eng
set_option maxRecDepth 100000
set_option linter.unusedVariables false
theorem same35_ok (a b:List Int) (ha:a.length≤1000000) (hb:b.length≤1000000):Ret Tryz.prog 36 [.fz a.length 1 false (vI a),.fz b.length 1 false (vI b)] (.bool (decide (a = b))):=by
 refine ret_frz rfl ?_;refine fn_rule mixed Tryz.func36 rfl hc36 hr36 rfl ?_
 repeat' ((conv=>whnf);first | (refine Br.bne ?_ ?_ <;> intro _ <;> try omega))
 all_goals (conv=>whnf)
 . exact VLe.bool (by rw [decide_eq_false (fun h=>by subst h;omega)])
 refine loop_r mixed [0,1] (fun i:Nat=>[(5,.int .i64 i)]) (fun m i=>m = a.length - i∧i≤a.length∧∀ j,j < i→gI a j = gI b j) a.length 0 ⟨rfl,Nat.zero_le _,fun j hj=>by omega⟩ ?_ ?_
 . exact weak_b (fun _ _=>[])
 rintro m i ⟨hm,hi,hall⟩
 repeat' ((conv=>whnf);first | (refine Br.dec ?_ ?_ <;> intro _ <;> try omega) | (refine Br.bne ?_ ?_ <;> intro _ <;> try omega) | (refine Ar.i64 (by omega) (by omega) ?_) | (refine Ix.nat (by omega) ?_))
 all_goals (conv=>whnf)
 . rename_i hne;exact VLe.bool (by rw [decide_eq_false (fun h=>by subst h;exact hne rfl)])
 . refine ⟨a.length - (i + 1),i + 1,by omega,⟨rfl,by omega,fun j hj=>?_⟩,?_⟩
   . by_cases e:j = i
     . subst e;assumption
     . exact hall j (by omega)
   . exact weak_b (fun _ _=>[])
 . have e:a = b:=List.ext_getElem (by omega) (fun j h1 h2=>by
    have:=hall j (by omega);simpa [gI,List.getD,List.getElem?_eq_getElem h1,List.getElem?_eq_getElem h2] using this)
   exact VLe.bool (by rw [decide_eq_true e])
def t2:G:=⟨[0,1],[[(1,1)],[(0,1)]]⟩
theorem t2_small:t2.Small:=⟨by decide,by decide,by decide⟩
set_option maxHeartbeats 4000000 in
theorem tree2:Ret Tryz.prog 34 [.agg [.int .i64 2,.nilslice,.nilslice,.nilslice,.bool false,.bool false],.int .i64 2] t2.v:=by
 refine ret_frz2 rfl ?_;refine fn_rule mixed Tryz.func34 rfl hc34 hr34 rfl ?_
 repeat' ((conv=>whnf);first | (refine MkS.cells ?_) | (refine Bd.mk 2 (by decide) (by omega) ?_) | (refine Sv.mk 1 (by decide) ?_) | (refine Br.tt ?_) | (refine Br.ff ?_) | (refine Ar.i64 (by omega) (by omega) ?_) | (refine Nz.mk (by omega) ?_) | (refine Ix.mk 0 rfl (by omega) ?_) | (refine Ix.mk 1 rfl (by omega) ?_) | (refine Len.mk (by omega) ?_) | (refine Ltn.mk (by omega) ?_) | (refine And.intro rfl ?_) | (refine fn_rule mixed Tryz.func72 rfl hc72 hr72 rfl ?_) | (refine fn_rule mixed Tryz.func73 rfl hc73 hr73 rfl ?_) | (refine fn_rule mixed Tryz.func119 rfl hc119 hr119 rfl ?_) | (refine w_0_256.go ?_) | (refine w_0_15.go ?_) | (refine w_0_1.go ?_) | (refine w_1_2.go ?_) | (refine loop_fuel mixed 20 ?_) | (refine call_frz [] (at_nil 0) ⟨VLe.nilfz rfl,VLe.int (by omega),True.intro⟩ ?_) | (refine call_frz [] (at_nil 1) ⟨VLe.nilfz rfl,VLe.int (by omega),True.intro⟩ ?_))
 all_goals (conv=>whnf)
 refine VLe.agg ⟨VLe.fz rfl (fun h=>h) (fun i j hi hj=>?_),VLe.fz rfl (fun h=>h) (fun i j hi hj=>?_),True.intro⟩
 . rcases i with _ | _ | i
   all_goals first | (exfalso;omega) | (rcases j with _ | j;exact VLe.rfl;exfalso;omega)
 . rcases i with _ | _ | i
   all_goals first | (exfalso;omega) | skip
   all_goals
    obtain rfl:j = 0:=by omega
    conv=>arg 1;whnf
    conv=>arg 2;whnf
    refine VLe.fz rfl (fun h=>h) (fun i j hi hj=>?_);rcases i with _ | i
    all_goals first | (exfalso;omega) | (rcases j with _ | _ | j;exact VLe.rfl;exact VLe.rfl;exfalso;omega)
def wA:Cf:=[[0,-1,0,0],[1,0,0,0]]
def wB:Cf:=[[0,-1,0,1],[1,0,0,1]]
def wWs:List Nat:=[1,2,2,1]
theorem conf_ofBW {g:G} {c:Cf} (h1:c.length = g.ids.length) (h2:(List.range c.length).all (fun v=>decide ((gC c v).length = 4) && (List.range 4).all fun x=>decide ((bnd g (gV pWav.vars x) v).1≤gI (gC c v) x∧gI (gC c v) x≤(bnd g (gV pWav.vars x) v).2)) = true):Conf pWav g c:=by
 simp only [List.all_eq_true,List.mem_range,Bool.and_eq_true,decide_eq_true_eq] at h2;exact ⟨h1,fun v hv=>(h2 v hv).1,fun v hv x hx=>(h2 v hv).2 x hx⟩
theorem wconfA:Conf pWav t2 wA:=conf_ofBW rfl (by decide +kernel)
theorem wA_small:CSmall wA:=⟨by decide,by simp [wA]⟩
theorem wlegA:t2.wleg wA = true:=by decide +kernel
theorem wlastA:lastC (trc pWav t2 1 wA (cnt0 (enN pWav t2 wA)) wWs) = wB:=by decide +kernel
theorem t2_ecc:t2.ecc = 1:=by decide +kernel
theorem t2_conn:t2.conn = true:=by decide +kernel
theorem wrow4 (a b d e:Int) (f:Nat→Nat→V) (h0:f 0 0 = .int .i64 a) (h1:f 1 0 = .int .i64 b) (h2:f 2 0 = .int .i64 d) (h3:f 3 0 = .int .i64 e):VLe (.fz 4 1 false f) (.fz 4 1 false (vI [a,b,d,e])):=VLe.fz rfl (fun h=>h) (four_le a b d e f h0 h1 h2 h3)
theorem wrows (k1 k2 f:Nat→Nat→V) (h1:VLe (.fz 4 1 false k1) (.fz 4 1 false (vI [0,-1,0,0]))) (h2:VLe (.fz 4 1 false k2) (.fz 4 1 false (vI [1,0,0,0]))) (f0:f 0 0 = .fz 4 1 false k1) (f1:f 1 0 = .fz 4 1 false k2):VLe (.fz 2 1 false f) (cV wA):=by
 refine VLe.fz rfl (fun h=>h) (fun i j hi hj=>?_);obtain rfl:j = 0:=by omega
 rcases i with _ | _ | i
 . rw [f0];exact h1
 . rw [f1];exact h2
 . exfalso;omega
theorem wws_le (f:Nat→Nat→V) (h0:f 0 0 = .int .u32 1) (h1:f 1 0 = .int .u32 2) (h2:f 2 0 = .int .u32 2) (h3:f 3 0 = .int .u32 1):VLe (.fz 4 1 false f) (.fz wWs.length 1 false (vU7 wWs)):=by
 refine VLe.fz rfl (fun h=>h) (fun i j hi hj=>?_);obtain rfl:j = 0:=by omega
 rcases (show i = 0∨i = 1∨i = 2∨i = 3 by omega) with rfl | rfl | rfl | rfl
 . rw [h0];exact VLe.rfl
 . rw [h1];exact VLe.rfl
 . rw [h2];exact VLe.rfl
 . rw [h3];exact VLe.rfl
set_option maxHeartbeats 8000000 in
theorem known35_ok:RG 10 [] (.bool true):=by
 have hg:t2.valid = true:=(conn_facts t2_conn).1;have h1:=wlegit_ok t2 t2_small wA wA_small;have h4:=wclaim_ok t2 t2_small;have h5:=same35_ok [0,-1,0,1] [0,-1,0,1] (by decide) (by decide);have h6:=same35_ok [1,0,0,1] [1,0,0,1] (by decide) (by decide);have hf:=follow_ok pWav wav_prOk t2 t2_small hg 1 (by decide) wA wconfA wWs (by decide) (by decide);rw [folV,trcV,wlastA] at hf;generalize chsL pWav t2 1 wA wWs = ch at hf;generalize ((trc pWav t2 1 wA (cnt0 (enN pWav t2 wA)) wWs).getLast?.getD default).2 = lk at hf;generalize ensL pWav t2 (trc pWav t2 1 wA (cnt0 (enN pWav t2 wA)) wWs) = en at hf;rw [wlegA] at h1;rw [if_pos t2_conn,t2_ecc,clmW] at h4;rw [decide_eq_true rfl] at h5 h6;have htx:=text_ok;have hpr:=program_ok;refine ret_frzG2 rfl ?_;refine call_sem Tryz.func10 rfl hc10 hr10 rfl ?_;refine sem_seq (sem_vc mixed ?_)
 repeat' ((conv=>whnf);first | fail)
 all_goals (conv=>whnf)
 refine sem_seq (sem_vc mixed ?_)
 repeat' ((conv=>whnf);first | (refine tree2.go ?_))
 all_goals (conv=>whnf)
 refine sem_seq (sem_vc mixed ?_)
 repeat' ((conv=>whnf);first | (refine htx.go ?_) | (refine hpr.go ?_))
 all_goals (conv=>whnf)
 refine sem_seq (sem_vc mixed ?_)
 repeat' ((conv=>whnf);first | fail)
 all_goals (conv=>whnf)
 refine sem_frz 3 rfl (by (conv=>whnf);exact ⟨by decide,by decide,rfl,rfl⟩) (sem_vc mixed ?_)
 repeat' ((conv=>whnf);first | (refine Ix.mk 0 rfl (by decide) ?_) | (refine Ix.mk 1 rfl (by decide) ?_) | (refine Br.tt ?_) | (refine call_frzG [5] hf rfl ⟨by decide,VLe.rfl,VLe.rfl,VLe.rfl,wrows _ _ _ (wrow4 _ _ _ _ _ rfl rfl rfl rfl) (wrow4 _ _ _ _ _ rfl rfl rfl rfl) rfl rfl,wws_le _ rfl rfl rfl rfl,True.intro⟩ ?_) | (refine call_frz [] h1 ⟨VLe.rfl,wrows _ _ _ (wrow4 _ _ _ _ _ rfl rfl rfl rfl) (wrow4 _ _ _ _ _ rfl rfl rfl rfl) rfl rfl,True.intro⟩ ?_) | (refine h4.go ?_) | (refine call_lend h5 rfl ⟨by decide,VLe.rfl,VLe.fz rfl (fun h=>h) (four_le _ _ _ _ _ rfl rfl rfl rfl),True.intro⟩ ?_) | (refine call_lend h6 rfl ⟨by decide,VLe.rfl,VLe.fz rfl (fun h=>h) (four_le _ _ _ _ _ rfl rfl rfl rfl),True.intro⟩ ?_))
 all_goals (conv=>whnf)
 all_goals exact VLe.rfl
theorem withinN (a:Int):within a 4 = 0∨within a 4 = 1∨within a 4 = 2∨within a 4 = 3:=by
 have h1:=Int.lt_tmod_of_pos a (show (0:Int) < 4 by omega);have h2:=Int.tmod_lt_of_pos a (show (0:Int) < 4 by omega);simp only [within];rw [if_neg (by omega)];split <;> omega
theorem Br.bytes {a:ByteArray} {A B:Prop} (h:A):Br (a == a) A B:=⟨fun _=>h,fun e=>by rw [(Go.MapKept.bytes_beq a a).2 rfl] at e;cases e⟩
theorem Br.tr {b:Bool} {A B:Prop} (e:b = true) (h:A):Br b A B:=⟨fun _=>h,fun e'=>by rw [e] at e';cases e'⟩
theorem Br.fa {b:Bool} {A B:Prop} (e:b = false) (h:B):Br b A B:=⟨fun e'=>(by rw [e] at e';cases e'),fun _=>h⟩
theorem rtext_ok:Ret Tryz.prog 11 [] (.str txtB):=by
 have:=ev_ret mixed ta_ok ev_rtext;simpa only [C.vs,C.v,textC,txtB] using this
set_option maxHeartbeats 4000000 in
theorem lawWText (a:Int) (ha:-9223372036854775808≤a∧a≤9223372036854775807):RG 3 [.int .i64 a] (.bool true):=by
 have hw:=within_ok a 4 (by omega);have hv:=wvars_ok;have ht:=text_ok;have hr:=rtext_ok;have hp:=parse_ok2;have hk:=known35_ok;refine ret_frzG rfl ?_;refine fn_rule mixed Tryz.func3 rfl hc3 hr3 rfl ?_;rcases withinN a with h | h | h | h
 all_goals
  rw [h] at hw
  repeat' ((conv=>whnf);first | (refine Ix.mk 0 rfl (by decide) ?_) | (refine Ix.mk 1 rfl (by decide) ?_) | (refine Ix.mk 2 rfl (by decide) ?_) | (refine Ix.mk 3 rfl (by decide) ?_) | (refine Br.bytes ?_) | (refine Br.tt ?_) | (refine Br.ff ?_) | (refine ht.go ?_) | (refine hr.go ?_) | (refine hv.go ?_) | (refine hk.gog ?_) | (refine hp.go ?_) | (refine hw.go ?_))
  all_goals (conv=>whnf)
 all_goals exact VLe.rfl
end Go.Proofs.YtpgkdcekpineaaaGreatDoor
