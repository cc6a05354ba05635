import Derived.Test.YtgajaabakpfbbaaGC1
import Derived.Test.YtgajaabakpfbbaaEngAB
import Derived.Test.YtgajaabakpfbbaaDS1
namespace Go.Proofs.Ytgajaabakpfbbaa
open Go.Eng
set_option maxRecDepth 100000
set_option linter.unusedVariables false
theorem same25_ok (a b:List Int) (ha:a.length≤1000000) (hb:b.length≤1000000):Ret Try.prog 16 [.fz a.length 1 false (vI a),.fz b.length 1 false (vI b)] (.bool (decide (a = b))):=by
 refine ret_frz rfl ?_;refine fn_rule mixed Try.func16 rfl hc16 hr16 rfl ?_
 repeat' ((conv=>whnf);first | (refine Br.bne ?_ ?_ <;> intro _ <;> try omega))
 all_goals (conv=>whnf)
 . exact VLe.bool (by rw [decide_eq_false (fun h=>by subst h;omega)])
 refine loop_r mixed [0,1] (fun i:Nat=>[(5,.int .i64 i)]) (fun m i=>m = a.length - i∧i≤a.length∧∀ j,j < i→gI a j = gI b j) a.length 0 ⟨rfl,Nat.zero_le _,fun j hj=>by omega⟩ ?_ ?_
 . exact weak_b (fun _ _=>[])
 rintro m i ⟨hm,hi,hall⟩
 repeat' ((conv=>whnf);first | (refine Br.dec ?_ ?_ <;> intro _ <;> try omega) | (refine Br.bne ?_ ?_ <;> intro _ <;> try omega) | (refine Ar.i64 (by omega) (by omega) ?_) | (refine Ix.nat (by omega) ?_))
 all_goals (conv=>whnf)
 . rename_i hne;exact VLe.bool (by rw [decide_eq_false (fun h=>by subst h;exact hne rfl)])
 . refine ⟨a.length - (i + 1),i + 1,by omega,⟨rfl,by omega,fun j hj=>?_⟩,?_⟩
   . by_cases e:j = i
     . subst e;assumption
     . exact hall j (by omega)
   . exact weak_b (fun _ _=>[])
 . have e:a = b:=List.ext_getElem (by omega) (fun j h1 h2=>by
    have:=hall j (by omega);simpa [gI,List.getD,List.getElem?_eq_getElem h1,List.getElem?_eq_getElem h2] using this)
   exact VLe.bool (by rw [decide_eq_true e])
def xN:Net:=⟨3,[0,1,0,2,0],[0,1,0,2],[],false,false⟩
def x3:G:=⟨[0,1,2],[[(1,1),(2,3)],[(0,1),(2,2)],[(1,2),(0,3)]]⟩
theorem xN_small:xN.Small:=⟨by decide,by decide,by decide⟩
theorem xN_con:xN.con 3 = x3:=congr (congrArg G.mk (show (xN.con 3).ids = x3.ids by decide +kernel)) (show (xN.con 3).ports = x3.ports by decide +kernel)
theorem x3_small:x3.Small:=⟨by decide,by decide,by decide⟩
theorem x3_conn:x3.conn = true:=by decide +kernel
def xA:Cf:=[[0,-1],[3,0],[6,0]]
theorem conf_ofBX {g:G} {c:Cf} (h1:c.length = g.ids.length) (h2:(List.range c.length).all (fun v=>decide ((gC c v).length = 2) && (List.range 2).all fun x=>decide ((bnd g (gV pWid.vars x) v).1≤gI (gC c v) x∧gI (gC c v) x≤(bnd g (gV pWid.vars x) v).2)) = true):Conf pWid g c:=by
 simp only [List.all_eq_true,List.mem_range,Bool.and_eq_true,decide_eq_true_eq] at h2;exact ⟨h1,fun v hv=>(h2 v hv).1,fun v hv x hx=>(h2 v hv).2 x hx⟩
theorem xconfA:Conf pWid x3 xA:=conf_ofBX rfl (by decide +kernel)
theorem xA_small:CSmall xA:=⟨by decide,by simp [xA]⟩
theorem xlegA:x3.xleg xA = true:=by
 rw [xleg_rest x3_conn xconfA];decide +kernel
theorem xbotA:x3.botX xA = [0,1,2]:=by decide +kernel
theorem nj {g:G} {w:Int} {a b:Nat} (x:Nat→Bool) (hc:(List.range g.ids.length).all (fun v=>(gR g.ports v).all fun l=>!(decide (l.2 < w) && x l.1.toNat) || x v) = true) (ha:x a = true) (hb:x b = false):¬ Jn g w a b:=fun h=>by
 have:=h.in_ (x:=x) (fun v hv l hl h1 h2=>by
  have:=List.all_eq_true.1 (List.all_eq_true.1 hc v (List.mem_range.2 hv)) l hl;rw [h2,decide_eq_true h1] at this;simpa using this) ha
 rw [hb] at this;cases this
theorem chE_t {g:G} {e:Ed} (h:¬ Jn g e.w e.a e.b):chE g e = true:=by
 cases q:chE g e with
 | true=>rfl
 | false=>classical exact (of_decide_eq_false q h).elim
theorem chE_f {g:G} {e:Ed} (h:Jn g e.w e.a e.b):chE g e = false:=by
 cases q:chE g e with
 | false=>rfl
 | true=>classical exact (of_decide_eq_true q h).elim
theorem x3_edges:edgesL x3 = [⟨0,1,1⟩,⟨0,2,3⟩,⟨1,2,2⟩]:=by decide +kernel
theorem x3_span:spanL x3 = [(0,1),(1,2)]:=by
 have h1:chE x3 ⟨0,1,1⟩ = true:=by
  refine chE_t ?_;exact (nj (fun v=>v == 0) (by decide +kernel) (by decide) (by decide))
 have h2:chE x3 ⟨0,2,3⟩ = false:=by
  refine chE_f ?_;refine Jn.step (l:=(1,2)) (by decide) (by decide +kernel) (by decide) ?_;exact Jn.step (l:=(0,1)) (by decide) (by decide +kernel) (by decide) .refl
 have h3:chE x3 ⟨1,2,2⟩ = true:=by
  refine chE_t ?_;exact (nj (fun v=>v != 2) (by decide +kernel) (by decide) (by decide))
 rw [← span_edges,x3_edges];simp [h1,h2,h3]
def rowEq (l:List Int) (v:V):Bool:=match v with
 | .fz n 1 false k=>decide (n = l.length) && (List.range n).all fun i=>match k i 0 with
   | .int .i64 x=>decide (x = gI l i)
   | _=>false
 | _=>false
theorem rowEq_le {l:List Int} {v:V} (h:rowEq l v = true):VLe v (.fz l.length 1 false (vI l)):=by
 unfold rowEq at h;split at h
 . rename_i n k;rw [Bool.and_eq_true,decide_eq_true_eq,List.all_eq_true] at h;refine VLe.fz h.1 (fun h=>h) (fun i j hi hj=>VLe.of_eq ?_);obtain rfl:j = 0:=by omega
   have:=h.2 i (List.mem_range.2 hi);revert this;split
   . rename_i x e;intro q;rw [e,of_decide_eq_true q];rfl
   . intro q;cases q
 . cases h
theorem cfg_le (c:Cf) (n:Nat) (f:Nat→Nat→V) (hn:n = c.length) (h:(List.range n).all (fun i=>rowEq (gC c i) (f i 0)) = true):VLe (.fz n 1 false f) (cV c):=by
 refine VLe.fz hn (fun h=>h) (fun i j hi hj=>?_);obtain rfl:j = 0:=by omega
 exact rowEq_le (List.all_eq_true.1 h i (List.mem_range.2 hi))
theorem list_le (l:List Int) (n:Nat) (f:Nat→Nat→V) (hn:n = l.length) (h:(List.range n).all (fun i=>match f i 0 with | .int .i64 x=>decide (x = gI l i) | _=>false) = true):VLe (.fz n 1 false f) (.fz l.length 1 false (vI l)):=by
 refine VLe.fz hn (fun h=>h) (fun i j hi hj=>VLe.of_eq ?_);obtain rfl:j = 0:=by omega
 have:=List.all_eq_true.1 h i (List.mem_range.2 hi);revert this;split
 . rename_i x e;intro q;rw [e,of_decide_eq_true q];rfl
 . intro q;cases q
set_option maxHeartbeats 8000000 in
theorem known25_ok:Ret Try.prog 6 [] (.bool true):=by
 have hco:=connected_ok xN xN_small 3 (by decide) (by decide);rw [xN_con] at hco;have h1:=wdlegit_ok x3 x3_small xA xA_small;rw [xlegA] at h1;have h2:=wdbottle_ok x3 x3_small xA xA_small;rw [xbotA] at h2;have h3:=same25_ok [0,1,2] [0,1,2] (by decide) (by decide);rw [decide_eq_true rfl] at h3;have h4:=spanning_ok x3 x3_small x3_conn (by decide +kernel) (by rw [x3_edges];decide);rw [x3_span] at h4;refine ret_frz2 rfl ?_;refine call_sem Try.func6 rfl hc6 hr6 rfl ?_;refine sem_seq (sem_vc mixed ?_)
 repeat' ((conv=>whnf);first | fail)
 all_goals (conv=>whnf)
 refine sem_seq (sem_vc mixed ?_)
 repeat' ((conv=>whnf);first | (refine call_frz [0,1] hco ⟨by decide,by decide,VLe.agg ⟨VLe.rfl,list_le _ _ _ rfl (by decide),list_le _ _ _ rfl (by decide),VLe.nilfz rfl,VLe.rfl,VLe.rfl,True.intro⟩,VLe.rfl,True.intro⟩ ?_))
 all_goals (conv=>whnf)
 refine sem_seq (sem_vc mixed ?_)
 repeat' ((conv=>whnf);first | fail)
 all_goals (conv=>whnf)
 refine sem_frz 2 rfl (by (conv=>whnf);exact ⟨by decide,by decide,by decide,rfl,rfl⟩) (sem_seq (sem_vc mixed ?_))
 repeat' ((conv=>whnf);first | (refine h4.go ?_))
 all_goals (conv=>whnf)
 refine sem_vc mixed ?_
 repeat' ((conv=>whnf);first | (refine Ix.mk 0 rfl (by decide) ?_) | (refine Ix.mk 1 rfl (by decide) ?_) | (refine Br.tt ?_) | (refine call_frz [] h1 ⟨VLe.rfl,cfg_le xA 3 _ rfl (by decide),True.intro⟩ ?_) | (refine call_frz [] h2 ⟨VLe.rfl,cfg_le xA 3 _ rfl (by decide),True.intro⟩ ?_) | (refine call_lend h3 rfl ⟨by decide,VLe.rfl,list_le _ _ _ rfl (by decide),True.intro⟩ ?_))
 all_goals (conv=>whnf)
 all_goals exact VLe.rfl
theorem large25_ok (g:G) (hs:g.Small) (c:Cf) (hc:CSmall c):Ret Try.prog 5 [g.v,cV c] (.bool (decide (g.ports.length > 60∨g.ids.length > 60∨c.length > 60))):=by
 have s1:=hs.ids;have s2:=hs.ports;have s3:=hc.len;refine ret_frz rfl ?_;refine fn_rule mixed Try.func5 rfl hc5 hr5 rfl ?_
 repeat' ((conv=>whnf);first | (refine Br.dec ?_ ?_ <;> intro _ <;> try omega))
 all_goals (conv=>whnf)
 all_goals exact VLe.bool (by symm;first | (rw [decide_eq_true_eq];omega) | (rw [decide_eq_false_iff_not];omega))
set_option maxHeartbeats 8000000 in
theorem lawXJudges (g:G) (hs:g.Small) (c:Cf) (hc:CSmall c):Ret Try.prog 4 [g.v,cV c] (.bool true):=by
 have hl:=large25_ok g hs c hc;have hk:=known25_ok;have h1:=wdfit_ok g hs;have h2:=rwdfit_ok g hs;have h3:=wdlegit_ok g hs c hc;have h4:=rwdlegit_ok g hs c hc;have h7:=wdparents_ok g hs c hc;have h8:=rwdparents_ok g hs c hc;have h9:=wdbottle_ok g hs c hc;have hA:=rwdbottle_ok g hs c hc;have hp:(g.parX c).length≤1000000∨60 < c.length:=by
  rw [G.parX];split
  . rw [twL_len];omega
  . simp
 have hb:(g.botX c).length≤1000000∨60 < c.length:=by
  rw [G.botX];split
  . rw [btL_len];omega
  . simp
 refine ret_frz rfl ?_;refine fn_rule mixed Try.func4 rfl hc4 hr4 rfl ?_;by_cases hbig:g.ports.length > 60∨g.ids.length > 60∨c.length > 60
 . rw [decide_eq_true hbig] at hl
   repeat' ((conv=>whnf);first | (refine Br.tt ?_) | (refine hl.go ?_) | (refine hk.go ?_))
   all_goals (conv=>whnf)
   exact VLe.rfl
 rw [decide_eq_false hbig] at hl;have hq1:=same25_ok (g.parX c) (g.parX c) (by omega) (by omega);have hq2:=same25_ok (g.botX c) (g.botX c) (by omega) (by omega);rw [decide_eq_true rfl] at hq1 hq2;cases hf:g.conn with
 | true =>
   have h5:=wdclaim_ok g hs hf;have h6:=rwdclaim_ok g hs hf;rw [clmX] at h5 h6
   repeat' ((conv=>whnf);first | (refine Br.self ?_) | (refine Br.tt ?_) | (refine Br.ff ?_) | (refine hl.go ?_) | (refine hk.go ?_) | (refine h1.go ?_) | (refine h2.go ?_) | (refine h3.go ?_) | (refine h4.go ?_) | (refine h5.go ?_) | (refine h6.go ?_) | (refine h7.go ?_) | (refine h8.go ?_) | (refine h9.go ?_) | (refine hA.go ?_) | (refine hq1.go ?_) | (refine hq2.go ?_) | (refine And.intro rfl ?_) | (refine Br.any (fun _=>?_) (fun _=>?_)))
   all_goals (conv=>whnf)
   all_goals first | exact VLe.rfl | (exfalso;clear hl h1 h2 h3 h4 h5 h6 h7 h8 h9 hA hq1 hq2 hk;simp_all)
 | false =>
   have h5:=wdclaim_no g hs hf;have h6:=rwdclaim_no g hs hf;rw [clmX0] at h5 h6
   repeat' ((conv=>whnf);first | (refine Br.self ?_) | (refine Br.tt ?_) | (refine Br.ff ?_) | (refine hl.go ?_) | (refine hk.go ?_) | (refine h1.go ?_) | (refine h2.go ?_) | (refine h3.go ?_) | (refine h4.go ?_) | (refine h5.go ?_) | (refine h6.go ?_) | (refine h7.go ?_) | (refine h8.go ?_) | (refine h9.go ?_) | (refine hA.go ?_) | (refine hq1.go ?_) | (refine hq2.go ?_) | (refine And.intro rfl ?_) | (refine Br.any (fun _=>?_) (fun _=>?_)))
   all_goals (conv=>whnf)
   all_goals first | exact VLe.rfl | (exfalso;clear hl h1 h2 h3 h4 h5 h6 h7 h8 h9 hA hq1 hq2 hk;simp_all)
end Go.Proofs.Ytgajaabakpfbbaa
namespace Go.Proofs.Ytgajaabakpfbbaa
open Go.Eng Go.ChangeShapes Go.WideShapes Go.ChangeAt Go.RowKit
set_option maxRecDepth 100000
set_option linter.unusedVariables false
theorem widest_lifted (os:Os) (started:os.Started) (H:Type) (enc:TypeId × Value→H) :
 ReturnsInHanded {} Try.checked os 4 .any (Rows.widestJudgesSpec.pre6 enc Try.prog Try.f4 Rows.widestJudgesRow.domain false) (Rows.widestJudgesSpec.post enc Try.prog Try.f4 false true false false):=by
 refine returnsInHanded_of_change (C:=Try.checked) own started (by kernel_rfl) Try.func4
  (ChangeSpec.witness6 (enc:=enc) (C:=Try.checked) false ⟨#[],#[.agg #[.slice none 0 0,.slice none 0 0],.slice none 0 0],[]⟩ 8 (by kernel_rfl) (by kernel_rfl) (by kernel_rfl) (by kernel_rfl)) ?_
 intro W base args ds gs before hval0 hW hcnd _;have hval:∀ (j:Nat) t v,Try.f4.params[j]? = some t→args[j]? = some v→Value.okWide Try.prog W .any base t v:=hval0;have hW':=hW;obtain ⟨p,q,hA0,hV,rfl,hfz,hnd⟩:=hW;have hA:DataW.TrodAll enc Try.prog W 0 (fun _=>true) true Try.f4.params.toList args.toList ds p:=hA0;rw [Try.params4] at hA hval;obtain ⟨v0,vs0,d0,ds0,p0,q0,hargs,rfl,rfl,h0,r0⟩:=trodAll_cons hA;obtain ⟨v1,vs1,d1,ds1,p1,q1,hargs1,rfl,rfl,h1,r1⟩:=trodAll_cons r0;obtain ⟨rfl,rfl,rfl⟩:=trodAll_nil r1;subst hargs1;obtain rfl:args = #[v0,v1]:=by cases args;simp_all
 obtain ⟨rfl,rfl⟩:=trodVars_none hV;obtain ⟨g,hs,hr⟩:=den_graph (agg_of_ok (hval 0 25 v0 rfl rfl)) h0;obtain ⟨c,hc,hl⟩:=den_cf (slice_of_ok (hval 1 34 v1 rfl rfl)) h1;refine (ret_calls (args:=#[v0,v1]) (W:=W) (lawXJudges g hs c hc) rfl ?_).mono ?_
 . intro i v u hv hu
   match i,hv,hu with
   | 0,hv,hu=>simp at hv hu;subst hv hu;exact hr
   | 1,hv,hu=>simp at hv hu;subst hv hu;exact hl
   | i + 2,hv,hu=>simp at hv
 . rintro e W' ⟨rfl,hb⟩;refine ⟨_,rfl,post_law (tb:=4) laid rfl hW' ?_ (by kernel_rfl) Try.underlying4 rfl rfl rfl hb⟩;rw [Try.params4];intro t ht;simp at ht;rcases ht with rfl | rfl
   . exact ⟨read25,size25⟩
   . exact ⟨read34,size34⟩
theorem widestJudges_holds:Rows.WidestJudgesSaid :=
 OpenClaim.holds_of_wide 4 Try.f4 rfl rfl rfl rfl rfl rfl rfl ⟨rfl,rfl,rfl,rfl,rfl⟩ rfl rfl rfl rfl rfl (by kernel_rfl) Try.func4 (by kernel_rfl)
  (of_decide_eq_true (by kernel_rfl)) (by unfold Func.isWrapper;first | (rw [if_pos (by decide +kernel)];kernel_rfl) | (rw [if_neg (by decide +kernel)];exact ⟨rfl,rfl⟩))
  (fun os started H enc _=>widest_lifted os started H enc)
end Go.Proofs.Ytgajaabakpfbbaa
