import Derived.Test.YtgajaabakpfbbaaGreatTabB
import Derived.KernelRfl
import Derived.Test.YtgajaabakpfbbaaGreatGC1
import Derived.Test.YtgajaabakpfbbaaGreatWXA
import Derived.Test.YtgajaabakpfbbaaGreatEvG
import Derived.Test.YtgajaabakpfbbaaGreatEvC
import Derived.Test.YtgajaabakpfbbaaGreatEngT
import Derived.Test.YtgajaabakpfbbaaGreatRows
namespace Go.Proofs.YtgajaabakpfbbaaGreat
open Go.Eng
set_option maxRecDepth 100000
theorem ev_parse:evX tp 10000 100 4 [textC] = some progC:=by kernel_rfl
end Go.Proofs.YtgajaabakpfbbaaGreat
namespace Go.Proofs.YtgajaabakpfbbaaGreat
open Go.Eng
set_option maxRecDepth 100000
set_option linter.unusedVariables false
theorem ret_res {P:Program} {f:FuncId} {args:List V} {X X':V} (hk:X.kf = true) (hl:VLe X X') (h:Ret P f args X):Ret P f args X':=fun own ks=>by
 constructor;intro M w σ us hlen hd hh;refine ((h own ks).out M w σ us hlen hd hh).mono ?_;rintro e w' ⟨M',σ',v,own',ks',u,rfl,hv,hh',tr,kd,rfl,rfl,rfl⟩;exact ⟨M',σ',X',_,_,u,rfl,(hl.out _ _ _ (hv.kf hk Sg.none)).mono (Ext.mk (fun _ _ h=>⟨h,rfl⟩) (Nat.le_refl _)) (Sg.none_le σ'),hh',tr,kd,rfl,rfl,rfl⟩
def AllLt:Nat→(Nat→Prop)→Prop
 | 0,_=>True
 | n + 1,P=>P 0∧AllLt n fun i=>P (i + 1)
theorem AllLt.out:∀ {n:Nat} {P:Nat→Prop},AllLt n P→∀ i,i < n→P i
 | n + 1,P,h,0,_=>h.1
 | n + 1,P,h,i + 1,hi=>AllLt.out h.2 i (by omega)
theorem vle_fzA {n s:Nat} {f g:Nat→Nat→V} (h:AllLt n fun i=>AllLt s fun j=>VLe (f i j) (g i j)):VLe (.fz n s false f) (.fz n s false g) :=
 VLe.fz rfl (fun h=>h) fun i j hi hj=>(h.out i hi).out j hj
theorem vle_str {a b:ByteArray} (h:a = b):VLe (.str a) (.str b):=by subst h;exact .rfl
theorem agg_wdpr:VLe aggC.v pWid.v:=by
 repeat' (first | exact True.intro | exact VLe.rfl | exact vle_str (by kernel_rfl) | (refine VLe.agg ?_) | (refine vle_fzA ?_) | (refine And.intro ?_ ?_))
def txtB:ByteArray:=match textC with | .str l c=>bytesOf l c | _=>default
theorem text_ok:Ret Tryz.prog 5 [] (.str txtB):=by
 have:=ev_ret mixed ta_ok ev_text;simpa only [C.vs,C.v,textC,txtB] using this
theorem parse_ok:Ret Tryz.prog 4 [.str txtB] (.tup [aggC.v,.int .i64 0,.int .i64 0]):=by
 have:=ev_ret mixed tp_ok ev_parse;simpa only [C.vs,C.v,textC,txtB,progC] using this
theorem parse_ok2:Ret Tryz.prog 4 [.str txtB] (.tup [pWid.v,.int .i64 0,.int .i64 0]) :=
 ret_res (X:=.tup [aggC.v,.int .i64 0,.int .i64 0]) rfl (VLe.tup ⟨agg_wdpr,VLe.rfl,VLe.rfl,True.intro⟩) parse_ok
theorem rtext_ok:Ret Tryz.prog 9 [] (.str txtB):=by
 have:=ev_ret mixed ta_ok ev_rtext;simpa only [C.vs,C.v,textC,txtB] using this
theorem withinN (a:Int):within a 2 = 0∨within a 2 = 1:=by
 have h1:=Int.lt_tmod_of_pos a (show (0:Int) < 2 by omega);have h2:=Int.tmod_lt_of_pos a (show (0:Int) < 2 by omega);simp only [within];rw [if_neg (by omega)];split <;> omega
theorem Br.bytes {a:ByteArray} {A B:Prop} (h:A):Br (a == a) A B:=⟨fun _=>h,fun e=>by rw [(Go.MapKept.bytes_beq a a).2 rfl] at e;cases e⟩
theorem Br.tr {b:Bool} {A B:Prop} (e:b = true) (h:A):Br b A B:=⟨fun _=>h,fun e'=>by rw [e] at e';cases e'⟩
theorem Br.fa {b:Bool} {A B:Prop} (e:b = false) (h:B):Br b A B:=⟨fun e'=>(by rw [e] at e';cases e'),fun _=>h⟩
set_option maxHeartbeats 4000000 in
theorem law (a:Int):Ret Tryz.prog 3 [.int .i64 a] (.bool true):=by
 have hw:=within_ok a 2 (by omega);have hv:=wvars25_ok;have ht:=text_ok;have hr:=rtext_ok;have hp:=parse_ok2;have hk:=known25_ok;refine ret_frz rfl ?_;refine fn_rule mixed Tryz.func3 rfl hc3 hr3 rfl ?_;rcases withinN a with h | h
 all_goals
  rw [h] at hw
  repeat' ((conv=>whnf);first | (refine Ix.mk 0 rfl (by decide) ?_) | (refine Ix.mk 1 rfl (by decide) ?_) | (refine Br.bytes ?_) | (refine Br.tt ?_) | (refine Br.ff ?_) | (refine ht.go ?_) | (refine hr.go ?_) | (refine hv.go ?_) | (refine hk.go ?_) | (refine hp.go ?_) | (refine hw.go ?_))
  all_goals (conv=>whnf)
 all_goals exact VLe.rfl
end Go.Proofs.YtgajaabakpfbbaaGreat
namespace Go.Proofs.YtgajaabakpfbbaaGreat
open Go.Eng Go.ChangeShapes Go.WideShapes Go.ChangeAt Go.RowKit
set_option maxRecDepth 100000
set_option linter.unusedVariables false
theorem own:ownKnob Tryz.prog.godebug = none:=by kernel_rfl
theorem laid:laidOutB Tryz.prog = true:=by kernel_rfl
theorem read3:Tryz.prog.readableRec 3 = true:=by kernel_rfl
theorem size3:3 < Tryz.prog.types.size:=of_decide_eq_true (by kernel_rfl)
theorem int_of_ok {W:World} {base:Nat} {v:Value} (h:Value.okWide Tryz.prog W .any base 3 v):v.cells = #[v]:=by
 unfold Value.okWide at h;rw [Tryz.underlying3] at h;unfold Cell.okWide at h;rw [Tryz.underlying3] at h;cases v <;> first | rfl | (simp [Cell.ok,Tryz.underlying3] at h)
theorem int_of_trod {H:Type} {enc:TypeId × Value→H} {W:World} {sp:Nat→Bool} {hd:Bool} {v:Value} {d:DataW H} {ps:List MemPlace} (hv:v.cells = #[v]) (h:DataW.Trod enc Tryz.prog W 0 sp hd 3 v d ps):∃ n:Int,v = .int .i64 n:=by
 obtain ⟨fuel,h⟩:=h;rw [hv] at h;obtain ⟨n,e,_⟩:=trod_int_inv Tryz.underlying3 h;simp at e;exact ⟨n,e⟩
theorem text_lifted (os:Os) (started:os.Started) (H:Type) (enc:TypeId × Value→H) :
 ReturnsInHanded {} Tryz.checked os 3 .any (Rows.widestTextSpec.pre6 enc Tryz.prog Tryz.f3 Rows.widestTextRow.domain false) (Rows.widestTextSpec.post enc Tryz.prog Tryz.f3 false true false false):=by
 refine returnsInHanded_of_change (C:=Tryz.checked) own started (by kernel_rfl) Tryz.func3
  (ChangeSpec.witness6 (enc:=enc) (C:=Tryz.checked) false ⟨#[],#[.int .i64 0],[]⟩ 8 (by kernel_rfl) (by kernel_rfl) (by kernel_rfl) (by kernel_rfl)) ?_
 intro W base args ds gs before hval0 hW hcnd _;have hval:∀ (j:Nat) t v,Tryz.f3.params[j]? = some t→args[j]? = some v→Value.okWide Tryz.prog W .any base t v:=hval0;have hW':=hW;obtain ⟨p,q,hA0,hV,rfl,hfz,hnd⟩:=hW;have hA:DataW.TrodAll enc Tryz.prog W 0 (fun _=>true) true Tryz.f3.params.toList args.toList ds p:=hA0;rw [Tryz.params3] at hA hval;obtain ⟨v0,vs0,d0,ds0,p0,q0,hargs,rfl,rfl,h0,r0⟩:=trodAll_cons hA;obtain ⟨rfl,rfl,rfl⟩:=trodAll_nil r0;obtain rfl:args = #[v0]:=by cases args;simp_all
 obtain ⟨rfl,rfl⟩:=trodVars_none hV;obtain ⟨n,rfl⟩:=int_of_trod (int_of_ok (hval 0 3 v0 rfl rfl)) h0;refine (ret_calls (args:=#[.int .i64 n]) (W:=W) (law n) rfl ?_).mono ?_
 . intro i v u hv hu
   match i,hv,hu with
   | 0,hv,hu=>simp at hv hu;subst hv hu;exact .int _ _ _
   | i + 1,hv,hu=>simp at hv
 . rintro e W' ⟨rfl,hb⟩;refine ⟨_,rfl,post_law (tb:=4) laid rfl hW' ?_ (by kernel_rfl) Tryz.underlying4 rfl rfl rfl hb⟩;rw [Tryz.params3];intro t ht;simp at ht;subst ht;exact ⟨read3,size3⟩
theorem widestText_holds:Rows.WidestTextSaid :=
 OpenClaim.holds_of_wide 3 Tryz.f3 rfl rfl rfl rfl rfl rfl rfl ⟨rfl,rfl,rfl,rfl,rfl⟩ rfl rfl rfl rfl rfl (by kernel_rfl) Tryz.func3 (by kernel_rfl)
  (of_decide_eq_true (by kernel_rfl)) (by unfold Func.isWrapper;first | (rw [if_pos (by decide +kernel)];kernel_rfl) | (rw [if_neg (by decide +kernel)];exact ⟨rfl,rfl⟩))
  (fun os started H enc _=>text_lifted os started H enc)
end Go.Proofs.YtgajaabakpfbbaaGreat
