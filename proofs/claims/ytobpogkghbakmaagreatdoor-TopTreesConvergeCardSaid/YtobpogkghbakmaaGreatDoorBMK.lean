import Derived.Test.YtobpogkghbakmaaGreatDoorTabG
import Derived.KernelRfl
import Derived.Test.YtobpogkghbakmaaGreatDoorLFG
import Derived.Test.YtobpogkghbakmaaGreatDoorEvX2
import Derived.Test.YtobpogkghbakmaaGreatDoorDC8
namespace Go.Proofs.YtobpogkghbakmaaGreatDoor
open Go.Eng
set_option maxRecDepth 100000
theorem ev_parseT:evX tg 10000 100 8 [textT]=some progT:=by kernel_rfl
end Go.Proofs.YtobpogkghbakmaaGreatDoor
namespace Go.Proofs.YtobpogkghbakmaaGreatDoor
open Go.Eng
set_option maxRecDepth 100000
set_option linter.unusedVariables false
def Net.n1 (x:Net):Int:=IntKind.i64.wrap (x.n-1)
def Net.size (x:Net) (most:Int):Nat:=(1+within x.n1 most).toNat
theorem ret_args {P:Program} {f:FuncId} {args args':List V} {X:V} (hk:allB V.kf args'=true) (hl:LLe args' args) (h:Ret P f args X):Ret P f args' X:=fun own ks=>by
 constructor;intro M w σ us hlen hd hh;obtain⟨d1,d2⟩:=hl.dens (M:=M) (w:=w) (us:=us) hlen (fun i v u hv hu=>(hd i v u hv hu).kf (allB_mem hk v (List.mem_of_getElem? hv)) Sg.none);exact(h own ks).out M w σ us d1 (fun i v u hv hu=>(d2 i v u hv hu).mono (Ext.mk (fun _ _ h=>⟨h,rfl⟩) (Nat.le_refl _)) (Sg.none_le σ)) hh
theorem ret_res {P:Program} {f:FuncId} {args:List V} {X X':V} (hk:X.kf=true) (hl:VLe X X') (h:Ret P f args X):Ret P f args X':=fun own ks=>by
 constructor;intro M w σ us hlen hd hh;refine((h own ks).out M w σ us hlen hd hh).mono ?_;rintro e w' ⟨M',σ',v,own',ks',u,rfl,hv,hh',tr,kd,rfl,rfl,rfl⟩;exact⟨M',σ',X',_,_,u,rfl,(hl.out _ _ _ (hv.kf hk Sg.none)).mono (Ext.mk (fun _ _ h=>⟨h,rfl⟩) (Nat.le_refl _)) (Sg.none_le σ'),hh',tr,kd,rfl,rfl,rfl⟩
def AllLt:Nat->(Nat->Prop)->Prop
 | 0,_=>True
 | n+1,P=>P 0/\AllLt n fun i=>P (i+1)
theorem AllLt.out:∀{n:Nat} {P:Nat->Prop},AllLt n P->∀i,i<n->P i
 | n+1,P,h,0,_=>h.1
 | n+1,P,h,i+1,hi=>AllLt.out h.2 i (by omega)
theorem vle_fzA {n s:Nat} {f g:Nat->Nat->V} (h:AllLt n fun i=>AllLt s fun j=>VLe (f i j) (g i j)):VLe (.fz n s false f) (.fz n s false g) :=
 VLe.fz rfl (fun h=>h) fun i j hi hj=>(h.out i hi).out j hj
theorem vle_str {a b:ByteArray} (h:a=b):VLe (.str a) (.str b):=by subst h;exact .rfl
theorem bpr_agg:VLe pBfs.v aggT.v:=by
 repeat' (first|exact True.intro|exact VLe.rfl|exact vle_str (by kernel_rfl)|(refine VLe.agg ?_)|(refine vle_fzA ?_)|(refine And.intro ?_ ?_))
theorem agg_bpr:VLe aggT.v pBfs.v:=by
 repeat' (first|exact True.intro|exact VLe.rfl|exact vle_str (by kernel_rfl)|(refine VLe.agg ?_)|(refine vle_fzA ?_)|(refine And.intro ?_ ?_))
theorem bcheck_ok:Ret Tryz.prog 22 [pBfs.v] (.int .i64 0):=by
 have h:=ev_ret mixed tf_ok ev_checkT;exact ret_args (args:=[aggT.v]) rfl ⟨bpr_agg,True.intro⟩ (by simpa only[C.vs,C.v] using h)
theorem bfs_types:Ret Tryz.prog 131 [pBfs.v] (.bool true):=by
 refine ret_frz rfl ?_;refine fn_rule mixed Tryz.func131 rfl hc131 hr131 rfl ?_
 repeat' ((conv=>whnf);first|(refine Br.tt ?_)|(refine bcheck_ok.go ?_))
 all_goals (conv=>whnf)
 exact VLe.rfl
def txtT:ByteArray:=match textT with | .str l c=>bytesOf l c|_=>default
theorem parseT_ok:Ret Tryz.prog 8 [.str txtT] (.tup [aggT.v,.int .i64 0,.int .i64 0]):=by
 have:=ev_ret mixed tg_ok ev_parseT;simpa only[C.vs,C.v,textT,txtT,progT] using this
theorem parseT_ok2:Ret Tryz.prog 8 [.str txtT] (.tup [pBfs.v,.int .i64 0,.int .i64 0]) :=
 ret_res (X:=.tup [aggT.v,.int .i64 0,.int .i64 0]) rfl (VLe.tup ⟨agg_bpr,VLe.rfl,VLe.rfl,True.intro⟩) parseT_ok
theorem bfs_prOk:PrOk pBfs where
 vlen:=by decide
 var:=fun i hi=>by
  rcases (show i=0\/i=1 by have:i<2:=hi;omega) with rfl|rfl
  . exact⟨.inl rfl,by decide,by decide,by decide,by decide,by decide⟩
  . exact⟨.inr (.inr rfl),by decide,by decide,by decide,by decide,by decide⟩
 rlen:=by decide
 gd:=fun i hi=>by
  rcases (show i=0\/i=1 by have:i<2:=hi;omega) with rfl|rfl
  all_goals decide
 slen:=fun i hi=>by
  rcases (show i=0\/i=1 by have:i<2:=hi;omega) with rfl|rfl
  all_goals decide
 set:=fun i hi j hj=>by
  rcases (show i=0\/i=1 by have:i<2:=hi;omega) with rfl|rfl
  . rcases (show j=0\/j=1 by have:j<2:=hj;omega) with rfl|rfl<;>decide
  . rcases (show j=0\/j=1 by have:j<2:=hj;omega) with rfl|rfl<;>decide
 types:=bfs_types
end Go.Proofs.YtobpogkghbakmaaGreatDoor
