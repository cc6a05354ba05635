import Derived.Test.YtefdkgkojlflaaaGreatDoorRN1
import Derived.Test.YtefdkgkojlflaaaGreatDoorEngT
import Derived.Test.YtefdkgkojlflaaaGreatDoorEngZ
import Derived.Test.YtefdkgkojlflaaaGreatDoorRows
import Derived.LaidMore
import Derived.Stop.Joined
import Derived.SevenTiedAt
import GoSem.ClaimSeven
import Derived.Test.YtefdkgkojlflaaaGreatDoorSV1
namespace Go.Proofs.YtefdkgkojlflaaaGreatDoor
open Go.Eng
set_option maxRecDepth 100000
set_option linter.unusedVariables false
def wsE (l:List Int) (i:Nat):Int:=if l.length=0 then 4294967295 else
 bitI .and .u32 (bitI .or .u32 (IntKind.u32.wrap (bitI .and .u32 (gI l (i % l.length)) 16777215*2 ^ (min (((i:Int).tdiv l.length).tmod 24).toNat 32))) ((bitI .and .u32 (gI l (i % l.length)) 16777215).fdiv (2 ^ (min (24-((i:Int).tdiv l.length).tmod 24).toNat 32)))) 16777215
theorem wrapu_range (a:Int):0<=IntKind.u32.wrap a/\IntKind.u32.wrap a<4294967296:=by
 simp only[IntKind.wrap,IntKind.bits,IntKind.signed,Bool.false_and];constructor
 . simp;omega
 . simp;omega
theorem wsE_range (l:List Int) (i:Nat):0<=wsE l i/\wsE l i<4294967296:=by
 rw[wsE];split
 . decide
 . exact wrapu_range _
def wsN (l:List Int) (i:Nat):Nat:=(wsE l i).toNat
def wsL (l:List Int) (n:Nat):List Nat:=(List.range n).map (wsN l)
theorem wsL_len (l:List Int) (n:Nat):(wsL l n).length=n:=by simp[wsL]
theorem wsL_lt (l:List Int) (n:Nat):∀w∈wsL l n,w<4294967296:=fun w hw=>by
 obtain⟨i,_,rfl⟩:=List.mem_map.1 hw;have:=wsE_range l i;rw[wsN];omega
def vW (l:List Int):Nat->Nat->V:=fun i _=>.int .u32 (wsE l i)
def vUI (l:List Int):Nat->Nat->V:=fun i _=>.int .u32 (gI l i)
theorem wrem {i n:Nat} (h:n≠0):(i:Int).tmod n=((i % n:Nat):Int):=by
 rw[Int.tmod_eq_emod_of_nonneg (by omega)];exact(Int.natCast_emod _ _).symm
theorem wquo {i n:Nat}:0<=(i:Int).tdiv n/\(i:Int).tdiv n<=i:=by
 rw[Int.tdiv_eq_ediv_of_nonneg (by omega)];exact⟨Int.ediv_nonneg (Int.natCast_nonneg i) (Int.natCast_nonneg n),Int.ediv_le_self _ (Int.natCast_nonneg i)⟩
theorem wrem24 {q:Int} (h:0<=q):0<=q.tmod 24/\q.tmod 24<24:=by
 rw[Int.tmod_eq_emod_of_nonneg h];omega
theorem vle_appW (l:List Int) (i a b:Nat) (ha:a<i+1) (hb:b<1) (F:Nat->Nat->V) (x:Int) (hF:F 0 0=.int .u32 x) (hx:x=wsE l i):VLe (fapp (shiftF 0 (vW l)) i (shiftF 0 F) a b) (vW l a b):=by
 obtain rfl:b=0:=by omega
 apply VLe.of_eq;by_cases h:a<i
 . rw[fapp_lt h];simp[shiftF]
 . rw[fapp_ge h];have:a=i:=by omega
   subst this;simp[shiftF,hF,vW,hx]
set_option maxHeartbeats 8000000 in
theorem wishes_ok (l:List Int) (hl:l.length<=9223372036854775807) (n:Nat) (hn:n<=1000):Ret Tryz.prog 31 [.fz l.length 1 false (vUI l),.int .i64 n] (.fz (wsL l n).length 1 false (vU7 (wsL l n))):=by
 refine ret_frz rfl ?_;refine fn_rule mixed Tryz.func31 rfl hc31 hr31 rfl ?_
 repeat' ((conv=>whnf);first|fail)
 all_goals (conv=>whnf)
 refine loop_w mixed [0,1] [0] [1,2,3,4,5,6,7,8,9,10,11,12,13,14,15,16,17,18,19,20,21,22,23,24,25,26,27,28,29] [0] (fun i:Nat=>[(5,.vec 0 1 0 i),(6,.int .i64 i)]) (fun i=>[(0,.vec i 1 (vW l))]) (fun m i=>m=n-i/\i<=n) n 0 ⟨rfl,Nat.zero_le _⟩ rfl (fun _=>rfl) ?_ ?_
 . exact weak_b (fun _ _=>[(0,none)])
 rintro m i ⟨hm,hi⟩;by_cases hin:i<n
 . by_cases h0:l.length=0
   . repeat' ((conv=>whnf);first|(refine Br.dec ?_ ?_<;>intro _<;>try omega)|(refine Br.nbeq ?_ ?_<;>intro _<;>try omega)|(refine Ar.i64 (by omega) (by omega) ?_)|(refine Len.mk (by omega) ?_))
     all_goals (conv=>whnf)
     all_goals try (exfalso;omega)
     all_goals
      refine⟨n-(i+1),i+1,by omega,⟨rfl,by omega⟩,?_⟩;refine weak_by (fun env _=>[(0,ekey env 5)]) ?_ ?_ rfl
      . repeat' (first|exact True.intro|(refine⟨⟨_,rfl,?_⟩,?_⟩)|exact VRen.kf rfl|exact VRen.vec rfl rfl rfl)
      . repeat' (first|(refine⟨Nat.le_refl _,rfl,fun a b ha hb=>vle_appW l i a b ha hb _ 4294967295 rfl (by rw[wsE,if_pos h0])⟩)|exact True.intro|(refine⟨⟨_,rfl,?_⟩,?_⟩))
   . have hr:=wrem (i:=i) h0;have hq:=wquo (i:=i) (n:=l.length);have h24:=wrem24 hq.1;have hml:i % l.length<l.length:=Nat.mod_lt _ (by omega);have hE:wsE l i=bitI .and .u32 (bitI .or .u32 (IntKind.u32.wrap (bitI .and .u32 (gI l (i % l.length)) 16777215*2 ^ (min (((i:Int).tdiv l.length).tmod 24).toNat 32))) ((bitI .and .u32 (gI l (i % l.length)) 16777215).fdiv (2 ^ (min (24-((i:Int).tdiv l.length).tmod 24).toNat 32)))) 16777215:=by rw[wsE,if_neg h0]
     repeat' ((conv=>whnf);first|(refine Ix.mk (i % l.length) hr hml ?_)|(refine Ar.u64 (by omega) (by omega) ?_)|(refine Br.dec ?_ ?_<;>intro _<;>try omega)|(refine Br.nbeq ?_ ?_<;>intro _<;>try omega)|(refine Ar.i64 (by omega) (by omega) ?_)|(refine Sv.mk _ rfl ?_)|(refine Nz.mk (by omega) ?_)|(refine Nn.mk (by omega) ?_)|(refine Len.mk (by omega) ?_)|(refine Ar.mk _ rfl ?_))
     all_goals (conv=>whnf)
     all_goals try (exfalso;omega)
     all_goals
      refine⟨n-(i+1),i+1,by omega,⟨rfl,by omega⟩,?_⟩;refine weak_by (fun env _=>[(0,ekey env 5)]) ?_ ?_ rfl
      . repeat' (first|exact True.intro|(refine⟨⟨_,rfl,?_⟩,?_⟩)|exact VRen.kf rfl|exact VRen.vec rfl rfl rfl)
      . repeat' (first|(refine⟨Nat.le_refl _,rfl,fun a b ha hb=>vle_appW l i a b ha hb _ _ rfl hE.symm⟩)|exact True.intro|(refine⟨⟨_,rfl,?_⟩,?_⟩))
 . have e:i=n:=by omega
   subst e
   repeat' ((conv=>whnf);first|(refine Br.dec ?_ ?_<;>intro _<;>try omega)|(refine Len.mk (by omega) ?_))
   all_goals (conv=>whnf)
   refine VLe.fz (wsL_len l i).symm (fun h=>h) (fun a b ha hb=>VLe.of_eq ?_);obtain rfl:b=0:=by omega
   have hr:=wsE_range l a;have e1:(wsL l i).getD a 0=wsN l a:=by rw[wsL,List.getD_eq_getElem?_getD,List.getElem?_map,List.getElem?_range ha];rfl
   rw[shiftF_eq,Nat.zero_add];show V.int .u32 (wsE l a)=V.int .u32 (((wsL l i).getD a 0:Nat):Int);rw[e1,wsN];congr 1;omega
def cntF (k:Cnt):Nat->V:=fun j=>match j with
 | 0=>.int .i64 k.steps
 | 1=>.int .i64 k.moves
 | 2=>.int .i64 k.rounds
 | 3=>.int .i64 k.begun
 | _=>.int .u32 k.pend
end Go.Proofs.YtefdkgkojlflaaaGreatDoor
namespace Go.Proofs.YtefdkgkojlflaaaGreatDoor
open Go.Eng Go.ChangeShapes Go.WideShapes Go.ChangeAt Go.WideMaps Go.WideElems Go.RowKit
set_option maxRecDepth 100000
set_option linter.unusedVariables false
theorem ownk:ownKnob Tryz.prog.godebug=none:=by kernel_rfl
theorem laidB:laidOutB Tryz.prog=true:=by kernel_rfl
theorem cells3:Tryz.prog.cellsOf 3=1:=by kernel_rfl
theorem cells5:Tryz.prog.cellsOf 5=1:=by kernel_rfl
theorem cells4:Tryz.prog.cellsOf 4=1:=by kernel_rfl
theorem cells22:Tryz.prog.cellsOf 22=1:=by kernel_rfl
theorem cells240:Tryz.prog.cellsOf 240=32:=by kernel_rfl
theorem cells24:Tryz.prog.cellsOf 24=6:=by kernel_rfl
theorem read22:Tryz.prog.readableRec 22=true:=by kernel_rfl
theorem size22:22<Tryz.prog.types.size:=of_decide_eq_true (by kernel_rfl)
theorem stand22:Tryz.prog.wantsStandIn 22=false:=by kernel_rfl
theorem read24:Tryz.prog.readableRec 24=true:=by kernel_rfl
theorem size24:24<Tryz.prog.types.size:=of_decide_eq_true (by kernel_rfl)
theorem stand24:Tryz.prog.wantsStandIn 24=false:=by kernel_rfl
theorem gTab:Tryz.prog.globalNamed "math/bits.deBruijn32tab"=some 0:=by kernel_rfl
theorem tTab:(Tryz.prog.globals[0]?).map (·.type)=some 240:=by kernel_rfl
abbrev laidL:List (String×DataW Unit):=[("math/bits.deBruijn32tab",Rows.laid_math_bits_deBruijn32tab)]
theorem door_met (os:Os) (args:Array Value):laidMetH Tryz.prog laidL ((World.doorLaid Tryz.prog 400 os).forCall (fun _ _=>0) ⟨#[],args,[]⟩).memory :=
 laidMetH_of_parts3 (fuel:=8) (laidMet_of_run' 8 (by kernel_rfl) (by kernel_rfl)) (by kernel_rfl) (by kernel_rfl)
theorem of_laid {W:World} (h:laidMetH Tryz.prog laidL W):Den (fun _=>False) W Sg.none (.fe 32 1 tzF 0 0) (.pointer (some ⟨0,0,none⟩)):=by
 rw[MakeChecks.laidMetH_plain _ _ _ (by kernel_rfl)] at h;obtain⟨ps,⟨g0,t0,cs0,f0,p0,q0,hg0,ht0,hv0,hd0,_⟩,_,_⟩:=h;obtain rfl:=Option.some.inj (gTab.symm.trans hg0);obtain rfl:=Option.some.inj (tTab.symm.trans ht0);obtain⟨xs,m1,rfl,hx1,hlen,hn,hel⟩:=DataW.trod_array Tryz.underlying240 hd0;simp only[Prod.mk.injEq] at hx1;have hxs:xs.map (·.1)=tzL.map fun n=>(DataW.lit (.int .u8 n):DataW Unit):=by
  have:=hx1.1;rw[Rows.laid_math_bits_deBruijn32tab] at this;have h2:=DataW.agg.inj this;exact h2.symm
 have key:∀i,i<32->W.cell? ⟨0,i,none⟩=some (.int .u8 (tzL.getD i 0)):=by
  intro i hi;have h0:=hel i hi;rw[cells5,Nat.mul_one] at h0;have hxi:xs[i]?.map (·.1)=some (.lit (.int .u8 (tzL.getD i 0))):=by
   rw[<- List.getElem?_map,hxs,List.getElem?_map,List.getElem?_eq_getElem (show i<tzL.length from hi)];simp only[Option.map_some,List.getD,List.getElem?_eq_getElem (show i<tzL.length from hi),Option.getD_some]
  cases hx:xs[i]? with
  | none=>rw[hx] at hxi;cases hxi
  | some x =>
    rw[hx] at h0 hxi;obtain⟨k,e1,e2,_⟩:=DataW.trod_int Tryz.underlying5 h0;rw[e2] at hxi;simp only[Option.map_some,Option.some.injEq] at hxi;have hk:k=tzL.getD i 0:=by
     have:=DataW.lit.inj hxi;exact(Lit.int.inj this).2
    have hc:=World.var?_cell hg0 hv0 i;rw[hc];have hl:i<cs0.toList.length:=by rw[hlen,cells240];exact hi
    have h3:cs0.toList[i]?=some (.int .u8 k):=by
     have:=congrArg (·[0]?) e1;simpa[List.getElem?_take,List.getElem?_drop] using this
    rw[<- hk];simpa using h3
 have hb:0<W.heap.size:=by
  have:=key 0 (by decide);unfold World.cell? at this;split at this
  . rename_i h;exact lt_of_getElem? h
  . cases this
 exact .fe _ _ _ _ _ _ _ _ (fun i _=>.int .u8 (tzL.getD i 0)) (by decide) (fun h=>h) hb
  (fun i j hi hj=>by(obtain rfl:j=0:=by omega);simpa using key i hi) (fun i j hi hj=>rfl) (fun i j hi hj=>.int _ _ _)
theorem max_le {n:Nat} (h:n<=maxLen):n<=9223372036854775807:=h
section
variable {H:Type} {enc:TypeId×Value->H} {W:World} {sp:Nat->Bool} {hd:Bool}
theorem den_net {v:Value} {d:DataW H} {ps:List MemPlace} (hv:∃cs,v=.agg cs) (h:DataW.Trod enc Tryz.prog W 0 sp hd 24 v d ps):∃x:Net,x.Small/\Den (fun _=>False) W Sg.none x.v v:=by
 obtain⟨arr,rfl⟩:=hv;obtain⟨fuel,h⟩:=h;obtain⟨hl,n,hf⟩:=trod_struct_inv Tryz.underlying24 h;simp only[Value.cells] at hl hf;generalize hcs:arr.toList=cs at hl hf;rw[cells24] at hl;obtain⟨x0,y0⟩:=hf 0 _ rfl;obtain⟨x1,y1⟩:=hf 1 _ rfl;obtain⟨x2,y2⟩:=hf 2 _ rfl;obtain⟨x3,y3⟩:=hf 3 _ rfl;obtain⟨x4,y4⟩:=hf 4 _ rfl;obtain⟨x5,y5⟩:=hf 5 _ rfl;simp only[cells3,cells22,cells4] at y0 y1 y2 y3 y4 y5;obtain⟨n0,e0,_⟩:=trod_int_inv Tryz.underlying3 y0;obtain⟨u1,l1,e1,_,d1,m1,_⟩:=den_ints Sg.none Tryz.underlying22 Tryz.underlying3 cells3 y1;obtain⟨u2,l2,e2,_,d2,m2,_⟩:=den_ints Sg.none Tryz.underlying22 Tryz.underlying3 cells3 y2;obtain⟨u3,l3,e3,_,d3,m3,_⟩:=den_ints Sg.none Tryz.underlying22 Tryz.underlying3 cells3 y3;obtain⟨b4,e4⟩:=trod_bool_inv Tryz.underlying4 y4;obtain⟨b5,e5⟩:=trod_bool_inv Tryz.underlying4 y5
 match cs,hl with
 | [c0,c1,c2,c3,c4,c5],_ =>
   simp at e0 e1 e2 e3 e4 e5;subst e0 e1 e2 e3 e4 e5;refine⟨⟨n0,l1,l2,l3,b4,b5⟩,⟨max_le m1,max_le m2,max_le m3⟩,?_⟩;have:arr=[.int .i64 n0,c1,c2,c3,.bool b4,.bool b5].toArray:=by rw[<- hcs]
   rw[this];refine .agg _ _ _ rfl ?_;intro i v u hv hu
   match i,hv,hu with
   | 0,hv,hu=>simp at hv hu;subst hv hu;exact .int _ _ _
   | 1,hv,hu=>simp at hv hu;subst hv hu;exact d1
   | 2,hv,hu=>simp at hv hu;subst hv hu;exact d2
   | 3,hv,hu=>simp at hv hu;subst hv hu;exact d3
   | 4,hv,hu=>simp at hv hu;subst hv hu;exact .bool _ _
   | 5,hv,hu=>simp at hv hu;subst hv hu;exact .bool _ _
   | i+6,hv,hu=>simp at hv
theorem den_raw {v:Value} {d:DataW H} {ps:List MemPlace} (hv:v.cells=#[v]) (h:DataW.Trod enc Tryz.prog W 0 sp hd 22 v d ps):∃l:List Int,l.length<=9223372036854775807/\Den (fun _=>False) W Sg.none (.fz l.length 1 false (vI l)) v:=by
 obtain⟨fuel,h⟩:=h;rw[hv] at h;obtain⟨u1,l1,e1,_,d1,m1,_⟩:=den_ints Sg.none Tryz.underlying22 Tryz.underlying3 cells3 h;simp at e1;subst e1;exact⟨l1,max_le m1,d1⟩
end
theorem aggN_of_ok {W:World} {base:Nat} {v:Value} (h:Value.okWide Tryz.prog W .any base 24 v):∃cs,v=.agg cs:=by
 unfold Value.okWide at h;rw[Tryz.underlying24] at h;obtain⟨cs,h,_⟩:=h;exact⟨cs,h⟩
theorem sliceI_of_ok {W:World} {base:Nat} {v:Value} (h:Value.okWide Tryz.prog W .any base 22 v):v.cells=#[v]:=by
 unfold Value.okWide at h;rw[Tryz.underlying22] at h;unfold Cell.okWide at h;rw[Tryz.underlying22] at h;cases v<;>first|rfl|(simp[Cell.ok,Tryz.underlying22] at h)
end Go.Proofs.YtefdkgkojlflaaaGreatDoor
namespace Go.Proofs.YtefdkgkojlflaaaGreatDoor
open Go.Eng
set_option maxRecDepth 100000
set_option linter.unusedVariables false
theorem lenN_le:∀{l m:List Nat},l.Nodup->(∀a∈l,a∈m)->l.length<=m.length
 | [],m,_,_=>Nat.zero_le _
 | a::l,m,hn,hs=>by
   rw[List.nodup_cons] at hn;have ham:=hs a (by simp);have h1:=lenN_le (l:=l) (m:=m.erase a) hn.2 (fun b hb=>(List.mem_erase_of_ne (fun e=>hn.1 (by rw[<- e];exact hb))).2 (hs b (by simp[hb])));have h2:=List.length_erase_of_mem ham;have h3:=List.length_pos_of_mem ham;simp only[List.length_cons];omega
abbrev Pt:=List (List (Int×Int))
def toN (p:Pt) (v i:Nat):Nat:=(gF (gR p v) i).1.toNat
def lay (p:Pt) (f:Nat):Nat->Nat->Int
 | 0,v=>if v=f then 0 else -1
 | k+1,v=>if 0<=lay p f k v then lay p f k v else if (gR p v).any (fun l=>decide (lay p f k l.1.toNat=k)) then (k:Int)+1 else -1
structure Found (p:Pt) (f:Nat) (r:Nat->Int):Prop where
 low:∀v,v<p.length->-1<=r v
 from_:r f=0
 back:∀v,v<p.length->v≠f->0<=r v->∃l∈gR p v,r l.1.toNat=r v-1/\0<=r l.1.toNat
 on:∀v,v<p.length->0<=r v->∀l∈gR p v,0<=r l.1.toNat/\r l.1.toNat<=r v+1
structure Und (p:Pt):Prop where
 rng:∀v,v<p.length->∀l∈gR p v,l.1.toNat<p.length
 sym:∀v,v<p.length->∀l∈gR p v,∃m∈gR p l.1.toNat,m.1.toNat=v
theorem Found.at_ {p:Pt} {f:Nat} {r:Nat->Int} (hu:Und p) (h:Found p f r) (hf:f<p.length):∀k v,v<p.length->lay p f k v=if 0<=r v/\r v<=k then r v else -1
 | 0,v,hv=>by
   simp only[lay];by_cases e:v=f
   . subst e;rw[if_pos rfl,h.from_];simp
   . rw[if_neg e];by_cases h0:0<=r v
     . obtain⟨l,_,h1,h2⟩:=h.back v hv e h0;rw[if_neg (by omega)]
     . rw[if_neg (by omega)]
 | k+1,v,hv=>by
   have ih:=fun v hv=>Found.at_ hu h hf k v hv;have hl:=h.low v hv;rw[lay];by_cases h0:0<=r v/\r v<=k
   . have e1:lay p f k v=r v:=by rw[ih v hv,if_pos h0]
     rw[e1,if_pos h0.1];exact(if_pos ⟨h0.1,by omega⟩).symm
   . have e1:lay p f k v=-1:=by rw[ih v hv,if_neg h0]
     rw[e1,if_neg (by decide)];by_cases h1:0<=r v/\r v=k+1
     . have hvf:v≠f:=fun e=>by subst e;rw[h.from_] at h1;omega
       obtain⟨l,hl,q1,q2⟩:=h.back v hv hvf h1.1;have ha:(gR p v).any (fun l=>decide (lay p f k l.1.toNat=k))=true:=by
        rw[List.any_eq_true];refine⟨l,hl,decide_eq_true ?_⟩;rw[ih _ (hu.rng v hv l hl),if_pos ⟨q2,by omega⟩];omega
       rw[if_pos ha];refine Eq.trans ?_ (if_pos ⟨h1.1,by omega⟩).symm;omega
     . refine Eq.trans (if_neg ?_) (if_neg (show ¬ (0<=r v/\r v<=((k+1:Nat):Int)) by omega)).symm;intro ha;rw[List.any_eq_true] at ha;obtain⟨l,hl,e⟩:=ha;have e:=of_decide_eq_true e;have hlr:=hu.rng v hv l hl;rw[ih _ hlr] at e;split at e
       . rename_i h2;obtain⟨m,hm,em⟩:=hu.sym v hv l hl;obtain⟨q1,q2⟩:=h.on _ hlr h2.1 m hm;rw[em] at q1 q2;omega
       . omega
theorem Found.lt {p:Pt} {f:Nat} {r:Nat->Int} (hu:Und p) (h:Found p f r) {v:Nat} (hv:v<p.length):r v<p.length:=by
 have key:∀m:Nat,∀v,v<p.length->r v=m->∃l:List Nat,l.length=m+1/\l.Nodup/\(∀u∈l,u<p.length)/\∀u∈l,r u<=m:=by
  intro m
  induction m with
  | zero=>intro v hv e;exact⟨[v],rfl,by simp,by simpa using hv,by simp;omega⟩
  | succ m ih =>
    intro v hv e;have hvf:v≠f:=fun x=>by subst x;rw[h.from_] at e;omega
    obtain⟨l,hl,q1,q2⟩:=h.back v hv hvf (by omega);obtain⟨L,l1,l2,l3,l4⟩:=ih _ (hu.rng v hv l hl) (by omega);refine⟨v::L,by simp[l1],List.nodup_cons.2 ⟨fun hm=>?_,l2⟩,?_,?_⟩
    . have:=l4 v hm;omega
    . intro u hu;rcases List.mem_cons.1 hu with rfl|hu
      . exact hv
      . exact l3 u hu
    . intro u hu;rcases List.mem_cons.1 hu with rfl|hu
      . omega
      . have:=l4 u hu;omega
 rcases Int.lt_or_le (r v) 0 with h0|h0
 . omega
 . obtain⟨L,l1,l2,l3,_⟩:=key (r v).toNat v hv (by omega);have:L.length<=(List.range p.length).length:=lenN_le l2 (fun u hu=>List.mem_range.2 (l3 u hu));rw[l1,List.length_range] at this;omega
theorem Found.eq {p:Pt} {f:Nat} {r:Nat->Int} (hu:Und p) (h:Found p f r) (hf:f<p.length) {v:Nat} (hv:v<p.length):lay p f (p.length-1) v=r v:=by
 have h1:=h.lt hu hv;have h2:=h.low v hv;rw[h.at_ hu hf _ v hv];split
 . rfl
 . omega
def cntU (p:Nat->Bool):Nat->Nat
 | 0=>0
 | n+1=>cntU p n+if p n then 1 else 0
theorem cntU_ext {p q:Nat->Bool}:∀{n:Nat},(∀v,v<n->p v=q v)->cntU p n=cntU q n
 | 0,_=>rfl
 | n+1,h=>by
   have h1:=cntU_ext (n:=n) fun v hv=>h v (by omega);simp only[cntU,h1,h n (by omega)]
theorem cntU_one {p q:Nat->Bool} {u:Nat} (hp:p u=true) (hq:q u=false) (h:∀v,v≠u->p v=q v):∀{n:Nat},u<n->cntU p n=cntU q n+1
 | n+1,hn=>by
   simp only[cntU];by_cases e:u=n
   . subst e;rw[cntU_ext (fun v hv=>h v (by omega)),hp,hq];simp
   . rw[cntU_one hp hq h (n:=n) (by omega),h n (fun x=>e x.symm)];omega
def unv (r:List Int) (n:Nat):Nat:=cntU (fun v=>decide (gI r v<0)) n
theorem gI_set (r:List Int) (u v:Nat) (d:Int) (hu:u<r.length):gI (r.set u d) v=if v=u then d else gI r v:=by
 simp only[gI,List.getD,List.getElem?_set];by_cases h:u=v
 . subst h;simp[hu]
 . have:¬ v=u:=fun e=>h e.symm;simp[h,this]
structure BI (p:Pt) (f:Nat) (q:List Nat) (r:List Int):Prop where
 len:r.length=p.length
 low:∀v,v<p.length->-1<=gI r v
 from_:gI r f=0
 back:∀v,v<p.length->v≠f->0<=gI r v->∃l∈gR p v,gI r l.1.toNat=gI r v-1/\0<=gI r l.1.toNat
 qn:∀u∈q,u<p.length/\0<=gI r u
 sorted:q.Pairwise fun a b=>gI r a<=gI r b
structure BO (p:Pt) (f:Nat) (q:List Nat) (r:List Int):Prop extends BI p f q r where
 top:∀u∈q,∀v,v<p.length->gI r v<=gI r u+1
 done:∀v,v<p.length->0<=gI r v->v∉q->∀l∈gR p v,0<=gI r l.1.toNat/\gI r l.1.toNat<=gI r v+1
structure BP (p:Pt) (f v i:Nat) (q:List Nat) (r:List Int):Prop extends BI p f q r where
 vn:v<p.length/\0<=gI r v
 most:∀x,x<p.length->gI r x<=gI r v+1
 least:∀u∈q,gI r v<=gI r u
 done:∀x,x<p.length->0<=gI r x->x∉q->x≠v->∀l∈gR p x,0<=gI r l.1.toNat/\gI r l.1.toNat<=gI r x+1
 seen:∀l∈(gR p v).take i,0<=gI r l.1.toNat
theorem BO.pop {p:Pt} {f v:Nat} {q:List Nat} {r:List Int} (h:BO p f (v::q) r):BP p f v 0 q r where
 len:=h.len
 low:=h.low
 from_:=h.from_
 back:=h.back
 qn:=fun u hu=>h.qn u (by simp[hu])
 sorted:=(List.pairwise_cons.1 h.sorted).2
 vn:=h.qn v (by simp)
 most:=h.top v (by simp)
 least:=(List.pairwise_cons.1 h.sorted).1
 done:=fun x hx h0 hq hv=>h.done x hx h0 (by simp only[List.mem_cons,not_or];exact⟨hv,hq⟩)
 seen:=by simp
theorem BP.fin {p:Pt} {f v i:Nat} {q:List Nat} {r:List Int} (hu:Und p) (h:BP p f v i q r) (hi:(gR p v).length<=i):BO p f q r where
 toBI:=h.toBI
 top:=fun u hu x hx=>by have:=h.least u hu;have:=h.most x hx;omega
 done:=fun x hx h0 hq=>by
  by_cases e:x=v
  . subst e;intro l hl;refine⟨h.seen l (by rw[List.take_of_length_le hi];exact hl),h.most _ (hu.rng x hx l hl)⟩
  . exact h.done x hx h0 hq e
theorem BP.skip {p:Pt} {f v i:Nat} {q:List Nat} {r:List Int} (h:BP p f v i q r) (hi:i<(gR p v).length) (h0:0<=gI r (toN p v i)):BP p f v (i+1) q r where
 toBI:=h.toBI
 vn:=h.vn
 most:=h.most
 least:=h.least
 done:=h.done
 seen:=fun l hl=>by
  rw[gF_take _ i hi] at hl;rcases List.mem_append.1 hl with h1|h1
  . exact h.seen l h1
  . simp at h1;rw[h1];exact h0
theorem BP.visit {p:Pt} {f v i:Nat} {q:List Nat} {r:List Int} (hu:Und p) (h:BP p f v i q r) (hi:i<(gR p v).length) (h0:gI r (toN p v i)<0) :
 BP p f v (i+1) (q++[toN p v i]) (r.set (toN p v i) (gI r v+1))/\unv r p.length=unv (r.set (toN p v i) (gI r v+1)) p.length+1:=by
 obtain⟨hv,hv0⟩:=h.vn;have hun:toN p v i<p.length:=hu.rng v hv _ (gF_mem hi);obtain⟨m,hm,hmv⟩:=hu.sym v hv _ (gF_mem hi);have hg:=fun x=>gI_set r (toN p v i) x (gI r v+1) (by rw[h.len];exact hun);change m∈gR p (toN p v i) at hm;have hlast:(gF (gR p v) i).1.toNat=toN p v i:=rfl;generalize toN p v i=u at *;have hvu:v≠u:=fun e=>by subst e;omega
 have keep:∀x,0<=gI r x->gI (r.set u (gI r v+1)) x=gI r x:=fun x hx=>by
  rw[hg,if_neg (fun e=>by subst e;omega)]
 have hle:∀x,x<p.length->gI (r.set u (gI r v+1)) x<=gI r v+1:=fun x hx=>by
  rw[hg];split
  . omega
  . exact h.most x hx
 refine⟨{ len:=by simp[h.len],low:=?_,from_:=?_,back:=?_,qn:=?_,sorted:=?_,vn:=?_,most:=?_,least:=?_,done:=?_,seen:=?_ },?_⟩
 . intro x hx;rw[hg];split
   . omega
   . exact h.low x hx
 . rw[keep f (by rw[h.from_];omega)];exact h.from_
 . intro x hx hxf hx0;by_cases e:x=u
   . subst e;refine⟨m,hm,?_⟩;rw[hmv,keep v hv0,hg,if_pos rfl];omega
   . rw[hg,if_neg e] at hx0 ⊢;obtain⟨l,hl,a,b⟩:=h.back x hx hxf hx0;exact⟨l,hl,by rw[keep _ b];exact a,by rw[keep _ b];exact b⟩
 . intro w hw;rcases List.mem_append.1 hw with h1|h1
   . obtain⟨a,b⟩:=h.qn w h1;exact⟨a,by rw[keep w b];exact b⟩
   . simp at h1;subst h1;exact⟨hun,by rw[hg,if_pos rfl];omega⟩
 . rw[List.pairwise_append];refine⟨h.sorted.imp_of_mem fun {a b} ha hb hab=>?_,by simp,fun a ha b hb=>?_⟩
   . rw[keep a (h.qn a ha).2,keep b (h.qn b hb).2];exact hab
   . simp at hb;subst hb;rw[keep a (h.qn a ha).2,hg,if_pos rfl];exact h.most a (h.qn a ha).1
 . exact⟨hv,by rw[keep v hv0];exact hv0⟩
 . intro x hx;rw[keep v hv0];exact hle x hx
 . intro w hw;rw[keep v hv0];rcases List.mem_append.1 hw with h1|h1
   . rw[keep w (h.qn w h1).2];exact h.least w h1
   . simp at h1;subst h1;rw[hg,if_pos rfl];omega
 . intro x hx hx0 hq hxv l hl;have hxu:x≠u:=fun e=>hq (by simp[e]);rw[hg,if_neg hxu] at hx0;rw[keep x hx0];obtain⟨a,b⟩:=h.done x hx hx0 (fun e=>hq (by simp[e])) hxv l hl;rw[keep _ a];exact⟨a,b⟩
 . intro l hl;rw[gF_take _ i hi] at hl;rcases List.mem_append.1 hl with h1|h1
   . rw[keep _ (h.seen l h1)];exact h.seen l h1
   . simp at h1;rw[h1,hlast,hg,if_pos rfl];omega
 . refine cntU_one (u:=u) (by simpa using h0) (by rw[hg,if_pos rfl];simp;omega) (fun x hx=>?_) hun;show decide _=decide _;rw[hg,if_neg hx]
theorem BO.found {p:Pt} {f:Nat} {r:List Int} (h:BO p f [] r):Found p f (gI r) where
 low:=h.low
 from_:=h.from_
 back:=h.back
 on:=fun v hv h0 l hl=>h.done v hv h0 (by simp) l hl
end Go.Proofs.YtefdkgkojlflaaaGreatDoor
namespace Go.Proofs.YtefdkgkojlflaaaGreatDoor
open Go.Eng
set_option maxRecDepth 100000
set_option linter.unusedVariables false
theorem und_of {g:G} (hg:g.valid=true):Und g.ports:=by
 obtain⟨f1,f2,f3,f4,f5,f6,f7⟩:=val_facts hg;refine⟨fun v hv l hl=>?_,fun v hv l hl=>⟨_,f7 v hv l hl,by simp⟩⟩;have h:=f6 v hv;rw[okR,Bool.and_eq_true,List.all_eq_true] at h;have:=h.1 _ hl;rw[okL,decide_eq_true_eq] at this;omega
def dst (g:G) (f:Nat):List Int:=(List.range g.ports.length).map (lay g.ports f (g.ports.length-1))
theorem dst_len (g:G) (f:Nat):(dst g f).length=g.ports.length:=by simp[dst]
theorem dst_get (g:G) (f:Nat) {v:Nat} (hv:v<g.ports.length):gI (dst g f) v=lay g.ports f (g.ports.length-1) v:=by
 simp[dst,gI,hv]
theorem row_le' {g:G} (hg:g.valid=true) (v:Nat):(gR g.ports v).length<=24:=by
 obtain⟨f1,f2,f3,f4,f5,f6,f7⟩:=val_facts hg;by_cases h:v<g.ports.length
 . have:=okR_len h (f6 v h);omega
 . rw[show gR g.ports v=[] by simp only[gR,List.getD];rw[List.getElem?_eq_none (by omega)];rfl];simp
theorem okR_to' {n v:Nat} {r:List (Int×Int)} (h:okR n v r=true) {i:Nat} (hi:i<r.length):0<=(gF r i).1/\(gF r i).1<n:=by
 rw[okR,Bool.and_eq_true,List.all_eq_true] at h;have:=h.1 _ (gF_mem hi);rw[okL,decide_eq_true_eq] at this;exact⟨this.1,this.2.1⟩
def vN (l:List Nat):Nat->Nat->V:=fun i _=>.int .i64 (l.getD i 0:Nat)
def iniF (j:Nat):Nat->Nat->V:=fun i _=>.int .i64 (if i<j then -1 else 0)
theorem iniF_step (n j i t:Nat) (hi:i<n) (ht:t<1):VLe (fset (iniF j) j 0 [.int .i64 (-1)] i t) (iniF (j+1) i t):=by
 obtain rfl:t=0:=by omega
 apply VLe.of_eq;by_cases h:i=j
 . subst h;simp[fset,iniF]
 . have h1:(i<j+1)=(i<j):=by simp;omega
   simp[fset,iniF,h,h1]
theorem vle_set (r:List Int) (u i t:Nat) (d:Int) (hu:u<r.length) (ht:t<1):VLe (fset (vI r) u 0 [.int .i64 d] i t) (vI (r.set u d) i t):=by
 obtain rfl:t=0:=by omega
 apply VLe.of_eq;simp only[fset,vI,gI_set r u i d hu];by_cases h:i=u
 . subst h;simp
 . simp[h]
theorem ini_end (n f i t:Nat) (hf:f<n) (hi:i<n) (ht:t<1):VLe (fset (iniF n) f 0 [.int .i64 0] i t) (vI ((List.replicate n (-1)).set f 0) i t):=by
 obtain rfl:t=0:=by omega
 apply VLe.of_eq;simp only[fset,vI];rw[gI_set _ _ _ _ (by simpa using hf)];by_cases h:i=f
 . subst h;simp
 . rw[if_neg (by simp[h]),if_neg h];simp[iniF,hi,gI]
theorem cntU_le (p:Nat->Bool):∀n,cntU p n<=n
 | 0=>Nat.le_refl _
 | n+1=>by have:=cntU_le p n;rw[cntU];split<;>omega
theorem bo_start {p:Pt} (hu:Und p) {f:Nat} (hf:f<p.length):BO p f [f] ((List.replicate p.length (-1)).set f 0):=by
 have hg:=fun x=>gI_set (List.replicate p.length (-1)) f x 0 (by simpa using hf);have hr:∀x,x<p.length->gI (List.replicate p.length (-1)) x=-1:=fun x hx=>by simp[gI,hx]
 have hv:∀x,x<p.length->x≠f->gI ((List.replicate p.length (-1)).set f 0) x=-1:=fun x hx h=>by rw[hg,if_neg h,hr x hx]
 have h0:gI ((List.replicate p.length (-1)).set f 0) f=0:=by rw[hg,if_pos rfl]
 refine { len:=by simp,low:=fun x hx=>?_,from_:=h0,back:=fun x hx hxf h=>?_,qn:=fun u hu=>?_,sorted:=by simp,top:=fun u hu x hx=>?_,done:=fun x hx h hq=>?_ }
 . by_cases e:x=f
   . subst e;rw[h0];decide
   . rw[hv x hx e];decide
 . rw[hv x hx hxf] at h;omega
 . simp at hu;subst hu;exact⟨hf,by rw[h0];decide⟩
 . simp at hu;subst hu;rw[h0];by_cases e:x=u
   . subst e;rw[h0];decide
   . rw[hv x hx e];decide
 . have:x≠f:=by simpa using hq
   rw[hv x hx this] at h;omega
theorem sh_at (lo:Nat) (f:Nat->Nat->V) (i j:Nat):shiftF lo f i j=f (lo+i) j:=by
 cases lo with
 | zero=>simp[shiftF]
 | succ n=>simp[shiftF]
theorem vle_appN (Q:List Nat) (lo u i t:Nat) (hlo:lo<=Q.length) (hi:i<Q.length-lo+1) (ht:t<1) :
 VLe (fapp (shiftF lo (vN Q)) (Q.length-lo) (shiftF 0 (tab [[.int .i64 (u:Int)]])) i t) (vN (Q.drop lo++[u]) i t):=by
 obtain rfl:t=0:=by omega
 apply VLe.of_eq;by_cases h:i<Q.length-lo
 . rw[fapp_lt h];simp only[sh_at,vN];have:(Q.drop lo++[u]).getD i 0=Q.getD (lo+i) 0:=by
    rw[List.getD_eq_getElem?_getD,List.getD_eq_getElem?_getD,List.getElem?_append_left (by simpa using h),List.getElem?_drop]
   rw[this]
 . rw[fapp_ge h];have:i=Q.length-lo:=by omega
   subst this;simp[shiftF,tab,vN]
theorem ini_bnd {n f:Nat} (hf:f<n):∀y,y<n->gI ((List.replicate n (-1)).set f 0) y+unv ((List.replicate n (-1)).set f 0) n<n:=by
 have hg:=fun x=>gI_set (List.replicate n (-1)) f x 0 (by simpa using hf);have h1:unv ((List.replicate n (-1)).set f 0) n+1<=n:=by
  have:=cntU_one (p:=fun _=>true) (q:=fun v=>decide (v≠f)) (u:=f) rfl (by simp) (fun v hv=>by simp[hv]) hf;have h2:unv ((List.replicate n (-1)).set f 0) n=cntU (fun v=>decide (v≠f)) n:=cntU_ext fun v hv=>by
   rw[hg];by_cases e:v=f
   . simp[e]
   . simp[e,gI,hv]
  have h3:=cntU_le (fun _=>true) n;omega
 intro y hy;rw[hg];split
 . omega
 . simp only[gI,List.getD,List.getElem?_replicate,hy,if_true,Option.getD_some];omega
theorem vle_appN2 (Q:List Nat) (lo i t:Nat) (a:Int) (u:Nat) (hlo:lo<=Q.length) (hi:i<Q.length-lo+1) (ht:t<1) (hu:a=u) :
 VLe (fapp (shiftF lo (vN Q)) (Q.length-lo) (shiftF 0 (tab [[.int .i64 a]])) i t) (vN (Q.drop lo++[u]) i t):=by
 subst hu;exact vle_appN Q lo u i t hlo hi ht
set_option maxHeartbeats 16000000 in
theorem search_ok (g:G) (hg:g.valid=true) (f:Nat) (hf:f<g.ports.length):Ret Tryz.prog 44 [g.v,.int .i64 f] (.fz (dst g f).length 1 false (vI (dst g f))):=by
 obtain⟨f1,f2,f3,f4,f5,f6,f7⟩:=val_facts hg;have hu:=und_of hg;refine ret_frz rfl ?_;refine fn_rule mixed Tryz.func44 rfl hc44 hr44 rfl ?_
 repeat' ((conv=>whnf);first|(refine Bd.nat (by omega) ?_)|(refine Len.mk (by omega) ?_)|(refine MkS.vec ?_))
 all_goals (conv=>whnf)
 refine loop_w mixed [1,2,5,16] [] [2,3,4,5,6,7,8,9,10,11,12,13,14,15,16,17,18,19,20,21,22,23,24,25,26,27,28,29] [1,0] (fun j:Nat=>[(17,.int .i64 j)]) (fun j=>[(1,.vec g.ports.length 1 (iniF j)),(0,.cells [.fz g.ids.length 1 false (vI g.ids),.fz g.ports.length 1 false (vP g.ports)])]) (fun m j=>m=g.ports.length-j/\j<=g.ports.length) g.ports.length 0 ⟨rfl,Nat.zero_le _⟩ rfl (fun _=>rfl) ?_ ?_
 . refine weak_by (fun _ _=>[(0,some 0),(1,some 1)]) ?_ ?_ rfl
   . repeat' (first|exact True.intro|(refine⟨⟨_,rfl,?_⟩,?_⟩)|exact VRen.kf rfl|exact VRen.loc rfl|exact VRen.vec rfl rfl rfl)
   . repeat' (first|exact⟨Nat.le_refl _,rfl,fun i j hi hj=>VLe.of_eq (by obtain rfl:j=0:=(by omega);rfl)⟩|exact True.intro|(refine⟨⟨_,rfl,?_⟩,?_⟩)|exact VRen.kf rfl|(refine And.intro ?_ ?_))
 rintro m j ⟨hm,hj⟩;by_cases hjn:j<g.ports.length
 . repeat' ((conv=>whnf);first|(refine Br.dec ?_ ?_<;>intro _<;>try omega)|(refine Ar.i64 (by omega) (by omega) ?_)|(refine Ix.nat (by omega) ?_)|(refine Ltn.mk (by omega) ?_))
   all_goals (conv=>whnf)
   refine⟨g.ports.length-(j+1),j+1,by omega,⟨rfl,by omega⟩,?_⟩;refine weak_by (fun _ _=>[(0,some 0),(1,some 1)]) ?_ ?_ rfl
   . repeat' (first|exact True.intro|(refine⟨⟨_,rfl,?_⟩,?_⟩)|exact VRen.kf rfl|exact VRen.loc rfl|exact VRen.vec rfl rfl rfl)
   . repeat' (first|exact⟨Nat.le_refl _,rfl,fun i t hi ht=>by simp only[Nat.zero_add];exact iniF_step _ _ _ _ hi ht⟩|exact True.intro|(refine⟨⟨_,rfl,?_⟩,?_⟩)|exact VRen.kf rfl|(refine And.intro ?_ ?_))
 . have ej:j=g.ports.length:=by omega
   subst ej
   repeat' ((conv=>whnf);first|(refine Br.dec ?_ ?_<;>intro _<;>try omega)|(refine Ix.nat (by omega) ?_)|(refine Ltn.mk (by omega) ?_))
   all_goals (conv=>whnf)
   refine loop_w mixed [2,5] [2] [3,4,5,6,7,8,9,10,11,12,13,14,15,16,17,18,19,20,21,22,23,24,25,26,27,28,29] [2,1,0] (fun x:Nat×List Nat×List Int=>[(7,.vec 2 1 x.1 (x.2.1.length-x.1))]) (fun x=>[(2,.vec x.2.1.length 1 (vN x.2.1)),(1,.vec g.ports.length 1 (vI x.2.2)),(0,.cells [.fz g.ids.length 1 false (vI g.ids),.fz g.ports.length 1 false (vP g.ports)])])
    (fun m x=>m=2*unv x.2.2 g.ports.length+(x.2.1.length-x.1)/\x.1<=x.2.1.length/\x.2.1.length<=60/\m<=50/\BO g.ports f (x.2.1.drop x.1) x.2.2/\∀y,y<g.ports.length->gI x.2.2 y+unv x.2.2 g.ports.length<g.ports.length) _ (0,[f],(List.replicate g.ports.length (-1)).set f 0) ⟨rfl,by simp,by simp,?_,bo_start hu hf,ini_bnd hf⟩ rfl (fun _=>rfl) ?_ ?_
   . have:=cntU_le (fun v=>decide (gI ((List.replicate g.ports.length (-1)).set f 0) v<0)) g.ports.length;simp only[unv,List.length_cons,List.length_nil];omega
   . refine weak_by (fun _ _=>[(0,some 0),(1,some 1),(2,some 2)]) ?_ ?_ rfl
     . repeat' (first|exact True.intro|(refine⟨⟨_,rfl,?_⟩,?_⟩)|exact VRen.loc rfl|exact VRen.vec rfl rfl rfl)
     . repeat' (first|exact⟨Nat.le_refl _,rfl,fun i t hi ht=>by simp only[Nat.zero_add];exact ini_end _ _ _ _ hf hi ht⟩|exact⟨Nat.le_refl _,rfl,fun i t hi ht=>VLe.of_eq (by obtain rfl:i=0:=(by simpa using hi);obtain rfl:t=0:=(by omega);rfl)⟩|exact True.intro|(refine⟨⟨_,rfl,?_⟩,?_⟩)|exact VRen.kf rfl|(refine And.intro ?_ ?_))
   rintro m ⟨lo,Q,r⟩ ⟨hm,hlo,hQ,hm50,hbo,hbd⟩;simp only at hm hlo hQ hbo hbd ⊢;by_cases hq:lo<Q.length
   . obtain⟨v,hv⟩:∃v,Q.getD lo 0=v:=⟨_,rfl⟩;have hdrop:Q.drop lo=v::Q.drop (lo+1):=by
      rw[List.drop_eq_getElem_cons hq,<- hv];simp[hq]
     rw[hdrop] at hbo;have hbp:=hbo.pop;obtain⟨hvn,hv0⟩:=hbp.vn;have hrl:=row_le' hg v;have hlen:=hbp.len;have hQv:vN Q lo 0=.int .i64 (v:Int):=by simp only[vN,hv]
     have hQ0:Q.getD (lo+0) 0=v:=hv
     repeat' ((conv=>whnf);first|(refine Ix.mk v (by omega) (by omega) ?_)|(refine Br.dec ?_ ?_<;>intro _<;>try omega)|(refine Br.nble ?_ ?_<;>intro _<;>try omega)|(refine Ix.mk 0 rfl (by omega) ?_)|(refine Bd.mk 1 rfl (by omega) ?_)|(refine Ltn.mk (by omega) ?_))
     all_goals (conv=>whnf)
     refine loop_w mixed [2,5,8,41,42] [2] [3,4,5,6,7,8,9,10,11,12,13,14,15,16,17,18,19,20,21,22,23,24,25,26,27,28,29] [2,1,0] (fun x:Nat×Nat×List Nat×List Int=>[(7,.vec 2 1 x.2.1 (x.2.2.1.length-x.2.1)),(43,.int .i64 x.1)]) (fun x=>[(2,.vec x.2.2.1.length 1 (vN x.2.2.1)),(1,.vec g.ports.length 1 (vI x.2.2.2)),(0,.cells [.fz g.ids.length 1 false (vI g.ids),.fz g.ports.length 1 false (vP g.ports)])])
      (fun k x=>k=(gR g.ports v).length-x.1/\x.1<=(gR g.ports v).length/\x.2.1<=x.2.2.1.length/\x.2.2.1.length<=60/\2*unv x.2.2.2 g.ports.length+(x.2.2.1.length-x.2.1)<m/\BP g.ports f v x.1 (x.2.2.1.drop x.2.1) x.2.2.2/\∀y,y<g.ports.length->gI x.2.2.2 y+unv x.2.2.2 g.ports.length<g.ports.length) _ (0,lo+1,Q,r) ⟨rfl,by simp,by simp only;omega,hQ,by simp only;omega,hbp,hbd⟩ rfl (fun _=>rfl) ?_ ?_
     . exact weak_b (fun _ _=>[(0,some 0),(1,some 1),(2,some 2)])
     rintro k ⟨i,lo2,Q2,r2⟩ ⟨hk,hi,hlo2,hQ2,hm2,hbp2,hbd2⟩;simp only at hk hi hlo2 hQ2 hm2 hbp2 hbd2 ⊢;obtain⟨_,hv2⟩:=hbp2.vn;have hlen2:=hbp2.len;have hvb:0<=gI r2 (0+v)/\gI r2 (0+v)<=24:=by rw[Nat.zero_add];have:=hbd2 v hvn;omega
     by_cases hil:i<(gR g.ports v).length
     . have hr:=okR_to' (f6 v hvn) hil;have hr':toN g.ports v i<g.ports.length:=by show(gF (gR g.ports v) i).1.toNat<_;omega
       by_cases hneg:gI r2 (gF (gR g.ports v) i).1.toNat<0
       . obtain⟨hbp3,hun⟩:=hbp2.visit hu hil hneg;have hneg2:gI r2 (0+(gF (gR g.ports v) i).1.toNat)<0:=by rw[Nat.zero_add];exact hneg
         repeat' ((conv=>whnf);first|(refine Ix.mk v (by omega) (by omega) ?_)|(refine Br.dec ?_ ?_<;>intro _<;>try omega)|(refine Br.nbeq ?_ ?_<;>intro _<;>try omega)|(refine Ar.i64 (by omega) (by omega) ?_)|(refine Ix.nat (by omega) ?_)|(refine Ix.int (by omega) (by omega) ?_)|(refine Len.mk (by omega) ?_)|(refine Ltn.mk (by omega) ?_))
         all_goals (conv=>whnf)
         have hdl:(Q2.drop lo2++[toN g.ports v i]).length=Q2.length-lo2+1:=by simp
         refine⟨(gR g.ports v).length-(i+1),(i+1,0,Q2.drop lo2++[toN g.ports v i],r2.set (toN g.ports v i) (gI r2 v+1)),by omega,⟨rfl,by simp only;omega,by simp,by simp only[hdl];omega,by simp only[hdl];omega,hbp3,fun y hy=>?_⟩,?_⟩
         . have hb:=hbd2 y hy;have hb2:=hbd2 v hvn;simp only;rw[gI_set _ _ _ _ (by rw[hlen2];exact hr')];split<;>omega
         simp only[hdl];refine weak_by (fun env own=>[(0,some 0),(1,some 1),(2,ekey env 66)]) ?_ ?_ rfl
         . repeat' (first|exact True.intro|(refine⟨⟨_,rfl,?_⟩,?_⟩)|exact VRen.kf rfl|exact VRen.loc rfl|exact VRen.vec rfl rfl rfl)
         . repeat' (first|exact⟨Nat.le_refl _,rfl,fun a t ha ht=>by simp only[Nat.zero_add];exact vle_set _ _ _ _ _ (by rw[hlen2];exact hr') ht⟩|exact⟨by omega,rfl,fun a t ha ht=>vle_appN2 _ _ _ _ _ _ hlo2 ha ht (show(gF (gR g.ports v) i).1=((gF (gR g.ports v) i).1.toNat:Nat) by omega)⟩|exact True.intro|(refine⟨⟨_,rfl,?_⟩,?_⟩)|exact VRen.kf rfl|(refine And.intro ?_ ?_))
       . have hneg2:¬ gI r2 (0+(gF (gR g.ports v) i).1.toNat)<0:=by rw[Nat.zero_add];exact hneg
         have hbp3:=hbp2.skip hil (show 0<=gI r2 (gF (gR g.ports v) i).1.toNat by omega)
         repeat' ((conv=>whnf);first|(refine Br.dec ?_ ?_<;>intro _<;>try omega)|(refine Ar.i64 (by omega) (by omega) ?_)|(refine Ix.nat (by omega) ?_)|(refine Ix.int (by omega) (by omega) ?_)|(refine Ltn.mk (by omega) ?_))
         all_goals (conv=>whnf)
         refine⟨(gR g.ports v).length-(i+1),(i+1,lo2,Q2,r2),by omega,⟨rfl,by simp only;omega,hlo2,hQ2,hm2,hbp3,hbd2⟩,?_⟩;exact weak_b (fun env own=>[(0,some 0),(1,some 1),(2,some 2)])
     . have hfin:=hbp2.fin hu (by omega)
       repeat' ((conv=>whnf);first|(refine Br.dec ?_ ?_<;>intro _<;>try omega))
       all_goals (conv=>whnf)
       refine⟨_,(lo2,Q2,r2),hm2,⟨rfl,hlo2,hQ2,by omega,hfin,hbd2⟩,?_⟩;exact weak_b (fun env own=>[(0,some 0),(1,some 1),(2,some 2)])
   . have e:lo=Q.length:=by omega
     subst e;rw[List.drop_length] at hbo;have hfd:=hbo.found;have hlen:=hbo.len
     repeat' ((conv=>whnf);first|(refine Br.dec ?_ ?_<;>intro _<;>try omega)|(refine Len.mk (by omega) ?_))
     all_goals (conv=>whnf)
     refine VLe.fz (dst_len g f).symm (fun h=>h) (fun i t hi ht=>VLe.of_eq ?_);rw[sh_at];simp only[vI,Nat.zero_add];rw[dst_get g f hi,hfd.eq hu hf hi]
end Go.Proofs.YtefdkgkojlflaaaGreatDoor
namespace Go.Proofs.YtefdkgkojlflaaaGreatDoor
open Go.Eng
set_option maxRecDepth 100000
set_option linter.unusedVariables false
theorem layd_low (p:Pt) (f:Nat):∀k v,-1<=lay p f k v/\lay p f k v<=k
 | 0,v=>by rw[lay];split<;>omega
 | k+1,v=>by
   have:=layd_low p f k v;rw[lay];split
   . omega
   . split<;>omega
theorem layd_keep {p:Pt} {f k v:Nat} (h:0<=lay p f k v):∀m,lay p f (k+m) v=lay p f k v
 | 0=>rfl
 | m+1=>by
   have:=layd_keep h m;rw[<- Nat.add_assoc,lay,this,if_pos h]
theorem layd_self {p:Pt} {f:Nat}:∀{k v:Nat},0<=lay p f k v->lay p f (lay p f k v).toNat v=lay p f k v
 | 0,v,h=>by
   have:=layd_low p f 0 v;have e:lay p f 0 v=0:=by omega
   rw[e];exact e
 | k+1,v,h=>by
   by_cases h0:0<=lay p f k v
   . have e:lay p f (k+1) v=lay p f k v:=by rw[lay,if_pos h0]
     rw[e];exact layd_self h0
   . have e:lay p f (k+1) v=(k:Int)+1:=by
      rw[lay,if_neg h0] at h ⊢;split at h
      . rename_i q;rw[if_pos q]
      . omega
     rw[e,show((k:Int)+1).toNat=k+1 by omega,e]
theorem layd_agree {p:Pt} {f k m v:Nat} (h:0<=lay p f k v) (h':0<=lay p f m v):lay p f k v=lay p f m v:=by
 rcases Nat.le_total k m with q|q
 . have:=layd_keep h (m-k);rw[show k+(m-k)=m by omega] at this;exact this.symm
 . have:=layd_keep h' (k-m);rw[show m+(k-m)=k by omega] at this;exact this
theorem lay_back' {p:Pt} {f:Nat}:∀{k v:Nat},0<=lay p f k v->v≠f->∃l∈gR p v,lay p f k l.1.toNat=lay p f k v-1/\0<=lay p f k l.1.toNat
 | 0,v,h,hv=>by rw[lay,if_neg hv] at h;omega
 | k+1,v,h,hv=>by
   by_cases h0:0<=lay p f k v
   . obtain⟨l,hl,a,b⟩:=lay_back' h0 hv;have e1:lay p f (k+1) v=lay p f k v:=by rw[lay,if_pos h0]
     have e2:lay p f (k+1) l.1.toNat=lay p f k l.1.toNat:=by rw[lay,if_pos b]
     exact⟨l,hl,by rw[e1,e2];exact a,by rw[e2];exact b⟩
   . by_cases ha:(gR p v).any (fun l=>decide (lay p f k l.1.toNat=k))=true
     . have e1:lay p f (k+1) v=(k:Int)+1:=by rw[lay,if_neg h0,if_pos ha]
       rw[List.any_eq_true] at ha;obtain⟨l,hl,e⟩:=ha;have e:=of_decide_eq_true e;have e2:lay p f (k+1) l.1.toNat=k:=by rw[lay,if_pos (by omega)];exact e
       exact⟨l,hl,by rw[e1,e2];omega,by rw[e2];omega⟩
     . rw[lay,if_neg h0,if_neg ha] at h;omega
open Classical in
noncomputable def layR (p:Pt) (f v:Nat):Int:=if h:∃k,0<=lay p f k v then lay p f (Classical.choose h) v else -1
theorem layR_of {p:Pt} {f k v:Nat} (h:0<=lay p f k v):layR p f v=lay p f k v:=by
 have hx:∃k,0<=lay p f k v:=⟨k,h⟩;rw[layR,dif_pos hx];exact layd_agree (Classical.choose_spec hx) h
theorem layR_has {p:Pt} {f v:Nat} (h:0<=layR p f v):∃k,0<=lay p f k v/\layR p f v=lay p f k v:=by
 by_cases hx:∃k,0<=lay p f k v
 . obtain⟨k,hk⟩:=hx;exact⟨k,hk,layR_of hk⟩
 . rw[layR,dif_neg hx] at h;omega
theorem layR_low (p:Pt) (f v:Nat):-1<=layR p f v:=by
 rw[layR];split
 . exact(layd_low p f _ v).1
 . omega
theorem layR_found {p:Pt} (f:Nat) (hu:Und p):Found p f (layR p f):=by
 have hf0:lay p f 0 f=0:=by rw[lay,if_pos rfl]
 refine⟨fun v _=>layR_low p f v,by rw[layR_of (k:=0) (by omega),hf0],fun v hv hvf h=>?_,fun v hv h l hl=>?_⟩
 . obtain⟨k,hk,e⟩:=layR_has h;obtain⟨l,hl,a,b⟩:=lay_back' hk hvf;exact⟨l,hl,by rw[layR_of b,e];exact a,by rw[layR_of b];exact b⟩
 . obtain⟨k,hk,e⟩:=layR_has h;obtain⟨m,hm,em⟩:=hu.sym v hv l hl;have hs:=layd_self hk;have hd:((lay p f k v).toNat:Int)=lay p f k v:=by omega
   generalize (lay p f k v).toNat=d at *;have key:0<=lay p f (d+1) l.1.toNat:=by
    rw[lay];split
    . assumption
    . rw[if_pos (by rw[List.any_eq_true];exact⟨m,hm,by rw[em,hs,<- hd];simp⟩)];omega
   have hle:=(layd_low p f (d+1) l.1.toNat).2;rw[layR_of key,e,<- hd];omega
theorem dst_found {g:G} (hg:g.valid=true):Found g.ports 0 (fun v=>gI (dst g 0) v):=by
 obtain⟨f1,f2,f3,f4,f5,f6,f7⟩:=val_facts hg;have hu:=und_of hg;have hF:=layR_found 0 hu;have he:∀v,v<g.ports.length->gI (dst g 0) v=layR g.ports 0 v:=fun v hv=>by rw[dst_get g 0 hv];exact hF.eq hu (by omega) hv
 refine⟨fun v hv=>by rw[he v hv];exact hF.low v hv,by rw[he 0 (by omega)];exact hF.from_,fun v hv h0 h=>?_,fun v hv h l hl=>?_⟩
 . rw[he v hv] at h ⊢;obtain⟨l,hl,a,b⟩:=hF.back v hv h0 h;exact⟨l,hl,by rw[he _ (hu.rng v hv l hl)];exact a,by rw[he _ (hu.rng v hv l hl)];exact b⟩
 . rw[he v hv] at h ⊢;rw[he _ (hu.rng v hv l hl)];exact hF.on v hv h l hl
end Go.Proofs.YtefdkgkojlflaaaGreatDoor
namespace Go.Proofs.YtefdkgkojlflaaaGreatDoor
open Go.Eng
set_option maxRecDepth 100000
set_option linter.unusedVariables false
def negB (l:List Int):Bool:=l.any fun a=>decide (a<0)
theorem negB_no {l:List Int}:negB l=false↔∀a∈l,0<=a:=by
 rw[negB,List.any_eq_false];constructor
 . intro h a ha;have:=h a ha;simp at this;omega
 . intro h a ha;have:=h a ha;simp;omega
def G.conn (g:G):Bool:=g.valid&&!negB (dst g 0)
theorem conn_ok (g:G) (hs:g.Small):Ret Tryz.prog 18 [g.v] (.bool g.conn):=by
 have hval:=valid_ok g hs;refine ret_frz rfl ?_;refine fn_rule mixed Tryz.func18 rfl hc18 hr18 rfl ?_;rw[G.conn];by_cases hg:g.valid=true
 . obtain⟨f1,f2,f3,f4,f5,f6,f7⟩:=val_facts hg;have hsr:=search_ok g hg 0 (by omega);have hdl:=dst_len g 0;rw[hg] at hval ⊢;rw[Bool.true_and];generalize dst g 0=l at *
   repeat' ((conv=>whnf);first|(refine Br.tt ?_)|(refine hval.go ?_)|(refine hsr.go ?_))
   all_goals (conv=>whnf)
   refine loop_r mixed [9,10] (fun i:Nat=>[(11,.int .i64 i)]) (fun m i=>m=l.length-i/\i<=l.length/\∀a∈l.take i,0<=a) l.length 0 ⟨rfl,Nat.zero_le _,by simp⟩ ?_ ?_
   . exact weak_b (fun _ _=>[(0,some 0)])
   rintro m i ⟨hm,hi,hall⟩
   repeat' ((conv=>whnf);first|(refine Br.dec ?_ ?_<;>intro _<;>try omega)|(refine Ar.i64 (by omega) (by omega) ?_)|(refine Ix.nat (by omega) ?_))
   all_goals (conv=>whnf)
   . refine VLe.bool ?_;have:negB l=true:=by
      rw[negB,List.any_eq_true];exact⟨gI l i,gI_mem (by omega),by simp;omega⟩
     rw[this];rfl
   . refine⟨l.length-(i+1),i+1,by omega,⟨rfl,by omega,?_⟩,?_⟩
     . rw[gI_take l i (by omega)];intro a ha;rcases List.mem_append.1 ha with h|h
       . exact hall a h
       . simp at h;omega
     . exact weak_b (fun _ _=>[(0,some 0)])
   . rw[List.take_of_length_le (by omega)] at hall;rw[negB_no.2 hall];exact VLe.rfl
 . simp only[Bool.not_eq_true] at hg;rw[hg] at hval ⊢
   repeat' ((conv=>whnf);first|(refine Br.ff ?_)|(refine hval.go ?_))
   all_goals (conv=>whnf)
   all_goals exact VLe.rfl
theorem conn_facts {g:G} (h:g.conn=true):g.valid=true/\∀v,v<g.ports.length->0<=gI (dst g 0) v:=by
 simp only[G.conn,Bool.and_eq_true,Bool.not_eq_true'] at h;exact⟨h.1,fun v hv=>negB_no.1 h.2 _ (gI_mem (by rw[dst_len];exact hv))⟩
end Go.Proofs.YtefdkgkojlflaaaGreatDoor
namespace Go.Proofs.YtefdkgkojlflaaaGreatDoor
open Go.Eng
set_option maxRecDepth 100000
set_option linter.unusedVariables false
abbrev Lt2':=List (Int×Int)
theorem gF_drop' {l:Lt2'} {i:Nat} (h:i<l.length):l.drop i=gF l i::l.drop (i+1):=by
 rw[List.drop_eq_getElem_cons h];simp only[gF,List.getD,List.getElem?_eq_getElem h,Option.getD_some]
def fpI (p:Int×Int->Bool):Nat->Lt2'->Int
 | _,[]=>-1
 | k,l::r=>if p l then k else fpI p (k+1) r
theorem fpI_split (p:Int×Int->Bool):∀(l:Lt2') (k i:Nat),i<=l.length->(∀a∈l.take i,p a=false)->fpI p k l=fpI p (k+i) (l.drop i)
 | _,k,0,_,_=>by simp
 | [],k,i+1,h,_=>by simp at h
 | a::r,k,i+1,h,h2=>by
   have ha:p a=false:=h2 a (by simp);simp only[fpI,ha,List.drop_succ_cons];rw[if_neg (by simp),fpI_split p r (k+1) i (by simpa using h) (fun x hx=>h2 x (by simp[hx]))];congr 1;omega
theorem fpI_range (p:Int×Int->Bool):∀(l:Lt2') (k:Nat),fpI p k l=-1\/((k:Int)<=fpI p k l/\fpI p k l<(k+l.length:Nat))
 | [],k=>.inl rfl
 | a::r,k=>by
   simp only[fpI];split
   . right;simp;omega
   . rcases fpI_range p r (k+1) with h|h
     . exact .inl h
     . right;simp at *;omega
end Go.Proofs.YtefdkgkojlflaaaGreatDoor
namespace Go.Proofs.YtefdkgkojlflaaaGreatDoor
open Go.Eng
set_option maxRecDepth 100000
set_option linter.unusedVariables false
theorem two_le' (a b:Int) (f:Nat->Nat->V) (h0:f 0 0=.int .i64 a) (h1:f 1 0=.int .i64 b):∀i j:Nat,i<2->j<1->VLe (f i j) (vI [a,b] i j):=by
 intro i j hi hj;obtain rfl:j=0:=by omega
 rcases (show i=0\/i=1 by omega) with rfl|rfl
 . rw[h0];exact VLe.rfl
 . rw[h1];exact VLe.rfl
end Go.Proofs.YtefdkgkojlflaaaGreatDoor
namespace Go.Proofs.YtefdkgkojlflaaaGreatDoor
open Go.Eng
set_option maxRecDepth 100000
set_option linter.unusedVariables false
theorem conf_ext' {n m:Nat} {B B':Nat->Nat->Int×Int} {c:Cf} (h:∀v x,v<n->x<m->B v x=B' v x):conf n m B c=conf n m B' c:=by
 rw[Bool.eq_iff_iff,conf_iff,conf_iff];refine⟨fun⟨a,b⟩=>⟨a,fun v hv=>⟨(b v hv).1,fun x hx=>by rw[<- h v x hv hx];exact(b v hv).2 x hx⟩⟩,fun⟨a,b⟩=>⟨a,fun v hv=>⟨(b v hv).1,fun x hx=>by rw[h v x hv hx];exact(b v hv).2 x hx⟩⟩⟩
theorem cnumber_ok (s:ByteArray) (a b d:Int):Ret Tryz.prog 56 [.str s,.int .i64 a,.int .i64 b,.int .i64 d] (.agg [.str s,.int .i64 1,.int .i64 0,.int .i64 a,.int .i64 b,.int .i64 d]):=by
 refine ret_frz rfl ?_;refine fn_rule mixed Tryz.func56 rfl hc56 hr56 rfl ?_
 repeat' ((conv=>whnf);first|fail)
 all_goals (conv=>whnf)
 exact VLe.rfl
theorem cpointer_ok (s:ByteArray):Ret Tryz.prog 57 [.str s] (.agg [.str s,.int .i64 3,.int .i64 0,.int .i64 0,.int .i64 0,.int .i64 0]):=by
 refine ret_frz rfl ?_;refine fn_rule mixed Tryz.func57 rfl hc57 hr57 rfl ?_
 repeat' ((conv=>whnf);first|fail)
 all_goals (conv=>whnf)
 exact VLe.rfl
end Go.Proofs.YtefdkgkojlflaaaGreatDoor
namespace Go.Proofs.YtefdkgkojlflaaaGreatDoor
open Go.Eng
set_option maxRecDepth 100000
set_option linter.unusedVariables false
end Go.Proofs.YtefdkgkojlflaaaGreatDoor
namespace Go.Plain
abbrev St:=Nat->Bool
structure Adj (n:Nat) (a:Nat->Nat->Bool):Prop where
 sym:∀u v,u<n->v<n->a u v=true->a v u=true
 irr:∀v,v<n->a v v=false
 rng:∀u v,u<n->a u v=true->v<n
def nbM (n:Nat) (a:Nat->Nat->Bool) (m:St) (v:Nat):Bool:=(List.range n).any fun u=>a v u&&m u
theorem nbM_iff {n:Nat} {a:Nat->Nat->Bool} {m:St} {v:Nat}:nbM n a m v=true↔∃u,u<n/\a v u=true/\m u=true:=by
 simp only[nbM,List.any_eq_true,List.mem_range,Bool.and_eq_true]
def enI (n:Nat) (a:Nat->Nat->Bool) (m:St) (v:Nat):Bool:=match m v with|true=>nbM n a m v|false=>!nbM n a m v
def cfl (n:Nat) (a:Nat->Nat->Bool) (m:St) (v:Nat):Bool:=m v&&nbM n a m v
def stI (s m:St):St:=fun v=>match s v with|true=>!m v|false=>m v
structure Chs (n:Nat) (a:Nat->Nat->Bool) (m s:St):Prop where
 en:∀v,s v=true->v<n/\enI n a m v=true
 ind:∀u v,s u=true->s v=true->a u v=false
variable {n:Nat} {a:Nat->Nat->Bool} {m s:St}
theorem enter_free (_ha:Adj n a) (hc:Chs n a m s) {v:Nat} (hs:s v=true) (hm:m v=false):stI s m v=true/\nbM n a (stI s m) v=false:=by
 obtain⟨hv,he⟩:=hc.en v hs;refine⟨by simp[stI,hs,hm],?_⟩;rw[Bool.eq_false_iff];intro h;obtain⟨u,hu,h1,h2⟩:=nbM_iff.1 h;have hsu:s u=false:=by
  cases e:s u with
  | false=>rfl
  | true=>have:=hc.ind v u hs e;rw[h1] at this;cases this
 simp only[stI,hsu] at h2;simp only[enI,hm,Bool.not_eq_true'] at he;rw[nbM_iff.2 ⟨u,hu,h1,h2⟩] at he;cases he
theorem cfl_back (ha:Adj n a) (hc:Chs n a m s) {v:Nat} (hv:v<n) (h:cfl n a (stI s m) v=true):cfl n a m v=true/\s v=false:=by
 simp only[cfl,Bool.and_eq_true] at h;have hold:∀w,w<n->stI s m w=true->nbM n a (stI s m) w=true->m w=true/\s w=false:=fun w hw h1 h2=>by
  cases e:s w with
  | true =>
    cases em:m w with
    | false=>rw[(enter_free ha hc e em).2] at h2;cases h2
    | true=>simp[stI,e,em] at h1
  | false =>
    simp only[stI,e] at h1;exact⟨h1,rfl⟩
 obtain⟨h1,h2⟩:=h;obtain⟨u,hu,h3,h4⟩:=nbM_iff.1 h2;have hb:=hold v hv h1 h2;have hb2:=hold u hu h4 (nbM_iff.2 ⟨v,hv,ha.sym v u hv hu h3,h1⟩);exact⟨by simp only[cfl,Bool.and_eq_true];exact⟨hb.1,nbM_iff.2 ⟨u,hu,h3,hb2.1⟩⟩,hb.2⟩
theorem cfl_en {v:Nat} (h:cfl n a m v=true):enI n a m v=true:=by
 simp only[cfl,Bool.and_eq_true] at h;simp only[enI,h.1,h.2]
theorem stay (hn:∀v,v<n->cfl n a m v=false) (hc:Chs n a m s) {v:Nat} (hv:v<n) (hm:m v=true):stI s m v=true:=by
 cases e:s v with
 | false=>simp[stI,e,hm]
 | true =>
   obtain⟨_,he⟩:=hc.en v e;simp only[enI,hm] at he;have:=hn v hv;simp[cfl,hm,he] at this
theorem en_back (hn:∀v,v<n->cfl n a m v=false) (hn2:∀v,v<n->cfl n a (stI s m) v=false) (hc:Chs n a m s) {v:Nat} (hv:v<n) (h:enI n a (stI s m) v=true):enI n a m v=true/\s v=false:=by
 have hm':stI s m v=false:=by
  cases e:stI s m v with
  | false=>rfl
  | true =>
    simp only[enI,e] at h;have:=hn2 v hv;simp[cfl,e,h] at this
 have hm:m v=false:=by
  cases e:m v with
  | false=>rfl
  | true=>rw[stay hn hc hv e] at hm';cases hm'
 have hs:s v=false:=by
  cases e:s v with
  | false=>rfl
  | true=>simp[stI,e,hm] at hm'
 refine⟨?_,hs⟩;simp only[enI,hm',Bool.not_eq_true'] at h;simp only[enI,hm,Bool.not_eq_true'];rw[Bool.eq_false_iff] at h ⊢;intro hb;obtain⟨u,hu,h3,h4⟩:=nbM_iff.1 hb;exact h (nbM_iff.2 ⟨u,hu,h3,stay hn hc hu h4⟩)
structure IInv (n:Nat) (a:Nat->Nat->Bool) (m p:St) (r:Nat):Prop where
 r0:r=0->∀v,v<n->cfl n a m v=true->p v=true
 r1:1<=r->∀v,v<n->cfl n a m v=false
 r2:r=1->∀v,v<n->enI n a m v=true->p v=true
 r3:2<=r->∀v,v<n->enI n a m v=false
def left (n:Nat) (a:Nat->Nat->Bool) (m p s:St):St:=fun v=>p v&&!s v&&enI n a (stI s m) v
theorem IInv.start:IInv n a m (enI n a m) 0:=⟨fun _ v _ h=>cfl_en h,fun h=>by omega,fun h=>by omega,fun h=>by omega⟩
theorem IInv.same (ha:Adj n a) (hc:Chs n a m s) {p:St} {r:Nat} (h:IInv n a m p r) (hr:r<=1):IInv n a (stI s m) (left n a m p s) r:=by
 refine⟨fun e v hv hf=>?_,fun e v hv=>?_,fun e v hv he=>?_,fun e=>by omega⟩
 . obtain⟨h1,h2⟩:=cfl_back ha hc hv hf;simp[left,h.r0 e v hv h1,h2,cfl_en hf]
 . cases hf:cfl n a (stI s m) v with
   | false=>rfl
   | true=>have:=h.r1 e v hv;rw[(cfl_back ha hc hv hf).1] at this;cases this
 . have hn2:∀v,v<n->cfl n a (stI s m) v=false:=fun v hv=>by
    cases hf:cfl n a (stI s m) v with
    | false=>rfl
    | true=>have:=h.r1 (by omega) v hv;rw[(cfl_back ha hc hv hf).1] at this;cases this
   obtain⟨h1,h2⟩:=en_back (h.r1 (by omega)) hn2 hc hv he;simp[left,h.r2 e v hv h1,h2,he]
theorem IInv.next (ha:Adj n a) (hc:Chs n a m s) {p:St} {r:Nat} (h:IInv n a m p r) (hr:r<=1) (h0:∀v,v<n->left n a m p s v=false):IInv n a (stI s m) (enI n a (stI s m)) (r+1):=by
 have hs:=h.same ha hc hr;refine⟨fun e=>by omega,fun _ v hv=>?_,fun _ v hv he=>he,fun e v hv=>?_⟩
 . cases hf:cfl n a (stI s m) v with
   | false=>rfl
   | true =>
     rcases (show r=0\/1<=r by omega) with e|e
     . have:=hs.r0 e v hv hf;rw[h0 v hv] at this;cases this
     . rw[hs.r1 e v hv] at hf;cases hf
 . cases he:enI n a (stI s m) v with
   | false=>rfl
   | true=>have:=hs.r2 (by omega) v hv he;rw[h0 v hv] at this;cases this
end Go.Plain
namespace Go.Proofs.YtefdkgkojlflaaaGreatDoor
open Go.Eng
set_option maxRecDepth 100000
set_option linter.unusedVariables false
theorem itru_ne (b:Bool):(truI b≠0)↔b=true:=by cases b<;>simp[truI]
theorem itru_eq0 (b:Bool):(truI b=0)↔b=false:=by cases b<;>simp[truI]
abbrev adN (g:G):Nat->Nat->Bool:=adj g
theorem adj_adj {g:G} (hg:g.valid=true):Go.Plain.Adj g.ids.length (adN g):=by
 obtain⟨f1,f2,f3,f4,f5,f6,f7⟩:=val_facts hg;refine⟨fun u v hu hv h=>adj_sym hg (by omega) h,fun v hv=>adj_irr hg (by omega),fun u v hu h=>?_⟩;obtain⟨l,hl,e⟩:=adj_iff.1 h;have:=(okR_iff.1 (f6 u (by omega))).1 l hl;omega
end Go.Proofs.YtefdkgkojlflaaaGreatDoor
namespace Go.Plain.Tree
structure Net (n:Nat) (a:Nat->Nat->Bool) (D:Nat->Nat):Prop where
 rng:∀u v,u<n->a u v=true->v<n
 root:∀v,v<n->(D v=0↔v=0)
 near:∀v,v<n->v≠0->∃u,a v u=true/\D u+1=D v
 step:∀u v,u<n->a u v=true->D u<=D v+1
 top:∀v,v<n->D v+1<=n
structure St where
 d:Nat->Int
 p:Nat->Int
structure Rule (n:Nat) (a:Nat->Nat->Bool) (D:Nat->Nat) (P:Nat->Int) (tg:(Nat->Int)->Nat->Int×Int):Prop where
 root:∀d,tg d 0=(0,-1)
 right:∀d v,v<n->v≠0->(∀u,a v u=true->D u+1=D v->d u=((D u:Nat):Int))->(∀u,a v u=true->D v<=D u->(D v:Int)<=d u)->tg d v=(((D v:Nat):Int),P v)
 low:∀d v (k:Nat),v<n->v≠0->k+1<=n->(∀u,a v u=true->(k:Int)<=d u)->((k+1:Nat):Int)<=(tg d v).1
 proot:P 0=-1
variable {n:Nat} {a:Nat->Nat->Bool} {D:Nat->Nat} {P:Nat->Int} {tg:(Nat->Int)->Nat->Int×Int}
def right (D:Nat->Nat) (P:Nat->Int) (s:St) (v:Nat):Prop:=s.d v=((D v:Nat):Int)/\s.p v=P v
def off (tg:(Nat->Int)->Nat->Int×Int) (s:St) (v:Nat):Prop:=(s.d v,s.p v)≠tg s.d v
def Step (n:Nat) (tg:(Nat->Int)->Nat->Int×Int) (s:St) (c:Nat->Bool) (s':St):Prop :=
 ∀v,v<n->(c v=true->off tg s v->(s'.d v,s'.p v)=tg s.d v)/\(c v=false\/¬ off tg s v->s'.d v=s.d v/\s'.p v=s.p v)
structure Ok (n:Nat) (D:Nat->Nat) (P:Nat->Int) (s:St) (k:Nat):Prop where
 low:∀v,v<n->D v<k->right D P s v
 far:∀v,v<n->k<=D v->(k:Int)<=s.d v
def bad (D:Nat->Nat) (P:Nat->Int) (s:St) (k v:Nat):Prop:=(D v=k/\¬ right D P s v)\/(k<D v/\s.d v<(k:Int)+1)
theorem Ok.start {s:St} (h:∀v,v<n->0<=s.d v):Ok n D P s 0:=⟨fun v _ h=>by omega,fun v hv _=>by simpa using h v hv⟩
theorem Ok.tgt (hN:Net n a D) (hR:Rule n a D P tg) {s:St} {k:Nat} (h:Ok n D P s k) {v:Nat} (hv:v<n) (hk:D v<=k):tg s.d v=(((D v:Nat):Int),P v):=by
 by_cases h0:v=0
 . subst h0;rw[hR.root,(hN.root 0 hv).2 rfl,hR.proot];rfl
 . refine hR.right s.d v hv h0 (fun u hu e=>?_) (fun u hu e=>?_)
   . exact(h.low u (hN.rng v u hv hu) (by omega)).1
   . have hun:=hN.rng v u hv hu;by_cases q:D u<k
     . rw[(h.low u hun q).1];omega
     . have:=h.far u hun (by omega);omega
theorem Ok.tgfar (hN:Net n a D) (hR:Rule n a D P tg) {s:St} {k:Nat} (h:Ok n D P s k) {v:Nat} (hv:v<n) (hk:k<D v):((k+1:Nat):Int)<=(tg s.d v).1:=by
 have h0:v≠0:=fun e=>by have:=(hN.root v hv).2 e;omega
 have ht:=hN.top v hv;refine hR.low s.d v k hv h0 (by omega) fun u hu=>?_;have:=hN.step v u hv hu;exact h.far u (hN.rng v u hv hu) (by omega)
theorem Ok.off_bad (hN:Net n a D) (hR:Rule n a D P tg) {s:St} {k:Nat} (h:Ok n D P s k) {v:Nat} (hv:v<n) (hb:bad D P s k v):off tg s v:=by
 rcases hb with ⟨h1,h2⟩ | ⟨h1,h2⟩
 . intro e;rw[h.tgt hN hR hv (by omega)] at e;exact h2 ⟨(Prod.mk.inj e).1,(Prod.mk.inj e).2⟩
 . intro e;have:=h.tgfar hN hR hv h1;rw[<- e] at this;simp only at this;omega
theorem Ok.step (hN:Net n a D) (hR:Rule n a D P tg) {s s':St} {c:Nat->Bool} {k:Nat} (h:Ok n D P s k) (hs:Step n tg s c s') :
 Ok n D P s' k/\∀v,v<n->bad D P s' k v->bad D P s k v/\c v=false:=by
 have key:∀v,v<n->(c v=true/\off tg s v/\(s'.d v,s'.p v)=tg s.d v)\/((c v=false\/¬ off tg s v)/\s'.d v=s.d v/\s'.p v=s.p v):=fun v hv=>by
  obtain⟨h1,h2⟩:=hs v hv;by_cases q:c v=false\/¬ off tg s v
  . exact .inr ⟨q,h2 q⟩
  . have qc:c v=true:=by
     cases e:c v with
     | true=>rfl
     | false=>exact(q (.inl e)).elim
    have qo:off tg s v:=Classical.byContradiction fun e=>q (.inr e);exact .inl ⟨qc,qo,h1 qc qo⟩
 have low':∀v,v<n->D v<k->right D P s' v:=fun v hv hk=>by
  rcases key v hv with ⟨_,_,e⟩ | ⟨_,e1,e2⟩
  . rw[h.tgt hN hR hv (by omega)] at e;exact⟨(Prod.mk.inj e).1,(Prod.mk.inj e).2⟩
  . obtain⟨r1,r2⟩:=h.low v hv hk;exact⟨by rw[e1];exact r1,by rw[e2];exact r2⟩
 have far':∀v,v<n->k<=D v->(k:Int)<=s'.d v:=fun v hv hk=>by
  rcases key v hv with ⟨_,_,e⟩ | ⟨_,e1,_⟩
  . by_cases q:D v=k
    . rw[h.tgt hN hR hv (by omega)] at e;rw[(Prod.mk.inj e).1];omega
    . have:=h.tgfar hN hR hv (by omega);rw[<- e] at this;simp only at this;omega
  . rw[e1];exact h.far v hv hk
 refine⟨⟨low',far'⟩,fun v hv hb=>?_⟩;rcases key v hv with ⟨_,_,e⟩ | ⟨q,e1,e2⟩
 . exfalso;rcases hb with ⟨h1,h2⟩ | ⟨h1,h2⟩
   . rw[h.tgt hN hR hv (by omega)] at e;exact h2 ⟨(Prod.mk.inj e).1,(Prod.mk.inj e).2⟩
   . have:=h.tgfar hN hR hv h1;rw[<- e] at this;simp only at this;omega
 . have hb0:bad D P s k v:=by
    rcases hb with ⟨h1,h2⟩ | ⟨h1,h2⟩
    . exact .inl ⟨h1,fun r=>h2 ⟨by rw[e1];exact r.1,by rw[e2];exact r.2⟩⟩
    . exact .inr ⟨h1,by rw[<- e1];exact h2⟩
   refine⟨hb0,?_⟩;rcases q with q|q
   . exact q
   . exact(q (h.off_bad hN hR hv hb0)).elim
theorem Ok.next {s:St} {k:Nat} (h:Ok n D P s k) (hb:∀v,v<n->¬ bad D P s k v):Ok n D P s (k+1):=by
 refine⟨fun v hv hk=>?_,fun v hv hk=>?_⟩
 . by_cases e:D v=k
   . exact Classical.byContradiction fun q=>hb v hv (.inl ⟨e,q⟩)
   . exact h.low v hv (by omega)
 . have:=hb v hv;apply Classical.byContradiction;intro q;exact this (.inr ⟨by omega,by omega⟩)
theorem Ok.all (hN:Net n a D) (hR:Rule n a D P tg) {s:St} {k:Nat} (h:Ok n D P s k) {v:Nat} (hv:v<n) (hk:D v<k):¬ off tg s v:=fun e=>by
 obtain⟨r1,r2⟩:=h.low v hv hk;apply e;rw[h.tgt hN hR hv (by omega),r1,r2]
end Go.Plain.Tree
namespace Go.Proofs.YtefdkgkojlflaaaGreatDoor
open Go.Eng
set_option maxRecDepth 100000
set_option linter.unusedVariables false
def Dg (g:G) (v:Nat):Nat:=(gI (dst g 0) v).toNat
theorem dg_int {g:G} (h:g.conn=true) {v:Nat} (hv:v<g.ids.length):((Dg g v:Nat):Int)=gI (dst g 0) v:=by
 obtain⟨h1,h2⟩:=conn_facts h;obtain⟨f1,f2,f3,f4,f5,f6,f7⟩:=val_facts h1;have:=h2 v (by omega);rw[Dg];omega
theorem netB {g:G} (h:g.conn=true):Go.Plain.Tree.Net g.ids.length (adN g) (Dg g):=by
 obtain⟨h1,h2⟩:=conn_facts h;obtain⟨f1,f2,f3,f4,f5,f6,f7⟩:=val_facts h1;have hu:=und_of h1;have hF:=dst_found h1;have hD:=fun v (hv:v<g.ids.length)=>dg_int h hv;have near:∀v,v<g.ids.length->v≠0->∃u,adN g v u=true/\Dg g u+1=Dg g v:=fun v hv h0=>by
  obtain⟨l,hl,a,b⟩:=hF.back v (by omega) h0 (h2 v (by omega));have hln:=hu.rng v (by omega) l hl;have e1:=hD v hv;have e2:=hD l.1.toNat (by omega);exact⟨l.1.toNat,adj_iff.2 ⟨l,hl,rfl⟩,by omega⟩
 refine⟨fun u v hu' hv=>(adj_adj h1).rng u v hu' hv,fun v hv=>⟨fun e=>?_,fun e=>?_⟩,near,fun u v hun huv=>?_,fun v hv=>?_⟩
 . apply Classical.byContradiction;intro h0;obtain⟨u,_,q⟩:=near v hv h0;omega
 . subst e;have:=hD 0 hv;have e0:=hF.from_;omega
 . have hvn:=(adj_adj h1).rng u v hun huv;have hvu:=(adj_adj h1).sym u v hun hvn huv;obtain⟨l,hl,e⟩:=adj_iff.1 hvu;have:=(hF.on v (by omega) (h2 v (by omega)) l hl).2;rw[e] at this;have e1:=hD v hvn;have e2:=hD u hun;omega
 . have:=hF.lt hu (v:=v) (by omega);have e1:=hD v hv;omega
theorem minI_le:∀(l:List Int) (m:Int),minI l m<=m/\∀a∈l,minI l m<=a
 | [],m=>⟨Int.le_refl _,by simp⟩
 | a::r,m=>by
   have q1:(if a<m then a else m)<=m:=by split<;>omega
   have q2:(if a<m then a else m)<=a:=by split<;>omega
   obtain⟨h1,h2⟩:=minI_le r (if a<m then a else m);rw[minI];refine⟨Int.le_trans h1 q1,fun b hb=>?_⟩;rcases List.mem_cons.1 hb with e|hb
   . rw[e];exact Int.le_trans h1 q2
   . exact h2 b hb
theorem minI_ge:∀(l:List Int) (m k:Int),k<=m->(∀a∈l,k<=a)->k<=minI l m
 | [],m,k,h,_=>h
 | a::r,m,k,h,ha=>by
   rw[minI];exact minI_ge r _ k (by have:=ha a (by simp);split<;>omega) (fun b hb=>ha b (by simp[hb]))
theorem fpI_ext {p q:Int×Int->Bool}:∀{r:Lt2'} {k:Nat},(∀l∈r,p l=q l)->fpI p k r=fpI q k r
 | [],_,_=>rfl
 | l::r,k,h=>by rw[fpI,fpI,h l (by simp),fpI_ext (fun x hx=>h x (by simp[hx]))]
abbrev dC (c:Cf) (v:Nat):Int:=gI (gC c v) 0
abbrev pC (c:Cf) (v:Nat):Int:=gI (gC c v) 1
theorem range_map (r:Lt2') (f:Int×Int->Int):((List.range r.length).map fun i=>f (gF r i))=r.map f:=by
 refine List.ext_getElem (by simp) fun i h1 h2=>?_;simp at h1;simp[gF,List.getD,h1]
theorem idx_fpI {f:Int×Int->Int} {p:Int×Int->Bool}:∀{r:Lt2'} {k:Nat},(∀l∈r,f l≠0↔p l=true)->idxI k (r.map f)=fpI p k r
 | [],_,_=>rfl
 | l::r,k,h=>by
   have h1:=h l (by simp);rw[List.map_cons,idxI,fpI,idx_fpI (fun x hx=>h x (by simp[hx]))];by_cases e:p l=true
   . rw[if_pos (h1.2 e),if_pos e]
   . rw[if_neg (fun q=>e (h1.1 q)),if_neg e]
end Go.Proofs.YtefdkgkojlflaaaGreatDoor
namespace Go.Proofs.YtefdkgkojlflaaaGreatDoor
open Go.Eng
set_option maxRecDepth 100000
set_option linter.unusedVariables false
def exN (n x w:Nat):Nat:=max (x+1) (w*n)
theorem exN_mono {n x y w:Nat} (h:x<=y):exN n x w<=exN n y w:=by simp only[exN];omega
theorem exN_gt {n x w:Nat}:x<exN n x w:=by simp only[exN];omega
inductive Wk (g:G):Nat->Nat->Prop
 | nil:Wk g 0 0
 | step {v x:Nat} {l:Int×Int} (hv:v<g.ids.length) (hl:l∈gR g.ports v) (h:Wk g l.1.toNat x):Wk g v (exN g.ids.length x l.2.toNat)
theorem least_of {p:Nat->Prop}:∀(x:Nat),p x->∃x,p x/\∀y,p y->x<=y:=by
 intro x
 induction x using Nat.strongRecOn with
 | _ x ih =>
   intro h;by_cases q:∃y,p y/\y<x
   . obtain⟨y,h1,h2⟩:=q;exact ih y h2 h1
   . exact⟨x,h,fun y hy=>Nat.le_of_not_lt fun e=>q ⟨y,hy,e⟩⟩
noncomputable def Tv (g:G) (v:Nat):Nat:=by
 classical exact if h:∃x,Wk g v x then Classical.choose (least_of _ (Classical.choose_spec h)) else 0
theorem tv_spec {g:G} {v:Nat} (h:∃x,Wk g v x):Wk g v (Tv g v)/\∀y,Wk g v y->Tv g v<=y:=by
 unfold Tv;rw[dif_pos h];exact Classical.choose_spec (least_of _ (Classical.choose_spec h))
theorem wk_ex {g:G} (h:g.conn=true):∀(d v:Nat),v<g.ids.length->Dg g v=d->∃x,Wk g v x/\(d=0->x=0)/\(0<d->x+1<=15*g.ids.length+d):=by
 obtain⟨h1,h2⟩:=conn_facts h;obtain⟨f1,f2,f3,f4,f5,f6,f7⟩:=val_facts h1;have hN:=netB h;intro d
 induction d with
 | zero =>
   intro v hv hd;have:=(hN.root v hv).1 hd;subst this;exact⟨0,.nil,fun _=>rfl,fun h=>by omega⟩
 | succ d ih =>
   intro v hv hd;have h0:v≠0:=fun e=>by have:=(hN.root v hv).2 e;omega
   obtain⟨u,hu,e⟩:=hN.near v hv h0;obtain⟨l,hl,rfl⟩:=adj_iff.1 hu;have hun:=hN.rng v _ hv hu;obtain⟨x,hx,hb1,hb2⟩:=ih l.1.toNat hun (by omega);refine⟨_,.step hv hl hx,fun h=>by omega,fun _=>?_⟩;have hw:=((okR_iff.1 (f6 v (by omega))).1 l hl).2.2.2.2;have hw2:l.2.toNat*g.ids.length<=15*g.ids.length:=Nat.mul_le_mul_right _ (by omega);simp only[exN];rcases Nat.eq_zero_or_pos d with e0|e0
   . have:=hb1 e0;omega
   . have:=hb2 e0;omega
theorem tv_wk {g:G} (h:g.conn=true) {v:Nat} (hv:v<g.ids.length):Wk g v (Tv g v):=by
 obtain⟨x,hx,_⟩:=wk_ex h _ v hv rfl;exact(tv_spec ⟨x,hx⟩).1
theorem tv_le {g:G} {v x:Nat} (h:Wk g v x):Tv g v<=x:=(tv_spec ⟨x,h⟩).2 x h
theorem tv_root (g:G):Tv g 0=0:=Nat.le_zero.1 (tv_le .nil)
theorem tv_link {g:G} (h:g.conn=true) {v:Nat} (hv:v<g.ids.length) {l:Int×Int} (hl:l∈gR g.ports v):Tv g v<=exN g.ids.length (Tv g l.1.toNat) l.2.toNat:=by
 have hln:=(netB h).rng v l.1.toNat hv (adj_iff.2 ⟨l,hl,rfl⟩);exact tv_le (.step hv hl (tv_wk h hln))
theorem tv_back {g:G} (h:g.conn=true) {v:Nat} (hv:v<g.ids.length) (h0:v≠0):∃l∈gR g.ports v,Tv g v=exN g.ids.length (Tv g l.1.toNat) l.2.toNat:=by
 have hw:=tv_wk h hv;generalize hx:Tv g v=t at hw;cases hw with
 | nil=>exact(h0 rfl).elim
 | step hv' hl hu =>
   rename_i x l;refine⟨l,hl,Nat.le_antisymm ?_ (exN_mono (tv_le hu))⟩;rw[<- hx];exact tv_link h hv hl
theorem tv_zero {g:G} (h:g.conn=true) {v:Nat} (hv:v<g.ids.length):Tv g v=0↔v=0:=by
 refine⟨fun e=>Classical.byContradiction fun h0=>?_,fun e=>by subst e;exact tv_root g⟩;obtain⟨l,_,q⟩:=tv_back h hv h0;have:=exN_gt (n:=g.ids.length) (x:=Tv g l.1.toNat) (w:=l.2.toNat);omega
theorem tv_top {g:G} (h:g.conn=true) {v:Nat} (hv:v<g.ids.length):Tv g v+2<=16*g.ids.length:=by
 obtain⟨x,hx,hb1,hb2⟩:=wk_ex h _ v hv rfl;have:=tv_le hx;have ht:=(netB h).top v hv;rcases Nat.eq_zero_or_pos (Dg g v) with e|e
 . have:=hb1 e;omega
 . have:=hb2 e;omega
noncomputable def rkV (g:G) (v:Nat):Nat:=cntU (fun u=>decide (Tv g u<Tv g v)) g.ids.length
theorem cntV_le {p q:Nat->Bool}:∀{n:Nat},(∀v,v<n->p v=true->q v=true)->cntU p n<=cntU q n
 | 0,_=>Nat.le_refl _
 | n+1,h=>by
   have h1:=cntV_le (n:=n) fun v hv=>h v (by omega);have h2:=h n (by omega);simp only[cntU];cases hp:p n<;>cases hq:q n<;>simp_all<;>omega
theorem cntV_lt {p q:Nat->Bool} {u:Nat} (hp:p u=false) (hq:q u=true):∀{n:Nat},u<n->(∀v,v<n->p v=true->q v=true)->cntU p n<cntU q n
 | n+1,hn,h=>by
   have h2:=h n (by omega);simp only[cntU];by_cases e:u=n
   . subst e;have h1:=cntV_le (n:=u) fun v hv=>h v (by omega);rw[hp,hq];simp;omega
   . have h1:=cntV_lt hp hq (n:=n) (by omega) fun v hv=>h v (by omega);cases hp:p n<;>cases hq:q n<;>simp_all<;>omega
theorem cntV_all (p:Nat->Bool):∀(n:Nat),cntU p n<=n
 | 0=>Nat.le_refl _
 | n+1=>by
   have:=cntV_all p n;simp only[cntU];split<;>omega
theorem cntV_top {p:Nat->Bool} {u:Nat} (hp:p u=false):∀{n:Nat},u<n->cntU p n+1<=n
 | n+1,hn=>by
   simp only[cntU];by_cases e:u=n
   . subst e;have:=cntV_all p u;rw[hp];simp;omega
   . have:=cntV_top hp (n:=n) (by omega);split<;>omega
theorem rk_lt {g:G} {u v:Nat} (hu:u<g.ids.length) (h:Tv g u<Tv g v):rkV g u<rkV g v :=
 cntV_lt (u:=u) (by simp) (by simpa using h) hu fun w _ q=>by simp only[decide_eq_true_eq] at q ⊢;omega
theorem rk_top {g:G} {v:Nat} (hv:v<g.ids.length):rkV g v+1<=g.ids.length:=cntV_top (u:=v) (by simp) hv
def exI (g:G) (y w:Int):Int:=if y+1<w*g.ids.length then w*g.ids.length else y+1
theorem exI_nat (g:G) (x:Nat) {w:Int} (hw:0<=w):exI g x w=((exN g.ids.length x w.toNat:Nat):Int):=by
 obtain⟨k,rfl⟩:∃k:Nat,w=(k:Int):=⟨w.toNat,by omega⟩;have e:((k:Int)*(g.ids.length:Int))=((k*g.ids.length:Nat):Int):=by push_cast;rfl
 rw[exI,exN,e,Int.toNat_natCast];generalize k*g.ids.length=m;split<;>omega
theorem exI_mono {g:G} {y z w:Int} (h:y<=z):exI g y w<=exI g z w:=by
 rw[exI,exI];generalize w*(g.ids.length:Int)=m;split<;>split<;>omega
structure VIn (g:G) (r:Nat) (x:List Int):Prop where
 len:x.length=g.ids.length
 root:gI x 0=0
 low:∀v,v<g.ids.length->((Tv g v:Nat):Int)<=gI x v
 top:∀v,v<g.ids.length->gI x v<=1073741824
 ok:∀v,v<g.ids.length->rkV g v<r->gI x v=((Tv g v:Nat):Int)
structure VPs (g:G) (r v i:Nat) (x:List Int):Prop where
 base:VIn g r x
 before:∀u,u<v->u<g.ids.length->rkV g u<=r->gI x u=((Tv g u:Nat):Int)
 here:∀j,j<i->j<(gR g.ports v).length->Tv g v=exN g.ids.length (Tv g (gF (gR g.ports v) j).1.toNat) (gF (gR g.ports v) j).2.toNat->rkV g v<=r->gI x v=((Tv g v:Nat):Int)
theorem VPs.start {g:G} {r:Nat} {x:List Int} (h:VIn g r x):VPs g r 0 0 x:=⟨h,fun u hu=>by omega,fun j hj=>by omega⟩
def relax (g:G) (x:List Int) (v:Nat) (l:Int×Int):List Int:=x.set v (if exI g (gI x l.1.toNat) l.2<gI x v then exI g (gI x l.1.toNat) l.2 else gI x v)
theorem VPs.step {g:G} (h:g.conn=true) {r v i:Nat} {x:List Int} (hp:VPs g r v i x) (hv:v<g.ids.length) (hi:i<(gR g.ports v).length):VPs g r v (i+1) (relax g x v (gF (gR g.ports v) i)):=by
 obtain⟨h1,h2⟩:=conn_facts h;obtain⟨f1,f2,f3,f4,f5,f6,f7⟩:=val_facts h1;have hB:=hp.base;have hl:=gF_mem hi;have hok:=(okR_iff.1 (f6 v (by omega))).1 _ hl;generalize hL:gF (gR g.ports v) i=l at *;have hun:l.1.toNat<g.ids.length:=by omega
 have hw:0<=l.2:=by omega
 have hlen:=hB.len;have hg:∀u,gI (relax g x v l) u=if u=v then (if exI g (gI x l.1.toNat) l.2<gI x v then exI g (gI x l.1.toNat) l.2 else gI x v) else gI x u:=fun u=>gI_set x v u _ (by omega)
 have hlow:((Tv g v:Nat):Int)<=exI g (gI x l.1.toNat) l.2:=by
  have h3:=tv_link h hv hl;have h4:=exI_mono (g:=g) (w:=l.2) (hB.low l.1.toNat hun);rw[exI_nat g _ hw] at h4;omega
 have hst:∀u,u<g.ids.length->gI x u=((Tv g u:Nat):Int)->gI (relax g x v l) u=((Tv g u:Nat):Int):=fun u hu e=>by
  rw[hg];split
  . rename_i q;subst q;split<;>omega
  . exact e
 refine⟨⟨by rw[relax,List.length_set];exact hlen,?_,fun u hu=>?_,fun u hu=>?_,fun u hu q=>hst u hu (hB.ok u hu q)⟩,fun u hu hun q=>hst u hun (hp.before u hu hun q),fun j hj hj2 e q=>?_⟩
 . have:=hst 0 (by omega) (by rw[tv_root];exact hB.root);rw[tv_root] at this;exact this
 . rw[hg];have:=hB.low u hu;split
   . rename_i q;subst q;split<;>omega
   . exact this
 . rw[hg];have:=hB.top u hu;split
   . rename_i q;subst q;split<;>omega
   . exact this
 . by_cases ej:j=i
   . subst ej;rw[hL] at e;have hlt:Tv g l.1.toNat<Tv g v:=by rw[e];exact exN_gt
     have hrk:=rk_lt hun hlt;have hx:=hB.ok l.1.toNat hun (by omega);have hlo:=hB.low v hv;rw[hg,if_pos rfl,hx,exI_nat g _ hw,<- e];split<;>omega
   . exact hst v hv (hp.here j (by omega) hj2 e q)
theorem VPs.row {g:G} (h:g.conn=true) {r v:Nat} {x:List Int} (hp:VPs g r v (gR g.ports v).length x) (hv:v<g.ids.length):VPs g r (v+1) 0 x:=by
 refine⟨hp.base,fun u hu hun q=>?_,fun j hj=>by omega⟩;by_cases e:u=v
 . subst e;by_cases h0:u=0
   . subst h0;rw[tv_root];exact hp.base.root
   . obtain⟨l,hl,e⟩:=tv_back h hun h0;obtain⟨j,hj,ej⟩:=List.getElem_of_mem hl;have ej:gF (gR g.ports u) j=l:=by rw[<- ej];simp[gF,List.getD,hj]
     exact hp.here j hj hj (by rw[ej];exact e) q
 . exact hp.before u (by omega) hun q
theorem VPs.over {g:G} {r v:Nat} {x:List Int} (hp:VPs g r v 0 x) (hv:g.ids.length<=v):VIn g (r+1) x :=
 ⟨hp.base.len,hp.base.root,hp.base.low,hp.base.top,fun u hu q=>hp.before u (by omega) hu (by omega)⟩
noncomputable def vals (g:G):List Int:=(List.range g.ids.length).map fun v=>((Tv g v:Nat):Int)
theorem vals_len (g:G):(vals g).length=g.ids.length:=by simp[vals]
theorem vals_get {g:G} {v:Nat} (hv:v<g.ids.length):gI (vals g) v=((Tv g v:Nat):Int):=by simp[vals,gI,List.getD,hv]
theorem VIn.done {g:G} {x:List Int} (h:VIn g g.ids.length x):x=vals g:=by
 refine List.ext_getElem (by rw[vals_len,h.len]) fun i h1 h2=>?_;have hi:i<g.ids.length:=by rw[<- h.len];exact h1
 have e1:=h.ok i hi (by have:=rk_top (g:=g) hi;omega);have e2:=vals_get (g:=g) hi;simp only[gI,List.getD,List.getElem?_eq_getElem h1,List.getElem?_eq_getElem h2,Option.getD_some] at e1 e2;rw[e1,e2]
theorem VIn.start {g:G} (h:g.conn=true) {x:List Int} (hl:x.length=g.ids.length) (h0:gI x 0=0) (hx:∀v,v<g.ids.length->v≠0->16*(g.ids.length:Int)<=gI x v/\gI x v<=1073741824):VIn g 0 x:=by
 refine⟨hl,h0,fun v hv=>?_,fun v hv=>?_,fun v hv q=>by omega⟩
 . by_cases e:v=0
   . subst e;rw[tv_root,h0];exact Int.le_refl _
   . have:=(hx v hv e).1;have:=tv_top h hv;omega
 . by_cases e:v=0
   . subst e;omega
   . exact(hx v hv e).2
end Go.Proofs.YtefdkgkojlflaaaGreatDoor
namespace Go.Plain.Val
structure Net (n:Nat) (a:Nat->Nat->Bool) (D:Nat->Nat):Prop where
 rng:∀u v,u<n->a u v=true->v<n
 root:∀v,v<n->(D v=0↔v=0)
structure St where
 d:Nat->Int
 p:Nat->Int
structure Rule (n:Nat) (a:Nat->Nat->Bool) (D:Nat->Nat) (P:Nat->Int) (tg:(Nat->Int)->Nat->Int×Int):Prop where
 root:∀d,tg d 0=(0,-1)
 right:∀d v,v<n->v≠0->(∀u,a v u=true->D u<D v->d u=((D u:Nat):Int))->(∀u,a v u=true->D v<=D u->(D v:Int)<=d u)->tg d v=(((D v:Nat):Int),P v)
 low:∀d v (k:Nat),v<n->v≠0->k<D v->(∀u,a v u=true->(D u<k->d u=((D u:Nat):Int))/\(k<=D u->(k:Int)<=d u))->((k+1:Nat):Int)<=(tg d v).1
 proot:P 0=-1
variable {n:Nat} {a:Nat->Nat->Bool} {D:Nat->Nat} {P:Nat->Int} {tg:(Nat->Int)->Nat->Int×Int}
def right (D:Nat->Nat) (P:Nat->Int) (s:St) (v:Nat):Prop:=s.d v=((D v:Nat):Int)/\s.p v=P v
def off (tg:(Nat->Int)->Nat->Int×Int) (s:St) (v:Nat):Prop:=(s.d v,s.p v)≠tg s.d v
def Step (n:Nat) (tg:(Nat->Int)->Nat->Int×Int) (s:St) (c:Nat->Bool) (s':St):Prop :=
 ∀v,v<n->(c v=true->off tg s v->(s'.d v,s'.p v)=tg s.d v)/\(c v=false\/¬ off tg s v->s'.d v=s.d v/\s'.p v=s.p v)
structure Ok (n:Nat) (D:Nat->Nat) (P:Nat->Int) (s:St) (k:Nat):Prop where
 low:∀v,v<n->D v<k->right D P s v
 far:∀v,v<n->k<=D v->(k:Int)<=s.d v
def bad (D:Nat->Nat) (P:Nat->Int) (s:St) (k v:Nat):Prop:=(D v=k/\¬ right D P s v)\/(k<D v/\s.d v<(k:Int)+1)
theorem Ok.start {s:St} (h:∀v,v<n->0<=s.d v):Ok n D P s 0:=⟨fun v _ h=>by omega,fun v hv _=>by simpa using h v hv⟩
theorem Ok.tgt (hN:Net n a D) (hR:Rule n a D P tg) {s:St} {k:Nat} (h:Ok n D P s k) {v:Nat} (hv:v<n) (hk:D v<=k):tg s.d v=(((D v:Nat):Int),P v):=by
 by_cases h0:v=0
 . subst h0;rw[hR.root,(hN.root 0 hv).2 rfl,hR.proot];rfl
 . refine hR.right s.d v hv h0 (fun u hu e=>?_) (fun u hu e=>?_)
   . exact(h.low u (hN.rng v u hv hu) (by omega)).1
   . have hun:=hN.rng v u hv hu;by_cases q:D u<k
     . rw[(h.low u hun q).1];omega
     . have:=h.far u hun (by omega);omega
theorem Ok.tgfar (hN:Net n a D) (hR:Rule n a D P tg) {s:St} {k:Nat} (h:Ok n D P s k) {v:Nat} (hv:v<n) (hk:k<D v):((k+1:Nat):Int)<=(tg s.d v).1:=by
 have h0:v≠0:=fun e=>by have:=(hN.root v hv).2 e;omega
 refine hR.low s.d v k hv h0 hk fun u hu=>⟨fun q=>(h.low u (hN.rng v u hv hu) q).1,fun q=>h.far u (hN.rng v u hv hu) q⟩
theorem Ok.off_bad (hN:Net n a D) (hR:Rule n a D P tg) {s:St} {k:Nat} (h:Ok n D P s k) {v:Nat} (hv:v<n) (hb:bad D P s k v):off tg s v:=by
 rcases hb with ⟨h1,h2⟩ | ⟨h1,h2⟩
 . intro e;rw[h.tgt hN hR hv (by omega)] at e;exact h2 ⟨(Prod.mk.inj e).1,(Prod.mk.inj e).2⟩
 . intro e;have:=h.tgfar hN hR hv h1;rw[<- e] at this;simp only at this;omega
theorem Ok.step (hN:Net n a D) (hR:Rule n a D P tg) {s s':St} {c:Nat->Bool} {k:Nat} (h:Ok n D P s k) (hs:Step n tg s c s') :
 Ok n D P s' k/\∀v,v<n->bad D P s' k v->bad D P s k v/\c v=false:=by
 have key:∀v,v<n->(c v=true/\off tg s v/\(s'.d v,s'.p v)=tg s.d v)\/((c v=false\/¬ off tg s v)/\s'.d v=s.d v/\s'.p v=s.p v):=fun v hv=>by
  obtain⟨h1,h2⟩:=hs v hv;by_cases q:c v=false\/¬ off tg s v
  . exact .inr ⟨q,h2 q⟩
  . have qc:c v=true:=by
     cases e:c v with
     | true=>rfl
     | false=>exact(q (.inl e)).elim
    have qo:off tg s v:=Classical.byContradiction fun e=>q (.inr e);exact .inl ⟨qc,qo,h1 qc qo⟩
 have low':∀v,v<n->D v<k->right D P s' v:=fun v hv hk=>by
  rcases key v hv with ⟨_,_,e⟩ | ⟨_,e1,e2⟩
  . rw[h.tgt hN hR hv (by omega)] at e;exact⟨(Prod.mk.inj e).1,(Prod.mk.inj e).2⟩
  . obtain⟨r1,r2⟩:=h.low v hv hk;exact⟨by rw[e1];exact r1,by rw[e2];exact r2⟩
 have far':∀v,v<n->k<=D v->(k:Int)<=s'.d v:=fun v hv hk=>by
  rcases key v hv with ⟨_,_,e⟩ | ⟨_,e1,_⟩
  . by_cases q:D v=k
    . rw[h.tgt hN hR hv (by omega)] at e;rw[(Prod.mk.inj e).1];omega
    . have:=h.tgfar hN hR hv (by omega);rw[<- e] at this;simp only at this;omega
  . rw[e1];exact h.far v hv hk
 refine⟨⟨low',far'⟩,fun v hv hb=>?_⟩;rcases key v hv with ⟨_,_,e⟩ | ⟨q,e1,e2⟩
 . exfalso;rcases hb with ⟨h1,h2⟩ | ⟨h1,h2⟩
   . rw[h.tgt hN hR hv (by omega)] at e;exact h2 ⟨(Prod.mk.inj e).1,(Prod.mk.inj e).2⟩
   . have:=h.tgfar hN hR hv h1;rw[<- e] at this;simp only at this;omega
 . have hb0:bad D P s k v:=by
    rcases hb with ⟨h1,h2⟩ | ⟨h1,h2⟩
    . exact .inl ⟨h1,fun r=>h2 ⟨by rw[e1];exact r.1,by rw[e2];exact r.2⟩⟩
    . exact .inr ⟨h1,by rw[<- e1];exact h2⟩
   refine⟨hb0,?_⟩;rcases q with q|q
   . exact q
   . exact(q (h.off_bad hN hR hv hb0)).elim
theorem Ok.next {s:St} {k:Nat} (h:Ok n D P s k) (hb:∀v,v<n->¬ bad D P s k v):Ok n D P s (k+1):=by
 refine⟨fun v hv hk=>?_,fun v hv hk=>?_⟩
 . by_cases e:D v=k
   . exact Classical.byContradiction fun q=>hb v hv (.inl ⟨e,q⟩)
   . exact h.low v hv (by omega)
 . have:=hb v hv;apply Classical.byContradiction;intro q;exact this (.inr ⟨by omega,by omega⟩)
theorem Ok.all (hN:Net n a D) (hR:Rule n a D P tg) {s:St} {k:Nat} (h:Ok n D P s k) {v:Nat} (hv:v<n) (hk:D v<k):¬ off tg s v:=fun e=>by
 obtain⟨r1,r2⟩:=h.low v hv hk;apply e;rw[h.tgt hN hR hv (by omega),r1,r2]
end Go.Plain.Val
namespace Go.Proofs.YtefdkgkojlflaaaGreatDoor
open Go.Eng
set_option maxRecDepth 100000
set_option linter.unusedVariables false
noncomputable def upW (g:G) (v:Nat):Int:=if v=0 then -1 else fpI (fun l=>decide (exI g ((Tv g l.1.toNat:Nat):Int) l.2=((Tv g v:Nat):Int))) 0 (gR g.ports v)
def mnW (g:G) (d:Nat->Int) (v:Nat):Int:=minI ((gR g.ports v).map fun l=>exI g (d l.1.toNat) l.2) 1073741824
def tgW (g:G) (d:Nat->Int) (v:Nat):Int×Int :=
 if v=0 then (0,-1) else (if mnW g d v<16*g.ids.length then mnW g d v else 16*g.ids.length,fpI (fun l=>decide (exI g (d l.1.toNat) l.2=mnW g d v)) 0 (gR g.ports v))
theorem exI_gt (g:G) (y w:Int):y<exI g y w:=by
 rw[exI];generalize w*(g.ids.length:Int)=m;split<;>omega
theorem netW {g:G} (h:g.conn=true):Go.Plain.Val.Net g.ids.length (adN g) (Tv g) :=
 ⟨fun u v hu hv=>(netB h).rng u v hu hv,fun v hv=>tv_zero h hv⟩
theorem ruleW {g:G} (h:g.conn=true):Go.Plain.Val.Rule g.ids.length (adN g) (Tv g) (upW g) (tgW g):=by
 obtain⟨h1,h2⟩:=conn_facts h;obtain⟨f1,f2,f3,f4,f5,f6,f7⟩:=val_facts h1;refine⟨fun d=>if_pos rfl,fun d v hv h0 hr1 hr2=>?_,fun d v k hv h0 hk hd=>?_,if_pos rfl⟩
 . have ht:=tv_top h hv;have hok:=(okR_iff.1 (f6 v (by omega))).1;have hmem:∀l∈gR g.ports v,adN g v l.1.toNat=true:=fun l hl=>adj_iff.2 ⟨l,hl,rfl⟩;have hle:∀l∈gR g.ports v,((Tv g v:Nat):Int)<=exI g (d l.1.toNat) l.2:=fun l hl=>by
    have hw:0<=l.2:=by have:=hok l hl;omega
    by_cases q:Tv g l.1.toNat<Tv g v
    . rw[hr1 _ (hmem l hl) q,exI_nat g _ hw];have:=tv_link h hv hl;omega
    . have:=hr2 _ (hmem l hl) (by omega);have:=exI_gt g (d l.1.toNat) l.2;omega
   have hm:mnW g d v=((Tv g v:Nat):Int):=by
    obtain⟨l,hl,e⟩:=tv_back h hv h0;have hw:0<=l.2:=by have:=hok l hl;omega
    have hlt:Tv g l.1.toNat<Tv g v:=by rw[e];exact exN_gt
    have a1:=(minI_le ((gR g.ports v).map fun l=>exI g (d l.1.toNat) l.2) 1073741824).2 _ (List.mem_map.2 ⟨l,hl,rfl⟩);rw[hr1 _ (hmem l hl) hlt,exI_nat g _ hw,<- e] at a1;have a2:((Tv g v:Nat):Int)<=minI ((gR g.ports v).map fun l=>exI g (d l.1.toNat) l.2) 1073741824:=by
     refine minI_ge _ _ _ (by omega) fun b hb=>?_;obtain⟨l',hl',rfl⟩:=List.mem_map.1 hb;exact hle l' hl'
    rw[mnW];omega
   rw[tgW,if_neg h0,hm,if_pos (by omega),upW,if_neg h0];refine Prod.ext rfl ?_;refine fpI_ext fun l hl=>?_;by_cases q:Tv g l.1.toNat<Tv g v
   . rw[hr1 _ (hmem l hl) q]
   . have q1:=hr2 _ (hmem l hl) (by omega);have q2:=exI_gt g (d l.1.toNat) l.2;have q3:=exI_gt g ((Tv g l.1.toNat:Nat):Int) l.2;rw[decide_eq_false (by omega),decide_eq_false (by omega)]
 . have ht:=tv_top h hv;have hok:=(okR_iff.1 (f6 v (by omega))).1;have hm:((k+1:Nat):Int)<=mnW g d v:=by
    refine minI_ge _ _ _ (by omega) fun b hb=>?_;obtain⟨l,hl,rfl⟩:=List.mem_map.1 hb;have hw:0<=l.2:=by have:=hok l hl;omega
    obtain⟨d1,d2⟩:=hd _ (adj_iff.2 ⟨l,hl,rfl⟩);by_cases q:Tv g l.1.toNat<k
    . rw[d1 q,exI_nat g _ hw];have:=tv_link h hv hl;omega
    . have:=d2 (by omega);have:=exI_gt g (d l.1.toNat) l.2;omega
   rw[tgW,if_neg h0];simp only;split<;>omega
def qxT:Tm:=.bin 33 (.leaf 12 0) (.leaf 1 1)
def qwT:Tm:=.bin 30 (.leaf 16 0) (.leaf 6 0)
def exT:Tm:=.ite (.bin 39 qxT qwT) qxT qwT
def mwT:Tm:=.agg 24 exT
def n16T:Tm:=.bin 30 (.leaf 1 16) (.leaf 6 0)
def xWT:Tm:=.ite (.bin 37 mwT n16T) mwT n16T
def pWT:Tm:=.agg 23 (.bin 35 exT mwT)
def topWG:Tm:=.bin 41 (.leaf 10 0) (.bin 42 (.bin 36 (.leaf 5 0) (.leaf 1 0)) (.bin 36 (.leaf 5 1) (.leaf 4 0)))
def lowWG:Tm:=.bin 41 (.un 19 (.leaf 10 0)) (.bin 42 (.bin 36 (.leaf 5 0) xWT) (.bin 36 (.leaf 5 1) pWT))
def NnW (g:G) (c:Cf):Prop:=∀v,v<g.ids.length->0<=dC c v/\dC c v<=16*g.ids.length
theorem ex_sem {g:G} (hg:g.valid=true) {c:Cf} (hd:NnW g c) {v i:Nat} (hv:v<g.ids.length) (hi:i<(gR g.ports v).length):exT.sem g c v (i:Nat)=exI g (dC c (gF (gR g.ports v) i).1.toNat) (gF (gR g.ports v) i).2:=by
 obtain⟨f1,f2,f3,f4,f5,f6,f7⟩:=val_facts hg;have hok:=(okR_iff.1 (f6 v (by omega))).1 _ (gF_mem hi);have hdl:=hd (gF (gR g.ports v) i).1.toNat (by omega);have e1:qxT.sem g c v (i:Nat)=dC c (gF (gR g.ports v) i).1.toNat+1:=by
  show sat (gI (gC c (nbV g v i)) 0+1)=_;have:nbV g v i=(gF (gR g.ports v) i).1.toNat:=by simp[nbV]
  rw[this];have hd2:0<=gI (gC c (gF (gR g.ports v) i).1.toNat) 0/\gI (gC c (gF (gR g.ports v) i).1.toNat) 0<=16*g.ids.length:=hdl;exact sat_eq (by unfold inR;omega)
 have hmul:∃m:Nat,(gF (gR g.ports v) i).2*(g.ids.length:Int)=(m:Int)/\m<=15*24:=by
  refine⟨(gF (gR g.ports v) i).2.toNat*g.ids.length,?_,Nat.mul_le_mul (by omega) f2⟩
  push_cast
  rw[Int.toNat_of_nonneg (by omega)]
 obtain⟨m,hm,hm2⟩:=hmul;have e2:qwT.sem g c v (i:Nat)=(gF (gR g.ports v) i).2*(g.ids.length:Int):=by
  show sat ((gF (gR g.ports v) ((i:Nat):Int).toNat).2*(g.ids.length:Int))=_;rw[Int.toNat_natCast,hm];exact sat_eq (by unfold inR;omega)
 show(if truI (decide (qxT.sem g c v (i:Nat) > qwT.sem g c v (i:Nat)))≠0 then qxT.sem g c v (i:Nat) else qwT.sem g c v (i:Nat))=_;rw[e1,e2,exI];simp only[itru_ne,decide_eq_true_eq];generalize (gF (gR g.ports v) i).2*(g.ids.length:Int)=t;split<;>split<;>omega
theorem map_ex {g:G} (hg:g.valid=true) {c:Cf} (hd:NnW g c) {v:Nat} (hv:v<g.ids.length):((List.range (gR g.ports v).length).map fun(i:Nat)=>exT.sem g c v (i:Nat))=(gR g.ports v).map fun l=>exI g (dC c l.1.toNat) l.2:=by
 rw[<- range_map (gR g.ports v) (fun l=>exI g (dC c l.1.toNat) l.2)];refine List.map_congr_left fun i hi=>?_;exact ex_sem hg hd hv (List.mem_range.1 hi)
theorem mw_sem {g:G} (hg:g.valid=true) {c:Cf} (hd:NnW g c) {v:Nat} (hv:v<g.ids.length) (port:Int):mwT.sem g c v port=mnW g (dC c) v:=by
 show minI ((List.range (gR g.ports v).length).map fun(i:Nat)=>exT.sem g c v (i:Nat)) 1073741824=_;rw[map_ex hg hd hv];rfl
theorem n16_sem {g:G} (hg:g.valid=true) (c:Cf) (v:Nat) (port:Int):n16T.sem g c v port=16*(g.ids.length:Int):=by
 obtain⟨f1,f2,f3,f4,f5,f6,f7⟩:=val_facts hg;show sat (16*(g.ids.length:Int))=_;exact sat_eq (by unfold inR;omega)
theorem mnW_nn {g:G} (hg:g.valid=true) {c:Cf} (hd:NnW g c) {v:Nat} (hv:v<g.ids.length):0<=mnW g (dC c) v:=by
 obtain⟨f1,f2,f3,f4,f5,f6,f7⟩:=val_facts hg;have hok:=(okR_iff.1 (f6 v (by omega))).1;refine minI_ge _ _ _ (by omega) fun b hb=>?_;obtain⟨l,hl,rfl⟩:=List.mem_map.1 hb;have:=hok l hl;have:=(hd l.1.toNat (by omega)).1;have:=exI_gt g (dC c l.1.toNat) l.2;omega
theorem x_semW {g:G} (hg:g.valid=true) {c:Cf} (hd:NnW g c) {v:Nat} (hv:v<g.ids.length) (h0:v≠0) (port:Int):xWT.sem g c v port=(tgW g (dC c) v).1:=by
 show(if truI (decide (mwT.sem g c v port<n16T.sem g c v port))≠0 then mwT.sem g c v port else n16T.sem g c v port)=_;rw[mw_sem hg hd hv,n16_sem hg,tgW,if_neg h0];simp only[itru_ne,decide_eq_true_eq]
theorem p_semW {g:G} (hg:g.valid=true) {c:Cf} (hd:NnW g c) {v:Nat} (hv:v<g.ids.length) (h0:v≠0) (port:Int):pWT.sem g c v port=(tgW g (dC c) v).2:=by
 show idxI 0 ((List.range (gR g.ports v).length).map fun(i:Nat)=>truI (decide (exT.sem g c v (i:Nat)=mwT.sem g c v (i:Nat))))=_;rw[tgW,if_neg h0];simp only;have e:((List.range (gR g.ports v).length).map fun(i:Nat)=>truI (decide (exT.sem g c v (i:Nat)=mwT.sem g c v (i:Nat))))=(gR g.ports v).map fun l=>truI (decide (exI g (dC c l.1.toNat) l.2=mnW g (dC c) v)):=by
  rw[<- range_map (gR g.ports v) (fun l=>truI (decide (exI g (dC c l.1.toNat) l.2=mnW g (dC c) v)))];refine List.map_congr_left fun i hi=>?_;rw[ex_sem hg hd hv (List.mem_range.1 hi),mw_sem hg hd hv]
 rw[e];exact idx_fpI fun l _=>by rw[itru_ne]
def offW (g:G) (c:Cf) (v:Nat):Bool:=decide ((dC c v,pC c v)≠tgW g (dC c) v)
theorem topW_sem (g:G) (c:Cf) (v:Nat):topWG.sem g c v (-1)=truI (decide (v=0)&&offW g c v):=by
 show truI (decide (truI (decide (v=0))≠0/\truI (decide (truI (decide (dC c v≠0))≠0\/truI (decide (pC c v≠-1))≠0))≠0))=_;congr 1;simp only[itru_ne,decide_eq_true_eq];by_cases h0:v=0
 . rw[offW,tgW,if_pos h0];simp only[h0,true_and,decide_true,Bool.true_and];rw[decide_eq_decide];simp only[ne_eq,Prod.mk.injEq];exact(Classical.not_and_iff_not_or_not).symm
 . simp[h0]
theorem lowW_sem {g:G} (hg:g.valid=true) {c:Cf} (hd:NnW g c) {v:Nat} (hv:v<g.ids.length):lowWG.sem g c v (-1)=truI (!decide (v=0)&&offW g c v):=by
 show truI (decide (truI (decide (truI (decide (v=0))=0))≠0/\truI (decide (truI (decide (dC c v≠xWT.sem g c v (-1)))≠0\/truI (decide (pC c v≠pWT.sem g c v (-1)))≠0))≠0))=_;congr 1;simp only[itru_ne,itru_eq0,decide_eq_true_eq,decide_eq_false_iff_not];by_cases h0:v=0
 . simp[h0]
 . rw[x_semW hg hd hv h0,p_semW hg hd hv h0,offW];simp only[h0,not_false_eq_true,true_and,decide_false,Bool.not_false,Bool.true_and];rw[decide_eq_decide];generalize tgW g (dC c) v=t;obtain⟨t1,t2⟩:=t;simp only[ne_eq,Prod.mk.injEq];exact(Classical.not_and_iff_not_or_not).symm
end Go.Proofs.YtefdkgkojlflaaaGreatDoor
namespace Go.Proofs.YtefdkgkojlflaaaGreatDoor
open Go.Eng
set_option maxRecDepth 100000
set_option linter.unusedVariables false
def vW2:List Vr:=[⟨ByteArray.mk #[120],1,0,0,16,0⟩,⟨ByteArray.mk #[112],3,0,0,0,0⟩]
def pWid:Pr:=⟨ByteArray.mk #[119,105,100,101,115,116],vW2,[⟨ByteArray.mk #[116,111,112],topWG,[(0,.leaf 1 0),(1,.leaf 4 0)]⟩,
 ⟨ByteArray.mk #[108,111,119],lowWG,[(0,xWT),(1,pWT)]⟩]⟩
theorem wid_rng {g:G} {c:Cf} (h:Conf pWid g c) {v:Nat} (hv:v<g.ids.length):(gC c v).length=2/\0<=dC c v/\dC c v<=16*g.ids.length/\-1<=pC c v/\pC c v<=((gR g.ports v).length:Int)-1:=by
 have hl:v<c.length:=by rw[h.len];exact hv
 have h0:=h.val v hl 0 (by decide);have h1:=h.val v hl 1 (by decide);have e0:bnd g (gV pWid.vars 0) v=(0,0+16*(g.ids.length:Int)+0*topI g):=rfl;have e1:bnd g (gV pWid.vars 1) v=(-1,((gR g.ports v).length:Int)-1):=rfl;rw[e0] at h0;rw[e1] at h1;obtain⟨a1,a2⟩:=h0;obtain⟨b1,b2⟩:=h1;simp only at a1 a2 b1 b2;exact⟨h.row v hl,a1,by show gI (gC c v) 0<=_;omega,b1,b2⟩
theorem wid_nn {g:G} {c:Cf} (h:Conf pWid g c):NnW g c:=fun v hv=>⟨(wid_rng h hv).2.1,(wid_rng h hv).2.2.1⟩
def stX (c:Cf):Go.Plain.Val.St:=⟨dC c,pC c⟩
theorem off_iffX {g:G} {c:Cf} {v:Nat}:Go.Plain.Val.off (tgW g) (stX c) v↔offW g c v=true:=by
 rw[offW,decide_eq_true_eq];exact Iff.rfl
theorem wid_gds (g:G) (c:Cf) (v:Nat):gds pWid g c v=[topWG.sem g c v (-1),lowWG.sem g c v (-1)]:=rfl
theorem wid_off {g:G} (hg:g.valid=true) {c:Cf} (hc:Conf pWid g c) {v:Nat} (hv:v<g.ids.length) (ho:offW g c v=true):ruleI pWid g c v=if v=0 then 0 else 1:=by
 rw[ruleI,wid_gds,topW_sem,lowW_sem hg (wid_nn hc) hv,ho];by_cases h0:v=0
 . rw[decide_eq_true h0,if_pos h0];rfl
 . rw[decide_eq_false h0,if_neg h0];rfl
theorem wid_noff {g:G} (hg:g.valid=true) {c:Cf} (hc:Conf pWid g c) {v:Nat} (hv:v<g.ids.length) (ho:offW g c v=false):ruleI pWid g c v=-1:=by
 rw[ruleI,wid_gds,topW_sem,lowW_sem hg (wid_nn hc) hv,ho,Bool.and_false,Bool.and_false];rfl
theorem wid_en {g:G} (hg:g.valid=true) {c:Cf} (hc:Conf pWid g c) {v:Nat} (hv:v<g.ids.length):(enN pWid g c).testBit v=true↔offW g c v=true:=by
 rw[en_bit,decide_eq_true hv,Bool.true_and,decide_eq_true_eq];cases ho:offW g c v with
 | true =>
   rw[wid_off hg hc hv ho];exact⟨fun _=>rfl,fun _=>by split<;>omega⟩
 | false =>
   rw[wid_noff hg hc hv ho];exact⟨fun h=>by omega,fun h=>by cases h⟩
theorem wid_en0 {g:G} (hg:g.valid=true) {c:Cf} (hc:Conf pWid g c):enN pWid g c=0↔∀v,v<g.ids.length->offW g c v=false:=by
 constructor
 . intro e v hv;cases ho:offW g c v with
   | false=>rfl
   | true =>
     have:=(wid_en hg hc hv).2 ho;rw[e] at this;simp at this
 . intro h;apply Nat.eq_of_testBit_eq;intro v;rw[Nat.zero_testBit];cases e:(enN pWid g c).testBit v with
   | false=>rfl
   | true =>
     have hlt:v<g.ids.length:=by rw[en_bit,Bool.and_eq_true,decide_eq_true_eq] at e;exact e.1
     have:=(wid_en hg hc hlt).1 e;rw[h v hlt] at this;cases this
theorem wd0 (g:G) (c:Cf) (v:Nat):moveL pWid g c v 0=((gC c v).set 0 (brI 1 0 (0+16*(g.ids.length:Int)+0*topI g) 0)).set 1 (brI 3 (-1) (((gR g.ports v).length:Int)-1) (-1)):=rfl
theorem wd1 (g:G) (c:Cf) (v:Nat):moveL pWid g c v 1=((gC c v).set 0 (brI 1 0 (0+16*(g.ids.length:Int)+0*topI g) (xWT.sem g c v (-1)))).set 1 (brI 3 (-1) (((gR g.ports v).length:Int)-1) (pWT.sem g c v (-1))):=rfl
theorem brX_val {k lo hi a:Int} (h:lo<=a/\a<=hi):brI k lo hi a=a:=by rw[brI,if_pos h]
theorem tgW_rng {g:G} (hg:g.valid=true) {c:Cf} (hc:Conf pWid g c) {v:Nat} (hv:v<g.ids.length) (h0:v≠0):0<=(tgW g (dC c) v).1/\(tgW g (dC c) v).1<=16*g.ids.length/\-1<=(tgW g (dC c) v).2/\(tgW g (dC c) v).2<=((gR g.ports v).length:Int)-1:=by
 have hm:=mnW_nn hg (wid_nn hc) hv;have hf:=fpI_range (fun l=>decide (exI g (dC c l.1.toNat) l.2=mnW g (dC c) v)) (gR g.ports v) 0;rw[tgW,if_neg h0];simp only;split<;>omega
theorem wid_step {g:G} (hg:g.valid=true) {c:Cf} (hc:Conf pWid g c) {s:Nat} (hs:Part s (enN pWid g c)):Go.Plain.Val.Step g.ids.length (tgW g) (stX c) (fun v=>s.testBit v) (stX (stepC pWid g c s)):=by
 intro v hv;have hl:=hc.len;have hlen:=(wid_rng hc hv).1;have hrow:=stepC_row pWid g c s (v:=v) (by omega);refine⟨fun hb ho=>?_,fun hq=>?_⟩
 . rw[off_iffX] at ho;rw[if_pos hb,wid_off hg hc hv ho] at hrow;show(gI (gC (stepC pWid g c s) v) 0,gI (gC (stepC pWid g c s) v) 1)=tgW g (dC c) v;by_cases h0:v=0
   . rw[if_pos h0] at hrow;rw[hrow,show(0:Int).toNat=0 from rfl,wd0];rw[gI_stx _ _ _ _ (by rw[List.length_set];omega),if_neg (by decide),gI_stx _ _ _ _ (by omega),if_pos rfl,gI_stx _ _ _ _ (by rw[List.length_set];omega),if_pos rfl,tgW,if_pos h0,brX_val (by omega),brX_val (by omega)]
   . rw[if_neg h0] at hrow;obtain⟨r1,r2,r3,r4⟩:=tgW_rng hg hc hv h0;rw[hrow,show(1:Int).toNat=1 from rfl,wd1,x_semW hg (wid_nn hc) hv h0,p_semW hg (wid_nn hc) hv h0];rw[gI_stx _ _ _ _ (by rw[List.length_set];omega),if_neg (by decide),gI_stx _ _ _ _ (by omega),if_pos rfl,gI_stx _ _ _ _ (by rw[List.length_set];omega),if_pos rfl,brX_val (by omega),brX_val (by omega)]
 . show gI (gC (stepC pWid g c s) v) 0=gI (gC c v) 0/\gI (gC (stepC pWid g c s) v) 1=gI (gC c v) 1;cases hb:s.testBit v with
   | false=>rw[hrow,hb];exact⟨rfl,rfl⟩
   | true =>
     exfalso;have ho:=(wid_en hg hc hv).1 (hs v hb);rcases hq with q|q
     . exact absurd (hb.symm.trans q) (by simp)
     . rw[off_iffX] at q;exact q ho
theorem maxV_mem:∀{l:List Int} {a:Int} (m:Int),a∈l->a<=maxL l m
 | [],_,_,h=>by simp at h
 | x::r,a,m,h=>by
   rw[maxL];rcases List.mem_cons.1 h with e|e
   . subst e;refine Int.le_trans ?_ (maxL_ge r _);split<;>omega
   . exact maxV_mem _ e
def TrX (g:G) (c:Cf):Prop:=∀v,v<g.ids.length->dC c v=((Tv g v:Nat):Int)/\pC c v=upW g v
noncomputable def mxV (g:G):Int:=maxL (vals g) 0
theorem mx_le {g:G} {v:Nat} (hv:v<g.ids.length):((Tv g v:Nat):Int)<=mxV g:=by
 have:gI (vals g) v∈vals g:=by
  have hl:=vals_len g;simp only[gI,List.getD,List.getElem?_eq_getElem (show v<(vals g).length by omega),Option.getD_some];exact List.getElem_mem _
 rw[<- vals_get hv];exact maxV_mem 0 this
theorem trX_ok {g:G} {c:Cf} (ht:TrX g c) {k:Nat} (hk:∀v,v<g.ids.length->Tv g v<k):Go.Plain.Val.Ok g.ids.length (Tv g) (upW g) (stX c) k :=
 ⟨fun v hv _=>ht v hv,fun v hv q=>by have:=hk v hv;omega⟩
theorem okX_tr {g:G} {c:Cf} {k:Nat} (ho:Go.Plain.Val.Ok g.ids.length (Tv g) (upW g) (stX c) k) (hk:∀v,v<g.ids.length->Tv g v<k):TrX g c :=
 fun v hv=>ho.low v hv (hk v hv)
theorem tv_lt {g:G} (h:g.conn=true):∀v,v<g.ids.length->Tv g v<16*g.ids.length:=fun v hv=>by have:=tv_top h hv;omega
theorem trX_noff {g:G} (h:g.conn=true) {c:Cf} (ht:TrX g c) {v:Nat} (hv:v<g.ids.length):offW g c v=false:=by
 have:=(trX_ok ht (tv_lt h)).all (netW h) (ruleW h) hv (tv_lt h v hv);rw[off_iffX] at this;simpa using this
theorem trX_step {g:G} (h:g.conn=true) {c:Cf} (hc:Conf pWid g c) (ht:TrX g c) {s:Nat} (hs:Part s (enN pWid g c)):TrX g (stepC pWid g c s) :=
 okX_tr ((trX_ok ht (tv_lt h)).step (netW h) (ruleW h) (wid_step (conn_facts h).1 hc hs)).1 (tv_lt h)
theorem wid_nnS {g:G} {c:Cf} (hc:Conf pWid g c):∀v,v<g.ids.length->0<=dC c v:=fun v hv=>(wid_nn hc v hv).1
theorem all_trX {g:G} (h:g.conn=true) {c:Cf} (hc:Conf pWid g c) (ho:∀v,v<g.ids.length->offW g c v=false):TrX g c:=by
 have key:∀k,Go.Plain.Val.Ok g.ids.length (Tv g) (upW g) (stX c) k:=fun k=>by
  induction k with
  | zero=>exact Go.Plain.Val.Ok.start (wid_nnS hc)
  | succ k ih =>
    refine ih.next fun v hv hb=>?_;have:=ih.off_bad (netW h) (ruleW h) hv hb;rw[off_iffX,ho v hv] at this;cases this
 exact okX_tr (key _) (tv_lt h)
theorem wid_rests {g:G} (h:g.conn=true) {c:Cf} (hc:Conf pWid g c):enN pWid g c=0↔TrX g c:=by
 rw[wid_en0 (conn_facts h).1 hc];exact⟨fun q=>all_trX h hc q,fun q v hv=>trX_noff h q hv⟩
structure XIn (g:G) (c:Cf) (k:Cnt):Prop where
 hr:(k.rounds:Int)<=mxV g
 ho:Go.Plain.Val.Ok g.ids.length (Tv g) (upW g) (stX c) k.rounds
 hb:∀v,v<g.ids.length->Go.Plain.Val.bad (Tv g) (upW g) (stX c) k.rounds v->k.pend.testBit v=true
theorem badX_en {g:G} (h:g.conn=true) {c:Cf} (hc:Conf pWid g c) {k:Nat} (ho:Go.Plain.Val.Ok g.ids.length (Tv g) (upW g) (stX c) k) {v:Nat} (hv:v<g.ids.length) (hb:Go.Plain.Val.bad (Tv g) (upW g) (stX c) k v):(enN pWid g c).testBit v=true :=
 (wid_en (conn_facts h).1 hc hv).2 (off_iffX.1 (ho.off_bad (netW h) (ruleW h) hv hb))
theorem mx_nn (g:G):0<=mxV g:=maxL_ge _ _
theorem xin_start {g:G} (h:g.conn=true) {c:Cf} (hc:Conf pWid g c):XIn g c (cnt0 (enN pWid g c)) :=
 ⟨by simpa[cnt0] using mx_nn g,Go.Plain.Val.Ok.start (wid_nnS hc),fun v hv hb=>badX_en h hc (Go.Plain.Val.Ok.start (wid_nnS hc)) hv hb⟩
theorem xin_step {g:G} (h:g.conn=true) {c:Cf} (hc:Conf pWid g c) {k:Cnt} (hi:XIn g c k) {s:Nat} (hs:Part s (enN pWid g c)) (hc':Conf pWid g (stepC pWid g c s)) (hn:¬ TrX g (stepC pWid g c s)) :
 XIn g (stepC pWid g c s) (k.add s (enN pWid g (stepC pWid g c s))):=by
 obtain⟨h1,h2⟩:=conn_facts h;obtain⟨f1,f2,f3,f4,f5,f6,f7⟩:=val_facts h1;have hstep:=wid_step h1 hc hs;obtain⟨hr,ho,hb⟩:=hi;have hlf:∀v,v<g.ids.length->((lft k s (enN pWid g (stepC pWid g c s))).testBit v=true↔(k.pend.testBit v=true/\s.testBit v=false)/\(enN pWid g (stepC pWid g c s)).testBit v=true):=fun v hv=>by
  simp only[lft,Nat.testBit_and,ndiff_bit (show v<32 by omega),Bool.and_eq_true,Bool.not_eq_true']
 obtain⟨ho',hb'⟩:=ho.step (netW h) (ruleW h) hstep;have hbl:∀v,v<g.ids.length->Go.Plain.Val.bad (Tv g) (upW g) (stX (stepC pWid g c s)) k.rounds v->(lft k s (enN pWid g (stepC pWid g c s))).testBit v=true:=fun v hv q=>by
  obtain⟨q1,q2⟩:=hb' v hv q;exact(hlf v hv).2 ⟨⟨hb v hv q1,q2⟩,badX_en h hc' ho' hv q⟩
 by_cases hz:lft k s (enN pWid g (stepC pWid g c s))=0
 . rw[Cnt.add,if_pos hz];have hnx:=ho'.next fun v hv q=>by
    have:=hbl v hv q;rw[hz] at this;simp at this
   refine⟨?_,hnx,fun v hv q=>badX_en h hc' hnx hv q⟩;apply Classical.byContradiction;intro q;refine hn (okX_tr hnx fun v hv=>?_);have:=mx_le (g:=g) hv;simp only at q;omega
 . rw[Cnt.add,if_neg hz];exact⟨hr,ho',hbl⟩
end Go.Proofs.YtefdkgkojlflaaaGreatDoor
namespace Go.Proofs.YtefdkgkojlflaaaGreatDoor
open Go.Eng
set_option maxRecDepth 100000
set_option linter.unusedVariables false
def cup (x:Nat->Bool) (v:Nat) (t:Bool):Nat->Bool:=fun u=>if u=v then t else x u
structure BIn (g:G) (b:Int) (r:Nat) (x:Nat->Bool):Prop where
 root:x 0=true
 snd:∀v,v<g.ids.length->x v=true->((Tv g v:Nat):Int)+1<=b*g.ids.length+cntU x g.ids.length
 ok:∀v,v<g.ids.length->rkV g v<r->((Tv g v / g.ids.length:Nat):Int)<=b->x v=true
structure BPs (g:G) (b:Int) (r v i:Nat) (x:Nat->Bool):Prop where
 base:BIn g b r x
 before:∀u,u<v->u<g.ids.length->rkV g u<=r->((Tv g u / g.ids.length:Nat):Int)<=b->x u=true
 here:∀j,j<i->j<(gR g.ports v).length->Tv g v=exN g.ids.length (Tv g (gF (gR g.ports v) j).1.toNat) (gF (gR g.ports v) j).2.toNat->rkV g v<=r->((Tv g v / g.ids.length:Nat):Int)<=b->x v=true
theorem BPs.start {g:G} {b:Int} {r:Nat} {x:Nat->Bool} (h:BIn g b r x):BPs g b r 0 0 x:=⟨h,fun u hu=>by omega,fun j hj=>by omega⟩
theorem BIn.start {g:G} {b:Int} (hb:0<=b) (hn:0<g.ids.length):BIn g b 0 (fun v=>decide (v=0)):=by
 refine⟨rfl,fun v hv e=>?_,fun v hv q=>by omega⟩;have e:=of_decide_eq_true e;subst e;rw[tv_root];have h1:cntU (fun v=>decide (v=0)) g.ids.length=1:=by
  obtain⟨m,hm⟩:∃m,g.ids.length=m+1:=⟨g.ids.length-1,by omega⟩;rw[hm];clear hm hn
  induction m with
  | zero=>rfl
  | succ m ih=>rw[cntU,ih];simp
 have h2:0<=b*(g.ids.length:Int):=Int.mul_nonneg hb (by omega);omega
theorem BPs.step {g:G} (h:g.conn=true) {b:Int} (hb:0<=b) {r v i:Nat} {x:Nat->Bool} (hp:BPs g b r v i x) (hv:v<g.ids.length) (hi:i<(gR g.ports v).length) :
 BPs g b r v (i+1) (cup x v (x v || (x (gF (gR g.ports v) i).1.toNat&&decide ((gF (gR g.ports v) i).2<=b)))):=by
 obtain⟨h1,h2⟩:=conn_facts h;obtain⟨f1,f2,f3,f4,f5,f6,f7⟩:=val_facts h1;have hB:=hp.base;have hl:=gF_mem hi;have hok:=(okR_iff.1 (f6 v (by omega))).1 _ hl;generalize hL:gF (gR g.ports v) i=l at *;have hun:l.1.toNat<g.ids.length:=by omega
 have hst:∀u,x u=true->cup x v (x v || (x l.1.toNat&&decide (l.2<=b))) u=true:=fun u e=>by
  rw[cup];split
  . rename_i q;subst q;simp[e]
  . exact e
 refine⟨⟨hst 0 hB.root,fun u hu e=>?_,fun u hu q q2=>hst u (hB.ok u hu q q2)⟩,fun u hu hun q q2=>hst u (hp.before u hu hun q q2),fun j hj hj2 e q q2=>?_⟩
 . by_cases hxu:x u=true
   . have h3:=hB.snd u hu hxu;have h4:cntU x g.ids.length<=cntU (cup x v (x v || (x l.1.toNat&&decide (l.2<=b)))) g.ids.length:=cntV_le fun w _ q=>hst w q;omega
   . have hxf:x u=false:=by simpa using hxu
     have huv:u=v:=by
      apply Classical.byContradiction;intro ne;rw[cup,if_neg ne] at e;exact hxu e
     subst huv;have e2:=e;rw[cup,if_pos rfl,hxf,Bool.false_or,Bool.and_eq_true,decide_eq_true_eq] at e2;have h3:=hB.snd _ hun e2.1;have h4:cntU (cup x u (x u || (x l.1.toNat&&decide (l.2<=b)))) g.ids.length=cntU x g.ids.length+1:=cntU_one (u:=u) e hxf (fun w hw=>by rw[cup,if_neg hw]) hu;have h5:=tv_link h hv hl;have h6:((l.2.toNat*g.ids.length:Nat):Int)<=b*g.ids.length:=by
      push_cast
      rw[Int.toNat_of_nonneg (by omega)];exact Int.mul_le_mul_of_nonneg_right e2.2 (by omega)
     rw[h4];simp only[exN] at h5;generalize l.2.toNat*g.ids.length=m at *;generalize b*(g.ids.length:Int)=t at *;omega
 . by_cases ej:j=i
   . subst ej;rw[hL] at e;have hlt:Tv g l.1.toNat<Tv g v:=by rw[e];exact exN_gt
     have hrk:=rk_lt hun hlt;have hx:=hB.ok l.1.toNat hun (by omega) (by
      have:Tv g l.1.toNat / g.ids.length<=Tv g v / g.ids.length:=Nat.div_le_div_right (by omega);omega)
     have hw:l.2<=b:=by
      have h7:l.2.toNat*g.ids.length<=Tv g v:=by rw[e,exN];omega
      have h8:l.2.toNat<=Tv g v / g.ids.length:=(Nat.le_div_iff_mul_le (by omega)).2 h7;omega
     rw[cup,if_pos rfl,hx,decide_eq_true hw];simp
   . exact hst v (hp.here j (by omega) hj2 e q q2)
theorem BPs.row {g:G} (h:g.conn=true) {b:Int} {r v:Nat} {x:Nat->Bool} (hp:BPs g b r v (gR g.ports v).length x) (hv:v<g.ids.length):BPs g b r (v+1) 0 x:=by
 refine⟨hp.base,fun u hu hun q q2=>?_,fun j hj=>by omega⟩;by_cases e:u=v
 . subst e;by_cases h0:u=0
   . subst h0;exact hp.base.root
   . obtain⟨l,hl,e⟩:=tv_back h hun h0;obtain⟨j,hj,ej⟩:=List.getElem_of_mem hl;have ej:gF (gR g.ports u) j=l:=by rw[<- ej];simp[gF,List.getD,hj]
     exact hp.here j hj hj (by rw[ej];exact e) q q2
 . exact hp.before u (by omega) hun q q2
theorem BPs.over {g:G} {b:Int} {r v:Nat} {x:Nat->Bool} (hp:BPs g b r v 0 x) (hv:g.ids.length<=v):BIn g b (r+1) x :=
 ⟨hp.base.root,hp.base.snd,fun u hu q q2=>hp.before u (by omega) hu (by omega) q2⟩
theorem BIn.done {g:G} {b:Int} (hb:0<=b) {x:Nat->Bool} (h:BIn g b g.ids.length x) {v:Nat} (hv:v<g.ids.length):x v=decide (((Tv g v / g.ids.length:Nat):Int)<=b):=by
 cases e:x v with
 | true =>
   symm;rw[decide_eq_true_eq];have h1:=h.snd v hv e;have h2:=cntV_all x g.ids.length;obtain⟨k,rfl⟩:∃k:Nat,b=(k:Int):=⟨b.toNat,by omega⟩;have h3:Tv g v<(k+1)*g.ids.length:=by
    have:(k:Int)*(g.ids.length:Int)=((k*g.ids.length:Nat):Int):=by push_cast;rfl
    rw[this] at h1;rw[Nat.add_mul];omega
   have h4:=(Nat.div_lt_iff_lt_mul (by omega)).2 h3;omega
 | false =>
   symm;rw[decide_eq_false_iff_not];intro q;have:=h.ok v hv (by have:=rk_top (g:=g) hv;omega) q;rw[e] at this;cases this
end Go.Proofs.YtefdkgkojlflaaaGreatDoor
