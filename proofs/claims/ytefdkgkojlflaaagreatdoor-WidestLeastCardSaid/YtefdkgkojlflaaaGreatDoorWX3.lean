import Derived.Test.YtefdkgkojlflaaaGreatDoorRN1
import Derived.Test.YtefdkgkojlflaaaGreatDoorRows
import Derived.LaidMore
import Derived.Stop.Joined
import Derived.SevenTiedAt
import GoSem.ClaimSeven
namespace Go.Proofs.YtefdkgkojlflaaaGreatDoor
open Go.Eng
set_option maxRecDepth 100000
set_option linter.unusedVariables false
def wsE (l:List Int) (i:Nat):Int:=if l.length=0 then 4294967295 else
 J3m .and .u32 (J3m .or .u32 (IntKind.u32.wrap (J3m .and .u32 (gI l (i % l.length)) 16777215*2 ^ (min (((i:Int).tdiv l.length).tmod 24).toNat 32))) ((J3m .and .u32 (gI l (i % l.length)) 16777215).fdiv (2 ^ (min (24-((i:Int).tdiv l.length).tmod 24).toNat 32)))) 16777215
theorem Q1r (a:Int):0<=IntKind.u32.wrap a/\IntKind.u32.wrap a<4294967296:=by
 simp only[IntKind.wrap,IntKind.bits,IntKind.signed,Bool.false_and];constructor
 . simp;omega
 . simp;omega
theorem J9M (l:List Int) (i:Nat):0<=wsE l i/\wsE l i<4294967296:=by
 rw[wsE];split
 . decide
 . exact Q1r _
def wsN (l:List Int) (i:Nat):Nat:=(wsE l i).toNat
def wsL (l:List Int) (n:Nat):List Nat:=(List.range n).map (wsN l)
theorem Q5t (l:List Int) (n:Nat):(wsL l n).length=n:=by simp[wsL]
theorem X5I (l:List Int) (n:Nat):∀w∈wsL l n,w<4294967296:=fun w hw=>by
 obtain⟨i,_,rfl⟩:=List.mem_map.1 hw;have:=J9M l i;rw[wsN];omega
def vW (l:List Int):Nat->Nat->V:=fun i _=>.int .u32 (wsE l i)
def vUI (l:List Int):Nat->Nat->V:=fun i _=>.int .u32 (gI l i)
theorem wrem {i n:Nat} (h:n≠0):(i:Int).tmod n=((i % n:Nat):Int):=by
 rw[Int.tmod_eq_emod_of_nonneg (by omega)];exact(Int.natCast_emod _ _).symm
theorem wquo {i n:Nat}:0<=(i:Int).tdiv n/\(i:Int).tdiv n<=i:=by
 rw[Int.tdiv_eq_ediv_of_nonneg (by omega)];exact⟨Int.ediv_nonneg (Int.natCast_nonneg i) (Int.natCast_nonneg n),Int.ediv_le_self _ (Int.natCast_nonneg i)⟩
theorem X5J {q:Int} (h:0<=q):0<=q.tmod 24/\q.tmod 24<24:=by
 rw[Int.tmod_eq_emod_of_nonneg h];omega
theorem Q2D (l:List Int) (i a b:Nat) (ha:a<i+1) (hb:b<1) (F:Nat->Nat->V) (x:Int) (hF:F 0 0=.int .u32 x) (hx:x=wsE l i):VLe (J4o (J0h 0 (vW l)) i (J0h 0 F) a b) (vW l a b):=by
 obtain rfl:b=0:=by omega
 apply VLe.of_eq;by_cases h:a<i
 . rw[J1E h];simp[J0h]
 . rw[J1F h];have:a=i:=by omega
   subst this;simp[J0h,hF,vW,hx]
set_option maxHeartbeats 8000000 in
theorem Q5u (l:List Int) (hl:l.length<=9223372036854775807) (n:Nat) (hn:n<=1000):Ret Tryz.prog 31 [.fz l.length 1 false (vUI l),.int .i64 n] (.fz (wsL l n).length 1 false (vU7 (wsL l n))):=by
 refine J0f rfl ?_;refine J0b mixed Tryz.func31 rfl hc31 hr31 rfl ?_
 repeat' ((conv=>whnf);first|fail)
 all_goals (conv=>whnf)
 refine J16 mixed [0,1] [0] [1,2,3,4,5,6,7,8,9,10,11,12,13,14,15,16,17,18,19,20,21,22,23,24,25,26,27,28,29] [0] (fun i:Nat=>[(5,.vec 0 1 0 i),(6,.int .i64 i)]) (fun i=>[(0,.vec i 1 (vW l))]) (fun m i=>m=n-i/\i<=n) n 0 ⟨rfl,Nat.zero_le _⟩ rfl (fun _=>rfl) ?_ ?_
 . exact J0l (fun _ _=>[(0,none)])
 rintro m i ⟨hm,hi⟩;by_cases hin:i<n
 . by_cases h0:l.length=0
   . repeat' ((conv=>whnf);first|(refine Br.dec ?_ ?_<;>intro _<;>try omega)|(refine Br.nbeq ?_ ?_<;>intro _<;>try omega)|(refine Ar.q ?_)|(refine Len.q ?_))
     all_goals (conv=>whnf)
     all_goals try (exfalso;omega)
     all_goals
      refine⟨n-(i+1),i+1,by omega,⟨rfl,by omega⟩,?_⟩;refine J0e (fun env _=>[(0,Q8Z env 5)]) ?_ ?_ rfl
      . repeat' (first|exact tI|(refine⟨⟨_,rfl,?_⟩,?_⟩)|exact J0c.kf rfl|exact J0c.q)
      . repeat' (first|(refine⟨Nat.le_refl _,rfl,fun a b ha hb=>Q2D l i a b ha hb _ 4294967295 rfl (by rw[wsE,if_pos h0])⟩)|exact tI|(refine⟨⟨_,rfl,?_⟩,?_⟩))
   . have hr:=wrem (i:=i) h0;have hq:=wquo (i:=i) (n:=l.length);have h24:=X5J hq.1;have hml:i % l.length<l.length:=Nat.mod_lt _ (by omega);have hE:wsE l i=J3m .and .u32 (J3m .or .u32 (IntKind.u32.wrap (J3m .and .u32 (gI l (i % l.length)) 16777215*2 ^ (min (((i:Int).tdiv l.length).tmod 24).toNat 32))) ((J3m .and .u32 (gI l (i % l.length)) 16777215).fdiv (2 ^ (min (24-((i:Int).tdiv l.length).tmod 24).toNat 32)))) 16777215:=by rw[wsE,if_neg h0]
     repeat' ((conv=>whnf);first|(refine Ix.mk (i % l.length) hr hml ?_)|(refine Ar.u64 (by omega) (by omega) ?_)|(refine Br.dec ?_ ?_<;>intro _<;>try omega)|(refine Br.nbeq ?_ ?_<;>intro _<;>try omega)|(refine Ar.q ?_)|(refine Sv.mk _ rfl ?_)|(refine Nz.mk (by omega) ?_)|(refine Nn.mk (by omega) ?_)|(refine Len.q ?_)|(refine Ar.mk _ rfl ?_))
     all_goals (conv=>whnf)
     all_goals try (exfalso;omega)
     all_goals
      refine⟨n-(i+1),i+1,by omega,⟨rfl,by omega⟩,?_⟩;refine J0e (fun env _=>[(0,Q8Z env 5)]) ?_ ?_ rfl
      . repeat' (first|exact tI|(refine⟨⟨_,rfl,?_⟩,?_⟩)|exact J0c.kf rfl|exact J0c.q)
      . repeat' (first|(refine⟨Nat.le_refl _,rfl,fun a b ha hb=>Q2D l i a b ha hb _ _ rfl hE.symm⟩)|exact tI|(refine⟨⟨_,rfl,?_⟩,?_⟩))
 . have e:i=n:=by omega
   subst e
   repeat' ((conv=>whnf);first|(refine Br.dec ?_ ?_<;>intro _<;>try omega)|(refine Len.q ?_))
   all_goals (conv=>whnf)
   refine VLe.fz (Q5t l i).symm (fun h=>h) (fun a b ha hb=>VLe.of_eq ?_);obtain rfl:b=0:=by omega
   have hr:=J9M l a;have e1:(wsL l i).getD a 0=wsN l a:=by rw[wsL,List.getD_eq_getElem?_getD,List.getElem?_map,List.getElem?_range ha];rfl
   rw[J0D,Nat.zero_add];show V.int .u32 (wsE l a)=V.int .u32 (((wsL l i).getD a 0:Nat):Int);rw[e1,wsN];congr 1;omega
def X7W (k:Cnt):Nat->V:=fun j=>match j with
 | 0=>.int .i64 k.steps
 | 1=>.int .i64 k.moves
 | 2=>.int .i64 k.rounds
 | 3=>.int .i64 k.begun
 | _=>.int .u32 k.pend
open Go.Eng Go.ChangeShapes Go.WideShapes Go.ChangeAt Go.WideMaps Go.WideElems Go.RowKit
theorem ownk:ownKnob Tryz.prog.godebug=none:=by kernel_rfl
theorem X94:laidOutB Tryz.prog=true:=by kernel_rfl
theorem Q31:Tryz.prog.cellsOf 3=1:=by kernel_rfl
theorem X7i:Tryz.prog.cellsOf 5=1:=by kernel_rfl
theorem X7j:Tryz.prog.cellsOf 4=1:=by kernel_rfl
theorem X44:Tryz.prog.cellsOf 22=1:=by kernel_rfl
theorem X1l:Tryz.prog.cellsOf 240=32:=by kernel_rfl
theorem X43:Tryz.prog.cellsOf 24=6:=by kernel_rfl
theorem X56:Tryz.prog.readableRec 24=true:=by kernel_rfl
theorem X51:24<Tryz.prog.types.size:=of_decide_eq_true (by kernel_rfl)
theorem X3u:Tryz.prog.wantsStandIn 24=false:=by kernel_rfl
theorem gTab:Tryz.prog.globalNamed "math/bits.deBruijn32tab"=some 0:=by kernel_rfl
theorem tTab:(Tryz.prog.globals[0]?).map (·.type)=some 240:=by kernel_rfl
abbrev Q7e:List (String×DataW Unit):=[("math/bits.deBruijn32tab",Rows.laid_math_bits_deBruijn32tab)]
theorem X09 (os:Os) (args:Array Value):laidMetH Tryz.prog Q7e ((World.doorLaid Tryz.prog 400 os).forCall (fun _ _=>0) ⟨#[],args,[]⟩).memory :=
 laidMetH_of_parts3 (fuel:=8) (laidMet_of_run' 8 (by kernel_rfl) (by kernel_rfl)) (by kernel_rfl) (by kernel_rfl)
theorem X3W {W:World} (h:laidMetH Tryz.prog Q7e W):Den (fun _=>False) W Sg.none (.fe 32 1 tzF 0 0) (.pointer (some ⟨0,0,none⟩)):=by
 rw[MakeChecks.laidMetH_plain _ _ _ (by kernel_rfl)] at h;obtain⟨ps,⟨g0,t0,cs0,f0,p0,q0,hg0,ht0,hv0,hd0,_⟩,_,_⟩:=h;obtain rfl:=Option.some.inj (gTab.symm.trans hg0);obtain rfl:=Option.some.inj (tTab.symm.trans ht0);obtain⟨xs,m1,rfl,hx1,hlen,hn,hel⟩:=DataW.trod_array Tryz.underlying240 hd0;simp only[Prod.mk.injEq] at hx1;have hxs:xs.map (·.1)=tzL.map fun n=>(DataW.lit (.int .u8 n):DataW Unit):=by
  have:=hx1.1;rw[Rows.laid_math_bits_deBruijn32tab] at this;have h2:=DataW.agg.inj this;exact h2.symm
 have key:∀i,i<32->W.cell? ⟨0,i,none⟩=some (.int .u8 (tzL.getD i 0)):=by
  intro i hi;have h0:=hel i hi;rw[X7i,Nat.mul_one] at h0;have hxi:xs[i]?.map (·.1)=some (.lit (.int .u8 (tzL.getD i 0))):=by
   rw[<- List.getElem?_map,hxs,List.getElem?_map,List.getElem?_eq_getElem (show i<tzL.length from hi)];simp only[Option.map_some,List.getD,List.getElem?_eq_getElem (show i<tzL.length from hi),Option.getD_some]
  cases hx:xs[i]? with
  | none=>rw[hx] at hxi;cases hxi
  | some x =>
    rw[hx] at h0 hxi;obtain⟨k,e1,e2,_⟩:=DataW.trod_int Tryz.underlying5 h0;rw[e2] at hxi;simp only[Option.map_some,Option.some.injEq] at hxi;have hk:k=tzL.getD i 0:=by
     have:=DataW.lit.inj hxi;exact(Lit.int.inj this).2
    have hc:=World.var?_cell hg0 hv0 i;rw[hc];have hl:i<cs0.toList.length:=by rw[hlen,X1l];exact hi
    have h3:cs0.toList[i]?=some (.int .u8 k):=by
     have:=congrArg (·[0]?) e1;simpa[List.getElem?_take,List.getElem?_drop] using this
    rw[<- hk];simpa using h3
 have hb:0<W.heap.size:=by
  have:=key 0 (by decide);unfold World.cell? at this;split at this
  . rename_i h;exact lt_of_getElem? h
  . cases this
 exact .fe _ _ _ _ _ _ _ _ (fun i _=>.int .u8 (tzL.getD i 0)) (by decide) (fun h=>h) hb
  (fun i j hi hj=>by(obtain rfl:j=0:=by omega);simpa using key i hi) (fun i j hi hj=>rfl) (fun i j hi hj=>.int _ _ _)
theorem Q6T {n:Nat} (h:n<=maxLen):n<=9223372036854775807:=h
section
variable {H:Type} {enc:TypeId×Value->H} {W:World} {sp:Nat->Bool} {hd:Bool}
theorem X4S {v:Value} {d:DataW H} {ps:List MemPlace} (hv:∃cs,v=.agg cs) (h:DataW.Trod enc Tryz.prog W 0 sp hd 24 v d ps):∃x:Net,x.Small/\Den (fun _=>False) W Sg.none x.v v:=by
 obtain⟨arr,rfl⟩:=hv;obtain⟨fuel,h⟩:=h;obtain⟨hl,n,hf⟩:=J6z Tryz.underlying24 h;simp only[Value.cells] at hl hf;generalize hcs:arr.toList=cs at hl hf;rw[X43] at hl;obtain⟨x0,y0⟩:=hf 0 _ rfl;obtain⟨x1,y1⟩:=hf 1 _ rfl;obtain⟨x2,y2⟩:=hf 2 _ rfl;obtain⟨x3,y3⟩:=hf 3 _ rfl;obtain⟨x4,y4⟩:=hf 4 _ rfl;obtain⟨x5,y5⟩:=hf 5 _ rfl;simp only[Q31,X44,X7j] at y0 y1 y2 y3 y4 y5;obtain⟨n0,e0,_⟩:=J5H Tryz.underlying3 y0;obtain⟨u1,l1,e1,_,d1,m1,_⟩:=J9t Sg.none Tryz.underlying22 Tryz.underlying3 Q31 y1;obtain⟨u2,l2,e2,_,d2,m2,_⟩:=J9t Sg.none Tryz.underlying22 Tryz.underlying3 Q31 y2;obtain⟨u3,l3,e3,_,d3,m3,_⟩:=J9t Sg.none Tryz.underlying22 Tryz.underlying3 Q31 y3;obtain⟨b4,e4⟩:=J4M Tryz.underlying4 y4;obtain⟨b5,e5⟩:=J4M Tryz.underlying4 y5
 match cs,hl with
 | [c0,c1,c2,c3,c4,c5],_ =>
   simp at e0 e1 e2 e3 e4 e5;subst e0 e1 e2 e3 e4 e5;refine⟨⟨n0,l1,l2,l3,b4,b5⟩,⟨Q6T m1,Q6T m2,Q6T m3⟩,?_⟩;have:arr=[.int .i64 n0,c1,c2,c3,.bool b4,.bool b5].toArray:=by rw[<- hcs]
   rw[this];refine .agg _ _ _ rfl ?_;intro i v u hv hu
   match i,hv,hu with
   | 0,hv,hu=>simp at hv hu;subst hv hu;exact .int _ _ _
   | 1,hv,hu=>simp at hv hu;subst hv hu;exact d1
   | 2,hv,hu=>simp at hv hu;subst hv hu;exact d2
   | 3,hv,hu=>simp at hv hu;subst hv hu;exact d3
   | 4,hv,hu=>simp at hv hu;subst hv hu;exact .bool _ _
   | 5,hv,hu=>simp at hv hu;subst hv hu;exact .bool _ _
   | i+6,hv,hu=>simp at hv
end
theorem Q5d {W:World} {base:Nat} {v:Value} (h:Value.okWide Tryz.prog W .any base 24 v):∃cs,v=.agg cs:=by
 unfold Value.okWide at h;rw[Tryz.underlying24] at h;obtain⟨cs,h,_⟩:=h;exact⟨cs,h⟩
end Go.Proofs.YtefdkgkojlflaaaGreatDoor
namespace Go.Proofs.YtefdkgkojlflaaaGreatDoor
open Go.Eng
set_option maxRecDepth 100000
set_option linter.unusedVariables false
theorem Q69:∀{l m:List Nat},l.Nodup->(∀a∈l,a∈m)->l.length<=m.length
 | [],m,_,_=>Nat.zero_le _
 | a::l,m,hn,hs=>by
   rw[List.nodup_cons] at hn;have ham:=hs a (by simp);have h1:=Q69 (l:=l) (m:=m.erase a) hn.2 (fun b hb=>(List.mem_erase_of_ne (fun e=>hn.1 (by rw[<- e];exact hb))).2 (hs b (by simp[hb])));have h2:=List.length_erase_of_mem ham;have h3:=List.length_pos_of_mem ham;simp only[List.length_cons];omega
abbrev Pt:=List (List (Int×Int))
def toN (p:Pt) (v i:Nat):Nat:=(gF (gR p v) i).1.toNat
def lay (p:Pt) (f:Nat):Nat->Nat->Int
 | 0,v=>if v=f then 0 else -1
 | k+1,v=>if 0<=lay p f k v then lay p f k v else if (gR p v).any (fun l=>decide (lay p f k l.1.toNat=k)) then (k:Int)+1 else -1
structure J7X (p:Pt) (f:Nat) (r:Nat->Int):Prop where
 low:∀v,v<p.length->-1<=r v
 from_:r f=0
 back:∀v,v<p.length->v≠f->0<=r v->∃l∈gR p v,r l.1.toNat=r v-1/\0<=r l.1.toNat
 on:∀v,v<p.length->0<=r v->∀l∈gR p v,0<=r l.1.toNat/\r l.1.toNat<=r v+1
structure Und (p:Pt):Prop where
 rng:∀v,v<p.length->∀l∈gR p v,l.1.toNat<p.length
 sym:∀v,v<p.length->∀l∈gR p v,∃m∈gR p l.1.toNat,m.1.toNat=v
theorem J7X.at_ {p:Pt} {f:Nat} {r:Nat->Int} (hu:Und p) (h:J7X p f r) (hf:f<p.length):∀k v,v<p.length->lay p f k v=if 0<=r v/\r v<=k then r v else -1
 | 0,v,hv=>by
   simp only[lay];by_cases e:v=f
   . subst e;rw[if_pos rfl,h.from_];simp
   . rw[if_neg e];by_cases h0:0<=r v
     . obtain⟨l,_,h1,h2⟩:=h.back v hv e h0;rw[if_neg (by omega)]
     . rw[if_neg (by omega)]
 | k+1,v,hv=>by
   have ih:=fun v hv=>J7X.at_ hu h hf k v hv;have hl:=h.low v hv;rw[lay];by_cases h0:0<=r v/\r v<=k
   . have e1:lay p f k v=r v:=by rw[ih v hv,if_pos h0]
     rw[e1,if_pos h0.1];exact(if_pos ⟨h0.1,by omega⟩).symm
   . have e1:lay p f k v=-1:=by rw[ih v hv,if_neg h0]
     rw[e1,if_neg (by decide)];by_cases h1:0<=r v/\r v=k+1
     . have hvf:v≠f:=fun e=>by subst e;rw[h.from_] at h1;omega
       obtain⟨l,hl,q1,q2⟩:=h.back v hv hvf h1.1;have ha:(gR p v).any (fun l=>decide (lay p f k l.1.toNat=k))=true:=by
        rw[List.any_eq_true];refine⟨l,hl,decide_eq_true ?_⟩;rw[ih _ (hu.rng v hv l hl),if_pos ⟨q2,by omega⟩];omega
       rw[if_pos ha];refine Eq.trans ?_ (if_pos ⟨h1.1,by omega⟩).symm;omega
     . refine Eq.trans (if_neg ?_) (if_neg (show ¬ (0<=r v/\r v<=((k+1:Nat):Int)) by omega)).symm;intro ha;rw[List.any_eq_true] at ha;obtain⟨l,hl,e⟩:=ha;have e:=of_decide_eq_true e;have hlr:=hu.rng v hv l hl;rw[ih _ hlr] at e;split at e
       . rename_i h2;obtain⟨m,hm,em⟩:=hu.sym v hv l hl;obtain⟨q1,q2⟩:=h.on _ hlr h2.1 m hm;rw[em] at q1 q2;omega
       . omega
theorem J7X.lt {p:Pt} {f:Nat} {r:Nat->Int} (hu:Und p) (h:J7X p f r) {v:Nat} (hv:v<p.length):r v<p.length:=by
 have key:∀m:Nat,∀v,v<p.length->r v=m->∃l:List Nat,l.length=m+1/\l.Nodup/\(∀u∈l,u<p.length)/\∀u∈l,r u<=m:=by
  intro m
  induction m with
  | zero=>intro v hv e;exact⟨[v],rfl,by simp,by simpa using hv,by simp;omega⟩
  | succ m ih =>
    intro v hv e;have hvf:v≠f:=fun x=>by subst x;rw[h.from_] at e;omega
    obtain⟨l,hl,q1,q2⟩:=h.back v hv hvf (by omega);obtain⟨L,l1,l2,l3,l4⟩:=ih _ (hu.rng v hv l hl) (by omega);refine⟨v::L,by simp[l1],List.nodup_cons.2 ⟨fun hm=>?_,l2⟩,?_,?_⟩
    . have:=l4 v hm;omega
    . intro u hu;rcases List.mem_cons.1 hu with rfl|hu
      . exact hv
      . exact l3 u hu
    . intro u hu;rcases List.mem_cons.1 hu with rfl|hu
      . omega
      . have:=l4 u hu;omega
 rcases Int.lt_or_le (r v) 0 with h0|h0
 . omega
 . obtain⟨L,l1,l2,l3,_⟩:=key (r v).toNat v hv (by omega);have:L.length<=(List.range p.length).length:=Q69 l2 (fun u hu=>List.mem_range.2 (l3 u hu));rw[l1,List.length_range] at this;omega
theorem J7X.eq {p:Pt} {f:Nat} {r:Nat->Int} (hu:Und p) (h:J7X p f r) (hf:f<p.length) {v:Nat} (hv:v<p.length):lay p f (p.length-1) v=r v:=by
 have h1:=h.lt hu hv;have h2:=h.low v hv;rw[h.at_ hu hf _ v hv];split
 . rfl
 . omega
def J3l (p:Nat->Bool):Nat->Nat
 | 0=>0
 | n+1=>J3l p n+if p n then 1 else 0
theorem J6k {p q:Nat->Bool}:∀{n:Nat},(∀v,v<n->p v=q v)->J3l p n=J3l q n
 | 0,_=>rfl
 | n+1,h=>by
   have h1:=J6k (n:=n) fun v hv=>h v (by omega);simp only[J3l,h1,h n (by omega)]
theorem J6j {p q:Nat->Bool} {u:Nat} (hp:p u=true) (hq:q u=false) (h:∀v,v≠u->p v=q v):∀{n:Nat},u<n->J3l p n=J3l q n+1
 | n+1,hn=>by
   simp only[J3l];by_cases e:u=n
   . subst e;rw[J6k (fun v hv=>h v (by omega)),hp,hq];simp
   . rw[J6j hp hq h (n:=n) (by omega),h n (fun x=>e x.symm)];omega
def unv (r:List Int) (n:Nat):Nat:=J3l (fun v=>decide (gI r v<0)) n
theorem J7i (r:List Int) (u v:Nat) (d:Int) (hu:u<r.length):gI (r.set u d) v=if v=u then d else gI r v:=by
 simp only[gI,List.getD,List.getElem?_set];by_cases h:u=v
 . subst h;simp[hu]
 . have:¬ v=u:=fun e=>h e.symm;simp[h,this]
structure BI (p:Pt) (f:Nat) (q:List Nat) (r:List Int):Prop where
 len:r.length=p.length
 low:∀v,v<p.length->-1<=gI r v
 from_:gI r f=0
 back:∀v,v<p.length->v≠f->0<=gI r v->∃l∈gR p v,gI r l.1.toNat=gI r v-1/\0<=gI r l.1.toNat
 qn:∀u∈q,u<p.length/\0<=gI r u
 sorted:q.Pairwise fun a b=>gI r a<=gI r b
structure BO (p:Pt) (f:Nat) (q:List Nat) (r:List Int):Prop extends BI p f q r where
 top:∀u∈q,∀v,v<p.length->gI r v<=gI r u+1
 done:∀v,v<p.length->0<=gI r v->v∉q->∀l∈gR p v,0<=gI r l.1.toNat/\gI r l.1.toNat<=gI r v+1
structure BP (p:Pt) (f v i:Nat) (q:List Nat) (r:List Int):Prop extends BI p f q r where
 vn:v<p.length/\0<=gI r v
 most:∀x,x<p.length->gI r x<=gI r v+1
 least:∀u∈q,gI r v<=gI r u
 done:∀x,x<p.length->0<=gI r x->x∉q->x≠v->∀l∈gR p x,0<=gI r l.1.toNat/\gI r l.1.toNat<=gI r x+1
 seen:∀l∈(gR p v).take i,0<=gI r l.1.toNat
theorem BO.pop {p:Pt} {f v:Nat} {q:List Nat} {r:List Int} (h:BO p f (v::q) r):BP p f v 0 q r where
 len:=h.len
 low:=h.low
 from_:=h.from_
 back:=h.back
 qn:=fun u hu=>h.qn u (by simp[hu])
 sorted:=(List.pairwise_cons.1 h.sorted).2
 vn:=h.qn v (by simp)
 most:=h.top v (by simp)
 least:=(List.pairwise_cons.1 h.sorted).1
 done:=fun x hx h0 hq hv=>h.done x hx h0 (by simp only[List.mem_cons,not_or];exact⟨hv,hq⟩)
 seen:=by simp
theorem BP.fin {p:Pt} {f v i:Nat} {q:List Nat} {r:List Int} (hu:Und p) (h:BP p f v i q r) (hi:(gR p v).length<=i):BO p f q r where
 toBI:=h.toBI
 top:=fun u hu x hx=>by have:=h.least u hu;have:=h.most x hx;omega
 done:=fun x hx h0 hq=>by
  by_cases e:x=v
  . subst e;intro l hl;refine⟨h.seen l (by rw[List.take_of_length_le hi];exact hl),h.most _ (hu.rng x hx l hl)⟩
  . exact h.done x hx h0 hq e
theorem BP.skip {p:Pt} {f v i:Nat} {q:List Nat} {r:List Int} (h:BP p f v i q r) (hi:i<(gR p v).length) (h0:0<=gI r (toN p v i)):BP p f v (i+1) q r where
 toBI:=h.toBI
 vn:=h.vn
 most:=h.most
 least:=h.least
 done:=h.done
 seen:=fun l hl=>by
  rw[J1D _ i hi] at hl;rcases List.mem_append.1 hl with h1|h1
  . exact h.seen l h1
  . simp at h1;rw[h1];exact h0
theorem BP.visit {p:Pt} {f v i:Nat} {q:List Nat} {r:List Int} (hu:Und p) (h:BP p f v i q r) (hi:i<(gR p v).length) (h0:gI r (toN p v i)<0) :
 BP p f v (i+1) (q++[toN p v i]) (r.set (toN p v i) (gI r v+1))/\unv r p.length=unv (r.set (toN p v i) (gI r v+1)) p.length+1:=by
 obtain⟨hv,hv0⟩:=h.vn;have hun:toN p v i<p.length:=hu.rng v hv _ (J02 hi);obtain⟨m,hm,hmv⟩:=hu.sym v hv _ (J02 hi);have hg:=fun x=>J7i r (toN p v i) x (gI r v+1) (by rw[h.len];exact hun);change m∈gR p (toN p v i) at hm;have hlast:(gF (gR p v) i).1.toNat=toN p v i:=rfl;generalize toN p v i=u at *;have hvu:v≠u:=fun e=>by subst e;omega
 have keep:∀x,0<=gI r x->gI (r.set u (gI r v+1)) x=gI r x:=fun x hx=>by
  rw[hg,if_neg (fun e=>by subst e;omega)]
 have hle:∀x,x<p.length->gI (r.set u (gI r v+1)) x<=gI r v+1:=fun x hx=>by
  rw[hg];split
  . omega
  . exact h.most x hx
 refine⟨{ len:=by simp[h.len],low:=?_,from_:=?_,back:=?_,qn:=?_,sorted:=?_,vn:=?_,most:=?_,least:=?_,done:=?_,seen:=?_ },?_⟩
 . intro x hx;rw[hg];split
   . omega
   . exact h.low x hx
 . rw[keep f (by rw[h.from_];omega)];exact h.from_
 . intro x hx hxf hx0;by_cases e:x=u
   . subst e;refine⟨m,hm,?_⟩;rw[hmv,keep v hv0,hg,if_pos rfl];omega
   . rw[hg,if_neg e] at hx0 ⊢;obtain⟨l,hl,a,b⟩:=h.back x hx hxf hx0;exact⟨l,hl,by rw[keep _ b];exact a,by rw[keep _ b];exact b⟩
 . intro w hw;rcases List.mem_append.1 hw with h1|h1
   . obtain⟨a,b⟩:=h.qn w h1;exact⟨a,by rw[keep w b];exact b⟩
   . simp at h1;subst h1;exact⟨hun,by rw[hg,if_pos rfl];omega⟩
 . rw[List.pairwise_append];refine⟨h.sorted.imp_of_mem fun {a b} ha hb hab=>?_,by simp,fun a ha b hb=>?_⟩
   . rw[keep a (h.qn a ha).2,keep b (h.qn b hb).2];exact hab
   . simp at hb;subst hb;rw[keep a (h.qn a ha).2,hg,if_pos rfl];exact h.most a (h.qn a ha).1
 . exact⟨hv,by rw[keep v hv0];exact hv0⟩
 . intro x hx;rw[keep v hv0];exact hle x hx
 . intro w hw;rw[keep v hv0];rcases List.mem_append.1 hw with h1|h1
   . rw[keep w (h.qn w h1).2];exact h.least w h1
   . simp at h1;subst h1;rw[hg,if_pos rfl];omega
 . intro x hx hx0 hq hxv l hl;have hxu:x≠u:=fun e=>hq (by simp[e]);rw[hg,if_neg hxu] at hx0;rw[keep x hx0];obtain⟨a,b⟩:=h.done x hx hx0 (fun e=>hq (by simp[e])) hxv l hl;rw[keep _ a];exact⟨a,b⟩
 . intro l hl;rw[J1D _ i hi] at hl;rcases List.mem_append.1 hl with h1|h1
   . rw[keep _ (h.seen l h1)];exact h.seen l h1
   . simp at h1;rw[h1,hlast,hg,if_pos rfl];omega
 . refine J6j (u:=u) (by simpa using h0) (by rw[hg,if_pos rfl];simp;omega) (fun x hx=>?_) hun;show decide _=decide _;rw[hg,if_neg hx]
theorem BO.found {p:Pt} {f:Nat} {r:List Int} (h:BO p f [] r):J7X p f (gI r) where
 low:=h.low
 from_:=h.from_
 back:=h.back
 on:=fun v hv h0 l hl=>h.done v hv h0 (by simp) l hl
end Go.Proofs.YtefdkgkojlflaaaGreatDoor
namespace Go.Proofs.YtefdkgkojlflaaaGreatDoor
open Go.Eng
set_option maxRecDepth 100000
set_option linter.unusedVariables false
theorem J9S {g:G} (hg:g.valid=true):Und g.ports:=by
 obtain⟨f1,f2,f3,f4,f5,f6,f7⟩:=J0a hg;refine⟨fun v hv l hl=>?_,fun v hv l hl=>⟨_,f7 v hv l hl,by simp⟩⟩;have h:=f6 v hv;rw[okR,Bool.and_eq_true,List.all_eq_true] at h;have:=h.1 _ hl;rw[okL,decide_eq_true_eq] at this;omega
def dst (g:G) (f:Nat):List Int:=(List.range g.ports.length).map (lay g.ports f (g.ports.length-1))
theorem J3z (g:G) (f:Nat):(dst g f).length=g.ports.length:=by simp[dst]
theorem Q10 (g:G) (f:Nat) {v:Nat} (hv:v<g.ports.length):gI (dst g f) v=lay g.ports f (g.ports.length-1) v:=by
 simp[dst,gI,hv]
theorem J2k {g:G} (hg:g.valid=true) (v:Nat):(gR g.ports v).length<=24:=by
 obtain⟨f1,f2,f3,f4,f5,f6,f7⟩:=J0a hg;by_cases h:v<g.ports.length
 . have:=J6Z h (f6 v h);omega
 . rw[show gR g.ports v=[] by simp only[gR,List.getD];rw[List.getElem?_eq_none (by omega)];rfl];simp
theorem Q1L {n v:Nat} {r:List (Int×Int)} (h:okR n v r=true) {i:Nat} (hi:i<r.length):0<=(gF r i).1/\(gF r i).1<n:=by
 rw[okR,Bool.and_eq_true,List.all_eq_true] at h;have:=h.1 _ (J02 hi);rw[okL,decide_eq_true_eq] at this;exact⟨this.1,this.2.1⟩
def vN (l:List Nat):Nat->Nat->V:=fun i _=>.int .i64 (l.getD i 0:Nat)
def X4j (j:Nat):Nat->Nat->V:=fun i _=>.int .i64 (if i<j then -1 else 0)
theorem Q7p (n j i t:Nat) (hi:i<n) (ht:t<1):VLe (J1R (X4j j) j 0 [.int .i64 (-1)] i t) (X4j (j+1) i t):=by
 obtain rfl:t=0:=by omega
 apply VLe.of_eq;by_cases h:i=j
 . subst h;simp[J1R,X4j]
 . have h1:(i<j+1)=(i<j):=by simp;omega
   simp[J1R,X4j,h,h1]
theorem Q5A (r:List Int) (u i t:Nat) (d:Int) (hu:u<r.length) (ht:t<1):VLe (J1R (vI r) u 0 [.int .i64 d] i t) (vI (r.set u d) i t):=by
 obtain rfl:t=0:=by omega
 apply VLe.of_eq;simp only[J1R,vI,J7i r u i d hu];by_cases h:i=u
 . subst h;simp
 . simp[h]
theorem X4g (n f i t:Nat) (hf:f<n) (hi:i<n) (ht:t<1):VLe (J1R (X4j n) f 0 [.int .i64 0] i t) (vI ((List.replicate n (-1)).set f 0) i t):=by
 obtain rfl:t=0:=by omega
 apply VLe.of_eq;simp only[J1R,vI];rw[J7i _ _ _ _ (by simpa using hf)];by_cases h:i=f
 . subst h;simp
 . rw[if_neg (by simp[h]),if_neg h];simp[X4j,hi,gI]
theorem Q19 (p:Nat->Bool):∀n,J3l p n<=n
 | 0=>Nat.le_refl _
 | n+1=>by have:=Q19 p n;rw[J3l];split<;>omega
theorem X1A {p:Pt} (hu:Und p) {f:Nat} (hf:f<p.length):BO p f [f] ((List.replicate p.length (-1)).set f 0):=by
 have hg:=fun x=>J7i (List.replicate p.length (-1)) f x 0 (by simpa using hf);have hr:∀x,x<p.length->gI (List.replicate p.length (-1)) x=-1:=fun x hx=>by simp[gI,hx]
 have hv:∀x,x<p.length->x≠f->gI ((List.replicate p.length (-1)).set f 0) x=-1:=fun x hx h=>by rw[hg,if_neg h,hr x hx]
 have h0:gI ((List.replicate p.length (-1)).set f 0) f=0:=by rw[hg,if_pos rfl]
 refine { len:=by simp,low:=fun x hx=>?_,from_:=h0,back:=fun x hx hxf h=>?_,qn:=fun u hu=>?_,sorted:=by simp,top:=fun u hu x hx=>?_,done:=fun x hx h hq=>?_ }
 . by_cases e:x=f
   . subst e;rw[h0];decide
   . rw[hv x hx e];decide
 . rw[hv x hx hxf] at h;omega
 . simp at hu;subst hu;exact⟨hf,by rw[h0];decide⟩
 . simp at hu;subst hu;rw[h0];by_cases e:x=u
   . subst e;rw[h0];decide
   . rw[hv x hx e];decide
 . have:x≠f:=by simpa using hq
   rw[hv x hx this] at h;omega
theorem Q4y (lo:Nat) (f:Nat->Nat->V) (i j:Nat):J0h lo f i j=f (lo+i) j:=by
 cases lo with
 | zero=>simp[J0h]
 | succ n=>simp[J0h]
theorem Q9j (Q:List Nat) (lo u i t:Nat) (hlo:lo<=Q.length) (hi:i<Q.length-lo+1) (ht:t<1) :
 VLe (J4o (J0h lo (vN Q)) (Q.length-lo) (J0h 0 (tab [[.int .i64 (u:Int)]])) i t) (vN (Q.drop lo++[u]) i t):=by
 obtain rfl:t=0:=by omega
 apply VLe.of_eq;by_cases h:i<Q.length-lo
 . rw[J1E h];simp only[Q4y,vN];have:(Q.drop lo++[u]).getD i 0=Q.getD (lo+i) 0:=by
    rw[List.getD_eq_getElem?_getD,List.getD_eq_getElem?_getD,List.getElem?_append_left (by simpa using h),List.getElem?_drop]
   rw[this]
 . rw[J1F h];have:i=Q.length-lo:=by omega
   subst this;simp[J0h,tab,vN]
theorem X4h {n f:Nat} (hf:f<n):∀y,y<n->gI ((List.replicate n (-1)).set f 0) y+unv ((List.replicate n (-1)).set f 0) n<n:=by
 have hg:=fun x=>J7i (List.replicate n (-1)) f x 0 (by simpa using hf);have h1:unv ((List.replicate n (-1)).set f 0) n+1<=n:=by
  have:=J6j (p:=fun _=>true) (q:=fun v=>decide (v≠f)) (u:=f) rfl (by simp) (fun v hv=>by simp[hv]) hf;have h2:unv ((List.replicate n (-1)).set f 0) n=J3l (fun v=>decide (v≠f)) n:=J6k fun v hv=>by
   rw[hg];by_cases e:v=f
   . simp[e]
   . simp[e,gI,hv]
  have h3:=Q19 (fun _=>true) n;omega
 intro y hy;rw[hg];split
 . omega
 . simp only[gI,List.getD,List.getElem?_replicate,hy,if_true,Option.getD_some];omega
theorem Q5D (Q:List Nat) (lo i t:Nat) (a:Int) (u:Nat) (hlo:lo<=Q.length) (hi:i<Q.length-lo+1) (ht:t<1) (hu:a=u) :
 VLe (J4o (J0h lo (vN Q)) (Q.length-lo) (J0h 0 (tab [[.int .i64 a]])) i t) (vN (Q.drop lo++[u]) i t):=by
 subst hu;exact Q9j Q lo u i t hlo hi ht
set_option maxHeartbeats 16000000 in
theorem Q56 (g:G) (hg:g.valid=true) (f:Nat) (hf:f<g.ports.length):Ret Tryz.prog 44 [g.v,.int .i64 f] (.fz (dst g f).length 1 false (vI (dst g f))):=by
 obtain⟨f1,f2,f3,f4,f5,f6,f7⟩:=J0a hg;have hu:=J9S hg;refine J0f rfl ?_;refine J0b mixed Tryz.func44 rfl hc44 hr44 rfl ?_
 repeat' ((conv=>whnf);first|(refine Bd.q ?_)|(refine Len.q ?_)|(refine MkS.vec ?_))
 all_goals (conv=>whnf)
 refine J16 mixed [1,2,5,16] [] [2,3,4,5,6,7,8,9,10,11,12,13,14,15,16,17,18,19,20,21,22,23,24,25,26,27,28,29] [1,0] (fun j:Nat=>[(17,.int .i64 j)]) (fun j=>[(1,.vec g.ports.length 1 (X4j j)),(0,.cells [.fz g.ids.length 1 false (vI g.ids),.fz g.ports.length 1 false (vP g.ports)])]) (fun m j=>m=g.ports.length-j/\j<=g.ports.length) g.ports.length 0 ⟨rfl,Nat.zero_le _⟩ rfl (fun _=>rfl) ?_ ?_
 . refine J0e (fun _ _=>[(0,some 0),(1,some 1)]) ?_ ?_ rfl
   . repeat' (first|exact tI|(refine⟨⟨_,rfl,?_⟩,?_⟩)|exact J0c.kf rfl|exact J0c.loc rfl|exact J0c.q)
   . repeat' (first|exact⟨Nat.le_refl _,rfl,fun i j hi hj=>VLe.of_eq (by obtain rfl:j=0:=(by omega);rfl)⟩|exact tI|(refine⟨⟨_,rfl,?_⟩,?_⟩)|exact J0c.kf rfl|apply And.intro)
 rintro m j ⟨hm,hj⟩;by_cases hjn:j<g.ports.length
 . repeat' ((conv=>whnf);first|(refine Br.dec ?_ ?_<;>intro _<;>try omega)|(refine Ar.q ?_)|(refine Ix.q ?_)|(refine Ltn.q ?_))
   all_goals (conv=>whnf)
   refine⟨g.ports.length-(j+1),j+1,by omega,⟨rfl,by omega⟩,?_⟩;refine J0e (fun _ _=>[(0,some 0),(1,some 1)]) ?_ ?_ rfl
   . repeat' (first|exact tI|(refine⟨⟨_,rfl,?_⟩,?_⟩)|exact J0c.kf rfl|exact J0c.loc rfl|exact J0c.q)
   . repeat' (first|exact⟨Nat.le_refl _,rfl,fun i t hi ht=>by simp only[Nat.zero_add];exact Q7p _ _ _ _ hi ht⟩|exact tI|(refine⟨⟨_,rfl,?_⟩,?_⟩)|exact J0c.kf rfl|apply And.intro)
 . have ej:j=g.ports.length:=by omega
   subst ej
   repeat' ((conv=>whnf);first|(refine Br.dec ?_ ?_<;>intro _<;>try omega)|(refine Ix.q ?_)|(refine Ltn.q ?_))
   all_goals (conv=>whnf)
   refine J16 mixed [2,5] [2] [3,4,5,6,7,8,9,10,11,12,13,14,15,16,17,18,19,20,21,22,23,24,25,26,27,28,29] [2,1,0] (fun x:Nat×List Nat×List Int=>[(7,.vec 2 1 x.1 (x.2.1.length-x.1))]) (fun x=>[(2,.vec x.2.1.length 1 (vN x.2.1)),(1,.vec g.ports.length 1 (vI x.2.2)),(0,.cells [.fz g.ids.length 1 false (vI g.ids),.fz g.ports.length 1 false (vP g.ports)])])
    (fun m x=>m=2*unv x.2.2 g.ports.length+(x.2.1.length-x.1)/\x.1<=x.2.1.length/\x.2.1.length<=60/\m<=50/\BO g.ports f (x.2.1.drop x.1) x.2.2/\∀y,y<g.ports.length->gI x.2.2 y+unv x.2.2 g.ports.length<g.ports.length) _ (0,[f],(List.replicate g.ports.length (-1)).set f 0) ⟨rfl,by simp,by simp,?_,X1A hu hf,X4h hf⟩ rfl (fun _=>rfl) ?_ ?_
   . have:=Q19 (fun v=>decide (gI ((List.replicate g.ports.length (-1)).set f 0) v<0)) g.ports.length;simp only[unv,List.length_cons,List.length_nil];omega
   . refine J0e (fun _ _=>[(0,some 0),(1,some 1),(2,some 2)]) ?_ ?_ rfl
     . repeat' (first|exact tI|(refine⟨⟨_,rfl,?_⟩,?_⟩)|exact J0c.loc rfl|exact J0c.q)
     . repeat' (first|exact⟨Nat.le_refl _,rfl,fun i t hi ht=>by simp only[Nat.zero_add];exact X4g _ _ _ _ hf hi ht⟩|exact⟨Nat.le_refl _,rfl,fun i t hi ht=>VLe.of_eq (by obtain rfl:i=0:=(by simpa using hi);obtain rfl:t=0:=(by omega);rfl)⟩|exact tI|(refine⟨⟨_,rfl,?_⟩,?_⟩)|exact J0c.kf rfl|apply And.intro)
   rintro m ⟨lo,Q,r⟩ ⟨hm,hlo,hQ,hm50,hbo,hbd⟩;simp only at hm hlo hQ hbo hbd ⊢;by_cases hq:lo<Q.length
   . obtain⟨v,hv⟩:∃v,Q.getD lo 0=v:=⟨_,rfl⟩;have hdrop:Q.drop lo=v::Q.drop (lo+1):=by
      rw[List.drop_eq_getElem_cons hq,<- hv];simp[hq]
     rw[hdrop] at hbo;have hbp:=hbo.pop;obtain⟨hvn,hv0⟩:=hbp.vn;have hrl:=J2k hg v;have hlen:=hbp.len;have hQv:vN Q lo 0=.int .i64 (v:Int):=by simp only[vN,hv]
     have hQ0:Q.getD (lo+0) 0=v:=hv
     repeat' ((conv=>whnf);first|(refine Ix.w v ?_)|(refine Br.dec ?_ ?_<;>intro _<;>try omega)|(refine Br.nble ?_ ?_<;>intro _<;>try omega)|(refine Ix.mk 0 rfl (by omega) ?_)|(refine Bd.mk 1 rfl (by omega) ?_)|(refine Ltn.q ?_))
     all_goals (conv=>whnf)
     refine J16 mixed [2,5,8,41,42] [2] [3,4,5,6,7,8,9,10,11,12,13,14,15,16,17,18,19,20,21,22,23,24,25,26,27,28,29] [2,1,0] (fun x:Nat×Nat×List Nat×List Int=>[(7,.vec 2 1 x.2.1 (x.2.2.1.length-x.2.1)),(43,.int .i64 x.1)]) (fun x=>[(2,.vec x.2.2.1.length 1 (vN x.2.2.1)),(1,.vec g.ports.length 1 (vI x.2.2.2)),(0,.cells [.fz g.ids.length 1 false (vI g.ids),.fz g.ports.length 1 false (vP g.ports)])])
      (fun k x=>k=(gR g.ports v).length-x.1/\x.1<=(gR g.ports v).length/\x.2.1<=x.2.2.1.length/\x.2.2.1.length<=60/\2*unv x.2.2.2 g.ports.length+(x.2.2.1.length-x.2.1)<m/\BP g.ports f v x.1 (x.2.2.1.drop x.2.1) x.2.2.2/\∀y,y<g.ports.length->gI x.2.2.2 y+unv x.2.2.2 g.ports.length<g.ports.length) _ (0,lo+1,Q,r) ⟨rfl,by simp,by simp only;omega,hQ,by simp only;omega,hbp,hbd⟩ rfl (fun _=>rfl) ?_ ?_
     . exact J0l (fun _ _=>[(0,some 0),(1,some 1),(2,some 2)])
     rintro k ⟨i,lo2,Q2,r2⟩ ⟨hk,hi,hlo2,hQ2,hm2,hbp2,hbd2⟩;simp only at hk hi hlo2 hQ2 hm2 hbp2 hbd2 ⊢;obtain⟨_,hv2⟩:=hbp2.vn;have hlen2:=hbp2.len;have hvb:0<=gI r2 (0+v)/\gI r2 (0+v)<=24:=by rw[Nat.zero_add];have:=hbd2 v hvn;omega
     by_cases hil:i<(gR g.ports v).length
     . have hr:=Q1L (f6 v hvn) hil;have hr':toN g.ports v i<g.ports.length:=by show(gF (gR g.ports v) i).1.toNat<_;omega
       by_cases hneg:gI r2 (gF (gR g.ports v) i).1.toNat<0
       . obtain⟨hbp3,hun⟩:=hbp2.visit hu hil hneg;have hneg2:gI r2 (0+(gF (gR g.ports v) i).1.toNat)<0:=by rw[Nat.zero_add];exact hneg
         repeat' ((conv=>whnf);first|(refine Ix.w v ?_)|(refine Br.dec ?_ ?_<;>intro _<;>try omega)|(refine Br.nbeq ?_ ?_<;>intro _<;>try omega)|(refine Ar.q ?_)|(refine Ix.q ?_)|(refine Ix.int (by omega) (by omega) ?_)|(refine Len.q ?_)|(refine Ltn.q ?_))
         all_goals (conv=>whnf)
         have hdl:(Q2.drop lo2++[toN g.ports v i]).length=Q2.length-lo2+1:=by simp
         refine⟨(gR g.ports v).length-(i+1),(i+1,0,Q2.drop lo2++[toN g.ports v i],r2.set (toN g.ports v i) (gI r2 v+1)),by omega,⟨rfl,by simp only;omega,by simp,by simp only[hdl];omega,by simp only[hdl];omega,hbp3,fun y hy=>?_⟩,?_⟩
         . have hb:=hbd2 y hy;have hb2:=hbd2 v hvn;simp only;rw[J7i _ _ _ _ (by rw[hlen2];exact hr')];split<;>omega
         simp only[hdl];refine J0e (fun env own=>[(0,some 0),(1,some 1),(2,Q8Z env 66)]) ?_ ?_ rfl
         . repeat' (first|exact tI|(refine⟨⟨_,rfl,?_⟩,?_⟩)|exact J0c.kf rfl|exact J0c.loc rfl|exact J0c.q)
         . repeat' (first|exact⟨Nat.le_refl _,rfl,fun a t ha ht=>by simp only[Nat.zero_add];exact Q5A _ _ _ _ _ (by rw[hlen2];exact hr') ht⟩|exact⟨by omega,rfl,fun a t ha ht=>Q5D _ _ _ _ _ _ hlo2 ha ht (show(gF (gR g.ports v) i).1=((gF (gR g.ports v) i).1.toNat:Nat) by omega)⟩|exact tI|(refine⟨⟨_,rfl,?_⟩,?_⟩)|exact J0c.kf rfl|apply And.intro)
       . have hneg2:¬ gI r2 (0+(gF (gR g.ports v) i).1.toNat)<0:=by rw[Nat.zero_add];exact hneg
         have hbp3:=hbp2.skip hil (show 0<=gI r2 (gF (gR g.ports v) i).1.toNat by omega)
         repeat' ((conv=>whnf);first|(refine Br.dec ?_ ?_<;>intro _<;>try omega)|(refine Ar.q ?_)|(refine Ix.q ?_)|(refine Ix.int (by omega) (by omega) ?_)|(refine Ltn.q ?_))
         all_goals (conv=>whnf)
         refine⟨(gR g.ports v).length-(i+1),(i+1,lo2,Q2,r2),by omega,⟨rfl,by simp only;omega,hlo2,hQ2,hm2,hbp3,hbd2⟩,?_⟩;exact J0l (fun env own=>[(0,some 0),(1,some 1),(2,some 2)])
     . have hfin:=hbp2.fin hu (by omega)
       repeat' ((conv=>whnf);first|(refine Br.dec ?_ ?_<;>intro _<;>try omega))
       all_goals (conv=>whnf)
       refine⟨_,(lo2,Q2,r2),hm2,⟨rfl,hlo2,hQ2,by omega,hfin,hbd2⟩,?_⟩;exact J0l (fun env own=>[(0,some 0),(1,some 1),(2,some 2)])
   . have e:lo=Q.length:=by omega
     subst e;rw[List.drop_length] at hbo;have hfd:=hbo.found;have hlen:=hbo.len
     repeat' ((conv=>whnf);first|(refine Br.dec ?_ ?_<;>intro _<;>try omega)|(refine Len.q ?_))
     all_goals (conv=>whnf)
     refine VLe.fz (J3z g f).symm (fun h=>h) (fun i t hi ht=>VLe.of_eq ?_);rw[Q4y];simp only[vI,Nat.zero_add];rw[Q10 g f hi,hfd.eq hu hf hi]
end Go.Proofs.YtefdkgkojlflaaaGreatDoor
namespace Go.Proofs.YtefdkgkojlflaaaGreatDoor
open Go.Eng
set_option maxRecDepth 100000
set_option linter.unusedVariables false
theorem J6b (p:Pt) (f:Nat):∀k v,-1<=lay p f k v/\lay p f k v<=k
 | 0,v=>by rw[lay];split<;>omega
 | k+1,v=>by
   have:=J6b p f k v;rw[lay];split
   . omega
   . split<;>omega
theorem J67 {p:Pt} {f k v:Nat} (h:0<=lay p f k v):∀m,lay p f (k+m) v=lay p f k v
 | 0=>rfl
 | m+1=>by
   have:=J67 h m;rw[<- Nat.add_assoc,lay,this,if_pos h]
theorem Q0B {p:Pt} {f:Nat}:∀{k v:Nat},0<=lay p f k v->lay p f (lay p f k v).toNat v=lay p f k v
 | 0,v,h=>by
   have:=J6b p f 0 v;have e:lay p f 0 v=0:=by omega
   rw[e];exact e
 | k+1,v,h=>by
   by_cases h0:0<=lay p f k v
   . have e:lay p f (k+1) v=lay p f k v:=by rw[lay,if_pos h0]
     rw[e];exact Q0B h0
   . have e:lay p f (k+1) v=(k:Int)+1:=by
      rw[lay,if_neg h0] at h ⊢;split at h
      . rename_i q;rw[if_pos q]
      . omega
     rw[e,show((k:Int)+1).toNat=k+1 by omega,e]
theorem Q4S {p:Pt} {f k m v:Nat} (h:0<=lay p f k v) (h':0<=lay p f m v):lay p f k v=lay p f m v:=by
 rcases Nat.le_total k m with q|q
 . have:=J67 h (m-k);rw[show k+(m-k)=m by omega] at this;exact this.symm
 . have:=J67 h' (k-m);rw[show m+(k-m)=k by omega] at this;exact this
theorem Q0C {p:Pt} {f:Nat}:∀{k v:Nat},0<=lay p f k v->v≠f->∃l∈gR p v,lay p f k l.1.toNat=lay p f k v-1/\0<=lay p f k l.1.toNat
 | 0,v,h,hv=>by rw[lay,if_neg hv] at h;omega
 | k+1,v,h,hv=>by
   by_cases h0:0<=lay p f k v
   . obtain⟨l,hl,a,b⟩:=Q0C h0 hv;have e1:lay p f (k+1) v=lay p f k v:=by rw[lay,if_pos h0]
     have e2:lay p f (k+1) l.1.toNat=lay p f k l.1.toNat:=by rw[lay,if_pos b]
     exact⟨l,hl,by rw[e1,e2];exact a,by rw[e2];exact b⟩
   . by_cases ha:(gR p v).any (fun l=>decide (lay p f k l.1.toNat=k))=true
     . have e1:lay p f (k+1) v=(k:Int)+1:=by rw[lay,if_neg h0,if_pos ha]
       rw[List.any_eq_true] at ha;obtain⟨l,hl,e⟩:=ha;have e:=of_decide_eq_true e;have e2:lay p f (k+1) l.1.toNat=k:=by rw[lay,if_pos (by omega)];exact e
       exact⟨l,hl,by rw[e1,e2];omega,by rw[e2];omega⟩
     . rw[lay,if_neg h0,if_neg ha] at h;omega
open Classical in
noncomputable def X0A (p:Pt) (f v:Nat):Int:=if h:∃k,0<=lay p f k v then lay p f (Classical.choose h) v else -1
theorem J68 {p:Pt} {f k v:Nat} (h:0<=lay p f k v):X0A p f v=lay p f k v:=by
 have hx:∃k,0<=lay p f k v:=⟨k,h⟩;rw[X0A,dif_pos hx];exact Q4S (Classical.choose_spec hx) h
theorem Q3q {p:Pt} {f v:Nat} (h:0<=X0A p f v):∃k,0<=lay p f k v/\X0A p f v=lay p f k v:=by
 by_cases hx:∃k,0<=lay p f k v
 . obtain⟨k,hk⟩:=hx;exact⟨k,hk,J68 hk⟩
 . rw[X0A,dif_neg hx] at h;omega
theorem X0z (p:Pt) (f v:Nat):-1<=X0A p f v:=by
 rw[X0A];split
 . exact(J6b p f _ v).1
 . omega
theorem Q4T {p:Pt} (f:Nat) (hu:Und p):J7X p f (X0A p f):=by
 have hf0:lay p f 0 f=0:=by rw[lay,if_pos rfl]
 refine⟨fun v _=>X0z p f v,by rw[J68 (k:=0) (by omega),hf0],fun v hv hvf h=>?_,fun v hv h l hl=>?_⟩
 . obtain⟨k,hk,e⟩:=Q3q h;obtain⟨l,hl,a,b⟩:=Q0C hk hvf;exact⟨l,hl,by rw[J68 b,e];exact a,by rw[J68 b];exact b⟩
 . obtain⟨k,hk,e⟩:=Q3q h;obtain⟨m,hm,em⟩:=hu.sym v hv l hl;have hs:=Q0B hk;have hd:((lay p f k v).toNat:Int)=lay p f k v:=by omega
   generalize (lay p f k v).toNat=d at *;have key:0<=lay p f (d+1) l.1.toNat:=by
    rw[lay];split
    . assumption
    . rw[if_pos (by rw[List.any_eq_true];exact⟨m,hm,by rw[em,hs,<- hd];simp⟩)];omega
   have hle:=(J6b p f (d+1) l.1.toNat).2;rw[J68 key,e,<- hd];omega
theorem J7v {g:G} (hg:g.valid=true):J7X g.ports 0 (fun v=>gI (dst g 0) v):=by
 obtain⟨f1,f2,f3,f4,f5,f6,f7⟩:=J0a hg;have hu:=J9S hg;have hF:=Q4T 0 hu;have he:∀v,v<g.ports.length->gI (dst g 0) v=X0A g.ports 0 v:=fun v hv=>by rw[Q10 g 0 hv];exact hF.eq hu (by omega) hv
 refine⟨fun v hv=>by rw[he v hv];exact hF.low v hv,by rw[he 0 (by omega)];exact hF.from_,fun v hv h0 h=>?_,fun v hv h l hl=>?_⟩
 . rw[he v hv] at h ⊢;obtain⟨l,hl,a,b⟩:=hF.back v hv h0 h;exact⟨l,hl,by rw[he _ (hu.rng v hv l hl)];exact a,by rw[he _ (hu.rng v hv l hl)];exact b⟩
 . rw[he v hv] at h ⊢;rw[he _ (hu.rng v hv l hl)];exact hF.on v hv h l hl
end Go.Proofs.YtefdkgkojlflaaaGreatDoor
namespace Go.Proofs.YtefdkgkojlflaaaGreatDoor
open Go.Eng
set_option maxRecDepth 100000
set_option linter.unusedVariables false
def X17 (l:List Int):Bool:=l.any fun a=>decide (a<0)
theorem J5o {l:List Int}:X17 l=false↔∀a∈l,0<=a:=by
 rw[X17,List.any_eq_false];constructor
 . intro h a ha;have:=h a ha;simp at this;omega
 . intro h a ha;have:=h a ha;simp;omega
def X55 (l:List Int):Int:=if X17 l then -1 else J4i l (-1)
theorem X3J (l:List Int) (hl:l.length<=1000):Ret Tryz.prog 52 [.fz l.length 1 false (vI l)] (.int .i64 (X55 l)):=by
 refine J0f rfl ?_;refine J0b mixed Tryz.func52 rfl hc52 hr52 rfl ?_
 repeat' ((conv=>whnf);first|fail)
 all_goals (conv=>whnf)
 refine J0V mixed [0] (fun i:Nat=>[(3,.int .i64 (J4i (l.take i) (-1))),(4,.int .i64 i)]) (fun m i=>m=l.length-i/\i<=l.length/\∀a∈l.take i,0<=a) l.length 0 ⟨rfl,Nat.zero_le _,by simp⟩ ?_ ?_
 . exact J0l (fun _ _=>[])
 rintro m i ⟨hm,hi,hall⟩
 repeat' ((conv=>whnf);first|(refine Br.dec ?_ ?_<;>intro _<;>try omega)|(refine Ar.q ?_)|(refine Sv.mk _ rfl ?_)|(refine Ix.q ?_))
 all_goals (conv=>whnf)
 . refine VLe.int ?_;rw[X55,if_pos];rw[X17,List.any_eq_true];exact⟨gI l i,J5U (by omega),by simp;omega⟩
 . refine⟨l.length-(i+1),i+1,by omega,⟨rfl,by omega,?_⟩,?_⟩
   . rw[J01 l i (by omega)];intro a ha;rcases List.mem_append.1 ha with h|h
     . exact hall a h
     . simp at h;omega
   . simp only[J01 l i (by omega),J3O];exact J0l (fun _ _=>[])
 . rw[List.take_of_length_le (by omega)] at hall ⊢;refine VLe.int ?_;rw[X55,J5o.2 hall,if_neg (by simp)]
def G.conn (g:G):Bool:=g.valid&&!X17 (dst g 0)
theorem Q16 (g:G) (hs:g.Small):Ret Tryz.prog 18 [g.v] (.bool g.conn):=by
 have hval:=Q2F g hs;refine J0f rfl ?_;refine J0b mixed Tryz.func18 rfl hc18 hr18 rfl ?_;rw[G.conn];by_cases hg:g.valid=true
 . obtain⟨f1,f2,f3,f4,f5,f6,f7⟩:=J0a hg;have hsr:=Q56 g hg 0 (by omega);have hdl:=J3z g 0;rw[hg] at hval ⊢;rw[Bool.true_and];generalize dst g 0=l at *
   repeat' ((conv=>whnf);first|(refine Br.tt ?_)|(refine hval.go ?_)|(refine hsr.go ?_))
   all_goals (conv=>whnf)
   refine J0V mixed [9,10] (fun i:Nat=>[(11,.int .i64 i)]) (fun m i=>m=l.length-i/\i<=l.length/\∀a∈l.take i,0<=a) l.length 0 ⟨rfl,Nat.zero_le _,by simp⟩ ?_ ?_
   . exact J0l (fun _ _=>[(0,some 0)])
   rintro m i ⟨hm,hi,hall⟩
   repeat' ((conv=>whnf);first|(refine Br.dec ?_ ?_<;>intro _<;>try omega)|(refine Ar.q ?_)|(refine Ix.q ?_))
   all_goals (conv=>whnf)
   . refine VLe.bool ?_;have:X17 l=true:=by
      rw[X17,List.any_eq_true];exact⟨gI l i,J5U (by omega),by simp;omega⟩
     rw[this];rfl
   . refine⟨l.length-(i+1),i+1,by omega,⟨rfl,by omega,?_⟩,?_⟩
     . rw[J01 l i (by omega)];intro a ha;rcases List.mem_append.1 ha with h|h
       . exact hall a h
       . simp at h;omega
     . exact J0l (fun _ _=>[(0,some 0)])
   . rw[List.take_of_length_le (by omega)] at hall;rw[J5o.2 hall];exact VLe.rfl
 . simp only[Bool.not_eq_true] at hg;rw[hg] at hval ⊢
   repeat' ((conv=>whnf);first|(refine Br.ff ?_)|(refine hval.go ?_))
   all_goals (conv=>whnf)
   all_goals exact VLe.rfl
theorem J0j {g:G} (h:g.conn=true):g.valid=true/\∀v,v<g.ports.length->0<=gI (dst g 0) v:=by
 simp only[G.conn,Bool.and_eq_true,Bool.not_eq_true'] at h;exact⟨h.1,fun v hv=>J5o.1 h.2 _ (J5U (by rw[J3z];exact hv))⟩
def Q6P (p:Pt) (f k v:Nat) (w:Int) (u:Nat):Int:=if u<v then lay p f (k+1) u else if u=v then w else lay p f k u
def Q9r (p:Pt) (f k v:Nat) (w:Int):Nat->Nat->V:=fun u _=>.int .i64 (Q6P p f k v w u)
theorem J9e (p:Pt) (f:Nat):∀k v,-1<=lay p f k v/\lay p f k v<=k
 | 0,v=>by rw[lay];split<;>omega
 | k+1,v=>by
   have:=J9e p f k v;rw[lay];split
   . omega
   . split<;>omega
theorem X0y (p:Pt) (f k u:Nat):lay p f (k+1) u=k↔lay p f k u=k:=by
 have:=J9e p f k u;rw[lay];split
 . exact Iff.rfl
 . split<;>omega
def J57 (p:Pt) (f k v i:Nat):Int:=if 0<=lay p f k v then lay p f k v else if ((gR p v).take i).any (fun l=>decide (lay p f k l.1.toNat=k)) then (k:Int)+1 else -1
theorem X0m (p:Pt) (f k v:Nat):J57 p f k v 0=lay p f k v:=by
 have:=J9e p f k v;rw[J57];split
 . rfl
 . simp;omega
theorem X35 (p:Pt) (f k v i:Nat) (h:(gR p v).length<=i):J57 p f k v i=lay p f (k+1) v:=by
 rw[J57,lay,List.take_of_length_le h]
theorem X0o {p:Pt} {f k v i j:Nat} (h:0<=J57 p f k v i) (hij:i<=j):J57 p f k v j=J57 p f k v i:=by
 rw[J57,J57] at *;split
 . rfl
 . rename_i h0;rw[if_neg h0] at h;split at h
   . rename_i h1;rw[List.any_eq_true] at h1;obtain⟨l,hl,e⟩:=h1;have:((gR p v).take j).any (fun l=>decide (lay p f k l.1.toNat=k))=true:=by
      rw[List.any_eq_true];exact⟨l,(List.take_sublist_take_left hij).mem hl,e⟩
     rw[if_pos this,if_pos];rw[List.any_eq_true];exact⟨l,hl,e⟩
   . omega
theorem X0p {p:Pt} {f k v i:Nat} (hi:i<(gR p v).length) (h:J57 p f k v i<0):J57 p f k v (i+1)=if lay p f k (toN p v i)=k then (k:Int)+1 else -1:=by
 have h0:¬ 0<=lay p f k v:=fun h0=>by rw[J57,if_pos h0] at h;omega
 rw[J57,if_neg h0] at h ⊢;rw[J1D _ i hi,List.any_append];have h1:((gR p v).take i).any (fun l=>decide (lay p f k l.1.toNat=k))=false:=by
  cases e:((gR p v).take i).any (fun l=>decide (lay p f k l.1.toNat=k)) with
  | false=>rfl
  | true=>rw[e,if_pos rfl] at h;omega
 rw[h1];by_cases e:lay p f k (toN p v i)=k
 . rw[if_pos e,if_pos (by simpa[toN] using e)]
 . rw[if_neg e,if_neg (by simpa[toN] using e)]
theorem J63 (p:Pt) (f k u:Nat) (w:Int) (hw:w=lay p f k 0):Q6P p f k 0 w u=lay p f k u:=by
 rw[Q6P,if_neg (by omega)];split
 . rename_i e;rw[e];exact hw
 . rfl
theorem X0l (p:Pt) (f k v u:Nat) (w w':Int) (hw:w=lay p f (k+1) v) (hw':w'=lay p f k (v+1)):Q6P p f k v w u=Q6P p f k (v+1) w' u:=by
 simp only[Q6P];by_cases h1:u<v
 . rw[if_pos h1,if_pos (by omega)]
 . rw[if_neg h1];by_cases h2:u=v
   . subst h2;rw[if_pos rfl,if_pos (by omega)];exact hw
   . rw[if_neg h2,if_neg (by omega)];split
     . rename_i e;rw[e];exact hw'.symm
     . rfl
def X5D (p:Prop):Prop:=p
theorem Q9g (n i j:Nat) (hi:i<n+1) (hj:j<1):VLe (J4o (J0h 0 fun _ _=>.int .i64 (-1)) n (J0h 0 (tab [[.int .i64 (-1)]])) i j) (.int .i64 (-1)):=by
 obtain rfl:j=0:=by omega
 apply VLe.of_eq;by_cases h:i<n
 . rw[J1E h];rfl
 . rw[J1F h,show i-n=0 by omega];rfl
theorem Q9h (p:Pt) (f i j:Nat) (hj:j<1):VLe (J1R (fun _ _=>.int .i64 (-1)) (0+f) 0 [.int .i64 0] i j) (Q9r p f 0 0 (lay p f 0 0) i j):=by
 obtain rfl:j=0:=by omega
 apply VLe.of_eq;simp only[J1R,Q9r];rw[J63 p f 0 i _ rfl,lay,Nat.zero_add];by_cases h:i=f
 . subst h;simp
 . rw[if_neg (by simp[h]),if_neg h]
theorem X6F {p:Pt} {f k v u:Nat} {w:Int} (h:u≠v):(Q6P p f k v w u=k↔lay p f k u=k):=by
 rw[Q6P];split
 . exact X0y p f k u
 . first
    | exact Iff.rfl
    | rw[if_neg h]
theorem X6r {n v:Nat} {r:List (Int×Int)} (h:okR n v r=true) {i:Nat} (hi:i<r.length):(gF r i).1.toNat≠v:=by
 rw[okR,Bool.and_eq_true,List.all_eq_true] at h;have:=h.1 _ (J02 hi);rw[okL,decide_eq_true_eq] at this;omega
theorem X34 (p:Pt) (f k v i:Nat):-1<=J57 p f k v i/\J57 p f k v i<=k+1:=by
 have:=J9e p f k v;rw[J57]
 repeat' split
 all_goals omega
theorem Q4m (p:Pt) (f k v:Nat) (w w':Int) (a t:Nat) (ht:t<1):VLe (J1R (Q9r p f k v w) v 0 [.int .i64 w'] a t) (Q9r p f k v w' a t):=by
 obtain rfl:t=0:=by omega
 apply VLe.of_eq;simp only[J1R,Q9r,Q6P];by_cases h:a=v
 . subst h;simp
 . rw[if_neg (by simp[h]),if_neg h];simp[h]
set_option maxHeartbeats 16000000 in
theorem Q90 (g:G) (hs:g.Small) (hg:g.valid=true) (f:Nat) (hf:f<g.ports.length):Ret Tryz.prog 53 [g.v,.int .i64 f] (.fz (dst g f).length 1 false (vI (dst g f))):=by
 obtain⟨f1,f2,f3,f4,f5,f6,f7⟩:=J0a hg;have hval:=J6J g hs;rw[hg] at hval;have hin:=Q7q f 0 ((g.ports.length:Int)-1);rw[decide_eq_true (by omega)] at hin;refine J0f rfl ?_;refine J0b mixed Tryz.func53 rfl hc53 hr53 rfl ?_
 repeat' ((conv=>whnf);first|(refine Br.tt ?_)|(refine Ar.q ?_)|(refine hval.go ?_)|(refine hin.go ?_))
 all_goals (conv=>whnf)
 refine J0N mixed [1,2,5] [1] [2,3,4,5,6,7,8,9,10,11,12,13,14,15,16,17,18,19,20,21,22,23,24,25,26,27,28,29] [1,0] (fun v:Nat=>[(6,.vec 1 1 0 v),(7,.int .i64 v)]) (fun own v=>(1,.vec v 1 (fun _ _=>.int .i64 (-1)))::own) (fun m v=>m=g.ports.length-v/\v<=g.ports.length) g.ports.length 0 ⟨rfl,Nat.zero_le _⟩ rfl (fun _=>rfl) ?_ ?_
 . exact J0l (fun _ _=>[(0,some 0),(1,none)])
 rintro m v ⟨hm,hv⟩;by_cases hvn:v<g.ports.length
 . repeat' ((conv=>whnf);first|(refine Br.dec ?_ ?_<;>intro _<;>try omega)|(refine Br.nbeq ?_ ?_<;>intro _<;>try omega)|(refine Ar.q ?_)|(refine Len.q ?_))
   all_goals (conv=>whnf)
   all_goals
    refine⟨g.ports.length-(v+1),v+1,by omega,⟨rfl,by omega⟩,?_⟩;refine J0e (fun env own=>[(0,some 0),(1,Q8Z env 6)]) ?_ ?_ rfl
    . repeat' (first|exact tI|(refine⟨⟨_,rfl,?_⟩,?_⟩)|exact J0c.kf rfl|exact J0c.loc rfl|exact J0c.q)
    . repeat' (first|(refine⟨Nat.le_refl _,rfl,fun i j hi hj=>?_⟩)|exact Q9g _ _ _ hi hj|exact tI|(refine⟨⟨_,rfl,?_⟩,?_⟩)|exact J0c.kf rfl|apply And.intro)
 . have ev:v=g.ports.length:=by omega
   subst ev
   repeat' ((conv=>whnf);first|(refine Br.dec ?_ ?_<;>intro _<;>try omega)|(refine Ix.q ?_)|(refine Ltn.q ?_))
   all_goals (conv=>whnf)
   refine J16 mixed [2,5,6] [] [2,3,4,5,6,7,8,9,10,11,12,13,14,15,16,17,18,19,20,21,22,23,24,25,26,27,28,29] [1,0] (fun k:Nat=>[(8,.int .i64 ((k:Int)+1))]) (fun k=>[(1,.vec g.ports.length 1 (Q9r g.ports f k 0 (lay g.ports f k 0))),(0,.cells [.fz g.ids.length 1 false (vI g.ids),.fz g.ports.length 1 false (vP g.ports)])]) (fun m k=>m=g.ports.length-1-k/\k<=g.ports.length-1) (g.ports.length-1) 0 ⟨rfl,Nat.zero_le _⟩ rfl (fun _=>rfl) ?_ ?_
   . refine J0e (fun _ _=>[(0,some 0),(1,some 1)]) ?_ ?_ rfl
     . repeat' (first|exact tI|(refine⟨⟨_,rfl,?_⟩,?_⟩)|exact J0c.kf rfl|exact J0c.loc rfl|exact J0c.q)
     . repeat' (first|exact⟨Nat.le_refl _,rfl,fun i j hi hj=>Q9h _ _ _ _ hj⟩|exact tI|(refine⟨⟨_,rfl,?_⟩,?_⟩)|exact J0c.kf rfl|apply And.intro)
   rintro m k ⟨hm,hk⟩;by_cases hkn:k<g.ports.length-1
   . repeat' ((conv=>whnf);first|(refine Br.dec ?_ ?_<;>intro _<;>try omega))
     all_goals (conv=>whnf)
     refine J16 mixed [2,5,6,8] [] [2,3,4,5,6,7,8,9,10,11,12,13,14,15,16,17,18,19,20,21,22,23,24,25,26,27,28,29] [1,0] (fun v:Nat=>[(9,.int .i64 v)]) (fun v=>[(1,.vec g.ports.length 1 (Q9r g.ports f k v (lay g.ports f k v))),(0,.cells [.fz g.ids.length 1 false (vI g.ids),.fz g.ports.length 1 false (vP g.ports)])]) (fun m v=>m=g.ports.length-v/\v<=g.ports.length) g.ports.length 0 ⟨rfl,Nat.zero_le _⟩ rfl (fun _=>rfl) ?_ ?_
     . exact J0l (fun _ _=>[(0,some 0),(1,some 1)])
     rintro m v ⟨hm,hv⟩;by_cases hvn:v<g.ports.length
     . have hrl:=J2k hg v
       repeat' ((conv=>whnf);first|(refine Br.dec ?_ ?_<;>intro _<;>try omega))
       all_goals (conv=>whnf)
       refine J16 mixed [2,5,6,8,9] [] [2,3,4,5,6,7,8,9,10,11,12,13,14,15,16,17,18,19,20,21,22,23,24,25,26,27,28,29] [1,0] (fun i:Nat=>[(10,.int .i64 i)]) (fun i=>[(1,.vec g.ports.length 1 (Q9r g.ports f k v (J57 g.ports f k v i))),(0,.cells [.fz g.ids.length 1 false (vI g.ids),.fz g.ports.length 1 false (vP g.ports)])]) (fun m i=>m=(gR g.ports v).length-i/\i<=(gR g.ports v).length) (gR g.ports v).length 0 ⟨rfl,Nat.zero_le _⟩ rfl (fun _=>rfl) ?_ ?_
       . refine J0e (fun _ _=>[(0,some 0),(1,some 1)]) ?_ ?_ rfl
         . repeat' (first|exact tI|(refine⟨⟨_,rfl,?_⟩,?_⟩)|exact J0c.kf rfl|exact J0c.loc rfl|exact J0c.q)
         . repeat' (first|exact⟨Nat.le_refl _,rfl,fun i j hi hj=>VLe.of_eq (by rw[X0m])⟩|exact tI|(refine⟨⟨_,rfl,?_⟩,?_⟩)|exact J0c.kf rfl|apply And.intro)
       rintro m i ⟨hm,hi⟩;have hml:=X34 g.ports f k v i;have hv0:Q6P g.ports f k v (J57 g.ports f k v i) (0+v)=J57 g.ports f k v i:=by rw[Nat.zero_add,Q6P,if_neg (by omega),if_pos rfl]
       have hfin:X5D ((¬ i<(gR g.ports v).length)\/0<=J57 g.ports f k v i->J57 g.ports f k v i=lay g.ports f (k+1) v):=fun h=>by
        rw[<- X35 g.ports f k v (gR g.ports v).length (Nat.le_refl _)];rcases h with h|h
        . rw[show i=(gR g.ports v).length by omega]
        . exact(X0o h hi).symm
       by_cases hgo:i<(gR g.ports v).length/\J57 g.ports f k v i<0
       . obtain⟨hil,hneg⟩:=hgo;have hr:=Q1L (f6 v hvn) hil;have hrn:=X6r (f6 v hvn) hil;have hat:=X6F (p:=g.ports) (f:=f) (k:=k) (w:=J57 g.ports f k v i) hrn;have hnx:=X0p hil hneg;rw[show toN g.ports v i=(gF (gR g.ports v) i).1.toNat from rfl] at hnx;rw[<- Nat.zero_add (gF (gR g.ports v) i).1.toNat] at hat;have hat:X5D _:=hat;have hnx:X5D _:=hnx
         repeat' ((conv=>whnf);first|(refine Br.dec ?_ ?_<;>intro _<;>try omega)|(refine Ar.q ?_)|(refine Ix.q ?_)|(refine Ix.int (by omega) (by omega) ?_)|(refine Ltn.q ?_))
         all_goals (conv=>whnf)
         . rename_i he;unfold X5D at hat hnx;rw[if_pos (by rw[<- Nat.zero_add (gF (gR g.ports v) i).1.toNat,<- hat];omega)] at hnx;refine⟨(gR g.ports v).length-(i+1),i+1,by omega,⟨rfl,by omega⟩,?_⟩;simp only[hnx];refine J0e (fun _ _=>[(0,some 0),(1,some 1)]) ?_ ?_ rfl
           . repeat' (first|exact tI|(refine⟨⟨_,rfl,?_⟩,?_⟩)|exact J0c.kf rfl|exact J0c.loc rfl|exact J0c.q)
           . repeat' (first|exact⟨Nat.le_refl _,rfl,fun a t ha ht=>by simp only[Nat.zero_add];exact Q4m _ _ _ _ _ _ _ _ ht⟩|exact tI|(refine⟨⟨_,rfl,?_⟩,?_⟩)|exact J0c.kf rfl|apply And.intro)
         . rename_i he;unfold X5D at hat hnx;rw[if_neg (by rw[<- Nat.zero_add (gF (gR g.ports v) i).1.toNat,<- hat];omega)] at hnx;refine⟨(gR g.ports v).length-(i+1),i+1,by omega,⟨rfl,by omega⟩,?_⟩;rw[show J57 g.ports f k v i=-1 by omega];simp only[hnx];exact J0l (fun _ _=>[(0,some 0),(1,some 1)])
       . unfold X5D at hfin;have hfin:=hfin (by omega)
         repeat' ((conv=>whnf);first|(refine Br.dec ?_ ?_<;>intro _<;>try omega)|(refine Ar.q ?_)|(refine Ix.q ?_)|(refine Ltn.q ?_))
         all_goals (conv=>whnf)
         all_goals
          refine⟨g.ports.length-(v+1),v+1,by omega,⟨rfl,by omega⟩,?_⟩;refine J0e (fun _ _=>[(0,some 0),(1,some 1)]) ?_ ?_ rfl
          . repeat' (first|exact tI|(refine⟨⟨_,rfl,?_⟩,?_⟩)|exact J0c.kf rfl|exact J0c.loc rfl|exact J0c.q)
          . repeat' (first|exact⟨Nat.le_refl _,rfl,fun a t ha ht=>VLe.of_eq (congrArg (V.int .i64) (X0l _ _ _ _ _ _ _ hfin rfl))⟩|exact tI|(refine⟨⟨_,rfl,?_⟩,?_⟩)|exact J0c.kf rfl|apply And.intro)
     . have ev:v=g.ports.length:=by omega
       subst ev
       repeat' ((conv=>whnf);first|(refine Br.dec ?_ ?_<;>intro _<;>try omega)|(refine Ar.q ?_))
       all_goals (conv=>whnf)
       refine⟨g.ports.length-1-(k+1),k+1,by omega,⟨rfl,by omega⟩,?_⟩;refine J0e (fun _ _=>[(0,some 0),(1,some 1)]) ?_ ?_ rfl
       . repeat' (first|exact tI|(refine⟨⟨_,rfl,?_⟩,?_⟩)|exact J0c.kf rfl|exact J0c.loc rfl|exact J0c.q)
       . repeat' (first|exact⟨Nat.le_refl _,rfl,fun a t ha ht=>VLe.of_eq (congrArg (V.int .i64) ((if_pos ha).trans (J63 _ _ _ _ _ rfl).symm))⟩|exact tI|(refine⟨⟨_,rfl,?_⟩,?_⟩)|exact J0c.kf rfl|apply And.intro)
   . have ek:k=g.ports.length-1:=by omega
     subst ek
     repeat' ((conv=>whnf);first|(refine Br.dec ?_ ?_<;>intro _<;>try omega)|(refine Len.q ?_))
     all_goals (conv=>whnf)
     refine VLe.fz (J3z g f).symm (fun h=>h) (fun i t hi ht=>VLe.of_eq ?_);rw[Q4y,Q9r,Nat.zero_add,J63 _ _ _ _ _ rfl,vI,Q10 g f hi]
end Go.Proofs.YtefdkgkojlflaaaGreatDoor
namespace Go.Proofs.YtefdkgkojlflaaaGreatDoor
open Go.Eng
set_option maxRecDepth 100000
set_option linter.unusedVariables false
theorem Q6m (g:G) (hs:g.Small) (hg:g.valid=false) (f:Int):Ret Tryz.prog 53 [g.v,.int .i64 f] .nilslice:=by
 have hval:=J6J g hs;rw[hg] at hval;refine J0f rfl ?_;refine J0b mixed Tryz.func53 rfl hc53 hr53 rfl ?_
 repeat' ((conv=>whnf);first|(refine Br.ff ?_)|(refine hval.go ?_))
 all_goals (conv=>whnf)
 exact VLe.rfl
theorem Q9W:Ret Tryz.prog 52 [.nilslice] (.int .i64 (-1)):=by
 refine J0f rfl ?_;refine J0b mixed Tryz.func52 rfl hc52 hr52 rfl ?_
 repeat' ((conv=>whnf);first|(refine J00 mixed 2 ?_)|(refine Br.ff ?_))
 all_goals (conv=>whnf)
 exact VLe.rfl
theorem X7a (g:G) (hg:g.valid=true):0<(dst g 0).length:=by
 obtain⟨f1,f2,f3,f4,f5,f6,f7⟩:=J0a hg;rw[J3z];omega
theorem X0q {l:List Int} (h0:0<l.length) (h:∀a∈l,0<=a):0<=J4i l (-1):=by
 match l,h0 with
 | a::r,_ =>
   have:=h a (by simp);have h1:=J5r r (if a > -1 then a else -1);have h2:a<=if a > -1 then a else -1:=by split<;>omega
   simp only[J4i];exact Int.le_trans ‹0<=a› (Int.le_trans h2 h1)
theorem Q6g (g:G) (hg:g.valid=true):(0<=X55 (dst g 0))↔g.conn=true:=by
 rw[G.conn,hg,Bool.true_and,X55];cases h:X17 (dst g 0) with
 | true=>simp
 | false=>simpa using X0q (X7a g hg) (J5o.1 h)
theorem Q91 (g:G) (hs:g.Small):Ret Tryz.prog 26 [g.v] (.bool g.conn):=by
 refine J0f rfl ?_;refine J0b mixed Tryz.func26 rfl hc26 hr26 rfl ?_;by_cases hg:g.valid=true
 . obtain⟨f1,f2,f3,f4,f5,f6,f7⟩:=J0a hg;have hd:=Q90 g hs hg 0 (by omega);have hr:=X3J (dst g 0) (by rw[J3z];omega);have hcn:=Q6g g hg
   repeat' ((conv=>whnf);first|(refine Br.dec ?_ ?_<;>intro _<;>try omega)|(refine hd.go ?_)|(refine hr.go ?_))
   all_goals (conv=>whnf)
   . rename_i h;exact VLe.bool (hcn.1 h).symm
   . rename_i h;refine VLe.bool ?_;cases e:g.conn with
     | false=>rfl
     | true=>exact(h (hcn.2 e)).elim
 . simp only[Bool.not_eq_true] at hg;have hd:=Q6m g hs hg 0;have hn:=Q9W;rw[G.conn,hg]
   repeat' ((conv=>whnf);first|(refine Br.ff ?_)|(refine hd.go ?_)|(refine hn.go ?_))
   all_goals (conv=>whnf)
   exact VLe.rfl
abbrev Q83:=List (Int×Int)
theorem X0P {l:Q83} {i:Nat} (h:i<l.length):l.drop i=gF l i::l.drop (i+1):=by
 rw[List.drop_eq_getElem_cons h];simp only[gF,List.getD,List.getElem?_eq_getElem h,Option.getD_some]
def fpI (p:Int×Int->Bool):Nat->Q83->Int
 | _,[]=>-1
 | k,l::r=>if p l then k else fpI p (k+1) r
theorem J7j (p:Int×Int->Bool):∀(l:Q83) (k i:Nat),i<=l.length->(∀a∈l.take i,p a=false)->fpI p k l=fpI p (k+i) (l.drop i)
 | _,k,0,_,_=>by simp
 | [],k,i+1,h,_=>by simp at h
 | a::r,k,i+1,h,h2=>by
   have ha:p a=false:=h2 a (by simp);simp only[fpI,ha,List.drop_succ_cons];rw[if_neg (by simp),J7j p r (k+1) i (by simpa using h) (fun x hx=>h2 x (by simp[hx]))];congr 1;omega
theorem Q0R (p:Int×Int->Bool):∀(l:Q83) (k:Nat),fpI p k l=-1\/((k:Int)<=fpI p k l/\fpI p k l<(k+l.length:Nat))
 | [],k=>.inl rfl
 | a::r,k=>by
   simp only[fpI];split
   . right;simp;omega
   . rcases Q0R p r (k+1) with h|h
     . exact .inl h
     . right;simp at *;omega
end Go.Proofs.YtefdkgkojlflaaaGreatDoor
namespace Go.Proofs.YtefdkgkojlflaaaGreatDoor
open Go.Eng
set_option maxRecDepth 100000
set_option linter.unusedVariables false
theorem Q5O (a b:Int) (f:Nat->Nat->V) (h0:f 0 0=.int .i64 a) (h1:f 1 0=.int .i64 b):∀i j:Nat,i<2->j<1->VLe (f i j) (vI [a,b] i j):=by
 intro i j hi hj;obtain rfl:j=0:=by omega
 rcases (show i=0\/i=1 by omega) with rfl|rfl
 . rw[h0];exact VLe.rfl
 . rw[h1];exact VLe.rfl
end Go.Proofs.YtefdkgkojlflaaaGreatDoor
namespace Go.Proofs.YtefdkgkojlflaaaGreatDoor
open Go.Eng
set_option maxRecDepth 100000
set_option linter.unusedVariables false
theorem Q77 {n m:Nat} {B B':Nat->Nat->Int×Int} {c:Cf} (h:∀v x,v<n->x<m->B v x=B' v x):conf n m B c=conf n m B' c:=by
 rw[Bool.eq_iff_iff,J4d,J4d];refine⟨fun⟨a,b⟩=>⟨a,fun v hv=>⟨(b v hv).1,fun x hx=>by rw[<- h v x hv hx];exact(b v hv).2 x hx⟩⟩,fun⟨a,b⟩=>⟨a,fun v hv=>⟨(b v hv).1,fun x hx=>by rw[h v x hv hx];exact(b v hv).2 x hx⟩⟩⟩
theorem Q45 (s:ByteArray) (a b d:Int):Ret Tryz.prog 56 [.str s,.int .i64 a,.int .i64 b,.int .i64 d] (.agg [.str s,.int .i64 1,.int .i64 0,.int .i64 a,.int .i64 b,.int .i64 d]):=by
 refine J0f rfl ?_;refine J0b mixed Tryz.func56 rfl hc56 hr56 rfl ?_
 repeat' ((conv=>whnf);first|fail)
 all_goals (conv=>whnf)
 exact VLe.rfl
theorem Q14 (s:ByteArray):Ret Tryz.prog 57 [.str s] (.agg [.str s,.int .i64 3,.int .i64 0,.int .i64 0,.int .i64 0,.int .i64 0]):=by
 refine J0f rfl ?_;refine J0b mixed Tryz.func57 rfl hc57 hr57 rfl ?_
 repeat' ((conv=>whnf);first|fail)
 all_goals (conv=>whnf)
 exact VLe.rfl
end Go.Proofs.YtefdkgkojlflaaaGreatDoor
namespace Go.Proofs.YtefdkgkojlflaaaGreatDoor
open Go.Eng
set_option maxRecDepth 100000
set_option linter.unusedVariables false
end Go.Proofs.YtefdkgkojlflaaaGreatDoor
namespace Go.Plain
abbrev St:=Nat->Bool
structure Adj (n:Nat) (a:Nat->Nat->Bool):Prop where
 sym:∀u v,u<n->v<n->a u v=true->a v u=true
 irr:∀v,v<n->a v v=false
 rng:∀u v,u<n->a u v=true->v<n
def nbM (n:Nat) (a:Nat->Nat->Bool) (m:St) (v:Nat):Bool:=(List.range n).any fun u=>a v u&&m u
def enI (n:Nat) (a:Nat->Nat->Bool) (m:St) (v:Nat):Bool:=match m v with|true=>nbM n a m v|false=>!nbM n a m v
def stI (s m:St):St:=fun v=>match s v with|true=>!m v|false=>m v
variable {n:Nat} {a:Nat->Nat->Bool} {m s:St}
def left (n:Nat) (a:Nat->Nat->Bool) (m p s:St):St:=fun v=>p v&&!s v&&enI n a (stI s m) v
def sumN (f:Nat->Nat):Nat->Nat
 | 0=>0
 | k+1=>sumN f k+f k
end Go.Plain
namespace Go.Proofs.YtefdkgkojlflaaaGreatDoor
open Go.Eng
set_option maxRecDepth 100000
set_option linter.unusedVariables false
theorem J7b (b:Bool):(J29 b≠0)↔b=true:=by cases b<;>simp[J29]
theorem X0E (b:Bool):(J29 b=0)↔b=false:=by cases b<;>simp[J29]
abbrev adN (g:G):Nat->Nat->Bool:=adj g
theorem J9D {g:G} (hg:g.valid=true):Go.Plain.Adj g.ids.length (adN g):=by
 obtain⟨f1,f2,f3,f4,f5,f6,f7⟩:=J0a hg;refine⟨fun u v hu hv h=>Q8M hg (by omega) h,fun v hv=>Q8N hg (by omega),fun u v hu h=>?_⟩;obtain⟨l,hl,e⟩:=J2I.1 h;have:=(J0n.1 (f6 u (by omega))).1 l hl;omega
end Go.Proofs.YtefdkgkojlflaaaGreatDoor
namespace Go.Plain.Tree
structure Net (n:Nat) (a:Nat->Nat->Bool) (D:Nat->Nat):Prop where
 rng:∀u v,u<n->a u v=true->v<n
 root:∀v,v<n->(D v=0↔v=0)
 near:∀v,v<n->v≠0->∃u,a v u=true/\D u+1=D v
 step:∀u v,u<n->a u v=true->D u<=D v+1
 top:∀v,v<n->D v+1<=n
structure St where
 d:Nat->Int
 p:Nat->Int
structure Rule (n:Nat) (a:Nat->Nat->Bool) (D:Nat->Nat) (P:Nat->Int) (tg:(Nat->Int)->Nat->Int×Int):Prop where
 root:∀d,tg d 0=(0,-1)
 right:∀d v,v<n->v≠0->(∀u,a v u=true->D u+1=D v->d u=((D u:Nat):Int))->(∀u,a v u=true->D v<=D u->(D v:Int)<=d u)->tg d v=(((D v:Nat):Int),P v)
 low:∀d v (k:Nat),v<n->v≠0->k+1<=n->(∀u,a v u=true->(k:Int)<=d u)->((k+1:Nat):Int)<=(tg d v).1
 proot:P 0=-1
variable {n:Nat} {a:Nat->Nat->Bool} {D:Nat->Nat} {P:Nat->Int} {tg:(Nat->Int)->Nat->Int×Int}
def right (D:Nat->Nat) (P:Nat->Int) (s:St) (v:Nat):Prop:=s.d v=((D v:Nat):Int)/\s.p v=P v
def off (tg:(Nat->Int)->Nat->Int×Int) (s:St) (v:Nat):Prop:=(s.d v,s.p v)≠tg s.d v
def Step (n:Nat) (tg:(Nat->Int)->Nat->Int×Int) (s:St) (c:Nat->Bool) (s':St):Prop :=
 ∀v,v<n->(c v=true->off tg s v->(s'.d v,s'.p v)=tg s.d v)/\(c v=false\/¬ off tg s v->s'.d v=s.d v/\s'.p v=s.p v)
structure Ok (n:Nat) (D:Nat->Nat) (P:Nat->Int) (s:St) (k:Nat):Prop where
 low:∀v,v<n->D v<k->right D P s v
 far:∀v,v<n->k<=D v->(k:Int)<=s.d v
def bad (D:Nat->Nat) (P:Nat->Int) (s:St) (k v:Nat):Prop:=(D v=k/\¬ right D P s v)\/(k<D v/\s.d v<(k:Int)+1)
theorem Ok.start {s:St} (h:∀v,v<n->0<=s.d v):Ok n D P s 0:=⟨fun v _ h=>by omega,fun v hv _=>by simpa using h v hv⟩
theorem Ok.tgt (hN:Net n a D) (hR:Rule n a D P tg) {s:St} {k:Nat} (h:Ok n D P s k) {v:Nat} (hv:v<n) (hk:D v<=k):tg s.d v=(((D v:Nat):Int),P v):=by
 by_cases h0:v=0
 . subst h0;rw[hR.root,(hN.root 0 hv).2 rfl,hR.proot];rfl
 . refine hR.right s.d v hv h0 (fun u hu e=>?_) (fun u hu e=>?_)
   . exact(h.low u (hN.rng v u hv hu) (by omega)).1
   . have hun:=hN.rng v u hv hu;by_cases q:D u<k
     . rw[(h.low u hun q).1];omega
     . have:=h.far u hun (by omega);omega
theorem Ok.tgfar (hN:Net n a D) (hR:Rule n a D P tg) {s:St} {k:Nat} (h:Ok n D P s k) {v:Nat} (hv:v<n) (hk:k<D v):((k+1:Nat):Int)<=(tg s.d v).1:=by
 have h0:v≠0:=fun e=>by have:=(hN.root v hv).2 e;omega
 have ht:=hN.top v hv;refine hR.low s.d v k hv h0 (by omega) fun u hu=>?_;have:=hN.step v u hv hu;exact h.far u (hN.rng v u hv hu) (by omega)
theorem Ok.off_bad (hN:Net n a D) (hR:Rule n a D P tg) {s:St} {k:Nat} (h:Ok n D P s k) {v:Nat} (hv:v<n) (hb:bad D P s k v):off tg s v:=by
 rcases hb with ⟨h1,h2⟩ | ⟨h1,h2⟩
 . intro e;rw[h.tgt hN hR hv (by omega)] at e;exact h2 ⟨(Prod.mk.inj e).1,(Prod.mk.inj e).2⟩
 . intro e;have:=h.tgfar hN hR hv h1;rw[<- e] at this;simp only at this;omega
theorem Ok.step (hN:Net n a D) (hR:Rule n a D P tg) {s s':St} {c:Nat->Bool} {k:Nat} (h:Ok n D P s k) (hs:Step n tg s c s') :
 Ok n D P s' k/\∀v,v<n->bad D P s' k v->bad D P s k v/\c v=false:=by
 have key:∀v,v<n->(c v=true/\off tg s v/\(s'.d v,s'.p v)=tg s.d v)\/((c v=false\/¬ off tg s v)/\s'.d v=s.d v/\s'.p v=s.p v):=fun v hv=>by
  obtain⟨h1,h2⟩:=hs v hv;by_cases q:c v=false\/¬ off tg s v
  . exact .inr ⟨q,h2 q⟩
  . have qc:c v=true:=by
     cases e:c v with
     | true=>rfl
     | false=>exact(q (.inl e)).elim
    have qo:off tg s v:=Classical.byContradiction fun e=>q (.inr e);exact .inl ⟨qc,qo,h1 qc qo⟩
 have low':∀v,v<n->D v<k->right D P s' v:=fun v hv hk=>by
  rcases key v hv with ⟨_,_,e⟩ | ⟨_,e1,e2⟩
  . rw[h.tgt hN hR hv (by omega)] at e;exact⟨(Prod.mk.inj e).1,(Prod.mk.inj e).2⟩
  . obtain⟨r1,r2⟩:=h.low v hv hk;exact⟨by rw[e1];exact r1,by rw[e2];exact r2⟩
 have far':∀v,v<n->k<=D v->(k:Int)<=s'.d v:=fun v hv hk=>by
  rcases key v hv with ⟨_,_,e⟩ | ⟨_,e1,_⟩
  . by_cases q:D v=k
    . rw[h.tgt hN hR hv (by omega)] at e;rw[(Prod.mk.inj e).1];omega
    . have:=h.tgfar hN hR hv (by omega);rw[<- e] at this;simp only at this;omega
  . rw[e1];exact h.far v hv hk
 refine⟨⟨low',far'⟩,fun v hv hb=>?_⟩;rcases key v hv with ⟨_,_,e⟩ | ⟨q,e1,e2⟩
 . exfalso;rcases hb with ⟨h1,h2⟩ | ⟨h1,h2⟩
   . rw[h.tgt hN hR hv (by omega)] at e;exact h2 ⟨(Prod.mk.inj e).1,(Prod.mk.inj e).2⟩
   . have:=h.tgfar hN hR hv h1;rw[<- e] at this;simp only at this;omega
 . have hb0:bad D P s k v:=by
    rcases hb with ⟨h1,h2⟩ | ⟨h1,h2⟩
    . exact .inl ⟨h1,fun r=>h2 ⟨by rw[e1];exact r.1,by rw[e2];exact r.2⟩⟩
    . exact .inr ⟨h1,by rw[<- e1];exact h2⟩
   refine⟨hb0,?_⟩;rcases q with q|q
   . exact q
   . exact(q (h.off_bad hN hR hv hb0)).elim
theorem Ok.next {s:St} {k:Nat} (h:Ok n D P s k) (hb:∀v,v<n->¬ bad D P s k v):Ok n D P s (k+1):=by
 refine⟨fun v hv hk=>?_,fun v hv hk=>?_⟩
 . by_cases e:D v=k
   . exact Classical.byContradiction fun q=>hb v hv (.inl ⟨e,q⟩)
   . exact h.low v hv (by omega)
 . have:=hb v hv;apply Classical.byContradiction;intro q;exact this (.inr ⟨by omega,by omega⟩)
theorem Ok.all (hN:Net n a D) (hR:Rule n a D P tg) {s:St} {k:Nat} (h:Ok n D P s k) {v:Nat} (hv:v<n) (hk:D v<k):¬ off tg s v:=fun e=>by
 obtain⟨r1,r2⟩:=h.low v hv hk;apply e;rw[h.tgt hN hR hv (by omega),r1,r2]
end Go.Plain.Tree
namespace Go.Proofs.YtefdkgkojlflaaaGreatDoor
open Go.Eng
set_option maxRecDepth 100000
set_option linter.unusedVariables false
def Dg (g:G) (v:Nat):Nat:=(gI (dst g 0) v).toNat
theorem X7c {g:G} (h:g.conn=true) {v:Nat} (hv:v<g.ids.length):((Dg g v:Nat):Int)=gI (dst g 0) v:=by
 obtain⟨h1,h2⟩:=J0j h;obtain⟨f1,f2,f3,f4,f5,f6,f7⟩:=J0a h1;have:=h2 v (by omega);rw[Dg];omega
theorem X5w {g:G} (h:g.conn=true):Go.Plain.Tree.Net g.ids.length (adN g) (Dg g):=by
 obtain⟨h1,h2⟩:=J0j h;obtain⟨f1,f2,f3,f4,f5,f6,f7⟩:=J0a h1;have hu:=J9S h1;have hF:=J7v h1;have hD:=fun v (hv:v<g.ids.length)=>X7c h hv;have near:∀v,v<g.ids.length->v≠0->∃u,adN g v u=true/\Dg g u+1=Dg g v:=fun v hv h0=>by
  obtain⟨l,hl,a,b⟩:=hF.back v (by omega) h0 (h2 v (by omega));have hln:=hu.rng v (by omega) l hl;have e1:=hD v hv;have e2:=hD l.1.toNat (by omega);exact⟨l.1.toNat,J2I.2 ⟨l,hl,rfl⟩,by omega⟩
 refine⟨fun u v hu' hv=>(J9D h1).rng u v hu' hv,fun v hv=>⟨fun e=>?_,fun e=>?_⟩,near,fun u v hun huv=>?_,fun v hv=>?_⟩
 . apply Classical.byContradiction;intro h0;obtain⟨u,_,q⟩:=near v hv h0;omega
 . subst e;have:=hD 0 hv;have e0:=hF.from_;omega
 . have hvn:=(J9D h1).rng u v hun huv;have hvu:=(J9D h1).sym u v hun hvn huv;obtain⟨l,hl,e⟩:=J2I.1 hvu;have:=(hF.on v (by omega) (h2 v (by omega)) l hl).2;rw[e] at this;have e1:=hD v hvn;have e2:=hD u hun;omega
 . have:=hF.lt hu (v:=v) (by omega);have e1:=hD v hv;omega
theorem Q6Q:∀(l:List Int) (m:Int),Q1p l m<=m/\∀a∈l,Q1p l m<=a
 | [],m=>⟨Int.le_refl _,by simp⟩
 | a::r,m=>by
   have q1:(if a<m then a else m)<=m:=by split<;>omega
   have q2:(if a<m then a else m)<=a:=by split<;>omega
   obtain⟨h1,h2⟩:=Q6Q r (if a<m then a else m);rw[Q1p];refine⟨Int.le_trans h1 q1,fun b hb=>?_⟩;rcases List.mem_cons.1 hb with e|hb
   . rw[e];exact Int.le_trans h1 q2
   . exact h2 b hb
theorem J9a:∀(l:List Int) (m k:Int),k<=m->(∀a∈l,k<=a)->k<=Q1p l m
 | [],m,k,h,_=>h
 | a::r,m,k,h,ha=>by
   rw[Q1p];exact J9a r _ k (by have:=ha a (by simp);split<;>omega) (fun b hb=>ha b (by simp[hb]))
theorem Q1X {p q:Int×Int->Bool}:∀{r:Q83} {k:Nat},(∀l∈r,p l=q l)->fpI p k r=fpI q k r
 | [],_,_=>rfl
 | l::r,k,h=>by rw[fpI,fpI,h l (by simp),Q1X (fun x hx=>h x (by simp[hx]))]
abbrev dC (c:Cf) (v:Nat):Int:=gI (gC c v) 0
abbrev pC (c:Cf) (v:Nat):Int:=gI (gC c v) 1
theorem Q0i (r:Q83) (f:Int×Int->Int):((List.range r.length).map fun i=>f (gF r i))=r.map f:=by
 refine List.ext_getElem (by simp) fun i h1 h2=>?_;simp at h1;simp[gF,List.getD,h1]
theorem Q7r {f:Int×Int->Int} {p:Int×Int->Bool}:∀{r:Q83} {k:Nat},(∀l∈r,f l≠0↔p l=true)->Q0H k (r.map f)=fpI p k r
 | [],_,_=>rfl
 | l::r,k,h=>by
   have h1:=h l (by simp);rw[List.map_cons,Q0H,fpI,Q7r (fun x hx=>h x (by simp[hx]))];by_cases e:p l=true
   . rw[if_pos (h1.2 e),if_pos e]
   . rw[if_neg (fun q=>e (h1.1 q)),if_neg e]
end Go.Proofs.YtefdkgkojlflaaaGreatDoor
namespace Go.Proofs.YtefdkgkojlflaaaGreatDoor
open Go.Eng
set_option maxRecDepth 100000
set_option linter.unusedVariables false
def exN (n x w:Nat):Nat:=max (x+1) (w*n)
theorem X0X {n x y w:Nat} (h:x<=y):exN n x w<=exN n y w:=by simp only[exN];omega
theorem Q3G {n x w:Nat}:x<exN n x w:=by simp only[exN];omega
inductive Wk (g:G):Nat->Nat->Prop
 | nil:Wk g 0 0
 | step {v x:Nat} {l:Int×Int} (hv:v<g.ids.length) (hl:l∈gR g.ports v) (h:Wk g l.1.toNat x):Wk g v (exN g.ids.length x l.2.toNat)
theorem Q3p {p:Nat->Prop}:∀(x:Nat),p x->∃x,p x/\∀y,p y->x<=y:=by
 intro x
 induction x using Nat.strongRecOn with
 | _ x ih =>
   intro h;by_cases q:∃y,p y/\y<x
   . obtain⟨y,h1,h2⟩:=q;exact ih y h2 h1
   . exact⟨x,h,fun y hy=>Nat.le_of_not_lt fun e=>q ⟨y,hy,e⟩⟩
noncomputable def Tv (g:G) (v:Nat):Nat:=by
 classical exact if h:∃x,Wk g v x then Classical.choose (Q3p _ (Classical.choose_spec h)) else 0
theorem Q5Q {g:G} {v:Nat} (h:∃x,Wk g v x):Wk g v (Tv g v)/\∀y,Wk g v y->Tv g v<=y:=by
 unfold Tv;rw[dif_pos h];exact Classical.choose_spec (Q3p _ (Classical.choose_spec h))
theorem X5L {g:G} (h:g.conn=true):∀(d v:Nat),v<g.ids.length->Dg g v=d->∃x,Wk g v x/\(d=0->x=0)/\(0<d->x+1<=15*g.ids.length+d):=by
 obtain⟨h1,h2⟩:=J0j h;obtain⟨f1,f2,f3,f4,f5,f6,f7⟩:=J0a h1;have hN:=X5w h;intro d
 induction d with
 | zero =>
   intro v hv hd;have:=(hN.root v hv).1 hd;subst this;exact⟨0,.nil,fun _=>rfl,fun h=>by omega⟩
 | succ d ih =>
   intro v hv hd;have h0:v≠0:=fun e=>by have:=(hN.root v hv).2 e;omega
   obtain⟨u,hu,e⟩:=hN.near v hv h0;obtain⟨l,hl,rfl⟩:=J2I.1 hu;have hun:=hN.rng v _ hv hu;obtain⟨x,hx,hb1,hb2⟩:=ih l.1.toNat hun (by omega);refine⟨_,.step hv hl hx,fun h=>by omega,fun _=>?_⟩;have hw:=((J0n.1 (f6 v (by omega))).1 l hl).2.2.2.2;have hw2:l.2.toNat*g.ids.length<=15*g.ids.length:=Nat.mul_le_mul_right _ (by omega);simp only[exN];rcases Nat.eq_zero_or_pos d with e0|e0
   . have:=hb1 e0;omega
   . have:=hb2 e0;omega
theorem X5T {g:G} (h:g.conn=true) {v:Nat} (hv:v<g.ids.length):Wk g v (Tv g v):=by
 obtain⟨x,hx,_⟩:=X5L h _ v hv rfl;exact(Q5Q ⟨x,hx⟩).1
theorem Q9t {g:G} {v x:Nat} (h:Wk g v x):Tv g v<=x:=(Q5Q ⟨x,h⟩).2 x h
theorem J5e (g:G):Tv g 0=0:=Nat.le_zero.1 (Q9t .nil)
theorem J6x {g:G} (h:g.conn=true) {v:Nat} (hv:v<g.ids.length) {l:Int×Int} (hl:l∈gR g.ports v):Tv g v<=exN g.ids.length (Tv g l.1.toNat) l.2.toNat:=by
 have hln:=(X5w h).rng v l.1.toNat hv (J2I.2 ⟨l,hl,rfl⟩);exact Q9t (.step hv hl (X5T h hln))
theorem J8R {g:G} (h:g.conn=true) {v:Nat} (hv:v<g.ids.length) (h0:v≠0):∃l∈gR g.ports v,Tv g v=exN g.ids.length (Tv g l.1.toNat) l.2.toNat:=by
 have hw:=X5T h hv;generalize hx:Tv g v=t at hw;cases hw with
 | nil=>exact(h0 rfl).elim
 | step hv' hl hu =>
   rename_i x l;refine⟨l,hl,Nat.le_antisymm ?_ (X0X (Q9t hu))⟩;rw[<- hx];exact J6x h hv hl
theorem X3j {g:G} (h:g.conn=true) {v:Nat} (hv:v<g.ids.length):Tv g v=0↔v=0:=by
 refine⟨fun e=>Classical.byContradiction fun h0=>?_,fun e=>by subst e;exact J5e g⟩;obtain⟨l,_,q⟩:=J8R h hv h0;have:=Q3G (n:=g.ids.length) (x:=Tv g l.1.toNat) (w:=l.2.toNat);omega
theorem J6w {g:G} (h:g.conn=true) {v:Nat} (hv:v<g.ids.length):Tv g v+2<=16*g.ids.length:=by
 obtain⟨x,hx,hb1,hb2⟩:=X5L h _ v hv rfl;have:=Q9t hx;have ht:=(X5w h).top v hv;rcases Nat.eq_zero_or_pos (Dg g v) with e|e
 . have:=hb1 e;omega
 . have:=hb2 e;omega
noncomputable def rkV (g:G) (v:Nat):Nat:=J3l (fun u=>decide (Tv g u<Tv g v)) g.ids.length
theorem Q18 {p q:Nat->Bool}:∀{n:Nat},(∀v,v<n->p v=true->q v=true)->J3l p n<=J3l q n
 | 0,_=>Nat.le_refl _
 | n+1,h=>by
   have h1:=Q18 (n:=n) fun v hv=>h v (by omega);have h2:=h n (by omega);simp only[J3l];cases hp:p n<;>cases hq:q n<;>simp_all<;>omega
theorem Q8d {p q:Nat->Bool} {u:Nat} (hp:p u=false) (hq:q u=true):∀{n:Nat},u<n->(∀v,v<n->p v=true->q v=true)->J3l p n<J3l q n
 | n+1,hn,h=>by
   have h2:=h n (by omega);simp only[J3l];by_cases e:u=n
   . subst e;have h1:=Q18 (n:=u) fun v hv=>h v (by omega);rw[hp,hq];simp;omega
   . have h1:=Q8d hp hq (n:=n) (by omega) fun v hv=>h v (by omega);cases hp:p n<;>cases hq:q n<;>simp_all<;>omega
theorem J9v (p:Nat->Bool):∀(n:Nat),J3l p n<=n
 | 0=>Nat.le_refl _
 | n+1=>by
   have:=J9v p n;simp only[J3l];split<;>omega
theorem Q3S {p:Nat->Bool} {u:Nat} (hp:p u=false):∀{n:Nat},u<n->J3l p n+1<=n
 | n+1,hn=>by
   simp only[J3l];by_cases e:u=n
   . subst e;have:=J9v p u;rw[hp];simp;omega
   . have:=Q3S hp (n:=n) (by omega);split<;>omega
theorem X54 {g:G} {u v:Nat} (hu:u<g.ids.length) (h:Tv g u<Tv g v):rkV g u<rkV g v :=
 Q8d (u:=u) (by simp) (by simpa using h) hu fun w _ q=>by simp only[decide_eq_true_eq] at q ⊢;omega
theorem Q21 {g:G} {v:Nat} (hv:v<g.ids.length):rkV g v+1<=g.ids.length:=Q3S (u:=v) (by simp) hv
def exI (g:G) (y w:Int):Int:=if y+1<w*g.ids.length then w*g.ids.length else y+1
theorem J7q (g:G) (x:Nat) {w:Int} (hw:0<=w):exI g x w=((exN g.ids.length x w.toNat:Nat):Int):=by
 obtain⟨k,rfl⟩:∃k:Nat,w=(k:Int):=⟨w.toNat,by omega⟩;have e:((k:Int)*(g.ids.length:Int))=((k*g.ids.length:Nat):Int):=by push_cast;rfl
 rw[exI,exN,e,Int.toNat_natCast];generalize k*g.ids.length=m;split<;>omega
theorem X0Y {g:G} {y z w:Int} (h:y<=z):exI g y w<=exI g z w:=by
 rw[exI,exI];generalize w*(g.ids.length:Int)=m;split<;>split<;>omega
structure VIn (g:G) (r:Nat) (x:List Int):Prop where
 len:x.length=g.ids.length
 root:gI x 0=0
 low:∀v,v<g.ids.length->((Tv g v:Nat):Int)<=gI x v
 top:∀v,v<g.ids.length->gI x v<=1073741824
 ok:∀v,v<g.ids.length->rkV g v<r->gI x v=((Tv g v:Nat):Int)
structure VPs (g:G) (r v i:Nat) (x:List Int):Prop where
 base:VIn g r x
 before:∀u,u<v->u<g.ids.length->rkV g u<=r->gI x u=((Tv g u:Nat):Int)
 here:∀j,j<i->j<(gR g.ports v).length->Tv g v=exN g.ids.length (Tv g (gF (gR g.ports v) j).1.toNat) (gF (gR g.ports v) j).2.toNat->rkV g v<=r->gI x v=((Tv g v:Nat):Int)
theorem VPs.start {g:G} {r:Nat} {x:List Int} (h:VIn g r x):VPs g r 0 0 x:=⟨h,fun u hu=>by omega,fun j hj=>by omega⟩
def Q6j (g:G) (x:List Int) (v:Nat) (l:Int×Int):List Int:=x.set v (if exI g (gI x l.1.toNat) l.2<gI x v then exI g (gI x l.1.toNat) l.2 else gI x v)
theorem VPs.step {g:G} (h:g.conn=true) {r v i:Nat} {x:List Int} (hp:VPs g r v i x) (hv:v<g.ids.length) (hi:i<(gR g.ports v).length):VPs g r v (i+1) (Q6j g x v (gF (gR g.ports v) i)):=by
 obtain⟨h1,h2⟩:=J0j h;obtain⟨f1,f2,f3,f4,f5,f6,f7⟩:=J0a h1;have hB:=hp.base;have hl:=J02 hi;have hok:=(J0n.1 (f6 v (by omega))).1 _ hl;generalize hL:gF (gR g.ports v) i=l at *;have hun:l.1.toNat<g.ids.length:=by omega
 have hw:0<=l.2:=by omega
 have hlen:=hB.len;have hg:∀u,gI (Q6j g x v l) u=if u=v then (if exI g (gI x l.1.toNat) l.2<gI x v then exI g (gI x l.1.toNat) l.2 else gI x v) else gI x u:=fun u=>J7i x v u _ (by omega)
 have hlow:((Tv g v:Nat):Int)<=exI g (gI x l.1.toNat) l.2:=by
  have h3:=J6x h hv hl;have h4:=X0Y (g:=g) (w:=l.2) (hB.low l.1.toNat hun);rw[J7q g _ hw] at h4;omega
 have hst:∀u,u<g.ids.length->gI x u=((Tv g u:Nat):Int)->gI (Q6j g x v l) u=((Tv g u:Nat):Int):=fun u hu e=>by
  rw[hg];split
  . rename_i q;subst q;split<;>omega
  . exact e
 refine⟨⟨by rw[Q6j,List.length_set];exact hlen,?_,fun u hu=>?_,fun u hu=>?_,fun u hu q=>hst u hu (hB.ok u hu q)⟩,fun u hu hun q=>hst u hun (hp.before u hu hun q),fun j hj hj2 e q=>?_⟩
 . have:=hst 0 (by omega) (by rw[J5e];exact hB.root);rw[J5e] at this;exact this
 . rw[hg];have:=hB.low u hu;split
   . rename_i q;subst q;split<;>omega
   . exact this
 . rw[hg];have:=hB.top u hu;split
   . rename_i q;subst q;split<;>omega
   . exact this
 . by_cases ej:j=i
   . subst ej;rw[hL] at e;have hlt:Tv g l.1.toNat<Tv g v:=by rw[e];exact Q3G
     have hrk:=X54 hun hlt;have hx:=hB.ok l.1.toNat hun (by omega);have hlo:=hB.low v hv;rw[hg,if_pos rfl,hx,J7q g _ hw,<- e];split<;>omega
   . exact hst v hv (hp.here j (by omega) hj2 e q)
theorem VPs.row {g:G} (h:g.conn=true) {r v:Nat} {x:List Int} (hp:VPs g r v (gR g.ports v).length x) (hv:v<g.ids.length):VPs g r (v+1) 0 x:=by
 refine⟨hp.base,fun u hu hun q=>?_,fun j hj=>by omega⟩;by_cases e:u=v
 . subst e;by_cases h0:u=0
   . subst h0;rw[J5e];exact hp.base.root
   . obtain⟨l,hl,e⟩:=J8R h hun h0;obtain⟨j,hj,ej⟩:=List.getElem_of_mem hl;have ej:gF (gR g.ports u) j=l:=by rw[<- ej];simp[gF,List.getD,hj]
     exact hp.here j hj hj (by rw[ej];exact e) q
 . exact hp.before u (by omega) hun q
theorem VPs.over {g:G} {r v:Nat} {x:List Int} (hp:VPs g r v 0 x) (hv:g.ids.length<=v):VIn g (r+1) x :=
 ⟨hp.base.len,hp.base.root,hp.base.low,hp.base.top,fun u hu q=>hp.before u (by omega) hu (by omega)⟩
noncomputable def J2D (g:G):List Int:=(List.range g.ids.length).map fun v=>((Tv g v:Nat):Int)
theorem J3X (g:G):(J2D g).length=g.ids.length:=by simp[J2D]
theorem J3Y {g:G} {v:Nat} (hv:v<g.ids.length):gI (J2D g) v=((Tv g v:Nat):Int):=by simp[J2D,gI,List.getD,hv]
theorem VIn.done {g:G} {x:List Int} (h:VIn g g.ids.length x):x=J2D g:=by
 refine List.ext_getElem (by rw[J3X,h.len]) fun i h1 h2=>?_;have hi:i<g.ids.length:=by rw[<- h.len];exact h1
 have e1:=h.ok i hi (by have:=Q21 (g:=g) hi;omega);have e2:=J3Y (g:=g) hi;simp only[gI,List.getD,List.getElem?_eq_getElem h1,List.getElem?_eq_getElem h2,Option.getD_some] at e1 e2;rw[e1,e2]
theorem VIn.start {g:G} (h:g.conn=true) {x:List Int} (hl:x.length=g.ids.length) (h0:gI x 0=0) (hx:∀v,v<g.ids.length->v≠0->16*(g.ids.length:Int)<=gI x v/\gI x v<=1073741824):VIn g 0 x:=by
 refine⟨hl,h0,fun v hv=>?_,fun v hv=>?_,fun v hv q=>by omega⟩
 . by_cases e:v=0
   . subst e;rw[J5e,h0];exact Int.le_refl _
   . have:=(hx v hv e).1;have:=J6w h hv;omega
 . by_cases e:v=0
   . subst e;omega
   . exact(hx v hv e).2
end Go.Proofs.YtefdkgkojlflaaaGreatDoor
namespace Go.Plain.Val
structure Net (n:Nat) (a:Nat->Nat->Bool) (D:Nat->Nat):Prop where
 rng:∀u v,u<n->a u v=true->v<n
 root:∀v,v<n->(D v=0↔v=0)
structure St where
 d:Nat->Int
 p:Nat->Int
structure Rule (n:Nat) (a:Nat->Nat->Bool) (D:Nat->Nat) (P:Nat->Int) (tg:(Nat->Int)->Nat->Int×Int):Prop where
 root:∀d,tg d 0=(0,-1)
 right:∀d v,v<n->v≠0->(∀u,a v u=true->D u<D v->d u=((D u:Nat):Int))->(∀u,a v u=true->D v<=D u->(D v:Int)<=d u)->tg d v=(((D v:Nat):Int),P v)
 low:∀d v (k:Nat),v<n->v≠0->k<D v->(∀u,a v u=true->(D u<k->d u=((D u:Nat):Int))/\(k<=D u->(k:Int)<=d u))->((k+1:Nat):Int)<=(tg d v).1
 proot:P 0=-1
variable {n:Nat} {a:Nat->Nat->Bool} {D:Nat->Nat} {P:Nat->Int} {tg:(Nat->Int)->Nat->Int×Int}
def right (D:Nat->Nat) (P:Nat->Int) (s:St) (v:Nat):Prop:=s.d v=((D v:Nat):Int)/\s.p v=P v
def off (tg:(Nat->Int)->Nat->Int×Int) (s:St) (v:Nat):Prop:=(s.d v,s.p v)≠tg s.d v
def Step (n:Nat) (tg:(Nat->Int)->Nat->Int×Int) (s:St) (c:Nat->Bool) (s':St):Prop :=
 ∀v,v<n->(c v=true->off tg s v->(s'.d v,s'.p v)=tg s.d v)/\(c v=false\/¬ off tg s v->s'.d v=s.d v/\s'.p v=s.p v)
structure Ok (n:Nat) (D:Nat->Nat) (P:Nat->Int) (s:St) (k:Nat):Prop where
 low:∀v,v<n->D v<k->right D P s v
 far:∀v,v<n->k<=D v->(k:Int)<=s.d v
def bad (D:Nat->Nat) (P:Nat->Int) (s:St) (k v:Nat):Prop:=(D v=k/\¬ right D P s v)\/(k<D v/\s.d v<(k:Int)+1)
theorem Ok.start {s:St} (h:∀v,v<n->0<=s.d v):Ok n D P s 0:=⟨fun v _ h=>by omega,fun v hv _=>by simpa using h v hv⟩
theorem Ok.tgt (hN:Net n a D) (hR:Rule n a D P tg) {s:St} {k:Nat} (h:Ok n D P s k) {v:Nat} (hv:v<n) (hk:D v<=k):tg s.d v=(((D v:Nat):Int),P v):=by
 by_cases h0:v=0
 . subst h0;rw[hR.root,(hN.root 0 hv).2 rfl,hR.proot];rfl
 . refine hR.right s.d v hv h0 (fun u hu e=>?_) (fun u hu e=>?_)
   . exact(h.low u (hN.rng v u hv hu) (by omega)).1
   . have hun:=hN.rng v u hv hu;by_cases q:D u<k
     . rw[(h.low u hun q).1];omega
     . have:=h.far u hun (by omega);omega
theorem Ok.tgfar (hN:Net n a D) (hR:Rule n a D P tg) {s:St} {k:Nat} (h:Ok n D P s k) {v:Nat} (hv:v<n) (hk:k<D v):((k+1:Nat):Int)<=(tg s.d v).1:=by
 have h0:v≠0:=fun e=>by have:=(hN.root v hv).2 e;omega
 refine hR.low s.d v k hv h0 hk fun u hu=>⟨fun q=>(h.low u (hN.rng v u hv hu) q).1,fun q=>h.far u (hN.rng v u hv hu) q⟩
theorem Ok.off_bad (hN:Net n a D) (hR:Rule n a D P tg) {s:St} {k:Nat} (h:Ok n D P s k) {v:Nat} (hv:v<n) (hb:bad D P s k v):off tg s v:=by
 rcases hb with ⟨h1,h2⟩ | ⟨h1,h2⟩
 . intro e;rw[h.tgt hN hR hv (by omega)] at e;exact h2 ⟨(Prod.mk.inj e).1,(Prod.mk.inj e).2⟩
 . intro e;have:=h.tgfar hN hR hv h1;rw[<- e] at this;simp only at this;omega
theorem Ok.step (hN:Net n a D) (hR:Rule n a D P tg) {s s':St} {c:Nat->Bool} {k:Nat} (h:Ok n D P s k) (hs:Step n tg s c s') :
 Ok n D P s' k/\∀v,v<n->bad D P s' k v->bad D P s k v/\c v=false:=by
 have key:∀v,v<n->(c v=true/\off tg s v/\(s'.d v,s'.p v)=tg s.d v)\/((c v=false\/¬ off tg s v)/\s'.d v=s.d v/\s'.p v=s.p v):=fun v hv=>by
  obtain⟨h1,h2⟩:=hs v hv;by_cases q:c v=false\/¬ off tg s v
  . exact .inr ⟨q,h2 q⟩
  . have qc:c v=true:=by
     cases e:c v with
     | true=>rfl
     | false=>exact(q (.inl e)).elim
    have qo:off tg s v:=Classical.byContradiction fun e=>q (.inr e);exact .inl ⟨qc,qo,h1 qc qo⟩
 have low':∀v,v<n->D v<k->right D P s' v:=fun v hv hk=>by
  rcases key v hv with ⟨_,_,e⟩ | ⟨_,e1,e2⟩
  . rw[h.tgt hN hR hv (by omega)] at e;exact⟨(Prod.mk.inj e).1,(Prod.mk.inj e).2⟩
  . obtain⟨r1,r2⟩:=h.low v hv hk;exact⟨by rw[e1];exact r1,by rw[e2];exact r2⟩
 have far':∀v,v<n->k<=D v->(k:Int)<=s'.d v:=fun v hv hk=>by
  rcases key v hv with ⟨_,_,e⟩ | ⟨_,e1,_⟩
  . by_cases q:D v=k
    . rw[h.tgt hN hR hv (by omega)] at e;rw[(Prod.mk.inj e).1];omega
    . have:=h.tgfar hN hR hv (by omega);rw[<- e] at this;simp only at this;omega
  . rw[e1];exact h.far v hv hk
 refine⟨⟨low',far'⟩,fun v hv hb=>?_⟩;rcases key v hv with ⟨_,_,e⟩ | ⟨q,e1,e2⟩
 . exfalso;rcases hb with ⟨h1,h2⟩ | ⟨h1,h2⟩
   . rw[h.tgt hN hR hv (by omega)] at e;exact h2 ⟨(Prod.mk.inj e).1,(Prod.mk.inj e).2⟩
   . have:=h.tgfar hN hR hv h1;rw[<- e] at this;simp only at this;omega
 . have hb0:bad D P s k v:=by
    rcases hb with ⟨h1,h2⟩ | ⟨h1,h2⟩
    . exact .inl ⟨h1,fun r=>h2 ⟨by rw[e1];exact r.1,by rw[e2];exact r.2⟩⟩
    . exact .inr ⟨h1,by rw[<- e1];exact h2⟩
   refine⟨hb0,?_⟩;rcases q with q|q
   . exact q
   . exact(q (h.off_bad hN hR hv hb0)).elim
theorem Ok.next {s:St} {k:Nat} (h:Ok n D P s k) (hb:∀v,v<n->¬ bad D P s k v):Ok n D P s (k+1):=by
 refine⟨fun v hv hk=>?_,fun v hv hk=>?_⟩
 . by_cases e:D v=k
   . exact Classical.byContradiction fun q=>hb v hv (.inl ⟨e,q⟩)
   . exact h.low v hv (by omega)
 . have:=hb v hv;apply Classical.byContradiction;intro q;exact this (.inr ⟨by omega,by omega⟩)
theorem Ok.all (hN:Net n a D) (hR:Rule n a D P tg) {s:St} {k:Nat} (h:Ok n D P s k) {v:Nat} (hv:v<n) (hk:D v<k):¬ off tg s v:=fun e=>by
 obtain⟨r1,r2⟩:=h.low v hv hk;apply e;rw[h.tgt hN hR hv (by omega),r1,r2]
end Go.Plain.Val
namespace Go.Proofs.YtefdkgkojlflaaaGreatDoor
open Go.Eng
set_option maxRecDepth 100000
set_option linter.unusedVariables false
noncomputable def upW (g:G) (v:Nat):Int:=if v=0 then -1 else fpI (fun l=>decide (exI g ((Tv g l.1.toNat:Nat):Int) l.2=((Tv g v:Nat):Int))) 0 (gR g.ports v)
def mnW (g:G) (d:Nat->Int) (v:Nat):Int:=Q1p ((gR g.ports v).map fun l=>exI g (d l.1.toNat) l.2) 1073741824
def tgW (g:G) (d:Nat->Int) (v:Nat):Int×Int :=
 if v=0 then (0,-1) else (if mnW g d v<16*g.ids.length then mnW g d v else 16*g.ids.length,fpI (fun l=>decide (exI g (d l.1.toNat) l.2=mnW g d v)) 0 (gR g.ports v))
theorem Q0V (g:G) (y w:Int):y<exI g y w:=by
 rw[exI];generalize w*(g.ids.length:Int)=m;split<;>omega
theorem X6y {g:G} (h:g.conn=true):Go.Plain.Val.Net g.ids.length (adN g) (Tv g) :=
 ⟨fun u v hu hv=>(X5w h).rng u v hu hv,fun v hv=>X3j h hv⟩
theorem Q6b {g:G} (h:g.conn=true):Go.Plain.Val.Rule g.ids.length (adN g) (Tv g) (upW g) (tgW g):=by
 obtain⟨h1,h2⟩:=J0j h;obtain⟨f1,f2,f3,f4,f5,f6,f7⟩:=J0a h1;refine⟨fun d=>if_pos rfl,fun d v hv h0 hr1 hr2=>?_,fun d v k hv h0 hk hd=>?_,if_pos rfl⟩
 . have ht:=J6w h hv;have hok:=(J0n.1 (f6 v (by omega))).1;have hmem:∀l∈gR g.ports v,adN g v l.1.toNat=true:=fun l hl=>J2I.2 ⟨l,hl,rfl⟩;have hle:∀l∈gR g.ports v,((Tv g v:Nat):Int)<=exI g (d l.1.toNat) l.2:=fun l hl=>by
    have hw:0<=l.2:=by have:=hok l hl;omega
    by_cases q:Tv g l.1.toNat<Tv g v
    . rw[hr1 _ (hmem l hl) q,J7q g _ hw];have:=J6x h hv hl;omega
    . have:=hr2 _ (hmem l hl) (by omega);have:=Q0V g (d l.1.toNat) l.2;omega
   have hm:mnW g d v=((Tv g v:Nat):Int):=by
    obtain⟨l,hl,e⟩:=J8R h hv h0;have hw:0<=l.2:=by have:=hok l hl;omega
    have hlt:Tv g l.1.toNat<Tv g v:=by rw[e];exact Q3G
    have a1:=(Q6Q ((gR g.ports v).map fun l=>exI g (d l.1.toNat) l.2) 1073741824).2 _ (List.mem_map.2 ⟨l,hl,rfl⟩);rw[hr1 _ (hmem l hl) hlt,J7q g _ hw,<- e] at a1;have a2:((Tv g v:Nat):Int)<=Q1p ((gR g.ports v).map fun l=>exI g (d l.1.toNat) l.2) 1073741824:=by
     refine J9a _ _ _ (by omega) fun b hb=>?_;obtain⟨l',hl',rfl⟩:=List.mem_map.1 hb;exact hle l' hl'
    rw[mnW];omega
   rw[tgW,if_neg h0,hm,if_pos (by omega),upW,if_neg h0];refine Prod.ext rfl ?_;refine Q1X fun l hl=>?_;by_cases q:Tv g l.1.toNat<Tv g v
   . rw[hr1 _ (hmem l hl) q]
   . have q1:=hr2 _ (hmem l hl) (by omega);have q2:=Q0V g (d l.1.toNat) l.2;have q3:=Q0V g ((Tv g l.1.toNat:Nat):Int) l.2;rw[decide_eq_false (by omega),decide_eq_false (by omega)]
 . have ht:=J6w h hv;have hok:=(J0n.1 (f6 v (by omega))).1;have hm:((k+1:Nat):Int)<=mnW g d v:=by
    refine J9a _ _ _ (by omega) fun b hb=>?_;obtain⟨l,hl,rfl⟩:=List.mem_map.1 hb;have hw:0<=l.2:=by have:=hok l hl;omega
    obtain⟨d1,d2⟩:=hd _ (J2I.2 ⟨l,hl,rfl⟩);by_cases q:Tv g l.1.toNat<k
    . rw[d1 q,J7q g _ hw];have:=J6x h hv hl;omega
    . have:=d2 (by omega);have:=Q0V g (d l.1.toNat) l.2;omega
   rw[tgW,if_neg h0];simp only;split<;>omega
def qxT:Tm:=.bin 33 (.leaf 12 0) (.leaf 1 1)
def qwT:Tm:=.bin 30 (.leaf 16 0) (.leaf 6 0)
def exT:Tm:=.ite (.bin 39 qxT qwT) qxT qwT
def mwT:Tm:=.agg 24 exT
def X6B:Tm:=.bin 30 (.leaf 1 16) (.leaf 6 0)
def xWT:Tm:=.ite (.bin 37 mwT X6B) mwT X6B
def pWT:Tm:=.agg 23 (.bin 35 exT mwT)
def X3m:Tm:=.bin 41 (.leaf 10 0) (.bin 42 (.bin 36 (.leaf 5 0) (.leaf 1 0)) (.bin 36 (.leaf 5 1) (.leaf 4 0)))
def X4a:Tm:=.bin 41 (.un 19 (.leaf 10 0)) (.bin 42 (.bin 36 (.leaf 5 0) xWT) (.bin 36 (.leaf 5 1) pWT))
def NnW (g:G) (c:Cf):Prop:=∀v,v<g.ids.length->0<=dC c v/\dC c v<=16*g.ids.length
theorem X2t {g:G} (hg:g.valid=true) {c:Cf} (hd:NnW g c) {v i:Nat} (hv:v<g.ids.length) (hi:i<(gR g.ports v).length):exT.sem g c v (i:Nat)=exI g (dC c (gF (gR g.ports v) i).1.toNat) (gF (gR g.ports v) i).2:=by
 obtain⟨f1,f2,f3,f4,f5,f6,f7⟩:=J0a hg;have hok:=(J0n.1 (f6 v (by omega))).1 _ (J02 hi);have hdl:=hd (gF (gR g.ports v) i).1.toNat (by omega);have e1:qxT.sem g c v (i:Nat)=dC c (gF (gR g.ports v) i).1.toNat+1:=by
  show sat (gI (gC c (nbV g v i)) 0+1)=_;have:nbV g v i=(gF (gR g.ports v) i).1.toNat:=by simp[nbV]
  rw[this];have hd2:0<=gI (gC c (gF (gR g.ports v) i).1.toNat) 0/\gI (gC c (gF (gR g.ports v) i).1.toNat) 0<=16*g.ids.length:=hdl;exact Q57 (by unfold inR;omega)
 have hmul:∃m:Nat,(gF (gR g.ports v) i).2*(g.ids.length:Int)=(m:Int)/\m<=15*24:=by
  refine⟨(gF (gR g.ports v) i).2.toNat*g.ids.length,?_,Nat.mul_le_mul (by omega) f2⟩
  push_cast
  rw[Int.toNat_of_nonneg (by omega)]
 obtain⟨m,hm,hm2⟩:=hmul;have e2:qwT.sem g c v (i:Nat)=(gF (gR g.ports v) i).2*(g.ids.length:Int):=by
  show sat ((gF (gR g.ports v) ((i:Nat):Int).toNat).2*(g.ids.length:Int))=_;rw[Int.toNat_natCast,hm];exact Q57 (by unfold inR;omega)
 show(if J29 (decide (qxT.sem g c v (i:Nat) > qwT.sem g c v (i:Nat)))≠0 then qxT.sem g c v (i:Nat) else qwT.sem g c v (i:Nat))=_;rw[e1,e2,exI];simp only[J7b,decide_eq_true_eq];generalize (gF (gR g.ports v) i).2*(g.ids.length:Int)=t;split<;>split<;>omega
theorem X6I {g:G} (hg:g.valid=true) {c:Cf} (hd:NnW g c) {v:Nat} (hv:v<g.ids.length):((List.range (gR g.ports v).length).map fun(i:Nat)=>exT.sem g c v (i:Nat))=(gR g.ports v).map fun l=>exI g (dC c l.1.toNat) l.2:=by
 rw[<- Q0i (gR g.ports v) (fun l=>exI g (dC c l.1.toNat) l.2)];refine List.map_congr_left fun i hi=>?_;exact X2t hg hd hv (List.mem_range.1 hi)
theorem X18 {g:G} (hg:g.valid=true) {c:Cf} (hd:NnW g c) {v:Nat} (hv:v<g.ids.length) (port:Int):mwT.sem g c v port=mnW g (dC c) v:=by
 show Q1p ((List.range (gR g.ports v).length).map fun(i:Nat)=>exT.sem g c v (i:Nat)) 1073741824=_;rw[X6I hg hd hv];rfl
theorem X3Z {g:G} (hg:g.valid=true) (c:Cf) (v:Nat) (port:Int):X6B.sem g c v port=16*(g.ids.length:Int):=by
 obtain⟨f1,f2,f3,f4,f5,f6,f7⟩:=J0a hg;show sat (16*(g.ids.length:Int))=_;exact Q57 (by unfold inR;omega)
theorem X6E {g:G} (hg:g.valid=true) {c:Cf} (hd:NnW g c) {v:Nat} (hv:v<g.ids.length):0<=mnW g (dC c) v:=by
 obtain⟨f1,f2,f3,f4,f5,f6,f7⟩:=J0a hg;have hok:=(J0n.1 (f6 v (by omega))).1;refine J9a _ _ _ (by omega) fun b hb=>?_;obtain⟨l,hl,rfl⟩:=List.mem_map.1 hb;have:=hok l hl;have:=(hd l.1.toNat (by omega)).1;have:=Q0V g (dC c l.1.toNat) l.2;omega
theorem X1H {g:G} (hg:g.valid=true) {c:Cf} (hd:NnW g c) {v:Nat} (hv:v<g.ids.length) (h0:v≠0) (port:Int):xWT.sem g c v port=(tgW g (dC c) v).1:=by
 show(if J29 (decide (mwT.sem g c v port<X6B.sem g c v port))≠0 then mwT.sem g c v port else X6B.sem g c v port)=_;rw[X18 hg hd hv,X3Z hg,tgW,if_neg h0];simp only[J7b,decide_eq_true_eq]
theorem X1X {g:G} (hg:g.valid=true) {c:Cf} (hd:NnW g c) {v:Nat} (hv:v<g.ids.length) (h0:v≠0) (port:Int):pWT.sem g c v port=(tgW g (dC c) v).2:=by
 show Q0H 0 ((List.range (gR g.ports v).length).map fun(i:Nat)=>J29 (decide (exT.sem g c v (i:Nat)=mwT.sem g c v (i:Nat))))=_;rw[tgW,if_neg h0];simp only;have e:((List.range (gR g.ports v).length).map fun(i:Nat)=>J29 (decide (exT.sem g c v (i:Nat)=mwT.sem g c v (i:Nat))))=(gR g.ports v).map fun l=>J29 (decide (exI g (dC c l.1.toNat) l.2=mnW g (dC c) v)):=by
  rw[<- Q0i (gR g.ports v) (fun l=>J29 (decide (exI g (dC c l.1.toNat) l.2=mnW g (dC c) v)))];refine List.map_congr_left fun i hi=>?_;rw[X2t hg hd hv (List.mem_range.1 hi),X18 hg hd hv]
 rw[e];exact Q7r fun l _=>by rw[J7b]
def Q29 (g:G) (c:Cf) (v:Nat):Bool:=decide ((dC c v,pC c v)≠tgW g (dC c) v)
theorem Q2J (g:G) (c:Cf) (v:Nat):X3m.sem g c v (-1)=J29 (decide (v=0)&&Q29 g c v):=by
 show J29 (decide (J29 (decide (v=0))≠0/\J29 (decide (J29 (decide (dC c v≠0))≠0\/J29 (decide (pC c v≠-1))≠0))≠0))=_;congr 1;simp only[J7b,decide_eq_true_eq];by_cases h0:v=0
 . rw[Q29,tgW,if_pos h0];simp only[h0,true_and,decide_true,Bool.true_and];rw[decide_eq_decide];simp only[ne_eq,Prod.mk.injEq];exact(Classical.not_and_iff_not_or_not).symm
 . simp[h0]
theorem Q3m {g:G} (hg:g.valid=true) {c:Cf} (hd:NnW g c) {v:Nat} (hv:v<g.ids.length):X4a.sem g c v (-1)=J29 (!decide (v=0)&&Q29 g c v):=by
 show J29 (decide (J29 (decide (J29 (decide (v=0))=0))≠0/\J29 (decide (J29 (decide (dC c v≠xWT.sem g c v (-1)))≠0\/J29 (decide (pC c v≠pWT.sem g c v (-1)))≠0))≠0))=_;congr 1;simp only[J7b,X0E,decide_eq_true_eq,decide_eq_false_iff_not];by_cases h0:v=0
 . simp[h0]
 . rw[X1H hg hd hv h0,X1X hg hd hv h0,Q29];simp only[h0,not_false_eq_true,true_and,decide_false,Bool.not_false,Bool.true_and];rw[decide_eq_decide];generalize tgW g (dC c) v=t;obtain⟨t1,t2⟩:=t;simp only[ne_eq,Prod.mk.injEq];exact(Classical.not_and_iff_not_or_not).symm
end Go.Proofs.YtefdkgkojlflaaaGreatDoor
