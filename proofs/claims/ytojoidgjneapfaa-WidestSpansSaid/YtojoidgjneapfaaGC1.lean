import Derived.Test.YtojoidgjneapfaaST3
namespace Go.Proofs.Ytojoidgjneapfaa
open Go.Eng
set_option maxRecDepth 100000
set_option linter.unusedVariables false
set_option maxHeartbeats 16000000 in
theorem Q3c (cl:FuncId) (hcl:J06 Try.prog cl=true) (cf:Ed->Ed->Int) (hcf:∀x y,Ret Try.prog cl [edV x,edV y] (.int .i64 (cf x y))) (lt:Ed->Ed->Prop) (hw:Wo lt) (hlt:∀x y,cf x y<0↔lt x y) (L0:List Ed) (n:Nat) (hn:L0.length=n) (hb:n<=1000) :
 J0H Try.prog 36 [.vec 0 3 0 n,.int .i64 n,.fn (.func cl) false []] (oE n L0) J6b
  fun v own' _=>Q2U lt n L0 0 n v own':=by
 have hins:=fun L hl a b h1 h2=>Q3w cl hcl cf hcf lt hw hlt L n hl hb a b (ai:=(a:Int)) (bi:=(b:Int)) rfl rfl h1 h2;have hmrg:=fun a m b h1 h2 h3 L hl s1 s2=>Q4N cl hcl cf hcf lt hw hlt n hb n a m b (by omega) h1 h2 h3 L hl s1 s2 (ai:=(a:Int)) (mi:=(m:Int)) (bi:=(b:Int)) rfl rfl rfl;refine J0d mixed Try.func36 rfl hc36 hr36 rfl ?_
 repeat' ((conv=>whnf);first|fail)
 all_goals (conv=>whnf)
 refine J0A mixed [] [] J6b [0] (fun p:Nat×List Ed=>[(8,.int .i64 ((p.1+20:Nat):Int)),(7,.int .i64 ((p.1:Nat):Int)),(6,.int .i64 20),(0,.vec 0 3 0 n),(1,.int .i64 n),(2,.fn (.func cl) false [])]) (fun _ p=>oE n p.2) (fun m p=>m=n-p.1/\p.1<=n/\J2V lt p.2 20 p.1/\RgP L0 p.2 0 n) n (0,L0) ⟨rfl,Nat.zero_le _,.zero,RgP.refl _ _ _⟩ rfl (fun _=>rfl) ?_ ?_
 . exact J0e (fun _ _=>[(0,some 0)])
 rintro m ⟨a,L⟩ ⟨hm,ha,hr,hg⟩;simp only at hm ha hr hg;have hl:=hg.len;dsimp only;by_cases hab:a+20<=n
 . repeat' ((conv=>whnf);first|(refine Br.dec ?_ ?_<;>intro _<;>try omega))
   all_goals (conv=>whnf)
   refine J0W [(0,some 0)] [] ((hins L (by omega) a (a+20) (by omega) hab).mono ?_) ⟨J0a.vec rfl rfl rfl,J0a.int (by omega),J0a.int (by omega),J0a.kf rfl,True.intro⟩ ⟨⟨_,rfl,Nat.le_refl _,rfl,fun _ _ _ _=>VLe.rfl⟩,True.intro⟩ rfl;rintro _ _ _ ⟨L1,⟨hp1,hp2⟩,rfl,rfl⟩
   repeat' ((conv=>whnf);first|(refine Ar.q ?_)|(refine Chk.mk rfl ?_))
   all_goals (conv=>whnf)
   refine⟨n-(a+20),(a+20,L1),by omega,⟨rfl,hab,(hr.congr fun k hk=>hp1.out k (by omega)).run hp2,hg.trans (hp1.wide (by omega) hab)⟩,?_⟩;dsimp only;exact J0e (fun _ _=>[(0,some 0)])
 repeat' ((conv=>whnf);first|(refine Br.dec ?_ ?_<;>intro _<;>try omega))
 all_goals (conv=>whnf)
 refine J0W [(0,some 0)] [] ((hins L (by omega) a n ha (Nat.le_refl _)).mono ?_) ⟨J0a.vec rfl rfl rfl,J0a.int (by omega),J0a.int (by omega),J0a.kf rfl,True.intro⟩ ⟨⟨_,rfl,Nat.le_refl _,rfl,fun _ _ _ _=>VLe.rfl⟩,True.intro⟩ rfl;rintro _ _ _ ⟨L1,⟨hp1,hp2⟩,rfl,rfl⟩;have hR:J7A lt L1 20 n 0:=(hr.congr fun k hk=>hp1.out k (by omega)).runs (.run (hp2.part (Nat.le_refl _) (by omega)) (.end_ (by omega)));have hG:RgP L0 L1 0 n:=hg.trans (hp1.wide (by omega) (Nat.le_refl _));clear hp1 hp2 hr hg hl ha hab hm
 repeat' ((conv=>whnf);first|(refine Chk.mk rfl ?_))
 all_goals (conv=>whnf)
 refine J0A mixed [] [] J6b [0] (fun p:Nat×List Ed=>[(6,.int .i64 ((p.1:Nat):Int)),(0,.vec 0 3 0 n),(1,.int .i64 n),(2,.fn (.func cl) false [])]) (fun _ p=>oE n p.2) (fun m p=>m=n-p.1/\0<p.1/\p.1<=2020/\J7A lt p.2 p.1 n 0/\RgP L0 p.2 0 n) (n-20) (20,L1) ⟨rfl,by dsimp only;omega,by dsimp only;omega,hR,hG⟩ rfl (fun _=>rfl) ?_ ?_
 . exact J0e (fun _ _=>[(0,some 0)])
 rintro m2 ⟨s,L2⟩ ⟨hm2,hs0,hs1,hr2,hg2⟩;simp only at hm2 hs0 hs1 hr2 hg2;have hl2:=hg2.len;dsimp only;by_cases hsn:s<n
 . repeat' ((conv=>whnf);first|(refine Br.dec ?_ ?_<;>intro _<;>try omega)|(refine Ar.q ?_))
   all_goals (conv=>whnf)
   refine J0A mixed [] [] J6b [0] (fun p:Nat×List Ed=>[(8,.int .i64 ((p.1+2*s:Nat):Int)),(7,.int .i64 ((p.1:Nat):Int)),(6,.int .i64 ((s:Nat):Int)),(0,.vec 0 3 0 n),(1,.int .i64 n),(2,.fn (.func cl) false [])]) (fun _ p=>oE n p.2) (fun m p=>m=n-p.1/\p.1<=n/\J2V lt p.2 (2*s) p.1/\J7A lt p.2 s n p.1/\RgP L0 p.2 0 n) n (0,L2) ⟨rfl,Nat.zero_le _,.zero,hr2,hg2⟩ rfl (fun _=>rfl) ?_ ?_
   . dsimp only;exact J0e (fun _ _=>[(0,some 0)])
   rintro m3 ⟨a,L3⟩ ⟨hm3,ha3,ht3,hr3,hg3⟩;simp only at hm3 ha3 ht3 hr3 hg3;have hl3:=hg3.len;dsimp only;by_cases hab:a+2*s<=n
   . have q1:=hr3.head (by omega);have q2:=q1.2.head (by omega)
     repeat' ((conv=>whnf);first|(refine Br.dec ?_ ?_<;>intro _<;>try omega)|(refine Ar.q ?_))
     all_goals (conv=>whnf)
     refine J0W [(0,some 0)] [] ((hmrg a (a+s) (a+2*s) (by omega) (by omega) hab L3 (by omega) (q1.1.part (Nat.le_refl _) (by omega)) (q2.1.part (Nat.le_refl _) (by omega))).mono ?_) ⟨J0a.vec rfl rfl rfl,J0a.int (by omega),J0a.int (by omega),J0a.int (by omega),J0a.kf rfl,True.intro⟩ ⟨⟨_,rfl,Nat.le_refl _,rfl,fun _ _ _ _=>VLe.rfl⟩,True.intro⟩ rfl;rintro _ _ _ ⟨L4,⟨hp1,hp2⟩,rfl,rfl⟩;have q3:J7A lt L4 s n (a+2*s):=by
      have:=q2.2;rw[show a+s+s=a+2*s by omega] at this;exact this.congr fun k hk=>hp1.out k (by omega)
     repeat' ((conv=>whnf);first|(refine Ar.q ?_)|(refine Chk.mk rfl ?_))
     all_goals (conv=>whnf)
     refine⟨n-(a+2*s),(a+2*s,L4),by omega,⟨rfl,hab,(ht3.congr fun k hk=>hp1.out k (by omega)).run hp2,q3,hg3.trans (hp1.wide (by omega) hab)⟩,?_⟩;dsimp only;exact J0e (fun _ _=>[(0,some 0)])
   . by_cases hms:a+s<n
     . have q1:=hr3.head (by omega);have q2:=q1.2.head (by omega)
       repeat' ((conv=>whnf);first|(refine Br.dec ?_ ?_<;>intro _<;>try omega)|(refine Ar.q ?_))
       all_goals (conv=>whnf)
       refine J0W [(0,some 0)] [] ((hmrg a (a+s) n (by omega) (by omega) (Nat.le_refl _) L3 (by omega) (q1.1.part (Nat.le_refl _) (by omega)) (q2.1.part (Nat.le_refl _) (by omega))).mono ?_) ⟨J0a.vec rfl rfl rfl,J0a.int (by omega),J0a.int (by omega),J0a.int (by omega),J0a.kf rfl,True.intro⟩ ⟨⟨_,rfl,Nat.le_refl _,rfl,fun _ _ _ _=>VLe.rfl⟩,True.intro⟩ rfl;rintro _ _ _ ⟨L4,⟨hp1,hp2⟩,rfl,rfl⟩
       repeat' ((conv=>whnf);first|(refine Ar.q ?_)|(refine Chk.mk rfl ?_))
       all_goals (conv=>whnf)
       refine⟨n-s*2,(s*2,L4),by omega,⟨rfl,by dsimp only;omega,by dsimp only;omega,?_,hg3.trans (hp1.wide (by omega) (Nat.le_refl _))⟩,?_⟩
       . have:=(ht3.congr fun k hk=>hp1.out k (by omega)).runs (n:=n) (.run (hp2.part (Nat.le_refl _) (by omega)) (.end_ (by omega)));rw[Nat.mul_comm] at this;exact this
       . dsimp only;exact J0e (fun _ _=>[(0,some 0)])
     . repeat' ((conv=>whnf);first|(refine Br.dec ?_ ?_<;>intro _<;>try omega)|(refine Ar.q ?_))
       all_goals (conv=>whnf)
       refine⟨n-s*2,(s*2,L3),by omega,⟨rfl,by dsimp only;omega,by dsimp only;omega,?_,hg3⟩,?_⟩
       . have hq:SoR lt L3 a (min (a+2*s) n):=by
          by_cases q:a<n
          . exact(hr3.head q).1.part (Nat.le_refl _) (by omega)
          . exact SoR.one (by omega)
         have:=ht3.runs (n:=n) (.run hq (.end_ (by omega)));rw[Nat.mul_comm] at this;exact this
       . dsimp only;exact J0e (fun _ _=>[(0,some 0)])
 . repeat' ((conv=>whnf);first|(refine Br.dec ?_ ?_<;>intro _<;>try omega))
   all_goals (conv=>whnf)
   refine⟨L2,⟨hg2,?_⟩,rfl,rfl⟩;by_cases q:0<n
   . exact(hr2.head q).1.part (Nat.le_refl _) (by omega)
   . exact SoR.one (by omega)
theorem J6m (cl:FuncId) (hcl:J06 Try.prog cl=true) (cf:Ed->Ed->Int) (hcf:∀x y,Ret Try.prog cl [edV x,edV y] (.int .i64 (cf x y))) (lt:Ed->Ed->Prop) (hw:Wo lt) (hlt:∀x y,cf x y<0↔lt x y) (L0:List Ed) (hL:L0.length<=1000) :
 J0H Try.prog 16 [.vec 0 3 0 L0.length,.fn (.func cl) false []] [(0,.vec L0.length 3 (eF L0))] J6b
  fun v own' _=>∃L:List Ed,(L.Perm L0/\SoI lt L L.length)/\v=.tup []/\own'=[(0,.vec L0.length 3 (eF L))]:=by
 have hi:=Q3c cl hcl cf hcf lt hw hlt L0 L0.length rfl hL;refine J0d mixed Try.func16 rfl hc16 hr16 rfl ?_
 repeat' ((conv=>whnf);first|(refine hi.mono ?_;rintro _ _ _ ⟨L,hp,rfl,rfl⟩))
 all_goals (conv=>whnf)
 refine⟨L,⟨hp.1.perm,fun p q h1 h2=>hp.2 p q (Nat.zero_le _) h1 (by have:=hp.1.len;omega)⟩,rfl,rfl⟩
def Q5A (n:Nat):Int:=if n=0 then 0 else if n=1 then 1 else if n<=3 then 2 else if n<=7 then 3 else 4
theorem Q5W {n:Int} {K:Int->Prop} (h1:0<=n) (h2:n<=255) (hK:K n):Ar .u8 n K:=⟨n,by simp[IntKind.wrap,IntKind.bits,IntKind.signed];omega,hK⟩
theorem Q0z (n:Nat) (h:n<=12):Ret Try.prog 63 [.int .u64 n] (.int .i64 (Q5A n)):=by
 rcases (show n=0\/n=1\/n=2\/n=3\/n=4\/n=5\/n=6\/n=7\/n=8\/n=9\/n=10\/n=11\/n=12 by omega) with rfl|rfl|rfl|rfl|rfl|rfl|rfl|rfl|rfl|rfl|rfl|rfl|rfl
 all_goals
  refine J0h rfl ?_;refine J0d mixed Try.func63 rfl hc63 hr63 rfl ?_
  repeat' ((conv=>whnf);first|(refine Br.ff ?_)|(refine Q5W (by omega) (by omega) ?_)|(refine Ix.nat (by decide) ?_)|(refine Ar.i64 (by decide) (by decide) ?_))
  all_goals (conv=>whnf)
  first
   | (refine VLe.int ?_;decide)
   | (refine VLe.int ?_;rfl)
   | exact VLe.of_eq rfl
theorem Q3X (n:Nat) (h:n<=12):Ret Try.prog 49 [.int .u64 n] (.int .i64 (Q5A n)):=by
 have h1:=Q0z n h;refine J0h rfl ?_;refine J0d mixed Try.func49 rfl hc49 hr49 rfl ?_
 repeat' ((conv=>whnf);first|(refine h1.go ?_))
 all_goals (conv=>whnf)
 exact VLe.rfl
abbrev Q38:List Nat:=[1,2,3,4,5,6,7,8,9,10,11,12,13,14,15,16,17,18,19,20,21,22,23,24,25,26,27,28,29]
theorem Q4H (cl:FuncId) (hcl:J06 Try.prog cl=true) (cf:Ed->Ed->Int) (hcf:∀x y,Ret Try.prog cl [edV x,edV y] (.int .i64 (cf x y))) (lt:Ed->Ed->Prop) (hw:Wo lt) (hlt:∀x y,cf x y<0↔lt x y) (L0:List Ed) (hL:L0.length<=12) (lim:Int) :
 J0H Try.prog 48 [.vec 0 3 0 L0.length,.int .i64 0,.int .i64 L0.length,.int .i64 lim,.fn (.func cl) false []] [(0,.vec L0.length 3 (eF L0))] Q38
  fun v own' _=>∃L:List Ed,(L.Perm L0/\SoI lt L L.length)/\v=.tup []/\own'=[(0,.vec L0.length 3 (eF L))]:=by
 have hi:=Q4V cl hcl cf hcf lt hw hlt L0 (by omega);refine J0d mixed Try.func48 rfl hc48 hr48 rfl ?_
 repeat' ((conv=>whnf);first|fail)
 all_goals (conv=>whnf)
 refine J04 mixed 1 ?_
 repeat' ((conv=>whnf);first|(refine Br.dec ?_ ?_<;>intro _<;>try omega)|(refine Ar.q ?_)|(refine hi.mono ?_;rintro _ _ _ ⟨L,hp,rfl,rfl⟩))
 all_goals (conv=>whnf)
 exact⟨L,hp,rfl,rfl⟩
theorem J9h (cl:FuncId) (hcl:J06 Try.prog cl=true) (cf:Ed->Ed->Int) (hcf:∀x y,Ret Try.prog cl [edV x,edV y] (.int .i64 (cf x y))) (lt:Ed->Ed->Prop) (hw:Wo lt) (hlt:∀x y,cf x y<0↔lt x y) (L0:List Ed) (hL:L0.length<=12) :
 J0H Try.prog 33 [.vec 0 3 0 L0.length,.fn (.func cl) false []] [(0,.vec L0.length 3 (eF L0))] Q38
  fun v own' _=>∃L:List Ed,(L.Perm L0/\SoI lt L L.length)/\v=.tup []/\own'=[(0,.vec L0.length 3 (eF L))]:=by
 have hb:=Q3X L0.length hL;have hi:=Q4H cl hcl cf hcf lt hw hlt L0 hL (Q5A L0.length);refine J0d mixed Try.func33 rfl hc33 hr33 rfl ?_
 repeat' ((conv=>whnf);first|(refine Ar.u64 (by omega) (by omega) ?_)|(refine hb.go ?_)|(refine hi.mono ?_;rintro _ _ _ ⟨L,hp,rfl,rfl⟩))
 all_goals (conv=>whnf)
 exact⟨L,hp,rfl,rfl⟩
def J8z:Go.Shelf.Ren:=⟨fun|6=>33|15=>49|14=>48|28=>62|29=>63|20=>50|21=>55|22=>56|23=>57|24=>58|25=>59|26=>60|27=>61|46=>67|47=>68|48=>69|49=>70|50=>71|57=>74|n=>n,fun|22=>41|24=>45|25=>48|3=>3|39=>77|0=>0|53=>91|55=>93|4=>4|46=>85|45=>84|50=>83|5=>5|9=>9|66=>95|70=>99|76=>102|77=>103|n=>n,fun|n=>n⟩
theorem Q4w:SlLaysF0.n6 Try.prog J8z:={
 mixed:=by kernel_rfl
 f6:=⟨Try.f33.name,by decide,Try.func33.trans (congrArg some (by kernel_rfl))⟩
 f14:=⟨Try.f48.name,by decide,Try.func48.trans (congrArg some (by kernel_rfl))⟩
 f15:=Try.func49.trans (congrArg some (by kernel_rfl))
 f20:=⟨Try.f50.name,by decide,Try.func50.trans (congrArg some (by kernel_rfl))⟩
 f21:=⟨Try.f55.name,by decide,Try.func55.trans (congrArg some (by kernel_rfl))⟩
 f22:=⟨Try.f56.name,by decide,Try.func56.trans (congrArg some (by kernel_rfl))⟩
 f23:=⟨Try.f57.name,by decide,Try.func57.trans (congrArg some (by kernel_rfl))⟩
 f24:=⟨Try.f58.name,by decide,Try.func58.trans (congrArg some (by kernel_rfl))⟩
 f25:=⟨Try.f59.name,by decide,Try.func59.trans (congrArg some (by kernel_rfl))⟩
 f26:=⟨Try.f60.name,by decide,Try.func60.trans (congrArg some (by kernel_rfl))⟩
 f27:=⟨Try.f61.name,by decide,Try.func61.trans (congrArg some (by kernel_rfl))⟩
 f28:=Try.func62.trans (congrArg some (by kernel_rfl))
 f29:=Try.func63.trans (congrArg some (by kernel_rfl))
 f46:=⟨Try.f67.name,by decide,Try.func67.trans (congrArg some (by kernel_rfl))⟩
 f47:=Try.func68.trans (congrArg some (by kernel_rfl))
 f48:=Try.func69.trans (congrArg some (by kernel_rfl))
 f49:=⟨Try.f70.name,by decide,Try.func70.trans (congrArg some (by kernel_rfl))⟩
 f50:=⟨Try.f71.name,by decide,Try.func71.trans (congrArg some (by kernel_rfl))⟩
 f57:=⟨Try.f74.name,by decide,Try.func74.trans (congrArg some (by kernel_rfl))⟩
 t0:=Try.underlying0
 a0:=Try.isAgg0
 z0:=Try.sizeOf0
 v0:=Try.zeroValue0
 t3:=Try.underlying3
 a3:=Try.isAgg3
 z3:=Try.sizeOf3
 v3:=Try.zeroValue3
 t4:=Try.underlying4
 a4:=Try.isAgg4
 z4:=Try.sizeOf4
 v4:=Try.zeroValue4
 t5:=Try.underlying5
 a5:=Try.isAgg5
 z5:=Try.sizeOf5
 v5:=Try.zeroValue5
 t9:=Try.underlying9
 a9:=Try.isAgg9
 z9:=Try.sizeOf9
 v9:=Try.zeroValue9
 t22:=Try.underlying41
 a22:=Try.isAgg41
 z22:=Try.sizeOf41
 v22:=Try.zeroValue41
 t25:=Try.underlying48
 a25:=Try.isAgg48
 z25:=Try.sizeOf48
 v25:=Try.zeroValue48
 t39:=Try.underlying77
 a39:=Try.isAgg77
 z39:=Try.sizeOf77
 v39:=Try.zeroValue77
 t45:=Try.underlying84
 a45:=Try.isAgg84
 z45:=Try.sizeOf84
 v45:=Try.zeroValue84
 t46:=Try.underlying85
 a46:=Try.isAgg85
 z46:=Try.sizeOf85
 v46:=Try.zeroValue85
 t50:=Try.underlying83
 a50:=Try.isAgg83
 z50:=Try.sizeOf83
 v50:=Try.zeroValue83
 t53:=Try.underlying91
 a53:=Try.isAgg91
 z53:=Try.sizeOf91
 v53:=Try.zeroValue91
 t55:=Try.underlying93
 a55:=Try.isAgg93
 z55:=Try.sizeOf93
 v55:=Try.zeroValue93
 t66:=Try.underlying95
 a66:=Try.isAgg95
 z66:=Try.sizeOf95
 v66:=Try.zeroValue95
 t70:=Try.underlying99
 a70:=Try.isAgg99
 z70:=Try.sizeOf99
 v70:=Try.zeroValue99
 t76:=Try.underlying102
 a76:=Try.isAgg102
 z76:=Try.sizeOf102
 v76:=Try.zeroValue102
 t77:=Try.underlying103
 a77:=Try.isAgg103
 z77:=Try.sizeOf103
 v77:=Try.zeroValue103 }
theorem Q2G (e:Ed) {M:Nat->Prop} {w:World} {σ:Sg}:Den M w σ (edV e) (.agg (J4R e).toArray):=by
 refine .agg _ _ _ rfl fun i v u hv hu=>?_
 match i,hv,hu with
 | 0,hv,hu=>simp[edC,J4R] at hv hu;subst hv hu;exact .int _ _ _
 | 1,hv,hu=>simp[edC,J4R] at hv hu;subst hv hu;exact .int _ _ _
 | 2,hv,hu=>simp[edC,J4R] at hv hu;subst hv hu;exact .int _ _ _
theorem J6R (x y:Ed) (w:World):Calls Try.prog 34 #[.agg (J4R x).toArray,.agg (J4R y).toArray] w fun e w'=>e=.returned (.int .i64 (cfE x y))/\∃q os',w'=Go.Sort.grow (w.drewN q) os':=by
 have h:=(J6Q x y [] []).out (fun _=>False) w Sg.none [.agg (J4R x).toArray,.agg (J4R y).toArray] rfl ?_ ⟨⟨fun _ _ h=>by simp at h,by simp,fun _ _ _ _ _ h=>by simp at h⟩,fun _ h=>by simp at h,by simp⟩
 . refine h.mono ?_;rintro e w' ⟨M',σ',v,own',ks',u,rfl,hd,hh,tr,kd,rfl,rfl,rfl⟩;cases hd;refine⟨rfl,w'.drawn-w.drawn,w'.heap.extract w.heap.size w'.heap.size,?_⟩;have hs:=tr.adv.size;have hn:∀b,¬ J0y w Sg.none [] b:=fun b ⟨_,_,hm,_⟩=>by simp at hm
   have hheap:w'.heap=w.heap++w'.heap.extract w.heap.size w'.heap.size:=by
    apply Array.ext_getElem?;intro i;by_cases hi:i<w.heap.size
    . rw[Array.getElem?_append_left hi,tr.adv.same i hi (hn i)]
    . rw[Array.getElem?_append_right (by omega),Array.getElem?_extract];by_cases h2:i<w'.heap.size
      . rw[if_pos (by omega),show w.heap.size+(i-w.heap.size)=i by omega]
      . rw[if_neg (by omega),Array.getElem?_eq_none (by omega)]
   have h1:=tr.adv.os;have h2:=tr.adv.tape;have h3:=tr.adv.output;cases w' with
   | mk heap tape drawn os output =>
     cases w with
     | mk heap0 tape0 drawn0 os0 output0 =>
       simp only at hheap h1 h3;have h4:=h2.eq;have h5:=h2.le;simp only at h4 h5;subst h1 h3 h4;simp only[Go.Sort.grow,World.drewN];rw[show drawn0+(drawn-drawn0)=drawn by omega,<- hheap]
 . intro i v u hv hu
   match i,hv,hu with
   | 0,hv,hu=>simp at hv hu;subst hv hu;exact Q2G x
   | 1,hv,hu=>simp at hv hu;subst hv hu;exact Q2G y
theorem Q4v:Go.Sort.SWO (Go.Proofs.ltOf cfE) where
 irrefl x:=by rw[ltOf,decide_eq_false_iff_not,J6U];exact fun h=>J9J _ _ h h
 trans x y z h1 h2:=by rw[ltOf,decide_eq_true_eq,J6U] at *;simp only[Ed.lt] at *;omega
 ntrans x y z h1 h2:=by rw[ltOf,decide_eq_false_iff_not,J6U] at *;simp only[Ed.lt] at *;omega
theorem Q1c (L0:List Ed) (hL:L0.length<=1000000) :
 J0H Try.prog 33 [.vec 0 3 0 L0.length,.fn (.func 34) false []] [(0,.vec L0.length 3 (eF L0))] Q38
  fun v own' _=>∃L:List Ed,(L.Perm L0/\SoI Ed.lt L L.length)/\v=.tup []/\own'=[(0,.vec L0.length 3 (eF L))]:=by
 by_cases h12:L0.length<=12
 . exact J9h 34 (by kernel_rfl) cfE J6Q Ed.lt Q5p J6U L0 h12
 refine J7g J6U L0 (by omega) (fun blk off cap w hH hb=>?_) Q38;have eg:∀args w,(callFunc 34 args).run Try.prog w=.ok (.enter 34 args) w:=enters_of Try.func34 (by kernel_rfl) rfl;exact AnyQ.slices_SortFunc Q4w 3 Try.isAgg45 Try.sizeOf45 J4R Q1Y (fun x v hv=>by simp[J4R] at hv;rcases hv with rfl|rfl|rfl<;>rfl) cfE Q4v 34 #[] blk off cap L0.toArray w eg (fun _ _ _ _ x y=>J6R x y _) hH hb (by simpa using(by omega:L0.length<4611686018427387904))
def J3Q (g:G) (v i:Nat):List Ed:=((List.range v).flatMap fun v=>(gR g.ports v).filterMap (Q0I v))++((gR g.ports v).take i).filterMap (Q0I v)
theorem J7U (g:G) (v:Nat):J3Q g v (gR g.ports v).length=J3Q g (v+1) 0:=by
 rw[J3Q,J3Q,List.take_length,List.range_succ,List.flatMap_append];simp
theorem Q1r (g:G):J3Q g g.ids.length 0=J7i g:=by simp[J3Q,J7i]
theorem J9v (g:G):J3Q g 0 0=[]:=by simp[J3Q]
theorem J9w (g:G) (v:Nat) {i:Nat} (hi:i<(gR g.ports v).length):J3Q g v (i+1)=J3Q g v i++(Q0I v (gF (gR g.ports v) i)).toList:=by
 rw[J3Q,J3Q,J1k _ i hi,List.filterMap_append,<- List.append_assoc];congr 1
theorem Q1T {α β:Type} (f:α->List β):∀{l m:List α},l.Sublist m->(l.flatMap f).length<=(m.flatMap f).length:=fun h=>by
 induction h with
 | slnil=>simp
 | cons a _ ih=>simp only[List.flatMap_cons,List.length_append];omega
 | cons_cons a _ ih=>simp only[List.flatMap_cons,List.length_append];omega
theorem Q3m (g:G) {v i:Nat} (hv:v<g.ids.length):(J3Q g v i).length<=(J7i g).length:=by
 have h1:(J3Q g v i).length<=(J3Q g (v+1) 0).length:=by
  rw[<- J7U,J3Q,J3Q,List.take_length];simp only[List.length_append];have:=(List.Sublist.filterMap (Q0I v) (List.take_sublist i (gR g.ports v))).length_le;omega
 have h2:(J3Q g (v+1) 0).length<=(J7i g).length:=by
  simp only[J3Q,J7i,List.take_zero,List.filterMap_nil,List.append_nil];exact Q1T _ (List.range_sublist.2 (by omega))
 omega
theorem Q0Y (L:List Ed) (e:Ed) (n i j:Nat) (hn:L.length=n) (f:Nat->Nat->V) (h0:f 0 0=.int .i64 e.a) (h1:f 0 1=.int .i64 e.b) (h2:f 0 2=.int .i64 e.w) (hi:i<n+1) (hj:j<3) :
 VLe (J4P (J0n 0 (eF L)) n (J0n 0 f) i j) (eF (L++[e]) i j):=by
 subst hn;apply VLe.of_eq;by_cases h:i<L.length
 . rw[J2k h,J8A,Nat.zero_add];have:gE (L++[e]) i=gE L i:=by simp[gE,List.getD,List.getElem?_append_left h]
   rw[J1K _ j hj _ i this,J1K _ j hj _ i rfl]
 . rw[J2l h,J8A,Nat.zero_add];have hil:i=L.length:=by omega
   subst hil;have:gE (L++[e]) L.length=e:=by simp[gE,List.getD]
   rw[J1K _ j hj _ _ this,Nat.sub_self];rcases (show j=0\/j=1\/j=2 by omega) with rfl|rfl|rfl
   . rw[h0];rfl
   . rw[h1];rfl
   . rw[h2];rfl
set_option maxHeartbeats 16000000 in
theorem J8f (g:G) (hs:g.Small) (hg:g.valid=true) (h12:(J7i g).length<=600):Ret Try.prog 14 [g.v] (.fz (J0l g).length 3 false (eF (J0l g))):=by
 obtain⟨f1,f2,f3,f4,f5,f6,f7⟩:=J0f hg;refine J0h rfl ?_;refine J0d mixed Try.func14 rfl hc14 hr14 rfl ?_
 repeat' ((conv=>whnf);first|(refine J0d mixed Try.func32 rfl hc32 hr32 rfl ?_)|(refine J46 ?_)|(refine Chk.q ?_)|(refine J0d mixed Try.func47 rfl hc47 hr47 rfl ?_))
 all_goals (conv=>whnf)
 refine J0A mixed [0,8,9] [4] [5,6,7,8,9,10,11,12,13,14,15,16,17,18,19,20,21,22,23,24,25,26,27,28,29] [4,3,2,1,0] (fun v:Nat=>[(10,.int .i64 v)]) (fun own v=>clO ((4,.vec (J3Q g v 0).length 3 (eF (J3Q g v 0)))::J2T own 1 (.cells [.vec 4 3 0 (J3Q g v 0).length]))) (fun m v=>m=g.ids.length-v/\v<=g.ids.length) g.ids.length 0 ⟨rfl,Nat.zero_le _⟩ rfl (fun _=>rfl) ?_ ?_
 . simp only[J9v];refine J0g (fun _ _=>[(0,some 0),(1,some 1),(2,some 2),(3,some 3),(4,none)]) ?_ ?_ rfl
   . repeat' (first|exact J0a.yld rfl|exact tI|(refine⟨⟨_,rfl,?_⟩,?_⟩)|exact J0a.kf rfl)
   . repeat' (first|(refine J0a.fn ?_)|(refine⟨rfl,rfl,rfl,rfl,rfl,?_⟩)|exact tI|(refine⟨⟨_,rfl,?_⟩,?_⟩)|exact J0a.kf rfl|exact J0a.loc rfl|exact J0a.nil rfl rfl|(refine⟨⟨_,_,rfl⟩,?_⟩)|apply And.intro)
 rintro m v ⟨hm,hv⟩;by_cases hvn:v<g.ids.length
 . have hrl:=J2Z hg v
   repeat' ((conv=>whnf);first|(refine Br.dec ?_ ?_<;>intro _<;>try omega)|(refine Ix.q ?_))
   all_goals (conv=>whnf)
   refine J0A mixed [0,3,8,9,10,15,16] [4] [5,6,7,8,9,10,11,12,13,14,15,16,17,18,19,20,21,22,23,24,25,26,27,28,29] [4,3,2,1,0] (fun i:Nat=>[(17,.int .i64 i)]) (fun own i=>clO (J2T (J2T own 4 (.vec (J3Q g v i).length 3 (eF (J3Q g v i)))) 1 (.cells [.vec 4 3 0 (J3Q g v i).length]))) (fun m i=>m=(gR g.ports v).length-i/\i<=(gR g.ports v).length) (gR g.ports v).length 0 ⟨rfl,Nat.zero_le _⟩ rfl (fun _=>rfl) ?_ ?_
   . refine J0g (fun _ _=>[(0,some 0),(1,some 1),(2,some 2),(3,some 3),(4,some 4)]) ?_ ?_ rfl
     . repeat' (first|exact J0a.yld rfl|exact tI|(refine⟨⟨_,rfl,?_⟩,?_⟩)|exact J0a.kf rfl)
     . repeat' (first|(refine J0a.fn ?_)|(refine⟨rfl,rfl,rfl,rfl,rfl,?_⟩)|exact tI|(refine⟨⟨_,rfl,?_⟩,?_⟩)|exact J0a.kf rfl|exact J0a.loc rfl|exact J0a.q|(refine⟨Nat.le_refl _,rfl,fun i j hi hj=>?_⟩)|exact VLe.rfl|apply And.intro)
   rintro m i ⟨hm2,hi⟩;by_cases hin:i<(gR g.ports v).length
   . have hok:=(J0s.1 (f6 v (by omega))).1 _ (J02 hin);have hnx:=J9w g v hin;have hle:=Q3m g (v:=v) (i:=i) hvn;by_cases hlt:(v:Int)<(gF (gR g.ports v) i).1
     . have hre:Q0I v (gF (gR g.ports v) i)=some ⟨v,(gF (gR g.ports v) i).1.toNat,(gF (gR g.ports v) i).2⟩:=if_pos hlt;rw[hre,Option.toList_some] at hnx
       repeat' ((conv=>whnf);first|(refine Br.tt ?_)|(refine Br.dec ?_ ?_<;>intro _<;>try omega)|(refine Br.nbeq ?_ ?_<;>intro _<;>try omega)|(refine Ar.q ?_)|(refine Ix.q ?_)|(refine Len.q ?_)|(refine J3p mixed rfl rfl ?_))
       all_goals (conv=>whnf)
       refine⟨(gR g.ports v).length-(i+1),i+1,by omega,⟨rfl,by omega⟩,?_⟩;simp only[hnx,List.length_append,List.length_singleton];refine J0g (fun _ own=>[(0,some 0),(1,some 1),(2,some 2),(3,some 3),(4,Q46 own 1 0)]) ?_ ?_ rfl
       . repeat' (first|exact J0a.yld rfl|exact tI|(refine⟨⟨_,rfl,?_⟩,?_⟩)|exact J0a.kf rfl)
       . repeat' (first|(refine J0a.fn ?_)|(refine⟨rfl,rfl,rfl,rfl,rfl,?_⟩)|(refine⟨Nat.le_refl _,rfl,fun i j hi hj=>?_⟩)|exact Q0Y _ _ _ _ _ rfl _ rfl (by show V.int .i64 _=V.int .i64 _;rw[Int.toNat_of_nonneg (by omega)]) rfl hi hj|exact tI|(refine⟨⟨_,rfl,?_⟩,?_⟩)|exact J0a.kf rfl|exact J0a.loc rfl|exact J0a.q|apply And.intro)
     . have hre:Q0I v (gF (gR g.ports v) i)=none:=if_neg hlt;rw[hre,Option.toList_none,List.append_nil] at hnx
       repeat' ((conv=>whnf);first|(refine Br.tt ?_)|(refine Br.dec ?_ ?_<;>intro _<;>try omega)|(refine Ar.q ?_)|(refine Ix.q ?_)|(refine J3p mixed rfl rfl ?_))
       all_goals (conv=>whnf)
       refine⟨(gR g.ports v).length-(i+1),i+1,by omega,⟨rfl,by omega⟩,?_⟩;simp only[hnx];refine J0g (fun _ _=>[(0,some 0),(1,some 1),(2,some 2),(3,some 3),(4,some 4)]) ?_ ?_ rfl
       . repeat' (first|exact J0a.yld rfl|exact tI|(refine⟨⟨_,rfl,?_⟩,?_⟩)|exact J0a.kf rfl)
       . repeat' (first|(refine J0a.fn ?_)|(refine⟨rfl,rfl,rfl,rfl,rfl,?_⟩)|exact tI|(refine⟨⟨_,rfl,?_⟩,?_⟩)|exact J0a.kf rfl|exact J0a.loc rfl|exact J0a.q|(refine⟨Nat.le_refl _,rfl,fun i j hi hj=>?_⟩)|exact VLe.rfl|apply And.intro)
   . repeat' ((conv=>whnf);first|(refine Br.dec ?_ ?_<;>intro _<;>try omega)|(refine Ar.q ?_))
     all_goals (conv=>whnf)
     refine⟨g.ids.length-(v+1),v+1,by omega,⟨rfl,by omega⟩,?_⟩;have e:i=(gR g.ports v).length:=by omega
     subst e;simp only[<- J7U];refine J0g (fun _ _=>[(0,some 0),(1,some 1),(2,some 2),(3,some 3),(4,some 4)]) ?_ ?_ rfl
     . repeat' (first|exact J0a.yld rfl|exact tI|(refine⟨⟨_,rfl,?_⟩,?_⟩)|exact J0a.kf rfl)
     . repeat' (first|(refine J0a.fn ?_)|(refine⟨rfl,rfl,rfl,rfl,rfl,?_⟩)|exact tI|(refine⟨⟨_,rfl,?_⟩,?_⟩)|exact J0a.kf rfl|exact J0a.loc rfl|exact J0a.q|(refine⟨Nat.le_refl _,rfl,fun i j hi hj=>?_⟩)|exact VLe.rfl|apply And.intro)
 . have ev:v=g.ids.length:=by omega
   subst ev;simp only[Q1r];have hso:=Q1c (J7i g) (by omega)
   repeat' ((conv=>whnf);first|(refine Br.dec ?_ ?_<;>intro _<;>try omega)|(refine Len.q ?_)|(refine J0W [(0,some 4)] [] (hso.mono ?_) ⟨J0a.vec rfl rfl rfl,J0a.fn True.intro,True.intro⟩ (by repeat' (first|exact tI|(refine⟨⟨_,rfl,?_⟩,?_⟩)|(refine⟨Nat.le_refl _,rfl,fun i j hi hj=>?_⟩)|exact VLe.rfl)) rfl;rintro _ _ _ ⟨L,⟨hp,hsl⟩,rfl,rfl⟩)|(refine Chk.mk rfl ?_))
   all_goals (conv=>whnf)
   have hE:=J6n hg hp hsl.pairwise;subst hE;exact VLe.fz hp.length_eq.symm (fun h=>h) (fun i j hi hj=>VLe.of_eq (by rw[J8A,Nat.zero_add]))
def pF (p:Nat->Int):Nat->Nat->V:=fun i _=>.int .i64 (p i)
theorem Q2s (p:Nat->Int) (v:Nat) (x:Int) (n i j:Nat) (hi:i<n) (hj:j<1):VLe (J2b (pF p) v 0 [.int .i64 x] i j) (pF (fun u=>if u=v then x else p u) i j):=by
 apply VLe.of_eq;obtain rfl:j=0:=by omega
 simp only[pF,J2b];by_cases h:i=v
 . subst h;simp
 . simp[h]
structure JoS (p:Nat->Int) (a b v:Nat) (q:Nat->Int):Prop where
 lo:∀u,u<v->q u=joP p a b u
 hi:∀u,v<=u->q u=p u
theorem JoS.start {p:Nat->Int} {a b:Nat}:JoS p a b 0 p:=⟨fun u h=>by omega,fun _ _=>rfl⟩
theorem JoS.yes {p:Nat->Int} {a b v:Nat} {q:Nat->Int} (h:JoS p a b v q) (he:p v=max (p a) (p b)):JoS p a b (v+1) (fun u=>if u=v then min (p a) (p b) else q u):=by
 refine⟨fun u hu=>?_,fun u hu=>?_⟩
 . show(if u=v then _ else q u)=_;by_cases e:u=v
   . subst e;rw[if_pos rfl,joP,if_pos he]
   . rw[if_neg e];exact h.lo u (by omega)
 . show(if u=v then _ else q u)=_;rw[if_neg (by omega)];exact h.hi u (by omega)
theorem JoS.no {p:Nat->Int} {a b v:Nat} {q:Nat->Int} (h:JoS p a b v q) (he:¬ p v=max (p a) (p b)):JoS p a b (v+1) q:=by
 refine⟨fun u hu=>?_,fun u hu=>h.hi u (by omega)⟩;by_cases e:u=v
 . subst e;rw[joP,if_neg he];exact h.hi u (Nat.le_refl _)
 . exact h.lo u (by omega)
theorem mxR (x y:Int):(if y > x then y else x)=max x y:=by
 rw[Int.max_def];split<;>split<;>omega
theorem mnR (x y:Int):(if y<x then y else x)=min x y:=by
 rw[Int.min_def];split<;>split<;>omega
set_option maxHeartbeats 8000000 in
theorem Q3v (n:Nat) (hn:n<=1000000) (p:Nat->Int) (a b:Nat) (ha:a<n) (hb:b<n) :
 J0H Try.prog 19 [.vec 0 1 0 n,.int .i64 a,.int .i64 b] [(0,.vec n 1 (pF p))] Q38
  fun v own' _=>∃q:Nat->Int,(∀u,u<n->q u=joP p a b u)/\v=.tup []/\own'=[(0,.vec n 1 (pF q))]:=by
 refine J0d mixed Try.func19 rfl hc19 hr19 rfl ?_
 repeat' ((conv=>whnf);first|(refine Ix.w a ?_)|(refine Ix.w b ?_)|(refine Sv.mk _ rfl ?_)|(refine Ltn.q ?_)|(refine And.intro (Ltn.mk (by omega) rfl) ?_))
 all_goals (conv=>whnf)
 refine J0A mixed [0,6,7,28] [] Q38 [0] (fun s:Nat×(Nat->Int)=>[(29,.int .i64 s.1)]) (fun own s=>J2T own 0 (.vec n 1 (pF s.2))) (fun m s=>m=n-s.1/\s.1<=n/\JoS p a b s.1 s.2) n (0,p) ⟨rfl,Nat.zero_le _,JoS.start⟩ rfl (fun _=>rfl) ?_ ?_
 . exact J0e (fun _ _=>[(0,some 0)])
 rintro m ⟨v,q⟩ ⟨hm,hv,hJ⟩;simp only at hm hv hJ;by_cases hvn:v<n
 . dsimp only;have hqv:=hJ.hi v (Nat.le_refl _);have z0:0+a=a:=Nat.zero_add _;have z1:0+b=b:=Nat.zero_add _;have z2:0+v=v:=Nat.zero_add _;by_cases hc:q (0+v)=(if p (0+b) > p (0+a) then p (0+b) else p (0+a))
   . repeat' ((conv=>whnf);first|(refine Br.dec ?_ ?_<;>intro _<;>try omega)|(refine Ar.q ?_)|(refine Ix.q ?_)|(refine Ltn.q ?_))
     all_goals (conv=>whnf)
     rw[mxR,z0,z1,z2,hqv] at hc;refine⟨n-(v+1),(v+1,fun u=>if u=v then (if p (0+b)<p (0+a) then p (0+b) else p (0+a)) else q u),by omega,⟨rfl,by omega,?_⟩,?_⟩
     . rw[mnR,z0,z1];exact hJ.yes hc
     . refine J0g (fun _ _=>[(0,some 0)]) ?_ ?_ rfl
       . repeat' (first|exact tI|(refine⟨⟨_,rfl,?_⟩,?_⟩)|exact J0a.kf rfl|exact J0a.q)
       . repeat' (first|exact⟨Nat.le_refl _,rfl,fun i t hi ht=>by simp only[Nat.zero_add];exact Q2s q v _ n i t (by omega) ht⟩|exact tI|(refine⟨⟨_,rfl,?_⟩,?_⟩))
   . repeat' ((conv=>whnf);first|(refine Br.dec ?_ ?_<;>intro _<;>try omega)|(refine Ar.q ?_)|(refine Ix.q ?_)|(refine Ltn.q ?_))
     all_goals (conv=>whnf)
     rw[mxR,z0,z1,z2,hqv] at hc;refine⟨n-(v+1),(v+1,q),by omega,⟨rfl,by omega,hJ.no hc⟩,?_⟩;exact J0e (fun _ _=>[(0,some 0)])
 . dsimp only
   repeat' ((conv=>whnf);first|(refine Br.dec ?_ ?_<;>intro _<;>try omega))
   all_goals (conv=>whnf)
   exact⟨q,fun u hu=>hJ.lo u (by omega),rfl,rfl⟩
def sF (L:List (Nat×Nat)):Nat->Nat->V:=fun i j=>match j with
 | 0=>.int .i64 (L.getD i (0,0)).1
 | _+1=>.int .i64 (L.getD i (0,0)).2
theorem J3n {g:G} (hg:g.valid=true):(J0l g).length=(J7i g).length:=by
 refine List.Perm.length_eq ?_;refine(List.perm_ext_iff_of_nodup ?_ (J6y hg)).2 fun e=>by rw[J1J hg,J9t hg]
 rw[List.nodup_iff_pairwise_ne];exact(J2B g).imp fun {e f} hl q=>by subst q;exact J9J _ _ hl hl
theorem J7j (n v i j:Nat) (hj:j<1):VLe (J2b (pF fun u=>if u<v then (u:Int) else 0) v 0 [.int .i64 v] i j) (pF (fun u=>if u<v+1 then (u:Int) else 0) i j):=by
 refine(Q2s _ v (v:Int) (i+1) i j (by omega) hj).trans (VLe.of_eq ?_);show V.int .i64 _=V.int .i64 _;congr 1;show(if i=v then (v:Int) else if i<v then (i:Int) else 0)=if i<v+1 then (i:Int) else 0
 by_cases h:i=v
 . subst h;simp
 . rw[if_neg h];by_cases q:i<v
   . rw[if_pos q,if_pos (by omega)]
   . rw[if_neg q,if_neg (by omega)]
theorem PtI.congr {n:Nat} {D:List (Nat×Nat)} {p q:Nat->Int} (h:PtI n D p) (he:∀u,u<n->q u=p u):PtI n D q:=fun u v hu hv=>by rw[he u hu,he v hv];exact h u v hu hv
noncomputable def J6a (g:G) (i:Nat):List (Nat×Nat):=(((J0l g).take i).filter (chE g)).map fun e=>(e.a,e.b)
theorem J5F (g:G) (i:Nat):(J6a g i).length<=i:=by
 rw[J6a,List.length_map];exact Nat.le_trans (List.length_filter_le _ _) (by simp;omega)
theorem Q1d {g:G} {i:Nat} (hi:i<(J0l g).length) (h:chE g (gE (J0l g) i)=true):J6a g (i+1)=J6a g i++[((gE (J0l g) i).a,(gE (J0l g) i).b)]:=by
 rw[J6a,J5C hi,List.filter_append,List.map_append,List.filter_cons,if_pos h];rfl
theorem Q3f {g:G} {i:Nat} (hi:i<(J0l g).length) (h:chE g (gE (J0l g) i)=false):J6a g (i+1)=J6a g i:=by
 rw[J6a,J5C hi,List.filter_append,List.map_append,List.filter_cons,if_neg (by rw[h];decide)];simp[J6a]
theorem J5G (g:G):J6a g (J0l g).length=J2v g:=by rw[J6a,List.take_length,J41]
theorem J7J (L:List (Nat×Nat)) (a b:Nat) (n i j:Nat) (hn:L.length=n) (f:Nat->Nat->V) (h0:f 0 0=.int .i64 a) (h1:f 0 1=.int .i64 b) (hi:i<n+1) (hj:j<2):VLe (J4P (J0n 0 (sF L)) n (J0n 0 f) i j) (sF (L++[(a,b)]) i j):=by
 subst hn;apply VLe.of_eq;by_cases h:i<L.length
 . rw[J2k h,J1i,Nat.zero_add];have e:(L++[(a,b)]).getD i (0,0)=L.getD i (0,0):=by simp[List.getD,List.getElem?_append_left h]
   rcases j with _|j
   . show V.int .i64 _=V.int .i64 _;rw[e]
   . show V.int .i64 _=V.int .i64 _;rw[e]
 . rw[J2l h];obtain rfl:i=L.length:=by omega
   have e:(L++[(a,b)]).getD L.length (0,0)=(a,b):=by simp[List.getD]
   rw[Nat.sub_self,J1i];rcases j with _|_|j
   . show f 0 0=V.int .i64 _;rw[e,h0]
   . show f 0 1=V.int .i64 _;rw[e,h1]
   . omega
theorem Q4e.of {o:Option V} {v:V} {A:V->Prop} {B:Prop} (h:o=some v) (hA:A v):Q4e o A B:=⟨fun w hw=>by rw[h] at hw;cases hw;exact hA,fun hn=>by rw[h] at hn;cases hn⟩
set_option maxHeartbeats 16000000 in
theorem J4c (g:G) (hs:g.Small) (hgc:g.conn=true) (h12:(J7i g).length<=600) (h0:0<(J0l g).length):Ret Try.prog 6 [g.v] (.tup [.fz (J2v g).length 2 false (sF (J2v g)),.int .i64 0]):=by
 obtain⟨hg,_⟩:=J0o hgc;obtain⟨f1,f2,f3,f4,f5,f6,f7⟩:=J0f hg;have hcn:=J5Y g hs;rw[hgc] at hcn;have hed:=J8f g hs hg h12;refine J0h rfl ?_;refine J0d mixed Try.func6 rfl hc6 hr6 rfl ?_;have hle:=J3n hg;have hso:=J6m 17 (by kernel_rfl) (fun x y=>cpI x.w y.w) J7O ltW wo_w Q2H (J0l g) (by omega)
 repeat' ((conv=>whnf);first|(refine Br.tt ?_)|(refine Br.nbeq ?_ ?_<;>intro _<;>try omega)|(refine Bd.q ?_)|(refine Len.q ?_)|(refine MkS.vec ?_)|(refine hcn.go ?_)|(refine hed.go ?_)|(refine Chk.q ?_)|(refine J0d mixed Try.func15 rfl hc15 hr15 rfl ?_)|(refine J0W [(0,some 2)] [] (hso.mono ?_) ⟨J0a.vec rfl rfl (Nat.zero_add _),J0a.fn True.intro,True.intro⟩ (by repeat' (first|exact tI|(refine⟨⟨_,rfl,?_⟩,?_⟩)|(refine⟨by omega,rfl,fun i j hi hj=>?_⟩)|exact VLe.rfl)) rfl;rintro _ _ _ ⟨B,⟨hp,hsl⟩,rfl,rfl⟩))
 all_goals (conv=>whnf)
 have hBl:=hp.length_eq;have hB:ByW g B:=⟨hp,hsl⟩;refine J0A mixed [] [] [4,5,6,7,8,9,10,11,12,13,14,15,16,17,18,19,20,21,22,23,24,25,26,27,28,29] [3,2,0] (fun v:Nat=>[(32,.int .i64 v),(31,.int .i64 g.ids.length),(2,.nilslice),(3,.int .i64 0),(4,.fz (J0l g).length 3 false (eF (J0l g))),(5,.vec 2 3 0 (0+(J0l g).length)),(6,.vec 3 1 0 g.ids.length)]) (fun _ v=>[(3,.vec g.ids.length 1 (pF fun u=>if u<v then (u:Int) else 0)),(2,.vec (J0l g).length 3 (eF B)),(0,.cells [.fz g.ids.length 1 false (vI g.ids),.fz g.ports.length 1 false (vP g.ports)])]) (fun m v=>m=g.ids.length-v/\v<=g.ids.length) g.ids.length 0 ⟨rfl,Nat.zero_le _⟩ rfl (fun _=>rfl) ?_ ?_
 . refine J0g (fun _ _=>[(0,some 0),(2,some 2),(3,some 3)]) ?_ ?_ rfl
   . repeat' (first|exact tI|(refine⟨⟨_,rfl,?_⟩,?_⟩)|exact J0a.kf rfl|exact J0a.q)
   . repeat' (first|exact⟨Nat.le_refl _,rfl,fun i j hi hj=>VLe.of_eq (by obtain rfl:j=0:=(by omega);rfl)⟩|exact tI|(refine⟨⟨_,rfl,?_⟩,?_⟩)|exact J0a.kf rfl|(refine⟨Nat.le_refl _,rfl,fun i j hi hj=>?_⟩)|exact VLe.rfl|apply And.intro)
 rintro m v ⟨hm,hv⟩;by_cases hvn:v<g.ids.length
 . repeat' ((conv=>whnf);first|(refine Ix.w v ?_)|(refine Br.dec ?_ ?_<;>intro _<;>try omega)|(refine Ar.q ?_)|(refine Ltn.q ?_))
   all_goals (conv=>whnf)
   refine⟨g.ids.length-(v+1),v+1,by omega,⟨rfl,by omega⟩,?_⟩;refine J0g (fun _ _=>[(0,some 0),(2,some 2),(3,some 3)]) ?_ ?_ rfl
   . repeat' (first|exact tI|(refine⟨⟨_,rfl,?_⟩,?_⟩)|exact J0a.kf rfl|exact J0a.q)
   . repeat' (first|exact⟨Nat.le_refl _,rfl,fun i t hi ht=>by simp only[Nat.zero_add];exact J7j g.ids.length v i t ht⟩|exact tI|(refine⟨⟨_,rfl,?_⟩,?_⟩)|exact J0a.kf rfl|(refine⟨Nat.le_refl _,rfl,fun i j hi hj=>?_⟩)|exact VLe.rfl|apply And.intro)
 have ev:v=g.ids.length:=by omega
 subst ev
 repeat' ((conv=>whnf);first|(refine Br.dec ?_ ?_<;>intro _<;>try omega))
 all_goals (conv=>whnf)
 refine J0A mixed [] [] [5,6,7,8,9,10,11,12,13,14,15,16,17,18,19,20,21,22,23,24,25,26,27,28,29] [4,3,2,0] (fun s:Nat×(Nat->Int)=>[(9,.int .i64 s.1),(8,.map 4),(2,.nilslice),(3,.int .i64 0),(4,.fz (J0l g).length 3 false (eF (J0l g))),(5,.vec 2 3 0 (0+(J0l g).length)),(6,.vec 3 1 0 g.ids.length)]) (fun _ s=>[(4,.map (.st KE) (enX g (B.take s.1))),(3,.vec g.ids.length 1 (pF s.2)),(2,.vec (J0l g).length 3 (eF B)),(0,.cells [.fz g.ids.length 1 false (vI g.ids),.fz g.ports.length 1 false (vP g.ports)])]) (fun m s=>m=B.length-s.1/\Cls g B s.1 s.2) B.length (0,fun v=>(v:Int)) ⟨rfl,Cls.start B⟩ rfl (fun _=>rfl) ?_ ?_
 . refine J0g (fun _ _=>[(0,some 0),(2,some 2),(3,some 3),(4,some 4)]) ?_ ?_ rfl
   . repeat' (first|exact tI|exact J0a.map rfl|(refine⟨⟨_,rfl,?_⟩,?_⟩)|exact J0a.kf rfl|exact J0a.q)
   . repeat' (first|exact⟨Nat.le_refl _,rfl,fun i j hi hj=>VLe.of_eq (by obtain rfl:j=0:=(by omega);show V.int .i64 (if i<g.ids.length then (i:Int) else 0)=V.int .i64 _;rw[if_pos hi])⟩|exact⟨rfl,Q3F _ _⟩|exact tI|(refine⟨⟨_,rfl,?_⟩,?_⟩)|exact J0a.kf rfl|(refine⟨Nat.le_refl _,rfl,fun i j hi hj=>?_⟩)|exact VLe.rfl|apply And.intro)
 rintro m ⟨a,p⟩ ⟨hm,hC⟩;simp only at hm hC;have hal:=hC.le;by_cases hab:a<B.length
 . dsimp only
   repeat' ((conv=>whnf);first|(refine Br.dec ?_ ?_<;>intro _<;>try omega))
   all_goals (conv=>whnf)
   refine J0A mixed [] [] [5,6,7,8,9,10,11,12,13,14,15,16,17,18,19,20,21,22,23,24,25,26,27,28,29] [4,3,2,0] (fun k:Nat=>[(10,.int .i64 k),(9,.int .i64 a),(8,.map 4),(2,.nilslice),(3,.int .i64 0),(4,.fz (J0l g).length 3 false (eF (J0l g))),(5,.vec 2 3 0 (0+(J0l g).length)),(6,.vec 3 1 0 g.ids.length)]) (fun _ k=>[(4,.map (.st KE) (enX g (B.take k))),(3,.vec g.ids.length 1 (pF p)),(2,.vec (J0l g).length 3 (eF B)),(0,.cells [.fz g.ids.length 1 false (vI g.ids),.fz g.ports.length 1 false (vP g.ports)])]) (fun m k=>m=B.length-k/\a<=k/\k<=B.length/\∀j,a<=j->j<k->(gE B j).w=(gE B a).w) (B.length-a) a ⟨rfl,Nat.le_refl _,hal,fun j h1 h2=>by omega⟩ rfl (fun _=>rfl) ?_ ?_
   . exact J0e (fun _ _=>[(0,some 0),(2,some 2),(3,some 3),(4,some 4)])
   rintro m k ⟨hm2,hak,hk,hw⟩;have z1:0+k=k:=Nat.zero_add _;have z2:0+a=a:=Nat.zero_add _;by_cases hgo:k<B.length/\(gE B (0+k)).w=(gE B (0+a)).w
   . obtain⟨hkn,hwk⟩:=hgo;have he:=(hB.edge hg hkn).2;have h1:(gE B (0+k)).a<g.ids.length:=by rw[z1];exact he.lu
     have h2:(gE B (0+k)).b<g.ids.length:=by rw[z1];exact he.lv
     have hch:=hC.ch hg hB hak hkn (by rw[z1,z2] at hwk;exact hwk);have hput:∀b:Bool,b=chE g (gE B k)->mput (enX g (B.take k)) (Q2z (gE B (0+k))) (.bool b)=enX g (B.take (k+1)):=fun b hb=>by
      rw[z1];exact Q3E g (hB.nodup hg) hkn (by rw[hb])
     have hw':∀j,a<=j->j<k+1->(gE B j).w=(gE B a).w:=fun j h3 h4=>by
      by_cases e:j=k
      . subst e;rw[z1,z2] at hwk;exact hwk
      . exact hw j h3 (by omega)
     by_cases hpp:p (0+(gE B (0+k)).a)=p (0+(gE B (0+k)).b)
     . have hb:false=chE g (gE B k):=by
        rw[<- hch,decide_eq_true (by simpa only[Nat.zero_add] using hpp)];rfl
       repeat' ((conv=>whnf);first|(refine Ix.w k ?_)|(refine Ix.w a ?_)|(refine Ix.mk (gE B (0+k)).a rfl h1 ?_)|(refine Ix.mk (gE B (0+k)).b rfl h2 ?_)|(refine Br.dec ?_ ?_<;>intro _<;>try omega)|(refine Br.bne ?_ ?_<;>intro _<;>try omega)|(refine Ar.q ?_)|(refine Ltn.q ?_))
       all_goals (conv=>whnf)
       refine⟨B.length-(k+1),k+1,by omega,⟨rfl,by omega,by omega,hw'⟩,?_⟩;refine J0g (fun _ _=>[(0,some 0),(2,some 2),(3,some 3),(4,some 4)]) ?_ ?_ rfl
       . repeat' (first|exact tI|exact J0a.map rfl|(refine⟨⟨_,rfl,?_⟩,?_⟩)|exact J0a.kf rfl|exact J0a.q)
       . repeat' (first|exact⟨rfl,(hput _ hb).symm⟩|exact tI|(refine⟨⟨_,rfl,?_⟩,?_⟩)|exact J0a.kf rfl|(refine⟨Nat.le_refl _,rfl,fun i j hi hj=>?_⟩)|exact VLe.rfl|apply And.intro)
     . have hb:true=chE g (gE B k):=by
        rw[<- hch,decide_eq_false (by simpa only[Nat.zero_add] using hpp)];rfl
       repeat' ((conv=>whnf);first|(refine Ix.w k ?_)|(refine Ix.w a ?_)|(refine Ix.mk (gE B (0+k)).a rfl h1 ?_)|(refine Ix.mk (gE B (0+k)).b rfl h2 ?_)|(refine Br.dec ?_ ?_<;>intro _<;>try omega)|(refine Br.bne ?_ ?_<;>intro _<;>try omega)|(refine Ar.q ?_)|(refine Ltn.q ?_))
       all_goals (conv=>whnf)
       refine⟨B.length-(k+1),k+1,by omega,⟨rfl,by omega,by omega,hw'⟩,?_⟩;refine J0g (fun _ _=>[(0,some 0),(2,some 2),(3,some 3),(4,some 4)]) ?_ ?_ rfl
       . repeat' (first|exact tI|exact J0a.map rfl|(refine⟨⟨_,rfl,?_⟩,?_⟩)|exact J0a.kf rfl|exact J0a.q)
       . repeat' (first|exact⟨rfl,(hput _ hb).symm⟩|exact tI|(refine⟨⟨_,rfl,?_⟩,?_⟩)|exact J0a.kf rfl|(refine⟨Nat.le_refl _,rfl,fun i j hi hj=>?_⟩)|exact VLe.rfl|apply And.intro)
   . have hkn':k<B.length->(gE B k).w≠(gE B a).w:=fun h q=>hgo ⟨h,by rw[z1,z2];exact q⟩;have hka:a<k:=by
      by_cases e:a=k
      . subst e;exact(hkn' hab rfl).elim
      . omega
     repeat' ((conv=>whnf);first|(refine Ix.w k ?_)|(refine Ix.w a ?_)|(refine Br.dec ?_ ?_<;>intro _<;>try omega)|(refine Br.nble ?_ ?_<;>intro _<;>try omega)|(refine Bd.q ?_)|(refine Ltn.q ?_))
     all_goals (conv=>whnf)
     all_goals
      refine J0A mixed [85,86] [] [5,6,7,8,9,10,11,12,13,14,15,16,17,18,19,20,21,22,23,24,25,26,27,28,29] [4,3,2,0] (fun s:Nat×(Nat->Int)=>[(87,.int .i64 s.1),(10,.int .i64 k),(8,.map 4),(2,.nilslice),(3,.int .i64 0),(4,.fz (J0l g).length 3 false (eF (J0l g))),(5,.vec 2 3 0 (0+(J0l g).length)),(6,.vec 3 1 0 g.ids.length)]) (fun _ s=>[(4,.map (.st KE) (enX g (B.take k))),(3,.vec g.ids.length 1 (pF s.2)),(2,.vec (J0l g).length 3 (eF B)),(0,.cells [.fz g.ids.length 1 false (vI g.ids),.fz g.ports.length 1 false (vP g.ports)])]) (fun m s=>m=(k-a)-s.1/\s.1<=k-a/\Jng g B a k (a+s.1) s.2) (k-a) (0,p) ⟨rfl,Nat.zero_le _,⟨⟨Nat.le_refl _,hak,hk⟩,hC.pt⟩⟩ rfl (fun _=>rfl) ?_ ?_
      . exact J0e (fun _ _=>[(0,some 0),(2,some 2),(3,some 3),(4,some 4)])
      rintro m3 ⟨i,q⟩ ⟨hm3,hi,hJ⟩;simp only at hm3 hi hJ;by_cases hik:i<k-a
      . dsimp only;have e0:0+a+i=a+i:=by omega
        have he:=(hB.edge hg (i:=a+i) (by omega)).2;have h1:(gE B (0+a+i)).a<g.ids.length:=by rw[e0];exact he.lu
        have h2:(gE B (0+a+i)).b<g.ids.length:=by rw[e0];exact he.lv
        have hjo:=Q3v g.ids.length (by omega) q (gE B (0+a+i)).a (gE B (0+a+i)).b h1 h2
        repeat' ((conv=>whnf);first|(refine Ix.w i ?_)|(refine Br.dec ?_ ?_<;>intro _<;>try omega)|(refine Ar.q ?_)|(refine Ltn.q ?_)|(refine Chk.q ?_)|(refine J0W [(0,some 3)] [] (hjo.mono ?_) ⟨J0a.vec rfl rfl rfl,J0a.int rfl,J0a.int rfl,True.intro⟩ (by repeat' (first|exact tI|(refine⟨⟨_,rfl,?_⟩,?_⟩)|(refine⟨Nat.le_refl _,rfl,fun i j hi hj=>?_⟩)|exact VLe.rfl)) rfl;rintro _ _ _ ⟨q',hq',rfl,rfl⟩))
        all_goals (conv=>whnf)
        rename_i q' hq';refine⟨(k-a)-(i+1),(i+1,q'),by omega,⟨rfl,by omega,⟨⟨by omega,by omega,hk⟩,?_⟩⟩,?_⟩
        . have:=(hJ.step hg hB (by omega)).pt;rw[e0] at hq';exact this.congr hq'
        . exact J0e (fun _ _=>[(0,some 0),(2,some 2),(3,some 3),(4,some 4)])
      . have ei:i=k-a:=by omega
        subst ei;have hJ':Jng g B a k k q:=by have:=hJ;rwa[show a+(k-a)=k by omega] at this
        dsimp only
        repeat' ((conv=>whnf);first|(refine Br.dec ?_ ?_<;>intro _<;>try omega))
        all_goals (conv=>whnf)
        refine⟨B.length-k,(k,q),by omega,⟨rfl,hJ'.next hB hka hw hkn'⟩,?_⟩;exact J0e (fun _ _=>[(0,some 0),(2,some 2),(3,some 3),(4,some 4)])
 . have ea:a=B.length:=by omega
   subst ea;dsimp only;simp only[List.take_length]
   repeat' ((conv=>whnf);first|(refine Br.dec ?_ ?_<;>intro _<;>try omega))
   all_goals (conv=>whnf)
   refine J0A mixed [99,100] [5] [6,7,8,9,10,11,12,13,14,15,16,17,18,19,20,21,22,23,24,25,26,27,28,29] [5,4,3,2,0] (fun i:Nat=>[(14,.vec 5 2 0 (J6a g i).length),(101,.int .i64 i),(8,.map 4),(2,.nilslice),(3,.int .i64 0)]) (fun _ i=>[(5,.vec (J6a g i).length 2 (sF (J6a g i))),(4,.map (.st KE) (enX g B)),(3,.vec g.ids.length 1 (pF p)),(2,.vec (J0l g).length 3 (eF B)),(0,.cells [.fz g.ids.length 1 false (vI g.ids),.fz g.ports.length 1 false (vP g.ports)])]) (fun m i=>m=(J0l g).length-i/\i<=(J0l g).length) (J0l g).length 0 ⟨rfl,Nat.zero_le _⟩ rfl (fun _=>rfl) ?_ ?_
   . exact J0e (fun _ _=>[(0,some 0),(2,some 2),(3,some 3),(4,some 4),(5,none)])
   rintro m i ⟨hm,hi⟩;by_cases hin:i<(J0l g).length
   . have hmem:gE (J0l g) i∈B:=by rw[hp.mem_iff,<- J6O hin];exact List.getElem_mem hin
     have hfi:=Q1Z g hmem;have hln:=J5F g i;cases hch:chE g (gE (J0l g) i) with
     | true =>
       rw[hch] at hfi;have hse:=Q1d hin hch;have hsl:=J5F g (i+1);have hsl2:(J6a g (i+1)).length=(J6a g i).length+1:=by rw[hse,List.length_append];rfl
       repeat' ((conv=>whnf);first|(refine Ix.w i ?_)|(refine Br.dec ?_ ?_<;>intro _<;>try omega)|(refine Br.nbeq ?_ ?_<;>intro _<;>try omega)|(refine Ar.q ?_)|(refine Len.q ?_)|(refine Q4e.of hfi ?_))
       all_goals (conv=>whnf)
       refine⟨(J0l g).length-(i+1),i+1,by omega,⟨rfl,by omega⟩,?_⟩;dsimp only;rw[hsl2,hse];refine J0g (fun env own=>[(0,some 0),(2,some 2),(3,some 3),(4,some 4),(5,Q5h env 14)]) ?_ ?_ rfl
       . repeat' (first|exact tI|exact J0a.map rfl|(refine⟨⟨_,rfl,?_⟩,?_⟩)|exact J0a.kf rfl|exact J0a.q)
       . repeat' (first|exact⟨Nat.le_refl _,rfl,fun a b ha hb=>J7J (J6a g i) _ _ _ a b rfl _ rfl rfl ha hb⟩|exact tI|exact⟨rfl,rfl⟩|(refine⟨⟨_,rfl,?_⟩,?_⟩)|exact J0a.kf rfl|(refine⟨Nat.le_refl _,rfl,fun i j hi hj=>?_⟩)|exact VLe.rfl|apply And.intro)
     | false =>
       rw[hch] at hfi;have hse:=Q3f hin hch
       repeat' ((conv=>whnf);first|(refine Ix.w i ?_)|(refine Br.dec ?_ ?_<;>intro _<;>try omega)|(refine Ar.q ?_)|(refine Q4e.of hfi ?_))
       all_goals (conv=>whnf)
       refine⟨(J0l g).length-(i+1),i+1,by omega,⟨rfl,by omega⟩,?_⟩;dsimp only;rw[hse];exact J0e (fun _ _=>[(0,some 0),(2,some 2),(3,some 3),(4,some 4),(5,some 5)])
   . have ei:i=(J0l g).length:=by omega
     subst ei
     repeat' ((conv=>whnf);first|(refine Br.dec ?_ ?_<;>intro _<;>try omega)|(refine Len.q ?_))
     all_goals (conv=>whnf)
     rw[J5G];exact VLe.tup ⟨VLe.fz rfl (fun h=>h) (fun i j hi hj=>VLe.of_eq (by rw[J1i,Nat.zero_add])),VLe.rfl,True.intro⟩
theorem Q0d {g:G} (h:g.conn=true) (h2:2<=g.ids.length):0<(J0l g).length:=by
 obtain⟨hg,_⟩:=J0o h;obtain⟨f1,f2,f3,f4,f5,f6,f7⟩:=J0f hg;obtain⟨u,hu,_⟩:=(Q36 h).near 1 (by omega) (by omega);have hun:=(Q36 h).rng 1 u (by omega) hu;have hne:u≠1:=fun e=>by have:=(J57 hg).irr 1 (by omega);rw[e] at hu;rw[hu] at this;cases this
 obtain⟨l,hl,e⟩:=J1O.1 hu;have hok:=(J0s.1 (f6 1 (by omega))).1 l hl;have hE:J28 g 1 u l.2:=⟨by omega,hun,by
  have:((u:Nat):Int)=l.1:=by omega
  rw[this];exact hl⟩
 by_cases q:1<u
 . exact List.length_pos_of_mem ((J1J hg (e:=⟨1,u,l.2⟩)).2 ⟨q,hE⟩)
 . obtain rfl:u=0:=by omega
   exact List.length_pos_of_mem ((J1J hg (e:=⟨0,1,l.2⟩)).2 ⟨by show 0<1;omega,hE.symm hg⟩)
theorem J6p (L:List (Nat×Nat)) (hl:L.length<=1000):Ret Try.prog 8 [.fz L.length 2 false (sF L),.fz L.length 2 false (sF L)] (.bool true):=by
 refine J0h rfl ?_;refine J0d mixed Try.func8 rfl hc8 hr8 rfl ?_
 repeat' ((conv=>whnf);first|(refine Br.bne ?_ ?_<;>intro _<;>try omega))
 all_goals (conv=>whnf)
 refine J1r mixed [0,1] (fun i:Nat=>[(5,.int .i64 i)]) (fun m i=>m=L.length-i/\i<=L.length) L.length 0 ⟨rfl,Nat.zero_le _⟩ ?_ ?_
 . exact J0e (fun _ _=>[])
 rintro m i ⟨hm,hi⟩
 repeat' ((conv=>whnf);first|(refine Br.dec ?_ ?_<;>intro _<;>try omega)|(refine Ar.q ?_)|(refine Ix.q ?_)|(refine Br.any (fun _=>?_) (fun _=>?_)))
 all_goals (conv=>whnf)
 all_goals first
  | (exfalso;simp_all;done)
  | exact VLe.rfl
  | (refine⟨L.length-(i+1),i+1,by omega,⟨rfl,by omega⟩,?_⟩
     exact J0e (fun _ _=>[]))
theorem Q41 {α β:Type} (f:α->List β) (k:Nat) (h:∀a,(f a).length<=k):∀l:List α,(l.flatMap f).length<=l.length*k
 | []=>by simp
 | a::l=>by
   have:=Q41 f k h l;have:=h a;rw[List.flatMap_cons,List.length_append,List.length_cons,Nat.add_mul];omega
theorem J9u {g:G} (hg:g.valid=true):(J7i g).length<=576:=by
 obtain⟨f1,f2,f3,f4,f5,f6,f7⟩:=J0f hg;rw[<- J3n hg,J0l];refine Nat.le_trans (Q41 _ 24 (fun a=>Nat.le_trans (List.length_filterMap_le _ _) (by simp;omega)) _) ?_;rw[List.length_range];omega
theorem Q3l {g:G} (hg:g.valid=true) (h:g.ids.length=1):J0l g=[]:=by
 rw[J0l,h];show((List.range 1).flatMap fun a=>(List.range 1).filterMap (edE g a))=[];have e:edE g 0 0=none:=if_neg (fun q=>by omega);simp[List.range_succ,e]
theorem J9Y (cl:FuncId):Ret Try.prog 50 [.nilslice,.int .i64 0,.int .i64 0,.fn (.func cl) false []] (.tup []):=by
 refine J0h rfl ?_;refine J0d mixed Try.func50 rfl Q5I Q5G rfl ?_
 repeat' ((conv=>whnf);first|(refine Ar.q ?_))
 all_goals (conv=>whnf)
 refine J04 mixed 1 ?_
 repeat' ((conv=>whnf);first|(refine Br.ff ?_))
 all_goals (conv=>whnf)
 exact VLe.rfl
theorem J8x (cl:FuncId):Ret Try.prog 36 [.nilslice,.int .i64 0,.fn (.func cl) false []] (.tup []):=by
 have hi:=J9Y cl;refine J0h rfl ?_;refine J0d mixed Try.func36 rfl hc36 hr36 rfl ?_
 repeat' ((conv=>whnf);first|fail)
 all_goals (conv=>whnf)
 refine J04 mixed 1 ?_
 repeat' ((conv=>whnf);first|(refine Br.ff ?_)|(refine hi.go ?_))
 all_goals (conv=>whnf)
 refine J04 mixed 1 ?_
 repeat' ((conv=>whnf);first|(refine Br.ff ?_))
 all_goals (conv=>whnf)
 exact VLe.rfl
theorem J8y (cl:FuncId):Ret Try.prog 16 [.nilslice,.fn (.func cl) false []] (.tup []):=by
 have hi:=J8x cl;refine J0h rfl ?_;refine J0d mixed Try.func16 rfl hc16 hr16 rfl ?_
 repeat' ((conv=>whnf);first|(refine hi.go ?_))
 all_goals (conv=>whnf)
 exact VLe.rfl
set_option maxHeartbeats 16000000 in
theorem J6l (g:G) (hs:g.Small) (hgc:g.conn=true) (h1:g.ids.length=1):Ret Try.prog 6 [g.v] (.tup [.fz (J2v g).length 2 false (sF (J2v g)),.int .i64 0]):=by
 obtain⟨hg,_⟩:=J0o hgc;obtain⟨f1,f2,f3,f4,f5,f6,f7⟩:=J0f hg;have hcn:=J5Y g hs;rw[hgc] at hcn;have he0:=Q3l hg h1;have hle:=J3n hg;have h0:(J0l g).length=0:=by rw[he0];rfl
 have hed:=J8f g hs hg (by omega);have hsp:J2v g=[]:=by
  have:=J5G g;rw[J6a,he0] at this;exact this.symm
 rw[hsp];refine J0h rfl ?_;refine J0d mixed Try.func6 rfl hc6 hr6 rfl ?_;have hnil:=J8y 17;have hso:=J6m 17 (by kernel_rfl) (fun x y=>cpI x.w y.w) J7O ltW wo_w Q2H (J0l g) (by omega)
 repeat' ((conv=>whnf);first|(refine Br.tt ?_)|(refine Br.nbeq ?_ ?_<;>intro _<;>try omega)|(refine Bd.q ?_)|(refine Len.q ?_)|(refine Q5m.mk ?_ ?_)|(refine MkS.vec ?_)|(refine hcn.go ?_)|(refine hed.go ?_)|(refine Chk.q ?_)|(refine J0d mixed Try.func15 rfl hc15 hr15 rfl ?_)|(refine J0W [(0,some 2)] [] (hso.mono ?_) ⟨J0a.vec rfl rfl (Nat.zero_add _),J0a.fn True.intro,True.intro⟩ (by repeat' (first|exact tI|(refine⟨⟨_,rfl,?_⟩,?_⟩)|(refine⟨by omega,rfl,fun i j hi hj=>?_⟩)|exact VLe.rfl|apply And.intro)) rfl;rintro _ _ _ ⟨B,⟨hp,hsl⟩,rfl,rfl⟩))
 all_goals (conv=>whnf)
 . refine hnil.go ?_
   repeat' ((conv=>whnf);first|(refine Bd.q ?_)|(refine Len.q ?_)|(refine MkS.vec ?_))
   all_goals (conv=>whnf)
   refine J0A mixed [2,3,4,5,6,31] [] [2,3,4,5,6,7,8,9,10,11,12,13,14,15,16,17,18,19,20,21,22,23,24,25,26,27,28,29] [1,0] (fun v:Nat=>[(32,.int .i64 v)]) (fun own v=>J2T own 1 (.vec g.ids.length 1 (pF fun u=>if u<v then (u:Int) else 0))) (fun m v=>m=g.ids.length-v/\v<=g.ids.length) g.ids.length 0 ⟨rfl,Nat.zero_le _⟩ rfl (fun _=>rfl) ?_ ?_
   . refine J0g (fun _ _=>[(0,some 0),(1,some 1)]) ?_ ?_ rfl
     . repeat' (first|exact tI|(refine⟨⟨_,rfl,?_⟩,?_⟩)|exact J0a.kf rfl|exact J0a.q)
     . repeat' (first|exact⟨Nat.le_refl _,rfl,fun i j hi hj=>VLe.of_eq (by obtain rfl:j=0:=(by omega);rfl)⟩|exact tI|(refine⟨⟨_,rfl,?_⟩,?_⟩)|exact J0a.kf rfl|apply And.intro)
   rintro m v ⟨hm,hv⟩;by_cases hvn:v<g.ids.length
   . repeat' ((conv=>whnf);first|(refine Ix.w v ?_)|(refine Br.dec ?_ ?_<;>intro _<;>try omega)|(refine Ar.q ?_)|(refine Ltn.q ?_))
     all_goals (conv=>whnf)
     refine⟨g.ids.length-(v+1),v+1,by omega,⟨rfl,by omega⟩,?_⟩;refine J0g (fun _ _=>[(0,some 0),(1,some 1)]) ?_ ?_ rfl
     . repeat' (first|exact tI|(refine⟨⟨_,rfl,?_⟩,?_⟩)|exact J0a.kf rfl|exact J0a.q)
     . repeat' (first|exact⟨Nat.le_refl _,rfl,fun i t hi ht=>by simp only[Nat.zero_add];exact J7j g.ids.length v i t ht⟩|exact tI|(refine⟨⟨_,rfl,?_⟩,?_⟩)|exact J0a.kf rfl|apply And.intro)
   have ev:v=g.ids.length:=by omega
   subst ev
   repeat' ((conv=>whnf);first|(refine Br.dec ?_ ?_<;>intro _<;>try omega))
   all_goals (conv=>whnf)
   refine J04 mixed 1 ?_
   repeat' ((conv=>whnf);first|(refine Br.ff ?_))
   all_goals (conv=>whnf)
   refine J04 mixed 1 ?_
   repeat' ((conv=>whnf);first|(refine Br.dec ?_ ?_<;>intro _<;>try omega))
   all_goals (conv=>whnf)
   exact VLe.tup ⟨VLe.nilfz rfl,VLe.rfl,True.intro⟩
 . have hBl:=hp.length_eq;have hB0:B.length=0:=by omega
   refine J0A mixed [2,3,4,5,6,31] [] [4,5,6,7,8,9,10,11,12,13,14,15,16,17,18,19,20,21,22,23,24,25,26,27,28,29] [3,2,0] (fun v:Nat=>[(32,.int .i64 v)]) (fun own v=>J2T own 3 (.vec g.ids.length 1 (pF fun u=>if u<v then (u:Int) else 0))) (fun m v=>m=g.ids.length-v/\v<=g.ids.length) g.ids.length 0 ⟨rfl,Nat.zero_le _⟩ rfl (fun _=>rfl) ?_ ?_
   . refine J0g (fun _ _=>[(0,some 0),(2,some 2),(3,some 3)]) ?_ ?_ rfl
     . repeat' (first|exact tI|(refine⟨⟨_,rfl,?_⟩,?_⟩)|exact J0a.kf rfl|exact J0a.q)
     . repeat' (first|exact⟨Nat.le_refl _,rfl,fun i j hi hj=>VLe.of_eq (by obtain rfl:j=0:=(by omega);rfl)⟩|exact tI|(refine⟨⟨_,rfl,?_⟩,?_⟩)|exact J0a.kf rfl|apply And.intro)
   rintro m v ⟨hm,hv⟩;by_cases hvn:v<g.ids.length
   . repeat' ((conv=>whnf);first|(refine Ix.w v ?_)|(refine Br.dec ?_ ?_<;>intro _<;>try omega)|(refine Ar.q ?_)|(refine Ltn.q ?_))
     all_goals (conv=>whnf)
     refine⟨g.ids.length-(v+1),v+1,by omega,⟨rfl,by omega⟩,?_⟩;refine J0g (fun _ _=>[(0,some 0),(2,some 2),(3,some 3)]) ?_ ?_ rfl
     . repeat' (first|exact tI|(refine⟨⟨_,rfl,?_⟩,?_⟩)|exact J0a.kf rfl|exact J0a.q)
     . repeat' (first|exact⟨Nat.le_refl _,rfl,fun i t hi ht=>by simp only[Nat.zero_add];exact J7j g.ids.length v i t ht⟩|exact tI|(refine⟨⟨_,rfl,?_⟩,?_⟩)|exact J0a.kf rfl|(refine⟨Nat.le_refl _,rfl,fun i j hi hj=>?_⟩)|exact VLe.rfl|apply And.intro)
   have ev:v=g.ids.length:=by omega
   subst ev
   repeat' ((conv=>whnf);first|(refine Br.dec ?_ ?_<;>intro _<;>try omega))
   all_goals (conv=>whnf)
   refine J04 mixed 1 ?_
   repeat' ((conv=>whnf);first|(refine Br.dec ?_ ?_<;>intro _<;>try omega))
   all_goals (conv=>whnf)
   refine J04 mixed 1 ?_
   repeat' ((conv=>whnf);first|(refine Br.dec ?_ ?_<;>intro _<;>try omega))
   all_goals (conv=>whnf)
   exact VLe.tup ⟨VLe.nilfz rfl,VLe.rfl,True.intro⟩
theorem Q1b (g:G) (hs:g.Small) (hgc:g.conn=true):Ret Try.prog 6 [g.v] (.tup [.fz (J2v g).length 2 false (sF (J2v g)),.int .i64 0]):=by
 have h5:=J9u (J0o hgc).1;by_cases h0:0<(J0l g).length
 . exact J4c g hs hgc (by omega) h0
 . have h1:=(J0f (J0o hgc).1).1;have:¬ 2<=g.ids.length:=fun q=>h0 (Q0d hgc q);exact J6l g hs hgc (by omega)
structure Net where
 n:Int
 links:List Int
 weights:List Int
 ids:List Int
 apart:Bool
 back:Bool
def Net.v (x:Net):V:=.agg [.int .i64 x.n,.fz x.links.length 1 false (vI x.links),.fz x.weights.length 1 false (vI x.weights),.fz x.ids.length 1 false (vI x.ids),.bool x.apart,.bool x.back]
structure Net.Small (x:Net):Prop where
 links:x.links.length<=9223372036854775807
 weights:x.weights.length<=9223372036854775807
 ids:x.ids.length<=9223372036854775807
abbrev Ps:=List (List (Int×Int))
def lnk (p:Ps) (a:Nat) (b:Int):Bool:=(gR p a).any fun l=>decide (l.1=b)
theorem J9M (g:G) (hs:g.Small) (a:Nat) (b:Int) (ha:a<g.ports.length):Ret Try.prog 54 [g.v,.int .i64 a,.int .i64 b] (.bool (lnk g.ports a b)):=by
 have hrl:=J4A hs.rows a;refine J0h rfl ?_;refine J0d mixed Try.func54 rfl hc54 hr54 rfl ?_
 repeat' ((conv=>whnf);first|fail)
 all_goals (conv=>whnf)
 refine J1r mixed [1,2,3] (fun i:Nat=>[(7,.int .i64 i)]) (fun m i=>m=(gR g.ports a).length-i/\i<=(gR g.ports a).length/\((gR g.ports a).take i).any (fun l=>decide (l.1=b))=false) (gR g.ports a).length 0 ⟨rfl,Nat.zero_le _,rfl⟩ ?_ ?_
 . exact J0e (fun _ _=>[(0,some 0)])
 rintro m i ⟨hm,hi,hall⟩
 repeat' ((conv=>whnf);first|(refine Br.dec ?_ ?_<;>intro _<;>try omega)|(refine Ar.q ?_)|(refine Ix.q ?_))
 all_goals (conv=>whnf)
 . refine VLe.bool ?_;symm;rw[lnk,List.any_eq_true];exact⟨_,J02 (show i<(gR g.ports a).length by omega),by simp;omega⟩
 . refine⟨(gR g.ports a).length-(i+1),i+1,by omega,⟨rfl,by omega,?_⟩,?_⟩
   . rw[J1k _ _ (by omega),List.any_append,hall];simp;omega
   . exact J0e (fun _ _=>[(0,some 0)])
 . refine VLe.bool ?_;rw[lnk,<- hall,List.take_of_length_le (by omega)]
def Q32 (bk:Bool) (r:List (Int×Int)) (l:Int×Int):List (Int×Int):=if bk then l::r else r++[l]
def J3R (bk:Bool) (p:Ps) (a b:Nat) (w:Int):Ps:=if a=b\/lnk p a b=true then p else (p.set a (Q32 bk (gR p a) ((b:Int),w))).set b (Q32 bk (gR p b) ((a:Int),w))
def J62 (p:Ps) (i:Nat):Nat:=(gR p i).length
def J7T (p:Ps) (i:Nat):Nat->Nat->V:=vF (gR p i)
abbrev Q3D (p:Ps):Blk:=.fam p.length 2 (J62 p) (J7T p) []
def KS4:List Nat:=[2,3,4,5,6,7,8,9,10,11,12,13,14,15,16,17,18,19,20,21,22,23,24,25,26,27,28,29]
def Q4X (g:G):Own:=[(0,.vec g.ids.length 1 (vI g.ids)),(1,Q3D g.ports)]
abbrev gV1 (i n:Nat):V:=.agg [.vec 0 1 0 i,.vec 1 1 0 n]
theorem Q2x (g:G):VLe (V.agg [.fz g.ids.length 1 false (J0n 0 (vI g.ids)),.fz g.ports.length 1 false fun i _=>.fz (J62 g.ports i) 2 false (J7T g.ports i)]) g.v:=by
 refine VLe.agg ⟨VLe.fz rfl (fun h=>h) (fun i j hi hj=>VLe.of_eq ?_),VLe.rfl,True.intro⟩;simp[J0n]
theorem J9P (g:G) (a b:Nat):VLe (V.agg [.fz g.ids.length 1 false (J0n 0 (vI g.ids)),.fz g.ports.length 1 false fun i _=>.fz (J62 g.ports i) 2 false (J3U (J3U (J7T g.ports) a (J7T g.ports a)) b (J7T g.ports b) i)]) g.v:=by
 have e:J3U (J3U (J7T g.ports) a (J7T g.ports a)) b (J7T g.ports b)=J7T g.ports:=by
  funext i;simp only[J3U];split
  . rename_i h;rw[h]
  . split
    . rename_i h;rw[h]
    . rfl
 rw[e];exact Q2x g
theorem J5f (p:Ps) (a:Nat) (A:List (Int×Int)) (ha:a<p.length) (i:Nat):gR (p.set a A) i=if i=a then A else gR p i:=by
 simp only[gR,List.getD,List.getElem?_set];by_cases h:a=i
 . subst h;simp[ha]
 . have:¬ i=a:=fun e=>h e.symm;simp[h,this]
theorem J2M (l:List (Int×Int)) (x:Int×Int) (i:Nat):gF (l++[x]) i=if i<l.length then gF l i else if i=l.length then x else (0,0):=by
 by_cases h:i<l.length
 . simp only[gF,List.getD,List.getElem?_append_left h,if_pos h]
 . rw[if_neg h];by_cases h2:i=l.length
   . subst h2;simp[gF]
   . simp[gF,h2,List.getElem?_eq_none (by simp;omega:(l++[x]).length<=i)]
theorem J7K (l:List (Int×Int)) (a b:Int) (i j:Nat) (hi:i<l.length+1) (hj:j<2) :
 VLe (J4P (J0n 0 (vF l)) l.length (J0n 0 (tab [[.int .i64 a,.int .i64 b]])) i j) (vF (l++[(a,b)]) i j):=by
 apply VLe.of_eq;by_cases h:i<l.length
 . rw[J2k h];obtain rfl|rfl:j=0\/j=1:=by omega
   . simp[J0n,vF,J2M,h]
   . simp[J0n,vF,J2M,h]
 . rw[J2l h];have:i=l.length:=by omega
   subst this;obtain rfl|rfl:j=0\/j=1:=by omega
   . simp[J0n,vF,J2M,tab]
   . simp[J0n,vF,J2M,tab]
theorem J7I (l:List (Int×Int)) (a b:Int) (i j:Nat) (hi:i<1+l.length) (hj:j<2) :
 VLe (J4P (J0n 0 (tab [[.int .i64 a,.int .i64 b]])) 1 (J0n 0 (vF l)) i j) (vF ((a,b)::l) i j):=by
 apply VLe.of_eq;cases i with
 | zero =>
   rw[J2k (by omega)];obtain rfl|rfl:j=0\/j=1:=by omega
   . simp[J0n,vF,gF,tab]
   . simp[J0n,vF,gF,tab]
 | succ i =>
   rw[J2l (by omega)];obtain rfl|rfl:j=0\/j=1:=by omega
   . simp[J0n,vF,gF]
   . simp[J0n,vF,gF]
theorem Q4A {p:Ps} {a b:Nat} (ha:a<p.length) (hb:b<p.length) (hab:a≠b) {A B:List (Int×Int)} {fa fb:Nat->Nat->V} {la lb:Nat} (h1:A.length=la) (h2:B.length=lb)
 (h3:∀j t,j<la->t<2->VLe (fa j t) (vF A j t)) (h4:∀j t,j<lb->t<2->VLe (fb j t) (vF B j t)) (ρ:Rn) :
 Q4g ρ (.fam p.length 2 (J59 (J59 (J62 p) a la) b lb) (J3U (J3U (J7T p) a fa) b fb) []) (Q3D ((p.set a A).set b B)):=by
 refine⟨by simp,rfl,True.intro,fun i hi=>?_,fun i j t hi hn hj ht=>?_⟩
 . show(gR ((p.set a A).set b B) i).length=_;rw[J5f _ b B (by simpa using hb),J5f p a A ha];simp only[J59];split
   . exact h2
   . split
     . exact h1
     . rfl
 . simp only[J59] at hj;show VLe _ (vF (gR ((p.set a A).set b B) i) j t);rw[J5f _ b B (by simpa using hb),J5f p a A ha];simp only[J3U];split
   . rename_i e;rw[if_pos e] at hj;exact h4 j t hj ht
   . rename_i e;rw[if_neg e] at hj;split
     . rename_i e;rw[if_pos e] at hj;exact h3 j t hj ht
     . exact VLe.rfl
set_option maxHeartbeats 8000000 in
theorem J9N (x:Net) (g:G) (hs:g.Small) (hr:∀v,(gR g.ports v).length<=1000) (a b:Nat) (ha:a<g.ports.length) (hb:b<g.ports.length) (w:Int) :
 J0H Try.prog 39 [x.v,gV1 g.ids.length g.ports.length,.int .i64 a,.int .i64 b,.int .i64 w] (Q4X g) KS4 fun v own' _=>v=.tup []/\own'=Q4X ⟨g.ids,J3R x.back g.ports a b w⟩:=by
 have hl:=J9M g hs a b ha;have ra:J62 g.ports a<=1000:=hr a;have rb:J62 g.ports b<=1000:=hr b;refine J2d (Q0q ?_);by_cases hab:a=b
 . rw[J3R,if_pos (.inl hab)];refine J0d mixed Try.func39 rfl Q5J Q5H rfl ?_
   repeat' ((conv=>whnf);first|(refine Br.dec ?_ ?_<;>intro _<;>try omega))
   all_goals (conv=>whnf)
   exact⟨_,J1P.refl _,J2H (fun _=>[(0,some 0),(1,some 1)]) _ _ ⟨rfl,rfl⟩ (J0a.kf rfl) (by repeat' (first|(refine⟨rfl,rfl,True.intro,fun i hi=>rfl,fun i j t hi hn hj ht=>VLe.rfl⟩)|exact tI|(refine⟨⟨_,rfl,?_⟩,?_⟩)|(refine⟨Nat.le_refl _,rfl,fun i j hi hj=>?_⟩)|exact VLe.rfl)) rfl⟩
 cases hk:lnk g.ports a b with
 | true =>
   rw[hk] at hl;rw[J3R,if_pos (.inr hk)];refine J0d mixed Try.func39 rfl Q5J Q5H rfl ?_
   repeat' ((conv=>whnf);first|(refine Br.tt ?_)|(refine Br.dec ?_ ?_<;>intro _<;>try omega)|(refine J1N hl rfl ⟨by omega,by omega,Q2x g,VLe.rfl,VLe.rfl,True.intro⟩ ?_))
   all_goals (conv=>whnf)
   exact⟨_,J1P.refl _,J2H (fun _=>[(0,some 0),(1,some 1)]) _ _ ⟨rfl,rfl⟩ (J0a.kf rfl) (by repeat' (first|(refine⟨rfl,rfl,True.intro,fun i hi=>rfl,fun i j t hi hn hj ht=>VLe.rfl⟩)|exact tI|(refine⟨⟨_,rfl,?_⟩,?_⟩)|(refine⟨Nat.le_refl _,rfl,fun i j hi hj=>?_⟩)|exact VLe.rfl)) rfl⟩
 | false =>
   rw[hk] at hl;rw[J3R,if_neg (fun h=>h.elim hab (fun h=>by rw[hk] at h;cases h))];refine J6X 28 1 a rfl rfl ha rfl ?_;refine J6X 29 1 b rfl rfl hb (J0j hab) ?_;show J0H Try.prog _ _ [(29,.vec (J62 g.ports b) 2 (J7T g.ports b)),(28,.vec (J62 g.ports a) 2 (J7T g.ports a)),(0,.vec g.ids.length 1 (vI g.ids)),(1,.fam g.ports.length 2 (J62 g.ports) (J7T g.ports) [(b,29),(a,28)])] [2,3,4,5,6,7,8,9,10,11,12,13,14,15,16,17,18,19,20,21,22,23,24,25,26,27] _;refine J0d mixed Try.func39 rfl Q5J Q5H rfl ?_;obtain⟨xn,xl,xw,xi,xa,xb⟩:=x;cases xb
   . repeat' ((conv=>whnf);first|(refine Br.ff ?_)|(refine Br.dec ?_ ?_<;>intro _<;>try omega)|(refine Br.nbeq ?_ ?_<;>intro _<;>try omega)|(refine Ix.q ?_)|(refine Len.q ?_)|(refine Ltn.q ?_)|(refine J1N hl rfl ⟨by omega,by omega,Nat.le_refl _,Nat.le_refl _,J9P g a b,VLe.rfl,VLe.rfl,True.intro⟩ ?_)|(refine Opn.hd (by omega) ?_)|(refine Opn.tl (by omega) (Opn.hd (by omega) ?_))|(refine And.intro rfl ?_)|(refine And.intro (Ltn.mk (by omega) (Opn.hd (by omega) rfl)) ?_)|(refine J2f.hd (by omega) ?_)|(refine J2f.tl (by omega) (J2f.hd (by omega) ?_)))
     all_goals (conv=>whnf)
     all_goals exact⟨_,Q2J hab ha hb rfl rfl rfl rfl (by first|exact Nat.le_refl _|simp[J59,hab]) (by first|exact Nat.le_refl _|simp[J59]),J2H (fun _=>[(0,some 0),(1,some 1)]) _ _ ⟨rfl,rfl⟩ (J0a.kf rfl) ⟨⟨_,rfl,Nat.le_refl _,rfl,fun _ _ _ _=>VLe.rfl⟩,⟨_,rfl,Q4A ha hb hab (by first|(simp;done)|simp[Q32,J62]) (by first|(simp;done)|simp[J62]) (fun j t hj ht=>J7K _ _ _ _ _ hj ht) (fun j t hj ht=>J7K _ _ _ _ _ hj ht) _⟩,True.intro⟩ rfl⟩
   . repeat' ((conv=>whnf);first|(refine Br.tt ?_)|(refine Br.ff ?_)|(refine Br.dec ?_ ?_<;>intro _<;>try omega)|(refine Ix.q ?_)|(refine Len.q ?_)|(refine Ltn.q ?_)|(refine J1N hl rfl ⟨by omega,by omega,Nat.le_refl _,Nat.le_refl _,J9P g a b,VLe.rfl,VLe.rfl,True.intro⟩ ?_)|(refine Opn.hdl (by omega) (show J59 _ _ _ _=J62 g.ports b from if_neg (by omega)) ?_)|(refine Opn.tl (by omega) (Opn.hd (by omega) ?_))|(refine And.intro rfl ?_)|(refine J2f.hd (by omega) ?_)|(refine J2f.tl (by omega) (J2f.hd (by omega) ?_)))
     all_goals (conv=>whnf)
     all_goals exact⟨_,Q2J hab ha hb rfl rfl rfl rfl (by first|exact Nat.le_refl _|simp[J59,hab]) (by first|exact Nat.le_refl _|simp[J59]),J2H (fun _=>[(0,some 0),(1,some 1)]) _ _ ⟨rfl,rfl⟩ (J0a.kf rfl) ⟨⟨_,rfl,Nat.le_refl _,rfl,fun _ _ _ _=>VLe.rfl⟩,⟨_,rfl,Q4A ha hb hab (by first|(simp;omega)|(simp[Q32];omega)|(simp[Q32,J62];omega)) (by first|(simp;omega)|(simp[J62];omega)) (fun j t hj ht=>J7I _ _ _ _ _ hj ht) (fun j t hj ht=>J7I _ _ _ _ _ hj ht) _⟩,True.intro⟩ rfl⟩
theorem Q2y:∀{l m:List Int},l.Nodup->(∀a∈l,a∈m)->l.length<=m.length
 | [],m,_,_=>Nat.zero_le _
 | a::l,m,hn,hs=>by
   rw[List.nodup_cons] at hn;have ham:=hs a (by simp);have h1:=Q2y (l:=l) (m:=m.erase a) hn.2 (fun b hb=>(List.mem_erase_of_ne (fun e=>hn.1 (by rw[<- e];exact hb))).2 (hs b (by simp[hb])));have h2:=List.length_erase_of_mem ham;have h3:=List.length_pos_of_mem ham;simp only[List.length_cons];omega
def J5U (l:List Int):Nat->Int->Int
 | 0,i=>i
 | f+1,i=>if i∈l then J5U l f ((i+1) % 256) else i
def J4S (i:Int) (k:Nat):Int:=(i+k) % 256
theorem J6h {i:Int} {k:Nat}:(J4S i k+1) % 256=J4S i (k+1):=by rw[J4S,J4S];omega
theorem J96 {l:List Int} (hl:l.length<256) (i:Int):¬ ∀j,j<256->J4S i j∈l:=by
 intro h;have h1:((List.range 256).map (J4S i)).Nodup:=by
  rw[List.nodup_iff_pairwise_ne,List.pairwise_map];refine List.Pairwise.imp_of_mem ?_ List.nodup_range;intro a b ha hb hne e;rw[List.mem_range] at ha hb;rw[J4S,J4S] at e;omega
 have h2:=Q2y h1 (fun a ha=>by
  obtain⟨j,hj,rfl⟩:=List.mem_map.1 ha;exact h j (List.mem_range.1 hj))
 simp at h2;omega
def J63 (x:List Int):Nat->List Int
 | 0=>[]
 | v+1=>J63 x v++[J5U (J63 x v) 256 (J0K (gI x v) 256)]
theorem J3k (x:List Int):∀v,(J63 x v).length=v
 | 0=>rfl
 | v+1=>by rw[J63,List.length_append,J3k x v];rfl
theorem J0z (a:Int) {b:Int} (hb:1<=b):0<=J0K a b/\J0K a b<b:=by
 have h1:=Int.tmod_lt_of_pos a (show(0:Int)<b by omega);have h2:=Int.tmod_lt_of_pos (-a) (show(0:Int)<b by omega);rw[Int.neg_tmod] at h2;rw[J0K,if_neg (by omega)];split<;>omega
theorem Q03 {i:Int} (h0:0<=i) (h1:i<=255):J4S i 0=i:=by rw[J4S];omega
def ownN (x:Net) (n:Nat):Own:=[(0,.vec n 1 (vI (J63 x.ids n))),(1,.vec n 1 fun _ _=>.nilslice)]
def Net.n1 (x:Net):Int:=IntKind.i64.wrap (x.n-1)
def Net.size (x:Net) (most:Int):Nat:=(1+J0K x.n1 most).toNat
theorem J5e (l:List Int) (a:Int) (i:Nat):gI (l++[a]) i=if i<l.length then gI l i else if i=l.length then a else 0:=by
 by_cases h:i<l.length
 . simp only[gI,List.getD,List.getElem?_append_left h,if_pos h]
 . rw[if_neg h];by_cases h2:i=l.length
   . subst h2;simp[gI]
   . simp[gI,h2,List.getElem?_eq_none (by simp;omega:(l++[a]).length<=i)]
theorem Q0X (l:List Int) (a:Int) (n:Nat) (hn:l.length=n) (i j:Nat) (hi:i<n+1) (hj:j<1) :
 VLe (J4P (J0n 0 (vI l)) n (J0n 0 (tab [[.int .i64 a]])) i j) (vI (l++[a]) i j):=by
 apply VLe.of_eq;subst hn;by_cases h:i<l.length
 . rw[J2k h];simp only[J0n,vI,J5e,if_pos h]
 . rw[J2l h];have:i=l.length:=by omega
   subst this;obtain rfl:j=0:=by omega
   simp[J0n,vI,J5e,tab]
set_option maxHeartbeats 8000000 in
theorem Q1x (x:Net) (hx:x.Small) (most:Int) (h1:1<=most) (h2:most<=24) :
 J0H Try.prog 42 [x.v,.int .i64 most] [] KS fun v own' _=>v=gV1 (x.size most) (x.size most)/\own'=ownN x (x.size most):=by
 have hw:=J1F x.n1 most (by omega);have hwr:=J0z x.n1 h1;have hn:1+J0K x.n1 most=(x.size most:Nat):=by rw[Net.size];omega
 have hsz:1<=x.size most/\x.size most<=24:=by omega
 have hids:=hx.ids;generalize x.size most=n at *;refine J2d ?_;refine J0d mixed Try.func42 rfl hc42 hr42 rfl ?_
 repeat' ((conv=>whnf);first|(refine Ar.mk x.n1 rfl ?_)|(refine Ar.i64 (by omega) (by omega) ?_;rw[hn])|(refine Bd.q ?_)|(refine Len.q ?_)|(refine MkS.vec ?_)|(refine hw.go ?_))
 all_goals (conv=>whnf)
 refine J0A mixed [2,4,5,6] [4] [5,6,7,8,9,10,11,12,13,14,15,16,17,18,19,20,21,22,23,24,25,26,27,28,29] [4,3,2,1,0] (fun v:Nat=>[(7,.int .i64 v)]) (fun own v=>(4,.vec v 1 (vI (J63 x.ids v)))::J2T own 3 (.cells [.vec 4 1 0 v,.vec 2 1 0 n])) (fun m v=>m=n-v/\v<=n) n 0 ⟨rfl,by omega⟩ rfl (fun _=>rfl) ?_ ?_
 . exact J0e (fun _ _=>[(0,some 0),(1,some 1),(2,some 2),(3,some 3),(4,none)])
 rintro m v ⟨hm,hv⟩;have hat:=Q2l x.ids hids v;have hw2:=J1F (gI x.ids v) 256 (by omega);have hr2:=J0z (gI x.ids v) (b:=256) (by omega);have hil:=J3k x.ids v;have hsn:J63 x.ids (v+1)=J63 x.ids v++[J5U (J63 x.ids v) 256 (J0K (gI x.ids v) 256)]:=rfl;have htz:=Q03 hr2.1 (by omega);generalize J0K (gI x.ids v) 256=id0 at *;generalize hL:J63 x.ids v=L at *
 repeat' ((conv=>whnf);first|(refine Br.dec ?_ ?_<;>intro _<;>try omega)|(refine hat.go ?_)|(refine hw2.go ?_))
 all_goals (conv=>whnf)
 . refine J1r mixed [2,4,5,6,7] (fun p:Nat×Nat=>[(8,.int .i64 (J4S id0 p.1)),(9,.int .i64 p.2)]) (fun m p=>m=(256-p.1)*25+(v-p.2)/\p.1<=256/\p.2<=v/\(∀j,j<p.1->J4S id0 j∈L)/\(∀j,j<p.2->gI L j≠J4S id0 p.1)/\J5U L (256-p.1) (J4S id0 p.1)=J5U L 256 id0) _ (0,0) ⟨rfl,by omega,by omega,fun j hj=>(by omega),fun j hj=>(by omega),(by show J5U L 256 (J4S id0 0)=_;rw[htz])⟩ ?_ ?_
   . refine J0g (fun _ _=>[(0,some 0),(1,some 1),(2,some 2),(3,some 3),(4,some 4)]) ?_ ?_ rfl
     . repeat' (first|exact J0a.int htz.symm|exact tI|(refine⟨⟨_,rfl,?_⟩,?_⟩)|exact J0a.kf rfl|exact J0a.loc rfl)
     . repeat' (first|exact tI|(refine⟨⟨_,rfl,?_⟩,?_⟩)|exact J0a.kf rfl|exact J0a.q|(refine⟨Nat.le_refl _,rfl,fun i j hi hj=>?_⟩)|exact VLe.rfl|apply And.intro)
   rintro m ⟨k,u⟩ ⟨hm2,hk,hu,hall,hne,hfr⟩;simp only at hm2 hk hu hall hne hfr;have htr:0<=J4S id0 k/\J4S id0 k<=255:=by rw[J4S];omega
   have htn:(J4S id0 k+1).tmod 256=J4S id0 (k+1):=by rw[Int.tmod_eq_emod_of_nonneg (by omega),J6h]
   generalize hT:J4S id0 k=T at *
   repeat' ((conv=>whnf);first|(refine Br.dec ?_ ?_<;>intro _<;>try omega)|(refine Br.nbeq ?_ ?_<;>intro _<;>try omega)|(refine Ar.q ?_)|(refine Sv.mk _ rfl ?_)|(refine Nz.mk (by omega) ?_)|(refine Ix.q ?_)|(refine Len.q ?_)|(refine Ltn.q ?_))
   all_goals (conv=>whnf)
   . rename_i h3 h4;have hin:T∈L:=by rw[<- h4];exact J5g (by omega)
     have hk2:k<256:=by
      rcases Nat.lt_or_ge k 256 with h|h
      . exact h
      . exact(J96 (l:=L) (by omega) id0 (fun j hj=>hall j (by omega))).elim
     refine⟨_,(k+1,0),?_,⟨rfl,by omega,by omega,fun j hj=>?_,fun j hj=>(by omega),?_⟩,?_⟩
     . simp only;omega
     . simp only at hj;by_cases e:j=k
       . subst e;rw[hT];exact hin
       . exact hall j (by omega)
     . simp only;rw[<- hfr,show 256-k=(256-(k+1))+1 by omega,J5U,if_pos hin,<- hT,J6h]
     . refine J0g (fun _ _=>[(0,some 0),(1,some 1),(2,some 2),(3,some 3),(4,some 4)]) ?_ ?_ rfl
       . repeat' (first|exact J0a.int htn|exact tI|(refine⟨⟨_,rfl,?_⟩,?_⟩)|exact J0a.kf rfl|exact J0a.loc rfl)
       . repeat' (first|exact tI|(refine⟨⟨_,rfl,?_⟩,?_⟩)|exact J0a.kf rfl|exact J0a.q|(refine⟨Nat.le_refl _,rfl,fun i j hi hj=>?_⟩)|exact VLe.rfl|apply And.intro)
   . rename_i h3 h4;refine⟨_,(k,u+1),?_,⟨rfl,hk,by omega,hall,fun j hj=>?_,by rw[hT];exact hfr⟩,?_⟩
     . simp only;omega
     . simp only at hj ⊢;rw[hT];by_cases e:j=u
       . subst e;simpa using h4
       . exact hne j (by omega)
     . refine J0g (fun _ _=>[(0,some 0),(1,some 1),(2,some 2),(3,some 3),(4,some 4)]) ?_ ?_ rfl
       . repeat' (first|exact J0a.int hT.symm|exact tI|(refine⟨⟨_,rfl,?_⟩,?_⟩)|exact J0a.kf rfl|exact J0a.loc rfl)
       . repeat' (first|exact tI|(refine⟨⟨_,rfl,?_⟩,?_⟩)|exact J0a.kf rfl|exact J0a.q|(refine⟨Nat.le_refl _,rfl,fun i j hi hj=>?_⟩)|exact VLe.rfl|apply And.intro)
   . have hno:T∉L:=fun h=>by
      obtain⟨j,j1,j2⟩:=Q4Y h;exact hne j (by omega) j2
     have hfin:J5U L 256 id0=T:=by
      rw[<- hfr];cases h:256-k with
      | zero=>rfl
      | succ f=>rw[J5U,if_neg hno]
     rw[hfin] at hsn
     repeat' ((conv=>whnf);first|fail)
     all_goals (conv=>whnf)
     all_goals
      refine⟨n-(v+1),v+1,by omega,⟨rfl,by omega⟩,?_⟩;simp only[hsn];refine J0g (fun env own=>[(0,some 0),(1,some 1),(2,some 2),(3,some 3),(4,Q46 own 3 0)]) ?_ ?_ rfl
      . repeat' (first|exact tI|(refine⟨⟨_,rfl,?_⟩,?_⟩)|exact J0a.kf rfl|exact J0a.loc rfl)
      . repeat' (first|(refine⟨Nat.le_refl _,rfl,fun i j hi hj=>?_⟩)|exact Q0X _ _ _ hil _ _ hi hj|exact tI|(refine⟨⟨_,rfl,?_⟩,?_⟩)|exact J0a.kf rfl|exact J0a.q|exact VLe.rfl|apply And.intro)
 . have e:v=n:=by omega
   subst e;exact J3f (fun v o=>[(0,Q0G v 0),(1,Q0G v 1)]) _ _ ⟨rfl,rfl⟩ (J0a.agg ⟨J0a.vec rfl rfl rfl,J0a.vec rfl rfl rfl,True.intro⟩) ⟨⟨_,rfl,Nat.le_refl _,rfl,fun _ _ _ _=>VLe.of_eq (by rw[hL])⟩,⟨_,rfl,Nat.le_refl _,rfl,fun i j hi hj=>VLe.of_eq (by obtain rfl:j=0:=(by omega);rfl)⟩,True.intro⟩ rfl
theorem Q4P {p:Ps} {r:List (Int×Int)} (h:r∈p):∃u,gR p u=r:=by
 obtain⟨i,hi,e⟩:=List.mem_iff_getElem.1 h;exact⟨i,by simp[gR,List.getD,hi,e]⟩
theorem J7P {g:G} (h1:g.ids.length<=1000) (h2:g.ports.length<=1000) (h3:∀u,(gR g.ports u).length<=1000):g.Small :=
 ⟨by omega,by omega,fun r hr=>by obtain⟨u,rfl⟩:=Q4P hr;have:=h3 u;omega⟩
theorem J6K (bk:Bool) (p:Ps) (a b:Nat) (w:Int):(J3R bk p a b w).length=p.length:=by
 rw[J3R];split<;>simp
theorem J6J (bk:Bool) (p:Ps) {a b:Nat} (w:Int) (ha:a<p.length) (hb:b<p.length) (u:Nat):(gR (J3R bk p a b w) u).length<=(gR p u).length+1:=by
 rw[J3R];split
 . omega
 . rename_i h;have hab:¬ a=b:=fun e=>h (.inl e);have hl:∀r l,(Q32 bk r l).length=r.length+1:=fun r l=>by rw[Q32];split<;>simp
   rw[J5f _ b _ (by simpa using hb),J5f p a _ ha];split
   . rename_i e;subst e;rw[hl];omega
   . split
     . rename_i e;subst e;rw[hl];omega
     . omega
def wgt (x:Net) (i:Nat):Int:=1+J0K (gI x.weights i) 15
def J17 (x:Net) (n:Nat):Nat->Ps
 | 0=>List.replicate n []
 | k+1=>J3R x.back (J17 x n k) (J0K (gI x.links k) ((k:Int)+1)).toNat (k+1) (wgt x k)
theorem J16 (x:Net) (n:Nat):∀k,(J17 x n k).length=n
 | 0=>by simp[J17]
 | k+1=>by rw[J17,J6K,J16 x n k]
theorem Q04 (x:Net) (k:Nat):(J0K (gI x.links k) ((k:Int)+1)).toNat<k+1:=by
 have:=J0z (gI x.links k) (b:=(k:Int)+1) (by omega);omega
theorem J9p (n u:Nat):gR (List.replicate n []) u=[]:=by
 simp only[gR,List.getD,List.getElem?_replicate];split<;>rfl
theorem J4b (x:Net) (n:Nat):∀k,k<n->∀u,(gR (J17 x n k) u).length<=k
 | 0,_,u=>by rw[J17,J9p];simp
 | k+1,hk,u=>by
   have h1:=Q04 x k;have h2:=J6J x.back (J17 x n k) (wgt x k) (a:=(J0K (gI x.links k) ((k:Int)+1)).toNat) (b:=k+1) (by rw[J16];omega) (by rw[J16];exact hk) u;have h3:=J4b x n k (by omega) u;rw[J17];omega
abbrev J9D (I:List Int) (p:Ps):Own:=Q4X ⟨I,p⟩
theorem Q24 (ρ:Rn) (n:Nat):Q4g ρ (.vec n 1 fun _ _=>.nilslice) (Q3D (List.replicate n [])):=⟨by simp,rfl,rfl,fun i hi=>⟨rfl,by rw[J62,J9p];rfl⟩⟩
theorem J2m (ρ:Rn) (p:Ps):Q4g ρ (Q3D p) (Q3D p):=⟨rfl,rfl,True.intro,fun i hi=>rfl,fun i j t hi hn hj ht=>VLe.rfl⟩
set_option maxHeartbeats 8000000 in
theorem Q29 (x:Net) (hx:x.Small) (most:Int) (h1:1<=most) (h2:most<=24) :
 J0H Try.prog 24 [x.v,.int .i64 most] [] KS fun v own' _=>v=gV1 (x.size most) (x.size most)/\own'=J9D (J63 x.ids (x.size most)) (J17 x (x.size most) (x.size most-1)):=by
 have hn:=Q1x x hx most h1 h2;have hsz:1<=x.size most/\x.size most<=24:=by
  have:=J0z x.n1 h1;rw[Net.size];omega
 have hll:=hx.links;have hwl:=hx.weights;generalize x.size most=n at *;have hil:=J3k x.ids n;refine J2d ?_;refine J0d mixed Try.func24 rfl hc24 hr24 rfl ?_
 repeat' ((conv=>whnf);first|(refine J0W [] [0,1] (hn.mono ?_) ⟨J0a.kf rfl,J0a.kf rfl,True.intro⟩ True.intro rfl;rintro _ _ _ ⟨rfl,rfl⟩)|(refine Chk.mk rfl ?_))
 all_goals (conv=>whnf)
 refine J0A mixed [2,4,5] [3] [5,6,7,8,9,10,11,12,13,14,15,16,17,18,19,20,21,22,23,24,25,26,27,28,29] [4,2,3,1,0] (fun k:Nat=>[(6,.int .i64 ((k:Int)+1))]) (fun own k=>J2T own 3 (Q3D (J17 x n k))) (fun m k=>m=n-1-k/\k<=n-1) (n-1) 0 ⟨rfl,by omega⟩ rfl (fun _=>rfl) ?_ ?_
 . refine J0g (fun _ _=>[(0,some 0),(1,some 1),(2,some 2),(3,some 3),(4,some 4)]) ?_ ?_ rfl
   . repeat' (first|exact tI|(refine⟨⟨_,rfl,?_⟩,?_⟩)|exact J0a.kf rfl|exact J0a.loc rfl)
   . repeat' (first|exact Q24 _ _|exact tI|(refine⟨⟨_,rfl,?_⟩,?_⟩)|exact J0a.kf rfl|exact J0a.q|(refine⟨Nat.le_refl _,rfl,fun i j hi hj=>?_⟩)|exact VLe.rfl|apply And.intro)
 rintro m k ⟨hm,hk⟩;have hln:=J16 x n k;by_cases hkn:k<n-1
 . have ha1:=Q2l x.links hll k;have ha2:=Q2l x.weights hwl k;have hw1:=J1F (gI x.links k) ((k:Int)+1) (by omega);have hw2:=J1F (gI x.weights k) 15 (by omega);have hr1:=J0z (gI x.links k) (b:=(k:Int)+1) (by omega);have hr2:=J0z (gI x.weights k) (b:=15) (by omega);have hrow:=J4b x n k (by omega);have hl:=J9N x ⟨J63 x.ids n,J17 x n k⟩ (J7P (by show(J63 x.ids n).length<=_;omega) (by show(J17 x n k).length<=_;omega) (fun u=>by have:=hrow u;show(gR (J17 x n k) u).length<=_;omega)) (fun u=>by have:=hrow u;show(gR (J17 x n k) u).length<=_;omega) (J0K (gI x.links k) ((k:Int)+1)).toNat (k+1) (by show _<(J17 x n k).length;omega) (by show _<(J17 x n k).length;omega) (wgt x k);have hnx:J3R x.back (J17 x n k) (J0K (gI x.links k) ((k:Int)+1)).toNat (k+1) (wgt x k)=J17 x n (k+1):=rfl;have hwg:wgt x k=1+J0K (gI x.weights k) 15:=rfl;simp only[hnx,hil,hln] at hl;generalize J0K (gI x.links k) ((k:Int)+1)=a at *;generalize J0K (gI x.weights k) 15=w at *
   repeat' ((conv=>whnf);first|(refine Ar.i64 (by omega) (by omega) ?_;rw[show(k:Int)+1-1=(k:Int) by omega])|(refine Br.dec ?_ ?_<;>intro _<;>try omega)|(refine Ar.q ?_)|(refine ha1.go ?_)|(refine ha2.go ?_)|(refine hw1.go ?_)|(refine hw2.go ?_)|(refine And.intro rfl ?_)|(refine J0W [(0,some 2),(1,some 3)] [] (hl.mono ?_) ⟨J0a.kf rfl,J0a.agg ⟨J0a.vec rfl rfl rfl,J0a.vec rfl rfl rfl,True.intro⟩,J0a.int (by omega),J0a.int (by omega),J0a.int (by omega),True.intro⟩ ⟨⟨_,rfl,Nat.le_of_eq hil,rfl,fun _ _ _ _=>VLe.rfl⟩,⟨_,rfl,J2m _ _⟩,True.intro⟩ rfl;rintro _ _ _ ⟨rfl,rfl⟩)|(refine Chk.mk rfl ?_))
   all_goals (conv=>whnf)
   all_goals
    refine⟨n-1-(k+1),k+1,by omega,⟨rfl,by omega⟩,?_⟩;refine J0g (fun _ _=>[(0,some 0),(1,some 1),(2,some 2),(3,some 3),(4,some 4)]) ?_ ?_ rfl
    . repeat' (first|exact tI|(refine⟨⟨_,rfl,?_⟩,?_⟩)|exact J0a.kf rfl|exact J0a.loc rfl)
    . repeat' (first|exact J2m _ _|exact⟨Nat.le_of_eq hil.symm,rfl,fun _ _ _ _=>VLe.rfl⟩|exact tI|(refine⟨⟨_,rfl,?_⟩,?_⟩)|exact J0a.kf rfl|exact J0a.q|apply And.intro)
 . have e:k=n-1:=by omega
   subst e
   repeat' ((conv=>whnf);first|(refine Br.dec ?_ ?_<;>intro _<;>try omega))
   all_goals (conv=>whnf)
   exact J3f (fun v o=>[(0,Q0G v 0),(1,Q0G v 1)]) _ _ ⟨rfl,rfl⟩ (J0a.agg ⟨J0a.vec rfl rfl rfl,J0a.vec rfl rfl rfl,True.intro⟩) ⟨⟨_,rfl,Nat.le_of_eq hil,rfl,fun _ _ _ _=>VLe.rfl⟩,⟨_,rfl,J2m _ _⟩,True.intro⟩ rfl
def J2p (x:Net) (n:Nat) (p:Ps):Nat->Ps
 | 0=>p
 | k+1=>J3R x.back (J2p x n p k) (J0K (gI x.links (n+2*k)) n).toNat (J0K (gI x.links (n+2*k+1)) n).toNat (wgt x (n+2*k))
def J3v (x:Net) (n:Nat):Nat:=min ((x.links.length-n) / 2) ((61-n) / 2)
theorem J2x (x:Net) (n:Nat) (p:Ps):∀k,(J2p x n p k).length=p.length
 | 0=>rfl
 | k+1=>by rw[J2p,J6K,J2x x n p k]
theorem J6d {a:Int} {n:Nat} (hn:1<=n):(J0K a n).toNat<n:=by
 have:=J0z a (b:=(n:Int)) (by omega);omega
theorem J6F (x:Net) (n:Nat) (p:Ps) (hn:1<=n) (hp:p.length=n):∀k u,(gR (J2p x n p k) u).length<=(gR p u).length+k
 | 0,u=>by rw[J2p];omega
 | k+1,u=>by
   have h2:=J6J x.back (J2p x n p k) (wgt x (n+2*k)) (a:=(J0K (gI x.links (n+2*k)) n).toNat) (b:=(J0K (gI x.links (n+2*k+1)) n).toNat) (by rw[J2x,hp];exact J6d hn) (by rw[J2x,hp];exact J6d hn) u;have h3:=J6F x n p hn hp k u;rw[J2p];omega
set_option maxHeartbeats 8000000 in
theorem Q3q (x:Net) (hx:x.Small) (I:List Int) (p:Ps) (n:Nat) (hn:1<=n) (hn2:n<=24) (hI:I.length=n) (hp:p.length=n) (hr:∀u,(gR p u).length<=100) :
 J0H Try.prog 23 [x.v,gV1 n n] (J9D I p) KS4 fun v own' _=>v=gV1 n n/\own'=J9D I (J2p x n p (J3v x n)):=by
 have hll:=hx.links;have hwl:=hx.weights;have hN:J3v x n<=31/\∀k,k<J3v x n↔(n+2*k+1<x.links.length/\n+2*k<60):=by
  rw[J3v];exact⟨by omega,fun k=>by omega⟩
 refine J2d ?_;refine J0d mixed Try.func23 rfl hc23 hr23 rfl ?_
 repeat' ((conv=>whnf);first|fail)
 all_goals (conv=>whnf)
 refine J0A mixed [2,3,4,5] [] [5,6,7,8,9,10,11,12,13,14,15,16,17,18,19,20,21,22,23,24,25,26,27,28,29] [4,3,2,0,1] (fun k:Nat=>[(6,.int .i64 ((n:Int)+2*k))]) (fun own k=>J2T own 1 (Q3D (J2p x n p k))) (fun m k=>m=J3v x n-k/\k<=J3v x n) (J3v x n) 0 ⟨rfl,by omega⟩ rfl (fun _=>rfl) ?_ ?_
 . refine J0g (fun _ _=>[(0,some 0),(1,some 1),(2,some 2),(3,some 3),(4,some 4)]) ?_ ?_ rfl
   . repeat' (first|exact tI|(refine⟨⟨_,rfl,?_⟩,?_⟩)|exact J0a.kf rfl|exact J0a.loc rfl)
   . repeat' (first|exact J2m _ _|exact tI|(refine⟨⟨_,rfl,?_⟩,?_⟩)|exact J0a.kf rfl|exact J0a.q|(refine⟨Nat.le_refl _,rfl,fun i j hi hj=>?_⟩)|exact VLe.rfl|apply And.intro)
 rintro m k ⟨hm,hk⟩;have hln:=(J2x x n p k).trans hp;have hk2:=hN.2 k;by_cases hkn:k<J3v x n
 . obtain⟨c1,c2⟩:=hk2.1 hkn;have ha2:=Q2l x.weights hwl (n+2*k);have hw1:=J1F (gI x.links (n+2*k)) n (by omega);have hw3:=J1F (gI x.links (n+2*k+1)) n (by omega);have hw2:=J1F (gI x.weights (n+2*k)) 15 (by omega);have hr1:=J0z (gI x.links (n+2*k)) (b:=n) (by omega);have hr3:=J0z (gI x.links (n+2*k+1)) (b:=n) (by omega);have hr2:=J0z (gI x.weights (n+2*k)) (b:=15) (by omega);have hrow:∀u,(gR (J2p x n p k) u).length<=1000:=fun u=>by have:=J6F x n p hn hp k u;have:=hr u;omega
   have hl:=J9N x ⟨I,J2p x n p k⟩ (J7P (by show I.length<=_;omega) (by show(J2p x n p k).length<=_;omega) hrow) hrow (J0K (gI x.links (n+2*k)) n).toNat (J0K (gI x.links (n+2*k+1)) n).toNat (by show _<(J2p x n p k).length;omega) (by show _<(J2p x n p k).length;omega) (wgt x (n+2*k));have hnx:J3R x.back (J2p x n p k) (J0K (gI x.links (n+2*k)) n).toNat (J0K (gI x.links (n+2*k+1)) n).toNat (wgt x (n+2*k))=J2p x n p (k+1):=rfl;have hwg:wgt x (n+2*k)=1+J0K (gI x.weights (n+2*k)) 15:=rfl;simp only[hnx,hI,hln] at hl;have e2k:((n+2*k:Nat):Int)=(n:Int)+2*k:=by omega
   rw[e2k] at ha2
   repeat' ((conv=>whnf);first|(refine Ix.mk (n+2*k) (by omega) (by omega) ?_;try rw[Nat.zero_add])|(refine Ix.mk (n+2*k+1) (by omega) (by omega) ?_;try rw[Nat.zero_add])|(refine Br.dec ?_ ?_<;>intro _<;>try omega)|(refine Ar.q ?_)|(refine ha2.go ?_)|(refine hw1.go ?_)|(refine hw3.go ?_)|(refine hw2.go ?_)|(refine And.intro rfl ?_)|(refine J0W [(0,some 0),(1,some 1)] [] (hl.mono ?_) ⟨J0a.kf rfl,J0a.agg ⟨J0a.vec rfl rfl rfl,J0a.vec rfl rfl rfl,True.intro⟩,J0a.int (by omega),J0a.int (by omega),J0a.int (by omega),True.intro⟩ ⟨⟨_,rfl,Nat.le_of_eq (by first|rfl|exact hI|exact hI.symm),rfl,fun _ _ _ _=>VLe.rfl⟩,⟨_,rfl,J2m _ _⟩,True.intro⟩ rfl;rintro _ _ _ ⟨rfl,rfl⟩)|(refine Chk.mk rfl ?_))
   all_goals (conv=>whnf)
   all_goals
    refine⟨J3v x n-(k+1),k+1,by omega,⟨rfl,by omega⟩,?_⟩;refine J0g (fun _ _=>[(0,some 0),(1,some 1),(2,some 2),(3,some 3),(4,some 4)]) ?_ ?_ rfl
    . repeat' (first|exact tI|(refine⟨⟨_,rfl,?_⟩,?_⟩)|exact J0a.kf rfl|exact J0a.loc rfl)
    . repeat' (first|exact J2m _ _|exact⟨Nat.le_refl _,rfl,fun _ _ _ _=>VLe.rfl⟩|exact tI|(refine⟨⟨_,rfl,?_⟩,?_⟩)|exact J0a.kf rfl|exact J0a.q|apply And.intro)
 . have e:k=J3v x n:=by omega
   subst e;by_cases h1:n+2*J3v x n+1<x.links.length
   all_goals
    repeat' ((conv=>whnf);first|(refine Br.dec ?_ ?_<;>intro _<;>try omega)|(refine Ar.q ?_))
    all_goals (conv=>whnf)
    all_goals exact J3f (fun v o=>[(0,Q0G v 0),(1,Q0G v 1)]) _ _ ⟨rfl,rfl⟩ (J0a.agg ⟨J0a.vec rfl rfl rfl,J0a.vec rfl rfl rfl,True.intro⟩) ⟨⟨_,rfl,Nat.le_refl _,rfl,fun _ _ _ _=>VLe.rfl⟩,⟨_,rfl,J2m _ _⟩,True.intro⟩ rfl
theorem Q3d (x:Net) {most:Int} (h1:1<=most):1<=x.size most/\(x.size most:Int)<=most:=by
 have:=J0z x.n1 h1;rw[Net.size];omega
def Net.con (x:Net) (most:Int):G:=⟨J63 x.ids (x.size most),J2p x (x.size most) (J17 x (x.size most) (x.size most-1)) (J3v x (x.size most))⟩
def Net.any (x:Net) (most:Int):G:=if x.apart then⟨J63 x.ids (x.size most),J2p x (x.size most) (List.replicate (x.size most) []) (J3v x (x.size most))⟩ else x.con most
theorem Q4o {g:G} {n:Nat} (h1:g.ids.length=n) (h2:g.ports.length=n):VLe (V.agg [.fz n 1 false (J0n 0 (vI g.ids)),.fz n 1 false fun i _=>.fz (J62 g.ports i) 2 false (J7T g.ports i)]) g.v:=by
 refine VLe.agg ⟨?_,?_,True.intro⟩
 . exact VLe.fz h1.symm (fun h=>h) (fun i j hi hj=>VLe.of_eq (by simp[J0n]))
 . exact VLe.fz h2.symm (fun h=>h) (fun i j hi hj=>VLe.rfl)
theorem Q5v {g:G} {n:Nat} (h1:g.ids.length=n) (h2:g.ports.length=n):Q40 (Q4X g) (gV1 n n) fun v=>VLe v g.v :=
 ⟨by rw[Nat.zero_add,h1];exact Nat.le_refl _,Nat.le_of_eq h2.symm,Q4o h1 h2⟩
set_option maxHeartbeats 8000000 in
theorem J4U (x:Net) (hx:x.Small) (most:Int) (h1:1<=most) (h2:most<=24) :
 J0H Try.prog 9 [x.v,.int .i64 most] [] KS fun v own' _=>v=gV1 (x.size most) (x.size most)/\own'=Q4X (x.con most):=by
 have ht:=Q29 x hx most h1 h2;have hsz:=Q3d x h1;have hm:=Q3q x hx (J63 x.ids (x.size most)) (J17 x (x.size most) (x.size most-1)) (x.size most) hsz.1 (by omega) (J3k _ _) (J16 _ _ _) (fun u=>by have:=J4b x (x.size most) (x.size most-1) (by omega) u;omega);refine J2d ?_;refine J0d mixed Try.func9 rfl hc9 hr9 rfl ?_
 repeat' ((conv=>whnf);first|(refine J0W [] [0,1] (ht.mono ?_) ⟨J0a.kf rfl,J0a.kf rfl,True.intro⟩ True.intro rfl;rintro _ _ _ ⟨rfl,rfl⟩)|(refine J0W [(0,some 2),(1,some 3)] [] (hm.mono ?_) ⟨J0a.kf rfl,J0a.agg ⟨J0a.vec rfl rfl rfl,J0a.vec rfl rfl rfl,True.intro⟩,True.intro⟩ ⟨⟨_,rfl,Nat.le_refl _,rfl,fun _ _ _ _=>VLe.rfl⟩,⟨_,rfl,J2m _ _⟩,True.intro⟩ rfl;rintro _ _ _ ⟨rfl,rfl⟩)|(refine Chk.mk rfl ?_)|(refine And.intro rfl ?_))
 all_goals (conv=>whnf)
 exact J3f (fun v o=>[(0,Q0G v 0),(1,Q0G v 1)]) _ _ ⟨rfl,rfl⟩ (J0a.agg ⟨J0a.vec rfl rfl rfl,J0a.vec rfl rfl rfl,True.intro⟩) ⟨⟨_,rfl,Nat.le_refl _,rfl,fun _ _ _ _=>VLe.rfl⟩,⟨_,rfl,J2m _ _⟩,True.intro⟩ rfl
theorem Q0m (x:Net) (most:Int):(x.con most).ids.length=x.size most/\(x.con most).ports.length=x.size most:=⟨J3k _ _,(J2x _ _ _ _).trans (J16 _ _ _)⟩
theorem J6S (x:Net) (hx:x.Small) (most:Int) (h1:1<=most) (h2:most<=24):Ret Try.prog 9 [x.v,.int .i64 most] (x.con most).v:=by
 refine J0h rfl ((J4U x hx most h1 h2).mono ?_);rintro _ _ _ ⟨rfl,rfl⟩;exact Q5v (Q0m x most).1 (Q0m x most).2
end Go.Proofs.Ytojoidgjneapfaa
