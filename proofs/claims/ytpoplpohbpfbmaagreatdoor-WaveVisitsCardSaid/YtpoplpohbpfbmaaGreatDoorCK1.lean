import Derived.Test.YtpoplpohbpfbmaaGreatDoorDN11
import Derived.Test.YtpoplpohbpfbmaaGreatDoorEngT
import Derived.Test.YtpoplpohbpfbmaaGreatDoorEngZ
import Derived.Test.YtpoplpohbpfbmaaGreatDoorRows
import Derived.LaidMore
import Derived.Stop.Joined
import Derived.SevenTiedAt
import GoSem.ClaimSeven
import Derived.Test.YtpoplpohbpfbmaaGreatDoorSV1
namespace Go.Proofs.YtpoplpohbpfbmaaGreatDoor
open Go.Eng
set_option maxRecDepth 100000
set_option linter.unusedVariables false
instance:Inhabited Cnt:=⟨⟨0,0,0,0,0⟩⟩
def chC (p:Pr) (g:G) (k:Int) (c:Cf) (w:Nat):Nat:=rs g k (enN p g c) w
def nxC (p:Pr) (g:G) (k:Int) (c:Cf) (w:Nat):Cf:=stepC p g c (chC p g k c w)
def nxK (p:Pr) (g:G) (k:Int) (c:Cf) (n:Cnt) (w:Nat):Cnt:=n.add (chC p g k c w) (enN p g (nxC p g k c w))
def trc (p:Pr) (g:G) (k:Int):Cf->Cnt->List Nat->List (Cf×Cnt)
 | c,n,[]=>[(c,n)]
 | c,n,w::ws=>(c,n)::(if enN p g c=0 then[] else trc p g k (nxC p g k c w) (nxK p g k c n w) ws)
def chsL (p:Pr) (g:G) (k:Int):Cf->List Nat->List Nat
 | _,[]=>[]
 | c,w::ws=>if enN p g c=0 then[] else chC p g k c w::chsL p g k (nxC p g k c w) ws
def cnt0 (e:Nat):Cnt:=⟨0,0,0,0,e⟩
theorem en_pow (p:Pr) (g:G) (c:Cf):enN p g c<2 ^ g.ids.length:=nb_pow _ _
theorem en_24 (p:Pr) {g:G} (hg:g.valid=true) (c:Cf):enN p g c<16777216:=by
 obtain⟨f1,f2,f3,f4,f5,f6,f7⟩:=val_facts hg;exact Nat.lt_of_lt_of_le (en_pow p g c) (Nat.pow_le_pow_right (n:=2) (by omega) f2)
theorem en_32 (p:Pr) {g:G} (hg:g.valid=true) (c:Cf):enN p g c<4294967296:=by have:=en_24 p hg c;omega
theorem en_part (p:Pr) {g:G} (hg:g.valid=true) (c:Cf):Part (enN p g c) (full g.ports.length):=fun i hi=>by
 obtain⟨f1,f2,f3,f4,f5,f6,f7⟩:=val_facts hg;rw[enN,nb_bit,Bool.and_eq_true,decide_eq_true_eq] at hi;rw[full_bit,decide_eq_true_eq];omega
theorem en_bit (p:Pr) (g:G) (c:Cf) (v:Nat):(enN p g c).testBit v=(decide (v<g.ids.length)&&decide (0<=ruleI p g c v)):=nb_bit _ _ _
theorem ch_facts (p:Pr) {g:G} (hg:g.valid=true) {k:Int} (hk:dk k=true) (c:Cf) (w:Nat) (h0:enN p g c≠0) :
 chC p g k c w≠0/\Part (chC p g k c w) (enN p g c)/\okC g k (enN p g c) (chC p g k c w)=true/\chC p g k c w<16777216/\1<=cnt (chC p g k c w) 32/\cnt (chC p g k c w) 32<=24:=by
 have he:=en_32 p hg c;have hi:=rs_inner hg (w:=w) hk he (en_part p hg c) h0;obtain⟨h1,h2,h3⟩:=inner_iff.1 hi;have hp:Part (rs g k (enN p g c) w) (enN p g c):=by
  intro i hb;by_cases e:i<32
  . have:=congrArg (Nat.testBit · i) h2;simp only[Nat.zero_testBit,ndiff_bit e,hb,Bool.true_and,Bool.not_eq_false'] at this;exact this
  . exfalso;have hx:rs g k (enN p g c) w<4294967296\/∃j,32<=j/\(rs g k (enN p g c) w).testBit j=true:=by
     right;exact⟨i,by omega,hb⟩
    have h4:rs g k (enN p g c) w<4294967296:=by
     rw[rs];split
     . exact lowb_lt _ (wsh_lt he)
     . split
       . exact gr_lt g _ (by omega)
       . split
         . exact he
         . exact wsh_lt he
    have:=Nat.testBit_lt_two_pow (Nat.lt_of_lt_of_le h4 (Nat.pow_le_pow_right (n:=2) (i:=32) (by omega) (show 32<=i by omega)));rw[this] at hb;cases hb
 have hlt:rs g k (enN p g c) w<16777216:=by
  apply Nat.lt_of_not_le;intro hge;obtain⟨i,hi1,hi2⟩:=Nat.exists_ge_and_testBit_of_ge_two_pow (n:=24) hge;have:=hp i hi2;have h24:=Nat.testBit_lt_two_pow (Nat.lt_of_lt_of_le (en_24 p hg c) (Nat.pow_le_pow_right (n:=2) (i:=24) (by omega) hi1));rw[h24] at this;cases this
 refine⟨h1,hp,h3,hlt,?_,?_⟩
 . have:∃i,(rs g k (enN p g c) w).testBit i=true:=by
    apply Classical.byContradiction;intro hn;exact h1 (zero_bits.2 fun i=>by
     cases hb:(rs g k (enN p g c) w).testBit i with
     | false=>rfl
     | true=>exact(hn ⟨i,hb⟩).elim)
   obtain⟨i,hb⟩:=this;have hi:i<32:=by
    apply Nat.lt_of_not_le;intro hge;have:=Nat.testBit_lt_two_pow (Nat.lt_of_lt_of_le hlt (Nat.pow_le_pow_right (n:=2) (i:=24) (by omega) (show 24<=i by omega)));rw[this] at hb;cases hb
   exact cnt_pos hb hi
 . have h24:cnt (chC p g k c w) 32=cnt (chC p g k c w) 24:=by
    rw[show(32:Nat)=24+8 from rfl,cnt_add 24 8];have hz:chC p g k c w >>> 24=0:=by
     rw[Nat.shiftRight_eq_div_pow];exact Nat.div_eq_of_lt hlt
    rw[hz,cnt_zero (s:=0) (fun i _=>Nat.zero_testBit i)];rfl
   rw[h24];exact cnt_le _ 24
theorem brI_in {kind lo hi v:Int} (h:lo<=hi) (h3:kind=3->lo=-1):lo<=brI kind lo hi v/\brI kind lo hi v<=hi:=by
 unfold brI;split
 . omega
 . split
   . have:=h3 (by assumption);omega
   . split<;>omega
theorem bnd_le {g:G} (hg:g.valid=true) {x:Vr} (hx:VarOk x) {v:Nat} (hv:v<g.ports.length):(bnd g x v).1<=(bnd g x v).2/\(x.kind=3->(bnd g x v).1=-1):=by
 have h1:=bnd_in hg hx hv;rcases hx.kind with h|h|h
 . exact⟨h1.2.2.2.2 h,fun e=>by omega⟩
 . rw[bnd,if_neg (by omega),if_pos h];exact⟨by decide,fun e=>by omega⟩
 . rw[bnd,if_neg (by omega),if_neg (by omega)];exact⟨by simp only;omega,fun _=>rfl⟩
theorem gI_stx (l:List Int) (a i:Nat) (x:Int) (ha:a<l.length):gI (l.set a x) i=if i=a then x else gI l i:=by
 simp only[gI,List.getD,List.getElem?_set];by_cases h:a=i
 . subst h;simp[ha]
 . have:¬ i=a:=fun e=>h e.symm;rw[if_neg h,if_neg this]
theorem step_conf {p:Pr} (hp:PrOk p) {g:G} (hg:g.valid=true) {c:Cf} (hc:Conf p g c) {s:Nat} (hs:Part s (enN p g c)):Conf p g (stepC p g c s):=by
 obtain⟨f1,f2,f3,f4,f5,f6,f7⟩:=val_facts hg;have hl:=hc.len;have key:∀v,v<c.length->s.testBit v=true->∀x,x<p.vars.length->(bnd g (gV p.vars x) v).1<=gI (moveL p g c v (ruleI p g c v).toNat) x/\gI (moveL p g c v (ruleI p g c v).toNat) x<=(bnd g (gV p.vars x) v).2:=by
  intro v hv hb x hx;have hen:=hs v hb;rw[en_bit,Bool.and_eq_true,decide_eq_true_eq,decide_eq_true_eq] at hen;have hrl:=ruleI_lt p g c v;have hr:(ruleI p g c v).toNat<p.rules.length:=by omega
  have hset:=hp.set _ hr;unfold moveL putL;generalize (gRl p.rules (ruleI p g c v).toNat).sets=l at hset;have gen:∀(l:List (Int×Tm)),(∀j,j<l.length->0<=(gS l j).1/\(gS l j).1<p.vars.length)->∀st:List Int,st.length=p.vars.length->((bnd g (gV p.vars x) v).1<=gI st x/\gI st x<=(bnd g (gV p.vars x) v).2) ->
   (bnd g (gV p.vars x) v).1<=gI (l.foldl (putV p g c v) st) x/\gI (l.foldl (putV p g c v) st) x<=(bnd g (gV p.vars x) v).2:=by
   intro l
   induction l with
   | nil=>intro _ st _ h;exact h
   | cons a r ih =>
     intro hj st hst h;rw[List.foldl_cons];have ha:0<=a.1/\a.1<p.vars.length:=hj 0 (by simp);refine ih (fun j hj'=>by have:=hj (j+1) (by simpa using hj');simpa[gS] using this) _ (by simp[putV,hst]) ?_;rw[putV,gI_stx _ _ _ _ (by omega)];split
     . rename_i e;subst e;have hb:=bnd_le hg (hp.var a.1.toNat hx) (v:=v) (by omega);exact brI_in hb.1 hb.2
     . exact h
  exact gen l (fun j hj=>⟨(hset j hj).1,(hset j hj).2.1⟩) _ (hc.row v hv) (hc.val v hv x hx)
 refine⟨by rw[stepC_len];exact hl,fun v hv=>?_,fun v hv x hx=>?_⟩
 . rw[stepC_len] at hv;rw[stepC_row p g c s hv];split
   . rw[moveL,putL_len];exact hc.row v hv
   . exact hc.row v hv
 . rw[stepC_len] at hv;rw[stepC_row p g c s hv];split
   . rename_i hb;exact key v hv hb x hx
   . exact hc.val v hv x hx
theorem nx_conf {p:Pr} (hp:PrOk p) {g:G} (hg:g.valid=true) {k:Int} (hk:dk k=true) {c:Cf} (hc:Conf p g c) (w:Nat) (h0:enN p g c≠0):Conf p g (nxC p g k c w) :=
 step_conf hp hg hc (ch_facts p hg hk c w h0).2.1
theorem nx_ok {p:Pr} {g:G} (hg:g.valid=true) {k:Int} (hk:dk k=true) {c:Cf} {n:Cnt} (hn:n.Ok) (h4:n.steps<4096) (w:Nat) (h0:enN p g c≠0):(nxK p g k c n w).Ok/\(nxK p g k c n w).steps=n.steps+1:=by
 obtain⟨c1,c2,c3,c4,c5,c6⟩:=ch_facts p hg hk c w h0;refine⟨add_fit n hn h4 _ _ c5 c6 (en_24 p hg _),?_⟩;rw[nxK,Cnt.add];split<;>rfl
theorem cnt0_ok {e:Nat} (he:e<16777216):(cnt0 e).Ok:=⟨by simp[cnt0],by simp[cnt0],by simp[cnt0],by simp[cnt0],by simp[cnt0],by simp[cnt0],he⟩
theorem trc_ne (p:Pr) (g:G) (k:Int) (c:Cf) (n:Cnt) (ws:List Nat):0<(trc p g k c n ws).length:=by
 cases ws<;>simp[trc]
theorem trc_len (p:Pr) (g:G) (k:Int):∀(ws:List Nat) (c:Cf) (n:Cnt),(trc p g k c n ws).length<=ws.length+1
 | [],c,n=>by simp[trc]
 | w::ws,c,n=>by
   rw[trc];split
   . simp
   . have:=trc_len p g k ws (nxC p g k c w) (nxK p g k c n w);simp;omega
theorem chsL_len (p:Pr) (g:G) (k:Int):∀(ws:List Nat) (c:Cf) (n:Cnt),(trc p g k c n ws).length=(chsL p g k c ws).length+1
 | [],c,n=>rfl
 | w::ws,c,n=>by
   rw[trc,chsL];split
   . rfl
   . have:=chsL_len p g k ws (nxC p g k c w) (nxK p g k c n w);simp;omega
theorem trc_all {p:Pr} (hp:PrOk p) {g:G} (hg:g.valid=true) {k:Int} (hk:dk k=true):∀(ws:List Nat) (c:Cf) (n:Cnt),Conf p g c->n.Ok->n.steps+ws.length<=4096->∀x∈trc p g k c n ws,Conf p g x.1/\x.2.Ok
 | [],c,n,hc,hn,_,x,hx=>by simp[trc] at hx;subst hx;exact⟨hc,hn⟩
 | w::ws,c,n,hc,hn,hl,x,hx=>by
   rw[trc] at hx;rcases List.mem_cons.1 hx with e|hx
   . subst e;exact⟨hc,hn⟩
   . by_cases h0:enN p g c=0
     . rw[if_pos h0] at hx;cases hx
     . rw[if_neg h0] at hx;simp only[List.length_cons] at hl;obtain⟨k1,k2⟩:=nx_ok hg hk hn (by omega) w h0 (k:=k);exact trc_all hp hg hk ws _ _ (nx_conf hp hg hk hc w h0) k1 (by omega) x hx
def lastC (l:List (Cf×Cnt)):Cf:=(l.getLast?.getD default).1
theorem lastC_cons (x:Cf×Cnt) {l:List (Cf×Cnt)} (h:0<l.length):lastC (x::l)=lastC l:=by
 cases l with
 | nil=>simp at h
 | cons a r=>rfl
def wsE (l:List Int) (i:Nat):Int:=if l.length=0 then 4294967295 else
 bitI .and .u32 (bitI .or .u32 (IntKind.u32.wrap (bitI .and .u32 (gI l (i % l.length)) 16777215*2 ^ (min (((i:Int).tdiv l.length).tmod 24).toNat 32))) ((bitI .and .u32 (gI l (i % l.length)) 16777215).fdiv (2 ^ (min (24-((i:Int).tdiv l.length).tmod 24).toNat 32)))) 16777215
theorem wrapu_range (a:Int):0<=IntKind.u32.wrap a/\IntKind.u32.wrap a<4294967296:=by
 simp only[IntKind.wrap,IntKind.bits,IntKind.signed,Bool.false_and];constructor
 . simp;omega
 . simp;omega
theorem wsE_range (l:List Int) (i:Nat):0<=wsE l i/\wsE l i<4294967296:=by
 rw[wsE];split
 . decide
 . exact wrapu_range _
def wsN (l:List Int) (i:Nat):Nat:=(wsE l i).toNat
def wsL (l:List Int) (n:Nat):List Nat:=(List.range n).map (wsN l)
theorem wsL_len (l:List Int) (n:Nat):(wsL l n).length=n:=by simp[wsL]
theorem wsL_lt (l:List Int) (n:Nat):∀w∈wsL l n,w<4294967296:=fun w hw=>by
 obtain⟨i,_,rfl⟩:=List.mem_map.1 hw;have:=wsE_range l i;rw[wsN];omega
def vW (l:List Int):Nat->Nat->V:=fun i _=>.int .u32 (wsE l i)
def vUI (l:List Int):Nat->Nat->V:=fun i _=>.int .u32 (gI l i)
theorem wrem {i n:Nat} (h:n≠0):(i:Int).tmod n=((i % n:Nat):Int):=by
 rw[Int.tmod_eq_emod_of_nonneg (by omega)];exact(Int.natCast_emod _ _).symm
theorem wquo {i n:Nat}:0<=(i:Int).tdiv n/\(i:Int).tdiv n<=i:=by
 rw[Int.tdiv_eq_ediv_of_nonneg (by omega)];exact⟨Int.ediv_nonneg (Int.natCast_nonneg i) (Int.natCast_nonneg n),Int.ediv_le_self _ (Int.natCast_nonneg i)⟩
theorem wrem24 {q:Int} (h:0<=q):0<=q.tmod 24/\q.tmod 24<24:=by
 rw[Int.tmod_eq_emod_of_nonneg h];omega
theorem vle_appW (l:List Int) (i a b:Nat) (ha:a<i+1) (hb:b<1) (F:Nat->Nat->V) (x:Int) (hF:F 0 0=.int .u32 x) (hx:x=wsE l i):VLe (fapp (shiftF 0 (vW l)) i (shiftF 0 F) a b) (vW l a b):=by
 obtain rfl:b=0:=by omega
 apply VLe.of_eq;by_cases h:a<i
 . rw[fapp_lt h];simp[shiftF]
 . rw[fapp_ge h];have:a=i:=by omega
   subst this;simp[shiftF,hF,vW,hx]
set_option maxHeartbeats 8000000 in
theorem wishes_ok (l:List Int) (hl:l.length<=9223372036854775807) (n:Nat) (hn:n<=1000):Ret Tryz.prog 9 [.fz l.length 1 false (vUI l),.int .i64 n] (.fz (wsL l n).length 1 false (vU7 (wsL l n))):=by
 refine ret_frz rfl ?_;refine fn_rule mixed Tryz.func9 rfl hc9 hr9 rfl ?_
 repeat' ((conv=>whnf);first|fail)
 all_goals (conv=>whnf)
 refine loop_w mixed [0,1] [0] [1,2,3,4,5,6,7,8,9,10,11,12,13,14,15,16,17,18,19,20,21,22,23,24,25,26,27,28,29] [0] (fun i:Nat=>[(5,.vec 0 1 0 i),(6,.int .i64 i)]) (fun i=>[(0,.vec i 1 (vW l))]) (fun m i=>m=n-i/\i<=n) n 0 ⟨rfl,Nat.zero_le _⟩ rfl (fun _=>rfl) ?_ ?_
 . exact weak_b (fun _ _=>[(0,none)])
 rintro m i ⟨hm,hi⟩;by_cases hin:i<n
 . by_cases h0:l.length=0
   . repeat' ((conv=>whnf);first|(refine Br.dec ?_ ?_<;>intro _<;>try omega)|(refine Br.nbeq ?_ ?_<;>intro _<;>try omega)|(refine Ar.i64 (by omega) (by omega) ?_)|(refine Len.mk (by omega) ?_))
     all_goals (conv=>whnf)
     all_goals try (exfalso;omega)
     all_goals
      refine⟨n-(i+1),i+1,by omega,⟨rfl,by omega⟩,?_⟩;refine weak_by (fun env _=>[(0,ekey env 5)]) ?_ ?_ rfl
      . repeat' (first|exact True.intro|(refine⟨⟨_,rfl,?_⟩,?_⟩)|exact VRen.kf rfl|exact VRen.vec rfl rfl rfl)
      . repeat' (first|(refine⟨Nat.le_refl _,rfl,fun a b ha hb=>vle_appW l i a b ha hb _ 4294967295 rfl (by rw[wsE,if_pos h0])⟩)|exact True.intro|(refine⟨⟨_,rfl,?_⟩,?_⟩))
   . have hr:=wrem (i:=i) h0;have hq:=wquo (i:=i) (n:=l.length);have h24:=wrem24 hq.1;have hml:i % l.length<l.length:=Nat.mod_lt _ (by omega);have hE:wsE l i=bitI .and .u32 (bitI .or .u32 (IntKind.u32.wrap (bitI .and .u32 (gI l (i % l.length)) 16777215*2 ^ (min (((i:Int).tdiv l.length).tmod 24).toNat 32))) ((bitI .and .u32 (gI l (i % l.length)) 16777215).fdiv (2 ^ (min (24-((i:Int).tdiv l.length).tmod 24).toNat 32)))) 16777215:=by rw[wsE,if_neg h0]
     repeat' ((conv=>whnf);first|(refine Ix.mk (i % l.length) hr hml ?_)|(refine Ar.u64 (by omega) (by omega) ?_)|(refine Br.dec ?_ ?_<;>intro _<;>try omega)|(refine Br.nbeq ?_ ?_<;>intro _<;>try omega)|(refine Ar.i64 (by omega) (by omega) ?_)|(refine Sv.mk _ rfl ?_)|(refine Nz.mk (by omega) ?_)|(refine Nn.mk (by omega) ?_)|(refine Len.mk (by omega) ?_)|(refine Ar.mk _ rfl ?_))
     all_goals (conv=>whnf)
     all_goals try (exfalso;omega)
     all_goals
      refine⟨n-(i+1),i+1,by omega,⟨rfl,by omega⟩,?_⟩;refine weak_by (fun env _=>[(0,ekey env 5)]) ?_ ?_ rfl
      . repeat' (first|exact True.intro|(refine⟨⟨_,rfl,?_⟩,?_⟩)|exact VRen.kf rfl|exact VRen.vec rfl rfl rfl)
      . repeat' (first|(refine⟨Nat.le_refl _,rfl,fun a b ha hb=>vle_appW l i a b ha hb _ _ rfl hE.symm⟩)|exact True.intro|(refine⟨⟨_,rfl,?_⟩,?_⟩))
 . have e:i=n:=by omega
   subst e
   repeat' ((conv=>whnf);first|(refine Br.dec ?_ ?_<;>intro _<;>try omega)|(refine Len.mk (by omega) ?_))
   all_goals (conv=>whnf)
   refine VLe.fz (wsL_len l i).symm (fun h=>h) (fun a b ha hb=>VLe.of_eq ?_);obtain rfl:b=0:=by omega
   have hr:=wsE_range l a;have e1:(wsL l i).getD a 0=wsN l a:=by rw[wsL,List.getD_eq_getElem?_getD,List.getElem?_map,List.getElem?_range ha];rfl
   rw[shiftF_eq,Nat.zero_add];show V.int .u32 (wsE l a)=V.int .u32 (((wsL l i).getD a 0:Nat):Int);rw[e1,wsN];congr 1;omega
def cntF (k:Cnt):Nat->V:=fun j=>match j with
 | 0=>.int .i64 k.steps
 | 1=>.int .i64 k.moves
 | 2=>.int .i64 k.rounds
 | 3=>.int .i64 k.begun
 | _=>.int .u32 k.pend
end Go.Proofs.YtpoplpohbpfbmaaGreatDoor
namespace Go.Proofs.YtpoplpohbpfbmaaGreatDoor
open Go.Eng Go.ChangeShapes Go.WideShapes Go.ChangeAt Go.WideMaps Go.WideElems Go.RowKit
set_option maxRecDepth 100000
set_option linter.unusedVariables false
theorem ownk:ownKnob Tryz.prog.godebug=none:=by kernel_rfl
theorem laidB:laidOutB Tryz.prog=true:=by kernel_rfl
theorem cells3:Tryz.prog.cellsOf 3=1:=by kernel_rfl
theorem cells5:Tryz.prog.cellsOf 5=1:=by kernel_rfl
theorem cells32:Tryz.prog.cellsOf 32=1:=by kernel_rfl
theorem cells4:Tryz.prog.cellsOf 4=1:=by kernel_rfl
theorem cells22:Tryz.prog.cellsOf 22=1:=by kernel_rfl
theorem cells200:Tryz.prog.cellsOf 200=32:=by kernel_rfl
theorem cells24:Tryz.prog.cellsOf 24=6:=by kernel_rfl
theorem read4:Tryz.prog.readableRec 4=true:=by kernel_rfl
theorem size4:4<Tryz.prog.types.size:=of_decide_eq_true (by kernel_rfl)
theorem stand4:Tryz.prog.wantsStandIn 4=false:=by kernel_rfl
theorem read25:Tryz.prog.readableRec 25=true:=by kernel_rfl
theorem size25:25<Tryz.prog.types.size:=of_decide_eq_true (by kernel_rfl)
theorem stand25:Tryz.prog.wantsStandIn 25=false:=by kernel_rfl
theorem read24:Tryz.prog.readableRec 24=true:=by kernel_rfl
theorem size24:24<Tryz.prog.types.size:=of_decide_eq_true (by kernel_rfl)
theorem stand24:Tryz.prog.wantsStandIn 24=false:=by kernel_rfl
theorem gTab:Tryz.prog.globalNamed "math/bits.deBruijn32tab"=some 0:=by kernel_rfl
theorem tTab:(Tryz.prog.globals[0]?).map (·.type)=some 200:=by kernel_rfl
abbrev laidL:List (String×DataW Unit):=[("math/bits.deBruijn32tab",Rows.laid_math_bits_deBruijn32tab)]
theorem door_met (os:Os) (args:Array Value):laidMetH Tryz.prog laidL ((World.doorLaid Tryz.prog 400 os).forCall (fun _ _=>0) ⟨#[],args,[]⟩).memory :=
 laidMetH_of_parts3 (fuel:=8) (laidMet_of_run' 8 (by kernel_rfl) (by kernel_rfl)) (by kernel_rfl) (by kernel_rfl)
theorem of_laid {W:World} (h:laidMetH Tryz.prog laidL W):Den (fun _=>False) W Sg.none (.fe 32 1 tzF 0 0) (.pointer (some ⟨0,0,none⟩)):=by
 rw[MakeChecks.laidMetH_plain _ _ _ (by kernel_rfl)] at h;obtain⟨ps,⟨g0,t0,cs0,f0,p0,q0,hg0,ht0,hv0,hd0,_⟩,_,_⟩:=h;obtain rfl:=Option.some.inj (gTab.symm.trans hg0);obtain rfl:=Option.some.inj (tTab.symm.trans ht0);obtain⟨xs,m1,rfl,hx1,hlen,hn,hel⟩:=DataW.trod_array Tryz.underlying200 hd0;simp only[Prod.mk.injEq] at hx1;have hxs:xs.map (·.1)=tzL.map fun n=>(DataW.lit (.int .u8 n):DataW Unit):=by
  have:=hx1.1;rw[Rows.laid_math_bits_deBruijn32tab] at this;have h2:=DataW.agg.inj this;exact h2.symm
 have key:∀i,i<32->W.cell? ⟨0,i,none⟩=some (.int .u8 (tzL.getD i 0)):=by
  intro i hi;have h0:=hel i hi;rw[cells5,Nat.mul_one] at h0;have hxi:xs[i]?.map (·.1)=some (.lit (.int .u8 (tzL.getD i 0))):=by
   rw[<- List.getElem?_map,hxs,List.getElem?_map,List.getElem?_eq_getElem (show i<tzL.length from hi)];simp only[Option.map_some,List.getD,List.getElem?_eq_getElem (show i<tzL.length from hi),Option.getD_some]
  cases hx:xs[i]? with
  | none=>rw[hx] at hxi;cases hxi
  | some x =>
    rw[hx] at h0 hxi;obtain⟨k,e1,e2,_⟩:=DataW.trod_int Tryz.underlying5 h0;rw[e2] at hxi;simp only[Option.map_some,Option.some.injEq] at hxi;have hk:k=tzL.getD i 0:=by
     have:=DataW.lit.inj hxi;exact(Lit.int.inj this).2
    have hc:=World.var?_cell hg0 hv0 i;rw[hc];have hl:i<cs0.toList.length:=by rw[hlen,cells200];exact hi
    have h3:cs0.toList[i]?=some (.int .u8 k):=by
     have:=congrArg (·[0]?) e1;simpa[List.getElem?_take,List.getElem?_drop] using this
    rw[<- hk];simpa using h3
 have hb:0<W.heap.size:=by
  have:=key 0 (by decide);unfold World.cell? at this;split at this
  . rename_i h;exact lt_of_getElem? h
  . cases this
 exact .fe _ _ _ _ _ _ _ _ (fun i _=>.int .u8 (tzL.getD i 0)) (by decide) (fun h=>h) hb
  (fun i j hi hj=>by(obtain rfl:j=0:=by omega);simpa using key i hi) (fun i j hi hj=>rfl) (fun i j hi hj=>.int _ _ _)
theorem max_le {n:Nat} (h:n<=maxLen):n<=9223372036854775807:=h
section
variable {H:Type} {enc:TypeId×Value->H} {W:World} {sp:Nat->Bool} {hd:Bool}
theorem den_net {v:Value} {d:DataW H} {ps:List MemPlace} (hv:∃cs,v=.agg cs) (h:DataW.Trod enc Tryz.prog W 0 sp hd 24 v d ps):∃x:Net,x.Small/\Den (fun _=>False) W Sg.none x.v v:=by
 obtain⟨arr,rfl⟩:=hv;obtain⟨fuel,h⟩:=h;obtain⟨hl,n,hf⟩:=trod_struct_inv Tryz.underlying24 h;simp only[Value.cells] at hl hf;generalize hcs:arr.toList=cs at hl hf;rw[cells24] at hl;obtain⟨x0,y0⟩:=hf 0 _ rfl;obtain⟨x1,y1⟩:=hf 1 _ rfl;obtain⟨x2,y2⟩:=hf 2 _ rfl;obtain⟨x3,y3⟩:=hf 3 _ rfl;obtain⟨x4,y4⟩:=hf 4 _ rfl;obtain⟨x5,y5⟩:=hf 5 _ rfl;simp only[cells3,cells22,cells4] at y0 y1 y2 y3 y4 y5;obtain⟨n0,e0,_⟩:=trod_int_inv Tryz.underlying3 y0;obtain⟨u1,l1,e1,_,d1,m1,_⟩:=den_ints Sg.none Tryz.underlying22 Tryz.underlying3 cells3 y1;obtain⟨u2,l2,e2,_,d2,m2,_⟩:=den_ints Sg.none Tryz.underlying22 Tryz.underlying3 cells3 y2;obtain⟨u3,l3,e3,_,d3,m3,_⟩:=den_ints Sg.none Tryz.underlying22 Tryz.underlying3 cells3 y3;obtain⟨b4,e4⟩:=trod_bool_inv Tryz.underlying4 y4;obtain⟨b5,e5⟩:=trod_bool_inv Tryz.underlying4 y5
 match cs,hl with
 | [c0,c1,c2,c3,c4,c5],_ =>
   simp at e0 e1 e2 e3 e4 e5;subst e0 e1 e2 e3 e4 e5;refine⟨⟨n0,l1,l2,l3,b4,b5⟩,⟨max_le m1,max_le m2,max_le m3⟩,?_⟩;have:arr=[.int .i64 n0,c1,c2,c3,.bool b4,.bool b5].toArray:=by rw[<- hcs]
   rw[this];refine .agg _ _ _ rfl ?_;intro i v u hv hu
   match i,hv,hu with
   | 0,hv,hu=>simp at hv hu;subst hv hu;exact .int _ _ _
   | 1,hv,hu=>simp at hv hu;subst hv hu;exact d1
   | 2,hv,hu=>simp at hv hu;subst hv hu;exact d2
   | 3,hv,hu=>simp at hv hu;subst hv hu;exact d3
   | 4,hv,hu=>simp at hv hu;subst hv hu;exact .bool _ _
   | 5,hv,hu=>simp at hv hu;subst hv hu;exact .bool _ _
   | i+6,hv,hu=>simp at hv
theorem den_us {v:Value} {d:DataW H} {ps:List MemPlace} (hv:v.cells=#[v]) (h:DataW.Trod enc Tryz.prog W 0 sp hd 25 v d ps):∃l:List Int,l.length<=9223372036854775807/\Den (fun _=>False) W Sg.none (.fz l.length 1 false (vUI l)) v:=by
 obtain⟨fuel,h⟩:=h;rw[hv] at h;obtain⟨u1,l1,e1,_,d1,m1,_⟩:=den_ints Sg.none Tryz.underlying25 Tryz.underlying32 cells32 h;simp at e1;subst e1;exact⟨l1,max_le m1,d1⟩
theorem den_b {b0:Nat} {v:Value} {d:DataW H} {ps:List MemPlace} (hval:Value.okWide Tryz.prog W .any b0 4 v) (h:DataW.Trod enc Tryz.prog W 0 sp hd 4 v d ps):∃b:Bool,Den (fun _=>False) W Sg.none (.bool b) v:=by
 obtain⟨b,rfl,_,_⟩:=open_bool Tryz.underlying4 hval h;exact⟨b,.bool _ _⟩
end
theorem aggN_of_ok {W:World} {base:Nat} {v:Value} (h:Value.okWide Tryz.prog W .any base 24 v):∃cs,v=.agg cs:=by
 unfold Value.okWide at h;rw[Tryz.underlying24] at h;obtain⟨cs,h,_⟩:=h;exact⟨cs,h⟩
theorem sliceU_of_ok {W:World} {base:Nat} {v:Value} (h:Value.okWide Tryz.prog W .any base 25 v):v.cells=#[v]:=by
 unfold Value.okWide at h;rw[Tryz.underlying25] at h;unfold Cell.okWide at h;rw[Tryz.underlying25] at h;cases v<;>first|rfl|(simp[Cell.ok,Tryz.underlying25] at h)
end Go.Proofs.YtpoplpohbpfbmaaGreatDoor
namespace Go.Proofs.YtpoplpohbpfbmaaGreatDoor
open Go.Eng
set_option maxRecDepth 100000
set_option linter.unusedVariables false
theorem len_le:∀{l m:List Int},l.Nodup->(∀a∈l,a∈m)->l.length<=m.length
 | [],m,_,_=>Nat.zero_le _
 | a::l,m,hn,hs=>by
   rw[List.nodup_cons] at hn;have ham:=hs a (by simp);have h1:=len_le (l:=l) (m:=m.erase a) hn.2 (fun b hb=>(List.mem_erase_of_ne (fun e=>hn.1 (by rw[<- e];exact hb))).2 (hs b (by simp[hb])));have h2:=List.length_erase_of_mem ham;have h3:=List.length_pos_of_mem ham;simp only[List.length_cons];omega
def freeF (l:List Int):Nat->Int->Int
 | 0,i=>i
 | f+1,i=>if i∈l then freeF l f ((i+1) % 256) else i
def tryI (i:Int) (k:Nat):Int:=(i+k) % 256
theorem tryI_next {i:Int} {k:Nat}:(tryI i k+1) % 256=tryI i (k+1):=by rw[tryI,tryI];omega
theorem free_ends {l:List Int} (hl:l.length<256) (i:Int):¬ ∀j,j<256->tryI i j∈l:=by
 intro h;have h1:((List.range 256).map (tryI i)).Nodup:=by
  rw[List.nodup_iff_pairwise_ne,List.pairwise_map];refine List.Pairwise.imp_of_mem ?_ List.nodup_range;intro a b ha hb hne e;rw[List.mem_range] at ha hb;rw[tryI,tryI] at e;omega
 have h2:=len_le h1 (fun a ha=>by
  obtain⟨j,hj,rfl⟩:=List.mem_map.1 ha;exact h j (List.mem_range.1 hj))
 simp at h2;omega
def idsF (x:List Int):Nat->List Int
 | 0=>[]
 | v+1=>idsF x v++[freeF (idsF x v) 256 (within (gI x v) 256)]
theorem idsF_len (x:List Int):∀v,(idsF x v).length=v
 | 0=>rfl
 | v+1=>by rw[idsF,List.length_append,idsF_len x v];rfl
theorem within_range (a:Int) {b:Int} (hb:1<=b):0<=within a b/\within a b<b:=by
 have h1:=Int.tmod_lt_of_pos a (show(0:Int)<b by omega);have h2:=Int.tmod_lt_of_pos (-a) (show(0:Int)<b by omega);rw[Int.neg_tmod] at h2;rw[within,if_neg (by omega)];split<;>omega
theorem free_spec {l:List Int} {i:Int} (h0:0<=i) (h1:i<=255):∀f k,k+f=256->(∀j,j<k->tryI i j∈l)->l.length<256->0<=freeF l f (tryI i k)/\freeF l f (tryI i k)<=255/\freeF l f (tryI i k)∉l
 | 0,k,hk,hall,hl=>(free_ends hl i (fun j hj=>hall j (by omega))).elim
 | f+1,k,hk,hall,hl=>by
   rw[freeF];split
   . rename_i hm;rw[tryI_next];exact free_spec h0 h1 f (k+1) (by omega) (fun j hj=>by
      by_cases e:j=k
      . subst e;exact hm
      . exact hall j (by omega)) hl
   . rename_i hm;refine⟨?_,?_,hm⟩<;>(rw[tryI];omega)
theorem try_zero {i:Int} (h0:0<=i) (h1:i<=255):tryI i 0=i:=by rw[tryI];omega
theorem idsF_ok (x:List Int):∀v,v<=255->(∀a∈idsF x v,0<=a/\a<=255)/\(idsF x v).Nodup
 | 0,_=>⟨fun a h=>(by simp[idsF] at h),by simp[idsF]⟩
 | v+1,hv=>by
   obtain⟨i1,i2⟩:=idsF_ok x v (by omega);have hw:=within_range (gI x v) (b:=256) (by omega);have hf:=free_spec (l:=idsF x v) (i:=within (gI x v) 256) hw.1 (by omega) 256 0 rfl (fun j hj=>by omega) (by rw[idsF_len];omega);rw[try_zero hw.1 (by omega)] at hf;rw[idsF];refine⟨fun a ha=>?_,?_⟩
   . rcases List.mem_append.1 ha with h|h
     . exact i1 a h
     . have:a=freeF (idsF x v) 256 (within (gI x v) 256):=by simpa using h
       rw[this];exact⟨hf.1,hf.2.1⟩
   . rw[List.nodup_append];refine⟨i2,by simp,fun a ha b hb e=>?_⟩;have:b=freeF (idsF x v) 256 (within (gI x v) 256):=by simpa using hb
     rw[<- this,<- e] at hf;exact hf.2.2 ha
def ownN (x:Net) (n:Nat):Own:=[(0,.vec n 1 (vI (idsF x.ids n))),(1,.vec n 1 fun _ _=>.nilslice)]
def Net.n1 (x:Net):Int:=IntKind.i64.wrap (x.n-1)
def Net.size (x:Net) (most:Int):Nat:=(1+within x.n1 most).toNat
theorem getD_snocI (l:List Int) (a:Int) (i:Nat):gI (l++[a]) i=if i<l.length then gI l i else if i=l.length then a else 0:=by
 by_cases h:i<l.length
 . simp only[gI,List.getD,List.getElem?_append_left h,if_pos h]
 . rw[if_neg h];by_cases h2:i=l.length
   . subst h2;simp[gI]
   . simp[gI,h2,List.getElem?_eq_none (by simp;omega:(l++[a]).length<=i)]
theorem vle_appI (l:List Int) (a:Int) (n:Nat) (hn:l.length=n) (i j:Nat) (hi:i<n+1) (hj:j<1) :
 VLe (fapp (shiftF 0 (vI l)) n (shiftF 0 (tab [[.int .i64 a]])) i j) (vI (l++[a]) i j):=by
 apply VLe.of_eq;subst hn;by_cases h:i<l.length
 . rw[fapp_lt h];simp only[shiftF,vI,getD_snocI,if_pos h]
 . rw[fapp_ge h];have:i=l.length:=by omega
   subst this;obtain rfl:j=0:=by omega
   simp[shiftF,vI,getD_snocI,tab]
set_option maxHeartbeats 8000000 in
theorem nodes_ok (x:Net) (hx:x.Small) (most:Int) (h1:1<=most) (h2:most<=24) :
 CallF Tryz.prog 37 [x.v,.int .i64 most] [] KS fun v own' _=>v=gV1 (x.size most) (x.size most)/\own'=ownN x (x.size most):=by
 have hw:=within_ok x.n1 most (by omega);have hwr:=within_range x.n1 h1;have hn:1+within x.n1 most=(x.size most:Nat):=by rw[Net.size];omega
 have hsz:1<=x.size most/\x.size most<=24:=by omega
 have hids:=hx.ids;generalize x.size most=n at *;refine call_post ?_;refine fn_rule mixed Tryz.func37 rfl hc37 hr37 rfl ?_
 repeat' ((conv=>whnf);first|(refine Ar.mk x.n1 rfl ?_)|(refine Ar.i64 (by omega) (by omega) ?_;rw[hn])|(refine Bd.nat (by omega) ?_)|(refine Len.mk (by omega) ?_)|(refine MkS.vec ?_)|(refine hw.go ?_))
 all_goals (conv=>whnf)
 refine loop_u mixed [2,4,5,6] [4] [5,6,7,8,9,10,11,12,13,14,15,16,17,18,19,20,21,22,23,24,25,26,27,28,29] [4,3,2,1,0] (fun v:Nat=>[(7,.int .i64 v)]) (fun own v=>(4,.vec v 1 (vI (idsF x.ids v)))::updO own 3 (.cells [.vec 4 1 0 v,.vec 2 1 0 n])) (fun m v=>m=n-v/\v<=n) n 0 ⟨rfl,by omega⟩ rfl (fun _=>rfl) ?_ ?_
 . exact weak_b (fun _ _=>[(0,some 0),(1,some 1),(2,some 2),(3,some 3),(4,none)])
 rintro m v ⟨hm,hv⟩;have hat:=at_ok x.ids hids v;have hw2:=within_ok (gI x.ids v) 256 (by omega);have hr2:=within_range (gI x.ids v) (b:=256) (by omega);have hil:=idsF_len x.ids v;have hsn:idsF x.ids (v+1)=idsF x.ids v++[freeF (idsF x.ids v) 256 (within (gI x.ids v) 256)]:=rfl;have htz:=try_zero hr2.1 (by omega);generalize within (gI x.ids v) 256=id0 at *;generalize hL:idsF x.ids v=L at *
 repeat' ((conv=>whnf);first|(refine Br.dec ?_ ?_<;>intro _<;>try omega)|(refine hat.go ?_)|(refine hw2.go ?_))
 all_goals (conv=>whnf)
 . refine loop_r mixed [2,4,5,6,7] (fun p:Nat×Nat=>[(8,.int .i64 (tryI id0 p.1)),(9,.int .i64 p.2)]) (fun m p=>m=(256-p.1)*25+(v-p.2)/\p.1<=256/\p.2<=v/\(∀j,j<p.1->tryI id0 j∈L)/\(∀j,j<p.2->gI L j≠tryI id0 p.1)/\freeF L (256-p.1) (tryI id0 p.1)=freeF L 256 id0) _ (0,0) ⟨rfl,by omega,by omega,fun j hj=>(by omega),fun j hj=>(by omega),(by show freeF L 256 (tryI id0 0)=_;rw[htz])⟩ ?_ ?_
   . refine weak_by (fun _ _=>[(0,some 0),(1,some 1),(2,some 2),(3,some 3),(4,some 4)]) ?_ ?_ rfl
     . repeat' (first|exact VRen.int htz.symm|exact True.intro|(refine⟨⟨_,rfl,?_⟩,?_⟩)|exact VRen.kf rfl|exact VRen.loc rfl)
     . repeat' (first|exact True.intro|(refine⟨⟨_,rfl,?_⟩,?_⟩)|exact VRen.kf rfl|exact VRen.vec rfl rfl rfl|(refine⟨Nat.le_refl _,rfl,fun i j hi hj=>?_⟩)|exact VLe.rfl|(refine And.intro ?_ ?_))
   rintro m ⟨k,u⟩ ⟨hm2,hk,hu,hall,hne,hfr⟩;simp only at hm2 hk hu hall hne hfr;have htr:0<=tryI id0 k/\tryI id0 k<=255:=by rw[tryI];omega
   have htn:(tryI id0 k+1).tmod 256=tryI id0 (k+1):=by rw[Int.tmod_eq_emod_of_nonneg (by omega),tryI_next]
   generalize hT:tryI id0 k=T at *
   repeat' ((conv=>whnf);first|(refine Br.dec ?_ ?_<;>intro _<;>try omega)|(refine Br.nbeq ?_ ?_<;>intro _<;>try omega)|(refine Ar.i64 (by omega) (by omega) ?_)|(refine Sv.mk _ rfl ?_)|(refine Nz.mk (by omega) ?_)|(refine Ix.nat (by omega) ?_)|(refine Len.mk (by omega) ?_)|(refine Ltn.mk (by omega) ?_))
   all_goals (conv=>whnf)
   . rename_i h3 h4;have hin:T∈L:=by rw[<- h4];exact gI_mem (by omega)
     have hk2:k<256:=by
      rcases Nat.lt_or_ge k 256 with h|h
      . exact h
      . exact(free_ends (l:=L) (by omega) id0 (fun j hj=>hall j (by omega))).elim
     refine⟨_,(k+1,0),?_,⟨rfl,by omega,by omega,fun j hj=>?_,fun j hj=>(by omega),?_⟩,?_⟩
     . simp only;omega
     . simp only at hj;by_cases e:j=k
       . subst e;rw[hT];exact hin
       . exact hall j (by omega)
     . simp only;rw[<- hfr,show 256-k=(256-(k+1))+1 by omega,freeF,if_pos hin,<- hT,tryI_next]
     . refine weak_by (fun _ _=>[(0,some 0),(1,some 1),(2,some 2),(3,some 3),(4,some 4)]) ?_ ?_ rfl
       . repeat' (first|exact VRen.int htn|exact True.intro|(refine⟨⟨_,rfl,?_⟩,?_⟩)|exact VRen.kf rfl|exact VRen.loc rfl)
       . repeat' (first|exact True.intro|(refine⟨⟨_,rfl,?_⟩,?_⟩)|exact VRen.kf rfl|exact VRen.vec rfl rfl rfl|(refine⟨Nat.le_refl _,rfl,fun i j hi hj=>?_⟩)|exact VLe.rfl|(refine And.intro ?_ ?_))
   . rename_i h3 h4;refine⟨_,(k,u+1),?_,⟨rfl,hk,by omega,hall,fun j hj=>?_,by rw[hT];exact hfr⟩,?_⟩
     . simp only;omega
     . simp only at hj ⊢;rw[hT];by_cases e:j=u
       . subst e;simpa using h4
       . exact hne j (by omega)
     . refine weak_by (fun _ _=>[(0,some 0),(1,some 1),(2,some 2),(3,some 3),(4,some 4)]) ?_ ?_ rfl
       . repeat' (first|exact VRen.int hT.symm|exact True.intro|(refine⟨⟨_,rfl,?_⟩,?_⟩)|exact VRen.kf rfl|exact VRen.loc rfl)
       . repeat' (first|exact True.intro|(refine⟨⟨_,rfl,?_⟩,?_⟩)|exact VRen.kf rfl|exact VRen.vec rfl rfl rfl|(refine⟨Nat.le_refl _,rfl,fun i j hi hj=>?_⟩)|exact VLe.rfl|(refine And.intro ?_ ?_))
   . have hno:T∉L:=fun h=>by
      obtain⟨j,j1,j2⟩:=gI_get h;exact hne j (by omega) j2
     have hfin:freeF L 256 id0=T:=by
      rw[<- hfr];cases h:256-k with
      | zero=>rfl
      | succ f=>rw[freeF,if_neg hno]
     rw[hfin] at hsn
     repeat' ((conv=>whnf);first|fail)
     all_goals (conv=>whnf)
     all_goals
      refine⟨n-(v+1),v+1,by omega,⟨rfl,by omega⟩,?_⟩;simp only[hsn];refine weak_by (fun env own=>[(0,some 0),(1,some 1),(2,some 2),(3,some 3),(4,ckeyo own 3 0)]) ?_ ?_ rfl
      . repeat' (first|exact True.intro|(refine⟨⟨_,rfl,?_⟩,?_⟩)|exact VRen.kf rfl|exact VRen.loc rfl)
      . repeat' (first|(refine⟨Nat.le_refl _,rfl,fun i j hi hj=>?_⟩)|exact vle_appI _ _ _ hil _ _ hi hj|exact True.intro|(refine⟨⟨_,rfl,?_⟩,?_⟩)|exact VRen.kf rfl|exact VRen.vec rfl rfl rfl|exact VLe.rfl|(refine And.intro ?_ ?_))
 . have e:v=n:=by omega
   subst e;exact postR_byV (fun v o=>[(0,vkey v 0),(1,vkey v 1)]) _ _ ⟨rfl,rfl⟩ (VRen.agg ⟨VRen.vec rfl rfl rfl,VRen.vec rfl rfl rfl,True.intro⟩) ⟨⟨_,rfl,Nat.le_refl _,rfl,fun _ _ _ _=>VLe.of_eq (by rw[hL])⟩,⟨_,rfl,Nat.le_refl _,rfl,fun i j hi hj=>VLe.of_eq (by obtain rfl:j=0:=(by omega);rfl)⟩,True.intro⟩ rfl
theorem mem_gR {p:Ps} {r:List (Int×Int)} (h:r∈p):∃u,gR p u=r:=by
 obtain⟨i,hi,e⟩:=List.mem_iff_getElem.1 h;exact⟨i,by simp[gR,List.getD,hi,e]⟩
theorem small_of {g:G} (h1:g.ids.length<=1000) (h2:g.ports.length<=1000) (h3:∀u,(gR g.ports u).length<=1000):g.Small :=
 ⟨by omega,by omega,fun r hr=>by obtain⟨u,rfl⟩:=mem_gR hr;have:=h3 u;omega⟩
end Go.Proofs.YtpoplpohbpfbmaaGreatDoor
namespace Go.Proofs.YtpoplpohbpfbmaaGreatDoor
open Go.Eng
set_option maxRecDepth 100000
set_option linter.unusedVariables false
def cfgE (g:G) (vs:List Vr) (raw:List Int) (v i:Nat):Int:=(bV g vs v i).1+within (gI raw (v*vs.length+i)) ((bV g vs v i).2-(bV g vs v i).1+1)
def cfgR (g:G) (vs:List Vr) (raw:List Int) (v k:Nat):List Int:=(List.range k).map (cfgE g vs raw v)
theorem cfgR_len (g:G) (vs:List Vr) (raw:List Int) (v k:Nat):(cfgR g vs raw v k).length=k:=by simp[cfgR]
theorem cfgR_succ (g:G) (vs:List Vr) (raw:List Int) (v k:Nat):cfgR g vs raw v (k+1)=cfgR g vs raw v k++[cfgE g vs raw v k]:=by simp[cfgR,List.range_succ]
end Go.Proofs.YtpoplpohbpfbmaaGreatDoor
namespace Go.Proofs.YtpoplpohbpfbmaaGreatDoor
open Go.Eng
set_option maxRecDepth 100000
set_option linter.unusedVariables false
theorem mul_bound {a b A B:Int} (h0:0<=a) (h1:a<=A) (h2:0<=b) (h3:b<=B):0<=a*b/\a*b<=A*B :=
 ⟨Int.mul_nonneg h0 h2,Int.mul_le_mul h1 h3 h2 (by omega)⟩
theorem bit_ok (s:Nat) (hs:s<4294967296) (v:Int):Ret Tryz.prog 13 [.int .u32 s,.int .i64 v] (.bool (hasB s v)):=by
 refine ret_frz rfl ?_;refine fn_rule mixed Tryz.func13 rfl hc13 hr13 rfl ?_;rw[hasB];by_cases h:0<=v/\v<32
 . rw[decide_eq_true h,Bool.true_and];obtain⟨k,rfl⟩:∃k:Nat,v=k:=⟨v.toNat,by omega⟩;have h1:=shr_one (s:=s) (k:=k) hs (by omega)
   repeat' ((conv=>whnf);first|(refine Br.tt ?_)|(refine Br.dec ?_ ?_<;>intro _<;>try omega)|(refine Ar.u64 (by omega) (by omega) ?_)|(refine Sv.mk _ rfl ?_)|(refine Nn.mk (by omega) ?_))
   all_goals (conv=>whnf)
   . rename_i hh;exact VLe.bool ((h1.1 hh).symm)
   . rename_i hh;exact VLe.bool (by rw[Int.toNat_natCast];cases e:s.testBit k with|false=>rfl|true=>exact(hh (h1.2 e)).elim)
 . rw[decide_eq_false h,Bool.false_and]
   repeat' ((conv=>whnf);first|(refine Br.dec ?_ ?_<;>intro _<;>try omega))
   all_goals (conv=>whnf)
   all_goals exact VLe.rfl
end Go.Proofs.YtpoplpohbpfbmaaGreatDoor
namespace Go.Plain
abbrev St:=Nat->Bool
structure Adj (n:Nat) (a:Nat->Nat->Bool):Prop where
 sym:∀u v,u<n->v<n->a u v=true->a v u=true
 irr:∀v,v<n->a v v=false
 rng:∀u v,u<n->a u v=true->v<n
def nbM (n:Nat) (a:Nat->Nat->Bool) (m:St) (v:Nat):Bool:=(List.range n).any fun u=>a v u&&m u
theorem nbM_iff {n:Nat} {a:Nat->Nat->Bool} {m:St} {v:Nat}:nbM n a m v=true↔∃u,u<n/\a v u=true/\m u=true:=by
 simp only[nbM,List.any_eq_true,List.mem_range,Bool.and_eq_true]
def enI (n:Nat) (a:Nat->Nat->Bool) (m:St) (v:Nat):Bool:=match m v with|true=>nbM n a m v|false=>!nbM n a m v
def cfl (n:Nat) (a:Nat->Nat->Bool) (m:St) (v:Nat):Bool:=m v&&nbM n a m v
def stI (s m:St):St:=fun v=>match s v with|true=>!m v|false=>m v
structure Chs (n:Nat) (a:Nat->Nat->Bool) (m s:St):Prop where
 en:∀v,s v=true->v<n/\enI n a m v=true
 ind:∀u v,s u=true->s v=true->a u v=false
variable {n:Nat} {a:Nat->Nat->Bool} {m s:St}
theorem enter_free (_ha:Adj n a) (hc:Chs n a m s) {v:Nat} (hs:s v=true) (hm:m v=false):stI s m v=true/\nbM n a (stI s m) v=false:=by
 obtain⟨hv,he⟩:=hc.en v hs;refine⟨by simp[stI,hs,hm],?_⟩;rw[Bool.eq_false_iff];intro h;obtain⟨u,hu,h1,h2⟩:=nbM_iff.1 h;have hsu:s u=false:=by
  cases e:s u with
  | false=>rfl
  | true=>have:=hc.ind v u hs e;rw[h1] at this;cases this
 simp only[stI,hsu] at h2;simp only[enI,hm,Bool.not_eq_true'] at he;rw[nbM_iff.2 ⟨u,hu,h1,h2⟩] at he;cases he
theorem cfl_back (ha:Adj n a) (hc:Chs n a m s) {v:Nat} (hv:v<n) (h:cfl n a (stI s m) v=true):cfl n a m v=true/\s v=false:=by
 simp only[cfl,Bool.and_eq_true] at h;have hold:∀w,w<n->stI s m w=true->nbM n a (stI s m) w=true->m w=true/\s w=false:=fun w hw h1 h2=>by
  cases e:s w with
  | true =>
    cases em:m w with
    | false=>rw[(enter_free ha hc e em).2] at h2;cases h2
    | true=>simp[stI,e,em] at h1
  | false =>
    simp only[stI,e] at h1;exact⟨h1,rfl⟩
 obtain⟨h1,h2⟩:=h;obtain⟨u,hu,h3,h4⟩:=nbM_iff.1 h2;have hb:=hold v hv h1 h2;have hb2:=hold u hu h4 (nbM_iff.2 ⟨v,hv,ha.sym v u hv hu h3,h1⟩);exact⟨by simp only[cfl,Bool.and_eq_true];exact⟨hb.1,nbM_iff.2 ⟨u,hu,h3,hb2.1⟩⟩,hb.2⟩
theorem cfl_en {v:Nat} (h:cfl n a m v=true):enI n a m v=true:=by
 simp only[cfl,Bool.and_eq_true] at h;simp only[enI,h.1,h.2]
theorem stay (hn:∀v,v<n->cfl n a m v=false) (hc:Chs n a m s) {v:Nat} (hv:v<n) (hm:m v=true):stI s m v=true:=by
 cases e:s v with
 | false=>simp[stI,e,hm]
 | true =>
   obtain⟨_,he⟩:=hc.en v e;simp only[enI,hm] at he;have:=hn v hv;simp[cfl,hm,he] at this
theorem en_back (hn:∀v,v<n->cfl n a m v=false) (hn2:∀v,v<n->cfl n a (stI s m) v=false) (hc:Chs n a m s) {v:Nat} (hv:v<n) (h:enI n a (stI s m) v=true):enI n a m v=true/\s v=false:=by
 have hm':stI s m v=false:=by
  cases e:stI s m v with
  | false=>rfl
  | true =>
    simp only[enI,e] at h;have:=hn2 v hv;simp[cfl,e,h] at this
 have hm:m v=false:=by
  cases e:m v with
  | false=>rfl
  | true=>rw[stay hn hc hv e] at hm';cases hm'
 have hs:s v=false:=by
  cases e:s v with
  | false=>rfl
  | true=>simp[stI,e,hm] at hm'
 refine⟨?_,hs⟩;simp only[enI,hm',Bool.not_eq_true'] at h;simp only[enI,hm,Bool.not_eq_true'];rw[Bool.eq_false_iff] at h ⊢;intro hb;obtain⟨u,hu,h3,h4⟩:=nbM_iff.1 hb;exact h (nbM_iff.2 ⟨u,hu,h3,stay hn hc hu h4⟩)
structure IInv (n:Nat) (a:Nat->Nat->Bool) (m p:St) (r:Nat):Prop where
 r0:r=0->∀v,v<n->cfl n a m v=true->p v=true
 r1:1<=r->∀v,v<n->cfl n a m v=false
 r2:r=1->∀v,v<n->enI n a m v=true->p v=true
 r3:2<=r->∀v,v<n->enI n a m v=false
def left (n:Nat) (a:Nat->Nat->Bool) (m p s:St):St:=fun v=>p v&&!s v&&enI n a (stI s m) v
theorem IInv.start:IInv n a m (enI n a m) 0:=⟨fun _ v _ h=>cfl_en h,fun h=>by omega,fun h=>by omega,fun h=>by omega⟩
theorem IInv.same (ha:Adj n a) (hc:Chs n a m s) {p:St} {r:Nat} (h:IInv n a m p r) (hr:r<=1):IInv n a (stI s m) (left n a m p s) r:=by
 refine⟨fun e v hv hf=>?_,fun e v hv=>?_,fun e v hv he=>?_,fun e=>by omega⟩
 . obtain⟨h1,h2⟩:=cfl_back ha hc hv hf;simp[left,h.r0 e v hv h1,h2,cfl_en hf]
 . cases hf:cfl n a (stI s m) v with
   | false=>rfl
   | true=>have:=h.r1 e v hv;rw[(cfl_back ha hc hv hf).1] at this;cases this
 . have hn2:∀v,v<n->cfl n a (stI s m) v=false:=fun v hv=>by
    cases hf:cfl n a (stI s m) v with
    | false=>rfl
    | true=>have:=h.r1 (by omega) v hv;rw[(cfl_back ha hc hv hf).1] at this;cases this
   obtain⟨h1,h2⟩:=en_back (h.r1 (by omega)) hn2 hc hv he;simp[left,h.r2 e v hv h1,h2,he]
theorem IInv.next (ha:Adj n a) (hc:Chs n a m s) {p:St} {r:Nat} (h:IInv n a m p r) (hr:r<=1) (h0:∀v,v<n->left n a m p s v=false):IInv n a (stI s m) (enI n a (stI s m)) (r+1):=by
 have hs:=h.same ha hc hr;refine⟨fun e=>by omega,fun _ v hv=>?_,fun _ v hv he=>he,fun e v hv=>?_⟩
 . cases hf:cfl n a (stI s m) v with
   | false=>rfl
   | true =>
     rcases (show r=0\/1<=r by omega) with e|e
     . have:=hs.r0 e v hv hf;rw[h0 v hv] at this;cases this
     . rw[hs.r1 e v hv] at hf;cases hf
 . cases he:enI n a (stI s m) v with
   | false=>rfl
   | true=>have:=hs.r2 (by omega) v hv he;rw[h0 v hv] at this;cases this
def sumN (f:Nat->Nat):Nat->Nat
 | 0=>0
 | k+1=>sumN f k+f k
end Go.Plain
namespace Go.Proofs.YtpoplpohbpfbmaaGreatDoor
open Go.Eng
set_option maxRecDepth 100000
set_option linter.unusedVariables false
theorem itru_ne (b:Bool):(truI b≠0)↔b=true:=by cases b<;>simp[truI]
theorem itru_eq0 (b:Bool):(truI b=0)↔b=false:=by cases b<;>simp[truI]
abbrev adN (g:G):Nat->Nat->Bool:=adj g
theorem adj_adj {g:G} (hg:g.valid=true):Go.Plain.Adj g.ids.length (adN g):=by
 obtain⟨f1,f2,f3,f4,f5,f6,f7⟩:=val_facts hg;refine⟨fun u v hu hv h=>adj_sym hg (by omega) h,fun v hv=>adj_irr hg (by omega),fun u v hu h=>?_⟩;obtain⟨l,hl,e⟩:=adj_iff.1 h;have:=(okR_iff.1 (f6 u (by omega))).1 l hl;omega
def isBool (c:Cf) (n x:Nat):Prop:=∀v,v<n->gI (gC c v) x=0\/gI (gC c v) x=1
theorem one_tru {c:Cf} {n x:Nat} (h:isBool c n x) {v:Nat} (hv:v<n):gI (gC c v) x=truI (one c x v):=by
 rcases h v hv with e|e<;>simp[one,e,truI]
theorem cnt_pos_iff (l:List Int):0<cntI l↔∃a∈l,a≠0:=by
 rw[cntI,List.countP_pos_iff];simp only[decide_eq_true_eq]
theorem gF_of_mem {l:List (Int×Int)} {a:Int×Int} (h:a∈l):∃i,i<l.length/\gF l i=a:=by
 obtain⟨i,hi,e⟩:=List.mem_iff_getElem.1 h;exact⟨i,hi,by simp[gF,List.getD,hi,e]⟩
theorem cnt_sumI (s:Nat):∀n,cnt s n=Go.Plain.sumN (fun v=>if s.testBit v=true then 1 else 0) n
 | 0=>rfl
 | n+1=>by
   rw[cnt,Go.Plain.sumN,<- cnt_sumI s n];cases s.testBit n<;>simp
theorem icnt_cut {s n:Nat} (hs:s<2 ^ n):∀k,cnt s (n+k)=cnt s n
 | 0=>rfl
 | k+1=>by
   rw[<- Nat.add_assoc,cnt,icnt_cut hs k];have:s.testBit (n+k)=false:=Nat.testBit_lt_two_pow (Nat.lt_of_lt_of_le hs (Nat.pow_le_pow_right (by omega) (by omega)));rw[this];simp
theorem ipart_lt {s n:Nat} {p:Nat->Bool} (h:Part s (nb p n)):s<2 ^ n:=by
 apply Nat.lt_of_not_le;intro hge;obtain⟨i,hi1,hi2⟩:=Nat.exists_ge_and_testBit_of_ge_two_pow (n:=n) hge;have:=h i hi2;rw[nb_bit,Bool.and_eq_true,decide_eq_true_eq] at this;omega
end Go.Proofs.YtpoplpohbpfbmaaGreatDoor
namespace Go.Proofs.YtpoplpohbpfbmaaGreatDoor
open Go.Eng
set_option maxRecDepth 100000
set_option linter.unusedVariables false
theorem lenN_le:∀{l m:List Nat},l.Nodup->(∀a∈l,a∈m)->l.length<=m.length
 | [],m,_,_=>Nat.zero_le _
 | a::l,m,hn,hs=>by
   rw[List.nodup_cons] at hn;have ham:=hs a (by simp);have h1:=lenN_le (l:=l) (m:=m.erase a) hn.2 (fun b hb=>(List.mem_erase_of_ne (fun e=>hn.1 (by rw[<- e];exact hb))).2 (hs b (by simp[hb])));have h2:=List.length_erase_of_mem ham;have h3:=List.length_pos_of_mem ham;simp only[List.length_cons];omega
abbrev Pt:=List (List (Int×Int))
def toN (p:Pt) (v i:Nat):Nat:=(gF (gR p v) i).1.toNat
def lay (p:Pt) (f:Nat):Nat->Nat->Int
 | 0,v=>if v=f then 0 else -1
 | k+1,v=>if 0<=lay p f k v then lay p f k v else if (gR p v).any (fun l=>decide (lay p f k l.1.toNat=k)) then (k:Int)+1 else -1
structure Found (p:Pt) (f:Nat) (r:Nat->Int):Prop where
 low:∀v,v<p.length->-1<=r v
 from_:r f=0
 back:∀v,v<p.length->v≠f->0<=r v->∃l∈gR p v,r l.1.toNat=r v-1/\0<=r l.1.toNat
 on:∀v,v<p.length->0<=r v->∀l∈gR p v,0<=r l.1.toNat/\r l.1.toNat<=r v+1
structure Und (p:Pt):Prop where
 rng:∀v,v<p.length->∀l∈gR p v,l.1.toNat<p.length
 sym:∀v,v<p.length->∀l∈gR p v,∃m∈gR p l.1.toNat,m.1.toNat=v
theorem Found.at_ {p:Pt} {f:Nat} {r:Nat->Int} (hu:Und p) (h:Found p f r) (hf:f<p.length):∀k v,v<p.length->lay p f k v=if 0<=r v/\r v<=k then r v else -1
 | 0,v,hv=>by
   simp only[lay];by_cases e:v=f
   . subst e;rw[if_pos rfl,h.from_];simp
   . rw[if_neg e];by_cases h0:0<=r v
     . obtain⟨l,_,h1,h2⟩:=h.back v hv e h0;rw[if_neg (by omega)]
     . rw[if_neg (by omega)]
 | k+1,v,hv=>by
   have ih:=fun v hv=>Found.at_ hu h hf k v hv;have hl:=h.low v hv;rw[lay];by_cases h0:0<=r v/\r v<=k
   . have e1:lay p f k v=r v:=by rw[ih v hv,if_pos h0]
     rw[e1,if_pos h0.1];exact(if_pos ⟨h0.1,by omega⟩).symm
   . have e1:lay p f k v=-1:=by rw[ih v hv,if_neg h0]
     rw[e1,if_neg (by decide)];by_cases h1:0<=r v/\r v=k+1
     . have hvf:v≠f:=fun e=>by subst e;rw[h.from_] at h1;omega
       obtain⟨l,hl,q1,q2⟩:=h.back v hv hvf h1.1;have ha:(gR p v).any (fun l=>decide (lay p f k l.1.toNat=k))=true:=by
        rw[List.any_eq_true];refine⟨l,hl,decide_eq_true ?_⟩;rw[ih _ (hu.rng v hv l hl),if_pos ⟨q2,by omega⟩];omega
       rw[if_pos ha];refine Eq.trans ?_ (if_pos ⟨h1.1,by omega⟩).symm;omega
     . refine Eq.trans (if_neg ?_) (if_neg (show ¬ (0<=r v/\r v<=((k+1:Nat):Int)) by omega)).symm;intro ha;rw[List.any_eq_true] at ha;obtain⟨l,hl,e⟩:=ha;have e:=of_decide_eq_true e;have hlr:=hu.rng v hv l hl;rw[ih _ hlr] at e;split at e
       . rename_i h2;obtain⟨m,hm,em⟩:=hu.sym v hv l hl;obtain⟨q1,q2⟩:=h.on _ hlr h2.1 m hm;rw[em] at q1 q2;omega
       . omega
theorem Found.lt {p:Pt} {f:Nat} {r:Nat->Int} (hu:Und p) (h:Found p f r) {v:Nat} (hv:v<p.length):r v<p.length:=by
 have key:∀m:Nat,∀v,v<p.length->r v=m->∃l:List Nat,l.length=m+1/\l.Nodup/\(∀u∈l,u<p.length)/\∀u∈l,r u<=m:=by
  intro m
  induction m with
  | zero=>intro v hv e;exact⟨[v],rfl,by simp,by simpa using hv,by simp;omega⟩
  | succ m ih =>
    intro v hv e;have hvf:v≠f:=fun x=>by subst x;rw[h.from_] at e;omega
    obtain⟨l,hl,q1,q2⟩:=h.back v hv hvf (by omega);obtain⟨L,l1,l2,l3,l4⟩:=ih _ (hu.rng v hv l hl) (by omega);refine⟨v::L,by simp[l1],List.nodup_cons.2 ⟨fun hm=>?_,l2⟩,?_,?_⟩
    . have:=l4 v hm;omega
    . intro u hu;rcases List.mem_cons.1 hu with rfl|hu
      . exact hv
      . exact l3 u hu
    . intro u hu;rcases List.mem_cons.1 hu with rfl|hu
      . omega
      . have:=l4 u hu;omega
 rcases Int.lt_or_le (r v) 0 with h0|h0
 . omega
 . obtain⟨L,l1,l2,l3,_⟩:=key (r v).toNat v hv (by omega);have:L.length<=(List.range p.length).length:=lenN_le l2 (fun u hu=>List.mem_range.2 (l3 u hu));rw[l1,List.length_range] at this;omega
theorem Found.eq {p:Pt} {f:Nat} {r:Nat->Int} (hu:Und p) (h:Found p f r) (hf:f<p.length) {v:Nat} (hv:v<p.length):lay p f (p.length-1) v=r v:=by
 have h1:=h.lt hu hv;have h2:=h.low v hv;rw[h.at_ hu hf _ v hv];split
 . rfl
 . omega
def cntU (p:Nat->Bool):Nat->Nat
 | 0=>0
 | n+1=>cntU p n+if p n then 1 else 0
theorem cntU_ext {p q:Nat->Bool}:∀{n:Nat},(∀v,v<n->p v=q v)->cntU p n=cntU q n
 | 0,_=>rfl
 | n+1,h=>by
   have h1:=cntU_ext (n:=n) fun v hv=>h v (by omega);simp only[cntU,h1,h n (by omega)]
theorem cntU_one {p q:Nat->Bool} {u:Nat} (hp:p u=true) (hq:q u=false) (h:∀v,v≠u->p v=q v):∀{n:Nat},u<n->cntU p n=cntU q n+1
 | n+1,hn=>by
   simp only[cntU];by_cases e:u=n
   . subst e;rw[cntU_ext (fun v hv=>h v (by omega)),hp,hq];simp
   . rw[cntU_one hp hq h (n:=n) (by omega),h n (fun x=>e x.symm)];omega
def unv (r:List Int) (n:Nat):Nat:=cntU (fun v=>decide (gI r v<0)) n
theorem gI_set (r:List Int) (u v:Nat) (d:Int) (hu:u<r.length):gI (r.set u d) v=if v=u then d else gI r v:=by
 simp only[gI,List.getD,List.getElem?_set];by_cases h:u=v
 . subst h;simp[hu]
 . have:¬ v=u:=fun e=>h e.symm;simp[h,this]
structure BI (p:Pt) (f:Nat) (q:List Nat) (r:List Int):Prop where
 len:r.length=p.length
 low:∀v,v<p.length->-1<=gI r v
 from_:gI r f=0
 back:∀v,v<p.length->v≠f->0<=gI r v->∃l∈gR p v,gI r l.1.toNat=gI r v-1/\0<=gI r l.1.toNat
 qn:∀u∈q,u<p.length/\0<=gI r u
 sorted:q.Pairwise fun a b=>gI r a<=gI r b
structure BO (p:Pt) (f:Nat) (q:List Nat) (r:List Int):Prop extends BI p f q r where
 top:∀u∈q,∀v,v<p.length->gI r v<=gI r u+1
 done:∀v,v<p.length->0<=gI r v->v∉q->∀l∈gR p v,0<=gI r l.1.toNat/\gI r l.1.toNat<=gI r v+1
structure BP (p:Pt) (f v i:Nat) (q:List Nat) (r:List Int):Prop extends BI p f q r where
 vn:v<p.length/\0<=gI r v
 most:∀x,x<p.length->gI r x<=gI r v+1
 least:∀u∈q,gI r v<=gI r u
 done:∀x,x<p.length->0<=gI r x->x∉q->x≠v->∀l∈gR p x,0<=gI r l.1.toNat/\gI r l.1.toNat<=gI r x+1
 seen:∀l∈(gR p v).take i,0<=gI r l.1.toNat
theorem BO.pop {p:Pt} {f v:Nat} {q:List Nat} {r:List Int} (h:BO p f (v::q) r):BP p f v 0 q r where
 len:=h.len
 low:=h.low
 from_:=h.from_
 back:=h.back
 qn:=fun u hu=>h.qn u (by simp[hu])
 sorted:=(List.pairwise_cons.1 h.sorted).2
 vn:=h.qn v (by simp)
 most:=h.top v (by simp)
 least:=(List.pairwise_cons.1 h.sorted).1
 done:=fun x hx h0 hq hv=>h.done x hx h0 (by simp only[List.mem_cons,not_or];exact⟨hv,hq⟩)
 seen:=by simp
theorem BP.fin {p:Pt} {f v i:Nat} {q:List Nat} {r:List Int} (hu:Und p) (h:BP p f v i q r) (hi:(gR p v).length<=i):BO p f q r where
 toBI:=h.toBI
 top:=fun u hu x hx=>by have:=h.least u hu;have:=h.most x hx;omega
 done:=fun x hx h0 hq=>by
  by_cases e:x=v
  . subst e;intro l hl;refine⟨h.seen l (by rw[List.take_of_length_le hi];exact hl),h.most _ (hu.rng x hx l hl)⟩
  . exact h.done x hx h0 hq e
theorem BP.skip {p:Pt} {f v i:Nat} {q:List Nat} {r:List Int} (h:BP p f v i q r) (hi:i<(gR p v).length) (h0:0<=gI r (toN p v i)):BP p f v (i+1) q r where
 toBI:=h.toBI
 vn:=h.vn
 most:=h.most
 least:=h.least
 done:=h.done
 seen:=fun l hl=>by
  rw[gF_take _ i hi] at hl;rcases List.mem_append.1 hl with h1|h1
  . exact h.seen l h1
  . simp at h1;rw[h1];exact h0
theorem BP.visit {p:Pt} {f v i:Nat} {q:List Nat} {r:List Int} (hu:Und p) (h:BP p f v i q r) (hi:i<(gR p v).length) (h0:gI r (toN p v i)<0) :
 BP p f v (i+1) (q++[toN p v i]) (r.set (toN p v i) (gI r v+1))/\unv r p.length=unv (r.set (toN p v i) (gI r v+1)) p.length+1:=by
 obtain⟨hv,hv0⟩:=h.vn;have hun:toN p v i<p.length:=hu.rng v hv _ (gF_mem hi);obtain⟨m,hm,hmv⟩:=hu.sym v hv _ (gF_mem hi);have hg:=fun x=>gI_set r (toN p v i) x (gI r v+1) (by rw[h.len];exact hun);change m∈gR p (toN p v i) at hm;have hlast:(gF (gR p v) i).1.toNat=toN p v i:=rfl;generalize toN p v i=u at *;have hvu:v≠u:=fun e=>by subst e;omega
 have keep:∀x,0<=gI r x->gI (r.set u (gI r v+1)) x=gI r x:=fun x hx=>by
  rw[hg,if_neg (fun e=>by subst e;omega)]
 have hle:∀x,x<p.length->gI (r.set u (gI r v+1)) x<=gI r v+1:=fun x hx=>by
  rw[hg];split
  . omega
  . exact h.most x hx
 refine⟨{ len:=by simp[h.len],low:=?_,from_:=?_,back:=?_,qn:=?_,sorted:=?_,vn:=?_,most:=?_,least:=?_,done:=?_,seen:=?_ },?_⟩
 . intro x hx;rw[hg];split
   . omega
   . exact h.low x hx
 . rw[keep f (by rw[h.from_];omega)];exact h.from_
 . intro x hx hxf hx0;by_cases e:x=u
   . subst e;refine⟨m,hm,?_⟩;rw[hmv,keep v hv0,hg,if_pos rfl];omega
   . rw[hg,if_neg e] at hx0 ⊢;obtain⟨l,hl,a,b⟩:=h.back x hx hxf hx0;exact⟨l,hl,by rw[keep _ b];exact a,by rw[keep _ b];exact b⟩
 . intro w hw;rcases List.mem_append.1 hw with h1|h1
   . obtain⟨a,b⟩:=h.qn w h1;exact⟨a,by rw[keep w b];exact b⟩
   . simp at h1;subst h1;exact⟨hun,by rw[hg,if_pos rfl];omega⟩
 . rw[List.pairwise_append];refine⟨h.sorted.imp_of_mem fun {a b} ha hb hab=>?_,by simp,fun a ha b hb=>?_⟩
   . rw[keep a (h.qn a ha).2,keep b (h.qn b hb).2];exact hab
   . simp at hb;subst hb;rw[keep a (h.qn a ha).2,hg,if_pos rfl];exact h.most a (h.qn a ha).1
 . exact⟨hv,by rw[keep v hv0];exact hv0⟩
 . intro x hx;rw[keep v hv0];exact hle x hx
 . intro w hw;rw[keep v hv0];rcases List.mem_append.1 hw with h1|h1
   . rw[keep w (h.qn w h1).2];exact h.least w h1
   . simp at h1;subst h1;rw[hg,if_pos rfl];omega
 . intro x hx hx0 hq hxv l hl;have hxu:x≠u:=fun e=>hq (by simp[e]);rw[hg,if_neg hxu] at hx0;rw[keep x hx0];obtain⟨a,b⟩:=h.done x hx hx0 (fun e=>hq (by simp[e])) hxv l hl;rw[keep _ a];exact⟨a,b⟩
 . intro l hl;rw[gF_take _ i hi] at hl;rcases List.mem_append.1 hl with h1|h1
   . rw[keep _ (h.seen l h1)];exact h.seen l h1
   . simp at h1;rw[h1,hlast,hg,if_pos rfl];omega
 . refine cntU_one (u:=u) (by simpa using h0) (by rw[hg,if_pos rfl];simp;omega) (fun x hx=>?_) hun;show decide _=decide _;rw[hg,if_neg hx]
theorem BO.found {p:Pt} {f:Nat} {r:List Int} (h:BO p f [] r):Found p f (gI r) where
 low:=h.low
 from_:=h.from_
 back:=h.back
 on:=fun v hv h0 l hl=>h.done v hv h0 (by simp) l hl
end Go.Proofs.YtpoplpohbpfbmaaGreatDoor
namespace Go.Proofs.YtpoplpohbpfbmaaGreatDoor
open Go.Eng
set_option maxRecDepth 100000
set_option linter.unusedVariables false
theorem und_of {g:G} (hg:g.valid=true):Und g.ports:=by
 obtain⟨f1,f2,f3,f4,f5,f6,f7⟩:=val_facts hg;refine⟨fun v hv l hl=>?_,fun v hv l hl=>⟨_,f7 v hv l hl,by simp⟩⟩;have h:=f6 v hv;rw[okR,Bool.and_eq_true,List.all_eq_true] at h;have:=h.1 _ hl;rw[okL,decide_eq_true_eq] at this;omega
def dst (g:G) (f:Nat):List Int:=(List.range g.ports.length).map (lay g.ports f (g.ports.length-1))
theorem dst_len (g:G) (f:Nat):(dst g f).length=g.ports.length:=by simp[dst]
theorem dst_get (g:G) (f:Nat) {v:Nat} (hv:v<g.ports.length):gI (dst g f) v=lay g.ports f (g.ports.length-1) v:=by
 simp[dst,gI,hv]
theorem row_le' {g:G} (hg:g.valid=true) (v:Nat):(gR g.ports v).length<=24:=by
 obtain⟨f1,f2,f3,f4,f5,f6,f7⟩:=val_facts hg;by_cases h:v<g.ports.length
 . have:=okR_len h (f6 v h);omega
 . rw[show gR g.ports v=[] by simp only[gR,List.getD];rw[List.getElem?_eq_none (by omega)];rfl];simp
theorem okR_to' {n v:Nat} {r:List (Int×Int)} (h:okR n v r=true) {i:Nat} (hi:i<r.length):0<=(gF r i).1/\(gF r i).1<n:=by
 rw[okR,Bool.and_eq_true,List.all_eq_true] at h;have:=h.1 _ (gF_mem hi);rw[okL,decide_eq_true_eq] at this;exact⟨this.1,this.2.1⟩
def vN (l:List Nat):Nat->Nat->V:=fun i _=>.int .i64 (l.getD i 0:Nat)
def iniF (j:Nat):Nat->Nat->V:=fun i _=>.int .i64 (if i<j then -1 else 0)
theorem iniF_step (n j i t:Nat) (hi:i<n) (ht:t<1):VLe (fset (iniF j) j 0 [.int .i64 (-1)] i t) (iniF (j+1) i t):=by
 obtain rfl:t=0:=by omega
 apply VLe.of_eq;by_cases h:i=j
 . subst h;simp[fset,iniF]
 . have h1:(i<j+1)=(i<j):=by simp;omega
   simp[fset,iniF,h,h1]
theorem vle_set (r:List Int) (u i t:Nat) (d:Int) (hu:u<r.length) (ht:t<1):VLe (fset (vI r) u 0 [.int .i64 d] i t) (vI (r.set u d) i t):=by
 obtain rfl:t=0:=by omega
 apply VLe.of_eq;simp only[fset,vI,gI_set r u i d hu];by_cases h:i=u
 . subst h;simp
 . simp[h]
theorem ini_end (n f i t:Nat) (hf:f<n) (hi:i<n) (ht:t<1):VLe (fset (iniF n) f 0 [.int .i64 0] i t) (vI ((List.replicate n (-1)).set f 0) i t):=by
 obtain rfl:t=0:=by omega
 apply VLe.of_eq;simp only[fset,vI];rw[gI_set _ _ _ _ (by simpa using hf)];by_cases h:i=f
 . subst h;simp
 . rw[if_neg (by simp[h]),if_neg h];simp[iniF,hi,gI]
theorem cntU_le (p:Nat->Bool):∀n,cntU p n<=n
 | 0=>Nat.le_refl _
 | n+1=>by have:=cntU_le p n;rw[cntU];split<;>omega
theorem bo_start {p:Pt} (hu:Und p) {f:Nat} (hf:f<p.length):BO p f [f] ((List.replicate p.length (-1)).set f 0):=by
 have hg:=fun x=>gI_set (List.replicate p.length (-1)) f x 0 (by simpa using hf);have hr:∀x,x<p.length->gI (List.replicate p.length (-1)) x=-1:=fun x hx=>by simp[gI,hx]
 have hv:∀x,x<p.length->x≠f->gI ((List.replicate p.length (-1)).set f 0) x=-1:=fun x hx h=>by rw[hg,if_neg h,hr x hx]
 have h0:gI ((List.replicate p.length (-1)).set f 0) f=0:=by rw[hg,if_pos rfl]
 refine { len:=by simp,low:=fun x hx=>?_,from_:=h0,back:=fun x hx hxf h=>?_,qn:=fun u hu=>?_,sorted:=by simp,top:=fun u hu x hx=>?_,done:=fun x hx h hq=>?_ }
 . by_cases e:x=f
   . subst e;rw[h0];decide
   . rw[hv x hx e];decide
 . rw[hv x hx hxf] at h;omega
 . simp at hu;subst hu;exact⟨hf,by rw[h0];decide⟩
 . simp at hu;subst hu;rw[h0];by_cases e:x=u
   . subst e;rw[h0];decide
   . rw[hv x hx e];decide
 . have:x≠f:=by simpa using hq
   rw[hv x hx this] at h;omega
theorem sh_at (lo:Nat) (f:Nat->Nat->V) (i j:Nat):shiftF lo f i j=f (lo+i) j:=by
 cases lo with
 | zero=>simp[shiftF]
 | succ n=>simp[shiftF]
theorem vle_appN (Q:List Nat) (lo u i t:Nat) (hlo:lo<=Q.length) (hi:i<Q.length-lo+1) (ht:t<1) :
 VLe (fapp (shiftF lo (vN Q)) (Q.length-lo) (shiftF 0 (tab [[.int .i64 (u:Int)]])) i t) (vN (Q.drop lo++[u]) i t):=by
 obtain rfl:t=0:=by omega
 apply VLe.of_eq;by_cases h:i<Q.length-lo
 . rw[fapp_lt h];simp only[sh_at,vN];have:(Q.drop lo++[u]).getD i 0=Q.getD (lo+i) 0:=by
    rw[List.getD_eq_getElem?_getD,List.getD_eq_getElem?_getD,List.getElem?_append_left (by simpa using h),List.getElem?_drop]
   rw[this]
 . rw[fapp_ge h];have:i=Q.length-lo:=by omega
   subst this;simp[shiftF,tab,vN]
theorem ini_bnd {n f:Nat} (hf:f<n):∀y,y<n->gI ((List.replicate n (-1)).set f 0) y+unv ((List.replicate n (-1)).set f 0) n<n:=by
 have hg:=fun x=>gI_set (List.replicate n (-1)) f x 0 (by simpa using hf);have h1:unv ((List.replicate n (-1)).set f 0) n+1<=n:=by
  have:=cntU_one (p:=fun _=>true) (q:=fun v=>decide (v≠f)) (u:=f) rfl (by simp) (fun v hv=>by simp[hv]) hf;have h2:unv ((List.replicate n (-1)).set f 0) n=cntU (fun v=>decide (v≠f)) n:=cntU_ext fun v hv=>by
   rw[hg];by_cases e:v=f
   . simp[e]
   . simp[e,gI,hv]
  have h3:=cntU_le (fun _=>true) n;omega
 intro y hy;rw[hg];split
 . omega
 . simp only[gI,List.getD,List.getElem?_replicate,hy,if_true,Option.getD_some];omega
theorem vle_appN2 (Q:List Nat) (lo i t:Nat) (a:Int) (u:Nat) (hlo:lo<=Q.length) (hi:i<Q.length-lo+1) (ht:t<1) (hu:a=u) :
 VLe (fapp (shiftF lo (vN Q)) (Q.length-lo) (shiftF 0 (tab [[.int .i64 a]])) i t) (vN (Q.drop lo++[u]) i t):=by
 subst hu;exact vle_appN Q lo u i t hlo hi ht
set_option maxHeartbeats 16000000 in
theorem search_ok (g:G) (hg:g.valid=true) (f:Nat) (hf:f<g.ports.length):Ret Tryz.prog 96 [g.v,.int .i64 f] (.fz (dst g f).length 1 false (vI (dst g f))):=by
 obtain⟨f1,f2,f3,f4,f5,f6,f7⟩:=val_facts hg;have hu:=und_of hg;refine ret_frz rfl ?_;refine fn_rule mixed Tryz.func96 rfl hc96 hr96 rfl ?_
 repeat' ((conv=>whnf);first|(refine Bd.nat (by omega) ?_)|(refine Len.mk (by omega) ?_)|(refine MkS.vec ?_))
 all_goals (conv=>whnf)
 refine loop_w mixed [1,2,5,16] [] [2,3,4,5,6,7,8,9,10,11,12,13,14,15,16,17,18,19,20,21,22,23,24,25,26,27,28,29] [1,0] (fun j:Nat=>[(17,.int .i64 j)]) (fun j=>[(1,.vec g.ports.length 1 (iniF j)),(0,.cells [.fz g.ids.length 1 false (vI g.ids),.fz g.ports.length 1 false (vP g.ports)])]) (fun m j=>m=g.ports.length-j/\j<=g.ports.length) g.ports.length 0 ⟨rfl,Nat.zero_le _⟩ rfl (fun _=>rfl) ?_ ?_
 . refine weak_by (fun _ _=>[(0,some 0),(1,some 1)]) ?_ ?_ rfl
   . repeat' (first|exact True.intro|(refine⟨⟨_,rfl,?_⟩,?_⟩)|exact VRen.kf rfl|exact VRen.loc rfl|exact VRen.vec rfl rfl rfl)
   . repeat' (first|exact⟨Nat.le_refl _,rfl,fun i j hi hj=>VLe.of_eq (by obtain rfl:j=0:=(by omega);rfl)⟩|exact True.intro|(refine⟨⟨_,rfl,?_⟩,?_⟩)|exact VRen.kf rfl|(refine And.intro ?_ ?_))
 rintro m j ⟨hm,hj⟩;by_cases hjn:j<g.ports.length
 . repeat' ((conv=>whnf);first|(refine Br.dec ?_ ?_<;>intro _<;>try omega)|(refine Ar.i64 (by omega) (by omega) ?_)|(refine Ix.nat (by omega) ?_)|(refine Ltn.mk (by omega) ?_))
   all_goals (conv=>whnf)
   refine⟨g.ports.length-(j+1),j+1,by omega,⟨rfl,by omega⟩,?_⟩;refine weak_by (fun _ _=>[(0,some 0),(1,some 1)]) ?_ ?_ rfl
   . repeat' (first|exact True.intro|(refine⟨⟨_,rfl,?_⟩,?_⟩)|exact VRen.kf rfl|exact VRen.loc rfl|exact VRen.vec rfl rfl rfl)
   . repeat' (first|exact⟨Nat.le_refl _,rfl,fun i t hi ht=>by simp only[Nat.zero_add];exact iniF_step _ _ _ _ hi ht⟩|exact True.intro|(refine⟨⟨_,rfl,?_⟩,?_⟩)|exact VRen.kf rfl|(refine And.intro ?_ ?_))
 . have ej:j=g.ports.length:=by omega
   subst ej
   repeat' ((conv=>whnf);first|(refine Br.dec ?_ ?_<;>intro _<;>try omega)|(refine Ix.nat (by omega) ?_)|(refine Ltn.mk (by omega) ?_))
   all_goals (conv=>whnf)
   refine loop_w mixed [2,5] [2] [3,4,5,6,7,8,9,10,11,12,13,14,15,16,17,18,19,20,21,22,23,24,25,26,27,28,29] [2,1,0] (fun x:Nat×List Nat×List Int=>[(7,.vec 2 1 x.1 (x.2.1.length-x.1))]) (fun x=>[(2,.vec x.2.1.length 1 (vN x.2.1)),(1,.vec g.ports.length 1 (vI x.2.2)),(0,.cells [.fz g.ids.length 1 false (vI g.ids),.fz g.ports.length 1 false (vP g.ports)])])
    (fun m x=>m=2*unv x.2.2 g.ports.length+(x.2.1.length-x.1)/\x.1<=x.2.1.length/\x.2.1.length<=60/\m<=50/\BO g.ports f (x.2.1.drop x.1) x.2.2/\∀y,y<g.ports.length->gI x.2.2 y+unv x.2.2 g.ports.length<g.ports.length) _ (0,[f],(List.replicate g.ports.length (-1)).set f 0) ⟨rfl,by simp,by simp,?_,bo_start hu hf,ini_bnd hf⟩ rfl (fun _=>rfl) ?_ ?_
   . have:=cntU_le (fun v=>decide (gI ((List.replicate g.ports.length (-1)).set f 0) v<0)) g.ports.length;simp only[unv,List.length_cons,List.length_nil];omega
   . refine weak_by (fun _ _=>[(0,some 0),(1,some 1),(2,some 2)]) ?_ ?_ rfl
     . repeat' (first|exact True.intro|(refine⟨⟨_,rfl,?_⟩,?_⟩)|exact VRen.loc rfl|exact VRen.vec rfl rfl rfl)
     . repeat' (first|exact⟨Nat.le_refl _,rfl,fun i t hi ht=>by simp only[Nat.zero_add];exact ini_end _ _ _ _ hf hi ht⟩|exact⟨Nat.le_refl _,rfl,fun i t hi ht=>VLe.of_eq (by obtain rfl:i=0:=(by simpa using hi);obtain rfl:t=0:=(by omega);rfl)⟩|exact True.intro|(refine⟨⟨_,rfl,?_⟩,?_⟩)|exact VRen.kf rfl|(refine And.intro ?_ ?_))
   rintro m ⟨lo,Q,r⟩ ⟨hm,hlo,hQ,hm50,hbo,hbd⟩;simp only at hm hlo hQ hbo hbd ⊢;by_cases hq:lo<Q.length
   . obtain⟨v,hv⟩:∃v,Q.getD lo 0=v:=⟨_,rfl⟩;have hdrop:Q.drop lo=v::Q.drop (lo+1):=by
      rw[List.drop_eq_getElem_cons hq,<- hv];simp[hq]
     rw[hdrop] at hbo;have hbp:=hbo.pop;obtain⟨hvn,hv0⟩:=hbp.vn;have hrl:=row_le' hg v;have hlen:=hbp.len;have hQv:vN Q lo 0=.int .i64 (v:Int):=by simp only[vN,hv]
     have hQ0:Q.getD (lo+0) 0=v:=hv
     repeat' ((conv=>whnf);first|(refine Ix.mk v (by omega) (by omega) ?_)|(refine Br.dec ?_ ?_<;>intro _<;>try omega)|(refine Br.nble ?_ ?_<;>intro _<;>try omega)|(refine Ix.mk 0 rfl (by omega) ?_)|(refine Bd.mk 1 rfl (by omega) ?_)|(refine Ltn.mk (by omega) ?_))
     all_goals (conv=>whnf)
     refine loop_w mixed [2,5,8,41,42] [2] [3,4,5,6,7,8,9,10,11,12,13,14,15,16,17,18,19,20,21,22,23,24,25,26,27,28,29] [2,1,0] (fun x:Nat×Nat×List Nat×List Int=>[(7,.vec 2 1 x.2.1 (x.2.2.1.length-x.2.1)),(43,.int .i64 x.1)]) (fun x=>[(2,.vec x.2.2.1.length 1 (vN x.2.2.1)),(1,.vec g.ports.length 1 (vI x.2.2.2)),(0,.cells [.fz g.ids.length 1 false (vI g.ids),.fz g.ports.length 1 false (vP g.ports)])])
      (fun k x=>k=(gR g.ports v).length-x.1/\x.1<=(gR g.ports v).length/\x.2.1<=x.2.2.1.length/\x.2.2.1.length<=60/\2*unv x.2.2.2 g.ports.length+(x.2.2.1.length-x.2.1)<m/\BP g.ports f v x.1 (x.2.2.1.drop x.2.1) x.2.2.2/\∀y,y<g.ports.length->gI x.2.2.2 y+unv x.2.2.2 g.ports.length<g.ports.length) _ (0,lo+1,Q,r) ⟨rfl,by simp,by simp only;omega,hQ,by simp only;omega,hbp,hbd⟩ rfl (fun _=>rfl) ?_ ?_
     . exact weak_b (fun _ _=>[(0,some 0),(1,some 1),(2,some 2)])
     rintro k ⟨i,lo2,Q2,r2⟩ ⟨hk,hi,hlo2,hQ2,hm2,hbp2,hbd2⟩;simp only at hk hi hlo2 hQ2 hm2 hbp2 hbd2 ⊢;obtain⟨_,hv2⟩:=hbp2.vn;have hlen2:=hbp2.len;have hvb:0<=gI r2 (0+v)/\gI r2 (0+v)<=24:=by rw[Nat.zero_add];have:=hbd2 v hvn;omega
     by_cases hil:i<(gR g.ports v).length
     . have hr:=okR_to' (f6 v hvn) hil;have hr':toN g.ports v i<g.ports.length:=by show(gF (gR g.ports v) i).1.toNat<_;omega
       by_cases hneg:gI r2 (gF (gR g.ports v) i).1.toNat<0
       . obtain⟨hbp3,hun⟩:=hbp2.visit hu hil hneg;have hneg2:gI r2 (0+(gF (gR g.ports v) i).1.toNat)<0:=by rw[Nat.zero_add];exact hneg
         repeat' ((conv=>whnf);first|(refine Ix.mk v (by omega) (by omega) ?_)|(refine Br.dec ?_ ?_<;>intro _<;>try omega)|(refine Br.nbeq ?_ ?_<;>intro _<;>try omega)|(refine Ar.i64 (by omega) (by omega) ?_)|(refine Ix.nat (by omega) ?_)|(refine Ix.int (by omega) (by omega) ?_)|(refine Len.mk (by omega) ?_)|(refine Ltn.mk (by omega) ?_))
         all_goals (conv=>whnf)
         have hdl:(Q2.drop lo2++[toN g.ports v i]).length=Q2.length-lo2+1:=by simp
         refine⟨(gR g.ports v).length-(i+1),(i+1,0,Q2.drop lo2++[toN g.ports v i],r2.set (toN g.ports v i) (gI r2 v+1)),by omega,⟨rfl,by simp only;omega,by simp,by simp only[hdl];omega,by simp only[hdl];omega,hbp3,fun y hy=>?_⟩,?_⟩
         . have hb:=hbd2 y hy;have hb2:=hbd2 v hvn;simp only;rw[gI_set _ _ _ _ (by rw[hlen2];exact hr')];split<;>omega
         simp only[hdl];refine weak_by (fun env own=>[(0,some 0),(1,some 1),(2,ekey env 66)]) ?_ ?_ rfl
         . repeat' (first|exact True.intro|(refine⟨⟨_,rfl,?_⟩,?_⟩)|exact VRen.kf rfl|exact VRen.loc rfl|exact VRen.vec rfl rfl rfl)
         . repeat' (first|exact⟨Nat.le_refl _,rfl,fun a t ha ht=>by simp only[Nat.zero_add];exact vle_set _ _ _ _ _ (by rw[hlen2];exact hr') ht⟩|exact⟨by omega,rfl,fun a t ha ht=>vle_appN2 _ _ _ _ _ _ hlo2 ha ht (show(gF (gR g.ports v) i).1=((gF (gR g.ports v) i).1.toNat:Nat) by omega)⟩|exact True.intro|(refine⟨⟨_,rfl,?_⟩,?_⟩)|exact VRen.kf rfl|(refine And.intro ?_ ?_))
       . have hneg2:¬ gI r2 (0+(gF (gR g.ports v) i).1.toNat)<0:=by rw[Nat.zero_add];exact hneg
         have hbp3:=hbp2.skip hil (show 0<=gI r2 (gF (gR g.ports v) i).1.toNat by omega)
         repeat' ((conv=>whnf);first|(refine Br.dec ?_ ?_<;>intro _<;>try omega)|(refine Ar.i64 (by omega) (by omega) ?_)|(refine Ix.nat (by omega) ?_)|(refine Ix.int (by omega) (by omega) ?_)|(refine Ltn.mk (by omega) ?_))
         all_goals (conv=>whnf)
         refine⟨(gR g.ports v).length-(i+1),(i+1,lo2,Q2,r2),by omega,⟨rfl,by simp only;omega,hlo2,hQ2,hm2,hbp3,hbd2⟩,?_⟩;exact weak_b (fun env own=>[(0,some 0),(1,some 1),(2,some 2)])
     . have hfin:=hbp2.fin hu (by omega)
       repeat' ((conv=>whnf);first|(refine Br.dec ?_ ?_<;>intro _<;>try omega))
       all_goals (conv=>whnf)
       refine⟨_,(lo2,Q2,r2),hm2,⟨rfl,hlo2,hQ2,by omega,hfin,hbd2⟩,?_⟩;exact weak_b (fun env own=>[(0,some 0),(1,some 1),(2,some 2)])
   . have e:lo=Q.length:=by omega
     subst e;rw[List.drop_length] at hbo;have hfd:=hbo.found;have hlen:=hbo.len
     repeat' ((conv=>whnf);first|(refine Br.dec ?_ ?_<;>intro _<;>try omega)|(refine Len.mk (by omega) ?_))
     all_goals (conv=>whnf)
     refine VLe.fz (dst_len g f).symm (fun h=>h) (fun i t hi ht=>VLe.of_eq ?_);rw[sh_at];simp only[vI,Nat.zero_add];rw[dst_get g f hi,hfd.eq hu hf hi]
end Go.Proofs.YtpoplpohbpfbmaaGreatDoor
namespace Go.Proofs.YtpoplpohbpfbmaaGreatDoor
open Go.Eng
set_option maxRecDepth 100000
set_option linter.unusedVariables false
theorem layd_low (p:Pt) (f:Nat):∀k v,-1<=lay p f k v/\lay p f k v<=k
 | 0,v=>by rw[lay];split<;>omega
 | k+1,v=>by
   have:=layd_low p f k v;rw[lay];split
   . omega
   . split<;>omega
theorem layd_keep {p:Pt} {f k v:Nat} (h:0<=lay p f k v):∀m,lay p f (k+m) v=lay p f k v
 | 0=>rfl
 | m+1=>by
   have:=layd_keep h m;rw[<- Nat.add_assoc,lay,this,if_pos h]
theorem layd_self {p:Pt} {f:Nat}:∀{k v:Nat},0<=lay p f k v->lay p f (lay p f k v).toNat v=lay p f k v
 | 0,v,h=>by
   have:=layd_low p f 0 v;have e:lay p f 0 v=0:=by omega
   rw[e];exact e
 | k+1,v,h=>by
   by_cases h0:0<=lay p f k v
   . have e:lay p f (k+1) v=lay p f k v:=by rw[lay,if_pos h0]
     rw[e];exact layd_self h0
   . have e:lay p f (k+1) v=(k:Int)+1:=by
      rw[lay,if_neg h0] at h ⊢;split at h
      . rename_i q;rw[if_pos q]
      . omega
     rw[e,show((k:Int)+1).toNat=k+1 by omega,e]
theorem layd_agree {p:Pt} {f k m v:Nat} (h:0<=lay p f k v) (h':0<=lay p f m v):lay p f k v=lay p f m v:=by
 rcases Nat.le_total k m with q|q
 . have:=layd_keep h (m-k);rw[show k+(m-k)=m by omega] at this;exact this.symm
 . have:=layd_keep h' (k-m);rw[show m+(k-m)=k by omega] at this;exact this
theorem lay_back' {p:Pt} {f:Nat}:∀{k v:Nat},0<=lay p f k v->v≠f->∃l∈gR p v,lay p f k l.1.toNat=lay p f k v-1/\0<=lay p f k l.1.toNat
 | 0,v,h,hv=>by rw[lay,if_neg hv] at h;omega
 | k+1,v,h,hv=>by
   by_cases h0:0<=lay p f k v
   . obtain⟨l,hl,a,b⟩:=lay_back' h0 hv;have e1:lay p f (k+1) v=lay p f k v:=by rw[lay,if_pos h0]
     have e2:lay p f (k+1) l.1.toNat=lay p f k l.1.toNat:=by rw[lay,if_pos b]
     exact⟨l,hl,by rw[e1,e2];exact a,by rw[e2];exact b⟩
   . by_cases ha:(gR p v).any (fun l=>decide (lay p f k l.1.toNat=k))=true
     . have e1:lay p f (k+1) v=(k:Int)+1:=by rw[lay,if_neg h0,if_pos ha]
       rw[List.any_eq_true] at ha;obtain⟨l,hl,e⟩:=ha;have e:=of_decide_eq_true e;have e2:lay p f (k+1) l.1.toNat=k:=by rw[lay,if_pos (by omega)];exact e
       exact⟨l,hl,by rw[e1,e2];omega,by rw[e2];omega⟩
     . rw[lay,if_neg h0,if_neg ha] at h;omega
open Classical in
noncomputable def layR (p:Pt) (f v:Nat):Int:=if h:∃k,0<=lay p f k v then lay p f (Classical.choose h) v else -1
theorem layR_of {p:Pt} {f k v:Nat} (h:0<=lay p f k v):layR p f v=lay p f k v:=by
 have hx:∃k,0<=lay p f k v:=⟨k,h⟩;rw[layR,dif_pos hx];exact layd_agree (Classical.choose_spec hx) h
theorem layR_has {p:Pt} {f v:Nat} (h:0<=layR p f v):∃k,0<=lay p f k v/\layR p f v=lay p f k v:=by
 by_cases hx:∃k,0<=lay p f k v
 . obtain⟨k,hk⟩:=hx;exact⟨k,hk,layR_of hk⟩
 . rw[layR,dif_neg hx] at h;omega
theorem layR_low (p:Pt) (f v:Nat):-1<=layR p f v:=by
 rw[layR];split
 . exact(layd_low p f _ v).1
 . omega
theorem layR_found {p:Pt} (f:Nat) (hu:Und p):Found p f (layR p f):=by
 have hf0:lay p f 0 f=0:=by rw[lay,if_pos rfl]
 refine⟨fun v _=>layR_low p f v,by rw[layR_of (k:=0) (by omega),hf0],fun v hv hvf h=>?_,fun v hv h l hl=>?_⟩
 . obtain⟨k,hk,e⟩:=layR_has h;obtain⟨l,hl,a,b⟩:=lay_back' hk hvf;exact⟨l,hl,by rw[layR_of b,e];exact a,by rw[layR_of b];exact b⟩
 . obtain⟨k,hk,e⟩:=layR_has h;obtain⟨m,hm,em⟩:=hu.sym v hv l hl;have hs:=layd_self hk;have hd:((lay p f k v).toNat:Int)=lay p f k v:=by omega
   generalize (lay p f k v).toNat=d at *;have key:0<=lay p f (d+1) l.1.toNat:=by
    rw[lay];split
    . assumption
    . rw[if_pos (by rw[List.any_eq_true];exact⟨m,hm,by rw[em,hs,<- hd];simp⟩)];omega
   have hle:=(layd_low p f (d+1) l.1.toNat).2;rw[layR_of key,e,<- hd];omega
theorem dst_found {g:G} (hg:g.valid=true):Found g.ports 0 (fun v=>gI (dst g 0) v):=by
 obtain⟨f1,f2,f3,f4,f5,f6,f7⟩:=val_facts hg;have hu:=und_of hg;have hF:=layR_found 0 hu;have he:∀v,v<g.ports.length->gI (dst g 0) v=layR g.ports 0 v:=fun v hv=>by rw[dst_get g 0 hv];exact hF.eq hu (by omega) hv
 refine⟨fun v hv=>by rw[he v hv];exact hF.low v hv,by rw[he 0 (by omega)];exact hF.from_,fun v hv h0 h=>?_,fun v hv h l hl=>?_⟩
 . rw[he v hv] at h ⊢;obtain⟨l,hl,a,b⟩:=hF.back v hv h0 h;exact⟨l,hl,by rw[he _ (hu.rng v hv l hl)];exact a,by rw[he _ (hu.rng v hv l hl)];exact b⟩
 . rw[he v hv] at h ⊢;rw[he _ (hu.rng v hv l hl)];exact hF.on v hv h l hl
end Go.Proofs.YtpoplpohbpfbmaaGreatDoor
namespace Go.Proofs.YtpoplpohbpfbmaaGreatDoor
open Go.Eng
set_option maxRecDepth 100000
set_option linter.unusedVariables false
theorem grt_ok (l:List Int) (hl:l.length<=1000):Ret Tryz.prog 100 [.fz l.length 1 false (vI l)] (.int .i64 (maxL l (-1))):=by
 refine ret_frz rfl ?_;refine fn_rule mixed Tryz.func100 rfl hc100 hr100 rfl ?_
 repeat' ((conv=>whnf);first|fail)
 all_goals (conv=>whnf)
 refine loop_r mixed [6,7] (fun i:Nat=>[(3,.int .i64 (maxL (l.take i) (-1))),(8,.int .i64 i)]) (fun m i=>m=l.length-i/\i<=l.length) l.length 0 ⟨rfl,Nat.zero_le _⟩ ?_ ?_
 . exact weak_b (fun _ _=>[])
 rintro m i ⟨hm,hi⟩
 repeat' ((conv=>whnf);first|(refine Br.dec ?_ ?_<;>intro _<;>try omega)|(refine Ar.i64 (by omega) (by omega) ?_)|(refine Sv.mk _ rfl ?_)|(refine Ix.nat (by omega) ?_))
 all_goals (conv=>whnf)
 . refine⟨l.length-(i+1),i+1,by omega,⟨rfl,by omega⟩,?_⟩;simp only[gI_take l i (by omega),maxL_snoc];exact weak_b (fun _ _=>[])
 . rw[List.take_of_length_le (by omega)];exact VLe.rfl
def negB (l:List Int):Bool:=l.any fun a=>decide (a<0)
theorem negB_no {l:List Int}:negB l=false↔∀a∈l,0<=a:=by
 rw[negB,List.any_eq_false];constructor
 . intro h a ha;have:=h a ha;simp at this;omega
 . intro h a ha;have:=h a ha;simp;omega
def rgrt (l:List Int):Int:=if negB l then -1 else maxL l (-1)
theorem rgrt_ok (l:List Int) (hl:l.length<=1000):Ret Tryz.prog 33 [.fz l.length 1 false (vI l)] (.int .i64 (rgrt l)):=by
 refine ret_frz rfl ?_;refine fn_rule mixed Tryz.func33 rfl hc33 hr33 rfl ?_
 repeat' ((conv=>whnf);first|fail)
 all_goals (conv=>whnf)
 refine loop_r mixed [0] (fun i:Nat=>[(3,.int .i64 (maxL (l.take i) (-1))),(4,.int .i64 i)]) (fun m i=>m=l.length-i/\i<=l.length/\∀a∈l.take i,0<=a) l.length 0 ⟨rfl,Nat.zero_le _,by simp⟩ ?_ ?_
 . exact weak_b (fun _ _=>[])
 rintro m i ⟨hm,hi,hall⟩
 repeat' ((conv=>whnf);first|(refine Br.dec ?_ ?_<;>intro _<;>try omega)|(refine Ar.i64 (by omega) (by omega) ?_)|(refine Sv.mk _ rfl ?_)|(refine Ix.nat (by omega) ?_))
 all_goals (conv=>whnf)
 . refine VLe.int ?_;rw[rgrt,if_pos];rw[negB,List.any_eq_true];exact⟨gI l i,gI_mem (by omega),by simp;omega⟩
 . refine⟨l.length-(i+1),i+1,by omega,⟨rfl,by omega,?_⟩,?_⟩
   . rw[gI_take l i (by omega)];intro a ha;rcases List.mem_append.1 ha with h|h
     . exact hall a h
     . simp at h;omega
   . simp only[gI_take l i (by omega),maxL_snoc];exact weak_b (fun _ _=>[])
 . rw[List.take_of_length_le (by omega)] at hall ⊢;refine VLe.int ?_;rw[rgrt,negB_no.2 hall,if_neg (by simp)]
def G.conn (g:G):Bool:=g.valid&&!negB (dst g 0)
theorem conn_ok (g:G) (hs:g.Small):Ret Tryz.prog 93 [g.v] (.bool g.conn):=by
 have hval:=valid_ok g hs;refine ret_frz rfl ?_;refine fn_rule mixed Tryz.func93 rfl hc93 hr93 rfl ?_;rw[G.conn];by_cases hg:g.valid=true
 . obtain⟨f1,f2,f3,f4,f5,f6,f7⟩:=val_facts hg;have hsr:=search_ok g hg 0 (by omega);have hdl:=dst_len g 0;rw[hg] at hval ⊢;rw[Bool.true_and];generalize dst g 0=l at *
   repeat' ((conv=>whnf);first|(refine Br.tt ?_)|(refine hval.go ?_)|(refine hsr.go ?_))
   all_goals (conv=>whnf)
   refine loop_r mixed [9,10] (fun i:Nat=>[(11,.int .i64 i)]) (fun m i=>m=l.length-i/\i<=l.length/\∀a∈l.take i,0<=a) l.length 0 ⟨rfl,Nat.zero_le _,by simp⟩ ?_ ?_
   . exact weak_b (fun _ _=>[(0,some 0)])
   rintro m i ⟨hm,hi,hall⟩
   repeat' ((conv=>whnf);first|(refine Br.dec ?_ ?_<;>intro _<;>try omega)|(refine Ar.i64 (by omega) (by omega) ?_)|(refine Ix.nat (by omega) ?_))
   all_goals (conv=>whnf)
   . refine VLe.bool ?_;have:negB l=true:=by
      rw[negB,List.any_eq_true];exact⟨gI l i,gI_mem (by omega),by simp;omega⟩
     rw[this];rfl
   . refine⟨l.length-(i+1),i+1,by omega,⟨rfl,by omega,?_⟩,?_⟩
     . rw[gI_take l i (by omega)];intro a ha;rcases List.mem_append.1 ha with h|h
       . exact hall a h
       . simp at h;omega
     . exact weak_b (fun _ _=>[(0,some 0)])
   . rw[List.take_of_length_le (by omega)] at hall;rw[negB_no.2 hall];exact VLe.rfl
 . simp only[Bool.not_eq_true] at hg;rw[hg] at hval ⊢
   repeat' ((conv=>whnf);first|(refine Br.ff ?_)|(refine hval.go ?_))
   all_goals (conv=>whnf)
   all_goals exact VLe.rfl
theorem conn_facts {g:G} (h:g.conn=true):g.valid=true/\∀v,v<g.ports.length->0<=gI (dst g 0) v:=by
 simp only[G.conn,Bool.and_eq_true,Bool.not_eq_true'] at h;exact⟨h.1,fun v hv=>negB_no.1 h.2 _ (gI_mem (by rw[dst_len];exact hv))⟩
def mixI (p:Pt) (f k v:Nat) (w:Int) (u:Nat):Int:=if u<v then lay p f (k+1) u else if u=v then w else lay p f k u
def vMix (p:Pt) (f k v:Nat) (w:Int):Nat->Nat->V:=fun u _=>.int .i64 (mixI p f k v w u)
theorem lay_low (p:Pt) (f:Nat):∀k v,-1<=lay p f k v/\lay p f k v<=k
 | 0,v=>by rw[lay];split<;>omega
 | k+1,v=>by
   have:=lay_low p f k v;rw[lay];split
   . omega
   . split<;>omega
theorem lay_same (p:Pt) (f k u:Nat):lay p f (k+1) u=k↔lay p f k u=k:=by
 have:=lay_low p f k u;rw[lay];split
 . exact Iff.rfl
 . split<;>omega
def midI (p:Pt) (f k v i:Nat):Int:=if 0<=lay p f k v then lay p f k v else if ((gR p v).take i).any (fun l=>decide (lay p f k l.1.toNat=k)) then (k:Int)+1 else -1
theorem mid_zero (p:Pt) (f k v:Nat):midI p f k v 0=lay p f k v:=by
 have:=lay_low p f k v;rw[midI];split
 . rfl
 . simp;omega
theorem mid_end (p:Pt) (f k v i:Nat) (h:(gR p v).length<=i):midI p f k v i=lay p f (k+1) v:=by
 rw[midI,lay,List.take_of_length_le h]
theorem mid_stop {p:Pt} {f k v i j:Nat} (h:0<=midI p f k v i) (hij:i<=j):midI p f k v j=midI p f k v i:=by
 rw[midI,midI] at *;split
 . rfl
 . rename_i h0;rw[if_neg h0] at h;split at h
   . rename_i h1;rw[List.any_eq_true] at h1;obtain⟨l,hl,e⟩:=h1;have:((gR p v).take j).any (fun l=>decide (lay p f k l.1.toNat=k))=true:=by
      rw[List.any_eq_true];exact⟨l,(List.take_sublist_take_left hij).mem hl,e⟩
     rw[if_pos this,if_pos];rw[List.any_eq_true];exact⟨l,hl,e⟩
   . omega
theorem mid_next {p:Pt} {f k v i:Nat} (hi:i<(gR p v).length) (h:midI p f k v i<0):midI p f k v (i+1)=if lay p f k (toN p v i)=k then (k:Int)+1 else -1:=by
 have h0:¬ 0<=lay p f k v:=fun h0=>by rw[midI,if_pos h0] at h;omega
 rw[midI,if_neg h0] at h ⊢;rw[gF_take _ i hi,List.any_append];have h1:((gR p v).take i).any (fun l=>decide (lay p f k l.1.toNat=k))=false:=by
  cases e:((gR p v).take i).any (fun l=>decide (lay p f k l.1.toNat=k)) with
  | false=>rfl
  | true=>rw[e,if_pos rfl] at h;omega
 rw[h1];by_cases e:lay p f k (toN p v i)=k
 . rw[if_pos e,if_pos (by simpa[toN] using e)]
 . rw[if_neg e,if_neg (by simpa[toN] using e)]
theorem mix_start (p:Pt) (f k u:Nat) (w:Int) (hw:w=lay p f k 0):mixI p f k 0 w u=lay p f k u:=by
 rw[mixI,if_neg (by omega)];split
 . rename_i e;rw[e];exact hw
 . rfl
theorem mix_next (p:Pt) (f k v u:Nat) (w w':Int) (hw:w=lay p f (k+1) v) (hw':w'=lay p f k (v+1)):mixI p f k v w u=mixI p f k (v+1) w' u:=by
 simp only[mixI];by_cases h1:u<v
 . rw[if_pos h1,if_pos (by omega)]
 . rw[if_neg h1];by_cases h2:u=v
   . subst h2;rw[if_pos rfl,if_pos (by omega)];exact hw
   . rw[if_neg h2,if_neg (by omega)];split
     . rename_i e;rw[e];exact hw'.symm
     . rfl
def Hide (p:Prop):Prop:=p
theorem vle_ones (n i j:Nat) (hi:i<n+1) (hj:j<1):VLe (fapp (shiftF 0 fun _ _=>.int .i64 (-1)) n (shiftF 0 (tab [[.int .i64 (-1)]])) i j) (.int .i64 (-1)):=by
 obtain rfl:j=0:=by omega
 apply VLe.of_eq;by_cases h:i<n
 . rw[fapp_lt h];rfl
 . rw[fapp_ge h,show i-n=0 by omega];rfl
theorem vle_lay0 (p:Pt) (f i j:Nat) (hj:j<1):VLe (fset (fun _ _=>.int .i64 (-1)) (0+f) 0 [.int .i64 0] i j) (vMix p f 0 0 (lay p f 0 0) i j):=by
 obtain rfl:j=0:=by omega
 apply VLe.of_eq;simp only[fset,vMix];rw[mix_start p f 0 i _ rfl,lay,Nat.zero_add];by_cases h:i=f
 . subst h;simp
 . rw[if_neg (by simp[h]),if_neg h]
theorem mix_at {p:Pt} {f k v u:Nat} {w:Int} (h:u≠v):(mixI p f k v w u=k↔lay p f k u=k):=by
 rw[mixI];split
 . exact lay_same p f k u
 . first
    | exact Iff.rfl
    | rw[if_neg h]
theorem okR_ne {n v:Nat} {r:List (Int×Int)} (h:okR n v r=true) {i:Nat} (hi:i<r.length):(gF r i).1.toNat≠v:=by
 rw[okR,Bool.and_eq_true,List.all_eq_true] at h;have:=h.1 _ (gF_mem hi);rw[okL,decide_eq_true_eq] at this;omega
theorem mid_low (p:Pt) (f k v i:Nat):-1<=midI p f k v i/\midI p f k v i<=k+1:=by
 have:=lay_low p f k v;rw[midI]
 repeat' split
 all_goals omega
theorem vle_mixset (p:Pt) (f k v:Nat) (w w':Int) (a t:Nat) (ht:t<1):VLe (fset (vMix p f k v w) v 0 [.int .i64 w'] a t) (vMix p f k v w' a t):=by
 obtain rfl:t=0:=by omega
 apply VLe.of_eq;simp only[fset,vMix,mixI];by_cases h:a=v
 . subst h;simp
 . rw[if_neg (by simp[h]),if_neg h];simp[h]
set_option maxHeartbeats 16000000 in
theorem rdist_ok (g:G) (hs:g.Small) (hg:g.valid=true) (f:Nat) (hf:f<g.ports.length):Ret Tryz.prog 18 [g.v,.int .i64 f] (.fz (dst g f).length 1 false (vI (dst g f))):=by
 obtain⟨f1,f2,f3,f4,f5,f6,f7⟩:=val_facts hg;have hval:=rvalid_ok g hs;rw[hg] at hval;have hin:=in_ok f 0 ((g.ports.length:Int)-1);rw[decide_eq_true (by omega)] at hin;refine ret_frz rfl ?_;refine fn_rule mixed Tryz.func18 rfl hc18 hr18 rfl ?_
 repeat' ((conv=>whnf);first|(refine Br.tt ?_)|(refine Ar.i64 (by omega) (by omega) ?_)|(refine hval.go ?_)|(refine hin.go ?_))
 all_goals (conv=>whnf)
 refine loop_u mixed [1,2,5] [1] [2,3,4,5,6,7,8,9,10,11,12,13,14,15,16,17,18,19,20,21,22,23,24,25,26,27,28,29] [1,0] (fun v:Nat=>[(6,.vec 1 1 0 v),(7,.int .i64 v)]) (fun own v=>(1,.vec v 1 (fun _ _=>.int .i64 (-1)))::own) (fun m v=>m=g.ports.length-v/\v<=g.ports.length) g.ports.length 0 ⟨rfl,Nat.zero_le _⟩ rfl (fun _=>rfl) ?_ ?_
 . exact weak_b (fun _ _=>[(0,some 0),(1,none)])
 rintro m v ⟨hm,hv⟩;by_cases hvn:v<g.ports.length
 . repeat' ((conv=>whnf);first|(refine Br.dec ?_ ?_<;>intro _<;>try omega)|(refine Br.nbeq ?_ ?_<;>intro _<;>try omega)|(refine Ar.i64 (by omega) (by omega) ?_)|(refine Len.mk (by omega) ?_))
   all_goals (conv=>whnf)
   all_goals
    refine⟨g.ports.length-(v+1),v+1,by omega,⟨rfl,by omega⟩,?_⟩;refine weak_by (fun env own=>[(0,some 0),(1,ekey env 6)]) ?_ ?_ rfl
    . repeat' (first|exact True.intro|(refine⟨⟨_,rfl,?_⟩,?_⟩)|exact VRen.kf rfl|exact VRen.loc rfl|exact VRen.vec rfl rfl rfl)
    . repeat' (first|(refine⟨Nat.le_refl _,rfl,fun i j hi hj=>?_⟩)|exact vle_ones _ _ _ hi hj|exact True.intro|(refine⟨⟨_,rfl,?_⟩,?_⟩)|exact VRen.kf rfl|(refine And.intro ?_ ?_))
 . have ev:v=g.ports.length:=by omega
   subst ev
   repeat' ((conv=>whnf);first|(refine Br.dec ?_ ?_<;>intro _<;>try omega)|(refine Ix.nat (by omega) ?_)|(refine Ltn.mk (by omega) ?_))
   all_goals (conv=>whnf)
   refine loop_w mixed [2,5,6] [] [2,3,4,5,6,7,8,9,10,11,12,13,14,15,16,17,18,19,20,21,22,23,24,25,26,27,28,29] [1,0] (fun k:Nat=>[(8,.int .i64 ((k:Int)+1))]) (fun k=>[(1,.vec g.ports.length 1 (vMix g.ports f k 0 (lay g.ports f k 0))),(0,.cells [.fz g.ids.length 1 false (vI g.ids),.fz g.ports.length 1 false (vP g.ports)])]) (fun m k=>m=g.ports.length-1-k/\k<=g.ports.length-1) (g.ports.length-1) 0 ⟨rfl,Nat.zero_le _⟩ rfl (fun _=>rfl) ?_ ?_
   . refine weak_by (fun _ _=>[(0,some 0),(1,some 1)]) ?_ ?_ rfl
     . repeat' (first|exact True.intro|(refine⟨⟨_,rfl,?_⟩,?_⟩)|exact VRen.kf rfl|exact VRen.loc rfl|exact VRen.vec rfl rfl rfl)
     . repeat' (first|exact⟨Nat.le_refl _,rfl,fun i j hi hj=>vle_lay0 _ _ _ _ hj⟩|exact True.intro|(refine⟨⟨_,rfl,?_⟩,?_⟩)|exact VRen.kf rfl|(refine And.intro ?_ ?_))
   rintro m k ⟨hm,hk⟩;by_cases hkn:k<g.ports.length-1
   . repeat' ((conv=>whnf);first|(refine Br.dec ?_ ?_<;>intro _<;>try omega))
     all_goals (conv=>whnf)
     refine loop_w mixed [2,5,6,8] [] [2,3,4,5,6,7,8,9,10,11,12,13,14,15,16,17,18,19,20,21,22,23,24,25,26,27,28,29] [1,0] (fun v:Nat=>[(9,.int .i64 v)]) (fun v=>[(1,.vec g.ports.length 1 (vMix g.ports f k v (lay g.ports f k v))),(0,.cells [.fz g.ids.length 1 false (vI g.ids),.fz g.ports.length 1 false (vP g.ports)])]) (fun m v=>m=g.ports.length-v/\v<=g.ports.length) g.ports.length 0 ⟨rfl,Nat.zero_le _⟩ rfl (fun _=>rfl) ?_ ?_
     . exact weak_b (fun _ _=>[(0,some 0),(1,some 1)])
     rintro m v ⟨hm,hv⟩;by_cases hvn:v<g.ports.length
     . have hrl:=row_le' hg v
       repeat' ((conv=>whnf);first|(refine Br.dec ?_ ?_<;>intro _<;>try omega))
       all_goals (conv=>whnf)
       refine loop_w mixed [2,5,6,8,9] [] [2,3,4,5,6,7,8,9,10,11,12,13,14,15,16,17,18,19,20,21,22,23,24,25,26,27,28,29] [1,0] (fun i:Nat=>[(10,.int .i64 i)]) (fun i=>[(1,.vec g.ports.length 1 (vMix g.ports f k v (midI g.ports f k v i))),(0,.cells [.fz g.ids.length 1 false (vI g.ids),.fz g.ports.length 1 false (vP g.ports)])]) (fun m i=>m=(gR g.ports v).length-i/\i<=(gR g.ports v).length) (gR g.ports v).length 0 ⟨rfl,Nat.zero_le _⟩ rfl (fun _=>rfl) ?_ ?_
       . refine weak_by (fun _ _=>[(0,some 0),(1,some 1)]) ?_ ?_ rfl
         . repeat' (first|exact True.intro|(refine⟨⟨_,rfl,?_⟩,?_⟩)|exact VRen.kf rfl|exact VRen.loc rfl|exact VRen.vec rfl rfl rfl)
         . repeat' (first|exact⟨Nat.le_refl _,rfl,fun i j hi hj=>VLe.of_eq (by rw[mid_zero])⟩|exact True.intro|(refine⟨⟨_,rfl,?_⟩,?_⟩)|exact VRen.kf rfl|(refine And.intro ?_ ?_))
       rintro m i ⟨hm,hi⟩;have hml:=mid_low g.ports f k v i;have hv0:mixI g.ports f k v (midI g.ports f k v i) (0+v)=midI g.ports f k v i:=by rw[Nat.zero_add,mixI,if_neg (by omega),if_pos rfl]
       have hfin:Hide ((¬ i<(gR g.ports v).length)\/0<=midI g.ports f k v i->midI g.ports f k v i=lay g.ports f (k+1) v):=fun h=>by
        rw[<- mid_end g.ports f k v (gR g.ports v).length (Nat.le_refl _)];rcases h with h|h
        . rw[show i=(gR g.ports v).length by omega]
        . exact(mid_stop h hi).symm
       by_cases hgo:i<(gR g.ports v).length/\midI g.ports f k v i<0
       . obtain⟨hil,hneg⟩:=hgo;have hr:=okR_to' (f6 v hvn) hil;have hrn:=okR_ne (f6 v hvn) hil;have hat:=mix_at (p:=g.ports) (f:=f) (k:=k) (w:=midI g.ports f k v i) hrn;have hnx:=mid_next hil hneg;rw[show toN g.ports v i=(gF (gR g.ports v) i).1.toNat from rfl] at hnx;rw[<- Nat.zero_add (gF (gR g.ports v) i).1.toNat] at hat;have hat:Hide _:=hat;have hnx:Hide _:=hnx
         repeat' ((conv=>whnf);first|(refine Br.dec ?_ ?_<;>intro _<;>try omega)|(refine Ar.i64 (by omega) (by omega) ?_)|(refine Ix.nat (by omega) ?_)|(refine Ix.int (by omega) (by omega) ?_)|(refine Ltn.mk (by omega) ?_))
         all_goals (conv=>whnf)
         . rename_i he;unfold Hide at hat hnx;rw[if_pos (by rw[<- Nat.zero_add (gF (gR g.ports v) i).1.toNat,<- hat];omega)] at hnx;refine⟨(gR g.ports v).length-(i+1),i+1,by omega,⟨rfl,by omega⟩,?_⟩;simp only[hnx];refine weak_by (fun _ _=>[(0,some 0),(1,some 1)]) ?_ ?_ rfl
           . repeat' (first|exact True.intro|(refine⟨⟨_,rfl,?_⟩,?_⟩)|exact VRen.kf rfl|exact VRen.loc rfl|exact VRen.vec rfl rfl rfl)
           . repeat' (first|exact⟨Nat.le_refl _,rfl,fun a t ha ht=>by simp only[Nat.zero_add];exact vle_mixset _ _ _ _ _ _ _ _ ht⟩|exact True.intro|(refine⟨⟨_,rfl,?_⟩,?_⟩)|exact VRen.kf rfl|(refine And.intro ?_ ?_))
         . rename_i he;unfold Hide at hat hnx;rw[if_neg (by rw[<- Nat.zero_add (gF (gR g.ports v) i).1.toNat,<- hat];omega)] at hnx;refine⟨(gR g.ports v).length-(i+1),i+1,by omega,⟨rfl,by omega⟩,?_⟩;rw[show midI g.ports f k v i=-1 by omega];simp only[hnx];exact weak_b (fun _ _=>[(0,some 0),(1,some 1)])
       . unfold Hide at hfin;have hfin:=hfin (by omega)
         repeat' ((conv=>whnf);first|(refine Br.dec ?_ ?_<;>intro _<;>try omega)|(refine Ar.i64 (by omega) (by omega) ?_)|(refine Ix.nat (by omega) ?_)|(refine Ltn.mk (by omega) ?_))
         all_goals (conv=>whnf)
         all_goals
          refine⟨g.ports.length-(v+1),v+1,by omega,⟨rfl,by omega⟩,?_⟩;refine weak_by (fun _ _=>[(0,some 0),(1,some 1)]) ?_ ?_ rfl
          . repeat' (first|exact True.intro|(refine⟨⟨_,rfl,?_⟩,?_⟩)|exact VRen.kf rfl|exact VRen.loc rfl|exact VRen.vec rfl rfl rfl)
          . repeat' (first|exact⟨Nat.le_refl _,rfl,fun a t ha ht=>VLe.of_eq (congrArg (V.int .i64) (mix_next _ _ _ _ _ _ _ hfin rfl))⟩|exact True.intro|(refine⟨⟨_,rfl,?_⟩,?_⟩)|exact VRen.kf rfl|(refine And.intro ?_ ?_))
     . have ev:v=g.ports.length:=by omega
       subst ev
       repeat' ((conv=>whnf);first|(refine Br.dec ?_ ?_<;>intro _<;>try omega)|(refine Ar.i64 (by omega) (by omega) ?_))
       all_goals (conv=>whnf)
       refine⟨g.ports.length-1-(k+1),k+1,by omega,⟨rfl,by omega⟩,?_⟩;refine weak_by (fun _ _=>[(0,some 0),(1,some 1)]) ?_ ?_ rfl
       . repeat' (first|exact True.intro|(refine⟨⟨_,rfl,?_⟩,?_⟩)|exact VRen.kf rfl|exact VRen.loc rfl|exact VRen.vec rfl rfl rfl)
       . repeat' (first|exact⟨Nat.le_refl _,rfl,fun a t ha ht=>VLe.of_eq (congrArg (V.int .i64) ((if_pos ha).trans (mix_start _ _ _ _ _ rfl).symm))⟩|exact True.intro|(refine⟨⟨_,rfl,?_⟩,?_⟩)|exact VRen.kf rfl|(refine And.intro ?_ ?_))
   . have ek:k=g.ports.length-1:=by omega
     subst ek
     repeat' ((conv=>whnf);first|(refine Br.dec ?_ ?_<;>intro _<;>try omega)|(refine Len.mk (by omega) ?_))
     all_goals (conv=>whnf)
     refine VLe.fz (dst_len g f).symm (fun h=>h) (fun i t hi ht=>VLe.of_eq ?_);rw[sh_at,vMix,Nat.zero_add,mix_start _ _ _ _ _ rfl,vI,dst_get g f hi]
end Go.Proofs.YtpoplpohbpfbmaaGreatDoor
namespace Go.Proofs.YtpoplpohbpfbmaaGreatDoor
open Go.Eng
set_option maxRecDepth 100000
set_option linter.unusedVariables false
theorem dst_ne (g:G) (hg:g.valid=true):0<(dst g 0).length:=by
 obtain⟨f1,f2,f3,f4,f5,f6,f7⟩:=val_facts hg;rw[dst_len];omega
theorem maxL_pos {l:List Int} (h0:0<l.length) (h:∀a∈l,0<=a):0<=maxL l (-1):=by
 match l,h0 with
 | a::r,_ =>
   have:=h a (by simp);have h1:=maxL_ge r (if a > -1 then a else -1);have h2:a<=if a > -1 then a else -1:=by split<;>omega
   simp only[maxL];exact Int.le_trans ‹0<=a› (Int.le_trans h2 h1)
def G.ecc (g:G):Int:=if g.conn then maxL (dst g 0) (-1) else -1
theorem dst_le (g:G) {v:Nat} (hv:v<g.ports.length):-1<=gI (dst g 0) v/\gI (dst g 0) v<g.ports.length:=by
 rw[dst_get g 0 hv];have:=lay_low g.ports 0 (g.ports.length-1) v;omega
theorem ecc_range (g:G) (hg:g.conn=true):0<=g.ecc/\g.ecc<=23:=by
 obtain⟨h1,h2⟩:=conn_facts hg;obtain⟨f1,f2,f3,f4,f5,f6,f7⟩:=val_facts h1;rw[G.ecc,if_pos hg];refine⟨maxL_pos (dst_ne g h1) (fun a ha=>?_),maxL_le _ _ _ (by omega) (fun a ha=>?_)⟩
 . obtain⟨i,hi,rfl⟩:=gI_get ha;exact h2 i (by rw[dst_len] at hi;exact hi)
 . obtain⟨i,hi,rfl⟩:=gI_get ha;rw[dst_len] at hi;have:=dst_le g hi;omega
theorem ecc_ok (g:G) (hs:g.Small):Ret Tryz.prog 61 [g.v,.int .i64 0] (.int .i64 g.ecc):=by
 have hcn:=conn_ok g hs;refine ret_frz rfl ?_;refine fn_rule mixed Tryz.func61 rfl hc61 hr61 rfl ?_;rw[G.ecc];cases hc:g.conn with
 | true =>
   obtain⟨h1,_⟩:=conn_facts hc;obtain⟨f1,f2,f3,f4,f5,f6,f7⟩:=val_facts h1;have hd:=search_ok g h1 0 (by omega);have hr:=grt_ok (dst g 0) (by rw[dst_len];omega);rw[hc] at hcn
   repeat' ((conv=>whnf);first|(refine Br.tt ?_)|(refine Br.ff ?_)|(refine Br.dec ?_ ?_<;>intro _<;>try omega)|(refine hcn.go ?_)|(refine hd.go ?_)|(refine hr.go ?_))
   all_goals (conv=>whnf)
   exact VLe.rfl
 | false =>
   rw[hc] at hcn
   repeat' ((conv=>whnf);first|(refine Br.ff ?_)|(refine hcn.go ?_))
   all_goals (conv=>whnf)
   exact VLe.rfl
theorem recc_ok (g:G) (hs:g.Small) (hg:g.conn=true):Ret Tryz.prog 15 [g.v,.int .i64 0] (.int .i64 g.ecc):=by
 obtain⟨h1,h2⟩:=conn_facts hg;obtain⟨f1,f2,f3,f4,f5,f6,f7⟩:=val_facts h1;have hd:=rdist_ok g hs h1 0 (by omega);have hr:=rgrt_ok (dst g 0) (by rw[dst_len];omega);have e:rgrt (dst g 0)=g.ecc:=by
  rw[rgrt,G.ecc,if_pos hg,negB_no.2 (fun a ha=>?_),if_neg (by simp)];obtain⟨i,hi,rfl⟩:=gI_get ha;exact h2 i (by rw[dst_len] at hi;exact hi)
 rw[e] at hr;refine ret_frz rfl ?_;refine fn_rule mixed Tryz.func15 rfl hc15 hr15 rfl ?_
 repeat' ((conv=>whnf);first|(refine hd.go ?_)|(refine hr.go ?_))
 all_goals (conv=>whnf)
 exact VLe.rfl
theorem distances_ok (g:G) (hs:g.Small) (hg:g.valid=true):Ret Tryz.prog 59 [g.v,.int .i64 0] (.fz (dst g 0).length 1 false (vI (dst g 0))):=by
 obtain⟨f1,f2,f3,f4,f5,f6,f7⟩:=val_facts hg;have hval:=valid_ok g hs;rw[hg] at hval;have hd:=search_ok g hg 0 (by omega);refine ret_frz rfl ?_;refine fn_rule mixed Tryz.func59 rfl hc59 hr59 rfl ?_
 repeat' ((conv=>whnf);first|(refine Br.tt ?_)|(refine Br.ff ?_)|(refine Br.dec ?_ ?_<;>intro _<;>try omega)|(refine hval.go ?_)|(refine hd.go ?_))
 all_goals (conv=>whnf)
 exact VLe.rfl
abbrev Lt2':=List (Int×Int)
theorem gF_drop' {l:Lt2'} {i:Nat} (h:i<l.length):l.drop i=gF l i::l.drop (i+1):=by
 rw[List.drop_eq_getElem_cons h];simp only[gF,List.getD,List.getElem?_eq_getElem h,Option.getD_some]
def fpI (p:Int×Int->Bool):Nat->Lt2'->Int
 | _,[]=>-1
 | k,l::r=>if p l then k else fpI p (k+1) r
theorem fpI_split (p:Int×Int->Bool):∀(l:Lt2') (k i:Nat),i<=l.length->(∀a∈l.take i,p a=false)->fpI p k l=fpI p (k+i) (l.drop i)
 | _,k,0,_,_=>by simp
 | [],k,i+1,h,_=>by simp at h
 | a::r,k,i+1,h,h2=>by
   have ha:p a=false:=h2 a (by simp);simp only[fpI,ha,List.drop_succ_cons];rw[if_neg (by simp),fpI_split p r (k+1) i (by simpa using h) (fun x hx=>h2 x (by simp[hx]))];congr 1;omega
theorem fpI_range (p:Int×Int->Bool):∀(l:Lt2') (k:Nat),fpI p k l=-1\/((k:Int)<=fpI p k l/\fpI p k l<(k+l.length:Nat))
 | [],k=>.inl rfl
 | a::r,k=>by
   simp only[fpI];split
   . right;simp;omega
   . rcases fpI_range p r (k+1) with h|h
     . exact .inl h
     . right;simp at *;omega
def nearB (g:G) (v:Nat) (l:Int×Int):Bool:=decide (gI (dst g 0) l.1.toNat=gI (dst g 0) v-1)
def upI (g:G) (v:Nat):Int:=fpI (nearB g v) 0 (gR g.ports v)
def dV (g:G):V:=.fz (dst g 0).length 1 false (vI (dst g 0))
theorem right1_ok (g:G) (hg:g.valid=true) (v:Nat) (hv:v<g.ports.length) (i:Nat) (hi:i<(gR g.ports v).length) :
 Ret Tryz.prog 98 [.agg [.int .i64 (gF (gR g.ports v) i).1,.int .i64 (gF (gR g.ports v) i).2],.fe 1 1 (tab [[dV g]]) 0 0,.fe 1 1 (tab [[.int .i64 v]]) 0 0] (.bool (nearB g v (gF (gR g.ports v) i))):=by
 obtain⟨f1,f2,f3,f4,f5,f6,f7⟩:=val_facts hg;have hr:=okR_to' (f6 v hv) hi;have hl:=dst_len g 0;have h1:=dst_le g hv;refine ret_frz rfl ?_;refine fn_rule mixed Tryz.func98 rfl hc98 hr98 rfl ?_
 repeat' ((conv=>whnf);first|(refine Br.dec ?_ ?_<;>intro _<;>try omega)|(refine Ar.i64 (by omega) (by omega) ?_)|(refine Ix.nat (by omega) ?_)|(refine Ix.int (by omega) (by omega) ?_))
 all_goals (conv=>whnf)
 . rename_i h;exact VLe.bool (decide_eq_true h).symm
 . rename_i h;exact VLe.bool (decide_eq_false h).symm
theorem fp_ok (g:G) (hg:g.valid=true) (v:Nat) (hv:v<g.ports.length) :
 CallF Tryz.prog 97 [g.v,.int .i64 v,.fn (.func 98) false [.loc 1 0,.loc 0 0]] [(1,.cells [dV g]),(0,.cells [.int .i64 v])] [2,3,4,5,6,7,8,9,10,11,12,13,14,15,16,17,18,19,20,21,22,23,24,25,26,27,28,29] fun X own' _=>X=.int .i64 (upI g v)/\own'=[(1,.cells [dV g]),(0,.cells [.int .i64 v])]:=by
 have hrl:=row_le' hg v;refine call_post ?_;refine fn_rule mixed Tryz.func97 rfl hc97 hr97 rfl ?_
 repeat' ((conv=>whnf);first|(refine Ix.nat (by omega) ?_))
 all_goals (conv=>whnf)
 refine loop_r mixed [2,13,14] (fun i:Nat=>[(15,.int .i64 i)]) (fun m i=>m=(gR g.ports v).length-i/\i<=(gR g.ports v).length/\∀l∈(gR g.ports v).take i,nearB g v l=false) (gR g.ports v).length 0 ⟨rfl,Nat.zero_le _,by simp⟩ ?_ ?_
 . exact weak_b (fun _ _=>[(0,some 0),(1,some 1),(2,some 2)])
 rintro m i ⟨hm,hi,hall⟩;by_cases hil:i<(gR g.ports v).length
 . have h1:=right1_ok g hg v hv i hil;cases hb:nearB g v (gF (gR g.ports v) i) with
   | true =>
     rw[hb] at h1
     repeat' ((conv=>whnf);first|(refine Br.tt ?_)|(refine Br.dec ?_ ?_<;>intro _<;>try omega)|(refine Ix.nat (by omega) ?_)|(refine Chk.mk (by kernel_rfl) ?_)|(refine call_lend h1 rfl ⟨VLe.rfl,VLe.rfl,VLe.rfl,True.intro⟩ ?_))
     all_goals (conv=>whnf)
     have e:upI g v=i:=by rw[upI,fpI_split _ _ 0 i hi hall,gF_drop' hil,fpI,if_pos hb];omega
     exact postR_by (fun _=>[(0,some 0),(1,some 1)]) _ _ ⟨by rw[e],rfl⟩ (VRen.kf rfl) (by repeat' (first|exact True.intro|(refine⟨⟨_,rfl,?_⟩,?_⟩)|exact VRen.kf rfl|(refine And.intro ?_ ?_))) rfl
   | false =>
     rw[hb] at h1
     repeat' ((conv=>whnf);first|(refine Br.ff ?_)|(refine Br.dec ?_ ?_<;>intro _<;>try omega)|(refine Ar.i64 (by omega) (by omega) ?_)|(refine Ix.nat (by omega) ?_)|(refine Chk.mk (by kernel_rfl) ?_)|(refine call_lend h1 rfl ⟨VLe.rfl,VLe.rfl,VLe.rfl,True.intro⟩ ?_))
     all_goals (conv=>whnf)
     refine⟨(gR g.ports v).length-(i+1),i+1,by omega,⟨rfl,by omega,fun l hl=>?_⟩,?_⟩
     . rw[gF_take _ i hil] at hl;rcases List.mem_append.1 hl with h|h
       . exact hall l h
       . simp at h;rw[h];exact hb
     . exact weak_b (fun _ _=>[(0,some 0),(1,some 1),(2,some 2)])
 . repeat' ((conv=>whnf);first|(refine Br.dec ?_ ?_<;>intro _<;>try omega))
   all_goals (conv=>whnf)
   have e:upI g v=-1:=by rw[upI,fpI_split _ _ 0 i hi hall,List.drop_of_length_le (by omega)];rfl
   exact postR_by (fun _=>[(0,some 0),(1,some 1)]) _ _ ⟨by rw[e],rfl⟩ (VRen.kf rfl) (by repeat' (first|exact True.intro|(refine⟨⟨_,rfl,?_⟩,?_⟩)|exact VRen.kf rfl|(refine And.intro ?_ ?_))) rfl
end Go.Proofs.YtpoplpohbpfbmaaGreatDoor
namespace Go.Proofs.YtpoplpohbpfbmaaGreatDoor
open Go.Eng
set_option maxRecDepth 100000
set_option linter.unusedVariables false
theorem equal_ok (a b:List Int) (ha:a.length<=9223372036854775807) (hb:b.length<=9223372036854775807):Ret Tryz.prog 99 [.fz a.length 1 false (vI a),.fz b.length 1 false (vI b)] (.bool (decide (a=b))):=by
 refine ret_frz rfl ?_;refine fn_rule mixed Tryz.func99 rfl hc99 hr99 rfl ?_
 repeat' ((conv=>whnf);first|(refine Br.bne ?_ ?_<;>intro _<;>try omega))
 all_goals (conv=>whnf)
 . exact VLe.bool (by rw[decide_eq_false (fun h=>by subst h;omega)])
 refine loop_r mixed [0,1,12] (fun i:Nat=>[(13,.int .i64 i)]) (fun m i=>m=a.length-i/\i<=a.length/\∀j,j<i->gI a j=gI b j) a.length 0 ⟨rfl,Nat.zero_le _,fun j hj=>by omega⟩ ?_ ?_
 . exact weak_b (fun _ _=>[])
 rintro m i ⟨hm,hi,hall⟩
 repeat' ((conv=>whnf);first|(refine Br.dec ?_ ?_<;>intro _<;>try omega)|(refine Br.bne ?_ ?_<;>intro _<;>try omega)|(refine Ar.i64 (by omega) (by omega) ?_)|(refine Ix.nat (by omega) ?_))
 all_goals (conv=>whnf)
 . rename_i hne;exact VLe.bool (by rw[decide_eq_false (fun h=>by subst h;exact hne rfl)])
 . refine⟨a.length-(i+1),i+1,by omega,⟨rfl,by omega,fun j hj=>?_⟩,?_⟩
   . by_cases e:j=i
     . subst e;assumption
     . exact hall j (by omega)
   . exact weak_b (fun _ _=>[])
 . have e:a=b:=List.ext_getElem (by omega) (fun j h1 h2=>by
    have:=hall j (by omega);simpa[gI,List.getD,List.getElem?_eq_getElem h1,List.getElem?_eq_getElem h2] using this)
   exact VLe.bool (by rw[decide_eq_true e])
theorem two_le' (a b:Int) (f:Nat->Nat->V) (h0:f 0 0=.int .i64 a) (h1:f 1 0=.int .i64 b):∀i j:Nat,i<2->j<1->VLe (f i j) (vI [a,b] i j):=by
 intro i j hi hj;obtain rfl:j=0:=by omega
 rcases (show i=0\/i=1 by omega) with rfl|rfl
 . rw[h0];exact VLe.rfl
 . rw[h1];exact VLe.rfl
theorem right_ok (g:G) (hg:g.valid=true) (v:Nat) (hv:v<g.ports.length) (st:List Int) (hst:st.length<=9223372036854775807) :
 Ret Tryz.prog 60 [g.v,.int .i64 v,dV g,.fz st.length 1 false (vI st)] (.bool (decide (st=[gI (dst g 0) v,upI g v]))):=by
 have hfp:=fp_ok g hg v hv;have hl:=dst_len g 0;have he:=equal_ok st [gI (dst g 0) v,upI g v] hst (by simp);refine ret_frz rfl ?_;refine fn_rule mixed Tryz.func60 rfl hc60 hr60 rfl ?_
 repeat' ((conv=>whnf);first|(refine Br.dec ?_ ?_<;>intro _<;>try omega)|(refine Ix.nat (by omega) ?_)|(refine call_by [(0,some 1),(1,some 2)] [] (hfp.mono ?_) ⟨VRen.kf rfl,VRen.int rfl,VRen.fn ⟨VRen.loc rfl,VRen.loc rfl,True.intro⟩,True.intro⟩ (by repeat' (first|exact True.intro|(refine⟨⟨_,rfl,?_⟩,?_⟩)|exact VRen.kf rfl|(refine And.intro ?_ ?_))) rfl;rintro _ _ _ ⟨rfl,rfl⟩)|(refine Chk.mk rfl ?_)|(refine call_lend he rfl ⟨by decide,VLe.rfl,VLe.fz rfl (fun h=>h) (two_le' _ _ _ rfl rfl),True.intro⟩ ?_))
 all_goals (conv=>whnf)
 all_goals exact VLe.bool (Eq.symm (by first|assumption|exact decide_eq_true (by assumption)|exact decide_eq_false (by assumption)))
theorem bfit_ok (g:G) (hs:g.Small):Ret Tryz.prog 94 [g.v] (.bool g.conn):=by
 have h:=conn_ok g hs;refine ret_frz rfl ?_;refine fn_rule mixed Tryz.func94 rfl hc94 hr94 rfl ?_;cases hc:g.conn
 all_goals rw[hc] at h
 all_goals
  repeat' ((conv=>whnf);first|(refine Br.tt ?_)|(refine Br.ff ?_)|(refine h.go ?_))
  all_goals (conv=>whnf)
  exact VLe.rfl
def G.bconf (g:G) (c:Cf):Bool:=conf g.ids.length 2 (bG g [(g.ids.length:Int),-1]) c
theorem bconfiguration_ok (g:G) (hs:g.Small) (c:Cf) (hc:CSmall c):Ret Tryz.prog 58 [g.v,cV c] (.bool (g.conn&&g.bconf c)):=by
 have hf:=bfit_ok g hs;refine ret_frz rfl ?_;refine fn_rule mixed Tryz.func58 rfl hc58 hr58 rfl ?_;cases hg:g.conn with
 | true =>
   rw[hg] at hf;rw[Bool.true_and];obtain⟨h1,_⟩:=conn_facts hg;obtain⟨f1,f2,f3,f4,f5,f6,f7⟩:=val_facts h1;have hb:=bconf_ok g hs f3 c hc [(g.ids.length:Int),-1] (by simp);rw[show conf g.ids.length [(g.ids.length:Int),-1].length (bG g [(g.ids.length:Int),-1]) c=g.bconf c from rfl] at hb
   repeat' ((conv=>whnf);first|(refine Br.tt ?_)|(refine hf.go ?_)|(refine call_frz [1] hb ⟨by decide,VLe.rfl,VLe.rfl,VLe.fz rfl (fun h=>h) (two_le' _ _ _ rfl rfl),True.intro⟩ ?_)|(refine Br.any (fun _=>?_) (fun _=>?_)))
   all_goals (conv=>whnf)
   all_goals exact VLe.bool (Eq.symm (by first|assumption|exact decide_eq_true (by assumption)|exact decide_eq_false (by assumption)))
 | false =>
   rw[hg] at hf
   repeat' ((conv=>whnf);first|(refine Br.ff ?_)|(refine hf.go ?_))
   all_goals (conv=>whnf)
   all_goals exact VLe.rfl
def treeB (g:G) (c:Cf):Bool:=decide (∀v,v<c.length->gI (gC c v) 0=gI (dst g 0) v/\gI (gC c v) 1=upI g v)
theorem treeB_iff {g:G} {c:Cf}:treeB g c=true↔∀v,v<c.length->gI (gC c v) 0=gI (dst g 0) v/\gI (gC c v) 1=upI g v:=by rw[treeB,decide_eq_true_eq]
theorem list2 {l:List Int} {a b:Int} (h:l.length=2):l=[a,b]↔gI l 0=a/\gI l 1=b:=by
 match l,h with
 | [x,y],_=>simp[gI]
theorem blegit_ok (g:G) (hs:g.Small) (c:Cf) (hc:CSmall c):Ret Tryz.prog 28 [g.v,cV c] (.bool (g.conn&&g.bconf c&&treeB g c)):=by
 have h0:=bconfiguration_ok g hs c hc;refine ret_frz rfl ?_;refine fn_rule mixed Tryz.func28 rfl hc28 hr28 rfl ?_;cases hgc:g.conn&&g.bconf c with
 | false =>
   rw[hgc] at h0
   repeat' ((conv=>whnf);first|(refine Br.ff ?_)|(refine h0.go ?_))
   all_goals (conv=>whnf)
   exact VLe.rfl
 | true =>
   rw[hgc] at h0;rw[Bool.true_and];rw[Bool.and_eq_true] at hgc;obtain⟨h1,_⟩:=conn_facts hgc.1;obtain⟨f1,f2,f3,f4,f5,f6,f7⟩:=val_facts h1;have hcf:=conf_iff.1 hgc.2;have hd:=distances_ok g hs h1
   repeat' ((conv=>whnf);first|(refine Br.tt ?_)|(refine h0.go ?_)|(refine hd.go ?_))
   all_goals (conv=>whnf)
   refine loop_r mixed [2,5,14,15] (fun i:Nat=>[(16,.int .i64 i)]) (fun m i=>m=c.length-i/\i<=c.length/\∀v,v<i->gI (gC c v) 0=gI (dst g 0) v/\gI (gC c v) 1=upI g v) c.length 0 ⟨rfl,Nat.zero_le _,fun v hv=>by omega⟩ ?_ ?_
   . exact weak_b (fun _ _=>[(0,some 0)])
   rintro m i ⟨hm,hi,hall⟩;by_cases hil:i<c.length
   . have hrow:=(hcf.2 i (by omega)).1;have hr:=right_ok g h1 i (by omega) (gC c i) (by omega);cases hdd:decide (gC c i=[gI (dst g 0) i,upI g i]) with
     | true =>
       rw[hdd] at hr;have h2:=(list2 hrow).1 (of_decide_eq_true hdd)
       repeat' ((conv=>whnf);first|(refine Br.tt ?_)|(refine Br.dec ?_ ?_<;>intro _<;>try omega)|(refine Ar.i64 (by omega) (by omega) ?_)|(refine Ix.nat (by omega) ?_)|(refine hr.go ?_))
       all_goals (conv=>whnf)
       refine⟨c.length-(i+1),i+1,by omega,⟨rfl,by omega,fun v hv=>?_⟩,?_⟩
       . by_cases e:v=i
         . subst e;exact h2
         . exact hall v (by omega)
       . exact weak_b (fun _ _=>[(0,some 0)])
     | false =>
       rw[hdd] at hr
       repeat' ((conv=>whnf);first|(refine Br.ff ?_)|(refine Br.dec ?_ ?_<;>intro _<;>try omega)|(refine Ix.nat (by omega) ?_)|(refine hr.go ?_))
       all_goals (conv=>whnf)
       refine VLe.bool ?_;cases e:treeB g c with
       | false=>rfl
       | true=>exact(of_decide_eq_false hdd ((list2 hrow).2 (treeB_iff.1 e i hil))).elim
   . repeat' ((conv=>whnf);first|(refine Br.dec ?_ ?_<;>intro _<;>try omega))
     all_goals (conv=>whnf)
     exact VLe.bool (treeB_iff.2 (fun v hv=>hall v (by omega))).symm
end Go.Proofs.YtpoplpohbpfbmaaGreatDoor
