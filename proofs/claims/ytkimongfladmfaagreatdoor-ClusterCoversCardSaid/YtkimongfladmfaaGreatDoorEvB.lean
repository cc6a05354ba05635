import Derived.Test.YtkimongfladmfaaGreatDoorDN11
import Derived.Test.YtkimongfladmfaaGreatDoorEngT
import Derived.Test.YtkimongfladmfaaGreatDoorEngZ
import Derived.Test.YtkimongfladmfaaGreatDoorRows
import Derived.LaidMore
import Derived.Stop.Joined
import Derived.SevenTiedAt
import GoSem.ClaimSeven
import Derived.IntWalk
namespace Go.Proofs.YtkimongfladmfaaGreatDoor
open Go.Eng
set_option maxRecDepth 100000
set_option linter.unusedVariables false
instance:Inhabited Cnt:=⟨⟨0,0,0,0,0⟩⟩
def chC (p:Pr) (g:G) (k:Int) (c:Cf) (w:Nat):Nat:=rs g k (enN p g c) w
def nxC (p:Pr) (g:G) (k:Int) (c:Cf) (w:Nat):Cf:=stepC p g c (chC p g k c w)
def nxK (p:Pr) (g:G) (k:Int) (c:Cf) (n:Cnt) (w:Nat):Cnt:=n.add (chC p g k c w) (enN p g (nxC p g k c w))
def trc (p:Pr) (g:G) (k:Int):Cf→Cnt→List Nat→List (Cf × Cnt)
 | c,n,[]=>[(c,n)]
 | c,n,w :: ws=>(c,n) :: (if enN p g c = 0 then [] else trc p g k (nxC p g k c w) (nxK p g k c n w) ws)
def chsL (p:Pr) (g:G) (k:Int):Cf→List Nat→List Nat
 | _,[]=>[]
 | c,w :: ws=>if enN p g c = 0 then [] else chC p g k c w :: chsL p g k (nxC p g k c w) ws
def cnt0 (e:Nat):Cnt:=⟨0,0,0,0,e⟩
theorem en_pow (p:Pr) (g:G) (c:Cf):enN p g c < 2 ^ g.ids.length:=nb_pow _ _
theorem en_24 (p:Pr) {g:G} (hg:g.valid = true) (c:Cf):enN p g c < 16777216:=by
 obtain ⟨f1,f2,f3,f4,f5,f6,f7⟩:=val_facts hg;exact Nat.lt_of_lt_of_le (en_pow p g c) (Nat.pow_le_pow_right (n:=2) (by omega) f2)
theorem en_32 (p:Pr) {g:G} (hg:g.valid = true) (c:Cf):enN p g c < 4294967296:=by have:=en_24 p hg c;omega
theorem en_part (p:Pr) {g:G} (hg:g.valid = true) (c:Cf):Part (enN p g c) (full g.ports.length):=fun i hi=>by
 obtain ⟨f1,f2,f3,f4,f5,f6,f7⟩:=val_facts hg;rw [enN,nb_bit,Bool.and_eq_true,decide_eq_true_eq] at hi;rw [full_bit,decide_eq_true_eq];omega
theorem en_bit (p:Pr) (g:G) (c:Cf) (v:Nat):(enN p g c).testBit v = (decide (v < g.ids.length) && decide (0≤ruleI p g c v)):=nb_bit _ _ _
theorem ch_facts (p:Pr) {g:G} (hg:g.valid = true) {k:Int} (hk:dk k = true) (c:Cf) (w:Nat) (h0:enN p g c≠0) :
 chC p g k c w≠0∧Part (chC p g k c w) (enN p g c)∧okC g k (enN p g c) (chC p g k c w) = true∧chC p g k c w < 16777216∧1≤cnt (chC p g k c w) 32∧cnt (chC p g k c w) 32≤24:=by
 have he:=en_32 p hg c;have hi:=rs_inner hg (w:=w) hk he (en_part p hg c) h0;obtain ⟨h1,h2,h3⟩:=inner_iff.1 hi;have hp:Part (rs g k (enN p g c) w) (enN p g c):=by
  intro i hb;by_cases e:i < 32
  . have:=congrArg (Nat.testBit · i) h2;simp only [Nat.zero_testBit,ndiff_bit e,hb,Bool.true_and,Bool.not_eq_false'] at this;exact this
  . exfalso;have hx:rs g k (enN p g c) w < 4294967296∨∃ j,32≤j∧(rs g k (enN p g c) w).testBit j = true:=by
     right;exact ⟨i,by omega,hb⟩
    have h4:rs g k (enN p g c) w < 4294967296:=by
     rw [rs];split
     . exact lowb_lt _ (wsh_lt he)
     . split
       . exact gr_lt g _ (by omega)
       . split
         . exact he
         . exact wsh_lt he
    have:=Nat.testBit_lt_two_pow (Nat.lt_of_lt_of_le h4 (Nat.pow_le_pow_right (n:=2) (i:=32) (by omega) (show 32≤i by omega)));rw [this] at hb;cases hb
 have hlt:rs g k (enN p g c) w < 16777216:=by
  apply Nat.lt_of_not_le;intro hge;obtain ⟨i,hi1,hi2⟩:=Nat.exists_ge_and_testBit_of_ge_two_pow (n:=24) hge;have:=hp i hi2;have h24:=Nat.testBit_lt_two_pow (Nat.lt_of_lt_of_le (en_24 p hg c) (Nat.pow_le_pow_right (n:=2) (i:=24) (by omega) hi1));rw [h24] at this;cases this
 refine ⟨h1,hp,h3,hlt,?_,?_⟩
 . have:∃ i,(rs g k (enN p g c) w).testBit i = true:=by
    apply Classical.byContradiction;intro hn;exact h1 (zero_bits.2 fun i=>by
     cases hb:(rs g k (enN p g c) w).testBit i with
     | false=>rfl
     | true=>exact (hn ⟨i,hb⟩).elim)
   obtain ⟨i,hb⟩:=this;have hi:i < 32:=by
    apply Nat.lt_of_not_le;intro hge;have:=Nat.testBit_lt_two_pow (Nat.lt_of_lt_of_le hlt (Nat.pow_le_pow_right (n:=2) (i:=24) (by omega) (show 24≤i by omega)));rw [this] at hb;cases hb
   exact cnt_pos hb hi
 . have h24:cnt (chC p g k c w) 32 = cnt (chC p g k c w) 24:=by
    rw [show (32:Nat) = 24 + 8 from rfl,cnt_add 24 8];have hz:chC p g k c w >>> 24 = 0:=by
     rw [Nat.shiftRight_eq_div_pow];exact Nat.div_eq_of_lt hlt
    rw [hz,cnt_zero (s:=0) (fun i _=>Nat.zero_testBit i)];rfl
   rw [h24];exact cnt_le _ 24
theorem brI_in {kind lo hi v:Int} (h:lo≤hi) (h3:kind = 3→lo = -1):lo≤brI kind lo hi v∧brI kind lo hi v≤hi:=by
 unfold brI;split
 . omega
 . split
   . have:=h3 (by assumption);omega
   . split <;> omega
theorem bnd_le {g:G} (hg:g.valid = true) {x:Vr} (hx:VarOk x) {v:Nat} (hv:v < g.ports.length):(bnd g x v).1≤(bnd g x v).2∧(x.kind = 3→(bnd g x v).1 = -1):=by
 have h1:=bnd_in hg hx hv;rcases hx.kind with h | h | h
 . exact ⟨h1.2.2.2.2 h,fun e=>by omega⟩
 . rw [bnd,if_neg (by omega),if_pos h];exact ⟨by decide,fun e=>by omega⟩
 . rw [bnd,if_neg (by omega),if_neg (by omega)];exact ⟨by simp only;omega,fun _=>rfl⟩
theorem gI_stx (l:List Int) (a i:Nat) (x:Int) (ha:a < l.length):gI (l.set a x) i = if i = a then x else gI l i:=by
 simp only [gI,List.getD,List.getElem?_set];by_cases h:a = i
 . subst h;simp [ha]
 . have:¬ i = a:=fun e=>h e.symm;rw [if_neg h,if_neg this]
theorem step_conf {p:Pr} (hp:PrOk p) {g:G} (hg:g.valid = true) {c:Cf} (hc:Conf p g c) {s:Nat} (hs:Part s (enN p g c)):Conf p g (stepC p g c s):=by
 obtain ⟨f1,f2,f3,f4,f5,f6,f7⟩:=val_facts hg;have hl:=hc.len;have key:∀ v,v < c.length→s.testBit v = true→∀ x,x < p.vars.length→(bnd g (gV p.vars x) v).1≤gI (moveL p g c v (ruleI p g c v).toNat) x∧gI (moveL p g c v (ruleI p g c v).toNat) x≤(bnd g (gV p.vars x) v).2:=by
  intro v hv hb x hx;have hen:=hs v hb;rw [en_bit,Bool.and_eq_true,decide_eq_true_eq,decide_eq_true_eq] at hen;have hrl:=ruleI_lt p g c v;have hr:(ruleI p g c v).toNat < p.rules.length:=by omega
  have hset:=hp.set _ hr;unfold moveL putL;generalize (gRl p.rules (ruleI p g c v).toNat).sets = l at hset;have gen:∀ (l:List (Int × Tm)),(∀ j,j < l.length→0≤(gS l j).1∧(gS l j).1 < p.vars.length)→∀ st:List Int,st.length = p.vars.length→((bnd g (gV p.vars x) v).1≤gI st x∧gI st x≤(bnd g (gV p.vars x) v).2) →
   (bnd g (gV p.vars x) v).1≤gI (l.foldl (putV p g c v) st) x∧gI (l.foldl (putV p g c v) st) x≤(bnd g (gV p.vars x) v).2:=by
   intro l
   induction l with
   | nil=>intro _ st _ h;exact h
   | cons a r ih =>
     intro hj st hst h;rw [List.foldl_cons];have ha:0≤a.1∧a.1 < p.vars.length:=hj 0 (by simp);refine ih (fun j hj'=>by have:=hj (j + 1) (by simpa using hj');simpa [gS] using this) _ (by simp [putV,hst]) ?_;rw [putV,gI_stx _ _ _ _ (by omega)];split
     . rename_i e;subst e;have hb:=bnd_le hg (hp.var a.1.toNat hx) (v:=v) (by omega);exact brI_in hb.1 hb.2
     . exact h
  exact gen l (fun j hj=>⟨(hset j hj).1,(hset j hj).2.1⟩) _ (hc.row v hv) (hc.val v hv x hx)
 refine ⟨by rw [stepC_len];exact hl,fun v hv=>?_,fun v hv x hx=>?_⟩
 . rw [stepC_len] at hv;rw [stepC_row p g c s hv];split
   . rw [moveL,putL_len];exact hc.row v hv
   . exact hc.row v hv
 . rw [stepC_len] at hv;rw [stepC_row p g c s hv];split
   . rename_i hb;exact key v hv hb x hx
   . exact hc.val v hv x hx
theorem nx_conf {p:Pr} (hp:PrOk p) {g:G} (hg:g.valid = true) {k:Int} (hk:dk k = true) {c:Cf} (hc:Conf p g c) (w:Nat) (h0:enN p g c≠0):Conf p g (nxC p g k c w) :=
 step_conf hp hg hc (ch_facts p hg hk c w h0).2.1
theorem nx_ok {p:Pr} {g:G} (hg:g.valid = true) {k:Int} (hk:dk k = true) {c:Cf} {n:Cnt} (hn:n.Ok) (h4:n.steps < 4096) (w:Nat) (h0:enN p g c≠0):(nxK p g k c n w).Ok∧(nxK p g k c n w).steps = n.steps + 1:=by
 obtain ⟨c1,c2,c3,c4,c5,c6⟩:=ch_facts p hg hk c w h0;refine ⟨add_fit n hn h4 _ _ c5 c6 (en_24 p hg _),?_⟩;rw [nxK,Cnt.add];split <;> rfl
theorem cnt0_ok {e:Nat} (he:e < 16777216):(cnt0 e).Ok:=⟨by simp [cnt0],by simp [cnt0],by simp [cnt0],by simp [cnt0],by simp [cnt0],by simp [cnt0],he⟩
theorem trc_ne (p:Pr) (g:G) (k:Int) (c:Cf) (n:Cnt) (ws:List Nat):0 < (trc p g k c n ws).length:=by
 cases ws <;> simp [trc]
theorem trc_len (p:Pr) (g:G) (k:Int):∀ (ws:List Nat) (c:Cf) (n:Cnt),(trc p g k c n ws).length≤ws.length + 1
 | [],c,n=>by simp [trc]
 | w :: ws,c,n=>by
   rw [trc];split
   . simp
   . have:=trc_len p g k ws (nxC p g k c w) (nxK p g k c n w);simp;omega
theorem trc_all {p:Pr} (hp:PrOk p) {g:G} (hg:g.valid = true) {k:Int} (hk:dk k = true):∀ (ws:List Nat) (c:Cf) (n:Cnt),Conf p g c→n.Ok→n.steps + ws.length≤4096→∀ x∈trc p g k c n ws,Conf p g x.1∧x.2.Ok
 | [],c,n,hc,hn,_,x,hx=>by simp [trc] at hx;subst hx;exact ⟨hc,hn⟩
 | w :: ws,c,n,hc,hn,hl,x,hx=>by
   rw [trc] at hx;rcases List.mem_cons.1 hx with e | hx
   . subst e;exact ⟨hc,hn⟩
   . by_cases h0:enN p g c = 0
     . rw [if_pos h0] at hx;cases hx
     . rw [if_neg h0] at hx;simp only [List.length_cons] at hl;obtain ⟨k1,k2⟩:=nx_ok hg hk hn (by omega) w h0 (k:=k);exact trc_all hp hg hk ws _ _ (nx_conf hp hg hk hc w h0) k1 (by omega) x hx
def lastC (l:List (Cf × Cnt)):Cf:=(l.getLast?.getD default).1
def wsE (l:List Int) (i:Nat):Int:=if l.length = 0 then 4294967295 else
 bitI .and .u32 (bitI .or .u32 (IntKind.u32.wrap (bitI .and .u32 (gI l (i % l.length)) 16777215 * 2 ^ (min (((i:Int).tdiv l.length).tmod 24).toNat 32))) ((bitI .and .u32 (gI l (i % l.length)) 16777215).fdiv (2 ^ (min (24 - ((i:Int).tdiv l.length).tmod 24).toNat 32)))) 16777215
theorem wrapu_range (a:Int):0≤IntKind.u32.wrap a∧IntKind.u32.wrap a < 4294967296:=by
 simp only [IntKind.wrap,IntKind.bits,IntKind.signed,Bool.false_and];constructor
 . simp;omega
 . simp;omega
theorem wsE_range (l:List Int) (i:Nat):0≤wsE l i∧wsE l i < 4294967296:=by
 rw [wsE];split
 . decide
 . exact wrapu_range _
def wsN (l:List Int) (i:Nat):Nat:=(wsE l i).toNat
def wsL (l:List Int) (n:Nat):List Nat:=(List.range n).map (wsN l)
theorem wsL_len (l:List Int) (n:Nat):(wsL l n).length = n:=by simp [wsL]
theorem wsL_lt (l:List Int) (n:Nat):∀ w∈wsL l n,w < 4294967296:=fun w hw=>by
 obtain ⟨i,_,rfl⟩:=List.mem_map.1 hw;have:=wsE_range l i;rw [wsN];omega
def vW (l:List Int):Nat→Nat→V:=fun i _=>.int .u32 (wsE l i)
def vUI (l:List Int):Nat→Nat→V:=fun i _=>.int .u32 (gI l i)
theorem wrem {i n:Nat} (h:n≠0):(i:Int).tmod n = ((i % n:Nat):Int):=by
 rw [Int.tmod_eq_emod_of_nonneg (by omega)];exact (Int.natCast_emod _ _).symm
theorem wquo {i n:Nat}:0≤(i:Int).tdiv n∧(i:Int).tdiv n≤i:=by
 rw [Int.tdiv_eq_ediv_of_nonneg (by omega)];exact ⟨Int.ediv_nonneg (Int.natCast_nonneg i) (Int.natCast_nonneg n),Int.ediv_le_self _ (Int.natCast_nonneg i)⟩
theorem wrem24 {q:Int} (h:0≤q):0≤q.tmod 24∧q.tmod 24 < 24:=by
 rw [Int.tmod_eq_emod_of_nonneg h];omega
theorem vle_appW (l:List Int) (i a b:Nat) (ha:a < i + 1) (hb:b < 1) (F:Nat→Nat→V) (x:Int) (hF:F 0 0 = .int .u32 x) (hx:x = wsE l i):VLe (fapp (shiftF 0 (vW l)) i (shiftF 0 F) a b) (vW l a b):=by
 obtain rfl:b = 0:=by omega
 apply VLe.of_eq;by_cases h:a < i
 . rw [fapp_lt h];simp [shiftF]
 . rw [fapp_ge h];have:a = i:=by omega
   subst this;simp [shiftF,hF,vW,hx]
set_option maxHeartbeats 8000000 in
theorem wishes_ok (l:List Int) (hl:l.length≤9223372036854775807) (n:Nat) (hn:n≤1000):Ret Tryz.prog 15 [.fz l.length 1 false (vUI l),.int .i64 n] (.fz (wsL l n).length 1 false (vU7 (wsL l n))):=by
 refine ret_frz rfl ?_;refine fn_rule mixed Tryz.func15 rfl hc15 hr15 rfl ?_
 repeat' ((conv=>whnf);first | fail)
 all_goals (conv=>whnf)
 refine loop_w mixed [0,1] [0] [1,2,3,4,5,6,7,8,9,10,11,12,13,14,15,16,17,18,19,20,21,22,23,24,25,26,27,28,29] [0] (fun i:Nat=>[(5,.vec 0 1 0 i),(6,.int .i64 i)]) (fun i=>[(0,.vec i 1 (vW l))]) (fun m i=>m = n - i∧i≤n) n 0 ⟨rfl,Nat.zero_le _⟩ rfl (fun _=>rfl) ?_ ?_
 . exact weak_b (fun _ _=>[(0,none)])
 rintro m i ⟨hm,hi⟩;by_cases hin:i < n
 . by_cases h0:l.length = 0
   . repeat' ((conv=>whnf);first | (refine Br.dec ?_ ?_ <;> intro _ <;> try omega) | (refine Br.nbeq ?_ ?_ <;> intro _ <;> try omega) | (refine Ar.i64 (by omega) (by omega) ?_) | (refine Len.mk (by omega) ?_))
     all_goals (conv=>whnf)
     all_goals try (exfalso;omega)
     all_goals
      refine ⟨n - (i + 1),i + 1,by omega,⟨rfl,by omega⟩,?_⟩;refine weak_by (fun env _=>[(0,ekey env 5)]) ?_ ?_ rfl
      . repeat' (first | exact True.intro | (refine ⟨⟨_,rfl,?_⟩,?_⟩) | exact VRen.kf rfl | exact VRen.vec rfl rfl rfl)
      . repeat' (first | (refine ⟨Nat.le_refl _,rfl,fun a b ha hb=>vle_appW l i a b ha hb _ 4294967295 rfl (by rw [wsE,if_pos h0])⟩) | exact True.intro | (refine ⟨⟨_,rfl,?_⟩,?_⟩))
   . have hr:=wrem (i:=i) h0;have hq:=wquo (i:=i) (n:=l.length);have h24:=wrem24 hq.1;have hml:i % l.length < l.length:=Nat.mod_lt _ (by omega);have hE:wsE l i = bitI .and .u32 (bitI .or .u32 (IntKind.u32.wrap (bitI .and .u32 (gI l (i % l.length)) 16777215 * 2 ^ (min (((i:Int).tdiv l.length).tmod 24).toNat 32))) ((bitI .and .u32 (gI l (i % l.length)) 16777215).fdiv (2 ^ (min (24 - ((i:Int).tdiv l.length).tmod 24).toNat 32)))) 16777215:=by rw [wsE,if_neg h0]
     repeat' ((conv=>whnf);first | (refine Ix.mk (i % l.length) hr hml ?_) | (refine Ar.u64 (by omega) (by omega) ?_) | (refine Br.dec ?_ ?_ <;> intro _ <;> try omega) | (refine Br.nbeq ?_ ?_ <;> intro _ <;> try omega) | (refine Ar.i64 (by omega) (by omega) ?_) | (refine Sv.mk _ rfl ?_) | (refine Nz.mk (by omega) ?_) | (refine Nn.mk (by omega) ?_) | (refine Len.mk (by omega) ?_) | (refine Ar.mk _ rfl ?_))
     all_goals (conv=>whnf)
     all_goals try (exfalso;omega)
     all_goals
      refine ⟨n - (i + 1),i + 1,by omega,⟨rfl,by omega⟩,?_⟩;refine weak_by (fun env _=>[(0,ekey env 5)]) ?_ ?_ rfl
      . repeat' (first | exact True.intro | (refine ⟨⟨_,rfl,?_⟩,?_⟩) | exact VRen.kf rfl | exact VRen.vec rfl rfl rfl)
      . repeat' (first | (refine ⟨Nat.le_refl _,rfl,fun a b ha hb=>vle_appW l i a b ha hb _ _ rfl hE.symm⟩) | exact True.intro | (refine ⟨⟨_,rfl,?_⟩,?_⟩))
 . have e:i = n:=by omega
   subst e
   repeat' ((conv=>whnf);first | (refine Br.dec ?_ ?_ <;> intro _ <;> try omega) | (refine Len.mk (by omega) ?_))
   all_goals (conv=>whnf)
   refine VLe.fz (wsL_len l i).symm (fun h=>h) (fun a b ha hb=>VLe.of_eq ?_);obtain rfl:b = 0:=by omega
   have hr:=wsE_range l a;have e1:(wsL l i).getD a 0 = wsN l a:=by rw [wsL,List.getD_eq_getElem?_getD,List.getElem?_map,List.getElem?_range ha];rfl
   rw [shiftF_eq,Nat.zero_add];show V.int .u32 (wsE l a) = V.int .u32 (((wsL l i).getD a 0:Nat):Int);rw [e1,wsN];congr 1;omega
def cntF (k:Cnt):Nat→V:=fun j=>match j with
 | 0=>.int .i64 k.steps
 | 1=>.int .i64 k.moves
 | 2=>.int .i64 k.rounds
 | 3=>.int .i64 k.begun
 | _=>.int .u32 k.pend
end Go.Proofs.YtkimongfladmfaaGreatDoor
namespace Go.Proofs.YtkimongfladmfaaGreatDoor
open Go.Eng Go.ChangeShapes Go.WideShapes Go.ChangeAt Go.WideMaps Go.WideElems Go.RowKit
set_option maxRecDepth 100000
set_option linter.unusedVariables false
theorem ownk:ownKnob Tryz.prog.godebug = none:=by kernel_rfl
theorem laidB:laidOutB Tryz.prog = true:=by kernel_rfl
theorem cells3:Tryz.prog.cellsOf 3 = 1:=by kernel_rfl
theorem cells5:Tryz.prog.cellsOf 5 = 1:=by kernel_rfl
theorem cells45:Tryz.prog.cellsOf 45 = 1:=by kernel_rfl
theorem cells4:Tryz.prog.cellsOf 4 = 1:=by kernel_rfl
theorem cells22:Tryz.prog.cellsOf 22 = 1:=by kernel_rfl
theorem cells225:Tryz.prog.cellsOf 225 = 32:=by kernel_rfl
theorem cells24:Tryz.prog.cellsOf 24 = 6:=by kernel_rfl
theorem read22:Tryz.prog.readableRec 22 = true:=by kernel_rfl
theorem size22:22 < Tryz.prog.types.size:=of_decide_eq_true (by kernel_rfl)
theorem stand22:Tryz.prog.wantsStandIn 22 = false:=by kernel_rfl
theorem read25:Tryz.prog.readableRec 25 = true:=by kernel_rfl
theorem size25:25 < Tryz.prog.types.size:=of_decide_eq_true (by kernel_rfl)
theorem stand25:Tryz.prog.wantsStandIn 25 = false:=by kernel_rfl
theorem read24:Tryz.prog.readableRec 24 = true:=by kernel_rfl
theorem size24:24 < Tryz.prog.types.size:=of_decide_eq_true (by kernel_rfl)
theorem stand24:Tryz.prog.wantsStandIn 24 = false:=by kernel_rfl
theorem gTab:Tryz.prog.globalNamed "math/bits.deBruijn32tab" = some 0:=by kernel_rfl
theorem tTab:(Tryz.prog.globals[0]?).map (·.type) = some 225:=by kernel_rfl
abbrev laidL:List (String × DataW Unit):=[("math/bits.deBruijn32tab",Rows.laid_math_bits_deBruijn32tab)]
theorem door_met (os:Os) (args:Array Value):laidMetH Tryz.prog laidL ((World.doorLaid Tryz.prog 400 os).forCall (fun _ _=>0) ⟨#[],args,[]⟩).memory :=
 laidMetH_of_parts3 (fuel:=8) (laidMet_of_run' 8 (by kernel_rfl) (by kernel_rfl)) (by kernel_rfl) (by kernel_rfl)
theorem of_laid {W:World} (h:laidMetH Tryz.prog laidL W):Den (fun _=>False) W Sg.none (.fe 32 1 tzF 0 0) (.pointer (some ⟨0,0,none⟩)):=by
 rw [MakeChecks.laidMetH_plain _ _ _ (by kernel_rfl)] at h;obtain ⟨ps,⟨g0,t0,cs0,f0,p0,q0,hg0,ht0,hv0,hd0,_⟩,_,_⟩:=h;obtain rfl:=Option.some.inj (gTab.symm.trans hg0);obtain rfl:=Option.some.inj (tTab.symm.trans ht0);obtain ⟨xs,m1,rfl,hx1,hlen,hn,hel⟩:=DataW.trod_array Tryz.underlying225 hd0;simp only [Prod.mk.injEq] at hx1;have hxs:xs.map (·.1) = tzL.map fun n=>(DataW.lit (.int .u8 n):DataW Unit):=by
  have:=hx1.1;rw [Rows.laid_math_bits_deBruijn32tab] at this;have h2:=DataW.agg.inj this;exact h2.symm
 have key:∀ i,i < 32→W.cell? ⟨0,i,none⟩ = some (.int .u8 (tzL.getD i 0)):=by
  intro i hi;have h0:=hel i hi;rw [cells5,Nat.mul_one] at h0;have hxi:xs[i]?.map (·.1) = some (.lit (.int .u8 (tzL.getD i 0))):=by
   rw [← List.getElem?_map,hxs,List.getElem?_map,List.getElem?_eq_getElem (show i < tzL.length from hi)];simp only [Option.map_some,List.getD,List.getElem?_eq_getElem (show i < tzL.length from hi),Option.getD_some]
  cases hx:xs[i]? with
  | none=>rw [hx] at hxi;cases hxi
  | some x =>
    rw [hx] at h0 hxi;obtain ⟨k,e1,e2,_⟩:=DataW.trod_int Tryz.underlying5 h0;rw [e2] at hxi;simp only [Option.map_some,Option.some.injEq] at hxi;have hk:k = tzL.getD i 0:=by
     have:=DataW.lit.inj hxi;exact (Lit.int.inj this).2
    have hc:=World.var?_cell hg0 hv0 i;rw [hc];have hl:i < cs0.toList.length:=by rw [hlen,cells225];exact hi
    have h3:cs0.toList[i]? = some (.int .u8 k):=by
     have:=congrArg (·[0]?) e1;simpa [List.getElem?_take,List.getElem?_drop] using this
    rw [← hk];simpa using h3
 have hb:0 < W.heap.size:=by
  have:=key 0 (by decide);unfold World.cell? at this;split at this
  . rename_i h;exact lt_of_getElem? h
  . cases this
 exact .fe _ _ _ _ _ _ _ _ (fun i _=>.int .u8 (tzL.getD i 0)) (by decide) (fun h=>h) hb
  (fun i j hi hj=>by (obtain rfl:j = 0:=by omega);simpa using key i hi) (fun i j hi hj=>rfl) (fun i j hi hj=>.int _ _ _)
theorem max_le {n:Nat} (h:n≤maxLen):n≤9223372036854775807:=h
section
variable {H:Type} {enc:TypeId × Value→H} {W:World} {sp:Nat→Bool} {hd:Bool}
theorem den_net {v:Value} {d:DataW H} {ps:List MemPlace} (hv:∃ cs,v = .agg cs) (h:DataW.Trod enc Tryz.prog W 0 sp hd 24 v d ps):∃ x:Net,x.Small∧Den (fun _=>False) W Sg.none x.v v:=by
 obtain ⟨arr,rfl⟩:=hv;obtain ⟨fuel,h⟩:=h;obtain ⟨hl,n,hf⟩:=trod_struct_inv Tryz.underlying24 h;simp only [Value.cells] at hl hf;generalize hcs:arr.toList = cs at hl hf;rw [cells24] at hl;obtain ⟨x0,y0⟩:=hf 0 _ rfl;obtain ⟨x1,y1⟩:=hf 1 _ rfl;obtain ⟨x2,y2⟩:=hf 2 _ rfl;obtain ⟨x3,y3⟩:=hf 3 _ rfl;obtain ⟨x4,y4⟩:=hf 4 _ rfl;obtain ⟨x5,y5⟩:=hf 5 _ rfl;simp only [cells3,cells22,cells4] at y0 y1 y2 y3 y4 y5;obtain ⟨n0,e0,_⟩:=trod_int_inv Tryz.underlying3 y0;obtain ⟨u1,l1,e1,_,d1,m1,_⟩:=den_ints Sg.none Tryz.underlying22 Tryz.underlying3 cells3 y1;obtain ⟨u2,l2,e2,_,d2,m2,_⟩:=den_ints Sg.none Tryz.underlying22 Tryz.underlying3 cells3 y2;obtain ⟨u3,l3,e3,_,d3,m3,_⟩:=den_ints Sg.none Tryz.underlying22 Tryz.underlying3 cells3 y3;obtain ⟨b4,e4⟩:=trod_bool_inv Tryz.underlying4 y4;obtain ⟨b5,e5⟩:=trod_bool_inv Tryz.underlying4 y5
 match cs,hl with
 | [c0,c1,c2,c3,c4,c5],_ =>
   simp at e0 e1 e2 e3 e4 e5;subst e0 e1 e2 e3 e4 e5;refine ⟨⟨n0,l1,l2,l3,b4,b5⟩,⟨max_le m1,max_le m2,max_le m3⟩,?_⟩;have:arr = [.int .i64 n0,c1,c2,c3,.bool b4,.bool b5].toArray:=by rw [← hcs]
   rw [this];refine .agg _ _ _ rfl ?_;intro i v u hv hu
   match i,hv,hu with
   | 0,hv,hu=>simp at hv hu;subst hv hu;exact .int _ _ _
   | 1,hv,hu=>simp at hv hu;subst hv hu;exact d1
   | 2,hv,hu=>simp at hv hu;subst hv hu;exact d2
   | 3,hv,hu=>simp at hv hu;subst hv hu;exact d3
   | 4,hv,hu=>simp at hv hu;subst hv hu;exact .bool _ _
   | 5,hv,hu=>simp at hv hu;subst hv hu;exact .bool _ _
   | i + 6,hv,hu=>simp at hv
theorem den_raw {v:Value} {d:DataW H} {ps:List MemPlace} (hv:v.cells = #[v]) (h:DataW.Trod enc Tryz.prog W 0 sp hd 22 v d ps):∃ l:List Int,l.length≤9223372036854775807∧Den (fun _=>False) W Sg.none (.fz l.length 1 false (vI l)) v:=by
 obtain ⟨fuel,h⟩:=h;rw [hv] at h;obtain ⟨u1,l1,e1,_,d1,m1,_⟩:=den_ints Sg.none Tryz.underlying22 Tryz.underlying3 cells3 h;simp at e1;subst e1;exact ⟨l1,max_le m1,d1⟩
theorem den_us {v:Value} {d:DataW H} {ps:List MemPlace} (hv:v.cells = #[v]) (h:DataW.Trod enc Tryz.prog W 0 sp hd 25 v d ps):∃ l:List Int,l.length≤9223372036854775807∧Den (fun _=>False) W Sg.none (.fz l.length 1 false (vUI l)) v:=by
 obtain ⟨fuel,h⟩:=h;rw [hv] at h;obtain ⟨u1,l1,e1,_,d1,m1,_⟩:=den_ints Sg.none Tryz.underlying25 Tryz.underlying45 cells45 h;simp at e1;subst e1;exact ⟨l1,max_le m1,d1⟩
end
theorem aggN_of_ok {W:World} {base:Nat} {v:Value} (h:Value.okWide Tryz.prog W .any base 24 v):∃ cs,v = .agg cs:=by
 unfold Value.okWide at h;rw [Tryz.underlying24] at h;obtain ⟨cs,h,_⟩:=h;exact ⟨cs,h⟩
theorem sliceI_of_ok {W:World} {base:Nat} {v:Value} (h:Value.okWide Tryz.prog W .any base 22 v):v.cells = #[v]:=by
 unfold Value.okWide at h;rw [Tryz.underlying22] at h;unfold Cell.okWide at h;rw [Tryz.underlying22] at h;cases v <;> first | rfl | (simp [Cell.ok,Tryz.underlying22] at h)
theorem sliceU_of_ok {W:World} {base:Nat} {v:Value} (h:Value.okWide Tryz.prog W .any base 25 v):v.cells = #[v]:=by
 unfold Value.okWide at h;rw [Tryz.underlying25] at h;unfold Cell.okWide at h;rw [Tryz.underlying25] at h;cases v <;> first | rfl | (simp [Cell.ok,Tryz.underlying25] at h)
end Go.Proofs.YtkimongfladmfaaGreatDoor
namespace Go.Plain
abbrev St:=Nat→Bool
structure Adj (n:Nat) (a:Nat→Nat→Bool):Prop where
 sym:∀ u v,u < n→v < n→a u v = true→a v u = true
 irr:∀ v,v < n→a v v = false
 rng:∀ u v,u < n→a u v = true→v < n
def nbM (n:Nat) (a:Nat→Nat→Bool) (m:St) (v:Nat):Bool:=(List.range n).any fun u=>a v u && m u
theorem nbM_iff {n:Nat} {a:Nat→Nat→Bool} {m:St} {v:Nat}:nbM n a m v = true↔∃ u,u < n∧a v u = true∧m u = true:=by
 simp only [nbM,List.any_eq_true,List.mem_range,Bool.and_eq_true]
def enI (n:Nat) (a:Nat→Nat→Bool) (m:St) (v:Nat):Bool:=match m v with | true=>nbM n a m v | false=>!nbM n a m v
def cfl (n:Nat) (a:Nat→Nat→Bool) (m:St) (v:Nat):Bool:=m v && nbM n a m v
def stI (s m:St):St:=fun v=>match s v with | true=>!m v | false=>m v
structure Chs (n:Nat) (a:Nat→Nat→Bool) (m s:St):Prop where
 en:∀ v,s v = true→v < n∧enI n a m v = true
 ind:∀ u v,s u = true→s v = true→a u v = false
variable {n:Nat} {a:Nat→Nat→Bool} {m s:St}
theorem enter_free (ha:Adj n a) (hc:Chs n a m s) {v:Nat} (hs:s v = true) (hm:m v = false):stI s m v = true∧nbM n a (stI s m) v = false:=by
 obtain ⟨hv,he⟩:=hc.en v hs;refine ⟨by simp [stI,hs,hm],?_⟩;rw [Bool.eq_false_iff];intro h;obtain ⟨u,hu,h1,h2⟩:=nbM_iff.1 h;have hsu:s u = false:=by
  cases e:s u with
  | false=>rfl
  | true=>have:=hc.ind v u hs e;rw [h1] at this;cases this
 simp only [stI,hsu] at h2;simp only [enI,hm,Bool.not_eq_true'] at he;rw [nbM_iff.2 ⟨u,hu,h1,h2⟩] at he;cases he
theorem cfl_back (ha:Adj n a) (hc:Chs n a m s) {v:Nat} (hv:v < n) (h:cfl n a (stI s m) v = true):cfl n a m v = true∧s v = false:=by
 simp only [cfl,Bool.and_eq_true] at h;have hold:∀ w,w < n→stI s m w = true→nbM n a (stI s m) w = true→m w = true∧s w = false:=fun w hw h1 h2=>by
  cases e:s w with
  | true =>
    cases em:m w with
    | false=>rw [(enter_free ha hc e em).2] at h2;cases h2
    | true=>simp [stI,e,em] at h1
  | false =>
    simp only [stI,e] at h1;exact ⟨h1,rfl⟩
 obtain ⟨h1,h2⟩:=h;obtain ⟨u,hu,h3,h4⟩:=nbM_iff.1 h2;have hb:=hold v hv h1 h2;have hb2:=hold u hu h4 (nbM_iff.2 ⟨v,hv,ha.sym v u hv hu h3,h1⟩);exact ⟨by simp only [cfl,Bool.and_eq_true];exact ⟨hb.1,nbM_iff.2 ⟨u,hu,h3,hb2.1⟩⟩,hb.2⟩
theorem cfl_en {v:Nat} (h:cfl n a m v = true):enI n a m v = true:=by
 simp only [cfl,Bool.and_eq_true] at h;simp only [enI,h.1,h.2]
theorem stay (hn:∀ v,v < n→cfl n a m v = false) (hc:Chs n a m s) {v:Nat} (hv:v < n) (hm:m v = true):stI s m v = true:=by
 cases e:s v with
 | false=>simp [stI,e,hm]
 | true =>
   obtain ⟨_,he⟩:=hc.en v e;simp only [enI,hm] at he;have:=hn v hv;simp [cfl,hm,he] at this
theorem en_back (hn:∀ v,v < n→cfl n a m v = false) (hn2:∀ v,v < n→cfl n a (stI s m) v = false) (hc:Chs n a m s) {v:Nat} (hv:v < n) (h:enI n a (stI s m) v = true):enI n a m v = true∧s v = false:=by
 have hm':stI s m v = false:=by
  cases e:stI s m v with
  | false=>rfl
  | true =>
    simp only [enI,e] at h;have:=hn2 v hv;simp [cfl,e,h] at this
 have hm:m v = false:=by
  cases e:m v with
  | false=>rfl
  | true=>rw [stay hn hc hv e] at hm';cases hm'
 have hs:s v = false:=by
  cases e:s v with
  | false=>rfl
  | true=>simp [stI,e,hm] at hm'
 refine ⟨?_,hs⟩;simp only [enI,hm',Bool.not_eq_true'] at h;simp only [enI,hm,Bool.not_eq_true'];rw [Bool.eq_false_iff] at h ⊢;intro hb;obtain ⟨u,hu,h3,h4⟩:=nbM_iff.1 hb;exact h (nbM_iff.2 ⟨u,hu,h3,stay hn hc hu h4⟩)
structure IInv (n:Nat) (a:Nat→Nat→Bool) (m p:St) (r:Nat):Prop where
 r0:r = 0→∀ v,v < n→cfl n a m v = true→p v = true
 r1:1≤r→∀ v,v < n→cfl n a m v = false
 r2:r = 1→∀ v,v < n→enI n a m v = true→p v = true
 r3:2≤r→∀ v,v < n→enI n a m v = false
def left (n:Nat) (a:Nat→Nat→Bool) (m p s:St):St:=fun v=>p v && !s v && enI n a (stI s m) v
theorem IInv.same (ha:Adj n a) (hc:Chs n a m s) {p:St} {r:Nat} (h:IInv n a m p r) (hr:r≤1):IInv n a (stI s m) (left n a m p s) r:=by
 refine ⟨fun e v hv hf=>?_,fun e v hv=>?_,fun e v hv he=>?_,fun e=>by omega⟩
 . obtain ⟨h1,h2⟩:=cfl_back ha hc hv hf;simp [left,h.r0 e v hv h1,h2,cfl_en hf]
 . cases hf:cfl n a (stI s m) v with
   | false=>rfl
   | true=>have:=h.r1 e v hv;rw [(cfl_back ha hc hv hf).1] at this;cases this
 . have hn2:∀ v,v < n→cfl n a (stI s m) v = false:=fun v hv=>by
    cases hf:cfl n a (stI s m) v with
    | false=>rfl
    | true=>have:=h.r1 (by omega) v hv;rw [(cfl_back ha hc hv hf).1] at this;cases this
   obtain ⟨h1,h2⟩:=en_back (h.r1 (by omega)) hn2 hc hv he;simp [left,h.r2 e v hv h1,h2,he]
theorem IInv.next (ha:Adj n a) (hc:Chs n a m s) {p:St} {r:Nat} (h:IInv n a m p r) (hr:r≤1) (h0:∀ v,v < n→left n a m p s v = false):IInv n a (stI s m) (enI n a (stI s m)) (r + 1):=by
 have hs:=h.same ha hc hr;refine ⟨fun e=>by omega,fun _ v hv=>?_,fun _ v hv he=>he,fun e v hv=>?_⟩
 . cases hf:cfl n a (stI s m) v with
   | false=>rfl
   | true =>
     rcases (show r = 0∨1≤r by omega) with e | e
     . have:=hs.r0 e v hv hf;rw [h0 v hv] at this;cases this
     . rw [hs.r1 e v hv] at hf;cases hf
 . cases he:enI n a (stI s m) v with
   | false=>rfl
   | true=>have:=hs.r2 (by omega) v hv he;rw [h0 v hv] at this;cases this
end Go.Plain
namespace Go.Proofs.YtkimongfladmfaaGreatDoor
open Go.Eng
set_option maxRecDepth 100000
set_option linter.unusedVariables false
def mT:Tm:=.leaf 5 0
def smT:Tm:=.agg 21 (.leaf 12 0)
end Go.Proofs.YtkimongfladmfaaGreatDoor
namespace Go.Proofs.YtkimongfladmfaaGreatDoor
open Go.Eng
set_option maxRecDepth 100000
set_option linter.unusedVariables false
def l01:List Int:=[0,1]
def netL (n:Int) (l:List Int):V:=.agg [.int .i64 n,.fz l.length 1 false (vI l),.nilslice,.nilslice,.bool false,.bool false]
def t3:G:=⟨[0,1,2],[[(1,1)],[(0,1),(2,1)],[(1,1)]]⟩
theorem at01_0:Ret Tryz.prog 37 [.fz 2 1 false (vI l01),.int .i64 0] (.int .i64 0):=at_ok l01 (by decide) 0
theorem at01_1:Ret Tryz.prog 37 [.fz 2 1 false (vI l01),.int .i64 1] (.int .i64 1):=at_ok l01 (by decide) 1
theorem w_0_1:Ret Tryz.prog 36 [.int .i64 0,.int .i64 1] (.int .i64 0):=within_ok 0 1 (by decide)
theorem w_1_2:Ret Tryz.prog 36 [.int .i64 1,.int .i64 2] (.int .i64 1):=within_ok 1 2 (by decide)
set_option maxHeartbeats 4000000 in
theorem tree3:Ret Tryz.prog 54 [netL 3 l01,.int .i64 3] t3.v:=by
 refine ret_frz2 rfl ?_;refine fn_rule mixed Tryz.func54 rfl hc54 hr54 rfl ?_
 repeat' ((conv=>whnf);first | (refine MkS.cells ?_) | (refine Bd.mk 3 (by decide) (by omega) ?_) | (refine Sv.mk 1 (by decide) ?_) | (refine Sv.mk 2 (by decide) ?_) | (refine Br.tt ?_) | (refine Br.ff ?_) | (refine Ar.i64 (by omega) (by omega) ?_) | (refine Nz.mk (by omega) ?_) | (refine Ix.mk 0 rfl (by omega) ?_) | (refine Ix.mk 1 rfl (by omega) ?_) | (refine Ix.int (by omega) (by omega) ?_) | (refine Len.mk (by omega) ?_) | (refine Ltn.mk (by omega) ?_) | (refine And.intro rfl ?_) | (refine fn_rule mixed Tryz.func35 rfl hc35 hr35 rfl ?_) | (refine fn_rule mixed Tryz.func72 rfl hc72 hr72 rfl ?_) | (refine fn_rule mixed Tryz.func102 rfl hc102 hr102 rfl ?_) | (refine w_2_3.go ?_) | (refine w_0_256.go ?_) | (refine w_0_15.go ?_) | (refine w_0_1.go ?_) | (refine w_1_2.go ?_) | (refine at01_0.go ?_) | (refine at01_1.go ?_) | (refine loop_fuel mixed 20 ?_) | (refine call_frz [] (at_nil 0) ⟨VLe.nilfz rfl,VLe.int (by omega),True.intro⟩ ?_) | (refine call_frz [] (at_nil 1) ⟨VLe.nilfz rfl,VLe.int (by omega),True.intro⟩ ?_) | (refine call_frz [] (at_nil 2) ⟨VLe.nilfz rfl,VLe.int (by omega),True.intro⟩ ?_))
 all_goals (conv=>whnf)
 refine VLe.agg ⟨VLe.fz rfl (fun h=>h) (fun i j hi hj=>?_),VLe.fz rfl (fun h=>h) (fun i j hi hj=>?_),True.intro⟩
 . rcases i with _ | _ | _ | i
   all_goals first | (exfalso;omega) | (rcases j with _ | j;exact VLe.rfl;exfalso;omega)
 . rcases i with _ | _ | _ | i
   all_goals first | (exfalso;omega) | skip
   all_goals
    obtain rfl:j = 0:=by omega
    conv=>arg 1;whnf
    conv=>arg 2;whnf
    refine VLe.fz rfl (fun h=>h) (fun i j hi hj=>?_);rcases i with _ | _ | i
    all_goals first | (exfalso;omega) | (rcases j with _ | _ | j;exact VLe.rfl;exact VLe.rfl;exfalso;omega)
theorem t3_small:t3.Small:=⟨by decide,by decide,by decide⟩
theorem two_le (a b:Int) (f:Nat→Nat→V) (h0:f 0 0 = .int .i64 a) (h1:f 1 0 = .int .i64 b):∀ i j:Nat,i < 2→j < 1→VLe (f i j) (vI [a,b] i j):=by
 intro i j hi hj;have e':j = 0:=by omega
 subst e';rcases i with _ | _ | i
 . rw [h0];exact VLe.rfl
 . rw [h1];exact VLe.rfl
 . exfalso;omega
end Go.Proofs.YtkimongfladmfaaGreatDoor
namespace Go.Proofs.YtkimongfladmfaaGreatDoor
open Go.Eng
set_option maxRecDepth 100000
set_option linter.unusedVariables false
theorem kfit_ok (g:G) (hs:g.Small):Ret Tryz.prog 41 [g.v] (.bool g.valid):=by
 have h:=valid_ok g hs;refine ret_frz rfl ?_;refine fn_rule mixed Tryz.func41 rfl hc41 hr41 rfl ?_
 repeat' ((conv=>whnf);first | (refine h.go ?_) | (refine Br.any (fun _=>?_) (fun _=>?_)))
 all_goals (conv=>whnf)
 all_goals exact VLe.bool (Eq.symm (by assumption))
def vK:List Vr:=[⟨ByteArray.mk #[109],2,0,0,0,0⟩,⟨ByteArray.mk #[104],3,0,0,0,0⟩]
theorem pointer_ok (s:ByteArray):Ret Tryz.prog 39 [.str s] (.agg [.str s,.int .i64 3,.int .i64 0,.int .i64 0,.int .i64 0,.int .i64 0]):=by
 refine ret_frz rfl ?_;refine fn_rule mixed Tryz.func39 rfl hc39 hr39 rfl ?_
 repeat' ((conv=>whnf);first | fail)
 all_goals (conv=>whnf)
 all_goals exact VLe.rfl
theorem kvars_ok:Ret Tryz.prog 11 [] (.fz vK.length 6 false (vV vK)):=by
 refine ret_frz rfl ?_;refine fn_rule mixed Tryz.func11 rfl hc11 hr11 rfl ?_
 repeat' ((conv=>whnf);first | (refine Len.mk (by omega) ?_) | (refine (truth_ok _).go ?_) | (refine (pointer_ok _).go ?_))
 all_goals (conv=>whnf)
 refine VLe.fz rfl (fun h=>h) (fun i j hi hj=>?_);rcases i with _ | _ | i
 all_goals try (exfalso;omega)
 all_goals
  rcases j with _ | _ | _ | _ | _ | _ | j
  all_goals first | (exfalso;omega) | exact VLe.rfl
theorem vK_ok:VOk vK:=⟨by decide,fun x=>by
 rcases x with _ | _ | x
 . exact ⟨by decide,by decide,by decide,by decide,by decide,by decide⟩
 . exact ⟨by decide,by decide,by decide,by decide,by decide,by decide⟩
 . exact ⟨by simp [gV,vK,default],by simp [gV,vK,default],by simp [gV,vK,default],by simp [gV,vK,default],by simp [gV,vK,default],by simp [gV,vK,default]⟩⟩
def bK (g:G) (v x:Nat):Int × Int:=if x = 0 then (0,1) else (-1,((gR g.ports v).length:Int) - 1)
def G.kconf (g:G) (c:Cf):Bool:=conf g.ids.length 2 (bK g) c
theorem kconf_g (g:G) (c:Cf):conf g.ids.length [(1:Int),-1].length (bG g [1,-1]) c = g.kconf c:=conf_ext (fun v x hv hx=>by
 have e:x = 0∨x = 1:=by simp at hx;omega
 rcases e with rfl | rfl <;> rfl)
theorem kconf_facts {g:G} {c:Cf} (h:g.kconf c = true):c.length = g.ids.length∧∀ v,v < c.length→(gC c v).length = 2∧0≤gI (gC c v) 0∧gI (gC c v) 0≤1∧-1≤gI (gC c v) 1∧gI (gC c v) 1 < (gR g.ports v).length:=by
 have:=conf_iff.1 h;refine ⟨this.1,fun v hv=>?_⟩;have h2:=this.2 v (by omega);have h3:=h2.2 0 (by omega);have h4:=h2.2 1 (by omega);simp only [bK,if_true,Nat.one_ne_zero,if_false] at h3 h4;omega
theorem kconfiguration_ok (g:G) (hs:g.Small) (c:Cf) (hc:CSmall c):Ret Tryz.prog 45 [g.v,cV c] (.bool (g.valid && g.kconf c)):=by
 have hval:=kfit_ok g hs;refine ret_frz rfl ?_;refine fn_rule mixed Tryz.func45 rfl hc45 hr45 rfl ?_;by_cases hg:g.valid = true
 . rw [hg] at hval ⊢;rw [Bool.true_and];obtain ⟨f1,f2,f3,f4,f5,f6,f7⟩:=val_facts hg;have hb:=bconf_ok g hs f3 c hc [1,-1] (by decide);rw [kconf_g] at hb
   repeat' ((conv=>whnf);first | (refine Br.tt ?_) | (refine hval.go ?_) | (refine call_frz [1] hb ⟨by decide,VLe.rfl,VLe.rfl,VLe.fz rfl (fun h=>h) (two_le _ _ _ rfl rfl),True.intro⟩ ?_) | (refine Br.any (fun _=>?_) (fun _=>?_)))
   all_goals (conv=>whnf)
   all_goals exact VLe.bool (Eq.symm (by assumption))
 . simp only [Bool.not_eq_true] at hg;rw [hg] at hval ⊢;rw [Bool.false_and]
   repeat' ((conv=>whnf);first | (refine Br.ff ?_) | (refine hval.go ?_))
   all_goals (conv=>whnf)
   all_goals exact VLe.rfl
def sumR (p:List (List (Int × Int))):Nat→Nat
 | 0=>0
 | v + 1=>sumR p v + (gR p v).length
def G.size (g:G):V:=if g.valid then .tup [.int .i64 g.ids.length,.int .i64 ((sumR g.ports g.ports.length:Int).tdiv 2)] else .tup [.int .i64 0,.int .i64 0]
theorem same34_ok (a b:List Int) (ha:a.length≤1000000) (hb:b.length≤1000000):Ret Tryz.prog 55 [.fz a.length 1 false (vI a),.fz b.length 1 false (vI b)] (.bool (decide (a = b))):=by
 refine ret_frz rfl ?_;refine fn_rule mixed Tryz.func55 rfl hc55 hr55 rfl ?_
 repeat' ((conv=>whnf);first | (refine Br.bne ?_ ?_ <;> intro _ <;> try omega))
 all_goals (conv=>whnf)
 . exact VLe.bool (by rw [decide_eq_false (fun h=>by subst h;omega)])
 refine loop_r mixed [0,1] (fun i:Nat=>[(5,.int .i64 i)]) (fun m i=>m = a.length - i∧i≤a.length∧∀ j,j < i→gI a j = gI b j) a.length 0 ⟨rfl,Nat.zero_le _,fun j hj=>by omega⟩ ?_ ?_
 . exact weak_b (fun _ _=>[])
 rintro m i ⟨hm,hi,hall⟩
 repeat' ((conv=>whnf);first | (refine Br.dec ?_ ?_ <;> intro _ <;> try omega) | (refine Br.bne ?_ ?_ <;> intro _ <;> try omega) | (refine Ar.i64 (by omega) (by omega) ?_) | (refine Ix.nat (by omega) ?_))
 all_goals (conv=>whnf)
 . rename_i hne;exact VLe.bool (by rw [decide_eq_false (fun h=>by subst h;exact hne rfl)])
 . refine ⟨a.length - (i + 1),i + 1,by omega,⟨rfl,by omega,fun j hj=>?_⟩,?_⟩
   . by_cases e:j = i
     . subst e;assumption
     . exact hall j (by omega)
   . exact weak_b (fun _ _=>[])
 . have e:a = b:=List.ext_getElem (by omega) (fun j h1 h2=>by
    have:=hall j (by omega);simpa [gI,List.getD,List.getElem?_eq_getElem h1,List.getElem?_eq_getElem h2] using this)
   exact VLe.bool (by rw [decide_eq_true e])
end Go.Proofs.YtkimongfladmfaaGreatDoor
namespace Go.Proofs.YtkimongfladmfaaGreatDoor
open Go.Eng
set_option maxRecDepth 100000
set_option linter.unusedVariables false
def fpL (p:Int × Int→Bool):List (Int × Int)→Nat→Int
 | [],_=>-1
 | l :: r,k=>if p l then k else fpL p r (k + 1)
def pd (c:Cf) (l:Int × Int):Bool:=decide (gI (gC c l.1.toNat) 0 = 1)
def kport (g:G) (c:Cf) (v:Nat):Int:=if gI (gC c v) 0 = 0 then fpL (pd c) (gR g.ports v) 0 else -1
def kgood (g:G) (c:Cf):Bool:=decide (∀ v,v < c.length→gI (gC c v) 1 = kport g c v)
def G.klegit (g:G) (c:Cf):Bool:=g.valid && g.kconf c && mx g (one c 0) && kgood g c
theorem kgood_no {g:G} {c:Cf} {v:Nat} (hv:v < c.length) (h:gI (gC c v) 1≠kport g c v):kgood g c = false:=by
 rw [kgood,decide_eq_false_iff_not];exact fun hh=>h (hh v hv)
theorem kF_drop {r:List (Int × Int)} {i:Nat} (h:i < r.length):r.drop i = gF r i :: r.drop (i + 1):=by
 rw [List.drop_eq_getElem_cons h];simp only [gF,List.getD,List.getElem?_eq_getElem h,Option.getD_some]
theorem fpL_yes {p:Int × Int→Bool} {r:List (Int × Int)} {i:Nat} (h:i < r.length) (hp:p (gF r i) = true):fpL p (r.drop i) i = i:=by
 rw [kF_drop h,fpL,if_pos hp]
theorem fpL_no {p:Int × Int→Bool} {r:List (Int × Int)} {i:Nat} (h:i < r.length) (hp:p (gF r i) = false):fpL p (r.drop i) i = fpL p (r.drop (i + 1)) (i + 1):=by
 rw [kF_drop h,fpL,if_neg (by simp [hp])]
theorem fpL_end {p:Int × Int→Bool} {r:List (Int × Int)} {i:Nat} (h:r.length≤i):fpL p (r.drop i) i = -1:=by
 rw [List.drop_eq_nil_of_le h];rfl
set_option maxHeartbeats 8000000 in
theorem klegit_ok (g:G) (hs:g.Small) (c:Cf) (hc:CSmall c):Ret Tryz.prog 17 [g.v,cV c] (.bool (g.klegit c)):=by
 have h1:=kconfiguration_ok g hs c hc;refine ret_frz rfl ?_;refine fn_rule mixed Tryz.func17 rfl hc17 hr17 rfl ?_;rw [G.klegit];by_cases hg:(g.valid && g.kconf c) = true
 . rw [hg] at h1 ⊢;rw [Bool.true_and];rw [Bool.and_eq_true] at hg;obtain ⟨f1,f2,f3,f4,f5,f6,f7⟩:=val_facts hg.1;obtain ⟨e1,e2⟩:=kconf_facts hg.2;have h2:=true_ok c 0 (by omega) (fun v hv=>by have:=e2 v hv;omega);have h3:=maximal_ok g hs hg.1 (one c 0);rw [show c.length = g.ports.length by omega] at h2;cases hmx:mx g (one c 0) with
   | false =>
     rw [hmx] at h3;rw [Bool.false_and]
     repeat' ((conv=>whnf);first | (refine Br.tt ?_) | (refine Br.ff ?_) | (refine h1.go ?_) | (refine h2.go ?_) | (refine h3.go ?_) | (refine And.intro rfl ?_))
     all_goals (conv=>whnf)
     all_goals exact VLe.rfl
   | true =>
     rw [hmx] at h3;rw [Bool.true_and]
     repeat' ((conv=>whnf);first | (refine Br.tt ?_) | (refine h1.go ?_) | (refine h2.go ?_) | (refine h3.go ?_) | (refine And.intro rfl ?_))
     all_goals (conv=>whnf)
     refine loop_r mixed [2,3,19,20] (fun i:Nat=>[(21,.int .i64 i)]) (fun m v=>m = c.length - v∧v≤c.length∧∀ u,u < v→gI (gC c u) 1 = kport g c u) c.length 0 ⟨rfl,Nat.zero_le _,fun u hu=>by omega⟩ ?_ ?_
     . exact weak_b (fun _ _=>[(0,some 0),(1,some 1)])
     rintro m v ⟨hm,hv,hall⟩;have e2v:=e2 v;have hrl:=gR_len hs.rows v
     repeat' ((conv=>whnf);first | (refine Br.dec ?_ ?_ <;> intro _ <;> try omega) | (refine Br.bne ?_ ?_ <;> intro _ <;> try omega) | (refine Ar.i64 (by omega) (by omega) ?_) | (refine Ix.nat (by omega) ?_) | (refine Ix.mk 0 rfl (by omega) ?_) | (refine Ix.mk 1 rfl (by omega) ?_) | (refine fn_rule mixed Tryz.func48 rfl hc48 hr48 rfl ?_))
     all_goals (conv=>whnf)
     . refine loop_r mixed [2,13,14] (fun i:Nat=>[(15,.int .i64 i)]) (fun m i=>m = (gR g.ports v).length - i∧i≤(gR g.ports v).length∧fpL (pd c) (gR g.ports v) 0 = fpL (pd c) ((gR g.ports v).drop i) i) (gR g.ports v).length 0 ⟨rfl,Nat.zero_le _,rfl⟩ ?_ ?_
       . exact weak_b (fun _ _=>[(0,some 0),(1,some 1),(2,some 2)])
       rintro m i ⟨hm,hi,hfp⟩;have hto:=fun h=>okR_to (f6 v (by omega)) (i:=i) h;have e2t:=e2 (gF (gR g.ports v) i).1.toNat
       repeat' ((conv=>whnf);first | (refine Br.tt ?_) | (refine Br.ff ?_) | (refine Br.dec ?_ ?_ <;> intro _ <;> try omega) | (refine Br.bne ?_ ?_ <;> intro _ <;> try omega) | (refine Ar.i64 (by omega) (by omega) ?_) | (refine Ix.nat (by omega) ?_) | (refine Ix.mk 0 rfl (by omega) ?_) | (refine Ix.mk 1 rfl (by omega) ?_) | (refine Ix.int (by omega) (by omega) ?_) | (refine Chk.mk (by kernel_rfl) ?_) | (refine fn_rule mixed Tryz.func49 rfl hc49 hr49 rfl ?_))
       all_goals (conv=>whnf)
       . have hk:kport g c v = i:=by rw [kport,if_pos (by assumption),hfp];exact fpL_yes (by omega) (by rw [pd,decide_eq_true_eq];assumption)
         exact VLe.bool (kgood_no (v:=v) (by omega) (by rw [hk];assumption)).symm
       . have hk:kport g c v = i:=by rw [kport,if_pos (by assumption),hfp];exact fpL_yes (by omega) (by rw [pd,decide_eq_true_eq];assumption)
         refine ⟨c.length - (v + 1),v + 1,by omega,⟨rfl,by omega,fun u hu=>?_⟩,?_⟩
         . by_cases e:u = v
           . subst e;rw [hk];assumption
           . exact hall u (by omega)
         . exact weak_b (fun _ _=>[(0,some 0),(1,some 1)])
       . refine ⟨(gR g.ports v).length - (i + 1),i + 1,by omega,⟨rfl,by omega,?_⟩,?_⟩
         . rw [hfp];exact fpL_no (by omega) (by rw [pd,decide_eq_false_iff_not];assumption)
         . exact weak_b (fun _ _=>[(0,some 0),(1,some 1),(2,some 2)])
       . have hk:kport g c v = -1:=by rw [kport,if_pos (by assumption),hfp];exact fpL_end (by omega)
         exact VLe.bool (kgood_no (v:=v) (by omega) (by rw [hk];assumption)).symm
       . have hk:kport g c v = -1:=by rw [kport,if_pos (by assumption),hfp];exact fpL_end (by omega)
         refine ⟨c.length - (v + 1),v + 1,by omega,⟨rfl,by omega,fun u hu=>?_⟩,?_⟩
         . by_cases e:u = v
           . subst e;rw [hk];assumption
           . exact hall u (by omega)
         . exact weak_b (fun _ _=>[(0,some 0),(1,some 1)])
     . have hk:kport g c v = -1:=by rw [kport,if_neg (by assumption)]
       exact VLe.bool (kgood_no (v:=v) (by omega) (by rw [hk];assumption)).symm
     . have hk:kport g c v = -1:=by rw [kport,if_neg (by assumption)]
       refine ⟨c.length - (v + 1),v + 1,by omega,⟨rfl,by omega,fun u hu=>?_⟩,?_⟩
       . by_cases e:u = v
         . subst e;rw [hk];assumption
         . exact hall u (by omega)
       . exact weak_b (fun _ _=>[(0,some 0),(1,some 1)])
     . exact VLe.bool (by rw [kgood,decide_eq_true (fun u hu=>hall u (by omega))])
 . simp only [Bool.not_eq_true] at hg;rw [hg] at h1 ⊢;rw [Bool.false_and,Bool.false_and]
   repeat' ((conv=>whnf);first | (refine Br.ff ?_) | (refine h1.go ?_))
   all_goals (conv=>whnf)
   all_goals exact VLe.rfl
end Go.Proofs.YtkimongfladmfaaGreatDoor
namespace Go.Plain
structure Tgt (n:Nat) (a:Nat→Nat→Bool) (T:St→Nat→Int):Prop where
 loc:∀ m m' v,v < n→m v = m' v→(∀ u,u < n→a v u = true→m u = m' u)→T m v = T m' v
def ptE (T:St→Nat→Int) (m:St) (h:Nat→Int) (v:Nat):Bool:=decide (h v≠T m v)
def enC (n:Nat) (a:Nat→Nat→Bool) (T:St→Nat→Int) (m:St) (h:Nat→Int) (v:Nat):Bool:=enI n a m v || ptE T m h v
def mS (n:Nat) (a:Nat→Nat→Bool) (m s:St):St:=fun v=>s v && enI n a m v
def stM (n:Nat) (a:Nat→Nat→Bool) (m s:St):St:=stI (mS n a m s) m
def stH (n:Nat) (a:Nat→Nat→Bool) (T:St→Nat→Int) (m s:St) (h:Nat→Int):Nat→Int:=fun v=>if s v = true∧enI n a m v = false then T m v else h v
structure ChsC (n:Nat) (a:Nat→Nat→Bool) (T:St→Nat→Int) (m s:St) (h:Nat→Int):Prop where
 en:∀ v,s v = true→v < n∧enC n a T m h v = true
 ind:∀ u v,s u = true→s v = true→a u v = false
variable {n:Nat} {a:Nat→Nat→Bool} {T:St→Nat→Int} {m s:St} {h:Nat→Int}
theorem ChsC.low (hc:ChsC n a T m s h):Chs n a m (mS n a m s) :=
 ⟨fun v hv=>by simp only [mS,Bool.and_eq_true] at hv;exact ⟨(hc.en v hv.1).1,hv.2⟩,fun u v hu hv=>by simp only [mS,Bool.and_eq_true] at hu hv;exact hc.ind u v hu.1 hv.1⟩
theorem mS_false {v:Nat} (he:enI n a m v = true) (hs:mS n a m s v = false):s v = false:=by
 simpa [mS,he] using hs
def leftC (n:Nat) (a:Nat→Nat→Bool) (T:St→Nat→Int) (m p s:St) (h:Nat→Int):St:=fun v=>p v && !s v && enC n a T (stM n a m s) (stH n a T m s h) v
structure CInv (n:Nat) (a:Nat→Nat→Bool) (T:St→Nat→Int) (m p:St) (h:Nat→Int) (r:Nat):Prop where
 r0:r = 0→∀ v,v < n→cfl n a m v = true→p v = true
 r1:1≤r→∀ v,v < n→cfl n a m v = false
 r2:r = 1→∀ v,v < n→enI n a m v = true→p v = true
 r3:2≤r→∀ v,v < n→enI n a m v = false
 r4:r = 2→∀ v,v < n→ptE T m h v = true→p v = true
 r5:3≤r→∀ v,v < n→ptE T m h v = false
theorem enC_low {v:Nat} (he:enI n a m v = true):enC n a T m h v = true:=by simp [enC,he]
theorem stM_same (hn:∀ v,v < n→enI n a m v = false) (hc:ChsC n a T m s h) (v:Nat):stM n a m s v = m v:=by
 have:mS n a m s v = false:=by
  cases e:mS n a m s v with
  | false=>rfl
  | true=>obtain ⟨h1,h2⟩:=hc.low.en v e;rw [hn v h1] at h2;cases h2
 simp [stM,stI,this]
theorem nbM_same {m':St} (hm:∀ v,v < n→m v = m' v) (v:Nat):nbM n a m v = nbM n a m' v:=by
 rw [Bool.eq_iff_iff,nbM_iff,nbM_iff];constructor <;> rintro ⟨u,hu,h1,h2⟩
 . exact ⟨u,hu,h1,by rw [← hm u hu];exact h2⟩
 . exact ⟨u,hu,h1,by rw [hm u hu];exact h2⟩
theorem CInv.same (ha:Adj n a) (hT:Tgt n a T) (hc:ChsC n a T m s h) {p:St} {r:Nat} (hi:CInv n a T m p h r) (hr:r≤2):CInv n a T (stM n a m s) (leftC n a T m p s h) (stH n a T m s h) r:=by
 have hl:=hc.low;have noc:1≤r→∀ v,v < n→cfl n a (stM n a m s) v = false:=fun e v hv=>by
  cases hf:cfl n a (stM n a m s) v with
  | false=>rfl
  | true=>have:=hi.r1 e v hv;rw [(cfl_back ha hl hv hf).1] at this;cases this
 have noe:2≤r→∀ v,v < n→enI n a (stM n a m s) v = false:=fun e v hv=>by
  have hs:=fun v=>stM_same (hi.r3 e) hc v;rw [enI,hs v,nbM_same (fun v _=>hs v)];exact hi.r3 e v hv
 refine ⟨fun e v hv hf=>?_,noc,fun e v hv he=>?_,noe,fun e v hv hp=>?_,fun e=>by omega⟩
 . obtain ⟨h1,h2⟩:=cfl_back ha hl hv hf;simp [leftC,hi.r0 e v hv h1,mS_false (cfl_en h1) h2,enC_low (cfl_en hf)]
 . obtain ⟨h1,h2⟩:=en_back (hi.r1 (by omega)) (noc (by omega)) hl hv he;simp [leftC,hi.r2 e v hv h1,mS_false h1 h2,enC_low he]
 . have hn:=hi.r3 (by omega);have hs:=fun v=>stM_same hn hc v;have hTs:T (stM n a m s) v = T m v:=hT.loc _ _ v hv (hs v) (fun u _ _=>hs u);have hsv:s v = false:=by
    cases e2:s v with
    | false=>rfl
    | true=>simp [ptE,stH,e2,hn v hv,hTs] at hp
   have hp2:ptE T m h v = true:=by
    have:stH n a T m s h v = h v:=by simp [stH,hsv]
    rw [ptE,this,hTs] at hp;exact hp
   simp [leftC,hi.r4 e v hv hp2,hsv,enC,hp]
theorem CInv.next (ha:Adj n a) (hT:Tgt n a T) (hc:ChsC n a T m s h) {p:St} {r:Nat} (hi:CInv n a T m p h r) (hr:r≤2) (h0:∀ v,v < n→leftC n a T m p s h v = false):CInv n a T (stM n a m s) (enC n a T (stM n a m s) (stH n a T m s h)) (stH n a T m s h) (r + 1):=by
 have hs:=hi.same ha hT hc hr;refine ⟨fun e=>by omega,fun _ v hv=>?_,fun _ v hv he=>enC_low he,fun e v hv=>?_,fun _ v hv hp=>by simp [enC,hp],fun e v hv=>?_⟩
 . cases hf:cfl n a (stM n a m s) v with
   | false=>rfl
   | true =>
     rcases (show r = 0∨1≤r by omega) with e | e
     . have:=hs.r0 e v hv hf;rw [h0 v hv] at this;cases this
     . rw [hs.r1 e v hv] at hf;cases hf
 . cases he:enI n a (stM n a m s) v with
   | false=>rfl
   | true =>
     rcases (show r = 1∨2≤r by omega) with e | e
     . have:=hs.r2 e v hv he;rw [h0 v hv] at this;cases this
     . rw [hs.r3 e v hv] at he;cases he
 . cases hp:ptE T (stM n a m s) (stH n a T m s h) v with
   | false=>rfl
   | true=>have:=hs.r4 (by omega) v hv hp;rw [h0 v hv] at this;cases this
def b1 (b:Bool):Nat:=if b then 1 else 0
end Go.Plain
namespace Go.Proofs.YtkimongfladmfaaGreatDoor
open Go.Eng
set_option maxRecDepth 100000
set_option linter.unusedVariables false
def tgT:Tm:=.ite mT (.leaf 4 0) (.agg 23 (.leaf 12 0))
def pClu:Pr:=⟨ByteArray.mk #[99,108,117,115,116,101,114],vK,[⟨ByteArray.mk #[108,101,97,118,101],.bin 41 mT smT,[(0,.leaf 3 0)]⟩,
 ⟨ByteArray.mk #[101,110,116,101,114],.bin 41 (.un 19 mT) (.un 19 smT),[(0,.leaf 2 0)]⟩,
 ⟨ByteArray.mk #[112,111,105,110,116],.bin 36 (.leaf 5 1) tgT,[(1,tgT)]⟩]⟩
abbrev hh (c:Cf) (v:Nat):Int:=gI (gC c v) 1
theorem kconf_of {g:G} {c:Cf} (h:Conf pClu g c):g.kconf c = true:=by
 rw [G.kconf,conf_iff];refine ⟨h.len,fun v hv=>?_⟩;have hl:v < c.length:=by rw [h.len];exact hv
 refine ⟨h.row v hl,fun x hx=>?_⟩;have:=h.val v hl x hx;rcases (show x = 0∨x = 1 by omega) with rfl | rfl
 . exact this
 . exact this
end Go.Proofs.YtkimongfladmfaaGreatDoor
namespace Go.Proofs.YtkimongfladmfaaGreatDoor
open Go.Eng
set_option maxRecDepth 100000
set_option linter.unusedVariables false
section
variable {n:Nat} {a:Nat→Nat→Bool} {T:Go.Plain.St→Nat→Int} {m m':Go.Plain.St} {h h':Nat→Int}
end
end Go.Proofs.YtkimongfladmfaaGreatDoor
namespace Go.Eng
open Go.MapKept (bytes_beq)
noncomputable def fN {β:Type} (n:Nat) (K:Nat→β):β:=@Nat.rec (fun _=>β) (K 0) (fun m _=>K (Nat.succ m)) n
theorem fN_eq {β:Type} (n:Nat) (K:Nat→β):fN n K = K n:=by cases n <;> rfl
noncomputable def fI {β:Type} (n:Int) (K:Int→β):β:=@Int.rec (fun _=>β) (fun a=>fN a fun a=>K (.ofNat a)) (fun a=>fN a fun a=>K (.negSucc a)) n
theorem fI_eq {β:Type} (n:Int) (K:Int→β):fI n K = K n:=by cases n <;> simp [fI,fN_eq]
noncomputable def fB {β:Type} (b:Bool) (K:Bool→β):β:=@Bool.rec (fun _=>β) (K false) (K true) b
theorem fB_eq {β:Type} (b:Bool) (K:Bool→β):fB b K = K b:=by cases b <;> rfl
noncomputable def lk {α:Type} (l:List (Nat × α)) (t:Nat):Option α :=
 @List.rec (Nat × α) (fun _=>Option α) none (fun p _ ih=>@Prod.rec Nat α (fun _=>Option α) (fun k v=>@Bool.rec (fun _=>Option α) ih (some v) (Nat.beq k t)) p) l
theorem lk_eq {α:Type} (l:List (Nat × α)) (t:Nat):lk l t = look l t:=by
 induction l with
 | nil=>rfl
 | cons p r ih =>
   obtain ⟨k,v⟩:=p;unfold look;show @Bool.rec (fun _=>Option α) (lk r t) (some v) (Nat.beq k t) = _;cases Nat.beq k t <;> simp [ih]
noncomputable def nt {α:Type} (l:List α) (n:Nat):Option α :=
 @List.rec α (fun _=>Nat→Option α) (fun _=>none) (fun x _ ih n=>@Nat.rec (fun _=>Option α) (some x) (fun m _=>ih m) n) l n
theorem nt_eq {α:Type} (l:List α) (n:Nat):nt l n = nth l n:=by
 induction l generalizing n with
 | nil=>rfl
 | cons x r ih=>cases n with
   | zero=>rfl
   | succ n=>exact ih n
theorem nth_get {α:Type}:∀ (l:List α) (n:Nat),nth l n = l[n]?
 | [],n=>by simp [nth]
 | x :: r,0=>by simp [nth]
 | x :: r,n + 1=>by simp [nth,nth_get r n]
noncomputable def dr {α:Type} (l:List α) (n:Nat):List α :=
 @List.rec α (fun _=>Nat→List α) (fun _=>[]) (fun x r ih n=>@Nat.rec (fun _=>List α) (x :: r) (fun m _=>ih m) n) l n
theorem dr_eq {α:Type} (l:List α) (n:Nat):dr l n = l.drop n:=by
 induction l generalizing n with
 | nil=>simp [dr]
 | cons x r ih=>cases n with
   | zero=>rfl
   | succ n=>exact ih n
noncomputable def fH {α β:Type} (l:List α) (K:List α→β):β:=@List.rec α (fun _=>β) (K []) (fun x r _=>K (x :: r)) l
theorem fH_eq {α β:Type} (l:List α) (K:List α→β):fH l K = K l:=by cases l <;> rfl
noncomputable def tk {α β:Type} (n:Nat):List α→(List α→Option β)→Option β :=
 @Nat.rec (fun _=>List α→(List α→Option β)→Option β) (fun _ K=>K []) (fun _ ih l K=>@List.rec α (fun _=>Option β) none (fun x r _=>ih r fun q=>K (x :: q)) l) n
theorem tk_eq {α β:Type} (n:Nat) (l:List α) (K:List α→Option β):tk n l K = if n≤l.length then K (l.take n) else none:=by
 induction n generalizing l K with
 | zero=>simp only [Nat.zero_le,if_true,List.take_zero];rfl
 | succ n ih=>cases l with
   | nil=>rfl
   | cons x r =>
     show tk n r (fun q=>K (x :: q)) = _;rw [ih];simp
def bl:Nat→Nat→List UInt8
 | 0,_=>[]
 | l + 1,c=>UInt8.ofNat (c % 256) :: bl l (c / 256)
def bytesOf (l c:Nat):ByteArray:=⟨⟨bl l c⟩⟩
def encL:List UInt8→Nat
 | []=>0
 | b :: r=>b.toNat + 256 * encL r
theorem bl_length:∀ (l c:Nat),(bl l c).length = l
 | 0,_=>rfl
 | l + 1,c=>by simp [bl,bl_length]
theorem bl_enc:∀ (l:List UInt8),bl l.length (encL l) = l
 | []=>rfl
 | b :: r=>by
   have hb:=b.toNat_lt;simp only [List.length_cons,bl,encL];rw [show (b.toNat + 256 * encL r) % 256 = b.toNat by omega,show (b.toNat + 256 * encL r) / 256 = encL r by omega,bl_enc r];simp
theorem bl_get:∀ (l c m:Nat),m < l→(bl l c)[m]? = some (UInt8.ofNat (c / 256 ^ m % 256))
 | 0,c,m,h=>by omega
 | l + 1,c,0,h=>by simp [bl]
 | l + 1,c,m + 1,h=>by
   simp only [bl,List.getElem?_cons_succ];rw [bl_get l _ m (by omega),Nat.div_div_eq_div_mul,Nat.pow_succ,Nat.mul_comm 256]
theorem bl_drop:∀ (l c m:Nat),(bl l c).drop m = bl (l - m) (c / 256 ^ m)
 | 0,c,m=>by simp [bl]
 | l + 1,c,0=>by simp
 | l + 1,c,m + 1=>by
   simp only [bl,List.drop_succ_cons];rw [bl_drop l _ m,Nat.div_div_eq_div_mul,Nat.pow_succ,Nat.mul_comm 256,show l + 1 - (m + 1) = l - m by omega]
theorem bl_take:∀ (l c m:Nat),m≤l→(bl l c).take m = bl m c
 | l,c,0,h=>by simp [bl]
 | 0,c,m + 1,h=>by omega
 | l + 1,c,m + 1,h=>by simp [bl,bl_take l _ m (by omega)]
theorem bl_mod:∀ (l c:Nat),bl l (c % 256 ^ l) = bl l c
 | 0,c=>rfl
 | l + 1,c=>by
   simp only [bl];have h1:c % 256 ^ (l + 1) % 256 = c % 256:=by
    rw [Nat.pow_succ,Nat.mul_comm];exact Nat.mod_mul_right_mod _ _ _
   have h2:c % 256 ^ (l + 1) / 256 = c / 256 % 256 ^ l:=by
    rw [Nat.pow_succ,Nat.mul_comm,Nat.mod_mul_right_div_self]
   rw [h1,h2,bl_mod]
theorem bl_inj:∀ (l c d:Nat),bl l c = bl l d→c % 256 ^ l = d % 256 ^ l
 | 0,c,d,_=>by simp [Nat.mod_one]
 | l + 1,c,d,h=>by
   simp only [bl,List.cons.injEq] at h;have h1:c % 256 = d % 256:=by
    have:=congrArg UInt8.toNat h.1;simpa using this
   have h2:=bl_inj l _ _ h.2;rw [Nat.pow_succ,Nat.mul_comm,Nat.mod_mul,Nat.mod_mul,h1,h2]
theorem bl_app:∀ (l c l' c':Nat),bl l c ++ bl l' c' = bl (l + l') (c % 256 ^ l + 256 ^ l * c')
 | 0,c,l',c'=>by simp [bl,Nat.mod_one]
 | l + 1,c,l',c'=>by
   rw [show l + 1 + l' = (l + l') + 1 by omega];simp only [bl,List.cons_append];rw [bl_app l _ l' c'];have e:c % 256 ^ (l + 1) = c % 256 + 256 * (c / 256 % 256 ^ l):=by
    rw [Nat.pow_succ,Nat.mul_comm (256 ^ l),Nat.mod_mul]
   have e2:256 ^ (l + 1) * c' = 256 * (256 ^ l * c'):=by rw [Nat.pow_succ,Nat.mul_comm (256 ^ l),Nat.mul_assoc]
   rw [e,e2];have hlt:c % 256 < 256:=Nat.mod_lt _ (by omega);rw [show (c % 256 + 256 * (c / 256 % 256 ^ l) + 256 * (256 ^ l * c')) % 256 = c % 256 by omega,show (c % 256 + 256 * (c / 256 % 256 ^ l) + 256 * (256 ^ l * c')) / 256 = c / 256 % 256 ^ l + 256 ^ l * c' by omega]
theorem bytesOf_size (l c:Nat):(bytesOf l c).size = l:=by
 show (bl l c).length = l;exact bl_length l c
theorem bytesOf_enc (b:ByteArray):bytesOf b.size (encL b.data.toList) = b:=by
 obtain ⟨⟨l⟩⟩:=b;show ByteArray.mk ⟨bl l.length (encL l)⟩ = _;rw [bl_enc]
theorem bytesOf_get (l c m:Nat) (h:m < l):((bytesOf l c).get! m).toNat = c / 256 ^ m % 256:=by
 have h1:=bl_get l c m h;show ((bytesOf l c).data[m]!).toNat = _;have:(bytesOf l c).data[m]! = UInt8.ofNat (c / 256 ^ m % 256):=by
  rw [getElem!_def,show (bytesOf l c).data[m]? = some (UInt8.ofNat (c / 256 ^ m % 256)) from by simpa [bytesOf] using h1]
 rw [this];simp
theorem bytesOf_extract (l c lo hi:Nat) (h:hi≤l):(bytesOf l c).extract lo hi = bytesOf (hi - lo) (c / 256 ^ lo):=by
 apply ByteArray.ext;rw [ByteArray.data_extract];show (Array.mk (bl l c)).extract lo hi = Array.mk (bl (hi - lo) (c / 256 ^ lo));apply Array.ext';simp only [Array.toList_extract,List.extract_eq_take_drop];rw [bl_drop,bl_take _ _ _ (by omega)]
theorem bytesOf_mod (l c:Nat):bytesOf l (c % 256 ^ l) = bytesOf l c:=by unfold bytesOf;rw [bl_mod]
theorem bytesOf_app (l c l' c':Nat):bytesOf l c ++ bytesOf l' c' = bytesOf (l + l') (c % 256 ^ l + 256 ^ l * c'):=by
 apply ByteArray.ext;rw [ByteArray.data_append];show Array.mk (bl l c) ++ Array.mk (bl l' c') = Array.mk _;simp [bl_app]
def eqS (l c l' c':Nat):Bool:=match Nat.beq l l' with
 | true=>Nat.beq (Nat.mod c (Nat.pow 256 l)) (Nat.mod c' (Nat.pow 256 l))
 | false=>false
theorem eqS_eq (l c l' c':Nat):eqS l c l' c' = (bytesOf l c == bytesOf l' c'):=by
 unfold eqS;have hb:(bytesOf l c == bytesOf l' c') = decide (bytesOf l c = bytesOf l' c'):=by
  rw [Bool.eq_iff_iff,bytes_beq];simp
 rw [hb];split
 . rename_i h;have h:=Nat.eq_of_beq_eq_true h;subst h;rw [Bool.eq_iff_iff,Nat.beq_eq,decide_eq_true_eq];constructor
   . intro h;have h:c % 256 ^ l = c' % 256 ^ l:=h;rw [← bytesOf_mod l c,h,bytesOf_mod]
   . intro h;exact bl_inj l c c' (by simpa [bytesOf] using h)
 . rename_i h;symm;rw [decide_eq_false_iff_not];intro e;have:=congrArg ByteArray.size e;rw [bytesOf_size,bytesOf_size] at this;subst this;simp at h
inductive C where
 | nilptr | nilmap | nilfunc | niliface
 | unit
 | map (k:Nat)
 | fn (f:Fn) (b:Bool) (cap:List C)
 | iface (t:TypeId) (v:C)
 | fe (n s:Nat) (z:List C) (rows:List (List C)) (i j:Nat)
 | oel (k s i j:Nat)
 | fz (n s:Nat) (full:Bool) (z:List C) (rows:List (List C))
 | tup (vs:List C)
 | agg (cs:List C)
 | nilslice
 | vec (k s lo len:Nat)
 | loc (k off:Nat)
 | str (l c:Nat)
 | bool (b:Bool)
 | int (k:IntKind) (n:Int)
 deriving Inhabited
def lastV:List V→V
 | []=>default
 | [v]=>v
 | _ :: r=>lastV r
def tabz (z:List V) (rows:List (List V)):Nat→Nat→V:=fun i j=>(rows.getD i z).getD j (lastV z)
mutual
def C.v:C→V
 | .bool b=>.bool b
 | .int k n=>.int k n
 | .str l c=>.str (bytesOf l c)
 | .nilptr=>.nilptr | .nilslice=>.nilslice | .nilmap=>.nilmap | .nilfunc=>.nilfunc | .niliface=>.niliface
 | .loc k off=>.loc k off
 | .oel k s i j=>.oel k s i j
 | .vec k s lo len=>.vec k s lo len
 | .fz n s full z rows=>.fz n s full (tabz (C.vs z) (C.vss rows))
 | .fe n s z rows i j=>.fe n s (tabz (C.vs z) (C.vss rows)) i j
 | .map k=>.map k
 | .fn f b cap=>.fn f b (C.vs cap)
 | .iface t v=>.iface t v.v
 | .agg cs=>.agg (C.vs cs)
 | .tup cs=>.tup (C.vs cs)
 | .unit=>.raw (.tuple #[])
def C.vs:List C→List V
 | []=>[]
 | c :: r=>c.v :: C.vs r
def C.vss:List (List C)→List (List V)
 | []=>[]
 | c :: r=>C.vs c :: C.vss r
end
theorem C.vs_map:∀ (l:List C),C.vs l = l.map C.v
 | []=>by simp [C.vs]
 | c :: r=>by simp [C.vs,C.vs_map r]
theorem C.vss_map:∀ (l:List (List C)),C.vss l = l.map C.vs
 | []=>by simp [C.vss]
 | c :: r=>by simp [C.vss,C.vss_map r]
theorem C.vs_length (l:List C):(C.vs l).length = l.length:=by simp [C.vs_map]
theorem C.vs_get (l:List C) (i:Nat):(C.vs l)[i]? = (l[i]?).map C.v:=by simp [C.vs_map]
theorem C.vss_get (l:List (List C)) (i:Nat):(C.vss l)[i]? = (l[i]?).map C.vs:=by simp [C.vss_map]
abbrev CEnv:=List (Nat × C)
inductive CB where
 | cells (cs:List C)
 | vec (n s:Nat) (z:List C) (rows:List (List C))
 | map (ik:IntKind) (es:List (Int × C))
 | mapS (es:List ((Nat × Nat) × C))
 deriving Inhabited
abbrev COwn:=List (Nat × CB)
def CB.b:CB→Blk
 | .cells cs=>.cells (C.vs cs)
 | .vec n s z rows=>.vec n s (tabz (C.vs z) (C.vss rows))
 | .map ik es=>.map (.one ik) (es.map fun p=>(p.1,p.2.v))
 | .mapS es=>.map .str (es.map fun p=>(bytesOf p.1.1 p.1.2,p.2.v))
def envV (e:CEnv):Env:=e.map fun p=>(p.1,p.2.v)
def ownV (o:COwn):Own:=o.map fun p=>(p.1,p.2.b)
theorem look_map {α β:Type} (f:α→β) (l:List (Nat × α)) (t:Nat):look (l.map fun p=>(p.1,f p.2)) t = (look l t).map f:=by
 induction l with
 | nil=>rfl
 | cons p r ih =>
   simp only [List.map_cons,look];cases Nat.beq p.1 t <;> simp [ih]
theorem look_envV {e:CEnv} {t:Nat} {c:C} (h:lk e t = some c):look (envV e) t = some c.v:=by
 rw [lk_eq] at h;rw [envV,look_map,h];rfl
theorem look_ownV {o:COwn} {t:Nat} {c:CB} (h:lk o t = some c):look (ownV o) t = some c.b:=by
 rw [lk_eq] at h;rw [ownV,look_map,h];rfl
def ofV0 (v:V):Option C:=match v with
 | .bool b=>some (.bool b)
 | .int k n=>some (.int k n)
 | .str s=>some (.str s.size (encL s.data.toList))
 | .nilptr=>some .nilptr | .nilslice=>some .nilslice | .nilmap=>some .nilmap | .nilfunc=>some .nilfunc | .niliface=>some .niliface
 | .fn f b []=>some (.fn f b [])
 | _=>none
theorem ofV0_ok {v:V} {c:C} (h:ofV0 v = some c):c.v = v:=by
 unfold ofV0 at h;split at h <;> first
  | (cases h;done)
  | (cases h;simp [C.v,C.vs,bytesOf_enc])
noncomputable def ofVs (l:List V):Option (List C):=@List.rec V (fun _=>Option (List C)) (some []) (fun v _ ih=>match ofV0 v with
 | some c=>match ih with
   | some l=>some (c :: l)
   | none=>none
 | none=>none) l
theorem ofVs_ok:∀ (l:List V) {cs:List C},ofVs l = some cs→C.vs cs = l
 | [],cs,h=>by have h:some [] = some cs:=h;cases h;simp [C.vs]
 | v :: r,cs,h=>by
   have h:(match ofV0 v with
    | some c=>match ofVs r with
      | some l=>some (c :: l)
      | none=>none
    | none=>none) = some cs:=h
   split at h
   . rename_i c hc;split at h
     . rename_i l hl;cases h;simp [C.vs,ofV0_ok hc,ofVs_ok r hl]
     . cases h
   . cases h
noncomputable def ofV (v:V):Option C:=match v with
 | .agg cs=>match ofVs cs with | some l=>some (.agg l) | none=>none
 | v=>ofV0 v
theorem ofV_ok (v:V) {c:C} (h:ofV v = some c):c.v = v:=by
 unfold ofV at h;split at h
 . split at h
   . rename_i l hl;cases h;simp [C.v,ofVs_ok _ hl]
   . cases h
 . exact ofV0_ok h
end Go.Eng
namespace Go.Eng
open Go.IntWalk
noncomputable def gx (x:X) (env:CEnv):Option C:=match x with | .t n=>lk env n | .k v=>ofV v
theorem gx_ok {x:X} {env:CEnv} {c:C} {K:V→Prop} (h:gx x env = some c) (hK:K c.v):x.get (envV env) K:=by
 cases x with
 | t n=>simp only [gx] at h;simp only [X.get,look_envV h];exact hK
 | k v=>simp only [gx] at h;rw [ofV_ok v h] at hK;exact hK
noncomputable def gxs (env:CEnv) (l:List X):Option (List C):=@List.rec X (fun _=>Option (List C)) (some []) (fun x _ ih=>match gx x env with
 | some c=>match ih with | some l=>some (c :: l) | none=>none
 | none=>none) l
theorem gxs_cons (env:CEnv) (x:X) (r:List X):gxs env (x :: r) = match gx x env with
 | some c=>match gxs env r with | some l=>some (c :: l) | none=>none
 | none=>none:=rfl
theorem gxs_ok {env:CEnv}:∀ {xs:List X} {cs:List C} {K:List V→Prop},gxs env xs = some cs→K (C.vs cs)→X.gets (envV env) xs K
 | [],cs,K,h,hK=>by have h:some [] = some cs:=h;cases h;simpa [C.vs,X.gets] using hK
 | x :: r,cs,K,h,hK=>by
   rw [gxs_cons] at h;split at h
   . rename_i c hc;split at h
     . rename_i l hl;cases h;exact gx_ok hc (gxs_ok hl (by simpa [C.vs] using hK))
     . cases h
   . cases h
theorem cmp_ok {b:Bool} {K:V→Prop} (hK:K (.bool b)):cmpK b K:=by
 cases b
 . exact ⟨fun h=>(by cases h),fun _=>hK⟩
 . exact ⟨fun _=>hK,fun h=>(by cases h)⟩
noncomputable def cmpC (b:Bool):Option C:=fB b fun b=>some (.bool b)
theorem cmpC_ok {b:Bool} {c:C} {K:V→Prop} (h:cmpC b = some c) (hK:K c.v):cmpK b K:=by
 simp only [cmpC,fB_eq,Option.some.injEq] at h;subst h;exact cmp_ok (by simpa [C.v] using hK)
def kEq (a b:IntKind):Bool:=Nat.beq a.ctorIdx b.ctorIdx
theorem kEq_ok {a b:IntKind} (h:kEq a b = true):a = b:=by cases a <;> cases b <;> first | rfl | (exact absurd h (by decide))
def mxN:IntKind→Nat
 | .i8=>127 | .i16=>32767 | .i32=>2147483647 | .i64=>9223372036854775807
 | .u8=>255 | .u16=>65535 | .u32=>4294967295 | .u64=>18446744073709551615
def wrC (k:IntKind) (n:Int):Int:=match n with
 | .ofNat m=>match Nat.ble m (mxN k) with | true=>.ofNat m | false=>k.wrap (.ofNat m)
 | .negSucc m=>k.wrap (.negSucc m)
theorem wrC_eq (k:IntKind) (n:Int):wrC k n = k.wrap n:=by
 unfold wrC;split
 . split
   . rename_i h;have h:=Nat.le_of_ble_eq_true h;symm;rw [Int.ofNat_eq_natCast];cases k <;> simp only [mxN] at h
     . exact i8_in _ (by omega)
     . exact i16_in _ (by omega)
     . exact i32_in _ (by omega)
     . exact i64_in _ (by omega)
     . exact u8_in _ (by omega)
     . exact u16_in _ (by omega)
     . exact u32_in _ (by omega)
     . exact u64_in _ (by omega)
   . rfl
 . rfl
noncomputable def arC (k:IntKind) (n:Int):Option C:=fI (wrC k n) fun m=>some (.int k m)
theorem arC_ok {k:IntKind} {n:Int} {c:C} {K:V→Prop} (h:arC k n = some c) (hK:K c.v):Ar k n fun m=>K (.int k m):=by
 simp only [arC,fI_eq,wrC_eq,Option.some.injEq] at h;subst h;exact ⟨_,rfl,by simpa [C.v] using hK⟩
noncomputable def svC (k:IntKind) (n:Int):Option C:=fI n fun m=>some (.int k m)
theorem svC_ok {k:IntKind} {n:Int} {c:C} {K:V→Prop} (h:svC k n = some c) (hK:K c.v):Sv n fun m=>K (.int k m):=by
 simp only [svC,fI_eq,Option.some.injEq] at h;subst h;exact ⟨_,rfl,by simpa [C.v] using hK⟩
def ieq:Int→Int→Bool
 | .ofNat a,.ofNat b=>Nat.beq a b
 | .negSucc a,.negSucc b=>Nat.beq a b
 | _,_=>false
theorem ieq_eq (a b:Int):ieq a b = (a == b):=by
 rw [Bool.eq_iff_iff,beq_iff_eq];cases a <;> cases b <;> simp [ieq] <;> omega
def ile:Int→Int→Bool
 | .ofNat a,.ofNat b=>Nat.ble a b
 | .negSucc a,.negSucc b=>Nat.ble b a
 | .negSucc _,.ofNat _=>true
 | .ofNat _,.negSucc _=>false
theorem ile_eq (a b:Int):ile a b = decide (a≤b):=by
 rw [Bool.eq_iff_iff,decide_eq_true_eq];cases a <;> cases b <;> simp [ile] <;> omega
noncomputable def cint (op:BinOp) (k:IntKind) (a b:Int):Option C :=
 match op with
 | .add=>arC k (Int.add a b)
 | .sub=>arC k (Int.sub a b)
 | .mul=>arC k (Int.mul a b)
 | .quo=>match ieq b 0 with | true=>none | false=>arC k (a.tdiv b)
 | .rem=>match ieq b 0 with | true=>none | false=>svC k (a.tmod b)
 | .and=>svC k (bitI .and k a b)
 | .or=>svC k (bitI .or k a b)
 | .xor=>svC k (bitI .xor k a b)
 | .andNot=>svC k (bitI .andNot k a b)
 | .eql=>cmpC (ieq a b)
 | .neq=>cmpC (!(ieq a b))
 | .lss=>cmpC (!(ile b a))
 | .leq=>cmpC (ile a b)
 | .gtr=>cmpC (!(ile a b))
 | .geq=>cmpC (ile b a)
 | _=>none
theorem cint_ok {bt:BT} {op:BinOp} {k:IntKind} {a b:Int} {c:C} {K:V→Prop} (h:cint op k a b = some c) (hK:K c.v):vbin bt op (.int k a) (.int k b) K:=by
 unfold cint at h;cases op <;> simp only [vbin,decide_true] <;> simp only at h
 case add=>exact arC_ok h hK
 case sub=>exact arC_ok h hK
 case mul=>exact arC_ok h hK
 case quo =>
  split at h
  . cases h
  . rename_i hb;rw [ieq_eq] at hb;exact ⟨by simpa using hb,arC_ok h hK⟩
 case rem =>
  split at h
  . cases h
  . rename_i hb;rw [ieq_eq] at hb;exact ⟨by simpa using hb,svC_ok h hK⟩
 case and=>exact svC_ok h hK
 case or=>exact svC_ok h hK
 case xor=>exact svC_ok h hK
 case andNot=>exact svC_ok h hK
 case eql=>rw [ieq_eq] at h;exact cmpC_ok h hK
 case neq=>rw [ieq_eq] at h;exact cmpC_ok h hK
 case lss =>
  rw [ile_eq] at h;rw [show decide (a < b) = !decide (b≤a) by rw [Bool.eq_iff_iff];simp];exact cmpC_ok h hK
 case leq=>rw [ile_eq] at h;exact cmpC_ok h hK
 case gtr =>
  rw [ile_eq] at h;rw [show decide (a > b) = !decide (a≤b) by rw [Bool.eq_iff_iff];simp];exact cmpC_ok h hK
 case geq =>
  rw [ile_eq] at h;exact cmpC_ok h hK
 case shl=>cases h
 case shr=>cases h
noncomputable def strC (l c:Nat):Option C:=fN l fun l=>fN c fun c=>some (.str l c)
theorem strC_ok {l d:Nat} {c:C} (h:strC l d = some c):c.v = .str (bytesOf l d):=by
 simp only [strC,fN_eq,Option.some.injEq] at h;subst h;simp [C.v]
noncomputable def b_int2 (op:BinOp) (k:IntKind) (a:Int) (k':IntKind) (b:Int):Option C:=match op with
 | .shl=>match b with | .ofNat n=>arC k (a * 2 ^ (min n k.bits)) | .negSucc _=>none
 | .shr=>match b with | .ofNat n=>svC k (a.fdiv (2 ^ (min n k.bits))) | .negSucc _=>none
 | op=>match kEq k k' with | true=>cint op k a b | false=>none
noncomputable def b_int (op:BinOp) (k:IntKind) (a:Int) (y:C):Option C:=match y with
 | .int k' b=>b_int2 op k a k' b
 | _=>none
noncomputable def b_str2 (op:BinOp) (l c l' c':Nat):Option C:=match op with
 | .eql=>cmpC (eqS l c l' c')
 | .neq=>cmpC (!(eqS l c l' c'))
 | .add=>match Nat.ble (l + l') 9223372036854775807 with
   | true=>strC (l + l') (Nat.add (Nat.mod c (Nat.pow 256 l)) (Nat.mul (Nat.pow 256 l) c'))
   | false=>none
 | _=>none
noncomputable def b_str (op:BinOp) (l c:Nat) (y:C):Option C:=match y with
 | .str l' c'=>b_str2 op l c l' c'
 | _=>none
noncomputable def b_bool (bt:BT) (op:BinOp) (a:Bool) (y:C):Option C:=match y with
 | .bool b=>match bt with
   | .bool=>match op with
     | .eql=>cmpC (a == b)
     | .neq=>cmpC (!(a == b))
     | _=>none
   | _=>none
 | _=>none
def b_slc (bt:BT) (op:BinOp) (n:Nat) (y:C):Option C:=match n with
 | 0=>none
 | _ + 1=>match y with
   | .nilslice=>match bt with
     | .slc=>match op with
       | .eql=>some (.bool false)
       | .neq=>some (.bool true)
       | _=>none
     | _=>none
   | _=>none
def b_nil (bt:BT) (op:BinOp) (y:C):Option C:=match y with
 | .nilslice=>match bt with
   | .slc=>match op with
     | .eql=>some (.bool true)
     | .neq=>some (.bool false)
     | _=>none
   | _=>none
 | _=>none
noncomputable def cbin (bt:BT) (op:BinOp) (x y:C):Option C :=
 match x with
 | .int k a=>b_int op k a y
 | .str l c=>b_str op l c y
 | .bool a=>b_bool bt op a y
 | .fz n _ _ _ _=>b_slc bt op n y
 | .vec _ _ _ n=>b_slc bt op n y
 | .nilslice=>b_nil bt op y
 | _=>none
theorem cbin_ok {bt:BT} {op:BinOp} {x y c:C} {K:V→Prop} (h:cbin bt op x y = some c) (hK:K c.v):vbin bt op x.v y.v K:=by
 unfold cbin at h;split at h
 . unfold b_int at h;split at h
   . rename_i k a _ k' b;unfold b_int2 at h;simp only [C.v];split at h
     . split at h
       . rename_i n;simp only [vbin];refine ⟨by simp,?_⟩;have e:(Int.ofNat n).toNat = n:=rfl;rw [e];exact arC_ok h hK
       . cases h
     . split at h
       . rename_i n;simp only [vbin];refine ⟨by simp,?_⟩;have e:(Int.ofNat n).toNat = n:=rfl;rw [e];exact svC_ok h hK
       . cases h
     . split at h
       . rename_i hk;have:=kEq_ok hk;subst this;exact cint_ok h hK
       . cases h
   . cases h
 . unfold b_str at h;split at h
   . unfold b_str2 at h;simp only [C.v,vbin];split at h
     . rw [eqS_eq] at h;exact cmpC_ok h hK
     . rw [eqS_eq] at h;exact cmpC_ok h hK
     . split at h
       . rename_i l c _ l' c' hle;rw [bytesOf_size,bytesOf_size];refine ⟨fun _=>?_,fun hf=>?_⟩
         . rw [bytesOf_app];rw [strC_ok h] at hK;exact hK
         . have:=Nat.le_of_ble_eq_true hle;simp [this] at hf
       . cases h
     . cases h
   . cases h
 . unfold b_bool at h;split at h
   . split at h
     . split at h
       . simp only [C.v,vbin];exact cmpC_ok h hK
       . simp only [C.v,vbin];exact cmpC_ok h hK
       . cases h
     . cases h
   . cases h
 . unfold b_slc at h;split at h
   . cases h
   . split at h
     . split at h
       . split at h
         . cases h;simp only [C.v,vbin];exact ⟨fun e=>(by cases e),fun _=>(by simpa [C.v] using hK)⟩
         . cases h;simp only [C.v,vbin];exact ⟨fun e=>(by cases e),fun _=>(by simpa [C.v] using hK)⟩
         . cases h
       . cases h
     . cases h
 . unfold b_slc at h;split at h
   . cases h
   . split at h
     . split at h
       . split at h
         . cases h;simp only [C.v,vbin];exact ⟨fun e=>(by cases e),fun _=>(by simpa [C.v] using hK)⟩
         . cases h;simp only [C.v,vbin];exact ⟨fun e=>(by cases e),fun _=>(by simpa [C.v] using hK)⟩
         . cases h
       . cases h
     . cases h
 . unfold b_nil at h;split at h
   . split at h
     . split at h
       . cases h;simp only [C.v,vbin];simpa [C.v] using hK
       . cases h;simp only [C.v,vbin];simpa [C.v] using hK
       . cases h
     . cases h
   . cases h
 . cases h
noncomputable def cbd (x:Option X) (env:CEnv) (d n:Nat):Option Nat:=match x with
 | none=>some d
 | some x=>match gx x env with
   | some (.int _ (.ofNat m))=>match Nat.ble m n with | true=>some m | false=>none
   | _=>none
theorem cbd_ok {x:Option X} {env:CEnv} {d n m:Nat} {K:Nat→Prop} (h:cbd x env d n = some m) (hK:K m):bdK x (envV env) d n K:=by
 unfold cbd at h;split at h
 . cases h;exact hK
 . split at h
   . rename_i hx;split at h
     . rename_i hb;cases h;refine gx_ok hx ?_;simp only [C.v];exact ⟨_,rfl,Nat.le_of_ble_eq_true hb,hK⟩
     . cases h
   . cases h
theorem shiftF_tabz (l:Nat) (z:List V) (rows:List (List V)):shiftF l (tabz z rows) = tabz z (rows.drop l):=by
 funext i j;rw [shiftF_eq];simp [tabz,List.getD_eq_getElem?_getD]
theorem shiftF_tabzC (l:Nat) (z:List C) (rows:List (List C)):shiftF l (tabz (C.vs z) (C.vss rows)) = tabz (C.vs z) (C.vss (rows.drop l)):=by
 rw [shiftF_tabz,C.vss_map,C.vss_map,List.map_drop]
noncomputable def cslc (own:COwn) (s:Nat) (x:X) (lo hi:Option X) (env:CEnv):Option C :=
 match gx x env with
 | some (.fz n s' full z rows)=>match Nat.beq s s' with
   | true=>match cbd hi env n n with
     | some h=>match cbd lo env 0 h with
       | some l=>fN (h - l) fun m=>fH (dr rows l) fun q=>some (.fz m s (match hi with | none=>full | some _=>false) z q)
       | none=>none
     | none=>none
   | false=>none
 | some .nilslice=>match cbd hi env 0 0 with
   | some h=>match cbd lo env 0 h with
     | some _=>some .nilslice
     | none=>none
   | none=>none
 | some (.vec k s' lo0 len)=>match Nat.beq s s' with
   | true=>match lk own k with
     | some (.vec n _ _ _)=>match Nat.ble (lo0 + len) n with
       | true=>match cbd hi env len (n - lo0) with
         | some h=>match cbd lo env 0 h with
           | some l=>fN (lo0 + l) fun a=>fN (h - l) fun b=>some (.vec k s a b)
           | none=>none
         | none=>none
       | false=>none
     | _=>match cbd hi env len len with
        | some h=>match cbd lo env 0 h with
          | some l=>fN (lo0 + l) fun a=>fN (h - l) fun b=>some (.vec k s a b)
          | none=>none
        | none=>none
   | false=>none
 | _=>none
theorem cslc_ok {own:COwn} {s:Nat} {x:X} {lo hi:Option X} {same:Bool} {env:CEnv} {c:C} {K:V→Prop} (h:cslc own s x lo hi env = some c) (hK:K c.v):vslc (ownV own) s x lo hi none same (envV env) K:=by
 unfold cslc at h;unfold vslc;split at h
 . rename_i n s' full z rows hx;refine gx_ok hx ?_;simp only [C.v];split at h
   . rename_i hs;simp only [hs];split at h
     . rename_i hh e1;split at h
       . rename_i ll e2;refine cbd_ok e1 (cbd_ok e2 ?_);simp only [fN_eq,fH_eq,dr_eq,Option.some.injEq] at h;subst h;rw [shiftF_tabzC];simp only [C.v] at hK;exact hK
       . cases h
     . cases h
   . cases h
 . rename_i hx;refine gx_ok hx ?_;simp only [C.v];split at h
   . rename_i hh e1;split at h
     . rename_i ll e2;cases h;exact cbd_ok e1 (cbd_ok e2 (by simpa [C.v] using hK))
     . cases h
   . cases h
 . rename_i k s' lo0 len hx;refine gx_ok hx ?_;simp only [C.v];split at h
   . rename_i hs;simp only [hs];split at h
     . rename_i n s'' z rows hl;rw [look_ownV hl];simp only [CB.b];split at h
       . rename_i hle;refine ⟨fun _=>?_,fun hf=>by rw [hle] at hf;cases hf⟩;split at h
         . rename_i hh e1;split at h
           . rename_i ll e2;refine cbd_ok e1 (cbd_ok e2 ?_);simp only [fN_eq,Option.some.injEq] at h;subst h;simpa [C.v] using hK
           . cases h
         . cases h
       . cases h
     . rename_i hne;have key:∀ {A:Nat→Nat→(Nat→Nat→V)→Prop} {B:Prop},B→(match look (ownV own) k with | some (.vec n s f)=>A n s f | _=>B):=by
        intro A B hB;rw [ownV,look_map,← lk_eq];cases hl:lk own k with
        | none=>exact hB
        | some b=>cases b with
          | vec n s z rows=>exact (hne n s z rows hl).elim
          | _=>exact hB
       refine key ?_;split at h
       . rename_i hh e1;split at h
         . rename_i ll e2;refine cbd_ok e1 (cbd_ok e2 ?_);simp only [fN_eq,Option.some.injEq] at h;subst h;simpa [C.v] using hK
         . cases h
       . cases h
   . cases h
 . cases h
noncomputable def cslc3 (s:Nat) (x:X) (lo:Option X) (hi mx:X) (same:Bool) (env:CEnv):Option C :=
 match gx x env with
 | some (.fz n s' _ z rows)=>match Nat.beq s s' with
   | true=>match cbd (some mx) env n n with
     | some m=>match cbd (some hi) env n m with
       | some h=>match cbd lo env 0 h with
         | some l=>fN (h - l) fun m=>fH (dr rows l) fun q=>some (.fz m s same z q)
         | none=>none
       | none=>none
     | none=>none
   | false=>none
 | _=>none
theorem cslc3_ok {own:Own} {s:Nat} {x:X} {lo:Option X} {hi mx:X} {same:Bool} {env:CEnv} {c:C} {K:V→Prop} (h:cslc3 s x lo hi mx same env = some c) (hK:K c.v):vslc own s x lo (some hi) (some mx) same (envV env) K:=by
 unfold cslc3 at h;unfold vslc;split at h
 . rename_i n s' full z rows hx;refine gx_ok hx ?_;simp only [C.v];split at h
   . rename_i hs;simp only [hs];split at h
     . rename_i m e0;split at h
       . rename_i hh e1;split at h
         . rename_i ll e2;refine cbd_ok e0 (cbd_ok e1 (cbd_ok e2 ?_));simp only [fN_eq,fH_eq,dr_eq,Option.some.injEq] at h;subst h;rw [shiftF_tabzC];simp only [C.v] at hK;exact hK
         . cases h
       . cases h
     . cases h
   . cases h
 . cases h
def cix (i:Int) (n:Nat):Option Nat:=match i with
 | .ofNat m=>match Nat.blt m n with | true=>some m | false=>none
 | .negSucc _=>none
theorem cix_ok {i:Int} {n m:Nat} {K:Nat→Prop} (h:cix i n = some m) (hK:K m):Ix i n K:=by
 unfold cix at h;split at h
 . split at h
   . rename_i hb;cases h;exact ⟨m,rfl,Nat.le_of_ble_eq_true hb,hK⟩
   . cases h
 . cases h
theorem takeK_ok {α:Type}:∀ (l:List α) (o n:Nat) (K:List α→Prop),n≤(l.drop o).length→K ((l.drop o).take n)→takeK l o n K
 | l,o,0,K,_,h=>by cases l <;> cases o <;> simpa [takeK] using h
 | [],o,n + 1,K,hl,h=>by simp at hl
 | x :: r,0,n + 1,K,hl,h=>by
   simp only [takeK];exact takeK_ok r 0 n _ (by simpa using hl) (by simpa using h)
 | x :: r,o + 1,n + 1,K,hl,h=>by
   simp only [takeK];exact takeK_ok r o (n + 1) _ (by simpa using hl) (by simpa using h)
noncomputable def aggC (l:List C) (o n:Nat):Option C:=tk n (dr l o) fun q=>some (.agg q)
theorem aggC_ok {l:List C} {o n:Nat} {c:C} {K:V→Prop} (h:aggC l o n = some c) (hK:K c.v):takeK (C.vs l) o n fun l=>K (.agg l):=by
 unfold aggC at h;rw [tk_eq,dr_eq] at h;split at h
 . rename_i hl;cases h;refine takeK_ok _ _ _ _ (by simpa [C.vs_map] using hl) ?_;simp only [C.v,C.vs_map] at hK;simpa [C.vs_map] using hK
 . cases h
theorem nth_vs {l:List C} {i:Nat} {c:C} (h:nt l i = some c):nth (C.vs l) i = some c.v:=by
 rw [nt_eq,nth_get] at h;rw [nth_get,C.vs_get,h];rfl
noncomputable def p_mv (x:X) (env:CEnv):Option C:=gx x env
noncomputable def p_fld (off:Nat) (x:X) (env:CEnv):Option C:=match gx x env with
 | some (.loc k o)=>fN (o + off) fun m=>some (.loc k m)
 | some (.oel k s i j)=>fN (j + off) fun m=>some (.oel k s i m)
 | some (.fe n s z rows i j)=>fN (j + off) fun m=>some (.fe n s z rows i m)
 | _=>none
noncomputable def p_nilchk (x:X) (env:CEnv):Option C:=match gx x env with
 | some (.loc k o)=>some (.loc k o)
 | some (.oel k s i j)=>some (.oel k s i j)
 | some (.fe n s z rows i j)=>some (.fe n s z rows i j)
 | some (.iface t v)=>some (.iface t v)
 | _=>none
noncomputable def p_bin (bt:BT) (op:BinOp) (x:X) (y:X) (env:CEnv):Option C:=match gx x env with
 | some a=>match gx y env with
   | some b=>cbin bt op a b
   | none=>none
 | none=>none
noncomputable def p_pick (c:X) (a:X) (b:X) (env:CEnv):Option C:=match gx c env with
 | some (.bool true)=>gx a env
 | some (.bool false)=>gx b env
 | _=>none
noncomputable def p_slcs (x:X) (lo:Option X) (hi:Option X) (env:CEnv):Option C:=match gx x env with
 | some (.str l c)=>match cbd hi env l l with
   | some h=>match cbd lo env 0 h with
     | some a=>strC (h - a) (Nat.mod (Nat.div c (Nat.pow 256 a)) (Nat.pow 256 (h - a)))
     | none=>none
   | none=>none
 | _=>none
noncomputable def p_ixstr (x:X) (i:X) (env:CEnv):Option C:=match gx x env with
 | some (.str l c)=>match gx i env with
   | some (.int _ i)=>match cix i l with
     | some m=>fN (Nat.mod (Nat.div c (Nat.pow 256 m)) 256) fun b=>some (.int .u8 (.ofNat b))
     | none=>none
   | _=>none
 | _=>none
noncomputable def p_mkfn (f:Fn) (b:Bool) (cap:List X) (env:CEnv):Option C:=match gxs env cap with
 | some l=>some (.fn f b l)
 | none=>none
noncomputable def p_un (op:UnOp) (x:X) (env:CEnv):Option C:=match gx x env with
 | some (.bool b)=>match op with
   | .not=>match b with | true=>some (.bool false) | false=>some (.bool true)
   | _=>none
 | some (.int k n)=>match op with
   | .neg=>arC k (0 - n)
   | .xor=>svC k (bitI .xor k (if k.signed then -1 else k.max) n)
   | _=>none
 | _=>none
noncomputable def p_toint (k:IntKind) (x:X) (env:CEnv):Option C:=match gx x env with
 | some (.int _ n)=>arC k n
 | _=>none
noncomputable def p_sel (off:Nat) (sz:Option Nat) (x:X) (env:CEnv):Option C:=match gx x env with
 | some (.agg cs)=>match sz with
   | none=>nt cs off
   | some n=>aggC cs off n
 | _=>none
noncomputable def p_ixs (s:Nat) (x:X) (i:X) (env:CEnv):Option C:=match gx x env with
 | some (.fz n s' _ z rows)=>match Nat.beq s s' with
   | true=>match gx i env with
     | some (.int _ i)=>match cix i n with
       | some m=>some (.fe n s z rows m 0)
       | none=>none
     | _=>none
   | false=>none
 | some (.vec k s' lo len)=>match Nat.beq s s' with
   | true=>match gx i env with
     | some (.int _ i)=>match cix i len with
       | some m=>fN (lo + m) fun m=>some (.oel k s m 0)
       | none=>none
     | _=>none
   | false=>none
 | _=>none
noncomputable def p_ixa (n:Nat) (s:Nat) (x:X) (i:X) (env:CEnv):Option C:=match gx x env with
 | some (.loc k o)=>match gx i env with
   | some (.int _ i)=>match cix i n with
     | some m=>fN (o + m * s) fun m=>some (.loc k m)
     | none=>none
   | _=>none
 | some (.fe n' s' z rows i0 j0)=>match gx i env with
   | some (.int _ i)=>match cix i n with
     | some m=>fN (j0 + m * s) fun m=>some (.fe n' s' z rows i0 m)
     | none=>none
   | _=>none
 | some (.oel k s' i0 j0)=>match Nat.beq s s',i0,j0 with
   | true,0,0=>match gx i env with
     | some (.int _ i)=>match cix i n with
       | some m=>some (.oel k s m 0)
       | none=>none
     | _=>none
   | _,_,_=>match gx i env with
     | some (.int _ i)=>match cix i n with
       | some m=>fN (j0 + m * s) fun j=>some (.oel k s' i0 j)
       | none=>none
     | _=>none
 | _=>none
noncomputable def p_ext (x:X) (i:Nat) (env:CEnv):Option C:=match gx x env with
 | some (.tup vs)=>nt vs i
 | _=>none
noncomputable def p_len (x:X) (env:CEnv):Option C:=match gx x env with
 | some (.fz n _ _ _ _)=>some (.int .i64 (.ofNat n))
 | some (.vec _ _ _ n)=>some (.int .i64 (.ofNat n))
 | some .nilslice=>some (.int .i64 0)
 | _=>none
noncomputable def p_lens (x:X) (env:CEnv):Option C:=match gx x env with
 | some (.str l _)=>some (.int .i64 (.ofNat l))
 | _=>none
noncomputable def p_mn (x:X) (y:X) (env:CEnv):Option C:=match gx x env with
 | some (.int k a)=>match gx y env with
   | some (.int _ b)=>match ile a b with
     | true=>some (.int k a)
     | false=>some (.int k b)
   | _=>none
 | _=>none
noncomputable def p_mx (x:X) (y:X) (env:CEnv):Option C:=match gx x env with
 | some (.int k a)=>match gx y env with
   | some (.int _ b)=>match ile b a with
     | true=>some (.int k a)
     | false=>some (.int k b)
   | _=>none
 | _=>none
noncomputable def cpure (o:POp) (env:CEnv):Option C :=
 match o with
 | .slc _ _ _ _ _ _=>none
 | .mv x=>p_mv x env
 | .fld off x=>p_fld off x env
 | .nilchk x=>p_nilchk x env
 | .bin bt op x y=>p_bin bt op x y env
 | .pick c a b=>p_pick c a b env
 | .slcs x lo hi=>p_slcs x lo hi env
 | .ixstr x i=>p_ixstr x i env
 | .mkfn f b cap=>p_mkfn f b cap env
 | .un op x=>p_un op x env
 | .toint k x=>p_toint k x env
 | .sel off sz x=>p_sel off sz x env
 | .ixs s x i=>p_ixs s x i env
 | .ixa n s x i=>p_ixa n s x i env
 | .ext x i=>p_ext x i env
 | .len x=>p_len x env
 | .lens x=>p_lens x env
 | .mn x y=>p_mn x y env
 | .mx x y=>p_mx x y env
theorem cpure_ok {o:POp} {env:CEnv} {c:C} {K:V→Prop} (h:cpure o env = some c) (hK:K c.v):vpure o (envV env) K:=by
 cases o with
 | slc=>cases h
 | mv x=>simp only [cpure,p_mv] at h;exact gx_ok h hK
 | fld off x =>
   simp only [cpure,p_fld] at h;simp only [vpure];split at h <;> first
    | (cases h;done)
    | (rename_i hx
       refine gx_ok hx ?_;simp only [C.v];simp only [fN_eq,Option.some.injEq] at h;subst h;simpa only [C.v] using hK)
 | nilchk x =>
   simp only [cpure,p_nilchk] at h;simp only [vpure];split at h <;> first
    | (cases h;done)
    | (rename_i hx
       refine gx_ok hx ?_;cases h;simpa only [C.v] using hK)
 | bin bt op x y =>
   simp only [cpure,p_bin] at h;simp only [vpure];split at h
   . rename_i a ha;split at h
     . rename_i b hb;exact gx_ok ha (gx_ok hb (cbin_ok h hK))
     . cases h
   . cases h
 | pick c a b =>
   simp only [cpure,p_pick] at h;simp only [vpure];split at h
   . rename_i hc;refine gx_ok hc ?_;simp only [C.v];exact gx_ok h hK
   . rename_i hc;refine gx_ok hc ?_;simp only [C.v];exact gx_ok h hK
   . cases h
 | slcs x lo hi =>
   simp only [cpure,p_slcs] at h;simp only [vpure];split at h
   . rename_i l d hx;refine gx_ok hx ?_;simp only [C.v,bytesOf_size];split at h
     . rename_i hh e1;split at h
       . rename_i a e2;have hle:hh≤l:=by
          unfold cbd at e1;split at e1
          . cases e1;exact Nat.le_refl _
          . split at e1
            . split at e1
              . rename_i hb;cases e1;exact Nat.le_of_ble_eq_true hb
              . cases e1
            . cases e1
         refine cbd_ok e1 (cbd_ok e2 ?_);rw [bytesOf_extract _ _ _ _ hle,← bytesOf_mod];rw [strC_ok h] at hK;exact hK
       . cases h
     . cases h
   . cases h
 | ixstr x i =>
   simp only [cpure,p_ixstr] at h;simp only [vpure];split at h
   . rename_i l d hx;split at h
     . rename_i k n hi;refine gx_ok hx (gx_ok hi ?_);simp only [C.v,bytesOf_size];split at h
       . rename_i m hm;refine cix_ok hm ?_;have hlt:m < l:=by
          unfold cix at hm;split at hm
          . split at hm
            . rename_i hb;cases hm;exact Nat.le_of_ble_eq_true hb
            . cases hm
          . cases hm
         simp only [fN_eq,Option.some.injEq] at h;subst h;rw [bytesOf_get _ _ _ hlt];simp only [C.v] at hK;exact hK
       . cases h
     . cases h
   . cases h
 | mkfn f b cap =>
   simp only [cpure,p_mkfn] at h;simp only [vpure];split at h
   . rename_i l hl;cases h;exact gxs_ok hl (by simpa only [C.v] using hK)
   . cases h
 | un op x =>
   simp only [cpure,p_un] at h;simp only [vpure];split at h
   . rename_i b hx;refine gx_ok hx ?_;simp only [C.v];split at h
     . split at h
       . cases h;simpa only [C.v] using hK
       . cases h;simpa only [C.v] using hK
     . cases h
   . rename_i k n hx;refine gx_ok hx ?_;simp only [C.v];split at h
     . exact arC_ok h hK
     . exact svC_ok h hK
     . cases h
   . cases h
 | toint k x =>
   simp only [cpure,p_toint] at h;simp only [vpure];split at h
   . rename_i hx;refine gx_ok hx ?_;simp only [C.v];exact arC_ok h hK
   . cases h
 | sel off sz x =>
   simp only [cpure,p_sel] at h;simp only [vpure];split at h
   . rename_i cs hx;refine gx_ok hx ?_;simp only [C.v];split at h
     . rw [nth_vs h];exact hK
     . exact aggC_ok h hK
   . cases h
 | ixs s x i =>
   simp only [cpure,p_ixs] at h;simp only [vpure];split at h
   . rename_i n s' full z rows hx;split at h
     . rename_i hs;split at h
       . rename_i hi;refine gx_ok hx (gx_ok hi ?_);simp only [C.v,hs];split at h
         . rename_i hm;cases h;exact cix_ok hm (by simpa only [C.v] using hK)
         . cases h
       . cases h
     . cases h
   . rename_i k s' lo len hx;split at h
     . rename_i hs;split at h
       . rename_i hi;refine gx_ok hx (gx_ok hi ?_);simp only [C.v,hs];split at h
         . rename_i hm;simp only [fN_eq,Option.some.injEq] at h;subst h;exact cix_ok hm (by simpa only [C.v] using hK)
         . cases h
       . cases h
     . cases h
   . cases h
 | ixa n s x i =>
   simp only [cpure,p_ixa] at h;simp only [vpure];split at h
   . rename_i k o hx;split at h
     . rename_i hi;refine gx_ok hx (gx_ok hi ?_);simp only [C.v];split at h
       . rename_i hm;simp only [fN_eq,Option.some.injEq] at h;subst h;exact cix_ok hm (by simpa only [C.v] using hK)
       . cases h
     . cases h
   . rename_i hx;split at h
     . rename_i hi;refine gx_ok hx (gx_ok hi ?_);simp only [C.v];split at h
       . rename_i hm;simp only [fN_eq,Option.some.injEq] at h;subst h;exact cix_ok hm (by simpa only [C.v] using hK)
       . cases h
     . cases h
   . rename_i hx;split at h
     . rename_i hs;split at h
       . rename_i hi;refine gx_ok hx (gx_ok hi ?_);simp only [C.v,hs];split at h
         . rename_i hm;cases h;exact cix_ok hm (by simpa only [C.v] using hK)
         . cases h
       . cases h
     . rename_i hne;split at h
       . rename_i hi;refine gx_ok hx (gx_ok hi ?_);simp only [C.v];split at h
         . rename_i hm;simp only [fN_eq,Option.some.injEq] at h;subst h;exact cix_ok hm (by simpa only [C.v] using hK)
         . cases h
       . cases h
   . cases h
 | ext x i =>
   simp only [cpure,p_ext] at h;simp only [vpure];split at h
   . rename_i hx;refine gx_ok hx ?_;simp only [C.v];rw [nth_vs h];exact hK
   . cases h
 | len x =>
   simp only [cpure,p_len] at h;simp only [vpure];split at h <;> first
    | (cases h;done)
    | (rename_i hx
       refine gx_ok hx ?_;cases h;simp only [C.v] at hK;simp only [C.v];exact hK)
 | lens x =>
   simp only [cpure,p_lens] at h;simp only [vpure];split at h
   . rename_i hx;refine gx_ok hx ?_;cases h;simp only [C.v] at hK;simp only [C.v,bytesOf_size];exact hK
   . cases h
 | mn x y =>
   simp only [cpure,p_mn] at h;simp only [vpure];split at h
   . rename_i hx;split at h
     . rename_i hy;refine gx_ok hx (gx_ok hy ?_);simp only [C.v];refine ⟨_,rfl,?_⟩;split at h
       . rename_i hc;rw [ile_eq] at hc;cases h;have hc:=of_decide_eq_true hc;rw [if_neg (by omega)];simpa only [C.v] using hK
       . rename_i hc;rw [ile_eq] at hc;cases h;have hc:=of_decide_eq_false hc;rw [if_pos (by omega)];simpa only [C.v] using hK
     . cases h
   . cases h
 | mx x y =>
   simp only [cpure,p_mx] at h;simp only [vpure];split at h
   . rename_i hx;split at h
     . rename_i hy;refine gx_ok hx (gx_ok hy ?_);simp only [C.v];refine ⟨_,rfl,?_⟩;split at h
       . rename_i hc;rw [ile_eq] at hc;cases h;have hc:=of_decide_eq_true hc;rw [if_neg (by omega)];simpa only [C.v] using hK
       . rename_i hc;rw [ile_eq] at hc;cases h;have hc:=of_decide_eq_false hc;rw [if_pos (by omega)];simpa only [C.v] using hK
     . cases h
   . cases h
end Go.Eng
