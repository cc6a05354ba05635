import Derived.Test.YtkimongfladmfaaGreatDoorDN11
import Derived.Test.YtkimongfladmfaaGreatDoorEngT
import Derived.Test.YtkimongfladmfaaGreatDoorEngZ
import Derived.Test.YtkimongfladmfaaGreatDoorRows
import Derived.LaidMore
import Derived.Stop.Joined
import Derived.SevenTiedAt
import GoSem.ClaimSeven
namespace Go.Proofs.YtkimongfladmfaaGreatDoor
open Go.Eng
set_option maxRecDepth 100000
set_option linter.unusedVariables false
instance:Inhabited Cnt:=⟨⟨0,0,0,0,0⟩⟩
def chC (p:Pr) (g:G) (k:Int) (c:Cf) (w:Nat):Nat:=rs g k (enN p g c) w
def nxC (p:Pr) (g:G) (k:Int) (c:Cf) (w:Nat):Cf:=stepC p g c (chC p g k c w)
def nxK (p:Pr) (g:G) (k:Int) (c:Cf) (n:Cnt) (w:Nat):Cnt:=n.add (chC p g k c w) (enN p g (nxC p g k c w))
def trc (p:Pr) (g:G) (k:Int):Cf→Cnt→List Nat→List (Cf × Cnt)
 | c,n,[]=>[(c,n)]
 | c,n,w :: ws=>(c,n) :: (if enN p g c = 0 then [] else trc p g k (nxC p g k c w) (nxK p g k c n w) ws)
def chsL (p:Pr) (g:G) (k:Int):Cf→List Nat→List Nat
 | _,[]=>[]
 | c,w :: ws=>if enN p g c = 0 then [] else chC p g k c w :: chsL p g k (nxC p g k c w) ws
def cnt0 (e:Nat):Cnt:=⟨0,0,0,0,e⟩
theorem en_pow (p:Pr) (g:G) (c:Cf):enN p g c < 2 ^ g.ids.length:=nb_pow _ _
theorem en_24 (p:Pr) {g:G} (hg:g.valid = true) (c:Cf):enN p g c < 16777216:=by
 obtain ⟨f1,f2,f3,f4,f5,f6,f7⟩:=val_facts hg;exact Nat.lt_of_lt_of_le (en_pow p g c) (Nat.pow_le_pow_right (n:=2) (by omega) f2)
theorem en_32 (p:Pr) {g:G} (hg:g.valid = true) (c:Cf):enN p g c < 4294967296:=by have:=en_24 p hg c;omega
theorem en_part (p:Pr) {g:G} (hg:g.valid = true) (c:Cf):Part (enN p g c) (full g.ports.length):=fun i hi=>by
 obtain ⟨f1,f2,f3,f4,f5,f6,f7⟩:=val_facts hg;rw [enN,nb_bit,Bool.and_eq_true,decide_eq_true_eq] at hi;rw [full_bit,decide_eq_true_eq];omega
theorem en_bit (p:Pr) (g:G) (c:Cf) (v:Nat):(enN p g c).testBit v = (decide (v < g.ids.length) && decide (0≤ruleI p g c v)):=nb_bit _ _ _
theorem ch_facts (p:Pr) {g:G} (hg:g.valid = true) {k:Int} (hk:dk k = true) (c:Cf) (w:Nat) (h0:enN p g c≠0) :
 chC p g k c w≠0∧Part (chC p g k c w) (enN p g c)∧okC g k (enN p g c) (chC p g k c w) = true∧chC p g k c w < 16777216∧1≤cnt (chC p g k c w) 32∧cnt (chC p g k c w) 32≤24:=by
 have he:=en_32 p hg c;have hi:=rs_inner hg (w:=w) hk he (en_part p hg c) h0;obtain ⟨h1,h2,h3⟩:=inner_iff.1 hi;have hp:Part (rs g k (enN p g c) w) (enN p g c):=by
  intro i hb;by_cases e:i < 32
  . have:=congrArg (Nat.testBit · i) h2;simp only [Nat.zero_testBit,ndiff_bit e,hb,Bool.true_and,Bool.not_eq_false'] at this;exact this
  . exfalso;have hx:rs g k (enN p g c) w < 4294967296∨∃ j,32≤j∧(rs g k (enN p g c) w).testBit j = true:=by
     right;exact ⟨i,by omega,hb⟩
    have h4:rs g k (enN p g c) w < 4294967296:=by
     rw [rs];split
     . exact lowb_lt _ (wsh_lt he)
     . split
       . exact gr_lt g _ (by omega)
       . split
         . exact he
         . exact wsh_lt he
    have:=Nat.testBit_lt_two_pow (Nat.lt_of_lt_of_le h4 (Nat.pow_le_pow_right (n:=2) (i:=32) (by omega) (show 32≤i by omega)));rw [this] at hb;cases hb
 have hlt:rs g k (enN p g c) w < 16777216:=by
  apply Nat.lt_of_not_le;intro hge;obtain ⟨i,hi1,hi2⟩:=Nat.exists_ge_and_testBit_of_ge_two_pow (n:=24) hge;have:=hp i hi2;have h24:=Nat.testBit_lt_two_pow (Nat.lt_of_lt_of_le (en_24 p hg c) (Nat.pow_le_pow_right (n:=2) (i:=24) (by omega) hi1));rw [h24] at this;cases this
 refine ⟨h1,hp,h3,hlt,?_,?_⟩
 . have:∃ i,(rs g k (enN p g c) w).testBit i = true:=by
    apply Classical.byContradiction;intro hn;exact h1 (zero_bits.2 fun i=>by
     cases hb:(rs g k (enN p g c) w).testBit i with
     | false=>rfl
     | true=>exact (hn ⟨i,hb⟩).elim)
   obtain ⟨i,hb⟩:=this;have hi:i < 32:=by
    apply Nat.lt_of_not_le;intro hge;have:=Nat.testBit_lt_two_pow (Nat.lt_of_lt_of_le hlt (Nat.pow_le_pow_right (n:=2) (i:=24) (by omega) (show 24≤i by omega)));rw [this] at hb;cases hb
   exact cnt_pos hb hi
 . have h24:cnt (chC p g k c w) 32 = cnt (chC p g k c w) 24:=by
    rw [show (32:Nat) = 24 + 8 from rfl,cnt_add 24 8];have hz:chC p g k c w >>> 24 = 0:=by
     rw [Nat.shiftRight_eq_div_pow];exact Nat.div_eq_of_lt hlt
    rw [hz,cnt_zero (s:=0) (fun i _=>Nat.zero_testBit i)];rfl
   rw [h24];exact cnt_le _ 24
theorem brI_in {kind lo hi v:Int} (h:lo≤hi) (h3:kind = 3→lo = -1):lo≤brI kind lo hi v∧brI kind lo hi v≤hi:=by
 unfold brI;split
 . omega
 . split
   . have:=h3 (by assumption);omega
   . split <;> omega
theorem bnd_le {g:G} (hg:g.valid = true) {x:Vr} (hx:VarOk x) {v:Nat} (hv:v < g.ports.length):(bnd g x v).1≤(bnd g x v).2∧(x.kind = 3→(bnd g x v).1 = -1):=by
 have h1:=bnd_in hg hx hv;rcases hx.kind with h | h | h
 . exact ⟨h1.2.2.2.2 h,fun e=>by omega⟩
 . rw [bnd,if_neg (by omega),if_pos h];exact ⟨by decide,fun e=>by omega⟩
 . rw [bnd,if_neg (by omega),if_neg (by omega)];exact ⟨by simp only;omega,fun _=>rfl⟩
theorem gI_stx (l:List Int) (a i:Nat) (x:Int) (ha:a < l.length):gI (l.set a x) i = if i = a then x else gI l i:=by
 simp only [gI,List.getD,List.getElem?_set];by_cases h:a = i
 . subst h;simp [ha]
 . have:¬ i = a:=fun e=>h e.symm;rw [if_neg h,if_neg this]
theorem step_conf {p:Pr} (hp:PrOk p) {g:G} (hg:g.valid = true) {c:Cf} (hc:Conf p g c) {s:Nat} (hs:Part s (enN p g c)):Conf p g (stepC p g c s):=by
 obtain ⟨f1,f2,f3,f4,f5,f6,f7⟩:=val_facts hg;have hl:=hc.len;have key:∀ v,v < c.length→s.testBit v = true→∀ x,x < p.vars.length→(bnd g (gV p.vars x) v).1≤gI (moveL p g c v (ruleI p g c v).toNat) x∧gI (moveL p g c v (ruleI p g c v).toNat) x≤(bnd g (gV p.vars x) v).2:=by
  intro v hv hb x hx;have hen:=hs v hb;rw [en_bit,Bool.and_eq_true,decide_eq_true_eq,decide_eq_true_eq] at hen;have hrl:=ruleI_lt p g c v;have hr:(ruleI p g c v).toNat < p.rules.length:=by omega
  have hset:=hp.set _ hr;unfold moveL putL;generalize (gRl p.rules (ruleI p g c v).toNat).sets = l at hset;have gen:∀ (l:List (Int × Tm)),(∀ j,j < l.length→0≤(gS l j).1∧(gS l j).1 < p.vars.length)→∀ st:List Int,st.length = p.vars.length→((bnd g (gV p.vars x) v).1≤gI st x∧gI st x≤(bnd g (gV p.vars x) v).2) →
   (bnd g (gV p.vars x) v).1≤gI (l.foldl (putV p g c v) st) x∧gI (l.foldl (putV p g c v) st) x≤(bnd g (gV p.vars x) v).2:=by
   intro l
   induction l with
   | nil=>intro _ st _ h;exact h
   | cons a r ih =>
     intro hj st hst h;rw [List.foldl_cons];have ha:0≤a.1∧a.1 < p.vars.length:=hj 0 (by simp);refine ih (fun j hj'=>by have:=hj (j + 1) (by simpa using hj');simpa [gS] using this) _ (by simp [putV,hst]) ?_;rw [putV,gI_stx _ _ _ _ (by omega)];split
     . rename_i e;subst e;have hb:=bnd_le hg (hp.var a.1.toNat hx) (v:=v) (by omega);exact brI_in hb.1 hb.2
     . exact h
  exact gen l (fun j hj=>⟨(hset j hj).1,(hset j hj).2.1⟩) _ (hc.row v hv) (hc.val v hv x hx)
 refine ⟨by rw [stepC_len];exact hl,fun v hv=>?_,fun v hv x hx=>?_⟩
 . rw [stepC_len] at hv;rw [stepC_row p g c s hv];split
   . rw [moveL,putL_len];exact hc.row v hv
   . exact hc.row v hv
 . rw [stepC_len] at hv;rw [stepC_row p g c s hv];split
   . rename_i hb;exact key v hv hb x hx
   . exact hc.val v hv x hx
theorem nx_conf {p:Pr} (hp:PrOk p) {g:G} (hg:g.valid = true) {k:Int} (hk:dk k = true) {c:Cf} (hc:Conf p g c) (w:Nat) (h0:enN p g c≠0):Conf p g (nxC p g k c w) :=
 step_conf hp hg hc (ch_facts p hg hk c w h0).2.1
theorem nx_ok {p:Pr} {g:G} (hg:g.valid = true) {k:Int} (hk:dk k = true) {c:Cf} {n:Cnt} (hn:n.Ok) (h4:n.steps < 4096) (w:Nat) (h0:enN p g c≠0):(nxK p g k c n w).Ok∧(nxK p g k c n w).steps = n.steps + 1:=by
 obtain ⟨c1,c2,c3,c4,c5,c6⟩:=ch_facts p hg hk c w h0;refine ⟨add_fit n hn h4 _ _ c5 c6 (en_24 p hg _),?_⟩;rw [nxK,Cnt.add];split <;> rfl
theorem cnt0_ok {e:Nat} (he:e < 16777216):(cnt0 e).Ok:=⟨by simp [cnt0],by simp [cnt0],by simp [cnt0],by simp [cnt0],by simp [cnt0],by simp [cnt0],he⟩
theorem trc_ne (p:Pr) (g:G) (k:Int) (c:Cf) (n:Cnt) (ws:List Nat):0 < (trc p g k c n ws).length:=by
 cases ws <;> simp [trc]
theorem trc_len (p:Pr) (g:G) (k:Int):∀ (ws:List Nat) (c:Cf) (n:Cnt),(trc p g k c n ws).length≤ws.length + 1
 | [],c,n=>by simp [trc]
 | w :: ws,c,n=>by
   rw [trc];split
   . simp
   . have:=trc_len p g k ws (nxC p g k c w) (nxK p g k c n w);simp;omega
theorem trc_all {p:Pr} (hp:PrOk p) {g:G} (hg:g.valid = true) {k:Int} (hk:dk k = true):∀ (ws:List Nat) (c:Cf) (n:Cnt),Conf p g c→n.Ok→n.steps + ws.length≤4096→∀ x∈trc p g k c n ws,Conf p g x.1∧x.2.Ok
 | [],c,n,hc,hn,_,x,hx=>by simp [trc] at hx;subst hx;exact ⟨hc,hn⟩
 | w :: ws,c,n,hc,hn,hl,x,hx=>by
   rw [trc] at hx;rcases List.mem_cons.1 hx with e | hx
   . subst e;exact ⟨hc,hn⟩
   . by_cases h0:enN p g c = 0
     . rw [if_pos h0] at hx;cases hx
     . rw [if_neg h0] at hx;simp only [List.length_cons] at hl;obtain ⟨k1,k2⟩:=nx_ok hg hk hn (by omega) w h0 (k:=k);exact trc_all hp hg hk ws _ _ (nx_conf hp hg hk hc w h0) k1 (by omega) x hx
def heldL (R M:Int) (ended:Bool):Bool→List (Bool × Cnt)→Bool
 | r,[]=>r || !ended
 | r,(l,k) :: t=>if r = true∧l = false then false else if (r || l) = false∧(R < k.begun∨0≤M∧M < k.moves) then false else heldL R M ended (r || l) t
def lastC (l:List (Cf × Cnt)):Cf:=(l.getLast?.getD default).1
theorem lastC_cons (x:Cf × Cnt) {l:List (Cf × Cnt)} (h:0 < l.length):lastC (x :: l) = lastC l:=by
 cases l with
 | nil=>simp at h
 | cons a r=>rfl
theorem held_trc {p:Pr} (hp:PrOk p) {g:G} (hg:g.valid = true) {k:Int} (hk:dk k = true) (R M:Int) (leg:Cf→Bool) (Inv:Cf→Cnt→Prop)
 (hcl:∀ c s,Conf p g c→leg c = true→Part s (enN p g c)→okC g k (enN p g c) s = true→s≠0→leg (stepC p g c s) = true)
 (hb:∀ c n,Conf p g c→n.Ok→Inv c n→leg c = false→(n.begun:Int)≤R∧(0≤M→(n.moves:Int)≤M))
 (he:∀ c,Conf p g c→leg c = false→enN p g c≠0)
 (hst:∀ c n s,Conf p g c→n.Ok→Inv c n→leg c = false→Part s (enN p g c)→okC g k (enN p g c) s = true→s≠0→s < 16777216→leg (stepC p g c s) = false→Inv (stepC p g c s) (n.add s (enN p g (stepC p g c s)))) :
 ∀ (ws:List Nat) (c:Cf) (n:Cnt) (r:Bool),Conf p g c→n.Ok→n.steps + ws.length≤4096→(r = true→leg c = true)→(leg c = false→Inv c n) →
  heldL R M (decide (enN p g (lastC (trc p g k c n ws)) = 0)) r ((trc p g k c n ws).map fun x=>(leg x.1,x.2)) = true:=by
 intro ws
 induction ws with
 | nil =>
   intro c n r hc hn _ hr hi;simp only [trc,List.map_cons,List.map_nil,heldL];cases hl:leg c with
   | true =>
     rw [if_neg (by simp),if_neg (by simp)];simp
   | false =>
     have hrf:r = false:=by cases r with
      | false=>rfl
      | true=>rw [hr rfl] at hl;cases hl
     obtain ⟨b1,b2⟩:=hb c n hc hn (hi hl) hl;rw [if_neg (by simp [hrf]),if_neg (by rintro ⟨_,h | ⟨h,h'⟩⟩;omega;have:=b2 h;omega)];have:=he c hc hl;simp [lastC,this]
 | cons w ws ih =>
   intro c n r hc hn hlen hr hi;simp only [List.length_cons] at hlen;rw [trc];by_cases h0:enN p g c = 0
   . rw [if_pos h0];simp only [List.map_cons,List.map_nil,heldL];cases hl:leg c with
     | true=>rw [if_neg (by simp),if_neg (by simp)];simp
     | false=>exact (he c hc hl h0).elim
   . rw [if_neg h0];have hne:=trc_ne p g k (nxC p g k c w) (nxK p g k c n w) ws;rw [lastC_cons _ hne];simp only [List.map_cons,heldL];obtain ⟨c1,c2,c3,c4,c5,c6⟩:=ch_facts p hg hk c w h0;obtain ⟨k1,k2⟩:=nx_ok hg hk hn (by omega) w h0 (k:=k);have hcn:=nx_conf hp hg hk hc w h0;have hstep:leg (nxC p g k c w) = false→Inv (nxC p g k c w) (nxK p g k c n w):=fun hl'=>by
      cases hl:leg c with
      | true=>rw [nxC,hcl c _ hc hl c2 c3 c1] at hl';cases hl'
      | false=>exact hst c n _ hc hn (hi hl) hl c2 c3 c1 c4 hl'
     cases hl:leg c with
     | true =>
       rw [if_neg (by simp),if_neg (by simp),Bool.or_true];exact ih _ _ true hcn k1 (by omega) (fun _=>hcl c _ hc hl c2 c3 c1) hstep
     | false =>
       have hrf:r = false:=by cases r with
        | false=>rfl
        | true=>rw [hr rfl] at hl;cases hl
       obtain ⟨b1,b2⟩:=hb c n hc hn (hi hl) hl;rw [if_neg (by simp [hrf]),if_neg (by rintro ⟨_,h | ⟨h,h'⟩⟩;omega;have:=b2 h;omega)];subst hrf;exact ih _ _ _ hcn k1 (by omega) (fun h=>by simp at h) hstep
def wsE (l:List Int) (i:Nat):Int:=if l.length = 0 then 4294967295 else
 bitI .and .u32 (bitI .or .u32 (IntKind.u32.wrap (bitI .and .u32 (gI l (i % l.length)) 16777215 * 2 ^ (min (((i:Int).tdiv l.length).tmod 24).toNat 32))) ((bitI .and .u32 (gI l (i % l.length)) 16777215).fdiv (2 ^ (min (24 - ((i:Int).tdiv l.length).tmod 24).toNat 32)))) 16777215
theorem wrapu_range (a:Int):0≤IntKind.u32.wrap a∧IntKind.u32.wrap a < 4294967296:=by
 simp only [IntKind.wrap,IntKind.bits,IntKind.signed,Bool.false_and];constructor
 . simp;omega
 . simp;omega
theorem wsE_range (l:List Int) (i:Nat):0≤wsE l i∧wsE l i < 4294967296:=by
 rw [wsE];split
 . decide
 . exact wrapu_range _
def wsN (l:List Int) (i:Nat):Nat:=(wsE l i).toNat
def wsL (l:List Int) (n:Nat):List Nat:=(List.range n).map (wsN l)
theorem wsL_len (l:List Int) (n:Nat):(wsL l n).length = n:=by simp [wsL]
theorem wsL_lt (l:List Int) (n:Nat):∀ w∈wsL l n,w < 4294967296:=fun w hw=>by
 obtain ⟨i,_,rfl⟩:=List.mem_map.1 hw;have:=wsE_range l i;rw [wsN];omega
def vW (l:List Int):Nat→Nat→V:=fun i _=>.int .u32 (wsE l i)
def vUI (l:List Int):Nat→Nat→V:=fun i _=>.int .u32 (gI l i)
theorem wrem {i n:Nat} (h:n≠0):(i:Int).tmod n = ((i % n:Nat):Int):=by
 rw [Int.tmod_eq_emod_of_nonneg (by omega)];exact (Int.natCast_emod _ _).symm
theorem wquo {i n:Nat}:0≤(i:Int).tdiv n∧(i:Int).tdiv n≤i:=by
 rw [Int.tdiv_eq_ediv_of_nonneg (by omega)];exact ⟨Int.ediv_nonneg (Int.natCast_nonneg i) (Int.natCast_nonneg n),Int.ediv_le_self _ (Int.natCast_nonneg i)⟩
theorem wrem24 {q:Int} (h:0≤q):0≤q.tmod 24∧q.tmod 24 < 24:=by
 rw [Int.tmod_eq_emod_of_nonneg h];omega
theorem vle_appW (l:List Int) (i a b:Nat) (ha:a < i + 1) (hb:b < 1) (F:Nat→Nat→V) (x:Int) (hF:F 0 0 = .int .u32 x) (hx:x = wsE l i):VLe (fapp (shiftF 0 (vW l)) i (shiftF 0 F) a b) (vW l a b):=by
 obtain rfl:b = 0:=by omega
 apply VLe.of_eq;by_cases h:a < i
 . rw [fapp_lt h];simp [shiftF]
 . rw [fapp_ge h];have:a = i:=by omega
   subst this;simp [shiftF,hF,vW,hx]
set_option maxHeartbeats 8000000 in
theorem wishes_ok (l:List Int) (hl:l.length≤9223372036854775807) (n:Nat) (hn:n≤1000):Ret Tryz.prog 15 [.fz l.length 1 false (vUI l),.int .i64 n] (.fz (wsL l n).length 1 false (vU7 (wsL l n))):=by
 refine ret_frz rfl ?_;refine fn_rule mixed Tryz.func15 rfl hc15 hr15 rfl ?_
 repeat' ((conv=>whnf);first | fail)
 all_goals (conv=>whnf)
 refine loop_w mixed [0,1] [0] [1,2,3,4,5,6,7,8,9,10,11,12,13,14,15,16,17,18,19,20,21,22,23,24,25,26,27,28,29] [0] (fun i:Nat=>[(5,.vec 0 1 0 i),(6,.int .i64 i)]) (fun i=>[(0,.vec i 1 (vW l))]) (fun m i=>m = n - i∧i≤n) n 0 ⟨rfl,Nat.zero_le _⟩ rfl (fun _=>rfl) ?_ ?_
 . exact weak_b (fun _ _=>[(0,none)])
 rintro m i ⟨hm,hi⟩;by_cases hin:i < n
 . by_cases h0:l.length = 0
   . repeat' ((conv=>whnf);first | (refine Br.dec ?_ ?_ <;> intro _ <;> try omega) | (refine Br.nbeq ?_ ?_ <;> intro _ <;> try omega) | (refine Ar.i64 (by omega) (by omega) ?_) | (refine Len.mk (by omega) ?_))
     all_goals (conv=>whnf)
     all_goals try (exfalso;omega)
     all_goals
      refine ⟨n - (i + 1),i + 1,by omega,⟨rfl,by omega⟩,?_⟩;refine weak_by (fun env _=>[(0,ekey env 5)]) ?_ ?_ rfl
      . repeat' (first | exact True.intro | (refine ⟨⟨_,rfl,?_⟩,?_⟩) | exact VRen.kf rfl | exact VRen.vec rfl rfl rfl)
      . repeat' (first | (refine ⟨Nat.le_refl _,rfl,fun a b ha hb=>vle_appW l i a b ha hb _ 4294967295 rfl (by rw [wsE,if_pos h0])⟩) | exact True.intro | (refine ⟨⟨_,rfl,?_⟩,?_⟩))
   . have hr:=wrem (i:=i) h0;have hq:=wquo (i:=i) (n:=l.length);have h24:=wrem24 hq.1;have hml:i % l.length < l.length:=Nat.mod_lt _ (by omega);have hE:wsE l i = bitI .and .u32 (bitI .or .u32 (IntKind.u32.wrap (bitI .and .u32 (gI l (i % l.length)) 16777215 * 2 ^ (min (((i:Int).tdiv l.length).tmod 24).toNat 32))) ((bitI .and .u32 (gI l (i % l.length)) 16777215).fdiv (2 ^ (min (24 - ((i:Int).tdiv l.length).tmod 24).toNat 32)))) 16777215:=by rw [wsE,if_neg h0]
     repeat' ((conv=>whnf);first | (refine Ix.mk (i % l.length) hr hml ?_) | (refine Ar.u64 (by omega) (by omega) ?_) | (refine Br.dec ?_ ?_ <;> intro _ <;> try omega) | (refine Br.nbeq ?_ ?_ <;> intro _ <;> try omega) | (refine Ar.i64 (by omega) (by omega) ?_) | (refine Sv.mk _ rfl ?_) | (refine Nz.mk (by omega) ?_) | (refine Nn.mk (by omega) ?_) | (refine Len.mk (by omega) ?_) | (refine Ar.mk _ rfl ?_))
     all_goals (conv=>whnf)
     all_goals try (exfalso;omega)
     all_goals
      refine ⟨n - (i + 1),i + 1,by omega,⟨rfl,by omega⟩,?_⟩;refine weak_by (fun env _=>[(0,ekey env 5)]) ?_ ?_ rfl
      . repeat' (first | exact True.intro | (refine ⟨⟨_,rfl,?_⟩,?_⟩) | exact VRen.kf rfl | exact VRen.vec rfl rfl rfl)
      . repeat' (first | (refine ⟨Nat.le_refl _,rfl,fun a b ha hb=>vle_appW l i a b ha hb _ _ rfl hE.symm⟩) | exact True.intro | (refine ⟨⟨_,rfl,?_⟩,?_⟩))
 . have e:i = n:=by omega
   subst e
   repeat' ((conv=>whnf);first | (refine Br.dec ?_ ?_ <;> intro _ <;> try omega) | (refine Len.mk (by omega) ?_))
   all_goals (conv=>whnf)
   refine VLe.fz (wsL_len l i).symm (fun h=>h) (fun a b ha hb=>VLe.of_eq ?_);obtain rfl:b = 0:=by omega
   have hr:=wsE_range l a;have e1:(wsL l i).getD a 0 = wsN l a:=by rw [wsL,List.getD_eq_getElem?_getD,List.getElem?_map,List.getElem?_range ha];rfl
   rw [shiftF_eq,Nat.zero_add];show V.int .u32 (wsE l a) = V.int .u32 (((wsL l i).getD a 0:Nat):Int);rw [e1,wsN];congr 1;omega
def gH (l:List (Bool × Cnt)) (i:Nat):Bool × Cnt:=l.getD i default
def cntF (k:Cnt):Nat→V:=fun j=>match j with
 | 0=>.int .i64 k.steps
 | 1=>.int .i64 k.moves
 | 2=>.int .i64 k.rounds
 | 3=>.int .i64 k.begun
 | _=>.int .u32 k.pend
def vHb (l:List (Bool × Cnt)):Nat→Nat→V:=fun i _=>.bool (gH l i).1
def vHk (l:List (Bool × Cnt)):Nat→Nat→V:=fun i j=>cntF (gH l i).2 j
theorem gH_drop (l:List (Bool × Cnt)) (i:Nat) (h:i < l.length):l.drop i = gH l i :: l.drop (i + 1):=by
 rw [List.drop_eq_getElem_cons h];simp only [gH,List.getD,List.getElem?_eq_getElem h,Option.getD_some]
set_option maxHeartbeats 8000000 in
theorem held_ok (L:List (Bool × Cnt)) (h0:0 < L.length) (hl:L.length≤1000) (kd R M:Int) (b1 b2 e:Bool) :
 Ret Tryz.prog 21 [.fz L.length 1 false (vHb L),.fz L.length 5 false (vHk L),.agg [.int .i64 kd,.bool b1,.bool b2,.int .i64 R,.int .i64 M],.bool e] (.bool (heldL R M e false L)):=by
 refine ret_frz rfl ?_;refine fn_rule mixed Tryz.func21 rfl hc21 hr21 rfl ?_
 repeat' ((conv=>whnf);first | (refine Br.dec ?_ ?_ <;> intro _ <;> try omega) | (refine Br.bne ?_ ?_ <;> intro _ <;> try omega))
 all_goals (conv=>whnf)
 refine loop_r mixed [0,1,3,6] (fun x:Nat × Bool=>[(9,.bool x.2),(10,.int .i64 x.1)]) (fun m x=>m = L.length - x.1∧x.1≤L.length∧heldL R M e x.2 (L.drop x.1) = heldL R M e false L) L.length (0,false) ⟨rfl,Nat.zero_le _,rfl⟩ ?_ ?_
 . exact weak_b (fun _ _=>[(0,some 0)])
 rintro m ⟨i,r⟩ ⟨hm,hi,hE⟩;simp only at hm hi hE;by_cases hin:i < L.length
 . rw [gH_drop L i hin,heldL] at hE;have hb:vHb L i 0 = .bool (gH L i).1:=rfl;have hk3:vHk L i 3 = .int .i64 (gH L i).2.begun:=rfl;have hk1:vHk L i 1 = .int .i64 (gH L i).2.moves:=rfl;cases r with
   | true =>
     cases hlg:(gH L i).1 with
     | false =>
       have e1:heldL R M e false L = false:=by rw [← hE,hlg];simp
       rw [hlg] at hb
       repeat' ((conv=>whnf);first | (refine Br.dec ?_ ?_ <;> intro _ <;> try omega) | (refine Ar.i64 (by omega) (by omega) ?_) | (refine Ix.nat (by omega) ?_) | (refine Br.any (fun _=>?_) (fun _=>?_)))
       all_goals (conv=>whnf)
       all_goals try (exfalso;first | exact absurd (hlg.symm.trans (show (gH L i).1 = true by assumption)) (by decide) | exact absurd (hlg.symm.trans (show (gH L i).1 = false by assumption)) (by decide))
       all_goals first
        | (rw [e1];exact VLe.rfl)
        | (exfalso;dsimp only at *;omega)
     | true =>
       have e1:heldL R M e true (L.drop (i + 1)) = heldL R M e false L:=by rw [← hE,hlg];simp
       rw [hlg] at hb
       repeat' ((conv=>whnf);first | (refine Br.dec ?_ ?_ <;> intro _ <;> try omega) | (refine Ar.i64 (by omega) (by omega) ?_) | (refine Ix.nat (by omega) ?_) | (refine Br.any (fun _=>?_) (fun _=>?_)))
       all_goals (conv=>whnf)
       all_goals try (exfalso;first | exact absurd (hlg.symm.trans (show (gH L i).1 = true by assumption)) (by decide) | exact absurd (hlg.symm.trans (show (gH L i).1 = false by assumption)) (by decide))
       all_goals first
        | (exfalso;dsimp only at *;omega)
        | (refine ⟨L.length - (i + 1),(i + 1,true),by omega,⟨rfl,by simp only;omega,e1⟩,?_⟩
           exact weak_b (fun _ _=>[(0,some 0)]))
   | false =>
     cases hlg:(gH L i).1 with
     | true =>
       have e1:heldL R M e true (L.drop (i + 1)) = heldL R M e false L:=by rw [← hE,hlg];simp
       rw [hlg] at hb
       repeat' ((conv=>whnf);first | (refine Br.dec ?_ ?_ <;> intro _ <;> try omega) | (refine Ar.i64 (by omega) (by omega) ?_) | (refine Ix.nat (by omega) ?_) | (refine Br.any (fun _=>?_) (fun _=>?_)))
       all_goals (conv=>whnf)
       all_goals try (exfalso;first | exact absurd (hlg.symm.trans (show (gH L i).1 = true by assumption)) (by decide) | exact absurd (hlg.symm.trans (show (gH L i).1 = false by assumption)) (by decide))
       all_goals first
        | (exfalso;dsimp only at *;omega)
        | (refine ⟨L.length - (i + 1),(i + 1,true),by omega,⟨rfl,by simp only;omega,e1⟩,?_⟩
           exact weak_b (fun _ _=>[(0,some 0)]))
     | false =>
       rw [hlg] at hb;by_cases hcond:R < ((gH L i).2.begun:Int)∨0≤M∧M < ((gH L i).2.moves:Int)
       . have e1:heldL R M e false L = false:=by rw [← hE,hlg];simp [hcond]
         repeat' ((conv=>whnf);first | (refine Br.dec ?_ ?_ <;> intro _ <;> try omega) | (refine Ar.i64 (by omega) (by omega) ?_) | (refine Ix.nat (by omega) ?_) | (refine Br.any (fun _=>?_) (fun _=>?_)))
         all_goals (conv=>whnf)
         all_goals try (exfalso;first | exact absurd (hlg.symm.trans (show (gH L i).1 = true by assumption)) (by decide) | exact absurd (hlg.symm.trans (show (gH L i).1 = false by assumption)) (by decide))
         all_goals first
          | (rw [e1];exact VLe.rfl)
          | (exfalso;dsimp only at *;omega)
       . have e1:heldL R M e false (L.drop (i + 1)) = heldL R M e false L:=by rw [← hE,hlg];simp [hcond]
         repeat' ((conv=>whnf);first | (refine Br.dec ?_ ?_ <;> intro _ <;> try omega) | (refine Ar.i64 (by omega) (by omega) ?_) | (refine Ix.nat (by omega) ?_) | (refine Br.any (fun _=>?_) (fun _=>?_)))
         all_goals (conv=>whnf)
         all_goals try (exfalso;first | exact absurd (hlg.symm.trans (show (gH L i).1 = true by assumption)) (by decide) | exact absurd (hlg.symm.trans (show (gH L i).1 = false by assumption)) (by decide))
         all_goals first
          | (exfalso;dsimp only at *;omega)
          | (refine ⟨L.length - (i + 1),(i + 1,false),by omega,⟨rfl,by simp only;omega,e1⟩,?_⟩
             exact weak_b (fun _ _=>[(0,some 0)]))
 . have ei:i = L.length:=by omega
   subst ei;rw [List.drop_of_length_le (Nat.le_refl _)] at hE;cases r <;> cases e
   all_goals
    repeat' ((conv=>whnf);first | (refine Br.dec ?_ ?_ <;> intro _ <;> try omega))
    all_goals (conv=>whnf)
    rw [← hE];exact VLe.rfl
end Go.Proofs.YtkimongfladmfaaGreatDoor
namespace Go.Proofs.YtkimongfladmfaaGreatDoor
open Go.Eng Go.ChangeShapes Go.WideShapes Go.ChangeAt Go.WideMaps Go.WideElems Go.RowKit
set_option maxRecDepth 100000
set_option linter.unusedVariables false
theorem ownk:ownKnob Tryz.prog.godebug = none:=by kernel_rfl
theorem laidB:laidOutB Tryz.prog = true:=by kernel_rfl
theorem cells3:Tryz.prog.cellsOf 3 = 1:=by kernel_rfl
theorem cells5:Tryz.prog.cellsOf 5 = 1:=by kernel_rfl
theorem cells45:Tryz.prog.cellsOf 45 = 1:=by kernel_rfl
theorem cells4:Tryz.prog.cellsOf 4 = 1:=by kernel_rfl
theorem cells22:Tryz.prog.cellsOf 22 = 1:=by kernel_rfl
theorem cells225:Tryz.prog.cellsOf 225 = 32:=by kernel_rfl
theorem cells24:Tryz.prog.cellsOf 24 = 6:=by kernel_rfl
theorem read22:Tryz.prog.readableRec 22 = true:=by kernel_rfl
theorem size22:22 < Tryz.prog.types.size:=of_decide_eq_true (by kernel_rfl)
theorem stand22:Tryz.prog.wantsStandIn 22 = false:=by kernel_rfl
theorem read25:Tryz.prog.readableRec 25 = true:=by kernel_rfl
theorem size25:25 < Tryz.prog.types.size:=of_decide_eq_true (by kernel_rfl)
theorem stand25:Tryz.prog.wantsStandIn 25 = false:=by kernel_rfl
theorem read24:Tryz.prog.readableRec 24 = true:=by kernel_rfl
theorem size24:24 < Tryz.prog.types.size:=of_decide_eq_true (by kernel_rfl)
theorem stand24:Tryz.prog.wantsStandIn 24 = false:=by kernel_rfl
theorem gTab:Tryz.prog.globalNamed "math/bits.deBruijn32tab" = some 0:=by kernel_rfl
theorem tTab:(Tryz.prog.globals[0]?).map (·.type) = some 225:=by kernel_rfl
abbrev laidL:List (String × DataW Unit):=[("math/bits.deBruijn32tab",Rows.laid_math_bits_deBruijn32tab)]
theorem door_met (os:Os) (args:Array Value):laidMetH Tryz.prog laidL ((World.doorLaid Tryz.prog 400 os).forCall (fun _ _=>0) ⟨#[],args,[]⟩).memory :=
 laidMetH_of_parts3 (fuel:=8) (laidMet_of_run' 8 (by kernel_rfl) (by kernel_rfl)) (by kernel_rfl) (by kernel_rfl)
theorem of_laid {W:World} (h:laidMetH Tryz.prog laidL W):Den (fun _=>False) W Sg.none (.fe 32 1 tzF 0 0) (.pointer (some ⟨0,0,none⟩)):=by
 rw [MakeChecks.laidMetH_plain _ _ _ (by kernel_rfl)] at h;obtain ⟨ps,⟨g0,t0,cs0,f0,p0,q0,hg0,ht0,hv0,hd0,_⟩,_,_⟩:=h;obtain rfl:=Option.some.inj (gTab.symm.trans hg0);obtain rfl:=Option.some.inj (tTab.symm.trans ht0);obtain ⟨xs,m1,rfl,hx1,hlen,hn,hel⟩:=DataW.trod_array Tryz.underlying225 hd0;simp only [Prod.mk.injEq] at hx1;have hxs:xs.map (·.1) = tzL.map fun n=>(DataW.lit (.int .u8 n):DataW Unit):=by
  have:=hx1.1;rw [Rows.laid_math_bits_deBruijn32tab] at this;have h2:=DataW.agg.inj this;exact h2.symm
 have key:∀ i,i < 32→W.cell? ⟨0,i,none⟩ = some (.int .u8 (tzL.getD i 0)):=by
  intro i hi;have h0:=hel i hi;rw [cells5,Nat.mul_one] at h0;have hxi:xs[i]?.map (·.1) = some (.lit (.int .u8 (tzL.getD i 0))):=by
   rw [← List.getElem?_map,hxs,List.getElem?_map,List.getElem?_eq_getElem (show i < tzL.length from hi)];simp only [Option.map_some,List.getD,List.getElem?_eq_getElem (show i < tzL.length from hi),Option.getD_some]
  cases hx:xs[i]? with
  | none=>rw [hx] at hxi;cases hxi
  | some x =>
    rw [hx] at h0 hxi;obtain ⟨k,e1,e2,_⟩:=DataW.trod_int Tryz.underlying5 h0;rw [e2] at hxi;simp only [Option.map_some,Option.some.injEq] at hxi;have hk:k = tzL.getD i 0:=by
     have:=DataW.lit.inj hxi;exact (Lit.int.inj this).2
    have hc:=World.var?_cell hg0 hv0 i;rw [hc];have hl:i < cs0.toList.length:=by rw [hlen,cells225];exact hi
    have h3:cs0.toList[i]? = some (.int .u8 k):=by
     have:=congrArg (·[0]?) e1;simpa [List.getElem?_take,List.getElem?_drop] using this
    rw [← hk];simpa using h3
 have hb:0 < W.heap.size:=by
  have:=key 0 (by decide);unfold World.cell? at this;split at this
  . rename_i h;exact lt_of_getElem? h
  . cases this
 exact .fe _ _ _ _ _ _ _ _ (fun i _=>.int .u8 (tzL.getD i 0)) (by decide) (fun h=>h) hb
  (fun i j hi hj=>by (obtain rfl:j = 0:=by omega);simpa using key i hi) (fun i j hi hj=>rfl) (fun i j hi hj=>.int _ _ _)
theorem max_le {n:Nat} (h:n≤maxLen):n≤9223372036854775807:=h
section
variable {H:Type} {enc:TypeId × Value→H} {W:World} {sp:Nat→Bool} {hd:Bool}
theorem den_net {v:Value} {d:DataW H} {ps:List MemPlace} (hv:∃ cs,v = .agg cs) (h:DataW.Trod enc Tryz.prog W 0 sp hd 24 v d ps):∃ x:Net,x.Small∧Den (fun _=>False) W Sg.none x.v v:=by
 obtain ⟨arr,rfl⟩:=hv;obtain ⟨fuel,h⟩:=h;obtain ⟨hl,n,hf⟩:=trod_struct_inv Tryz.underlying24 h;simp only [Value.cells] at hl hf;generalize hcs:arr.toList = cs at hl hf;rw [cells24] at hl;obtain ⟨x0,y0⟩:=hf 0 _ rfl;obtain ⟨x1,y1⟩:=hf 1 _ rfl;obtain ⟨x2,y2⟩:=hf 2 _ rfl;obtain ⟨x3,y3⟩:=hf 3 _ rfl;obtain ⟨x4,y4⟩:=hf 4 _ rfl;obtain ⟨x5,y5⟩:=hf 5 _ rfl;simp only [cells3,cells22,cells4] at y0 y1 y2 y3 y4 y5;obtain ⟨n0,e0,_⟩:=trod_int_inv Tryz.underlying3 y0;obtain ⟨u1,l1,e1,_,d1,m1,_⟩:=den_ints Sg.none Tryz.underlying22 Tryz.underlying3 cells3 y1;obtain ⟨u2,l2,e2,_,d2,m2,_⟩:=den_ints Sg.none Tryz.underlying22 Tryz.underlying3 cells3 y2;obtain ⟨u3,l3,e3,_,d3,m3,_⟩:=den_ints Sg.none Tryz.underlying22 Tryz.underlying3 cells3 y3;obtain ⟨b4,e4⟩:=trod_bool_inv Tryz.underlying4 y4;obtain ⟨b5,e5⟩:=trod_bool_inv Tryz.underlying4 y5
 match cs,hl with
 | [c0,c1,c2,c3,c4,c5],_ =>
   simp at e0 e1 e2 e3 e4 e5;subst e0 e1 e2 e3 e4 e5;refine ⟨⟨n0,l1,l2,l3,b4,b5⟩,⟨max_le m1,max_le m2,max_le m3⟩,?_⟩;have:arr = [.int .i64 n0,c1,c2,c3,.bool b4,.bool b5].toArray:=by rw [← hcs]
   rw [this];refine .agg _ _ _ rfl ?_;intro i v u hv hu
   match i,hv,hu with
   | 0,hv,hu=>simp at hv hu;subst hv hu;exact .int _ _ _
   | 1,hv,hu=>simp at hv hu;subst hv hu;exact d1
   | 2,hv,hu=>simp at hv hu;subst hv hu;exact d2
   | 3,hv,hu=>simp at hv hu;subst hv hu;exact d3
   | 4,hv,hu=>simp at hv hu;subst hv hu;exact .bool _ _
   | 5,hv,hu=>simp at hv hu;subst hv hu;exact .bool _ _
   | i + 6,hv,hu=>simp at hv
theorem den_raw {v:Value} {d:DataW H} {ps:List MemPlace} (hv:v.cells = #[v]) (h:DataW.Trod enc Tryz.prog W 0 sp hd 22 v d ps):∃ l:List Int,l.length≤9223372036854775807∧Den (fun _=>False) W Sg.none (.fz l.length 1 false (vI l)) v:=by
 obtain ⟨fuel,h⟩:=h;rw [hv] at h;obtain ⟨u1,l1,e1,_,d1,m1,_⟩:=den_ints Sg.none Tryz.underlying22 Tryz.underlying3 cells3 h;simp at e1;subst e1;exact ⟨l1,max_le m1,d1⟩
theorem den_us {v:Value} {d:DataW H} {ps:List MemPlace} (hv:v.cells = #[v]) (h:DataW.Trod enc Tryz.prog W 0 sp hd 25 v d ps):∃ l:List Int,l.length≤9223372036854775807∧Den (fun _=>False) W Sg.none (.fz l.length 1 false (vUI l)) v:=by
 obtain ⟨fuel,h⟩:=h;rw [hv] at h;obtain ⟨u1,l1,e1,_,d1,m1,_⟩:=den_ints Sg.none Tryz.underlying25 Tryz.underlying45 cells45 h;simp at e1;subst e1;exact ⟨l1,max_le m1,d1⟩
end
theorem aggN_of_ok {W:World} {base:Nat} {v:Value} (h:Value.okWide Tryz.prog W .any base 24 v):∃ cs,v = .agg cs:=by
 unfold Value.okWide at h;rw [Tryz.underlying24] at h;obtain ⟨cs,h,_⟩:=h;exact ⟨cs,h⟩
theorem sliceI_of_ok {W:World} {base:Nat} {v:Value} (h:Value.okWide Tryz.prog W .any base 22 v):v.cells = #[v]:=by
 unfold Value.okWide at h;rw [Tryz.underlying22] at h;unfold Cell.okWide at h;rw [Tryz.underlying22] at h;cases v <;> first | rfl | (simp [Cell.ok,Tryz.underlying22] at h)
theorem sliceU_of_ok {W:World} {base:Nat} {v:Value} (h:Value.okWide Tryz.prog W .any base 25 v):v.cells = #[v]:=by
 unfold Value.okWide at h;rw [Tryz.underlying25] at h;unfold Cell.okWide at h;rw [Tryz.underlying25] at h;cases v <;> first | rfl | (simp [Cell.ok,Tryz.underlying25] at h)
end Go.Proofs.YtkimongfladmfaaGreatDoor
namespace Go.Plain
abbrev St:=Nat→Bool
structure Adj (n:Nat) (a:Nat→Nat→Bool):Prop where
 sym:∀ u v,u < n→v < n→a u v = true→a v u = true
 irr:∀ v,v < n→a v v = false
 rng:∀ u v,u < n→a u v = true→v < n
def nbM (n:Nat) (a:Nat→Nat→Bool) (m:St) (v:Nat):Bool:=(List.range n).any fun u=>a v u && m u
theorem nbM_iff {n:Nat} {a:Nat→Nat→Bool} {m:St} {v:Nat}:nbM n a m v = true↔∃ u,u < n∧a v u = true∧m u = true:=by
 simp only [nbM,List.any_eq_true,List.mem_range,Bool.and_eq_true]
def enI (n:Nat) (a:Nat→Nat→Bool) (m:St) (v:Nat):Bool:=match m v with | true=>nbM n a m v | false=>!nbM n a m v
def cfl (n:Nat) (a:Nat→Nat→Bool) (m:St) (v:Nat):Bool:=m v && nbM n a m v
def stI (s m:St):St:=fun v=>match s v with | true=>!m v | false=>m v
structure Chs (n:Nat) (a:Nat→Nat→Bool) (m s:St):Prop where
 en:∀ v,s v = true→v < n∧enI n a m v = true
 ind:∀ u v,s u = true→s v = true→a u v = false
variable {n:Nat} {a:Nat→Nat→Bool} {m s:St}
theorem enter_free (ha:Adj n a) (hc:Chs n a m s) {v:Nat} (hs:s v = true) (hm:m v = false):stI s m v = true∧nbM n a (stI s m) v = false:=by
 obtain ⟨hv,he⟩:=hc.en v hs;refine ⟨by simp [stI,hs,hm],?_⟩;rw [Bool.eq_false_iff];intro h;obtain ⟨u,hu,h1,h2⟩:=nbM_iff.1 h;have hsu:s u = false:=by
  cases e:s u with
  | false=>rfl
  | true=>have:=hc.ind v u hs e;rw [h1] at this;cases this
 simp only [stI,hsu] at h2;simp only [enI,hm,Bool.not_eq_true'] at he;rw [nbM_iff.2 ⟨u,hu,h1,h2⟩] at he;cases he
theorem cfl_back (ha:Adj n a) (hc:Chs n a m s) {v:Nat} (hv:v < n) (h:cfl n a (stI s m) v = true):cfl n a m v = true∧s v = false:=by
 simp only [cfl,Bool.and_eq_true] at h;have hold:∀ w,w < n→stI s m w = true→nbM n a (stI s m) w = true→m w = true∧s w = false:=fun w hw h1 h2=>by
  cases e:s w with
  | true =>
    cases em:m w with
    | false=>rw [(enter_free ha hc e em).2] at h2;cases h2
    | true=>simp [stI,e,em] at h1
  | false =>
    simp only [stI,e] at h1;exact ⟨h1,rfl⟩
 obtain ⟨h1,h2⟩:=h;obtain ⟨u,hu,h3,h4⟩:=nbM_iff.1 h2;have hb:=hold v hv h1 h2;have hb2:=hold u hu h4 (nbM_iff.2 ⟨v,hv,ha.sym v u hv hu h3,h1⟩);exact ⟨by simp only [cfl,Bool.and_eq_true];exact ⟨hb.1,nbM_iff.2 ⟨u,hu,h3,hb2.1⟩⟩,hb.2⟩
theorem cfl_en {v:Nat} (h:cfl n a m v = true):enI n a m v = true:=by
 simp only [cfl,Bool.and_eq_true] at h;simp only [enI,h.1,h.2]
theorem stay (hn:∀ v,v < n→cfl n a m v = false) (hc:Chs n a m s) {v:Nat} (hv:v < n) (hm:m v = true):stI s m v = true:=by
 cases e:s v with
 | false=>simp [stI,e,hm]
 | true =>
   obtain ⟨_,he⟩:=hc.en v e;simp only [enI,hm] at he;have:=hn v hv;simp [cfl,hm,he] at this
theorem en_back (hn:∀ v,v < n→cfl n a m v = false) (hn2:∀ v,v < n→cfl n a (stI s m) v = false) (hc:Chs n a m s) {v:Nat} (hv:v < n) (h:enI n a (stI s m) v = true):enI n a m v = true∧s v = false:=by
 have hm':stI s m v = false:=by
  cases e:stI s m v with
  | false=>rfl
  | true =>
    simp only [enI,e] at h;have:=hn2 v hv;simp [cfl,e,h] at this
 have hm:m v = false:=by
  cases e:m v with
  | false=>rfl
  | true=>rw [stay hn hc hv e] at hm';cases hm'
 have hs:s v = false:=by
  cases e:s v with
  | false=>rfl
  | true=>simp [stI,e,hm] at hm'
 refine ⟨?_,hs⟩;simp only [enI,hm',Bool.not_eq_true'] at h;simp only [enI,hm,Bool.not_eq_true'];rw [Bool.eq_false_iff] at h ⊢;intro hb;obtain ⟨u,hu,h3,h4⟩:=nbM_iff.1 hb;exact h (nbM_iff.2 ⟨u,hu,h3,stay hn hc hu h4⟩)
structure IInv (n:Nat) (a:Nat→Nat→Bool) (m p:St) (r:Nat):Prop where
 r0:r = 0→∀ v,v < n→cfl n a m v = true→p v = true
 r1:1≤r→∀ v,v < n→cfl n a m v = false
 r2:r = 1→∀ v,v < n→enI n a m v = true→p v = true
 r3:2≤r→∀ v,v < n→enI n a m v = false
def left (n:Nat) (a:Nat→Nat→Bool) (m p s:St):St:=fun v=>p v && !s v && enI n a (stI s m) v
theorem IInv.start:IInv n a m (enI n a m) 0:=⟨fun _ v _ h=>cfl_en h,fun h=>by omega,fun h=>by omega,fun h=>by omega⟩
theorem IInv.same (ha:Adj n a) (hc:Chs n a m s) {p:St} {r:Nat} (h:IInv n a m p r) (hr:r≤1):IInv n a (stI s m) (left n a m p s) r:=by
 refine ⟨fun e v hv hf=>?_,fun e v hv=>?_,fun e v hv he=>?_,fun e=>by omega⟩
 . obtain ⟨h1,h2⟩:=cfl_back ha hc hv hf;simp [left,h.r0 e v hv h1,h2,cfl_en hf]
 . cases hf:cfl n a (stI s m) v with
   | false=>rfl
   | true=>have:=h.r1 e v hv;rw [(cfl_back ha hc hv hf).1] at this;cases this
 . have hn2:∀ v,v < n→cfl n a (stI s m) v = false:=fun v hv=>by
    cases hf:cfl n a (stI s m) v with
    | false=>rfl
    | true=>have:=h.r1 (by omega) v hv;rw [(cfl_back ha hc hv hf).1] at this;cases this
   obtain ⟨h1,h2⟩:=en_back (h.r1 (by omega)) hn2 hc hv he;simp [left,h.r2 e v hv h1,h2,he]
theorem IInv.next (ha:Adj n a) (hc:Chs n a m s) {p:St} {r:Nat} (h:IInv n a m p r) (hr:r≤1) (h0:∀ v,v < n→left n a m p s v = false):IInv n a (stI s m) (enI n a (stI s m)) (r + 1):=by
 have hs:=h.same ha hc hr;refine ⟨fun e=>by omega,fun _ v hv=>?_,fun _ v hv he=>he,fun e v hv=>?_⟩
 . cases hf:cfl n a (stI s m) v with
   | false=>rfl
   | true =>
     rcases (show r = 0∨1≤r by omega) with e | e
     . have:=hs.r0 e v hv hf;rw [h0 v hv] at this;cases this
     . rw [hs.r1 e v hv] at hf;cases hf
 . cases he:enI n a (stI s m) v with
   | false=>rfl
   | true=>have:=hs.r2 (by omega) v hv he;rw [h0 v hv] at this;cases this
def phi (n:Nat) (a:Nat→Nat→Bool) (m:St) (v:Nat):Nat:=match m v with | true=>(match nbM n a m v with | true=>2 | false=>0) | false=>1
def sumN (f:Nat→Nat):Nat→Nat
 | 0=>0
 | k + 1=>sumN f k + f k
theorem sumN_le {f g:Nat→Nat}:∀ {k:Nat},(∀ v,v < k→f v≤g v)→sumN f k≤sumN g k
 | 0,_=>Nat.le_refl _
 | k + 1,h=>by have:=sumN_le (k:=k) fun v hv=>h v (by omega);have:=h k (by omega);simp only [sumN];omega
theorem sumN_add (f g:Nat→Nat):∀ k,sumN (fun v=>f v + g v) k = sumN f k + sumN g k
 | 0=>rfl
 | k + 1=>by simp only [sumN,sumN_add f g k];omega
theorem phi_step (ha:Adj n a) (hc:Chs n a m s) {v:Nat} (hv:v < n):phi n a (stI s m) v + (if s v then 1 else 0)≤phi n a m v:=by
 cases hs:s v with
 | true =>
   cases hm:m v with
   | false =>
     obtain ⟨h1,h2⟩:=enter_free ha hc hs hm;simp [phi,h1,h2,hm]
   | true =>
     obtain ⟨_,he⟩:=hc.en v hs;simp only [enI,hm] at he;have h1:stI s m v = false:=by simp [stI,hs,hm]
     simp [phi,h1,hm,he]
 | false =>
   cases hm:m v with
   | false =>
     have h1:stI s m v = false:=by simp [stI,hs,hm]
     simp [phi,h1,hm]
   | true =>
     have h1:stI s m v = true:=by simp [stI,hs,hm]
     cases hb:nbM n a (stI s m) v with
     | false=>simp [phi,h1,hb]
     | true =>
       have hcf:cfl n a (stI s m) v = true:=by simp [cfl,h1,hb]
       have:=(cfl_back ha hc hv hcf).1;simp only [cfl,Bool.and_eq_true] at this;simp [phi,h1,hb,hm,this.2]
def cntS (s:St) (k:Nat):Nat:=sumN (fun v=>if s v then 1 else 0) k
end Go.Plain
namespace Go.Proofs.YtkimongfladmfaaGreatDoor
open Go.Eng
set_option maxRecDepth 100000
set_option linter.unusedVariables false
def mT:Tm:=.leaf 5 0
def smT:Tm:=.agg 21 (.leaf 12 0)
def pInd:Pr:=⟨ByteArray.mk #[105,110,100,101,112,101,110,100,101,110,116],vM,[⟨ByteArray.mk #[108,101,97,118,101],.bin 41 mT smT,[(0,.leaf 3 0)]⟩,
 ⟨ByteArray.mk #[101,110,116,101,114],.bin 41 (.un 19 mT) (.un 19 smT),[(0,.leaf 2 0)]⟩]⟩
theorem itru_ne (b:Bool):(truI b≠0)↔b = true:=by cases b <;> simp [truI]
theorem itru_eq0 (b:Bool):(truI b = 0)↔b = false:=by cases b <;> simp [truI]
abbrev adN (g:G):Nat→Nat→Bool:=adj g
theorem adj_adj {g:G} (hg:g.valid = true):Go.Plain.Adj g.ids.length (adN g):=by
 obtain ⟨f1,f2,f3,f4,f5,f6,f7⟩:=val_facts hg;refine ⟨fun u v hu hv h=>adj_sym hg (by omega) h,fun v hv=>adj_irr hg (by omega),fun u v hu h=>?_⟩;obtain ⟨l,hl,e⟩:=adj_iff.1 h;have:=(okR_iff.1 (f6 u (by omega))).1 l hl;omega
def isBool (c:Cf) (n x:Nat):Prop:=∀ v,v < n→gI (gC c v) x = 0∨gI (gC c v) x = 1
theorem one_tru {c:Cf} {n x:Nat} (h:isBool c n x) {v:Nat} (hv:v < n):gI (gC c v) x = truI (one c x v):=by
 rcases h v hv with e | e <;> simp [one,e,truI]
theorem cnt_pos_iff (l:List Int):0 < cntI l↔∃ a∈l,a≠0:=by
 rw [cntI,List.countP_pos_iff];simp only [decide_eq_true_eq]
theorem gF_of_mem {l:List (Int × Int)} {a:Int × Int} (h:a∈l):∃ i,i < l.length∧gF l i = a:=by
 obtain ⟨i,hi,e⟩:=List.mem_iff_getElem.1 h;exact ⟨i,hi,by simp [gF,List.getD,hi,e]⟩
theorem some_sem {g:G} (hg:g.valid = true) {c:Cf} (x:Nat) (hb:isBool c g.ids.length x) {v:Nat} (hv:v < g.ids.length) (port:Int) :
 (Tm.agg 21 (.leaf 12 x)).sem g c v port = truI (Go.Plain.nbM g.ids.length (adN g) (one c x) v):=by
 obtain ⟨f1,f2,f3,f4,f5,f6,f7⟩:=val_facts hg;have hok:=(okR_iff.1 (f6 v (by omega))).1;show truI (decide (0 < cntI ((List.range (gR g.ports v).length).map fun (i:Nat)=>gI (gC c (nbV g v i)) x))) = _;congr 1;rw [Bool.eq_iff_iff,decide_eq_true_eq,cnt_pos_iff,Go.Plain.nbM_iff];constructor
 . rintro ⟨a,ha,h0⟩;obtain ⟨i,hi,rfl⟩:=List.mem_map.1 ha;rw [List.mem_range] at hi;have hm:=gF_mem hi;have:=hok _ hm;refine ⟨nbV g v i,by simp only [nbV,Int.toNat_natCast];omega,adj_iff.2 ⟨_,hm,by simp [nbV]⟩,?_⟩;rw [one,decide_eq_true_eq];rcases hb (nbV g v i) (by simp only [nbV,Int.toNat_natCast];omega) with e | e
   . exact (h0 e).elim
   . exact e
 . rintro ⟨u,hu,h1,h2⟩;obtain ⟨l,hl,e⟩:=adj_iff.1 h1;obtain ⟨i,hi,e2⟩:=gF_of_mem hl;refine ⟨_,List.mem_map.2 ⟨i,List.mem_range.2 hi,rfl⟩,?_⟩;rw [one,decide_eq_true_eq] at h2;have:nbV g v i = u:=by simp only [nbV,Int.toNat_natCast];rw [e2];exact e
   rw [this,h2];decide
theorem ind_gds {g:G} (hg:g.valid = true) {c:Cf} (hb:isBool c g.ids.length 0) {v:Nat} (hv:v < g.ids.length) :
 gds pInd g c v = [truI (one c 0 v && Go.Plain.nbM g.ids.length (adN g) (one c 0) v),truI (!one c 0 v && !Go.Plain.nbM g.ids.length (adN g) (one c 0) v)]:=by
 have e0:mT.sem g c v (-1) = truI (one c 0 v):=one_tru hb hv;have es:smT.sem g c v (-1) = truI (Go.Plain.nbM g.ids.length (adN g) (one c 0) v):=some_sem hg 0 hb hv (-1);have e1:(Tm.bin 41 mT smT).sem g c v (-1) = truI (one c 0 v && Go.Plain.nbM g.ids.length (adN g) (one c 0) v):=by
  show truI (decide (mT.sem g c v (-1)≠0∧smT.sem g c v (-1)≠0)) = _;rw [e0,es];congr 1;simp only [itru_ne,Bool.decide_and,Bool.decide_eq_true]
 have e2:(Tm.bin 41 (.un 19 mT) (.un 19 smT)).sem g c v (-1) = truI (!one c 0 v && !Go.Plain.nbM g.ids.length (adN g) (one c 0) v):=by
  show truI (decide (truI (decide (mT.sem g c v (-1) = 0))≠0∧truI (decide (smT.sem g c v (-1) = 0))≠0)) = _;rw [e0,es];congr 1;simp only [itru_ne,itru_eq0,decide_eq_true_eq];cases one c 0 v <;> cases Go.Plain.nbM g.ids.length (adN g) (one c 0) v <;> rfl
 exact congr (congrArg List.cons e1) (congrArg (fun x=>[x]) e2)
theorem nbr_nbM {g:G} (hg:g.valid = true) (m:Nat→Bool) {v:Nat} (hv:v < g.ids.length):nbr g (nb m g.ports.length) v = Go.Plain.nbM g.ids.length (adN g) m v:=by
 obtain ⟨f1,f2,f3,f4,f5,f6,f7⟩:=val_facts hg;have hok:=(okR_iff.1 (f6 v (by omega))).1;rw [Bool.eq_iff_iff,nbr,nbrR,List.any_eq_true,Go.Plain.nbM_iff];constructor
 . rintro ⟨l,hl,h⟩;rw [nb_bit,Bool.and_eq_true,decide_eq_true_eq] at h;exact ⟨l.1.toNat,by omega,adj_iff.2 ⟨l,hl,rfl⟩,h.2⟩
 . rintro ⟨u,hu,h1,h2⟩;obtain ⟨l,hl,e⟩:=adj_iff.1 h1;exact ⟨l,hl,by rw [nb_bit,e,h2];simp;omega⟩
theorem nbM_ext {n:Nat} {a:Nat→Nat→Bool} {m m':Go.Plain.St} (h:∀ v,v < n→m v = m' v) (v:Nat):Go.Plain.nbM n a m v = Go.Plain.nbM n a m' v:=by
 rw [Bool.eq_iff_iff,Go.Plain.nbM_iff,Go.Plain.nbM_iff];constructor <;> rintro ⟨u,hu,h1,h2⟩
 . exact ⟨u,hu,h1,by rw [← h u hu];exact h2⟩
 . exact ⟨u,hu,h1,by rw [h u hu];exact h2⟩
theorem cfl_ext {n:Nat} {a:Nat→Nat→Bool} {m m':Go.Plain.St} (h:∀ v,v < n→m v = m' v) {v:Nat} (hv:v < n):Go.Plain.cfl n a m v = Go.Plain.cfl n a m' v:=by
 rw [Go.Plain.cfl,Go.Plain.cfl,h v hv,nbM_ext h]
theorem enI_ext {n:Nat} {a:Nat→Nat→Bool} {m m':Go.Plain.St} (h:∀ v,v < n→m v = m' v) {v:Nat} (hv:v < n):Go.Plain.enI n a m v = Go.Plain.enI n a m' v:=by
 rw [Go.Plain.enI,Go.Plain.enI,h v hv,nbM_ext h]
theorem phi_ext {n:Nat} {a:Nat→Nat→Bool} {m m':Go.Plain.St} (h:∀ v,v < n→m v = m' v) {v:Nat} (hv:v < n):Go.Plain.phi n a m v = Go.Plain.phi n a m' v:=by
 rw [Go.Plain.phi,Go.Plain.phi,h v hv,nbM_ext h]
theorem pl_sum_ext {f g:Nat→Nat}:∀ {n:Nat},(∀ v,v < n→f v = g v)→Go.Plain.sumN f n = Go.Plain.sumN g n
 | 0,_=>rfl
 | n + 1,h=>by rw [Go.Plain.sumN,Go.Plain.sumN,pl_sum_ext (fun v hv=>h v (by omega)),h n (by omega)]
theorem cnt_sumI (s:Nat):∀ n,cnt s n = Go.Plain.sumN (fun v=>if s.testBit v = true then 1 else 0) n
 | 0=>rfl
 | n + 1=>by
   rw [cnt,Go.Plain.sumN,← cnt_sumI s n];cases s.testBit n <;> simp
theorem icnt_cut {s n:Nat} (hs:s < 2 ^ n):∀ k,cnt s (n + k) = cnt s n
 | 0=>rfl
 | k + 1=>by
   rw [← Nat.add_assoc,cnt,icnt_cut hs k];have:s.testBit (n + k) = false:=Nat.testBit_lt_two_pow (Nat.lt_of_lt_of_le hs (Nat.pow_le_pow_right (by omega) (by omega)));rw [this];simp
theorem ipart_lt {s n:Nat} {p:Nat→Bool} (h:Part s (nb p n)):s < 2 ^ n:=by
 apply Nat.lt_of_not_le;intro hge;obtain ⟨i,hi1,hi2⟩:=Nat.exists_ge_and_testBit_of_ge_two_pow (n:=n) hge;have:=h i hi2;rw [nb_bit,Bool.and_eq_true,decide_eq_true_eq] at this;omega
end Go.Proofs.YtkimongfladmfaaGreatDoor
namespace Go.Proofs.YtkimongfladmfaaGreatDoor
open Go.Eng
set_option maxRecDepth 100000
set_option linter.unusedVariables false
def l01:List Int:=[0,1]
def netL (n:Int) (l:List Int):V:=.agg [.int .i64 n,.fz l.length 1 false (vI l),.nilslice,.nilslice,.bool false,.bool false]
def t3:G:=⟨[0,1,2],[[(1,1)],[(0,1),(2,1)],[(1,1)]]⟩
theorem at01_0:Ret Tryz.prog 37 [.fz 2 1 false (vI l01),.int .i64 0] (.int .i64 0):=at_ok l01 (by decide) 0
theorem at01_1:Ret Tryz.prog 37 [.fz 2 1 false (vI l01),.int .i64 1] (.int .i64 1):=at_ok l01 (by decide) 1
theorem w_0_1:Ret Tryz.prog 36 [.int .i64 0,.int .i64 1] (.int .i64 0):=within_ok 0 1 (by decide)
theorem w_1_2:Ret Tryz.prog 36 [.int .i64 1,.int .i64 2] (.int .i64 1):=within_ok 1 2 (by decide)
set_option maxHeartbeats 4000000 in
theorem tree3:Ret Tryz.prog 54 [netL 3 l01,.int .i64 3] t3.v:=by
 refine ret_frz2 rfl ?_;refine fn_rule mixed Tryz.func54 rfl hc54 hr54 rfl ?_
 repeat' ((conv=>whnf);first | (refine MkS.cells ?_) | (refine Bd.mk 3 (by decide) (by omega) ?_) | (refine Sv.mk 1 (by decide) ?_) | (refine Sv.mk 2 (by decide) ?_) | (refine Br.tt ?_) | (refine Br.ff ?_) | (refine Ar.i64 (by omega) (by omega) ?_) | (refine Nz.mk (by omega) ?_) | (refine Ix.mk 0 rfl (by omega) ?_) | (refine Ix.mk 1 rfl (by omega) ?_) | (refine Ix.int (by omega) (by omega) ?_) | (refine Len.mk (by omega) ?_) | (refine Ltn.mk (by omega) ?_) | (refine And.intro rfl ?_) | (refine fn_rule mixed Tryz.func35 rfl hc35 hr35 rfl ?_) | (refine fn_rule mixed Tryz.func72 rfl hc72 hr72 rfl ?_) | (refine fn_rule mixed Tryz.func102 rfl hc102 hr102 rfl ?_) | (refine w_2_3.go ?_) | (refine w_0_256.go ?_) | (refine w_0_15.go ?_) | (refine w_0_1.go ?_) | (refine w_1_2.go ?_) | (refine at01_0.go ?_) | (refine at01_1.go ?_) | (refine loop_fuel mixed 20 ?_) | (refine call_frz [] (at_nil 0) ⟨VLe.nilfz rfl,VLe.int (by omega),True.intro⟩ ?_) | (refine call_frz [] (at_nil 1) ⟨VLe.nilfz rfl,VLe.int (by omega),True.intro⟩ ?_) | (refine call_frz [] (at_nil 2) ⟨VLe.nilfz rfl,VLe.int (by omega),True.intro⟩ ?_))
 all_goals (conv=>whnf)
 refine VLe.agg ⟨VLe.fz rfl (fun h=>h) (fun i j hi hj=>?_),VLe.fz rfl (fun h=>h) (fun i j hi hj=>?_),True.intro⟩
 . rcases i with _ | _ | _ | i
   all_goals first | (exfalso;omega) | (rcases j with _ | j;exact VLe.rfl;exfalso;omega)
 . rcases i with _ | _ | _ | i
   all_goals first | (exfalso;omega) | skip
   all_goals
    obtain rfl:j = 0:=by omega
    conv=>arg 1;whnf
    conv=>arg 2;whnf
    refine VLe.fz rfl (fun h=>h) (fun i j hi hj=>?_);rcases i with _ | _ | i
    all_goals first | (exfalso;omega) | (rcases j with _ | _ | j;exact VLe.rfl;exact VLe.rfl;exfalso;omega)
theorem t3_small:t3.Small:=⟨by decide,by decide,by decide⟩
theorem two_le (a b:Int) (f:Nat→Nat→V) (h0:f 0 0 = .int .i64 a) (h1:f 1 0 = .int .i64 b):∀ i j:Nat,i < 2→j < 1→VLe (f i j) (vI [a,b] i j):=by
 intro i j hi hj;have e':j = 0:=by omega
 subst e';rcases i with _ | _ | i
 . rw [h0];exact VLe.rfl
 . rw [h1];exact VLe.rfl
 . exfalso;omega
end Go.Proofs.YtkimongfladmfaaGreatDoor
namespace Go.Proofs.YtkimongfladmfaaGreatDoor
open Go.Eng
set_option maxRecDepth 100000
set_option linter.unusedVariables false
theorem kfit_ok (g:G) (hs:g.Small):Ret Tryz.prog 41 [g.v] (.bool g.valid):=by
 have h:=valid_ok g hs;refine ret_frz rfl ?_;refine fn_rule mixed Tryz.func41 rfl hc41 hr41 rfl ?_
 repeat' ((conv=>whnf);first | (refine h.go ?_) | (refine Br.any (fun _=>?_) (fun _=>?_)))
 all_goals (conv=>whnf)
 all_goals exact VLe.bool (Eq.symm (by assumption))
theorem rkfit_ok (g:G) (hs:g.Small):Ret Tryz.prog 43 [g.v] (.bool g.valid):=by
 have h:=rvalid_ok g hs;refine ret_frz rfl ?_;refine fn_rule mixed Tryz.func43 rfl hc43 hr43 rfl ?_
 repeat' ((conv=>whnf);first | (refine h.go ?_) | (refine Br.any (fun _=>?_) (fun _=>?_)))
 all_goals (conv=>whnf)
 all_goals exact VLe.bool (Eq.symm (by assumption))
def vK:List Vr:=[⟨ByteArray.mk #[109],2,0,0,0,0⟩,⟨ByteArray.mk #[104],3,0,0,0,0⟩]
theorem pointer_ok (s:ByteArray):Ret Tryz.prog 39 [.str s] (.agg [.str s,.int .i64 3,.int .i64 0,.int .i64 0,.int .i64 0,.int .i64 0]):=by
 refine ret_frz rfl ?_;refine fn_rule mixed Tryz.func39 rfl hc39 hr39 rfl ?_
 repeat' ((conv=>whnf);first | fail)
 all_goals (conv=>whnf)
 all_goals exact VLe.rfl
theorem kvars_ok:Ret Tryz.prog 11 [] (.fz vK.length 6 false (vV vK)):=by
 refine ret_frz rfl ?_;refine fn_rule mixed Tryz.func11 rfl hc11 hr11 rfl ?_
 repeat' ((conv=>whnf);first | (refine Len.mk (by omega) ?_) | (refine (truth_ok _).go ?_) | (refine (pointer_ok _).go ?_))
 all_goals (conv=>whnf)
 refine VLe.fz rfl (fun h=>h) (fun i j hi hj=>?_);rcases i with _ | _ | i
 all_goals try (exfalso;omega)
 all_goals
  rcases j with _ | _ | _ | _ | _ | _ | j
  all_goals first | (exfalso;omega) | exact VLe.rfl
theorem vK_ok:VOk vK:=⟨by decide,fun x=>by
 rcases x with _ | _ | x
 . exact ⟨by decide,by decide,by decide,by decide,by decide,by decide⟩
 . exact ⟨by decide,by decide,by decide,by decide,by decide,by decide⟩
 . exact ⟨by simp [gV,vK,default],by simp [gV,vK,default],by simp [gV,vK,default],by simp [gV,vK,default],by simp [gV,vK,default],by simp [gV,vK,default]⟩⟩
def bK (g:G) (v x:Nat):Int × Int:=if x = 0 then (0,1) else (-1,((gR g.ports v).length:Int) - 1)
def G.kconf (g:G) (c:Cf):Bool:=conf g.ids.length 2 (bK g) c
theorem kconf_g (g:G) (c:Cf):conf g.ids.length [(1:Int),-1].length (bG g [1,-1]) c = g.kconf c:=conf_ext (fun v x hv hx=>by
 have e:x = 0∨x = 1:=by simp at hx;omega
 rcases e with rfl | rfl <;> rfl)
theorem kconf_facts {g:G} {c:Cf} (h:g.kconf c = true):c.length = g.ids.length∧∀ v,v < c.length→(gC c v).length = 2∧0≤gI (gC c v) 0∧gI (gC c v) 0≤1∧-1≤gI (gC c v) 1∧gI (gC c v) 1 < (gR g.ports v).length:=by
 have:=conf_iff.1 h;refine ⟨this.1,fun v hv=>?_⟩;have h2:=this.2 v (by omega);have h3:=h2.2 0 (by omega);have h4:=h2.2 1 (by omega);simp only [bK,if_true,Nat.one_ne_zero,if_false] at h3 h4;omega
theorem kconfiguration_ok (g:G) (hs:g.Small) (c:Cf) (hc:CSmall c):Ret Tryz.prog 45 [g.v,cV c] (.bool (g.valid && g.kconf c)):=by
 have hval:=kfit_ok g hs;refine ret_frz rfl ?_;refine fn_rule mixed Tryz.func45 rfl hc45 hr45 rfl ?_;by_cases hg:g.valid = true
 . rw [hg] at hval ⊢;rw [Bool.true_and];obtain ⟨f1,f2,f3,f4,f5,f6,f7⟩:=val_facts hg;have hb:=bconf_ok g hs f3 c hc [1,-1] (by decide);rw [kconf_g] at hb
   repeat' ((conv=>whnf);first | (refine Br.tt ?_) | (refine hval.go ?_) | (refine call_frz [1] hb ⟨by decide,VLe.rfl,VLe.rfl,VLe.fz rfl (fun h=>h) (two_le _ _ _ rfl rfl),True.intro⟩ ?_) | (refine Br.any (fun _=>?_) (fun _=>?_)))
   all_goals (conv=>whnf)
   all_goals exact VLe.bool (Eq.symm (by assumption))
 . simp only [Bool.not_eq_true] at hg;rw [hg] at hval ⊢;rw [Bool.false_and]
   repeat' ((conv=>whnf);first | (refine Br.ff ?_) | (refine hval.go ?_))
   all_goals (conv=>whnf)
   all_goals exact VLe.rfl
def sumR (p:List (List (Int × Int))):Nat→Nat
 | 0=>0
 | v + 1=>sumR p v + (gR p v).length
theorem sumR_le {p:List (List (Int × Int))} (h:∀ v,v < p.length→(gR p v).length≤24):∀ v,v≤p.length→sumR p v≤24 * v
 | 0,_=>by simp [sumR]
 | v + 1,hv=>by have:=sumR_le h v (by omega);have:=h v (by omega);rw [sumR];omega
theorem rows_le {g:G} (hg:g.valid = true):∀ v,v < g.ports.length→(gR g.ports v).length≤24:=by
 obtain ⟨f1,f2,f3,f4,f5,f6,f7⟩:=val_facts hg;intro v hv;have:=okR_len hv (f6 v hv);omega
def G.size (g:G):V:=if g.valid then .tup [.int .i64 g.ids.length,.int .i64 ((sumR g.ports g.ports.length:Int).tdiv 2)] else .tup [.int .i64 0,.int .i64 0]
theorem tdiv_facts {n:Nat} (h:n≤576):0≤(n:Int).tdiv 2∧(n:Int).tdiv 2≤576:=by
 rw [Int.tdiv_eq_ediv_of_nonneg (by omega)];omega
theorem ksize_ok (g:G) (hs:g.Small):Ret Tryz.prog 42 [g.v] g.size:=by
 have hval:=valid_ok g hs;refine ret_frz rfl ?_;refine fn_rule mixed Tryz.func42 rfl hc42 hr42 rfl ?_;rw [G.size];by_cases hg:g.valid = true
 . rw [hg] at hval ⊢;rw [if_pos rfl];obtain ⟨f1,f2,f3,f4,f5,f6,f7⟩:=val_facts hg
   repeat' ((conv=>whnf);first | (refine Br.tt ?_) | (refine hval.go ?_))
   all_goals (conv=>whnf)
   refine loop_r mixed [1,10,11] (fun i:Nat=>[(3,.int .i64 (sumR g.ports i)),(12,.int .i64 i)]) (fun m v=>m = g.ports.length - v∧v≤g.ports.length) g.ports.length 0 ⟨rfl,Nat.zero_le _⟩ ?_ ?_
   . exact weak_b (fun _ _=>[(0,some 0)])
   rintro m v ⟨hm,hv⟩;have hr:=rows_le hg v;have hsl:=sumR_le (rows_le hg) v hv;have ht:=tdiv_facts (n:=sumR g.ports v) (by omega)
   repeat' ((conv=>whnf);first | (refine Br.dec ?_ ?_ <;> intro _ <;> try omega) | (refine Ar.i64 (by omega) (by omega) ?_) | (refine Nz.mk (by omega) ?_) | (refine Ix.nat (by omega) ?_))
   all_goals (conv=>whnf)
   . refine ⟨g.ports.length - (v + 1),v + 1,by omega,⟨rfl,by omega⟩,?_⟩;have hx:sumR g.ports (v + 1) = sumR g.ports v + (gR g.ports v).length:=rfl;exact weak_b (fun _ _=>[(0,some 0)])
   . have e:v = g.ports.length:=by omega
     rw [← e];exact VLe.rfl
 . simp only [Bool.not_eq_true] at hg;rw [hg] at hval ⊢;rw [if_neg (by simp)]
   repeat' ((conv=>whnf);first | (refine Br.ff ?_) | (refine hval.go ?_))
   all_goals (conv=>whnf)
   all_goals exact VLe.rfl
theorem rsize_ok (g:G) (hs:g.Small):Ret Tryz.prog 44 [g.v] g.size:=by
 have hval:=rvalid_ok g hs;refine ret_frz rfl ?_;refine fn_rule mixed Tryz.func44 rfl hc44 hr44 rfl ?_;rw [G.size];by_cases hg:g.valid = true
 . rw [hg] at hval ⊢;rw [if_pos rfl];obtain ⟨f1,f2,f3,f4,f5,f6,f7⟩:=val_facts hg
   repeat' ((conv=>whnf);first | (refine Br.tt ?_) | (refine hval.go ?_))
   all_goals (conv=>whnf)
   refine loop_r mixed [1] (fun i:Nat=>[(4,.int .i64 (sumR g.ports i)),(5,.int .i64 i)]) (fun m v=>m = g.ports.length - v∧v≤g.ports.length) g.ports.length 0 ⟨rfl,Nat.zero_le _⟩ ?_ ?_
   . exact weak_b (fun _ _=>[(0,some 0)])
   rintro m v ⟨hm,hv⟩;have hr:=rows_le hg v;have hsl:=sumR_le (rows_le hg) v hv;have ht:=tdiv_facts (n:=sumR g.ports v) (by omega)
   repeat' ((conv=>whnf);first | (refine Br.dec ?_ ?_ <;> intro _ <;> try omega) | (refine Ar.i64 (by omega) (by omega) ?_) | (refine Nz.mk (by omega) ?_) | (refine Ix.nat (by omega) ?_))
   all_goals (conv=>whnf)
   . refine ⟨g.ports.length - (v + 1),v + 1,by omega,⟨rfl,by omega⟩,?_⟩;have hx:sumR g.ports (v + 1) = sumR g.ports v + (gR g.ports v).length:=rfl;exact weak_b (fun _ _=>[(0,some 0)])
   . have e:v = g.ports.length:=by omega
     rw [← f3,← e];exact VLe.rfl
 . simp only [Bool.not_eq_true] at hg;rw [hg] at hval ⊢;rw [if_neg (by simp)]
   repeat' ((conv=>whnf);first | (refine Br.ff ?_) | (refine hval.go ?_))
   all_goals (conv=>whnf)
   all_goals exact VLe.rfl
def G.kclaim (g:G):V:=if g.valid then .agg [.int .i64 2,.bool false,.bool true,.int .i64 3,.int .i64 (5 * (g.ids.length:Int) + 4 * ((sumR g.ports g.ports.length:Int).tdiv 2))] else .agg [.int .i64 0,.bool false,.bool false,.int .i64 0,.int .i64 0]
theorem kclaim_ok (g:G) (hs:g.Small):Ret Tryz.prog 14 [g.v] g.kclaim:=by
 have h0:=kfit_ok g hs;have h1:=ksize_ok g hs;refine ret_frz rfl ?_;refine fn_rule mixed Tryz.func14 rfl hc14 hr14 rfl ?_;by_cases hv:g.valid = true
 . obtain ⟨f1,f2,f3,f4,f5,f6,f7⟩:=val_facts hv;have hsl:=sumR_le (rows_le hv) _ (Nat.le_refl _);have ht:=tdiv_facts (n:=sumR g.ports g.ports.length) (by omega);rw [G.kclaim,if_pos hv];rw [G.size,if_pos hv] at h1;rw [hv] at h0
   repeat' ((conv=>whnf);first | (refine Br.tt ?_) | (refine Ar.i64 (by omega) (by omega) ?_) | (refine h0.go ?_) | (refine h1.go ?_))
   all_goals (conv=>whnf)
   all_goals exact VLe.rfl
 . rw [G.kclaim,if_neg hv];simp only [Bool.not_eq_true] at hv;rw [hv] at h0
   repeat' ((conv=>whnf);first | (refine Br.ff ?_) | (refine h0.go ?_))
   all_goals (conv=>whnf)
   all_goals exact VLe.rfl
theorem rkclaim_ok (g:G) (hs:g.Small):Ret Tryz.prog 16 [g.v] g.kclaim:=by
 have h0:=rkfit_ok g hs;have h1:=rsize_ok g hs;refine ret_frz rfl ?_;refine fn_rule mixed Tryz.func16 rfl hc16 hr16 rfl ?_;by_cases hv:g.valid = true
 . obtain ⟨f1,f2,f3,f4,f5,f6,f7⟩:=val_facts hv;have hsl:=sumR_le (rows_le hv) _ (Nat.le_refl _);have ht:=tdiv_facts (n:=sumR g.ports g.ports.length) (by omega);rw [G.kclaim,if_pos hv];rw [G.size,if_pos hv] at h1;rw [hv] at h0
   repeat' ((conv=>whnf);first | (refine Br.tt ?_) | (refine Ar.i64 (by omega) (by omega) ?_) | (refine h0.go ?_) | (refine h1.go ?_))
   all_goals (conv=>whnf)
   all_goals exact VLe.rfl
 . rw [G.kclaim,if_neg hv];simp only [Bool.not_eq_true] at hv;rw [hv] at h0
   repeat' ((conv=>whnf);first | (refine Br.ff ?_) | (refine h0.go ?_))
   all_goals (conv=>whnf)
   all_goals exact VLe.rfl
theorem same34_ok (a b:List Int) (ha:a.length≤1000000) (hb:b.length≤1000000):Ret Tryz.prog 55 [.fz a.length 1 false (vI a),.fz b.length 1 false (vI b)] (.bool (decide (a = b))):=by
 refine ret_frz rfl ?_;refine fn_rule mixed Tryz.func55 rfl hc55 hr55 rfl ?_
 repeat' ((conv=>whnf);first | (refine Br.bne ?_ ?_ <;> intro _ <;> try omega))
 all_goals (conv=>whnf)
 . exact VLe.bool (by rw [decide_eq_false (fun h=>by subst h;omega)])
 refine loop_r mixed [0,1] (fun i:Nat=>[(5,.int .i64 i)]) (fun m i=>m = a.length - i∧i≤a.length∧∀ j,j < i→gI a j = gI b j) a.length 0 ⟨rfl,Nat.zero_le _,fun j hj=>by omega⟩ ?_ ?_
 . exact weak_b (fun _ _=>[])
 rintro m i ⟨hm,hi,hall⟩
 repeat' ((conv=>whnf);first | (refine Br.dec ?_ ?_ <;> intro _ <;> try omega) | (refine Br.bne ?_ ?_ <;> intro _ <;> try omega) | (refine Ar.i64 (by omega) (by omega) ?_) | (refine Ix.nat (by omega) ?_))
 all_goals (conv=>whnf)
 . rename_i hne;exact VLe.bool (by rw [decide_eq_false (fun h=>by subst h;exact hne rfl)])
 . refine ⟨a.length - (i + 1),i + 1,by omega,⟨rfl,by omega,fun j hj=>?_⟩,?_⟩
   . by_cases e:j = i
     . subst e;assumption
     . exact hall j (by omega)
   . exact weak_b (fun _ _=>[])
 . have e:a = b:=List.ext_getElem (by omega) (fun j h1 h2=>by
    have:=hall j (by omega);simpa [gI,List.getD,List.getElem?_eq_getElem h1,List.getElem?_eq_getElem h2] using this)
   exact VLe.bool (by rw [decide_eq_true e])
end Go.Proofs.YtkimongfladmfaaGreatDoor
namespace Go.Proofs.YtkimongfladmfaaGreatDoor
open Go.Eng
set_option maxRecDepth 100000
set_option linter.unusedVariables false
def fpL (p:Int × Int→Bool):List (Int × Int)→Nat→Int
 | [],_=>-1
 | l :: r,k=>if p l then k else fpL p r (k + 1)
def pd (c:Cf) (l:Int × Int):Bool:=decide (gI (gC c l.1.toNat) 0 = 1)
def kport (g:G) (c:Cf) (v:Nat):Int:=if gI (gC c v) 0 = 0 then fpL (pd c) (gR g.ports v) 0 else -1
def kgood (g:G) (c:Cf):Bool:=decide (∀ v,v < c.length→gI (gC c v) 1 = kport g c v)
def G.klegit (g:G) (c:Cf):Bool:=g.valid && g.kconf c && mx g (one c 0) && kgood g c
theorem kgood_no {g:G} {c:Cf} {v:Nat} (hv:v < c.length) (h:gI (gC c v) 1≠kport g c v):kgood g c = false:=by
 rw [kgood,decide_eq_false_iff_not];exact fun hh=>h (hh v hv)
theorem kF_drop {r:List (Int × Int)} {i:Nat} (h:i < r.length):r.drop i = gF r i :: r.drop (i + 1):=by
 rw [List.drop_eq_getElem_cons h];simp only [gF,List.getD,List.getElem?_eq_getElem h,Option.getD_some]
theorem fpL_yes {p:Int × Int→Bool} {r:List (Int × Int)} {i:Nat} (h:i < r.length) (hp:p (gF r i) = true):fpL p (r.drop i) i = i:=by
 rw [kF_drop h,fpL,if_pos hp]
theorem fpL_no {p:Int × Int→Bool} {r:List (Int × Int)} {i:Nat} (h:i < r.length) (hp:p (gF r i) = false):fpL p (r.drop i) i = fpL p (r.drop (i + 1)) (i + 1):=by
 rw [kF_drop h,fpL,if_neg (by simp [hp])]
theorem fpL_end {p:Int × Int→Bool} {r:List (Int × Int)} {i:Nat} (h:r.length≤i):fpL p (r.drop i) i = -1:=by
 rw [List.drop_eq_nil_of_le h];rfl
set_option maxHeartbeats 8000000 in
theorem klegit_ok (g:G) (hs:g.Small) (c:Cf) (hc:CSmall c):Ret Tryz.prog 17 [g.v,cV c] (.bool (g.klegit c)):=by
 have h1:=kconfiguration_ok g hs c hc;refine ret_frz rfl ?_;refine fn_rule mixed Tryz.func17 rfl hc17 hr17 rfl ?_;rw [G.klegit];by_cases hg:(g.valid && g.kconf c) = true
 . rw [hg] at h1 ⊢;rw [Bool.true_and];rw [Bool.and_eq_true] at hg;obtain ⟨f1,f2,f3,f4,f5,f6,f7⟩:=val_facts hg.1;obtain ⟨e1,e2⟩:=kconf_facts hg.2;have h2:=true_ok c 0 (by omega) (fun v hv=>by have:=e2 v hv;omega);have h3:=maximal_ok g hs hg.1 (one c 0);rw [show c.length = g.ports.length by omega] at h2;cases hmx:mx g (one c 0) with
   | false =>
     rw [hmx] at h3;rw [Bool.false_and]
     repeat' ((conv=>whnf);first | (refine Br.tt ?_) | (refine Br.ff ?_) | (refine h1.go ?_) | (refine h2.go ?_) | (refine h3.go ?_) | (refine And.intro rfl ?_))
     all_goals (conv=>whnf)
     all_goals exact VLe.rfl
   | true =>
     rw [hmx] at h3;rw [Bool.true_and]
     repeat' ((conv=>whnf);first | (refine Br.tt ?_) | (refine h1.go ?_) | (refine h2.go ?_) | (refine h3.go ?_) | (refine And.intro rfl ?_))
     all_goals (conv=>whnf)
     refine loop_r mixed [2,3,19,20] (fun i:Nat=>[(21,.int .i64 i)]) (fun m v=>m = c.length - v∧v≤c.length∧∀ u,u < v→gI (gC c u) 1 = kport g c u) c.length 0 ⟨rfl,Nat.zero_le _,fun u hu=>by omega⟩ ?_ ?_
     . exact weak_b (fun _ _=>[(0,some 0),(1,some 1)])
     rintro m v ⟨hm,hv,hall⟩;have e2v:=e2 v;have hrl:=gR_len hs.rows v
     repeat' ((conv=>whnf);first | (refine Br.dec ?_ ?_ <;> intro _ <;> try omega) | (refine Br.bne ?_ ?_ <;> intro _ <;> try omega) | (refine Ar.i64 (by omega) (by omega) ?_) | (refine Ix.nat (by omega) ?_) | (refine Ix.mk 0 rfl (by omega) ?_) | (refine Ix.mk 1 rfl (by omega) ?_) | (refine fn_rule mixed Tryz.func48 rfl hc48 hr48 rfl ?_))
     all_goals (conv=>whnf)
     . refine loop_r mixed [2,13,14] (fun i:Nat=>[(15,.int .i64 i)]) (fun m i=>m = (gR g.ports v).length - i∧i≤(gR g.ports v).length∧fpL (pd c) (gR g.ports v) 0 = fpL (pd c) ((gR g.ports v).drop i) i) (gR g.ports v).length 0 ⟨rfl,Nat.zero_le _,rfl⟩ ?_ ?_
       . exact weak_b (fun _ _=>[(0,some 0),(1,some 1),(2,some 2)])
       rintro m i ⟨hm,hi,hfp⟩;have hto:=fun h=>okR_to (f6 v (by omega)) (i:=i) h;have e2t:=e2 (gF (gR g.ports v) i).1.toNat
       repeat' ((conv=>whnf);first | (refine Br.tt ?_) | (refine Br.ff ?_) | (refine Br.dec ?_ ?_ <;> intro _ <;> try omega) | (refine Br.bne ?_ ?_ <;> intro _ <;> try omega) | (refine Ar.i64 (by omega) (by omega) ?_) | (refine Ix.nat (by omega) ?_) | (refine Ix.mk 0 rfl (by omega) ?_) | (refine Ix.mk 1 rfl (by omega) ?_) | (refine Ix.int (by omega) (by omega) ?_) | (refine Chk.mk (by kernel_rfl) ?_) | (refine fn_rule mixed Tryz.func49 rfl hc49 hr49 rfl ?_))
       all_goals (conv=>whnf)
       . have hk:kport g c v = i:=by rw [kport,if_pos (by assumption),hfp];exact fpL_yes (by omega) (by rw [pd,decide_eq_true_eq];assumption)
         exact VLe.bool (kgood_no (v:=v) (by omega) (by rw [hk];assumption)).symm
       . have hk:kport g c v = i:=by rw [kport,if_pos (by assumption),hfp];exact fpL_yes (by omega) (by rw [pd,decide_eq_true_eq];assumption)
         refine ⟨c.length - (v + 1),v + 1,by omega,⟨rfl,by omega,fun u hu=>?_⟩,?_⟩
         . by_cases e:u = v
           . subst e;rw [hk];assumption
           . exact hall u (by omega)
         . exact weak_b (fun _ _=>[(0,some 0),(1,some 1)])
       . refine ⟨(gR g.ports v).length - (i + 1),i + 1,by omega,⟨rfl,by omega,?_⟩,?_⟩
         . rw [hfp];exact fpL_no (by omega) (by rw [pd,decide_eq_false_iff_not];assumption)
         . exact weak_b (fun _ _=>[(0,some 0),(1,some 1),(2,some 2)])
       . have hk:kport g c v = -1:=by rw [kport,if_pos (by assumption),hfp];exact fpL_end (by omega)
         exact VLe.bool (kgood_no (v:=v) (by omega) (by rw [hk];assumption)).symm
       . have hk:kport g c v = -1:=by rw [kport,if_pos (by assumption),hfp];exact fpL_end (by omega)
         refine ⟨c.length - (v + 1),v + 1,by omega,⟨rfl,by omega,fun u hu=>?_⟩,?_⟩
         . by_cases e:u = v
           . subst e;rw [hk];assumption
           . exact hall u (by omega)
         . exact weak_b (fun _ _=>[(0,some 0),(1,some 1)])
     . have hk:kport g c v = -1:=by rw [kport,if_neg (by assumption)]
       exact VLe.bool (kgood_no (v:=v) (by omega) (by rw [hk];assumption)).symm
     . have hk:kport g c v = -1:=by rw [kport,if_neg (by assumption)]
       refine ⟨c.length - (v + 1),v + 1,by omega,⟨rfl,by omega,fun u hu=>?_⟩,?_⟩
       . by_cases e:u = v
         . subst e;rw [hk];assumption
         . exact hall u (by omega)
       . exact weak_b (fun _ _=>[(0,some 0),(1,some 1)])
     . exact VLe.bool (by rw [kgood,decide_eq_true (fun u hu=>hall u (by omega))])
 . simp only [Bool.not_eq_true] at hg;rw [hg] at h1 ⊢;rw [Bool.false_and,Bool.false_and]
   repeat' ((conv=>whnf);first | (refine Br.ff ?_) | (refine h1.go ?_))
   all_goals (conv=>whnf)
   all_goals exact VLe.rfl
end Go.Proofs.YtkimongfladmfaaGreatDoor
namespace Go.Plain
structure Tgt (n:Nat) (a:Nat→Nat→Bool) (T:St→Nat→Int):Prop where
 loc:∀ m m' v,v < n→m v = m' v→(∀ u,u < n→a v u = true→m u = m' u)→T m v = T m' v
def ptE (T:St→Nat→Int) (m:St) (h:Nat→Int) (v:Nat):Bool:=decide (h v≠T m v)
def enC (n:Nat) (a:Nat→Nat→Bool) (T:St→Nat→Int) (m:St) (h:Nat→Int) (v:Nat):Bool:=enI n a m v || ptE T m h v
def mS (n:Nat) (a:Nat→Nat→Bool) (m s:St):St:=fun v=>s v && enI n a m v
def stM (n:Nat) (a:Nat→Nat→Bool) (m s:St):St:=stI (mS n a m s) m
def stH (n:Nat) (a:Nat→Nat→Bool) (T:St→Nat→Int) (m s:St) (h:Nat→Int):Nat→Int:=fun v=>if s v = true∧enI n a m v = false then T m v else h v
structure ChsC (n:Nat) (a:Nat→Nat→Bool) (T:St→Nat→Int) (m s:St) (h:Nat→Int):Prop where
 en:∀ v,s v = true→v < n∧enC n a T m h v = true
 ind:∀ u v,s u = true→s v = true→a u v = false
variable {n:Nat} {a:Nat→Nat→Bool} {T:St→Nat→Int} {m s:St} {h:Nat→Int}
theorem ChsC.low (hc:ChsC n a T m s h):Chs n a m (mS n a m s) :=
 ⟨fun v hv=>by simp only [mS,Bool.and_eq_true] at hv;exact ⟨(hc.en v hv.1).1,hv.2⟩,fun u v hu hv=>by simp only [mS,Bool.and_eq_true] at hu hv;exact hc.ind u v hu.1 hv.1⟩
theorem mS_false {v:Nat} (he:enI n a m v = true) (hs:mS n a m s v = false):s v = false:=by
 simpa [mS,he] using hs
def leftC (n:Nat) (a:Nat→Nat→Bool) (T:St→Nat→Int) (m p s:St) (h:Nat→Int):St:=fun v=>p v && !s v && enC n a T (stM n a m s) (stH n a T m s h) v
structure CInv (n:Nat) (a:Nat→Nat→Bool) (T:St→Nat→Int) (m p:St) (h:Nat→Int) (r:Nat):Prop where
 r0:r = 0→∀ v,v < n→cfl n a m v = true→p v = true
 r1:1≤r→∀ v,v < n→cfl n a m v = false
 r2:r = 1→∀ v,v < n→enI n a m v = true→p v = true
 r3:2≤r→∀ v,v < n→enI n a m v = false
 r4:r = 2→∀ v,v < n→ptE T m h v = true→p v = true
 r5:3≤r→∀ v,v < n→ptE T m h v = false
theorem enC_low {v:Nat} (he:enI n a m v = true):enC n a T m h v = true:=by simp [enC,he]
theorem CInv.start:CInv n a T m (enC n a T m h) h 0 :=
 ⟨fun _ v _ hc=>enC_low (cfl_en hc),fun e=>by omega,fun e=>by omega,fun e=>by omega,fun e=>by omega,fun e=>by omega⟩
theorem stM_same (hn:∀ v,v < n→enI n a m v = false) (hc:ChsC n a T m s h) (v:Nat):stM n a m s v = m v:=by
 have:mS n a m s v = false:=by
  cases e:mS n a m s v with
  | false=>rfl
  | true=>obtain ⟨h1,h2⟩:=hc.low.en v e;rw [hn v h1] at h2;cases h2
 simp [stM,stI,this]
theorem nbM_same {m':St} (hm:∀ v,v < n→m v = m' v) (v:Nat):nbM n a m v = nbM n a m' v:=by
 rw [Bool.eq_iff_iff,nbM_iff,nbM_iff];constructor <;> rintro ⟨u,hu,h1,h2⟩
 . exact ⟨u,hu,h1,by rw [← hm u hu];exact h2⟩
 . exact ⟨u,hu,h1,by rw [hm u hu];exact h2⟩
theorem CInv.same (ha:Adj n a) (hT:Tgt n a T) (hc:ChsC n a T m s h) {p:St} {r:Nat} (hi:CInv n a T m p h r) (hr:r≤2):CInv n a T (stM n a m s) (leftC n a T m p s h) (stH n a T m s h) r:=by
 have hl:=hc.low;have noc:1≤r→∀ v,v < n→cfl n a (stM n a m s) v = false:=fun e v hv=>by
  cases hf:cfl n a (stM n a m s) v with
  | false=>rfl
  | true=>have:=hi.r1 e v hv;rw [(cfl_back ha hl hv hf).1] at this;cases this
 have noe:2≤r→∀ v,v < n→enI n a (stM n a m s) v = false:=fun e v hv=>by
  have hs:=fun v=>stM_same (hi.r3 e) hc v;rw [enI,hs v,nbM_same (fun v _=>hs v)];exact hi.r3 e v hv
 refine ⟨fun e v hv hf=>?_,noc,fun e v hv he=>?_,noe,fun e v hv hp=>?_,fun e=>by omega⟩
 . obtain ⟨h1,h2⟩:=cfl_back ha hl hv hf;simp [leftC,hi.r0 e v hv h1,mS_false (cfl_en h1) h2,enC_low (cfl_en hf)]
 . obtain ⟨h1,h2⟩:=en_back (hi.r1 (by omega)) (noc (by omega)) hl hv he;simp [leftC,hi.r2 e v hv h1,mS_false h1 h2,enC_low he]
 . have hn:=hi.r3 (by omega);have hs:=fun v=>stM_same hn hc v;have hTs:T (stM n a m s) v = T m v:=hT.loc _ _ v hv (hs v) (fun u _ _=>hs u);have hsv:s v = false:=by
    cases e2:s v with
    | false=>rfl
    | true=>simp [ptE,stH,e2,hn v hv,hTs] at hp
   have hp2:ptE T m h v = true:=by
    have:stH n a T m s h v = h v:=by simp [stH,hsv]
    rw [ptE,this,hTs] at hp;exact hp
   simp [leftC,hi.r4 e v hv hp2,hsv,enC,hp]
theorem CInv.next (ha:Adj n a) (hT:Tgt n a T) (hc:ChsC n a T m s h) {p:St} {r:Nat} (hi:CInv n a T m p h r) (hr:r≤2) (h0:∀ v,v < n→leftC n a T m p s h v = false):CInv n a T (stM n a m s) (enC n a T (stM n a m s) (stH n a T m s h)) (stH n a T m s h) (r + 1):=by
 have hs:=hi.same ha hT hc hr;refine ⟨fun e=>by omega,fun _ v hv=>?_,fun _ v hv he=>enC_low he,fun e v hv=>?_,fun _ v hv hp=>by simp [enC,hp],fun e v hv=>?_⟩
 . cases hf:cfl n a (stM n a m s) v with
   | false=>rfl
   | true =>
     rcases (show r = 0∨1≤r by omega) with e | e
     . have:=hs.r0 e v hv hf;rw [h0 v hv] at this;cases this
     . rw [hs.r1 e v hv] at hf;cases hf
 . cases he:enI n a (stM n a m s) v with
   | false=>rfl
   | true =>
     rcases (show r = 1∨2≤r by omega) with e | e
     . have:=hs.r2 e v hv he;rw [h0 v hv] at this;cases this
     . rw [hs.r3 e v hv] at he;cases he
 . cases hp:ptE T (stM n a m s) (stH n a T m s h) v with
   | false=>rfl
   | true=>have:=hs.r4 (by omega) v hv hp;rw [h0 v hv] at this;cases this
def b1 (b:Bool):Nat:=if b then 1 else 0
def dg (n:Nat) (a:Nat→Nat→Bool) (u:Nat):Nat:=sumN (fun v=>b1 (a u v)) n
def phiC (n:Nat) (a:Nat→Nat→Bool) (T:St→Nat→Int) (m:St) (h:Nat→Int) (v:Nat):Nat:=phi n a m v * (2 + dg n a v) + b1 (ptE T m h v)
def nearM (n:Nat) (a:Nat→Nat→Bool) (q:St) (v:Nat):Nat:=b1 (q v) + sumN (fun u=>b1 (a v u && q u)) n
theorem sumN_zero {f:Nat→Nat}:∀ {k:Nat},(∀ v,v < k→f v = 0)→sumN f k = 0
 | 0,_=>rfl
 | k + 1,hz=>by rw [sumN,sumN_zero (fun v hv=>hz v (by omega)),hz k (by omega)]
theorem sumN_pos {f:Nat→Nat} {u:Nat}:∀ {k:Nat},u < k→f u≤sumN f k
 | 0,h=>by omega
 | k + 1,h=>by
   rw [sumN];by_cases e:u = k
   . subst e;omega
   . have:=sumN_pos (f:=f) (show u < k by omega);omega
theorem sumN_ext {f g:Nat→Nat}:∀ {k:Nat},(∀ v,v < k→f v = g v)→sumN f k = sumN g k
 | 0,_=>rfl
 | k + 1,hz=>by rw [sumN,sumN,sumN_ext (fun v hv=>hz v (by omega)),hz k (by omega)]
theorem sumN_swap (f:Nat→Nat→Nat) (k:Nat):∀ j,sumN (fun v=>sumN (f v) k) j = sumN (fun u=>sumN (fun v=>f v u) j) k
 | 0=>(sumN_zero fun _ _=>rfl).symm
 | j + 1=>by rw [sumN,sumN_swap f k j,← sumN_add];rfl
theorem near_sum (ha:Adj n a) (q:St):sumN (nearM n a q) n = sumN (fun u=>b1 (q u) * (1 + dg n a u)) n:=by
 have e1:sumN (nearM n a q) n = sumN (fun v=>b1 (q v)) n + sumN (fun v=>sumN (fun u=>b1 (a v u && q u)) n) n:=sumN_add _ _ n;rw [e1,sumN_swap (fun v u=>b1 (a v u && q u)) n n,← sumN_add];refine sumN_ext fun u hu=>?_;rw [Nat.mul_add,Nat.mul_one];congr 1;rw [dg];cases hq:q u with
 | false =>
   rw [show b1 false = 0 from rfl,Nat.zero_mul];exact sumN_zero fun v _=>by simp [b1]
 | true =>
   rw [show b1 true = 1 from rfl,Nat.one_mul];refine sumN_ext fun v hv=>?_;rw [Bool.and_true];congr 1;rw [Bool.eq_iff_iff];exact ⟨fun hx=>ha.sym v u hv hu hx,fun hx=>ha.sym u v hu hv hx⟩
theorem pt_step (ha:Adj n a) (hT:Tgt n a T) (hc:ChsC n a T m s h) {v:Nat} (hv:v < n) :
 b1 (ptE T (stM n a m s) (stH n a T m s h) v) + b1 (s v && !enI n a m v)≤b1 (ptE T m h v) + nearM n a (mS n a m s) v:=by
 by_cases hmv:mS n a m s v = true
 . have:enI n a m v = true:=by simp only [mS,Bool.and_eq_true] at hmv;exact hmv.2
   rw [this,nearM,hmv];simp only [b1,Bool.not_true,Bool.and_false,Bool.false_eq_true,if_false,if_true];split <;> omega
 . by_cases hnb:∃ u,u < n∧a v u = true∧mS n a m s u = true
   . obtain ⟨u,hu,h1,h2⟩:=hnb;have hsv:s v = false:=by
      cases e:s v with
      | false=>rfl
      | true =>
        simp only [mS,Bool.and_eq_true] at h2;have:=hc.ind v u e h2.1;rw [h1] at this;cases this
     have hpos:1≤sumN (fun u=>b1 (a v u && mS n a m s u)) n:=by
      have:=sumN_pos (f:=fun u=>b1 (a v u && mS n a m s u)) hu;simp only [h1,h2] at this;exact this
     rw [hsv,nearM];simp only [Bool.false_and,b1,Bool.false_eq_true,if_false] at hpos ⊢;split <;> omega
   . have hsame:stM n a m s v = m v:=by simp [stM,stI,hmv]
     have hTs:T (stM n a m s) v = T m v:=hT.loc _ _ v hv hsame (fun u hu hau=>by
      have:mS n a m s u = false:=by
       cases e:mS n a m s u with
       | false=>rfl
       | true=>exact (hnb ⟨u,hu,hau,e⟩).elim
      simp [stM,stI,this])
     cases hs:s v with
     | false =>
       have:stH n a T m s h v = h v:=by simp [stH,hs]
       have e:ptE T (stM n a m s) (stH n a T m s h) v = ptE T m h v:=by rw [ptE,this,hTs,ptE]
       rw [e,Bool.false_and];simp only [b1,Bool.false_eq_true,if_false];omega
     | true =>
       have he:enI n a m v = false:=by
        cases e:enI n a m v with
        | false=>rfl
        | true=>simp [mS,hs,e] at hmv
       have hp:ptE T m h v = true:=by
        have:=(hc.en v hs).2;simpa [enC,he] using this
       have:stH n a T m s h v = T m v:=by simp [stH,hs,he]
       rw [ptE,this,hTs,hp,he];simp [b1]
theorem movesC_step (ha:Adj n a) (hT:Tgt n a T) (hc:ChsC n a T m s h):sumN (phiC n a T (stM n a m s) (stH n a T m s h)) n + cntS s n≤sumN (phiC n a T m h) n:=by
 have h1:∀ v,v < n→phi n a (stM n a m s) v * (2 + dg n a v) + b1 (mS n a m s v) * (2 + dg n a v)≤phi n a m v * (2 + dg n a v):=fun v hv=>by
  rw [← Nat.add_mul];exact Nat.mul_le_mul_right _ (phi_step ha hc.low hv)
 have h2:=fun v (hv:v < n)=>pt_step ha hT hc hv;have h3:∀ v,v < n→(if s v = true then 1 else 0) = b1 (mS n a m s v) + b1 (s v && !enI n a m v):=fun v _=>by
  cases hs:s v <;> cases he:enI n a m v <;> simp [mS,hs,he,b1]
 have key:sumN (fun v=>(phiC n a T (stM n a m s) (stH n a T m s h) v + (if s v = true then 1 else 0)) + b1 (mS n a m s v) * (1 + dg n a v)) n≤sumN (fun v=>phiC n a T m h v + nearM n a (mS n a m s) v) n:=by
  refine sumN_le fun v hv=>?_;have:=h1 v hv;have:=h2 v hv;have:=h3 v hv;have e:b1 (mS n a m s v) * (2 + dg n a v) = b1 (mS n a m s v) * (1 + dg n a v) + b1 (mS n a m s v):=by
   rw [show 2 + dg n a v = (1 + dg n a v) + 1 by omega,Nat.mul_add,Nat.mul_one]
  simp only [phiC] at *;omega
 have e1:=sumN_add (fun v=>phiC n a T (stM n a m s) (stH n a T m s h) v + (if s v = true then 1 else 0)) (fun v=>b1 (mS n a m s v) * (1 + dg n a v)) n;have e2:=sumN_add (phiC n a T m h) (nearM n a (mS n a m s)) n;have e3:=near_sum ha (mS n a m s);have e4:=sumN_add (phiC n a T (stM n a m s) (stH n a T m s h)) (fun v=>if s v = true then 1 else 0) n;rw [e1,e2,e3,e4] at key;rw [cntS];omega
theorem movesC_all (n:Nat) (a:Nat→Nat→Bool) (T:St→Nat→Int) (m:St) (h:Nat→Int):sumN (phiC n a T m h) n≤5 * n + 2 * sumN (dg n a) n:=by
 have hk:∀ k,sumN (phiC n a T m h) k≤5 * k + 2 * sumN (dg n a) k:=by
  intro k
  induction k with
  | zero=>simp [sumN]
  | succ k ih =>
    have h1:phi n a m k≤2:=by (unfold phi;repeat' split) <;> omega
    have h2:phi n a m k * (2 + dg n a k)≤2 * (2 + dg n a k):=Nat.mul_le_mul_right _ h1;have h3:b1 (ptE T m h k)≤1:=by unfold b1;split <;> omega
    simp only [sumN,phiC] at *;omega
 exact hk n
end Go.Plain
namespace Go.Proofs.YtkimongfladmfaaGreatDoor
open Go.Eng
set_option maxRecDepth 100000
set_option linter.unusedVariables false
def tgT:Tm:=.ite mT (.leaf 4 0) (.agg 23 (.leaf 12 0))
def pClu:Pr:=⟨ByteArray.mk #[99,108,117,115,116,101,114],vK,[⟨ByteArray.mk #[108,101,97,118,101],.bin 41 mT smT,[(0,.leaf 3 0)]⟩,
 ⟨ByteArray.mk #[101,110,116,101,114],.bin 41 (.un 19 mT) (.un 19 smT),[(0,.leaf 2 0)]⟩,
 ⟨ByteArray.mk #[112,111,105,110,116],.bin 36 (.leaf 5 1) tgT,[(1,tgT)]⟩]⟩
def tgV (g:G) (m:Nat→Bool) (v:Nat):Int:=if m v = true then -1 else fpL (fun l=>m l.1.toNat) (gR g.ports v) 0
abbrev hh (c:Cf) (v:Nat):Int:=gI (gC c v) 1
theorem fpL_ext {p q:Int × Int→Bool}:∀ {r:List (Int × Int)} {k:Nat},(∀ l∈r,p l = q l)→fpL p r k = fpL q r k
 | [],_,_=>rfl
 | l :: r,k,h=>by
   rw [fpL,fpL,h l (by simp),fpL_ext (fun x hx=>h x (by simp [hx]))]
theorem fpL_range {p:Int × Int→Bool}:∀ (r:List (Int × Int)) (k:Nat),-1≤fpL p r k∧fpL p r k < ((k + r.length:Nat):Int)
 | [],k=>by simp [fpL];omega
 | l :: r,k=>by
   rw [fpL];split
   . simp;omega
   . have:=fpL_range (p:=p) r (k + 1);simp only [List.length_cons];omega
theorem tg_tgt {g:G} (hg:g.valid = true):Go.Plain.Tgt g.ids.length (adN g) (tgV g):=by
 obtain ⟨f1,f2,f3,f4,f5,f6,f7⟩:=val_facts hg;refine ⟨fun m m' v hv h1 h2=>?_⟩;have hok:=(okR_iff.1 (f6 v (by omega))).1;rw [tgV,tgV,h1,fpL_ext (q:=fun l=>m' l.1.toNat) (fun l hl=>h2 _ (by have:=hok l hl;omega) (adj_iff.2 ⟨l,hl,rfl⟩))]
theorem tg_range (g:G) (m:Nat→Bool) (v:Nat):-1≤tgV g m v∧tgV g m v≤((gR g.ports v).length:Int) - 1:=by
 rw [tgV];split
 . omega
 . have:=fpL_range (p:=fun l=>m l.1.toNat) (gR g.ports v) 0;rw [Nat.zero_add] at this;omega
theorem idx_fp {f:Int × Int→Int} {p:Int × Int→Bool}:∀ {r:List (Int × Int)} {k:Nat},(∀ l∈r,f l≠0↔p l = true)→idxI k (r.map f) = fpL p r k
 | [],_,_=>rfl
 | l :: r,k,h=>by
   have h1:=h l (by simp);rw [List.map_cons,idxI,fpL,idx_fp (fun x hx=>h x (by simp [hx]))];by_cases e:p l = true
   . rw [if_pos (h1.2 e),if_pos e]
   . rw [if_neg (fun q=>e (h1.1 q)),if_neg e]
theorem range_row (r:List (Int × Int)) (f:Int→Int):((List.range r.length).map fun i=>f (gF r i).1) = r.map fun l=>f l.1:=by
 refine List.ext_getElem (by simp) fun i h1 h2=>?_;simp at h1;simp [gF,List.getD,h1]
theorem tg_sem {g:G} (hg:g.valid = true) {c:Cf} (hb:isBool c g.ids.length 0) {v:Nat} (hv:v < g.ids.length):tgT.sem g c v (-1) = tgV g (one c 0) v:=by
 obtain ⟨f1,f2,f3,f4,f5,f6,f7⟩:=val_facts hg;have hok:=(okR_iff.1 (f6 v (by omega))).1;have e0:mT.sem g c v (-1) = truI (one c 0 v):=one_tru hb hv;show (if mT.sem g c v (-1)≠0 then (-1:Int) else idxI 0 ((List.range (gR g.ports v).length).map fun (i:Nat)=>gI (gC c (nbV g v i)) 0)) = _;rw [e0,tgV];cases em:one c 0 v with
 | true=>rw [if_pos (by decide),if_pos rfl]
 | false =>
   rw [if_neg (by decide),if_neg (by simp)];have e:((List.range (gR g.ports v).length).map fun (i:Nat)=>gI (gC c (nbV g v i)) 0) = (gR g.ports v).map fun l=>gI (gC c l.1.toNat) 0:=by
    rw [← range_row (gR g.ports v) (fun a=>gI (gC c a.toNat) 0)];simp only [nbV,Int.toNat_natCast]
   rw [e];refine idx_fp fun l hl=>?_;have:=hok l hl;rw [one,decide_eq_true_eq];rcases hb l.1.toNat (by omega) with q | q <;> simp [q]
theorem clu_bool {g:G} {c:Cf} (h:Conf pClu g c):isBool c g.ids.length 0:=fun v hv=>by
 have:=h.val v (by rw [h.len];exact hv) 0 (by decide);have e:bnd g (gV pClu.vars 0) v = (0,1):=rfl;rw [e] at this;have h1:=this.1;have h2:=this.2;simp only at h1 h2;omega
theorem kconf_of {g:G} {c:Cf} (h:Conf pClu g c):g.kconf c = true:=by
 rw [G.kconf,conf_iff];refine ⟨h.len,fun v hv=>?_⟩;have hl:v < c.length:=by rw [h.len];exact hv
 refine ⟨h.row v hl,fun x hx=>?_⟩;have:=h.val v hl x hx;rcases (show x = 0∨x = 1 by omega) with rfl | rfl
 . exact this
 . exact this
theorem clu_gds {g:G} (hg:g.valid = true) {c:Cf} (hb:isBool c g.ids.length 0) {v:Nat} (hv:v < g.ids.length) :
 gds pClu g c v = [truI (one c 0 v && Go.Plain.nbM g.ids.length (adN g) (one c 0) v),truI (!one c 0 v && !Go.Plain.nbM g.ids.length (adN g) (one c 0) v),truI (Go.Plain.ptE (tgV g) (one c 0) (hh c) v)]:=by
 have h2:=ind_gds hg hb hv;have e3:(Tm.bin 36 (.leaf 5 1) tgT).sem g c v (-1) = truI (Go.Plain.ptE (tgV g) (one c 0) (hh c) v):=by
  show truI (decide (hh c v≠tgT.sem g c v (-1))) = _;rw [tg_sem hg hb hv,Go.Plain.ptE]
 have e:gds pClu g c v = gds pInd g c v ++ [(Tm.bin 36 (.leaf 5 1) tgT).sem g c v (-1)]:=rfl;rw [e,h2,e3];rfl
theorem clu_rule {g:G} (hg:g.valid = true) {c:Cf} (hb:isBool c g.ids.length 0) {v:Nat} (hv:v < g.ids.length) :
 ruleI pClu g c v = if Go.Plain.enI g.ids.length (adN g) (one c 0) v = true then (if one c 0 v = true then 0 else 1) else if Go.Plain.ptE (tgV g) (one c 0) (hh c) v = true then 2 else -1:=by
 rw [ruleI,clu_gds hg hb hv,Go.Plain.enI];cases one c 0 v <;> cases Go.Plain.nbM g.ids.length (adN g) (one c 0) v <;> cases Go.Plain.ptE (tgV g) (one c 0) (hh c) v <;> rfl
theorem clu_en {g:G} (hg:g.valid = true) {c:Cf} (hb:isBool c g.ids.length 0) {v:Nat} (hv:v < g.ids.length):(enN pClu g c).testBit v = Go.Plain.enC g.ids.length (adN g) (tgV g) (one c 0) (hh c) v:=by
 rw [en_bit,decide_eq_true hv,Bool.true_and,clu_rule hg hb hv,Go.Plain.enC];cases Go.Plain.enI g.ids.length (adN g) (one c 0) v <;> cases Go.Plain.ptE (tgV g) (one c 0) (hh c) v <;> cases one c 0 v <;> rfl
theorem gI_set2 (l:List Int) (a i:Nat) (x:Int) (ha:a < l.length) (h:i≠a):gI (l.set a x) i = gI l i:=by rw [gI_stx _ _ _ _ ha,if_neg h]
theorem clu_step {g:G} (hg:g.valid = true) {c:Cf} (h:Conf pClu g c) {s:Nat} (hs:Part s (enN pClu g c)) {v:Nat} (hv:v < g.ids.length) :
 one (stepC pClu g c s) 0 v = Go.Plain.stM g.ids.length (adN g) (one c 0) (fun v=>s.testBit v) v∧hh (stepC pClu g c s) v = Go.Plain.stH g.ids.length (adN g) (tgV g) (one c 0) (fun v=>s.testBit v) (hh c) v:=by
 have hl:=h.len;have hb:=clu_bool h;have hlen:(gC c v).length = 2:=h.row v (by omega);have hrow:=stepC_row pClu g c s (v:=v) (by omega);have hr:=clu_rule hg hb hv;rw [Go.Plain.stM,Go.Plain.stI,Go.Plain.mS,Go.Plain.stH];show decide (gI (gC (stepC pClu g c s) v) 0 = 1) = _∧gI (gC (stepC pClu g c s) v) 1 = _;rw [hrow];cases e:s.testBit v with
 | false=>simp [one]
 | true =>
   rw [if_pos rfl];have hen:=hs v e;rw [clu_en hg hb hv,Go.Plain.enC] at hen;cases ei:Go.Plain.enI g.ids.length (adN g) (one c 0) v with
   | true =>
     rw [ei,if_pos rfl] at hr;cases em:one c 0 v with
     | true =>
       rw [em,if_pos rfl] at hr;rw [hr];show decide (gI ((gC c v).set 0 (brI 2 0 1 0)) 0 = 1) = _∧gI ((gC c v).set 0 (brI 2 0 1 0)) 1 = _;rw [gI_stx _ _ _ _ (by omega),if_pos rfl,gI_set2 _ _ _ _ (by omega) (by decide)];exact ⟨rfl,by simp⟩
     | false =>
       rw [em,if_neg (by simp)] at hr;rw [hr];show decide (gI ((gC c v).set 0 (brI 2 0 1 1)) 0 = 1) = _∧gI ((gC c v).set 0 (brI 2 0 1 1)) 1 = _;rw [gI_stx _ _ _ _ (by omega),if_pos rfl,gI_set2 _ _ _ _ (by omega) (by decide)];exact ⟨rfl,by simp⟩
   | false =>
     rw [ei,Bool.false_or] at hen;rw [ei,if_neg (by simp),hen,if_pos rfl] at hr;rw [hr];have hrg:=tg_range g (one c 0) v;have hbr:brI 3 (-1) (((gR g.ports v).length:Int) - 1) (tgT.sem g c v (-1)) = tgV g (one c 0) v:=by
      rw [tg_sem hg hb hv,brI,if_pos (by omega)]
     show decide (gI ((gC c v).set 1 (brI 3 (-1) (((gR g.ports v).length:Int) - 1) (tgT.sem g c v (-1)))) 0 = 1) = _∧gI ((gC c v).set 1 (brI 3 (-1) (((gR g.ports v).length:Int) - 1) (tgT.sem g c v (-1)))) 1 = _;rw [hbr,gI_stx _ _ _ _ (by omega),if_neg (by decide),gI_stx _ _ _ _ (by omega),if_pos rfl];simp [one]
theorem kport_tg {g:G} (hg:g.valid = true) {c:Cf} (hb:isBool c g.ids.length 0) {v:Nat} (hv:v < g.ids.length):kport g c v = tgV g (one c 0) v:=by
 rw [kport,tgV];rcases hb v hv with e | e
 . have:one c 0 v = false:=by simp [one,e]
   rw [if_pos e,this,if_neg (by simp)];exact fpL_ext fun l _=>rfl
 . have:one c 0 v = true:=by simp [one,e]
   rw [if_neg (by omega),this,if_pos rfl]
theorem clu_rest {g:G} (hg:g.valid = true) {c:Cf} (h:Conf pClu g c):g.klegit c = decide (enN pClu g c = 0):=by
 obtain ⟨f1,f2,f3,f4,f5,f6,f7⟩:=val_facts hg;have hb:=clu_bool h;rw [G.klegit,hg,kconf_of h,Bool.true_and,Bool.true_and,Bool.eq_iff_iff,Bool.and_eq_true,mx,kgood,decide_eq_true_eq,decide_eq_true_eq,decide_eq_true_eq,enN,nb_zero_iff,f3,h.len];have key:∀ v,v < g.ids.length→((nbr g (nb (one c 0) g.ids.length) v = !one c 0 v∧gI (gC c v) 1 = kport g c v)↔decide (0≤ruleI pClu g c v) = false):=fun v hv=>by
  have he:=clu_en hg hb hv;rw [en_bit,decide_eq_true hv,Bool.true_and] at he;have h2:=nbr_nbM hg (one c 0) hv;rw [f3] at h2;rw [he,h2,kport_tg hg hb hv,Go.Plain.enC,Go.Plain.enI,Go.Plain.ptE];cases one c 0 v <;> cases Go.Plain.nbM g.ids.length (adN g) (one c 0) v <;> simp
 constructor
 . rintro ⟨h1,h2⟩ v hv;exact (key v hv).1 ⟨h1 v hv,h2 v hv⟩
 . intro hz;exact ⟨fun v hv=>((key v hv).2 (hz v hv)).1,fun v hv=>((key v hv).2 (hz v hv)).2⟩
end Go.Proofs.YtkimongfladmfaaGreatDoor
namespace Go.Proofs.YtkimongfladmfaaGreatDoor
open Go.Eng
set_option maxRecDepth 100000
set_option linter.unusedVariables false
section
variable {n:Nat} {a:Nat→Nat→Bool} {T:Go.Plain.St→Nat→Int} {m m':Go.Plain.St} {h h':Nat→Int}
theorem ptE_ext (hT:Go.Plain.Tgt n a T) (hm:∀ v,v < n→m v = m' v) (hh:∀ v,v < n→h v = h' v) {v:Nat} (hv:v < n):Go.Plain.ptE T m h v = Go.Plain.ptE T m' h' v:=by
 rw [Go.Plain.ptE,Go.Plain.ptE,hh v hv,hT.loc m m' v hv (hm v hv) (fun u hu _=>hm u hu)]
theorem cinv_ext {r:Nat} {p p':Go.Plain.St} (hT:Go.Plain.Tgt n a T) (hm:∀ v,v < n→m v = m' v) (hh:∀ v,v < n→h v = h' v) (hp:∀ v,v < n→p v = true→p' v = true) (hi:Go.Plain.CInv n a T m p h r):Go.Plain.CInv n a T m' p' h' r :=
 ⟨fun e v hv hc=>hp v hv (hi.r0 e v hv (by rw [cfl_ext hm hv];exact hc)),fun e v hv=>by rw [← cfl_ext hm hv];exact hi.r1 e v hv,fun e v hv hc=>hp v hv (hi.r2 e v hv (by rw [enI_ext hm hv];exact hc)),fun e v hv=>by rw [← enI_ext hm hv];exact hi.r3 e v hv,
  fun e v hv hc=>hp v hv (hi.r4 e v hv (by rw [ptE_ext hT hm hh hv];exact hc)),fun e v hv=>by rw [← ptE_ext hT hm hh hv];exact hi.r5 e v hv⟩
theorem enC_ext (hT:Go.Plain.Tgt n a T) (hm:∀ v,v < n→m v = m' v) (hh:∀ v,v < n→h v = h' v) {v:Nat} (hv:v < n):Go.Plain.enC n a T m h v = Go.Plain.enC n a T m' h' v:=by
 rw [Go.Plain.enC,Go.Plain.enC,enI_ext hm hv,ptE_ext hT hm hh hv]
theorem phiC_ext (hT:Go.Plain.Tgt n a T) (hm:∀ v,v < n→m v = m' v) (hh:∀ v,v < n→h v = h' v) {v:Nat} (hv:v < n):Go.Plain.phiC n a T m h v = Go.Plain.phiC n a T m' h' v:=by
 rw [Go.Plain.phiC,Go.Plain.phiC,phi_ext hm hv,ptE_ext hT hm hh hv]
end
theorem sum_mem:∀ (l:List Nat) (n:Nat),l.Nodup→(∀ x∈l,x < n)→Go.Plain.sumN (fun v=>Go.Plain.b1 (decide (v∈l))) n = l.length
 | [],n,_,_=>Go.Plain.sumN_zero fun v _=>by simp [Go.Plain.b1]
 | x :: r,n,hn,hl=>by
   rw [List.nodup_cons] at hn;have ih:=sum_mem r n hn.2 (fun y hy=>hl y (by simp [hy]));have h1:∀ k,Go.Plain.sumN (fun v=>Go.Plain.b1 (decide (v = x))) k = if x < k then 1 else 0:=by
    intro k
    induction k with
    | zero=>simp [Go.Plain.sumN]
    | succ k ihk =>
      rw [Go.Plain.sumN,ihk];by_cases e:k = x
      . subst e;simp [Go.Plain.b1]
      . have:decide (k = x) = false:=by simpa using e
        rw [this];simp only [Go.Plain.b1,Bool.false_eq_true,if_false];split <;> split <;> omega
   have h2:Go.Plain.sumN (fun v=>Go.Plain.b1 (decide (v∈x :: r))) n = Go.Plain.sumN (fun v=>Go.Plain.b1 (decide (v = x)) + Go.Plain.b1 (decide (v∈r))) n:=by
    refine Go.Plain.sumN_ext fun v _=>?_;by_cases e:v = x
    . subst e;simp [Go.Plain.b1,hn.1]
    . simp [Go.Plain.b1,e]
   have h3:=Go.Plain.sumN_add (fun v=>Go.Plain.b1 (decide (v = x))) (fun v=>Go.Plain.b1 (decide (v∈r))) n;rw [h2,h3,ih,h1,if_pos (hl x (by simp)),List.length_cons];omega
theorem dg_row {g:G} (hg:g.valid = true) {v:Nat} (hv:v < g.ids.length):Go.Plain.dg g.ids.length (adN g) v = (gR g.ports v).length:=by
 obtain ⟨f1,f2,f3,f4,f5,f6,f7⟩:=val_facts hg;obtain ⟨o1,o2⟩:=okR_iff.1 (f6 v (by omega));have hnd:((gR g.ports v).map fun l=>l.1.toNat).Nodup:=by
  have:((gR g.ports v).map fun l=>l.1.toNat) = ((gR g.ports v).map (·.1)).map Int.toNat:=by rw [List.map_map];rfl
  rw [this];rw [List.nodup_iff_pairwise_ne,List.pairwise_map];refine List.Pairwise.imp_of_mem ?_ (List.nodup_iff_pairwise_ne.1 o2);intro x y hx hy hne e;obtain ⟨l,hl,rfl⟩:=List.mem_map.1 hx;obtain ⟨l',hl',rfl⟩:=List.mem_map.1 hy;have:=o1 l hl;have:=o1 l' hl';omega
 have:=sum_mem _ g.ids.length hnd (fun x hx=>by
  obtain ⟨l,hl,rfl⟩:=List.mem_map.1 hx;have:=o1 l hl;omega)
 rw [List.length_map] at this;rw [Go.Plain.dg,← this];refine Go.Plain.sumN_ext fun u _=>?_;congr 1;rw [Bool.eq_iff_iff,decide_eq_true_eq,List.mem_map];exact adj_iff
theorem dg_sumR {g:G} (hg:g.valid = true):∀ k,k≤g.ids.length→Go.Plain.sumN (Go.Plain.dg g.ids.length (adN g)) k = sumR g.ports k
 | 0,_=>rfl
 | k + 1,h=>by rw [Go.Plain.sumN,sumR,dg_sumR hg k (by omega),dg_row hg (by omega)]
theorem square_even {n:Nat} {a:Nat→Nat→Bool} (ha:Go.Plain.Adj n a):∀ k,k≤n→∃ q,Go.Plain.sumN (fun v=>Go.Plain.sumN (fun u=>Go.Plain.b1 (a v u)) k) k = 2 * q
 | 0,_=>⟨0,rfl⟩
 | k + 1,h=>by
   obtain ⟨q,hq⟩:=square_even ha k (by omega);refine ⟨q + Go.Plain.sumN (fun u=>Go.Plain.b1 (a k u)) k,?_⟩;have e1:Go.Plain.sumN (fun v=>Go.Plain.sumN (fun u=>Go.Plain.b1 (a v u)) (k + 1)) k = Go.Plain.sumN (fun v=>Go.Plain.sumN (fun u=>Go.Plain.b1 (a v u)) k) k + Go.Plain.sumN (fun v=>Go.Plain.b1 (a v k)) k:=by
    rw [← Go.Plain.sumN_add];rfl
   have e2:Go.Plain.sumN (fun v=>Go.Plain.b1 (a v k)) k = Go.Plain.sumN (fun u=>Go.Plain.b1 (a k u)) k:=Go.Plain.sumN_ext fun v hv=>by
    congr 1;rw [Bool.eq_iff_iff];exact ⟨fun x=>ha.sym v k (by omega) (by omega) x,fun x=>ha.sym k v (by omega) (by omega) x⟩
   have e3:Go.Plain.b1 (a k k) = 0:=by rw [ha.irr k (by omega)];rfl
   rw [Go.Plain.sumN,e1,e2,hq,Go.Plain.sumN,e3];omega
theorem sumR_even {g:G} (hg:g.valid = true):∃ q,sumR g.ports g.ids.length = 2 * q:=by
 have:=square_even (adj_adj hg) g.ids.length (Nat.le_refl _);rw [← dg_sumR hg _ (Nat.le_refl _)];exact this
theorem clu_chs {g:G} (hg:g.valid = true) {c:Cf} (h:Conf pClu g c) {s:Nat} (hs:Part s (enN pClu g c)) (hk:ind g s = true):Go.Plain.ChsC g.ids.length (adN g) (tgV g) (one c 0) (fun v=>s.testBit v) (hh c):=by
 obtain ⟨f1,f2,f3,f4,f5,f6,f7⟩:=val_facts hg;have hb:=clu_bool h;have hlt:∀ v,s.testBit v = true→v < g.ids.length:=fun v hv=>by
  have:=hs v hv;rw [en_bit,Bool.and_eq_true,decide_eq_true_eq] at this;exact this.1
 refine ⟨fun v hv=>⟨hlt v hv,by rw [← clu_en hg hb (hlt v hv)];exact hs v hv⟩,fun u v hu hv=>?_⟩;cases e:adj g u v with
 | false=>exact e
 | true=>have:=ind_iff.1 hk u v (by rw [f3];exact hlt u hu) hu e;rw [hv] at this;cases this
structure KIn (g:G) (c:Cf) (k:Cnt):Prop where
 inv:Go.Plain.CInv g.ids.length (adN g) (tgV g) (one c 0) (fun v=>k.pend.testBit v) (hh c) k.rounds
 mv:k.moves + Go.Plain.sumN (Go.Plain.phiC g.ids.length (adN g) (tgV g) (one c 0) (hh c)) g.ids.length≤5 * g.ids.length + 2 * sumR g.ports g.ids.length
theorem kin_start {g:G} (hg:g.valid = true) {c:Cf} (h:Conf pClu g c):KIn g c (cnt0 (enN pClu g c)):=by
 refine ⟨cinv_ext (tg_tgt hg) (fun _ _=>rfl) (fun _ _=>rfl) (fun v hv e=>by rw [cnt0];simp only;rw [clu_en hg (clu_bool h) hv];exact e) Go.Plain.CInv.start,?_⟩;have:=Go.Plain.movesC_all g.ids.length (adN g) (tgV g) (one c 0) (hh c);rw [dg_sumR hg _ (Nat.le_refl _)] at this;simp only [cnt0];omega
theorem kin_rounds {g:G} (hg:g.valid = true) {c:Cf} (h:Conf pClu g c) {k:Cnt} (hi:KIn g c k) (h0:enN pClu g c≠0):k.rounds≤2:=by
 apply Classical.byContradiction;intro hr;apply h0;rw [enN,nb_zero_iff];intro v hv;have h1:=hi.inv.r3 (by omega) v hv;have h2:=hi.inv.r5 (by omega) v hv;have he:=clu_en hg (clu_bool h) hv;rw [en_bit,decide_eq_true hv,Bool.true_and,Go.Plain.enC,h1,h2] at he;exact he
theorem kin_step {g:G} (hg:g.valid = true) {c:Cf} (h:Conf pClu g c) {k:Cnt} (hi:KIn g c k) (h0:enN pClu g c≠0) {s:Nat} (hs:Part s (enN pClu g c)) (hk:ind g s = true) (hc':Conf pClu g (stepC pClu g c s)) :
 KIn g (stepC pClu g c s) (k.add s (enN pClu g (stepC pClu g c s))):=by
 obtain ⟨f1,f2,f3,f4,f5,f6,f7⟩:=val_facts hg;have hr:=kin_rounds hg h hi h0;have ha:=adj_adj hg;have hT:=tg_tgt hg;have hch:=clu_chs hg h hs hk;have hm:∀ v,v < g.ids.length→Go.Plain.stM g.ids.length (adN g) (one c 0) (fun v=>s.testBit v) v = one (stepC pClu g c s) 0 v:=fun v hv=>(clu_step hg h hs hv).1.symm;have hH:∀ v,v < g.ids.length→Go.Plain.stH g.ids.length (adN g) (tgV g) (one c 0) (fun v=>s.testBit v) (hh c) v = hh (stepC pClu g c s) v:=fun v hv=>(clu_step hg h hs hv).2.symm;have hen:∀ v,v < g.ids.length→(enN pClu g (stepC pClu g c s)).testBit v = Go.Plain.enC g.ids.length (adN g) (tgV g) (Go.Plain.stM g.ids.length (adN g) (one c 0) (fun v=>s.testBit v)) (Go.Plain.stH g.ids.length (adN g) (tgV g) (one c 0) (fun v=>s.testBit v) (hh c)) v:=fun v hv=>by
  rw [clu_en hg (clu_bool hc') hv];exact (enC_ext hT hm hH hv).symm
 have hlf:∀ v,v < g.ids.length→(lft k s (enN pClu g (stepC pClu g c s))).testBit v = Go.Plain.leftC g.ids.length (adN g) (tgV g) (one c 0) (fun v=>k.pend.testBit v) (fun v=>s.testBit v) (hh c) v:=fun v hv=>by
  simp only [lft,Nat.testBit_and,ndiff_bit (show v < 32 by omega),hen v hv,Go.Plain.leftC]
 have hmv:(k.add s (enN pClu g (stepC pClu g c s))).moves = k.moves + cnt s 32:=by rw [Cnt.add];split <;> rfl
 have hcs:cnt s 32 = Go.Plain.cntS (fun v=>s.testBit v) g.ids.length:=by
  rw [Go.Plain.cntS,← cnt_sumI,show (32:Nat) = g.ids.length + (32 - g.ids.length) by omega,icnt_cut (ipart_lt hs)]
 have hphi:Go.Plain.sumN (Go.Plain.phiC g.ids.length (adN g) (tgV g) (one (stepC pClu g c s) 0) (hh (stepC pClu g c s))) g.ids.length = Go.Plain.sumN (Go.Plain.phiC g.ids.length (adN g) (tgV g) (Go.Plain.stM g.ids.length (adN g) (one c 0) (fun v=>s.testBit v)) (Go.Plain.stH g.ids.length (adN g) (tgV g) (one c 0) (fun v=>s.testBit v) (hh c))) g.ids.length:=pl_sum_ext fun v hv=>(phiC_ext hT hm hH hv).symm;refine ⟨?_,?_⟩
 . by_cases hz0:lft k s (enN pClu g (stepC pClu g c s)) = 0
   . have e:k.add s (enN pClu g (stepC pClu g c s)) = ⟨k.steps + 1,k.moves + cnt s 32,k.rounds + 1,k.rounds + 1,enN pClu g (stepC pClu g c s)⟩:=by rw [Cnt.add,if_pos hz0]
     rw [e];refine cinv_ext hT hm hH (fun v hv h=>?_) (hi.inv.next ha hT hch hr fun v hv=>by rw [← hlf v hv,hz0];simp);simp only;rw [hen v hv];exact h
   . have e:k.add s (enN pClu g (stepC pClu g c s)) = ⟨k.steps + 1,k.moves + cnt s 32,k.rounds,k.rounds + 1,lft k s (enN pClu g (stepC pClu g c s))⟩:=by rw [Cnt.add,if_neg hz0]
     rw [e];refine cinv_ext hT hm hH (fun v hv h=>?_) (hi.inv.same ha hT hch hr);simp only;rw [hlf v hv];exact h
 . rw [hmv,hcs,hphi];have:=Go.Plain.movesC_step ha hT hch;have:=hi.mv;omega
theorem kin_bounds {g:G} (hg:g.valid = true) {c:Cf} (h:Conf pClu g c) {k:Cnt} (hk:k.Ok) (hi:KIn g c k) (h0:enN pClu g c≠0):(k.begun:Int)≤3∧(k.moves:Int)≤5 * (g.ids.length:Int) + 4 * ((sumR g.ports g.ports.length:Int).tdiv 2):=by
 obtain ⟨f1,f2,f3,f4,f5,f6,f7⟩:=val_facts hg;have:=kin_rounds hg h hi h0;have:=hk.br;have:=hi.mv;obtain ⟨q,hq⟩:=sumR_even hg;rw [f3,hq,Int.tdiv_eq_ediv_of_nonneg (by omega)];omega
end Go.Proofs.YtkimongfladmfaaGreatDoor
