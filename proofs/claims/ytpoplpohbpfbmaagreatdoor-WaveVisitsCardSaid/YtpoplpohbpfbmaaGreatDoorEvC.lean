import Derived.Test.YtpoplpohbpfbmaaGreatDoorWV7
import Derived.Test.YtpoplpohbpfbmaaGreatDoorEngZ
import Derived.IntWalk
namespace Go.Proofs.YtpoplpohbpfbmaaGreatDoor
open Go.Eng
set_option maxRecDepth 100000
set_option linter.unusedVariables false
theorem wleg_iff {g:G} (h:g.conn=true) {c:Cf} (hc:Conf pWav g c):g.wleg c=true↔LegW g c:=by
 have hl:=hc.len;rw[G.wleg,h,wconf_of hc,Bool.true_and,Bool.true_and,Bool.and_eq_true,treeB_iff,orB_iff];have e1:(∀v,v<c.length->gI (gC c v) 0=gI (dst g 0) v/\gI (gC c v) 1=upI g v)↔TrC g c:=by
  rw[hl];refine forall_congr' fun v=>forall_congr' fun hv=>?_;rw[<- dg_int h hv]
 rw[e1];refine and_congr_right fun ht=>?_;rw[hl];refine forall_congr' fun v=>forall_congr' fun hv=>?_;have hp:=(ht v hv).2;have hp':gI (gC c v) 1=upI g v:=hp;have b2:=(wav_bool hc).1;have b3:=(wav_bool hc).2;by_cases h0:v=0
 . have e:tw g c v=-1:=by rw[tw,hp',h0,up_root h];rfl
   rw[e];exact⟨fun _ q=>(q h0).elim,fun _ q=>by omega⟩
 . obtain⟨i,hu⟩:=up_at h hv h0;have e:tw g c v=((parI g v:Nat):Int):=by rw[tw,hp',hu.up,if_pos (by omega),Int.toNat_natCast,hu.par]
   have e2:orD c v ((parI g v:Nat):Int)↔Go.Plain.Wave.ord (parI g) (sW c) (bW c) v:=by
    show gI (gC c (parI g v)) 2=1\/(gI (gC c v) 2=gI (gC c (parI g v)) 2/\gI (gC c v) 3=gI (gC c (parI g v)) 3)↔one c 2 (parI g v)=true\/(one c 2 v=one c 2 (parI g v)/\one c 3 v=one c 3 (parI g v));rw[one_tru b2 hu.rng,one_tru b2 hv,one_tru b3 hu.rng,one_tru b3 hv];cases one c 2 (parI g v)<;>cases one c 2 v<;>cases one c 3 (parI g v)<;>cases one c 3 v<;>simp[truI]
   rw[e,e2];exact⟨fun q _=>q (by omega),fun q _=>q h0⟩
def clmW (e:Int):V:=.agg [.int .i64 3,.bool true,.bool false,.int .i64 (2*e+1),.int .i64 (-1)]
def clmW0:V:=.agg [.int .i64 0,.bool false,.bool false,.int .i64 0,.int .i64 0]
theorem wclaim_ok (g:G) (hs:g.Small):Ret Tryz.prog 32 [g.v] (if g.conn=true then clmW g.ecc else clmW0):=by
 have hf:=wfit_ok g hs;have he:=ecc_ok g hs;refine ret_frz rfl ?_;refine fn_rule mixed Tryz.func32 rfl hc32 hr32 rfl ?_;cases hgc:g.conn with
 | true =>
   obtain⟨r1,r2⟩:=ecc_range g hgc;rw[hgc] at hf;rw[if_pos rfl]
   repeat' ((conv=>whnf);first|(refine Br.tt ?_)|(refine Ar.i64 (by omega) (by omega) ?_)|(refine hf.go ?_)|(refine he.go ?_))
   all_goals (conv=>whnf)
   exact VLe.rfl
 | false =>
   rw[hgc] at hf;rw[if_neg (by simp)]
   repeat' ((conv=>whnf);first|(refine Br.ff ?_)|(refine hf.go ?_))
   all_goals (conv=>whnf)
   exact VLe.rfl
def G.wact (g:G) (c:Cf):Nat:=if g.conn&&g.wconf c then nb (one c 2) c.length else 0
theorem wactive_ok (g:G) (hs:g.Small) (c:Cf) (hc:CSmall c):Ret Tryz.prog 12 [g.v,cV c] (.int .u32 (g.wact c)):=by
 have h0:=wconfiguration_ok g hs c hc;refine ret_frz rfl ?_;refine fn_rule mixed Tryz.func12 rfl hc12 hr12 rfl ?_;rw[G.wact];by_cases h:(g.conn&&g.wconf c)=true
 . rw[h] at h0;rw[if_pos h];rw[Bool.and_eq_true] at h;obtain⟨e1,e2⟩:=wconf_facts h.2;obtain⟨f1,f2,f3,f4,f5,f6,f7⟩:=val_facts (conn_facts h.1).1
   repeat' ((conv=>whnf);first|(refine Br.tt ?_)|(refine h0.go ?_))
   all_goals (conv=>whnf)
   refine loop_r mixed [12,13] (fun v:Nat=>[(5,.int .u32 (nb (one c 2) v)),(14,.int .i64 v)]) (fun m v=>m=c.length-v/\v<=c.length) c.length 0 ⟨rfl,Nat.zero_le _⟩ ?_ ?_
   . exact weak_b (fun _ _=>[(0,some 0)])
   rintro m v ⟨hm,hv⟩;by_cases hvl:v<c.length
   . have hr:=e2 v hvl;have hor:=one_or (c:=c) (x:=2) (v:=v) (by omega)
     repeat' ((conv=>whnf);first|(refine Ix.mk 2 rfl (by omega) ?_)|(refine Ar.sh01 (by omega) (by omega) (by omega) ?_)|(refine Br.dec ?_ ?_<;>intro _<;>try omega)|(refine Ar.i64 (by omega) (by omega) ?_)|(refine Ar.u32 (by omega) (by omega) ?_)|(refine Sv.mk _ rfl ?_)|(refine Nn.mk (by omega) ?_)|(refine Ix.nat (by omega) ?_))
     all_goals (conv=>whnf)
     all_goals
      refine⟨c.length-(v+1),v+1,by omega,⟨rfl,by omega⟩,?_⟩;refine weak_by (fun _ _=>[(0,some 0)]) ?_ ?_ rfl
      . repeat' (first|exact VRen.int hor|exact True.intro|(refine⟨⟨_,rfl,?_⟩,?_⟩)|exact VRen.kf rfl)
      . repeat' (first|exact True.intro|(refine⟨⟨_,rfl,?_⟩,?_⟩)|exact VRen.kf rfl|(refine And.intro ?_ ?_))
   . have ev:v=c.length:=by omega
     subst ev
     repeat' ((conv=>whnf);first|(refine Br.dec ?_ ?_<;>intro _<;>try omega))
     all_goals (conv=>whnf)
     exact VLe.rfl
 . rw[if_neg h];simp only[Bool.not_eq_true] at h;rw[h] at h0
   repeat' ((conv=>whnf);first|(refine Br.ff ?_)|(refine h0.go ?_))
   all_goals (conv=>whnf)
   exact VLe.rfl
end Go.Proofs.YtpoplpohbpfbmaaGreatDoor
namespace Go.Eng
open Go.MapKept (bytes_beq)
noncomputable def fN {β:Type} (n:Nat) (K:Nat->β):β:=@Nat.rec (fun _=>β) (K 0) (fun m _=>K (Nat.succ m)) n
theorem fN_eq {β:Type} (n:Nat) (K:Nat->β):fN n K=K n:=by cases n<;>rfl
noncomputable def fI {β:Type} (n:Int) (K:Int->β):β:=@Int.rec (fun _=>β) (fun a=>fN a fun a=>K (.ofNat a)) (fun a=>fN a fun a=>K (.negSucc a)) n
theorem fI_eq {β:Type} (n:Int) (K:Int->β):fI n K=K n:=by cases n<;>simp[fI,fN_eq]
noncomputable def fB {β:Type} (b:Bool) (K:Bool->β):β:=@Bool.rec (fun _=>β) (K false) (K true) b
theorem fB_eq {β:Type} (b:Bool) (K:Bool->β):fB b K=K b:=by cases b<;>rfl
noncomputable def lk {α:Type} (l:List (Nat×α)) (t:Nat):Option α :=
 @List.rec (Nat×α) (fun _=>Option α) none (fun p _ ih=>@Prod.rec Nat α (fun _=>Option α) (fun k v=>@Bool.rec (fun _=>Option α) ih (some v) (Nat.beq k t)) p) l
theorem lk_eq {α:Type} (l:List (Nat×α)) (t:Nat):lk l t=look l t:=by
 induction l with
 | nil=>rfl
 | cons p r ih =>
   obtain⟨k,v⟩:=p;unfold look;show @Bool.rec (fun _=>Option α) (lk r t) (some v) (Nat.beq k t)=_;cases Nat.beq k t<;>simp[ih]
noncomputable def nt {α:Type} (l:List α) (n:Nat):Option α :=
 @List.rec α (fun _=>Nat->Option α) (fun _=>none) (fun x _ ih n=>@Nat.rec (fun _=>Option α) (some x) (fun m _=>ih m) n) l n
theorem nt_eq {α:Type} (l:List α) (n:Nat):nt l n=nth l n:=by
 induction l generalizing n with
 | nil=>rfl
 | cons x r ih=>cases n with
   | zero=>rfl
   | succ n=>exact ih n
theorem nth_get {α:Type}:∀(l:List α) (n:Nat),nth l n=l[n]?
 | [],n=>by simp[nth]
 | x::r,0=>by simp[nth]
 | x::r,n+1=>by simp[nth,nth_get r n]
noncomputable def dr {α:Type} (l:List α) (n:Nat):List α :=
 @List.rec α (fun _=>Nat->List α) (fun _=>[]) (fun x r ih n=>@Nat.rec (fun _=>List α) (x::r) (fun m _=>ih m) n) l n
theorem dr_eq {α:Type} (l:List α) (n:Nat):dr l n=l.drop n:=by
 induction l generalizing n with
 | nil=>simp[dr]
 | cons x r ih=>cases n with
   | zero=>rfl
   | succ n=>exact ih n
noncomputable def fH {α β:Type} (l:List α) (K:List α->β):β:=@List.rec α (fun _=>β) (K []) (fun x r _=>K (x::r)) l
theorem fH_eq {α β:Type} (l:List α) (K:List α->β):fH l K=K l:=by cases l<;>rfl
noncomputable def tk {α β:Type} (n:Nat):List α->(List α->Option β)->Option β :=
 @Nat.rec (fun _=>List α->(List α->Option β)->Option β) (fun _ K=>K []) (fun _ ih l K=>@List.rec α (fun _=>Option β) none (fun x r _=>ih r fun q=>K (x::q)) l) n
theorem tk_eq {α β:Type} (n:Nat) (l:List α) (K:List α->Option β):tk n l K=if n<=l.length then K (l.take n) else none:=by
 induction n generalizing l K with
 | zero=>simp only[Nat.zero_le,if_true,List.take_zero];rfl
 | succ n ih=>cases l with
   | nil=>rfl
   | cons x r =>
     show tk n r (fun q=>K (x::q))=_;rw[ih];simp
def bl:Nat->Nat->List UInt8
 | 0,_=>[]
 | l+1,c=>UInt8.ofNat (c % 256)::bl l (c / 256)
def bytesOf (l c:Nat):ByteArray:=⟨⟨bl l c⟩⟩
def encL:List UInt8->Nat
 | []=>0
 | b::r=>b.toNat+256*encL r
theorem bl_length:∀(l c:Nat),(bl l c).length=l
 | 0,_=>rfl
 | l+1,c=>by simp[bl,bl_length]
theorem bl_enc:∀(l:List UInt8),bl l.length (encL l)=l
 | []=>rfl
 | b::r=>by
   have hb:=b.toNat_lt;simp only[List.length_cons,bl,encL];rw[show(b.toNat+256*encL r) % 256=b.toNat by omega,show(b.toNat+256*encL r) / 256=encL r by omega,bl_enc r];simp
theorem bl_get:∀(l c m:Nat),m<l->(bl l c)[m]?=some (UInt8.ofNat (c / 256 ^ m % 256))
 | 0,c,m,h=>by omega
 | l+1,c,0,h=>by simp[bl]
 | l+1,c,m+1,h=>by
   simp only[bl,List.getElem?_cons_succ];rw[bl_get l _ m (by omega),Nat.div_div_eq_div_mul,Nat.pow_succ,Nat.mul_comm 256]
theorem bl_drop:∀(l c m:Nat),(bl l c).drop m=bl (l-m) (c / 256 ^ m)
 | 0,c,m=>by simp[bl]
 | l+1,c,0=>by simp
 | l+1,c,m+1=>by
   simp only[bl,List.drop_succ_cons];rw[bl_drop l _ m,Nat.div_div_eq_div_mul,Nat.pow_succ,Nat.mul_comm 256,show l+1-(m+1)=l-m by omega]
theorem bl_take:∀(l c m:Nat),m<=l->(bl l c).take m=bl m c
 | l,c,0,h=>by simp[bl]
 | 0,c,m+1,h=>by omega
 | l+1,c,m+1,h=>by simp[bl,bl_take l _ m (by omega)]
theorem bl_mod:∀(l c:Nat),bl l (c % 256 ^ l)=bl l c
 | 0,c=>rfl
 | l+1,c=>by
   simp only[bl];have h1:c % 256 ^ (l+1) % 256=c % 256:=by
    rw[Nat.pow_succ,Nat.mul_comm];exact Nat.mod_mul_right_mod _ _ _
   have h2:c % 256 ^ (l+1) / 256=c / 256 % 256 ^ l:=by
    rw[Nat.pow_succ,Nat.mul_comm,Nat.mod_mul_right_div_self]
   rw[h1,h2,bl_mod]
theorem bl_inj:∀(l c d:Nat),bl l c=bl l d->c % 256 ^ l=d % 256 ^ l
 | 0,c,d,_=>by simp[Nat.mod_one]
 | l+1,c,d,h=>by
   simp only[bl,List.cons.injEq] at h;have h1:c % 256=d % 256:=by
    have:=congrArg UInt8.toNat h.1;simpa using this
   have h2:=bl_inj l _ _ h.2;rw[Nat.pow_succ,Nat.mul_comm,Nat.mod_mul,Nat.mod_mul,h1,h2]
theorem bl_app:∀(l c l' c':Nat),bl l c++bl l' c'=bl (l+l') (c % 256 ^ l+256 ^ l*c')
 | 0,c,l',c'=>by simp[bl,Nat.mod_one]
 | l+1,c,l',c'=>by
   rw[show l+1+l'=(l+l')+1 by omega];simp only[bl,List.cons_append];rw[bl_app l _ l' c'];have e:c % 256 ^ (l+1)=c % 256+256*(c / 256 % 256 ^ l):=by
    rw[Nat.pow_succ,Nat.mul_comm (256 ^ l),Nat.mod_mul]
   have e2:256 ^ (l+1)*c'=256*(256 ^ l*c'):=by rw[Nat.pow_succ,Nat.mul_comm (256 ^ l),Nat.mul_assoc]
   rw[e,e2];have hlt:c % 256<256:=Nat.mod_lt _ (by omega);rw[show(c % 256+256*(c / 256 % 256 ^ l)+256*(256 ^ l*c')) % 256=c % 256 by omega,show(c % 256+256*(c / 256 % 256 ^ l)+256*(256 ^ l*c')) / 256=c / 256 % 256 ^ l+256 ^ l*c' by omega]
theorem bytesOf_size (l c:Nat):(bytesOf l c).size=l:=by
 show(bl l c).length=l;exact bl_length l c
theorem bytesOf_enc (b:ByteArray):bytesOf b.size (encL b.data.toList)=b:=by
 obtain⟨⟨l⟩⟩:=b;show ByteArray.mk ⟨bl l.length (encL l)⟩=_;rw[bl_enc]
theorem bytesOf_get (l c m:Nat) (h:m<l):((bytesOf l c).get! m).toNat=c / 256 ^ m % 256:=by
 have h1:=bl_get l c m h;show((bytesOf l c).data[m]!).toNat=_;have:(bytesOf l c).data[m]! = UInt8.ofNat (c / 256 ^ m % 256):=by
  rw[getElem!_def,show(bytesOf l c).data[m]?=some (UInt8.ofNat (c / 256 ^ m % 256)) from by simpa[bytesOf] using h1]
 rw[this];simp
theorem bytesOf_extract (l c lo hi:Nat) (h:hi<=l):(bytesOf l c).extract lo hi=bytesOf (hi-lo) (c / 256 ^ lo):=by
 apply ByteArray.ext;rw[ByteArray.data_extract];show(Array.mk (bl l c)).extract lo hi=Array.mk (bl (hi-lo) (c / 256 ^ lo));apply Array.ext';simp only[Array.toList_extract,List.extract_eq_take_drop];rw[bl_drop,bl_take _ _ _ (by omega)]
theorem bytesOf_mod (l c:Nat):bytesOf l (c % 256 ^ l)=bytesOf l c:=by unfold bytesOf;rw[bl_mod]
theorem bytesOf_app (l c l' c':Nat):bytesOf l c++bytesOf l' c'=bytesOf (l+l') (c % 256 ^ l+256 ^ l*c'):=by
 apply ByteArray.ext;rw[ByteArray.data_append];show Array.mk (bl l c)++Array.mk (bl l' c')=Array.mk _;simp[bl_app]
def eqS (l c l' c':Nat):Bool:=match Nat.beq l l' with
 | true=>Nat.beq (Nat.mod c (Nat.pow 256 l)) (Nat.mod c' (Nat.pow 256 l))
 | false=>false
theorem eqS_eq (l c l' c':Nat):eqS l c l' c'=(bytesOf l c == bytesOf l' c'):=by
 unfold eqS;have hb:(bytesOf l c == bytesOf l' c')=decide (bytesOf l c=bytesOf l' c'):=by
  rw[Bool.eq_iff_iff,bytes_beq];simp
 rw[hb];split
 . rename_i h;have h:=Nat.eq_of_beq_eq_true h;subst h;rw[Bool.eq_iff_iff,Nat.beq_eq,decide_eq_true_eq];constructor
   . intro h;have h:c % 256 ^ l=c' % 256 ^ l:=h;rw[<- bytesOf_mod l c,h,bytesOf_mod]
   . intro h;exact bl_inj l c c' (by simpa[bytesOf] using h)
 . rename_i h;symm;rw[decide_eq_false_iff_not];intro e;have:=congrArg ByteArray.size e;rw[bytesOf_size,bytesOf_size] at this;subst this;simp at h
inductive C where
 | nilptr|nilmap|nilfunc|niliface
 | unit
 | map (k:Nat)
 | fn (f:Fn) (b:Bool) (cap:List C)
 | iface (t:TypeId) (v:C)
 | fe (n s:Nat) (z:List C) (rows:List (List C)) (i j:Nat)
 | oel (k s i j:Nat)
 | fz (n s:Nat) (full:Bool) (z:List C) (rows:List (List C))
 | tup (vs:List C)
 | agg (cs:List C)
 | nilslice
 | vec (k s lo len:Nat)
 | loc (k off:Nat)
 | str (l c:Nat)
 | bool (b:Bool)
 | int (k:IntKind) (n:Int)
 deriving Inhabited
def lastV:List V->V
 | []=>default
 | [v]=>v
 | _::r=>lastV r
def tabz (z:List V) (rows:List (List V)):Nat->Nat->V:=fun i j=>(rows.getD i z).getD j (lastV z)
mutual
def C.v:C->V
 | .bool b=>.bool b
 | .int k n=>.int k n
 | .str l c=>.str (bytesOf l c)
 | .nilptr=>.nilptr | .nilslice=>.nilslice | .nilmap=>.nilmap | .nilfunc=>.nilfunc | .niliface=>.niliface
 | .loc k off=>.loc k off
 | .oel k s i j=>.oel k s i j
 | .vec k s lo len=>.vec k s lo len
 | .fz n s full z rows=>.fz n s full (tabz (C.vs z) (C.vss rows))
 | .fe n s z rows i j=>.fe n s (tabz (C.vs z) (C.vss rows)) i j
 | .map k=>.map k
 | .fn f b cap=>.fn f b (C.vs cap)
 | .iface t v=>.iface t v.v
 | .agg cs=>.agg (C.vs cs)
 | .tup cs=>.tup (C.vs cs)
 | .unit=>.raw (.tuple #[])
def C.vs:List C->List V
 | []=>[]
 | c::r=>c.v::C.vs r
def C.vss:List (List C)->List (List V)
 | []=>[]
 | c::r=>C.vs c::C.vss r
end
theorem C.vs_map:∀(l:List C),C.vs l=l.map C.v
 | []=>by simp[C.vs]
 | c::r=>by simp[C.vs,C.vs_map r]
theorem C.vss_map:∀(l:List (List C)),C.vss l=l.map C.vs
 | []=>by simp[C.vss]
 | c::r=>by simp[C.vss,C.vss_map r]
theorem C.vs_length (l:List C):(C.vs l).length=l.length:=by simp[C.vs_map]
theorem C.vs_get (l:List C) (i:Nat):(C.vs l)[i]?=(l[i]?).map C.v:=by simp[C.vs_map]
theorem C.vss_get (l:List (List C)) (i:Nat):(C.vss l)[i]?=(l[i]?).map C.vs:=by simp[C.vss_map]
abbrev CEnv:=List (Nat×C)
inductive CB where
 | cells (cs:List C)
 | vec (n s:Nat) (z:List C) (rows:List (List C))
 | map (ik:IntKind) (es:List (Int×C))
 | mapS (es:List ((Nat×Nat)×C))
 deriving Inhabited
abbrev COwn:=List (Nat×CB)
def CB.b:CB->Blk
 | .cells cs=>.cells (C.vs cs)
 | .vec n s z rows=>.vec n s (tabz (C.vs z) (C.vss rows))
 | .map ik es=>.map (.one ik) (es.map fun p=>(p.1,p.2.v))
 | .mapS es=>.map .str (es.map fun p=>(bytesOf p.1.1 p.1.2,p.2.v))
def envV (e:CEnv):Env:=e.map fun p=>(p.1,p.2.v)
def ownV (o:COwn):Own:=o.map fun p=>(p.1,p.2.b)
theorem look_map {α β:Type} (f:α->β) (l:List (Nat×α)) (t:Nat):look (l.map fun p=>(p.1,f p.2)) t=(look l t).map f:=by
 induction l with
 | nil=>rfl
 | cons p r ih =>
   simp only[List.map_cons,look];cases Nat.beq p.1 t<;>simp[ih]
theorem look_envV {e:CEnv} {t:Nat} {c:C} (h:lk e t=some c):look (envV e) t=some c.v:=by
 rw[lk_eq] at h;rw[envV,look_map,h];rfl
theorem look_ownV {o:COwn} {t:Nat} {c:CB} (h:lk o t=some c):look (ownV o) t=some c.b:=by
 rw[lk_eq] at h;rw[ownV,look_map,h];rfl
def ofV0 (v:V):Option C:=match v with
 | .bool b=>some (.bool b)
 | .int k n=>some (.int k n)
 | .str s=>some (.str s.size (encL s.data.toList))
 | .nilptr=>some .nilptr | .nilslice=>some .nilslice | .nilmap=>some .nilmap | .nilfunc=>some .nilfunc | .niliface=>some .niliface
 | .fn f b []=>some (.fn f b [])
 | _=>none
theorem ofV0_ok {v:V} {c:C} (h:ofV0 v=some c):c.v=v:=by
 unfold ofV0 at h;split at h<;>first
  | (cases h;done)
  | (cases h;simp[C.v,C.vs,bytesOf_enc])
noncomputable def ofVs (l:List V):Option (List C):=@List.rec V (fun _=>Option (List C)) (some []) (fun v _ ih=>match ofV0 v with
 | some c=>match ih with
   | some l=>some (c::l)
   | none=>none
 | none=>none) l
theorem ofVs_ok:∀(l:List V) {cs:List C},ofVs l=some cs->C.vs cs=l
 | [],cs,h=>by have h:some []=some cs:=h;cases h;simp[C.vs]
 | v::r,cs,h=>by
   have h:(match ofV0 v with
    | some c=>match ofVs r with
      | some l=>some (c::l)
      | none=>none
    | none=>none)=some cs:=h
   split at h
   . rename_i c hc;split at h
     . rename_i l hl;cases h;simp[C.vs,ofV0_ok hc,ofVs_ok r hl]
     . cases h
   . cases h
noncomputable def ofV (v:V):Option C:=match v with
 | .agg cs=>match ofVs cs with|some l=>some (.agg l)|none=>none
 | v=>ofV0 v
theorem ofV_ok (v:V) {c:C} (h:ofV v=some c):c.v=v:=by
 unfold ofV at h;split at h
 . split at h
   . rename_i l hl;cases h;simp[C.v,ofVs_ok _ hl]
   . cases h
 . exact ofV0_ok h
end Go.Eng
namespace Go.Eng
open Go.IntWalk
noncomputable def gx (x:X) (env:CEnv):Option C:=match x with | .t n=>lk env n | .k v=>ofV v
theorem gx_ok {x:X} {env:CEnv} {c:C} {K:V->Prop} (h:gx x env=some c) (hK:K c.v):x.get (envV env) K:=by
 cases x with
 | t n=>simp only[gx] at h;simp only[X.get,look_envV h];exact hK
 | k v=>simp only[gx] at h;rw[ofV_ok v h] at hK;exact hK
noncomputable def gxs (env:CEnv) (l:List X):Option (List C):=@List.rec X (fun _=>Option (List C)) (some []) (fun x _ ih=>match gx x env with
 | some c=>match ih with|some l=>some (c::l)|none=>none
 | none=>none) l
theorem gxs_cons (env:CEnv) (x:X) (r:List X):gxs env (x::r)=match gx x env with
 | some c=>match gxs env r with|some l=>some (c::l)|none=>none
 | none=>none:=rfl
theorem gxs_ok {env:CEnv}:∀{xs:List X} {cs:List C} {K:List V->Prop},gxs env xs=some cs->K (C.vs cs)->X.gets (envV env) xs K
 | [],cs,K,h,hK=>by have h:some []=some cs:=h;cases h;simpa[C.vs,X.gets] using hK
 | x::r,cs,K,h,hK=>by
   rw[gxs_cons] at h;split at h
   . rename_i c hc;split at h
     . rename_i l hl;cases h;exact gx_ok hc (gxs_ok hl (by simpa[C.vs] using hK))
     . cases h
   . cases h
theorem cmp_ok {b:Bool} {K:V->Prop} (hK:K (.bool b)):cmpK b K:=by
 cases b
 . exact⟨fun h=>(by cases h),fun _=>hK⟩
 . exact⟨fun _=>hK,fun h=>(by cases h)⟩
noncomputable def cmpC (b:Bool):Option C:=fB b fun b=>some (.bool b)
theorem cmpC_ok {b:Bool} {c:C} {K:V->Prop} (h:cmpC b=some c) (hK:K c.v):cmpK b K:=by
 simp only[cmpC,fB_eq,Option.some.injEq] at h;subst h;exact cmp_ok (by simpa[C.v] using hK)
def kEq (a b:IntKind):Bool:=Nat.beq a.ctorIdx b.ctorIdx
theorem kEq_ok {a b:IntKind} (h:kEq a b=true):a=b:=by cases a<;>cases b<;>first|rfl|(exact absurd h (by decide))
def mxN:IntKind->Nat
 | .i8=>127 | .i16=>32767 | .i32=>2147483647 | .i64=>9223372036854775807
 | .u8=>255 | .u16=>65535 | .u32=>4294967295 | .u64=>18446744073709551615
def wrC (k:IntKind) (n:Int):Int:=match n with
 | .ofNat m=>match Nat.ble m (mxN k) with|true=>.ofNat m|false=>k.wrap (.ofNat m)
 | .negSucc m=>k.wrap (.negSucc m)
theorem wrC_eq (k:IntKind) (n:Int):wrC k n=k.wrap n:=by
 unfold wrC;split
 . split
   . rename_i h;have h:=Nat.le_of_ble_eq_true h;symm;rw[Int.ofNat_eq_natCast];cases k<;>simp only[mxN] at h
     . exact i8_in _ (by omega)
     . exact i16_in _ (by omega)
     . exact i32_in _ (by omega)
     . exact i64_in _ (by omega)
     . exact u8_in _ (by omega)
     . exact u16_in _ (by omega)
     . exact u32_in _ (by omega)
     . exact u64_in _ (by omega)
   . rfl
 . rfl
noncomputable def arC (k:IntKind) (n:Int):Option C:=fI (wrC k n) fun m=>some (.int k m)
theorem arC_ok {k:IntKind} {n:Int} {c:C} {K:V->Prop} (h:arC k n=some c) (hK:K c.v):Ar k n fun m=>K (.int k m):=by
 simp only[arC,fI_eq,wrC_eq,Option.some.injEq] at h;subst h;exact⟨_,rfl,by simpa[C.v] using hK⟩
noncomputable def svC (k:IntKind) (n:Int):Option C:=fI n fun m=>some (.int k m)
theorem svC_ok {k:IntKind} {n:Int} {c:C} {K:V->Prop} (h:svC k n=some c) (hK:K c.v):Sv n fun m=>K (.int k m):=by
 simp only[svC,fI_eq,Option.some.injEq] at h;subst h;exact⟨_,rfl,by simpa[C.v] using hK⟩
def ieq:Int->Int->Bool
 | .ofNat a,.ofNat b=>Nat.beq a b
 | .negSucc a,.negSucc b=>Nat.beq a b
 | _,_=>false
theorem ieq_eq (a b:Int):ieq a b=(a == b):=by
 rw[Bool.eq_iff_iff,beq_iff_eq];cases a<;>cases b<;>simp[ieq]<;>omega
def ile:Int->Int->Bool
 | .ofNat a,.ofNat b=>Nat.ble a b
 | .negSucc a,.negSucc b=>Nat.ble b a
 | .negSucc _,.ofNat _=>true
 | .ofNat _,.negSucc _=>false
theorem ile_eq (a b:Int):ile a b=decide (a<=b):=by
 rw[Bool.eq_iff_iff,decide_eq_true_eq];cases a<;>cases b<;>simp[ile]<;>omega
noncomputable def cint (op:BinOp) (k:IntKind) (a b:Int):Option C :=
 match op with
 | .add=>arC k (Int.add a b)
 | .sub=>arC k (Int.sub a b)
 | .mul=>arC k (Int.mul a b)
 | .quo=>match ieq b 0 with|true=>none|false=>arC k (a.tdiv b)
 | .rem=>match ieq b 0 with|true=>none|false=>svC k (a.tmod b)
 | .and=>svC k (bitI .and k a b)
 | .or=>svC k (bitI .or k a b)
 | .xor=>svC k (bitI .xor k a b)
 | .andNot=>svC k (bitI .andNot k a b)
 | .eql=>cmpC (ieq a b)
 | .neq=>cmpC (!(ieq a b))
 | .lss=>cmpC (!(ile b a))
 | .leq=>cmpC (ile a b)
 | .gtr=>cmpC (!(ile a b))
 | .geq=>cmpC (ile b a)
 | _=>none
theorem cint_ok {bt:BT} {op:BinOp} {k:IntKind} {a b:Int} {c:C} {K:V->Prop} (h:cint op k a b=some c) (hK:K c.v):vbin bt op (.int k a) (.int k b) K:=by
 unfold cint at h;cases op<;>simp only[vbin,decide_true]<;>simp only at h
 case add=>exact arC_ok h hK
 case sub=>exact arC_ok h hK
 case mul=>exact arC_ok h hK
 case quo =>
  split at h
  . cases h
  . rename_i hb;rw[ieq_eq] at hb;exact⟨by simpa using hb,arC_ok h hK⟩
 case rem =>
  split at h
  . cases h
  . rename_i hb;rw[ieq_eq] at hb;exact⟨by simpa using hb,svC_ok h hK⟩
 case and=>exact svC_ok h hK
 case or=>exact svC_ok h hK
 case xor=>exact svC_ok h hK
 case andNot=>exact svC_ok h hK
 case eql=>rw[ieq_eq] at h;exact cmpC_ok h hK
 case neq=>rw[ieq_eq] at h;exact cmpC_ok h hK
 case lss =>
  rw[ile_eq] at h;rw[show decide (a<b)=!decide (b<=a) by rw[Bool.eq_iff_iff];simp];exact cmpC_ok h hK
 case leq=>rw[ile_eq] at h;exact cmpC_ok h hK
 case gtr =>
  rw[ile_eq] at h;rw[show decide (a > b)=!decide (a<=b) by rw[Bool.eq_iff_iff];simp];exact cmpC_ok h hK
 case geq =>
  rw[ile_eq] at h;exact cmpC_ok h hK
 case shl=>cases h
 case shr=>cases h
noncomputable def strC (l c:Nat):Option C:=fN l fun l=>fN c fun c=>some (.str l c)
theorem strC_ok {l d:Nat} {c:C} (h:strC l d=some c):c.v=.str (bytesOf l d):=by
 simp only[strC,fN_eq,Option.some.injEq] at h;subst h;simp[C.v]
noncomputable def b_int2 (op:BinOp) (k:IntKind) (a:Int) (k':IntKind) (b:Int):Option C:=match op with
 | .shl=>match b with | .ofNat n=>arC k (a*2 ^ (min n k.bits)) | .negSucc _=>none
 | .shr=>match b with | .ofNat n=>svC k (a.fdiv (2 ^ (min n k.bits))) | .negSucc _=>none
 | op=>match kEq k k' with|true=>cint op k a b|false=>none
noncomputable def b_int (op:BinOp) (k:IntKind) (a:Int) (y:C):Option C:=match y with
 | .int k' b=>b_int2 op k a k' b
 | _=>none
noncomputable def b_str2 (op:BinOp) (l c l' c':Nat):Option C:=match op with
 | .eql=>cmpC (eqS l c l' c')
 | .neq=>cmpC (!(eqS l c l' c'))
 | .add=>match Nat.ble (l+l') 9223372036854775807 with
   | true=>strC (l+l') (Nat.add (Nat.mod c (Nat.pow 256 l)) (Nat.mul (Nat.pow 256 l) c'))
   | false=>none
 | _=>none
noncomputable def b_str (op:BinOp) (l c:Nat) (y:C):Option C:=match y with
 | .str l' c'=>b_str2 op l c l' c'
 | _=>none
noncomputable def b_bool (bt:BT) (op:BinOp) (a:Bool) (y:C):Option C:=match y with
 | .bool b=>match bt with
   | .bool=>match op with
     | .eql=>cmpC (a == b)
     | .neq=>cmpC (!(a == b))
     | _=>none
   | _=>none
 | _=>none
def b_slc (bt:BT) (op:BinOp) (n:Nat) (y:C):Option C:=match n with
 | 0=>none
 | _+1=>match y with
   | .nilslice=>match bt with
     | .slc=>match op with
       | .eql=>some (.bool false)
       | .neq=>some (.bool true)
       | _=>none
     | _=>none
   | _=>none
def b_nil (bt:BT) (op:BinOp) (y:C):Option C:=match y with
 | .nilslice=>match bt with
   | .slc=>match op with
     | .eql=>some (.bool true)
     | .neq=>some (.bool false)
     | _=>none
   | _=>none
 | _=>none
def andO (b:Bool) (o:Option Bool):Option Bool:=match o with
 | some t=>some (b&&t)
 | none=>none
theorem andO_some {b t:Bool} {o:Option Bool} (h:andO b o=some t):∃u,o=some u/\t=(b&&u):=by
 cases o with
 | none=>cases h
 | some u=>exact⟨u,rfl,(Option.some.inj h).symm⟩
noncomputable def eqFC:List Lf->List C->List C->Option Bool
 | [],[],[]=>some true
 | .int::ls,.int k a::r,.int k' b::r'=>match kEq k k' with
   | true=>andO (ieq a b) (eqFC ls r r')
   | false=>none
 | .bool::ls,.bool a::r,.bool b::r'=>andO (a == b) (eqFC ls r r')
 | .str::ls,.str l c::r,.str l' c'::r'=>andO (eqS l c l' c') (eqFC ls r r')
 | _,_,_=>none
theorem eqFC_ok:∀(ls:List Lf) (xs ys:List C) (t:Bool) (K:Bool->Prop),eqFC ls xs ys=some t->K t->eqLK ls (C.vs xs) (C.vs ys) K
 | [],[],[],t,K,h,hK=>by
   simp only[eqFC,Option.some.injEq] at h;subst h;simpa only[C.vs,eqLK] using hK
 | .int::ls,.int k a::r,.int k' b::r',t,K,h,hK=>by
   simp only[eqFC] at h;split at h
   . rename_i hk;have:=kEq_ok hk;subst this;obtain⟨u,e1,rfl⟩:=andO_some h;simp only[C.vs,C.v,eqLK,decide_true];exact eqFC_ok ls r r' u _ e1 (by rw[<- ieq_eq];exact hK)
   . cases h
 | .bool::ls,.bool a::r,.bool b::r',t,K,h,hK=>by
   simp only[eqFC] at h;obtain⟨u,e1,rfl⟩:=andO_some h;simp only[C.vs,C.v,eqLK];exact eqFC_ok ls r r' u _ e1 hK
 | .str::ls,.str l c::r,.str l' c'::r',t,K,h,hK=>by
   simp only[eqFC] at h;obtain⟨u,e1,rfl⟩:=andO_some h;simp only[C.vs,C.v,eqLK];exact eqFC_ok ls r r' u _ e1 (by rw[<- eqS_eq];exact hK)
 | [],_::_,_,_,_,h,_=>by simp[eqFC] at h
 | [],[],_::_,_,_,h,_=>by simp[eqFC] at h
 | _::_,[],_,_,_,h,_=>by simp[eqFC] at h
 | _::_,_::_,[],_,_,h,_=>by simp[eqFC] at h
noncomputable def b_agg (bt:BT) (op:BinOp) (xs:List C) (y:C):Option C:=match y with
 | .agg ys=>match bt with
   | .flat ls=>match op with
     | .eql=>match eqFC ls xs ys with|some t=>cmpC t|none=>none
     | .neq=>match eqFC ls xs ys with|some t=>cmpC (!t)|none=>none
     | _=>none
   | _=>none
 | _=>none
noncomputable def cbin (bt:BT) (op:BinOp) (x y:C):Option C :=
 match x with
 | .agg xs=>b_agg bt op xs y
 | .int k a=>b_int op k a y
 | .str l c=>b_str op l c y
 | .bool a=>b_bool bt op a y
 | .fz n _ _ _ _=>b_slc bt op n y
 | .vec _ _ _ n=>b_slc bt op n y
 | .nilslice=>b_nil bt op y
 | _=>none
theorem cbin_ok {bt:BT} {op:BinOp} {x y c:C} {K:V->Prop} (h:cbin bt op x y=some c) (hK:K c.v):vbin bt op x.v y.v K:=by
 unfold cbin at h;split at h
 . unfold b_agg at h;split at h
   . split at h
     . simp only[C.v,vbin];split at h
       . split at h
         . rename_i t ht;exact eqFC_ok _ _ _ t _ ht (cmpC_ok h hK)
         . cases h
       . split at h
         . rename_i t ht;exact eqFC_ok _ _ _ t _ ht (cmpC_ok h hK)
         . cases h
       . cases h
     . cases h
   . cases h
 . unfold b_int at h;split at h
   . rename_i k a _ k' b;unfold b_int2 at h;simp only[C.v];split at h
     . split at h
       . rename_i n;simp only[vbin];refine⟨by simp,?_⟩;have e:(Int.ofNat n).toNat=n:=rfl;rw[e];exact arC_ok h hK
       . cases h
     . split at h
       . rename_i n;simp only[vbin];refine⟨by simp,?_⟩;have e:(Int.ofNat n).toNat=n:=rfl;rw[e];exact svC_ok h hK
       . cases h
     . split at h
       . rename_i hk;have:=kEq_ok hk;subst this;exact cint_ok h hK
       . cases h
   . cases h
 . unfold b_str at h;split at h
   . unfold b_str2 at h;simp only[C.v,vbin];split at h
     . rw[eqS_eq] at h;exact cmpC_ok h hK
     . rw[eqS_eq] at h;exact cmpC_ok h hK
     . split at h
       . rename_i l c _ l' c' hle;rw[bytesOf_size,bytesOf_size];refine⟨fun _=>?_,fun hf=>?_⟩
         . rw[bytesOf_app];rw[strC_ok h] at hK;exact hK
         . have:=Nat.le_of_ble_eq_true hle;simp[this] at hf
       . cases h
     . cases h
   . cases h
 . unfold b_bool at h;split at h
   . split at h
     . split at h
       . simp only[C.v,vbin];exact cmpC_ok h hK
       . simp only[C.v,vbin];exact cmpC_ok h hK
       . cases h
     . cases h
   . cases h
 . unfold b_slc at h;split at h
   . cases h
   . split at h
     . split at h
       . split at h
         . cases h;simp only[C.v,vbin];exact⟨fun e=>(by cases e),fun _=>(by simpa[C.v] using hK)⟩
         . cases h;simp only[C.v,vbin];exact⟨fun e=>(by cases e),fun _=>(by simpa[C.v] using hK)⟩
         . cases h
       . cases h
     . cases h
 . unfold b_slc at h;split at h
   . cases h
   . split at h
     . split at h
       . split at h
         . cases h;simp only[C.v,vbin];exact⟨fun e=>(by cases e),fun _=>(by simpa[C.v] using hK)⟩
         . cases h;simp only[C.v,vbin];exact⟨fun e=>(by cases e),fun _=>(by simpa[C.v] using hK)⟩
         . cases h
       . cases h
     . cases h
 . unfold b_nil at h;split at h
   . split at h
     . split at h
       . cases h;simp only[C.v,vbin];simpa[C.v] using hK
       . cases h;simp only[C.v,vbin];simpa[C.v] using hK
       . cases h
     . cases h
   . cases h
 . cases h
noncomputable def cbd (x:Option X) (env:CEnv) (d n:Nat):Option Nat:=match x with
 | none=>some d
 | some x=>match gx x env with
   | some (.int _ (.ofNat m))=>match Nat.ble m n with|true=>some m|false=>none
   | _=>none
theorem cbd_ok {x:Option X} {env:CEnv} {d n m:Nat} {K:Nat->Prop} (h:cbd x env d n=some m) (hK:K m):bdK x (envV env) d n K:=by
 unfold cbd at h;split at h
 . cases h;exact hK
 . split at h
   . rename_i hx;split at h
     . rename_i hb;cases h;refine gx_ok hx ?_;simp only[C.v];exact⟨_,rfl,Nat.le_of_ble_eq_true hb,hK⟩
     . cases h
   . cases h
theorem shiftF_tabz (l:Nat) (z:List V) (rows:List (List V)):shiftF l (tabz z rows)=tabz z (rows.drop l):=by
 funext i j;rw[shiftF_eq];simp[tabz,List.getD_eq_getElem?_getD]
theorem shiftF_tabzC (l:Nat) (z:List C) (rows:List (List C)):shiftF l (tabz (C.vs z) (C.vss rows))=tabz (C.vs z) (C.vss (rows.drop l)):=by
 rw[shiftF_tabz,C.vss_map,C.vss_map,List.map_drop]
noncomputable def cslc (own:COwn) (s:Nat) (x:X) (lo hi:Option X) (env:CEnv):Option C :=
 match gx x env with
 | some (.fz n s' full z rows)=>match Nat.beq s s' with
   | true=>match cbd hi env n n with
     | some h=>match cbd lo env 0 h with
       | some l=>fN (h-l) fun m=>fH (dr rows l) fun q=>some (.fz m s (match hi with|none=>full|some _=>false) z q)
       | none=>none
     | none=>none
   | false=>none
 | some .nilslice=>match cbd hi env 0 0 with
   | some h=>match cbd lo env 0 h with
     | some _=>some .nilslice
     | none=>none
   | none=>none
 | some (.vec k s' lo0 len)=>match Nat.beq s s' with
   | true=>match lk own k with
     | some (.vec n _ _ _)=>match Nat.ble (lo0+len) n with
       | true=>match cbd hi env len (n-lo0) with
         | some h=>match cbd lo env 0 h with
           | some l=>fN (lo0+l) fun a=>fN (h-l) fun b=>some (.vec k s a b)
           | none=>none
         | none=>none
       | false=>none
     | _=>match cbd hi env len len with
        | some h=>match cbd lo env 0 h with
          | some l=>fN (lo0+l) fun a=>fN (h-l) fun b=>some (.vec k s a b)
          | none=>none
        | none=>none
   | false=>none
 | _=>none
theorem cslc_ok {own:COwn} {s:Nat} {x:X} {lo hi:Option X} {same:Bool} {env:CEnv} {c:C} {K:V->Prop} (h:cslc own s x lo hi env=some c) (hK:K c.v):vslc (ownV own) s x lo hi none same (envV env) K:=by
 unfold cslc at h;unfold vslc;split at h
 . rename_i n s' full z rows hx;refine gx_ok hx ?_;simp only[C.v];split at h
   . rename_i hs;simp only[hs];split at h
     . rename_i hh e1;split at h
       . rename_i ll e2;refine cbd_ok e1 (cbd_ok e2 ?_);simp only[fN_eq,fH_eq,dr_eq,Option.some.injEq] at h;subst h;rw[shiftF_tabzC];simp only[C.v] at hK;exact hK
       . cases h
     . cases h
   . cases h
 . rename_i hx;refine gx_ok hx ?_;simp only[C.v];split at h
   . rename_i hh e1;split at h
     . rename_i ll e2;cases h;exact cbd_ok e1 (cbd_ok e2 (by simpa[C.v] using hK))
     . cases h
   . cases h
 . rename_i k s' lo0 len hx;refine gx_ok hx ?_;simp only[C.v];split at h
   . rename_i hs;simp only[hs];split at h
     . rename_i n s'' z rows hl;rw[look_ownV hl];simp only[CB.b];split at h
       . rename_i hle;refine⟨fun _=>?_,fun hf=>by rw[hle] at hf;cases hf⟩;split at h
         . rename_i hh e1;split at h
           . rename_i ll e2;refine cbd_ok e1 (cbd_ok e2 ?_);simp only[fN_eq,Option.some.injEq] at h;subst h;simpa[C.v] using hK
           . cases h
         . cases h
       . cases h
     . rename_i hne;have key:∀{A:Nat->Nat->(Nat->Nat->V)->Prop} {B:Prop},B->(match look (ownV own) k with|some (.vec n s f)=>A n s f|_=>B):=by
        intro A B hB;rw[ownV,look_map,<- lk_eq];cases hl:lk own k with
        | none=>exact hB
        | some b=>cases b with
          | vec n s z rows=>exact(hne n s z rows hl).elim
          | _=>exact hB
       refine key ?_;split at h
       . rename_i hh e1;split at h
         . rename_i ll e2;refine cbd_ok e1 (cbd_ok e2 ?_);simp only[fN_eq,Option.some.injEq] at h;subst h;simpa[C.v] using hK
         . cases h
       . cases h
   . cases h
 . cases h
noncomputable def cslc3 (s:Nat) (x:X) (lo:Option X) (hi mx:X) (same:Bool) (env:CEnv):Option C :=
 match gx x env with
 | some (.fz n s' _ z rows)=>match Nat.beq s s' with
   | true=>match cbd (some mx) env n n with
     | some m=>match cbd (some hi) env n m with
       | some h=>match cbd lo env 0 h with
         | some l=>fN (h-l) fun m=>fH (dr rows l) fun q=>some (.fz m s same z q)
         | none=>none
       | none=>none
     | none=>none
   | false=>none
 | _=>none
theorem cslc3_ok {own:Own} {s:Nat} {x:X} {lo:Option X} {hi mx:X} {same:Bool} {env:CEnv} {c:C} {K:V->Prop} (h:cslc3 s x lo hi mx same env=some c) (hK:K c.v):vslc own s x lo (some hi) (some mx) same (envV env) K:=by
 unfold cslc3 at h;unfold vslc;split at h
 . rename_i n s' full z rows hx;refine gx_ok hx ?_;simp only[C.v];split at h
   . rename_i hs;simp only[hs];split at h
     . rename_i m e0;split at h
       . rename_i hh e1;split at h
         . rename_i ll e2;refine cbd_ok e0 (cbd_ok e1 (cbd_ok e2 ?_));simp only[fN_eq,fH_eq,dr_eq,Option.some.injEq] at h;subst h;rw[shiftF_tabzC];simp only[C.v] at hK;exact hK
         . cases h
       . cases h
     . cases h
   . cases h
 . cases h
def cix (i:Int) (n:Nat):Option Nat:=match i with
 | .ofNat m=>match Nat.blt m n with|true=>some m|false=>none
 | .negSucc _=>none
theorem cix_ok {i:Int} {n m:Nat} {K:Nat->Prop} (h:cix i n=some m) (hK:K m):Ix i n K:=by
 unfold cix at h;split at h
 . split at h
   . rename_i hb;cases h;exact⟨m,rfl,Nat.le_of_ble_eq_true hb,hK⟩
   . cases h
 . cases h
theorem takeK_ok {α:Type}:∀(l:List α) (o n:Nat) (K:List α->Prop),n<=(l.drop o).length->K ((l.drop o).take n)->takeK l o n K
 | l,o,0,K,_,h=>by cases l<;>cases o<;>simpa[takeK] using h
 | [],o,n+1,K,hl,h=>by simp at hl
 | x::r,0,n+1,K,hl,h=>by
   simp only[takeK];exact takeK_ok r 0 n _ (by simpa using hl) (by simpa using h)
 | x::r,o+1,n+1,K,hl,h=>by
   simp only[takeK];exact takeK_ok r o (n+1) _ (by simpa using hl) (by simpa using h)
noncomputable def aggC (l:List C) (o n:Nat):Option C:=tk n (dr l o) fun q=>some (.agg q)
theorem aggC_ok {l:List C} {o n:Nat} {c:C} {K:V->Prop} (h:aggC l o n=some c) (hK:K c.v):takeK (C.vs l) o n fun l=>K (.agg l):=by
 unfold aggC at h;rw[tk_eq,dr_eq] at h;split at h
 . rename_i hl;cases h;refine takeK_ok _ _ _ _ (by simpa[C.vs_map] using hl) ?_;simp only[C.v,C.vs_map] at hK;simpa[C.vs_map] using hK
 . cases h
theorem nth_vs {l:List C} {i:Nat} {c:C} (h:nt l i=some c):nth (C.vs l) i=some c.v:=by
 rw[nt_eq,nth_get] at h;rw[nth_get,C.vs_get,h];rfl
noncomputable def p_mv (x:X) (env:CEnv):Option C:=gx x env
noncomputable def p_fld (off:Nat) (x:X) (env:CEnv):Option C:=match gx x env with
 | some (.loc k o)=>fN (o+off) fun m=>some (.loc k m)
 | some (.oel k s i j)=>fN (j+off) fun m=>some (.oel k s i m)
 | some (.fe n s z rows i j)=>fN (j+off) fun m=>some (.fe n s z rows i m)
 | _=>none
noncomputable def p_nilchk (x:X) (env:CEnv):Option C:=match gx x env with
 | some (.loc k o)=>some (.loc k o)
 | some (.oel k s i j)=>some (.oel k s i j)
 | some (.fe n s z rows i j)=>some (.fe n s z rows i j)
 | some (.iface t v)=>some (.iface t v)
 | _=>none
noncomputable def p_bin (bt:BT) (op:BinOp) (x:X) (y:X) (env:CEnv):Option C:=match gx x env with
 | some a=>match gx y env with
   | some b=>cbin bt op a b
   | none=>none
 | none=>none
noncomputable def p_pick (c:X) (a:X) (b:X) (env:CEnv):Option C:=match gx c env with
 | some (.bool true)=>gx a env
 | some (.bool false)=>gx b env
 | _=>none
noncomputable def p_slcs (x:X) (lo:Option X) (hi:Option X) (env:CEnv):Option C:=match gx x env with
 | some (.str l c)=>match cbd hi env l l with
   | some h=>match cbd lo env 0 h with
     | some a=>strC (h-a) (Nat.mod (Nat.div c (Nat.pow 256 a)) (Nat.pow 256 (h-a)))
     | none=>none
   | none=>none
 | _=>none
noncomputable def p_ixstr (x:X) (i:X) (env:CEnv):Option C:=match gx x env with
 | some (.str l c)=>match gx i env with
   | some (.int _ i)=>match cix i l with
     | some m=>fN (Nat.mod (Nat.div c (Nat.pow 256 m)) 256) fun b=>some (.int .u8 (.ofNat b))
     | none=>none
   | _=>none
 | _=>none
noncomputable def p_mkfn (f:Fn) (b:Bool) (cap:List X) (env:CEnv):Option C:=match gxs env cap with
 | some l=>some (.fn f b l)
 | none=>none
noncomputable def p_un (op:UnOp) (x:X) (env:CEnv):Option C:=match gx x env with
 | some (.bool b)=>match op with
   | .not=>match b with|true=>some (.bool false)|false=>some (.bool true)
   | _=>none
 | some (.int k n)=>match op with
   | .neg=>arC k (0-n)
   | .xor=>svC k (bitI .xor k (if k.signed then -1 else k.max) n)
   | _=>none
 | _=>none
noncomputable def p_toint (k:IntKind) (x:X) (env:CEnv):Option C:=match gx x env with
 | some (.int _ n)=>arC k n
 | _=>none
noncomputable def p_sel (off:Nat) (sz:Option Nat) (x:X) (env:CEnv):Option C:=match gx x env with
 | some (.agg cs)=>match sz with
   | none=>nt cs off
   | some n=>aggC cs off n
 | _=>none
noncomputable def p_ixs (s:Nat) (x:X) (i:X) (env:CEnv):Option C:=match gx x env with
 | some (.fz n s' _ z rows)=>match Nat.beq s s' with
   | true=>match gx i env with
     | some (.int _ i)=>match cix i n with
       | some m=>some (.fe n s z rows m 0)
       | none=>none
     | _=>none
   | false=>none
 | some (.vec k s' lo len)=>match Nat.beq s s' with
   | true=>match gx i env with
     | some (.int _ i)=>match cix i len with
       | some m=>fN (lo+m) fun m=>some (.oel k s m 0)
       | none=>none
     | _=>none
   | false=>none
 | _=>none
noncomputable def p_ixa (n:Nat) (s:Nat) (x:X) (i:X) (env:CEnv):Option C:=match gx x env with
 | some (.loc k o)=>match gx i env with
   | some (.int _ i)=>match cix i n with
     | some m=>fN (o+m*s) fun m=>some (.loc k m)
     | none=>none
   | _=>none
 | some (.fe n' s' z rows i0 j0)=>match gx i env with
   | some (.int _ i)=>match cix i n with
     | some m=>fN (j0+m*s) fun m=>some (.fe n' s' z rows i0 m)
     | none=>none
   | _=>none
 | some (.oel k s' i0 j0)=>match Nat.beq s s',i0,j0 with
   | true,0,0=>match gx i env with
     | some (.int _ i)=>match cix i n with
       | some m=>some (.oel k s m 0)
       | none=>none
     | _=>none
   | _,_,_=>match gx i env with
     | some (.int _ i)=>match cix i n with
       | some m=>fN (j0+m*s) fun j=>some (.oel k s' i0 j)
       | none=>none
     | _=>none
 | _=>none
noncomputable def p_ext (x:X) (i:Nat) (env:CEnv):Option C:=match gx x env with
 | some (.tup vs)=>nt vs i
 | _=>none
noncomputable def p_len (x:X) (env:CEnv):Option C:=match gx x env with
 | some (.fz n _ _ _ _)=>some (.int .i64 (.ofNat n))
 | some (.vec _ _ _ n)=>some (.int .i64 (.ofNat n))
 | some .nilslice=>some (.int .i64 0)
 | _=>none
noncomputable def p_lens (x:X) (env:CEnv):Option C:=match gx x env with
 | some (.str l _)=>some (.int .i64 (.ofNat l))
 | _=>none
noncomputable def p_mn (x:X) (y:X) (env:CEnv):Option C:=match gx x env with
 | some (.int k a)=>match gx y env with
   | some (.int _ b)=>match ile a b with
     | true=>some (.int k a)
     | false=>some (.int k b)
   | _=>none
 | _=>none
noncomputable def p_mx (x:X) (y:X) (env:CEnv):Option C:=match gx x env with
 | some (.int k a)=>match gx y env with
   | some (.int _ b)=>match ile b a with
     | true=>some (.int k a)
     | false=>some (.int k b)
   | _=>none
 | _=>none
noncomputable def cpure (o:POp) (env:CEnv):Option C :=
 match o with
 | .slc _ _ _ _ _ _=>none
 | .mv x=>p_mv x env
 | .fld off x=>p_fld off x env
 | .nilchk x=>p_nilchk x env
 | .bin bt op x y=>p_bin bt op x y env
 | .pick c a b=>p_pick c a b env
 | .slcs x lo hi=>p_slcs x lo hi env
 | .ixstr x i=>p_ixstr x i env
 | .mkfn f b cap=>p_mkfn f b cap env
 | .un op x=>p_un op x env
 | .toint k x=>p_toint k x env
 | .sel off sz x=>p_sel off sz x env
 | .ixs s x i=>p_ixs s x i env
 | .ixa n s x i=>p_ixa n s x i env
 | .ext x i=>p_ext x i env
 | .len x=>p_len x env
 | .lens x=>p_lens x env
 | .mn x y=>p_mn x y env
 | .mx x y=>p_mx x y env
theorem cpure_ok {o:POp} {env:CEnv} {c:C} {K:V->Prop} (h:cpure o env=some c) (hK:K c.v):vpure o (envV env) K:=by
 cases o with
 | slc=>cases h
 | mv x=>simp only[cpure,p_mv] at h;exact gx_ok h hK
 | fld off x =>
   simp only[cpure,p_fld] at h;simp only[vpure];split at h<;>first
    | (cases h;done)
    | (rename_i hx
       refine gx_ok hx ?_;simp only[C.v];simp only[fN_eq,Option.some.injEq] at h;subst h;simpa only[C.v] using hK)
 | nilchk x =>
   simp only[cpure,p_nilchk] at h;simp only[vpure];split at h<;>first
    | (cases h;done)
    | (rename_i hx
       refine gx_ok hx ?_;cases h;simpa only[C.v] using hK)
 | bin bt op x y =>
   simp only[cpure,p_bin] at h;simp only[vpure];split at h
   . rename_i a ha;split at h
     . rename_i b hb;exact gx_ok ha (gx_ok hb (cbin_ok h hK))
     . cases h
   . cases h
 | pick c a b =>
   simp only[cpure,p_pick] at h;simp only[vpure];split at h
   . rename_i hc;refine gx_ok hc ?_;simp only[C.v];exact gx_ok h hK
   . rename_i hc;refine gx_ok hc ?_;simp only[C.v];exact gx_ok h hK
   . cases h
 | slcs x lo hi =>
   simp only[cpure,p_slcs] at h;simp only[vpure];split at h
   . rename_i l d hx;refine gx_ok hx ?_;simp only[C.v,bytesOf_size];split at h
     . rename_i hh e1;split at h
       . rename_i a e2;have hle:hh<=l:=by
          unfold cbd at e1;split at e1
          . cases e1;exact Nat.le_refl _
          . split at e1
            . split at e1
              . rename_i hb;cases e1;exact Nat.le_of_ble_eq_true hb
              . cases e1
            . cases e1
         refine cbd_ok e1 (cbd_ok e2 ?_);rw[bytesOf_extract _ _ _ _ hle,<- bytesOf_mod];rw[strC_ok h] at hK;exact hK
       . cases h
     . cases h
   . cases h
 | ixstr x i =>
   simp only[cpure,p_ixstr] at h;simp only[vpure];split at h
   . rename_i l d hx;split at h
     . rename_i k n hi;refine gx_ok hx (gx_ok hi ?_);simp only[C.v,bytesOf_size];split at h
       . rename_i m hm;refine cix_ok hm ?_;have hlt:m<l:=by
          unfold cix at hm;split at hm
          . split at hm
            . rename_i hb;cases hm;exact Nat.le_of_ble_eq_true hb
            . cases hm
          . cases hm
         simp only[fN_eq,Option.some.injEq] at h;subst h;rw[bytesOf_get _ _ _ hlt];simp only[C.v] at hK;exact hK
       . cases h
     . cases h
   . cases h
 | mkfn f b cap =>
   simp only[cpure,p_mkfn] at h;simp only[vpure];split at h
   . rename_i l hl;cases h;exact gxs_ok hl (by simpa only[C.v] using hK)
   . cases h
 | un op x =>
   simp only[cpure,p_un] at h;simp only[vpure];split at h
   . rename_i b hx;refine gx_ok hx ?_;simp only[C.v];split at h
     . split at h
       . cases h;simpa only[C.v] using hK
       . cases h;simpa only[C.v] using hK
     . cases h
   . rename_i k n hx;refine gx_ok hx ?_;simp only[C.v];split at h
     . exact arC_ok h hK
     . exact svC_ok h hK
     . cases h
   . cases h
 | toint k x =>
   simp only[cpure,p_toint] at h;simp only[vpure];split at h
   . rename_i hx;refine gx_ok hx ?_;simp only[C.v];exact arC_ok h hK
   . cases h
 | sel off sz x =>
   simp only[cpure,p_sel] at h;simp only[vpure];split at h
   . rename_i cs hx;refine gx_ok hx ?_;simp only[C.v];split at h
     . rw[nth_vs h];exact hK
     . exact aggC_ok h hK
   . cases h
 | ixs s x i =>
   simp only[cpure,p_ixs] at h;simp only[vpure];split at h
   . rename_i n s' full z rows hx;split at h
     . rename_i hs;split at h
       . rename_i hi;refine gx_ok hx (gx_ok hi ?_);simp only[C.v,hs];split at h
         . rename_i hm;cases h;exact cix_ok hm (by simpa only[C.v] using hK)
         . cases h
       . cases h
     . cases h
   . rename_i k s' lo len hx;split at h
     . rename_i hs;split at h
       . rename_i hi;refine gx_ok hx (gx_ok hi ?_);simp only[C.v,hs];split at h
         . rename_i hm;simp only[fN_eq,Option.some.injEq] at h;subst h;exact cix_ok hm (by simpa only[C.v] using hK)
         . cases h
       . cases h
     . cases h
   . cases h
 | ixa n s x i =>
   simp only[cpure,p_ixa] at h;simp only[vpure];split at h
   . rename_i k o hx;split at h
     . rename_i hi;refine gx_ok hx (gx_ok hi ?_);simp only[C.v];split at h
       . rename_i hm;simp only[fN_eq,Option.some.injEq] at h;subst h;exact cix_ok hm (by simpa only[C.v] using hK)
       . cases h
     . cases h
   . rename_i hx;split at h
     . rename_i hi;refine gx_ok hx (gx_ok hi ?_);simp only[C.v];split at h
       . rename_i hm;simp only[fN_eq,Option.some.injEq] at h;subst h;exact cix_ok hm (by simpa only[C.v] using hK)
       . cases h
     . cases h
   . rename_i hx;split at h
     . rename_i hs;split at h
       . rename_i hi;refine gx_ok hx (gx_ok hi ?_);simp only[C.v,hs];split at h
         . rename_i hm;cases h;exact cix_ok hm (by simpa only[C.v] using hK)
         . cases h
       . cases h
     . rename_i hne;split at h
       . rename_i hi;refine gx_ok hx (gx_ok hi ?_);simp only[C.v];split at h
         . rename_i hm;simp only[fN_eq,Option.some.injEq] at h;subst h;exact cix_ok hm (by simpa only[C.v] using hK)
         . cases h
       . cases h
   . cases h
 | ext x i =>
   simp only[cpure,p_ext] at h;simp only[vpure];split at h
   . rename_i hx;refine gx_ok hx ?_;simp only[C.v];rw[nth_vs h];exact hK
   . cases h
 | len x =>
   simp only[cpure,p_len] at h;simp only[vpure];split at h<;>first
    | (cases h;done)
    | (rename_i hx
       refine gx_ok hx ?_;cases h;simp only[C.v] at hK;simp only[C.v];exact hK)
 | lens x =>
   simp only[cpure,p_lens] at h;simp only[vpure];split at h
   . rename_i hx;refine gx_ok hx ?_;cases h;simp only[C.v] at hK;simp only[C.v,bytesOf_size];exact hK
   . cases h
 | mn x y =>
   simp only[cpure,p_mn] at h;simp only[vpure];split at h
   . rename_i hx;split at h
     . rename_i hy;refine gx_ok hx (gx_ok hy ?_);simp only[C.v];refine⟨_,rfl,?_⟩;split at h
       . rename_i hc;rw[ile_eq] at hc;cases h;have hc:=of_decide_eq_true hc;rw[if_neg (by omega)];simpa only[C.v] using hK
       . rename_i hc;rw[ile_eq] at hc;cases h;have hc:=of_decide_eq_false hc;rw[if_pos (by omega)];simpa only[C.v] using hK
     . cases h
   . cases h
 | mx x y =>
   simp only[cpure,p_mx] at h;simp only[vpure];split at h
   . rename_i hx;split at h
     . rename_i hy;refine gx_ok hx (gx_ok hy ?_);simp only[C.v];refine⟨_,rfl,?_⟩;split at h
       . rename_i hc;rw[ile_eq] at hc;cases h;have hc:=of_decide_eq_true hc;rw[if_neg (by omega)];simpa only[C.v] using hK
       . rename_i hc;rw[ile_eq] at hc;cases h;have hc:=of_decide_eq_false hc;rw[if_pos (by omega)];simpa only[C.v] using hK
     . cases h
   . cases h
end Go.Eng
namespace Go.Eng
def cellC:C->Bool
 | .agg _ | .tup _ | .unit=>false
 | _=>true
theorem cellC_eq (c:C):c.v.cellB=cellC c:=by cases c<;>simp[C.v,V.cellB,cellC]
noncomputable def allC (p:C->Bool) (l:List C):Bool:=@List.rec C (fun _=>Bool) true (fun c _ ih=>@Bool.rec (fun _=>Bool) false ih (p c)) l
theorem allC_cons (p:C->Bool) (c:C) (r:List C):allC p (c::r)=(p c&&allC p r):=by
 show @Bool.rec (fun _=>Bool) false (allC p r) (p c)=_;cases p c<;>rfl
theorem allB_vs {q:V->Bool} {p:C->Bool} (h:∀c,q c.v=p c):∀(l:List C),allB q (C.vs l)=allC p l
 | []=>rfl
 | c::r=>by
   rw[allC_cons];simp only[C.vs,allB,h,allB_vs h r];cases p c<;>rfl
def kf1C:C->Bool
 | .bool _ | .int _ _ | .str _ _ | .nilptr | .nilslice | .nilmap | .nilfunc | .niliface | .fz _ _ _ _ _ | .fe _ _ _ _ _ _ | .unit=>true
 | _=>false
theorem kf1C_eq (c:C):c.v.kf1=kf1C c:=by cases c<;>simp[C.v,V.kf1,kf1C]
noncomputable def kf2C:C->Bool
 | .agg cs=>allC kf1C cs
 | .iface _ v=>kf1C v
 | .fn _ _ cap=>allC kf1C cap
 | v=>kf1C v
theorem kf2C_eq (c:C):c.v.kf2=kf2C c:=by
 cases c<;>simp[C.v,V.kf2,kf2C,allB_vs kf1C_eq,kf1C_eq]<;>simp[V.kf1,kf1C]
noncomputable def ln {α:Type} (l:List α):Nat:=@List.rec α (fun _=>Nat) 0 (fun _ _ ih=>Nat.succ ih) l
theorem ln_eq {α:Type} (l:List α):ln l=l.length:=by
 induction l with
 | nil=>rfl
 | cons x r ih=>show Nat.succ (ln r)=_;rw[ih];rfl
def cellsC:C->Option (List C)
 | .agg cs=>some cs
 | .tup _ | .unit=>none
 | v=>some [v]
theorem cellsC_ok {v:C} {vs:List C} {K:List V->Prop} (h:cellsC v=some vs) (hK:K (C.vs vs)):v.v.cellsK K:=by
 cases v<;>first
  | (cases h;done)
  | (cases h;simp only[C.v];simp only[C.vs,C.v] at hK;exact hK)
  | (cases h;simp only[C.v];exact hK)
noncomputable def cellsN (sz:Nat) (v:C):Option (List C):=match cellsC v with
 | some vs=>match Nat.beq (ln vs) sz with
   | true=>match allC cellC vs with|true=>some vs|false=>none
   | false=>none
 | none=>none
theorem cellsN_ok {sz:Nat} {v:C} {vs:List C} (h:cellsN sz v=some vs):cellsC v=some vs/\vs.length=sz/\Nat.beq (C.vs vs).length sz=true/\allB V.cellB (C.vs vs)=true:=by
 unfold cellsN at h;split at h
 . rename_i vs' h1;split at h
   . rename_i h2;split at h
     . rename_i h3;cases h;rw[ln_eq] at h2;exact⟨h1,Nat.eq_of_beq_eq_true h2,by rw[C.vs_length];exact h2,by rw[allB_vs cellC_eq];exact h3⟩
     . cases h
   . cases h
 . cases h
theorem V.force_ok {v:V} {K:V->Prop} (h:K v):v.force K:=by cases v<;>exact h
theorem forceN_ok (g:Nat->V):∀(n j:Nat) (l:List V) (K:List V->Prop),l.length=n->(∀t,t<n->l[t]?=some (g (j+t)))->K l->forceN g j n K
 | 0,j,l,K,hl,_,h=>by
   have:l=[]:=List.length_eq_zero_iff.1 hl;subst this;exact h
 | n+1,j,[],K,hl,_,h=>by simp at hl
 | n+1,j,x::l,K,hl,hg,h=>by
   have h0:=hg 0 (by omega);simp at h0;subst h0;simp only[forceN];refine V.force_ok (forceN_ok g n (j+1) l _ (by simpa using hl) (fun t ht=>?_) h);have:=hg (t+1) (by omega);simp only[List.getElem?_cons_succ] at this;rw[this];congr 2;omega
theorem tabz_row {z:List C} {rows:List (List C)} {i:Nat} {row:List C} (h:nt rows i=some row) (j:Nat):tabz (C.vs z) (C.vss rows) i j=(C.vs row).getD j (lastV (C.vs z)):=by
 rw[nt_eq,nth_get] at h;simp[tabz,List.getD_eq_getElem?_getD,C.vss_get,h]
noncomputable def rowC (s:Nat) (rows:List (List C)) (sz:Option Nat) (i j:Nat):Option C:=match nt rows i with
 | some row=>match sz with
   | none=>match Nat.ble (Nat.succ j) s with|true=>nt row j|false=>none
   | some m=>match Nat.ble (j+m) s with|true=>aggC row j m|false=>none
 | none=>none
def rowK (s:Nat) (f:Nat->Nat->V) (i j:Nat) (K:V->Prop) (sz:Option Nat):Prop :=
 match sz with
 | none=>match Nat.ble (j+1) s with|true=>(f i j).force K|false=>False
 | some m=>match Nat.ble (j+m) s with|true=>forceN (f i) j m fun l=>K (.agg l)|false=>False
theorem rowC_ok {s:Nat} (z:List C) {rows:List (List C)} {sz:Option Nat} {i j:Nat} {c:C} {K:V->Prop} (h:rowC s rows sz i j=some c) (hK:K c.v):rowK s (tabz (C.vs z) (C.vss rows)) i j K sz:=by
 unfold rowK;unfold rowC at h;split at h
 . rename_i row hr;cases sz with
   | none =>
     simp only at h;split at h
     . rename_i hb;simp only[hb];refine V.force_ok ?_;rw[tabz_row hr];rw[nt_eq,nth_get] at h;simpa[List.getD_eq_getElem?_getD,C.vs_get,h] using hK
     . cases h
   | some m =>
     simp only at h;split at h
     . rename_i hb;simp only[hb];unfold aggC at h;rw[tk_eq,dr_eq] at h;split at h
       . rename_i hl;cases h;simp only[C.v] at hK;refine forceN_ok _ _ _ _ _ ?_ (fun t ht=>?_) hK
         . rw[C.vs_length,List.length_take];omega
         . rw[tabz_row hr,C.vs_get,List.getElem?_take,if_pos ht,List.getElem?_drop];simp only[List.length_drop] at hl;have hlt:j+t<row.length:=by omega
           simp[List.getD_eq_getElem?_getD,C.vs_get,hlt]
       . cases h
     . cases h
 . cases h
noncomputable def cloadL (own:COwn) (sz:Option Nat) (k off:Nat):Option C :=
 match lk own k with
 | some (.cells cs)=>match sz with
   | none=>nt cs off
   | some n=>aggC cs off n
 | _=>none
theorem cloadL_ok {own:COwn} {sz:Option Nat} {k off:Nat} {c:C} {K:V->Prop} (h:cloadL own sz k off=some c) (hK:K c.v):vloadL (ownV own) sz k off K:=by
 unfold cloadL at h;unfold vloadL;split at h
 . rename_i cs hl;rw[look_ownV hl];simp only[CB.b];cases sz with
   | none=>simp only at h ⊢;rw[nth_vs h];exact hK
   | some n=>simp only at h ⊢;exact aggC_ok h hK
 . cases h
noncomputable def cloadR (own:COwn) (sz:Option Nat) (p:C):Option C :=
 match p with
 | .loc k off=>cloadL own sz k off
 | .oel k s i j=>match lk own k with
   | some (.vec n s' _ rows)=>match Nat.beq s s' with
     | true=>match Nat.blt i n with
       | true=>rowC s rows sz i j
       | false=>none
     | false=>none
   | some (.cells _)=>cloadL own sz k (i*s+j)
   | _=>none
 | .fe _ s _ rows i j=>rowC s rows sz i j
 | _=>none
theorem cloadR_ok {own:COwn} {sz:Option Nat} {p c:C} {K:V->Prop} (h:cloadR own sz p=some c) (hK:K c.v):vloadR (ownV own) sz p.v K:=by
 unfold cloadR at h;split at h
 . simp only[C.v,vloadR];exact cloadL_ok h hK
 . rename_i k s i j;simp only[C.v,vloadR];split at h
   . rename_i n s' z rows hl;rw[look_ownV hl];simp only[CB.b];split at h
     . rename_i hs;simp only[hs];split at h
       . rename_i hi;have:=rowC_ok z h hK;exact⟨Nat.le_of_ble_eq_true hi,by cases sz<;>exact this⟩
       . cases h
     . cases h
   . rename_i cs hl;rw[look_ownV hl];simp only[CB.b];exact cloadL_ok h hK
   . cases h
 . rename_i n s z rows i j;have:=rowC_ok z h hK;simp only[C.v,vloadR];cases sz<;>exact this
 . cases h
noncomputable def litC (c:C):Option C:=match c with
 | .unit=>none
 | c=>some c
theorem litC_ok {c d:C} {K:V->Prop} (h:litC c=some d) (hK:K d.v):litK c.v K:=by
 cases c<;>simp only[litC,Option.some.injEq,reduceCtorEq] at h<;>subst h<;>simp only[C.v] at hK<;>simp only[C.v,litK]<;>first|exact hK|exact cmp_ok hK
noncomputable def cload (own:COwn) (sz:Option Nat) (p:C):Option C:=match cloadR own sz p with
 | some c=>litC c
 | none=>none
theorem cload_ok {own:COwn} {sz:Option Nat} {p c:C} {K:V->Prop} (h:cload own sz p=some c) (hK:K c.v):vload (ownV own) sz p.v K:=by
 unfold cload at h;split at h
 . rename_i d hd;exact cloadR_ok hd (litC_ok h hK)
 . cases h
noncomputable def stC {α β:Type} (l:List α):Nat->List α->(List α->Option β)->Option β :=
 @List.rec α (fun _=>Nat->List α->(List α->Option β)->Option β)
  (fun _ vs K=>match vs with|[]=>K []|_::_=>none)
  (fun x r ih o vs K=>match vs with
    | []=>K (x::r)
    | v::vs=>@Nat.rec (fun _=>Option β) (ih 0 vs fun l=>K (v::l)) (fun o _=>ih o (v::vs) fun l=>K (x::l)) o) l
theorem stC_ok {α β:Type}:∀(l:List α) (o:Nat) (vs:List α) (K:List α->Option β) (out:β),stC l o vs K=some out ->
 ∃l',K l'=some out/\l'.length=l.length/\(vs≠[]->o+vs.length<=l.length)/\l'=l.take o++vs++l.drop (o+vs.length)/\∀{γ:Type} (f:α->γ) (Kp:List γ->Prop),Kp (l'.map f)->setK (l.map f) o (vs.map f) Kp
 | [],o,[],K,out,h=>⟨[],h,rfl,fun h=>(h rfl).elim,by simp,fun f Kp hK=>by cases o<;>exact hK⟩
 | [],o,v::vs,K,out,h=>by cases h
 | x::r,o,[],K,out,h=>⟨x::r,h,rfl,fun h=>(h rfl).elim,by simp,fun f Kp hK=>by cases o<;>exact hK⟩
 | x::r,0,v::vs,K,out,h=>by
   obtain⟨l',a1,a2,a3,a4,a5⟩:=stC_ok r 0 vs (fun l=>K (v::l)) out h;refine⟨v::l',a1,by simp[a2],fun _=>?_,by rw[a4];simp[Nat.add_comm],fun f Kp hK=>a5 f _ (by simpa using hK)⟩;cases vs with
   | nil=>simp
   | cons y ys=>have:=a3 (by simp);simp at this ⊢;omega
 | x::r,o+1,v::vs,K,out,h=>by
   obtain⟨l',a1,a2,a3,a4,a5⟩:=stC_ok r o (v::vs) (fun l=>K (x::l)) out h;refine⟨x::l',a1,by simp[a2],fun _=>by have:=a3 (by simp);simp at this ⊢;omega,?_,fun f Kp hK=>a5 f _ (by simpa using hK)⟩;rw[a4];simp[show o+1+(vs.length+1)=o+(vs.length+1)+1 by omega]
noncomputable def upC {β:Type} (t:Nat) (x:CB) (l:COwn):(COwn->Option β)->Option β :=
 @List.rec (Nat×CB) (fun _=>(COwn->Option β)->Option β) (fun K=>K [])
  (fun p r ih K=>@Prod.rec Nat CB (fun _=>Option β) (fun k v=>@Bool.rec (fun _=>Option β) (ih fun r'=>K ((k,v)::r')) (K ((k,x)::r)) (Nat.beq k t)) p) l
theorem upC_ok {β:Type} {t:Nat} {x:CB}:∀{l:COwn} {K:COwn->Option β} {out:β},upC t x l K=some out ->
 ∃l',K l'=some out/\∀Kp:Own->Prop,Kp (ownV l')->updK t x.b (ownV l) Kp
 | [],K,out,h=>⟨[],h,fun Kp hK=>hK⟩
 | (k,v)::r,K,out,h=>by
   have h:@Bool.rec (fun _=>Option β) (upC t x r fun r'=>K ((k,v)::r')) (K ((k,x)::r)) (Nat.beq k t)=some out:=h;cases hb:Nat.beq k t with
   | true =>
     rw[hb] at h;exact⟨_,h,fun Kp hK=>by simp only[ownV,List.map_cons,updK,hb];exact hK⟩
   | false =>
     rw[hb] at h;obtain⟨l',a1,a2⟩:=upC_ok (K:=fun r'=>K ((k,v)::r')) h;exact⟨_,a1,fun Kp hK=>by simp only[ownV,List.map_cons,updK,hb];exact a2 _ hK⟩
noncomputable def deC {β:Type} (t:Nat) (l:COwn):(COwn->Option β)->Option β :=
 @List.rec (Nat×CB) (fun _=>(COwn->Option β)->Option β) (fun K=>K [])
  (fun p r ih K=>@Prod.rec Nat CB (fun _=>Option β) (fun k v=>@Bool.rec (fun _=>Option β) (ih fun r'=>K ((k,v)::r')) (K r) (Nat.beq k t)) p) l
theorem deC_ok {β:Type} {t:Nat}:∀{l:COwn} {K:COwn->Option β} {out:β},deC t l K=some out ->
 ∃l',K l'=some out/\∀Kp:Own->Prop,Kp (ownV l')->delK t (ownV l) Kp
 | [],K,out,h=>⟨[],h,fun Kp hK=>hK⟩
 | (k,v)::r,K,out,h=>by
   have h:@Bool.rec (fun _=>Option β) (deC t r fun r'=>K ((k,v)::r')) (K r) (Nat.beq k t)=some out:=h;cases hb:Nat.beq k t with
   | true =>
     rw[hb] at h;exact⟨_,h,fun Kp hK=>by simp only[ownV,List.map_cons,delK,hb];exact hK⟩
   | false =>
     rw[hb] at h;obtain⟨l',a1,a2⟩:=deC_ok (K:=fun r'=>K ((k,v)::r')) h;exact⟨_,a1,fun Kp hK=>by simp only[ownV,List.map_cons,delK,hb];exact a2 _ hK⟩
theorem tab_tabz (rows:List (List V)):tab rows=tabz [] rows:=rfl
noncomputable def cbor0 (own:COwn) (v:C):Option C :=
 match v with
 | .vec k s lo len=>match lk own k with
   | some (.vec n s' z rows)=>match Nat.beq s s' with
     | true=>match Nat.ble (lo+len) n with
       | true=>fH (dr rows lo) fun q=>some (.fz len s false z q)
       | false=>none
     | false=>none
   | _=>none
 | v=>match kf2C v with
   | true=>some v
   | false=>none
theorem cbor0_ok {own:COwn} {v c:C} {K:V->Prop} (h:cbor0 own v=some c) (hK:K c.v):bor0 (ownV own) v.v K:=by
 have other:(∀k s lo len,v≠.vec k s lo len)->kf2C v=true->K v.v->bor0 (ownV own) v.v K:=by
  intro hne hk hK;have:=kf2C_eq v;rw[hk] at this;cases v<;>first
   | exact(hne _ _ _ _ rfl).elim
   | (simp only[C.v] at this hK ⊢
      simp only[bor0,this];exact hK)
 unfold cbor0 at h;split at h
 . rename_i k s lo len;simp only[C.v,bor0];split at h
   . rename_i n s' z rows hl;rw[look_ownV hl];simp only[CB.b];split at h
     . rename_i hs;simp only[hs];split at h
       . rename_i hle;refine⟨Nat.le_of_ble_eq_true hle,?_⟩;rw[fH_eq] at h;cases h;rw[shiftF_tabzC];simp only[C.v,dr_eq] at hK;exact hK
       . cases h
     . cases h
   . cases h
 . rename_i hne;split at h
   . rename_i hk;cases h;exact other hne hk hK
   . cases h
noncomputable def cborL0 (own:COwn):List C->Option (List C)
 | []=>some []
 | v::r=>match cbor0 own v with
   | some c=>match cborL0 own r with
     | some l=>some (c::l)
     | none=>none
   | none=>none
theorem cborL0_ok {own:COwn}:∀{l cs:List C} {K:List V->Prop},cborL0 own l=some cs->K (C.vs cs)->borL0 (ownV own) (C.vs l) K
 | [],cs,K,h,hK=>by simp only[cborL0,Option.some.injEq] at h;subst h;simpa[C.vs,borL0] using hK
 | v::r,cs,K,h,hK=>by
   unfold cborL0 at h;split at h
   . rename_i c hc;split at h
     . rename_i l hl;cases h;simp only[C.vs,borL0];exact cbor0_ok hc (cborL0_ok hl (by simpa[C.vs] using hK))
     . cases h
   . cases h
theorem chunk_vs (s:Nat):∀(n:Nat) (l:List C),chunk s n (C.vs l)=C.vss (chunk s n l)
 | 0,l=>by simp[chunk,C.vss]
 | n+1,l=>by
   simp only[chunk,C.vss];rw[<- chunk_vs s n,C.vs_map,C.vs_map,C.vs_map];simp
noncomputable def cbor1 (own:COwn) (v:C):Option C :=
 match v with
 | .vec k s 0 len=>match lk own k with
   | some (.cells cs)=>match Nat.beq (len*s) (ln cs) with
     | true=>match allC cellC cs with
       | true=>match cborL0 own cs with
         | some cs'=>some (.fz len s false [] (chunk s len cs'))
         | none=>none
       | false=>none
     | false=>none
   | _=>cbor0 own (.vec k s 0 len)
 | v=>cbor0 own v
theorem cbor1_ok {own:COwn} {v c:C} {K:V->Prop} (h:cbor1 own v=some c) (hK:K c.v):bor1 (ownV own) v.v K:=by
 unfold cbor1 at h;split at h
 . rename_i k s len;split at h
   . rename_i cs hl;split at h
     . rename_i hlen;split at h
       . rename_i hc;split at h
         . rename_i cs' hcs;cases h;have hlen:=Nat.eq_of_beq_eq_true hlen;rw[ln_eq] at hlen;have hcb:allB V.cellB (C.vs cs)=true:=by rw[allB_vs cellC_eq];exact hc
           have hK':borL0 (ownV own) (C.vs cs) fun cs'=>K (.fz len s false (tab (chunk s len cs'))):=by
            refine cborL0_ok hcs ?_;rw[chunk_vs,tab_tabz];simpa[C.v,C.vs] using hK
           by_cases h1:s=1
           . subst h1;simp only[C.v,bor1,look_ownV hl,CB.b,hcb];have e:Nat.beq len (C.vs cs).length=true:=by rw[C.vs_length,<- hlen];simp
             simp only[e];exact hK'
           . have e:Nat.beq (len*s) (C.vs cs).length=true:=by rw[C.vs_length,<- hlen];simp
             simp only[C.v];unfold bor1;split
             . rename_i e1;cases e1;exact(h1 rfl).elim
             . rename_i e1;cases e1;rw[look_ownV hl];simp only[CB.b,hcb,e];exact hK'
             . rename_i hne2;exact(hne2 _ _ _ rfl).elim
         . cases h
       . cases h
     . cases h
   . rename_i hne;have hb:=cbor0_ok h hK;simp only[C.v] at hb ⊢;have nocell:∀cs,look (ownV own) k≠some (.cells cs):=by
      intro cs e;rw[ownV,look_map,<- lk_eq] at e;cases hl:lk own k with
      | none=>rw[hl] at e;cases e
      | some b=>cases b with
        | cells cs'=>exact hne cs' hl
        | vec n s z rows=>rw[hl] at e;cases e
        | map mk es=>rw[hl] at e;cases e
        | mapS es=>rw[hl] at e;cases e
     have nofam:∀n s l f op,look (ownV own) k≠some (.fam n s l f op):=by
      intro n s l f op e;rw[ownV,look_map,<- lk_eq] at e;cases hl:lk own k with
      | none=>rw[hl] at e;cases e
      | some b=>cases b<;>(rw[hl] at e;cases e)
     unfold bor1;split
     . rename_i e1;cases e1;split
       . rename_i cs hl;exact(nocell cs hl).elim
       . rename_i n s l f op hl;exact(nofam _ _ _ _ _ hl).elim
       . exact hb
     . rename_i e1;cases e1;split
       . rename_i cs hl;exact(nocell cs hl).elim
       . exact hb
     . exact hb
 . rename_i hne;have hb:=cbor0_ok h hK;unfold bor1;split
   . rename_i e1;cases v<;>simp only[C.v,V.vec.injEq,reduceCtorEq] at e1;obtain⟨rfl,rfl,rfl,rfl⟩:=e1;exact(hne _ _ _ rfl).elim
   . rename_i e1;cases v<;>simp only[C.v,V.vec.injEq,reduceCtorEq] at e1;obtain⟨rfl,rfl,rfl,rfl⟩:=e1;exact(hne _ _ _ rfl).elim
   . exact hb
noncomputable def cborL (own:COwn):List C->Option (List C)
 | []=>some []
 | v::r=>match cbor1 own v with
   | some c=>match cborL own r with
     | some l=>some (c::l)
     | none=>none
   | none=>none
theorem cborL_ok {own:COwn}:∀{l cs:List C} {K:List V->Prop},cborL own l=some cs->K (C.vs cs)->borL (ownV own) (C.vs l) K
 | [],cs,K,h,hK=>by simp only[cborL,Option.some.injEq] at h;subst h;simpa[C.vs,borL] using hK
 | v::r,cs,K,h,hK=>by
   unfold cborL at h;split at h
   . rename_i c hc;split at h
     . rename_i l hl;cases h;simp only[C.vs,borL];exact cbor1_ok hc (cborL_ok hl (by simpa[C.vs] using hK))
     . cases h
   . cases h
noncomputable def cbor (own:COwn) (v:C):Option C :=
 match v with
 | .agg cs=>match cborL own cs with
   | some l=>some (.agg l)
   | none=>none
 | .loc _ _=>none
 | v=>cbor1 own v
theorem cbor_ok {own:COwn} {v c:C} {K:V->Prop} (h:cbor own v=some c) (hK:K c.v):bor (ownV own) v.v K:=by
 unfold cbor at h;split at h
 . split at h
   . rename_i l hl;cases h;simp only[C.v,bor];exact cborL_ok hl (by simpa[C.v] using hK)
   . cases h
 . cases h
 . rename_i hne hne2;have hb:=cbor1_ok h hK;cases v<;>first
    | exact(hne _ rfl).elim
    | exact(hne2 _ _ rfl).elim
    | (simp only[C.v] at hb ⊢;simp only[bor];exact hb)
def keysLC:List C->List Nat
 | []=>[]
 | v::r=>match v with
   | .vec k _ _ _=>k::keysLC r
   | _=>keysLC r
theorem keysLC_eq:∀(l:List C),keysL (C.vs l)=keysLC l
 | []=>rfl
 | v::r=>by
   simp only[C.vs,keysL,keysLC,keysLC_eq r];cases v<;>simp[C.v,V.key1]
noncomputable def frzKeysC (own:COwn) (v:C):List Nat :=
 match v with
 | .vec k _ _ _=>match lk own k with
   | some (.cells cs)=>k::keysLC cs
   | _=>[k]
 | .agg cs=>keysLC cs
 | _=>[]
theorem frzKeysC_eq (own:COwn) (v:C):frzKeys (ownV own) v.v=frzKeysC own v:=by
 cases v<;>simp[C.v,frzKeys,frzKeysC,keysLC_eq];rename_i k s lo len;rw[ownV,look_map,<- lk_eq];cases hl:lk own k with
 | none=>rfl
 | some b=>cases b<;>simp[CB.b,keysLC_eq]
noncomputable def dropC (ks:List Nat):COwn->COwn
 | []=>[]
 | (k,b)::r=>match memN k ks with|true=>dropC ks r|false=>(k,b)::dropC ks r
noncomputable def keepC (ks:List Nat):COwn->COwn
 | []=>[]
 | (k,b)::r=>match memN k ks with|true=>(k,b)::keepC ks r|false=>keepC ks r
theorem dropC_eq (ks:List Nat):∀(o:COwn),dropK ks (ownV o)=ownV (dropC ks o)
 | []=>rfl
 | (k,b)::r=>by
   have ih:=dropC_eq ks r;simp only[ownV,List.map_cons,dropK,dropC] at ih ⊢;cases memN k ks<;>simp[ih]
theorem keepC_eq (ks:List Nat):∀(o:COwn),keepK ks (ownV o)=ownV (keepC ks o)
 | []=>rfl
 | (k,b)::r=>by
   have ih:=keepC_eq ks r;simp only[ownV,List.map_cons,keepK,keepC] at ih ⊢;cases memN k ks<;>simp[ih]
noncomputable def fOwn {β:Type} (o:COwn):(COwn->β)->β:=@List.rec (Nat×CB) (fun _=>(COwn->β)->β) (fun K=>K []) (fun p _ ih K=>ih fun r=>K (p::r)) o
theorem fOwn_eq {β:Type}:∀(o:COwn) (K:COwn->β),fOwn o K=K o
 | [],K=>rfl
 | p::r,K=>fOwn_eq r fun r=>K (p::r)
noncomputable def cfrz {β:Type} (own:COwn) (v:C) (K:C->COwn->Option β):Option β :=
 match cbor (keepC (frzKeysC own v) own) v with
 | some v'=>fOwn (dropC (frzKeysC own v) own) fun own'=>K v' own'
 | none=>none
theorem cfrz_ok {β:Type} {own:COwn} {v:C} {K:C->COwn->Option β} {out:β} (h:cfrz own v K=some out) :
 ∃v' o',K v' o'=some out/\∀Kp:V->Own->Prop,Kp v'.v (ownV o')->frzV (ownV own) v.v Kp:=by
 unfold cfrz at h;split at h
 . rename_i v' hv;rw[fOwn_eq] at h;refine⟨v',_,h,fun Kp hK=>?_⟩;unfold frzV;rw[frzKeysC_eq,keepC_eq,dropC_eq];exact cbor_ok hv hK
 . cases h
theorem fset_tabz {z:List C} {rows:List (List C)} {i j:Nat} {row vs:List C} (h:rows[i]?=some row) (hj:j+vs.length<=row.length) :
 fset (tabz (C.vs z) (C.vss rows)) i j (C.vs vs)=tabz (C.vs z) (C.vss (rows.take i++[row.take j++vs++row.drop (j+vs.length)]++rows.drop (i+1))):=by
 have hi:=(List.getElem?_eq_some_iff.1 h).1;funext i' j';have hrow:∀q,(rows.take i++[q]++rows.drop (i+1))[i']?=if i'=i then some q else rows[i']?:=by
  intro q;have:=splice_get rows [q] i (by simp only[List.length_singleton];omega) i';simp only[List.length_singleton] at this;rw[this];by_cases h1:i'<i
  . rw[if_pos h1,if_neg (by omega)]
  . rw[if_neg h1];by_cases h2:i'=i
    . subst h2;simp
    . rw[if_neg (by omega),if_neg h2]
 simp only[fset,tabz,List.getD_eq_getElem?_getD,C.vss_get,hrow,C.vs_length];by_cases e:i'=i
 . subst e;simp only[if_true,h,Option.map_some,Option.getD_some,true_and,C.vs_get];rw[splice_get row vs j hj j'];by_cases h1:j'<j
   . rw[if_neg (by omega),if_pos h1]
   . rw[if_neg h1];by_cases h2:j'<j+vs.length
     . rw[if_pos ⟨by omega,h2⟩,if_pos h2];have:j'-j<vs.length:=by omega
       simp[this]
     . rw[if_neg (by omega),if_neg h2]
 . simp only[e,false_and,if_false]
noncomputable def cstoreL {β:Type} (own:COwn) (sz k off:Nat) (v:C) (K:COwn->Option β):Option β :=
 match lk own k with
 | some (.cells cs)=>match cellsN sz v with
   | some vs=>stC cs off vs fun cs'=>upC k (.cells cs') own K
   | none=>none
 | _=>none
theorem cstoreL_ok {β:Type} {own:COwn} {sz k off:Nat} {v:C} {K:COwn->Option β} {out:β} (h:cstoreL own sz k off v K=some out) :
 ∃o',K o'=some out/\∀Kp:Own->Prop,Kp (ownV o')->vstoreL (ownV own) sz k off v.v Kp:=by
 unfold cstoreL at h;split at h
 . rename_i cs hl;split at h
   . rename_i vs hv;obtain⟨a1,a2,a3,a4⟩:=cellsN_ok hv;obtain⟨cs',b1,b2,b3,b4,b5⟩:=stC_ok _ _ _ _ _ h;obtain⟨o',c1,c2⟩:=upC_ok b1;refine⟨o',c1,fun Kp hK=>?_⟩;unfold vstoreL;rw[look_ownV hl];simp only[CB.b];refine cellsC_ok a1 ?_;simp only[a3,a4];rw[C.vs_map,C.vs_map];refine b5 C.v _ ?_;have:=c2 Kp hK;simpa[CB.b,C.vs_map] using this
   . cases h
 . cases h
noncomputable def cstore {β:Type} (own:COwn) (sz:Nat) (p v:C) (K:COwn->Option β):Option β :=
 match p with
 | .loc k off=>cstoreL own sz k off v K
 | .oel k s i j=>match lk own k with
   | some (.vec n s' z rows)=>match cellsN sz v with
     | some vs=>match allC kf1C vs with
       | true=>match Nat.beq s s' with
         | true=>match Nat.ble (j+sz) s with
           | true=>match Nat.blt i n with
             | true=>match Nat.ble 1 sz with
               | true=>match nt rows i with
                 | some row=>stC row j vs fun row'=>stC rows i [row'] fun rows'=>upC k (.vec n s z rows') own K
                 | none=>none
               | false=>none
             | false=>none
           | false=>none
         | false=>none
       | false=>none
     | none=>none
   | some (.cells _)=>cstoreL own sz k (i*s+j) v K
   | _=>none
 | _=>none
theorem cstore_ok {β:Type} {own:COwn} {sz:Nat} {p v:C} {K:COwn->Option β} {out:β} (h:cstore own sz p v K=some out) :
 ∃o',K o'=some out/\∀Kp:Own->Prop,Kp (ownV o')->vstore (ownV own) sz p.v v.v Kp:=by
 unfold cstore at h;split at h
 . simp only[C.v,vstore];exact cstoreL_ok h
 . rename_i k s i j;split at h
   . rename_i n s' z rows hl;split at h
     . rename_i vs hv;obtain⟨a1,a2,a3,a4⟩:=cellsN_ok hv;split at h
       . rename_i hkf;split at h
         . rename_i hs;split at h
           . rename_i hj;split at h
             . rename_i hi;split at h
               case h_2=>cases h
               rename_i h0;split at h
               . rename_i row hr;obtain⟨row',b1,b2,b3,b4,b5⟩:=stC_ok _ _ _ _ _ h;obtain⟨rows',d1,d2,d3,d4,d5⟩:=stC_ok _ _ _ _ _ b1;obtain⟨o',c1,c2⟩:=upC_ok d1;refine⟨o',c1,fun Kp hK=>?_⟩;have e:=Nat.eq_of_beq_eq_true hs;subst e;simp only[C.v,vstore];rw[look_ownV hl];simp only[CB.b];refine cellsC_ok a1 ?_;have hkf':allB V.kf1 (C.vs vs)=true:=by rw[allB_vs kf1C_eq];exact hkf
                 simp only[a3,a4,hkf',hs,hj];refine⟨Nat.le_of_ble_eq_true hi,?_⟩;have:=c2 Kp hK;rw[nt_eq,nth_get] at hr;have hfit:j+vs.length<=row.length:=b3 (by
                  intro e;rw[e] at a2;have:=Nat.le_of_ble_eq_true h0;simp at a2;omega)
                 rw[fset_tabz hr hfit];simp only[CB.b,d4,b4,List.length_singleton] at this;exact this
               . cases h
             . cases h
           . cases h
         . cases h
       . cases h
     . cases h
   . rename_i cs hl;simp only[C.v,vstore];rw[look_ownV hl];simp only[CB.b];exact cstoreL_ok h
   . cases h
 . cases h
noncomputable def keyedC:C->Bool
 | .vec _ _ _ _=>true
 | .agg cs=>match keysLC cs with|[]=>false|_::_=>true
 | _=>false
theorem keyedC_eq (v:C):v.v.keyed=keyedC v:=by
 cases v<;>simp only[C.v,V.keyed,keyedC,keysLC_eq];rename_i cs;cases keysLC cs<;>rfl
noncomputable def cstoreF {β:Type} (own:COwn) (sz:Nat) (p v:C) (K:COwn->Option β):Option β :=
 match p with
 | .oel k s i j=>match lk own k with
   | some (.vec _ _ _ _)=>match keyedC v with
     | true=>cfrz own v fun v' own'=>cstore own' sz (.oel k s i j) v' K
     | false=>cstore own sz (.oel k s i j) v K
   | _=>cstore own sz (.oel k s i j) v K
 | p=>cstore own sz p v K
theorem cstoreF_ok {β:Type} {own:COwn} {sz:Nat} {p v:C} {K:COwn->Option β} {out:β} (h:cstoreF own sz p v K=some out) :
 ∃o',K o'=some out/\∀Kp:Own->Prop,Kp (ownV o')->vstoreF (ownV own) sz p.v v.v Kp:=by
 unfold cstoreF at h;split at h
 . rename_i k s i j;split at h
   . rename_i n s' z rows hl;split at h
     . rename_i hk;obtain⟨v',o1,a1,a2⟩:=cfrz_ok h;obtain⟨o',b1,b2⟩:=cstore_ok a1;refine⟨o',b1,fun Kp hK=>?_⟩;simp only[C.v,vstoreF];rw[look_ownV hl,keyedC_eq,hk];simp only[CB.b];refine a2 _ ?_;have:=b2 Kp hK;simpa only[C.v] using this
     . rename_i hk;obtain⟨o',b1,b2⟩:=cstore_ok h;refine⟨o',b1,fun Kp hK=>?_⟩;simp only[C.v,vstoreF];rw[look_ownV hl,keyedC_eq,hk];simp only[CB.b];have:=b2 Kp hK;simpa only[C.v] using this
   . rename_i hne;obtain⟨o',b1,b2⟩:=cstore_ok h;refine⟨o',b1,fun Kp hK=>?_⟩;have:=b2 Kp hK;simp only[C.v] at this;simp only[C.v,vstoreF];split
     . rename_i n s' f hl;exfalso;rw[ownV,look_map,<- lk_eq] at hl;cases hq:lk own k with
       | none=>rw[hq] at hl;cases hl
       | some b=>cases b with
         | vec n s z rows=>exact hne _ _ _ _ hq
         | _=>rw[hq] at hl;cases hl
     . exact this
 . rename_i hne;obtain⟨o',b1,b2⟩:=cstore_ok h;refine⟨o',b1,fun Kp hK=>?_⟩;have:=b2 Kp hK;cases p<;>first
    | exact(hne _ _ _ _ rfl).elim
    | (simp only[C.v] at this ⊢;simp only[vstoreF];exact this)
noncomputable def csrc (own:COwn) (s:Nat) (y:C):Option (Nat×List C×List (List C)) :=
 match y with
 | .fz m s' _ z rows=>match Nat.beq s s' with|true=>some (m,z,rows)|false=>none
 | .vec k s' lo len=>match lk own k with
   | some (.vec n s'' z rows)=>match Nat.beq s s' with
     | true=>match Nat.beq s s'' with
       | true=>match Nat.ble (lo+len) n with
         | true=>fH (dr rows lo) fun q=>some (len,z,q)
         | false=>none
       | false=>none
     | false=>none
   | _=>none
 | _=>none
theorem csrc_ok {own:COwn} {s:Nat} {y:C} {m:Nat} {z:List C} {rows:List (List C)} {K:Nat->(Nat->Nat->V)->Prop} (h:csrc own s y=some (m,z,rows)) (hK:K m (tabz (C.vs z) (C.vss rows))):vsrc (ownV own) s y.v K:=by
 unfold csrc at h;split at h
 . split at h
   . rename_i hs;cases h;simp only[C.v,vsrc,hs];exact hK
   . cases h
 . rename_i k s' lo len;simp only[C.v,vsrc];split at h
   . rename_i n s'' z' rows' hl;rw[look_ownV hl];simp only[CB.b];split at h
     . rename_i h1;split at h
       . rename_i h2;split at h
         . rename_i h3;rw[fH_eq] at h;cases h;simp only[h1,h2];refine⟨Nat.le_of_ble_eq_true h3,?_⟩;rw[shiftF_tabzC];rw[dr_eq] at hK;exact hK
         . cases h
       . cases h
     . cases h
   . cases h
 . cases h
def lastC:List C->Option C
 | []=>some (.bool false)
 | [v]=>some v
 | _::r=>lastC r
theorem lastC_ok:∀(z:List C),(lastC z).map C.v=some (lastV (C.vs z))
 | []=>by simp[lastC,lastV,C.vs,C.v];rfl
 | [v]=>by simp[lastC,lastV,C.vs]
 | _::b::r=>by simpa[lastC,lastV,C.vs] using lastC_ok (b::r)
def sameL (z z':List C):Bool:=match lastC z with
 | some (.int k a)=>match lastC z' with
   | some (.int k' b)=>match kEq k k' with|true=>ieq a b|false=>false
   | _=>false
 | some (.bool a)=>match lastC z' with
   | some (.bool b)=>a == b
   | _=>false
 | some .nilslice=>match lastC z' with
   | some .nilslice=>true
   | _=>false
 | _=>false
theorem sameL_ok {z z':List C} (h:sameL z z'=true):lastV (C.vs z)=lastV (C.vs z'):=by
 have h1:=lastC_ok z;have h2:=lastC_ok z';have key:lastC z=lastC z':=by
  unfold sameL at h;split at h
  . rename_i e1;split at h
    . rename_i e2;split at h
      . rename_i e3;rw[ieq_eq,beq_iff_eq] at h;rw[e1,e2,kEq_ok e3,h]
      . cases h
    . cases h
  . rename_i e1;split at h
    . rename_i e2;rw[beq_iff_eq] at h;rw[e1,e2,h]
    . cases h
  . rename_i e1;split at h
    . rename_i e2;rw[e1,e2]
    . cases h
  . cases h
 rw[key,h2] at h1;exact(Option.some.inj h1).symm
theorem fapp_tabz {z z':List C} {rows rows':List (List C)} {lo len:Nat} (h:lo+len<=rows.length) (hz:lastV (C.vs z)=lastV (C.vs z')) :
 fapp (shiftF lo (tabz (C.vs z) (C.vss rows))) len (tabz (C.vs z') (C.vss rows'))=tabz (C.vs z') (C.vss ((rows.drop lo).take len++rows')):=by
 funext i j;have hlen:((rows.drop lo).take len).length=len:=by simp;omega
 by_cases hi:i<len
 . rw[fapp_lt hi,shiftF_eq];simp only[tabz,List.getD_eq_getElem?_getD,C.vss_get];rw[List.getElem?_append_left (by omega),List.getElem?_take,if_pos hi,List.getElem?_drop];have:lo+i<rows.length:=by omega
   simp[this,hz]
 . rw[fapp_ge hi];simp only[tabz,List.getD_eq_getElem?_getD,C.vss_get];rw[List.getElem?_append_right (by omega),hlen]
theorem fput_tabz {z z':List C} {rows rows':List (List C)} {p m:Nat} (h:p+m<=rows.length) (h':m<=rows'.length) (hz:lastV (C.vs z)=lastV (C.vs z')) :
 fput (tabz (C.vs z) (C.vss rows)) p m (tabz (C.vs z') (C.vss rows'))=tabz (C.vs z) (C.vss (rows.take p++rows'.take m++rows.drop (p+m))):=by
 funext i j;have hl:(rows'.take m).length=m:=by simp;omega
 have hs:=splice_get rows (rows'.take m) p (by omega) i;rw[hl] at hs;simp only[fput,tabz,List.getD_eq_getElem?_getD,C.vss_get,hs];by_cases h1:i<p
 . rw[if_neg (by omega),if_pos h1]
 . by_cases h2:i<p+m
   . rw[if_pos ⟨by omega,h2⟩,if_neg h1,if_pos h2,List.getElem?_take,if_pos (by omega)];have:i-p<rows'.length:=by omega
     simp[this,hz]
   . rw[if_neg (by omega),if_neg h1,if_neg h2]
noncomputable def apK {α β:Type} (n:Nat):List α->List α->(List α->Option β)->Option β :=
 @Nat.rec (fun _=>List α->List α->(List α->Option β)->Option β) (fun _ l K=>K l) (fun _ ih q l K=>@List.rec α (fun _=>Option β) none (fun x r _=>ih r l fun o=>K (x::o)) q) n
theorem apK_eq {α β:Type} (n:Nat) (q l:List α) (K:List α->Option β):apK n q l K=if n<=q.length then K (q.take n++l) else none:=by
 induction n generalizing q K with
 | zero=>simp only[Nat.zero_le,if_true,List.take_zero,List.nil_append];rfl
 | succ n ih=>cases q with
   | nil=>rfl
   | cons x r =>
     show apK n r l (fun o=>K (x::o))=_;rw[ih];simp
structure R where
 v:C
 o:COwn
 k:Nat
def KB:Nat:=1000000
def ksV (k:Nat):List Nat:=List.range' k (KB-k)
theorem ksV_cons {k:Nat} (h:k<KB):ksV k=k::ksV (k+1):=by
 unfold ksV;rw[show KB-k=(KB-(k+1))+1 by omega,List.range'_succ]
noncomputable def frC {β:Type} (k:Nat) (K:Nat->Nat->Option β):Option β:=match Nat.blt k KB with
 | true=>fN (Nat.succ k) fun k'=>K k k'
 | false=>none
theorem frC_ok {β:Type} {k:Nat} {K:Nat->Nat->Option β} {out:β} (h:frC k K=some out):K k (k+1)=some out/\∀Kp:Nat->List Nat->Prop,Kp k (ksV (k+1))->fresh (ksV k) Kp:=by
 unfold frC at h;split at h
 . rename_i hb;rw[fN_eq] at h;refine⟨h,fun Kp hK=>?_⟩;rw[ksV_cons (Nat.le_of_ble_eq_true hb)];exact hK
 . cases h
noncomputable def bigC (n bytes:Nat) {β:Type} (K:Option β):Option β:=match Nat.ble (n*bytes) 140737488355328 with
 | true=>match Nat.ble n 9223372036854775807 with|true=>K|false=>none
 | false=>none
theorem bigC_ok {n bytes:Nat} {β:Type} {K:Option β} {out:β} (h:bigC n bytes K=some out):n*bytes<=140737488355328/\n<=9223372036854775807/\K=some out:=by
 unfold bigC at h;split at h
 . rename_i h1;split at h
   . rename_i h2;exact⟨Nat.le_of_ble_eq_true h1,Nat.le_of_ble_eq_true h2,h⟩
   . cases h
 . cases h
noncomputable def cappg (own:COwn) (ks s bytes k lo len m:Nat) (rows:List (List C)) (z':List C) (rows':List (List C)):Option R :=
 bigC (len+m) bytes (frC ks fun k' ks=>deC k own fun own'=>apK len (dr rows lo) rows' fun q=>fN (len+m) fun n=>some ⟨.vec k' s 0 n,(k',.vec n s z' q)::own',ks⟩)
noncomputable def capp (own:COwn) (ks s bytes:Nat) (x y:C):Option R :=
 match csrc own s y with
 | some (m,z',rows')=>match x with
   | .nilslice=>bigC m bytes (frC ks fun k' ks=>some ⟨.vec k' s 0 m,(k',.vec m s z' rows')::own,ks⟩)
   | .fz 0 _ true _ _=>bigC m bytes (frC ks fun k' ks=>some ⟨.vec k' s 0 m,(k',.vec m s z' rows')::own,ks⟩)
   | .vec k s' lo len=>match lk own k with
     | some (.vec n s'' z rows)=>match Nat.beq s s' with
       | true=>match Nat.beq s s'' with
         | true=>match Nat.ble (lo+len) n with
           | true=>match sameL z z' with
            | false=>none
            | true=>match Nat.beq (lo+len) n with
             | true=>cappg own ks s bytes k lo len m rows z' rows'
             | false=>match Nat.ble (lo+len+m) n with
               | true=>match Nat.ble 1 m with
                 | true=>tk m rows' fun q=>stC rows (lo+len) q fun rows2=>upC k (.vec n s z rows2) own fun own'=>fN (len+m) fun n'=>some ⟨.vec k s lo n',own',ks⟩
                 | false=>none
               | false=>cappg own ks s bytes k lo len m rows z' rows'
           | false=>none
         | false=>none
       | false=>none
     | _=>none
   | _=>none
 | none=>none
theorem cappg_ok {own:COwn} {ks s bytes k lo len n m:Nat} {z:List C} {rows:List (List C)} {z':List C} {rows':List (List C)} {r:R} {K:V->Own->List Nat->Prop} (hle:lo+len<=n) (hz:lastV (C.vs z)=lastV (C.vs z'))
 (h:cappg own ks s bytes k lo len m rows z' rows'=some r) (hK:K r.v.v (ownV r.o) (ksV r.k)) :
 vappg (ownV own) (ksV ks) s bytes k lo len n m (tabz (C.vs z) (C.vss rows)) (tabz (C.vs z') (C.vss rows')) K:=by
 unfold cappg at h;obtain⟨a1,a2,h⟩:=bigC_ok h;obtain⟨h,b1⟩:=frC_ok h;obtain⟨o',h,c1⟩:=deC_ok h;rw[apK_eq] at h;split at h
 . rename_i hl;rw[fN_eq] at h;cases h;rw[dr_eq,List.length_drop] at hl;unfold vappg;refine⟨hle,a1,a2,b1 _ (c1 _ ?_)⟩;by_cases h0:len=0
   . subst h0;simp only[fapp];simpa[C.v,ownV,CB.b,dr_eq] using hK
   . rw[fapp_tabz (by omega) hz];simpa[C.v,ownV,CB.b,dr_eq] using hK
 . cases h
theorem capp_ok {own:COwn} {ks s bytes:Nat} {x y:C} {r:R} {K:V->Own->List Nat->Prop} (h:capp own ks s bytes x y=some r) (hK:K r.v.v (ownV r.o) (ksV r.k)):vapp (ownV own) (ksV ks) s bytes x.v y.v K:=by
 unfold capp at h;split at h
 . rename_i m z' rows' hsrc;refine csrc_ok hsrc ?_;split at h
   . obtain⟨a1,a2,h⟩:=bigC_ok h;obtain⟨h,b1⟩:=frC_ok h;cases h;simp only[C.v];exact⟨a1,a2,b1 _ (by simpa[C.v,ownV,CB.b] using hK)⟩
   . obtain⟨a1,a2,h⟩:=bigC_ok h;obtain⟨h,b1⟩:=frC_ok h;cases h;simp only[C.v];exact⟨a1,a2,b1 _ (by simpa[C.v,ownV,CB.b] using hK)⟩
   . rename_i k s' lo len;simp only[C.v];split at h
     . rename_i n s'' z rows hl;rw[look_ownV hl];simp only[CB.b];split at h
       . rename_i h1;split at h
         . rename_i h2;simp only[h1,h2];split at h
           . rename_i h3;have h3:=Nat.le_of_ble_eq_true h3;split at h
             . cases h
             rename_i hz;have hz:=sameL_ok hz;split at h
             . rename_i h4;exact⟨fun _=>cappg_ok h3 hz h hK,fun e=>by rw[h4] at e;cases e⟩
             . rename_i h4;refine⟨fun e=>(by rw[h4] at e;cases e),fun _=>?_⟩;split at h
               . rename_i h5;refine⟨fun _=>?_,fun e=>(by rw[h5] at e;cases e)⟩;split at h
                 . rename_i h6;have h6:=Nat.le_of_ble_eq_true h6;have e1:=Nat.eq_of_beq_eq_true h1;subst e1;rw[tk_eq] at h;split at h
                   . rename_i h7;obtain⟨rows2,g1,g2,g3,g4,g5⟩:=stC_ok _ _ _ _ _ h;obtain⟨o',c1,c2⟩:=upC_ok g1;rw[fN_eq] at c1;cases c1;have hl:(rows'.take m).length=m:=by simp;omega
                     have g3:=g3 (fun e=>by rw[e] at hl;simp at hl;omega);rw[hl] at g3 g4;rw[fput_tabz g3 h7 hz];have:=c2 (fun own'=>K (.vec k s lo (len+m)) own' (ksV ks)) (by simpa[C.v] using hK);simp only[CB.b,g4] at this;exact this
                   . cases h
                 . cases h
               . rename_i h5;exact⟨fun e=>(by rw[h5] at e;cases e),fun _=>cappg_ok h3 hz h hK⟩
           . cases h
         . cases h
       . cases h
     . cases h
   . cases h
 . cases h
noncomputable def cappF (own:COwn) (ks s bytes:Nat) (x y:C):Option R :=
 match y with
 | .vec k s' lo len=>match lk own k with
   | some (.cells _)=>cfrz own (.vec k s' lo len) fun y' own'=>capp own' ks s bytes x y'
   | _=>capp own ks s bytes x (.vec k s' lo len)
 | y=>capp own ks s bytes x y
theorem cappF_ok {own:COwn} {ks s bytes:Nat} {x y:C} {r:R} {K:V->Own->List Nat->Prop} (h:cappF own ks s bytes x y=some r) (hK:K r.v.v (ownV r.o) (ksV r.k)):vappF (ownV own) (ksV ks) s bytes x.v y.v K:=by
 unfold cappF at h;split at h
 . rename_i k s' lo len;split at h
   . rename_i cs hl;obtain⟨v',o1,a1,a2⟩:=cfrz_ok h;simp only[C.v,vappF];rw[look_ownV hl];simp only[CB.b];have:=a2 (fun y' own'=>vapp own' (ksV ks) s bytes x.v y' K) (capp_ok a1 hK);simpa only[C.v] using this
   . rename_i hne;have:=capp_ok h hK;simp only[C.v] at this;simp only[C.v,vappF];split
     . rename_i cs hl;exfalso;rw[ownV,look_map,<- lk_eq] at hl;cases hq:lk own k with
       | none=>rw[hq] at hl;cases hl
       | some b=>cases b with
         | cells cs=>exact hne _ hq
         | _=>rw[hq] at hl;cases hl
     . exact this
 . rename_i hne;have:=capp_ok h hK;cases y<;>first
    | exact(hne _ _ _ _ rfl).elim
    | (simp only[C.v] at this ⊢;simp only[vappF];exact this)
end Go.Eng
