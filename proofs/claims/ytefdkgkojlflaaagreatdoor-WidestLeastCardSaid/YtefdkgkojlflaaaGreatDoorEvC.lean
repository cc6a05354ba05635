import Derived.Test.YtefdkgkojlflaaaGreatDoorWXM
import Derived.Test.YtefdkgkojlflaaaGreatDoorEngAB
namespace Go.Proofs.YtefdkgkojlflaaaGreatDoor
open Go.Eng
set_option maxRecDepth 100000
set_option linter.unusedVariables false
theorem J99 (a b:List Int) (ha:a.length<=1000000) (hb:b.length<=1000000):Ret Tryz.prog 11 [.fz a.length 1 false (vI a),.fz b.length 1 false (vI b)] (.bool (decide (a=b))):=by
 refine J0f rfl ?_;refine J0b mixed Tryz.func11 rfl hc11 hr11 rfl ?_
 repeat' ((conv=>whnf);first|(refine Br.bne ?_ ?_<;>intro _<;>try omega))
 all_goals (conv=>whnf)
 . exact VLe.bool (by rw[decide_eq_false (fun h=>by subst h;omega)])
 refine J0V mixed [0,1] (fun i:Nat=>[(5,.int .i64 i)]) (fun m i=>m=a.length-i/\i<=a.length/\∀j,j<i->gI a j=gI b j) a.length 0 ⟨rfl,Nat.zero_le _,fun j hj=>by omega⟩ ?_ ?_
 . exact J0l (fun _ _=>[])
 rintro m i ⟨hm,hi,hall⟩
 repeat' ((conv=>whnf);first|(refine Br.dec ?_ ?_<;>intro _<;>try omega)|(refine Br.bne ?_ ?_<;>intro _<;>try omega)|(refine Ar.q ?_)|(refine Ix.q ?_))
 all_goals (conv=>whnf)
 . rename_i hne;exact VLe.bool (by rw[decide_eq_false (fun h=>by subst h;exact hne rfl)])
 . refine⟨a.length-(i+1),i+1,by omega,⟨rfl,by omega,fun j hj=>?_⟩,?_⟩
   . by_cases e:j=i
     . subst e;assumption
     . exact hall j (by omega)
   . exact J0l (fun _ _=>[])
 . have e:a=b:=List.ext_getElem (by omega) (fun j h1 h2=>by
    have:=hall j (by omega);simpa[gI,List.getD,List.getElem?_eq_getElem h1,List.getElem?_eq_getElem h2] using this)
   exact VLe.bool (by rw[decide_eq_true e])
def xN:Net:=⟨3,[0,1,0,2,0],[0,1,0,2],[],false,false⟩
def x3:G:=⟨[0,1,2],[[(1,1),(2,3)],[(0,1),(2,2)],[(1,2),(0,3)]]⟩
theorem Q85:xN.Small:=⟨by decide,by decide,by decide⟩
theorem X5G:xN.con 3=x3:=congr (congrArg G.mk (show(xN.con 3).ids=x3.ids by decide +kernel)) (show(xN.con 3).ports=x3.ports by decide +kernel)
theorem J8K:x3.Small:=⟨by decide,by decide,by decide⟩
theorem Q5s:x3.conn=true:=by decide +kernel
def xA:Cf:=[[0,-1],[3,0],[6,0]]
theorem Q76 {g:G} {c:Cf} (h1:c.length=g.ids.length) (h2:(List.range c.length).all (fun v=>decide ((gC c v).length=2)&&(List.range 2).all fun x=>decide ((bnd g (gV J0S.vars x) v).1<=gI (gC c v) x/\gI (gC c v) x<=(bnd g (gV J0S.vars x) v).2))=true):J2o J0S g c:=by
 simp only[List.all_eq_true,List.mem_range,Bool.and_eq_true,decide_eq_true_eq] at h2;exact⟨h1,fun v hv=>(h2 v hv).1,fun v hv x hx=>(h2 v hv).2 x hx⟩
theorem X5F:J2o J0S x3 xA:=Q76 rfl (by decide +kernel)
theorem Q2u:J7L xA:=⟨by decide,by simp[xA]⟩
theorem X74:x3.xleg xA=true:=by
 rw[Q5q Q5s X5F];decide +kernel
theorem X75:x3.botX xA=[0,1,2]:=by decide +kernel
theorem nj {g:G} {w:Int} {a b:Nat} (x:Nat->Bool) (hc:(List.range g.ids.length).all (fun v=>(gR g.ports v).all fun l=>!(decide (l.2<w)&&x l.1.toNat) || x v)=true) (ha:x a=true) (hb:x b=false):¬ Jn g w a b:=fun h=>by
 have:=h.in_ (x:=x) (fun v hv l hl h1 h2=>by
  have:=List.all_eq_true.1 (List.all_eq_true.1 hc v (List.mem_range.2 hv)) l hl;rw[h2,decide_eq_true h1] at this;simpa using this) ha
 rw[hb] at this;cases this
theorem X7h {g:G} {e:Ed} (h:¬ Jn g e.w e.a e.b):chE g e=true:=by
 cases q:chE g e with
 | true=>rfl
 | false=>classical exact(of_decide_eq_false q h).elim
theorem Y1H {g:G} {e:Ed} (h:Jn g e.w e.a e.b):chE g e=false:=by
 cases q:chE g e with
 | false=>rfl
 | true=>classical exact(of_decide_eq_true q h).elim
theorem Q2v:J0q x3=[⟨0,1,1⟩,⟨0,2,3⟩,⟨1,2,2⟩]:=by decide +kernel
theorem X24:J1Q x3=[(0,1),(1,2)]:=by
 have h1:chE x3 ⟨0,1,1⟩=true:=by
  refine X7h ?_;exact(nj (fun v=>v == 0) (by decide +kernel) (by decide) (by decide))
 have h2:chE x3 ⟨0,2,3⟩=false:=by
  refine Y1H ?_;refine Jn.step (l:=(1,2)) (by decide) (by decide +kernel) (by decide) ?_;exact Jn.step (l:=(0,1)) (by decide) (by decide +kernel) (by decide) .refl
 have h3:chE x3 ⟨1,2,2⟩=true:=by
  refine X7h ?_;exact(nj (fun v=>v != 2) (by decide +kernel) (by decide) (by decide))
 rw[<- J3Z,Q2v];simp[h1,h2,h3]
def X3I (l:List Int) (v:V):Bool:=match v with
 | .fz n 1 false k=>decide (n=l.length)&&(List.range n).all fun i=>match k i 0 with
   | .int .i64 x=>decide (x=gI l i)
   | _=>false
 | _=>false
theorem Q9V {l:List Int} {v:V} (h:X3I l v=true):VLe v (.fz l.length 1 false (vI l)):=by
 unfold X3I at h;split at h
 . rename_i n k;rw[Bool.and_eq_true,decide_eq_true_eq,List.all_eq_true] at h;refine VLe.fz h.1 (fun h=>h) (fun i j hi hj=>VLe.of_eq ?_);obtain rfl:j=0:=by omega
   have:=h.2 i (List.mem_range.2 hi);revert this;split
   . rename_i x e;intro q;rw[e,of_decide_eq_true q];rfl
   . intro q;cases q
 . cases h
theorem X2D (c:Cf) (n:Nat) (f:Nat->Nat->V) (hn:n=c.length) (h:(List.range n).all (fun i=>X3I (gC c i) (f i 0))=true):VLe (.fz n 1 false f) (cV c):=by
 refine VLe.fz hn (fun h=>h) (fun i j hi hj=>?_);obtain rfl:j=0:=by omega
 exact Q9V (List.all_eq_true.1 h i (List.mem_range.2 hi))
theorem Q1R (l:List Int) (n:Nat) (f:Nat->Nat->V) (hn:n=l.length) (h:(List.range n).all (fun i=>match f i 0 with | .int .i64 x=>decide (x=gI l i)|_=>false)=true):VLe (.fz n 1 false f) (.fz l.length 1 false (vI l)):=by
 refine VLe.fz hn (fun h=>h) (fun i j hi hj=>VLe.of_eq ?_);obtain rfl:j=0:=by omega
 have:=List.all_eq_true.1 h i (List.mem_range.2 hi);revert this;split
 . rename_i x e;intro q;rw[e,of_decide_eq_true q];rfl
 . intro q;cases q
set_option maxHeartbeats 8000000 in
theorem Q4V:Ret Tryz.prog 7 [] (.bool true):=by
 have hco:=Q01 xN Q85 3 (by decide) (by decide);rw[X5G] at hco;have h1:=J70 x3 J8K xA Q2u;rw[X74] at h1;have h2:=J4q x3 J8K xA Q2u;rw[X75] at h2;have h3:=J99 [0,1,2] [0,1,2] (by decide) (by decide);rw[decide_eq_true rfl] at h3;have h4:=J6H x3 J8K Q5s (by decide +kernel) (by rw[Q2v];decide);rw[X24] at h4;refine Q9X rfl ?_;refine Q36 Tryz.func7 rfl hc7 hr7 rfl ?_;refine J1B (J15 mixed ?_)
 repeat' ((conv=>whnf);first|fail)
 all_goals (conv=>whnf)
 refine J1B (J15 mixed ?_)
 repeat' ((conv=>whnf);first|(refine J11 [0,1] hco ⟨by decide,by decide,VLe.agg ⟨VLe.rfl,Q1R _ _ _ rfl (by decide),Q1R _ _ _ rfl (by decide),VLe.nilfz rfl,VLe.rfl,VLe.rfl,True.intro⟩,VLe.rfl,True.intro⟩ ?_))
 all_goals (conv=>whnf)
 refine J1B (J15 mixed ?_)
 repeat' ((conv=>whnf);first|fail)
 all_goals (conv=>whnf)
 refine X3y 2 rfl (by(conv=>whnf);exact⟨by decide,by decide,by decide,rfl,rfl⟩) (J1B (J15 mixed ?_))
 repeat' ((conv=>whnf);first|(refine h4.go ?_))
 all_goals (conv=>whnf)
 refine J15 mixed ?_
 repeat' ((conv=>whnf);first|(refine Ix.mk 0 rfl (by decide) ?_)|(refine Ix.mk 1 rfl (by decide) ?_)|(refine Br.tt ?_)|(refine J11 [] h1 ⟨VLe.rfl,X2D xA 3 _ rfl (by decide),True.intro⟩ ?_)|(refine J11 [] h2 ⟨VLe.rfl,X2D xA 3 _ rfl (by decide),True.intro⟩ ?_)|(refine J1n h3 rfl ⟨by decide,VLe.rfl,Q1R _ _ _ rfl (by decide),True.intro⟩ ?_))
 all_goals (conv=>whnf)
 all_goals exact VLe.rfl
end Go.Proofs.YtefdkgkojlflaaaGreatDoor
namespace Go.Eng
open Go.MapKept (bytes_beq)
noncomputable def fN {β:Type} (n:Nat) (K:Nat->β):β:=@Nat.rec (fun _=>β) (K 0) (fun m _=>K (Nat.succ m)) n
theorem J4k {β:Type} (n:Nat) (K:Nat->β):fN n K=K n:=by cases n<;>rfl
noncomputable def fI {β:Type} (n:Int) (K:Int->β):β:=@Int.rec (fun _=>β) (fun a=>fN a fun a=>K (.ofNat a)) (fun a=>fN a fun a=>K (.negSucc a)) n
theorem X4J {β:Type} (n:Int) (K:Int->β):fI n K=K n:=by cases n<;>simp[fI,J4k]
noncomputable def fB {β:Type} (b:Bool) (K:Bool->β):β:=@Bool.rec (fun _=>β) (K false) (K true) b
theorem Y1z {β:Type} (b:Bool) (K:Bool->β):fB b K=K b:=by cases b<;>rfl
noncomputable def lk {α:Type} (l:List (Nat×α)) (t:Nat):Option α :=
 @List.rec (Nat×α) (fun _=>Option α) none (fun p _ ih=>@Prod.rec Nat α (fun _=>Option α) (fun k v=>@Bool.rec (fun _=>Option α) ih (some v) (Nat.beq k t)) p) l
theorem J7U {α:Type} (l:List (Nat×α)) (t:Nat):lk l t=look l t:=by
 induction l with
 | nil=>rfl
 | cons p r ih =>
   obtain⟨k,v⟩:=p;unfold look;show @Bool.rec (fun _=>Option α) (lk r t) (some v) (Nat.beq k t)=_;cases Nat.beq k t<;>simp[ih]
noncomputable def nt {α:Type} (l:List α) (n:Nat):Option α :=
 @List.rec α (fun _=>Nat->Option α) (fun _=>none) (fun x _ ih n=>@Nat.rec (fun _=>Option α) (some x) (fun m _=>ih m) n) l n
theorem X0b {α:Type} (l:List α) (n:Nat):nt l n=nth l n:=by
 induction l generalizing n with
 | nil=>rfl
 | cons x r ih=>cases n with
   | zero=>rfl
   | succ n=>exact ih n
theorem J5m {α:Type}:∀(l:List α) (n:Nat),nth l n=l[n]?
 | [],n=>by simp[nth]
 | x::r,0=>by simp[nth]
 | x::r,n+1=>by simp[nth,J5m r n]
noncomputable def dr {α:Type} (l:List α) (n:Nat):List α :=
 @List.rec α (fun _=>Nat->List α) (fun _=>[]) (fun x r ih n=>@Nat.rec (fun _=>List α) (x::r) (fun m _=>ih m) n) l n
theorem J9s {α:Type} (l:List α) (n:Nat):dr l n=l.drop n:=by
 induction l generalizing n with
 | nil=>simp[dr]
 | cons x r ih=>cases n with
   | zero=>rfl
   | succ n=>exact ih n
noncomputable def fH {α β:Type} (l:List α) (K:List α->β):β:=@List.rec α (fun _=>β) (K []) (fun x r _=>K (x::r)) l
theorem X0W {α β:Type} (l:List α) (K:List α->β):fH l K=K l:=by cases l<;>rfl
noncomputable def tk {α β:Type} (n:Nat):List α->(List α->Option β)->Option β :=
 @Nat.rec (fun _=>List α->(List α->Option β)->Option β) (fun _ K=>K []) (fun _ ih l K=>@List.rec α (fun _=>Option β) none (fun x r _=>ih r fun q=>K (x::q)) l) n
theorem Q9w {α β:Type} (n:Nat) (l:List α) (K:List α->Option β):tk n l K=if n<=l.length then K (l.take n) else none:=by
 induction n generalizing l K with
 | zero=>simp only[Nat.zero_le,if_true,List.take_zero];rfl
 | succ n ih=>cases l with
   | nil=>rfl
   | cons x r =>
     show tk n r (fun q=>K (x::q))=_;rw[ih];simp
def bl:Nat->Nat->List UInt8
 | 0,_=>[]
 | l+1,c=>UInt8.ofNat (c % 256)::bl l (c / 256)
def J0t (l c:Nat):ByteArray:=⟨⟨bl l c⟩⟩
def X02:List UInt8->Nat
 | []=>0
 | b::r=>b.toNat+256*X02 r
theorem Q1i:∀(l c:Nat),(bl l c).length=l
 | 0,_=>rfl
 | l+1,c=>by simp[bl,Q1i]
theorem X2R:∀(l:List UInt8),bl l.length (X02 l)=l
 | []=>rfl
 | b::r=>by
   have hb:=b.toNat_lt;simp only[List.length_cons,bl,X02];rw[show(b.toNat+256*X02 r) % 256=b.toNat by omega,show(b.toNat+256*X02 r) / 256=X02 r by omega,X2R r];simp
theorem X2Q:∀(l c m:Nat),m<l->(bl l c)[m]?=some (UInt8.ofNat (c / 256 ^ m % 256))
 | 0,c,m,h=>by omega
 | l+1,c,0,h=>by simp[bl]
 | l+1,c,m+1,h=>by
   simp only[bl,List.getElem?_cons_succ];rw[X2Q l _ m (by omega),Nat.div_div_eq_div_mul,Nat.pow_succ,Nat.mul_comm 256]
theorem Q8E:∀(l c m:Nat),(bl l c).drop m=bl (l-m) (c / 256 ^ m)
 | 0,c,m=>by simp[bl]
 | l+1,c,0=>by simp
 | l+1,c,m+1=>by
   simp only[bl,List.drop_succ_cons];rw[Q8E l _ m,Nat.div_div_eq_div_mul,Nat.pow_succ,Nat.mul_comm 256,show l+1-(m+1)=l-m by omega]
theorem Q8D:∀(l c m:Nat),m<=l->(bl l c).take m=bl m c
 | l,c,0,h=>by simp[bl]
 | 0,c,m+1,h=>by omega
 | l+1,c,m+1,h=>by simp[bl,Q8D l _ m (by omega)]
theorem X2O:∀(l c:Nat),bl l (c % 256 ^ l)=bl l c
 | 0,c=>rfl
 | l+1,c=>by
   simp only[bl];have h1:c % 256 ^ (l+1) % 256=c % 256:=by
    rw[Nat.pow_succ,Nat.mul_comm];exact Nat.mod_mul_right_mod _ _ _
   have h2:c % 256 ^ (l+1) / 256=c / 256 % 256 ^ l:=by
    rw[Nat.pow_succ,Nat.mul_comm,Nat.mod_mul_right_div_self]
   rw[h1,h2,X2O]
theorem X2P:∀(l c d:Nat),bl l c=bl l d->c % 256 ^ l=d % 256 ^ l
 | 0,c,d,_=>by simp[Nat.mod_one]
 | l+1,c,d,h=>by
   simp only[bl,List.cons.injEq] at h;have h1:c % 256=d % 256:=by
    have:=congrArg UInt8.toNat h.1;simpa using this
   have h2:=X2P l _ _ h.2;rw[Nat.pow_succ,Nat.mul_comm,Nat.mod_mul,Nat.mod_mul,h1,h2]
theorem X2S:∀(l c l' c':Nat),bl l c++bl l' c'=bl (l+l') (c % 256 ^ l+256 ^ l*c')
 | 0,c,l',c'=>by simp[bl,Nat.mod_one]
 | l+1,c,l',c'=>by
   rw[show l+1+l'=(l+l')+1 by omega];simp only[bl,List.cons_append];rw[X2S l _ l' c'];have e:c % 256 ^ (l+1)=c % 256+256*(c / 256 % 256 ^ l):=by
    rw[Nat.pow_succ,Nat.mul_comm (256 ^ l),Nat.mod_mul]
   have e2:256 ^ (l+1)*c'=256*(256 ^ l*c'):=by rw[Nat.pow_succ,Nat.mul_comm (256 ^ l),Nat.mul_assoc]
   rw[e,e2];have hlt:c % 256<256:=Nat.mod_lt _ (by omega);rw[show(c % 256+256*(c / 256 % 256 ^ l)+256*(256 ^ l*c')) % 256=c % 256 by omega,show(c % 256+256*(c / 256 % 256 ^ l)+256*(256 ^ l*c')) / 256=c / 256 % 256 ^ l+256 ^ l*c' by omega]
theorem J1w (l c:Nat):(J0t l c).size=l:=by
 show(bl l c).length=l;exact Q1i l c
theorem Q2h (b:ByteArray):J0t b.size (X02 b.data.toList)=b:=by
 obtain⟨⟨l⟩⟩:=b;show ByteArray.mk ⟨bl l.length (X02 l)⟩=_;rw[X2R]
theorem Q2g (l c m:Nat) (h:m<l):((J0t l c).get! m).toNat=c / 256 ^ m % 256:=by
 have h1:=X2Q l c m h;show((J0t l c).data[m]!).toNat=_;have:(J0t l c).data[m]! = UInt8.ofNat (c / 256 ^ m % 256):=by
  rw[getElem!_def,show(J0t l c).data[m]?=some (UInt8.ofNat (c / 256 ^ m % 256)) from by simpa[J0t] using h1]
 rw[this];simp
theorem J7G (l c lo hi:Nat) (h:hi<=l):(J0t l c).extract lo hi=J0t (hi-lo) (c / 256 ^ lo):=by
 apply ByteArray.ext;rw[ByteArray.data_extract];show(Array.mk (bl l c)).extract lo hi=Array.mk (bl (hi-lo) (c / 256 ^ lo));apply Array.ext';simp only[Array.toList_extract,List.extract_eq_take_drop];rw[Q8E,Q8D _ _ _ (by omega)]
theorem J4H (l c:Nat):J0t l (c % 256 ^ l)=J0t l c:=by unfold J0t;rw[X2O]
theorem Q2i (l c l' c':Nat):J0t l c++J0t l' c'=J0t (l+l') (c % 256 ^ l+256 ^ l*c'):=by
 apply ByteArray.ext;rw[ByteArray.data_append];show Array.mk (bl l c)++Array.mk (bl l' c')=Array.mk _;simp[X2S]
def eqS (l c l' c':Nat):Bool:=match Nat.beq l l' with
 | true=>Nat.beq (Nat.mod c (Nat.pow 256 l)) (Nat.mod c' (Nat.pow 256 l))
 | false=>false
theorem Q3I (l c l' c':Nat):eqS l c l' c'=(J0t l c == J0t l' c'):=by
 unfold eqS;have hb:(J0t l c == J0t l' c')=decide (J0t l c=J0t l' c'):=by
  rw[Bool.eq_iff_iff,bytes_beq];simp
 rw[hb];split
 . rename_i h;have h:=Nat.eq_of_beq_eq_true h;subst h;rw[Bool.eq_iff_iff,Nat.beq_eq,decide_eq_true_eq];constructor
   . intro h;have h:c % 256 ^ l=c' % 256 ^ l:=h;rw[<- J4H l c,h,J4H]
   . intro h;exact X2P l c c' (by simpa[J0t] using h)
 . rename_i h;symm;rw[decide_eq_false_iff_not];intro e;have:=congrArg ByteArray.size e;rw[J1w,J1w] at this;subst this;simp at h
inductive C where
 | nilptr|nilmap|nilfunc|niliface
 | unit
 | map (k:Nat)
 | fn (f:Fn) (b:Bool) (cap:List C)
 | iface (t:TypeId) (v:C)
 | fe (n s:Nat) (z:List C) (rows:List (List C)) (i j:Nat)
 | oel (k s i j:Nat)
 | fz (n s:Nat) (J2a:Bool) (z:List C) (rows:List (List C))
 | tup (vs:List C)
 | agg (cs:List C)
 | nilslice
 | vec (k s lo len:Nat)
 | loc (k off:Nat)
 | str (l c:Nat)
 | bool (b:Bool)
 | int (k:IntKind) (n:Int)
 deriving Inhabited
def J3G:List V->V
 | []=>default
 | [v]=>v
 | _::r=>J3G r
def J4s (z:List V) (rows:List (List V)):Nat->Nat->V:=fun i j=>(rows.getD i z).getD j (J3G z)
mutual
def C.v:C->V
 | .bool b=>.bool b
 | .int k n=>.int k n
 | .str l c=>.str (J0t l c)
 | .nilptr=>.nilptr | .nilslice=>.nilslice | .nilmap=>.nilmap | .nilfunc=>.nilfunc | .niliface=>.niliface
 | .loc k off=>.loc k off
 | .oel k s i j=>.oel k s i j
 | .vec k s lo len=>.vec k s lo len
 | .fz n s J2a z rows=>.fz n s J2a (J4s (C.vs z) (C.vss rows))
 | .fe n s z rows i j=>.fe n s (J4s (C.vs z) (C.vss rows)) i j
 | .map k=>.map k
 | .fn f b cap=>.fn f b (C.vs cap)
 | .iface t v=>.iface t v.v
 | .agg cs=>.agg (C.vs cs)
 | .tup cs=>.tup (C.vs cs)
 | .unit=>.raw (.tuple #[])
def C.vs:List C->List V
 | []=>[]
 | c::r=>c.v::C.vs r
def C.vss:List (List C)->List (List V)
 | []=>[]
 | c::r=>C.vs c::C.vss r
end
theorem C.vs_map:∀(l:List C),C.vs l=l.map C.v
 | []=>by simp[C.vs]
 | c::r=>by simp[C.vs,C.vs_map r]
theorem C.vss_map:∀(l:List (List C)),C.vss l=l.map C.vs
 | []=>by simp[C.vss]
 | c::r=>by simp[C.vss,C.vss_map r]
theorem C.vs_length (l:List C):(C.vs l).length=l.length:=by simp[C.vs_map]
theorem C.vs_get (l:List C) (i:Nat):(C.vs l)[i]?=(l[i]?).map C.v:=by simp[C.vs_map]
theorem C.vss_get (l:List (List C)) (i:Nat):(C.vss l)[i]?=(l[i]?).map C.vs:=by simp[C.vss_map]
abbrev J1i:=List (Nat×C)
inductive CB where
 | cells (cs:List C)
 | vec (n s:Nat) (z:List C) (rows:List (List C))
 | map (ik:IntKind) (es:List (Int×C))
 | mapS (es:List ((Nat×Nat)×C))
 deriving Inhabited
abbrev J0B:=List (Nat×CB)
def CB.b:CB->Blk
 | .cells cs=>.cells (C.vs cs)
 | .vec n s z rows=>.vec n s (J4s (C.vs z) (C.vss rows))
 | .map ik es=>.map (.one ik) (es.map fun p=>(p.1,p.2.v))
 | .mapS es=>.map .str (es.map fun p=>(J0t p.1.1 p.1.2,p.2.v))
def J21 (e:J1i):Env:=e.map fun p=>(p.1,p.2.v)
def J0L (o:J0B):Own:=o.map fun p=>(p.1,p.2.b)
theorem J2u {α β:Type} (f:α->β) (l:List (Nat×α)) (t:Nat):look (l.map fun p=>(p.1,f p.2)) t=(look l t).map f:=by
 induction l with
 | nil=>rfl
 | cons p r ih =>
   simp only[List.map_cons,look];cases Nat.beq p.1 t<;>simp[ih]
theorem J1Z {e:J1i} {t:Nat} {c:C} (h:lk e t=some c):look (J21 e) t=some c.v:=by
 rw[J7U] at h;rw[J21,J2u,h];rfl
theorem J0z {o:J0B} {t:Nat} {c:CB} (h:lk o t=some c):look (J0L o) t=some c.b:=by
 rw[J7U] at h;rw[J0L,J2u,h];rfl
def X5v (v:V):Option C:=match v with
 | .bool b=>some (.bool b)
 | .int k n=>some (.int k n)
 | .str s=>some (.str s.size (X02 s.data.toList))
 | .nilptr=>some .nilptr | .nilslice=>some .nilslice | .nilmap=>some .nilmap | .nilfunc=>some .nilfunc | .niliface=>some .niliface
 | .fn f b []=>some (.fn f b [])
 | _=>none
theorem Q1M {v:V} {c:C} (h:X5v v=some c):c.v=v:=by
 unfold X5v at h;split at h<;>first
  | (cases h;done)
  | (cases h;simp[C.v,C.vs,Q2h])
noncomputable def X5u (l:List V):Option (List C):=@List.rec V (fun _=>Option (List C)) (some []) (fun v _ ih=>match X5v v with
 | some c=>match ih with
   | some l=>some (c::l)
   | none=>none
 | none=>none) l
theorem J60:∀(l:List V) {cs:List C},X5u l=some cs->C.vs cs=l
 | [],cs,h=>by have h:some []=some cs:=h;cases h;simp[C.vs]
 | v::r,cs,h=>by
   have h:(match X5v v with
    | some c=>match X5u r with
      | some l=>some (c::l)
      | none=>none
    | none=>none)=some cs:=h
   split at h
   . rename_i c hc;split at h
     . rename_i l hl;cases h;simp[C.vs,Q1M hc,J60 r hl]
     . cases h
   . cases h
noncomputable def ofV (v:V):Option C:=match v with
 | .agg cs=>match X5u cs with|some l=>some (.agg l)|none=>none
 | v=>X5v v
theorem X13 (v:V) {c:C} (h:ofV v=some c):c.v=v:=by
 unfold ofV at h;split at h
 . split at h
   . rename_i l hl;cases h;simp[C.v,J60 _ hl]
   . cases h
 . exact Q1M h
open Go.IntWalk
noncomputable def gx (x:X) (env:J1i):Option C:=match x with | .t n=>lk env n | .k v=>ofV v
theorem J0G {x:X} {env:J1i} {c:C} {K:V->Prop} (h:gx x env=some c) (hK:K c.v):x.get (J21 env) K:=by
 cases x with
 | t n=>simp only[gx] at h;simp only[X.get,J1Z h];exact hK
 | k v=>simp only[gx] at h;rw[X13 v h] at hK;exact hK
noncomputable def gxs (env:J1i) (l:List X):Option (List C):=@List.rec X (fun _=>Option (List C)) (some []) (fun x _ ih=>match gx x env with
 | some c=>match ih with|some l=>some (c::l)|none=>none
 | none=>none) l
theorem X0N (env:J1i) (x:X) (r:List X):gxs env (x::r)=match gx x env with
 | some c=>match gxs env r with|some l=>some (c::l)|none=>none
 | none=>none:=rfl
theorem Q0L {env:J1i}:∀{xs:List X} {cs:List C} {K:List V->Prop},gxs env xs=some cs->K (C.vs cs)->X.gets (J21 env) xs K
 | [],cs,K,h,hK=>by have h:some []=some cs:=h;cases h;simpa[C.vs,X.gets] using hK
 | x::r,cs,K,h,hK=>by
   rw[X0N] at h;split at h
   . rename_i c hc;split at h
     . rename_i l hl;cases h;exact J0G hc (Q0L hl (by simpa[C.vs] using hK))
     . cases h
   . cases h
theorem Q04 {b:Bool} {K:V->Prop} (hK:K (.bool b)):Q1q b K:=by
 cases b
 . exact⟨fun h=>(by cases h),fun _=>hK⟩
 . exact⟨fun _=>hK,fun h=>(by cases h)⟩
noncomputable def Q3T (b:Bool):Option C:=fB b fun b=>some (.bool b)
theorem J2l {b:Bool} {c:C} {K:V->Prop} (h:Q3T b=some c) (hK:K c.v):Q1q b K:=by
 simp only[Q3T,Y1z,Option.some.injEq] at h;subst h;exact Q04 (by simpa[C.v] using hK)
def kEq (a b:IntKind):Bool:=Nat.beq a.ctorIdx b.ctorIdx
theorem J5P {a b:IntKind} (h:kEq a b=true):a=b:=by cases a<;>cases b<;>first|rfl|(exact absurd h (by decide))
def mxN:IntKind->Nat
 | .i8=>127 | .i16=>32767 | .i32=>2147483647 | .i64=>9223372036854775807
 | .u8=>255 | .u16=>65535 | .u32=>4294967295 | .u64=>18446744073709551615
def wrC (k:IntKind) (n:Int):Int:=match n with
 | .ofNat m=>match Nat.ble m (mxN k) with|true=>.ofNat m|false=>k.wrap (.ofNat m)
 | .negSucc m=>k.wrap (.negSucc m)
theorem X5K (k:IntKind) (n:Int):wrC k n=k.wrap n:=by
 unfold wrC;split
 . split
   . rename_i h;have h:=Nat.le_of_ble_eq_true h;symm;rw[Int.ofNat_eq_natCast];cases k<;>simp only[mxN] at h
     . exact i8_in _ (by omega)
     . exact i16_in _ (by omega)
     . exact i32_in _ (by omega)
     . exact i64_in _ (by omega)
     . exact u8_in _ (by omega)
     . exact u16_in _ (by omega)
     . exact u32_in _ (by omega)
     . exact u64_in _ (by omega)
   . rfl
 . rfl
noncomputable def arC (k:IntKind) (n:Int):Option C:=fI (wrC k n) fun m=>some (.int k m)
theorem J7I {k:IntKind} {n:Int} {c:C} {K:V->Prop} (h:arC k n=some c) (hK:K c.v):Ar k n fun m=>K (.int k m):=by
 simp only[arC,X4J,X5K,Option.some.injEq] at h;subst h;exact⟨_,rfl,by simpa[C.v] using hK⟩
noncomputable def svC (k:IntKind) (n:Int):Option C:=fI n fun m=>some (.int k m)
theorem J6F {k:IntKind} {n:Int} {c:C} {K:V->Prop} (h:svC k n=some c) (hK:K c.v):Sv n fun m=>K (.int k m):=by
 simp only[svC,X4J,Option.some.injEq] at h;subst h;exact⟨_,rfl,by simpa[C.v] using hK⟩
def ieq:Int->Int->Bool
 | .ofNat a,.ofNat b=>Nat.beq a b
 | .negSucc a,.negSucc b=>Nat.beq a b
 | _,_=>false
theorem J41 (a b:Int):ieq a b=(a == b):=by
 rw[Bool.eq_iff_iff,beq_iff_eq];cases a<;>cases b<;>simp[ieq]<;>omega
def ile:Int->Int->Bool
 | .ofNat a,.ofNat b=>Nat.ble a b
 | .negSucc a,.negSucc b=>Nat.ble b a
 | .negSucc _,.ofNat _=>true
 | .ofNat _,.negSucc _=>false
theorem J5Q (a b:Int):ile a b=decide (a<=b):=by
 rw[Bool.eq_iff_iff,decide_eq_true_eq];cases a<;>cases b<;>simp[ile]<;>omega
noncomputable def Y1G (op:BinOp) (k:IntKind) (a b:Int):Option C :=
 match op with
 | .add=>arC k (Int.add a b)
 | .sub=>arC k (Int.sub a b)
 | .mul=>arC k (Int.mul a b)
 | .quo=>match ieq b 0 with|true=>none|false=>arC k (a.tdiv b)
 | .rem=>match ieq b 0 with|true=>none|false=>svC k (a.tmod b)
 | .and=>svC k (J3m .and k a b)
 | .or=>svC k (J3m .or k a b)
 | .xor=>svC k (J3m .xor k a b)
 | .andNot=>svC k (J3m .andNot k a b)
 | .eql=>Q3T (ieq a b)
 | .neq=>Q3T (!(ieq a b))
 | .lss=>Q3T (!(ile b a))
 | .leq=>Q3T (ile a b)
 | .gtr=>Q3T (!(ile a b))
 | .geq=>Q3T (ile b a)
 | _=>none
theorem X40 {bt:BT} {op:BinOp} {k:IntKind} {a b:Int} {c:C} {K:V->Prop} (h:Y1G op k a b=some c) (hK:K c.v):J9G bt op (.int k a) (.int k b) K:=by
 unfold Y1G at h;cases op<;>simp only[J9G,decide_true]<;>simp only at h
 case add=>exact J7I h hK
 case sub=>exact J7I h hK
 case mul=>exact J7I h hK
 case quo =>
  split at h
  . cases h
  . rename_i hb;rw[J41] at hb;exact⟨by simpa using hb,J7I h hK⟩
 case rem =>
  split at h
  . cases h
  . rename_i hb;rw[J41] at hb;exact⟨by simpa using hb,J6F h hK⟩
 case and=>exact J6F h hK
 case or=>exact J6F h hK
 case xor=>exact J6F h hK
 case andNot=>exact J6F h hK
 case eql=>rw[J41] at h;exact J2l h hK
 case neq=>rw[J41] at h;exact J2l h hK
 case lss =>
  rw[J5Q] at h;rw[show decide (a<b)=!decide (b<=a) by rw[Bool.eq_iff_iff];simp];exact J2l h hK
 case leq=>rw[J5Q] at h;exact J2l h hK
 case gtr =>
  rw[J5Q] at h;rw[show decide (a > b)=!decide (a<=b) by rw[Bool.eq_iff_iff];simp];exact J2l h hK
 case geq =>
  rw[J5Q] at h;exact J2l h hK
 case shl=>cases h
 case shr=>cases h
noncomputable def X7K (l c:Nat):Option C:=fN l fun l=>fN c fun c=>some (.str l c)
theorem Q5Y {l d:Nat} {c:C} (h:X7K l d=some c):c.v=.str (J0t l d):=by
 simp only[X7K,J4k,Option.some.injEq] at h;subst h;simp[C.v]
noncomputable def X2W (op:BinOp) (k:IntKind) (a:Int) (k':IntKind) (b:Int):Option C:=match op with
 | .shl=>match b with | .ofNat n=>arC k (a*2 ^ (min n k.bits)) | .negSucc _=>none
 | .shr=>match b with | .ofNat n=>svC k (a.fdiv (2 ^ (min n k.bits))) | .negSucc _=>none
 | op=>match kEq k k' with|true=>Y1G op k a b|false=>none
noncomputable def X7w (op:BinOp) (k:IntKind) (a:Int) (y:C):Option C:=match y with
 | .int k' b=>X2W op k a k' b
 | _=>none
noncomputable def X2V (op:BinOp) (l c l' c':Nat):Option C:=match op with
 | .eql=>Q3T (eqS l c l' c')
 | .neq=>Q3T (!(eqS l c l' c'))
 | .add=>match Nat.ble (l+l') 9223372036854775807 with
   | true=>X7K (l+l') (Nat.add (Nat.mod c (Nat.pow 256 l)) (Nat.mul (Nat.pow 256 l) c'))
   | false=>none
 | _=>none
noncomputable def X7u (op:BinOp) (l c:Nat) (y:C):Option C:=match y with
 | .str l' c'=>X2V op l c l' c'
 | _=>none
noncomputable def X2X (bt:BT) (op:BinOp) (a:Bool) (y:C):Option C:=match y with
 | .bool b=>match bt with
   | .bool=>match op with
     | .eql=>Q3T (a == b)
     | .neq=>Q3T (!(a == b))
     | _=>none
   | _=>none
 | _=>none
def X1F (bt:BT) (op:BinOp) (n:Nat) (y:C):Option C:=match n with
 | 0=>none
 | _+1=>match y with
   | .nilslice=>match bt with
     | .slc=>match op with
       | .eql=>some (.bool false)
       | .neq=>some (.bool true)
       | _=>none
     | _=>none
   | _=>none
def X7v (bt:BT) (op:BinOp) (y:C):Option C:=match y with
 | .nilslice=>match bt with
   | .slc=>match op with
     | .eql=>some (.bool true)
     | .neq=>some (.bool false)
     | _=>none
   | _=>none
 | _=>none
def X70 (b:Bool) (o:Option Bool):Option Bool:=match o with
 | some t=>some (b&&t)
 | none=>none
theorem J7J {b t:Bool} {o:Option Bool} (h:X70 b o=some t):∃u,o=some u/\t=(b&&u):=by
 cases o with
 | none=>cases h
 | some u=>exact⟨u,rfl,(Option.some.inj h).symm⟩
noncomputable def Q3J:List Lf->List C->List C->Option Bool
 | [],[],[]=>some true
 | .int::ls,.int k a::r,.int k' b::r'=>match kEq k k' with
   | true=>X70 (ieq a b) (Q3J ls r r')
   | false=>none
 | .bool::ls,.bool a::r,.bool b::r'=>X70 (a == b) (Q3J ls r r')
 | .str::ls,.str l c::r,.str l' c'::r'=>X70 (eqS l c l' c') (Q3J ls r r')
 | _,_,_=>none
theorem J7s:∀(ls:List Lf) (xs ys:List C) (t:Bool) (K:Bool->Prop),Q3J ls xs ys=some t->K t->J6f ls (C.vs xs) (C.vs ys) K
 | [],[],[],t,K,h,hK=>by
   simp only[Q3J,Option.some.injEq] at h;subst h;simpa only[C.vs,J6f] using hK
 | .int::ls,.int k a::r,.int k' b::r',t,K,h,hK=>by
   simp only[Q3J] at h;split at h
   . rename_i hk;have:=J5P hk;subst this;obtain⟨u,e1,rfl⟩:=J7J h;simp only[C.vs,C.v,J6f,decide_true];exact J7s ls r r' u _ e1 (by rw[<- J41];exact hK)
   . cases h
 | .bool::ls,.bool a::r,.bool b::r',t,K,h,hK=>by
   simp only[Q3J] at h;obtain⟨u,e1,rfl⟩:=J7J h;simp only[C.vs,C.v,J6f];exact J7s ls r r' u _ e1 hK
 | .str::ls,.str l c::r,.str l' c'::r',t,K,h,hK=>by
   simp only[Q3J] at h;obtain⟨u,e1,rfl⟩:=J7J h;simp only[C.vs,C.v,J6f];exact J7s ls r r' u _ e1 (by rw[<- Q3I];exact hK)
 | [],_::_,_,_,_,h,_=>by simp[Q3J] at h
 | [],[],_::_,_,_,h,_=>by simp[Q3J] at h
 | _::_,[],_,_,_,h,_=>by simp[Q3J] at h
 | _::_,_::_,[],_,_,h,_=>by simp[Q3J] at h
noncomputable def X7x (bt:BT) (op:BinOp) (xs:List C) (y:C):Option C:=match y with
 | .agg ys=>match bt with
   | .flat ls=>match op with
     | .eql=>match Q3J ls xs ys with|some t=>Q3T t|none=>none
     | .neq=>match Q3J ls xs ys with|some t=>Q3T (!t)|none=>none
     | _=>none
   | _=>none
 | _=>none
noncomputable def Y1J (bt:BT) (op:BinOp) (x y:C):Option C :=
 match x with
 | .agg xs=>X7x bt op xs y
 | .int k a=>X7w op k a y
 | .str l c=>X7u op l c y
 | .bool a=>X2X bt op a y
 | .fz n _ _ _ _=>X1F bt op n y
 | .vec _ _ _ n=>X1F bt op n y
 | .nilslice=>X7v bt op y
 | _=>none
theorem X45 {bt:BT} {op:BinOp} {x y c:C} {K:V->Prop} (h:Y1J bt op x y=some c) (hK:K c.v):J9G bt op x.v y.v K:=by
 unfold Y1J at h;split at h
 . unfold X7x at h;split at h
   . split at h
     . simp only[C.v,J9G];split at h
       . split at h
         . rename_i t ht;exact J7s _ _ _ t _ ht (J2l h hK)
         . cases h
       . split at h
         . rename_i t ht;exact J7s _ _ _ t _ ht (J2l h hK)
         . cases h
       . cases h
     . cases h
   . cases h
 . unfold X7w at h;split at h
   . rename_i k a _ k' b;unfold X2W at h;simp only[C.v];split at h
     . split at h
       . rename_i n;simp only[J9G];refine⟨by simp,?_⟩;have e:(Int.ofNat n).toNat=n:=rfl;rw[e];exact J7I h hK
       . cases h
     . split at h
       . rename_i n;simp only[J9G];refine⟨by simp,?_⟩;have e:(Int.ofNat n).toNat=n:=rfl;rw[e];exact J6F h hK
       . cases h
     . split at h
       . rename_i hk;have:=J5P hk;subst this;exact X40 h hK
       . cases h
   . cases h
 . unfold X7u at h;split at h
   . unfold X2V at h;simp only[C.v,J9G];split at h
     . rw[Q3I] at h;exact J2l h hK
     . rw[Q3I] at h;exact J2l h hK
     . split at h
       . rename_i l c _ l' c' hle;rw[J1w,J1w];refine⟨fun _=>?_,fun hf=>?_⟩
         . rw[Q2i];rw[Q5Y h] at hK;exact hK
         . have:=Nat.le_of_ble_eq_true hle;simp[this] at hf
       . cases h
     . cases h
   . cases h
 . unfold X2X at h;split at h
   . split at h
     . split at h
       . simp only[C.v,J9G];exact J2l h hK
       . simp only[C.v,J9G];exact J2l h hK
       . cases h
     . cases h
   . cases h
 . unfold X1F at h;split at h
   . cases h
   . split at h
     . split at h
       . split at h
         . cases h;simp only[C.v,J9G];exact⟨fun e=>(by cases e),fun _=>(by simpa[C.v] using hK)⟩
         . cases h;simp only[C.v,J9G];exact⟨fun e=>(by cases e),fun _=>(by simpa[C.v] using hK)⟩
         . cases h
       . cases h
     . cases h
 . unfold X1F at h;split at h
   . cases h
   . split at h
     . split at h
       . split at h
         . cases h;simp only[C.v,J9G];exact⟨fun e=>(by cases e),fun _=>(by simpa[C.v] using hK)⟩
         . cases h;simp only[C.v,J9G];exact⟨fun e=>(by cases e),fun _=>(by simpa[C.v] using hK)⟩
         . cases h
       . cases h
     . cases h
 . unfold X7v at h;split at h
   . split at h
     . split at h
       . cases h;simp only[C.v,J9G];simpa[C.v] using hK
       . cases h;simp only[C.v,J9G];simpa[C.v] using hK
       . cases h
     . cases h
   . cases h
 . cases h
noncomputable def cbd (x:Option X) (env:J1i) (d n:Nat):Option Nat:=match x with
 | none=>some d
 | some x=>match gx x env with
   | some (.int _ (.ofNat m))=>match Nat.ble m n with|true=>some m|false=>none
   | _=>none
theorem J2W {x:Option X} {env:J1i} {d n m:Nat} {K:Nat->Prop} (h:cbd x env d n=some m) (hK:K m):bdK x (J21 env) d n K:=by
 unfold cbd at h;split at h
 . cases h;exact hK
 . split at h
   . rename_i hx;split at h
     . rename_i hb;cases h;refine J0G hx ?_;simp only[C.v];exact⟨_,rfl,Nat.le_of_ble_eq_true hb,hK⟩
     . cases h
   . cases h
theorem Q1G (l:Nat) (z:List V) (rows:List (List V)):J0h l (J4s z rows)=J4s z (rows.drop l):=by
 funext i j;rw[J0D];simp[J4s,List.getD_eq_getElem?_getD]
theorem J2O (l:Nat) (z:List C) (rows:List (List C)):J0h l (J4s (C.vs z) (C.vss rows))=J4s (C.vs z) (C.vss (rows.drop l)):=by
 rw[Q1G,C.vss_map,C.vss_map,List.map_drop]
noncomputable def Y1D (own:J0B) (s:Nat) (x:X) (lo hi:Option X) (env:J1i):Option C :=
 match gx x env with
 | some (.fz n s' J2a z rows)=>match Nat.beq s s' with
   | true=>match cbd hi env n n with
     | some h=>match cbd lo env 0 h with
       | some l=>fN (h-l) fun m=>fH (dr rows l) fun q=>some (.fz m s (match hi with|none=>J2a|some _=>false) z q)
       | none=>none
     | none=>none
   | false=>none
 | some .nilslice=>match cbd hi env 0 0 with
   | some h=>match cbd lo env 0 h with
     | some _=>some .nilslice
     | none=>none
   | none=>none
 | some (.vec k s' lo0 len)=>match Nat.beq s s' with
   | true=>match lk own k with
     | some (.vec n _ _ _)=>match Nat.ble (lo0+len) n with
       | true=>match cbd hi env len (n-lo0) with
         | some h=>match cbd lo env 0 h with
           | some l=>fN (lo0+l) fun a=>fN (h-l) fun b=>some (.vec k s a b)
           | none=>none
         | none=>none
       | false=>none
     | _=>match cbd hi env len len with
        | some h=>match cbd lo env 0 h with
          | some l=>fN (lo0+l) fun a=>fN (h-l) fun b=>some (.vec k s a b)
          | none=>none
        | none=>none
   | false=>none
 | _=>none
theorem Q71 {own:J0B} {s:Nat} {x:X} {lo hi:Option X} {same:Bool} {env:J1i} {c:C} {K:V->Prop} (h:Y1D own s x lo hi env=some c) (hK:K c.v):X28 (J0L own) s x lo hi none same (J21 env) K:=by
 unfold Y1D at h;unfold X28;split at h
 . rename_i n s' J2a z rows hx;refine J0G hx ?_;simp only[C.v];split at h
   . rename_i hs;simp only[hs];split at h
     . rename_i hh e1;split at h
       . rename_i ll e2;refine J2W e1 (J2W e2 ?_);simp only[J4k,X0W,J9s,Option.some.injEq] at h;subst h;rw[J2O];simp only[C.v] at hK;exact hK
       . cases h
     . cases h
   . cases h
 . rename_i hx;refine J0G hx ?_;simp only[C.v];split at h
   . rename_i hh e1;split at h
     . rename_i ll e2;cases h;exact J2W e1 (J2W e2 (by simpa[C.v] using hK))
     . cases h
   . cases h
 . rename_i k s' lo0 len hx;refine J0G hx ?_;simp only[C.v];split at h
   . rename_i hs;simp only[hs];split at h
     . rename_i n s'' z rows hl;rw[J0z hl];simp only[CB.b];split at h
       . rename_i hle;refine⟨fun _=>?_,fun hf=>by rw[hle] at hf;cases hf⟩;split at h
         . rename_i hh e1;split at h
           . rename_i ll e2;refine J2W e1 (J2W e2 ?_);simp only[J4k,Option.some.injEq] at h;subst h;simpa[C.v] using hK
           . cases h
         . cases h
       . cases h
     . rename_i hne;have key:∀{A:Nat->Nat->(Nat->Nat->V)->Prop} {B:Prop},B->(match look (J0L own) k with|some (.vec n s f)=>A n s f|_=>B):=by
        intro A B hB;rw[J0L,J2u,<- J7U];cases hl:lk own k with
        | none=>exact hB
        | some b=>cases b with
          | vec n s z rows=>exact(hne n s z rows hl).elim
          | _=>exact hB
       refine key ?_;split at h
       . rename_i hh e1;split at h
         . rename_i ll e2;refine J2W e1 (J2W e2 ?_);simp only[J4k,Option.some.injEq] at h;subst h;simpa[C.v] using hK
         . cases h
       . cases h
   . cases h
 . cases h
noncomputable def X4V (s:Nat) (x:X) (lo:Option X) (hi mx:X) (same:Bool) (env:J1i):Option C :=
 match gx x env with
 | some (.fz n s' _ z rows)=>match Nat.beq s s' with
   | true=>match cbd (some mx) env n n with
     | some m=>match cbd (some hi) env n m with
       | some h=>match cbd lo env 0 h with
         | some l=>fN (h-l) fun m=>fH (dr rows l) fun q=>some (.fz m s same z q)
         | none=>none
       | none=>none
     | none=>none
   | false=>none
 | _=>none
theorem Q3O {own:Own} {s:Nat} {x:X} {lo:Option X} {hi mx:X} {same:Bool} {env:J1i} {c:C} {K:V->Prop} (h:X4V s x lo hi mx same env=some c) (hK:K c.v):X28 own s x lo (some hi) (some mx) same (J21 env) K:=by
 unfold X4V at h;unfold X28;split at h
 . rename_i n s' J2a z rows hx;refine J0G hx ?_;simp only[C.v];split at h
   . rename_i hs;simp only[hs];split at h
     . rename_i m e0;split at h
       . rename_i hh e1;split at h
         . rename_i ll e2;refine J2W e0 (J2W e1 (J2W e2 ?_));simp only[J4k,X0W,J9s,Option.some.injEq] at h;subst h;rw[J2O];simp only[C.v] at hK;exact hK
         . cases h
       . cases h
     . cases h
   . cases h
 . cases h
def cix (i:Int) (n:Nat):Option Nat:=match i with
 | .ofNat m=>match Nat.blt m n with|true=>some m|false=>none
 | .negSucc _=>none
theorem J7D {i:Int} {n m:Nat} {K:Nat->Prop} (h:cix i n=some m) (hK:K m):Ix i n K:=by
 unfold cix at h;split at h
 . split at h
   . rename_i hb;cases h;exact⟨m,rfl,Nat.le_of_ble_eq_true hb,hK⟩
   . cases h
 . cases h
theorem J8V {α:Type}:∀(l:List α) (o n:Nat) (K:List α->Prop),n<=(l.drop o).length->K ((l.drop o).take n)->J7S l o n K
 | l,o,0,K,_,h=>by cases l<;>cases o<;>simpa[J7S] using h
 | [],o,n+1,K,hl,h=>by simp at hl
 | x::r,0,n+1,K,hl,h=>by
   simp only[J7S];exact J8V r 0 n _ (by simpa using hl) (by simpa using h)
 | x::r,o+1,n+1,K,hl,h=>by
   simp only[J7S];exact J8V r o (n+1) _ (by simpa using hl) (by simpa using h)
noncomputable def Q2q (l:List C) (o n:Nat):Option C:=tk n (dr l o) fun q=>some (.agg q)
theorem Q8L {l:List C} {o n:Nat} {c:C} {K:V->Prop} (h:Q2q l o n=some c) (hK:K c.v):J7S (C.vs l) o n fun l=>K (.agg l):=by
 unfold Q2q at h;rw[Q9w,J9s] at h;split at h
 . rename_i hl;cases h;refine J8V _ _ _ _ (by simpa[C.vs_map] using hl) ?_;simp only[C.v,C.vs_map] at hK;simpa[C.vs_map] using hK
 . cases h
theorem Q6G {l:List C} {i:Nat} {c:C} (h:nt l i=some c):nth (C.vs l) i=some c.v:=by
 rw[X0b,J5m] at h;rw[J5m,C.vs_get,h];rfl
noncomputable def p_mv (x:X) (env:J1i):Option C:=gx x env
noncomputable def X6n (off:Nat) (x:X) (env:J1i):Option C:=match gx x env with
 | some (.loc k o)=>fN (o+off) fun m=>some (.loc k m)
 | some (.oel k s i j)=>fN (j+off) fun m=>some (.oel k s i m)
 | some (.fe n s z rows i j)=>fN (j+off) fun m=>some (.fe n s z rows i m)
 | _=>none
noncomputable def Q28 (x:X) (env:J1i):Option C:=match gx x env with
 | some (.loc k o)=>some (.loc k o)
 | some (.oel k s i j)=>some (.oel k s i j)
 | some (.fe n s z rows i j)=>some (.fe n s z rows i j)
 | some (.iface t v)=>some (.iface t v)
 | _=>none
noncomputable def X6p (bt:BT) (op:BinOp) (x:X) (y:X) (env:J1i):Option C:=match gx x env with
 | some a=>match gx y env with
   | some b=>Y1J bt op a b
   | none=>none
 | none=>none
noncomputable def X1Y (c:X) (a:X) (b:X) (env:J1i):Option C:=match gx c env with
 | some (.bool true)=>gx a env
 | some (.bool false)=>gx b env
 | _=>none
noncomputable def X1W (x:X) (lo:Option X) (hi:Option X) (env:J1i):Option C:=match gx x env with
 | some (.str l c)=>match cbd hi env l l with
   | some h=>match cbd lo env 0 h with
     | some a=>X7K (h-a) (Nat.mod (Nat.div c (Nat.pow 256 a)) (Nat.pow 256 (h-a)))
     | none=>none
   | none=>none
 | _=>none
noncomputable def Q6z (x:X) (i:X) (env:J1i):Option C:=match gx x env with
 | some (.str l c)=>match gx i env with
   | some (.int _ i)=>match cix i l with
     | some m=>fN (Nat.mod (Nat.div c (Nat.pow 256 m)) 256) fun b=>some (.int .u8 (.ofNat b))
     | none=>none
   | _=>none
 | _=>none
noncomputable def X1Z (f:Fn) (b:Bool) (cap:List X) (env:J1i):Option C:=match gxs env cap with
 | some l=>some (.fn f b l)
 | none=>none
noncomputable def p_un (op:UnOp) (x:X) (env:J1i):Option C:=match gx x env with
 | some (.bool b)=>match op with
   | .not=>match b with|true=>some (.bool false)|false=>some (.bool true)
   | _=>none
 | some (.int k n)=>match op with
   | .neg=>arC k (0-n)
   | .xor=>svC k (J3m .xor k (if k.signed then -1 else k.max) n)
   | _=>none
 | _=>none
noncomputable def Q6y (k:IntKind) (x:X) (env:J1i):Option C:=match gx x env with
 | some (.int _ n)=>arC k n
 | _=>none
noncomputable def X6j (off:Nat) (sz:Option Nat) (x:X) (env:J1i):Option C:=match gx x env with
 | some (.agg cs)=>match sz with
   | none=>nt cs off
   | some n=>Q2q cs off n
 | _=>none
noncomputable def X6l (s:Nat) (x:X) (i:X) (env:J1i):Option C:=match gx x env with
 | some (.fz n s' _ z rows)=>match Nat.beq s s' with
   | true=>match gx i env with
     | some (.int _ i)=>match cix i n with
       | some m=>some (.fe n s z rows m 0)
       | none=>none
     | _=>none
   | false=>none
 | some (.vec k s' lo len)=>match Nat.beq s s' with
   | true=>match gx i env with
     | some (.int _ i)=>match cix i len with
       | some m=>fN (lo+m) fun m=>some (.oel k s m 0)
       | none=>none
     | _=>none
   | false=>none
 | _=>none
noncomputable def X6m (n:Nat) (s:Nat) (x:X) (i:X) (env:J1i):Option C:=match gx x env with
 | some (.loc k o)=>match gx i env with
   | some (.int _ i)=>match cix i n with
     | some m=>fN (o+m*s) fun m=>some (.loc k m)
     | none=>none
   | _=>none
 | some (.fe n' s' z rows i0 j0)=>match gx i env with
   | some (.int _ i)=>match cix i n with
     | some m=>fN (j0+m*s) fun m=>some (.fe n' s' z rows i0 m)
     | none=>none
   | _=>none
 | some (.oel k s' i0 j0)=>match Nat.beq s s',i0,j0 with
   | true,0,0=>match gx i env with
     | some (.int _ i)=>match cix i n with
       | some m=>some (.oel k s m 0)
       | none=>none
     | _=>none
   | _,_,_=>match gx i env with
     | some (.int _ i)=>match cix i n with
       | some m=>fN (j0+m*s) fun j=>some (.oel k s' i0 j)
       | none=>none
     | _=>none
 | _=>none
noncomputable def X6o (x:X) (i:Nat) (env:J1i):Option C:=match gx x env with
 | some (.tup vs)=>nt vs i
 | _=>none
noncomputable def X6k (x:X) (env:J1i):Option C:=match gx x env with
 | some (.fz n _ _ _ _)=>some (.int .i64 (.ofNat n))
 | some (.vec _ _ _ n)=>some (.int .i64 (.ofNat n))
 | some .nilslice=>some (.int .i64 0)
 | _=>none
noncomputable def X10 (x:X) (env:J1i):Option C:=match gx x env with
 | some (.str l _)=>some (.int .i64 (.ofNat l))
 | _=>none
noncomputable def p_mn (x:X) (y:X) (env:J1i):Option C:=match gx x env with
 | some (.int k a)=>match gx y env with
   | some (.int _ b)=>match ile a b with
     | true=>some (.int k a)
     | false=>some (.int k b)
   | _=>none
 | _=>none
noncomputable def p_mx (x:X) (y:X) (env:J1i):Option C:=match gx x env with
 | some (.int k a)=>match gx y env with
   | some (.int _ b)=>match ile b a with
     | true=>some (.int k a)
     | false=>some (.int k b)
   | _=>none
 | _=>none
noncomputable def J3i (o:POp) (env:J1i):Option C :=
 match o with
 | .slc _ _ _ _ _ _=>none
 | .mv x=>p_mv x env
 | .fld off x=>X6n off x env
 | .nilchk x=>Q28 x env
 | .bin bt op x y=>X6p bt op x y env
 | .pick c a b=>X1Y c a b env
 | .slcs x lo hi=>X1W x lo hi env
 | .ixstr x i=>Q6z x i env
 | .mkfn f b cap=>X1Z f b cap env
 | .un op x=>p_un op x env
 | .toint k x=>Q6y k x env
 | .sel off sz x=>X6j off sz x env
 | .ixs s x i=>X6l s x i env
 | .ixa n s x i=>X6m n s x i env
 | .ext x i=>X6o x i env
 | .len x=>X6k x env
 | .lens x=>X10 x env
 | .mn x y=>p_mn x y env
 | .mx x y=>p_mx x y env
theorem X1c {o:POp} {env:J1i} {c:C} {K:V->Prop} (h:J3i o env=some c) (hK:K c.v):J2C o (J21 env) K:=by
 cases o with
 | slc=>cases h
 | mv x=>simp only[J3i,p_mv] at h;exact J0G h hK
 | fld off x =>
   simp only[J3i,X6n] at h;simp only[J2C];split at h<;>first
    | (cases h;done)
    | (rename_i hx
       refine J0G hx ?_;simp only[C.v];simp only[J4k,Option.some.injEq] at h;subst h;simpa only[C.v] using hK)
 | nilchk x =>
   simp only[J3i,Q28] at h;simp only[J2C];split at h<;>first
    | (cases h;done)
    | (rename_i hx
       refine J0G hx ?_;cases h;simpa only[C.v] using hK)
 | bin bt op x y =>
   simp only[J3i,X6p] at h;simp only[J2C];split at h
   . rename_i a ha;split at h
     . rename_i b hb;exact J0G ha (J0G hb (X45 h hK))
     . cases h
   . cases h
 | pick c a b =>
   simp only[J3i,X1Y] at h;simp only[J2C];split at h
   . rename_i hc;refine J0G hc ?_;simp only[C.v];exact J0G h hK
   . rename_i hc;refine J0G hc ?_;simp only[C.v];exact J0G h hK
   . cases h
 | slcs x lo hi =>
   simp only[J3i,X1W] at h;simp only[J2C];split at h
   . rename_i l d hx;refine J0G hx ?_;simp only[C.v,J1w];split at h
     . rename_i hh e1;split at h
       . rename_i a e2;have hle:hh<=l:=by
          unfold cbd at e1;split at e1
          . cases e1;exact Nat.le_refl _
          . split at e1
            . split at e1
              . rename_i hb;cases e1;exact Nat.le_of_ble_eq_true hb
              . cases e1
            . cases e1
         refine J2W e1 (J2W e2 ?_);rw[J7G _ _ _ _ hle,<- J4H];rw[Q5Y h] at hK;exact hK
       . cases h
     . cases h
   . cases h
 | ixstr x i =>
   simp only[J3i,Q6z] at h;simp only[J2C];split at h
   . rename_i l d hx;split at h
     . rename_i k n hi;refine J0G hx (J0G hi ?_);simp only[C.v,J1w];split at h
       . rename_i m hm;refine J7D hm ?_;have hlt:m<l:=by
          unfold cix at hm;split at hm
          . split at hm
            . rename_i hb;cases hm;exact Nat.le_of_ble_eq_true hb
            . cases hm
          . cases hm
         simp only[J4k,Option.some.injEq] at h;subst h;rw[Q2g _ _ _ hlt];simp only[C.v] at hK;exact hK
       . cases h
     . cases h
   . cases h
 | mkfn f b cap =>
   simp only[J3i,X1Z] at h;simp only[J2C];split at h
   . rename_i l hl;cases h;exact Q0L hl (by simpa only[C.v] using hK)
   . cases h
 | un op x =>
   simp only[J3i,p_un] at h;simp only[J2C];split at h
   . rename_i b hx;refine J0G hx ?_;simp only[C.v];split at h
     . split at h
       . cases h;simpa only[C.v] using hK
       . cases h;simpa only[C.v] using hK
     . cases h
   . rename_i k n hx;refine J0G hx ?_;simp only[C.v];split at h
     . exact J7I h hK
     . exact J6F h hK
     . cases h
   . cases h
 | toint k x =>
   simp only[J3i,Q6y] at h;simp only[J2C];split at h
   . rename_i hx;refine J0G hx ?_;simp only[C.v];exact J7I h hK
   . cases h
 | sel off sz x =>
   simp only[J3i,X6j] at h;simp only[J2C];split at h
   . rename_i cs hx;refine J0G hx ?_;simp only[C.v];split at h
     . rw[Q6G h];exact hK
     . exact Q8L h hK
   . cases h
 | ixs s x i =>
   simp only[J3i,X6l] at h;simp only[J2C];split at h
   . rename_i n s' J2a z rows hx;split at h
     . rename_i hs;split at h
       . rename_i hi;refine J0G hx (J0G hi ?_);simp only[C.v,hs];split at h
         . rename_i hm;cases h;exact J7D hm (by simpa only[C.v] using hK)
         . cases h
       . cases h
     . cases h
   . rename_i k s' lo len hx;split at h
     . rename_i hs;split at h
       . rename_i hi;refine J0G hx (J0G hi ?_);simp only[C.v,hs];split at h
         . rename_i hm;simp only[J4k,Option.some.injEq] at h;subst h;exact J7D hm (by simpa only[C.v] using hK)
         . cases h
       . cases h
     . cases h
   . cases h
 | ixa n s x i =>
   simp only[J3i,X6m] at h;simp only[J2C];split at h
   . rename_i k o hx;split at h
     . rename_i hi;refine J0G hx (J0G hi ?_);simp only[C.v];split at h
       . rename_i hm;simp only[J4k,Option.some.injEq] at h;subst h;exact J7D hm (by simpa only[C.v] using hK)
       . cases h
     . cases h
   . rename_i hx;split at h
     . rename_i hi;refine J0G hx (J0G hi ?_);simp only[C.v];split at h
       . rename_i hm;simp only[J4k,Option.some.injEq] at h;subst h;exact J7D hm (by simpa only[C.v] using hK)
       . cases h
     . cases h
   . rename_i hx;split at h
     . rename_i hs;split at h
       . rename_i hi;refine J0G hx (J0G hi ?_);simp only[C.v,hs];split at h
         . rename_i hm;cases h;exact J7D hm (by simpa only[C.v] using hK)
         . cases h
       . cases h
     . rename_i hne;split at h
       . rename_i hi;refine J0G hx (J0G hi ?_);simp only[C.v];split at h
         . rename_i hm;simp only[J4k,Option.some.injEq] at h;subst h;exact J7D hm (by simpa only[C.v] using hK)
         . cases h
       . cases h
   . cases h
 | ext x i =>
   simp only[J3i,X6o] at h;simp only[J2C];split at h
   . rename_i hx;refine J0G hx ?_;simp only[C.v];rw[Q6G h];exact hK
   . cases h
 | len x =>
   simp only[J3i,X6k] at h;simp only[J2C];split at h<;>first
    | (cases h;done)
    | (rename_i hx
       refine J0G hx ?_;cases h;simp only[C.v] at hK;simp only[C.v];exact hK)
 | lens x =>
   simp only[J3i,X10] at h;simp only[J2C];split at h
   . rename_i hx;refine J0G hx ?_;cases h;simp only[C.v] at hK;simp only[C.v,J1w];exact hK
   . cases h
 | mn x y =>
   simp only[J3i,p_mn] at h;simp only[J2C];split at h
   . rename_i hx;split at h
     . rename_i hy;refine J0G hx (J0G hy ?_);simp only[C.v];refine⟨_,rfl,?_⟩;split at h
       . rename_i hc;rw[J5Q] at hc;cases h;have hc:=of_decide_eq_true hc;rw[if_neg (by omega)];simpa only[C.v] using hK
       . rename_i hc;rw[J5Q] at hc;cases h;have hc:=of_decide_eq_false hc;rw[if_pos (by omega)];simpa only[C.v] using hK
     . cases h
   . cases h
 | mx x y =>
   simp only[J3i,p_mx] at h;simp only[J2C];split at h
   . rename_i hx;split at h
     . rename_i hy;refine J0G hx (J0G hy ?_);simp only[C.v];refine⟨_,rfl,?_⟩;split at h
       . rename_i hc;rw[J5Q] at hc;cases h;have hc:=of_decide_eq_true hc;rw[if_neg (by omega)];simpa only[C.v] using hK
       . rename_i hc;rw[J5Q] at hc;cases h;have hc:=of_decide_eq_false hc;rw[if_pos (by omega)];simpa only[C.v] using hK
     . cases h
   . cases h
def X1m:C->Bool
 | .agg _ | .tup _ | .unit=>false
 | _=>true
theorem Q32 (c:C):c.v.cellB=X1m c:=by cases c<;>simp[C.v,V.cellB,X1m]
noncomputable def J8H (p:C->Bool) (l:List C):Bool:=@List.rec C (fun _=>Bool) true (fun c _ ih=>@Bool.rec (fun _=>Bool) false ih (p c)) l
theorem Q1k (p:C->Bool) (c:C) (r:List C):J8H p (c::r)=(p c&&J8H p r):=by
 show @Bool.rec (fun _=>Bool) false (J8H p r) (p c)=_;cases p c<;>rfl
theorem J22 {q:V->Bool} {p:C->Bool} (h:∀c,q c.v=p c):∀(l:List C),J24 q (C.vs l)=J8H p l
 | []=>rfl
 | c::r=>by
   rw[Q1k];simp only[C.vs,J24,h,J22 h r];cases p c<;>rfl
def Q8Y:C->Bool
 | .bool _ | .int _ _ | .str _ _ | .nilptr | .nilslice | .nilmap | .nilfunc | .niliface | .fz _ _ _ _ _ | .fe _ _ _ _ _ _ | .unit=>true
 | _=>false
theorem J9i (c:C):c.v.kf1=Q8Y c:=by cases c<;>simp[C.v,V.kf1,Q8Y]
noncomputable def Q5l:C->Bool
 | .agg cs=>J8H Q8Y cs
 | .iface _ v=>Q8Y v
 | .fn _ _ cap=>J8H Q8Y cap
 | v=>Q8Y v
theorem J69 (c:C):c.v.kf2=Q5l c:=by
 cases c<;>simp[C.v,V.kf2,Q5l,J22 J9i,J9i]<;>simp[V.kf1,Q8Y]
noncomputable def ln {α:Type} (l:List α):Nat:=@List.rec α (fun _=>Nat) 0 (fun _ _ ih=>Nat.succ ih) l
theorem X0t {α:Type} (l:List α):ln l=l.length:=by
 induction l with
 | nil=>rfl
 | cons x r ih=>show Nat.succ (ln r)=_;rw[ih];rfl
def Q30:C->Option (List C)
 | .agg cs=>some cs
 | .tup _ | .unit=>none
 | v=>some [v]
theorem J3j {v:C} {vs:List C} {K:List V->Prop} (h:Q30 v=some vs) (hK:K (C.vs vs)):v.v.cellsK K:=by
 cases v<;>first
  | (cases h;done)
  | (cases h;simp only[C.v];simp only[C.vs,C.v] at hK;exact hK)
  | (cases h;simp only[C.v];exact hK)
noncomputable def J7E (sz:Nat) (v:C):Option (List C):=match Q30 v with
 | some vs=>match Nat.beq (ln vs) sz with
   | true=>match J8H X1m vs with|true=>some vs|false=>none
   | false=>none
 | none=>none
theorem J3U {sz:Nat} {v:C} {vs:List C} (h:J7E sz v=some vs):Q30 v=some vs/\vs.length=sz/\Nat.beq (C.vs vs).length sz=true/\J24 V.cellB (C.vs vs)=true:=by
 unfold J7E at h;split at h
 . rename_i vs' h1;split at h
   . rename_i h2;split at h
     . rename_i h3;cases h;rw[X0t] at h2;exact⟨h1,Nat.eq_of_beq_eq_true h2,by rw[C.vs_length];exact h2,by rw[J22 Q32];exact h3⟩
     . cases h
   . cases h
 . cases h
theorem V.force_ok {v:V} {K:V->Prop} (h:K v):v.force K:=by cases v<;>exact h
theorem Q0S (g:Nat->V):∀(n j:Nat) (l:List V) (K:List V->Prop),l.length=n->(∀t,t<n->l[t]?=some (g (j+t)))->K l->J7k g j n K
 | 0,j,l,K,hl,_,h=>by
   have:l=[]:=List.length_eq_zero_iff.1 hl;subst this;exact h
 | n+1,j,[],K,hl,_,h=>by simp at hl
 | n+1,j,x::l,K,hl,hg,h=>by
   have h0:=hg 0 (by omega);simp at h0;subst h0;simp only[J7k];refine V.force_ok (Q0S g n (j+1) l _ (by simpa using hl) (fun t ht=>?_) h);have:=hg (t+1) (by omega);simp only[List.getElem?_cons_succ] at this;rw[this];congr 2;omega
theorem Q2K {z:List C} {rows:List (List C)} {i:Nat} {row:List C} (h:nt rows i=some row) (j:Nat):J4s (C.vs z) (C.vss rows) i j=(C.vs row).getD j (J3G (C.vs z)):=by
 rw[X0b,J5m] at h;simp[J4s,List.getD_eq_getElem?_getD,C.vss_get,h]
noncomputable def X7L (s:Nat) (rows:List (List C)) (sz:Option Nat) (i j:Nat):Option C:=match nt rows i with
 | some row=>match sz with
   | none=>match Nat.ble (Nat.succ j) s with|true=>nt row j|false=>none
   | some m=>match Nat.ble (j+m) s with|true=>Q2q row j m|false=>none
 | none=>none
def Q0c (s:Nat) (f:Nat->Nat->V) (i j:Nat) (K:V->Prop) (sz:Option Nat):Prop :=
 match sz with
 | none=>match Nat.ble (j+1) s with|true=>(f i j).force K|false=>False
 | some m=>match Nat.ble (j+m) s with|true=>J7k (f i) j m fun l=>K (.agg l)|false=>False
theorem Q6e {s:Nat} (z:List C) {rows:List (List C)} {sz:Option Nat} {i j:Nat} {c:C} {K:V->Prop} (h:X7L s rows sz i j=some c) (hK:K c.v):Q0c s (J4s (C.vs z) (C.vss rows)) i j K sz:=by
 unfold Q0c;unfold X7L at h;split at h
 . rename_i row hr;cases sz with
   | none =>
     simp only at h;split at h
     . rename_i hb;simp only[hb];refine V.force_ok ?_;rw[Q2K hr];rw[X0b,J5m] at h;simpa[List.getD_eq_getElem?_getD,C.vs_get,h] using hK
     . cases h
   | some m =>
     simp only at h;split at h
     . rename_i hb;simp only[hb];unfold Q2q at h;rw[Q9w,J9s] at h;split at h
       . rename_i hl;cases h;simp only[C.v] at hK;refine Q0S _ _ _ _ _ ?_ (fun t ht=>?_) hK
         . rw[C.vs_length,List.length_take];omega
         . rw[Q2K hr,C.vs_get,List.getElem?_take,if_pos ht,List.getElem?_drop];simp only[List.length_drop] at hl;have hlt:j+t<row.length:=by omega
           simp[List.getD_eq_getElem?_getD,C.vs_get,hlt]
       . cases h
     . cases h
 . cases h
noncomputable def Q3U (own:J0B) (sz:Option Nat) (k off:Nat):Option C :=
 match lk own k with
 | some (.cells cs)=>match sz with
   | none=>nt cs off
   | some n=>Q2q cs off n
 | _=>none
theorem Q05 {own:J0B} {sz:Option Nat} {k off:Nat} {c:C} {K:V->Prop} (h:Q3U own sz k off=some c) (hK:K c.v):J73 (J0L own) sz k off K:=by
 unfold Q3U at h;unfold J73;split at h
 . rename_i cs hl;rw[J0z hl];simp only[CB.b];cases sz with
   | none=>simp only at h ⊢;rw[Q6G h];exact hK
   | some n=>simp only at h ⊢;exact Q8L h hK
 . cases h
noncomputable def J8A (own:J0B) (sz:Option Nat) (p:C):Option C :=
 match p with
 | .loc k off=>Q3U own sz k off
 | .oel k s i j=>match lk own k with
   | some (.vec n s' _ rows)=>match Nat.beq s s' with
     | true=>match Nat.blt i n with
       | true=>X7L s rows sz i j
       | false=>none
     | false=>none
   | some (.cells _)=>Q3U own sz k (i*s+j)
   | _=>none
 | .fe _ s _ rows i j=>X7L s rows sz i j
 | _=>none
theorem J7C {own:J0B} {sz:Option Nat} {p c:C} {K:V->Prop} (h:J8A own sz p=some c) (hK:K c.v):J3A (J0L own) sz p.v K:=by
 unfold J8A at h;split at h
 . simp only[C.v,J3A];exact Q05 h hK
 . rename_i k s i j;simp only[C.v,J3A];split at h
   . rename_i n s' z rows hl;rw[J0z hl];simp only[CB.b];split at h
     . rename_i hs;simp only[hs];split at h
       . rename_i hi;have:=Q6e z h hK;exact⟨Nat.le_of_ble_eq_true hi,by cases sz<;>exact this⟩
       . cases h
     . cases h
   . rename_i cs hl;rw[J0z hl];simp only[CB.b];exact Q05 h hK
   . cases h
 . rename_i n s z rows i j;have:=Q6e z h hK;simp only[C.v,J3A];cases sz<;>exact this
 . cases h
noncomputable def X92 (c:C):Option C:=match c with
 | .unit=>none
 | c=>some c
theorem X4c {c d:C} {K:V->Prop} (h:X92 c=some d) (hK:K d.v):X0v c.v K:=by
 cases c<;>simp only[X92,Option.some.injEq,reduceCtorEq] at h<;>subst h<;>simp only[C.v] at hK<;>simp only[C.v,X0v]<;>first|exact hK|exact Q04 hK
noncomputable def X4Z (own:J0B) (sz:Option Nat) (p:C):Option C:=match J8A own sz p with
 | some c=>X92 c
 | none=>none
theorem X1g {own:J0B} {sz:Option Nat} {p c:C} {K:V->Prop} (h:X4Z own sz p=some c) (hK:K c.v):X3a (J0L own) sz p.v K:=by
 unfold X4Z at h;split at h
 . rename_i d hd;exact J7C hd (X4c h hK)
 . cases h
noncomputable def stC {α β:Type} (l:List α):Nat->List α->(List α->Option β)->Option β :=
 @List.rec α (fun _=>Nat->List α->(List α->Option β)->Option β)
  (fun _ vs K=>match vs with|[]=>K []|_::_=>none)
  (fun x r ih o vs K=>match vs with
    | []=>K (x::r)
    | v::vs=>@Nat.rec (fun _=>Option β) (ih 0 vs fun l=>K (v::l)) (fun o _=>ih o (v::vs) fun l=>K (x::l)) o) l
theorem J5J {α β:Type}:∀(l:List α) (o:Nat) (vs:List α) (K:List α->Option β) (out:β),stC l o vs K=some out ->
 ∃l',K l'=some out/\l'.length=l.length/\(vs≠[]->o+vs.length<=l.length)/\l'=l.take o++vs++l.drop (o+vs.length)/\∀{γ:Type} (f:α->γ) (Kp:List γ->Prop),Kp (l'.map f)->X5r (l.map f) o (vs.map f) Kp
 | [],o,[],K,out,h=>⟨[],h,rfl,fun h=>(h rfl).elim,by simp,fun f Kp hK=>by cases o<;>exact hK⟩
 | [],o,v::vs,K,out,h=>by cases h
 | x::r,o,[],K,out,h=>⟨x::r,h,rfl,fun h=>(h rfl).elim,by simp,fun f Kp hK=>by cases o<;>exact hK⟩
 | x::r,0,v::vs,K,out,h=>by
   obtain⟨l',a1,a2,a3,a4,a5⟩:=J5J r 0 vs (fun l=>K (v::l)) out h;refine⟨v::l',a1,by simp[a2],fun _=>?_,by rw[a4];simp[Nat.add_comm],fun f Kp hK=>a5 f _ (by simpa using hK)⟩;cases vs with
   | nil=>simp
   | cons y ys=>have:=a3 (by simp);simp at this ⊢;omega
 | x::r,o+1,v::vs,K,out,h=>by
   obtain⟨l',a1,a2,a3,a4,a5⟩:=J5J r o (v::vs) (fun l=>K (x::l)) out h;refine⟨x::l',a1,by simp[a2],fun _=>by have:=a3 (by simp);simp at this ⊢;omega,?_,fun f Kp hK=>a5 f _ (by simpa using hK)⟩;rw[a4];simp[show o+1+(vs.length+1)=o+(vs.length+1)+1 by omega]
noncomputable def upC {β:Type} (t:Nat) (x:CB) (l:J0B):(J0B->Option β)->Option β :=
 @List.rec (Nat×CB) (fun _=>(J0B->Option β)->Option β) (fun K=>K [])
  (fun p r ih K=>@Prod.rec Nat CB (fun _=>Option β) (fun k v=>@Bool.rec (fun _=>Option β) (ih fun r'=>K ((k,v)::r')) (K ((k,x)::r)) (Nat.beq k t)) p) l
theorem J6v {β:Type} {t:Nat} {x:CB}:∀{l:J0B} {K:J0B->Option β} {out:β},upC t x l K=some out ->
 ∃l',K l'=some out/\∀Kp:Own->Prop,Kp (J0L l')->Q1o t x.b (J0L l) Kp
 | [],K,out,h=>⟨[],h,fun Kp hK=>hK⟩
 | (k,v)::r,K,out,h=>by
   have h:@Bool.rec (fun _=>Option β) (upC t x r fun r'=>K ((k,v)::r')) (K ((k,x)::r)) (Nat.beq k t)=some out:=h;cases hb:Nat.beq k t with
   | true =>
     rw[hb] at h;exact⟨_,h,fun Kp hK=>by simp only[J0L,List.map_cons,Q1o,hb];exact hK⟩
   | false =>
     rw[hb] at h;obtain⟨l',a1,a2⟩:=J6v (K:=fun r'=>K ((k,v)::r')) h;exact⟨_,a1,fun Kp hK=>by simp only[J0L,List.map_cons,Q1o,hb];exact a2 _ hK⟩
noncomputable def deC {β:Type} (t:Nat) (l:J0B):(J0B->Option β)->Option β :=
 @List.rec (Nat×CB) (fun _=>(J0B->Option β)->Option β) (fun K=>K [])
  (fun p r ih K=>@Prod.rec Nat CB (fun _=>Option β) (fun k v=>@Bool.rec (fun _=>Option β) (ih fun r'=>K ((k,v)::r')) (K r) (Nat.beq k t)) p) l
theorem Q7Y {β:Type} {t:Nat}:∀{l:J0B} {K:J0B->Option β} {out:β},deC t l K=some out ->
 ∃l',K l'=some out/\∀Kp:Own->Prop,Kp (J0L l')->Q80 t (J0L l) Kp
 | [],K,out,h=>⟨[],h,fun Kp hK=>hK⟩
 | (k,v)::r,K,out,h=>by
   have h:@Bool.rec (fun _=>Option β) (deC t r fun r'=>K ((k,v)::r')) (K r) (Nat.beq k t)=some out:=h;cases hb:Nat.beq k t with
   | true =>
     rw[hb] at h;exact⟨_,h,fun Kp hK=>by simp only[J0L,List.map_cons,Q80,hb];exact hK⟩
   | false =>
     rw[hb] at h;obtain⟨l',a1,a2⟩:=Q7Y (K:=fun r'=>K ((k,v)::r')) h;exact⟨_,a1,fun Kp hK=>by simp only[J0L,List.map_cons,Q80,hb];exact a2 _ hK⟩
theorem Q2M (rows:List (List V)):tab rows=J4s [] rows:=rfl
noncomputable def Q8r (own:J0B) (v:C):Option C :=
 match v with
 | .vec k s lo len=>match lk own k with
   | some (.vec n s' z rows)=>match Nat.beq s s' with
     | true=>match Nat.ble (lo+len) n with
       | true=>fH (dr rows lo) fun q=>some (.fz len s false z q)
       | false=>none
     | false=>none
   | _=>none
 | v=>match Q5l v with
   | true=>some v
   | false=>none
theorem J9x {own:J0B} {v c:C} {K:V->Prop} (h:Q8r own v=some c) (hK:K c.v):Q5o (J0L own) v.v K:=by
 have other:(∀k s lo len,v≠.vec k s lo len)->Q5l v=true->K v.v->Q5o (J0L own) v.v K:=by
  intro hne hk hK;have:=J69 v;rw[hk] at this;cases v<;>first
   | exact(hne _ _ _ _ rfl).elim
   | (simp only[C.v] at this hK ⊢
      simp only[Q5o,this];exact hK)
 unfold Q8r at h;split at h
 . rename_i k s lo len;simp only[C.v,Q5o];split at h
   . rename_i n s' z rows hl;rw[J0z hl];simp only[CB.b];split at h
     . rename_i hs;simp only[hs];split at h
       . rename_i hle;refine⟨Nat.le_of_ble_eq_true hle,?_⟩;rw[X0W] at h;cases h;rw[J2O];simp only[C.v,J9s] at hK;exact hK
       . cases h
     . cases h
   . cases h
 . rename_i hne;split at h
   . rename_i hk;cases h;exact other hne hk hK
   . cases h
noncomputable def Q1b (own:J0B):List C->Option (List C)
 | []=>some []
 | v::r=>match Q8r own v with
   | some c=>match Q1b own r with
     | some l=>some (c::l)
     | none=>none
   | none=>none
theorem Q1a {own:J0B}:∀{l cs:List C} {K:List V->Prop},Q1b own l=some cs->K (C.vs cs)->Q1g (J0L own) (C.vs l) K
 | [],cs,K,h,hK=>by simp only[Q1b,Option.some.injEq] at h;subst h;simpa[C.vs,Q1g] using hK
 | v::r,cs,K,h,hK=>by
   unfold Q1b at h;split at h
   . rename_i c hc;split at h
     . rename_i l hl;cases h;simp only[C.vs,Q1g];exact J9x hc (Q1a hl (by simpa[C.vs] using hK))
     . cases h
   . cases h
theorem Q3V (s:Nat):∀(n:Nat) (l:List C),J4G s n (C.vs l)=C.vss (J4G s n l)
 | 0,l=>by simp[J4G,C.vss]
 | n+1,l=>by
   simp only[J4G,C.vss];rw[<- Q3V s n,C.vs_map,C.vs_map,C.vs_map];simp
noncomputable def X1o (own:J0B) (v:C):Option C :=
 match v with
 | .vec k s 0 len=>match lk own k with
   | some (.cells cs)=>match Nat.beq (len*s) (ln cs) with
     | true=>match J8H X1m cs with
       | true=>match Q1b own cs with
         | some cs'=>some (.fz len s false [] (J4G s len cs'))
         | none=>none
       | false=>none
     | false=>none
   | _=>Q8r own (.vec k s 0 len)
 | v=>Q8r own v
theorem Q34 {own:J0B} {v c:C} {K:V->Prop} (h:X1o own v=some c) (hK:K c.v):Q81 (J0L own) v.v K:=by
 unfold X1o at h;split at h
 . rename_i k s len;split at h
   . rename_i cs hl;split at h
     . rename_i hlen;split at h
       . rename_i hc;split at h
         . rename_i cs' hcs;cases h;have hlen:=Nat.eq_of_beq_eq_true hlen;rw[X0t] at hlen;have hcb:J24 V.cellB (C.vs cs)=true:=by rw[J22 Q32];exact hc
           have hK':Q1g (J0L own) (C.vs cs) fun cs'=>K (.fz len s false (tab (J4G s len cs'))):=by
            refine Q1a hcs ?_;rw[Q3V,Q2M];simpa[C.v,C.vs] using hK
           by_cases h1:s=1
           . subst h1;simp only[C.v,Q81,J0z hl,CB.b,hcb];have e:Nat.beq len (C.vs cs).length=true:=by rw[C.vs_length,<- hlen];simp
             simp only[e];exact hK'
           . have e:Nat.beq (len*s) (C.vs cs).length=true:=by rw[C.vs_length,<- hlen];simp
             simp only[C.v];unfold Q81;split
             . rename_i e1;cases e1;exact(h1 rfl).elim
             . rename_i e1;cases e1;rw[J0z hl];simp only[CB.b,hcb,e];exact hK'
             . rename_i hne2;exact(hne2 _ _ _ rfl).elim
         . cases h
       . cases h
     . cases h
   . rename_i hne;have hb:=J9x h hK;simp only[C.v] at hb ⊢;have nocell:∀cs,look (J0L own) k≠some (.cells cs):=by
      intro cs e;rw[J0L,J2u,<- J7U] at e;cases hl:lk own k with
      | none=>rw[hl] at e;cases e
      | some b=>cases b with
        | cells cs'=>exact hne cs' hl
        | vec n s z rows=>rw[hl] at e;cases e
        | map mk es=>rw[hl] at e;cases e
        | mapS es=>rw[hl] at e;cases e
     have nofam:∀n s l f op,look (J0L own) k≠some (.fam n s l f op):=by
      intro n s l f op e;rw[J0L,J2u,<- J7U] at e;cases hl:lk own k with
      | none=>rw[hl] at e;cases e
      | some b=>cases b<;>(rw[hl] at e;cases e)
     unfold Q81;split
     . rename_i e1;cases e1;split
       . rename_i cs hl;exact(nocell cs hl).elim
       . rename_i n s l f op hl;exact(nofam _ _ _ _ _ hl).elim
       . exact hb
     . rename_i e1;cases e1;split
       . rename_i cs hl;exact(nocell cs hl).elim
       . exact hb
     . exact hb
 . rename_i hne;have hb:=J9x h hK;unfold Q81;split
   . rename_i e1;cases v<;>simp only[C.v,V.vec.injEq,reduceCtorEq] at e1;obtain⟨rfl,rfl,rfl,rfl⟩:=e1;exact(hne _ _ _ rfl).elim
   . rename_i e1;cases v<;>simp only[C.v,V.vec.injEq,reduceCtorEq] at e1;obtain⟨rfl,rfl,rfl,rfl⟩:=e1;exact(hne _ _ _ rfl).elim
   . exact hb
noncomputable def Q8q (own:J0B):List C->Option (List C)
 | []=>some []
 | v::r=>match X1o own v with
   | some c=>match Q8q own r with
     | some l=>some (c::l)
     | none=>none
   | none=>none
theorem Q33 {own:J0B}:∀{l cs:List C} {K:List V->Prop},Q8q own l=some cs->K (C.vs cs)->X5e (J0L own) (C.vs l) K
 | [],cs,K,h,hK=>by simp only[Q8q,Option.some.injEq] at h;subst h;simpa[C.vs,X5e] using hK
 | v::r,cs,K,h,hK=>by
   unfold Q8q at h;split at h
   . rename_i c hc;split at h
     . rename_i l hl;cases h;simp only[C.vs,X5e];exact Q34 hc (Q33 hl (by simpa[C.vs] using hK))
     . cases h
   . cases h
noncomputable def X7k (own:J0B) (v:C):Option C :=
 match v with
 | .agg cs=>match Q8q own cs with
   | some l=>some (.agg l)
   | none=>none
 | .loc _ _=>none
 | v=>X1o own v
theorem Q2d {own:J0B} {v c:C} {K:V->Prop} (h:X7k own v=some c) (hK:K c.v):bor (J0L own) v.v K:=by
 unfold X7k at h;split at h
 . split at h
   . rename_i l hl;cases h;simp only[C.v,bor];exact Q33 hl (by simpa[C.v] using hK)
   . cases h
 . cases h
 . rename_i hne hne2;have hb:=Q34 h hK;cases v<;>first
    | exact(hne _ rfl).elim
    | exact(hne2 _ _ rfl).elim
    | (simp only[C.v] at hb ⊢;simp only[bor];exact hb)
def J5O:List C->List Nat
 | []=>[]
 | v::r=>match v with
   | .vec k _ _ _=>k::J5O r
   | _=>J5O r
theorem J4Z:∀(l:List C),Q4W (C.vs l)=J5O l
 | []=>rfl
 | v::r=>by
   simp only[C.vs,Q4W,J5O,J4Z r];cases v<;>simp[C.v,V.key1]
noncomputable def J6e (own:J0B) (v:C):List Nat :=
 match v with
 | .vec k _ _ _=>match lk own k with
   | some (.cells cs)=>k::J5O cs
   | _=>[k]
 | .agg cs=>J5O cs
 | _=>[]
theorem Q1W (own:J0B) (v:C):J5w (J0L own) v.v=J6e own v:=by
 cases v<;>simp[C.v,J5w,J6e,J4Z];rename_i k s lo len;rw[J0L,J2u,<- J7U];cases hl:lk own k with
 | none=>rfl
 | some b=>cases b<;>simp[CB.b,J4Z]
noncomputable def Q43 (ks:List Nat):J0B->J0B
 | []=>[]
 | (k,b)::r=>match J09 k ks with|true=>Q43 ks r|false=>(k,b)::Q43 ks r
noncomputable def Q7h (ks:List Nat):J0B->J0B
 | []=>[]
 | (k,b)::r=>match J09 k ks with|true=>(k,b)::Q7h ks r|false=>Q7h ks r
theorem J9r (ks:List Nat):∀(o:J0B),J1s ks (J0L o)=J0L (Q43 ks o)
 | []=>rfl
 | (k,b)::r=>by
   have ih:=J9r ks r;simp only[J0L,List.map_cons,J1s,Q43] at ih ⊢;cases J09 k ks<;>simp[ih]
theorem Q3u (ks:List Nat):∀(o:J0B),J1C ks (J0L o)=J0L (Q7h ks o)
 | []=>rfl
 | (k,b)::r=>by
   have ih:=Q3u ks r;simp only[J0L,List.map_cons,J1C,Q7h] at ih ⊢;cases J09 k ks<;>simp[ih]
noncomputable def Y1y {β:Type} (o:J0B):(J0B->β)->β:=@List.rec (Nat×CB) (fun _=>(J0B->β)->β) (fun K=>K []) (fun p _ ih K=>ih fun r=>K (p::r)) o
theorem Q1Z {β:Type}:∀(o:J0B) (K:J0B->β),Y1y o K=K o
 | [],K=>rfl
 | p::r,K=>Q1Z r fun r=>K (p::r)
noncomputable def X7Y {β:Type} (own:J0B) (v:C) (K:C->J0B->Option β):Option β :=
 match X7k (Q7h (J6e own v) own) v with
 | some v'=>Y1y (Q43 (J6e own v) own) fun own'=>K v' own'
 | none=>none
theorem Q8j {β:Type} {own:J0B} {v:C} {K:C->J0B->Option β} {out:β} (h:X7Y own v K=some out) :
 ∃v' o',K v' o'=some out/\∀Kp:V->Own->Prop,Kp v'.v (J0L o')->X2r (J0L own) v.v Kp:=by
 unfold X7Y at h;split at h
 . rename_i v' hv;rw[Q1Z] at h;refine⟨v',_,h,fun Kp hK=>?_⟩;unfold X2r;rw[Q1W,Q3u,J9r];exact Q2d hv hK
 . cases h
theorem Q7F {z:List C} {rows:List (List C)} {i j:Nat} {row vs:List C} (h:rows[i]?=some row) (hj:j+vs.length<=row.length) :
 J1R (J4s (C.vs z) (C.vss rows)) i j (C.vs vs)=J4s (C.vs z) (C.vss (rows.take i++[row.take j++vs++row.drop (j+vs.length)]++rows.drop (i+1))):=by
 have hi:=(List.getElem?_eq_some_iff.1 h).1;funext i' j';have hrow:∀q,(rows.take i++[q]++rows.drop (i+1))[i']?=if i'=i then some q else rows[i']?:=by
  intro q;have:=J0I rows [q] i (by simp only[List.length_singleton];omega) i';simp only[List.length_singleton] at this;rw[this];by_cases h1:i'<i
  . rw[if_pos h1,if_neg (by omega)]
  . rw[if_neg h1];by_cases h2:i'=i
    . subst h2;simp
    . rw[if_neg (by omega),if_neg h2]
 simp only[J1R,J4s,List.getD_eq_getElem?_getD,C.vss_get,hrow,C.vs_length];by_cases e:i'=i
 . subst e;simp only[if_true,h,Option.map_some,Option.getD_some,true_and,C.vs_get];rw[J0I row vs j hj j'];by_cases h1:j'<j
   . rw[if_neg (by omega),if_pos h1]
   . rw[if_neg h1];by_cases h2:j'<j+vs.length
     . rw[if_pos ⟨by omega,h2⟩,if_pos h2];have:j'-j<vs.length:=by omega
       simp[this]
     . rw[if_neg (by omega),if_neg h2]
 . simp only[e,false_and,if_false]
noncomputable def J9u {β:Type} (own:J0B) (sz k off:Nat) (v:C) (K:J0B->Option β):Option β :=
 match lk own k with
 | some (.cells cs)=>match J7E sz v with
   | some vs=>stC cs off vs fun cs'=>upC k (.cells cs') own K
   | none=>none
 | _=>none
theorem J8y {β:Type} {own:J0B} {sz k off:Nat} {v:C} {K:J0B->Option β} {out:β} (h:J9u own sz k off v K=some out) :
 ∃o',K o'=some out/\∀Kp:Own->Prop,Kp (J0L o')->J5c (J0L own) sz k off v.v Kp:=by
 unfold J9u at h;split at h
 . rename_i cs hl;split at h
   . rename_i vs hv;obtain⟨a1,a2,a3,a4⟩:=J3U hv;obtain⟨cs',b1,b2,b3,b4,b5⟩:=J5J _ _ _ _ _ h;obtain⟨o',c1,c2⟩:=J6v b1;refine⟨o',c1,fun Kp hK=>?_⟩;unfold J5c;rw[J0z hl];simp only[CB.b];refine J3j a1 ?_;simp only[a3,a4];rw[C.vs_map,C.vs_map];refine b5 C.v _ ?_;have:=c2 Kp hK;simpa[CB.b,C.vs_map] using this
   . cases h
 . cases h
noncomputable def J8z {β:Type} (own:J0B) (sz:Nat) (p v:C) (K:J0B->Option β):Option β :=
 match p with
 | .loc k off=>J9u own sz k off v K
 | .oel k s i j=>match lk own k with
   | some (.vec n s' z rows)=>match J7E sz v with
     | some vs=>match J8H Q8Y vs with
       | true=>match Nat.beq s s' with
         | true=>match Nat.ble (j+sz) s with
           | true=>match Nat.blt i n with
             | true=>match Nat.ble 1 sz with
               | true=>match nt rows i with
                 | some row=>stC row j vs fun row'=>stC rows i [row'] fun rows'=>upC k (.vec n s z rows') own K
                 | none=>none
               | false=>none
             | false=>none
           | false=>none
         | false=>none
       | false=>none
     | none=>none
   | some (.cells _)=>J9u own sz k (i*s+j) v K
   | _=>none
 | _=>none
theorem J47 {β:Type} {own:J0B} {sz:Nat} {p v:C} {K:J0B->Option β} {out:β} (h:J8z own sz p v K=some out) :
 ∃o',K o'=some out/\∀Kp:Own->Prop,Kp (J0L o')->J28 (J0L own) sz p.v v.v Kp:=by
 unfold J8z at h;split at h
 . simp only[C.v,J28];exact J8y h
 . rename_i k s i j;split at h
   . rename_i n s' z rows hl;split at h
     . rename_i vs hv;obtain⟨a1,a2,a3,a4⟩:=J3U hv;split at h
       . rename_i hkf;split at h
         . rename_i hs;split at h
           . rename_i hj;split at h
             . rename_i hi;split at h
               case h_2=>cases h
               rename_i h0;split at h
               . rename_i row hr;obtain⟨row',b1,b2,b3,b4,b5⟩:=J5J _ _ _ _ _ h;obtain⟨rows',d1,d2,d3,d4,d5⟩:=J5J _ _ _ _ _ b1;obtain⟨o',c1,c2⟩:=J6v d1;refine⟨o',c1,fun Kp hK=>?_⟩;have e:=Nat.eq_of_beq_eq_true hs;subst e;simp only[C.v,J28];rw[J0z hl];simp only[CB.b];refine J3j a1 ?_;have hkf':J24 V.kf1 (C.vs vs)=true:=by rw[J22 J9i];exact hkf
                 simp only[a3,a4,hkf',hs,hj];refine⟨Nat.le_of_ble_eq_true hi,?_⟩;have:=c2 Kp hK;rw[X0b,J5m] at hr;have hfit:j+vs.length<=row.length:=b3 (by
                  intro e;rw[e] at a2;have:=Nat.le_of_ble_eq_true h0;simp at a2;omega)
                 rw[Q7F hr hfit];simp only[CB.b,d4,b4,List.length_singleton] at this;exact this
               . cases h
             . cases h
           . cases h
         . cases h
       . cases h
     . cases h
   . rename_i cs hl;simp only[C.v,J28];rw[J0z hl];simp only[CB.b];exact J8y h
   . cases h
 . cases h
noncomputable def Q7f:C->Bool
 | .vec _ _ _ _=>true
 | .agg cs=>match J5O cs with|[]=>false|_::_=>true
 | _=>false
theorem Q0D (v:C):v.v.keyed=Q7f v:=by
 cases v<;>simp only[C.v,V.keyed,Q7f,J4Z];rename_i cs;cases J5O cs<;>rfl
noncomputable def Q12 {β:Type} (own:J0B) (sz:Nat) (p v:C) (K:J0B->Option β):Option β :=
 match p with
 | .oel k s i j=>match lk own k with
   | some (.vec _ _ _ _)=>match Q7f v with
     | true=>X7Y own v fun v' own'=>J8z own' sz (.oel k s i j) v' K
     | false=>J8z own sz (.oel k s i j) v K
   | _=>J8z own sz (.oel k s i j) v K
 | p=>J8z own sz p v K
theorem Q44 {β:Type} {own:J0B} {sz:Nat} {p v:C} {K:J0B->Option β} {out:β} (h:Q12 own sz p v K=some out) :
 ∃o',K o'=some out/\∀Kp:Own->Prop,Kp (J0L o')->J3H (J0L own) sz p.v v.v Kp:=by
 unfold Q12 at h;split at h
 . rename_i k s i j;split at h
   . rename_i n s' z rows hl;split at h
     . rename_i hk;obtain⟨v',o1,a1,a2⟩:=Q8j h;obtain⟨o',b1,b2⟩:=J47 a1;refine⟨o',b1,fun Kp hK=>?_⟩;simp only[C.v,J3H];rw[J0z hl,Q0D,hk];simp only[CB.b];refine a2 _ ?_;have:=b2 Kp hK;simpa only[C.v] using this
     . rename_i hk;obtain⟨o',b1,b2⟩:=J47 h;refine⟨o',b1,fun Kp hK=>?_⟩;simp only[C.v,J3H];rw[J0z hl,Q0D,hk];simp only[CB.b];have:=b2 Kp hK;simpa only[C.v] using this
   . rename_i hne;obtain⟨o',b1,b2⟩:=J47 h;refine⟨o',b1,fun Kp hK=>?_⟩;have:=b2 Kp hK;simp only[C.v] at this;simp only[C.v,J3H];split
     . rename_i n s' f hl;exfalso;rw[J0L,J2u,<- J7U] at hl;cases hq:lk own k with
       | none=>rw[hq] at hl;cases hl
       | some b=>cases b with
         | vec n s z rows=>exact hne _ _ _ _ hq
         | _=>rw[hq] at hl;cases hl
     . exact this
 . rename_i hne;obtain⟨o',b1,b2⟩:=J47 h;refine⟨o',b1,fun Kp hK=>?_⟩;have:=b2 Kp hK;cases p<;>first
    | exact(hne _ _ _ _ rfl).elim
    | (simp only[C.v] at this ⊢;simp only[J3H];exact this)
noncomputable def X7U (own:J0B) (s:Nat) (y:C):Option (Nat×List C×List (List C)) :=
 match y with
 | .fz m s' _ z rows=>match Nat.beq s s' with|true=>some (m,z,rows)|false=>none
 | .vec k s' lo len=>match lk own k with
   | some (.vec n s'' z rows)=>match Nat.beq s s' with
     | true=>match Nat.beq s s'' with
       | true=>match Nat.ble (lo+len) n with
         | true=>fH (dr rows lo) fun q=>some (len,z,q)
         | false=>none
       | false=>none
     | false=>none
   | _=>none
 | _=>none
theorem Q70 {own:J0B} {s:Nat} {y:C} {m:Nat} {z:List C} {rows:List (List C)} {K:Nat->(Nat->Nat->V)->Prop} (h:X7U own s y=some (m,z,rows)) (hK:K m (J4s (C.vs z) (C.vss rows))):Q9d (J0L own) s y.v K:=by
 unfold X7U at h;split at h
 . split at h
   . rename_i hs;cases h;simp only[C.v,Q9d,hs];exact hK
   . cases h
 . rename_i k s' lo len;simp only[C.v,Q9d];split at h
   . rename_i n s'' z' rows' hl;rw[J0z hl];simp only[CB.b];split at h
     . rename_i h1;split at h
       . rename_i h2;split at h
         . rename_i h3;rw[X0W] at h;cases h;simp only[h1,h2];refine⟨Nat.le_of_ble_eq_true h3,?_⟩;rw[J2O];rw[J9s] at hK;exact hK
         . cases h
       . cases h
     . cases h
   . cases h
 . cases h
def J3Q:List C->Option C
 | []=>some (.bool false)
 | [v]=>some v
 | _::r=>J3Q r
theorem J9f:∀(z:List C),(J3Q z).map C.v=some (J3G (C.vs z))
 | []=>by simp[J3Q,J3G,C.vs,C.v];rfl
 | [v]=>by simp[J3Q,J3G,C.vs]
 | _::b::r=>by simpa[J3Q,J3G,C.vs] using J9f (b::r)
def Q9P (z z':List C):Bool:=match J3Q z with
 | some (.int k a)=>match J3Q z' with
   | some (.int k' b)=>match kEq k k' with|true=>ieq a b|false=>false
   | _=>false
 | some (.bool a)=>match J3Q z' with
   | some (.bool b)=>a == b
   | _=>false
 | some .nilslice=>match J3Q z' with
   | some .nilslice=>true
   | _=>false
 | _=>false
theorem Q2U {z z':List C} (h:Q9P z z'=true):J3G (C.vs z)=J3G (C.vs z'):=by
 have h1:=J9f z;have h2:=J9f z';have key:J3Q z=J3Q z':=by
  unfold Q9P at h;split at h
  . rename_i e1;split at h
    . rename_i e2;split at h
      . rename_i e3;rw[J41,beq_iff_eq] at h;rw[e1,e2,J5P e3,h]
      . cases h
    . cases h
  . rename_i e1;split at h
    . rename_i e2;rw[beq_iff_eq] at h;rw[e1,e2,h]
    . cases h
  . rename_i e1;split at h
    . rename_i e2;rw[e1,e2]
    . cases h
  . cases h
 rw[key,h2] at h1;exact(Option.some.inj h1).symm
theorem Q7J {z z':List C} {rows rows':List (List C)} {lo len:Nat} (h:lo+len<=rows.length) (hz:J3G (C.vs z)=J3G (C.vs z')) :
 J4o (J0h lo (J4s (C.vs z) (C.vss rows))) len (J4s (C.vs z') (C.vss rows'))=J4s (C.vs z') (C.vss ((rows.drop lo).take len++rows')):=by
 funext i j;have hlen:((rows.drop lo).take len).length=len:=by simp;omega
 by_cases hi:i<len
 . rw[J1E hi,J0D];simp only[J4s,List.getD_eq_getElem?_getD,C.vss_get];rw[List.getElem?_append_left (by omega),List.getElem?_take,if_pos hi,List.getElem?_drop];have:lo+i<rows.length:=by omega
   simp[this,hz]
 . rw[J1F hi];simp only[J4s,List.getD_eq_getElem?_getD,C.vss_get];rw[List.getElem?_append_right (by omega),hlen]
theorem Q0Q {z z':List C} {rows rows':List (List C)} {p m:Nat} (h:p+m<=rows.length) (h':m<=rows'.length) (hz:J3G (C.vs z)=J3G (C.vs z')) :
 Q40 (J4s (C.vs z) (C.vss rows)) p m (J4s (C.vs z') (C.vss rows'))=J4s (C.vs z) (C.vss (rows.take p++rows'.take m++rows.drop (p+m))):=by
 funext i j;have hl:(rows'.take m).length=m:=by simp;omega
 have hs:=J0I rows (rows'.take m) p (by omega) i;rw[hl] at hs;simp only[Q40,J4s,List.getD_eq_getElem?_getD,C.vss_get,hs];by_cases h1:i<p
 . rw[if_neg (by omega),if_pos h1]
 . by_cases h2:i<p+m
   . rw[if_pos ⟨by omega,h2⟩,if_neg h1,if_pos h2,List.getElem?_take,if_pos (by omega)];have:i-p<rows'.length:=by omega
     simp[this,hz]
   . rw[if_neg (by omega),if_neg h1,if_neg h2]
noncomputable def apK {α β:Type} (n:Nat):List α->List α->(List α->Option β)->Option β :=
 @Nat.rec (fun _=>List α->List α->(List α->Option β)->Option β) (fun _ l K=>K l) (fun _ ih q l K=>@List.rec α (fun _=>Option β) none (fun x r _=>ih r l fun o=>K (x::o)) q) n
theorem X2Y {α β:Type} (n:Nat) (q l:List α) (K:List α->Option β):apK n q l K=if n<=q.length then K (q.take n++l) else none:=by
 induction n generalizing q K with
 | zero=>simp only[Nat.zero_le,if_true,List.take_zero,List.nil_append];rfl
 | succ n ih=>cases q with
   | nil=>rfl
   | cons x r =>
     show apK n r l (fun o=>K (x::o))=_;rw[ih];simp
structure R where
 v:C
 o:J0B
 k:Nat
def KB:Nat:=1000000
def ksV (k:Nat):List Nat:=List.range' k (KB-k)
theorem X0B {k:Nat} (h:k<KB):ksV k=k::ksV (k+1):=by
 unfold ksV;rw[show KB-k=(KB-(k+1))+1 by omega,List.range'_succ]
noncomputable def frC {β:Type} (k:Nat) (K:Nat->Nat->Option β):Option β:=match Nat.blt k KB with
 | true=>fN (Nat.succ k) fun k'=>K k k'
 | false=>none
theorem J3S {β:Type} {k:Nat} {K:Nat->Nat->Option β} {out:β} (h:frC k K=some out):K k (k+1)=some out/\∀Kp:Nat->List Nat->Prop,Kp k (ksV (k+1))->fresh (ksV k) Kp:=by
 unfold frC at h;split at h
 . rename_i hb;rw[J4k] at h;refine⟨h,fun Kp hK=>?_⟩;rw[X0B (Nat.le_of_ble_eq_true hb)];exact hK
 . cases h
noncomputable def X7s (n bytes:Nat) {β:Type} (K:Option β):Option β:=match Nat.ble (n*bytes) 140737488355328 with
 | true=>match Nat.ble n 9223372036854775807 with|true=>K|false=>none
 | false=>none
theorem Q2l {n bytes:Nat} {β:Type} {K:Option β} {out:β} (h:X7s n bytes K=some out):n*bytes<=140737488355328/\n<=9223372036854775807/\K=some out:=by
 unfold X7s at h;split at h
 . rename_i h1;split at h
   . rename_i h2;exact⟨Nat.le_of_ble_eq_true h1,Nat.le_of_ble_eq_true h2,h⟩
   . cases h
 . cases h
noncomputable def X1q (own:J0B) (ks s bytes k lo len m:Nat) (rows:List (List C)) (z':List C) (rows':List (List C)):Option R :=
 X7s (len+m) bytes (frC ks fun k' ks=>deC k own fun own'=>apK len (dr rows lo) rows' fun q=>fN (len+m) fun n=>some ⟨.vec k' s 0 n,(k',.vec n s z' q)::own',ks⟩)
noncomputable def X7l (own:J0B) (ks s bytes:Nat) (x y:C):Option R :=
 match X7U own s y with
 | some (m,z',rows')=>match x with
   | .nilslice=>X7s m bytes (frC ks fun k' ks=>some ⟨.vec k' s 0 m,(k',.vec m s z' rows')::own,ks⟩)
   | .fz 0 _ true _ _=>X7s m bytes (frC ks fun k' ks=>some ⟨.vec k' s 0 m,(k',.vec m s z' rows')::own,ks⟩)
   | .vec k s' lo len=>match lk own k with
     | some (.vec n s'' z rows)=>match Nat.beq s s' with
       | true=>match Nat.beq s s'' with
         | true=>match Nat.ble (lo+len) n with
           | true=>match Q9P z z' with
            | false=>none
            | true=>match Nat.beq (lo+len) n with
             | true=>X1q own ks s bytes k lo len m rows z' rows'
             | false=>match Nat.ble (lo+len+m) n with
               | true=>match Nat.ble 1 m with
                 | true=>tk m rows' fun q=>stC rows (lo+len) q fun J8Z=>upC k (.vec n s z J8Z) own fun own'=>fN (len+m) fun n'=>some ⟨.vec k s lo n',own',ks⟩
                 | false=>none
               | false=>X1q own ks s bytes k lo len m rows z' rows'
           | false=>none
         | false=>none
       | false=>none
     | _=>none
   | _=>none
 | none=>none
theorem Q35 {own:J0B} {ks s bytes k lo len n m:Nat} {z:List C} {rows:List (List C)} {z':List C} {rows':List (List C)} {r:R} {K:V->Own->List Nat->Prop} (hle:lo+len<=n) (hz:J3G (C.vs z)=J3G (C.vs z'))
 (h:X1q own ks s bytes k lo len m rows z' rows'=some r) (hK:K r.v.v (J0L r.o) (ksV r.k)) :
 Q5G (J0L own) (ksV ks) s bytes k lo len n m (J4s (C.vs z) (C.vss rows)) (J4s (C.vs z') (C.vss rows')) K:=by
 unfold X1q at h;obtain⟨a1,a2,h⟩:=Q2l h;obtain⟨h,b1⟩:=J3S h;obtain⟨o',h,c1⟩:=Q7Y h;rw[X2Y] at h;split at h
 . rename_i hl;rw[J4k] at h;cases h;rw[J9s,List.length_drop] at hl;unfold Q5G;refine⟨hle,a1,a2,b1 _ (c1 _ ?_)⟩;by_cases h0:len=0
   . subst h0;simp only[J4o];simpa[C.v,J0L,CB.b,J9s] using hK
   . rw[Q7J (by omega) hz];simpa[C.v,J0L,CB.b,J9s] using hK
 . cases h
theorem Q2e {own:J0B} {ks s bytes:Nat} {x y:C} {r:R} {K:V->Own->List Nat->Prop} (h:X7l own ks s bytes x y=some r) (hK:K r.v.v (J0L r.o) (ksV r.k)):X1J (J0L own) (ksV ks) s bytes x.v y.v K:=by
 unfold X7l at h;split at h
 . rename_i m z' rows' hsrc;refine Q70 hsrc ?_;split at h
   . obtain⟨a1,a2,h⟩:=Q2l h;obtain⟨h,b1⟩:=J3S h;cases h;simp only[C.v];exact⟨a1,a2,b1 _ (by simpa[C.v,J0L,CB.b] using hK)⟩
   . obtain⟨a1,a2,h⟩:=Q2l h;obtain⟨h,b1⟩:=J3S h;cases h;simp only[C.v];exact⟨a1,a2,b1 _ (by simpa[C.v,J0L,CB.b] using hK)⟩
   . rename_i k s' lo len;simp only[C.v];split at h
     . rename_i n s'' z rows hl;rw[J0z hl];simp only[CB.b];split at h
       . rename_i h1;split at h
         . rename_i h2;simp only[h1,h2];split at h
           . rename_i h3;have h3:=Nat.le_of_ble_eq_true h3;split at h
             . cases h
             rename_i hz;have hz:=Q2U hz;split at h
             . rename_i h4;exact⟨fun _=>Q35 h3 hz h hK,fun e=>by rw[h4] at e;cases e⟩
             . rename_i h4;refine⟨fun e=>(by rw[h4] at e;cases e),fun _=>?_⟩;split at h
               . rename_i h5;refine⟨fun _=>?_,fun e=>(by rw[h5] at e;cases e)⟩;split at h
                 . rename_i h6;have h6:=Nat.le_of_ble_eq_true h6;have e1:=Nat.eq_of_beq_eq_true h1;subst e1;rw[Q9w] at h;split at h
                   . rename_i h7;obtain⟨J8Z,g1,g2,g3,g4,g5⟩:=J5J _ _ _ _ _ h;obtain⟨o',c1,c2⟩:=J6v g1;rw[J4k] at c1;cases c1;have hl:(rows'.take m).length=m:=by simp;omega
                     have g3:=g3 (fun e=>by rw[e] at hl;simp at hl;omega);rw[hl] at g3 g4;rw[Q0Q g3 h7 hz];have:=c2 (fun own'=>K (.vec k s lo (len+m)) own' (ksV ks)) (by simpa[C.v] using hK);simp only[CB.b,g4] at this;exact this
                   . cases h
                 . cases h
               . rename_i h5;exact⟨fun e=>(by rw[h5] at e;cases e),fun _=>Q35 h3 hz h hK⟩
           . cases h
         . cases h
       . cases h
     . cases h
   . cases h
 . cases h
noncomputable def X46 (own:J0B) (ks s bytes:Nat) (x y:C):Option R :=
 match y with
 | .vec k s' lo len=>match lk own k with
   | some (.cells _)=>X7Y own (.vec k s' lo len) fun y' own'=>X7l own' ks s bytes x y'
   | _=>X7l own ks s bytes x (.vec k s' lo len)
 | y=>X7l own ks s bytes x y
theorem X1r {own:J0B} {ks s bytes:Nat} {x y:C} {r:R} {K:V->Own->List Nat->Prop} (h:X46 own ks s bytes x y=some r) (hK:K r.v.v (J0L r.o) (ksV r.k)):J7Q (J0L own) (ksV ks) s bytes x.v y.v K:=by
 unfold X46 at h;split at h
 . rename_i k s' lo len;split at h
   . rename_i cs hl;obtain⟨v',o1,a1,a2⟩:=Q8j h;simp only[C.v,J7Q];rw[J0z hl];simp only[CB.b];have:=a2 (fun y' own'=>X1J own' (ksV ks) s bytes x.v y' K) (Q2e a1 hK);simpa only[C.v] using this
   . rename_i hne;have:=Q2e h hK;simp only[C.v] at this;simp only[C.v,J7Q];split
     . rename_i cs hl;exfalso;rw[J0L,J2u,<- J7U] at hl;cases hq:lk own k with
       | none=>rw[hq] at hl;cases hl
       | some b=>cases b with
         | cells cs=>exact hne _ hq
         | _=>rw[hq] at hl;cases hl
     . exact this
 . rename_i hne;have:=Q2e h hK;cases y<;>first
    | exact(hne _ _ _ _ rfl).elim
    | (simp only[C.v] at this ⊢;simp only[J7Q];exact this)
end Go.Eng
