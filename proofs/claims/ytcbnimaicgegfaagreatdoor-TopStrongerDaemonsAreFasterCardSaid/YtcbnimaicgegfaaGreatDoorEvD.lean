import Derived.Test.YtcbnimaicgegfaaGreatDoorEvA
set_option linter.all false
namespace Go.Eng
open Go.IntWalk
noncomputable def gx (x:X) (env:J1n):Option C:=match x with | .t n=>lk env n | .k v=>ofV v
theorem J0D {x:X} {env:J1n} {c:C} {K:V->Prop} (h:gx x env=some c) (a:K c.v):x.get (J3w env) K:=by
 cases x with
 | t n=>simp only[gx] at h;simp only[X.get,J16 h];exact a
 | k v=>simp only[gx] at h;rw[X4v v h] at a;exact a
noncomputable def gxs (env:J1n) (l:List X):Option (List C):=@List.rec X (fun _=>Option (List C)) (some []) (fun x _ a=>match gx x env with
 | some c=>match a with|some l=>some (c::l)|none=>none
 | none=>none) l
theorem X2P (env:J1n) (x:X) (r:List X):gxs env (x::r)=match gx x env with
 | some c=>match gxs env r with|some l=>some (c::l)|none=>none
 | none=>none:=rfl
theorem Q2l {env:J1n}:∀{xs:List X} {cs:List C} {K:List V->Prop},gxs env xs=some cs->K (C.vs cs)->X.gets (J3w env) xs K
 | [],cs,K,h,a=>by have h:some []=some cs:=h;cases h;simpa[C.vs,X.gets] using a
 | x::r,cs,K,h,a=>by
   rw[X2P] at h;split at h
   . rename_i c d;split at h
     . rename_i l b;cases h;exact J0D d (Q2l b (by simpa[C.vs] using a))
     . cases h
   . cases h
theorem Q2w {b:Bool} {K:V->Prop} (a:K (.bool b)):Q2Y b K:=by
 cases b
 . exact⟨fun h=>(by cases h),fun _=>a⟩
 . exact⟨fun _=>a,fun h=>(by cases h)⟩
noncomputable def Q5t (b:Bool):Option C:=fB b fun b=>some (.bool b)
theorem J2K {b:Bool} {c:C} {K:V->Prop} (h:Q5t b=some c) (a:K c.v):Q2Y b K:=by
 simp only[Q5t,Y6u,Qf] at h;subst h;exact Q2w (by simpa[C.v] using a)
def kEq (a b:IntKind):Bool:=Nat.beq a.ctorIdx b.ctorIdx
theorem J6U {a b:IntKind} (h:kEq a b=true):a=b:=by cases a<;>cases b<;>first|rfl|(exact absurd h (by decide))
def mxN:IntKind->Nat
 | .i8=>127 | .i16=>32767 | .i32=>2147483647 | .i64=>9223372036854775807
 | .u8=>255 | .u16=>65535 | .u32=>4294967295 | .u64=>18446744073709551615
def wrC (k:IntKind) (n:Int):Int:=match n with
 | .ofNat m=>match Nat.ble m (mxN k) with|true=>.ofNat m|false=>k.wrap (.ofNat m)
 | .negSucc m=>k.wrap (.negSucc m)
theorem X8V (k:IntKind) (n:Int):wrC k n=k.wrap n:=by
 unfold wrC;split
 . split
   . rename_i h;have h:=Qq h;symm;rw[Int.ofNat_eq_natCast];cases k<;>simp only[mxN] at h
     . exact i8_in _ (by omega)
     . exact i16_in _ (by omega)
     . exact i32_in _ (by omega)
     . exact i64_in _ (by omega)
     . exact u8_in _ (by omega)
     . exact u16_in _ (by omega)
     . exact u32_in _ (by omega)
     . exact u64_in _ (by omega)
   . rfl
 . rfl
noncomputable def arC (k:IntKind) (n:Int):Option C:=fI (wrC k n) fun m=>some (.int k m)
theorem J8Q {k:IntKind} {n:Int} {c:C} {K:V->Prop} (h:arC k n=some c) (a:K c.v):Ar k n fun m=>K (.int k m):=by
 simp only[arC,X7y,X8V,Qf] at h;subst h;exact⟨_,rfl,by simpa[C.v] using a⟩
noncomputable def svC (k:IntKind) (n:Int):Option C:=fI n fun m=>some (.int k m)
theorem J7J {k:IntKind} {n:Int} {c:C} {K:V->Prop} (h:svC k n=some c) (a:K c.v):Sv n fun m=>K (.int k m):=by
 simp only[svC,X7y,Qf] at h;subst h;exact⟨_,rfl,by simpa[C.v] using a⟩
def ieq:Int->Int->Bool
 | .ofNat a,.ofNat b=>Nat.beq a b
 | .negSucc a,.negSucc b=>Nat.beq a b
 | _,_=>false
theorem J5R (a b:Int):ieq a b=(a == b):=by
 rw[Zc,Yx];cases a<;>cases b<;>simp[ieq]<;>omega
def ile:Int->Int->Bool
 | .ofNat a,.ofNat b=>Nat.ble a b
 | .negSucc a,.negSucc b=>Nat.ble b a
 | .negSucc _,.ofNat _=>true
 | .ofNat _,.negSucc _=>false
theorem J6V (a b:Int):ile a b=decide (a<=b):=by
 rw[Zc,Qa];cases a<;>cases b<;>simp[ile]<;>omega
noncomputable def Y6C (op:BinOp) (k:IntKind) (a b:Int):Option C :=
 match op with
 | .add=>arC k (Int.add a b)
 | .sub=>arC k (Int.sub a b)
 | .mul=>arC k (Int.mul a b)
 | .quo=>match ieq b 0 with|true=>none|false=>arC k (a.tdiv b)
 | .rem=>match ieq b 0 with|true=>none|false=>svC k (a.tmod b)
 | .and=>svC k (J3C .and k a b)
 | .or=>svC k (J3C .or k a b)
 | .xor=>svC k (J3C .xor k a b)
 | .andNot=>svC k (J3C .andNot k a b)
 | .eql=>Q5t (ieq a b)
 | .neq=>Q5t (!(ieq a b))
 | .lss=>Q5t (!(ile b a))
 | .leq=>Q5t (ile a b)
 | .gtr=>Q5t (!(ile a b))
 | .geq=>Q5t (ile b a)
 | _=>none
theorem X7P {f:BT} {op:BinOp} {k:IntKind} {a b:Int} {c:C} {K:V->Prop} (h:Y6C op k a b=some c) (d:K c.v):Q06 f op (.int k a) (.int k b) K:=by
 unfold Y6C at h;cases op<;>simp only[Q06,Jd]<;>simp only at h
 case add=>exact J8Q h d
 case sub=>exact J8Q h d
 case mul=>exact J8Q h d
 case quo =>
  split at h
  . cases h
  . rename_i e;rw[J5R] at e;exact⟨by simpa using e,J8Q h d⟩
 case rem =>
  split at h
  . cases h
  . rename_i e;rw[J5R] at e;exact⟨by simpa using e,J7J h d⟩
 case and=>exact J7J h d
 case or=>exact J7J h d
 case xor=>exact J7J h d
 case andNot=>exact J7J h d
 case eql=>rw[J5R] at h;exact J2K h d
 case neq=>rw[J5R] at h;exact J2K h d
 case lss =>
  rw[J6V] at h;rw[show decide (a<b)=!decide (b<=a) by rw[Zc];simp];exact J2K h d
 case leq=>rw[J6V] at h;exact J2K h d
 case gtr =>
  rw[J6V] at h;rw[show decide (a > b)=!decide (a<=b) by rw[Zc];simp];exact J2K h d
 case geq =>
  rw[J6V] at h;exact J2K h d
 case shl=>cases h
 case shr=>cases h
noncomputable def Y1R (l c:Nat):Option C:=fN l fun l=>fN c fun c=>some (.str l c)
theorem Q7M {l d:Nat} {c:C} (h:Y1R l d=some c):c.v=.str (J0t l d):=by
 simp only[Y1R,J4Y,Qf] at h;subst h;simp[C.v]
noncomputable def X46 (op:BinOp) (k:IntKind) (a:Int) (c:IntKind) (b:Int):Option C:=match op with
 | .shl=>match b with | .ofNat n=>arC k (a*2 ^ (min n k.bits)) | .negSucc _=>none
 | .shr=>match b with | .ofNat n=>svC k (a.fdiv (2 ^ (min n k.bits))) | .negSucc _=>none
 | op=>match kEq k c with|true=>Y6C op k a b|false=>none
noncomputable def Y1D (op:BinOp) (k:IntKind) (a:Int) (y:C):Option C:=match y with
 | .int c b=>X46 op k a c b
 | _=>none
noncomputable def X45 (op:BinOp) (l c a b:Nat):Option C:=match op with
 | .eql=>Q5t (eqS l c a b)
 | .neq=>Q5t (!(eqS l c a b))
 | .add=>match Nat.ble (l+a) 9223372036854775807 with
   | true=>Y1R (l+a) (Nat.add (Nat.mod c (Nat.pow 256 l)) (Nat.mul (Nat.pow 256 l) b))
   | false=>none
 | _=>none
noncomputable def Y1B (op:BinOp) (l c:Nat) (y:C):Option C:=match y with
 | .str a b=>X45 op l c a b
 | _=>none
noncomputable def X47 (c:BT) (op:BinOp) (a:Bool) (y:C):Option C:=match y with
 | .bool b=>match c with
   | .bool=>match op with
     | .eql=>Q5t (a == b)
     | .neq=>Q5t (!(a == b))
     | _=>none
   | _=>none
 | _=>none
def X3T (a:BT) (op:BinOp) (n:Nat) (y:C):Option C:=match n with
 | 0=>none
 | _+1=>match y with
   | .nilslice=>match a with
     | .slc=>match op with
       | .eql=>some (.bool false)
       | .neq=>some (.bool true)
       | _=>none
     | _=>none
   | _=>none
def Y1C (a:BT) (op:BinOp) (y:C):Option C:=match y with
 | .nilslice=>match a with
   | .slc=>match op with
     | .eql=>some (.bool true)
     | .neq=>some (.bool false)
     | _=>none
   | _=>none
 | _=>none
def Y19 (b:Bool) (o:Option Bool):Option Bool:=match o with
 | some t=>some (b&&t)
 | none=>none
theorem J8R {b t:Bool} {o:Option Bool} (h:Y19 b o=some t):∃u,o=some u/\t=(b&&u):=by
 cases o with
 | none=>cases h
 | some u=>exact⟨u,rfl,(Yl h).symm⟩
noncomputable def Q5k:List Lf->List C->List C->Option Bool
 | [],[],[]=>some true
 | .int::e,.int k a::r,.int g b::d=>match kEq k g with
   | true=>Y19 (ieq a b) (Q5k e r d)
   | false=>none
 | .bool::e,.bool a::r,.bool b::d=>Y19 (a == b) (Q5k e r d)
 | .str::e,.str l c::r,.str f h::d=>Y19 (eqS l c f h) (Q5k e r d)
 | _,_,_=>none
theorem J8v:∀(d:List Lf) (xs i:List C) (t:Bool) (K:Bool->Prop),Q5k d xs i=some t->K t->J7s d (C.vs xs) (C.vs i) K
 | [],[],[],t,K,h,e=>by
   simp only[Q5k,Qf] at h;subst h;simpa only[C.vs,J7s] using e
 | .int::d,.int k a::r,.int m b::f,t,K,h,e=>by
   simp only[Q5k] at h;split at h
   . rename_i hk;have:=J6U hk;subst this;obtain⟨u,g,rfl⟩:=J8R h;simp only[C.vs,C.v,J7s,Jd];exact J8v d r f u _ g (by rw[<- J5R];exact e)
   . cases h
 | .bool::d,.bool a::r,.bool b::f,t,K,h,e=>by
   simp only[Q5k] at h;obtain⟨u,g,rfl⟩:=J8R h;simp only[C.vs,C.v,J7s];exact J8v d r f u _ g e
 | .str::d,.str l c::r,.str j n::f,t,K,h,e=>by
   simp only[Q5k] at h;obtain⟨u,g,rfl⟩:=J8R h;simp only[C.vs,C.v,J7s];exact J8v d r f u _ g (by rw[<- Q5j];exact e)
 | [],_::_,_,_,_,h,_=>by simp[Q5k] at h
 | [],[],_::_,_,_,h,_=>by simp[Q5k] at h
 | _::_,[],_,_,_,h,_=>by simp[Q5k] at h
 | _::_,_::_,[],_,_,h,_=>by simp[Q5k] at h
noncomputable def Y1E (c:BT) (op:BinOp) (xs:List C) (y:C):Option C:=match y with
 | .agg a=>match c with
   | .flat b=>match op with
     | .eql=>match Q5k b xs a with|some t=>Q5t t|none=>none
     | .neq=>match Q5k b xs a with|some t=>Q5t (!t)|none=>none
     | _=>none
   | _=>none
 | _=>none
noncomputable def Y6E (b:BT) (op:BinOp) (x y:C):Option C :=
 match x with
 | .agg xs=>Y1E b op xs y
 | .int k a=>Y1D op k a y
 | .str l c=>Y1B op l c y
 | .bool a=>X47 b op a y
 | .fz n _ _ _ _=>X3T b op n y
 | .vec _ _ _ n=>X3T b op n y
 | .nilslice=>Y1C b op y
 | _=>none
theorem X70 {i:BT} {op:BinOp} {x y c:C} {K:V->Prop} (h:Y6E i op x y=some c) (d:K c.v):Q06 i op x.v y.v K:=by
 unfold Y6E at h;split at h
 . unfold Y1E at h;split at h
   . split at h
     . simp only[C.v,Q06];split at h
       . split at h
         . rename_i t f;exact J8v _ _ _ t _ f (J2K h d)
         . cases h
       . split at h
         . rename_i t f;exact J8v _ _ _ t _ f (J2K h d)
         . cases h
       . cases h
     . cases h
   . cases h
 . unfold Y1D at h;split at h
   . rename_i k a _ o b;unfold X46 at h;simp only[C.v];split at h
     . split at h
       . rename_i n;simp only[Q06];refine⟨by simp,?_⟩;have e:(Int.ofNat n).toNat=n:=rfl;rw[e];exact J8Q h d
       . cases h
     . split at h
       . rename_i n;simp only[Q06];refine⟨by simp,?_⟩;have e:(Int.ofNat n).toNat=n:=rfl;rw[e];exact J7J h d
       . cases h
     . split at h
       . rename_i hk;have:=J6U hk;subst this;exact X7P h d
       . cases h
   . cases h
 . unfold Y1B at h;split at h
   . unfold X45 at h;simp only[C.v,Q06];split at h
     . rw[Q5j] at h;exact J2K h d
     . rw[Q5j] at h;exact J2K h d
     . split at h
       . rename_i l c _ m p g;rw[J1F,J1F];refine⟨fun _=>?_,fun j=>?_⟩
         . rw[Q35];rw[Q7M h] at d;exact d
         . have:=Qq g;simp[this] at j
       . cases h
     . cases h
   . cases h
 . unfold X47 at h;split at h
   . split at h
     . split at h
       . simp only[C.v,Q06];exact J2K h d
       . simp only[C.v,Q06];exact J2K h d
       . cases h
     . cases h
   . cases h
 . unfold X3T at h;split at h
   . cases h
   . split at h
     . split at h
       . split at h
         . cases h;simp only[C.v,Q06];exact⟨fun e=>(by cases e),fun _=>(by simpa[C.v] using d)⟩
         . cases h;simp only[C.v,Q06];exact⟨fun e=>(by cases e),fun _=>(by simpa[C.v] using d)⟩
         . cases h
       . cases h
     . cases h
 . unfold X3T at h;split at h
   . cases h
   . split at h
     . split at h
       . split at h
         . cases h;simp only[C.v,Q06];exact⟨fun e=>(by cases e),fun _=>(by simpa[C.v] using d)⟩
         . cases h;simp only[C.v,Q06];exact⟨fun e=>(by cases e),fun _=>(by simpa[C.v] using d)⟩
         . cases h
       . cases h
     . cases h
 . unfold Y1C at h;split at h
   . split at h
     . split at h
       . cases h;simp only[C.v,Q06];simpa[C.v] using d
       . cases h;simp only[C.v,Q06];simpa[C.v] using d
       . cases h
     . cases h
   . cases h
 . cases h
noncomputable def cbd (x:Option X) (env:J1n) (d n:Nat):Option Nat:=match x with
 | none=>some d
 | some x=>match gx x env with
   | some (.int _ (.ofNat m))=>match Nat.ble m n with|true=>some m|false=>none
   | _=>none
theorem J3p {x:Option X} {env:J1n} {d n m:Nat} {K:Nat->Prop} (h:cbd x env d n=some m) (a:K m):bdK x (J3w env) d n K:=by
 unfold cbd at h;split at h
 . cases h;exact a
 . split at h
   . rename_i b;split at h
     . rename_i c;cases h;refine J0D b ?_;simp only[C.v];exact⟨_,rfl,Qq c,a⟩
     . cases h
   . cases h
theorem Q3d (l:Nat) (z:List V) (a:List (List V)):J0m l (J49 z a)=J49 z (a.drop l):=by
 funext i j;rw[J0l];simp[J49,Q6]
theorem J3g (l:Nat) (z:List C) (a:List (List C)):J0m l (J49 (C.vs z) (C.vss a))=J49 (C.vs z) (C.vss (a.drop l)):=by
 rw[Q3d,C.vss_map,C.vss_map,List.map_drop]
noncomputable def Y6z (own:J0B) (s:Nat) (x:X) (f e:Option X) (env:J1n):Option C :=
 match gx x env with
 | some (.fz n g J1J z d)=>match Nat.beq s g with
   | true=>match cbd e env n n with
     | some h=>match cbd f env 0 h with
       | some l=>fN (h-l) fun m=>fH (dr d l) fun q=>some (.fz m s (match e with|none=>J1J|some _=>false) z q)
       | none=>none
     | none=>none
   | false=>none
 | some .nilslice=>match cbd e env 0 0 with
   | some h=>match cbd f env 0 h with
     | some _=>some .nilslice
     | none=>none
   | none=>none
 | some (.vec k g c len)=>match Nat.beq s g with
   | true=>match lk own k with
     | some (.vec n _ _ _)=>match Nat.ble (c+len) n with
       | true=>match cbd e env len (n-c) with
         | some h=>match cbd f env 0 h with
           | some l=>fN (c+l) fun a=>fN (h-l) fun b=>some (.vec k s a b)
           | none=>none
         | none=>none
       | false=>none
     | _=>match cbd e env len len with
        | some h=>match cbd f env 0 h with
          | some l=>fN (c+l) fun a=>fN (h-l) fun b=>some (.vec k s a b)
          | none=>none
        | none=>none
   | false=>none
 | _=>none
theorem X0o {own:J0B} {s:Nat} {x:X} {r t:Option X} {e:Bool} {env:J1n} {c:C} {K:V->Prop} (h:Y6z own s x r t env=some c) (i:K c.v):X5f (J0K own) s x r t none e (J3w env) K:=by
 unfold Y6z at h;unfold X5f;split at h
 . rename_i n D J1J z a g;refine J0D g ?_;simp only[C.v];split at h
   . rename_i l;simp only[l];split at h
     . rename_i q d;split at h
       . rename_i j e2;refine J3p d (J3p e2 ?_);simp only[J4Y,X22,Q0O,Qf] at h;subst h;rw[J3g];simp only[C.v] at i;exact i
       . cases h
     . cases h
   . cases h
 . rename_i g;refine J0D g ?_;simp only[C.v];split at h
   . rename_i q d;split at h
     . rename_i j e2;cases h;exact J3p d (J3p e2 (by simpa[C.v] using i))
     . cases h
   . cases h
 . rename_i k D E len g;refine J0D g ?_;simp only[C.v];split at h
   . rename_i l;simp only[l];split at h
     . rename_i n y z a p;rw[J0y p];simp only[CB.b];split at h
       . rename_i o;refine⟨fun _=>?_,fun u=>by rw[o] at u;cases u⟩;split at h
         . rename_i q d;split at h
           . rename_i j e2;refine J3p d (J3p e2 ?_);simp only[J4Y,Qf] at h;subst h;simpa[C.v] using i
           . cases h
         . cases h
       . cases h
     . rename_i m;have key:∀{A:Nat->Nat->(Nat->Nat->V)->Prop} {B:Prop},B->(match look (J0K own) k with|some (.vec n s f)=>A n s f|_=>B):=by
        intro A B w;rw[J0K,J2V,<- J82];cases p:lk own k with
        | none=>exact w
        | some b=>cases b with
          | vec n s z a=>exact(m n s z a p).elim
          | _=>exact w
       refine key ?_;split at h
       . rename_i q d;split at h
         . rename_i j e2;refine J3p d (J3p e2 ?_);simp only[J4Y,Qf] at h;subst h;simpa[C.v] using i
         . cases h
       . cases h
   . cases h
 . cases h
noncomputable def X7I (s:Nat) (x:X) (d:Option X) (e mx:X) (a:Bool) (env:J1n):Option C :=
 match gx x env with
 | some (.fz n c _ z b)=>match Nat.beq s c with
   | true=>match cbd (some mx) env n n with
     | some m=>match cbd (some e) env n m with
       | some h=>match cbd d env 0 h with
         | some l=>fN (h-l) fun m=>fH (dr b l) fun q=>some (.fz m s a z q)
         | none=>none
       | none=>none
     | none=>none
   | false=>none
 | _=>none
theorem Q5r {own:Own} {s:Nat} {x:X} {d:Option X} {e mx:X} {a:Bool} {env:J1n} {c:C} {K:V->Prop} (h:X7I s x d e mx a env=some c) (f:K c.v):X5f own s x d (some e) (some mx) a (J3w env) K:=by
 unfold X7I at h;unfold X5f;split at h
 . rename_i n l J1J z b g;refine J0D g ?_;simp only[C.v];split at h
   . rename_i i;simp only[i];split at h
     . rename_i m k;split at h
       . rename_i p j;split at h
         . rename_i o e2;refine J3p k (J3p j (J3p e2 ?_));simp only[J4Y,X22,Q0O,Qf] at h;subst h;rw[J3g];simp only[C.v] at f;exact f
         . cases h
       . cases h
     . cases h
   . cases h
 . cases h
def cix (i:Int) (n:Nat):Option Nat:=match i with
 | .ofNat m=>match Nat.blt m n with|true=>some m|false=>none
 | .negSucc _=>none
theorem J8I {i:Int} {n m:Nat} {K:Nat->Prop} (h:cix i n=some m) (b:K m):Ix i n K:=by
 unfold cix at h;split at h
 . split at h
   . rename_i a;cases h;exact⟨m,rfl,Qq a,b⟩
   . cases h
 . cases h
theorem Q0c {α:Type}:∀(l:List α) (o n:Nat) (K:List α->Prop),n<=(l.drop o).length->K ((l.drop o).take n)->J8X l o n K
 | l,o,0,K,_,h=>by cases l<;>cases o<;>simpa[J8X] using h
 | [],o,n+1,K,a,h=>by simp at a
 | x::r,0,n+1,K,a,h=>by
   simp only[J8X];exact Q0c r 0 n _ (by simpa using a) (by simpa using h)
 | x::r,o+1,n+1,K,a,h=>by
   simp only[J8X];exact Q0c r o (n+1) _ (by simpa using a) (by simpa using h)
noncomputable def X8P (l:List C) (o n:Nat):Option C:=tk n (dr l o) fun q=>some (.agg q)
theorem X06 {l:List C} {o n:Nat} {c:C} {K:V->Prop} (h:X8P l o n=some c) (a:K c.v):J8X (C.vs l) o n fun l=>K (.agg l):=by
 unfold X8P at h;rw[X1I,Q0O] at h;split at h
 . rename_i b;cases h;refine Q0c _ _ _ _ (by simpa[C.vs_map] using b) ?_;simp only[C.v,C.vs_map] at a;simpa[C.vs_map] using a
 . cases h
theorem Q80 {l:List C} {i:Nat} {c:C} (h:nt l i=some c):nth (C.vs l) i=some c.v:=by
 rw[X2m,J6k] at h;rw[J6k,C.vs_get,h];rfl
noncomputable def p_mv (x:X) (env:J1n):Option C:=gx x env
noncomputable def X9x (off:Nat) (x:X) (env:J1n):Option C:=match gx x env with
 | some (.loc k o)=>fN (o+off) fun m=>some (.loc k m)
 | some (.oel k s i j)=>fN (j+off) fun m=>some (.oel k s i m)
 | some (.fe n s z a i j)=>fN (j+off) fun m=>some (.fe n s z a i m)
 | _=>none
noncomputable def Q4E (x:X) (env:J1n):Option C:=match gx x env with
 | some (.loc k o)=>some (.loc k o)
 | some (.oel k s i j)=>some (.oel k s i j)
 | some (.fe n s z a i j)=>some (.fe n s z a i j)
 | some (.iface t v)=>some (.iface t v)
 | _=>none
noncomputable def X9z (c:BT) (op:BinOp) (x:X) (y:X) (env:J1n):Option C:=match gx x env with
 | some a=>match gx y env with
   | some b=>Y6E c op a b
   | none=>none
 | none=>none
noncomputable def X4s (c:X) (a:X) (b:X) (env:J1n):Option C:=match gx c env with
 | some (.bool true)=>gx a env
 | some (.bool false)=>gx b env
 | _=>none
noncomputable def X4r (x:X) (b:Option X) (d:Option X) (env:J1n):Option C:=match gx x env with
 | some (.str l c)=>match cbd d env l l with
   | some h=>match cbd b env 0 h with
     | some a=>Y1R (h-a) (Nat.mod (Nat.div c (Nat.pow 256 a)) (Nat.pow 256 (h-a)))
     | none=>none
   | none=>none
 | _=>none
noncomputable def Q8O (x:X) (i:X) (env:J1n):Option C:=match gx x env with
 | some (.str l c)=>match gx i env with
   | some (.int _ i)=>match cix i l with
     | some m=>fN (Nat.mod (Nat.div c (Nat.pow 256 m)) 256) fun b=>some (.int .u8 (.ofNat b))
     | none=>none
   | _=>none
 | _=>none
noncomputable def X4t (f:Fn) (b:Bool) (cap:List X) (env:J1n):Option C:=match gxs env cap with
 | some l=>some (.fn f b l)
 | none=>none
noncomputable def p_un (op:UnOp) (x:X) (env:J1n):Option C:=match gx x env with
 | some (.bool b)=>match op with
   | .not=>match b with|true=>some (.bool false)|false=>some (.bool true)
   | _=>none
 | some (.int k n)=>match op with
   | .neg=>arC k (0-n)
   | .xor=>svC k (J3C .xor k (if k.signed then -1 else k.max) n)
   | _=>none
 | _=>none
noncomputable def Q8N (k:IntKind) (x:X) (env:J1n):Option C:=match gx x env with
 | some (.int _ n)=>arC k n
 | _=>none
noncomputable def X9t (off:Nat) (sz:Option Nat) (x:X) (env:J1n):Option C:=match gx x env with
 | some (.agg cs)=>match sz with
   | none=>nt cs off
   | some n=>X8P cs off n
 | _=>none
noncomputable def X9v (s:Nat) (x:X) (i:X) (env:J1n):Option C:=match gx x env with
 | some (.fz n b _ z a)=>match Nat.beq s b with
   | true=>match gx i env with
     | some (.int _ i)=>match cix i n with
       | some m=>some (.fe n s z a m 0)
       | none=>none
     | _=>none
   | false=>none
 | some (.vec k b c len)=>match Nat.beq s b with
   | true=>match gx i env with
     | some (.int _ i)=>match cix i len with
       | some m=>fN (c+m) fun m=>some (.oel k s m 0)
       | none=>none
     | _=>none
   | false=>none
 | _=>none
noncomputable def X9w (n:Nat) (s:Nat) (x:X) (i:X) (env:J1n):Option C:=match gx x env with
 | some (.loc k o)=>match gx i env with
   | some (.int _ i)=>match cix i n with
     | some m=>fN (o+m*s) fun m=>some (.loc k m)
     | none=>none
   | _=>none
 | some (.fe e b z a d c)=>match gx i env with
   | some (.int _ i)=>match cix i n with
     | some m=>fN (c+m*s) fun m=>some (.fe e b z a d m)
     | none=>none
   | _=>none
 | some (.oel k b d c)=>match Nat.beq s b,d,c with
   | true,0,0=>match gx i env with
     | some (.int _ i)=>match cix i n with
       | some m=>some (.oel k s m 0)
       | none=>none
     | _=>none
   | _,_,_=>match gx i env with
     | some (.int _ i)=>match cix i n with
       | some m=>fN (c+m*s) fun j=>some (.oel k b d j)
       | none=>none
     | _=>none
 | _=>none
noncomputable def X9y (x:X) (i:Nat) (env:J1n):Option C:=match gx x env with
 | some (.tup a)=>nt a i
 | _=>none
noncomputable def X9u (x:X) (env:J1n):Option C:=match gx x env with
 | some (.fz n _ _ _ _)=>some (.int .i64 (.ofNat n))
 | some (.vec _ _ _ n)=>some (.int .i64 (.ofNat n))
 | some .nilslice=>some (.int .i64 0)
 | _=>none
noncomputable def X4u (x:X) (env:J1n):Option C:=match gx x env with
 | some (.str l _)=>some (.int .i64 (.ofNat l))
 | _=>none
noncomputable def p_mn (x:X) (y:X) (env:J1n):Option C:=match gx x env with
 | some (.int k a)=>match gx y env with
   | some (.int _ b)=>match ile a b with
     | true=>some (.int k a)
     | false=>some (.int k b)
   | _=>none
 | _=>none
noncomputable def p_mx (x:X) (y:X) (env:J1n):Option C:=match gx x env with
 | some (.int k a)=>match gx y env with
   | some (.int _ b)=>match ile b a with
     | true=>some (.int k a)
     | false=>some (.int k b)
   | _=>none
 | _=>none
noncomputable def J3R (o:POp) (env:J1n):Option C :=
 match o with
 | .slc _ _ _ _ _ _=>none
 | .mv x=>p_mv x env
 | .fld off x=>X9x off x env
 | .nilchk x=>Q4E x env
 | .bin g op x y=>X9z g op x y env
 | .pick c a b=>X4s c a b env
 | .slcs x d e=>X4r x d e env
 | .ixstr x i=>Q8O x i env
 | .mkfn f b cap=>X4t f b cap env
 | .un op x=>p_un op x env
 | .toint k x=>Q8N k x env
 | .sel off sz x=>X9t off sz x env
 | .ixs s x i=>X9v s x i env
 | .ixa n s x i=>X9w n s x i env
 | .ext x i=>X9y x i env
 | .len x=>X9u x env
 | .lens x=>X4u x env
 | .mn x y=>p_mn x y env
 | .mx x y=>p_mx x y env
theorem X3h {o:POp} {env:J1n} {c:C} {K:V->Prop} (h:J3R o env=some c) (g:K c.v):J24 o (J3w env) K:=by
 cases o with
 | slc=>cases h
 | mv x=>simp only[J3R,p_mv] at h;exact J0D h g
 | fld off x =>
   simp only[J3R,X9x] at h;simp only[J24];split at h<;>first
    | (cases h;done)
    | (rename_i e
       refine J0D e ?_;simp only[C.v];simp only[J4Y,Qf] at h;subst h;simpa only[C.v] using g)
 | nilchk x =>
   simp only[J3R,Q4E] at h;simp only[J24];split at h<;>first
    | (cases h;done)
    | (rename_i e
       refine J0D e ?_;cases h;simpa only[C.v] using g)
 | bin L op x y =>
   simp only[J3R,X9z] at h;simp only[J24];split at h
   . rename_i a J;split at h
     . rename_i b u;exact J0D J (J0D u (X70 h g))
     . cases h
   . cases h
 | pick c a b =>
   simp only[J3R,X4s] at h;simp only[J24];split at h
   . rename_i p;refine J0D p ?_;simp only[C.v];exact J0D h g
   . rename_i p;refine J0D p ?_;simp only[C.v];exact J0D h g
   . cases h
 | slcs x F q =>
   simp only[J3R,X4r] at h;simp only[J24];split at h
   . rename_i l d e;refine J0D e ?_;simp only[C.v,J1F];split at h
     . rename_i I r;split at h
       . rename_i a e2;have B:I<=l:=by
          unfold cbd at r;split at r
          . cases r;exact Qd _
          . split at r
            . split at r
              . rename_i u;cases r;exact Qq u
              . cases r
            . cases r
         refine J3p r (J3p e2 ?_);rw[J8N _ _ _ _ B,<- J5o];rw[Q7M h] at g;exact g
       . cases h
     . cases h
   . cases h
 | ixstr x i =>
   simp only[J3R,Q8O] at h;simp only[J24];split at h
   . rename_i l d e;split at h
     . rename_i k n q;refine J0D e (J0D q ?_);simp only[C.v,J1F];split at h
       . rename_i m j;refine J8I j ?_;have A:m<l:=by
          unfold cix at j;split at j
          . split at j
            . rename_i u;cases j;exact Qq u
            . cases j
          . cases j
         simp only[J4Y,Qf] at h;subst h;rw[Q33 _ _ _ A];simp only[C.v] at g;exact g
       . cases h
     . cases h
   . cases h
 | mkfn f b cap =>
   simp only[J3R,X4t] at h;simp only[J24];split at h
   . rename_i l H;cases h;exact Q2l H (by simpa only[C.v] using g)
   . cases h
 | un op x =>
   simp only[J3R,p_un] at h;simp only[J24];split at h
   . rename_i b e;refine J0D e ?_;simp only[C.v];split at h
     . split at h
       . cases h;simpa only[C.v] using g
       . cases h;simpa only[C.v] using g
     . cases h
   . rename_i k n e;refine J0D e ?_;simp only[C.v];split at h
     . exact J8Q h g
     . exact J7J h g
     . cases h
   . cases h
 | toint k x =>
   simp only[J3R,Q8N] at h;simp only[J24];split at h
   . rename_i e;refine J0D e ?_;simp only[C.v];exact J8Q h g
   . cases h
 | sel off sz x =>
   simp only[J3R,X9t] at h;simp only[J24];split at h
   . rename_i cs e;refine J0D e ?_;simp only[C.v];split at h
     . rw[Q80 h];exact g
     . exact X06 h g
   . cases h
 | ixs s x i =>
   simp only[J3R,X9v] at h;simp only[J24];split at h
   . rename_i n E J1J z D e;split at h
     . rename_i t;split at h
       . rename_i q;refine J0D e (J0D q ?_);simp only[C.v,t];split at h
         . rename_i j;cases h;exact J8I j (by simpa only[C.v] using g)
         . cases h
       . cases h
     . cases h
   . rename_i k E F len e;split at h
     . rename_i t;split at h
       . rename_i q;refine J0D e (J0D q ?_);simp only[C.v,t];split at h
         . rename_i j;simp only[J4Y,Qf] at h;subst h;exact J8I j (by simpa only[C.v] using g)
         . cases h
       . cases h
     . cases h
   . cases h
 | ixa n s x i =>
   simp only[J3R,X9w] at h;simp only[J24];split at h
   . rename_i k o e;split at h
     . rename_i q;refine J0D e (J0D q ?_);simp only[C.v];split at h
       . rename_i j;simp only[J4Y,Qf] at h;subst h;exact J8I j (by simpa only[C.v] using g)
       . cases h
     . cases h
   . rename_i e;split at h
     . rename_i q;refine J0D e (J0D q ?_);simp only[C.v];split at h
       . rename_i j;simp only[J4Y,Qf] at h;subst h;exact J8I j (by simpa only[C.v] using g)
       . cases h
     . cases h
   . rename_i e;split at h
     . rename_i t;split at h
       . rename_i q;refine J0D e (J0D q ?_);simp only[C.v,t];split at h
         . rename_i j;cases h;exact J8I j (by simpa only[C.v] using g)
         . cases h
       . cases h
     . rename_i G;split at h
       . rename_i q;refine J0D e (J0D q ?_);simp only[C.v];split at h
         . rename_i j;simp only[J4Y,Qf] at h;subst h;exact J8I j (by simpa only[C.v] using g)
         . cases h
       . cases h
   . cases h
 | ext x i =>
   simp only[J3R,X9y] at h;simp only[J24];split at h
   . rename_i e;refine J0D e ?_;simp only[C.v];rw[Q80 h];exact g
   . cases h
 | len x =>
   simp only[J3R,X9u] at h;simp only[J24];split at h<;>first
    | (cases h;done)
    | (rename_i e
       refine J0D e ?_;cases h;simp only[C.v] at g;simp only[C.v];exact g)
 | lens x =>
   simp only[J3R,X4u] at h;simp only[J24];split at h
   . rename_i e;refine J0D e ?_;cases h;simp only[C.v] at g;simp only[C.v,J1F];exact g
   . cases h
 | mn x y =>
   simp only[J3R,p_mn] at h;simp only[J24];split at h
   . rename_i e;split at h
     . rename_i w;refine J0D e (J0D w ?_);simp only[C.v];refine⟨_,rfl,?_⟩;split at h
       . rename_i p;rw[J6V] at p;cases h;have p:=Xe p;rw[Qb (by omega)];simpa only[C.v] using g
       . rename_i p;rw[J6V] at p;cases h;have p:=Jj p;rw[Qe (by omega)];simpa only[C.v] using g
     . cases h
   . cases h
 | mx x y =>
   simp only[J3R,p_mx] at h;simp only[J24];split at h
   . rename_i e;split at h
     . rename_i w;refine J0D e (J0D w ?_);simp only[C.v];refine⟨_,rfl,?_⟩;split at h
       . rename_i p;rw[J6V] at p;cases h;have p:=Xe p;rw[Qb (by omega)];simpa only[C.v] using g
       . rename_i p;rw[J6V] at p;cases h;have p:=Jj p;rw[Qe (by omega)];simpa only[C.v] using g
     . cases h
   . cases h
def X3C:C->Bool
 | .agg _ | .tup _ | .unit=>false
 | _=>true
theorem Q5A (c:C):c.v.cellB=X3C c:=by cases c<;>simp[C.v,V.cellB,X3C]
noncomputable def J91 (p:C->Bool) (l:List C):Bool:=@List.rec C (fun _=>Bool) true (fun c _ a=>@Bool.rec (fun _=>Bool) false a (p c)) l
theorem Q2P (p:C->Bool) (c:C) (r:List C):J91 p (c::r)=(p c&&J91 p r):=by
 show @Bool.rec (fun _=>Bool) false (J91 p r) (p c)=_;cases p c<;>rfl
theorem J3z {q:V->Bool} {p:C->Bool} (h:∀c,q c.v=p c):∀(l:List C),J3a q (C.vs l)=J91 p l
 | []=>rfl
 | c::r=>by
   rw[Q2P];simp only[C.vs,J3a,h,J3z h r];cases p c<;>rfl
def X1o:C->Bool
 | .bool _ | .int _ _ | .str _ _ | .nilptr | .nilslice | .nilmap | .nilfunc | .niliface | .fz _ _ _ _ _ | .fe _ _ _ _ _ _ | .unit=>true
 | _=>false
theorem Q0D (c:C):c.v.kf1=X1o c:=by cases c<;>simp[C.v,V.kf1,X1o]
noncomputable def Q69:C->Bool
 | .agg cs=>J91 X1o cs
 | .iface _ v=>X1o v
 | .fn _ _ cap=>J91 X1o cap
 | v=>X1o v
theorem J8h (c:C):c.v.kf2=Q69 c:=by
 cases c<;>simp[C.v,V.kf2,Q69,J3z Q0D,Q0D]<;>simp[V.kf1,X1o]
noncomputable def ln {α:Type} (l:List α):Nat:=@List.rec α (fun _=>Nat) 0 (fun _ _ a=>Nat.succ a) l
theorem X2B {α:Type} (l:List α):ln l=l.length:=by
 induction l with
 | nil=>rfl
 | cons x r a=>show Nat.succ (ln r)=_;rw[a];rfl
def Q5y:C->Option (List C)
 | .agg cs=>some cs
 | .tup _ | .unit=>none
 | v=>some [v]
theorem J3T {v:C} {b:List C} {K:List V->Prop} (h:Q5y v=some b) (a:K (C.vs b)):v.v.cellsK K:=by
 cases v<;>first
  | (cases h;done)
  | (cases h;simp only[C.v];simp only[C.vs,C.v] at a;exact a)
  | (cases h;simp only[C.v];exact a)
noncomputable def J8J (sz:Nat) (v:C):Option (List C):=match Q5y v with
 | some a=>match Nat.beq (ln a) sz with
   | true=>match J91 X3C a with|true=>some a|false=>none
   | false=>none
 | none=>none
theorem J4H {sz:Nat} {v:C} {a:List C} (h:J8J sz v=some a):Q5y v=some a/\a.length=sz/\Nat.beq (C.vs a).length sz=true/\J3a V.cellB (C.vs a)=true:=by
 unfold J8J at h;split at h
 . rename_i c e;split at h
   . rename_i b;split at h
     . rename_i d;cases h;rw[X2B] at b;exact⟨e,Qc b,by rw[C.vs_length];exact b,by rw[J3z Q5A];exact d⟩
     . cases h
   . cases h
 . cases h
theorem V.force_ok {v:V} {K:V->Prop} (h:K v):v.force K:=by cases v<;>exact h
theorem Q2q (g:Nat->V):∀(n j:Nat) (l:List V) (K:List V->Prop),l.length=n->(∀t,t<n->l[t]?=some (g (j+t)))->K l->J8q g j n K
 | 0,j,l,K,a,_,h=>by
   have:l=[]:=Yi.1 a;subst this;exact h
 | n+1,j,[],K,a,_,h=>by simp at a
 | n+1,j,x::l,K,a,hg,h=>by
   have b:=hg 0 (by omega);simp at b;subst b;simp only[J8q];refine V.force_ok (Q2q g n (j+1) l _ (by simpa using a) (fun t c=>?_) h);have:=hg (t+1) (by omega);simp only[Y0] at this;rw[this];congr 2;omega
theorem Q4r {z:List C} {a:List (List C)} {i:Nat} {row:List C} (h:nt a i=some row) (j:Nat):J49 (C.vs z) (C.vss a) i j=(C.vs row).getD j (J4j (C.vs z)):=by
 rw[X2m,J6k] at h;simp[J49,Q6,C.vss_get,h]
noncomputable def Y1S (s:Nat) (a:List (List C)) (sz:Option Nat) (i j:Nat):Option C:=match nt a i with
 | some row=>match sz with
   | none=>match Nat.ble (Nat.succ j) s with|true=>nt row j|false=>none
   | some m=>match Nat.ble (j+m) s with|true=>X8P row j m|false=>none
 | none=>none
def Q1F (s:Nat) (f:Nat->Nat->V) (i j:Nat) (K:V->Prop) (sz:Option Nat):Prop :=
 match sz with
 | none=>match Nat.ble (j+1) s with|true=>(f i j).force K|false=>False
 | some m=>match Nat.ble (j+m) s with|true=>J8q (f i) j m fun l=>K (.agg l)|false=>False
theorem Q79 {s:Nat} (z:List C) {a:List (List C)} {sz:Option Nat} {i j:Nat} {c:C} {K:V->Prop} (h:Y1S s a sz i j=some c) (e:K c.v):Q1F s (J49 (C.vs z) (C.vss a)) i j K sz:=by
 unfold Q1F;unfold Y1S at h;split at h
 . rename_i row f;cases sz with
   | none =>
     simp only at h;split at h
     . rename_i d;simp only[d];refine V.force_ok ?_;rw[Q4r f];rw[X2m,J6k] at h;simpa[Q6,C.vs_get,h] using e
     . cases h
   | some m =>
     simp only at h;split at h
     . rename_i d;simp only[d];unfold X8P at h;rw[X1I,Q0O] at h;split at h
       . rename_i k;cases h;simp only[C.v] at e;refine Q2q _ _ _ _ _ ?_ (fun t g=>?_) e
         . rw[C.vs_length,Zt];omega
         . rw[Q4r f,C.vs_get,Ya,Qe g,Yk];simp only[Yj] at k;have b:j+t<row.length:=by omega
           simp[Q6,C.vs_get,b]
       . cases h
     . cases h
 . cases h
noncomputable def Q5u (own:J0B) (sz:Option Nat) (k off:Nat):Option C :=
 match lk own k with
 | some (.cells cs)=>match sz with
   | none=>nt cs off
   | some n=>X8P cs off n
 | _=>none
theorem Q2x {own:J0B} {sz:Option Nat} {k off:Nat} {c:C} {K:V->Prop} (h:Q5u own sz k off=some c) (a:K c.v):J9d (J0K own) sz k off K:=by
 unfold Q5u at h;unfold J9d;split at h
 . rename_i cs d;rw[J0y d];simp only[CB.b];cases sz with
   | none=>simp only at h ⊢;rw[Q80 h];exact a
   | some n=>simp only at h ⊢;exact X06 h a
 . cases h
noncomputable def J9S (own:J0B) (sz:Option Nat) (p:C):Option C :=
 match p with
 | .loc k off=>Q5u own sz k off
 | .oel k s i j=>match lk own k with
   | some (.vec n b _ a)=>match Nat.beq s b with
     | true=>match Nat.blt i n with
       | true=>Y1S s a sz i j
       | false=>none
     | false=>none
   | some (.cells _)=>Q5u own sz k (i*s+j)
   | _=>none
 | .fe _ s _ a i j=>Y1S s a sz i j
 | _=>none
theorem J8H {own:J0B} {sz:Option Nat} {p c:C} {K:V->Prop} (h:J9S own sz p=some c) (d:K c.v):J39 (J0K own) sz p.v K:=by
 unfold J9S at h;split at h
 . simp only[C.v,J39];exact Q2x h d
 . rename_i k s i j;simp only[C.v,J39];split at h
   . rename_i n l z a e;rw[J0y e];simp only[CB.b];split at h
     . rename_i f;simp only[f];split at h
       . rename_i g;have:=Q79 z h d;exact⟨Qq g,by cases sz<;>exact this⟩
       . cases h
     . cases h
   . rename_i cs e;rw[J0y e];simp only[CB.b];exact Q2x h d
   . cases h
 . rename_i n s z a i j;have:=Q79 z h d;simp only[C.v,J39];cases sz<;>exact this
 . cases h
noncomputable def Y4g (c:C):Option C:=match c with
 | .unit=>none
 | c=>some c
theorem X64 {c d:C} {K:V->Prop} (h:Y4g c=some d) (a:K d.v):X2D c.v K:=by
 cases c<;>simp only[Y4g,Qf,reduceCtorEq] at h<;>subst h<;>simp only[C.v] at a<;>simp only[C.v,X2D]<;>first|exact a|exact Q2w a
noncomputable def X7O (own:J0B) (sz:Option Nat) (p:C):Option C:=match J9S own sz p with
 | some c=>Y4g c
 | none=>none
theorem X3q {own:J0B} {sz:Option Nat} {p c:C} {K:V->Prop} (h:X7O own sz p=some c) (a:K c.v):X5i (J0K own) sz p.v K:=by
 unfold X7O at h;split at h
 . rename_i d hd;exact J8H hd (X64 h a)
 . cases h
noncomputable def stC {α b:Type} (l:List α):Nat->List α->(List α->Option b)->Option b :=
 @List.rec α (fun _=>Nat->List α->(List α->Option b)->Option b)
  (fun _ a K=>match a with|[]=>K []|_::_=>none)
  (fun x r c o a K=>match a with
    | []=>K (x::r)
    | v::a=>@Nat.rec (fun _=>Option b) (c 0 a fun l=>K (v::l)) (fun o _=>c o (v::a) fun l=>K (x::l)) o) l
theorem J6L {α n:Type}:∀(l:List α) (o:Nat) (a:List α) (K:List α->Option n) (out:n),stC l o a K=some out ->
 ∃b,K b=some out/\b.length=l.length/\(a≠[]->o+a.length<=l.length)/\b=l.take o++a++l.drop (o+a.length)/\∀{m:Type} (f:α->m) (d:List m->Prop),d (b.map f)->X8C (l.map f) o (a.map f) d
 | [],o,[],K,out,h=>⟨[],h,rfl,fun h=>(h rfl).elim,by simp,fun f d c=>by cases o<;>exact c⟩
 | [],o,v::a,K,out,h=>by cases h
 | x::r,o,[],K,out,h=>⟨x::r,h,rfl,fun h=>(h rfl).elim,by simp,fun f d c=>by cases o<;>exact c⟩
 | x::r,0,v::a,K,out,h=>by
   obtain⟨b,k,j,i,g,e⟩:=J6L r 0 a (fun l=>K (v::l)) out h;refine⟨v::b,k,by simp[j],fun _=>?_,by rw[g];simp[Z8],fun f d c=>e f _ (by simpa using c)⟩;cases a with
   | nil=>simp
   | cons y p=>have:=i (by simp);simp at this ⊢;omega
 | x::r,o+1,v::a,K,out,h=>by
   obtain⟨b,k,j,i,g,e⟩:=J6L r o (v::a) (fun l=>K (x::l)) out h;refine⟨x::b,k,by simp[j],fun _=>by have:=i (by simp);simp at this ⊢;omega,?_,fun f d c=>e f _ (by simpa using c)⟩;rw[g];simp[show o+1+(a.length+1)=o+(a.length+1)+1 by omega]
noncomputable def upC {a:Type} (t:Nat) (x:CB) (l:J0B):(J0B->Option a)->Option a :=
 @List.rec (Nat×CB) (fun _=>(J0B->Option a)->Option a) (fun K=>K [])
  (fun p r c K=>@Prod.rec Nat CB (fun _=>Option a) (fun k v=>@Bool.rec (fun _=>Option a) (c fun b=>K ((k,v)::b)) (K ((k,x)::r)) (Nat.beq k t)) p) l
theorem J7G {e:Type} {t:Nat} {x:CB}:∀{l:J0B} {K:J0B->Option e} {out:e},upC t x l K=some out ->
 ∃g,K g=some out/\∀c:Own->Prop,c (J0K g)->Q2S t x.b (J0K l) c
 | [],K,out,h=>⟨[],h,fun c a=>a⟩
 | (k,v)::r,K,out,h=>by
   have h:@Bool.rec (fun _=>Option e) (upC t x r fun f=>K ((k,v)::f)) (K ((k,x)::r)) (Nat.beq k t)=some out:=h;cases d:Nat.beq k t with
   | true =>
     rw[d] at h;exact⟨_,h,fun c a=>by simp only[J0K,Qv,Q2S,d];exact a⟩
   | false =>
     rw[d] at h;obtain⟨g,j,i⟩:=J7G (K:=fun f=>K ((k,v)::f)) h;exact⟨_,j,fun c a=>by simp only[J0K,Qv,Q2S,d];exact i _ a⟩
noncomputable def deC {a:Type} (t:Nat) (l:J0B):(J0B->Option a)->Option a :=
 @List.rec (Nat×CB) (fun _=>(J0B->Option a)->Option a) (fun K=>K [])
  (fun p r c K=>@Prod.rec Nat CB (fun _=>Option a) (fun k v=>@Bool.rec (fun _=>Option a) (c fun b=>K ((k,v)::b)) (K r) (Nat.beq k t)) p) l
theorem X0l {d:Type} {t:Nat}:∀{l:J0B} {K:J0B->Option d} {out:d},deC t l K=some out ->
 ∃f,K f=some out/\∀b:Own->Prop,b (J0K f)->X1q t (J0K l) b
 | [],K,out,h=>⟨[],h,fun b a=>a⟩
 | (k,v)::r,K,out,h=>by
   have h:@Bool.rec (fun _=>Option d) (deC t r fun e=>K ((k,v)::e)) (K r) (Nat.beq k t)=some out:=h;cases c:Nat.beq k t with
   | true =>
     rw[c] at h;exact⟨_,h,fun b a=>by simp only[J0K,Qv,X1q,c];exact a⟩
   | false =>
     rw[c] at h;obtain⟨f,i,g⟩:=X0l (K:=fun e=>K ((k,v)::e)) h;exact⟨_,i,fun b a=>by simp only[J0K,Qv,X1q,c];exact g _ a⟩
theorem Q4s (a:List (List V)):tab a=J49 [] a:=rfl
noncomputable def X0J (own:J0B) (v:C):Option C :=
 match v with
 | .vec k s b len=>match lk own k with
   | some (.vec n c z a)=>match Nat.beq s c with
     | true=>match Nat.ble (b+len) n with
       | true=>fH (dr a b) fun q=>some (.fz len s false z q)
       | false=>none
     | false=>none
   | _=>none
 | v=>match Q69 v with
   | true=>some v
   | false=>none
theorem Q0X {own:J0B} {v c:C} {K:V->Prop} (h:X0J own v=some c) (d:K c.v):Q7c (J0K own) v.v K:=by
 have other:(∀k s g len,v≠.vec k s g len)->Q69 v=true->K v.v->Q7c (J0K own) v.v K:=by
  intro a hk d;have:=J8h v;rw[hk] at this;cases v<;>first
   | exact(a _ _ _ _ rfl).elim
   | (simp only[C.v] at this d ⊢
      simp only[Q7c,this];exact d)
 unfold X0J at h;split at h
 . rename_i k s g len;simp only[C.v,Q7c];split at h
   . rename_i n l z f j;rw[J0y j];simp only[CB.b];split at h
     . rename_i i;simp only[i];split at h
       . rename_i e;refine⟨Qq e,?_⟩;rw[X22] at h;cases h;rw[J3g];simp only[C.v,Q0O] at d;exact d
       . cases h
     . cases h
   . cases h
 . rename_i a;split at h
   . rename_i hk;cases h;exact other a hk d
   . cases h
noncomputable def Q2D (own:J0B):List C->Option (List C)
 | []=>some []
 | v::r=>match X0J own v with
   | some c=>match Q2D own r with
     | some l=>some (c::l)
     | none=>none
   | none=>none
theorem Q2C {own:J0B}:∀{l cs:List C} {K:List V->Prop},Q2D own l=some cs->K (C.vs cs)->Q2H (J0K own) (C.vs l) K
 | [],cs,K,h,a=>by simp only[Q2D,Qf] at h;subst h;simpa[C.vs,Q2H] using a
 | v::r,cs,K,h,a=>by
   unfold Q2D at h;split at h
   . rename_i c d;split at h
     . rename_i l b;cases h;simp only[C.vs,Q2H];exact Q0X d (Q2C b (by simpa[C.vs] using a))
     . cases h
   . cases h
theorem Q5v (s:Nat):∀(n:Nat) (l:List C),J5m s n (C.vs l)=C.vss (J5m s n l)
 | 0,l=>by simp[J5m,C.vss]
 | n+1,l=>by
   simp only[J5m,C.vss];rw[<- Q5v s n,C.vs_map,C.vs_map,C.vs_map];simp
noncomputable def X3E (own:J0B) (v:C):Option C :=
 match v with
 | .vec k s 0 len=>match lk own k with
   | some (.cells cs)=>match Nat.beq (len*s) (ln cs) with
     | true=>match J91 X3C cs with
       | true=>match Q2D own cs with
         | some a=>some (.fz len s false [] (J5m s len a))
         | none=>none
       | false=>none
     | false=>none
   | _=>X0J own (.vec k s 0 len)
 | v=>X0J own v
theorem Q5C {own:J0B} {v c:C} {K:V->Prop} (h:X3E own v=some c) (w:K c.v):X1s (J0K own) v.v K:=by
 unfold X3E at h;split at h
 . rename_i k s len;split at h
   . rename_i cs d;split at h
     . rename_i a;split at h
       . rename_i A;split at h
         . rename_i m u;cases h;have a:=Qc a;rw[X2B] at a;have r:J3a V.cellB (C.vs cs)=true:=by rw[J3z Q5A];exact A
           have t:Q2H (J0K own) (C.vs cs) fun m=>K (.fz len s false (tab (J5m s len m))):=by
            refine Q2C u ?_;rw[Q5v,Q4s];simpa[C.v,C.vs] using w
           by_cases y:s=1
           . subst y;simp only[C.v,X1s,J0y d,CB.b,r];have e:Nat.beq len (C.vs cs).length=true:=by rw[C.vs_length,<- a];simp
             simp only[e];exact t
           . have e:Nat.beq (len*s) (C.vs cs).length=true:=by rw[C.vs_length,<- a];simp
             simp only[C.v];unfold X1s;split
             . rename_i i;cases i;exact(y rfl).elim
             . rename_i i;cases i;rw[J0y d];simp only[CB.b,r,e];exact t
             . rename_i q;exact(q _ _ _ rfl).elim
         . cases h
       . cases h
     . cases h
   . rename_i j;have p:=Q0X h w;simp only[C.v] at p ⊢;have g:∀cs,look (J0K own) k≠some (.cells cs):=by
      intro cs e;rw[J0K,J2V,<- J82] at e;cases d:lk own k with
      | none=>rw[d] at e;cases e
      | some b=>cases b with
        | cells m=>exact j m d
        | vec n s z x=>rw[d] at e;cases e
        | map mk B=>rw[d] at e;cases e
        | mapS B=>rw[d] at e;cases e
     have o:∀n s l f op,look (J0K own) k≠some (.fam n s l f op):=by
      intro n s l f op e;rw[J0K,J2V,<- J82] at e;cases d:lk own k with
      | none=>rw[d] at e;cases e
      | some b=>cases b<;>(rw[d] at e;cases e)
     unfold X1s;split
     . rename_i i;cases i;split
       . rename_i cs d;exact(g cs d).elim
       . rename_i n s l f op d;exact(o _ _ _ _ _ d).elim
       . exact p
     . rename_i i;cases i;split
       . rename_i cs d;exact(g cs d).elim
       . exact p
     . exact p
 . rename_i j;have p:=Q0X h w;unfold X1s;split
   . rename_i i;cases v<;>simp only[C.v,V.vec.injEq,reduceCtorEq] at i;obtain⟨rfl,rfl,rfl,rfl⟩:=i;exact(j _ _ _ rfl).elim
   . rename_i i;cases v<;>simp only[C.v,V.vec.injEq,reduceCtorEq] at i;obtain⟨rfl,rfl,rfl,rfl⟩:=i;exact(j _ _ _ rfl).elim
   . exact p
noncomputable def X0I (own:J0B):List C->Option (List C)
 | []=>some []
 | v::r=>match X3E own v with
   | some c=>match X0I own r with
     | some l=>some (c::l)
     | none=>none
   | none=>none
theorem Q5B {own:J0B}:∀{l cs:List C} {K:List V->Prop},X0I own l=some cs->K (C.vs cs)->X78 (J0K own) (C.vs l) K
 | [],cs,K,h,a=>by simp only[X0I,Qf] at h;subst h;simpa[C.vs,X78] using a
 | v::r,cs,K,h,a=>by
   unfold X0I at h;split at h
   . rename_i c d;split at h
     . rename_i l b;cases h;simp only[C.vs,X78];exact Q5C d (Q5B b (by simpa[C.vs] using a))
     . cases h
   . cases h
noncomputable def Y1q (own:J0B) (v:C):Option C :=
 match v with
 | .agg cs=>match X0I own cs with
   | some l=>some (.agg l)
   | none=>none
 | .loc _ _=>none
 | v=>X3E own v
theorem Q31 {own:J0B} {v c:C} {K:V->Prop} (h:Y1q own v=some c) (e:K c.v):bor (J0K own) v.v K:=by
 unfold Y1q at h;split at h
 . split at h
   . rename_i l f;cases h;simp only[C.v,bor];exact Q5B f (by simpa[C.v] using e)
   . cases h
 . cases h
 . rename_i b a;have d:=Q5C h e;cases v<;>first
    | exact(b _ rfl).elim
    | exact(a _ _ rfl).elim
    | (simp only[C.v] at d ⊢;simp only[bor];exact d)
def J6T:List C->List Nat
 | []=>[]
 | v::r=>match v with
   | .vec k _ _ _=>k::J6T r
   | _=>J6T r
theorem J5O:∀(l:List C),Q6F (C.vs l)=J6T l
 | []=>rfl
 | v::r=>by
   simp only[C.vs,Q6F,J6T,J5O r];cases v<;>simp[C.v,V.key1]
noncomputable def J7p (own:J0B) (v:C):List Nat :=
 match v with
 | .vec k _ _ _=>match lk own k with
   | some (.cells cs)=>k::J6T cs
   | _=>[k]
 | .agg cs=>J6T cs
 | _=>[]
theorem Q3N (own:J0B) (v:C):J6w (J0K own) v.v=J7p own v:=by
 cases v<;>simp[C.v,J6w,J7p,J5O];rename_i k s a len;rw[J0K,J2V,<- J82];cases c:lk own k with
 | none=>rfl
 | some b=>cases b<;>simp[CB.b,J5O]
noncomputable def Q6K (ks:List Nat):J0B->J0B
 | []=>[]
 | (k,b)::r=>match J1b k ks with|true=>Q6K ks r|false=>(k,b)::Q6K ks r
noncomputable def Q9z (ks:List Nat):J0B->J0B
 | []=>[]
 | (k,b)::r=>match J1b k ks with|true=>(k,b)::Q9z ks r|false=>Q9z ks r
theorem Q0N (ks:List Nat):∀(o:J0B),J2J ks (J0K o)=J0K (Q6K ks o)
 | []=>rfl
 | (k,b)::r=>by
   have a:=Q0N ks r;simp only[J0K,Qv,J2J,Q6K] at a ⊢;cases J1b k ks<;>simp[a]
theorem Q42 (ks:List Nat):∀(o:J0B),J2n ks (J0K o)=J0K (Q9z ks o)
 | []=>rfl
 | (k,b)::r=>by
   have a:=Q42 ks r;simp only[J0K,Qv,J2n,Q9z] at a ⊢;cases J1b k ks<;>simp[a]
noncomputable def Y6t {a:Type} (o:J0B):(J0B->a)->a:=@List.rec (Nat×CB) (fun _=>(J0B->a)->a) (fun K=>K []) (fun p _ b K=>b fun r=>K (p::r)) o
theorem Q3S {a:Type}:∀(o:J0B) (K:J0B->a),Y6t o K=K o
 | [],K=>rfl
 | p::r,K=>Q3S r fun r=>K (p::r)
noncomputable def Y17 {a:Type} (own:J0B) (v:C) (K:C->J0B->Option a):Option a :=
 match Y1q (Q9z (J7p own v) own) v with
 | some b=>Y6t (Q6K (J7p own v) own) fun own'=>K b own'
 | none=>none
theorem X0D {c:Type} {own:J0B} {v:C} {K:C->J0B->Option c} {out:c} (h:Y17 own v K=some out) :
 ∃a d,K a d=some out/\∀b:V->Own->Prop,b a.v (J0K d)->X7p (J0K own) v.v b:=by
 unfold Y17 at h;split at h
 . rename_i a e;rw[Q3S] at h;refine⟨a,_,h,fun b f=>?_⟩;unfold X7p;rw[Q3N,Q42,Q0N];exact Q31 e f
 . cases h
theorem Q9S {z:List C} {a:List (List C)} {i j:Nat} {row b:List C} (h:a[i]?=some row) (k:j+b.length<=row.length) :
 J1l (J49 (C.vs z) (C.vss a)) i j (C.vs b)=J49 (C.vs z) (C.vss (a.take i++[row.take j++b++row.drop (j+b.length)]++a.drop (i+1))):=by
 have l:=(Qs.1 h).1;funext c j';have f:∀q,(a.take i++[q]++a.drop (i+1))[c]?=if c=i then some q else a[c]?:=by
  intro q;have:=J0I a [q] i (by simp only[Xa];omega) c;simp only[Xa] at this;rw[this];by_cases g:c<i
  . rw[Qe g,Qb (by omega)]
  . rw[Qb g];by_cases d:c=i
    . subst d;simp
    . rw[Qb (by omega),Qb d]
 simp only[J1l,J49,Q6,C.vss_get,f,C.vs_length];by_cases e:c=i
 . subst e;simp only[Zl,h,Zi,Xp,Vt,C.vs_get];rw[J0I row b j k j'];by_cases g:j'<j
   . rw[Qb (by omega),Qe g]
   . rw[Qb g];by_cases d:j'<j+b.length
     . rw[Qe ⟨by omega,d⟩,Qe d];have:j'-j<b.length:=by omega
       simp[this]
     . rw[Qb (by omega),Qb d]
 . simp only[e,Vc,Xy]
noncomputable def Q0Q {b:Type} (own:J0B) (sz k off:Nat) (v:C) (K:J0B->Option b):Option b :=
 match lk own k with
 | some (.cells cs)=>match J8J sz v with
   | some c=>stC cs off c fun a=>upC k (.cells a) own K
   | none=>none
 | _=>none
theorem J9P {d:Type} {own:J0B} {sz k off:Nat} {v:C} {K:J0B->Option d} {out:d} (h:Q0Q own sz k off v K=some out) :
 ∃a,K a=some out/\∀c:Own->Prop,c (J0K a)->J57 (J0K own) sz k off v.v c:=by
 unfold Q0Q at h;split at h
 . rename_i cs f;split at h
   . rename_i r e;obtain⟨q,w,p,o⟩:=J4H e;obtain⟨i,n,u,t,s,m⟩:=J6L _ _ _ _ _ h;obtain⟨a,l,j⟩:=J7G n;refine⟨a,l,fun c g=>?_⟩;unfold J57;rw[J0y f];simp only[CB.b];refine J3T q ?_;simp only[p,o];rw[C.vs_map,C.vs_map];refine m C.v _ ?_;have:=j c g;simpa[CB.b,C.vs_map] using this
   . cases h
 . cases h
noncomputable def J9Q {d:Type} (own:J0B) (sz:Nat) (p v:C) (K:J0B->Option d):Option d :=
 match p with
 | .loc k off=>Q0Q own sz k off v K
 | .oel k s i j=>match lk own k with
   | some (.vec n f z a)=>match J8J sz v with
     | some e=>match J91 X1o e with
       | true=>match Nat.beq s f with
         | true=>match Nat.ble (j+sz) s with
           | true=>match Nat.blt i n with
             | true=>match Nat.ble 1 sz with
               | true=>match nt a i with
                 | some row=>stC row j e fun c=>stC a i [c] fun b=>upC k (.vec n s z b) own K
                 | none=>none
               | false=>none
             | false=>none
           | false=>none
         | false=>none
       | false=>none
     | none=>none
   | some (.cells _)=>Q0Q own sz k (i*s+j) v K
   | _=>none
 | _=>none
theorem J5Z {o:Type} {own:J0B} {sz:Nat} {p v:C} {K:J0B->Option o} {out:o} (h:J9Q own sz p v K=some out) :
 ∃d,K d=some out/\∀f:Own->Prop,f (J0K d)->J3E (J0K own) sz p.v v.v f:=by
 unfold J9Q at h;split at h
 . simp only[C.v,J3E];exact J9P h
 . rename_i k s i j;split at h
   . rename_i n O z r l;split at h
     . rename_i q y;obtain⟨N,x,M,L⟩:=J4H y;split at h
       . rename_i m;split at h
         . rename_i u;split at h
           . rename_i A;split at h
             . rename_i B;split at h
               case h_2=>cases h
               rename_i E;split at h
               . rename_i row w;obtain⟨t,J,Q,I,H,P⟩:=J6L _ _ _ _ _ h;obtain⟨g,d1,d2,d3,d4,d5⟩:=J6L _ _ _ _ _ J;obtain⟨d,G,F⟩:=J7G d1;refine⟨d,G,fun f D=>?_⟩;have e:=Qc u;subst e;simp only[C.v,J3E];rw[J0y l];simp only[CB.b];refine J3T N ?_;have a:J3a V.kf1 (C.vs q)=true:=by rw[J3z Q0D];exact m
                 simp only[M,L,a,u,A];refine⟨Qq B,?_⟩;have:=F f D;rw[X2m,J6k] at w;have c:j+q.length<=row.length:=I (by
                  intro e;rw[e] at x;have:=Qq E;simp at x;omega)
                 rw[Q9S w c];simp only[CB.b,d4,H,Xa] at this;exact this
               . cases h
             . cases h
           . cases h
         . cases h
       . cases h
     . cases h
   . rename_i cs l;simp only[C.v,J3E];rw[J0y l];simp only[CB.b];exact J9P h
   . cases h
 . cases h
noncomputable def Q9x:C->Bool
 | .vec _ _ _ _=>true
 | .agg cs=>match J6T cs with|[]=>false|_::_=>true
 | _=>false
theorem Q19 (v:C):v.v.keyed=Q9x v:=by
 cases v<;>simp only[C.v,V.keyed,Q9x,J5O];rename_i cs;cases J6T cs<;>rfl
noncomputable def Q3W {a:Type} (own:J0B) (sz:Nat) (p v:C) (K:J0B->Option a):Option a :=
 match p with
 | .oel k s i j=>match lk own k with
   | some (.vec _ _ _ _)=>match Q9x v with
     | true=>Y17 own v fun b own'=>J9Q own' sz (.oel k s i j) b K
     | false=>J9Q own sz (.oel k s i j) v K
   | _=>J9Q own sz (.oel k s i j) v K
 | p=>J9Q own sz p v K
theorem Q6N {r:Type} {own:J0B} {sz:Nat} {p v:C} {K:J0B->Option r} {out:r} (h:Q3W own sz p v K=some out) :
 ∃a,K a=some out/\∀c:Own->Prop,c (J0K a)->J4k (J0K own) sz p.v v.v c:=by
 unfold Q3W at h;split at h
 . rename_i k s i j;split at h
   . rename_i n t z o d;split at h
     . rename_i hk;obtain⟨x,y,w,u⟩:=X0D h;obtain⟨a,m,l⟩:=J5Z w;refine⟨a,m,fun c g=>?_⟩;simp only[C.v,J4k];rw[J0y d,Q19,hk];simp only[CB.b];refine u _ ?_;have:=l c g;simpa only[C.v] using this
     . rename_i hk;obtain⟨a,m,l⟩:=J5Z h;refine⟨a,m,fun c g=>?_⟩;simp only[C.v,J4k];rw[J0y d,Q19,hk];simp only[CB.b];have:=l c g;simpa only[C.v] using this
   . rename_i e;obtain⟨a,m,l⟩:=J5Z h;refine⟨a,m,fun c g=>?_⟩;have:=l c g;simp only[C.v] at this;simp only[C.v,J4k];split
     . rename_i n t f d;exfalso;rw[J0K,J2V,<- J82] at d;cases q:lk own k with
       | none=>rw[q] at d;cases d
       | some b=>cases b with
         | vec n s z o=>exact e _ _ _ _ q
         | _=>rw[q] at d;cases d
     . exact this
 . rename_i e;obtain⟨a,m,l⟩:=J5Z h;refine⟨a,m,fun c g=>?_⟩;have:=l c g;cases p<;>first
    | exact(e _ _ _ _ rfl).elim
    | (simp only[C.v] at this ⊢;simp only[J4k];exact this)
noncomputable def Y15 (own:J0B) (s:Nat) (y:C):Option (Nat×List C×List (List C)) :=
 match y with
 | .fz m c _ z a=>match Nat.beq s c with|true=>some (m,z,a)|false=>none
 | .vec k c d len=>match lk own k with
   | some (.vec n b z a)=>match Nat.beq s c with
     | true=>match Nat.beq s b with
       | true=>match Nat.ble (d+len) n with
         | true=>fH (dr a d) fun q=>some (len,z,q)
         | false=>none
       | false=>none
     | false=>none
   | _=>none
 | _=>none
theorem X0n {own:J0B} {s:Nat} {y:C} {m:Nat} {z:List C} {a:List (List C)} {K:Nat->(Nat->Nat->V)->Prop} (h:Y15 own s y=some (m,z,a)) (d:K m (J49 (C.vs z) (C.vss a))):X1v (J0K own) s y.v K:=by
 unfold Y15 at h;split at h
 . split at h
   . rename_i f;cases h;simp only[C.v,X1v,f];exact d
   . cases h
 . rename_i k p q len;simp only[C.v,X1v];split at h
   . rename_i n e o c g;rw[J0y g];simp only[CB.b];split at h
     . rename_i l;split at h
       . rename_i j;split at h
         . rename_i i;rw[X22] at h;cases h;simp only[l,j];refine⟨Qq i,?_⟩;rw[J3g];rw[Q0O] at d;exact d
         . cases h
       . cases h
     . cases h
   . cases h
 . cases h
def J4X:List C->Option C
 | []=>some (.bool false)
 | [v]=>some v
 | _::r=>J4X r
theorem Q0B:∀(z:List C),(J4X z).map C.v=some (J4j (C.vs z))
 | []=>by simp[J4X,J4j,C.vs,C.v];rfl
 | [v]=>by simp[J4X,J4j,C.vs]
 | _::b::r=>by simpa[J4X,J4j,C.vs] using Q0B (b::r)
def X1X (z c:List C):Bool:=match J4X z with
 | some (.int k a)=>match J4X c with
   | some (.int d b)=>match kEq k d with|true=>ieq a b|false=>false
   | _=>false
 | some (.bool a)=>match J4X c with
   | some (.bool b)=>a == b
   | _=>false
 | some .nilslice=>match J4X c with
   | some .nilslice=>true
   | _=>false
 | _=>false
theorem Q4w {z b:List C} (h:X1X z b=true):J4j (C.vs z)=J4j (C.vs b):=by
 have c:=Q0B z;have d:=Q0B b;have key:J4X z=J4X b:=by
  unfold X1X at h;split at h
  . rename_i a;split at h
    . rename_i e2;split at h
      . rename_i e;rw[J5R,Yx] at h;rw[a,e2,J6U e,h]
      . cases h
    . cases h
  . rename_i a;split at h
    . rename_i e2;rw[Yx] at h;rw[a,e2,h]
    . cases h
  . rename_i a;split at h
    . rename_i e2;rw[a,e2]
    . cases h
  . cases h
 rw[key,d] at c;exact(Yl c).symm
theorem Q92 {z e:List C} {a b:List (List C)} {c len:Nat} (h:c+len<=a.length) (hz:J4j (C.vs z)=J4j (C.vs e)) :
 J56 (J0m c (J49 (C.vs z) (C.vss a))) len (J49 (C.vs e) (C.vss b))=J49 (C.vs e) (C.vss ((a.drop c).take len++b)):=by
 funext i j;have d:((a.drop c).take len).length=len:=by simp;omega
 by_cases f:i<len
 . rw[J19 f,J0l];simp only[J49,Q6,C.vss_get];rw[Q3 (by omega),Ya,Qe f,Yk];have:c+i<a.length:=by omega
   simp[this,hz]
 . rw[J2a f];simp only[J49,Q6,C.vss_get];rw[Xt (by omega),d]
theorem Q2p {z e:List C} {b a:List (List C)} {p m:Nat} (h:p+m<=b.length) (k:m<=a.length) (hz:J4j (C.vs z)=J4j (C.vs e)) :
 Q2V (J49 (C.vs z) (C.vss b)) p m (J49 (C.vs e) (C.vss a))=J49 (C.vs z) (C.vss (b.take p++a.take m++b.drop (p+m))):=by
 funext i j;have g:(a.take m).length=m:=by simp;omega
 have f:=J0I b (a.take m) p (by omega) i;rw[g] at f;simp only[Q2V,J49,Q6,C.vss_get,f];by_cases d:i<p
 . rw[Qb (by omega),Qe d]
 . by_cases c:i<p+m
   . rw[Qe ⟨by omega,c⟩,Qb d,Qe c,Ya,Qe (by omega)];have:i-p<a.length:=by omega
     simp[this,hz]
   . rw[Qb (by omega),Qb d,Qb c]
noncomputable def apK {α a:Type} (n:Nat):List α->List α->(List α->Option a)->Option a :=
 @Nat.rec (fun _=>List α->List α->(List α->Option a)->Option a) (fun _ l K=>K l) (fun _ b q l K=>@List.rec α (fun _=>Option a) none (fun x r _=>b r l fun o=>K (x::o)) q) n
theorem X49 {α a:Type} (n:Nat) (q l:List α) (K:List α->Option a):apK n q l K=if n<=q.length then K (q.take n++l) else none:=by
 induction n generalizing q K with
 | zero=>simp only[Qh,Zl,Jl,Zb];rfl
 | succ n b=>cases q with
   | nil=>rfl
   | cons x r =>
     show apK n r l (fun o=>K (x::o))=_;rw[b];simp
structure R where
 v:C
 o:J0B
 k:Nat
def KB:Nat:=1000000
def ksV (k:Nat):List Nat:=List.range' k (KB-k)
theorem X2H {k:Nat} (h:k<KB):ksV k=k::ksV (k+1):=by
 unfold ksV;rw[show KB-k=(KB-(k+1))+1 by omega,List.range'_succ]
noncomputable def frC {a:Type} (k:Nat) (K:Nat->Nat->Option a):Option a:=match Nat.blt k KB with
 | true=>fN (Nat.succ k) fun b=>K k b
 | false=>none
theorem J4E {b:Type} {k:Nat} {K:Nat->Nat->Option b} {out:b} (h:frC k K=some out):K k (k+1)=some out/\∀a:Nat->List Nat->Prop,a k (ksV (k+1))->fresh (ksV k) a:=by
 unfold frC at h;split at h
 . rename_i c;rw[J4Y] at h;refine⟨h,fun a d=>?_⟩;rw[X2H (Qq c)];exact d
 . cases h
noncomputable def Y1y (n bytes:Nat) {a:Type} (K:Option a):Option a:=match Nat.ble (n*bytes) 140737488355328 with
 | true=>match Nat.ble n 9223372036854775807 with|true=>K|false=>none
 | false=>none
theorem Q37 {n bytes:Nat} {a:Type} {K:Option a} {out:a} (h:Y1y n bytes K=some out):n*bytes<=140737488355328/\n<=9223372036854775807/\K=some out:=by
 unfold Y1y at h;split at h
 . rename_i c;split at h
   . rename_i b;exact⟨Qq c,Qq b,h⟩
   . cases h
 . cases h
noncomputable def X3G (own:J0B) (ks s bytes k e len m:Nat) (b:List (List C)) (d:List C) (a:List (List C)):Option R :=
 Y1y (len+m) bytes (frC ks fun c ks=>deC k own fun own'=>apK len (dr b e) a fun q=>fN (len+m) fun n=>some ⟨.vec c s 0 n,(c,.vec n s d q)::own',ks⟩)
noncomputable def Y1r (own:J0B) (ks s bytes:Nat) (x y:C):Option R :=
 match Y15 own s y with
 | some (m,d,a)=>match x with
   | .nilslice=>Y1y m bytes (frC ks fun e ks=>some ⟨.vec e s 0 m,(e,.vec m s d a)::own,ks⟩)
   | .fz 0 _ true _ _=>Y1y m bytes (frC ks fun e ks=>some ⟨.vec e s 0 m,(e,.vec m s d a)::own,ks⟩)
   | .vec k g c len=>match lk own k with
     | some (.vec n f z b)=>match Nat.beq s g with
       | true=>match Nat.beq s f with
         | true=>match Nat.ble (c+len) n with
           | true=>match X1X z d with
            | false=>none
            | true=>match Nat.beq (c+len) n with
             | true=>X3G own ks s bytes k c len m b d a
             | false=>match Nat.ble (c+len+m) n with
               | true=>match Nat.ble 1 m with
                 | true=>tk m a fun q=>stC b (c+len) q fun Q6c=>upC k (.vec n s z Q6c) own fun own'=>fN (len+m) fun h=>some ⟨.vec k s c h,own',ks⟩
                 | false=>none
               | false=>X3G own ks s bytes k c len m b d a
           | false=>none
         | false=>none
       | false=>none
     | _=>none
   | _=>none
 | none=>none
theorem Q5D {own:J0B} {ks s bytes k e len n m:Nat} {z:List C} {c:List (List C)} {d:List C} {a:List (List C)} {r:R} {K:V->Own->List Nat->Prop} (f:e+len<=n) (hz:J4j (C.vs z)=J4j (C.vs d))
 (h:X3G own ks s bytes k e len m c d a=some r) (g:K r.v.v (J0K r.o) (ksV r.k)) :
 Q7t (J0K own) (ksV ks) s bytes k e len n m (J49 (C.vs z) (C.vss c)) (J49 (C.vs d) (C.vss a)) K:=by
 unfold X3G at h;obtain⟨t,q,h⟩:=Q37 h;obtain⟨h,p⟩:=J4E h;obtain⟨u,h,l⟩:=X0l h;rw[X49] at h;split at h
 . rename_i i;rw[J4Y] at h;cases h;rw[Q0O,Yj] at i;unfold Q7t;refine⟨f,t,q,p _ (l _ ?_)⟩;by_cases j:len=0
   . subst j;simp only[J56];simpa[C.v,J0K,CB.b,Q0O] using g
   . rw[Q92 (by omega) hz];simpa[C.v,J0K,CB.b,Q0O] using g
 . cases h
theorem Q32 {own:J0B} {ks s bytes:Nat} {x y:C} {r:R} {K:V->Own->List Nat->Prop} (h:Y1r own ks s bytes x y=some r) (f:K r.v.v (J0K r.o) (ksV r.k)):X39 (J0K own) (ksV ks) s bytes x.v y.v K:=by
 unfold Y1r at h;split at h
 . rename_i m L a c;refine X0n c ?_;split at h
   . obtain⟨q,p,h⟩:=Q37 h;obtain⟨h,l⟩:=J4E h;cases h;simp only[C.v];exact⟨q,p,l _ (by simpa[C.v,J0K,CB.b] using f)⟩
   . obtain⟨q,p,h⟩:=Q37 h;obtain⟨h,l⟩:=J4E h;cases h;simp only[C.v];exact⟨q,p,l _ (by simpa[C.v,J0K,CB.b] using f)⟩
   . rename_i k M E len;simp only[C.v];split at h
     . rename_i n D z t d;rw[J0y d];simp only[CB.b];split at h
       . rename_i w;split at h
         . rename_i G;simp only[w,G];split at h
           . rename_i g;have g:=Qq g;split at h
             . cases h
             rename_i hz;have hz:=Q4w hz;split at h
             . rename_i j;exact⟨fun _=>Q5D g hz h f,fun e=>by rw[j] at e;cases e⟩
             . rename_i j;refine⟨fun e=>(by rw[j] at e;cases e),fun _=>?_⟩;split at h
               . rename_i i;refine⟨fun _=>?_,fun e=>(by rw[i] at e;cases e)⟩;split at h
                 . rename_i u;have u:=Qq u;have I:=Qc w;subst I;rw[X1I] at h;split at h
                   . rename_i F;obtain⟨Q6c,H,g2,g3,A,O⟩:=J6L _ _ _ _ _ h;obtain⟨N,B,J⟩:=J7G H;rw[J4Y] at B;cases B;have d:(a.take m).length=m:=by simp;omega
                     have g3:=g3 (fun e=>by rw[e] at d;simp at d;omega);rw[d] at g3 A;rw[Q2p g3 F hz];have:=J (fun own'=>K (.vec k s E (len+m)) own' (ksV ks)) (by simpa[C.v] using f);simp only[CB.b,A] at this;exact this
                   . cases h
                 . cases h
               . rename_i i;exact⟨fun e=>(by rw[i] at e;cases e),fun _=>Q5D g hz h f⟩
           . cases h
         . cases h
       . cases h
     . cases h
   . cases h
 . cases h
noncomputable def X71 (own:J0B) (ks s bytes:Nat) (x y:C):Option R :=
 match y with
 | .vec k a b len=>match lk own k with
   | some (.cells _)=>Y17 own (.vec k a b len) fun c own'=>Y1r own' ks s bytes x c
   | _=>Y1r own ks s bytes x (.vec k a b len)
 | y=>Y1r own ks s bytes x y
theorem X3H {own:J0B} {ks s bytes:Nat} {x y:C} {r:R} {K:V->Own->List Nat->Prop} (h:X71 own ks s bytes x y=some r) (e:K r.v.v (J0K r.o) (ksV r.k)):J8W (J0K own) (ksV ks) s bytes x.v y.v K:=by
 unfold X71 at h;split at h
 . rename_i k l n len;split at h
   . rename_i cs c;obtain⟨j,m,i,g⟩:=X0D h;simp only[C.v,J8W];rw[J0y c];simp only[CB.b];have:=g (fun f own'=>X39 own' (ksV ks) s bytes x.v f K) (Q32 i e);simpa only[C.v] using this
   . rename_i a;have:=Q32 h e;simp only[C.v] at this;simp only[C.v,J8W];split
     . rename_i cs c;exfalso;rw[J0K,J2V,<- J82] at c;cases d:lk own k with
       | none=>rw[d] at c;cases c
       | some b=>cases b with
         | cells cs=>exact a _ d
         | _=>rw[d] at c;cases c
     . exact this
 . rename_i a;have:=Q32 h e;cases y<;>first
    | exact(a _ _ _ _ rfl).elim
    | (simp only[C.v] at this ⊢;simp only[J8W];exact this)
theorem Q7u {own:Own} {ks:List Nat} {s bytes:Nat} {x y:V} {K:V->Own->List Nat->Prop} (b:∀k n s l f op,look own k=some (.fam n s l f op)->False) (h:J8W own ks s bytes x y K):X1z own ks s bytes x y K:=by
 unfold X1z;split
 . split
   . rename_i a;exact(b _ _ _ _ _ _ a).elim
   . exact h
 . exact h
theorem Q6w {o:J0B}:∀k n s l f op,look (J0K o) k=some (.fam n s l f op)->False:=fun k n s l f op h=>by
 obtain⟨p,hp,e⟩:=Qi.1 (J0g h);have e2:p.2.b=.fam n s l f op:=X6 Prod.snd e;cases a:p.2<;>rw[a] at e2<;>cases e2
noncomputable def mkR (c:Option C) (own:J0B) (ks:Nat):Option R:=match c with
 | some v=>some ⟨v,own,ks⟩
 | none=>none
theorem Q10 {c:Option C} {own:J0B} {ks:Nat} {r:R} (h:mkR c own ks=some r):c=some r.v/\r.o=own/\r.k=ks:=by
 unfold mkR at h;split at h
 . cases h;exact⟨rfl,rfl,rfl⟩
 . cases h
noncomputable def X0F (env:J1n):List (Nat×Nat×X)->List C->Option (List C)
 | [],a=>some a
 | (off,size,x)::r,a=>match gx x env with
   | some v=>match J8J size v with
     | some c=>match Nat.ble (off+size) (ln a) with
       | true=>stC a off c fun b=>X0F env r b
       | false=>none
     | none=>none
   | none=>none
theorem Q5x {env:J1n}:∀{f:List (Nat×Nat×X)} {a out:List C} {K:List V->Prop},X0F env f a=some out->K (C.vs out)->Q3Q (J3w env) f (C.vs a) K
 | [],a,out,K,h,e=>by simp only[X0F,Qf] at h;subst h;simpa[Q3Q] using e
 | (off,size,x)::r,a,out,K,h,e=>by
   simp only[X0F] at h;split at h
   . rename_i v i;split at h
     . rename_i o d;split at h
       . rename_i c;obtain⟨n,t,m,l⟩:=J4H d;obtain⟨g,k,s,q,p,j⟩:=J6L _ _ _ _ _ h;simp only[Q3Q];refine J0D i (J3T n ?_);rw[X2B] at c;have b:Nat.ble (off+size) (C.vs a).length=true:=by rw[C.vs_length];exact c
         simp only[m,l,b];rw[C.vs_map,C.vs_map];refine j C.v _ ?_;have:=Q5x k e
         rwa[C.vs_map] at this
       . cases h
     . cases h
   . cases h
noncomputable def X0p (s:Nat):List C->Option (List (List C))
 | []=>some []
 | v::r=>match J8J s v with
   | some a=>match J91 X1o a with
     | true=>match X0p s r with
       | some l=>some (a::l)
       | none=>none
     | false=>none
   | none=>none
theorem Q5s {s:Nat}:∀{l:List C} {rs:List (List C)} {K:List (List V)->Prop},X0p s l=some rs->K (C.vss rs)->Q6b s (C.vs l) K
 | [],rs,K,h,d=>by simp only[X0p,Qf] at h;subst h;simpa[Q6b,C.vs,C.vss] using d
 | v::r,rs,K,h,d=>by
   simp only[X0p] at h;split at h
   . rename_i e b;split at h
     . rename_i c;split at h
       . rename_i l f;cases h;obtain⟨j,k,i,g⟩:=J4H b;simp only[C.vs,Q6b];refine J3T j ?_;have a:J3a V.kf1 (C.vs e)=true:=by rw[J3z Q0D];exact c
         simp only[i,g,a];exact Q5s f (by simpa[C.vss] using d)
       . cases h
     . cases h
   . cases h
noncomputable def X0E (s:Nat):List C->Option (List C)
 | []=>some []
 | v::r=>match J8J s v with
   | some a=>match X0E s r with
     | some l=>apK s a l some
     | none=>none
   | none=>none
theorem Q5w {s:Nat}:∀{l rs:List C} {K:List V->Prop},X0E s l=some rs->K (C.vs rs)->flatK s (C.vs l) K
 | [],rs,K,h,b=>by simp only[X0E,Qf] at h;subst h;simpa[flatK,C.vs] using b
 | v::r,rs,K,h,b=>by
   simp only[X0E] at h;split at h
   . rename_i i a;split at h
     . rename_i l c;obtain⟨g,f,e,d⟩:=J4H a;rw[X49,Qe (by omega),<- f,Y8] at h;cases h;simp only[C.vs,flatK];refine J3T g ?_;simp only[e,d];refine Q5w c ?_;simpa[C.vs_map] using b
     . cases h
   . cases h
noncomputable def X8D {α:Type} (n:Nat) (x:α):List α:=@Nat.rec (fun _=>List α) [] (fun _ a=>x::a) n
theorem Q0n {α:Type} (n:Nat) (x:α):X8D n x=List.replicate n x:=by
 induction n with
 | zero=>rfl
 | succ n a=>show x::X8D n x=_;rw[a];rfl
noncomputable def fL {α a:Type} (l:List α):(List α->a)->a:=@List.rec α (fun _=>(List α->a)->a) (fun K=>K []) (fun x _ b K=>b fun r=>K (x::r)) l
theorem J5U {α a:Type}:∀(l:List α) (K:List α->a),fL l K=K l
 | [],_=>rfl
 | x::r,K=>J5U r fun r=>K (x::r)
noncomputable def mfI (c:List (Int×C)) (a:Int):Option C:=@List.rec (Int×C) (fun _=>Option C) none (fun p _ b=>match ieq p.1 a with|true=>some p.2|false=>b) c
theorem X4C {ik:IntKind}:∀(b:List (Int×C)) (a:Int),J00 (α:=KyT (.one ik)) (b.map fun p=>(p.1,p.2.v)) a=(mfI b a).map C.v
 | [],a=>rfl
 | (q,c)::r,a=>by
   have d:=X4C (ik:=ik) r a;have e:mfI ((q,c)::r) a=match ieq q a with|true=>some c|false=>mfI r a:=rfl
   rw[e];simp only[Qv,J00,d];have:=J5R q a;by_cases h:q=a
   . rw[Qe h];subst h;simp[this]
   . rw[Qb h];have:ieq q a=false:=by rw[this];simpa using h
     rw[this]
noncomputable def mpI (c:List (Int×C)) (a:Int) (v:C):List (Int×C):=@List.rec (Int×C) (fun _=>List (Int×C)) [(a,v)] (fun p r b=>match ieq p.1 a with|true=>(p.1,v)::r|false=>p::b) c
theorem X4A {ik:IntKind}:∀(b:List (Int×C)) (a:Int) (v:C),mput (α:=KyT (.one ik)) (b.map fun p=>(p.1,p.2.v)) a v.v=(mpI b a v).map fun p=>(p.1,p.2.v)
 | [],a,v=>rfl
 | (q,c)::r,a,v=>by
   have d:=X4A (ik:=ik) r a v;have e:mpI ((q,c)::r) a v=match ieq q a with|true=>(q,v)::r|false=>(q,c)::mpI r a v:=rfl
   rw[e];simp only[Qv,mput,d];have:=J5R q a;by_cases h:q=a
   . rw[Qe h];subst h;simp[this]
   . rw[Qb h];have:ieq q a=false:=by rw[this];simpa using h
     rw[this];simp
noncomputable def mfS (b:List ((Nat×Nat)×C)) (l d:Nat):Option C:=@List.rec ((Nat×Nat)×C) (fun _=>Option C) none (fun p _ a=>match eqS p.1.1 p.1.2 l d with|true=>some p.2|false=>a) b
theorem Q0L {l c a b:Nat}:eqS l c a b=true↔J0t l c=J0t a b:=by rw[Q5j];exact Go.MapKept.bytes_beq _ _
theorem X4B:∀(a:List ((Nat×Nat)×C)) (l d:Nat),J00 (α:=KyT .str) (a.map fun p=>(J0t p.1.1 p.1.2,p.2.v)) (J0t l d)=(mfS a l d).map C.v
 | [],l,d=>rfl
 | ((q1,q2),c)::r,l,d=>by
   have b:=X4B r l d;have e:mfS (((q1,q2),c)::r) l d=match eqS q1 q2 l d with|true=>some c|false=>mfS r l d:=rfl
   rw[e];simp only[Qv,J00,b];by_cases h:J0t q1 q2=J0t l d
   . rw[Qe h,Q0L.2 h];rfl
   . rw[Qb h];have:eqS q1 q2 l d=false:=by rw[<- Xb];exact fun e=>h (Q0L.1 e)
     rw[this]
noncomputable def mpS (b:List ((Nat×Nat)×C)) (l d:Nat) (v:C):List ((Nat×Nat)×C):=@List.rec ((Nat×Nat)×C) (fun _=>List ((Nat×Nat)×C)) [((l,d),v)] (fun p r a=>match eqS p.1.1 p.1.2 l d with|true=>(p.1,v)::r|false=>p::a) b
theorem X4z:∀(a:List ((Nat×Nat)×C)) (l d:Nat) (v:C),mput (α:=KyT .str) (a.map fun p=>(J0t p.1.1 p.1.2,p.2.v)) (J0t l d) v.v=(mpS a l d v).map fun p=>(J0t p.1.1 p.1.2,p.2.v)
 | [],l,d,v=>rfl
 | ((q1,q2),c)::r,l,d,v=>by
   have b:=X4z r l d v;have e:mpS (((q1,q2),c)::r) l d v=match eqS q1 q2 l d with|true=>((q1,q2),v)::r|false=>((q1,q2),c)::mpS r l d v:=rfl
   rw[e];simp only[Qv,mput,b];by_cases h:J0t q1 q2=J0t l d
   . rw[Qe h,Q0L.2 h];rfl
   . rw[Qb h];have:eqS q1 q2 l d=false:=by rw[<- Xb];exact fun e=>h (Q0L.1 e)
     rw[this];rfl
noncomputable def Y02 (z:V) (a:Bool) (own:J0B) (ks:Nat) (o:Option C):Option R :=
 match o with
 | some v=>match a with|true=>some ⟨.tup [v,.bool true],own,ks⟩|false=>some ⟨v,own,ks⟩
 | none=>match ofV z with
   | some c=>match a with|true=>some ⟨.tup [c,.bool false],own,ks⟩|false=>some ⟨c,own,ks⟩
   | none=>none
def Y1Z (a:Bool) (b:Bool) (K:V->Prop) (v:V):Prop:=match a with|true=>K (.tup [v,.bool b])|false=>K v
theorem Q9O {z:V} {a:Bool} {own:J0B} {ks:Nat} {o:Option C} {r:R} {K:V->Own->List Nat->Prop} (h:Y02 z a own ks o=some r) (f:K r.v.v (J0K r.o) (ksV r.k)) {d:Option V} (i:d=o.map C.v) :
 X37 d (Y1Z a true fun v=>K v (J0K own) (ksV ks)) (Y1Z a false (fun v=>K v (J0K own) (ksV ks)) z):=by
 subst i;cases o with
 | some v =>
   refine⟨fun g b=>?_,fun e=>(by cases e)⟩;cases b;cases a<;>(simp only[Y02,Qf] at h;subst h;simpa[C.v,C.vs,Y1Z] using f)
 | none =>
   refine⟨fun g b=>(by cases b),fun _=>?_⟩;simp only[Y02] at h;split at h
   . rename_i c j;have:=X4v z j;subst this;cases a<;>(simp only[Qf] at h;subst h;simpa[C.v,C.vs,Y1Z] using f)
   . cases h
noncomputable def X4S (o:XOp) (env:J1n) (own:J0B) (ks:Nat):Option R :=
 match o with
 | .mks s bytes A x=>match gx x env with
   | some (.int _ (.ofNat m))=>match Nat.ble m 4611686018427387904 with
     | true=>match Nat.ble (m*bytes) 140737488355328 with
       | true=>match X8F A with
         | some t=>frC ks fun k ks=>match s with
           | 1=>match t with
             | [.nilslice]=>fL (X8D m C.nilslice) fun l=>some ⟨.vec k 1 0 m,(k,.cells l)::own,ks⟩
             | t=>fL (X8D m t) fun l=>fL (List.append t [.bool false]) fun z=>some ⟨.vec k 1 0 m,(k,.vec m 1 z l)::own,ks⟩
           | s=>fL (X8D m t) fun l=>fL (List.append t [.bool false]) fun z=>some ⟨.vec k s 0 m,(k,.vec m s z l)::own,ks⟩
         | none=>none
       | false=>none
     | false=>none
   | _=>none
 | .mkmap ik=>match ik with
   | .one ik=>frC ks fun k ks=>some ⟨.map k,(k,.map ik [])::own,ks⟩
   | .str=>frC ks fun k ks=>some ⟨.map k,(k,.mapS [])::own,ks⟩
   | .pair _=>none
   | .st _=>none
 | .mget ik z e m x=>match gx m env with
   | some (.map k)=>match gx x env with
     | some x=>match lk own k with
       | some (.map b r)=>match ik with
         | .one i=>match kEq b i with
           | true=>match x with
             | .int v a=>match kEq v b with
               | true=>Y02 z e own ks (mfI r a)
               | false=>none
             | _=>none
           | false=>none
         | _=>none
       | some (.mapS r)=>match ik with
         | .str=>match x with
           | .str l d=>Y02 z e own ks (mfS r l d)
           | _=>none
         | _=>none
       | _=>none
     | none=>none
   | _=>none
 | .mput ik m x y=>match gx m env with
   | some (.map k)=>match gx x env with
     | some x=>match gx y env with
       | some y=>match Q69 y with
         | true=>match lk own k with
           | some (.map b r)=>match ik with
             | .one i=>match kEq b i with
               | true=>match x with
                 | .int v a=>match kEq v b with
                   | true=>fL (mpI r a y) fun p=>upC k (.map b p) own fun own'=>some ⟨.unit,own',ks⟩
                   | false=>none
                 | _=>none
               | false=>none
             | _=>none
           | some (.mapS r)=>match ik with
             | .str=>match x with
               | .str l d=>fL (mpS r l d y) fun p=>upC k (.mapS p) own fun own'=>some ⟨.unit,own',ks⟩
               | _=>none
             | _=>none
           | _=>none
         | false=>none
       | none=>none
     | none=>none
   | _=>none
 | .asl n s x F=>match gx x env with
   | some (.oel k u i j)=>match i with
     | 0=>match j with
       | 0=>match lk own k with
         | some (.vec D f z c)=>match Nat.beq s u with
           | true=>match Nat.beq s f with
             | true=>match Nat.ble n D with
               | true=>match cbd F env n n with
                 | some h=>Y6t (Q6K [k] own) fun own'=>some ⟨.fz h s false z c,own',ks⟩
                 | none=>none
               | false=>none
             | false=>none
           | false=>none
         | _=>none
       | _=>none
     | _=>none
   | _=>none
 | .cpy s x y=>match gx x env with
   | some (.vec k u w len)=>match gx y env with
     | some y=>match Y15 own s y with
       | some (m,B,g)=>match lk own k with
         | some (.vec n f z c)=>match Nat.beq s u with
           | true=>match Nat.beq s f with
             | true=>match Nat.ble m len with
               | true=>match Nat.ble (w+m) n with
                 | true=>match X1X z B with
                   | true=>match Nat.ble 1 m with
                     | true=>tk m g fun q=>stC c w q fun Q6c=>upC k (.vec n s z Q6c) own fun own'=>fN m fun E=>some ⟨.int .i64 (.ofNat E),own',ks⟩
                     | false=>none
                   | false=>none
                 | false=>none
               | false=>none
             | false=>none
           | false=>none
         | _=>none
       | none=>none
     | none=>none
   | _=>none
 | _=>none
theorem Q9v (l:List V) (v:V):J4j (l++[v])=v:=by
 induction l with
 | nil=>rfl
 | cons x r a =>
   cases r with
   | nil=>rfl
   | cons y r=>simpa[J4j] using a
theorem Q4S (z:List C) (m:Nat):(fun(_:Nat) j=>(C.vs z).getD j default)=J49 (C.vs (z.append [.bool false])) (C.vss (List.replicate m z)):=by
 funext i j;have e:C.vs (z.append [.bool false])=C.vs z++[default]:=by rw[C.vs_map,C.vs_map];simp[C.v];rfl
 simp only[J49,e,Q9v];simp only[Q6,C.vss_get,Yz];by_cases h:i<m
 . simp[h]
 . simp only[h,Xy,Option.map_none,Option.getD_none];by_cases a:j<(C.vs z).length
   . rw[Q3 a]
   . rw[Xt (by omega),Zo (by omega)];cases j-(C.vs z).length<;>simp
theorem X7G {o:XOp} {env:J1n} {own:J0B} {ks:Nat} {r:R} {K:V->Own->List Nat->Prop} (h:X4S o env own ks=some r) (f:K r.v.v (J0K r.o) (ksV r.k)):Q7h o (J3w env) (J0K own) (ksV ks) K:=by
 cases o with
 | mks s bytes zs x =>
   simp only[X4S] at h;split at h
   case h_2=>cases h
   rename_i k m q;split at h
   case h_2=>cases h
   rename_i D;split at h
   case h_2=>cases h
   rename_i I;split at h
   case h_2=>cases h
   rename_i X hz;have Q:=J76 zs hz;subst Q;simp only[Q7h];refine J0D q ?_;simp only[C.v];refine⟨m,rfl,Qq D,Qq I,?_⟩;obtain⟨h,L⟩:=J4E h;refine L _ ?_;unfold Y1W;split
   . split at h
     . split at h
       . rename_i hs _ _;rw[J5U,Q0n] at h;cases h;refine .cells ?_;have W:(C.vs [C.nilslice]).getD 0 default=.nilslice:=by simp[C.vs,C.v]
         rw[W];have e2:C.vs (List.replicate m C.nilslice)=List.replicate m .nilslice:=by rw[C.vs_map,List.map_replicate];simp[C.v]
         simp only[C.v,J0K,Qv,CB.b,e2] at f;exact f
       . rw[J5U,Q0n,J5U] at h;cases h;refine .vec ?_;rw[Q4S X m];simpa[C.v,J0K,CB.b] using f
     . rename_i w;exact(w rfl).elim
   . rename_i w;split at h
     . exact(w rfl).elim
     . rw[J5U,Q0n,J5U] at h;cases h;rw[Q4S X m];simpa[C.v,J0K,CB.b] using f
 | mkmap ik =>
   simp only[X4S] at h;split at h
   . obtain⟨h,L⟩:=J4E h;cases h;simp only[Q7h];exact L _ (by simpa[C.v,J0K,CB.b] using f)
   . obtain⟨h,L⟩:=J4E h;cases h;simp only[Q7h];exact L _ (by simpa[C.v,J0K,CB.b] using f)
   . cases h
   . cases h
 | mget ik z p m x =>
   simp only[X4S] at h;split at h
   case h_2=>cases h
   rename_i k H;split at h
   case h_2=>cases h
   rename_i x' q;simp only[Q7h];refine J0D H (J0D q ?_);split at h
   . rename_i O B c;split at h
     . rename_i i;split at h
       . rename_i hk;have:=J6U hk;subst this;split at h
         . rename_i P a;split at h
           . rename_i A;have:=J6U A;subst this;simp only[C.v,X1n,J0y c,CB.b,Jd,J73];have:=Q9O h f (X4C (ik:=P) B a);cases p<;>exact this
           . cases h
         . cases h
       . cases h
     . cases h
   . rename_i B c;split at h
     . split at h
       . rename_i l d;simp only[C.v,X1n,J0y c,CB.b,Jd,J73];have:=Q9O h f (X4B B l d);cases p<;>exact this
       . cases h
     . cases h
   . cases h
 | mput ik m x y =>
   simp only[X4S] at h;split at h
   case h_2=>cases h
   rename_i k H;split at h
   case h_2=>cases h
   rename_i x' q;split at h
   case h_2=>cases h
   rename_i M S;split at h
   case h_2=>cases h
   rename_i T;have t:M.v.kf2=true:=by rw[J8h];exact T
   simp only[Q7h];refine J0D H (J0D q (J0D S ?_));split at h
   . rename_i O B c;split at h
     . rename_i i;split at h
       . rename_i hk;have:=J6U hk;subst this;split at h
         . rename_i P a;split at h
           . rename_i A;have:=J6U A;subst this;rw[J5U] at h;obtain⟨Y,E,J⟩:=J7G h;cases E;simp only[C.v,X1n,J0y c,CB.b,Jd,J73,t];have:=J (fun own=>K (.raw (.tuple #[])) own (ksV ks)) (by simpa[C.v] using f);simp only[CB.b] at this;have e:=X4A (ik:=P) B a M;rw[e];exact this
           . cases h
         . cases h
       . cases h
     . cases h
   . rename_i B c;split at h
     . split at h
       . rename_i l d;rw[J5U] at h;obtain⟨Y,E,J⟩:=J7G h;cases E;simp only[C.v,X1n,J0y c,CB.b,Jd,J73,t];have:=J (fun own=>K (.raw (.tuple #[])) own (ksV ks)) (by simpa[C.v] using f);simp only[CB.b] at this;have e:=X4z B l d M;rw[e];exact this
       . cases h
     . cases h
   . cases h
 | mrng x=>cases h
 | mnxt x=>cases h
 | ment x=>cases h
 | gix g n s x=>cases h
 | mln x=>cases h
 | asl n s x hi =>
   simp only[X4S] at h;split at h
   case h_2=>cases h
   rename_i k s' i j q;split at h
   case h_2=>cases h
   split at h
   case h_2=>cases h
   split at h
   case h_2=>cases h
   rename_i n' N z F c;split at h
   case h_2=>cases h
   rename_i D;split at h
   case h_2=>cases h
   rename_i I;split at h
   case h_2=>cases h
   rename_i U;split at h
   case h_2=>cases h
   rename_i m H;rw[Q3S] at h;cases h;simp only[Q7h];refine J0D q ?_;simp only[C.v,J0y c,CB.b,D,I,U];refine J3p H ?_;rw[Q0N];simpa[C.v] using f
 | cpy s x y =>
   simp only[X4S] at h;split at h
   case h_2=>cases h
   rename_i k s' lo len q;split at h
   case h_2=>cases h
   rename_i M S;split at h
   case h_2=>cases h
   rename_i m z' u G;split at h
   case h_2=>cases h
   rename_i n N z F c;split at h
   case h_2=>cases h
   rename_i D;split at h
   case h_2=>cases h
   rename_i I;split at h
   case h_2=>cases h
   rename_i U;split at h
   case h_2=>cases h
   rename_i h4;split at h
   case h_2=>cases h
   rename_i hz;split at h
   case h_2=>cases h
   rename_i Z;have Z:=Qq Z;simp only[Q7h];refine J0D q (J0D S ?_);unfold vcpy;refine X0n G ?_;simp only[C.v,J0y c,CB.b,D,I];have W:=Qc D;subst W;refine⟨Qq U,Qq h4,?_⟩;rw[X1I] at h;split at h
   . rename_i h7;obtain⟨Q6c,g1,g2,g3,g4,g5⟩:=J6L _ _ _ _ _ h;obtain⟨Y,E,J⟩:=J7G g1;rw[J4Y] at E;cases E;have c:(u.take m).length=m:=by simp;omega
     have g3:=g3 (fun e=>by rw[e] at c;simp at c;omega);rw[c] at g3 g4;rw[Q2p g3 h7 (Q4w hz)];have:=J (fun own'=>K (.int .i64 m) own' (ksV ks)) (by simpa[C.v] using f);simp only[CB.b,g4] at this;exact this
   . cases h
def Q5X:C->Bool
 | .unit=>false
 | _=>true
noncomputable def X9N:C->Bool
 | .tup a=>J91 Q5X a
 | v=>Q5X v
theorem Q9r {c:C} {K:V->Prop} (h:Q5X c=true) (a:K c.v):X2D c.v K:=by
 cases c<;>simp only[Q5X,reduceCtorEq] at h<;>simp only[C.v] at a<;>simp only[C.v,X2D]<;>first|exact a|exact Q2w a
theorem Q9q:∀{l:List C} {K:List V->Prop},J91 Q5X l=true->K (C.vs l)->X8H (C.vs l) K
 | [],K,_,a=>by simpa[X8H,C.vs] using a
 | c::r,K,h,a=>by
   rw[Q2P,Qg] at h;simp only[C.vs,X8H];exact Q9r h.1 (Q9q h.2 (by simpa[C.vs] using a))
theorem X63 {c:C} {K:V->Prop} (h:X9N c=true) (d:K c.v):X2C c.v K:=by
 by_cases a:∃b,c=.tup b
 . obtain⟨b,rfl⟩:=a;simp only[C.v,X2C];exact Q9q h (by simpa[C.v] using d)
 . have e:Q5X c=true:=by
    cases c<;>first|exact h|exact(a ⟨_,rfl⟩).elim
   have:=Q9r e d;cases c<;>first|exact(a ⟨_,rfl⟩).elim|(simp only[C.v] at this ⊢;simp only[X2C];exact this)
abbrev J3c:=FuncId->List C->J0B->Nat->Option R
structure J93 (P:Program) (call:J3c):Prop where
 out:∀f args own ks r,call f args own ks=some r->J08 P f=true/\∀K:V->Own->List Nat->Prop,K r.v.v (J0K r.o) (ksV r.k)->J0N P f (C.vs args) (J0K own) (ksV ks) K
noncomputable def Q2u (call:J3c) (f:FuncId) (args:List C) (own:J0B) (ks:Nat):Option R:=match call f args own ks with
 | some r=>match X9N r.v with|true=>some r|false=>none
 | none=>none
noncomputable def o_p (b:Bool) (o:POp) (env:J1n) (own:J0B) (ks:Nat):Option R:=match o with
 | .slc s x d c mx a=>match mx with
   | none=>mkR (Y6z (match b with|true=>own|false=>[]) s x d c env) own ks
   | some mx=>match c with
     | some c=>mkR (X7I s x d c mx a env) own ks
     | none=>none
 | o=>mkR (J3R o env) own ks
noncomputable def X4w (sz:Option Nat) (x:X) (env:J1n) (own:J0B) (ks:Nat):Option R:=match gx x env with
 | some p=>mkR (X7O own sz p) own ks
 | none=>none
noncomputable def Q8U (sz:Nat) (a:X) (x:X) (env:J1n) (own:J0B) (ks:Nat):Option R:=match gx a env with
 | some p=>match gx x env with
   | some v=>Q3W own sz p v fun own'=>some ⟨.unit,own',ks⟩
   | none=>none
 | none=>none
noncomputable def X9C (x:X) (env:J1n) (own:J0B) (ks:Nat):Option R:=mkR (gx x env) own ks
noncomputable def X4x (call:J3c) (f:FuncId) (args:List X) (env:J1n) (own:J0B) (ks:Nat):Option R:=match gxs env args with
 | some a=>Q2u call f a own ks
 | none=>none
noncomputable def Q8V (call:J3c) (x:X) (args:List X) (env:J1n) (own:J0B) (ks:Nat):Option R:=match gx x env with
 | some (.fn (.func g) b cap)=>match gxs env args with
   | some a=>match b with
     | true=>fL (List.append cap a) fun l=>Q2u call g l own ks
     | false=>fL (List.append a cap) fun l=>Q2u call g l own ks
   | none=>none
 | _=>none
noncomputable def Q8W (a:List V) (c:List (Nat×Nat×X)) (env:J1n) (own:J0B) (ks:Nat):Option R:=match X8F a with
 | some b=>match X0F env c b with
   | some cs=>some ⟨.agg cs,own,ks⟩
   | none=>none
 | none=>none
noncomputable def Q8X (a:List V) (env:J1n) (own:J0B) (ks:Nat):Option R:=match X8F a with
 | some b=>frC ks fun k ks=>some ⟨.loc k 0,(k,.cells b)::own,ks⟩
 | none=>none
noncomputable def X9B (x:X) (env:J1n) (own:J0B) (ks:Nat):Option R:=match gx x env with
 | some v=>match Q5y v with
   | some cs=>frC ks fun k ks=>some ⟨.loc k 0,(k,.cells cs)::own,ks⟩
   | none=>none
 | none=>none
noncomputable def Q4I (s:Nat) (n:Nat) (xs:List X) (env:J1n) (own:J0B) (ks:Nat):Option R:=match gxs env xs with
 | some a=>match J91 Q69 a with
   | true=>match X0p s a with
     | some rs=>frC ks fun k ks=>some ⟨.vec k s 0 n,(k,.vec n s [] rs)::own,ks⟩
     | none=>none
   | false=>match X0E s a with
     | some cs=>frC ks fun k ks=>some ⟨.vec k s 0 n,(k,.cells cs)::own,ks⟩
     | none=>none
 | none=>none
noncomputable def X9D (s:Nat) (bytes:Nat) (x:X) (y:X) (env:J1n) (own:J0B) (ks:Nat):Option R:=match gx x env with
 | some a=>match gx y env with
   | some c=>X71 own ks s bytes a c
   | none=>none
 | none=>none
noncomputable def o_xt (o:XOp) (env:J1n) (own:J0B) (ks:Nat):Option R:=X4S o env own ks
noncomputable def Q4J (n:Nat) (z:V) (_:J1n) (own:J0B) (ks:Nat):Option R:=match X8G z with
 | some c=>frC ks fun k ks=>fL (X8D n [c]) fun l=>some ⟨.oel k 1 0 0,(k,.vec n 1 [c] l)::own,ks⟩
 | none=>none
theorem Q39 (z:C) (m:Nat):(fun(_ _:Nat)=>z.v)=J49 (C.vs [z]) (C.vss (List.replicate m [z])):=by
 funext i j;simp only[J49,C.vs,J4j];simp only[Q6,C.vss_get,Yz];by_cases h:i<m
 . cases j<;>simp[h,C.vs]
 . cases j<;>simp[h]
noncomputable def cop (call:J3c) (b:Bool) (op:SOp) (env:J1n) (own:J0B) (ks:Nat):Option R :=
 match op with
 | .p o=>o_p b o env own ks
 | .load sz x=>X4w sz x env own ks
 | .store sz a x=>Q8U sz a x env own ks
 | .asg x=>X9C x env own ks
 | .call f args=>X4x call f args env own ks
 | .callv x args=>Q8V call x args env own ks
 | .build c d=>Q8W c d env own ks
 | .alloc c=>Q8X c env own ks
 | .box x=>X9B x env own ks
 | .bslice s n xs=>Q4I s n xs env own ks
 | .app s bytes x y=>X9D s bytes x y env own ks
 | .xt o=>o_xt o env own ks
 | .clr _ _ _=>none
 | .alloca n z=>Q4J n z env own ks
def X8B (b:Bool) (P:Program) (op:SOp) (env:Env) (own:Own) (ks:List Nat) (K:V->Own->List Nat->Prop):Prop :=
 match b with
 | true=>Q4k P op env own ks K
 | false=>vop P op env own ks K
theorem J2i {b:Bool} {P:Program} {op:SOp} {env:Env} {own:Own} {ks:List Nat} {K:V->Own->List Nat->Prop} (c:∀s x d e mx a,op≠.p (.slc s x d e mx a)) (h:vop P op env own ks K):X8B b P op env own ks K:=by
 cases b with
 | false=>exact h
 | true =>
   show Q4k P op env own ks K;unfold Q4k;split
   . exact(c _ _ _ _ _ _ rfl).elim
   . exact h
theorem J8B {P:Program} {call:J3c} (c:J93 P call) {f:FuncId} {args:List C} {own:J0B} {ks:Nat} {r:R} {K:V->Own->List Nat->Prop} (h:Q2u call f args own ks=some r) (g:K r.v.v (J0K r.o) (ksV r.k)) :
 J08 P f=true/\J0N P f (C.vs args) (J0K own) (ksV ks) fun v own ks=>X2C v fun v=>K v own ks:=by
 unfold Q2u at h;split at h
 . rename_i i d;split at h
   . rename_i e;cases h;obtain⟨a,b⟩:=c.out _ _ _ _ _ d;exact⟨a,b _ (X63 e g)⟩
   . cases h
 . cases h
theorem X0s {P:Program} {call:J3c} (i:J93 P call) {b:Bool} {op:SOp} {env:J1n} {own:J0B} {ks:Nat} {r:R} {K:V->Own->List Nat->Prop} (h:cop call b op env own ks=some r) (d:K r.v.v (J0K r.o) (ksV r.k)) :
 X8B b P op (J3w env) (J0K own) (ksV ks) K:=by
 cases op with
 | p o =>
   simp only[cop,o_p] at h;split at h
   . split at h
     . rename_i s x L N mx A _;obtain⟨m,t,q⟩:=Q10 h;rw[t,q] at d;cases b with
       | true =>
         simp only[X8B,Q4k];exact X0o m d
       | false =>
         simp only[X8B,vop,J24];exact X0o (own:=[]) m d
     . split at h
       . obtain⟨m,t,q⟩:=Q10 h;rw[t,q] at d;cases b with
         | true=>simp only[X8B,Q4k];exact Q5r m d
         | false=>simp only[X8B,vop,J24];exact Q5r m d
       . cases h
   . rename_i G;obtain⟨m,t,q⟩:=Q10 h;rw[t,q] at d;refine J2i (fun s x L N mx A e=>?_) ?_
     . cases e;exact G _ _ _ _ _ _ rfl
     . simp only[vop];exact X3h m d
 | load sz x =>
   refine J2i (fun _ _ _ _ _ _ e=>by cases e) ?_;simp only[cop,X4w] at h;split at h
   . rename_i p hp;obtain⟨m,t,q⟩:=Q10 h;rw[t,q] at d;simp only[vop];exact J0D hp (X3q m d)
   . cases h
 | store sz a x =>
   refine J2i (fun _ _ _ _ _ _ e=>by cases e) ?_;simp only[cop,Q8U] at h;split at h
   . rename_i p hp;split at h
     . rename_i v E;obtain⟨W,S,Q⟩:=Q6N h;cases S;simp only[vop];exact J0D hp (J0D E (Q _ (by simpa[C.v] using d)))
     . cases h
   . cases h
 | asg x =>
   refine J2i (fun _ _ _ _ _ _ e=>by cases e) ?_;simp only[cop,X9C] at h;obtain⟨m,t,q⟩:=Q10 h;rw[t,q] at d;simp only[vop];exact J0D m d
 | call f args =>
   refine J2i (fun _ _ _ _ _ _ e=>by cases e) ?_;simp only[cop,X4x] at h;split at h
   . rename_i w j;simp only[vop];exact Q2l j (J8B i h d).2
   . cases h
 | callv x args =>
   refine J2i (fun _ _ _ _ _ _ e=>by cases e) ?_;simp only[cop,Q8V] at h;split at h
   . rename_i g T cap M;split at h
     . rename_i w j;simp only[vop];refine J0D M (Q2l j ?_);simp only[C.v,X5k];cases T with
       | true =>
         simp only at h;rw[J5U] at h;obtain⟨I,B⟩:=J8B i h d;refine⟨I,?_⟩;have e:C.vs (cap.append w)=C.vs cap++C.vs w:=by rw[C.vs_map,C.vs_map,C.vs_map];simp
         rw[e] at B;exact B
       | false =>
         simp only at h;rw[J5U] at h;obtain⟨I,B⟩:=J8B i h d;refine⟨I,?_⟩;have e:C.vs (w.append cap)=C.vs w++C.vs cap:=by rw[C.vs_map,C.vs_map,C.vs_map];simp
         rw[e] at B;exact B
     . cases h
   . cases h
 | build D U =>
   refine J2i (fun _ _ _ _ _ _ e=>by cases e) ?_;simp only[cop,Q8W] at h;split at h
   . rename_i J hz;have:=J76 D hz;subst this;split at h
     . rename_i cs l;cases h;simp only[vop];exact Q5x l (by simpa[C.v] using d)
     . cases h
   . cases h
 | alloc D =>
   refine J2i (fun _ _ _ _ _ _ e=>by cases e) ?_;simp only[cop,Q8X] at h;split at h
   . rename_i J hz;have:=J76 D hz;subst this;obtain⟨h,u⟩:=J4E h;cases h;simp only[vop];exact u _ (by simpa[C.v,J0K,CB.b] using d)
   . cases h
 | box x =>
   refine J2i (fun _ _ _ _ _ _ e=>by cases e) ?_;simp only[cop,X9B] at h;split at h
   . rename_i v E;split at h
     . rename_i cs l;obtain⟨h,u⟩:=J4E h;cases h;simp only[vop];exact J0D E (J3T l (u _ (by simpa[C.v,J0K,CB.b] using d)))
     . cases h
   . cases h
 | bslice s n xs =>
   refine J2i (fun _ _ _ _ _ _ e=>by cases e) ?_;simp only[cop,Q4I] at h;split at h
   . rename_i w j;simp only[vop];refine Q2l j ?_;rw[J3z J8h];split at h
     . rename_i hk;simp only[hk];split at h
       . rename_i rs F;obtain⟨h,u⟩:=J4E h;cases h;refine Q5s F (u _ ?_);simpa[C.v,J0K,CB.b,C.vs,Q4s] using d
       . cases h
     . rename_i hk;simp only[hk];split at h
       . rename_i cs l;obtain⟨h,u⟩:=J4E h;cases h;refine Q5w l (u _ ?_);simpa[C.v,J0K,CB.b] using d
       . cases h
   . cases h
 | app s bytes x y =>
   refine J2i (fun _ _ _ _ _ _ e=>by cases e) ?_;simp only[cop,X9D] at h;split at h
   . rename_i a O;split at h
     . rename_i c H;simp only[vop];exact J0D O (J0D H (Q7u Q6w (X3H h d)))
     . cases h
   . cases h
 | xt o =>
   refine J2i (fun _ _ _ _ _ _ e=>by cases e) ?_;simp only[cop,o_xt] at h;simp only[vop];exact X7G h d
 | clr s D x=>cases h
 | alloca n z =>
   refine J2i (fun _ _ _ _ _ _ e=>by cases e) ?_;simp only[cop,Q4J] at h;split at h
   . rename_i c H;have:=Q3x H;subst this;obtain⟨h,u⟩:=J4E h;rw[J5U,Q0n] at h;cases h;simp only[vop];refine u _ ?_;rw[Q39 c n];simpa[C.v,J0K,CB.b] using d
   . cases h
end Go.Eng
