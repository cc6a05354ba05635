import Derived.Test.YtlpfphlbghdokaaGreatDoorEvA
namespace Go.Eng
open Go.IntWalk
noncomputable def gx (x:X) (env:J1d):Option C:=match x with | .t n=>lk env n | .k v=>ofV v
theorem J0A {x:X} {env:J1d} {c:C} {K:V->Prop} (h:gx x env=some c) (hK:K c.v):x.get (J2Y env) K:=by
 cases x with
 | t n=>simp only[gx] at h;simp only[X.get,J1Q h];exact hK
 | k v=>simp only[gx] at h;rw[X1A v h] at hK;exact hK
noncomputable def gxs (env:J1d) (l:List X):Option (List C):=@List.rec X (fun _=>Option (List C)) (some []) (fun x _ ih=>match gx x env with
 | some c=>match ih with|some l=>some (c::l)|none=>none
 | none=>none) l
theorem X0b (env:J1d) (x:X) (r:List X):gxs env (x::r)=match gx x env with
 | some c=>match gxs env r with|some l=>some (c::l)|none=>none
 | none=>none:=rfl
theorem Q0E {env:J1d}:∀{xs:List X} {cs:List C} {K:List V->Prop},gxs env xs=some cs->K (C.vs cs)->X.gets (J2Y env) xs K
 | [],cs,K,h,hK=>by have h:some []=some cs:=h;cases h;simpa[C.vs,X.gets] using hK
 | x::r,cs,K,h,hK=>by
   rw[X0b] at h;split at h
   . rename_i c hc;split at h
     . rename_i l hl;cases h;exact J0A hc (Q0E hl (by simpa[C.vs] using hK))
     . cases h
   . cases h
theorem Q0V {b:Bool} {K:V->Prop} (hK:K (.bool b)):Q1k b K:=by
 cases b
 . exact⟨fun h=>(by cases h),fun _=>hK⟩
 . exact⟨fun _=>hK,fun h=>(by cases h)⟩
noncomputable def Q3J (b:Bool):Option C:=fB b fun b=>some (.bool b)
theorem J2f {b:Bool} {c:C} {K:V->Prop} (h:Q3J b=some c) (hK:K c.v):Q1k b K:=by
 simp only[Q3J,Y0D,Option.some.injEq] at h;subst h;exact Q0V (by simpa[C.v] using hK)
def kEq (a b:IntKind):Bool:=Nat.beq a.ctorIdx b.ctorIdx
theorem J5M {a b:IntKind} (h:kEq a b=true):a=b:=by cases a<;>cases b<;>first|rfl|(exact absurd h (by decide))
def mxN:IntKind->Nat
 | .i8=>127 | .i16=>32767 | .i32=>2147483647 | .i64=>9223372036854775807
 | .u8=>255 | .u16=>65535 | .u32=>4294967295 | .u64=>18446744073709551615
def wrC (k:IntKind) (n:Int):Int:=match n with
 | .ofNat m=>match Nat.ble m (mxN k) with|true=>.ofNat m|false=>k.wrap (.ofNat m)
 | .negSucc m=>k.wrap (.negSucc m)
theorem X47 (k:IntKind) (n:Int):wrC k n=k.wrap n:=by
 unfold wrC;split
 . split
   . rename_i h;have h:=Nat.le_of_ble_eq_true h;symm;rw[Int.ofNat_eq_natCast];cases k<;>simp only[mxN] at h
     . exact i8_in _ (by omega)
     . exact i16_in _ (by omega)
     . exact i32_in _ (by omega)
     . exact i64_in _ (by omega)
     . exact u8_in _ (by omega)
     . exact u16_in _ (by omega)
     . exact u32_in _ (by omega)
     . exact u64_in _ (by omega)
   . rfl
 . rfl
noncomputable def arC (k:IntKind) (n:Int):Option C:=fI (wrC k n) fun m=>some (.int k m)
theorem J7y {k:IntKind} {n:Int} {c:C} {K:V->Prop} (h:arC k n=some c) (hK:K c.v):Ar k n fun m=>K (.int k m):=by
 simp only[arC,X3X,X47,Option.some.injEq] at h;subst h;exact⟨_,rfl,by simpa[C.v] using hK⟩
noncomputable def svC (k:IntKind) (n:Int):Option C:=fI n fun m=>some (.int k m)
theorem J6t {k:IntKind} {n:Int} {c:C} {K:V->Prop} (h:svC k n=some c) (hK:K c.v):Sv n fun m=>K (.int k m):=by
 simp only[svC,X3X,Option.some.injEq] at h;subst h;exact⟨_,rfl,by simpa[C.v] using hK⟩
def ieq:Int->Int->Bool
 | .ofNat a,.ofNat b=>Nat.beq a b
 | .negSucc a,.negSucc b=>Nat.beq a b
 | _,_=>false
theorem J4V (a b:Int):ieq a b=(a == b):=by
 rw[Bool.eq_iff_iff,beq_iff_eq];cases a<;>cases b<;>simp[ieq]<;>omega
def ile:Int->Int->Bool
 | .ofNat a,.ofNat b=>Nat.ble a b
 | .negSucc a,.negSucc b=>Nat.ble b a
 | .negSucc _,.ofNat _=>true
 | .ofNat _,.negSucc _=>false
theorem J5N (a b:Int):ile a b=decide (a<=b):=by
 rw[Bool.eq_iff_iff,decide_eq_true_eq];cases a<;>cases b<;>simp[ile]<;>omega
noncomputable def Y0N (op:BinOp) (k:IntKind) (a b:Int):Option C :=
 match op with
 | .add=>arC k (Int.add a b)
 | .sub=>arC k (Int.sub a b)
 | .mul=>arC k (Int.mul a b)
 | .quo=>match ieq b 0 with|true=>none|false=>arC k (a.tdiv b)
 | .rem=>match ieq b 0 with|true=>none|false=>svC k (a.tmod b)
 | .and=>svC k (J4a .and k a b)
 | .or=>svC k (J4a .or k a b)
 | .xor=>svC k (J4a .xor k a b)
 | .andNot=>svC k (J4a .andNot k a b)
 | .eql=>Q3J (ieq a b)
 | .neq=>Q3J (!(ieq a b))
 | .lss=>Q3J (!(ile b a))
 | .leq=>Q3J (ile a b)
 | .gtr=>Q3J (!(ile a b))
 | .geq=>Q3J (ile b a)
 | _=>none
theorem X4j {bt:BT} {op:BinOp} {k:IntKind} {a b:Int} {c:C} {K:V->Prop} (h:Y0N op k a b=some c) (hK:K c.v):J9E bt op (.int k a) (.int k b) K:=by
 unfold Y0N at h;cases op<;>simp only[J9E,decide_true]<;>simp only at h
 case add=>exact J7y h hK
 case sub=>exact J7y h hK
 case mul=>exact J7y h hK
 case quo =>
  split at h
  . cases h
  . rename_i hb;rw[J4V] at hb;exact⟨by simpa using hb,J7y h hK⟩
 case rem =>
  split at h
  . cases h
  . rename_i hb;rw[J4V] at hb;exact⟨by simpa using hb,J6t h hK⟩
 case and=>exact J6t h hK
 case or=>exact J6t h hK
 case xor=>exact J6t h hK
 case andNot=>exact J6t h hK
 case eql=>rw[J4V] at h;exact J2f h hK
 case neq=>rw[J4V] at h;exact J2f h hK
 case lss =>
  rw[J5N] at h;rw[show decide (a<b)=!decide (b<=a) by rw[Bool.eq_iff_iff];simp];exact J2f h hK
 case leq=>rw[J5N] at h;exact J2f h hK
 case gtr =>
  rw[J5N] at h;rw[show decide (a > b)=!decide (a<=b) by rw[Bool.eq_iff_iff];simp];exact J2f h hK
 case geq =>
  rw[J5N] at h;exact J2f h hK
 case shl=>cases h
 case shr=>cases h
noncomputable def X7a (l c:Nat):Option C:=fN l fun l=>fN c fun c=>some (.str l c)
theorem Q5F {l d:Nat} {c:C} (h:X7a l d=some c):c.v=.str (J0q l d):=by
 simp only[X7a,J4c,Option.some.injEq] at h;subst h;simp[C.v]
noncomputable def X2h (op:BinOp) (k:IntKind) (a:Int) (k':IntKind) (b:Int):Option C:=match op with
 | .shl=>match b with | .ofNat n=>arC k (a*2 ^ (min n k.bits)) | .negSucc _=>none
 | .shr=>match b with | .ofNat n=>svC k (a.fdiv (2 ^ (min n k.bits))) | .negSucc _=>none
 | op=>match kEq k k' with|true=>Y0N op k a b|false=>none
noncomputable def X6U (op:BinOp) (k:IntKind) (a:Int) (y:C):Option C:=match y with
 | .int k' b=>X2h op k a k' b
 | _=>none
noncomputable def X2g (op:BinOp) (l c l' c':Nat):Option C:=match op with
 | .eql=>Q3J (eqS l c l' c')
 | .neq=>Q3J (!(eqS l c l' c'))
 | .add=>match Nat.ble (l+l') 9223372036854775807 with
   | true=>X7a (l+l') (Nat.add (Nat.mod c (Nat.pow 256 l)) (Nat.mul (Nat.pow 256 l) c'))
   | false=>none
 | _=>none
noncomputable def X6S (op:BinOp) (l c:Nat) (y:C):Option C:=match y with
 | .str l' c'=>X2g op l c l' c'
 | _=>none
noncomputable def X2i (bt:BT) (op:BinOp) (a:Bool) (y:C):Option C:=match y with
 | .bool b=>match bt with
   | .bool=>match op with
     | .eql=>Q3J (a == b)
     | .neq=>Q3J (!(a == b))
     | _=>none
   | _=>none
 | _=>none
def X05 (bt:BT) (op:BinOp) (n:Nat) (y:C):Option C:=match n with
 | 0=>none
 | _+1=>match y with
   | .nilslice=>match bt with
     | .slc=>match op with
       | .eql=>some (.bool false)
       | .neq=>some (.bool true)
       | _=>none
     | _=>none
   | _=>none
def X6T (bt:BT) (op:BinOp) (y:C):Option C:=match y with
 | .nilslice=>match bt with
   | .slc=>match op with
     | .eql=>some (.bool true)
     | .neq=>some (.bool false)
     | _=>none
   | _=>none
 | _=>none
def X7s (b:Bool) (o:Option Bool):Option Bool:=match o with
 | some t=>some (b&&t)
 | none=>none
theorem J7z {b t:Bool} {o:Option Bool} (h:X7s b o=some t):∃u,o=some u/\t=(b&&u):=by
 cases o with
 | none=>cases h
 | some u=>exact⟨u,rfl,(Option.some.inj h).symm⟩
noncomputable def Q3B:List Lf->List C->List C->Option Bool
 | [],[],[]=>some true
 | .int::ls,.int k a::r,.int k' b::r'=>match kEq k k' with
   | true=>X7s (ieq a b) (Q3B ls r r')
   | false=>none
 | .bool::ls,.bool a::r,.bool b::r'=>X7s (a == b) (Q3B ls r r')
 | .str::ls,.str l c::r,.str l' c'::r'=>X7s (eqS l c l' c') (Q3B ls r r')
 | _,_,_=>none
theorem J7e:∀(ls:List Lf) (xs ys:List C) (t:Bool) (K:Bool->Prop),Q3B ls xs ys=some t->K t->J6e ls (C.vs xs) (C.vs ys) K
 | [],[],[],t,K,h,hK=>by
   simp only[Q3B,Option.some.injEq] at h;subst h;simpa only[C.vs,J6e] using hK
 | .int::ls,.int k a::r,.int k' b::r',t,K,h,hK=>by
   simp only[Q3B] at h;split at h
   . rename_i hk;have:=J5M hk;subst this;obtain⟨u,e1,rfl⟩:=J7z h;simp only[C.vs,C.v,J6e,decide_true];exact J7e ls r r' u _ e1 (by rw[<- J4V];exact hK)
   . cases h
 | .bool::ls,.bool a::r,.bool b::r',t,K,h,hK=>by
   simp only[Q3B] at h;obtain⟨u,e1,rfl⟩:=J7z h;simp only[C.vs,C.v,J6e];exact J7e ls r r' u _ e1 hK
 | .str::ls,.str l c::r,.str l' c'::r',t,K,h,hK=>by
   simp only[Q3B] at h;obtain⟨u,e1,rfl⟩:=J7z h;simp only[C.vs,C.v,J6e];exact J7e ls r r' u _ e1 (by rw[<- Q3A];exact hK)
 | [],_::_,_,_,_,h,_=>by simp[Q3B] at h
 | [],[],_::_,_,_,h,_=>by simp[Q3B] at h
 | _::_,[],_,_,_,h,_=>by simp[Q3B] at h
 | _::_,_::_,[],_,_,h,_=>by simp[Q3B] at h
noncomputable def X6V (bt:BT) (op:BinOp) (xs:List C) (y:C):Option C:=match y with
 | .agg ys=>match bt with
   | .flat ls=>match op with
     | .eql=>match Q3B ls xs ys with|some t=>Q3J t|none=>none
     | .neq=>match Q3B ls xs ys with|some t=>Q3J (!t)|none=>none
     | _=>none
   | _=>none
 | _=>none
noncomputable def Y0P (bt:BT) (op:BinOp) (x y:C):Option C :=
 match x with
 | .agg xs=>X6V bt op xs y
 | .int k a=>X6U op k a y
 | .str l c=>X6S op l c y
 | .bool a=>X2i bt op a y
 | .fz n _ _ _ _=>X05 bt op n y
 | .vec _ _ _ n=>X05 bt op n y
 | .nilslice=>X6T bt op y
 | _=>none
theorem X4q {bt:BT} {op:BinOp} {x y c:C} {K:V->Prop} (h:Y0P bt op x y=some c) (hK:K c.v):J9E bt op x.v y.v K:=by
 unfold Y0P at h;split at h
 . unfold X6V at h;split at h
   . split at h
     . simp only[C.v,J9E];split at h
       . split at h
         . rename_i t ht;exact J7e _ _ _ t _ ht (J2f h hK)
         . cases h
       . split at h
         . rename_i t ht;exact J7e _ _ _ t _ ht (J2f h hK)
         . cases h
       . cases h
     . cases h
   . cases h
 . unfold X6U at h;split at h
   . rename_i k a _ k' b;unfold X2h at h;simp only[C.v];split at h
     . split at h
       . rename_i n;simp only[J9E];refine⟨by simp,?_⟩;have e:(Int.ofNat n).toNat=n:=rfl;rw[e];exact J7y h hK
       . cases h
     . split at h
       . rename_i n;simp only[J9E];refine⟨by simp,?_⟩;have e:(Int.ofNat n).toNat=n:=rfl;rw[e];exact J6t h hK
       . cases h
     . split at h
       . rename_i hk;have:=J5M hk;subst this;exact X4j h hK
       . cases h
   . cases h
 . unfold X6S at h;split at h
   . unfold X2g at h;simp only[C.v,J9E];split at h
     . rw[Q3A] at h;exact J2f h hK
     . rw[Q3A] at h;exact J2f h hK
     . split at h
       . rename_i l c _ l' c' hle;rw[J1r,J1r];refine⟨fun _=>?_,fun hf=>?_⟩
         . rw[Q2l];rw[Q5F h] at hK;exact hK
         . have:=Nat.le_of_ble_eq_true hle;simp[this] at hf
       . cases h
     . cases h
   . cases h
 . unfold X2i at h;split at h
   . split at h
     . split at h
       . simp only[C.v,J9E];exact J2f h hK
       . simp only[C.v,J9E];exact J2f h hK
       . cases h
     . cases h
   . cases h
 . unfold X05 at h;split at h
   . cases h
   . split at h
     . split at h
       . split at h
         . cases h;simp only[C.v,J9E];exact⟨fun e=>(by cases e),fun _=>(by simpa[C.v] using hK)⟩
         . cases h;simp only[C.v,J9E];exact⟨fun e=>(by cases e),fun _=>(by simpa[C.v] using hK)⟩
         . cases h
       . cases h
     . cases h
 . unfold X05 at h;split at h
   . cases h
   . split at h
     . split at h
       . split at h
         . cases h;simp only[C.v,J9E];exact⟨fun e=>(by cases e),fun _=>(by simpa[C.v] using hK)⟩
         . cases h;simp only[C.v,J9E];exact⟨fun e=>(by cases e),fun _=>(by simpa[C.v] using hK)⟩
         . cases h
       . cases h
     . cases h
 . unfold X6T at h;split at h
   . split at h
     . split at h
       . cases h;simp only[C.v,J9E];simpa[C.v] using hK
       . cases h;simp only[C.v,J9E];simpa[C.v] using hK
       . cases h
     . cases h
   . cases h
 . cases h
noncomputable def cbd (x:Option X) (env:J1d) (d n:Nat):Option Nat:=match x with
 | none=>some d
 | some x=>match gx x env with
   | some (.int _ (.ofNat m))=>match Nat.ble m n with|true=>some m|false=>none
   | _=>none
theorem J2T {x:Option X} {env:J1d} {d n m:Nat} {K:Nat->Prop} (h:cbd x env d n=some m) (hK:K m):bdK x (J2Y env) d n K:=by
 unfold cbd at h;split at h
 . cases h;exact hK
 . split at h
   . rename_i hx;split at h
     . rename_i hb;cases h;refine J0A hx ?_;simp only[C.v];exact⟨_,rfl,Nat.le_of_ble_eq_true hb,hK⟩
     . cases h
   . cases h
theorem Q1E (l:Nat) (z:List V) (rows:List (List V)):J0l l (J4i z rows)=J4i z (rows.drop l):=by
 funext i j;rw[J0E];simp[J4i,List.getD_eq_getElem?_getD]
theorem J2M (l:Nat) (z:List C) (rows:List (List C)):J0l l (J4i (C.vs z) (C.vss rows))=J4i (C.vs z) (C.vss (rows.drop l)):=by
 rw[Q1E,C.vss_map,C.vss_map,List.map_drop]
noncomputable def Y0H (own:J0z) (s:Nat) (x:X) (lo hi:Option X) (env:J1d):Option C :=
 match gx x env with
 | some (.fz n s' J2x z rows)=>match Nat.beq s s' with
   | true=>match cbd hi env n n with
     | some h=>match cbd lo env 0 h with
       | some l=>fN (h-l) fun m=>fH (dr rows l) fun q=>some (.fz m s (match hi with|none=>J2x|some _=>false) z q)
       | none=>none
     | none=>none
   | false=>none
 | some .nilslice=>match cbd hi env 0 0 with
   | some h=>match cbd lo env 0 h with
     | some _=>some .nilslice
     | none=>none
   | none=>none
 | some (.vec k s' lo0 len)=>match Nat.beq s s' with
   | true=>match lk own k with
     | some (.vec n _ _ _)=>match Nat.ble (lo0+len) n with
       | true=>match cbd hi env len (n-lo0) with
         | some h=>match cbd lo env 0 h with
           | some l=>fN (lo0+l) fun a=>fN (h-l) fun b=>some (.vec k s a b)
           | none=>none
         | none=>none
       | false=>none
     | _=>match cbd hi env len len with
        | some h=>match cbd lo env 0 h with
          | some l=>fN (lo0+l) fun a=>fN (h-l) fun b=>some (.vec k s a b)
          | none=>none
        | none=>none
   | false=>none
 | _=>none
theorem Q7V {own:J0z} {s:Nat} {x:X} {lo hi:Option X} {same:Bool} {env:J1d} {c:C} {K:V->Prop} (h:Y0H own s x lo hi env=some c) (hK:K c.v):X2t (J0I own) s x lo hi none same (J2Y env) K:=by
 unfold Y0H at h;unfold X2t;split at h
 . rename_i n s' J2x z rows hx;refine J0A hx ?_;simp only[C.v];split at h
   . rename_i hs;simp only[hs];split at h
     . rename_i hh e1;split at h
       . rename_i ll e2;refine J2T e1 (J2T e2 ?_);simp only[J4c,X0j,J9l,Option.some.injEq] at h;subst h;rw[J2M];simp only[C.v] at hK;exact hK
       . cases h
     . cases h
   . cases h
 . rename_i hx;refine J0A hx ?_;simp only[C.v];split at h
   . rename_i hh e1;split at h
     . rename_i ll e2;cases h;exact J2T e1 (J2T e2 (by simpa[C.v] using hK))
     . cases h
   . cases h
 . rename_i k s' lo0 len hx;refine J0A hx ?_;simp only[C.v];split at h
   . rename_i hs;simp only[hs];split at h
     . rename_i n s'' z rows hl;rw[J0v hl];simp only[CB.b];split at h
       . rename_i hle;refine⟨fun _=>?_,fun hf=>by rw[hle] at hf;cases hf⟩;split at h
         . rename_i hh e1;split at h
           . rename_i ll e2;refine J2T e1 (J2T e2 ?_);simp only[J4c,Option.some.injEq] at h;subst h;simpa[C.v] using hK
           . cases h
         . cases h
       . cases h
     . rename_i hne;have key:∀{A:Nat->Nat->(Nat->Nat->V)->Prop} {B:Prop},B->(match look (J0I own) k with|some (.vec n s f)=>A n s f|_=>B):=by
        intro A B hB;rw[J0I,J2n,<- J7K];cases hl:lk own k with
        | none=>exact hB
        | some b=>cases b with
          | vec n s z rows=>exact(hne n s z rows hl).elim
          | _=>exact hB
       refine key ?_;split at h
       . rename_i hh e1;split at h
         . rename_i ll e2;refine J2T e1 (J2T e2 ?_);simp only[J4c,Option.some.injEq] at h;subst h;simpa[C.v] using hK
         . cases h
       . cases h
   . cases h
 . cases h
noncomputable def X4a (s:Nat) (x:X) (lo:Option X) (hi mx:X) (same:Bool) (env:J1d):Option C :=
 match gx x env with
 | some (.fz n s' _ z rows)=>match Nat.beq s s' with
   | true=>match cbd (some mx) env n n with
     | some m=>match cbd (some hi) env n m with
       | some h=>match cbd lo env 0 h with
         | some l=>fN (h-l) fun m=>fH (dr rows l) fun q=>some (.fz m s same z q)
         | none=>none
       | none=>none
     | none=>none
   | false=>none
 | _=>none
theorem Q3E {own:Own} {s:Nat} {x:X} {lo:Option X} {hi mx:X} {same:Bool} {env:J1d} {c:C} {K:V->Prop} (h:X4a s x lo hi mx same env=some c) (hK:K c.v):X2t own s x lo (some hi) (some mx) same (J2Y env) K:=by
 unfold X4a at h;unfold X2t;split at h
 . rename_i n s' J2x z rows hx;refine J0A hx ?_;simp only[C.v];split at h
   . rename_i hs;simp only[hs];split at h
     . rename_i m e0;split at h
       . rename_i hh e1;split at h
         . rename_i ll e2;refine J2T e0 (J2T e1 (J2T e2 ?_));simp only[J4c,X0j,J9l,Option.some.injEq] at h;subst h;rw[J2M];simp only[C.v] at hK;exact hK
         . cases h
       . cases h
     . cases h
   . cases h
 . cases h
def cix (i:Int) (n:Nat):Option Nat:=match i with
 | .ofNat m=>match Nat.blt m n with|true=>some m|false=>none
 | .negSucc _=>none
theorem J7p {i:Int} {n m:Nat} {K:Nat->Prop} (h:cix i n=some m) (hK:K m):Ix i n K:=by
 unfold cix at h;split at h
 . split at h
   . rename_i hb;cases h;exact⟨m,rfl,Nat.le_of_ble_eq_true hb,hK⟩
   . cases h
 . cases h
theorem J8Q {α:Type}:∀(l:List α) (o n:Nat) (K:List α->Prop),n<=(l.drop o).length->K ((l.drop o).take n)->J7G l o n K
 | l,o,0,K,_,h=>by cases l<;>cases o<;>simpa[J7G] using h
 | [],o,n+1,K,hl,h=>by simp at hl
 | x::r,0,n+1,K,hl,h=>by
   simp only[J7G];exact J8Q r 0 n _ (by simpa using hl) (by simpa using h)
 | x::r,o+1,n+1,K,hl,h=>by
   simp only[J7G];exact J8Q r o (n+1) _ (by simpa using hl) (by simpa using h)
noncomputable def Q2q (l:List C) (o n:Nat):Option C:=tk n (dr l o) fun q=>some (.agg q)
theorem Q8E {l:List C} {o n:Nat} {c:C} {K:V->Prop} (h:Q2q l o n=some c) (hK:K c.v):J7G (C.vs l) o n fun l=>K (.agg l):=by
 unfold Q2q at h;rw[Q9q,J9l] at h;split at h
 . rename_i hl;cases h;refine J8Q _ _ _ _ (by simpa[C.vs_map] using hl) ?_;simp only[C.v,C.vs_map] at hK;simpa[C.vs_map] using hK
 . cases h
theorem Q6s {l:List C} {i:Nat} {c:C} (h:nt l i=some c):nth (C.vs l) i=some c.v:=by
 rw[Q9N,J5i] at h;rw[J5i,C.vs_get,h];rfl
noncomputable def p_mv (x:X) (env:J1d):Option C:=gx x env
noncomputable def X5G (off:Nat) (x:X) (env:J1d):Option C:=match gx x env with
 | some (.loc k o)=>fN (o+off) fun m=>some (.loc k m)
 | some (.oel k s i j)=>fN (j+off) fun m=>some (.oel k s i m)
 | some (.fe n s z rows i j)=>fN (j+off) fun m=>some (.fe n s z rows i m)
 | _=>none
noncomputable def Q23 (x:X) (env:J1d):Option C:=match gx x env with
 | some (.loc k o)=>some (.loc k o)
 | some (.oel k s i j)=>some (.oel k s i j)
 | some (.fe n s z rows i j)=>some (.fe n s z rows i j)
 | some (.iface t v)=>some (.iface t v)
 | _=>none
noncomputable def X5I (bt:BT) (op:BinOp) (x:X) (y:X) (env:J1d):Option C:=match gx x env with
 | some a=>match gx y env with
   | some b=>Y0P bt op a b
   | none=>none
 | none=>none
noncomputable def X1v (c:X) (a:X) (b:X) (env:J1d):Option C:=match gx c env with
 | some (.bool true)=>gx a env
 | some (.bool false)=>gx b env
 | _=>none
noncomputable def X1u (x:X) (lo:Option X) (hi:Option X) (env:J1d):Option C:=match gx x env with
 | some (.str l c)=>match cbd hi env l l with
   | some h=>match cbd lo env 0 h with
     | some a=>X7a (h-a) (Nat.mod (Nat.div c (Nat.pow 256 a)) (Nat.pow 256 (h-a)))
     | none=>none
   | none=>none
 | _=>none
noncomputable def Q6i (x:X) (i:X) (env:J1d):Option C:=match gx x env with
 | some (.str l c)=>match gx i env with
   | some (.int _ i)=>match cix i l with
     | some m=>fN (Nat.mod (Nat.div c (Nat.pow 256 m)) 256) fun b=>some (.int .u8 (.ofNat b))
     | none=>none
   | _=>none
 | _=>none
noncomputable def X1w (f:Fn) (b:Bool) (cap:List X) (env:J1d):Option C:=match gxs env cap with
 | some l=>some (.fn f b l)
 | none=>none
noncomputable def p_un (op:UnOp) (x:X) (env:J1d):Option C:=match gx x env with
 | some (.bool b)=>match op with
   | .not=>match b with|true=>some (.bool false)|false=>some (.bool true)
   | _=>none
 | some (.int k n)=>match op with
   | .neg=>arC k (0-n)
   | .xor=>svC k (J4a .xor k (if k.signed then -1 else k.max) n)
   | _=>none
 | _=>none
noncomputable def Q6h (k:IntKind) (x:X) (env:J1d):Option C:=match gx x env with
 | some (.int _ n)=>arC k n
 | _=>none
noncomputable def X5C (off:Nat) (sz:Option Nat) (x:X) (env:J1d):Option C:=match gx x env with
 | some (.agg cs)=>match sz with
   | none=>nt cs off
   | some n=>Q2q cs off n
 | _=>none
noncomputable def X5E (s:Nat) (x:X) (i:X) (env:J1d):Option C:=match gx x env with
 | some (.fz n s' _ z rows)=>match Nat.beq s s' with
   | true=>match gx i env with
     | some (.int _ i)=>match cix i n with
       | some m=>some (.fe n s z rows m 0)
       | none=>none
     | _=>none
   | false=>none
 | some (.vec k s' lo len)=>match Nat.beq s s' with
   | true=>match gx i env with
     | some (.int _ i)=>match cix i len with
       | some m=>fN (lo+m) fun m=>some (.oel k s m 0)
       | none=>none
     | _=>none
   | false=>none
 | _=>none
noncomputable def X5F (n:Nat) (s:Nat) (x:X) (i:X) (env:J1d):Option C:=match gx x env with
 | some (.loc k o)=>match gx i env with
   | some (.int _ i)=>match cix i n with
     | some m=>fN (o+m*s) fun m=>some (.loc k m)
     | none=>none
   | _=>none
 | some (.fe n' s' z rows i0 j0)=>match gx i env with
   | some (.int _ i)=>match cix i n with
     | some m=>fN (j0+m*s) fun m=>some (.fe n' s' z rows i0 m)
     | none=>none
   | _=>none
 | some (.oel k s' i0 j0)=>match Nat.beq s s',i0,j0 with
   | true,0,0=>match gx i env with
     | some (.int _ i)=>match cix i n with
       | some m=>some (.oel k s m 0)
       | none=>none
     | _=>none
   | _,_,_=>match gx i env with
     | some (.int _ i)=>match cix i n with
       | some m=>fN (j0+m*s) fun j=>some (.oel k s' i0 j)
       | none=>none
     | _=>none
 | _=>none
noncomputable def X5H (x:X) (i:Nat) (env:J1d):Option C:=match gx x env with
 | some (.tup vs)=>nt vs i
 | _=>none
noncomputable def X5D (x:X) (env:J1d):Option C:=match gx x env with
 | some (.fz n _ _ _ _)=>some (.int .i64 (.ofNat n))
 | some (.vec _ _ _ n)=>some (.int .i64 (.ofNat n))
 | some .nilslice=>some (.int .i64 0)
 | _=>none
noncomputable def X1x (x:X) (env:J1d):Option C:=match gx x env with
 | some (.str l _)=>some (.int .i64 (.ofNat l))
 | _=>none
noncomputable def p_mn (x:X) (y:X) (env:J1d):Option C:=match gx x env with
 | some (.int k a)=>match gx y env with
   | some (.int _ b)=>match ile a b with
     | true=>some (.int k a)
     | false=>some (.int k b)
   | _=>none
 | _=>none
noncomputable def p_mx (x:X) (y:X) (env:J1d):Option C:=match gx x env with
 | some (.int k a)=>match gx y env with
   | some (.int _ b)=>match ile b a with
     | true=>some (.int k a)
     | false=>some (.int k b)
   | _=>none
 | _=>none
noncomputable def J3f (o:POp) (env:J1d):Option C :=
 match o with
 | .slc _ _ _ _ _ _=>none
 | .mv x=>p_mv x env
 | .fld off x=>X5G off x env
 | .nilchk x=>Q23 x env
 | .bin bt op x y=>X5I bt op x y env
 | .pick c a b=>X1v c a b env
 | .slcs x lo hi=>X1u x lo hi env
 | .ixstr x i=>Q6i x i env
 | .mkfn f b cap=>X1w f b cap env
 | .un op x=>p_un op x env
 | .toint k x=>Q6h k x env
 | .sel off sz x=>X5C off sz x env
 | .ixs s x i=>X5E s x i env
 | .ixa n s x i=>X5F n s x i env
 | .ext x i=>X5H x i env
 | .len x=>X5D x env
 | .lens x=>X1x x env
 | .mn x y=>p_mn x y env
 | .mx x y=>p_mx x y env
theorem X0A {o:POp} {env:J1d} {c:C} {K:V->Prop} (h:J3f o env=some c) (hK:K c.v):J2y o (J2Y env) K:=by
 cases o with
 | slc=>cases h
 | mv x=>simp only[J3f,p_mv] at h;exact J0A h hK
 | fld off x =>
   simp only[J3f,X5G] at h;simp only[J2y];split at h<;>first
    | (cases h;done)
    | (rename_i hx
       refine J0A hx ?_;simp only[C.v];simp only[J4c,Option.some.injEq] at h;subst h;simpa only[C.v] using hK)
 | nilchk x =>
   simp only[J3f,Q23] at h;simp only[J2y];split at h<;>first
    | (cases h;done)
    | (rename_i hx
       refine J0A hx ?_;cases h;simpa only[C.v] using hK)
 | bin bt op x y =>
   simp only[J3f,X5I] at h;simp only[J2y];split at h
   . rename_i a ha;split at h
     . rename_i b hb;exact J0A ha (J0A hb (X4q h hK))
     . cases h
   . cases h
 | pick c a b =>
   simp only[J3f,X1v] at h;simp only[J2y];split at h
   . rename_i hc;refine J0A hc ?_;simp only[C.v];exact J0A h hK
   . rename_i hc;refine J0A hc ?_;simp only[C.v];exact J0A h hK
   . cases h
 | slcs x lo hi =>
   simp only[J3f,X1u] at h;simp only[J2y];split at h
   . rename_i l d hx;refine J0A hx ?_;simp only[C.v,J1r];split at h
     . rename_i hh e1;split at h
       . rename_i a e2;have hle:hh<=l:=by
          unfold cbd at e1;split at e1
          . cases e1;exact Nat.le_refl _
          . split at e1
            . split at e1
              . rename_i hb;cases e1;exact Nat.le_of_ble_eq_true hb
              . cases e1
            . cases e1
         refine J2T e1 (J2T e2 ?_);rw[J7v _ _ _ _ hle,<- J4w];rw[Q5F h] at hK;exact hK
       . cases h
     . cases h
   . cases h
 | ixstr x i =>
   simp only[J3f,Q6i] at h;simp only[J2y];split at h
   . rename_i l d hx;split at h
     . rename_i k n hi;refine J0A hx (J0A hi ?_);simp only[C.v,J1r];split at h
       . rename_i m hm;refine J7p hm ?_;have hlt:m<l:=by
          unfold cix at hm;split at hm
          . split at hm
            . rename_i hb;cases hm;exact Nat.le_of_ble_eq_true hb
            . cases hm
          . cases hm
         simp only[J4c,Option.some.injEq] at h;subst h;rw[Q2j _ _ _ hlt];simp only[C.v] at hK;exact hK
       . cases h
     . cases h
   . cases h
 | mkfn f b cap =>
   simp only[J3f,X1w] at h;simp only[J2y];split at h
   . rename_i l hl;cases h;exact Q0E hl (by simpa only[C.v] using hK)
   . cases h
 | un op x =>
   simp only[J3f,p_un] at h;simp only[J2y];split at h
   . rename_i b hx;refine J0A hx ?_;simp only[C.v];split at h
     . split at h
       . cases h;simpa only[C.v] using hK
       . cases h;simpa only[C.v] using hK
     . cases h
   . rename_i k n hx;refine J0A hx ?_;simp only[C.v];split at h
     . exact J7y h hK
     . exact J6t h hK
     . cases h
   . cases h
 | toint k x =>
   simp only[J3f,Q6h] at h;simp only[J2y];split at h
   . rename_i hx;refine J0A hx ?_;simp only[C.v];exact J7y h hK
   . cases h
 | sel off sz x =>
   simp only[J3f,X5C] at h;simp only[J2y];split at h
   . rename_i cs hx;refine J0A hx ?_;simp only[C.v];split at h
     . rw[Q6s h];exact hK
     . exact Q8E h hK
   . cases h
 | ixs s x i =>
   simp only[J3f,X5E] at h;simp only[J2y];split at h
   . rename_i n s' J2x z rows hx;split at h
     . rename_i hs;split at h
       . rename_i hi;refine J0A hx (J0A hi ?_);simp only[C.v,hs];split at h
         . rename_i hm;cases h;exact J7p hm (by simpa only[C.v] using hK)
         . cases h
       . cases h
     . cases h
   . rename_i k s' lo len hx;split at h
     . rename_i hs;split at h
       . rename_i hi;refine J0A hx (J0A hi ?_);simp only[C.v,hs];split at h
         . rename_i hm;simp only[J4c,Option.some.injEq] at h;subst h;exact J7p hm (by simpa only[C.v] using hK)
         . cases h
       . cases h
     . cases h
   . cases h
 | ixa n s x i =>
   simp only[J3f,X5F] at h;simp only[J2y];split at h
   . rename_i k o hx;split at h
     . rename_i hi;refine J0A hx (J0A hi ?_);simp only[C.v];split at h
       . rename_i hm;simp only[J4c,Option.some.injEq] at h;subst h;exact J7p hm (by simpa only[C.v] using hK)
       . cases h
     . cases h
   . rename_i hx;split at h
     . rename_i hi;refine J0A hx (J0A hi ?_);simp only[C.v];split at h
       . rename_i hm;simp only[J4c,Option.some.injEq] at h;subst h;exact J7p hm (by simpa only[C.v] using hK)
       . cases h
     . cases h
   . rename_i hx;split at h
     . rename_i hs;split at h
       . rename_i hi;refine J0A hx (J0A hi ?_);simp only[C.v,hs];split at h
         . rename_i hm;cases h;exact J7p hm (by simpa only[C.v] using hK)
         . cases h
       . cases h
     . rename_i hne;split at h
       . rename_i hi;refine J0A hx (J0A hi ?_);simp only[C.v];split at h
         . rename_i hm;simp only[J4c,Option.some.injEq] at h;subst h;exact J7p hm (by simpa only[C.v] using hK)
         . cases h
       . cases h
   . cases h
 | ext x i =>
   simp only[J3f,X5H] at h;simp only[J2y];split at h
   . rename_i hx;refine J0A hx ?_;simp only[C.v];rw[Q6s h];exact hK
   . cases h
 | len x =>
   simp only[J3f,X5D] at h;simp only[J2y];split at h<;>first
    | (cases h;done)
    | (rename_i hx
       refine J0A hx ?_;cases h;simp only[C.v] at hK;simp only[C.v];exact hK)
 | lens x =>
   simp only[J3f,X1x] at h;simp only[J2y];split at h
   . rename_i hx;refine J0A hx ?_;cases h;simp only[C.v] at hK;simp only[C.v,J1r];exact hK
   . cases h
 | mn x y =>
   simp only[J3f,p_mn] at h;simp only[J2y];split at h
   . rename_i hx;split at h
     . rename_i hy;refine J0A hx (J0A hy ?_);simp only[C.v];refine⟨_,rfl,?_⟩;split at h
       . rename_i hc;rw[J5N] at hc;cases h;have hc:=of_decide_eq_true hc;rw[if_neg (by omega)];simpa only[C.v] using hK
       . rename_i hc;rw[J5N] at hc;cases h;have hc:=of_decide_eq_false hc;rw[if_pos (by omega)];simpa only[C.v] using hK
     . cases h
   . cases h
 | mx x y =>
   simp only[J3f,p_mx] at h;simp only[J2y];split at h
   . rename_i hx;split at h
     . rename_i hy;refine J0A hx (J0A hy ?_);simp only[C.v];refine⟨_,rfl,?_⟩;split at h
       . rename_i hc;rw[J5N] at hc;cases h;have hc:=of_decide_eq_true hc;rw[if_neg (by omega)];simpa only[C.v] using hK
       . rename_i hc;rw[J5N] at hc;cases h;have hc:=of_decide_eq_false hc;rw[if_pos (by omega)];simpa only[C.v] using hK
     . cases h
   . cases h
end Go.Eng
namespace Go.Eng
def X0N:C->Bool
 | .agg _ | .tup _ | .unit=>false
 | _=>true
theorem Q3S (c:C):c.v.cellB=X0N c:=by cases c<;>simp[C.v,V.cellB,X0N]
noncomputable def J8C (p:C->Bool) (l:List C):Bool:=@List.rec C (fun _=>Bool) true (fun c _ ih=>@Bool.rec (fun _=>Bool) false ih (p c)) l
theorem Q1b (p:C->Bool) (c:C) (r:List C):J8C p (c::r)=(p c&&J8C p r):=by
 show @Bool.rec (fun _=>Bool) false (J8C p r) (p c)=_;cases p c<;>rfl
theorem J2Z {q:V->Bool} {p:C->Bool} (h:∀c,q c.v=p c):∀(l:List C),J2K q (C.vs l)=J8C p l
 | []=>rfl
 | c::r=>by
   rw[Q1b];simp only[C.vs,J2K,h,J2Z h r];cases p c<;>rfl
def Q8U:C->Bool
 | .bool _ | .int _ _ | .str _ _ | .nilptr | .nilslice | .nilmap | .nilfunc | .niliface | .fz _ _ _ _ _ | .fe _ _ _ _ _ _ | .unit=>true
 | _=>false
theorem J9d (c:C):c.v.kf1=Q8U c:=by cases c<;>simp[C.v,V.kf1,Q8U]
noncomputable def Q46:C->Bool
 | .agg cs=>J8C Q8U cs
 | .iface _ v=>Q8U v
 | .fn _ _ cap=>J8C Q8U cap
 | v=>Q8U v
theorem J6W (c:C):c.v.kf2=Q46 c:=by
 cases c<;>simp[C.v,V.kf2,Q46,J2Z J9d,J9d]<;>simp[V.kf1,Q8U]
noncomputable def ln {α:Type} (l:List α):Nat:=@List.rec α (fun _=>Nat) 0 (fun _ _ ih=>Nat.succ ih) l
theorem Q9X {α:Type} (l:List α):ln l=l.length:=by
 induction l with
 | nil=>rfl
 | cons x r ih=>show Nat.succ (ln r)=_;rw[ih];rfl
def Q3Q:C->Option (List C)
 | .agg cs=>some cs
 | .tup _ | .unit=>none
 | v=>some [v]
theorem J3g {v:C} {vs:List C} {K:List V->Prop} (h:Q3Q v=some vs) (hK:K (C.vs vs)):v.v.cellsK K:=by
 cases v<;>first
  | (cases h;done)
  | (cases h;simp only[C.v];simp only[C.vs,C.v] at hK;exact hK)
  | (cases h;simp only[C.v];exact hK)
noncomputable def J7s (sz:Nat) (v:C):Option (List C):=match Q3Q v with
 | some vs=>match Nat.beq (ln vs) sz with
   | true=>match J8C X0N vs with|true=>some vs|false=>none
   | false=>none
 | none=>none
theorem J3O {sz:Nat} {v:C} {vs:List C} (h:J7s sz v=some vs):Q3Q v=some vs/\vs.length=sz/\Nat.beq (C.vs vs).length sz=true/\J2K V.cellB (C.vs vs)=true:=by
 unfold J7s at h;split at h
 . rename_i vs' h1;split at h
   . rename_i h2;split at h
     . rename_i h3;cases h;rw[Q9X] at h2;exact⟨h1,Nat.eq_of_beq_eq_true h2,by rw[C.vs_length];exact h2,by rw[J2Z Q3S];exact h3⟩
     . cases h
   . cases h
 . cases h
theorem V.force_ok {v:V} {K:V->Prop} (h:K v):v.force K:=by cases v<;>exact h
theorem Q0L (g:Nat->V):∀(n j:Nat) (l:List V) (K:List V->Prop),l.length=n->(∀t,t<n->l[t]?=some (g (j+t)))->K l->J68 g j n K
 | 0,j,l,K,hl,_,h=>by
   have:l=[]:=List.length_eq_zero_iff.1 hl;subst this;exact h
 | n+1,j,[],K,hl,_,h=>by simp at hl
 | n+1,j,x::l,K,hl,hg,h=>by
   have h0:=hg 0 (by omega);simp at h0;subst h0;simp only[J68];refine V.force_ok (Q0L g n (j+1) l _ (by simpa using hl) (fun t ht=>?_) h);have:=hg (t+1) (by omega);simp only[List.getElem?_cons_succ] at this;rw[this];congr 2;omega
theorem Q2K {z:List C} {rows:List (List C)} {i:Nat} {row:List C} (h:nt rows i=some row) (j:Nat):J4i (C.vs z) (C.vss rows) i j=(C.vs row).getD j (J3z (C.vs z)):=by
 rw[Q9N,J5i] at h;simp[J4i,List.getD_eq_getElem?_getD,C.vss_get,h]
noncomputable def X7b (s:Nat) (rows:List (List C)) (sz:Option Nat) (i j:Nat):Option C:=match nt rows i with
 | some row=>match sz with
   | none=>match Nat.ble (Nat.succ j) s with|true=>nt row j|false=>none
   | some m=>match Nat.ble (j+m) s with|true=>Q2q row j m|false=>none
 | none=>none
def J99 (s:Nat) (f:Nat->Nat->V) (i j:Nat) (K:V->Prop) (sz:Option Nat):Prop :=
 match sz with
 | none=>match Nat.ble (j+1) s with|true=>(f i j).force K|false=>False
 | some m=>match Nat.ble (j+m) s with|true=>J68 (f i) j m fun l=>K (.agg l)|false=>False
theorem Q5X {s:Nat} (z:List C) {rows:List (List C)} {sz:Option Nat} {i j:Nat} {c:C} {K:V->Prop} (h:X7b s rows sz i j=some c) (hK:K c.v):J99 s (J4i (C.vs z) (C.vss rows)) i j K sz:=by
 unfold J99;unfold X7b at h;split at h
 . rename_i row hr;cases sz with
   | none =>
     simp only at h;split at h
     . rename_i hb;simp only[hb];refine V.force_ok ?_;rw[Q2K hr];rw[Q9N,J5i] at h;simpa[List.getD_eq_getElem?_getD,C.vs_get,h] using hK
     . cases h
   | some m =>
     simp only at h;split at h
     . rename_i hb;simp only[hb];unfold Q2q at h;rw[Q9q,J9l] at h;split at h
       . rename_i hl;cases h;simp only[C.v] at hK;refine Q0L _ _ _ _ _ ?_ (fun t ht=>?_) hK
         . rw[C.vs_length,List.length_take];omega
         . rw[Q2K hr,C.vs_get,List.getElem?_take,if_pos ht,List.getElem?_drop];simp only[List.length_drop] at hl;have hlt:j+t<row.length:=by omega
           simp[List.getD_eq_getElem?_getD,C.vs_get,hlt]
       . cases h
     . cases h
 . cases h
noncomputable def Q3K (own:J0z) (sz:Option Nat) (k off:Nat):Option C :=
 match lk own k with
 | some (.cells cs)=>match sz with
   | none=>nt cs off
   | some n=>Q2q cs off n
 | _=>none
theorem Q0W {own:J0z} {sz:Option Nat} {k off:Nat} {c:C} {K:V->Prop} (h:Q3K own sz k off=some c) (hK:K c.v):J7U (J0I own) sz k off K:=by
 unfold Q3K at h;unfold J7U;split at h
 . rename_i cs hl;rw[J0v hl];simp only[CB.b];cases sz with
   | none=>simp only at h ⊢;rw[Q6s h];exact hK
   | some n=>simp only at h ⊢;exact Q8E h hK
 . cases h
noncomputable def J8t (own:J0z) (sz:Option Nat) (p:C):Option C :=
 match p with
 | .loc k off=>Q3K own sz k off
 | .oel k s i j=>match lk own k with
   | some (.vec n s' _ rows)=>match Nat.beq s s' with
     | true=>match Nat.blt i n with
       | true=>X7b s rows sz i j
       | false=>none
     | false=>none
   | some (.cells _)=>Q3K own sz k (i*s+j)
   | _=>none
 | .fe _ s _ rows i j=>X7b s rows sz i j
 | _=>none
theorem J7n {own:J0z} {sz:Option Nat} {p c:C} {K:V->Prop} (h:J8t own sz p=some c) (hK:K c.v):J3u (J0I own) sz p.v K:=by
 unfold J8t at h;split at h
 . simp only[C.v,J3u];exact Q0W h hK
 . rename_i k s i j;simp only[C.v,J3u];split at h
   . rename_i n s' z rows hl;rw[J0v hl];simp only[CB.b];split at h
     . rename_i hs;simp only[hs];split at h
       . rename_i hi;have:=Q5X z h hK;exact⟨Nat.le_of_ble_eq_true hi,by cases sz<;>exact this⟩
       . cases h
     . cases h
   . rename_i cs hl;rw[J0v hl];simp only[CB.b];exact Q0W h hK
   . cases h
 . rename_i n s z rows i j;have:=Q5X z h hK;simp only[C.v,J3u];cases sz<;>exact this
 . cases h
noncomputable def X9a (c:C):Option C:=match c with
 | .unit=>none
 | c=>some c
theorem X3s {c d:C} {K:V->Prop} (h:X9a c=some d) (hK:K d.v):Q9Z c.v K:=by
 cases c<;>simp only[X9a,Option.some.injEq,reduceCtorEq] at h<;>subst h<;>simp only[C.v] at hK<;>simp only[C.v,Q9Z]<;>first|exact hK|exact Q0V hK
noncomputable def X4g (own:J0z) (sz:Option Nat) (p:C):Option C:=match J8t own sz p with
 | some c=>X9a c
 | none=>none
theorem X0G {own:J0z} {sz:Option Nat} {p c:C} {K:V->Prop} (h:X4g own sz p=some c) (hK:K c.v):X2v (J0I own) sz p.v K:=by
 unfold X4g at h;split at h
 . rename_i d hd;exact J7n hd (X3s h hK)
 . cases h
noncomputable def stC {α β:Type} (l:List α):Nat->List α->(List α->Option β)->Option β :=
 @List.rec α (fun _=>Nat->List α->(List α->Option β)->Option β)
  (fun _ vs K=>match vs with|[]=>K []|_::_=>none)
  (fun x r ih o vs K=>match vs with
    | []=>K (x::r)
    | v::vs=>@Nat.rec (fun _=>Option β) (ih 0 vs fun l=>K (v::l)) (fun o _=>ih o (v::vs) fun l=>K (x::l)) o) l
theorem J5F {α β:Type}:∀(l:List α) (o:Nat) (vs:List α) (K:List α->Option β) (out:β),stC l o vs K=some out ->
 ∃l',K l'=some out/\l'.length=l.length/\(vs≠[]->o+vs.length<=l.length)/\l'=l.take o++vs++l.drop (o+vs.length)/\∀{γ:Type} (f:α->γ) (Kp:List γ->Prop),Kp (l'.map f)->X4R (l.map f) o (vs.map f) Kp
 | [],o,[],K,out,h=>⟨[],h,rfl,fun h=>(h rfl).elim,by simp,fun f Kp hK=>by cases o<;>exact hK⟩
 | [],o,v::vs,K,out,h=>by cases h
 | x::r,o,[],K,out,h=>⟨x::r,h,rfl,fun h=>(h rfl).elim,by simp,fun f Kp hK=>by cases o<;>exact hK⟩
 | x::r,0,v::vs,K,out,h=>by
   obtain⟨l',a1,a2,a3,a4,a5⟩:=J5F r 0 vs (fun l=>K (v::l)) out h;refine⟨v::l',a1,by simp[a2],fun _=>?_,by rw[a4];simp[Nat.add_comm],fun f Kp hK=>a5 f _ (by simpa using hK)⟩;cases vs with
   | nil=>simp
   | cons y ys=>have:=a3 (by simp);simp at this ⊢;omega
 | x::r,o+1,v::vs,K,out,h=>by
   obtain⟨l',a1,a2,a3,a4,a5⟩:=J5F r o (v::vs) (fun l=>K (x::l)) out h;refine⟨x::l',a1,by simp[a2],fun _=>by have:=a3 (by simp);simp at this ⊢;omega,?_,fun f Kp hK=>a5 f _ (by simpa using hK)⟩;rw[a4];simp[show o+1+(vs.length+1)=o+(vs.length+1)+1 by omega]
noncomputable def upC {β:Type} (t:Nat) (x:CB) (l:J0z):(J0z->Option β)->Option β :=
 @List.rec (Nat×CB) (fun _=>(J0z->Option β)->Option β) (fun K=>K [])
  (fun p r ih K=>@Prod.rec Nat CB (fun _=>Option β) (fun k v=>@Bool.rec (fun _=>Option β) (ih fun r'=>K ((k,v)::r')) (K ((k,x)::r)) (Nat.beq k t)) p) l
theorem J6o {β:Type} {t:Nat} {x:CB}:∀{l:J0z} {K:J0z->Option β} {out:β},upC t x l K=some out ->
 ∃l',K l'=some out/\∀Kp:Own->Prop,Kp (J0I l')->Q1f t x.b (J0I l) Kp
 | [],K,out,h=>⟨[],h,fun Kp hK=>hK⟩
 | (k,v)::r,K,out,h=>by
   have h:@Bool.rec (fun _=>Option β) (upC t x r fun r'=>K ((k,v)::r')) (K ((k,x)::r)) (Nat.beq k t)=some out:=h;cases hb:Nat.beq k t with
   | true =>
     rw[hb] at h;exact⟨_,h,fun Kp hK=>by simp only[J0I,List.map_cons,Q1f,hb];exact hK⟩
   | false =>
     rw[hb] at h;obtain⟨l',a1,a2⟩:=J6o (K:=fun r'=>K ((k,v)::r')) h;exact⟨_,a1,fun Kp hK=>by simp only[J0I,List.map_cons,Q1f,hb];exact a2 _ hK⟩
noncomputable def deC {β:Type} (t:Nat) (l:J0z):(J0z->Option β)->Option β :=
 @List.rec (Nat×CB) (fun _=>(J0z->Option β)->Option β) (fun K=>K [])
  (fun p r ih K=>@Prod.rec Nat CB (fun _=>Option β) (fun k v=>@Bool.rec (fun _=>Option β) (ih fun r'=>K ((k,v)::r')) (K r) (Nat.beq k t)) p) l
theorem Q7R {β:Type} {t:Nat}:∀{l:J0z} {K:J0z->Option β} {out:β},deC t l K=some out ->
 ∃l',K l'=some out/\∀Kp:Own->Prop,Kp (J0I l')->X0y t (J0I l) Kp
 | [],K,out,h=>⟨[],h,fun Kp hK=>hK⟩
 | (k,v)::r,K,out,h=>by
   have h:@Bool.rec (fun _=>Option β) (deC t r fun r'=>K ((k,v)::r')) (K r) (Nat.beq k t)=some out:=h;cases hb:Nat.beq k t with
   | true =>
     rw[hb] at h;exact⟨_,h,fun Kp hK=>by simp only[J0I,List.map_cons,X0y,hb];exact hK⟩
   | false =>
     rw[hb] at h;obtain⟨l',a1,a2⟩:=Q7R (K:=fun r'=>K ((k,v)::r')) h;exact⟨_,a1,fun Kp hK=>by simp only[J0I,List.map_cons,X0y,hb];exact a2 _ hK⟩
theorem Q2L (rows:List (List V)):tab rows=J4i [] rows:=rfl
noncomputable def Q8l (own:J0z) (v:C):Option C :=
 match v with
 | .vec k s lo len=>match lk own k with
   | some (.vec n s' z rows)=>match Nat.beq s s' with
     | true=>match Nat.ble (lo+len) n with
       | true=>fH (dr rows lo) fun q=>some (.fz len s false z q)
       | false=>none
     | false=>none
   | _=>none
 | v=>match Q46 v with
   | true=>some v
   | false=>none
theorem J9v {own:J0z} {v c:C} {K:V->Prop} (h:Q8l own v=some c) (hK:K c.v):Q49 (J0I own) v.v K:=by
 have other:(∀k s lo len,v≠.vec k s lo len)->Q46 v=true->K v.v->Q49 (J0I own) v.v K:=by
  intro hne hk hK;have:=J6W v;rw[hk] at this;cases v<;>first
   | exact(hne _ _ _ _ rfl).elim
   | (simp only[C.v] at this hK ⊢
      simp only[Q49,this];exact hK)
 unfold Q8l at h;split at h
 . rename_i k s lo len;simp only[C.v,Q49];split at h
   . rename_i n s' z rows hl;rw[J0v hl];simp only[CB.b];split at h
     . rename_i hs;simp only[hs];split at h
       . rename_i hle;refine⟨Nat.le_of_ble_eq_true hle,?_⟩;rw[X0j] at h;cases h;rw[J2M];simp only[C.v,J9l] at hK;exact hK
       . cases h
     . cases h
   . cases h
 . rename_i hne;split at h
   . rename_i hk;cases h;exact other hne hk hK
   . cases h
noncomputable def Q04 (own:J0z):List C->Option (List C)
 | []=>some []
 | v::r=>match Q8l own v with
   | some c=>match Q04 own r with
     | some l=>some (c::l)
     | none=>none
   | none=>none
theorem Q03 {own:J0z}:∀{l cs:List C} {K:List V->Prop},Q04 own l=some cs->K (C.vs cs)->Q07 (J0I own) (C.vs l) K
 | [],cs,K,h,hK=>by simp only[Q04,Option.some.injEq] at h;subst h;simpa[C.vs,Q07] using hK
 | v::r,cs,K,h,hK=>by
   unfold Q04 at h;split at h
   . rename_i c hc;split at h
     . rename_i l hl;cases h;simp only[C.vs,Q07];exact J9v hc (Q03 hl (by simpa[C.vs] using hK))
     . cases h
   . cases h
theorem Q3N (s:Nat):∀(n:Nat) (l:List C),J4u s n (C.vs l)=C.vss (J4u s n l)
 | 0,l=>by simp[J4u,C.vss]
 | n+1,l=>by
   simp only[J4u,C.vss];rw[<- Q3N s n,C.vs_map,C.vs_map,C.vs_map];simp
noncomputable def X0Q (own:J0z) (v:C):Option C :=
 match v with
 | .vec k s 0 len=>match lk own k with
   | some (.cells cs)=>match Nat.beq (len*s) (ln cs) with
     | true=>match J8C X0N cs with
       | true=>match Q04 own cs with
         | some cs'=>some (.fz len s false [] (J4u s len cs'))
         | none=>none
       | false=>none
     | false=>none
   | _=>Q8l own (.vec k s 0 len)
 | v=>Q8l own v
theorem Q3U {own:J0z} {v c:C} {K:V->Prop} (h:X0Q own v=some c) (hK:K c.v):Q8W (J0I own) v.v K:=by
 unfold X0Q at h;split at h
 . rename_i k s len;split at h
   . rename_i cs hl;split at h
     . rename_i hlen;split at h
       . rename_i hc;split at h
         . rename_i cs' hcs;cases h;have hlen:=Nat.eq_of_beq_eq_true hlen;rw[Q9X] at hlen;have hcb:J2K V.cellB (C.vs cs)=true:=by rw[J2Z Q3S];exact hc
           have hK':Q07 (J0I own) (C.vs cs) fun cs'=>K (.fz len s false (tab (J4u s len cs'))):=by
            refine Q03 hcs ?_;rw[Q3N,Q2L];simpa[C.v,C.vs] using hK
           by_cases h1:s=1
           . subst h1;simp only[C.v,Q8W,J0v hl,CB.b,hcb];have e:Nat.beq len (C.vs cs).length=true:=by rw[C.vs_length,<- hlen];simp
             simp only[e];exact hK'
           . have e:Nat.beq (len*s) (C.vs cs).length=true:=by rw[C.vs_length,<- hlen];simp
             simp only[C.v];unfold Q8W;split
             . rename_i e1;cases e1;exact(h1 rfl).elim
             . rename_i e1;cases e1;rw[J0v hl];simp only[CB.b,hcb,e];exact hK'
             . rename_i hne2;exact(hne2 _ _ _ rfl).elim
         . cases h
       . cases h
     . cases h
   . rename_i hne;have hb:=J9v h hK;simp only[C.v] at hb ⊢;have nocell:∀cs,look (J0I own) k≠some (.cells cs):=by
      intro cs e;rw[J0I,J2n,<- J7K] at e;cases hl:lk own k with
      | none=>rw[hl] at e;cases e
      | some b=>cases b with
        | cells cs'=>exact hne cs' hl
        | vec n s z rows=>rw[hl] at e;cases e
        | map mk es=>rw[hl] at e;cases e
        | mapS es=>rw[hl] at e;cases e
     have nofam:∀n s l f op,look (J0I own) k≠some (.fam n s l f op):=by
      intro n s l f op e;rw[J0I,J2n,<- J7K] at e;cases hl:lk own k with
      | none=>rw[hl] at e;cases e
      | some b=>cases b<;>(rw[hl] at e;cases e)
     unfold Q8W;split
     . rename_i e1;cases e1;split
       . rename_i cs hl;exact(nocell cs hl).elim
       . rename_i n s l f op hl;exact(nofam _ _ _ _ _ hl).elim
       . exact hb
     . rename_i e1;cases e1;split
       . rename_i cs hl;exact(nocell cs hl).elim
       . exact hb
     . exact hb
 . rename_i hne;have hb:=J9v h hK;unfold Q8W;split
   . rename_i e1;cases v<;>simp only[C.v,V.vec.injEq,reduceCtorEq] at e1;obtain⟨rfl,rfl,rfl,rfl⟩:=e1;exact(hne _ _ _ rfl).elim
   . rename_i e1;cases v<;>simp only[C.v,V.vec.injEq,reduceCtorEq] at e1;obtain⟨rfl,rfl,rfl,rfl⟩:=e1;exact(hne _ _ _ rfl).elim
   . exact hb
noncomputable def Q8k (own:J0z):List C->Option (List C)
 | []=>some []
 | v::r=>match X0Q own v with
   | some c=>match Q8k own r with
     | some l=>some (c::l)
     | none=>none
   | none=>none
theorem Q3T {own:J0z}:∀{l cs:List C} {K:List V->Prop},Q8k own l=some cs->K (C.vs cs)->X4y (J0I own) (C.vs l) K
 | [],cs,K,h,hK=>by simp only[Q8k,Option.some.injEq] at h;subst h;simpa[C.vs,X4y] using hK
 | v::r,cs,K,h,hK=>by
   unfold Q8k at h;split at h
   . rename_i c hc;split at h
     . rename_i l hl;cases h;simp only[C.vs,X4y];exact Q3U hc (Q3T hl (by simpa[C.vs] using hK))
     . cases h
   . cases h
noncomputable def X6I (own:J0z) (v:C):Option C :=
 match v with
 | .agg cs=>match Q8k own cs with
   | some l=>some (.agg l)
   | none=>none
 | .loc _ _=>none
 | v=>X0Q own v
theorem Q2g {own:J0z} {v c:C} {K:V->Prop} (h:X6I own v=some c) (hK:K c.v):bor (J0I own) v.v K:=by
 unfold X6I at h;split at h
 . split at h
   . rename_i l hl;cases h;simp only[C.v,bor];exact Q3T hl (by simpa[C.v] using hK)
   . cases h
 . cases h
 . rename_i hne hne2;have hb:=Q3U h hK;cases v<;>first
    | exact(hne _ rfl).elim
    | exact(hne2 _ _ rfl).elim
    | (simp only[C.v] at hb ⊢;simp only[bor];exact hb)
def J5L:List C->List Nat
 | []=>[]
 | v::r=>match v with
   | .vec k _ _ _=>k::J5L r
   | _=>J5L r
theorem J4S:∀(l:List C),Q4B (C.vs l)=J5L l
 | []=>rfl
 | v::r=>by
   simp only[C.vs,Q4B,J5L,J4S r];cases v<;>simp[C.v,V.key1]
noncomputable def J6c (own:J0z) (v:C):List Nat :=
 match v with
 | .vec k _ _ _=>match lk own k with
   | some (.cells cs)=>k::J5L cs
   | _=>[k]
 | .agg cs=>J5L cs
 | _=>[]
theorem Q10 (own:J0z) (v:C):J5o (J0I own) v.v=J6c own v:=by
 cases v<;>simp[C.v,J5o,J6c,J4S];rename_i k s lo len;rw[J0I,J2n,<- J7K];cases hl:lk own k with
 | none=>rfl
 | some b=>cases b<;>simp[CB.b,J4S]
noncomputable def Q4L (ks:List Nat):J0z->J0z
 | []=>[]
 | (k,b)::r=>match J05 k ks with|true=>Q4L ks r|false=>(k,b)::Q4L ks r
noncomputable def Q67 (ks:List Nat):J0z->J0z
 | []=>[]
 | (k,b)::r=>match J05 k ks with|true=>(k,b)::Q67 ks r|false=>Q67 ks r
theorem J9k (ks:List Nat):∀(o:J0z),J2e ks (J0I o)=J0I (Q4L ks o)
 | []=>rfl
 | (k,b)::r=>by
   have ih:=J9k ks r;simp only[J0I,List.map_cons,J2e,Q4L] at ih ⊢;cases J05 k ks<;>simp[ih]
theorem Q3m (ks:List Nat):∀(o:J0z),J2o ks (J0I o)=J0I (Q67 ks o)
 | []=>rfl
 | (k,b)::r=>by
   have ih:=Q3m ks r;simp only[J0I,List.map_cons,J2o,Q67] at ih ⊢;cases J05 k ks<;>simp[ih]
noncomputable def Y0C {β:Type} (o:J0z):(J0z->β)->β:=@List.rec (Nat×CB) (fun _=>(J0z->β)->β) (fun K=>K []) (fun p _ ih K=>ih fun r=>K (p::r)) o
theorem Q14 {β:Type}:∀(o:J0z) (K:J0z->β),Y0C o K=K o
 | [],K=>rfl
 | p::r,K=>Q14 r fun r=>K (p::r)
noncomputable def X7r {β:Type} (own:J0z) (v:C) (K:C->J0z->Option β):Option β :=
 match X6I (Q67 (J6c own v) own) v with
 | some v'=>Y0C (Q4L (J6c own v) own) fun own'=>K v' own'
 | none=>none
theorem Q8g {β:Type} {own:J0z} {v:C} {K:C->J0z->Option β} {out:β} (h:X7r own v K=some out) :
 ∃v' o',K v' o'=some out/\∀Kp:V->Own->Prop,Kp v'.v (J0I o')->X1S (J0I own) v.v Kp:=by
 unfold X7r at h;split at h
 . rename_i v' hv;rw[Q14] at h;refine⟨v',_,h,fun Kp hK=>?_⟩;unfold X1S;rw[Q10,Q3m,J9k];exact Q2g hv hK
 . cases h
theorem Q7t {z:List C} {rows:List (List C)} {i j:Nat} {row vs:List C} (h:rows[i]?=some row) (hj:j+vs.length<=row.length) :
 J0L (J4i (C.vs z) (C.vss rows)) i j (C.vs vs)=J4i (C.vs z) (C.vss (rows.take i++[row.take j++vs++row.drop (j+vs.length)]++rows.drop (i+1))):=by
 have hi:=(List.getElem?_eq_some_iff.1 h).1;funext i' j';have hrow:∀q,(rows.take i++[q]++rows.drop (i+1))[i']?=if i'=i then some q else rows[i']?:=by
  intro q;have:=J0M rows [q] i (by simp only[List.length_singleton];omega) i';simp only[List.length_singleton] at this;rw[this];by_cases h1:i'<i
  . rw[if_pos h1,if_neg (by omega)]
  . rw[if_neg h1];by_cases h2:i'=i
    . subst h2;simp
    . rw[if_neg (by omega),if_neg h2]
 simp only[J0L,J4i,List.getD_eq_getElem?_getD,C.vss_get,hrow,C.vs_length];by_cases e:i'=i
 . subst e;simp only[if_true,h,Option.map_some,Option.getD_some,true_and,C.vs_get];rw[J0M row vs j hj j'];by_cases h1:j'<j
   . rw[if_neg (by omega),if_pos h1]
   . rw[if_neg h1];by_cases h2:j'<j+vs.length
     . rw[if_pos ⟨by omega,h2⟩,if_pos h2];have:j'-j<vs.length:=by omega
       simp[this]
     . rw[if_neg (by omega),if_neg h2]
 . simp only[e,false_and,if_false]
noncomputable def J9n {β:Type} (own:J0z) (sz k off:Nat) (v:C) (K:J0z->Option β):Option β :=
 match lk own k with
 | some (.cells cs)=>match J7s sz v with
   | some vs=>stC cs off vs fun cs'=>upC k (.cells cs') own K
   | none=>none
 | _=>none
theorem J8r {β:Type} {own:J0z} {sz k off:Nat} {v:C} {K:J0z->Option β} {out:β} (h:J9n own sz k off v K=some out) :
 ∃o',K o'=some out/\∀Kp:Own->Prop,Kp (J0I o')->J49 (J0I own) sz k off v.v Kp:=by
 unfold J9n at h;split at h
 . rename_i cs hl;split at h
   . rename_i vs hv;obtain⟨a1,a2,a3,a4⟩:=J3O hv;obtain⟨cs',b1,b2,b3,b4,b5⟩:=J5F _ _ _ _ _ h;obtain⟨o',c1,c2⟩:=J6o b1;refine⟨o',c1,fun Kp hK=>?_⟩;unfold J49;rw[J0v hl];simp only[CB.b];refine J3g a1 ?_;simp only[a3,a4];rw[C.vs_map,C.vs_map];refine b5 C.v _ ?_;have:=c2 Kp hK;simpa[CB.b,C.vs_map] using this
   . cases h
 . cases h
noncomputable def J8s {β:Type} (own:J0z) (sz:Nat) (p v:C) (K:J0z->Option β):Option β :=
 match p with
 | .loc k off=>J9n own sz k off v K
 | .oel k s i j=>match lk own k with
   | some (.vec n s' z rows)=>match J7s sz v with
     | some vs=>match J8C Q8U vs with
       | true=>match Nat.beq s s' with
         | true=>match Nat.ble (j+sz) s with
           | true=>match Nat.blt i n with
             | true=>match Nat.ble 1 sz with
               | true=>match nt rows i with
                 | some row=>stC row j vs fun row'=>stC rows i [row'] fun rows'=>upC k (.vec n s z rows') own K
                 | none=>none
               | false=>none
             | false=>none
           | false=>none
         | false=>none
       | false=>none
     | none=>none
   | some (.cells _)=>J9n own sz k (i*s+j) v K
   | _=>none
 | _=>none
theorem J41 {β:Type} {own:J0z} {sz:Nat} {p v:C} {K:J0z->Option β} {out:β} (h:J8s own sz p v K=some out) :
 ∃o',K o'=some out/\∀Kp:Own->Prop,Kp (J0I o')->J21 (J0I own) sz p.v v.v Kp:=by
 unfold J8s at h;split at h
 . simp only[C.v,J21];exact J8r h
 . rename_i k s i j;split at h
   . rename_i n s' z rows hl;split at h
     . rename_i vs hv;obtain⟨a1,a2,a3,a4⟩:=J3O hv;split at h
       . rename_i hkf;split at h
         . rename_i hs;split at h
           . rename_i hj;split at h
             . rename_i hi;split at h
               case h_2=>cases h
               rename_i h0;split at h
               . rename_i row hr;obtain⟨row',b1,b2,b3,b4,b5⟩:=J5F _ _ _ _ _ h;obtain⟨rows',d1,d2,d3,d4,d5⟩:=J5F _ _ _ _ _ b1;obtain⟨o',c1,c2⟩:=J6o d1;refine⟨o',c1,fun Kp hK=>?_⟩;have e:=Nat.eq_of_beq_eq_true hs;subst e;simp only[C.v,J21];rw[J0v hl];simp only[CB.b];refine J3g a1 ?_;have hkf':J2K V.kf1 (C.vs vs)=true:=by rw[J2Z J9d];exact hkf
                 simp only[a3,a4,hkf',hs,hj];refine⟨Nat.le_of_ble_eq_true hi,?_⟩;have:=c2 Kp hK;rw[Q9N,J5i] at hr;have hfit:j+vs.length<=row.length:=b3 (by
                  intro e;rw[e] at a2;have:=Nat.le_of_ble_eq_true h0;simp at a2;omega)
                 rw[Q7t hr hfit];simp only[CB.b,d4,b4,List.length_singleton] at this;exact this
               . cases h
             . cases h
           . cases h
         . cases h
       . cases h
     . cases h
   . rename_i cs hl;simp only[C.v,J21];rw[J0v hl];simp only[CB.b];exact J8r h
   . cases h
 . cases h
noncomputable def Q64:C->Bool
 | .vec _ _ _ _=>true
 | .agg cs=>match J5L cs with|[]=>false|_::_=>true
 | _=>false
theorem Q0w (v:C):v.v.keyed=Q64 v:=by
 cases v<;>simp only[C.v,V.keyed,Q64,J4S];rename_i cs;cases J5L cs<;>rfl
noncomputable def Q16 {β:Type} (own:J0z) (sz:Nat) (p v:C) (K:J0z->Option β):Option β :=
 match p with
 | .oel k s i j=>match lk own k with
   | some (.vec _ _ _ _)=>match Q64 v with
     | true=>X7r own v fun v' own'=>J8s own' sz (.oel k s i j) v' K
     | false=>J8s own sz (.oel k s i j) v K
   | _=>J8s own sz (.oel k s i j) v K
 | p=>J8s own sz p v K
theorem Q4M {β:Type} {own:J0z} {sz:Nat} {p v:C} {K:J0z->Option β} {out:β} (h:Q16 own sz p v K=some out) :
 ∃o',K o'=some out/\∀Kp:Own->Prop,Kp (J0I o')->J3A (J0I own) sz p.v v.v Kp:=by
 unfold Q16 at h;split at h
 . rename_i k s i j;split at h
   . rename_i n s' z rows hl;split at h
     . rename_i hk;obtain⟨v',o1,a1,a2⟩:=Q8g h;obtain⟨o',b1,b2⟩:=J41 a1;refine⟨o',b1,fun Kp hK=>?_⟩;simp only[C.v,J3A];rw[J0v hl,Q0w,hk];simp only[CB.b];refine a2 _ ?_;have:=b2 Kp hK;simpa only[C.v] using this
     . rename_i hk;obtain⟨o',b1,b2⟩:=J41 h;refine⟨o',b1,fun Kp hK=>?_⟩;simp only[C.v,J3A];rw[J0v hl,Q0w,hk];simp only[CB.b];have:=b2 Kp hK;simpa only[C.v] using this
   . rename_i hne;obtain⟨o',b1,b2⟩:=J41 h;refine⟨o',b1,fun Kp hK=>?_⟩;have:=b2 Kp hK;simp only[C.v] at this;simp only[C.v,J3A];split
     . rename_i n s' f hl;exfalso;rw[J0I,J2n,<- J7K] at hl;cases hq:lk own k with
       | none=>rw[hq] at hl;cases hl
       | some b=>cases b with
         | vec n s z rows=>exact hne _ _ _ _ hq
         | _=>rw[hq] at hl;cases hl
     . exact this
 . rename_i hne;obtain⟨o',b1,b2⟩:=J41 h;refine⟨o',b1,fun Kp hK=>?_⟩;have:=b2 Kp hK;cases p<;>first
    | exact(hne _ _ _ _ rfl).elim
    | (simp only[C.v] at this ⊢;simp only[J3A];exact this)
noncomputable def X7o (own:J0z) (s:Nat) (y:C):Option (Nat×List C×List (List C)) :=
 match y with
 | .fz m s' _ z rows=>match Nat.beq s s' with|true=>some (m,z,rows)|false=>none
 | .vec k s' lo len=>match lk own k with
   | some (.vec n s'' z rows)=>match Nat.beq s s' with
     | true=>match Nat.beq s s'' with
       | true=>match Nat.ble (lo+len) n with
         | true=>fH (dr rows lo) fun q=>some (len,z,q)
         | false=>none
       | false=>none
     | false=>none
   | _=>none
 | _=>none
theorem Q7T {own:J0z} {s:Nat} {y:C} {m:Nat} {z:List C} {rows:List (List C)} {K:Nat->(Nat->Nat->V)->Prop} (h:X7o own s y=some (m,z,rows)) (hK:K m (J4i (C.vs z) (C.vss rows))):Q82 (J0I own) s y.v K:=by
 unfold X7o at h;split at h
 . split at h
   . rename_i hs;cases h;simp only[C.v,Q82,hs];exact hK
   . cases h
 . rename_i k s' lo len;simp only[C.v,Q82];split at h
   . rename_i n s'' z' rows' hl;rw[J0v hl];simp only[CB.b];split at h
     . rename_i h1;split at h
       . rename_i h2;split at h
         . rename_i h3;rw[X0j] at h;cases h;simp only[h1,h2];refine⟨Nat.le_of_ble_eq_true h3,?_⟩;rw[J2M];rw[J9l] at hK;exact hK
         . cases h
       . cases h
     . cases h
   . cases h
 . cases h
def J50:List C->Option C
 | []=>some (.bool false)
 | [v]=>some v
 | _::r=>J50 r
theorem J9b:∀(z:List C),(J50 z).map C.v=some (J3z (C.vs z))
 | []=>by simp[J50,J3z,C.vs,C.v];rfl
 | [v]=>by simp[J50,J3z,C.vs]
 | _::b::r=>by simpa[J50,J3z,C.vs] using J9b (b::r)
def Q9A (z z':List C):Bool:=match J50 z with
 | some (.int k a)=>match J50 z' with
   | some (.int k' b)=>match kEq k k' with|true=>ieq a b|false=>false
   | _=>false
 | some (.bool a)=>match J50 z' with
   | some (.bool b)=>a == b
   | _=>false
 | some .nilslice=>match J50 z' with
   | some .nilslice=>true
   | _=>false
 | _=>false
theorem Q2V {z z':List C} (h:Q9A z z'=true):J3z (C.vs z)=J3z (C.vs z'):=by
 have h1:=J9b z;have h2:=J9b z';have key:J50 z=J50 z':=by
  unfold Q9A at h;split at h
  . rename_i e1;split at h
    . rename_i e2;split at h
      . rename_i e3;rw[J4V,beq_iff_eq] at h;rw[e1,e2,J5M e3,h]
      . cases h
    . cases h
  . rename_i e1;split at h
    . rename_i e2;rw[beq_iff_eq] at h;rw[e1,e2,h]
    . cases h
  . rename_i e1;split at h
    . rename_i e2;rw[e1,e2]
    . cases h
  . cases h
 rw[key,h2] at h1;exact(Option.some.inj h1).symm
theorem Q7z {z z':List C} {rows rows':List (List C)} {lo len:Nat} (h:lo+len<=rows.length) (hz:J3z (C.vs z)=J3z (C.vs z')) :
 J5p (J0l lo (J4i (C.vs z) (C.vss rows))) len (J4i (C.vs z') (C.vss rows'))=J4i (C.vs z') (C.vss ((rows.drop lo).take len++rows')):=by
 funext i j;have hlen:((rows.drop lo).take len).length=len:=by simp;omega
 by_cases hi:i<len
 . rw[J2c hi,J0E];simp only[J4i,List.getD_eq_getElem?_getD,C.vss_get];rw[List.getElem?_append_left (by omega),List.getElem?_take,if_pos hi,List.getElem?_drop];have:lo+i<rows.length:=by omega
   simp[this,hz]
 . rw[J2d hi];simp only[J4i,List.getD_eq_getElem?_getD,C.vss_get];rw[List.getElem?_append_right (by omega),hlen]
theorem Q0K {z z':List C} {rows rows':List (List C)} {p m:Nat} (h:p+m<=rows.length) (h':m<=rows'.length) (hz:J3z (C.vs z)=J3z (C.vs z')) :
 Q4I (J4i (C.vs z) (C.vss rows)) p m (J4i (C.vs z') (C.vss rows'))=J4i (C.vs z) (C.vss (rows.take p++rows'.take m++rows.drop (p+m))):=by
 funext i j;have hl:(rows'.take m).length=m:=by simp;omega
 have hs:=J0M rows (rows'.take m) p (by omega) i;rw[hl] at hs;simp only[Q4I,J4i,List.getD_eq_getElem?_getD,C.vss_get,hs];by_cases h1:i<p
 . rw[if_neg (by omega),if_pos h1]
 . by_cases h2:i<p+m
   . rw[if_pos ⟨by omega,h2⟩,if_neg h1,if_pos h2,List.getElem?_take,if_pos (by omega)];have:i-p<rows'.length:=by omega
     simp[this,hz]
   . rw[if_neg (by omega),if_neg h1,if_neg h2]
noncomputable def apK {α β:Type} (n:Nat):List α->List α->(List α->Option β)->Option β :=
 @Nat.rec (fun _=>List α->List α->(List α->Option β)->Option β) (fun _ l K=>K l) (fun _ ih q l K=>@List.rec α (fun _=>Option β) none (fun x r _=>ih r l fun o=>K (x::o)) q) n
theorem X2j {α β:Type} (n:Nat) (q l:List α) (K:List α->Option β):apK n q l K=if n<=q.length then K (q.take n++l) else none:=by
 induction n generalizing q K with
 | zero=>simp only[Nat.zero_le,if_true,List.take_zero,List.nil_append];rfl
 | succ n ih=>cases q with
   | nil=>rfl
   | cons x r =>
     show apK n r l (fun o=>K (x::o))=_;rw[ih];simp
structure R where
 v:C
 o:J0z
 k:Nat
def KB:Nat:=1000000
def ksV (k:Nat):List Nat:=List.range' k (KB-k)
theorem Q93 {k:Nat} (h:k<KB):ksV k=k::ksV (k+1):=by
 unfold ksV;rw[show KB-k=(KB-(k+1))+1 by omega,List.range'_succ]
noncomputable def frC {β:Type} (k:Nat) (K:Nat->Nat->Option β):Option β:=match Nat.blt k KB with
 | true=>fN (Nat.succ k) fun k'=>K k k'
 | false=>none
theorem J3L {β:Type} {k:Nat} {K:Nat->Nat->Option β} {out:β} (h:frC k K=some out):K k (k+1)=some out/\∀Kp:Nat->List Nat->Prop,Kp k (ksV (k+1))->fresh (ksV k) Kp:=by
 unfold frC at h;split at h
 . rename_i hb;rw[J4c] at h;refine⟨h,fun Kp hK=>?_⟩;rw[Q93 (Nat.le_of_ble_eq_true hb)];exact hK
 . cases h
noncomputable def X6P (n bytes:Nat) {β:Type} (K:Option β):Option β:=match Nat.ble (n*bytes) 140737488355328 with
 | true=>match Nat.ble n 9223372036854775807 with|true=>K|false=>none
 | false=>none
theorem Q2n {n bytes:Nat} {β:Type} {K:Option β} {out:β} (h:X6P n bytes K=some out):n*bytes<=140737488355328/\n<=9223372036854775807/\K=some out:=by
 unfold X6P at h;split at h
 . rename_i h1;split at h
   . rename_i h2;exact⟨Nat.le_of_ble_eq_true h1,Nat.le_of_ble_eq_true h2,h⟩
   . cases h
 . cases h
noncomputable def X0S (own:J0z) (ks s bytes k lo len m:Nat) (rows:List (List C)) (z':List C) (rows':List (List C)):Option R :=
 X6P (len+m) bytes (frC ks fun k' ks=>deC k own fun own'=>apK len (dr rows lo) rows' fun q=>fN (len+m) fun n=>some ⟨.vec k' s 0 n,(k',.vec n s z' q)::own',ks⟩)
noncomputable def X6J (own:J0z) (ks s bytes:Nat) (x y:C):Option R :=
 match X7o own s y with
 | some (m,z',rows')=>match x with
   | .nilslice=>X6P m bytes (frC ks fun k' ks=>some ⟨.vec k' s 0 m,(k',.vec m s z' rows')::own,ks⟩)
   | .fz 0 _ true _ _=>X6P m bytes (frC ks fun k' ks=>some ⟨.vec k' s 0 m,(k',.vec m s z' rows')::own,ks⟩)
   | .vec k s' lo len=>match lk own k with
     | some (.vec n s'' z rows)=>match Nat.beq s s' with
       | true=>match Nat.beq s s'' with
         | true=>match Nat.ble (lo+len) n with
           | true=>match Q9A z z' with
            | false=>none
            | true=>match Nat.beq (lo+len) n with
             | true=>X0S own ks s bytes k lo len m rows z' rows'
             | false=>match Nat.ble (lo+len+m) n with
               | true=>match Nat.ble 1 m with
                 | true=>tk m rows' fun q=>stC rows (lo+len) q fun J97=>upC k (.vec n s z J97) own fun own'=>fN (len+m) fun n'=>some ⟨.vec k s lo n',own',ks⟩
                 | false=>none
               | false=>X0S own ks s bytes k lo len m rows z' rows'
           | false=>none
         | false=>none
       | false=>none
     | _=>none
   | _=>none
 | none=>none
theorem Q3V {own:J0z} {ks s bytes k lo len n m:Nat} {z:List C} {rows:List (List C)} {z':List C} {rows':List (List C)} {r:R} {K:V->Own->List Nat->Prop} (hle:lo+len<=n) (hz:J3z (C.vs z)=J3z (C.vs z'))
 (h:X0S own ks s bytes k lo len m rows z' rows'=some r) (hK:K r.v.v (J0I r.o) (ksV r.k)) :
 Q5n (J0I own) (ksV ks) s bytes k lo len n m (J4i (C.vs z) (C.vss rows)) (J4i (C.vs z') (C.vss rows')) K:=by
 unfold X0S at h;obtain⟨a1,a2,h⟩:=Q2n h;obtain⟨h,b1⟩:=J3L h;obtain⟨o',h,c1⟩:=Q7R h;rw[X2j] at h;split at h
 . rename_i hl;rw[J4c] at h;cases h;rw[J9l,List.length_drop] at hl;unfold Q5n;refine⟨hle,a1,a2,b1 _ (c1 _ ?_)⟩;by_cases h0:len=0
   . subst h0;simp only[J5p];simpa[C.v,J0I,CB.b,J9l] using hK
   . rw[Q7z (by omega) hz];simpa[C.v,J0I,CB.b,J9l] using hK
 . cases h
theorem Q2h {own:J0z} {ks s bytes:Nat} {x y:C} {r:R} {K:V->Own->List Nat->Prop} (h:X6J own ks s bytes x y=some r) (hK:K r.v.v (J0I r.o) (ksV r.k)):X1h (J0I own) (ksV ks) s bytes x.v y.v K:=by
 unfold X6J at h;split at h
 . rename_i m z' rows' hsrc;refine Q7T hsrc ?_;split at h
   . obtain⟨a1,a2,h⟩:=Q2n h;obtain⟨h,b1⟩:=J3L h;cases h;simp only[C.v];exact⟨a1,a2,b1 _ (by simpa[C.v,J0I,CB.b] using hK)⟩
   . obtain⟨a1,a2,h⟩:=Q2n h;obtain⟨h,b1⟩:=J3L h;cases h;simp only[C.v];exact⟨a1,a2,b1 _ (by simpa[C.v,J0I,CB.b] using hK)⟩
   . rename_i k s' lo len;simp only[C.v];split at h
     . rename_i n s'' z rows hl;rw[J0v hl];simp only[CB.b];split at h
       . rename_i h1;split at h
         . rename_i h2;simp only[h1,h2];split at h
           . rename_i h3;have h3:=Nat.le_of_ble_eq_true h3;split at h
             . cases h
             rename_i hz;have hz:=Q2V hz;split at h
             . rename_i h4;exact⟨fun _=>Q3V h3 hz h hK,fun e=>by rw[h4] at e;cases e⟩
             . rename_i h4;refine⟨fun e=>(by rw[h4] at e;cases e),fun _=>?_⟩;split at h
               . rename_i h5;refine⟨fun _=>?_,fun e=>(by rw[h5] at e;cases e)⟩;split at h
                 . rename_i h6;have h6:=Nat.le_of_ble_eq_true h6;have e1:=Nat.eq_of_beq_eq_true h1;subst e1;rw[Q9q] at h;split at h
                   . rename_i h7;obtain⟨J97,g1,g2,g3,g4,g5⟩:=J5F _ _ _ _ _ h;obtain⟨o',c1,c2⟩:=J6o g1;rw[J4c] at c1;cases c1;have hl:(rows'.take m).length=m:=by simp;omega
                     have g3:=g3 (fun e=>by rw[e] at hl;simp at hl;omega);rw[hl] at g3 g4;rw[Q0K g3 h7 hz];have:=c2 (fun own'=>K (.vec k s lo (len+m)) own' (ksV ks)) (by simpa[C.v] using hK);simp only[CB.b,g4] at this;exact this
                   . cases h
                 . cases h
               . rename_i h5;exact⟨fun e=>(by rw[h5] at e;cases e),fun _=>Q3V h3 hz h hK⟩
           . cases h
         . cases h
       . cases h
     . cases h
   . cases h
 . cases h
noncomputable def X4r (own:J0z) (ks s bytes:Nat) (x y:C):Option R :=
 match y with
 | .vec k s' lo len=>match lk own k with
   | some (.cells _)=>X7r own (.vec k s' lo len) fun y' own'=>X6J own' ks s bytes x y'
   | _=>X6J own ks s bytes x (.vec k s' lo len)
 | y=>X6J own ks s bytes x y
theorem X0T {own:J0z} {ks s bytes:Nat} {x y:C} {r:R} {K:V->Own->List Nat->Prop} (h:X4r own ks s bytes x y=some r) (hK:K r.v.v (J0I r.o) (ksV r.k)):Q1w (J0I own) (ksV ks) s bytes x.v y.v K:=by
 unfold X4r at h;split at h
 . rename_i k s' lo len;split at h
   . rename_i cs hl;obtain⟨v',o1,a1,a2⟩:=Q8g h;simp only[C.v,Q1w];rw[J0v hl];simp only[CB.b];have:=a2 (fun y' own'=>X1h own' (ksV ks) s bytes x.v y' K) (Q2h a1 hK);simpa only[C.v] using this
   . rename_i hne;have:=Q2h h hK;simp only[C.v] at this;simp only[C.v,Q1w];split
     . rename_i cs hl;exfalso;rw[J0I,J2n,<- J7K] at hl;cases hq:lk own k with
       | none=>rw[hq] at hl;cases hl
       | some b=>cases b with
         | cells cs=>exact hne _ hq
         | _=>rw[hq] at hl;cases hl
     . exact this
 . rename_i hne;have:=Q2h h hK;cases y<;>first
    | exact(hne _ _ _ _ rfl).elim
    | (simp only[C.v] at this ⊢;simp only[Q1w];exact this)
noncomputable def mkR (c:Option C) (own:J0z) (ks:Nat):Option R:=match c with
 | some v=>some ⟨v,own,ks⟩
 | none=>none
theorem Q0m {c:Option C} {own:J0z} {ks:Nat} {r:R} (h:mkR c own ks=some r):c=some r.v/\r.o=own/\r.k=ks:=by
 unfold mkR at h;split at h
 . cases h;exact⟨rfl,rfl,rfl⟩
 . cases h
noncomputable def Q8j (env:J1d):List (Nat×Nat×X)->List C->Option (List C)
 | [],zs=>some zs
 | (off,size,x)::r,zs=>match gx x env with
   | some v=>match J7s size v with
     | some vs=>match Nat.ble (off+size) (ln zs) with
       | true=>stC zs off vs fun zs'=>Q8j env r zs'
       | false=>none
     | none=>none
   | none=>none
theorem Q3P {env:J1d}:∀{ps:List (Nat×Nat×X)} {zs out:List C} {K:List V->Prop},Q8j env ps zs=some out->K (C.vs out)->Q11 (J2Y env) ps (C.vs zs) K
 | [],zs,out,K,h,hK=>by simp only[Q8j,Option.some.injEq] at h;subst h;simpa[Q11] using hK
 | (off,size,x)::r,zs,out,K,h,hK=>by
   simp only[Q8j] at h;split at h
   . rename_i v hv;split at h
     . rename_i vs hvs;split at h
       . rename_i hle;obtain⟨a1,a2,a3,a4⟩:=J3O hvs;obtain⟨zs',b1,b2,b3,b4,b5⟩:=J5F _ _ _ _ _ h;simp only[Q11];refine J0A hv (J3g a1 ?_);rw[Q9X] at hle;have hle':Nat.ble (off+size) (C.vs zs).length=true:=by rw[C.vs_length];exact hle
         simp only[a3,a4,hle'];rw[C.vs_map,C.vs_map];refine b5 C.v _ ?_;have:=Q3P b1 hK
         rwa[C.vs_map] at this
       . cases h
     . cases h
   . cases h
noncomputable def Q7W (s:Nat):List C->Option (List (List C))
 | []=>some []
 | v::r=>match J7s s v with
   | some vs=>match J8C Q8U vs with
     | true=>match Q7W s r with
       | some l=>some (vs::l)
       | none=>none
     | false=>none
   | none=>none
theorem Q3F {s:Nat}:∀{l:List C} {rs:List (List C)} {K:List (List V)->Prop},Q7W s l=some rs->K (C.vss rs)->Q4l s (C.vs l) K
 | [],rs,K,h,hK=>by simp only[Q7W,Option.some.injEq] at h;subst h;simpa[Q4l,C.vs,C.vss] using hK
 | v::r,rs,K,h,hK=>by
   simp only[Q7W] at h;split at h
   . rename_i vs hvs;split at h
     . rename_i hkf;split at h
       . rename_i l hl;cases h;obtain⟨a1,a2,a3,a4⟩:=J3O hvs;simp only[C.vs,Q4l];refine J3g a1 ?_;have hkf':J2K V.kf1 (C.vs vs)=true:=by rw[J2Z J9d];exact hkf
         simp only[a3,a4,hkf'];exact Q3F hl (by simpa[C.vss] using hK)
       . cases h
     . cases h
   . cases h
noncomputable def Q8h (s:Nat):List C->Option (List C)
 | []=>some []
 | v::r=>match J7s s v with
   | some vs=>match Q8h s r with
     | some l=>apK s vs l some
     | none=>none
   | none=>none
theorem Q3O {s:Nat}:∀{l rs:List C} {K:List V->Prop},Q8h s l=some rs->K (C.vs rs)->Q4J s (C.vs l) K
 | [],rs,K,h,hK=>by simp only[Q8h,Option.some.injEq] at h;subst h;simpa[Q4J,C.vs] using hK
 | v::r,rs,K,h,hK=>by
   simp only[Q8h] at h;split at h
   . rename_i vs hvs;split at h
     . rename_i l hl;obtain⟨a1,a2,a3,a4⟩:=J3O hvs;rw[X2j,if_pos (by omega),<- a2,List.take_length] at h;cases h;simp only[C.vs,Q4J];refine J3g a1 ?_;simp only[a3,a4];refine Q3O hl ?_;simpa[C.vs_map] using hK
     . cases h
   . cases h
noncomputable def X4S {α:Type} (n:Nat) (x:α):List α:=@Nat.rec (fun _=>List α) [] (fun _ ih=>x::ih) n
theorem J8X {α:Type} (n:Nat) (x:α):X4S n x=List.replicate n x:=by
 induction n with
 | zero=>rfl
 | succ n ih=>show x::X4S n x=_;rw[ih];rfl
noncomputable def fL {α β:Type} (l:List α):(List α->β)->β:=@List.rec α (fun _=>(List α->β)->β) (fun K=>K []) (fun x _ ih K=>ih fun r=>K (x::r)) l
theorem J4Z {α β:Type}:∀(l:List α) (K:List α->β),fL l K=K l
 | [],_=>rfl
 | x::r,K=>J4Z r fun r=>K (x::r)
noncomputable def mfI (es:List (Int×C)) (a:Int):Option C:=@List.rec (Int×C) (fun _=>Option C) none (fun p _ ih=>match ieq p.1 a with|true=>some p.2|false=>ih) es
theorem X1K {ik:IntKind}:∀(es:List (Int×C)) (a:Int),J1H (α:=KyT (.one ik)) (es.map fun p=>(p.1,p.2.v)) a=(mfI es a).map C.v
 | [],a=>rfl
 | (q,c)::r,a=>by
   have ih:=X1K (ik:=ik) r a;have e:mfI ((q,c)::r) a=match ieq q a with|true=>some c|false=>mfI r a:=rfl
   rw[e];simp only[List.map_cons,J1H,ih];have:=J4V q a;by_cases h:q=a
   . rw[if_pos h];subst h;simp[this]
   . rw[if_neg h];have:ieq q a=false:=by rw[this];simpa using h
     rw[this]
noncomputable def mpI (es:List (Int×C)) (a:Int) (v:C):List (Int×C):=@List.rec (Int×C) (fun _=>List (Int×C)) [(a,v)] (fun p r ih=>match ieq p.1 a with|true=>(p.1,v)::r|false=>p::ih) es
theorem X1H {ik:IntKind}:∀(es:List (Int×C)) (a:Int) (v:C),mput (α:=KyT (.one ik)) (es.map fun p=>(p.1,p.2.v)) a v.v=(mpI es a v).map fun p=>(p.1,p.2.v)
 | [],a,v=>rfl
 | (q,c)::r,a,v=>by
   have ih:=X1H (ik:=ik) r a v;have e:mpI ((q,c)::r) a v=match ieq q a with|true=>(q,v)::r|false=>(q,c)::mpI r a v:=rfl
   rw[e];simp only[List.map_cons,mput,ih];have:=J4V q a;by_cases h:q=a
   . rw[if_pos h];subst h;simp[this]
   . rw[if_neg h];have:ieq q a=false:=by rw[this];simpa using h
     rw[this];simp
noncomputable def mfS (es:List ((Nat×Nat)×C)) (l d:Nat):Option C:=@List.rec ((Nat×Nat)×C) (fun _=>Option C) none (fun p _ ih=>match eqS p.1.1 p.1.2 l d with|true=>some p.2|false=>ih) es
theorem J9j {l c l' c':Nat}:eqS l c l' c'=true↔J0q l c=J0q l' c':=by rw[Q3A];exact Go.MapKept.bytes_beq _ _
theorem X1J:∀(es:List ((Nat×Nat)×C)) (l d:Nat),J1H (α:=KyT .str) (es.map fun p=>(J0q p.1.1 p.1.2,p.2.v)) (J0q l d)=(mfS es l d).map C.v
 | [],l,d=>rfl
 | ((q1,q2),c)::r,l,d=>by
   have ih:=X1J r l d;have e:mfS (((q1,q2),c)::r) l d=match eqS q1 q2 l d with|true=>some c|false=>mfS r l d:=rfl
   rw[e];simp only[List.map_cons,J1H,ih];by_cases h:J0q q1 q2=J0q l d
   . rw[if_pos h,J9j.2 h];rfl
   . rw[if_neg h];have:eqS q1 q2 l d=false:=by rw[<- Bool.not_eq_true];exact fun e=>h (J9j.1 e)
     rw[this]
noncomputable def mpS (es:List ((Nat×Nat)×C)) (l d:Nat) (v:C):List ((Nat×Nat)×C):=@List.rec ((Nat×Nat)×C) (fun _=>List ((Nat×Nat)×C)) [((l,d),v)] (fun p r ih=>match eqS p.1.1 p.1.2 l d with|true=>(p.1,v)::r|false=>p::ih) es
theorem X1G:∀(es:List ((Nat×Nat)×C)) (l d:Nat) (v:C),mput (α:=KyT .str) (es.map fun p=>(J0q p.1.1 p.1.2,p.2.v)) (J0q l d) v.v=(mpS es l d v).map fun p=>(J0q p.1.1 p.1.2,p.2.v)
 | [],l,d,v=>rfl
 | ((q1,q2),c)::r,l,d,v=>by
   have ih:=X1G r l d v;have e:mpS (((q1,q2),c)::r) l d v=match eqS q1 q2 l d with|true=>((q1,q2),v)::r|false=>((q1,q2),c)::mpS r l d v:=rfl
   rw[e];simp only[List.map_cons,mput,ih];by_cases h:J0q q1 q2=J0q l d
   . rw[if_pos h,J9j.2 h];rfl
   . rw[if_neg h];have:eqS q1 q2 l d=false:=by rw[<- Bool.not_eq_true];exact fun e=>h (J9j.1 e)
     rw[this];rfl
noncomputable def X6h (z:V) (comma:Bool) (own:J0z) (ks:Nat) (o:Option C):Option R :=
 match o with
 | some v=>match comma with|true=>some ⟨.tup [v,.bool true],own,ks⟩|false=>some ⟨v,own,ks⟩
 | none=>match ofV z with
   | some c=>match comma with|true=>some ⟨.tup [c,.bool false],own,ks⟩|false=>some ⟨c,own,ks⟩
   | none=>none
def X7i (comma:Bool) (b:Bool) (K:V->Prop) (v:V):Prop:=match comma with|true=>K (.tup [v,.bool b])|false=>K v
theorem Q7m {z:V} {comma:Bool} {own:J0z} {ks:Nat} {o:Option C} {r:R} {K:V->Own->List Nat->Prop} (h:X6h z comma own ks o=some r) (hK:K r.v.v (J0I r.o) (ksV r.k)) {o':Option V} (ho:o'=o.map C.v) :
 X7t o' (X7i comma true fun v=>K v (J0I own) (ksV ks)) (X7i comma false (fun v=>K v (J0I own) (ksV ks)) z):=by
 subst ho;cases o with
 | some v =>
   refine⟨fun v' hv=>?_,fun e=>(by cases e)⟩;cases hv;cases comma<;>(simp only[X6h,Option.some.injEq] at h;subst h;simpa[C.v,C.vs,X7i] using hK)
 | none =>
   refine⟨fun v' hv=>(by cases hv),fun _=>?_⟩;simp only[X6h] at h;split at h
   . rename_i c hc;have:=X1A z hc;subst this;cases comma<;>(simp only[Option.some.injEq] at h;subst h;simpa[C.v,C.vs,X7i] using hK)
   . cases h
noncomputable def X1Y (o:XOp) (env:J1d) (own:J0z) (ks:Nat):Option R :=
 match o with
 | .mks s bytes zs x=>match gx x env with
   | some (.int _ (.ofNat m))=>match Nat.ble m 4611686018427387904 with
     | true=>match Nat.ble (m*bytes) 140737488355328 with
       | true=>match X4U zs with
         | some zc=>frC ks fun k ks=>match s with
           | 1=>match zc with
             | [.nilslice]=>fL (X4S m C.nilslice) fun l=>some ⟨.vec k 1 0 m,(k,.cells l)::own,ks⟩
             | zc=>fL (X4S m zc) fun l=>fL (List.append zc [.bool false]) fun z=>some ⟨.vec k 1 0 m,(k,.vec m 1 z l)::own,ks⟩
           | s=>fL (X4S m zc) fun l=>fL (List.append zc [.bool false]) fun z=>some ⟨.vec k s 0 m,(k,.vec m s z l)::own,ks⟩
         | none=>none
       | false=>none
     | false=>none
   | _=>none
 | .mkmap ik=>match ik with
   | .one ik=>frC ks fun k ks=>some ⟨.map k,(k,.map ik [])::own,ks⟩
   | .str=>frC ks fun k ks=>some ⟨.map k,(k,.mapS [])::own,ks⟩
   | .pair _=>none
   | .st _=>none
 | .mget ik z comma m x=>match gx m env with
   | some (.map k)=>match gx x env with
     | some x=>match lk own k with
       | some (.map ik' es)=>match ik with
         | .one i=>match kEq ik' i with
           | true=>match x with
             | .int i' a=>match kEq i' ik' with
               | true=>X6h z comma own ks (mfI es a)
               | false=>none
             | _=>none
           | false=>none
         | _=>none
       | some (.mapS es)=>match ik with
         | .str=>match x with
           | .str l d=>X6h z comma own ks (mfS es l d)
           | _=>none
         | _=>none
       | _=>none
     | none=>none
   | _=>none
 | .mput ik m x y=>match gx m env with
   | some (.map k)=>match gx x env with
     | some x=>match gx y env with
       | some y=>match Q46 y with
         | true=>match lk own k with
           | some (.map ik' es)=>match ik with
             | .one i=>match kEq ik' i with
               | true=>match x with
                 | .int i' a=>match kEq i' ik' with
                   | true=>fL (mpI es a y) fun es'=>upC k (.map ik' es') own fun own'=>some ⟨.unit,own',ks⟩
                   | false=>none
                 | _=>none
               | false=>none
             | _=>none
           | some (.mapS es)=>match ik with
             | .str=>match x with
               | .str l d=>fL (mpS es l d y) fun es'=>upC k (.mapS es') own fun own'=>some ⟨.unit,own',ks⟩
               | _=>none
             | _=>none
           | _=>none
         | false=>none
       | none=>none
     | none=>none
   | _=>none
 | .asl n s x hi=>match gx x env with
   | some (.oel k s' i j)=>match i with
     | 0=>match j with
       | 0=>match lk own k with
         | some (.vec n' s'' z rows)=>match Nat.beq s s' with
           | true=>match Nat.beq s s'' with
             | true=>match Nat.ble n n' with
               | true=>match cbd hi env n n with
                 | some h=>Y0C (Q4L [k] own) fun own'=>some ⟨.fz h s false z rows,own',ks⟩
                 | none=>none
               | false=>none
             | false=>none
           | false=>none
         | _=>none
       | _=>none
     | _=>none
   | _=>none
 | .cpy s x y=>match gx x env with
   | some (.vec k s' lo len)=>match gx y env with
     | some y=>match X7o own s y with
       | some (m,z',rows')=>match lk own k with
         | some (.vec n s'' z rows)=>match Nat.beq s s' with
           | true=>match Nat.beq s s'' with
             | true=>match Nat.ble m len with
               | true=>match Nat.ble (lo+m) n with
                 | true=>match Q9A z z' with
                   | true=>match Nat.ble 1 m with
                     | true=>tk m rows' fun q=>stC rows lo q fun J97=>upC k (.vec n s z J97) own fun own'=>fN m fun m'=>some ⟨.int .i64 (.ofNat m'),own',ks⟩
                     | false=>none
                   | false=>none
                 | false=>none
               | false=>none
             | false=>none
           | false=>none
         | _=>none
       | none=>none
     | none=>none
   | _=>none
 | _=>none
theorem Q62 (l:List V) (v:V):J3z (l++[v])=v:=by
 induction l with
 | nil=>rfl
 | cons x r ih =>
   cases r with
   | nil=>rfl
   | cons y r=>simpa[J3z] using ih
theorem Q3a (z:List C) (m:Nat):(fun(_:Nat) j=>(C.vs z).getD j default)=J4i (C.vs (z.append [.bool false])) (C.vss (List.replicate m z)):=by
 funext i j;have e:C.vs (z.append [.bool false])=C.vs z++[default]:=by rw[C.vs_map,C.vs_map];simp[C.v];rfl
 simp only[J4i,e,Q62];simp only[List.getD_eq_getElem?_getD,C.vss_get,List.getElem?_replicate];by_cases h:i<m
 . simp[h]
 . simp only[h,if_false,Option.map_none,Option.getD_none];by_cases h2:j<(C.vs z).length
   . rw[List.getElem?_append_left h2]
   . rw[List.getElem?_append_right (by omega),List.getElem?_eq_none (by omega)];cases j-(C.vs z).length<;>simp
theorem X37 {o:XOp} {env:J1d} {own:J0z} {ks:Nat} {r:R} {K:V->Own->List Nat->Prop} (h:X1Y o env own ks=some r) (hK:K r.v.v (J0I r.o) (ksV r.k)):Q5e o (J2Y env) (J0I own) (ksV ks) K:=by
 cases o with
 | mks s bytes zs x =>
   simp only[X1Y] at h;split at h
   case h_2=>cases h
   rename_i k m hx;split at h
   case h_2=>cases h
   rename_i h1;split at h
   case h_2=>cases h
   rename_i h2;split at h
   case h_2=>cases h
   rename_i zc hz;have hzs:=J6N zs hz;subst hzs;simp only[Q5e];refine J0A hx ?_;simp only[C.v];refine⟨m,rfl,Nat.le_of_ble_eq_true h1,Nat.le_of_ble_eq_true h2,?_⟩;obtain⟨h,b1⟩:=J3L h;refine b1 _ ?_;unfold X7e;split
   . split at h
     . split at h
       . rename_i hs _ _;rw[J4Z,J8X] at h;cases h;refine .cells ?_;have e1:(C.vs [C.nilslice]).getD 0 default=.nilslice:=by simp[C.vs,C.v]
         rw[e1];have e2:C.vs (List.replicate m C.nilslice)=List.replicate m .nilslice:=by rw[C.vs_map,List.map_replicate];simp[C.v]
         simp only[C.v,J0I,List.map_cons,CB.b,e2] at hK;exact hK
       . rw[J4Z,J8X,J4Z] at h;cases h;refine .vec ?_;rw[Q3a zc m];simpa[C.v,J0I,CB.b] using hK
     . rename_i hne;exact(hne rfl).elim
   . rename_i hne;split at h
     . exact(hne rfl).elim
     . rw[J4Z,J8X,J4Z] at h;cases h;rw[Q3a zc m];simpa[C.v,J0I,CB.b] using hK
 | mkmap ik =>
   simp only[X1Y] at h;split at h
   . obtain⟨h,b1⟩:=J3L h;cases h;simp only[Q5e];exact b1 _ (by simpa[C.v,J0I,CB.b] using hK)
   . obtain⟨h,b1⟩:=J3L h;cases h;simp only[Q5e];exact b1 _ (by simpa[C.v,J0I,CB.b] using hK)
   . cases h
   . cases h
 | mget ik z comma m x =>
   simp only[X1Y] at h;split at h
   case h_2=>cases h
   rename_i k hm;split at h
   case h_2=>cases h
   rename_i x' hx;simp only[Q5e];refine J0A hm (J0A hx ?_);split at h
   . rename_i ik' es hl;split at h
     . rename_i i;split at h
       . rename_i hk;have:=J5M hk;subst this;split at h
         . rename_i i' a;split at h
           . rename_i hk2;have:=J5M hk2;subst this;simp only[C.v,Q8T,J0v hl,CB.b,decide_true,J6K];have:=Q7m h hK (X1K (ik:=i') es a);cases comma<;>exact this
           . cases h
         . cases h
       . cases h
     . cases h
   . rename_i es hl;split at h
     . split at h
       . rename_i l d;simp only[C.v,Q8T,J0v hl,CB.b,decide_true,J6K];have:=Q7m h hK (X1J es l d);cases comma<;>exact this
       . cases h
     . cases h
   . cases h
 | mput ik m x y =>
   simp only[X1Y] at h;split at h
   case h_2=>cases h
   rename_i k hm;split at h
   case h_2=>cases h
   rename_i x' hx;split at h
   case h_2=>cases h
   rename_i y' hy;split at h
   case h_2=>cases h
   rename_i hkf;have hkf':y'.v.kf2=true:=by rw[J6W];exact hkf
   simp only[Q5e];refine J0A hm (J0A hx (J0A hy ?_));split at h
   . rename_i ik' es hl;split at h
     . rename_i i;split at h
       . rename_i hk;have:=J5M hk;subst this;split at h
         . rename_i i' a;split at h
           . rename_i hk2;have:=J5M hk2;subst this;rw[J4Z] at h;obtain⟨o',c1,c2⟩:=J6o h;cases c1;simp only[C.v,Q8T,J0v hl,CB.b,decide_true,J6K,hkf'];have:=c2 (fun own=>K (.raw (.tuple #[])) own (ksV ks)) (by simpa[C.v] using hK);simp only[CB.b] at this;have e:=X1H (ik:=i') es a y';rw[e];exact this
           . cases h
         . cases h
       . cases h
     . cases h
   . rename_i es hl;split at h
     . split at h
       . rename_i l d;rw[J4Z] at h;obtain⟨o',c1,c2⟩:=J6o h;cases c1;simp only[C.v,Q8T,J0v hl,CB.b,decide_true,J6K,hkf'];have:=c2 (fun own=>K (.raw (.tuple #[])) own (ksV ks)) (by simpa[C.v] using hK);simp only[CB.b] at this;have e:=X1G es l d y';rw[e];exact this
       . cases h
     . cases h
   . cases h
 | mrng x=>cases h
 | mnxt x=>cases h
 | ment x=>cases h
 | gix g n s x=>cases h
 | mln x=>cases h
 | asl n s x hi =>
   simp only[X1Y] at h;split at h
   case h_2=>cases h
   rename_i k s' i j hx;split at h
   case h_2=>cases h
   split at h
   case h_2=>cases h
   split at h
   case h_2=>cases h
   rename_i n' s'' z rows hl;split at h
   case h_2=>cases h
   rename_i h1;split at h
   case h_2=>cases h
   rename_i h2;split at h
   case h_2=>cases h
   rename_i h3;split at h
   case h_2=>cases h
   rename_i m hm;rw[Q14] at h;cases h;simp only[Q5e];refine J0A hx ?_;simp only[C.v,J0v hl,CB.b,h1,h2,h3];refine J2T hm ?_;rw[J9k];simpa[C.v] using hK
 | cpy s x y =>
   simp only[X1Y] at h;split at h
   case h_2=>cases h
   rename_i k s' lo len hx;split at h
   case h_2=>cases h
   rename_i y' hy;split at h
   case h_2=>cases h
   rename_i m z' rows' hsrc;split at h
   case h_2=>cases h
   rename_i n s'' z rows hl;split at h
   case h_2=>cases h
   rename_i h1;split at h
   case h_2=>cases h
   rename_i h2;split at h
   case h_2=>cases h
   rename_i h3;split at h
   case h_2=>cases h
   rename_i h4;split at h
   case h_2=>cases h
   rename_i hz;split at h
   case h_2=>cases h
   rename_i h6;have h6:=Nat.le_of_ble_eq_true h6;simp only[Q5e];refine J0A hx (J0A hy ?_);unfold vcpy;refine Q7T hsrc ?_;simp only[C.v,J0v hl,CB.b,h1,h2];have e1:=Nat.eq_of_beq_eq_true h1;subst e1;refine⟨Nat.le_of_ble_eq_true h3,Nat.le_of_ble_eq_true h4,?_⟩;rw[Q9q] at h;split at h
   . rename_i h7;obtain⟨J97,g1,g2,g3,g4,g5⟩:=J5F _ _ _ _ _ h;obtain⟨o',c1,c2⟩:=J6o g1;rw[J4c] at c1;cases c1;have hl:(rows'.take m).length=m:=by simp;omega
     have g3:=g3 (fun e=>by rw[e] at hl;simp at hl;omega);rw[hl] at g3 g4;rw[Q0K g3 h7 (Q2V hz)];have:=c2 (fun own'=>K (.int .i64 m) own' (ksV ks)) (by simpa[C.v] using hK);simp only[CB.b,g4] at this;exact this
   . cases h
def Q4d:C->Bool
 | .unit=>false
 | _=>true
noncomputable def X52:C->Bool
 | .tup vs=>J8C Q4d vs
 | v=>Q4d v
theorem Q6S {c:C} {K:V->Prop} (h:Q4d c=true) (hK:K c.v):Q9Z c.v K:=by
 cases c<;>simp only[Q4d,reduceCtorEq] at h<;>simp only[C.v] at hK<;>simp only[C.v,Q9Z]<;>first|exact hK|exact Q0V hK
theorem Q6R:∀{l:List C} {K:List V->Prop},J8C Q4d l=true->K (C.vs l)->X4W (C.vs l) K
 | [],K,_,hK=>by simpa[X4W,C.vs] using hK
 | c::r,K,h,hK=>by
   rw[Q1b,Bool.and_eq_true] at h;simp only[C.vs,X4W];exact Q6S h.1 (Q6R h.2 (by simpa[C.vs] using hK))
theorem X3r {c:C} {K:V->Prop} (h:X52 c=true) (hK:K c.v):Q9Y c.v K:=by
 by_cases ht:∃vs,c=.tup vs
 . obtain⟨vs,rfl⟩:=ht;simp only[C.v,Q9Y];exact Q6R h (by simpa[C.v] using hK)
 . have hu:Q4d c=true:=by
    cases c<;>first|exact h|exact(ht ⟨_,rfl⟩).elim
   have:=Q6S hu hK;cases c<;>first|exact(ht ⟨_,rfl⟩).elim|(simp only[C.v] at this ⊢;simp only[Q9Y];exact this)
abbrev J2J:=FuncId->List C->J0z->Nat->Option R
structure J8E (P:Program) (call:J2J):Prop where
 out:∀f args own ks r,call f args own ks=some r->J06 P f=true/\∀K:V->Own->List Nat->Prop,K r.v.v (J0I r.o) (ksV r.k)->J0J P f (C.vs args) (J0I own) (ksV ks) K
noncomputable def Q0R (call:J2J) (f:FuncId) (args:List C) (own:J0z) (ks:Nat):Option R:=match call f args own ks with
 | some r=>match X52 r.v with|true=>some r|false=>none
 | none=>none
noncomputable def o_p (b:Bool) (o:POp) (env:J1d) (own:J0z) (ks:Nat):Option R:=match o with
 | .slc s x lo hi mx same=>match mx with
   | none=>mkR (Y0H (match b with|true=>own|false=>[]) s x lo hi env) own ks
   | some mx=>match hi with
     | some hi=>mkR (X4a s x lo hi mx same env) own ks
     | none=>none
 | o=>mkR (J3f o env) own ks
noncomputable def X1B (sz:Option Nat) (x:X) (env:J1d) (own:J0z) (ks:Nat):Option R:=match gx x env with
 | some p=>mkR (X4g own sz p) own ks
 | none=>none
noncomputable def Q6m (sz:Nat) (a:X) (x:X) (env:J1d) (own:J0z) (ks:Nat):Option R:=match gx a env with
 | some p=>match gx x env with
   | some v=>Q16 own sz p v fun own'=>some ⟨.unit,own',ks⟩
   | none=>none
 | none=>none
noncomputable def X5N (x:X) (env:J1d) (own:J0z) (ks:Nat):Option R:=mkR (gx x env) own ks
noncomputable def X1C (call:J2J) (f:FuncId) (args:List X) (env:J1d) (own:J0z) (ks:Nat):Option R:=match gxs env args with
 | some vs=>Q0R call f vs own ks
 | none=>none
noncomputable def Q6n (call:J2J) (x:X) (args:List X) (env:J1d) (own:J0z) (ks:Nat):Option R:=match gx x env with
 | some (.fn (.func g) bd cap)=>match gxs env args with
   | some vs=>match bd with
     | true=>fL (List.append cap vs) fun l=>Q0R call g l own ks
     | false=>fL (List.append vs cap) fun l=>Q0R call g l own ks
   | none=>none
 | _=>none
noncomputable def Q6o (zs:List V) (ps:List (Nat×Nat×X)) (env:J1d) (own:J0z) (ks:Nat):Option R:=match X4U zs with
 | some zc=>match Q8j env ps zc with
   | some cs=>some ⟨.agg cs,own,ks⟩
   | none=>none
 | none=>none
noncomputable def Q6p (zs:List V) (env:J1d) (own:J0z) (ks:Nat):Option R:=match X4U zs with
 | some zc=>frC ks fun k ks=>some ⟨.loc k 0,(k,.cells zc)::own,ks⟩
 | none=>none
noncomputable def X5M (x:X) (env:J1d) (own:J0z) (ks:Nat):Option R:=match gx x env with
 | some v=>match Q3Q v with
   | some cs=>frC ks fun k ks=>some ⟨.loc k 0,(k,.cells cs)::own,ks⟩
   | none=>none
 | none=>none
noncomputable def Q25 (s:Nat) (n:Nat) (xs:List X) (env:J1d) (own:J0z) (ks:Nat):Option R:=match gxs env xs with
 | some vs=>match J8C Q46 vs with
   | true=>match Q7W s vs with
     | some rs=>frC ks fun k ks=>some ⟨.vec k s 0 n,(k,.vec n s [] rs)::own,ks⟩
     | none=>none
   | false=>match Q8h s vs with
     | some cs=>frC ks fun k ks=>some ⟨.vec k s 0 n,(k,.cells cs)::own,ks⟩
     | none=>none
 | none=>none
noncomputable def X5O (s:Nat) (bytes:Nat) (x:X) (y:X) (env:J1d) (own:J0z) (ks:Nat):Option R:=match gx x env with
 | some a=>match gx y env with
   | some c=>X4r own ks s bytes a c
   | none=>none
 | none=>none
noncomputable def o_xt (o:XOp) (env:J1d) (own:J0z) (ks:Nat):Option R:=X1Y o env own ks
noncomputable def Q26 (n:Nat) (z:V) (_:J1d) (own:J0z) (ks:Nat):Option R:=match X4V z with
 | some c=>frC ks fun k ks=>fL (X4S n [c]) fun l=>some ⟨.oel k 1 0 0,(k,.vec n 1 [c] l)::own,ks⟩
 | none=>none
theorem Q2p (z:C) (m:Nat):(fun(_ _:Nat)=>z.v)=J4i (C.vs [z]) (C.vss (List.replicate m [z])):=by
 funext i j;simp only[J4i,C.vs,J3z];simp only[List.getD_eq_getElem?_getD,C.vss_get,List.getElem?_replicate];by_cases h:i<m
 . cases j<;>simp[h,C.vs]
 . cases j<;>simp[h]
noncomputable def cop (call:J2J) (b:Bool) (op:SOp) (env:J1d) (own:J0z) (ks:Nat):Option R :=
 match op with
 | .p o=>o_p b o env own ks
 | .load sz x=>X1B sz x env own ks
 | .store sz a x=>Q6m sz a x env own ks
 | .asg x=>X5N x env own ks
 | .call f args=>X1C call f args env own ks
 | .callv x args=>Q6n call x args env own ks
 | .build zs ps=>Q6o zs ps env own ks
 | .alloc zs=>Q6p zs env own ks
 | .box x=>X5M x env own ks
 | .bslice s n xs=>Q25 s n xs env own ks
 | .app s bytes x y=>X5O s bytes x y env own ks
 | .xt o=>o_xt o env own ks
 | .clr _ _ _=>none
 | .alloca n z=>Q26 n z env own ks
def X4O (b:Bool) (P:Program) (op:SOp) (env:Env) (own:Own) (ks:List Nat) (K:V->Own->List Nat->Prop):Prop :=
 match b with
 | true=>Q2z P op env own ks K
 | false=>vop P op env own ks K
theorem J1X {b:Bool} {P:Program} {op:SOp} {env:Env} {own:Own} {ks:List Nat} {K:V->Own->List Nat->Prop} (hne:∀s x lo hi mx same,op≠.p (.slc s x lo hi mx same)) (h:vop P op env own ks K):X4O b P op env own ks K:=by
 cases b with
 | false=>exact h
 | true =>
   show Q2z P op env own ks K;unfold Q2z;split
   . exact(hne _ _ _ _ _ _ rfl).elim
   . exact h
theorem J7g {P:Program} {call:J2J} (hcall:J8E P call) {f:FuncId} {args:List C} {own:J0z} {ks:Nat} {r:R} {K:V->Own->List Nat->Prop} (h:Q0R call f args own ks=some r) (hK:K r.v.v (J0I r.o) (ksV r.k)) :
 J06 P f=true/\J0J P f (C.vs args) (J0I own) (ksV ks) fun v own ks=>Q9Y v fun v=>K v own ks:=by
 unfold Q0R at h;split at h
 . rename_i r' hr;split at h
   . rename_i hl;cases h;obtain⟨a,b⟩:=hcall.out _ _ _ _ _ hr;exact⟨a,b _ (X3r hl hK)⟩
   . cases h
 . cases h
theorem Q7X {P:Program} {call:J2J} (hcall:J8E P call) {b:Bool} {op:SOp} {env:J1d} {own:J0z} {ks:Nat} {r:R} {K:V->Own->List Nat->Prop} (h:cop call b op env own ks=some r) (hK:K r.v.v (J0I r.o) (ksV r.k)) :
 X4O b P op (J2Y env) (J0I own) (ksV ks) K:=by
 cases op with
 | p o =>
   simp only[cop,o_p] at h;split at h
   . split at h
     . rename_i s x lo hi mx same _;obtain⟨h1,h2,h3⟩:=Q0m h;rw[h2,h3] at hK;cases b with
       | true =>
         simp only[X4O,Q2z];exact Q7V h1 hK
       | false =>
         simp only[X4O,vop,J2y];exact Q7V (own:=[]) h1 hK
     . split at h
       . obtain⟨h1,h2,h3⟩:=Q0m h;rw[h2,h3] at hK;cases b with
         | true=>simp only[X4O,Q2z];exact Q3E h1 hK
         | false=>simp only[X4O,vop,J2y];exact Q3E h1 hK
       . cases h
   . rename_i hne;obtain⟨h1,h2,h3⟩:=Q0m h;rw[h2,h3] at hK;refine J1X (fun s x lo hi mx same e=>?_) ?_
     . cases e;exact hne _ _ _ _ _ _ rfl
     . simp only[vop];exact X0A h1 hK
 | load sz x =>
   refine J1X (fun _ _ _ _ _ _ e=>by cases e) ?_;simp only[cop,X1B] at h;split at h
   . rename_i p hp;obtain⟨h1,h2,h3⟩:=Q0m h;rw[h2,h3] at hK;simp only[vop];exact J0A hp (X0G h1 hK)
   . cases h
 | store sz a x =>
   refine J1X (fun _ _ _ _ _ _ e=>by cases e) ?_;simp only[cop,Q6m] at h;split at h
   . rename_i p hp;split at h
     . rename_i v hv;obtain⟨o',c1,c2⟩:=Q4M h;cases c1;simp only[vop];exact J0A hp (J0A hv (c2 _ (by simpa[C.v] using hK)))
     . cases h
   . cases h
 | asg x =>
   refine J1X (fun _ _ _ _ _ _ e=>by cases e) ?_;simp only[cop,X5N] at h;obtain⟨h1,h2,h3⟩:=Q0m h;rw[h2,h3] at hK;simp only[vop];exact J0A h1 hK
 | call f args =>
   refine J1X (fun _ _ _ _ _ _ e=>by cases e) ?_;simp only[cop,X1C] at h;split at h
   . rename_i vs hvs;simp only[vop];exact Q0E hvs (J7g hcall h hK).2
   . cases h
 | callv x args =>
   refine J1X (fun _ _ _ _ _ _ e=>by cases e) ?_;simp only[cop,Q6n] at h;split at h
   . rename_i g bd cap hx;split at h
     . rename_i vs hvs;simp only[vop];refine J0A hx (Q0E hvs ?_);simp only[C.v,X2y];cases bd with
       | true =>
         simp only at h;rw[J4Z] at h;obtain⟨a1,a2⟩:=J7g hcall h hK;refine⟨a1,?_⟩;have e:C.vs (cap.append vs)=C.vs cap++C.vs vs:=by rw[C.vs_map,C.vs_map,C.vs_map];simp
         rw[e] at a2;exact a2
       | false =>
         simp only at h;rw[J4Z] at h;obtain⟨a1,a2⟩:=J7g hcall h hK;refine⟨a1,?_⟩;have e:C.vs (vs.append cap)=C.vs vs++C.vs cap:=by rw[C.vs_map,C.vs_map,C.vs_map];simp
         rw[e] at a2;exact a2
     . cases h
   . cases h
 | build zs ps =>
   refine J1X (fun _ _ _ _ _ _ e=>by cases e) ?_;simp only[cop,Q6o] at h;split at h
   . rename_i zc hz;have:=J6N zs hz;subst this;split at h
     . rename_i cs hcs;cases h;simp only[vop];exact Q3P hcs (by simpa[C.v] using hK)
     . cases h
   . cases h
 | alloc zs =>
   refine J1X (fun _ _ _ _ _ _ e=>by cases e) ?_;simp only[cop,Q6p] at h;split at h
   . rename_i zc hz;have:=J6N zs hz;subst this;obtain⟨h,b1⟩:=J3L h;cases h;simp only[vop];exact b1 _ (by simpa[C.v,J0I,CB.b] using hK)
   . cases h
 | box x =>
   refine J1X (fun _ _ _ _ _ _ e=>by cases e) ?_;simp only[cop,X5M] at h;split at h
   . rename_i v hv;split at h
     . rename_i cs hcs;obtain⟨h,b1⟩:=J3L h;cases h;simp only[vop];exact J0A hv (J3g hcs (b1 _ (by simpa[C.v,J0I,CB.b] using hK)))
     . cases h
   . cases h
 | bslice s n xs =>
   refine J1X (fun _ _ _ _ _ _ e=>by cases e) ?_;simp only[cop,Q25] at h;split at h
   . rename_i vs hvs;simp only[vop];refine Q0E hvs ?_;rw[J2Z J6W];split at h
     . rename_i hk;simp only[hk];split at h
       . rename_i rs hrs;obtain⟨h,b1⟩:=J3L h;cases h;refine Q3F hrs (b1 _ ?_);simpa[C.v,J0I,CB.b,C.vs,Q2L] using hK
       . cases h
     . rename_i hk;simp only[hk];split at h
       . rename_i cs hcs;obtain⟨h,b1⟩:=J3L h;cases h;refine Q3O hcs (b1 _ ?_);simpa[C.v,J0I,CB.b] using hK
       . cases h
   . cases h
 | app s bytes x y =>
   refine J1X (fun _ _ _ _ _ _ e=>by cases e) ?_;simp only[cop,X5O] at h;split at h
   . rename_i a ha;split at h
     . rename_i c hc;simp only[vop];exact J0A ha (J0A hc (X0T h hK))
     . cases h
   . cases h
 | xt o =>
   refine J1X (fun _ _ _ _ _ _ e=>by cases e) ?_;simp only[cop,o_xt] at h;simp only[vop];exact X37 h hK
 | clr s zs x=>cases h
 | alloca n z =>
   refine J1X (fun _ _ _ _ _ _ e=>by cases e) ?_;simp only[cop,Q26] at h;split at h
   . rename_i c hc;have:=Q1O hc;subst this;obtain⟨h,b1⟩:=J3L h;rw[J4Z,J8X] at h;cases h;simp only[vop];refine b1 _ ?_;rw[Q2p c n];simpa[C.v,J0I,CB.b] using hK
   . cases h
end Go.Eng
