import Derived.Calls
import Derived.Laws.Cells
import Derived.Laws.AppendOwn
import Derived.OrdersIn
import Derived.RangeFuncRecord
import Derived.Laws.Entries
import Derived.Laws.StructEq
import Derived.ChangeKeysEq
set_option linter.all false
abbrev Qa:=@decide_eq_true_eq
abbrev Qb:=@if_neg
abbrev Qc:=@Nat.eq_of_beq_eq_true
abbrev Qd:=@Nat.le_refl
abbrev Qe:=@if_pos
abbrev Qf:=@Option.some.injEq
abbrev Qg:=@Bool.and_eq_true
abbrev Qh:=@Nat.zero_le
abbrev Qi:=@List.mem_map
abbrev Qj:=@List.mem_cons
abbrev Qk:=@Nat.zero_add
abbrev Ql:=@List.length_append
abbrev Qm:=@decide_eq_false
abbrev Qn:=@decide_eq_true
abbrev Qo:=@decide_eq_false_iff_not
abbrev Qp:=@List.getElem?_eq_getElem
abbrev Qq:=@Nat.le_of_ble_eq_true
abbrev Qr:=@List.mem_append
abbrev Qs:=@List.getElem?_eq_some_iff
abbrev Qt:=@Option.map_eq_some_iff
abbrev Qu:=@Prod.mk.injEq
abbrev Qv:=@List.map_cons
abbrev Qw:=@List.mem_of_getElem?
abbrev Qx:=@Array.getD_eq_getD_getElem?
abbrev Qy:=@List.all_eq_true
abbrev Qz:=@List.take_of_length_le
abbrev Q0:=@List.mem_singleton
abbrev Q1:=@List.cons_append
abbrev Q2:=@List.nodup_cons
abbrev Q3:=@List.getElem?_append_left
abbrev Q4:=@Nat.eq_zero_or_pos
abbrev Q5:=@Nat.mul_le_mul_right
abbrev Q6:=@List.getD_eq_getElem?_getD
abbrev Q7:=@List.mem_range
abbrev Q8:=@Nat.eq_of_testBit_eq
abbrev Q9:=@List.append_assoc
abbrev Xa:=@List.length_singleton
abbrev Xb:=@Bool.not_eq_true
abbrev Xc:=@Nat.add_mul
abbrev Xd:=@List.getElem_mem
abbrev Xe:=@of_decide_eq_true
abbrev Xf:=@Bool.false_eq_true
abbrev Xg:=@List.eq_nil_of_length_eq_zero
abbrev Xh:=@Nat.mod_eq_of_lt
abbrev Xi:=@List.mem_iff_getElem
abbrev Xj:=@Classical.choose_spec
abbrev Xk:=@Nat.add_assoc
abbrev Xl:=@Array.getElem?_eq_some_iff
abbrev Xm:=@Nat.zero_testBit
abbrev Xn:=@List.take_succ_eq_append_getElem
abbrev Xp:=@Option.getD_some
abbrev Xq:=@Nat.testBit_and
abbrev Xr:=@List.cons.injEq
abbrev Xs:=@Nat.pow_le_pow_right
abbrev Xt:=@List.getElem?_append_right
abbrev Xu:=@Nat.lt_of_lt_of_le
abbrev Xv:=@Bool.or_eq_true
abbrev Xw:=@Nat.mul_comm
abbrev Xx:=@Nat.add_zero
abbrev Xy:=@if_false
abbrev Xz:=@List.mem_cons_of_mem
abbrev X0:=@List.mem_append_left
abbrev X4:=@List.nodup_append
abbrev X5:=@Nat.lt_of_le_of_lt
abbrev X6:=@congrArg
abbrev X7:=@Classical.byContradiction
abbrev X8:=@List.all_cons
abbrev X9:=@BitVec.toNat_ofNat
abbrev Za:=@List.getElem?_toArray
abbrev Zb:=@List.nil_append
abbrev Zc:=@Bool.eq_iff_iff
abbrev Zd:=@List.Nodup.length_le_of_subset
abbrev Ze:=@Array.getElem?_append_left
abbrev Zf:=@Array.ext'
abbrev Zg:=@List.size_toArray
abbrev Zh:=@List.drop_of_length_le
abbrev Zi:=@Option.map_some
abbrev Zj:=@List.map_append
abbrev Zk:=@Bool.false_and
abbrev Zl:=@if_true
abbrev Zm:=@Bool.true_and
abbrev Zn:=@Array.length_toList
abbrev Zo:=@List.getElem?_eq_none
abbrev Zp:=@Bool.not_eq_true'
abbrev Zq:=@Int.natCast_mul
abbrev Zr:=@Nat.zero_mul
abbrev Zs:=@Nat.lt_or_ge
abbrev Zt:=@List.length_take
abbrev Zu:=@Nat.shiftRight_eq_div_pow
abbrev Zv:=@Nat.succ_mul
abbrev Zw:=@Nat.le_trans
abbrev Zx:=@List.mem_filter
abbrev Zy:=@Nat.testBit_two_pow_sub_one
abbrev Zz:=@Nat.testBit_lt_two_pow
abbrev Z0:=@Nat.mul_le_mul
abbrev Z1:=@Nat.testBit_two_pow
abbrev Z2:=@List.all_append
abbrev Z3:=@Array.getElem?_eq_getElem
abbrev Z4:=@Array.getElem?_toList
abbrev Z5:=@Nat.mod_lt
abbrev Z6:=@Bool.and_true
abbrev Z7:=@Nat.testBit_or
abbrev Z8:=@Nat.add_comm
abbrev Z9:=@Nat.div_eq_of_lt
abbrev Ya:=@List.getElem?_take
abbrev Yb:=@Bool.and_false
abbrev Yc:=@Nat.div_add_mod
abbrev Yd:=@List.range_succ
abbrev Ye:=@List.length_map
abbrev Yf:=@List.foldl_cons
abbrev Yg:=@Nat.testBit_eq_decide_div_mod_eq
abbrev Yh:=@Nat.testBit_div_two_pow
abbrev Yi:=@List.length_eq_zero_iff
abbrev Yj:=@List.length_drop
abbrev Yk:=@List.getElem?_drop
abbrev Yl:=@Option.some.inj
abbrev Ym:=@List.append_nil
abbrev Yn:=@Array.getElem?_setIfInBounds
abbrev Yo:=@dite_true
abbrev Yp:=@Nat.mul_assoc
abbrev Yq:=@Bool.and_eq_false_iff
abbrev Yr:=@Int.toNat_natCast
abbrev Ys:=@List.mem_of_mem_take
abbrev Yt:=@List.getElem?_of_mem
abbrev Yu:=@Nat.pow_succ
abbrev Yv:=@Nat.and_le_right
abbrev Yw:=@Nat.two_pow_pos
abbrev Yx:=@beq_iff_eq
abbrev Yy:=@Nat.one_mul
abbrev Yz:=@List.getElem?_replicate
abbrev Y0:=@List.getElem?_cons_succ
abbrev Y1:=@Int.le_refl
abbrev Y2:=@Nat.or_lt_two_pow
abbrev Y3:=@Nat.lt_trichotomy
abbrev Y4:=@Nat.le_of_eq
abbrev Y5:=@List.length_range
abbrev Y6:=@List.foldl_append
abbrev Y7:=@List.length_filter_le
abbrev Y8:=@List.take_length
abbrev Y9:=@List.eq_nil_iff_forall_not_mem
abbrev Ja:=@Nat.lt_irrefl
abbrev Jb:=@Iff.rfl
abbrev Jc:=@Bool.or_false
abbrev Jd:=@decide_true
abbrev Je:=@Nat.pow_lt_pow_right
abbrev Jf:=@Array.getElem?_range
abbrev Jg:=@Nat.testBit_two_pow_sub_succ
abbrev Jh:=@Nat.and_le_left
abbrev Ji:=@List.forIn_cons
abbrev Jj:=@of_decide_eq_false
abbrev Jk:=@Nat.add_mul_mod_self_right
abbrev Jl:=@List.take_zero
abbrev Jm:=@List.nodup_iff_pairwise_ne
abbrev Jn:=@Int.tmod_lt_of_pos
abbrev Jo:=@Array.getElem?_map
abbrev Jp:=@List.drop_eq_getElem_cons
abbrev Jq:=@List.take_sublist
abbrev Jr:=@List.getElem?_set
abbrev Js:=@List.getElem?_map
abbrev Jt:=@Nat.testBit_two_pow_self
abbrev Ju:=@Bool.false_or
abbrev Jv:=@Nat.div_div_eq_div_mul
abbrev Jw:=@Eq.symm
abbrev Jx:=@Bool.or_true
abbrev Jy:=@Array.getElem?_eq_none
abbrev Jz:=@Nat.add_mul_div_right
abbrev J0:=@Prod.ext
abbrev J1:=@Nat.mod_one
abbrev J2:=@Nat.le_succ
abbrev J3:=@List.mapM_cons
abbrev J4:=@List.forIn_nil
abbrev J5:=@List.getElem?_range
abbrev J6:=@List.flatMap_append
abbrev J7:=@List.filter_sublist
abbrev J8:=@List.drop_succ_cons
abbrev J9:=@List.filter_append
abbrev Ka:=@Bool.true_eq_false
abbrev Kb:=@List.findIdx?_eq_some_iff_getElem
abbrev Kc:=@not_false_eq_true
abbrev Ke:=@Nat.sub_self
abbrev Kf:=@Nat.shiftRight_le
abbrev Kg:=@List.map_map
abbrev Kh:=@List.any_eq_false
abbrev Ki:=@Bool.true_or
abbrev Kj:=@Array.size_append
abbrev Kk:=@Array.all_eq_true_iff_forall_mem
abbrev Kl:=@Nat.testBit_succ
abbrev Km:=@Nat.lt_of_not_le
abbrev Kn:=@Nat.and_two_pow_sub_one_eq_mod
abbrev Ko:=@List.nodup_range
abbrev Kq:=@List.drop_length
abbrev Kr:=@Int.mul_le_mul_of_nonneg_right
abbrev Ks:=@BitVec.toNat_and
abbrev Kt:=@Array.toList_map
abbrev Ku:=@Nat.mul_one
abbrev Kv:=@Nat.mod_mul
abbrev Kw:=@Nat.mul_add_mod
abbrev Kx:=@Nat.min_eq_left
abbrev Ky:=@Nat.div_le_self
abbrev Kz:=@List.sum_append
abbrev K1:=@List.take_sublist_take_left
abbrev K2:=@Array.getElem?_append_right
abbrev K3:=@and_self
abbrev K4:=@List.drop_drop
abbrev K5:=@Int.fdiv_eq_ediv_of_nonneg
abbrev K6:=@List.pairwise_iff_getElem
abbrev K7:=@List.findIdx?_eq_none_iff
abbrev K8:=@List.extract_eq_take_drop
abbrev K9:=@Option.isSome_iff_exists
abbrev Va:=@List.any_cons
abbrev Vb:=@Bool.not_true
abbrev Vc:=@false_and
abbrev Vd:=@Nat.testBit_mod_two_pow
abbrev Ve:=@Nat.succ_pos
abbrev Vf:=@Nat.le_of_lt
abbrev Vg:=@Nat.le_mul_of_pos_left
abbrev Vh:=@Nat.beq_refl
abbrev Vi:=@List.map_nil
abbrev Vj:=@List.all_nil
abbrev Vk:=@Nat.div_lt_iff_lt_mul
abbrev Vl:=@List.singleton_append
abbrev Vm:=@List.mem_append_right
abbrev Vn:=@List.length_replicate
abbrev Vo:=@List.countP_le_length
abbrev Vp:=@BitVec.eq_of_toNat_eq
abbrev Vs:=@Array.mem_iff_getElem
abbrev Vt:=@true_and
abbrev Vu:=@Nat.sub_mul
abbrev Vv:=@List.mem_of_mem_drop
abbrev Vw:=@List.count_le_length
abbrev Vx:=@Bool.or_eq_false_iff
abbrev Vy:=@List.map_eq_nil_iff
abbrev Vz:=@List.map_congr_left
abbrev V0:=@List.length_pos_iff
namespace Go.Eng
inductive V where
 | bool (b:Bool)
 | int (k:IntKind) (n:Int)
 | str (s:ByteArray)
 | nilptr|nilslice|nilmap|nilfunc|niliface
 | loc (k off:Nat)
 | oel (k s i j:Nat)
 | vec (k s lo len:Nat)
 | fz (n s:Nat) (J1J:Bool) (f:Nat->Nat->V)
 | fe (n s:Nat) (f:Nat->Nat->V) (i j:Nat)
 | map (k:Nat)
 | yld (k:Nat)
 | fn (f:Fn) (b:Bool) (cap:List V)
 | iface (t:TypeId) (v:V)
 | agg (cs:List V)
 | tup (vs:List V)
 | raw (v:Value)
 | anyb
 | top
 deriving Inhabited
inductive X where
 | t (n:Nat)
 | k (v:V)
def J77:Value->Option V
 | .int k n=>some (.int k n)
 | .bool b=>some (.bool b)
 | .string s=>some (.str s)
 | .pointer none=>some .nilptr
 | .slice none 0 0=>some .nilslice
 | .map none=>some .nilmap
 | .nilFunc=>some .nilfunc
 | .nilIface=>some .niliface
 | _=>none
def J3u:List Value->Option (List V)
 | []=>some []
 | v::r=>match J77 v,J3u r with
   | some x,some xs=>some (x::xs)
   | _,_=>none
def ofValue:Value->Option V
 | .agg cs=>(J3u cs.toList).map .agg
 | v=>J77 v
def cX:Operand->Option X
 | .tmp t=>some (.t t)
 | .const v=>(ofValue v).map .k
 | .func f=>some (.k (.fn (.func f) false []))
 | .global _=>none
def cXs:List Operand->Option (List X)
 | []=>some []
 | o::r=>match cX o,cXs r with
   | some x,some xs=>some (x::xs)
   | _,_=>none
def cXo:Option Operand->Option (Option X)
 | none=>some none
 | some o=>(cX o).map some
def J1W (P:Program) (t:TypeId):Option Bool:=match P.underlying t with
 | some (.struct _)|some (.array ..)=>some true
 | some _=>some false
 | none=>none
def J3s (P:Program) (t:TypeId):Option Nat:=(P.info? t).map (·.size)
def J4i (P:Program) (t:TypeId):Option (Option Nat):=match J1W P t with
 | some true=>(J3s P t).map some
 | some false=>some none
 | none=>none
def J1S (P:Program) (t:TypeId):Option (List V):=match P.info? t with
 | some i=>match i.zero with
   | some z=>J3u z.cells.toList
   | none=>none
 | none=>none
abbrev Env:=List (Nat×V)
inductive MKd where
 | pair (k:IntKind)
 | one (k:IntKind)
 | str
 | st (l:List IntKind)
 deriving DecidableEq
def KyS:List IntKind->Type
 | []=>Unit
 | _::r=>Int×KyS r
def KyS.dec:(l:List IntKind)->DecidableEq (KyS l)
 | []=>inferInstanceAs (DecidableEq Unit)
 | _::r=>@instDecidableEqProd Int (KyS r) inferInstance (KyS.dec r)
@[reducible] def KyT:MKd->Type
 | .pair _=>Int×Int
 | .one _=>Int
 | .str=>ByteArray
 | .st l=>KyS l
instance:(m:MKd)->DecidableEq (KyT m)
 | .pair _=>inferInstanceAs (DecidableEq (Int×Int))
 | .one _=>inferInstanceAs (DecidableEq Int)
 | .str=>inferInstanceAs (DecidableEq ByteArray)
 | .st l=>KyS.dec l
inductive Blk where
 | cells (cs:List V)
 | vec (n s:Nat) (f:Nat->Nat->V)
 | loop (st:LoopState) (pe:Option (Option Nat)) (env:Env) (N:Nat) (ps:List Nat) (C:Code->Code->Prop)
 | map (ik:MKd) (es:List (KyT ik×V))
 | iter (km n:Nat) (J11:List Nat)
 | glob (g n:Nat) (f:Nat->Nat->V)
 | fam (n s:Nat) (len:Nat->Nat) (f:Nat->Nat->Nat->V) (op:List (Nat×Nat))
instance:Inhabited Blk:=⟨.cells []⟩
abbrev Own:=List (Nat×Blk)
structure St where
 env:Env
 own:Own
 ks:List Nat
inductive Chk (b:Bool) (K:Prop):Prop where
 | mk (h:b=true) (hK:K):Chk b K
inductive Out where
 | normal (st:St)
 | exit (id:Nat) (st:St)
 | ret (st:St)
def look {α:Type}:List (Nat×α)->Nat->Option α
 | [],_=>none
 | (k,v)::r,t=>match Nat.beq k t with|true=>some v|false=>look r t
abbrev Sg:=Nat->Option (Option Nat×Nat×Nat)
def Sg.none:Sg:=fun _=>Option.none
def Sg.le (σ τ:Sg):Prop:=∀k x,σ k=some x->τ k=some x
def fnB (b:Bool) (us:List Value):Array Value:=match b with|true=>us.toArray|false=>#[]
def fnC (b:Bool) (us:List Value):Array Value:=match b with|true=>#[]|false=>us.toArray
inductive Den (M:Nat->Prop) (w:World):Sg->V->Value->Prop
 | bool (σ:Sg) (b:Bool):Den M w σ (.bool b) (.bool b)
 | int (σ:Sg) (k:IntKind) (n:Int):Den M w σ (.int k n) (.int k n)
 | str (σ:Sg) (s:ByteArray):Den M w σ (.str s) (.string s)
 | nilptr (σ:Sg):Den M w σ .nilptr (.pointer Option.none)
 | nilslice (σ:Sg):Den M w σ .nilslice (.slice Option.none 0 0)
 | nilmap (σ:Sg):Den M w σ .nilmap (.map Option.none)
 | nilfunc (σ:Sg):Den M w σ .nilfunc .nilFunc
 | niliface (σ:Sg):Den M w σ .niliface .nilIface
 | loc (σ:Sg) (k off b:Nat) (base κ:Nat) (h:σ k=some (some b,base,κ)):Den M w σ (.loc k off) (.pointer (some ⟨b,base+off,Option.none⟩))
 | oel (σ:Sg) (k s i j b base κ:Nat) (h:σ k=some (some b,base,κ)):Den M w σ (.oel k s i j) (.pointer (some ⟨b,base+(i*s+j),Option.none⟩))
 | vec (σ:Sg) (k s lo len:Nat) (bo:Option Nat) (base κ c:Nat) (a:Option Addr) (h:σ k=some (bo,base,κ)) (hc:c+lo=κ) (hl:len<=c)
    (ha:0<c->∃b,bo=some b/\a=some ⟨b,base+lo*s,Option.none⟩):Den M w σ (.vec k s lo len) (.slice a len c)
 | fz0 (σ:Sg) (s:Nat) (J1J:Bool) (f:Nat->Nat->V) (a:Option Addr) (c:Nat) (hf:J1J=true->c=0):Den M w σ (.fz 0 s J1J f) (.slice a 0 c)
 | fz (σ:Sg) (n s:Nat) (J1J:Bool) (f:Nat->Nat->V) (b off c:Nat) (u:Nat->Nat->Value) (hc:n<=c) (hf:J1J=true->c=n)
    (hM:¬ M b) (hb:b<w.heap.size) (hcell:∀i j,i<n->j<s->w.cell? ⟨b,off+(i*s+j),Option.none⟩=some (u i j))
    (h1:∀i j,i<n->j<s->(u i j).oneCell'=true)
    (hd:∀i j,i<n->j<s->Den M w Sg.none (f i j) (u i j)):Den M w σ (.fz n s J1J f) (.slice (some ⟨b,off,Option.none⟩) n c)
 | fe (σ:Sg) (n s:Nat) (f:Nat->Nat->V) (i j b off:Nat) (u:Nat->Nat->Value) (hi:i<n)
    (hM:¬ M b) (hb:b<w.heap.size) (hcell:∀i j,i<n->j<s->w.cell? ⟨b,off+(i*s+j),Option.none⟩=some (u i j))
    (h1:∀i j,i<n->j<s->(u i j).oneCell'=true)
    (hd:∀i j,i<n->j<s->Den M w Sg.none (f i j) (u i j)):Den M w σ (.fe n s f i j) (.pointer (some ⟨b,off+(i*s+j),Option.none⟩))
 | map (σ:Sg) (k b base κ:Nat) (h:σ k=some (some b,base,κ)):Den M w σ (.map k) (.map (some b))
 | yld (σ:Sg) (k b base κ:Nat) (h:σ k=some (some b,base,κ)):Den M w σ (.yld k) (.func (.yield b) #[] #[])
 | fn (σ:Sg) (f:Fn) (b:Bool) (cap:List V) (us:List Value) (hl:cap.length=us.length) (hd:∀(i:Nat) (v:V) (u:Value),cap[i]?=some v->us[i]?=some u->Den M w σ v u) :
    Den M w σ (.fn f b cap) (.func f (fnB b us) (fnC b us))
 | iface (σ:Sg) (t:TypeId) (v:V) (u:Value) (hd:Den M w σ v u):Den M w σ (.iface t v) (.iface t u)
 | agg (σ:Sg) (cs:List V) (us:List Value) (hl:cs.length=us.length) (hd:∀(i:Nat) (v:V) (u:Value),cs[i]?=some v->us[i]?=some u->Den M w σ v u) :
    Den M w σ (.agg cs) (.agg us.toArray)
 | tup (σ:Sg) (cs:List V) (us:List Value) (hl:cs.length=us.length) (hd:∀(i:Nat) (v:V) (u:Value),cs[i]?=some v->us[i]?=some u->Den M w σ v u) :
    Den M w σ (.tup cs) (.tuple us.toArray)
 | raw (σ:Sg) (v:Value):Den M w σ (.raw v) v
 | anyb (σ:Sg) (b:Bool):Den M w σ .anyb (.bool b)
 | top (σ:Sg) (v:Value):Den M w σ .top v
structure Ext (M:Nat->Prop) (w:World) (M':Nat->Prop) (w':World):Prop where
 keep:∀b,b<w.heap.size->¬ M b->¬ M' b/\w'.heap[b]?=w.heap[b]?
 size:w.heap.size<=w'.heap.size
theorem Sg.le_refl (σ:Sg):σ.le σ:=fun _ _ h=>h
theorem Sg.le_trans {a b c:Sg} (h:a.le b) (d:b.le c):a.le c:=fun k x e=>d k x (h k x e)
theorem Q2A {w w':World} {b off:Nat} (h:w'.heap[b]?=w.heap[b]?):w'.cell? ⟨b,off,none⟩=w.cell? ⟨b,off,none⟩:=by
 simp[World.cell?,h]
theorem Den.mono {M F:Nat->Prop} {w w':World} (y:Ext M w F w') {σ:Sg} {v:V} {u:Value} (h:Den M w σ v u) :
 ∀{τ:Sg},σ.le τ->Den F w' τ v u:=by
 induction h with
 | bool σ b=>intro τ _;exact .bool _ _
 | int σ k n=>intro τ _;exact .int _ _ _
 | str σ s=>intro τ _;exact .str _ _
 | nilptr=>intro τ _;exact .nilptr _
 | nilslice=>intro τ _;exact .nilslice _
 | nilmap=>intro τ _;exact .nilmap _
 | nilfunc=>intro τ _;exact .nilfunc _
 | niliface=>intro τ _;exact .niliface _
 | loc σ k off b base x h=>intro τ d;exact .loc _ _ _ _ _ _ (d _ _ h)
 | oel σ k s i j b base x h=>intro τ d;exact .oel _ _ _ _ _ _ _ _ (d _ _ h)
 | vec σ k s H len I base x c a h C m G=>intro τ d;exact .vec _ _ _ _ _ _ _ _ _ _ (d _ _ h) C m G
 | fz0 σ s J1J f a c B=>intro τ _;exact .fz0 _ _ _ _ _ _ B
 | fz σ n s J1J f b off c u C B D r e E hd g =>
   intro τ _;obtain⟨A,z⟩:=y.keep b r D;exact .fz _ _ _ _ _ _ _ _ u C B A (Xu r y.size) (fun i j l o=>by rw[Q2A z];exact e i j l o) E (fun i j l o=>g i j l o (Sg.le_refl _))
 | fe σ n s f i j b off u l D r e E hd g =>
   intro τ _;obtain⟨A,z⟩:=y.keep b r D;exact .fe _ _ _ _ _ _ _ _ u l A (Xu r y.size) (fun i j l o=>by rw[Q2A z];exact e i j l o) E (fun i j l o=>g i j l o (Sg.le_refl _))
 | map σ k b base x h=>intro τ d;exact .map _ _ _ _ _ (d _ _ h)
 | yld σ k b base x h=>intro τ d;exact .yld _ _ _ _ _ (d _ _ h)
 | fn σ f b cap us m hd g=>intro τ d;exact .fn _ _ _ _ _ m (fun i v u p q=>g i v u p q d)
 | iface σ t v u hd g=>intro τ d;exact .iface _ _ _ _ (g d)
 | agg σ cs us m hd g=>intro τ d;exact .agg _ _ _ m (fun i v u p q=>g i v u p q d)
 | tup σ cs us m hd g=>intro τ d;exact .tup _ _ _ m (fun i v u p q=>g i v u p q d)
 | raw σ v=>intro τ _;exact .raw _ _
 | anyb σ b=>intro τ _;exact .anyb _ _
 | top σ v=>intro τ _;exact .top _ _
theorem J6z {M:Nat->Prop} {w:World} {u:Value} {v:V} (h:J77 u=some v) (σ:Sg):Den M w σ v u:=by
 unfold J77 at h;split at h<;>simp at h<;>subst h<;>constructor
theorem J0O {M:Nat->Prop} {w:World} (σ:Sg):∀{us:List Value} {a:List V},J3u us=some a ->
 a.length=us.length/\∀(i:Nat) (v:V) (u:Value),a[i]?=some v->us[i]?=some u->Den M w σ v u
 | [],a,h=>by simp[J3u] at h;subst h;simp
 | u::r,a,h=>by
   unfold J3u at h;split at h<;>simp at h;rename_i x xs g f;subst h;obtain⟨l,d⟩:=J0O σ f;refine⟨by simp[l],?_⟩;intro i v e b c;cases i with
   | zero=>simp at b c;subst b c;exact J6z g σ
   | succ i=>simp at b c;exact d i v e b c
theorem Q3V {M:Nat->Prop} {w:World} {u:Value} {v:V} (h:ofValue u=some v) (σ:Sg):Den M w σ v u:=by
 unfold ofValue at h;split at h
 . rename_i cs;simp at h;obtain⟨a,c,b⟩:=h;subst b;obtain⟨l,d⟩:=J0O (M:=M) (w:=w) σ c;have:=Den.agg (M:=M) (w:=w) σ a cs.toList l d;simpa using this
 . exact J6z h σ
def J0u (σ:Sg) (k:Nat):Option Nat:=match σ k with|some (a,_,_)=>a|none=>none
def J8i:Option Nat->Code
 | none=>.ret
 | some id=>.exit id
def stP:(l:List IntKind)->KyS l->List Value
 | [],_=>[]
 | k::r,p=>.int k p.1::stP r p.2
def J2M:(ik:MKd)->KyT ik->Value
 | .pair k,p=>.agg #[.int k p.1,.int k p.2]
 | .one k,p=>.int k p
 | .str,p=>.string p
 | .st l,p=>.agg (stP l p).toArray
def Q5Q (M:Nat->Prop) (w:World) (ik:MKd):List MapEntry->List (KyT ik×V)->Nat->Prop
 | [],[],_=>True
 | e::r,p::q,i=>(e.key=J2M ik p.1/\e.born=i/\Den M w Sg.none p.2 e.val)/\Q5Q M w ik r q (i+1)
 | _,_,_=>False
theorem Q5Q.mono {M c:Nat->Prop} {w w':World} (a:Ext M w c w') {ik:MKd}:∀{l:List MapEntry} {b:List (KyT ik×V)} {i:Nat},Q5Q M w ik l b i->Q5Q c w' ik l b i
 | [],[],_,_=>True.intro
 | _::_,_::_,_,h=>⟨⟨h.1.1,h.1.2.1,h.1.2.2.mono a (Sg.le_refl _)⟩,h.2.mono a⟩
 | [],_::_,_,h=>h.elim
 | _::_,[],_,h=>h.elim
def Q5M (M:Nat->Prop) (w:World) (σ:Sg) (s len:Nat) (f:Nat->Nat->V) (q:Option Nat) (u:Value):Prop :=
 ∃a c,u=.slice a len c/\len<=c/\(∀k,q=some k->Den M w σ (.vec k s 0 len) u) /\
  (q=none->0<c->∃r off ty us,a=some ⟨r,off,none⟩/\M r/\w.heap[r]?=some (.cells us ty (0,0))/\off+c*s<=us.size /\
    ∀j t,j<len->t<s->∃x,us[off+(j*s+t)]?=some x/\x.oneCell'=true/\Den M w Sg.none (f j t) x)
def J3A (us:Array Value) (base:Nat) (i r:Nat):Prop:=∃off l c,us[base+i]?=some (.slice (some ⟨r,off,none⟩) l c)/\0<c
def J1t (M:Nat->Prop) (w:World) (σ:Sg) (k:Nat):Blk->Prop
 | .cells cs=>∃b a ty us,σ k=some (some b,0,a)/\M b/\w.heap[b]?=some (.cells us ty (0,0))/\us.size=cs.length /\
    ∀(i:Nat) (v:V) (u:Value),cs[i]?=some v->us[i]?=some u->Den M w σ v u
 | .vec n s f=>∃c base a,σ k=some (c,base,a)/\n<=a/\((a=0/\c=none) \/
    ∃b ty us,c=some b/\M b/\w.heap[b]?=some (.cells us ty (0,0))/\base+a*s<=us.size /\
     ∀i j,i<n->j<s->∃u,us[base+(i*s+j)]?=some u/\u.oneCell'=true/\Den M w Sg.none (f i j) u)
 | .loop st m env N h C=>∃l a r,σ k=some (some l,0,a)/\M l/\w.heap[l]?=some (.loop r)/\r.state=st/\r.pending=m.map J8i/\r.params=h.toArray/\C r.assign r.body/\r.tmps.size=N /\
    ∀t v,look env t=some v->Den M w σ v (r.tmps.getD t undef)
 | .map ik p=>∃b a arr,σ k=some (some b,0,a)/\M b/\w.heap[b]?=some (.map arr arr.size)/\Q5Q M w ik arr.toList p 0
 | .iter o n J11=>∃r a b base e,σ k=some (some r,0,a)/\M r/\σ o=some (some b,base,e)/\w.heap[r]?=some (.mapIter (some b) n J11.toArray n)
 | .glob g n f=>(∃base a,σ k=some (none,base,a))/\Den M w Sg.none (.fe n 1 f 0 0) (.pointer (some ⟨g,0,none⟩))
 | .fam n s len f op=>∃c base a,σ k=some (c,base,a)/\n<=a/\((a=0/\c=none) \/
    ∃b ty us,c=some b/\M b/\w.heap[b]?=some (.cells us ty (0,0))/\base+a<=us.size /\
     (∀i,i<n->∃u,us[base+i]?=some u/\Q5M M w σ s (len i) (f i) (look op i) u) /\
     (∀i d r,i<n->d<n->look op i=none->look op d=none->J3A us base i r->J3A us base d r->i=d) /\
     (∀i,i<n->look op i=none->¬ J3A us base i b))
def J6d (w:World) (σ:Sg) (k:Nat) (b:Blk) (r:Nat):Prop :=
 match b with
 | .fam n _ _ _ op=>∃a base c us ty i,σ k=some (some a,base,c)/\w.heap[a]?=some (.cells us ty (0,0))/\i<n/\look op i=none/\J3A us base i r
 | _=>False
def J0n (w:World) (σ:Sg) (k:Nat) (b:Blk) (r:Nat):Prop:=J0u σ k=some r\/J6d w σ k b r
structure J2N (M:Nat->Prop) (w:World) (σ:Sg) (own:Own):Prop where
 blk:∀k b,(k,b)∈own->J1t M w σ k b
 nodup:(own.map (·.1)).Nodup
 apart:∀k b k' b' n,(k,b)∈own->(k',b')∈own->k≠k'->J0n w σ k b n->¬ J0n w σ k' b' n
def J0x (w:World) (σ:Sg) (own:Own) (n:Nat):Prop:=∃k b,(k,b)∈own/\J0n w σ k b n
structure J0S (w' w:World):Prop where
 eq:w'.tape=w.tape
 le:w.drawn<=w'.drawn
theorem J0S.rf {w' w:World} (h:w'.tape=w.tape) (a:w'.drawn=w.drawn):J0S w' w:=⟨h,Y4 a.symm⟩
theorem J0S.refl (w:World):J0S w w:=⟨rfl,Qd _⟩
theorem J0S.trans {a b c:World} (h:J0S c b) (d:J0S b a):J0S c a:=⟨h.eq.trans d.eq,Zw d.le h.le⟩
structure Adv (S:Nat->Prop) (M:Nat->Prop) (w:World) (M':Nat->Prop) (w':World):Prop where
 os:w'.os=w.os
 tape:J0S w' w
 output:w'.output=w.output
 size:w.heap.size<=w'.heap.size
 same:∀b,b<w.heap.size->¬ S b->w'.heap[b]?=w.heap[b]?
 muts:∀b,b<w.heap.size->¬ S b->(M' b↔M b)
structure J0T (M:Nat->Prop) (w:World) (σ:Sg) (own:Own) (ks:List Nat):Prop where
 own:J2N M w σ own
 fresh:∀k,k∈ks->σ k=none
 knodup:ks.Nodup
def J4J (M:Nat->Prop) (w:World) (σ:Sg) (env:Env) (a:Act):Prop :=
 ∀t v,look env t=some v->Den M w σ v (a.tmps.getD t undef)
structure X1g (B:Nat) (M:Nat->Prop) (w:World) (σ:Sg) (own:Own) (ds:List Deferred):Prop where
 base:B<=w.heap.size
 mark:∀d,d∈ds->∃D,d={ target:=.collected D,args:=#[] }/\B<=D/\w.heap[D]?=some (.deferred (some []))/\¬ J0x w σ own D/\M D
 nodup:ds.Nodup
structure Sim (N B:Nat) (M:Nat->Prop) (w:World) (σ:Sg) (st:St) (a:Act):Prop where
 env:J4J M w σ st.env a
 heap:J0T M w σ st.own st.ks
 size:a.tmps.size=N
 defers:X1g B M w σ st.own a.defers
structure Tr (M:Nat->Prop) (w:World) (σ:Sg) (own:Own) (M':Nat->Prop) (w':World) (σ':Sg) (own':Own):Prop where
 adv:Adv (J0x w σ own) M w M' w'
 new:∀b,J0x w' σ' own' b->J0x w σ own b\/w.heap.size<=b
 le:σ.le σ'
theorem J0p {M:Nat->Prop} {w:World} {σ:Sg} {own:Own} (h:J2N M w σ own) {b:Nat} (P:J0x w σ own b):M b/\b<w.heap.size:=by
 obtain⟨k,x,O,hk⟩:=P;have m:=h.blk k x O;have lt:∀{q:Nat} {o:Obj},w.heap[q]?=some o->q<w.heap.size:=fun {q o} e=>by
  rcases Zs q w.heap.size with h|h
  . exact h
  . simp[Jy h] at e
 cases x with
 | cells cs =>
   obtain⟨D,t,ty,us,d,j,e,_⟩:=m;simp[J0n,J6d,J0u,d] at hk;subst hk;exact⟨j,lt e⟩
 | vec n s f =>
   obtain⟨U,base,t,d,_,j⟩:=m;simp[J0n,J6d,J0u,d] at hk;subst hk;rcases j with ⟨_,h⟩ | ⟨D,ty,us,he,z,e,_⟩
   . cases h
   . cases he;exact⟨z,lt e⟩
 | loop st W env N V C =>
   obtain⟨l,t,r,d,j,e,_⟩:=m;simp[J0n,J6d,J0u,d] at hk;subst hk;exact⟨j,lt e⟩
 | glob g n f =>
   obtain⟨⟨base,t,d⟩,_⟩:=m;simp[J0n,J6d,J0u,d] at hk
 | map ik Y =>
   obtain⟨l,t,r,d,j,e,_⟩:=m;simp[J0n,J6d,J0u,d] at hk;subst hk;exact⟨j,lt e⟩
 | iter X n J11 =>
   obtain⟨l,t,_,_,_,d,j,_,e⟩:=m;simp[J0n,J6d,J0u,d] at hk;subst hk;exact⟨j,lt e⟩
 | fam n s len f op =>
   obtain⟨U,base,t,d,_,j⟩:=m;rcases j with ⟨_,h⟩ | ⟨D,ty,us,he,z,e,_,L,_⟩
   . subst h;rcases hk with hk | ⟨K,p,y,us,ty,i,v,_⟩
     . simp[J0u,d] at hk
     . rw[d] at v;simp at v
   . subst he;rcases hk with hk | ⟨K,p,y,F,J,i,v,e2,T,S,off,l,c,R,Q⟩
     . simp[J0u,d] at hk;subst hk;exact⟨z,lt e⟩
     . rw[d] at v;simp only[Qf,Qu] at v;obtain⟨rfl,rfl,rfl⟩:=v;rw[e] at e2;simp only[Qf,Obj.cells.injEq] at e2;obtain⟨rfl,_⟩:=e2;obtain⟨u,A,a,Z,H,_,_,G⟩:=L i T;rw[R] at A;cases A;cases H;obtain⟨r,B,I,E,q1,q2,q3,_⟩:=G S Q;cases q1;exact⟨q2,lt q3⟩
theorem Adv.ext {S M e:Nat->Prop} {w w':World} (h:Adv S M w e w') (hS:∀b,S b->M b):Ext M w e w' :=
 ⟨fun b c d=>by
   have a:¬ S b:=fun f=>d (hS b f);exact⟨fun g=>d ((h.muts b c a).1 g),h.same b c a⟩,h.size⟩
theorem Adv.refl (S M:Nat->Prop) (w:World):Adv S M w M w:=⟨rfl,.refl _,rfl,Qd _,fun _ _ _=>rfl,fun _ _ _=>Jb⟩
theorem Tr.refl (M:Nat->Prop) (w:World) (σ:Sg) (own:Own):Tr M w σ own M w σ own:=⟨.refl _ _ _,fun _ h=>.inl h,Sg.le_refl _⟩
theorem Tr.trans {M l k:Nat->Prop} {w d f:World} {σ a c:Sg} {o e g:Own} (h:Tr M w σ o l d a e) (j:Tr l d a e k f c g) :
 Tr M w σ o k f c g:=by
 have key:∀b,b<w.heap.size->¬ J0x w σ o b->¬ J0x d a e b:=fun b i m r=>by
  rcases h.new b r with n|n
  . exact m n
  . omega
 have q:=h.adv.size;have p:=j.adv.size;refine⟨⟨j.adv.os.trans h.adv.os,j.adv.tape.trans h.adv.tape,j.adv.output.trans h.adv.output,by omega,?_,?_⟩,?_,Sg.le_trans h.le j.le⟩
 . intro b i m;rw[j.adv.same b (by omega) (key b i m),h.adv.same b i m]
 . intro b i m;exact(j.adv.muts b (by omega) (key b i m)).trans (h.adv.muts b i m)
 . intro b i;rcases j.new b i with n|n
   . exact h.new b n
   . right;omega
def Kd (σ:Sg) (own:Own) (ks:List Nat) (a:Sg) (own':Own) (b:List Nat):Prop :=
 (∀k,k∈b->k∈ks)/\(∀k,σ k=none->k∉ks->a k=none)/\∀k,k∈own'.map (·.1)->k∈own.map (·.1)\/k∈ks
theorem Kd.refl (σ:Sg) (own:Own) (ks:List Nat):Kd σ own ks σ own ks:=⟨fun _ h=>h,fun _ h _=>h,fun _ h=>.inl h⟩
theorem Kd.trans {a b c:Sg} {o p q:Own} {x y z:List Nat} (h:Kd a o x b p y) (d:Kd b p y c q z):Kd a o x c q z :=
 ⟨fun k hk=>h.1 k (d.1 k hk),fun k g f=>d.2.1 k (h.2.1 k g f) fun hk=>f (h.1 k hk),fun k hk=>by
   rcases d.2.2 k hk with e|e
   . exact h.2.2 k e
   . exact .inr (h.1 k e)⟩
structure Tr0 (M:Nat->Prop) (w:World) (σ:Sg) (own:Own) (M':Nat->Prop) (w':World) (σ':Sg) (own':Own):Prop where
 adv:Adv (J0x w σ own) M w M' w'
 new:∀b,J0x w' σ' own' b->J0x w σ own b\/w.heap.size<=b
theorem Tr.t0 {M b:Nat->Prop} {w w':World} {σ a:Sg} {own own':Own} (h:Tr M w σ own b w' a own'):Tr0 M w σ own b w' a own':=⟨h.adv,h.new⟩
theorem Tr0.refl (M:Nat->Prop) (w:World) (σ:Sg) (own:Own):Tr0 M w σ own M w σ own:=⟨.refl _ _ _,fun _ h=>.inl h⟩
theorem Tr0.trans {M k j:Nat->Prop} {w d f:World} {σ a c:Sg} {o e g:Own} (h:Tr0 M w σ o k d a e) (m:Tr0 k d a e j f c g) :
 Tr0 M w σ o j f c g:=by
 have key:∀b,b<w.heap.size->¬ J0x w σ o b->¬ J0x d a e b:=fun b i l r=>by
  rcases h.new b r with n|n
  . exact l n
  . omega
 have q:=h.adv.size;have p:=m.adv.size;refine⟨⟨m.adv.os.trans h.adv.os,m.adv.tape.trans h.adv.tape,m.adv.output.trans h.adv.output,by omega,?_,?_⟩,?_⟩
 . intro b i l;rw[m.adv.same b (by omega) (key b i l),h.adv.same b i l]
 . intro b i l;exact(m.adv.muts b (by omega) (key b i l)).trans (h.adv.muts b i l)
 . intro b i;rcases m.new b i with n|n
   . exact h.new b n
   . right;omega
theorem X1g.nil {B:Nat} {M:Nat->Prop} {w:World} {σ:Sg} {own:Own} (h:B<=w.heap.size):X1g B M w σ own []:=⟨h,fun d h=>by simp at h,by simp⟩
theorem X1g.tr0 {B:Nat} {M j:Nat->Prop} {w w':World} {σ a:Sg} {own own':Own} {i:List Deferred} (h:X1g B M w σ own i) (t:Tr0 M w σ own j w' a own'):X1g B j w' a own' i :=
 ⟨Zw h.base t.adv.size,fun d hd=>by
   obtain⟨D,e,l,g,f,c⟩:=h.mark d hd;have b:D<w.heap.size:=by
    rcases Zs D w.heap.size with h|h
    . exact h
    . simp[Jy h] at g
   refine⟨D,e,l,(t.adv.same D b f).trans g,fun k=>?_,(t.adv.muts D b f).2 c⟩;rcases t.new D k with c|c
   . exact f c
   . omega,h.nodup⟩
theorem X1g.tr {B:Nat} {M c:Nat->Prop} {w w':World} {σ a:Sg} {own own':Own} {b:List Deferred} (h:X1g B M w σ own b) (t:Tr M w σ own c w' a own'):X1g B c w' a own' b:=h.tr0 t.t0
def FR (r:Option Nat):Fence:={ Fence.wide with round:=r }
def XP (N B:Nat) (σb:Sg) (M:Nat->Prop) (w:World) (σ:Sg) (own:Own) (ks:List Nat) (K:Out->Prop):Exit->Act->World->Prop:=fun e c w' =>
 ∃b a st',Sim N B b w' a st' c/\Tr0 M w σ own b w' a st'.own/\Kd σ own ks a st'.own st'.ks/\σb.le a /\
  (match e with
    | .normal=>K (.normal st')
    | .exit id=>K (.exit id st')
    | .ret=>K (.ret st')
    | _=>False)
inductive Ar (k:IntKind) (n:Int) (K:Int->Prop):Prop where
 | mk (m:Int) (h:m=k.wrap n) (hK:K m):Ar k n K
inductive Sv (n:Int) (K:Int->Prop):Prop where
 | mk (m:Int) (h:m=n) (hK:K m):Sv n K
inductive Nz (y:Int) (K:Prop):Prop where
 | mk (h:y≠0) (hK:K):Nz y K
inductive Nn (y:Int) (K:Prop):Prop where
 | mk (h:0<=y) (hK:K):Nn y K
inductive Br (b:Bool) (A B:Prop):Prop where
 | mk (ht:b=true->A) (hf:b=false->B):Br b A B
inductive Ix (i:Int) (n:Nat) (K:Nat->Prop):Prop where
 | mk (m:Nat) (h:i=m) (hm:m<n) (hK:K m):Ix i n K
inductive Bd (i:Int) (n:Nat) (K:Nat->Prop):Prop where
 | mk (m:Nat) (h:i=m) (hm:m<=n) (hK:K m):Bd i n K
inductive Lf where
 | int|bool|str
inductive BT where
 | num|bool|slc
 | flat (ls:List Lf)
def J7s:List Lf->List V->List V->(Bool->Prop)->Prop
 | [],[],[],K=>K true
 | .int::d,.int k a::r,.int e b::c,K=>match decide (k=e) with
   | true=>J7s d r c fun t=>K ((a == b)&&t)
   | false=>False
 | .bool::d,.bool a::r,.bool b::c,K=>J7s d r c fun t=>K ((a == b)&&t)
 | .str::d,.str a::r,.str b::c,K=>J7s d r c fun t=>K ((a == b)&&t)
 | _,_,_,_=>False
inductive POp where
 | mv (x:X)
 | pick (c a b:X)
 | nilchk (x:X)
 | bin (bt:BT) (op:BinOp) (x y:X)
 | un (op:UnOp) (x:X)
 | toint (k:IntKind) (x:X)
 | fld (off:Nat) (x:X)
 | sel (off:Nat) (sz:Option Nat) (x:X)
 | ixs (s:Nat) (x i:X)
 | ixa (n s:Nat) (x i:X)
 | ext (x:X) (i:Nat)
 | len (x:X)
 | lens (x:X)
 | mn (x y:X)
 | mx (x y:X)
 | slc (s:Nat) (x:X) (lo hi mx:Option X) (same:Bool)
 | slcs (x:X) (lo hi:Option X)
 | ixstr (x i:X)
 | mkfn (f:Fn) (b:Bool) (cap:List X)
def Xo:Option X->List X
 | none=>[]
 | some x=>[x]
def POp.xs:POp->List X
 | .mv x | .nilchk x | .un _ x | .toint _ x | .fld _ x | .sel _ _ x | .ext x _ | .len x | .lens x=>[x]
 | .pick c a b=>[c,a,b]
 | .bin _ _ x y | .ixs _ x y | .ixa _ _ x y | .mn x y | .mx x y | .ixstr x y=>[x,y]
 | .slc _ x d e m _=>x::(Xo d++Xo e++Xo m)
 | .slcs x d e=>x::(Xo d++Xo e)
 | .mkfn _ _ cap=>cap
def X.get (x:X) (env:Env) (K:V->Prop):Prop :=
 match x with
 | .t n=>match look env n with|some v=>K v|none=>False
 | .k v=>K v
def X.gets (env:Env):List X->(List V->Prop)->Prop
 | [],K=>K []
 | x::r,K=>x.get env fun v=>X.gets env r fun a=>K (v::a)
def Q2Y (b:Bool) (K:V->Prop):Prop:=Br b (K (.bool true)) (K (.bool false))
def J3C (op:BinOp) (k:IntKind) (x y:Int):Int :=
 match op with
 | .and=>k.wrap (BitVec.ofInt k.bits x &&& BitVec.ofInt k.bits y).toNat
 | .or=>k.wrap (BitVec.ofInt k.bits x ||| BitVec.ofInt k.bits y).toNat
 | .xor=>k.wrap (BitVec.ofInt k.bits x ^^^ BitVec.ofInt k.bits y).toNat
 | .andNot=>k.wrap (BitVec.ofInt k.bits x &&& ~~~ (BitVec.ofInt k.bits y)).toNat
 | _=>0
def Q06 (c:BT) (op:BinOp) (x y:V) (K:V->Prop):Prop :=
 match x,y with
 | .int k a,.int f b=>match op with
   | .shl=>Nn b (Ar k (a*2 ^ (min b.toNat k.bits)) fun m=>K (.int k m))
   | .shr=>Nn b (Sv (a.fdiv (2 ^ (min b.toNat k.bits))) fun m=>K (.int k m))
   | op=>match decide (k=f) with
     | false=>False
     | true=>match op with
       | .add=>Ar k (a+b) fun m=>K (.int k m)
       | .sub=>Ar k (a-b) fun m=>K (.int k m)
       | .mul=>Ar k (a*b) fun m=>K (.int k m)
       | .quo=>Nz b (Ar k (a.tdiv b) fun m=>K (.int k m))
       | .rem=>Nz b (Sv (a.tmod b) fun m=>K (.int k m))
       | .and=>Sv (J3C .and k a b) fun m=>K (.int k m)
       | .or=>Sv (J3C .or k a b) fun m=>K (.int k m)
       | .xor=>Sv (J3C .xor k a b) fun m=>K (.int k m)
       | .andNot=>Sv (J3C .andNot k a b) fun m=>K (.int k m)
       | .eql=>Q2Y (a == b) K
       | .neq=>Q2Y (a != b) K
       | .lss=>Q2Y (decide (a<b)) K
       | .leq=>Q2Y (decide (a<=b)) K
       | .gtr=>Q2Y (decide (a > b)) K
       | .geq=>Q2Y (decide (a ≥ b)) K
       | _=>False
 | .str a,.str b=>match op with
   | .eql=>Q2Y (a == b) K
   | .neq=>Q2Y (a != b) K
   | .add=>Br (decide (a.size+b.size<=9223372036854775807)) (K (.str (a++b))) False
   | _=>False
 | .bool a,.bool b=>match c,op with
   | .bool,.eql=>Q2Y (a == b) K
   | .bool,.neq=>Q2Y (!(a == b)) K
   | _,_=>False
 | .agg xs,.agg d=>match c with
   | .flat e=>match op with
     | .eql=>J7s e xs d fun b=>Q2Y b K
     | .neq=>J7s e xs d fun b=>Q2Y (!b) K
     | _=>False
   | _=>False
 | .fz n _ _ _,.nilslice=>match c,op with
   | .slc,.eql=>Br (Nat.beq n 0) (K .anyb) (K (.bool false))
   | .slc,.neq=>Br (Nat.beq n 0) (K .anyb) (K (.bool true))
   | _,_=>False
 | .vec _ _ _ n,.nilslice=>match c,op with
   | .slc,.eql=>Br (Nat.beq n 0) (K .anyb) (K (.bool false))
   | .slc,.neq=>Br (Nat.beq n 0) (K .anyb) (K (.bool true))
   | _,_=>False
 | .nilslice,.nilslice=>match c,op with
   | .slc,.eql=>K (.bool true)
   | .slc,.neq=>K (.bool false)
   | _,_=>False
 | _,_=>False
def nth {α:Type}:List α->Nat->Option α
 | [],_=>none
 | x::_,0=>some x
 | _::r,n+1=>nth r n
def J8X {α:Type}:List α->Nat->Nat->(List α->Prop)->Prop
 | _,_,0,K=>K []
 | [],_,_+1,_=>False
 | x::r,0,n+1,K=>J8X r 0 n fun l=>K (x::l)
 | _::r,o+1,n+1,K=>J8X r o (n+1) K
def J0m (a:Nat) (f:Nat->Nat->V):Nat->Nat->V :=
 match a with
 | 0=>f
 | a+1=>fun i j=>f (a+1+i) j
theorem J0l (a:Nat) (f:Nat->Nat->V) (i j:Nat):J0m a f i j=f (a+i) j:=by
 cases a with
 | zero=>simp[J0m]
 | succ a=>rfl
def bdK (x:Option X) (env:Env) (a n:Nat) (K:Nat->Prop):Prop :=
 match x with
 | none=>K a
 | some x=>x.get env fun v=>match v with
   | .int _ i=>Bd i n K
   | _=>False
def X5f (own:Own) (s:Nat) (x:X) (d a mx:Option X) (c:Bool) (env:Env) (K:V->Prop):Prop :=
 x.get env fun p=>match p with
 | .fz n e J1J f=>match Nat.beq s e with
   | true=>match mx with
     | none=>bdK a env n n fun h=>bdK d env 0 h fun l=>K (.fz (h-l) s (match a with|none=>J1J|some _=>false) (J0m l f))
     | some _=>match a with
       | some _=>bdK mx env n n fun m=>bdK a env n m fun h=>bdK d env 0 h fun l=>K (.fz (h-l) s c (J0m l f))
       | none=>False
   | false=>False
 | .nilslice=>match mx with
   | none=>bdK a env 0 0 fun h=>bdK d env 0 h fun _=>K .nilslice
   | some _=>match a with
     | some _=>bdK mx env 0 0 fun m=>bdK a env 0 m fun h=>bdK d env 0 h fun _=>K .nilslice
     | none=>False
 | .vec k e b len=>match Nat.beq s e with
   | true=>match mx with
     | none=>match look own k with
       | some (.vec n _ _)=>Br (Nat.ble (b+len) n) (bdK a env len (n-b) fun h=>bdK d env 0 h fun l=>K (.vec k s (b+l) (h-l))) False
       | _=>bdK a env len len fun h=>bdK d env 0 h fun l=>K (.vec k s (b+l) (h-l))
     | some _=>match a with
       | some _=>bdK mx env len len fun m=>bdK a env len m fun h=>bdK d env 0 h fun l=>match c with
         | true=>match h-l with
           | 0=>K (.fz 0 s true fun _ _=>.nilptr)
           | _+1=>K .top
         | false=>K .top
       | none=>False
   | false=>False
 | _=>False
def J24 (o:POp) (env:Env) (K:V->Prop):Prop :=
 match o with
 | .slc s x g w mx e=>X5f [] s x g w mx e env K
 | .slcs x g w=>x.get env fun p=>match p with
   | .str b=>bdK w env b.size b.size fun h=>bdK g env 0 h fun l=>K (.str (b.extract l h))
   | _=>False
 | .ixstr x i=>x.get env fun p=>i.get env fun i=>match p,i with
   | .str b,.int _ i=>Ix i b.size fun m=>K (.int .u8 (b.get! m).toNat)
   | _,_=>False
 | .mkfn f b cap=>X.gets env cap fun u=>K (.fn f b u)
 | .mv x=>x.get env K
 | .pick c a b=>c.get env fun c=>match c with
   | .bool c=>match c with
     | true=>a.get env K
     | false=>b.get env K
   | _=>False
 | .nilchk x=>x.get env fun v=>match v with
   | .loc k o=>K (.loc k o)
   | .oel k s i j=>K (.oel k s i j)
   | .fe n s f i j=>K (.fe n s f i j)
   | .iface t v=>K (.iface t v)
   | _=>False
 | .bin A op x y=>x.get env fun a=>y.get env fun b=>Q06 A op a b K
 | .un op x=>x.get env fun a=>match op,a with
   | .not,.bool b=>match b with
     | true=>K (.bool false)
     | false=>K (.bool true)
   | .neg,.int k n=>Ar k (0-n) fun m=>K (.int k m)
   | .xor,.int k n=>Sv (J3C .xor k (if k.signed then -1 else k.max) n) fun m=>K (.int k m)
   | _,_=>False
 | .toint k x=>x.get env fun a=>match a with
   | .int _ n=>Ar k n fun m=>K (.int k m)
   | _=>False
 | .fld off x=>x.get env fun p=>match p with
   | .loc k o=>K (.loc k (o+off))
   | .oel k s i j=>K (.oel k s i (j+off))
   | .fe n s f i j=>K (.fe n s f i (j+off))
   | _=>False
 | .sel off sz x=>x.get env fun a=>match a with
   | .agg cs=>match sz with
     | none=>match nth cs off with|some v=>K v|none=>False
     | some n=>J8X cs off n fun l=>K (.agg l)
   | _=>False
 | .ixs s x i=>x.get env fun p=>i.get env fun i=>match p,i with
   | .fz n d _ f,.int _ i=>match Nat.beq s d with
     | true=>Ix i n fun m=>K (.fe n s f m 0)
     | false=>False
   | .vec k d g len,.int _ i=>match Nat.beq s d with
     | true=>Ix i len fun m=>K (.oel k s (g+m) 0)
     | false=>False
   | _,_=>False
 | .ixa n s x i=>x.get env fun p=>i.get env fun i=>match p,i with
   | .loc k o,.int _ i=>Ix i n fun m=>K (.loc k (o+m*s))
   | .fe z d f r q,.int _ i=>Ix i n fun m=>K (.fe z d f r (q+m*s))
   | .oel k d r q,.int _ i=>match Nat.beq s d,r,q with
     | true,0,0=>Ix i n fun m=>K (.oel k s m 0)
     | _,_,_=>Ix i n fun m=>K (.oel k d r (q+m*s))
   | _,_=>False
 | .ext x i=>x.get env fun t=>match t with
   | .tup u=>match nth u i with|some v=>K v|none=>False
   | _=>False
 | .len x=>x.get env fun p=>match p with
   | .fz n _ _ _=>K (.int .i64 n)
   | .vec _ _ _ n=>K (.int .i64 n)
   | .nilslice=>K (.int .i64 0)
   | _=>False
 | .lens x=>x.get env fun p=>match p with
   | .str s=>K (.int .i64 s.size)
   | _=>False
 | .mn x y=>x.get env fun a=>y.get env fun b=>match a,b with
   | .int k a,.int _ b=>Sv (if b<a then b else a) fun m=>K (.int k m)
   | _,_=>False
 | .mx x y=>x.get env fun a=>y.get env fun b=>match a,b with
   | .int k a,.int _ b=>Sv (if b > a then b else a) fun m=>K (.int k m)
   | _,_=>False
def Q9s (P:Program) (t:TypeId):Option Lf:=match P.underlying t with
 | some (.int _)=>some .int
 | some .bool=>some .bool
 | some .string=>some .str
 | _=>none
def Q6C (P:Program):Nat->List Field->Option (List Lf)
 | _,[]=>some []
 | i,f::r=>match Nat.beq f.offset i,f.name == "_",Q9s P f.type,Q6C P (i+1) r with
   | true,false,some l,some a=>some (l::a)
   | _,_,_,_=>none
def X3P (P:Program) (T:TypeId):BT:=match P.underlying T with
 | some .bool=>.bool
 | some (.slice _)=>.slc
 | some (.struct b)=>match P.stoodInHeld T,P.eqGuardType P.depth T,Q6C P 0 b.toList with
   | false,false,some a=>.flat a
   | _,_,_=>.num
 | some (.array n e)=>match P.eqGuardType P.depth T,Q9s P e,(P.info? e).isSome,Nat.beq (P.cellsOf e) 1 with
   | false,some l,true,true=>.flat (List.replicate n l)
   | _,_,_,_=>.num
 | _=>.num
def Q1z (a b:Option Operand):Bool :=
 match a,b with
 | some (.tmp n),some (.tmp m)=>Nat.beq n m
 | some (.const (.int _ a)),some (.const (.int _ b))=>decide (a=b)
 | _,_=>false
def Y6F (P:Program) (t:TypeId) (x:Operand) (low high max:Option Operand):Option POp :=
 match P.underlying t,cX x,cXo low,cXo high,cXo max with
 | some (.slice e),some x,some a,some b,some mx=>(J3s P e).map fun s=>.slc s x a b mx (Q1z high max)
 | some .string,some x,some a,some b,some none=>some (.slcs x a b)
 | _,_,_,_,_=>none
def Q0Y (P:Program) (op:Op):Option POp :=
 match op with
 | .move x | .assign x=>(cX x).map .mv
 | .pick c a b=>match cX c,cX a,cX b with|some c,some a,some b=>some (.pick c a b)|_,_,_=>none
 | .nilCheck x=>(cX x).map .nilchk
 | .binOp op T x y _=>match cX x,cX y with|some x,some y=>some (.bin (X3P P T) op x y)|_,_=>none
 | .unOp op _ x=>(cX x).map (.un op)
 | .convert src dst x=>match P.underlying src,P.underlying dst,cX x with
   | some (.int _),some (.int k),some x=>some (.toint k x)
   | _,_,_=>none
 | .fieldAddr s x f=>match P.underlying s,cX x with
   | some (.struct h),some x=>match h[f]? with
     | some g=>match J3s P g.type with
       | some (_+1)=>some (.fld g.offset x)
       | _=>none
     | none=>none
   | _,_=>none
 | .field s x f=>match P.underlying s,cX x with
   | some (.struct h),some x=>match h[f]? with
     | some g=>(J4i P g.type).map fun z=>.sel g.offset z x
     | none=>none
   | _,_=>none
 | .indexAddr t x i=>match P.underlying t,cX x,cX i with
   | some (.slice e),some x,some i=>(J3s P e).map fun s=>.ixs s x i
   | some (.array n e),some x,some i=>(J3s P e).map fun s=>.ixa n s x i
   | _,_,_=>none
 | .extract x i=>(cX x).map (.ext · i)
 | .slice t x low high max=>Y6F P t x low high max
 | .index t x i=>match P.underlying t,cX x,cX i with
   | some .string,some x,some i=>some (.ixstr x i)
   | _,_,_=>none
 | .makeFunc f first d=>match first.toList with
   | []=>(cXs d.toList).map (.mkfn f false)
   | _=>match d.toList with
     | []=>(cXs first.toList).map (.mkfn f true)
     | _=>none
 | .call { callee:=.builtin .len,args,argTypes }=>match args.toList,argTypes.toList with
   | [x],[t]=>match P.underlying t,cX x with
     | some (.slice _),some x=>some (.len x)
     | some .string,some x=>some (.lens x)
     | _,_=>none
   | _,_=>none
 | .call { callee:=.builtin .min,args,.. }=>match args.toList with
   | [x,y]=>match cX x,cX y with|some x,some y=>some (.mn x y)|_,_=>none
   | _=>none
 | .call { callee:=.builtin .max,args,.. }=>match args.toList with
   | [x,y]=>match cX x,cX y with|some x,some y=>some (.mx x y)|_,_=>none
   | _=>none
 | _=>none
def XOk (M:Nat->Prop) (w:World) (σ:Sg) (env:Env) (a:Act) (x:X):Prop :=
 ∀n,x=.t n->∀v,look env n=some v->Den M w σ v (a.tmps.getD n undef)
def J89 (P:Program) (o:Oper) (xs:List X) (env:Env) (v:V):Prop :=
 ∀M w σ a,(∀x,x∈xs->XOk M w σ env a x)->∃u,(execOp a.eval o).run P w=.ok (.value u) w/\Den M w σ v u
theorem J0f {x:X} {o:Operand} {env:Env} {K:V->Prop} (b:cX o=some x) (h:x.get env K) :
 ∃v,K v/\∀M w σ a,XOk M w σ env a x->Den M w σ v (a.eval o):=by
 cases o with
 | tmp t =>
   simp[cX] at b;subst b;simp only[X.get] at h;split at h
   . rename_i v d;exact⟨v,h,fun M w σ a ok=>ok t rfl v d⟩
   . exact h.elim
 | const c =>
   simp only[cX,Qt] at b;obtain⟨v,i,e⟩:=b;subst e;exact⟨v,h,fun M w σ a _=>Q3V i σ⟩
 | global g=>simp[cX] at b
 | func f =>
   simp[cX] at b;subst b;exact⟨_,h,fun M w σ a _=>Den.fn σ (.func f) false [] [] rfl (by simp)⟩
theorem Q2G {P:Program} {T:TypeId} (h:X3P P T=.bool):P.underlying T=some .bool:=by
 unfold X3P at h;split at h
 . assumption
 . cases h
 . split at h<;>cases h
 . split at h<;>cases h
 . cases h
theorem J4T {P:Program} {T:TypeId} (h:X3P P T=.slc):∃e,P.underlying T=some (.slice e):=by
 unfold X3P at h;split at h
 . cases h
 . exact⟨_,by assumption⟩
 . split at h<;>cases h
 . split at h<;>cases h
 . cases h
theorem X0V {P:Program} {T:TypeId} {b:List Lf} (h:X3P P T=.flat b):(P.underlying T=some (.struct (P.fieldsOf T))/\P.stoodInHeld T=false/\P.eqGuardType P.depth T=false/\Q6C P 0 (P.fieldsOf T).toList=some b) \/
 ∃n e l i,P.underlying T=some (.array n e)/\P.eqGuardType P.depth T=false/\Q9s P e=some l/\P.info? e=some i/\P.cellsOf e=1/\b=List.replicate n l:=by
 unfold X3P at h;split at h
 . cases h
 . cases h
 . rename_i k a;split at h
   . rename_i f d c;cases h;have e:P.fieldsOf T=k:=by simp only[Program.fieldsOf,a]
     rw[e];exact .inl ⟨a,f,d,c⟩
   . cases h
 . rename_i n e a;split at h
   . rename_i l f d c j;cases h;obtain⟨i,g⟩:=K9.1 c;exact .inr ⟨n,e,l,i,a,f,d,g,Qc j,rfl⟩
   . cases h
 . cases h
theorem J0V {b:Bool} {K:V->Prop} (h:Q2Y b K):K (.bool b):=by
 obtain⟨c,a⟩:=h;cases b
 . exact a rfl
 . exact c rfl
theorem J7S {P:Program} (op:BinOp) {T:TypeId} {d c:Operand} {k e:IntKind} {a b:Int} {w:World}:(eqGuard op T d c (.int k a) (.int e b)).run P w=.ok () w:=by
 cases op<;>rfl
theorem J7R {P:Program} (op:BinOp) {T:TypeId} {d c:Operand} {a b:ByteArray} {w:World}:(eqGuard op T d c (.string a) (.string b)).run P w=.ok () w:=by
 cases op<;>rfl
theorem J63 {P:Program} (op:BinOp) {T:TypeId} {d c:Operand} {a b:Bool} {w:World}:(eqGuard op T d c (.bool a) (.bool b)).run P w=.ok () w:=by
 cases op<;>rfl
theorem J0J {T:TypeId} {k:IntKind} {a b:Int}:∀op:BinOp,op≠.shl->op≠.shr->binOp op T (.int k a) (.int k b) =
 (match op with
 | .add | .sub | .mul=>Op.intArith op k a b
 | .quo | .rem=>Op.intDiv op k a b
 | .and | .or | .xor | .andNot=>Op.intBits op k a b
 | _=>Op.intCmp op a b):=by
 intro op d c;cases op<;>first|exact(d rfl).elim|exact(c rfl).elim|(show(if k≠k then _ else _)=_;rw[Qb (by simp)])
theorem J20 {P:Program} {t:TypeId} {b:Bool} (h:J1W P t=some b) (w:World):(isAgg t).run P w=.ok b w:=by
 unfold J1W at h;split at h<;>simp at h
 . rename_i a;subst h;simp[isAgg,Sem.run_bind,run_underlying a,go_sem]
 . rename_i a;subst h;simp[isAgg,Sem.run_bind,run_underlying a,go_sem]
 . rename_i d a e c;subst h;simp only[isAgg,Sem.run_bind,run_underlying c,Result.andThen_ok];cases d<;>first|rfl|exact(a _ rfl).elim|exact(e _ _ rfl).elim
theorem J03 {P:Program} {t:TypeId} {cs:Array Value} {off:Nat} {v:Value} (h:J1W P t=some false) (a:cs[off]?=some v) (w:World) :
 (part t cs off).run P w=.ok v w:=by
 simp[part,Sem.run_bind,J20 h,a,go_sem]
theorem J9M {P:Program}:∀(z:List Field) (i:Nat) (A:List Lf) (xs j:List V) (K:Bool->Prop),Q6C P i z=some A->J7s A xs j K ->
 ∃b,K b/\∀M w σ (us d pre c:List Value),(∀(i:Nat) (v:V) (u:Value),xs[i]?=some v->us[i]?=some u->Den M w σ v u)->xs.length=us.length->(∀(i:Nat) (v:V) (u:Value),j[i]?=some v->d[i]?=some u->Den M w σ v u)->j.length=d.length ->
  pre.length=i->c.length=i->(Op.eqFields 9999 (pre++us).toArray (c++d).toArray z).run P w=.ok b w
 | [],i,A,xs,j,K,q,h=>by
   simp only[Q6C,Qf] at q;subst q;unfold J7s at h;split at h<;>first|exact h.elim|(rename_i he;cases he;done)|skip
   refine⟨true,h,?_⟩;intros;simp[Op.eqFields]
 | f::z,i,A,xs,j,K,q,h=>by
   unfold Q6C at q;split at q
   . rename_i l s T S m R;cases q;have o:=Qc T;have key:∀(x y:V) (r n:List V) (b:Bool),xs=x::r->j=y::n->(∀M w σ u e,Den M w σ x u->Den M w σ y e->J1W P f.type=some false/\(Op.equalIn 9999 f.type u e).run P w=.ok b w) ->
      J7s s r n (fun t=>K (b&&t)) ->
      ∃b,K b/\∀M w σ (us d pre c:List Value),(∀(i:Nat) (v:V) (u:Value),xs[i]?=some v->us[i]?=some u->Den M w σ v u)->xs.length=us.length->(∀(i:Nat) (v:V) (u:Value),j[i]?=some v->d[i]?=some u->Den M w σ v u)->j.length=d.length ->
       pre.length=i->c.length=i->(Op.eqFields 9999 (pre++us).toArray (c++d).toArray (f::z)).run P w=.ok b w:=by
      intro x y r n b J I O N;obtain⟨t,Q,L⟩:=J9M z (i+1) s r n _ R N;refine⟨_,Q,?_⟩;intro M w σ us d pre c d1 C d2 B F E;subst J I
      match us,d,C,B,d1,d2 with
      | u::us,e::d,C,B,d1,d2 =>
        obtain⟨G,W⟩:=O M w σ u e (d1 0 x u (by simp) (by simp)) (d2 0 y e (by simp) (by simp));have U:(pre++u::us).toArray[f.offset]?=some u:=by simp[o,<- F]
        have e2:(c++e::d).toArray[f.offset]?=some e:=by simp[o,<- E]
        have q1:(part f.type (pre++u::us).toArray f.offset).run P w=.ok u w:=by
         exact J03 G U w
        have q2:(part f.type (c++e::d).toArray f.offset).run P w=.ok e w:=by
         exact J03 G e2 w
        have p:f.name≠ "_":=by simpa using S
        simp only[Op.eqFields,p,ne_eq,Kc,Zl,Sem.run_bind,q1,q2,W,Result.andThen_ok];cases b with
        | false=>simp
        | true =>
          simp only[Vb,Xf,Xy,Zm];have:=L M w σ us d (pre++[u]) (c++[e]) (fun i v u D g=>d1 (i+1) v u (by simpa using D) (by simpa using g)) (by simpa using C) (fun i v u D g=>d2 (i+1) v u (by simpa using D) (by simpa using g)) (by simpa using B) (by simp[F]) (by simp[E]);simpa using this
     rcases xs with _ | ⟨x,r⟩
     . cases l<;>exact h.elim
     rcases j with _ | ⟨y,n⟩
     . cases l<;>cases x<;>exact h.elim
     cases l
     . cases x<;>first|exact h.elim|skip
       rename_i k a;cases y<;>first|exact h.elim|skip
       rename_i H b;simp only[J7s] at h;split at h
       . rename_i hk;have hk:k=H:=by simpa using hk
         subst hk;refine key _ _ r n (a == b) rfl rfl (fun M w σ u e d1 d2=>?_) h;cases d1;cases d2;unfold Q9s at m;split at m<;>simp at m;rename_i g;exact⟨by simp[J1W,g],run_equalIn_int w 9998 f.type _ _ a b g⟩
       . exact h.elim
     . cases x<;>first|exact h.elim|skip
       rename_i a;cases y<;>first|exact h.elim|skip
       rename_i b;simp only[J7s] at h;refine key _ _ r n (a == b) rfl rfl (fun M w σ u e d1 d2=>?_) h;cases d1;cases d2;unfold Q9s at m;split at m<;>simp at m;rename_i g;exact⟨by simp[J1W,g],run_equalIn_bool' w 9998 f.type a b g⟩
     . cases x<;>first|exact h.elim|skip
       rename_i a;cases y<;>first|exact h.elim|skip
       rename_i b;simp only[J7s] at h;refine key _ _ r n (a == b) rfl rfl (fun M w σ u e d1 d2=>?_) h;cases d1;cases d2;unfold Q9s at m;split at m<;>simp at m;rename_i g;exact⟨by simp[J1W,g],by rw[beq_toListBytes];exact run_equalIn_string w 9998 f.type a b g⟩
   . cases q
theorem Q6D {P:Program} {e:TypeId} {l:Lf} (c:Q9s P e=some l) {x y:V} {r g:List V} {i:List Lf} {K:Bool->Prop} (h:J7s (l::i) (x::r) (y::g) K) :
 ∃b:Bool,J7s i r g (fun t=>K (b&&t))/\∀M w σ u f,Den M w σ x u->Den M w σ y f->J1W P e=some false/\(Op.equalIn 9999 e u f).run P w=.ok b w:=by
 cases l
 . cases x<;>first|exact h.elim|skip
   rename_i k a;cases y<;>first|exact h.elim|skip
   rename_i j b;simp only[J7s] at h;split at h
   . rename_i hk;have hk:k=j:=by simpa using hk
     subst hk;refine⟨a == b,h,fun M w σ u f d1 d2=>?_⟩;cases d1;cases d2;unfold Q9s at c;split at c<;>simp at c;rename_i d;exact⟨by simp[J1W,d],run_equalIn_int w 9998 e _ _ a b d⟩
   . exact h.elim
 . cases x<;>first|exact h.elim|skip
   rename_i a;cases y<;>first|exact h.elim|skip
   rename_i b;simp only[J7s] at h;refine⟨a == b,h,fun M w σ u f d1 d2=>?_⟩;cases d1;cases d2;unfold Q9s at c;split at c<;>simp at c;rename_i d;exact⟨by simp[J1W,d],run_equalIn_bool' w 9998 e a b d⟩
 . cases x<;>first|exact h.elim|skip
   rename_i a;cases y<;>first|exact h.elim|skip
   rename_i b;simp only[J7s] at h;refine⟨a == b,h,fun M w σ u f d1 d2=>?_⟩;cases d1;cases d2;unfold Q9s at c;split at c<;>simp at c;rename_i d;exact⟨by simp[J1W,d],by rw[beq_toListBytes];exact run_equalIn_string w 9998 e a b d⟩
theorem J5V {P:Program} {e:TypeId} {l:Lf} (q:Q9s P e=some l):∀(n i:Nat) (xs f:List V) (K:Bool->Prop),J7s (List.replicate n l) xs f K ->
 ∃b,K b/\∀M w σ (us c pre a:List Value),(∀(i:Nat) (v:V) (u:Value),xs[i]?=some v->us[i]?=some u->Den M w σ v u)->xs.length=us.length->(∀(i:Nat) (v:V) (u:Value),f[i]?=some v->c[i]?=some u->Den M w σ v u)->f.length=c.length ->
  pre.length=i->a.length=i->(Op.eqItems 9999 e 1 (pre++us).toArray (a++c).toArray (List.range' i n)).run P w=.ok b w
 | 0,i,xs,f,K,h=>by
   simp only[List.replicate_zero] at h;unfold J7s at h;split at h<;>first|exact h.elim|(rename_i he;cases he;done)|skip
   refine⟨true,h,?_⟩;intros;simp[Op.eqItems]
 | n+1,i,xs,f,K,h=>by
   rw[List.replicate_succ] at h;rcases xs with _ | ⟨x,r⟩
   . cases l<;>exact h.elim
   rcases f with _ | ⟨y,z⟩
   . cases l<;>cases x<;>exact h.elim
   obtain⟨b,B,C⟩:=Q6D q h;obtain⟨t,D,A⟩:=J5V q n (i+1) r z _ B;refine⟨_,D,?_⟩;intro M w σ us c pre a d1 j d2 g p o
   match us,c,j,g,d1,d2 with
   | u::us,d::c,j,g,d1,d2 =>
     obtain⟨s,F⟩:=C M w σ u d (d1 0 x u (by simp) (by simp)) (d2 0 y d (by simp) (by simp));have E:(pre++u::us).toArray[i*1]?=some u:=by simp[<- p]
     have e2:(a++d::c).toArray[i*1]?=some d:=by simp[<- o]
     have q1:(part e (pre++u::us).toArray (i*1)).run P w=.ok u w:=J03 s E w;have q2:(part e (a++d::c).toArray (i*1)).run P w=.ok d w:=J03 s e2 w;rw[List.range'_succ];simp only[Op.eqItems,Sem.run_bind,q1,q2,F,Result.andThen_ok];cases b with
     | false=>simp
     | true =>
       simp only[Vb,Xf,Xy,Zm];have:=A M w σ us c (pre++[u]) (a++[d]) (fun i v u k m=>d1 (i+1) v u (by simpa using k) (by simpa using m)) (by simpa using j) (fun i v u k m=>d2 (i+1) v u (by simpa using k) (by simpa using m)) (by simpa using g) (by simp[p]) (by simp[o]);simpa using this
theorem J9J {P:Program} {T:TypeId} {d:List Lf} (h:X3P P T=.flat d) {xs c:List V} {K:Bool->Prop} (hk:J7s d xs c K) :
 P.eqGuardType P.depth T=false/\∃b,K b/\∀M w σ (us a:List Value),(∀(i:Nat) (v:V) (u:Value),xs[i]?=some v->us[i]?=some u->Den M w σ v u)->xs.length=us.length->(∀(i:Nat) (v:V) (u:Value),c[i]?=some v->a[i]?=some u->Den M w σ v u)->c.length=a.length ->
  (Op.equalIn 10000 T (.agg us.toArray) (.agg a.toArray)).run P w=.ok b w:=by
 rcases X0V h with ⟨q,p,o,m⟩ | ⟨n,e,l,i,q,p,o,m,r,rfl⟩
 . obtain⟨b,k,j⟩:=J9M _ 0 d xs c _ m hk;refine⟨o,b,k,fun M w σ us a d1 g d2 f=>?_⟩;rw[run_equalIn_struct w 9999 T _ _ q p];simpa using j M w σ us a [] [] d1 g d2 f rfl rfl
 . obtain⟨b,k,j⟩:=J5V o n 0 xs c _ hk;refine⟨p,b,k,fun M w σ us a d1 g d2 f=>?_⟩;rw[run_equalIn_array w 9999 _ _ q m,r,List.range_eq_range'];simpa using j M w σ us a [] [] d1 g d2 f rfl rfl
theorem J1a {P:Program} {op:BinOp} {T e:TypeId} (j:P.underlying T=some (.slice e)) (g:op=.eql\/op=.neq) (f b:Operand) (a:Option Addr) (n c:Nat) (w:World) :
 (do eqGuard op T f b (.slice a n c) (.slice none 0 0);binOp op T (.slice a n c) (.slice none 0 0):Sem Value).run P w=.ok (.bool (if op=.eql then a.isNone else !a.isNone)) w:=by
 have i:∀d,(Op.equalIn (d+1) T (.slice a n c) (.slice none 0 0)).run P w=.ok a.isNone w:=by
  intro d;cases a<;>simp[Op.equalIn,run_underlying j]
 rcases g with h|h<;>subst h
 . rw[Sem.run_bind,show(eqGuard .eql T f b (.slice a n c) (.slice none 0 0)).run P w=.ok () w from rfl];simp only[binOp];simp[Op.equal,Op.maxDepth,i 9999]
 . rw[Sem.run_bind,show(eqGuard .neq T f b (.slice a n c) (.slice none 0 0)).run P w=.ok () w from rfl];simp only[binOp];simp[Op.equal,Op.maxDepth,i 9999]
theorem Q5U {P:Program} {op:BinOp} {T:TypeId} {x y:V} {K:V->Prop} (h:Q06 (X3P P T) op x y K) :
 ∃v,K v/\∀M w σ (o l:Operand) g j,Den M w σ x g->Den M w σ y j ->
  ∃u,(do eqGuard op T o l g j;binOp op T g j:Sem Value).run P w=.ok u w/\Den M w σ v u:=by
 unfold Q06 at h;split at h
 . rename_i k a H b;have d:∀(v:V) (u:Value),K v->(∀M w σ,Den M w σ v u)->(∀w,(binOp op T (.int k a) (.int H b)).run P w=.ok u w) ->
    ∃v,K v/\∀M w σ (o l:Operand) g j,Den M w σ (.int k a) g->Den M w σ (.int H b) j ->
     ∃u,(do eqGuard op T o l g j;binOp op T g j:Sem Value).run P w=.ok u w/\Den M w σ v u:=by
    intro v u r hd I;refine⟨v,r,?_⟩;intro M w σ o l g j q p;cases q;cases p;refine⟨u,?_,hd _ _ _⟩;rw[Sem.run_bind,J7S];exact I w
   split at h
   . obtain⟨C,m,z,r⟩:=h;subst z;exact d _ _ r (fun _ _ _=>.int _ _ _) (fun w=>by show(Op.shift .shl k a H b).run P w=_;simp[Op.shift,show ¬ b<0 by omega,Sem.run_pure])
   . obtain⟨C,m,z,r⟩:=h;subst z;exact d _ _ r (fun _ _ _=>.int _ _ _) (fun w=>by show(Op.shift .shr k a H b).run P w=_;simp[Op.shift,show ¬ b<0 by omega,Sem.run_pure])
   . split at h
     . exact h.elim
     . rename_i S;have hk:k=H:=by simpa using S
       subst hk;split at h
       . obtain⟨m,z,r⟩:=h;subst z;exact d _ _ r (fun _ _ _=>.int _ _ _) (fun w=>by rw[J0J _ (by decide) (by decide)];rfl)
       . obtain⟨m,z,r⟩:=h;subst z;exact d _ _ r (fun _ _ _=>.int _ _ _) (fun w=>by rw[J0J _ (by decide) (by decide)];rfl)
       . obtain⟨m,z,r⟩:=h;subst z;exact d _ _ r (fun _ _ _=>.int _ _ _) (fun w=>by rw[J0J _ (by decide) (by decide)];rfl)
       . obtain⟨C,m,z,r⟩:=h;subst z;exact d _ _ r (fun _ _ _=>.int _ _ _) (fun w=>by rw[J0J _ (by decide) (by decide)];simp[Op.intDiv,C,Sem.run_pure])
       . obtain⟨C,m,z,r⟩:=h;subst z;exact d _ _ r (fun _ _ _=>.int _ _ _) (fun w=>by rw[J0J _ (by decide) (by decide)];simp[Op.intDiv,C,Sem.run_pure])
       . obtain⟨m,z,r⟩:=h;subst z;exact d _ _ r (fun _ _ _=>.int _ _ _) (fun w=>by rw[J0J _ (by decide) (by decide)];rfl)
       . obtain⟨m,z,r⟩:=h;subst z;exact d _ _ r (fun _ _ _=>.int _ _ _) (fun w=>by rw[J0J _ (by decide) (by decide)];rfl)
       . obtain⟨m,z,r⟩:=h;subst z;exact d _ _ r (fun _ _ _=>.int _ _ _) (fun w=>by rw[J0J _ (by decide) (by decide)];rfl)
       . obtain⟨m,z,r⟩:=h;subst z;exact d _ _ r (fun _ _ _=>.int _ _ _) (fun w=>by rw[J0J _ (by decide) (by decide)];rfl)
       . exact d _ _ (J0V h) (fun _ _ _=>.bool _ _) (fun w=>by rw[J0J _ (by decide) (by decide)];rfl)
       . exact d _ _ (J0V h) (fun _ _ _=>.bool _ _) (fun w=>by rw[J0J _ (by decide) (by decide)];rfl)
       . exact d _ _ (J0V h) (fun _ _ _=>.bool _ _) (fun w=>by rw[J0J _ (by decide) (by decide)];rfl)
       . exact d _ _ (J0V h) (fun _ _ _=>.bool _ _) (fun w=>by rw[J0J _ (by decide) (by decide)];rfl)
       . exact d _ _ (J0V h) (fun _ _ _=>.bool _ _) (fun w=>by rw[J0J _ (by decide) (by decide)];rfl)
       . exact d _ _ (J0V h) (fun _ _ _=>.bool _ _) (fun w=>by rw[J0J _ (by decide) (by decide)];rfl)
       . exact h.elim
 . rename_i a b;have d:∀(v:V) (u:Value),K v->(∀M w σ,Den M w σ v u)->(∀w,(binOp op T (.string a) (.string b)).run P w=.ok u w) ->
    ∃v,K v/\∀M w σ (o l:Operand) g j,Den M w σ (.str a) g->Den M w σ (.str b) j ->
     ∃u,(do eqGuard op T o l g j;binOp op T g j:Sem Value).run P w=.ok u w/\Den M w σ v u:=by
    intro v u r hd I;refine⟨v,r,?_⟩;intro M w σ o l g j q p;cases q;cases p;refine⟨u,?_,hd _ _ _⟩;rw[Sem.run_bind,J7R];exact I w
   split at h
   . exact d _ _ (J0V h) (fun _ _ _=>.bool _ _) (fun w=>by rw[beq_toListBytes];rfl)
   . exact d _ _ (J0V h) (fun _ _ _=>.bool _ _) (fun w=>by rw[bne,beq_toListBytes];rfl)
   . have R:a.size+b.size<=9223372036854775807:=by
      rcases Zs 9223372036854775807 (a.size+b.size) with U|U
      . exact(h.2 (by simp;omega)).elim
      . exact U
     exact d _ _ (h.1 (by simpa using R)) (fun _ _ _=>.str _ _) (fun w=>by
      show(if ((a.size+b.size:Nat):Int) > IntKind.i64.max then _ else _:Sem Value).run P w=_;rw[Qb (by simp[IntKind.max,IntKind.signed,IntKind.bits];omega)];rfl)
   . exact h.elim
 . rename_i a b;have d:∀(v:V) (u:Value),K v->(∀M w σ,Den M w σ v u)->(∀w,(binOp op T (.bool a) (.bool b)).run P w=.ok u w) ->
    ∃v,K v/\∀M w σ (o l:Operand) g j,Den M w σ (.bool a) g->Den M w σ (.bool b) j ->
     ∃u,(do eqGuard op T o l g j;binOp op T g j:Sem Value).run P w=.ok u w/\Den M w σ v u:=by
    intro v u r hd I;refine⟨v,r,?_⟩;intro M w σ o l g j q p;cases q;cases p;refine⟨u,?_,hd _ _ _⟩;rw[Sem.run_bind,J63];exact I w
   split at h
   . rename_i C;exact d _ _ (J0V h) (fun _ _ _=>.bool _ _) (fun w=>run_eql_bool w T a b (Q2G C))
   . rename_i C;exact d _ _ (J0V h) (fun _ _ _=>.bool _ _) (fun w=>run_neq_bool w T a b (Q2G C))
   . exact h.elim
 . rename_i xs L;split at h
   . rename_i ls t;have G:∀(b:Bool),P.eqGuardType P.depth T=false->(∀M w σ (us D:List Value),(∀(i:Nat) (v:V) (u:Value),xs[i]?=some v->us[i]?=some u->Den M w σ v u)->xs.length=us.length->(∀(i:Nat) (v:V) (u:Value),L[i]?=some v->D[i]?=some u->Den M w σ v u)->L.length=D.length ->
      (Op.equalIn 10000 T (.agg us.toArray) (.agg D.toArray)).run P w=.ok b w) ->
      ∀M w σ (o l:Operand) g j,Den M w σ (.agg xs) g->Den M w σ (.agg L) j->(eqGuard op T o l g j).run P w=.ok () w/\(Op.equalIn 10000 T g j).run P w=.ok b w/\(∃u N,g=.agg u/\j=.agg N):=by
      intro b J C M w σ o l g j q p;cases q with|agg _ _ us Y d1 =>
      cases p with|agg _ _ D X d2 =>
      exact⟨run_eqGuard_agg w op T o l _ _ J,C M w σ us D d1 Y d2 X,_,_,rfl,rfl⟩
     split at h
     . obtain⟨J,b,r,C⟩:=J9J t h;refine⟨_,J0V r,fun M w σ o l g j q p=>⟨.bool b,?_,.bool _ _⟩⟩;obtain⟨Q,O,u,N,rfl,rfl⟩:=G b J C M w σ o l g j q p;rw[Sem.run_bind,Q,Result.andThen_ok,run_eql_struct,O];rfl
     . obtain⟨J,b,r,C⟩:=J9J t h;refine⟨_,J0V r,fun M w σ o l g j q p=>⟨.bool (!b),?_,.bool _ _⟩⟩;obtain⟨Q,O,u,N,rfl,rfl⟩:=G b J C M w σ o l g j q p;rw[Sem.run_bind,Q,Result.andThen_ok,run_neq_struct,O];rfl
     . exact h.elim
   . exact h.elim
 . rename_i n s J1J f;have E:∀M w σ u,Den M w σ (.fz n s J1J f) u->∃a c,u=.slice a n c/\(Nat.beq n 0=false->a.isNone=false):=by
    intro M w σ u hd;cases hd with
    | fz0 _ _ _ _ a c _=>exact⟨a,c,rfl,by simp⟩
    | fz _ _ _ _ _ b off c u=>exact⟨_,c,rfl,by simp⟩
   split at h
   . rename_i t;obtain⟨e,B⟩:=J4T t;cases A:Nat.beq n 0 with
     | true =>
       refine⟨_,h.1 A,fun M w σ o l g j q p=>?_⟩;obtain⟨a,c,rfl,_⟩:=E M w σ g q;cases p;exact⟨_,J1a B (.inl rfl) o l a n c w,.anyb _ _⟩
     | false =>
       refine⟨_,h.2 A,fun M w σ o l g j q p=>?_⟩;obtain⟨a,c,rfl,F⟩:=E M w σ g q;cases p;refine⟨_,J1a B (.inl rfl) o l a n c w,?_⟩;simp only[Zl,F A];exact .bool _ _
   . rename_i t;obtain⟨e,B⟩:=J4T t;cases A:Nat.beq n 0 with
     | true =>
       refine⟨_,h.1 A,fun M w σ o l g j q p=>?_⟩;obtain⟨a,c,rfl,_⟩:=E M w σ g q;cases p;exact⟨_,J1a B (.inr rfl) o l a n c w,.anyb _ _⟩
     | false =>
       refine⟨_,h.2 A,fun M w σ o l g j q p=>?_⟩;obtain⟨a,c,rfl,F⟩:=E M w σ g q;cases p;refine⟨_,J1a B (.inr rfl) o l a n c w,?_⟩;simp only[reduceCtorEq,Xy,F A];exact .bool _ _
   . exact h.elim
 . rename_i k s W n;have E:∀M w σ u,Den M w σ (.vec k s W n) u->∃a c,u=.slice a n c/\(Nat.beq n 0=false->a.isNone=false):=by
    intro M w σ u hd;cases hd with
    | vec _ _ _ _ _ bo base Z c a hk hc hl F =>
      refine⟨a,c,rfl,fun A=>?_⟩;have:n≠0:=fun e=>by subst e;simp at A
      obtain⟨b,_,e⟩:=F (by omega);subst e;rfl
   split at h
   . rename_i t;obtain⟨e,B⟩:=J4T t;cases A:Nat.beq n 0 with
     | true =>
       refine⟨_,h.1 A,fun M w σ o l g j q p=>?_⟩;obtain⟨a,c,rfl,_⟩:=E M w σ g q;cases p;exact⟨_,J1a B (.inl rfl) o l a n c w,.anyb _ _⟩
     | false =>
       refine⟨_,h.2 A,fun M w σ o l g j q p=>?_⟩;obtain⟨a,c,rfl,F⟩:=E M w σ g q;cases p;refine⟨_,J1a B (.inl rfl) o l a n c w,?_⟩;simp only[Zl,F A];exact .bool _ _
   . rename_i t;obtain⟨e,B⟩:=J4T t;cases A:Nat.beq n 0 with
     | true =>
       refine⟨_,h.1 A,fun M w σ o l g j q p=>?_⟩;obtain⟨a,c,rfl,_⟩:=E M w σ g q;cases p;exact⟨_,J1a B (.inr rfl) o l a n c w,.anyb _ _⟩
     | false =>
       refine⟨_,h.2 A,fun M w σ o l g j q p=>?_⟩;obtain⟨a,c,rfl,F⟩:=E M w σ g q;cases p;refine⟨_,J1a B (.inr rfl) o l a n c w,?_⟩;simp only[reduceCtorEq,Xy,F A];exact .bool _ _
   . exact h.elim
 . split at h
   . rename_i t;obtain⟨e,B⟩:=J4T t;refine⟨_,h,fun M w σ o l g j q p=>?_⟩;cases q;cases p;exact⟨_,J1a B (.inl rfl) o l none 0 0 w,.bool _ _⟩
   . rename_i t;obtain⟨e,B⟩:=J4T t;refine⟨_,h,fun M w σ o l g j q p=>?_⟩;cases q;cases p;exact⟨_,J1a B (.inr rfl) o l none 0 0 w,.bool _ _⟩
   . exact h.elim
 . exact h.elim
theorem Q4M {α:Type}:∀(l:List α) (i:Nat),nth l i=l[i]?
 | [],i=>by simp[nth]
 | x::r,0=>by simp[nth]
 | x::r,i+1=>by simp[nth,Q4M r i]
theorem J3W {α:Type}:∀(l:List α) (o n:Nat) (K:List α->Prop),J8X l o n K ->
 ∃r,K r/\r.length=n/\(0<n->o+n<=l.length)/\∀i,i<n->r[i]?=l[o+i]?
 | l,o,0,K,h=>by
   refine⟨[],?_,rfl,fun h=>by omega,fun i a=>by omega⟩;cases l<;>cases o<;>exact h
 | [],o,n+1,K,h=>by cases o<;>exact h.elim
 | x::l,0,n+1,K,h=>by
   obtain⟨r,f,d,c,b⟩:=J3W l 0 n _ h;refine⟨x::r,f,by simp[d],fun _=>?_,?_⟩
   . rcases Q4 n with e|e
     . subst e;simp
     . have:=c e;simp;omega
   . intro i a;cases i with
     | zero=>simp
     | succ i=>have:=b i (by omega);simp at this ⊢;exact this
 | x::l,o+1,n+1,K,h=>by
   obtain⟨r,f,d,c,b⟩:=J3W l o (n+1) _ h;refine⟨r,f,d,fun _=>by have:=c (by omega);simp;omega,?_⟩;intro i a;rw[b i a,show o+1+i=(o+i)+1 by omega];simp
theorem J1I (b o n:Nat):(⟨b,o,none⟩:Addr).add n=⟨b,o+n,none⟩:=by
 unfold Addr.add;split
 . simp[*]
 . rfl
theorem J1d {P:Program} {t:TypeId} {n:Nat} (h:J3s P t=some n) (w:World):(sizeOf t).run P w=.ok n w:=by
 simp only[J3s,Qt] at h;obtain⟨i,b,a⟩:=h;simp[sizeOf,typeInfo,Sem.run_bind,b,a,go_sem]
theorem Q1B {P:Program} {t:TypeId} {cs:Array Value} {off n:Nat} (h:J1W P t=some true) (a:J3s P t=some n) (w:World) :
 (part t cs off).run P w=.ok (.agg (cs.extract off (off+n))) w:=by
 simp[part,Sem.run_bind,J20 h,J1d a,go_sem]
theorem Den.agg_inv {M:Nat->Prop} {w:World} {σ:Sg} {cs:List V} {u:Value} (h:Den M w σ (.agg cs) u) :
 ∃us:List Value,u=.agg us.toArray/\cs.length=us.length/\∀(i:Nat) (v:V) (u:Value),cs[i]?=some v->us[i]?=some u->Den M w σ v u:=by
 cases h with
 | agg _ _ us a hd=>exact⟨us,rfl,a,hd⟩
theorem J1c {P:Program} {s:Sem Value} {w w':World} {u:Value} (h:s.run P w=.ok u w'):((s >>= fun r=>pure (Next.value r)):Sem Next).run P w=.ok (.value u) w':=by
 rw[Sem.run_bind,h];rfl
theorem J0L {P:Program} {k:IntKind} {m y:Nat} {code:BoundsCode} {w:World} (h:m<=y):(Instr.sliceBound (.int k m) y code).run P w=.ok m w:=by
 have:(0:Int)<=(m:Int)/\(m:Int)<=(y:Int):=by omega
 simp[Instr.sliceBound,asIntOf,this,go_sem]
theorem J1G {P:Program} {w:World} {isSlice:Bool} {len cap l h m:Nat} {low high max:Option Value}
 (c:(max=none/\m=cap)\/∃k:IntKind,max=some (.int k m)/\m<=cap)
 (a:(high=none/\max=none/\h=len)\/∃k:IntKind,high=some (.int k h)/\h<=m)
 (b:(low=none/\l=0)\/∃k:IntKind,low=some (.int k l)/\l<=h):(Instr.sliceBounds isSlice len cap low high max).run P w=.ok (l,h,m) w:=by
 unfold Instr.sliceBounds;rcases c with ⟨rfl,rfl⟩ | ⟨f,rfl,c⟩
 . rcases a with ⟨rfl,_,rfl⟩ | ⟨e,rfl,a⟩
   . rcases b with ⟨rfl,rfl⟩ | ⟨d,rfl,b⟩
     . simp[go_sem]
     . simp[J0L b,go_sem]
   . rcases b with ⟨rfl,rfl⟩ | ⟨d,rfl,b⟩
     . simp[J0L a,go_sem]
     . simp[Sem.run_bind,J0L a,J0L b,go_sem]
 . rcases a with ⟨_,a,_⟩ | ⟨e,rfl,a⟩
   . cases a
   . rcases b with ⟨rfl,rfl⟩ | ⟨d,rfl,b⟩
     . simp[Sem.run_bind,J0L c,J0L a,go_sem]
     . simp[Sem.run_bind,J0L c,J0L a,J0L b,go_sem]
def BdF (env:Env) (o:Option Operand) (x:Option X) (d n m:Nat):Prop :=
 (o=none/\m=d)\/(∃b,o=some b/\m<=n/\∀M w σ a,(∀y,y∈Xo x->XOk M w σ env a y)->∃k:IntKind,a.eval b=.int k m)
theorem J0C {x:Option X} {o:Option Operand} {env:Env} {d n:Nat} {K:Nat->Prop} (b:cXo o=some x) (h:bdK x env d n K):∃m,K m/\BdF env o x d n m:=by
 cases o with
 | none =>
   simp[cXo] at b;subst b;exact⟨d,h,.inl ⟨rfl,rfl⟩⟩
 | some c =>
   simp only[cXo,Qt] at b;obtain⟨e,b,rfl⟩:=b;obtain⟨v,h,f⟩:=J0f b h;split at h
   . obtain⟨m,rfl,g,i⟩:=h;refine⟨m,i,.inr ⟨c,rfl,g,fun M w σ a ok=>?_⟩⟩;have:=f M w σ a (ok e (by simp[Xo]));generalize a.eval c=q at this;cases this;exact⟨_,rfl⟩
   . exact h.elim
theorem BdF.ev {env:Env} {o:Option Operand} {x:Option X} {d n m:Nat} (h:BdF env o x d n m) {M:Nat->Prop} {w:World} {σ:Sg} {a:Act} (ok:∀y,y∈Xo x->XOk M w σ env a y) :
 (o=none/\m=d)\/∃k:IntKind,o.map a.eval=some (.int k m)/\m<=n:=by
 rcases h with h | ⟨c,rfl,b,he⟩
 . exact .inl h
 . obtain⟨k,hk⟩:=he M w σ a ok;exact .inr ⟨k,by simp[hk],b⟩
theorem J1o {P:Program} {t e:TypeId} {s:Nat} (b:P.underlying t=some (.slice e)) (c:J3s P e=some s) {w:World} {a:Option Addr} {len cap l h m:Nat} {low high max:Option Value}
 (d:(Instr.sliceBounds true len cap low high max).run P w=.ok (l,h,m) w) :
 (Instr.sliceAt t (.slice a len cap) low high max).run P w=.ok (.slice (if m=l then a else a.map (·.add (l*s))) (h-l) (m-l)) w:=by
 simp[Instr.sliceAt,Instr.slice,Sem.run_bind,run_underlying b,d,J1d c,go_sem]
theorem Q0j {P:Program} {t:TypeId} (a:P.underlying t=some .string) {w:World} {b:ByteArray} {l h m:Nat} {low high:Option Value}
 (c:(Instr.sliceBounds false b.size b.size low high none).run P w=.ok (l,h,m) w) :
 (Instr.sliceAt t (.string b) low high none).run P w=.ok (.string (b.extract l h)) w:=by
 simp[Instr.sliceAt,Instr.slice,Sem.run_bind,run_underlying a,c,go_sem]
theorem J9l {a b:Option Operand} (h:Q1z a b=true) (e:Act) {k f:IntKind} {n m:Nat} (d:a.map e.eval=some (.int k n)) (c:b.map e.eval=some (.int f m)):n=m:=by
 unfold Q1z at h;split at h
 . have:=Qc h;subst this;rw[d] at c;simp at c;omega
 . simp only[Qa] at h;subst h;simp only[Zi,Qf,Act.eval] at d c;cases d;simp at c;omega
 . cases h
theorem J9O {M:Nat->Prop} {w:World} {σ:Sg} {n s:Nat} {J1J:Bool} {f:Nat->Nat->V} {a:Option Addr} {c l h m:Nat} {d:Bool} (hd:Den M w σ (.fz n s J1J f) (.slice a n c)) (z:l<=h) (A:h<=n) (y:h<=m)
 (p:d=true->m=h):Den M w σ (.fz (h-l) s d (J0m l f)) (.slice (if m=l then a else a.map (·.add (l*s))) (h-l) (m-l)):=by
 rcases Q4 (h-l) with q|q
 . rw[q];exact .fz0 _ _ _ _ _ _ (fun e=>by have:=p e;omega)
 . cases hd with
   | fz0=>omega
   | fz _ _ _ _ _ b off c u B r v t g x hd =>
     rw[Qb (by omega)];simp only[Zi,J1I];refine .fz _ _ _ _ _ _ _ _ (fun i j=>u (l+i) j) (by omega) (fun e=>by have:=p e;omega) v t ?_ (fun i j o k=>x _ _ (by omega) k) (fun i j o k=>by rw[J0l];exact hd _ _ (by omega) k);intro i j o k;rw[show off+l*s+(i*s+j)=off+((l+i)*s+j) by rw[Xc];omega];exact g _ _ (by omega) k
theorem Den.fz_inv {M:Nat->Prop} {w:World} {σ:Sg} {n s:Nat} {J1J:Bool} {f:Nat->Nat->V} {u:Value} (h:Den M w σ (.fz n s J1J f) u):∃a c,u=.slice a n c/\n<=c/\(J1J=true->c=n):=by
 cases h with
 | fz0 _ _ _ _ a c d=>exact⟨a,c,rfl,by omega,d⟩
 | fz _ _ _ _ _ b off c u e d=>exact⟨_,c,rfl,e,d⟩
theorem J9c {P:Program} {t e:TypeId} {s:Nat} {x:Operand} {low high max:Option Operand} {Y:X} {T R mx:Option X} (ht:P.underlying t=some (.slice e)) (hs:J3s P e=some s)
 (hx:cX x=some Y) (F:cXo low=some T) (B:cXo high=some R) (I:cXo max=some mx) {own:Own} {env:Env} {K:V->Prop} (h:X5f own s Y T R mx (Q1z high max) env K) :
 ∃v,K v/\∀M w σ a,(∀y,y∈Y::(Xo T++Xo R++Xo mx)->XOk M w σ env a y)->(∀k b,look own k=some b->J1t M w σ k b) ->
  ∃u,(Instr.sliceAt t (a.eval x) (low.map a.eval) (high.map a.eval) (max.map a.eval)).run P w=.ok u w/\Den M w σ v u:=by
 have h0:=J0f hx h;clear h;obtain⟨p,h,hp⟩:=h0;have E:∀{M w σ a},(∀y,y∈Y::(Xo T++Xo R++Xo mx)->XOk M w σ env a y)->∀y,y∈Xo T->XOk M w σ env a y:=fun ok y hy=>ok y (by simp[hy]);have D:∀{M w σ a},(∀y,y∈Y::(Xo T++Xo R++Xo mx)->XOk M w σ env a y)->∀y,y∈Xo R->XOk M w σ env a y:=fun ok y hy=>ok y (by simp[hy]);have a0:∀{M w σ a},(∀y,y∈Y::(Xo T++Xo R++Xo mx)->XOk M w σ env a y)->∀y,y∈Xo mx->XOk M w σ env a y:=fun ok y hy=>ok y (by simp[hy]);have Z:mx=none->max=none:=fun e=>by
  subst e;cases max with
  | none=>rfl
  | some o=>simp[cXo] at I
 have N:∀z,mx=some z->max≠none:=fun z e h=>by
  rw[e,h] at I;simp[cXo] at I
 have a1:∀z,R=some z->high≠none:=fun z e h=>by
  rw[e,h] at B;simp[cXo] at B
 split at h
 . rename_i n s' J1J f;split at h
   . rename_i hb;have e:=Qc hb;subst e;split at h
     . have j:=Z rfl;subst j;obtain⟨i,h,f1⟩:=J0C B h;obtain⟨A,h,f2⟩:=J0C F h;refine⟨_,h,fun M w σ a ok _=>?_⟩;obtain⟨U,c,hq,hc,S⟩:=(hp M w σ a (ok _ (by simp))).fz_inv;have hd:=hp M w σ a (ok _ (by simp));rw[hq] at hd ⊢;have r:=f1.ev (D ok);have g2:=f2.ev (E ok);have G:i<=n:=by rcases r with ⟨_,g⟩ | ⟨_,_,g⟩<;>omega
       have C:A<=i:=by rcases g2 with ⟨_,g⟩ | ⟨_,_,g⟩<;>omega
       refine⟨_,J1o ht hs (J1G (m:=c) (h:=i) (l:=A) (.inl ⟨rfl,rfl⟩) ?_ ?_),J9O hd C G (by omega) ?_⟩
       . rcases r with ⟨g,d⟩ | ⟨k,g,d⟩
         . subst g;exact .inl ⟨rfl,rfl,d⟩
         . exact .inr ⟨k,g,by omega⟩
       . rcases g2 with ⟨g,d⟩ | ⟨k,g,d⟩
         . subst g;exact .inl ⟨rfl,d⟩
         . exact .inr ⟨k,g,d⟩
       . cases R with
         | none =>
           intro hf;have ag:high=none:=by
            cases high with
            | none=>rfl
            | some o=>simp[cXo] at B
           rcases r with ⟨_,d⟩ | ⟨k,g,d⟩
           . have:=S hf;omega
           . subst ag;cases g
         | some z=>intro hf;cases hf
     . rename_i z;split at h
       . rename_i z2;obtain⟨m1,h,f0⟩:=J0C I h;obtain⟨i,h,f1⟩:=J0C B h;obtain⟨A,h,f2⟩:=J0C F h;refine⟨_,h,fun M w σ a ok _=>?_⟩;obtain⟨U,c,hq,hc,S⟩:=(hp M w σ a (ok _ (by simp))).fz_inv;have hd:=hp M w σ a (ok _ (by simp));rw[hq] at hd ⊢;have J:=f0.ev (a0 ok);have r:=f1.ev (D ok);have g2:=f2.ev (E ok);rcases J with ⟨g,_⟩ | ⟨Q,J,b0⟩
         . exact(N z rfl g).elim
         rcases r with ⟨g,_⟩ | ⟨O,r,b1⟩
         . exact(a1 z2 rfl g).elim
         have C:A<=i:=by rcases g2 with ⟨_,g⟩ | ⟨_,_,g⟩<;>omega
         refine⟨_,J1o ht hs (J1G (m:=m1) (h:=i) (l:=A) (.inr ⟨Q,J,by omega⟩) (.inr ⟨O,r,b1⟩) ?_),J9O hd C (by omega) b1 ?_⟩
         . rcases g2 with ⟨g,d⟩ | ⟨k,g,d⟩
           . subst g;exact .inl ⟨rfl,d⟩
           . exact .inr ⟨k,g,d⟩
         . intro hf;exact(J9l hf a r J).symm
       . exact h.elim
   . exact h.elim
 . split at h
   . have j:=Z rfl;subst j;obtain⟨i,h,f1⟩:=J0C B h;obtain⟨A,h,f2⟩:=J0C F h;refine⟨_,h,fun M w σ a ok _=>?_⟩;have hd:=hp M w σ a (ok _ (by simp));generalize a.eval x=q at hd;cases hd;have r:=f1.ev (D ok);have g2:=f2.ev (E ok);have G:i=0:=by rcases r with ⟨_,g⟩ | ⟨_,_,g⟩<;>omega
     have C:A=0:=by rcases g2 with ⟨_,g⟩ | ⟨_,_,g⟩<;>omega
     subst G C;refine⟨_,J1o ht hs (J1G (m:=0) (h:=0) (l:=0) (.inl ⟨rfl,rfl⟩) ?_ ?_),.nilslice _⟩
     . rcases r with ⟨g,d⟩ | ⟨k,g,d⟩
       . subst g;exact .inl ⟨rfl,rfl,d⟩
       . exact .inr ⟨k,g,by omega⟩
     . rcases g2 with ⟨g,d⟩ | ⟨k,g,d⟩
       . subst g;exact .inl ⟨rfl,d⟩
       . exact .inr ⟨k,g,d⟩
   . rename_i z;split at h
     . rename_i z2;obtain⟨m1,h,f0⟩:=J0C I h;obtain⟨i,h,f1⟩:=J0C B h;obtain⟨A,h,f2⟩:=J0C F h;refine⟨_,h,fun M w σ a ok _=>?_⟩;have hd:=hp M w σ a (ok _ (by simp));generalize a.eval x=q at hd;cases hd;have J:=f0.ev (a0 ok);have r:=f1.ev (D ok);have g2:=f2.ev (E ok);rcases J with ⟨g,_⟩ | ⟨Q,J,b0⟩
       . exact(N z rfl g).elim
       rcases r with ⟨g,_⟩ | ⟨O,r,b1⟩
       . exact(a1 z2 rfl g).elim
       have C:A=0:=by rcases g2 with ⟨_,g⟩ | ⟨_,_,g⟩<;>omega
       have G:i=0:=by omega
       have ae:m1=0:=by omega
       subst G C ae;refine⟨_,J1o ht hs (J1G (m:=0) (h:=0) (l:=0) (.inr ⟨Q,J,by omega⟩) (.inr ⟨O,r,b1⟩) ?_),.nilslice _⟩;rcases g2 with ⟨g,d⟩ | ⟨k,g,d⟩
       . subst g;exact .inl ⟨rfl,d⟩
       . exact .inr ⟨k,g,d⟩
     . exact h.elim
 . rename_i k s' H len;split at h
   . rename_i hb;have e:=Qc hb;subst e;have sub:∀(a2 i A:Nat),max=none->BdF env high R len a2 i->BdF env low T 0 i A->(∀M w σ,(∀k b,look own k=some b->J1t M w σ k b)->∀W base L,σ k=some (W,base,L)->a2<=L-H) ->
      ∀M w σ a,(∀y,y∈Y::(Xo T++Xo R++Xo mx)->XOk M w σ env a y)->(∀k b,look own k=some b->J1t M w σ k b) ->
      ∃u,(Instr.sliceAt t (a.eval x) (low.map a.eval) (high.map a.eval) (max.map a.eval)).run P w=.ok u w/\Den M w σ (.vec k s (H+A) (i-A)) u:=by
      intro a2 i A j f1 f2 aa M w σ a ok ho;subst j;have hd:=hp M w σ a (ok _ (by simp));generalize a.eval x=q at hd;cases hd with
      | vec _ _ _ _ _ W base L c U hk hc hl ha =>
        have r:=f1.ev (D ok);have g2:=f2.ev (E ok);have af:=aa M w σ ho W base L hk;have G:i<=c:=by rcases r with ⟨_,g⟩ | ⟨_,_,g⟩<;>omega
        have C:A<=i:=by rcases g2 with ⟨_,g⟩ | ⟨_,_,g⟩<;>omega
        refine⟨_,J1o ht hs (J1G (m:=c) (h:=i) (l:=A) (.inl ⟨rfl,rfl⟩) ?_ ?_),.vec _ _ _ _ _ _ _ _ _ _ hk (by omega) (by omega) ?_⟩
        . rcases r with ⟨g,d⟩ | ⟨k,g,d⟩
          . subst g;exact .inl ⟨rfl,rfl,d⟩
          . exact .inr ⟨k,g,by omega⟩
        . rcases g2 with ⟨g,d⟩ | ⟨k,g,d⟩
          . subst g;exact .inl ⟨rfl,d⟩
          . exact .inr ⟨k,g,d⟩
        . intro a9;obtain⟨b,a7,a6⟩:=ha (by omega);refine⟨b,a7,?_⟩;rw[Qb (by omega),a6];simp only[Zi,J1I];rw[Xc,Xk]
     split at h
     . have j:=Z rfl;split at h
       . rename_i n s2 f2 a4;by_cases a5:Nat.ble (H+len) n=true
         . have aj:=Qq a5;obtain⟨i,h,f1⟩:=J0C B (h.1 a5);obtain⟨A,h,f2⟩:=J0C F h;refine⟨_,h,sub (n-H) i A j f1 f2 ?_⟩;intro M w σ ho W base L hk;obtain⟨ah,a8,ac,s1,s2,_⟩:=ho k _ a4;rw[s1] at hk;cases hk;omega
         . exact(h.2 (by cases hq:Nat.ble (H+len) n;rfl;exact(a5 hq).elim)).elim
       . obtain⟨i,h,f1⟩:=J0C B h;obtain⟨A,h,f2⟩:=J0C F h;refine⟨_,h,fun M w σ a ok ho=>?_⟩;have hd:=hp M w σ a (ok _ (by simp));have ai:∀W base L,σ k=some (W,base,L)->len<=L-H:=by
          intro W base L hk;generalize a.eval x=q at hd;cases hd with
          | vec _ _ _ _ _ ah a8 ac c U ab hc hl ha =>
            rw[hk] at ab;cases ab;omega
         subst j;generalize a.eval x=q at hd;cases hd with
         | vec _ _ _ _ _ W base L c U hk hc hl ha =>
           have r:=f1.ev (D ok);have g2:=f2.ev (E ok);have G:i<=c:=by rcases r with ⟨_,g⟩ | ⟨_,_,g⟩<;>omega
           have C:A<=i:=by rcases g2 with ⟨_,g⟩ | ⟨_,_,g⟩<;>omega
           refine⟨_,J1o ht hs (J1G (m:=c) (h:=i) (l:=A) (.inl ⟨rfl,rfl⟩) ?_ ?_),.vec _ _ _ _ _ _ _ _ _ _ hk (by omega) (by omega) ?_⟩
           . rcases r with ⟨g,d⟩ | ⟨k,g,d⟩
             . subst g;exact .inl ⟨rfl,rfl,d⟩
             . exact .inr ⟨k,g,by omega⟩
           . rcases g2 with ⟨g,d⟩ | ⟨k,g,d⟩
             . subst g;exact .inl ⟨rfl,d⟩
             . exact .inr ⟨k,g,d⟩
           . intro a9;obtain⟨b,a7,a6⟩:=ha (by omega);refine⟨b,a7,?_⟩;rw[Qb (by omega),a6];simp only[Zi,J1I];rw[Xc,Xk]
     . rename_i z;split at h
       . rename_i z2;obtain⟨m1,h,f0⟩:=J0C I h;obtain⟨i,h,f1⟩:=J0C B h;obtain⟨A,h,f2⟩:=J0C F h;have run:∀M w σ a,(∀y,y∈Y::(Xo T++Xo (some z2)++Xo (some z))->XOk M w σ env a y)->∃U Q O,max.map a.eval=some (.int Q m1)/\high.map a.eval=some (.int O i) /\
          (Instr.sliceAt t (a.eval x) (low.map a.eval) (high.map a.eval) (max.map a.eval)).run P w=.ok (.slice U (i-A) (m1-A)) w:=by
          intro M w σ a ok;have hd:=hp M w σ a (ok _ (by simp));generalize a.eval x=q at hd;cases hd with
          | vec _ _ _ _ _ W base L c U hk hc hl ha =>
            have J:=f0.ev (a0 ok);have r:=f1.ev (D ok);have g2:=f2.ev (E ok);rcases J with ⟨g,_⟩ | ⟨Q,J,b0⟩
            . exact(N z rfl g).elim
            rcases r with ⟨g,_⟩ | ⟨O,r,b1⟩
            . exact(a1 z2 rfl g).elim
            refine⟨_,Q,O,J,r,J1o ht hs (J1G (m:=m1) (h:=i) (l:=A) (.inr ⟨Q,J,by omega⟩) (.inr ⟨O,r,b1⟩) ?_)⟩;rcases g2 with ⟨g,d⟩ | ⟨k,g,d⟩
            . subst g;exact .inl ⟨rfl,d⟩
            . exact .inr ⟨k,g,d⟩
         split at h
         . rename_i a3;split at h
           . rename_i h0;refine⟨_,h,fun M w σ a ok _=>?_⟩;obtain⟨U,Q,O,e1,e2,hr⟩:=run M w σ a ok;have:=J9l a3 a e2 e1;subst this;rw[h0] at hr;exact⟨_,hr,.fz0 _ _ _ _ _ _ (fun _=>rfl)⟩
           . refine⟨_,h,fun M w σ a ok _=>?_⟩;obtain⟨U,Q,O,e1,e2,hr⟩:=run M w σ a ok;exact⟨_,hr,.top _ _⟩
         . refine⟨_,h,fun M w σ a ok _=>?_⟩;obtain⟨U,Q,O,e1,e2,hr⟩:=run M w σ a ok;exact⟨_,hr,.top _ _⟩
       . exact h.elim
   . exact h.elim
 . exact h.elim
theorem J5e {env:Env}:∀{os:List Operand} {xs:List X} {K:List V->Prop},cXs os=some xs->X.gets env xs K ->
 ∃e,K e/\e.length=os.length/\∀M w σ (a:Act),(∀x,x∈xs->XOk M w σ env a x)->∀(i:Nat) (v:V) (u:Value),e[i]?=some v->(os.map a.eval)[i]?=some u->Den M w σ v u
 | [],xs,K,d,h=>by
   simp[cXs] at d;subst d;exact⟨[],h,rfl,fun _ _ _ _ _=>by simp⟩
 | o::os,xs,K,d,h=>by
   unfold cXs at d;split at d<;>simp only[Qf,reduceCtorEq] at d;rename_i x j s r;subst d;obtain⟨v,h,n⟩:=J0f s h;obtain⟨e,q,p,f⟩:=J5e r h;refine⟨_,q,by simp[p],?_⟩;intro M w σ a g i k l b c;cases i with
   | zero=>simp at b c;subst b c;exact n M w σ a (g x (by simp))
   | succ i=>exact f M w σ a (fun y m=>g y (by simp[m])) i k l (by simpa using b) (by simpa using c)
theorem Q21 {P:Program} {o:Oper} {po:POp} (A:Q0Y P o.op=some po) {env:Env} {K:V->Prop} (h:J24 po env K) :
 ∃v,K v/\J89 P o po.xs env v:=by
 obtain⟨dst,op,type,pos,after,guard⟩:=o;simp only at A;cases op<;>simp only[Q0Y,Qt,reduceCtorEq] at A
 case move x =>
  obtain⟨H,I,rfl⟩:=A;obtain⟨v,l,B⟩:=J0f I h;exact⟨v,l,fun M w σ a ok=>⟨_,rfl,B M w σ a (ok _ (by simp[POp.xs]))⟩⟩
 case assign x =>
  obtain⟨H,I,rfl⟩:=A;obtain⟨v,l,B⟩:=J0f I h;exact⟨v,l,fun M w σ a ok=>⟨_,rfl,B M w σ a (ok _ (by simp[POp.xs]))⟩⟩
 case pick c x y =>
  split at A<;>simp only[Qf,reduceCtorEq] at A;rename_i c' H y' F O h3;subst A;obtain⟨vc,a4,ah⟩:=J0f F h;split at a4
  . split at a4
    . obtain⟨v,l,B⟩:=J0f O a4;refine⟨v,l,fun M w σ a ok=>⟨_,?_,B M w σ a (ok _ (by simp[POp.xs]))⟩⟩;have:=ah M w σ a (ok _ (by simp[POp.xs]));generalize C:a.eval c=q at this;cases this;simp[execOp,C,asBool,Sem.run_pure]
    . obtain⟨v,l,B⟩:=J0f h3 a4;refine⟨v,l,fun M w σ a ok=>⟨_,?_,B M w σ a (ok _ (by simp[POp.xs]))⟩⟩;have:=ah M w σ a (ok _ (by simp[POp.xs]));generalize C:a.eval c=q at this;cases this;simp[execOp,C,asBool,Sem.run_pure]
  . exact a4.elim
 case nilCheck x =>
  obtain⟨H,I,rfl⟩:=A;obtain⟨v,l,B⟩:=J0f I h;split at l
  all_goals first
   | exact l.elim
   | (refine⟨_,l,fun M w σ a ok=>?_⟩
      have:=B M w σ a (ok _ (by simp[POp.xs]));generalize C:a.eval x=q at this;refine⟨q,?_,this⟩;cases this<;>simp[execOp,C,Sem.run_pure])
 case binOp op T x y yT =>
  split at A<;>simp only[Qf,reduceCtorEq] at A;rename_i H y' F O;subst A;obtain⟨vx,an,al⟩:=J0f F h;obtain⟨vy,ak,aj⟩:=J0f O an;obtain⟨v,l,hr⟩:=Q5U ak;refine⟨v,l,fun M w σ a ok=>?_⟩;obtain⟨u,hu,hd⟩:=hr M w σ x y _ _ (al M w σ a (ok _ (by simp[POp.xs]))) (aj M w σ a (ok _ (by simp[POp.xs])));refine⟨u,?_,hd⟩;exact J1c hu
 case unOp op T x =>
  obtain⟨H,I,rfl⟩:=A;obtain⟨v,l,B⟩:=J0f I h;have U:∀(r:V) (q:Value->Value),K r->(∀M w σ u,Den M w σ v u->∃u',(Op.unary op u).run P w=.ok u' w/\Den M w σ r u')->∃v,K v/\J89 P ⟨dst,.unOp op T x,type,pos,after,guard⟩ (POp.xs (.un op H)) env v:=by
   intro r _ hr C;refine⟨r,hr,fun M w σ a ok=>?_⟩;obtain⟨u',F,O⟩:=C M w σ _ (B M w σ a (ok _ (by simp[POp.xs])));refine⟨u',?_,O⟩;exact J1c F
  split at l
  . split at l
    . exact U _ id l (fun M w σ u hd=>by cases hd;exact⟨_,rfl,.bool _ _⟩)
    . exact U _ id l (fun M w σ u hd=>by cases hd;exact⟨_,rfl,.bool _ _⟩)
  . obtain⟨m,Y,l⟩:=l;subst Y;exact U _ id l (fun M w σ u hd=>by cases hd;exact⟨_,rfl,.int _ _ _⟩)
  . obtain⟨m,Y,l⟩:=l;subst Y;exact U _ id l (fun M w σ u hd=>by cases hd;exact⟨_,rfl,.int _ _ _⟩)
  . exact l.elim
 case convert src dstT x =>
  split at A<;>simp only[Qf,reduceCtorEq] at A;rename_i k0 k H F O h3;subst A;obtain⟨v,l,B⟩:=J0f h3 h;split at l
  . obtain⟨m,Y,l⟩:=l;subst Y;refine⟨_,l,fun M w σ a ok=>⟨_,?_,.int _ _ _⟩⟩;have:=B M w σ a (ok _ (by simp[POp.xs]));generalize C:a.eval x=q at this;cases this;refine J1c (s:=convert src dstT (a.eval x)) ?_;rw[C];simp[convert,Sem.run_bind,run_underlying F,run_underlying O,Conv.intToInt,Sem.run_pure]
  . exact l.elim
 case fieldAddr S x f =>
  split at A
  . rename_i fs H F O;split at A
    . rename_i fd hf;split at A<;>simp only[Qf,reduceCtorEq] at A;rename_i nn hs;subst A;obtain⟨v,l,B⟩:=J0f O h;have run:∀(a:Act) (w:World) (b off:Nat),a.eval x=.pointer (some ⟨b,off,none⟩) ->
       (execOp a.eval ⟨dst,.fieldAddr S x f,type,pos,after,guard⟩).run P w=.ok (.value (.pointer (some ⟨b,off+fd.offset,none⟩))) w:=by
       intro a w b off he;refine J1c (s:=Instr.fieldAt S (a.eval x) f) ?_;rw[he];simp[Instr.fieldAt,Sem.run_bind,run_underlying F,hf,Instr.sureAddr,fieldPlace,J1d hs,J1I,go_sem]
      split at l
      . refine⟨_,l,fun M w σ a ok=>?_⟩;have:=B M w σ a (ok _ (by simp[POp.xs]));generalize C:a.eval x=q at this;cases this with
        | loc _ _ _ b base κ hk=>exact⟨_,run a w _ _ C,by rw[Xk];exact .loc _ _ _ _ _ _ hk⟩
      . refine⟨_,l,fun M w σ a ok=>?_⟩;have:=B M w σ a (ok _ (by simp[POp.xs]));generalize C:a.eval x=q at this;cases this with
        | oel _ _ s i j b base κ hk=>exact⟨_,run a w _ _ C,by rw[Xk,Xk];exact .oel _ _ _ _ _ _ _ _ hk⟩
      . refine⟨_,l,fun M w σ a ok=>?_⟩;have:=B M w σ a (ok _ (by simp[POp.xs]));generalize C:a.eval x=q at this;cases this with
        | fe _ n s f i j b off u Z hM hb L F hd=>exact⟨_,run a w _ _ C,by rw[Xk,Xk];exact .fe _ _ _ _ _ _ _ _ u Z hM hb L F hd⟩
      . exact l.elim
    . cases A
  . cases A
 case field S x f =>
  split at A
  . rename_i fs H F O;split at A
    . rename_i fd hf;simp only[Qt] at A;obtain⟨z,hz,rfl⟩:=A;obtain⟨v,l,B⟩:=J0f O h;split at l
      . rename_i cs;have run:∀(a:Act) (w:World) (us:List Value) (u:Value),a.eval x=.agg us.toArray->(part fd.type us.toArray fd.offset).run P w=.ok u w ->
         (execOp a.eval ⟨dst,.field S x f,type,pos,after,guard⟩).run P w=.ok (.value u) w:=by
         intro a w us u he hp;refine J1c (s:=Instr.field S (a.eval x) f) ?_;rw[he];simp only[Instr.field,Sem.run_bind,run_underlying F,Result.andThen_ok,hf,asAgg];simpa[Sem.run_bind,Sem.run_pure] using hp
        unfold J4i at hz;split at hz
        . rename_i ab;simp only[Qt] at hz;obtain⟨n,hn,rfl⟩:=hz;simp only at l;obtain⟨r,ao,ae,hr3,hr4⟩:=J3W _ _ _ _ l;refine⟨_,ao,fun M w σ a ok=>?_⟩;obtain⟨us,e1,e2,e3⟩:=(B M w σ a (ok _ (by simp[POp.xs]))).agg_inv;refine⟨_,run a w us _ e1 (Q1B ab hn w),?_⟩;have I:(us.toArray.extract fd.offset (fd.offset+n))=((us.drop fd.offset).take n).toArray:=by
           apply Zf;simp[K8]
          rw[I];refine .agg _ _ _ ?_ ?_
          . rw[ae,Zt,Yj];rcases Q4 n with e|e
            . omega
            . have:=hr3 e;omega
          . intro i v' u' aa ac;have Z:i<n:=by rw[<- ae];exact(Qs.1 aa).1
            rw[hr4 i Z] at aa;rw[Ya,Qe Z,Yk] at ac;exact e3 _ _ _ aa ac
        . rename_i ab;simp only[Qf] at hz;subst hz;simp only at l;split at l
          . rename_i v' hn;rw[Q4M] at hn;refine⟨_,l,fun M w σ a ok=>?_⟩;obtain⟨us,e1,e2,e3⟩:=(B M w σ a (ok _ (by simp[POp.xs]))).agg_inv;have a2:fd.offset<us.length:=by rw[<- e2];exact(Qs.1 hn).1
            exact⟨us[fd.offset],run a w us _ e1 (J03 ab (by simp[a2]) w),e3 _ _ _ hn (by simp[a2])⟩
          . exact l.elim
        . cases hz
      . exact l.elim
    . cases A
  . cases A
 case indexAddr T x i =>
  split at A
  . rename_i e H i' F O h3;simp only[Qt] at A;obtain⟨s,hs,rfl⟩:=A;obtain⟨v,a5,B⟩:=J0f O h;obtain⟨vi,l,W⟩:=J0f h3 a5;clear a5;have run:∀(a:Act) (w:World) (b off len c m:Nat) (k:IntKind),a.eval x=.slice (some ⟨b,off,none⟩) len c->a.eval i=.int k m->m<len ->
     (execOp a.eval ⟨dst,.indexAddr T x i,type,pos,after,guard⟩).run P w=.ok (.value (.pointer (some ⟨b,off+m*s,none⟩))) w:=by
     intro a w b off len c m k he Z Y;refine J1c (s:=Instr.indexAt T (a.eval x) (a.eval i)) ?_;rw[he,Z];have h0:(0:Int)<=m/\(m:Int)<len:=by omega
     simp[Instr.indexAt,asIntOf,Sem.run_bind,run_underlying F,J1d hs,J1I,h0,go_sem];intro ag;omega
    split at l
    . rename_i n s' J1J f k a6;split at l
      . rename_i a0;obtain⟨m,J,G,l⟩:=l;have a1:s=s':=by simpa using a0
        subst a1;refine⟨_,l,fun M w σ a ok=>?_⟩;have d1:=B M w σ a (ok _ (by simp[POp.xs]));have d2:=W M w σ a (ok _ (by simp[POp.xs]));generalize C:a.eval x=q at d1;generalize D:a.eval i=q2 at d2;cases d2;subst J;cases d1 with
        | fz0=>omega
        | fz _ _ _ _ _ b off c u A hf hM hb L F hd =>
          exact⟨_,run a w b off n c m k C D G,.fe _ _ _ _ _ _ _ _ u G hM hb L F hd⟩
      . exact l.elim
    . rename_i kk s' lo len k a6;split at l
      . rename_i a0;obtain⟨m,J,G,l⟩:=l;have a1:s=s':=by simpa using a0
        subst a1;refine⟨_,l,fun M w σ a ok=>?_⟩;have d1:=B M w σ a (ok _ (by simp[POp.xs]));have d2:=W M w σ a (ok _ (by simp[POp.xs]));generalize C:a.eval x=q at d1;generalize D:a.eval i=q2 at d2;cases d2;subst J;cases d1 with
        | vec _ _ _ _ _ bo base κ c ad hk A hl ha =>
          obtain⟨b,ar,aq⟩:=ha (by omega);subst ar aq;refine⟨_,run a w b _ len c m k C D G,?_⟩;rw[show base+lo*s+m*s=base+((lo+m)*s+0) by rw[Xc];omega];exact .oel _ _ _ _ _ _ _ _ hk
      . exact l.elim
    . exact l.elim
  . rename_i n e H i' F O h3;simp only[Qt] at A;obtain⟨s,hs,rfl⟩:=A;obtain⟨v,a5,B⟩:=J0f O h;obtain⟨vi,l,W⟩:=J0f h3 a5;clear a5;have run:∀(a:Act) (w:World) (b off m:Nat) (k:IntKind),a.eval x=.pointer (some ⟨b,off,none⟩)->a.eval i=.int k m->m<n ->
     (execOp a.eval ⟨dst,.indexAddr T x i,type,pos,after,guard⟩).run P w=.ok (.value (.pointer (some ⟨b,off+m*s,none⟩))) w:=by
     intro a w b off m k he Z Y;refine J1c (s:=Instr.indexAt T (a.eval x) (a.eval i)) ?_;rw[he,Z];have h0:(0:Int)<=m/\(m:Int)<n:=by omega
     simp[Instr.indexAt,asIntOf,Sem.run_bind,run_underlying F,J1d hs,J1I,h0,go_sem,Instr.sureAddr];intro ag;omega
    split at l
    . rename_i kk o k a6;obtain⟨m,J,G,l⟩:=l;refine⟨_,l,fun M w σ a ok=>?_⟩;have d1:=B M w σ a (ok _ (by simp[POp.xs]));have d2:=W M w σ a (ok _ (by simp[POp.xs]));generalize C:a.eval x=q at d1;generalize D:a.eval i=q2 at d2;cases d2;subst J;cases d1 with
      | loc _ _ _ b base κ hk=>exact⟨_,run a w b _ m k C D G,by rw[Xk];exact .loc _ _ _ _ _ _ hk⟩
    . rename_i n' s' f i0 j0 k a6;obtain⟨m,J,G,l⟩:=l;refine⟨_,l,fun M w σ a ok=>?_⟩;have d1:=B M w σ a (ok _ (by simp[POp.xs]));have d2:=W M w σ a (ok _ (by simp[POp.xs]));generalize C:a.eval x=q at d1;generalize D:a.eval i=q2 at d2;cases d2;subst J;cases d1 with
      | fe _ _ _ _ _ _ b off u Z hM hb L F hd=>exact⟨_,run a w b _ m k C D G,by rw[Xk,Xk];exact .fe _ _ _ _ _ _ _ _ u Z hM hb L F hd⟩
    . rename_i kk s' i0 j0 k a6;split at l
      . rename_i a0;obtain⟨m,J,G,l⟩:=l;have a1:s=s':=by simpa using a0
        subst a1;refine⟨_,l,fun M w σ a ok=>?_⟩;have d1:=B M w σ a (ok _ (by simp[POp.xs]));have d2:=W M w σ a (ok _ (by simp[POp.xs]));generalize C:a.eval x=q at d1;generalize D:a.eval i=q2 at d2;cases d2;subst J;cases d1 with
        | oel _ _ _ _ _ b base κ hk =>
          refine⟨_,run a w b _ m k C D G,?_⟩;rw[show base+(0*s+0)+m*s=base+(m*s+0) by omega];exact .oel _ _ _ _ _ _ _ _ hk
      . obtain⟨m,J,G,l⟩:=l;refine⟨_,l,fun M w σ a ok=>?_⟩;have d1:=B M w σ a (ok _ (by simp[POp.xs]));have d2:=W M w σ a (ok _ (by simp[POp.xs]));generalize C:a.eval x=q at d1;generalize D:a.eval i=q2 at d2;cases d2;subst J;cases d1 with
        | oel _ _ _ _ _ b base κ hk =>
          refine⟨_,run a w b _ m k C D G,?_⟩;have e:∀p q r t:Nat,p+(q+r)+t=p+(q+(r+t)):=by intros;omega
          rw[e];exact .oel _ _ _ _ _ _ _ _ hk
    . exact l.elim
  . cases A
 case extract x i =>
  obtain⟨H,I,rfl⟩:=A;obtain⟨v,l,B⟩:=J0f I h;split at l
  . split at l
    . rename_i v' hn;rw[Q4M] at hn;refine⟨_,l,fun M w σ a ok=>?_⟩;have d:=B M w σ a (ok _ (by simp[POp.xs]));generalize C:a.eval x=q at d;cases d with
      | tup _ _ us hl hd =>
        have a2:i<us.length:=by rw[<- hl];exact(Qs.1 hn).1
        refine⟨us[i],?_,hd _ _ _ hn (by simp[a2])⟩;refine J1c (s:=Instr.extract (a.eval x) i) ?_;rw[C];simp[Instr.extract,a2,Sem.run_pure]
    . exact l.elim
  . exact l.elim
 case slice T x low high max =>
  unfold Y6F at A;split at A
  . rename_i e H lo Z mx F O h3 h4 h5;simp only[Qt] at A;obtain⟨s,hs,rfl⟩:=A;simp only[J24] at h;obtain⟨v,l,hr⟩:=J9c F hs O h3 h4 h5 h;refine⟨v,l,fun M w σ a ok=>?_⟩;obtain⟨u,u1,u2⟩:=hr M w σ a ok (fun k b hb=>by simp[look] at hb);exact⟨u,J1c u1,u2⟩
  . rename_i H lo Z F O h3 h4 h5;cases A;have af:max=none:=by
     cases max with
     | none=>rfl
     | some o=>simp[cXo] at h5
    subst af;have h0:=J0f O h;clear h;obtain⟨p,h,hp⟩:=h0;split at h
    . rename_i b;obtain⟨hh,h,f1⟩:=J0C h4 h;obtain⟨ll,h,f2⟩:=J0C h3 h;refine⟨_,h,fun M w σ a ok=>⟨_,?_,.str _ _⟩⟩;have hd:=hp M w σ a (ok _ (by simp[POp.xs]));refine J1c (s:=Instr.sliceAt T (a.eval x) (low.map a.eval) (high.map a.eval) none) ?_;generalize a.eval x=q at hd;cases hd;have g1:=f1.ev (M:=M) (w:=w) (σ:=σ) (a:=a) (fun y hy=>ok y (by simp[POp.xs,hy]));have g2:=f2.ev (M:=M) (w:=w) (σ:=σ) (a:=a) (fun y hy=>ok y (by simp[POp.xs,hy]));refine Q0j F (J1G (m:=b.size) (.inl ⟨rfl,rfl⟩) ?_ ?_)
      . rcases g1 with ⟨g,g'⟩ | ⟨k,g,g'⟩
        . subst g;exact .inl ⟨rfl,rfl,g'⟩
        . exact .inr ⟨k,g,by omega⟩
      . rcases g2 with ⟨g,g'⟩ | ⟨k,g,g'⟩
        . subst g;exact .inl ⟨rfl,g'⟩
        . exact .inr ⟨k,g,g'⟩
    . exact h.elim
  . cases A
 case index T x i =>
  split at A<;>simp only[Qf,reduceCtorEq] at A;rename_i H i' F O h3;subst A;have h0:=J0f O h;clear h;obtain⟨p,h,hp⟩:=h0;have h0:=J0f h3 h;clear h;obtain⟨vi,h,Z⟩:=h0;split at h
  . rename_i b k n;obtain⟨m,rfl,Y,l⟩:=h;refine⟨_,l,fun M w σ a ok=>⟨_,?_,.int _ _ _⟩⟩;have d1:=hp M w σ a (ok _ (by simp[POp.xs]));have d2:=Z M w σ a (ok _ (by simp[POp.xs]));refine J1c (s:=Instr.index T (a.eval x) (a.eval i)) ?_;generalize a.eval x=q at d1;generalize a.eval i=q2 at d2;cases d1;cases d2;have hg:b[m]?=some (b.get! m):=by
     rw[getElem?_pos b m Y];have:b.get! m=b[m]:=by
      obtain⟨d⟩:=b;exact getElem!_pos d m Y
     rw[this]
    simp[Instr.index,asIntOf,Sem.run_bind,run_underlying F,hg,go_sem]
  . exact h.elim
 case makeFunc f first captured =>
  split at A
  . rename_i hf;simp only[Qt] at A;obtain⟨xs,a7,rfl⟩:=A;obtain⟨vs,l,hl,a8⟩:=J5e a7 h;refine⟨_,l,fun M w σ a ok=>?_⟩;have a3:captured.map a.eval=(captured.toList.map a.eval).toArray:=by
     apply Zf;simp
    have Q:first.map a.eval=#[]:=by
     apply Zf;simp[hf]
    refine⟨.func f #[] (captured.toList.map a.eval).toArray,J1c (s:=Instr.makeFunc f (first.map a.eval) (captured.map a.eval)) ?_,.fn _ _ false _ _ (by simpa using hl) (a8 M w σ a ok)⟩;rw[a3,Q];rfl
  . split at A
    . rename_i hf;simp only[Qt] at A;obtain⟨xs,a7,rfl⟩:=A;obtain⟨vs,l,hl,a8⟩:=J5e a7 h;refine⟨_,l,fun M w σ a ok=>?_⟩;have a3:first.map a.eval=(first.toList.map a.eval).toArray:=by
       apply Zf;simp
      have Q:captured.map a.eval=#[]:=by
       apply Zf;simp[hf]
      refine⟨.func f (first.toList.map a.eval).toArray #[],J1c (s:=Instr.makeFunc f (first.map a.eval) (captured.map a.eval)) ?_,.fn _ _ true _ _ (by simpa using hl) (a8 M w σ a ok)⟩;rw[a3,Q];rfl
    . cases A
 case call c =>
  obtain⟨callee,args,ats⟩:=c;cases callee with
  | value f=>simp at A
  | invoke r m=>simp at A
  | builtin b =>
    cases b<;>simp only[reduceCtorEq] at A
    case len =>
     split at A
     . rename_i x t N ai;have run:∀(a:Act) (w:World) (u:Value),(Builtin.len_ ats type #[a.eval x]).run P w=.ok u w ->
        (execOp a.eval ⟨dst,.call ⟨.builtin .len,args,ats⟩,type,pos,after,guard⟩).run P w=.ok (.value u) w:=by
        intro a w u hu;have E:args.map a.eval=#[a.eval x]:=by
         apply Zf;simp[N]
        show((pure { target:=Target.builtin .len ats type (args.map fun | .const _=>true|_=>false),args:=args.map a.eval }:Sem Deferred) >>= fun d=>invoke d.target d.args).run P w=_;rw[Sem.run_bind,E];exact J1c hu
       have R:ats[0]?=some t:=by
        rw[<- Z4,ai];rfl
       have U:∀{H:X} {v r:V},cX x=some H->(∀M w σ a,XOk M w σ env a H->Den M w σ v (a.eval x))->K r ->
        (∀M w σ u,Den M w σ v u->∃u',(Builtin.len_ ats type #[u]).run P w=.ok u' w/\Den M w σ r u')->∃v,K v/\J89 P ⟨dst,.call ⟨.builtin .len,args,ats⟩,type,pos,after,guard⟩ [H] env v:=by
        intro H v r I B hr C;refine⟨r,hr,fun M w σ a ok=>?_⟩;obtain⟨u',F,O⟩:=C M w σ _ (B M w σ a (ok _ (by simp)));exact⟨u',run a w u' F,O⟩
       split at A<;>simp only[Qf,reduceCtorEq] at A
       . rename_i e H hu I;subst A;obtain⟨v,l,B⟩:=J0f I h;split at l
         . refine U I B l (fun M w σ u hd=>?_);cases hd<;>exact⟨_,by simp[Builtin.len_,R,Sem.run_bind,run_underlying hu,goInt,go_sem],.int _ _ _⟩
         . refine U I B l (fun M w σ u hd=>?_);cases hd;exact⟨_,by simp[Builtin.len_,R,Sem.run_bind,run_underlying hu,goInt,go_sem],.int _ _ _⟩
         . refine U I B l (fun M w σ u hd=>?_);cases hd;exact⟨_,by simp[Builtin.len_,R,Sem.run_bind,run_underlying hu,goInt,go_sem],.int _ _ _⟩
         . exact l.elim
       . rename_i H hu I;subst A;obtain⟨v,l,B⟩:=J0f I h;split at l
         . refine U I B l (fun M w σ u hd=>?_);cases hd;exact⟨_,by simp[Builtin.len_,R,Sem.run_bind,run_underlying hu,goInt,go_sem],.int _ _ _⟩
         . exact l.elim
     . cases A
    case max =>
     split at A
     . rename_i x y N;split at A<;>simp only[Qf,reduceCtorEq] at A;rename_i H y' I hy;subst A;obtain⟨v,l,B⟩:=J0f I h;obtain⟨v2,l,a9⟩:=J0f hy l;split at l
       . obtain⟨m,Y,l⟩:=l;subst Y;refine⟨_,l,fun M w σ a ok=>⟨_,?_,.int _ _ _⟩⟩;have d1:=B M w σ a (ok _ (by simp[POp.xs]));have d2:=a9 M w σ a (ok _ (by simp[POp.xs]));generalize C:a.eval x=q at d1;generalize D:a.eval y=q2 at d2;cases d1;cases d2;have E:args.map a.eval=#[a.eval x,a.eval y]:=by
          apply Zf;simp[N]
         show((pure { target:=Target.builtin .max ats type (args.map fun | .const _=>true|_=>false),args:=args.map a.eval }:Sem Deferred) >>= fun d=>invoke d.target d.args).run P w=_;rw[Sem.run_bind,E,C,D];exact J1c rfl
       . exact l.elim
     . cases A
    case min =>
     split at A
     . rename_i x y N;split at A<;>simp only[Qf,reduceCtorEq] at A;rename_i H y' I hy;subst A;obtain⟨v,l,B⟩:=J0f I h;obtain⟨v2,l,a9⟩:=J0f hy l;split at l
       . obtain⟨m,Y,l⟩:=l;subst Y;refine⟨_,l,fun M w σ a ok=>⟨_,?_,.int _ _ _⟩⟩;have d1:=B M w σ a (ok _ (by simp[POp.xs]));have d2:=a9 M w σ a (ok _ (by simp[POp.xs]));generalize C:a.eval x=q at d1;generalize D:a.eval y=q2 at d2;cases d1;cases d2;have E:args.map a.eval=#[a.eval x,a.eval y]:=by
          apply Zf;simp[N]
         show((pure { target:=Target.builtin .min ats type (args.map fun | .const _=>true|_=>false),args:=args.map a.eval }:Sem Deferred) >>= fun d=>invoke d.target d.args).run P w=_;rw[Sem.run_bind,E,C,D];exact J1c rfl
       . exact l.elim
     . cases A
end Go.Eng
