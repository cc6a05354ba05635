import Derived.Calls
import Derived.Laws.Cells
import Derived.Laws.AppendOwn
import Derived.OrdersIn
import Derived.RangeFuncRecord
import Derived.Laws.Entries
import Derived.Laws.StructEq
import Derived.ChangeKeysEq
namespace Go.Eng
inductive V where
 | bool (b:Bool)
 | int (k:IntKind) (n:Int)
 | str (s:ByteArray)
 | nilptr|nilslice|nilmap|nilfunc|niliface
 | loc (k off:Nat)
 | oel (k s i j:Nat)
 | vec (k s lo len:Nat)
 | fz (n s:Nat) (full:Bool) (f:Nat->Nat->V)
 | fe (n s:Nat) (f:Nat->Nat->V) (i j:Nat)
 | map (k:Nat)
 | yld (k:Nat)
 | fn (f:Fn) (b:Bool) (cap:List V)
 | iface (t:TypeId) (v:V)
 | agg (cs:List V)
 | tup (vs:List V)
 | raw (v:Value)
 | anyb
 | top
 deriving Inhabited
inductive X where
 | t (n:Nat)
 | k (v:V)
def J4o:Value->Option V
 | .int k n=>some (.int k n)
 | .bool b=>some (.bool b)
 | .string s=>some (.str s)
 | .pointer none=>some .nilptr
 | .slice none 0 0=>some .nilslice
 | .map none=>some .nilmap
 | .nilFunc=>some .nilfunc
 | .nilIface=>some .niliface
 | _=>none
def J12:List Value->Option (List V)
 | []=>some []
 | v::r=>match J4o v,J12 r with
   | some x,some xs=>some (x::xs)
   | _,_=>none
def ofValue:Value->Option V
 | .agg cs=>(J12 cs.toList).map .agg
 | v=>J4o v
def cX:Operand->Option X
 | .tmp t=>some (.t t)
 | .const v=>(ofValue v).map .k
 | .func f=>some (.k (.fn (.func f) false []))
 | .global _=>none
def cXs:List Operand->Option (List X)
 | []=>some []
 | o::r=>match cX o,cXs r with
   | some x,some xs=>some (x::xs)
   | _,_=>none
def cXo:Option Operand->Option (Option X)
 | none=>some none
 | some o=>(cX o).map some
def J1e (P:Program) (t:TypeId):Option Bool:=match P.underlying t with
 | some (.struct _)|some (.array ..)=>some true
 | some _=>some false
 | none=>none
def J11 (P:Program) (t:TypeId):Option Nat:=(P.info? t).map (·.size)
def J2o (P:Program) (t:TypeId):Option (Option Nat):=match J1e P t with
 | some true=>(J11 P t).map some
 | some false=>some none
 | none=>none
def J1c (P:Program) (t:TypeId):Option (List V):=match P.info? t with
 | some i=>match i.zero with
   | some z=>J12 z.cells.toList
   | none=>none
 | none=>none
abbrev Env:=List (Nat×V)
inductive MKd where
 | pair (k:IntKind)
 | one (k:IntKind)
 | str
 | st (l:List IntKind)
 deriving DecidableEq
def KyS:List IntKind->Type
 | []=>Unit
 | _::r=>Int×KyS r
def KyS.dec:(l:List IntKind)->DecidableEq (KyS l)
 | []=>inferInstanceAs (DecidableEq Unit)
 | _::r=>@instDecidableEqProd Int (KyS r) inferInstance (KyS.dec r)
@[reducible] def KyT:MKd->Type
 | .pair _=>Int×Int
 | .one _=>Int
 | .str=>ByteArray
 | .st l=>KyS l
instance:(m:MKd)->DecidableEq (KyT m)
 | .pair _=>inferInstanceAs (DecidableEq (Int×Int))
 | .one _=>inferInstanceAs (DecidableEq Int)
 | .str=>inferInstanceAs (DecidableEq ByteArray)
 | .st l=>KyS.dec l
inductive Blk where
 | cells (cs:List V)
 | vec (n s:Nat) (f:Nat->Nat->V)
 | loop (st:LoopState) (pe:Option (Option Nat)) (env:Env) (N:Nat) (ps:List Nat) (C:Code->Code->Prop)
 | map (ik:MKd) (es:List (KyT ik×V))
 | iter (km n:Nat) (J1h:List Nat)
 | glob (g n:Nat) (f:Nat->Nat->V)
 | fam (n s:Nat) (len:Nat->Nat) (f:Nat->Nat->Nat->V) (op:List (Nat×Nat))
instance:Inhabited Blk:=⟨.cells []⟩
abbrev Own:=List (Nat×Blk)
structure St where
 env:Env
 own:Own
 ks:List Nat
inductive Chk (b:Bool) (K:Prop):Prop where
 | mk (h:b=true) (hK:K):Chk b K
inductive Out where
 | normal (st:St)
 | exit (id:Nat) (st:St)
 | ret (st:St)
def look {α:Type}:List (Nat×α)->Nat->Option α
 | [],_=>none
 | (k,v)::r,t=>match Nat.beq k t with|true=>some v|false=>look r t
abbrev Sg:=Nat->Option (Option Nat×Nat×Nat)
def Sg.none:Sg:=fun _=>Option.none
def Sg.le (σ τ:Sg):Prop:=∀k x,σ k=some x->τ k=some x
def fnB (b:Bool) (us:List Value):Array Value:=match b with|true=>us.toArray|false=>#[]
def fnC (b:Bool) (us:List Value):Array Value:=match b with|true=>#[]|false=>us.toArray
inductive Den (M:Nat->Prop) (w:World):Sg->V->Value->Prop
 | bool (σ:Sg) (b:Bool):Den M w σ (.bool b) (.bool b)
 | int (σ:Sg) (k:IntKind) (n:Int):Den M w σ (.int k n) (.int k n)
 | str (σ:Sg) (s:ByteArray):Den M w σ (.str s) (.string s)
 | nilptr (σ:Sg):Den M w σ .nilptr (.pointer Option.none)
 | nilslice (σ:Sg):Den M w σ .nilslice (.slice Option.none 0 0)
 | nilmap (σ:Sg):Den M w σ .nilmap (.map Option.none)
 | nilfunc (σ:Sg):Den M w σ .nilfunc .nilFunc
 | niliface (σ:Sg):Den M w σ .niliface .nilIface
 | loc (σ:Sg) (k off b:Nat) (base κ:Nat) (h:σ k=some (some b,base,κ)):Den M w σ (.loc k off) (.pointer (some ⟨b,base+off,Option.none⟩))
 | oel (σ:Sg) (k s i j b base κ:Nat) (h:σ k=some (some b,base,κ)):Den M w σ (.oel k s i j) (.pointer (some ⟨b,base+(i*s+j),Option.none⟩))
 | vec (σ:Sg) (k s lo len:Nat) (bo:Option Nat) (base κ c:Nat) (a:Option Addr) (h:σ k=some (bo,base,κ)) (hc:c+lo=κ) (hl:len<=c)
    (ha:0<c->∃b,bo=some b/\a=some ⟨b,base+lo*s,Option.none⟩):Den M w σ (.vec k s lo len) (.slice a len c)
 | fz0 (σ:Sg) (s:Nat) (full:Bool) (f:Nat->Nat->V) (a:Option Addr) (c:Nat) (hf:full=true->c=0):Den M w σ (.fz 0 s full f) (.slice a 0 c)
 | fz (σ:Sg) (n s:Nat) (full:Bool) (f:Nat->Nat->V) (b off c:Nat) (u:Nat->Nat->Value) (hc:n<=c) (hf:full=true->c=n)
    (hM:¬ M b) (hb:b<w.heap.size) (hcell:∀i j,i<n->j<s->w.cell? ⟨b,off+(i*s+j),Option.none⟩=some (u i j))
    (h1:∀i j,i<n->j<s->(u i j).oneCell'=true)
    (hd:∀i j,i<n->j<s->Den M w Sg.none (f i j) (u i j)):Den M w σ (.fz n s full f) (.slice (some ⟨b,off,Option.none⟩) n c)
 | fe (σ:Sg) (n s:Nat) (f:Nat->Nat->V) (i j b off:Nat) (u:Nat->Nat->Value) (hi:i<n)
    (hM:¬ M b) (hb:b<w.heap.size) (hcell:∀i j,i<n->j<s->w.cell? ⟨b,off+(i*s+j),Option.none⟩=some (u i j))
    (h1:∀i j,i<n->j<s->(u i j).oneCell'=true)
    (hd:∀i j,i<n->j<s->Den M w Sg.none (f i j) (u i j)):Den M w σ (.fe n s f i j) (.pointer (some ⟨b,off+(i*s+j),Option.none⟩))
 | map (σ:Sg) (k b base κ:Nat) (h:σ k=some (some b,base,κ)):Den M w σ (.map k) (.map (some b))
 | yld (σ:Sg) (k b base κ:Nat) (h:σ k=some (some b,base,κ)):Den M w σ (.yld k) (.func (.yield b) #[] #[])
 | fn (σ:Sg) (f:Fn) (b:Bool) (cap:List V) (us:List Value) (hl:cap.length=us.length) (hd:∀(i:Nat) (v:V) (u:Value),cap[i]?=some v->us[i]?=some u->Den M w σ v u) :
    Den M w σ (.fn f b cap) (.func f (fnB b us) (fnC b us))
 | iface (σ:Sg) (t:TypeId) (v:V) (u:Value) (hd:Den M w σ v u):Den M w σ (.iface t v) (.iface t u)
 | agg (σ:Sg) (cs:List V) (us:List Value) (hl:cs.length=us.length) (hd:∀(i:Nat) (v:V) (u:Value),cs[i]?=some v->us[i]?=some u->Den M w σ v u) :
    Den M w σ (.agg cs) (.agg us.toArray)
 | tup (σ:Sg) (cs:List V) (us:List Value) (hl:cs.length=us.length) (hd:∀(i:Nat) (v:V) (u:Value),cs[i]?=some v->us[i]?=some u->Den M w σ v u) :
    Den M w σ (.tup cs) (.tuple us.toArray)
 | raw (σ:Sg) (v:Value):Den M w σ (.raw v) v
 | anyb (σ:Sg) (b:Bool):Den M w σ .anyb (.bool b)
 | top (σ:Sg) (v:Value):Den M w σ .top v
structure Ext (M:Nat->Prop) (w:World) (M':Nat->Prop) (w':World):Prop where
 keep:∀b,b<w.heap.size->¬ M b->¬ M' b/\w'.heap[b]?=w.heap[b]?
 size:w.heap.size<=w'.heap.size
theorem Sg.le_refl (σ:Sg):σ.le σ:=fun _ _ h=>h
theorem Sg.le_trans {a b c:Sg} (h:a.le b) (h':b.le c):a.le c:=fun k x e=>h' k x (h k x e)
theorem J6W {w w':World} {b off:Nat} (h:w'.heap[b]?=w.heap[b]?):w'.cell? ⟨b,off,none⟩=w.cell? ⟨b,off,none⟩:=by
 simp[World.cell?,h]
theorem Den.mono {M M':Nat->Prop} {w w':World} (hE:Ext M w M' w') {σ:Sg} {v:V} {u:Value} (h:Den M w σ v u) :
 ∀{τ:Sg},σ.le τ->Den M' w' τ v u:=by
 induction h with
 | bool σ b=>intro τ _;exact .bool _ _
 | int σ k n=>intro τ _;exact .int _ _ _
 | str σ s=>intro τ _;exact .str _ _
 | nilptr=>intro τ _;exact .nilptr _
 | nilslice=>intro τ _;exact .nilslice _
 | nilmap=>intro τ _;exact .nilmap _
 | nilfunc=>intro τ _;exact .nilfunc _
 | niliface=>intro τ _;exact .niliface _
 | loc σ k off b base κ h=>intro τ hτ;exact .loc _ _ _ _ _ _ (hτ _ _ h)
 | oel σ k s i j b base κ h=>intro τ hτ;exact .oel _ _ _ _ _ _ _ _ (hτ _ _ h)
 | vec σ k s lo len bo base κ c a h hc hl ha=>intro τ hτ;exact .vec _ _ _ _ _ _ _ _ _ _ (hτ _ _ h) hc hl ha
 | fz0 σ s full f a c hf=>intro τ _;exact .fz0 _ _ _ _ _ _ hf
 | fz σ n s full f b off c u hc hf hM hb hcell h1 hd ih =>
   intro τ _;obtain⟨k1,k2⟩:=hE.keep b hb hM;exact .fz _ _ _ _ _ _ _ _ u hc hf k1 (Nat.lt_of_lt_of_le hb hE.size) (fun i j hi hj=>by rw[J6W k2];exact hcell i j hi hj) h1 (fun i j hi hj=>ih i j hi hj (Sg.le_refl _))
 | fe σ n s f i j b off u hi hM hb hcell h1 hd ih =>
   intro τ _;obtain⟨k1,k2⟩:=hE.keep b hb hM;exact .fe _ _ _ _ _ _ _ _ u hi k1 (Nat.lt_of_lt_of_le hb hE.size) (fun i j hi hj=>by rw[J6W k2];exact hcell i j hi hj) h1 (fun i j hi hj=>ih i j hi hj (Sg.le_refl _))
 | map σ k b base κ h=>intro τ hτ;exact .map _ _ _ _ _ (hτ _ _ h)
 | yld σ k b base κ h=>intro τ hτ;exact .yld _ _ _ _ _ (hτ _ _ h)
 | fn σ f b cap us hl hd ih=>intro τ hτ;exact .fn _ _ _ _ _ hl (fun i v u hv hu=>ih i v u hv hu hτ)
 | iface σ t v u hd ih=>intro τ hτ;exact .iface _ _ _ _ (ih hτ)
 | agg σ cs us hl hd ih=>intro τ hτ;exact .agg _ _ _ hl (fun i v u hv hu=>ih i v u hv hu hτ)
 | tup σ cs us hl hd ih=>intro τ hτ;exact .tup _ _ _ hl (fun i v u hv hu=>ih i v u hv hu hτ)
 | raw σ v=>intro τ _;exact .raw _ _
 | anyb σ b=>intro τ _;exact .anyb _ _
 | top σ v=>intro τ _;exact .top _ _
theorem J3B {M:Nat->Prop} {w:World} {u:Value} {v:V} (h:J4o u=some v) (σ:Sg):Den M w σ v u:=by
 unfold J4o at h;split at h<;>simp at h<;>subst h<;>constructor
theorem J0B {M:Nat->Prop} {w:World} (σ:Sg):∀{us:List Value} {vs:List V},J12 us=some vs ->
 vs.length=us.length/\∀(i:Nat) (v:V) (u:Value),vs[i]?=some v->us[i]?=some u->Den M w σ v u
 | [],vs,h=>by simp[J12] at h;subst h;simp
 | u::r,vs,h=>by
   unfold J12 at h;split at h<;>simp at h;rename_i x xs h1 h2;subst h;obtain⟨l,d⟩:=J0B σ h2;refine⟨by simp[l],?_⟩;intro i v u' hv hu;cases i with
   | zero=>simp at hv hu;subst hv hu;exact J3B h1 σ
   | succ i=>simp at hv hu;exact d i v u' hv hu
theorem J7u {M:Nat->Prop} {w:World} {u:Value} {v:V} (h:ofValue u=some v) (σ:Sg):Den M w σ v u:=by
 unfold ofValue at h;split at h
 . rename_i cs;simp at h;obtain⟨vs,h1,h2⟩:=h;subst h2;obtain⟨l,d⟩:=J0B (M:=M) (w:=w) σ h1;have:=Den.agg (M:=M) (w:=w) σ vs cs.toList l d;simpa using this
 . exact J3B h σ
def J0p (σ:Sg) (k:Nat):Option Nat:=match σ k with|some (bo,_,_)=>bo|none=>none
def J4u:Option Nat->Code
 | none=>.ret
 | some id=>.exit id
def stP:(l:List IntKind)->KyS l->List Value
 | [],_=>[]
 | k::r,p=>.int k p.1::stP r p.2
def J1u:(ik:MKd)->KyT ik->Value
 | .pair k,p=>.agg #[.int k p.1,.int k p.2]
 | .one k,p=>.int k p
 | .str,p=>.string p
 | .st l,p=>.agg (stP l p).toArray
def J8o (M:Nat->Prop) (w:World) (ik:MKd):List MapEntry->List (KyT ik×V)->Nat->Prop
 | [],[],_=>True
 | e::r,p::q,i=>(e.key=J1u ik p.1/\e.born=i/\Den M w Sg.none p.2 e.val)/\J8o M w ik r q (i+1)
 | _,_,_=>False
theorem J8o.mono {M M':Nat->Prop} {w w':World} (hE:Ext M w M' w') {ik:MKd}:∀{l:List MapEntry} {es:List (KyT ik×V)} {i:Nat},J8o M w ik l es i->J8o M' w' ik l es i
 | [],[],_,_=>True.intro
 | _::_,_::_,_,h=>⟨⟨h.1.1,h.1.2.1,h.1.2.2.mono hE (Sg.le_refl _)⟩,h.2.mono hE⟩
 | [],_::_,_,h=>h.elim
 | _::_,[],_,h=>h.elim
def J8m (M:Nat->Prop) (w:World) (σ:Sg) (s len:Nat) (f:Nat->Nat->V) (q:Option Nat) (u:Value):Prop :=
 ∃a c,u=.slice a len c/\len<=c/\(∀k,q=some k->Den M w σ (.vec k s 0 len) u) /\
  (q=none->0<c->∃r off ty us,a=some ⟨r,off,none⟩/\M r/\w.heap[r]?=some (.cells us ty (0,0))/\off+c*s<=us.size /\
    ∀j t,j<len->t<s->∃x,us[off+(j*s+t)]?=some x/\x.oneCell'=true/\Den M w Sg.none (f j t) x)
def J14 (us:Array Value) (base:Nat) (i r:Nat):Prop:=∃off l c,us[base+i]?=some (.slice (some ⟨r,off,none⟩) l c)/\0<c
def J00 (M:Nat->Prop) (w:World) (σ:Sg) (k:Nat):Blk->Prop
 | .cells cs=>∃b κ ty us,σ k=some (some b,0,κ)/\M b/\w.heap[b]?=some (.cells us ty (0,0))/\us.size=cs.length /\
    ∀(i:Nat) (v:V) (u:Value),cs[i]?=some v->us[i]?=some u->Den M w σ v u
 | .vec n s f=>∃bo base κ,σ k=some (bo,base,κ)/\n<=κ/\((κ=0/\bo=none) \/
    ∃b ty us,bo=some b/\M b/\w.heap[b]?=some (.cells us ty (0,0))/\base+κ*s<=us.size /\
     ∀i j,i<n->j<s->∃u,us[base+(i*s+j)]?=some u/\u.oneCell'=true/\Den M w Sg.none (f i j) u)
 | .loop st pe env N ps C=>∃l κ r,σ k=some (some l,0,κ)/\M l/\w.heap[l]?=some (.loop r)/\r.state=st/\r.pending=pe.map J4u/\r.params=ps.toArray/\C r.assign r.body/\r.tmps.size=N /\
    ∀t v,look env t=some v->Den M w σ v (r.tmps.getD t undef)
 | .map ik es=>∃b κ arr,σ k=some (some b,0,κ)/\M b/\w.heap[b]?=some (.map arr arr.size)/\J8o M w ik arr.toList es 0
 | .iter km n J1h=>∃r κ b base κ',σ k=some (some r,0,κ)/\M r/\σ km=some (some b,base,κ')/\w.heap[r]?=some (.mapIter (some b) n J1h.toArray n)
 | .glob g n f=>(∃base κ,σ k=some (none,base,κ))/\Den M w Sg.none (.fe n 1 f 0 0) (.pointer (some ⟨g,0,none⟩))
 | .fam n s len f op=>∃bo base κ,σ k=some (bo,base,κ)/\n<=κ/\((κ=0/\bo=none) \/
    ∃b ty us,bo=some b/\M b/\w.heap[b]?=some (.cells us ty (0,0))/\base+κ<=us.size /\
     (∀i,i<n->∃u,us[base+i]?=some u/\J8m M w σ s (len i) (f i) (look op i) u) /\
     (∀i i' r,i<n->i'<n->look op i=none->look op i'=none->J14 us base i r->J14 us base i' r->i=i') /\
     (∀i,i<n->look op i=none->¬ J14 us base i b))
def J3P (w:World) (σ:Sg) (k:Nat) (b:Blk) (r:Nat):Prop :=
 match b with
 | .fam n _ _ _ op=>∃ob base κ us ty i,σ k=some (some ob,base,κ)/\w.heap[ob]?=some (.cells us ty (0,0))/\i<n/\look op i=none/\J14 us base i r
 | _=>False
def J0i (w:World) (σ:Sg) (k:Nat) (b:Blk) (r:Nat):Prop:=J0p σ k=some r\/J3P w σ k b r
structure J1v (M:Nat->Prop) (w:World) (σ:Sg) (own:Own):Prop where
 blk:∀k b,(k,b)∈own->J00 M w σ k b
 nodup:(own.map (·.1)).Nodup
 apart:∀k b k' b' n,(k,b)∈own->(k',b')∈own->k≠k'->J0i w σ k b n->¬ J0i w σ k' b' n
def J0y (w:World) (σ:Sg) (own:Own) (n:Nat):Prop:=∃k b,(k,b)∈own/\J0i w σ k b n
structure J0R (w' w:World):Prop where
 eq:w'.tape=w.tape
 le:w.drawn<=w'.drawn
theorem J0R.rf {w' w:World} (h:w'.tape=w.tape) (h2:w'.drawn=w.drawn):J0R w' w:=⟨h,Nat.le_of_eq h2.symm⟩
theorem J0R.refl (w:World):J0R w w:=⟨rfl,Nat.le_refl _⟩
theorem J0R.trans {a b c:World} (h:J0R c b) (h':J0R b a):J0R c a:=⟨h.eq.trans h'.eq,Nat.le_trans h'.le h.le⟩
structure Adv (S:Nat->Prop) (M:Nat->Prop) (w:World) (M':Nat->Prop) (w':World):Prop where
 os:w'.os=w.os
 tape:J0R w' w
 output:w'.output=w.output
 size:w.heap.size<=w'.heap.size
 same:∀b,b<w.heap.size->¬ S b->w'.heap[b]?=w.heap[b]?
 muts:∀b,b<w.heap.size->¬ S b->(M' b↔M b)
structure J0G (M:Nat->Prop) (w:World) (σ:Sg) (own:Own) (ks:List Nat):Prop where
 own:J1v M w σ own
 fresh:∀k,k∈ks->σ k=none
 knodup:ks.Nodup
def J2n (M:Nat->Prop) (w:World) (σ:Sg) (env:Env) (a:Act):Prop :=
 ∀t v,look env t=some v->Den M w σ v (a.tmps.getD t undef)
structure Q0E (B:Nat) (M:Nat->Prop) (w:World) (σ:Sg) (own:Own) (ds:List Deferred):Prop where
 base:B<=w.heap.size
 mark:∀d,d∈ds->∃D,d={ target:=.collected D,args:=#[] }/\B<=D/\w.heap[D]?=some (.deferred (some []))/\¬ J0y w σ own D/\M D
 nodup:ds.Nodup
structure Sim (N B:Nat) (M:Nat->Prop) (w:World) (σ:Sg) (st:St) (a:Act):Prop where
 env:J2n M w σ st.env a
 heap:J0G M w σ st.own st.ks
 size:a.tmps.size=N
 defers:Q0E B M w σ st.own a.defers
structure Tr (M:Nat->Prop) (w:World) (σ:Sg) (own:Own) (M':Nat->Prop) (w':World) (σ':Sg) (own':Own):Prop where
 adv:Adv (J0y w σ own) M w M' w'
 new:∀b,J0y w' σ' own' b->J0y w σ own b\/w.heap.size<=b
 le:σ.le σ'
theorem J0q {M:Nat->Prop} {w:World} {σ:Sg} {own:Own} (h:J1v M w σ own) {b:Nat} (hb:J0y w σ own b):M b/\b<w.heap.size:=by
 obtain⟨k,blk,hm,hk⟩:=hb;have hs:=h.blk k blk hm;have lt:∀{q:Nat} {o:Obj},w.heap[q]?=some o->q<w.heap.size:=fun {q o} h3=>by
  rcases Nat.lt_or_ge q w.heap.size with h|h
  . exact h
  . simp[Array.getElem?_eq_none h] at h3
 cases blk with
 | cells cs =>
   obtain⟨b',κ,ty,us,h1,h2,h3,_⟩:=hs;simp[J0i,J3P,J0p,h1] at hk;subst hk;exact⟨h2,lt h3⟩
 | vec n s f =>
   obtain⟨bo,base,κ,h1,_,h2⟩:=hs;simp[J0i,J3P,J0p,h1] at hk;subst hk;rcases h2 with ⟨_,h⟩ | ⟨b',ty,us,he,hM,h3,_⟩
   . cases h
   . cases he;exact⟨hM,lt h3⟩
 | loop st pe env N ps C =>
   obtain⟨l,κ,r,h1,h2,h3,_⟩:=hs;simp[J0i,J3P,J0p,h1] at hk;subst hk;exact⟨h2,lt h3⟩
 | glob g n f =>
   obtain⟨⟨base,κ,h1⟩,_⟩:=hs;simp[J0i,J3P,J0p,h1] at hk
 | map ik es =>
   obtain⟨l,κ,r,h1,h2,h3,_⟩:=hs;simp[J0i,J3P,J0p,h1] at hk;subst hk;exact⟨h2,lt h3⟩
 | iter km n J1h =>
   obtain⟨l,κ,_,_,_,h1,h2,_,h3⟩:=hs;simp[J0i,J3P,J0p,h1] at hk;subst hk;exact⟨h2,lt h3⟩
 | fam n s len f op =>
   obtain⟨bo,base,κ,h1,_,h2⟩:=hs;rcases h2 with ⟨_,h⟩ | ⟨b',ty,us,he,hM,h3,_,hr,_⟩
   . subst h;rcases hk with hk | ⟨ob,base',κ',us,ty,i,e1,_⟩
     . simp[J0p,h1] at hk
     . rw[h1] at e1;simp at e1
   . subst he;rcases hk with hk | ⟨ob,base',κ',us',ty',i,e1,e2,e3,e4,off,l,c,e5,e6⟩
     . simp[J0p,h1] at hk;subst hk;exact⟨hM,lt h3⟩
     . rw[h1] at e1;simp only[Option.some.injEq,Prod.mk.injEq] at e1;obtain⟨rfl,rfl,rfl⟩:=e1;rw[h3] at e2;simp only[Option.some.injEq,Obj.cells.injEq] at e2;obtain⟨rfl,_⟩:=e2;obtain⟨u,u1,a,c',u2,_,_,u3⟩:=hr i e3;rw[e5] at u1;cases u1;cases u2;obtain⟨r,off',ty2,us2,q1,q2,q3,_⟩:=u3 e4 e6;cases q1;exact⟨q2,lt q3⟩
theorem Adv.ext {S M M':Nat->Prop} {w w':World} (h:Adv S M w M' w') (hS:∀b,S b->M b):Ext M w M' w' :=
 ⟨fun b hb hM=>by
   have hn:¬ S b:=fun hs=>hM (hS b hs);exact⟨fun hm=>hM ((h.muts b hb hn).1 hm),h.same b hb hn⟩,h.size⟩
theorem Adv.refl (S M:Nat->Prop) (w:World):Adv S M w M w:=⟨rfl,.refl _,rfl,Nat.le_refl _,fun _ _ _=>rfl,fun _ _ _=>Iff.rfl⟩
theorem Tr.refl (M:Nat->Prop) (w:World) (σ:Sg) (own:Own):Tr M w σ own M w σ own:=⟨.refl _ _ _,fun _ h=>.inl h,Sg.le_refl _⟩
theorem Tr.trans {M M₁ M₂:Nat->Prop} {w w₁ w₂:World} {σ σ₁ σ₂:Sg} {o o₁ o₂:Own} (h:Tr M w σ o M₁ w₁ σ₁ o₁) (h':Tr M₁ w₁ σ₁ o₁ M₂ w₂ σ₂ o₂) :
 Tr M w σ o M₂ w₂ σ₂ o₂:=by
 have key:∀b,b<w.heap.size->¬ J0y w σ o b->¬ J0y w₁ σ₁ o₁ b:=fun b hb hn hs=>by
  rcases h.new b hs with h1|h1
  . exact hn h1
  . omega
 have hs1:=h.adv.size;have hs2:=h'.adv.size;refine⟨⟨h'.adv.os.trans h.adv.os,h'.adv.tape.trans h.adv.tape,h'.adv.output.trans h.adv.output,by omega,?_,?_⟩,?_,Sg.le_trans h.le h'.le⟩
 . intro b hb hn;rw[h'.adv.same b (by omega) (key b hb hn),h.adv.same b hb hn]
 . intro b hb hn;exact(h'.adv.muts b (by omega) (key b hb hn)).trans (h.adv.muts b hb hn)
 . intro b hb;rcases h'.new b hb with h1|h1
   . exact h.new b h1
   . right;omega
def Kd (σ:Sg) (own:Own) (ks:List Nat) (σ':Sg) (own':Own) (ks':List Nat):Prop :=
 (∀k,k∈ks'->k∈ks)/\(∀k,σ k=none->k∉ks->σ' k=none)/\∀k,k∈own'.map (·.1)->k∈own.map (·.1)\/k∈ks
theorem Kd.refl (σ:Sg) (own:Own) (ks:List Nat):Kd σ own ks σ own ks:=⟨fun _ h=>h,fun _ h _=>h,fun _ h=>.inl h⟩
theorem Kd.trans {a b c:Sg} {o p q:Own} {x y z:List Nat} (h:Kd a o x b p y) (h':Kd b p y c q z):Kd a o x c q z :=
 ⟨fun k hk=>h.1 k (h'.1 k hk),fun k h1 h2=>h'.2.1 k (h.2.1 k h1 h2) fun hk=>h2 (h.1 k hk),fun k hk=>by
   rcases h'.2.2 k hk with e|e
   . exact h.2.2 k e
   . exact .inr (h.1 k e)⟩
structure Tr0 (M:Nat->Prop) (w:World) (σ:Sg) (own:Own) (M':Nat->Prop) (w':World) (σ':Sg) (own':Own):Prop where
 adv:Adv (J0y w σ own) M w M' w'
 new:∀b,J0y w' σ' own' b->J0y w σ own b\/w.heap.size<=b
theorem Tr.t0 {M M':Nat->Prop} {w w':World} {σ σ':Sg} {own own':Own} (h:Tr M w σ own M' w' σ' own'):Tr0 M w σ own M' w' σ' own':=⟨h.adv,h.new⟩
theorem Tr0.refl (M:Nat->Prop) (w:World) (σ:Sg) (own:Own):Tr0 M w σ own M w σ own:=⟨.refl _ _ _,fun _ h=>.inl h⟩
theorem Tr0.trans {M M₁ M₂:Nat->Prop} {w w₁ w₂:World} {σ σ₁ σ₂:Sg} {o o₁ o₂:Own} (h:Tr0 M w σ o M₁ w₁ σ₁ o₁) (h':Tr0 M₁ w₁ σ₁ o₁ M₂ w₂ σ₂ o₂) :
 Tr0 M w σ o M₂ w₂ σ₂ o₂:=by
 have key:∀b,b<w.heap.size->¬ J0y w σ o b->¬ J0y w₁ σ₁ o₁ b:=fun b hb hn hs=>by
  rcases h.new b hs with h1|h1
  . exact hn h1
  . omega
 have hs1:=h.adv.size;have hs2:=h'.adv.size;refine⟨⟨h'.adv.os.trans h.adv.os,h'.adv.tape.trans h.adv.tape,h'.adv.output.trans h.adv.output,by omega,?_,?_⟩,?_⟩
 . intro b hb hn;rw[h'.adv.same b (by omega) (key b hb hn),h.adv.same b hb hn]
 . intro b hb hn;exact(h'.adv.muts b (by omega) (key b hb hn)).trans (h.adv.muts b hb hn)
 . intro b hb;rcases h'.new b hb with h1|h1
   . exact h.new b h1
   . right;omega
theorem Q0E.nil {B:Nat} {M:Nat->Prop} {w:World} {σ:Sg} {own:Own} (h:B<=w.heap.size):Q0E B M w σ own []:=⟨h,fun d h=>by simp at h,by simp⟩
theorem Q0E.tr0 {B:Nat} {M M':Nat->Prop} {w w':World} {σ σ':Sg} {own own':Own} {ds:List Deferred} (h:Q0E B M w σ own ds) (t:Tr0 M w σ own M' w' σ' own'):Q0E B M' w' σ' own' ds :=
 ⟨Nat.le_trans h.base t.adv.size,fun d hd=>by
   obtain⟨D,e,h1,h2,h3,h4⟩:=h.mark d hd;have hlt:D<w.heap.size:=by
    rcases Nat.lt_or_ge D w.heap.size with h|h
    . exact h
    . simp[Array.getElem?_eq_none h] at h2
   refine⟨D,e,h1,(t.adv.same D hlt h3).trans h2,fun ho=>?_,(t.adv.muts D hlt h3).2 h4⟩;rcases t.new D ho with h4|h4
   . exact h3 h4
   . omega,h.nodup⟩
theorem Q0E.tr {B:Nat} {M M':Nat->Prop} {w w':World} {σ σ':Sg} {own own':Own} {ds:List Deferred} (h:Q0E B M w σ own ds) (t:Tr M w σ own M' w' σ' own'):Q0E B M' w' σ' own' ds:=h.tr0 t.t0
def FR (r:Option Nat):Fence:={ Fence.wide with round:=r }
def XP (N B:Nat) (σb:Sg) (M:Nat->Prop) (w:World) (σ:Sg) (own:Own) (ks:List Nat) (K:Out->Prop):Exit->Act->World->Prop:=fun e a' w' =>
 ∃M' σ' st',Sim N B M' w' σ' st' a'/\Tr0 M w σ own M' w' σ' st'.own/\Kd σ own ks σ' st'.own st'.ks/\σb.le σ' /\
  (match e with
    | .normal=>K (.normal st')
    | .exit id=>K (.exit id st')
    | .ret=>K (.ret st')
    | _=>False)
inductive Ar (k:IntKind) (n:Int) (K:Int->Prop):Prop where
 | mk (m:Int) (h:m=k.wrap n) (hK:K m):Ar k n K
inductive Sv (n:Int) (K:Int->Prop):Prop where
 | mk (m:Int) (h:m=n) (hK:K m):Sv n K
inductive Nz (y:Int) (K:Prop):Prop where
 | mk (h:y≠0) (hK:K):Nz y K
inductive Nn (y:Int) (K:Prop):Prop where
 | mk (h:0<=y) (hK:K):Nn y K
inductive Br (b:Bool) (A B:Prop):Prop where
 | mk (ht:b=true->A) (hf:b=false->B):Br b A B
inductive Ix (i:Int) (n:Nat) (K:Nat->Prop):Prop where
 | mk (m:Nat) (h:i=m) (hm:m<n) (hK:K m):Ix i n K
inductive Bd (i:Int) (n:Nat) (K:Nat->Prop):Prop where
 | mk (m:Nat) (h:i=m) (hm:m<=n) (hK:K m):Bd i n K
inductive Lf where
 | int|bool|str
inductive BT where
 | num|bool|slc
 | flat (ls:List Lf)
def J5V:List Lf->List V->List V->(Bool->Prop)->Prop
 | [],[],[],K=>K true
 | .int::ls,.int k a::r,.int k' b::r',K=>match decide (k=k') with
   | true=>J5V ls r r' fun t=>K ((a == b)&&t)
   | false=>False
 | .bool::ls,.bool a::r,.bool b::r',K=>J5V ls r r' fun t=>K ((a == b)&&t)
 | .str::ls,.str a::r,.str b::r',K=>J5V ls r r' fun t=>K ((a == b)&&t)
 | _,_,_,_=>False
inductive POp where
 | mv (x:X)
 | pick (c a b:X)
 | nilchk (x:X)
 | bin (bt:BT) (op:BinOp) (x y:X)
 | un (op:UnOp) (x:X)
 | toint (k:IntKind) (x:X)
 | fld (off:Nat) (x:X)
 | sel (off:Nat) (sz:Option Nat) (x:X)
 | ixs (s:Nat) (x i:X)
 | ixa (n s:Nat) (x i:X)
 | ext (x:X) (i:Nat)
 | len (x:X)
 | lens (x:X)
 | mn (x y:X)
 | mx (x y:X)
 | slc (s:Nat) (x:X) (lo hi mx:Option X) (same:Bool)
 | slcs (x:X) (lo hi:Option X)
 | ixstr (x i:X)
 | mkfn (f:Fn) (b:Bool) (cap:List X)
def Xo:Option X->List X
 | none=>[]
 | some x=>[x]
def POp.xs:POp->List X
 | .mv x | .nilchk x | .un _ x | .toint _ x | .fld _ x | .sel _ _ x | .ext x _ | .len x | .lens x=>[x]
 | .pick c a b=>[c,a,b]
 | .bin _ _ x y | .ixs _ x y | .ixa _ _ x y | .mn x y | .mx x y | .ixstr x y=>[x,y]
 | .slc _ x lo hi m _=>x::(Xo lo++Xo hi++Xo m)
 | .slcs x lo hi=>x::(Xo lo++Xo hi)
 | .mkfn _ _ cap=>cap
def X.get (x:X) (env:Env) (K:V->Prop):Prop :=
 match x with
 | .t n=>match look env n with|some v=>K v|none=>False
 | .k v=>K v
def X.gets (env:Env):List X->(List V->Prop)->Prop
 | [],K=>K []
 | x::r,K=>x.get env fun v=>X.gets env r fun vs=>K (v::vs)
def J8j (b:Bool) (K:V->Prop):Prop:=Br b (K (.bool true)) (K (.bool false))
def Q5b (op:BinOp) (k:IntKind) (x y:Int):Int :=
 match op with
 | .and=>k.wrap (BitVec.ofInt k.bits x &&& BitVec.ofInt k.bits y).toNat
 | .or=>k.wrap (BitVec.ofInt k.bits x ||| BitVec.ofInt k.bits y).toNat
 | .xor=>k.wrap (BitVec.ofInt k.bits x ^^^ BitVec.ofInt k.bits y).toNat
 | .andNot=>k.wrap (BitVec.ofInt k.bits x &&& ~~~ (BitVec.ofInt k.bits y)).toNat
 | _=>0
def Q5s (bt:BT) (op:BinOp) (x y:V) (K:V->Prop):Prop :=
 match x,y with
 | .int k a,.int k' b=>match op with
   | .shl=>Nn b (Ar k (a*2 ^ (min b.toNat k.bits)) fun m=>K (.int k m))
   | .shr=>Nn b (Sv (a.fdiv (2 ^ (min b.toNat k.bits))) fun m=>K (.int k m))
   | op=>match decide (k=k') with
     | false=>False
     | true=>match op with
       | .add=>Ar k (a+b) fun m=>K (.int k m)
       | .sub=>Ar k (a-b) fun m=>K (.int k m)
       | .mul=>Ar k (a*b) fun m=>K (.int k m)
       | .quo=>Nz b (Ar k (a.tdiv b) fun m=>K (.int k m))
       | .rem=>Nz b (Sv (a.tmod b) fun m=>K (.int k m))
       | .and=>Sv (Q5b .and k a b) fun m=>K (.int k m)
       | .or=>Sv (Q5b .or k a b) fun m=>K (.int k m)
       | .xor=>Sv (Q5b .xor k a b) fun m=>K (.int k m)
       | .andNot=>Sv (Q5b .andNot k a b) fun m=>K (.int k m)
       | .eql=>J8j (a == b) K
       | .neq=>J8j (a != b) K
       | .lss=>J8j (decide (a<b)) K
       | .leq=>J8j (decide (a<=b)) K
       | .gtr=>J8j (decide (a > b)) K
       | .geq=>J8j (decide (a ≥ b)) K
       | _=>False
 | .str a,.str b=>match op with
   | .eql=>J8j (a == b) K
   | .neq=>J8j (a != b) K
   | .add=>Br (decide (a.size+b.size<=9223372036854775807)) (K (.str (a++b))) False
   | _=>False
 | .bool a,.bool b=>match bt,op with
   | .bool,.eql=>J8j (a == b) K
   | .bool,.neq=>J8j (!(a == b)) K
   | _,_=>False
 | .agg xs,.agg ys=>match bt with
   | .flat ls=>match op with
     | .eql=>J5V ls xs ys fun b=>J8j b K
     | .neq=>J5V ls xs ys fun b=>J8j (!b) K
     | _=>False
   | _=>False
 | .fz n _ _ _,.nilslice=>match bt,op with
   | .slc,.eql=>Br (Nat.beq n 0) (K .anyb) (K (.bool false))
   | .slc,.neq=>Br (Nat.beq n 0) (K .anyb) (K (.bool true))
   | _,_=>False
 | .vec _ _ _ n,.nilslice=>match bt,op with
   | .slc,.eql=>Br (Nat.beq n 0) (K .anyb) (K (.bool false))
   | .slc,.neq=>Br (Nat.beq n 0) (K .anyb) (K (.bool true))
   | _,_=>False
 | .nilslice,.nilslice=>match bt,op with
   | .slc,.eql=>K (.bool true)
   | .slc,.neq=>K (.bool false)
   | _,_=>False
 | _,_=>False
def nth {α:Type}:List α->Nat->Option α
 | [],_=>none
 | x::_,0=>some x
 | _::r,n+1=>nth r n
def J9d {α:Type}:List α->Nat->Nat->(List α->Prop)->Prop
 | _,_,0,K=>K []
 | [],_,_+1,_=>False
 | x::r,0,n+1,K=>J9d r 0 n fun l=>K (x::l)
 | _::r,o+1,n+1,K=>J9d r o (n+1) K
def J0n (lo:Nat) (f:Nat->Nat->V):Nat->Nat->V :=
 match lo with
 | 0=>f
 | lo+1=>fun i j=>f (lo+1+i) j
theorem J1i (lo:Nat) (f:Nat->Nat->V) (i j:Nat):J0n lo f i j=f (lo+i) j:=by
 cases lo with
 | zero=>simp[J0n]
 | succ lo=>rfl
def bdK (x:Option X) (env:Env) (dflt n:Nat) (K:Nat->Prop):Prop :=
 match x with
 | none=>K dflt
 | some x=>x.get env fun v=>match v with
   | .int _ i=>Bd i n K
   | _=>False
def Q5r (own:Own) (s:Nat) (x:X) (lo hi mx:Option X) (same:Bool) (env:Env) (K:V->Prop):Prop :=
 x.get env fun p=>match p with
 | .fz n s' full f=>match Nat.beq s s' with
   | true=>match mx with
     | none=>bdK hi env n n fun h=>bdK lo env 0 h fun l=>K (.fz (h-l) s (match hi with|none=>full|some _=>false) (J0n l f))
     | some _=>match hi with
       | some _=>bdK mx env n n fun m=>bdK hi env n m fun h=>bdK lo env 0 h fun l=>K (.fz (h-l) s same (J0n l f))
       | none=>False
   | false=>False
 | .nilslice=>match mx with
   | none=>bdK hi env 0 0 fun h=>bdK lo env 0 h fun _=>K .nilslice
   | some _=>match hi with
     | some _=>bdK mx env 0 0 fun m=>bdK hi env 0 m fun h=>bdK lo env 0 h fun _=>K .nilslice
     | none=>False
 | .vec k s' lo0 len=>match Nat.beq s s' with
   | true=>match mx with
     | none=>match look own k with
       | some (.vec n _ _)=>Br (Nat.ble (lo0+len) n) (bdK hi env len (n-lo0) fun h=>bdK lo env 0 h fun l=>K (.vec k s (lo0+l) (h-l))) False
       | _=>bdK hi env len len fun h=>bdK lo env 0 h fun l=>K (.vec k s (lo0+l) (h-l))
     | some _=>match hi with
       | some _=>bdK mx env len len fun m=>bdK hi env len m fun h=>bdK lo env 0 h fun l=>match same with
         | true=>match h-l with
           | 0=>K (.fz 0 s true fun _ _=>.nilptr)
           | _+1=>K .top
         | false=>K .top
       | none=>False
   | false=>False
 | _=>False
def Q22 (o:POp) (env:Env) (K:V->Prop):Prop :=
 match o with
 | .slc s x lo hi mx same=>Q5r [] s x lo hi mx same env K
 | .slcs x lo hi=>x.get env fun p=>match p with
   | .str b=>bdK hi env b.size b.size fun h=>bdK lo env 0 h fun l=>K (.str (b.extract l h))
   | _=>False
 | .ixstr x i=>x.get env fun p=>i.get env fun i=>match p,i with
   | .str b,.int _ i=>Ix i b.size fun m=>K (.int .u8 (b.get! m).toNat)
   | _,_=>False
 | .mkfn f b cap=>X.gets env cap fun vs=>K (.fn f b vs)
 | .mv x=>x.get env K
 | .pick c a b=>c.get env fun c=>match c with
   | .bool c=>match c with
     | true=>a.get env K
     | false=>b.get env K
   | _=>False
 | .nilchk x=>x.get env fun v=>match v with
   | .loc k o=>K (.loc k o)
   | .oel k s i j=>K (.oel k s i j)
   | .fe n s f i j=>K (.fe n s f i j)
   | .iface t v=>K (.iface t v)
   | _=>False
 | .bin bt op x y=>x.get env fun a=>y.get env fun b=>Q5s bt op a b K
 | .un op x=>x.get env fun a=>match op,a with
   | .not,.bool b=>match b with
     | true=>K (.bool false)
     | false=>K (.bool true)
   | .neg,.int k n=>Ar k (0-n) fun m=>K (.int k m)
   | .xor,.int k n=>Sv (Q5b .xor k (if k.signed then -1 else k.max) n) fun m=>K (.int k m)
   | _,_=>False
 | .toint k x=>x.get env fun a=>match a with
   | .int _ n=>Ar k n fun m=>K (.int k m)
   | _=>False
 | .fld off x=>x.get env fun p=>match p with
   | .loc k o=>K (.loc k (o+off))
   | .oel k s i j=>K (.oel k s i (j+off))
   | .fe n s f i j=>K (.fe n s f i (j+off))
   | _=>False
 | .sel off sz x=>x.get env fun a=>match a with
   | .agg cs=>match sz with
     | none=>match nth cs off with|some v=>K v|none=>False
     | some n=>J9d cs off n fun l=>K (.agg l)
   | _=>False
 | .ixs s x i=>x.get env fun p=>i.get env fun i=>match p,i with
   | .fz n s' _ f,.int _ i=>match Nat.beq s s' with
     | true=>Ix i n fun m=>K (.fe n s f m 0)
     | false=>False
   | .vec k s' lo len,.int _ i=>match Nat.beq s s' with
     | true=>Ix i len fun m=>K (.oel k s (lo+m) 0)
     | false=>False
   | _,_=>False
 | .ixa n s x i=>x.get env fun p=>i.get env fun i=>match p,i with
   | .loc k o,.int _ i=>Ix i n fun m=>K (.loc k (o+m*s))
   | .fe n' s' f i0 j0,.int _ i=>Ix i n fun m=>K (.fe n' s' f i0 (j0+m*s))
   | .oel k s' i0 j0,.int _ i=>match Nat.beq s s',i0,j0 with
     | true,0,0=>Ix i n fun m=>K (.oel k s m 0)
     | _,_,_=>Ix i n fun m=>K (.oel k s' i0 (j0+m*s))
   | _,_=>False
 | .ext x i=>x.get env fun t=>match t with
   | .tup vs=>match nth vs i with|some v=>K v|none=>False
   | _=>False
 | .len x=>x.get env fun p=>match p with
   | .fz n _ _ _=>K (.int .i64 n)
   | .vec _ _ _ n=>K (.int .i64 n)
   | .nilslice=>K (.int .i64 0)
   | _=>False
 | .lens x=>x.get env fun p=>match p with
   | .str s=>K (.int .i64 s.size)
   | _=>False
 | .mn x y=>x.get env fun a=>y.get env fun b=>match a,b with
   | .int k a,.int _ b=>Sv (if b<a then b else a) fun m=>K (.int k m)
   | _,_=>False
 | .mx x y=>x.get env fun a=>y.get env fun b=>match a,b with
   | .int k a,.int _ b=>Sv (if b > a then b else a) fun m=>K (.int k m)
   | _,_=>False
def J9O (P:Program) (t:TypeId):Option Lf:=match P.underlying t with
 | some (.int _)=>some .int
 | some .bool=>some .bool
 | some .string=>some .str
 | _=>none
def J8J (P:Program):Nat->List Field->Option (List Lf)
 | _,[]=>some []
 | i,f::r=>match Nat.beq f.offset i,f.name == "_",J9O P f.type,J8J P (i+1) r with
   | true,false,some l,some ls=>some (l::ls)
   | _,_,_,_=>none
def Q2g (P:Program) (T:TypeId):BT:=match P.underlying T with
 | some .bool=>.bool
 | some (.slice _)=>.slc
 | some (.struct fs)=>match P.stoodInHeld T,P.eqGuardType P.depth T,J8J P 0 fs.toList with
   | false,false,some ls=>.flat ls
   | _,_,_=>.num
 | some (.array n e)=>match P.eqGuardType P.depth T,J9O P e,(P.info? e).isSome,Nat.beq (P.cellsOf e) 1 with
   | false,some l,true,true=>.flat (List.replicate n l)
   | _,_,_,_=>.num
 | _=>.num
def J6q (a b:Option Operand):Bool :=
 match a,b with
 | some (.tmp n),some (.tmp m)=>Nat.beq n m
 | some (.const (.int _ a)),some (.const (.int _ b))=>decide (a=b)
 | _,_=>false
def Q5N (P:Program) (t:TypeId) (x:Operand) (low high max:Option Operand):Option POp :=
 match P.underlying t,cX x,cXo low,cXo high,cXo max with
 | some (.slice e),some x,some lo,some hi,some mx=>(J11 P e).map fun s=>.slc s x lo hi mx (J6q high max)
 | some .string,some x,some lo,some hi,some none=>some (.slcs x lo hi)
 | _,_,_,_,_=>none
def J53 (P:Program) (op:Op):Option POp :=
 match op with
 | .move x | .assign x=>(cX x).map .mv
 | .pick c a b=>match cX c,cX a,cX b with|some c,some a,some b=>some (.pick c a b)|_,_,_=>none
 | .nilCheck x=>(cX x).map .nilchk
 | .binOp op T x y _=>match cX x,cX y with|some x,some y=>some (.bin (Q2g P T) op x y)|_,_=>none
 | .unOp op _ x=>(cX x).map (.un op)
 | .convert src dst x=>match P.underlying src,P.underlying dst,cX x with
   | some (.int _),some (.int k),some x=>some (.toint k x)
   | _,_,_=>none
 | .fieldAddr s x f=>match P.underlying s,cX x with
   | some (.struct fs),some x=>match fs[f]? with
     | some fd=>match J11 P fd.type with
       | some (_+1)=>some (.fld fd.offset x)
       | _=>none
     | none=>none
   | _,_=>none
 | .field s x f=>match P.underlying s,cX x with
   | some (.struct fs),some x=>match fs[f]? with
     | some fd=>(J2o P fd.type).map fun z=>.sel fd.offset z x
     | none=>none
   | _,_=>none
 | .indexAddr t x i=>match P.underlying t,cX x,cX i with
   | some (.slice e),some x,some i=>(J11 P e).map fun s=>.ixs s x i
   | some (.array n e),some x,some i=>(J11 P e).map fun s=>.ixa n s x i
   | _,_,_=>none
 | .extract x i=>(cX x).map (.ext · i)
 | .slice t x low high max=>Q5N P t x low high max
 | .index t x i=>match P.underlying t,cX x,cX i with
   | some .string,some x,some i=>some (.ixstr x i)
   | _,_,_=>none
 | .makeFunc f first captured=>match first.toList with
   | []=>(cXs captured.toList).map (.mkfn f false)
   | _=>match captured.toList with
     | []=>(cXs first.toList).map (.mkfn f true)
     | _=>none
 | .call { callee:=.builtin .len,args,argTypes }=>match args.toList,argTypes.toList with
   | [x],[t]=>match P.underlying t,cX x with
     | some (.slice _),some x=>some (.len x)
     | some .string,some x=>some (.lens x)
     | _,_=>none
   | _,_=>none
 | .call { callee:=.builtin .min,args,.. }=>match args.toList with
   | [x,y]=>match cX x,cX y with|some x,some y=>some (.mn x y)|_,_=>none
   | _=>none
 | .call { callee:=.builtin .max,args,.. }=>match args.toList with
   | [x,y]=>match cX x,cX y with|some x,some y=>some (.mx x y)|_,_=>none
   | _=>none
 | _=>none
def XOk (M:Nat->Prop) (w:World) (σ:Sg) (env:Env) (a:Act) (x:X):Prop :=
 ∀n,x=.t n->∀v,look env n=some v->Den M w σ v (a.tmps.getD n undef)
def J4V (P:Program) (o:Oper) (xs:List X) (env:Env) (v:V):Prop :=
 ∀M w σ a,(∀x,x∈xs->XOk M w σ env a x)->∃u,(execOp a.eval o).run P w=.ok (.value u) w/\Den M w σ v u
theorem J0b {x:X} {o:Operand} {env:Env} {K:V->Prop} (hx:cX o=some x) (h:x.get env K) :
 ∃v,K v/\∀M w σ a,XOk M w σ env a x->Den M w σ v (a.eval o):=by
 cases o with
 | tmp t =>
   simp[cX] at hx;subst hx;simp only[X.get] at h;split at h
   . rename_i v hv;exact⟨v,h,fun M w σ a ok=>ok t rfl v hv⟩
   . exact h.elim
 | const c =>
   simp only[cX,Option.map_eq_some_iff] at hx;obtain⟨v,h1,h2⟩:=hx;subst h2;exact⟨v,h,fun M w σ a _=>J7u h1 σ⟩
 | global g=>simp[cX] at hx
 | func f =>
   simp[cX] at hx;subst hx;exact⟨_,h,fun M w σ a _=>Den.fn σ (.func f) false [] [] rfl (by simp)⟩
theorem J6Y {P:Program} {T:TypeId} (h:Q2g P T=.bool):P.underlying T=some .bool:=by
 unfold Q2g at h;split at h
 . assumption
 . cases h
 . split at h<;>cases h
 . split at h<;>cases h
 . cases h
theorem J2P {P:Program} {T:TypeId} (h:Q2g P T=.slc):∃e,P.underlying T=some (.slice e):=by
 unfold Q2g at h;split at h
 . cases h
 . exact⟨_,by assumption⟩
 . split at h<;>cases h
 . split at h<;>cases h
 . cases h
theorem Q0y {P:Program} {T:TypeId} {ls:List Lf} (h:Q2g P T=.flat ls):(P.underlying T=some (.struct (P.fieldsOf T))/\P.stoodInHeld T=false/\P.eqGuardType P.depth T=false/\J8J P 0 (P.fieldsOf T).toList=some ls) \/
 ∃n e l i,P.underlying T=some (.array n e)/\P.eqGuardType P.depth T=false/\J9O P e=some l/\P.info? e=some i/\P.cellsOf e=1/\ls=List.replicate n l:=by
 unfold Q2g at h;split at h
 . cases h
 . cases h
 . rename_i fs hu;split at h
   . rename_i h1 h2 h3;cases h;have e:P.fieldsOf T=fs:=by simp only[Program.fieldsOf,hu]
     rw[e];exact .inl ⟨hu,h1,h2,h3⟩
   . cases h
 . rename_i n e hu;split at h
   . rename_i l h1 h2 h3 h4;cases h;obtain⟨i,hi⟩:=Option.isSome_iff_exists.1 h3;exact .inr ⟨n,e,l,i,hu,h1,h2,hi,Nat.eq_of_beq_eq_true h4,rfl⟩
   . cases h
 . cases h
theorem J0D {b:Bool} {K:V->Prop} (h:J8j b K):K (.bool b):=by
 obtain⟨h1,h2⟩:=h;cases b
 . exact h2 rfl
 . exact h1 rfl
theorem J4g {P:Program} (op:BinOp) {T:TypeId} {ox oy:Operand} {k k':IntKind} {a b:Int} {w:World}:(eqGuard op T ox oy (.int k a) (.int k' b)).run P w=.ok () w:=by
 cases op<;>rfl
theorem J4f {P:Program} (op:BinOp) {T:TypeId} {ox oy:Operand} {a b:ByteArray} {w:World}:(eqGuard op T ox oy (.string a) (.string b)).run P w=.ok () w:=by
 cases op<;>rfl
theorem J3O {P:Program} (op:BinOp) {T:TypeId} {ox oy:Operand} {a b:Bool} {w:World}:(eqGuard op T ox oy (.bool a) (.bool b)).run P w=.ok () w:=by
 cases op<;>rfl
theorem J0w {T:TypeId} {k:IntKind} {a b:Int}:∀op:BinOp,op≠.shl->op≠.shr->binOp op T (.int k a) (.int k b) =
 (match op with
 | .add | .sub | .mul=>Op.intArith op k a b
 | .quo | .rem=>Op.intDiv op k a b
 | .and | .or | .xor | .andNot=>Op.intBits op k a b
 | _=>Op.intCmp op a b):=by
 intro op h1 h2;cases op<;>first|exact(h1 rfl).elim|exact(h2 rfl).elim|(show(if k≠k then _ else _)=_;rw[if_neg (by simp)])
theorem J1D {P:Program} {t:TypeId} {b:Bool} (h:J1e P t=some b) (w:World):(isAgg t).run P w=.ok b w:=by
 unfold J1e at h;split at h<;>simp at h
 . rename_i h1;subst h;simp[isAgg,Sem.run_bind,run_underlying h1,go_sem]
 . rename_i h1;subst h;simp[isAgg,Sem.run_bind,run_underlying h1,go_sem]
 . rename_i d h1 h2 h3;subst h;simp only[isAgg,Sem.run_bind,run_underlying h3,Result.andThen_ok];cases d<;>first|rfl|exact(h1 _ rfl).elim|exact(h2 _ _ rfl).elim
theorem J0M {P:Program} {t:TypeId} {cs:Array Value} {off:Nat} {v:Value} (h:J1e P t=some false) (hc:cs[off]?=some v) (w:World) :
 (part t cs off).run P w=.ok v w:=by
 simp[part,Sem.run_bind,J1D h,hc,go_sem]
theorem J5l {P:Program}:∀(fs:List Field) (i:Nat) (ls:List Lf) (xs ys:List V) (K:Bool->Prop),J8J P i fs=some ls->J5V ls xs ys K ->
 ∃b,K b/\∀M w σ (us us' pre pre':List Value),(∀(i:Nat) (v:V) (u:Value),xs[i]?=some v->us[i]?=some u->Den M w σ v u)->xs.length=us.length->(∀(i:Nat) (v:V) (u:Value),ys[i]?=some v->us'[i]?=some u->Den M w σ v u)->ys.length=us'.length ->
  pre.length=i->pre'.length=i->(Op.eqFields 9999 (pre++us).toArray (pre'++us').toArray fs).run P w=.ok b w
 | [],i,ls,xs,ys,K,hl,h=>by
   simp only[J8J,Option.some.injEq] at hl;subst hl;unfold J5V at h;split at h<;>first|exact h.elim|(rename_i he;cases he;done)|skip
   refine⟨true,h,?_⟩;intros;simp[Op.eqFields]
 | f::fs,i,ls,xs,ys,K,hl,h=>by
   unfold J8J at hl;split at hl
   . rename_i l ls' h1 h2 h3 h4;cases hl;have hoff:=Nat.eq_of_beq_eq_true h1;have key:∀(x y:V) (r r':List V) (b:Bool),xs=x::r->ys=y::r'->(∀M w σ u u',Den M w σ x u->Den M w σ y u'->J1e P f.type=some false/\(Op.equalIn 9999 f.type u u').run P w=.ok b w) ->
      J5V ls' r r' (fun t=>K (b&&t)) ->
      ∃b,K b/\∀M w σ (us us' pre pre':List Value),(∀(i:Nat) (v:V) (u:Value),xs[i]?=some v->us[i]?=some u->Den M w σ v u)->xs.length=us.length->(∀(i:Nat) (v:V) (u:Value),ys[i]?=some v->us'[i]?=some u->Den M w σ v u)->ys.length=us'.length ->
       pre.length=i->pre'.length=i->(Op.eqFields 9999 (pre++us).toArray (pre'++us').toArray (f::fs)).run P w=.ok b w:=by
      intro x y r r' b hx hy hb hr;obtain⟨t,hK,ht⟩:=J5l fs (i+1) ls' r r' _ h4 hr;refine⟨_,hK,?_⟩;intro M w σ us us' pre pre' d1 l1 d2 l2 p1 p2;subst hx hy
      match us,us',l1,l2,d1,d2 with
      | u::us,u'::us',l1,l2,d1,d2 =>
        obtain⟨a1,a2⟩:=hb M w σ u u' (d1 0 x u (by simp) (by simp)) (d2 0 y u' (by simp) (by simp));have e1:(pre++u::us).toArray[f.offset]?=some u:=by simp[hoff,<- p1]
        have e2:(pre'++u'::us').toArray[f.offset]?=some u':=by simp[hoff,<- p2]
        have q1:(part f.type (pre++u::us).toArray f.offset).run P w=.ok u w:=by
         exact J0M a1 e1 w
        have q2:(part f.type (pre'++u'::us').toArray f.offset).run P w=.ok u' w:=by
         exact J0M a1 e2 w
        have hname:f.name≠ "_":=by simpa using h2
        simp only[Op.eqFields,hname,ne_eq,not_false_eq_true,if_true,Sem.run_bind,q1,q2,a2,Result.andThen_ok];cases b with
        | false=>simp
        | true =>
          simp only[Bool.not_true,Bool.false_eq_true,if_false,Bool.true_and];have:=ht M w σ us us' (pre++[u]) (pre'++[u']) (fun i v u hv hu=>d1 (i+1) v u (by simpa using hv) (by simpa using hu)) (by simpa using l1) (fun i v u hv hu=>d2 (i+1) v u (by simpa using hv) (by simpa using hu)) (by simpa using l2) (by simp[p1]) (by simp[p2]);simpa using this
     rcases xs with _ | ⟨x,r⟩
     . cases l<;>exact h.elim
     rcases ys with _ | ⟨y,r'⟩
     . cases l<;>cases x<;>exact h.elim
     cases l
     . cases x<;>first|exact h.elim|skip
       rename_i k a;cases y<;>first|exact h.elim|skip
       rename_i k' b;simp only[J5V] at h;split at h
       . rename_i hk;have hk:k=k':=by simpa using hk
         subst hk;refine key _ _ r r' (a == b) rfl rfl (fun M w σ u u' d1 d2=>?_) h;cases d1;cases d2;unfold J9O at h3;split at h3<;>simp at h3;rename_i hu;exact⟨by simp[J1e,hu],run_equalIn_int w 9998 f.type _ _ a b hu⟩
       . exact h.elim
     . cases x<;>first|exact h.elim|skip
       rename_i a;cases y<;>first|exact h.elim|skip
       rename_i b;simp only[J5V] at h;refine key _ _ r r' (a == b) rfl rfl (fun M w σ u u' d1 d2=>?_) h;cases d1;cases d2;unfold J9O at h3;split at h3<;>simp at h3;rename_i hu;exact⟨by simp[J1e,hu],run_equalIn_bool' w 9998 f.type a b hu⟩
     . cases x<;>first|exact h.elim|skip
       rename_i a;cases y<;>first|exact h.elim|skip
       rename_i b;simp only[J5V] at h;refine key _ _ r r' (a == b) rfl rfl (fun M w σ u u' d1 d2=>?_) h;cases d1;cases d2;unfold J9O at h3;split at h3<;>simp at h3;rename_i hu;exact⟨by simp[J1e,hu],by rw[beq_toListBytes];exact run_equalIn_string w 9998 f.type a b hu⟩
   . cases hl
theorem J8K {P:Program} {e:TypeId} {l:Lf} (hl:J9O P e=some l) {x y:V} {r r':List V} {ls:List Lf} {K:Bool->Prop} (h:J5V (l::ls) (x::r) (y::r') K) :
 ∃b:Bool,J5V ls r r' (fun t=>K (b&&t))/\∀M w σ u u',Den M w σ x u->Den M w σ y u'->J1e P e=some false/\(Op.equalIn 9999 e u u').run P w=.ok b w:=by
 cases l
 . cases x<;>first|exact h.elim|skip
   rename_i k a;cases y<;>first|exact h.elim|skip
   rename_i k' b;simp only[J5V] at h;split at h
   . rename_i hk;have hk:k=k':=by simpa using hk
     subst hk;refine⟨a == b,h,fun M w σ u u' d1 d2=>?_⟩;cases d1;cases d2;unfold J9O at hl;split at hl<;>simp at hl;rename_i hu;exact⟨by simp[J1e,hu],run_equalIn_int w 9998 e _ _ a b hu⟩
   . exact h.elim
 . cases x<;>first|exact h.elim|skip
   rename_i a;cases y<;>first|exact h.elim|skip
   rename_i b;simp only[J5V] at h;refine⟨a == b,h,fun M w σ u u' d1 d2=>?_⟩;cases d1;cases d2;unfold J9O at hl;split at hl<;>simp at hl;rename_i hu;exact⟨by simp[J1e,hu],run_equalIn_bool' w 9998 e a b hu⟩
 . cases x<;>first|exact h.elim|skip
   rename_i a;cases y<;>first|exact h.elim|skip
   rename_i b;simp only[J5V] at h;refine⟨a == b,h,fun M w σ u u' d1 d2=>?_⟩;cases d1;cases d2;unfold J9O at hl;split at hl<;>simp at hl;rename_i hu;exact⟨by simp[J1e,hu],by rw[beq_toListBytes];exact run_equalIn_string w 9998 e a b hu⟩
theorem J3m {P:Program} {e:TypeId} {l:Lf} (hl:J9O P e=some l):∀(n i:Nat) (xs ys:List V) (K:Bool->Prop),J5V (List.replicate n l) xs ys K ->
 ∃b,K b/\∀M w σ (us us' pre pre':List Value),(∀(i:Nat) (v:V) (u:Value),xs[i]?=some v->us[i]?=some u->Den M w σ v u)->xs.length=us.length->(∀(i:Nat) (v:V) (u:Value),ys[i]?=some v->us'[i]?=some u->Den M w σ v u)->ys.length=us'.length ->
  pre.length=i->pre'.length=i->(Op.eqItems 9999 e 1 (pre++us).toArray (pre'++us').toArray (List.range' i n)).run P w=.ok b w
 | 0,i,xs,ys,K,h=>by
   simp only[List.replicate_zero] at h;unfold J5V at h;split at h<;>first|exact h.elim|(rename_i he;cases he;done)|skip
   refine⟨true,h,?_⟩;intros;simp[Op.eqItems]
 | n+1,i,xs,ys,K,h=>by
   rw[List.replicate_succ] at h;rcases xs with _ | ⟨x,r⟩
   . cases l<;>exact h.elim
   rcases ys with _ | ⟨y,r'⟩
   . cases l<;>cases x<;>exact h.elim
   obtain⟨b,hr,hb⟩:=J8K hl h;obtain⟨t,hK,ht⟩:=J3m hl n (i+1) r r' _ hr;refine⟨_,hK,?_⟩;intro M w σ us us' pre pre' d1 l1 d2 l2 p1 p2
   match us,us',l1,l2,d1,d2 with
   | u::us,u'::us',l1,l2,d1,d2 =>
     obtain⟨a1,a2⟩:=hb M w σ u u' (d1 0 x u (by simp) (by simp)) (d2 0 y u' (by simp) (by simp));have e1:(pre++u::us).toArray[i*1]?=some u:=by simp[<- p1]
     have e2:(pre'++u'::us').toArray[i*1]?=some u':=by simp[<- p2]
     have q1:(part e (pre++u::us).toArray (i*1)).run P w=.ok u w:=J0M a1 e1 w;have q2:(part e (pre'++u'::us').toArray (i*1)).run P w=.ok u' w:=J0M a1 e2 w;rw[List.range'_succ];simp only[Op.eqItems,Sem.run_bind,q1,q2,a2,Result.andThen_ok];cases b with
     | false=>simp
     | true =>
       simp only[Bool.not_true,Bool.false_eq_true,if_false,Bool.true_and];have:=ht M w σ us us' (pre++[u]) (pre'++[u']) (fun i v u hv hu=>d1 (i+1) v u (by simpa using hv) (by simpa using hu)) (by simpa using l1) (fun i v u hv hu=>d2 (i+1) v u (by simpa using hv) (by simpa using hu)) (by simpa using l2) (by simp[p1]) (by simp[p2]);simpa using this
theorem J5j {P:Program} {T:TypeId} {ls:List Lf} (h:Q2g P T=.flat ls) {xs ys:List V} {K:Bool->Prop} (hk:J5V ls xs ys K) :
 P.eqGuardType P.depth T=false/\∃b,K b/\∀M w σ (us us':List Value),(∀(i:Nat) (v:V) (u:Value),xs[i]?=some v->us[i]?=some u->Den M w σ v u)->xs.length=us.length->(∀(i:Nat) (v:V) (u:Value),ys[i]?=some v->us'[i]?=some u->Den M w σ v u)->ys.length=us'.length ->
  (Op.equalIn 10000 T (.agg us.toArray) (.agg us'.toArray)).run P w=.ok b w:=by
 rcases Q0y h with ⟨b1,b2,b3,b4⟩ | ⟨n,e,l,i,b1,b2,b3,b4,b5,rfl⟩
 . obtain⟨b,hK,hb⟩:=J5l _ 0 ls xs ys _ b4 hk;refine⟨b3,b,hK,fun M w σ us us' d1 l1 d2 l2=>?_⟩;rw[run_equalIn_struct w 9999 T _ _ b1 b2];simpa using hb M w σ us us' [] [] d1 l1 d2 l2 rfl rfl
 . obtain⟨b,hK,hb⟩:=J3m b3 n 0 xs ys _ hk;refine⟨b2,b,hK,fun M w σ us us' d1 l1 d2 l2=>?_⟩;rw[run_equalIn_array w 9999 _ _ b1 b4,b5,List.range_eq_range'];simpa using hb M w σ us us' [] [] d1 l1 d2 l2 rfl rfl
theorem J0Q {P:Program} {op:BinOp} {T e:TypeId} (ht:P.underlying T=some (.slice e)) (hop:op=.eql\/op=.neq) (ox oy:Operand) (a:Option Addr) (n c:Nat) (w:World) :
 (do eqGuard op T ox oy (.slice a n c) (.slice none 0 0);binOp op T (.slice a n c) (.slice none 0 0):Sem Value).run P w=.ok (.bool (if op=.eql then a.isNone else !a.isNone)) w:=by
 have hE:∀d,(Op.equalIn (d+1) T (.slice a n c) (.slice none 0 0)).run P w=.ok a.isNone w:=by
  intro d;cases a<;>simp[Op.equalIn,run_underlying ht]
 rcases hop with h|h<;>subst h
 . rw[Sem.run_bind,show(eqGuard .eql T ox oy (.slice a n c) (.slice none 0 0)).run P w=.ok () w from rfl];simp only[binOp];simp[Op.equal,Op.maxDepth,hE 9999]
 . rw[Sem.run_bind,show(eqGuard .neq T ox oy (.slice a n c) (.slice none 0 0)).run P w=.ok () w from rfl];simp only[binOp];simp[Op.equal,Op.maxDepth,hE 9999]
theorem J8u {P:Program} {op:BinOp} {T:TypeId} {x y:V} {K:V->Prop} (h:Q5s (Q2g P T) op x y K) :
 ∃v,K v/\∀M w σ (ox oy:Operand) ux uy,Den M w σ x ux->Den M w σ y uy ->
  ∃u,(do eqGuard op T ox oy ux uy;binOp op T ux uy:Sem Value).run P w=.ok u w/\Den M w σ v u:=by
 unfold Q5s at h;split at h
 . rename_i k a k' b;have fin:∀(v:V) (u:Value),K v->(∀M w σ,Den M w σ v u)->(∀w,(binOp op T (.int k a) (.int k' b)).run P w=.ok u w) ->
    ∃v,K v/\∀M w σ (ox oy:Operand) ux uy,Den M w σ (.int k a) ux->Den M w σ (.int k' b) uy ->
     ∃u,(do eqGuard op T ox oy ux uy;binOp op T ux uy:Sem Value).run P w=.ok u w/\Den M w σ v u:=by
    intro v u hK hd hr;refine⟨v,hK,?_⟩;intro M w σ ox oy ux uy hx hy;cases hx;cases hy;refine⟨u,?_,hd _ _ _⟩;rw[Sem.run_bind,J4g];exact hr w
   split at h
   . obtain⟨hb,m,hm,hK⟩:=h;subst hm;exact fin _ _ hK (fun _ _ _=>.int _ _ _) (fun w=>by show(Op.shift .shl k a k' b).run P w=_;simp[Op.shift,show ¬ b<0 by omega,Sem.run_pure])
   . obtain⟨hb,m,hm,hK⟩:=h;subst hm;exact fin _ _ hK (fun _ _ _=>.int _ _ _) (fun w=>by show(Op.shift .shr k a k' b).run P w=_;simp[Op.shift,show ¬ b<0 by omega,Sem.run_pure])
   . split at h
     . exact h.elim
     . rename_i hkk;have hk:k=k':=by simpa using hkk
       subst hk;split at h
       . obtain⟨m,hm,hK⟩:=h;subst hm;exact fin _ _ hK (fun _ _ _=>.int _ _ _) (fun w=>by rw[J0w _ (by decide) (by decide)];rfl)
       . obtain⟨m,hm,hK⟩:=h;subst hm;exact fin _ _ hK (fun _ _ _=>.int _ _ _) (fun w=>by rw[J0w _ (by decide) (by decide)];rfl)
       . obtain⟨m,hm,hK⟩:=h;subst hm;exact fin _ _ hK (fun _ _ _=>.int _ _ _) (fun w=>by rw[J0w _ (by decide) (by decide)];rfl)
       . obtain⟨hb,m,hm,hK⟩:=h;subst hm;exact fin _ _ hK (fun _ _ _=>.int _ _ _) (fun w=>by rw[J0w _ (by decide) (by decide)];simp[Op.intDiv,hb,Sem.run_pure])
       . obtain⟨hb,m,hm,hK⟩:=h;subst hm;exact fin _ _ hK (fun _ _ _=>.int _ _ _) (fun w=>by rw[J0w _ (by decide) (by decide)];simp[Op.intDiv,hb,Sem.run_pure])
       . obtain⟨m,hm,hK⟩:=h;subst hm;exact fin _ _ hK (fun _ _ _=>.int _ _ _) (fun w=>by rw[J0w _ (by decide) (by decide)];rfl)
       . obtain⟨m,hm,hK⟩:=h;subst hm;exact fin _ _ hK (fun _ _ _=>.int _ _ _) (fun w=>by rw[J0w _ (by decide) (by decide)];rfl)
       . obtain⟨m,hm,hK⟩:=h;subst hm;exact fin _ _ hK (fun _ _ _=>.int _ _ _) (fun w=>by rw[J0w _ (by decide) (by decide)];rfl)
       . obtain⟨m,hm,hK⟩:=h;subst hm;exact fin _ _ hK (fun _ _ _=>.int _ _ _) (fun w=>by rw[J0w _ (by decide) (by decide)];rfl)
       . exact fin _ _ (J0D h) (fun _ _ _=>.bool _ _) (fun w=>by rw[J0w _ (by decide) (by decide)];rfl)
       . exact fin _ _ (J0D h) (fun _ _ _=>.bool _ _) (fun w=>by rw[J0w _ (by decide) (by decide)];rfl)
       . exact fin _ _ (J0D h) (fun _ _ _=>.bool _ _) (fun w=>by rw[J0w _ (by decide) (by decide)];rfl)
       . exact fin _ _ (J0D h) (fun _ _ _=>.bool _ _) (fun w=>by rw[J0w _ (by decide) (by decide)];rfl)
       . exact fin _ _ (J0D h) (fun _ _ _=>.bool _ _) (fun w=>by rw[J0w _ (by decide) (by decide)];rfl)
       . exact fin _ _ (J0D h) (fun _ _ _=>.bool _ _) (fun w=>by rw[J0w _ (by decide) (by decide)];rfl)
       . exact h.elim
 . rename_i a b;have fin:∀(v:V) (u:Value),K v->(∀M w σ,Den M w σ v u)->(∀w,(binOp op T (.string a) (.string b)).run P w=.ok u w) ->
    ∃v,K v/\∀M w σ (ox oy:Operand) ux uy,Den M w σ (.str a) ux->Den M w σ (.str b) uy ->
     ∃u,(do eqGuard op T ox oy ux uy;binOp op T ux uy:Sem Value).run P w=.ok u w/\Den M w σ v u:=by
    intro v u hK hd hr;refine⟨v,hK,?_⟩;intro M w σ ox oy ux uy hx hy;cases hx;cases hy;refine⟨u,?_,hd _ _ _⟩;rw[Sem.run_bind,J4f];exact hr w
   split at h
   . exact fin _ _ (J0D h) (fun _ _ _=>.bool _ _) (fun w=>by rw[beq_toListBytes];rfl)
   . exact fin _ _ (J0D h) (fun _ _ _=>.bool _ _) (fun w=>by rw[bne,beq_toListBytes];rfl)
   . have hsz:a.size+b.size<=9223372036854775807:=by
      rcases Nat.lt_or_ge 9223372036854775807 (a.size+b.size) with hh|hh
      . exact(h.2 (by simp;omega)).elim
      . exact hh
     exact fin _ _ (h.1 (by simpa using hsz)) (fun _ _ _=>.str _ _) (fun w=>by
      show(if ((a.size+b.size:Nat):Int) > IntKind.i64.max then _ else _:Sem Value).run P w=_;rw[if_neg (by simp[IntKind.max,IntKind.signed,IntKind.bits];omega)];rfl)
   . exact h.elim
 . rename_i a b;have fin:∀(v:V) (u:Value),K v->(∀M w σ,Den M w σ v u)->(∀w,(binOp op T (.bool a) (.bool b)).run P w=.ok u w) ->
    ∃v,K v/\∀M w σ (ox oy:Operand) ux uy,Den M w σ (.bool a) ux->Den M w σ (.bool b) uy ->
     ∃u,(do eqGuard op T ox oy ux uy;binOp op T ux uy:Sem Value).run P w=.ok u w/\Den M w σ v u:=by
    intro v u hK hd hr;refine⟨v,hK,?_⟩;intro M w σ ox oy ux uy hx hy;cases hx;cases hy;refine⟨u,?_,hd _ _ _⟩;rw[Sem.run_bind,J3O];exact hr w
   split at h
   . rename_i hb;exact fin _ _ (J0D h) (fun _ _ _=>.bool _ _) (fun w=>run_eql_bool w T a b (J6Y hb))
   . rename_i hb;exact fin _ _ (J0D h) (fun _ _ _=>.bool _ _) (fun w=>run_neq_bool w T a b (J6Y hb))
   . exact h.elim
 . rename_i xs ys;split at h
   . rename_i ls hbt;have main:∀(b:Bool),P.eqGuardType P.depth T=false->(∀M w σ (us us':List Value),(∀(i:Nat) (v:V) (u:Value),xs[i]?=some v->us[i]?=some u->Den M w σ v u)->xs.length=us.length->(∀(i:Nat) (v:V) (u:Value),ys[i]?=some v->us'[i]?=some u->Den M w σ v u)->ys.length=us'.length ->
      (Op.equalIn 10000 T (.agg us.toArray) (.agg us'.toArray)).run P w=.ok b w) ->
      ∀M w σ (ox oy:Operand) ux uy,Den M w σ (.agg xs) ux->Den M w σ (.agg ys) uy->(eqGuard op T ox oy ux uy).run P w=.ok () w/\(Op.equalIn 10000 T ux uy).run P w=.ok b w/\(∃u u',ux=.agg u/\uy=.agg u'):=by
      intro b b3 hb M w σ ox oy ux uy hx hy;cases hx with|agg _ _ us l1 d1 =>
      cases hy with|agg _ _ us' l2 d2 =>
      exact⟨run_eqGuard_agg w op T ox oy _ _ b3,hb M w σ us us' d1 l1 d2 l2,_,_,rfl,rfl⟩
     split at h
     . obtain⟨b3,b,hK,hb⟩:=J5j hbt h;refine⟨_,J0D hK,fun M w σ ox oy ux uy hx hy=>⟨.bool b,?_,.bool _ _⟩⟩;obtain⟨m1,m2,u,u',rfl,rfl⟩:=main b b3 hb M w σ ox oy ux uy hx hy;rw[Sem.run_bind,m1,Result.andThen_ok,run_eql_struct,m2];rfl
     . obtain⟨b3,b,hK,hb⟩:=J5j hbt h;refine⟨_,J0D hK,fun M w σ ox oy ux uy hx hy=>⟨.bool (!b),?_,.bool _ _⟩⟩;obtain⟨m1,m2,u,u',rfl,rfl⟩:=main b b3 hb M w σ ox oy ux uy hx hy;rw[Sem.run_bind,m1,Result.andThen_ok,run_neq_struct,m2];rfl
     . exact h.elim
   . exact h.elim
 . rename_i n s full f;have nz:∀M w σ u,Den M w σ (.fz n s full f) u->∃a c,u=.slice a n c/\(Nat.beq n 0=false->a.isNone=false):=by
    intro M w σ u hd;cases hd with
    | fz0 _ _ _ _ a c _=>exact⟨a,c,rfl,by simp⟩
    | fz _ _ _ _ _ b off c u=>exact⟨_,c,rfl,by simp⟩
   split at h
   . rename_i hbt;obtain⟨e,ht⟩:=J2P hbt;cases hn:Nat.beq n 0 with
     | true =>
       refine⟨_,h.1 hn,fun M w σ ox oy ux uy hx hy=>?_⟩;obtain⟨a,c,rfl,_⟩:=nz M w σ ux hx;cases hy;exact⟨_,J0Q ht (.inl rfl) ox oy a n c w,.anyb _ _⟩
     | false =>
       refine⟨_,h.2 hn,fun M w σ ox oy ux uy hx hy=>?_⟩;obtain⟨a,c,rfl,ha⟩:=nz M w σ ux hx;cases hy;refine⟨_,J0Q ht (.inl rfl) ox oy a n c w,?_⟩;simp only[if_true,ha hn];exact .bool _ _
   . rename_i hbt;obtain⟨e,ht⟩:=J2P hbt;cases hn:Nat.beq n 0 with
     | true =>
       refine⟨_,h.1 hn,fun M w σ ox oy ux uy hx hy=>?_⟩;obtain⟨a,c,rfl,_⟩:=nz M w σ ux hx;cases hy;exact⟨_,J0Q ht (.inr rfl) ox oy a n c w,.anyb _ _⟩
     | false =>
       refine⟨_,h.2 hn,fun M w σ ox oy ux uy hx hy=>?_⟩;obtain⟨a,c,rfl,ha⟩:=nz M w σ ux hx;cases hy;refine⟨_,J0Q ht (.inr rfl) ox oy a n c w,?_⟩;simp only[reduceCtorEq,if_false,ha hn];exact .bool _ _
   . exact h.elim
 . rename_i k s lo n;have nz:∀M w σ u,Den M w σ (.vec k s lo n) u->∃a c,u=.slice a n c/\(Nat.beq n 0=false->a.isNone=false):=by
    intro M w σ u hd;cases hd with
    | vec _ _ _ _ _ bo base κ c a hk hc hl ha =>
      refine⟨a,c,rfl,fun hn=>?_⟩;have:n≠0:=fun e=>by subst e;simp at hn
      obtain⟨b,_,e⟩:=ha (by omega);subst e;rfl
   split at h
   . rename_i hbt;obtain⟨e,ht⟩:=J2P hbt;cases hn:Nat.beq n 0 with
     | true =>
       refine⟨_,h.1 hn,fun M w σ ox oy ux uy hx hy=>?_⟩;obtain⟨a,c,rfl,_⟩:=nz M w σ ux hx;cases hy;exact⟨_,J0Q ht (.inl rfl) ox oy a n c w,.anyb _ _⟩
     | false =>
       refine⟨_,h.2 hn,fun M w σ ox oy ux uy hx hy=>?_⟩;obtain⟨a,c,rfl,ha⟩:=nz M w σ ux hx;cases hy;refine⟨_,J0Q ht (.inl rfl) ox oy a n c w,?_⟩;simp only[if_true,ha hn];exact .bool _ _
   . rename_i hbt;obtain⟨e,ht⟩:=J2P hbt;cases hn:Nat.beq n 0 with
     | true =>
       refine⟨_,h.1 hn,fun M w σ ox oy ux uy hx hy=>?_⟩;obtain⟨a,c,rfl,_⟩:=nz M w σ ux hx;cases hy;exact⟨_,J0Q ht (.inr rfl) ox oy a n c w,.anyb _ _⟩
     | false =>
       refine⟨_,h.2 hn,fun M w σ ox oy ux uy hx hy=>?_⟩;obtain⟨a,c,rfl,ha⟩:=nz M w σ ux hx;cases hy;refine⟨_,J0Q ht (.inr rfl) ox oy a n c w,?_⟩;simp only[reduceCtorEq,if_false,ha hn];exact .bool _ _
   . exact h.elim
 . split at h
   . rename_i hbt;obtain⟨e,ht⟩:=J2P hbt;refine⟨_,h,fun M w σ ox oy ux uy hx hy=>?_⟩;cases hx;cases hy;exact⟨_,J0Q ht (.inl rfl) ox oy none 0 0 w,.bool _ _⟩
   . rename_i hbt;obtain⟨e,ht⟩:=J2P hbt;refine⟨_,h,fun M w σ ox oy ux uy hx hy=>?_⟩;cases hx;cases hy;exact⟨_,J0Q ht (.inr rfl) ox oy none 0 0 w,.bool _ _⟩
   . exact h.elim
 . exact h.elim
theorem J7X {α:Type}:∀(l:List α) (i:Nat),nth l i=l[i]?
 | [],i=>by simp[nth]
 | x::r,0=>by simp[nth]
 | x::r,i+1=>by simp[nth,J7X r i]
theorem J2g {α:Type}:∀(l:List α) (o n:Nat) (K:List α->Prop),J9d l o n K ->
 ∃r,K r/\r.length=n/\(0<n->o+n<=l.length)/\∀i,i<n->r[i]?=l[o+i]?
 | l,o,0,K,h=>by
   refine⟨[],?_,rfl,fun h=>by omega,fun i hi=>by omega⟩;cases l<;>cases o<;>exact h
 | [],o,n+1,K,h=>by cases o<;>exact h.elim
 | x::l,0,n+1,K,h=>by
   obtain⟨r,h1,h2,h3,h4⟩:=J2g l 0 n _ h;refine⟨x::r,h1,by simp[h2],fun _=>?_,?_⟩
   . rcases Nat.eq_zero_or_pos n with e|e
     . subst e;simp
     . have:=h3 e;simp;omega
   . intro i hi;cases i with
     | zero=>simp
     | succ i=>have:=h4 i (by omega);simp at this ⊢;exact this
 | x::l,o+1,n+1,K,h=>by
   obtain⟨r,h1,h2,h3,h4⟩:=J2g l o (n+1) _ h;refine⟨r,h1,h2,fun _=>by have:=h3 (by omega);simp;omega,?_⟩;intro i hi;rw[h4 i hi,show o+1+i=(o+i)+1 by omega];simp
theorem J07 (b o n:Nat):(⟨b,o,none⟩:Addr).add n=⟨b,o+n,none⟩:=by
 unfold Addr.add;split
 . simp[*]
 . rfl
theorem J0T {P:Program} {t:TypeId} {n:Nat} (h:J11 P t=some n) (w:World):(sizeOf t).run P w=.ok n w:=by
 simp only[J11,Option.map_eq_some_iff] at h;obtain⟨i,h1,h2⟩:=h;simp[sizeOf,typeInfo,Sem.run_bind,h1,h2,go_sem]
theorem J6t {P:Program} {t:TypeId} {cs:Array Value} {off n:Nat} (h:J1e P t=some true) (hs:J11 P t=some n) (w:World) :
 (part t cs off).run P w=.ok (.agg (cs.extract off (off+n))) w:=by
 simp[part,Sem.run_bind,J1D h,J0T hs,go_sem]
theorem Den.agg_inv {M:Nat->Prop} {w:World} {σ:Sg} {cs:List V} {u:Value} (h:Den M w σ (.agg cs) u) :
 ∃us:List Value,u=.agg us.toArray/\cs.length=us.length/\∀(i:Nat) (v:V) (u:Value),cs[i]?=some v->us[i]?=some u->Den M w σ v u:=by
 cases h with
 | agg _ _ us hl hd=>exact⟨us,rfl,hl,hd⟩
theorem J0S {P:Program} {s:Sem Value} {w w':World} {u:Value} (h:s.run P w=.ok u w'):((s >>= fun r=>pure (Next.value r)):Sem Next).run P w=.ok (.value u) w':=by
 rw[Sem.run_bind,h];rfl
theorem J0x {P:Program} {k:IntKind} {m y:Nat} {code:BoundsCode} {w:World} (h:m<=y):(Instr.sliceBound (.int k m) y code).run P w=.ok m w:=by
 have:(0:Int)<=(m:Int)/\(m:Int)<=(y:Int):=by omega
 simp[Instr.sliceBound,asIntOf,this,go_sem]
theorem J05 {P:Program} {w:World} {isSlice:Bool} {len cap l h m:Nat} {low high max:Option Value}
 (h1:(max=none/\m=cap)\/∃k:IntKind,max=some (.int k m)/\m<=cap)
 (h2:(high=none/\max=none/\h=len)\/∃k:IntKind,high=some (.int k h)/\h<=m)
 (h3:(low=none/\l=0)\/∃k:IntKind,low=some (.int k l)/\l<=h):(Instr.sliceBounds isSlice len cap low high max).run P w=.ok (l,h,m) w:=by
 unfold Instr.sliceBounds;rcases h1 with ⟨rfl,rfl⟩ | ⟨k1,rfl,h1⟩
 . rcases h2 with ⟨rfl,_,rfl⟩ | ⟨k2,rfl,h2⟩
   . rcases h3 with ⟨rfl,rfl⟩ | ⟨k3,rfl,h3⟩
     . simp[go_sem]
     . simp[J0x h3,go_sem]
   . rcases h3 with ⟨rfl,rfl⟩ | ⟨k3,rfl,h3⟩
     . simp[J0x h2,go_sem]
     . simp[Sem.run_bind,J0x h2,J0x h3,go_sem]
 . rcases h2 with ⟨_,h2,_⟩ | ⟨k2,rfl,h2⟩
   . cases h2
   . rcases h3 with ⟨rfl,rfl⟩ | ⟨k3,rfl,h3⟩
     . simp[Sem.run_bind,J0x h1,J0x h2,go_sem]
     . simp[Sem.run_bind,J0x h1,J0x h2,J0x h3,go_sem]
def BdF (env:Env) (o:Option Operand) (x:Option X) (d n m:Nat):Prop :=
 (o=none/\m=d)\/(∃oy,o=some oy/\m<=n/\∀M w σ a,(∀y,y∈Xo x->XOk M w σ env a y)->∃k:IntKind,a.eval oy=.int k m)
theorem J0u {x:Option X} {o:Option Operand} {env:Env} {d n:Nat} {K:Nat->Prop} (hx:cXo o=some x) (h:bdK x env d n K):∃m,K m/\BdF env o x d n m:=by
 cases o with
 | none =>
   simp[cXo] at hx;subst hx;exact⟨d,h,.inl ⟨rfl,rfl⟩⟩
 | some oy =>
   simp only[cXo,Option.map_eq_some_iff] at hx;obtain⟨x',hx,rfl⟩:=hx;obtain⟨v,h,hv⟩:=J0b hx h;split at h
   . obtain⟨m,rfl,hm,hK⟩:=h;refine⟨m,hK,.inr ⟨oy,rfl,hm,fun M w σ a ok=>?_⟩⟩;have:=hv M w σ a (ok x' (by simp[Xo]));generalize a.eval oy=q at this;cases this;exact⟨_,rfl⟩
   . exact h.elim
theorem BdF.ev {env:Env} {o:Option Operand} {x:Option X} {d n m:Nat} (h:BdF env o x d n m) {M:Nat->Prop} {w:World} {σ:Sg} {a:Act} (ok:∀y,y∈Xo x->XOk M w σ env a y) :
 (o=none/\m=d)\/∃k:IntKind,o.map a.eval=some (.int k m)/\m<=n:=by
 rcases h with h | ⟨oy,rfl,hm,he⟩
 . exact .inl h
 . obtain⟨k,hk⟩:=he M w σ a ok;exact .inr ⟨k,by simp[hk],hm⟩
theorem J0Y {P:Program} {t e:TypeId} {s:Nat} (ht:P.underlying t=some (.slice e)) (hs:J11 P e=some s) {w:World} {a:Option Addr} {len cap l h m:Nat} {low high max:Option Value}
 (hb:(Instr.sliceBounds true len cap low high max).run P w=.ok (l,h,m) w) :
 (Instr.sliceAt t (.slice a len cap) low high max).run P w=.ok (.slice (if m=l then a else a.map (·.add (l*s))) (h-l) (m-l)) w:=by
 simp[Instr.sliceAt,Instr.slice,Sem.run_bind,run_underlying ht,hb,J0T hs,go_sem]
theorem J5I {P:Program} {t:TypeId} (ht:P.underlying t=some .string) {w:World} {b:ByteArray} {l h m:Nat} {low high:Option Value}
 (hb:(Instr.sliceBounds false b.size b.size low high none).run P w=.ok (l,h,m) w) :
 (Instr.sliceAt t (.string b) low high none).run P w=.ok (.string (b.extract l h)) w:=by
 simp[Instr.sliceAt,Instr.slice,Sem.run_bind,run_underlying ht,hb,go_sem]
theorem J42 {a b:Option Operand} (h:J6q a b=true) (ac:Act) {k k':IntKind} {n m:Nat} (h1:a.map ac.eval=some (.int k n)) (h2:b.map ac.eval=some (.int k' m)):n=m:=by
 unfold J6q at h;split at h
 . have:=Nat.eq_of_beq_eq_true h;subst this;rw[h1] at h2;simp at h2;omega
 . simp only[decide_eq_true_eq] at h;subst h;simp only[Option.map_some,Option.some.injEq,Act.eval] at h1 h2;cases h1;simp at h2;omega
 . cases h
theorem J5n {M:Nat->Prop} {w:World} {σ:Sg} {n s:Nat} {full:Bool} {f:Nat->Nat->V} {a:Option Addr} {c l h m:Nat} {full':Bool} (hd:Den M w σ (.fz n s full f) (.slice a n c)) (hl:l<=h) (hh:h<=n) (hm:h<=m)
 (hf:full'=true->m=h):Den M w σ (.fz (h-l) s full' (J0n l f)) (.slice (if m=l then a else a.map (·.add (l*s))) (h-l) (m-l)):=by
 rcases Nat.eq_zero_or_pos (h-l) with h0|h0
 . rw[h0];exact .fz0 _ _ _ _ _ _ (fun e=>by have:=hf e;omega)
 . cases hd with
   | fz0=>omega
   | fz _ _ _ _ _ b off c u hc hf' hM hb hcell h1 hd =>
     rw[if_neg (by omega)];simp only[Option.map_some,J07];refine .fz _ _ _ _ _ _ _ _ (fun i j=>u (l+i) j) (by omega) (fun e=>by have:=hf e;omega) hM hb ?_ (fun i j hi hj=>h1 _ _ (by omega) hj) (fun i j hi hj=>by rw[J1i];exact hd _ _ (by omega) hj);intro i j hi hj;rw[show off+l*s+(i*s+j)=off+((l+i)*s+j) by rw[Nat.add_mul];omega];exact hcell _ _ (by omega) hj
theorem Den.fz_inv {M:Nat->Prop} {w:World} {σ:Sg} {n s:Nat} {full:Bool} {f:Nat->Nat->V} {u:Value} (h:Den M w σ (.fz n s full f) u):∃a c,u=.slice a n c/\n<=c/\(full=true->c=n):=by
 cases h with
 | fz0 _ _ _ _ a c hf=>exact⟨a,c,rfl,by omega,hf⟩
 | fz _ _ _ _ _ b off c u hc hf=>exact⟨_,c,rfl,hc,hf⟩
theorem J4Y {P:Program} {t e:TypeId} {s:Nat} {x:Operand} {low high max:Option Operand} {x':X} {lo hi mx:Option X} (ht:P.underlying t=some (.slice e)) (hs:J11 P e=some s)
 (hx:cX x=some x') (hlo:cXo low=some lo) (hhi:cXo high=some hi) (hmx:cXo max=some mx) {own:Own} {env:Env} {K:V->Prop} (h:Q5r own s x' lo hi mx (J6q high max) env K) :
 ∃v,K v/\∀M w σ a,(∀y,y∈x'::(Xo lo++Xo hi++Xo mx)->XOk M w σ env a y)->(∀k b,look own k=some b->J00 M w σ k b) ->
  ∃u,(Instr.sliceAt t (a.eval x) (low.map a.eval) (high.map a.eval) (max.map a.eval)).run P w=.ok u w/\Den M w σ v u:=by
 have h0:=J0b hx h;clear h;obtain⟨p,h,hp⟩:=h0;have ok1:∀{M w σ a},(∀y,y∈x'::(Xo lo++Xo hi++Xo mx)->XOk M w σ env a y)->∀y,y∈Xo lo->XOk M w σ env a y:=fun ok y hy=>ok y (by simp[hy]);have ok2:∀{M w σ a},(∀y,y∈x'::(Xo lo++Xo hi++Xo mx)->XOk M w σ env a y)->∀y,y∈Xo hi->XOk M w σ env a y:=fun ok y hy=>ok y (by simp[hy]);have ok3:∀{M w σ a},(∀y,y∈x'::(Xo lo++Xo hi++Xo mx)->XOk M w σ env a y)->∀y,y∈Xo mx->XOk M w σ env a y:=fun ok y hy=>ok y (by simp[hy]);have omx:mx=none->max=none:=fun e=>by
  subst e;cases max with
  | none=>rfl
  | some o=>simp[cXo] at hmx
 have omx':∀z,mx=some z->max≠none:=fun z e h=>by
  rw[e,h] at hmx;simp[cXo] at hmx
 have ohi:∀z,hi=some z->high≠none:=fun z e h=>by
  rw[e,h] at hhi;simp[cXo] at hhi
 split at h
 . rename_i n s' full f;split at h
   . rename_i hb;have e:=Nat.eq_of_beq_eq_true hb;subst e;split at h
     . have hmax:=omx rfl;subst hmax;obtain⟨h1,h,f1⟩:=J0u hhi h;obtain⟨l1,h,f2⟩:=J0u hlo h;refine⟨_,h,fun M w σ a ok _=>?_⟩;obtain⟨ad,c,hq,hc,hfull⟩:=(hp M w σ a (ok _ (by simp))).fz_inv;have hd:=hp M w σ a (ok _ (by simp));rw[hq] at hd ⊢;have g1:=f1.ev (ok2 ok);have g2:=f2.ev (ok1 ok);have hh1:h1<=n:=by rcases g1 with ⟨_,g⟩ | ⟨_,_,g⟩<;>omega
       have hl1:l1<=h1:=by rcases g2 with ⟨_,g⟩ | ⟨_,_,g⟩<;>omega
       refine⟨_,J0Y ht hs (J05 (m:=c) (h:=h1) (l:=l1) (.inl ⟨rfl,rfl⟩) ?_ ?_),J5n hd hl1 hh1 (by omega) ?_⟩
       . rcases g1 with ⟨g,g'⟩ | ⟨k,g,g'⟩
         . subst g;exact .inl ⟨rfl,rfl,g'⟩
         . exact .inr ⟨k,g,by omega⟩
       . rcases g2 with ⟨g,g'⟩ | ⟨k,g,g'⟩
         . subst g;exact .inl ⟨rfl,g'⟩
         . exact .inr ⟨k,g,g'⟩
       . cases hi with
         | none =>
           intro hf;have hhn:high=none:=by
            cases high with
            | none=>rfl
            | some o=>simp[cXo] at hhi
           rcases g1 with ⟨_,g'⟩ | ⟨k,g,g'⟩
           . have:=hfull hf;omega
           . subst hhn;cases g
         | some z=>intro hf;cases hf
     . rename_i z;split at h
       . rename_i z2;obtain⟨m1,h,f0⟩:=J0u hmx h;obtain⟨h1,h,f1⟩:=J0u hhi h;obtain⟨l1,h,f2⟩:=J0u hlo h;refine⟨_,h,fun M w σ a ok _=>?_⟩;obtain⟨ad,c,hq,hc,hfull⟩:=(hp M w σ a (ok _ (by simp))).fz_inv;have hd:=hp M w σ a (ok _ (by simp));rw[hq] at hd ⊢;have g0:=f0.ev (ok3 ok);have g1:=f1.ev (ok2 ok);have g2:=f2.ev (ok1 ok);rcases g0 with ⟨g,_⟩ | ⟨k0,g0,b0⟩
         . exact(omx' z rfl g).elim
         rcases g1 with ⟨g,_⟩ | ⟨k1,g1,b1⟩
         . exact(ohi z2 rfl g).elim
         have hl1:l1<=h1:=by rcases g2 with ⟨_,g⟩ | ⟨_,_,g⟩<;>omega
         refine⟨_,J0Y ht hs (J05 (m:=m1) (h:=h1) (l:=l1) (.inr ⟨k0,g0,by omega⟩) (.inr ⟨k1,g1,b1⟩) ?_),J5n hd hl1 (by omega) b1 ?_⟩
         . rcases g2 with ⟨g,g'⟩ | ⟨k,g,g'⟩
           . subst g;exact .inl ⟨rfl,g'⟩
           . exact .inr ⟨k,g,g'⟩
         . intro hf;exact(J42 hf a g1 g0).symm
       . exact h.elim
   . exact h.elim
 . split at h
   . have hmax:=omx rfl;subst hmax;obtain⟨h1,h,f1⟩:=J0u hhi h;obtain⟨l1,h,f2⟩:=J0u hlo h;refine⟨_,h,fun M w σ a ok _=>?_⟩;have hd:=hp M w σ a (ok _ (by simp));generalize a.eval x=q at hd;cases hd;have g1:=f1.ev (ok2 ok);have g2:=f2.ev (ok1 ok);have hh1:h1=0:=by rcases g1 with ⟨_,g⟩ | ⟨_,_,g⟩<;>omega
     have hl1:l1=0:=by rcases g2 with ⟨_,g⟩ | ⟨_,_,g⟩<;>omega
     subst hh1 hl1;refine⟨_,J0Y ht hs (J05 (m:=0) (h:=0) (l:=0) (.inl ⟨rfl,rfl⟩) ?_ ?_),.nilslice _⟩
     . rcases g1 with ⟨g,g'⟩ | ⟨k,g,g'⟩
       . subst g;exact .inl ⟨rfl,rfl,g'⟩
       . exact .inr ⟨k,g,by omega⟩
     . rcases g2 with ⟨g,g'⟩ | ⟨k,g,g'⟩
       . subst g;exact .inl ⟨rfl,g'⟩
       . exact .inr ⟨k,g,g'⟩
   . rename_i z;split at h
     . rename_i z2;obtain⟨m1,h,f0⟩:=J0u hmx h;obtain⟨h1,h,f1⟩:=J0u hhi h;obtain⟨l1,h,f2⟩:=J0u hlo h;refine⟨_,h,fun M w σ a ok _=>?_⟩;have hd:=hp M w σ a (ok _ (by simp));generalize a.eval x=q at hd;cases hd;have g0:=f0.ev (ok3 ok);have g1:=f1.ev (ok2 ok);have g2:=f2.ev (ok1 ok);rcases g0 with ⟨g,_⟩ | ⟨k0,g0,b0⟩
       . exact(omx' z rfl g).elim
       rcases g1 with ⟨g,_⟩ | ⟨k1,g1,b1⟩
       . exact(ohi z2 rfl g).elim
       have hl1:l1=0:=by rcases g2 with ⟨_,g⟩ | ⟨_,_,g⟩<;>omega
       have hh1:h1=0:=by omega
       have hm1:m1=0:=by omega
       subst hh1 hl1 hm1;refine⟨_,J0Y ht hs (J05 (m:=0) (h:=0) (l:=0) (.inr ⟨k0,g0,by omega⟩) (.inr ⟨k1,g1,b1⟩) ?_),.nilslice _⟩;rcases g2 with ⟨g,g'⟩ | ⟨k,g,g'⟩
       . subst g;exact .inl ⟨rfl,g'⟩
       . exact .inr ⟨k,g,g'⟩
     . exact h.elim
 . rename_i k s' lo0 len;split at h
   . rename_i hb;have e:=Nat.eq_of_beq_eq_true hb;subst e;have sub:∀(lim h1 l1:Nat),max=none->BdF env high hi len lim h1->BdF env low lo 0 h1 l1->(∀M w σ,(∀k b,look own k=some b->J00 M w σ k b)->∀bo base κ,σ k=some (bo,base,κ)->lim<=κ-lo0) ->
      ∀M w σ a,(∀y,y∈x'::(Xo lo++Xo hi++Xo mx)->XOk M w σ env a y)->(∀k b,look own k=some b->J00 M w σ k b) ->
      ∃u,(Instr.sliceAt t (a.eval x) (low.map a.eval) (high.map a.eval) (max.map a.eval)).run P w=.ok u w/\Den M w σ (.vec k s (lo0+l1) (h1-l1)) u:=by
      intro lim h1 l1 hmax f1 f2 hlim M w σ a ok ho;subst hmax;have hd:=hp M w σ a (ok _ (by simp));generalize a.eval x=q at hd;cases hd with
      | vec _ _ _ _ _ bo base κ c ad hk hc hl ha =>
        have g1:=f1.ev (ok2 ok);have g2:=f2.ev (ok1 ok);have hlim':=hlim M w σ ho bo base κ hk;have hh1:h1<=c:=by rcases g1 with ⟨_,g⟩ | ⟨_,_,g⟩<;>omega
        have hl1:l1<=h1:=by rcases g2 with ⟨_,g⟩ | ⟨_,_,g⟩<;>omega
        refine⟨_,J0Y ht hs (J05 (m:=c) (h:=h1) (l:=l1) (.inl ⟨rfl,rfl⟩) ?_ ?_),.vec _ _ _ _ _ _ _ _ _ _ hk (by omega) (by omega) ?_⟩
        . rcases g1 with ⟨g,g'⟩ | ⟨k,g,g'⟩
          . subst g;exact .inl ⟨rfl,rfl,g'⟩
          . exact .inr ⟨k,g,by omega⟩
        . rcases g2 with ⟨g,g'⟩ | ⟨k,g,g'⟩
          . subst g;exact .inl ⟨rfl,g'⟩
          . exact .inr ⟨k,g,g'⟩
        . intro hpos;obtain⟨b,hb1,hb2⟩:=ha (by omega);refine⟨b,hb1,?_⟩;rw[if_neg (by omega),hb2];simp only[Option.map_some,J07];rw[Nat.add_mul,Nat.add_assoc]
     split at h
     . have hmax:=omx rfl;split at h
       . rename_i n s2 f2 hlook;by_cases hin:Nat.ble (lo0+len) n=true
         . have hin':=Nat.le_of_ble_eq_true hin;obtain⟨h1,h,f1⟩:=J0u hhi (h.1 hin);obtain⟨l1,h,f2⟩:=J0u hlo h;refine⟨_,h,sub (n-lo0) h1 l1 hmax f1 f2 ?_⟩;intro M w σ ho bo base κ hk;obtain⟨bo',base',κ',s1,s2,_⟩:=ho k _ hlook;rw[s1] at hk;cases hk;omega
         . exact(h.2 (by cases hq:Nat.ble (lo0+len) n;rfl;exact(hin hq).elim)).elim
       . obtain⟨h1,h,f1⟩:=J0u hhi h;obtain⟨l1,h,f2⟩:=J0u hlo h;refine⟨_,h,fun M w σ a ok ho=>?_⟩;have hd:=hp M w σ a (ok _ (by simp));have hlen:∀bo base κ,σ k=some (bo,base,κ)->len<=κ-lo0:=by
          intro bo base κ hk;generalize a.eval x=q at hd;cases hd with
          | vec _ _ _ _ _ bo' base' κ' c ad hk' hc hl ha =>
            rw[hk] at hk';cases hk';omega
         subst hmax;generalize a.eval x=q at hd;cases hd with
         | vec _ _ _ _ _ bo base κ c ad hk hc hl ha =>
           have g1:=f1.ev (ok2 ok);have g2:=f2.ev (ok1 ok);have hh1:h1<=c:=by rcases g1 with ⟨_,g⟩ | ⟨_,_,g⟩<;>omega
           have hl1:l1<=h1:=by rcases g2 with ⟨_,g⟩ | ⟨_,_,g⟩<;>omega
           refine⟨_,J0Y ht hs (J05 (m:=c) (h:=h1) (l:=l1) (.inl ⟨rfl,rfl⟩) ?_ ?_),.vec _ _ _ _ _ _ _ _ _ _ hk (by omega) (by omega) ?_⟩
           . rcases g1 with ⟨g,g'⟩ | ⟨k,g,g'⟩
             . subst g;exact .inl ⟨rfl,rfl,g'⟩
             . exact .inr ⟨k,g,by omega⟩
           . rcases g2 with ⟨g,g'⟩ | ⟨k,g,g'⟩
             . subst g;exact .inl ⟨rfl,g'⟩
             . exact .inr ⟨k,g,g'⟩
           . intro hpos;obtain⟨b,hb1,hb2⟩:=ha (by omega);refine⟨b,hb1,?_⟩;rw[if_neg (by omega),hb2];simp only[Option.map_some,J07];rw[Nat.add_mul,Nat.add_assoc]
     . rename_i z;split at h
       . rename_i z2;obtain⟨m1,h,f0⟩:=J0u hmx h;obtain⟨h1,h,f1⟩:=J0u hhi h;obtain⟨l1,h,f2⟩:=J0u hlo h;have run:∀M w σ a,(∀y,y∈x'::(Xo lo++Xo (some z2)++Xo (some z))->XOk M w σ env a y)->∃ad k0 k1,max.map a.eval=some (.int k0 m1)/\high.map a.eval=some (.int k1 h1) /\
          (Instr.sliceAt t (a.eval x) (low.map a.eval) (high.map a.eval) (max.map a.eval)).run P w=.ok (.slice ad (h1-l1) (m1-l1)) w:=by
          intro M w σ a ok;have hd:=hp M w σ a (ok _ (by simp));generalize a.eval x=q at hd;cases hd with
          | vec _ _ _ _ _ bo base κ c ad hk hc hl ha =>
            have g0:=f0.ev (ok3 ok);have g1:=f1.ev (ok2 ok);have g2:=f2.ev (ok1 ok);rcases g0 with ⟨g,_⟩ | ⟨k0,g0,b0⟩
            . exact(omx' z rfl g).elim
            rcases g1 with ⟨g,_⟩ | ⟨k1,g1,b1⟩
            . exact(ohi z2 rfl g).elim
            refine⟨_,k0,k1,g0,g1,J0Y ht hs (J05 (m:=m1) (h:=h1) (l:=l1) (.inr ⟨k0,g0,by omega⟩) (.inr ⟨k1,g1,b1⟩) ?_)⟩;rcases g2 with ⟨g,g'⟩ | ⟨k,g,g'⟩
            . subst g;exact .inl ⟨rfl,g'⟩
            . exact .inr ⟨k,g,g'⟩
         split at h
         . rename_i hsame;split at h
           . rename_i h0;refine⟨_,h,fun M w σ a ok _=>?_⟩;obtain⟨ad,k0,k1,e1,e2,hr⟩:=run M w σ a ok;have:=J42 hsame a e2 e1;subst this;rw[h0] at hr;exact⟨_,hr,.fz0 _ _ _ _ _ _ (fun _=>rfl)⟩
           . refine⟨_,h,fun M w σ a ok _=>?_⟩;obtain⟨ad,k0,k1,e1,e2,hr⟩:=run M w σ a ok;exact⟨_,hr,.top _ _⟩
         . refine⟨_,h,fun M w σ a ok _=>?_⟩;obtain⟨ad,k0,k1,e1,e2,hr⟩:=run M w σ a ok;exact⟨_,hr,.top _ _⟩
       . exact h.elim
   . exact h.elim
 . exact h.elim
theorem J20 {env:Env}:∀{os:List Operand} {xs:List X} {K:List V->Prop},cXs os=some xs->X.gets env xs K ->
 ∃vs,K vs/\vs.length=os.length/\∀M w σ (a:Act),(∀x,x∈xs->XOk M w σ env a x)->∀(i:Nat) (v:V) (u:Value),vs[i]?=some v->(os.map a.eval)[i]?=some u->Den M w σ v u
 | [],xs,K,hc,h=>by
   simp[cXs] at hc;subst hc;exact⟨[],h,rfl,fun _ _ _ _ _=>by simp⟩
 | o::os,xs,K,hc,h=>by
   unfold cXs at hc;split at hc<;>simp only[Option.some.injEq,reduceCtorEq] at hc;rename_i x xs' h1 h2;subst hc;obtain⟨v,h,hv⟩:=J0b h1 h;obtain⟨vs,hK,hl,hvs⟩:=J20 h2 h;refine⟨_,hK,by simp[hl],?_⟩;intro M w σ a hx i v' u' hv' hu';cases i with
   | zero=>simp at hv' hu';subst hv' hu';exact hv M w σ a (hx x (by simp))
   | succ i=>exact hvs M w σ a (fun y hy=>hx y (by simp[hy])) i v' u' (by simpa using hv') (by simpa using hu')
theorem J67 {P:Program} {o:Oper} {po:POp} (hc:J53 P o.op=some po) {env:Env} {K:V->Prop} (h:Q22 po env K) :
 ∃v,K v/\J4V P o po.xs env v:=by
 obtain⟨dst,op,type,pos,after,guard⟩:=o;simp only at hc;cases op<;>simp only[J53,Option.map_eq_some_iff,reduceCtorEq] at hc
 case move x =>
  obtain⟨x',hx,rfl⟩:=hc;obtain⟨v,hK,hv⟩:=J0b hx h;exact⟨v,hK,fun M w σ a ok=>⟨_,rfl,hv M w σ a (ok _ (by simp[POp.xs]))⟩⟩
 case assign x =>
  obtain⟨x',hx,rfl⟩:=hc;obtain⟨v,hK,hv⟩:=J0b hx h;exact⟨v,hK,fun M w σ a ok=>⟨_,rfl,hv M w σ a (ok _ (by simp[POp.xs]))⟩⟩
 case pick c x y =>
  split at hc<;>simp only[Option.some.injEq,reduceCtorEq] at hc;rename_i c' x' y' h1 h2 h3;subst hc;obtain⟨vc,hc1,hc2⟩:=J0b h1 h;split at hc1
  . split at hc1
    . obtain⟨v,hK,hv⟩:=J0b h2 hc1;refine⟨v,hK,fun M w σ a ok=>⟨_,?_,hv M w σ a (ok _ (by simp[POp.xs]))⟩⟩;have:=hc2 M w σ a (ok _ (by simp[POp.xs]));generalize hq:a.eval c=q at this;cases this;simp[execOp,hq,asBool,Sem.run_pure]
    . obtain⟨v,hK,hv⟩:=J0b h3 hc1;refine⟨v,hK,fun M w σ a ok=>⟨_,?_,hv M w σ a (ok _ (by simp[POp.xs]))⟩⟩;have:=hc2 M w σ a (ok _ (by simp[POp.xs]));generalize hq:a.eval c=q at this;cases this;simp[execOp,hq,asBool,Sem.run_pure]
  . exact hc1.elim
 case nilCheck x =>
  obtain⟨x',hx,rfl⟩:=hc;obtain⟨v,hK,hv⟩:=J0b hx h;split at hK
  all_goals first
   | exact hK.elim
   | (refine⟨_,hK,fun M w σ a ok=>?_⟩
      have:=hv M w σ a (ok _ (by simp[POp.xs]));generalize hq:a.eval x=q at this;refine⟨q,?_,this⟩;cases this<;>simp[execOp,hq,Sem.run_pure])
 case binOp op T x y yT =>
  split at hc<;>simp only[Option.some.injEq,reduceCtorEq] at hc;rename_i x' y' h1 h2;subst hc;obtain⟨vx,hx1,hx2⟩:=J0b h1 h;obtain⟨vy,hy1,hy2⟩:=J0b h2 hx1;obtain⟨v,hK,hr⟩:=J8u hy1;refine⟨v,hK,fun M w σ a ok=>?_⟩;obtain⟨u,hu,hd⟩:=hr M w σ x y _ _ (hx2 M w σ a (ok _ (by simp[POp.xs]))) (hy2 M w σ a (ok _ (by simp[POp.xs])));refine⟨u,?_,hd⟩;exact J0S hu
 case unOp op T x =>
  obtain⟨x',hx,rfl⟩:=hc;obtain⟨v,hK,hv⟩:=J0b hx h;have fin:∀(r:V) (q:Value->Value),K r->(∀M w σ u,Den M w σ v u->∃u',(Op.unary op u).run P w=.ok u' w/\Den M w σ r u')->∃v,K v/\J4V P ⟨dst,.unOp op T x,type,pos,after,guard⟩ (POp.xs (.un op x')) env v:=by
   intro r _ hr hq;refine⟨r,hr,fun M w σ a ok=>?_⟩;obtain⟨u',h1,h2⟩:=hq M w σ _ (hv M w σ a (ok _ (by simp[POp.xs])));refine⟨u',?_,h2⟩;exact J0S h1
  split at hK
  . split at hK
    . exact fin _ id hK (fun M w σ u hd=>by cases hd;exact⟨_,rfl,.bool _ _⟩)
    . exact fin _ id hK (fun M w σ u hd=>by cases hd;exact⟨_,rfl,.bool _ _⟩)
  . obtain⟨m,hm,hK⟩:=hK;subst hm;exact fin _ id hK (fun M w σ u hd=>by cases hd;exact⟨_,rfl,.int _ _ _⟩)
  . obtain⟨m,hm,hK⟩:=hK;subst hm;exact fin _ id hK (fun M w σ u hd=>by cases hd;exact⟨_,rfl,.int _ _ _⟩)
  . exact hK.elim
 case convert src dstT x =>
  split at hc<;>simp only[Option.some.injEq,reduceCtorEq] at hc;rename_i k0 k x' h1 h2 h3;subst hc;obtain⟨v,hK,hv⟩:=J0b h3 h;split at hK
  . obtain⟨m,hm,hK⟩:=hK;subst hm;refine⟨_,hK,fun M w σ a ok=>⟨_,?_,.int _ _ _⟩⟩;have:=hv M w σ a (ok _ (by simp[POp.xs]));generalize hq:a.eval x=q at this;cases this;refine J0S (s:=convert src dstT (a.eval x)) ?_;rw[hq];simp[convert,Sem.run_bind,run_underlying h1,run_underlying h2,Conv.intToInt,Sem.run_pure]
  . exact hK.elim
 case fieldAddr S x f =>
  split at hc
  . rename_i fs x' h1 h2;split at hc
    . rename_i fd hf;split at hc<;>simp only[Option.some.injEq,reduceCtorEq] at hc;rename_i nn hs;subst hc;obtain⟨v,hK,hv⟩:=J0b h2 h;have run:∀(a:Act) (w:World) (b off:Nat),a.eval x=.pointer (some ⟨b,off,none⟩) ->
       (execOp a.eval ⟨dst,.fieldAddr S x f,type,pos,after,guard⟩).run P w=.ok (.value (.pointer (some ⟨b,off+fd.offset,none⟩))) w:=by
       intro a w b off he;refine J0S (s:=Instr.fieldAt S (a.eval x) f) ?_;rw[he];simp[Instr.fieldAt,Sem.run_bind,run_underlying h1,hf,Instr.sureAddr,fieldPlace,J0T hs,J07,go_sem]
      split at hK
      . refine⟨_,hK,fun M w σ a ok=>?_⟩;have:=hv M w σ a (ok _ (by simp[POp.xs]));generalize hq:a.eval x=q at this;cases this with
        | loc _ _ _ b base κ hk=>exact⟨_,run a w _ _ hq,by rw[Nat.add_assoc];exact .loc _ _ _ _ _ _ hk⟩
      . refine⟨_,hK,fun M w σ a ok=>?_⟩;have:=hv M w σ a (ok _ (by simp[POp.xs]));generalize hq:a.eval x=q at this;cases this with
        | oel _ _ s i j b base κ hk=>exact⟨_,run a w _ _ hq,by rw[Nat.add_assoc,Nat.add_assoc];exact .oel _ _ _ _ _ _ _ _ hk⟩
      . refine⟨_,hK,fun M w σ a ok=>?_⟩;have:=hv M w σ a (ok _ (by simp[POp.xs]));generalize hq:a.eval x=q at this;cases this with
        | fe _ n s f i j b off u hi hM hb hcell h1 hd=>exact⟨_,run a w _ _ hq,by rw[Nat.add_assoc,Nat.add_assoc];exact .fe _ _ _ _ _ _ _ _ u hi hM hb hcell h1 hd⟩
      . exact hK.elim
    . cases hc
  . cases hc
 case field S x f =>
  split at hc
  . rename_i fs x' h1 h2;split at hc
    . rename_i fd hf;simp only[Option.map_eq_some_iff] at hc;obtain⟨z,hz,rfl⟩:=hc;obtain⟨v,hK,hv⟩:=J0b h2 h;split at hK
      . rename_i cs;have run:∀(a:Act) (w:World) (us:List Value) (u:Value),a.eval x=.agg us.toArray->(part fd.type us.toArray fd.offset).run P w=.ok u w ->
         (execOp a.eval ⟨dst,.field S x f,type,pos,after,guard⟩).run P w=.ok (.value u) w:=by
         intro a w us u he hp;refine J0S (s:=Instr.field S (a.eval x) f) ?_;rw[he];simp only[Instr.field,Sem.run_bind,run_underlying h1,Result.andThen_ok,hf,asAgg];simpa[Sem.run_bind,Sem.run_pure] using hp
        unfold J2o at hz;split at hz
        . rename_i hag;simp only[Option.map_eq_some_iff] at hz;obtain⟨n,hn,rfl⟩:=hz;simp only at hK;obtain⟨r,hr1,hr2,hr3,hr4⟩:=J2g _ _ _ _ hK;refine⟨_,hr1,fun M w σ a ok=>?_⟩;obtain⟨us,e1,e2,e3⟩:=(hv M w σ a (ok _ (by simp[POp.xs]))).agg_inv;refine⟨_,run a w us _ e1 (J6t hag hn w),?_⟩;have hx:(us.toArray.extract fd.offset (fd.offset+n))=((us.drop fd.offset).take n).toArray:=by
           apply Array.ext';simp[List.extract_eq_take_drop]
          rw[hx];refine .agg _ _ _ ?_ ?_
          . rw[hr2,List.length_take,List.length_drop];rcases Nat.eq_zero_or_pos n with e|e
            . omega
            . have:=hr3 e;omega
          . intro i v' u' hv' hu';have hi:i<n:=by rw[<- hr2];exact(List.getElem?_eq_some_iff.1 hv').1
            rw[hr4 i hi] at hv';rw[List.getElem?_take,if_pos hi,List.getElem?_drop] at hu';exact e3 _ _ _ hv' hu'
        . rename_i hag;simp only[Option.some.injEq] at hz;subst hz;simp only at hK;split at hK
          . rename_i v' hn;rw[J7X] at hn;refine⟨_,hK,fun M w σ a ok=>?_⟩;obtain⟨us,e1,e2,e3⟩:=(hv M w σ a (ok _ (by simp[POp.xs]))).agg_inv;have hlt:fd.offset<us.length:=by rw[<- e2];exact(List.getElem?_eq_some_iff.1 hn).1
            exact⟨us[fd.offset],run a w us _ e1 (J0M hag (by simp[hlt]) w),e3 _ _ _ hn (by simp[hlt])⟩
          . exact hK.elim
        . cases hz
      . exact hK.elim
    . cases hc
  . cases hc
 case indexAddr T x i =>
  split at hc
  . rename_i e x' i' h1 h2 h3;simp only[Option.map_eq_some_iff] at hc;obtain⟨s,hs,rfl⟩:=hc;obtain⟨v,hK0,hv⟩:=J0b h2 h;obtain⟨vi,hK,hvi⟩:=J0b h3 hK0;clear hK0;have run:∀(a:Act) (w:World) (b off len c m:Nat) (k:IntKind),a.eval x=.slice (some ⟨b,off,none⟩) len c->a.eval i=.int k m->m<len ->
     (execOp a.eval ⟨dst,.indexAddr T x i,type,pos,after,guard⟩).run P w=.ok (.value (.pointer (some ⟨b,off+m*s,none⟩))) w:=by
     intro a w b off len c m k he hi hm;refine J0S (s:=Instr.indexAt T (a.eval x) (a.eval i)) ?_;rw[he,hi];have h0:(0:Int)<=m/\(m:Int)<len:=by omega
     simp[Instr.indexAt,asIntOf,Sem.run_bind,run_underlying h1,J0T hs,J07,h0,go_sem];intro hcon;omega
    split at hK
    . rename_i n s' full f k idx;split at hK
      . rename_i hss;obtain⟨m,hm1,hm2,hK⟩:=hK;have hs2:s=s':=by simpa using hss
        subst hs2;refine⟨_,hK,fun M w σ a ok=>?_⟩;have d1:=hv M w σ a (ok _ (by simp[POp.xs]));have d2:=hvi M w σ a (ok _ (by simp[POp.xs]));generalize hq:a.eval x=q at d1;generalize hq2:a.eval i=q2 at d2;cases d2;subst hm1;cases d1 with
        | fz0=>omega
        | fz _ _ _ _ _ b off c u hc hf hM hb hcell h1 hd =>
          exact⟨_,run a w b off n c m k hq hq2 hm2,.fe _ _ _ _ _ _ _ _ u hm2 hM hb hcell h1 hd⟩
      . exact hK.elim
    . rename_i kk s' lo len k idx;split at hK
      . rename_i hss;obtain⟨m,hm1,hm2,hK⟩:=hK;have hs2:s=s':=by simpa using hss
        subst hs2;refine⟨_,hK,fun M w σ a ok=>?_⟩;have d1:=hv M w σ a (ok _ (by simp[POp.xs]));have d2:=hvi M w σ a (ok _ (by simp[POp.xs]));generalize hq:a.eval x=q at d1;generalize hq2:a.eval i=q2 at d2;cases d2;subst hm1;cases d1 with
        | vec _ _ _ _ _ bo base κ c ad hk hc hl ha =>
          obtain⟨b,hb1,hb2⟩:=ha (by omega);subst hb1 hb2;refine⟨_,run a w b _ len c m k hq hq2 hm2,?_⟩;rw[show base+lo*s+m*s=base+((lo+m)*s+0) by rw[Nat.add_mul];omega];exact .oel _ _ _ _ _ _ _ _ hk
      . exact hK.elim
    . exact hK.elim
  . rename_i n e x' i' h1 h2 h3;simp only[Option.map_eq_some_iff] at hc;obtain⟨s,hs,rfl⟩:=hc;obtain⟨v,hK0,hv⟩:=J0b h2 h;obtain⟨vi,hK,hvi⟩:=J0b h3 hK0;clear hK0;have run:∀(a:Act) (w:World) (b off m:Nat) (k:IntKind),a.eval x=.pointer (some ⟨b,off,none⟩)->a.eval i=.int k m->m<n ->
     (execOp a.eval ⟨dst,.indexAddr T x i,type,pos,after,guard⟩).run P w=.ok (.value (.pointer (some ⟨b,off+m*s,none⟩))) w:=by
     intro a w b off m k he hi hm;refine J0S (s:=Instr.indexAt T (a.eval x) (a.eval i)) ?_;rw[he,hi];have h0:(0:Int)<=m/\(m:Int)<n:=by omega
     simp[Instr.indexAt,asIntOf,Sem.run_bind,run_underlying h1,J0T hs,J07,h0,go_sem,Instr.sureAddr];intro hcon;omega
    split at hK
    . rename_i kk o k idx;obtain⟨m,hm1,hm2,hK⟩:=hK;refine⟨_,hK,fun M w σ a ok=>?_⟩;have d1:=hv M w σ a (ok _ (by simp[POp.xs]));have d2:=hvi M w σ a (ok _ (by simp[POp.xs]));generalize hq:a.eval x=q at d1;generalize hq2:a.eval i=q2 at d2;cases d2;subst hm1;cases d1 with
      | loc _ _ _ b base κ hk=>exact⟨_,run a w b _ m k hq hq2 hm2,by rw[Nat.add_assoc];exact .loc _ _ _ _ _ _ hk⟩
    . rename_i n' s' f i0 j0 k idx;obtain⟨m,hm1,hm2,hK⟩:=hK;refine⟨_,hK,fun M w σ a ok=>?_⟩;have d1:=hv M w σ a (ok _ (by simp[POp.xs]));have d2:=hvi M w σ a (ok _ (by simp[POp.xs]));generalize hq:a.eval x=q at d1;generalize hq2:a.eval i=q2 at d2;cases d2;subst hm1;cases d1 with
      | fe _ _ _ _ _ _ b off u hi hM hb hcell h1 hd=>exact⟨_,run a w b _ m k hq hq2 hm2,by rw[Nat.add_assoc,Nat.add_assoc];exact .fe _ _ _ _ _ _ _ _ u hi hM hb hcell h1 hd⟩
    . rename_i kk s' i0 j0 k idx;split at hK
      . rename_i hss;obtain⟨m,hm1,hm2,hK⟩:=hK;have hs2:s=s':=by simpa using hss
        subst hs2;refine⟨_,hK,fun M w σ a ok=>?_⟩;have d1:=hv M w σ a (ok _ (by simp[POp.xs]));have d2:=hvi M w σ a (ok _ (by simp[POp.xs]));generalize hq:a.eval x=q at d1;generalize hq2:a.eval i=q2 at d2;cases d2;subst hm1;cases d1 with
        | oel _ _ _ _ _ b base κ hk =>
          refine⟨_,run a w b _ m k hq hq2 hm2,?_⟩;rw[show base+(0*s+0)+m*s=base+(m*s+0) by omega];exact .oel _ _ _ _ _ _ _ _ hk
      . obtain⟨m,hm1,hm2,hK⟩:=hK;refine⟨_,hK,fun M w σ a ok=>?_⟩;have d1:=hv M w σ a (ok _ (by simp[POp.xs]));have d2:=hvi M w σ a (ok _ (by simp[POp.xs]));generalize hq:a.eval x=q at d1;generalize hq2:a.eval i=q2 at d2;cases d2;subst hm1;cases d1 with
        | oel _ _ _ _ _ b base κ hk =>
          refine⟨_,run a w b _ m k hq hq2 hm2,?_⟩;have e:∀p q r t:Nat,p+(q+r)+t=p+(q+(r+t)):=by intros;omega
          rw[e];exact .oel _ _ _ _ _ _ _ _ hk
    . exact hK.elim
  . cases hc
 case extract x i =>
  obtain⟨x',hx,rfl⟩:=hc;obtain⟨v,hK,hv⟩:=J0b hx h;split at hK
  . split at hK
    . rename_i v' hn;rw[J7X] at hn;refine⟨_,hK,fun M w σ a ok=>?_⟩;have d:=hv M w σ a (ok _ (by simp[POp.xs]));generalize hq:a.eval x=q at d;cases d with
      | tup _ _ us hl hd =>
        have hlt:i<us.length:=by rw[<- hl];exact(List.getElem?_eq_some_iff.1 hn).1
        refine⟨us[i],?_,hd _ _ _ hn (by simp[hlt])⟩;refine J0S (s:=Instr.extract (a.eval x) i) ?_;rw[hq];simp[Instr.extract,hlt,Sem.run_pure]
    . exact hK.elim
  . exact hK.elim
 case slice T x low high max =>
  unfold Q5N at hc;split at hc
  . rename_i e x' lo hi mx h1 h2 h3 h4 h5;simp only[Option.map_eq_some_iff] at hc;obtain⟨s,hs,rfl⟩:=hc;simp only[Q22] at h;obtain⟨v,hK,hr⟩:=J4Y h1 hs h2 h3 h4 h5 h;refine⟨v,hK,fun M w σ a ok=>?_⟩;obtain⟨u,u1,u2⟩:=hr M w σ a ok (fun k b hb=>by simp[look] at hb);exact⟨u,J0S u1,u2⟩
  . rename_i x' lo hi h1 h2 h3 h4 h5;cases hc;have hmax:max=none:=by
     cases max with
     | none=>rfl
     | some o=>simp[cXo] at h5
    subst hmax;have h0:=J0b h2 h;clear h;obtain⟨p,h,hp⟩:=h0;split at h
    . rename_i b;obtain⟨hh,h,f1⟩:=J0u h4 h;obtain⟨ll,h,f2⟩:=J0u h3 h;refine⟨_,h,fun M w σ a ok=>⟨_,?_,.str _ _⟩⟩;have hd:=hp M w σ a (ok _ (by simp[POp.xs]));refine J0S (s:=Instr.sliceAt T (a.eval x) (low.map a.eval) (high.map a.eval) none) ?_;generalize a.eval x=q at hd;cases hd;have g1:=f1.ev (M:=M) (w:=w) (σ:=σ) (a:=a) (fun y hy=>ok y (by simp[POp.xs,hy]));have g2:=f2.ev (M:=M) (w:=w) (σ:=σ) (a:=a) (fun y hy=>ok y (by simp[POp.xs,hy]));refine J5I h1 (J05 (m:=b.size) (.inl ⟨rfl,rfl⟩) ?_ ?_)
      . rcases g1 with ⟨g,g'⟩ | ⟨k,g,g'⟩
        . subst g;exact .inl ⟨rfl,rfl,g'⟩
        . exact .inr ⟨k,g,by omega⟩
      . rcases g2 with ⟨g,g'⟩ | ⟨k,g,g'⟩
        . subst g;exact .inl ⟨rfl,g'⟩
        . exact .inr ⟨k,g,g'⟩
    . exact h.elim
  . cases hc
 case index T x i =>
  split at hc<;>simp only[Option.some.injEq,reduceCtorEq] at hc;rename_i x' i' h1 h2 h3;subst hc;have h0:=J0b h2 h;clear h;obtain⟨p,h,hp⟩:=h0;have h0:=J0b h3 h;clear h;obtain⟨vi,h,hi⟩:=h0;split at h
  . rename_i b k n;obtain⟨m,rfl,hm,hK⟩:=h;refine⟨_,hK,fun M w σ a ok=>⟨_,?_,.int _ _ _⟩⟩;have d1:=hp M w σ a (ok _ (by simp[POp.xs]));have d2:=hi M w σ a (ok _ (by simp[POp.xs]));refine J0S (s:=Instr.index T (a.eval x) (a.eval i)) ?_;generalize a.eval x=q at d1;generalize a.eval i=q2 at d2;cases d1;cases d2;have hg:b[m]?=some (b.get! m):=by
     rw[getElem?_pos b m hm];have:b.get! m=b[m]:=by
      obtain⟨d⟩:=b;exact getElem!_pos d m hm
     rw[this]
    simp[Instr.index,asIntOf,Sem.run_bind,run_underlying h1,hg,go_sem]
  . exact h.elim
 case makeFunc f first captured =>
  split at hc
  . rename_i hf;simp only[Option.map_eq_some_iff] at hc;obtain⟨xs,hxs,rfl⟩:=hc;obtain⟨vs,hK,hl,hvs⟩:=J20 hxs h;refine⟨_,hK,fun M w σ a ok=>?_⟩;have hcap:captured.map a.eval=(captured.toList.map a.eval).toArray:=by
     apply Array.ext';simp
    have hfirst:first.map a.eval=#[]:=by
     apply Array.ext';simp[hf]
    refine⟨.func f #[] (captured.toList.map a.eval).toArray,J0S (s:=Instr.makeFunc f (first.map a.eval) (captured.map a.eval)) ?_,.fn _ _ false _ _ (by simpa using hl) (hvs M w σ a ok)⟩;rw[hcap,hfirst];rfl
  . split at hc
    . rename_i hf;simp only[Option.map_eq_some_iff] at hc;obtain⟨xs,hxs,rfl⟩:=hc;obtain⟨vs,hK,hl,hvs⟩:=J20 hxs h;refine⟨_,hK,fun M w σ a ok=>?_⟩;have hcap:first.map a.eval=(first.toList.map a.eval).toArray:=by
       apply Array.ext';simp
      have hfirst:captured.map a.eval=#[]:=by
       apply Array.ext';simp[hf]
      refine⟨.func f (first.toList.map a.eval).toArray #[],J0S (s:=Instr.makeFunc f (first.map a.eval) (captured.map a.eval)) ?_,.fn _ _ true _ _ (by simpa using hl) (hvs M w σ a ok)⟩;rw[hcap,hfirst];rfl
    . cases hc
 case call c =>
  obtain⟨callee,args,ats⟩:=c;cases callee with
  | value f=>simp at hc
  | invoke r m=>simp at hc
  | builtin b =>
    cases b<;>simp only[reduceCtorEq] at hc
    case len =>
     split at hc
     . rename_i x t hargs hats;have run:∀(a:Act) (w:World) (u:Value),(Builtin.len_ ats type #[a.eval x]).run P w=.ok u w ->
        (execOp a.eval ⟨dst,.call ⟨.builtin .len,args,ats⟩,type,pos,after,guard⟩).run P w=.ok (.value u) w:=by
        intro a w u hu;have hargs':args.map a.eval=#[a.eval x]:=by
         apply Array.ext';simp[hargs]
        show((pure { target:=Target.builtin .len ats type (args.map fun | .const _=>true|_=>false),args:=args.map a.eval }:Sem Deferred) >>= fun d=>invoke d.target d.args).run P w=_;rw[Sem.run_bind,hargs'];exact J0S hu
       have hats':ats[0]?=some t:=by
        rw[<- Array.getElem?_toList,hats];rfl
       have fin:∀{x':X} {v r:V},cX x=some x'->(∀M w σ a,XOk M w σ env a x'->Den M w σ v (a.eval x))->K r ->
        (∀M w σ u,Den M w σ v u->∃u',(Builtin.len_ ats type #[u]).run P w=.ok u' w/\Den M w σ r u')->∃v,K v/\J4V P ⟨dst,.call ⟨.builtin .len,args,ats⟩,type,pos,after,guard⟩ [x'] env v:=by
        intro x' v r hx hv hr hq;refine⟨r,hr,fun M w σ a ok=>?_⟩;obtain⟨u',h1,h2⟩:=hq M w σ _ (hv M w σ a (ok _ (by simp)));exact⟨u',run a w u' h1,h2⟩
       split at hc<;>simp only[Option.some.injEq,reduceCtorEq] at hc
       . rename_i e x' hu hx;subst hc;obtain⟨v,hK,hv⟩:=J0b hx h;split at hK
         . refine fin hx hv hK (fun M w σ u hd=>?_);cases hd<;>exact⟨_,by simp[Builtin.len_,hats',Sem.run_bind,run_underlying hu,goInt,go_sem],.int _ _ _⟩
         . refine fin hx hv hK (fun M w σ u hd=>?_);cases hd;exact⟨_,by simp[Builtin.len_,hats',Sem.run_bind,run_underlying hu,goInt,go_sem],.int _ _ _⟩
         . refine fin hx hv hK (fun M w σ u hd=>?_);cases hd;exact⟨_,by simp[Builtin.len_,hats',Sem.run_bind,run_underlying hu,goInt,go_sem],.int _ _ _⟩
         . exact hK.elim
       . rename_i x' hu hx;subst hc;obtain⟨v,hK,hv⟩:=J0b hx h;split at hK
         . refine fin hx hv hK (fun M w σ u hd=>?_);cases hd;exact⟨_,by simp[Builtin.len_,hats',Sem.run_bind,run_underlying hu,goInt,go_sem],.int _ _ _⟩
         . exact hK.elim
     . cases hc
    case max =>
     split at hc
     . rename_i x y hargs;split at hc<;>simp only[Option.some.injEq,reduceCtorEq] at hc;rename_i x' y' hx hy;subst hc;obtain⟨v,hK,hv⟩:=J0b hx h;obtain⟨v2,hK,hv2⟩:=J0b hy hK;split at hK
       . obtain⟨m,hm,hK⟩:=hK;subst hm;refine⟨_,hK,fun M w σ a ok=>⟨_,?_,.int _ _ _⟩⟩;have d1:=hv M w σ a (ok _ (by simp[POp.xs]));have d2:=hv2 M w σ a (ok _ (by simp[POp.xs]));generalize hq:a.eval x=q at d1;generalize hq2:a.eval y=q2 at d2;cases d1;cases d2;have hargs':args.map a.eval=#[a.eval x,a.eval y]:=by
          apply Array.ext';simp[hargs]
         show((pure { target:=Target.builtin .max ats type (args.map fun | .const _=>true|_=>false),args:=args.map a.eval }:Sem Deferred) >>= fun d=>invoke d.target d.args).run P w=_;rw[Sem.run_bind,hargs',hq,hq2];exact J0S rfl
       . exact hK.elim
     . cases hc
    case min =>
     split at hc
     . rename_i x y hargs;split at hc<;>simp only[Option.some.injEq,reduceCtorEq] at hc;rename_i x' y' hx hy;subst hc;obtain⟨v,hK,hv⟩:=J0b hx h;obtain⟨v2,hK,hv2⟩:=J0b hy hK;split at hK
       . obtain⟨m,hm,hK⟩:=hK;subst hm;refine⟨_,hK,fun M w σ a ok=>⟨_,?_,.int _ _ _⟩⟩;have d1:=hv M w σ a (ok _ (by simp[POp.xs]));have d2:=hv2 M w σ a (ok _ (by simp[POp.xs]));generalize hq:a.eval x=q at d1;generalize hq2:a.eval y=q2 at d2;cases d1;cases d2;have hargs':args.map a.eval=#[a.eval x,a.eval y]:=by
          apply Array.ext';simp[hargs]
         show((pure { target:=Target.builtin .min ats type (args.map fun | .const _=>true|_=>false),args:=args.map a.eval }:Sem Deferred) >>= fun d=>invoke d.target d.args).run P w=_;rw[Sem.run_bind,hargs',hq,hq2];exact J0S rfl
       . exact hK.elim
     . cases hc
end Go.Eng
