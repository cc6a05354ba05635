import Derived.Test.YtcbnimaicgegfaaGreatDoorEngF3
import Derived.BigCall
import Derived.Orders
import Derived.TacticsIn
set_option linter.all false
namespace Go.Eng
inductive SOp where
 | p (o:POp)
 | build (zs:List V) (parts:List (Nat×Nat×X))
 | load (sz:Option Nat) (x:X)
 | alloc (zs:List V)
 | box (x:X)
 | bslice (s n:Nat) (xs:List X)
 | asg (x:X)
 | store (sz:Nat) (a x:X)
 | app (s bytes:Nat) (x y:X)
 | clr (s:Nat) (zs:List V) (x:X)
 | call (f:FuncId) (args:List X)
 | callv (x:X) (args:List X)
 | alloca (n:Nat) (z:V)
 | xt (o:XOp)
def SOp.xs:SOp->List X
 | .p o=>o.xs
 | .build _ b=>b.map (·.2.2)
 | .load _ x | .box x | .asg x | .clr _ _ x=>[x]
 | .alloc _=>[]
 | .bslice _ _ xs=>xs
 | .store _ a x | .app _ _ a x=>[a,x]
 | .call _ xs=>xs
 | .callv x xs=>x::xs
 | .alloca _ _=>[]
 | .xt o=>o.xs
structure SI where
 dst:Option Nat
 op:SOp
 guard:Option (Nat×Bool)
structure J0N (P:Program) (f:FuncId) (args:List V) (own:Own) (ks:List Nat) (K:V->Own->List Nat->Prop):Prop where
 out:∀(M:Nat->Prop) (w:World) (σ:Sg) (us:List Value),args.length=us.length ->
  (∀(i:Nat) (v:V) (u:Value),args[i]?=some v->us[i]?=some u->Den M w σ v u)->J0T M w σ own ks ->
  Calls P f us.toArray w fun e w'=>∃M' σ' v own' ks' u,e=.returned u/\Den M' w' σ' v u/\J0T M' w' σ' own' ks'/\Tr M w σ own M' w' σ' own'/\Kd σ own ks σ' own' ks'/\K v own' ks'
theorem J0N.mono {P:Program} {f:FuncId} {args:List V} {own:Own} {ks:List Nat} {K i:V->Own->List Nat->Prop} (h:J0N P f args own ks K) (j:∀v o k,K v o k->i v o k) :
 J0N P f args own ks i :=
 ⟨fun M w σ us n m l=>(h.out M w σ us n m l).mono fun _ _ ⟨q,g,v,o,k,u,a,b,c,d,p,e⟩=>⟨q,g,v,o,k,u,a,b,c,d,p,j _ _ _ e⟩⟩
structure X5b (P:Program) (k:Nat) (args:List V) (own:Own) (ks:List Nat) (K:V->Own->List Nat->Prop):Prop where
 out:∀(M:Nat->Prop) (w:World) (σ:Sg) (us:List Value) (l base κ:Nat),args.length=us.length ->
  (∀(i:Nat) (v:V) (u:Value),args[i]?=some v->us[i]?=some u->Den M w σ v u)->J0T M w σ own ks->σ k=some (some l,base,κ) ->
  ∃fn tmps assign body,(Instr.yield l us.toArray).run P w=.ok (.round l fn tmps assign body) w /\
   RoundIn Fence.wide 0 P l fn tmps assign body w fun e w'=>∃M' σ' v own' ks' u,e=.returned u/\Den M' w' σ' v u/\J0T M' w' σ' own' ks'/\Tr M w σ own M' w' σ' own'/\Kd σ own ks σ' own' ks'/\K v own' ks'
def X8H:List V->(List V->Prop)->Prop
 | [],K=>K []
 | v::r,K=>X2D v fun v=>X8H r fun r=>K (v::r)
def X2C (v:V) (K:V->Prop):Prop :=
 match v with
 | .tup a=>X8H a fun a=>K (.tup a)
 | v=>X2D v K
theorem J9C:∀{l:List V} {K:List V->Prop},X8H l K->K l
 | [],_,h=>h
 | v::_,K,h=>J9C (K:=fun r=>K (v::r)) (J4P h).1
theorem J6o {v:V} {K:V->Prop} (h:X2C v K):K v:=by
 unfold X2C at h;split at h
 . exact J9C h
 . exact(J4P h).1
def vclr (own:Own) (s:Nat) (c:List V) (v:V) (K:Own->Prop):Prop :=
 match v with
 | .nilslice=>K own
 | .vec k d b len=>match look own k with
   | some (.vec n a f)=>match Nat.beq s d,Nat.beq s a with
     | true,true=>Len (b+len) n (Q2S k (.vec n s (Q2V f b len fun _ j=>c.getD j default)) own K)
     | _,_=>False
   | _=>False
 | _=>False
def J08 (P:Program) (f:FuncId):Bool:=match P.funcs[f]? with
 | some fn=>match fn.body with
   | some _=>match fn.name == "runtime.NumGoroutine" with|true=>false|false=>true
   | none=>false
 | none=>false
def X5k (P:Program) (a:List V) (own:Own) (ks:List Nat) (K:V->Own->List Nat->Prop) (c:V):Prop :=
 match c with
 | .fn (.func g) b cap=>Chk (J08 P g) (J0N P g (match b with|true=>cap++a|false=>a++cap) own ks K)
 | .yld k=>X5b P k a own ks K
 | _=>False
def vop (P:Program) (op:SOp) (env:Env) (own:Own) (ks:List Nat) (K:V->Own->List Nat->Prop):Prop :=
 match op with
 | .p o=>J24 o env fun v=>K v own ks
 | .build d e=>Q3Q env e d fun cs=>K (.agg cs) own ks
 | .load sz x=>x.get env fun p=>X5i own sz p fun v=>K v own ks
 | .alloc d=>fresh ks fun k ks=>K (.loc k 0) ((k,.cells d)::own) ks
 | .box x=>x.get env fun v=>v.cellsK fun cs=>fresh ks fun k ks=>K (.loc k 0) ((k,.cells cs)::own) ks
 | .bslice s n xs=>X.gets env xs fun c=>match J3a V.kf2 c with
   | true=>Q6b s c fun rs=>fresh ks fun k ks=>K (.vec k s 0 n) ((k,.vec n s (tab rs))::own) ks
   | false=>flatK s c fun cs=>fresh ks fun k ks=>K (.vec k s 0 n) ((k,.cells cs)::own) ks
 | .alloca n z=>fresh ks fun k ks=>K (.oel k 1 0 0) ((k,.vec n 1 (fun _ _=>z))::own) ks
 | .xt o=>Q7h o env own ks K
 | .asg x=>x.get env fun v=>K v own ks
 | .store sz a x=>a.get env fun p=>x.get env fun v=>J4k own sz p v fun own=>K (.raw (.tuple #[])) own ks
 | .app s bytes x y=>x.get env fun a=>y.get env fun b=>X1z own ks s bytes a b K
 | .clr s d x=>x.get env fun v=>vclr own s d v fun own=>K (.raw (.tuple #[])) own ks
 | .call f args=>X.gets env args fun c=>J0N P f c own ks fun v own ks=>X2C v fun v=>K v own ks
 | .callv x args=>x.get env fun g=>X.gets env args fun c=>X5k P c own ks (fun v own ks=>X2C v fun v=>K v own ks) g
def J7h (P:Program) (t:TypeId):Option (Nat->Option (Nat×Nat)) :=
 match P.underlying t with
 | some (.struct c)=>match c.toList.mapM (fun f=>(P.info? f.type).map fun i=>(f.offset,i.size)) with
   | some a=>some (fun i=>a.toArray[i]?)
   | none=>none
 | some (.array _ e)=>match P.info? e with
   | some b=>some (fun i=>some (i*b.size,b.size))
   | none=>none
 | _=>none
theorem X3O {P:Program} {t:TypeId} {place:Nat->Option (Nat×Nat)} {i:TypeInfo} {z:Value} (hp:J7h P t=some place) (c:P.info? t=some i) (hz:i.zero=some z) (parts:List (Nat×Value)) :
 P.built t parts=Instr.fill place z.cells parts:=by
 unfold J7h at hp;unfold Program.built;split at hp
 . rename_i g b;split at hp
   . rename_i a d;cases hp;simp only[c,b,hz,d]
   . cases hp
 . rename_i n e b;split at hp
   . rename_i f he;cases hp;simp only[c,b,hz,he]
   . cases hp
 . cases hp
def cAsg (x:Operand):Option SOp:=(cX x).map .asg
def X4V (P:Program) (t:TypeId) (parts:Array (Nat×Operand)):Option SOp :=
 match J7h P t,J1S P t with
 | some place,some a=>(J9V place parts.toList).map (.build a)
 | _,_=>none
def Y1t (P:Program) (t:TypeId) (x:Operand):Option SOp :=
 match J4i P t,cX x with
 | some z,some x=>some (.load z x)
 | _,_=>none
def J7B:List V->Bool
 | []=>true
 | .bool false::r=>J7B r
 | _=>false
def Q02 (k:IntKind):List V->Bool
 | []=>true
 | .int a n::r=>match decide (a=k),decide (n=0) with|true,true=>Q02 k r|_,_=>false
 | _=>false
def X56 (a:List V):Option V:=match a with
 | .bool _::_=>match J7B a with|true=>some (.bool false)|false=>none
 | .int k _::_=>match Q02 k a with|true=>some (.int k 0)|false=>none
 | _=>none
theorem J62:∀{a:List V},J7B a=true->∀v∈a,v=.bool false
 | [],_,v,h=>by simp at h
 | .bool false::r,h,v,b=>by
   rcases Qj.1 b with e|e
   . exact e
   . exact J62 (by simpa[J7B] using h) v e
theorem J8S {k:IntKind}:∀{b:List V},Q02 k b=true->∀v∈b,v=.int k 0
 | [],_,v,h=>by simp at h
 | .int d n::r,h,v,c=>by
   unfold Q02 at h;split at h
   . rename_i a e2;have a:=Xe a;have e2:=Xe e2;subst a e2;rcases Qj.1 c with e|e
     . exact e
     . exact J8S h v e
   . cases h
theorem Q58 {b:List V} {z:V} (h:X56 b=some z):(∀v∈b,v=z)/\z.kf1=true/\z.cellB=true:=by
 unfold X56 at h;split at h
 . split at h
   . rename_i a;cases h;exact⟨J62 a,rfl,rfl⟩
   . cases h
 . split at h
   . rename_i a;cases h;exact⟨J8S a,rfl,rfl⟩
   . cases h
 . cases h
def Q5J (P:Program) (t:TypeId):Option (Nat×V) :=
 match P.underlying t,J1S P t with
 | some (.array n _),some a=>match Nat.ble 8 n,Nat.beq a.length n,X56 a with
   | true,true,some z=>some (n,z)
   | _,_,_=>none
 | _,_=>none
def X4W (P:Program) (t:TypeId):Option SOp:=match Q5J P t with
 | some (n,z)=>some (.alloca n z)
 | none=>(J1S P t).map .alloc
def cBox (x:Operand):Option SOp:=(cX x).map .box
def X0U (P:Program) (t:TypeId) (len:Nat) (parts:Array (Nat×Operand)):Option SOp :=
 match P.underlying t with
 | some (.slice e)=>match J3s P e,J1S P e,cXs (parts.toList.map (·.2)),J11 0 parts.toList,Nat.beq parts.toList.length len,Nat.ble (len*(J3s P e).getD 0) 16777216 with
   | some s,some _,some xs,true,true,true=>some (.bslice s len xs)
   | _,_,_,_,_,_=>none
 | _=>none
def X4T (P:Program) (t:TypeId) (a x:Operand):Option SOp :=
 match J3s P t,cX a,cX x with
 | some (n+1),some a,some x=>some (.store (n+1) a x)
 | _,_,_=>none
def X4U (P:Program) (f:FuncId) (args:Array Operand):Option SOp :=
 match J08 P f with
 | true=>(cXs args.toList).map (.call f)
 | false=>none
def Y6M (P:Program) (args:Array Operand) (argTypes:Array TypeId):Option SOp :=
 match args.toList,argTypes.toList with
 | [x,y],[t,t2]=>match P.underlying t,P.underlying t2 with
   | some (.slice e),some (.slice _)=>match J3s P e,(P.info? e).map (·.bytes),J1S P e,cX x,cX y with
     | some s,some b,some a,some x,some y=>match Nat.beq a.length s with
       | true=>some (.app s b x y)
       | false=>none
     | _,_,_,_,_=>none
   | _,_=>none
 | _,_=>none
def Y6L (P:Program) (args:Array Operand) (argTypes:Array TypeId):Option SOp :=
 match args.toList,argTypes.toList with
 | [x],[t]=>match P.underlying t with
   | some (.slice e)=>match J3s P e,J1S P e,cX x with
     | some s,some a,some x=>match Nat.beq a.length s with
       | true=>some (.clr s a x)
       | false=>none
     | _,_,_=>none
   | _=>none
 | _,_=>none
def cP (P:Program) (op:Op):Option SOp:=(Q0Y P op).map .p
def X77 (P:Program) (c:Call):Option SOp :=
 match c.callee with
 | .value (.func f)=>X4U P f c.args
 | .value (.tmp t)=>(cXs c.args.toList).map (.callv (.t t))
 | .builtin .append=>Y6M P c.args c.argTypes
 | .builtin .clear=>Y6L P c.args c.argTypes
 | .builtin .copy=>(X3J P (.call c)).map .xt
 | .builtin .len=>match X3J P (.call c) with|some o=>some (.xt o)|none=>cP P (.call c)
 | _=>cP P (.call c)
def cOp (P:Program) (op:Op):Option SOp :=
 match op with
 | .assign x=>cAsg x
 | .build t parts=>X4V P t parts
 | .load t x=>Y1t P t x
 | .alloc t=>X4W P t
 | .box _ x=>cBox x
 | .buildSlice t len parts=>X0U P t len parts
 | .store t a x=>X4T P t a x
 | .call c=>X77 P c
 | op=>match X3J P op with|some o=>some (.xt o)|none=>cP P op
inductive Was (P:Program):Op->SOp->Prop
 | asg (x0:Operand) (x:X) (h:cX x0=some x):Was P (.assign x0) (.asg x)
 | build (t:TypeId) (parts:Array (Nat×Operand)) (place:Nat->Option (Nat×Nat)) (zs:List V) (ps:List (Nat×Nat×X)) (h1:J7h P t=some place) (h2:J1S P t=some zs) (h3:J9V place parts.toList=some ps) :
    Was P (.build t parts) (.build zs ps)
 | load (t:TypeId) (x0:Operand) (z:Option Nat) (x:X) (h1:J4i P t=some z) (h2:cX x0=some x):Was P (.load t x0) (.load z x)
 | alloc (t:TypeId) (zs:List V) (h:J1S P t=some zs):Was P (.alloc t) (.alloc zs)
 | box (t:TypeId) (x0:Operand) (x:X) (h:cX x0=some x):Was P (.box t x0) (.box x)
 | bslice (t:TypeId) (len:Nat) (parts:Array (Nat×Operand)) (e:TypeId) (s:Nat) (zs:List V) (xs:List X) (h1:P.underlying t=some (.slice e)) (h2:J3s P e=some s) (h3:J1S P e=some zs)
    (h4:cXs (parts.toList.map (·.2))=some xs) (h5:J11 0 parts.toList=true) (h6:parts.toList.length=len) (h7:len*s<=16777216):Was P (.buildSlice t len parts) (.bslice s len xs)
 | store (t:TypeId) (a0 x0:Operand) (n:Nat) (a x:X) (h1:J3s P t=some n) (h2:0<n) (h3:cX a0=some a) (h4:cX x0=some x):Was P (.store t a0 x0) (.store n a x)
 | call (f:FuncId) (args:Array Operand) (ats:Array TypeId) (xs:List X) (h1:J08 P f=true) (h2:cXs args.toList=some xs):Was P (.call ⟨.value (.func f),args,ats⟩) (.call f xs)
 | callv (t:Nat) (args:Array Operand) (ats:Array TypeId) (xs:List X) (h2:cXs args.toList=some xs):Was P (.call ⟨.value (.tmp t),args,ats⟩) (.callv (.t t) xs)
 | app (args:Array Operand) (ats:Array TypeId) (t t2 e e2:TypeId) (s b:Nat) (zs:List V) (x0 y0:Operand) (x y:X) (h1:args.toList=[x0,y0]) (h2:ats.toList=[t,t2]) (h3:P.underlying t=some (.slice e))
    (h4:P.underlying t2=some (.slice e2)) (h5:J3s P e=some s) (h6:(P.info? e).map (·.bytes)=some b) (h7:J1S P e=some zs) (h8:cX x0=some x) (h9:cX y0=some y) (h10:zs.length=s) :
    Was P (.call ⟨.builtin .append,args,ats⟩) (.app s b x y)
 | clr (args:Array Operand) (ats:Array TypeId) (t e:TypeId) (s:Nat) (zs:List V) (x0:Operand) (x:X) (h1:args.toList=[x0]) (h2:ats.toList=[t]) (h3:P.underlying t=some (.slice e))
    (h4:J3s P e=some s) (h5:J1S P e=some zs) (h6:cX x0=some x) (h7:zs.length=s):Was P (.call ⟨.builtin .clear,args,ats⟩) (.clr s zs x)
 | p (op:Op) (o:POp) (h:Q0Y P op=some o):Was P op (.p o)
 | alloca (t:TypeId) (n:Nat) (z:V) (h:Q5J P t=some (n,z)):Was P (.alloc t) (.alloca n z)
 | xt (op:Op) (o:XOp) (h:X3J P op=some o):Was P op (.xt o)
theorem X0R {P:Program} {op:Op} {so:SOp} (h:cP P op=some so):Was P op so:=by
 simp only[cP,Qt] at h;obtain⟨o,a,rfl⟩:=h;exact .p _ _ a
theorem X3M {P:Program} {args:Array Operand} {ats:Array TypeId} {so:SOp} (h:Y6M P args ats=some so):Was P (.call ⟨.builtin .append,args,ats⟩) so:=by
 unfold Y6M at h;split at h
 . rename_i x0 d t t2 o n;split at h
   . rename_i e e2 m l;split at h
     . rename_i s b c x y k j i g f;split at h
       . rename_i a;cases h;exact .app args ats t t2 e e2 s b c x0 d x y o n m l k j i g f (Qc a)
       . cases h
     . cases h
   . cases h
 . cases h
theorem X3L {P:Program} {args:Array Operand} {ats:Array TypeId} {so:SOp} (h:Y6L P args ats=some so):Was P (.call ⟨.builtin .clear,args,ats⟩) so:=by
 unfold Y6L at h;split at h
 . rename_i x0 t j i;split at h
   . rename_i e g;split at h
     . rename_i s a x f d c;split at h
       . rename_i b;cases h;exact .clr args ats t e s a x0 x j i g f d c (Qc b)
       . cases h
     . cases h
   . cases h
 . cases h
theorem X0S {P:Program} {c:Call} {so:SOp} (h:X77 P c=some so):Was P (.call c) so:=by
 obtain⟨callee,args,ats⟩:=c;unfold X77 at h;split at h
 . rename_i f a;simp only at a;subst a;unfold X4U at h;split at h
   . rename_i d;simp only[Qt] at h;obtain⟨xs,b,rfl⟩:=h;exact .call f args ats xs d b
   . cases h
 . rename_i t a;simp only at a;subst a;simp only[Qt] at h;obtain⟨xs,b,rfl⟩:=h;exact .callv t args ats xs b
 . rename_i a;simp only at a;subst a;exact X3M h
 . rename_i a;simp only at a;subst a;exact X3L h
 . rename_i a;simp only at a;subst a;simp only[Qt] at h;obtain⟨o,b,rfl⟩:=h;exact .xt _ o b
 . rename_i a;simp only at a;subst a;split at h
   . rename_i o b;cases h;exact .xt _ o b
   . exact X0R h
 . exact X0R h
theorem J2r {P:Program} {op:Op} {so:SOp} (h:cOp P op=some so):Was P op so:=by
 unfold cOp at h;split at h
 . simp only[cAsg,Qt] at h;obtain⟨x,a,rfl⟩:=h;exact .asg _ _ a
 . unfold X4V at h;split at h
   . simp only[Qt] at h;obtain⟨i,a,rfl⟩:=h;exact .build _ _ _ _ _ ‹_› ‹_› a
   . cases h
 . unfold Y1t at h;split at h
   . cases h;exact .load _ _ _ _ ‹_› ‹_›
   . cases h
 . unfold X4W at h;split at h
   . cases h;exact .alloca _ _ _ ‹_›
   . simp only[Qt] at h;obtain⟨g,a,rfl⟩:=h;exact .alloc _ _ a
 . simp only[cBox,Qt] at h;obtain⟨x,a,rfl⟩:=h;exact .box _ _ _ a
 . unfold X0U at h;split at h
   . rename_i he;split at h
     . rename_i a f e d c b;cases h;have:=Qq b;rw[a] at this;exact .bslice _ _ _ _ _ _ _ he a f e d (Qc c) this
     . cases h
   . cases h
 . unfold X4T at h;split at h
   . cases h;exact .store _ _ _ _ _ _ ‹_› (by omega) ‹_› ‹_›
   . cases h
 . exact X0S h
 . split at h
   . cases h;exact .xt _ _ ‹_›
   . exact X0R h
theorem J4Q {env:Env}:∀{os:List Operand} {xs:List X} {K:List V->Prop},cXs os=some xs->X.gets env xs K ->
 ∃e,K e/\e.length=os.length/\∀M w σ (a:Act),(∀x,x∈xs->XOk M w σ env a x)->∀(i:Nat) (v:V) (u:Value),e[i]?=some v->(os.map a.eval)[i]?=some u->Den M w σ v u
 | [],xs,K,d,h=>by
   simp[cXs] at d;subst d;exact⟨[],h,rfl,fun _ _ _ _ _=>by simp⟩
 | o::os,xs,K,d,h=>by
   unfold cXs at d;split at d<;>simp only[Qf,reduceCtorEq] at d;rename_i x j s r;subst d;obtain⟨v,h,n⟩:=J0f s h;obtain⟨e,q,p,f⟩:=J4Q r h;refine⟨_,q,by simp[p],?_⟩;intro M w σ a g i k l b c;cases i with
   | zero=>simp at b c;subst b c;exact n M w σ a (g x (by simp))
   | succ i=>exact f M w σ a (fun y m=>g y (by simp[m])) i k l (by simpa using b) (by simpa using c)
theorem J9U:∀{os:List Operand} {xs:List X},cXs os=some xs->xs.length=os.length
 | [],xs,h=>by simp[cXs] at h;subst h;rfl
 | o::os,xs,h=>by
   unfold cXs at h;split at h<;>simp only[Qf,reduceCtorEq] at h;rename_i x a c b;subst h;simp[J9U b]
def OP (o:Oper) (a:Act) (M:Nat->Prop) (w:World) (σ:Sg) (own:Own) (ks:List Nat) (K:V->Own->List Nat->Prop):Act->World->Prop:=fun e w' =>
 ∃u d b v own' c,e=a.put o.dst u/\Den d w' b v u/\J0T d w' b own' c/\Tr M w σ own d w' b own'/\Kd σ own ks b own' c/\K v own' c
theorem J0w {P:Program} {o:Oper} {a:Act} {w w':World} {u:Value} {next:Act->World->Prop} {Q:Exit->Act->World->Prop} (h:(execOp a.eval o).run P w=.ok (.value u) w') (b:next (a.put o.dst u) w'):o.wp P a w next Q:=by
 unfold Oper.wp;rw[h];exact b
theorem Q36 {P:Program} {o:Oper} {b:List V} {d:List (Nat×Nat×X)} (m:cOp P o.op=some (.build b d)) {env:Env} {K:V->Prop}
 (h:Q3Q env d b fun cs=>K (.agg cs)):∃v,K v/\J89 P o (SOp.xs (.build b d)) env v:=by
 obtain⟨dst,op,type,pos,after,guard⟩:=o;have f:=J2r m;simp only at f;cases f with
 | build t parts place _ _ q p hp =>
   obtain⟨r,n,u,_,k⟩:=J8u env _ _ _ _ _ hp h;refine⟨_,n,fun M w σ a ok=>?_⟩;obtain⟨i,z,l,hz,e⟩:=J0W p;obtain⟨j,g⟩:=J0O (M:=M) (w:=w) σ e;obtain⟨c,f1,f2,f3⟩:=k M w σ a z.cells.toList ok j g;refine⟨.agg c.toArray,?_,.agg _ _ _ (by omega) f3⟩;refine J1c (s:=Instr.build t (parts.map fun(i,x)=>(i,a.eval x))) (run_build w t _ _ ?_);rw[X3O q l hz,Kt];simpa using f1
theorem X7l {x:X} {env:Env} {K:V->Prop} (h:x.get env K):∃v,K v/\x.get env (·=v):=by
 cases x with
 | t n =>
   simp only[X.get] at h ⊢;split at h
   . rename_i v a;exact⟨v,h,rfl⟩
   . exact h.elim
 | k v=>exact⟨v,h,rfl⟩
theorem J9B {P:Program} {o:Oper} {sz:Option Nat} {x:X} (g:cOp P o.op=some (.load sz x)) {env:Env} {own:Own} {ks:List Nat} {K:V->Own->List Nat->Prop}
 (h:vop P (.load sz x) env own ks K):∃t x0 p v,o.op=.load t x0/\J4i P t=some sz/\K v own ks/\x.get env (·=p)/\(∀M w σ a,XOk M w σ env a x->Den M w σ p (a.eval x0))/\Q2Q P t p v own/\(∀u,v≠.raw u):=by
 obtain⟨dst,op,type,pos,after,guard⟩:=o;have c:=J2r g;simp only at c;cases c with
 | load t x0 _ _ d j =>
   obtain⟨p,h,hg⟩:=X7l h;obtain⟨e,rfl,hp⟩:=J0f j hg;obtain⟨v,i,f,b⟩:=Q23 d h;exact⟨t,x0,e,v,rfl,d,i,hg,hp,f,b⟩
theorem J2T:∀{us:List Value} {b:List V},J3u us=some b->∀v∈b,v.cellB=true
 | [],b,h=>by simp[J3u] at h;subst h;simp
 | u::r,b,h=>by
   unfold J3u at h;split at h<;>simp at h;rename_i x xs c f;subst h;intro v d;rcases Qj.1 d with e|e
   . subst e;unfold J77 at c;split at c<;>simp at c<;>subst c<;>rfl
   . exact J2T f v e
def SOp.isNew:SOp->Bool
 | .alloc _ | .box _ | .bslice _ _ _ | .alloca _ _=>true
 | .xt (.mks _ _ _ _)=>true
 | _=>false
def Q64 (P:Program) (o:Oper) (xs:List X) (env:Env) (k:Nat) (b:Blk) (v:V):Prop :=
 ∀M w σ a own ks,(∀x,x∈xs->XOk M w σ env a x)->J0T M w σ own (k::ks) ->
  ∃u w' d c,(execOp a.eval o).run P w=.ok (.value u) w'/\J0T d w' c ((k,b)::own) ks/\Tr M w σ own d w' c ((k,b)::own)/\Den d w' c v u/\J0u c k≠none/\Kd σ own (k::ks) c ((k,b)::own) ks
theorem Q2I {M:Nat->Prop} {w:World} {σ:Sg} {k off:Nat} {u:Value} (h:Den M w σ (.loc k off) u):J0u σ k≠none:=by
 cases h with
 | loc _ _ _ b base a hk=>simp[J0u,hk]
theorem J3h {P:Program} (w:World) (t e:TypeId) (len:Nat) (parts:Array (Nat×Value)) (cells:Array Value) (s:Nat) (b:TypeInfo) (z:Value)
 (f:P.underlying t=some (.slice e)) (c:P.info? e=some b) (hz:b.zero=some z) (g:b.size=s) (a:len*s<=16777216)
 (h:Instr.fill (fun i=>some (i*s,s)) ((Array.range (len*s)).map (fun j=>(if len*s=0 then #[] else z.cells)[j % (if len*s=0 then #[] else z.cells).size]!)) parts.toList=some cells) :
 (Instr.buildSlice t len parts).run P w=.ok (.slice (some ⟨w.heap.size,0,none⟩) len len) (w.alloc (.cells cells e)):=by
 subst g;have k:¬ (len*b.size > 2 ^ 24):=Nat.not_lt.2 a;by_cases d:len*b.size=0
 . simp only[d,Zl] at h;simp[Instr.buildSlice,run_underlying f,sizeOf,typeInfo,zeroValue,c,hz,d,newRow] ;have l:Instr.fill (fun i=>some (i*b.size,b.size)) #[] parts.toList=some cells:=by
    rw[show Array.range 0=#[] from by simp[Array.range]] at h;simpa using h
   simp[show Array.range 0=#[] from by simp[Array.range],l]
 . simp only[d,Xy] at h;simp[Instr.buildSlice,run_underlying f,sizeOf,typeInfo,zeroValue,c,hz,k,d,h,newRow]
theorem X6W {P:Program} {o:Oper} {s b:Nat} {u:List V} {x:X} (g:X3J P o.op=some (.mks s b u x)) {env:Env} {own:Own} {ks:List Nat} {K:V->Own->List Nat->Prop} (h:Q7h (.mks s b u x) env own ks K) :
 ∃k r bl v,ks=k::r/\K v ((k,bl)::own) r/\Q64 P o [x] env k bl v/\(v=.loc k 0\/(∃s n,v=.vec k s 0 n)\/v=.oel k 1 0 0):=by
 obtain⟨dst,op,type,pos,after,guard⟩:=o;simp only at g;unfold X3J at g;split at g
 case h_1 =>
  rename_i t l c;split at g
  case h_2=>cases g
  rename_i e he;split at g
  case h_2=>cases g
  rename_i s b u x h1 h2 h3 h4 R;split at g
  case h_2=>cases g
  rename_i I a5;cases g;have I:=Qc I;obtain⟨v,h,hv⟩:=J0f h4 h;split at h
  case h_2=>exact h.elim
  rename_i k n;obtain⟨m,rfl,hm,h⟩:=h;obtain⟨a6,h⟩:=h;obtain⟨U,r,rfl,hK⟩:=J0A h;obtain⟨i,z,Z,hz,D⟩:=J0W h3;have d:i.size=s:=by simpa[J3s,Z] using h1
  have a4:i.bytes=b:=by simpa[Z] using h2
  have Q:(i.bytes:Int)*(m:Int)<=281474976710656:=by
   have:((i.bytes*m:Nat):Int)<=281474976710656:=by rw[a4,Xw];omega
   rwa[Zq] at this
  have f:∀M w σ a,(∀y,y∈[x]->XOk M w σ env a y)->a.eval l=.int k m/\∃H,a.eval c=.int H m:=by
   intro M w σ a ok;have dv:=hv M w σ a (ok _ (by simp));have A:a.eval l=.int k m:=by generalize a.eval l=q at dv;cases dv;rfl
   refine⟨A,?_⟩;unfold Q1z at R;split at R
   . rename_i T S e1 e2;cases e1;cases e2;rw[<- Qc R];exact⟨_,A⟩
   . rename_i k1 a1 k2 a2 e1 e2;cases e1;cases e2;have e3:=Xe R;simp only[Act.eval] at A ⊢;cases A;exact⟨k2,by rw[e3]⟩
   . cases R
  rcases Q4T hK with F | ⟨a0,F⟩
  rotate_left
  . subst a0;refine⟨U,r,_,_,rfl,F,?_,.inr (.inl ⟨_,_,rfl⟩)⟩;intro M w σ a G ks0 ok hh;obtain⟨A,H,f⟩:=f M w σ a ok;obtain⟨l1,l2⟩:=J0O (M:=M) (w:=w) Sg.none D;have L:=run_make (P:=P) w t e i z he Z hz k H m m (by omega) (Y1 _) Q (by omega);simp only[Yr] at L;have C:z.cells.size=1:=by simp at l1;omega
    have J:0<u.length:=by omega
    have hd:=l2 0 u[0] z.cells[0] (by simp[J]) (by simp[show 0<z.cells.size by omega]);obtain⟨M',B,T,S,n3,n4,n5⟩:=J6l (k:=U) (ks:=ks0) hh 1 m (List.replicate m (u.getD 0 default)) (madeCells z.cells (m*i.size)) e (by rw[size_madeCells,d];simp) (fun q x y Y W=>by
     have hq:q<m:=by have:=(Qs.1 Y).1;simpa using this
     have ex:x=u[0]:=by
      rw[Yz,Qe hq] at Y;simp only[Qf] at Y;rw[<- Y];simp[List.getD,J]
     have ey:y=z.cells[0]:=by
      simp only[madeCells,Jo] at W;rw[Jf,Qe (by rw[d];omega)] at W;simp only[Zi,C,J1,Qf] at W;rw[<- W,getElem!_pos z.cells 0 (by omega)]
     rw[ex,ey];exact hd.mono ⟨fun _ _ h=>⟨h,rfl⟩,Qd _⟩ (fun _ _ h=>by cases h))
    refine⟨.slice (some ⟨w.heap.size,0,none⟩) m m,w.alloc (.cells (madeCells z.cells (m*i.size)) e),M',B,?_,T,S,n3,n4,n5⟩;refine J1c (s:=Instr.makeSlice t (a.eval l) (a.eval c)) ?_;rw[A,f];exact L
  . refine⟨U,r,_,_,rfl,F,?_,.inr (.inl ⟨_,_,rfl⟩)⟩;intro M w σ a G ks0 ok hh;obtain⟨A,H,f⟩:=f M w σ a ok;obtain⟨l1,l2⟩:=J0O (M:=M) (w:=w) Sg.none D;have L:=run_make (P:=P) w t e i z he Z hz k H m m (by omega) (Y1 _) Q (by omega);simp only[Yr] at L;have C:z.cells.size=s:=by simp at l1;omega
    obtain⟨M',B,T,S,n3,n4,n5⟩:=J5F (w':=w.alloc (.cells (madeCells z.cells (m*i.size)) e)) (k:=U) (ks:=ks0) hh m s m (fun _ j=>u.getD j default) (madeCells z.cells (m*i.size)) e (.inl rfl) (Qd _) (by rw[size_madeCells,d];exact Qd _) (fun p j hp hj=>by
     have a3:p*s+j<m*s:=by
      have:(p+1)*s<=m*s:=Q5 _ hp;rw[Xc] at this;omega
     have O:j<z.cells.size:=by omega
     have E:j<u.length:=by omega
     have N:(p*s+j) % z.cells.size=j:=by
      rw[C,Z8,Jk,Xh hj]
     have hd:=l2 j u[j] z.cells[j] (by simp[E]) (by simp[O]);refine⟨z.cells[j],?_,hd.oneCell ?_,by simpa[List.getD,E] using hd⟩
     . simp only[madeCells,Jo];rw[Jf,Qe (by rw[d];exact a3)];simp only[Zi,N];rw[getElem!_pos z.cells j O]
     . exact J2T D _ (Xd E))
    refine⟨.slice (some ⟨w.heap.size,0,none⟩) m m,w.alloc (.cells (madeCells z.cells (m*i.size)) e),M',B,?_,T,S,n3 m (Qd _),by rw[n4];simp,n5⟩;refine J1c (s:=Instr.makeSlice t (a.eval l) (a.eval c)) ?_;rw[A,f];exact L
 all_goals
  repeat' (split at g)
  all_goals (first|(cases g;done)|(simp at g;done)|skip)
theorem Q1W {P:Program} {o:Oper} {so:SOp} (Z:cOp P o.op=some so) (A:so.isNew=true) {env:Env} {own:Own} {ks:List Nat} {K:V->Own->List Nat->Prop} (h:vop P so env own ks K) :
 ∃k f b v,ks=k::f/\K v ((k,b)::own) f/\Q64 P o so.xs env k b v/\(v=.loc k 0\/(∃s n,v=.vec k s 0 n)\/v=.oel k 1 0 0):=by
 obtain⟨dst,op,type,pos,after,guard⟩:=o;simp only at Z;cases so<;>simp only[SOp.isNew,reduceCtorEq] at A
 case alloc C =>
  obtain⟨k,f,rfl,Q⟩:=J0A h;refine⟨k,f,_,_,rfl,Q,?_,.inl rfl⟩;intro M w σ a u ks0 _ O;obtain⟨t,rfl,hz⟩:∃t,op=.alloc t/\J1S P t=some C:=by cases J2r Z with|alloc t _ h=>exact⟨t,rfl,h⟩
  obtain⟨i,z,I,r,E⟩:=J0W hz;obtain⟨l1,l2⟩:=J0O (M:=M) (w:=w) σ E;obtain⟨R,m,N,L,D,J⟩:=Q1X O C z.cells t (by simpa using l1.symm) (fun i x y S hy=>l2 i x y S (by simpa using hy));refine⟨_,_,R,m,?_,N,L,D,Q2I D,J⟩;refine J1c (s:=Instr.alloc t true (.tuple #[])) ?_;simp[Instr.alloc,zeroValue,typeInfo,Sem.run_bind,I,r,newVar,newRow,go_sem]
 case alloca n z =>
  obtain⟨k,f,rfl,Q⟩:=J0A h;refine⟨k,f,_,_,rfl,Q,?_,.inr (.inr rfl)⟩;intro M w σ a u ks0 _ O;obtain⟨t,rfl,hb⟩:∃t,op=.alloc t/\Q5J P t=some (n,z):=by cases J2r Z with|alloca t _ _ h=>exact⟨t,rfl,h⟩
  unfold Q5J at hb;split at hb
  case h_2=>cases hb
  rename_i n0 e C hu hz;split at hb
  case h_2=>cases hb
  rename_i z0 ac ab a5;cases hb;have g:=Qc ab;obtain⟨a0,zk,zc⟩:=Q58 a5;obtain⟨i,zz,I,r,E⟩:=J0W hz;obtain⟨l1,l2⟩:=J0O (M:=M) (w:=w) Sg.none E;obtain⟨R,m,N,L,D,J,n5⟩:=J5F (w':=w.alloc (.cells zz.cells t)) O n 1 n (fun _ _=>z) zz.cells t (.inl rfl) (Qd _) (by simp at l1;omega) (fun i j I hj=>by
   have a9:j=0:=by omega
   subst a9;have h1:i<C.length:=by omega
   have h2:i<zz.cells.size:=by simp at l1;omega
   have hd:=l2 i C[i] zz.cells[i] (by simp[h1]) (by simp[h2]);rw[a0 _ (Xd h1)] at hd;exact⟨zz.cells[i],by simp[h2],hd.oneCell zc,hd⟩)
  have T:=D n (Qd _);refine⟨.pointer (some ⟨w.heap.size,0,none⟩),_,R,m,?_,N,L,?_,by rw[J];simp,n5⟩
  . refine J1c (s:=Instr.alloc t true (.tuple #[])) ?_;simp[Instr.alloc,zeroValue,typeInfo,Sem.run_bind,I,r,newVar,newRow,go_sem]
  . have ai:=Qq ac;cases T with
    | vec _ _ _ _ _ bo base κ c ad hk Z hl ha =>
      obtain⟨b,e1,e2⟩:=ha (by omega);simp only[Qf,Addr.mk.injEq] at e2;obtain⟨e3,e4,_⟩:=e2;subst e1 e3;have ae:base=0:=by omega
      subst ae;exact .oel _ k 1 0 0 _ 0 _ hk
 case xt xo =>
  have S:X3J P op=some xo:=by cases J2r Z with|xt _ _ h=>exact h
  cases xo<;>simp only[Xf] at A;rename_i s b C x;exact X6W (o:=⟨dst,op,type,pos,after,guard⟩) S h
 case box x =>
  obtain⟨t,x0,rfl,S⟩:∃t x0,op=.box t x0/\cX x0=some x:=by cases J2r Z with|box t x0 _ h=>exact⟨t,x0,rfl,h⟩
  obtain⟨v,h,hv⟩:=J0f S h;obtain⟨cs,h,Y⟩:=J1Y h;obtain⟨k,f,rfl,Q⟩:=J0A h;refine⟨k,f,_,_,rfl,Q,?_,.inl rfl⟩;intro M w σ a u ks0 ok O;obtain⟨l1,l2⟩:=Y M w σ _ (hv M w σ a (ok _ (by simp[SOp.xs])));obtain⟨R,m,N,L,D,J⟩:=Q1X O cs (a.eval x0).cells t l1.symm l2;refine⟨_,_,R,m,?_,N,L,D,Q2I D,J⟩;exact J1c (s:=Instr.box t (a.eval x0)) rfl
 case bslice s len xs =>
  obtain⟨t,parts,e,C,rfl,ht,hs,hz,hxs,hidx,g,hbig⟩:∃t parts e C,op=.buildSlice t len parts/\P.underlying t=some (.slice e)/\J3s P e=some s/\J1S P e=some C /\
   cXs (parts.toList.map (·.2))=some xs/\J11 0 parts.toList=true/\parts.toList.length=len/\len*s<=16777216:=by
   cases J2r Z with|bslice t _ parts e _ C _ h1 h2 h3 h4 h5 h6 h7=>exact⟨t,parts,e,C,rfl,h1,h2,h3,h4,h5,h6,h7⟩
  obtain⟨vs,h,U,a1⟩:=J4Q hxs h;cases a4:J3a V.kf2 vs with
  | false =>
    rw[a4] at h;simp only at h;obtain⟨cs,h,aa,Y⟩:=J8r s vs _ h;obtain⟨k,f,rfl,Q⟩:=J0A h;refine⟨k,f,_,_,rfl,Q,?_,.inr (.inl ⟨_,_,rfl⟩)⟩;intro M w σ a u ks0 ok O;obtain⟨q1,q2⟩:=Y M w σ ((parts.toList.map (·.2)).map a.eval) (by simpa using U) (a1 M w σ a ok);obtain⟨i,z,I,r,E⟩:=J0W hz;have H:i.size=s:=by simpa[J3s,I] using hs
    have W:J11 0 (parts.toList.map fun p=>(p.1,a.eval p.2))=true:=by
     have:∀(l:List (Nat×Operand)) (n:Nat),J11 n l=true->J11 n (l.map fun p=>(p.1,a.eval p.2))=true:=by
      intro l
      induction l with
      | nil=>intro n _;rfl
      | cons p l ih =>
        intro n A;obtain⟨k,x⟩:=p;simp only[J11,Qv] at A ⊢;split at A
        . exact ih _ A
        . cases A
     exact this _ _ hidx
    have B:∀q,((Array.range q).map (fun j=>(if len*s=0 then #[] else z.cells)[j % (if len*s=0 then #[] else z.cells).size]!):Array Value).size=q:=by intro q;simp
    obtain⟨d,f1,f2,f3,f4⟩:=J8t s (parts.toList.map fun p=>(p.1,a.eval p.2)) 0
     ((Array.range (len*s)).map (fun j=>(if len*s=0 then #[] else z.cells)[j % (if len*s=0 then #[] else z.cells).size]!)) W
     (fun p hp=>by
       obtain⟨p0,X,rfl⟩:=Qi.1 hp;exact q1 _ (by simp only[Kg,Qi,Function.comp];exact⟨p0,X,rfl⟩))
     (by rw[B];simp at g ⊢;rw[g];exact Qd _)
    rw[B] at f2;have a2:vs.length=len:=by rw[U];simpa using g
    obtain⟨R,m,N,L,D,J,n5⟩:=J6l (k:=k) (ks:=ks0) O s len cs d e (by rw[f2,aa,a2]) (fun q x y S hy=>by
     have hq:q<len*s:=by rw[<- f2];exact(Xl.1 hy).1
     have a6:0<s:=by
      rcases Q4 s with h|h
      . subst h;simp at hq
      . exact h
     have ah:q / s<len:=Nat.div_lt_of_lt_mul (by rw[Xw];exact hq);have a3:q % s<s:=Z5 _ a6;have a8:q / s*s+q % s=q:=by rw[Xw];exact Yc q s
     have G:q / s<parts.toList.length:=by omega
     obtain⟨x',y',x1,x2,x3,x4⟩:=q2 (q / s) (a.eval (parts.toList[q / s]).2) (by simp[Qp G]) (q % s) a3;have:=f4 (q / s) ((parts.toList[q / s]).1,a.eval (parts.toList[q / s]).2) (by simp[Qp G]) (q % s) a3;simp only[Qk] at this;rw[a8] at this x3;rw[this,x1] at hy;rw[x3] at S;cases hy;cases S;exact x4)
    have F:=J3h (P:=P) w t e len (parts.map fun(i,x)=>(i,a.eval x)) d s i z ht I r H hbig (by rw[Kt];exact f1);exact⟨_,_,R,m,J1c F,N,L,D,J,n5⟩
  | true =>
  rw[a4] at h;simp only at h;obtain⟨rs,h,ag,a7⟩:=J7U s vs _ h;obtain⟨k,f,rfl,Q⟩:=J0A h;refine⟨k,f,_,_,rfl,Q,?_,.inr (.inl ⟨_,_,rfl⟩)⟩;intro M w σ a u ks0 ok O;have af:xs.length=len:=by rw[J9U hxs];simpa using g
  obtain⟨q1,q2⟩:=a7 M w σ ((parts.toList.map (·.2)).map a.eval) (by simpa using U) (a1 M w σ a ok);obtain⟨i,z,I,r,E⟩:=J0W hz;have H:i.size=s:=by simpa[J3s,I] using hs
  have W:J11 0 (parts.toList.map fun p=>(p.1,a.eval p.2))=true:=by
   have:∀(l:List (Nat×Operand)) (n:Nat),J11 n l=true->J11 n (l.map fun p=>(p.1,a.eval p.2))=true:=by
    intro l
    induction l with
    | nil=>intro n _;rfl
    | cons p l ih =>
      intro n A;obtain⟨k,x⟩:=p;simp only[J11,Qv] at A ⊢;split at A
      . exact ih _ A
      . cases A
   exact this _ _ hidx
  have B:∀q,((Array.range q).map (fun j=>(if len*s=0 then #[] else z.cells)[j % (if len*s=0 then #[] else z.cells).size]!):Array Value).size=q:=by intro q;simp
  obtain⟨d,f1,f2,f3,f4⟩:=J8t s (parts.toList.map fun p=>(p.1,a.eval p.2)) 0
   ((Array.range (len*s)).map (fun j=>(if len*s=0 then #[] else z.cells)[j % (if len*s=0 then #[] else z.cells).size]!)) W
   (fun p hp=>by
     obtain⟨p0,X,rfl⟩:=Qi.1 hp;exact q1 _ (by simp only[Kg,Qi,Function.comp];exact⟨p0,X,rfl⟩))
   (by rw[B];simp at g ⊢;rw[g];exact Qd _)
  rw[B] at f2;obtain⟨R,m,N,L,D,J,n5⟩:=J5F (w':=w.alloc (.cells d e)) O len s len (tab rs) d e (.inl rfl) (Qd _) (by omega) (fun i j I hj=>by
   have G:i<parts.toList.length:=by omega
   obtain⟨x,x1,x2,x3⟩:=q2 i (a.eval (parts.toList[i]).2) (by simp[Qp G]) j hj;refine⟨x,?_,x2,x3⟩;have:=f4 i ((parts.toList[i]).1,a.eval (parts.toList[i]).2) (by simp[Qp G]) j hj;simp only[Qk] at this;rw[this];exact x1)
  have T:=D len (Qd _);have F:=J3h (P:=P) w t e len (parts.map fun(i,x)=>(i,a.eval x)) d s i z ht I r H hbig (by rw[Kt];exact f1);exact⟨_,_,R,m,J1c F,N,L,T,by rw[J];simp,n5⟩
open Go.ChangeMaps (setBlock)
theorem set_same {w:World} {r:Nat} {o:Obj} (h:r<w.heap.size):(setBlock w r o).heap[r]?=some o:=by simp[setBlock,h]
theorem set_other {w:World} {r k:Nat} {o:Obj} (h:k≠r):(setBlock w r o).heap[k]?=w.heap[k]?:=by
 simp[setBlock,Array.getElem?_setIfInBounds_ne (Ne.symm h)]
theorem Q4v {w:World} {r:Nat} {o:Obj}:(setBlock w r o).heap.size=w.heap.size:=by simp[setBlock]
theorem Q1p:∀(l:List IntKind) (b:List V) (K:KyS l->Prop),stK l b K->∃p,K p/\∀M w σ (us:List Value),b.length=us.length->(∀(i:Nat) (v:V) (u:Value),b[i]?=some v->us[i]?=some u->Den M w σ v u)->us=stP l p
 | [],b,K,h=>by
   cases b with
   | nil=>exact⟨(),h,fun M w σ us c _=>by simpa[stP] using Xg c.symm⟩
   | cons=>exact h.elim
 | k::l,b,K,h=>by
   cases b with
   | nil=>exact h.elim
   | cons v r =>
     cases v<;>first|exact h.elim|skip
     rename_i j a;simp only[stK] at h;split at h
     case h_2=>exact h.elim
     rename_i hk;have hk:=Xe hk;subst hk;obtain⟨p,f,hp⟩:=Q1p l r _ h;refine⟨(a,p),f,fun M w σ us c hd=>?_⟩
     match us,c,hd with
     | u::us,c,hd =>
       have g:=hd 0 _ u rfl rfl;cases g;rw[hp M w σ us (by simpa using c) (fun i v u d e=>hd (i+1) v u (by simpa using d) (by simpa using e))];rfl
theorem J72 {ik:MKd} {v:V} {K:KyT ik->Prop} (h:J73 ik v K):∃p,K p/\∀M w σ u,Den M w σ v u->u=J2M ik p:=by
 cases ik with
 | one ik =>
   simp only[J73] at h;split at h
   . split at h
     . rename_i c;have c:=Xe c;subst c;exact⟨_,h,fun M w σ u hd=>by cases hd;rfl⟩
     . exact h.elim
   . exact h.elim
 | str =>
   simp only[J73] at h;split at h
   . exact⟨_,h,fun M w σ u hd=>by cases hd;rfl⟩
   . exact h.elim
 | st l =>
   simp only[J73] at h;split at h
   . obtain⟨p,e,hp⟩:=Q1p l _ _ h;refine⟨p,e,fun M w σ u hd=>?_⟩;cases hd with
     | agg _ _ us d hd=>rw[J2M,hp M w σ us d hd]
   . exact h.elim
 | pair ik =>
 simp only[J73] at h;split at h
 . rename_i k a i b;split at h
   . rename_i c e2;have c:=Xe c;have e2:=Xe e2;subst c e2;refine⟨_,h,fun M w σ u hd=>?_⟩;cases hd with
     | agg _ _ us d hd =>
       match us,d,hd with
       | [x,y],_,hd =>
         have g:=hd 0 _ x rfl rfl;have f:=hd 1 _ y rfl rfl;cases g;cases f;rfl
   . exact h.elim
 . exact h.elim
theorem J4O {own:Own} {m:V} {K:Nat->(ik:MKd)->List (KyT ik×V)->Prop} (h:X1n own m K):∃k ik a,m=.map k/\look own k=some (.map ik a)/\K k ik a:=by
 unfold X1n at h;split at h
 . split at h
   . exact⟨_,_,_,rfl,‹_›,h⟩
   . exact h.elim
 . exact h.elim
theorem J8j {own:Own} {m:V} {K:Nat->Nat->Nat->List Nat->(ik:MKd)->List (KyT ik×V)->Prop} (h:X2K own m K) :
 ∃k a n J11 ik b,m=.loc k 0/\look own k=some (.iter a n J11)/\look own a=some (.map ik b)/\b.length=n/\K k a n J11 ik b:=by
 unfold X2K at h;split at h
 . split at h
   . split at h
     . obtain⟨d,c⟩:=h;exact⟨_,_,_,_,_,_,rfl,‹_›,‹_›,Qc d,c⟩
     . exact h.elim
   . exact h.elim
 . exact h.elim
theorem Q5o {M:Nat->Prop} {w:World} {σ:Sg} {ik:MKd} (p:KyT ik):Den M w σ (Y4j ik p) (J2M ik p):=by
 cases ik with
 | one k=>exact .int _ _ _
 | str=>exact .str _ _
 | st l =>
   have key:∀(l:List IntKind) (p:KyS l),(stV l p).length=(stP l p).length/\∀(i:Nat) (v:V) (u:Value),(stV l p)[i]?=some v->(stP l p)[i]?=some u->Den M w σ v u:=by
    intro l
    induction l with
    | nil=>intro p;exact⟨rfl,fun i v u a=>by simp[stV] at a⟩
    | cons k l c =>
      intro p;obtain⟨e,d⟩:=c p.2;refine⟨by simp[stV,stP,e],fun i v u a b=>?_⟩;cases i with
      | zero=>simp[stV,stP] at a b;subst a b;exact .int _ _ _
      | succ i=>exact d i v u (by simpa[stV] using a) (by simpa[stP] using b)
   exact .agg _ _ _ (key l p).1 (key l p).2
 | pair ik =>
   refine .agg _ _ [.int ik p.1,.int ik p.2] rfl fun i v u a b=>?_
   match i,a,b with
   | 0,a,b=>simp at a b;subst a b;exact .int _ _ _
   | 1,a,b=>simp at a b;subst a b;exact .int _ _ _
   | i+2,a,b=>simp at a
theorem J7u {M:Nat->Prop} {w:World} {σ:Sg} {a b:V} {x y:Value} (f:Den M w σ a x) (e:Den M w σ b y):Den M w σ (.tup [a,b]) (.tuple #[x,y]):=by
 refine .tup _ _ [x,y] rfl fun i v u c d=>?_
 match i,c,d with
 | 0,c,d=>simp at c d;subst c d;exact f
 | 1,c,d=>simp at c d;subst c d;exact e
 | i+2,c,d=>simp at c
theorem X3c {M:Nat->Prop} {w:World} {σ:Sg} {a b c:V} {x y z:Value} (h:Den M w σ a x) (g:Den M w σ b y) (f:Den M w σ c z):Den M w σ (.tup [a,b,c]) (.tuple #[x,y,z]):=by
 refine .tup _ _ [x,y,z] rfl fun i v u d e=>?_
 match i,d,e with
 | 0,d,e=>simp at d e;subst d e;exact h
 | 1,d,e=>simp at d e;subst d e;exact g
 | 2,d,e=>simp at d e;subst d e;exact f
 | i+3,d,e=>simp at d
theorem X3d {M:Nat->Prop} {w:World} {σ:Sg} {a:V} {x:Value} (d:Den M w σ a x):Den M w σ (.tup [a]) (.tuple #[x]):=by
 refine .tup _ _ [x] rfl fun i v u b c=>?_
 match i,b,c with
 | 0,b,c=>simp at b c;subst b c;exact d
 | i+1,b,c=>simp at b
theorem Den.none_le {M:Nat->Prop} {w:World} {σ:Sg} {v:V} {u:Value} (h:Den M w Sg.none v u):Den M w σ v u:=h.mono ⟨fun _ _ h=>⟨h,rfl⟩,Qd _⟩ (fun _ _ h=>by cases h)
theorem X2J (ik:MKd) (p:KyT ik) (P:Program) (w:World):(Instr.keyThatStays (J2M ik p) (J2M ik p)).run P w=.ok (J2M ik p) w:=by
 have:Instr.sameBits 10000 (J2M ik p) (J2M ik p)=true:=by
  cases ik with
  | st l =>
    rw[J2M,show(10000:Nat)=9999+1 from rfl];have key:∀(l:List IntKind) (p:KyS l),((stP l p).zip (stP l p)).all (fun(x:Value×Value)=>Instr.sameBits 9999 x.1 x.2)=true:=by
     intro l
     induction l with
     | nil=>intro p;rfl
     | cons k l a=>intro p;simp[stP,Instr.sameBits,a p.2]
    simpa[Instr.sameBits] using key l p
  | _=>(rw[J2M,show(10000:Nat)=9999+1 from rfl];simp[Instr.sameBits])<;>exact(Go.MapKept.bytes_beq _ _).2 rfl
 simp[Instr.keyThatStays,this,go_sem]
theorem J8c {α:Type}:∀{l:List (Nat×α)} {k:Nat} {v:α},(l.map (·.1)).Nodup->(k,v)∈l->look l k=some v
 | [],_,_,_,h=>by simp at h
 | (q,c)::l,k,v,a,h=>by
   simp only[Qv,Q2] at a;rcases Qj.1 h with e|e
   . cases e;simp[look]
   . have:Nat.beq q k=false:=by
      rw[<- Xb];intro b;have:=Qc b;subst this;exact a.1 (Qi.2 ⟨_,e,rfl⟩)
     simp only[look,this];exact J8c a.2 e
theorem Q9A {σ:Sg} {own own':Own} {ks:List Nat} (h:own'.map (·.1)=own.map (·.1)):Kd σ own ks σ own' ks:=⟨fun _ h=>h,fun _ h _=>h,fun k hk=>.inl (by rw[h] at hk;exact hk)⟩
theorem Q7f {P:Program} {o:Oper} {xo:XOp} (B:X3J P o.op=some xo) {env:Env} {own:Own} {ks:List Nat} {K:V->Own->List Nat->Prop} (h:Q7h xo env own ks K)
 {M:Nat->Prop} {w:World} {σ:Sg} {a:Act} (ok:∀x,x∈xo.xs->XOk M w σ env a x) (D:J0T M w σ own ks) (Q:Exit->Act->World->Prop):o.wp P a w (OP o a M w σ own ks K) Q:=by
 obtain⟨dst,op,type,pos,after,guard⟩:=o;simp only at B;unfold X3J at B;split at B
 . -- a new slice
   rename_i t l c;split at B
   case h_2=>cases B
   rename_i e he;split at B
   case h_2=>cases B
   rename_i s b zs x O h2 h3 h4 h5;split at B
   case h_2=>cases B
   rename_i bc cv;cases B;have bc:=Qc bc;obtain⟨v,h,hv⟩:=J0f h4 h;have dv:=hv M w σ a (ok _ (by simp[XOp.xs]));split at h
   case h_2=>exact h.elim
   rename_i k n;obtain⟨m,rfl,hm,h⟩:=h;obtain⟨cw,h⟩:=h;obtain⟨kk,Z,rfl,L⟩:=J0A h;obtain⟨i,z,hi,hz,ao⟩:=J0W h3;have ag:i.size=s:=by simpa[J3s,hi] using O
   have cf:i.bytes=b:=by simpa[hi] using h2
   obtain⟨l1,l2⟩:=J0O (M:=M) (w:=w) Sg.none ao;have hl:a.eval l=.int k m:=by generalize a.eval l=q at dv;cases dv;rfl
   obtain⟨kc,bq⟩:∃kc,a.eval c=.int kc m:=by
    unfold Q1z at h5;split at h5
    . rename_i n1 n2 e1 e2;cases e1;cases e2;rw[<- Qc h5];exact⟨_,hl⟩
    . rename_i k1 a1 k2 a2 e1 e2;cases e1;cases e2;have e3:=Xe h5;simp only[Act.eval] at hl ⊢;cases hl;exact⟨k2,by rw[e3]⟩
    . cases h5
   have cl:(i.bytes:Int)*(m:Int)<=281474976710656:=by
    have:((i.bytes*m:Nat):Int)<=281474976710656:=by rw[cf,Xw];omega
    rwa[Zq] at this
   have hr:=run_make (P:=P) w t e i z he hi hz k kc m m (by omega) (Y1 _) cl (by omega);simp only[Yr] at hr;have bb:z.cells.size=s:=by simp at l1;omega
   rcases Q4T L with b8 | ⟨aj,b8⟩
   rotate_left
   . subst aj;have bd:0<zs.length:=by omega
     have hd:=l2 0 zs[0] z.cells[0] (by simp[bd]) (by simp[show 0<z.cells.size by omega]);obtain⟨M',ar,n1,n2,n3,n4,n5⟩:=J6l (k:=kk) (ks:=Z) D 1 m (List.replicate m (zs.getD 0 default)) (madeCells z.cells (m*i.size)) e (by rw[size_madeCells,ag];simp) (fun q x y hx hy=>by
      have hq:q<m:=by have:=(Qs.1 hx).1;simpa using this
      have ex:x=zs[0]:=by
       rw[Yz,Qe hq] at hx;simp only[Qf] at hx;rw[<- hx];simp[List.getD,bd]
      have ey:y=z.cells[0]:=by
       simp only[madeCells,Jo] at hy;rw[Jf,Qe (by rw[ag];omega)] at hy;simp only[Zi,bb,J1,Qf] at hy;rw[<- hy,getElem!_pos z.cells 0 (by omega)]
      rw[ex,ey];exact hd.mono ⟨fun _ _ h=>⟨h,rfl⟩,Qd _⟩ (fun _ _ h=>by cases h))
     refine J0w (u:=.slice (some ⟨w.heap.size,0,none⟩) m m) (w':=w.alloc (.cells (madeCells z.cells (m*i.size)) e)) ?_ ⟨_,M',ar,_,_,Z,rfl,n3,n1,n2,n5,b8⟩;refine J1c (s:=Instr.makeSlice t (a.eval l) (a.eval c)) ?_;rw[hl,bq];exact hr
   obtain⟨M',ar,n1,n2,n3,n4,n5⟩:=J5F (w':=w.alloc (.cells (madeCells z.cells (m*i.size)) e)) D m s m (fun _ j=>zs.getD j default) (madeCells z.cells (m*i.size)) e (.inl rfl) (Qd _) (by rw[size_madeCells,ag];exact Qd _) (fun p j hp hj=>by
    have az:p*s+j<m*s:=by
     have:(p+1)*s<=m*s:=Q5 _ hp;rw[Xc] at this;omega
    have br:j<z.cells.size:=by omega
    have b3:j<zs.length:=by omega
    have bm:(p*s+j) % z.cells.size=j:=by
     rw[bb,Z8,Jk,Xh hj]
    have hd:=l2 j zs[j] z.cells[j] (by simp[b3]) (by simp[br]);refine⟨z.cells[j],?_,hd.oneCell ?_,by simpa[List.getD,b3] using hd⟩
    . simp only[madeCells,Jo];rw[Jf,Qe (by rw[ag];exact az)];simp only[Zi,bm];rw[getElem!_pos z.cells j br]
    . exact J2T ao _ (Xd b3))
   refine J0w (u:=.slice (some ⟨w.heap.size,0,none⟩) m m) (w':=w.alloc (.cells (madeCells z.cells (m*i.size)) e)) ?_ ⟨_,M',ar,_,_,Z,rfl,n3 m (Qd _),n1,n2,n5,b8⟩;refine J1c (s:=Instr.makeSlice t (a.eval l) (a.eval c)) ?_;rw[hl,bq];exact hr
 . -- a new map
   rename_i t;simp only[Qt] at B;obtain⟨⟨ik,kt,et,e⟩,hm,rfl⟩:=B;obtain⟨kk,Z,rfl,L⟩:=J0A h;obtain⟨M',n1,n2⟩:=J3l (w':=w.alloc (.map #[] 0)) D (some w.heap.size,0,0) (.map ik []) (fun n e=>by simpa using e.symm) rfl (J0S.rf rfl rfl) rfl (by rw[J1Z];omega)
    (fun n hn=>J0G hn) (fun M' b7 hE=>⟨w.heap.size,0,#[],Sg.set_same _ _ _,(b7 _).2 (.inr rfl),J2B,True.intro⟩)
   refine J0w (u:=.map (some w.heap.size)) (w':=w.alloc (.map #[] 0)) ?_ ⟨_,M',_,.map kk,_,Z,rfl,.map _ _ _ _ _ (Sg.set_same _ _ _),n1,n2,J42 _ _ J3v,L⟩;refine J1c (s:=Instr.makeMap t none) ?_;simp[Instr.makeMap,go_sem]
 . -- lookup
   rename_i t m0 x0 C;split at B
   case h_2=>cases B
   rename_i ik kt et e m x hm O h2;simp only[Qt] at B;obtain⟨zv,hz,rfl⟩:=B;obtain⟨q1,q2⟩:=J8k hm;obtain⟨vm,hg,I⟩:=J0f O h;clear h;obtain⟨vx,h,ax⟩:=J0f h2 hg;clear hg;replace h:=J4O h;obtain⟨k,R,N,rfl,A,h⟩:=h;split at h
   case h_2=>exact h.elim
   rename_i a9;have a9:=Xe a9;subst a9;obtain⟨p,h,hp⟩:=J72 h;have W:=I M w σ a (ok _ (by simp[XOp.xs]));have dx:=hp M w σ _ (ax M w σ a (ok _ (by simp[XOp.xs])));obtain⟨b,κ,arr,Y,z2,X,z4⟩:=D.own.blk k _ (J0g A);have G:a.eval m0=.map (some b):=by
    generalize a.eval m0=q at W;cases W with
    | map _ _ b' _ _ hk=>rw[Y] at hk;cases hk;rfl
   obtain⟨zz,av,ao⟩:∃zz,(zeroValue et).run P w=.ok zz w/\J77 zz=some zv:=by
    unfold X8T at hz;split at hz
    . rename_i i hi;split at hz
      . rename_i zz av;exact⟨zz,by simp[zeroValue,typeInfo,Sem.run_bind,hi,av,go_sem],hz⟩
      . cases hz
    . cases hz
   have dz:Den M w σ zv zz:=J6z ao σ;rcases J8s q2 p arr.toList N 0 z4 0 with ⟨n,x',v,a1,a2,a3,a4,a5,_⟩ | ⟨a1,a2,_⟩
   . have L:=h.hit v a4;refine J0w (u:=if C then .tuple #[x'.val,.bool true] else x'.val) (w':=w) ?_ ⟨_,M,σ,if C then .tup [v,.bool true] else v,own,ks,rfl,?_,D,Tr.refl _ _ _ _,Kd.refl _ _ _,?_⟩
     . refine J1c (s:=Instr.lookup t (a.eval m0) (a.eval x0) C) ?_;rw[G,dx];simp only[Instr.lookup,Sem.run_bind,run_underlying q1,MapKept.run_getObj_map X,Result.andThen_ok,Sem.run_pure,J2P q2,J3n q2,a1]
     . cases C
       . exact a5.none_le
       . exact J7u a5.none_le (.bool _ _)
     . cases C<;>exact L
   . have L:=h.miss a2;refine J0w (u:=if C then .tuple #[zz,.bool false] else zz) (w':=w) ?_ ⟨_,M,σ,if C then .tup [zv,.bool false] else zv,own,ks,rfl,?_,D,Tr.refl _ _ _ _,Kd.refl _ _ _,?_⟩
     . refine J1c (s:=Instr.lookup t (a.eval m0) (a.eval x0) C) ?_;rw[G,dx];simp only[Instr.lookup,Sem.run_bind,run_underlying q1,MapKept.run_getObj_map X,Result.andThen_ok,Sem.run_pure,J2P q2,J3n q2,a1,av]
     . cases C
       . exact dz
       . exact J7u dz (.bool _ _)
     . cases C<;>exact L
 . -- a store
   rename_i t m0 x0 y0;split at B
   case h_2=>cases B
   rename_i ik kt et e m x y hm O h2 h3;cases B;obtain⟨q1,q2⟩:=J8k hm;obtain⟨vm,hg,I⟩:=J0f O h;clear h;obtain⟨vx,al,ax⟩:=J0f h2 hg;clear hg;obtain⟨vy,h,c0⟩:=J0f h3 al;clear al;replace h:=J4O h;obtain⟨k,R,N,rfl,A,h⟩:=h;split at h
   case h_2=>exact h.elim
   rename_i a9 ca;have a9:=Xe a9;subst a9;obtain⟨p,h,hp⟩:=J72 h;have W:=I M w σ a (ok _ (by simp[XOp.xs]));have dx:=hp M w σ _ (ax M w σ a (ok _ (by simp[XOp.xs])));have dy:=(c0 M w σ a (ok _ (by simp[XOp.xs]))).kf2 ca Sg.none;obtain⟨own',L,U,ai⟩:=J1h _ _ _ _ h D.own.nodup ⟨_,J0g A⟩;obtain⟨b,κ,arr,Y,z2,X,z4⟩:=D.own.blk k _ (J0g A);have G:a.eval m0=.map (some b):=by
    generalize a.eval m0=q at W;cases W with
    | map _ _ b' _ _ hk=>rw[Y] at hk;cases hk;rfl
   have az:=lt_of_getElem? X;obtain⟨F,E,bi⟩:∃F:Array MapEntry,(Instr.mapUpdate t (a.eval m0) (a.eval x0) (a.eval y0)).run P w=.ok () (setBlock w b (.map F F.size))/\Q5Q M w R F.toList (mput N p vy) 0:=by
    rw[G,dx];rcases J8s q2 p arr.toList N 0 z4 0 with ⟨n,x',v,a1,a2,a3,a4,a5,a6⟩ | ⟨a1,a2,a3⟩
    . refine⟨arr.modify n fun e=>{ e with key:=J2M R p,val:=a.eval y0 },?_,?_⟩
      . have hn:(arr[n]?).map (·.key)=some (J2M R p):=by
         rw[Z4] at a2;rw[a2];simp[a3]
        simp only[Qk] at a1;simp only[Instr.mapUpdate,Sem.run_bind,run_underlying q1,MapKept.run_getObj_map X,Result.andThen_ok,J2P q2,J3n q2,a1,hn,Xp,X2J,MapKept.run_setObj_map _ X,Array.size_modify];rfl
      . have:=a6 vy (a.eval y0) dy;simpa using this
    . refine⟨arr.push { key:=J2M R p,val:=a.eval y0,born:=arr.size },?_,?_⟩
      . simp only[Instr.mapUpdate,Sem.run_bind,run_underlying q1,MapKept.run_getObj_map X,Result.andThen_ok,J2P q2,J3n q2,a1,MapKept.run_setObj_map _ X,Array.size_push];rfl
      . have:=a3 vy (a.eval y0) dy;simpa using this
   have hw:=J2o (w':=setBlock w b (.map F F.size)) D k b (.map R N) (.map R (mput N p vy)) (J0g A) (.inl (by simp[J0u,Y])) ai U rfl (J0S.rf rfl rfl) rfl Q4v (fun n hn=>set_other hn)
    (fun hE=>⟨b,κ,F,Y,z2,set_same az,bi.mono hE⟩)
   unfold Oper.wp;have cg:(execOp a.eval ⟨dst,.mapUpdate t m0 x0 y0,type,pos,after,guard⟩).run P w=.ok .skip (setBlock w b (.map F F.size)):=by
    show((Instr.mapUpdate t (a.eval m0) (a.eval x0) (a.eval y0) >>= fun _=>pure Next.skip):Sem Next).run P w=_;rw[Sem.run_bind,E];rfl
   rw[cg];exact⟨undef,M,σ,_,own',ks,rfl,.raw _ _,hw.1,hw.2,Q9A U,L⟩
 . -- range
   rename_i t x0;split at B
   case h_2=>cases B
   rename_i pp hm;obtain⟨ik,kt,et,e⟩:=pp;simp only[Qt] at B;obtain⟨x,O,rfl⟩:=B;obtain⟨q1,_⟩:=J8k hm;obtain⟨vm,h,I⟩:=J0f O h;obtain⟨k,R,N,rfl,A,h⟩:=J4O h;obtain⟨kk,Z,rfl,L⟩:=J0A h;have W:=I M w σ a (ok _ (by simp[XOp.xs]));obtain⟨b,κ,arr,Y,z2,X,z4⟩:=D.own.blk k _ (J0g A);have G:a.eval x0=.map (some b):=by
    generalize a.eval x0=q at W;cases W with
    | map _ _ b' _ _ hk=>rw[Y] at hk;cases hk;rfl
   have J:arr.size=N.length:=by have:=z4.length;simpa using this
   have c8:k≠kk:=fun e=>by
    have:=D.fresh kk (by simp);rw[<- e,Y] at this;cases this
   obtain⟨M',n1,n2⟩:=J3l (w':=w.alloc (.mapIter (some b) arr.size #[] arr.size)) D (some w.heap.size,0,0) (.iter k N.length []) (fun n e=>by simpa using e.symm) rfl (J0S.rf rfl rfl) rfl (by rw[J1Z];omega)
    (fun n hn=>J0G hn) (fun M' b7 hE=>⟨w.heap.size,0,b,0,κ,Sg.set_same _ _ _,(b7 _).2 (.inr rfl),by rw[Sg.set_other _ _ _ c8];exact Y,by rw[<- J];exact J2B⟩)
   refine J0w (u:=.pointer (some ⟨w.heap.size,0,none⟩)) (w':=w.alloc (.mapIter (some b) arr.size #[] arr.size)) ?_ ⟨_,M',_,.loc kk 0,_,Z,rfl,.loc _ _ _ _ _ _ (Sg.set_same _ _ _),n1,n2,J42 _ _ J3v,L⟩;refine J1c (s:=Instr.range t (a.eval x0)) ?_;rw[G];exact run_range_map w t kt et b arr arr.size q1 X
 . -- next
   rename_i x0;simp only[Qt] at B;obtain⟨x,O,rfl⟩:=B;obtain⟨vm,h,I⟩:=J0f O h;obtain⟨k,km,n,J11,ik,N,rfl,A,ak,J,h⟩:=J8j h;have W:=I M w σ a (ok _ (by simp[XOp.xs]));obtain⟨r,κ,b,base,au,y1,y2,y3,y4⟩:=D.own.blk k _ (J0g A);obtain⟨b',ba,arr,Y,z2,X,z4⟩:=D.own.blk km _ (J0g ak);rw[Y] at y3;simp only[Qf,Qu] at y3;obtain⟨rfl,rfl,rfl⟩:=y3;have G:a.eval x0=.pointer (some ⟨r,0,none⟩):=by
    generalize a.eval x0=q at W;cases W with
    | loc _ _ _ b2 b9 _ hk=>rw[y1] at hk;cases hk;rfl
   have ah:arr.size=n:=by rw[<- J];have:=z4.length;simpa using this
   have ab:∀(j:Nat) (e:MapEntry),arr[j]?=some e->∃p,N[j]?=some p/\e.key=J2M ik p.1/\e.born=j/\Den M w Sg.none p.2 e.val:=fun j e he=>by
    obtain⟨p,c1,c2,c3,c4⟩:=z4.get j e (by simpa using he);exact⟨p,c1,c2,by omega,c4⟩
   have bj:∀e∈arr.toList,e.born<n:=fun e he=>by
    obtain⟨j,hj⟩:=Yt he;obtain⟨p,c1,_,c3,_⟩:=ab j e (by simpa using hj);have:=(Qs.1 c1).1;omega
   have bp:=lt_of_getElem? y4;rcases run_next_at (P:=P) w type r b' n n J11.toArray arr arr.size y4 X bj (Qd _) with ⟨h0,E⟩ | ⟨e,he,w1,cm,E⟩
   . have bw:∀i,i<n->i∈J11:=by
      intro i hi;apply X7;intro c7;have bt:i<arr.size:=by omega
      obtain⟨p,_,_,c3,_⟩:=ab i arr[i] (by simp[bt]);have af:arr[i]∈leftOf arr J11.toArray:=by
       unfold leftOf;rw[Array.mem_filter];refine⟨Array.getElem_mem bt,?_⟩;simp[c3,c7]
      have:0<(leftOf arr J11.toArray).size:=by
       obtain⟨q,hq,_⟩:=Vs.1 af;omega
      omega
     refine J0w (u:=.tuple #[.bool false]) (w':=w) ?_ ⟨_,M,σ,_,own,ks,rfl,X3d (.bool _ _),D,Tr.refl _ _ _ _,Kd.refl _ _ _,h.over bw⟩;refine J1c (s:=Instr.next (a.eval x0) false type) ?_;rw[G];exact E
   . have aa:e∈leftOf arr J11.toArray:=by simpa using he
     unfold leftOf at aa;rw[Array.mem_filter] at aa;obtain⟨ch,bv⟩:=aa;obtain⟨j,hj,cb⟩:=Vs.1 ch;obtain⟨p,c1,c2,c3,c4⟩:=ab j e (by rw[<- cb];simp[hj]);have bk:j∉J11:=by
      rw[c3] at bv;simpa using bv
     have hA:=h.one j p (by omega) bk c1;obtain⟨own',L,U,ai⟩:=J1h _ _ _ _ hA D.own.nodup ⟨_,J0g A⟩;have ct:km≠k:=fun e=>by
      subst e;rw[A] at ak;cases ak
     have a0:w1.heap=w.heap/\w1.os=w.os/\J0S w1 w/\w1.output=w.output:=by rcases cm with rfl|rfl<;>exact⟨rfl,rfl,⟨rfl,by first|exact Qd _|exact J2 _⟩,rfl⟩
     let w':=setBlock w1 r (.mapIter (some b') n (J11.toArray.push e.born) arr.size);have aw:=J2o (w':=w') D k r _ (.iter km n (J11++[j])) (J0g A) (.inl (by simp[J0u,y1])) ai U a0.2.1 ⟨a0.2.2.1.eq,a0.2.2.1.le⟩ a0.2.2.2 (by simp[w',Q4v,a0.1])
      (fun q hq=>by show(setBlock w1 r _).heap[q]?=_;rw[set_other hq,a0.1]) (fun hE=>by
        refine⟨r,κ,b',0,ba,y1,y2,Y,?_⟩;show(setBlock w1 r _).heap[r]?=_;rw[set_same (by rw[a0.1];exact bp),ah,c3];simp)
     have hE:=aw.2.ext D.own;refine J0w (u:=.tuple #[.bool true,e.key,e.val]) (w':=w') ?_ ⟨_,M,σ,_,own',ks,rfl,?_,aw.1,aw.2,Q9A U,L⟩
     . refine J1c (s:=Instr.next (a.eval x0) false type) ?_;rw[G];exact E
     . rw[c2];exact X3c (.bool _ _) (Q5o _) (c4.none_le.mono hE (Sg.le_refl _))
 . -- entry
   rename_i x0;simp only[Qt] at B;obtain⟨x,O,rfl⟩:=B;obtain⟨vm,h,I⟩:=J0f O h;obtain⟨k,km,n,J11,ik,N,rfl,A,ak,J,j,b0,p,hp,L⟩:=J8j h;have W:=I M w σ a (ok _ (by simp[XOp.xs]));obtain⟨r,κ,b,base,au,y1,y2,y3,y4⟩:=D.own.blk k _ (J0g A);obtain⟨b',ba,arr,Y,z2,X,z4⟩:=D.own.blk km _ (J0g ak);rw[Y] at y3;simp only[Qf,Qu] at y3;obtain⟨rfl,rfl,rfl⟩:=y3;have G:a.eval x0=.pointer (some ⟨r,0,none⟩):=by
    generalize a.eval x0=q at W;cases W with
    | loc _ _ _ b2 b9 _ hk=>rw[y1] at hk;cases hk;rfl
   have ah:arr.size=n:=by rw[<- J];have:=z4.length;simpa using this
   have hj:j<arr.size:=by have:=(Qs.1 hp).1;omega
   obtain⟨p',c1,c2,c3,c4⟩:=z4.get j arr[j] (by simp[hj]);rw[hp] at c1;cases c1;have cj:(arr.toList.map (·.born)).Nodup:=by
    have:∀(l:List MapEntry) (N:List (KyT ik×V)) (i:Nat),Q5Q M w ik l N i->(l.map (·.born)).Nodup/\∀e∈l,i<=e.born:=by
     intro l
     induction l with
     | nil=>intro N i _;simp
     | cons e l ih =>
       intro N i hr;cases N with
       | nil=>exact hr.elim
       | cons q N =>
         obtain⟨d1,d2⟩:=ih N (i+1) hr.2;refine⟨?_,fun e' aa=>?_⟩
         . simp only[Qv,Q2];refine⟨fun hm=>?_,d1⟩;obtain⟨e',aa,hb⟩:=Qi.1 hm;have:=d2 e' aa;have:=hr.1.2.1;omega
         . rcases Qj.1 aa with e1|e1
           . subst e1;have:=hr.1.2.1;omega
           . have:=d2 e' e1;omega
    exact(this _ _ _ z4).1
   obtain⟨pre,rfl⟩:∃pre,J11=pre++[j]:=by
    obtain⟨ys,bz⟩:=List.getLast?_eq_some_iff.1 b0;exact⟨ys,bz⟩
   have hit:w.heap[r]?=some (.mapIter (some b') n (pre.toArray.push (arr[j]).born) arr.size):=by
    rw[y4,c3,ah];simp
   refine J0w (u:=.tuple #[(arr[j]).key,(arr[j]).val]) (w':=w) ?_ ⟨_,M,σ,_,own,ks,rfl,?_,D,Tr.refl _ _ _ _,Kd.refl _ _ _,L⟩
   . refine J1c (s:=Instr.entry (a.eval x0)) ?_;rw[G];exact run_entry_at w r b' n pre.toArray arr arr.size arr[j] hit X (by simp) cj
   . rw[c2];exact J7u (Q5o _) c4.none_le
 . -- an element of the package's table
   rename_i T g i0;split at B
   case h_2=>cases B
   rename_i n e x O h2;simp only[Qt] at B;obtain⟨s,hs,rfl⟩:=B;obtain⟨v,h,hv⟩:=J0f h2 h;have dv:=hv M w σ a (ok _ (by simp[XOp.xs]));split at h
   case h_2=>exact h.elim
   rename_i k n';unfold Y01 at h;split at h
   case h_2=>exact h.elim
   rename_i g' m f A;split at h
   case h_2=>exact h.elim
   rename_i hg;have hg:=Qc hg;subst hg;split at h
   case h_2=>exact h.elim
   rename_i aj ay;have aj:=Qc aj;have ay:=Qc ay;subst aj ay;obtain⟨j,rfl,hj,L⟩:=h;obtain⟨_,hd⟩:=D.own.blk 999 _ (J0g A);have hi:a.eval i0=.int k j:=by generalize a.eval i0=q at dv;cases dv;rfl
   have E:(execOp a.eval ⟨dst,.indexAddr T (.global g) i0,type,pos,after,guard⟩).run P w=.ok (.value (.pointer (some ⟨g,0+j*1,none⟩))) w:=by
    refine J1c (s:=Instr.indexAt T (a.eval (.global g)) (a.eval i0)) ?_;rw[show a.eval (.global g)=.pointer (some ⟨g,0,none⟩) from rfl,hi];have h0:(0:Int)<=j/\(j:Int)<n:=by omega
    simp[Instr.indexAt,asIntOf,Sem.run_bind,run_underlying O,J1d hs,J1I,h0,go_sem,Instr.sureAddr];intro cu;omega
   refine J0w (u:=.pointer (some ⟨g,0+j*1,none⟩)) (w':=w) E ⟨_,M,σ,_,own,ks,rfl,?_,D,Tr.refl _ _ _ _,Kd.refl _ _ _,L⟩;generalize hq:(Value.pointer (some ⟨g,0,none⟩))=q at hd;cases hd with
   | fe _ _ _ _ _ _ b off u hi hM hb b4 O hd =>
     simp only[Value.pointer.injEq,Qf,Addr.mk.injEq] at hq;obtain⟨rfl,e2,_⟩:=hq;have e3:off=0:=by omega
     subst e3;have:=Den.fe (M:=M) (w:=w) σ n 1 f j 0 g 0 u hj hM hb b4 O hd;simpa using this
 . -- a slice of an array: it is frozen
   rename_i t x0 bs;split at B
   case h_2=>cases B
   rename_i n e O;split at B
   case h_2=>cases B
   rename_i s x hi h2 h3 h4;cases B;obtain⟨vp,h,c5⟩:=J0f h3 h;split at h
   case h_2=>exact h.elim
   rename_i k s';split at h
   case h_2=>exact h.elim
   rename_i n' bx f A;split at h
   case h_2=>exact h.elim
   rename_i e1 e2 e3;have e1:=Qc e1;have e2:=Qc e2;have e3:=Qq e3;subst e1 e2;obtain⟨H,L,ck⟩:=J0C h4 h;have dp:=c5 M w σ a (ok _ (by simp[XOp.xs]));have g1:=ck.ev (fun y hy=>ok y (by simp[XOp.xs,hy]));have c9:H<=n:=by rcases g1 with ⟨_,g⟩ | ⟨_,_,g⟩<;>omega
   generalize c6:a.eval x0=q at dp;cases dp with
   | oel _ _ _ _ _ b base κ hk =>
     have af:=J0g A;obtain⟨bo,ae,au,s1,s2,s3⟩:=D.own.blk k _ af;rw[s1] at hk;simp only[Qf,Qu] at hk;obtain⟨rfl,rfl,rfl⟩:=hk;have a8:look (J2n [k] own) k=some (.vec n' s f):=J8c (J7n D [k]).nodup (J07.2 ⟨af,by simp⟩);have hf:X7p own (.vec k s 0 H) fun v' own'=>v'=.fz H s false f/\own'=J2J [k] own:=by
      have b5:Q7c (J2n [k] own) (.vec k s 0 H) fun v'=>v'=.fz H s false f/\True:=by
       simp only[Q7c,a8,Vh];exact⟨by omega,rfl,trivial⟩
      simp only[X7p,J6w,A,bor];unfold X1s;split
      . rename_i e;cases e;simp only[a8];exact b5
      . rename_i e;cases e;simp only[a8];exact b5
      . exact b5
     obtain⟨v',own',⟨rfl,rfl⟩,b1,bh⟩:=J6v hf;obtain⟨M',f1,f2,f3,_⟩:=bh M w σ ks (.slice (some ⟨b,ae+0*s,none⟩) H au) D (.vec _ _ _ _ _ _ _ _ _ _ s1 rfl (by omega) fun _=>⟨b,rfl,rfl⟩);have dF:Den M' w σ (.fz H s false f) (.slice (some ⟨b,ae+0*s,none⟩) H n):=by
      cases f3 with
      | fz0=>exact .fz0 _ _ _ _ _ _ (fun h=>by cases h)
      | fz _ _ _ _ _ _ _ _ u a1 a2 a3 a4 a5 a6 a7=>exact .fz _ _ _ _ _ _ _ _ u c9 (fun h=>by cases h) a3 a4 a5 a6 a7
     refine J0w (u:=.slice (some ⟨b,ae+0*s,none⟩) H n) (w':=w) ?_ ⟨_,M',σ,_,_,ks,rfl,dF,f1,f2,⟨fun _ h=>h,fun _ h _=>h,fun k hk=>.inl (b1 k hk)⟩,L⟩;refine J1c (s:=Instr.sliceAt t (a.eval x0) none (bs.map a.eval) none) ?_;rw[c6];have hb:=J1G (P:=P) (w:=w) (isSlice:=false) (len:=n) (cap:=n) (l:=0) (h:=H) (m:=n) (low:=none) (high:=bs.map a.eval) (max:=none) (.inl ⟨rfl,rfl⟩) (by
      rcases g1 with ⟨g,g'⟩ | ⟨k,g,g'⟩
      . subst g;exact .inl ⟨rfl,rfl,g'⟩
      . exact .inr ⟨k,g,g'⟩) (.inl ⟨rfl,rfl⟩)
     simp[Instr.sliceAt,Sem.run_bind,run_underlying O,hb,J1d h2,go_sem,Instr.sureAddr,J1I]
 . -- copy
   rename_i args ats;split at B
   case h_2=>cases B
   rename_i x0 y0 t t2 O h2;split at B
   case h_2=>cases B
   rename_i e h3;split at B
   case h_2=>cases B
   rename_i s x y h4 h5 h6;cases B;obtain⟨vx,bu,hx⟩:=J0f h5 h;clear h;obtain⟨vy,al,hy⟩:=J0f h6 bu;clear bu;have dx:=hx M w σ a (ok _ (by simp[XOp.xs]));have dy:=hy M w σ a (ok _ (by simp[XOp.xs]));have S:ats[0]?=some t:=by rw[<- Z4,h2];rfl
   have ac:args.map a.eval=#[a.eval x0,a.eval y0]:=by
    apply Zf;simp[O]
   have cn:∀(u:Value) (w':World),(Builtin.copy_ ats type #[a.eval x0,a.eval y0]).run P w=.ok u w' ->
    (execOp a.eval ⟨dst,.call ⟨.builtin .copy,args,ats⟩,type,pos,after,guard⟩).run P w=.ok (.value u) w':=by
    intro u w' hu;show((pure { target:=Target.builtin .copy ats type (args.map fun | .const _=>true|_=>false),args:=args.map a.eval }:Sem Deferred) >>= fun d=>invoke d.target d.args).run P w=_;rw[Sem.run_bind,ac];exact J1c hu
   obtain⟨m,fy,hq,bg⟩:=J58 al;clear al;have hS:=bg M w σ _ dy D.own;have h:=hq;clear hq;generalize a.eval x0=ux at *;generalize a.eval y0=uy at *;split at h
   case h_2=>exact h.elim
   rename_i k s' lo len;split at h
   case h_2=>exact h.elim
   rename_i n bx f A;split at h
   case h_2=>exact h.elim
   rename_i e1 e2;have e1:=Qc e1;have e2:=Qc e2;subst e1 e2;obtain⟨l0,l1,h⟩:=h;obtain⟨own',L,U,ai⟩:=J1h _ _ _ _ h D.own.nodup ⟨_,J0g A⟩;obtain⟨us,u1,u2,u3,u4,u5⟩:=hS.firstCells (P:=P) (w':=w) rfl;have cp:=dx;cases dx with
   | vec _ _ _ _ _ bo base κ c ad hk B hl ha =>
     obtain⟨_,w',bf,H,tr⟩:=J7C (P:=P) D A cp (at_:=0) (m:=m) u1 (by omega) u4 u5 (by simpa using ai) U;have aq:Nat.min m len=m:=Kx l0;have q0:∀(x y:Value),(#[x,y]:Array Value)[0]?=some x:=fun _ _=>rfl;have q1:∀(x y:Value),(#[x,y]:Array Value)[1]?=some y:=fun _ _=>rfl;have E:(Builtin.copy_ ats type #[.slice ad len c,uy]).run P w=.ok (.int .i64 m) w':=by
      have ah:=J1d h4 w;cases b6:ats[1]? with
      | none=>simp at b6;exact absurd (X6 List.length h2) (by simp;omega)
      | some q =>
      cases ad with
      | none =>
        have:w'=w:=by cases bf;rfl
        subst this;simp only[Builtin.copy_,S,q0,q1,Sem.run_bind,run_underlying h3,Result.andThen_ok,u3,ah,aq,u2,Sem.run_pure,goInt]
      | some ad =>
        have be:(storeCells ad us 0).run P w=.ok () w':=by simpa[Addr.add] using bf
        simp only[Builtin.copy_,S,q0,q1,Sem.run_bind,run_underlying h3,Result.andThen_ok,u3,ah,aq,u2,be,Sem.run_pure,goInt]
     exact J0w (cn _ w' E) ⟨_,M,σ,_,_,_,rfl,.int _ _ _,H,tr,Q9A U,L⟩
 . -- the length of a map
   rename_i args ats;split at B
   case h_2=>cases B
   rename_i x0 t O h2;split at B
   case h_2=>cases B
   rename_i kt et h3;simp only[Qt] at B;obtain⟨x,h4,rfl⟩:=B;obtain⟨vm,h,I⟩:=J0f h4 h;obtain⟨k,R,N,rfl,A,L⟩:=J4O h;have W:=I M w σ a (ok _ (by simp[XOp.xs]));obtain⟨b,κ,arr,Y,z2,X,z4⟩:=D.own.blk k _ (J0g A);have G:a.eval x0=.map (some b):=by
    generalize a.eval x0=q at W;cases W with
    | map _ _ b' _ _ hk=>rw[Y] at hk;cases hk;rfl
   have J:arr.size=N.length:=by have:=z4.length;simpa using this
   have S:ats[0]?=some t:=by rw[<- Z4,h2];rfl
   have ac:args.map a.eval=#[a.eval x0]:=by
    apply Zf;simp[O]
   refine J0w (u:=.int .i64 N.length) (w':=w) ?_ ⟨_,M,σ,_,own,ks,rfl,.int _ _ _,D,Tr.refl _ _ _ _,Kd.refl _ _ _,L⟩;show((pure { target:=Target.builtin .len ats type (args.map fun | .const _=>true|_=>false),args:=args.map a.eval }:Sem Deferred) >>= fun d=>invoke d.target d.args).run P w=_;rw[Sem.run_bind,ac,G];refine J1c (s:=Builtin.len_ ats type #[.map (some b)]) ?_;have q0:∀(x:Value),(#[x]:Array Value)[0]?=some x:=fun _=>rfl;simp only[Builtin.len_,S,q0,Sem.run_bind,run_underlying h3,MapKept.run_getObj_map X,Result.andThen_ok,Sem.run_pure,goInt,J]
 . cases B
def SOp.isEff:SOp->Bool
 | .xt (.mks _ _ _ _)=>false
 | .asg _ | .store _ _ _ | .app _ _ _ _ | .clr _ _ _ | .call _ _ | .callv _ _ | .xt _=>true
 | _=>false
theorem J1V {P:Program} {f:FuncId} (h:J08 P f=true) (args:Array Value) (w:World):(callFunc f args).run P w=.ok (.enter f args) w:=by
 unfold J08 at h;split at h
 . rename_i fn b;split at h
   . rename_i c d;split at h
     . cases h
     . rename_i a;simp only[callFunc,Sem.run_bind,run_program,Result.andThen_ok,b,a,d,Option.isNone_some,Xf,Xy,Sem.run_pure]
   . cases h
 . cases h
theorem X0z {P:Program} {e:TypeId} {s:Nat} {g:List V} (F:J3s P e=some s) (E:J1S P e=some g) (v:g.length=s) (M:Nat->Prop) (w:World) :
 ∃z,(zeroValue e).run P w=.ok z w/\∀n,((Builtin.zeroCells z.cells n).toList).length=n*s/\(∀i j,i<n->j<s->∃x,(Builtin.zeroCells z.cells n).toList[i*s+j]?=some x/\Den M w Sg.none (g.getD j default) x) /\
  ∀x∈(Builtin.zeroCells z.cells n).toList,x.oneCell'=true:=by
 obtain⟨i,z,D,hz,m⟩:=J0W E;obtain⟨A,u⟩:=J0O (M:=M) (w:=w) Sg.none m;have t:=J2T m;have k:z.cells.size=s:=by simpa using(A.symm.trans v)
 refine⟨z,by simp[zeroValue,typeInfo,Sem.run_bind,D,hz,go_sem],fun n=>?_⟩;have d:(Builtin.zeroCells z.cells n).toList.length=n*s:=by simp[Builtin.zeroCells,k]
 have f:∀q,q<n*s->(Builtin.zeroCells z.cells n).toList[q]?=some (z.cells[q % s]!):=by
  intro q l;simp[Builtin.zeroCells,k,l]
 refine⟨d,?_,?_⟩
 . intro i j r C;have l:i*s+j<n*s:=by
    have:(i+1)*s<=n*s:=Q5 _ r;rw[Zv] at this;omega
   refine⟨_,f _ l,?_⟩;have p:(i*s+j) % s=j:=by rw[Xw,Kw];exact Xh C
   rw[p];have c:j<g.length:=by omega
   have b:j<z.cells.size:=by omega
   have:=u j (g[j]) (z.cells[j]) (by simp[c]) (by simp[b]);simpa[List.getD,c,getElem!_pos z.cells j b] using this
 . intro x B;obtain⟨q,l,he⟩:=List.getElem_of_mem B;have o:q<n*s:=by rw[<- d];exact l
   have y:=f q o;rw[Qp l,he] at y;cases y;have a:0<s:=by
    rcases Q4 s with h|h
    . subst h;simp at o
    . exact h
   have b:q % s<z.cells.size:=by rw[k];exact Z5 _ a
   have c:q % s<g.length:=by rw[v];exact Z5 _ a
   have hd:=u (q % s) (g[q % s]) (z.cells[q % s]) (by simp[c]) (by simp[b]);have:=hd.oneCell (t _ (Xd c));simpa[getElem!_pos z.cells (q % s) b] using this
theorem J9N {P:Program} {o:Oper} {so:SOp} (hc:cOp P o.op=some so) (ai:∀x xs,so≠.callv x xs) (he:so.isEff=true) {env:Env} {own:Own} {ks:List Nat} {K:V->Own->List Nat->Prop} (h:vop P so env own ks K)
 {M:Nat->Prop} {w:World} {σ:Sg} {a:Act} (ok:∀x,x∈so.xs->XOk M w σ env a x) (S:J0T M w σ own ks) (Q:Exit->Act->World->Prop):o.wp P a w (OP o a M w σ own ks K) Q:=by
 obtain⟨dst,op,type,pos,after,guard⟩:=o;have hw:=J2r hc;simp only at hw;cases hw<;>simp only[SOp.isEff,reduceCtorEq] at he
 case callv=>exact(ai _ _ rfl).elim
 case xt xo hx=>exact Q7f (o:=⟨dst,op,type,pos,after,guard⟩) hx h ok S Q
 case asg x0 x hx =>
  obtain⟨v,D,hv⟩:=J0f hx h;exact J0w (o:=⟨dst,.assign x0,type,pos,after,guard⟩) (u:=a.eval x0) rfl ⟨_,M,σ,v,own,ks,rfl,hv M w σ a (ok _ (by simp[SOp.xs])),S,Tr.refl _ _ _ _,Kd.refl _ _ _,D⟩
 case store t a0 x0 n xa xx h1 h2 h3 h4 =>
  obtain⟨p,h,hp⟩:=J0f h3 h;obtain⟨v,h,hv⟩:=J0f h4 h;obtain⟨v1,L,h,a4,a7⟩:=J95 h;obtain⟨M1,B,F,ag,a8⟩:=a7 M w σ ks _ S (hv M w σ a (ok _ (by simp[SOp.xs])));obtain⟨w',own',r1,J,I,H,D⟩:=Q1h h1 h2 h B ((hp M w σ a (ok _ (by simp[SOp.xs]))).mono a8 (Sg.le_refl _)) ag;have C:(execOp a.eval ⟨dst,.store t a0 x0,type,pos,after,guard⟩).run P w=.ok .skip w':=by
   show((Instr.storeAt t (a.eval a0) (a.eval x0) >>= fun _=>pure Next.skip):Sem Next).run P w=_;rw[Sem.run_bind,r1];rfl
  unfold Oper.wp;rw[C];exact⟨undef,M1,σ,_,own',ks,rfl,.raw _ _,J,F.trans I,⟨fun _ h=>h,fun _ h _=>h,fun k hk=>.inl (a4 k (H k hk))⟩,D⟩
 case call f args ats xs h1 h2 =>
  obtain⟨vs,h,hl,af⟩:=J4Q h2 h;have C:(execOp a.eval ⟨dst,.call ⟨.value (.func f),args,ats⟩,type,pos,after,guard⟩).run P w=.ok (.enter f (args.map a.eval)) w:=by
   rw[execOp_call_go];have:#[]++args.map a.eval++#[]=args.map a.eval:=by simp
   rw[this];exact J1V h1 _ w
  unfold Oper.wp;rw[C];have A:args.map a.eval=(args.toList.map a.eval).toArray:=by
   apply Zf;simp
  rw[A];refine(h.out M w σ (args.toList.map a.eval) (by simpa using hl) (af M w σ a ok) S).mono ?_;rintro e w' ⟨M',l,v,own',N,u,rfl,d,a6,tr,kd,D⟩;exact⟨u,M',l,v,own',N,rfl,d,a6,tr,kd,J6o D⟩
 case app args ats t t2 e e2 s b zs x0 y0 x y h1 h2 h3 h4 h5 h6 h7 h8 h9 h10 =>
  obtain⟨vx,ab,hx⟩:=J0f h8 h;clear h;obtain⟨vy,j,hy⟩:=J0f h9 ab;clear ab;have dx:=hx M w σ a (ok _ (by simp[SOp.xs]));have dy:=hy M w σ a (ok _ (by simp[SOp.xs]));have g:ats[0]?=some t:=by rw[<- Z4,h2];rfl
  have r:ats[1]?=some t2:=by rw[<- Z4,h2];rfl
  have A:args.map a.eval=#[a.eval x0,a.eval y0]:=by
   apply Zf;simp[h1]
  have E:∀(u:Value) (w':World),(Builtin.append_ ats type #[a.eval x0,a.eval y0]).run P w=.ok u w' ->
   (execOp a.eval ⟨dst,.call ⟨.builtin .append,args,ats⟩,type,pos,after,guard⟩).run P w=.ok (.value u) w':=by
   intro u w' hu;show((pure { target:=Target.builtin .append ats type (args.map fun | .const _=>true|_=>false),args:=args.map a.eval }:Sem Deferred) >>= fun d=>invoke d.target d.args).run P w=_;rw[Sem.run_bind,A];exact J1c hu
  have core:∀{X Y:V},X=vx->Y=vy->J8W own ks s b X Y K->Oper.wp P ⟨dst,.call ⟨.builtin .append,args,ats⟩,type,pos,after,guard⟩ a w (OP ⟨dst,.call ⟨.builtin .append,args,ats⟩,type,pos,after,guard⟩ a M w σ own ks K) Q:=by
   intro X Y eX eY W;subst eX eY;obtain⟨al,L,W,a4,a7⟩:=Q27 W;obtain⟨M1,B,F,aj,a8⟩:=a7 M w σ _ S dy;have Z:=dx.mono a8 (Sg.le_refl _);have U:∀{l:Sg} {o:Own} {k:List Nat},Kd σ L ks l o k->Kd σ own ks l o k:=fun h=>⟨h.1,h.2.1,fun q hq=>(h.2.2 q hq).imp (a4 q) id⟩;obtain⟨m,fy,hq,a9⟩:=J58 W;clear W;have hS:=a9 M1 w σ _ aj B.own;have h:=hq;clear hq;split at h
   . obtain⟨l1,l2,h⟩:=h;obtain⟨k,N,rfl,D⟩:=J0A h;generalize a.eval x0=ux at *;cases Z;obtain⟨u,w',M',l,r1,J,I,H,r5⟩:=J61 (ty:=type) g r h3 h4 h5 h6 h7 h10 B hS l1 l2 none;exact J0w (E u w' r1) ⟨u,M',l,_,_,_,rfl,H,J,F.trans I,U r5,D⟩
   . obtain⟨l1,l2,h⟩:=h;obtain⟨k,N,rfl,D⟩:=J0A h;generalize a.eval x0=ux at *;have:∃ad,ux=.slice ad 0 0:=by
      cases Z with
      | fz0 _ _ _ _ ad c hf=>exact⟨ad,by rw[hf rfl]⟩
      | fz _ _ _ _ _ b off c u hc hf=>exact⟨_,by rw[hf rfl]⟩
     obtain⟨ad,rfl⟩:=this;obtain⟨u,w',M',l,r1,J,I,H,r5⟩:=J61 (ty:=type) g r h3 h4 h5 h6 h7 h10 B hS l1 l2 ad;exact J0w (E u w' r1) ⟨u,M',l,_,_,_,rfl,H,J,F.trans I,U r5,D⟩
   . rename_i k s' lo len;split at h
     . rename_i n ac f i;split at h
       . rename_i T e2;have T:=Qc T;have e2:=Qc e2;subst T e2;have a1:Q7t L ks s b k lo len n m f fy K->Oper.wp P ⟨dst,.call ⟨.builtin .append,args,ats⟩,type,pos,after,guard⟩ a w (OP ⟨dst,.call ⟨.builtin .append,args,ats⟩,type,pos,after,guard⟩ a M w σ own ks K) Q:=by
          intro h;obtain⟨l0,l1,l2,h⟩:=h;obtain⟨k',N,rfl,h⟩:=J0A h;obtain⟨own',D,a3,R⟩:=J3Q _ _ _ h B.own.nodup;obtain⟨u,w',M',l,r1,J,I,H,r5⟩:=Q6V (ty:=type) g r h3 h4 h5 h6 h7 h10 B hS i Z l0 l1 l2 R a3;exact J0w (E u w' r1) ⟨u,M',l,_,_,_,rfl,H,J,F.trans I,U r5,D⟩
         by_cases heq:Nat.beq (lo+len) n=true
         . exact a1 (h.1 heq)
         replace h:=h.2 (Bool.eq_false_iff.2 heq);by_cases a5:Nat.ble (lo+len+m) n=true
         . obtain⟨own',D,O,a2⟩:=J1h _ _ _ _ (h.1 a5) B.own.nodup ⟨_,J0g i⟩;obtain⟨u,w',r1,J,I,H⟩:=Q38 (ty:=type) g r h3 h4 h5 B hS i Z (Qq a5) a2 O;exact J0w (E u w' r1) ⟨u,M1,σ,_,_,_,rfl,H,J,F.trans I,U ⟨fun _ h=>h,fun _ h _=>h,fun k hk=>.inl (by rw[O] at hk;exact hk)⟩,D⟩
         . exact a1 (h.2 (Bool.eq_false_iff.2 a5))
       . exact h.elim
     . exact h.elim
   . exact h.elim
  unfold X1z at j;split at j
  . rename_i kx s0 lo n;split at j
    . rename_i n' s' len f i;split at j
      . rename_i kl s1 ao n1;split at j
        . rename_i q s2 an m ah;split at j
          . rename_i T;simp only[Qg,Nat.beq_eq] at T;obtain⟨⟨⟨⟨⟨⟨⟨rfl,rfl⟩,rfl⟩,rfl⟩,rfl⟩,rfl⟩,rfl⟩,rfl⟩:=T;obtain⟨l1,l2,l3,l4,j⟩:=j;obtain rfl:n=n':=Nat.le_antisymm l1 l2;obtain⟨k',N,rfl,j⟩:=J0A j;obtain⟨own',D,a3,R⟩:=J3Q _ _ _ j S.own.nodup;obtain⟨u,w',M',l,r1,J,I,H,r5⟩:=Q6W (ty:=type) g r h3 h4 h5 h6 h7 h10 S i dx ah dy rfl l3 l4 R a3;exact J0w (E u w' r1) ⟨u,M',l,_,_,_,rfl,H,J,I,r5,D⟩
          . exact j.elim
        . exact j.elim
      . exact j.elim
    . exact core rfl rfl j
  . exact core rfl rfl j
 case clr args ats t e s zs x0 x h1 h2 h3 h4 h5 h6 h7 =>
  obtain⟨v,hg,hx⟩:=J0f h6 h;clear h;have dx:=hx M w σ a (ok _ (by simp[SOp.xs]));have g:ats[0]?=some t:=by rw[<- Z4,h2];rfl
  have A:args.map a.eval=#[a.eval x0]:=by
   apply Zf;simp[h1]
  have E:∀(u:Value) (w':World),(Builtin.clear_ ats type #[a.eval x0]).run P w=.ok u w' ->
   (execOp a.eval ⟨dst,.call ⟨.builtin .clear,args,ats⟩,type,pos,after,guard⟩).run P w=.ok (.value u) w':=by
   intro u w' hu;show((pure { target:=Target.builtin .clear ats type (args.map fun | .const _=>true|_=>false),args:=args.map a.eval }:Sem Deferred) >>= fun d=>invoke d.target d.args).run P w=_;rw[Sem.run_bind,A];exact J1c hu
  generalize a.eval x0=ux at *;have h:=hg;clear hg;unfold vclr at h;split at h
  . cases dx;exact J0w (E (.tuple #[]) w (by simp[Builtin.clear_,g,run_underlying h3,go_sem])) ⟨_,M,σ,_,own,ks,rfl,.raw _ _,S,Tr.refl _ _ _ _,Kd.refl _ _ _,h⟩
  . rename_i k s' lo len;split at h
    . rename_i n ac f i;split at h
      . rename_i T e2;have T:=Qc T;have e2:=Qc e2;subst T e2;obtain⟨l0,h⟩:=h;obtain⟨own',D,O,a2⟩:=J1h _ _ _ _ h S.own.nodup ⟨_,J0g i⟩;obtain⟨z,hz,ae⟩:=X0z h4 h5 h7 M w;obtain⟨z1,z2,z3⟩:=ae len;have ak:=dx;cases dx with
        | vec _ _ _ _ _ bo base κ c ad hk hc hl ha =>
          obtain⟨_,w',G,a6,tr⟩:=J7C (P:=P) S i ak (at_:=0) (m:=len) z1 (by omega) z2 z3 (by simpa using a2) O;have C:(Builtin.clear_ ats type #[.slice ad len c]).run P w=.ok (.tuple #[]) w':=by
           cases ad with
           | none =>
             have:w'=w:=by cases G;rfl
             subst this;simp[Builtin.clear_,g,run_underlying h3,go_sem]
           | some ad =>
             cases len with
             | zero =>
               have:w'=w:=by
                have aa:(Builtin.zeroCells z.cells 0).toList=[]:=Xg (by omega);rw[aa] at G;cases G;rfl
               subst this;simp[Builtin.clear_,g,run_underlying h3,go_sem]
             | succ len =>
               simp only[Zr,Addr.add,Zl] at G;simp[Builtin.clear_,g,run_underlying h3,go_sem,hz];unfold Value.cells at G;rw[G];rfl
          exact J0w (E _ w' C) ⟨_,M,σ,_,_,_,rfl,.raw _ _,a6,tr,⟨fun _ h=>h,fun _ h _=>h,fun k hk=>.inl (by rw[O] at hk;exact hk)⟩,D⟩
      . exact h.elim
    . exact h.elim
  . exact h.elim
theorem J9r {P:Program} {o:Oper} {so:SOp} (c:cOp P o.op=some so) (b:so.isNew=false) (he:so.isEff=false) (e:∀z x,so≠.load z x) {env:Env} {own:Own} {ks:List Nat} {K:V->Own->List Nat->Prop}
 (h:vop P so env own ks K):∃v,K v own ks/\J89 P o so.xs env v:=by
 cases so<;>simp only[SOp.isNew,SOp.isEff,reduceCtorEq] at b he
 case p po =>
  have:Q0Y P o.op=some po:=by
   have a:=J2r c;generalize o.op=op at a;cases a with|p _ _ h=>exact h
  exact Q21 this h
 case build zs ps=>exact Q36 (K:=fun v=>K v own ks) c h
 case load z x=>exact(e z x rfl).elim
 case xt d=>cases d<;>simp at b he
theorem Q4g {P:Program} {o:Oper} {xs:List X} {env:Env} {v:V} (h:J89 P o xs env v) {M:Nat->Prop} {w:World} {σ:Sg} {a:Act} (ok:∀x,x∈xs->XOk M w σ env a x)
 {next:Act->World->Prop} {Q:Exit->Act->World->Prop} (b:∀u,Den M w σ v u->next (a.put o.dst u) w):o.wp P a w next Q:=by
 obtain⟨u,d,c⟩:=h M w σ a ok;exact J0w d (b u c)
theorem Q5S {P:Program} {o:Oper} {so:SOp} (i:cOp P o.op=some so) (m:∀x xs,so≠.callv x xs) {env:Env} {own:Own} {ks:List Nat} {K:V->Own->List Nat->Prop} (h:vop P so env own ks K)
 {M:Nat->Prop} {w:World} {σ:Sg} {a:Act} (ok:∀x,x∈so.xs->XOk M w σ env a x) (d:J0T M w σ own ks) (Q:Exit->Act->World->Prop):o.wp P a w (OP o a M w σ own ks K) Q:=by
 by_cases he:so.isEff=true
 . exact J9N i m he h ok d Q
 by_cases q:so.isNew=true
 . obtain⟨k,l,b,v,rfl,g,f,_⟩:=Q1W i q h;obtain⟨u,w',G,j,r1,C,B,A,_,y⟩:=f M w σ a own l ok d;exact J0w r1 ⟨u,G,j,v,_,_,rfl,A,C,B,y,g⟩
 by_cases s:∃z x,so=.load z x
 . obtain⟨z,x,rfl⟩:=s;obtain⟨t,x0,p,v,n,hz,g,_,hp,f,_⟩:=J9B i h;obtain⟨r,F,E⟩:=f M w σ _ (hp M w σ a (ok _ (by simp[SOp.xs]))) (fun k b _ hk=>d.own.blk k b (J0g hk));have c:(execOp a.eval o).run P w=.ok (.value r) w:=by
    obtain⟨dst,op,type,pos,after,guard⟩:=o;simp only at n;subst n;exact J1c F
   exact J0w c ⟨r,M,σ,v,own,ks,rfl,E,d,Tr.refl _ _ _ _,Kd.refl _ _ _,g⟩
 . obtain⟨v,g,f⟩:=J9r i (by simpa using q) (by simpa using he) (fun z x e=>s ⟨z,x,e⟩) h;exact Q4g f ok fun u D=>⟨u,M,σ,v,own,ks,rfl,D,d,Tr.refl _ _ _ _,Kd.refl _ _ _,g⟩
def Q4k (P:Program) (op:SOp) (env:Env) (own:Own) (ks:List Nat) (K:V->Own->List Nat->Prop):Prop :=
 match op with
 | .p (.slc s x b c mx a)=>X5f own s x b c mx a env fun v=>K v own ks
 | op=>vop P op env own ks K
theorem X0Q {P:Program} {op:Op} {s:Nat} {x:X} {b c mx:Option X} {a:Bool} (h:Q0Y P op=some (.slc s x b c mx a)) :
 ∃t e x0 low high max,op=.slice t x0 low high max/\P.underlying t=some (.slice e)/\J3s P e=some s/\cX x0=some x/\cXo low=some b/\cXo high=some c/\cXo max=some mx/\a=Q1z high max:=by
 cases op
 case slice t x0 low high max =>
  simp only[Q0Y] at h;unfold Y6F at h;split at h
  . rename_i e o f i d n m l k j;simp only[Qt] at h;obtain⟨p,g,he⟩:=h;cases he;exact⟨t,e,x0,low,high,max,rfl,n,g,m,l,k,j,rfl⟩
  . simp at h
  . cases h
 all_goals (simp only[Q0Y] at h;try (split at h<;>simp at h))
 all_goals (first|(simp at h;done)|(repeat' (split at h<;>first|(simp at h;done)|skip)))
 all_goals (rename_i he;cases he)
theorem Q22 {P:Program} {o:Oper} {so:SOp} (l:cOp P o.op=some so) (g:∀x xs,so≠.callv x xs) {env:Env} {own:Own} {ks:List Nat} {K:V->Own->List Nat->Prop} (h:Q4k P so env own ks K)
 {M:Nat->Prop} {w:World} {σ:Sg} {a:Act} (ok:∀x,x∈so.xs->XOk M w σ env a x) (f:J0T M w σ own ks) (Q:Exit->Act->World->Prop):o.wp P a w (OP o a M w σ own ks K) Q:=by
 unfold Q4k at h;split at h
 . rename_i s x q y mx c;have hp:Q0Y P o.op=some (.slc s x q y mx c):=by
    have i:=J2r l;generalize o.op=op at i;cases i with|p _ _ h=>exact h
   obtain⟨t,e,x0,low,high,max,j,G,F,E,D,C,B,rfl⟩:=X0Q hp;obtain⟨v,A,r⟩:=J9c G F E D C B h;obtain⟨u,n,m⟩:=r M w σ a ok (fun k b z=>f.own.blk k b (J0g z));have d:(execOp a.eval o).run P w=.ok (.value u) w:=by
    obtain⟨dst,op,type,pos,after,guard⟩:=o;simp only at j;subst j;exact J1c n
   exact J0w d ⟨u,M,σ,v,own,ks,rfl,m,f,Tr.refl _ _ _ _,Kd.refl _ _ _,A⟩
 . exact Q5S l g h ok f Q
theorem J2s {P:Program} {op:Op} {so:SOp} (h:cOp P op=some so):∀c,op≠.defer c:=by
 intro c e;subst e;have a:=J2r h;cases a with
 | p _ o h=>cases h
 | xt _ o h=>cases h
theorem X6B {P:Program} {row:String} {args:Array Value} {w:World} {R:Value->World->Prop} (r:Option Nat) (h:Rows P row args w R):RowsIn (FR r) 0 P row args w R :=
 fun c cs _=>let ⟨v,w',h1,h2⟩:=h c cs;⟨v,w',h1,stepsIn_wide.2 h2⟩
theorem J7y {P:Program} {f:FuncId} {args:Array Value} {w:World} {R:Ending->World->Prop} (r:Option Nat) (h:Calls P f args w R):CallsIn (FR r) 0 P f args w R :=
 (callsIn_wide (n:=0)).2 h
theorem J4V (r:Option Nat):(FR r).depth.isSome=true->1<=0:=fun h=>by cases h
theorem J3D {P:Program} {o:Oper} (r:Option Nat) (d:∀c,o.op≠.defer c) {a:Act} {w:World} {next:Act->World->Prop} {Q:Exit->Act->World->Prop} (h:o.wp P a w next Q):o.wpIn (FR r) 0 P a w next Q:=by
 refine⟨fun _ _=>trivial,?_⟩;rw[Oper.semAt_eq _ _ _ d];unfold Oper.wp at h;generalize (execOp a.eval o).run P w=b at *;cases b with
 | ok x w' =>
   cases x<;>simp only[Oper.upon,Oper.uponIn] at h ⊢ <;>
    first
     | exact h
     | exact h.elim
     | exact⟨J4V r,J7y r h⟩
     | exact⟨J4V r,X6B r h⟩
 | halt x w'=>cases x<;>simp only[Oper.upon,Oper.uponIn] at h ⊢<;>exact h
theorem J8M {P:Program} {o:Oper} {x:X} {xs:List X} (Z:cOp P o.op=some (.callv x xs)) {env:Env} {own:Own} {ks:List Nat} {K:V->Own->List Nat->Prop} (h:vop P (.callv x xs) env own ks K)
 {M:Nat->Prop} {w:World} {σ:Sg} {a:Act} (ok:∀y,y∈SOp.xs (.callv x xs)->XOk M w σ env a y) (Y:J0T M w σ own ks) (Q:Exit->Act->World->Prop) (r:Option Nat):o.wpIn (FR r) 0 P a w (OP o a M w σ own ks K) Q:=by
 have R:=J2s Z;obtain⟨dst,op,type,pos,after,guard⟩:=o;have W:=J2r Z;simp only at W;cases W;rename_i t args ats T;simp only[vop] at h;obtain⟨fv,E,hf⟩:=J0f (o:=.tmp t) rfl h;clear h;obtain⟨H,h,D,O⟩:=J4Q T E;clear E;have L:=hf M w σ a (ok _ (by simp[SOp.xs]));have C:=O M w σ a (fun y I=>ok y (by simp[SOp.xs,I]));have B:args.map a.eval=(args.toList.map a.eval).toArray:=by
  apply Zf;simp
 refine⟨fun _ _=>trivial,?_⟩;rw[Oper.semAt_eq _ _ _ R];unfold X5k at h;split at h
 . rename_i g b cap;obtain⟨p,h⟩:=h;generalize n:a.eval (.tmp t)=fu at L;obtain⟨all,ul,h,h1,T,c⟩:∃(all:List V) (ul:List Value),J0N P g all own ks (fun v own ks=>X2C v fun v=>K v own ks)/\all.length=ul.length/\(∀(i:Nat) (v:V) (u:Value),all[i]?=some v->ul[i]?=some u->Den M w σ v u) /\
    (execOp a.eval ⟨dst,.call ⟨.value (.tmp t),args,ats⟩,type,pos,after,guard⟩).run P w=.ok (.enter g ul.toArray) w:=by
    cases L with
    | fn _ _ _ _ us A G =>
      cases b with
      | false =>
        refine⟨H++cap,args.toList.map a.eval++us,h,by simp[D,A],?_,?_⟩
        . intro i v u j f;by_cases J:i<H.length
          . rw[Q3 J] at j;rw[Q3 (by simpa[<- D] using J)] at f;exact C i v u j f
          . rw[Xt (by omega)] at j;rw[Xt (by simp[<- D];omega)] at f;refine G (i-H.length) v u j ?_;simpa[<- D] using f
        . have e:(args.toList.map a.eval++us).toArray=args.map a.eval++us.toArray:=by
           apply Zf;simp
          rw[e];show((resolve a.eval ⟨.value (.tmp t),args,ats⟩ type) >>= fun d=>invoke d.target d.args).run P w=_;simp only[resolve,n,fnB,fnC];simp[go_sem,Deferred.ofValue,invoke,J1V p]
      | true =>
        refine⟨cap++H,us++args.toList.map a.eval,h,by simp[D,A],?_,?_⟩
        . intro i v u j f;by_cases J:i<cap.length
          . rw[Q3 J] at j;rw[Q3 (by omega)] at f;exact G i v u j f
          . rw[Xt (by omega)] at j;rw[Xt (by omega)] at f;rw[<- A] at f;exact C (i-cap.length) v u j f
        . have e:(us++args.toList.map a.eval).toArray=us.toArray++args.map a.eval:=by
           apply Zf;simp
          rw[e];show((resolve a.eval ⟨.value (.tmp t),args,ats⟩ type) >>= fun d=>invoke d.target d.args).run P w=_;simp only[resolve,n,fnB,fnC];simp[go_sem,Deferred.ofValue,invoke,J1V p]
   rw[c];refine⟨J4V r,J7y r ?_⟩;refine(h.out M w σ ul h1 T Y).mono ?_;rintro e w' ⟨U,q,v,own',s,u,rfl,d,z,N,kd,S⟩;exact⟨u,U,q,v,own',s,rfl,d,z,N,kd,J6o S⟩
 . rename_i k;generalize n:a.eval (.tmp t)=fu at L;cases L with
   | yld _ _ l base κ hk =>
     obtain⟨fn,tmps,assign,body,I,m⟩:=h.out M w σ (args.toList.map a.eval) l base κ (by simpa using D) C Y hk;have c:(execOp a.eval ⟨dst,.call ⟨.value (.tmp t),args,ats⟩,type,pos,after,guard⟩).run P w=.ok (.round l fn tmps assign body) w:=by
      show((resolve a.eval ⟨.value (.tmp t),args,ats⟩ type) >>= fun d=>invoke d.target d.args).run P w=_;simp only[resolve,n];rw[<- B] at I;simp[go_sem,Deferred.ofValue,invoke,I]
     rw[c];refine⟨J4V r,RoundIn.mono (F:=Fence.wide) m ?_⟩;rintro e w' ⟨U,q,v,own',s,u,rfl,d,z,N,kd,S⟩;exact⟨u,U,q,v,own',s,rfl,d,z,N,kd,J6o S⟩
 . exact h.elim
theorem X0d {P:Program} {o:Oper} {so:SOp} (c:cOp P o.op=some so) (he:so.isEff=true) {env:Env} {own:Own} {ks:List Nat} {K:V->Own->List Nat->Prop} (h:vop P so env own ks K)
 {M:Nat->Prop} {w:World} {σ:Sg} {a:Act} (ok:∀x,x∈so.xs->XOk M w σ env a x) (d:J0T M w σ own ks) (Q:Exit->Act->World->Prop) (r:Option Nat):o.wpIn (FR r) 0 P a w (OP o a M w σ own ks K) Q:=by
 by_cases b:∀x xs,so≠.callv x xs
 . exact J3D r (J2s c) (J9N c b he h ok d Q)
 . obtain⟨x,xs,rfl⟩:∃x xs,so=.callv x xs:=by
    cases so<;>first|exact⟨_,_,rfl⟩|(exfalso;apply b;intro x xs e;cases e)
   exact J8M c h ok d Q r
theorem Q5T {P:Program} {o:Oper} {so:SOp} (c:cOp P o.op=some so) {env:Env} {own:Own} {ks:List Nat} {K:V->Own->List Nat->Prop} (h:Q4k P so env own ks K)
 {M:Nat->Prop} {w:World} {σ:Sg} {a:Act} (ok:∀x,x∈so.xs->XOk M w σ env a x) (d:J0T M w σ own ks) (Q:Exit->Act->World->Prop) (r:Option Nat):o.wpIn (FR r) 0 P a w (OP o a M w σ own ks K) Q:=by
 by_cases b:∀x xs,so≠.callv x xs
 . exact J3D r (J2s c) (Q22 c b h ok d Q)
 . obtain⟨x,xs,rfl⟩:∃x xs,so=.callv x xs:=by
    cases so<;>first|exact⟨_,_,rfl⟩|(exfalso;apply b;intro x xs e;cases e)
   exact J8M c h ok d Q r
def J53 (P:Program):List SI->Env->Own->List Nat->(Env->Own->List Nat->Prop)->Prop
 | [],env,own,ks,K=>K env own ks
 | ⟨d,op,g⟩::r,env,own,ks,K =>
   match g with
   | none=>Q4k P op env own ks fun v own ks=>match d with
     | some t=>J53 P r ((t,v)::env) own ks K
     | none=>J53 P r env own ks K
   | some (t,a)=>match look env t with
     | some (.bool b)=>match Bool.xor b a with
       | false=>Q4k P op env own ks fun v own ks=>match d with
         | some t=>J53 P r ((t,v)::env) own ks K
         | none=>J53 P r env own ks K
       | true=>match d with
         | some t=>J53 P r ((t,.raw (.tuple #[]))::env) own ks K
         | none=>J53 P r env own ks K
     | some (.raw (.tuple _))=>match d with
       | some t=>J53 P r ((t,.raw (.tuple #[]))::env) own ks K
       | none=>J53 P r env own ks K
     | _=>False
def cSI (P:Program) (N:Nat) (ops:Array Oper) (o:Oper):Option SI :=
 match cOp P o.op with
 | some op =>
   match (match o.dst with|some d=>Nat.ble (d+1) N|none=>true) with
   | true=>match o.guard with
     | none=>some ⟨o.dst,op,none⟩
     | some (j,b)=>match (ops[j]?).bind (·.dst) with
       | some t=>some ⟨o.dst,op,some (t,b)⟩
       | none=>none
   | false=>none
 | none=>none
def X3K (P:Program) (N:Nat) (ops:Array Oper):List Oper->Option (List SI)
 | []=>some []
 | o::r=>match cSI P N ops o,X3K P N ops r with
   | some i,some l=>some (i::l)
   | _,_=>none
theorem Q1f {ops:Array Oper} {o:Oper} {j t:Nat} {c b:Bool} {a:Act} (hg:o.guard=some (j,c)) (f:(ops[j]?).bind (·.dst)=some t) (d:a.tmps.getD t undef=.bool b) :
 Region.wanted o (yielded ops a.tmps)=(b == c):=by
 have e:a.tmps[t]?=some (.bool b):=by
  rw[Qx] at d;cases h:a.tmps[t]? with
  | none=>rw[h] at d;cases d
  | some x=>rw[h] at d;simpa using d
 unfold Region.wanted;rw[hg];simp only[yielded,f,Option.bind_some,e];cases b<;>cases c<;>rfl
theorem J9b {ops:Array Oper} {o:Oper} {j t:Nat} {b:Bool} {a:Act} {us:Array Value} (hg:o.guard=some (j,b)) (d:(ops[j]?).bind (·.dst)=some t) (c:a.tmps.getD t undef=.tuple us) :
 Region.wanted o (yielded ops a.tmps)=false:=by
 have:yielded ops a.tmps j=none:=by
  unfold yielded;rw[d];simp only[Option.bind_some];cases h:a.tmps[t]? with
  | none=>rfl
  | some x =>
    rw[Qx,h] at c;simp at c;subst c;rfl
 unfold Region.wanted;rw[hg];simp[this]
theorem J51 {P:Program} {N:Nat} {ops:Array Oper} {o:Oper} {i:SI} (h:cSI P N ops o=some i) :
 ∃op,cOp P o.op=some op/\(∀d,o.dst=some d->d<N) /\
  ((o.guard=none/\i=⟨o.dst,op,none⟩)\/∃j b t,o.guard=some (j,b)/\(ops[j]?).bind (·.dst)=some t/\i=⟨o.dst,op,some (t,b)⟩):=by
 unfold cSI at h;split at h
 . rename_i op a;split at h
   . rename_i hd;refine⟨op,a,?_,?_⟩
     . intro d e;rw[e] at hd;exact Qq hd
     . split at h
       . rename_i hg;cases h;exact .inl ⟨hg,rfl⟩
       . rename_i j b hg;split at h
         . rename_i t c;cases h;exact .inr ⟨j,b,t,hg,c,rfl⟩
         . cases h
   . cases h
 . cases h
def J8T (env:Env) (d:Option Nat) (v:V):Env:=match d with|some t=>(t,v)::env|none=>env
theorem Sim.put {N B:Nat} {M f:Nat->Prop} {w w':World} {σ b:Sg} {env:Env} {own own':Own} {ks e:List Nat} {a:Act} (h:Sim N B M w σ ⟨env,own,ks⟩ a) {d:Option Nat} {v:V} {u:Value} (hd:∀t,d=some t->t<N)
 (j:Den f w' b v u) (g:J0T f w' b own' e) (c:Tr M w σ own f w' b own') :
 Sim N B f w' b ⟨J8T env d v,own',e⟩ (a.put d u):=by
 have i:=c.ext h.heap.own;cases d with
 | none=>exact⟨h.env.mono i c.le,g,h.size,h.defers.tr c⟩
 | some t=>exact⟨(h.env.mono i c.le).put (by rw[h.size];exact hd t rfl) j,g,by simp[Act.put,h.size],h.defers.tr c⟩
theorem J4K {P:Program} (r:Option Nat) {N B:Nat} {ops:Array Oper} {Q:Exit->Act->World->Prop}:∀(l:List Oper) (I:List SI) (env:Env) (own:Own) (ks:List Nat) (K:Env->Own->List Nat->Prop)
 (M:Nat->Prop) (w:World) (σ:Sg) (a:Act),X3K P N ops l=some I->J53 P I env own ks K->Sim N B M w σ ⟨env,own,ks⟩ a ->
 (∀env' own' p L w' y X,Sim N B L w' y ⟨env',own',p⟩ X->Tr M w σ own L w' y own'->Kd σ own ks y own' p->K env' own' p->Q .normal X w')->wpListIn (FR r) 0 P ops Q l a w
 | [],I,env,own,ks,K,M,w,σ,a,D,h,c,H=>by
   simp[X3K] at D;subst D;exact H env own ks M w σ a c (Tr.refl _ _ _ _) (Kd.refl _ _ _) h
 | o::l,I,env,own,ks,K,M,w,σ,a,D,h,c,H=>by
   unfold X3K at D;split at D<;>simp only[Qf,reduceCtorEq] at D;rename_i i d h1 V;subst D;obtain⟨op,T,z,hg⟩:=J51 h1;have O:∀x,x∈op.xs->XOk M w σ env a x:=fun x _ n _ v S=>c.env n v S;have go:∀(h:Q4k P op env own ks fun v own ks=>match o.dst with|some t=>J53 P d ((t,v)::env) own ks K|none=>J53 P d env own ks K),o.wpIn (FR r) 0 P a w (wpListIn (FR r) 0 P ops Q l) Q:=by
    intro h;refine Oper.wpIn_mono ?_ (Q5T T h O c.heap Q r);rintro X w' ⟨u,L,y,v,own',p,rfl,S,hh,Y,kd,hK⟩;have f:=c.put z S hh Y;have A:J53 P d (J8T env o.dst v) own' p K:=by
     unfold J8T;cases hd:o.dst<;>simp only[hd] at hK ⊢<;>exact hK
    exact J4K r l d _ own' p K L w' y _ V A f fun env' C G M'' R F W s t q k=>H env' C G M'' R F W s (Y.trans t) (kd.trans q) k
   unfold wpListIn;rcases hg with ⟨hg,rfl⟩ | ⟨j,b,t,hg,hj,rfl⟩
   . rw[Qe (by simp[Region.wanted,hg])];exact go h
   . simp only[J53] at h;split at h
     . rename_i E m;have g:=c.env t _ m;have U:a.tmps.getD t undef=.bool E:=by
        generalize a.tmps.getD t undef=q at g;cases g;rfl
       have Z:=Q1f hg hj U;cases J:Bool.xor E b
       . have e:E=b:=by revert J;cases E<;>cases b<;>decide
         rw[J] at h;rw[Qe (by rw[Z,e];simp)];exact go h
       . have e:(E == b)=false:=by revert J;cases E<;>cases b<;>decide
         rw[J] at h;rw[Qb (by rw[Z,e];simp)];have f:=c.put (v:=.raw (.tuple #[])) (u:=undef) z (.raw _ _) c.heap (Tr.refl _ _ _ _);have A:J53 P d (J8T env o.dst (.raw (.tuple #[]))) own ks K:=by
          unfold J8T;cases hd:o.dst<;>simp only[hd] at h ⊢<;>exact h
         exact⟨fun _ _=>trivial,J4K r l d _ own ks K M w σ _ V A f H⟩
     . rename_i us m;have g:=c.env t _ m;have U:a.tmps.getD t undef=.tuple us:=by
        generalize a.tmps.getD t undef=q at g;cases g;rfl
       rw[Qb (by rw[J9b hg hj U];simp)];have f:=c.put (v:=.raw (.tuple #[])) (u:=undef) z (.raw _ _) c.heap (Tr.refl _ _ _ _);have A:J53 P d (J8T env o.dst (.raw (.tuple #[]))) own ks K:=by
        unfold J8T;cases hd:o.dst<;>simp only[hd] at h ⊢<;>exact h
       exact⟨fun _ _=>trivial,J4K r l d _ own ks K M w σ _ V A f H⟩
     . exact h.elim
end Go.Eng
