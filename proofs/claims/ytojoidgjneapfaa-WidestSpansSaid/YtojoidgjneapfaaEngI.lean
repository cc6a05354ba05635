import Derived.Test.YtojoidgjneapfaaEngF3
import Derived.BigCall
import Derived.Orders
import Derived.TacticsIn
namespace Go.Eng
inductive SOp where
 | p (o:POp)
 | build (zs:List V) (parts:List (Nat×Nat×X))
 | load (sz:Option Nat) (x:X)
 | alloc (zs:List V)
 | box (x:X)
 | bslice (s n:Nat) (xs:List X)
 | asg (x:X)
 | store (sz:Nat) (a x:X)
 | app (s bytes:Nat) (x y:X)
 | clr (s:Nat) (zs:List V) (x:X)
 | call (f:FuncId) (args:List X)
 | callv (x:X) (args:List X)
 | alloca (n:Nat) (z:V)
 | xt (o:XOp)
def SOp.xs:SOp->List X
 | .p o=>o.xs
 | .build _ ps=>ps.map (·.2.2)
 | .load _ x | .box x | .asg x | .clr _ _ x=>[x]
 | .alloc _=>[]
 | .bslice _ _ xs=>xs
 | .store _ a x | .app _ _ a x=>[a,x]
 | .call _ xs=>xs
 | .callv x xs=>x::xs
 | .alloca _ _=>[]
 | .xt o=>o.xs
structure SI where
 dst:Option Nat
 op:SOp
 guard:Option (Nat×Bool)
structure J0H (P:Program) (f:FuncId) (args:List V) (own:Own) (ks:List Nat) (K:V->Own->List Nat->Prop):Prop where
 out:∀(M:Nat->Prop) (w:World) (σ:Sg) (us:List Value),args.length=us.length ->
  (∀(i:Nat) (v:V) (u:Value),args[i]?=some v->us[i]?=some u->Den M w σ v u)->J0G M w σ own ks ->
  Calls P f us.toArray w fun e w'=>∃M' σ' v own' ks' u,e=.returned u/\Den M' w' σ' v u/\J0G M' w' σ' own' ks'/\Tr M w σ own M' w' σ' own'/\Kd σ own ks σ' own' ks'/\K v own' ks'
theorem J0H.mono {P:Program} {f:FuncId} {args:List V} {own:Own} {ks:List Nat} {K K':V->Own->List Nat->Prop} (h:J0H P f args own ks K) (hK:∀v o k,K v o k->K' v o k) :
 J0H P f args own ks K' :=
 ⟨fun M w σ us h1 h2 h3=>(h.out M w σ us h1 h2 h3).mono fun _ _ ⟨M',σ',v,o,k,u,a,b,c,d,d',e⟩=>⟨M',σ',v,o,k,u,a,b,c,d,d',hK _ _ _ e⟩⟩
structure Q2S (P:Program) (k:Nat) (args:List V) (own:Own) (ks:List Nat) (K:V->Own->List Nat->Prop):Prop where
 out:∀(M:Nat->Prop) (w:World) (σ:Sg) (us:List Value) (l base κ:Nat),args.length=us.length ->
  (∀(i:Nat) (v:V) (u:Value),args[i]?=some v->us[i]?=some u->Den M w σ v u)->J0G M w σ own ks->σ k=some (some l,base,κ) ->
  ∃fn tmps assign body,(Instr.yield l us.toArray).run P w=.ok (.round l fn tmps assign body) w /\
   RoundIn Fence.wide 0 P l fn tmps assign body w fun e w'=>∃M' σ' v own' ks' u,e=.returned u/\Den M' w' σ' v u/\J0G M' w' σ' own' ks'/\Tr M w σ own M' w' σ' own'/\Kd σ own ks σ' own' ks'/\K v own' ks'
def Q5B:List V->(List V->Prop)->Prop
 | [],K=>K []
 | v::r,K=>Q4T v fun v=>Q5B r fun r=>K (v::r)
def Q4S (v:V) (K:V->Prop):Prop :=
 match v with
 | .tup vs=>Q5B vs fun vs=>K (.tup vs)
 | v=>Q4T v K
theorem J5b:∀{l:List V} {K:List V->Prop},Q5B l K->K l
 | [],_,h=>h
 | v::_,K,h=>J5b (K:=fun r=>K (v::r)) (J2K h).1
theorem J3y {v:V} {K:V->Prop} (h:Q4S v K):K v:=by
 unfold Q4S at h;split at h
 . exact J5b h
 . exact(J2K h).1
def vclr (own:Own) (s:Nat) (zs:List V) (v:V) (K:Own->Prop):Prop :=
 match v with
 | .nilslice=>K own
 | .vec k s' lo len=>match look own k with
   | some (.vec n s'' f)=>match Nat.beq s s',Nat.beq s s'' with
     | true,true=>Len (lo+len) n (J8v k (.vec n s (J97 f lo len fun _ j=>zs.getD j default)) own K)
     | _,_=>False
   | _=>False
 | _=>False
def J06 (P:Program) (f:FuncId):Bool:=match P.funcs[f]? with
 | some fn=>match fn.body with
   | some _=>match fn.name == "runtime.NumGoroutine" with|true=>false|false=>true
   | none=>false
 | none=>false
def Q4p (P:Program) (vs:List V) (own:Own) (ks:List Nat) (K:V->Own->List Nat->Prop) (fv:V):Prop :=
 match fv with
 | .fn (.func g) b cap=>Chk (J06 P g) (J0H P g (match b with|true=>cap++vs|false=>vs++cap) own ks K)
 | .yld k=>Q2S P k vs own ks K
 | _=>False
def vop (P:Program) (op:SOp) (env:Env) (own:Own) (ks:List Nat) (K:V->Own->List Nat->Prop):Prop :=
 match op with
 | .p o=>Q22 o env fun v=>K v own ks
 | .build zs ps=>Q1U env ps zs fun cs=>K (.agg cs) own ks
 | .load sz x=>x.get env fun p=>Q4n own sz p fun v=>K v own ks
 | .alloc zs=>fresh ks fun k ks=>K (.loc k 0) ((k,.cells zs)::own) ks
 | .box x=>x.get env fun v=>v.cellsK fun cs=>fresh ks fun k ks=>K (.loc k 0) ((k,.cells cs)::own) ks
 | .bslice s n xs=>X.gets env xs fun vs=>match J27 V.kf2 vs with
   | true=>Q3i s vs fun rs=>fresh ks fun k ks=>K (.vec k s 0 n) ((k,.vec n s (tab rs))::own) ks
   | false=>flatK s vs fun cs=>fresh ks fun k ks=>K (.vec k s 0 n) ((k,.cells cs)::own) ks
 | .alloca n z=>fresh ks fun k ks=>K (.oel k 1 0 0) ((k,.vec n 1 (fun _ _=>z))::own) ks
 | .xt o=>Q5q o env own ks K
 | .asg x=>x.get env fun v=>K v own ks
 | .store sz a x=>a.get env fun p=>x.get env fun v=>J66 own sz p v fun own=>K (.raw (.tuple #[])) own ks
 | .app s bytes x y=>x.get env fun a=>y.get env fun b=>Q4q own ks s bytes a b K
 | .clr s zs x=>x.get env fun v=>vclr own s zs v fun own=>K (.raw (.tuple #[])) own ks
 | .call f args=>X.gets env args fun vs=>J0H P f vs own ks fun v own ks=>Q4S v fun v=>K v own ks
 | .callv x args=>x.get env fun fv=>X.gets env args fun vs=>Q4p P vs own ks (fun v own ks=>Q4S v fun v=>K v own ks) fv
def J3W (P:Program) (t:TypeId):Option (Nat->Option (Nat×Nat)) :=
 match P.underlying t with
 | some (.struct fs)=>match fs.toList.mapM (fun f=>(P.info? f.type).map fun i=>(f.offset,i.size)) with
   | some places=>some (fun i=>places.toArray[i]?)
   | none=>none
 | some (.array _ e)=>match P.info? e with
   | some ie=>some (fun i=>some (i*ie.size,ie.size))
   | none=>none
 | _=>none
theorem Q2f {P:Program} {t:TypeId} {place:Nat->Option (Nat×Nat)} {i:TypeInfo} {z:Value} (hp:J3W P t=some place) (hi:P.info? t=some i) (hz:i.zero=some z) (parts:List (Nat×Value)) :
 P.built t parts=Instr.fill place z.cells parts:=by
 unfold J3W at hp;unfold Program.built;split at hp
 . rename_i fs hu;split at hp
   . rename_i places hm;cases hp;simp only[hi,hu,hz,hm]
   . cases hp
 . rename_i n e hu;split at hp
   . rename_i ie he;cases hp;simp only[hi,hu,hz,he]
   . cases hp
 . cases hp
def cAsg (x:Operand):Option SOp:=(cX x).map .asg
def Q2N (P:Program) (t:TypeId) (parts:Array (Nat×Operand)):Option SOp :=
 match J3W P t,J1c P t with
 | some place,some zs=>(J5p place parts.toList).map (.build zs)
 | _,_=>none
def Q48 (P:Program) (t:TypeId) (x:Operand):Option SOp :=
 match J2o P t,cX x with
 | some z,some x=>some (.load z x)
 | _,_=>none
def J35:List V->Bool
 | []=>true
 | .bool false::r=>J35 r
 | _=>false
def J56 (k:IntKind):List V->Bool
 | []=>true
 | .int k' n::r=>match decide (k'=k),decide (n=0) with|true,true=>J56 k r|_,_=>false
 | _=>false
def Q3g (zs:List V):Option V:=match zs with
 | .bool _::_=>match J35 zs with|true=>some (.bool false)|false=>none
 | .int k _::_=>match J56 k zs with|true=>some (.int k 0)|false=>none
 | _=>none
theorem J3N:∀{zs:List V},J35 zs=true->∀v∈zs,v=.bool false
 | [],_,v,h=>by simp at h
 | .bool false::r,h,v,hv=>by
   rcases List.mem_cons.1 hv with e|e
   . exact e
   . exact J3N (by simpa[J35] using h) v e
theorem J4M {k:IntKind}:∀{zs:List V},J56 k zs=true->∀v∈zs,v=.int k 0
 | [],_,v,h=>by simp at h
 | .int k' n::r,h,v,hv=>by
   unfold J56 at h;split at h
   . rename_i e1 e2;have e1:=of_decide_eq_true e1;have e2:=of_decide_eq_true e2;subst e1 e2;rcases List.mem_cons.1 hv with e|e
     . exact e
     . exact J4M h v e
   . cases h
theorem J8C {zs:List V} {z:V} (h:Q3g zs=some z):(∀v∈zs,v=z)/\z.kf1=true/\z.cellB=true:=by
 unfold Q3g at h;split at h
 . split at h
   . rename_i h1;cases h;exact⟨J3N h1,rfl,rfl⟩
   . cases h
 . split at h
   . rename_i h1;cases h;exact⟨J4M h1,rfl,rfl⟩
   . cases h
 . cases h
def J8l (P:Program) (t:TypeId):Option (Nat×V) :=
 match P.underlying t,J1c P t with
 | some (.array n _),some zs=>match Nat.ble 8 n,Nat.beq zs.length n,Q3g zs with
   | true,true,some z=>some (n,z)
   | _,_,_=>none
 | _,_=>none
def Q2O (P:Program) (t:TypeId):Option SOp:=match J8l P t with
 | some (n,z)=>some (.alloca n z)
 | none=>(J1c P t).map .alloc
def cBox (x:Operand):Option SOp:=(cX x).map .box
def Q0x (P:Program) (t:TypeId) (len:Nat) (parts:Array (Nat×Operand)):Option SOp :=
 match P.underlying t with
 | some (.slice e)=>match J11 P e,J1c P e,cXs (parts.toList.map (·.2)),J1h 0 parts.toList,Nat.beq parts.toList.length len,Nat.ble (len*(J11 P e).getD 0) 16777216 with
   | some s,some _,some xs,true,true,true=>some (.bslice s len xs)
   | _,_,_,_,_,_=>none
 | _=>none
def Q2L (P:Program) (t:TypeId) (a x:Operand):Option SOp :=
 match J11 P t,cX a,cX x with
 | some (n+1),some a,some x=>some (.store (n+1) a x)
 | _,_,_=>none
def Q2M (P:Program) (f:FuncId) (args:Array Operand):Option SOp :=
 match J06 P f with
 | true=>(cXs args.toList).map (.call f)
 | false=>none
def Q5U (P:Program) (args:Array Operand) (argTypes:Array TypeId):Option SOp :=
 match args.toList,argTypes.toList with
 | [x,y],[t,t2]=>match P.underlying t,P.underlying t2 with
   | some (.slice e),some (.slice _)=>match J11 P e,(P.info? e).map (·.bytes),J1c P e,cX x,cX y with
     | some s,some b,some zs,some x,some y=>match Nat.beq zs.length s with
       | true=>some (.app s b x y)
       | false=>none
     | _,_,_,_,_=>none
   | _,_=>none
 | _,_=>none
def Q5T (P:Program) (args:Array Operand) (argTypes:Array TypeId):Option SOp :=
 match args.toList,argTypes.toList with
 | [x],[t]=>match P.underlying t with
   | some (.slice e)=>match J11 P e,J1c P e,cX x with
     | some s,some zs,some x=>match Nat.beq zs.length s with
       | true=>some (.clr s zs x)
       | false=>none
     | _,_,_=>none
   | _=>none
 | _,_=>none
def cP (P:Program) (op:Op):Option SOp:=(J53 P op).map .p
def Q3T (P:Program) (c:Call):Option SOp :=
 match c.callee with
 | .value (.func f)=>Q2M P f c.args
 | .value (.tmp t)=>(cXs c.args.toList).map (.callv (.t t))
 | .builtin .append=>Q5U P c.args c.argTypes
 | .builtin .clear=>Q5T P c.args c.argTypes
 | .builtin .copy=>(Q2b P (.call c)).map .xt
 | .builtin .len=>match Q2b P (.call c) with|some o=>some (.xt o)|none=>cP P (.call c)
 | _=>cP P (.call c)
def cOp (P:Program) (op:Op):Option SOp :=
 match op with
 | .assign x=>cAsg x
 | .build t parts=>Q2N P t parts
 | .load t x=>Q48 P t x
 | .alloc t=>Q2O P t
 | .box _ x=>cBox x
 | .buildSlice t len parts=>Q0x P t len parts
 | .store t a x=>Q2L P t a x
 | .call c=>Q3T P c
 | op=>match Q2b P op with|some o=>some (.xt o)|none=>cP P op
inductive Was (P:Program):Op->SOp->Prop
 | asg (x0:Operand) (x:X) (h:cX x0=some x):Was P (.assign x0) (.asg x)
 | build (t:TypeId) (parts:Array (Nat×Operand)) (place:Nat->Option (Nat×Nat)) (zs:List V) (ps:List (Nat×Nat×X)) (h1:J3W P t=some place) (h2:J1c P t=some zs) (h3:J5p place parts.toList=some ps) :
    Was P (.build t parts) (.build zs ps)
 | load (t:TypeId) (x0:Operand) (z:Option Nat) (x:X) (h1:J2o P t=some z) (h2:cX x0=some x):Was P (.load t x0) (.load z x)
 | alloc (t:TypeId) (zs:List V) (h:J1c P t=some zs):Was P (.alloc t) (.alloc zs)
 | box (t:TypeId) (x0:Operand) (x:X) (h:cX x0=some x):Was P (.box t x0) (.box x)
 | bslice (t:TypeId) (len:Nat) (parts:Array (Nat×Operand)) (e:TypeId) (s:Nat) (zs:List V) (xs:List X) (h1:P.underlying t=some (.slice e)) (h2:J11 P e=some s) (h3:J1c P e=some zs)
    (h4:cXs (parts.toList.map (·.2))=some xs) (h5:J1h 0 parts.toList=true) (h6:parts.toList.length=len) (h7:len*s<=16777216):Was P (.buildSlice t len parts) (.bslice s len xs)
 | store (t:TypeId) (a0 x0:Operand) (n:Nat) (a x:X) (h1:J11 P t=some n) (h2:0<n) (h3:cX a0=some a) (h4:cX x0=some x):Was P (.store t a0 x0) (.store n a x)
 | call (f:FuncId) (args:Array Operand) (ats:Array TypeId) (xs:List X) (h1:J06 P f=true) (h2:cXs args.toList=some xs):Was P (.call ⟨.value (.func f),args,ats⟩) (.call f xs)
 | callv (t:Nat) (args:Array Operand) (ats:Array TypeId) (xs:List X) (h2:cXs args.toList=some xs):Was P (.call ⟨.value (.tmp t),args,ats⟩) (.callv (.t t) xs)
 | app (args:Array Operand) (ats:Array TypeId) (t t2 e e2:TypeId) (s b:Nat) (zs:List V) (x0 y0:Operand) (x y:X) (h1:args.toList=[x0,y0]) (h2:ats.toList=[t,t2]) (h3:P.underlying t=some (.slice e))
    (h4:P.underlying t2=some (.slice e2)) (h5:J11 P e=some s) (h6:(P.info? e).map (·.bytes)=some b) (h7:J1c P e=some zs) (h8:cX x0=some x) (h9:cX y0=some y) (h10:zs.length=s) :
    Was P (.call ⟨.builtin .append,args,ats⟩) (.app s b x y)
 | clr (args:Array Operand) (ats:Array TypeId) (t e:TypeId) (s:Nat) (zs:List V) (x0:Operand) (x:X) (h1:args.toList=[x0]) (h2:ats.toList=[t]) (h3:P.underlying t=some (.slice e))
    (h4:J11 P e=some s) (h5:J1c P e=some zs) (h6:cX x0=some x) (h7:zs.length=s):Was P (.call ⟨.builtin .clear,args,ats⟩) (.clr s zs x)
 | p (op:Op) (o:POp) (h:J53 P op=some o):Was P op (.p o)
 | alloca (t:TypeId) (n:Nat) (z:V) (h:J8l P t=some (n,z)):Was P (.alloc t) (.alloca n z)
 | xt (op:Op) (o:XOp) (h:Q2b P op=some o):Was P op (.xt o)
theorem Q0u {P:Program} {op:Op} {so:SOp} (h:cP P op=some so):Was P op so:=by
 simp only[cP,Option.map_eq_some_iff] at h;obtain⟨o,h1,rfl⟩:=h;exact .p _ _ h1
theorem Q2e {P:Program} {args:Array Operand} {ats:Array TypeId} {so:SOp} (h:Q5U P args ats=some so):Was P (.call ⟨.builtin .append,args,ats⟩) so:=by
 unfold Q5U at h;split at h
 . rename_i x0 y0 t t2 h1 h2;split at h
   . rename_i e e2 h3 h4;split at h
     . rename_i s b zs x y h5 h6 h7 h8 h9;split at h
       . rename_i h10;cases h;exact .app args ats t t2 e e2 s b zs x0 y0 x y h1 h2 h3 h4 h5 h6 h7 h8 h9 (Nat.eq_of_beq_eq_true h10)
       . cases h
     . cases h
   . cases h
 . cases h
theorem Q2d {P:Program} {args:Array Operand} {ats:Array TypeId} {so:SOp} (h:Q5T P args ats=some so):Was P (.call ⟨.builtin .clear,args,ats⟩) so:=by
 unfold Q5T at h;split at h
 . rename_i x0 t h1 h2;split at h
   . rename_i e h3;split at h
     . rename_i s zs x h4 h5 h6;split at h
       . rename_i h7;cases h;exact .clr args ats t e s zs x0 x h1 h2 h3 h4 h5 h6 (Nat.eq_of_beq_eq_true h7)
       . cases h
     . cases h
   . cases h
 . cases h
theorem Q0v {P:Program} {c:Call} {so:SOp} (h:Q3T P c=some so):Was P (.call c) so:=by
 obtain⟨callee,args,ats⟩:=c;unfold Q3T at h;split at h
 . rename_i f hf;simp only at hf;subst hf;unfold Q2M at h;split at h
   . rename_i hcal;simp only[Option.map_eq_some_iff] at h;obtain⟨xs,h1,rfl⟩:=h;exact .call f args ats xs hcal h1
   . cases h
 . rename_i t hf;simp only at hf;subst hf;simp only[Option.map_eq_some_iff] at h;obtain⟨xs,h1,rfl⟩:=h;exact .callv t args ats xs h1
 . rename_i hf;simp only at hf;subst hf;exact Q2e h
 . rename_i hf;simp only at hf;subst hf;exact Q2d h
 . rename_i hf;simp only at hf;subst hf;simp only[Option.map_eq_some_iff] at h;obtain⟨o,h1,rfl⟩:=h;exact .xt _ o h1
 . rename_i hf;simp only at hf;subst hf;split at h
   . rename_i o h1;cases h;exact .xt _ o h1
   . exact Q0u h
 . exact Q0u h
theorem J1o {P:Program} {op:Op} {so:SOp} (h:cOp P op=some so):Was P op so:=by
 unfold cOp at h;split at h
 . simp only[cAsg,Option.map_eq_some_iff] at h;obtain⟨x,h1,rfl⟩:=h;exact .asg _ _ h1
 . unfold Q2N at h;split at h
   . simp only[Option.map_eq_some_iff] at h;obtain⟨ps,h1,rfl⟩:=h;exact .build _ _ _ _ _ ‹_› ‹_› h1
   . cases h
 . unfold Q48 at h;split at h
   . cases h;exact .load _ _ _ _ ‹_› ‹_›
   . cases h
 . unfold Q2O at h;split at h
   . cases h;exact .alloca _ _ _ ‹_›
   . simp only[Option.map_eq_some_iff] at h;obtain⟨zs,h1,rfl⟩:=h;exact .alloc _ _ h1
 . simp only[cBox,Option.map_eq_some_iff] at h;obtain⟨x,h1,rfl⟩:=h;exact .box _ _ _ h1
 . unfold Q0x at h;split at h
   . rename_i he;split at h
     . rename_i h1 h2 h3 h4 h5 h6;cases h;have:=Nat.le_of_ble_eq_true h6;rw[h1] at this;exact .bslice _ _ _ _ _ _ _ he h1 h2 h3 h4 (Nat.eq_of_beq_eq_true h5) this
     . cases h
   . cases h
 . unfold Q2L at h;split at h
   . cases h;exact .store _ _ _ _ _ _ ‹_› (by omega) ‹_› ‹_›
   . cases h
 . exact Q0v h
 . split at h
   . cases h;exact .xt _ _ ‹_›
   . exact Q0u h
theorem J2L {env:Env}:∀{os:List Operand} {xs:List X} {K:List V->Prop},cXs os=some xs->X.gets env xs K ->
 ∃vs,K vs/\vs.length=os.length/\∀M w σ (a:Act),(∀x,x∈xs->XOk M w σ env a x)->∀(i:Nat) (v:V) (u:Value),vs[i]?=some v->(os.map a.eval)[i]?=some u->Den M w σ v u
 | [],xs,K,hc,h=>by
   simp[cXs] at hc;subst hc;exact⟨[],h,rfl,fun _ _ _ _ _=>by simp⟩
 | o::os,xs,K,hc,h=>by
   unfold cXs at hc;split at hc<;>simp only[Option.some.injEq,reduceCtorEq] at hc;rename_i x xs' h1 h2;subst hc;obtain⟨v,h,hv⟩:=J0b h1 h;obtain⟨vs,hK,hl,hvs⟩:=J2L h2 h;refine⟨_,hK,by simp[hl],?_⟩;intro M w σ a hx i v' u' hv' hu';cases i with
   | zero=>simp at hv' hu';subst hv' hu';exact hv M w σ a (hx x (by simp))
   | succ i=>exact hvs M w σ a (fun y hy=>hx y (by simp[hy])) i v' u' (by simpa using hv') (by simpa using hu')
theorem J5o:∀{os:List Operand} {xs:List X},cXs os=some xs->xs.length=os.length
 | [],xs,h=>by simp[cXs] at h;subst h;rfl
 | o::os,xs,h=>by
   unfold cXs at h;split at h<;>simp only[Option.some.injEq,reduceCtorEq] at h;rename_i x xs' h1 h2;subst h;simp[J5o h2]
def OP (o:Oper) (a:Act) (M:Nat->Prop) (w:World) (σ:Sg) (own:Own) (ks:List Nat) (K:V->Own->List Nat->Prop):Act->World->Prop:=fun a' w' =>
 ∃u M' σ' v own' ks',a'=a.put o.dst u/\Den M' w' σ' v u/\J0G M' w' σ' own' ks'/\Tr M w σ own M' w' σ' own'/\Kd σ own ks σ' own' ks'/\K v own' ks'
theorem J0r {P:Program} {o:Oper} {a:Act} {w w':World} {u:Value} {next:Act->World->Prop} {Q:Exit->Act->World->Prop} (h:(execOp a.eval o).run P w=.ok (.value u) w') (hn:next (a.put o.dst u) w'):o.wp P a w next Q:=by
 unfold Oper.wp;rw[h];exact hn
theorem J7y {P:Program} {o:Oper} {zs:List V} {ps:List (Nat×Nat×X)} (hc:cOp P o.op=some (.build zs ps)) {env:Env} {K:V->Prop}
 (h:Q1U env ps zs fun cs=>K (.agg cs)):∃v,K v/\J4V P o (SOp.xs (.build zs ps)) env v:=by
 obtain⟨dst,op,type,pos,after,guard⟩:=o;have hw:=J1o hc;simp only at hw;cases hw with
 | build t parts place _ _ h1 h2 hp =>
   obtain⟨r,hK,hl,_,hr⟩:=J4G env _ _ _ _ _ hp h;refine⟨_,hK,fun M w σ a ok=>?_⟩;obtain⟨i,z,hi,hz,hzc⟩:=J0E h2;obtain⟨l1,l2⟩:=J0B (M:=M) (w:=w) σ hzc;obtain⟨us',f1,f2,f3⟩:=hr M w σ a z.cells.toList ok l1 l2;refine⟨.agg us'.toArray,?_,.agg _ _ _ (by omega) f3⟩;refine J0S (s:=Instr.build t (parts.map fun(i,x)=>(i,a.eval x))) (run_build w t _ _ ?_);rw[Q2f h1 hi hz,Array.toList_map];simpa using f1
theorem Q3B {x:X} {env:Env} {K:V->Prop} (h:x.get env K):∃v,K v/\x.get env (·=v):=by
 cases x with
 | t n =>
   simp only[X.get] at h ⊢;split at h
   . rename_i v hv;exact⟨v,h,rfl⟩
   . exact h.elim
 | k v=>exact⟨v,h,rfl⟩
theorem J5a {P:Program} {o:Oper} {sz:Option Nat} {x:X} (hc:cOp P o.op=some (.load sz x)) {env:Env} {own:Own} {ks:List Nat} {K:V->Own->List Nat->Prop}
 (h:vop P (.load sz x) env own ks K):∃t x0 p v,o.op=.load t x0/\J2o P t=some sz/\K v own ks/\x.get env (·=p)/\(∀M w σ a,XOk M w σ env a x->Den M w σ p (a.eval x0))/\J61 P t p v own/\(∀u,v≠.raw u):=by
 obtain⟨dst,op,type,pos,after,guard⟩:=o;have hw:=J1o hc;simp only at hw;cases hw with
 | load t x0 _ _ h1 h2 =>
   obtain⟨p,h,hg⟩:=Q3B h;obtain⟨p',rfl,hp⟩:=J0b h2 hg;obtain⟨v,hK,hf,hnr⟩:=J69 h1 h;exact⟨t,x0,p',v,rfl,h1,hK,hg,hp,hf,hnr⟩
theorem J1y:∀{us:List Value} {vs:List V},J12 us=some vs->∀v∈vs,v.cellB=true
 | [],vs,h=>by simp[J12] at h;subst h;simp
 | u::r,vs,h=>by
   unfold J12 at h;split at h<;>simp at h;rename_i x xs h1 h2;subst h;intro v hv;rcases List.mem_cons.1 hv with e|e
   . subst e;unfold J4o at h1;split at h1<;>simp at h1<;>subst h1<;>rfl
   . exact J1y h2 v e
def SOp.isNew:SOp->Bool
 | .alloc _ | .box _ | .bslice _ _ _ | .alloca _ _=>true
 | .xt (.mks _ _ _ _)=>true
 | _=>false
def J8S (P:Program) (o:Oper) (xs:List X) (env:Env) (k:Nat) (b:Blk) (v:V):Prop :=
 ∀M w σ a own ks,(∀x,x∈xs->XOk M w σ env a x)->J0G M w σ own (k::ks) ->
  ∃u w' M' σ',(execOp a.eval o).run P w=.ok (.value u) w'/\J0G M' w' σ' ((k,b)::own) ks/\Tr M w σ own M' w' σ' ((k,b)::own)/\Den M' w' σ' v u/\J0p σ' k≠none/\Kd σ own (k::ks) σ' ((k,b)::own) ks
theorem J6Z {M:Nat->Prop} {w:World} {σ:Sg} {k off:Nat} {u:Value} (h:Den M w σ (.loc k off) u):J0p σ k≠none:=by
 cases h with
 | loc _ _ _ b base κ hk=>simp[J0p,hk]
theorem J1U {P:Program} (w:World) (t e:TypeId) (len:Nat) (parts:Array (Nat×Value)) (cells:Array Value) (s:Nat) (ie:TypeInfo) (z:Value)
 (hu:P.underlying t=some (.slice e)) (hie:P.info? e=some ie) (hz:ie.zero=some z) (hs:ie.size=s) (hsmall:len*s<=16777216)
 (h:Instr.fill (fun i=>some (i*s,s)) ((Array.range (len*s)).map (fun j=>(if len*s=0 then #[] else z.cells)[j % (if len*s=0 then #[] else z.cells).size]!)) parts.toList=some cells) :
 (Instr.buildSlice t len parts).run P w=.ok (.slice (some ⟨w.heap.size,0,none⟩) len len) (w.alloc (.cells cells e)):=by
 subst hs;have hb:¬ (len*ie.size > 2 ^ 24):=Nat.not_lt.2 hsmall;by_cases h0:len*ie.size=0
 . simp only[h0,if_true] at h;simp[Instr.buildSlice,run_underlying hu,sizeOf,typeInfo,zeroValue,hie,hz,h0,newRow] ;have h':Instr.fill (fun i=>some (i*ie.size,ie.size)) #[] parts.toList=some cells:=by
    rw[show Array.range 0=#[] from by simp[Array.range]] at h;simpa using h
   simp[show Array.range 0=#[] from by simp[Array.range],h']
 . simp only[h0,if_false] at h;simp[Instr.buildSlice,run_underlying hu,sizeOf,typeInfo,zeroValue,hie,hz,hb,h0,h,newRow]
theorem Q3r {P:Program} {o:Oper} {s b:Nat} {zs:List V} {x:X} (hc:Q2b P o.op=some (.mks s b zs x)) {env:Env} {own:Own} {ks:List Nat} {K:V->Own->List Nat->Prop} (h:Q5q (.mks s b zs x) env own ks K) :
 ∃k ks' bl v,ks=k::ks'/\K v ((k,bl)::own) ks'/\J8S P o [x] env k bl v/\(v=.loc k 0\/(∃s n,v=.vec k s 0 n)\/v=.oel k 1 0 0):=by
 obtain⟨dst,op,type,pos,after,guard⟩:=o;simp only at hc;unfold Q2b at hc;split at hc
 case h_1 =>
  rename_i t l c;split at hc
  case h_2=>cases hc
  rename_i e he;split at hc
  case h_2=>cases hc
  rename_i s b zs x h1 h2 h3 h4 h5;split at hc
  case h_2=>cases hc
  rename_i hzl hzk;cases hc;have hzl:=Nat.eq_of_beq_eq_true hzl;obtain⟨v,h,hv⟩:=J0b h4 h;split at h
  case h_2=>exact h.elim
  rename_i k n;obtain⟨m,rfl,hm,h⟩:=h;obtain⟨hbm,h⟩:=h;obtain⟨kk,ks',rfl,hK⟩:=J0t h;obtain⟨i,z,hi,hz,hzc⟩:=J0E h3;have hisz:i.size=s:=by simpa[J11,hi] using h1
  have hib:i.bytes=b:=by simpa[hi] using h2
  have hb':(i.bytes:Int)*(m:Int)<=281474976710656:=by
   have:((i.bytes*m:Nat):Int)<=281474976710656:=by rw[hib,Nat.mul_comm];omega
   rwa[Int.natCast_mul] at this
  have hlc:∀M w σ a,(∀y,y∈[x]->XOk M w σ env a y)->a.eval l=.int k m/\∃kc,a.eval c=.int kc m:=by
   intro M w σ a ok;have dv:=hv M w σ a (ok _ (by simp));have hl:a.eval l=.int k m:=by generalize a.eval l=q at dv;cases dv;rfl
   refine⟨hl,?_⟩;unfold J6q at h5;split at h5
   . rename_i n1 n2 e1 e2;cases e1;cases e2;rw[<- Nat.eq_of_beq_eq_true h5];exact⟨_,hl⟩
   . rename_i k1 a1 k2 a2 e1 e2;cases e1;cases e2;have e3:=of_decide_eq_true h5;simp only[Act.eval] at hl ⊢;cases hl;exact⟨k2,by rw[e3]⟩
   . cases h5
  rcases J70 hK with hK1 | ⟨hs1,hK1⟩
  rotate_left
  . subst hs1;refine⟨kk,ks',_,_,rfl,hK1,?_,.inr (.inl ⟨_,_,rfl⟩)⟩;intro M w σ a own0 ks0 ok hh;obtain⟨hl,kc,hlc⟩:=hlc M w σ a ok;obtain⟨l1,l2⟩:=J0B (M:=M) (w:=w) Sg.none hzc;have hr:=run_make (P:=P) w t e i z he hi hz k kc m m (by omega) (Int.le_refl _) hb' (by omega);simp only[Int.toNat_natCast] at hr;have zsz:z.cells.size=1:=by simp at l1;omega
    have hz0:0<zs.length:=by omega
    have hd:=l2 0 zs[0] z.cells[0] (by simp[hz0]) (by simp[show 0<z.cells.size by omega]);obtain⟨M',σ',n1,n2,n3,n4,n5⟩:=J3u (k:=kk) (ks:=ks0) hh 1 m (List.replicate m (zs.getD 0 default)) (madeCells z.cells (m*i.size)) e (by rw[size_madeCells,hisz];simp) (fun q x y hx hy=>by
     have hq:q<m:=by have:=(List.getElem?_eq_some_iff.1 hx).1;simpa using this
     have ex:x=zs[0]:=by
      rw[List.getElem?_replicate,if_pos hq] at hx;simp only[Option.some.injEq] at hx;rw[<- hx];simp[List.getD,hz0]
     have ey:y=z.cells[0]:=by
      simp only[madeCells,Array.getElem?_map] at hy;rw[Array.getElem?_range,if_pos (by rw[hisz];omega)] at hy;simp only[Option.map_some,zsz,Nat.mod_one,Option.some.injEq] at hy;rw[<- hy,getElem!_pos z.cells 0 (by omega)]
     rw[ex,ey];exact hd.mono ⟨fun _ _ h=>⟨h,rfl⟩,Nat.le_refl _⟩ (fun _ _ h=>by cases h))
    refine⟨.slice (some ⟨w.heap.size,0,none⟩) m m,w.alloc (.cells (madeCells z.cells (m*i.size)) e),M',σ',?_,n1,n2,n3,n4,n5⟩;refine J0S (s:=Instr.makeSlice t (a.eval l) (a.eval c)) ?_;rw[hl,hlc];exact hr
  . refine⟨kk,ks',_,_,rfl,hK1,?_,.inr (.inl ⟨_,_,rfl⟩)⟩;intro M w σ a own0 ks0 ok hh;obtain⟨hl,kc,hlc⟩:=hlc M w σ a ok;obtain⟨l1,l2⟩:=J0B (M:=M) (w:=w) Sg.none hzc;have hr:=run_make (P:=P) w t e i z he hi hz k kc m m (by omega) (Int.le_refl _) hb' (by omega);simp only[Int.toNat_natCast] at hr;have zsz:z.cells.size=s:=by simp at l1;omega
    obtain⟨M',σ',n1,n2,n3,n4,n5⟩:=J3h (w':=w.alloc (.cells (madeCells z.cells (m*i.size)) e)) (k:=kk) (ks:=ks0) hh m s m (fun _ j=>zs.getD j default) (madeCells z.cells (m*i.size)) e (.inl rfl) (Nat.le_refl _) (by rw[size_madeCells,hisz];exact Nat.le_refl _) (fun p j hp hj=>by
     have hlt:p*s+j<m*s:=by
      have:(p+1)*s<=m*s:=Nat.mul_le_mul_right _ hp;rw[Nat.add_mul] at this;omega
     have hjz:j<z.cells.size:=by omega
     have hjs:j<zs.length:=by omega
     have hmod:(p*s+j) % z.cells.size=j:=by
      rw[zsz,Nat.add_comm,Nat.add_mul_mod_self_right,Nat.mod_eq_of_lt hj]
     have hd:=l2 j zs[j] z.cells[j] (by simp[hjs]) (by simp[hjz]);refine⟨z.cells[j],?_,hd.oneCell ?_,by simpa[List.getD,hjs] using hd⟩
     . simp only[madeCells,Array.getElem?_map];rw[Array.getElem?_range,if_pos (by rw[hisz];exact hlt)];simp only[Option.map_some,hmod];rw[getElem!_pos z.cells j hjz]
     . exact J1y hzc _ (List.getElem_mem hjs))
    refine⟨.slice (some ⟨w.heap.size,0,none⟩) m m,w.alloc (.cells (madeCells z.cells (m*i.size)) e),M',σ',?_,n1,n2,n3 m (Nat.le_refl _),by rw[n4];simp,n5⟩;refine J0S (s:=Instr.makeSlice t (a.eval l) (a.eval c)) ?_;rw[hl,hlc];exact hr
 all_goals
  repeat' (split at hc)
  all_goals (first|(cases hc;done)|(simp at hc;done)|skip)
theorem J6C {P:Program} {o:Oper} {so:SOp} (hc:cOp P o.op=some so) (hn:so.isNew=true) {env:Env} {own:Own} {ks:List Nat} {K:V->Own->List Nat->Prop} (h:vop P so env own ks K) :
 ∃k ks' b v,ks=k::ks'/\K v ((k,b)::own) ks'/\J8S P o so.xs env k b v/\(v=.loc k 0\/(∃s n,v=.vec k s 0 n)\/v=.oel k 1 0 0):=by
 obtain⟨dst,op,type,pos,after,guard⟩:=o;simp only at hc;cases so<;>simp only[SOp.isNew,reduceCtorEq] at hn
 case alloc zs =>
  obtain⟨k,ks',rfl,hK⟩:=J0t h;refine⟨k,ks',_,_,rfl,hK,?_,.inl rfl⟩;intro M w σ a own0 ks0 _ hh;obtain⟨t,rfl,hz⟩:∃t,op=.alloc t/\J1c P t=some zs:=by cases J1o hc with|alloc t _ h=>exact⟨t,rfl,h⟩
  obtain⟨i,z,hi,hzz,hzc⟩:=J0E hz;obtain⟨l1,l2⟩:=J0B (M:=M) (w:=w) σ hzc;obtain⟨M',σ',n1,n2,n3,n4⟩:=J6D hh zs z.cells t (by simpa using l1.symm) (fun i x y hx hy=>l2 i x y hx (by simpa using hy));refine⟨_,_,M',σ',?_,n1,n2,n3,J6Z n3,n4⟩;refine J0S (s:=Instr.alloc t true (.tuple #[])) ?_;simp[Instr.alloc,zeroValue,typeInfo,Sem.run_bind,hi,hzz,newVar,newRow,go_sem]
 case alloca n z =>
  obtain⟨k,ks',rfl,hK⟩:=J0t h;refine⟨k,ks',_,_,rfl,hK,?_,.inr (.inr rfl)⟩;intro M w σ a own0 ks0 _ hh;obtain⟨t,rfl,hb⟩:∃t,op=.alloc t/\J8l P t=some (n,z):=by cases J1o hc with|alloca t _ _ h=>exact⟨t,rfl,h⟩
  unfold J8l at hb;split at hb
  case h_2=>cases hb
  rename_i n0 e zs hu hz;split at hb
  case h_2=>cases hb
  rename_i z0 hb1 hb2 hsz;cases hb;have hlen:=Nat.eq_of_beq_eq_true hb2;obtain⟨zall,zk,zc⟩:=J8C hsz;obtain⟨i,zz,hi,hzz,hzc⟩:=J0E hz;obtain⟨l1,l2⟩:=J0B (M:=M) (w:=w) Sg.none hzc;obtain⟨M',σ',n1,n2,n3,n4,n5⟩:=J3h (w':=w.alloc (.cells zz.cells t)) hh n 1 n (fun _ _=>z) zz.cells t (.inl rfl) (Nat.le_refl _) (by simp at l1;omega) (fun i j hi hj=>by
   have hj0:j=0:=by omega
   subst hj0;have h1:i<zs.length:=by omega
   have h2:i<zz.cells.size:=by simp at l1;omega
   have hd:=l2 i zs[i] zz.cells[i] (by simp[h1]) (by simp[h2]);rw[zall _ (List.getElem_mem h1)] at hd;exact⟨zz.cells[i],by simp[h2],hd.oneCell zc,hd⟩)
  have n3':=n3 n (Nat.le_refl _);refine⟨.pointer (some ⟨w.heap.size,0,none⟩),_,M',σ',?_,n1,n2,?_,by rw[n4];simp,n5⟩
  . refine J0S (s:=Instr.alloc t true (.tuple #[])) ?_;simp[Instr.alloc,zeroValue,typeInfo,Sem.run_bind,hi,hzz,newVar,newRow,go_sem]
  . have hb8:=Nat.le_of_ble_eq_true hb1;cases n3' with
    | vec _ _ _ _ _ bo base κ c ad hk hc hl ha =>
      obtain⟨b,e1,e2⟩:=ha (by omega);simp only[Option.some.injEq,Addr.mk.injEq] at e2;obtain⟨e3,e4,_⟩:=e2;subst e1 e3;have hb0:base=0:=by omega
      subst hb0;exact .oel _ k 1 0 0 _ 0 _ hk
 case xt xo =>
  have hx:Q2b P op=some xo:=by cases J1o hc with|xt _ _ h=>exact h
  cases xo<;>simp only[Bool.false_eq_true] at hn;rename_i s b zs x;exact Q3r (o:=⟨dst,op,type,pos,after,guard⟩) hx h
 case box x =>
  obtain⟨t,x0,rfl,hx⟩:∃t x0,op=.box t x0/\cX x0=some x:=by cases J1o hc with|box t x0 _ h=>exact⟨t,x0,rfl,h⟩
  obtain⟨v,h,hv⟩:=J0b hx h;obtain⟨cs,h,hcs⟩:=J1f h;obtain⟨k,ks',rfl,hK⟩:=J0t h;refine⟨k,ks',_,_,rfl,hK,?_,.inl rfl⟩;intro M w σ a own0 ks0 ok hh;obtain⟨l1,l2⟩:=hcs M w σ _ (hv M w σ a (ok _ (by simp[SOp.xs])));obtain⟨M',σ',n1,n2,n3,n4⟩:=J6D hh cs (a.eval x0).cells t l1.symm l2;refine⟨_,_,M',σ',?_,n1,n2,n3,J6Z n3,n4⟩;exact J0S (s:=Instr.box t (a.eval x0)) rfl
 case bslice s len xs =>
  obtain⟨t,parts,e,zs,rfl,ht,hs,hz,hxs,hidx,hlen,hbig⟩:∃t parts e zs,op=.buildSlice t len parts/\P.underlying t=some (.slice e)/\J11 P e=some s/\J1c P e=some zs /\
   cXs (parts.toList.map (·.2))=some xs/\J1h 0 parts.toList=true/\parts.toList.length=len/\len*s<=16777216:=by
   cases J1o hc with|bslice t _ parts e _ zs _ h1 h2 h3 h4 h5 h6 h7=>exact⟨t,parts,e,zs,rfl,h1,h2,h3,h4,h5,h6,h7⟩
  obtain⟨vs,h,hvl,hvs⟩:=J2L hxs h;cases hkf:J27 V.kf2 vs with
  | false =>
    rw[hkf] at h;simp only at h;obtain⟨cs,h,hcl,hcs⟩:=J4D s vs _ h;obtain⟨k,ks',rfl,hK⟩:=J0t h;refine⟨k,ks',_,_,rfl,hK,?_,.inr (.inl ⟨_,_,rfl⟩)⟩;intro M w σ a own0 ks0 ok hh;obtain⟨q1,q2⟩:=hcs M w σ ((parts.toList.map (·.2)).map a.eval) (by simpa using hvl) (hvs M w σ a ok);obtain⟨i,z,hi,hzz,hzc⟩:=J0E hz;have hisz:i.size=s:=by simpa[J11,hi] using hs
    have hps:J1h 0 (parts.toList.map fun p=>(p.1,a.eval p.2))=true:=by
     have:∀(l:List (Nat×Operand)) (n:Nat),J1h n l=true->J1h n (l.map fun p=>(p.1,a.eval p.2))=true:=by
      intro l
      induction l with
      | nil=>intro n _;rfl
      | cons p l ih =>
        intro n hn;obtain⟨k,x⟩:=p;simp only[J1h,List.map_cons] at hn ⊢;split at hn
        . exact ih _ hn
        . cases hn
     exact this _ _ hidx
    have zsz:∀q,((Array.range q).map (fun j=>(if len*s=0 then #[] else z.cells)[j % (if len*s=0 then #[] else z.cells).size]!):Array Value).size=q:=by intro q;simp
    obtain⟨cells',f1,f2,f3,f4⟩:=J4F s (parts.toList.map fun p=>(p.1,a.eval p.2)) 0
     ((Array.range (len*s)).map (fun j=>(if len*s=0 then #[] else z.cells)[j % (if len*s=0 then #[] else z.cells).size]!)) hps
     (fun p hp=>by
       obtain⟨p0,hp0,rfl⟩:=List.mem_map.1 hp;exact q1 _ (by simp only[List.map_map,List.mem_map,Function.comp];exact⟨p0,hp0,rfl⟩))
     (by rw[zsz];simp at hlen ⊢;rw[hlen];exact Nat.le_refl _)
    rw[zsz] at f2;have hvl':vs.length=len:=by rw[hvl];simpa using hlen
    obtain⟨M',σ',n1,n2,n3,n4,n5⟩:=J3u (k:=k) (ks:=ks0) hh s len cs cells' e (by rw[f2,hcl,hvl']) (fun q x y hx hy=>by
     have hq:q<len*s:=by rw[<- f2];exact(Array.getElem?_eq_some_iff.1 hy).1
     have hs0:0<s:=by
      rcases Nat.eq_zero_or_pos s with h|h
      . subst h;simp at hq
      . exact h
     have hqs:q / s<len:=Nat.div_lt_of_lt_mul (by rw[Nat.mul_comm];exact hq);have hqm:q % s<s:=Nat.mod_lt _ hs0;have hqe:q / s*s+q % s=q:=by rw[Nat.mul_comm];exact Nat.div_add_mod q s
     have hlt:q / s<parts.toList.length:=by omega
     obtain⟨x',y',x1,x2,x3,x4⟩:=q2 (q / s) (a.eval (parts.toList[q / s]).2) (by simp[List.getElem?_eq_getElem hlt]) (q % s) hqm;have:=f4 (q / s) ((parts.toList[q / s]).1,a.eval (parts.toList[q / s]).2) (by simp[List.getElem?_eq_getElem hlt]) (q % s) hqm;simp only[Nat.zero_add] at this;rw[hqe] at this x3;rw[this,x1] at hy;rw[x3] at hx;cases hy;cases hx;exact x4)
    have hrun:=J1U (P:=P) w t e len (parts.map fun(i,x)=>(i,a.eval x)) cells' s i z ht hi hzz hisz hbig (by rw[Array.toList_map];exact f1);exact⟨_,_,M',σ',J0S hrun,n1,n2,n3,n4,n5⟩
  | true =>
  rw[hkf] at h;simp only at h;obtain⟨rs,h,hrl,hrs⟩:=J4i s vs _ h;obtain⟨k,ks',rfl,hK⟩:=J0t h;refine⟨k,ks',_,_,rfl,hK,?_,.inr (.inl ⟨_,_,rfl⟩)⟩;intro M w σ a own0 ks0 ok hh;have hxl:xs.length=len:=by rw[J5o hxs];simpa using hlen
  obtain⟨q1,q2⟩:=hrs M w σ ((parts.toList.map (·.2)).map a.eval) (by simpa using hvl) (hvs M w σ a ok);obtain⟨i,z,hi,hzz,hzc⟩:=J0E hz;have hisz:i.size=s:=by simpa[J11,hi] using hs
  have hps:J1h 0 (parts.toList.map fun p=>(p.1,a.eval p.2))=true:=by
   have:∀(l:List (Nat×Operand)) (n:Nat),J1h n l=true->J1h n (l.map fun p=>(p.1,a.eval p.2))=true:=by
    intro l
    induction l with
    | nil=>intro n _;rfl
    | cons p l ih =>
      intro n hn;obtain⟨k,x⟩:=p;simp only[J1h,List.map_cons] at hn ⊢;split at hn
      . exact ih _ hn
      . cases hn
   exact this _ _ hidx
  have zsz:∀q,((Array.range q).map (fun j=>(if len*s=0 then #[] else z.cells)[j % (if len*s=0 then #[] else z.cells).size]!):Array Value).size=q:=by intro q;simp
  obtain⟨cells',f1,f2,f3,f4⟩:=J4F s (parts.toList.map fun p=>(p.1,a.eval p.2)) 0
   ((Array.range (len*s)).map (fun j=>(if len*s=0 then #[] else z.cells)[j % (if len*s=0 then #[] else z.cells).size]!)) hps
   (fun p hp=>by
     obtain⟨p0,hp0,rfl⟩:=List.mem_map.1 hp;exact q1 _ (by simp only[List.map_map,List.mem_map,Function.comp];exact⟨p0,hp0,rfl⟩))
   (by rw[zsz];simp at hlen ⊢;rw[hlen];exact Nat.le_refl _)
  rw[zsz] at f2;obtain⟨M',σ',n1,n2,n3,n4,n5⟩:=J3h (w':=w.alloc (.cells cells' e)) hh len s len (tab rs) cells' e (.inl rfl) (Nat.le_refl _) (by omega) (fun i j hi hj=>by
   have hlt:i<parts.toList.length:=by omega
   obtain⟨x,x1,x2,x3⟩:=q2 i (a.eval (parts.toList[i]).2) (by simp[List.getElem?_eq_getElem hlt]) j hj;refine⟨x,?_,x2,x3⟩;have:=f4 i ((parts.toList[i]).1,a.eval (parts.toList[i]).2) (by simp[List.getElem?_eq_getElem hlt]) j hj;simp only[Nat.zero_add] at this;rw[this];exact x1)
  have n3':=n3 len (Nat.le_refl _);have hrun:=J1U (P:=P) w t e len (parts.map fun(i,x)=>(i,a.eval x)) cells' s i z ht hi hzz hisz hbig (by rw[Array.toList_map];exact f1);exact⟨_,_,M',σ',J0S hrun,n1,n2,n3',by rw[n4];simp,n5⟩
open Go.ChangeMaps (setBlock)
theorem set_same {w:World} {r:Nat} {o:Obj} (h:r<w.heap.size):(setBlock w r o).heap[r]?=some o:=by simp[setBlock,h]
theorem set_other {w:World} {r k:Nat} {o:Obj} (h:k≠r):(setBlock w r o).heap[k]?=w.heap[k]?:=by
 simp[setBlock,Array.getElem?_setIfInBounds_ne (Ne.symm h)]
theorem J7Q {w:World} {r:Nat} {o:Obj}:(setBlock w r o).heap.size=w.heap.size:=by simp[setBlock]
theorem J6k:∀(l:List IntKind) (vs:List V) (K:KyS l->Prop),stK l vs K->∃p,K p/\∀M w σ (us:List Value),vs.length=us.length->(∀(i:Nat) (v:V) (u:Value),vs[i]?=some v->us[i]?=some u->Den M w σ v u)->us=stP l p
 | [],vs,K,h=>by
   cases vs with
   | nil=>exact⟨(),h,fun M w σ us hl _=>by simpa[stP] using List.eq_nil_of_length_eq_zero hl.symm⟩
   | cons=>exact h.elim
 | k::l,vs,K,h=>by
   cases vs with
   | nil=>exact h.elim
   | cons v r =>
     cases v<;>first|exact h.elim|skip
     rename_i k' a;simp only[stK] at h;split at h
     case h_2=>exact h.elim
     rename_i hk;have hk:=of_decide_eq_true hk;subst hk;obtain⟨p,hK,hp⟩:=J6k l r _ h;refine⟨(a,p),hK,fun M w σ us hl hd=>?_⟩
     match us,hl,hd with
     | u::us,hl,hd =>
       have h0:=hd 0 _ u rfl rfl;cases h0;rw[hp M w σ us (by simpa using hl) (fun i v u hv hu=>hd (i+1) v u (by simpa using hv) (by simpa using hu))];rfl
theorem J4m {ik:MKd} {v:V} {K:KyT ik->Prop} (h:J7k ik v K):∃p,K p/\∀M w σ u,Den M w σ v u->u=J1u ik p:=by
 cases ik with
 | one ik =>
   simp only[J7k] at h;split at h
   . split at h
     . rename_i e1;have e1:=of_decide_eq_true e1;subst e1;exact⟨_,h,fun M w σ u hd=>by cases hd;rfl⟩
     . exact h.elim
   . exact h.elim
 | str =>
   simp only[J7k] at h;split at h
   . exact⟨_,h,fun M w σ u hd=>by cases hd;rfl⟩
   . exact h.elim
 | st l =>
   simp only[J7k] at h;split at h
   . obtain⟨p,hK,hp⟩:=J6k l _ _ h;refine⟨p,hK,fun M w σ u hd=>?_⟩;cases hd with
     | agg _ _ us hl hd=>rw[J1u,hp M w σ us hl hd]
   . exact h.elim
 | pair ik =>
 simp only[J7k] at h;split at h
 . rename_i k a k' b;split at h
   . rename_i e1 e2;have e1:=of_decide_eq_true e1;have e2:=of_decide_eq_true e2;subst e1 e2;refine⟨_,h,fun M w σ u hd=>?_⟩;cases hd with
     | agg _ _ us hl hd =>
       match us,hl,hd with
       | [x,y],_,hd =>
         have h1:=hd 0 _ x rfl rfl;have h2:=hd 1 _ y rfl rfl;cases h1;cases h2;rfl
   . exact h.elim
 . exact h.elim
theorem J2J {own:Own} {m:V} {K:Nat->(ik:MKd)->List (KyT ik×V)->Prop} (h:Q37 own m K):∃k ik es,m=.map k/\look own k=some (.map ik es)/\K k ik es:=by
 unfold Q37 at h;split at h
 . split at h
   . exact⟨_,_,_,rfl,‹_›,h⟩
   . exact h.elim
 . exact h.elim
theorem J4w {own:Own} {m:V} {K:Nat->Nat->Nat->List Nat->(ik:MKd)->List (KyT ik×V)->Prop} (h:Q1M own m K) :
 ∃k km n J1h ik es,m=.loc k 0/\look own k=some (.iter km n J1h)/\look own km=some (.map ik es)/\es.length=n/\K k km n J1h ik es:=by
 unfold Q1M at h;split at h
 . split at h
   . split at h
     . obtain⟨h1,h2⟩:=h;exact⟨_,_,_,_,_,_,rfl,‹_›,‹_›,Nat.eq_of_beq_eq_true h1,h2⟩
     . exact h.elim
   . exact h.elim
 . exact h.elim
theorem J8g {M:Nat->Prop} {w:World} {σ:Sg} {ik:MKd} (p:KyT ik):Den M w σ (Q5E ik p) (J1u ik p):=by
 cases ik with
 | one k=>exact .int _ _ _
 | str=>exact .str _ _
 | st l =>
   have key:∀(l:List IntKind) (p:KyS l),(stV l p).length=(stP l p).length/\∀(i:Nat) (v:V) (u:Value),(stV l p)[i]?=some v->(stP l p)[i]?=some u->Den M w σ v u:=by
    intro l
    induction l with
    | nil=>intro p;exact⟨rfl,fun i v u hv=>by simp[stV] at hv⟩
    | cons k l ih =>
      intro p;obtain⟨h1,h2⟩:=ih p.2;refine⟨by simp[stV,stP,h1],fun i v u hv hu=>?_⟩;cases i with
      | zero=>simp[stV,stP] at hv hu;subst hv hu;exact .int _ _ _
      | succ i=>exact h2 i v u (by simpa[stV] using hv) (by simpa[stP] using hu)
   exact .agg _ _ _ (key l p).1 (key l p).2
 | pair ik =>
   refine .agg _ _ [.int ik p.1,.int ik p.2] rfl fun i v u hv hu=>?_
   match i,hv,hu with
   | 0,hv,hu=>simp at hv hu;subst hv hu;exact .int _ _ _
   | 1,hv,hu=>simp at hv hu;subst hv hu;exact .int _ _ _
   | i+2,hv,hu=>simp at hv
theorem J5X {M:Nat->Prop} {w:World} {σ:Sg} {a b:V} {x y:Value} (h1:Den M w σ a x) (h2:Den M w σ b y):Den M w σ (.tup [a,b]) (.tuple #[x,y]):=by
 refine .tup _ _ [x,y] rfl fun i v u hv hu=>?_
 match i,hv,hu with
 | 0,hv,hu=>simp at hv hu;subst hv hu;exact h1
 | 1,hv,hu=>simp at hv hu;subst hv hu;exact h2
 | i+2,hv,hu=>simp at hv
theorem Q14 {M:Nat->Prop} {w:World} {σ:Sg} {a b c:V} {x y z:Value} (h1:Den M w σ a x) (h2:Den M w σ b y) (h3:Den M w σ c z):Den M w σ (.tup [a,b,c]) (.tuple #[x,y,z]):=by
 refine .tup _ _ [x,y,z] rfl fun i v u hv hu=>?_
 match i,hv,hu with
 | 0,hv,hu=>simp at hv hu;subst hv hu;exact h1
 | 1,hv,hu=>simp at hv hu;subst hv hu;exact h2
 | 2,hv,hu=>simp at hv hu;subst hv hu;exact h3
 | i+3,hv,hu=>simp at hv
theorem Q15 {M:Nat->Prop} {w:World} {σ:Sg} {a:V} {x:Value} (h1:Den M w σ a x):Den M w σ (.tup [a]) (.tuple #[x]):=by
 refine .tup _ _ [x] rfl fun i v u hv hu=>?_
 match i,hv,hu with
 | 0,hv,hu=>simp at hv hu;subst hv hu;exact h1
 | i+1,hv,hu=>simp at hv
theorem Den.none_le {M:Nat->Prop} {w:World} {σ:Sg} {v:V} {u:Value} (h:Den M w Sg.none v u):Den M w σ v u:=h.mono ⟨fun _ _ h=>⟨h,rfl⟩,Nat.le_refl _⟩ (fun _ _ h=>by cases h)
theorem Q1K (ik:MKd) (p:KyT ik) (P:Program) (w:World):(Instr.keyThatStays (J1u ik p) (J1u ik p)).run P w=.ok (J1u ik p) w:=by
 have:Instr.sameBits 10000 (J1u ik p) (J1u ik p)=true:=by
  cases ik with
  | st l =>
    rw[J1u,show(10000:Nat)=9999+1 from rfl];have key:∀(l:List IntKind) (p:KyS l),((stP l p).zip (stP l p)).all (fun(x:Value×Value)=>Instr.sameBits 9999 x.1 x.2)=true:=by
     intro l
     induction l with
     | nil=>intro p;rfl
     | cons k l ih=>intro p;simp[stP,Instr.sameBits,ih p.2]
    simpa[Instr.sameBits] using key l p
  | _=>(rw[J1u,show(10000:Nat)=9999+1 from rfl];simp[Instr.sameBits])<;>exact(Go.MapKept.bytes_beq _ _).2 rfl
 simp[Instr.keyThatStays,this,go_sem]
theorem J4q {α:Type}:∀{l:List (Nat×α)} {k:Nat} {v:α},(l.map (·.1)).Nodup->(k,v)∈l->look l k=some v
 | [],_,_,_,h=>by simp at h
 | (q,c)::l,k,v,hn,h=>by
   simp only[List.map_cons,List.nodup_cons] at hn;rcases List.mem_cons.1 h with e|e
   . cases e;simp[look]
   . have:Nat.beq q k=false:=by
      rw[<- Bool.not_eq_true];intro hb;have:=Nat.eq_of_beq_eq_true hb;subst this;exact hn.1 (List.mem_map.2 ⟨_,e,rfl⟩)
     simp only[look,this];exact J4q hn.2 e
theorem J9U {σ:Sg} {own own':Own} {ks:List Nat} (h:own'.map (·.1)=own.map (·.1)):Kd σ own ks σ own' ks:=⟨fun _ h=>h,fun _ h _=>h,fun k hk=>.inl (by rw[h] at hk;exact hk)⟩
theorem J8W {P:Program} {o:Oper} {xo:XOp} (hc:Q2b P o.op=some xo) {env:Env} {own:Own} {ks:List Nat} {K:V->Own->List Nat->Prop} (h:Q5q xo env own ks K)
 {M:Nat->Prop} {w:World} {σ:Sg} {a:Act} (ok:∀x,x∈xo.xs->XOk M w σ env a x) (hh:J0G M w σ own ks) (Q:Exit->Act->World->Prop):o.wp P a w (OP o a M w σ own ks K) Q:=by
 obtain⟨dst,op,type,pos,after,guard⟩:=o;simp only at hc;unfold Q2b at hc;split at hc
 . -- a new slice
   rename_i t l c;split at hc
   case h_2=>cases hc
   rename_i e he;split at hc
   case h_2=>cases hc
   rename_i s b zs x h1 h2 h3 h4 h5;split at hc
   case h_2=>cases hc
   rename_i hzl hzk;cases hc;have hzl:=Nat.eq_of_beq_eq_true hzl;obtain⟨v,h,hv⟩:=J0b h4 h;have dv:=hv M w σ a (ok _ (by simp[XOp.xs]));split at h
   case h_2=>exact h.elim
   rename_i k n;obtain⟨m,rfl,hm,h⟩:=h;obtain⟨hbm,h⟩:=h;obtain⟨kk,ks',rfl,hK⟩:=J0t h;obtain⟨i,z,hi,hz,hzc⟩:=J0E h3;have hisz:i.size=s:=by simpa[J11,hi] using h1
   have hib:i.bytes=b:=by simpa[hi] using h2
   obtain⟨l1,l2⟩:=J0B (M:=M) (w:=w) Sg.none hzc;have hl:a.eval l=.int k m:=by generalize a.eval l=q at dv;cases dv;rfl
   obtain⟨kc,hlc⟩:∃kc,a.eval c=.int kc m:=by
    unfold J6q at h5;split at h5
    . rename_i n1 n2 e1 e2;cases e1;cases e2;rw[<- Nat.eq_of_beq_eq_true h5];exact⟨_,hl⟩
    . rename_i k1 a1 k2 a2 e1 e2;cases e1;cases e2;have e3:=of_decide_eq_true h5;simp only[Act.eval] at hl ⊢;cases hl;exact⟨k2,by rw[e3]⟩
    . cases h5
   have hb':(i.bytes:Int)*(m:Int)<=281474976710656:=by
    have:((i.bytes*m:Nat):Int)<=281474976710656:=by rw[hib,Nat.mul_comm];omega
    rwa[Int.natCast_mul] at this
   have hr:=run_make (P:=P) w t e i z he hi hz k kc m m (by omega) (Int.le_refl _) hb' (by omega);simp only[Int.toNat_natCast] at hr;have zsz:z.cells.size=s:=by simp at l1;omega
   rcases J70 hK with hK1 | ⟨hs1,hK1⟩
   rotate_left
   . subst hs1;have hz0:0<zs.length:=by omega
     have hd:=l2 0 zs[0] z.cells[0] (by simp[hz0]) (by simp[show 0<z.cells.size by omega]);obtain⟨M',σ',n1,n2,n3,n4,n5⟩:=J3u (k:=kk) (ks:=ks') hh 1 m (List.replicate m (zs.getD 0 default)) (madeCells z.cells (m*i.size)) e (by rw[size_madeCells,hisz];simp) (fun q x y hx hy=>by
      have hq:q<m:=by have:=(List.getElem?_eq_some_iff.1 hx).1;simpa using this
      have ex:x=zs[0]:=by
       rw[List.getElem?_replicate,if_pos hq] at hx;simp only[Option.some.injEq] at hx;rw[<- hx];simp[List.getD,hz0]
      have ey:y=z.cells[0]:=by
       simp only[madeCells,Array.getElem?_map] at hy;rw[Array.getElem?_range,if_pos (by rw[hisz];omega)] at hy;simp only[Option.map_some,zsz,Nat.mod_one,Option.some.injEq] at hy;rw[<- hy,getElem!_pos z.cells 0 (by omega)]
      rw[ex,ey];exact hd.mono ⟨fun _ _ h=>⟨h,rfl⟩,Nat.le_refl _⟩ (fun _ _ h=>by cases h))
     refine J0r (u:=.slice (some ⟨w.heap.size,0,none⟩) m m) (w':=w.alloc (.cells (madeCells z.cells (m*i.size)) e)) ?_ ⟨_,M',σ',_,_,ks',rfl,n3,n1,n2,n5,hK1⟩;refine J0S (s:=Instr.makeSlice t (a.eval l) (a.eval c)) ?_;rw[hl,hlc];exact hr
   obtain⟨M',σ',n1,n2,n3,n4,n5⟩:=J3h (w':=w.alloc (.cells (madeCells z.cells (m*i.size)) e)) hh m s m (fun _ j=>zs.getD j default) (madeCells z.cells (m*i.size)) e (.inl rfl) (Nat.le_refl _) (by rw[size_madeCells,hisz];exact Nat.le_refl _) (fun p j hp hj=>by
    have hlt:p*s+j<m*s:=by
     have:(p+1)*s<=m*s:=Nat.mul_le_mul_right _ hp;rw[Nat.add_mul] at this;omega
    have hjz:j<z.cells.size:=by omega
    have hjs:j<zs.length:=by omega
    have hmod:(p*s+j) % z.cells.size=j:=by
     rw[zsz,Nat.add_comm,Nat.add_mul_mod_self_right,Nat.mod_eq_of_lt hj]
    have hd:=l2 j zs[j] z.cells[j] (by simp[hjs]) (by simp[hjz]);refine⟨z.cells[j],?_,hd.oneCell ?_,by simpa[List.getD,hjs] using hd⟩
    . simp only[madeCells,Array.getElem?_map];rw[Array.getElem?_range,if_pos (by rw[hisz];exact hlt)];simp only[Option.map_some,hmod];rw[getElem!_pos z.cells j hjz]
    . exact J1y hzc _ (List.getElem_mem hjs))
   refine J0r (u:=.slice (some ⟨w.heap.size,0,none⟩) m m) (w':=w.alloc (.cells (madeCells z.cells (m*i.size)) e)) ?_ ⟨_,M',σ',_,_,ks',rfl,n3 m (Nat.le_refl _),n1,n2,n5,hK1⟩;refine J0S (s:=Instr.makeSlice t (a.eval l) (a.eval c)) ?_;rw[hl,hlc];exact hr
 . -- a new map
   rename_i t;simp only[Option.map_eq_some_iff] at hc;obtain⟨⟨ik,kt,et,e⟩,hm,rfl⟩:=hc;obtain⟨kk,ks',rfl,hK⟩:=J0t h;obtain⟨M',n1,n2⟩:=J1W (w':=w.alloc (.map #[] 0)) hh (some w.heap.size,0,0) (.map ik []) (fun n e=>by simpa using e.symm) rfl (J0R.rf rfl rfl) rfl (by rw[J1g];omega)
    (fun n hn=>J0P hn) (fun M' hM' hE=>⟨w.heap.size,0,#[],Sg.set_same _ _ _,(hM' _).2 (.inr rfl),J2e,True.intro⟩)
   refine J0r (u:=.map (some w.heap.size)) (w':=w.alloc (.map #[] 0)) ?_ ⟨_,M',_,.map kk,_,ks',rfl,.map _ _ _ _ _ (Sg.set_same _ _ _),n1,n2,J2U _ _ J13,hK⟩;refine J0S (s:=Instr.makeMap t none) ?_;simp[Instr.makeMap,go_sem]
 . -- lookup
   rename_i t m0 x0 comma;split at hc
   case h_2=>cases hc
   rename_i ik kt et e m x hm h1 h2;simp only[Option.map_eq_some_iff] at hc;obtain⟨zv,hz,rfl⟩:=hc;obtain⟨q1,q2⟩:=J4x hm;obtain⟨vm,hg,hvm⟩:=J0b h1 h;clear h;obtain⟨vx,h,hvx⟩:=J0b h2 hg;clear hg;replace h:=J2J h;obtain⟨k,ik',es,rfl,hlook,h⟩:=h;split at h
   case h_2=>exact h.elim
   rename_i hik;have hik:=of_decide_eq_true hik;subst hik;obtain⟨p,h,hp⟩:=J4m h;have dm:=hvm M w σ a (ok _ (by simp[XOp.xs]));have dx:=hp M w σ _ (hvx M w σ a (ok _ (by simp[XOp.xs])));obtain⟨b,κ,arr,z1,z2,z3,z4⟩:=hh.own.blk k _ (J0c hlook);have hme:a.eval m0=.map (some b):=by
    generalize a.eval m0=q at dm;cases dm with
    | map _ _ b' _ _ hk=>rw[z1] at hk;cases hk;rfl
   obtain⟨zz,hzz,hzc⟩:∃zz,(zeroValue et).run P w=.ok zz w/\J4o zz=some zv:=by
    unfold Q4h at hz;split at hz
    . rename_i i hi;split at hz
      . rename_i zz hzz;exact⟨zz,by simp[zeroValue,typeInfo,Sem.run_bind,hi,hzz,go_sem],hz⟩
      . cases hz
    . cases hz
   have dz:Den M w σ zv zz:=J3B hzc σ;rcases J4E q2 p arr.toList es 0 z4 0 with ⟨n,x',v,a1,a2,a3,a4,a5,_⟩ | ⟨a1,a2,_⟩
   . have hK:=h.hit v a4;refine J0r (u:=if comma then .tuple #[x'.val,.bool true] else x'.val) (w':=w) ?_ ⟨_,M,σ,if comma then .tup [v,.bool true] else v,own,ks,rfl,?_,hh,Tr.refl _ _ _ _,Kd.refl _ _ _,?_⟩
     . refine J0S (s:=Instr.lookup t (a.eval m0) (a.eval x0) comma) ?_;rw[hme,dx];simp only[Instr.lookup,Sem.run_bind,run_underlying q1,MapKept.run_getObj_map z3,Result.andThen_ok,Sem.run_pure,J1x q2,J1Y q2,a1]
     . cases comma
       . exact a5.none_le
       . exact J5X a5.none_le (.bool _ _)
     . cases comma<;>exact hK
   . have hK:=h.miss a2;refine J0r (u:=if comma then .tuple #[zz,.bool false] else zz) (w':=w) ?_ ⟨_,M,σ,if comma then .tup [zv,.bool false] else zv,own,ks,rfl,?_,hh,Tr.refl _ _ _ _,Kd.refl _ _ _,?_⟩
     . refine J0S (s:=Instr.lookup t (a.eval m0) (a.eval x0) comma) ?_;rw[hme,dx];simp only[Instr.lookup,Sem.run_bind,run_underlying q1,MapKept.run_getObj_map z3,Result.andThen_ok,Sem.run_pure,J1x q2,J1Y q2,a1,hzz]
     . cases comma
       . exact dz
       . exact J5X dz (.bool _ _)
     . cases comma<;>exact hK
 . -- a store
   rename_i t m0 x0 y0;split at hc
   case h_2=>cases hc
   rename_i ik kt et e m x y hm h1 h2 h3;cases hc;obtain⟨q1,q2⟩:=J4x hm;obtain⟨vm,hg,hvm⟩:=J0b h1 h;clear h;obtain⟨vx,hg2,hvx⟩:=J0b h2 hg;clear hg;obtain⟨vy,h,hvy⟩:=J0b h3 hg2;clear hg2;replace h:=J2J h;obtain⟨k,ik',es,rfl,hlook,h⟩:=h;split at h
   case h_2=>exact h.elim
   rename_i hik hkf;have hik:=of_decide_eq_true hik;subst hik;obtain⟨p,h,hp⟩:=J4m h;have dm:=hvm M w σ a (ok _ (by simp[XOp.xs]));have dx:=hp M w σ _ (hvx M w σ a (ok _ (by simp[XOp.xs])));have dy:=(hvy M w σ a (ok _ (by simp[XOp.xs]))).kf2 hkf Sg.none;obtain⟨own',hK,hu1,hu2⟩:=J0U _ _ _ _ h hh.own.nodup ⟨_,J0c hlook⟩;obtain⟨b,κ,arr,z1,z2,z3,z4⟩:=hh.own.blk k _ (J0c hlook);have hme:a.eval m0=.map (some b):=by
    generalize a.eval m0=q at dm;cases dm with
    | map _ _ b' _ _ hk=>rw[z1] at hk;cases hk;rfl
   have hlt:=lt_of_getElem? z3;obtain⟨arr',hrun,hrel⟩:∃arr':Array MapEntry,(Instr.mapUpdate t (a.eval m0) (a.eval x0) (a.eval y0)).run P w=.ok () (setBlock w b (.map arr' arr'.size))/\J8o M w ik' arr'.toList (mput es p vy) 0:=by
    rw[hme,dx];rcases J4E q2 p arr.toList es 0 z4 0 with ⟨n,x',v,a1,a2,a3,a4,a5,a6⟩ | ⟨a1,a2,a3⟩
    . refine⟨arr.modify n fun e=>{ e with key:=J1u ik' p,val:=a.eval y0 },?_,?_⟩
      . have hn:(arr[n]?).map (·.key)=some (J1u ik' p):=by
         rw[Array.getElem?_toList] at a2;rw[a2];simp[a3]
        simp only[Nat.zero_add] at a1;simp only[Instr.mapUpdate,Sem.run_bind,run_underlying q1,MapKept.run_getObj_map z3,Result.andThen_ok,J1x q2,J1Y q2,a1,hn,Option.getD_some,Q1K,MapKept.run_setObj_map _ z3,Array.size_modify];rfl
      . have:=a6 vy (a.eval y0) dy;simpa using this
    . refine⟨arr.push { key:=J1u ik' p,val:=a.eval y0,born:=arr.size },?_,?_⟩
      . simp only[Instr.mapUpdate,Sem.run_bind,run_underlying q1,MapKept.run_getObj_map z3,Result.andThen_ok,J1x q2,J1Y q2,a1,MapKept.run_setObj_map _ z3,Array.size_push];rfl
      . have:=a3 vy (a.eval y0) dy;simpa using this
   have hw:=J1n (w':=setBlock w b (.map arr' arr'.size)) hh k b (.map ik' es) (.map ik' (mput es p vy)) (J0c hlook) (.inl (by simp[J0p,z1])) hu2 hu1 rfl (J0R.rf rfl rfl) rfl J7Q (fun n hn=>set_other hn)
    (fun hE=>⟨b,κ,arr',z1,z2,set_same hlt,hrel.mono hE⟩)
   unfold Oper.wp;have hex:(execOp a.eval ⟨dst,.mapUpdate t m0 x0 y0,type,pos,after,guard⟩).run P w=.ok .skip (setBlock w b (.map arr' arr'.size)):=by
    show((Instr.mapUpdate t (a.eval m0) (a.eval x0) (a.eval y0) >>= fun _=>pure Next.skip):Sem Next).run P w=_;rw[Sem.run_bind,hrun];rfl
   rw[hex];exact⟨undef,M,σ,_,own',ks,rfl,.raw _ _,hw.1,hw.2,J9U hu1,hK⟩
 . -- range
   rename_i t x0;split at hc
   case h_2=>cases hc
   rename_i pp hm;obtain⟨ik,kt,et,e⟩:=pp;simp only[Option.map_eq_some_iff] at hc;obtain⟨x,h1,rfl⟩:=hc;obtain⟨q1,_⟩:=J4x hm;obtain⟨vm,h,hvm⟩:=J0b h1 h;obtain⟨k,ik',es,rfl,hlook,h⟩:=J2J h;obtain⟨kk,ks',rfl,hK⟩:=J0t h;have dm:=hvm M w σ a (ok _ (by simp[XOp.xs]));obtain⟨b,κ,arr,z1,z2,z3,z4⟩:=hh.own.blk k _ (J0c hlook);have hme:a.eval x0=.map (some b):=by
    generalize a.eval x0=q at dm;cases dm with
    | map _ _ b' _ _ hk=>rw[z1] at hk;cases hk;rfl
   have hlen:arr.size=es.length:=by have:=z4.length;simpa using this
   have hne:k≠kk:=fun e=>by
    have:=hh.fresh kk (by simp);rw[<- e,z1] at this;cases this
   obtain⟨M',n1,n2⟩:=J1W (w':=w.alloc (.mapIter (some b) arr.size #[] arr.size)) hh (some w.heap.size,0,0) (.iter k es.length []) (fun n e=>by simpa using e.symm) rfl (J0R.rf rfl rfl) rfl (by rw[J1g];omega)
    (fun n hn=>J0P hn) (fun M' hM' hE=>⟨w.heap.size,0,b,0,κ,Sg.set_same _ _ _,(hM' _).2 (.inr rfl),by rw[Sg.set_other _ _ _ hne];exact z1,by rw[<- hlen];exact J2e⟩)
   refine J0r (u:=.pointer (some ⟨w.heap.size,0,none⟩)) (w':=w.alloc (.mapIter (some b) arr.size #[] arr.size)) ?_ ⟨_,M',_,.loc kk 0,_,ks',rfl,.loc _ _ _ _ _ _ (Sg.set_same _ _ _),n1,n2,J2U _ _ J13,hK⟩;refine J0S (s:=Instr.range t (a.eval x0)) ?_;rw[hme];exact run_range_map w t kt et b arr arr.size q1 z3
 . -- next
   rename_i x0;simp only[Option.map_eq_some_iff] at hc;obtain⟨x,h1,rfl⟩:=hc;obtain⟨vm,h,hvm⟩:=J0b h1 h;obtain⟨k,km,n,J1h,ik,es,rfl,hlook,hlm,hlen,h⟩:=J4w h;have dm:=hvm M w σ a (ok _ (by simp[XOp.xs]));obtain⟨r,κ,b,base,κ',y1,y2,y3,y4⟩:=hh.own.blk k _ (J0c hlook);obtain⟨b',κ2,arr,z1,z2,z3,z4⟩:=hh.own.blk km _ (J0c hlm);rw[z1] at y3;simp only[Option.some.injEq,Prod.mk.injEq] at y3;obtain⟨rfl,rfl,rfl⟩:=y3;have hme:a.eval x0=.pointer (some ⟨r,0,none⟩):=by
    generalize a.eval x0=q at dm;cases dm with
    | loc _ _ _ b2 base2 _ hk=>rw[y1] at hk;cases hk;rfl
   have hsz:arr.size=n:=by rw[<- hlen];have:=z4.length;simpa using this
   have hborn:∀(j:Nat) (e:MapEntry),arr[j]?=some e->∃p,es[j]?=some p/\e.key=J1u ik p.1/\e.born=j/\Den M w Sg.none p.2 e.val:=fun j e he=>by
    obtain⟨p,c1,c2,c3,c4⟩:=z4.get j e (by simpa using he);exact⟨p,c1,c2,by omega,c4⟩
   have hold:∀e∈arr.toList,e.born<n:=fun e he=>by
    obtain⟨j,hj⟩:=List.getElem?_of_mem he;obtain⟨p,c1,_,c3,_⟩:=hborn j e (by simpa using hj);have:=(List.getElem?_eq_some_iff.1 c1).1;omega
   have hltr:=lt_of_getElem? y4;rcases run_next_at (P:=P) w type r b' n n J1h.toArray arr arr.size y4 z3 hold (Nat.le_refl _) with ⟨h0,hrun⟩ | ⟨e,he,w1,hal,hrun⟩
   . have hall:∀i,i<n->i∈J1h:=by
      intro i hi;apply Classical.byContradiction;intro hni;have hi':i<arr.size:=by omega
      obtain⟨p,_,_,c3,_⟩:=hborn i arr[i] (by simp[hi']);have hmem:arr[i]∈leftOf arr J1h.toArray:=by
       unfold leftOf;rw[Array.mem_filter];refine⟨Array.getElem_mem hi',?_⟩;simp[c3,hni]
      have:0<(leftOf arr J1h.toArray).size:=by
       obtain⟨q,hq,_⟩:=Array.mem_iff_getElem.1 hmem;omega
      omega
     refine J0r (u:=.tuple #[.bool false]) (w':=w) ?_ ⟨_,M,σ,_,own,ks,rfl,Q15 (.bool _ _),hh,Tr.refl _ _ _ _,Kd.refl _ _ _,h.over hall⟩;refine J0S (s:=Instr.next (a.eval x0) false type) ?_;rw[hme];exact hrun
   . have he':e∈leftOf arr J1h.toArray:=by simpa using he
     unfold leftOf at he';rw[Array.mem_filter] at he';obtain⟨hea,hen⟩:=he';obtain⟨j,hj,hje⟩:=Array.mem_iff_getElem.1 hea;obtain⟨p,c1,c2,c3,c4⟩:=hborn j e (by rw[<- hje];simp[hj]);have hnin:j∉J1h:=by
      rw[c3] at hen;simpa using hen
     have hA:=h.one j p (by omega) hnin c1;obtain⟨own',hK,hu1,hu2⟩:=J0U _ _ _ _ hA hh.own.nodup ⟨_,J0c hlook⟩;have hkne:km≠k:=fun e=>by
      subst e;rw[hlook] at hlm;cases hlm
     have hw1:w1.heap=w.heap/\w1.os=w.os/\J0R w1 w/\w1.output=w.output:=by rcases hal with rfl|rfl<;>exact⟨rfl,rfl,⟨rfl,by first|exact Nat.le_refl _|exact Nat.le_succ _⟩,rfl⟩
     let w':=setBlock w1 r (.mapIter (some b') n (J1h.toArray.push e.born) arr.size);have hwr:=J1n (w':=w') hh k r _ (.iter km n (J1h++[j])) (J0c hlook) (.inl (by simp[J0p,y1])) hu2 hu1 hw1.2.1 ⟨hw1.2.2.1.eq,hw1.2.2.1.le⟩ hw1.2.2.2 (by simp[w',J7Q,hw1.1])
      (fun q hq=>by show(setBlock w1 r _).heap[q]?=_;rw[set_other hq,hw1.1]) (fun hE=>by
        refine⟨r,κ,b',0,κ2,y1,y2,z1,?_⟩;show(setBlock w1 r _).heap[r]?=_;rw[set_same (by rw[hw1.1];exact hltr),hsz,c3];simp)
     have hE:=hwr.2.ext hh.own;refine J0r (u:=.tuple #[.bool true,e.key,e.val]) (w':=w') ?_ ⟨_,M,σ,_,own',ks,rfl,?_,hwr.1,hwr.2,J9U hu1,hK⟩
     . refine J0S (s:=Instr.next (a.eval x0) false type) ?_;rw[hme];exact hrun
     . rw[c2];exact Q14 (.bool _ _) (J8g _) (c4.none_le.mono hE (Sg.le_refl _))
 . -- entry
   rename_i x0;simp only[Option.map_eq_some_iff] at hc;obtain⟨x,h1,rfl⟩:=hc;obtain⟨vm,h,hvm⟩:=J0b h1 h;obtain⟨k,km,n,J1h,ik,es,rfl,hlook,hlm,hlen,j,hlast,p,hp,hK⟩:=J4w h;have dm:=hvm M w σ a (ok _ (by simp[XOp.xs]));obtain⟨r,κ,b,base,κ',y1,y2,y3,y4⟩:=hh.own.blk k _ (J0c hlook);obtain⟨b',κ2,arr,z1,z2,z3,z4⟩:=hh.own.blk km _ (J0c hlm);rw[z1] at y3;simp only[Option.some.injEq,Prod.mk.injEq] at y3;obtain⟨rfl,rfl,rfl⟩:=y3;have hme:a.eval x0=.pointer (some ⟨r,0,none⟩):=by
    generalize a.eval x0=q at dm;cases dm with
    | loc _ _ _ b2 base2 _ hk=>rw[y1] at hk;cases hk;rfl
   have hsz:arr.size=n:=by rw[<- hlen];have:=z4.length;simpa using this
   have hj:j<arr.size:=by have:=(List.getElem?_eq_some_iff.1 hp).1;omega
   obtain⟨p',c1,c2,c3,c4⟩:=z4.get j arr[j] (by simp[hj]);rw[hp] at c1;cases c1;have hbn:(arr.toList.map (·.born)).Nodup:=by
    have:∀(l:List MapEntry) (es:List (KyT ik×V)) (i:Nat),J8o M w ik l es i->(l.map (·.born)).Nodup/\∀e∈l,i<=e.born:=by
     intro l
     induction l with
     | nil=>intro es i _;simp
     | cons e l ih =>
       intro es i hr;cases es with
       | nil=>exact hr.elim
       | cons q es =>
         obtain⟨d1,d2⟩:=ih es (i+1) hr.2;refine⟨?_,fun e' he'=>?_⟩
         . simp only[List.map_cons,List.nodup_cons];refine⟨fun hm=>?_,d1⟩;obtain⟨e',he',hb⟩:=List.mem_map.1 hm;have:=d2 e' he';have:=hr.1.2.1;omega
         . rcases List.mem_cons.1 he' with e1|e1
           . subst e1;have:=hr.1.2.1;omega
           . have:=d2 e' e1;omega
    exact(this _ _ _ z4).1
   obtain⟨pre,rfl⟩:∃pre,J1h=pre++[j]:=by
    obtain⟨ys,hys⟩:=List.getLast?_eq_some_iff.1 hlast;exact⟨ys,hys⟩
   have hit:w.heap[r]?=some (.mapIter (some b') n (pre.toArray.push (arr[j]).born) arr.size):=by
    rw[y4,c3,hsz];simp
   refine J0r (u:=.tuple #[(arr[j]).key,(arr[j]).val]) (w':=w) ?_ ⟨_,M,σ,_,own,ks,rfl,?_,hh,Tr.refl _ _ _ _,Kd.refl _ _ _,hK⟩
   . refine J0S (s:=Instr.entry (a.eval x0)) ?_;rw[hme];exact run_entry_at w r b' n pre.toArray arr arr.size arr[j] hit z3 (by simp) hbn
   . rw[c2];exact J5X (J8g _) c4.none_le
 . -- an element of the package's table
   rename_i T g i0;split at hc
   case h_2=>cases hc
   rename_i n e x h1 h2;simp only[Option.map_eq_some_iff] at hc;obtain⟨s,hs,rfl⟩:=hc;obtain⟨v,h,hv⟩:=J0b h2 h;have dv:=hv M w σ a (ok _ (by simp[XOp.xs]));split at h
   case h_2=>exact h.elim
   rename_i k n';unfold Q4W at h;split at h
   case h_2=>exact h.elim
   rename_i g' m f hlook;split at h
   case h_2=>exact h.elim
   rename_i hg;have hg:=Nat.eq_of_beq_eq_true hg;subst hg;split at h
   case h_2=>exact h.elim
   rename_i hs1 hnm;have hs1:=Nat.eq_of_beq_eq_true hs1;have hnm:=Nat.eq_of_beq_eq_true hnm;subst hs1 hnm;obtain⟨j,rfl,hj,hK⟩:=h;obtain⟨_,hd⟩:=hh.own.blk 999 _ (J0c hlook);have hi:a.eval i0=.int k j:=by generalize a.eval i0=q at dv;cases dv;rfl
   have hrun:(execOp a.eval ⟨dst,.indexAddr T (.global g) i0,type,pos,after,guard⟩).run P w=.ok (.value (.pointer (some ⟨g,0+j*1,none⟩))) w:=by
    refine J0S (s:=Instr.indexAt T (a.eval (.global g)) (a.eval i0)) ?_;rw[show a.eval (.global g)=.pointer (some ⟨g,0,none⟩) from rfl,hi];have h0:(0:Int)<=j/\(j:Int)<n:=by omega
    simp[Instr.indexAt,asIntOf,Sem.run_bind,run_underlying h1,J0T hs,J07,h0,go_sem,Instr.sureAddr];intro hcon;omega
   refine J0r (u:=.pointer (some ⟨g,0+j*1,none⟩)) (w':=w) hrun ⟨_,M,σ,_,own,ks,rfl,?_,hh,Tr.refl _ _ _ _,Kd.refl _ _ _,hK⟩;generalize hq:(Value.pointer (some ⟨g,0,none⟩))=q at hd;cases hd with
   | fe _ _ _ _ _ _ b off u hi hM hb hcell h1 hd =>
     simp only[Value.pointer.injEq,Option.some.injEq,Addr.mk.injEq] at hq;obtain⟨rfl,e2,_⟩:=hq;have e3:off=0:=by omega
     subst e3;have:=Den.fe (M:=M) (w:=w) σ n 1 f j 0 g 0 u hj hM hb hcell h1 hd;simpa using this
 . -- a slice of an array: it is frozen
   rename_i t x0 hi0;split at hc
   case h_2=>cases hc
   rename_i n e h1;split at hc
   case h_2=>cases hc
   rename_i s x hi h2 h3 h4;cases hc;obtain⟨vp,h,hvp⟩:=J0b h3 h;split at h
   case h_2=>exact h.elim
   rename_i k s';split at h
   case h_2=>exact h.elim
   rename_i n' s'' f hlook;split at h
   case h_2=>exact h.elim
   rename_i e1 e2 e3;have e1:=Nat.eq_of_beq_eq_true e1;have e2:=Nat.eq_of_beq_eq_true e2;have e3:=Nat.le_of_ble_eq_true e3;subst e1 e2;obtain⟨hh',hK,hbd⟩:=J0u h4 h;have dp:=hvp M w σ a (ok _ (by simp[XOp.xs]));have g1:=hbd.ev (fun y hy=>ok y (by simp[XOp.xs,hy]));have hle:hh'<=n:=by rcases g1 with ⟨_,g⟩ | ⟨_,_,g⟩<;>omega
   generalize hpe:a.eval x0=q at dp;cases dp with
   | oel _ _ _ _ _ b base κ hk =>
     have hmem:=J0c hlook;obtain⟨bo,base',κ',s1,s2,s3⟩:=hh.own.blk k _ hmem;rw[s1] at hk;simp only[Option.some.injEq,Prod.mk.injEq] at hk;obtain⟨rfl,rfl,rfl⟩:=hk;have hkeep:look (J1Q [k] own) k=some (.vec n' s f):=J4q (J5P hh [k]).nodup (J0O.2 ⟨hmem,by simp⟩);have hf:Q4c own (.vec k s 0 hh') fun v' own'=>v'=.fz hh' s false f/\own'=J1M [k] own:=by
      have hb0:Q2P (J1Q [k] own) (.vec k s 0 hh') fun v'=>v'=.fz hh' s false f/\True:=by
       simp only[Q2P,hkeep,Nat.beq_refl];exact⟨by omega,rfl,trivial⟩
      simp only[Q4c,J5T,hlook,bor];unfold Q5a;split
      . rename_i e;cases e;simp only[hkeep];exact hb0
      . rename_i e;cases e;simp only[hkeep];exact hb0
      . exact hb0
     obtain⟨v',own',⟨rfl,rfl⟩,hkeys,hsnd⟩:=J2N hf;obtain⟨M',f1,f2,f3,_⟩:=hsnd M w σ ks (.slice (some ⟨b,base'+0*s,none⟩) hh' κ') hh (.vec _ _ _ _ _ _ _ _ _ _ s1 rfl (by omega) fun _=>⟨b,rfl,rfl⟩);have dF:Den M' w σ (.fz hh' s false f) (.slice (some ⟨b,base'+0*s,none⟩) hh' n):=by
      cases f3 with
      | fz0=>exact .fz0 _ _ _ _ _ _ (fun h=>by cases h)
      | fz _ _ _ _ _ _ _ _ u a1 a2 a3 a4 a5 a6 a7=>exact .fz _ _ _ _ _ _ _ _ u hle (fun h=>by cases h) a3 a4 a5 a6 a7
     refine J0r (u:=.slice (some ⟨b,base'+0*s,none⟩) hh' n) (w':=w) ?_ ⟨_,M',σ,_,_,ks,rfl,dF,f1,f2,⟨fun _ h=>h,fun _ h _=>h,fun k hk=>.inl (hkeys k hk)⟩,hK⟩;refine J0S (s:=Instr.sliceAt t (a.eval x0) none (hi0.map a.eval) none) ?_;rw[hpe];have hb:=J05 (P:=P) (w:=w) (isSlice:=false) (len:=n) (cap:=n) (l:=0) (h:=hh') (m:=n) (low:=none) (high:=hi0.map a.eval) (max:=none) (.inl ⟨rfl,rfl⟩) (by
      rcases g1 with ⟨g,g'⟩ | ⟨k,g,g'⟩
      . subst g;exact .inl ⟨rfl,rfl,g'⟩
      . exact .inr ⟨k,g,g'⟩) (.inl ⟨rfl,rfl⟩)
     simp[Instr.sliceAt,Sem.run_bind,run_underlying h1,hb,J0T h2,go_sem,Instr.sureAddr,J07]
 . -- copy
   rename_i args ats;split at hc
   case h_2=>cases hc
   rename_i x0 y0 t t2 h1 h2;split at hc
   case h_2=>cases hc
   rename_i e h3;split at hc
   case h_2=>cases hc
   rename_i s x y h4 h5 h6;cases hc;obtain⟨vx,hg1,hx⟩:=J0b h5 h;clear h;obtain⟨vy,hg2,hy⟩:=J0b h6 hg1;clear hg1;have dx:=hx M w σ a (ok _ (by simp[XOp.xs]));have dy:=hy M w σ a (ok _ (by simp[XOp.xs]));have hats0:ats[0]?=some t:=by rw[<- Array.getElem?_toList,h2];rfl
   have hargs:args.map a.eval=#[a.eval x0,a.eval y0]:=by
    apply Array.ext';simp[h1]
   have fin:∀(u:Value) (w':World),(Builtin.copy_ ats type #[a.eval x0,a.eval y0]).run P w=.ok u w' ->
    (execOp a.eval ⟨dst,.call ⟨.builtin .copy,args,ats⟩,type,pos,after,guard⟩).run P w=.ok (.value u) w':=by
    intro u w' hu;show((pure { target:=Target.builtin .copy ats type (args.map fun | .const _=>true|_=>false),args:=args.map a.eval }:Sem Deferred) >>= fun d=>invoke d.target d.args).run P w=_;rw[Sem.run_bind,hargs];exact J0S hu
   obtain⟨m,fy,hq,hsrc⟩:=J3q hg2;clear hg2;have hS:=hsrc M w σ _ dy hh.own;have h:=hq;clear hq;generalize a.eval x0=ux at *;generalize a.eval y0=uy at *;split at h
   case h_2=>exact h.elim
   rename_i k s' lo len;split at h
   case h_2=>exact h.elim
   rename_i n s'' f hlook;split at h
   case h_2=>exact h.elim
   rename_i e1 e2;have e1:=Nat.eq_of_beq_eq_true e1;have e2:=Nat.eq_of_beq_eq_true e2;subst e1 e2;obtain⟨l0,l1,h⟩:=h;obtain⟨own',hK,hu1,hu2⟩:=J0U _ _ _ _ h hh.own.nodup ⟨_,J0c hlook⟩;obtain⟨us,u1,u2,u3,u4,u5⟩:=hS.firstCells (P:=P) (w':=w) rfl;have dx0:=dx;cases dx with
   | vec _ _ _ _ _ bo base κ c ad hk hc hl ha =>
     obtain⟨_,w',hst,hh',tr⟩:=J38 (P:=P) hh hlook dx0 (at_:=0) (m:=m) u1 (by omega) u4 u5 (by simpa using hu2) hu1;have hmin:Nat.min m len=m:=Nat.min_eq_left l0;have q0:∀(x y:Value),(#[x,y]:Array Value)[0]?=some x:=fun _ _=>rfl;have q1:∀(x y:Value),(#[x,y]:Array Value)[1]?=some y:=fun _ _=>rfl;have hrun:(Builtin.copy_ ats type #[.slice ad len c,uy]).run P w=.ok (.int .i64 m) w':=by
      have hsz:=J0T h4 w;cases hats1:ats[1]? with
      | none=>simp at hats1;exact absurd (congrArg List.length h2) (by simp;omega)
      | some q =>
      cases ad with
      | none =>
        have:w'=w:=by cases hst;rfl
        subst this;simp only[Builtin.copy_,hats0,q0,q1,Sem.run_bind,run_underlying h3,Result.andThen_ok,u3,hsz,hmin,u2,Sem.run_pure,goInt]
      | some ad =>
        have hst':(storeCells ad us 0).run P w=.ok () w':=by simpa[Addr.add] using hst
        simp only[Builtin.copy_,hats0,q0,q1,Sem.run_bind,run_underlying h3,Result.andThen_ok,u3,hsz,hmin,u2,hst',Sem.run_pure,goInt]
     exact J0r (fin _ w' hrun) ⟨_,M,σ,_,_,_,rfl,.int _ _ _,hh',tr,J9U hu1,hK⟩
 . -- the length of a map
   rename_i args ats;split at hc
   case h_2=>cases hc
   rename_i x0 t h1 h2;split at hc
   case h_2=>cases hc
   rename_i kt et h3;simp only[Option.map_eq_some_iff] at hc;obtain⟨x,h4,rfl⟩:=hc;obtain⟨vm,h,hvm⟩:=J0b h4 h;obtain⟨k,ik',es,rfl,hlook,hK⟩:=J2J h;have dm:=hvm M w σ a (ok _ (by simp[XOp.xs]));obtain⟨b,κ,arr,z1,z2,z3,z4⟩:=hh.own.blk k _ (J0c hlook);have hme:a.eval x0=.map (some b):=by
    generalize a.eval x0=q at dm;cases dm with
    | map _ _ b' _ _ hk=>rw[z1] at hk;cases hk;rfl
   have hlen:arr.size=es.length:=by have:=z4.length;simpa using this
   have hats0:ats[0]?=some t:=by rw[<- Array.getElem?_toList,h2];rfl
   have hargs:args.map a.eval=#[a.eval x0]:=by
    apply Array.ext';simp[h1]
   refine J0r (u:=.int .i64 es.length) (w':=w) ?_ ⟨_,M,σ,_,own,ks,rfl,.int _ _ _,hh,Tr.refl _ _ _ _,Kd.refl _ _ _,hK⟩;show((pure { target:=Target.builtin .len ats type (args.map fun | .const _=>true|_=>false),args:=args.map a.eval }:Sem Deferred) >>= fun d=>invoke d.target d.args).run P w=_;rw[Sem.run_bind,hargs,hme];refine J0S (s:=Builtin.len_ ats type #[.map (some b)]) ?_;have q0:∀(x:Value),(#[x]:Array Value)[0]?=some x:=fun _=>rfl;simp only[Builtin.len_,hats0,q0,Sem.run_bind,run_underlying h3,MapKept.run_getObj_map z3,Result.andThen_ok,Sem.run_pure,goInt,hlen]
 . cases hc
def SOp.isEff:SOp->Bool
 | .xt (.mks _ _ _ _)=>false
 | .asg _ | .store _ _ _ | .app _ _ _ _ | .clr _ _ _ | .call _ _ | .callv _ _ | .xt _=>true
 | _=>false
theorem J1q {P:Program} {f:FuncId} (h:J06 P f=true) (args:Array Value) (w:World):(callFunc f args).run P w=.ok (.enter f args) w:=by
 unfold J06 at h;split at h
 . rename_i fn hf;split at h
   . rename_i c hb;split at h
     . cases h
     . rename_i hn;simp only[callFunc,Sem.run_bind,run_program,Result.andThen_ok,hf,hn,hb,Option.isNone_some,Bool.false_eq_true,if_false,Sem.run_pure]
   . cases h
 . cases h
theorem Q0o {P:Program} {e:TypeId} {s:Nat} {zs:List V} (h4:J11 P e=some s) (h5:J1c P e=some zs) (h7:zs.length=s) (M:Nat->Prop) (w:World) :
 ∃z,(zeroValue e).run P w=.ok z w/\∀n,((Builtin.zeroCells z.cells n).toList).length=n*s/\(∀i j,i<n->j<s->∃x,(Builtin.zeroCells z.cells n).toList[i*s+j]?=some x/\Den M w Sg.none (zs.getD j default) x) /\
  ∀x∈(Builtin.zeroCells z.cells n).toList,x.oneCell'=true:=by
 obtain⟨i,z,hi,hz,hzc⟩:=J0E h5;obtain⟨l1,l2⟩:=J0B (M:=M) (w:=w) Sg.none hzc;have hcb:=J1y hzc;have hsz:z.cells.size=s:=by simpa using(l1.symm.trans h7)
 refine⟨z,by simp[zeroValue,typeInfo,Sem.run_bind,hi,hz,go_sem],fun n=>?_⟩;have hlen:(Builtin.zeroCells z.cells n).toList.length=n*s:=by simp[Builtin.zeroCells,hsz]
 have hget:∀q,q<n*s->(Builtin.zeroCells z.cells n).toList[q]?=some (z.cells[q % s]!):=by
  intro q hq;simp[Builtin.zeroCells,hsz,hq]
 refine⟨hlen,?_,?_⟩
 . intro i j hi' hj;have hq:i*s+j<n*s:=by
    have:(i+1)*s<=n*s:=Nat.mul_le_mul_right _ hi';rw[Nat.succ_mul] at this;omega
   refine⟨_,hget _ hq,?_⟩;have hmod:(i*s+j) % s=j:=by rw[Nat.mul_comm,Nat.mul_add_mod];exact Nat.mod_eq_of_lt hj
   rw[hmod];have hj':j<zs.length:=by omega
   have hj2:j<z.cells.size:=by omega
   have:=l2 j (zs[j]) (z.cells[j]) (by simp[hj']) (by simp[hj2]);simpa[List.getD,hj',getElem!_pos z.cells j hj2] using this
 . intro x hx;obtain⟨q,hq,he⟩:=List.getElem_of_mem hx;have hq':q<n*s:=by rw[<- hlen];exact hq
   have h1:=hget q hq';rw[List.getElem?_eq_getElem hq,he] at h1;cases h1;have hspos:0<s:=by
    rcases Nat.eq_zero_or_pos s with h|h
    . subst h;simp at hq'
    . exact h
   have hj2:q % s<z.cells.size:=by rw[hsz];exact Nat.mod_lt _ hspos
   have hj':q % s<zs.length:=by rw[h7];exact Nat.mod_lt _ hspos
   have hd:=l2 (q % s) (zs[q % s]) (z.cells[q % s]) (by simp[hj']) (by simp[hj2]);have:=hd.oneCell (hcb _ (List.getElem_mem hj'));simpa[getElem!_pos z.cells (q % s) hj2] using this
theorem J5m {P:Program} {o:Oper} {so:SOp} (hc:cOp P o.op=some so) (hcv:∀x xs,so≠.callv x xs) (he:so.isEff=true) {env:Env} {own:Own} {ks:List Nat} {K:V->Own->List Nat->Prop} (h:vop P so env own ks K)
 {M:Nat->Prop} {w:World} {σ:Sg} {a:Act} (ok:∀x,x∈so.xs->XOk M w σ env a x) (hh:J0G M w σ own ks) (Q:Exit->Act->World->Prop):o.wp P a w (OP o a M w σ own ks K) Q:=by
 obtain⟨dst,op,type,pos,after,guard⟩:=o;have hw:=J1o hc;simp only at hw;cases hw<;>simp only[SOp.isEff,reduceCtorEq] at he
 case callv=>exact(hcv _ _ rfl).elim
 case xt xo hx=>exact J8W (o:=⟨dst,op,type,pos,after,guard⟩) hx h ok hh Q
 case asg x0 x hx =>
  obtain⟨v,hK,hv⟩:=J0b hx h;exact J0r (o:=⟨dst,.assign x0,type,pos,after,guard⟩) (u:=a.eval x0) rfl ⟨_,M,σ,v,own,ks,rfl,hv M w σ a (ok _ (by simp[SOp.xs])),hh,Tr.refl _ _ _ _,Kd.refl _ _ _,hK⟩
 case store t a0 x0 n xa xx h1 h2 h3 h4 =>
  obtain⟨p,h,hp⟩:=J0b h3 h;obtain⟨v,h,hv⟩:=J0b h4 h;obtain⟨v1,own1,h,hkk,hfz⟩:=J5x h;obtain⟨M1,hh1,tr1,hv1,hE1⟩:=hfz M w σ ks _ hh (hv M w σ a (ok _ (by simp[SOp.xs])));obtain⟨w',own',r1,r2,r3,r4,hK⟩:=J6f h1 h2 h hh1 ((hp M w σ a (ok _ (by simp[SOp.xs]))).mono hE1 (Sg.le_refl _)) hv1;have hrun:(execOp a.eval ⟨dst,.store t a0 x0,type,pos,after,guard⟩).run P w=.ok .skip w':=by
   show((Instr.storeAt t (a.eval a0) (a.eval x0) >>= fun _=>pure Next.skip):Sem Next).run P w=_;rw[Sem.run_bind,r1];rfl
  unfold Oper.wp;rw[hrun];exact⟨undef,M1,σ,_,own',ks,rfl,.raw _ _,r2,tr1.trans r3,⟨fun _ h=>h,fun _ h _=>h,fun k hk=>.inl (hkk k (r4 k hk))⟩,hK⟩
 case call f args ats xs h1 h2 =>
  obtain⟨vs,h,hl,hvs⟩:=J2L h2 h;have hrun:(execOp a.eval ⟨dst,.call ⟨.value (.func f),args,ats⟩,type,pos,after,guard⟩).run P w=.ok (.enter f (args.map a.eval)) w:=by
   rw[execOp_call_go];have:#[]++args.map a.eval++#[]=args.map a.eval:=by simp
   rw[this];exact J1q h1 _ w
  unfold Oper.wp;rw[hrun];have hargs:args.map a.eval=(args.toList.map a.eval).toArray:=by
   apply Array.ext';simp
  rw[hargs];refine(h.out M w σ (args.toList.map a.eval) (by simpa using hl) (hvs M w σ a ok) hh).mono ?_;rintro e w' ⟨M',σ',v,own',ks',u,rfl,d,hh',tr,kd,hK⟩;exact⟨u,M',σ',v,own',ks',rfl,d,hh',tr,kd,J3y hK⟩
 case app args ats t t2 e e2 s b zs x0 y0 x y h1 h2 h3 h4 h5 h6 h7 h8 h9 h10 =>
  obtain⟨vx,hg1,hx⟩:=J0b h8 h;clear h;obtain⟨vy,hg2,hy⟩:=J0b h9 hg1;clear hg1;have dx:=hx M w σ a (ok _ (by simp[SOp.xs]));have dy:=hy M w σ a (ok _ (by simp[SOp.xs]));have hats0:ats[0]?=some t:=by rw[<- Array.getElem?_toList,h2];rfl
  have hats1:ats[1]?=some t2:=by rw[<- Array.getElem?_toList,h2];rfl
  have hargs:args.map a.eval=#[a.eval x0,a.eval y0]:=by
   apply Array.ext';simp[h1]
  have fin:∀(u:Value) (w':World),(Builtin.append_ ats type #[a.eval x0,a.eval y0]).run P w=.ok u w' ->
   (execOp a.eval ⟨dst,.call ⟨.builtin .append,args,ats⟩,type,pos,after,guard⟩).run P w=.ok (.value u) w':=by
   intro u w' hu;show((pure { target:=Target.builtin .append ats type (args.map fun | .const _=>true|_=>false),args:=args.map a.eval }:Sem Deferred) >>= fun d=>invoke d.target d.args).run P w=_;rw[Sem.run_bind,hargs];exact J0S hu
  have core:∀{X Y:V},X=vx->Y=vy->J84 own ks s b X Y K->Oper.wp P ⟨dst,.call ⟨.builtin .append,args,ats⟩,type,pos,after,guard⟩ a w (OP ⟨dst,.call ⟨.builtin .append,args,ats⟩,type,pos,after,guard⟩ a M w σ own ks K) Q:=by
   intro X Y eX eY hgF;subst eX eY;obtain⟨vy1,own1,hgF,hkk,hfz⟩:=J7b hgF;obtain⟨M1,hh1,tr1,dy1,hE1⟩:=hfz M w σ _ hh dy;have dx1:=dx.mono hE1 (Sg.le_refl _);have kdc:∀{σ':Sg} {o:Own} {k:List Nat},Kd σ own1 ks σ' o k->Kd σ own ks σ' o k:=fun h=>⟨h.1,h.2.1,fun q hq=>(h.2.2 q hq).imp (hkk q) id⟩;obtain⟨m,fy,hq,hsrc⟩:=J3q hgF;clear hgF;have hS:=hsrc M1 w σ _ dy1 hh1.own;have h:=hq;clear hq;split at h
   . obtain⟨l1,l2,h⟩:=h;obtain⟨k,ks',rfl,hK⟩:=J0t h;generalize a.eval x0=ux at *;cases dx1;obtain⟨u,w',M',σ',r1,r2,r3,r4,r5⟩:=J3M (ty:=type) hats0 hats1 h3 h4 h5 h6 h7 h10 hh1 hS l1 l2 none;exact J0r (fin u w' r1) ⟨u,M',σ',_,_,_,rfl,r4,r2,tr1.trans r3,kdc r5,hK⟩
   . obtain⟨l1,l2,h⟩:=h;obtain⟨k,ks',rfl,hK⟩:=J0t h;generalize a.eval x0=ux at *;have:∃ad,ux=.slice ad 0 0:=by
      cases dx1 with
      | fz0 _ _ _ _ ad c hf=>exact⟨ad,by rw[hf rfl]⟩
      | fz _ _ _ _ _ b off c u hc hf=>exact⟨_,by rw[hf rfl]⟩
     obtain⟨ad,rfl⟩:=this;obtain⟨u,w',M',σ',r1,r2,r3,r4,r5⟩:=J3M (ty:=type) hats0 hats1 h3 h4 h5 h6 h7 h10 hh1 hS l1 l2 ad;exact J0r (fin u w' r1) ⟨u,M',σ',_,_,_,rfl,r4,r2,tr1.trans r3,kdc r5,hK⟩
   . rename_i k s' lo len;split at h
     . rename_i n s'' f hlook;split at h
       . rename_i e1 e2;have e1:=Nat.eq_of_beq_eq_true e1;have e2:=Nat.eq_of_beq_eq_true e2;subst e1 e2;have grow:Q25 own1 ks s b k lo len n m f fy K->Oper.wp P ⟨dst,.call ⟨.builtin .append,args,ats⟩,type,pos,after,guard⟩ a w (OP ⟨dst,.call ⟨.builtin .append,args,ats⟩,type,pos,after,guard⟩ a M w σ own ks K) Q:=by
          intro h;obtain⟨l0,l1,l2,h⟩:=h;obtain⟨k',ks',rfl,h⟩:=J0t h;obtain⟨own',hK,hnd,hown⟩:=J2c _ _ _ h hh1.own.nodup;obtain⟨u,w',M',σ',r1,r2,r3,r4,r5⟩:=J8Q (ty:=type) hats0 hats1 h3 h4 h5 h6 h7 h10 hh1 hS hlook dx1 l0 l1 l2 hown hnd;exact J0r (fin u w' r1) ⟨u,M',σ',_,_,_,rfl,r4,r2,tr1.trans r3,kdc r5,hK⟩
         by_cases heq:Nat.beq (lo+len) n=true
         . exact grow (h.1 heq)
         replace h:=h.2 (Bool.eq_false_iff.2 heq);by_cases hin:Nat.ble (lo+len+m) n=true
         . obtain⟨own',hK,hu1,hu2⟩:=J0U _ _ _ _ (h.1 hin) hh1.own.nodup ⟨_,J0c hlook⟩;obtain⟨u,w',r1,r2,r3,r4⟩:=J7z (ty:=type) hats0 hats1 h3 h4 h5 hh1 hS hlook dx1 (Nat.le_of_ble_eq_true hin) hu2 hu1;exact J0r (fin u w' r1) ⟨u,M1,σ,_,_,_,rfl,r4,r2,tr1.trans r3,kdc ⟨fun _ h=>h,fun _ h _=>h,fun k hk=>.inl (by rw[hu1] at hk;exact hk)⟩,hK⟩
         . exact grow (h.2 (Bool.eq_false_iff.2 hin))
       . exact h.elim
     . exact h.elim
   . exact h.elim
  unfold Q4q at hg2;split at hg2
  . rename_i kx s0 lo n;split at hg2
    . rename_i n' s' len f hlook;split at hg2
      . rename_i kl s1 lo1 n1;split at hg2
        . rename_i q s2 lo2 m hlk;split at hg2
          . rename_i e1;simp only[Bool.and_eq_true,Nat.beq_eq] at e1;obtain⟨⟨⟨⟨⟨⟨⟨rfl,rfl⟩,rfl⟩,rfl⟩,rfl⟩,rfl⟩,rfl⟩,rfl⟩:=e1;obtain⟨l1,l2,l3,l4,hg2⟩:=hg2;obtain rfl:n=n':=Nat.le_antisymm l1 l2;obtain⟨k',ks',rfl,hg2⟩:=J0t hg2;obtain⟨own',hK,hnd,hown⟩:=J2c _ _ _ hg2 hh.own.nodup;obtain⟨u,w',M',σ',r1,r2,r3,r4,r5⟩:=J8R (ty:=type) hats0 hats1 h3 h4 h5 h6 h7 h10 hh hlook dx hlk dy rfl l3 l4 hown hnd;exact J0r (fin u w' r1) ⟨u,M',σ',_,_,_,rfl,r4,r2,r3,r5,hK⟩
          . exact hg2.elim
        . exact hg2.elim
      . exact hg2.elim
    . exact core rfl rfl hg2
  . exact core rfl rfl hg2
 case clr args ats t e s zs x0 x h1 h2 h3 h4 h5 h6 h7 =>
  obtain⟨v,hg,hx⟩:=J0b h6 h;clear h;have dx:=hx M w σ a (ok _ (by simp[SOp.xs]));have hats0:ats[0]?=some t:=by rw[<- Array.getElem?_toList,h2];rfl
  have hargs:args.map a.eval=#[a.eval x0]:=by
   apply Array.ext';simp[h1]
  have fin:∀(u:Value) (w':World),(Builtin.clear_ ats type #[a.eval x0]).run P w=.ok u w' ->
   (execOp a.eval ⟨dst,.call ⟨.builtin .clear,args,ats⟩,type,pos,after,guard⟩).run P w=.ok (.value u) w':=by
   intro u w' hu;show((pure { target:=Target.builtin .clear ats type (args.map fun | .const _=>true|_=>false),args:=args.map a.eval }:Sem Deferred) >>= fun d=>invoke d.target d.args).run P w=_;rw[Sem.run_bind,hargs];exact J0S hu
  generalize a.eval x0=ux at *;have h:=hg;clear hg;unfold vclr at h;split at h
  . cases dx;exact J0r (fin (.tuple #[]) w (by simp[Builtin.clear_,hats0,run_underlying h3,go_sem])) ⟨_,M,σ,_,own,ks,rfl,.raw _ _,hh,Tr.refl _ _ _ _,Kd.refl _ _ _,h⟩
  . rename_i k s' lo len;split at h
    . rename_i n s'' f hlook;split at h
      . rename_i e1 e2;have e1:=Nat.eq_of_beq_eq_true e1;have e2:=Nat.eq_of_beq_eq_true e2;subst e1 e2;obtain⟨l0,h⟩:=h;obtain⟨own',hK,hu1,hu2⟩:=J0U _ _ _ _ h hh.own.nodup ⟨_,J0c hlook⟩;obtain⟨z,hz,hzs⟩:=Q0o h4 h5 h7 M w;obtain⟨z1,z2,z3⟩:=hzs len;have dx0:=dx;cases dx with
        | vec _ _ _ _ _ bo base κ c ad hk hc hl ha =>
          obtain⟨_,w',hst,hh',tr⟩:=J38 (P:=P) hh hlook dx0 (at_:=0) (m:=len) z1 (by omega) z2 z3 (by simpa using hu2) hu1;have hrun:(Builtin.clear_ ats type #[.slice ad len c]).run P w=.ok (.tuple #[]) w':=by
           cases ad with
           | none =>
             have:w'=w:=by cases hst;rfl
             subst this;simp[Builtin.clear_,hats0,run_underlying h3,go_sem]
           | some ad =>
             cases len with
             | zero =>
               have:w'=w:=by
                have hnil:(Builtin.zeroCells z.cells 0).toList=[]:=List.eq_nil_of_length_eq_zero (by omega);rw[hnil] at hst;cases hst;rfl
               subst this;simp[Builtin.clear_,hats0,run_underlying h3,go_sem]
             | succ len =>
               simp only[Nat.zero_mul,Addr.add,if_true] at hst;simp[Builtin.clear_,hats0,run_underlying h3,go_sem,hz];unfold Value.cells at hst;rw[hst];rfl
          exact J0r (fin _ w' hrun) ⟨_,M,σ,_,_,_,rfl,.raw _ _,hh',tr,⟨fun _ h=>h,fun _ h _=>h,fun k hk=>.inl (by rw[hu1] at hk;exact hk)⟩,hK⟩
      . exact h.elim
    . exact h.elim
  . exact h.elim
theorem J47 {P:Program} {o:Oper} {so:SOp} (hc:cOp P o.op=some so) (hn:so.isNew=false) (he:so.isEff=false) (hl:∀z x,so≠.load z x) {env:Env} {own:Own} {ks:List Nat} {K:V->Own->List Nat->Prop}
 (h:vop P so env own ks K):∃v,K v own ks/\J4V P o so.xs env v:=by
 cases so<;>simp only[SOp.isNew,SOp.isEff,reduceCtorEq] at hn he
 case p po =>
  have:J53 P o.op=some po:=by
   have hw:=J1o hc;generalize o.op=op at hw;cases hw with|p _ _ h=>exact h
  exact J67 this h
 case build zs ps=>exact J7y (K:=fun v=>K v own ks) hc h
 case load z x=>exact(hl z x rfl).elim
 case xt xo=>cases xo<;>simp at hn he
theorem J7F {P:Program} {o:Oper} {xs:List X} {env:Env} {v:V} (h:J4V P o xs env v) {M:Nat->Prop} {w:World} {σ:Sg} {a:Act} (ok:∀x,x∈xs->XOk M w σ env a x)
 {next:Act->World->Prop} {Q:Exit->Act->World->Prop} (hn:∀u,Den M w σ v u->next (a.put o.dst u) w):o.wp P a w next Q:=by
 obtain⟨u,h1,h2⟩:=h M w σ a ok;exact J0r h1 (hn u h2)
theorem J8r {P:Program} {o:Oper} {so:SOp} (hc:cOp P o.op=some so) (hcv:∀x xs,so≠.callv x xs) {env:Env} {own:Own} {ks:List Nat} {K:V->Own->List Nat->Prop} (h:vop P so env own ks K)
 {M:Nat->Prop} {w:World} {σ:Sg} {a:Act} (ok:∀x,x∈so.xs->XOk M w σ env a x) (hh:J0G M w σ own ks) (Q:Exit->Act->World->Prop):o.wp P a w (OP o a M w σ own ks K) Q:=by
 by_cases he:so.isEff=true
 . exact J5m hc hcv he h ok hh Q
 by_cases hn:so.isNew=true
 . obtain⟨k,ks',b,v,rfl,hK,hf,_⟩:=J6C hc hn h;obtain⟨u,w',M',σ',r1,r2,r3,r4,_,r5⟩:=hf M w σ a own ks' ok hh;exact J0r r1 ⟨u,M',σ',v,_,_,rfl,r4,r2,r3,r5,hK⟩
 by_cases hl:∃z x,so=.load z x
 . obtain⟨z,x,rfl⟩:=hl;obtain⟨t,x0,p,v,ho,hz,hK,_,hp,hf,_⟩:=J5a hc h;obtain⟨r,h1,h2⟩:=hf M w σ _ (hp M w σ a (ok _ (by simp[SOp.xs]))) (fun k b _ hk=>hh.own.blk k b (J0c hk));have hrun:(execOp a.eval o).run P w=.ok (.value r) w:=by
    obtain⟨dst,op,type,pos,after,guard⟩:=o;simp only at ho;subst ho;exact J0S h1
   exact J0r hrun ⟨r,M,σ,v,own,ks,rfl,h2,hh,Tr.refl _ _ _ _,Kd.refl _ _ _,hK⟩
 . obtain⟨v,hK,hf⟩:=J47 hc (by simpa using hn) (by simpa using he) (fun z x e=>hl ⟨z,x,e⟩) h;exact J7F hf ok fun u hu=>⟨u,M,σ,v,own,ks,rfl,hu,hh,Tr.refl _ _ _ _,Kd.refl _ _ _,hK⟩
def Q2n (P:Program) (op:SOp) (env:Env) (own:Own) (ks:List Nat) (K:V->Own->List Nat->Prop):Prop :=
 match op with
 | .p (.slc s x lo hi mx same)=>Q5r own s x lo hi mx same env fun v=>K v own ks
 | op=>vop P op env own ks K
theorem Q0t {P:Program} {op:Op} {s:Nat} {x:X} {lo hi mx:Option X} {same:Bool} (h:J53 P op=some (.slc s x lo hi mx same)) :
 ∃t e x0 low high max,op=.slice t x0 low high max/\P.underlying t=some (.slice e)/\J11 P e=some s/\cX x0=some x/\cXo low=some lo/\cXo high=some hi/\cXo max=some mx/\same=J6q high max:=by
 cases op
 case slice t x0 low high max =>
  simp only[J53] at h;unfold Q5N at h;split at h
  . rename_i e x' lo' hi' mx' h1 h2 h3 h4 h5;simp only[Option.map_eq_some_iff] at h;obtain⟨s',hs,he⟩:=h;cases he;exact⟨t,e,x0,low,high,max,rfl,h1,hs,h2,h3,h4,h5,rfl⟩
  . simp at h
  . cases h
 all_goals (simp only[J53] at h;try (split at h<;>simp at h))
 all_goals (first|(simp at h;done)|(repeat' (split at h<;>first|(simp at h;done)|skip)))
 all_goals (rename_i he;cases he)
theorem J68 {P:Program} {o:Oper} {so:SOp} (hc:cOp P o.op=some so) (hcv:∀x xs,so≠.callv x xs) {env:Env} {own:Own} {ks:List Nat} {K:V->Own->List Nat->Prop} (h:Q2n P so env own ks K)
 {M:Nat->Prop} {w:World} {σ:Sg} {a:Act} (ok:∀x,x∈so.xs->XOk M w σ env a x) (hh:J0G M w σ own ks) (Q:Exit->Act->World->Prop):o.wp P a w (OP o a M w σ own ks K) Q:=by
 unfold Q2n at h;split at h
 . rename_i s x lo hi mx same;have hp:J53 P o.op=some (.slc s x lo hi mx same):=by
    have hw:=J1o hc;generalize o.op=op at hw;cases hw with|p _ _ h=>exact h
   obtain⟨t,e,x0,low,high,max,ho,h1,h2,h3,h4,h5,h6,rfl⟩:=Q0t hp;obtain⟨v,hK,hr⟩:=J4Y h1 h2 h3 h4 h5 h6 h;obtain⟨u,u1,u2⟩:=hr M w σ a ok (fun k b hb=>hh.own.blk k b (J0c hb));have hrun:(execOp a.eval o).run P w=.ok (.value u) w:=by
    obtain⟨dst,op,type,pos,after,guard⟩:=o;simp only at ho;subst ho;exact J0S u1
   exact J0r hrun ⟨u,M,σ,v,own,ks,rfl,u2,hh,Tr.refl _ _ _ _,Kd.refl _ _ _,hK⟩
 . exact J8r hc hcv h ok hh Q
theorem J1p {P:Program} {op:Op} {so:SOp} (h:cOp P op=some so):∀c,op≠.defer c:=by
 intro c e;subst e;have hw:=J1o h;cases hw with
 | p _ o h=>cases h
 | xt _ o h=>cases h
theorem Q3h {P:Program} {row:String} {args:Array Value} {w:World} {R:Value->World->Prop} (r:Option Nat) (h:Rows P row args w R):RowsIn (FR r) 0 P row args w R :=
 fun c cs _=>let ⟨v,w',h1,h2⟩:=h c cs;⟨v,w',h1,stepsIn_wide.2 h2⟩
theorem J33 {P:Program} {f:FuncId} {args:Array Value} {w:World} {R:Ending->World->Prop} (r:Option Nat) (h:Calls P f args w R):CallsIn (FR r) 0 P f args w R :=
 (callsIn_wide (n:=0)).2 h
theorem J2S (r:Option Nat):(FR r).depth.isSome=true->1<=0:=fun h=>by cases h
theorem J15 {P:Program} {o:Oper} (r:Option Nat) (hnd:∀c,o.op≠.defer c) {a:Act} {w:World} {next:Act->World->Prop} {Q:Exit->Act->World->Prop} (h:o.wp P a w next Q):o.wpIn (FR r) 0 P a w next Q:=by
 refine⟨fun _ _=>trivial,?_⟩;rw[Oper.semAt_eq _ _ _ hnd];unfold Oper.wp at h;generalize (execOp a.eval o).run P w=res at *;cases res with
 | ok x w' =>
   cases x<;>simp only[Oper.upon,Oper.uponIn] at h ⊢ <;>
    first
     | exact h
     | exact h.elim
     | exact⟨J2S r,J33 r h⟩
     | exact⟨J2S r,Q3h r h⟩
 | halt x w'=>cases x<;>simp only[Oper.upon,Oper.uponIn] at h ⊢<;>exact h
theorem J4K {P:Program} {o:Oper} {x:X} {xs:List X} (hc:cOp P o.op=some (.callv x xs)) {env:Env} {own:Own} {ks:List Nat} {K:V->Own->List Nat->Prop} (h:vop P (.callv x xs) env own ks K)
 {M:Nat->Prop} {w:World} {σ:Sg} {a:Act} (ok:∀y,y∈SOp.xs (.callv x xs)->XOk M w σ env a y) (hh:J0G M w σ own ks) (Q:Exit->Act->World->Prop) (r:Option Nat):o.wpIn (FR r) 0 P a w (OP o a M w σ own ks K) Q:=by
 have hnd:=J1p hc;obtain⟨dst,op,type,pos,after,guard⟩:=o;have hw:=J1o hc;simp only at hw;cases hw;rename_i t args ats h2;simp only[vop] at h;obtain⟨fv,hg1,hf⟩:=J0b (o:=.tmp t) rfl h;clear h;obtain⟨vs,h,hl,hvs⟩:=J2L h2 hg1;clear hg1;have df:=hf M w σ a (ok _ (by simp[SOp.xs]));have dvs:=hvs M w σ a (fun y hy=>ok y (by simp[SOp.xs,hy]));have hargs:args.map a.eval=(args.toList.map a.eval).toArray:=by
  apply Array.ext';simp
 refine⟨fun _ _=>trivial,?_⟩;rw[Oper.semAt_eq _ _ _ hnd];unfold Q4p at h;split at h
 . rename_i g b cap;obtain⟨hcal,h⟩:=h;generalize hfe:a.eval (.tmp t)=fu at df;obtain⟨all,ul,h,h1,h2,hrun⟩:∃(all:List V) (ul:List Value),J0H P g all own ks (fun v own ks=>Q4S v fun v=>K v own ks)/\all.length=ul.length/\(∀(i:Nat) (v:V) (u:Value),all[i]?=some v->ul[i]?=some u->Den M w σ v u) /\
    (execOp a.eval ⟨dst,.call ⟨.value (.tmp t),args,ats⟩,type,pos,after,guard⟩).run P w=.ok (.enter g ul.toArray) w:=by
    cases df with
    | fn _ _ _ _ us hcl hcd =>
      cases b with
      | false =>
        refine⟨vs++cap,args.toList.map a.eval++us,h,by simp[hl,hcl],?_,?_⟩
        . intro i v u hv hu;by_cases hi:i<vs.length
          . rw[List.getElem?_append_left hi] at hv;rw[List.getElem?_append_left (by simpa[<- hl] using hi)] at hu;exact dvs i v u hv hu
          . rw[List.getElem?_append_right (by omega)] at hv;rw[List.getElem?_append_right (by simp[<- hl];omega)] at hu;refine hcd (i-vs.length) v u hv ?_;simpa[<- hl] using hu
        . have e:(args.toList.map a.eval++us).toArray=args.map a.eval++us.toArray:=by
           apply Array.ext';simp
          rw[e];show((resolve a.eval ⟨.value (.tmp t),args,ats⟩ type) >>= fun d=>invoke d.target d.args).run P w=_;simp only[resolve,hfe,fnB,fnC];simp[go_sem,Deferred.ofValue,invoke,J1q hcal]
      | true =>
        refine⟨cap++vs,us++args.toList.map a.eval,h,by simp[hl,hcl],?_,?_⟩
        . intro i v u hv hu;by_cases hi:i<cap.length
          . rw[List.getElem?_append_left hi] at hv;rw[List.getElem?_append_left (by omega)] at hu;exact hcd i v u hv hu
          . rw[List.getElem?_append_right (by omega)] at hv;rw[List.getElem?_append_right (by omega)] at hu;rw[<- hcl] at hu;exact dvs (i-cap.length) v u hv hu
        . have e:(us++args.toList.map a.eval).toArray=us.toArray++args.map a.eval:=by
           apply Array.ext';simp
          rw[e];show((resolve a.eval ⟨.value (.tmp t),args,ats⟩ type) >>= fun d=>invoke d.target d.args).run P w=_;simp only[resolve,hfe,fnB,fnC];simp[go_sem,Deferred.ofValue,invoke,J1q hcal]
   rw[hrun];refine⟨J2S r,J33 r ?_⟩;refine(h.out M w σ ul h1 h2 hh).mono ?_;rintro e w' ⟨M',σ',v,own',ks',u,rfl,d,hh',tr,kd,hK⟩;exact⟨u,M',σ',v,own',ks',rfl,d,hh',tr,kd,J3y hK⟩
 . rename_i k;generalize hfe:a.eval (.tmp t)=fu at df;cases df with
   | yld _ _ l base κ hk =>
     obtain⟨fn,tmps,assign,body,hy,hround⟩:=h.out M w σ (args.toList.map a.eval) l base κ (by simpa using hl) dvs hh hk;have hrun:(execOp a.eval ⟨dst,.call ⟨.value (.tmp t),args,ats⟩,type,pos,after,guard⟩).run P w=.ok (.round l fn tmps assign body) w:=by
      show((resolve a.eval ⟨.value (.tmp t),args,ats⟩ type) >>= fun d=>invoke d.target d.args).run P w=_;simp only[resolve,hfe];rw[<- hargs] at hy;simp[go_sem,Deferred.ofValue,invoke,hy]
     rw[hrun];refine⟨J2S r,RoundIn.mono (F:=Fence.wide) hround ?_⟩;rintro e w' ⟨M',σ',v,own',ks',u,rfl,d,hh',tr,kd,hK⟩;exact⟨u,M',σ',v,own',ks',rfl,d,hh',tr,kd,J3y hK⟩
 . exact h.elim
theorem Q0c {P:Program} {o:Oper} {so:SOp} (hc:cOp P o.op=some so) (he:so.isEff=true) {env:Env} {own:Own} {ks:List Nat} {K:V->Own->List Nat->Prop} (h:vop P so env own ks K)
 {M:Nat->Prop} {w:World} {σ:Sg} {a:Act} (ok:∀x,x∈so.xs->XOk M w σ env a x) (hh:J0G M w σ own ks) (Q:Exit->Act->World->Prop) (r:Option Nat):o.wpIn (FR r) 0 P a w (OP o a M w σ own ks K) Q:=by
 by_cases hcv:∀x xs,so≠.callv x xs
 . exact J15 r (J1p hc) (J5m hc hcv he h ok hh Q)
 . obtain⟨x,xs,rfl⟩:∃x xs,so=.callv x xs:=by
    cases so<;>first|exact⟨_,_,rfl⟩|(exfalso;apply hcv;intro x xs e;cases e)
   exact J4K hc h ok hh Q r
theorem J8s {P:Program} {o:Oper} {so:SOp} (hc:cOp P o.op=some so) {env:Env} {own:Own} {ks:List Nat} {K:V->Own->List Nat->Prop} (h:Q2n P so env own ks K)
 {M:Nat->Prop} {w:World} {σ:Sg} {a:Act} (ok:∀x,x∈so.xs->XOk M w σ env a x) (hh:J0G M w σ own ks) (Q:Exit->Act->World->Prop) (r:Option Nat):o.wpIn (FR r) 0 P a w (OP o a M w σ own ks K) Q:=by
 by_cases hcv:∀x xs,so≠.callv x xs
 . exact J15 r (J1p hc) (J68 hc hcv h ok hh Q)
 . obtain⟨x,xs,rfl⟩:∃x xs,so=.callv x xs:=by
    cases so<;>first|exact⟨_,_,rfl⟩|(exfalso;apply hcv;intro x xs e;cases e)
   exact J4K hc h ok hh Q r
def J5y (P:Program):List SI->Env->Own->List Nat->(Env->Own->List Nat->Prop)->Prop
 | [],env,own,ks,K=>K env own ks
 | ⟨d,op,g⟩::r,env,own,ks,K =>
   match g with
   | none=>Q2n P op env own ks fun v own ks=>match d with
     | some t=>J5y P r ((t,v)::env) own ks K
     | none=>J5y P r env own ks K
   | some (t,want)=>match look env t with
     | some (.bool b)=>match Bool.xor b want with
       | false=>Q2n P op env own ks fun v own ks=>match d with
         | some t=>J5y P r ((t,v)::env) own ks K
         | none=>J5y P r env own ks K
       | true=>match d with
         | some t=>J5y P r ((t,.raw (.tuple #[]))::env) own ks K
         | none=>J5y P r env own ks K
     | some (.raw (.tuple _))=>match d with
       | some t=>J5y P r ((t,.raw (.tuple #[]))::env) own ks K
       | none=>J5y P r env own ks K
     | _=>False
def cSI (P:Program) (N:Nat) (ops:Array Oper) (o:Oper):Option SI :=
 match cOp P o.op with
 | some op =>
   match (match o.dst with|some d=>Nat.ble (d+1) N|none=>true) with
   | true=>match o.guard with
     | none=>some ⟨o.dst,op,none⟩
     | some (j,b)=>match (ops[j]?).bind (·.dst) with
       | some t=>some ⟨o.dst,op,some (t,b)⟩
       | none=>none
   | false=>none
 | none=>none
def Q2c (P:Program) (N:Nat) (ops:Array Oper):List Oper->Option (List SI)
 | []=>some []
 | o::r=>match cSI P N ops o,Q2c P N ops r with
   | some i,some l=>some (i::l)
   | _,_=>none
theorem J6e {ops:Array Oper} {o:Oper} {j t:Nat} {want b:Bool} {a:Act} (hg:o.guard=some (j,want)) (hj:(ops[j]?).bind (·.dst)=some t) (hb:a.tmps.getD t undef=.bool b) :
 Region.wanted o (yielded ops a.tmps)=(b == want):=by
 have ht:a.tmps[t]?=some (.bool b):=by
  rw[Array.getD_eq_getD_getElem?] at hb;cases h:a.tmps[t]? with
  | none=>rw[h] at hb;cases hb
  | some x=>rw[h] at hb;simpa using hb
 unfold Region.wanted;rw[hg];simp only[yielded,hj,Option.bind_some,ht];cases b<;>cases want<;>rfl
theorem J4X {ops:Array Oper} {o:Oper} {j t:Nat} {want:Bool} {a:Act} {us:Array Value} (hg:o.guard=some (j,want)) (hj:(ops[j]?).bind (·.dst)=some t) (hb:a.tmps.getD t undef=.tuple us) :
 Region.wanted o (yielded ops a.tmps)=false:=by
 have:yielded ops a.tmps j=none:=by
  unfold yielded;rw[hj];simp only[Option.bind_some];cases h:a.tmps[t]? with
  | none=>rfl
  | some x =>
    rw[Array.getD_eq_getD_getElem?,h] at hb;simp at hb;subst hb;rfl
 unfold Region.wanted;rw[hg];simp[this]
theorem J3o {P:Program} {N:Nat} {ops:Array Oper} {o:Oper} {i:SI} (h:cSI P N ops o=some i) :
 ∃op,cOp P o.op=some op/\(∀d,o.dst=some d->d<N) /\
  ((o.guard=none/\i=⟨o.dst,op,none⟩)\/∃j b t,o.guard=some (j,b)/\(ops[j]?).bind (·.dst)=some t/\i=⟨o.dst,op,some (t,b)⟩):=by
 unfold cSI at h;split at h
 . rename_i op hop;split at h
   . rename_i hd;refine⟨op,hop,?_,?_⟩
     . intro d e;rw[e] at hd;exact Nat.le_of_ble_eq_true hd
     . split at h
       . rename_i hg;cases h;exact .inl ⟨hg,rfl⟩
       . rename_i j b hg;split at h
         . rename_i t ht;cases h;exact .inr ⟨j,b,t,hg,ht,rfl⟩
         . cases h
   . cases h
 . cases h
def J4N (env:Env) (d:Option Nat) (v:V):Env:=match d with|some t=>(t,v)::env|none=>env
theorem Sim.put {N B:Nat} {M M':Nat->Prop} {w w':World} {σ σ':Sg} {env:Env} {own own':Own} {ks ks':List Nat} {a:Act} (h:Sim N B M w σ ⟨env,own,ks⟩ a) {d:Option Nat} {v:V} {u:Value} (hd:∀t,d=some t->t<N)
 (hv:Den M' w' σ' v u) (hh:J0G M' w' σ' own' ks') (tr:Tr M w σ own M' w' σ' own') :
 Sim N B M' w' σ' ⟨J4N env d v,own',ks'⟩ (a.put d u):=by
 have hE:=tr.ext h.heap.own;cases d with
 | none=>exact⟨h.env.mono hE tr.le,hh,h.size,h.defers.tr tr⟩
 | some t=>exact⟨(h.env.mono hE tr.le).put (by rw[h.size];exact hd t rfl) hv,hh,by simp[Act.put,h.size],h.defers.tr tr⟩
theorem J2D {P:Program} (r:Option Nat) {N B:Nat} {ops:Array Oper} {Q:Exit->Act->World->Prop}:∀(l:List Oper) (sl:List SI) (env:Env) (own:Own) (ks:List Nat) (K:Env->Own->List Nat->Prop)
 (M:Nat->Prop) (w:World) (σ:Sg) (a:Act),Q2c P N ops l=some sl->J5y P sl env own ks K->Sim N B M w σ ⟨env,own,ks⟩ a ->
 (∀env' own' ks' M' w' σ' a',Sim N B M' w' σ' ⟨env',own',ks'⟩ a'->Tr M w σ own M' w' σ' own'->Kd σ own ks σ' own' ks'->K env' own' ks'->Q .normal a' w')->wpListIn (FR r) 0 P ops Q l a w
 | [],sl,env,own,ks,K,M,w,σ,a,hc,h,sim,hq=>by
   simp[Q2c] at hc;subst hc;exact hq env own ks M w σ a sim (Tr.refl _ _ _ _) (Kd.refl _ _ _) h
 | o::l,sl,env,own,ks,K,M,w,σ,a,hc,h,sim,hq=>by
   unfold Q2c at hc;split at hc<;>simp only[Option.some.injEq,reduceCtorEq] at hc;rename_i i sl' h1 h2;subst hc;obtain⟨op,hop,hdst,hg⟩:=J3o h1;have xok:∀x,x∈op.xs->XOk M w σ env a x:=fun x _ n _ v hv=>sim.env n v hv;have go:∀(h:Q2n P op env own ks fun v own ks=>match o.dst with|some t=>J5y P sl' ((t,v)::env) own ks K|none=>J5y P sl' env own ks K),o.wpIn (FR r) 0 P a w (wpListIn (FR r) 0 P ops Q l) Q:=by
    intro h;refine Oper.wpIn_mono ?_ (J8s hop h xok sim.heap Q r);rintro a' w' ⟨u,M',σ',v,own',ks',rfl,hv,hh,tr,kd,hK⟩;have sim':=sim.put hdst hv hh tr;have hK':J5y P sl' (J4N env o.dst v) own' ks' K:=by
     unfold J4N;cases hd:o.dst<;>simp only[hd] at hK ⊢<;>exact hK
    exact J2D r l sl' _ own' ks' K M' w' σ' _ h2 hK' sim' fun env' own'' ks'' M'' w'' σ'' a'' s t q k=>hq env' own'' ks'' M'' w'' σ'' a'' s (tr.trans t) (kd.trans q) k
   unfold wpListIn;rcases hg with ⟨hg,rfl⟩ | ⟨j,b,t,hg,hj,rfl⟩
   . rw[if_pos (by simp[Region.wanted,hg])];exact go h
   . simp only[J5y] at h;split at h
     . rename_i bb hlook;have hden:=sim.env t _ hlook;have hb:a.tmps.getD t undef=.bool bb:=by
        generalize a.tmps.getD t undef=q at hden;cases hden;rfl
       have hw:=J6e hg hj hb;cases hx:Bool.xor bb b
       . have e:bb=b:=by revert hx;cases bb<;>cases b<;>decide
         rw[hx] at h;rw[if_pos (by rw[hw,e];simp)];exact go h
       . have e:(bb == b)=false:=by revert hx;cases bb<;>cases b<;>decide
         rw[hx] at h;rw[if_neg (by rw[hw,e];simp)];have sim':=sim.put (v:=.raw (.tuple #[])) (u:=undef) hdst (.raw _ _) sim.heap (Tr.refl _ _ _ _);have hK':J5y P sl' (J4N env o.dst (.raw (.tuple #[]))) own ks K:=by
          unfold J4N;cases hd:o.dst<;>simp only[hd] at h ⊢<;>exact h
         exact⟨fun _ _=>trivial,J2D r l sl' _ own ks K M w σ _ h2 hK' sim' hq⟩
     . rename_i us hlook;have hden:=sim.env t _ hlook;have hb:a.tmps.getD t undef=.tuple us:=by
        generalize a.tmps.getD t undef=q at hden;cases hden;rfl
       rw[if_neg (by rw[J4X hg hj hb];simp)];have sim':=sim.put (v:=.raw (.tuple #[])) (u:=undef) hdst (.raw _ _) sim.heap (Tr.refl _ _ _ _);have hK':J5y P sl' (J4N env o.dst (.raw (.tuple #[]))) own ks K:=by
        unfold J4N;cases hd:o.dst<;>simp only[hd] at h ⊢<;>exact h
       exact⟨fun _ _=>trivial,J2D r l sl' _ own ks K M w σ _ h2 hK' sim' hq⟩
     . exact h.elim
end Go.Eng
