import Derived.Test.YtlpfphlbghdokaaGreatDoorEngO
import Derived.KernelRfl
namespace Go.Eng
theorem Br.dec {p:Prop} [Decidable p] {A B:Prop} (h1:p->A) (h2:¬ p->B):Br (decide p) A B:=⟨fun h=>h1 (of_decide_eq_true h),fun h=>h2 (of_decide_eq_false h)⟩
theorem Br.bne {a b:Int} {A B:Prop} (h1:a≠b->A) (h2:a=b->B):Br (a != b) A B:=⟨fun h=>h1 (by simpa using h),fun h=>h2 (by simpa using h)⟩
theorem Br.nbeq {a b:Nat} {A B:Prop} (h1:a=b->A) (h2:a≠b->B):Br (Nat.beq a b) A B:=⟨fun h=>h1 (Nat.eq_of_beq_eq_true h),fun h=>h2 (Nat.ne_of_beq_eq_false h)⟩
theorem Br.nble {a b:Nat} {A B:Prop} (h1:a<=b->A) (h2:b<a->B):Br (Nat.ble a b) A B:=⟨fun h=>h1 (Nat.le_of_ble_eq_true h),fun h=>h2 (Nat.lt_of_not_le fun hh=>by rw[Nat.ble_eq_true_of_le hh] at h;cases h)⟩
theorem Br.any {b:Bool} {A B:Prop} (h1:b=true->A) (h2:b=false->B):Br b A B:=⟨h1,h2⟩
theorem Bd.nat {m n:Nat} {K:Nat->Prop} (h:m<=n) (hK:K m):Bd (m:Int) n K:=⟨m,rfl,h,hK⟩
theorem Bd.int {i:Int} {n:Nat} {K:Nat->Prop} (h0:0<=i) (h:i<=n) (hK:K i.toNat):Bd i n K:=⟨i.toNat,by omega,by omega,hK⟩
def Q0D (env:Env):List Nat->Env
 | []=>[]
 | t::r=>match look env t with
   | some v=>(t,v)::Q0D env r
   | none=>Q0D env r
theorem X03 {P:Program} (hm:P.follows .mixedOrders=true) {N:Nat} {bk:BK} {b:SC} {env:Env} {own:Own} {ks:List Nat} {K:Out->Prop} (live chg ks0:List Nat) {α:Type} (vals:α->Env) (ownf:α->Own) (I:Nat->α->Prop) (n0:Nat) (x0:α)
 (h0:I n0 x0)
 (hchg:(chg.all fun k=>J06 k bk.ks&&(J06 k (own.map (·.1)) || J06 k ks))=true) (hks0:(ks0.all fun k=>J06 k ks)=true) (okeys:List Nat) (hok:(okeys.all fun k=>J06 k (own.map (·.1)) || J06 k ks)=true)
 (hkeys:∀x,(ownf x).map (·.1)=okeys)
 (hw0:J3A N chg ⟨env,own,ks⟩ ⟨vals x0++Q0D env live,ownf x0,ks0⟩)
 (step:∀n x,I n x->vc P N bk b (vals x++Q0D env live) (ownf x) ks0 fun o=>match o with
   | .normal st=>∃m st',m<n/\J3A N chg st st'/\∃x,I m x/\st'=⟨vals x++Q0D env live,ownf x,ks0⟩
   | o=>K o):J95 P N bk b env own ks K:=by
 simp only[List.all_eq_true,Bool.and_eq_true,Bool.or_eq_true,J0m] at hchg hks0 hok;refine Q7J hm chg okeys ks0 hchg hks0 hok (fun n st=>∃x,I n x/\st=⟨vals x++Q0D env live,ownf x,ks0⟩) n0 _ hw0 ⟨x0,h0,rfl⟩ ?_ ?_
 . rintro n st ⟨x,_,rfl⟩;exact⟨rfl,fun k hk=>by simp only[hkeys] at hk;exact hk⟩
 . rintro n env' own' ks' ⟨x,hI,he⟩;cases he;exact step n x hI
abbrev OC:=Env->Own->List Nat->(Env->Own->List Nat->Prop)->Prop
abbrev CC:=Env->Own->List Nat->(Out->Prop)->Prop
def gop (P:Program) (g:Option (Nat×Bool)) (op:SOp) (env:Env) (own:Own) (ks:List Nat) (K:V->Own->List Nat->Prop):Prop :=
 match g with
 | none=>vop P op env own ks K
 | some (t,want)=>match look env t with
   | some (.bool b)=>match Bool.xor b want with
     | false=>vop P op env own ks K
     | true=>K (.raw (.tuple #[])) own ks
   | some (.raw (.tuple _))=>K (.raw (.tuple #[])) own ks
   | _=>False
def gopO (P:Program) (g:Option (Nat×Bool)) (op:SOp) (env:Env) (own:Own) (ks:List Nat) (K:V->Own->List Nat->Prop):Prop :=
 match g with
 | none=>Q3l P op env own ks K
 | some (t,want)=>match look env t with
   | some (.bool b)=>match Bool.xor b want with
     | false=>Q3l P op env own ks K
     | true=>K (.raw (.tuple #[])) own ks
   | some (.raw (.tuple _))=>K (.raw (.tuple #[])) own ks
   | _=>False
def Y0M (env:Env) (d:Option Nat) (v:V) (K:Env->Prop):Prop :=
 match d with
 | some t=>K ((t,v)::env)
 | none=>K env
def oNil:OC:=fun env own ks K=>K env own ks
def X4i (P:Program) (s:SI) (_:List SI) (ih:OC):OC:=fun env own ks K =>
 gopO P s.guard s.op env own ks fun v own ks=>Y0M env s.dst v fun env=>ih env own ks K
def X3F (P:Program) (l:List SI):OC:=@List.rec SI (fun _=>OC) oNil (X4i P) l
def X7F (P:Program) (g:Option (Nat×Bool)) (pend:List Nat) (held:List (Option Nat×Nat×Nat)) (op:SOp) (env:Env) (own:Own) (ks:List Nat) (K:V->Own->List Nat->Prop):Prop :=
 J5Z env g
  (J4l env pend own [] fun ownA ownB=>vop P op env ownA ks fun v ownA' ks=>J75 env ownA' (X5H ownB ownA' fun own=>K v own ks) held)
  (K (.raw (.tuple #[])) own ks)
def Q8O (P:Program) (d:DI) (_:List DI) (ih:OC):OC:=fun env own ks K =>
 match d with
 | .op _ s=>gop P s.guard s.op env own ks fun v own ks=>Y0M env s.dst v fun env=>ih env own ks K
 | .eff _ pend held s=>X7F P s.guard pend held s.op env own ks fun v own ks=>Y0M env s.dst v fun env=>ih env own ks K
def Q3q (P:Program) (l:List DI):OC:=@List.rec DI (fun _=>OC) oNil (Q8O P) l
def X6W (K:Out->Prop) (env:Env) (own:Own) (ks:List Nat):Prop:=K (.normal ⟨env,own,ks⟩)
def seqK (b:CC) (K:Out->Prop) (o:Out):Prop :=
 match o with
 | .normal ⟨env,own,ks⟩=>b env own ks K
 | .exit id st=>K (.exit id st)
 | .ret st=>K (.ret st)
def X3e (id:Nat) (K:Out->Prop) (o:Out):Prop :=
 match o with
 | .normal st=>K (.normal st)
 | .exit id' st=>K (match Nat.beq id' id with|true=>.normal st|false=>.exit id' st)
 | .ret st=>K (.ret st)
def Y2M (a b:CC) (env:Env) (own:Own) (ks:List Nat) (K:Out->Prop) (v:V):Prop :=
 match v with
 | .bool true=>a env own ks K
 | .bool false=>b env own ks K
 | .anyb=>Y26 (a env own ks K) (b env own ks K)
 | _=>False
def Y2T:CC:=fun env own ks K=>K (.normal ⟨env,own,ks⟩)
def Y2V (P:Program) (l:List SI):CC:=fun env own ks K=>X3F P l env own ks (X6W K)
def X5t (P:Program) (l:List DI):CC:=fun env own ks K=>Q3q P l env own ks (X6W K)
def Y2U (_ _:SC) (a b:CC):CC:=fun env own ks K=>a env own ks (seqK b K)
def X5u (c:X) (_ _:SC) (a b:CC):CC:=fun env own ks K=>c.get env (Y2M a b env own ks K)
def Q9j (id:Nat) (_:SC) (b:CC):CC:=fun env own ks K=>b env own ks (X3e id K)
def Y2W (P:Program) (N:Nat) (bk:BK) (b:SC) (_:CC):CC:=fun env own ks K=>J95 P N bk b env own ks K
def Y2X (id:Nat):CC:=fun env own ks K=>K (.exit id ⟨env,own,ks⟩)
def cRet:CC:=fun env own ks K=>K (.ret ⟨env,own,ks⟩)
def cRf (P:Program) (N:Nat) (bk:BK) (g:X) (ps:List Nat) (a b:SC) (_ _:CC):CC:=fun env own ks K=>Q9E P N bk.r g ps a b env own ks K
def vcR (P:Program) (N:Nat) (bk:BK) (c:SC):CC:=@SC.rec (fun _=>CC) Y2T (Y2V P) (X5t P) Y2U X5u Q9j (Y2W P N bk) Y2X cRet (cRf P N bk) c
theorem Q3k {P:Program}:∀(l:List SI),X3F P l=J5h P l
 | []=>by
   funext env own ks K;simp only[J5h];rfl
 | ⟨d,op,g⟩::r=>by
   show X4i P ⟨d,op,g⟩ r (X3F P r)=_;rw[Q3k r];funext env own ks K;simp only[X4i,gopO]
   conv=>rhs;unfold J5h
   cases d<;>cases g with
   | none=>rfl
   | some p =>
     obtain⟨t,want⟩:=p;simp only;split
     . rename_i b hb;simp only[hb]
       try rfl
       all_goals (cases Bool.xor b want<;>rfl)
     . rename_i us hb;simp only[hb]
       try rfl
     . rename_i hne hne2;split
       . rename_i b hb;exact(hne b hb).elim
       . rename_i us hb;exact(hne2 us hb).elim
       . rfl
theorem J6D {P:Program}:∀(l:List DI),Q3q P l=J1D P l
 | []=>by
   funext env own ks K;simp only[J1D];rfl
 | .op ix ⟨d,op,g⟩::r=>by
   show Q8O P (.op ix ⟨d,op,g⟩) r (Q3q P r)=_;rw[J6D r];funext env own ks K;simp only[Q8O,gop]
   conv=>rhs;unfold J1D
   unfold J5Z;cases d<;>cases g with
   | none=>rfl
   | some p =>
     obtain⟨t,want⟩:=p;simp only;split
     . rename_i b hb;simp only[hb]
       try rfl
       all_goals (cases Bool.xor b want<;>rfl)
     . rename_i us hb;simp only[hb]
       try rfl
     . rename_i hne hne2;split
       . rename_i b hb;exact(hne b hb).elim
       . rename_i us hb;exact(hne2 us hb).elim
       . rfl
 | .eff ix pend held ⟨d,op,g⟩::r=>by
   show Q8O P (.eff ix pend held ⟨d,op,g⟩) r (Q3q P r)=_;rw[J6D r];funext env own ks K;simp only[Q8O,X7F]
   conv=>rhs;unfold J1D
   cases d<;>rfl
theorem J8f {P:Program} {N:Nat} {bk:BK} (c:SC):vcR P N bk c=vc P N bk c:=by
 induction c with
 | skip=>funext env own ks K;simp only[vc];rfl
 | ops l =>
   show Y2V P l=_;funext env own ks K;simp only[Y2V,Q3k,vc];rfl
 | draw l =>
   show X5t P l=_;funext env own ks K;simp only[X5t,J6D,vc];rfl
 | seq a b iha ihb =>
   show Y2U a b (vcR P N bk a) (vcR P N bk b)=_;rw[iha,ihb];funext env own ks K;simp only[Y2U,vc];congr 1;funext o;cases o<;>rfl
 | cond c a b iha ihb =>
   show X5u c a b (vcR P N bk a) (vcR P N bk b)=_;rw[iha,ihb];funext env own ks K;simp only[X5u,vc];congr 1;funext v;cases v with
   | bool x=>cases x<;>rfl
   | _=>rfl
 | block id b ih =>
   show Q9j id b (vcR P N bk b)=_;rw[ih];funext env own ks K;simp only[Q9j,vc];congr 1;funext o;cases o with
   | exit id' st=>simp only[X3e];cases Nat.beq id' id<;>rfl
   | _=>rfl
 | loop b ih=>funext env own ks K;simp only[vc];rfl
 | exit id=>funext env own ks K;simp only[vc];rfl
 | ret=>funext env own ks K;simp only[vc];rfl
 | rf g ps a b iha ihb=>funext env own ks K;simp only[vc];rfl
def Y0K (rs:List RV) (K:V->Own->List Nat->Prop) (o:Out):Prop :=
 match o with
 | .normal ⟨env,own,ks⟩=>J99 env own rs fun vs=>Q43 vs fun v=>K v own ks
 | .ret ⟨env,own,ks⟩=>J99 env own rs fun vs=>Q43 vs fun v=>K v own ks
 | .exit _ _=>False
theorem J0c {P:Program} (hm:P.follows .mixedOrders=true) {f:FuncId} {fn:Func} {c:Code} {sc:SC} {rs:List RV} (hf:P.funcs[f]?=some fn) (hb:fn.body=some c) (hc:J0V P fn.ntmps c=some sc)
 (hr:Q2Y P fn.results.toList=some rs) {args:List V} {own:Own} {ks:List Nat} {K:V->Own->List Nat->Prop} (hl:Nat.ble args.length fn.ntmps=true)
 (h:vcR P fn.ntmps ⟨ks,none⟩ sc (J7y 0 args) own ks (Y0K rs K)):J0G P f args own ks K:=by
 refine Q1J hm hf hb hc hr (Nat.le_of_ble_eq_true hl) ?_;rw[J8f] at h;have e:Y0K rs K=fun o=>match o with
  | .normal ⟨env,own,ks⟩=>J99 env own rs fun vs=>Q43 vs fun v=>K v own ks
  | .ret ⟨env,own,ks⟩=>J99 env own rs fun vs=>Q43 vs fun v=>K v own ks
  | .exit _ _=>False:=by
  funext o;cases o<;>rfl
 rw[e] at h;exact h
def X1h {α:Type} (N:Nat) (chg:List Nat) (st:α->St) (I:Nat->α->Prop) (n:Nat) (K:Out->Prop) (o:Out):Prop :=
 match o with
 | .normal st'=>∃m x,m<n/\I m x/\J3A N chg st' (st x)
 | .exit id st=>K (.exit id st)
 | .ret st=>K (.ret st)
theorem J1h {P:Program} (hm:P.follows .mixedOrders=true) {N:Nat} {bk:BK} {b:SC} {env:Env} {own:Own} {ks:List Nat} {K:Out->Prop} (live chg ks0 okeys:List Nat) {α:Type} (vals:α->Env) (ownf:α->Own) (I:Nat->α->Prop) (n0:Nat) (x0:α)
 (h0:I n0 x0)
 (hchg:((chg.all fun k=>J06 k bk.ks&&(J06 k (own.map (·.1)) || J06 k ks))&&(ks0.all fun k=>J06 k ks)&&(okeys.all fun k=>J06 k (own.map (·.1)) || J06 k ks))=true)
 (hkeys:∀x,(ownf x).map (·.1)=okeys)
 (hw0:J3A N chg ⟨env,own,ks⟩ ⟨vals x0++Q0D env live,ownf x0,ks0⟩)
 (step:∀n x,I n x->vcR P N bk b (vals x++Q0D env live) (ownf x) ks0 (X1h N chg (fun x=>⟨vals x++Q0D env live,ownf x,ks0⟩) I n K)):J95 P N bk b env own ks K:=by
 simp only[Bool.and_eq_true] at hchg;obtain⟨⟨h1,h2⟩,h3⟩:=hchg;refine X03 hm live chg ks0 vals ownf I n0 x0 h0 h1 h2 okeys h3 hkeys hw0 ?_;intro n x hI;have:=step n x hI;rw[J8f] at this;have e:X1h N chg (fun x=>⟨vals x++Q0D env live,ownf x,ks0⟩) I n K=fun o=>match o with
  | .normal st=>∃m st',m<n/\J3A N chg st st'/\∃x,I m x/\st'=⟨vals x++Q0D env live,ownf x,ks0⟩
  | o=>K o:=by
  funext o;cases o with
  | normal st =>
    apply propext;constructor
    . rintro⟨m,x,a,b,c⟩;exact⟨m,_,a,c,x,b,rfl⟩
    . rintro⟨m,_,a,c,x,b,rfl⟩;exact⟨m,x,a,b,c⟩
  | _=>rfl
 rw[e] at this;exact this
theorem J0N {P:Program} (hm:P.follows .mixedOrders=true) {N:Nat} {bk:BK} {b:SC} {env:Env} {own:Own} {ks:List Nat} {K:Out->Prop} (live:List Nat) {α:Type} (vals:α->Env) (I:Nat->α->Prop) (n0:Nat) (x0:α)
 (h0:I n0 x0)
 (hw0:J3A N [] ⟨env,own,ks⟩ ⟨vals x0++Q0D env live,own,ks⟩)
 (step:∀n x,I n x->vcR P N bk b (vals x++Q0D env live) own ks (X1h N [] (fun x=>⟨vals x++Q0D env live,own,ks⟩) I n K)):J95 P N bk b env own ks K :=
 J1h hm live [] ks (own.map (·.1)) vals (fun _=>own) I n0 x0 h0 (by simp only[Bool.and_eq_true,List.all_eq_true,Bool.or_eq_true,J0m];exact⟨⟨by simp,fun k hk=>hk⟩,fun k hk=>.inl hk⟩) (fun _=>rfl) hw0 step
theorem J1l {ks:List Nat} {v:V} {own':Own} {K:V->Own->List Nat->Prop} (mk:Own->Rn) (v2:V) (own2:Own) (hK:K v2 own2 [])
 (hv:J0a (mk own') v v2) (ho:J2m (mk own') own' own2) (hc:(J1B (own2.map (·.1))&&rnB (mk own')&&X1Q ks (mk own'))=true):X5O ks v own' K:=by
 simp only[Bool.and_eq_true] at hc;exact⟨mk own',v2,own2,[],hv,ho,by simp[J1B,ksB,hc],hK⟩
def X5R (v:V) (i:Nat):Option Nat:=match v with
 | .agg cs=>match nth cs i with
   | some (.vec q _ _ _)=>some q
   | some (.loc q _)=>some q
   | some (.map q)=>some q
   | _=>none
 | .vec q _ _ _=>some q
 | .loc q _=>some q
 | .map q=>some q
 | _=>none
def J9T (own:Own) (k i:Nat):Option Nat:=match look own k with
 | some (.cells cs)=>match nth cs i with
   | some v=>X5R v 0
   | none=>none
 | _=>none
theorem Q0R {ks:List Nat} {v:V} {own':Own} {K:V->Own->List Nat->Prop} (mk:V->Own->Rn) (v2:V) (own2:Own) (hK:K v2 own2 [])
 (hv:J0a (mk v own') v v2) (ho:J2m (mk v own') own' own2) (hc:(J1B (own2.map (·.1))&&rnB (mk v own')&&X1Q ks (mk v own'))=true):X5O ks v own' K:=by
 simp only[Bool.and_eq_true] at hc;exact⟨mk v own',v2,own2,[],hv,ho,by simp[J1B,ksB,hc],hK⟩
theorem J12 {P:Program} {f:FuncId} {args args0:List V} {own own0:Own} {ks ks0:List Nat} {K:V->Own->List Nat->Prop} (ρ:Rn) (nk:List Nat)
 (h:J0G P f args0 own0 ks0 fun v own' _=>X76 own ks ρ nk v own' K)
 (hargs:Q3d ρ args args0) (hown:J2m ρ own own0) (h1:(J1B ks0&&J1B (own0.map (·.1))&&rnB ρ&&ksB ρ ks0&&(ρ.all fun p=>J06 p.1 (own0.map (·.1))))=true):J0G P f args own ks K :=
 X5r ρ nk hargs hown h1 h
def LLe:List V->List V->Prop
 | [],[]=>True
 | v::r,v'::r'=>VLe v v'/\LLe r r'
 | _,_=>False
theorem LLe.out:∀{cs cs':List V},LLe cs cs'->cs'.length=cs.length/\∀(i:Nat) (v v':V),cs[i]?=some v->cs'[i]?=some v'->VLe v v'
 | [],[],_=>⟨rfl,fun i v v' h=>by simp at h⟩
 | v::r,v'::r',h=>by
   obtain⟨l,hr⟩:=LLe.out h.2;refine⟨by simp[l],fun i x x' hx hx'=>?_⟩;cases i with
   | zero=>simp at hx hx';subst hx hx';exact h.1
   | succ i=>exact hr i x x' (by simpa using hx) (by simpa using hx')
 | [],_::_,h=>h.elim
 | _::_,[],h=>h.elim
theorem VLe.agg {cs cs':List V} (h:LLe cs cs'):VLe (.agg cs) (.agg cs') :=
 ⟨fun M w u hd=>by
   obtain⟨l,hr⟩:=h.out;cases hd with
   | agg _ _ us hl hd =>
     refine .agg _ _ _ (by omega) fun i v u hv hu=>?_;have hi:i<cs.length:=by rw[<- l];exact(List.getElem?_eq_some_iff.1 hv).1
     exact(hr i cs[i] v (by simp[hi]) hv).out M w u (hd i cs[i] u (by simp[hi]) hu)⟩
theorem VLe.tup {cs cs':List V} (h:LLe cs cs'):VLe (.tup cs) (.tup cs') :=
 ⟨fun M w u hd=>by
   obtain⟨l,hr⟩:=h.out;cases hd with
   | tup _ _ us hl hd =>
     refine .tup _ _ _ (by omega) fun i v u hv hu=>?_;have hi:i<cs.length:=by rw[<- l];exact(List.getElem?_eq_some_iff.1 hv).1
     exact(hr i cs[i] v (by simp[hi]) hv).out M w u (hd i cs[i] u (by simp[hi]) hu)⟩
theorem VLe.int {k:IntKind} {a b:Int} (h:a=b):VLe (.int k a) (.int k b):=by subst h;exact .rfl
theorem VLe.bool {a b:Bool} (h:a=b):VLe (.bool a) (.bool b):=by subst h;exact .rfl
def Ret (P:Program) (f:FuncId) (args:List V) (X:V):Prop:=∀own ks,J0G P f args own ks fun v o k=>v=X/\o=own/\k=ks
theorem J0g {P:Program} {f:FuncId} {args:List V} {X:V} (hk:J2O V.kf args=true) (h:J0G P f args [] KS fun v own' _=>Q4j own' v fun v'=>VLe v' X):Ret P f args X:=by
 intro own ks;constructor;intro M w σ us hlen hd hh;refine(h.out M w Sg.none us hlen (fun i v u hv hu=>(hd i v u hv hu).kf (J0t hk v (List.mem_of_getElem? hv)) Sg.none) (J2l KS J5g)).mono ?_;rintro e w' ⟨M',σ',v,own',ks',u,rfl,hv,hh',tr,_,hfr⟩;obtain⟨v',hK,hv'⟩:=J3j hfr;have hM:∀b,b<w.heap.size->(J4H M' w' σ' own' b↔M b):=by
  intro b hb;have hno:¬ J0v w' σ' own' b:=fun ho=>by
   rcases tr.new b ho with h1|h1
   . exact J0C h1
   . omega
  constructor
  . intro h1;exact(tr.adv.muts b hb J0C).1 h1.1
  . intro h1;exact⟨(tr.adv.muts b hb J0C).2 h1,hno⟩
 have hfr:=J2E (M'':=J4H M' w' σ' own') hh tr hM;exact⟨_,σ,X,own,ks,u,rfl,(hK.out _ _ _ (hv' M' w' σ' u hh'.own hv)).mono (Ext.mk (fun _ _ h=>⟨h,rfl⟩) (Nat.le_refl _)) (Sg.none_le σ),hfr.1,hfr.2,Kd.refl _ _ _,rfl,rfl,rfl⟩
def X7E (env:Env) (t:Nat):Option Nat:=match look env t with
 | some v=>X5R v 0
 | none=>none
theorem J0e {N:Nat} {chg:List Nat} {env env':Env} {own own':Own} {ks ks':List Nat} (mk:Env->Own->Rn) (he:J3Z (mk env own) env env') (ho:J2m (mk env own) own own')
 (h1:(J1B ks'&&J1B (own'.map (·.1))&&rnB (mk env own)&&X1Q chg (mk env own)&&ksB (mk env own) ks')=true):J3A N chg ⟨env,own,ks⟩ ⟨env',own',ks'⟩:=by
 simp only[Bool.and_eq_true] at h1;obtain⟨⟨⟨⟨a,b⟩,c⟩,d⟩,e⟩:=h1;exact Q9S (mk env own) he ho a b c d e
theorem Ret.go {P:Program} {f:FuncId} {args:List V} {X:V} {own:Own} {ks:List Nat} {K:V->Own->List Nat->Prop} (h:Ret P f args X) (hK:K X own ks):J0G P f args own ks K :=
 (h own ks).mono (by rintro _ _ _ ⟨rfl,rfl,rfl⟩;exact hK)
theorem J0k {N:Nat} {chg:List Nat} {env env':Env} {own own':Own} {ks ks':List Nat} (mk:Env->Own->Rn)
 (he:J3Z (mk env own) env env':=by repeat' (first|exact True.intro|exact J0a.oel rfl rfl|exact J0a.map rfl|exact J0a.yld rfl|(refine J0a.fn ?_)|exact⟨rfl,rfl⟩|exact⟨rfl,rfl,rfl⟩|(refine⟨rfl,rfl,rfl,rfl,rfl,?_⟩)|(refine⟨⟨_,rfl,?_⟩,?_⟩)|exact J0a.kf rfl|exact J0a.int rfl|exact J0a.int (by omega)|exact J0a.loc rfl|exact J0a.vec rfl rfl rfl|exact J0a.vec rfl (by omega) (by omega)|exact J0a.nil rfl rfl|exact J0a.nil rfl (by omega)|exact J0a.fz rfl (fun h=>h) (fun _ _ _ _=>VLe.rfl)|(refine⟨Nat.le_refl _,rfl,fun i j hi hj=>?_⟩)|(refine⟨by omega,rfl,fun i j hi hj=>?_⟩)|exact VLe.rfl|(refine⟨⟨_,_,rfl⟩,?_⟩)|(refine And.intro ?_ ?_)))
 (ho:J2m (mk env own) own own':=by repeat' (first|exact True.intro|exact J0a.oel rfl rfl|exact J0a.map rfl|exact J0a.yld rfl|(refine J0a.fn ?_)|exact⟨rfl,rfl⟩|exact⟨rfl,rfl,rfl⟩|(refine⟨rfl,rfl,rfl,rfl,rfl,?_⟩)|(refine⟨⟨_,rfl,?_⟩,?_⟩)|exact J0a.kf rfl|exact J0a.int rfl|exact J0a.int (by omega)|exact J0a.loc rfl|exact J0a.vec rfl rfl rfl|exact J0a.vec rfl (by omega) (by omega)|exact J0a.nil rfl rfl|exact J0a.nil rfl (by omega)|exact J0a.fz rfl (fun h=>h) (fun _ _ _ _=>VLe.rfl)|(refine⟨Nat.le_refl _,rfl,fun i j hi hj=>?_⟩)|(refine⟨by omega,rfl,fun i j hi hj=>?_⟩)|exact VLe.rfl|(refine⟨⟨_,_,rfl⟩,?_⟩)|(refine And.intro ?_ ?_)))
 (h1:(J1B ks'&&J1B (own'.map (·.1))&&rnB (mk env own)&&X1Q chg (mk env own)&&ksB (mk env own) ks')=true:=by rfl):J3A N chg ⟨env,own,ks⟩ ⟨env',own',ks'⟩:=J0e mk he ho h1
theorem Br.tt {A B:Prop} (h:A):Br true A B:=Br.mk (fun _=>h) (fun e=>Bool.noConfusion e)
theorem Br.ff {A B:Prop} (h:B):Br false A B:=Br.mk (fun e=>Bool.noConfusion e) (fun _=>h)
theorem Ar.q {n:Int} {K:Int->Prop} (hK:K n) (h1:-9223372036854775808<=n:=by omega) (h2:n<=9223372036854775807:=by omega):Ar .i64 n K:=Ar.i64 h1 h2 hK
theorem Ix.q {m n:Nat} {K:Nat->Prop} (hK:K m) (h:m<n:=by omega):Ix (m:Int) n K:=Ix.nat h hK
theorem Ltn.q {i n:Nat} {K:Prop} (hK:K) (h:i<n:=by omega):Ltn i n K:=.mk h hK
theorem Len.q {i n:Nat} {K:Prop} (hK:K) (h:i<=n:=by omega):Len i n K:=.mk h hK
theorem tI:True:=True.intro
theorem Bd.q {m n:Nat} {K:Nat->Prop} (hK:K m) (h:m<=n:=by omega):Bd (m:Int) n K:=Bd.nat h hK
theorem Ix.w {i:Int} {n:Nat} {K:Nat->Prop} (m:Nat) (hK:K m) (h:i=(m:Int):=by omega) (h2:m<n:=by omega):Ix i n K:=Ix.mk m h h2 hK
theorem Chk.q {b:Bool} {K:Prop} (hK:K) (h:b=true:=by kernel_rfl):Chk b K:=.mk h hK
theorem J0a.q {ρ:Rn} {k k' s lo len lo' len':Nat} (h:look ρ k=some (some k'):=by exact rfl) (h1:lo=lo':=by exact rfl) (h2:len=len':=by exact rfl):J0a ρ (.vec k' s lo len) (.vec k s lo' len'):=J0a.vec h h1 h2
end Go.Eng
