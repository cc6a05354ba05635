import Derived.Test.YtlpfphlbghdokaaGreatDoorEvD
import Derived.WalkKit
import Derived.Defers
import Derived.Recover
import Derived.Laws.Pointers
import Derived.Lib.Walk
import Derived.Lib.Strings
import Derived.Lib.Bytealg
import Derived.Laws.Strings3
namespace Go.Eng
structure CS where
 e:J1e
 o:J0A
 k:Nat
def CS.st (s:CS):St:=⟨J25 s.e,J0L s.o,ksV s.k⟩
noncomputable def J4m (g:Option (Nat×Bool)) (env:J1e):Option Bool:=match g with
 | none=>some true
 | some (t,want)=>match lk env t with
   | some (.bool b)=>match Bool.xor b want with|false=>some true|true=>some false
   | some .unit=>some false
   | _=>none
noncomputable def X5V {β:Type} (d:Option Nat) (v:C) (e:J1e) (K:J1e->β):β:=match d with|some t=>K ((t,v)::e)|none=>K e
abbrev KT:=J1e->J0A->Nat->Option CS
noncomputable def X6C (d:Option Nat) (e:J1e) (ih:KT) (r:Option R):Option CS:=match r with
 | some ⟨v,o',k'⟩=>X5V d v e fun e=>ih e o' k'
 | none=>none
noncomputable def opsG (call:J2N) (op:SOp) (d:Option Nat) (ih:KT) (e:J1e) (o:J0A) (k:Nat) (g:Option Bool):Option CS:=match g with
 | some true=>X6C d e ih (cop call true op e o k)
 | some false=>X5V d .unit e fun e=>ih e o k
 | none=>none
noncomputable def opsS (call:J2N) (si:SI) (ih:KT):KT:=fun e o k=>opsG call si.op si.dst ih e o k (J4m si.guard e)
noncomputable def X7Q (call:J2N) (l:List SI):KT:=@List.rec SI (fun _=>KT) (fun e o k=>some ⟨e,o,k⟩) (fun si _ ih=>opsS call si ih) l
theorem J7B {P:Program} {call:J2N} (hcall:J8Y P call):∀(l:List SI) (e:J1e) (o:J0A) (k:Nat) (s:CS) (K:Env->Own->List Nat->Prop),X7Q call l e o k=some s->K (J25 s.e) (J0L s.o) (ksV s.k)->J5h P l (J25 e) (J0L o) (ksV k) K
 | [],e,o,k,s,K,h,hK=>by
   have h:some (CS.mk e o k)=some s:=h;cases h;simpa[J5h] using hK
 | ⟨d,op,g⟩::r,e,o,k,s,K,h,hK=>by
   have h:opsG call op d (X7Q call r) e o k (J4m g e)=some s:=h;have run:X6C d e (X7Q call r) (cop call true op e o k)=some s->Q3l P op (J25 e) (J0L o) (ksV k) fun v own ks=>match (generalizing:=false) d with
    | some t=>J5h P r ((t,v)::J25 e) own ks K
    | none=>J5h P r (J25 e) own ks K:=by
    intro h;unfold X6C at h;split at h
    . rename_i v o' k' hc;have fin:=Q8U hcall (b:=true) (K:=fun v own ks=>match (generalizing:=false) d with
       | some t=>J5h P r ((t,v)::J25 e) own ks K
       | none=>J5h P r (J25 e) own ks K) hc ?_
      . exact fin
      . cases d with
        | some t=>exact J7B hcall r _ _ _ s K h hK
        | none=>exact J7B hcall r _ _ _ s K h hK
    . cases h
   have skip:(X5V d .unit e fun e=>X7Q call r e o k)=some s->(match (generalizing:=false) d with
         | some t=>J5h P r ((t,.raw (.tuple #[]))::J25 e) (J0L o) (ksV k) K
         | none=>J5h P r (J25 e) (J0L o) (ksV k) K):=by
    intro h;cases d with
    | some t =>
      have:=J7B hcall r _ _ _ s K h hK;simpa[J25,C.v] using this
    | none=>exact J7B hcall r _ _ _ s K h hK
   simp only[J5h];cases g with
   | none=>exact run h
   | some p =>
     obtain⟨t,want⟩:=p;simp only[J4m] at h;cases hl:lk e t with
     | none=>rw[hl] at h;cases h
     | some c =>
       rw[hl] at h;simp only[J1X hl];cases c with
       | bool b =>
         simp only[C.v] at h ⊢;cases hx:Bool.xor b want with
         | false=>rw[hx] at h;exact run h
         | true=>rw[hx] at h;exact skip h
       | unit=>simp only[C.v] at h ⊢;exact skip h
       | _=>cases h
def Q70:C->Option Nat
 | .loc k _=>some k
 | .vec k _ _ _=>some k
 | .oel k _ _ _=>some k
 | _=>none
theorem Q1c (c:C):Q1b c.v=Q70 c:=by cases c<;>simp[C.v,Q1b,Q70]
noncomputable def Q0y {β:Type} (env:J1e):List Nat->J0A->J0A->(J0A->J0A->Option β)->Option β
 | [],own,acc,K=>K own acc
 | t::r,own,acc,K=>match lk env t with
   | some v=>match Q70 v with
     | some k=>match lk own k with
       | some b=>deC k own fun own'=>Q0y env r own' ((k,b)::acc) K
       | none=>none
     | none=>Q0y env r own acc K
   | none=>none
theorem J6N {β:Type} {env:J1e}:∀{l:List Nat} {own acc:J0A} {K:J0A->J0A->Option β} {out:β},Q0y env l own acc K=some out ->
 ∃a b,K a b=some out/\∀Kp:Own->Own->Prop,Kp (J0L a) (J0L b)->J4l (J25 env) l (J0L own) (J0L acc) Kp
 | [],own,acc,K,out,h=>⟨own,acc,h,fun Kp hK=>by simpa[J4l] using hK⟩
 | t::r,own,acc,K,out,h=>by
   simp only[Q0y] at h;split at h
   . rename_i v hv;split at h
     . rename_i k hk;split at h
       . rename_i b hb;obtain⟨o',h,c1⟩:=Q8N h;obtain⟨a',b',h,c2⟩:=J6N h;refine⟨a',b',h,fun Kp hK=>?_⟩;simp only[J4l,J1X hv,Q1c,hk,J0x hb];exact c1 _ (c2 Kp hK)
       . cases h
     . rename_i hk;obtain⟨a',b',h,c2⟩:=J6N h;refine⟨a',b',h,fun Kp hK=>?_⟩;simp only[J4l,J1X hv,Q1c,hk];exact c2 Kp hK
   . cases h
mutual
def X53:C->C->Bool
 | .bool a,.bool b=>a == b
 | .int k a,.int k' b=>match kEq k k' with|true=>ieq a b|false=>false
 | .str l c,.str l' c'=>match Nat.beq l l' with|true=>Nat.beq c c'|false=>false
 | .nilptr,.nilptr=>true
 | .nilslice,.nilslice=>true
 | .nilmap,.nilmap=>true
 | .nilfunc,.nilfunc=>true
 | .niliface,.niliface=>true
 | .loc k o,.loc k' o'=>match Nat.beq k k' with|true=>Nat.beq o o'|false=>false
 | .vec k s lo len,.vec k' s' lo' len'=>match Nat.beq k k',Nat.beq s s',Nat.beq lo lo' with|true,true,true=>Nat.beq len len'|_,_,_=>false
 | .map k,.map k'=>Nat.beq k k'
 | .agg l,.agg l'=>J7N l l'
 | .fz n s f z rows,.fz n' s' f' z' rows'=>match Nat.beq n n',Nat.beq s s',f == f' with|true,true,true=>(match J7N z z' with|true=>J8U rows rows'|false=>false)|_,_,_=>false
 | _,_=>false
def J7N:List C->List C->Bool
 | [],[]=>true
 | a::r,b::q=>match X53 a b with|true=>J7N r q|false=>false
 | _,_=>false
def J8U:List (List C)->List (List C)->Bool
 | [],[]=>true
 | a::r,b::q=>match J7N a b with|true=>J8U r q|false=>false
 | _,_=>false
end
mutual
theorem Q25:∀(a b:C),X53 a b=true->a=b
 | a,b,h=>by
   unfold X53 at h;split at h
   . rw[beq_iff_eq] at h;rw[h]
   . split at h
     . rename_i hk;rw[J5W hk];rw[J47,beq_iff_eq] at h;rw[h]
     . cases h
   . split at h
     . rename_i hk;rw[Nat.eq_of_beq_eq_true hk,Nat.eq_of_beq_eq_true h]
     . cases h
   . rfl
   . rfl
   . rfl
   . rfl
   . rfl
   . split at h
     . rename_i hk;rw[Nat.eq_of_beq_eq_true hk,Nat.eq_of_beq_eq_true h]
     . cases h
   . split at h
     . rename_i h1 h2 h3;rw[Nat.eq_of_beq_eq_true h1,Nat.eq_of_beq_eq_true h2,Nat.eq_of_beq_eq_true h3,Nat.eq_of_beq_eq_true h]
     . cases h
   . rw[Nat.eq_of_beq_eq_true h]
   . rename_i l l';rw[J4h l l' h]
   . rename_i n s f z rows n' s' f' z' rows';split at h
     . rename_i h1 h2 h3;split at h
       . rename_i h4;rw[beq_iff_eq] at h3;rw[Nat.eq_of_beq_eq_true h1,Nat.eq_of_beq_eq_true h2,h3,J4h z z' h4,Q1O rows rows' h]
       . cases h
     . cases h
   . cases h
theorem J4h:∀(a b:List C),J7N a b=true->a=b
 | [],[],_=>rfl
 | a::r,b::q,h=>by
   unfold J7N at h;split at h
   . rename_i h1;rw[Q25 a b h1,J4h r q h]
   . cases h
 | [],_::_,h=>by simp[J7N] at h
 | _::_,[],h=>by simp[J7N] at h
theorem Q1O:∀(a b:List (List C)),J8U a b=true->a=b
 | [],[],_=>rfl
 | a::r,b::q,h=>by
   unfold J8U at h;split at h
   . rename_i h1;rw[J4h a b h1,Q1O r q h]
   . cases h
 | [],_::_,h=>by simp[J8U] at h
 | _::_,[],h=>by simp[J8U] at h
end
noncomputable def Q5x (env:J1e) (own:J0A):List (Option Nat×Nat×Nat)->Bool
 | []=>true
 | (sz,n,t)::r=>match lk env t with
   | some .unit=>Q5x env own r
   | some v=>match lk env n with
     | some p=>match J8O own sz p with
       | some v'=>match X53 v' v with|true=>Q5x env own r|false=>false
       | none=>false
     | none=>false
   | none=>false
theorem J9E {env:J1e} {own:J0A} {G:Prop} (hG:G):∀{l:List (Option Nat×Nat×Nat)},Q5x env own l=true->J75 (J25 env) (J0L own) G l
 | [],_=>hG
 | (sz,n,t)::r,h=>by
   simp only[Q5x] at h;cases hl:lk env t with
   | none=>rw[hl] at h;cases h
   | some c =>
     rw[hl] at h;simp only[J75,J1X hl];have other:(match lk env n with
      | some p=>match J8O own sz p with
        | some v'=>match X53 v' c with|true=>Q5x env own r|false=>false
        | none=>false
      | none=>false)=true->(match look (J25 env) n with
      | some p=>J3B (J0L own) sz p (fun v'=>v'=c.v)/\J75 (J25 env) (J0L own) G r
      | none=>False):=by
      intro h;split at h
      . rename_i p hp;rw[J1X hp];split at h
        . rename_i v' hv;split at h
          . rename_i hb;exact⟨J7D hv (by rw[Q25 _ _ hb]),J9E hG h⟩
          . cases h
        . cases h
      . cases h
     cases c<;>first
      | (simp only[C.v] at other ⊢;exact other h)
      | (simp only[C.v];exact J9E hG h)
theorem Q9t {α:Type}:∀(l r:List α) (K:List α->Prop),K (l++r)->X5H l r K
 | [],r,K,h=>h
 | x::l,r,K,h=>by simp only[X5H];exact Q9t l r _ h
noncomputable def X1B (call:J2N) (op:SOp) (d:Option Nat) (ih:KT) (e:J1e) (o:J0A) (k:Nat) (g:Option Bool):Option CS:=match g with
 | some true=>X6C d e ih (cop call false op e o k)
 | some false=>X5V d .unit e fun e=>ih e o k
 | none=>none
noncomputable def effR (held:List (Option Nat×Nat×Nat)) (d:Option Nat) (e:J1e) (ob:J0A) (ih:KT) (r:Option R):Option CS:=match r with
 | some ⟨v,oa',k'⟩=>match Q5x e oa' held with
   | true=>fL (List.append ob oa') fun o'=>X5V d v e fun e=>ih e o' k'
   | false=>none
 | none=>none
noncomputable def X8F (call:J2N) (pend:List Nat) (held:List (Option Nat×Nat×Nat)) (op:SOp) (d:Option Nat) (ih:KT) (e:J1e) (o:J0A) (k:Nat) (g:Option Bool):Option CS:=match g with
 | some true=>Q0y e pend o [] fun oa ob=>effR held d e ob ih (cop call false op e oa k)
 | some false=>X5V d .unit e fun e=>ih e o k
 | none=>none
noncomputable def Y2J (call:J2N) (di:DI) (ih:KT):KT:=match di with
 | .op _ si=>fun e o k=>X1B call si.op si.dst ih e o k (J4m si.guard e)
 | .eff _ pend held si=>fun e o k=>X8F call pend held si.op si.dst ih e o k (J4m si.guard e)
noncomputable def X1U (call:J2N) (l:List DI):KT:=@List.rec DI (fun _=>KT) (fun e o k=>some ⟨e,o,k⟩) (fun di _ ih=>Y2J call di ih) l
theorem Q1j {g:Option (Nat×Bool)} {e:J1e} {A B:Prop}:(∀b,J4m g e=some b->(match b with|true=>A|false=>B))->J4m g e≠none->J5Z (J25 e) g A B:=by
 intro h hne;cases g with
 | none=>exact h true rfl
 | some p =>
   obtain⟨t,want⟩:=p;simp only[J4m] at h hne;simp only[J5Z];cases hl:lk e t with
   | none=>rw[hl] at hne;exact(hne rfl).elim
   | some c =>
     rw[hl] at h hne;rw[J1X hl];cases c with
     | bool b =>
       simp only[C.v] at h hne ⊢;cases hx:Bool.xor b want with
       | false=>rw[hx] at h;exact h true rfl
       | true=>rw[hx] at h;exact h false rfl
     | unit=>simp only[C.v] at h ⊢;exact h false rfl
     | _=>exact(hne rfl).elim
theorem J2y {P:Program} {call:J2N} (hcall:J8Y P call):∀(l:List DI) (e:J1e) (o:J0A) (k:Nat) (s:CS) (K:Env->Own->List Nat->Prop),X1U call l e o k=some s->K (J25 s.e) (J0L s.o) (ksV s.k)->J1D P l (J25 e) (J0L o) (ksV k) K
 | [],e,o,k,s,K,h,hK=>by
   have h:some (CS.mk e o k)=some s:=h;cases h;simpa[J1D] using hK
 | .op ix ⟨d,op,g⟩::r,e,o,k,s,K,h,hK=>by
   have h:X1B call op d (X1U call r) e o k (J4m g e)=some s:=h;simp only[J1D];refine Q1j (fun b hb=>?_) (fun hb=>by rw[hb] at h;cases h);rw[hb] at h;cases b with
   | true =>
     simp only[X1B] at h ⊢;unfold X6C at h;split at h
     . rename_i v o' k' hc;have fin:=Q8U hcall (b:=false) (K:=fun v own ks=>match (generalizing:=false) d with
        | some t=>J1D P r ((t,v)::J25 e) own ks K
        | none=>J1D P r (J25 e) own ks K) hc ?_
       . exact fin
       . cases d with
         | some t=>exact J2y hcall r _ _ _ s K h hK
         | none=>exact J2y hcall r _ _ _ s K h hK
     . cases h
   | false =>
     simp only[X1B] at h ⊢;cases d with
     | some t =>
       have:=J2y hcall r _ _ _ s K h hK;simpa[J25,C.v] using this
     | none=>exact J2y hcall r _ _ _ s K h hK
 | .eff ix pend held ⟨d,op,g⟩::r,e,o,k,s,K,h,hK=>by
   have h:X8F call pend held op d (X1U call r) e o k (J4m g e)=some s:=h;simp only[J1D];refine Q1j (fun b hb=>?_) (fun hb=>by rw[hb] at h;cases h);rw[hb] at h;cases b with
   | true =>
     simp only[X8F] at h ⊢;obtain⟨oa,ob,h,c1⟩:=J6N h;refine c1 _ ?_;unfold effR at h;split at h
     . rename_i v oa' k' hc;have fin:=Q8U hcall (b:=false) (K:=fun v ownA' ks=>J75 (J25 e) ownA' (X5H (J0L ob) ownA' fun own=>match (generalizing:=false) d with
        | some t=>J1D P r ((t,v)::J25 e) own ks K
        | none=>J1D P r (J25 e) own ks K) held) hc ?_
       . exact fin
       split at h
       . rename_i hh;rw[J5b] at h;refine J9E ?_ hh;refine Q9t _ _ _ ?_;have e2:J0L ob++J0L oa'=J0L (ob.append oa'):=by simp[J0L]
         rw[e2];cases d with
         | some t=>exact J2y hcall r _ _ _ s K h hK
         | none=>exact J2y hcall r _ _ _ s K h hK
       . cases h
     . cases h
   | false =>
     simp only[X8F] at h ⊢;cases d with
     | some t =>
       have:=J2y hcall r _ _ _ s K h hK;simpa[J25,C.v] using this
     | none=>exact J2y hcall r _ _ _ s K h hK
theorem Q68 {w:World} {σ:Sg} {own own':Own} (h:own'.Sublist own) {n:Nat} (ho:J0v w σ own' n):J0v w σ own n:=by
 obtain⟨k,b,hm,hh⟩:=ho;exact⟨k,b,h.subset hm,hh⟩
theorem X1f {M:Nat->Prop} {w:World} {σ:Sg} {own own':Own} {ks:List Nat} (h:own'.Sublist own) (hh:J0S M w σ own ks):J0S M w σ own' ks :=
 ⟨⟨fun k b hm=>hh.own.blk k b (h.subset hm),(h.map _).nodup hh.own.nodup,fun k b k' b' n m1 m2=>hh.own.apart k b k' b' n (h.subset m1) (h.subset m2)⟩,hh.fresh,hh.knodup⟩
theorem Q9f {P:Program} {f:FuncId} {args:List V} {own own1 own2:Own} {ks ks':List Nat} {v:V} {K:V->Own->List Nat->Prop} (hs:own2.Sublist own1)
 (h:J0G P f args own ks fun v' o' k'=>v'=v/\o'=own1/\k'=ks') (hK:K v own2 ks'):J0G P f args own ks K :=
 ⟨fun M w σ us h1 h2 h3=>(h.out M w σ us h1 h2 h3).mono fun _ _ ⟨M',σ',v',o,k,u,a,b,c,d,d',e⟩=>by
   obtain⟨rfl,rfl,rfl⟩:=e;exact⟨M',σ',v',own2,k,u,a,b,X1f hs c,⟨d.adv,fun b hb=>d.new b (Q68 hs hb),d.le⟩,⟨d'.1,d'.2.1,fun k hk=>d'.2.2 k ((hs.map _).subset hk)⟩,hK⟩⟩
structure J5H (P:Program) (N:Nat) (bk:BK) (b:SC) (env:Env) (own:Own) (ks:List Nat) (K:Out->Prop):Prop where
 out:∀r σb,RIn bk.r r σb->∀c,J0V P N c=some b->∀B M w σ a,(∀k,k∈bk.ks->σb k=none)->σb.le σ->Sim N B M w σ ⟨env,own,ks⟩ a ->
  ∀(fb:Frame) (k:List Item) (cs:List Frame),fb.roundOf=(FR r).round->(FR r).fn fb.fn->(FR r).room (cs.length+1+0) ->
   ∃e a' w',XP N B σb M w σ own ks K e a' w'/\ArrivesIn (Machine.fenced P (FR r)) P (lone (fb.atR a (.code c::.inLoop c::k)) cs w) fb k cs e a' w'
theorem J5H.toI {P:Program} {N:Nat} {bk:BK} {b:SC} {env:Env} {own:Own} {ks:List Nat} {K:Out->Prop} (h:J5H P N bk b env own ks K):J95 P N bk b env own ks K:=by
 constructor;intro r σb hr c hc B M w σ a hbk hle0 sim fb k cs hro hbf hroom;obtain⟨e,a',w',hx,harr⟩:=h.out r σb hr c hc B M w σ a hbk hle0 sim fb k cs hro hbf hroom;exact⟨e,a',w',hx,.of_steps (.one (fenced_calm hbf hroom rfl) stepR_loop) harr⟩
def Y0W (P:Program) (N:Nat) (bk:BK) (b:SC) (K:Out->Prop) (o:Out):Prop :=
 match o with
 | .normal st=>J5H P N bk b st.env st.own st.ks K
 | .exit id st=>K (.exit id st)
 | .ret st=>K (.ret st)
theorem J5H.step {P:Program} (hm:P.follows .mixedOrders=true) {N:Nat} {bk:BK} {b:SC} {env:Env} {own:Own} {ks:List Nat} {K:Out->Prop} (h:vc P N bk b env own ks (Y0W P N bk b K)):J5H P N bk b env own ks K:=by
 constructor;intro r σb hr c hc B M w σ a hbk hle sim fb k cs hro hbf hroom;have hb:=J3r hm hbk r hr c _ _ env own ks M w σ a hc h sim hle;obtain⟨e,a₂,w₂,hq,harr⟩:=hb fb (.inLoop c::k) cs hro hbf hroom;obtain⟨M₂,σ₂,⟨env₂,own₂,ks₂⟩,s2,t2,q2,l2,k2⟩:=hq;cases e with
 | normal =>
   have k2:J5H P N bk b env₂ own₂ ks₂ K:=k2;obtain⟨e',a',w',hx,harr'⟩:=k2.out r σb hr c hc B M₂ w₂ σ₂ a₂ hbk l2 s2 fb k cs hro hbf hroom;exact⟨e',a',w',XP.tr t2 q2 hx,.of_steps (StepsIn.trans harr (.one (fenced_calm hbf hroom rfl) stepR_inLoop)) harr'⟩
 | exit id=>exact⟨_,a₂,w₂,⟨M₂,σ₂,_,s2,t2,q2,l2,k2⟩,.pass (x:=.inLoop c) rfl (fun _ _=>.inl (by simp)) harr⟩
 | ret=>exact⟨_,a₂,w₂,⟨M₂,σ₂,_,s2,t2,q2,l2,k2⟩,.pass (x:=.inLoop c) rfl (fun _ _=>.inl (by simp)) harr⟩
 | goto l=>exact k2.elim
 | panic ch=>exact k2.elim
 | outgrown=>exact k2.elim
theorem J5H.weak {P:Program} {N:Nat} {bk:BK} {b:SC} {env env':Env} {own:Own} {ks:List Nat} {K:Out->Prop} (he:∀t v,look env' t=some v->look env t=some v) (h:J5H P N bk b env' own ks K):J5H P N bk b env own ks K:=by
 constructor;intro r σb hr c hc B M w σ a hbk hle sim fb k cs hro hbf hroom;exact h.out r σb hr c hc B M w σ a hbk hle ⟨fun t v hv=>sim.env t v (he t v hv),sim.heap,sim.size,sim.defers⟩ fb k cs hro hbf hroom
noncomputable def mN (n:Nat) (l:List Nat):Bool:=@List.rec Nat (fun _=>Bool) false (fun x _ ih=>@Bool.rec (fun _=>Bool) ih true (Nat.beq x n)) l
theorem X68 (n:Nat):∀(l:List Nat),mN n l=J06 n l
 | []=>rfl
 | x::r=>by
   show @Bool.rec (fun _=>Bool) (mN n r) true (Nat.beq x n)=_;rw[X68 n r]
   conv=>rhs;unfold J06
   cases Nat.beq x n<;>rfl
noncomputable def prn (l:J1e):List Nat->J1e:=@List.rec (Nat×C) (fun _=>List Nat->J1e) (fun _=>[]) (fun p _ ih seen=>@Bool.rec (fun _=>J1e) (p::ih (p.1::seen)) (ih seen) (mN p.1 seen)) l
theorem X0K (p:Nat×C) (l:J1e) (seen:List Nat):prn (p::l) seen=match J06 p.1 seen with|true=>prn l seen|false=>p::prn l (p.1::seen):=by
 show @Bool.rec (fun _=>J1e) (p::prn l (p.1::seen)) (prn l seen) (mN p.1 seen)=_;rw[X68];cases J06 p.1 seen<;>rfl
theorem J9p:∀(l:J1e) (seen:List Nat) (t:Nat),(t∈seen->look (prn l seen) t=none)/\∀v,look (prn l seen) t=some v->look l t=some v
 | [],seen,t=>⟨fun _=>rfl,fun v h=>h⟩
 | (q,c)::l,seen,t=>by
   rw[X0K];cases hm:J06 q seen with
   | true =>
     obtain⟨a,b⟩:=J9p l seen t;simp only;refine⟨a,fun v h=>?_⟩;have hne:q≠t:=fun e=>by
      subst e;rw[a (J0m.1 hm)] at h;cases h
     rw[J0l hne];exact b v h
   | false =>
     simp only;by_cases e:q=t
     . subst e;rw[J0n rfl,J0n rfl];refine⟨fun h=>?_,fun v h=>h⟩;rw[J0m.2 h] at hm;cases hm
     . rw[J0l e,J0l e];obtain⟨a,b⟩:=J9p l (q::seen) t;exact⟨fun h=>a (List.mem_cons_of_mem _ h),b⟩
inductive CO where
 | normal (s:CS)
 | exit (id:Nat) (s:CS)
 | ret (s:CS)
def CO.out:CO->Out
 | .normal s=>.normal s.st
 | .exit id s=>.exit id s.st
 | .ret s=>.ret s.st
abbrev ET:=J1e->J0A->Nat->Option CO
noncomputable def Y2H (a b:ET):ET:=fun e o k=>match a e o k with
 | some (.normal ⟨e,o,k⟩)=>b e o k
 | some (.exit id s)=>some (.exit id s)
 | some (.ret s)=>some (.ret s)
 | none=>none
noncomputable def X45 (c:X) (a b:ET):ET:=fun e o k=>match gx c e with
 | some (.bool true)=>a e o k
 | some (.bool false)=>b e o k
 | _=>none
noncomputable def Q8H (id:Nat) (b:ET):ET:=fun e o k=>match b e o k with
 | some (.exit id' s)=>match Nat.beq id' id with|true=>some (.normal s)|false=>some (.exit id' s)
 | some (.normal s)=>some (.normal s)
 | some (.ret s)=>some (.ret s)
 | none=>none
noncomputable def X1y (fuel:Nat) (b:ET):ET:=@Nat.rec (fun _=>ET) (fun _ _ _=>none) (fun _ ih e o k=>fL (prn e []) fun e=>match b e o k with
 | some (.normal ⟨e,o,k⟩)=>ih e o k
 | some (.exit id s)=>some (.exit id s)
 | some (.ret s)=>some (.ret s)
 | none=>none) fuel
noncomputable def Y2I (call:J2N) (l:List SI):ET:=fun e o k=>match X7Q call l e o k with|some s=>some (.normal s)|none=>none
noncomputable def X44 (call:J2N) (l:List DI):ET:=fun e o k=>match X1U call l e o k with|some s=>some (.normal s)|none=>none
noncomputable def evC (call:J2N) (fuel:Nat) (sc:SC):ET :=
 @SC.rec (fun _=>ET) (fun e o k=>some (.normal ⟨e,o,k⟩)) (Y2I call) (X44 call) (fun _ _ a b=>Y2H a b) (fun c _ _ a b=>X45 c a b) (fun id _ b=>Q8H id b) (fun _ b=>X1y fuel b)
  (fun id e o k=>some (.exit id ⟨e,o,k⟩)) (fun e o k=>some (.ret ⟨e,o,k⟩)) (fun _ _ _ _ _ _ _ _ _=>none) sc
theorem X7B {P:Program} (hm:P.follows .mixedOrders=true) {N:Nat} {bk:BK} {call:J2N} (hcall:J8Y P call) {fuel:Nat}:∀(sc:SC) (e:J1e) (o:J0A) (k:Nat) (out:CO) (K:Out->Prop),
 evC call fuel sc e o k=some out->K out.out->vc P N bk sc (J25 e) (J0L o) (ksV k) K:=by
 intro sc
 induction sc with
 | skip=>intro e o k out K h hK;have h:some (CO.normal ⟨e,o,k⟩)=some out:=h;cases h;simp only[vc];exact hK
 | ops l =>
   intro e o k out K h hK;have h:Y2I call l e o k=some out:=h;unfold Y2I at h;split at h
   . rename_i s hs;cases h;simp only[vc];exact J7B hcall l e o k s _ hs hK
   . cases h
 | draw l =>
   intro e o k out K h hK;have h:X44 call l e o k=some out:=h;unfold X44 at h;split at h
   . rename_i s hs;cases h;simp only[vc];exact J2y hcall l e o k s _ hs hK
   . cases h
 | seq a b iha ihb =>
   intro e o k out K h hK;have h:Y2H (evC call fuel a) (evC call fuel b) e o k=some out:=h;unfold Y2H at h;simp only[vc];split at h
   . rename_i e' o' k' ha;exact iha e o k _ _ ha (ihb e' o' k' out K h hK)
   . rename_i ha;cases h;exact iha e o k _ _ ha hK
   . rename_i ha;cases h;exact iha e o k _ _ ha hK
   . cases h
 | cond c a b iha ihb =>
   intro e o k out K h hK;have h:X45 c (evC call fuel a) (evC call fuel b) e o k=some out:=h;unfold X45 at h;simp only[vc];split at h
   . rename_i hc;refine J0B hc ?_;simp only[C.v];exact iha e o k out K h hK
   . rename_i hc;refine J0B hc ?_;simp only[C.v];exact ihb e o k out K h hK
   . cases h
 | block id b ih =>
   intro e o k out K h hK;have h:Q8H id (evC call fuel b) e o k=some out:=h;unfold Q8H at h;simp only[vc];split at h
   . rename_i id' s hb;refine ih e o k _ _ hb ?_;simp only[CO.out];cases hx:Nat.beq id' id with
     | true=>rw[hx] at h;cases h;exact hK
     | false=>rw[hx] at h;cases h;exact hK
   . rename_i hb;cases h;exact ih e o k _ _ hb hK
   . rename_i hb;cases h;exact ih e o k _ _ hb hK
   . cases h
 | loop b ih =>
   intro e o k out K h hK;have h:X1y fuel (evC call fuel b) e o k=some out:=h;simp only[vc];refine J5H.toI ?_;have key:∀(n:Nat) (e:J1e) (o:J0A) (k:Nat),X1y n (evC call fuel b) e o k=some out->J5H P N bk b (J25 e) (J0L o) (ksV k) K:=by
    intro n
    induction n with
    | zero=>intro e o k h;cases h
    | succ n ihn =>
      intro e o k h;have h:(fL (prn e []) fun e=>match evC call fuel b e o k with
       | some (.normal ⟨e,o,k⟩)=>X1y n (evC call fuel b) e o k
       | some (.exit id s)=>some (.exit id s)
       | some (.ret s)=>some (.ret s)
       | none=>none)=some out:=h
      rw[J5b] at h;refine J5H.weak (env':=J25 (prn e [])) (fun t v hv=>?_) (J5H.step hm ?_)
      . rw[J25,J2w] at hv ⊢;cases hl:look (prn e []) t with
        | none=>rw[hl] at hv;cases hv
        | some c=>rw[hl] at hv;rw[(J9p e [] t).2 c hl];exact hv
      . split at h
        . rename_i e' o' k' hb;exact ih _ _ _ _ _ hb (ihn e' o' k' h)
        . rename_i hb;cases h;exact ih _ _ _ _ _ hb hK
        . rename_i hb;cases h;exact ih _ _ _ _ _ hb hK
        . cases h
   exact key fuel e o k h
 | exit id=>intro e o k out K h hK;have h:some (CO.exit id ⟨e,o,k⟩)=some out:=h;cases h;simp only[vc];exact hK
 | ret=>intro e o k out K h hK;have h:some (CO.ret ⟨e,o,k⟩)=some out:=h;cases h;simp only[vc];exact hK
 | rf g ps a b _ _=>intro e o k out K h hK;cases h
noncomputable def X5d (e:J1e) (o:J0A):List RV->Option (List C)
 | []=>some []
 | .tmp t::r=>match lk e t with
   | some v=>match X5d e o r with|some l=>some (v::l)|none=>none
   | none=>none
 | .cell a z::r=>match lk e a with
   | some p=>match J8O o z p with
     | some v=>match X5d e o r with|some l=>some (v::l)|none=>none
     | none=>none
   | none=>none
theorem Q2N {e:J1e} {o:J0A}:∀{rs:List RV} {l:List C} {K:List V->Prop},X5d e o rs=some l->K (C.vs l)->J99 (J25 e) (J0L o) rs K
 | [],l,K,h,hK=>by simp only[X5d,Option.some.injEq] at h;subst h;simpa[J99,C.vs] using hK
 | .tmp t::r,l,K,h,hK=>by
   simp only[X5d] at h;split at h
   . rename_i v hv;split at h
     . rename_i l' hl;cases h;simp only[J99,J1X hv];exact Q2N hl (by simpa[C.vs] using hK)
     . cases h
   . cases h
 | .cell a z::r,l,K,h,hK=>by
   simp only[X5d] at h;split at h
   . rename_i p hp;split at h
     . rename_i v hv;split at h
       . rename_i l' hl;cases h;simp only[J99,J1X hp];exact J7D hv (Q2N hl (by simpa[C.vs] using hK))
       . cases h
     . cases h
   . cases h
def X7N:List C->C
 | [v]=>v
 | vs=>.tup vs
theorem X5a {l:List C} {K:V->Prop} (hK:K (X7N l).v):Q43 (C.vs l) K:=by
 match l with
 | [v]=>simpa[Q43,C.vs,X7N] using hK
 | []=>simpa[Q43,C.vs,X7N,C.v] using hK
 | a::b::r=>simpa[Q43,C.vs,X7N,C.v] using hK
noncomputable def X8H (rs:List RV) (s:CS):Option R:=match X5d s.e s.o rs with
 | some l=>some ⟨X7N l,s.o,s.k⟩
 | none=>none
noncomputable def Y2L (rs:List RV) (o:CO):Option R:=match o with
 | .normal s=>X8H rs s
 | .ret s=>X8H rs s
 | .exit _ _=>none
def X8D:Nat->List C->J1e
 | _,[]=>[]
 | i,v::r=>(i,v)::X8D (i+1) r
theorem Q8z:∀(i:Nat) (l:List C),J25 (X8D i l)=J7y i (C.vs l)
 | i,[]=>rfl
 | i,v::r=>by simp only[X8D,C.vs,J7y,<- Q8z (i+1) r];rfl
def X8v (c:C) (r:List Nat):List Nat:=match c with
 | .loc k _=>k::r
 | .oel k _ _ _=>k::r
 | .vec k _ _ _=>k::r
 | .map k=>k::r
 | _=>r
noncomputable def X1b (l:List C):List Nat->List Nat:=@List.rec C (fun _=>List Nat->List Nat) (fun r=>r) (fun c _ ih r=>X8v c (ih r)) l
noncomputable def X7d (c:C) (r:List Nat):List Nat:=match c with
 | .agg cs=>X1b cs r
 | .tup cs=>@List.rec C (fun _=>List Nat) r (fun c _ ih=>match c with | .agg cs=>X1b cs ih | .fn _ _ cs=>X1b cs ih|c=>X8v c ih) cs
 | .fn _ _ cs=>X1b cs r
 | .iface _ v=>X8v v r
 | c=>X8v c r
noncomputable def X7e (b:CB) (r:List Nat):List Nat:=match b with
 | .cells cs=>@List.rec C (fun _=>List Nat) r (fun c _ ih=>X7d c ih) cs
 | _=>r
noncomputable def Y0L (n:Nat) (own:J0A) (fuel:Nat):List Nat->List Nat->List Nat :=
 @Nat.rec (fun _=>List Nat->List Nat->List Nat) (fun _ seen=>seen) (fun _ ih work seen=>match work with
  | []=>seen
  | k::r=>match Nat.blt k n with
    | true=>ih r seen
    | false=>match mN k seen with
      | true=>ih r seen
      | false=>match lk own k with
        | some b=>ih (X7e b r) (k::seen)
        | none=>ih r seen) fuel
noncomputable def Y0I (n:Nat) (own:J0A) (r:List Nat):List Nat:=@List.rec (Nat×CB) (fun _=>List Nat) r (fun p _ ih=>match Nat.blt p.1 n with|true=>X7e p.2 ih|false=>ih) own
noncomputable def gcO (n:Nat) (seen:List Nat) (l:J0A):(J0A->R)->R :=
 @List.rec (Nat×CB) (fun _=>(J0A->R)->R) (fun K=>K []) (fun p _ ih K=>match Nat.blt p.1 n with
  | true=>ih (fun r=>K (p::r))
  | false=>match mN p.1 seen with
    | true=>ih (fun r=>K (p::r))
    | false=>ih K) l
theorem J9F (n:Nat) (seen:List Nat):∀(l:J0A) (K:J0A->R) (P:R->Prop),(∀q,q.Sublist l->P (K q))->P (gcO n seen l K)
 | [],K,P,h=>h [] (List.Sublist.refl _)
 | p::l,K,P,h=>by
   have e:gcO n seen (p::l) K=match Nat.blt p.1 n with
    | true=>gcO n seen l (fun r=>K (p::r))
    | false=>match mN p.1 seen with
      | true=>gcO n seen l (fun r=>K (p::r))
      | false=>gcO n seen l K:=rfl
   rw[e];split
   . exact J9F n seen l _ P (fun q hq=>h _ (hq.cons_cons p))
   . split
     . exact J9F n seen l _ P (fun q hq=>h _ (hq.cons_cons p))
     . exact J9F n seen l K P (fun q hq=>h q (hq.cons p))
def newB (n:Nat) (k:Nat):Bool:=Nat.blt n k
noncomputable def gcR (n:Nat) (r:R):R:=match newB n r.k with
 | true=>fL (Y0L n r.o 1000 (X7d r.v (Y0I n r.o [])) []) fun seen=>gcO n seen r.o fun o=>⟨r.v,o,r.k⟩
 | false=>r
theorem X7v (n:Nat) (r:R):(gcR n r).v=r.v/\(gcR n r).k=r.k/\(gcR n r).o.Sublist r.o:=by
 unfold gcR;split
 . rw[J5b];exact J9F n _ r.o _ (fun q=>q.v=r.v/\q.k=r.k/\q.o.Sublist r.o) (fun q hq=>⟨rfl,rfl,hq⟩)
 . exact⟨rfl,rfl,List.Sublist.refl _⟩
theorem X0O {a b:J0A} (h:a.Sublist b):(J0L a).Sublist (J0L b):=h.map _
noncomputable def Q5E (own:J0A):List C->Option (List C)
 | []=>some []
 | v::r=>match X7X own v with
   | some c=>match Q5E own r with
     | some l=>some (c::l)
     | none=>none
   | none=>none
theorem J9W {own:J0A}:∀{l cs:List C} {K:List V->Prop},Q5E own l=some cs->K (C.vs cs)->X15 (J0L own) (C.vs l) K
 | [],cs,K,h,hK=>by simp only[Q5E,Option.some.injEq] at h;subst h;simpa[C.vs,X15] using hK
 | v::r,cs,K,h,hK=>by
   unfold Q5E at h;split at h
   . rename_i c hc;split at h
     . rename_i l hl;cases h;simp only[C.vs,X15];exact Q2W hc (J9W hl (by simpa[C.vs] using hK))
     . cases h
   . cases h
noncomputable def kfC:C->Bool
 | .agg cs=>J8W Q5S cs
 | .tup cs=>J8W Q5S cs
 | .iface _ v=>Q5S v
 | .fn _ _ cap=>J8W Q5S cap
 | v=>Q5S v
theorem X7c (c:C):c.v.kf=kfC c:=by
 cases c<;>simp[C.v,V.kf,kfC,J26 J7e,J7e]<;>simp[Q5S,V.kf1,Q9M]
def J8F:C->Bool
 | .bool _ | .int _ _ | .str _ _ | .nilptr | .nilslice | .nilmap | .nilfunc | .niliface | .unit=>true
 | _=>false
theorem Q8w (c:C):c.v.flat1=J8F c:=by cases c<;>simp[C.v,V.flat1,J8F]
noncomputable def X4V:C->Bool
 | .agg cs=>J8W J8F cs
 | .tup cs=>J8W J8F cs
 | v=>J8F v
theorem X1o (c:C):c.v.flat=X4V c:=by
 cases c<;>simp[C.v,V.flat,X4V,J26 Q8w]<;>simp[V.flat1,J8F]
theorem LLe.self:∀(l:List V),LLe l l
 | []=>trivial
 | _::r=>⟨.rfl,LLe.self r⟩
inductive J79 where
 | code (sc:SC) (n:Nat) (rs:List RV)
 | ext (g:List C->Option C)
 | catch_
def Q9H (P:Program) (f:FuncId):J79->Prop
 | .code sc n rs=>J08 P f=true/\∃fn c,P.funcs[f]?=some fn/\fn.body=some c/\fn.ntmps=n/\J0V P n c=some sc/\Q2Y P fn.results.toList=some rs
 | .ext g=>J08 P f=true/\∀args v,g args=some v->Ret P f (C.vs args) v.v
 | .catch_=>J08 P f=true/\∀(g:FuncId) (bd:Bool) (cap:List V) (own:Own) (ks:List Nat) (K:V->Own->List Nat->Prop),J08 P g=true->J0G P g cap own ks (fun _ o k=>K (.tup [.int .i64 0,.int .i64 0]) o k)->J0G P f [.fn (.func g) bd cap] own ks K
def Q1Q (P:Program):List (Nat×J79)->Prop
 | []=>True
 | (f,d)::r=>Q9H P f d/\Q1Q P r
theorem Q1Q.look {P:Program}:∀{t:List (Nat×J79)} {f:Nat} {d:J79},Q1Q P t->lk t f=some d->Q9H P f d
 | [],f,d,_,h=>by cases h
 | (q,x)::r,f,d,ht,h=>by
   rw[J73] at h;unfold Go.Eng.look at h;split at h
   . rename_i hb;have:=Nat.eq_of_beq_eq_true hb;subst this;cases h;exact ht.1
   . rw[<- J73] at h;exact Q1Q.look ht.2 h
noncomputable def evG (tb:List (Nat×J79)) (lf:Nat) (ih:J2N) (f:FuncId) (args:List C) (own:J0A) (ks:Nat):Option R :=
 match lk tb f with
  | some (.code sc n rs)=>match Nat.ble (ln args) n with
    | true=>match evC ih lf sc (X8D 0 args) own ks with
      | some out=>match Y2L rs out with
        | some r=>some (gcR ks r)
        | none=>none
      | none=>none
    | false=>none
  | some (.ext g)=>match J8W kfC args with
    | true=>match g args with
      | some v=>some ⟨v,own,ks⟩
      | none=>none
    | false=>match Q5E own args with
      | some args'=>match g args' with
        | some v=>match X4V v with
          | true=>some ⟨v,own,ks⟩
          | false=>none
        | none=>none
      | none=>none
  | some .catch_=>match args with
    | [.fn (.func g) _ cap]=>match ih g cap own ks with
      | some ⟨_,o,k⟩=>some ⟨.tup [.int .i64 0,.int .i64 0],o,k⟩
      | none=>none
    | _=>none
  | none=>none
noncomputable def evF (tb:List (Nat×J79)) (lf:Nat) (fuel:Nat):J2N:=@Nat.rec (fun _=>J2N) (fun _ _ _ _=>none) (fun _ ih=>evG tb lf ih) fuel
theorem X20 {P:Program} (hm:P.follows .mixedOrders=true) {tb:List (Nat×J79)} (ht:Q1Q P tb) {lf:Nat}:∀(fuel:Nat),J8Y P (evF tb lf fuel)
 | 0=>⟨fun f args own ks r h=>by cases h⟩
 | fuel+1=>⟨fun f args own ks r h=>by
   have ih:=X20 hm ht (lf:=lf) fuel;have h:evG tb lf (evF tb lf fuel) f args own ks=some r:=h;unfold evG at h;split at h
   . rename_i sc n rs hl;obtain⟨hcb,fn,c,hf,hb,hn,hc,hr⟩:=ht.look hl;subst hn;split at h
     . rename_i hle;split at h
       . rename_i out hout;split at h
         . rename_i r' hret;cases h;refine⟨hcb,fun K hK=>?_⟩;obtain⟨g1,g2,g3⟩:=X7v ks r';rw[g1,g2] at hK;refine Q9f (X0O g3) ?_ hK;refine Q1J hm hf hb hc hr ?_ ?_
           . rw[C.vs_length];rw[X04] at hle;exact Nat.le_of_ble_eq_true hle
           . rw[<- Q8z];have fin:∀s,X8H rs s=some r'->J99 (J25 s.e) (J0L s.o) rs fun vs=>Q43 vs fun v=>v=r'.v.v/\J0L s.o=J0L r'.o/\ksV s.k=ksV r'.k:=by
              intro s hs;unfold X8H at hs;split at hs
              . rename_i l hl';cases hs;exact Q2N hl' (X5a ⟨rfl,rfl,rfl⟩)
              . cases hs
             refine X7B hm ih sc _ own ks out _ hout ?_;cases out with
             | normal s=>exact fin s hret
             | ret s=>exact fin s hret
             | exit id s=>cases hret
         . cases h
       . cases h
     . cases h
   . rename_i g hl;obtain⟨hcb,hg⟩:=ht.look hl;split at h
     . split at h
       . rename_i v hv;cases h;refine⟨hcb,fun K hK=>(hg args v hv (J0L own) (ksV ks)).mono ?_⟩;rintro v' o' k' ⟨rfl,rfl,rfl⟩;exact hK
       . cases h
     . split at h
       . rename_i args' ha;split at h
         . rename_i v hv;split at h
           . rename_i hf;cases h;exact⟨hcb,fun K hK=>J0Q (hg args' v hv) (by rw[X1o];exact hf) (J9W ha (LLe.self _)) hK⟩
           . cases h
         . cases h
       . cases h
   . rename_i hl;obtain⟨hcb,hg⟩:=ht.look hl;split at h
     . rename_i g bd cap _;split at h
       . rename_i v o k hi;cases h;obtain⟨a1,a2⟩:=ih.out _ _ _ _ _ hi;refine⟨hcb,fun K hK=>?_⟩;have:=hg g bd (C.vs cap) (J0L own) (ksV ks) K a1 (a2 (fun _ o k=>K (.tup [.int .i64 0,.int .i64 0]) o k) (by simpa[C.v,C.vs] using hK));simpa[C.vs,C.v] using this
       . cases h
     . cases h
   . cases h⟩
noncomputable def Y2Q (r:R):Option C:=match r.v with
 | .tup cs=>match Q5E r.o cs with
   | some l=>some (.tup l)
   | none=>none
 | v=>X7X r.o v
theorem X5l {r:R} {c:C} {K:V->Prop} (h:Y2Q r=some c) (hK:K c.v):Q4j (J0L r.o) r.v.v K:=by
 obtain⟨v,o,k⟩:=r;unfold Y2Q at h;simp only at h ⊢;split at h
 . split at h
   . rename_i l hl;cases h;simp only[C.v,Q4j];exact J9W hl (by simpa[C.v] using hK)
   . cases h
 . rename_i hne;have hb:=Q2W h hK;cases v<;>first
    | exact(hne _ rfl).elim
    | (simp only[C.v] at hb ⊢;simp only[Q4j];exact hb)
noncomputable def evX (tb:List (Nat×J79)) (lf fuel:Nat) (f:FuncId) (args:List C):Option C:=match J8W kfC args with
 | true=>match evF tb lf fuel f args [] 0 with
   | some r=>Y2Q r
   | none=>none
 | false=>none
theorem J7w {P:Program} (hm:P.follows .mixedOrders=true) {tb:List (Nat×J79)} (ht:Q1Q P tb) {lf fuel:Nat} {f:FuncId} {args:List C} {c:C} (h:evX tb lf fuel f args=some c):Ret P f (C.vs args) c.v:=by
 unfold evX at h;split at h
 case h_2=>cases h
 rename_i hk;have hk:J2O V.kf (C.vs args)=true:=by rw[J26 X7c];exact hk
 split at h
 case h_2=>cases h
 rename_i r hr;have hc:=((X20 hm ht (lf:=lf) fuel).out _ _ _ _ _ hr).2 (fun v own' _=>Q4j own' v fun v'=>v'=c.v) (X5l h rfl);intro own ks;constructor;intro M w σ us hlen hd hh;refine(hc.out M w Sg.none us hlen (fun i v u hv hu=>(hd i v u hv hu).kf (J0t hk v (List.mem_of_getElem? hv)) Sg.none) (J2l (ksV 0) List.nodup_range')).mono ?_;rintro e w' ⟨M',σ',v,own',ks',u,rfl,hv,hh',tr,_,hfr⟩;obtain⟨v',hK,hv'⟩:=J3j hfr;subst hK;have hM:∀b,b<w.heap.size->(J4H M' w' σ' own' b↔M b):=by
  intro b hb;have hno:¬ J0v w' σ' own' b:=fun ho=>by
   rcases tr.new b ho with h1|h1
   . exact J0C h1
   . omega
  constructor
  . intro h1;exact(tr.adv.muts b hb J0C).1 h1.1
  . intro h1;exact⟨(tr.adv.muts b hb J0C).2 h1,hno⟩
 have hfr:=J2E (M'':=J4H M' w' σ' own') hh tr hM;exact⟨_,σ,c.v,own,ks,u,rfl,(hv' M' w' σ' u hh'.own hv).mono (Ext.mk (fun _ _ h=>⟨h,rfl⟩) (Nat.le_refl _)) (Sg.none_le σ),hfr.1,hfr.2,Kd.refl _ _ _,rfl,rfl,rfl⟩
theorem J7v {P:Program} {f:FuncId} {fn:Func} {c:Code} {sc:SC} {n:Nat} {rs:List RV} (hf:P.funcs[f]?=some fn) (hb:fn.body=some c) (hn:fn.ntmps=n) (hnm:(fn.name == "runtime.NumGoroutine")=false)
 (hc:J0V P fn.ntmps c=some sc) (hr:Q2Y P fn.results.toList=some rs):Q9H P f (.code sc n rs):=by
 subst hn;exact⟨by simp[J08,hf,hb,hnm],fn,c,hf,hb,rfl,hc,hr⟩
noncomputable def Q7y (l:List (List C×C)) (args:List C):Option C:=@List.rec (List C×C) (fun _=>Option C) none (fun p _ ih=>match J7N args p.1 with|true=>some p.2|false=>ih) l
theorem Q2H {P:Program} {f:FuncId} (hf:J08 P f=true) (l:List (List C×C)) (h:∀p,p∈l->Ret P f (C.vs p.1) p.2.v):Q9H P f (.ext (Q7y l)):=by
 refine⟨hf,fun args v hv=>?_⟩
 induction l with
 | nil=>cases hv
 | cons p r ih =>
   have hv:(match J7N args p.1 with|true=>some p.2|false=>Q7y r args)=some v:=hv;split at hv
   . rename_i hb;cases hv;rw[J4h _ _ hb];exact h p (by simp)
   . exact ih (fun q hq=>h q (by simp[hq])) hv
theorem Q3Y {P:Program} {f:FuncId} {a:List C} {c:C} (h:Ret P f (C.vs a) c.v):∀p,p∈[(a,c)]->Ret P f (C.vs p.1) p.2.v:=by
 intro p hp;simp only[List.mem_singleton] at hp;subst hp;exact h
def X8K:C->C->Bool
 | .tup l,.tup l'=>J7N l l'
 | a,b=>X53 a b
theorem X5C {a b:C} (h:X8K a b=true):a=b:=by
 unfold X8K at h;split at h
 . rw[J4h _ _ h]
 . exact Q25 _ _ h
noncomputable def Q7z (tb:List (Nat×J79)) (lf fuel:Nat) (f:FuncId) (l:List (List C×C)):Bool:=@List.rec (List C×C) (fun _=>Bool) true (fun p _ ih=>match evX tb lf fuel f p.1 with
 | some c=>match X8K c p.2 with|true=>ih|false=>false
 | none=>false) l
theorem J9u {P:Program} (hm:P.follows .mixedOrders=true) {tb:List (Nat×J79)} (ht:Q1Q P tb) {lf fuel:Nat} {f:FuncId} {l:List (List C×C)} (h:Q7z tb lf fuel f l=true):∀p,p∈l->Ret P f (C.vs p.1) p.2.v:=by
 induction l with
 | nil=>intro p hp;cases hp
 | cons q r ih =>
   have h:(match evX tb lf fuel f q.1 with|some c=>(match X8K c q.2 with|true=>Q7z tb lf fuel f r|false=>false)|none=>false)=true:=h;split at h
   . rename_i c hc;split at h
     . rename_i hb;intro p hp;rcases List.mem_cons.1 hp with rfl|hp
       . rw[<- X5C hb];exact J7w hm ht hc
       . exact ih h p hp
     . cases h
   . cases h
theorem Q3Z {P:Program} {f:FuncId} {a b:List (List C×C)} (ha:∀p,p∈a->Ret P f (C.vs p.1) p.2.v) (hb:∀p,p∈b->Ret P f (C.vs p.1) p.2.v):∀p,p∈a++b->Ret P f (C.vs p.1) p.2.v:=fun p hp=>by
 rcases List.mem_append.1 hp with h|h
 . exact ha p h
 . exact hb p h
theorem J0E {P:Program} (hm:P.follows .mixedOrders=true) {tb:List (Nat×J79)} (ht:Q1Q P tb) {lf fuel:Nat} {f:FuncId} (hf:J08 P f=true):Q9H P f (.ext (evX tb lf fuel f)) :=
 ⟨hf,fun _ _ h=>J7w hm ht h⟩
theorem Q4e {M M':Nat->Prop} {w w':World} {σ:Sg} {own:Own} {ks:List Nat} (hh:J0S M w σ own ks) (hE:Ext M w M' w') (hM:∀b,J0v w σ own b->M' b/\w'.heap[b]?=w.heap[b]?) :
 J0S M' w' σ own ks/\∀n,J0v w' σ own n↔J0v w σ own n:=by
 have keep:∀k b n,(k,b)∈own->(J0p w' σ k b n↔J0p w σ k b n):=fun k b n hm=>J0X (Sg.le_refl _) (hh.own.key hm) fun ob hob=>(hM ob ⟨k,b,hm,.inl hob⟩).2;exact⟨⟨⟨fun k b hm=>(hh.own.blk k b hm).mono hE (Sg.le_refl _) fun n hn=>hM n ⟨k,b,hm,hn⟩,hh.own.nodup,fun k b k' b' n m1 m2 hne e1 e2=>hh.own.apart k b k' b' n m1 m2 hne ((keep k b n m1).1 e1) ((keep k' b' n m2).1 e2)⟩,hh.fresh,hh.knodup⟩,
  fun n=>J2f hh.own (Sg.le_refl _) fun b hb=>(hM b hb).2⟩
noncomputable def X3X {α:Type} (o:Option α):Bool:=@Option.rec α (fun _=>Bool) false (fun _=>true) o
theorem Q0z {α:Type} {o:Option α} {d:α} (h:X3X o=true):o=some (o.getD d):=by
 cases o with
 | none=>cases h
 | some x=>rfl
theorem J0d {P:Program} {f:FuncId} {fn:Func} {c:Code} {n:Nat} (hf:P.funcs[f]?=some fn) (hb:fn.body=some c) (hn:fn.ntmps=n) (hnm:(fn.name == "runtime.NumGoroutine")=false)
 (h:(X3X (J0V P fn.ntmps (fn.body.getD .skip))&&X3X (Q2Y P fn.results.toList))=true):Q9H P f (.code ((J0V P fn.ntmps (fn.body.getD .skip)).getD .skip) n ((Q2Y P fn.results.toList).getD [])):=by
 rw[Bool.and_eq_true] at h;refine J7v hf hb hn hnm ?_ (Q0z h.2);have:=Q0z (d:=.skip) h.1;rw[hb] at this ⊢;exact this
end Go.Eng
namespace Go.Proofs.YtlpfphlbghdokaaGreatDoor
open Go.Eng
set_option maxRecDepth 100000
set_option maxHeartbeats 1000000 in
theorem Q79 (s:ByteArray) (c:Int) (w:World) :
 Calls Tryz.prog 177 #[.string s,.int .u8 c] w fun e w'=>e=.returned (.int .i64 (Lib.indexByte s.data.toList c.toNat.toUInt8))/\w'=w:=by
 go_enter Tryz.func177,(rfl:Tryz.f177.ntmps=_)
 go_wp2
 rw[run_callFunc_extern Tryz.func197 (by kernel_rfl) (by kernel_rfl) (by kernel_rfl) (e:=Extern.BytealgIndexByte.indexByte) (by kernel_rfl),Lib.run_indexByteString];simp only[Result.andThen];rw[Oper.upon_value]
 go_wp2
 go_ret
 exact⟨rfl,rfl⟩
noncomputable def ixA (b:Nat) (l:Nat):Nat->Nat->Int:=@Nat.rec (fun _=>Nat->Nat->Int) (fun _ _=>.negSucc 0) (fun _ ih c i=>match Nat.beq (Nat.mod c 256) b with|true=>.ofNat i|false=>ih (Nat.div c 256) (Nat.succ i)) l
theorem X2V {b:Nat} (hb:b<256):∀(l c i:Nat),ixA b l c i=if Lib.indexByte (bl l c) b.toUInt8=-1 then -1 else Lib.indexByte (bl l c) b.toUInt8+i
 | 0,c,i=>rfl
 | l+1,c,i=>by
   have e:ixA b (l+1) c i=match Nat.beq (Nat.mod c 256) b with|true=>.ofNat i|false=>ixA b l (Nat.div c 256) (Nat.succ i):=rfl
   rw[e];have hm:c % 256<256:=Nat.mod_lt _ (by omega);have hge:∀(q:List UInt8) (x:UInt8),-1<=Lib.indexByte q x:=by
    intro q x
    induction q with
    | nil=>simp[Lib.indexByte]
    | cons y q ih=>simp only[Lib.indexByte];split<;>(try split)<;>omega
   cases hx:Nat.beq (Nat.mod c 256) b with
   | true =>
     have h1:c % 256=b:=Nat.eq_of_beq_eq_true hx;have h2:(UInt8.ofNat (c % 256) == b.toUInt8)=true:=by rw[h1];simp
     simp only[bl,Lib.indexByte,h2,if_true];simp
   | false =>
     have h1:c % 256≠b:=fun e=>by
      have:Nat.beq (Nat.mod c 256) b=true:=Nat.beq_eq▸e;rw[hx] at this;cases this
     have h2:(UInt8.ofNat (c % 256) == b.toUInt8)=false:=by
      rw[beq_eq_false_iff_ne];intro e;have:=congrArg UInt8.toNat e;simp at this;omega
     have ih:=X2V hb l (c / 256) (i+1);show ixA b l (c / 256) (i+1)=_;rw[ih];simp only[bl,Lib.indexByte,h2,Bool.false_eq_true,if_false];have:=hge (bl l (c / 256)) b.toUInt8;by_cases h3:Lib.indexByte (bl l (c / 256)) b.toUInt8=-1
     . simp[h3]
     . have h4:(Lib.indexByte (bl l (c / 256)) b.toUInt8 == -1)=false:=by simpa using h3
       simp only[h4,h3,if_false,Bool.false_eq_true];rw[if_neg (by omega)];omega
noncomputable def Y00 (args:List C):Option C:=match args with
 | [.str l c,.int .u8 (.ofNat b)]=>match Nat.blt b 256 with
   | true=>fI (ixA b l c 0) fun n=>some (.int .i64 n)
   | false=>none
 | _=>none
theorem X7i:Q9H Tryz.prog 177 (.ext Y00):=by
 refine⟨by kernel_rfl,fun args v h own ks=>⟨fun M w σ us hlen hd hh=>?_⟩⟩;unfold Y00 at h;split at h
 . rename_i l c b;split at h
   . rename_i hb;rw[X4Z] at h;cases h
     match us,hlen,hd with
     | [u1,u2],_,hd =>
       have h1:=hd 0 _ u1 rfl rfl;have h2:=hd 1 _ u2 rfl rfl;simp only[C.v] at h1 h2;cases h1;cases h2;refine(Q79 _ _ w).mono ?_;rintro e w' ⟨rfl,rfl⟩;have hb:=Nat.le_of_ble_eq_true hb;have e1:Lib.indexByte (J0r l c).data.toList (Int.ofNat b).toNat.toUInt8=ixA b l c 0:=by
        rw[X2V hb];show Lib.indexByte (bl l c) b.toUInt8=_;split<;>simp_all
       rw[e1];exact⟨M,σ,_,own,ks,_,rfl,.int _ _ _,hh,Tr.refl _ _ _ _,Kd.refl _ _ _,by simp[C.v],rfl,rfl⟩
   . cases h
 . cases h
set_option maxHeartbeats 1000000 in
theorem J9o (w:World):Calls Tryz.prog 89 #[.nilIface] w fun e w'=>e=.returned (.tuple #[.agg #[.int .i64 0,.int .i64 0],.bool false])/\w'=w.alloc (.cells #[.int .i64 0,.int .i64 0] 163):=by
 have hres:Tryz.f89.results=#[.cell 2 163,.tmp 3]:=by kernel_rfl
 go_enter Tryz.func89,(rfl:Tryz.f89.ntmps=_)
 go_wp2
 simp[bodyPost,results,go_sem]
set_option maxHeartbeats 1000000 in
theorem Q5G (p q:Addr) (w:World) :
 CallsD Tryz.prog 88 #[.pointer (some p),.pointer (some q)] .returning w fun e u' w'=>e=.returned (.tuple #[])/\u'=.returning/\w'=(w.alloc (.cells #[.int .i64 0,.int .i64 0] 163)).alloc (.cells #[.int .i64 0,.int .i64 0] 163):=by
 have hres:Tryz.f88.results=#[]:=by kernel_rfl
 refine callsD_of_wpS Tryz.func88 rfl fun c₀ cs hu=>?_;apply wpS_seq;apply wpS_region;simp[wpOpsS,go_sem,recoverD,hu,Exit.thenS];refine(J9o w).mono ?_;rintro e w' ⟨rfl,rfl⟩;simp[go_sem];apply wpS_seq;apply wpS_region;simp[wpOpsS,go_sem,Exit.thenS];refine wpS_cond (t:=false) (by simp[Act.eval,Array.replicate]) ?_;simp only[Bool.false_eq_true,if_false];refine wpS_of_wp (wp_skip ?_);cases c₀
 simp_all [bodyPostS,results]
theorem Q5F {M:Nat->Prop} {w w2 w3 w5:World} {σ:Sg} {own:Own} {ks:List Nat} (hh:J0S M w σ own ks) (hs2:w2.heap.size=w.heap.size+2) (h2:∀b,b<w.heap.size->w2.heap[b]?=w.heap[b]?)
 (o2:w2.os=w.os/\w2.tape=w.tape/\w2.output=w.output)
 {M3:Nat->Prop} {σ3:Sg} {own3:Own} {ks3:List Nat} (hh3:J0S M3 w3 σ3 own3 ks3) (tr:Tr (fun b=>M b\/w.heap.size<=b) w2 σ own M3 w3 σ3 own3)
 (hs5:w3.heap.size<=w5.heap.size) (h5:∀b,b<w3.heap.size->b≠w.heap.size->b≠w.heap.size+1->w5.heap[b]?=w3.heap[b]?) (o5:w5.os=w3.os/\w5.tape=w3.tape/\w5.output=w3.output) :
 J0S M3 w5 σ3 own3 ks3/\Tr M w σ own M3 w5 σ3 own3:=by
 have hown2:∀n,J0v w2 σ own n↔J0v w σ own n:=fun n=>J2f hh.own (Sg.le_refl _) fun b hb=>h2 b (J0s hh.own hb).2;have hs3:=tr.adv.size;have hno:∀b,b=w.heap.size\/b=w.heap.size+1->¬ J0v w3 σ3 own3 b:=by
  intro b hb ho;rcases tr.new b ho with h|h
  . have:=(J0s hh.own ((hown2 b).1 h)).2;omega
  . omega
 have hM3:∀b,b=w.heap.size\/b=w.heap.size+1->M3 b:=by
  intro b hb;refine(tr.adv.muts b (by omega) fun h=>?_).2 (.inr (by omega));have:=(J0s hh.own ((hown2 b).1 h)).2;omega
 have hE:Ext M3 w3 M3 w5:=⟨fun b hb hn=>⟨hn,h5 b hb (fun e=>hn (hM3 b (.inl e))) (fun e=>hn (hM3 b (.inr e)))⟩,hs5⟩;obtain⟨a1,a2⟩:=Q4e hh3 hE (fun b hb=>⟨(J0s hh3.own hb).1,h5 b (J0s hh3.own hb).2 (fun e=>hno b (.inl e) hb) (fun e=>hno b (.inr e) hb)⟩);refine⟨a1,⟨⟨o5.1.trans (tr.adv.os.trans o2.1),o5.2.1.trans (tr.adv.tape.trans o2.2.1),o5.2.2.trans (tr.adv.output.trans o2.2.2),by omega,fun b hb hn=>?_,fun b hb hn=>?_⟩,fun b hb=>?_,tr.le⟩⟩
 . rw[h5 b (by omega) (by omega) (by omega),tr.adv.same b (by omega) (fun h=>hn ((hown2 b).1 h)),h2 b hb]
 . refine(tr.adv.muts b (by omega) (fun h=>hn ((hown2 b).1 h))).trans ⟨fun h=>?_,.inl⟩;rcases h with h|h
   . exact h
   . omega
 . rcases tr.new b ((a2 b).1 hb) with h|h
   . exact .inl ((hown2 b).1 h)
   . right;omega
set_option maxHeartbeats 1000000 in
theorem X1W:Q9H Tryz.prog 56 .catch_:=by
 have hmf:∀(fn:Fn) (first cap:Array Value) (w:World),(Instr.makeFunc fn first cap).run Tryz.prog w=.ok (.func fn first cap) w:=fun _ _ _ _=>rfl;have hres:Tryz.f56.results=#[.cell 2 3,.cell 3 42]:=by kernel_rfl
 refine⟨by kernel_rfl,fun g bd cap own ks K hg h=>⟨fun M w σ us hlen hd hh=>?_⟩⟩
 match us,hlen,hd with
 | [u],_,hd =>
   have hu:=hd 0 _ u rfl rfl;clear hd;cases hu with
   | fn _ _ _ _ lb hcl hcd =>
     go_enter_defers Tryz.func56,(rfl:Tryz.f56.ntmps=_)
     go_wp2
     rw[J1K hg,Oper.upon_enter];have hargs:fnB bd lb++fnC bd lb=lb.toArray:=by cases bd<;>simp[fnB,fnC]
     rw[hargs];obtain⟨w2,hw2⟩:∃w2,w2=((w.alloc (Obj.cells #[Value.int IntKind.i64 0] 3)).alloc (Obj.cells #[Value.int IntKind.i64 0] 42)):=⟨_,rfl⟩;have hs2:w2.heap.size=w.heap.size+2:=by subst hw2;simp
     have h2:∀b,b<w.heap.size->w2.heap[b]?=w.heap[b]?:=by
      intro b hb;subst hw2;rw[J0O (by simp;omega),J0O hb]
     have hb0:w2.heap[w.heap.size]?=some (.cells #[.int .i64 0] 3 (0,0)):=by
      subst hw2;rw[J0O (by simp)];exact J2L
     have hb1:w2.heap[w.heap.size+1]?=some (.cells #[.int .i64 0] 42 (0,0)):=by
      subst hw2;have:=J2L (w:=w.alloc (Obj.cells #[Value.int IntKind.i64 0] 3)) (o:=Obj.cells #[Value.int IntKind.i64 0] 42);simpa using this
     have o2:w2.os=w.os/\w2.tape=w.tape/\w2.output=w.output:=by subst hw2;exact⟨rfl,rfl,rfl⟩
     have hE2:Ext M w (fun b=>M b\/w.heap.size<=b) w2:=⟨fun b hb hn=>⟨fun h=>h.elim hn (by omega),h2 b hb⟩,by omega⟩;obtain⟨hh2,_⟩:=Q4e hh hE2 (fun b hb=>⟨.inl (J0s hh.own hb).1,h2 b (J0s hh.own hb).2⟩);rw[<- hw2];refine(h.out _ w2 σ lb hcl (fun i v u hv hu=>(hcd i v u hv hu).mono hE2 (Sg.le_refl _)) hh2).mono ?_;rintro e w3 ⟨M3,σ3,v3,own3,ks3,u3,rfl,hv3,hh3,tr3,kd3,hK3⟩;have hno2:∀b,w.heap.size<=b->¬ J0v w2 σ own b:=fun b hb ho=>by
      have:=(J0s hh.own ((J2f hh.own (Sg.le_refl _) fun b hb=>h2 b (J0s hh.own hb).2).1 ho)).2;omega
     have c0:w3.heap[w.heap.size]?=some (.cells #[.int .i64 0] 3 (0,0)):=by rw[tr3.adv.same _ (by omega) (hno2 _ (by omega)),hb0]
     have c1:w3.heap[w.heap.size+1]?=some (.cells #[.int .i64 0] 42 (0,0)):=by rw[tr3.adv.same _ (by omega) (hno2 _ (by omega)),hb1]
     have k0:w3.cell? ⟨w.heap.size,0,none⟩=some (.int .i64 0):=by simp[World.cell?,c0]
     have z0:w3.frozen? ⟨w.heap.size,0,none⟩=false:=by simp[World.frozen?,c0]
     have d1:(w3.setCell ⟨w.heap.size,0,none⟩ (.int .i64 0)).heap[w.heap.size+1]?=some (.cells #[.int .i64 0] 42 (0,0)):=by rw[heap_setCell_other _ _ _ _ (by simp)];exact c1
     have k1:(w3.setCell ⟨w.heap.size,0,none⟩ (.int .i64 0)).cell? ⟨w.heap.size+1,0,none⟩=some (.int .i64 0):=by simp[World.cell?,d1]
     have z1:(w3.setCell ⟨w.heap.size,0,none⟩ (.int .i64 0)).frozen? ⟨w.heap.size+1,0,none⟩=false:=by simp[World.frozen?,d1]
     simp only
     go_wp2
     generalize hw4:((w3.setCell ⟨w.heap.size,0,none⟩ (.int .i64 0)).setCell ⟨w.heap.size+1,0,none⟩ (.int .i64 0))=w4;have hs4:w4.heap.size=w3.heap.size:=by subst hw4;simp
     have h4:∀b,b≠w.heap.size->b≠w.heap.size+1->w4.heap[b]?=w3.heap[b]?:=fun b e0 e1=>by
      subst hw4;rw[heap_setCell_other _ _ _ _ (by simpa using e1),heap_setCell_other _ _ _ _ (by simpa using e0)]
     have o4:w4.os=w3.os/\w4.tape=w3.tape/\w4.output=w3.output:=by subst hw4;exact⟨rfl,rfl,rfl⟩
     have q0:w4.heap[w.heap.size]?=some (.cells #[.int .i64 0] 3 (0,0)):=by
      subst hw4;rw[heap_setCell_other _ _ _ _ (by simp)];exact one_setCell c0
     have q1:w4.heap[w.heap.size+1]?=some (.cells #[.int .i64 0] 42 (0,0)):=by
      subst hw4;exact one_setCell d1
     refine leaves_cons (f:=88) (args:=#[.pointer (some ⟨w.heap.size,0,none⟩),.pointer (some ⟨w.heap.size+1,0,none⟩)]) (by simp) (by simp[go_sem]) ?_;refine(Q5G _ _ _).mono ?_;rintro e u' w5 ⟨rfl,rfl,rfl⟩;generalize hw5:((w4.alloc (.cells #[.int .i64 0,.int .i64 0] 163)).alloc (.cells #[.int .i64 0,.int .i64 0] 163))=w5;have hlt0:=lt_of_getElem? q0;have hlt1:=lt_of_getElem? q1;have hs5:w3.heap.size<=w5.heap.size:=by subst hw5;simp;omega
     have h5:∀b,b<w3.heap.size->w5.heap[b]?=w4.heap[b]?:=fun b hb=>by
      subst hw5;rw[J0O (by simp;omega),J0O (by omega)]
     have o5:w5.os=w3.os/\w5.tape=w3.tape/\w5.output=w3.output:=by subst hw5;exact o4
     obtain⟨f1,f2⟩:=Q5F hh hs2 h2 o2 hh3 tr3 hs5 (fun b hb e0 e1=>(h5 b hb).trans (h4 b e0 e1)) o5;have r0:w5.cell? ⟨w.heap.size,0,none⟩=some (.int .i64 0):=by simp[World.cell?,h5 _ (by omega:w.heap.size<w3.heap.size),q0]
     have r1:w5.cell? ⟨w.heap.size+1,0,none⟩=some (.int .i64 0):=by simp[World.cell?,h5 _ (by omega:w.heap.size+1<w3.heap.size),q1]
     simp[Leaves,settle,results,go_sem,r0,r1];exact⟨M3,σ3,_,J6t (.int _ _ _) (.int _ _ _),own3,ks3,f1,f2,kd3,hK3⟩
end Go.Proofs.YtlpfphlbghdokaaGreatDoor
