import Derived.Test.YtlpfphlbghdokaaGreatDoorEvD
import Derived.Test.YtlpfphlbghdokaaGreatDoorGRCode
import Derived.WalkKit
import Derived.Defers
import Derived.Recover
import Derived.Laws.Pointers
import Derived.Lib.Walk
import Derived.Lib.Strings
import Derived.Lib.Bytealg
import Derived.BigCall
import Derived.Laws.Strings3
import Derived.Test.YtlpfphlbghdokaaGreatDoorSV1
namespace Go.Eng
structure CS where
 e:J1d
 o:J0z
 k:Nat
def CS.st (s:CS):St:=⟨J2Y s.e,J0I s.o,ksV s.k⟩
noncomputable def J4e (g:Option (Nat×Bool)) (env:J1d):Option Bool:=match g with
 | none=>some true
 | some (t,want)=>match lk env t with
   | some (.bool b)=>match Bool.xor b want with|false=>some true|true=>some false
   | some .unit=>some false
   | _=>none
noncomputable def X4T {β:Type} (d:Option Nat) (v:C) (e:J1d) (K:J1d->β):β:=match d with|some t=>K ((t,v)::e)|none=>K e
abbrev KT:=J1d->J0z->Nat->Option CS
noncomputable def X5w (d:Option Nat) (e:J1d) (ih:KT) (r:Option R):Option CS:=match r with
 | some ⟨v,o',k'⟩=>X4T d v e fun e=>ih e o' k'
 | none=>none
noncomputable def opsG (call:J2J) (op:SOp) (d:Option Nat) (ih:KT) (e:J1d) (o:J0z) (k:Nat) (g:Option Bool):Option CS:=match g with
 | some true=>X5w d e ih (cop call true op e o k)
 | some false=>X4T d .unit e fun e=>ih e o k
 | none=>none
noncomputable def opsS (call:J2J) (si:SI) (ih:KT):KT:=fun e o k=>opsG call si.op si.dst ih e o k (J4e si.guard e)
noncomputable def X6C (call:J2J) (l:List SI):KT:=@List.rec SI (fun _=>KT) (fun e o k=>some ⟨e,o,k⟩) (fun si _ ih=>opsS call si ih) l
theorem J7i {P:Program} {call:J2J} (hcall:J8E P call):∀(l:List SI) (e:J1d) (o:J0z) (k:Nat) (s:CS) (K:Env->Own->List Nat->Prop),X6C call l e o k=some s->K (J2Y s.e) (J0I s.o) (ksV s.k)->J47 P l (J2Y e) (J0I o) (ksV k) K
 | [],e,o,k,s,K,h,hK=>by
   have h:some (CS.mk e o k)=some s:=h;cases h;simpa[J47] using hK
 | ⟨d,op,g⟩::r,e,o,k,s,K,h,hK=>by
   have h:opsG call op d (X6C call r) e o k (J4e g e)=some s:=h;have run:X5w d e (X6C call r) (cop call true op e o k)=some s->Q2z P op (J2Y e) (J0I o) (ksV k) fun v own ks=>match (generalizing:=false) d with
    | some t=>J47 P r ((t,v)::J2Y e) own ks K
    | none=>J47 P r (J2Y e) own ks K:=by
    intro h;unfold X5w at h;split at h
    . rename_i v o' k' hc;have fin:=Q7X hcall (b:=true) (K:=fun v own ks=>match (generalizing:=false) d with
       | some t=>J47 P r ((t,v)::J2Y e) own ks K
       | none=>J47 P r (J2Y e) own ks K) hc ?_
      . exact fin
      . cases d with
        | some t=>exact J7i hcall r _ _ _ s K h hK
        | none=>exact J7i hcall r _ _ _ s K h hK
    . cases h
   have skip:(X4T d .unit e fun e=>X6C call r e o k)=some s->(match (generalizing:=false) d with
         | some t=>J47 P r ((t,.raw (.tuple #[]))::J2Y e) (J0I o) (ksV k) K
         | none=>J47 P r (J2Y e) (J0I o) (ksV k) K):=by
    intro h;cases d with
    | some t =>
      have:=J7i hcall r _ _ _ s K h hK;simpa[J2Y,C.v] using this
    | none=>exact J7i hcall r _ _ _ s K h hK
   simp only[J47];cases g with
   | none=>exact run h
   | some p =>
     obtain⟨t,want⟩:=p;simp only[J4e] at h;cases hl:lk e t with
     | none=>rw[hl] at h;cases h
     | some c =>
       rw[hl] at h;simp only[J1Q hl];cases c with
       | bool b =>
         simp only[C.v] at h ⊢;cases hx:Bool.xor b want with
         | false=>rw[hx] at h;exact run h
         | true=>rw[hx] at h;exact skip h
       | unit=>simp only[C.v] at h ⊢;exact skip h
       | _=>cases h
def Q65:C->Option Nat
 | .loc k _=>some k
 | .vec k _ _ _=>some k
 | .oel k _ _ _=>some k
 | _=>none
theorem Q0y (c:C):Q0x c.v=Q65 c:=by cases c<;>simp[C.v,Q0x,Q65]
noncomputable def J9Z {β:Type} (env:J1d):List Nat->J0z->J0z->(J0z->J0z->Option β)->Option β
 | [],own,acc,K=>K own acc
 | t::r,own,acc,K=>match lk env t with
   | some v=>match Q65 v with
     | some k=>match lk own k with
       | some b=>deC k own fun own'=>J9Z env r own' ((k,b)::acc) K
       | none=>none
     | none=>J9Z env r own acc K
   | none=>none
theorem J6w {β:Type} {env:J1d}:∀{l:List Nat} {own acc:J0z} {K:J0z->J0z->Option β} {out:β},J9Z env l own acc K=some out ->
 ∃a b,K a b=some out/\∀Kp:Own->Own->Prop,Kp (J0I a) (J0I b)->J4d (J2Y env) l (J0I own) (J0I acc) Kp
 | [],own,acc,K,out,h=>⟨own,acc,h,fun Kp hK=>by simpa[J4d] using hK⟩
 | t::r,own,acc,K,out,h=>by
   simp only[J9Z] at h;split at h
   . rename_i v hv;split at h
     . rename_i k hk;split at h
       . rename_i b hb;obtain⟨o',h,c1⟩:=Q7R h;obtain⟨a',b',h,c2⟩:=J6w h;refine⟨a',b',h,fun Kp hK=>?_⟩;simp only[J4d,J1Q hv,Q0y,hk,J0v hb];exact c1 _ (c2 Kp hK)
       . cases h
     . rename_i hk;obtain⟨a',b',h,c2⟩:=J6w h;refine⟨a',b',h,fun Kp hK=>?_⟩;simp only[J4d,J1Q hv,Q0y,hk];exact c2 Kp hK
   . cases h
mutual
def X6Q:C->C->Bool
 | .bool a,.bool b=>a == b
 | .int k a,.int k' b=>match kEq k k' with|true=>ieq a b|false=>false
 | .str l c,.str l' c'=>match Nat.beq l l' with|true=>Nat.beq c c'|false=>false
 | .nilptr,.nilptr=>true
 | .nilslice,.nilslice=>true
 | .nilmap,.nilmap=>true
 | .nilfunc,.nilfunc=>true
 | .niliface,.niliface=>true
 | .loc k o,.loc k' o'=>match Nat.beq k k' with|true=>Nat.beq o o'|false=>false
 | .vec k s lo len,.vec k' s' lo' len'=>match Nat.beq k k',Nat.beq s s',Nat.beq lo lo' with|true,true,true=>Nat.beq len len'|_,_,_=>false
 | .map k,.map k'=>Nat.beq k k'
 | .agg l,.agg l'=>J7O l l'
 | .fz n s f z rows,.fz n' s' f' z' rows'=>match Nat.beq n n',Nat.beq s s',f == f' with|true,true,true=>(match J7O z z' with|true=>J8A rows rows'|false=>false)|_,_,_=>false
 | _,_=>false
def J7O:List C->List C->Bool
 | [],[]=>true
 | a::r,b::q=>match X6Q a b with|true=>J7O r q|false=>false
 | _,_=>false
def J8A:List (List C)->List (List C)->Bool
 | [],[]=>true
 | a::r,b::q=>match J7O a b with|true=>J8A r q|false=>false
 | _,_=>false
end
mutual
theorem Q8x:∀(a b:C),X6Q a b=true->a=b
 | a,b,h=>by
   unfold X6Q at h;split at h
   . rw[beq_iff_eq] at h;rw[h]
   . split at h
     . rename_i hk;rw[J5M hk];rw[J4V,beq_iff_eq] at h;rw[h]
     . cases h
   . split at h
     . rename_i hk;rw[Nat.eq_of_beq_eq_true hk,Nat.eq_of_beq_eq_true h]
     . cases h
   . rfl
   . rfl
   . rfl
   . rfl
   . rfl
   . split at h
     . rename_i hk;rw[Nat.eq_of_beq_eq_true hk,Nat.eq_of_beq_eq_true h]
     . cases h
   . split at h
     . rename_i h1 h2 h3;rw[Nat.eq_of_beq_eq_true h1,Nat.eq_of_beq_eq_true h2,Nat.eq_of_beq_eq_true h3,Nat.eq_of_beq_eq_true h]
     . cases h
   . rw[Nat.eq_of_beq_eq_true h]
   . rename_i l l';rw[J45 l l' h]
   . rename_i n s f z rows n' s' f' z' rows';split at h
     . rename_i h1 h2 h3;split at h
       . rename_i h4;rw[beq_iff_eq] at h3;rw[Nat.eq_of_beq_eq_true h1,Nat.eq_of_beq_eq_true h2,h3,J45 z z' h4,Q1a rows rows' h]
       . cases h
     . cases h
   . cases h
theorem J45:∀(a b:List C),J7O a b=true->a=b
 | [],[],_=>rfl
 | a::r,b::q,h=>by
   unfold J7O at h;split at h
   . rename_i h1;rw[Q8x a b h1,J45 r q h]
   . cases h
 | [],_::_,h=>by simp[J7O] at h
 | _::_,[],h=>by simp[J7O] at h
theorem Q1a:∀(a b:List (List C)),J8A a b=true->a=b
 | [],[],_=>rfl
 | a::r,b::q,h=>by
   unfold J8A at h;split at h
   . rename_i h1;rw[J45 a b h1,Q1a r q h]
   . cases h
 | [],_::_,h=>by simp[J8A] at h
 | _::_,[],h=>by simp[J8A] at h
end
noncomputable def Q4G (env:J1d) (own:J0z):List (Option Nat×Nat×Nat)->Bool
 | []=>true
 | (sz,n,t)::r=>match lk env t with
   | some .unit=>Q4G env own r
   | some v=>match lk env n with
     | some p=>match J8t own sz p with
       | some v'=>match X6Q v' v with|true=>Q4G env own r|false=>false
       | none=>false
     | none=>false
   | none=>false
theorem J9g {env:J1d} {own:J0z} {G:Prop} (hG:G):∀{l:List (Option Nat×Nat×Nat)},Q4G env own l=true->J7M (J2Y env) (J0I own) G l
 | [],_=>hG
 | (sz,n,t)::r,h=>by
   simp only[Q4G] at h;cases hl:lk env t with
   | none=>rw[hl] at h;cases h
   | some c =>
     rw[hl] at h;simp only[J7M,J1Q hl];have other:(match lk env n with
      | some p=>match J8t own sz p with
        | some v'=>match X6Q v' c with|true=>Q4G env own r|false=>false
        | none=>false
      | none=>false)=true->(match look (J2Y env) n with
      | some p=>J3u (J0I own) sz p (fun v'=>v'=c.v)/\J7M (J2Y env) (J0I own) G r
      | none=>False):=by
      intro h;split at h
      . rename_i p hp;rw[J1Q hp];split at h
        . rename_i v' hv;split at h
          . rename_i hb;exact⟨J7n hv (by rw[Q8x _ _ hb]),J9g hG h⟩
          . cases h
        . cases h
      . cases h
     cases c<;>first
      | (simp only[C.v] at other ⊢;exact other h)
      | (simp only[C.v];exact J9g hG h)
theorem Q8B {α:Type}:∀(l r:List α) (K:List α->Prop),K (l++r)->X4I l r K
 | [],r,K,h=>h
 | x::l,r,K,h=>by simp only[X4I];exact Q8B l r _ h
noncomputable def X0u (call:J2J) (op:SOp) (d:Option Nat) (ih:KT) (e:J1d) (o:J0z) (k:Nat) (g:Option Bool):Option CS:=match g with
 | some true=>X5w d e ih (cop call false op e o k)
 | some false=>X4T d .unit e fun e=>ih e o k
 | none=>none
noncomputable def effR (held:List (Option Nat×Nat×Nat)) (d:Option Nat) (e:J1d) (ob:J0z) (ih:KT) (r:Option R):Option CS:=match r with
 | some ⟨v,oa',k'⟩=>match Q4G e oa' held with
   | true=>fL (List.append ob oa') fun o'=>X4T d v e fun e=>ih e o' k'
   | false=>none
 | none=>none
noncomputable def X7n (call:J2J) (pend:List Nat) (held:List (Option Nat×Nat×Nat)) (op:SOp) (d:Option Nat) (ih:KT) (e:J1d) (o:J0z) (k:Nat) (g:Option Bool):Option CS:=match g with
 | some true=>J9Z e pend o [] fun oa ob=>effR held d e ob ih (cop call false op e oa k)
 | some false=>X4T d .unit e fun e=>ih e o k
 | none=>none
noncomputable def Y0G (call:J2J) (di:DI) (ih:KT):KT:=match di with
 | .op _ si=>fun e o k=>X0u call si.op si.dst ih e o k (J4e si.guard e)
 | .eff _ pend held si=>fun e o k=>X7n call pend held si.op si.dst ih e o k (J4e si.guard e)
noncomputable def X0O (call:J2J) (l:List DI):KT:=@List.rec DI (fun _=>KT) (fun e o k=>some ⟨e,o,k⟩) (fun di _ ih=>Y0G call di ih) l
theorem Q0F {g:Option (Nat×Bool)} {e:J1d} {A B:Prop}:(∀b,J4e g e=some b->(match b with|true=>A|false=>B))->J4e g e≠none->J5P (J2Y e) g A B:=by
 intro h hne;cases g with
 | none=>exact h true rfl
 | some p =>
   obtain⟨t,want⟩:=p;simp only[J4e] at h hne;simp only[J5P];cases hl:lk e t with
   | none=>rw[hl] at hne;exact(hne rfl).elim
   | some c =>
     rw[hl] at h hne;rw[J1Q hl];cases c with
     | bool b =>
       simp only[C.v] at h hne ⊢;cases hx:Bool.xor b want with
       | false=>rw[hx] at h;exact h true rfl
       | true=>rw[hx] at h;exact h false rfl
     | unit=>simp only[C.v] at h ⊢;exact h false rfl
     | _=>exact(hne rfl).elim
theorem J2q {P:Program} {call:J2J} (hcall:J8E P call):∀(l:List DI) (e:J1d) (o:J0z) (k:Nat) (s:CS) (K:Env->Own->List Nat->Prop),X0O call l e o k=some s->K (J2Y s.e) (J0I s.o) (ksV s.k)->J1x P l (J2Y e) (J0I o) (ksV k) K
 | [],e,o,k,s,K,h,hK=>by
   have h:some (CS.mk e o k)=some s:=h;cases h;simpa[J1x] using hK
 | .op ix ⟨d,op,g⟩::r,e,o,k,s,K,h,hK=>by
   have h:X0u call op d (X0O call r) e o k (J4e g e)=some s:=h;simp only[J1x];refine Q0F (fun b hb=>?_) (fun hb=>by rw[hb] at h;cases h);rw[hb] at h;cases b with
   | true =>
     simp only[X0u] at h ⊢;unfold X5w at h;split at h
     . rename_i v o' k' hc;have fin:=Q7X hcall (b:=false) (K:=fun v own ks=>match (generalizing:=false) d with
        | some t=>J1x P r ((t,v)::J2Y e) own ks K
        | none=>J1x P r (J2Y e) own ks K) hc ?_
       . exact fin
       . cases d with
         | some t=>exact J2q hcall r _ _ _ s K h hK
         | none=>exact J2q hcall r _ _ _ s K h hK
     . cases h
   | false =>
     simp only[X0u] at h ⊢;cases d with
     | some t =>
       have:=J2q hcall r _ _ _ s K h hK;simpa[J2Y,C.v] using this
     | none=>exact J2q hcall r _ _ _ s K h hK
 | .eff ix pend held ⟨d,op,g⟩::r,e,o,k,s,K,h,hK=>by
   have h:X7n call pend held op d (X0O call r) e o k (J4e g e)=some s:=h;simp only[J1x];refine Q0F (fun b hb=>?_) (fun hb=>by rw[hb] at h;cases h);rw[hb] at h;cases b with
   | true =>
     simp only[X7n] at h ⊢;obtain⟨oa,ob,h,c1⟩:=J6w h;refine c1 _ ?_;unfold effR at h;split at h
     . rename_i v oa' k' hc;have fin:=Q7X hcall (b:=false) (K:=fun v ownA' ks=>J7M (J2Y e) ownA' (X4I (J0I ob) ownA' fun own=>match (generalizing:=false) d with
        | some t=>J1x P r ((t,v)::J2Y e) own ks K
        | none=>J1x P r (J2Y e) own ks K) held) hc ?_
       . exact fin
       split at h
       . rename_i hh;rw[J4Z] at h;refine J9g ?_ hh;refine Q8B _ _ _ ?_;have e2:J0I ob++J0I oa'=J0I (ob.append oa'):=by simp[J0I]
         rw[e2];cases d with
         | some t=>exact J2q hcall r _ _ _ s K h hK
         | none=>exact J2q hcall r _ _ _ s K h hK
       . cases h
     . cases h
   | false =>
     simp only[X7n] at h ⊢;cases d with
     | some t =>
       have:=J2q hcall r _ _ _ s K h hK;simpa[J2Y,C.v] using this
     | none=>exact J2q hcall r _ _ _ s K h hK
theorem Q6j {w:World} {σ:Sg} {own own':Own} (h:own'.Sublist own) {n:Nat} (ho:J0u w σ own' n):J0u w σ own n:=by
 obtain⟨k,b,hm,hh⟩:=ho;exact⟨k,b,h.subset hm,hh⟩
theorem Q98 {M:Nat->Prop} {w:World} {σ:Sg} {own own':Own} {ks:List Nat} (h:own'.Sublist own) (hh:J0Q M w σ own ks):J0Q M w σ own' ks :=
 ⟨⟨fun k b hm=>hh.own.blk k b (h.subset hm),(h.map _).nodup hh.own.nodup,fun k b k' b' n m1 m2=>hh.own.apart k b k' b' n (h.subset m1) (h.subset m2)⟩,hh.fresh,hh.knodup⟩
theorem Q8m {P:Program} {f:FuncId} {args:List V} {own own1 own2:Own} {ks ks':List Nat} {v:V} {K:V->Own->List Nat->Prop} (hs:own2.Sublist own1)
 (h:J0J P f args own ks fun v' o' k'=>v'=v/\o'=own1/\k'=ks') (hK:K v own2 ks'):J0J P f args own ks K :=
 ⟨fun M w σ us h1 h2 h3=>(h.out M w σ us h1 h2 h3).mono fun _ _ ⟨M',σ',v',o,k,u,a,b,c,d,d',e⟩=>by
   obtain⟨rfl,rfl,rfl⟩:=e;exact⟨M',σ',v',own2,k,u,a,b,Q98 hs c,⟨d.adv,fun b hb=>d.new b (Q6j hs hb),d.le⟩,⟨d'.1,d'.2.1,fun k hk=>d'.2.2 k ((hs.map _).subset hk)⟩,hK⟩⟩
structure J5x (P:Program) (N:Nat) (bk:BK) (b:SC) (env:Env) (own:Own) (ks:List Nat) (K:Out->Prop):Prop where
 out:∀r σb,RIn bk.r r σb->∀c,J0V P N c=some b->∀B M w σ a,(∀k,k∈bk.ks->σb k=none)->σb.le σ->Sim N B M w σ ⟨env,own,ks⟩ a ->
  ∀(fb:Frame) (k:List Item) (cs:List Frame),fb.roundOf=(FR r).round->(FR r).fn fb.fn->(FR r).room (cs.length+1+0) ->
   ∃e a' w',XP N B σb M w σ own ks K e a' w'/\ArrivesIn (Machine.fenced P (FR r)) P (lone (fb.atR a (.code c::.inLoop c::k)) cs w) fb k cs e a' w'
theorem J5x.toI {P:Program} {N:Nat} {bk:BK} {b:SC} {env:Env} {own:Own} {ks:List Nat} {K:Out->Prop} (h:J5x P N bk b env own ks K):J9C P N bk b env own ks K:=by
 constructor;intro r σb hr c hc B M w σ a hbk hle0 sim fb k cs hro hbf hroom;obtain⟨e,a',w',hx,harr⟩:=h.out r σb hr c hc B M w σ a hbk hle0 sim fb k cs hro hbf hroom;exact⟨e,a',w',hx,.of_steps (.one (fenced_calm hbf hroom rfl) stepR_loop) harr⟩
def X89 (P:Program) (N:Nat) (bk:BK) (b:SC) (K:Out->Prop) (o:Out):Prop :=
 match o with
 | .normal st=>J5x P N bk b st.env st.own st.ks K
 | .exit id st=>K (.exit id st)
 | .ret st=>K (.ret st)
theorem J5x.step {P:Program} (hm:P.follows .mixedOrders=true) {N:Nat} {bk:BK} {b:SC} {env:Env} {own:Own} {ks:List Nat} {K:Out->Prop} (h:vc P N bk b env own ks (X89 P N bk b K)):J5x P N bk b env own ks K:=by
 constructor;intro r σb hr c hc B M w σ a hbk hle sim fb k cs hro hbf hroom;have hb:=J3l hm hbk r hr c _ _ env own ks M w σ a hc h sim hle;obtain⟨e,a₂,w₂,hq,harr⟩:=hb fb (.inLoop c::k) cs hro hbf hroom;obtain⟨M₂,σ₂,⟨env₂,own₂,ks₂⟩,s2,t2,q2,l2,k2⟩:=hq;cases e with
 | normal =>
   have k2:J5x P N bk b env₂ own₂ ks₂ K:=k2;obtain⟨e',a',w',hx,harr'⟩:=k2.out r σb hr c hc B M₂ w₂ σ₂ a₂ hbk l2 s2 fb k cs hro hbf hroom;exact⟨e',a',w',XP.tr t2 q2 hx,.of_steps (StepsIn.trans harr (.one (fenced_calm hbf hroom rfl) stepR_inLoop)) harr'⟩
 | exit id=>exact⟨_,a₂,w₂,⟨M₂,σ₂,_,s2,t2,q2,l2,k2⟩,.pass (x:=.inLoop c) rfl (fun _ _=>.inl (by simp)) harr⟩
 | ret=>exact⟨_,a₂,w₂,⟨M₂,σ₂,_,s2,t2,q2,l2,k2⟩,.pass (x:=.inLoop c) rfl (fun _ _=>.inl (by simp)) harr⟩
 | goto l=>exact k2.elim
 | panic ch=>exact k2.elim
 | outgrown=>exact k2.elim
theorem J5x.weak {P:Program} {N:Nat} {bk:BK} {b:SC} {env env':Env} {own:Own} {ks:List Nat} {K:Out->Prop} (he:∀t v,look env' t=some v->look env t=some v) (h:J5x P N bk b env' own ks K):J5x P N bk b env own ks K:=by
 constructor;intro r σb hr c hc B M w σ a hbk hle sim fb k cs hro hbf hroom;exact h.out r σb hr c hc B M w σ a hbk hle ⟨fun t v hv=>sim.env t v (he t v hv),sim.heap,sim.size,sim.defers⟩ fb k cs hro hbf hroom
noncomputable def mN (n:Nat) (l:List Nat):Bool:=@List.rec Nat (fun _=>Bool) false (fun x _ ih=>@Bool.rec (fun _=>Bool) ih true (Nat.beq x n)) l
theorem X51 (n:Nat):∀(l:List Nat),mN n l=J05 n l
 | []=>rfl
 | x::r=>by
   show @Bool.rec (fun _=>Bool) (mN n r) true (Nat.beq x n)=_;rw[X51 n r]
   conv=>rhs;unfold J05
   cases Nat.beq x n<;>rfl
noncomputable def prn (l:J1d):List Nat->J1d:=@List.rec (Nat×C) (fun _=>List Nat->J1d) (fun _=>[]) (fun p _ ih seen=>@Bool.rec (fun _=>J1d) (p::ih (p.1::seen)) (ih seen) (mN p.1 seen)) l
theorem Q9I (p:Nat×C) (l:J1d) (seen:List Nat):prn (p::l) seen=match J05 p.1 seen with|true=>prn l seen|false=>p::prn l (p.1::seen):=by
 show @Bool.rec (fun _=>J1d) (p::prn l (p.1::seen)) (prn l seen) (mN p.1 seen)=_;rw[X51];cases J05 p.1 seen<;>rfl
theorem J81:∀(l:J1d) (seen:List Nat) (t:Nat),(t∈seen->look (prn l seen) t=none)/\∀v,look (prn l seen) t=some v->look l t=some v
 | [],seen,t=>⟨fun _=>rfl,fun v h=>h⟩
 | (q,c)::l,seen,t=>by
   rw[Q9I];cases hm:J05 q seen with
   | true =>
     obtain⟨a,b⟩:=J81 l seen t;simp only;refine⟨a,fun v h=>?_⟩;have hne:q≠t:=fun e=>by
      subst e;rw[a (J0m.1 hm)] at h;cases h
     rw[J0j hne];exact b v h
   | false =>
     simp only;by_cases e:q=t
     . subst e;rw[J0n rfl,J0n rfl];refine⟨fun h=>?_,fun v h=>h⟩;rw[J0m.2 h] at hm;cases hm
     . rw[J0j e,J0j e];obtain⟨a,b⟩:=J81 l (q::seen) t;exact⟨fun h=>a (List.mem_cons_of_mem _ h),b⟩
inductive CO where
 | normal (s:CS)
 | exit (id:Nat) (s:CS)
 | ret (s:CS)
def CO.out:CO->Out
 | .normal s=>.normal s.st
 | .exit id s=>.exit id s.st
 | .ret s=>.ret s.st
abbrev ET:=J1d->J0z->Nat->Option CO
noncomputable def Y0E (a b:ET):ET:=fun e o k=>match a e o k with
 | some (.normal ⟨e,o,k⟩)=>b e o k
 | some (.exit id s)=>some (.exit id s)
 | some (.ret s)=>some (.ret s)
 | none=>none
noncomputable def X34 (c:X) (a b:ET):ET:=fun e o k=>match gx c e with
 | some (.bool true)=>a e o k
 | some (.bool false)=>b e o k
 | _=>none
noncomputable def Q7K (id:Nat) (b:ET):ET:=fun e o k=>match b e o k with
 | some (.exit id' s)=>match Nat.beq id' id with|true=>some (.normal s)|false=>some (.exit id' s)
 | some (.normal s)=>some (.normal s)
 | some (.ret s)=>some (.ret s)
 | none=>none
noncomputable def X0r (fuel:Nat) (b:ET):ET:=@Nat.rec (fun _=>ET) (fun _ _ _=>none) (fun _ ih e o k=>fL (prn e []) fun e=>match b e o k with
 | some (.normal ⟨e,o,k⟩)=>ih e o k
 | some (.exit id s)=>some (.exit id s)
 | some (.ret s)=>some (.ret s)
 | none=>none) fuel
noncomputable def Y0F (call:J2J) (l:List SI):ET:=fun e o k=>match X6C call l e o k with|some s=>some (.normal s)|none=>none
noncomputable def X33 (call:J2J) (l:List DI):ET:=fun e o k=>match X0O call l e o k with|some s=>some (.normal s)|none=>none
noncomputable def evC (call:J2J) (fuel:Nat) (sc:SC):ET :=
 @SC.rec (fun _=>ET) (fun e o k=>some (.normal ⟨e,o,k⟩)) (Y0F call) (X33 call) (fun _ _ a b=>Y0E a b) (fun c _ _ a b=>X34 c a b) (fun id _ b=>Q7K id b) (fun _ b=>X0r fuel b)
  (fun id e o k=>some (.exit id ⟨e,o,k⟩)) (fun e o k=>some (.ret ⟨e,o,k⟩)) (fun _ _ _ _ _ _ _ _ _=>none) sc
theorem X6n {P:Program} (hm:P.follows .mixedOrders=true) {N:Nat} {bk:BK} {call:J2J} (hcall:J8E P call) {fuel:Nat}:∀(sc:SC) (e:J1d) (o:J0z) (k:Nat) (out:CO) (K:Out->Prop),
 evC call fuel sc e o k=some out->K out.out->vc P N bk sc (J2Y e) (J0I o) (ksV k) K:=by
 intro sc
 induction sc with
 | skip=>intro e o k out K h hK;have h:some (CO.normal ⟨e,o,k⟩)=some out:=h;cases h;simp only[vc];exact hK
 | ops l =>
   intro e o k out K h hK;have h:Y0F call l e o k=some out:=h;unfold Y0F at h;split at h
   . rename_i s hs;cases h;simp only[vc];exact J7i hcall l e o k s _ hs hK
   . cases h
 | draw l =>
   intro e o k out K h hK;have h:X33 call l e o k=some out:=h;unfold X33 at h;split at h
   . rename_i s hs;cases h;simp only[vc];exact J2q hcall l e o k s _ hs hK
   . cases h
 | seq a b iha ihb =>
   intro e o k out K h hK;have h:Y0E (evC call fuel a) (evC call fuel b) e o k=some out:=h;unfold Y0E at h;simp only[vc];split at h
   . rename_i e' o' k' ha;exact iha e o k _ _ ha (ihb e' o' k' out K h hK)
   . rename_i ha;cases h;exact iha e o k _ _ ha hK
   . rename_i ha;cases h;exact iha e o k _ _ ha hK
   . cases h
 | cond c a b iha ihb =>
   intro e o k out K h hK;have h:X34 c (evC call fuel a) (evC call fuel b) e o k=some out:=h;unfold X34 at h;simp only[vc];split at h
   . rename_i hc;refine J0A hc ?_;simp only[C.v];exact iha e o k out K h hK
   . rename_i hc;refine J0A hc ?_;simp only[C.v];exact ihb e o k out K h hK
   . cases h
 | block id b ih =>
   intro e o k out K h hK;have h:Q7K id (evC call fuel b) e o k=some out:=h;unfold Q7K at h;simp only[vc];split at h
   . rename_i id' s hb;refine ih e o k _ _ hb ?_;simp only[CO.out];cases hx:Nat.beq id' id with
     | true=>rw[hx] at h;cases h;exact hK
     | false=>rw[hx] at h;cases h;exact hK
   . rename_i hb;cases h;exact ih e o k _ _ hb hK
   . rename_i hb;cases h;exact ih e o k _ _ hb hK
   . cases h
 | loop b ih =>
   intro e o k out K h hK;have h:X0r fuel (evC call fuel b) e o k=some out:=h;simp only[vc];refine J5x.toI ?_;have key:∀(n:Nat) (e:J1d) (o:J0z) (k:Nat),X0r n (evC call fuel b) e o k=some out->J5x P N bk b (J2Y e) (J0I o) (ksV k) K:=by
    intro n
    induction n with
    | zero=>intro e o k h;cases h
    | succ n ihn =>
      intro e o k h;have h:(fL (prn e []) fun e=>match evC call fuel b e o k with
       | some (.normal ⟨e,o,k⟩)=>X0r n (evC call fuel b) e o k
       | some (.exit id s)=>some (.exit id s)
       | some (.ret s)=>some (.ret s)
       | none=>none)=some out:=h
      rw[J4Z] at h;refine J5x.weak (env':=J2Y (prn e [])) (fun t v hv=>?_) (J5x.step hm ?_)
      . rw[J2Y,J2n] at hv ⊢;cases hl:look (prn e []) t with
        | none=>rw[hl] at hv;cases hv
        | some c=>rw[hl] at hv;rw[(J81 e [] t).2 c hl];exact hv
      . split at h
        . rename_i e' o' k' hb;exact ih _ _ _ _ _ hb (ihn e' o' k' h)
        . rename_i hb;cases h;exact ih _ _ _ _ _ hb hK
        . rename_i hb;cases h;exact ih _ _ _ _ _ hb hK
        . cases h
   exact key fuel e o k h
 | exit id=>intro e o k out K h hK;have h:some (CO.exit id ⟨e,o,k⟩)=some out:=h;cases h;simp only[vc];exact hK
 | ret=>intro e o k out K h hK;have h:some (CO.ret ⟨e,o,k⟩)=some out:=h;cases h;simp only[vc];exact hK
 | rf g ps a b _ _=>intro e o k out K h hK;cases h
noncomputable def X4b (e:J1d) (o:J0z):List RV->Option (List C)
 | []=>some []
 | .tmp t::r=>match lk e t with
   | some v=>match X4b e o r with|some l=>some (v::l)|none=>none
   | none=>none
 | .cell a z::r=>match lk e a with
   | some p=>match J8t o z p with
     | some v=>match X4b e o r with|some l=>some (v::l)|none=>none
     | none=>none
   | none=>none
theorem Q17 {e:J1d} {o:J0z}:∀{rs:List RV} {l:List C} {K:List V->Prop},X4b e o rs=some l->K (C.vs l)->J9H (J2Y e) (J0I o) rs K
 | [],l,K,h,hK=>by simp only[X4b,Option.some.injEq] at h;subst h;simpa[J9H,C.vs] using hK
 | .tmp t::r,l,K,h,hK=>by
   simp only[X4b] at h;split at h
   . rename_i v hv;split at h
     . rename_i l' hl;cases h;simp only[J9H,J1Q hv];exact Q17 hl (by simpa[C.vs] using hK)
     . cases h
   . cases h
 | .cell a z::r,l,K,h,hK=>by
   simp only[X4b] at h;split at h
   . rename_i p hp;split at h
     . rename_i v hv;split at h
       . rename_i l' hl;cases h;simp only[J9H,J1Q hp];exact J7n hv (Q17 hl (by simpa[C.vs] using hK))
       . cases h
     . cases h
   . cases h
def X6z:List C->C
 | [v]=>v
 | vs=>.tup vs
theorem X38 {l:List C} {K:V->Prop} (hK:K (X6z l).v):Q4e (C.vs l) K:=by
 match l with
 | [v]=>simpa[Q4e,C.vs,X6z] using hK
 | []=>simpa[Q4e,C.vs,X6z,C.v] using hK
 | a::b::r=>simpa[Q4e,C.vs,X6z,C.v] using hK
noncomputable def X7p (rs:List RV) (s:CS):Option R:=match X4b s.e s.o rs with
 | some l=>some ⟨X6z l,s.o,s.k⟩
 | none=>none
noncomputable def Y0I (rs:List RV) (o:CO):Option R:=match o with
 | .normal s=>X7p rs s
 | .ret s=>X7p rs s
 | .exit _ _=>none
def X7l:Nat->List C->J1d
 | _,[]=>[]
 | i,v::r=>(i,v)::X7l (i+1) r
theorem Q7A:∀(i:Nat) (l:List C),J2Y (X7l i l)=J7f i (C.vs l)
 | i,[]=>rfl
 | i,v::r=>by simp only[X7l,C.vs,J7f,<- Q7A (i+1) r];rfl
def X7f (c:C) (r:List Nat):List Nat:=match c with
 | .loc k _=>k::r
 | .oel k _ _ _=>k::r
 | .vec k _ _ _=>k::r
 | .map k=>k::r
 | _=>r
noncomputable def Q94 (l:List C):List Nat->List Nat:=@List.rec C (fun _=>List Nat->List Nat) (fun r=>r) (fun c _ ih r=>X7f c (ih r)) l
noncomputable def X55 (c:C) (r:List Nat):List Nat:=match c with
 | .agg cs=>Q94 cs r
 | .tup cs=>@List.rec C (fun _=>List Nat) r (fun c _ ih=>match c with | .agg cs=>Q94 cs ih | .fn _ _ cs=>Q94 cs ih|c=>X7f c ih) cs
 | .fn _ _ cs=>Q94 cs r
 | .iface _ v=>X7f v r
 | c=>X7f c r
noncomputable def X56 (b:CB) (r:List Nat):List Nat:=match b with
 | .cells cs=>@List.rec C (fun _=>List Nat) r (fun c _ ih=>X55 c ih) cs
 | _=>r
noncomputable def X84 (n:Nat) (own:J0z) (fuel:Nat):List Nat->List Nat->List Nat :=
 @Nat.rec (fun _=>List Nat->List Nat->List Nat) (fun _ seen=>seen) (fun _ ih work seen=>match work with
  | []=>seen
  | k::r=>match Nat.blt k n with
    | true=>ih r seen
    | false=>match mN k seen with
      | true=>ih r seen
      | false=>match lk own k with
        | some b=>ih (X56 b r) (k::seen)
        | none=>ih r seen) fuel
noncomputable def X81 (n:Nat) (own:J0z) (r:List Nat):List Nat:=@List.rec (Nat×CB) (fun _=>List Nat) r (fun p _ ih=>match Nat.blt p.1 n with|true=>X56 p.2 ih|false=>ih) own
noncomputable def gcO (n:Nat) (seen:List Nat) (l:J0z):(J0z->R)->R :=
 @List.rec (Nat×CB) (fun _=>(J0z->R)->R) (fun K=>K []) (fun p _ ih K=>match Nat.blt p.1 n with
  | true=>ih (fun r=>K (p::r))
  | false=>match mN p.1 seen with
    | true=>ih (fun r=>K (p::r))
    | false=>ih K) l
theorem J9h (n:Nat) (seen:List Nat):∀(l:J0z) (K:J0z->R) (P:R->Prop),(∀q,q.Sublist l->P (K q))->P (gcO n seen l K)
 | [],K,P,h=>h [] (List.Sublist.refl _)
 | p::l,K,P,h=>by
   have e:gcO n seen (p::l) K=match Nat.blt p.1 n with
    | true=>gcO n seen l (fun r=>K (p::r))
    | false=>match mN p.1 seen with
      | true=>gcO n seen l (fun r=>K (p::r))
      | false=>gcO n seen l K:=rfl
   rw[e];split
   . exact J9h n seen l _ P (fun q hq=>h _ (hq.cons_cons p))
   . split
     . exact J9h n seen l _ P (fun q hq=>h _ (hq.cons_cons p))
     . exact J9h n seen l K P (fun q hq=>h q (hq.cons p))
def newB (n:Nat) (k:Nat):Bool:=Nat.blt n k
noncomputable def gcR (n:Nat) (r:R):R:=match newB n r.k with
 | true=>fL (X84 n r.o 1000 (X55 r.v (X81 n r.o [])) []) fun seen=>gcO n seen r.o fun o=>⟨r.v,o,r.k⟩
 | false=>r
theorem X6i (n:Nat) (r:R):(gcR n r).v=r.v/\(gcR n r).k=r.k/\(gcR n r).o.Sublist r.o:=by
 unfold gcR;split
 . rw[J4Z];exact J9h n _ r.o _ (fun q=>q.v=r.v/\q.k=r.k/\q.o.Sublist r.o) (fun q hq=>⟨rfl,rfl,hq⟩)
 . exact⟨rfl,rfl,List.Sublist.refl _⟩
theorem Q9M {a b:J0z} (h:a.Sublist b):(J0I a).Sublist (J0I b):=h.map _
noncomputable def Q4R (own:J0z):List C->Option (List C)
 | []=>some []
 | v::r=>match X6I own v with
   | some c=>match Q4R own r with
     | some l=>some (c::l)
     | none=>none
   | none=>none
theorem J9u {own:J0z}:∀{l cs:List C} {K:List V->Prop},Q4R own l=some cs->K (C.vs cs)->X17 (J0I own) (C.vs l) K
 | [],cs,K,h,hK=>by simp only[Q4R,Option.some.injEq] at h;subst h;simpa[C.vs,X17] using hK
 | v::r,cs,K,h,hK=>by
   unfold Q4R at h;split at h
   . rename_i c hc;split at h
     . rename_i l hl;cases h;simp only[C.vs,X17];exact Q2g hc (J9u hl (by simpa[C.vs] using hK))
     . cases h
   . cases h
noncomputable def kfC:C->Bool
 | .agg cs=>J8C Q46 cs
 | .tup cs=>J8C Q46 cs
 | .iface _ v=>Q46 v
 | .fn _ _ cap=>J8C Q46 cap
 | v=>Q46 v
theorem X54 (c:C):c.v.kf=kfC c:=by
 cases c<;>simp[C.v,V.kf,kfC,J2Z J6W,J6W]<;>simp[Q46,V.kf1,Q8U]
def J8k:C->Bool
 | .bool _ | .int _ _ | .str _ _ | .nilptr | .nilslice | .nilmap | .nilfunc | .niliface | .unit=>true
 | _=>false
theorem Q7x (c:C):c.v.flat1=J8k c:=by cases c<;>simp[C.v,V.flat1,J8k]
noncomputable def X3T:C->Bool
 | .agg cs=>J8C J8k cs
 | .tup cs=>J8C J8k cs
 | v=>J8k v
theorem X0g (c:C):c.v.flat=X3T c:=by
 cases c<;>simp[C.v,V.flat,X3T,J2Z Q7x]<;>simp[V.flat1,J8k]
theorem LLe.self:∀(l:List V),LLe l l
 | []=>trivial
 | _::r=>⟨.rfl,LLe.self r⟩
inductive J9I where
 | code (sc:SC) (n:Nat) (rs:List RV)
 | ext (g:List C->Option C)
 | catch_
def Q8X (P:Program) (f:FuncId):J9I->Prop
 | .code sc n rs=>J06 P f=true/\∃fn c,P.funcs[f]?=some fn/\fn.body=some c/\fn.ntmps=n/\J0V P n c=some sc/\Q2i P fn.results.toList=some rs
 | .ext g=>J06 P f=true/\∀args v,g args=some v->Ret P f (C.vs args) v.v
 | .catch_=>J06 P f=true/\∀(g:FuncId) (bd:Bool) (cap:List V) (own:Own) (ks:List Nat) (K:V->Own->List Nat->Prop),J06 P g=true->J0J P g cap own ks (fun _ o k=>K (.tup [.int .i64 0,.int .i64 0]) o k)->J0J P f [.fn (.func g) bd cap] own ks K
def Q2s (P:Program):List (Nat×J9I)->Prop
 | []=>True
 | (f,d)::r=>Q8X P f d/\Q2s P r
theorem Q2s.look {P:Program}:∀{t:List (Nat×J9I)} {f:Nat} {d:J9I},Q2s P t->lk t f=some d->Q8X P f d
 | [],f,d,_,h=>by cases h
 | (q,x)::r,f,d,ht,h=>by
   rw[J7K] at h;unfold Go.Eng.look at h;split at h
   . rename_i hb;have:=Nat.eq_of_beq_eq_true hb;subst this;cases h;exact ht.1
   . rw[<- J7K] at h;exact Q2s.look ht.2 h
noncomputable def evG (tb:List (Nat×J9I)) (lf:Nat) (ih:J2J) (f:FuncId) (args:List C) (own:J0z) (ks:Nat):Option R :=
 match lk tb f with
  | some (.code sc n rs)=>match Nat.ble (ln args) n with
    | true=>match evC ih lf sc (X7l 0 args) own ks with
      | some out=>match Y0I rs out with
        | some r=>some (gcR ks r)
        | none=>none
      | none=>none
    | false=>none
  | some (.ext g)=>match J8C kfC args with
    | true=>match g args with
      | some v=>some ⟨v,own,ks⟩
      | none=>none
    | false=>match Q4R own args with
      | some args'=>match g args' with
        | some v=>match X3T v with
          | true=>some ⟨v,own,ks⟩
          | false=>none
        | none=>none
      | none=>none
  | some .catch_=>match args with
    | [.fn (.func g) _ cap]=>match ih g cap own ks with
      | some ⟨_,o,k⟩=>some ⟨.tup [.int .i64 0,.int .i64 0],o,k⟩
      | none=>none
    | _=>none
  | none=>none
noncomputable def evF (tb:List (Nat×J9I)) (lf:Nat) (fuel:Nat):J2J:=@Nat.rec (fun _=>J2J) (fun _ _ _ _=>none) (fun _ ih=>evG tb lf ih) fuel
theorem X1T {P:Program} (hm:P.follows .mixedOrders=true) {tb:List (Nat×J9I)} (ht:Q2s P tb) {lf:Nat}:∀(fuel:Nat),J8E P (evF tb lf fuel)
 | 0=>⟨fun f args own ks r h=>by cases h⟩
 | fuel+1=>⟨fun f args own ks r h=>by
   have ih:=X1T hm ht (lf:=lf) fuel;have h:evG tb lf (evF tb lf fuel) f args own ks=some r:=h;unfold evG at h;split at h
   . rename_i sc n rs hl;obtain⟨hcb,fn,c,hf,hb,hn,hc,hr⟩:=ht.look hl;subst hn;split at h
     . rename_i hle;split at h
       . rename_i out hout;split at h
         . rename_i r' hret;cases h;refine⟨hcb,fun K hK=>?_⟩;obtain⟨g1,g2,g3⟩:=X6i ks r';rw[g1,g2] at hK;refine Q8m (Q9M g3) ?_ hK;refine Q05 hm hf hb hc hr ?_ ?_
           . rw[C.vs_length];rw[Q9X] at hle;exact Nat.le_of_ble_eq_true hle
           . rw[<- Q7A];have fin:∀s,X7p rs s=some r'->J9H (J2Y s.e) (J0I s.o) rs fun vs=>Q4e vs fun v=>v=r'.v.v/\J0I s.o=J0I r'.o/\ksV s.k=ksV r'.k:=by
              intro s hs;unfold X7p at hs;split at hs
              . rename_i l hl';cases hs;exact Q17 hl' (X38 ⟨rfl,rfl,rfl⟩)
              . cases hs
             refine X6n hm ih sc _ own ks out _ hout ?_;cases out with
             | normal s=>exact fin s hret
             | ret s=>exact fin s hret
             | exit id s=>cases hret
         . cases h
       . cases h
     . cases h
   . rename_i g hl;obtain⟨hcb,hg⟩:=ht.look hl;split at h
     . split at h
       . rename_i v hv;cases h;refine⟨hcb,fun K hK=>(hg args v hv (J0I own) (ksV ks)).mono ?_⟩;rintro v' o' k' ⟨rfl,rfl,rfl⟩;exact hK
       . cases h
     . split at h
       . rename_i args' ha;split at h
         . rename_i v hv;split at h
           . rename_i hf;cases h;exact⟨hcb,fun K hK=>J0F (hg args' v hv) (by rw[X0g];exact hf) (J9u ha (LLe.self _)) hK⟩
           . cases h
         . cases h
       . cases h
   . rename_i hl;obtain⟨hcb,hg⟩:=ht.look hl;split at h
     . rename_i g bd cap _;split at h
       . rename_i v o k hi;cases h;obtain⟨a1,a2⟩:=ih.out _ _ _ _ _ hi;refine⟨hcb,fun K hK=>?_⟩;have:=hg g bd (C.vs cap) (J0I own) (ksV ks) K a1 (a2 (fun _ o k=>K (.tup [.int .i64 0,.int .i64 0]) o k) (by simpa[C.v,C.vs] using hK));simpa[C.vs,C.v] using this
       . cases h
     . cases h
   . cases h⟩
noncomputable def Y0O (r:R):Option C:=match r.v with
 | .tup cs=>match Q4R r.o cs with
   | some l=>some (.tup l)
   | none=>none
 | v=>X6I r.o v
theorem X4m {r:R} {c:C} {K:V->Prop} (h:Y0O r=some c) (hK:K c.v):Q4H (J0I r.o) r.v.v K:=by
 obtain⟨v,o,k⟩:=r;unfold Y0O at h;simp only at h ⊢;split at h
 . split at h
   . rename_i l hl;cases h;simp only[C.v,Q4H];exact J9u hl (by simpa[C.v] using hK)
   . cases h
 . rename_i hne;have hb:=Q2g h hK;cases v<;>first
    | exact(hne _ rfl).elim
    | (simp only[C.v] at hb ⊢;simp only[Q4H];exact hb)
noncomputable def evX (tb:List (Nat×J9I)) (lf fuel:Nat) (f:FuncId) (args:List C):Option C:=match J8C kfC args with
 | true=>match evF tb lf fuel f args [] 0 with
   | some r=>Y0O r
   | none=>none
 | false=>none
theorem J8n {P:Program} (hm:P.follows .mixedOrders=true) {tb:List (Nat×J9I)} (ht:Q2s P tb) {lf fuel:Nat} {f:FuncId} {args:List C} {c:C} (h:evX tb lf fuel f args=some c):Ret P f (C.vs args) c.v:=by
 unfold evX at h;split at h
 case h_2=>cases h
 rename_i hk;have hk:J2K V.kf (C.vs args)=true:=by rw[J2Z X54];exact hk
 split at h
 case h_2=>cases h
 rename_i r hr;have hc:=((X1T hm ht (lf:=lf) fuel).out _ _ _ _ _ hr).2 (fun v own' _=>Q4H own' v fun v'=>v'=c.v) (X4m h rfl);intro own ks;constructor;intro M w σ us hlen hd hh;refine(hc.out M w Sg.none us hlen (fun i v u hv hu=>(hd i v u hv hu).kf (J0s hk v (List.mem_of_getElem? hv)) Sg.none) (J18 (ksV 0) List.nodup_range')).mono ?_;rintro e w' ⟨M',σ',v,own',ks',u,rfl,hv,hh',tr,_,hfr⟩;obtain⟨v',hK,hv'⟩:=J3d hfr;subst hK;have hM:∀b,b<w.heap.size->(J48 M' w' σ' own' b↔M b):=by
  intro b hb;have hno:¬ J0u w' σ' own' b:=fun ho=>by
   rcases tr.new b ho with h1|h1
   . exact J0B h1
   . omega
  constructor
  . intro h1;exact(tr.adv.muts b hb J0B).1 h1.1
  . intro h1;exact⟨(tr.adv.muts b hb J0B).2 h1,hno⟩
 have hfr:=J2w (M'':=J48 M' w' σ' own') hh tr hM;exact⟨_,σ,c.v,own,ks,u,rfl,(hv' M' w' σ' u hh'.own hv).mono (Ext.mk (fun _ _ h=>⟨h,rfl⟩) (Nat.le_refl _)) (Sg.none_le σ),hfr.1,hfr.2,Kd.refl _ _ _,rfl,rfl,rfl⟩
theorem J7d {P:Program} {f:FuncId} {fn:Func} {c:Code} {sc:SC} {n:Nat} {rs:List RV} (hf:P.funcs[f]?=some fn) (hb:fn.body=some c) (hn:fn.ntmps=n) (hnm:(fn.name == "runtime.NumGoroutine")=false)
 (hc:J0V P fn.ntmps c=some sc) (hr:Q2i P fn.results.toList=some rs):Q8X P f (.code sc n rs):=by
 subst hn;exact⟨by simp[J06,hf,hb,hnm],fn,c,hf,hb,rfl,hc,hr⟩
noncomputable def Q9U (l:List (List C×C)) (args:List C):Option C:=@List.rec (List C×C) (fun _=>Option C) none (fun p _ ih=>match J7O args p.1 with|true=>some p.2|false=>ih) l
theorem Q7y {P:Program} {f:FuncId} (hf:J06 P f=true) (l:List (List C×C)) (h:∀p,p∈l->Ret P f (C.vs p.1) p.2.v):Q8X P f (.ext (Q9U l)):=by
 refine⟨hf,fun args v hv=>?_⟩
 induction l with
 | nil=>cases hv
 | cons p r ih =>
   have hv:(match J7O args p.1 with|true=>some p.2|false=>Q9U r args)=some v:=hv;split at hv
   . rename_i hb;cases hv;rw[J45 _ _ hb];exact h p (by simp)
   . exact ih (fun q hq=>h q (by simp[hq])) hv
theorem Q3c {P:Program} {f:FuncId} {a:List C} {c:C} (h:Ret P f (C.vs a) c.v):∀p,p∈[(a,c)]->Ret P f (C.vs p.1) p.2.v:=by
 intro p hp;simp only[List.mem_singleton] at hp;subst hp;exact h
theorem J0D {P:Program} (hm:P.follows .mixedOrders=true) {tb:List (Nat×J9I)} (ht:Q2s P tb) {lf fuel:Nat} {f:FuncId} (hf:J06 P f=true):Q8X P f (.ext (evX tb lf fuel f)) :=
 ⟨hf,fun _ _ h=>J8n hm ht h⟩
theorem Q3q {M M':Nat->Prop} {w w':World} {σ:Sg} {own:Own} {ks:List Nat} (hh:J0Q M w σ own ks) (hE:Ext M w M' w') (hM:∀b,J0u w σ own b->M' b/\w'.heap[b]?=w.heap[b]?) :
 J0Q M' w' σ own ks/\∀n,J0u w' σ own n↔J0u w σ own n:=by
 have keep:∀k b n,(k,b)∈own->(J0p w' σ k b n↔J0p w σ k b n):=fun k b n hm=>J0W (Sg.le_refl _) (hh.own.key hm) fun ob hob=>(hM ob ⟨k,b,hm,.inl hob⟩).2;exact⟨⟨⟨fun k b hm=>(hh.own.blk k b hm).mono hE (Sg.le_refl _) fun n hn=>hM n ⟨k,b,hm,hn⟩,hh.own.nodup,fun k b k' b' n m1 m2 hne e1 e2=>hh.own.apart k b k' b' n m1 m2 hne ((keep k b n m1).1 e1) ((keep k' b' n m2).1 e2)⟩,hh.fresh,hh.knodup⟩,
  fun n=>J13 hh.own (Sg.le_refl _) fun b hb=>(hM b hb).2⟩
noncomputable def X2S {α:Type} (o:Option α):Bool:=@Option.rec α (fun _=>Bool) false (fun _=>true) o
theorem J90 {α:Type} {o:Option α} {d:α} (h:X2S o=true):o=some (o.getD d):=by
 cases o with
 | none=>cases h
 | some x=>rfl
theorem J0c {P:Program} {f:FuncId} {fn:Func} {c:Code} {n:Nat} (hf:P.funcs[f]?=some fn) (hb:fn.body=some c) (hn:fn.ntmps=n) (hnm:(fn.name == "runtime.NumGoroutine")=false)
 (h:(X2S (J0V P fn.ntmps (fn.body.getD .skip))&&X2S (Q2i P fn.results.toList))=true):Q8X P f (.code ((J0V P fn.ntmps (fn.body.getD .skip)).getD .skip) n ((Q2i P fn.results.toList).getD [])):=by
 rw[Bool.and_eq_true] at h;refine J7d hf hb hn hnm ?_ (J90 h.2);have:=J90 (d:=.skip) h.1;rw[hb] at this ⊢;exact this
end Go.Eng
namespace Go.Proofs.YtlpfphlbghdokaaGreatDoor
open Go.Eng
set_option maxRecDepth 100000
set_option maxHeartbeats 1000000 in
theorem Q7e (s:ByteArray) (c:Int) (w:World) :
 Calls Tryz.prog 177 #[.string s,.int .u8 c] w fun e w'=>e=.returned (.int .i64 (Lib.indexByte s.data.toList c.toNat.toUInt8))/\w'=w:=by
 go_enter Tryz.func177,(rfl:Tryz.f177.ntmps=_)
 go_wp2
 rw[run_callFunc_extern Tryz.func197 (by kernel_rfl) (by kernel_rfl) (by kernel_rfl) (e:=Extern.BytealgIndexByte.indexByte) (by kernel_rfl),Lib.run_indexByteString];simp only[Result.andThen];rw[Oper.upon_value]
 go_wp2
 go_ret
 exact⟨rfl,rfl⟩
noncomputable def ixA (b:Nat) (l:Nat):Nat->Nat->Int:=@Nat.rec (fun _=>Nat->Nat->Int) (fun _ _=>.negSucc 0) (fun _ ih c i=>match Nat.beq (Nat.mod c 256) b with|true=>.ofNat i|false=>ih (Nat.div c 256) (Nat.succ i)) l
theorem X1N {b:Nat} (hb:b<256):∀(l c i:Nat),ixA b l c i=if Lib.indexByte (bl l c) b.toUInt8=-1 then -1 else Lib.indexByte (bl l c) b.toUInt8+i
 | 0,c,i=>rfl
 | l+1,c,i=>by
   have e:ixA b (l+1) c i=match Nat.beq (Nat.mod c 256) b with|true=>.ofNat i|false=>ixA b l (Nat.div c 256) (Nat.succ i):=rfl
   rw[e];have hm:c % 256<256:=Nat.mod_lt _ (by omega);have hge:∀(q:List UInt8) (x:UInt8),-1<=Lib.indexByte q x:=by
    intro q x
    induction q with
    | nil=>simp[Lib.indexByte]
    | cons y q ih=>simp only[Lib.indexByte];split<;>(try split)<;>omega
   cases hx:Nat.beq (Nat.mod c 256) b with
   | true =>
     have h1:c % 256=b:=Nat.eq_of_beq_eq_true hx;have h2:(UInt8.ofNat (c % 256) == b.toUInt8)=true:=by rw[h1];simp
     simp only[bl,Lib.indexByte,h2,if_true];simp
   | false =>
     have h1:c % 256≠b:=fun e=>by
      have:Nat.beq (Nat.mod c 256) b=true:=Nat.beq_eq▸e;rw[hx] at this;cases this
     have h2:(UInt8.ofNat (c % 256) == b.toUInt8)=false:=by
      rw[beq_eq_false_iff_ne];intro e;have:=congrArg UInt8.toNat e;simp at this;omega
     have ih:=X1N hb l (c / 256) (i+1);show ixA b l (c / 256) (i+1)=_;rw[ih];simp only[bl,Lib.indexByte,h2,Bool.false_eq_true,if_false];have:=hge (bl l (c / 256)) b.toUInt8;by_cases h3:Lib.indexByte (bl l (c / 256)) b.toUInt8=-1
     . simp[h3]
     . have h4:(Lib.indexByte (bl l (c / 256)) b.toUInt8 == -1)=false:=by simpa using h3
       simp only[h4,h3,if_false,Bool.false_eq_true];rw[if_neg (by omega)];omega
noncomputable def X9e (args:List C):Option C:=match args with
 | [.str l c,.int .u8 (.ofNat b)]=>match Nat.blt b 256 with
   | true=>fI (ixA b l c 0) fun n=>some (.int .i64 n)
   | false=>none
 | _=>none
theorem X6a:Q8X Tryz.prog 177 (.ext X9e):=by
 refine⟨by kernel_rfl,fun args v h own ks=>⟨fun M w σ us hlen hd hh=>?_⟩⟩;unfold X9e at h;split at h
 . rename_i l c b;split at h
   . rename_i hb;rw[X3X] at h;cases h
     match us,hlen,hd with
     | [u1,u2],_,hd =>
       have h1:=hd 0 _ u1 rfl rfl;have h2:=hd 1 _ u2 rfl rfl;simp only[C.v] at h1 h2;cases h1;cases h2;refine(Q7e _ _ w).mono ?_;rintro e w' ⟨rfl,rfl⟩;have hb:=Nat.le_of_ble_eq_true hb;have e1:Lib.indexByte (J0q l c).data.toList (Int.ofNat b).toNat.toUInt8=ixA b l c 0:=by
        rw[X1N hb];show Lib.indexByte (bl l c) b.toUInt8=_;split<;>simp_all
       rw[e1];exact⟨M,σ,_,own,ks,_,rfl,.int _ _ _,hh,Tr.refl _ _ _ _,Kd.refl _ _ _,by simp[C.v],rfl,rfl⟩
   . cases h
 . cases h
set_option maxHeartbeats 1000000 in
theorem J8Z (w:World):Calls Tryz.prog 89 #[.nilIface] w fun e w'=>e=.returned (.tuple #[.agg #[.int .i64 0,.int .i64 0],.bool false])/\w'=w.alloc (.cells #[.int .i64 0,.int .i64 0] 163):=by
 have hres:Tryz.f89.results=#[.cell 2 163,.tmp 3]:=by kernel_rfl
 go_enter Tryz.func89,(rfl:Tryz.f89.ntmps=_)
 go_wp2
 simp[bodyPost,results,go_sem]
set_option maxHeartbeats 1000000 in
theorem Q4T (p q:Addr) (w:World) :
 CallsD Tryz.prog 88 #[.pointer (some p),.pointer (some q)] .returning w fun e u' w'=>e=.returned (.tuple #[])/\u'=.returning/\w'=(w.alloc (.cells #[.int .i64 0,.int .i64 0] 163)).alloc (.cells #[.int .i64 0,.int .i64 0] 163):=by
 have hres:Tryz.f88.results=#[]:=by kernel_rfl
 refine callsD_of_wpS Tryz.func88 rfl fun c₀ cs hu=>?_;apply wpS_seq;apply wpS_region;simp[wpOpsS,go_sem,recoverD,hu,Exit.thenS];refine(J8Z w).mono ?_;rintro e w' ⟨rfl,rfl⟩;simp[go_sem];apply wpS_seq;apply wpS_region;simp[wpOpsS,go_sem,Exit.thenS];refine wpS_cond (t:=false) (by simp[Act.eval,Array.replicate]) ?_;simp only[Bool.false_eq_true,if_false];refine wpS_of_wp (wp_skip ?_);cases c₀
 simp_all [bodyPostS,results]
theorem Q4S {M:Nat->Prop} {w w2 w3 w5:World} {σ:Sg} {own:Own} {ks:List Nat} (hh:J0Q M w σ own ks) (hs2:w2.heap.size=w.heap.size+2) (h2:∀b,b<w.heap.size->w2.heap[b]?=w.heap[b]?)
 (o2:w2.os=w.os/\w2.tape=w.tape/\w2.output=w.output)
 {M3:Nat->Prop} {σ3:Sg} {own3:Own} {ks3:List Nat} (hh3:J0Q M3 w3 σ3 own3 ks3) (tr:Tr (fun b=>M b\/w.heap.size<=b) w2 σ own M3 w3 σ3 own3)
 (hs5:w3.heap.size<=w5.heap.size) (h5:∀b,b<w3.heap.size->b≠w.heap.size->b≠w.heap.size+1->w5.heap[b]?=w3.heap[b]?) (o5:w5.os=w3.os/\w5.tape=w3.tape/\w5.output=w3.output) :
 J0Q M3 w5 σ3 own3 ks3/\Tr M w σ own M3 w5 σ3 own3:=by
 have hown2:∀n,J0u w2 σ own n↔J0u w σ own n:=fun n=>J13 hh.own (Sg.le_refl _) fun b hb=>h2 b (J0r hh.own hb).2;have hs3:=tr.adv.size;have hno:∀b,b=w.heap.size\/b=w.heap.size+1->¬ J0u w3 σ3 own3 b:=by
  intro b hb ho;rcases tr.new b ho with h|h
  . have:=(J0r hh.own ((hown2 b).1 h)).2;omega
  . omega
 have hM3:∀b,b=w.heap.size\/b=w.heap.size+1->M3 b:=by
  intro b hb;refine(tr.adv.muts b (by omega) fun h=>?_).2 (.inr (by omega));have:=(J0r hh.own ((hown2 b).1 h)).2;omega
 have hE:Ext M3 w3 M3 w5:=⟨fun b hb hn=>⟨hn,h5 b hb (fun e=>hn (hM3 b (.inl e))) (fun e=>hn (hM3 b (.inr e)))⟩,hs5⟩;obtain⟨a1,a2⟩:=Q3q hh3 hE (fun b hb=>⟨(J0r hh3.own hb).1,h5 b (J0r hh3.own hb).2 (fun e=>hno b (.inl e) hb) (fun e=>hno b (.inr e) hb)⟩);refine⟨a1,⟨⟨o5.1.trans (tr.adv.os.trans o2.1),o5.2.1.trans (tr.adv.tape.trans o2.2.1),o5.2.2.trans (tr.adv.output.trans o2.2.2),by omega,fun b hb hn=>?_,fun b hb hn=>?_⟩,fun b hb=>?_,tr.le⟩⟩
 . rw[h5 b (by omega) (by omega) (by omega),tr.adv.same b (by omega) (fun h=>hn ((hown2 b).1 h)),h2 b hb]
 . refine(tr.adv.muts b (by omega) (fun h=>hn ((hown2 b).1 h))).trans ⟨fun h=>?_,.inl⟩;rcases h with h|h
   . exact h
   . omega
 . rcases tr.new b ((a2 b).1 hb) with h|h
   . exact .inl ((hown2 b).1 h)
   . right;omega
set_option maxHeartbeats 1000000 in
theorem X0R:Q8X Tryz.prog 56 .catch_:=by
 have hmf:∀(fn:Fn) (first cap:Array Value) (w:World),(Instr.makeFunc fn first cap).run Tryz.prog w=.ok (.func fn first cap) w:=fun _ _ _ _=>rfl;have hres:Tryz.f56.results=#[.cell 2 3,.cell 3 42]:=by kernel_rfl
 refine⟨by kernel_rfl,fun g bd cap own ks K hg h=>⟨fun M w σ us hlen hd hh=>?_⟩⟩
 match us,hlen,hd with
 | [u],_,hd =>
   have hu:=hd 0 _ u rfl rfl;clear hd;cases hu with
   | fn _ _ _ _ lb hcl hcd =>
     go_enter_defers Tryz.func56,(rfl:Tryz.f56.ntmps=_)
     go_wp2
     rw[J1D hg,Oper.upon_enter];have hargs:fnB bd lb++fnC bd lb=lb.toArray:=by cases bd<;>simp[fnB,fnC]
     rw[hargs];obtain⟨w2,hw2⟩:∃w2,w2=((w.alloc (Obj.cells #[Value.int IntKind.i64 0] 3)).alloc (Obj.cells #[Value.int IntKind.i64 0] 42)):=⟨_,rfl⟩;have hs2:w2.heap.size=w.heap.size+2:=by subst hw2;simp
     have h2:∀b,b<w.heap.size->w2.heap[b]?=w.heap[b]?:=by
      intro b hb;subst hw2;rw[J0K (by simp;omega),J0K hb]
     have hb0:w2.heap[w.heap.size]?=some (.cells #[.int .i64 0] 3 (0,0)):=by
      subst hw2;rw[J0K (by simp)];exact J2G
     have hb1:w2.heap[w.heap.size+1]?=some (.cells #[.int .i64 0] 42 (0,0)):=by
      subst hw2;have:=J2G (w:=w.alloc (Obj.cells #[Value.int IntKind.i64 0] 3)) (o:=Obj.cells #[Value.int IntKind.i64 0] 42);simpa using this
     have o2:w2.os=w.os/\w2.tape=w.tape/\w2.output=w.output:=by subst hw2;exact⟨rfl,rfl,rfl⟩
     have hE2:Ext M w (fun b=>M b\/w.heap.size<=b) w2:=⟨fun b hb hn=>⟨fun h=>h.elim hn (by omega),h2 b hb⟩,by omega⟩;obtain⟨hh2,_⟩:=Q3q hh hE2 (fun b hb=>⟨.inl (J0r hh.own hb).1,h2 b (J0r hh.own hb).2⟩);rw[<- hw2];refine(h.out _ w2 σ lb hcl (fun i v u hv hu=>(hcd i v u hv hu).mono hE2 (Sg.le_refl _)) hh2).mono ?_;rintro e w3 ⟨M3,σ3,v3,own3,ks3,u3,rfl,hv3,hh3,tr3,kd3,hK3⟩;have hno2:∀b,w.heap.size<=b->¬ J0u w2 σ own b:=fun b hb ho=>by
      have:=(J0r hh.own ((J13 hh.own (Sg.le_refl _) fun b hb=>h2 b (J0r hh.own hb).2).1 ho)).2;omega
     have c0:w3.heap[w.heap.size]?=some (.cells #[.int .i64 0] 3 (0,0)):=by rw[tr3.adv.same _ (by omega) (hno2 _ (by omega)),hb0]
     have c1:w3.heap[w.heap.size+1]?=some (.cells #[.int .i64 0] 42 (0,0)):=by rw[tr3.adv.same _ (by omega) (hno2 _ (by omega)),hb1]
     have k0:w3.cell? ⟨w.heap.size,0,none⟩=some (.int .i64 0):=by simp[World.cell?,c0]
     have z0:w3.frozen? ⟨w.heap.size,0,none⟩=false:=by simp[World.frozen?,c0]
     have d1:(w3.setCell ⟨w.heap.size,0,none⟩ (.int .i64 0)).heap[w.heap.size+1]?=some (.cells #[.int .i64 0] 42 (0,0)):=by rw[heap_setCell_other _ _ _ _ (by simp)];exact c1
     have k1:(w3.setCell ⟨w.heap.size,0,none⟩ (.int .i64 0)).cell? ⟨w.heap.size+1,0,none⟩=some (.int .i64 0):=by simp[World.cell?,d1]
     have z1:(w3.setCell ⟨w.heap.size,0,none⟩ (.int .i64 0)).frozen? ⟨w.heap.size+1,0,none⟩=false:=by simp[World.frozen?,d1]
     simp only
     go_wp2
     generalize hw4:((w3.setCell ⟨w.heap.size,0,none⟩ (.int .i64 0)).setCell ⟨w.heap.size+1,0,none⟩ (.int .i64 0))=w4;have hs4:w4.heap.size=w3.heap.size:=by subst hw4;simp
     have h4:∀b,b≠w.heap.size->b≠w.heap.size+1->w4.heap[b]?=w3.heap[b]?:=fun b e0 e1=>by
      subst hw4;rw[heap_setCell_other _ _ _ _ (by simpa using e1),heap_setCell_other _ _ _ _ (by simpa using e0)]
     have o4:w4.os=w3.os/\w4.tape=w3.tape/\w4.output=w3.output:=by subst hw4;exact⟨rfl,rfl,rfl⟩
     have q0:w4.heap[w.heap.size]?=some (.cells #[.int .i64 0] 3 (0,0)):=by
      subst hw4;rw[heap_setCell_other _ _ _ _ (by simp)];exact one_setCell c0
     have q1:w4.heap[w.heap.size+1]?=some (.cells #[.int .i64 0] 42 (0,0)):=by
      subst hw4;exact one_setCell d1
     refine leaves_cons (f:=88) (args:=#[.pointer (some ⟨w.heap.size,0,none⟩),.pointer (some ⟨w.heap.size+1,0,none⟩)]) (by simp) (by simp[go_sem]) ?_;refine(Q4T _ _ _).mono ?_;rintro e u' w5 ⟨rfl,rfl,rfl⟩;generalize hw5:((w4.alloc (.cells #[.int .i64 0,.int .i64 0] 163)).alloc (.cells #[.int .i64 0,.int .i64 0] 163))=w5;have hlt0:=lt_of_getElem? q0;have hlt1:=lt_of_getElem? q1;have hs5:w3.heap.size<=w5.heap.size:=by subst hw5;simp;omega
     have h5:∀b,b<w3.heap.size->w5.heap[b]?=w4.heap[b]?:=fun b hb=>by
      subst hw5;rw[J0K (by simp;omega),J0K (by omega)]
     have o5:w5.os=w3.os/\w5.tape=w3.tape/\w5.output=w3.output:=by subst hw5;exact o4
     obtain⟨f1,f2⟩:=Q4S hh hs2 h2 o2 hh3 tr3 hs5 (fun b hb e0 e1=>(h5 b hb).trans (h4 b e0 e1)) o5;have r0:w5.cell? ⟨w.heap.size,0,none⟩=some (.int .i64 0):=by simp[World.cell?,h5 _ (by omega:w.heap.size<w3.heap.size),q0]
     have r1:w5.cell? ⟨w.heap.size+1,0,none⟩=some (.int .i64 0):=by simp[World.cell?,h5 _ (by omega:w.heap.size+1<w3.heap.size),q1]
     simp[Leaves,settle,results,go_sem,r0,r1];exact⟨M3,σ3,_,J6g (.int _ _ _) (.int _ _ _),own3,ks3,f1,f2,kd3,hK3⟩
end Go.Proofs.YtlpfphlbghdokaaGreatDoor
namespace Go.Proofs.YtlpfphlbghdokaaGreatDoor
open Go.Eng
set_option maxRecDepth 100000
end Go.Proofs.YtlpfphlbghdokaaGreatDoor
