import Derived.Test.YtcbnimaicgegfaaGreatDoorEvD
import Derived.WalkKit
import Derived.Defers
import Derived.Recover
import Derived.Laws.Pointers
import Derived.Lib.Walk
import Derived.Lib.Strings
import Derived.Lib.Bytealg
import Derived.Laws.Strings3
set_option linter.all false
namespace Go.Eng
structure CS where
 e:J1n
 o:J0B
 k:Nat
def CS.st (s:CS):St:=⟨J3w s.e,J0K s.o,ksV s.k⟩
noncomputable def J43 (g:Option (Nat×Bool)) (env:J1n):Option Bool:=match g with
 | none=>some true
 | some (t,a)=>match lk env t with
   | some (.bool b)=>match Bool.xor b a with|false=>some true|true=>some false
   | some .unit=>some false
   | _=>none
noncomputable def X8E {a:Type} (d:Option Nat) (v:C) (e:J1n) (K:J1n->a):a:=match d with|some t=>K ((t,v)::e)|none=>K e
abbrev KT:=J1n->J0B->Nat->Option CS
noncomputable def Q09 (d:Option Nat) (e:J1n) (c:KT) (r:Option R):Option CS:=match r with
 | some ⟨v,a,b⟩=>X8E d v e fun e=>c e a b
 | none=>none
noncomputable def opsG (call:J3c) (op:SOp) (d:Option Nat) (a:KT) (e:J1n) (o:J0B) (k:Nat) (g:Option Bool):Option CS:=match g with
 | some true=>Q09 d e a (cop call true op e o k)
 | some false=>X8E d .unit e fun e=>a e o k
 | none=>none
noncomputable def opsS (call:J3c) (a:SI) (b:KT):KT:=fun e o k=>opsG call a.op a.dst b e o k (J43 a.guard e)
noncomputable def Y1k (call:J3c) (l:List SI):KT:=@List.rec SI (fun _=>KT) (fun e o k=>some ⟨e,o,k⟩) (fun a _ b=>opsS call a b) l
theorem J8D {P:Program} {call:J3c} (a:J93 P call):∀(l:List SI) (e:J1n) (o:J0B) (k:Nat) (s:CS) (K:Env->Own->List Nat->Prop),Y1k call l e o k=some s->K (J3w s.e) (J0K s.o) (ksV s.k)->J53 P l (J3w e) (J0K o) (ksV k) K
 | [],e,o,k,s,K,h,f=>by
   have h:some (CS.mk e o k)=some s:=h;cases h;simpa[J53] using f
 | ⟨d,op,g⟩::r,e,o,k,s,K,h,f=>by
   have h:opsG call op d (Y1k call r) e o k (J43 g e)=some s:=h;have run:Q09 d e (Y1k call r) (cop call true op e o k)=some s->Q4k P op (J3w e) (J0K o) (ksV k) fun v own ks=>match (generalizing:=false) d with
    | some t=>J53 P r ((t,v)::J3w e) own ks K
    | none=>J53 P r (J3w e) own ks K:=by
    intro h;unfold Q09 at h;split at h
    . rename_i v u w q;have m:=X0s a (b:=true) (K:=fun v own ks=>match (generalizing:=false) d with
       | some t=>J53 P r ((t,v)::J3w e) own ks K
       | none=>J53 P r (J3w e) own ks K) q ?_
      . exact m
      . cases d with
        | some t=>exact J8D a r _ _ _ s K h f
        | none=>exact J8D a r _ _ _ s K h f
    . cases h
   have skip:(X8E d .unit e fun e=>Y1k call r e o k)=some s->(match (generalizing:=false) d with
         | some t=>J53 P r ((t,.raw (.tuple #[]))::J3w e) (J0K o) (ksV k) K
         | none=>J53 P r (J3w e) (J0K o) (ksV k) K):=by
    intro h;cases d with
    | some t =>
      have:=J8D a r _ _ _ s K h f;simpa[J3w,C.v] using this
    | none=>exact J8D a r _ _ _ s K h f
   simp only[J53];cases g with
   | none=>exact run h
   | some p =>
     obtain⟨t,i⟩:=p;simp only[J43] at h;cases j:lk e t with
     | none=>rw[j] at h;cases h
     | some c =>
       rw[j] at h;simp only[J16 j];cases c with
       | bool b =>
         simp only[C.v] at h ⊢;cases n:Bool.xor b i with
         | false=>rw[n] at h;exact run h
         | true=>rw[n] at h;exact skip h
       | unit=>simp only[C.v] at h ⊢;exact skip h
       | _=>cases h
def Q9y:C->Option Nat
 | .loc k _=>some k
 | .vec k _ _ _=>some k
 | .oel k _ _ _=>some k
 | _=>none
theorem Q2b (c:C):Q2a c.v=Q9y c:=by cases c<;>simp[C.v,Q2a,Q9y]
noncomputable def Q1q {c:Type} (env:J1n):List Nat->J0B->J0B->(J0B->J0B->Option c)->Option c
 | [],own,a,K=>K own a
 | t::r,own,a,K=>match lk env t with
   | some v=>match Q9y v with
     | some k=>match lk own k with
       | some b=>deC k own fun own'=>Q1q env r own' ((k,b)::a) K
       | none=>none
     | none=>Q1q env r own a K
   | none=>none
theorem J7M {j:Type} {env:J1n}:∀{l:List Nat} {own c:J0B} {K:J0B->J0B->Option j} {out:j},Q1q env l own c K=some out ->
 ∃a b,K a b=some out/\∀d:Own->Own->Prop,d (J0K a) (J0K b)->J40 (J3w env) l (J0K own) (J0K c) d
 | [],own,c,K,out,h=>⟨own,c,h,fun d e=>by simpa[J40] using e⟩
 | t::r,own,c,K,out,h=>by
   simp only[Q1q] at h;split at h
   . rename_i v m;split at h
     . rename_i k hk;split at h
       . rename_i b n;obtain⟨p,h,o⟩:=X0l h;obtain⟨i,g,h,f⟩:=J7M h;refine⟨i,g,h,fun d e=>?_⟩;simp only[J40,J16 m,Q2b,hk,J0y n];exact o _ (f d e)
       . cases h
     . rename_i hk;obtain⟨i,g,h,f⟩:=J7M h;refine⟨i,g,h,fun d e=>?_⟩;simp only[J40,J16 m,Q2b,hk];exact f d e
   . cases h
mutual
def Y1z:C->C->Bool
 | .bool a,.bool b=>a == b
 | .int k a,.int e b=>match kEq k e with|true=>ieq a b|false=>false
 | .str l c,.str m v=>match Nat.beq l m with|true=>Nat.beq c v|false=>false
 | .nilptr,.nilptr=>true
 | .nilslice,.nilslice=>true
 | .nilmap,.nilmap=>true
 | .nilfunc,.nilfunc=>true
 | .niliface,.niliface=>true
 | .loc k o,.loc e q=>match Nat.beq k e with|true=>Nat.beq o q|false=>false
 | .vec k s t len,.vec e i j h=>match Nat.beq k e,Nat.beq s i,Nat.beq t j with|true,true,true=>Nat.beq len h|_,_,_=>false
 | .map k,.map e=>Nat.beq k e
 | .agg l,.agg m=>Q2M l m
 | .fz n s f z g,.fz r i u p d=>match Nat.beq n r,Nat.beq s i,f == u with|true,true,true=>(match Q2M z p with|true=>J9Z g d|false=>false)|_,_,_=>false
 | _,_=>false
def Q2M:List C->List C->Bool
 | [],[]=>true
 | a::r,b::q=>match Y1z a b with|true=>Q2M r q|false=>false
 | _,_=>false
def J9Z:List (List C)->List (List C)->Bool
 | [],[]=>true
 | a::r,b::q=>match Q2M a b with|true=>J9Z r q|false=>false
 | _,_=>false
end
mutual
theorem X0Z:∀(a b:C),Y1z a b=true->a=b
 | a,b,h=>by
   unfold Y1z at h;split at h
   . rw[Yx] at h;rw[h]
   . split at h
     . rename_i hk;rw[J6U hk];rw[J5R,Yx] at h;rw[h]
     . cases h
   . split at h
     . rename_i hk;rw[Qc hk,Qc h]
     . cases h
   . rfl
   . rfl
   . rfl
   . rfl
   . rfl
   . split at h
     . rename_i hk;rw[Qc hk,Qc h]
     . cases h
   . split at h
     . rename_i i g e;rw[Qc i,Qc g,Qc e,Qc h]
     . cases h
   . rw[Qc h]
   . rename_i l k;rw[J7z l k h]
   . rename_i n s f z d p o q j c;split at h
     . rename_i i g e;split at h
       . rename_i m;rw[Yx] at e;rw[Qc i,Qc g,e,J7z z j m,Q2L d c h]
       . cases h
     . cases h
   . cases h
theorem J7z:∀(a b:List C),Q2M a b=true->a=b
 | [],[],_=>rfl
 | a::r,b::q,h=>by
   unfold Q2M at h;split at h
   . rename_i c;rw[X0Z a b c,J7z r q h]
   . cases h
 | [],_::_,h=>by simp[Q2M] at h
 | _::_,[],h=>by simp[Q2M] at h
theorem Q2L:∀(a b:List (List C)),J9Z a b=true->a=b
 | [],[],_=>rfl
 | a::r,b::q,h=>by
   unfold J9Z at h;split at h
   . rename_i c;rw[J7z a b c,Q2L r q h]
   . cases h
 | [],_::_,h=>by simp[J9Z] at h
 | _::_,[],h=>by simp[J9Z] at h
end
noncomputable def Q6I (env:J1n) (own:J0B):List (Option Nat×Nat×Nat)->Bool
 | []=>true
 | (sz,n,t)::r=>match lk env t with
   | some .unit=>Q6I env own r
   | some v=>match lk env n with
     | some p=>match J9S own sz p with
       | some a=>match Y1z a v with|true=>Q6I env own r|false=>false
       | none=>false
     | none=>false
   | none=>false
theorem Q0J {env:J1n} {own:J0B} {G:Prop} (d:G):∀{l:List (Option Nat×Nat×Nat)},Q6I env own l=true->J87 (J3w env) (J0K own) G l
 | [],_=>d
 | (sz,n,t)::r,h=>by
   simp only[Q6I] at h;cases b:lk env t with
   | none=>rw[b] at h;cases h
   | some c =>
     rw[b] at h;simp only[J87,J16 b];have other:(match lk env n with
      | some p=>match J9S own sz p with
        | some a=>match Y1z a c with|true=>Q6I env own r|false=>false
        | none=>false
      | none=>false)=true->(match look (J3w env) n with
      | some p=>J39 (J0K own) sz p (fun a=>a=c.v)/\J87 (J3w env) (J0K own) G r
      | none=>False):=by
      intro h;split at h
      . rename_i p hp;rw[J16 hp];split at h
        . rename_i a e;split at h
          . rename_i f;exact⟨J8H e (by rw[X0Z _ _ f]),Q0J d h⟩
          . cases h
        . cases h
      . cases h
     cases c<;>first
      | (simp only[C.v] at other ⊢;exact other h)
      | (simp only[C.v];exact Q0J d h)
theorem X04 {α:Type}:∀(l r:List α) (K:List α->Prop),K (l++r)->X8k l r K
 | [],r,K,h=>h
 | x::l,r,K,h=>by simp only[X8k];exact X04 l r _ h
noncomputable def X29 (call:J3c) (op:SOp) (d:Option Nat) (a:KT) (e:J1n) (o:J0B) (k:Nat) (g:Option Bool):Option CS:=match g with
 | some true=>Q09 d e a (cop call false op e o k)
 | some false=>X8E d .unit e fun e=>a e o k
 | none=>none
noncomputable def effR (held:List (Option Nat×Nat×Nat)) (d:Option Nat) (e:J1n) (b:J0B) (g:KT) (r:Option R):Option CS:=match r with
 | some ⟨v,a,f⟩=>match Q6I e a held with
   | true=>fL (List.append b a) fun c=>X8E d v e fun e=>g e c f
   | false=>none
 | none=>none
noncomputable def Y14 (call:J3c) (a:List Nat) (held:List (Option Nat×Nat×Nat)) (op:SOp) (d:Option Nat) (b:KT) (e:J1n) (o:J0B) (k:Nat) (g:Option Bool):Option CS:=match g with
 | some true=>Q1q e a o [] fun f c=>effR held d e c b (cop call false op e f k)
 | some false=>X8E d .unit e fun e=>b e o k
 | none=>none
noncomputable def Y6y (call:J3c) (d:DI) (c:KT):KT:=match d with
 | .op _ a=>fun e o k=>X29 call a.op a.dst c e o k (J43 a.guard e)
 | .eff _ b held a=>fun e o k=>Y14 call b held a.op a.dst c e o k (J43 a.guard e)
noncomputable def X3D (call:J3c) (l:List DI):KT:=@List.rec DI (fun _=>KT) (fun e o k=>some ⟨e,o,k⟩) (fun b _ a=>Y6y call b a) l
theorem Q2m {g:Option (Nat×Bool)} {e:J1n} {A B:Prop}:(∀b,J43 g e=some b->(match b with|true=>A|false=>B))->J43 g e≠none->J6X (J3w e) g A B:=by
 intro h a;cases g with
 | none=>exact h true rfl
 | some p =>
   obtain⟨t,d⟩:=p;simp only[J43] at h a;simp only[J6X];cases f:lk e t with
   | none=>rw[f] at a;exact(a rfl).elim
   | some c =>
     rw[f] at h a;rw[J16 f];cases c with
     | bool b =>
       simp only[C.v] at h a ⊢;cases i:Bool.xor b d with
       | false=>rw[i] at h;exact h true rfl
       | true=>rw[i] at h;exact h false rfl
     | unit=>simp only[C.v] at h ⊢;exact h false rfl
     | _=>exact(a rfl).elim
theorem J2W {P:Program} {call:J3c} (a:J93 P call):∀(l:List DI) (e:J1n) (o:J0B) (k:Nat) (s:CS) (K:Env->Own->List Nat->Prop),X3D call l e o k=some s->K (J3w s.e) (J0K s.o) (ksV s.k)->J1N P l (J3w e) (J0K o) (ksV k) K
 | [],e,o,k,s,K,h,f=>by
   have h:some (CS.mk e o k)=some s:=h;cases h;simpa[J1N] using f
 | .op w ⟨d,op,g⟩::r,e,o,k,s,K,h,f=>by
   have h:X29 call op d (X3D call r) e o k (J43 g e)=some s:=h;simp only[J1N];refine Q2m (fun b i=>?_) (fun i=>by rw[i] at h;cases h);rw[i] at h;cases b with
   | true =>
     simp only[X29] at h ⊢;unfold Q09 at h;split at h
     . rename_i v A u q;have j:=X0s a (b:=false) (K:=fun v own ks=>match (generalizing:=false) d with
        | some t=>J1N P r ((t,v)::J3w e) own ks K
        | none=>J1N P r (J3w e) own ks K) q ?_
       . exact j
       . cases d with
         | some t=>exact J2W a r _ _ _ s K h f
         | none=>exact J2W a r _ _ _ s K h f
     . cases h
   | false =>
     simp only[X29] at h ⊢;cases d with
     | some t =>
       have:=J2W a r _ _ _ s K h f;simpa[J3w,C.v] using this
     | none=>exact J2W a r _ _ _ s K h f
 | .eff w m held ⟨d,op,g⟩::r,e,o,k,s,K,h,f=>by
   have h:Y14 call m held op d (X3D call r) e o k (J43 g e)=some s:=h;simp only[J1N];refine Q2m (fun b i=>?_) (fun i=>by rw[i] at h;cases h);rw[i] at h;cases b with
   | true =>
     simp only[Y14] at h ⊢;obtain⟨z,p,h,y⟩:=J7M h;refine y _ ?_;unfold effR at h;split at h
     . rename_i v n u q;have j:=X0s a (b:=false) (K:=fun v c ks=>J87 (J3w e) c (X8k (J0K p) c fun own=>match (generalizing:=false) d with
        | some t=>J1N P r ((t,v)::J3w e) own ks K
        | none=>J1N P r (J3w e) own ks K) held) q ?_
       . exact j
       split at h
       . rename_i x;rw[J5U] at h;refine Q0J ?_ x;refine X04 _ _ _ ?_;have e2:J0K p++J0K n=J0K (p.append n):=by simp[J0K]
         rw[e2];cases d with
         | some t=>exact J2W a r _ _ _ s K h f
         | none=>exact J2W a r _ _ _ s K h f
       . cases h
     . cases h
   | false =>
     simp only[Y14] at h ⊢;cases d with
     | some t =>
       have:=J2W a r _ _ _ s K h f;simpa[J3w,C.v] using this
     | none=>exact J2W a r _ _ _ s K h f
theorem Q8P {w:World} {σ:Sg} {own own':Own} (h:own'.Sublist own) {n:Nat} (a:J0x w σ own' n):J0x w σ own n:=by
 obtain⟨k,b,c,d⟩:=a;exact⟨k,b,h.subset c,d⟩
theorem X2M {M:Nat->Prop} {w:World} {σ:Sg} {own own':Own} {ks:List Nat} (h:own'.Sublist own) (a:J0T M w σ own ks):J0T M w σ own' ks :=
 ⟨⟨fun k b f=>a.own.blk k b (h.subset f),(h.map _).nodup a.own.nodup,fun k b e g n d c=>a.own.apart k b e g n (h.subset d) (h.subset c)⟩,a.fresh,a.knodup⟩
theorem X0P {P:Program} {f:FuncId} {args:List V} {own i g:Own} {ks j:List Nat} {v:V} {K:V->Own->List Nat->Prop} (p:g.Sublist i)
 (h:J0N P f args own ks fun m s t=>m=v/\s=i/\t=j) (y:K v g j):J0N P f args own ks K :=
 ⟨fun M w σ us B A z=>(h.out M w σ us B A z).mono fun _ _ ⟨C,l,m,o,k,u,a,b,c,d,q,e⟩=>by
   obtain⟨rfl,rfl,rfl⟩:=e;exact⟨C,l,m,g,k,u,a,b,X2M p c,⟨d.adv,fun b x=>d.new b (Q8P p x),d.le⟩,⟨q.1,q.2.1,fun k hk=>q.2.2 k ((p.map _).subset hk)⟩,y⟩⟩
structure J6F (P:Program) (N:Nat) (bk:BK) (b:SC) (env:Env) (own:Own) (ks:List Nat) (K:Out->Prop):Prop where
 out:∀r σb,RIn bk.r r σb->∀c,J1p P N c=some b->∀B M w σ a,(∀k,k∈bk.ks->σb k=none)->σb.le σ->Sim N B M w σ ⟨env,own,ks⟩ a ->
  ∀(fb:Frame) (k:List Item) (cs:List Frame),fb.roundOf=(FR r).round->(FR r).fn fb.fn->(FR r).room (cs.length+1+0) ->
   ∃e a' w',XP N B σb M w σ own ks K e a' w'/\ArrivesIn (Machine.fenced P (FR r)) P (lone (fb.atR a (.code c::.inLoop c::k)) cs w) fb k cs e a' w'
theorem J6F.toI {P:Program} {N:Nat} {bk:BK} {b:SC} {env:Env} {own:Own} {ks:List Nat} {K:Out->Prop} (h:J6F P N bk b env own ks K):Q04 P N bk b env own ks K:=by
 constructor;intro r σb o c p B M w σ a m f j q k cs l g d;obtain⟨e,s,w',n,i⟩:=h.out r σb o c p B M w σ a m f j q k cs l g d;exact⟨e,s,w',n,.of_steps (.one (fenced_calm g d rfl) stepR_loop) i⟩
def Y4f (P:Program) (N:Nat) (bk:BK) (b:SC) (K:Out->Prop) (o:Out):Prop :=
 match o with
 | .normal st=>J6F P N bk b st.env st.own st.ks K
 | .exit id st=>K (.exit id st)
 | .ret st=>K (.ret st)
theorem J6F.step {P:Program} (I:P.follows .mixedOrders=true) {N:Nat} {bk:BK} {b:SC} {env:Env} {own:Own} {ks:List Nat} {K:Out->Prop} (h:vc P N bk b env own ks (Y4f P N bk b K)):J6F P N bk b env own ks K:=by
 constructor;intro r σb D c E B M w σ a v C y F k cs u s f;have J:=J4L I v r D c _ _ env own ks M w σ a E h y C;obtain⟨e,j,g,H,i⟩:=J F (.inLoop c::k) cs u s f;obtain⟨m,d,⟨o,n,q⟩,z,t2,q2,A,p⟩:=H;cases e with
 | normal =>
   have p:J6F P N bk b o n q K:=p;obtain⟨L,O,w',G,t⟩:=p.out r σb D c E B m g d j v A z F k cs u s f;exact⟨L,O,w',XP.tr t2 q2 G,.of_steps (StepsIn.trans i (.one (fenced_calm s f rfl) stepR_inLoop)) t⟩
 | exit id=>exact⟨_,j,g,⟨m,d,_,z,t2,q2,A,p⟩,.pass (x:=.inLoop c) rfl (fun _ _=>.inl (by simp)) i⟩
 | ret=>exact⟨_,j,g,⟨m,d,_,z,t2,q2,A,p⟩,.pass (x:=.inLoop c) rfl (fun _ _=>.inl (by simp)) i⟩
 | goto l=>exact p.elim
 | panic Q=>exact p.elim
 | outgrown=>exact p.elim
theorem J6F.weak {P:Program} {N:Nat} {bk:BK} {b:SC} {env env':Env} {own:Own} {ks:List Nat} {K:Out->Prop} (he:∀t v,look env' t=some v->look env t=some v) (h:J6F P N bk b env' own ks K):J6F P N bk b env own ks K:=by
 constructor;intro r σb m c n B M w σ a i g d o k cs f j e;exact h.out r σb m c n B M w σ a i g ⟨fun t v l=>d.env t v (he t v l),d.heap,d.size,d.defers⟩ o k cs f j e
noncomputable def mN (n:Nat) (l:List Nat):Bool:=@List.rec Nat (fun _=>Bool) false (fun x _ a=>@Bool.rec (fun _=>Bool) a true (Nat.beq x n)) l
theorem X9L (n:Nat):∀(l:List Nat),mN n l=J1b n l
 | []=>rfl
 | x::r=>by
   show @Bool.rec (fun _=>Bool) (mN n r) true (Nat.beq x n)=_;rw[X9L n r]
   conv=>rhs;unfold J1b
   cases Nat.beq x n<;>rfl
noncomputable def prn (l:J1n):List Nat->J1n:=@List.rec (Nat×C) (fun _=>List Nat->J1n) (fun _=>[]) (fun p _ a seen=>@Bool.rec (fun _=>J1n) (p::a (p.1::seen)) (a seen) (mN p.1 seen)) l
theorem X2b (p:Nat×C) (l:J1n) (seen:List Nat):prn (p::l) seen=match J1b p.1 seen with|true=>prn l seen|false=>p::prn l (p.1::seen):=by
 show @Bool.rec (fun _=>J1n) (p::prn l (p.1::seen)) (prn l seen) (mN p.1 seen)=_;rw[X9L];cases J1b p.1 seen<;>rfl
theorem Q0q:∀(l:J1n) (seen:List Nat) (t:Nat),(t∈seen->look (prn l seen) t=none)/\∀v,look (prn l seen) t=some v->look l t=some v
 | [],seen,t=>⟨fun _=>rfl,fun v h=>h⟩
 | (q,c)::l,seen,t=>by
   rw[X2b];cases f:J1b q seen with
   | true =>
     obtain⟨a,b⟩:=Q0q l seen t;simp only;refine⟨a,fun v h=>?_⟩;have d:q≠t:=fun e=>by
      subst e;rw[a (J0k.1 f)] at h;cases h
     rw[J0o d];exact b v h
   | false =>
     simp only;by_cases e:q=t
     . subst e;rw[J0j rfl,J0j rfl];refine⟨fun h=>?_,fun v h=>h⟩;rw[J0k.2 h] at f;cases f
     . rw[J0o e,J0o e];obtain⟨a,b⟩:=Q0q l (q::seen) t;exact⟨fun h=>a (Xz _ h),b⟩
inductive CO where
 | normal (s:CS)
 | exit (id:Nat) (s:CS)
 | ret (s:CS)
def CO.out:CO->Out
 | .normal s=>.normal s.st
 | .exit id s=>.exit id s.st
 | .ret s=>.ret s.st
abbrev ET:=J1n->J0B->Nat->Option CO
noncomputable def Y6w (a b:ET):ET:=fun e o k=>match a e o k with
 | some (.normal ⟨e,o,k⟩)=>b e o k
 | some (.exit id s)=>some (.exit id s)
 | some (.ret s)=>some (.ret s)
 | none=>none
noncomputable def X7D (c:X) (a b:ET):ET:=fun e o k=>match gx c e with
 | some (.bool true)=>a e o k
 | some (.bool false)=>b e o k
 | _=>none
noncomputable def X0e (id:Nat) (b:ET):ET:=fun e o k=>match b e o k with
 | some (.exit a s)=>match Nat.beq a id with|true=>some (.normal s)|false=>some (.exit a s)
 | some (.normal s)=>some (.normal s)
 | some (.ret s)=>some (.ret s)
 | none=>none
noncomputable def X27 (fuel:Nat) (b:ET):ET:=@Nat.rec (fun _=>ET) (fun _ _ _=>none) (fun _ a e o k=>fL (prn e []) fun e=>match b e o k with
 | some (.normal ⟨e,o,k⟩)=>a e o k
 | some (.exit id s)=>some (.exit id s)
 | some (.ret s)=>some (.ret s)
 | none=>none) fuel
noncomputable def Y6x (call:J3c) (l:List SI):ET:=fun e o k=>match Y1k call l e o k with|some s=>some (.normal s)|none=>none
noncomputable def X7C (call:J3c) (l:List DI):ET:=fun e o k=>match X3D call l e o k with|some s=>some (.normal s)|none=>none
noncomputable def evC (call:J3c) (fuel:Nat) (d:SC):ET :=
 @SC.rec (fun _=>ET) (fun e o k=>some (.normal ⟨e,o,k⟩)) (Y6x call) (X7C call) (fun _ _ a b=>Y6w a b) (fun c _ _ a b=>X7D c a b) (fun id _ b=>X0e id b) (fun _ b=>X27 fuel b)
  (fun id e o k=>some (.exit id ⟨e,o,k⟩)) (fun e o k=>some (.ret ⟨e,o,k⟩)) (fun _ _ _ _ _ _ _ _ _=>none) d
theorem Y1c {P:Program} (G:P.follows .mixedOrders=true) {N:Nat} {bk:BK} {call:J3c} (i:J93 P call) {fuel:Nat}:∀(u:SC) (e:J1n) (o:J0B) (k:Nat) (out:CO) (K:Out->Prop),
 evC call fuel u e o k=some out->K out.out->vc P N bk u (J3w e) (J0K o) (ksV k) K:=by
 intro u
 induction u with
 | skip=>intro e o k out K h d;have h:some (CO.normal ⟨e,o,k⟩)=some out:=h;cases h;simp only[vc];exact d
 | ops l =>
   intro e o k out K h d;have h:Y6x call l e o k=some out:=h;unfold Y6x at h;split at h
   . rename_i s A;cases h;simp only[vc];exact J8D i l e o k s _ A d
   . cases h
 | draw l =>
   intro e o k out K h d;have h:X7C call l e o k=some out:=h;unfold X7C at h;split at h
   . rename_i s A;cases h;simp only[vc];exact J2W i l e o k s _ A d
   . cases h
 | seq a b f m =>
   intro e o k out K h d;have h:Y6w (evC call fuel a) (evC call fuel b) e o k=some out:=h;unfold Y6w at h;simp only[vc];split at h
   . rename_i E w x r;exact f e o k _ _ r (m E w x out K h d)
   . rename_i r;cases h;exact f e o k _ _ r d
   . rename_i r;cases h;exact f e o k _ _ r d
   . cases h
 | cond c a b f m =>
   intro e o k out K h d;have h:X7D c (evC call fuel a) (evC call fuel b) e o k=some out:=h;unfold X7D at h;simp only[vc];split at h
   . rename_i D;refine J0D D ?_;simp only[C.v];exact f e o k out K h d
   . rename_i D;refine J0D D ?_;simp only[C.v];exact m e o k out K h d
   . cases h
 | block id b p =>
   intro e o k out K h d;have h:X0e id (evC call fuel b) e o k=some out:=h;unfold X0e at h;simp only[vc];split at h
   . rename_i z s j;refine p e o k _ _ j ?_;simp only[CO.out];cases F:Nat.beq z id with
     | true=>rw[F] at h;cases h;exact d
     | false=>rw[F] at h;cases h;exact d
   . rename_i j;cases h;exact p e o k _ _ j d
   . rename_i j;cases h;exact p e o k _ _ j d
   . cases h
 | loop b p =>
   intro e o k out K h d;have h:X27 fuel (evC call fuel b) e o k=some out:=h;simp only[vc];refine J6F.toI ?_;have key:∀(n:Nat) (e:J1n) (o:J0B) (k:Nat),X27 n (evC call fuel b) e o k=some out->J6F P N bk b (J3w e) (J0K o) (ksV k) K:=by
    intro n
    induction n with
    | zero=>intro e o k h;cases h
    | succ n y =>
      intro e o k h;have h:(fL (prn e []) fun e=>match evC call fuel b e o k with
       | some (.normal ⟨e,o,k⟩)=>X27 n (evC call fuel b) e o k
       | some (.exit id s)=>some (.exit id s)
       | some (.ret s)=>some (.ret s)
       | none=>none)=some out:=h
      rw[J5U] at h;refine J6F.weak (env':=J3w (prn e [])) (fun t v q=>?_) (J6F.step G ?_)
      . rw[J3w,J2V] at q ⊢;cases B:look (prn e []) t with
        | none=>rw[B] at q;cases q
        | some c=>rw[B] at q;rw[(Q0q e [] t).2 c B];exact q
      . split at h
        . rename_i E w x j;exact p _ _ _ _ _ j (y E w x h)
        . rename_i j;cases h;exact p _ _ _ _ _ j d
        . rename_i j;cases h;exact p _ _ _ _ _ j d
        . cases h
   exact key fuel e o k h
 | exit id=>intro e o k out K h d;have h:some (CO.exit id ⟨e,o,k⟩)=some out:=h;cases h;simp only[vc];exact d
 | ret=>intro e o k out K h d;have h:some (CO.ret ⟨e,o,k⟩)=some out:=h;cases h;simp only[vc];exact d
 | rf g H a b _ _=>intro e o k out K h d;cases h
noncomputable def X7J (e:J1n) (o:J0B):List RV->Option (List C)
 | []=>some []
 | .tmp t::r=>match lk e t with
   | some v=>match X7J e o r with|some l=>some (v::l)|none=>none
   | none=>none
 | .cell a z::r=>match lk e a with
   | some p=>match J9S o z p with
     | some v=>match X7J e o r with|some l=>some (v::l)|none=>none
     | none=>none
   | none=>none
theorem Q3X {e:J1n} {o:J0B}:∀{rs:List RV} {l:List C} {K:List V->Prop},X7J e o rs=some l->K (C.vs l)->Q1P (J3w e) (J0K o) rs K
 | [],l,K,h,b=>by simp only[X7J,Qf] at h;subst h;simpa[Q1P,C.vs] using b
 | .tmp t::r,l,K,h,b=>by
   simp only[X7J] at h;split at h
   . rename_i v c;split at h
     . rename_i f d;cases h;simp only[Q1P,J16 c];exact Q3X d (by simpa[C.vs] using b)
     . cases h
   . cases h
 | .cell a z::r,l,K,h,b=>by
   simp only[X7J] at h;split at h
   . rename_i p hp;split at h
     . rename_i v c;split at h
       . rename_i f d;cases h;simp only[Q1P,J16 hp];exact J8H c (Q3X d (by simpa[C.vs] using b))
       . cases h
     . cases h
   . cases h
def Y1j:List C->C
 | [v]=>v
 | a=>.tup a
theorem X7H {l:List C} {K:V->Prop} (c:K (Y1j l).v):Q65 (C.vs l) K:=by
 match l with
 | [v]=>simpa[Q65,C.vs,Y1j] using c
 | []=>simpa[Q65,C.vs,Y1j,C.v] using c
 | a::b::r=>simpa[Q65,C.vs,Y1j,C.v] using c
noncomputable def Y16 (rs:List RV) (s:CS):Option R:=match X7J s.e s.o rs with
 | some l=>some ⟨Y1j l,s.o,s.k⟩
 | none=>none
noncomputable def Y6A (rs:List RV) (o:CO):Option R:=match o with
 | .normal s=>Y16 rs s
 | .ret s=>Y16 rs s
 | .exit _ _=>none
def Y13:Nat->List C->J1n
 | _,[]=>[]
 | i,v::r=>(i,v)::Y13 (i+1) r
theorem Q97:∀(i:Nat) (l:List C),J3w (Y13 i l)=J8w i (C.vs l)
 | i,[]=>rfl
 | i,v::r=>by simp only[Y13,C.vs,J8w,<- Q97 (i+1) r];rfl
def Y1X (c:C) (r:List Nat):List Nat:=match c with
 | .loc k _=>k::r
 | .oel k _ _ _=>k::r
 | .vec k _ _ _=>k::r
 | .map k=>k::r
 | _=>r
noncomputable def X2I (l:List C):List Nat->List Nat:=@List.rec C (fun _=>List Nat->List Nat) (fun r=>r) (fun c _ a r=>Y1X c (a r)) l
noncomputable def X9X (c:C) (r:List Nat):List Nat:=match c with
 | .agg cs=>X2I cs r
 | .tup cs=>@List.rec C (fun _=>List Nat) r (fun c _ a=>match c with | .agg cs=>X2I cs a | .fn _ _ cs=>X2I cs a|c=>Y1X c a) cs
 | .fn _ _ cs=>X2I cs r
 | .iface _ v=>Y1X v r
 | c=>Y1X c r
noncomputable def X9Y (b:CB) (r:List Nat):List Nat:=match b with
 | .cells cs=>@List.rec C (fun _=>List Nat) r (fun c _ a=>X9X c a) cs
 | _=>r
noncomputable def Y39 (n:Nat) (own:J0B) (fuel:Nat):List Nat->List Nat->List Nat :=
 @Nat.rec (fun _=>List Nat->List Nat->List Nat) (fun _ seen=>seen) (fun _ c a seen=>match a with
  | []=>seen
  | k::r=>match Nat.blt k n with
    | true=>c r seen
    | false=>match mN k seen with
      | true=>c r seen
      | false=>match lk own k with
        | some b=>c (X9Y b r) (k::seen)
        | none=>c r seen) fuel
noncomputable def Y36 (n:Nat) (own:J0B) (r:List Nat):List Nat:=@List.rec (Nat×CB) (fun _=>List Nat) r (fun p _ a=>match Nat.blt p.1 n with|true=>X9Y p.2 a|false=>a) own
noncomputable def gcO (n:Nat) (seen:List Nat) (l:J0B):(J0B->R)->R :=
 @List.rec (Nat×CB) (fun _=>(J0B->R)->R) (fun K=>K []) (fun p _ a K=>match Nat.blt p.1 n with
  | true=>a (fun r=>K (p::r))
  | false=>match mN p.1 seen with
    | true=>a (fun r=>K (p::r))
    | false=>a K) l
theorem Q0K (n:Nat) (seen:List Nat):∀(l:J0B) (K:J0B->R) (P:R->Prop),(∀q,q.Sublist l->P (K q))->P (gcO n seen l K)
 | [],K,P,h=>h [] (List.Sublist.refl _)
 | p::l,K,P,h=>by
   have e:gcO n seen (p::l) K=match Nat.blt p.1 n with
    | true=>gcO n seen l (fun r=>K (p::r))
    | false=>match mN p.1 seen with
      | true=>gcO n seen l (fun r=>K (p::r))
      | false=>gcO n seen l K:=rfl
   rw[e];split
   . exact Q0K n seen l _ P (fun q a=>h _ (a.cons_cons p))
   . split
     . exact Q0K n seen l _ P (fun q a=>h _ (a.cons_cons p))
     . exact Q0K n seen l K P (fun q a=>h q (a.cons p))
def newB (n:Nat) (k:Nat):Bool:=Nat.blt n k
noncomputable def gcR (n:Nat) (r:R):R:=match newB n r.k with
 | true=>fL (Y39 n r.o 1000 (X9X r.v (Y36 n r.o [])) []) fun seen=>gcO n seen r.o fun o=>⟨r.v,o,r.k⟩
 | false=>r
theorem Y03 (n:Nat) (r:R):(gcR n r).v=r.v/\(gcR n r).k=r.k/\(gcR n r).o.Sublist r.o:=by
 unfold gcR;split
 . rw[J5U];exact Q0K n _ r.o _ (fun q=>q.v=r.v/\q.k=r.k/\q.o.Sublist r.o) (fun q a=>⟨rfl,rfl,a⟩)
 . exact⟨rfl,rfl,List.Sublist.refl _⟩
theorem X2j {a b:J0B} (h:a.Sublist b):(J0K a).Sublist (J0K b):=h.map _
noncomputable def Q6P (own:J0B):List C->Option (List C)
 | []=>some []
 | v::r=>match Y1q own v with
   | some c=>match Q6P own r with
     | some l=>some (c::l)
     | none=>none
   | none=>none
theorem Q0W {own:J0B}:∀{l cs:List C} {K:List V->Prop},Q6P own l=some cs->K (C.vs cs)->X3Q (J0K own) (C.vs l) K
 | [],cs,K,h,a=>by simp only[Q6P,Qf] at h;subst h;simpa[C.vs,X3Q] using a
 | v::r,cs,K,h,a=>by
   unfold Q6P at h;split at h
   . rename_i c d;split at h
     . rename_i l b;cases h;simp only[C.vs,X3Q];exact Q31 d (Q0W b (by simpa[C.vs] using a))
     . cases h
   . cases h
noncomputable def kfC:C->Bool
 | .agg cs=>J91 Q69 cs
 | .tup cs=>J91 Q69 cs
 | .iface _ v=>Q69 v
 | .fn _ _ cap=>J91 Q69 cap
 | v=>Q69 v
theorem X9W (c:C):c.v.kf=kfC c:=by
 cases c<;>simp[C.v,V.kf,kfC,J3z J8h,J8h]<;>simp[Q69,V.kf1,X1o]
def J9K:C->Bool
 | .bool _ | .int _ _ | .str _ _ | .nilptr | .nilslice | .nilmap | .nilfunc | .niliface | .unit=>true
 | _=>false
theorem Q9X (c:C):c.v.flat1=J9K c:=by cases c<;>simp[C.v,V.flat1,J9K]
noncomputable def X7t:C->Bool
 | .agg cs=>J91 J9K cs
 | .tup cs=>J91 J9K cs
 | v=>J9K v
theorem X2W (c:C):c.v.flat=X7t c:=by
 cases c<;>simp[C.v,V.flat,X7t,J3z Q9X]<;>simp[V.flat1,J9K]
theorem LLe.self:∀(l:List V),LLe l l
 | []=>trivial
 | _::r=>⟨.rfl,LLe.self r⟩
inductive Q5P where
 | code (sc:SC) (n:Nat) (rs:List RV)
 | ext (g:List C->Option C)
 | catch_
def X8z (P:Program) (f:FuncId):Q5P->Prop
 | .code a n rs=>J08 P f=true/\∃fn c,P.funcs[f]?=some fn/\fn.body=some c/\fn.ntmps=n/\J1p P n c=some a/\Q5H P fn.results.toList=some rs
 | .ext g=>J08 P f=true/\∀args v,g args=some v->Ret P f (C.vs args) v.v
 | .catch_=>J08 P f=true/\∀(g:FuncId) (b:Bool) (cap:List V) (own:Own) (ks:List Nat) (K:V->Own->List Nat->Prop),J08 P g=true->J0N P g cap own ks (fun _ o k=>K (.tup [.int .i64 0,.int .i64 0]) o k)->J0N P f [.fn (.func g) b cap] own ks K
def X1b (P:Program):List (Nat×Q5P)->Prop
 | []=>True
 | (f,d)::r=>X8z P f d/\X1b P r
theorem X1b.look {P:Program}:∀{t:List (Nat×Q5P)} {f:Nat} {d:Q5P},X1b P t->lk t f=some d->X8z P f d
 | [],f,d,_,h=>by cases h
 | (q,x)::r,f,d,a,h=>by
   rw[J82] at h;unfold Go.Eng.look at h;split at h
   . rename_i b;have:=Qc b;subst this;cases h;exact a.1
   . rw[<- J82] at h;exact X1b.look a.2 h
noncomputable def evG (tb:List (Nat×Q5P)) (lf:Nat) (a:J3c) (f:FuncId) (args:List C) (own:J0B) (ks:Nat):Option R :=
 match lk tb f with
  | some (.code b n rs)=>match Nat.ble (ln args) n with
    | true=>match evC a lf b (Y13 0 args) own ks with
      | some out=>match Y6A rs out with
        | some r=>some (gcR ks r)
        | none=>none
      | none=>none
    | false=>none
  | some (.ext g)=>match J91 kfC args with
    | true=>match g args with
      | some v=>some ⟨v,own,ks⟩
      | none=>none
    | false=>match Q6P own args with
      | some args'=>match g args' with
        | some v=>match X7t v with
          | true=>some ⟨v,own,ks⟩
          | false=>none
        | none=>none
      | none=>none
  | some .catch_=>match args with
    | [.fn (.func g) _ cap]=>match a g cap own ks with
      | some ⟨_,o,k⟩=>some ⟨.tup [.int .i64 0,.int .i64 0],o,k⟩
      | none=>none
    | _=>none
  | none=>none
noncomputable def evF (tb:List (Nat×Q5P)) (lf:Nat) (fuel:Nat):J3c:=@Nat.rec (fun _=>J3c) (fun _ _ _ _=>none) (fun _ a=>evG tb lf a) fuel
theorem X4N {P:Program} (x:P.follows .mixedOrders=true) {tb:List (Nat×Q5P)} (t:X1b P tb) {lf:Nat}:∀(fuel:Nat),J93 P (evF tb lf fuel)
 | 0=>⟨fun f args own ks r h=>by cases h⟩
 | fuel+1=>⟨fun f args own ks r h=>by
   have A:=X4N x t (lf:=lf) fuel;have h:evG tb lf (evF tb lf fuel) f args own ks=some r:=h;unfold evG at h;split at h
   . rename_i D n rs p;obtain⟨a,fn,c,z,I,F,H,E⟩:=t.look p;subst F;split at h
     . rename_i m;split at h
       . rename_i out j;split at h
         . rename_i i b;cases h;refine⟨a,fun K d=>?_⟩;obtain⟨L,g2,g3⟩:=Y03 ks i;rw[L,g2] at d;refine X0P (X2j g3) ?_ d;refine Q2F x z I H E ?_ ?_
           . rw[C.vs_length];rw[X2B] at m;exact Qq m
           . rw[<- Q97];have q:∀s,Y16 rs s=some i->Q1P (J3w s.e) (J0K s.o) rs fun B=>Q65 B fun v=>v=i.v.v/\J0K s.o=J0K i.o/\ksV s.k=ksV i.k:=by
              intro s u;unfold Y16 at u;split at u
              . rename_i l y;cases u;exact Q3X y (X7H ⟨rfl,rfl,rfl⟩)
              . cases u
             refine Y1c x A D _ own ks out _ j ?_;cases out with
             | normal s=>exact q s b
             | ret s=>exact q s b
             | exit id s=>cases b
         . cases h
       . cases h
     . cases h
   . rename_i g p;obtain⟨a,hg⟩:=t.look p;split at h
     . split at h
       . rename_i v w;cases h;refine⟨a,fun K d=>(hg args v w (J0K own) (ksV ks)).mono ?_⟩;rintro Q R S ⟨rfl,rfl,rfl⟩;exact d
       . cases h
     . split at h
       . rename_i args' J;split at h
         . rename_i v w;split at h
           . rename_i z;cases h;exact⟨a,fun K d=>J2e (hg args' v w) (by rw[X2W];exact z) (Q0W J (LLe.self _)) d⟩
           . cases h
         . cases h
       . cases h
   . rename_i p;obtain⟨a,hg⟩:=t.look p;split at h
     . rename_i g M cap _;split at h
       . rename_i v o k G;cases h;obtain⟨O,N⟩:=A.out _ _ _ _ _ G;refine⟨a,fun K d=>?_⟩;have:=hg g M (C.vs cap) (J0K own) (ksV ks) K O (N (fun _ o k=>K (.tup [.int .i64 0,.int .i64 0]) o k) (by simpa[C.v,C.vs] using d));simpa[C.vs,C.v] using this
       . cases h
     . cases h
   . cases h⟩
noncomputable def Y6D (r:R):Option C:=match r.v with
 | .tup cs=>match Q6P r.o cs with
   | some l=>some (.tup l)
   | none=>none
 | v=>Y1q r.o v
theorem X7T {r:R} {c:C} {K:V->Prop} (h:Y6D r=some c) (d:K c.v):Q5e (J0K r.o) r.v.v K:=by
 obtain⟨v,o,k⟩:=r;unfold Y6D at h;simp only at h ⊢;split at h
 . split at h
   . rename_i l e;cases h;simp only[C.v,Q5e];exact Q0W e (by simpa[C.v] using d)
   . cases h
 . rename_i a;have b:=Q31 h d;cases v<;>first
    | exact(a _ rfl).elim
    | (simp only[C.v] at b ⊢;simp only[Q5e];exact b)
noncomputable def evX (tb:List (Nat×Q5P)) (lf fuel:Nat) (f:FuncId) (args:List C):Option C:=match J91 kfC args with
 | true=>match evF tb lf fuel f args [] 0 with
   | some r=>Y6D r
   | none=>none
 | false=>none
theorem Q94 {P:Program} (B:P.follows .mixedOrders=true) {tb:List (Nat×Q5P)} (y:X1b P tb) {lf fuel:Nat} {f:FuncId} {args:List C} {c:C} (h:evX tb lf fuel f args=some c):Ret P f (C.vs args) c.v:=by
 unfold evX at h;split at h
 case h_2=>cases h
 rename_i hk;have hk:J3a V.kf (C.vs args)=true:=by rw[J3z X9W];exact hk
 split at h
 case h_2=>cases h
 rename_i r z;have E:=((X4N B y (lf:=lf) fuel).out _ _ _ _ _ z).2 (fun v own' _=>Q5e own' v fun q=>q=c.v) (X7T h rfl);intro own ks;constructor;intro M w σ us j hd D;refine(E.out M w Sg.none us j (fun i v u l x=>(hd i v u l x).kf (J0v hk v (Qw l)) Sg.none) (J3k (ksV 0) List.nodup_range')).mono ?_;rintro e w' ⟨p,a,v,own',t,u,rfl,l,o,k,_,d⟩;obtain⟨q,G,m⟩:=J4R d;subst G;have F:∀b,b<w.heap.size->(J55 p w' a own' b↔M b):=by
  intro b s;have n:¬ J0x w' a own' b:=fun A=>by
   rcases k.new b A with g|g
   . exact J0R g
   . omega
  constructor
  . intro g;exact(k.adv.muts b s J0R).1 g.1
  . intro g;exact⟨(k.adv.muts b s J0R).2 g,n⟩
 have d:=J3O (M'':=J55 p w' a own') D k F;exact⟨_,σ,c.v,own,ks,u,rfl,(m p w' a u o.own l).mono (Ext.mk (fun _ _ h=>⟨h,rfl⟩) (Qd _)) (Sg.none_le σ),d.1,d.2,Kd.refl _ _ _,rfl,rfl,rfl⟩
theorem J0E {P:Program} {f:FuncId} {fn:Func} {c:Code} {b:SC} {n:Nat} {rs:List RV} (d:P.funcs[f]?=some fn) (e:fn.body=some c) (h:fn.ntmps=n) (a:(fn.name == "runtime.NumGoroutine")=false)
 (i:J1p P fn.ntmps c=some b) (g:Q5H P fn.results.toList=some rs):X8z P f (.code b n rs):=by
 subst h;exact⟨by simp[J08,d,e,a],fn,c,d,e,rfl,i,g⟩
theorem J1K {P:Program} (b:P.follows .mixedOrders=true) {tb:List (Nat×Q5P)} (a:X1b P tb) {lf fuel:Nat} {f:FuncId} (c:J08 P f=true):X8z P f (.ext (evX tb lf fuel f)) :=
 ⟨c,fun _ _ h=>Q94 b a h⟩
theorem Q46 {M h:Nat->Prop} {w w':World} {σ:Sg} {own:Own} {ks:List Nat} (c:J0T M w σ own ks) (r:Ext M w h w') (g:∀b,J0x w σ own b->h b/\w'.heap[b]?=w.heap[b]?) :
 J0T h w' σ own ks/\∀n,J0x w' σ own n↔J0x w σ own n:=by
 have a:∀k b n,(k,b)∈own->(J0n w' σ k b n↔J0n w σ k b n):=fun k b n d=>J0U (Sg.le_refl _) (c.own.key d) fun o e=>(g o ⟨k,b,d,.inl e⟩).2;exact⟨⟨⟨fun k b d=>(c.own.blk k b d).mono r (Sg.le_refl _) fun n p=>g n ⟨k,b,d,p⟩,c.own.nodup,fun k b l m n j i f s e2=>c.own.apart k b l m n j i f ((a k b n j).1 s) ((a l m n i).1 e2)⟩,c.fresh,c.knodup⟩,
  fun n=>J2S c.own (Sg.le_refl _) fun b q=>(g b q).2⟩
noncomputable def X5A {α:Type} (o:Option α):Bool:=@Option.rec α (fun _=>Bool) false (fun _=>true) o
theorem Q1r {α:Type} {o:Option α} {d:α} (h:X5A o=true):o=some (o.getD d):=by
 cases o with
 | none=>cases h
 | some x=>rfl
theorem J0i {P:Program} {f:FuncId} {fn:Func} {c:Code} {n:Nat} (g:P.funcs[f]?=some fn) (b:fn.body=some c) (e:fn.ntmps=n) (a:(fn.name == "runtime.NumGoroutine")=false)
 (h:(X5A (J1p P fn.ntmps (fn.body.getD .skip))&&X5A (Q5H P fn.results.toList))=true):X8z P f (.code ((J1p P fn.ntmps (fn.body.getD .skip)).getD .skip) n ((Q5H P fn.results.toList).getD [])):=by
 rw[Qg] at h;refine J0E g b e a ?_ (Q1r h.2);have:=Q1r (d:=.skip) h.1;rw[b] at this ⊢;exact this
end Go.Eng
namespace Go.Proofs.YtcbnimaicgegfaaGreatDoor
open Go.Eng
set_option maxRecDepth 100000
set_option maxHeartbeats 1000000 in
theorem Q9I (s:ByteArray) (c:Int) (w:World) :
 Calls Tryz.prog 216 #[.string s,.int .u8 c] w fun e w'=>e=.returned (.int .i64 (Lib.indexByte s.data.toList c.toNat.toUInt8))/\w'=w:=by
 go_enter Tryz.func216,(rfl:Tryz.f216.ntmps=_)
 go_wp2
 rw[run_callFunc_extern Tryz.func241 (by kernel_rfl) (by kernel_rfl) (by kernel_rfl) (e:=Extern.BytealgIndexByte.indexByte) (by kernel_rfl),Lib.run_indexByteString];simp only[Result.andThen];rw[Oper.upon_value]
 go_wp2
 go_ret
 exact⟨rfl,rfl⟩
noncomputable def ixA (b:Nat) (l:Nat):Nat->Nat->Int:=@Nat.rec (fun _=>Nat->Nat->Int) (fun _ _=>.negSucc 0) (fun _ a c i=>match Nat.beq (Nat.mod c 256) b with|true=>.ofNat i|false=>a (Nat.div c 256) (Nat.succ i)) l
theorem X4H {b:Nat} (k:b<256):∀(l c i:Nat),ixA b l c i=if Lib.indexByte (bl l c) b.toUInt8=-1 then -1 else Lib.indexByte (bl l c) b.toUInt8+i
 | 0,c,i=>rfl
 | l+1,c,i=>by
   have e:ixA b (l+1) c i=match Nat.beq (Nat.mod c 256) b with|true=>.ofNat i|false=>ixA b l (Nat.div c 256) (Nat.succ i):=rfl
   rw[e];have n:c % 256<256:=Z5 _ (by omega);have a:∀(q:List UInt8) (x:UInt8),-1<=Lib.indexByte q x:=by
    intro q x
    induction q with
    | nil=>simp[Lib.indexByte]
    | cons y q g=>simp only[Lib.indexByte];split<;>(try split)<;>omega
   cases h:Nat.beq (Nat.mod c 256) b with
   | true =>
     have j:c % 256=b:=Qc h;have f:(UInt8.ofNat (c % 256) == b.toUInt8)=true:=by rw[j];simp
     simp only[bl,Lib.indexByte,f,Zl];simp
   | false =>
     have j:c % 256≠b:=fun e=>by
      have:Nat.beq (Nat.mod c 256) b=true:=Nat.beq_eq▸e;rw[h] at this;cases this
     have f:(UInt8.ofNat (c % 256) == b.toUInt8)=false:=by
      rw[beq_eq_false_iff_ne];intro e;have:=X6 UInt8.toNat e;simp at this;omega
     have g:=X4H k l (c / 256) (i+1);show ixA b l (c / 256) (i+1)=_;rw[g];simp only[bl,Lib.indexByte,f,Xf,Xy];have:=a (bl l (c / 256)) b.toUInt8;by_cases d:Lib.indexByte (bl l (c / 256)) b.toUInt8=-1
     . simp[d]
     . have m:(Lib.indexByte (bl l (c / 256)) b.toUInt8 == -1)=false:=by simpa using d
       simp only[m,d,Xy,Xf];rw[Qb (by omega)];omega
noncomputable def Y4l (args:List C):Option C:=match args with
 | [.str l c,.int .u8 (.ofNat b)]=>match Nat.blt b 256 with
   | true=>fI (ixA b l c 0) fun n=>some (.int .i64 n)
   | false=>none
 | _=>none
theorem X95:X8z Tryz.prog 216 (.ext Y4l):=by
 refine⟨by kernel_rfl,fun args v h own ks=>⟨fun M w σ us a hd k=>?_⟩⟩;unfold Y4l at h;split at h
 . rename_i l c b;split at h
   . rename_i d;rw[X7y] at h;cases h
     match us,a,hd with
     | [j,i],_,hd =>
       have g:=hd 0 _ j rfl rfl;have f:=hd 1 _ i rfl rfl;simp only[C.v] at g f;cases g;cases f;refine(Q9I _ _ w).mono ?_;rintro e w' ⟨rfl,rfl⟩;have d:=Qq d;have m:Lib.indexByte (J0t l c).data.toList (Int.ofNat b).toNat.toUInt8=ixA b l c 0:=by
        rw[X4H d];show Lib.indexByte (bl l c) b.toUInt8=_;split<;>simp_all
       rw[m];exact⟨M,σ,_,own,ks,_,rfl,.int _ _ _,k,Tr.refl _ _ _ _,Kd.refl _ _ _,by simp[C.v],rfl,rfl⟩
   . cases h
 . cases h
set_option maxHeartbeats 1000000 in
theorem Q0o (w:World):Calls Tryz.prog 91 #[.nilIface] w fun e w'=>e=.returned (.tuple #[.agg #[.int .i64 0,.int .i64 0],.bool false])/\w'=w.alloc (.cells #[.int .i64 0,.int .i64 0] 165):=by
 have hres:Tryz.f91.results=#[.cell 2 165,.tmp 3]:=by kernel_rfl
 go_enter Tryz.func91,(rfl:Tryz.f91.ntmps=_)
 go_wp2
 simp[bodyPost,results,go_sem]
set_option maxHeartbeats 1000000 in
theorem Q6R (p q:Addr) (w:World) :
 CallsD Tryz.prog 90 #[.pointer (some p),.pointer (some q)] .returning w fun e u' w'=>e=.returned (.tuple #[])/\u'=.returning/\w'=(w.alloc (.cells #[.int .i64 0,.int .i64 0] 165)).alloc (.cells #[.int .i64 0,.int .i64 0] 165):=by
 have hres:Tryz.f90.results=#[]:=by kernel_rfl
 refine callsD_of_wpS Tryz.func90 rfl fun c₀ cs hu=>?_;apply wpS_seq;apply wpS_region;simp[wpOpsS,go_sem,recoverD,hu,Exit.thenS];refine(Q0o w).mono ?_;rintro e w' ⟨rfl,rfl⟩;simp[go_sem];apply wpS_seq;apply wpS_region;simp[wpOpsS,go_sem,Exit.thenS];refine wpS_cond (t:=false) (by simp[Act.eval,Array.replicate]) ?_;simp only[Xf,Xy];refine wpS_of_wp (wp_skip ?_);cases c₀
 simp_all [bodyPostS,results]
theorem Q6Q {M:Nat->Prop} {w k g j:World} {σ:Sg} {own:Own} {ks:List Nat} (s:J0T M w σ own ks) (A:k.heap.size=w.heap.size+2) (y:∀b,b<w.heap.size->k.heap[b]?=w.heap[b]?)
 (u:k.os=w.os/\J0S k w/\k.output=w.output)
 {o:Nat->Prop} {f:Sg} {c:Own} {p:List Nat} (m:J0T o g f c p) (i:Tr (fun b=>M b\/w.heap.size<=b) k σ own o g f c)
 (v:g.heap.size<=j.heap.size) (x:∀b,b<g.heap.size->b≠w.heap.size->b≠w.heap.size+1->j.heap[b]?=g.heap[b]?) (t:j.os=g.os/\J0S j g/\j.output=g.output) :
 J0T o j f c p/\Tr M w σ own o j f c:=by
 have a:∀n,J0x k σ own n↔J0x w σ own n:=fun n=>J2S s.own (Sg.le_refl _) fun b d=>y b (J0p s.own d).2;have z:=i.adv.size;have q:∀b,b=w.heap.size\/b=w.heap.size+1->¬ J0x g f c b:=by
  intro b d B;rcases i.new b B with h|h
  . have:=(J0p s.own ((a b).1 h)).2;omega
  . omega
 have r:∀b,b=w.heap.size\/b=w.heap.size+1->o b:=by
  intro b d;refine(i.adv.muts b (by omega) fun h=>?_).2 (.inr (by omega));have:=(J0p s.own ((a b).1 h)).2;omega
 have C:Ext o g o j:=⟨fun b d l=>⟨l,x b d (fun e=>l (r b (.inl e))) (fun e=>l (r b (.inr e)))⟩,v⟩;obtain⟨E,D⟩:=Q46 m C (fun b d=>⟨(J0p m.own d).1,x b (J0p m.own d).2 (fun e=>q b (.inl e) d) (fun e=>q b (.inr e) d)⟩);refine⟨E,⟨⟨t.1.trans (i.adv.os.trans u.1),t.2.1.trans (i.adv.tape.trans u.2.1),t.2.2.trans (i.adv.output.trans u.2.2),by omega,fun b d l=>?_,fun b d l=>?_⟩,fun b d=>?_,i.le⟩⟩
 . rw[x b (by omega) (by omega) (by omega),i.adv.same b (by omega) (fun h=>l ((a b).1 h)),y b d]
 . refine(i.adv.muts b (by omega) (fun h=>l ((a b).1 h))).trans ⟨fun h=>?_,.inl⟩;rcases h with h|h
   . exact h
   . omega
 . rcases i.new b ((D b).1 d) with h|h
   . exact .inl ((a b).1 h)
   . right;omega
set_option maxHeartbeats 1000000 in
theorem X3F:X8z Tryz.prog 39 .catch_:=by
 have hmf:∀(fn:Fn) (first cap:Array Value) (w:World),(Instr.makeFunc fn first cap).run Tryz.prog w=.ok (.func fn first cap) w:=fun _ _ _ _=>rfl;have hres:Tryz.f39.results=#[.cell 2 3,.cell 3 40]:=by kernel_rfl
 refine⟨by kernel_rfl,fun g bd cap own ks K hg h=>⟨fun M w σ us hlen hd hh=>?_⟩⟩
 match us,hlen,hd with
 | [u],_,hd =>
   have hu:=hd 0 _ u rfl rfl;clear hd;cases hu with
   | fn _ _ _ _ lb hcl hcd =>
     go_enter_defers Tryz.func39,(rfl:Tryz.f39.ntmps=_)
     go_wp2
     rw[J1V hg,Oper.upon_enter];have hargs:fnB bd lb++fnC bd lb=lb.toArray:=by cases bd<;>simp[fnB,fnC]
     rw[hargs];obtain⟨w2,hw2⟩:∃w2,w2=((w.alloc (Obj.cells #[Value.int IntKind.i64 0] 3)).alloc (Obj.cells #[Value.int IntKind.i64 0] 40)):=⟨_,rfl⟩;have hs2:w2.heap.size=w.heap.size+2:=by subst hw2;simp
     have h2:∀b,b<w.heap.size->w2.heap[b]?=w.heap[b]?:=by
      intro b hb;subst hw2;rw[J0G (by simp;omega),J0G hb]
     have hb0:w2.heap[w.heap.size]?=some (.cells #[.int .i64 0] 3 (0,0)):=by
      subst hw2;rw[J0G (by simp)];exact J2B
     have hb1:w2.heap[w.heap.size+1]?=some (.cells #[.int .i64 0] 40 (0,0)):=by
      subst hw2;have:=J2B (w:=w.alloc (Obj.cells #[Value.int IntKind.i64 0] 3)) (o:=Obj.cells #[Value.int IntKind.i64 0] 40);simpa using this
     have o2:w2.os=w.os/\J0S w2 w/\w2.output=w.output:=by subst hw2;exact⟨rfl,.rf rfl rfl,rfl⟩
     have hE2:Ext M w (fun b=>M b\/w.heap.size<=b) w2:=⟨fun b hb hn=>⟨fun h=>h.elim hn (by omega),h2 b hb⟩,by omega⟩;obtain⟨hh2,_⟩:=Q46 hh hE2 (fun b hb=>⟨.inl (J0p hh.own hb).1,h2 b (J0p hh.own hb).2⟩);rw[<- hw2];refine(h.out _ w2 σ lb hcl (fun i v u hv hu=>(hcd i v u hv hu).mono hE2 (Sg.le_refl _)) hh2).mono ?_;rintro e w3 ⟨M3,σ3,v3,own3,ks3,u3,rfl,hv3,hh3,tr3,kd3,hK3⟩;have hno2:∀b,w.heap.size<=b->¬ J0x w2 σ own b:=fun b hb ho=>by
      have:=(J0p hh.own ((J2S hh.own (Sg.le_refl _) fun b hb=>h2 b (J0p hh.own hb).2).1 ho)).2;omega
     have c0:w3.heap[w.heap.size]?=some (.cells #[.int .i64 0] 3 (0,0)):=by rw[tr3.adv.same _ (by omega) (hno2 _ (by omega)),hb0]
     have c1:w3.heap[w.heap.size+1]?=some (.cells #[.int .i64 0] 40 (0,0)):=by rw[tr3.adv.same _ (by omega) (hno2 _ (by omega)),hb1]
     have k0:w3.cell? ⟨w.heap.size,0,none⟩=some (.int .i64 0):=by simp[World.cell?,c0]
     have z0:w3.frozen? ⟨w.heap.size,0,none⟩=false:=by simp[World.frozen?,c0]
     have d1:(w3.setCell ⟨w.heap.size,0,none⟩ (.int .i64 0)).heap[w.heap.size+1]?=some (.cells #[.int .i64 0] 40 (0,0)):=by rw[heap_setCell_other _ _ _ _ (by simp)];exact c1
     have k1:(w3.setCell ⟨w.heap.size,0,none⟩ (.int .i64 0)).cell? ⟨w.heap.size+1,0,none⟩=some (.int .i64 0):=by simp[World.cell?,d1]
     have z1:(w3.setCell ⟨w.heap.size,0,none⟩ (.int .i64 0)).frozen? ⟨w.heap.size+1,0,none⟩=false:=by simp[World.frozen?,d1]
     simp only
     go_wp2
     generalize hw4:((w3.setCell ⟨w.heap.size,0,none⟩ (.int .i64 0)).setCell ⟨w.heap.size+1,0,none⟩ (.int .i64 0))=w4;have hs4:w4.heap.size=w3.heap.size:=by subst hw4;simp
     have h4:∀b,b≠w.heap.size->b≠w.heap.size+1->w4.heap[b]?=w3.heap[b]?:=fun b e0 e1=>by
      subst hw4;rw[heap_setCell_other _ _ _ _ (by simpa using e1),heap_setCell_other _ _ _ _ (by simpa using e0)]
     have o4:w4.os=w3.os/\J0S w4 w3/\w4.output=w3.output:=by subst hw4;exact⟨rfl,.rf rfl rfl,rfl⟩
     have q0:w4.heap[w.heap.size]?=some (.cells #[.int .i64 0] 3 (0,0)):=by
      subst hw4;rw[heap_setCell_other _ _ _ _ (by simp)];exact one_setCell c0
     have q1:w4.heap[w.heap.size+1]?=some (.cells #[.int .i64 0] 40 (0,0)):=by
      subst hw4;exact one_setCell d1
     refine leaves_cons (f:=90) (args:=#[.pointer (some ⟨w.heap.size,0,none⟩),.pointer (some ⟨w.heap.size+1,0,none⟩)]) (by simp) (by simp[go_sem]) ?_;refine(Q6R _ _ _).mono ?_;rintro e u' w5 ⟨rfl,rfl,rfl⟩;generalize hw5:((w4.alloc (.cells #[.int .i64 0,.int .i64 0] 165)).alloc (.cells #[.int .i64 0,.int .i64 0] 165))=w5;have hlt0:=lt_of_getElem? q0;have hlt1:=lt_of_getElem? q1;have hs5:w3.heap.size<=w5.heap.size:=by subst hw5;simp;omega
     have h5:∀b,b<w3.heap.size->w5.heap[b]?=w4.heap[b]?:=fun b hb=>by
      subst hw5;rw[J0G (by simp;omega),J0G (by omega)]
     have o5:w5.os=w3.os/\J0S w5 w3/\w5.output=w3.output:=by subst hw5;exact⟨o4.1,⟨o4.2.1.eq,o4.2.1.le⟩,o4.2.2⟩
     obtain⟨f1,f2⟩:=Q6Q hh hs2 h2 o2 hh3 tr3 hs5 (fun b hb e0 e1=>(h5 b hb).trans (h4 b e0 e1)) o5;have r0:w5.cell? ⟨w.heap.size,0,none⟩=some (.int .i64 0):=by simp[World.cell?,h5 _ (by omega:w.heap.size<w3.heap.size),q0]
     have r1:w5.cell? ⟨w.heap.size+1,0,none⟩=some (.int .i64 0):=by simp[World.cell?,h5 _ (by omega:w.heap.size+1<w3.heap.size),q1]
     simp[Leaves,settle,results,go_sem,r0,r1];exact⟨M3,σ3,_,J7u (.int _ _ _) (.int _ _ _),own3,ks3,f1,f2,kd3,hK3⟩
end Go.Proofs.YtcbnimaicgegfaaGreatDoor
