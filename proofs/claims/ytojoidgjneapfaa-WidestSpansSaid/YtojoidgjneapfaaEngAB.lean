/-
 The engine, part AB: a function's body in two parts; between them what a name stands for is frozen.
-/
import Derived.Test.YtojoidgjneapfaaEngZ
namespace Go.Eng
structure Q2T (P:Program) (N:Nat) (bk:BK) (s:SC) (env:Env) (own:Own) (ks:List Nat) (K:Out->Prop):Prop where
 out:∀c,J0X P N c=some s->∀B σb M w σ a,RIn bk.r none σb->(∀k,k∈bk.ks->σb k=none)->σb.le σ->Sim N B M w σ ⟨env,own,ks⟩ a->c.wpIn (FR none) 0 P (XP N B σb M w σ own ks K) a w
def seqS (P:Program) (N:Nat) (bk:BK) (b:SC) (K:Out->Prop) (o:Out):Prop :=
 match o with
 | .normal ⟨env,own,ks⟩=>Q2T P N bk b env own ks K
 | o=>K o
theorem J6o {P:Program} (hm:P.follows .mixedOrders=true) {N:Nat} {bk:BK} {s:SC} {env:Env} {own:Own} {ks:List Nat} {K:Out->Prop} (h:vcR P N bk s env own ks K):Q2T P N bk s env own ks K :=
 ⟨fun c hc B σb M w σ a hr hbk hle sim=>J2E hm hbk none hr c s K env own ks M w σ a hc (by rw[<- J4Z];exact h) sim hle⟩
theorem J5E {P:Program} {N:Nat} {bk:BK} {x y:SC} {env:Env} {own:Own} {ks:List Nat} {K:Out->Prop} (h:Q2T P N bk x env own ks (seqS P N bk y K)):Q2T P N bk (.seq x y) env own ks K:=by
 constructor;intro c hc B σb M w σ a hr hbk hle sim;have hc2:∃p q,c=.seq p q/\J0X P N p=some x/\J0X P N q=some y:=by
  cases c with
  | seq p q =>
    simp only[J0X] at hc;split at hc<;>simp only[Option.some.injEq,reduceCtorEq,SC.seq.injEq] at hc;rename_i e1 e2;obtain⟨rfl,rfl⟩:=hc;exact⟨p,q,rfl,e1,e2⟩
  | region id ops d=>cases d<;>simp only[J0X] at hc<;>split at hc<;>simp at hc<;>cases hc
  | _=>simp only[J0X,Option.map_eq_some_iff] at hc;first|(obtain⟨_,_,hc⟩:=hc;cases hc;done)|(cases hc;done)|(split at hc<;>first|(cases hc;done)|(split at hc<;>cases hc))
 obtain⟨p,q,rfl,hp,hq⟩:=hc2;refine wpIn_seq (wpIn_mono (h.out p hp B σb M w σ a hr hbk hle sim) ?_);intro e a' w' hx;obtain⟨M',σ',st',s1,t1,q1,l1,k1⟩:=hx;cases e<;>first
  | (obtain⟨env',own',ks'⟩:=st'
     have k1:Q2T P N bk y env' own' ks' K:=k1;exact wpIn_mono (k1.out q hq B σb M' w' σ' a' hr hbk l1 s1) fun e a w h=>XP.tr t1 q1 h)
  | exact⟨M',σ',st',s1,t1,q1,l1,k1⟩
theorem Q3e {P:Program} {N:Nat} {bk:BK} {s:SC} {env:Env} {own own':Own} {ks:List Nat} {K:Out->Prop} {v v':V} (t:Nat) (ht:look env t=some v) (hf:Q4c own v fun v1 own1=>v1=v'/\own1=own')
 (h:Q2T P N bk s ((t,v')::env) own' ks K):Q2T P N bk s env own ks K:=by
 constructor;intro c hc B σb M w σ a hr hbk hle sim;obtain⟨v1,own1,⟨rfl,rfl⟩,hsub,hs⟩:=J2N hf;obtain⟨M',h1,tr,hd,hE⟩:=hs M w σ ks _ sim.heap (sim.env t v ht);have tr0:Tr0 M w σ own M' w σ own1:=⟨tr.adv,tr.new⟩;have sim':Sim N B M' w σ ⟨(t,v1)::env,own1,ks⟩ a:=⟨fun t' v'' hv=>by
  by_cases e:t=t'
  . subst e;rw[J0k rfl] at hv;cases hv;exact hd
  . rw[J0j e] at hv;exact(sim.env t' v'' hv).mono hE (Sg.le_refl _),h1,sim.size,sim.defers.tr0 tr0⟩
 exact wpIn_mono (h.out c hc B σb M' w σ a hr hbk hle sim') fun e a w h=>XP.tr tr0 ⟨fun _ h=>h,fun _ h _=>h,fun k hk=>.inl (hsub k hk)⟩ h
theorem Q2a {P:Program} {f:FuncId} {fn:Func} {c:Code} {sc:SC} {rs:List RV} (hf:P.funcs[f]?=some fn) (hb:fn.body=some c) (hc:J0X P fn.ntmps c=some sc)
 (hr:Q0s P fn.results.toList=some rs) {args:List V} {own:Own} {ks:List Nat} {K:V->Own->List Nat->Prop} (hl:Nat.ble args.length fn.ntmps=true)
 (h:Q2T P fn.ntmps ⟨ks,none⟩ sc (J5W 0 args) own ks (Q5w rs K)):J0H P f args own ks K:=by
 constructor;intro M w σ us hlen hd hh;refine callsIn_wide.1 (callsIn_of_wp_marks (F:=Fence.wide) (n:=0) hf hb trivial ?_);have hl:=Nat.le_of_ble_eq_true hl;have sim:Sim fn.ntmps w.heap.size M w σ ⟨J5W 0 args,own,ks⟩ { tmps:=us.toArray++Array.replicate (fn.ntmps-us.toArray.size) undef,defers:=[] }:=by
  refine⟨?_,hh,by simp;omega,.nil (Nat.le_refl _)⟩;intro t v hv;obtain⟨_,h2⟩:=J3x args 0 t v hv;simp only[Nat.sub_zero] at h2;have hlt:t<us.length:=by rw[<- hlen];exact(List.getElem?_eq_some_iff.1 h2).1
  have hg:(us.toArray++Array.replicate (fn.ntmps-us.toArray.size) undef).getD t undef=us[t]:=by
   rw[Array.getD_eq_getD_getElem?,Array.getElem?_append_left (by simpa using hlt)];simp[hlt]
  rw[hg];exact hd t v _ h2 (by simp[hlt])
 refine wpIn_mono (h.out c hc _ σ M w σ _ (.inl ⟨rfl,rfl⟩) hh.fresh (Sg.le_refl _) sim) ?_;intro e a' w' hx;obtain⟨M',σ',⟨env',own',ks'⟩,s1,t1,q1,l1,k1⟩:=hx;have fin:(J8E env' own' rs fun vs=>Q2p vs fun v=>K v own' ks')->LeavesInM (FR none) 0 P fn a'.tmps (fun e w'=>∃M' σ' v' own' ks' u,e=Ending.returned u/\Den M' w' σ' v' u/\J0G M' w' σ' own' ks'/\Tr M w σ own M' w' σ' own'/\Kd σ own ks σ' own' ks'/\K v' own' ks') a'.defers .returning w':=by
  intro hk;refine J23 a'.defers w' s1.defers s1.heap fun w'' hh'' hE os tape output hsz hlow hkeep=>?_;have henv:J2n M' w'' σ' env' a':=s1.env.mono hE (Sg.le_refl _);obtain⟨vs,hK,hvs⟩:=J2G _ _ _ hr hk;obtain⟨us',u1,u1',u2,u3⟩:=hvs M' w'' σ' a' henv hh''.own;have hres:(results fn a'.tmps).run P w''=.ok (if h:us'.toArray.size=1 then us'.toArray[0] else .tuple us'.toArray) w'':=by
   rw[J45,Array.mapM_eq_mapM_toList,map_eq_pure_bind];simp only[Sem.run_bind,u3,Result.andThen_ok,Sem.run_pure]
  have tr:Tr M w σ own M' w'' σ' own':=⟨⟨os.trans t1.adv.os,tape.trans t1.adv.tape,output.trans t1.adv.output,by have:=t1.adv.size;omega,fun b hb hn=>(hlow b hb).trans (t1.adv.same b hb hn),fun b hb hn=>t1.adv.muts b hb hn⟩,fun b hb=>t1.new b ((J2i s1.heap.own (Sg.le_refl _) hkeep).1 hb),l1⟩;refine⟨_,hres,M',σ',?_⟩
  match vs,us',u1,u2,hK with
  | [v],[u],_,u2,hK=>exact⟨v,own',ks',u,by simp,u2 0 v u (by simp) (by simp),hh'',tr,q1,hK⟩
  | [],[],_,u2,hK=>exact⟨.tup [],own',ks',.tuple #[],by simp,.tup _ [] [] rfl (by simp),hh'',tr,q1,hK⟩
  | v1::v2::vr,u1::u2'::ur,hl,u2,hK=>exact⟨.tup (v1::v2::vr),own',ks',.tuple (u1::u2'::ur).toArray,by simp,.tup _ _ _ hl u2,hh'',tr,q1,hK⟩
 cases e with
 | normal=>exact fin k1
 | ret=>exact fin k1
 | _=>exact k1.elim
end Go.Eng
