import Derived.Test.YtlpfphlbghdokaaGreatDoorEngH2
import Derived.BigCall
import Derived.Orders
import Derived.TacticsIn
import Derived.IntWalk
namespace Go.Eng
def SOp.isEff:SOp->Bool
 | .xt (.mks _ _ _ _)=>false
 | .asg _ | .store _ _ _ | .app _ _ _ _ | .clr _ _ _ | .call _ _ | .callv _ _ | .xt _=>true
 | _=>false
theorem J1K {P:Program} {f:FuncId} (h:J08 P f=true) (args:Array Value) (w:World):(callFunc f args).run P w=.ok (.enter f args) w:=by
 unfold J08 at h;split at h
 . rename_i fn hf;split at h
   . rename_i c hb;split at h
     . cases h
     . rename_i hn;simp only[callFunc,Sem.run_bind,run_program,Result.andThen_ok,hf,hn,hb,Option.isNone_some,Bool.false_eq_true,if_false,Sem.run_pure]
   . cases h
 . cases h
theorem Q83 {P:Program} {e:TypeId} {s:Nat} {zs:List V} (h4:J3a P e=some s) (h5:J1P P e=some zs) (h7:zs.length=s) (M:Nat->Prop) (w:World) :
 ∃z,(zeroValue e).run P w=.ok z w/\∀n,((Builtin.zeroCells z.cells n).toList).length=n*s/\(∀i j,i<n->j<s->∃x,(Builtin.zeroCells z.cells n).toList[i*s+j]?=some x/\Den M w Sg.none (zs.getD j default) x) /\
  ∀x∈(Builtin.zeroCells z.cells n).toList,x.oneCell'=true:=by
 obtain⟨i,z,hi,hz,hzc⟩:=J03 h5;obtain⟨l1,l2⟩:=J0U (M:=M) (w:=w) Sg.none hzc;have hcb:=J2u hzc;have hsz:z.cells.size=s:=by simpa using(l1.symm.trans h7)
 refine⟨z,by simp[zeroValue,typeInfo,Sem.run_bind,hi,hz,go_sem],fun n=>?_⟩;have hlen:(Builtin.zeroCells z.cells n).toList.length=n*s:=by simp[Builtin.zeroCells,hsz]
 have hget:∀q,q<n*s->(Builtin.zeroCells z.cells n).toList[q]?=some (z.cells[q % s]!):=by
  intro q hq;simp[Builtin.zeroCells,hsz,hq]
 refine⟨hlen,?_,?_⟩
 . intro i j hi' hj;have hq:i*s+j<n*s:=by
    have:(i+1)*s<=n*s:=Nat.mul_le_mul_right _ hi';rw[Nat.succ_mul] at this;omega
   refine⟨_,hget _ hq,?_⟩;have hmod:(i*s+j) % s=j:=by rw[Nat.mul_comm,Nat.mul_add_mod];exact Nat.mod_eq_of_lt hj
   rw[hmod];have hj':j<zs.length:=by omega
   have hj2:j<z.cells.size:=by omega
   have:=l2 j (zs[j]) (z.cells[j]) (by simp[hj']) (by simp[hj2]);simpa[List.getD,hj',getElem!_pos z.cells j hj2] using this
 . intro x hx;obtain⟨q,hq,he⟩:=List.getElem_of_mem hx;have hq':q<n*s:=by rw[<- hlen];exact hq
   have h1:=hget q hq';rw[List.getElem?_eq_getElem hq,he] at h1;cases h1;have hspos:0<s:=by
    rcases Nat.eq_zero_or_pos s with h|h
    . subst h;simp at hq'
    . exact h
   have hj2:q % s<z.cells.size:=by rw[hsz];exact Nat.mod_lt _ hspos
   have hj':q % s<zs.length:=by rw[h7];exact Nat.mod_lt _ hspos
   have hd:=l2 (q % s) (zs[q % s]) (z.cells[q % s]) (by simp[hj']) (by simp[hj2]);have:=hd.oneCell (hcb _ (List.getElem_mem hj'));simpa[getElem!_pos z.cells (q % s) hj2] using this
theorem J8J {P:Program} {o:Oper} {so:SOp} (hc:cOp P o.op=some so) (hcv:∀x xs,so≠.callv x xs) (he:so.isEff=true) {env:Env} {own:Own} {ks:List Nat} {K:V->Own->List Nat->Prop} (h:vop P so env own ks K)
 {M:Nat->Prop} {w:World} {σ:Sg} {a:Act} (ok:∀x,x∈so.xs->XOk M w σ env a x) (hh:J0S M w σ own ks) (Q:Exit->Act->World->Prop):o.wp P a w (OP o a M w σ own ks K) Q:=by
 obtain⟨dst,op,type,pos,after,guard⟩:=o;have hw:=J2c hc;simp only at hw;cases hw<;>simp only[SOp.isEff,reduceCtorEq] at he
 case callv=>exact(hcv _ _ rfl).elim
 case xt xo hx=>exact Q5X (o:=⟨dst,op,type,pos,after,guard⟩) hx h ok hh Q
 case asg x0 x hx =>
  obtain⟨v,hK,hv⟩:=J0h hx h;exact J0y (o:=⟨dst,.assign x0,type,pos,after,guard⟩) (u:=a.eval x0) rfl ⟨_,M,σ,v,own,ks,rfl,hv M w σ a (ok _ (by simp[SOp.xs])),hh,Tr.refl _ _ _ _,Kd.refl _ _ _,hK⟩
 case store t a0 x0 n xa xx h1 h2 h3 h4 =>
  obtain⟨p,h,hp⟩:=J0h h3 h;obtain⟨v,h,hv⟩:=J0h h4 h;obtain⟨v1,own1,h,hkk,hfz⟩:=J83 h;obtain⟨M1,hh1,tr1,hv1,hE1⟩:=hfz M w σ ks _ hh (hv M w σ a (ok _ (by simp[SOp.xs])));obtain⟨w',own',r1,r2,r3,r4,hK⟩:=Q0g h1 h2 h hh1 ((hp M w σ a (ok _ (by simp[SOp.xs]))).mono hE1 (Sg.le_refl _)) hv1;have hrun:(execOp a.eval ⟨dst,.store t a0 x0,type,pos,after,guard⟩).run P w=.ok .skip w':=by
   show((Instr.storeAt t (a.eval a0) (a.eval x0) >>= fun _=>pure Next.skip):Sem Next).run P w=_;rw[Sem.run_bind,r1];rfl
  unfold Oper.wp;rw[hrun];exact⟨undef,M1,σ,_,own',ks,rfl,.raw _ _,r2,tr1.trans r3,⟨fun _ h=>h,fun _ h _=>h,fun k hk=>.inl (hkk k (r4 k hk))⟩,hK⟩
 case call f args ats xs h1 h2 =>
  obtain⟨vs,h,hl,hvs⟩:=J39 h2 h;have hrun:(execOp a.eval ⟨dst,.call ⟨.value (.func f),args,ats⟩,type,pos,after,guard⟩).run P w=.ok (.enter f (args.map a.eval)) w:=by
   rw[execOp_call_go];have:#[]++args.map a.eval++#[]=args.map a.eval:=by simp
   rw[this];exact J1K h1 _ w
  unfold Oper.wp;rw[hrun];have hargs:args.map a.eval=(args.toList.map a.eval).toArray:=by
   apply Array.ext';simp
  rw[hargs];refine(h.out M w σ (args.toList.map a.eval) (by simpa using hl) (hvs M w σ a ok) hh).mono ?_;rintro e w' ⟨M',σ',v,own',ks',u,rfl,d,hh',tr,kd,hK⟩;exact⟨u,M',σ',v,own',ks',rfl,d,hh',tr,kd,J5w hK⟩
 case app args ats t t2 e e2 s b zs x0 y0 x y h1 h2 h3 h4 h5 h6 h7 h8 h9 h10 =>
  obtain⟨vx,hg1,hx⟩:=J0h h8 h;clear h;obtain⟨vy,hg2,hy⟩:=J0h h9 hg1;clear hg1;have dx:=hx M w σ a (ok _ (by simp[SOp.xs]));have dy:=hy M w σ a (ok _ (by simp[SOp.xs]));have hats0:ats[0]?=some t:=by rw[<- Array.getElem?_toList,h2];rfl
  have hats1:ats[1]?=some t2:=by rw[<- Array.getElem?_toList,h2];rfl
  have hargs:args.map a.eval=#[a.eval x0,a.eval y0]:=by
   apply Array.ext';simp[h1]
  have fin:∀(u:Value) (w':World),(Builtin.append_ ats type #[a.eval x0,a.eval y0]).run P w=.ok u w' ->
   (execOp a.eval ⟨dst,.call ⟨.builtin .append,args,ats⟩,type,pos,after,guard⟩).run P w=.ok (.value u) w':=by
   intro u w' hu;show((pure { target:=Target.builtin .append ats type (args.map fun | .const _=>true|_=>false),args:=args.map a.eval }:Sem Deferred) >>= fun d=>invoke d.target d.args).run P w=_;rw[Sem.run_bind,hargs];exact J05 hu
  obtain⟨vy1,own1,hg2,hkk,hfz⟩:=Q2a hg2;obtain⟨M1,hh1,tr1,dy1,hE1⟩:=hfz M w σ _ hh dy;have dx1:=dx.mono hE1 (Sg.le_refl _);clear dx dy hfz;have kdc:∀{σ':Sg} {o:Own} {k:List Nat},Kd σ own1 ks σ' o k->Kd σ own ks σ' o k:=fun h=>⟨h.1,h.2.1,fun q hq=>(h.2.2 q hq).imp (hkk q) id⟩;obtain⟨m,fy,hq,hsrc⟩:=J5l hg2;clear hg2;have hS:=hsrc M1 w σ _ dy1 hh1.own;have h:=hq;clear hq;split at h
  . obtain⟨l1,l2,h⟩:=h;obtain⟨k,ks',rfl,hK⟩:=J0D h;generalize a.eval x0=ux at *;cases dx1;obtain⟨u,w',M',σ',r1,r2,r3,r4,r5⟩:=J55 (ty:=type) hats0 hats1 h3 h4 h5 h6 h7 h10 hh1 hS l1 l2 none;exact J0y (fin u w' r1) ⟨u,M',σ',_,_,_,rfl,r4,r2,tr1.trans r3,kdc r5,hK⟩
  . obtain⟨l1,l2,h⟩:=h;obtain⟨k,ks',rfl,hK⟩:=J0D h;generalize a.eval x0=ux at *;have:∃ad,ux=.slice ad 0 0:=by
     cases dx1 with
     | fz0 _ _ _ _ ad c hf=>exact⟨ad,by rw[hf rfl]⟩
     | fz _ _ _ _ _ b off c u hc hf=>exact⟨_,by rw[hf rfl]⟩
    obtain⟨ad,rfl⟩:=this;obtain⟨u,w',M',σ',r1,r2,r3,r4,r5⟩:=J55 (ty:=type) hats0 hats1 h3 h4 h5 h6 h7 h10 hh1 hS l1 l2 ad;exact J0y (fin u w' r1) ⟨u,M',σ',_,_,_,rfl,r4,r2,tr1.trans r3,kdc r5,hK⟩
  . rename_i k s' lo len;split at h
    . rename_i n s'' f hlook;split at h
      . rename_i e1 e2;have e1:=Nat.eq_of_beq_eq_true e1;have e2:=Nat.eq_of_beq_eq_true e2;subst e1 e2;have grow:Q6e own1 ks s b k lo len n m f fy K->Oper.wp P ⟨dst,.call ⟨.builtin .append,args,ats⟩,type,pos,after,guard⟩ a w (OP ⟨dst,.call ⟨.builtin .append,args,ats⟩,type,pos,after,guard⟩ a M w σ own ks K) Q:=by
         intro h;obtain⟨l0,l1,l2,h⟩:=h;obtain⟨k',ks',rfl,h⟩:=J0D h;obtain⟨own',hK,hnd,hown⟩:=J4d _ _ _ h hh1.own.nodup;obtain⟨u,w',M',σ',r1,r2,r3,r4,r5⟩:=Q5J (ty:=type) hats0 hats1 h3 h4 h5 h6 h7 h10 hh1 hS hlook dx1 l0 l1 l2 hown hnd;exact J0y (fin u w' r1) ⟨u,M',σ',_,_,_,rfl,r4,r2,tr1.trans r3,kdc r5,hK⟩
        by_cases heq:Nat.beq (lo+len) n=true
        . exact grow (h.1 heq)
        replace h:=h.2 (Bool.eq_false_iff.2 heq);by_cases hin:Nat.ble (lo+len+m) n=true
        . obtain⟨own',hK,hu1,hu2⟩:=J1c _ _ _ _ (h.1 hin) hh1.own.nodup ⟨_,J0i hlook⟩;obtain⟨u,w',r1,r2,r3,r4⟩:=Q28 (ty:=type) hats0 hats1 h3 h4 h5 hh1 hS hlook dx1 (Nat.le_of_ble_eq_true hin) hu2 hu1;exact J0y (fin u w' r1) ⟨u,M1,σ,_,_,_,rfl,r4,r2,tr1.trans r3,kdc ⟨fun _ h=>h,fun _ h _=>h,fun k hk=>.inl (by rw[hu1] at hk;exact hk)⟩,hK⟩
        . exact grow (h.2 (Bool.eq_false_iff.2 hin))
      . exact h.elim
    . exact h.elim
  . exact h.elim
 case clr args ats t e s zs x0 x h1 h2 h3 h4 h5 h6 h7 =>
  obtain⟨v,hg,hx⟩:=J0h h6 h;clear h;have dx:=hx M w σ a (ok _ (by simp[SOp.xs]));have hats0:ats[0]?=some t:=by rw[<- Array.getElem?_toList,h2];rfl
  have hargs:args.map a.eval=#[a.eval x0]:=by
   apply Array.ext';simp[h1]
  have fin:∀(u:Value) (w':World),(Builtin.clear_ ats type #[a.eval x0]).run P w=.ok u w' ->
   (execOp a.eval ⟨dst,.call ⟨.builtin .clear,args,ats⟩,type,pos,after,guard⟩).run P w=.ok (.value u) w':=by
   intro u w' hu;show((pure { target:=Target.builtin .clear ats type (args.map fun | .const _=>true|_=>false),args:=args.map a.eval }:Sem Deferred) >>= fun d=>invoke d.target d.args).run P w=_;rw[Sem.run_bind,hargs];exact J05 hu
  generalize a.eval x0=ux at *;have h:=hg;clear hg;unfold vclr at h;split at h
  . cases dx;exact J0y (fin (.tuple #[]) w (by simp[Builtin.clear_,hats0,run_underlying h3,go_sem])) ⟨_,M,σ,_,own,ks,rfl,.raw _ _,hh,Tr.refl _ _ _ _,Kd.refl _ _ _,h⟩
  . rename_i k s' lo len;split at h
    . rename_i n s'' f hlook;split at h
      . rename_i e1 e2;have e1:=Nat.eq_of_beq_eq_true e1;have e2:=Nat.eq_of_beq_eq_true e2;subst e1 e2;obtain⟨l0,h⟩:=h;obtain⟨own',hK,hu1,hu2⟩:=J1c _ _ _ _ h hh.own.nodup ⟨_,J0i hlook⟩;obtain⟨z,hz,hzs⟩:=Q83 h4 h5 h7 M w;obtain⟨z1,z2,z3⟩:=hzs len;have dx0:=dx;cases dx with
        | vec _ _ _ _ _ bo base κ c ad hk hc hl ha =>
          obtain⟨_,w',hst,hh',tr⟩:=J6C (P:=P) hh hlook dx0 (at_:=0) (m:=len) z1 (by omega) z2 z3 (by simpa using hu2) hu1;have hrun:(Builtin.clear_ ats type #[.slice ad len c]).run P w=.ok (.tuple #[]) w':=by
           cases ad with
           | none =>
             have:w'=w:=by cases hst;rfl
             subst this;simp[Builtin.clear_,hats0,run_underlying h3,go_sem]
           | some ad =>
             cases len with
             | zero =>
               have:w'=w:=by
                have hnil:(Builtin.zeroCells z.cells 0).toList=[]:=List.eq_nil_of_length_eq_zero (by omega);rw[hnil] at hst;cases hst;rfl
               subst this;simp[Builtin.clear_,hats0,run_underlying h3,go_sem]
             | succ len =>
               simp only[Nat.zero_mul,Addr.add,if_true] at hst;simp[Builtin.clear_,hats0,run_underlying h3,go_sem,hz];unfold Value.cells at hst;rw[hst];rfl
          exact J0y (fin _ w' hrun) ⟨_,M,σ,_,_,_,rfl,.raw _ _,hh',tr,⟨fun _ h=>h,fun _ h _=>h,fun k hk=>.inl (by rw[hu1] at hk;exact hk)⟩,hK⟩
      . exact h.elim
    . exact h.elim
  . exact h.elim
theorem J8o {P:Program} {o:Oper} {so:SOp} (hc:cOp P o.op=some so) (hn:so.isNew=false) (he:so.isEff=false) (hl:∀z x,so≠.load z x) {env:Env} {own:Own} {ks:List Nat} {K:V->Own->List Nat->Prop}
 (h:vop P so env own ks K):∃v,K v own ks/\J77 P o so.xs env v:=by
 cases so<;>simp only[SOp.isNew,SOp.isEff,reduceCtorEq] at hn he
 case p po =>
  have:J9Y P o.op=some po:=by
   have hw:=J2c hc;generalize o.op=op at hw;cases hw with|p _ _ h=>exact h
  exact Q14 this h
 case build zs ps=>exact Q22 (K:=fun v=>K v own ks) hc h
 case load z x=>exact(hl z x rfl).elim
 case xt xo=>cases xo<;>simp at hn he
theorem Q3g {P:Program} {o:Oper} {xs:List X} {env:Env} {v:V} (h:J77 P o xs env v) {M:Nat->Prop} {w:World} {σ:Sg} {a:Act} (ok:∀x,x∈xs->XOk M w σ env a x)
 {next:Act->World->Prop} {Q:Exit->Act->World->Prop} (hn:∀u,Den M w σ v u->next (a.put o.dst u) w):o.wp P a w next Q:=by
 obtain⟨u,h1,h2⟩:=h M w σ a ok;exact J0y h1 (hn u h2)
theorem Q4W {P:Program} {o:Oper} {so:SOp} (hc:cOp P o.op=some so) (hcv:∀x xs,so≠.callv x xs) {env:Env} {own:Own} {ks:List Nat} {K:V->Own->List Nat->Prop} (h:vop P so env own ks K)
 {M:Nat->Prop} {w:World} {σ:Sg} {a:Act} (ok:∀x,x∈so.xs->XOk M w σ env a x) (hh:J0S M w σ own ks) (Q:Exit->Act->World->Prop):o.wp P a w (OP o a M w σ own ks K) Q:=by
 by_cases he:so.isEff=true
 . exact J8J hc hcv he h ok hh Q
 by_cases hn:so.isNew=true
 . obtain⟨k,ks',b,v,rfl,hK,hf,_⟩:=Q0W hc hn h;obtain⟨u,w',M',σ',r1,r2,r3,r4,_,r5⟩:=hf M w σ a own ks' ok hh;exact J0y r1 ⟨u,M',σ',v,_,_,rfl,r4,r2,r3,r5,hK⟩
 by_cases hl:∃z x,so=.load z x
 . obtain⟨z,x,rfl⟩:=hl;obtain⟨t,x0,p,v,ho,hz,hK,_,hp,hf,_⟩:=J8y hc h;obtain⟨r,h1,h2⟩:=hf M w σ _ (hp M w σ a (ok _ (by simp[SOp.xs]))) (fun k b _ hk=>hh.own.blk k b (J0i hk));have hrun:(execOp a.eval o).run P w=.ok (.value r) w:=by
    obtain⟨dst,op,type,pos,after,guard⟩:=o;simp only at ho;subst ho;exact J05 h1
   exact J0y hrun ⟨r,M,σ,v,own,ks,rfl,h2,hh,Tr.refl _ _ _ _,Kd.refl _ _ _,hK⟩
 . obtain⟨v,hK,hf⟩:=J8o hc (by simpa using hn) (by simpa using he) (fun z x e=>hl ⟨z,x,e⟩) h;exact Q3g hf ok fun u hu=>⟨u,M,σ,v,own,ks,rfl,hu,hh,Tr.refl _ _ _ _,Kd.refl _ _ _,hK⟩
def Q3l (P:Program) (op:SOp) (env:Env) (own:Own) (ks:List Nat) (K:V->Own->List Nat->Prop):Prop :=
 match op with
 | .p (.slc s x lo hi mx same)=>X3E own s x lo hi mx same env fun v=>K v own ks
 | op=>vop P op env own ks K
theorem Q9g {P:Program} {op:Op} {s:Nat} {x:X} {lo hi mx:Option X} {same:Bool} (h:J9Y P op=some (.slc s x lo hi mx same)) :
 ∃t e x0 low high max,op=.slice t x0 low high max/\P.underlying t=some (.slice e)/\J3a P e=some s/\cX x0=some x/\cXo low=some lo/\cXo high=some hi/\cXo max=some mx/\same=Q0E high max:=by
 cases op
 case slice t x0 low high max =>
  simp only[J9Y] at h;unfold Y2S at h;split at h
  . rename_i e x' lo' hi' mx' h1 h2 h3 h4 h5;simp only[Option.map_eq_some_iff] at h;obtain⟨s',hs,he⟩:=h;cases he;exact⟨t,e,x0,low,high,max,rfl,h1,hs,h2,h3,h4,h5,rfl⟩
  . simp at h
  . cases h
 all_goals (simp only[J9Y] at h;try (split at h<;>simp at h))
 all_goals (first|(simp at h;done)|(repeat' (split at h<;>first|(simp at h;done)|skip)))
 all_goals (rename_i he;cases he)
theorem Q15 {P:Program} {o:Oper} {so:SOp} (hc:cOp P o.op=some so) (hcv:∀x xs,so≠.callv x xs) {env:Env} {own:Own} {ks:List Nat} {K:V->Own->List Nat->Prop} (h:Q3l P so env own ks K)
 {M:Nat->Prop} {w:World} {σ:Sg} {a:Act} (ok:∀x,x∈so.xs->XOk M w σ env a x) (hh:J0S M w σ own ks) (Q:Exit->Act->World->Prop):o.wp P a w (OP o a M w σ own ks K) Q:=by
 unfold Q3l at h;split at h
 . rename_i s x lo hi mx same;have hp:J9Y P o.op=some (.slc s x lo hi mx same):=by
    have hw:=J2c hc;generalize o.op=op at hw;cases hw with|p _ _ h=>exact h
   obtain⟨t,e,x0,low,high,max,ho,h1,h2,h3,h4,h5,h6,rfl⟩:=Q9g hp;obtain⟨v,hK,hr⟩:=J8c h1 h2 h3 h4 h5 h6 h;obtain⟨u,u1,u2⟩:=hr M w σ a ok (fun k b hb=>hh.own.blk k b (J0i hb));have hrun:(execOp a.eval o).run P w=.ok (.value u) w:=by
    obtain⟨dst,op,type,pos,after,guard⟩:=o;simp only at ho;subst ho;exact J05 u1
   exact J0y hrun ⟨u,M,σ,v,own,ks,rfl,u2,hh,Tr.refl _ _ _ _,Kd.refl _ _ _,hK⟩
 . exact Q4W hc hcv h ok hh Q
theorem J2d {P:Program} {op:Op} {so:SOp} (h:cOp P op=some so):∀c,op≠.defer c:=by
 intro c e;subst e;have hw:=J2c h;cases hw with
 | p _ o h=>cases h
 | xt _ o h=>cases h
theorem X37 {P:Program} {row:String} {args:Array Value} {w:World} {R:Value->World->Prop} (r:Option Nat) (h:Rows P row args w R):RowsIn (FR r) 0 P row args w R :=
 fun c cs _=>let ⟨v,w',h1,h2⟩:=h c cs;⟨v,w',h1,stepsIn_wide.2 h2⟩
theorem J6x {P:Program} {f:FuncId} {args:Array Value} {w:World} {R:Ending->World->Prop} (r:Option Nat) (h:Calls P f args w R):CallsIn (FR r) 0 P f args w R :=
 (callsIn_wide (n:=0)).2 h
theorem J4i (r:Option Nat):(FR r).depth.isSome=true->1<=0:=fun h=>by cases h
theorem J27 {P:Program} {o:Oper} (r:Option Nat) (hnd:∀c,o.op≠.defer c) {a:Act} {w:World} {next:Act->World->Prop} {Q:Exit->Act->World->Prop} (h:o.wp P a w next Q):o.wpIn (FR r) 0 P a w next Q:=by
 refine⟨fun _ _=>trivial,?_⟩;rw[Oper.semAt_eq _ _ _ hnd];unfold Oper.wp at h;generalize (execOp a.eval o).run P w=res at *;cases res with
 | ok x w' =>
   cases x<;>simp only[Oper.upon,Oper.uponIn] at h ⊢ <;>
    first
     | exact h
     | exact h.elim
     | exact⟨J4i r,J6x r h⟩
     | exact⟨J4i r,X37 r h⟩
 | halt x w'=>cases x<;>simp only[Oper.upon,Oper.uponIn] at h ⊢<;>exact h
theorem J7I {P:Program} {o:Oper} {x:X} {xs:List X} (hc:cOp P o.op=some (.callv x xs)) {env:Env} {own:Own} {ks:List Nat} {K:V->Own->List Nat->Prop} (h:vop P (.callv x xs) env own ks K)
 {M:Nat->Prop} {w:World} {σ:Sg} {a:Act} (ok:∀y,y∈SOp.xs (.callv x xs)->XOk M w σ env a y) (hh:J0S M w σ own ks) (Q:Exit->Act->World->Prop) (r:Option Nat):o.wpIn (FR r) 0 P a w (OP o a M w σ own ks K) Q:=by
 have hnd:=J2d hc;obtain⟨dst,op,type,pos,after,guard⟩:=o;have hw:=J2c hc;simp only at hw;cases hw;rename_i t args ats h2;simp only[vop] at h;obtain⟨fv,hg1,hf⟩:=J0h (o:=.tmp t) rfl h;clear h;obtain⟨vs,h,hl,hvs⟩:=J39 h2 hg1;clear hg1;have df:=hf M w σ a (ok _ (by simp[SOp.xs]));have dvs:=hvs M w σ a (fun y hy=>ok y (by simp[SOp.xs,hy]));have hargs:args.map a.eval=(args.toList.map a.eval).toArray:=by
  apply Array.ext';simp
 refine⟨fun _ _=>trivial,?_⟩;rw[Oper.semAt_eq _ _ _ hnd];unfold X3J at h;split at h
 . rename_i g b cap;obtain⟨hcal,h⟩:=h;generalize hfe:a.eval (.tmp t)=fu at df;obtain⟨all,ul,h,h1,h2,hrun⟩:∃(all:List V) (ul:List Value),J0G P g all own ks (fun v own ks=>X05 v fun v=>K v own ks)/\all.length=ul.length/\(∀(i:Nat) (v:V) (u:Value),all[i]?=some v->ul[i]?=some u->Den M w σ v u) /\
    (execOp a.eval ⟨dst,.call ⟨.value (.tmp t),args,ats⟩,type,pos,after,guard⟩).run P w=.ok (.enter g ul.toArray) w:=by
    cases df with
    | fn _ _ _ _ us hcl hcd =>
      cases b with
      | false =>
        refine⟨vs++cap,args.toList.map a.eval++us,h,by simp[hl,hcl],?_,?_⟩
        . intro i v u hv hu;by_cases hi:i<vs.length
          . rw[List.getElem?_append_left hi] at hv;rw[List.getElem?_append_left (by simpa[<- hl] using hi)] at hu;exact dvs i v u hv hu
          . rw[List.getElem?_append_right (by omega)] at hv;rw[List.getElem?_append_right (by simp[<- hl];omega)] at hu;refine hcd (i-vs.length) v u hv ?_;simpa[<- hl] using hu
        . have e:(args.toList.map a.eval++us).toArray=args.map a.eval++us.toArray:=by
           apply Array.ext';simp
          rw[e];show((resolve a.eval ⟨.value (.tmp t),args,ats⟩ type) >>= fun d=>invoke d.target d.args).run P w=_;simp only[resolve,hfe,fnB,fnC];simp[go_sem,Deferred.ofValue,invoke,J1K hcal]
      | true =>
        refine⟨cap++vs,us++args.toList.map a.eval,h,by simp[hl,hcl],?_,?_⟩
        . intro i v u hv hu;by_cases hi:i<cap.length
          . rw[List.getElem?_append_left hi] at hv;rw[List.getElem?_append_left (by omega)] at hu;exact hcd i v u hv hu
          . rw[List.getElem?_append_right (by omega)] at hv;rw[List.getElem?_append_right (by omega)] at hu;rw[<- hcl] at hu;exact dvs (i-cap.length) v u hv hu
        . have e:(us++args.toList.map a.eval).toArray=us.toArray++args.map a.eval:=by
           apply Array.ext';simp
          rw[e];show((resolve a.eval ⟨.value (.tmp t),args,ats⟩ type) >>= fun d=>invoke d.target d.args).run P w=_;simp only[resolve,hfe,fnB,fnC];simp[go_sem,Deferred.ofValue,invoke,J1K hcal]
   rw[hrun];refine⟨J4i r,J6x r ?_⟩;refine(h.out M w σ ul h1 h2 hh).mono ?_;rintro e w' ⟨M',σ',v,own',ks',u,rfl,d,hh',tr,kd,hK⟩;exact⟨u,M',σ',v,own',ks',rfl,d,hh',tr,kd,J5w hK⟩
 . rename_i k;generalize hfe:a.eval (.tmp t)=fu at df;cases df with
   | yld _ _ l base κ hk =>
     obtain⟨fn,tmps,assign,body,hy,hround⟩:=h.out M w σ (args.toList.map a.eval) l base κ (by simpa using hl) dvs hh hk;have hrun:(execOp a.eval ⟨dst,.call ⟨.value (.tmp t),args,ats⟩,type,pos,after,guard⟩).run P w=.ok (.round l fn tmps assign body) w:=by
      show((resolve a.eval ⟨.value (.tmp t),args,ats⟩ type) >>= fun d=>invoke d.target d.args).run P w=_;simp only[resolve,hfe];rw[<- hargs] at hy;simp[go_sem,Deferred.ofValue,invoke,hy]
     rw[hrun];refine⟨J4i r,RoundIn.mono (F:=Fence.wide) hround ?_⟩;rintro e w' ⟨M',σ',v,own',ks',u,rfl,d,hh',tr,kd,hK⟩;exact⟨u,M',σ',v,own',ks',rfl,d,hh',tr,kd,J5w hK⟩
 . exact h.elim
theorem Q8G {P:Program} {o:Oper} {so:SOp} (hc:cOp P o.op=some so) (he:so.isEff=true) {env:Env} {own:Own} {ks:List Nat} {K:V->Own->List Nat->Prop} (h:vop P so env own ks K)
 {M:Nat->Prop} {w:World} {σ:Sg} {a:Act} (ok:∀x,x∈so.xs->XOk M w σ env a x) (hh:J0S M w σ own ks) (Q:Exit->Act->World->Prop) (r:Option Nat):o.wpIn (FR r) 0 P a w (OP o a M w σ own ks K) Q:=by
 by_cases hcv:∀x xs,so≠.callv x xs
 . exact J27 r (J2d hc) (J8J hc hcv he h ok hh Q)
 . obtain⟨x,xs,rfl⟩:∃x xs,so=.callv x xs:=by
    cases so<;>first|exact⟨_,_,rfl⟩|(exfalso;apply hcv;intro x xs e;cases e)
   exact J7I hc h ok hh Q r
theorem Q4X {P:Program} {o:Oper} {so:SOp} (hc:cOp P o.op=some so) {env:Env} {own:Own} {ks:List Nat} {K:V->Own->List Nat->Prop} (h:Q3l P so env own ks K)
 {M:Nat->Prop} {w:World} {σ:Sg} {a:Act} (ok:∀x,x∈so.xs->XOk M w σ env a x) (hh:J0S M w σ own ks) (Q:Exit->Act->World->Prop) (r:Option Nat):o.wpIn (FR r) 0 P a w (OP o a M w σ own ks K) Q:=by
 by_cases hcv:∀x xs,so≠.callv x xs
 . exact J27 r (J2d hc) (Q15 hc hcv h ok hh Q)
 . obtain⟨x,xs,rfl⟩:∃x xs,so=.callv x xs:=by
    cases so<;>first|exact⟨_,_,rfl⟩|(exfalso;apply hcv;intro x xs e;cases e)
   exact J7I hc h ok hh Q r
def J5h (P:Program):List SI->Env->Own->List Nat->(Env->Own->List Nat->Prop)->Prop
 | [],env,own,ks,K=>K env own ks
 | ⟨d,op,g⟩::r,env,own,ks,K =>
   match g with
   | none=>Q3l P op env own ks fun v own ks=>match d with
     | some t=>J5h P r ((t,v)::env) own ks K
     | none=>J5h P r env own ks K
   | some (t,want)=>match look env t with
     | some (.bool b)=>match Bool.xor b want with
       | false=>Q3l P op env own ks fun v own ks=>match d with
         | some t=>J5h P r ((t,v)::env) own ks K
         | none=>J5h P r env own ks K
       | true=>match d with
         | some t=>J5h P r ((t,.raw (.tuple #[]))::env) own ks K
         | none=>J5h P r env own ks K
     | some (.raw (.tuple _))=>match d with
       | some t=>J5h P r ((t,.raw (.tuple #[]))::env) own ks K
       | none=>J5h P r env own ks K
     | _=>False
def cSI (P:Program) (N:Nat) (ops:Array Oper) (o:Oper):Option SI :=
 match cOp P o.op with
 | some op =>
   match (match o.dst with|some d=>Nat.ble (d+1) N|none=>true) with
   | true=>match o.guard with
     | none=>some ⟨o.dst,op,none⟩
     | some (j,b)=>match (ops[j]?).bind (·.dst) with
       | some t=>some ⟨o.dst,op,some (t,b)⟩
       | none=>none
   | false=>none
 | none=>none
def X10 (P:Program) (N:Nat) (ops:Array Oper):List Oper->Option (List SI)
 | []=>some []
 | o::r=>match cSI P N ops o,X10 P N ops r with
   | some i,some l=>some (i::l)
   | _,_=>none
theorem Q0e {ops:Array Oper} {o:Oper} {j t:Nat} {want b:Bool} {a:Act} (hg:o.guard=some (j,want)) (hj:(ops[j]?).bind (·.dst)=some t) (hb:a.tmps.getD t undef=.bool b) :
 Region.wanted o (yielded ops a.tmps)=(b == want):=by
 have ht:a.tmps[t]?=some (.bool b):=by
  rw[Array.getD_eq_getD_getElem?] at hb;cases h:a.tmps[t]? with
  | none=>rw[h] at hb;cases hb
  | some x=>rw[h] at hb;simpa using hb
 unfold Region.wanted;rw[hg];simp only[yielded,hj,Option.bind_some,ht];cases b<;>cases want<;>rfl
theorem J8b {ops:Array Oper} {o:Oper} {j t:Nat} {want:Bool} {a:Act} {us:Array Value} (hg:o.guard=some (j,want)) (hj:(ops[j]?).bind (·.dst)=some t) (hb:a.tmps.getD t undef=.tuple us) :
 Region.wanted o (yielded ops a.tmps)=false:=by
 have:yielded ops a.tmps j=none:=by
  unfold yielded;rw[hj];simp only[Option.bind_some];cases h:a.tmps[t]? with
  | none=>rfl
  | some x =>
    rw[Array.getD_eq_getD_getElem?,h] at hb;simp at hb;subst hb;rfl
 unfold Region.wanted;rw[hg];simp[this]
theorem J5f {P:Program} {N:Nat} {ops:Array Oper} {o:Oper} {i:SI} (h:cSI P N ops o=some i) :
 ∃op,cOp P o.op=some op/\(∀d,o.dst=some d->d<N) /\
  ((o.guard=none/\i=⟨o.dst,op,none⟩)\/∃j b t,o.guard=some (j,b)/\(ops[j]?).bind (·.dst)=some t/\i=⟨o.dst,op,some (t,b)⟩):=by
 unfold cSI at h;split at h
 . rename_i op hop;split at h
   . rename_i hd;refine⟨op,hop,?_,?_⟩
     . intro d e;rw[e] at hd;exact Nat.le_of_ble_eq_true hd
     . split at h
       . rename_i hg;cases h;exact .inl ⟨hg,rfl⟩
       . rename_i j b hg;split at h
         . rename_i t ht;cases h;exact .inr ⟨j,b,t,hg,ht,rfl⟩
         . cases h
   . cases h
 . cases h
def J7V (env:Env) (d:Option Nat) (v:V):Env:=match d with|some t=>(t,v)::env|none=>env
theorem Sim.put {N B:Nat} {M M':Nat->Prop} {w w':World} {σ σ':Sg} {env:Env} {own own':Own} {ks ks':List Nat} {a:Act} (h:Sim N B M w σ ⟨env,own,ks⟩ a) {d:Option Nat} {v:V} {u:Value} (hd:∀t,d=some t->t<N)
 (hv:Den M' w' σ' v u) (hh:J0S M' w' σ' own' ks') (tr:Tr M w σ own M' w' σ' own') :
 Sim N B M' w' σ' ⟨J7V env d v,own',ks'⟩ (a.put d u):=by
 have hE:=tr.ext h.heap.own;cases d with
 | none=>exact⟨h.env.mono hE tr.le,hh,h.size,h.defers.tr tr⟩
 | some t=>exact⟨(h.env.mono hE tr.le).put (by rw[h.size];exact hd t rfl) hv,hh,by simp[Act.put,h.size],h.defers.tr tr⟩
theorem J30 {P:Program} (r:Option Nat) {N B:Nat} {ops:Array Oper} {Q:Exit->Act->World->Prop}:∀(l:List Oper) (sl:List SI) (env:Env) (own:Own) (ks:List Nat) (K:Env->Own->List Nat->Prop)
 (M:Nat->Prop) (w:World) (σ:Sg) (a:Act),X10 P N ops l=some sl->J5h P sl env own ks K->Sim N B M w σ ⟨env,own,ks⟩ a ->
 (∀env' own' ks' M' w' σ' a',Sim N B M' w' σ' ⟨env',own',ks'⟩ a'->Tr M w σ own M' w' σ' own'->Kd σ own ks σ' own' ks'->K env' own' ks'->Q .normal a' w')->wpListIn (FR r) 0 P ops Q l a w
 | [],sl,env,own,ks,K,M,w,σ,a,hc,h,sim,hq=>by
   simp[X10] at hc;subst hc;exact hq env own ks M w σ a sim (Tr.refl _ _ _ _) (Kd.refl _ _ _) h
 | o::l,sl,env,own,ks,K,M,w,σ,a,hc,h,sim,hq=>by
   unfold X10 at hc;split at hc<;>simp only[Option.some.injEq,reduceCtorEq] at hc;rename_i i sl' h1 h2;subst hc;obtain⟨op,hop,hdst,hg⟩:=J5f h1;have xok:∀x,x∈op.xs->XOk M w σ env a x:=fun x _ n _ v hv=>sim.env n v hv;have go:∀(h:Q3l P op env own ks fun v own ks=>match o.dst with|some t=>J5h P sl' ((t,v)::env) own ks K|none=>J5h P sl' env own ks K),o.wpIn (FR r) 0 P a w (wpListIn (FR r) 0 P ops Q l) Q:=by
    intro h;refine Oper.wpIn_mono ?_ (Q4X hop h xok sim.heap Q r);rintro a' w' ⟨u,M',σ',v,own',ks',rfl,hv,hh,tr,kd,hK⟩;have sim':=sim.put hdst hv hh tr;have hK':J5h P sl' (J7V env o.dst v) own' ks' K:=by
     unfold J7V;cases hd:o.dst<;>simp only[hd] at hK ⊢<;>exact hK
    exact J30 r l sl' _ own' ks' K M' w' σ' _ h2 hK' sim' fun env' own'' ks'' M'' w'' σ'' a'' s t q k=>hq env' own'' ks'' M'' w'' σ'' a'' s (tr.trans t) (kd.trans q) k
   unfold wpListIn;rcases hg with ⟨hg,rfl⟩ | ⟨j,b,t,hg,hj,rfl⟩
   . rw[if_pos (by simp[Region.wanted,hg])];exact go h
   . simp only[J5h] at h;split at h
     . rename_i bb hlook;have hden:=sim.env t _ hlook;have hb:a.tmps.getD t undef=.bool bb:=by
        generalize a.tmps.getD t undef=q at hden;cases hden;rfl
       have hw:=Q0e hg hj hb;cases hx:Bool.xor bb b
       . have e:bb=b:=by revert hx;cases bb<;>cases b<;>decide
         rw[hx] at h;rw[if_pos (by rw[hw,e];simp)];exact go h
       . have e:(bb == b)=false:=by revert hx;cases bb<;>cases b<;>decide
         rw[hx] at h;rw[if_neg (by rw[hw,e];simp)];have sim':=sim.put (v:=.raw (.tuple #[])) (u:=undef) hdst (.raw _ _) sim.heap (Tr.refl _ _ _ _);have hK':J5h P sl' (J7V env o.dst (.raw (.tuple #[]))) own ks K:=by
          unfold J7V;cases hd:o.dst<;>simp only[hd] at h ⊢<;>exact h
         exact⟨fun _ _=>trivial,J30 r l sl' _ own ks K M w σ _ h2 hK' sim' hq⟩
     . rename_i us hlook;have hden:=sim.env t _ hlook;have hb:a.tmps.getD t undef=.tuple us:=by
        generalize a.tmps.getD t undef=q at hden;cases hden;rfl
       rw[if_neg (by rw[J8b hg hj hb];simp)];have sim':=sim.put (v:=.raw (.tuple #[])) (u:=undef) hdst (.raw _ _) sim.heap (Tr.refl _ _ _ _);have hK':J5h P sl' (J7V env o.dst (.raw (.tuple #[]))) own ks K:=by
        unfold J7V;cases hd:o.dst<;>simp only[hd] at h ⊢<;>exact h
       exact⟨fun _ _=>trivial,J30 r l sl' _ own ks K M w σ _ h2 hK' sim' hq⟩
     . exact h.elim
inductive DI where
 | op (ix:Nat) (si:SI)
 | eff (ix:Nat) (pend:List Nat) (held:List (Option Nat×Nat×Nat)) (si:SI)
def DI.ix:DI->Nat
 | .op i _=>i
 | .eff i _ _ _=>i
def DI.si:DI->SI
 | .op _ s=>s
 | .eff _ _ _ s=>s
def Q1b:V->Option Nat
 | .loc k _=>some k
 | .vec k _ _ _=>some k
 | .oel k _ _ _=>some k
 | _=>none
def J4l (env:Env):List Nat->Own->Own->(Own->Own->Prop)->Prop
 | [],own,acc,K=>K own acc
 | t::r,own,acc,K=>match look env t with
   | some v=>match Q1b v with
     | some k=>match look own k with
       | some b=>X1F k own fun own'=>J4l env r own' ((k,b)::acc) K
       | none=>False
     | none=>J4l env r own acc K
   | none=>False
def J75 (env:Env) (own:Own) (G:Prop):List (Option Nat×Nat×Nat)->Prop
 | []=>G
 | (sz,n,t)::r=>match look env t with
   | some (.raw _)=>J75 env own G r
   | some v=>match look env n with
     | some p=>J3B own sz p (fun v'=>v'=v)/\J75 env own G r
     | none=>False
   | none=>False
def X5H {α:Type}:List α->List α->(List α->Prop)->Prop
 | [],l,K=>K l
 | x::r,l,K=>X5H r l fun l'=>K (x::l')
def J5Z (env:Env) (g:Option (Nat×Bool)) (A B:Prop):Prop :=
 match g with
 | none=>A
 | some (t,want)=>match look env t with
   | some (.bool b)=>match Bool.xor b want with
     | false=>A
     | true=>B
   | some (.raw (.tuple _))=>B
   | _=>False
def J1D (P:Program):List DI->Env->Own->List Nat->(Env->Own->List Nat->Prop)->Prop
 | [],env,own,ks,K=>K env own ks
 | .op _ ⟨d,op,g⟩::r,env,own,ks,K=>J5Z env g
    (vop P op env own ks fun v own ks=>match d with
      | some t=>J1D P r ((t,v)::env) own ks K
      | none=>J1D P r env own ks K)
    (match d with
      | some t=>J1D P r ((t,.raw (.tuple #[]))::env) own ks K
      | none=>J1D P r env own ks K)
 | .eff _ pend held ⟨d,op,g⟩::r,env,own,ks,K=>J5Z env g
    (J4l env pend own [] fun ownA ownB=>vop P op env ownA ks fun v ownA' ks=>J75 env ownA' (X5H ownB ownA' fun own=>match d with
      | some t=>J1D P r ((t,v)::env) own ks K
      | none=>J1D P r env own ks K) held)
    (match d with
      | some t=>J1D P r ((t,.raw (.tuple #[]))::env) own ks K
      | none=>J1D P r env own ks K)
def J1t (o:Oper):List Nat:=(o.after.toList.filter (Region.binds .any)).map (·.on)
def Q6i:List Nat->List Nat->List Nat
 | [],l=>l
 | x::r,l=>match J06 x l with|true=>Q6i r l|false=>Q6i r (x::l)
def X55:List Oper->List (List Nat)->List (List Nat)
 | [],acc=>acc
 | o::r,acc=>X55 r (acc++[(J1t o).foldl (fun l j=>Q6i (j::(acc.getD j [])) l) []])
def J2P:List X->List Nat
 | []=>[]
 | .t n::r=>n::J2P r
 | .k _::r=>J2P r
def SI.uses (s:SI):List Nat:=J2P s.op.xs++(match s.guard with|some (t,_)=>[t]|none=>[])
def X5q (A:List (List Nat)) (eff:Nat->Bool):Nat->List Nat->List Nat->List Nat
 | 0,_,done=>done
 | fuel+1,rest,done =>
   let step:=rest.foldl (fun(p:List Nat×List Nat) i =>
    if !eff i&&(A.getD i []).all (fun j=>J06 j p.1) then (p.1++[i],p.2) else (p.1,p.2++[i])) (done,[])
   match step.2 with
   | []=>step.1
   | i::_=>X5q A eff fuel (step.2.filter (fun j=>!Nat.beq j i)) (step.1++[i])
def J4x (A:List (List Nat)) (sis:List SI):List Nat->List Nat->List DI
 | [],_=>[]
 | i::r,done=>match sis[i]? with
   | some si=>match si.op.isEff with
     | false=>.op i si::J4x A sis r (done++[i])
     | true =>
       let free:=done.filter fun j=>!J06 j (A.getD i []);let pend:=free.filterMap fun j=>match sis[j]? with|some s=>(match s.op.isNew with|true=>s.dst|false=>none)|none=>none
       let held:=free.filterMap fun j=>match sis[j]? with
        | some s=>(match s.op,s.dst with | .load z (.t n),some t=>some (z,n,t)|_,_=>none)
        | none=>none
       .eff i pend held si::J4x A sis r (done++[i])
   | none=>[]
def DI.isEff:DI->Bool
 | .op _ _=>false
 | .eff _ _ _ _=>true
def X67 (z:Option Nat) (n t:Nat):List (Option Nat×Nat×Nat)->Bool
 | []=>false
 | (z',n',t')::r=>(decide (z'=z)&&Nat.beq n' n&&Nat.beq t' t) || X67 z n t r
def X0M (pend:List Nat) (held:List (Option Nat×Nat×Nat)) (s:SI):Bool :=
 match s.op with
 | .load z x=>match x,s.dst with
   | .t n,some t=>X67 z n t held
   | _,_=>false
 | op=>match op.isNew with
   | true=>match s.dst with|some t=>J06 t pend|none=>false
   | false=>true
def X1J (A:List (List Nat)) (pre:List DI) (d:DI) (post:List DI):Bool :=
 pre.all (fun d'=>!J06 d.ix (A.getD d'.ix [])) &&
 (match d.si.dst with
   | some t=>pre.all (fun d'=>decide (d'.si.dst≠some t))&&pre.all (fun d'=>!J06 t d'.si.uses || (d.isEff&&J06 d'.ix (A.getD d.ix [])))&&(d.isEff || !J06 t d.si.uses)
   | none=>true) &&
 pre.all (fun d'=>d'.isEff || (match d'.si.dst with|some t=>!J06 t d.si.uses || J06 d'.ix (A.getD d.ix [])|none=>true)) &&
 (match d with
   | .op _ si=>!si.op.isEff&&(!si.op.isNew || si.dst.isSome)&&(match si.op with | .load _ (.k _)=>false|_=>true)
   | .eff ix pend held si=>si.op.isEff&&post.all (fun d'=>J06 ix (A.getD d'.ix []))&&pre.all (fun d'=>d'.isEff || J06 d'.ix (A.getD ix []) || X0M pend held d'.si))
def J51 (A:List (List Nat)):List DI->List DI->Bool
 | _,[]=>true
 | pre,d::post=>X1J A pre d post&&J51 A (pre++[d]) post
def ancB (A:List (List Nat)) (ops:Array Oper):Bool :=
 (List.range ops.size).all fun i=>match ops[i]? with
   | some o=>(J1t o).all (fun j=>Nat.ble (j+1) i)&&(A.getD i []).all (fun e=>J06 e (J1t o) || (J1t o).any (fun j=>J06 e (A.getD j [])))
   | none=>false
def J1B:List Nat->Bool
 | []=>true
 | x::r=>!J06 x r&&J1B r
def X2W (n:Nat) (l:List DI):Bool :=
 Nat.beq l.length n&&(List.range n).all (fun i=>J06 i (l.map DI.ix))&&(l.map DI.ix).all (fun i=>Nat.ble (i+1) n)&&J1B (l.map DI.ix)
def Q63 (P:Program) (N:Nat) (ops:Array Oper):Option (List DI) :=
 match X10 P N ops ops.toList with
 | some sis =>
   let A:=X55 ops.toList [];let c:=X5q A (fun i=>match sis[i]? with|some s=>s.op.isEff|none=>true) (ops.size+1) (List.range ops.size) [];let l:=J4x A sis c []
   match J51 A [] l&&ancB A ops&&X2W ops.size l with
   | true=>some l
   | false=>none
 | none=>none
theorem J2C:∀{l:List Nat},J1B l=true->l.Nodup
 | [],_=>by simp
 | x::r,h=>by
   simp only[J1B,Bool.and_eq_true,Bool.not_eq_true'] at h;refine List.nodup_cons.2 ⟨fun hm=>?_,J2C h.2⟩;rw[J0m.2 hm] at h;cases h.1
theorem Q30 {z:Option Nat} {n t:Nat}:∀{l:List (Option Nat×Nat×Nat)},X67 z n t l=true->(z,n,t)∈l
 | [],h=>by simp[X67] at h
 | (z',n',t')::r,h=>by
   simp only[X67,Bool.or_eq_true,Bool.and_eq_true,decide_eq_true_eq] at h;rcases h with ⟨⟨rfl,h1⟩,h2⟩|h
   . have h1:=Nat.eq_of_beq_eq_true h1;have h2:=Nat.eq_of_beq_eq_true h2;subst h1 h2;simp
   . exact List.mem_cons_of_mem _ (Q30 h)
structure X8o (anc:Nat->List Nat) (pre:List DI) (d:DI) (post:List DI):Prop where
 order:∀d',d'∈pre->d.ix∉anc d'.ix
 dst:∀t,d.si.dst=some t->∀d',d'∈pre->d'.si.dst≠some t
 reads:∀t,d.si.dst=some t->∀d',d'∈pre->t∈d'.si.uses->d.isEff=true/\d'.ix∈anc d.ix
 self:∀t,d.si.dst=some t->d.isEff=false->t∉d.si.uses
 uses:∀d',d'∈pre->d'.isEff=false->∀t,d'.si.dst=some t->t∈d.si.uses->d'.ix∈anc d.ix
 op:d.isEff=false->d.si.op.isEff=false/\(d.si.op.isNew=true->d.si.dst≠none)/\(∀z x,d.si.op=.load z x->∃n,x=.t n)
 eff:∀ix pend held si,d=.eff ix pend held si->si.op.isEff=true/\(∀d',d'∈post->ix∈anc d'.ix)/\(∀d',d'∈pre->d'.isEff=false->d'.ix∉anc ix->X0M pend held d'.si=true)
theorem Q8X {A:List (List Nat)} {pre:List DI} {d:DI} {post:List DI} (h:X1J A pre d post=true):X8o (fun i=>A.getD i []) pre d post:=by
 simp only[X1J,Bool.and_eq_true] at h;obtain⟨⟨⟨h1,h2⟩,h3⟩,h4⟩:=h;refine⟨?_,?_,?_,?_,?_,?_,?_⟩
 . intro d' hd' hm;have:=List.all_eq_true.1 h1 d' hd';rw[J0m.2 hm] at this;cases this
 . intro t ht d' hd';rw[ht] at h2;simp only[Bool.and_eq_true] at h2;have:=List.all_eq_true.1 h2.1.1 d' hd';simpa using this
 . intro t ht d' hd' hm;rw[ht] at h2;simp only[Bool.and_eq_true] at h2;have:=List.all_eq_true.1 h2.1.2 d' hd';simp only[Bool.or_eq_true,Bool.and_eq_true,Bool.not_eq_true'] at this;rcases this with h|h
   . rw[J0m.2 hm] at h;cases h
   . exact⟨h.1,J0m.1 h.2⟩
 . intro t ht he hm;rw[ht] at h2;simp only[Bool.and_eq_true,Bool.or_eq_true,Bool.not_eq_true'] at h2;rcases h2.2 with h|h
   . rw[he] at h;cases h
   . rw[J0m.2 hm] at h;cases h
 . intro d' hd' he t ht hm;have:=List.all_eq_true.1 h3 d' hd';rw[he,ht] at this;simp only[Bool.false_or,Bool.or_eq_true,Bool.not_eq_true'] at this;rcases this with h|h
   . rw[J0m.2 hm] at h;cases h
   . exact J0m.1 h
 . intro he;cases d with
   | op ix si =>
     simp only[Bool.and_eq_true,Bool.not_eq_true',Bool.or_eq_true] at h4;refine⟨h4.1.1,fun hn=>?_,fun z x e=>?_⟩
     . rcases h4.1.2 with h|h
       . simp only[DI.si] at hn;rw[h] at hn;cases hn
       . intro e;simp only[DI.si] at e;rw[e] at h;cases h
     . simp only[DI.si] at e;rw[e] at h4;cases x with
       | t n=>exact⟨n,rfl⟩
       | k v=>simp at h4
   | eff=>cases he
 . intro ix pend held si e;subst e;simp only[Bool.and_eq_true] at h4;refine⟨h4.1.1,fun d' hd'=>J0m.1 (List.all_eq_true.1 h4.1.2 d' hd'),fun d' hd' he hn=>?_⟩;have:=List.all_eq_true.1 h4.2 d' hd';simp only[Bool.or_eq_true] at this;rcases this with (h|h)|h
   . rw[he] at h;cases h
   . exact(hn (J0m.1 h)).elim
   . exact h
theorem J2A {n:Nat}:∀{xs:List X},.t n∈xs->n∈J2P xs
 | [],h=>by simp at h
 | .t m::r,h=>by
   rcases List.mem_cons.1 h with e|e
   . cases e;simp[J2P]
   . simp[J2P,J2A e]
 | .k v::r,h=>by
   rcases List.mem_cons.1 h with e|e
   . cases e
   . simpa[J2P] using J2A e
theorem J3Q {env:Env} {t n:Nat} {v:V} (h:t≠n):look ((t,v)::env) n=look env n:=by
 have hb:Nat.beq t n=false:=by
  rw[<- Bool.not_eq_true];exact fun hh=>h (Nat.eq_of_beq_eq_true hh)
 show(match Nat.beq t n with|true=>some v|false=>look env n)=_;rw[hb]
theorem J5U {env:Env} {t:Nat} {v:V}:look ((t,v)::env) t=some v:=by
 simp[look]
theorem XOk.congr {M:Nat->Prop} {w:World} {σ:Sg} {env env':Env} {a:Act} {x:X} (h:∀n,x=.t n->look env' n=look env n) (hx:XOk M w σ env' a x):XOk M w σ env a x :=
 fun n e v hv=>hx n e v (by rw[h n e];exact hv)
theorem J77.ext {P:Program} {o:Oper} {xs:List X} {env env':Env} {v:V} (h:J77 P o xs env v) (he:∀n,n∈J2P xs->look env' n=look env n):J77 P o xs env' v :=
 fun M w σ a ok=>h M w σ a fun x hx=>(ok x hx).congr fun n e=>he n (J2A (e▸hx))
theorem Q5P.ext {P:Program} {o:Oper} {xs:List X} {env env':Env} {k:Nat} {b:Blk} {v:V} (h:Q5P P o xs env k b v) (he:∀n,n∈J2P xs->look env' n=look env n):Q5P P o xs env' k b v :=
 fun M w σ a own ks ok=>h M w σ a own ks fun x hx=>(ok x hx).congr fun n e=>he n (J2A (e▸hx))
inductive LK where
 | pure (v:V)
 | load (t:TypeId) (n:Nat) (z:Option Nat) (p v:V)
 | new (k:Nat) (b:Blk) (v:V)
 | skip
def LK.val:LK->V
 | .pure v=>v
 | .load _ _ _ _ v=>v
 | .new _ _ v=>v
 | .skip=>.raw (.tuple #[])
def LK.newk:LK->Option (Nat×Blk)
 | .new k b _=>some (k,b)
 | _=>none
structure LT where
 d:DI
 k:LK
def J13 (env:Env) (g:Option (Nat×Bool)) (run:Bool):Prop :=
 match g with
 | none=>run=true
 | some (t,want)=>(∃b,look env t=some (.bool b)/\run=(b == want))\/(run=false/\∃us,look env t=some (.raw (.tuple us)))
def LOk (P:Program) (N:Nat) (ops:Array Oper) (env:Env) (own:Own) (l:LT):Prop :=
 ∃o,ops[l.d.ix]?=some o/\cSI P N ops o=some l.d.si/\(∀t,l.d.si.dst=some t->look env t=some l.k.val) /\
 match l.k with
 | .pure v=>J13 env l.d.si.guard true/\J77 P o l.d.si.op.xs env v
 | .load t n z p v=>J13 env l.d.si.guard true/\l.d.si.op=.load z (.t n)/\o.op=.load t (.tmp n)/\J3F P t=some z/\look env n=some p/\Q1S P t p v own/\(∀u,v≠.raw u)
 | .new k b v=>J13 env l.d.si.guard true/\Q5P P o l.d.si.op.xs env k b v/\Q1b v=some k/\l.d.si.op.isNew=true
 | .skip=>J13 env l.d.si.guard false
theorem J13.ext {env env':Env} {g:Option (Nat×Bool)} {run:Bool} (h:J13 env g run) (he:∀t b,g=some (t,b)->look env' t=look env t):J13 env' g run:=by
 unfold J13 at h ⊢;split
 . exact h
 . rcases h with ⟨b,h1,h2⟩ | ⟨h1,us,h2⟩
   . exact .inl ⟨b,by rw[he _ _ rfl];exact h1,h2⟩
   . exact .inr ⟨h1,us,by rw[he _ _ rfl];exact h2⟩
theorem LOk.ext {P:Program} {N:Nat} {ops:Array Oper} {env env':Env} {own own':Own} {l:LT} (h:LOk P N ops env own l) (he:∀n,n∈l.d.si.uses->look env' n=look env n)
 (hd:∀t,l.d.si.dst=some t->look env' t=look env t) (hl:∀t n z p v,l.k=.load t n z p v->look env n=some p->J3F P t=some z->Q1S P t p v own->Q1S P t p v own'):LOk P N ops env' own' l:=by
 obtain⟨o,h1,h2,h3,h4⟩:=h;have hx:∀n,n∈J2P l.d.si.op.xs->look env' n=look env n:=fun n hn=>he n (by simp[SI.uses,hn]);have hg:∀t b,l.d.si.guard=some (t,b)->look env' t=look env t:=fun t b e=>he t (by simp[SI.uses,e]);refine⟨o,h1,h2,fun t ht=>by rw[hd t ht];exact h3 t ht,?_⟩;cases hk:l.k<;>rw[hk] at h4<;>simp only at h4 ⊢
 . exact⟨h4.1.ext hg,h4.2.ext hx⟩
 . obtain⟨a1,a2,a3,a4,a5,a6,a7⟩:=h4;refine⟨a1.ext hg,a2,a3,a4,?_,hl _ _ _ _ _ hk a5 a4 a6,a7⟩;rw[hx _ (by rw[a2];simp[SOp.xs,J2P])];exact a5
 . exact⟨h4.1.ext hg,h4.2.1.ext hx,h4.2.2⟩
 . exact h4.ext hg
structure Inv (P:Program) (N Bd:Nat) (ops:Array Oper) (anc:Nat->List Nat) (σ0:Sg) (ks0 Z:List Nat) (pre rest:List DI) (late:List LT) (env:Env) (own:Own) (ks:List Nat) (B:Own)
 (M:Nat->Prop) (w:World) (σ:Sg) (a:Act) (listed:Array Bool):Prop where
 size:a.tmps.size=N
 defers:Q9G Bd M w σ B a.defers
 lsize:listed.size=ops.size
 sub:∀l,l∈late->l.d∈pre/\l.d.isEff=false
 nd:(late.map (·.d.ix)).Nodup
 part:∀i,i<ops.size->(listed.getD i true=false↔(i∈late.map (·.d.ix)\/i∈rest.map DI.ix))
 closed:∀i o,ops[i]?=some o->listed.getD i true=true->∀j,j∈J1t o->listed.getD j false=true
 envd:∀t v,look env t=some v->(∀l,l∈late->l.d.si.dst≠some t)->Den M w σ v (a.tmps.getD t undef)
 heap:J0S M w σ B ks
 ownc:∀k b,(k,b)∈own↔((k,b)∈B\/∃l,l∈late/\l.k.newk=some (k,b))
 ownnd:(own.map (·.1)).Nodup
 unborn:∀l,l∈late->∀k b,l.k.newk=some (k,b)->σ k=none/\k∉ks
 unb2:∀l l',l∈late->l'∈late->∀k b b',l.k.newk=some (k,b)->l'.k.newk=some (k,b')->l.d.ix=l'.d.ix
 facts:∀l,l∈late->LOk P N ops env own l
 disj:∀l,l∈late->l.d.ix∉rest.map DI.ix
 kd1:∀k,k∈ks->k∈ks0
 kd2:∀l,l∈late->∀k b,l.k.newk=some (k,b)->k∈ks0
 kd3:∀q,σ0 q=none->q∉ks0->σ q=none
 kd4:∀k,k∈own.map (·.1)->k∈Z
 kd5:∀k,k∈ks0->k∈Z
 u1:∀d d',d∈pre->d'∈pre->d.isEff=false->∀t,d.si.dst=some t->t∈d'.si.uses->d.ix∈anc d'.ix
 dd:∀d d',d∈pre->d'∈pre->d.ix≠d'.ix->∀t,d.si.dst=some t->d'.si.dst≠some t
structure J8X (ops:Array Oper) (anc:Nat->List Nat):Prop where
 edge:∀i o,ops[i]?=some o->∀j,j∈J1t o->j<i
 anc:∀i o,ops[i]?=some o->∀e,e∈anc i->e∈J1t o\/∃j,j∈J1t o/\e∈anc j
theorem J5G {ops:Array Oper} {anc:Nat->List Nat} (st:J8X ops anc) {listed:Array Bool} (hs:listed.size=ops.size)
 (closed:∀i o,ops[i]?=some o->listed.getD i true=true->∀j,j∈J1t o->listed.getD j false=true) :
 ∀i o,ops[i]?=some o->(∀j,j∈J1t o->listed.getD j false=true)->∀e,e∈anc i->listed.getD e false=true:=by
 intro i
 induction i using Nat.strongRecOn with
 | _ i ih =>
   intro o ho he e hm;rcases st.anc i o ho e hm with h | ⟨j,hj,hje⟩
   . exact he e h
   . have hlt:=st.edge i o ho j hj;have hi:i<ops.size:=(Array.getElem?_eq_some_iff.1 ho).1;have hjs:j<ops.size:=by omega
     have hl:=he j hj;have hl':listed.getD j true=true:=by
      rw[Array.getD_eq_getD_getElem?,Array.getElem?_eq_getElem (by omega)] at hl ⊢;simpa using hl
     exact ih j hlt ops[j] (by simp[hjs]) (closed j ops[j] (by simp[hjs]) hl') e hje
theorem J6o {listed:Array Bool} {i j:Nat} {d:Bool} (h:i<listed.size):(listed.setIfInBounds i true).getD j d=if i=j then true else listed.getD j d:=by
 rw[Array.getD_eq_getD_getElem?,Array.getElem?_setIfInBounds];split
 . simp
 . rw[Array.getD_eq_getD_getElem?]
theorem J6Y {ops:Array Oper} {listed:Array Bool} {i:Nat}:i∈Region.ready .any ops listed↔i<ops.size/\listed.getD i true=false/\∃o,ops[i]?=some o/\∀j,j∈J1t o->listed.getD j false=true:=by
 unfold Region.ready;simp only[List.mem_filter,List.mem_range,Bool.and_eq_true,Bool.not_eq_true'];constructor
 . rintro⟨h1,h2,h3⟩;refine⟨h1,h2,ops[i],by simp[h1],?_⟩;rw[Array.getElem?_eq_getElem h1] at h3;simp only[Option.map_some,Option.getD_some] at h3;intro j hj;simp only[J1t,List.mem_map,List.mem_filter] at hj;obtain⟨e,⟨he1,he2⟩,rfl⟩:=hj;rw[Array.all_eq_true_iff_forall_mem] at h3;have:=h3 e (by simpa using he1);rw[he2] at this;simpa using this
 . rintro⟨h1,h2,o,ho,h3⟩;refine⟨h1,h2,?_⟩;rw[ho];simp only[Option.map_some,Option.getD_some];rw[Array.all_eq_true_iff_forall_mem];intro e he;cases hb:Region.binds .any e with
   | false=>rfl
   | true =>
     have:=h3 e.on (by simp only[J1t,List.mem_map,List.mem_filter];exact⟨e,⟨by simpa using he,hb⟩,rfl⟩);rw[this];rfl
section
variable {P:Program} {N Bd:Nat} {ops:Array Oper} {anc:Nat->List Nat} {σ0:Sg} {ks0 Z:List Nat} {pre rest:List DI} {late:List LT} {env:Env} {own:Own} {ks:List Nat} {B:Own} {M:Nat->Prop} {w:World} {σ:Sg} {a:Act} {listed:Array Bool}
theorem Inv.used (st:J8X ops anc) (h:Inv P N Bd ops anc σ0 ks0 Z pre rest late env own ks B M w σ a listed) {l:LT} (hl:l∈late) {o:Oper} (ho:ops[l.d.ix]?=some o) (hr:∀j,j∈J1t o->listed.getD j false=true) :
 ∀t,t∈l.d.si.uses->∀l',l'∈late->l'.d.si.dst≠some t:=by
 intro t ht l' hl' hd;have h1:=h.u1 l'.d l.d (h.sub l' hl').1 (h.sub l hl).1 (h.sub l' hl').2 t hd ht;have h2:=J5G st h.lsize h.closed _ o ho hr _ h1;have hlt:l'.d.ix<ops.size:=by
  obtain⟨o',ho',_⟩:=h.facts l' hl';exact(Array.getElem?_eq_some_iff.1 ho').1
 have h3:=(h.part _ hlt).2 (.inl (List.mem_map.2 ⟨l',hl',rfl⟩));have hs:=h.lsize;rw[Array.getD_eq_getD_getElem?,Array.getElem?_eq_getElem (by omega)] at h2 h3;simp at h2 h3;rw[h2] at h3;cases h3
theorem J1J {a:Act} {o:Oper} {env:Env} {M:Nat->Prop} {w:World} {σ:Sg} {si:SI} {run:Bool} (hc:cSI P N ops o=some si) (hg:J13 env si.guard run)
 (hd:∀t,t∈si.uses->∀v,look env t=some v->Den M w σ v (a.tmps.getD t undef)):Region.wanted o (yielded ops a.tmps)=run:=by
 obtain⟨op,_,_,hgd⟩:=J5f hc;rcases hgd with ⟨h1,rfl⟩ | ⟨j,b,t,h1,h2,rfl⟩
 . simp only[J13] at hg;subst hg;simp[Region.wanted,h1]
 . rcases hg with ⟨bb,h3,h4⟩ | ⟨h4,us,h3⟩
   . have hden:=hd t (by simp[SI.uses]) _ h3;have hb:a.tmps.getD t undef=.bool bb:=by
      generalize a.tmps.getD t undef=q at hden;cases hden;rfl
     rw[Q0e h1 h2 hb,h4]
   . have hden:=hd t (by simp[SI.uses]) _ h3;have hb:a.tmps.getD t undef=.tuple us:=by
      generalize a.tmps.getD t undef=q at hden;cases hden;rfl
     rw[J8b h1 h2 hb,h4]
theorem J1d {late:List LT} {l x:LT}:x∈late.filter (fun y=>!Nat.beq y.d.ix l.d.ix)↔x∈late/\x.d.ix≠l.d.ix:=by
 simp only[List.mem_filter,Bool.not_eq_true'];constructor
 . rintro⟨h1,h2⟩;exact⟨h1,fun e=>by rw[e] at h2;simp at h2⟩
 . rintro⟨h1,h2⟩;refine⟨h1,?_⟩;rw[<- Bool.not_eq_true];exact fun h=>h2 (Nat.eq_of_beq_eq_true h)
theorem Inv.ran (h:Inv P N Bd ops anc σ0 ks0 Z pre rest late env own ks B M w σ a listed) {l:LT} (hl:l∈late) {o:Oper} (ho:ops[l.d.ix]?=some o) (hdst:o.dst=l.d.si.dst) (hr:∀j,j∈J1t o->listed.getD j false=true)
 (hN:∀t,l.d.si.dst=some t->t<N) {M':Nat->Prop} {w':World} {σ':Sg} {B':Own} {u:Value} (hv:Den M' w' σ' l.k.val u) (hh:J0S M' w' σ' B' ks) (tr:Tr M w σ B M' w' σ' B')
 (hB:∀k b,(k,b)∈B'↔((k,b)∈B\/l.k.newk=some (k,b))) (hσ:∀k,σ' k≠none->σ k≠none\/∃b,l.k.newk=some (k,b)) :
 Inv P N Bd ops anc σ0 ks0 Z pre rest (late.filter (fun y=>!Nat.beq y.d.ix l.d.ix)) env own ks B' M' w' σ' (a.put o.dst u) (listed.setIfInBounds l.d.ix true):=by
 have hE:=tr.ext h.heap.own;have hlt:l.d.ix<ops.size:=(Array.getElem?_eq_some_iff.1 ho).1;have hls:l.d.ix<listed.size:=by rw[h.lsize];exact hlt
 have same:∀x,x∈late->x.d.ix=l.d.ix->x=l:=by
  intro x hx e;have:=h.nd;obtain⟨i,hi⟩:=List.getElem?_of_mem hx;obtain⟨j,hj⟩:=List.getElem?_of_mem hl;have hij:i=j:=by
   have hi':=(List.getElem?_eq_some_iff.1 hi).1;have hj':=(List.getElem?_eq_some_iff.1 hj).1;refine(List.getElem_inj (xs:=late.map (·.d.ix)) (h₀:=by simpa using hi') (h₁:=by simpa using hj') this).1 ?_;simp only[List.getElem_map];rw[(List.getElem?_eq_some_iff.1 hi).2,(List.getElem?_eq_some_iff.1 hj).2];exact e
  subst hij;rw[hi] at hj;exact Option.some.inj hj
 refine⟨?_,?_,?_,?_,?_,?_,?_,?_,hh,?_,h.ownnd,?_,?_,?_,?_,h.kd1,?_,?_,h.kd4,h.kd5,h.u1,h.dd⟩
 . cases o.dst<;>simp[Act.put,h.size]
 . have hd:=h.defers.tr tr;cases o.dst<;>exact hd
 . simp[h.lsize]
 . intro x hx;exact h.sub x (J1d.1 hx).1
 . exact h.nd.sublist (List.Sublist.map _ (List.filter_sublist))
 . intro i hi;rw[J6o hls];by_cases e:l.d.ix=i
   . subst e;rw[if_pos rfl];constructor
     . intro hh;cases hh
     . intro hh;exfalso;rcases hh with hh|hh
       . obtain⟨x,hx,e⟩:=List.mem_map.1 hh;exact(J1d.1 hx).2 e
       . exact h.disj l hl hh
   . rw[if_neg e,h.part i hi];constructor
     . rintro (hm|hm)
       . obtain⟨x,hx,e'⟩:=List.mem_map.1 hm;exact .inl (List.mem_map.2 ⟨x,J1d.2 ⟨hx,fun e''=>e (by rw[<- e'',e'])⟩,e'⟩)
       . exact .inr hm
     . rintro (hm|hm)
       . obtain⟨x,hx,e'⟩:=List.mem_map.1 hm;exact .inl (List.mem_map.2 ⟨x,(J1d.1 hx).1,e'⟩)
       . exact .inr hm
 . intro i o' ho' hi j hj;rw[J6o hls] at hi ⊢;by_cases ej:l.d.ix=j
   . rw[if_pos ej]
   . rw[if_neg ej];by_cases e:l.d.ix=i
     . subst e;rw[ho] at ho';cases ho';exact hr j hj
     . rw[if_neg e] at hi;exact h.closed i o' ho' hi j hj
 . intro t v hv' hnl;by_cases e:l.d.si.dst=some t
   . obtain⟨o',ho',_,h3,_⟩:=h.facts l hl;have:=h3 t e;rw[this] at hv';cases hv';rw[hdst,e];have ht:t<a.tmps.size:=by rw[h.size];exact hN t e
     simpa[Act.put,Array.getD,ht] using hv
   . have hold:=h.envd t v hv' (fun x hx=>by
      by_cases ex:x.d.ix=l.d.ix
      . rw[same x hx ex];exact e
      . exact hnl x (J1d.2 ⟨hx,ex⟩))
     have he:(a.put o.dst u).tmps.getD t undef=a.tmps.getD t undef:=by
      rw[hdst];cases hd:l.d.si.dst with
      | none=>rfl
      | some t' =>
        have hne:t'≠t:=fun e'=>e (by rw[hd,e']);simp only[Act.put,Array.getD_eq_getD_getElem?,Array.getElem?_setIfInBounds,if_neg hne]
     rw[he];exact hold.mono hE tr.le
 . intro k b;rw[h.ownc,hB];constructor
   . rintro (hm | ⟨x,hx,hk⟩)
     . exact .inl (.inl hm)
     . by_cases ex:x.d.ix=l.d.ix
       . rw[same x hx ex] at hk;exact .inl (.inr hk)
       . exact .inr ⟨x,J1d.2 ⟨hx,ex⟩,hk⟩
   . rintro ((hm|hk) | ⟨x,hx,hk⟩)
     . exact .inl hm
     . exact .inr ⟨l,hl,hk⟩
     . exact .inr ⟨x,(J1d.1 hx).1,hk⟩
 . intro x hx k b hk;obtain⟨hx1,hx2⟩:=J1d.1 hx;obtain⟨q1,q2⟩:=h.unborn x hx1 k b hk;refine⟨?_,q2⟩;cases hs:σ' k with
   | none=>rfl
   | some y =>
     exfalso;rcases hσ k (by rw[hs];simp) with hn | ⟨b',hk'⟩
     . exact hn q1
     . exact hx2 (h.unb2 x l hx1 hl k b b' hk hk')
 . intro x x' hx hx' k b b' hk hk';exact h.unb2 x x' (J1d.1 hx).1 (J1d.1 hx').1 k b b' hk hk'
 . intro x hx;exact h.facts x (J1d.1 hx).1
 . intro x hx;exact h.disj x (J1d.1 hx).1
 . intro x hx;exact h.kd2 x (J1d.1 hx).1
 . intro q h1 h2;cases hs:σ' q with
   | none=>rfl
   | some y =>
     exfalso;rcases hσ q (by rw[hs];simp) with hn | ⟨b',hk'⟩
     . exact hn (h.kd3 q h1 h2)
     . exact h2 (h.kd2 l hl q b' hk')
end
section
variable {P:Program} {N Bd:Nat} {ops:Array Oper} {anc:Nat->List Nat} {σ0:Sg} {ks0 Z:List Nat} {pre rest:List DI} {late:List LT} {env:Env} {own:Own} {ks:List Nat} {B:Own} {M:Nat->Prop} {w:World} {σ:Sg} {a:Act} {listed:Array Bool}
theorem J6c {r:Option Nat} {Q:Exit->Act->World->Prop} {K:Act->World->Prop} {i:Nat} {o:Oper} (ho:ops[i]?=some o) (hw:Region.wanted o (yielded ops a.tmps)=true) (h:o.wpIn (FR r) 0 P a w K Q):wpOpIn (FR r) 0 P ops Q i K a w:=by
 unfold wpOpIn;rw[ho];simp only[hw,if_true];exact h
theorem Q0b {r:Option Nat} {Q:Exit->Act->World->Prop} {K:Act->World->Prop} {i:Nat} {o:Oper} (ho:ops[i]?=some o) (hw:Region.wanted o (yielded ops a.tmps)=false) (h:K (a.put o.dst undef) w):wpOpIn (FR r) 0 P ops Q i K a w:=by
 unfold wpOpIn;rw[ho];simp only[hw];exact⟨fun _ _=>trivial,h⟩
theorem Inv.late_step (ro:Option Nat) (st:J8X ops anc) (h:Inv P N Bd ops anc σ0 ks0 Z pre rest late env own ks B M w σ a listed) {l:LT} (hl:l∈late) {o:Oper} (ho:ops[l.d.ix]?=some o) (hr:∀j,j∈J1t o->listed.getD j false=true)
 {Q:Exit->Act->World->Prop} {K:Act->World->Prop}
 (hK:∀B' M' w' σ' a',Inv P N Bd ops anc σ0 ks0 Z pre rest (late.filter (fun y=>!Nat.beq y.d.ix l.d.ix)) env own ks B' M' w' σ' a' (listed.setIfInBounds l.d.ix true)->Tr M w σ B M' w' σ' B'->K a' w') :
 wpOpIn (FR ro) 0 P ops Q l.d.ix K a w:=by
 obtain⟨o',ho',hc,hval,hk⟩:=h.facts l hl;rw[ho] at ho';cases ho';obtain⟨sop,hsop,hN,hgd⟩:=J5f hc;have hdst:o.dst=l.d.si.dst:=by rcases hgd with ⟨_,e⟩ | ⟨_,_,_,_,_,e⟩<;>rw[e]
 have hop:sop=l.d.si.op:=by rcases hgd with ⟨_,e⟩ | ⟨_,_,_,_,_,e⟩<;>rw[e]
 subst hop;have hN':∀t,l.d.si.dst=some t->t<N:=fun t ht=>hN t (by rw[hdst];exact ht);have hu:=h.used st hl ho hr;have hden:∀t,t∈l.d.si.uses->∀v,look env t=some v->Den M w σ v (a.tmps.getD t undef):=fun t ht v hv=>h.envd t v hv (hu t ht);have ok:∀x,x∈l.d.si.op.xs->XOk M w σ env a x:=fun x hx n e v hv=>hden n (by simp only[SI.uses,List.mem_append];exact .inl (J2A (e▸hx))) v hv;cases hlk:l.k with
 | pure v =>
   rw[hlk] at hk;obtain⟨g,pf⟩:=hk;refine J6c ho (J1J hc g hden) (J27 ro (J2d hsop) (Q3g pf ok fun u hu'=>?_));refine hK B M w σ _ (h.ran hl ho hdst hr hN' (u:=u) (by rw[hlk];exact hu') h.heap (Tr.refl _ _ _ _) (fun k b=>by rw[hlk];simp[LK.newk]) (fun k hk=>.inl hk)) (Tr.refl _ _ _ _)
 | load t n z p v =>
   rw[hlk] at hk;obtain⟨g,e1,e2,e3,e4,lf,_⟩:=hk;have hp:Den M w σ p (a.tmps.getD n undef):=hden n (by simp only[SI.uses,List.mem_append,e1];exact .inl (by simp[SOp.xs,J2P])) p e4;have hsome:∀k,p.readKey=some k->σ k≠none:=by
    intro k hk hn;generalize a.tmps.getD n undef=q at hp;cases hp<;>simp only[V.readKey,Option.some.injEq,reduceCtorEq] at hk<;>(subst hk;rename_i hh;rw[hn] at hh;cases hh)
   obtain⟨r,r1,r2⟩:=lf M w σ _ hp (fun k b hk hlook=>by
    rcases (h.ownc k b).1 (J0i hlook) with hB | ⟨x,hx,hxk⟩
    . exact h.heap.own.blk k b hB
    . exact(hsome k hk (h.unborn x hx k b hxk).1).elim)
   have hrun:(execOp a.eval o).run P w=.ok (.value r) w:=by
    obtain⟨dst,op,type,pos,after,guard⟩:=o;simp only at e2;subst e2;exact J05 r1
   refine J6c ho (J1J hc g hden) (J27 ro (J2d hsop) (J0y hrun ?_));refine hK B M w σ _ (h.ran hl ho hdst hr hN' (u:=r) (by rw[hlk];exact r2) h.heap (Tr.refl _ _ _ _) (fun k b=>by rw[hlk];simp[LK.newk]) (fun k hk=>.inl hk)) (Tr.refl _ _ _ _)
 | new k b v =>
   rw[hlk] at hk;obtain⟨g,af,_,_⟩:=hk;obtain⟨hσk,hks⟩:=h.unborn l hl k b (by rw[hlk];rfl);have hh:J0S M w σ B (k::ks):=⟨h.heap.own,fun q hq=>by rcases List.mem_cons.1 hq with e|e;(subst e;exact hσk);exact h.heap.fresh q e,List.nodup_cons.2 ⟨hks,h.heap.knodup⟩⟩;obtain⟨u,w',M',σ',r1,r2,r3,r4,_,r5⟩:=af M w σ a B ks ok hh;refine J6c ho (J1J hc g hden) (J27 ro (J2d hsop) (J0y r1 ?_));refine hK _ M' w' σ' _ (h.ran hl ho hdst hr hN' (u:=u) (by rw[hlk];exact r4) r2 r3 (fun q c=>by rw[hlk];simp only[LK.newk,List.mem_cons,Option.some.injEq,Prod.mk.injEq];constructor;(rintro (x|x);exact .inr ⟨x.1.symm,x.2.symm⟩;exact .inl x);(rintro (x|x);exact .inr x;exact .inl ⟨x.1.symm,x.2.symm⟩)) (fun q hq=>?_)) r3
   . by_cases e:σ q=none
     . right;rw[hlk];by_cases eq:q=k
       . subst eq;exact⟨b,rfl⟩
       . exfalso;by_cases em:q∈ks
         . exact hq (r2.fresh q em)
         . exact hq (r5.2.1 q e (by simp[eq,em]))
     . exact .inl e
 | skip =>
   rw[hlk] at hk;refine Q0b ho (J1J hc hk hden) ?_;refine hK B M w σ _ (h.ran hl ho hdst hr hN' (u:=undef) (by rw[hlk];exact .raw _ _) h.heap (Tr.refl _ _ _ _) (fun k b=>by rw[hlk];simp[LK.newk]) (fun k hk=>.inl hk)) (Tr.refl _ _ _ _)
end
section
variable {P:Program} {N Bd:Nat} {ops:Array Oper} {anc:Nat->List Nat} {σ0:Sg} {ks0 Z:List Nat} {pre post:List DI} {late:List LT} {env:Env} {own:Own} {ks:List Nat} {B:Own} {M:Nat->Prop} {w:World} {σ:Sg} {a:Act} {listed:Array Bool}
theorem Inv.push {si:SI} {ix:Nat} (hc:X8o anc pre (.op ix si) post) (hix:ix∉post.map DI.ix) (h:Inv P N Bd ops anc σ0 ks0 Z pre (.op ix si::post) late env own ks B M w σ a listed) (lk:LK)
 (own':Own) (ks':List Nat) (hf:LOk P N ops (J7V env si.dst lk.val) own' ⟨.op ix si,lk⟩)
 (hnew:(lk.newk=none/\own'=own/\ks'=ks)\/∃k b,lk.newk=some (k,b)/\ks=k::ks'/\own'=(k,b)::own) :
 Inv P N Bd ops anc σ0 ks0 Z (pre++[.op ix si]) post (⟨.op ix si,lk⟩::late) (J7V env si.dst lk.val) own' ks' B M w σ a listed:=by
 have hnotin:∀k,k∈ks->∀b,(k,b)∉own:=fun k hk b hm=>by
  rcases (h.ownc k b).1 hm with hB | ⟨x,hx,hxk⟩
  . obtain⟨y,hy⟩:=h.heap.own.key hB;rw[h.heap.fresh k hk] at hy;cases hy
  . exact(h.unborn x hx k b hxk).2 hk
 have hlook:∀t,si.dst≠some t->look (J7V env si.dst lk.val) t=look env t:=by
  intro t ht;unfold J7V;split
  . rename_i t' e;exact J3Q (fun e'=>ht (by rw[e,e']))
  . rfl
 refine⟨h.size,h.defers,h.lsize,?_,?_,?_,h.closed,?_,?_,?_,?_,?_,?_,?_,?_,?_,?_,h.kd3,?_,h.kd5,?_,?_⟩
 . intro l hl;rcases List.mem_cons.1 hl with e|hl
   . subst e;exact⟨by simp,rfl⟩
   . exact⟨List.mem_append_left _ (h.sub l hl).1,(h.sub l hl).2⟩
 . simp only[List.map_cons,List.nodup_cons];refine⟨fun hm=>?_,h.nd⟩;obtain⟨l,hl,e⟩:=List.mem_map.1 hm;exact h.disj l hl (by rw[e];simp[DI.ix])
 . intro i hi;rw[h.part i hi];simp only[List.map_cons,List.mem_cons,DI.ix];constructor
   . rintro (x|x|x)
     . exact .inl (.inr x)
     . exact .inl (.inl x)
     . exact .inr x
   . rintro ((x|x)|x)
     . exact .inr (.inl x)
     . exact .inl x
     . exact .inr (.inr x)
 . intro t v hv hnl;have hne:si.dst≠some t:=hnl ⟨.op ix si,lk⟩ (by simp);rw[hlook t hne] at hv;exact h.envd t v hv fun l hl=>hnl l (by simp[hl])
 . rcases hnew with ⟨_,_,e⟩ | ⟨k,b,_,e,_⟩
   . rw[e];exact h.heap
   . have hh:=h.heap;rw[e] at hh;exact⟨hh.own,fun q hq=>hh.fresh q (by simp[hq]),(List.nodup_cons.1 hh.knodup).2⟩
 . intro k b;rcases hnew with ⟨e1,e2,_⟩ | ⟨k',b',e1,_,e2⟩
   . rw[e2,h.ownc];constructor
     . rintro (x | ⟨l,hl,x⟩)
       . exact .inl x
       . exact .inr ⟨l,by simp[hl],x⟩
     . rintro (x | ⟨l,hl,x⟩)
       . exact .inl x
       . rcases List.mem_cons.1 hl with e|hl
         . subst e;rw[e1] at x;cases x
         . exact .inr ⟨l,hl,x⟩
   . rw[e2,List.mem_cons,h.ownc];constructor
     . rintro (x|x | ⟨l,hl,x⟩)
       . cases x;exact .inr ⟨⟨.op ix si,lk⟩,by simp,e1⟩
       . exact .inl x
       . exact .inr ⟨l,by simp[hl],x⟩
     . rintro (x | ⟨l,hl,x⟩)
       . exact .inr (.inl x)
       . rcases List.mem_cons.1 hl with e|hl
         . subst e;rw[e1] at x;cases x;exact .inl rfl
         . exact .inr (.inr ⟨l,hl,x⟩)
 . rcases hnew with ⟨_,e,_⟩ | ⟨k,b,_,e1,e2⟩
   . rw[e];exact h.ownnd
   . rw[e2];simp only[List.map_cons,List.nodup_cons];refine⟨fun hm=>?_,h.ownnd⟩;obtain⟨⟨q,c⟩,hq,e⟩:=List.mem_map.1 hm;simp only at e;subst e;exact hnotin q (by rw[e1];simp) c hq
 . intro l hl k b hk;have hsub:∀q,q∈ks'->q∈ks:=by
    rcases hnew with ⟨_,_,e⟩ | ⟨_,_,_,e,_⟩
    . rw[e];exact fun _ x=>x
    . rw[e];exact fun _ x=>List.mem_cons_of_mem _ x
   rcases List.mem_cons.1 hl with e|hl
   . subst e;rcases hnew with ⟨e1,_,_⟩ | ⟨k',b',e1,e2,_⟩
     . rw[e1] at hk;cases hk
     . rw[e1] at hk;cases hk;have hh:=h.heap;rw[e2] at hh;exact⟨hh.fresh k (by simp),(List.nodup_cons.1 hh.knodup).1⟩
   . obtain⟨q1,q2⟩:=h.unborn l hl k b hk;exact⟨q1,fun x=>q2 (hsub k x)⟩
 . intro l l' hl hl' k b b' hk hk';have cross:∀x,x∈late->∀c c',x.k.newk=some (k,c)->lk.newk=some (k,c')->False:=by
    intro x hx c c' hxk hlk;rcases hnew with ⟨e1,_,_⟩ | ⟨k',b',e1,e2,_⟩
    . rw[e1] at hlk;cases hlk
    . rw[e1] at hlk;cases hlk;exact(h.unborn x hx k c hxk).2 (by rw[e2];simp)
   rcases List.mem_cons.1 hl with e|hl
   . subst e;rcases List.mem_cons.1 hl' with e'|hl'
     . subst e';rfl
     . exact(cross l' hl' b' b hk' hk).elim
   . rcases List.mem_cons.1 hl' with e'|hl'
     . subst e';exact(cross l hl b b' hk hk').elim
     . exact h.unb2 l l' hl hl' k b b' hk hk'
 . intro l hl;rcases List.mem_cons.1 hl with e|hl
   . subst e;exact hf
   . refine(h.facts l hl).ext ?_ ?_ ?_
     . intro n hn;refine hlook n fun e=>?_;have:=(hc.reads n e l.d (h.sub l hl).1 hn).1;cases this
     . intro t ht;refine hlook t fun e=>?_;exact hc.dst t e l.d (h.sub l hl).1 ht
     . intro t n z p v _ _ _ lf;rcases hnew with ⟨_,e,_⟩ | ⟨k,b,_,e1,e2⟩
       . rw[e];exact lf
       . rw[e2];intro M1 w1 σ1 u hd hb;refine lf M1 w1 σ1 u hd fun q c hq hlk=>hb q c hq ?_;have hne:k≠q:=fun e=>by
          subst e;exact hnotin k (by rw[e1];simp) c (J0i hlk)
         have hbq:Nat.beq k q=false:=by
          rw[<- Bool.not_eq_true];exact fun hh=>hne (Nat.eq_of_beq_eq_true hh)
         show(match Nat.beq k q with|true=>some b|false=>look own q)=_;rw[hbq];exact hlk
 . intro l hl;rcases List.mem_cons.1 hl with e|hl
   . subst e;exact hix
   . exact fun x=>h.disj l hl (by simp[x])
 . intro k hk;refine h.kd1 k ?_;rcases hnew with ⟨_,_,e⟩ | ⟨_,_,_,e,_⟩
   . rw[e] at hk;exact hk
   . rw[e];exact List.mem_cons_of_mem _ hk
 . intro l hl k b hk;rcases List.mem_cons.1 hl with e|hl
   . subst e;rcases hnew with ⟨e1,_,_⟩ | ⟨k',b',e1,e2,_⟩
     . rw[e1] at hk;cases hk
     . rw[e1] at hk;cases hk;exact h.kd1 k (by rw[e2];simp)
   . exact h.kd2 l hl k b hk
 . intro k hk;rcases hnew with ⟨_,e,_⟩ | ⟨k',b,_,e1,e2⟩
   . rw[e] at hk;exact h.kd4 k hk
   . rw[e2] at hk;simp only[List.map_cons,List.mem_cons] at hk;rcases hk with e|e
     . subst e;exact h.kd5 _ (h.kd1 _ (by rw[e1];simp))
     . exact h.kd4 k e
 . intro d d' hd hd' he t ht hu;rcases List.mem_append.1 hd with hd|hd
   . rcases List.mem_append.1 hd' with hd'|hd'
     . exact h.u1 d d' hd hd' he t ht hu
     . simp only[List.mem_singleton] at hd';subst hd';exact hc.uses d hd he t ht hu
   . simp only[List.mem_singleton] at hd;subst hd;rcases List.mem_append.1 hd' with hd'|hd'
     . have:=(hc.reads t ht d' hd' hu).1;cases this
     . simp only[List.mem_singleton] at hd';subst hd';exact(hc.self t ht rfl hu).elim
 . intro d d' hd hd' hne t ht ht';rcases List.mem_append.1 hd with hd|hd
   . rcases List.mem_append.1 hd' with hd'|hd'
     . exact h.dd d d' hd hd' hne t ht ht'
     . simp only[List.mem_singleton] at hd';subst hd';exact hc.dst t ht' d hd ht
   . simp only[List.mem_singleton] at hd;subst hd;rcases List.mem_append.1 hd' with hd'|hd'
     . exact hc.dst t ht d' hd' ht'
     . simp only[List.mem_singleton] at hd';subst hd';exact hne rfl
theorem J5Y {env:Env} {g:Option (Nat×Bool)} {A C:Prop} (h:J5Z env g A C):(J13 env g true/\A)\/(J13 env g false/\C):=by
 unfold J5Z at h;split at h
 . exact .inl ⟨rfl,h⟩
 . rename_i t want;split at h
   . rename_i b hb;split at h
     . rename_i hx;exact .inl ⟨.inl ⟨b,hb,by revert hx;cases b<;>cases want<;>decide⟩,h⟩
     . rename_i hx;exact .inr ⟨.inl ⟨b,hb,by revert hx;cases b<;>cases want<;>decide⟩,h⟩
   . rename_i us hb;exact .inr ⟨.inr ⟨rfl,us,hb⟩,h⟩
   . exact h.elim
theorem J2z {P:Program} {post:List DI} {env:Env} {d:Option Nat} {v:V} {own:Own} {ks:List Nat} {K:Env->Own->List Nat->Prop}
 (h:match d with|some t=>J1D P post ((t,v)::env) own ks K|none=>J1D P post env own ks K):J1D P post (J7V env d v) own ks K:=by
 unfold J7V;cases d<;>exact h
theorem Inv.absorb {si:SI} {ix:Nat} {o:Oper} (ho:ops[ix]?=some o) (hsi:cSI P N ops o=some si) (hc:X8o anc pre (.op ix si) post) (hix:ix∉post.map DI.ix)
 (h:Inv P N Bd ops anc σ0 ks0 Z pre (.op ix si::post) late env own ks B M w σ a listed) {K:Env->Own->List Nat->Prop} (hv:J1D P (.op ix si::post) env own ks K) :
 ∃lk env' own' ks',Inv P N Bd ops anc σ0 ks0 Z (pre++[.op ix si]) post (⟨.op ix si,lk⟩::late) env' own' ks' B M w σ a listed/\J1D P post env' own' ks' K:=by
 obtain⟨d,op,g⟩:=si;obtain⟨sop,hsop,hN,hgd⟩:=J5f hsi;have hdst:o.dst=d:=by rcases hgd with ⟨_,e⟩ | ⟨_,_,_,_,_,e⟩<;>(cases e;rfl)
 have hop:sop=op:=by rcases hgd with ⟨_,e⟩ | ⟨_,_,_,_,_,e⟩<;>(cases e;rfl)
 subst hop;obtain⟨c1,c2,c3⟩:=hc.op rfl;have hself:∀n,n∈SI.uses ⟨d,sop,g⟩->∀v,look (J7V env d v) n=look env n:=by
  intro n hn v;unfold J7V;split
  . rename_i t;refine J3Q fun e=>?_;subst e;exact hc.self t rfl rfl hn
  . rfl
 have hx:∀n,n∈J2P sop.xs->∀v,look (J7V env d v) n=look env n:=fun n hn=>hself n (by simp[SI.uses,hn]);have hg:∀run v,J13 env g run->J13 (J7V env d v) g run:=fun run v hh=>hh.ext fun t b e=>hself t (by simp[SI.uses,e]) v;have hval:∀v t,d=some t->look (J7V env d v) t=some v:=by
  intro v t e;subst e;exact J5U
 rcases J5Y hv with ⟨gk,hv⟩ | ⟨gk,hv⟩
 . by_cases hn:sop.isNew=true
   . obtain⟨k,ks',b,v,rfl,hK,af,hvv⟩:=Q0W hsop hn hv;refine⟨_,_,_,_,h.push hc hix (.new k b v) ((k,b)::own) ks' ⟨o,ho,hsi,fun t ht=>hval v t ht,hg _ v gk,af.ext fun n hn=>hx n hn v,?_,hn⟩ (.inr ⟨k,b,rfl,rfl,rfl⟩),J2z hK⟩;rcases hvv with e | ⟨_,_,e⟩|e<;>(rw[e];rfl)
   . by_cases hl:∃z x,sop=.load z x
     . obtain⟨z,x,rfl⟩:=hl;obtain⟨n,rfl⟩:=c3 z x rfl;obtain⟨t,x0,p,v,e1,e2,hK,hget,hp,lf,hnr⟩:=J8y hsop hv;have hx0:x0=.tmp n/\look env n=some p:=by
        have hw:=J2c hsop;rw[e1] at hw;cases hw with
        | load _ _ _ _ _ hcx =>
          cases x0 with
          | tmp m =>
            simp only[cX,Option.some.injEq,X.t.injEq] at hcx;subst hcx;refine⟨rfl,?_⟩;simp only[X.get] at hget;split at hget
            . rename_i q hq;rw[hq,hget]
            . exact hget.elim
          | const c=>simp only[cX,Option.map_eq_some_iff] at hcx;obtain⟨_,_,hh⟩:=hcx;cases hh
          | global g=>cases hcx
          | func f=>simp[cX] at hcx
       obtain⟨rfl,hlk⟩:=hx0;refine⟨_,_,_,_,h.push hc hix (.load t n z p v) own ks ⟨o,ho,hsi,fun t ht=>hval v t ht,hg _ v gk,rfl,e1,e2,?_,lf,hnr⟩ (.inl ⟨rfl,rfl,rfl⟩),J2z hK⟩;rw[hx n (by simp[SOp.xs,J2P])];exact hlk
     . obtain⟨v,hK,pf⟩:=J8o hsop (by simpa using hn) c1 (fun z x e=>hl ⟨z,x,e⟩) hv;exact⟨_,_,_,_,h.push hc hix (.pure v) own ks ⟨o,ho,hsi,fun t ht=>hval v t ht,hg _ v gk,pf.ext fun n hn=>hx n hn v⟩ (.inl ⟨rfl,rfl,rfl⟩),J2z hK⟩
 . exact⟨_,_,_,_,h.push hc hix .skip own ks ⟨o,ho,hsi,fun t ht=>hval _ t ht,hg _ _ gk⟩ (.inl ⟨rfl,rfl,rfl⟩),J2z hv⟩
end
end Go.Eng
namespace Go.Eng
theorem J8t {α:Type}:∀{l:List (Nat×α)} {k:Nat} {a b:α},(l.map (·.1)).Nodup->(k,a)∈l->(k,b)∈l->a=b
 | [],_,_,_,_,h,_=>by simp at h
 | p::l,k,a,b,hn,ha,hb=>by
   simp only[List.map_cons,List.nodup_cons] at hn;rcases List.mem_cons.1 ha with e|ha
   . rcases List.mem_cons.1 hb with e'|hb
     . rw[<- e] at e';cases e';rfl
     . exact(hn.1 (by rw[<- e];exact List.mem_map.2 ⟨_,hb,rfl⟩)).elim
   . rcases List.mem_cons.1 hb with e'|hb
     . exact(hn.1 (by rw[<- e'];exact List.mem_map.2 ⟨_,ha,rfl⟩)).elim
     . exact J8t hn.2 ha hb
theorem J69 {α:Type}:∀{l m:List (Nat×α)} {k:Nat},(∀b,(k,b)∉l)->look (l++m) k=look m k
 | [],_,_,_=>rfl
 | (q,b)::l,m,k,h=>by
   have hne:q≠k:=fun e=>h b (by simp[e]);have hb:Nat.beq q k=false:=by
    rw[<- Bool.not_eq_true];exact fun hh=>hne (Nat.eq_of_beq_eq_true hh)
   show(match Nat.beq q k with|true=>some b|false=>look (l++m) k)=_;rw[hb];exact J69 fun b hb=>h b (by simp[hb])
theorem J3M {env:Env}:∀(pend:List Nat) (own acc:Own) (K:Own->Own->Prop),J4l env pend own acc K->(own.map (·.1)).Nodup->(acc.map (·.1)).Nodup->(∀k,k∈own.map (·.1)->k∉acc.map (·.1)) ->
 ∃A C,K A C/\(A.map (·.1)).Nodup/\(C.map (·.1)).Nodup/\(∀k,k∈A.map (·.1)->k∉C.map (·.1))/\(∀k b,((k,b)∈own\/(k,b)∈acc)↔((k,b)∈A\/(k,b)∈C))/\(∀k b,(k,b)∈A->(k,b)∈own) /\
  ∀t,t∈pend->∀v k,look env t=some v->Q1b v=some k->∀b,(k,b)∉A
 | [],own,acc,K,h,n1,n2,n3=>⟨own,acc,h,n1,n2,n3,fun _ _=>Iff.rfl,fun _ _ h=>h,by simp⟩
 | t::r,own,acc,K,h,n1,n2,n3=>by
   unfold J4l at h;split at h
   . rename_i v hv;split at h
     . rename_i k hk;split at h
       . rename_i b hb;obtain⟨own',h,m1,m2⟩:=J4d _ _ _ h n1;have hmem:=J0i hb;have hnot:k∉acc.map (·.1):=n3 k (List.mem_map.2 ⟨_,hmem,rfl⟩);have hkey:∀q,q∈own'.map (·.1)->q∈own.map (·.1)/\q≠k:=by
          intro q hq;obtain⟨⟨q',c⟩,hm,e⟩:=List.mem_map.1 hq;simp only at e;subst e;obtain⟨z1,z2⟩:=(m2 q' c).1 hm;exact⟨List.mem_map.2 ⟨_,z2,rfl⟩,z1⟩
         obtain⟨A,C,hK,a1,a2,a3,a4,a5,a6⟩:=J3M r own' ((k,b)::acc) K h m1 (by simp only[List.map_cons,List.nodup_cons];exact⟨hnot,n2⟩) (fun q hq=>by
          obtain⟨z1,z2⟩:=hkey q hq;simp only[List.map_cons,List.mem_cons,not_or];exact⟨z2,n3 q z1⟩)
         have uniq:∀c,(k,c)∈own->c=b:=fun c hc=>J8t n1 hc hmem;refine⟨A,C,hK,a1,a2,a3,?_,?_,?_⟩
         . intro q c;rw[<- a4];simp only[List.mem_cons,Prod.mk.injEq,m2];constructor
           . rintro (x|x)
             . by_cases e:q=k
               . subst e;exact .inr (.inl ⟨rfl,uniq c x⟩)
               . exact .inl ⟨e,x⟩
             . exact .inr (.inr x)
           . rintro (⟨_,x⟩ | ⟨e1,e2⟩|x)
             . exact .inl x
             . subst e1 e2;exact .inl hmem
             . exact .inr x
         . intro q c hq;exact((m2 q c).1 (a5 q c hq)).2
         . intro t' ht' v' k' hv' hk' c hc;rcases List.mem_cons.1 ht' with e|ht'
           . subst e;rw[hv] at hv';cases hv';rw[hk] at hk';cases hk';exact((m2 k c).1 (a5 k c hc)).1 rfl
           . exact a6 t' ht' v' k' hv' hk' c hc
       . exact h.elim
     . rename_i hk;obtain⟨A,C,hK,a1,a2,a3,a4,a5,a6⟩:=J3M r own acc K h n1 n2 n3;refine⟨A,C,hK,a1,a2,a3,a4,a5,?_⟩;intro t' ht' v' k' hv' hk' c hc;rcases List.mem_cons.1 ht' with e|ht'
       . subst e;rw[hv] at hv';cases hv';rw[hk] at hk';cases hk'
       . exact a6 t' ht' v' k' hv' hk' c hc
   . exact h.elim
theorem J8V {α:Type}:∀(l m:List α) (K:List α->Prop),X5H l m K->K (l++m)
 | [],_,_,h=>h
 | x::l,m,K,h=>J8V l m (fun l'=>K (x::l')) h
theorem J4z {env:Env} {own:Own} {G:Prop}:∀(l:List (Option Nat×Nat×Nat)),J75 env own G l->G/\∀z n t,(z,n,t)∈l->∀p v,look env n=some p->look env t=some v->(∃u,v=.raw u)\/J3B own z p (fun v'=>v'=v)
 | [],h=>⟨h,by simp⟩
 | (z,n,t)::r,h=>by
   unfold J75 at h;split at h
   . rename_i u hu;obtain⟨g,hr⟩:=J4z r h;refine⟨g,fun z' n' t' hm p v hp hv=>?_⟩;rcases List.mem_cons.1 hm with e|hm
     . cases e;rw[hu] at hv;cases hv;exact .inl ⟨_,rfl⟩
     . exact hr z' n' t' hm p v hp hv
   . rename_i v0 _ hv0;split at h
     . rename_i p0 hp0;obtain⟨h1,h⟩:=h;obtain⟨g,hr⟩:=J4z r h;refine⟨g,fun z' n' t' hm p v hp hv=>?_⟩;rcases List.mem_cons.1 hm with e|hm
       . cases e;rw[hv0] at hv;rw[hp0] at hp;cases hv;cases hp;exact .inr h1
       . exact hr z' n' t' hm p v hp hv
     . exact h.elim
   . exact h.elim
theorem J8B {M M':Nat->Prop} {w w':World} {σ σ':Sg} {B A A' C:Own} {ks ks':List Nat} (hB:J0S M w σ B ks) (hA:∀k b,(k,b)∈A->(k,b)∈B) (hC:∀k b,(k,b)∈C->(k,b)∈B)
 (hAC:∀k,k∈A.map (·.1)->k∉C.map (·.1)) (hCn:(C.map (·.1)).Nodup) (h':J0S M' w' σ' A' ks') (tr:Tr M w σ A M' w' σ' A') (kd:Kd σ A ks σ' A' ks') :
 J0S M' w' σ' (A'++C) ks'/\Tr M w σ B M' w' σ' (A'++C):=by
 have ownA:∀n,J0v w σ A n->J0v w σ B n:=fun n ⟨k,b,hm,e⟩=>⟨k,b,hA k b hm,e⟩;have ownC:∀n,J0v w σ C n->J0v w σ B n/\¬ J0v w σ A n:=by
  rintro n ⟨k,b,hm,e⟩;refine⟨⟨k,b,hC k b hm,e⟩,?_⟩;rintro⟨q,c,hq,e'⟩;have hne:q≠k:=fun ee=>by
   subst ee;exact hAC q (List.mem_map.2 ⟨_,hq,rfl⟩) (List.mem_map.2 ⟨_,hm,rfl⟩)
  exact hB.own.apart q c k b n (hA q c hq) (hC k b hm) hne e' e
 have keyC:∀k b,(k,b)∈C->∃x,σ k=some x:=fun k b hm=>hB.own.key (hC k b hm);have eC:∀k b n,(k,b)∈C->(J0p w' σ' k b n↔J0p w σ k b n):=fun k b n hm=>J0X tr.le (keyC k b hm) fun ob hob=>by
  obtain⟨z1,z2⟩:=ownC ob ⟨k,b,hm,.inl hob⟩;exact tr.adv.same ob (J0s hB.own z1).2 z2
 have hE:Ext M w M' w':=tr.adv.ext fun n hn=>(J0s hB.own (ownA n hn)).1;have notA':∀k,k∈A'.map (·.1)->k∉C.map (·.1):=by
  intro k hk hc;obtain⟨⟨q,c⟩,hm,e⟩:=List.mem_map.1 hc;simp only at e;subst e;rcases kd.2.2 q hk with x|x
  . exact hAC q x hc
  . obtain⟨y,hy⟩:=keyC q c hm;rw[hB.fresh q x] at hy;cases hy
 refine⟨⟨⟨?_,?_,?_⟩,h'.fresh,h'.knodup⟩,⟨⟨tr.adv.os,tr.adv.tape,tr.adv.output,tr.adv.size,?_,?_⟩,?_,tr.le⟩⟩
 . intro k b hm;rcases List.mem_append.1 hm with hm|hm
   . exact h'.own.blk k b hm
   . refine(hB.own.blk k b (hC k b hm)).mono hE tr.le fun n hn=>?_;obtain⟨z1,z2⟩:=ownC n ⟨k,b,hm,hn⟩;obtain⟨m1,m2⟩:=J0s hB.own z1;exact⟨(tr.adv.muts n m2 z2).2 m1,tr.adv.same n m2 z2⟩
 . rw[List.map_append,List.nodup_append];refine⟨h'.own.nodup,hCn,fun k hk q hq e=>?_⟩;subst e;exact notA' k hk hq
 . intro k b k' b' n h1 h2 hne e1 e2;have cross:∀q c q' c',(q,c)∈A'->(q',c')∈C->J0p w' σ' q c n->J0p w' σ' q' c' n->False:=by
    intro q c q' c' hq hq' x x';rw[eC q' c' n hq'] at x';obtain⟨z1,z2⟩:=ownC n ⟨q',c',hq',x'⟩;have hlt:=(J0s hB.own z1).2;rcases tr.new n ⟨q,c,hq,x⟩ with y|y
    . exact z2 y
    . omega
   rcases List.mem_append.1 h1 with h1|h1
   . rcases List.mem_append.1 h2 with h2|h2
     . exact h'.own.apart k b k' b' n h1 h2 hne e1 e2
     . exact cross k b k' b' h1 h2 e1 e2
   . rcases List.mem_append.1 h2 with h2|h2
     . exact cross k' b' k b h2 h1 e2 e1
     . rw[eC k b n h1] at e1;rw[eC k' b' n h2] at e2;exact hB.own.apart k b k' b' n (hC k b h1) (hC k' b' h2) hne e1 e2
 . intro n hn hno;exact tr.adv.same n hn fun x=>hno (ownA n x)
 . intro n hn hno;exact tr.adv.muts n hn fun x=>hno (ownA n x)
 . rintro n ⟨k,b,hm,e⟩;rcases List.mem_append.1 hm with hm|hm
   . rcases tr.new n ⟨k,b,hm,e⟩ with x|x
     . exact .inl (ownA n x)
     . exact .inr x
   . rw[eC k b n hm] at e;exact .inl ⟨k,b,hC k b hm,e⟩
section
variable {P:Program} {N Bd:Nat} {ops:Array Oper} {anc:Nat->List Nat} {σ0:Sg} {ks0 Z:List Nat} {pre post:List DI} {late:List LT} {env:Env} {own:Own} {ks:List Nat} {B:Own} {M:Nat->Prop} {w:World} {σ:Sg} {a:Act} {listed:Array Bool}
theorem Inv.eff_done {e:DI} (hec:e.isEff=true) (hc:X8o anc pre e post) (hix:e.ix∉post.map DI.ix) {o:Oper} (ho:ops[e.ix]?=some o) (hdst:o.dst=e.si.dst)
 (h:Inv P N Bd ops anc σ0 ks0 Z pre (e::post) late env own ks B M w σ a listed) (hr:∀j,j∈J1t o->listed.getD j false=true) (hN:∀t,e.si.dst=some t->t<N)
 (hfree:∀l,l∈late->l.d.ix∉anc e.ix)
 {M':Nat->Prop} {w':World} {σ':Sg} {B' own':Own} {ks':List Nat} {u:Value} {v:V} (hv:Den M' w' σ' v u) (hh:J0S M' w' σ' B' ks') (tr:Tr M w σ B M' w' σ' B')
 (hks:∀q,q∈ks'->q∈ks) (hσ:∀q,σ q=none->q∉ks->σ' q=none)
 (hoc:∀k b,(k,b)∈own'↔((k,b)∈B'\/∃l,l∈late/\l.k.newk=some (k,b))) (hond:(own'.map (·.1)).Nodup) (hoz:∀k,k∈own'.map (·.1)->k∈own.map (·.1)\/k∈ks)
 (hlf:∀l,l∈late->∀t n z p v,l.k=.load t n z p v->look env n=some p->J3F P t=some z->Q1S P t p v own->Q1S P t p v own') :
 Inv P N Bd ops anc σ0 ks0 Z (pre++[e]) post late (J7V env e.si.dst v) own' ks' B' M' w' σ' (a.put o.dst u) (listed.setIfInBounds e.ix true):=by
 have hE:=tr.ext h.heap.own;have hlt:e.ix<ops.size:=(Array.getElem?_eq_some_iff.1 ho).1;have hls:e.ix<listed.size:=by rw[h.lsize];exact hlt
 have hlook:∀t,e.si.dst≠some t->look (J7V env e.si.dst v) t=look env t:=by
  intro t ht;unfold J7V;split
  . rename_i t' e';exact J3Q (fun e''=>ht (by rw[e',e'']))
  . rfl
 have hnl:∀l,l∈late->∀t,e.si.dst=some t->l.d.si.dst≠some t/\t∉l.d.si.uses:=by
  intro l hl t ht;refine⟨hc.dst t ht l.d (h.sub l hl).1,fun hu=>?_⟩;exact hfree l hl (hc.reads t ht l.d (h.sub l hl).1 hu).2
 refine⟨?_,?_,?_,?_,h.nd,?_,?_,?_,hh,hoc,hond,?_,h.unb2,?_,?_,?_,h.kd2,?_,?_,h.kd5,?_,?_⟩
 . cases o.dst<;>simp[Act.put,h.size]
 . have hd:=h.defers.tr tr;cases o.dst<;>exact hd
 . simp[h.lsize]
 . intro l hl;exact⟨List.mem_append_left _ (h.sub l hl).1,(h.sub l hl).2⟩
 . intro i hi;rw[J6o hls];by_cases ee:e.ix=i
   . subst ee;rw[if_pos rfl];constructor
     . intro hh;cases hh
     . intro hh;exfalso;rcases hh with hh|hh
       . obtain⟨x,hx,e'⟩:=List.mem_map.1 hh;exact h.disj x hx (by rw[e'];simp)
       . exact hix hh
   . rw[if_neg ee,h.part i hi];simp only[List.map_cons,List.mem_cons];constructor
     . rintro (x|x|x)
       . exact .inl x
       . exact(ee x.symm).elim
       . exact .inr x
     . rintro (x|x)
       . exact .inl x
       . exact .inr (.inr x)
 . intro i o' ho' hi j hj;rw[J6o hls] at hi ⊢;by_cases ej:e.ix=j
   . rw[if_pos ej]
   . rw[if_neg ej];by_cases ee:e.ix=i
     . subst ee;rw[ho] at ho';cases ho';exact hr j hj
     . rw[if_neg ee] at hi;exact h.closed i o' ho' hi j hj
 . intro t x hx hn;by_cases ed:e.si.dst=some t
   . have:look (J7V env e.si.dst v) t=some v:=by rw[ed];exact J5U
     rw[this] at hx;cases hx;rw[hdst,ed];have ht:t<a.tmps.size:=by rw[h.size];exact hN t ed
     simpa[Act.put,Array.getD,ht] using hv
   . rw[hlook t ed] at hx;have hold:=h.envd t x hx hn;have he:(a.put o.dst u).tmps.getD t undef=a.tmps.getD t undef:=by
      rw[hdst];cases hd:e.si.dst with
      | none=>rfl
      | some t' =>
        have hne:t'≠t:=fun e'=>ed (by rw[hd,e']);simp only[Act.put,Array.getD_eq_getD_getElem?,Array.getElem?_setIfInBounds,if_neg hne]
     rw[he];exact hold.mono hE tr.le
 . intro l hl k b hk;obtain⟨q1,q2⟩:=h.unborn l hl k b hk;exact⟨hσ k q1 q2,fun x=>q2 (hks k x)⟩
 . intro l hl;refine(h.facts l hl).ext ?_ ?_ (hlf l hl)
   . intro n hn;exact hlook n fun ee=>(hnl l hl n ee).2 hn
   . intro t ht;exact hlook t fun ee=>(hnl l hl t ee).1 ht
 . intro l hl x;exact h.disj l hl (by simp only[List.map_cons,List.mem_cons];exact .inr x)
 . intro k hk;exact h.kd1 k (hks k hk)
 . intro q h1 h2;exact hσ q (h.kd3 q h1 h2) fun x=>h2 (h.kd1 q x)
 . intro k hk;rcases hoz k hk with x|x
   . exact h.kd4 k x
   . exact h.kd5 k (h.kd1 k x)
 . intro d d' hd hd' he t ht hu;rcases List.mem_append.1 hd with g1|g1
   . rcases List.mem_append.1 hd' with g2|g2
     . exact h.u1 d d' g1 g2 he t ht hu
     . simp only[List.mem_singleton] at g2;rw[g2] at hu ⊢;exact hc.uses d g1 he t ht hu
   . simp only[List.mem_singleton] at g1;rw[g1,hec] at he;cases he
 . intro d d' hd hd' hne t ht ht';rcases List.mem_append.1 hd with g1|g1
   . rcases List.mem_append.1 hd' with g2|g2
     . exact h.dd d d' g1 g2 hne t ht ht'
     . simp only[List.mem_singleton] at g2;rw[g2] at ht';exact hc.dst t ht' d g1 ht
   . simp only[List.mem_singleton] at g1;rcases List.mem_append.1 hd' with g2|g2
     . rw[g1] at ht;exact hc.dst t ht d' g2 ht'
     . simp only[List.mem_singleton] at g2;exact hne (by rw[g1,g2])
theorem Inv.eff_step (r:Option Nat) (st:J8X ops anc) {ix:Nat} {pend:List Nat} {held:List (Option Nat×Nat×Nat)} {si:SI} {o:Oper} (ho:ops[ix]?=some o) (hsi:cSI P N ops o=some si)
 (hc:X8o anc pre (.eff ix pend held si) post) (hix:ix∉post.map DI.ix) (h:Inv P N Bd ops anc σ0 ks0 Z pre (.eff ix pend held si::post) late env own ks B M w σ a listed)
 (hr:∀j,j∈J1t o->listed.getD j false=true) {K0:Env->Own->List Nat->Prop} (hv:J1D P (.eff ix pend held si::post) env own ks K0)
 {Q:Exit->Act->World->Prop} {K:Act->World->Prop}
 (hK:∀env' own' ks' B' M' w' σ' a',Inv P N Bd ops anc σ0 ks0 Z (pre++[.eff ix pend held si]) post late env' own' ks' B' M' w' σ' a' (listed.setIfInBounds ix true)->J1D P post env' own' ks' K0->Tr M w σ B M' w' σ' B'->K a' w') :
 wpOpIn (FR r) 0 P ops Q ix K a w:=by
 obtain⟨d,op,g⟩:=si;obtain⟨sop,hsop,hN,hgd⟩:=J5f hsi;have hdst:o.dst=d:=by rcases hgd with ⟨_,e⟩ | ⟨_,_,_,_,_,e⟩<;>(cases e;rfl)
 have hop:sop=op:=by rcases hgd with ⟨_,e⟩ | ⟨_,_,_,_,_,e⟩<;>(cases e;rfl)
 subst hop;obtain⟨c1,_,c3⟩:=hc.eff ix pend held _ rfl;have hunl:∀l,l∈late->listed.getD l.d.ix false=false:=by
  intro l hl;obtain⟨o',ho',_⟩:=h.facts l hl;have hlt:=(Array.getElem?_eq_some_iff.1 ho').1;have h3:=(h.part _ hlt).2 (.inl (List.mem_map.2 ⟨l,hl,rfl⟩));have hs:=h.lsize;rw[Array.getD_eq_getD_getElem?,Array.getElem?_eq_getElem (by omega)] at h3 ⊢;simpa using h3
 have hfree:∀l,l∈late->l.d.ix∉anc ix:=by
  intro l hl hm;have:=J5G st h.lsize h.closed ix o ho hr _ hm;rw[hunl l hl] at this;cases this
 have hden:∀t,t∈SI.uses ⟨d,sop,g⟩->∀v,look env t=some v->Den M w σ v (a.tmps.getD t undef):=by
  intro t ht v hv;refine h.envd t v hv fun l hl e=>?_;exact hfree l hl (hc.uses l.d (h.sub l hl).1 (h.sub l hl).2 t e ht)
 have ok:∀x,x∈sop.xs->XOk M w σ env a x:=fun x hx n e v hv=>hden n (by simp only[SI.uses,List.mem_append];exact .inl (J2A (e▸hx))) v hv;have hN':∀t,d=some t->t<N:=fun t ht=>hN t (by rw[hdst];exact ht);rcases J5Y hv with ⟨gk,hv⟩ | ⟨gk,hv⟩
 . obtain⟨A,C,hv,a1,a2,a3,a4,a5,a6⟩:=J3M _ _ _ _ hv h.ownnd (by simp) (by simp);have a4':∀k b,(k,b)∈own↔((k,b)∈A\/(k,b)∈C):=fun k b=>by rw[<- a4];simp
   have hAB:∀k b,(k,b)∈A->(k,b)∈B:=by
    intro k b hm;rcases (h.ownc k b).1 (a5 k b hm) with x | ⟨l,hl,hk⟩
    . exact x
    . exfalso;have hp:=c3 l.d (h.sub l hl).1 (h.sub l hl).2 (hfree l hl);obtain⟨o',ho',_,hval,hkk⟩:=h.facts l hl;cases hlk:l.k with
      | new k' b' v =>
        rw[hlk] at hk hkk hval;cases hk;obtain⟨_,_,hkey,hnew⟩:=hkk;have:∃t,l.d.si.dst=some t/\t∈pend:=by
         unfold X0M at hp;split at hp
         . rename_i z x e;rw[e] at hnew;cases hnew
         . split at hp
           . split at hp
             . rename_i t e;exact⟨t,e,J0m.1 hp⟩
             . cases hp
           . rename_i hno;rw[hnew] at hno;cases hno
        obtain⟨t,ht,hpm⟩:=this;exact a6 t hpm v k (hval t ht) hkey b hm
      | pure v=>rw[hlk] at hk;cases hk
      | load _ _ _ _ _=>rw[hlk] at hk;cases hk
      | skip=>rw[hlk] at hk;cases hk
   let CB:Own:=B.filter fun p=>decide (p.1∉A.map (·.1));have hCB:∀k b,(k,b)∈CB↔((k,b)∈B/\k∉A.map (·.1)):=fun k b=>by simp[CB]
   have hdrop:=J49 (own':=A) h.heap hAB a1;refine J6c ho (J1J hsi gk hden) (Oper.wpIn_mono ?_ (Q8G hsop c1 hv ok hdrop.1 Q r));rintro a' w' ⟨u,M',σ',v,A',ks',rfl,hvd,hh',tr,kd,hheld⟩;obtain⟨hgo,hre⟩:=J4z _ hheld;have hgo:=J8V _ _ _ hgo;have hun:=J8B (C:=CB) h.heap hAB (fun k b hm=>((hCB k b).1 hm).1) (fun k hk hc'=>by
    obtain⟨⟨q,c⟩,hm,e⟩:=List.mem_map.1 hc';simp only at e;subst e;exact((hCB q c).1 hm).2 hk) (h.heap.own.nodup.sublist (List.Sublist.map _ List.filter_sublist)) hh' tr kd
   have keyA':∀k,k∈A'.map (·.1)->k∉C.map (·.1):=by
    intro k hk hcm;rcases kd.2.2 k hk with x|x
    . exact a3 k x hcm
    . obtain⟨⟨q,c⟩,hm,e⟩:=List.mem_map.1 hcm;simp only at e;subst e;rcases (h.ownc q c).1 ((a4' q c).2 (.inr hm)) with y | ⟨l,hl,y⟩
      . obtain⟨z,hz⟩:=h.heap.own.key y;rw[h.heap.fresh q x] at hz;cases hz
      . exact(h.unborn l hl q c y).2 x
   have hinv:=h.eff_done (e:=.eff ix pend held ⟨d,sop,g⟩) rfl hc hix ho hdst hr hN' hfree (own':=C++A') hvd hun.1 hun.2 kd.1 kd.2.1
    (fun k b=>by
      rw[List.mem_append,List.mem_append,hCB];constructor
      . rintro (x|x)
        . rcases (h.ownc k b).1 ((a4' k b).2 (.inr x)) with y|y
          . exact .inl (.inr ⟨y,fun z=>a3 k z (List.mem_map.2 ⟨_,x,rfl⟩)⟩)
          . exact .inr y
        . exact .inl (.inl x)
      . rintro ((x | ⟨x,y⟩)|x)
        . exact .inr x
        . rcases (a4' k b).1 ((h.ownc k b).2 (.inl x)) with z|z
          . exact(y (List.mem_map.2 ⟨_,z,rfl⟩)).elim
          . exact .inl z
        . rcases (a4' k b).1 ((h.ownc k b).2 (.inr x)) with z|z
          . exfalso;obtain⟨l,hl,hk⟩:=x;obtain⟨y,hy⟩:=h.heap.own.key (hAB k b z);rw[(h.unborn l hl k b hk).1] at hy;cases hy
          . exact .inl z)
    (by
      rw[List.map_append,List.nodup_append];exact⟨a2,hh'.own.nodup,fun k hk q hq e=>by subst e;exact keyA' k hq hk⟩)
    (fun k hk=>by
      rw[List.map_append,List.mem_append] at hk;rcases hk with x|x
      . obtain⟨⟨q,c⟩,hm,e⟩:=List.mem_map.1 x;exact .inl (List.mem_map.2 ⟨_,(a4' q c).2 (.inr hm),e⟩)
      . rcases kd.2.2 k x with y|y
        . obtain⟨⟨q,c⟩,hm,e⟩:=List.mem_map.1 y;exact .inl (List.mem_map.2 ⟨_,(a4' q c).2 (.inl hm),e⟩)
        . exact .inr y)
    (fun l hl t n z p v' hlk hp hz lf=>by
      have hpb:=c3 l.d (h.sub l hl).1 (h.sub l hl).2 (hfree l hl);obtain⟨o',ho',_,hval,hkk⟩:=h.facts l hl;rw[hlk] at hval hkk;obtain⟨_,e1,_,_,_,_,hnr⟩:=hkk;unfold X0M at hpb;rw[e1] at hpb;simp only at hpb;split at hpb
      . rename_i n' t' en et;cases en;have hin:=Q30 hpb;rcases hre z n t' hin p v' hp (hval t' et) with ⟨uu,hraw⟩|hload
        . exact(hnr uu hraw).elim
        . have lf':=X07 hz hload;intro M1 w1 σ1 u1 hd1 hb1;refine lf' M1 w1 σ1 u1 hd1 fun q c hq hlq=>hb1 q c hq ?_;rw[J69 (fun b hb=>keyA' q (List.mem_map.2 ⟨_,J0i hlq,rfl⟩) (List.mem_map.2 ⟨_,hb,rfl⟩))];exact hlq
      . cases hpb)
   exact hK _ _ _ _ M' w' σ' _ hinv (J2z hgo) hun.2
 . refine Q0b ho (J1J hsi gk hden) ?_;have hinv:=h.eff_done (e:=.eff ix pend held ⟨d,sop,g⟩) rfl hc hix ho hdst hr hN' hfree (v:=.raw (.tuple #[])) (u:=undef) (.raw _ _) h.heap (Tr.refl _ _ _ _) (fun _ x=>x) (fun _ x _=>x) h.ownc h.ownnd (fun _ x=>.inl x)
    (fun _ _ _ _ _ _ _ _ _ _ lf=>lf)
   exact hK _ _ _ _ M w σ _ hinv (J2z hv) (Tr.refl _ _ _ _)
end
theorem Q4J {P:Program} {N:Nat} {ops:Array Oper}:∀{l:List Oper} {sl:List SI},X10 P N ops l=some sl->∀(i:Nat) (s:SI),sl[i]?=some s->∃o,l[i]?=some o/\cSI P N ops o=some s
 | [],sl,h,i,s,hs=>by simp[X10] at h;subst h;simp at hs
 | o::l,sl,h,i,s,hs=>by
   unfold X10 at h;split at h<;>simp only[Option.some.injEq,reduceCtorEq] at h;rename_i s0 sl' h1 h2;subst h;cases i with
   | zero=>simp at hs;subst hs;exact⟨o,by simp,h1⟩
   | succ i =>
     obtain⟨o',h3,h4⟩:=Q4J h2 i s (by simpa using hs);exact⟨o',by simpa using h3,h4⟩
theorem J4w {A:List (List Nat)} {sis:List SI}:∀{c done:List Nat} {d:DI},d∈J4x A sis c done->sis[d.ix]?=some d.si
 | [],_,d,h=>by simp[J4x] at h
 | i::r,done,d,h=>by
   unfold J4x at h;split at h
   . rename_i si hsi;split at h
     . rcases List.mem_cons.1 h with e|h
       . subst e;exact hsi
       . exact J4w h
     . simp only[List.mem_cons] at h;rcases h with e|h
       . subst e;exact hsi
       . exact J4w h
   . simp at h
theorem J7C {A:List (List Nat)} {pre:List DI} {d:DI} {post:List DI} (h:J51 A pre (d::post)=true):X1J A pre d post=true/\J51 A (pre++[d]) post=true:=by
 simpa[J51] using h
section
variable {P:Program} {N Bd:Nat} {ops:Array Oper} {A:List (List Nat)} {σ0:Sg} {ks0 Z:List Nat} {B:Own} {M:Nat->Prop} {w:World} {σ:Sg} {a:Act} {listed:Array Bool} {K:Env->Own->List Nat->Prop}
theorem Inv.norm:∀(rest pre:List DI) (late:List LT) (env:Env) (own:Own) (ks:List Nat),Inv P N Bd ops (fun i=>A.getD i []) σ0 ks0 Z pre rest late env own ks B M w σ a listed->J51 A pre rest=true ->
 (∀d,d∈rest->∃o,ops[d.ix]?=some o/\cSI P N ops o=some d.si)->(rest.map DI.ix).Nodup->J1D P rest env own ks K ->
 ∃pre' rest' late' env' own' ks',Inv P N Bd ops (fun i=>A.getD i []) σ0 ks0 Z pre' rest' late' env' own' ks' B M w σ a listed/\J51 A pre' rest'=true/\(∀d,d∈rest'->d∈rest)/\(rest'.map DI.ix).Nodup /\
  J1D P rest' env' own' ks' K/\late'.length+rest'.length=late.length+rest.length/\(rest'=[]\/∃ix pend held si post,rest'=.eff ix pend held si::post)
 | [],pre,late,env,own,ks,h,hc,_,hn,hv=>⟨pre,[],late,env,own,ks,h,hc,fun _ h=>h,hn,hv,rfl,.inl rfl⟩
 | .eff ix pend held si::post,pre,late,env,own,ks,h,hc,_,hn,hv=>⟨pre,_,late,env,own,ks,h,hc,fun _ h=>h,hn,hv,rfl,.inr ⟨ix,pend,held,si,post,rfl⟩⟩
 | .op ix si::post,pre,late,env,own,ks,h,hc,hs,hn,hv=>by
   obtain⟨c1,c2⟩:=J7C hc;obtain⟨o,ho,hsi⟩:=hs (.op ix si) (by simp);simp only[List.map_cons,List.nodup_cons] at hn;have hcond:=Q8X c1;obtain⟨lk,env',own',ks',h',hv'⟩:=h.absorb ho hsi hcond hn.1 hv;obtain⟨pre'',rest'',late'',env'',own'',ks'',r1,r2,r3,r4,r5,r6,r7⟩:=Inv.norm post _ _ env' own' ks' h' c2 (fun d hd=>hs d (by simp[hd])) hn.2 hv';exact⟨pre'',rest'',late'',env'',own'',ks'',r1,r2,fun d hd=>List.mem_cons_of_mem _ (r3 d hd),r4,r5,by simp only[List.length_cons] at r6 ⊢;omega,r7⟩
theorem X1A (r:Option Nat) (st:J8X ops (fun i=>A.getD i [])) {Q:Exit->Act->World->Prop}:∀(fuel:Nat) (rest pre:List DI) (late:List LT) (env:Env) (own:Own) (ks:List Nat) (B:Own) (M:Nat->Prop) (w:World) (σ:Sg) (a:Act) (listed:Array Bool),
 Inv P N Bd ops (fun i=>A.getD i []) σ0 ks0 Z pre rest late env own ks B M w σ a listed->J51 A pre rest=true ->
 (∀d,d∈rest->∃o,ops[d.ix]?=some o/\cSI P N ops o=some d.si)->(rest.map DI.ix).Nodup->J1D P rest env own ks K->late.length+rest.length<=fuel ->
 (∀env' own' ks' B' M' w' σ' a' pre' listed',Inv P N Bd ops (fun i=>A.getD i []) σ0 ks0 Z pre' [] [] env' own' ks' B' M' w' σ' a' listed'->Tr M w σ B M' w' σ' B'->K env' own' ks'->Q .normal a' w') ->
 wpAnyIn (FR r) 0 P .any ops Q fuel listed a w:=by
 intro fuel
 induction fuel with
 | zero =>
   intro rest pre late env own ks B M w σ a listed h hc hs hn hv hf hq;have e1:late=[]:=List.eq_nil_of_length_eq_zero (by omega);have e2:rest=[]:=List.eq_nil_of_length_eq_zero (by omega);subst e1 e2;refine⟨?_,hq env own ks B M w σ a pre listed h (Tr.refl _ _ _ _) hv⟩;rw[List.eq_nil_iff_forall_not_mem];intro i hi;obtain⟨h1,h2,_⟩:=J6Y.1 hi;rcases (h.part i h1).1 h2 with x|x<;>simp at x
 | succ fuel ih =>
   intro rest pre late env own ks B M w σ a listed h hc hs hn hv hf hq;obtain⟨pre,rest,late,env,own,ks,h,hc,hsub,hn,hv,hlen,hnorm⟩:=Inv.norm rest pre late env own ks h hc hs hn hv;have hs':∀d,d∈rest->∃o,ops[d.ix]?=some o/\cSI P N ops o=some d.si:=fun d hd=>hs d (hsub d hd);refine⟨?_,?_⟩
   . intro hre;have hall:∀i,i<ops.size->listed.getD i true=true:=by
      intro i
      induction i using Nat.strongRecOn with
      | _ i ih2 =>
        intro hi;cases hl:listed.getD i true with
        | true=>rfl
        | false =>
          exfalso;have:i∈Region.ready .any ops listed:=by
           refine J6Y.2 ⟨hi,hl,ops[i],by simp[hi],fun j hj=>?_⟩;have hji:=st.edge i ops[i] (by simp[hi]) j hj;have:=ih2 j hji (by omega);have hs:=h.lsize;rw[Array.getD_eq_getD_getElem?,Array.getElem?_eq_getElem (by omega)] at this ⊢;simpa using this
          rw[hre] at this;simp at this
     have e1:late=[]:=by
      rw[List.eq_nil_iff_forall_not_mem];intro l hl;obtain⟨o',ho',_⟩:=h.facts l hl;have hlt:=(Array.getElem?_eq_some_iff.1 ho').1;have:=(h.part _ hlt).2 (.inl (List.mem_map.2 ⟨l,hl,rfl⟩));rw[hall _ hlt] at this;cases this
     have e2:rest=[]:=by
      rw[List.eq_nil_iff_forall_not_mem];intro d hd;obtain⟨o',ho',_⟩:=hs' d hd;have hlt:=(Array.getElem?_eq_some_iff.1 ho').1;have:=(h.part _ hlt).2 (.inr (List.mem_map.2 ⟨d,hd,rfl⟩));rw[hall _ hlt] at this;cases this
     subst e1 e2;exact hq env own ks B M w σ a pre listed h (Tr.refl _ _ _ _) hv
   . intro i hi;obtain⟨h1,h2,o,ho,hr⟩:=J6Y.1 hi;rcases (h.part i h1).1 h2 with x|x
     . obtain⟨l,hl,e⟩:=List.mem_map.1 x;subst e;refine h.late_step r st hl ho hr fun B' M' w' σ' a' h' tr=>?_;refine ih rest pre _ env own ks B' M' w' σ' a' _ h' hc hs' hn hv ?_ fun env' own' ks' B'' M'' w'' σ'' a'' pre' listed' r1 r2 r3=>hq env' own' ks' B'' M'' w'' σ'' a'' pre' listed' r1 (tr.trans r2) r3;have:(late.filter (fun y=>!Nat.beq y.d.ix l.d.ix)).length<late.length:=by
        refine List.length_filter_lt_length_iff_exists.2 ⟨l,hl,by simp⟩
       omega
     . rcases hnorm with e | ⟨ix,pend,held,si,post,e⟩
       . subst e;simp at x
       . subst e;obtain⟨c1,c2⟩:=J7C hc;have hcond:=Q8X c1;simp only[List.map_cons,List.nodup_cons] at hn;have hix:i=ix:=by
          simp only[List.map_cons,List.mem_cons,DI.ix] at x;rcases x with x|x
          . exact x
          . exfalso;obtain⟨d',hd',e'⟩:=List.mem_map.1 x;have hanc:=(hcond.eff ix pend held si rfl).2.1 d' hd';rw[e'] at hanc;have hl:=J5G st h.lsize h.closed i o ho hr ix hanc;obtain⟨o2,ho2,_⟩:=hs' (.eff ix pend held si) (by simp);have hlt:ix<ops.size:=(Array.getElem?_eq_some_iff.1 ho2).1;have hun:=(h.part ix hlt).2 (.inr (by simp[DI.ix]));have hs:=h.lsize;rw[Array.getD_eq_getD_getElem?,Array.getElem?_eq_getElem (by omega)] at hl hun;simp at hl hun;rw[hl] at hun;cases hun
         subst hix;obtain⟨o2,ho2,hsi⟩:=hs' (.eff i pend held si) (by simp);simp only[DI.ix] at ho2;rw[ho] at ho2;cases ho2;refine h.eff_step r st ho hsi hcond hn.1 hr hv fun env' own' ks' B' M' w' σ' a' h' hv' tr=>?_;refine ih post _ late env' own' ks' B' M' w' σ' a' _ h' c2 (fun d hd=>hs' d (by simp[hd])) hn.2 hv' ?_ fun env'' own'' ks'' B'' M'' w'' σ'' a'' pre' listed' r1 r2 r3=>hq env'' own'' ks'' B'' M'' w'' σ'' a'' pre' listed' r1 (tr.trans r2) r3;simp only[List.length_cons] at hlen;omega
end
theorem Q19 {P:Program} (hm:P.follows .mixedOrders=true) (r:Option Nat) {N B id:Nat} {ops:Array Oper} {pl:List DI} (hp:Q63 P N ops=some pl) {env:Env} {own:Own} {ks:List Nat} {K:Env->Own->List Nat->Prop}
 (h:J1D P pl env own ks K) {M:Nat->Prop} {w:World} {σ:Sg} {a:Act} (sim:Sim N B M w σ ⟨env,own,ks⟩ a) {Q:Exit->Act->World->Prop}
 (hq:∀env' own' ks' M' w' σ' a',Sim N B M' w' σ' ⟨env',own',ks'⟩ a'->Tr M w σ own M' w' σ' own'->Kd σ own ks σ' own' ks'->K env' own' ks'->Q .normal a' w'):(Code.region id ops true).wpIn (FR r) 0 P Q a w:=by
 unfold Q63 at hp;split at hp
 . rename_i sis hsis;simp only at hp;split at hp
   . rename_i hchk;cases hp;simp only[Bool.and_eq_true] at hchk;obtain⟨⟨hcond,hanc⟩,hitems⟩:=hchk;have hst:J8X ops (fun i=>(X55 ops.toList []).getD i []):=by
      constructor
      . intro i o ho j hj;have hi:i<ops.size:=(Array.getElem?_eq_some_iff.1 ho).1;have:=List.all_eq_true.1 hanc i (List.mem_range.2 hi);rw[ho] at this;simp only[Bool.and_eq_true] at this;exact Nat.le_of_ble_eq_true (List.all_eq_true.1 this.1 j hj)
      . intro i o ho e he;have hi:i<ops.size:=(Array.getElem?_eq_some_iff.1 ho).1;have:=List.all_eq_true.1 hanc i (List.mem_range.2 hi);rw[ho] at this;simp only[Bool.and_eq_true] at this;have h2:=List.all_eq_true.1 this.2 e he;simp only[Bool.or_eq_true] at h2;rcases h2 with x|x
        . exact .inl (J0m.1 x)
        . obtain⟨j,hj,hm⟩:=List.any_eq_true.1 x;exact .inr ⟨j,hj,J0m.1 hm⟩
     simp only[X2W,Bool.and_eq_true] at hitems;obtain⟨⟨⟨hlen,hcov⟩,_⟩,hnd0⟩:=hitems;have hlen:=Nat.eq_of_beq_eq_true hlen;generalize hpl:J4x (X55 ops.toList []) sis (X5q (X55 ops.toList []) (fun i=>match sis[i]? with|some s=>s.op.isEff|none=>true) (ops.size+1) (List.range ops.size) []) []=pl at *;have hall:∀i,i<ops.size->i∈pl.map DI.ix:=fun i hi=>J0m.1 (List.all_eq_true.1 hcov i (List.mem_range.2 hi));have hnd:(pl.map DI.ix).Nodup:=J2C hnd0;have hs:∀d,d∈pl->∃o,ops[d.ix]?=some o/\cSI P N ops o=some d.si:=by
      intro d hd;rw[<- hpl] at hd;obtain⟨o,h1,h2⟩:=Q4J hsis d.ix d.si (J4w hd);exact⟨o,by simpa using h1,h2⟩
     have sim1:=Q8b sim.heap;have hE:=sim1.2.ext sim.heap.own;refine wpIn_region_any hm ?_;have hinv:Inv P N B ops (fun i=>(X55 ops.toList []).getD i []) σ ks (own.map (·.1)++ks) [] pl [] env own ks own M w.drew σ a (Array.replicate ops.size false):=by
      refine⟨sim.size,sim.defers.tr sim1.2,by simp,by simp,by simp,?_,?_,?_,sim1.1,?_,sim.heap.own.nodup,by simp,by simp,by simp,by simp,fun _ h=>h,by simp,fun _ h _=>h,?_,?_,by simp,by simp⟩
      . intro i hi;constructor
        . intro _;exact .inr (hall i hi)
        . intro _;simp[Array.getD,hi]
      . intro i o ho hi;have hlt:i<ops.size:=(Array.getElem?_eq_some_iff.1 ho).1;simp[Array.getD,hlt] at hi
      . intro t v hv _;exact(sim.env t v hv).mono hE (Sg.le_refl _)
      . intro k b;simp
      . intro k hk;exact List.mem_append_left _ hk
      . intro k hk;exact List.mem_append_right _ hk
     refine X1A r hst ops.size pl [] [] env own ks own M w.drew σ a _ hinv hcond hs hnd h (by simp[hlen]) ?_;intro env' own' ks' B' M' w' σ' a' pre' listed' r1 r2 r3;have hfin:=J49 (own':=own') r1.heap (fun k b hm=>by
      rcases (r1.ownc k b).1 hm with x | ⟨l,hl,_⟩
      . exact x
      . simp at hl) r1.ownnd
     refine hq env' own' ks' M' w' σ' a' ⟨fun t v hv=>r1.envd t v hv (by simp),hfin.1,r1.size,r1.defers.tr hfin.2⟩ ((sim1.2.trans r2).trans hfin.2) ⟨r1.kd1,r1.kd3,fun k hk=>List.mem_append.1 (r1.kd4 k hk)⟩ r3
   . cases hp
 . cases hp
end Go.Eng
namespace Go.Eng
inductive SC where
 | skip
 | ops (l:List SI)
 | draw (l:List DI)
 | seq (a b:SC)
 | cond (c:X) (a b:SC)
 | block (id:Nat) (b:SC)
 | loop (b:SC)
 | exit (id:Nat)
 | ret
 | rf (g:X) (ps:List Nat) (a b:SC)
def Q7F (N:Nat):List Nat->Bool
 | []=>true
 | p::r=>match Nat.ble (p+1) N with|true=>Q7F N r|false=>false
def badC:SC:=.cond (.k .nilptr) .skip .skip
def J0V (P:Program) (N:Nat):Code->Option SC
 | .skip=>some .skip
 | .region _ ops false=>match X10 P N ops ops.toList with|some l=>some (.ops l)|none=>some badC
 | .region _ ops true=>match Q63 P N ops with|some l=>some (.draw l)|none=>some badC
 | .seq a b=>match J0V P N a,J0V P N b with|some a,some b=>some (.seq a b)|_,_=>none
 | .cond c a b=>match cX c,J0V P N a,J0V P N b with|some c,some a,some b=>some (.cond c a b)|_,_,_=>none
 | .block id b=>(J0V P N b).map (.block id)
 | .loop b=>(J0V P N b).map .loop
 | .exit id=>some (.exit id)
 | .ret=>some .ret
 | .rangeFunc g ps a b=>match cX g,J0V P N a,J0V P N b with
   | some g,some sa,some sb=>match Q7F N ps.toList with
     | true=>some (.rf g ps.toList sa sb)
     | false=>none
   | _,_,_=>none
 | _=>none
structure BK where
 ks:List Nat
 r:Option Nat
def RIn (kr r:Option Nat) (σb:Sg):Prop:=(kr=none/\r=none)\/∃k l κ,kr=some k/\r=some l/\σb k=some (some l,0,κ)
structure J95 (P:Program) (N:Nat) (bk:BK) (b:SC) (env:Env) (own:Own) (ks:List Nat) (K:Out->Prop):Prop where
 out:∀r σb,RIn bk.r r σb->∀c,J0V P N c=some b->∀B M w σ a,(∀k,k∈bk.ks->σb k=none)->σb.le σ->Sim N B M w σ ⟨env,own,ks⟩ a->(Code.loop c).wpIn (FR r) 0 P (XP N B σb M w σ own ks K) a w
structure Q9E (P:Program) (N:Nat) (kr:Option Nat) (g:X) (ps:List Nat) (sa sb:SC) (env:Env) (own:Own) (ks:List Nat) (K:Out->Prop):Prop where
 out:∀r σb,RIn kr r σb->∀g0 a b,cX g0=some g->J0V P N a=some sa->J0V P N b=some sb->∀B M w σ act,σb.le σ->Sim N B M w σ ⟨env,own,ks⟩ act ->
  (Code.rangeFunc g0 ps.toArray a b).wpIn (FR r) 0 P (XP N B σb M w σ own ks K) act w
inductive Y26 (A B:Prop):Prop where
 | mk (ha:A) (hb:B):Y26 A B
def vc (P:Program) (N:Nat) (bk:BK):SC->Env->Own->List Nat->(Out->Prop)->Prop
 | .skip,env,own,ks,K=>K (.normal ⟨env,own,ks⟩)
 | .ops l,env,own,ks,K=>J5h P l env own ks fun env own ks=>K (.normal ⟨env,own,ks⟩)
 | .draw l,env,own,ks,K=>J1D P l env own ks fun env own ks=>K (.normal ⟨env,own,ks⟩)
 | .seq a b,env,own,ks,K=>vc P N bk a env own ks fun o=>match o with
   | .normal ⟨env,own,ks⟩=>vc P N bk b env own ks K
   | o=>K o
 | .cond c a b,env,own,ks,K=>c.get env fun v=>match v with
   | .bool x=>match x with
     | true=>vc P N bk a env own ks K
     | false=>vc P N bk b env own ks K
   | .anyb=>Y26 (vc P N bk a env own ks K) (vc P N bk b env own ks K)
   | _=>False
 | .block id b,env,own,ks,K=>vc P N bk b env own ks fun o=>match o with
   | .exit id' st=>match Nat.beq id' id with|true=>K (.normal st)|false=>K (.exit id' st)
   | o=>K o
 | .loop b,env,own,ks,K=>J95 P N bk b env own ks K
 | .exit id,env,own,ks,K=>K (.exit id ⟨env,own,ks⟩)
 | .ret,env,own,ks,K=>K (.ret ⟨env,own,ks⟩)
 | .rf g ps a b,env,own,ks,K=>Q9E P N bk.r g ps a b env own ks K
theorem XP.tr {N B:Nat} {σb:Sg} {M M₁:Nat->Prop} {w w₁:World} {σ σ₁:Sg} {own own₁:Own} {ks ks₁:List Nat} {K:Out->Prop} (t:Tr0 M w σ own M₁ w₁ σ₁ own₁) (q:Kd σ own ks σ₁ own₁ ks₁) {e:Exit} {a:Act} {w':World} (h:XP N B σb M₁ w₁ σ₁ own₁ ks₁ K e a w'):XP N B σb M w σ own ks K e a w':=by
 obtain⟨M',σ',st',h1,h2,h2',hb,h3⟩:=h;exact⟨M',σ',st',h1,t.trans h2,q.trans h2',hb,h3⟩
theorem J3r {P:Program} (hm:P.follows .mixedOrders=true) {N B:Nat} {bk:BK} {σb:Sg} (hbk:∀k,k∈bk.ks->σb k=none) (r:Option Nat) (hr:RIn bk.r r σb):∀(c:Code) (sc:SC) (K:Out->Prop) (env:Env) (own:Own) (ks:List Nat) (M:Nat->Prop) (w:World) (σ:Sg) (a:Act),
 J0V P N c=some sc->vc P N bk sc env own ks K->Sim N B M w σ ⟨env,own,ks⟩ a->σb.le σ->c.wpIn (FR r) 0 P (XP N B σb M w σ own ks K) a w:=by
 intro c
 induction c with
 | skip =>
   intro sc K env own ks M w σ a hc h sim hle;simp[J0V] at hc;subst hc;exact wpIn_skip ⟨M,σ,_,sim,Tr0.refl _ _ _ _,Kd.refl _ _ _,hle,h⟩
 | region id ops draw =>
   intro sc K env own ks M w σ a hc h sim hle;cases draw with
   | false =>
     simp only[J0V] at hc;split at hc
     case h_2=>cases hc;exact(show False from h).elim
     rename_i l hl;cases hc;exact wpIn_region_list (J30 r ops.toList l env own ks _ M w σ a hl h sim fun env' own' ks' M' w' σ' a' s t q k=>⟨M',σ',_,s,t.t0,q,Sg.le_trans hle t.le,k⟩)
   | true =>
     simp only[J0V] at hc;split at hc
     case h_2=>cases hc;exact(show False from h).elim
     rename_i l hl;cases hc;exact Q19 hm r hl h sim fun env' own' ks' M' w' σ' a' s t q k=>⟨M',σ',_,s,t.t0,q,Sg.le_trans hle t.le,k⟩
 | seq x y ihx ihy =>
   intro sc K env own ks M w σ a hc h sim hle;simp only[J0V] at hc;split at hc<;>simp only[Option.some.injEq,reduceCtorEq] at hc;rename_i sx sy h1 h2;subst hc;refine wpIn_seq (wpIn_mono (ihx sx _ env own ks M w σ a h1 h sim hle) ?_);intro e a' w' hx;obtain⟨M',σ',st',s1,t1,q1,l1,k1⟩:=hx;cases e<;>first
    | (obtain⟨env',own',ks'⟩:=st'
       exact wpIn_mono (ihy sy K env' own' ks' M' w' σ' a' h2 k1 s1 l1) fun e a w h=>XP.tr t1 q1 h)
    | exact⟨M',σ',st',s1,t1,q1,l1,k1⟩
 | cond c x y ihx ihy =>
   intro sc K env own ks M w σ a hc h sim hle;simp only[J0V] at hc;split at hc<;>simp only[Option.some.injEq,reduceCtorEq] at hc;rename_i c' sx sy h1 h2 h3;subst hc;obtain⟨v,h,hv⟩:=J0h h1 h;have hd:=hv M w σ a (fun n _ v hv=>sim.env n v hv);split at h
   . rename_i b;have hb:a.eval c=.bool b:=by
      generalize a.eval c=q at hd;cases hd;rfl
     refine wpIn_cond hb ?_;cases b
     . exact ihy sy K env own ks M w σ a h3 h sim hle
     . exact ihx sx K env own ks M w σ a h2 h sim hle
   . obtain⟨b,hb⟩:∃b,a.eval c=.bool b:=by
      generalize a.eval c=q at hd;cases hd;exact⟨_,rfl⟩
     refine wpIn_cond hb ?_;cases b
     . exact ihy sy K env own ks M w σ a h3 h.2 sim hle
     . exact ihx sx K env own ks M w σ a h2 h.1 sim hle
   . exact h.elim
 | block id b ih =>
   intro sc K env own ks M w σ a hc h sim hle;simp only[J0V,Option.map_eq_some_iff] at hc;obtain⟨sb,hb,rfl⟩:=hc;refine wpIn_block (wpIn_mono (ih sb _ env own ks M w σ a hb h sim hle) ?_);intro e a' w' hx;obtain⟨M',σ',st',s1,t1,q1,l1,k1⟩:=hx;cases e with
   | exit id' =>
     simp only at k1;simp only[Exit.inBlock];split
     . rename_i he;subst he;simp only[Nat.beq_refl] at k1;exact⟨M',σ',st',s1,t1,q1,l1,k1⟩
     . rename_i he;have:Nat.beq id' id=false:=by
        rw[<- Bool.not_eq_true];intro hh;exact he (Nat.eq_of_beq_eq_true hh)
       simp only[this] at k1;exact⟨M',σ',st',s1,t1,q1,l1,k1⟩
   | _=>exact⟨M',σ',st',s1,t1,q1,l1,k1⟩
 | loop b ih =>
   intro sc K env own ks M w σ a hc h sim hle;simp only[J0V,Option.map_eq_some_iff] at hc;obtain⟨sb,hb,rfl⟩:=hc;exact h.out r σb hr b hb B M w σ a hbk hle sim
 | exit id =>
   intro sc K env own ks M w σ a hc h sim hle;simp[J0V] at hc;subst hc;exact wpIn_exit ⟨M,σ,_,sim,Tr0.refl _ _ _ _,Kd.refl _ _ _,hle,h⟩
 | ret =>
   intro sc K env own ks M w σ a hc h sim hle;simp[J0V] at hc;subst hc;exact wpIn_ret ⟨M,σ,_,sim,Tr0.refl _ _ _ _,Kd.refl _ _ _,hle,h⟩
 | rangeFunc g ps x y _ _ =>
   intro sc K env own ks M w σ a hc h sim hle;simp only[J0V] at hc;split at hc<;>first|(cases hc;done)|skip
   rename_i g' sa sb h1 h2 h3;split at hc<;>first|(cases hc;done)|skip
   cases hc;have:=h.out r σb hr g x y h1 h2 h3 B M w σ a hle sim;simpa using this
 | _=>intro sc K env own ks M w σ a hc;simp[J0V] at hc
structure J3A (N:Nat) (chg:List Nat) (st' st'':St):Prop where
 out:∀B M w σ a,Sim N B M w σ st' a->∃M' σ',Sim N B M' w σ' st'' a/\Tr0 M w σ st'.own M' w σ' st''.own/\∀k,k∉st''.ks->k∉chg->σ' k=σ k
structure Head (okeys:List Nat) (ks:List Nat) (st:St):Prop where
 ks:st.ks=ks
 own:∀k,k∈st.own.map (·.1)->k∈okeys
theorem Q7J {P:Program} (hm:P.follows .mixedOrders=true) {N:Nat} {bk:BK} {b:SC} {env:Env} {own:Own} {ks:List Nat} {K:Out->Prop} (chg okeys ks0:List Nat)
 (hchg:∀k,k∈chg->k∈bk.ks/\(k∈own.map (·.1)\/k∈ks)) (hks0:∀k,k∈ks0->k∈ks) (hok:∀k,k∈okeys->k∈own.map (·.1)\/k∈ks)
 (I:Nat->St->Prop) (n:Nat) (st0:St) (hw0:J3A N chg ⟨env,own,ks⟩ st0) (h0:I n st0)
 (hh:∀n st,I n st->Head okeys ks0 st)
 (step:∀n env own ks,I n ⟨env,own,ks⟩->vc P N bk b env own ks fun o=>match o with
   | .normal st=>∃m st',m<n/\J3A N chg st st'/\I m st'
   | o=>K o):J95 P N bk b env own ks K:=by
 constructor;intro r σb hr c hc B M w σ a hbk hle0 sim b k cs hro hbf hroom;have hcn:∀q,q∈chg->σ q=none->q∈ks:=by
  intro q hq h1;rcases (hchg q hq).2 with h|h
  . obtain⟨⟨q',b'⟩,hm',e⟩:=List.mem_map.1 h;simp only at e;subst e;obtain⟨x,hx⟩:=sim.heap.own.key hm';rw[h1] at hx;cases hx
  . exact h
 have key:∀(n:Nat) (st:St) (M₁:Nat->Prop) (w₁:World) (σ₁:Sg) (a₁:Act),I n st->Sim N B M₁ w₁ σ₁ st a₁->Kd σ own ks σ₁ st.own ks0->σb.le σ₁ ->
  ∃e a' w',(∃M' σ' st',Sim N B M' w' σ' st' a'/\Tr0 M₁ w₁ σ₁ st.own M' w' σ' st'.own/\Kd σ own ks σ' st'.own st'.ks/\σb.le σ'/\(match e with
   | .normal=>K (.normal st')
   | .exit id=>K (.exit id st')
   | .ret=>K (.ret st')
   | _=>False))/\ArrivesIn (Machine.fenced P (FR r)) P (lone (b.atR a₁ (.code c::.inLoop c::k)) cs w₁) b k cs e a' w':=by
  intro n
  induction n using Nat.strongRecOn with
  | _ n ih =>
    intro st M₁ w₁ σ₁ a₁ hI hs hkd hle;obtain⟨env₁,own₁,ks₁⟩:=st;have hd:=hh n _ hI;have hks:ks₁=ks0:=hd.ks;subst hks;have hb:=J3r hm hbk r hr c _ _ env₁ own₁ ks₁ M₁ w₁ σ₁ a₁ hc (step n env₁ own₁ ks₁ hI) hs hle;obtain⟨e,a₂,w₂,hq,harr⟩:=hb b (.inLoop c::k) cs hro hbf hroom;obtain⟨M₂,σ₂,st₂,s2,t2,q2,l2,k2⟩:=hq;cases e with
    | normal =>
      obtain⟨m,st₃,hlt,hweak,hI3⟩:=k2;obtain⟨M₃,σ₃,s3,t3,z3⟩:=hweak.out B M₂ w₂ σ₂ a₂ s2;have hd3:=hh m _ hI3;have hkd3:Kd σ own ks σ₃ st₃.own ks₁:=by
       refine⟨hks0,fun q h1 h2=>?_,fun q hq=>hok q (hd3.own q hq)⟩;rw[z3 q (by rw[hd3.ks];exact fun h=>h2 (hks0 q h)) (fun hc=>h2 (hcn q hc h1))];exact(hkd.trans q2).2.1 q h1 h2
      have hle3:σb.le σ₃:=by
       intro q x hq;rw[z3 q ?_ ?_]
       . exact l2 q x hq
       . rw[hd3.ks];intro hin;have:=hle0 q x hq;rw[sim.heap.fresh q (hks0 q hin)] at this;cases this
       . intro hin;rw[hbk q (hchg q hin).1] at hq;cases hq
      obtain⟨e',a',w',⟨M',σ',st',r1,r2,r3,r3',r4⟩,harr'⟩:=ih m hlt st₃ M₃ w₂ σ₃ a₂ hI3 s3 hkd3 hle3;exact⟨e',a',w',⟨M',σ',st',r1,(t2.trans t3).trans r2,r3,r3',r4⟩,.of_steps (StepsIn.trans harr (.one (fenced_calm hbf hroom rfl) stepR_inLoop)) harr'⟩
    | exit id=>exact⟨_,a₂,w₂,⟨M₂,σ₂,st₂,s2,t2,hkd.trans q2,l2,k2⟩,.pass (x:=.inLoop c) rfl (fun _ _=>.inl (by simp)) harr⟩
    | goto l=>exact k2.elim
    | ret=>exact⟨_,a₂,w₂,⟨M₂,σ₂,st₂,s2,t2,hkd.trans q2,l2,k2⟩,.pass (x:=.inLoop c) rfl (fun _ _=>.inl (by simp)) harr⟩
    | panic ch=>exact k2.elim
    | outgrown=>exact k2.elim
 obtain⟨M₀,σ₀,s0,t0,z0⟩:=hw0.out B M w σ a sim;have hd0:=hh n _ h0;have hkd0:Kd σ own ks σ₀ st0.own ks0:=by
  refine⟨hks0,fun q h1 h2=>?_,fun q hq=>hok q (hd0.own q hq)⟩;rw[z0 q (by rw[hd0.ks];exact fun h=>h2 (hks0 q h)) (fun hc=>h2 (hcn q hc h1))];exact h1
 have hle00:σb.le σ₀:=by
  intro q x hq;rw[z0 q ?_ ?_]
  . exact hle0 q x hq
  . rw[hd0.ks];intro hin;have:=hle0 q x hq;rw[sim.heap.fresh q (hks0 q hin)] at this;cases this
  . intro hin;rw[hbk q (hchg q hin).1] at hq;cases hq
 obtain⟨e,a',w',⟨M',σ',st',r1,r2,r3,r3',r4⟩,harr⟩:=key n st0 M₀ w σ₀ a h0 s0 hkd0 hle00;exact⟨e,a',w',⟨M',σ',st',r1,t0.trans r2,r3,r3',r4⟩,.of_steps (.one (fenced_calm hbf hroom rfl) stepR_loop) harr⟩
def J7y:Nat->List V->Env
 | _,[]=>[]
 | i,v::r=>(i,v)::J7y (i+1) r
theorem J5v:∀(vs:List V) (i t:Nat) (v:V),look (J7y i vs) t=some v->i<=t/\vs[t-i]?=some v
 | [],i,t,v,h=>by simp[J7y,look] at h
 | x::r,i,t,v,h=>by
   unfold J7y look at h;split at h
   . rename_i hb;have:=Nat.eq_of_beq_eq_true hb;subst this;simp at h;subst h;simp
   . rename_i hb;have hne:i≠t:=fun e=>by subst e;simp at hb
     obtain⟨h1,h2⟩:=J5v r (i+1) t v h;refine⟨by omega,?_⟩;rw[show t-i=(t-(i+1))+1 by omega];simpa using h2
inductive RV where
 | tmp (t:Nat)
 | cell (a:Nat) (sz:Option Nat)
def Q2Y (P:Program):List ResultVar->Option (List RV)
 | []=>some []
 | .tmp t::r=>(Q2Y P r).map (.tmp t::·)
 | .cell a T::r=>match J3F P T,Q2Y P r with
   | some z,some l=>some (.cell a z::l)
   | _,_=>none
def J99 (env:Env) (own:Own):List RV->(List V->Prop)->Prop
 | [],K=>K []
 | .tmp t::r,K=>match look env t with
   | some v=>J99 env own r fun vs=>K (v::vs)
   | none=>False
 | .cell a z::r,K=>match look env a with
   | some p=>J3B own z p fun v=>J99 env own r fun vs=>K (v::vs)
   | none=>False
def Q43 (vs:List V) (K:V->Prop):Prop :=
 match vs with
 | [v]=>K v
 | vs=>K (.tup vs)
theorem J9y {P:Program} {T:TypeId} {q r:Value} {w:World} (h:(Instr.loadAt T q).run P w=.ok r w):(do loadVar T (<- asAddr q):Sem Value).run P w=.ok r w:=by
 cases q with
 | pointer a =>
   cases a with
   | none=>cases h
   | some a=>exact h
 | _=>cases h
def Q6V (tmps:Array Value):ResultVar->Sem Value
 | .tmp t=>pure (tmps.getD t undef)
 | .cell a t=>do loadVar t (<- asAddr (tmps.getD a undef))
theorem J8n (fn:Func) (tmps:Array Value):results fn tmps=(do let vs <- fn.results.mapM (Q6V tmps);pure (if h:vs.size=1 then vs[0] else .tuple vs)):=by
 have:(fun r:ResultVar=>match r with | .tmp t=>(pure (tmps.getD t undef):Sem Value) | .cell a t=>do loadVar t (<- asAddr (tmps.getD a undef)))=Q6V tmps:=by
  funext r;cases r<;>rfl
 unfold results;rw[<- this];rfl
theorem J34 {P:Program} {env:Env} {own:Own}:∀(rs:List ResultVar) (l:List RV) (K:List V->Prop),Q2Y P rs=some l->J99 env own l K ->
 ∃vs,K vs/\∀M w σ (a:Act),J3E M w σ env a->J2r M w σ own ->
  ∃us:List Value,vs.length=us.length/\us.length=rs.length/\(∀(i:Nat) (v:V) (u:Value),vs[i]?=some v->us[i]?=some u->Den M w σ v u) /\
   (rs.mapM (Q6V a.tmps)).run P w=.ok us w
 | [],l,K,hc,h=>by
   simp[Q2Y] at hc;subst hc;exact⟨[],h,fun M w σ a _ _=>⟨[],rfl,rfl,by simp,rfl⟩⟩
 | .tmp t::rs,l,K,hc,h=>by
   simp only[Q2Y,Option.map_eq_some_iff] at hc;obtain⟨l',h1,rfl⟩:=hc;simp only[J99] at h;split at h
   . rename_i v hv;obtain⟨vs,hK,hvs⟩:=J34 rs l' _ h1 h;refine⟨_,hK,fun M w σ a he ho=>?_⟩;obtain⟨us,u1,u1',u2,u3⟩:=hvs M w σ a he ho;refine⟨a.tmps.getD t undef::us,by simp[u1],by simp[u1'],?_,?_⟩
     . intro i v' u' hv' hu';cases i with
       | zero=>simp at hv' hu';subst hv' hu';simpa using he t v hv
       | succ i=>exact u2 i v' u' (by simpa using hv') (by simpa using hu')
     . rw[List.mapM_cons];simp only[Sem.run_bind,Q6V,Sem.run_pure,Result.andThen_ok,u3]
   . exact h.elim
 | .cell x T::rs,l,K,hc,h=>by
   simp only[Q2Y] at hc;split at hc<;>simp only[Option.some.injEq,reduceCtorEq] at hc;rename_i z l' hz h1;subst hc;simp only[J99] at h;split at h
   . rename_i p hp;obtain⟨v,h,hf⟩:=J3J hz h;obtain⟨vs,hK,hvs⟩:=J34 rs l' _ h1 h;refine⟨_,hK,fun M w σ a he ho=>?_⟩;obtain⟨us,u1,u1',u2,u3⟩:=hvs M w σ a he ho;have hd:=he x p hp;obtain⟨r,r1,r2⟩:=hf M w σ _ hd (fun k b _ hk=>ho.blk k b (J0i hk));have hr:(Q6V a.tmps (.cell x T)).run P w=.ok r w:=J9y r1;refine⟨r::us,by simp[u1],by simp[u1'],?_,?_⟩
     . intro i v' u' hv' hu';cases i with
       | zero=>simp at hv' hu';subst hv' hu';exact r2
       | succ i=>exact u2 i v' u' (by simpa using hv') (by simpa using hu')
     . rw[List.mapM_cons];simp only[Sem.run_bind,hr,Sem.run_pure,Result.andThen_ok,u3]
   . exact h.elim
theorem J4y {P:Program} {fn:Func} {tmps:Array Value} {R:Ending->World->Prop} {B:Nat} {σ:Sg} {own:Own} {ks:List Nat} {M:Nat->Prop}:∀(ds:List Deferred) (w:World),Q9G B M w σ own ds->J0S M w σ own ks ->
 (∀w',J0S M w' σ own ks->Ext M w M w'->w'.os=w.os->w'.tape=w.tape->w'.output=w.output->w'.heap.size=w.heap.size->(∀b,b<B->w'.heap[b]?=w.heap[b]?)->(∀b,J0v w σ own b->w'.heap[b]?=w.heap[b]?)->∃v,(results fn tmps).run P w'=.ok v w'/\R (.returned v) w') ->
 LeavesInM (FR none) 0 P fn tmps R ds .returning w
 | [],w,_,hh,h=>h w hh ⟨fun _ _ h=>⟨h,rfl⟩,Nat.le_refl _⟩ rfl rfl rfl rfl (fun _ _=>rfl) (fun _ _=>rfl)
 | d::ds,w,hg,hh,h=>by
   obtain⟨D,rfl,h1,h2,h3,h4⟩:=hg.mark d (by simp);refine⟨by simp,.inl ⟨D,_,rfl,run_takeDeferred h2,?_⟩⟩;have hnd:=List.nodup_cons.1 hg.nodup;have hE:Ext M w M (w.putObj D (.deferred none)):=⟨fun b hb hM=>⟨hM,World.putObj_heap_other fun e=>hM (e▸h4)⟩,by simp⟩;have hsame:∀b,J0v w σ own b->(w.putObj D (.deferred none)).heap[b]?=w.heap[b]?:=fun b hb=>World.putObj_heap_other fun e=>h3 (e▸hb);have keep:∀k b n,(k,b)∈own->(J0p (w.putObj D (.deferred none)) σ k b n↔J0p w σ k b n):=fun k b n hm=>J0X (Sg.le_refl _) (hh.own.key hm) fun ob hob=>hsame ob ⟨k,b,hm,.inl hob⟩;have hown:∀n,J0v (w.putObj D (.deferred none)) σ own n↔J0v w σ own n:=fun n=>J2f hh.own (Sg.le_refl _) hsame;have hh':J0S M (w.putObj D (.deferred none)) σ own ks :=
    ⟨⟨fun k b hm=>(hh.own.blk k b hm).mono hE (Sg.le_refl _) fun n hn=>⟨(J0s hh.own ⟨k,b,hm,hn⟩).1,World.putObj_heap_other fun e=>h3 (e▸⟨k,b,hm,hn⟩)⟩,hh.own.nodup,fun k b k' b' n m1 m2 hne e1 e2=>hh.own.apart k b k' b' n m1 m2 hne ((keep k b n m1).1 e1) ((keep k' b' n m2).1 e2)⟩,hh.fresh,hh.knodup⟩
   refine J4y ds _ ⟨by simpa using hg.base,fun d' hd'=>?_,hnd.2⟩ hh' fun w' a1 a2 a3 a4 a5 a6 a7 a8=>?_
   . obtain⟨D',e,q1,q2,q3,q4⟩:=hg.mark d' (by simp[hd']);refine⟨D',e,q1,?_,fun x=>q3 ((hown D').1 x),q4⟩;rw[World.putObj_heap_other fun e'=>hnd.1 (by rw[e,e'] at hd';exact hd')];exact q2
   . refine h w' a1 ⟨fun b hb hM=>?_,by have:=a2.size;simp at this;exact this⟩ a3 a4 a5 (by simpa using a6) (fun b hb=>?_) (fun b hb=>(a8 b ((hown b).2 hb)).trans (hsame b hb))
     . obtain⟨x1,x2⟩:=a2.keep b (by simpa using hb) hM;exact⟨x1,x2.trans (hE.keep b hb hM).2⟩
     . rw[a7 b hb];exact World.putObj_heap_other (by omega)
theorem Q1J {P:Program} (hm:P.follows .mixedOrders=true) {f:FuncId} {fn:Func} {c:Code} {sc:SC} {rs:List RV} (hf:P.funcs[f]?=some fn) (hb:fn.body=some c) (hc:J0V P fn.ntmps c=some sc)
 (hr:Q2Y P fn.results.toList=some rs) {args:List V} {own:Own} {ks:List Nat} {K:V->Own->List Nat->Prop} (hl:args.length<=fn.ntmps)
 (h:vc P fn.ntmps ⟨ks,none⟩ sc (J7y 0 args) own ks fun o=>match o with
   | .normal ⟨env,own,ks⟩=>J99 env own rs fun vs=>Q43 vs fun v=>K v own ks
   | .ret ⟨env,own,ks⟩=>J99 env own rs fun vs=>Q43 vs fun v=>K v own ks
   | .exit _ _=>False):J0G P f args own ks K:=by
 constructor;intro M w σ us hlen hd hh;refine callsIn_wide.1 (callsIn_of_wp_marks (F:=Fence.wide) (n:=0) hf hb trivial ?_);have sim:Sim fn.ntmps w.heap.size M w σ ⟨J7y 0 args,own,ks⟩ { tmps:=us.toArray++Array.replicate (fn.ntmps-us.toArray.size) undef,defers:=[] }:=by
  refine⟨?_,hh,by simp;omega,.nil (Nat.le_refl _)⟩;intro t v hv;obtain⟨_,h2⟩:=J5v args 0 t v hv;simp only[Nat.sub_zero] at h2;have hlt:t<us.length:=by rw[<- hlen];exact(List.getElem?_eq_some_iff.1 h2).1
  have hg:(us.toArray++Array.replicate (fn.ntmps-us.toArray.size) undef).getD t undef=us[t]:=by
   rw[Array.getD_eq_getD_getElem?,Array.getElem?_append_left (by simpa using hlt)];simp[hlt]
  rw[hg];exact hd t v _ h2 (by simp[hlt])
 refine wpIn_mono (J3r hm (bk:=⟨ks,none⟩) (σb:=σ) hh.fresh none (.inl ⟨rfl,rfl⟩) c sc _ _ own ks M w σ _ hc h sim (Sg.le_refl _)) ?_;intro e a' w' hx;obtain⟨M',σ',⟨env',own',ks'⟩,s1,t1,q1,l1,k1⟩:=hx;have fin:(J99 env' own' rs fun vs=>Q43 vs fun v=>K v own' ks')->LeavesInM (FR none) 0 P fn a'.tmps (fun e w'=>∃M' σ' v' own' ks' u,e=Ending.returned u/\Den M' w' σ' v' u/\J0S M' w' σ' own' ks'/\Tr M w σ own M' w' σ' own'/\Kd σ own ks σ' own' ks'/\K v' own' ks') a'.defers .returning w':=by
  intro hk;refine J4y a'.defers w' s1.defers s1.heap fun w'' hh'' hE os tape output hsz hlow hkeep=>?_;have henv:J3E M' w'' σ' env' a':=s1.env.mono hE (Sg.le_refl _);obtain⟨vs,hK,hvs⟩:=J34 _ _ _ hr hk;obtain⟨us',u1,u1',u2,u3⟩:=hvs M' w'' σ' a' henv hh''.own;have hres:(results fn a'.tmps).run P w''=.ok (if h:us'.toArray.size=1 then us'.toArray[0] else .tuple us'.toArray) w'':=by
   rw[J8n,Array.mapM_eq_mapM_toList,map_eq_pure_bind];simp only[Sem.run_bind,u3,Result.andThen_ok,Sem.run_pure]
  have tr:Tr M w σ own M' w'' σ' own':=⟨⟨os.trans t1.adv.os,tape.trans t1.adv.tape,output.trans t1.adv.output,by have:=t1.adv.size;omega,fun b hb hn=>(hlow b hb).trans (t1.adv.same b hb hn),fun b hb hn=>t1.adv.muts b hb hn⟩,fun b hb=>t1.new b ((J2f s1.heap.own (Sg.le_refl _) hkeep).1 hb),l1⟩;refine⟨_,hres,M',σ',?_⟩
  match vs,us',u1,u2,hK with
  | [v],[u],_,u2,hK=>exact⟨v,own',ks',u,by simp,u2 0 v u (by simp) (by simp),hh'',tr,q1,hK⟩
  | [],[],_,u2,hK=>exact⟨.tup [],own',ks',.tuple #[],by simp,.tup _ [] [] rfl (by simp),hh'',tr,q1,hK⟩
  | v1::v2::vr,u1::u2'::ur,hl,u2,hK=>exact⟨.tup (v1::v2::vr),own',ks',.tuple (u1::u2'::ur).toArray,by simp,.tup _ _ _ hl u2,hh'',tr,q1,hK⟩
 cases e with
 | normal=>exact fin k1
 | ret=>exact fin k1
 | _=>exact k1.elim
end Go.Eng
namespace Go.Eng
def KS:List Nat:=[0,1,2,3,4,5,6,7,8,9,10,11,12,13,14,15,16,17,18,19,20,21,22,23,24,25,26,27,28,29]
theorem J5g:KS.Nodup:=by decide
def V.flat1:V->Bool
 | .bool _ | .int _ _ | .str _ | .nilptr | .nilslice | .nilmap | .nilfunc | .niliface | .raw _=>true
 | _=>false
def V.flat:V->Bool
 | .agg cs=>J2O V.flat1 cs
 | .tup cs=>J2O V.flat1 cs
 | v=>v.flat1
theorem Den.flat1 {M M':Nat->Prop} {w w':World} {σ σ':Sg} {v:V} {u:Value} (h:Den M w σ v u) (hv:v.flat1=true):Den M' w' σ' v u:=by
 cases h<;>first|(simp[V.flat1] at hv;done)|constructor
theorem Den.flat {M M':Nat->Prop} {w w':World} {σ σ':Sg} {v:V} {u:Value} (h:Den M w σ v u) (hv:v.flat=true):Den M' w' σ' v u:=by
 cases v with
 | agg cs=>cases h with|agg _ _ us hl hd=>exact .agg _ _ _ hl fun i v u h1 h2=>(hd i v u h1 h2).flat1 (J0t hv v (List.mem_of_getElem? h1))
 | tup cs=>cases h with|tup _ _ us hl hd=>exact .tup _ _ _ hl fun i v u h1 h2=>(hd i v u h1 h2).flat1 (J0t hv v (List.mem_of_getElem? h1))
 | _=>exact h.flat1 hv
theorem J2l {M:Nat->Prop} {w:World} (ks:List Nat) (hk:ks.Nodup):J0S M w Sg.none [] ks :=
 ⟨⟨fun _ _ h=>by simp at h,by simp,fun _ _ _ _ _ h=>by simp at h⟩,fun _ _=>rfl,hk⟩
theorem J0C {w:World} {σ:Sg} {b:Nat}:¬ J0v w σ [] b:=fun⟨_,_,h,_⟩=>by simp at h
theorem J2E {M M₁ M' M'':Nat->Prop} {w w':World} {σ σ':Sg} {own own':Own} {ks:List Nat} (h:J0S M w σ own ks) (tr:Tr M₁ w Sg.none [] M' w' σ' own')
 (h2:∀b,b<w.heap.size->(M'' b↔M b)):J0S M'' w' σ own ks/\Tr M w σ own M'' w' σ own:=by
 have hE:Ext M w M'' w':=⟨fun b hb hM=>⟨fun hm=>hM ((h2 b hb).1 hm),tr.adv.same b hb J0C⟩,tr.adv.size⟩;have same:∀b,J0v w σ own b->w'.heap[b]?=w.heap[b]?:=fun b hb=>tr.adv.same b (J0s h.own hb).2 J0C;have keep:∀k b n,(k,b)∈own->(J0p w' σ k b n↔J0p w σ k b n):=fun k b n hm=>J0X (Sg.le_refl _) (h.own.key hm) fun ob hob=>same ob ⟨k,b,hm,.inl hob⟩;refine⟨⟨⟨fun k b hm=>?_,h.own.nodup,fun k b k' b' n m1 m2 hne e1 e2=>h.own.apart k b k' b' n m1 m2 hne ((keep k b n m1).1 e1) ((keep k' b' n m2).1 e2)⟩,h.fresh,h.knodup⟩,⟨⟨tr.adv.os,tr.adv.tape,tr.adv.output,tr.adv.size,fun b hb _=>tr.adv.same b hb J0C,fun b hb _=>h2 b hb⟩,fun b hb=>.inl ((J2f h.own (Sg.le_refl _) same).1 hb),Sg.le_refl _⟩⟩;refine(h.own.blk k b hm).mono hE (Sg.le_refl _) fun n hn=>?_;obtain⟨m1,m2⟩:=J0s h.own ⟨k,b,hm,hn⟩;exact⟨(h2 n m2).2 m1,tr.adv.same n m2 J0C⟩
end Go.Eng
namespace Go.Eng
theorem J3q {n:Int} (h1:-9223372036854775808<=n) (h2:n<=9223372036854775807):IntKind.i64.wrap n=n:=by
 simp only[IntKind.wrap,IntKind.bits,IntKind.signed,Bool.true_and]
 first|(split<;>omega)|(simp;omega)
theorem Ar.i64 {n:Int} {K:Int->Prop} (h1:-9223372036854775808<=n) (h2:n<=9223372036854775807) (hK:K n):Ar .i64 n K:=⟨n,(J3q h1 h2).symm,hK⟩
theorem J4J {n:Int} (h1:0<=n) (h2:n<=4294967295):IntKind.u32.wrap n=n:=by
 simp only[IntKind.wrap,IntKind.bits,IntKind.signed,Bool.false_and]
 first|(split<;>omega)|(simp;omega)
theorem Ar.u32 {n:Int} {K:Int->Prop} (h1:0<=n) (h2:n<=4294967295) (hK:K n):Ar .u32 n K:=⟨n,(J4J h1 h2).symm,hK⟩
theorem Ix.nat {m n:Nat} {K:Nat->Prop} (h:m<n) (hK:K m):Ix (m:Int) n K:=⟨m,rfl,h,hK⟩
theorem Ix.int {i:Int} {n:Nat} {K:Nat->Prop} (h0:0<=i) (h:i<n) (hK:K i.toNat):Ix i n K:=⟨i.toNat,by omega,by omega,hK⟩
def X2j {α:Type} (l:List (Nat×α)):List (Nat×α)->Prop
 | []=>True
 | (t,v)::r=>look l t=some v/\X2j l r
theorem X2j.mem {α:Type} {l:List (Nat×α)}:∀{m:List (Nat×α)},X2j l m->∀t v,(t,v)∈m->(t,v)∈l
 | [],_,t,v,h=>by simp at h
 | (t',v')::r,hm,t,v,h=>by
   rcases List.mem_cons.1 h with e|e
   . cases e;exact J0i hm.1
   . exact X2j.mem hm.2 t v e
end Go.Eng
namespace Go.Eng
abbrev Rn:=List (Nat×Option Nat)
def TS (ρ:Rn) (σ τ:Sg):Prop:=∀k o,look ρ k=some o->match o with
 | some k'=>τ k=σ k'
 | none=>τ k=some (none,0,0)
structure J0a (ρ:Rn) (v v':V):Prop where
 out:∀M w σ τ u,TS ρ σ τ->Den M w σ v u->Den M w τ v' u
theorem J0a.kf {ρ:Rn} {v:V} (h:v.kf=true):J0a ρ v v:=⟨fun _ _ _ τ _ _ hd=>hd.kf h τ⟩
theorem J0a.int {ρ:Rn} {k:IntKind} {a b:Int} (h:a=b):J0a ρ (.int k a) (.int k b):=by
 subst h;exact .kf rfl
theorem J0a.top {ρ:Rn} {v:V}:J0a ρ v .top:=⟨fun _ _ _ _ _ _ _=>.top _ _⟩
theorem J0a.loc {ρ:Rn} {k k' o:Nat} (h:look ρ k=some (some k')):J0a ρ (.loc k' o) (.loc k o) :=
 ⟨fun M w σ τ u hts hd=>by
   cases hd with
   | loc _ _ _ b base κ hk=>exact .loc _ _ _ _ _ _ ((hts k _ h).trans hk)⟩
theorem J0a.oel {ρ:Rn} {k k' s i j i':Nat} (h:look ρ k=some (some k')) (hi:i=i'):J0a ρ (.oel k' s i j) (.oel k s i' j) :=
 ⟨fun M w σ τ u hts hd=>by
   subst hi;cases hd with
   | oel _ _ _ _ _ b base κ hk=>exact .oel _ _ _ _ _ _ _ _ ((hts k _ h).trans hk)⟩
theorem J0a.map {ρ:Rn} {k k':Nat} (h:look ρ k=some (some k')):J0a ρ (.map k') (.map k) :=
 ⟨fun M w σ τ u hts hd=>by
   cases hd with
   | map _ _ b base κ hk=>exact .map _ _ _ _ _ ((hts k _ h).trans hk)⟩
theorem J0a.yld {ρ:Rn} {k k':Nat} (h:look ρ k=some (some k')):J0a ρ (.yld k') (.yld k) :=
 ⟨fun M w σ τ u hts hd=>by
   cases hd with
   | yld _ _ b base κ hk=>exact .yld _ _ _ _ _ ((hts k _ h).trans hk)⟩
theorem J0a.vec {ρ:Rn} {k k' s lo len lo' len':Nat} (h:look ρ k=some (some k')) (h1:lo=lo') (h2:len=len'):J0a ρ (.vec k' s lo len) (.vec k s lo' len') :=
 ⟨fun M w σ τ u hts hd=>by
   subst h1 h2;cases hd with
   | vec _ _ _ _ _ bo base κ c a hk hc hl ha=>exact .vec _ _ _ _ _ _ _ _ _ _ ((hts k _ h).trans hk) hc hl ha⟩
theorem J0a.nil {ρ:Rn} {k s len:Nat} (h:look ρ k=some none) (hl:len=0):J0a ρ .nilslice (.vec k s 0 len) :=
 ⟨fun M w σ τ u hts hd=>by
   subst hl;cases hd;exact .vec _ _ _ _ _ none 0 0 0 none (hts k _ h) rfl (Nat.le_refl _) (fun h=>absurd h (Nat.lt_irrefl _))⟩
def Q3d (ρ:Rn):List V->List V->Prop
 | [],[]=>True
 | v::r,v'::r'=>J0a ρ v v'/\Q3d ρ r r'
 | _,_=>False
theorem Q3d.out {ρ:Rn}:∀{cs cs':List V},Q3d ρ cs cs'->cs'.length=cs.length/\∀(i:Nat) (v v':V),cs[i]?=some v->cs'[i]?=some v'->J0a ρ v v'
 | [],[],_=>⟨rfl,fun i v v' h=>by simp at h⟩
 | v::r,v'::r',h=>by
   obtain⟨l,hr⟩:=Q3d.out h.2;refine⟨by simp[l],fun i x x' hx hx'=>?_⟩;cases i with
   | zero=>simp at hx hx';subst hx hx';exact h.1
   | succ i=>exact hr i x x' (by simpa using hx) (by simpa using hx')
 | [],_::_,h=>h.elim
 | _::_,[],h=>h.elim
theorem Q3d.den {ρ:Rn} {cs cs':List V} (h:Q3d ρ cs cs') {M:Nat->Prop} {w:World} {σ τ:Sg} {us:List Value} (hts:TS ρ σ τ) (hl:cs.length=us.length)
 (hd:∀(i:Nat) (v:V) (u:Value),cs[i]?=some v->us[i]?=some u->Den M w σ v u) :
 cs'.length=us.length/\∀(i:Nat) (v:V) (u:Value),cs'[i]?=some v->us[i]?=some u->Den M w τ v u:=by
 obtain⟨l,hr⟩:=h.out;refine⟨by omega,fun i v u hv hu=>?_⟩;have hi:i<cs.length:=by rw[<- l];exact(List.getElem?_eq_some_iff.1 hv).1
 exact(hr i cs[i] v (by simp[hi]) hv).out M w σ τ u hts (hd i cs[i] u (by simp[hi]) hu)
theorem J0a.agg {ρ:Rn} {cs cs':List V} (h:Q3d ρ cs cs'):J0a ρ (.agg cs) (.agg cs') :=
 ⟨fun M w σ τ u hts hd=>by
   cases hd with|agg _ _ us hl hd=>obtain⟨a,b⟩:=h.den hts hl hd;exact .agg _ _ _ a b⟩
theorem J0a.tup {ρ:Rn} {cs cs':List V} (h:Q3d ρ cs cs'):J0a ρ (.tup cs) (.tup cs') :=
 ⟨fun M w σ τ u hts hd=>by
   cases hd with|tup _ _ us hl hd=>obtain⟨a,b⟩:=h.den hts hl hd;exact .tup _ _ _ a b⟩
theorem J0a.fn {ρ:Rn} {f:Fn} {b:Bool} {cs cs':List V} (h:Q3d ρ cs cs'):J0a ρ (.fn f b cs) (.fn f b cs') :=
 ⟨fun M w σ τ u hts hd=>by
   cases hd with|fn _ _ _ _ us hl hd=>obtain⟨a,b⟩:=h.den hts hl hd;exact .fn _ _ _ _ _ a b⟩
structure VLe (v v':V):Prop where
 out:∀M w u,Den M w Sg.none v u->Den M w Sg.none v' u
theorem VLe.rfl {v:V}:VLe v v:=⟨fun _ _ _ h=>h⟩
theorem VLe.of_eq {v v':V} (h:v=v'):VLe v v':=by subst h;exact .rfl
theorem VLe.fz {n n' s:Nat} {J15 full':Bool} {f f':Nat->Nat->V} (hn:n=n') (hf:full'=true->J15=true) (h:∀i j,i<n->j<s->VLe (f i j) (f' i j)):VLe (.fz n s J15 f) (.fz n' s full' f') :=
 ⟨fun M w u hd=>by
   subst hn;cases hd with
   | fz0 _ _ _ _ a c hc=>exact .fz0 _ _ _ _ _ _ (fun e=>hc (hf e))
   | fz _ _ _ _ _ b off c u hc hf' hM hb hcell h1 hd=>exact .fz _ _ _ _ _ _ _ _ u hc (fun e=>hf' (hf e)) hM hb hcell h1 fun i j hi hj=>(h i j hi hj).out M w _ (hd i j hi hj)⟩
theorem VLe.nilfz {n s:Nat} {f:Nat->Nat->V} (hn:n=0):VLe .nilslice (.fz n s false f) :=
 ⟨fun M w u hd=>by
   subst hn;cases hd;exact .fz0 _ _ _ _ _ _ (by simp)⟩
theorem J0a.fz {ρ:Rn} {n n' s:Nat} {J15 full':Bool} {f f':Nat->Nat->V} (hn:n=n') (hf:full'=true->J15=true) (h:∀i j,i<n->j<s->VLe (f i j) (f' i j)):J0a ρ (.fz n s J15 f) (.fz n' s full' f') :=
 ⟨fun M w _ τ u _ hd=>((VLe.fz hn hf h).out M w u (hd.kf (show V.kf (.fz n s J15 f)=true from by rfl) Sg.none)).kf (show V.kf (.fz n' s full' f')=true from by rfl) τ⟩
def J3Z (ρ:Rn) (env:Env):Env->Prop
 | []=>True
 | (t,v)::r=>(∃v',look env t=some v'/\J0a ρ v' v)/\J3Z ρ env r
def OpR (ρ:Rn):List (Nat×Nat)->List (Nat×Nat)->Prop
 | [],[]=>True
 | (i,q)::r,(i',q')::r'=>i=i'/\look ρ q'=some (some q)/\OpR ρ r r'
 | _,_=>False
theorem OpR.look {ρ:Rn}:∀{op op':List (Nat×Nat)},OpR ρ op op'->∀i,(Eng.look op i=none↔Eng.look op' i=none)/\∀q',Eng.look op' i=some q'->∃q,Eng.look op i=some q/\Eng.look ρ q'=some (some q)
 | [],[],_,i=>⟨Iff.rfl,fun q h=>by simp[Eng.look] at h⟩
 | (i0,q0)::r,(i0',q0')::r',h,i=>by
   obtain⟨rfl,h2,h3⟩:=h;have ih:=OpR.look h3 i;by_cases e:i0=i
   . rw[J0n e,J0n e];exact⟨by simp,fun q' e=>by simp at e;subst e;exact⟨q0,rfl,h2⟩⟩
   . rw[J0l e,J0l e];exact ih
 | [],_::_,h,_=>h.elim
 | _::_,[],h,_=>h.elim
def X5P (ρ:Rn):Blk->Blk->Prop
 | .fam n s len f op,.fam n' s' len' f' op'=>n'=n/\s'=s/\OpR ρ op op'/\(∀i,i<n->len' i=len i)/\∀i j t,i<n->look op i=none->j<len i->t<s->VLe (f i j t) (f' i j t)
 | .vec n s f,.fam n' _ len' _ op'=>n'=n/\s=1/\op'=[]/\∀i,i<n->f i 0=.nilslice/\len' i=0
 | .cells cs,.cells cs'=>Q3d ρ cs cs'
 | .vec n s f,.vec n' s' f'=>n'<=n/\s=s'/\∀i j,i<n'->j<s->VLe (f i j) (f' i j)
 | .map ik es,.map ik' es'=>∃h:ik'=ik,(h▸es')=es
 | .glob g n f,.glob g' n' f'=>g'=g/\n'=n/\f'=f
 | .iter km n J1O,.iter km' n' idxs'=>n'=n/\idxs'=J1O/\look ρ km'=some (some km)
 | .loop st pe env N ps C,.loop st' pe' env' N' ps' C'=>st'=st/\pe'=pe/\N'=N/\ps'=ps/\C'=C/\J3Z ρ env env'
 | _,_=>False
def J2m (ρ:Rn) (own:Own):Own->Prop
 | []=>True
 | (k,b)::r=>(match look ρ k with
   | some (some k')=>∃b',look own k'=some b'/\X5P ρ b' b
   | some none=>∃s f,b=.vec 0 s f
   | none=>False)/\J2m ρ own r
theorem J3Z.look {ρ:Rn} {env:Env}:∀{m:Env},J3Z ρ env m->∀t v,Eng.look m t=some v->∃v',Eng.look env t=some v'/\J0a ρ v' v
 | [],_,t,v,h=>by simp[Eng.look] at h
 | (t',v')::r,hm,t,v,h=>by
   unfold Eng.look at h;split at h
   . rename_i hb;have:=Nat.eq_of_beq_eq_true hb;subst this;cases h;exact hm.1
   . exact J3Z.look hm.2 t v h
theorem J2m.mem {ρ:Rn} {own:Own}:∀{m:Own},J2m ρ own m->∀k b,(k,b)∈m->(∃k' b',Eng.look ρ k=some (some k')/\Eng.look own k'=some b'/\X5P ρ b' b)\/(Eng.look ρ k=some none/\∃s f,b=.vec 0 s f)
 | [],_,k,b,h=>by simp at h
 | (k',b')::r,hm,k,b,h=>by
   rcases List.mem_cons.1 h with e|e
   . cases e;have h1:=hm.1;split at h1
     . rename_i k'' hk;obtain⟨b',h2,h3⟩:=h1;exact .inl ⟨k'',b',hk,h2,h3⟩
     . rename_i hk;exact .inr ⟨hk,h1⟩
     . exact h1.elim
   . exact J2m.mem hm.2 k b e
def rnB:Rn->Bool
 | []=>true
 | (k,o)::r=>r.all (fun p=>!Nat.beq p.1 k&&(match o,p.2 with|some a,some b=>!Nat.beq a b|_,_=>true))&&rnB r
def X1Q (chg:List Nat):Rn->Bool
 | []=>true
 | (k,o)::r=>((match o with|some k'=>Nat.beq k k'|none=>false) || J06 k chg)&&X1Q chg r
def ksB (ρ:Rn):List Nat->Bool
 | []=>true
 | k::r=>(match look ρ k with|none=>true|some _=>false)&&ksB ρ r
theorem Q2m:∀{ρ:Rn},rnB ρ=true->∀k k' a,look ρ k=some (some a)->look ρ k'=some (some a)->k=k'
 | [],_,k,k',a,h,_=>by simp[look] at h
 | (q,o)::r,h,k,k',a,h1,h2=>by
   unfold rnB at h;simp only[Bool.and_eq_true] at h;obtain⟨hA,hB⟩:=h;rw[List.all_eq_true] at hA;have aux:∀j,look r j=some (some a)->o≠some a:=by
    intro j hj e;subst e;have:=hA _ (J0i hj);simp at this
   cases e1:Nat.beq q k<;>cases e2:Nat.beq q k'<;>simp only[look,e1,e2] at h1 h2
   . exact Q2m hB k k' a h1 h2
   . cases h2;exact(aux k h1 rfl).elim
   . cases h1;exact(aux k' h2 rfl).elim
   . rw[<- Nat.eq_of_beq_eq_true e1,<- Nat.eq_of_beq_eq_true e2]
theorem J10 {chg:List Nat}:∀{ρ:Rn},X1Q chg ρ=true->∀k o,look ρ k=some o->o=some k\/k∈chg
 | [],_,k,o,h=>by simp[look] at h
 | (q,p)::r,h,k,o,hk=>by
   unfold X1Q at h;simp only[Bool.and_eq_true,Bool.or_eq_true] at h;unfold look at hk;split at hk
   . rename_i e;have:=Nat.eq_of_beq_eq_true e;subst this;cases hk;rcases h.1 with h1|h1
     . split at h1
       . have:=Nat.eq_of_beq_eq_true h1;subst this;exact .inl rfl
       . cases h1
     . exact .inr (J0m.1 h1)
   . exact J10 h.2 k o hk
theorem J9A {ρ:Rn}:∀{ks:List Nat},ksB ρ ks=true->∀k,k∈ks->look ρ k=none
 | [],_,k,h=>by simp at h
 | q::r,h,k,hk=>by
   unfold ksB at h;simp only[Bool.and_eq_true] at h;rcases List.mem_cons.1 hk with e|e
   . subst e;have:=h.1;split at this
     . assumption
     . cases this
   . exact J9A h.2 k e
def Sg.ren (ρ:Rn) (ks:List Nat) (σ:Sg):Sg:=fun k=>match look ρ k with
 | .some (.some k')=>σ k'
 | .some .none=>.some (.none,0,0)
 | .none=>if J06 k ks then .none else σ k
theorem Sg.ren_ts (ρ:Rn) (ks:List Nat) (σ:Sg):TS ρ σ (σ.ren ρ ks):=fun k o h=>by
 unfold Sg.ren;cases o with
 | some k'=>simp[h]
 | none=>simp[h]
theorem J9Z {ρ:Rn} {M:Nat->Prop} {w:World} {σ τ:Sg} (hts:TS ρ σ τ) {k k':Nat} {b' b:Blk} (hk:τ k=σ k') (hb:J1v M w σ k' b') (e3:X5P ρ b' b):J1v M w τ k b/\∀n,J0p w τ k b n->J0p w σ k' b' n:=by
 have plain:b.isFam=false->∀n,J0p w τ k b n->J0p w σ k' b' n:=fun hf n hn=>.inl (by rw[J2W hf] at hn;simpa[J0u,hk] using hn);cases b' with
 | cells cs =>
   cases b with
   | cells cs' =>
     obtain⟨b,κ,ty,us,z1,z2,z3,z4,z5⟩:=hb;obtain⟨q1,q2⟩:=Q3d.den (us:=us.toList) (e3:Q3d ρ cs cs') hts (by simpa using z4.symm) (fun i v u hv hu=>z5 i v u hv (by simpa using hu));exact⟨⟨b,κ,ty,us,by rw[hk];exact z1,z2,z3,by simpa using q1.symm,fun i v u hv hu=>q2 i v u hv (by simpa using hu)⟩,plain rfl⟩
   | _=>exact(e3:False).elim
 | map ik es =>
   cases b with
   | map ik' es' =>
     obtain⟨b,κ,arr,z1,z2,z3,z4⟩:=hb;obtain⟨rfl,rfl⟩:=(e3:∃h:ik'=ik,(h▸es')=es);exact⟨⟨b,κ,arr,by rw[hk];exact z1,z2,z3,z4⟩,plain rfl⟩
   | _=>exact(e3:False).elim
 | glob g n f =>
   cases b with
   | glob g' n' f' =>
     obtain⟨⟨base,κ,z1⟩,z2⟩:=hb;obtain⟨rfl,rfl,rfl⟩:=(e3:g'=g/\n'=n/\f'=f);exact⟨⟨⟨base,κ,by rw[hk];exact z1⟩,z2⟩,plain rfl⟩
   | _=>exact(e3:False).elim
 | iter km n J1O =>
   cases b with
   | iter km' n' idxs' =>
     obtain⟨r,κ,b,base,κ',z1,z2,z3,z4⟩:=hb;obtain⟨rfl,rfl,er⟩:=(e3:n'=n/\idxs'=J1O/\look ρ km'=some (some km));exact⟨⟨r,κ,b,base,κ',by rw[hk];exact z1,z2,by rw[hts km' _ er];exact z3,z4⟩,plain rfl⟩
   | _=>exact(e3:False).elim
 | loop st pe env0 N0 ps C =>
   cases b with
   | loop st' pe' env0' N0' ps' C' =>
     obtain⟨l,κ,r,z1,z2,z3,z4,z5,z6,z7,z8,z9⟩:=hb;obtain⟨rfl,rfl,rfl,rfl,rfl,er⟩:=(e3:st'=st/\pe'=pe/\N0'=N0/\ps'=ps/\C'=C/\J3Z ρ env0 env0');refine⟨⟨l,κ,r,by rw[hk];exact z1,z2,z3,z4,z5,z6,z7,z8,fun t v hv=>?_⟩,plain rfl⟩;obtain⟨v',y1,y2⟩:=J3Z.look er t v hv;exact y2.out M w σ _ _ hts (z9 t v' y1)
   | _=>exact(e3:False).elim
 | vec n s f =>
   cases b with
   | cells=>exact(e3:False).elim
   | loop=>exact(e3:False).elim
   | map=>exact(e3:False).elim
   | iter=>exact(e3:False).elim
   | glob=>exact(e3:False).elim
   | vec n' s' f' =>
     obtain⟨c1,c2,c3⟩:=(e3:n'<=n/\s=s'/\∀i j,i<n'->j<s->VLe (f i j) (f' i j));subst c2;obtain⟨bo,base,κ,z1,z2,z3⟩:=hb;refine⟨⟨bo,base,κ,by rw[hk];exact z1,by omega,?_⟩,plain rfl⟩;rcases z3 with z3 | ⟨b,ty,us,z3,z4,z5,z6,z7⟩
     . exact .inl z3
     . refine .inr ⟨b,ty,us,z3,z4,z5,z6,fun i j hi hj=>?_⟩;obtain⟨u,u1,u2,u3⟩:=z7 i j (by omega) hj;exact⟨u,u1,u2,(c3 i j hi hj).out M w u u3⟩
   | fam n' s' len' f' op' =>
     obtain⟨rfl,rfl,rfl,c4⟩:=(e3:n'=n/\s=1/\op'=[]/\∀i,i<n->f i 0=.nilslice/\len' i=0);obtain⟨bo,base,κ,z1,z2,z3⟩:=hb;rcases z3 with z3 | ⟨b,ty,us,z3,z4,z5,z6,z7⟩
     . refine⟨⟨bo,base,κ,by rw[hk];exact z1,z2,.inl z3⟩,fun m hm=>?_⟩;rcases hm with hm | ⟨ob,base',κ',us,ty,i,e1,_⟩
       . exact .inl (by simpa[J0u,hk] using hm)
       . rw[hk,z1,z3.2] at e1;simp at e1
     . subst z3;have hcell:∀i,i<n'->us[base+i]?=some (.slice none 0 0):=fun i hi=>by
        obtain⟨u,u1,_,u3⟩:=z7 i 0 hi (by omega);rw[(c4 i hi).1] at u3;cases u3;simpa using u1
       have hno:∀i r,i<n'->¬ J7U us base i r:=fun i r hi ⟨off,l,c,e,_⟩=>by rw[hcell i hi] at e;simp at e
       refine⟨⟨_,base,κ,by rw[hk];exact z1,z2,.inr ⟨b,ty,us,rfl,z4,z5,by omega,fun i hi=>⟨_,hcell i hi,none,0,by rw[(c4 i hi).2],by rw[(c4 i hi).2];exact Nat.le_refl _,fun q hq=>(by cases hq),fun _ hc=>absurd hc (by omega)⟩,fun i i' r hi hi' _ _ h1 _=>(hno i r hi h1).elim,fun i hi _=>hno i b hi⟩⟩,fun m hm=>?_⟩;rcases hm with hm | ⟨ob,base',κ',us',ty',i,e1,e2,e3,_,e5⟩
       . exact .inl (by simpa[J0u,hk] using hm)
       . rw[hk,z1] at e1;simp only[Option.some.injEq,Prod.mk.injEq] at e1;obtain⟨rfl,rfl,rfl⟩:=e1;rw[z5] at e2;simp only[Option.some.injEq,Obj.cells.injEq] at e2;obtain⟨rfl,_⟩:=e2;exact(hno i m e3 e5).elim
 | fam n s len f op =>
   cases b with
   | cells=>exact(e3:False).elim
   | loop=>exact(e3:False).elim
   | map=>exact(e3:False).elim
   | iter=>exact(e3:False).elim
   | glob=>exact(e3:False).elim
   | vec=>exact(e3:False).elim
   | fam n' s' len' f' op' =>
     obtain⟨rfl,rfl,c3,c4,c5⟩:=(e3:n'=n/\s'=s/\OpR ρ op op'/\(∀i,i<n->len' i=len i)/\∀i j t,i<n->look op i=none->j<len i->t<s->VLe (f i j t) (f' i j t));obtain⟨bo,base,κ,z1,z2,z3⟩:=hb;refine⟨⟨bo,base,κ,by rw[hk];exact z1,z2,?_⟩,fun m hm=>?_⟩
     . rcases z3 with z3 | ⟨b,ty,us,z3,z4,z5,z6,z7,z8,z9⟩
       . exact .inl z3
       . refine .inr ⟨b,ty,us,z3,z4,z5,z6,fun i hi=>?_,fun i i' r hi hi' n1 n2 r1 r2=>z8 i i' r hi hi' ((c3.look i).1.2 n1) ((c3.look i').1.2 n2) r1 r2,fun i hi n1 r1=>z9 i hi ((c3.look i).1.2 n1) r1⟩;obtain⟨u,u1,a,c,u2,u3,u4,u5⟩:=z7 i hi;refine⟨u,u1,a,c,by rw[c4 i hi];exact u2,by rw[c4 i hi];exact u3,fun q' hq'=>?_,fun hn hc=>?_⟩
         . obtain⟨q,y1,y2⟩:=(c3.look i).2 q' hq';rw[c4 i hi];exact(J0a.vec y2 rfl rfl).out M w σ τ u hts (u4 q y1)
         . have hn':=(c3.look i).1.2 hn;obtain⟨r,off,ty2,us2,p1,p2,p3,p4,p5⟩:=u5 hn' hc;refine⟨r,off,ty2,us2,p1,p2,p3,p4,fun j t hj ht=>?_⟩;rw[c4 i hi] at hj;obtain⟨x,x1,x2,x3⟩:=p5 j t hj ht;exact⟨x,x1,x2,(c5 i j t hi hn' hj ht).out M w x x3⟩
     . rcases hm with hm | ⟨ob,base',κ',us',ty',i,e1,e2,e3,e4,e5⟩
       . exact .inl (by simpa[J0u,hk] using hm)
       . exact .inr ⟨ob,base',κ',us',ty',i,by rw[<- hk];exact e1,e2,e3,(c3.look i).1.2 e4,e5⟩
theorem Q9S {N:Nat} {chg:List Nat} {env env':Env} {own own':Own} {ks ks':List Nat} (ρ:Rn) (he:J3Z ρ env env') (ho:J2m ρ own own') (hn:J1B ks'=true) (hon:J1B (own'.map (·.1))=true)
 (h1:rnB ρ=true) (h2:X1Q chg ρ=true) (h3:ksB ρ ks'=true):J3A N chg ⟨env,own,ks⟩ ⟨env',own',ks'⟩:=by
 constructor;intro B M w σ a s;have hts:=Sg.ren_ts ρ ks' σ;have hob:=J2m.mem ho;have hblk:∀k b,(k,b)∈own'->∀n,J0p w (σ.ren ρ ks') k b n->∃k' b',look ρ k=some (some k')/\(k',b')∈own/\J0p w σ k' b' n:=by
  intro k b hm n hn;rcases hob k b hm with ⟨k',b',e1,e2,e3⟩ | ⟨e1,s',f,rfl⟩
  . exact⟨k',b',e1,J0i e2,(J9Z hts (hts k _ e1) (s.heap.own.blk k' b' (J0i e2)) e3).2 n hn⟩
  . have:(σ.ren ρ ks') k=some (none,0,0):=hts k _ e1;simp[J0p,J5n,J0u,this] at hn
 refine⟨M,σ.ren ρ ks',⟨?_,⟨⟨?_,J2C hon,?_⟩,?_,J2C hn⟩,s.size,?_⟩,⟨.refl _ _ _,?_⟩,?_⟩
 . intro t v hv;obtain⟨v',e1,e2⟩:=J3Z.look he t v hv;exact e2.out M w σ _ _ hts (s.env t v' e1)
 . intro k b hm;rcases hob k b hm with ⟨k',b',e1,e2,e3⟩ | ⟨e1,s',f,rfl⟩
   . exact(J9Z hts (hts k _ e1) (s.heap.own.blk k' b' (J0i e2)) e3).1
   . have hk:(σ.ren ρ ks') k=some (none,0,0):=hts k _ e1;exact⟨none,0,0,hk,Nat.le_refl _,.inl ⟨rfl,rfl⟩⟩
 . intro k b k' b' n m1 m2 hne e1 e2;obtain⟨q,qb,a1,a2,a3⟩:=hblk k b m1 n e1;obtain⟨q',qb',a1',a2',a3'⟩:=hblk k' b' m2 n e2;by_cases hq:q=q'
   . subst hq;exact hne (Q2m h1 k k' q a1 a1')
   . exact s.heap.own.apart q qb q' qb' n a2 a2' hq a3 a3'
 . intro k hk;simp[Sg.ren,J9A h3 k hk,J0m.2 hk]
 . refine⟨s.defers.base,fun d hd=>?_,s.defers.nodup⟩;obtain⟨D,e,q1,q2,q3,q4⟩:=s.defers.mark d hd;refine⟨D,e,q1,q2,?_,q4⟩;rintro⟨k,b,hm,e⟩;obtain⟨q,qb,_,a2,a3⟩:=hblk k b hm D e;exact q3 ⟨q,qb,a2,a3⟩
 . rintro n ⟨k,b,hm,e⟩;obtain⟨q,qb,_,a2,a3⟩:=hblk k b hm n e;exact .inl ⟨q,qb,a2,a3⟩
 . intro k hk hc;unfold Sg.ren;split
   . rename_i k' hr;rcases J10 h2 k _ hr with e|e
     . cases e;rfl
     . exact(hc e).elim
   . rename_i hr;rcases J10 h2 k _ hr with e|e
     . cases e
     . exact(hc e).elim
   . have:J06 k ks'=false:=by
      rw[<- Bool.not_eq_true];exact fun h=>hk (J0m.1 h)
     simp[this]
def Q4j (own:Own) (v:V) (K:V->Prop):Prop :=
 match v with
 | .tup cs=>X15 own cs fun cs=>K (.tup cs)
 | v=>bor own v K
theorem J3j {own:Own} {v:V} {K:V->Prop} (h:Q4j own v K):∃v',K v'/\∀M w σ u,J2r M w σ own->Den M w σ v u->Den (J4H M w σ own) w Sg.none v' u:=by
 unfold Q4j at h;split at h
 . rename_i cs;obtain⟨cs',hK,hl,hr⟩:=J3n h;refine⟨_,hK,fun M w σ u ho hd=>?_⟩;cases hd with
   | tup _ _ us l1 l2 =>
     refine .tup _ _ _ (by omega) fun i v' u' hv' hu'=>?_;have hi:i<cs.length:=by rw[<- hl];exact(List.getElem?_eq_some_iff.1 hv').1
     exact hr M w σ ho i cs[i] v' u' (by simp[hi]) hv' (l2 i cs[i] u' (by simp[hi]) hu')
 . exact J7M h
end Go.Eng
namespace Go.Eng
theorem Q4d {M:Nat->Prop} {w:World} {σ:Sg} {own own':Own} {ks ks':List Nat} (s:J0S M w σ own ks) (ρ:Rn) (ho:J2m ρ own own') (hn:J1B ks'=true) (hon:J1B (own'.map (·.1))=true)
 (h1:rnB ρ=true) (h3:ksB ρ ks'=true):J0S M w (σ.ren ρ ks') own' ks'/\∀n,J0v w (σ.ren ρ ks') own' n->∃k k' b',look ρ k=some (some k')/\(k',b')∈own/\J0p w σ k' b' n:=by
 have hts:=Sg.ren_ts ρ ks' σ;have hob:=J2m.mem ho;have hblk:∀k b,(k,b)∈own'->∀n,J0p w (σ.ren ρ ks') k b n->∃k' b',look ρ k=some (some k')/\(k',b')∈own/\J0p w σ k' b' n:=by
  intro k b hm n hn;rcases hob k b hm with ⟨k',b',e1,e2,e3⟩ | ⟨e1,s',f,rfl⟩
  . exact⟨k',b',e1,J0i e2,(J9Z hts (hts k _ e1) (s.own.blk k' b' (J0i e2)) e3).2 n hn⟩
  . have:(σ.ren ρ ks') k=some (none,0,0):=hts k _ e1;simp[J0p,J5n,J0u,this] at hn
 refine⟨⟨⟨?_,J2C hon,?_⟩,?_,J2C hn⟩,?_⟩
 . intro k b hm;rcases hob k b hm with ⟨k',b',e1,e2,e3⟩ | ⟨e1,s',f,rfl⟩
   . exact(J9Z hts (hts k _ e1) (s.own.blk k' b' (J0i e2)) e3).1
   . have hk:(σ.ren ρ ks') k=some (none,0,0):=hts k _ e1;exact⟨none,0,0,hk,Nat.le_refl _,.inl ⟨rfl,rfl⟩⟩
 . intro k b k' b' n m1 m2 hne e1 e2;obtain⟨q,qb,a1,a2,a3⟩:=hblk k b m1 n e1;obtain⟨q',qb',a1',a2',a3'⟩:=hblk k' b' m2 n e2;by_cases hq:q=q'
   . subst hq;exact hne (Q2m h1 k k' q a1 a1')
   . exact s.own.apart q qb q' qb' n a2 a2' hq a3 a3'
 . intro k hk;simp[Sg.ren,J9A h3 k hk,J0m.2 hk]
 . rintro n ⟨k,b,hm,e⟩;obtain⟨q,qb,a1,a2,a3⟩:=hblk k b hm n e;exact⟨k,q,qb,a1,a2,a3⟩
def rk (ρ:List (Nat×Nat)) (k:Nat):Nat:=match look ρ k with|some k'=>k'|none=>k
def V.rn1 (ρ:List (Nat×Nat)):V->V
 | .loc k o=>.loc (rk ρ k) o
 | .oel k s i j=>.oel (rk ρ k) s i j
 | .vec k s lo len=>.vec (rk ρ k) s lo len
 | .map k=>.map (rk ρ k)
 | .yld k=>.yld (rk ρ k)
 | v=>v
def Q7C (f:V->V):List V->List V
 | []=>[]
 | v::r=>f v::Q7C f r
def V.rn2 (ρ:List (Nat×Nat)):V->V
 | .agg cs=>.agg (Q7C (V.rn1 ρ) cs)
 | .fn f b cs=>.fn f b (Q7C (V.rn1 ρ) cs)
 | .iface t v=>.iface t (v.rn1 ρ)
 | v=>v.rn1 ρ
def V.rn3 (ρ:List (Nat×Nat)):V->V
 | .tup cs=>.tup (Q7C (V.rn2 ρ) cs)
 | v=>v.rn2 ρ
def Blk.rn (ρ:List (Nat×Nat)):Blk->Blk
 | .cells cs=>.cells (Q7C (V.rn2 ρ) cs)
 | .iter km n J1O=>.iter (rk ρ km) n J1O
 | b=>b
def J63 (ρ:List (Nat×Nat)):Own->Own
 | []=>[]
 | (k,b)::r=>(rk ρ k,b.rn ρ)::J63 ρ r
def V.in1 (ks:List Nat):V->Bool
 | .loc k _ | .oel k _ _ _ | .vec k _ _ _ | .map k | .yld k=>J06 k ks
 | .agg _ | .tup _ | .fn _ _ _ | .iface _ _=>false
 | _=>true
def V.in2 (ks:List Nat):V->Bool
 | .agg cs=>J2O (V.in1 ks) cs
 | .fn _ _ cs=>J2O (V.in1 ks) cs
 | .iface _ v=>v.in1 ks
 | v=>v.in1 ks
def V.in3 (ks:List Nat):V->Bool
 | .tup cs=>J2O (V.in2 ks) cs
 | v=>v.in2 ks
def J4V (ks:List Nat):Own->Bool
 | []=>true
 | (k,.cells cs)::r=>match J06 k ks,J2O (V.in2 ks) cs with|true,true=>J4V ks r|_,_=>false
 | (k,.vec _ _ _)::r=>match J06 k ks with|true=>J4V ks r|false=>false
 | (_,.loop _ _ _ _ _ _)::_=>false
 | (k,.map _ _)::r=>match J06 k ks with|true=>J4V ks r|false=>false
 | (k,.glob _ _ _)::r=>match J06 k ks with|true=>J4V ks r|false=>false
 | (k,.iter km _ _)::r=>match J06 k ks,J06 km ks with|true,true=>J4V ks r|_,_=>false
 | (k,.fam _ _ _ _ [])::r=>match J06 k ks with|true=>J4V ks r|false=>false
 | (_,.fam _ _ _ _ (_::_))::_=>false
theorem J4Z {f:V->V}:∀{l:List V} {i:Nat} {v:V},(Q7C f l)[i]?=some v->∃x,l[i]?=some x/\v=f x
 | [],i,v,h=>by simp[Q7C] at h
 | x::r,i,v,h=>by
   cases i with
   | zero=>simp[Q7C] at h;exact⟨x,by simp,h.symm⟩
   | succ i=>simp[Q7C] at h;obtain⟨y,a,b⟩:=J4Z h;exact⟨y,by simpa using a,b⟩
theorem J2H {f:V->V}:∀{l:List V},(Q7C f l).length=l.length
 | []=>rfl
 | _::r=>by simp[Q7C,J2H (l:=r)]
section
variable {M:Nat->Prop} {w:World} {τ σ:Sg} {ρ:List (Nat×Nat)} {dom:List Nat}
theorem Den.rn1 (H:∀k,J06 k dom=true->σ (rk ρ k)=τ k) {v:V} {u:Value} (h:Den M w τ v u) (hv:v.in1 dom=true):Den M w σ (v.rn1 ρ) u:=by
 cases h with
 | bool=>exact .bool _ _
 | int=>exact .int _ _ _
 | str=>exact .str _ _
 | nilptr=>exact .nilptr _
 | nilslice=>exact .nilslice _
 | nilmap=>exact .nilmap _
 | nilfunc=>exact .nilfunc _
 | niliface=>exact .niliface _
 | loc _ k off b base κ hk=>exact .loc _ _ _ _ _ _ ((H k hv).trans hk)
 | oel _ k s i j b base κ hk=>exact .oel _ _ _ _ _ _ _ _ ((H k hv).trans hk)
 | vec _ k s lo len bo base κ c a hk hc hl ha=>exact .vec _ _ _ _ _ _ _ _ _ _ ((H k hv).trans hk) hc hl ha
 | map _ k b base κ hk=>exact .map _ _ _ _ _ ((H k hv).trans hk)
 | yld _ k b base κ hk=>exact .yld _ _ _ _ _ ((H k hv).trans hk)
 | fz0 _ _ _ _ _ _ hf=>exact .fz0 _ _ _ _ _ _ hf
 | fz _ _ _ _ _ _ _ _ u hc hf hM hb hcell h1 hd=>exact .fz _ _ _ _ _ _ _ _ u hc hf hM hb hcell h1 hd
 | fe _ _ _ _ _ _ _ _ u hi hM hb hcell h1 hd=>exact .fe _ _ _ _ _ _ _ _ u hi hM hb hcell h1 hd
 | raw=>exact .raw _ _
 | anyb=>exact .anyb _ _
 | top=>exact .top _ _
 | _=>simp[V.in1] at hv
theorem Den.rn2 (H:∀k,J06 k dom=true->σ (rk ρ k)=τ k) {v:V} {u:Value} (h:Den M w τ v u) (hv:v.in2 dom=true):Den M w σ (v.rn2 ρ) u:=by
 cases v with
 | agg cs =>
   cases h with
   | agg _ _ us hl hd =>
     refine .agg _ _ _ (by rw[J2H];exact hl) fun i v u h1 h2=>?_;obtain⟨x,hx,rfl⟩:=J4Z h1;exact(hd i x u hx h2).rn1 H (J0t hv x (List.mem_of_getElem? hx))
 | fn f b cs =>
   cases h with
   | fn _ _ _ _ us hl hd =>
     refine .fn _ _ _ _ _ (by rw[J2H];exact hl) fun i v u h1 h2=>?_;obtain⟨x,hx,rfl⟩:=J4Z h1;exact(hd i x u hx h2).rn1 H (J0t hv x (List.mem_of_getElem? hx))
 | iface t v=>cases h with|iface _ _ _ _ hd=>exact .iface _ _ _ _ (hd.rn1 H hv)
 | _=>exact h.rn1 H hv
theorem Den.rn3 (H:∀k,J06 k dom=true->σ (rk ρ k)=τ k) {v:V} {u:Value} (h:Den M w τ v u) (hv:v.in3 dom=true):Den M w σ (v.rn3 ρ) u:=by
 cases v with
 | tup cs =>
   cases h with
   | tup _ _ us hl hd =>
     refine .tup _ _ _ (by rw[J2H];exact hl) fun i v u h1 h2=>?_;obtain⟨x,hx,rfl⟩:=J4Z h1;exact(hd i x u hx h2).rn2 H (J0t hv x (List.mem_of_getElem? hx))
 | _=>exact h.rn2 H hv
theorem J3O:∀{own:Own} {k:Nat} {b:Blk},(k,b)∈J63 ρ own->∃k0 b0,(k0,b0)∈own/\k=rk ρ k0/\b=b0.rn ρ
 | [],k,b,h=>by simp[J63] at h
 | (q,c)::r,k,b,h=>by
   simp only[J63,List.mem_cons,Prod.mk.injEq] at h;rcases h with ⟨rfl,rfl⟩|h
   . exact⟨q,c,by simp,rfl,rfl⟩
   . obtain⟨k0,b0,a,e⟩:=J3O h;exact⟨k0,b0,by simp[a],e⟩
theorem J5r:∀{own:Own},(J63 ρ own).map (·.1)=own.map fun p=>rk ρ p.1
 | []=>rfl
 | (q,c)::r=>by simp[J63,J5r (own:=r)]
theorem J1n:∀{own:Own},J4V dom own=true->∀k b,(k,b)∈own->J06 k dom=true/\(∀cs,b=.cells cs->J2O (V.in2 dom) cs=true)/\(∀st pe env N ps C,b≠.loop st pe env N ps C)/\(∀n s len f op,b=.fam n s len f op->op=[])/\∀km n J1O,b=.iter km n J1O->J06 km dom=true
 | [],_,k,b,h=>by simp at h
 | (q,.cells cs)::r,h,k,b,hm=>by
   unfold J4V at h;split at h
   . rename_i h1 h2;rcases List.mem_cons.1 hm with e|e
     . cases e;exact⟨h1,fun _ e=>by cases e;exact h2,fun _ _ _ _ _ _ e=>(by cases e),fun _ _ _ _ _ e=>(by cases e),fun _ _ _ e=>by cases e⟩
     . exact J1n h k b e
   . cases h
 | (q,.vec _ _ _)::r,h,k,b,hm=>by
   unfold J4V at h;split at h
   . rename_i h1;rcases List.mem_cons.1 hm with e|e
     . cases e;exact⟨h1,fun _ e=>(by cases e),fun _ _ _ _ _ _ e=>(by cases e),fun _ _ _ _ _ e=>(by cases e),fun _ _ _ e=>by cases e⟩
     . exact J1n h k b e
   . cases h
 | (q,.loop _ _ _ _ _ _)::r,h,k,b,hm=>by cases h
 | (q,.map _ _)::r,h,k,b,hm=>by
   unfold J4V at h;split at h
   . rename_i h1;rcases List.mem_cons.1 hm with e|e
     . cases e;exact⟨h1,fun _ e=>(by cases e),fun _ _ _ _ _ _ e=>(by cases e),fun _ _ _ _ _ e=>(by cases e),fun _ _ _ e=>by cases e⟩
     . exact J1n h k b e
   . cases h
 | (q,.glob _ _ _)::r,h,k,b,hm=>by
   unfold J4V at h;split at h
   . rename_i h1;rcases List.mem_cons.1 hm with e|e
     . cases e;exact⟨h1,fun _ e=>(by cases e),fun _ _ _ _ _ _ e=>(by cases e),fun _ _ _ _ _ e=>(by cases e),fun _ _ _ e=>by cases e⟩
     . exact J1n h k b e
   . cases h
 | (q,.iter km _ _)::r,h,k,b,hm=>by
   unfold J4V at h;split at h
   . rename_i h1 h2;rcases List.mem_cons.1 hm with e|e
     . cases e;exact⟨h1,fun _ e=>(by cases e),fun _ _ _ _ _ _ e=>(by cases e),fun _ _ _ _ _ e=>(by cases e),fun _ _ _ e=>by cases e;exact h2⟩
     . exact J1n h k b e
   . cases h
 | (q,.fam _ _ _ _ [])::r,h,k,b,hm=>by
   unfold J4V at h;split at h
   . rename_i h1;rcases List.mem_cons.1 hm with e|e
     . cases e;exact⟨h1,fun _ e=>(by cases e),fun _ _ _ _ _ _ e=>(by cases e),fun _ _ _ _ _ e=>(by cases e;rfl),fun _ _ _ e=>by cases e⟩
     . exact J1n h k b e
   . cases h
 | (q,.fam _ _ _ _ (_::_))::r,h,k,b,hm=>by cases h
theorem J9D {w:World} {ρ:List (Nat×Nat)} {σ τ:Sg} {k:Nat} {b:Blk} {n:Nat} (h:σ (rk ρ k)=τ k):J0p w σ (rk ρ k) (b.rn ρ) n↔J0p w τ k b n:=by
 cases b<;>first|exact X1g h|(rw[J2W rfl,J2W rfl];simp only[J0u,h])
theorem J1v.rn (H:∀k,J06 k dom=true->σ (rk ρ k)=τ k) {k:Nat} {b:Blk} (h:J1v M w τ k b) (hk:J06 k dom=true) (hb:(∀cs,b=.cells cs->J2O (V.in2 dom) cs=true)/\(∀st pe env N ps C,b≠.loop st pe env N ps C)/\(∀n s len f op,b=.fam n s len f op->op=[])/\∀km n J1O,b=.iter km n J1O->J06 km dom=true):J1v M w σ (rk ρ k) (b.rn ρ):=by
 obtain⟨hb,hnl,hfm,hit⟩:=hb;cases b with
 | map ik es =>
   obtain⟨b,κ,arr,z1,z2,z3,z4⟩:=h;exact⟨b,κ,arr,(H k hk).trans z1,z2,z3,z4⟩
 | glob g n f =>
   obtain⟨⟨base,κ,z1⟩,z2⟩:=h;exact⟨⟨base,κ,(H k hk).trans z1⟩,z2⟩
 | iter km n J1O =>
   obtain⟨r,κ,b,base,κ',z1,z2,z3,z4⟩:=h;exact⟨r,κ,b,base,κ',(H k hk).trans z1,z2,(H km (hit km n J1O rfl)).trans z3,z4⟩
 | loop st pe env N ps C=>exact(hnl _ _ _ _ _ _ rfl).elim
 | fam n s len f op =>
   obtain rfl:=hfm _ _ _ _ _ rfl;obtain⟨bo,base,κ,z1,z2,z3⟩:=h;refine⟨bo,base,κ,(H k hk).trans z1,z2,?_⟩;rcases z3 with z3 | ⟨b,ty,us,z3,z4,z5,z6,z7,z8⟩
   . exact .inl z3
   . refine .inr ⟨b,ty,us,z3,z4,z5,z6,fun i hi=>?_,z8⟩;obtain⟨u,u1,a,c,u2,u3,_,u5⟩:=z7 i hi;exact⟨u,u1,a,c,u2,u3,fun q hq=>(by cases hq),u5⟩
 | cells cs =>
   obtain⟨b,κ,ty,us,z1,z2,z3,z4,z5⟩:=h;refine⟨b,κ,ty,us,(H k hk).trans z1,z2,z3,by rw[J2H];exact z4,fun i v u hv hu=>?_⟩;obtain⟨x,hx,rfl⟩:=J4Z hv;exact(z5 i x u hx hu).rn2 H (J0t (hb cs rfl) x (List.mem_of_getElem? hx))
 | vec n s f =>
   obtain⟨bo,base,κ,z1,z2,z3⟩:=h;exact⟨bo,base,κ,(H k hk).trans z1,z2,z3⟩
end
def Q4k:List Nat->List Nat->(List (Nat×Nat)->List Nat->Prop)->Prop
 | [],ks,K=>K [] ks
 | k::r,ks,K=>match ks with
   | q::ks=>Q4k r ks fun l ks=>K ((k,q)::l) ks
   | []=>False
theorem J50:∀{nk ks:List Nat} {K:List (Nat×Nat)->List Nat->Prop},Q4k nk ks K->∃l ks',K l ks'/\l.map (·.1)=nk/\ks=l.map (·.2)++ks'
 | [],ks,K,h=>⟨[],ks,h,rfl,rfl⟩
 | k::r,ks,K,h=>by
   unfold Q4k at h;split at h
   . obtain⟨l,ks',a,b,c⟩:=J50 h;exact⟨_,ks',a,by simp[b],by simp[c]⟩
   . exact h.elim
def J0Z:Rn->List (Nat×Nat)
 | []=>[]
 | (k,some q)::r=>(k,q)::J0Z r
 | (_,none)::r=>J0Z r
theorem J5o {k q:Nat}:∀{ρ:Rn},(k,q)∈J0Z ρ->(k,some q)∈ρ
 | [],h=>by simp[J0Z] at h
 | (a,some b)::r,h=>by
   simp only[J0Z,List.mem_cons,Prod.mk.injEq] at h;rcases h with ⟨rfl,rfl⟩|h
   . simp
   . simp[J5o h]
 | (a,none)::r,h=>by
   simp only[J0Z] at h;simp[J5o h]
theorem J9w {ρ:List (Nat×Nat)} {k q:Nat} (h:look ρ k=some q):rk ρ k=q:=by simp[rk,h]
def X51:List (Nat×Nat)->Bool
 | []=>true
 | (k,q)::r=>r.all (fun p=>!Nat.beq p.1 k&&!Nat.beq p.2 q)&&X51 r
theorem J3R:∀{ρ:List (Nat×Nat)},X51 ρ=true->∀k q,(k,q)∈ρ->look ρ k=some q
 | [],_,k,q,h=>by simp at h
 | (a,b)::r,h,k,q,hm=>by
   unfold X51 at h;simp only[Bool.and_eq_true,List.all_eq_true] at h;rcases List.mem_cons.1 hm with e|e
   . cases e;simp[look]
   . have h1:=h.1 _ e;simp only[Bool.not_eq_true'] at h1;have:Nat.beq a k=false:=by
      rw[<- Bool.not_eq_true];intro hb;have:=Nat.eq_of_beq_eq_true hb;subst this;simp at h1
     simp only[look,this];exact J3R h.2 k q e
theorem Q4c:∀{ρ:List (Nat×Nat)},X51 ρ=true->∀k k' q,(k,q)∈ρ->(k',q)∈ρ->k=k'
 | [],_,k,k',q,h,_=>by simp at h
 | (a,b)::r,h,k,k',q,h1,h2=>by
   unfold X51 at h;simp only[Bool.and_eq_true,List.all_eq_true] at h;rcases List.mem_cons.1 h1 with e|e<;>rcases List.mem_cons.1 h2 with e'|e'
   . cases e;cases e';rfl
   . cases e;have:=(h.1 _ e').2;simp at this
   . cases e';have:=(h.1 _ e).2;simp at this
   . exact Q4c h.2 k k' q e e'
theorem J1U {ρ:List (Nat×Nat)} {k:Nat} (h:J06 k (ρ.map (·.1))=true):∃q,(k,q)∈ρ:=by
 obtain⟨⟨a,b⟩,h1,h2⟩:=List.mem_map.1 (J0m.1 h);simp only at h2;subst h2;exact⟨b,h1⟩
def X76 (own:Own) (ks:List Nat) (ρ:Rn) (nk:List Nat) (v:V) (own':Own) (K:V->Own->List Nat->Prop):Prop :=
 Q4k nk ks fun l ks'=>Chk (X51 (J0Z ρ++l)&&v.in3 ((J0Z ρ++l).map (·.1))&&J4V ((J0Z ρ++l).map (·.1)) own')
  (K (v.rn3 (J0Z ρ++l)) (J63 (J0Z ρ++l) own'++J1Y ((J0Z ρ).map (·.2)) own) ks')
theorem Q6Q:∀{ρ:Rn},rnB ρ=true->∀k o,(k,o)∈ρ->look ρ k=some o
 | [],_,k,o,h=>by simp at h
 | (a,b)::r,h,k,o,hm=>by
   unfold rnB at h;simp only[Bool.and_eq_true,List.all_eq_true] at h;rcases List.mem_cons.1 hm with e|e
   . cases e;simp[look]
   . have h1:=h.1 _ e;simp only[Bool.not_eq_true'] at h1;have:Nat.beq a k=false:=by
      rw[<- Bool.not_eq_true];intro hb;have:=Nat.eq_of_beq_eq_true hb;subst this;simp at h1
     simp only[look,this];exact Q6Q h.2 k o e
theorem X5r {P:Program} {f:FuncId} {args args0:List V} {own own0:Own} {ks ks0:List Nat} {K:V->Own->List Nat->Prop} (ρ:Rn) (nk:List Nat)
 (hargs:Q3d ρ args args0) (hown:J2m ρ own own0) (h1:(J1B ks0&&J1B (own0.map (·.1))&&rnB ρ&&ksB ρ ks0&&(ρ.all fun p=>J06 p.1 (own0.map (·.1))))=true)
 (h:J0G P f args0 own0 ks0 fun v own' _=>X76 own ks ρ nk v own' K):J0G P f args own ks K:=by
 simp only[Bool.and_eq_true] at h1;obtain⟨⟨⟨⟨hk0,ho0⟩,hrn⟩,hks⟩,hdom⟩:=h1;rw[List.all_eq_true] at hdom;constructor;intro M w σ us hlen hd hh;obtain⟨s0,hsub⟩:=Q4d hh ρ hown hk0 ho0 hrn hks;have hts:=Sg.ren_ts ρ ks0 σ;obtain⟨a1,a2⟩:=Q3d.den hargs hts hlen hd;refine(h.out M w (σ.ren ρ ks0) us a1 a2 s0).mono ?_;rintro e w' ⟨M',τ',v,own',ks',u,rfl,hv,hh',tr,kd,hb⟩;obtain⟨l,ksr,⟨hchk,hK⟩,hl1,hl2⟩:=J50 hb;simp only[Bool.and_eq_true] at hchk;obtain⟨⟨hinj,hvin⟩,hoin⟩:=hchk;have hknd:=hh.knodup;rw[hl2,List.nodup_append] at hknd;obtain⟨kn1,kn2,kn3⟩:=hknd
 -- what the names stand for now
 let rv:List (Nat×Nat):=l.map fun p=>(p.2,p.1);let σ':Sg:=fun k=>match look rv k with|some k0=>τ' k0|none=>σ k
 have hfr:∀p,p∈l->σ p.2=none:=fun p hp=>hh.fresh p.2 (by rw[hl2];simp;exact .inl ⟨p.1,hp⟩);have hlook:∀k0 q,(k0,q)∈l->look rv q=some k0:=by
  intro k0 q hm;have:∀(m:List (Nat×Nat)),(m.map (·.2)).Nodup->(k0,q)∈m->look (m.map fun p=>(p.2,p.1)) q=some k0:=by
   intro m
   induction m with
   | nil=>intro _ h;simp at h
   | cons p m ih =>
     intro hn hm;simp only[List.map_cons,List.nodup_cons] at hn;rcases List.mem_cons.1 hm with e|e
     . subst e;simp[look]
     . have hne:Nat.beq p.2 q=false:=by
        rw[<- Bool.not_eq_true];intro hb;have:=Nat.eq_of_beq_eq_true hb;exact hn.1 (List.mem_map.2 ⟨_,e,this.symm⟩)
       simp only[List.map_cons,look,hne];exact ih hn.2 e
  exact this l kn1 hm
 have hlookn:∀k,k∉l.map (·.2)->σ' k=σ k:=by
  intro k hk;have:look rv k=none:=by
   cases e:look rv k with
   | none=>rfl
   | some q =>
     have:=J0i e;obtain⟨p,h1,h2⟩:=List.mem_map.1 this;cases h2;exact(hk (List.mem_map.2 ⟨p,h1,rfl⟩)).elim
  simp only[σ',this]
 have hle:σ.le σ':=by
  intro k x hx;rw[hlookn k fun hm=>?_]
  . exact hx
  . obtain⟨p,h1,h2⟩:=List.mem_map.1 hm;subst h2;rw[hfr p h1] at hx;cases hx
 have hrng:∀k0 q,(k0,q)∈J0Z ρ->∃b,(q,b)∈own/\look ρ k0=some (some q)/\∃x,σ q=some x/\τ' k0=some x:=by
  intro k0 q hm;have hm':=J5o hm;have hlk:=Q6Q hrn k0 _ hm';have hk0:=hdom _ hm';obtain⟨⟨k1,b0⟩,e1,e2⟩:=List.mem_map.1 (J0m.1 hk0);simp only at e2;subst e2;rcases J2m.mem hown _ _ e1 with ⟨k',b',x1,x2,_⟩ | ⟨x1,_⟩
  . rw[hlk] at x1;cases x1;obtain⟨x,hx⟩:=hh.own.key (J0i x2);refine⟨b',J0i x2,hlk,x,hx,tr.le _ x ?_⟩;rw[hts _ _ hlk];exact hx
  . rw[hlk] at x1;cases x1
 have H:∀k,J06 k ((J0Z ρ++l).map (·.1))=true->σ' (rk (J0Z ρ++l) k)=τ' k:=by
  intro k hk;obtain⟨q,hm⟩:=J1U hk;rw[J9w (J3R hinj k q hm)];rcases List.mem_append.1 hm with hm|hm
  . obtain⟨b,hb,_,x,hx,hx'⟩:=hrng k q hm;rw[hle q x hx,hx']
  . have:=hlook k q hm;simp only[σ',this]
 -- the callee's part
 have hA:∀k b,(k,b)∈J18 ((J0Z ρ).map (·.2)) own->(k,b)∈own:=fun k b hm=>(J02.1 hm).1;have hC:∀k b,(k,b)∈J1Y ((J0Z ρ).map (·.2)) own->(k,b)∈own:=fun k b hm=>(J0I.1 hm).1;have hoA:∀n,J0v w (σ.ren ρ ks0) own0 n->J0v w σ (J18 ((J0Z ρ).map (·.2)) own) n:=by
  intro n hn;obtain⟨k,k',b',e1,e2,e3⟩:=hsub n hn;refine⟨k',b',J02.2 ⟨e2,?_⟩,e3⟩;have:∀(m:Rn),look m k=some (some k')->k'∈(J0Z m).map (·.2):=by
   intro m
   induction m with
   | nil=>intro h;simp[look] at h
   | cons p m ih =>
     intro h;obtain⟨a,o⟩:=p;unfold look at h;split at h
     . cases h;simp[J0Z]
     . have:=ih h;cases o<;>simp only[J0Z,List.map_cons,List.mem_cons]
       . exact this
       . exact .inr this
  exact this ρ e1
 have nodupA':((J63 (J0Z ρ++l) own').map (·.1)).Nodup:=by
  rw[J5r];have hn:=hh'.own.nodup;have hin:=J1n hoin;clear hb hK hh' tr kd hvin;have aux:∀(m:Own),(∀k b,(k,b)∈m->J06 k ((J0Z ρ++l).map (·.1))=true)->(m.map (·.1)).Nodup->(m.map fun p=>rk (J0Z ρ++l) p.1).Nodup:=by
   intro m
   induction m with
   | nil=>intro _ _;simp
   | cons p m ih =>
     intro hi hn;simp only[List.map_cons,List.nodup_cons] at hn ⊢;refine⟨fun hm=>?_,ih (fun k b h=>hi k b (by simp[h])) hn.2⟩;obtain⟨p',h1,h2⟩:=List.mem_map.1 hm;obtain⟨q,hq⟩:=J1U (hi p.1 p.2 (by simp));obtain⟨q',hq'⟩:=J1U (hi p'.1 p'.2 (by simp[h1]));rw[J9w (J3R hinj _ _ hq),J9w (J3R hinj _ _ hq')] at h2;subst h2;have:=Q4c hinj _ _ _ hq hq';exact hn.1 (List.mem_map.2 ⟨p',h1,this.symm⟩)
  exact aux own' (fun k b h=>(hin k b h).1) hn
 have hA':J0S M' w' σ' (J63 (J0Z ρ++l) own') ksr:=by
  refine⟨⟨?_,nodupA',?_⟩,?_,kn2⟩
  . intro k b hm;obtain⟨k0,b0,e1,rfl,rfl⟩:=J3O hm;obtain⟨i1,i2⟩:=J1n hoin k0 b0 e1;exact(hh'.own.blk k0 b0 e1).rn H i1 i2
  . intro k b k' b' n m1 m2 hne e1 e2;obtain⟨k0,b0,z1,rfl,rfl⟩:=J3O m1;obtain⟨k0',b0',z1',rfl,rfl⟩:=J3O m2;rw[J9D (H k0 (J1n hoin k0 b0 z1).1)] at e1;rw[J9D (H k0' (J1n hoin k0' b0' z1').1)] at e2;exact hh'.own.apart k0 b0 k0' b0' n z1 z1' (fun e=>hne (by rw[e])) e1 e2
  . intro k hk;rw[hlookn k fun hm=>kn3 k hm k hk rfl];exact hh.fresh k (by rw[hl2];simp[hk])
 have trA:Tr M w σ (J18 ((J0Z ρ).map (·.2)) own) M' w' σ' (J63 (J0Z ρ++l) own'):=by
  refine⟨⟨tr.adv.os,tr.adv.tape,tr.adv.output,tr.adv.size,fun b hb hn=>tr.adv.same b hb fun x=>hn (hoA b x),fun b hb hn=>tr.adv.muts b hb fun x=>hn (hoA b x)⟩,?_,hle⟩;rintro n ⟨k,b,hm,e⟩;obtain⟨k0,b0,z1,rfl,rfl⟩:=J3O hm;rw[J9D (H k0 (J1n hoin k0 b0 z1).1)] at e;rcases tr.new n ⟨k0,b0,z1,e⟩ with x|x
  . exact .inl (hoA n x)
  . exact .inr x
 have kdA:Kd σ (J18 ((J0Z ρ).map (·.2)) own) ks σ' (J63 (J0Z ρ++l) own') ksr:=by
  refine⟨fun k hk=>by rw[hl2];simp[hk],fun k e1 e2=>?_,fun k hk=>?_⟩
  . rw[hlookn k fun hm=>e2 (by rw[hl2];exact List.mem_append_left _ hm)];exact e1
  . rw[J5r] at hk;obtain⟨p,h1,h2⟩:=List.mem_map.1 hk;obtain⟨q,hq⟩:=J1U (J1n hoin p.1 p.2 h1).1;rw[J9w (J3R hinj _ _ hq)] at h2;subst h2;rcases List.mem_append.1 hq with hq|hq
    . obtain⟨b,hb,_⟩:=hrng _ _ hq;exact .inl (List.mem_map.2 ⟨(q,b),J02.2 ⟨hb,List.mem_map.2 ⟨_,hq,rfl⟩⟩,rfl⟩)
    . exact .inr (by rw[hl2];exact List.mem_append_left _ (List.mem_map.2 ⟨_,hq,rfl⟩))
 obtain⟨f1,f2⟩:=J8B hh hA hC (fun k hk hc=>by
  obtain⟨⟨q,b⟩,x1,x2⟩:=List.mem_map.1 hk;obtain⟨⟨q',b'⟩,y1,y2⟩:=List.mem_map.1 hc;simp only at x2 y2;subst x2 y2;exact(J0I.1 y1).2 (J02.1 x1).2) (J2K hh.own.nodup) hA' trA kdA
 refine⟨M',σ',_,_,_,u,rfl,hv.rn3 H hvin,f1,f2,⟨kdA.1,kdA.2.1,fun k hk=>?_⟩,hK⟩;rw[List.map_append] at hk;rcases List.mem_append.1 hk with hk|hk
 . rcases kdA.2.2 k hk with x|x
   . obtain⟨⟨q,b⟩,x1,x2⟩:=List.mem_map.1 x;exact .inl (List.mem_map.2 ⟨_,(J02.1 x1).1,x2⟩)
   . exact .inr x
 . obtain⟨⟨q,b⟩,x1,x2⟩:=List.mem_map.1 hk;exact .inl (List.mem_map.2 ⟨_,(J0I.1 x1).1,x2⟩)
def X5O (ks:List Nat) (v:V) (own':Own) (K:V->Own->List Nat->Prop):Prop :=
 ∃ρ v2 own2 ks2,J0a ρ v v2/\J2m ρ own' own2/\(J1B ks2&&J1B (own2.map (·.1))&&rnB ρ&&X1Q ks ρ&&ksB ρ ks2&&(ks2.all fun k=>J06 k ks))=true/\K v2 own2 ks2
theorem J1q {P:Program} {f:FuncId} {args:List V} {own:Own} {ks:List Nat} {K:V->Own->List Nat->Prop} (h:J0G P f args own ks fun v own' _=>X5O ks v own' K):J0G P f args own ks K:=by
 constructor;intro M w σ us hlen hd hh;refine(h.out M w σ us hlen hd hh).mono ?_;rintro e w' ⟨M',σ',v,own',ks',u,rfl,hv,hh',tr,kd,ρ,v2,own2,ks2,r1,r2,r3,hK⟩;simp only[Bool.and_eq_true,List.all_eq_true] at r3;obtain⟨⟨⟨⟨⟨c1,c2⟩,c3⟩,c4⟩,c5⟩,c6⟩:=r3;obtain⟨s2,hsub⟩:=Q4d hh' ρ r2 c1 c2 c3 c5;have hts:=Sg.ren_ts ρ ks2 σ';refine⟨M',σ'.ren ρ ks2,v2,own2,ks2,u,rfl,r1.out M' w' σ' _ u hts hv,s2,⟨tr.adv,?_,?_⟩,⟨fun k hk=>J0m.1 (c6 k hk),?_,?_⟩,hK⟩
 . intro n hn;obtain⟨k,k',b',_,e2,e3⟩:=hsub n hn;exact tr.new n ⟨k',b',e2,e3⟩
 . intro k x hx;have hk:k∉ks:=fun hm=>by rw[hh.fresh k hm] at hx;cases hx
   have hx':=tr.le k x hx;unfold Sg.ren;split
   . rename_i k' hr;rcases J10 c4 k _ hr with e|e
     . cases e;exact hx'
     . exact(hk e).elim
   . rename_i hr;rcases J10 c4 k _ hr with e|e
     . cases e
     . exact(hk e).elim
   . have:J06 k ks2=false:=by
      rw[<- Bool.not_eq_true];exact fun h=>hk (J0m.1 (c6 k (J0m.1 h)))
     simp only[this];exact hx'
 . intro k e1 e2;have hx':=kd.2.1 k e1 e2;unfold Sg.ren;split
   . rename_i k' hr;rcases J10 c4 k _ hr with e|e
     . cases e;exact hx'
     . exact(e2 e).elim
   . rename_i hr;rcases J10 c4 k _ hr with e|e
     . cases e
     . exact(e2 e).elim
   . split
     . rfl
     . exact hx'
 . intro k hk;obtain⟨⟨q,b⟩,x1,x2⟩:=List.mem_map.1 hk;simp only at x2;subst x2;rcases J2m.mem r2 q b x1 with ⟨k',b',y1,y2,_⟩ | ⟨y1,_⟩
   . rcases J10 c4 q _ y1 with e|e
     . cases e;exact kd.2.2 q (List.mem_map.2 ⟨_,J0i y2,rfl⟩)
     . exact .inr e
   . rcases J10 c4 q _ y1 with e|e
     . cases e
     . exact .inr e
end Go.Eng
namespace Go.Eng
abbrev mv (d s:Nat):SI:=⟨some d,.p (.mv (.t s)),none⟩
abbrev fl (d o s:Nat):SI:=⟨some d,.p (.fld o (.t s)),none⟩
abbrev ld (d s:Nat):SI:=⟨some d,.load none (.t s),none⟩
abbrev nc (d s:Nat):SI:=⟨some d,.p (.nilchk (.t s)),none⟩
end Go.Eng
