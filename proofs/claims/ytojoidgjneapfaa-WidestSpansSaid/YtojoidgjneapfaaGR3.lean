import Derived.Test.YtojoidgjneapfaaEngT
import Derived.Test.YtojoidgjneapfaaGRCode
namespace Go.Proofs.Ytojoidgjneapfaa
open Go.Eng
set_option maxRecDepth 100000
set_option linter.unusedVariables false
structure G where
 ids:List Int
 ports:List (List (Int×Int))
def gI (l:List Int) (i:Nat):Int:=l.getD i 0
def gF (l:List (Int×Int)) (i:Nat):Int×Int:=l.getD i (0,0)
def gR (l:List (List (Int×Int))) (i:Nat):List (Int×Int):=l.getD i []
def vI (l:List Int):Nat->Nat->V:=fun i _=>.int .i64 (gI l i)
def vF (l:List (Int×Int)):Nat->Nat->V:=fun i j=>match j with
 | 0=>.int .i64 (gF l i).1
 | _+1=>.int .i64 (gF l i).2
def vP (p:List (List (Int×Int))):Nat->Nat->V:=fun i _=>.fz (gR p i).length 2 false (vF (gR p i))
def G.v (g:G):V:=.agg [.fz g.ids.length 1 false (vI g.ids),.fz g.ports.length 1 false (vP g.ports)]
def okID (i:Int):Bool:=decide (0<=i/\i<=255)
def okL (n v:Nat) (l:Int×Int):Bool:=decide (0<=l.1/\l.1<n/\l.1≠v/\1<=l.2/\l.2<=15)
def okR (n v:Nat) (r:List (Int×Int)):Bool:=r.all (okL n v)&&decide (r.map (·.1)).Nodup
def Q0H (p:List (List (Int×Int))) (v:Nat) (l:Int×Int):Bool:=decide (((v:Int),l.2)∈gR p l.1.toNat)
def J5R (l:List Int):Bool:=l.all okID&&decide l.Nodup
def J7S (p:List (List (Int×Int))):Bool:=decide (∀v,v<p.length->okR p.length v (gR p v)=true)
def J8w (p:List (List (Int×Int))):Bool:=decide (∀v,v<p.length->∀l,l∈gR p v->Q0H p v l=true)
def J1b (p:List (List (Int×Int))):Bool:=J7S p&&J8w p
def G.valid (g:G):Bool:=decide (1<=g.ids.length/\g.ids.length<=24/\g.ports.length=g.ids.length)&&(J5R g.ids&&J1b g.ports)
theorem J1I (l:List Int) (i:Nat) (h:i<l.length):l.take (i+1)=l.take i++[gI l i]:=by
 rw[List.take_succ_eq_append_getElem h];simp only[gI,List.getD,List.getElem?_eq_getElem h,Option.getD_some]
theorem J1k (l:List (Int×Int)) (i:Nat) (h:i<l.length):l.take (i+1)=l.take i++[gF l i]:=by
 rw[List.take_succ_eq_append_getElem h];simp only[gF,List.getD,List.getElem?_eq_getElem h,Option.getD_some]
theorem J5g {l:List Int} {i:Nat} (h:i<l.length):gI l i∈l:=by
 simp only[gI,List.getD,List.getElem?_eq_getElem h];exact List.getElem_mem h
theorem J02 {l:List (Int×Int)} {i:Nat} (h:i<l.length):gF l i∈l:=by
 simp only[gF,List.getD,List.getElem?_eq_getElem h];exact List.getElem_mem h
theorem Q4Y {l:List Int} {x:Int} (h:x∈l):∃i,i<l.length/\gI l i=x:=by
 obtain⟨i,hi,he⟩:=List.mem_iff_getElem.1 h;exact⟨i,hi,by simp only[gI,List.getD,List.getElem?_eq_getElem hi,Option.getD_some];exact he⟩
theorem J91 (a b c:Int):Ret Try.prog 66 [.int .i64 a,.int .i64 b,.int .i64 c] (.bool (decide (b<=a/\a<=c))):=by
 refine J0h rfl ?_;refine J0d mixed Try.func66 rfl hc66 hr66 rfl ?_
 repeat' ((conv=>whnf);first|(refine Br.dec ?_ ?_<;>intro _<;>try omega))
 all_goals (conv=>whnf)
 all_goals exact VLe.bool (by symm;first|(rw[decide_eq_true_eq];omega)|(rw[decide_eq_false_iff_not];omega))
def J8B (l:List Int):Nat->Nat->V:=fun j _=>.bool (decide ((j:Int)∈l))
theorem Q1f (l:List Int) (a:Int) (i j:Nat) (k:Nat) (ha:0<=a) (hk:k=a.toNat) (hj:j<1):VLe (J2b (J8B l) k 0 [.bool true] i j) (J8B (l++[a]) i j):=by
 apply VLe.of_eq;subst hk;have hj0:j=0:=by omega
 subst hj0;by_cases h:i=a.toNat
 . subst h;have e:((a.toNat:Nat):Int)=a:=by omega
   simp only[J2b,J8B,e];simp
 . have:¬ (i:Int)=a:=by omega
   simp[J2b,J8B,h,this]
theorem J1s (l:List Int):J5R l=true↔(∀a∈l,0<=a/\a<=255)/\l.Nodup:=by
 simp[J5R,okID]
theorem J7p {l:List Int} (i:Nat) (h:i<l.length) (hb:¬ (0<=gI l i/\gI l i<=255)\/gI l i∈l.take i):VLe (V.bool false) (V.bool (J5R l)):=by
 refine VLe.bool ?_;symm;rw[<- Bool.not_eq_true,J1s];rintro⟨h1,h2⟩;rcases hb with hb|hb
 . exact hb (h1 _ (J5g h))
 . have:=J1I l i h;have hn:(l.take (i+1)).Nodup:=h2.sublist (List.take_sublist _ _);rw[this,List.nodup_append] at hn;exact hn.2.2 _ hb _ (by simp) rfl
theorem Q3H (l:List Int) (hl:l.length<=1000000):Ret Try.prog 45 [.fz l.length 1 false (vI l)] (.bool (J5R l)):=by
 refine J0h rfl ?_;refine J0d mixed Try.func45 rfl hc45 hr45 rfl ?_
 repeat' ((conv=>whnf);first|fail)
 all_goals (conv=>whnf)
 refine J1H mixed [3,6,7] [] [1,2,3,4,5,6,7,8,9,10,11,12,13,14,15,16,17,18,19,20,21,22,23,24,25,26,27,28,29] [0] (fun i:Nat=>[(8,.int .i64 i)]) (fun i=>[(0,.vec 256 1 (J8B (l.take i)))])
  (fun n i=>n=l.length-i/\i<=l.length/\(∀a∈l.take i,0<=a/\a<=255)/\(l.take i).Nodup) l.length 0 ⟨rfl,Nat.zero_le _,by simp,by simp⟩ rfl (fun _=>rfl) ?_ ?_
 . refine J0g (fun _ _=>[(0,some 0)]) ?_ ?_ rfl
   . repeat' (first|exact tI|exact J0a.oel rfl rfl|(refine⟨⟨_,rfl,?_⟩,?_⟩)|exact J0a.kf rfl)
   . repeat' (first|exact VLe.of_eq (by simp[J8B])|exact tI|(refine⟨⟨_,rfl,?_⟩,?_⟩)|(refine⟨Nat.le_refl _,rfl,fun i j hi hj=>?_⟩))
 rintro n i ⟨hn,hi,hb,hd⟩
 repeat' ((conv=>whnf);first|(refine Br.dec ?_ ?_<;>intro _<;>try omega)|(refine Ar.q ?_)|(refine Ix.q ?_)|(refine Ix.int (by omega) (by omega) ?_)|(refine Ltn.q ?_))
 all_goals (conv=>whnf)
 . exact J7p i (by omega) (.inl (by omega))
 . exact J7p i (by omega) (.inl (by omega))
 . exact J7p i (by omega) (.inr (by rename_i h;rwa[show(((gI l i).toNat:Nat):Int)=gI l i by omega] at h))
 . rename_i hni;rw[show(((gI l i).toNat:Nat):Int)=gI l i by omega] at hni;refine⟨l.length-(i+1),i+1,by omega,⟨rfl,by omega,?_,?_⟩,?_⟩
   . rw[J1I l i (by omega)];intro a ha;rcases List.mem_append.1 ha with h|h
     . exact hb a h
     . rw[List.mem_singleton.1 h];omega
   . rw[J1I l i (by omega),List.nodup_append];exact⟨hd,by simp,fun a ha b hb' e=>hni (by rw[List.mem_singleton.1 hb'] at e;rw[<- e];exact ha)⟩
   . simp only[J1I l i (by omega)];refine J0g (fun _ _=>[(0,some 0)]) ?_ ?_ rfl
     . repeat' (first|exact tI|exact J0a.oel rfl rfl|(refine⟨⟨_,rfl,?_⟩,?_⟩)|exact J0a.kf rfl)
     . repeat' (first|exact Q1f _ _ _ _ _ (by omega) rfl hj|exact tI|(refine⟨⟨_,rfl,?_⟩,?_⟩)|(refine⟨Nat.le_refl _,rfl,fun i j hi hj=>?_⟩))
 . rw[List.take_of_length_le (by omega)] at hb hd;exact VLe.bool ((J1s l).2 ⟨hb,hd⟩).symm
abbrev Ent:=(Int×Int)×V
def Q0b (u:Nat) (r:List (Int×Int)):List Ent:=r.map fun l=>(((u:Int),l.1),V.int .i64 l.2)
def J4Q (p:List (List (Int×Int))):Nat->List Ent
 | 0=>[]
 | v+1=>J4Q p v++Q0b v (gR p v)
theorem Q0a (u:Nat) (r:List (Int×Int)) (l:Int×Int):Q0b u (r++[l])=Q0b u r++[(((u:Int),l.1),V.int .i64 l.2)]:=by simp[Q0b]
theorem J3Y {u:Nat} {r:List (Int×Int)} {e:Ent}:e∈Q0b u r↔∃l∈r,e=(((u:Int),l.1),V.int .i64 l.2):=by
 simp only[Q0b,List.mem_map];exact⟨fun⟨l,h,e⟩=>⟨l,h,e.symm⟩,fun⟨l,h,e⟩=>⟨l,h,e.symm⟩⟩
theorem J1A {p:List (List (Int×Int))} {e:Ent}:∀{v:Nat},e∈J4Q p v↔∃u,u<v/\∃l∈gR p u,e=(((u:Int),l.1),V.int .i64 l.2)
 | 0=>by simp[J4Q]
 | v+1=>by
   simp only[J4Q,List.mem_append,J1A (v:=v),J3Y];constructor
   . rintro (⟨u,h,x⟩|x)
     . exact⟨u,by omega,x⟩
     . exact⟨v,by omega,x⟩
   . rintro⟨u,h,x⟩;by_cases hu:u=v
     . subst hu;exact .inr x
     . exact .inl ⟨u,by omega,x⟩
theorem J2a:∀{es:List Ent} {p:Int×Int} {x:V},J1z es p=some x->(p,x)∈es
 | [],_,_,h=>by simp[J1z] at h
 | (q,u)::r,p,x,h=>by
   simp only[J1z] at h;split at h
   . rename_i e;cases h;subst e;simp
   . exact List.mem_cons_of_mem _ (J2a h)
theorem J3w:∀{es:List Ent} {p:Int×Int},J1z es p=none->∀x,(p,x)∉es
 | [],_,_,_=>by simp
 | (q,u)::r,p,h,x=>by
   simp only[J1z] at h;split at h
   . cases h
   . rename_i e;intro hm;rcases List.mem_cons.1 hm with e'|e'
     . cases e';exact e rfl
     . exact J3w h x e'
theorem J6E:∀{es:List Ent} {p:Int×Int} {y:V},J1z es p=none->mput es p y=es++[(p,y)]
 | [],_,_,_=>rfl
 | (q,u)::r,p,y,h=>by
   simp only[J1z] at h;split at h
   . cases h
   . rename_i e;simp only[mput,if_neg e,List.cons_append,J6E h]
def Q5l (es:List Ent):Prop:=∀e∈es,∃w:Int,e.2=V.int .i64 w
theorem J4y (p:List (List (Int×Int))) (v:Nat):Q5l (J4Q p v):=fun e he=>by
 obtain⟨u,_,l,_,rfl⟩:=J1A.1 he;exact⟨_,rfl⟩
theorem J9X (p:List (List (Int×Int))) (v:Nat) (r:List (Int×Int)):Q5l (J4Q p v++Q0b v r):=fun e he=>by
 rcases List.mem_append.1 he with he|he
 . exact J4y p v e he
 . obtain⟨l,_,rfl⟩:=J3Y.1 he;exact⟨_,rfl⟩
theorem J6G {es:List Ent} {p:Int×Int} {A:V->Prop} {B:Prop} (hi:Q5l es) (h1:∀w:Int,J1z es p=some (.int .i64 w)->A (.int .i64 w)) (h2:J1z es p=none->B):Q4e (J1z es p) A B :=
 ⟨fun v hv=>by
   obtain⟨w,hw⟩:=hi _ (J2a hv);simp only at hw;subst hw;exact h1 w hv,h2⟩
theorem J8H {n:Nat} {J1h:List Nat} {es:List Ent} {A:Nat->Ent->Prop} {B:Prop} (hi:Q5l es) (h1:∀i (a b w:Int),i<n->i∉J1h->es[i]?=some ((a,b),V.int .i64 w)->A i ((a,b),V.int .i64 w)) (h2:(∀i,i<n->i∈J1h)->B):Q5e n J1h es A B :=
 ⟨fun i p h3 h4 h5=>by
   obtain⟨⟨a,b⟩,x⟩:=p;obtain⟨w,hw⟩:=hi _ (List.mem_of_getElem? h5);simp only at hw;subst hw;exact h1 i a b w h3 h4 h5,h2⟩
theorem J0s {n v:Nat} {r:List (Int×Int)}:okR n v r=true↔(∀l∈r,0<=l.1/\l.1<n/\l.1≠v/\1<=l.2/\l.2<=15)/\(r.map (·.1)).Nodup:=by
 simp only[okR,okL,Bool.and_eq_true,List.all_eq_true,decide_eq_true_eq]
theorem J18 {p:List (List (Int×Int))}:J7S p=true↔∀v,v<p.length->okR p.length v (gR p v)=true:=by simp[J7S]
theorem J6j {p:List (List (Int×Int))}:J8w p=true↔∀v,v<p.length->∀l∈gR p v,((v:Int),l.2)∈gR p l.1.toNat:=by
 simp only[J8w,Q0H,decide_eq_true_eq]
theorem J8a {r:List (Int×Int)} (h:(r.map (·.1)).Nodup) {a b:Int×Int} (ha:a∈r) (hb:b∈r) (e:a.1=b.1):a=b:=by
 induction r with
 | nil=>simp at ha
 | cons x r ih =>
   simp only[List.map_cons,List.nodup_cons] at h;rcases List.mem_cons.1 ha with ea|ha
   . rcases List.mem_cons.1 hb with eb|hb
     . rw[ea,eb]
     . exact(h.1 (List.mem_map.2 ⟨b,hb,by rw[<- e,ea]⟩)).elim
   . rcases List.mem_cons.1 hb with eb|hb
     . exact(h.1 (List.mem_map.2 ⟨a,ha,by rw[e,eb]⟩)).elim
     . exact ih h.2 ha hb
theorem Q08 {p:List (List (Int×Int))} (hr:∀v,v<p.length->okR p.length v (gR p v)=true) :
 J8w p=true↔∀e∈J4Q p p.length,J1z (J4Q p p.length) (e.1.2,e.1.1)=some e.2:=by
 rw[J6j];constructor
 . intro h e he;obtain⟨u,hu,l,hl,rfl⟩:=J1A.1 he;obtain⟨hL,_⟩:=J0s.1 (hr u hu);have hb:=hL l hl;have hm:=h u hu l hl;have hto:l.1.toNat<p.length:=by omega
   have e1:((l.1.toNat:Nat):Int)=l.1:=by omega
   simp only;cases hf:J1z (J4Q p p.length) (l.1,(u:Int)) with
   | none=>exact(J3w hf _ (J1A.2 ⟨l.1.toNat,hto,_,hm,by rw[e1]⟩)).elim
   | some x =>
     obtain⟨u',hu',l',hl',he'⟩:=J1A.1 (J2a hf);simp only[Prod.mk.injEq] at he';obtain⟨⟨a1,a2⟩,a3⟩:=he';have:u'=l.1.toNat:=by omega
     subst this;have:=J8a (J0s.1 (hr _ hu')).2 hm hl' a2;rw[a3,<- this]
 . intro h v hv l hl;have:=h _ (J1A.2 ⟨v,hv,l,hl,rfl⟩);simp only at this;obtain⟨u',hu',l',hl',he'⟩:=J1A.1 (J2a this);simp only[Prod.mk.injEq,V.int.injEq,true_and] at he';obtain⟨⟨a1,a2⟩,a3⟩:=he';have:l.1.toNat=u':=by omega
   rw[this];have:((v:Int),l.2)=l':=Prod.ext a2 a3;rw[this];exact hl'
theorem J19 {p:List (List (Int×Int))} (v:Nat) (hv:v<p.length) (h:okR p.length v (gR p v)=false):VLe (V.bool false) (V.bool (J1b p)):=by
 refine VLe.bool ?_;symm;rw[J1b,Bool.and_eq_false_iff];left;rw[<- Bool.not_eq_true,J18];intro hh;rw[hh v hv] at h;cases h
theorem J3r {n v:Nat} {r:List (Int×Int)} (j:Nat) (hj:j<r.length) (h:¬ (0<=(gF r j).1/\(gF r j).1<n/\(gF r j).1≠v/\1<=(gF r j).2/\(gF r j).2<=15)):okR n v r=false:=by
 rw[<- Bool.not_eq_true,J0s];exact fun hh=>h (hh.1 _ (J02 hj))
theorem J6w {n v:Nat} {r:List (Int×Int)} (j:Nat) (hj:j<r.length) (h:(gF r j).1∈(r.take j).map (·.1)):okR n v r=false:=by
 rw[<- Bool.not_eq_true,J0s];rintro⟨_,hn⟩;have:=(hn.sublist ((List.take_sublist (j+1) r).map _));rw[J1k r j hj,List.map_append,List.nodup_append] at this;exact this.2.2 _ h _ (by simp) rfl
theorem J4A {p:List (List (Int×Int))} {k:Nat} (h:∀r∈p,r.length<=k) (v:Nat):(gR p v).length<=k:=by
 simp only[gR,List.getD];cases hv:p[v]? with
 | none=>simp
 | some r=>exact h r (List.mem_of_getElem? hv)
theorem Q2B {n:Nat} {l:List Nat} (hn:l.Nodup) (hb:∀i∈l,i<n):l.length<=n:=by
 induction n generalizing l with
 | zero =>
   cases l with
   | nil=>simp
   | cons a l=>have:=hb a (by simp);omega
 | succ n ih =>
   have h1:=ih (l:=l.erase n) (hn.erase _) (fun i hi=>by
    have h2:=hb i (List.mem_of_mem_erase hi);have h3:i≠n:=fun e=>by subst e;exact(hn.not_mem_erase) hi
    omega)
   rw[List.length_erase] at h1;split at h1<;>omega
set_option maxHeartbeats 4000000 in
theorem Q4u (p:List (List (Int×Int))) (hp:p.length<=24) (hr:∀r∈p,r.length<=9223372036854775807):Ret Try.prog 46 [.fz p.length 1 false (vP p)] (.bool (J1b p)):=by
 refine J0h rfl ?_;refine J0d mixed Try.func46 rfl hc46 hr46 rfl ?_
 repeat' ((conv=>whnf);first|fail)
 all_goals (conv=>whnf)
 refine J1H mixed [0,3,14,15] [] [1,2,3,4,5,6,7,8,9,10,11,12,13,14,15,16,17,18,19,20,21,22,23,24,25,26,27,28,29] [0] (fun i:Nat=>[(16,.int .i64 i)]) (fun i=>[(0,.map (.pair .i64) (J4Q p i))])
  (fun n i=>n=p.length-i/\i<=p.length/\∀v,v<i->okR p.length v (gR p v)=true) p.length 0 ⟨rfl,Nat.zero_le _,fun v h=>by omega⟩ rfl (fun _=>rfl) ?_ ?_
 . exact J0e (fun _ _=>[(0,some 0)])
 rintro n v ⟨hn,hv,hrow⟩;have hrl:=J4A hr v
 repeat' ((conv=>whnf);first|(refine Br.dec ?_ ?_<;>intro _<;>try omega)|(refine Ix.q ?_))
 all_goals (conv=>whnf)
 . refine J1H mixed [0,3,4,14,15,16,21,22] [] [1,2,3,4,5,6,7,8,9,10,11,12,13,14,15,16,17,18,19,20,21,22,23,24,25,26,27,28,29] [0] (fun j:Nat=>[(23,.int .i64 j)]) (fun j=>[(0,.map (.pair .i64) (J4Q p v++Q0b v ((gR p v).take j)))])
    (fun n j=>n=(gR p v).length-j/\j<=(gR p v).length/\okR p.length v ((gR p v).take j)=true) (gR p v).length 0 ⟨rfl,Nat.zero_le _,by simp[okR]⟩ rfl (fun _=>rfl) ?_ ?_
   . refine J0g (fun _ _=>[(0,some 0)]) ?_ ?_ rfl
     . repeat' (first|exact tI|exact J0a.map rfl|(refine⟨⟨_,rfl,?_⟩,?_⟩)|exact J0a.kf rfl)
     . repeat' (first|exact⟨rfl,by simp[Q0b]⟩|exact tI|(refine⟨⟨_,rfl,?_⟩,?_⟩))
   rintro n j ⟨hn,hj,hok⟩
   repeat' ((conv=>whnf);first|(refine Br.dec ?_ ?_<;>intro _<;>try omega)|(refine Ar.q ?_)|(refine Ix.q ?_)|(refine J6G (J9X _ _ _) (fun w hw=>?_) (fun hw=>?_)))
   all_goals (conv=>whnf)
   . exact J19 v (by omega) (J3r j (by omega) (by omega))
   . exact J19 v (by omega) (J3r j (by omega) (by omega))
   . exact J19 v (by omega) (J3r j (by omega) (by omega))
   . exact J19 v (by omega) (J3r j (by omega) (by omega))
   . exact J19 v (by omega) (J3r j (by omega) (by omega))
   . refine J19 v (by omega) (J6w j (by omega) ?_);rcases List.mem_append.1 (J2a hw) with h|h
     . obtain⟨u,hu,l,_,he⟩:=J1A.1 h;simp only[Prod.mk.injEq] at he;omega
     . obtain⟨l,hl,he⟩:=J3Y.1 h;simp only[Prod.mk.injEq] at he;exact List.mem_map.2 ⟨l,hl,he.1.2.symm⟩
   . have hnin:(gF (gR p v) j).1∉((gR p v).take j).map (·.1):=fun h=>by
      obtain⟨l,hl,he⟩:=List.mem_map.1 h;refine J3w hw (.int .i64 l.2) (List.mem_append_right _ (J3Y.2 ⟨l,hl,?_⟩));rw[he]
     refine⟨(gR p v).length-(j+1),j+1,by omega,⟨rfl,by omega,?_⟩,?_⟩
     . rw[J0s] at hok ⊢;rw[J1k _ j (by omega)];refine⟨fun l hl=>?_,?_⟩
       . rcases List.mem_append.1 hl with h|h
         . exact hok.1 l h
         . rw[List.mem_singleton.1 h];omega
       . rw[List.map_append,List.nodup_append];refine⟨hok.2,by simp,fun a ha b hb e=>hnin ?_⟩;simp only[List.map_cons,List.map_nil,List.mem_singleton] at hb;rw[<- hb,<- e];exact ha
     . have e1:J4Q p v++Q0b v ((gR p v).take (j+1))=mput (J4Q p v++Q0b v ((gR p v).take j)) ((v:Int),(gF (gR p v) j).1) (.int .i64 (gF (gR p v) j).2):=by
        rw[J6E hw,J1k _ j (by omega),Q0a,List.append_assoc]
       simp only[e1];exact J0e (fun _ _=>[(0,some 0)])
   . have hfull:(gR p v).take j=gR p v:=List.take_of_length_le (by omega);rw[hfull] at hok;refine⟨p.length-(v+1),v+1,by omega,⟨rfl,by omega,fun u hu=>?_⟩,?_⟩
     . by_cases e:u=v
       . subst e;exact hok
       . exact hrow u (by omega)
     . refine J0g (fun _ _=>[(0,some 0)]) ?_ ?_ rfl
       . repeat' (first|exact tI|exact J0a.map rfl|(refine⟨⟨_,rfl,?_⟩,?_⟩)|exact J0a.kf rfl)
       . repeat' (first|exact⟨rfl,by rw[hfull];rfl⟩|exact tI|(refine⟨⟨_,rfl,?_⟩,?_⟩))
 . have hvp:v=p.length:=by omega
   subst hvp;have hse:=Q08 hrow;have hro:J7S p=true:=J18.2 hrow;refine J1H mixed [3,69] [] [2,3,4,5,6,7,8,9,10,11,12,13,14,15,16,17,18,19,20,21,22,23,24,25,26,27,28,29] [1,0] (fun _:List Nat=>[]) (fun ix=>[(1,.iter 0 (J4Q p p.length).length ix),(0,.map (.pair .i64) (J4Q p p.length))])
    (fun n ix=>n=(J4Q p p.length).length-ix.length/\ix.Nodup/\(∀i∈ix,i<(J4Q p p.length).length)/\∀i∈ix,∀e,(J4Q p p.length)[i]?=some e->J1z (J4Q p p.length) (e.1.2,e.1.1)=some e.2)
    (J4Q p p.length).length [] ⟨rfl,by simp,by simp,by simp⟩ rfl (fun _=>rfl) ?_ ?_
   . exact J0e (fun _ _=>[(1,some 1),(0,some 0)])
   rintro n ix ⟨hn',hnd,hlt,hix⟩
   repeat' ((conv=>whnf);first|(refine Br.bne ?_ ?_<;>intro _<;>try omega)|(refine Ix.mk 0 rfl (by omega) ?_)|(refine Ix.mk 1 rfl (by omega) ?_)|(refine Chk.mk (Nat.beq_refl _) ?_)|(refine J8H (J4y _ _) (fun i a b w hi hni he=>?_) (fun hall=>?_))|(refine⟨_,List.getLast?_concat,_,‹_›,?_⟩)|(refine J6G (J4y _ _) (fun w' hw=>?_) (fun hw=>?_)))
   all_goals (conv=>whnf)
   . refine VLe.bool ?_;symm;rw[J1b,Bool.and_eq_false_iff];right;rw[<- Bool.not_eq_true,hse];intro hh;have:=hh _ (List.mem_of_getElem? he);rw[hw] at this;simp at this;contradiction
   . rename_i hww;refine⟨(J4Q p p.length).length-(ix++[i]).length,ix++[i],?_,⟨rfl,?_,?_,?_⟩,?_⟩
     . have h1:(ix++[i]).Nodup:=List.nodup_append.2 ⟨hnd,by simp,fun a ha b hb e=>hni (by rw[List.mem_singleton.1 hb] at e;rw[<- e];exact ha)⟩;have:=Q2B h1 (n:=(J4Q p p.length).length) (fun k hk=>by
        rcases List.mem_append.1 hk with h|h
        . exact hlt k h
        . rw[List.mem_singleton.1 h];exact hi)
       simp at this ⊢;omega
     . exact List.nodup_append.2 ⟨hnd,by simp,fun a ha b hb e=>hni (by rw[List.mem_singleton.1 hb] at e;rw[<- e];exact ha)⟩
     . intro k hk;rcases List.mem_append.1 hk with h|h
       . exact hlt k h
       . rw[List.mem_singleton.1 h];exact hi
     . intro k hk e hke;rcases List.mem_append.1 hk with h|h
       . exact hix k h e hke
       . rw[List.mem_singleton.1 h,he] at hke;cases hke;rw[hw,hww]
     . exact J0e (fun _ _=>[(1,some 1),(0,some 0)])
   . refine VLe.bool ?_;symm;rw[J1b,Bool.and_eq_false_iff];right;rw[<- Bool.not_eq_true,hse];intro hh;have:=hh _ (List.mem_of_getElem? he);rw[hw] at this;cases this
   . exfalso;obtain⟨u,hu,l,hl,he'⟩:=J1A.1 (List.mem_of_getElem? he);have:=(J0s.1 (hrow u hu)).1 l hl;simp only[Prod.mk.injEq,V.int.injEq,true_and] at he';omega
   . refine VLe.bool ?_;symm;rw[J1b,Bool.and_eq_true];refine⟨hro,hse.2 fun e he=>?_⟩;obtain⟨k,hk,hke⟩:=List.mem_iff_getElem.1 he;exact hix k (hall k hk) e (by rw[<- hke];simp[hk])
structure G.Small (g:G):Prop where
 ids:g.ids.length<=9223372036854775807
 ports:g.ports.length<=9223372036854775807
 rows:∀r∈g.ports,r.length<=9223372036854775807
theorem Q00 (g:G) (hs:g.Small):Ret Try.prog 30 [g.v] (.bool g.valid):=by
 refine J0h rfl ?_;refine J0d mixed Try.func30 rfl hc30 hr30 rfl ?_;have s1:=hs.ids;have s2:=hs.ports;by_cases h:1<=g.ids.length/\g.ids.length<=24/\g.ports.length=g.ids.length
 . rw[G.valid,decide_eq_true h,Bool.true_and];have h1:=Q3H g.ids (by omega);have h2:=Q4u g.ports (by omega) hs.rows;revert h1 h2;generalize J5R g.ids=b1;generalize J1b g.ports=b2;intro h1 h2;cases b1<;>cases b2 <;>
   repeat' ((conv=>whnf);first|(refine Br.tt ?_)|(refine Br.ff ?_)|(refine Br.dec ?_ ?_<;>intro _<;>try omega)|(refine Br.bne ?_ ?_<;>intro _<;>try omega)|(refine(h1 _ _).mono ?_;rintro _ _ _ ⟨rfl,rfl,rfl⟩)|(refine(h2 _ _).mono ?_;rintro _ _ _ ⟨rfl,rfl,rfl⟩))
   all_goals (conv=>whnf)
   all_goals exact VLe.rfl
 . rw[G.valid,decide_eq_false h,Bool.false_and]
   repeat' ((conv=>whnf);first|(refine Br.dec ?_ ?_<;>intro _<;>try omega)|(refine Br.bne ?_ ?_<;>intro _<;>try omega))
   all_goals (conv=>whnf)
   all_goals exact VLe.rfl
theorem Q1w {n v:Nat} {r:List (Int×Int)} {i:Nat} (hi:i<r.length) (h:okR n v (r.take i)=true) (hl:0<=(gF r i).1/\(gF r i).1<n/\(gF r i).1≠v/\1<=(gF r i).2/\(gF r i).2<=15) (hn:(gF r i).1∉(r.take i).map (·.1)):okR n v (r.take (i+1))=true:=by
 rw[J0s] at h ⊢;rw[J1k _ i hi];refine⟨fun l hl'=>?_,?_⟩
 . rcases List.mem_append.1 hl' with h'|h'
   . exact h.1 l h'
   . rw[List.mem_singleton.1 h'];exact hl
 . rw[List.map_append,List.nodup_append];refine⟨h.2,by simp,fun a ha b hb e=>hn ?_⟩;simp only[List.map_cons,List.map_nil,List.mem_singleton] at hb;rw[<- hb,<- e];exact ha
theorem Q1E (r:List (Int×Int)) (v n:Nat) (hv:v<=1000) (hn:n<=1000) (hr:r.length<=9223372036854775807):Ret Try.prog 73 [.fz r.length 2 false (vF r),.int .i64 v,.int .i64 n] (.bool (okR n v r)):=by
 refine J0h rfl ?_;refine J0d mixed Try.func73 rfl hc73 hr73 rfl ?_
 repeat' ((conv=>whnf);first|fail)
 all_goals (conv=>whnf)
 refine J1r mixed [0,1,2] (fun i:Nat=>[(7,.int .i64 i)]) (fun m i=>m=r.length-i/\i<=r.length/\okR n v (r.take i)=true) r.length 0 ⟨rfl,Nat.zero_le _,by simp[okR]⟩ ?_ ?_
 . exact J0e (fun _ _=>[])
 rintro m i ⟨hm,hi,hok⟩
 repeat' ((conv=>whnf);first|(refine Br.dec ?_ ?_<;>intro _<;>try omega)|(refine Ar.q ?_)|(refine Ix.q ?_)|(refine(J91 _ _ _ _ _).mono ?_;rintro _ _ _ ⟨rfl,rfl,rfl⟩))
 all_goals (conv=>whnf)
 all_goals try exact VLe.bool (J3r i (by omega) (by omega)).symm
 . refine J1r mixed [0,1,2,7] (fun k:Nat=>[(8,.int .i64 k)]) (fun m k=>m=i-k/\k<=i/\(gF r i).1∉(r.take k).map (·.1)) i 0 ⟨rfl,Nat.zero_le _,by simp⟩ ?_ ?_
   . exact J0e (fun _ _=>[])
   rintro m k ⟨hm,hk,hnin⟩
   repeat' ((conv=>whnf);first|(refine Br.dec ?_ ?_<;>intro _<;>try omega)|(refine Ar.q ?_)|(refine Ix.q ?_))
   all_goals (conv=>whnf)
   . rename_i he;refine VLe.bool (J6w i (by omega) ?_).symm;rw[<- he];refine List.mem_map.2 ⟨gF r k,?_,rfl⟩;have:=List.take_sublist_take_left (l:=r) (show k+1<=i by omega);exact this.subset (by rw[J1k r k (by omega)];simp)
   . rename_i he;refine⟨i-(k+1),k+1,by omega,⟨rfl,by omega,?_⟩,?_⟩
     . rw[J1k r k (by omega),List.map_append,List.mem_append,not_or];exact⟨hnin,by simp;exact fun e=>he e.symm⟩
     . exact J0e (fun _ _=>[])
   . have hki:k=i:=by omega
     subst hki;refine⟨r.length-(k+1),k+1,by omega,⟨rfl,by omega,Q1w (by omega) hok (by omega) hnin⟩,?_⟩;exact J0e (fun _ _=>[])
 . rw[List.take_of_length_le (by omega)] at hok;rw[hok];exact VLe.rfl
def J4l (r:List (Int×Int)) (u:Int):Int:=match r.findIdx? (fun l=>decide (l.1=u)) with
 | some k=>k
 | none=>-1
theorem J8F {r:List (Int×Int)} {u:Int} {i:Nat} (hi:i<r.length) (h:∀l∈r.take i,l.1≠u) (he:(gF r i).1=u):J4l r u=i:=by
 have:r.findIdx? (fun l=>decide (l.1=u))=some i:=by
  rw[List.findIdx?_eq_some_iff_getElem];refine⟨hi,?_,fun j hj=>?_⟩
  . have:gF r i=r[i]:=by simp only[gF,List.getD,List.getElem?_eq_getElem hi,Option.getD_some]
    rw[<- this];simpa using he
  . have:=h r[j] (by rw[List.mem_take_iff_getElem];exact⟨j,by omega,rfl⟩);simpa using this
 simp only[J4l,this]
theorem J8G {r:List (Int×Int)} {u:Int} (h:∀l∈r,l.1≠u):J4l r u=-1:=by
 have:r.findIdx? (fun l=>decide (l.1=u))=none:=by
  rw[List.findIdx?_eq_none_iff];intro x hx;simpa using h x hx
 simp only[J4l,this]
theorem J4k (r:List (Int×Int)) (u:Int):(J4l r u=-1/\∀l∈r,l.1≠u)\/∃i,i<r.length/\J4l r u=(i:Int)/\(gF r i).1=u:=by
 unfold J4l;cases h:r.findIdx? (fun l=>decide (l.1=u)) with
 | none =>
   rw[List.findIdx?_eq_none_iff] at h;exact .inl ⟨rfl,fun l hl=>by simpa using h l hl⟩
 | some i =>
   rw[List.findIdx?_eq_some_iff_getElem] at h;obtain⟨hi,h1,_⟩:=h;refine .inr ⟨i,hi,rfl,?_⟩;simp only[gF,List.getD,List.getElem?_eq_getElem hi,Option.getD_some];simpa using h1
theorem J9z (g:G) (hs:g.Small) (v:Nat) (u:Int) (hv:v<g.ports.length):Ret Try.prog 21 [g.v,.int .i64 v,.int .i64 u] (.int .i64 (J4l (gR g.ports v) u)):=by
 have hrl:=J4A hs.rows v;refine J0h rfl ?_;refine J0d mixed Try.func21 rfl hc21 hr21 rfl ?_
 repeat' ((conv=>whnf);first|fail)
 all_goals (conv=>whnf)
 refine J1r mixed [1,2,3] (fun i:Nat=>[(7,.int .i64 i)]) (fun m i=>m=(gR g.ports v).length-i/\i<=(gR g.ports v).length/\∀l∈(gR g.ports v).take i,l.1≠u) (gR g.ports v).length 0 ⟨rfl,Nat.zero_le _,by simp⟩ ?_ ?_
 . exact J0e (fun _ _=>[(0,some 0)])
 rintro m i ⟨hm,hi,hall⟩
 repeat' ((conv=>whnf);first|(refine Br.dec ?_ ?_<;>intro _<;>try omega)|(refine Ar.q ?_)|(refine Ix.q ?_))
 all_goals (conv=>whnf)
 . rw[J8F (by omega) hall ‹_›];exact VLe.rfl
 . rename_i hne;refine⟨(gR g.ports v).length-(i+1),i+1,by omega,⟨rfl,by omega,fun l hl=>?_⟩,?_⟩
   . rw[J1k _ i (by omega)] at hl;rcases List.mem_append.1 hl with h|h
     . exact hall l h
     . rw[List.mem_singleton.1 h];exact hne
   . exact J0e (fun _ _=>[(0,some 0)])
 . rw[List.take_of_length_le (by omega)] at hall;rw[J8G hall];exact VLe.rfl
theorem J9B {n v:Nat} {r:List (Int×Int)} (hv:v<n) (h:okR n v r=true):r.length<n:=by
 obtain⟨h1,h2⟩:=J0s.1 h;have hnd:(v::(r.map fun l=>l.1.toNat)).Nodup:=by
  refine List.nodup_cons.2 ⟨fun hm=>?_,?_⟩
  . obtain⟨l,hl,e⟩:=List.mem_map.1 hm;have:=h1 l hl;omega
  . have:∀(q:List (Int×Int)),(∀l∈q,0<=l.1)->(q.map (·.1)).Nodup->(q.map fun l=>l.1.toNat).Nodup:=by
     intro q
     induction q with
     | nil=>intro _ _;simp
     | cons x q ih =>
       intro hq hn;simp only[List.map_cons,List.nodup_cons] at hn ⊢;refine⟨fun hm=>?_,ih (fun l hl=>hq l (by simp[hl])) hn.2⟩;obtain⟨l,hl,e⟩:=List.mem_map.1 hm;refine hn.1 (List.mem_map.2 ⟨l,hl,?_⟩);have a:=hq l (by simp[hl]);have b:=hq x (by simp);omega
    exact this r (fun l hl=>(h1 l hl).1) h2
 have:=Q2B hnd (n:=n) (fun i hi=>by
  rcases List.mem_cons.1 hi with e|e
  . omega
  . obtain⟨l,hl,rfl⟩:=List.mem_map.1 e;have:=h1 l hl;omega)
 simp at this;omega
theorem Q07 {p:List (List (Int×Int))} (hr:∀v,v<p.length->okR p.length v (gR p v)=true) {v:Nat} {l:Int×Int} (hv:v<p.length) (hl:l∈gR p v) :
 (Q0H p v l=true/\∃i,i<(gR p l.1.toNat).length/\J4l (gR p l.1.toNat) v=(i:Int)/\(gF (gR p l.1.toNat) i).2=l.2) \/
 (Q0H p v l=false/\(J4l (gR p l.1.toNat) v=-1\/∃i,i<(gR p l.1.toNat).length/\J4l (gR p l.1.toNat) v=(i:Int)/\(gF (gR p l.1.toNat) i).2≠l.2)):=by
 have hb:=(J0s.1 (hr v hv)).1 l hl;have hto:l.1.toNat<p.length:=by omega
 have hnd:=(J0s.1 (hr _ hto)).2;rcases J4k (gR p l.1.toNat) v with ⟨h1,h2⟩ | ⟨i,h1,h2,h3⟩
 . right;refine⟨?_,.inl h1⟩;rw[<- Bool.not_eq_true,Q0H,decide_eq_true_eq];exact fun hm=>h2 _ hm rfl
 . by_cases hw:(gF (gR p l.1.toNat) i).2=l.2
   . left;refine⟨?_,i,h1,h2,hw⟩;rw[Q0H,decide_eq_true_eq];have:=J02 h1
     rwa[show gF (gR p l.1.toNat) i=((v:Int),l.2) from Prod.ext h3 hw] at this
   . right;refine⟨?_,.inr ⟨i,h1,h2,hw⟩⟩;rw[<- Bool.not_eq_true,Q0H,decide_eq_true_eq];intro hm;have:=J8a hnd hm (J02 h1) h3.symm;exact hw (by rw[<- this])
theorem J88 {g:G} (h:J5R g.ids=false):VLe (V.bool false) (V.bool g.valid):=by
 rw[G.valid,h];simp;exact .rfl
theorem J87 {g:G} (v:Nat) (hv:v<g.ports.length) (h:okR g.ports.length v (gR g.ports v)=false):VLe (V.bool false) (V.bool g.valid):=by
 have:J1b g.ports=false:=by
  rw[J1b,Bool.and_eq_false_iff];left;rw[<- Bool.not_eq_true,J18];intro hh;rw[hh v hv] at h;cases h
 rw[G.valid,this];simp;exact .rfl
theorem J86 {g:G} (v:Nat) (hv:v<g.ports.length) (l:Int×Int) (hl:l∈gR g.ports v) (h:Q0H g.ports v l=false):VLe (V.bool false) (V.bool g.valid):=by
 have:J1b g.ports=false:=by
  rw[J1b,Bool.and_eq_false_iff];right;rw[<- Bool.not_eq_true,J8w,decide_eq_true_eq];intro hh;rw[hh v hv l hl] at h;cases h
 rw[G.valid,this];simp;exact .rfl
set_option maxHeartbeats 4000000 in
theorem J6s (g:G) (hs:g.Small):Ret Try.prog 65 [g.v] (.bool g.valid):=by
 have s1:=hs.ids;have s2:=hs.ports;refine J0h rfl ?_;refine J0d mixed Try.func65 rfl hc65 hr65 rfl ?_;by_cases h:1<=g.ids.length/\g.ids.length<=24/\g.ports.length=g.ids.length
 . repeat' ((conv=>whnf);first|(refine Br.dec ?_ ?_<;>intro _<;>try omega)|(refine Br.bne ?_ ?_<;>intro _<;>try omega)|(refine(J91 _ _ _ _ _).mono ?_;rintro _ _ _ ⟨rfl,rfl,rfl⟩))
   all_goals (conv=>whnf)
   refine J1r mixed [1,3] (fun i:Nat=>[(4,.int .i64 i)]) (fun m v=>m=g.ports.length-v/\v<=g.ports.length/\J5R (g.ids.take v)=true/\∀u,u<v->okR g.ports.length u (gR g.ports u)=true) g.ports.length 0 ⟨rfl,Nat.zero_le _,rfl,fun u hu=>by omega⟩ ?_ ?_
   . exact J0e (fun _ _=>[(0,some 0)])
   rintro m v ⟨hm,hv,hid,hrow⟩;have hrl:=J4A hs.rows v;have hlk:v<g.ports.length->Ret Try.prog 73 [.fz (gR g.ports v).length 2 false (vF (gR g.ports v)),.int .i64 v,.int .i64 g.ports.length] (.bool (okR g.ports.length v (gR g.ports v))):=fun h=>Q1E _ v _ (by omega) (by omega) hrl;rw[J1s] at hid
   repeat' ((conv=>whnf);first|(refine Br.dec ?_ ?_<;>intro _<;>try omega)|(refine Ix.q ?_)|(refine(J91 _ _ _ _ _).mono ?_;rintro _ _ _ ⟨rfl,rfl,rfl⟩)|(refine(hlk (by omega) _ _).mono ?_;rintro _ _ _ ⟨rfl,rfl,rfl⟩)|(refine Br.any (fun _=>?_) (fun _=>?_)))
   all_goals (conv=>whnf)
   . refine J87 v (by omega) ?_;rw[<- Bool.not_eq_true];intro hh;have:=J9B (by omega) hh;omega
   . refine J1r mixed [1,3,4] (fun u:Nat=>[(5,.int .i64 u)]) (fun m u=>m=v-u/\u<=v/\gI g.ids v∉g.ids.take u) v 0 ⟨rfl,Nat.zero_le _,by simp⟩ ?_ ?_
     . exact J0e (fun _ _=>[(0,some 0)])
     rintro m u ⟨hm,hu,hnin⟩
     repeat' ((conv=>whnf);first|(refine Br.dec ?_ ?_<;>intro _<;>try omega)|(refine Ar.q ?_)|(refine Ix.q ?_))
     all_goals (conv=>whnf)
     . rename_i he;refine J88 ?_;rw[<- Bool.not_eq_true,J1s];rintro⟨_,hn⟩;have hn:=hn.sublist (List.take_sublist (v+1) g.ids);rw[J1I g.ids v (by omega),List.nodup_append] at hn;refine hn.2.2 (gI g.ids v) ?_ _ (by simp) rfl;rw[<- he];have:=List.take_sublist_take_left (l:=g.ids) (show u+1<=v by omega);exact this.subset (by rw[J1I g.ids u (by omega)];simp)
     . rename_i he;refine⟨v-(u+1),u+1,by omega,⟨rfl,by omega,?_⟩,?_⟩
       . rw[J1I g.ids u (by omega),List.mem_append,not_or];exact⟨hnin,by simp;exact fun e=>he e.symm⟩
       . exact J0e (fun _ _=>[(0,some 0)])
     . have huv:u=v:=by omega
       subst huv;refine⟨g.ports.length-(u+1),u+1,by omega,⟨rfl,by omega,?_,fun w hw=>?_⟩,?_⟩
       . rw[J1s,J1I g.ids u (by omega)];refine⟨fun a ha=>?_,List.nodup_append.2 ⟨hid.2,by simp,fun a ha b hb e=>hnin (by rw[List.mem_singleton.1 hb] at e;rw[<- e];exact ha)⟩⟩;rcases List.mem_append.1 ha with h'|h'
         . exact hid.1 a h'
         . rw[List.mem_singleton.1 h'];assumption
       . by_cases e:w=u
         . subst e;assumption
         . exact hrow w (by omega)
       . exact J0e (fun _ _=>[(0,some 0)])
   . exact J87 v (by omega) ‹_›
   . refine J88 ?_;rw[<- Bool.not_eq_true,J1s];rintro⟨hh,_⟩;have:=hh (gI g.ids v) (J5g (by omega));contradiction
   . have hvn:v=g.ports.length:=by omega
     subst hvn;rw[List.take_of_length_le (by omega)] at hid;have hidk:J5R g.ids=true:=(J1s _).2 hid;refine J1r mixed [1,3] (fun i:Nat=>[(6,.int .i64 i)]) (fun m v=>m=g.ports.length-v/\v<=g.ports.length/\∀u,u<v->∀l∈gR g.ports u,Q0H g.ports u l=true) g.ports.length 0 ⟨rfl,Nat.zero_le _,fun u hu=>by omega⟩ ?_ ?_
     . exact J0e (fun _ _=>[(0,some 0)])
     rintro m v ⟨hm,hv,hsym⟩;have hrl:=J4A hs.rows v
     repeat' ((conv=>whnf);first|(refine Br.dec ?_ ?_<;>intro _<;>try omega))
     all_goals (conv=>whnf)
     . refine J1r mixed [1,3,6] (fun i:Nat=>[(7,.int .i64 i)]) (fun m i=>m=(gR g.ports v).length-i/\i<=(gR g.ports v).length/\∀l∈(gR g.ports v).take i,Q0H g.ports v l=true) (gR g.ports v).length 0 ⟨rfl,Nat.zero_le _,by simp⟩ ?_ ?_
       . exact J0e (fun _ _=>[(0,some 0)])
       rintro m i ⟨hm,hi,hsl⟩;by_cases hlt:i<(gR g.ports v).length
       . have hvp:v<g.ports.length:=by omega
         have hb:=(J0s.1 (hrow v hvp)).1 _ (J02 hlt);have hp:=J9z g hs (gF (gR g.ports v) i).1.toNat v (by omega);rw[show(((gF (gR g.ports v) i).1.toNat:Nat):Int)=(gF (gR g.ports v) i).1 by omega] at hp;have hrl2:=J4A hs.rows (gF (gR g.ports v) i).1.toNat;rcases Q07 hrow hvp (J02 hlt) with ⟨hsy,k,hk,hpk,hw⟩ | ⟨hsy,hpk | ⟨k,hk,hpk,hw⟩⟩
         . rw[hpk] at hp
           repeat' ((conv=>whnf);first|(refine Br.ff ?_)|(refine Br.dec ?_ ?_<;>intro _<;>try omega)|(refine Br.bne ?_ ?_<;>intro _<;>try omega)|(refine Ar.q ?_)|(refine Ix.q ?_)|(refine Ix.int (by omega) (by omega) ?_)|(refine(hp _ _).mono ?_;rintro _ _ _ ⟨rfl,rfl,rfl⟩))
           all_goals (conv=>whnf)
           all_goals first|(exfalso;omega)|skip
           refine⟨(gR g.ports v).length-(i+1),i+1,by omega,⟨rfl,by omega,fun l hl=>?_⟩,?_⟩
           . rw[J1k _ i hlt] at hl;rcases List.mem_append.1 hl with h'|h'
             . exact hsl l h'
             . rw[List.mem_singleton.1 h'];exact hsy
           . exact J0e (fun _ _=>[(0,some 0)])
         . rw[hpk] at hp
           repeat' ((conv=>whnf);first|(refine Br.tt ?_)|(refine Br.dec ?_ ?_<;>intro _<;>try omega)|(refine Ix.q ?_)|(refine(hp _ _).mono ?_;rintro _ _ _ ⟨rfl,rfl,rfl⟩))
           all_goals (conv=>whnf)
           all_goals first|exact J86 v hvp _ (J02 hlt) hsy|(exfalso;omega)
         . rw[hpk] at hp
           repeat' ((conv=>whnf);first|(refine Br.ff ?_)|(refine Br.dec ?_ ?_<;>intro _<;>try omega)|(refine Br.bne ?_ ?_<;>intro _<;>try omega)|(refine Ix.q ?_)|(refine Ix.int (by omega) (by omega) ?_)|(refine(hp _ _).mono ?_;rintro _ _ _ ⟨rfl,rfl,rfl⟩))
           all_goals (conv=>whnf)
           all_goals first|exact J86 v hvp _ (J02 hlt) hsy|(exfalso;omega)
       . repeat' ((conv=>whnf);first|(refine Br.dec ?_ ?_<;>intro _<;>try omega)|(refine Ar.q ?_)|(refine Ix.q ?_))
         all_goals (conv=>whnf)
         rw[List.take_of_length_le (by omega)] at hsl;refine⟨g.ports.length-(v+1),v+1,by omega,⟨rfl,by omega,fun u hu l hl=>?_⟩,?_⟩
         . by_cases e:u=v
           . subst e;exact hsl l hl
           . exact hsym u (by omega) l hl
         . exact J0e (fun _ _=>[(0,some 0)])
     . have hvn:v=g.ports.length:=by omega
       subst hvn;have h1:J1b g.ports=true:=by
        rw[J1b,Bool.and_eq_true];exact⟨J18.2 hrow,by rw[J8w,decide_eq_true_eq];exact hsym⟩
       rw[G.valid,decide_eq_true h,hidk,h1];exact VLe.rfl
 . rw[G.valid,decide_eq_false h,Bool.false_and]
   repeat' ((conv=>whnf);first|(refine Br.dec ?_ ?_<;>intro _<;>try omega)|(refine Br.bne ?_ ?_<;>intro _<;>try omega)|(refine(J91 _ _ _ _ _).mono ?_;rintro _ _ _ ⟨rfl,rfl,rfl⟩))
   all_goals (conv=>whnf)
   all_goals exact VLe.rfl
abbrev Cf:=List (List Int)
def gC (c:Cf) (i:Nat):List Int:=c.getD i []
def vC (c:Cf):Nat->Nat->V:=fun i _=>.fz (gC c i).length 1 false (vI (gC c i))
def cV (c:Cf):V:=.fz c.length 1 false (vC c)
structure J5t (c:Cf):Prop where
 len:c.length<=9223372036854775807
 rows:∀r∈c,r.length<=9223372036854775807
theorem Q4Z {c:Cf} (h:J5t c) (v:Nat):(gC c v).length<=9223372036854775807:=by
 simp only[gC,List.getD];cases hv:c[v]? with
 | none=>simp
 | some r=>exact h.rows r (List.mem_of_getElem? hv)
def Q2I (n m:Nat) (B:Nat->Nat->Int×Int) (c:Cf):Bool :=
 decide (c.length=n)&&decide (∀v,v<n->(gC c v).length=m/\∀x,x<m->(B v x).1<=gI (gC c v) x/\gI (gC c v) x<=(B v x).2)
theorem J2O {n m:Nat} {B:Nat->Nat->Int×Int} {c:Cf}:Q2I n m B c=true↔c.length=n/\∀v,v<n->(gC c v).length=m/\∀x,x<m->(B v x).1<=gI (gC c v) x/\gI (gC c v) x<=(B v x).2:=by
 simp only[Q2I,Bool.and_eq_true,decide_eq_true_eq]
theorem J7v {n m:Nat} {B:Nat->Nat->Int×Int} {c:Cf} (h:¬ (c.length=n/\∀v,v<n->(gC c v).length=m/\∀x,x<m->(B v x).1<=gI (gC c v) x/\gI (gC c v) x<=(B v x).2)):Q2I n m B c=false:=by
 rw[<- Bool.not_eq_true,J2O];exact h
def bG (g:G) (gs:List Int) (v x:Nat):Int×Int:=if gI gs x=-1 then (-1,((gR g.ports v).length:Int)-1) else (0,gI gs x)
set_option maxHeartbeats 4000000 in
theorem Q2k (g:G) (hs:g.Small) (hp:g.ports.length=g.ids.length) (c:Cf) (hc:J5t c) (gs:List Int) (hg:gs.length<=1000) :
 Ret Try.prog 44 [g.v,cV c,.fz gs.length 1 false (vI gs)] (.bool (Q2I g.ids.length gs.length (bG g gs) c)):=by
 have s1:=hs.ids;have s2:=hc.len;refine J0h rfl ?_;refine J0d mixed Try.func44 rfl hc44 hr44 rfl ?_
 repeat' ((conv=>whnf);first|(refine Br.bne ?_ ?_<;>intro _<;>try omega))
 all_goals (conv=>whnf)
 . exact VLe.bool (J7v (fun h=>by omega)).symm
 refine J1r mixed [2,3,19,20] (fun i:Nat=>[(21,.int .i64 i)]) (fun m v=>m=c.length-v/\v<=c.length/\∀u,u<v->(gC c u).length=gs.length/\∀x,x<gs.length->(bG g gs u x).1<=gI (gC c u) x/\gI (gC c u) x<=(bG g gs u x).2) c.length 0 ⟨rfl,Nat.zero_le _,fun u hu=>by omega⟩ ?_ ?_
 . exact J0e (fun _ _=>[(0,some 0)])
 rintro m v ⟨hm,hv,hall⟩;have hcl:=Q4Z hc v;have hrl:=J4A hs.rows v
 repeat' ((conv=>whnf);first|(refine Br.dec ?_ ?_<;>intro _<;>try omega)|(refine Br.bne ?_ ?_<;>intro _<;>try omega)|(refine Ix.q ?_))
 all_goals (conv=>whnf)
 . rename_i hne;exact VLe.bool (J7v (fun h=>hne (by have:=(h.2 v (by omega)).1;omega))).symm
 . refine J1r mixed [2,3,7,19,20,21,31,32] (fun i:Nat=>[(33,.int .i64 i)]) (fun m x=>m=gs.length-x/\x<=gs.length/\∀y,y<x->(bG g gs v y).1<=gI (gC c v) y/\gI (gC c v) y<=(bG g gs v y).2) gs.length 0 ⟨rfl,Nat.zero_le _,fun u hu=>by omega⟩ ?_ ?_
   . exact J0e (fun _ _=>[(0,some 0)])
   rintro m x ⟨hm,hx,hrow⟩;have hb:bG g gs v x=if gI gs x=-1 then (-1,((gR g.ports v).length:Int)-1) else (0,gI gs x):=rfl
   repeat' ((conv=>whnf);first|(refine Br.dec ?_ ?_<;>intro _<;>try omega)|(refine Ar.q ?_)|(refine Ix.q ?_)|(refine And.intro rfl ?_))
   all_goals (conv=>whnf)
   all_goals try (exfalso;omega)
   all_goals first
    | (refine VLe.bool (J7v (fun h=>?_)).symm;have:=(h.2 v (by omega)).2 x (by omega);rw[hb] at this;split at this<;>simp only at this<;>omega)
    | (refine⟨gs.length-(x+1),x+1,by omega,⟨rfl,by omega,fun y hy=>?_⟩,?_⟩
       . by_cases e:y=x
         . subst e;rw[hb];split<;>simp only<;>omega
         . exact hrow y (by omega)
       . exact J0e (fun _ _=>[(0,some 0)]))
    | (refine⟨c.length-(v+1),v+1,by omega,⟨rfl,by omega,fun u hu=>?_⟩,?_⟩
       . by_cases e:u=v
         . subst e;exact⟨by omega,fun y hy=>hrow y (by omega)⟩
         . exact hall u (by omega)
       . exact J0e (fun _ _=>[(0,some 0)]))
 . exact VLe.bool (J2O.2 ⟨by omega,fun u hu=>hall u (by omega)⟩).symm
structure Vr where
 name:ByteArray
 kind:Int
 lo:Int
 hi:Int
 pn:Int
 pid:Int
instance:Inhabited Vr:=⟨⟨ByteArray.mk #[],0,0,0,0,0⟩⟩
def gV (l:List Vr) (i:Nat):Vr:=l.getD i default
def Q0K:List Int->Int->Int
 | [],m=>m
 | a::r,m=>Q0K r (if a > m then a else m)
theorem J6I:∀(l:List Int) (a m:Int),Q0K (l++[a]) m=if a > Q0K l m then a else Q0K l m
 | [],a,m=>rfl
 | x::r,a,m=>J6I r a _
theorem J9H:∀(l:List Int) (m:Int),m<=Q0K l m
 | [],m=>Int.le_refl _
 | a::r,m=>Int.le_trans (by split<;>omega) (J9H r _)
theorem J0f {g:G} (h:g.valid=true):1<=g.ids.length/\g.ids.length<=24/\g.ports.length=g.ids.length/\(∀a∈g.ids,0<=a/\a<=255)/\g.ids.Nodup/\(∀v,v<g.ports.length->okR g.ports.length v (gR g.ports v)=true)/\∀v,v<g.ports.length->∀l∈gR g.ports v,((v:Int),l.2)∈gR g.ports l.1.toNat:=by
 simp only[G.valid,Bool.and_eq_true,decide_eq_true_eq,J1b] at h;obtain⟨⟨h1,h2,h3⟩,h4,h5,h6⟩:=h;have h4:=(J1s _).1 h4;exact⟨h1,h2,h3,h4.1,h4.2,J18.1 h5,J6j.1 h6⟩
end Go.Proofs.Ytojoidgjneapfaa
