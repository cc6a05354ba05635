import Derived.Test.YtefdkgkojlflaaaGreatDoorEngT
import Derived.Test.YtefdkgkojlflaaaGreatDoorGRCode
namespace Go.Proofs.YtefdkgkojlflaaaGreatDoor
open Go.Eng
set_option maxRecDepth 100000
set_option linter.unusedVariables false
structure G where
 ids:List Int
 ports:List (List (Int×Int))
def gI (l:List Int) (i:Nat):Int:=l.getD i 0
def gF (l:List (Int×Int)) (i:Nat):Int×Int:=l.getD i (0,0)
def gR (l:List (List (Int×Int))) (i:Nat):List (Int×Int):=l.getD i []
def vI (l:List Int):Nat->Nat->V:=fun i _=>.int .i64 (gI l i)
def vF (l:List (Int×Int)):Nat->Nat->V:=fun i j=>match j with
 | 0=>.int .i64 (gF l i).1
 | _+1=>.int .i64 (gF l i).2
def vP (p:List (List (Int×Int))):Nat->Nat->V:=fun i _=>.fz (gR p i).length 2 false (vF (gR p i))
def G.v (g:G):V:=.agg [.fz g.ids.length 1 false (vI g.ids),.fz g.ports.length 1 false (vP g.ports)]
def okID (i:Int):Bool:=decide (0<=i/\i<=255)
def okL (n v:Nat) (l:Int×Int):Bool:=decide (0<=l.1/\l.1<n/\l.1≠v/\1<=l.2/\l.2<=15)
def okR (n v:Nat) (r:List (Int×Int)):Bool:=r.all (okL n v)&&decide (r.map (·.1)).Nodup
def Q8T (p:List (List (Int×Int))) (v:Nat) (l:Int×Int):Bool:=decide (((v:Int),l.2)∈gR p l.1.toNat)
def J9k (l:List Int):Bool:=l.all okID&&decide l.Nodup
def Q2Z (p:List (List (Int×Int))):Bool:=decide (∀v,v<p.length->okR p.length v (gR p v)=true)
def Q4t (p:List (List (Int×Int))):Bool:=decide (∀v,v<p.length->∀l,l∈gR p v->Q8T p v l=true)
def J1q (p:List (List (Int×Int))):Bool:=Q2Z p&&Q4t p
def G.valid (g:G):Bool:=decide (1<=g.ids.length/\g.ids.length<=24/\g.ports.length=g.ids.length)&&(J9k g.ids&&J1q g.ports)
theorem J01 (l:List Int) (i:Nat) (h:i<l.length):l.take (i+1)=l.take i++[gI l i]:=by
 rw[List.take_succ_eq_append_getElem h];simp only[gI,List.getD,List.getElem?_eq_getElem h,Option.getD_some]
theorem J1D (l:List (Int×Int)) (i:Nat) (h:i<l.length):l.take (i+1)=l.take i++[gF l i]:=by
 rw[List.take_succ_eq_append_getElem h];simp only[gF,List.getD,List.getElem?_eq_getElem h,Option.getD_some]
theorem J5U {l:List Int} {i:Nat} (h:i<l.length):gI l i∈l:=by
 simp only[gI,List.getD,List.getElem?_eq_getElem h];exact List.getElem_mem h
theorem J02 {l:List (Int×Int)} {i:Nat} (h:i<l.length):gF l i∈l:=by
 simp only[gF,List.getD,List.getElem?_eq_getElem h];exact List.getElem_mem h
theorem X2q {l:List (Int×Int)} {x:Int×Int} (h:x∈l):∃i,i<l.length/\gF l i=x:=by
 obtain⟨i,hi,he⟩:=List.mem_iff_getElem.1 h;exact⟨i,hi,by simp only[gF,List.getD,List.getElem?_eq_getElem hi,Option.getD_some];exact he⟩
theorem X60 {l:List Int} {x:Int} (h:x∈l):∃i,i<l.length/\gI l i=x:=by
 obtain⟨i,hi,he⟩:=List.mem_iff_getElem.1 h;exact⟨i,hi,by simp only[gI,List.getD,List.getElem?_eq_getElem hi,Option.getD_some];exact he⟩
theorem Q7q (a b c:Int):Ret Tryz.prog 68 [.int .i64 a,.int .i64 b,.int .i64 c] (.bool (decide (b<=a/\a<=c))):=by
 refine J0f rfl ?_;refine J0b mixed Tryz.func68 rfl hc68 hr68 rfl ?_
 repeat' ((conv=>whnf);first|(refine Br.dec ?_ ?_<;>intro _<;>try omega))
 all_goals (conv=>whnf)
 all_goals exact VLe.bool (by symm;first|(rw[decide_eq_true_eq];omega)|(rw[decide_eq_false_iff_not];omega))
def Q4z (l:List Int):Nat->Nat->V:=fun j _=>.bool (decide ((j:Int)∈l))
theorem Q9M (l:List Int) (a:Int) (i j:Nat) (k:Nat) (ha:0<=a) (hk:k=a.toNat) (hj:j<1):VLe (J1R (Q4z l) k 0 [.bool true] i j) (Q4z (l++[a]) i j):=by
 apply VLe.of_eq;subst hk;have hj0:j=0:=by omega
 subst hj0;by_cases h:i=a.toNat
 . subst h;have e:((a.toNat:Nat):Int)=a:=by omega
   simp only[J1R,Q4z,e];simp
 . have:¬ (i:Int)=a:=by omega
   simp[J1R,Q4z,h,this]
theorem J1v (l:List Int):J9k l=true↔(∀a∈l,0<=a/\a<=255)/\l.Nodup:=by
 simp[J9k,okID]
theorem Q1S {l:List Int} (i:Nat) (h:i<l.length) (hb:¬ (0<=gI l i/\gI l i<=255)\/gI l i∈l.take i):VLe (V.bool false) (V.bool (J9k l)):=by
 refine VLe.bool ?_;symm;rw[<- Bool.not_eq_true,J1v];rintro⟨h1,h2⟩;rcases hb with hb|hb
 . exact hb (h1 _ (J5U h))
 . have:=J01 l i h;have hn:(l.take (i+1)).Nodup:=h2.sublist (List.take_sublist _ _);rw[this,List.nodup_append] at hn;exact hn.2.2 _ hb _ (by simp) rfl
theorem X4R (l:List Int) (hl:l.length<=1000000):Ret Tryz.prog 60 [.fz l.length 1 false (vI l)] (.bool (J9k l)):=by
 refine J0f rfl ?_;refine J0b mixed Tryz.func60 rfl hc60 hr60 rfl ?_
 repeat' ((conv=>whnf);first|fail)
 all_goals (conv=>whnf)
 refine J16 mixed [3,6,7] [] [1,2,3,4,5,6,7,8,9,10,11,12,13,14,15,16,17,18,19,20,21,22,23,24,25,26,27,28,29] [0] (fun i:Nat=>[(8,.int .i64 i)]) (fun i=>[(0,.vec 256 1 (Q4z (l.take i)))])
  (fun n i=>n=l.length-i/\i<=l.length/\(∀a∈l.take i,0<=a/\a<=255)/\(l.take i).Nodup) l.length 0 ⟨rfl,Nat.zero_le _,by simp,by simp⟩ rfl (fun _=>rfl) ?_ ?_
 . refine J0e (fun _ _=>[(0,some 0)]) ?_ ?_ rfl
   . repeat' (first|exact tI|exact J0c.oel rfl rfl|(refine⟨⟨_,rfl,?_⟩,?_⟩)|exact J0c.kf rfl)
   . repeat' (first|exact VLe.of_eq (by simp[Q4z])|exact tI|(refine⟨⟨_,rfl,?_⟩,?_⟩)|(refine⟨Nat.le_refl _,rfl,fun i j hi hj=>?_⟩))
 rintro n i ⟨hn,hi,hb,hd⟩
 repeat' ((conv=>whnf);first|(refine Br.dec ?_ ?_<;>intro _<;>try omega)|(refine Ar.q ?_)|(refine Ix.q ?_)|(refine Ix.int (by omega) (by omega) ?_)|(refine Ltn.q ?_))
 all_goals (conv=>whnf)
 . exact Q1S i (by omega) (.inl (by omega))
 . exact Q1S i (by omega) (.inl (by omega))
 . exact Q1S i (by omega) (.inr (by rename_i h;rwa[show(((gI l i).toNat:Nat):Int)=gI l i by omega] at h))
 . rename_i hni;rw[show(((gI l i).toNat:Nat):Int)=gI l i by omega] at hni;refine⟨l.length-(i+1),i+1,by omega,⟨rfl,by omega,?_,?_⟩,?_⟩
   . rw[J01 l i (by omega)];intro a ha;rcases List.mem_append.1 ha with h|h
     . exact hb a h
     . rw[List.mem_singleton.1 h];omega
   . rw[J01 l i (by omega),List.nodup_append];exact⟨hd,by simp,fun a ha b hb' e=>hni (by rw[List.mem_singleton.1 hb'] at e;rw[<- e];exact ha)⟩
   . simp only[J01 l i (by omega)];refine J0e (fun _ _=>[(0,some 0)]) ?_ ?_ rfl
     . repeat' (first|exact tI|exact J0c.oel rfl rfl|(refine⟨⟨_,rfl,?_⟩,?_⟩)|exact J0c.kf rfl)
     . repeat' (first|exact Q9M _ _ _ _ _ (by omega) rfl hj|exact tI|(refine⟨⟨_,rfl,?_⟩,?_⟩)|(refine⟨Nat.le_refl _,rfl,fun i j hi hj=>?_⟩))
 . rw[List.take_of_length_le (by omega)] at hb hd;exact VLe.bool ((J1v l).2 ⟨hb,hd⟩).symm
abbrev Ent:=(Int×Int)×V
def Q7M (u:Nat) (r:List (Int×Int)):List Ent:=r.map fun l=>(((u:Int),l.1),V.int .i64 l.2)
def J7O (p:List (List (Int×Int))):Nat->List Ent
 | 0=>[]
 | v+1=>J7O p v++Q7M v (gR p v)
theorem Q7L (u:Nat) (r:List (Int×Int)) (l:Int×Int):Q7M u (r++[l])=Q7M u r++[(((u:Int),l.1),V.int .i64 l.2)]:=by simp[Q7M]
theorem J58 {u:Nat} {r:List (Int×Int)} {e:Ent}:e∈Q7M u r↔∃l∈r,e=(((u:Int),l.1),V.int .i64 l.2):=by
 simp only[Q7M,List.mem_map];exact⟨fun⟨l,h,e⟩=>⟨l,h,e.symm⟩,fun⟨l,h,e⟩=>⟨l,h,e.symm⟩⟩
theorem J2t {p:List (List (Int×Int))} {e:Ent}:∀{v:Nat},e∈J7O p v↔∃u,u<v/\∃l∈gR p u,e=(((u:Int),l.1),V.int .i64 l.2)
 | 0=>by simp[J7O]
 | v+1=>by
   simp only[J7O,List.mem_append,J2t (v:=v),J58];constructor
   . rintro (⟨u,h,x⟩|x)
     . exact⟨u,by omega,x⟩
     . exact⟨v,by omega,x⟩
   . rintro⟨u,h,x⟩;by_cases hu:u=v
     . subst hu;exact .inr x
     . exact .inl ⟨u,by omega,x⟩
theorem J3d:∀{es:List Ent} {p:Int×Int} {x:V},J14 es p=some x->(p,x)∈es
 | [],_,_,h=>by simp[J14] at h
 | (q,u)::r,p,x,h=>by
   simp only[J14] at h;split at h
   . rename_i e;cases h;subst e;simp
   . exact List.mem_cons_of_mem _ (J3d h)
theorem J5q:∀{es:List Ent} {p:Int×Int},J14 es p=none->∀x,(p,x)∉es
 | [],_,_,_=>by simp
 | (q,u)::r,p,h,x=>by
   simp only[J14] at h;split at h
   . cases h
   . rename_i e;intro hm;rcases List.mem_cons.1 hm with e'|e'
     . cases e';exact e rfl
     . exact J5q h x e'
theorem Q0q:∀{es:List Ent} {p:Int×Int} {y:V},J14 es p=none->mput es p y=es++[(p,y)]
 | [],_,_,_=>rfl
 | (q,u)::r,p,y,h=>by
   simp only[J14] at h;split at h
   . cases h
   . rename_i e;simp only[mput,if_neg e,List.cons_append,Q0q h]
def X72 (es:List Ent):Prop:=∀e∈es,∃w:Int,e.2=V.int .i64 w
theorem J7e (p:List (List (Int×Int))) (v:Nat):X72 (J7O p v):=fun e he=>by
 obtain⟨u,_,l,_,rfl⟩:=J2t.1 he;exact⟨_,rfl⟩
theorem Q7m (p:List (List (Int×Int))) (v:Nat) (r:List (Int×Int)):X72 (J7O p v++Q7M v r):=fun e he=>by
 rcases List.mem_append.1 he with he|he
 . exact J7e p v e he
 . obtain⟨l,_,rfl⟩:=J58.1 he;exact⟨_,rfl⟩
theorem Q0u {es:List Ent} {p:Int×Int} {A:V->Prop} {B:Prop} (hi:X72 es) (h1:∀w:Int,J14 es p=some (.int .i64 w)->A (.int .i64 w)) (h2:J14 es p=none->B):X5p (J14 es p) A B :=
 ⟨fun v hv=>by
   obtain⟨w,hw⟩:=hi _ (J3d hv);simp only at hw;subst hw;exact h1 w hv,h2⟩
theorem Q4M {n:Nat} {J1T:List Nat} {es:List Ent} {A:Nat->Ent->Prop} {B:Prop} (hi:X72 es) (h1:∀i (a b w:Int),i<n->i∉J1T->es[i]?=some ((a,b),V.int .i64 w)->A i ((a,b),V.int .i64 w)) (h2:(∀i,i<n->i∈J1T)->B):X7H n J1T es A B :=
 ⟨fun i p h3 h4 h5=>by
   obtain⟨⟨a,b⟩,x⟩:=p;obtain⟨w,hw⟩:=hi _ (List.mem_of_getElem? h5);simp only at hw;subst hw;exact h1 i a b w h3 h4 h5,h2⟩
theorem J0n {n v:Nat} {r:List (Int×Int)}:okR n v r=true↔(∀l∈r,0<=l.1/\l.1<n/\l.1≠v/\1<=l.2/\l.2<=15)/\(r.map (·.1)).Nodup:=by
 simp only[okR,okL,Bool.and_eq_true,List.all_eq_true,decide_eq_true_eq]
theorem J1M {p:List (List (Int×Int))}:Q2Z p=true↔∀v,v<p.length->okR p.length v (gR p v)=true:=by simp[Q2Z]
theorem J3K {p:List (List (Int×Int))}:Q4t p=true↔∀v,v<p.length->∀l∈gR p v,((v:Int),l.2)∈gR p l.1.toNat:=by
 simp only[Q4t,Q8T,decide_eq_true_eq]
theorem J43 {r:List (Int×Int)} (h:(r.map (·.1)).Nodup) {a b:Int×Int} (ha:a∈r) (hb:b∈r) (e:a.1=b.1):a=b:=by
 induction r with
 | nil=>simp at ha
 | cons x r ih =>
   simp only[List.map_cons,List.nodup_cons] at h;rcases List.mem_cons.1 ha with ea|ha
   . rcases List.mem_cons.1 hb with eb|hb
     . rw[ea,eb]
     . exact(h.1 (List.mem_map.2 ⟨b,hb,by rw[<- e,ea]⟩)).elim
   . rcases List.mem_cons.1 hb with eb|hb
     . exact(h.1 (List.mem_map.2 ⟨a,ha,by rw[e,eb]⟩)).elim
     . exact ih h.2 ha hb
theorem Q9B {p:List (List (Int×Int))} (hr:∀v,v<p.length->okR p.length v (gR p v)=true) :
 Q4t p=true↔∀e∈J7O p p.length,J14 (J7O p p.length) (e.1.2,e.1.1)=some e.2:=by
 rw[J3K];constructor
 . intro h e he;obtain⟨u,hu,l,hl,rfl⟩:=J2t.1 he;obtain⟨hL,_⟩:=J0n.1 (hr u hu);have hb:=hL l hl;have hm:=h u hu l hl;have hto:l.1.toNat<p.length:=by omega
   have e1:((l.1.toNat:Nat):Int)=l.1:=by omega
   simp only;cases hf:J14 (J7O p p.length) (l.1,(u:Int)) with
   | none=>exact(J5q hf _ (J2t.2 ⟨l.1.toNat,hto,_,hm,by rw[e1]⟩)).elim
   | some x =>
     obtain⟨u',hu',l',hl',he'⟩:=J2t.1 (J3d hf);simp only[Prod.mk.injEq] at he';obtain⟨⟨a1,a2⟩,a3⟩:=he';have:u'=l.1.toNat:=by omega
     subst this;have:=J43 (J0n.1 (hr _ hu')).2 hm hl' a2;rw[a3,<- this]
 . intro h v hv l hl;have:=h _ (J2t.2 ⟨v,hv,l,hl,rfl⟩);simp only at this;obtain⟨u',hu',l',hl',he'⟩:=J2t.1 (J3d this);simp only[Prod.mk.injEq,V.int.injEq,true_and] at he';obtain⟨⟨a1,a2⟩,a3⟩:=he';have:l.1.toNat=u':=by omega
   rw[this];have:((v:Int),l.2)=l':=Prod.ext a2 a3;rw[this];exact hl'
theorem J3b {p:List (List (Int×Int))} (v:Nat) (hv:v<p.length) (h:okR p.length v (gR p v)=false):VLe (V.bool false) (V.bool (J1q p)):=by
 refine VLe.bool ?_;symm;rw[J1q,Bool.and_eq_false_iff];left;rw[<- Bool.not_eq_true,J1M];intro hh;rw[hh v hv] at h;cases h
theorem J5f {n v:Nat} {r:List (Int×Int)} (j:Nat) (hj:j<r.length) (h:¬ (0<=(gF r j).1/\(gF r j).1<n/\(gF r j).1≠v/\1<=(gF r j).2/\(gF r j).2<=15)):okR n v r=false:=by
 rw[<- Bool.not_eq_true,J0n];exact fun hh=>h (hh.1 _ (J02 hj))
theorem Q0b {n v:Nat} {r:List (Int×Int)} (j:Nat) (hj:j<r.length) (h:(gF r j).1∈(r.take j).map (·.1)):okR n v r=false:=by
 rw[<- Bool.not_eq_true,J0n];rintro⟨_,hn⟩;have:=(hn.sublist ((List.take_sublist (j+1) r).map _));rw[J1D r j hj,List.map_append,List.nodup_append] at this;exact this.2.2 _ h _ (by simp) rfl
theorem J5T {p:List (List (Int×Int))} {k:Nat} (h:∀r∈p,r.length<=k) (v:Nat):(gR p v).length<=k:=by
 simp only[gR,List.getD];cases hv:p[v]? with
 | none=>simp
 | some r=>exact h r (List.mem_of_getElem? hv)
theorem X2o {n:Nat} {l:List Nat} (hn:l.Nodup) (hb:∀i∈l,i<n):l.length<=n:=by
 induction n generalizing l with
 | zero =>
   cases l with
   | nil=>simp
   | cons a l=>have:=hb a (by simp);omega
 | succ n ih =>
   have h1:=ih (l:=l.erase n) (hn.erase _) (fun i hi=>by
    have h2:=hb i (List.mem_of_mem_erase hi);have h3:i≠n:=fun e=>by subst e;exact(hn.not_mem_erase) hi
    omega)
   rw[List.length_erase] at h1;split at h1<;>omega
set_option maxHeartbeats 4000000 in
theorem X5Y (p:List (List (Int×Int))) (hp:p.length<=24) (hr:∀r∈p,r.length<=9223372036854775807):Ret Tryz.prog 61 [.fz p.length 1 false (vP p)] (.bool (J1q p)):=by
 refine J0f rfl ?_;refine J0b mixed Tryz.func61 rfl hc61 hr61 rfl ?_
 repeat' ((conv=>whnf);first|fail)
 all_goals (conv=>whnf)
 refine J16 mixed [0,3,14,15] [] [1,2,3,4,5,6,7,8,9,10,11,12,13,14,15,16,17,18,19,20,21,22,23,24,25,26,27,28,29] [0] (fun i:Nat=>[(16,.int .i64 i)]) (fun i=>[(0,.map (.pair .i64) (J7O p i))])
  (fun n i=>n=p.length-i/\i<=p.length/\∀v,v<i->okR p.length v (gR p v)=true) p.length 0 ⟨rfl,Nat.zero_le _,fun v h=>by omega⟩ rfl (fun _=>rfl) ?_ ?_
 . exact J0l (fun _ _=>[(0,some 0)])
 rintro n v ⟨hn,hv,hrow⟩;have hrl:=J5T hr v
 repeat' ((conv=>whnf);first|(refine Br.dec ?_ ?_<;>intro _<;>try omega)|(refine Ix.q ?_))
 all_goals (conv=>whnf)
 . refine J16 mixed [0,3,4,14,15,16,21,22] [] [1,2,3,4,5,6,7,8,9,10,11,12,13,14,15,16,17,18,19,20,21,22,23,24,25,26,27,28,29] [0] (fun j:Nat=>[(23,.int .i64 j)]) (fun j=>[(0,.map (.pair .i64) (J7O p v++Q7M v ((gR p v).take j)))])
    (fun n j=>n=(gR p v).length-j/\j<=(gR p v).length/\okR p.length v ((gR p v).take j)=true) (gR p v).length 0 ⟨rfl,Nat.zero_le _,by simp[okR]⟩ rfl (fun _=>rfl) ?_ ?_
   . refine J0e (fun _ _=>[(0,some 0)]) ?_ ?_ rfl
     . repeat' (first|exact tI|exact J0c.map rfl|(refine⟨⟨_,rfl,?_⟩,?_⟩)|exact J0c.kf rfl)
     . repeat' (first|exact⟨rfl,by simp[Q7M]⟩|exact tI|(refine⟨⟨_,rfl,?_⟩,?_⟩))
   rintro n j ⟨hn,hj,hok⟩
   repeat' ((conv=>whnf);first|(refine Br.dec ?_ ?_<;>intro _<;>try omega)|(refine Ar.q ?_)|(refine Ix.q ?_)|(refine Q0u (Q7m _ _ _) (fun w hw=>?_) (fun hw=>?_)))
   all_goals (conv=>whnf)
   . exact J3b v (by omega) (J5f j (by omega) (by omega))
   . exact J3b v (by omega) (J5f j (by omega) (by omega))
   . exact J3b v (by omega) (J5f j (by omega) (by omega))
   . exact J3b v (by omega) (J5f j (by omega) (by omega))
   . exact J3b v (by omega) (J5f j (by omega) (by omega))
   . refine J3b v (by omega) (Q0b j (by omega) ?_);rcases List.mem_append.1 (J3d hw) with h|h
     . obtain⟨u,hu,l,_,he⟩:=J2t.1 h;simp only[Prod.mk.injEq] at he;omega
     . obtain⟨l,hl,he⟩:=J58.1 h;simp only[Prod.mk.injEq] at he;exact List.mem_map.2 ⟨l,hl,he.1.2.symm⟩
   . have hnin:(gF (gR p v) j).1∉((gR p v).take j).map (·.1):=fun h=>by
      obtain⟨l,hl,he⟩:=List.mem_map.1 h;refine J5q hw (.int .i64 l.2) (List.mem_append_right _ (J58.2 ⟨l,hl,?_⟩));rw[he]
     refine⟨(gR p v).length-(j+1),j+1,by omega,⟨rfl,by omega,?_⟩,?_⟩
     . rw[J0n] at hok ⊢;rw[J1D _ j (by omega)];refine⟨fun l hl=>?_,?_⟩
       . rcases List.mem_append.1 hl with h|h
         . exact hok.1 l h
         . rw[List.mem_singleton.1 h];omega
       . rw[List.map_append,List.nodup_append];refine⟨hok.2,by simp,fun a ha b hb e=>hnin ?_⟩;simp only[List.map_cons,List.map_nil,List.mem_singleton] at hb;rw[<- hb,<- e];exact ha
     . have e1:J7O p v++Q7M v ((gR p v).take (j+1))=mput (J7O p v++Q7M v ((gR p v).take j)) ((v:Int),(gF (gR p v) j).1) (.int .i64 (gF (gR p v) j).2):=by
        rw[Q0q hw,J1D _ j (by omega),Q7L,List.append_assoc]
       simp only[e1];exact J0l (fun _ _=>[(0,some 0)])
   . have hfull:(gR p v).take j=gR p v:=List.take_of_length_le (by omega);rw[hfull] at hok;refine⟨p.length-(v+1),v+1,by omega,⟨rfl,by omega,fun u hu=>?_⟩,?_⟩
     . by_cases e:u=v
       . subst e;exact hok
       . exact hrow u (by omega)
     . refine J0e (fun _ _=>[(0,some 0)]) ?_ ?_ rfl
       . repeat' (first|exact tI|exact J0c.map rfl|(refine⟨⟨_,rfl,?_⟩,?_⟩)|exact J0c.kf rfl)
       . repeat' (first|exact⟨rfl,by rw[hfull];rfl⟩|exact tI|(refine⟨⟨_,rfl,?_⟩,?_⟩))
 . have hvp:v=p.length:=by omega
   subst hvp;have hse:=Q9B hrow;have hro:Q2Z p=true:=J1M.2 hrow;refine J16 mixed [3,69] [] [2,3,4,5,6,7,8,9,10,11,12,13,14,15,16,17,18,19,20,21,22,23,24,25,26,27,28,29] [1,0] (fun _:List Nat=>[]) (fun ix=>[(1,.iter 0 (J7O p p.length).length ix),(0,.map (.pair .i64) (J7O p p.length))])
    (fun n ix=>n=(J7O p p.length).length-ix.length/\ix.Nodup/\(∀i∈ix,i<(J7O p p.length).length)/\∀i∈ix,∀e,(J7O p p.length)[i]?=some e->J14 (J7O p p.length) (e.1.2,e.1.1)=some e.2)
    (J7O p p.length).length [] ⟨rfl,by simp,by simp,by simp⟩ rfl (fun _=>rfl) ?_ ?_
   . exact J0l (fun _ _=>[(1,some 1),(0,some 0)])
   rintro n ix ⟨hn',hnd,hlt,hix⟩
   repeat' ((conv=>whnf);first|(refine Br.bne ?_ ?_<;>intro _<;>try omega)|(refine Ix.mk 0 rfl (by omega) ?_)|(refine Ix.mk 1 rfl (by omega) ?_)|(refine Chk.mk (Nat.beq_refl _) ?_)|(refine Q4M (J7e _ _) (fun i a b w hi hni he=>?_) (fun hall=>?_))|(refine⟨_,List.getLast?_concat,_,‹_›,?_⟩)|(refine Q0u (J7e _ _) (fun w' hw=>?_) (fun hw=>?_)))
   all_goals (conv=>whnf)
   . refine VLe.bool ?_;symm;rw[J1q,Bool.and_eq_false_iff];right;rw[<- Bool.not_eq_true,hse];intro hh;have:=hh _ (List.mem_of_getElem? he);rw[hw] at this;simp at this;contradiction
   . rename_i hww;refine⟨(J7O p p.length).length-(ix++[i]).length,ix++[i],?_,⟨rfl,?_,?_,?_⟩,?_⟩
     . have h1:(ix++[i]).Nodup:=List.nodup_append.2 ⟨hnd,by simp,fun a ha b hb e=>hni (by rw[List.mem_singleton.1 hb] at e;rw[<- e];exact ha)⟩;have:=X2o h1 (n:=(J7O p p.length).length) (fun k hk=>by
        rcases List.mem_append.1 hk with h|h
        . exact hlt k h
        . rw[List.mem_singleton.1 h];exact hi)
       simp at this ⊢;omega
     . exact List.nodup_append.2 ⟨hnd,by simp,fun a ha b hb e=>hni (by rw[List.mem_singleton.1 hb] at e;rw[<- e];exact ha)⟩
     . intro k hk;rcases List.mem_append.1 hk with h|h
       . exact hlt k h
       . rw[List.mem_singleton.1 h];exact hi
     . intro k hk e hke;rcases List.mem_append.1 hk with h|h
       . exact hix k h e hke
       . rw[List.mem_singleton.1 h,he] at hke;cases hke;rw[hw,hww]
     . exact J0l (fun _ _=>[(1,some 1),(0,some 0)])
   . refine VLe.bool ?_;symm;rw[J1q,Bool.and_eq_false_iff];right;rw[<- Bool.not_eq_true,hse];intro hh;have:=hh _ (List.mem_of_getElem? he);rw[hw] at this;cases this
   . exfalso;obtain⟨u,hu,l,hl,he'⟩:=J2t.1 (List.mem_of_getElem? he);have:=(J0n.1 (hrow u hu)).1 l hl;simp only[Prod.mk.injEq,V.int.injEq,true_and] at he';omega
   . refine VLe.bool ?_;symm;rw[J1q,Bool.and_eq_true];refine⟨hro,hse.2 fun e he=>?_⟩;obtain⟨k,hk,hke⟩:=List.mem_iff_getElem.1 he;exact hix k (hall k hk) e (by rw[<- hke];simp[hk])
structure G.Small (g:G):Prop where
 ids:g.ids.length<=9223372036854775807
 ports:g.ports.length<=9223372036854775807
 rows:∀r∈g.ports,r.length<=9223372036854775807
theorem Q2F (g:G) (hs:g.Small):Ret Tryz.prog 33 [g.v] (.bool g.valid):=by
 refine J0f rfl ?_;refine J0b mixed Tryz.func33 rfl hc33 hr33 rfl ?_;have s1:=hs.ids;have s2:=hs.ports;by_cases h:1<=g.ids.length/\g.ids.length<=24/\g.ports.length=g.ids.length
 . rw[G.valid,decide_eq_true h,Bool.true_and];have h1:=X4R g.ids (by omega);have h2:=X5Y g.ports (by omega) hs.rows;revert h1 h2;generalize J9k g.ids=b1;generalize J1q g.ports=b2;intro h1 h2;cases b1<;>cases b2 <;>
   repeat' ((conv=>whnf);first|(refine Br.tt ?_)|(refine Br.ff ?_)|(refine Br.dec ?_ ?_<;>intro _<;>try omega)|(refine Br.bne ?_ ?_<;>intro _<;>try omega)|(refine(h1 _ _).mono ?_;rintro _ _ _ ⟨rfl,rfl,rfl⟩)|(refine(h2 _ _).mono ?_;rintro _ _ _ ⟨rfl,rfl,rfl⟩))
   all_goals (conv=>whnf)
   all_goals exact VLe.rfl
 . rw[G.valid,decide_eq_false h,Bool.false_and]
   repeat' ((conv=>whnf);first|(refine Br.dec ?_ ?_<;>intro _<;>try omega)|(refine Br.bne ?_ ?_<;>intro _<;>try omega))
   all_goals (conv=>whnf)
   all_goals exact VLe.rfl
theorem X0a {n v:Nat} {r:List (Int×Int)} {i:Nat} (hi:i<r.length) (h:okR n v (r.take i)=true) (hl:0<=(gF r i).1/\(gF r i).1<n/\(gF r i).1≠v/\1<=(gF r i).2/\(gF r i).2<=15) (hn:(gF r i).1∉(r.take i).map (·.1)):okR n v (r.take (i+1))=true:=by
 rw[J0n] at h ⊢;rw[J1D _ i hi];refine⟨fun l hl'=>?_,?_⟩
 . rcases List.mem_append.1 hl' with h'|h'
   . exact h.1 l h'
   . rw[List.mem_singleton.1 h'];exact hl
 . rw[List.map_append,List.nodup_append];refine⟨h.2,by simp,fun a ha b hb e=>hn ?_⟩;simp only[List.map_cons,List.map_nil,List.mem_singleton] at hb;rw[<- hb,<- e];exact ha
theorem X0w (r:List (Int×Int)) (v n:Nat) (hv:v<=1000) (hn:n<=1000) (hr:r.length<=9223372036854775807):Ret Tryz.prog 69 [.fz r.length 2 false (vF r),.int .i64 v,.int .i64 n] (.bool (okR n v r)):=by
 refine J0f rfl ?_;refine J0b mixed Tryz.func69 rfl hc69 hr69 rfl ?_
 repeat' ((conv=>whnf);first|fail)
 all_goals (conv=>whnf)
 refine J0V mixed [0,1,2] (fun i:Nat=>[(7,.int .i64 i)]) (fun m i=>m=r.length-i/\i<=r.length/\okR n v (r.take i)=true) r.length 0 ⟨rfl,Nat.zero_le _,by simp[okR]⟩ ?_ ?_
 . exact J0l (fun _ _=>[])
 rintro m i ⟨hm,hi,hok⟩
 repeat' ((conv=>whnf);first|(refine Br.dec ?_ ?_<;>intro _<;>try omega)|(refine Ar.q ?_)|(refine Ix.q ?_)|(refine(Q7q _ _ _ _ _).mono ?_;rintro _ _ _ ⟨rfl,rfl,rfl⟩))
 all_goals (conv=>whnf)
 all_goals try exact VLe.bool (J5f i (by omega) (by omega)).symm
 . refine J0V mixed [0,1,2,7] (fun k:Nat=>[(8,.int .i64 k)]) (fun m k=>m=i-k/\k<=i/\(gF r i).1∉(r.take k).map (·.1)) i 0 ⟨rfl,Nat.zero_le _,by simp⟩ ?_ ?_
   . exact J0l (fun _ _=>[])
   rintro m k ⟨hm,hk,hnin⟩
   repeat' ((conv=>whnf);first|(refine Br.dec ?_ ?_<;>intro _<;>try omega)|(refine Ar.q ?_)|(refine Ix.q ?_))
   all_goals (conv=>whnf)
   . rename_i he;refine VLe.bool (Q0b i (by omega) ?_).symm;rw[<- he];refine List.mem_map.2 ⟨gF r k,?_,rfl⟩;have:=List.take_sublist_take_left (l:=r) (show k+1<=i by omega);exact this.subset (by rw[J1D r k (by omega)];simp)
   . rename_i he;refine⟨i-(k+1),k+1,by omega,⟨rfl,by omega,?_⟩,?_⟩
     . rw[J1D r k (by omega),List.map_append,List.mem_append,not_or];exact⟨hnin,by simp;exact fun e=>he e.symm⟩
     . exact J0l (fun _ _=>[])
   . have hki:k=i:=by omega
     subst hki;refine⟨r.length-(k+1),k+1,by omega,⟨rfl,by omega,X0a (by omega) hok (by omega) hnin⟩,?_⟩;exact J0l (fun _ _=>[])
 . rw[List.take_of_length_le (by omega)] at hok;rw[hok];exact VLe.rfl
def J5k (r:List (Int×Int)) (u:Int):Int:=match r.findIdx? (fun l=>decide (l.1=u)) with
 | some k=>k
 | none=>-1
theorem Q4H {r:List (Int×Int)} {u:Int} {i:Nat} (hi:i<r.length) (h:∀l∈r.take i,l.1≠u) (he:(gF r i).1=u):J5k r u=i:=by
 have:r.findIdx? (fun l=>decide (l.1=u))=some i:=by
  rw[List.findIdx?_eq_some_iff_getElem];refine⟨hi,?_,fun j hj=>?_⟩
  . have:gF r i=r[i]:=by simp only[gF,List.getD,List.getElem?_eq_getElem hi,Option.getD_some]
    rw[<- this];simpa using he
  . have:=h r[j] (by rw[List.mem_take_iff_getElem];exact⟨j,by omega,rfl⟩);simpa using this
 simp only[J5k,this]
theorem Q4I {r:List (Int×Int)} {u:Int} (h:∀l∈r,l.1≠u):J5k r u=-1:=by
 have:r.findIdx? (fun l=>decide (l.1=u))=none:=by
  rw[List.findIdx?_eq_none_iff];intro x hx;simpa using h x hx
 simp only[J5k,this]
theorem J4v (r:List (Int×Int)) (u:Int):(J5k r u=-1/\∀l∈r,l.1≠u)\/∃i,i<r.length/\J5k r u=(i:Int)/\(gF r i).1=u:=by
 unfold J5k;cases h:r.findIdx? (fun l=>decide (l.1=u)) with
 | none =>
   rw[List.findIdx?_eq_none_iff] at h;exact .inl ⟨rfl,fun l hl=>by simpa using h l hl⟩
 | some i =>
   rw[List.findIdx?_eq_some_iff_getElem] at h;obtain⟨hi,h1,_⟩:=h;refine .inr ⟨i,hi,rfl,?_⟩;simp only[gF,List.getD,List.getElem?_eq_getElem hi,Option.getD_some];simpa using h1
theorem Q1J (g:G) (hs:g.Small) (v:Nat) (u:Int) (hv:v<g.ports.length):Ret Tryz.prog 6 [g.v,.int .i64 v,.int .i64 u] (.int .i64 (J5k (gR g.ports v) u)):=by
 have hrl:=J5T hs.rows v;refine J0f rfl ?_;refine J0b mixed Tryz.func6 rfl hc6 hr6 rfl ?_
 repeat' ((conv=>whnf);first|fail)
 all_goals (conv=>whnf)
 refine J0V mixed [1,2,3] (fun i:Nat=>[(7,.int .i64 i)]) (fun m i=>m=(gR g.ports v).length-i/\i<=(gR g.ports v).length/\∀l∈(gR g.ports v).take i,l.1≠u) (gR g.ports v).length 0 ⟨rfl,Nat.zero_le _,by simp⟩ ?_ ?_
 . exact J0l (fun _ _=>[(0,some 0)])
 rintro m i ⟨hm,hi,hall⟩
 repeat' ((conv=>whnf);first|(refine Br.dec ?_ ?_<;>intro _<;>try omega)|(refine Ar.q ?_)|(refine Ix.q ?_))
 all_goals (conv=>whnf)
 . rw[Q4H (by omega) hall ‹_›];exact VLe.rfl
 . rename_i hne;refine⟨(gR g.ports v).length-(i+1),i+1,by omega,⟨rfl,by omega,fun l hl=>?_⟩,?_⟩
   . rw[J1D _ i (by omega)] at hl;rcases List.mem_append.1 hl with h|h
     . exact hall l h
     . rw[List.mem_singleton.1 h];exact hne
   . exact J0l (fun _ _=>[(0,some 0)])
 . rw[List.take_of_length_le (by omega)] at hall;rw[Q4I hall];exact VLe.rfl
theorem J6Z {n v:Nat} {r:List (Int×Int)} (hv:v<n) (h:okR n v r=true):r.length<n:=by
 obtain⟨h1,h2⟩:=J0n.1 h;have hnd:(v::(r.map fun l=>l.1.toNat)).Nodup:=by
  refine List.nodup_cons.2 ⟨fun hm=>?_,?_⟩
  . obtain⟨l,hl,e⟩:=List.mem_map.1 hm;have:=h1 l hl;omega
  . have:∀(q:List (Int×Int)),(∀l∈q,0<=l.1)->(q.map (·.1)).Nodup->(q.map fun l=>l.1.toNat).Nodup:=by
     intro q
     induction q with
     | nil=>intro _ _;simp
     | cons x q ih =>
       intro hq hn;simp only[List.map_cons,List.nodup_cons] at hn ⊢;refine⟨fun hm=>?_,ih (fun l hl=>hq l (by simp[hl])) hn.2⟩;obtain⟨l,hl,e⟩:=List.mem_map.1 hm;refine hn.1 (List.mem_map.2 ⟨l,hl,?_⟩);have a:=hq l (by simp[hl]);have b:=hq x (by simp);omega
    exact this r (fun l hl=>(h1 l hl).1) h2
 have:=X2o hnd (n:=n) (fun i hi=>by
  rcases List.mem_cons.1 hi with e|e
  . omega
  . obtain⟨l,hl,rfl⟩:=List.mem_map.1 e;have:=h1 l hl;omega)
 simp at this;omega
theorem Q9A {p:List (List (Int×Int))} (hr:∀v,v<p.length->okR p.length v (gR p v)=true) {v:Nat} {l:Int×Int} (hv:v<p.length) (hl:l∈gR p v) :
 (Q8T p v l=true/\∃i,i<(gR p l.1.toNat).length/\J5k (gR p l.1.toNat) v=(i:Int)/\(gF (gR p l.1.toNat) i).2=l.2) \/
 (Q8T p v l=false/\(J5k (gR p l.1.toNat) v=-1\/∃i,i<(gR p l.1.toNat).length/\J5k (gR p l.1.toNat) v=(i:Int)/\(gF (gR p l.1.toNat) i).2≠l.2)):=by
 have hb:=(J0n.1 (hr v hv)).1 l hl;have hto:l.1.toNat<p.length:=by omega
 have hnd:=(J0n.1 (hr _ hto)).2;rcases J4v (gR p l.1.toNat) v with ⟨h1,h2⟩ | ⟨i,h1,h2,h3⟩
 . right;refine⟨?_,.inl h1⟩;rw[<- Bool.not_eq_true,Q8T,decide_eq_true_eq];exact fun hm=>h2 _ hm rfl
 . by_cases hw:(gF (gR p l.1.toNat) i).2=l.2
   . left;refine⟨?_,i,h1,h2,hw⟩;rw[Q8T,decide_eq_true_eq];have:=J02 h1
     rwa[show gF (gR p l.1.toNat) i=((v:Int),l.2) from Prod.ext h3 hw] at this
   . right;refine⟨?_,.inr ⟨i,h1,h2,hw⟩⟩;rw[<- Bool.not_eq_true,Q8T,decide_eq_true_eq];intro hm;have:=J43 hnd hm (J02 h1) h3.symm;exact hw (by rw[<- this])
theorem Q5M {g:G} (h:J9k g.ids=false):VLe (V.bool false) (V.bool g.valid):=by
 rw[G.valid,h];simp;exact .rfl
theorem Q5L {g:G} (v:Nat) (hv:v<g.ports.length) (h:okR g.ports.length v (gR g.ports v)=false):VLe (V.bool false) (V.bool g.valid):=by
 have:J1q g.ports=false:=by
  rw[J1q,Bool.and_eq_false_iff];left;rw[<- Bool.not_eq_true,J1M];intro hh;rw[hh v hv] at h;cases h
 rw[G.valid,this];simp;exact .rfl
theorem Q5K {g:G} (v:Nat) (hv:v<g.ports.length) (l:Int×Int) (hl:l∈gR g.ports v) (h:Q8T g.ports v l=false):VLe (V.bool false) (V.bool g.valid):=by
 have:J1q g.ports=false:=by
  rw[J1q,Bool.and_eq_false_iff];right;rw[<- Bool.not_eq_true,Q4t,decide_eq_true_eq];intro hh;rw[hh v hv l hl] at h;cases h
 rw[G.valid,this];simp;exact .rfl
set_option maxHeartbeats 4000000 in
theorem J6J (g:G) (hs:g.Small):Ret Tryz.prog 51 [g.v] (.bool g.valid):=by
 have s1:=hs.ids;have s2:=hs.ports;refine J0f rfl ?_;refine J0b mixed Tryz.func51 rfl hc51 hr51 rfl ?_;by_cases h:1<=g.ids.length/\g.ids.length<=24/\g.ports.length=g.ids.length
 . repeat' ((conv=>whnf);first|(refine Br.dec ?_ ?_<;>intro _<;>try omega)|(refine Br.bne ?_ ?_<;>intro _<;>try omega)|(refine(Q7q _ _ _ _ _).mono ?_;rintro _ _ _ ⟨rfl,rfl,rfl⟩))
   all_goals (conv=>whnf)
   refine J0V mixed [1,3] (fun i:Nat=>[(4,.int .i64 i)]) (fun m v=>m=g.ports.length-v/\v<=g.ports.length/\J9k (g.ids.take v)=true/\∀u,u<v->okR g.ports.length u (gR g.ports u)=true) g.ports.length 0 ⟨rfl,Nat.zero_le _,rfl,fun u hu=>by omega⟩ ?_ ?_
   . exact J0l (fun _ _=>[(0,some 0)])
   rintro m v ⟨hm,hv,hid,hrow⟩;have hrl:=J5T hs.rows v;have hlk:v<g.ports.length->Ret Tryz.prog 69 [.fz (gR g.ports v).length 2 false (vF (gR g.ports v)),.int .i64 v,.int .i64 g.ports.length] (.bool (okR g.ports.length v (gR g.ports v))):=fun h=>X0w _ v _ (by omega) (by omega) hrl;rw[J1v] at hid
   repeat' ((conv=>whnf);first|(refine Br.dec ?_ ?_<;>intro _<;>try omega)|(refine Ix.q ?_)|(refine(Q7q _ _ _ _ _).mono ?_;rintro _ _ _ ⟨rfl,rfl,rfl⟩)|(refine(hlk (by omega) _ _).mono ?_;rintro _ _ _ ⟨rfl,rfl,rfl⟩)|(refine Br.any (fun _=>?_) (fun _=>?_)))
   all_goals (conv=>whnf)
   . refine Q5L v (by omega) ?_;rw[<- Bool.not_eq_true];intro hh;have:=J6Z (by omega) hh;omega
   . refine J0V mixed [1,3,4] (fun u:Nat=>[(5,.int .i64 u)]) (fun m u=>m=v-u/\u<=v/\gI g.ids v∉g.ids.take u) v 0 ⟨rfl,Nat.zero_le _,by simp⟩ ?_ ?_
     . exact J0l (fun _ _=>[(0,some 0)])
     rintro m u ⟨hm,hu,hnin⟩
     repeat' ((conv=>whnf);first|(refine Br.dec ?_ ?_<;>intro _<;>try omega)|(refine Ar.q ?_)|(refine Ix.q ?_))
     all_goals (conv=>whnf)
     . rename_i he;refine Q5M ?_;rw[<- Bool.not_eq_true,J1v];rintro⟨_,hn⟩;have hn:=hn.sublist (List.take_sublist (v+1) g.ids);rw[J01 g.ids v (by omega),List.nodup_append] at hn;refine hn.2.2 (gI g.ids v) ?_ _ (by simp) rfl;rw[<- he];have:=List.take_sublist_take_left (l:=g.ids) (show u+1<=v by omega);exact this.subset (by rw[J01 g.ids u (by omega)];simp)
     . rename_i he;refine⟨v-(u+1),u+1,by omega,⟨rfl,by omega,?_⟩,?_⟩
       . rw[J01 g.ids u (by omega),List.mem_append,not_or];exact⟨hnin,by simp;exact fun e=>he e.symm⟩
       . exact J0l (fun _ _=>[(0,some 0)])
     . have huv:u=v:=by omega
       subst huv;refine⟨g.ports.length-(u+1),u+1,by omega,⟨rfl,by omega,?_,fun w hw=>?_⟩,?_⟩
       . rw[J1v,J01 g.ids u (by omega)];refine⟨fun a ha=>?_,List.nodup_append.2 ⟨hid.2,by simp,fun a ha b hb e=>hnin (by rw[List.mem_singleton.1 hb] at e;rw[<- e];exact ha)⟩⟩;rcases List.mem_append.1 ha with h'|h'
         . exact hid.1 a h'
         . rw[List.mem_singleton.1 h'];assumption
       . by_cases e:w=u
         . subst e;assumption
         . exact hrow w (by omega)
       . exact J0l (fun _ _=>[(0,some 0)])
   . exact Q5L v (by omega) ‹_›
   . refine Q5M ?_;rw[<- Bool.not_eq_true,J1v];rintro⟨hh,_⟩;have:=hh (gI g.ids v) (J5U (by omega));contradiction
   . have hvn:v=g.ports.length:=by omega
     subst hvn;rw[List.take_of_length_le (by omega)] at hid;have hidk:J9k g.ids=true:=(J1v _).2 hid;refine J0V mixed [1,3] (fun i:Nat=>[(6,.int .i64 i)]) (fun m v=>m=g.ports.length-v/\v<=g.ports.length/\∀u,u<v->∀l∈gR g.ports u,Q8T g.ports u l=true) g.ports.length 0 ⟨rfl,Nat.zero_le _,fun u hu=>by omega⟩ ?_ ?_
     . exact J0l (fun _ _=>[(0,some 0)])
     rintro m v ⟨hm,hv,hsym⟩;have hrl:=J5T hs.rows v
     repeat' ((conv=>whnf);first|(refine Br.dec ?_ ?_<;>intro _<;>try omega))
     all_goals (conv=>whnf)
     . refine J0V mixed [1,3,6] (fun i:Nat=>[(7,.int .i64 i)]) (fun m i=>m=(gR g.ports v).length-i/\i<=(gR g.ports v).length/\∀l∈(gR g.ports v).take i,Q8T g.ports v l=true) (gR g.ports v).length 0 ⟨rfl,Nat.zero_le _,by simp⟩ ?_ ?_
       . exact J0l (fun _ _=>[(0,some 0)])
       rintro m i ⟨hm,hi,hsl⟩;by_cases hlt:i<(gR g.ports v).length
       . have hvp:v<g.ports.length:=by omega
         have hb:=(J0n.1 (hrow v hvp)).1 _ (J02 hlt);have hp:=Q1J g hs (gF (gR g.ports v) i).1.toNat v (by omega);rw[show(((gF (gR g.ports v) i).1.toNat:Nat):Int)=(gF (gR g.ports v) i).1 by omega] at hp;have hrl2:=J5T hs.rows (gF (gR g.ports v) i).1.toNat;rcases Q9A hrow hvp (J02 hlt) with ⟨hsy,k,hk,hpk,hw⟩ | ⟨hsy,hpk | ⟨k,hk,hpk,hw⟩⟩
         . rw[hpk] at hp
           repeat' ((conv=>whnf);first|(refine Br.ff ?_)|(refine Br.dec ?_ ?_<;>intro _<;>try omega)|(refine Br.bne ?_ ?_<;>intro _<;>try omega)|(refine Ar.q ?_)|(refine Ix.q ?_)|(refine Ix.int (by omega) (by omega) ?_)|(refine(hp _ _).mono ?_;rintro _ _ _ ⟨rfl,rfl,rfl⟩))
           all_goals (conv=>whnf)
           all_goals first|(exfalso;omega)|skip
           refine⟨(gR g.ports v).length-(i+1),i+1,by omega,⟨rfl,by omega,fun l hl=>?_⟩,?_⟩
           . rw[J1D _ i hlt] at hl;rcases List.mem_append.1 hl with h'|h'
             . exact hsl l h'
             . rw[List.mem_singleton.1 h'];exact hsy
           . exact J0l (fun _ _=>[(0,some 0)])
         . rw[hpk] at hp
           repeat' ((conv=>whnf);first|(refine Br.tt ?_)|(refine Br.dec ?_ ?_<;>intro _<;>try omega)|(refine Ix.q ?_)|(refine(hp _ _).mono ?_;rintro _ _ _ ⟨rfl,rfl,rfl⟩))
           all_goals (conv=>whnf)
           all_goals first|exact Q5K v hvp _ (J02 hlt) hsy|(exfalso;omega)
         . rw[hpk] at hp
           repeat' ((conv=>whnf);first|(refine Br.ff ?_)|(refine Br.dec ?_ ?_<;>intro _<;>try omega)|(refine Br.bne ?_ ?_<;>intro _<;>try omega)|(refine Ix.q ?_)|(refine Ix.int (by omega) (by omega) ?_)|(refine(hp _ _).mono ?_;rintro _ _ _ ⟨rfl,rfl,rfl⟩))
           all_goals (conv=>whnf)
           all_goals first|exact Q5K v hvp _ (J02 hlt) hsy|(exfalso;omega)
       . repeat' ((conv=>whnf);first|(refine Br.dec ?_ ?_<;>intro _<;>try omega)|(refine Ar.q ?_)|(refine Ix.q ?_))
         all_goals (conv=>whnf)
         rw[List.take_of_length_le (by omega)] at hsl;refine⟨g.ports.length-(v+1),v+1,by omega,⟨rfl,by omega,fun u hu l hl=>?_⟩,?_⟩
         . by_cases e:u=v
           . subst e;exact hsl l hl
           . exact hsym u (by omega) l hl
         . exact J0l (fun _ _=>[(0,some 0)])
     . have hvn:v=g.ports.length:=by omega
       subst hvn;have h1:J1q g.ports=true:=by
        rw[J1q,Bool.and_eq_true];exact⟨J1M.2 hrow,by rw[Q4t,decide_eq_true_eq];exact hsym⟩
       rw[G.valid,decide_eq_true h,hidk,h1];exact VLe.rfl
 . rw[G.valid,decide_eq_false h,Bool.false_and]
   repeat' ((conv=>whnf);first|(refine Br.dec ?_ ?_<;>intro _<;>try omega)|(refine Br.bne ?_ ?_<;>intro _<;>try omega)|(refine(Q7q _ _ _ _ _).mono ?_;rintro _ _ _ ⟨rfl,rfl,rfl⟩))
   all_goals (conv=>whnf)
   all_goals exact VLe.rfl
abbrev Cf:=List (List Int)
def gC (c:Cf) (i:Nat):List Int:=c.getD i []
def vC (c:Cf):Nat->Nat->V:=fun i _=>.fz (gC c i).length 1 false (vI (gC c i))
def cV (c:Cf):V:=.fz c.length 1 false (vC c)
structure J7L (c:Cf):Prop where
 len:c.length<=9223372036854775807
 rows:∀r∈c,r.length<=9223372036854775807
theorem X62 {c:Cf} (h:J7L c) (v:Nat):(gC c v).length<=9223372036854775807:=by
 simp only[gC,List.getD];cases hv:c[v]? with
 | none=>simp
 | some r=>exact h.rows r (List.mem_of_getElem? hv)
def conf (n m:Nat) (B:Nat->Nat->Int×Int) (c:Cf):Bool :=
 decide (c.length=n)&&decide (∀v,v<n->(gC c v).length=m/\∀x,x<m->(B v x).1<=gI (gC c v) x/\gI (gC c v) x<=(B v x).2)
theorem J4d {n m:Nat} {B:Nat->Nat->Int×Int} {c:Cf}:conf n m B c=true↔c.length=n/\∀v,v<n->(gC c v).length=m/\∀x,x<m->(B v x).1<=gI (gC c v) x/\gI (gC c v) x<=(B v x).2:=by
 simp only[conf,Bool.and_eq_true,decide_eq_true_eq]
theorem Q17 {n m:Nat} {B:Nat->Nat->Int×Int} {c:Cf} (h:¬ (c.length=n/\∀v,v<n->(gC c v).length=m/\∀x,x<m->(B v x).1<=gI (gC c v) x/\gI (gC c v) x<=(B v x).2)):conf n m B c=false:=by
 rw[<- Bool.not_eq_true,J4d];exact h
def bG (g:G) (gs:List Int) (v x:Nat):Int×Int:=if gI gs x=-1 then (-1,((gR g.ports v).length:Int)-1) else (0,gI gs x)
set_option maxHeartbeats 4000000 in
theorem X1D (g:G) (hs:g.Small) (hp:g.ports.length=g.ids.length) (c:Cf) (hc:J7L c) (gs:List Int) (hg:gs.length<=1000) :
 Ret Tryz.prog 59 [g.v,cV c,.fz gs.length 1 false (vI gs)] (.bool (conf g.ids.length gs.length (bG g gs) c)):=by
 have s1:=hs.ids;have s2:=hc.len;refine J0f rfl ?_;refine J0b mixed Tryz.func59 rfl hc59 hr59 rfl ?_
 repeat' ((conv=>whnf);first|(refine Br.bne ?_ ?_<;>intro _<;>try omega))
 all_goals (conv=>whnf)
 . exact VLe.bool (Q17 (fun h=>by omega)).symm
 refine J0V mixed [2,3,19,20] (fun i:Nat=>[(21,.int .i64 i)]) (fun m v=>m=c.length-v/\v<=c.length/\∀u,u<v->(gC c u).length=gs.length/\∀x,x<gs.length->(bG g gs u x).1<=gI (gC c u) x/\gI (gC c u) x<=(bG g gs u x).2) c.length 0 ⟨rfl,Nat.zero_le _,fun u hu=>by omega⟩ ?_ ?_
 . exact J0l (fun _ _=>[(0,some 0)])
 rintro m v ⟨hm,hv,hall⟩;have hcl:=X62 hc v;have hrl:=J5T hs.rows v
 repeat' ((conv=>whnf);first|(refine Br.dec ?_ ?_<;>intro _<;>try omega)|(refine Br.bne ?_ ?_<;>intro _<;>try omega)|(refine Ix.q ?_))
 all_goals (conv=>whnf)
 . rename_i hne;exact VLe.bool (Q17 (fun h=>hne (by have:=(h.2 v (by omega)).1;omega))).symm
 . refine J0V mixed [2,3,7,19,20,21,31,32] (fun i:Nat=>[(33,.int .i64 i)]) (fun m x=>m=gs.length-x/\x<=gs.length/\∀y,y<x->(bG g gs v y).1<=gI (gC c v) y/\gI (gC c v) y<=(bG g gs v y).2) gs.length 0 ⟨rfl,Nat.zero_le _,fun u hu=>by omega⟩ ?_ ?_
   . exact J0l (fun _ _=>[(0,some 0)])
   rintro m x ⟨hm,hx,hrow⟩;have hb:bG g gs v x=if gI gs x=-1 then (-1,((gR g.ports v).length:Int)-1) else (0,gI gs x):=rfl
   repeat' ((conv=>whnf);first|(refine Br.dec ?_ ?_<;>intro _<;>try omega)|(refine Ar.q ?_)|(refine Ix.q ?_)|(refine And.intro rfl ?_))
   all_goals (conv=>whnf)
   all_goals try (exfalso;omega)
   all_goals first
    | (refine VLe.bool (Q17 (fun h=>?_)).symm;have:=(h.2 v (by omega)).2 x (by omega);rw[hb] at this;split at this<;>simp only at this<;>omega)
    | (refine⟨gs.length-(x+1),x+1,by omega,⟨rfl,by omega,fun y hy=>?_⟩,?_⟩
       . by_cases e:y=x
         . subst e;rw[hb];split<;>simp only<;>omega
         . exact hrow y (by omega)
       . exact J0l (fun _ _=>[(0,some 0)]))
    | (refine⟨c.length-(v+1),v+1,by omega,⟨rfl,by omega,fun u hu=>?_⟩,?_⟩
       . by_cases e:u=v
         . subst e;exact⟨by omega,fun y hy=>hrow y (by omega)⟩
         . exact hall u (by omega)
       . exact J0l (fun _ _=>[(0,some 0)]))
 . exact VLe.bool (J4d.2 ⟨by omega,fun u hu=>hall u (by omega)⟩).symm
structure Vr where
 name:ByteArray
 kind:Int
 lo:Int
 hi:Int
 pn:Int
 pid:Int
instance:Inhabited Vr:=⟨⟨ByteArray.mk #[],0,0,0,0,0⟩⟩
def gV (l:List Vr) (i:Nat):Vr:=l.getD i default
def vV (l:List Vr):Nat->Nat->V:=fun i j=>match j with
 | 0=>.str (gV l i).name
 | 1=>.int .i64 (gV l i).kind
 | 2=>.int .i64 (gV l i).lo
 | 3=>.int .i64 (gV l i).hi
 | 4=>.int .i64 (gV l i).pn
 | _=>.int .i64 (gV l i).pid
def J4i:List Int->Int->Int
 | [],m=>m
 | a::r,m=>J4i r (if a > m then a else m)
theorem J3O:∀(l:List Int) (a m:Int),J4i (l++[a]) m=if a > J4i l m then a else J4i l m
 | [],a,m=>rfl
 | x::r,a,m=>J3O r a _
theorem Q1Q:∀(l:List Int) (m k:Int),m<=k->(∀a∈l,a<=k)->J4i l m<=k
 | [],m,k,h,_=>h
 | a::r,m,k,h,hl=>Q1Q r _ k (by have:=hl a (by simp);split<;>omega) (fun b hb=>hl b (by simp[hb]))
theorem J5r:∀(l:List Int) (m:Int),m<=J4i l m
 | [],m=>Int.le_refl _
 | a::r,m=>Int.le_trans (by split<;>omega) (J5r r _)
def bV (g:G) (vs:List Vr) (v x:Nat):Int×Int :=
 if (gV vs x).kind=2 then (0,1) else if (gV vs x).kind=3 then (-1,((gR g.ports v).length:Int)-1) else ((gV vs x).lo,(gV vs x).hi+(gV vs x).pn*g.ports.length+(gV vs x).pid*J4i g.ids 0)
structure VOk (vs:List Vr):Prop where
 len:vs.length<=1000
 b:∀x,0<=(gV vs x).hi/\(gV vs x).hi<=1000/\0<=(gV vs x).pn/\(gV vs x).pn<=1000/\0<=(gV vs x).pid/\(gV vs x).pid<=1000
theorem J0a {g:G} (h:g.valid=true):1<=g.ids.length/\g.ids.length<=24/\g.ports.length=g.ids.length/\(∀a∈g.ids,0<=a/\a<=255)/\g.ids.Nodup/\(∀v,v<g.ports.length->okR g.ports.length v (gR g.ports v)=true)/\∀v,v<g.ports.length->∀l∈gR g.ports v,((v:Int),l.2)∈gR g.ports l.1.toNat:=by
 simp only[G.valid,Bool.and_eq_true,decide_eq_true_eq,J1q] at h;obtain⟨⟨h1,h2,h3⟩,h4,h5,h6⟩:=h;have h4:=(J1v _).1 h4;exact⟨h1,h2,h3,h4.1,h4.2,J1M.1 h5,J3K.1 h6⟩
def inR (a:Int):Prop:=-1073741824<=a/\a<=1073741824
def J29 (b:Bool):Int:=match b with|true=>1|false=>0
def sat (a:Int):Int:=if (if 1073741824<a then 1073741824 else a) > -1073741824 then (if 1073741824<a then 1073741824 else a) else -1073741824
theorem X1S (a:Int):inR (sat a):=by unfold sat inR;split<;>split at*<;> omega
theorem Q57 {a:Int} (h:inR a):sat a=a:=by unfold inR at h;unfold sat;rw[if_neg (show ¬ 1073741824<a by omega)];split<;>omega
theorem J9U (b:Bool):inR (J29 b):=by cases b<;>simp[J29,inR]
theorem X1R (a:Int):Ret Tryz.prog 211 [.int .i64 a] (.int .i64 (sat a)):=by
 refine J0f rfl ?_;refine J0b mixed Tryz.func211 rfl Y0W Y0e rfl ?_
 repeat' ((conv=>whnf);first|(refine Sv.mk _ rfl ?_))
 all_goals (conv=>whnf)
 exact VLe.int rfl
theorem J5G (b:Bool):Ret Tryz.prog 209 [.bool b] (.int .i64 (J29 b)):=by
 refine J0f rfl ?_;refine J0b mixed Tryz.func209 rfl Y0Y Y0g rfl ?_;cases b
 all_goals
  repeat' ((conv=>whnf);first|fail)
  all_goals (conv=>whnf)
  exact VLe.rfl
def unI (op a:Int):Int:=if op=18 then -a else J29 (decide (a=0))
theorem X8a {op a:Int} (h:inR a):inR (unI op a):=by
 unfold unI;split
 . unfold inR at *;omega
 . exact J9U _
theorem Q9s (op a:Int) (h:inR a):Ret Tryz.prog 200 [.int .i64 op,.int .i64 a] (.int .i64 (unI op a)):=by
 have ht:=J5G true;have hf:=J5G false;unfold inR at h;refine J0f rfl ?_;refine J0b mixed Tryz.func200 rfl Y02 Y0k rfl ?_;rw[unI]
 repeat' ((conv=>whnf);first|(refine Br.dec ?_ ?_<;>intro _<;>try omega)|(refine Ar.q ?_)|(refine ht.go ?_)|(refine hf.go ?_))
 all_goals (conv=>whnf)
 . rename_i h1;rw[if_pos h1];exact VLe.int (by omega)
 . rename_i h1 h2;rw[if_neg h1,decide_eq_true h2];exact VLe.rfl
 . rename_i h1 h2;rw[if_neg h1,decide_eq_false h2];exact VLe.rfl
def Q8U (a b:Int):Int:=if b=0 then 0 else if a.tmod b≠0/\¬ ((a<0)↔(b<0)) then a.tdiv b-1 else a.tdiv b
theorem J76 {a:Int} (b:Int) {m:Int} (h:-m<=a/\a<=m):-m<=a.tdiv b/\a.tdiv b<=m:=by
 have h1:(a.tdiv b).natAbs<=a.natAbs:=by rw[Int.natAbs_tdiv];exact Nat.div_le_self _ _
 omega
theorem Q4E {a:Int} (b:Int) (h:inR a):-1073741825<=Q8U a b/\Q8U a b<=1073741825:=by
 have:=J76 b h;unfold Q8U;split
 . omega
 . split<;>omega
theorem X6c (a b:Int) (ha:inR a):Ret Tryz.prog 212 [.int .i64 a,.int .i64 b] (.int .i64 (Q8U a b)):=by
 have hb:=J76 b ha;unfold inR at ha;refine J0f rfl ?_;refine J0b mixed Tryz.func212 rfl Y0V Y0d rfl ?_;rw[Q8U];by_cases h0:b=0
 . rw[if_pos h0]
   repeat' ((conv=>whnf);first|(refine Br.dec ?_ ?_<;>intro _<;>try omega))
   all_goals (conv=>whnf)
   exact VLe.rfl
 . rw[if_neg h0];generalize hq:a.tdiv b=q at *;generalize hr:a.tmod b=r at *;by_cases k1:a<0
   all_goals by_cases k2:b<0
   all_goals by_cases k3:r=0
   all_goals
    repeat' ((conv=>whnf);first|(refine Ar.mk q (by rw[hq];exact(J04 (by omega) (by omega)).symm) ?_)|(refine Sv.mk r (by rw[hr]) ?_)|(refine Br.tt ?_)|(refine Br.ff ?_)|(refine Br.dec ?_ ?_<;>intro _<;>try omega)|(refine Br.bne ?_ ?_<;>intro _<;>try omega)|(refine Ar.q ?_)|(refine Nz.mk (by omega) ?_))
    all_goals (conv=>whnf)
    all_goals exact VLe.int (by simp[k1,k2,k3])
theorem X19 {a b A B:Int} (ha:-A<=a/\a<=A) (hb:-B<=b/\b<=B) (hA:0<=A) (hB:0<=B):-(A*B)<=a*b/\a*b<=A*B:=by
 have h1:(a*b).natAbs<=A.natAbs*B.natAbs:=by rw[Int.natAbs_mul];exact Nat.mul_le_mul (by omega) (by omega)
 have h2:((A.natAbs*B.natAbs:Nat):Int)=A*B:=by rw[Int.natCast_mul];congr 1<;>omega
 omega
def X7X (op a b:Int):Bool :=
 if op=35 then decide (a=b) else if op=36 then decide (a≠b) else if op=37 then decide (a<b) else if op=38 then decide (a<=b) else if op=39 then decide (b<a) else decide (b<=a)
theorem Q04 (op a b:Int) (h:35<=op/\op<=40):Ret Tryz.prog 213 [.int .i64 op,.int .i64 a,.int .i64 b] (.bool (X7X op a b)):=by
 refine J0f rfl ?_;refine J0b mixed Tryz.func213 rfl Y0U Y0c rfl ?_;rcases (show op=35\/op=36\/op=37\/op=38\/op=39\/op=40 by omega) with rfl|rfl|rfl|rfl|rfl|rfl
 all_goals
  repeat' ((conv=>whnf);first|(refine Br.tt ?_)|(refine Br.ff ?_)|(refine Br.dec ?_ ?_<;>intro _<;>try omega)|(refine Br.bne ?_ ?_<;>intro _<;>try omega))
  all_goals (conv=>whnf)
  all_goals exact VLe.bool (by simp[X7X];omega)
def Q5a (op a b:Int):Int :=
 if op=30 then sat (a*b) else if op=31 then sat (Q8U a b) else if op=32 then (if b=0 then 0 else sat (a-b*Q8U a b)) else if op=33 then sat (a+b) else if op=34 then sat (a-b)
 else if op=41 then J29 (decide (a≠0/\b≠0)) else if op=42 then J29 (decide (a≠0\/b≠0)) else J29 (X7X op a b)
theorem X7r (op a b:Int):inR (Q5a op a b):=by
 unfold Q5a
 repeat' split
 all_goals first|exact X1S _|exact J9U _|(unfold inR;omega)
set_option maxHeartbeats 4000000 in
theorem Q8F (op a b:Int) (ha:inR a) (hb:inR b) (h:30<=op/\op<=42):Ret Tryz.prog 202 [.int .i64 op,.int .i64 a,.int .i64 b] (.int .i64 (Q5a op a b)):=by
 have hs:=X1R;have htt:=J5G true;have htf:=J5G false;have hq:=X6c a b ha;have hqb:=Q4E b ha;have hm:=X19 ha hb (by omega) (by omega);have hm2:=X19 hb hqb (by omega) (by omega);have hcmp:=Q04 op a b;have ha':=ha;have hb':=hb;unfold inR at ha hb;refine J0f rfl ?_;refine J0b mixed Tryz.func202 rfl Y00 Y0i rfl ?_;rcases (show op=30\/op=31\/op=32\/op=33\/op=34\/(35<=op/\op<=40)\/op=41\/op=42 by omega) with rfl|rfl|rfl|rfl|rfl|h1|rfl|rfl
 . have e:Q5a 30 a b=sat (a*b):=rfl;rw[e];generalize hP:a*b=P at *
   repeat' ((conv=>whnf);first|(refine Ar.mk P (by rw[hP];exact(J04 (by omega) (by omega)).symm) ?_)|(refine Br.tt ?_)|(refine(hs P).go ?_))
   all_goals (conv=>whnf)
   exact VLe.rfl
 . have e:Q5a 31 a b=sat (Q8U a b):=rfl;rw[e]
   repeat' ((conv=>whnf);first|(refine Br.tt ?_)|(refine Br.ff ?_)|(refine hq.go ?_)|(refine(hs _).go ?_))
   all_goals (conv=>whnf)
   exact VLe.rfl
 . have e:Q5a 32 a b=(if b=0 then 0 else sat (a-b*Q8U a b)):=rfl;rw[e];by_cases k:b=0
   . rw[if_pos k]
     repeat' ((conv=>whnf);first|(refine Br.tt ?_)|(refine Br.ff ?_)|(refine Br.dec ?_ ?_<;>intro _<;>try omega))
     all_goals (conv=>whnf)
     exact VLe.rfl
   . rw[if_neg k];generalize hQ:Q8U a b=Q at *;generalize hP:b*Q=P at *
     repeat' ((conv=>whnf);first|(refine Ar.mk P (by rw[hP];exact(J04 (by omega) (by omega)).symm) ?_)|(refine Br.tt ?_)|(refine Br.ff ?_)|(refine Br.dec ?_ ?_<;>intro _<;>try omega)|(refine Ar.q ?_)|(refine hq.go ?_)|(refine(hs _).go ?_))
     all_goals (conv=>whnf)
     exact VLe.rfl
 . have e:Q5a 33 a b=sat (a+b):=rfl;rw[e]
   repeat' ((conv=>whnf);first|(refine Br.tt ?_)|(refine Br.ff ?_)|(refine Ar.q ?_)|(refine(hs _).go ?_))
   all_goals (conv=>whnf)
   exact VLe.rfl
 . have e:Q5a 34 a b=sat (a-b):=rfl;rw[e]
   repeat' ((conv=>whnf);first|(refine Br.tt ?_)|(refine Br.ff ?_)|(refine Ar.q ?_)|(refine(hs _).go ?_))
   all_goals (conv=>whnf)
   exact VLe.rfl
 . have e:Q5a op a b=J29 (X7X op a b):=by
    unfold Q5a;rw[if_neg (by omega),if_neg (by omega),if_neg (by omega),if_neg (by omega),if_neg (by omega),if_neg (by omega),if_neg (by omega)]
   rw[e];have hcmp:=hcmp h1
   repeat' ((conv=>whnf);first|(refine Br.dec ?_ ?_<;>intro _<;>try omega)|(refine hcmp.go ?_)|(refine htt.go ?_)|(refine htf.go ?_)|(refine Br.any (fun _=>?_) (fun _=>?_)))
   all_goals (conv=>whnf)
   all_goals (rename_i hh;rw[hh];exact VLe.rfl)
 . have e:Q5a 41 a b=J29 (decide (a≠0/\b≠0)):=rfl;rw[e];by_cases k1:a=0
   all_goals by_cases k2:b=0
   all_goals
    repeat' ((conv=>whnf);first|(refine Br.tt ?_)|(refine Br.ff ?_)|(refine Br.bne ?_ ?_<;>intro _<;>try omega)|(refine htt.go ?_)|(refine htf.go ?_))
    all_goals (conv=>whnf)
    exact VLe.int (by simp[k1,k2,J29])
 . have e:Q5a 42 a b=J29 (decide (a≠0\/b≠0)):=rfl;rw[e];by_cases k1:a=0
   all_goals by_cases k2:b=0
   all_goals
    repeat' ((conv=>whnf);first|(refine Br.tt ?_)|(refine Br.ff ?_)|(refine Br.bne ?_ ?_<;>intro _<;>try omega)|(refine htt.go ?_)|(refine htf.go ?_))
    all_goals (conv=>whnf)
    exact VLe.int (by simp[k1,k2,J29])
def Q03 (l:List Int):Nat:=l.countP fun a=>decide (a≠0)
theorem Q02 (l:List Int) (a:Int):Q03 (l++[a])=if a≠0 then Q03 l+1 else Q03 l:=by
 simp only[Q03,List.countP_append,List.countP_singleton];by_cases h:a=0<;>simp[h]
theorem Q2a (l:List Int):Q03 l<=l.length:=List.countP_le_length
theorem X1d (l:List Int) (hl:l.length<=1000):Ret Tryz.prog 217 [.fz l.length 1 false (vI l)] (.int .i64 (Q03 l)):=by
 refine J0f rfl ?_;refine J0b mixed Tryz.func217 rfl Y0T Y0b rfl ?_
 repeat' ((conv=>whnf);first|fail)
 all_goals (conv=>whnf)
 refine J0V mixed [6,7] (fun i:Nat=>[(3,.int .i64 (Q03 (l.take i))),(8,.int .i64 i)]) (fun m i=>m=l.length-i/\i<=l.length) l.length 0 ⟨rfl,Nat.zero_le _⟩ ?_ ?_
 . exact J0l (fun _ _=>[])
 rintro m i ⟨hm,hi⟩;have hc:=Q2a (l.take i);have hlt:(l.take i).length<=1000:=by rw[List.length_take];omega
 repeat' ((conv=>whnf);first|(refine Br.dec ?_ ?_<;>intro _<;>try omega)|(refine Br.bne ?_ ?_<;>intro _<;>try omega)|(refine Ar.q ?_)|(refine Ix.q ?_))
 all_goals (conv=>whnf)
 . have e:Q03 (l.take (i+1))=Q03 (l.take i)+1:=by rw[J01 l i (by omega),Q02,if_pos (by assumption)]
   refine⟨l.length-(i+1),i+1,by omega,⟨rfl,by omega⟩,?_⟩;refine J0e (fun _ _=>[]) ?_ ?_ rfl
   . repeat' (first|exact J0c.int (by rw[e];omega)|exact tI|(refine⟨⟨_,rfl,?_⟩,?_⟩)|exact J0c.kf rfl)
   . repeat' (first|exact tI)
 . have e:Q03 (l.take (i+1))=Q03 (l.take i):=by rw[J01 l i (by omega),Q02,if_neg (by simp_all)]
   refine⟨l.length-(i+1),i+1,by omega,⟨rfl,by omega⟩,?_⟩;refine J0e (fun _ _=>[]) ?_ ?_ rfl
   . repeat' (first|exact J0c.int (by rw[e])|exact tI|(refine⟨⟨_,rfl,?_⟩,?_⟩)|exact J0c.kf rfl)
   . repeat' (first|exact tI)
 . rw[List.take_of_length_le (by omega)];exact VLe.rfl
def Q0H:Nat->List Int->Int
 | _,[]=>-1
 | k,a::r=>if a≠0 then k else Q0H (k+1) r
theorem J2B:∀(l:List Int) (k i:Nat),i<=l.length->(∀a∈l.take i,a=0)->Q0H k l=Q0H (k+i) (l.drop i)
 | _,k,0,_,_=>by simp
 | [],k,i+1,h,_=>by simp at h
 | a::r,k,i+1,h,h2=>by
   have ha:a=0:=h2 a (by simp);simp only[Q0H,ha,ne_eq,not_true_eq_false,if_false,List.drop_succ_cons];rw[J2B r (k+1) i (by simpa using h) (fun x hx=>h2 x (by simp[hx]))];congr 1;omega
theorem J5u:∀(l:List Int) (k:Nat),-1<=Q0H k l/\Q0H k l<(k+l.length:Nat)\/Q0H k l=-1
 | [],k=>.inr rfl
 | a::r,k=>by
   simp only[Q0H];split
   . left;simp;omega
   . rcases J5u r (k+1) with h|h
     . left;simp at *;omega
     . right;exact h
theorem Q7A (l:List Int) (i:Nat) (h:i<l.length):l.drop i=gI l i::l.drop (i+1):=by
 rw[List.drop_eq_getElem_cons h];simp only[gI,List.getD,List.getElem?_eq_getElem h,Option.getD_some]
theorem X0Q (a:Int):Ret Tryz.prog 219 [.int .i64 a] (.bool (decide (a≠0))):=by
 refine J0f rfl ?_;refine J0b mixed Tryz.func219 rfl Y0R X99 rfl ?_
 repeat' ((conv=>whnf);first|(refine Br.bne ?_ ?_<;>intro _<;>try omega))
 all_goals (conv=>whnf)
 . rename_i h;exact VLe.bool (by simp[h])
 . rename_i h;exact VLe.bool (decide_eq_false (by simpa using h)).symm
theorem X0J (l:List Int) (hl:l.length<=1000):Ret Tryz.prog 218 [.fz l.length 1 false (vI l),.fn (.func 219) false []] (.int .i64 (Q0H 0 l)):=by
 refine J0f rfl ?_;refine J0b mixed Tryz.func218 rfl Y0S Y0a rfl ?_
 repeat' ((conv=>whnf);first|fail)
 all_goals (conv=>whnf)
 refine J0V mixed [0,1,7] (fun i:Nat=>[(8,.int .i64 i)]) (fun m i=>m=l.length-i/\i<=l.length/\∀a∈l.take i,a=0) l.length 0 ⟨rfl,Nat.zero_le _,by simp⟩ ?_ ?_
 . exact J0l (fun _ _=>[])
 rintro m i ⟨hm,hi,hall⟩;have hf:=X0Q (gI l i);by_cases hz:gI l i=0
 . rw[decide_eq_false (by simp[hz])] at hf
   repeat' ((conv=>whnf);first|(refine Br.ff ?_)|(refine Br.dec ?_ ?_<;>intro _<;>try omega)|(refine Ar.q ?_)|(refine Ix.q ?_)|(refine Chk.q ?_)|(refine hf.go ?_))
   all_goals (conv=>whnf)
   . refine⟨l.length-(i+1),i+1,by omega,⟨rfl,by omega,?_⟩,?_⟩
     . rw[J01 l i (by omega)];intro a ha;rcases List.mem_append.1 ha with h|h
       . exact hall a h
       . simp at h;rw[h];exact hz
     . exact J0l (fun _ _=>[])
   . refine VLe.int ?_;rw[J2B l 0 i hi hall,List.drop_of_length_le (by omega)];rfl
 . rw[decide_eq_true (by exact hz)] at hf
   repeat' ((conv=>whnf);first|(refine Br.tt ?_)|(refine Br.dec ?_ ?_<;>intro _<;>try omega)|(refine Ix.q ?_)|(refine Chk.q ?_)|(refine hf.go ?_))
   all_goals (conv=>whnf)
   . refine VLe.int ?_;rw[J2B l 0 i hi hall,Q7A l i (by omega)];simp[Q0H,hz]
   . refine VLe.int ?_;rw[J2B l 0 i hi hall,List.drop_of_length_le (by omega)];rfl
def two (g s a:Int):Int×Int:=if a > g then (a,g) else (g,if a > s then a else s)
def X3i:List Int->Int×Int->Int×Int
 | [],p=>p
 | a::r,p=>X3i r (two p.1 p.2 a)
theorem J9T:∀(l:List Int) (a:Int) (p:Int×Int),X3i (l++[a]) p=two (X3i l p).1 (X3i l p).2 a
 | [],a,p=>rfl
 | x::r,a,p=>J9T r a _
def Q5h (l:List Int):Int×Int:=X3i l (-1073741824,-1073741824)
theorem X5S (l:List Int) (hl:l.length<=1000):Ret Tryz.prog 220 [.fz l.length 1 false (vI l)] (.tup [.int .i64 (Q5h l).1,.int .i64 (Q5h l).2]):=by
 refine J0f rfl ?_;refine J0b mixed Tryz.func220 rfl Y0Q X98 rfl ?_
 repeat' ((conv=>whnf);first|fail)
 all_goals (conv=>whnf)
 refine J0V mixed [6,7] (fun i:Nat=>[(2,.int .i64 (Q5h (l.take i)).1),(3,.int .i64 (Q5h (l.take i)).2),(8,.int .i64 i)]) (fun m i=>m=l.length-i/\i<=l.length) l.length 0 ⟨rfl,Nat.zero_le _⟩ ?_ ?_
 . exact J0l (fun _ _=>[])
 rintro m i ⟨hm,hi⟩;have e:i<l.length->Q5h (l.take (i+1))=two (Q5h (l.take i)).1 (Q5h (l.take i)).2 (gI l i):=fun h=>by
  rw[J01 l i h,Q5h,J9T];rfl
 repeat' ((conv=>whnf);first|(refine Br.dec ?_ ?_<;>intro _<;>try omega)|(refine Ar.q ?_)|(refine Sv.mk _ rfl ?_)|(refine Ix.q ?_))
 all_goals (conv=>whnf)
 . have e:=e (by omega);rw[two,if_pos (by assumption)] at e;refine⟨l.length-(i+1),i+1,by omega,⟨rfl,by omega⟩,?_⟩;simp only[e];exact J0l (fun _ _=>[])
 . have e:=e (by omega);rw[two,if_neg (by assumption)] at e;refine⟨l.length-(i+1),i+1,by omega,⟨rfl,by omega⟩,?_⟩;simp only[e];exact J0l (fun _ _=>[])
 . rw[List.take_of_length_le (by omega)];exact VLe.rfl
def Q1p:List Int->Int->Int
 | [],m=>m
 | a::r,m=>Q1p r (if a<m then a else m)
theorem Q0t:∀(l:List Int) (a m:Int),Q1p (l++[a]) m=if a<Q1p l m then a else Q1p l m
 | [],a,m=>rfl
 | x::r,a,m=>Q0t r a _
def Q5X:List Int->Int->Int
 | [],m=>m
 | a::r,m=>Q5X r (m+a)
theorem J90:∀(l:List Int) (a m:Int),Q5X (l++[a]) m=Q5X l m+a
 | [],a,m=>rfl
 | x::r,a,m=>J90 r a _
theorem J78:∀(l:List Int) (m:Int) (k:Nat),(∀a∈l,inR a)->-(1073741824*(k:Int))<=m/\m<=1073741824*(k:Int)->-(1073741824*((k+l.length:Nat):Int))<=Q5X l m/\Q5X l m<=1073741824*((k+l.length:Nat):Int)
 | [],m,k,_,h=>by simpa[Q5X] using h
 | a::r,m,k,hl,h=>by
   have ha:=hl a (by simp);unfold inR at ha;have:=J78 r (m+a) (k+1) (fun b hb=>hl b (by simp[hb])) (by omega);simp only[Q5X,List.length_cons];omega
def Q3E (op:Int) (l:List Int):Int :=
 if op=20 then J29 (decide (Q03 l=l.length)) else if op=21 then J29 (decide (0<Q03 l)) else if op=22 then Q03 l else if op=23 then Q0H 0 l
 else if op=24 then Q1p l 1073741824 else if op=25 then (Q5h l).1 else if op=26 then sat (Q5X l 0) else if op=28 then (Q5h l).2 else gI l 0
set_option maxHeartbeats 4000000 in
theorem X4B (op:Int) (l:List Int) (hl:l.length<=1000) (hr:∀a∈l,inR a) (h:20<=op/\op<=29/\op≠27):Ret Tryz.prog 210 [.int .i64 op,.fz l.length 1 false (vI l)] (.int .i64 (Q3E op l)):=by
 have hcnt:=X1d l hl;have hct:=Q2a l;have htt:=J5G true;have htf:=J5G false;have hidx:=X0J l hl;have htwo:=X5S l hl;have hs:=X1R (Q5X l 0);refine J0f rfl ?_;refine J0b mixed Tryz.func210 rfl Y0X Y0f rfl ?_;rcases (show op=20\/op=21\/op=22\/op=23\/op=24\/op=25\/op=26\/op=28\/op=29 by omega) with rfl|rfl|rfl|rfl|rfl|rfl|rfl|rfl|rfl
 . have e:Q3E 20 l=J29 (decide (Q03 l=l.length)):=rfl;rw[e]
   repeat' ((conv=>whnf);first|(refine Br.tt ?_)|(refine Br.dec ?_ ?_<;>intro _<;>try omega)|(refine hcnt.go ?_)|(refine htt.go ?_)|(refine htf.go ?_))
   all_goals (conv=>whnf)
   . exact VLe.int (by rw[decide_eq_true (by omega)])
   . exact VLe.int (by rw[decide_eq_false (by omega)])
 . have e:Q3E 21 l=J29 (decide (0<Q03 l)):=rfl;rw[e]
   repeat' ((conv=>whnf);first|(refine Br.tt ?_)|(refine Br.ff ?_)|(refine Br.dec ?_ ?_<;>intro _<;>try omega)|(refine hcnt.go ?_)|(refine htt.go ?_)|(refine htf.go ?_))
   all_goals (conv=>whnf)
   . exact VLe.int (by rw[decide_eq_true (by omega)])
   . exact VLe.int (by rw[decide_eq_false (by omega)])
 . have e:Q3E 22 l=Q03 l:=rfl;rw[e]
   repeat' ((conv=>whnf);first|(refine Br.tt ?_)|(refine Br.ff ?_)|(refine hcnt.go ?_))
   all_goals (conv=>whnf)
   exact VLe.rfl
 . have e:Q3E 23 l=Q0H 0 l:=rfl;rw[e]
   repeat' ((conv=>whnf);first|(refine Br.tt ?_)|(refine Br.ff ?_)|(refine hidx.go ?_))
   all_goals (conv=>whnf)
   exact VLe.rfl
 . have e:Q3E 24 l=Q1p l 1073741824:=rfl;rw[e]
   repeat' ((conv=>whnf);first|(refine Br.tt ?_)|(refine Br.ff ?_))
   all_goals (conv=>whnf)
   refine J0V mixed [40,41] (fun i:Nat=>[(5,.int .i64 (Q1p (l.take i) 1073741824)),(42,.int .i64 i)]) (fun m i=>m=l.length-i/\i<=l.length) l.length 0 ⟨rfl,Nat.zero_le _⟩ ?_ ?_
   . exact J0l (fun _ _=>[])
   rintro m i ⟨hm,hi⟩
   repeat' ((conv=>whnf);first|(refine Br.dec ?_ ?_<;>intro _<;>try omega)|(refine Ar.q ?_)|(refine Sv.mk _ rfl ?_)|(refine Ix.q ?_))
   all_goals (conv=>whnf)
   . refine⟨l.length-(i+1),i+1,by omega,⟨rfl,by omega⟩,?_⟩;simp only[J01 l i (by omega),Q0t];exact J0l (fun _ _=>[])
   . rw[List.take_of_length_le (by omega)];exact VLe.rfl
 . have e:Q3E 25 l=(Q5h l).1:=rfl;rw[e]
   repeat' ((conv=>whnf);first|(refine Br.tt ?_)|(refine Br.ff ?_)|(refine htwo.go ?_))
   all_goals (conv=>whnf)
   exact VLe.rfl
 . have e:Q3E 26 l=sat (Q5X l 0):=rfl;rw[e]
   repeat' ((conv=>whnf);first|(refine Br.tt ?_)|(refine Br.ff ?_))
   all_goals (conv=>whnf)
   refine J0V mixed [61,62] (fun i:Nat=>[(10,.int .i64 (Q5X (l.take i) 0)),(63,.int .i64 i)]) (fun m i=>m=l.length-i/\i<=l.length) l.length 0 ⟨rfl,Nat.zero_le _⟩ ?_ ?_
   . exact J0l (fun _ _=>[])
   rintro m i ⟨hm,hi⟩;have hb:=J78 (l.take i) 0 0 (fun a ha=>hr a (List.mem_of_mem_take ha)) (by omega);have hlt:(l.take i).length=i:=by rw[List.length_take];omega
   rw[hlt] at hb;have hgi:i<l.length->inR (gI l i):=fun h=>hr _ (by simp only[gI,List.getD,List.getElem?_eq_getElem h,Option.getD_some];exact List.getElem_mem h);unfold inR at hgi;by_cases hil:i<l.length
   . have hgi:=hgi hil
     repeat' ((conv=>whnf);first|(refine Br.dec ?_ ?_<;>intro _<;>try omega)|(refine Ar.q ?_)|(refine Ix.q ?_))
     all_goals (conv=>whnf)
     refine⟨l.length-(i+1),i+1,by omega,⟨rfl,by omega⟩,?_⟩;simp only[J01 l i (by omega),J90];exact J0l (fun _ _=>[])
   . have e:l.take i=l:=List.take_of_length_le (by omega);rw[e]
     repeat' ((conv=>whnf);first|(refine Br.dec ?_ ?_<;>intro _<;>try omega)|(refine hs.go ?_))
     all_goals (conv=>whnf)
     exact VLe.rfl
 . have e:Q3E 28 l=(Q5h l).2:=rfl;rw[e]
   repeat' ((conv=>whnf);first|(refine Br.tt ?_)|(refine Br.ff ?_)|(refine htwo.go ?_))
   all_goals (conv=>whnf)
   exact VLe.rfl
 . have e:Q3E 29 l=gI l 0:=rfl;rw[e]
   repeat' ((conv=>whnf);first|(refine Br.ff ?_)|(refine Br.dec ?_ ?_<;>intro _<;>try omega)|(refine Ix.mk 0 rfl (by omega) ?_))
   all_goals (conv=>whnf)
   . rename_i hz;have:l=[]:=List.length_eq_zero_iff.1 (by omega);subst this;exact VLe.rfl
   . exact VLe.rfl
end Go.Proofs.YtefdkgkojlflaaaGreatDoor
