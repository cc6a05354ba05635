import Derived.Test.YtcbnimaicgegfaaGreatDoorEngAE
import Derived.Test.YtcbnimaicgegfaaGreatDoorGRCode
set_option linter.all false
namespace Go.Proofs.YtcbnimaicgegfaaGreatDoor
open Go.Eng
set_option maxRecDepth 100000
set_option maxHeartbeats 16000000
structure G where
 ids:List Int
 ports:List (List (Int×Int))
def gI (l:List Int) (i:Nat):Int:=l.getD i 0
def gF (l:List (Int×Int)) (i:Nat):Int×Int:=l.getD i (0,0)
def gR (l:List (List (Int×Int))) (i:Nat):List (Int×Int):=l.getD i []
def vI (l:List Int):Nat->Nat->V:=fun i _=>.int .i64 (gI l i)
def vF (l:List (Int×Int)):Nat->Nat->V:=fun i j=>match j with
 | 0=>.int .i64 (gF l i).1
 | _+1=>.int .i64 (gF l i).2
def vP (p:List (List (Int×Int))):Nat->Nat->V:=fun i _=>.fz (gR p i).length 2 false (vF (gR p i))
def G.v (g:G):V:=.agg [.fz g.ids.length 1 false (vI g.ids),.fz g.ports.length 1 false (vP g.ports)]
def okID (i:Int):Bool:=decide (0<=i/\i<=255)
def okL (n v:Nat) (l:Int×Int):Bool:=decide (0<=l.1/\l.1<n/\l.1≠v/\1<=l.2/\l.2<=15)
def okR (n v:Nat) (r:List (Int×Int)):Bool:=r.all (okL n v)&&decide (r.map (·.1)).Nodup
def X1k (p:List (List (Int×Int))) (v:Nat) (l:Int×Int):Bool:=decide (((v:Int),l.2)∈gR p l.1.toNat)
def Q0G (l:List Int):Bool:=l.all okID&&decide l.Nodup
def Q4y (p:List (List (Int×Int))):Bool:=decide (∀v,v<p.length->okR p.length v (gR p v)=true)
def Q5Z (p:List (List (Int×Int))):Bool:=decide (∀v,v<p.length->∀l,l∈gR p v->X1k p v l=true)
def J1R (p:List (List (Int×Int))):Bool:=Q4y p&&Q5Z p
def G.valid (g:G):Bool:=decide (1<=g.ids.length/\g.ids.length<=24/\g.ports.length=g.ids.length)&&(Q0G g.ids&&J1R g.ports)
theorem J0M (l:List Int) (i:Nat) (h:i<l.length):l.take (i+1)=l.take i++[gI l i]:=by
 rw[Xn h];simp only[gI,List.getD,Qp h,Xp]
theorem J18 (l:List (Int×Int)) (i:Nat) (h:i<l.length):l.take (i+1)=l.take i++[gF l i]:=by
 rw[Xn h];simp only[gF,List.getD,Qp h,Xp]
theorem J5T {l:List Int} {i:Nat} (h:i<l.length):gI l i∈l:=by
 simp only[gI,List.getD,Qp h];exact Xd h
theorem J4C {l:List (Int×Int)} {i:Nat} (h:i<l.length):gF l i∈l:=by
 simp only[gF,List.getD,Qp h];exact Xd h
theorem Q5b {l:List (Int×Int)} {x:Int×Int} (h:x∈l):∃i,i<l.length/\gF l i=x:=by
 obtain⟨i,a,he⟩:=Xi.1 h;exact⟨i,a,by simp only[gF,List.getD,Qp a,Xp];exact he⟩
theorem Q0F (a b c:Int):Ret Tryz.prog 116 [.int .i64 a,.int .i64 b,.int .i64 c] (.bool (decide (b<=a/\a<=c))):=by
 refine rf Y6e ?_
 repeat' ((conv=>whnf);refine Br.dec ?_ ?_<;>intro _<;>try omega)
 all_goals conv=>whnf
 all_goals exact VLe.bool (by symm;first|(rw[Qa];omega)|(rw[Qo];omega))
def Q7W (l:List Int):Nat->Nat->V:=fun j _=>.bool (decide ((j:Int)∈l))
theorem X1U (l:List Int) (a:Int) (i j:Nat) (k:Nat) (d:0<=a) (hk:k=a.toNat) (c:j<1):VLe (J1l (Q7W l) k 0 [.bool true] i j) (Q7W (l++[a]) i j):=by
 apply vE_;subst hk;have b:j=0:=by omega
 subst b;by_cases h:i=a.toNat
 . subst h;have e:((a.toNat:Nat):Int)=a:=by omega
   simp only[J1l,Q7W,e];simp
 . have:¬ (i:Int)=a:=by omega
   simp[J1l,Q7W,h,this]
theorem J2A (l:List Int):Q0G l=true↔(∀a∈l,0<=a/\a<=255)/\l.Nodup:=by
 simp[Q0G,okID]
theorem Q3G {l:List Int} (i:Nat) (h:i<l.length) (a:¬ (0<=gI l i/\gI l i<=255)\/gI l i∈l.take i):VLe (V.bool false) (V.bool (Q0G l)):=by
 refine VLe.bool ?_;symm;rw[<- Xb,J2A];rintro⟨d,c⟩;rcases a with a|a
 . exact a (d _ (J5T h))
 . have:=J0M l i h;have b:(l.take (i+1)).Nodup:=c.sublist (Jq _ _);rw[this,X4] at b;exact b.2.2 _ a _ (by simp) rfl
theorem X7F (l:List Int) (p:l.length<=1000000):Ret Tryz.prog 172 [.fz l.length 1 false (vI l)] (.bool (Q0G l)):=by
 refine rf Y5y ?_
 all_goals conv=>whnf
 refine J1y J0c [3,6,7] [] J5N [0] (fun i:Nat=>[(8,.int .i64 i)]) (fun i=>[(0,.vec 256 1 (Q7W (l.take i)))])
  (fun n i=>n=l.length-i/\i<=l.length/\(∀a∈l.take i,0<=a/\a<=255)/\(l.take i).Nodup) l.length 0 ⟨rfl,Qh _,by simp,by simp⟩ rfl (fun _=>rfl) ?_ ?_
 . exact J0a J1v
 rintro n i ⟨o,m,f,hd⟩
 repeat' ((conv=>whnf);first|(refine Br.dec ?_ ?_<;>intro _<;>try omega)|(refine Ar.q ?_)|(refine Ix.q ?_)|(refine Ix.int (by omega) (by omega) ?_)|(refine Ltn.q ?_))
 all_goals conv=>whnf
 . exact Q3G i (by omega) (.inl (by omega))
 . exact Q3G i (by omega) (.inl (by omega))
 . exact Q3G i (by omega) (.inr (by rename_i h;rwa[show(((gI l i).toNat:Nat):Int)=gI l i by omega] at h))
 . rename_i c;rw[show(((gI l i).toNat:Nat):Int)=gI l i by omega] at c;refine⟨l.length-(i+1),i+1,by omega,⟨rfl,by omega,?_,?_⟩,?_⟩
   . rw[J0M l i (by omega)];intro a g;rcases Qr.1 g with h|h
     . exact f a h
     . rw[Q0.1 h];omega
   . rw[J0M l i (by omega),X4];exact⟨hd,by simp,fun a g b d e=>c (by rw[Q0.1 d] at e;rw[<- e];exact g)⟩
   . simp only[J0M l i (by omega)];refine J0F J1v ?_;intro i j m k;exact X1U _ _ _ _ _ (by omega) rfl k
 . rw[Qz (by omega)] at f hd;exact VLe.bool ((J2A l).2 ⟨f,hd⟩).symm
abbrev Ent:=(Int×Int)×V
def Q99 (u:Nat) (r:List (Int×Int)):List Ent:=r.map fun l=>(((u:Int),l.1),V.int .i64 l.2)
def J8V (p:List (List (Int×Int))):Nat->List Ent
 | 0=>[]
 | v+1=>J8V p v++Q99 v (gR p v)
theorem Q98 (u:Nat) (r:List (Int×Int)) (l:Int×Int):Q99 u (r++[l])=Q99 u r++[(((u:Int),l.1),V.int .i64 l.2)]:=by simp[Q99]
theorem J7j {u:Nat} {r:List (Int×Int)} {e:Ent}:e∈Q99 u r↔∃l∈r,e=(((u:Int),l.1),V.int .i64 l.2):=by
 simp only[Q99,Qi];exact⟨fun⟨l,h,e⟩=>⟨l,h,e.symm⟩,fun⟨l,h,e⟩=>⟨l,h,e.symm⟩⟩
theorem J2U {p:List (List (Int×Int))} {e:Ent}:∀{v:Nat},e∈J8V p v↔∃u,u<v/\∃l∈gR p u,e=(((u:Int),l.1),V.int .i64 l.2)
 | 0=>by simp[J8V]
 | v+1=>by
   simp only[J8V,Qr,J2U (v:=v),J7j];constructor
   . rintro (⟨u,h,x⟩|x)
     . exact⟨u,by omega,x⟩
     . exact⟨v,by omega,x⟩
   . rintro⟨u,h,x⟩;by_cases a:u=v
     . subst a;exact .inr x
     . exact .inl ⟨u,by omega,x⟩
theorem J3M:∀{a:List Ent} {p:Int×Int} {x:V},J00 a p=some x->(p,x)∈a
 | [],_,_,h=>by simp[J00] at h
 | (q,u)::r,p,x,h=>by
   simp only[J00] at h;split at h
   . rename_i e;cases h;subst e;simp
   . exact Xz _ (J3M h)
theorem J6n:∀{b:List Ent} {p:Int×Int},J00 b p=none->∀x,(p,x)∉b
 | [],_,_,_=>by simp
 | (q,u)::r,p,h,x=>by
   simp only[J00] at h;split at h
   . cases h
   . rename_i e;intro c;rcases Qj.1 c with a|a
     . cases a;exact e rfl
     . exact J6n h x a
theorem Q1Z:∀{a:List Ent} {p:Int×Int} {y:V},J00 a p=none->mput a p y=a++[(p,y)]
 | [],_,_,_=>rfl
 | (q,u)::r,p,y,h=>by
   simp only[J00] at h;split at h
   . cases h
   . rename_i e;simp only[mput,Qb e,Q1,Q1Z h]
def Y2a (a:List Ent):Prop:=∀e∈a,∃w:Int,e.2=V.int .i64 w
theorem J8l (p:List (List (Int×Int))) (v:Nat):Y2a (J8V p v):=fun e he=>by
 obtain⟨u,_,l,_,rfl⟩:=J2U.1 he;exact⟨_,rfl⟩
theorem Q9D (p:List (List (Int×Int))) (v:Nat) (r:List (Int×Int)):Y2a (J8V p v++Q99 v r):=fun e he=>by
 rcases Qr.1 he with he|he
 . exact J8l p v e he
 . obtain⟨l,_,rfl⟩:=J7j.1 he;exact⟨_,rfl⟩
theorem Q12 {a:List Ent} {p:Int×Int} {A:V->Prop} {B:Prop} (d:Y2a a) (f:∀w:Int,J00 a p=some (.int .i64 w)->A (.int .i64 w)) (e:J00 a p=none->B):X37 (J00 a p) A B :=
 ⟨fun v c=>by
   obtain⟨w,b⟩:=d _ (J3M c);simp only at b;subst b;exact f w c,e⟩
theorem Q6z {n:Nat} {J11:List Nat} {c:List Ent} {A:Nat->Ent->Prop} {B:Prop} (f:Y2a c) (k:∀i (a b w:Int),i<n->i∉J11->c[i]?=some ((a,b),V.int .i64 w)->A i ((a,b),V.int .i64 w)) (j:(∀i,i<n->i∈J11)->B):Y1N n J11 c A B :=
 ⟨fun i p h g e=>by
   obtain⟨⟨a,b⟩,x⟩:=p;obtain⟨w,d⟩:=f _ (Qw e);simp only at d;subst d;exact k i a b w h g e,j⟩
theorem J2F {n v:Nat} {r:List (Int×Int)}:okR n v r=true↔(∀l∈r,0<=l.1/\l.1<n/\l.1≠v/\1<=l.2/\l.2<=15)/\(r.map (·.1)).Nodup:=by
 simp only[okR,okL,Qg,Qy,Qa]
theorem J3I {p:List (List (Int×Int))}:Q4y p=true↔∀v,v<p.length->okR p.length v (gR p v)=true:=by simp[Q4y]
theorem Q1n {p:List (List (Int×Int))}:Q5Z p=true↔∀v,v<p.length->∀l∈gR p v,((v:Int),l.2)∈gR p l.1.toNat:=by
 simp only[Q5Z,X1k,Qa]
theorem Q5d {r:List (Int×Int)} (h:(r.map (·.1)).Nodup) {a b:Int×Int} (d:a∈r) (c:b∈r) (e:a.1=b.1):a=b:=by
 induction r with
 | nil=>simp at d
 | cons x r i =>
   simp only[Qv,Q2] at h;rcases Qj.1 d with g|d
   . rcases Qj.1 c with f|c
     . rw[g,f]
     . exact(h.1 (Qi.2 ⟨b,c,by rw[<- e,g]⟩)).elim
   . rcases Qj.1 c with f|c
     . exact(h.1 (Qi.2 ⟨a,d,by rw[e,f]⟩)).elim
     . exact i h.2 d c
theorem X1L {p:List (List (Int×Int))} (n:∀v,v<p.length->okR p.length v (gR p v)=true) :
 Q5Z p=true↔∀e∈J8V p p.length,J00 (J8V p p.length) (e.1.2,e.1.1)=some e.2:=by
 rw[Q1n];constructor
 . intro h e he;obtain⟨u,m,l,d,rfl⟩:=J2U.1 he;obtain⟨s,_⟩:=J2F.1 (n u m);have y:=s l d;have o:=h u m l d;have g:l.1.toNat<p.length:=by omega
   have t:((l.1.toNat:Nat):Int)=l.1:=by omega
   simp only;cases q:J00 (J8V p p.length) (l.1,(u:Int)) with
   | none=>exact(J6n q _ (J2U.2 ⟨l.1.toNat,g,_,o,by rw[t]⟩)).elim
   | some x =>
     obtain⟨f,c,k,b,a⟩:=J2U.1 (J3M q);simp only[Qu] at a;obtain⟨⟨w,j⟩,i⟩:=a;have:f=l.1.toNat:=by omega
     subst this;have:=Q5d (J2F.1 (n _ c)).2 o b j;rw[i,<- this]
 . intro h v r l d;have:=h _ (J2U.2 ⟨v,r,l,d,rfl⟩);simp only at this;obtain⟨f,c,k,b,a⟩:=J2U.1 (J3M this);simp only[Qu,V.int.injEq,Vt] at a;obtain⟨⟨w,j⟩,i⟩:=a;have:l.1.toNat=f:=by omega
   rw[this];have:((v:Int),l.2)=k:=J0 j i;rw[this];exact b
theorem J3L {p:List (List (Int×Int))} (v:Nat) (a:v<p.length) (h:okR p.length v (gR p v)=false):VLe (V.bool false) (V.bool (J1R p)):=by
 refine VLe.bool ?_;symm;rw[J1R,Yq];left;rw[<- Xb,J3I];intro b;rw[b v a] at h;cases h
theorem J6c {n v:Nat} {r:List (Int×Int)} (j:Nat) (a:j<r.length) (h:¬ (0<=(gF r j).1/\(gF r j).1<n/\(gF r j).1≠v/\1<=(gF r j).2/\(gF r j).2<=15)):okR n v r=false:=by
 rw[<- Xb,J2F];exact fun b=>h (b.1 _ (J4C a))
theorem Q1D {n v:Nat} {r:List (Int×Int)} (j:Nat) (b:j<r.length) (h:(gF r j).1∈(r.take j).map (·.1)):okR n v r=false:=by
 rw[<- Xb,J2F];rintro⟨_,a⟩;have:=(a.sublist ((Jq (j+1) r).map _));rw[J18 r j b,Zj,X4] at this;exact this.2.2 _ h _ (by simp) rfl
theorem J8p {p:List (List (Int×Int))} {k:Nat} (h:∀r∈p,r.length<=k) (v:Nat):(gR p v).length<=k:=by
 simp only[gR,List.getD];cases a:p[v]? with
 | none=>simp
 | some r=>exact h r (Qw a)
theorem X4K {n:Nat} {l:List Nat} (b:l.Nodup) (d:∀i∈l,i<n):l.length<=n:=by
 induction n generalizing l with
 | zero =>
   cases l with
   | nil=>simp
   | cons a l=>have:=d a (by simp);omega
 | succ n g =>
   have f:=g (l:=l.erase n) (b.erase _) (fun i c=>by
    have j:=d i (List.mem_of_mem_erase c);have h:i≠n:=fun e=>by subst e;exact(b.not_mem_erase) c
    omega)
   rw[List.length_erase] at f;split at f<;>omega
theorem X9c (p:List (List (Int×Int))) (hp:p.length<=24) (N:∀r∈p,r.length<=9223372036854775807):Ret Tryz.prog 173 [.fz p.length 1 false (vP p)] (.bool (J1R p)):=by
 refine rf Y5x ?_
 all_goals conv=>whnf
 refine J1y J0c [0,3,14,15] [] J5N [0] (fun i:Nat=>[(16,.int .i64 i)]) (fun i=>[(0,.map (.pair .i64) (J8V p i))])
  (fun n i=>n=p.length-i/\i<=p.length/\∀v,v<i->okR p.length v (gR p v)=true) p.length 0 ⟨rfl,Qh _,fun v h=>by omega⟩ rfl (fun _=>rfl) ?_ ?_
 . exact J0a J1v
 rintro n v ⟨P,S,c⟩;have M:=J8p N v
 repeat' ((conv=>whnf);first|(refine Br.dec ?_ ?_<;>intro _<;>try omega)|(refine Ix.q ?_))
 all_goals conv=>whnf
 . refine J1y J0c [0,3,4,14,15,16,21,22] [] J5N [0] (fun j:Nat=>[(23,.int .i64 j)]) (fun j=>[(0,.map (.pair .i64) (J8V p v++Q99 v ((gR p v).take j)))])
    (fun n j=>n=(gR p v).length-j/\j<=(gR p v).length/\okR p.length v ((gR p v).take j)=true) (gR p v).length 0 ⟨rfl,Qh _,by simp[okR]⟩ rfl (fun _=>rfl) ?_ ?_
   . refine J0F J1v ?_;exact⟨rfl,by simp[Q99]⟩
   rintro n j ⟨P,T,d⟩
   repeat' ((conv=>whnf);first|(refine Br.dec ?_ ?_<;>intro _<;>try omega)|(refine Ar.q ?_)|(refine Ix.q ?_)|(refine Q12 (Q9D _ _ _) (fun w o=>?_) (fun o=>?_)))
   all_goals conv=>whnf
   . exact J3L v (by omega) (J6c j (by omega) (by omega))
   . exact J3L v (by omega) (J6c j (by omega) (by omega))
   . exact J3L v (by omega) (J6c j (by omega) (by omega))
   . exact J3L v (by omega) (J6c j (by omega) (by omega))
   . exact J3L v (by omega) (J6c j (by omega) (by omega))
   . refine J3L v (by omega) (Q1D j (by omega) ?_);rcases Qr.1 (J3M o) with h|h
     . obtain⟨u,H,l,_,he⟩:=J2U.1 h;simp only[Qu] at he;omega
     . obtain⟨l,t,he⟩:=J7j.1 h;simp only[Qu] at he;exact Qi.2 ⟨l,t,he.1.2.symm⟩
   . have y:(gF (gR p v) j).1∉((gR p v).take j).map (·.1):=fun h=>by
      obtain⟨l,t,he⟩:=Qi.1 h;refine J6n o (.int .i64 l.2) (Vm _ (J7j.2 ⟨l,t,?_⟩));rw[he]
     refine⟨(gR p v).length-(j+1),j+1,by omega,⟨rfl,by omega,?_⟩,?_⟩
     . rw[J2F] at d ⊢;rw[J18 _ j (by omega)];refine⟨fun l t=>?_,?_⟩
       . rcases Qr.1 t with h|h
         . exact d.1 l h
         . rw[Q0.1 h];omega
       . rw[Zj,X4];refine⟨d.2,by simp,fun a E b x e=>y ?_⟩;simp only[Qv,Vi,Q0] at x;rw[<- x,<- e];exact E
     . have R:J8V p v++Q99 v ((gR p v).take (j+1))=mput (J8V p v++Q99 v ((gR p v).take j)) ((v:Int),(gF (gR p v) j).1) (.int .i64 (gF (gR p v) j).2):=by
        rw[Q1Z o,J18 _ j (by omega),Q98,Q9]
       simp only[R];exact J0a J1v
   . have g:(gR p v).take j=gR p v:=Qz (by omega);rw[g] at d;refine⟨p.length-(v+1),v+1,by omega,⟨rfl,by omega,fun u H=>?_⟩,?_⟩
     . by_cases e:u=v
       . subst e;exact d
       . exact c u (by omega)
     . refine J0F J1v ?_;exact⟨rfl,by rw[g];rfl⟩
 . have G:v=p.length:=by omega
   subst G;have s:=X1L c;have I:Q4y p=true:=J3I.2 c;refine J1y J0c [3,69] [] J1k [1,0] (fun _:List Nat=>[]) (fun m=>[(1,.iter 0 (J8V p p.length).length m),(0,.map (.pair .i64) (J8V p p.length))])
    (fun n m=>n=(J8V p p.length).length-m.length/\m.Nodup/\(∀i∈m,i<(J8V p p.length).length)/\∀i∈m,∀e,(J8V p p.length)[i]?=some e->J00 (J8V p p.length) (e.1.2,e.1.1)=some e.2)
    (J8V p p.length).length [] ⟨rfl,by simp,by simp,by simp⟩ rfl (fun _=>rfl) ?_ ?_
   . exact J0a X4J
   rintro n m ⟨O,A,B,C⟩
   repeat' ((conv=>whnf);first|(refine Br.bne ?_ ?_<;>intro _<;>try omega)|(refine Ix.mk 0 rfl (by omega) ?_)|(refine Ix.mk 1 rfl (by omega) ?_)|(refine Chk.mk (Vh _) ?_)|(refine Q6z (J8l _ _) (fun i a b w L z he=>?_) (fun D=>?_))|(refine⟨_,List.getLast?_concat,_,‹_›,?_⟩)|(refine Q12 (J8l _ _) (fun w' o=>?_) (fun o=>?_)))
   all_goals conv=>whnf
   . refine VLe.bool ?_;symm;rw[J1R,Yq];right;rw[<- Xb,s];intro J;have:=J _ (Qw he);rw[o] at this;simp at this;contradiction
   . rename_i F;refine⟨(J8V p p.length).length-(m++[i]).length,m++[i],?_,⟨rfl,?_,?_,?_⟩,?_⟩
     . have Q:(m++[i]).Nodup:=X4.2 ⟨A,by simp,fun a E b x e=>z (by rw[Q0.1 x] at e;rw[<- e];exact E)⟩;have:=X4K Q (n:=(J8V p p.length).length) (fun k hk=>by
        rcases Qr.1 hk with h|h
        . exact B k h
        . rw[Q0.1 h];exact L)
       simp at this ⊢;omega
     . exact X4.2 ⟨A,by simp,fun a E b x e=>z (by rw[Q0.1 x] at e;rw[<- e];exact E)⟩
     . intro k hk;rcases Qr.1 hk with h|h
       . exact B k h
       . rw[Q0.1 h];exact L
     . intro k hk e f;rcases Qr.1 hk with h|h
       . exact C k h e f
       . rw[Q0.1 h,he] at f;cases f;rw[o,F]
     . exact J0a X4J
   . refine VLe.bool ?_;symm;rw[J1R,Yq];right;rw[<- Xb,s];intro J;have:=J _ (Qw he);rw[o] at this;cases this
   . exfalso;obtain⟨u,H,l,t,K⟩:=J2U.1 (Qw he);have:=(J2F.1 (c u H)).1 l t;simp only[Qu,V.int.injEq,Vt] at K;omega
   . refine VLe.bool ?_;symm;rw[J1R,Qg];refine⟨I,s.2 fun e he=>?_⟩;obtain⟨k,hk,f⟩:=Xi.1 he;exact C k (D k hk) e (by rw[<- f];simp[hk])
structure G.Small (g:G):Prop where
 ids:g.ids.length<=9223372036854775807
 ports:g.ports.length<=9223372036854775807
 rows:∀r∈g.ports,r.length<=9223372036854775807
theorem X1B (g:G) (a:g.Small):Ret Tryz.prog 126 [g.v] (.bool g.valid):=by
 refine rf Y56 ?_;have i:=a.ids;have f:=a.ports;by_cases h:1<=g.ids.length/\g.ids.length<=24/\g.ports.length=g.ids.length
 . rw[G.valid,Qn h,Zm];have c:=X7F g.ids (by omega);have b:=X9c g.ports (by omega) a.rows;revert c b;generalize Q0G g.ids=e;generalize J1R g.ports=d;intro c b;cases e<;>cases d <;>
   repeat' ((conv=>whnf);first|(refine Br.tt ?_)|(refine Br.ff ?_)|(refine Br.dec ?_ ?_<;>intro _<;>try omega)|(refine Br.bne ?_ ?_<;>intro _<;>try omega)|(refine(c _ _).mono ?_;rintro _ _ _ ⟨rfl,rfl,rfl⟩)|(refine(b _ _).mono ?_;rintro _ _ _ ⟨rfl,rfl,rfl⟩))
   all_goals conv=>whnf
   all_goals exact vR_
 . rw[G.valid,Qm h,Zk];exact Wq
theorem X2l {n v:Nat} {r:List (Int×Int)} {i:Nat} (k:i<r.length) (h:okR n v (r.take i)=true) (j:0<=(gF r i).1/\(gF r i).1<n/\(gF r i).1≠v/\1<=(gF r i).2/\(gF r i).2<=15) (g:(gF r i).1∉(r.take i).map (·.1)):okR n v (r.take (i+1))=true:=by
 rw[J2F] at h ⊢;rw[J18 _ i k];refine⟨fun l c=>?_,?_⟩
 . rcases Qr.1 c with d|d
   . exact h.1 l d
   . rw[Q0.1 d];exact j
 . rw[Zj,X4];refine⟨h.2,by simp,fun a m b f e=>g ?_⟩;simp only[Qv,Vi,Q0] at f;rw[<- f,<- e];exact m
theorem X2E (r:List (Int×Int)) (v n:Nat) (f:v<=1000) (h:n<=1000) (g:r.length<=9223372036854775807):Ret Tryz.prog 120 [.fz r.length 2 false (vF r),.int .i64 v,.int .i64 n] (.bool (okR n v r)):=by
 refine rf Y6a ?_
 all_goals conv=>whnf
 refine J0h J0c [0,1,2] (fun i:Nat=>[(7,.int .i64 i)]) (fun m i=>m=r.length-i/\i<=r.length/\okR n v (r.take i)=true) r.length 0 ⟨rfl,Qh _,by simp[okR]⟩ ?_ ?_
 . exact J0a J1A
 rintro m i ⟨d,j,b⟩
 repeat' ((conv=>whnf);first|(refine Br.dec ?_ ?_<;>intro _<;>try omega)|(refine Ar.q ?_)|(refine Ix.q ?_)|(refine(Q0F _ _ _ _ _).mono ?_;rintro _ _ _ ⟨rfl,rfl,rfl⟩))
 all_goals conv=>whnf
 all_goals try exact VLe.bool (J6c i (by omega) (by omega)).symm
 . refine J0h J0c [0,1,2,7] (fun k:Nat=>[(8,.int .i64 k)]) (fun m k=>m=i-k/\k<=i/\(gF r i).1∉(r.take k).map (·.1)) i 0 ⟨rfl,Qh _,by simp⟩ ?_ ?_
   . exact J0a J1A
   rintro m k ⟨d,hk,a⟩
   repeat' ((conv=>whnf);first|(refine Br.dec ?_ ?_<;>intro _<;>try omega)|(refine Ar.q ?_)|(refine Ix.q ?_))
   all_goals conv=>whnf
   . rename_i he;refine VLe.bool (Q1D i (by omega) ?_).symm;rw[<- he];refine Qi.2 ⟨gF r k,?_,rfl⟩;have:=K1 (l:=r) (show k+1<=i by omega);exact this.subset (by rw[J18 r k (by omega)];simp)
   . rename_i he;refine⟨i-(k+1),k+1,by omega,⟨rfl,by omega,?_⟩,?_⟩
     . rw[J18 r k (by omega),Zj,Qr,not_or];exact⟨a,by simp;exact fun e=>he e.symm⟩
     . exact J0a J1A
   . have c:k=i:=by omega
     subst c;refine⟨r.length-(k+1),k+1,by omega,⟨rfl,by omega,X2l (by omega) b (by omega) a⟩,?_⟩;exact J0a J1A
 . rw[Qz (by omega)] at b;rw[b];exact vR_
def J6i (r:List (Int×Int)) (u:Int):Int:=match r.findIdx? (fun l=>decide (l.1=u)) with
 | some k=>k
 | none=>-1
theorem Q6t {r:List (Int×Int)} {u:Int} {i:Nat} (a:i<r.length) (h:∀l∈r.take i,l.1≠u) (he:(gF r i).1=u):J6i r u=i:=by
 have:r.findIdx? (fun l=>decide (l.1=u))=some i:=by
  rw[Kb];refine⟨a,?_,fun j b=>?_⟩
  . have:gF r i=r[i]:=by simp only[gF,List.getD,Qp a,Xp]
    rw[<- this];simpa using he
  . have:=h r[j] (by rw[List.mem_take_iff_getElem];exact⟨j,by omega,rfl⟩);simpa using this
 simp only[J6i,this]
theorem Q6u {r:List (Int×Int)} {u:Int} (h:∀l∈r,l.1≠u):J6i r u=-1:=by
 have:r.findIdx? (fun l=>decide (l.1=u))=none:=by
  rw[K7];intro x a;simpa using h x a
 simp only[J6i,this]
theorem Q3u (r:List (Int×Int)) (u:Int):(J6i r u=-1/\∀l∈r,l.1≠u)\/∃i,i<r.length/\J6i r u=(i:Int)/\(gF r i).1=u:=by
 unfold J6i;cases h:r.findIdx? (fun l=>decide (l.1=u)) with
 | none =>
   rw[K7] at h;exact .inl ⟨rfl,fun l b=>by simpa using h l b⟩
 | some i =>
   rw[Kb] at h;obtain⟨a,c,_⟩:=h;refine .inr ⟨i,a,rfl,?_⟩;simp only[gF,List.getD,Qp a,Xp];simpa using c
theorem Q8A (g:G) (d:g.Small) (v:Nat) (u:Int) (f:v<g.ports.length):Ret Tryz.prog 121 [g.v,.int .i64 v,.int .i64 u] (.int .i64 (J6i (gR g.ports v) u)):=by
 have e:=J8p d.rows v;refine rf Y59 ?_
 all_goals conv=>whnf
 refine J0h J0c [1,2,3] (fun i:Nat=>[(7,.int .i64 i)]) (fun m i=>m=(gR g.ports v).length-i/\i<=(gR g.ports v).length/\∀l∈(gR g.ports v).take i,l.1≠u) (gR g.ports v).length 0 ⟨rfl,Qh _,by simp⟩ ?_ ?_
 . exact J0a J1v
 rintro m i ⟨j,k,a⟩
 repeat' ((conv=>whnf);first|(refine Br.dec ?_ ?_<;>intro _<;>try omega)|(refine Ar.q ?_)|(refine Ix.q ?_))
 all_goals conv=>whnf
 . rw[Q6t (by omega) a ‹_›];exact vR_
 . rename_i b;refine⟨(gR g.ports v).length-(i+1),i+1,by omega,⟨rfl,by omega,fun l c=>?_⟩,?_⟩
   . rw[J18 _ i (by omega)] at c;rcases Qr.1 c with h|h
     . exact a l h
     . rw[Q0.1 h];exact b
   . exact J0a J1v
 . rw[Qz (by omega)] at a;rw[Q6u a];exact vR_
theorem Q8S {n v:Nat} {r:List (Int×Int)} (s:v<n) (h:okR n v r=true):r.length<n:=by
 obtain⟨k,p⟩:=J2F.1 h;have f:(v::(r.map fun l=>l.1.toNat)).Nodup:=by
  refine Q2.2 ⟨fun j=>?_,?_⟩
  . obtain⟨l,c,e⟩:=Qi.1 j;have:=k l c;omega
  . have:∀(q:List (Int×Int)),(∀l∈q,0<=l.1)->(q.map (·.1)).Nodup->(q.map fun l=>l.1.toNat).Nodup:=by
     intro q
     induction q with
     | nil=>intro _ _;simp
     | cons x q m =>
       intro d g;simp only[Qv,Q2] at g ⊢;refine⟨fun j=>?_,m (fun l c=>d l (by simp[c])) g.2⟩;obtain⟨l,c,e⟩:=Qi.1 j;refine g.1 (Qi.2 ⟨l,c,?_⟩);have a:=d l (by simp[c]);have b:=d x (by simp);omega
    exact this r (fun l c=>(k l c).1) p
 have:=X4K f (n:=n) (fun i o=>by
  rcases Qj.1 o with e|e
  . omega
  . obtain⟨l,c,rfl⟩:=Qi.1 e;have:=k l c;omega)
 simp at this;omega
theorem X1K {p:List (List (Int×Int))} (g:∀v,v<p.length->okR p.length v (gR p v)=true) {v:Nat} {l:Int×Int} (j:v<p.length) (k:l∈gR p v) :
 (X1k p v l=true/\∃i,i<(gR p l.1.toNat).length/\J6i (gR p l.1.toNat) v=(i:Int)/\(gF (gR p l.1.toNat) i).2=l.2) \/
 (X1k p v l=false/\(J6i (gR p l.1.toNat) v=-1\/∃i,i<(gR p l.1.toNat).length/\J6i (gR p l.1.toNat) v=(i:Int)/\(gF (gR p l.1.toNat) i).2≠l.2)):=by
 have m:=(J2F.1 (g v j)).1 l k;have d:l.1.toNat<p.length:=by omega
 have e:=(J2F.1 (g _ d)).2;rcases Q3u (gR p l.1.toNat) v with ⟨a,c⟩ | ⟨i,a,c,h⟩
 . right;refine⟨?_,.inl a⟩;rw[<- Xb,X1k,Qa];exact fun f=>c _ f rfl
 . by_cases b:(gF (gR p l.1.toNat) i).2=l.2
   . left;refine⟨?_,i,a,c,b⟩;rw[X1k,Qa];have:=J4C a
     rwa[show gF (gR p l.1.toNat) i=((v:Int),l.2) from J0 h b] at this
   . right;refine⟨?_,.inr ⟨i,a,c,b⟩⟩;rw[<- Xb,X1k,Qa];intro f;have:=Q5d e f (J4C a) h.symm;exact b (by rw[<- this])
theorem Q7x {g:G} (h:Q0G g.ids=false):VLe (V.bool false) (V.bool g.valid):=by
 rw[G.valid,h];simp;exact .rfl
theorem Q7w {g:G} (v:Nat) (a:v<g.ports.length) (h:okR g.ports.length v (gR g.ports v)=false):VLe (V.bool false) (V.bool g.valid):=by
 have:J1R g.ports=false:=by
  rw[J1R,Yq];left;rw[<- Xb,J3I];intro b;rw[b v a] at h;cases h
 rw[G.valid,this];simp;exact .rfl
theorem Q7v {g:G} (v:Nat) (a:v<g.ports.length) (l:Int×Int) (b:l∈gR g.ports v) (h:X1k g.ports v l=false):VLe (V.bool false) (V.bool g.valid):=by
 have:J1R g.ports=false:=by
  rw[J1R,Yq];right;rw[<- Xb,Q5Z,Qa];intro c;rw[c v a l b] at h;cases h
 rw[G.valid,this];simp;exact .rfl
theorem J7N (g:G) (y:g.Small):Ret Tryz.prog 66 [g.v] (.bool g.valid):=by
 have Q:=y.ids;have P:=y.ports;refine rf fj66 ?_;by_cases h:1<=g.ids.length/\g.ids.length<=24/\g.ports.length=g.ids.length
 . repeat' ((conv=>whnf);first|(refine Br.dec ?_ ?_<;>intro _<;>try omega)|(refine Br.bne ?_ ?_<;>intro _<;>try omega)|(refine(Q0F _ _ _ _ _).mono ?_;rintro _ _ _ ⟨rfl,rfl,rfl⟩))
   all_goals conv=>whnf
   refine J0h J0c [1,3] (fun i:Nat=>[(4,.int .i64 i)]) (fun m v=>m=g.ports.length-v/\v<=g.ports.length/\Q0G (g.ids.take v)=true/\∀u,u<v->okR g.ports.length u (gR g.ports u)=true) g.ports.length 0 ⟨rfl,Qh _,rfl,fun u E=>by omega⟩ ?_ ?_
   . exact J0a J1v
   rintro m v ⟨F,N,j,c⟩;have z:=J8p y.rows v;have H:v<g.ports.length->Ret Tryz.prog 120 [.fz (gR g.ports v).length 2 false (vF (gR g.ports v)),.int .i64 v,.int .i64 g.ports.length] (.bool (okR g.ports.length v (gR g.ports v))):=fun h=>X2E _ v _ (by omega) (by omega) z;rw[J2A] at j
   repeat' ((conv=>whnf);first|(refine Br.dec ?_ ?_<;>intro _<;>try omega)|(refine Ix.q ?_)|(refine(Q0F _ _ _ _ _).mono ?_;rintro _ _ _ ⟨rfl,rfl,rfl⟩)|(refine(H (by omega) _ _).mono ?_;rintro _ _ _ ⟨rfl,rfl,rfl⟩)|(refine Br.any (fun _=>?_) (fun _=>?_)))
   all_goals conv=>whnf
   . refine Q7w v (by omega) ?_;rw[<- Xb];intro I;have:=Q8S (by omega) I;omega
   . refine J0h J0c [1,3,4] (fun u:Nat=>[(5,.int .i64 u)]) (fun m u=>m=v-u/\u<=v/\gI g.ids v∉g.ids.take u) v 0 ⟨rfl,Qh _,by simp⟩ ?_ ?_
     . exact J0a J1v
     rintro m u ⟨F,E,r⟩
     repeat' ((conv=>whnf);first|(refine Br.dec ?_ ?_<;>intro _<;>try omega)|(refine Ar.q ?_)|(refine Ix.q ?_))
     all_goals conv=>whnf
     . rename_i he;refine Q7x ?_;rw[<- Xb,J2A];rintro⟨_,C⟩;have C:=C.sublist (Jq (v+1) g.ids);rw[J0M g.ids v (by omega),X4] at C;refine C.2.2 (gI g.ids v) ?_ _ (by simp) rfl;rw[<- he];have:=K1 (l:=g.ids) (show u+1<=v by omega);exact this.subset (by rw[J0M g.ids u (by omega)];simp)
     . rename_i he;refine⟨v-(u+1),u+1,by omega,⟨rfl,by omega,?_⟩,?_⟩
       . rw[J0M g.ids u (by omega),Qr,not_or];exact⟨r,by simp;exact fun e=>he e.symm⟩
       . exact J0a J1v
     . have D:u=v:=by omega
       subst D;refine⟨g.ports.length-(u+1),u+1,by omega,⟨rfl,by omega,?_,fun w K=>?_⟩,?_⟩
       . rw[J2A,J0M g.ids u (by omega)];refine⟨fun a J=>?_,X4.2 ⟨j.2,by simp,fun a J b M e=>r (by rw[Q0.1 M] at e;rw[<- e];exact J)⟩⟩;rcases Qr.1 J with x|x
         . exact j.1 a x
         . rw[Q0.1 x];assumption
       . by_cases e:w=u
         . subst e;assumption
         . exact c w (by omega)
       . exact J0a J1v
   . exact Q7w v (by omega) ‹_›
   . refine Q7x ?_;rw[<- Xb,J2A];rintro⟨I,_⟩;have:=I (gI g.ids v) (J5T (by omega));contradiction
   . have s:v=g.ports.length:=by omega
     subst s;rw[Qz (by omega)] at j;have B:Q0G g.ids=true:=(J2A _).2 j;refine J0h J0c [1,3] (fun i:Nat=>[(6,.int .i64 i)]) (fun m v=>m=g.ports.length-v/\v<=g.ports.length/\∀u,u<v->∀l∈gR g.ports u,X1k g.ports u l=true) g.ports.length 0 ⟨rfl,Qh _,fun u E=>by omega⟩ ?_ ?_
     . exact J0a J1v
     rintro m v ⟨F,N,p⟩;have z:=J8p y.rows v
     repeat' ((conv=>whnf);refine Br.dec ?_ ?_<;>intro _<;>try omega)
     all_goals conv=>whnf
     . refine J0h J0c [1,3,6] (fun i:Nat=>[(7,.int .i64 i)]) (fun m i=>m=(gR g.ports v).length-i/\i<=(gR g.ports v).length/\∀l∈(gR g.ports v).take i,X1k g.ports v l=true) (gR g.ports v).length 0 ⟨rfl,Qh _,by simp⟩ ?_ ?_
       . exact J0a J1v
       rintro m i ⟨F,R,t⟩;by_cases f:i<(gR g.ports v).length
       . have n:v<g.ports.length:=by omega
         have M:=(J2F.1 (c v n)).1 _ (J4C f);have hp:=Q8A g y (gF (gR g.ports v) i).1.toNat v (by omega);rw[show(((gF (gR g.ports v) i).1.toNat:Nat):Int)=(gF (gR g.ports v) i).1 by omega] at hp;have L:=J8p y.rows (gF (gR g.ports v) i).1.toNat;rcases X1K c n (J4C f) with ⟨o,k,hk,d,K⟩ | ⟨o,d | ⟨k,hk,d,K⟩⟩
         . rw[d] at hp
           repeat' ((conv=>whnf);first|(refine Br.ff ?_)|(refine Br.dec ?_ ?_<;>intro _<;>try omega)|(refine Br.bne ?_ ?_<;>intro _<;>try omega)|(refine Ar.q ?_)|(refine Ix.q ?_)|(refine Ix.int (by omega) (by omega) ?_)|(refine(hp _ _).mono ?_;rintro _ _ _ ⟨rfl,rfl,rfl⟩))
           all_goals conv=>whnf
           all_goals first|(exfalso;omega)|skip
           refine⟨(gR g.ports v).length-(i+1),i+1,by omega,⟨rfl,by omega,fun l A=>?_⟩,?_⟩
           . rw[J18 _ i f] at A;rcases Qr.1 A with x|x
             . exact t l x
             . rw[Q0.1 x];exact o
           . exact J0a J1v
         . rw[d] at hp
           repeat' ((conv=>whnf);first|(refine Br.tt ?_)|(refine Br.dec ?_ ?_<;>intro _<;>try omega)|(refine Ix.q ?_)|(refine(hp _ _).mono ?_;rintro _ _ _ ⟨rfl,rfl,rfl⟩))
           all_goals conv=>whnf
           all_goals first|exact Q7v v n _ (J4C f) o|(exfalso;omega)
         . rw[d] at hp
           repeat' ((conv=>whnf);first|(refine Br.ff ?_)|(refine Br.dec ?_ ?_<;>intro _<;>try omega)|(refine Br.bne ?_ ?_<;>intro _<;>try omega)|(refine Ix.q ?_)|(refine Ix.int (by omega) (by omega) ?_)|(refine(hp _ _).mono ?_;rintro _ _ _ ⟨rfl,rfl,rfl⟩))
           all_goals conv=>whnf
           all_goals first|exact Q7v v n _ (J4C f) o|(exfalso;omega)
       . repeat' ((conv=>whnf);first|(refine Br.dec ?_ ?_<;>intro _<;>try omega)|(refine Ar.q ?_)|(refine Ix.q ?_))
         all_goals conv=>whnf
         rw[Qz (by omega)] at t;refine⟨g.ports.length-(v+1),v+1,by omega,⟨rfl,by omega,fun u E l A=>?_⟩,?_⟩
         . by_cases e:u=v
           . subst e;exact t l A
           . exact p u (by omega) l A
         . exact J0a J1v
     . have s:v=g.ports.length:=by omega
       subst s;have O:J1R g.ports=true:=by
        rw[J1R,Qg];exact⟨J3I.2 c,by rw[Q5Z,Qa];exact p⟩
       rw[G.valid,Qn h,B,O];exact vR_
 . rw[G.valid,Qm h,Zk]
   repeat' ((conv=>whnf);first|(refine Br.dec ?_ ?_<;>intro _<;>try omega)|(refine Br.bne ?_ ?_<;>intro _<;>try omega)|(refine(Q0F _ _ _ _ _).mono ?_;rintro _ _ _ ⟨rfl,rfl,rfl⟩))
   all_goals conv=>whnf
   all_goals exact vR_
abbrev Cf:=List (List Int)
def gC (c:Cf) (i:Nat):List Int:=c.getD i []
def vC (c:Cf):Nat->Nat->V:=fun i _=>.fz (gC c i).length 1 false (vI (gC c i))
def cV (c:Cf):V:=.fz c.length 1 false (vC c)
def conf (n m:Nat) (B:Nat->Nat->Int×Int) (c:Cf):Bool :=
 decide (c.length=n)&&decide (∀v,v<n->(gC c v).length=m/\∀x,x<m->(B v x).1<=gI (gC c v) x/\gI (gC c v) x<=(B v x).2)
structure Vr where
 name:ByteArray
 kind:Int
 lo:Int
 hi:Int
 pn:Int
 pid:Int
instance:Inhabited Vr:=⟨⟨ByteArray.mk #[],0,0,0,0,0⟩⟩
def gV (l:List Vr) (i:Nat):Vr:=l.getD i default
def vV (l:List Vr):Nat->Nat->V:=fun i j=>match j with
 | 0=>.str (gV l i).name
 | 1=>.int .i64 (gV l i).kind
 | 2=>.int .i64 (gV l i).lo
 | 3=>.int .i64 (gV l i).hi
 | 4=>.int .i64 (gV l i).pn
 | _=>.int .i64 (gV l i).pid
def J64:List Int->Int->Int
 | [],m=>m
 | a::r,m=>J64 r (if a > m then a else m)
theorem J5I:∀(l:List Int) (a m:Int),J64 (l++[a]) m=if a > J64 l m then a else J64 l m
 | [],a,m=>rfl
 | x::r,a,m=>J5I r a _
theorem Q9i:∀(l:List Int) (m k:Int),m<=k->(∀a∈l,a<=k)->J64 l m<=k
 | [],m,k,h,_=>h
 | a::r,m,k,h,c=>Q9i r _ k (by have:=c a (by simp);split<;>omega) (fun b d=>c b (by simp[d]))
theorem Q9j:∀(l:List Int) (m:Int),m<=J64 l m
 | [],m=>Y1 _
 | a::r,m=>Int.le_trans (by split<;>omega) (Q9j r _)
theorem J0e {g:G} (h:g.valid=true):1<=g.ids.length/\g.ids.length<=24/\g.ports.length=g.ids.length/\(∀a∈g.ids,0<=a/\a<=255)/\g.ids.Nodup/\(∀v,v<g.ports.length->okR g.ports.length v (gR g.ports v)=true)/\∀v,v<g.ports.length->∀l∈gR g.ports v,((v:Int),l.2)∈gR g.ports l.1.toNat:=by
 simp only[G.valid,Qg,Qa,J1R] at h;obtain⟨⟨i,f,e⟩,b,d,c⟩:=h;have b:=(J2A _).1 b;exact⟨i,f,e,b.1,b.2,J3I.1 d,Q1n.1 c⟩
def inR (a:Int):Prop:=-1073741824<=a/\a<=1073741824
def J6I (b:Bool):Int:=match b with|true=>1|false=>0
def sat (a:Int):Int:=if (if 1073741824<a then 1073741824 else a) > -1073741824 then (if 1073741824<a then 1073741824 else a) else -1073741824
theorem X4i (a:Int):inR (sat a):=by unfold sat inR;split<;>split at*<;> omega
theorem X9j {a:Int} (h:inR a):sat a=a:=by unfold inR at h;unfold sat;rw[Qb (show ¬ 1073741824<a by omega)];split<;>omega
theorem J9g (b:Bool):inR (J6I b):=by cases b<;>simp[J6I,inR]
theorem X4h (a:Int):Ret Tryz.prog 238 [.int .i64 a] (.int .i64 (sat a)):=by
 refine rf Y4L ?_;refine Vq ?_;exact VLe.int rfl
theorem J6H (b:Bool):Ret Tryz.prog 236 [.bool b] (.int .i64 (J6I b)):=by
 refine rf Y4N ?_;cases b
 all_goals
  all_goals conv=>whnf
  exact vR_
def unI (op a:Int):Int:=if op=18 then -a else J6I (decide (a=0))
theorem Y2c {op a:Int} (h:inR a):inR (unI op a):=by
 unfold unI;split
 . unfold inR at *;omega
 . exact J9g _
theorem X1F (op a:Int) (h:inR a):Ret Tryz.prog 212 [.int .i64 op,.int .i64 a] (.int .i64 (unI op a)):=by
 have d:=J6H true;have e:=J6H false;unfold inR at h;refine rf Y42 ?_;rw[unI]
 repeat' ((conv=>whnf);first|(refine Br.dec ?_ ?_<;>intro _<;>try omega)|(refine Ar.q ?_)|(refine d.go ?_)|(refine e.go ?_))
 all_goals conv=>whnf
 . rename_i b;rw[Qe b];exact VLe.int (by omega)
 . rename_i b c;rw[Qb b,Qn c];exact vR_
 . rename_i b c;rw[Qb b,Qm c];exact vR_
def Q2U (a b:Int):Int:=if b=0 then 0 else if a.tmod b≠0/\¬ ((a<0)↔(b<0)) then a.tdiv b-1 else a.tdiv b
theorem J6a {a:Int} (b:Int) {m:Int} (h:-m<=a/\a<=m):-m<=a.tdiv b/\a.tdiv b<=m:=by
 have c:(a.tdiv b).natAbs<=a.natAbs:=by rw[Int.natAbs_tdiv];exact Ky _ _
 omega
theorem J9q {a:Int} (b:Int) (h:inR a):-1073741825<=Q2U a b/\Q2U a b<=1073741825:=by
 have:=J6a b h;unfold Q2U;split
 . omega
 . split<;>omega
theorem X9q (a b:Int) (c:inR a):Ret Tryz.prog 239 [.int .i64 a,.int .i64 b] (.int .i64 (Q2U a b)):=by
 have j:=J6a b c;unfold inR at c;refine rf Y4K ?_;rw[Q2U];by_cases d:b=0
 . rw[Qe d];exact Wq
 . rw[Qb d];generalize i:a.tdiv b=q at *;generalize h:a.tmod b=r at *;by_cases g:a<0
   all_goals by_cases f:b<0
   all_goals by_cases e:r=0
   all_goals
    repeat' ((conv=>whnf);first|(refine Ar.mk q (by rw[i];exact(J0Y (by omega) (by omega)).symm) ?_)|(refine Sv.mk r (by rw[h]) ?_)|(refine Br.tt ?_)|(refine Br.ff ?_)|(refine Br.dec ?_ ?_<;>intro _<;>try omega)|(refine Br.bne ?_ ?_<;>intro _<;>try omega)|(refine Ar.q ?_)|(refine Nz.mk (by omega) ?_))
    all_goals conv=>whnf
    all_goals exact VLe.int (by simp[g,f,e])
theorem Q4Q {a b A B:Int} (d:-A<=a/\a<=A) (c:-B<=b/\b<=B) (f:0<=A) (e:0<=B):-(A*B)<=a*b/\a*b<=A*B:=by
 have h:(a*b).natAbs<=A.natAbs*B.natAbs:=by rw[Int.natAbs_mul];exact Z0 (by omega) (by omega)
 have g:((A.natAbs*B.natAbs:Nat):Int)=A*B:=by rw[Zq];congr 1<;>omega
 omega
def X7N (op a b:Int):Bool :=
 if op=35 then decide (a=b) else if op=36 then decide (a≠b) else if op=37 then decide (a<b) else if op=38 then decide (a<=b) else if op=39 then decide (b<a) else decide (b<=a)
theorem Q2w (op a b:Int) (h:35<=op/\op<=40):Ret Tryz.prog 240 [.int .i64 op,.int .i64 a,.int .i64 b] (.bool (X7N op a b)):=by
 refine rf Y4J ?_;rcases (show op=35\/op=36\/op=37\/op=38\/op=39\/op=40 by omega) with rfl|rfl|rfl|rfl|rfl|rfl
 all_goals
  repeat' ((conv=>whnf);first|(refine Br.tt ?_)|(refine Br.ff ?_)|(refine Br.dec ?_ ?_<;>intro _<;>try omega)|(refine Br.bne ?_ ?_<;>intro _<;>try omega))
  all_goals conv=>whnf
  all_goals exact VLe.bool (by simp[X7N];omega)
def Q2Z (op a b:Int):Int :=
 if op=30 then sat (a*b) else if op=31 then sat (Q2U a b) else if op=32 then (if b=0 then 0 else sat (a-b*Q2U a b)) else if op=33 then sat (a+b) else if op=34 then sat (a-b)
 else if op=41 then J6I (decide (a≠0/\b≠0)) else if op=42 then J6I (decide (a≠0\/b≠0)) else J6I (X7N op a b)
theorem Y1x (op a b:Int):inR (Q2Z op a b):=by
 unfold Q2Z
 repeat' split
 all_goals first|exact X4i _|exact J9g _|(unfold inR;omega)
theorem X0Y (op a b:Int) (f:inR a) (g:inR b) (h:30<=op/\op<=42):Ret Tryz.prog 214 [.int .i64 op,.int .i64 a,.int .i64 b] (.int .i64 (Q2Z op a b)):=by
 have d:=X4h;have l:=J6H true;have m:=J6H false;have p:=X9q a b f;have n:=J9q b f;have w:=Q4Q f g (by omega) (by omega);have r:=Q4Q g n (by omega) (by omega);have c:=Q2w op a b;have u:=f;have t:=g;unfold inR at f g;refine rf Y40 ?_;rcases (show op=30\/op=31\/op=32\/op=33\/op=34\/(35<=op/\op<=40)\/op=41\/op=42 by omega) with rfl|rfl|rfl|rfl|rfl|v|rfl|rfl
 . have e:Q2Z 30 a b=sat (a*b):=rfl;rw[e];generalize o:a*b=P at *
   repeat' ((conv=>whnf);first|(refine Ar.mk P (by rw[o];exact(J0Y (by omega) (by omega)).symm) ?_)|(refine Br.tt ?_)|(refine(d P).go ?_))
   all_goals conv=>whnf
   exact vR_
 . have e:Q2Z 31 a b=sat (Q2U a b):=rfl;rw[e]
   repeat' ((conv=>whnf);first|(refine Br.tt ?_)|(refine Br.ff ?_)|(refine p.go ?_)|(refine(d _).go ?_))
   all_goals conv=>whnf
   exact vR_
 . have e:Q2Z 32 a b=(if b=0 then 0 else sat (a-b*Q2U a b)):=rfl;rw[e];by_cases k:b=0
   . rw[Qe k];exact Wq
   . rw[Qb k];generalize x:Q2U a b=Q at *;generalize o:b*Q=P at *
     repeat' ((conv=>whnf);first|(refine Ar.mk P (by rw[o];exact(J0Y (by omega) (by omega)).symm) ?_)|(refine Br.tt ?_)|(refine Br.ff ?_)|(refine Br.dec ?_ ?_<;>intro _<;>try omega)|(refine Ar.q ?_)|(refine p.go ?_)|(refine(d _).go ?_))
     all_goals conv=>whnf
     exact vR_
 . have e:Q2Z 33 a b=sat (a+b):=rfl;rw[e]
   repeat' ((conv=>whnf);first|(refine Br.tt ?_)|(refine Br.ff ?_)|(refine Ar.q ?_)|(refine(d _).go ?_))
   all_goals conv=>whnf
   exact vR_
 . have e:Q2Z 34 a b=sat (a-b):=rfl;rw[e]
   repeat' ((conv=>whnf);first|(refine Br.tt ?_)|(refine Br.ff ?_)|(refine Ar.q ?_)|(refine(d _).go ?_))
   all_goals conv=>whnf
   exact vR_
 . have e:Q2Z op a b=J6I (X7N op a b):=by
    unfold Q2Z;rw[Qb (by omega),Qb (by omega),Qb (by omega),Qb (by omega),Qb (by omega),Qb (by omega),Qb (by omega)]
   rw[e];have c:=c v
   repeat' ((conv=>whnf);first|(refine Br.dec ?_ ?_<;>intro _<;>try omega)|(refine c.go ?_)|(refine l.go ?_)|(refine m.go ?_)|(refine Br.any (fun _=>?_) (fun _=>?_)))
   all_goals conv=>whnf
   all_goals (rename_i s;rw[s];exact vR_)
 . have e:Q2Z 41 a b=J6I (decide (a≠0/\b≠0)):=rfl;rw[e];by_cases j:a=0
   all_goals by_cases i:b=0
   all_goals
    refine Vq ?_;exact VLe.int (by simp[j,i,J6I])
 . have e:Q2Z 42 a b=J6I (decide (a≠0\/b≠0)):=rfl;rw[e];by_cases j:a=0
   all_goals by_cases i:b=0
   all_goals
    refine Vq ?_;exact VLe.int (by simp[j,i,J6I])
def Q1a (l:List Int):Nat:=l.countP fun a=>decide (a≠0)
theorem J8F (l:List Int) (a:Int):Q1a (l++[a])=if a≠0 then Q1a l+1 else Q1a l:=by
 simp only[Q1a,List.countP_append,List.countP_singleton];by_cases h:a=0<;>simp[h]
theorem J8G (l:List Int):Q1a l<=l.length:=Vo
theorem X3i (l:List Int) (c:l.length<=1000):Ret Tryz.prog 256 [.fz l.length 1 false (vI l)] (.int .i64 (Q1a l)):=by
 refine rf Y4y ?_
 all_goals conv=>whnf
 refine J0h J0c [6,7] (fun i:Nat=>[(3,.int .i64 (Q1a (l.take i))),(8,.int .i64 i)]) (fun m i=>m=l.length-i/\i<=l.length) l.length 0 ⟨rfl,Qh _⟩ ?_ ?_
 . exact J0a J1A
 rintro m i ⟨b,d⟩;have f:=J8G (l.take i);have a:(l.take i).length<=1000:=by rw[Zt];omega
 repeat' ((conv=>whnf);first|(refine Br.dec ?_ ?_<;>intro _<;>try omega)|(refine Br.bne ?_ ?_<;>intro _<;>try omega)|(refine Ar.q ?_)|(refine Ix.q ?_))
 all_goals conv=>whnf
 . have e:Q1a (l.take (i+1))=Q1a (l.take i)+1:=by rw[J0M l i (by omega),J8F,Qe (by assumption)]
   refine⟨l.length-(i+1),i+1,by omega,⟨rfl,by omega⟩,?_⟩;exact J0a J1A
 . have e:Q1a (l.take (i+1))=Q1a (l.take i):=by rw[J0M l i (by omega),J8F,Qb (by simp_all)]
   refine⟨l.length-(i+1),i+1,by omega,⟨rfl,by omega⟩,?_⟩;exact J0a J1A
 . rw[Qz (by omega)];exact vR_
def J6s:Nat->List Int->Int
 | _,[]=>-1
 | k,a::r=>if a≠0 then k else J6s (k+1) r
theorem J1X:∀(l:List Int) (k i:Nat),i<=l.length->(∀a∈l.take i,a=0)->J6s k l=J6s (k+i) (l.drop i)
 | _,k,0,_,_=>by simp
 | [],k,i+1,h,_=>by simp at h
 | a::r,k,i+1,h,b=>by
   have d:a=0:=b a (by simp);simp only[J6s,d,ne_eq,not_true_eq_false,Xy,J8];rw[J1X r (k+1) i (by simpa using h) (fun x c=>b x (by simp[c]))];congr 1;omega
theorem J6r:∀(l:List Int) (k:Nat),-1<=J6s k l/\J6s k l<(k+l.length:Nat)\/J6s k l=-1
 | [],k=>.inr rfl
 | a::r,k=>by
   simp only[J6s];split
   . left;simp;omega
   . rcases J6r r (k+1) with h|h
     . left;simp at *;omega
     . right;exact h
theorem Q3M (l:List Int) (i:Nat) (h:i<l.length):l.drop i=gI l i::l.drop (i+1):=by
 rw[Jp h];simp only[gI,List.getD,Qp h,Xp]
theorem X2U (a:Int):Ret Tryz.prog 258 [.int .i64 a] (.bool (decide (a≠0))):=by
 refine rf Y4w ?_
 repeat' ((conv=>whnf);first|(refine Br.bne ?_ ?_<;>intro _<;>try omega))
 all_goals conv=>whnf
 . rename_i h;exact VLe.bool (by simp[h])
 . rename_i h;exact VLe.bool (Qm (by simpa using h)).symm
theorem X2L (l:List Int) (g:l.length<=1000):Ret Tryz.prog 257 [.fz l.length 1 false (vI l),.fn (.func 258) false []] (.int .i64 (J6s 0 l)):=by
 refine rf Y4x ?_
 all_goals conv=>whnf
 refine J0h J0c [0,1,7] (fun i:Nat=>[(8,.int .i64 i)]) (fun m i=>m=l.length-i/\i<=l.length/\∀a∈l.take i,a=0) l.length 0 ⟨rfl,Qh _,by simp⟩ ?_ ?_
 . exact J0a J1A
 rintro m i ⟨f,d,b⟩;have c:=X2U (gI l i);by_cases hz:gI l i=0
 . rw[Qm (by simp[hz])] at c
   repeat' ((conv=>whnf);first|(refine Br.ff ?_)|(refine Br.dec ?_ ?_<;>intro _<;>try omega)|(refine Ar.q ?_)|(refine Ix.q ?_)|(refine Chk.q ?_)|(refine c.go ?_))
   all_goals conv=>whnf
   . refine⟨l.length-(i+1),i+1,by omega,⟨rfl,by omega,?_⟩,?_⟩
     . rw[J0M l i (by omega)];intro a e;rcases Qr.1 e with h|h
       . exact b a h
       . simp at h;rw[h];exact hz
     . exact J0a J1A
   . refine VLe.int ?_;rw[J1X l 0 i d b,Zh (by omega)];rfl
 . rw[Qn (by exact hz)] at c
   repeat' ((conv=>whnf);first|(refine Br.tt ?_)|(refine Br.dec ?_ ?_<;>intro _<;>try omega)|(refine Ix.q ?_)|(refine Chk.q ?_)|(refine c.go ?_))
   all_goals conv=>whnf
   . refine VLe.int ?_;rw[J1X l 0 i d b,Q3M l i (by omega)];simp[J6s,hz]
   . refine VLe.int ?_;rw[J1X l 0 i d b,Zh (by omega)];rfl
def two (g s a:Int):Int×Int:=if a > g then (a,g) else (g,if a > s then a else s)
def X1i:List Int->Int×Int->Int×Int
 | [],p=>p
 | a::r,p=>X1i r (two p.1 p.2 a)
theorem J7H:∀(l:List Int) (a:Int) (p:Int×Int),X1i (l++[a]) p=two (X1i l p).1 (X1i l p).2 a
 | [],a,p=>rfl
 | x::r,a,p=>J7H r a _
def J7a (l:List Int):Int×Int:=X1i l (-1073741824,-1073741824)
theorem X83 (l:List Int) (b:l.length<=1000):Ret Tryz.prog 259 [.fz l.length 1 false (vI l)] (.tup [.int .i64 (J7a l).1,.int .i64 (J7a l).2]):=by
 refine rf Y4v ?_
 all_goals conv=>whnf
 refine J0h J0c [6,7] (fun i:Nat=>[(2,.int .i64 (J7a (l.take i)).1),(3,.int .i64 (J7a (l.take i)).2),(8,.int .i64 i)]) (fun m i=>m=l.length-i/\i<=l.length) l.length 0 ⟨rfl,Qh _⟩ ?_ ?_
 . exact J0a J1A
 rintro m i ⟨a,c⟩;have e:i<l.length->J7a (l.take (i+1))=two (J7a (l.take i)).1 (J7a (l.take i)).2 (gI l i):=fun h=>by
  rw[J0M l i h,J7a,J7H];rfl
 repeat' ((conv=>whnf);first|(refine Br.dec ?_ ?_<;>intro _<;>try omega)|(refine Ar.q ?_)|(refine Sv.mk _ rfl ?_)|(refine Ix.q ?_))
 all_goals conv=>whnf
 . have e:=e (by omega);rw[two,Qe (by assumption)] at e;refine⟨l.length-(i+1),i+1,by omega,⟨rfl,by omega⟩,?_⟩;simp only[e];exact J0a J1A
 . have e:=e (by omega);rw[two,Qb (by assumption)] at e;refine⟨l.length-(i+1),i+1,by omega,⟨rfl,by omega⟩,?_⟩;simp only[e];exact J0a J1A
 . rw[Qz (by omega)];exact vR_
def X2y:List Int->Int->Int
 | [],m=>m
 | a::r,m=>X2y r (if a<m then a else m)
theorem J79:∀(l:List Int) (a m:Int),X2y (l++[a]) m=if a<X2y l m then a else X2y l m
 | [],a,m=>rfl
 | x::r,a,m=>J79 r a _
def Q51:List Int->Int->Int
 | [],m=>m
 | a::r,m=>Q51 r (m+a)
theorem J7K:∀(l:List Int) (a m:Int),Q51 (l++[a]) m=Q51 l m+a
 | [],a,m=>rfl
 | x::r,a,m=>J7K r a _
theorem J6b:∀(l:List Int) (m:Int) (k:Nat),(∀a∈l,inR a)->-(1073741824*(k:Int))<=m/\m<=1073741824*(k:Int)->-(1073741824*((k+l.length:Nat):Int))<=Q51 l m/\Q51 l m<=1073741824*((k+l.length:Nat):Int)
 | [],m,k,_,h=>by simpa[Q51] using h
 | a::r,m,k,c,h=>by
   have e:=c a (by simp);unfold inR at e;have:=J6b r (m+a) (k+1) (fun b d=>c b (by simp[d])) (by omega);simp only[Q51,List.length_cons];omega
def Q67 (l:List Int):Nat->Int->Int
 | 0,k=>k
 | n+1,k=>if k∈l then Q67 l n (k+1) else k
def Q3A (l:List Int):Int:=Q67 l l.length 0
def Q66 (l:List Int):Nat:=(Q3A l).toNat
theorem Q14 (l:List Int):∀(n:Nat) (k:Int),k<=Q67 l n k/\Q67 l n k<=k+n/\(∀j,k<=j->j<Q67 l n k->j∈l)/\(Q67 l n k<k+n->Q67 l n k∉l)
 | 0,k=>⟨Y1 _,by simp[Q67],fun j b a=>by simp only[Q67] at a;omega,fun h=>by simp[Q67] at h⟩
 | n+1,k=>by
   rw[Q67];by_cases e:k∈l
   . rw[Qe e];obtain⟨b,a,f,d⟩:=Q14 l n (k+1);refine⟨by omega,by omega,fun j g c=>?_,fun h=>d (by omega)⟩;by_cases q:j=k
     . subst q;exact e
     . exact f j (by omega) c
   . rw[Qb e];exact⟨Y1 _,by omega,fun j b a=>by omega,fun _=>e⟩
theorem Q8t {l:List Int} {m:Nat} (h:∀j:Nat,j<m->(j:Int)∈l):m<=l.length:=by
 have d:((List.range m).map fun i:Nat=>(i:Int)).Nodup:=by
  refine List.Pairwise.map _ (fun a b c e=>c (Int.ofNat.inj e)) Ko
 have:=Zd (l₂:=l) d (fun a g=>by
  obtain⟨i,f,rfl⟩:=Qi.1 g;exact h i (Q7.1 f))
 simpa using this
theorem J5H (l:List Int):0<=Q3A l/\Q3A l<=l.length/\(∀j,0<=j->j<Q3A l->j∈l)/\Q3A l∉l:=by
 obtain⟨d,g,a,c⟩:=Q14 l l.length 0;refine⟨d,by rw[Q3A];omega,a,?_⟩;by_cases q:Q67 l l.length 0<0+(l.length:Int)
 . exact c q
 . intro b;have:=Q8t (l:=l) (m:=l.length+1) (fun j f=>by
    by_cases e:j=l.length
    . have:Q3A l=(j:Int):=by rw[Q3A];omega
      rw[<- this];exact b
    . exact a j (by omega) (by omega))
   omega
theorem Q4U (l:List Int):((Q66 l:Nat):Int)=Q3A l:=by
 have:=(J5H l).1;rw[Q66];omega
def ixI (l:List Int) (a:Int):Int:=if a∈l then ((l.findIdx (fun x=>decide (x=a)):Nat):Int) else -1
theorem X93 {l:List Int} {a:Int} {i:Nat} (c:i<l.length) (h:gI l i=a) (e:∀j,j<i->gI l j≠a):ixI l a=i:=by
 have hg:∀j (b:j<l.length),gI l j=l[j]:=fun j b=>by simp[gI,List.getD,b]
 have d:a∈l:=by rw[<- h,hg i c];exact Xd c
 rw[ixI,Qe d];congr 1;rw[List.findIdx_eq c];refine⟨by rw[Qa,<- hg i c];exact h,fun j b=>?_⟩;rw[Qo,<- hg j (by omega)];exact e j b
theorem X92 {l:List Int} {a:Int} (d:∀j,j<l.length->gI l j≠a):ixI l a=-1:=by
 rw[ixI,Qb];intro c;obtain⟨j,b,e⟩:=Xi.1 c;exact d j b (by rw[<- e];simp[gI,List.getD,b])
theorem X7e (l:List Int) (a:Int):0<=ixI l a↔a∈l:=by
 rw[ixI];split
 . rename_i h;exact⟨fun _=>h,fun _=>by omega⟩
 . rename_i h;exact⟨fun q=>by omega,fun q=>(h q).elim⟩
theorem Q7T (l:List Int) (g:l.length<=1000) (a:Int):Ret Tryz.prog 270 [.fz l.length 1 false (vI l),.int .i64 a] (.int .i64 (ixI l a)):=by
 refine rf Y4p ?_
 all_goals conv=>whnf
 refine J0h J0c [0,1,7] (fun i:Nat=>[(8,.int .i64 i)]) (fun m i=>m=l.length-i/\i<=l.length/\∀j,j<i->gI l j≠a) l.length 0 ⟨rfl,Qh _,fun j d=>by omega⟩ ?_ ?_
 . exact J0a J1A
 rintro m i ⟨f,k,b⟩;by_cases c:i<l.length
 . by_cases e:a=gI l i
   . refine Vq ?_;exact VLe.int (X93 c e.symm b).symm
   . refine Vq ?_;refine⟨l.length-(i+1),i+1,by omega,⟨rfl,by omega,fun j d=>?_⟩,?_⟩
     . by_cases q:j=i
       . subst q;exact fun h=>e h.symm
       . exact b j (by omega)
     . exact J0a J1A
 . refine Vq ?_;exact VLe.int (X92 fun j d=>b j (by omega)).symm
theorem Q1y (l:List Int) (c:l.length<=1000) (a:Int):Ret Tryz.prog 266 [.fz l.length 1 false (vI l),.int .i64 a] (.bool (decide (a∈l))):=by
 have h:=Q7T l c a;have b:=X7e l a;generalize ixI l a=x at *;refine rf Y4q ?_
 repeat' ((conv=>whnf);first|(refine Br.dec ?_ ?_<;>intro _<;>try omega)|(refine h.go ?_))
 all_goals conv=>whnf
 . exact VLe.bool (Qn (b.1 (by assumption))).symm
 . exact VLe.bool (Qm (fun q=>absurd (b.2 q) (by assumption))).symm
theorem X9J (l:List Int) (c:l.length<=1000):Ret Tryz.prog 260 [.fz l.length 1 false (vI l)] (.int .i64 (Q3A l)):=by
 obtain⟨k,j,f,e⟩:=J5H l;have hk:=Q4U l;refine rf Y4t ?_
 all_goals conv=>whnf
 refine J0h J0c [0] (fun i:Nat=>[(3,.int .i64 i)]) (fun m i=>m=Q66 l-i/\i<=Q66 l) (Q66 l) 0 ⟨rfl,Qh _⟩ ?_ ?_
 . exact J0a J1A
 rintro m i ⟨g,h⟩;have a:=Q1y l c i;by_cases d:i<Q66 l
 . rw[Qn (f i (by omega) (by omega))] at a;refine Vq ?_;refine⟨Q66 l-(i+1),i+1,by omega,⟨rfl,by omega⟩,?_⟩;exact J0a J1A
 . have b:(i:Int)=Q3A l:=by omega
   rw[b,Qm e] at a;simp only[b];exact Wq
def J88 (op:Int) (l:List Int):Int :=
 if op=20 then J6I (decide (Q1a l=l.length)) else if op=21 then J6I (decide (0<Q1a l)) else if op=22 then Q1a l else if op=23 then J6s 0 l
 else if op=24 then X2y l 1073741824 else if op=25 then (J7a l).1 else if op=26 then sat (Q51 l 0) else if op=27 then Q3A l else if op=28 then (J7a l).2 else gI l 0
theorem X7q (op:Int) (l:List Int) (g:l.length<=1000) (o:∀a∈l,inR a) (h:20<=op/\op<=29):Ret Tryz.prog 237 [.int .i64 op,.fz l.length 1 false (vI l)] (.int .i64 (J88 op l)):=by
 have b:=X3i l g;have u:=J8G l;have d:=J6H true;have f:=J6H false;have p:=X2L l g;have n:=X83 l g;have x:=X4h (Q51 l 0);have r:=X9J l g;refine rf Y4M ?_;rcases (show op=27\/op=20\/op=21\/op=22\/op=23\/op=24\/op=25\/op=26\/op=28\/op=29 by omega) with rfl|rfl|rfl|rfl|rfl|rfl|rfl|rfl|rfl|rfl
 . have e:J88 27 l=Q3A l:=rfl;rw[e];exact Wq
 . have e:J88 20 l=J6I (decide (Q1a l=l.length)):=rfl;rw[e]
   repeat' ((conv=>whnf);first|(refine Br.tt ?_)|(refine Br.dec ?_ ?_<;>intro _<;>try omega)|(refine b.go ?_)|(refine d.go ?_)|(refine f.go ?_))
   all_goals conv=>whnf
   . exact VLe.int (by rw[Qn (by omega)])
   . exact VLe.int (by rw[Qm (by omega)])
 . have e:J88 21 l=J6I (decide (0<Q1a l)):=rfl;rw[e]
   repeat' ((conv=>whnf);first|(refine Br.tt ?_)|(refine Br.ff ?_)|(refine Br.dec ?_ ?_<;>intro _<;>try omega)|(refine b.go ?_)|(refine d.go ?_)|(refine f.go ?_))
   all_goals conv=>whnf
   . exact VLe.int (by rw[Qn (by omega)])
   . exact VLe.int (by rw[Qm (by omega)])
 . have e:J88 22 l=Q1a l:=rfl;rw[e];exact Wq
 . have e:J88 23 l=J6s 0 l:=rfl;rw[e];exact Wq
 . have e:J88 24 l=X2y l 1073741824:=rfl;rw[e];refine Vq ?_;refine J0h J0c [40,41] (fun i:Nat=>[(5,.int .i64 (X2y (l.take i) 1073741824)),(42,.int .i64 i)]) (fun m i=>m=l.length-i/\i<=l.length) l.length 0 ⟨rfl,Qh _⟩ ?_ ?_
   . exact J0a J1A
   rintro m i ⟨s,t⟩
   repeat' ((conv=>whnf);first|(refine Br.dec ?_ ?_<;>intro _<;>try omega)|(refine Ar.q ?_)|(refine Sv.mk _ rfl ?_)|(refine Ix.q ?_))
   all_goals conv=>whnf
   . refine⟨l.length-(i+1),i+1,by omega,⟨rfl,by omega⟩,?_⟩;simp only[J0M l i (by omega),J79];exact J0a J1A
   . rw[Qz (by omega)];exact vR_
 . have e:J88 25 l=(J7a l).1:=rfl;rw[e];exact Wq
 . have e:J88 26 l=sat (Q51 l 0):=rfl;rw[e];refine Vq ?_;refine J0h J0c [61,62] (fun i:Nat=>[(10,.int .i64 (Q51 (l.take i) 0)),(63,.int .i64 i)]) (fun m i=>m=l.length-i/\i<=l.length) l.length 0 ⟨rfl,Qh _⟩ ?_ ?_
   . exact J0a J1A
   rintro m i ⟨s,t⟩;have v:=J6b (l.take i) 0 0 (fun a w=>o a (Ys w)) (by omega);have j:(l.take i).length=i:=by rw[Zt];omega
   rw[j] at v;have c:i<l.length->inR (gI l i):=fun h=>o _ (by simp only[gI,List.getD,Qp h,Xp];exact Xd h);unfold inR at c;by_cases k:i<l.length
   . have c:=c k;refine Vq ?_;refine⟨l.length-(i+1),i+1,by omega,⟨rfl,by omega⟩,?_⟩;simp only[J0M l i (by omega),J7K];exact J0a J1A
   . have e:l.take i=l:=Qz (by omega);rw[e];exact Wq
 . have e:J88 28 l=(J7a l).2:=rfl;rw[e];exact Wq
 . have e:J88 29 l=gI l 0:=rfl;rw[e]
   repeat' ((conv=>whnf);first|(refine Br.ff ?_)|(refine Br.dec ?_ ?_<;>intro _<;>try omega)|(refine Ix.mk 0 rfl (by omega) ?_))
   all_goals conv=>whnf
   . rename_i hz;have:l=[]:=Yi.1 (by omega);subst this;exact vR_
   . exact vR_
inductive Tm where
 | leaf (op arg:Int)
 | un (op:Int) (a:Tm)
 | agg (op:Int) (a:Tm)
 | bin (op:Int) (a b:Tm)
 | ite (c a b:Tm)
abbrev Lt2:=List (Int×Int)
def Tm.enc:Tm->Lt2
 | .leaf op arg=>[(op,arg)]
 | .un op a=>(op,0)::a.enc
 | .agg op a=>(op,0)::a.enc
 | .bin op a b=>(op,0)::(a.enc++b.enc)
 | .ite c a b=>(43,0)::(c.enc++(a.enc++b.enc))
def Tm.wf (e:Nat):Bool->Tm->Bool
 | d,.leaf op arg=>decide (1<=op/\op<=17)&&decide (op=1->0<=arg/\arg<=1073741824)&&decide (op=5\/op=12->0<=arg/\arg<e)&&(d || decide (op<=10))
 | d,.un op a=>decide (op=18\/op=19)&&a.wf e d
 | _,.agg op a=>decide (20<=op/\op<=29)&&a.wf e true
 | d,.bin op a b=>decide (30<=op/\op<=42)&&(a.wf e d&&b.wf e d)
 | d,.ite c a b=>c.wf e d&&(a.wf e d&&b.wf e d)
theorem Tm.enc_pos:∀t:Tm,0<t.enc.length
 | .leaf _ _ | .un _ _ | .agg _ _ | .bin _ _ _ | .ite _ _ _=>by simp[Tm.enc]
def arI (op:Int):Int:=if op<1\/43<op then -1 else if op<=17 then 0 else if op<=29 then 1 else if op<=42 then 2 else 3
theorem Q6U (op:Int):Ret Tryz.prog 222 [.int .i64 op] (.int .i64 (arI op)):=by
 refine rf Y4Z ?_;rw[arI]
 repeat' ((conv=>whnf);refine Br.dec ?_ ?_<;>intro _<;>try omega)
 all_goals conv=>whnf
 all_goals refine VLe.int ?_
 all_goals repeat' split
 all_goals omega
theorem Q2O (op:Int):-1<=arI op/\arI op<=3:=by
 unfold arI
 repeat' split
 all_goals omega
def J7t:Int->Nat->Lt2->Int
 | _,_,[]=>-1
 | m,k,x::r=>if arI x.1<0 then -1 else if m+(arI x.1-1)=0 then ((k:Int)+1) else J7t (m+(arI x.1-1)) (k+1) r
def Q2W (e:Lt2) (at_:Nat):Int:=J7t 1 at_ (e.drop at_)
theorem J6u (l:Lt2) (i:Nat) (h:i<l.length):l.drop i=gF l i::l.drop (i+1):=by
 rw[Jp h];simp only[gF,List.getD,Qp h,Xp]
theorem X0b (e:Lt2) (k:Nat) (he:e.length<=100000) (hk:k<e.length):Ret Tryz.prog 188 [.fz e.length 2 false (vF e),.int .i64 k] (.int .i64 (Q2W e k)):=by
 refine rf Y5p ?_;refine Vq ?_;refine J0h J0c [0] (fun x:Nat×Int=>[(1,.int .i64 x.1),(5,.int .i64 x.2)]) (fun n x=>n=e.length-x.1/\x.1<=e.length/\-1000000-x.1<=x.2/\x.2<=1000000+3*x.1/\Q2W e k=J7t x.2 x.1 (e.drop x.1)) (e.length-k) (k,1) ⟨rfl,by omega,by omega,by omega,rfl⟩ ?_ ?_
 . exact J0a J1A
 rintro n ⟨i,m⟩ ⟨f,g,c,b,a⟩;simp only at f g c b a;have j:=Q6U (gF e i).1;have h:=Q2O (gF e i).1;by_cases d:i<e.length
 . rw[J6u e i d,J7t] at a
   repeat' ((conv=>whnf);first|(refine Br.dec ?_ ?_<;>intro _<;>try omega)|(refine Ar.q ?_)|(refine Ix.q ?_)|(refine j.go ?_))
   all_goals conv=>whnf
   . rw[a,Qe (by assumption)];exact vR_
   . rw[a,Qb (by assumption),Qe (by assumption)];exact VLe.int (by omega)
   . rw[Qb (by assumption),Qb (by assumption)] at a;refine⟨e.length-(i+1),(i+1,m+(arI (gF e i).1-1)),by omega,⟨rfl,by simp only;omega,by simp only;omega,by simp only;omega,a⟩,?_⟩;exact J0a J1A
 . have:i=e.length:=by omega
   subst this;rw[Zh (Qd _)] at a;refine Vq ?_;rw[a];exact vR_
theorem Y6O {op:Int} (h:1<=op/\op<=17):arI op=0:=by unfold arI;rw[Qb (by omega),Qe (by omega)]
theorem X8j {op:Int} (h:18<=op/\op<=29):arI op=1:=by unfold arI;rw[Qb (by omega),Qb (by omega),Qe (by omega)]
theorem Y6N {op:Int} (h:30<=op/\op<=42):arI op=2:=by unfold arI;rw[Qb (by omega),Qb (by omega),Qb (by omega),Qe (by omega)]
theorem J3o (f:Nat):∀(t:Tm) (e:Bool) (m:Int) (k:Nat) (r:Lt2),t.wf f e=true->1<=m->J7t m k (t.enc++r)=if m=1 then ((k+t.enc.length:Nat):Int) else J7t (m-1) (k+t.enc.length) r
 | .leaf op arg,e,m,k,r,d,g=>by
   simp only[Tm.wf,Qg,Qa] at d;simp only[Tm.enc,Q1,Zb,J7t,Y6O d.1.1.1,List.length_cons,List.length_nil];rw[Qb (by omega)];by_cases h:m=1
   . rw[Qe (by omega),Qe h];omega
   . rw[Qb (by omega),Qb h];congr 1
 | .un op a,e,m,k,r,d,g=>by
   simp only[Tm.wf,Qg,Qa] at d;simp only[Tm.enc,Q1,J7t,X8j (show 18<=op/\op<=29 by omega),List.length_cons];rw[Qb (by omega),Qb (by omega),show m+(1-1)=m by omega,J3o f a e m (k+1) r d.2 g];rw[show k+1+a.enc.length=k+(a.enc.length+1) by omega]
 | .agg op a,e,m,k,r,d,g=>by
   simp only[Tm.wf,Qg,Qa] at d;simp only[Tm.enc,Q1,J7t,X8j (show 18<=op/\op<=29 by omega),List.length_cons];rw[Qb (by omega),Qb (by omega),show m+(1-1)=m by omega,J3o f a true m (k+1) r d.2 g];rw[show k+1+a.enc.length=k+(a.enc.length+1) by omega]
 | .bin op a b,e,m,k,r,d,g=>by
   simp only[Tm.wf,Qg,Qa] at d;simp only[Tm.enc,Q1,J7t,Y6N d.1,List.length_cons,Q9];rw[Qb (by omega),Qb (by omega),show m+(2-1)=m+1 by omega,J3o f a e (m+1) (k+1) _ d.2.1 (by omega),Qb (by omega),show m+1-1=m by omega,J3o f b e m _ r d.2.2 g];rw[Ql,show k+1+a.enc.length+b.enc.length=k+(a.enc.length+b.enc.length+1) by omega]
 | .ite c a b,e,m,k,r,d,g=>by
   simp only[Tm.wf,Qg,Qa] at d;simp only[Tm.enc,Q1,J7t,show arI 43=3 from rfl,List.length_cons,Q9];rw[Qb (by omega),Qb (by omega),show m+(3-1)=m+2 by omega,J3o f c e (m+2) (k+1) _ d.1 (by omega),Qb (by omega),show m+2-1=m+1 by omega,J3o f a e (m+1) _ _ d.2.1 (by omega),Qb (by omega),show m+1-1=m by omega,J3o f b e m _ r d.2.2 g];rw[Ql,Ql,show k+1+c.enc.length+a.enc.length+b.enc.length=k+(c.enc.length+(a.enc.length+b.enc.length)+1) by omega]
theorem Q5l {a:Nat} {t:Tm} {b:Bool} (c:t.wf a b=true) {e post:Lt2} {k:Nat} (h:e.drop k=t.enc++post):Q2W e k=((k+t.enc.length:Nat):Int):=by
 rw[Q2W,h,J3o a t b 1 k post c (by omega),Qe rfl]
def Q3q:Nat->Lt2->Int->Int
 | _,[],_=>-1
 | k,l::r,b=>if l.1=b then k else Q3q (k+1) r b
def Q6T (g:G) (v i:Nat):Int:=Q3q 0 (gR g.ports (gF (gR g.ports v) i).1.toNat) v
def vBk (g:G):Nat->Nat->V:=fun v _=>.fz (gR g.ports v).length 1 false fun i _=>.int .i64 (Q6T g v i)
def Q07 (g:G):Int:=J64 g.ids 0
structure Pg where
 nm:ByteArray
 vs:V
 rs:V
def X5E (p:Pg) (g:G):List V:=[.str p.nm,p.vs,p.rs,.fz g.ids.length 1 false (vI g.ids),.fz g.ports.length 1 false (vP g.ports),.int .i64 (Q07 g),.fz g.ports.length 1 false (vBk g)]
def scP (p:Pg) (g:G):V:=.fe 1 7 (tab [X5E p g]) 0 0
def J5j (g:G) (v:Nat) (a op:Int):Int :=
 if op=6 then g.ids.length else if op=7 then Q07 g else if op=8 then gI g.ids v else if op=9 then (gR g.ports v).length else if op=10 then J6I (decide (v=0)) else if op=11 then a
 else if op=13 then gI g.ids (gF (gR g.ports v) a.toNat).1.toNat else if op=14 then (gR g.ports (gF (gR g.ports v) a.toNat).1.toNat).length else if op=15 then J6I (decide ((gF (gR g.ports v) a.toNat).1=0))
 else if op=16 then (gF (gR g.ports v) a.toNat).2 else Q6T g v a.toNat
theorem Q2n {l:List Int} {P:Int->Prop} (h:∀a∈l,P a) {i:Nat} (b:i<l.length):P (gI l i):=h _ (J5T b)
theorem J75 {n v:Nat} {r:Lt2} (h:okR n v r=true) {i:Nat} (a:i<r.length):0<=(gF r i).1/\(gF r i).1<n/\(gF r i).1≠v/\1<=(gF r i).2/\(gF r i).2<=15:=by
 rw[okR,Qg,Qy] at h;have:=h.1 _ (J4C a)
 rwa[okL,Qa] at this
theorem X7w (p:Pg) (g:G) (hg:g.valid=true) (v:Nat) (f:v<g.ports.length) (a op:Int) (l:6<=op/\op<=17/\op≠12) (b:13<=op->0<=a/\a<(gR g.ports v).length) :
 Ret Tryz.prog 235 [scP p g,.int .i64 op,.int .i64 v,.int .i64 a] (.int .i64 (J5j g v a op)):=by
 obtain⟨f1,f2,f3,f4,f5,f6,f7⟩:=J0e hg;have c:=J6H true;have d:=J6H false;refine rf Y4O ?_;rcases (show op=6\/op=7\/op=8\/op=9\/op=10\/op=11\/13<=op by omega) with rfl|rfl|rfl|rfl|rfl|rfl|e
 . exact Wq
 . exact Wq
 . exact Wq
 . exact Wq
 . repeat' ((conv=>whnf);first|(refine Br.tt ?_)|(refine Br.ff ?_)|(refine Br.dec ?_ ?_<;>intro _<;>try omega)|(refine c.go ?_)|(refine d.go ?_))
   all_goals conv=>whnf
   . exact VLe.int (by simp[J5j];rw[Qn (by omega)])
   . exact VLe.int (by simp[J5j];rw[Qm (by omega)])
 . exact Wq
 . obtain⟨j,h⟩:=b e;obtain⟨k,rfl⟩:∃k:Nat,a=k:=⟨a.toNat,by omega⟩;have m:=J75 (f6 v f) (i:=k) (by omega);rcases (show op=13\/op=14\/op=15\/op=16\/op=17 by omega) with rfl|rfl|rfl|rfl|rfl
   . exact Wq
   . exact Wq
   . repeat' ((conv=>whnf);first|(refine Br.tt ?_)|(refine Br.ff ?_)|(refine Br.dec ?_ ?_<;>intro _<;>try omega)|(refine Ix.q ?_)|(refine c.go ?_)|(refine d.go ?_))
     all_goals conv=>whnf
     . exact VLe.int (by simp[J5j];rw[Qn (by omega)])
     . exact VLe.int (by simp[J5j];rw[Qm (by omega)])
   . exact Wq
   . exact Wq
def nbV (g:G) (v:Nat) (a:Int):Nat:=(gF (gR g.ports v) a.toNat).1.toNat
def J85 (g:G) (c:Cf) (v:Nat) (a op arg:Int):Int :=
 if op=1 then arg else if op=2 then 1 else if op=3 then 0 else if op=4 then -1 else if op=5 then gI (gC c v) arg.toNat else if op=12 then gI (gC c (nbV g v a)) arg.toNat else J5j g v a op
def Tm.sem (g:G) (c:Cf) (v:Nat):Tm->Int->Int
 | .leaf op arg,d=>J85 g c v d op arg
 | .un op a,d=>unI op (a.sem g c v d)
 | .agg op a,_=>J88 op ((List.range (gR g.ports v).length).map fun i=>a.sem g c v (i:Nat))
 | .bin op a b,d=>Q2Z op (a.sem g c v d) (b.sem g c v d)
 | .ite q a b,d=>if q.sem g c v d≠0 then a.sem g c v d else b.sem g c v d
def wkP (p:Pg) (g:G) (c:Cf) (v:Nat) (e:Lt2):V:=.fe 1 4 (tab [[scP p g,cV c,.int .i64 v,.fz e.length 2 false (vF e)]]) 0 0
structure Fit (g:G) (nv:Nat) (c:Cf):Prop where
 len:c.length=g.ports.length
 row:∀v,v<c.length->(gC c v).length=nv
 val:∀v,v<c.length->∀x,x<nv->inR (gI (gC c v) x)
theorem X66 (p:Pg) (g:G) (hg:g.valid=true) {j:Nat} {c:Cf} (n:Fit g j c) (v:Nat) (m:v<g.ports.length) (e:Lt2) (o:Bool) (a op arg:Int)
 (l:(Tm.leaf op arg).wf j o=true) (d:o=true->0<=a/\a<(gR g.ports v).length) :
 Ret Tryz.prog 211 [wkP p g c v e,.agg [.int .i64 op,.int .i64 arg],.int .i64 a] (.int .i64 (J85 g c v a op arg)):=by
 obtain⟨f1,f2,f3,f4,f5,f6,f7⟩:=J0e hg;simp only[Tm.wf,Qg,Xv,Qa] at l;obtain⟨⟨⟨x,w⟩,u⟩,f⟩:=l;have s:=n.len;have b:=n.row;refine rf Y43 ?_;rcases (show op=1\/op=2\/op=3\/op=4\/op=5\/op=12\/(6<=op/\op<=17/\op≠12) by omega) with rfl|rfl|rfl|rfl|rfl|rfl|t
 . exact Wq
 . exact Wq
 . exact Wq
 . exact Wq
 . have b:=b v (by omega);obtain⟨k,rfl⟩:∃k:Nat,arg=k:=⟨arg.toNat,by omega⟩;exact Wq
 . obtain⟨r,q⟩:=d (by rcases f with h|h<;>first|exact h|omega);obtain⟨i,rfl⟩:∃k:Nat,a=k:=⟨a.toNat,by omega⟩;have y:=J75 (f6 v m) (i:=i) (by omega);obtain⟨k,rfl⟩:∃k:Nat,arg=k:=⟨arg.toNat,by omega⟩;have b:=b (gF (gR g.ports v) i).1.toNat (by omega);exact Wq
 . have z:=X7w p g hg v m a op t (fun h=>d (by rcases f with h|h<;>first|exact h|omega));have e:J85 g c v a op arg=J5j g v a op:=by unfold J85;rw[Qb (by omega),Qb (by omega),Qb (by omega),Qb (by omega),Qb (by omega),Qb (by omega)]
   rw[e];exact Wq
theorem J9s:∀(r:Lt2) (k:Nat) (b:Int),-1<=Q3q k r b/\Q3q k r b<(k+r.length:Nat)\/Q3q k r b=-1
 | [],k,b=>.inr rfl
 | l::r,k,b=>by
   simp only[Q3q];split
   . left;simp;omega
   . rcases J9s r (k+1) b with h|h
     . left;simp at *;omega
     . right;exact h
theorem X7m {p:List Lt2} {v:Nat} (h:p.length<=v):gR p v=[]:=by
 simp only[gR,List.getD,Zo h,Option.getD_none]
theorem J41 {g:G} (hg:g.valid=true) (v:Nat):(gR g.ports v).length<=24:=by
 obtain⟨f1,f2,f3,f4,f5,f6,f7⟩:=J0e hg;by_cases h:v<g.ports.length
 . have:=Q8S h (f6 v h);omega
 . rw[X7m (by omega)];simp
theorem Q9h (l:List Int) {a b m:Int} (c:a<=m/\m<=b) (h:∀x∈l,x<=b):a<=J64 l m/\J64 l m<=b:=⟨Int.le_trans c.1 (Q9j l m),Q9i l m b c.2 h⟩
theorem X7x {g:G} (hg:g.valid=true) {v:Nat} (j:v<g.ports.length) {c op:Int} (l:6<=op/\op<=17/\op≠12) (hp:11<=op->0<=c/\c<(gR g.ports v).length):inR (J5j g v c op):=by
 obtain⟨f1,f2,f3,f4,f5,f6,f7⟩:=J0e hg;have k:=Q9h g.ids (a:=0) (b:=255) (m:=0) (by omega) (fun a q=>(f4 a q).2);have d:=J41 hg;have f:=fun i (h:i<g.ids.length)=>f4 _ (J5T h);have nat:∀n:Nat,n<=24->inR (n:Int):=fun n h=>by unfold inR;omega
 have low:∀a:Int,0<=a/\a<=255->inR a:=fun n h=>by unfold inR;omega
 rcases (show op=6\/op=7\/op=8\/op=9\/op=10\/11<=op by omega) with rfl|rfl|rfl|rfl|rfl|e
 . exact nat _ f2
 . exact low _ k
 . exact low _ (f v (by omega))
 . exact nat _ (d v)
 . exact J9g _
 . have hp:=hp e;have r:=J75 (f6 v j) (i:=c.toNat) (by omega);have o:=d v;rcases (show op=11\/op=13\/op=14\/op=15\/op=16\/op=17 by omega) with rfl|rfl|rfl|rfl|rfl|rfl
   . exact low c (by omega)
   . exact low _ (f _ (by omega))
   . exact nat _ (d _)
   . exact J9g _
   . exact low (gF (gR g.ports v) c.toNat).2 (by omega)
   . have s:=J9s (gR g.ports (gF (gR g.ports v) c.toNat).1.toNat) 0 v;have p:=d (gF (gR g.ports v) c.toNat).1.toNat;show inR (Q3q 0 (gR g.ports (gF (gR g.ports v) c.toNat).1.toNat) v);unfold inR;omega
theorem X67 {g:G} (hg:g.valid=true) {e:Nat} {c:Cf} (d:Fit g e c) {v:Nat} (j:v<g.ports.length) {k:Bool} {a op arg:Int}
 (f:(Tm.leaf op arg).wf e k=true) (b:k=true->0<=a/\a<(gR g.ports v).length):inR (J85 g c v a op arg):=by
 obtain⟨f1,f2,f3,f4,f5,f6,f7⟩:=J0e hg;simp only[Tm.wf,Qg,Xv,Qa] at f;obtain⟨⟨⟨p,o⟩,n⟩,l⟩:=f;have m:=d.len;have hp:11<=op->0<=a/\a<(gR g.ports v).length:=fun h=>b (by rcases l with h|h<;>first|exact h|omega);unfold J85;split
 . unfold inR;omega
 split
 . unfold inR;omega
 split
 . unfold inR;omega
 split
 . unfold inR;omega
 split
 . exact d.val v (by omega) _ (by omega)
 split
 . have hp:=hp (by omega);have q:=J75 (f6 v j) (i:=a.toNat) (by omega);exact d.val _ (by unfold nbV;omega) _ (by omega)
 . exact X7x hg j (by omega) hp
theorem Q9d:∀(l:List Int) (m:Int),inR m->(∀a∈l,inR a)->inR (X2y l m)
 | [],m,h,_=>h
 | a::r,m,h,c=>Q9d r _ (by split;(first|exact c a (by simp)|exact h);(first|exact c a (by simp)|exact h)) fun b d=>c b (by simp[d])
theorem Q7D:∀(l:List Int) (p:Int×Int),inR p.1->inR p.2->(∀a∈l,inR a)->inR (X1i l p).1/\inR (X1i l p).2
 | [],p,h,c,_=>⟨h,c⟩
 | a::r,p,h,c,d=>by
   have e:=d a (by simp);refine Q7D r _ ?_ ?_ fun b f=>d b (by simp[f])
   . unfold two;split
     . exact e
     . exact h
   . unfold two;split
     . exact h
     . simp only;split
       . exact e
       . exact c
theorem X7r {op:Int} {l:List Int} (e:l.length<=1000) (h:∀a∈l,inR a):inR (J88 op l):=by
 have g:=J8G l;have f:=J6r l 0;have b:=Q7D l (-1073741824,-1073741824) (by unfold inR;omega) (by unfold inR;omega) h;have d:=Q9d l 1073741824 (by unfold inR;omega) h;have c:inR (Q3A l):=by obtain⟨j,i,_⟩:=J5H l;unfold inR;omega
 unfold J88
 repeat' split
 all_goals first|exact J9g _|exact X4i _|exact d|exact b.1|exact b.2|exact c|skip
 . unfold inR;omega
 . unfold inR;omega
 . by_cases k:0<l.length
   . exact Q2n h k
   . have:l=[]:=Yi.1 (by omega);subst this;simp[gI,inR]
theorem J4b {g:G} (hg:g.valid=true) {k:Nat} {c:Cf} (j:Fit g k c) {v:Nat} (h:v<g.ports.length) :
 ∀(t:Tm) (f:Bool) (d:Int),t.wf k f=true->(f=true->0<=d/\d<(gR g.ports v).length)->inR (t.sem g c v d)
 | .leaf op arg,f,d,e,hp=>X67 hg j h e hp
 | .un op a,f,d,e,hp=>by
   simp only[Tm.wf,Qg,Qa] at e;exact Y2c (J4b hg j h a f d e.2 hp)
 | .agg op a,f,d,e,hp=>by
   simp only[Tm.wf,Qg,Qa] at e;refine X7r (by simpa using Zw (J41 hg v) (by omega)) fun x l=>?_;obtain⟨i,m,rfl⟩:=Qi.1 l;rw[Q7] at m;exact J4b hg j h a true i e.2 fun _=>by omega
 | .bin op a b,f,d,e,hp=>Y1x _ _ _
 | .ite q a b,f,d,e,hp=>by
   simp only[Tm.wf,Qg,Qa] at e;simp only[Tm.sem];split
   . exact J4b hg j h a f d e.2.1 hp
   . exact J4b hg j h b f d e.2.2 hp
def Y1K (p:Pg) (g:G) (d:Nat) (c:Cf) (v:Nat) (e:Lt2) (t:Tm):Prop :=
 ∀(b:Bool) (a:Int) (k:Nat) (post:Lt2),e.drop k=t.enc++post->t.wf d b=true->(b=true->0<=a/\a<(gR g.ports v).length) ->
  Ret Tryz.prog 179 [wkP p g c v e,.int .i64 k,.int .i64 a] (.tup [.int .i64 (t.sem g c v a),.int .i64 ((k+t.enc.length:Nat):Int)])
theorem J1E {e post:Lt2} {x:Int×Int} {k:Nat} (h:e.drop k=x::post):k<e.length/\gF e k=x/\e.drop (k+1)=post:=by
 have b:k<e.length:=by
  rcases Zs k e.length with a|a
  . exact a
  . rw[Zh a] at h;cases h
 rw[J6u e k b] at h;simp only[Xr] at h;exact⟨b,h.1,h.2⟩
theorem J5X {e a post:Lt2} {k:Nat} (h:e.drop k=a++post):e.drop (k+a.length)=post:=by
 rw[<- K4,h,List.drop_left]
theorem Q4l (L:List Int) (i u j:Nat) (b:i<L.length) (c:j<1):VLe (J1l (vI (L.take i)) i 0 [.int .i64 (gI L i)] u j) (vI (L.take (i+1)) u j):=by
 obtain rfl:j=0:=by omega
 apply vE_;rw[J0M L i b];have a:(L.take i).length=i:=by rw[Zt];omega
 by_cases h:u=i
 . subst h;simp only[J1l,vI];rw[Qe (by simp)];simp[gI,a]
 . simp only[J1l,vI];rw[Qb (by simp[h])];congr 1;simp only[gI,List.getD];by_cases d:u<i
   . rw[Q3 (by omega)]
   . rw[Zo (by omega),Zo (by simp;omega)]
theorem Y1I (p:Pg) (g:G) (hg:g.valid=true) {r:Nat} {c:Cf} (D:Fit g r c) (v:Nat) (A:v<g.ports.length) (e:Lt2) (he:e.length<=100000) (op:Int) (a:Tm) (z:Y1K p g r c v e a)
 (k:Nat) (post:Lt2) (hd:e.drop k=(Tm.agg op a).enc++post) (h:(Tm.agg op a).wf r true=true) :
 Ret Tryz.prog 213 [wkP p g c v e,.int .i64 op,.int .i64 k] (.tup [.int .i64 ((Tm.agg op a).sem g c v 0),.int .i64 ((k+(Tm.agg op a).enc.length:Nat):Int)]):=by
 obtain⟨f1,f2,f3,f4,f5,f6,f7⟩:=J0e hg;have b:=X0b e k he;rw[Q5l h hd] at b;simp only[Tm.enc,Q1] at hd;obtain⟨hk,w,t⟩:=J1E hd;have b:=b hk;simp only[Tm.wf,Qg,Qa] at h;have B:=J41 hg v;generalize q:(List.range (gR g.ports v).length).map (fun i=>a.sem g c v (i:Nat))=L;have m:L.length=(gR g.ports v).length:=by rw[<- q];simp
 have o:∀x∈L,inR x:=by
  rw[<- q];intro x w;obtain⟨i,l,rfl⟩:=Qi.1 w;rw[Q7] at l;exact J4b hg D A a true i h.2 fun _=>by omega
 have u:∀i,i<(gR g.ports v).length->gI L i=a.sem g c v (i:Nat):=fun i l=>by
  rw[<- q];simp[gI,l]
 have f:=X7q op L (by omega) o h.1;rw[m] at f;have E:(Tm.agg op a).sem g c v 0=J88 op L:=by simp only[Tm.sem,q]
 rw[E];have el:(Tm.agg op a).enc.length=a.enc.length+1:=by simp[Tm.enc]
 rw[el] at b ⊢;refine rf Y41 ?_;refine Vq ?_;refine J1y J0c [0,1,2,8,9,26] [] J5N [0] (fun i:Nat=>[(7,.int .i64 (if i=0 then 0 else ((k+(a.enc.length+1):Nat):Int))),(27,.int .i64 i)]) (fun i=>[(0,.vec 24 1 (vI (L.take i)))])
  (fun n i=>n=L.length-i/\i<=L.length) L.length 0 ⟨rfl,Qh _⟩ rfl (fun _=>rfl) ?_ ?_
 . exact J0a J1v
 rintro n i ⟨H,l⟩;by_cases s:i<(gR g.ports v).length
 . have d:=z true (i:Nat) (k+1) post t h.2 fun _=>by omega
   rw[<- u i s] at d;rw[show((k+1:Nat):Int)=(k:Int)+1 by omega] at d;refine Vq ?_;refine⟨L.length-(i+1),i+1,by omega,⟨rfl,by omega⟩,?_⟩;have F:(if i+1=0 then (0:Int) else ((k+(a.enc.length+1):Nat):Int))=((k+1+a.enc.length:Nat):Int):=by rw[Qb (by omega)];omega
   simp only[F];refine J0F J1v ?_;intro i j l C;exact Q4l _ _ _ _ (by omega) C
 . have e:i=L.length:=by omega
   subst e;rw[Qz (Qd _)];rw[m];by_cases y:(gR g.ports v).length=0
   . rw[Qe y];exact Wq
   . rw[Qb y];exact Wq
theorem X1A (p:Pg) (g:G) (hg:g.valid=true) {E:Nat} {c:Cf} (x:Fit g E c) (v:Nat) (w:v<g.ports.length) (e:Lt2) (he:e.length<=100000):∀t:Tm,Y1K p g E c v e t:=by
 intro t
 induction t with
 | leaf op arg =>
   intro l d k post hd i hp;simp only[Tm.enc,Q1,Zb] at hd;obtain⟨hk,n,j⟩:=J1E hd;have F:=X66 p g hg x v w e l d op arg i hp;simp only[Tm.wf,Qg,Xv,Qa] at i;have f:(gF e k).1=op:=by rw[n]
   have s:(gF e k).2=arg:=by rw[n]
   rw[<- f,<- s] at F;refine rf Q9Y ?_;refine Vq ?_;rw[f,s]
   repeat' (first|exact vR_)
 | un op a A =>
   intro l d k post hd i hp;simp only[Tm.enc,Q1] at hd;obtain⟨hk,n,j⟩:=J1E hd;simp only[Tm.wf,Qg,Qa] at i;have f:(gF e k).1=op:=by rw[n]
   have m:=A l d (k+1) post j i.2 hp;have C:=X1F op (a.sem g c v d) (J4b hg x w a l d i.2 hp);rw[<- f] at C;rw[show((k+1:Nat):Int)=(k:Int)+1 by omega] at m;refine rf Q9Y ?_;refine Vq ?_;rw[f]
   repeat' (first|exact VLe.int (by simp only[Tm.enc,List.length_cons];omega)|exact tI|exact vR_|(refine VLe.tup ?_)|apply And.intro)
 | agg op a A =>
   intro l d k post hd i hp;have D:=Y1I p g hg x v w e he op a A k post hd (by simpa[Tm.wf] using i);simp only[Tm.enc,Q1] at hd;obtain⟨hk,n,j⟩:=J1E hd;simp only[Tm.wf,Qg,Qa] at i;have f:(gF e k).1=op:=by rw[n]
   rw[<- f] at D;refine rf Q9Y ?_;refine Vq ?_;rw[f];exact vR_
 | bin op a b r o =>
   intro l d k post hd i hp;simp only[Tm.enc,Q1,Q9] at hd;obtain⟨hk,n,j⟩:=J1E hd;simp only[Tm.wf,Qg,Qa] at i;have f:(gF e k).1=op:=by rw[n]
   have m:=r l d (k+1) _ j i.2.1 hp;have u:=o l d (k+1+a.enc.length) post (J5X j) i.2.2 hp;have y:=X0Y op (a.sem g c v d) (b.sem g c v d) (J4b hg x w a l d i.2.1 hp) (J4b hg x w b l d i.2.2 hp) i.1;rw[<- f] at y;rw[show((k+1:Nat):Int)=(k:Int)+1 by omega] at m;refine rf Q9Y ?_;refine Vq ?_;rw[f]
   repeat' (first|exact VLe.int (by simp only[Tm.enc,List.length_cons,Ql];omega)|exact tI|exact vR_|(refine VLe.tup ?_)|apply And.intro)
 | ite q a b z r o =>
   intro l d k post hd i hp;simp only[Tm.enc,Q1,Q9] at hd;obtain⟨hk,n,j⟩:=J1E hd;simp only[Tm.wf,Qg,Qa] at i;have f:(gF e k).1=43:=by rw[n]
   have m:=z l d (k+1) _ j i.1 hp;have u:=r l d (k+1+q.enc.length) _ (J5X j) i.2.1 hp;have B:=o l d (k+1+q.enc.length+a.enc.length) post (J5X (J5X j)) i.2.2 hp;rw[show((k+1:Nat):Int)=(k:Int)+1 by omega] at m;refine rf Q9Y ?_
   repeat' ((conv=>whnf);first|(refine Br.dec ?_ ?_<;>intro _<;>try omega)|(refine Br.bne ?_ ?_<;>intro _<;>try omega)|(refine Ar.q ?_)|(refine Ix.q ?_)|(refine m.go ?_)|(refine u.go ?_)|(refine B.go ?_))
   all_goals conv=>whnf
   . simp only[Tm.sem];rw[Qe (by assumption)]
     repeat' (first|exact VLe.int (by simp only[Tm.enc,List.length_cons,Ql];omega)|exact tI|exact vR_|(refine VLe.tup ?_)|apply And.intro)
   . rename_i hz;simp only[Tm.sem];rw[Qb (fun h=>h hz)]
     repeat' (first|exact VLe.int (by simp only[Tm.enc,List.length_cons,Ql];omega)|exact tI|exact vR_|(refine VLe.tup ?_)|apply And.intro)
theorem Q03 (p:Pg) (g:G) (hg:g.valid=true) {a:Nat} {c:Cf} (f:Fit g a c) (v:Nat) (d:v<g.ports.length) (t:Tm) (e:t.enc.length<=100000) (b:t.wf a false=true) :
 Ret Tryz.prog 130 [scP p g,cV c,.int .i64 v,.fz t.enc.length 2 false (vF t.enc)] (.int .i64 (t.sem g c v (-1))):=by
 have h:=X1A p g hg f v d t.enc e t false (-1) 0 [] (by simp) b (by simp);refine rf Y51 ?_
 repeat' ((conv=>whnf);first|(refine J2e h rfl ⟨vR_,vR_,vR_,tI⟩ ?_))
 all_goals conv=>whnf
 exact vR_
structure Rl where
 nm:ByteArray
 gd:Tm
 sets:List (Int×Tm)
instance:Inhabited Tm:=⟨.leaf 2 0⟩
instance:Inhabited Rl:=⟨⟨ByteArray.mk #[],default,[]⟩⟩
def vT (t:Tm):V:=.fz t.enc.length 2 false (vF t.enc)
def gS (l:List (Int×Tm)) (i:Nat):Int×Tm:=l.getD i default
def vS (l:List (Int×Tm)):Nat->Nat->V:=fun i j=>match j with
 | 0=>.int .i64 (gS l i).1
 | _=>vT (gS l i).2
def gRl (l:List Rl) (i:Nat):Rl:=l.getD i default
def vRl (l:List Rl):Nat->Nat->V:=fun i j=>match j with
 | 0=>.str (gRl l i).nm
 | 1=>vT (gRl l i).gd
 | _=>.fz (gRl l i).sets.length 2 false (vS (gRl l i).sets)
structure Pr where
 nm:ByteArray
 vars:List Vr
 rules:List Rl
def Pr.pg (p:Pr):Pg:=⟨p.nm,.fz p.vars.length 6 false (vV p.vars),.fz p.rules.length 3 false (vRl p.rules)⟩
def Pr.v (p:Pr):V:=.agg [.str p.nm,p.pg.vs,p.pg.rs]
structure Q4c (x:Vr):Prop where
 kind:x.kind=1\/x.kind=2\/x.kind=3
 lo:0<=x.lo/\x.lo<=4096
 hi:-4096<=x.hi/\x.hi<=4096
 pn:0<=x.pn/\x.pn<=255
 pid:0<=x.pid/\x.pid<=255
def Tm.okB (a:Nat) (t:Tm):Bool:=t.wf a false&&decide (t.enc.length<=100000)
structure J2C (p:Pr):Prop where
 vlen:p.vars.length<=1000
 var:∀i,i<p.vars.length->Q4c (gV p.vars i)
 rlen:p.rules.length<=1000
 gd:∀i,i<p.rules.length->(gRl p.rules i).gd.okB p.vars.length=true
 slen:∀i,i<p.rules.length->(gRl p.rules i).sets.length<=1000
 set:∀i,i<p.rules.length->∀j,j<(gRl p.rules i).sets.length->0<=(gS (gRl p.rules i).sets j).1/\(gS (gRl p.rules i).sets j).1<p.vars.length/\(gS (gRl p.rules i).sets j).2.okB p.vars.length=true
 types:Ret Tryz.prog 125 [p.v] (.bool true)
theorem X1R (l:List Int) (b:0<l.length) (d:l.length<=1000) (hp:∀a∈l,0<=a):Ret Tryz.prog 175 [.fz l.length 1 false (vI l)] (.int .i64 (J64 l 0)):=by
 refine rf Y5v ?_;refine Vq ?_;have g:=Q2n (P:=fun a=>0<=a) hp b;refine J0h J0c [0] (fun i:Nat=>[(3,.int .i64 (J64 (l.take (i+1)) 0)),(4,.int .i64 ((i:Int)+1))]) (fun m i=>m=l.length-i/\i+1<=l.length) l.length 0 ⟨rfl,by omega⟩ ?_ ?_
 . have e:J64 (l.take (0+1)) 0=gI l 0:=by
    rw[J0M l 0 b];simp only[Jl,Zb,J64];split<;>omega
   refine J0F J1A ?_;exact J0b.int e.symm
 rintro m i ⟨c,f⟩
 repeat' ((conv=>whnf);first|(refine Ix.w (i+1) ?_)|(refine Br.dec ?_ ?_<;>intro _<;>try omega)|(refine Ar.q ?_)|(refine Sv.mk _ rfl ?_))
 all_goals conv=>whnf
 . refine⟨l.length-(i+1),i+1,by omega,⟨rfl,by omega⟩,?_⟩;have e:J64 (l.take (i+1+1)) 0=if gI l (i+1) > J64 (l.take (i+1)) 0 then gI l (i+1) else J64 (l.take (i+1)) 0:=by
    rw[J0M l (i+1) (by omega),J5I]
   simp only[e];exact J0a J1A
 . rw[Qz (by omega)];exact vR_
def vrV (x:Vr):V:=.agg [.str x.name,.int .i64 x.kind,.int .i64 x.lo,.int .i64 x.hi,.int .i64 x.pn,.int .i64 x.pid]
def bnd (g:G) (x:Vr) (v:Nat):Int×Int:=if x.kind=1 then (x.lo,x.hi+x.pn*g.ids.length+x.pid*Q07 g) else if x.kind=2 then (0,1) else (-1,((gR g.ports v).length:Int)-1)
theorem Q7F {g:G} (hg:g.valid=true):0<=Q07 g/\Q07 g<=255:=by
 obtain⟨f1,f2,f3,f4,f5,f6,f7⟩:=J0e hg;exact Q9h g.ids (a:=0) (b:=255) (m:=0) (by omega) (fun a c=>(f4 a c).2)
theorem J9y {a b A B:Int} (h:0<=a/\a<=A) (c:0<=b/\b<=B):0<=a*b/\a*b<=A*B :=
 ⟨Int.mul_nonneg h.1 c.1,Int.mul_le_mul h.2 c.2 c.1 (by omega)⟩
theorem X8c (g:G) (hg:g.valid=true) (x:Vr) (e:Q4c x) (v:Nat):Ret Tryz.prog 174 [vrV x,g.v,.int .i64 v] (.tup [.int .i64 x.lo,.int .i64 (x.hi+x.pn*g.ids.length+x.pid*Q07 g)]):=by
 obtain⟨f1,f2,f3,f4,f5,f6,f7⟩:=J0e hg;have f:=Q7F hg;obtain⟨_,n,m,j,i⟩:=e;have l:=J9y j (show 0<=(g.ids.length:Int)/\(g.ids.length:Int)<=24 by omega);have k:=J9y i f;have b:=X1R g.ids (by omega) (by omega) (fun a h=>(f4 a h).1);change Ret _ _ _ (.int .i64 (Q07 g)) at b;generalize Q07 g=T at *;generalize d:x.pn*(g.ids.length:Int)=P1 at *;generalize c:x.pid*T=P2 at *;refine rf Y5w ?_
 repeat' ((conv=>whnf);first|(refine Ar.mk P1 (by rw[d];exact(J0Y (by omega) (by omega)).symm) ?_)|(refine Ar.mk P2 (by rw[c];exact(J0Y (by omega) (by omega)).symm) ?_)|(refine Ar.q ?_)|(refine b.go ?_)|(refine And.intro rfl ?_))
 all_goals conv=>whnf
 repeat' (first|exact vR_)
theorem X8b (g:G) (x:Vr) (v:Nat):Ret Tryz.prog 176 [vrV x,g.v,.int .i64 v] (.tup [.int .i64 0,.int .i64 1]):=by
 refine rf Y5u ?_
 all_goals conv=>whnf
 repeat' (first|exact vR_)
theorem X8a (g:G) (hg:g.valid=true) (x:Vr) (v:Nat) (a:v<g.ports.length):Ret Tryz.prog 177 [vrV x,g.v,.int .i64 v] (.tup [.int .i64 (-1),.int .i64 (((gR g.ports v).length:Int)-1)]):=by
 have b:=J41 hg v;refine rf Y5t ?_;refine Vq ?_
 repeat' (first|exact vR_)
theorem X4X (g:G) (hg:g.valid=true) (x:Vr) (a:Q4c x) (v:Nat) (b:v<g.ports.length):Ret Tryz.prog 127 [vrV x,g.v,.int .i64 v] (.tup [.int .i64 (bnd g x v).1,.int .i64 (bnd g x v).2]):=by
 have f:=X8c g hg x a v;have d:=X8b g x v;have c:=X8a g hg x v b;refine rf Y55 ?_;rcases a.kind with hk|hk|hk
 . have e:bnd g x v=(x.lo,x.hi+x.pn*g.ids.length+x.pid*Q07 g):=by rw[bnd,Qe hk]
   rw[e]
   repeat' ((conv=>whnf);first|(refine J1C J0c 5 ?_)|(refine Chk.q ?_)|(refine Br.tt ?_)|(refine Br.dec ?_ ?_<;>intro _<;>try omega)|(refine Ix.mk 0 rfl (by omega) ?_)|(refine f.go ?_))
   all_goals conv=>whnf
   repeat' (first|exact vR_)
 . have e:bnd g x v=(0,1):=by rw[bnd,Qb (by omega),Qe hk]
   rw[e]
   repeat' ((conv=>whnf);first|(refine J1C J0c 5 ?_)|(refine Chk.q ?_)|(refine Br.tt ?_)|(refine Br.dec ?_ ?_<;>intro _<;>try omega)|(refine Ar.q ?_)|(refine Ix.mk 0 rfl (by omega) ?_)|(refine Ix.mk 1 rfl (by omega) ?_)|(refine d.go ?_))
   all_goals conv=>whnf
   repeat' (first|exact vR_)
 . have e:bnd g x v=(-1,((gR g.ports v).length:Int)-1):=by rw[bnd,Qb (by omega),Qb (by omega)]
   rw[e]
   repeat' ((conv=>whnf);first|(refine J1C J0c 5 ?_)|(refine Chk.q ?_)|(refine Br.tt ?_)|(refine Br.dec ?_ ?_<;>intro _<;>try omega)|(refine Ar.q ?_)|(refine Ix.mk 0 rfl (by omega) ?_)|(refine Ix.mk 1 rfl (by omega) ?_)|(refine Ix.int (by omega) (by omega) ?_)|(refine c.go ?_))
   all_goals conv=>whnf
   repeat' (first|exact vR_)
def X5c (g:G) (x:Vr):Prop:=x.kind=1->x.lo<=x.hi+x.pn*g.ids.length+x.pid*Q07 g/\x.hi+x.pn*g.ids.length+x.pid*Q07 g-x.lo<=4095
def J1L (p:Pr) (g:G):Prop:=∀i,i<p.vars.length->X5c g (gV p.vars i)
theorem J4I {g:G} (hg:g.valid=true) {x:Vr} (b:Q4c x) (a:X5c g x) {v:Nat} (c:v<g.ports.length):-1<=(bnd g x v).1/\(bnd g x v).1<=4096/\-1<=(bnd g x v).2/\(bnd g x v).2<=8191/\(x.kind=1->(bnd g x v).1<=(bnd g x v).2/\(bnd g x v).2-(bnd g x v).1<=4095):=by
 have d:=J41 hg v;obtain⟨_,i,h,f,e⟩:=b;unfold bnd;split
 . rename_i hk;have a:=a hk;generalize x.hi+x.pn*g.ids.length+x.pid*Q07 g=H at *;simp only;omega
 . rename_i hk;split<;>simp only<;>omega
theorem Q3O (p:Pr) (hp:J2C p) (g:G) (f:g.Small) (hF:J1L p g) (hg:g.valid=true):Ret Tryz.prog 75 [p.v,g.v] (.int .i64 0):=by
 have j:=hp.types;have b:=X1B g f;rw[hg] at b;have e:=hp.vlen;obtain⟨f1,f2,f3,f4,f5,f6,f7⟩:=J0e hg;refine rf fj75 ?_;refine Vq ?_;refine J0h J0c [3,16,17] (fun i:Nat=>[(18,.int .i64 i)]) (fun m i=>m=p.vars.length-i/\i<=p.vars.length) p.vars.length 0 ⟨rfl,Qh _⟩ ?_ ?_
 . exact J0a J0r
 rintro m i ⟨k,l⟩;by_cases a:i<p.vars.length
 . have c:=hp.var i a;have d:=X4X g hg _ c 0 (by omega);have h:=J4I hg c (hF i a) (v:=0) (by omega);rw[show((0:Nat):Int)=0 from rfl] at d
   repeat' ((conv=>whnf);first|(refine Br.dec ?_ ?_<;>intro _<;>try omega)|(refine Br.bne ?_ ?_<;>intro _<;>try omega)|(refine Ar.q ?_)|(refine Ix.q ?_)|(refine d.go ?_))
   all_goals conv=>whnf
   all_goals first
    | (exfalso;omega)
    | (refine⟨p.vars.length-(i+1),i+1,by omega,⟨rfl,by omega⟩,?_⟩
       exact J0a J0r)
 . exact Wq
inductive Rt where
 | leaf (x:Int×Int)
 | un (x:Int×Int) (a:Rt)
 | bin (x:Int×Int) (a b:Rt)
 | tri (x:Int×Int) (a b c:Rt)
def Rt.enc:Rt->Lt2
 | .leaf x=>[x]
 | .un x a=>x::a.enc
 | .bin x a b=>x::(a.enc++b.enc)
 | .tri x a b c=>x::(a.enc++(b.enc++c.enc))
def Rt.ok:Rt->Prop
 | .leaf x=>arI x.1=0
 | .un x a=>arI x.1=1/\a.ok
 | .bin x a b=>arI x.1=2/\a.ok/\b.ok
 | .tri x a b c=>arI x.1=3/\a.ok/\b.ok/\c.ok
theorem Rt.enc_pos:∀t:Rt,0<t.enc.length
 | .leaf _ | .un _ _ | .bin _ _ _ | .tri _ _ _ _=>by simp[Rt.enc]
theorem J2I:∀(t:Rt) (m:Int) (k:Nat) (r:Lt2),t.ok->1<=m->J7t m k (t.enc++r)=if m=1 then ((k+t.enc.length:Nat):Int) else J7t (m-1) (k+t.enc.length) r
 | .leaf x,m,k,r,d,e=>by
   simp only[Rt.ok] at d;simp only[Rt.enc,Q1,Zb,J7t,d,List.length_cons,List.length_nil];rw[Qb (by omega)];by_cases h:m=1
   . rw[Qe (by omega),Qe h];omega
   . rw[Qb (by omega),Qb h];congr 1
 | .un x a,m,k,r,d,e=>by
   simp only[Rt.ok] at d;simp only[Rt.enc,Q1,J7t,d.1,List.length_cons];rw[Qb (by omega),Qb (by omega),show m+(1-1)=m by omega,J2I a m (k+1) r d.2 e,show k+1+a.enc.length=k+(a.enc.length+1) by omega]
 | .bin x a b,m,k,r,d,e=>by
   simp only[Rt.ok] at d;simp only[Rt.enc,Q1,J7t,d.1,List.length_cons,Q9];rw[Qb (by omega),Qb (by omega),show m+(2-1)=m+1 by omega,J2I a (m+1) (k+1) _ d.2.1 (by omega),Qb (by omega),show m+1-1=m by omega,J2I b m _ r d.2.2 e];rw[Ql,show k+1+a.enc.length+b.enc.length=k+(a.enc.length+b.enc.length+1) by omega]
 | .tri x a b c,m,k,r,d,e=>by
   simp only[Rt.ok] at d;simp only[Rt.enc,Q1,J7t,d.1,List.length_cons,Q9];rw[Qb (by omega),Qb (by omega),show m+(3-1)=m+2 by omega,J2I a (m+2) (k+1) _ d.2.1 (by omega),Qb (by omega),show m+2-1=m+1 by omega,J2I b (m+1) _ _ d.2.2.1 (by omega),Qb (by omega),show m+1-1=m by omega,J2I c m _ r d.2.2.2 e];rw[Ql,Ql,show k+1+a.enc.length+b.enc.length+c.enc.length=k+(a.enc.length+(b.enc.length+c.enc.length)+1) by omega]
theorem J2q:∀(n:Nat) (r:Lt2),r.length<=n->∀(m:Int) (k:Nat),1<=m->0<=J7t m k r->∃t p,Rt.ok t/\r=t.enc++p
 | 0,r,i,m,k,j,he=>by
   obtain rfl:r=[]:=Xg (by omega);simp[J7t] at he
 | n+1,[],i,m,k,j,he=>by simp[J7t] at he
 | n+1,x::s,i,m,k,j,he=>by
   simp only[List.length_cons] at i;have v:=Q2O x.1;rw[J7t] at he;by_cases l:arI x.1<0
   . rw[Qe l] at he;omega
   rw[Qb l] at he;rcases (show arI x.1=0\/arI x.1=1\/arI x.1=2\/arI x.1=3 by omega) with d|d|d|d
   . exact⟨.leaf x,s,d,rfl⟩
   . rw[d,Qb (by omega)] at he;obtain⟨a,r1,f,e⟩:=J2q n s (by omega) _ _ (by omega) he;exact⟨.un x a,r1,⟨d,f⟩,by rw[e];rfl⟩
   . rw[d,Qb (by omega)] at he;obtain⟨a,r1,f,e⟩:=J2q n s (by omega) _ _ (by omega) he;have u:=a.enc_pos;have q:s.length=a.enc.length+r1.length:=by rw[e,Ql]
     rw[e,J2I a _ _ _ f (by omega),Qb (by omega)] at he;obtain⟨b,g,h,e2⟩:=J2q n r1 (by omega) _ _ (by omega) he;exact⟨.bin x a b,g,⟨d,f,h⟩,by rw[e,e2];simp[Rt.enc]⟩
   . rw[d,Qb (by omega)] at he;obtain⟨a,r1,f,e⟩:=J2q n s (by omega) _ _ (by omega) he;have u:=a.enc_pos;have q:s.length=a.enc.length+r1.length:=by rw[e,Ql]
     rw[e,J2I a _ _ _ f (by omega),Qb (by omega)] at he;obtain⟨b,g,h,e2⟩:=J2q n r1 (by omega) _ _ (by omega) he;have A:=b.enc_pos;have z:r1.length=b.enc.length+g.length:=by rw[e2,Ql]
     rw[e2,J2I b _ _ _ h (by omega),Qb (by omega)] at he;obtain⟨c,o,w,y⟩:=J2q n g (by omega) _ _ (by omega) he;exact⟨.tri x a b c,o,⟨d,f,h,w⟩,by rw[e,e2,y];simp[Rt.enc]⟩
def Q6x (e:Lt2):Bool:=decide (0<e.length/\Q2W e 0=(e.length:Int))
theorem X2k {e:Lt2} (h:Q6x e=true):∃t:Rt,t.ok/\t.enc=e:=by
 rw[Q6x,Qa] at h;have he:J7t 1 0 e=(e.length:Int):=h.2;obtain⟨t,r,b,a⟩:=J2q e.length e (Qd _) 1 0 (by omega) (by omega);rw[a,J2I t 1 0 r b (by omega),Qe rfl,Ql] at he;obtain rfl:r=[]:=Xg (by omega);exact⟨t,b,by rw[a,Ym]⟩
theorem X4j {t:Rt} (h:t.ok):Q6x t.enc=true:=by
 have a:=J2I t 1 0 [] h (by omega);rw[Ym,Qe rfl,Qk] at a;exact Qn ⟨t.enc_pos,a⟩
theorem X7A {t:Rt} (h:t.ok) {e post:Lt2} {k:Nat} (hd:e.drop k=t.enc++post):Q2W e k=((k+t.enc.length:Nat):Int):=by
 rw[Q2W,hd,J2I t 1 k post h (by omega),Qe rfl]
def J23 (op:Int):Bool:=decide (20<=op/\op<=29)
def Rt.dep:Rt->Nat
 | .leaf _=>1
 | .un _ a=>a.dep+1
 | .bin _ a b=>max a.dep b.dep+1
 | .tri _ a b c=>max a.dep (max b.dep c.dep)+1
def Rt.nst:Rt->Nat
 | .leaf _=>0
 | .un x a=>if J23 x.1 then a.nst+1 else a.nst
 | .bin _ a b=>max a.nst b.nst
 | .tri _ a b c=>max a.nst (max b.nst c.nst)
theorem J6E {op:Int} (h:J23 op=true):arI op=1:=by
 rw[J23,Qa] at h;exact X8j (by omega)
def J54 (a:Int) (b:Bool):List (Int×Bool)->List (Int×Bool)
 | []=>if a=0 then[] else[(a,b)]
 | (d,c)::S=>if a=0 then J54 (d-1) c S else (a,b)::(d,c)::S
def Q7b:List (Int×Bool)->List (Int×Bool)
 | []=>[]
 | (a,b)::S=>J54 (a-1) b S
theorem Q4D (b:Bool) (S:List (Int×Bool)):J54 0 b S=Q7b S:=by
 cases S with
 | nil=>rw[J54,Qe rfl];rfl
 | cons x S=>obtain⟨c,a⟩:=x;rw[J54,Qe rfl];rfl
theorem J6P {a:Int} (h:a≠0) (b:Bool) (S:List (Int×Bool)):J54 a b S=(a,b)::S:=by
 cases S with
 | nil=>rw[J54,Qb h]
 | cons x S=>obtain⟨d,c⟩:=x;rw[J54,Qb h]
def Q3Z (S:List (Int×Bool)):Nat:=(S.filter (·.2)).length
structure LvS where
 S:List (Int×Bool)
 d:Nat
 w:Nat
def J1j (s:LvS) (x:Int×Int):LvS:=⟨J54 (arI x.1) (J23 x.1) s.S,max s.d (s.S.length+1),max s.w (Q3Z ((arI x.1,J23 x.1)::s.S))⟩
def J2G (s:LvS) (e:Lt2):LvS:=e.foldl J1j s
theorem J50 (a:Int) (b:Bool) (S:List (Int×Bool)):Q3Z ((a,b)::S)=Q3Z S+if b then 1 else 0:=by
 cases b<;>simp[Q3Z]
theorem Q3B:∀(t:Rt) (s:LvS),t.ok->J2G s t.enc=⟨Q7b s.S,max s.d (s.S.length+t.dep),max s.w (Q3Z s.S+t.nst)⟩
 | .leaf x,s,h=>by
   have h:arI x.1=0:=h;have f:J23 x.1=false:=by
    cases e:J23 x.1 with
    | false=>rfl
    | true=>have:=J6E e;omega
   simp only[J2G,Rt.enc,Yf,List.foldl_nil,J1j,h,Q4D,f,J50,Rt.dep,Rt.nst];rfl
 | .un x a,s,h=>by
   obtain⟨i,g⟩:=h;simp only[J2G,Rt.enc,Yf];have:=Q3B a (J1j s x) g;rw[J2G] at this;rw[this];simp only[J1j,i,J6P (show(1:Int)≠0 by omega),Q7b,Q4D,List.length_cons,J50,Rt.dep,Rt.nst,show(1:Int)-1=0 by omega];congr 1
   . omega
   . cases J23 x.1<;>simp<;>omega
 | .bin x a b,s,h=>by
   obtain⟨i,g,k⟩:=h;have f:J23 x.1=false:=by
    cases e:J23 x.1 with
    | false=>rfl
    | true=>have:=J6E e;omega
   simp only[J2G,Rt.enc,Yf,Y6];have j:=Q3B a (J1j s x) g;rw[J2G] at j;rw[j];have e2:=Q3B b ⟨Q7b (J1j s x).S,max (J1j s x).d ((J1j s x).S.length+a.dep),max (J1j s x).w (Q3Z (J1j s x).S+a.nst)⟩ k;rw[J2G] at e2;rw[e2];simp only[J1j,i,J6P (show(2:Int)≠0 by omega),Q7b,show(2:Int)-1=1 by omega,J6P (show(1:Int)≠0 by omega),show(1:Int)-1=0 by omega,Q4D,List.length_cons,J50,f,Rt.dep,Rt.nst];congr 1
   . omega
   . simp
 | .tri x a b c,s,h=>by
   obtain⟨i,g,k,m⟩:=h;have f:J23 x.1=false:=by
    cases e:J23 x.1 with
    | false=>rfl
    | true=>have:=J6E e;omega
   simp only[J2G,Rt.enc,Yf,Y6];have j:=Q3B a (J1j s x) g;rw[J2G] at j;rw[j];have e2:=Q3B b ⟨Q7b (J1j s x).S,max (J1j s x).d ((J1j s x).S.length+a.dep),max (J1j s x).w (Q3Z (J1j s x).S+a.nst)⟩ k;rw[J2G] at e2;rw[e2];have l:=Q3B c ⟨Q7b (Q7b (J1j s x).S),max (max (J1j s x).d ((J1j s x).S.length+a.dep)) ((Q7b (J1j s x).S).length+b.dep),max (max (J1j s x).w (Q3Z (J1j s x).S+a.nst)) (Q3Z (Q7b (J1j s x).S)+b.nst)⟩ m;rw[J2G] at l;rw[l];simp only[J1j,i,J6P (show(3:Int)≠0 by omega),Q7b,show(3:Int)-1=2 by omega,J6P (show(2:Int)≠0 by omega),show(2:Int)-1=1 by omega,J6P (show(1:Int)≠0 by omega),show(1:Int)-1=0 by omega,Q4D,List.length_cons,J50,f,Rt.dep,Rt.nst];congr 1
   . omega
   . simp
theorem X9M {t:Rt} (h:t.ok):J2G ⟨[],0,0⟩ t.enc=⟨[],t.dep,t.nst⟩:=by
 rw[Q3B t _ h];simp[Q7b,Q3Z]
def J44 (num:Int->Nat->Nat) (x:Int×Int) (S:List Nat):List Nat:=S.take (S.length-(arI x.1).toNat)++[num x.1 ((S.drop (S.length-(arI x.1).toNat)).foldl max 0)]
def J3V (num:Int->Nat->Nat) (e:Lt2) (S:List Nat):List Nat:=e.foldr (J44 num) S
def Rt.val (num:Int->Nat->Nat):Rt->Nat
 | .leaf x=>num x.1 0
 | .un x a=>num x.1 (a.val num)
 | .bin x a b=>num x.1 (max (b.val num) (a.val num))
 | .tri x a b c=>num x.1 (max (max (c.val num) (b.val num)) (a.val num))
theorem J8P (num:Int->Nat->Nat) (e f:Lt2) (S:List Nat):J3V num (e++f) S=J3V num e (J3V num f S):=List.foldr_append
theorem J6C (num:Int->Nat->Nat):∀(t:Rt) (S:List Nat),t.ok->J3V num t.enc S=S++[t.val num]
 | .leaf x,S,h=>by
   have h:arI x.1=0:=h;simp[J3V,Rt.enc,J44,h,Rt.val]
 | .un x a,S,h=>by
   obtain⟨e,d⟩:=h;have i:=J6C num a S d;show J44 num x (J3V num a.enc S)=_;rw[i];simp[J44,e,Rt.val]
 | .bin x a b,S,h=>by
   obtain⟨e,d,f⟩:=h;show J44 num x (J3V num (a.enc++b.enc) S)=_;rw[J8P,J6C num b S f,J6C num a _ d,Q9];simp[J44,e,Rt.val]
 | .tri x a b c,S,h=>by
   obtain⟨e,d,f,g⟩:=h;show J44 num x (J3V num (a.enc++(b.enc++c.enc)) S)=_;rw[J8P,J8P,J6C num c S g,J6C num b _ f,J6C num a _ d,Q9,Q9];simp[J44,e,Rt.val]
theorem J47:∀t:Rt,t.val (fun _ k=>k+1)=t.dep
 | .leaf _=>rfl
 | .un x a=>by rw[Rt.val,J47 a];rfl
 | .bin x a b=>by rw[Rt.val,J47 a,J47 b,Nat.max_comm];rfl
 | .tri x a b c=>by rw[Rt.val,J47 a,J47 b,J47 c,Rt.dep];omega
theorem J46:∀t:Rt,t.ok->t.val (fun op k=>if J23 op then k+1 else k)=t.nst
 | .leaf x,h=>by
   have h:arI x.1=0:=h;have d:J23 x.1=false:=by
    cases e:J23 x.1 with
    | false=>rfl
    | true=>have:=J6E e;omega
   simp[Rt.val,d,Rt.nst]
 | .un x a,h=>by rw[Rt.val,J46 a h.2];rfl
 | .bin x a b,h=>by
   obtain⟨j,g,f⟩:=h;have d:J23 x.1=false:=by
    cases e:J23 x.1 with
    | false=>rfl
    | true=>have:=J6E e;omega
   simp[Rt.val,J46 a g,J46 b f,d,Rt.nst,Nat.max_comm]
 | .tri x a b c,h=>by
   obtain⟨j,g,f,i⟩:=h;have d:J23 x.1=false:=by
    cases e:J23 x.1 with
    | false=>rfl
    | true=>have:=J6E e;omega
   simp only[Rt.val,J46 a g,J46 b f,J46 c i,d,Rt.nst,Xf,Xy];omega
end Go.Proofs.YtcbnimaicgegfaaGreatDoor
