import Derived.Test.YtojoidgjneapfaaEngT
namespace Go.Eng
theorem Q0P {n:Int} (h1:0<=n) (h2:n<=18446744073709551615):IntKind.u64.wrap n=n:=by
 simp only[IntKind.wrap,IntKind.bits,IntKind.signed,Bool.false_and]
 first|(split<;>omega)|(simp;omega)
theorem Ar.u64 {n:Int} {K:Int->Prop} (h1:0<=n) (h2:n<=18446744073709551615) (hK:K n):Ar .u64 n K:=⟨n,(Q0P h1 h2).symm,hK⟩
def nb (p:Nat->Bool):Nat->Nat
 | 0=>0
 | k+1=>if p k then nb p k ||| 2 ^ k else nb p k
theorem Q2v (p:Nat->Bool) (i:Nat):∀k,(nb p k).testBit i=(decide (i<k)&&p i)
 | 0=>by simp[nb]
 | k+1=>by
   have ih:=Q2v p i k;by_cases hik:i=k
   . subst hik;rw[nb];split
     . rename_i h;simp[Nat.testBit_or,h]
     . rename_i h;rw[ih];simp[h]
   . have e:decide (i<k+1)=decide (i<k):=by rw[decide_eq_decide];omega
     rw[nb,e];split
     . rw[Nat.testBit_or,ih,Nat.testBit_two_pow];have:decide (k=i)=false:=by rw[decide_eq_false_iff_not];omega
       rw[this,Bool.or_false]
     . exact ih
section
open Go.ChangeShapes Go.WideShapes Go.ChangeAt Go.RowKit
variable {H:Type} {enc:TypeId×Value->H} {P:Program} {w:World} {sp:Nat->Bool} {hd:Bool}
theorem Q16 {α:Type} {fuel:Nat} {t e:TypeId} {cs:List Value} {x:DataW H×List MemPlace} (σ:Sg) (d:α) (F:α->V) (Q:α->Prop) (ht:P.underlying t=some (.slice e)) (hc:P.cellsOf e=1)
 (he:∀n cs y,DataW.trod enc P w 0 sp hd n e cs=some y->∃u a,cs=[u]/\u.oneCell'=true/\Den (fun _=>False) w Sg.none (F a) u/\Q a)
 (h:DataW.trod enc P w 0 sp hd fuel t cs=some x) :
 ∃u l,cs=[u]/\u.oneCell'=true/\Den (fun _=>False) w σ (.fz l.length 1 false (fun i _=>F (List.getD l i d))) u/\l.length<=maxLen/\∀a∈l,Q a:=by
 rcases J10 ht h with rfl | ⟨a,len,cap,n,rfl,h1,h2,h3⟩
 . exact⟨_,[],rfl,rfl,.fz0 _ _ _ _ _ _ (by simp),by simp,by simp⟩
 . have key:∀i,i<len->∃z:Value×α,w.cells? 0 (a.add (i*1)) 1=some [z.1]/\z.1.oneCell'=true/\Den (fun _=>False) w Sg.none (F z.2) z.1/\Q z.2:=by
    intro i hi;obtain⟨ecs,y,c1,c2⟩:=h3 i hi;rw[hc] at c1;obtain⟨u,m,rfl,k1,k2,k3⟩:=he _ _ _ c2;exact⟨(u,m),c1,k1,k2,k3⟩
   let g:Nat->Value×α:=fun i=>if h:i<len then Classical.choose (key i h) else (undef,d)
   have hg:∀i (h:i<len),w.cells? 0 (a.add (i*1)) 1=some [(g i).1]/\(g i).1.oneCell'=true/\Den (fun _=>False) w Sg.none (F (g i).2) (g i).1/\Q (g i).2:=fun i h=>by
    simp only[g,h,dite_true];exact Classical.choose_spec (key i h)
   refine⟨_,(List.range len).map (fun i=>(g i).2),rfl,rfl,?_,by simp;omega,?_⟩
   . simp only[List.length_map,List.length_range];refine J4I σ (by decide) h1 fun i hi=>⟨_,(hg i hi).1,fun j hj u hu=>?_⟩;obtain rfl:j=0:=by omega
     simp at hu;subst hu;refine⟨(hg i hi).2.1,?_⟩;have:List.getD ((List.range len).map (fun i=>(g i).2)) i d=(g i).2:=by simp[hi]
     rw[this];exact(hg i hi).2.2.1
   . intro m hm;obtain⟨i,hi,rfl⟩:=List.mem_map.1 hm;exact(hg i (by simpa using hi)).2.2.2
end
end Go.Eng
