import Derived.Test.YtgajaabakpfbbaaGreatDoorWX6
import Derived.Test.YtgajaabakpfbbaaGreatDoorDN11
import Derived.Test.YtgajaabakpfbbaaGreatDoorRB1
namespace Go.Proofs.YtgajaabakpfbbaaGreatDoor
open Go.Eng
set_option maxRecDepth 100000
set_option linter.unusedVariables false
structure Ed where
 a:Nat
 b:Nat
 w:Int
 deriving DecidableEq
instance:Inhabited Ed:=⟨⟨0,0,0⟩⟩
def Ed.lt (e f:Ed):Prop:=e.a < f.a∨(e.a = f.a∧e.b < f.b)
theorem J6f {α:Type} {r:α→α→Prop} (has:∀ x y,r x y→¬ r y x):∀ (l m:List α),l.Pairwise r→m.Pairwise r→(∀ x,x∈l↔x∈m)→l = m
 | [],m,_,_,h=>by
   cases m with
   | nil=>rfl
   | cons y m=>exact absurd ((h y).2 (by simp)) (by simp)
 | x :: l,[],_,_,h=>absurd ((h x).1 (by simp)) (by simp)
 | x :: l,y :: m,hl,hm,h=>by
   rw [List.pairwise_cons] at hl hm;have hxy:x = y:=by
    apply Classical.byContradiction;intro ne;have h1:x∈m:=by
     rcases List.mem_cons.1 ((h x).1 (by simp)) with q | q
     . exact (ne q).elim
     . exact q
    have h2:y∈l:=by
     rcases List.mem_cons.1 ((h y).2 (by simp)) with q | q
     . exact (ne q.symm).elim
     . exact q
    exact has _ _ (hl.1 y h2) (hm.1 x h1)
   subst hxy;have irr:∀ z,z∈l→z≠x:=fun z hz e=>by subst e;exact has _ _ (hl.1 z hz) (hl.1 z hz)
   have irr2:∀ z,z∈m→z≠x:=fun z hz e=>by subst e;exact has _ _ (hm.1 z hz) (hm.1 z hz)
   rw [J6f has l m hl.2 hm.2 fun z=>?_];constructor
   . intro hz;rcases List.mem_cons.1 ((h z).1 (List.mem_cons_of_mem _ hz)) with q | q
     . exact (irr z hz q).elim
     . exact q
   . intro hz;rcases List.mem_cons.1 ((h z).2 (List.mem_cons_of_mem _ hz)) with q | q
     . exact (irr2 z hz q).elim
     . exact q
theorem lt_as (e f:Ed) (h:e.lt f):¬ f.lt e:=by
 intro h';rcases h with h | h <;> rcases h' with h' | h' <;> omega
def edE (g:G) (a b:Nat):Option Ed:=if a < b∧0≤ptoI 0 (gR g.ports a) b then some ⟨a,b,(gF (gR g.ports a) (ptoI 0 (gR g.ports a) b).toNat).2⟩ else none
def J0R (g:G):List Ed:=(List.range g.ids.length).flatMap fun a=>(List.range g.ids.length).filterMap (edE g a)
theorem pto_spec {b:Int}:∀ {l:Lt2'} {k:Nat},(ptoI k l b = -1∧∀ a∈l,a.1≠b)∨∃ i,i < l.length∧ptoI k l b = ((k + i:Nat):Int)∧(gF l i).1 = b
 | [],_=>.inl ⟨rfl,by simp⟩
 | a :: r,k=>by
   rw [ptoI];by_cases e:a.1 = b
   . rw [if_pos e];exact .inr ⟨0,by simp,rfl,e⟩
   . rw [if_neg e];rcases pto_spec (b:=b) (l:=r) (k:=k + 1) with ⟨h1,h2⟩ | ⟨i,h1,h2,h3⟩
     . refine .inl ⟨h1,fun x hx=>?_⟩;rcases List.mem_cons.1 hx with q | q
       . rw [q];exact e
       . exact h2 x q
     . exact .inr ⟨i + 1,by simp;omega,by rw [h2];congr 1;omega,by simpa [gF] using h3⟩
theorem fst_inj {r:Lt2'} (h:(r.map (·.1)).Nodup) {x y:Int × Int} (hx:x∈r) (hy:y∈r) (e:x.1 = y.1):x = y:=by
 obtain ⟨i,hi,rfl⟩:=List.getElem_of_mem hx;obtain ⟨j,hj,rfl⟩:=List.getElem_of_mem hy;have hp:=List.pairwise_iff_getElem.1 h;rcases Nat.lt_trichotomy i j with q | q | q
 . exact (hp i j (by simpa using hi) (by simpa using hj) q (by simpa using e)).elim
 . subst q;rfl
 . exact (hp j i (by simpa using hj) (by simpa using hi) q (by simpa using e.symm)).elim
theorem edE_iff {g:G} (hg:g.valid = true) {a b:Nat} (ha:a < g.ids.length) (hb:b < g.ids.length) {e:Ed}:edE g a b = some e↔(e.a = a∧e.b = b∧a < b∧J4I g a b e.w):=by
 obtain ⟨f1,f2,f3,f4,f5,f6,f7⟩:=J0e hg;have hnd:=(J0t.1 (f6 a (by omega))).2;rw [edE];rcases pto_spec (b:=(b:Int)) (l:=gR g.ports a) (k:=0) with ⟨h1,h2⟩ | ⟨i,h1,h2,h3⟩
 . rw [if_neg (by omega)];refine ⟨fun h=>(by cases h),fun ⟨_,_,_,h⟩=>(h2 _ h.mem rfl).elim⟩
 . rw [Nat.zero_add] at h2;rw [h2,Int.toNat_natCast];have hm:=J1l h1;by_cases q:a < b
   . rw [if_pos ⟨q,by omega⟩];constructor
     . intro h;cases h;refine ⟨rfl,rfl,q,⟨ha,hb,?_⟩⟩;simp only;rw [← h3];exact hm
     . rintro ⟨e1,e2,_,h⟩;have:=fst_inj hnd h.mem hm (by rw [h3]);obtain ⟨ea,eb,ew⟩:=e;simp only at e1 e2 this;subst e1 e2;rw [← this]
   . rw [if_neg (fun h=>q h.1)];exact ⟨fun h=>(by cases h),fun h=>(q h.2.2.1).elim⟩
theorem J3v {g:G} (hg:g.valid = true) {e:Ed}:e∈J0R g↔(e.a < e.b∧J4I g e.a e.b e.w):=by
 simp only [J0R,List.mem_flatMap,List.mem_range,List.mem_filterMap];constructor
 . rintro ⟨a,ha,b,hb,h⟩;obtain ⟨rfl,rfl,h1,h2⟩:=(edE_iff hg ha hb).1 h;exact ⟨h1,h2⟩
 . rintro ⟨h1,h2⟩;exact ⟨e.a,h2.lu,e.b,h2.lv,(edE_iff hg h2.lu h2.lv).2 ⟨rfl,rfl,h1,h2⟩⟩
theorem J3u (g:G):(J0R g).Pairwise Ed.lt:=by
 have hr:∀ n:Nat,(List.range n).Pairwise (· < ·):=fun n=>List.pairwise_lt_range;have ea:∀ {a b:Nat} {e:Ed},edE g a b = some e→e.a = a∧e.b = b:=fun {a b e} h=>by
  rw [edE] at h;split at h
  . cases h;exact ⟨rfl,rfl⟩
  . cases h
 rw [J0R,List.pairwise_flatMap];refine ⟨fun a _=>?_,(hr _).imp fun {a a'} haa x hx y hy=>?_⟩
 . rw [List.pairwise_filterMap];refine (hr _).imp fun {b b'} hbb x hx y hy=>?_;obtain ⟨x1,x2⟩:=ea hx;obtain ⟨y1,y2⟩:=ea hy;exact .inr ⟨by omega,by omega⟩
 . obtain ⟨b,_,hx⟩:=List.mem_filterMap.1 hx;obtain ⟨b',_,hy⟩:=List.mem_filterMap.1 hy;obtain ⟨x1,x2⟩:=ea hx;obtain ⟨y1,y2⟩:=ea hy;exact .inl (by omega)
def rawE (v:Nat) (l:Int × Int):Option Ed:=if (v:Int) < l.1 then some ⟨v,l.1.toNat,l.2⟩ else none
def rawL (g:G):List Ed:=(List.range g.ids.length).flatMap fun v=>(gR g.ports v).filterMap (rawE v)
theorem raw_mem {g:G} (hg:g.valid = true) {e:Ed}:e∈rawL g↔(e.a < e.b∧J4I g e.a e.b e.w):=by
 obtain ⟨f1,f2,f3,f4,f5,f6,f7⟩:=J0e hg;simp only [rawL,List.mem_flatMap,List.mem_range,List.mem_filterMap,rawE];constructor
 . rintro ⟨v,hv,l,hl,h⟩;have hok:=(J0t.1 (f6 v (by omega))).1 l hl;split at h
   . rename_i q;cases h;refine ⟨by show v < l.1.toNat;omega,⟨hv,by show l.1.toNat < _;omega,?_⟩⟩;show (((l.1.toNat:Nat):Int),l.2)∈_;rw [Int.toNat_of_nonneg (by omega)];exact hl
   . cases h
 . rintro ⟨h1,h2⟩;refine ⟨e.a,h2.lu,_,h2.mem,?_⟩;rw [if_pos (by simp only;omega)];simp
theorem raw_nodup {g:G} (hg:g.valid = true):(rawL g).Nodup:=by
 obtain ⟨f1,f2,f3,f4,f5,f6,f7⟩:=J0e hg;rw [rawL,List.nodup_iff_pairwise_ne,List.pairwise_flatMap];have ra:∀ {v:Nat} {l:Int × Int} {e:Ed},rawE v l = some e→e.a = v∧e.b = l.1.toNat∧(v:Int) < l.1:=fun {v l e} h=>by
  rw [rawE] at h;split at h
  . rename_i q;cases h;exact ⟨rfl,rfl,q⟩
  . cases h
 refine ⟨fun v hv=>?_,List.pairwise_lt_range.imp fun {a a'} haa x hx y hy e=>?_⟩
 . rw [List.pairwise_filterMap];have hnd:=(J0t.1 (f6 v (by have:=List.mem_range.1 hv;omega))).2;rw [List.nodup_iff_pairwise_ne,List.pairwise_map] at hnd;refine hnd.imp fun {l l'} hne x hx y hy e=>?_;obtain ⟨x1,x2,x3⟩:=ra hx;obtain ⟨y1,y2,y3⟩:=ra hy;apply hne;rw [e] at x2;omega
 . obtain ⟨l,_,hx⟩:=List.mem_filterMap.1 hx;obtain ⟨l',_,hy⟩:=List.mem_filterMap.1 hy;have:=(ra hx).1;have:=(ra hy).1;rw [e] at *;omega
theorem sorted_edges {g:G} (hg:g.valid = true) {L:List Ed} (hp:L.Perm (rawL g)) (hs:L.Pairwise fun e f=>¬ f.lt e):L = J0R g:=by
 obtain ⟨f1,f2,f3,f4,f5,f6,f7⟩:=J0e hg;have hmem:∀ e,e∈L↔(e.a < e.b∧J4I g e.a e.b e.w):=fun e=>by rw [hp.mem_iff,raw_mem hg]
 have hnd:L.Nodup:=hp.nodup_iff.2 (raw_nodup hg);have hst:L.Pairwise Ed.lt:=by
  rw [List.nodup_iff_pairwise_ne] at hnd;have hboth:=hs.and hnd;refine List.Pairwise.imp_of_mem (fun {e f} he hf h=>?_) hboth;obtain ⟨h1,h2⟩:=h;apply Classical.byContradiction;intro q;apply h2;have hab:e.a = f.a∧e.b = f.b:=by simp only [Ed.lt] at h1 q;omega
  have me:=((hmem e).1 he).2;have mf:=((hmem f).1 hf).2;have hndr:=(J0t.1 (f6 e.a (by have:=me.lu;omega))).2;rw [← hab.1,← hab.2] at mf;have:=fst_inj hndr me.mem mf.mem rfl;obtain ⟨ea,eb,ew⟩:=e;obtain ⟨fa,fb,fw⟩:=f;simp only at hab this;obtain ⟨rfl,rfl⟩:=hab;rw [(Prod.mk.inj this).2]
 exact J6f lt_as _ _ hst (J3u g) fun e=>by rw [hmem,J3v hg]
open Classical in
noncomputable def chE (g:G) (e:Ed):Bool:=decide (¬ Jn g e.w e.a e.b)
noncomputable def J7G (g:G) (a b:Nat):Option (Nat × Nat):=match edE g a b with
 | some e=>if chE g e = true then some (a,b) else none
 | none=>none
noncomputable def spanL (g:G):List (Nat × Nat):=(List.range g.ids.length).flatMap fun a=>(List.range g.ids.length).filterMap (J7G g a)
theorem J7F (g:G):((J0R g).filter (chE g)).map (fun e=>(e.a,e.b)) = spanL g:=by
 rw [J0R,spanL,List.filter_flatMap,List.map_flatMap];congr 1;funext a;rw [List.filter_filterMap,List.map_filterMap];congr 1;funext b;rw [J7G];cases h:edE g a b with
 | none=>rfl
 | some e =>
   have:e.a = a∧e.b = b:=by
    rw [edE] at h;split at h
    . cases h;exact ⟨rfl,rfl⟩
    . cases h
   simp only [Option.filter,Option.map];by_cases q:chE g e = true
   . rw [if_pos q,if_pos q];simp [this.1,this.2]
   . rw [if_neg q,if_neg q]
def prs (l:List Ed):List (Nat × Nat):=l.map fun e=>(e.a,e.b)
theorem ltD_prefix {g:G} (hg:g.valid = true) {B:List Ed} (hp:B.Perm (J0R g)) (hs:B.Pairwise fun e f=>e.w≤f.w) {i:Nat} {w:Int} (hlt:∀ j,j < i→∀ e,B[j]? = some e→e.w < w) (hge:∀ j,i≤j→∀ e,B[j]? = some e→w≤e.w) :
 LtD g w (prs (B.take i)):=by
 constructor
 . intro u v h;obtain ⟨e,he,q⟩:=List.mem_map.1 h;simp only [Prod.mk.injEq] at q;obtain ⟨rfl,rfl⟩:=q;obtain ⟨j,hj,ej⟩:=List.getElem_of_mem he;rw [List.getElem_take] at ej;have hm:=((J3v hg).1 (hp.mem_iff.1 (List.mem_of_mem_take he))).2;exact ⟨e.w,hm,hlt j (by simp at hj;omega) e (by rw [List.getElem?_eq_getElem (by simp at hj;omega),ej])⟩
 . intro u v k h hk;have key:∀ {u v:Nat},J4I g u v k→u < v→(u,v)∈prs (B.take i):=fun {u v} h huv=>by
    have hm:(⟨u,v,k⟩:Ed)∈B:=hp.mem_iff.2 ((J3v hg).2 ⟨huv,h⟩);obtain ⟨j,hj,ej⟩:=List.getElem_of_mem hm;have hji:j < i:=by
     apply Nat.lt_of_not_le;intro q;have:=hge j q ⟨u,v,k⟩ (by rw [List.getElem?_eq_getElem hj,ej]);simp only at this;omega
    refine List.mem_map.2 ⟨⟨u,v,k⟩,?_,rfl⟩;rw [← ej];exact List.mem_iff_getElem.2 ⟨j,by simp;omega,by rw [List.getElem_take]⟩
   rcases Nat.lt_trichotomy u v with q | q | q
   . exact .inl (key h q)
   . exfalso;subst q;obtain ⟨f1,f2,f3,f4,f5,f6,f7⟩:=J0e hg;have:=(J0t.1 (f6 u (by have:=h.lu;omega))).1 _ h.mem;simp only at this;omega
   . exact .inr (key (h.symm hg) q)
abbrev gE (L:List Ed) (i:Nat):Ed:=L.getD i default
def eF (L:List Ed):Nat→Nat→V:=fun i j=>match j with
 | 0=>.int .i64 (gE L i).a
 | 1=>.int .i64 (gE L i).b
 | _=>.int .i64 (gE L i).w
structure Wo (lt:Ed→Ed→Prop):Prop where
 asy:∀ x y,lt x y→¬ lt y x
 nt:∀ x y z,¬ lt y x→¬ lt z y→¬ lt z x
def swE (L:List Ed) (i j:Nat):List Ed:=(L.set i (gE L j)).set j (gE L i)
theorem swE_len (L:List Ed) (i j:Nat):(swE L i j).length = L.length:=by simp [swE]
theorem swE_get {L:List Ed} {i j:Nat} (hi:i < L.length) (hj:j < L.length) (k:Nat):gE (swE L i j) k = if k = j then gE L i else if k = i then gE L j else gE L k:=by
 simp only [gE,swE,List.getD,List.getElem?_set,List.length_set];by_cases e:k = j
 . subst e;simp [hj]
 . rw [if_neg (fun q=>e q.symm),if_neg e];by_cases e2:k = i
   . subst e2;simp [hi]
   . rw [if_neg (fun q=>e2 q.symm),if_neg e2]
theorem ext_gE {l m:List Ed} (hl:l.length = m.length) (h:∀ k,k < l.length→gE l k = gE m k):l = m :=
 List.ext_getElem hl fun k h1 h2=>by have:=h k h1;simpa [gE,List.getD,h1,h2] using this
theorem swE_perm {L:List Ed} {i:Nat} (hi:i + 1 < L.length):(swE L (i + 1) i).Perm L:=by
 have e:L = L.take i ++ (gE L i :: gE L (i + 1) :: L.drop (i + 2)):=by
  have h1:L.drop i = gE L i :: L.drop (i + 1):=by rw [List.drop_eq_getElem_cons (by omega)];simp [gE,List.getD,show i < L.length by omega]
  have h2:L.drop (i + 1) = gE L (i + 1) :: L.drop (i + 2):=by rw [List.drop_eq_getElem_cons (by omega)];simp [gE,List.getD,hi]
  rw [← h2,← h1,List.take_append_drop]
 have e2:swE L (i + 1) i = L.take i ++ (gE L (i + 1) :: gE L i :: L.drop (i + 2)):=by
  refine ext_gE (by rw [swE_len];simp;omega) fun k hk=>?_;rw [swE_len] at hk;rw [swE_get hi (by omega)];have ht:(L.take i).length = i:=by simp;omega
  simp only [gE,List.getD];rcases Nat.lt_trichotomy k i with q | q | q
  . rw [if_neg (by omega),if_neg (by omega),List.getElem?_append_left (by omega),List.getElem?_take,if_pos q]
  . subst q;rw [if_pos rfl,List.getElem?_append_right (by omega),ht];simp
  . rw [if_neg (by omega),List.getElem?_append_right (by omega),ht];by_cases q2:k = i + 1
    . subst q2;rw [if_pos rfl,show i + 1 - i = 1 by omega];simp
    . rw [if_neg q2];obtain ⟨d,rfl⟩:∃ d,k = i + 2 + d:=⟨k - (i + 2),by omega⟩;rw [show i + 2 + d - i = d + 2 by omega];simp
 rw [e2]
 conv=>rhs;rw [e]
 exact (List.Perm.swap _ _ _).append_left _
def SoI (lt:Ed→Ed→Prop) (L:List Ed) (i:Nat):Prop:=∀ p q,p < q→q < i→¬ lt (gE L q) (gE L p)
structure SoJ (lt:Ed→Ed→Prop) (L:List Ed) (i j:Nat):Prop where
 le:j≤i
 but:∀ p q,p < q→q≤i→p≠j→q≠j→¬ lt (gE L q) (gE L p)
 behind:∀ q,j < q→q≤i→¬ lt (gE L q) (gE L j)
theorem SoJ.start {lt:Ed→Ed→Prop} {L:List Ed} {i:Nat} (h:SoI lt L i):SoJ lt L i i :=
 ⟨Nat.le_refl _,fun p q h1 h2 h3 h4=>h p q h1 (by omega),fun q h1 h2=>by omega⟩
theorem SoJ.done {lt:Ed→Ed→Prop} (hw:Wo lt) {L:List Ed} {i j:Nat} (h:SoJ lt L i j) (hj:j = 0∨¬ lt (gE L j) (gE L (j - 1))):SoI lt L (i + 1):=by
 intro p q h1 h2;by_cases e:q = j
 . subst e;rcases hj with hj | hj
   . omega
   . by_cases e2:p = q - 1
     . rw [e2];exact hj
     . exact hw.nt _ _ _ (h.but p (q - 1) (by omega) (by omega) (by omega) (by omega)) hj
 . by_cases e2:p = j
   . subst e2;exact h.behind q h1 (by omega)
   . exact h.but p q h1 (by omega) e2 e
theorem SoJ.step {lt:Ed→Ed→Prop} (hw:Wo lt) {L:List Ed} {i j:Nat} (h:SoJ lt L i (j + 1)) (hi:i < L.length) (hlt:lt (gE L (j + 1)) (gE L j)):SoJ lt (swE L (j + 1) j) i j:=by
 have hle:=h.le;have hg:=fun k=>swE_get (L:=L) (i:=j + 1) (j:=j) (by omega) (by omega) k;refine ⟨by omega,fun p q h1 h2 h3 h4=>?_,fun q h1 h2=>?_⟩
 . rw [hg,hg,if_neg h4,if_neg h3];by_cases e:q = j + 1
   . rw [if_pos e,if_neg (by omega)];exact h.but p j (by omega) (by omega) (by omega) (by omega)
   . rw [if_neg e];by_cases e2:p = j + 1
     . rw [if_pos e2];exact h.but j q (by omega) h2 (by omega) e
     . rw [if_neg e2];exact h.but p q h1 h2 e2 e
 . rw [hg,hg,if_neg (by omega),if_pos rfl];by_cases e:q = j + 1
   . rw [if_pos e];exact hw.asy _ _ hlt
   . rw [if_neg e];exact h.behind q (by omega) h2
theorem SoI.pairwise {lt:Ed→Ed→Prop} {L:List Ed} (h:SoI lt L L.length):L.Pairwise fun e f=>¬ lt f e:=by
 rw [List.pairwise_iff_getElem];intro i j h1 h2 h3;have:=h i j h3 h2;simpa [gE,List.getD,h1,h2] using this
theorem SoI.one {lt:Ed→Ed→Prop} {L:List Ed} {i:Nat} (h:i≤1):SoI lt L i:=fun p q h1 h2=>by omega
def ltW (e f:Ed):Prop:=e.w < f.w
theorem wo_lt:Wo Ed.lt:=⟨fun x y h h'=>lt_as x y h h',fun x y z h1 h2 h3=>by simp only [Ed.lt] at h1 h2 h3;omega⟩
theorem wo_w:Wo ltW:=⟨fun x y h h'=>by simp only [ltW] at h h';omega,fun x y z h1 h2 h3=>by simp only [ltW] at h1 h2 h3;omega⟩
instance (l:List IntKind):DecidableEq (KyS l):=KyS.dec l
abbrev KE:List IntKind:=[.i64,.i64,.i64]
def keyE (e:Ed):KyT (.st KE):=((e.a:Int),(e.b:Int),e.w,())
theorem keyE_inj {e f:Ed} (h:keyE e = keyE f):e = f:=by
 obtain ⟨a,b,w⟩:=e;obtain ⟨a',b',w'⟩:=f;obtain ⟨h1,h⟩:=Prod.mk.inj h;obtain ⟨h2,h⟩:=Prod.mk.inj h;obtain ⟨h3,_⟩:=Prod.mk.inj h;simp only at h1 h2 h3;obtain rfl:a = a':=by omega
 obtain rfl:b = b':=by omega
 rw [h3]
theorem mput_new {α:Type} [DecidableEq α]:∀ {l:List (α × V)} {k:α} {v:V},(∀ p∈l,p.1≠k)→mput l k v = l ++ [(k,v)]
 | [],_,_,_=>rfl
 | (q,u) :: r,k,v,h=>by
   rw [mput,if_neg (h (q,u) (by simp)),mput_new (fun p hp=>h p (by simp [hp]))];rfl
theorem mfind_map {α:Type} [DecidableEq α] {β:Type} {f:β→α} {v:β→V} (hf:∀ x y,f x = f y→x = y):∀ {l:List β} {x:β},x∈l→J1P (l.map fun x=>(f x,v x)) (f x) = some (v x)
 | [],_,h=>by simp at h
 | y :: r,x,h=>by
   rw [List.map_cons,J1P];by_cases e:f y = f x
   . rw [if_pos e,hf _ _ e]
   . rw [if_neg e];rcases List.mem_cons.1 h with q | q
     . subst q;exact (e rfl).elim
     . exact mfind_map hf q
noncomputable def enM (g:G) (l:List Ed):List (KyT (.st KE) × V):=l.map fun e=>(keyE e,.bool (chE g e))
theorem gE_of {L:List Ed} {i:Nat} (h:i < L.length):L[i] = gE L i:=by simp [gE,List.getD,h]
theorem take_gE {L:List Ed} {i:Nat} (h:i < L.length):L.take (i + 1) = L.take i ++ [gE L i]:=by
 rw [List.take_succ_eq_append_getElem h,gE_of h]
theorem enM_put (g:G) {B:List Ed} (hn:B.Nodup) {i:Nat} (hi:i < B.length) {v:V} (hv:v = .bool (chE g (gE B i))):mput (enM g (B.take i)) (keyE (gE B i)) v = enM g (B.take (i + 1)):=by
 rw [mput_new,take_gE hi,enM,enM,List.map_append,hv]
 . rfl
 . intro p hp q;obtain ⟨e,he,rfl⟩:=List.mem_map.1 hp;have:=keyE_inj q;subst this;obtain ⟨j,hj,ej⟩:=List.getElem_of_mem he;simp at hj;rw [List.getElem_take,gE_of (by omega)] at ej;have hp:=List.pairwise_iff_getElem.1 (List.nodup_iff_pairwise_ne.1 hn) j i (by omega) hi (by omega);rw [gE_of,gE_of] at hp;exact hp ej
theorem enM_find (g:G) {B:List Ed} {e:Ed} (he:e∈B):J1P (enM g B) (keyE e) = some (.bool (chE g e)):=mfind_map (fun _ _ h=>keyE_inj h) he
theorem enX_ex:∃ f:G→List Ed→List (KyT (.st KE) × V),∀ g l,f g l = enM g l:=⟨enM,fun _ _=>rfl⟩
noncomputable def enX:G→List Ed→List (KyT (.st KE) × V):=Classical.choose enX_ex
theorem enX_eq (g:G) (l:List Ed):enX g l = enM g l:=Classical.choose_spec enX_ex g l
theorem enX_nil (g:G) (B:List Ed):enX g (B.take 0) = []:=by rw [enX_eq];rfl
theorem enX_put (g:G) {B:List Ed} (hn:B.Nodup) {i:Nat} (hi:i < B.length) {v:V} (hv:v = .bool (chE g (gE B i))):mput (enX g (B.take i)) (keyE (gE B i)) v = enX g (B.take (i + 1)):=by
 rw [enX_eq,enX_eq];exact enM_put g hn hi hv
theorem enX_find (g:G) {B:List Ed} {e:Ed} (he:e∈B):J1P (enX g B) (keyE e) = some (.bool (chE g e)):=by
 rw [enX_eq];exact enM_find g he
structure ByW (g:G) (B:List Ed):Prop where
 perm:B.Perm (J0R g)
 so:SoI ltW B B.length
theorem ByW.le {g:G} {B:List Ed} (h:ByW g B) {i j:Nat} (hij:i≤j) (hj:j < B.length):(gE B i).w≤(gE B j).w:=by
 by_cases e:i = j
 . subst e;exact Int.le_refl _
 . have:=h.so i j (by omega) hj;simp only [ltW] at this;omega
theorem ByW.nodup {g:G} (hg:g.valid = true) {B:List Ed} (h:ByW g B):B.Nodup:=by
 rw [h.perm.nodup_iff,List.nodup_iff_pairwise_ne];exact (J3u g).imp fun {e f} hl q=>by subst q;exact lt_as _ _ hl hl
theorem ByW.edge {g:G} (hg:g.valid = true) {B:List Ed} (h:ByW g B) {i:Nat} (hi:i < B.length):(gE B i).a < (gE B i).b∧J4I g (gE B i).a (gE B i).b (gE B i).w:=by
 rw [← J3v hg,← h.perm.mem_iff,← gE_of hi];exact List.getElem_mem hi
structure Cls (g:G) (B:List Ed) (i:Nat) (p:Nat→Int):Prop where
 le:i≤B.length
 pt:PtI g.ids.length (prs (B.take i)) p
 bd:∀ j,j < i→i < B.length→(gE B j).w < (gE B i).w
theorem Cls.start {g:G} (B:List Ed):Cls g B 0 (fun v=>(v:Int)):=⟨Nat.zero_le _,by simpa [prs] using PtI.start g.ids.length,fun j hj=>by omega⟩
theorem Cls.ch {g:G} (hg:g.valid = true) {B:List Ed} (hB:ByW g B) {i:Nat} {p:Nat→Int} (h:Cls g B i p) {k:Nat} (hik:i≤k) (hk:k < B.length) (hw:(gE B k).w = (gE B i).w) :
 (!decide (p (gE B k).a = p (gE B k).b)) = chE g (gE B k):=by
 have he:=(hB.edge hg hk).2;have hD:LtD g (gE B k).w (prs (B.take i)):=by
  refine ltD_prefix hg hB.perm ?_ (fun j hj e ee=>?_) (fun j hj e ee=>?_)
  . refine hB.so.pairwise.imp fun {e f} q=>?_;simp only [ltW] at q;omega
  . have hjl:j < B.length:=by have:=h.le;omega
    rw [List.getElem?_eq_getElem hjl,gE_of hjl] at ee;cases ee;rw [hw];exact h.bd j hj (by omega)
  . have hjl:j < B.length:=(List.getElem?_eq_some_iff.1 ee).1;rw [List.getElem?_eq_getElem hjl,gE_of hjl] at ee;cases ee;rw [hw];exact hB.le hj hjl
 have hj:=jn_jd hg hD (v:=(gE B k).b) he.lu;have hp:=h.pt _ _ he.lu he.lv;rw [chE,← decide_not,decide_eq_decide,hj,hp];exact ⟨fun q r=>q r.2,fun q r=>q ⟨he.lv,r⟩⟩
structure Jng (g:G) (B:List Ed) (i k m:Nat) (p:Nat→Int):Prop where
 le:i≤m∧m≤k∧k≤B.length
 pt:PtI g.ids.length (prs (B.take m)) p
theorem Jng.step {g:G} (hg:g.valid = true) {B:List Ed} (hB:ByW g B) {i k m:Nat} {p:Nat→Int} (h:Jng g B i k m p) (hm:m < k):Jng g B i k (m + 1) (joP p (gE B m).a (gE B m).b):=by
 have hl:=h.le;have he:=(hB.edge hg (i:=m) (by omega)).2;refine ⟨⟨by omega,by omega,hl.2.2⟩,?_⟩;rw [take_gE (by omega),prs,List.map_append];exact h.pt.join he.lu he.lv
theorem Jng.next {g:G} {B:List Ed} (hB:ByW g B) {i k:Nat} {p:Nat→Int} (h:Jng g B i k k p) (hik:i < k) (hw:∀ j,i≤j→j < k→(gE B j).w = (gE B i).w) (hn:k < B.length→(gE B k).w≠(gE B i).w):Cls g B k p:=by
 have hl:=h.le;refine ⟨hl.2.2,h.pt,fun j hj hk=>?_⟩;have h1:=hB.le (i:=i) (j:=k) (by omega) hk;have h2:=hn hk;have h3:(gE B j).w≤(gE B i).w:=by
  by_cases e:i≤j
  . rw [hw j e hj];exact Int.le_refl _
  . exact hB.le (by omega) (by omega)
 omega
def cpI (a b:Int):Int:=if a < b then -1 else if a > b then 1 else 0
def edC (e:Ed):List V:=[.int .i64 e.a,.int .i64 e.b,.int .i64 e.w]
def edV (e:Ed):V:=.agg (edC e)
theorem isnan_ok (a:Int):Ret Tryz.prog 71 [.int .i64 a] (.bool false):=by
 refine J0f rfl ?_;refine J0b J0a Tryz.func71 rfl hc71 hr71 rfl ?_
 repeat' ((conv=>whnf);first | (refine Br.bne ?_ ?_ <;> intro _ <;> try omega))
 all_goals (conv=>whnf)
 all_goals first
  | exact VLe.rfl
  | (exfalso;rename_i h;exact h rfl)
theorem J46 (a b:Int):Ret Tryz.prog 38 [.int .i64 a,.int .i64 b] (.int .i64 (cpI a b)):=by
 have h1:=isnan_ok a;have h2:=isnan_ok b;refine J0f rfl ?_;refine J0b J0a Tryz.func38 rfl hc38 hr38 rfl ?_
 repeat' ((conv=>whnf);first | (refine Br.ff ?_) | (refine Br.dec ?_ ?_ <;> intro _ <;> try omega) | (refine h1.go ?_) | (refine h2.go ?_))
 all_goals (conv=>whnf)
 all_goals exact VLe.int (by rw [cpI];repeat' split;all_goals first | rfl | omega)
theorem or_ok (a b:Int):Ret Tryz.prog 69 [.fz 2 1 false (vI [a,b])] (.int .i64 (if a = 0 then b else a)):=by
 refine J0f rfl ?_;refine J0b J0a Tryz.func69 rfl hc69 hr69 rfl ?_;have e0:vI [a,b] 0 0 = .int .i64 a:=rfl;have e1:vI [a,b] 1 0 = .int .i64 b:=rfl
 repeat' ((conv=>whnf);first | fail)
 all_goals (conv=>whnf)
 refine J1X J0a 3 ?_
 repeat' ((conv=>whnf);first | (refine Br.tt ?_) | (refine Br.ff ?_) | (refine Br.bne ?_ ?_ <;> intro _ <;> try omega) | (refine Ar.i64 (by omega) (by omega) ?_) | (refine Ix.mk 0 rfl (by omega) ?_) | (refine Ix.mk 1 rfl (by omega) ?_))
 all_goals (conv=>whnf)
 all_goals first
  | (rename_i h;have h:a≠0:=h;rw [if_neg h];exact VLe.rfl)
  | (rename_i h _;have h:a = 0:=h;rw [if_pos h];exact VLe.rfl)
  | (rename_i h h2;have h:a = 0:=h;have h2:b = 0:=h2;rw [if_pos h,h2];exact VLe.rfl)
def cfE (x y:Ed):Int:=if cpI x.a y.a = 0 then cpI x.b y.b else cpI x.a y.a
theorem cfE_lt (x y:Ed):cfE x y < 0↔x.lt y:=by
 simp only [cfE,cpI,Ed.lt]
 repeat' split
 all_goals omega
theorem cpW_lt (x y:Ed):cpI x.w y.w < 0↔ltW x y:=by
 simp only [cpI,ltW]
 repeat' split
 all_goals omega
theorem span1_ok (x y:Ed):Ret Tryz.prog 37 [edV x,edV y] (.int .i64 (cpI x.w y.w)):=by
 have h:=J46 x.w y.w;refine J0f rfl ?_;refine J0b J0a Tryz.func37 rfl hc37 hr37 rfl ?_
 repeat' ((conv=>whnf);first | (refine h.go ?_))
 all_goals (conv=>whnf)
 exact VLe.rfl
theorem edges1_ok (x y:Ed):Ret Tryz.prog 68 [edV x,edV y] (.int .i64 (cfE x y)):=by
 have h1:=J46 x.a y.a;have h2:=J46 x.b y.b;have h3:=or_ok (cpI x.a y.a) (cpI x.b y.b);refine J0f rfl ?_;refine J0b J0a Tryz.func68 rfl hc68 hr68 rfl ?_
 repeat' ((conv=>whnf);first | (refine h1.go ?_) | (refine h2.go ?_) | (refine And.intro rfl ?_) | (refine J08 h3 rfl ⟨by decide,VLe.fz rfl (fun h=>h) (two_le' _ _ _ rfl rfl),True.intro⟩ ?_))
 all_goals (conv=>whnf)
 exact VLe.rfl
theorem J4d (e:Ed) (j:Nat) (hj:j < 3) (L:List Ed) (i:Nat) (he:gE L i = e):eF L i j = (edC e).getD j default:=by
 subst he;rcases (show j = 0∨j = 1∨j = 2 by omega) with rfl | rfl | rfl <;> rfl
theorem swap_le (L:List Ed) (q:Nat) (hq:q + 1 < L.length) (i t:Nat) (ht:t < 3):VLe (J1W (J1W (eF L) (q + 1) 0 (edC (gE L q))) q 0 (edC (gE L (q + 1))) i t) (eF (swE L (q + 1) q) i t):=by
 apply VLe.of_eq;have hg:=swE_get (L:=L) (i:=q + 1) (j:=q) hq (by omega) i;have hl:∀ e:Ed,(edC e).length = 3:=fun e=>rfl;simp only [J1W,hl,Nat.sub_zero,Nat.zero_le,true_and,Nat.zero_add];by_cases e1:i = q
 . rw [if_pos e1] at hg;rw [if_pos ⟨e1,ht⟩,J4d _ t ht _ i hg]
 . rw [if_neg e1] at hg;rw [if_neg (fun h=>e1 h.1)];by_cases e2:i = q + 1
   . rw [if_pos e2] at hg;rw [if_pos ⟨e2,ht⟩,J4d _ t ht _ i hg]
   . rw [if_neg e2] at hg;rw [if_neg (fun h=>e2 h.1),J4d _ t ht _ i hg,J4d _ t ht _ i rfl]
set_option maxHeartbeats 8000000 in
theorem ins_ok (cl:FuncId) (hcl:J0N Tryz.prog cl = true) (cf:Ed→Ed→Int) (hcf:∀ x y,Ret Tryz.prog cl [edV x,edV y] (.int .i64 (cf x y))) (lt:Ed→Ed→Prop) (hw:Wo lt) (hlt:∀ x y,cf x y < 0↔lt x y) (L0:List Ed) (hL:L0.length≤1000) :
 J0K Tryz.prog 97 [.vec 0 3 0 L0.length,.int .i64 0,.int .i64 L0.length,.fn (.func cl) false []] [(0,.vec L0.length 3 (eF L0))] [1,2,3,4,5,6,7,8,9,10,11,12,13,14,15,16,17,18,19,20,21,22,23,24,25,26,27,28,29]
  fun v own' _=>∃ L:List Ed,(L.Perm L0∧SoI lt L L.length)∧v = .tup []∧own' = [(0,.vec L0.length 3 (eF L))]:=by
 refine J0b J0a Tryz.func97 rfl hc97 hr97 rfl ?_
 repeat' ((conv=>whnf);first | (refine Ar.i64 (by omega) (by omega) ?_))
 all_goals (conv=>whnf)
 refine J0Q J0a [0,1,2,3] [] [1,2,3,4,5,6,7,8,9,10,11,12,13,14,15,16,17,18,19,20,21,22,23,24,25,26,27,28,29] [0] (fun p:Nat × List Ed=>[(8,.int .i64 ((p.1:Int) + 1))]) (fun own p=>J1Z own 0 (.vec L0.length 3 (eF p.2))) (fun m p=>m = L0.length - p.1∧(p.1 = 0∨p.1 + 1≤L0.length)∧p.2.Perm L0∧SoI lt p.2 (p.1 + 1)) L0.length (0,L0) ⟨rfl,.inl rfl,.refl _,SoI.one (by omega)⟩ rfl (fun _=>rfl) ?_ ?_
 . exact J0j (fun _ _=>[(0,some 0)])
 rintro m ⟨k,L1⟩ ⟨hm,hk,hp1,hs1⟩;simp only at hm hk hp1 hs1;have hl1:=hp1.length_eq;by_cases hkn:k + 1 < L0.length
 . dsimp only
   repeat' ((conv=>whnf);first | (refine Br.dec ?_ ?_ <;> intro _ <;> try omega))
   all_goals (conv=>whnf)
   refine J0Q J0a [0,1,2,3,8] [] [1,2,3,4,5,6,7,8,9,10,11,12,13,14,15,16,17,18,19,20,21,22,23,24,25,26,27,28,29] [0] (fun p:Nat × List Ed=>[(9,.int .i64 p.1)]) (fun own p=>J1Z own 0 (.vec L0.length 3 (eF p.2))) (fun m p=>m = p.1∧SoJ lt p.2 (k + 1) p.1∧p.2.Perm L0) (k + 1) (k + 1,L1) ⟨rfl,SoJ.start hs1,hp1⟩ rfl (fun _=>rfl) ?_ ?_
   . exact J0j (fun _ _=>[(0,some 0)])
   rintro m ⟨j,L⟩ ⟨hm2,hj,hp⟩;simp only at hm2 hj hp;have hl:=hp.length_eq;have hle:=hj.le;subst hm2;rcases m with _ | q
   . dsimp only
     repeat' ((conv=>whnf);first | (refine Br.ff ?_) | (refine Ar.i64 (by omega) (by omega) ?_))
     all_goals (conv=>whnf)
     refine ⟨L0.length - (k + 1),(k + 1,L),by omega,⟨rfl,.inr (by omega),hp,hj.done hw (.inl rfl)⟩,?_⟩;exact J0j (fun _ _=>[(0,some 0)])
   . dsimp only;have h1:=hcf (gE L (0 + (q + 1))) (gE L (0 + q));have z1:0 + (q + 1) = q + 1:=Nat.zero_add _;have z2:0 + q = q:=Nat.zero_add _;by_cases hc:cf (gE L (0 + (q + 1))) (gE L (0 + q)) < 0
     . repeat' ((conv=>whnf);first | (refine Ix.mk (q + 1) (by omega) (by omega) ?_) | (refine Ix.mk q (by omega) (by omega) ?_) | (refine Br.dec ?_ ?_ <;> intro _ <;> try omega) | (refine Ar.i64 (by omega) (by omega) ?_) | (refine Ltn.mk (by omega) ?_) | (refine Chk.mk hcl ?_) | (refine h1.go ?_))
       all_goals (conv=>whnf)
       rw [z1,z2] at hc;refine ⟨q,(q,swE L (q + 1) q),by omega,⟨rfl,hj.step hw (by omega) ((hlt _ _).1 hc),(swE_perm (by omega)).trans hp⟩,?_⟩;refine J0g (fun _ _=>[(0,some 0)]) ?_ ?_ rfl
       . repeat' (first | exact True.intro | (refine J0d.fn ?_) | (refine ⟨⟨_,rfl,?_⟩,?_⟩) | exact J0d.kf rfl | exact J0d.int (by omega) | exact J0d.vec rfl rfl rfl)
       . repeat' (first | exact ⟨Nat.le_refl _,rfl,fun i t hi ht=>by simp only [Nat.zero_add];exact swap_le L q (by omega) i t ht⟩ | exact True.intro | (refine ⟨⟨_,rfl,?_⟩,?_⟩))
     . repeat' ((conv=>whnf);first | (refine Ix.mk (q + 1) (by omega) (by omega) ?_) | (refine Ix.mk q (by omega) (by omega) ?_) | (refine Br.dec ?_ ?_ <;> intro _ <;> try omega) | (refine Ar.i64 (by omega) (by omega) ?_) | (refine Ltn.mk (by omega) ?_) | (refine Chk.mk hcl ?_) | (refine h1.go ?_))
       all_goals (conv=>whnf)
       rw [z1,z2] at hc;refine ⟨L0.length - (k + 1),(k + 1,L),by omega,⟨rfl,.inr (by omega),hp,hj.done hw (.inr (fun h=>hc ((hlt _ _).2 h)))⟩,?_⟩;exact J0j (fun _ _=>[(0,some 0)])
 . dsimp only
   repeat' ((conv=>whnf);first | (refine Br.dec ?_ ?_ <;> intro _ <;> try omega))
   all_goals (conv=>whnf)
   refine ⟨L1,⟨hp1,?_⟩,rfl,rfl⟩;intro p q h1 h2;exact hs1 p q h1 (by omega)
def lnTb (n:Nat):Int:=if n = 0 then 0 else if n = 1 then 1 else if n≤3 then 2 else if n≤7 then 3 else 4
theorem ar_u8 {n:Int} {K:Int→Prop} (h1:0≤n) (h2:n≤255) (hK:K n):Ar .u8 n K:=⟨n,by simp [IntKind.wrap,IntKind.bits,IntKind.signed];omega,hK⟩
theorem blen64_ok (n:Nat) (h:n≤12):Ret Tryz.prog 136 [.int .u64 n] (.int .i64 (lnTb n)):=by
 rcases (show n = 0∨n = 1∨n = 2∨n = 3∨n = 4∨n = 5∨n = 6∨n = 7∨n = 8∨n = 9∨n = 10∨n = 11∨n = 12 by omega) with rfl | rfl | rfl | rfl | rfl | rfl | rfl | rfl | rfl | rfl | rfl | rfl | rfl
 all_goals
  refine J0f rfl ?_;refine J0b J0a Tryz.func136 rfl hc136 hr136 rfl ?_
  repeat' ((conv=>whnf);first | (refine Br.ff ?_) | (refine ar_u8 (by omega) (by omega) ?_) | (refine Ix.nat (by decide) ?_) | (refine Ar.i64 (by decide) (by decide) ?_))
  all_goals (conv=>whnf)
  first
   | (refine VLe.int ?_;decide)
   | (refine VLe.int ?_;rfl)
   | exact VLe.of_eq rfl
theorem blen_ok (n:Nat) (h:n≤12):Ret Tryz.prog 96 [.int .u64 n] (.int .i64 (lnTb n)):=by
 have h1:=blen64_ok n h;refine J0f rfl ?_;refine J0b J0a Tryz.func96 rfl hc96 hr96 rfl ?_
 repeat' ((conv=>whnf);first | (refine h1.go ?_))
 all_goals (conv=>whnf)
 exact VLe.rfl
abbrev ks29:List Nat:=[1,2,3,4,5,6,7,8,9,10,11,12,13,14,15,16,17,18,19,20,21,22,23,24,25,26,27,28,29]
theorem pdq_ok (cl:FuncId) (hcl:J0N Tryz.prog cl = true) (cf:Ed→Ed→Int) (hcf:∀ x y,Ret Tryz.prog cl [edV x,edV y] (.int .i64 (cf x y))) (lt:Ed→Ed→Prop) (hw:Wo lt) (hlt:∀ x y,cf x y < 0↔lt x y) (L0:List Ed) (hL:L0.length≤12) (lim:Int) :
 J0K Tryz.prog 95 [.vec 0 3 0 L0.length,.int .i64 0,.int .i64 L0.length,.int .i64 lim,.fn (.func cl) false []] [(0,.vec L0.length 3 (eF L0))] ks29
  fun v own' _=>∃ L:List Ed,(L.Perm L0∧SoI lt L L.length)∧v = .tup []∧own' = [(0,.vec L0.length 3 (eF L))]:=by
 have hi:=ins_ok cl hcl cf hcf lt hw hlt L0 (by omega);refine J0b J0a Tryz.func95 rfl hc95 hr95 rfl ?_
 repeat' ((conv=>whnf);first | fail)
 all_goals (conv=>whnf)
 refine J1X J0a 1 ?_
 repeat' ((conv=>whnf);first | (refine Br.dec ?_ ?_ <;> intro _ <;> try omega) | (refine Ar.i64 (by omega) (by omega) ?_) | (refine hi.mono ?_;rintro _ _ _ ⟨L,hp,rfl,rfl⟩))
 all_goals (conv=>whnf)
 exact ⟨L,hp,rfl,rfl⟩
theorem sortf_ok (cl:FuncId) (hcl:J0N Tryz.prog cl = true) (cf:Ed→Ed→Int) (hcf:∀ x y,Ret Tryz.prog cl [edV x,edV y] (.int .i64 (cf x y))) (lt:Ed→Ed→Prop) (hw:Wo lt) (hlt:∀ x y,cf x y < 0↔lt x y) (L0:List Ed) (hL:L0.length≤12) :
 J0K Tryz.prog 67 [.vec 0 3 0 L0.length,.fn (.func cl) false []] [(0,.vec L0.length 3 (eF L0))] ks29
  fun v own' _=>∃ L:List Ed,(L.Perm L0∧SoI lt L L.length)∧v = .tup []∧own' = [(0,.vec L0.length 3 (eF L))]:=by
 have hb:=blen_ok L0.length hL;have hi:=pdq_ok cl hcl cf hcf lt hw hlt L0 hL (lnTb L0.length);refine J0b J0a Tryz.func67 rfl hc67 hr67 rfl ?_
 repeat' ((conv=>whnf);first | (refine Ar.u64 (by omega) (by omega) ?_) | (refine hb.go ?_) | (refine hi.mono ?_;rintro _ _ _ ⟨L,hp,rfl,rfl⟩))
 all_goals (conv=>whnf)
 exact ⟨L,hp,rfl,rfl⟩
theorem stable_ok (cl:FuncId) (hcl:J0N Tryz.prog cl = true) (cf:Ed→Ed→Int) (hcf:∀ x y,Ret Tryz.prog cl [edV x,edV y] (.int .i64 (cf x y))) (lt:Ed→Ed→Prop) (hw:Wo lt) (hlt:∀ x y,cf x y < 0↔lt x y) (L0:List Ed) (hL:L0.length≤12) :
 J0K Tryz.prog 70 [.vec 0 3 0 L0.length,.int .i64 L0.length,.fn (.func cl) false []] [(0,.vec L0.length 3 (eF L0))] ks29
  fun v own' _=>∃ L:List Ed,(L.Perm L0∧SoI lt L L.length)∧v = .tup []∧own' = [(0,.vec L0.length 3 (eF L))]:=by
 have hi:=ins_ok cl hcl cf hcf lt hw hlt L0 (by omega);refine J0b J0a Tryz.func70 rfl hc70 hr70 rfl ?_
 repeat' ((conv=>whnf);first | fail)
 all_goals (conv=>whnf)
 refine J1X J0a 1 ?_
 repeat' ((conv=>whnf);first | (refine Br.dec ?_ ?_ <;> intro _ <;> try omega) | (refine hi.mono ?_;rintro _ _ _ ⟨L,hp,rfl,rfl⟩))
 all_goals (conv=>whnf)
 refine J1X J0a 1 ?_
 repeat' ((conv=>whnf);first | (refine Br.dec ?_ ?_ <;> intro _ <;> try omega))
 all_goals (conv=>whnf)
 exact ⟨L,hp,rfl,rfl⟩
theorem sorts_ok (cl:FuncId) (hcl:J0N Tryz.prog cl = true) (cf:Ed→Ed→Int) (hcf:∀ x y,Ret Tryz.prog cl [edV x,edV y] (.int .i64 (cf x y))) (lt:Ed→Ed→Prop) (hw:Wo lt) (hlt:∀ x y,cf x y < 0↔lt x y) (L0:List Ed) (hL:L0.length≤12) :
 J0K Tryz.prog 36 [.vec 0 3 0 L0.length,.fn (.func cl) false []] [(0,.vec L0.length 3 (eF L0))] ks29
  fun v own' _=>∃ L:List Ed,(L.Perm L0∧SoI lt L L.length)∧v = .tup []∧own' = [(0,.vec L0.length 3 (eF L))]:=by
 have hi:=stable_ok cl hcl cf hcf lt hw hlt L0 hL;refine J0b J0a Tryz.func36 rfl hc36 hr36 rfl ?_
 repeat' ((conv=>whnf);first | (refine hi.mono ?_;rintro _ _ _ ⟨L,hp,rfl,rfl⟩))
 all_goals (conv=>whnf)
 exact ⟨L,hp,rfl,rfl⟩
def J5B (g:G) (v i:Nat):List Ed:=((List.range v).flatMap fun v=>(gR g.ports v).filterMap (rawE v)) ++ ((gR g.ports v).take i).filterMap (rawE v)
theorem rawP_row (g:G) (v:Nat):J5B g v (gR g.ports v).length = J5B g (v + 1) 0:=by
 rw [J5B,J5B,List.take_length,List.range_succ,List.flatMap_append];simp
theorem rawP_end (g:G):J5B g g.ids.length 0 = rawL g:=by simp [J5B,rawL]
theorem rawP_zero (g:G):J5B g 0 0 = []:=by simp [J5B]
theorem rawP_next (g:G) (v:Nat) {i:Nat} (hi:i < (gR g.ports v).length):J5B g v (i + 1) = J5B g v i ++ (rawE v (gF (gR g.ports v) i)).toList:=by
 rw [J5B,J5B,J1t _ i hi,List.filterMap_append,← List.append_assoc];congr 1
theorem flat_len {α β:Type} (f:α→List β):∀ {l m:List α},l.Sublist m→(l.flatMap f).length≤(m.flatMap f).length:=fun h=>by
 induction h with
 | slnil=>simp
 | cons a _ ih=>simp only [List.flatMap_cons,List.length_append];omega
 | cons_cons a _ ih=>simp only [List.flatMap_cons,List.length_append];omega
theorem rawP_le (g:G) {v i:Nat} (hv:v < g.ids.length):(J5B g v i).length≤(rawL g).length:=by
 have h1:(J5B g v i).length≤(J5B g (v + 1) 0).length:=by
  rw [← rawP_row,J5B,J5B,List.take_length];simp only [List.length_append];have:=(List.Sublist.filterMap (rawE v) (List.take_sublist i (gR g.ports v))).length_le;omega
 have h2:(J5B g (v + 1) 0).length≤(rawL g).length:=by
  simp only [J5B,rawL,List.take_zero,List.filterMap_nil,List.append_nil];exact flat_len _ (List.range_sublist.2 (by omega))
 omega
theorem vle_appE (L:List Ed) (e:Ed) (n i j:Nat) (hn:L.length = n) (f:Nat→Nat→V) (h0:f 0 0 = .int .i64 e.a) (h1:f 0 1 = .int .i64 e.b) (h2:f 0 2 = .int .i64 e.w) (hi:i < n + 1) (hj:j < 3) :
 VLe (J3Y (J0k 0 (eF L)) n (J0k 0 f) i j) (eF (L ++ [e]) i j):=by
 subst hn;apply VLe.of_eq;by_cases h:i < L.length
 . rw [J1h h,sh_at,Nat.zero_add];have:gE (L ++ [e]) i = gE L i:=by simp [gE,List.getD,List.getElem?_append_left h]
   rw [J4d _ j hj _ i this,J4d _ j hj _ i rfl]
 . rw [J1i h,sh_at,Nat.zero_add];have hil:i = L.length:=by omega
   subst hil;have:gE (L ++ [e]) L.length = e:=by simp [gE,List.getD]
   rw [J4d _ j hj _ _ this,Nat.sub_self];rcases (show j = 0∨j = 1∨j = 2 by omega) with rfl | rfl | rfl
   . rw [h0];rfl
   . rw [h1];rfl
   . rw [h2];rfl
set_option maxHeartbeats 16000000 in
theorem edges_ok (g:G) (hs:g.Small) (hg:g.valid = true) (h12:(rawL g).length≤12):Ret Tryz.prog 34 [g.v] (.fz (J0R g).length 3 false (eF (J0R g))):=by
 obtain ⟨f1,f2,f3,f4,f5,f6,f7⟩:=J0e hg;refine J0f rfl ?_;refine J0b J0a Tryz.func34 rfl hc34 hr34 rfl ?_
 repeat' ((conv=>whnf);first | (refine J0b J0a Tryz.func66 rfl hc66 hr66 rfl ?_) | (refine J2P ?_) | (refine Chk.mk (by kernel_rfl) ?_) | (refine J0b J0a Tryz.func94 rfl hc94 hr94 rfl ?_))
 all_goals (conv=>whnf)
 refine J0Q J0a [0,8,9] [4] [5,6,7,8,9,10,11,12,13,14,15,16,17,18,19,20,21,22,23,24,25,26,27,28,29] [4,3,2,1,0] (fun v:Nat=>[(10,.int .i64 v)]) (fun own v=>clO ((4,.vec (J5B g v 0).length 3 (eF (J5B g v 0))) :: J1Z own 1 (.cells [.vec 4 3 0 (J5B g v 0).length]))) (fun m v=>m = g.ids.length - v∧v≤g.ids.length) g.ids.length 0 ⟨rfl,Nat.zero_le _⟩ rfl (fun _=>rfl) ?_ ?_
 . simp only [rawP_zero];refine J0g (fun _ _=>[(0,some 0),(1,some 1),(2,some 2),(3,some 3),(4,none)]) ?_ ?_ rfl
   . repeat' (first | exact J0d.yld rfl | exact True.intro | (refine ⟨⟨_,rfl,?_⟩,?_⟩) | exact J0d.kf rfl)
   . repeat' (first | (refine J0d.fn ?_) | (refine ⟨rfl,rfl,rfl,rfl,rfl,?_⟩) | exact True.intro | (refine ⟨⟨_,rfl,?_⟩,?_⟩) | exact J0d.kf rfl | exact J0d.loc rfl | exact J0d.nil rfl rfl | (refine ⟨⟨_,_,rfl⟩,?_⟩) | (refine And.intro ?_ ?_))
 rintro m v ⟨hm,hv⟩;by_cases hvn:v < g.ids.length
 . have hrl:=J4O hg v
   repeat' ((conv=>whnf);first | (refine Br.dec ?_ ?_ <;> intro _ <;> try omega) | (refine Ix.nat (by omega) ?_))
   all_goals (conv=>whnf)
   refine J0Q J0a [0,3,8,9,10,15,16] [4] [5,6,7,8,9,10,11,12,13,14,15,16,17,18,19,20,21,22,23,24,25,26,27,28,29] [4,3,2,1,0] (fun i:Nat=>[(17,.int .i64 i)]) (fun own i=>clO (J1Z (J1Z own 4 (.vec (J5B g v i).length 3 (eF (J5B g v i)))) 1 (.cells [.vec 4 3 0 (J5B g v i).length]))) (fun m i=>m = (gR g.ports v).length - i∧i≤(gR g.ports v).length) (gR g.ports v).length 0 ⟨rfl,Nat.zero_le _⟩ rfl (fun _=>rfl) ?_ ?_
   . refine J0g (fun _ _=>[(0,some 0),(1,some 1),(2,some 2),(3,some 3),(4,some 4)]) ?_ ?_ rfl
     . repeat' (first | exact J0d.yld rfl | exact True.intro | (refine ⟨⟨_,rfl,?_⟩,?_⟩) | exact J0d.kf rfl)
     . repeat' (first | (refine J0d.fn ?_) | (refine ⟨rfl,rfl,rfl,rfl,rfl,?_⟩) | exact True.intro | (refine ⟨⟨_,rfl,?_⟩,?_⟩) | exact J0d.kf rfl | exact J0d.loc rfl | exact J0d.vec rfl rfl rfl | (refine ⟨Nat.le_refl _,rfl,fun i j hi hj=>?_⟩) | exact VLe.rfl | (refine And.intro ?_ ?_))
   rintro m i ⟨hm2,hi⟩;by_cases hin:i < (gR g.ports v).length
   . have hok:=(J0t.1 (f6 v (by omega))).1 _ (J1l hin);have hnx:=rawP_next g v hin;have hle:=rawP_le g (v:=v) (i:=i) hvn;by_cases hlt:(v:Int) < (gF (gR g.ports v) i).1
     . have hre:rawE v (gF (gR g.ports v) i) = some ⟨v,(gF (gR g.ports v) i).1.toNat,(gF (gR g.ports v) i).2⟩:=if_pos hlt;rw [hre,Option.toList_some] at hnx
       repeat' ((conv=>whnf);first | (refine Br.tt ?_) | (refine Br.dec ?_ ?_ <;> intro _ <;> try omega) | (refine Br.nbeq ?_ ?_ <;> intro _ <;> try omega) | (refine Ar.i64 (by omega) (by omega) ?_) | (refine Ix.nat (by omega) ?_) | (refine Len.mk (by omega) ?_) | (refine J2e J0a rfl rfl ?_))
       all_goals (conv=>whnf)
       refine ⟨(gR g.ports v).length - (i + 1),i + 1,by omega,⟨rfl,by omega⟩,?_⟩;simp only [hnx,List.length_append,List.length_singleton];refine J0g (fun _ own=>[(0,some 0),(1,some 1),(2,some 2),(3,some 3),(4,ckeyo own 1 0)]) ?_ ?_ rfl
       . repeat' (first | exact J0d.yld rfl | exact True.intro | (refine ⟨⟨_,rfl,?_⟩,?_⟩) | exact J0d.kf rfl)
       . repeat' (first | (refine J0d.fn ?_) | (refine ⟨rfl,rfl,rfl,rfl,rfl,?_⟩) | (refine ⟨Nat.le_refl _,rfl,fun i j hi hj=>?_⟩) | exact vle_appE _ _ _ _ _ rfl _ rfl (by show V.int .i64 _ = V.int .i64 _;rw [Int.toNat_of_nonneg (by omega)]) rfl hi hj | exact True.intro | (refine ⟨⟨_,rfl,?_⟩,?_⟩) | exact J0d.kf rfl | exact J0d.loc rfl | exact J0d.vec rfl rfl rfl | (refine And.intro ?_ ?_))
     . have hre:rawE v (gF (gR g.ports v) i) = none:=if_neg hlt;rw [hre,Option.toList_none,List.append_nil] at hnx
       repeat' ((conv=>whnf);first | (refine Br.tt ?_) | (refine Br.dec ?_ ?_ <;> intro _ <;> try omega) | (refine Ar.i64 (by omega) (by omega) ?_) | (refine Ix.nat (by omega) ?_) | (refine J2e J0a rfl rfl ?_))
       all_goals (conv=>whnf)
       refine ⟨(gR g.ports v).length - (i + 1),i + 1,by omega,⟨rfl,by omega⟩,?_⟩;simp only [hnx];refine J0g (fun _ _=>[(0,some 0),(1,some 1),(2,some 2),(3,some 3),(4,some 4)]) ?_ ?_ rfl
       . repeat' (first | exact J0d.yld rfl | exact True.intro | (refine ⟨⟨_,rfl,?_⟩,?_⟩) | exact J0d.kf rfl)
       . repeat' (first | (refine J0d.fn ?_) | (refine ⟨rfl,rfl,rfl,rfl,rfl,?_⟩) | exact True.intro | (refine ⟨⟨_,rfl,?_⟩,?_⟩) | exact J0d.kf rfl | exact J0d.loc rfl | exact J0d.vec rfl rfl rfl | (refine ⟨Nat.le_refl _,rfl,fun i j hi hj=>?_⟩) | exact VLe.rfl | (refine And.intro ?_ ?_))
   . repeat' ((conv=>whnf);first | (refine Br.dec ?_ ?_ <;> intro _ <;> try omega) | (refine Ar.i64 (by omega) (by omega) ?_))
     all_goals (conv=>whnf)
     refine ⟨g.ids.length - (v + 1),v + 1,by omega,⟨rfl,by omega⟩,?_⟩;have e:i = (gR g.ports v).length:=by omega
     subst e;simp only [← rawP_row];refine J0g (fun _ _=>[(0,some 0),(1,some 1),(2,some 2),(3,some 3),(4,some 4)]) ?_ ?_ rfl
     . repeat' (first | exact J0d.yld rfl | exact True.intro | (refine ⟨⟨_,rfl,?_⟩,?_⟩) | exact J0d.kf rfl)
     . repeat' (first | (refine J0d.fn ?_) | (refine ⟨rfl,rfl,rfl,rfl,rfl,?_⟩) | exact True.intro | (refine ⟨⟨_,rfl,?_⟩,?_⟩) | exact J0d.kf rfl | exact J0d.loc rfl | exact J0d.vec rfl rfl rfl | (refine ⟨Nat.le_refl _,rfl,fun i j hi hj=>?_⟩) | exact VLe.rfl | (refine And.intro ?_ ?_))
 . have ev:v = g.ids.length:=by omega
   subst ev;simp only [rawP_end];have hso:=sortf_ok 68 (by kernel_rfl) cfE edges1_ok Ed.lt wo_lt cfE_lt (rawL g) h12
   repeat' ((conv=>whnf);first | (refine Br.dec ?_ ?_ <;> intro _ <;> try omega) | (refine Len.mk (by omega) ?_) | (refine J2q [(0,some 4)] [] (hso.mono ?_) ⟨J0d.vec rfl rfl rfl,J0d.fn True.intro,True.intro⟩ (by repeat' (first | exact True.intro | (refine ⟨⟨_,rfl,?_⟩,?_⟩) | (refine ⟨Nat.le_refl _,rfl,fun i j hi hj=>?_⟩) | exact VLe.rfl)) rfl;rintro _ _ _ ⟨L,⟨hp,hsl⟩,rfl,rfl⟩) | (refine Chk.mk rfl ?_))
   all_goals (conv=>whnf)
   have hE:=sorted_edges hg hp hsl.pairwise;subst hE;exact VLe.fz hp.length_eq.symm (fun h=>h) (fun i j hi hj=>VLe.of_eq (by rw [sh_at,Nat.zero_add]))
def pF (p:Nat→Int):Nat→Nat→V:=fun i _=>.int .i64 (p i)
theorem pf_set (p:Nat→Int) (v:Nat) (x:Int) (n i j:Nat) (hi:i < n) (hj:j < 1):VLe (J1W (pF p) v 0 [.int .i64 x] i j) (pF (fun u=>if u = v then x else p u) i j):=by
 apply VLe.of_eq;obtain rfl:j = 0:=by omega
 simp only [pF,J1W];by_cases h:i = v
 . subst h;simp
 . simp [h]
structure JoS (p:Nat→Int) (a b v:Nat) (q:Nat→Int):Prop where
 lo:∀ u,u < v→q u = joP p a b u
 hi:∀ u,v≤u→q u = p u
theorem JoS.start {p:Nat→Int} {a b:Nat}:JoS p a b 0 p:=⟨fun u h=>by omega,fun _ _=>rfl⟩
theorem JoS.yes {p:Nat→Int} {a b v:Nat} {q:Nat→Int} (h:JoS p a b v q) (he:p v = max (p a) (p b)):JoS p a b (v + 1) (fun u=>if u = v then min (p a) (p b) else q u):=by
 refine ⟨fun u hu=>?_,fun u hu=>?_⟩
 . show (if u = v then _ else q u) = _;by_cases e:u = v
   . subst e;rw [if_pos rfl,joP,if_pos he]
   . rw [if_neg e];exact h.lo u (by omega)
 . show (if u = v then _ else q u) = _;rw [if_neg (by omega)];exact h.hi u (by omega)
theorem JoS.no {p:Nat→Int} {a b v:Nat} {q:Nat→Int} (h:JoS p a b v q) (he:¬ p v = max (p a) (p b)):JoS p a b (v + 1) q:=by
 refine ⟨fun u hu=>?_,fun u hu=>h.hi u (by omega)⟩;by_cases e:u = v
 . subst e;rw [joP,if_neg he];exact h.hi u (Nat.le_refl _)
 . exact h.lo u (by omega)
theorem mxR (x y:Int):(if y > x then y else x) = max x y:=by
 rw [Int.max_def];split <;> split <;> omega
theorem mnR (x y:Int):(if y < x then y else x) = min x y:=by
 rw [Int.min_def];split <;> split <;> omega
set_option maxHeartbeats 8000000 in
theorem join_ok (n:Nat) (hn:n≤1000000) (p:Nat→Int) (a b:Nat) (ha:a < n) (hb:b < n) :
 J0K Tryz.prog 39 [.vec 0 1 0 n,.int .i64 a,.int .i64 b] [(0,.vec n 1 (pF p))] ks29
  fun v own' _=>∃ q:Nat→Int,(∀ u,u < n→q u = joP p a b u)∧v = .tup []∧own' = [(0,.vec n 1 (pF q))]:=by
 refine J0b J0a Tryz.func39 rfl hc39 hr39 rfl ?_
 repeat' ((conv=>whnf);first | (refine Ix.mk a (by omega) (by omega) ?_) | (refine Ix.mk b (by omega) (by omega) ?_) | (refine Sv.mk _ rfl ?_) | (refine Ltn.mk (by omega) ?_) | (refine And.intro (Ltn.mk (by omega) rfl) ?_))
 all_goals (conv=>whnf)
 refine J0Q J0a [0,6,7,28] [] ks29 [0] (fun s:Nat × (Nat→Int)=>[(29,.int .i64 s.1)]) (fun own s=>J1Z own 0 (.vec n 1 (pF s.2))) (fun m s=>m = n - s.1∧s.1≤n∧JoS p a b s.1 s.2) n (0,p) ⟨rfl,Nat.zero_le _,JoS.start⟩ rfl (fun _=>rfl) ?_ ?_
 . exact J0j (fun _ _=>[(0,some 0)])
 rintro m ⟨v,q⟩ ⟨hm,hv,hJ⟩;simp only at hm hv hJ;by_cases hvn:v < n
 . dsimp only;have hqv:=hJ.hi v (Nat.le_refl _);have z0:0 + a = a:=Nat.zero_add _;have z1:0 + b = b:=Nat.zero_add _;have z2:0 + v = v:=Nat.zero_add _;by_cases hc:q (0 + v) = (if p (0 + b) > p (0 + a) then p (0 + b) else p (0 + a))
   . repeat' ((conv=>whnf);first | (refine Br.dec ?_ ?_ <;> intro _ <;> try omega) | (refine Ar.i64 (by omega) (by omega) ?_) | (refine Ix.nat (by omega) ?_) | (refine Ltn.mk (by omega) ?_))
     all_goals (conv=>whnf)
     rw [mxR,z0,z1,z2,hqv] at hc;refine ⟨n - (v + 1),(v + 1,fun u=>if u = v then (if p (0 + b) < p (0 + a) then p (0 + b) else p (0 + a)) else q u),by omega,⟨rfl,by omega,?_⟩,?_⟩
     . rw [mnR,z0,z1];exact hJ.yes hc
     . refine J0g (fun _ _=>[(0,some 0)]) ?_ ?_ rfl
       . repeat' (first | exact True.intro | (refine ⟨⟨_,rfl,?_⟩,?_⟩) | exact J0d.kf rfl | exact J0d.vec rfl rfl rfl)
       . repeat' (first | exact ⟨Nat.le_refl _,rfl,fun i t hi ht=>by simp only [Nat.zero_add];exact pf_set q v _ n i t (by omega) ht⟩ | exact True.intro | (refine ⟨⟨_,rfl,?_⟩,?_⟩))
   . repeat' ((conv=>whnf);first | (refine Br.dec ?_ ?_ <;> intro _ <;> try omega) | (refine Ar.i64 (by omega) (by omega) ?_) | (refine Ix.nat (by omega) ?_) | (refine Ltn.mk (by omega) ?_))
     all_goals (conv=>whnf)
     rw [mxR,z0,z1,z2,hqv] at hc;refine ⟨n - (v + 1),(v + 1,q),by omega,⟨rfl,by omega,hJ.no hc⟩,?_⟩;exact J0j (fun _ _=>[(0,some 0)])
 . dsimp only
   repeat' ((conv=>whnf);first | (refine Br.dec ?_ ?_ <;> intro _ <;> try omega))
   all_goals (conv=>whnf)
   exact ⟨q,fun u hu=>hJ.lo u (by omega),rfl,rfl⟩
def sF (L:List (Nat × Nat)):Nat→Nat→V:=fun i j=>match j with
 | 0=>.int .i64 (L.getD i (0,0)).1
 | _ + 1=>.int .i64 (L.getD i (0,0)).2
theorem edges_len {g:G} (hg:g.valid = true):(J0R g).length = (rawL g).length:=by
 refine List.Perm.length_eq ?_;refine (List.perm_ext_iff_of_nodup ?_ (raw_nodup hg)).2 fun e=>by rw [J3v hg,raw_mem hg]
 rw [List.nodup_iff_pairwise_ne];exact (J3u g).imp fun {e f} hl q=>by subst q;exact lt_as _ _ hl hl
theorem pf_next (n v i j:Nat) (hj:j < 1):VLe (J1W (pF fun u=>if u < v then (u:Int) else 0) v 0 [.int .i64 v] i j) (pF (fun u=>if u < v + 1 then (u:Int) else 0) i j):=by
 refine (pf_set _ v (v:Int) (i + 1) i j (by omega) hj).trans (VLe.of_eq ?_);show V.int .i64 _ = V.int .i64 _;congr 1;show (if i = v then (v:Int) else if i < v then (i:Int) else 0) = if i < v + 1 then (i:Int) else 0
 by_cases h:i = v
 . subst h;simp
 . rw [if_neg h];by_cases q:i < v
   . rw [if_pos q,if_pos (by omega)]
   . rw [if_neg q,if_neg (by omega)]
theorem PtI.congr {n:Nat} {D:List (Nat × Nat)} {p q:Nat→Int} (h:PtI n D p) (he:∀ u,u < n→q u = p u):PtI n D q:=fun u v hu hv=>by rw [he u hu,he v hv];exact h u v hu hv
noncomputable def selT (g:G) (i:Nat):List (Nat × Nat):=(((J0R g).take i).filter (chE g)).map fun e=>(e.a,e.b)
theorem selT_len (g:G) (i:Nat):(selT g i).length≤i:=by
 rw [selT,List.length_map];exact Nat.le_trans (List.length_filter_le _ _) (by simp;omega)
theorem selT_yes {g:G} {i:Nat} (hi:i < (J0R g).length) (h:chE g (gE (J0R g) i) = true):selT g (i + 1) = selT g i ++ [((gE (J0R g) i).a,(gE (J0R g) i).b)]:=by
 rw [selT,take_gE hi,List.filter_append,List.map_append,List.filter_cons,if_pos h];rfl
theorem selT_no {g:G} {i:Nat} (hi:i < (J0R g).length) (h:chE g (gE (J0R g) i) = false):selT g (i + 1) = selT g i:=by
 rw [selT,take_gE hi,List.filter_append,List.map_append,List.filter_cons,if_neg (by rw [h];decide)];simp [selT]
theorem selT_end (g:G):selT g (J0R g).length = spanL g:=by rw [selT,List.take_length,J7F]
theorem vle_appS (L:List (Nat × Nat)) (a b:Nat) (n i j:Nat) (hn:L.length = n) (f:Nat→Nat→V) (h0:f 0 0 = .int .i64 a) (h1:f 0 1 = .int .i64 b) (hi:i < n + 1) (hj:j < 2):VLe (J3Y (J0k 0 (sF L)) n (J0k 0 f) i j) (sF (L ++ [(a,b)]) i j):=by
 subst hn;apply VLe.of_eq;by_cases h:i < L.length
 . rw [J1h h,J0x,Nat.zero_add];have e:(L ++ [(a,b)]).getD i (0,0) = L.getD i (0,0):=by simp [List.getD,List.getElem?_append_left h]
   rcases j with _ | j
   . show V.int .i64 _ = V.int .i64 _;rw [e]
   . show V.int .i64 _ = V.int .i64 _;rw [e]
 . rw [J1i h];obtain rfl:i = L.length:=by omega
   have e:(L ++ [(a,b)]).getD L.length (0,0) = (a,b):=by simp [List.getD]
   rw [Nat.sub_self,J0x];rcases j with _ | _ | j
   . show f 0 0 = V.int .i64 _;rw [e,h0]
   . show f 0 1 = V.int .i64 _;rw [e,h1]
   . omega
theorem MGet.of {o:Option V} {v:V} {A:V→Prop} {B:Prop} (h:o = some v) (hA:A v):MGet o A B:=⟨fun w hw=>by rw [h] at hw;cases hw;exact hA,fun hn=>by rw [h] at hn;cases hn⟩
set_option maxHeartbeats 16000000 in
theorem spanning_ok (g:G) (hs:g.Small) (hgc:g.conn = true) (h12:(rawL g).length≤12) (h0:0 < (J0R g).length):Ret Tryz.prog 14 [g.v] (.tup [.fz (spanL g).length 2 false (sF (spanL g)),.int .i64 0]):=by
 obtain ⟨hg,_⟩:=J0o hgc;obtain ⟨f1,f2,f3,f4,f5,f6,f7⟩:=J0e hg;have hcn:=conn_ok g hs;rw [hgc] at hcn;have hed:=edges_ok g hs hg h12;refine J0f rfl ?_;refine J0b J0a Tryz.func14 rfl hc14 hr14 rfl ?_;have hle:=edges_len hg;have hso:=sorts_ok 37 (by kernel_rfl) (fun x y=>cpI x.w y.w) span1_ok ltW wo_w cpW_lt (J0R g) (by omega)
 repeat' ((conv=>whnf);first | (refine Br.tt ?_) | (refine Br.nbeq ?_ ?_ <;> intro _ <;> try omega) | (refine Bd.nat (by omega) ?_) | (refine Len.mk (by omega) ?_) | (refine MkS.vec ?_) | (refine hcn.go ?_) | (refine hed.go ?_) | (refine Chk.mk (by kernel_rfl) ?_) | (refine J0b J0a Tryz.func35 rfl hc35 hr35 rfl ?_) | (refine J2q [(0,some 2)] [] (hso.mono ?_) ⟨J0d.vec rfl rfl (Nat.zero_add _),J0d.fn True.intro,True.intro⟩ (by repeat' (first | exact True.intro | (refine ⟨⟨_,rfl,?_⟩,?_⟩) | (refine ⟨by omega,rfl,fun i j hi hj=>?_⟩) | exact VLe.rfl)) rfl;rintro _ _ _ ⟨B,⟨hp,hsl⟩,rfl,rfl⟩))
 all_goals (conv=>whnf)
 have hBl:=hp.length_eq;have hB:ByW g B:=⟨hp,hsl⟩;refine J0Q J0a [2,3,4,5,6,31] [] [4,5,6,7,8,9,10,11,12,13,14,15,16,17,18,19,20,21,22,23,24,25,26,27,28,29] [3,2,0] (fun v:Nat=>[(32,.int .i64 v)]) (fun own v=>J1Z own 3 (.vec g.ids.length 1 (pF fun u=>if u < v then (u:Int) else 0))) (fun m v=>m = g.ids.length - v∧v≤g.ids.length) g.ids.length 0 ⟨rfl,Nat.zero_le _⟩ rfl (fun _=>rfl) ?_ ?_
 . refine J0g (fun _ _=>[(0,some 0),(2,some 2),(3,some 3)]) ?_ ?_ rfl
   . repeat' (first | exact True.intro | (refine ⟨⟨_,rfl,?_⟩,?_⟩) | exact J0d.kf rfl | exact J0d.vec rfl rfl rfl)
   . repeat' (first | exact ⟨Nat.le_refl _,rfl,fun i j hi hj=>VLe.of_eq (by obtain rfl:j = 0:=(by omega);rfl)⟩ | exact True.intro | (refine ⟨⟨_,rfl,?_⟩,?_⟩) | exact J0d.kf rfl | (refine ⟨Nat.le_refl _,rfl,fun i j hi hj=>?_⟩) | exact VLe.rfl | (refine And.intro ?_ ?_))
 rintro m v ⟨hm,hv⟩;by_cases hvn:v < g.ids.length
 . repeat' ((conv=>whnf);first | (refine Ix.mk v (by omega) (by omega) ?_) | (refine Br.dec ?_ ?_ <;> intro _ <;> try omega) | (refine Ar.i64 (by omega) (by omega) ?_) | (refine Ltn.mk (by omega) ?_))
   all_goals (conv=>whnf)
   refine ⟨g.ids.length - (v + 1),v + 1,by omega,⟨rfl,by omega⟩,?_⟩;refine J0g (fun _ _=>[(0,some 0),(2,some 2),(3,some 3)]) ?_ ?_ rfl
   . repeat' (first | exact True.intro | (refine ⟨⟨_,rfl,?_⟩,?_⟩) | exact J0d.kf rfl | exact J0d.vec rfl rfl rfl)
   . repeat' (first | exact ⟨Nat.le_refl _,rfl,fun i t hi ht=>by simp only [Nat.zero_add];exact pf_next g.ids.length v i t ht⟩ | exact True.intro | (refine ⟨⟨_,rfl,?_⟩,?_⟩) | exact J0d.kf rfl | (refine ⟨Nat.le_refl _,rfl,fun i j hi hj=>?_⟩) | exact VLe.rfl | (refine And.intro ?_ ?_))
 have ev:v = g.ids.length:=by omega
 subst ev
 repeat' ((conv=>whnf);first | (refine Br.dec ?_ ?_ <;> intro _ <;> try omega))
 all_goals (conv=>whnf)
 refine J0Q J0a [2,3,4,5,6,8] [] [5,6,7,8,9,10,11,12,13,14,15,16,17,18,19,20,21,22,23,24,25,26,27,28,29] [4,3,2,0] (fun s:Nat × (Nat→Int)=>[(9,.int .i64 s.1)]) (fun own s=>J1Z (J1Z own 3 (.vec g.ids.length 1 (pF s.2))) 4 (.map (.st KE) (enX g (B.take s.1)))) (fun m s=>m = B.length - s.1∧Cls g B s.1 s.2) B.length (0,fun v=>(v:Int)) ⟨rfl,Cls.start B⟩ rfl (fun _=>rfl) ?_ ?_
 . refine J0g (fun _ _=>[(0,some 0),(2,some 2),(3,some 3),(4,some 4)]) ?_ ?_ rfl
   . repeat' (first | exact True.intro | exact J0d.map rfl | (refine ⟨⟨_,rfl,?_⟩,?_⟩) | exact J0d.kf rfl | exact J0d.vec rfl rfl rfl)
   . repeat' (first | exact ⟨Nat.le_refl _,rfl,fun i j hi hj=>VLe.of_eq (by obtain rfl:j = 0:=(by omega);show V.int .i64 (if i < g.ids.length then (i:Int) else 0) = V.int .i64 _;rw [if_pos hi])⟩ | exact ⟨rfl,enX_nil _ _⟩ | exact True.intro | (refine ⟨⟨_,rfl,?_⟩,?_⟩) | exact J0d.kf rfl | (refine ⟨Nat.le_refl _,rfl,fun i j hi hj=>?_⟩) | exact VLe.rfl | (refine And.intro ?_ ?_))
 rintro m ⟨a,p⟩ ⟨hm,hC⟩;simp only at hm hC;have hal:=hC.le;by_cases hab:a < B.length
 . dsimp only
   repeat' ((conv=>whnf);first | (refine Br.dec ?_ ?_ <;> intro _ <;> try omega))
   all_goals (conv=>whnf)
   refine J0Q J0a [2,3,4,5,6,8,9] [] [5,6,7,8,9,10,11,12,13,14,15,16,17,18,19,20,21,22,23,24,25,26,27,28,29] [4,3,2,0] (fun k:Nat=>[(10,.int .i64 k)]) (fun own k=>J1Z own 4 (.map (.st KE) (enX g (B.take k)))) (fun m k=>m = B.length - k∧a≤k∧k≤B.length∧∀ j,a≤j→j < k→(gE B j).w = (gE B a).w) (B.length - a) a ⟨rfl,Nat.le_refl _,hal,fun j h1 h2=>by omega⟩ rfl (fun _=>rfl) ?_ ?_
   . exact J0j (fun _ _=>[(0,some 0),(2,some 2),(3,some 3),(4,some 4)])
   rintro m k ⟨hm2,hak,hk,hw⟩;have z1:0 + k = k:=Nat.zero_add _;have z2:0 + a = a:=Nat.zero_add _;by_cases hgo:k < B.length∧(gE B (0 + k)).w = (gE B (0 + a)).w
   . obtain ⟨hkn,hwk⟩:=hgo;have he:=(hB.edge hg hkn).2;have h1:(gE B (0 + k)).a < g.ids.length:=by rw [z1];exact he.lu
     have h2:(gE B (0 + k)).b < g.ids.length:=by rw [z1];exact he.lv
     have hch:=hC.ch hg hB hak hkn (by rw [z1,z2] at hwk;exact hwk);have hput:∀ b:Bool,b = chE g (gE B k)→mput (enX g (B.take k)) (keyE (gE B (0 + k))) (.bool b) = enX g (B.take (k + 1)):=fun b hb=>by
      rw [z1];exact enX_put g (hB.nodup hg) hkn (by rw [hb])
     have hw':∀ j,a≤j→j < k + 1→(gE B j).w = (gE B a).w:=fun j h3 h4=>by
      by_cases e:j = k
      . subst e;rw [z1,z2] at hwk;exact hwk
      . exact hw j h3 (by omega)
     by_cases hpp:p (0 + (gE B (0 + k)).a) = p (0 + (gE B (0 + k)).b)
     . have hb:false = chE g (gE B k):=by
        rw [← hch,decide_eq_true (by simpa only [Nat.zero_add] using hpp)];rfl
       repeat' ((conv=>whnf);first | (refine Ix.mk k (by omega) (by omega) ?_) | (refine Ix.mk a (by omega) (by omega) ?_) | (refine Ix.mk (gE B (0 + k)).a rfl h1 ?_) | (refine Ix.mk (gE B (0 + k)).b rfl h2 ?_) | (refine Br.dec ?_ ?_ <;> intro _ <;> try omega) | (refine Br.bne ?_ ?_ <;> intro _ <;> try omega) | (refine Ar.i64 (by omega) (by omega) ?_) | (refine Ltn.mk (by omega) ?_))
       all_goals (conv=>whnf)
       refine ⟨B.length - (k + 1),k + 1,by omega,⟨rfl,by omega,by omega,hw'⟩,?_⟩;refine J0g (fun _ _=>[(0,some 0),(2,some 2),(3,some 3),(4,some 4)]) ?_ ?_ rfl
       . repeat' (first | exact True.intro | exact J0d.map rfl | (refine ⟨⟨_,rfl,?_⟩,?_⟩) | exact J0d.kf rfl | exact J0d.vec rfl rfl rfl)
       . repeat' (first | exact ⟨rfl,(hput _ hb).symm⟩ | exact True.intro | (refine ⟨⟨_,rfl,?_⟩,?_⟩) | exact J0d.kf rfl | (refine ⟨Nat.le_refl _,rfl,fun i j hi hj=>?_⟩) | exact VLe.rfl | (refine And.intro ?_ ?_))
     . have hb:true = chE g (gE B k):=by
        rw [← hch,decide_eq_false (by simpa only [Nat.zero_add] using hpp)];rfl
       repeat' ((conv=>whnf);first | (refine Ix.mk k (by omega) (by omega) ?_) | (refine Ix.mk a (by omega) (by omega) ?_) | (refine Ix.mk (gE B (0 + k)).a rfl h1 ?_) | (refine Ix.mk (gE B (0 + k)).b rfl h2 ?_) | (refine Br.dec ?_ ?_ <;> intro _ <;> try omega) | (refine Br.bne ?_ ?_ <;> intro _ <;> try omega) | (refine Ar.i64 (by omega) (by omega) ?_) | (refine Ltn.mk (by omega) ?_))
       all_goals (conv=>whnf)
       refine ⟨B.length - (k + 1),k + 1,by omega,⟨rfl,by omega,by omega,hw'⟩,?_⟩;refine J0g (fun _ _=>[(0,some 0),(2,some 2),(3,some 3),(4,some 4)]) ?_ ?_ rfl
       . repeat' (first | exact True.intro | exact J0d.map rfl | (refine ⟨⟨_,rfl,?_⟩,?_⟩) | exact J0d.kf rfl | exact J0d.vec rfl rfl rfl)
       . repeat' (first | exact ⟨rfl,(hput _ hb).symm⟩ | exact True.intro | (refine ⟨⟨_,rfl,?_⟩,?_⟩) | exact J0d.kf rfl | (refine ⟨Nat.le_refl _,rfl,fun i j hi hj=>?_⟩) | exact VLe.rfl | (refine And.intro ?_ ?_))
   . have hkn':k < B.length→(gE B k).w≠(gE B a).w:=fun h q=>hgo ⟨h,by rw [z1,z2];exact q⟩;have hka:a < k:=by
      by_cases e:a = k
      . subst e;exact (hkn' hab rfl).elim
      . omega
     repeat' ((conv=>whnf);first | (refine Ix.mk k (by omega) (by omega) ?_) | (refine Ix.mk a (by omega) (by omega) ?_) | (refine Br.dec ?_ ?_ <;> intro _ <;> try omega) | (refine Br.nble ?_ ?_ <;> intro _ <;> try omega) | (refine Bd.nat (by omega) ?_) | (refine Ltn.mk (by omega) ?_))
     all_goals (conv=>whnf)
     all_goals
      refine J0Q J0a [2,3,4,5,6,8,10,85,86] [] [5,6,7,8,9,10,11,12,13,14,15,16,17,18,19,20,21,22,23,24,25,26,27,28,29] [4,3,2,0] (fun s:Nat × (Nat→Int)=>[(87,.int .i64 s.1)]) (fun own s=>J1Z own 3 (.vec g.ids.length 1 (pF s.2))) (fun m s=>m = (k - a) - s.1∧s.1≤k - a∧Jng g B a k (a + s.1) s.2) (k - a) (0,p) ⟨rfl,Nat.zero_le _,⟨⟨Nat.le_refl _,hak,hk⟩,hC.pt⟩⟩ rfl (fun _=>rfl) ?_ ?_
      . exact J0j (fun _ _=>[(0,some 0),(2,some 2),(3,some 3),(4,some 4)])
      rintro m3 ⟨i,q⟩ ⟨hm3,hi,hJ⟩;simp only at hm3 hi hJ;by_cases hik:i < k - a
      . dsimp only;have e0:0 + a + i = a + i:=by omega
        have he:=(hB.edge hg (i:=a + i) (by omega)).2;have h1:(gE B (0 + a + i)).a < g.ids.length:=by rw [e0];exact he.lu
        have h2:(gE B (0 + a + i)).b < g.ids.length:=by rw [e0];exact he.lv
        have hjo:=join_ok g.ids.length (by omega) q (gE B (0 + a + i)).a (gE B (0 + a + i)).b h1 h2
        repeat' ((conv=>whnf);first | (refine Ix.mk i (by omega) (by omega) ?_) | (refine Br.dec ?_ ?_ <;> intro _ <;> try omega) | (refine Ar.i64 (by omega) (by omega) ?_) | (refine Ltn.mk (by omega) ?_) | (refine Chk.mk (by kernel_rfl) ?_) | (refine J2q [(0,some 3)] [] (hjo.mono ?_) ⟨J0d.vec rfl rfl rfl,J0d.int rfl,J0d.int rfl,True.intro⟩ (by repeat' (first | exact True.intro | (refine ⟨⟨_,rfl,?_⟩,?_⟩) | (refine ⟨Nat.le_refl _,rfl,fun i j hi hj=>?_⟩) | exact VLe.rfl)) rfl;rintro _ _ _ ⟨q',hq',rfl,rfl⟩))
        all_goals (conv=>whnf)
        rename_i q' hq';refine ⟨(k - a) - (i + 1),(i + 1,q'),by omega,⟨rfl,by omega,⟨⟨by omega,by omega,hk⟩,?_⟩⟩,?_⟩
        . have:=(hJ.step hg hB (by omega)).pt;rw [e0] at hq';exact this.congr hq'
        . exact J0j (fun _ _=>[(0,some 0),(2,some 2),(3,some 3),(4,some 4)])
      . have ei:i = k - a:=by omega
        subst ei;have hJ':Jng g B a k k q:=by have:=hJ;rwa [show a + (k - a) = k by omega] at this
        dsimp only
        repeat' ((conv=>whnf);first | (refine Br.dec ?_ ?_ <;> intro _ <;> try omega))
        all_goals (conv=>whnf)
        refine ⟨B.length - k,(k,q),by omega,⟨rfl,hJ'.next hB hka hw hkn'⟩,?_⟩;exact J0j (fun _ _=>[(0,some 0),(2,some 2),(3,some 3),(4,some 4)])
 . have ea:a = B.length:=by omega
   subst ea;dsimp only;simp only [List.take_length]
   repeat' ((conv=>whnf);first | (refine Br.dec ?_ ?_ <;> intro _ <;> try omega))
   all_goals (conv=>whnf)
   refine J0Q J0a [2,3,8,99,100] [5] [6,7,8,9,10,11,12,13,14,15,16,17,18,19,20,21,22,23,24,25,26,27,28,29] [5,4,3,2,0] (fun i:Nat=>[(14,.vec 5 2 0 (selT g i).length),(101,.int .i64 i)]) (fun own i=>(5,.vec (selT g i).length 2 (sF (selT g i))) :: own) (fun m i=>m = (J0R g).length - i∧i≤(J0R g).length) (J0R g).length 0 ⟨rfl,Nat.zero_le _⟩ rfl (fun _=>rfl) ?_ ?_
   . exact J0j (fun _ _=>[(0,some 0),(2,some 2),(3,some 3),(4,some 4),(5,none)])
   rintro m i ⟨hm,hi⟩;by_cases hin:i < (J0R g).length
   . have hmem:gE (J0R g) i∈B:=by rw [hp.mem_iff,← gE_of hin];exact List.getElem_mem hin
     have hfi:=enX_find g hmem;have hln:=selT_len g i;cases hch:chE g (gE (J0R g) i) with
     | true =>
       rw [hch] at hfi;have hse:=selT_yes hin hch;have hsl:=selT_len g (i + 1);have hsl2:(selT g (i + 1)).length = (selT g i).length + 1:=by rw [hse,List.length_append];rfl
       repeat' ((conv=>whnf);first | (refine Ix.mk i (by omega) (by omega) ?_) | (refine Br.dec ?_ ?_ <;> intro _ <;> try omega) | (refine Br.nbeq ?_ ?_ <;> intro _ <;> try omega) | (refine Ar.i64 (by omega) (by omega) ?_) | (refine Len.mk (by omega) ?_) | (refine MGet.of hfi ?_))
       all_goals (conv=>whnf)
       refine ⟨(J0R g).length - (i + 1),i + 1,by omega,⟨rfl,by omega⟩,?_⟩;dsimp only;rw [hsl2,hse];refine J0g (fun env own=>[(0,some 0),(2,some 2),(3,some 3),(4,some 4),(5,ekey env 14)]) ?_ ?_ rfl
       . repeat' (first | exact True.intro | exact J0d.map rfl | (refine ⟨⟨_,rfl,?_⟩,?_⟩) | exact J0d.kf rfl | exact J0d.vec rfl rfl rfl)
       . repeat' (first | exact ⟨Nat.le_refl _,rfl,fun a b ha hb=>vle_appS (selT g i) _ _ _ a b rfl _ rfl rfl ha hb⟩ | exact True.intro | exact ⟨rfl,rfl⟩ | (refine ⟨⟨_,rfl,?_⟩,?_⟩) | exact J0d.kf rfl | (refine ⟨Nat.le_refl _,rfl,fun i j hi hj=>?_⟩) | exact VLe.rfl | (refine And.intro ?_ ?_))
     | false =>
       rw [hch] at hfi;have hse:=selT_no hin hch
       repeat' ((conv=>whnf);first | (refine Ix.mk i (by omega) (by omega) ?_) | (refine Br.dec ?_ ?_ <;> intro _ <;> try omega) | (refine Ar.i64 (by omega) (by omega) ?_) | (refine MGet.of hfi ?_))
       all_goals (conv=>whnf)
       refine ⟨(J0R g).length - (i + 1),i + 1,by omega,⟨rfl,by omega⟩,?_⟩;dsimp only;rw [hse];exact J0j (fun _ _=>[(0,some 0),(2,some 2),(3,some 3),(4,some 4),(5,some 5)])
   . have ei:i = (J0R g).length:=by omega
     subst ei
     repeat' ((conv=>whnf);first | (refine Br.dec ?_ ?_ <;> intro _ <;> try omega) | (refine Len.mk (by omega) ?_))
     all_goals (conv=>whnf)
     rw [selT_end];exact VLe.tup ⟨VLe.fz rfl (fun h=>h) (fun i j hi hj=>VLe.of_eq (by rw [J0x,Nat.zero_add])),VLe.rfl,True.intro⟩
theorem len_le:∀ {l m:List Int},l.Nodup→(∀ a∈l,a∈m)→l.length≤m.length
 | [],m,_,_=>Nat.zero_le _
 | a :: l,m,hn,hs=>by
   rw [List.nodup_cons] at hn;have ham:=hs a (by simp);have h1:=len_le (l:=l) (m:=m.erase a) hn.2 (fun b hb=>(List.mem_erase_of_ne (fun e=>hn.1 (by rw [← e];exact hb))).2 (hs b (by simp [hb])));have h2:=List.length_erase_of_mem ham;have h3:=List.length_pos_of_mem ham;simp only [List.length_cons];omega
def J4a (l:List Int):Nat→Int→Int
 | 0,i=>i
 | f + 1,i=>if i∈l then J4a l f ((i + 1) % 256) else i
def J5e (i:Int) (k:Nat):Int:=(i + k) % 256
theorem J58 {i:Int} {k:Nat}:(J5e i k + 1) % 256 = J5e i (k + 1):=by rw [J5e,J5e];omega
theorem free_ends {l:List Int} (hl:l.length < 256) (i:Int):¬ ∀ j,j < 256→J5e i j∈l:=by
 intro h;have h1:((List.range 256).map (J5e i)).Nodup:=by
  rw [List.nodup_iff_pairwise_ne,List.pairwise_map];refine List.Pairwise.imp_of_mem ?_ List.nodup_range;intro a b ha hb hne e;rw [List.mem_range] at ha hb;rw [J5e,J5e] at e;omega
 have h2:=len_le h1 (fun a ha=>by
  obtain ⟨j,hj,rfl⟩:=List.mem_map.1 ha;exact h j (List.mem_range.1 hj))
 simp at h2;omega
def J5P (x:List Int):Nat→List Int
 | 0=>[]
 | v + 1=>J5P x v ++ [J4a (J5P x v) 256 (J0A (gI x v) 256)]
theorem J3F (x:List Int):∀ v,(J5P x v).length = v
 | 0=>rfl
 | v + 1=>by rw [J5P,List.length_append,J3F x v];rfl
theorem J0p (a:Int) {b:Int} (hb:1≤b):0≤J0A a b∧J0A a b < b:=by
 have h1:=Int.tmod_lt_of_pos a (show (0:Int) < b by omega);have h2:=Int.tmod_lt_of_pos (-a) (show (0:Int) < b by omega);rw [Int.neg_tmod] at h2;rw [J0A,if_neg (by omega)];split <;> omega
theorem free_spec {l:List Int} {i:Int} (h0:0≤i) (h1:i≤255):∀ f k,k + f = 256→(∀ j,j < k→J5e i j∈l)→l.length < 256→0≤J4a l f (J5e i k)∧J4a l f (J5e i k)≤255∧J4a l f (J5e i k) ∉ l
 | 0,k,hk,hall,hl=>(free_ends hl i (fun j hj=>hall j (by omega))).elim
 | f + 1,k,hk,hall,hl=>by
   rw [J4a];split
   . rename_i hm;rw [J58];exact free_spec h0 h1 f (k + 1) (by omega) (fun j hj=>by
      by_cases e:j = k
      . subst e;exact hm
      . exact hall j (by omega)) hl
   . rename_i hm;refine ⟨?_,?_,hm⟩ <;> (rw [J5e];omega)
theorem try_zero {i:Int} (h0:0≤i) (h1:i≤255):J5e i 0 = i:=by rw [J5e];omega
theorem idsF_ok (x:List Int):∀ v,v≤255→(∀ a∈J5P x v,0≤a∧a≤255)∧(J5P x v).Nodup
 | 0,_=>⟨fun a h=>(by simp [J5P] at h),by simp [J5P]⟩
 | v + 1,hv=>by
   obtain ⟨i1,i2⟩:=idsF_ok x v (by omega);have hw:=J0p (gI x v) (b:=256) (by omega);have hf:=free_spec (l:=J5P x v) (i:=J0A (gI x v) 256) hw.1 (by omega) 256 0 rfl (fun j hj=>by omega) (by rw [J3F];omega);rw [try_zero hw.1 (by omega)] at hf;rw [J5P];refine ⟨fun a ha=>?_,?_⟩
   . rcases List.mem_append.1 ha with h | h
     . exact i1 a h
     . have:a = J4a (J5P x v) 256 (J0A (gI x v) 256):=by simpa using h
       rw [this];exact ⟨hf.1,hf.2.1⟩
   . rw [List.nodup_append];refine ⟨i2,by simp,fun a ha b hb e=>?_⟩;have:b = J4a (J5P x v) 256 (J0A (gI x v) 256):=by simpa using hb
     rw [← this,← e] at hf;exact hf.2.2 ha
def ownN (x:Net) (n:Nat):Own:=[(0,.vec n 1 (vI (J5P x.ids n))),(1,.vec n 1 fun _ _=>.nilslice)]
def Net.n1 (x:Net):Int:=IntKind.i64.wrap (x.n - 1)
def Net.size (x:Net) (most:Int):Nat:=(1 + J0A x.n1 most).toNat
theorem getD_snocI (l:List Int) (a:Int) (i:Nat):gI (l ++ [a]) i = if i < l.length then gI l i else if i = l.length then a else 0:=by
 by_cases h:i < l.length
 . simp only [gI,List.getD,List.getElem?_append_left h,if_pos h]
 . rw [if_neg h];by_cases h2:i = l.length
   . subst h2;simp [gI]
   . simp [gI,h2,List.getElem?_eq_none (by simp;omega:(l ++ [a]).length≤i)]
theorem J5G (l:List Int) (a:Int) (n:Nat) (hn:l.length = n) (i j:Nat) (hi:i < n + 1) (hj:j < 1) :
 VLe (J3Y (J0k 0 (vI l)) n (J0k 0 (tab [[.int .i64 a]])) i j) (vI (l ++ [a]) i j):=by
 apply VLe.of_eq;subst hn;by_cases h:i < l.length
 . rw [J1h h];simp only [J0k,vI,getD_snocI,if_pos h]
 . rw [J1i h];have:i = l.length:=by omega
   subst this;obtain rfl:j = 0:=by omega
   simp [J0k,vI,getD_snocI,tab]
set_option maxHeartbeats 8000000 in
theorem nodes_ok (x:Net) (hx:x.Small) (most:Int) (h1:1≤most) (h2:most≤24) :
 J0K Tryz.prog 63 [x.v,.int .i64 most] [] KS fun v own' _=>v = gV1 (x.size most) (x.size most)∧own' = ownN x (x.size most):=by
 have hw:=J1v x.n1 most (by omega);have hwr:=J0p x.n1 h1;have hn:1 + J0A x.n1 most = (x.size most:Nat):=by rw [Net.size];omega
 have hsz:1≤x.size most∧x.size most≤24:=by omega
 have hids:=hx.ids;generalize x.size most = n at *;refine J2p ?_;refine J0b J0a Tryz.func63 rfl hc63 hr63 rfl ?_
 repeat' ((conv=>whnf);first | (refine Ar.mk x.n1 rfl ?_) | (refine Ar.i64 (by omega) (by omega) ?_;rw [hn]) | (refine Bd.nat (by omega) ?_) | (refine Len.mk (by omega) ?_) | (refine MkS.vec ?_) | (refine hw.go ?_))
 all_goals (conv=>whnf)
 refine J0Q J0a [2,4,5,6] [4] [5,6,7,8,9,10,11,12,13,14,15,16,17,18,19,20,21,22,23,24,25,26,27,28,29] [4,3,2,1,0] (fun v:Nat=>[(7,.int .i64 v)]) (fun own v=>(4,.vec v 1 (vI (J5P x.ids v))) :: J1Z own 3 (.cells [.vec 4 1 0 v,.vec 2 1 0 n])) (fun m v=>m = n - v∧v≤n) n 0 ⟨rfl,by omega⟩ rfl (fun _=>rfl) ?_ ?_
 . exact J0j (fun _ _=>[(0,some 0),(1,some 1),(2,some 2),(3,some 3),(4,none)])
 rintro m v ⟨hm,hv⟩;have hat:=at_ok x.ids hids v;have hw2:=J1v (gI x.ids v) 256 (by omega);have hr2:=J0p (gI x.ids v) (b:=256) (by omega);have hil:=J3F x.ids v;have hsn:J5P x.ids (v + 1) = J5P x.ids v ++ [J4a (J5P x.ids v) 256 (J0A (gI x.ids v) 256)]:=rfl;have htz:=try_zero hr2.1 (by omega);generalize J0A (gI x.ids v) 256 = id0 at *;generalize hL:J5P x.ids v = L at *
 repeat' ((conv=>whnf);first | (refine Br.dec ?_ ?_ <;> intro _ <;> try omega) | (refine hat.go ?_) | (refine hw2.go ?_))
 all_goals (conv=>whnf)
 . refine J0M J0a [2,4,5,6,7] (fun p:Nat × Nat=>[(8,.int .i64 (J5e id0 p.1)),(9,.int .i64 p.2)]) (fun m p=>m = (256 - p.1) * 25 + (v - p.2)∧p.1≤256∧p.2≤v∧(∀ j,j < p.1→J5e id0 j∈L)∧(∀ j,j < p.2→gI L j≠J5e id0 p.1)∧J4a L (256 - p.1) (J5e id0 p.1) = J4a L 256 id0) _ (0,0) ⟨rfl,by omega,by omega,fun j hj=>(by omega),fun j hj=>(by omega),(by show J4a L 256 (J5e id0 0) = _;rw [htz])⟩ ?_ ?_
   . refine J0g (fun _ _=>[(0,some 0),(1,some 1),(2,some 2),(3,some 3),(4,some 4)]) ?_ ?_ rfl
     . repeat' (first | exact J0d.int htz.symm | exact True.intro | (refine ⟨⟨_,rfl,?_⟩,?_⟩) | exact J0d.kf rfl | exact J0d.loc rfl)
     . repeat' (first | exact True.intro | (refine ⟨⟨_,rfl,?_⟩,?_⟩) | exact J0d.kf rfl | exact J0d.vec rfl rfl rfl | (refine ⟨Nat.le_refl _,rfl,fun i j hi hj=>?_⟩) | exact VLe.rfl | (refine And.intro ?_ ?_))
   rintro m ⟨k,u⟩ ⟨hm2,hk,hu,hall,hne,hfr⟩;simp only at hm2 hk hu hall hne hfr;have htr:0≤J5e id0 k∧J5e id0 k≤255:=by rw [J5e];omega
   have htn:(J5e id0 k + 1).tmod 256 = J5e id0 (k + 1):=by rw [Int.tmod_eq_emod_of_nonneg (by omega),J58]
   generalize hT:J5e id0 k = T at *
   repeat' ((conv=>whnf);first | (refine Br.dec ?_ ?_ <;> intro _ <;> try omega) | (refine Br.nbeq ?_ ?_ <;> intro _ <;> try omega) | (refine Ar.i64 (by omega) (by omega) ?_) | (refine Sv.mk _ rfl ?_) | (refine Nz.mk (by omega) ?_) | (refine Ix.nat (by omega) ?_) | (refine Len.mk (by omega) ?_) | (refine Ltn.mk (by omega) ?_))
   all_goals (conv=>whnf)
   . rename_i h3 h4;have hin:T∈L:=by rw [← h4];exact J5u (by omega)
     have hk2:k < 256:=by
      rcases Nat.lt_or_ge k 256 with h | h
      . exact h
      . exact (free_ends (l:=L) (by omega) id0 (fun j hj=>hall j (by omega))).elim
     refine ⟨_,(k + 1,0),?_,⟨rfl,by omega,by omega,fun j hj=>?_,fun j hj=>(by omega),?_⟩,?_⟩
     . simp only;omega
     . simp only at hj;by_cases e:j = k
       . subst e;rw [hT];exact hin
       . exact hall j (by omega)
     . simp only;rw [← hfr,show 256 - k = (256 - (k + 1)) + 1 by omega,J4a,if_pos hin,← hT,J58]
     . refine J0g (fun _ _=>[(0,some 0),(1,some 1),(2,some 2),(3,some 3),(4,some 4)]) ?_ ?_ rfl
       . repeat' (first | exact J0d.int htn | exact True.intro | (refine ⟨⟨_,rfl,?_⟩,?_⟩) | exact J0d.kf rfl | exact J0d.loc rfl)
       . repeat' (first | exact True.intro | (refine ⟨⟨_,rfl,?_⟩,?_⟩) | exact J0d.kf rfl | exact J0d.vec rfl rfl rfl | (refine ⟨Nat.le_refl _,rfl,fun i j hi hj=>?_⟩) | exact VLe.rfl | (refine And.intro ?_ ?_))
   . rename_i h3 h4;refine ⟨_,(k,u + 1),?_,⟨rfl,hk,by omega,hall,fun j hj=>?_,by rw [hT];exact hfr⟩,?_⟩
     . simp only;omega
     . simp only at hj ⊢;rw [hT];by_cases e:j = u
       . subst e;simpa using h4
       . exact hne j (by omega)
     . refine J0g (fun _ _=>[(0,some 0),(1,some 1),(2,some 2),(3,some 3),(4,some 4)]) ?_ ?_ rfl
       . repeat' (first | exact J0d.int hT.symm | exact True.intro | (refine ⟨⟨_,rfl,?_⟩,?_⟩) | exact J0d.kf rfl | exact J0d.loc rfl)
       . repeat' (first | exact True.intro | (refine ⟨⟨_,rfl,?_⟩,?_⟩) | exact J0d.kf rfl | exact J0d.vec rfl rfl rfl | (refine ⟨Nat.le_refl _,rfl,fun i j hi hj=>?_⟩) | exact VLe.rfl | (refine And.intro ?_ ?_))
   . have hno:T ∉ L:=fun h=>by
      obtain ⟨j,j1,j2⟩:=gI_get h;exact hne j (by omega) j2
     have hfin:J4a L 256 id0 = T:=by
      rw [← hfr];cases h:256 - k with
      | zero=>rfl
      | succ f=>rw [J4a,if_neg hno]
     rw [hfin] at hsn
     repeat' ((conv=>whnf);first | fail)
     all_goals (conv=>whnf)
     all_goals
      refine ⟨n - (v + 1),v + 1,by omega,⟨rfl,by omega⟩,?_⟩;simp only [hsn];refine J0g (fun env own=>[(0,some 0),(1,some 1),(2,some 2),(3,some 3),(4,ckeyo own 3 0)]) ?_ ?_ rfl
      . repeat' (first | exact True.intro | (refine ⟨⟨_,rfl,?_⟩,?_⟩) | exact J0d.kf rfl | exact J0d.loc rfl)
      . repeat' (first | (refine ⟨Nat.le_refl _,rfl,fun i j hi hj=>?_⟩) | exact J5G _ _ _ hil _ _ hi hj | exact True.intro | (refine ⟨⟨_,rfl,?_⟩,?_⟩) | exact J0d.kf rfl | exact J0d.vec rfl rfl rfl | exact VLe.rfl | (refine And.intro ?_ ?_))
 . have e:v = n:=by omega
   subst e;exact J4q (fun v o=>[(0,vkey v 0),(1,vkey v 1)]) _ _ ⟨rfl,rfl⟩ (J0d.agg ⟨J0d.vec rfl rfl rfl,J0d.vec rfl rfl rfl,True.intro⟩) ⟨⟨_,rfl,Nat.le_refl _,rfl,fun _ _ _ _=>VLe.of_eq (by rw [hL])⟩,⟨_,rfl,Nat.le_refl _,rfl,fun i j hi hj=>VLe.of_eq (by obtain rfl:j = 0:=(by omega);rfl)⟩,True.intro⟩ rfl
theorem mem_gR {p:Ps} {r:List (Int × Int)} (h:r∈p):∃ u,gR p u = r:=by
 obtain ⟨i,hi,e⟩:=List.mem_iff_getElem.1 h;exact ⟨i,by simp [gR,List.getD,hi,e]⟩
theorem small_of {g:G} (h1:g.ids.length≤1000) (h2:g.ports.length≤1000) (h3:∀ u,(gR g.ports u).length≤1000):g.Small :=
 ⟨by omega,by omega,fun r hr=>by obtain ⟨u,rfl⟩:=mem_gR hr;have:=h3 u;omega⟩
theorem J6C (bk:Bool) (p:Ps) (a b:Nat) (w:Int):(J2S bk p a b w).length = p.length:=by
 rw [J2S];split <;> simp
theorem linkP_row (bk:Bool) (p:Ps) {a b:Nat} (w:Int) (ha:a < p.length) (hb:b < p.length) (u:Nat):(gR (J2S bk p a b w) u).length≤(gR p u).length + 1:=by
 rw [J2S];split
 . omega
 . rename_i h;have hab:¬ a = b:=fun e=>h (.inl e);have hl:∀ r l,(addP bk r l).length = r.length + 1:=fun r l=>by rw [addP];split <;> simp
   rw [J3X _ b _ (by simpa using hb),J3X p a _ ha];split
   . rename_i e;subst e;rw [hl];omega
   . split
     . rename_i e;subst e;rw [hl];omega
     . omega
def wgt (x:Net) (i:Nat):Int:=1 + J0A (gI x.weights i) 15
def J18 (x:Net) (n:Nat):Nat→Ps
 | 0=>List.replicate n []
 | k + 1=>J2S x.back (J18 x n k) (J0A (gI x.links k) ((k:Int) + 1)).toNat (k + 1) (wgt x k)
theorem J1n (x:Net) (n:Nat):∀ k,(J18 x n k).length = n
 | 0=>by simp [J18]
 | k + 1=>by rw [J18,J6C,J1n x n k]
theorem treeP_to (x:Net) (k:Nat):(J0A (gI x.links k) ((k:Int) + 1)).toNat < k + 1:=by
 have:=J0p (gI x.links k) (b:=(k:Int) + 1) (by omega);omega
theorem rep_row (n u:Nat):gR (List.replicate n []) u = []:=by
 simp only [gR,List.getD,List.getElem?_replicate];split <;> rfl
theorem J6a (x:Net) (n:Nat):∀ k,k < n→∀ u,(gR (J18 x n k) u).length≤k
 | 0,_,u=>by rw [J18,rep_row];simp
 | k + 1,hk,u=>by
   have h1:=treeP_to x k;have h2:=linkP_row x.back (J18 x n k) (wgt x k) (a:=(J0A (gI x.links k) ((k:Int) + 1)).toNat) (b:=k + 1) (by rw [J1n];omega) (by rw [J1n];exact hk) u;have h3:=J6a x n k (by omega) u;rw [J18];omega
abbrev netOwn (I:List Int) (p:Ps):Own:=gOwn ⟨I,p⟩
theorem vec_fam (ρ:Rn) (n:Nat):BRen ρ (.vec n 1 fun _ _=>.nilslice) (famP (List.replicate n [])):=⟨by simp,rfl,rfl,fun i hi=>⟨rfl,by rw [lenP,rep_row];rfl⟩⟩
theorem J29 (ρ:Rn) (p:Ps):BRen ρ (famP p) (famP p):=⟨rfl,rfl,True.intro,fun i hi=>rfl,fun i j t hi hn hj ht=>VLe.rfl⟩
set_option maxHeartbeats 8000000 in
theorem tree_ok (x:Net) (hx:x.Small) (most:Int) (h1:1≤most) (h2:most≤24) :
 J0K Tryz.prog 31 [x.v,.int .i64 most] [] KS fun v own' _=>v = gV1 (x.size most) (x.size most)∧own' = netOwn (J5P x.ids (x.size most)) (J18 x (x.size most) (x.size most - 1)):=by
 have hn:=nodes_ok x hx most h1 h2;have hsz:1≤x.size most∧x.size most≤24:=by
  have:=J0p x.n1 h1;rw [Net.size];omega
 have hll:=hx.links;have hwl:=hx.weights;generalize x.size most = n at *;have hil:=J3F x.ids n;refine J2p ?_;refine J0b J0a Tryz.func31 rfl hc31 hr31 rfl ?_
 repeat' ((conv=>whnf);first | (refine J2q [] [0,1] (hn.mono ?_) ⟨J0d.kf rfl,J0d.kf rfl,True.intro⟩ True.intro rfl;rintro _ _ _ ⟨rfl,rfl⟩) | (refine Chk.mk rfl ?_))
 all_goals (conv=>whnf)
 refine J0Q J0a [2,4,5] [3] [5,6,7,8,9,10,11,12,13,14,15,16,17,18,19,20,21,22,23,24,25,26,27,28,29] [4,2,3,1,0] (fun k:Nat=>[(6,.int .i64 ((k:Int) + 1))]) (fun own k=>J1Z own 3 (famP (J18 x n k))) (fun m k=>m = n - 1 - k∧k≤n - 1) (n - 1) 0 ⟨rfl,by omega⟩ rfl (fun _=>rfl) ?_ ?_
 . refine J0g (fun _ _=>[(0,some 0),(1,some 1),(2,some 2),(3,some 3),(4,some 4)]) ?_ ?_ rfl
   . repeat' (first | exact True.intro | (refine ⟨⟨_,rfl,?_⟩,?_⟩) | exact J0d.kf rfl | exact J0d.loc rfl)
   . repeat' (first | exact vec_fam _ _ | exact True.intro | (refine ⟨⟨_,rfl,?_⟩,?_⟩) | exact J0d.kf rfl | exact J0d.vec rfl rfl rfl | (refine ⟨Nat.le_refl _,rfl,fun i j hi hj=>?_⟩) | exact VLe.rfl | (refine And.intro ?_ ?_))
 rintro m k ⟨hm,hk⟩;have hln:=J1n x n k;by_cases hkn:k < n - 1
 . have ha1:=at_ok x.links hll k;have ha2:=at_ok x.weights hwl k;have hw1:=J1v (gI x.links k) ((k:Int) + 1) (by omega);have hw2:=J1v (gI x.weights k) 15 (by omega);have hr1:=J0p (gI x.links k) (b:=(k:Int) + 1) (by omega);have hr2:=J0p (gI x.weights k) (b:=15) (by omega);have hrow:=J6a x n k (by omega);have hl:=link_ok x ⟨J5P x.ids n,J18 x n k⟩ (small_of (by show (J5P x.ids n).length≤_;omega) (by show (J18 x n k).length≤_;omega) (fun u=>by have:=hrow u;show (gR (J18 x n k) u).length≤_;omega)) (fun u=>by have:=hrow u;show (gR (J18 x n k) u).length≤_;omega) (J0A (gI x.links k) ((k:Int) + 1)).toNat (k + 1) (by show _ < (J18 x n k).length;omega) (by show _ < (J18 x n k).length;omega) (wgt x k);have hnx:J2S x.back (J18 x n k) (J0A (gI x.links k) ((k:Int) + 1)).toNat (k + 1) (wgt x k) = J18 x n (k + 1):=rfl;have hwg:wgt x k = 1 + J0A (gI x.weights k) 15:=rfl;simp only [hnx,hil,hln] at hl;generalize J0A (gI x.links k) ((k:Int) + 1) = a at *;generalize J0A (gI x.weights k) 15 = w at *
   repeat' ((conv=>whnf);first | (refine Ar.i64 (by omega) (by omega) ?_;rw [show (k:Int) + 1 - 1 = (k:Int) by omega]) | (refine Br.dec ?_ ?_ <;> intro _ <;> try omega) | (refine Ar.i64 (by omega) (by omega) ?_) | (refine ha1.go ?_) | (refine ha2.go ?_) | (refine hw1.go ?_) | (refine hw2.go ?_) | (refine And.intro rfl ?_) | (refine J2q [(0,some 2),(1,some 3)] [] (hl.mono ?_) ⟨J0d.kf rfl,J0d.agg ⟨J0d.vec rfl rfl rfl,J0d.vec rfl rfl rfl,True.intro⟩,J0d.int (by omega),J0d.int (by omega),J0d.int (by omega),True.intro⟩ ⟨⟨_,rfl,Nat.le_of_eq hil,rfl,fun _ _ _ _=>VLe.rfl⟩,⟨_,rfl,J29 _ _⟩,True.intro⟩ rfl;rintro _ _ _ ⟨rfl,rfl⟩) | (refine Chk.mk rfl ?_))
   all_goals (conv=>whnf)
   all_goals
    refine ⟨n - 1 - (k + 1),k + 1,by omega,⟨rfl,by omega⟩,?_⟩;refine J0g (fun _ _=>[(0,some 0),(1,some 1),(2,some 2),(3,some 3),(4,some 4)]) ?_ ?_ rfl
    . repeat' (first | exact True.intro | (refine ⟨⟨_,rfl,?_⟩,?_⟩) | exact J0d.kf rfl | exact J0d.loc rfl)
    . repeat' (first | exact J29 _ _ | exact ⟨Nat.le_of_eq hil.symm,rfl,fun _ _ _ _=>VLe.rfl⟩ | exact True.intro | (refine ⟨⟨_,rfl,?_⟩,?_⟩) | exact J0d.kf rfl | exact J0d.vec rfl rfl rfl | (refine And.intro ?_ ?_))
 . have e:k = n - 1:=by omega
   subst e
   repeat' ((conv=>whnf);first | (refine Br.dec ?_ ?_ <;> intro _ <;> try omega))
   all_goals (conv=>whnf)
   exact J4q (fun v o=>[(0,vkey v 0),(1,vkey v 1)]) _ _ ⟨rfl,rfl⟩ (J0d.agg ⟨J0d.vec rfl rfl rfl,J0d.vec rfl rfl rfl,True.intro⟩) ⟨⟨_,rfl,Nat.le_of_eq hil,rfl,fun _ _ _ _=>VLe.rfl⟩,⟨_,rfl,J29 _ _⟩,True.intro⟩ rfl
def J2v (x:Net) (n:Nat) (p:Ps):Nat→Ps
 | 0=>p
 | k + 1=>J2S x.back (J2v x n p k) (J0A (gI x.links (n + 2 * k)) n).toNat (J0A (gI x.links (n + 2 * k + 1)) n).toNat (wgt x (n + 2 * k))
def J4W (x:Net) (n:Nat):Nat:=min ((x.links.length - n) / 2) ((61 - n) / 2)
theorem J1H (x:Net) (n:Nat) (p:Ps):∀ k,(J2v x n p k).length = p.length
 | 0=>rfl
 | k + 1=>by rw [J2v,J6C,J1H x n p k]
theorem J2M {a:Int} {n:Nat} (hn:1≤n):(J0A a n).toNat < n:=by
 have:=J0p a (b:=(n:Int)) (by omega);omega
theorem moreP_row (x:Net) (n:Nat) (p:Ps) (hn:1≤n) (hp:p.length = n):∀ k u,(gR (J2v x n p k) u).length≤(gR p u).length + k
 | 0,u=>by rw [J2v];omega
 | k + 1,u=>by
   have h2:=linkP_row x.back (J2v x n p k) (wgt x (n + 2 * k)) (a:=(J0A (gI x.links (n + 2 * k)) n).toNat) (b:=(J0A (gI x.links (n + 2 * k + 1)) n).toNat) (by rw [J1H,hp];exact J2M hn) (by rw [J1H,hp];exact J2M hn) u;have h3:=moreP_row x n p hn hp k u;rw [J2v];omega
set_option maxHeartbeats 8000000 in
theorem more_ok (x:Net) (hx:x.Small) (I:List Int) (p:Ps) (n:Nat) (hn:1≤n) (hn2:n≤24) (hI:I.length = n) (hp:p.length = n) (hr:∀ u,(gR p u).length≤100) :
 J0K Tryz.prog 30 [x.v,gV1 n n] (netOwn I p) KS4 fun v own' _=>v = gV1 n n∧own' = netOwn I (J2v x n p (J4W x n)):=by
 have hll:=hx.links;have hwl:=hx.weights;have hN:J4W x n≤31∧∀ k,k < J4W x n↔(n + 2 * k + 1 < x.links.length∧n + 2 * k < 60):=by
  rw [J4W];exact ⟨by omega,fun k=>by omega⟩
 refine J2p ?_;refine J0b J0a Tryz.func30 rfl hc30 hr30 rfl ?_
 repeat' ((conv=>whnf);first | fail)
 all_goals (conv=>whnf)
 refine J0Q J0a [2,3,4,5] [] [5,6,7,8,9,10,11,12,13,14,15,16,17,18,19,20,21,22,23,24,25,26,27,28,29] [4,3,2,0,1] (fun k:Nat=>[(6,.int .i64 ((n:Int) + 2 * k))]) (fun own k=>J1Z own 1 (famP (J2v x n p k))) (fun m k=>m = J4W x n - k∧k≤J4W x n) (J4W x n) 0 ⟨rfl,by omega⟩ rfl (fun _=>rfl) ?_ ?_
 . refine J0g (fun _ _=>[(0,some 0),(1,some 1),(2,some 2),(3,some 3),(4,some 4)]) ?_ ?_ rfl
   . repeat' (first | exact True.intro | (refine ⟨⟨_,rfl,?_⟩,?_⟩) | exact J0d.kf rfl | exact J0d.loc rfl)
   . repeat' (first | exact J29 _ _ | exact True.intro | (refine ⟨⟨_,rfl,?_⟩,?_⟩) | exact J0d.kf rfl | exact J0d.vec rfl rfl rfl | (refine ⟨Nat.le_refl _,rfl,fun i j hi hj=>?_⟩) | exact VLe.rfl | (refine And.intro ?_ ?_))
 rintro m k ⟨hm,hk⟩;have hln:=(J1H x n p k).trans hp;have hk2:=hN.2 k;by_cases hkn:k < J4W x n
 . obtain ⟨c1,c2⟩:=hk2.1 hkn;have ha2:=at_ok x.weights hwl (n + 2 * k);have hw1:=J1v (gI x.links (n + 2 * k)) n (by omega);have hw3:=J1v (gI x.links (n + 2 * k + 1)) n (by omega);have hw2:=J1v (gI x.weights (n + 2 * k)) 15 (by omega);have hr1:=J0p (gI x.links (n + 2 * k)) (b:=n) (by omega);have hr3:=J0p (gI x.links (n + 2 * k + 1)) (b:=n) (by omega);have hr2:=J0p (gI x.weights (n + 2 * k)) (b:=15) (by omega);have hrow:∀ u,(gR (J2v x n p k) u).length≤1000:=fun u=>by have:=moreP_row x n p hn hp k u;have:=hr u;omega
   have hl:=link_ok x ⟨I,J2v x n p k⟩ (small_of (by show I.length≤_;omega) (by show (J2v x n p k).length≤_;omega) hrow) hrow (J0A (gI x.links (n + 2 * k)) n).toNat (J0A (gI x.links (n + 2 * k + 1)) n).toNat (by show _ < (J2v x n p k).length;omega) (by show _ < (J2v x n p k).length;omega) (wgt x (n + 2 * k));have hnx:J2S x.back (J2v x n p k) (J0A (gI x.links (n + 2 * k)) n).toNat (J0A (gI x.links (n + 2 * k + 1)) n).toNat (wgt x (n + 2 * k)) = J2v x n p (k + 1):=rfl;have hwg:wgt x (n + 2 * k) = 1 + J0A (gI x.weights (n + 2 * k)) 15:=rfl;simp only [hnx,hI,hln] at hl;have e2k:((n + 2 * k:Nat):Int) = (n:Int) + 2 * k:=by omega
   rw [e2k] at ha2
   repeat' ((conv=>whnf);first | (refine Ix.mk (n + 2 * k) (by omega) (by omega) ?_;try rw [Nat.zero_add]) | (refine Ix.mk (n + 2 * k + 1) (by omega) (by omega) ?_;try rw [Nat.zero_add]) | (refine Br.dec ?_ ?_ <;> intro _ <;> try omega) | (refine Ar.i64 (by omega) (by omega) ?_) | (refine ha2.go ?_) | (refine hw1.go ?_) | (refine hw3.go ?_) | (refine hw2.go ?_) | (refine And.intro rfl ?_) | (refine J2q [(0,some 0),(1,some 1)] [] (hl.mono ?_) ⟨J0d.kf rfl,J0d.agg ⟨J0d.vec rfl rfl rfl,J0d.vec rfl rfl rfl,True.intro⟩,J0d.int (by omega),J0d.int (by omega),J0d.int (by omega),True.intro⟩ ⟨⟨_,rfl,Nat.le_of_eq (by first | rfl | exact hI | exact hI.symm),rfl,fun _ _ _ _=>VLe.rfl⟩,⟨_,rfl,J29 _ _⟩,True.intro⟩ rfl;rintro _ _ _ ⟨rfl,rfl⟩) | (refine Chk.mk rfl ?_))
   all_goals (conv=>whnf)
   all_goals
    refine ⟨J4W x n - (k + 1),k + 1,by omega,⟨rfl,by omega⟩,?_⟩;refine J0g (fun _ _=>[(0,some 0),(1,some 1),(2,some 2),(3,some 3),(4,some 4)]) ?_ ?_ rfl
    . repeat' (first | exact True.intro | (refine ⟨⟨_,rfl,?_⟩,?_⟩) | exact J0d.kf rfl | exact J0d.loc rfl)
    . repeat' (first | exact J29 _ _ | exact ⟨Nat.le_refl _,rfl,fun _ _ _ _=>VLe.rfl⟩ | exact True.intro | (refine ⟨⟨_,rfl,?_⟩,?_⟩) | exact J0d.kf rfl | exact J0d.vec rfl rfl rfl | (refine And.intro ?_ ?_))
 . have e:k = J4W x n:=by omega
   subst e;by_cases h1:n + 2 * J4W x n + 1 < x.links.length
   all_goals
    repeat' ((conv=>whnf);first | (refine Br.dec ?_ ?_ <;> intro _ <;> try omega) | (refine Ar.i64 (by omega) (by omega) ?_))
    all_goals (conv=>whnf)
    all_goals exact J4q (fun v o=>[(0,vkey v 0),(1,vkey v 1)]) _ _ ⟨rfl,rfl⟩ (J0d.agg ⟨J0d.vec rfl rfl rfl,J0d.vec rfl rfl rfl,True.intro⟩) ⟨⟨_,rfl,Nat.le_refl _,rfl,fun _ _ _ _=>VLe.rfl⟩,⟨_,rfl,J29 _ _⟩,True.intro⟩ rfl
theorem size_ok (x:Net) {most:Int} (h1:1≤most):1≤x.size most∧(x.size most:Int)≤most:=by
 have:=J0p x.n1 h1;rw [Net.size];omega
def Net.con (x:Net) (most:Int):G:=⟨J5P x.ids (x.size most),J2v x (x.size most) (J18 x (x.size most) (x.size most - 1)) (J4W x (x.size most))⟩
def Net.any (x:Net) (most:Int):G:=if x.apart then ⟨J5P x.ids (x.size most),J2v x (x.size most) (List.replicate (x.size most) []) (J4W x (x.size most))⟩ else x.con most
theorem view_g {g:G} {n:Nat} (h1:g.ids.length = n) (h2:g.ports.length = n):VLe (V.agg [.fz n 1 false (J0k 0 (vI g.ids)),.fz n 1 false fun i _=>.fz (lenP g.ports i) 2 false (rowP g.ports i)]) g.v:=by
 refine VLe.agg ⟨?_,?_,True.intro⟩
 . exact VLe.fz h1.symm (fun h=>h) (fun i j hi hj=>VLe.of_eq (by simp [J0k]))
 . exact VLe.fz h2.symm (fun h=>h) (fun i j hi hj=>VLe.rfl)
theorem ret_g {g:G} {n:Nat} (h1:g.ids.length = n) (h2:g.ports.length = n):frzT (gOwn g) (gV1 n n) fun v=>VLe v g.v :=
 ⟨by rw [Nat.zero_add,h1];exact Nat.le_refl _,Nat.le_of_eq h2.symm,view_g h1 h2⟩
set_option maxHeartbeats 8000000 in
theorem J7q (x:Net) (hx:x.Small) (most:Int) (h1:1≤most) (h2:most≤24) :
 J0K Tryz.prog 8 [x.v,.int .i64 most] [] KS fun v own' _=>v = gV1 (x.size most) (x.size most)∧own' = gOwn (x.con most):=by
 have ht:=tree_ok x hx most h1 h2;have hsz:=size_ok x h1;have hm:=more_ok x hx (J5P x.ids (x.size most)) (J18 x (x.size most) (x.size most - 1)) (x.size most) hsz.1 (by omega) (J3F _ _) (J1n _ _ _) (fun u=>by have:=J6a x (x.size most) (x.size most - 1) (by omega) u;omega);refine J2p ?_;refine J0b J0a Tryz.func8 rfl hc8 hr8 rfl ?_
 repeat' ((conv=>whnf);first | (refine J2q [] [0,1] (ht.mono ?_) ⟨J0d.kf rfl,J0d.kf rfl,True.intro⟩ True.intro rfl;rintro _ _ _ ⟨rfl,rfl⟩) | (refine J2q [(0,some 2),(1,some 3)] [] (hm.mono ?_) ⟨J0d.kf rfl,J0d.agg ⟨J0d.vec rfl rfl rfl,J0d.vec rfl rfl rfl,True.intro⟩,True.intro⟩ ⟨⟨_,rfl,Nat.le_refl _,rfl,fun _ _ _ _=>VLe.rfl⟩,⟨_,rfl,J29 _ _⟩,True.intro⟩ rfl;rintro _ _ _ ⟨rfl,rfl⟩) | (refine Chk.mk rfl ?_) | (refine And.intro rfl ?_))
 all_goals (conv=>whnf)
 exact J4q (fun v o=>[(0,vkey v 0),(1,vkey v 1)]) _ _ ⟨rfl,rfl⟩ (J0d.agg ⟨J0d.vec rfl rfl rfl,J0d.vec rfl rfl rfl,True.intro⟩) ⟨⟨_,rfl,Nat.le_refl _,rfl,fun _ _ _ _=>VLe.rfl⟩,⟨_,rfl,J29 _ _⟩,True.intro⟩ rfl
theorem J64 (x:Net) (most:Int):(x.con most).ids.length = x.size most∧(x.con most).ports.length = x.size most:=⟨J3F _ _,(J1H _ _ _ _).trans (J1n _ _ _)⟩
theorem J5w (x:Net) (hx:x.Small) (most:Int) (h1:1≤most) (h2:most≤24):Ret Tryz.prog 8 [x.v,.int .i64 most] (x.con most).v:=by
 refine J0f rfl ((J7q x hx most h1 h2).mono ?_);rintro _ _ _ ⟨rfl,rfl⟩;exact ret_g (J64 x most).1 (J64 x most).2
structure PV (p:Ps):Prop where
 ok:∀ v,v < p.length→okR p.length v (gR p v) = true
 sym:∀ v,v < p.length→∀ l∈gR p v,((v:Int),l.2)∈gR p l.1.toNat
theorem J1J {bk:Bool} {r:List (Int × Int)} {x l:Int × Int}:l∈addP bk r x↔l = x∨l∈r:=by
 rw [addP];split
 . simp
 . simp only [List.mem_append,List.mem_singleton];exact ⟨Or.symm,Or.symm⟩
theorem nodup_addP {bk:Bool} {r:List (Int × Int)} {x:Int × Int} (h:(r.map (·.1)).Nodup) (hx:∀ l∈r,l.1≠x.1):((addP bk r x).map (·.1)).Nodup:=by
 have hn:x.1 ∉ r.map (·.1):=fun hm=>by
  obtain ⟨l,h1,h2⟩:=List.mem_map.1 hm;exact hx l h1 h2
 rw [addP];split
 . rw [List.map_cons,List.nodup_cons];exact ⟨hn,h⟩
 . rw [List.map_append,List.nodup_append];refine ⟨h,by simp,fun a ha b hb e=>hn ?_⟩;have:b = x.1:=by simpa using hb
   rw [← this,← e];exact ha
theorem pv_rep (n:Nat):PV (List.replicate n []):=⟨fun v _=>by rw [rep_row];rfl,fun v _ l hl=>by rw [rep_row] at hl;cases hl⟩
theorem pv_link {bk:Bool} {p:Ps} (h:PV p) {a b:Nat} {w:Int} (ha:a < p.length) (hb:b < p.length) (hw:1≤w∧w≤15):PV (J2S bk p a b w):=by
 have hlen:=J6C bk p a b w;rw [J2S] at hlen ⊢;split
 . exact h
 . rename_i hc;rw [if_neg hc] at hlen;have hab:a≠b:=fun e=>hc (.inl e);have hnl:∀ l∈gR p a,l.1≠b:=fun l hl e=>hc (.inr (by rw [lnk,List.any_eq_true];exact ⟨l,hl,by simpa using e⟩));have hnl2:∀ l∈gR p b,l.1≠a:=fun l hl e=>by
    have:=h.sym b hb l hl;rw [e] at this;exact hnl _ this rfl
   have hg:∀ v,gR ((p.set a (addP bk (gR p a) ((b:Int),w))).set b (addP bk (gR p b) ((a:Int),w))) v = if v = b then addP bk (gR p b) ((a:Int),w) else if v = a then addP bk (gR p a) ((b:Int),w) else gR p v:=fun v=>by
    rw [J3X _ b _ (by simpa using hb),J3X p a _ ha]
   constructor
   . intro v hv;rw [hlen] at hv ⊢;rw [hg];split
     . rename_i e;subst e;obtain ⟨o1,o2⟩:=J0t.1 (h.ok v hv);refine J0t.2 ⟨fun l hl=>?_,nodup_addP o2 hnl2⟩;rcases J1J.1 hl with rfl | hl
       . simp only;omega
       . exact o1 l hl
     . split
       . rename_i e;subst e;obtain ⟨o1,o2⟩:=J0t.1 (h.ok v hv);refine J0t.2 ⟨fun l hl=>?_,nodup_addP o2 hnl⟩;rcases J1J.1 hl with rfl | hl
         . simp only;omega
         . exact o1 l hl
       . exact h.ok v hv
   . intro v hv l hl;rw [hlen] at hv;have old:∀ u x,x∈gR p u→x∈gR ((p.set a (addP bk (gR p a) ((b:Int),w))).set b (addP bk (gR p b) ((a:Int),w))) u:=fun u x hx=>by
      rw [hg];split
      . rename_i e;subst e;exact J1J.2 (.inr hx)
      . split
        . rename_i e;subst e;exact J1J.2 (.inr hx)
        . exact hx
     rw [hg] at hl;split at hl
     . rename_i e;subst e;rcases J1J.1 hl with rfl | hl
       . simp only [Int.toNat_natCast];rw [hg,if_neg hab,if_pos rfl];exact J1J.2 (.inl rfl)
       . exact old _ _ (h.sym v hv l hl)
     . split at hl
       . rename_i e;subst e;rcases J1J.1 hl with rfl | hl
         . simp only [Int.toNat_natCast];rw [hg,if_pos rfl];exact J1J.2 (.inl rfl)
         . exact old _ _ (h.sym v hv l hl)
       . exact old _ _ (h.sym v hv l hl)
theorem wgt_ok (x:Net) (i:Nat):1≤wgt x i∧wgt x i≤15:=by
 have:=J0p (gI x.weights i) (b:=15) (by omega);rw [wgt];omega
theorem pv_tree (x:Net) (n:Nat):∀ k,k < n→PV (J18 x n k)
 | 0,_=>pv_rep n
 | k + 1,hk=>by
   have h1:=treeP_to x k;rw [J18];exact pv_link (pv_tree x n k (by omega)) (by rw [J1n];omega) (by rw [J1n];exact hk) (wgt_ok x k)
theorem pv_more (x:Net) {n:Nat} (hn:1≤n) {p:Ps} (hp:p.length = n) (h:PV p):∀ k,PV (J2v x n p k)
 | 0=>h
 | k + 1=>by
   rw [J2v];exact pv_link (pv_more x hn hp h k) (by rw [J1H,hp];exact J2M hn) (by rw [J1H,hp];exact J2M hn) (wgt_ok x _)
theorem valid_of {I:List Int} {p:Ps} {n:Nat} (h1:1≤n) (h2:n≤24) (hI:I.length = n) (hp:p.length = n) (h3:∀ a∈I,0≤a∧a≤255) (h4:I.Nodup) (h:PV p):(⟨I,p⟩:G).valid = true:=by
 rw [G.valid,Bool.and_eq_true,Bool.and_eq_true,decide_eq_true_eq];refine ⟨⟨by show 1≤I.length;omega,by show I.length≤24;omega,by show p.length = I.length;omega⟩,(J1L _).2 ⟨h3,h4⟩,?_⟩;rw [J1s,Bool.and_eq_true];exact ⟨J2i.2 h.ok,J6c.2 h.sym⟩
theorem con_valid (x:Net) {most:Int} (h1:1≤most) (h2:most≤24):(x.con most).valid = true:=by
 have hs:=size_ok x h1;have hi:=idsF_ok x.ids (x.size most) (by omega);exact valid_of hs.1 (by omega) (J64 x most).1 (J64 x most).2 hi.1 hi.2 (pv_more x hs.1 (J1n _ _ _) (pv_tree x _ _ (by omega)) _)
theorem valid_small {g:G} (h:g.valid = true):g.Small:=by
 obtain ⟨f1,f2,f3,f4,f5,f6,f7⟩:=J0e h;refine small_of (by omega) (by omega) (fun u=>?_);by_cases hu:u < g.ports.length
 . have:=J6t hu (f6 u hu);omega
 . have:gR g.ports u = []:=by simp [gR,List.getD,List.getElem?_eq_none (Nat.le_of_not_lt hu)]
   rw [this];simp
theorem linkP_get {bk:Bool} {p:Ps} {a b:Nat} {w:Int} (ha:a < p.length) (hb:b < p.length) (hc:¬ (a = b∨lnk p a b = true)) (v:Nat) :
 gR (J2S bk p a b w) v = if v = b then addP bk (gR p b) ((a:Int),w) else if v = a then addP bk (gR p a) ((b:Int),w) else gR p v:=by
 rw [J2S,if_neg hc,J3X _ b _ (by simpa using hb),J3X p a _ ha]
theorem linkP_keep {bk:Bool} {p:Ps} {a b:Nat} {w:Int} (ha:a < p.length) (hb:b < p.length) {v:Nat} {l:Int × Int} (hl:l∈gR p v):l∈gR (J2S bk p a b w) v:=by
 by_cases hc:a = b∨lnk p a b = true
 . rw [J2S,if_pos hc];exact hl
 . rw [linkP_get ha hb hc];split
   . rename_i e;subst e;exact J1J.2 (.inr hl)
   . split
     . rename_i e;subst e;exact J1J.2 (.inr hl)
     . exact hl
theorem linkP_new {bk:Bool} {p:Ps} (h:PV p) {a b:Nat} {w:Int} (ha:a < p.length) (hb:b < p.length) (hab:a≠b):∃ l∈gR (J2S bk p a b w) b,l.1 = (a:Int):=by
 by_cases hc:lnk p a b = true
 . rw [J2S,if_pos (.inr hc)];rw [lnk,List.any_eq_true] at hc;obtain ⟨l,hl,e⟩:=hc;have e:l.1 = (b:Int):=by simpa using e
   have:=h.sym a ha l hl;rw [e,Int.toNat_natCast] at this;exact ⟨_,this,rfl⟩
 . rw [linkP_get ha hb (by rintro (e | e);exact hab e;exact hc e),if_pos rfl];exact ⟨_,J1J.2 (.inl rfl),rfl⟩
def Anc (p:Ps) (k:Nat):Prop:=∀ v,1≤v→v≤k→∃ l∈gR p v,l.1.toNat < v
theorem anc_tree (x:Net) (n:Nat):∀ k,k < n→Anc (J18 x n k) k
 | 0,_=>fun v h1 h2=>by omega
 | k + 1,hk=>by
   intro v h1 h2;have ht:=treeP_to x k;have hpv:=pv_tree x n k (by omega);have hl:=J1n x n k;rw [J18];by_cases e:v = k + 1
   . subst e;obtain ⟨l,hl1,e⟩:=linkP_new (bk:=x.back) (w:=wgt x k) hpv (a:=(J0A (gI x.links k) ((k:Int) + 1)).toNat) (b:=k + 1) (by omega) (by omega) (by omega);exact ⟨l,hl1,by rw [e,Int.toNat_natCast];exact ht⟩
   . obtain ⟨l,hl1,e2⟩:=anc_tree x n k (by omega) v h1 (by omega);exact ⟨l,linkP_keep (by omega) (by omega) hl1,e2⟩
theorem anc_more (x:Net) {n:Nat} (hn:1≤n) {p:Ps} (hp:p.length = n) {m:Nat} (h:Anc p m):∀ k,Anc (J2v x n p k) m
 | 0=>h
 | k + 1=>by
   intro v h1 h2;obtain ⟨l,hl,e⟩:=anc_more x hn hp h k v h1 h2;rw [J2v];exact ⟨l,linkP_keep (by rw [J1H,hp];exact J2M hn) (by rw [J1H,hp];exact J2M hn) hl,e⟩
theorem conn_of {g:G} (hg:g.valid = true) (ha:∀ v,1≤v→v < g.ports.length→∃ l∈gR g.ports v,l.1.toNat < v):g.conn = true:=by
 obtain ⟨f1,f2,f3,f4,f5,f6,f7⟩:=J0e hg;have hF:=dst_found hg;have hu:=und_of hg;have key:∀ m v,v < m→v < g.ports.length→0≤gI (dst g 0) v:=by
  intro m
  induction m with
  | zero=>intro v h;omega
  | succ m ih =>
    intro v hm hv;by_cases h0:v = 0
    . subst h0;have:=hF.from_;have this:gI (dst g 0) 0 = 0:=this;omega
    . obtain ⟨l,hl,e⟩:=ha v (by omega) hv;have h1:=ih l.1.toNat (by omega) (by omega);obtain ⟨m',hm',em⟩:=hu.sym v hv l hl;have:=(hF.on l.1.toNat (by omega) h1 m' hm').1;rw [em] at this;exact this
 rw [G.conn,hg,Bool.true_and,J6w.2 (fun a ham=>?_)]
 . rfl
 . obtain ⟨i,hi,e⟩:=List.mem_iff_getElem.1 ham;have:=key (i + 1) i (by omega) (by rw [J4e] at hi;exact hi);rw [← e];simpa [gI,hi] using this
theorem con_conn (x:Net) {most:Int} (h1:1≤most) (h2:most≤24):(x.con most).conn = true:=by
 have hs:=size_ok x h1;refine conn_of (con_valid x h1 h2) fun v hv1 hv=>?_;rw [(J64 x most).2] at hv;exact anc_more x hs.1 (J1n _ _ _) (anc_tree x (x.size most) (x.size most - 1) (by omega)) _ v hv1 (by omega)
end Go.Proofs.YtgajaabakpfbbaaGreatDoor
