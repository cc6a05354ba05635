import Derived.Test.YtgajaabakpfbbaaEngT
import Derived.Test.YtgajaabakpfbbaaGRCode
namespace Go.Proofs.Ytgajaabakpfbbaa
open Go.Eng
set_option maxRecDepth 100000
set_option linter.unusedVariables false
structure G where
 ids:List Int
 ports:List (List (Int × Int))
def gI (l:List Int) (i:Nat):Int:=l.getD i 0
def gF (l:List (Int × Int)) (i:Nat):Int × Int:=l.getD i (0,0)
def gR (l:List (List (Int × Int))) (i:Nat):List (Int × Int):=l.getD i []
def vI (l:List Int):Nat→Nat→V:=fun i _=>.int .i64 (gI l i)
def vF (l:List (Int × Int)):Nat→Nat→V:=fun i j=>match j with
 | 0=>.int .i64 (gF l i).1
 | _ + 1=>.int .i64 (gF l i).2
def vP (p:List (List (Int × Int))):Nat→Nat→V:=fun i _=>.fz (gR p i).length 2 false (vF (gR p i))
def G.v (g:G):V:=.agg [.fz g.ids.length 1 false (vI g.ids),.fz g.ports.length 1 false (vP g.ports)]
def okID (i:Int):Bool:=decide (0≤i∧i≤255)
def okL (n v:Nat) (l:Int × Int):Bool:=decide (0≤l.1∧l.1 < n∧l.1≠v∧1≤l.2∧l.2≤15)
def okR (n v:Nat) (r:List (Int × Int)):Bool:=r.all (okL n v) && decide (r.map (·.1)).Nodup
def symL (p:List (List (Int × Int))) (v:Nat) (l:Int × Int):Bool:=decide (((v:Int),l.2)∈gR p l.1.toNat)
def idsOk (l:List Int):Bool:=l.all okID && decide l.Nodup
def rowsOk (p:List (List (Int × Int))):Bool:=decide (∀ v,v < p.length→okR p.length v (gR p v) = true)
def symOk (p:List (List (Int × Int))):Bool:=decide (∀ v,v < p.length→∀ l,l∈gR p v→symL p v l = true)
def portsOk (p:List (List (Int × Int))):Bool:=rowsOk p && symOk p
def G.valid (g:G):Bool:=decide (1≤g.ids.length∧g.ids.length≤24∧g.ports.length = g.ids.length) && (idsOk g.ids && portsOk g.ports)
theorem gI_take (l:List Int) (i:Nat) (h:i < l.length):l.take (i + 1) = l.take i ++ [gI l i]:=by
 rw [List.take_succ_eq_append_getElem h];simp only [gI,List.getD,List.getElem?_eq_getElem h,Option.getD_some]
theorem gF_take (l:List (Int × Int)) (i:Nat) (h:i < l.length):l.take (i + 1) = l.take i ++ [gF l i]:=by
 rw [List.take_succ_eq_append_getElem h];simp only [gF,List.getD,List.getElem?_eq_getElem h,Option.getD_some]
theorem gI_mem {l:List Int} {i:Nat} (h:i < l.length):gI l i∈l:=by
 simp only [gI,List.getD,List.getElem?_eq_getElem h];exact List.getElem_mem h
theorem gF_mem {l:List (Int × Int)} {i:Nat} (h:i < l.length):gF l i∈l:=by
 simp only [gF,List.getD,List.getElem?_eq_getElem h];exact List.getElem_mem h
theorem gI_get {l:List Int} {x:Int} (h:x∈l):∃ i,i < l.length∧gI l i = x:=by
 obtain ⟨i,hi,he⟩:=List.mem_iff_getElem.1 h;exact ⟨i,hi,by simp only [gI,List.getD,List.getElem?_eq_getElem hi,Option.getD_some];exact he⟩
theorem in_ok (a b c:Int):Ret Try.prog 59 [.int .i64 a,.int .i64 b,.int .i64 c] (.bool (decide (b≤a∧a≤c))):=by
 refine ret_frz rfl ?_;refine fn_rule mixed Try.func59 rfl hc59 hr59 rfl ?_
 repeat' ((conv=>whnf);first | (refine Br.dec ?_ ?_ <;> intro _ <;> try omega))
 all_goals (conv=>whnf)
 all_goals exact VLe.bool (by symm;first | (rw [decide_eq_true_eq];omega) | (rw [decide_eq_false_iff_not];omega))
def seenF (l:List Int):Nat→Nat→V:=fun j _=>.bool (decide ((j:Int)∈l))
theorem seen_set (l:List Int) (a:Int) (i j:Nat) (k:Nat) (ha:0≤a) (hk:k = a.toNat) (hj:j < 1):VLe (fset (seenF l) k 0 [.bool true] i j) (seenF (l ++ [a]) i j):=by
 apply VLe.of_eq;subst hk;have hj0:j = 0:=by omega
 subst hj0;by_cases h:i = a.toNat
 . subst h;have e:((a.toNat:Nat):Int) = a:=by omega
   simp only [fset,seenF,e];simp
 . have:¬ (i:Int) = a:=by omega
   simp [fset,seenF,h,this]
theorem idsOk_iff (l:List Int):idsOk l = true↔(∀ a∈l,0≤a∧a≤255)∧l.Nodup:=by
 simp [idsOk,okID]
theorem ids_bad {l:List Int} (i:Nat) (h:i < l.length) (hb:¬ (0≤gI l i∧gI l i≤255)∨gI l i∈l.take i):VLe (V.bool false) (V.bool (idsOk l)):=by
 refine VLe.bool ?_;symm;rw [← Bool.not_eq_true,idsOk_iff];rintro ⟨h1,h2⟩;rcases hb with hb | hb
 . exact hb (h1 _ (gI_mem h))
 . have:=gI_take l i h;have hn:(l.take (i + 1)).Nodup:=h2.sublist (List.take_sublist _ _);rw [this,List.nodup_append] at hn;exact hn.2.2 _ hb _ (by simp) rfl
theorem diff_ok (l:List Int) (hl:l.length≤1000000):Ret Try.prog 66 [.fz l.length 1 false (vI l)] (.bool (idsOk l)):=by
 refine ret_frz rfl ?_;refine fn_rule mixed Try.func66 rfl hc66 hr66 rfl ?_
 repeat' ((conv=>whnf);first | fail)
 all_goals (conv=>whnf)
 refine loop_w mixed [3,6,7] [] [1,2,3,4,5,6,7,8,9,10,11,12,13,14,15,16,17,18,19,20,21,22,23,24,25,26,27,28,29] [0] (fun i:Nat=>[(8,.int .i64 i)]) (fun i=>[(0,.vec 256 1 (seenF (l.take i)))])
  (fun n i=>n = l.length - i∧i≤l.length∧(∀ a∈l.take i,0≤a∧a≤255)∧(l.take i).Nodup) l.length 0 ⟨rfl,Nat.zero_le _,by simp,by simp⟩ rfl (fun _=>rfl) ?_ ?_
 . refine weak_by (fun _ _=>[(0,some 0)]) ?_ ?_ rfl
   . repeat' (first | exact True.intro | exact VRen.oel rfl rfl | (refine ⟨⟨_,rfl,?_⟩,?_⟩) | exact VRen.kf rfl)
   . repeat' (first | exact VLe.of_eq (by simp [seenF]) | exact True.intro | (refine ⟨⟨_,rfl,?_⟩,?_⟩) | (refine ⟨Nat.le_refl _,rfl,fun i j hi hj=>?_⟩))
 rintro n i ⟨hn,hi,hb,hd⟩
 repeat' ((conv=>whnf);first | (refine Br.dec ?_ ?_ <;> intro _ <;> try omega) | (refine Ar.i64 (by omega) (by omega) ?_) | (refine Ix.nat (by omega) ?_) | (refine Ix.int (by omega) (by omega) ?_) | (refine Ltn.mk (by omega) ?_))
 all_goals (conv=>whnf)
 . exact ids_bad i (by omega) (.inl (by omega))
 . exact ids_bad i (by omega) (.inl (by omega))
 . exact ids_bad i (by omega) (.inr (by rename_i h;rwa [show (((gI l i).toNat:Nat):Int) = gI l i by omega] at h))
 . rename_i hni;rw [show (((gI l i).toNat:Nat):Int) = gI l i by omega] at hni;refine ⟨l.length - (i + 1),i + 1,by omega,⟨rfl,by omega,?_,?_⟩,?_⟩
   . rw [gI_take l i (by omega)];intro a ha;rcases List.mem_append.1 ha with h | h
     . exact hb a h
     . rw [List.mem_singleton.1 h];omega
   . rw [gI_take l i (by omega),List.nodup_append];exact ⟨hd,by simp,fun a ha b hb' e=>hni (by rw [List.mem_singleton.1 hb'] at e;rw [← e];exact ha)⟩
   . simp only [gI_take l i (by omega)];refine weak_by (fun _ _=>[(0,some 0)]) ?_ ?_ rfl
     . repeat' (first | exact True.intro | exact VRen.oel rfl rfl | (refine ⟨⟨_,rfl,?_⟩,?_⟩) | exact VRen.kf rfl)
     . repeat' (first | exact seen_set _ _ _ _ _ (by omega) rfl hj | exact True.intro | (refine ⟨⟨_,rfl,?_⟩,?_⟩) | (refine ⟨Nat.le_refl _,rfl,fun i j hi hj=>?_⟩))
 . rw [List.take_of_length_le (by omega)] at hb hd;exact VLe.bool ((idsOk_iff l).2 ⟨hb,hd⟩).symm
abbrev Ent:=(Int × Int) × V
def entR (u:Nat) (r:List (Int × Int)):List Ent:=r.map fun l=>(((u:Int),l.1),V.int .i64 l.2)
def ents (p:List (List (Int × Int))):Nat→List Ent
 | 0=>[]
 | v + 1=>ents p v ++ entR v (gR p v)
theorem entR_snoc (u:Nat) (r:List (Int × Int)) (l:Int × Int):entR u (r ++ [l]) = entR u r ++ [(((u:Int),l.1),V.int .i64 l.2)]:=by simp [entR]
theorem mem_entR {u:Nat} {r:List (Int × Int)} {e:Ent}:e∈entR u r↔∃ l∈r,e = (((u:Int),l.1),V.int .i64 l.2):=by
 simp only [entR,List.mem_map];exact ⟨fun ⟨l,h,e⟩=>⟨l,h,e.symm⟩,fun ⟨l,h,e⟩=>⟨l,h,e.symm⟩⟩
theorem mem_ents {p:List (List (Int × Int))} {e:Ent}:∀ {v:Nat},e∈ents p v↔∃ u,u < v∧∃ l∈gR p u,e = (((u:Int),l.1),V.int .i64 l.2)
 | 0=>by simp [ents]
 | v + 1=>by
   simp only [ents,List.mem_append,mem_ents (v:=v),mem_entR];constructor
   . rintro (⟨u,h,x⟩ | x)
     . exact ⟨u,by omega,x⟩
     . exact ⟨v,by omega,x⟩
   . rintro ⟨u,h,x⟩;by_cases hu:u = v
     . subst hu;exact .inr x
     . exact .inl ⟨u,by omega,x⟩
theorem mfind_some:∀ {es:List Ent} {p:Int × Int} {x:V},mfind es p = some x→(p,x)∈es
 | [],_,_,h=>by simp [mfind] at h
 | (q,u) :: r,p,x,h=>by
   simp only [mfind] at h;split at h
   . rename_i e;cases h;subst e;simp
   . exact List.mem_cons_of_mem _ (mfind_some h)
theorem mfind_none:∀ {es:List Ent} {p:Int × Int},mfind es p = none→∀ x,(p,x) ∉ es
 | [],_,_,_=>by simp
 | (q,u) :: r,p,h,x=>by
   simp only [mfind] at h;split at h
   . cases h
   . rename_i e;intro hm;rcases List.mem_cons.1 hm with e' | e'
     . cases e';exact e rfl
     . exact mfind_none h x e'
theorem mput_none:∀ {es:List Ent} {p:Int × Int} {y:V},mfind es p = none→mput es p y = es ++ [(p,y)]
 | [],_,_,_=>rfl
 | (q,u) :: r,p,y,h=>by
   simp only [mfind] at h;split at h
   . cases h
   . rename_i e;simp only [mput,if_neg e,List.cons_append,mput_none h]
def Ints (es:List Ent):Prop:=∀ e∈es,∃ w:Int,e.2 = V.int .i64 w
theorem ints_ents (p:List (List (Int × Int))) (v:Nat):Ints (ents p v):=fun e he=>by
 obtain ⟨u,_,l,_,rfl⟩:=mem_ents.1 he;exact ⟨_,rfl⟩
theorem ints_more (p:List (List (Int × Int))) (v:Nat) (r:List (Int × Int)):Ints (ents p v ++ entR v r):=fun e he=>by
 rcases List.mem_append.1 he with he | he
 . exact ints_ents p v e he
 . obtain ⟨l,_,rfl⟩:=mem_entR.1 he;exact ⟨_,rfl⟩
theorem mget_ints {es:List Ent} {p:Int × Int} {A:V→Prop} {B:Prop} (hi:Ints es) (h1:∀ w:Int,mfind es p = some (.int .i64 w)→A (.int .i64 w)) (h2:mfind es p = none→B):MGet (mfind es p) A B :=
 ⟨fun v hv=>by
   obtain ⟨w,hw⟩:=hi _ (mfind_some hv);simp only at hw;subst hw;exact h1 w hv,h2⟩
theorem mnext_ints {n:Nat} {idxs:List Nat} {es:List Ent} {A:Nat→Ent→Prop} {B:Prop} (hi:Ints es) (h1:∀ i (a b w:Int),i < n→i ∉ idxs→es[i]? = some ((a,b),V.int .i64 w)→A i ((a,b),V.int .i64 w)) (h2:(∀ i,i < n→i∈idxs)→B):MNext n idxs es A B :=
 ⟨fun i p h3 h4 h5=>by
   obtain ⟨⟨a,b⟩,x⟩:=p;obtain ⟨w,hw⟩:=hi _ (List.mem_of_getElem? h5);simp only at hw;subst hw;exact h1 i a b w h3 h4 h5,h2⟩
theorem okR_iff {n v:Nat} {r:List (Int × Int)}:okR n v r = true↔(∀ l∈r,0≤l.1∧l.1 < n∧l.1≠v∧1≤l.2∧l.2≤15)∧(r.map (·.1)).Nodup:=by
 simp only [okR,okL,Bool.and_eq_true,List.all_eq_true,decide_eq_true_eq]
theorem rowsOk_iff {p:List (List (Int × Int))}:rowsOk p = true↔∀ v,v < p.length→okR p.length v (gR p v) = true:=by simp [rowsOk]
theorem symOk_iff {p:List (List (Int × Int))}:symOk p = true↔∀ v,v < p.length→∀ l∈gR p v,((v:Int),l.2)∈gR p l.1.toNat:=by
 simp only [symOk,symL,decide_eq_true_eq]
theorem fst_uniq {r:List (Int × Int)} (h:(r.map (·.1)).Nodup) {a b:Int × Int} (ha:a∈r) (hb:b∈r) (e:a.1 = b.1):a = b:=by
 induction r with
 | nil=>simp at ha
 | cons x r ih =>
   simp only [List.map_cons,List.nodup_cons] at h;rcases List.mem_cons.1 ha with ea | ha
   . rcases List.mem_cons.1 hb with eb | hb
     . rw [ea,eb]
     . exact (h.1 (List.mem_map.2 ⟨b,hb,by rw [← e,ea]⟩)).elim
   . rcases List.mem_cons.1 hb with eb | hb
     . exact (h.1 (List.mem_map.2 ⟨a,ha,by rw [e,eb]⟩)).elim
     . exact ih h.2 ha hb
theorem sym_ents {p:List (List (Int × Int))} (hr:∀ v,v < p.length→okR p.length v (gR p v) = true) :
 symOk p = true↔∀ e∈ents p p.length,mfind (ents p p.length) (e.1.2,e.1.1) = some e.2:=by
 rw [symOk_iff];constructor
 . intro h e he;obtain ⟨u,hu,l,hl,rfl⟩:=mem_ents.1 he;obtain ⟨hL,_⟩:=okR_iff.1 (hr u hu);have hb:=hL l hl;have hm:=h u hu l hl;have hto:l.1.toNat < p.length:=by omega
   have e1:((l.1.toNat:Nat):Int) = l.1:=by omega
   simp only;cases hf:mfind (ents p p.length) (l.1,(u:Int)) with
   | none=>exact (mfind_none hf _ (mem_ents.2 ⟨l.1.toNat,hto,_,hm,by rw [e1]⟩)).elim
   | some x =>
     obtain ⟨u',hu',l',hl',he'⟩:=mem_ents.1 (mfind_some hf);simp only [Prod.mk.injEq] at he';obtain ⟨⟨a1,a2⟩,a3⟩:=he';have:u' = l.1.toNat:=by omega
     subst this;have:=fst_uniq (okR_iff.1 (hr _ hu')).2 hm hl' a2;rw [a3,← this]
 . intro h v hv l hl;have:=h _ (mem_ents.2 ⟨v,hv,l,hl,rfl⟩);simp only at this;obtain ⟨u',hu',l',hl',he'⟩:=mem_ents.1 (mfind_some this);simp only [Prod.mk.injEq,V.int.injEq,true_and] at he';obtain ⟨⟨a1,a2⟩,a3⟩:=he';have:l.1.toNat = u':=by omega
   rw [this];have:((v:Int),l.2) = l':=Prod.ext a2 a3;rw [this];exact hl'
theorem ports_row {p:List (List (Int × Int))} (v:Nat) (hv:v < p.length) (h:okR p.length v (gR p v) = false):VLe (V.bool false) (V.bool (portsOk p)):=by
 refine VLe.bool ?_;symm;rw [portsOk,Bool.and_eq_false_iff];left;rw [← Bool.not_eq_true,rowsOk_iff];intro hh;rw [hh v hv] at h;cases h
theorem row_bad {n v:Nat} {r:List (Int × Int)} (j:Nat) (hj:j < r.length) (h:¬ (0≤(gF r j).1∧(gF r j).1 < n∧(gF r j).1≠v∧1≤(gF r j).2∧(gF r j).2≤15)):okR n v r = false:=by
 rw [← Bool.not_eq_true,okR_iff];exact fun hh=>h (hh.1 _ (gF_mem hj))
theorem row_twice {n v:Nat} {r:List (Int × Int)} (j:Nat) (hj:j < r.length) (h:(gF r j).1∈(r.take j).map (·.1)):okR n v r = false:=by
 rw [← Bool.not_eq_true,okR_iff];rintro ⟨_,hn⟩;have:=(hn.sublist ((List.take_sublist (j + 1) r).map _));rw [gF_take r j hj,List.map_append,List.nodup_append] at this;exact this.2.2 _ h _ (by simp) rfl
theorem gR_len {p:List (List (Int × Int))} {k:Nat} (h:∀ r∈p,r.length≤k) (v:Nat):(gR p v).length≤k:=by
 simp only [gR,List.getD];cases hv:p[v]? with
 | none=>simp
 | some r=>exact h r (List.mem_of_getElem? hv)
theorem idx_le {n:Nat} {l:List Nat} (hn:l.Nodup) (hb:∀ i∈l,i < n):l.length≤n:=by
 induction n generalizing l with
 | zero =>
   cases l with
   | nil=>simp
   | cons a l=>have:=hb a (by simp);omega
 | succ n ih =>
   have h1:=ih (l:=l.erase n) (hn.erase _) (fun i hi=>by
    have h2:=hb i (List.mem_of_mem_erase hi);have h3:i≠n:=fun e=>by subst e;exact (hn.not_mem_erase) hi
    omega)
   rw [List.length_erase] at h1;split at h1 <;> omega
set_option maxHeartbeats 4000000 in
theorem sym_ok (p:List (List (Int × Int))) (hp:p.length≤24) (hr:∀ r∈p,r.length≤9223372036854775807):Ret Try.prog 67 [.fz p.length 1 false (vP p)] (.bool (portsOk p)):=by
 refine ret_frz rfl ?_;refine fn_rule mixed Try.func67 rfl hc67 hr67 rfl ?_
 repeat' ((conv=>whnf);first | fail)
 all_goals (conv=>whnf)
 refine loop_w mixed [0,3,14,15] [] [1,2,3,4,5,6,7,8,9,10,11,12,13,14,15,16,17,18,19,20,21,22,23,24,25,26,27,28,29] [0] (fun i:Nat=>[(16,.int .i64 i)]) (fun i=>[(0,.map (.pair .i64) (ents p i))])
  (fun n i=>n = p.length - i∧i≤p.length∧∀ v,v < i→okR p.length v (gR p v) = true) p.length 0 ⟨rfl,Nat.zero_le _,fun v h=>by omega⟩ rfl (fun _=>rfl) ?_ ?_
 . exact weak_b (fun _ _=>[(0,some 0)])
 rintro n v ⟨hn,hv,hrow⟩;have hrl:=gR_len hr v
 repeat' ((conv=>whnf);first | (refine Br.dec ?_ ?_ <;> intro _ <;> try omega) | (refine Ix.nat (by omega) ?_))
 all_goals (conv=>whnf)
 . refine loop_w mixed [0,3,4,14,15,16,21,22] [] [1,2,3,4,5,6,7,8,9,10,11,12,13,14,15,16,17,18,19,20,21,22,23,24,25,26,27,28,29] [0] (fun j:Nat=>[(23,.int .i64 j)]) (fun j=>[(0,.map (.pair .i64) (ents p v ++ entR v ((gR p v).take j)))])
    (fun n j=>n = (gR p v).length - j∧j≤(gR p v).length∧okR p.length v ((gR p v).take j) = true) (gR p v).length 0 ⟨rfl,Nat.zero_le _,by simp [okR]⟩ rfl (fun _=>rfl) ?_ ?_
   . refine weak_by (fun _ _=>[(0,some 0)]) ?_ ?_ rfl
     . repeat' (first | exact True.intro | exact VRen.map rfl | (refine ⟨⟨_,rfl,?_⟩,?_⟩) | exact VRen.kf rfl)
     . repeat' (first | exact ⟨rfl,by simp [entR]⟩ | exact True.intro | (refine ⟨⟨_,rfl,?_⟩,?_⟩))
   rintro n j ⟨hn,hj,hok⟩
   repeat' ((conv=>whnf);first | (refine Br.dec ?_ ?_ <;> intro _ <;> try omega) | (refine Ar.i64 (by omega) (by omega) ?_) | (refine Ix.nat (by omega) ?_) | (refine mget_ints (ints_more _ _ _) (fun w hw=>?_) (fun hw=>?_)))
   all_goals (conv=>whnf)
   . exact ports_row v (by omega) (row_bad j (by omega) (by omega))
   . exact ports_row v (by omega) (row_bad j (by omega) (by omega))
   . exact ports_row v (by omega) (row_bad j (by omega) (by omega))
   . exact ports_row v (by omega) (row_bad j (by omega) (by omega))
   . exact ports_row v (by omega) (row_bad j (by omega) (by omega))
   . refine ports_row v (by omega) (row_twice j (by omega) ?_);rcases List.mem_append.1 (mfind_some hw) with h | h
     . obtain ⟨u,hu,l,_,he⟩:=mem_ents.1 h;simp only [Prod.mk.injEq] at he;omega
     . obtain ⟨l,hl,he⟩:=mem_entR.1 h;simp only [Prod.mk.injEq] at he;exact List.mem_map.2 ⟨l,hl,he.1.2.symm⟩
   . have hnin:(gF (gR p v) j).1 ∉ ((gR p v).take j).map (·.1):=fun h=>by
      obtain ⟨l,hl,he⟩:=List.mem_map.1 h;refine mfind_none hw (.int .i64 l.2) (List.mem_append_right _ (mem_entR.2 ⟨l,hl,?_⟩));rw [he]
     refine ⟨(gR p v).length - (j + 1),j + 1,by omega,⟨rfl,by omega,?_⟩,?_⟩
     . rw [okR_iff] at hok ⊢;rw [gF_take _ j (by omega)];refine ⟨fun l hl=>?_,?_⟩
       . rcases List.mem_append.1 hl with h | h
         . exact hok.1 l h
         . rw [List.mem_singleton.1 h];omega
       . rw [List.map_append,List.nodup_append];refine ⟨hok.2,by simp,fun a ha b hb e=>hnin ?_⟩;simp only [List.map_cons,List.map_nil,List.mem_singleton] at hb;rw [← hb,← e];exact ha
     . have e1:ents p v ++ entR v ((gR p v).take (j + 1)) = mput (ents p v ++ entR v ((gR p v).take j)) ((v:Int),(gF (gR p v) j).1) (.int .i64 (gF (gR p v) j).2):=by
        rw [mput_none hw,gF_take _ j (by omega),entR_snoc,List.append_assoc]
       simp only [e1];exact weak_b (fun _ _=>[(0,some 0)])
   . have hfull:(gR p v).take j = gR p v:=List.take_of_length_le (by omega);rw [hfull] at hok;refine ⟨p.length - (v + 1),v + 1,by omega,⟨rfl,by omega,fun u hu=>?_⟩,?_⟩
     . by_cases e:u = v
       . subst e;exact hok
       . exact hrow u (by omega)
     . refine weak_by (fun _ _=>[(0,some 0)]) ?_ ?_ rfl
       . repeat' (first | exact True.intro | exact VRen.map rfl | (refine ⟨⟨_,rfl,?_⟩,?_⟩) | exact VRen.kf rfl)
       . repeat' (first | exact ⟨rfl,by rw [hfull];rfl⟩ | exact True.intro | (refine ⟨⟨_,rfl,?_⟩,?_⟩))
 . have hvp:v = p.length:=by omega
   subst hvp;have hse:=sym_ents hrow;have hro:rowsOk p = true:=rowsOk_iff.2 hrow;refine loop_w mixed [3,69] [] [2,3,4,5,6,7,8,9,10,11,12,13,14,15,16,17,18,19,20,21,22,23,24,25,26,27,28,29] [1,0] (fun _:List Nat=>[]) (fun ix=>[(1,.iter 0 (ents p p.length).length ix),(0,.map (.pair .i64) (ents p p.length))])
    (fun n ix=>n = (ents p p.length).length - ix.length∧ix.Nodup∧(∀ i∈ix,i < (ents p p.length).length)∧∀ i∈ix,∀ e,(ents p p.length)[i]? = some e→mfind (ents p p.length) (e.1.2,e.1.1) = some e.2)
    (ents p p.length).length [] ⟨rfl,by simp,by simp,by simp⟩ rfl (fun _=>rfl) ?_ ?_
   . exact weak_b (fun _ _=>[(1,some 1),(0,some 0)])
   rintro n ix ⟨hn',hnd,hlt,hix⟩
   repeat' ((conv=>whnf);first | (refine Br.bne ?_ ?_ <;> intro _ <;> try omega) | (refine Ix.mk 0 rfl (by omega) ?_) | (refine Ix.mk 1 rfl (by omega) ?_) | (refine Chk.mk (Nat.beq_refl _) ?_) | (refine mnext_ints (ints_ents _ _) (fun i a b w hi hni he=>?_) (fun hall=>?_)) | (refine ⟨_,List.getLast?_concat,_,‹_›,?_⟩) | (refine mget_ints (ints_ents _ _) (fun w' hw=>?_) (fun hw=>?_)))
   all_goals (conv=>whnf)
   . refine VLe.bool ?_;symm;rw [portsOk,Bool.and_eq_false_iff];right;rw [← Bool.not_eq_true,hse];intro hh;have:=hh _ (List.mem_of_getElem? he);rw [hw] at this;simp at this;contradiction
   . rename_i hww;refine ⟨(ents p p.length).length - (ix ++ [i]).length,ix ++ [i],?_,⟨rfl,?_,?_,?_⟩,?_⟩
     . have h1:(ix ++ [i]).Nodup:=List.nodup_append.2 ⟨hnd,by simp,fun a ha b hb e=>hni (by rw [List.mem_singleton.1 hb] at e;rw [← e];exact ha)⟩;have:=idx_le h1 (n:=(ents p p.length).length) (fun k hk=>by
        rcases List.mem_append.1 hk with h | h
        . exact hlt k h
        . rw [List.mem_singleton.1 h];exact hi)
       simp at this ⊢;omega
     . exact List.nodup_append.2 ⟨hnd,by simp,fun a ha b hb e=>hni (by rw [List.mem_singleton.1 hb] at e;rw [← e];exact ha)⟩
     . intro k hk;rcases List.mem_append.1 hk with h | h
       . exact hlt k h
       . rw [List.mem_singleton.1 h];exact hi
     . intro k hk e hke;rcases List.mem_append.1 hk with h | h
       . exact hix k h e hke
       . rw [List.mem_singleton.1 h,he] at hke;cases hke;rw [hw,hww]
     . exact weak_b (fun _ _=>[(1,some 1),(0,some 0)])
   . refine VLe.bool ?_;symm;rw [portsOk,Bool.and_eq_false_iff];right;rw [← Bool.not_eq_true,hse];intro hh;have:=hh _ (List.mem_of_getElem? he);rw [hw] at this;cases this
   . exfalso;obtain ⟨u,hu,l,hl,he'⟩:=mem_ents.1 (List.mem_of_getElem? he);have:=(okR_iff.1 (hrow u hu)).1 l hl;simp only [Prod.mk.injEq,V.int.injEq,true_and] at he';omega
   . refine VLe.bool ?_;symm;rw [portsOk,Bool.and_eq_true];refine ⟨hro,hse.2 fun e he=>?_⟩;obtain ⟨k,hk,hke⟩:=List.mem_iff_getElem.1 he;exact hix k (hall k hk) e (by rw [← hke];simp [hk])
structure G.Small (g:G):Prop where
 ids:g.ids.length≤9223372036854775807
 ports:g.ports.length≤9223372036854775807
 rows:∀ r∈g.ports,r.length≤9223372036854775807
theorem valid_ok (g:G) (hs:g.Small):Ret Try.prog 46 [g.v] (.bool g.valid):=by
 refine ret_frz rfl ?_;refine fn_rule mixed Try.func46 rfl hc46 hr46 rfl ?_;have s1:=hs.ids;have s2:=hs.ports;by_cases h:1≤g.ids.length∧g.ids.length≤24∧g.ports.length = g.ids.length
 . rw [G.valid,decide_eq_true h,Bool.true_and];have h1:=diff_ok g.ids (by omega);have h2:=sym_ok g.ports (by omega) hs.rows;revert h1 h2;generalize idsOk g.ids = b1;generalize portsOk g.ports = b2;intro h1 h2;cases b1 <;> cases b2 <;>
   repeat' ((conv=>whnf);first | (refine Br.tt ?_) | (refine Br.ff ?_) | (refine Br.dec ?_ ?_ <;> intro _ <;> try omega) | (refine Br.bne ?_ ?_ <;> intro _ <;> try omega) | (refine (h1 _ _).mono ?_;rintro _ _ _ ⟨rfl,rfl,rfl⟩) | (refine (h2 _ _).mono ?_;rintro _ _ _ ⟨rfl,rfl,rfl⟩))
   all_goals (conv=>whnf)
   all_goals exact VLe.rfl
 . rw [G.valid,decide_eq_false h,Bool.false_and]
   repeat' ((conv=>whnf);first | (refine Br.dec ?_ ?_ <;> intro _ <;> try omega) | (refine Br.bne ?_ ?_ <;> intro _ <;> try omega))
   all_goals (conv=>whnf)
   all_goals exact VLe.rfl
theorem okR_snoc {n v:Nat} {r:List (Int × Int)} {i:Nat} (hi:i < r.length) (h:okR n v (r.take i) = true) (hl:0≤(gF r i).1∧(gF r i).1 < n∧(gF r i).1≠v∧1≤(gF r i).2∧(gF r i).2≤15) (hn:(gF r i).1 ∉ (r.take i).map (·.1)):okR n v (r.take (i + 1)) = true:=by
 rw [okR_iff] at h ⊢;rw [gF_take _ i hi];refine ⟨fun l hl'=>?_,?_⟩
 . rcases List.mem_append.1 hl' with h' | h'
   . exact h.1 l h'
   . rw [List.mem_singleton.1 h'];exact hl
 . rw [List.map_append,List.nodup_append];refine ⟨h.2,by simp,fun a ha b hb e=>hn ?_⟩;simp only [List.map_cons,List.map_nil,List.mem_singleton] at hb;rw [← hb,← e];exact ha
theorem links_ok (r:List (Int × Int)) (v n:Nat) (hv:v≤1000) (hn:n≤1000) (hr:r.length≤9223372036854775807):Ret Try.prog 73 [.fz r.length 2 false (vF r),.int .i64 v,.int .i64 n] (.bool (okR n v r)):=by
 refine ret_frz rfl ?_;refine fn_rule mixed Try.func73 rfl hc73 hr73 rfl ?_
 repeat' ((conv=>whnf);first | fail)
 all_goals (conv=>whnf)
 refine loop_r mixed [0,1,2] (fun i:Nat=>[(7,.int .i64 i)]) (fun m i=>m = r.length - i∧i≤r.length∧okR n v (r.take i) = true) r.length 0 ⟨rfl,Nat.zero_le _,by simp [okR]⟩ ?_ ?_
 . exact weak_b (fun _ _=>[])
 rintro m i ⟨hm,hi,hok⟩
 repeat' ((conv=>whnf);first | (refine Br.dec ?_ ?_ <;> intro _ <;> try omega) | (refine Ar.i64 (by omega) (by omega) ?_) | (refine Ix.nat (by omega) ?_) | (refine (in_ok _ _ _ _ _).mono ?_;rintro _ _ _ ⟨rfl,rfl,rfl⟩))
 all_goals (conv=>whnf)
 all_goals try exact VLe.bool (row_bad i (by omega) (by omega)).symm
 . refine loop_r mixed [0,1,2,7] (fun k:Nat=>[(8,.int .i64 k)]) (fun m k=>m = i - k∧k≤i∧(gF r i).1 ∉ (r.take k).map (·.1)) i 0 ⟨rfl,Nat.zero_le _,by simp⟩ ?_ ?_
   . exact weak_b (fun _ _=>[])
   rintro m k ⟨hm,hk,hnin⟩
   repeat' ((conv=>whnf);first | (refine Br.dec ?_ ?_ <;> intro _ <;> try omega) | (refine Ar.i64 (by omega) (by omega) ?_) | (refine Ix.nat (by omega) ?_))
   all_goals (conv=>whnf)
   . rename_i he;refine VLe.bool (row_twice i (by omega) ?_).symm;rw [← he];refine List.mem_map.2 ⟨gF r k,?_,rfl⟩;have:=List.take_sublist_take_left (l:=r) (show k + 1≤i by omega);exact this.subset (by rw [gF_take r k (by omega)];simp)
   . rename_i he;refine ⟨i - (k + 1),k + 1,by omega,⟨rfl,by omega,?_⟩,?_⟩
     . rw [gF_take r k (by omega),List.map_append,List.mem_append,not_or];exact ⟨hnin,by simp;exact fun e=>he e.symm⟩
     . exact weak_b (fun _ _=>[])
   . have hki:k = i:=by omega
     subst hki;refine ⟨r.length - (k + 1),k + 1,by omega,⟨rfl,by omega,okR_snoc (by omega) hok (by omega) hnin⟩,?_⟩;exact weak_b (fun _ _=>[])
 . rw [List.take_of_length_le (by omega)] at hok;rw [hok];exact VLe.rfl
def portI (r:List (Int × Int)) (u:Int):Int:=match r.findIdx? (fun l=>decide (l.1 = u)) with
 | some k=>k
 | none=>-1
theorem portI_some {r:List (Int × Int)} {u:Int} {i:Nat} (hi:i < r.length) (h:∀ l∈r.take i,l.1≠u) (he:(gF r i).1 = u):portI r u = i:=by
 have:r.findIdx? (fun l=>decide (l.1 = u)) = some i:=by
  rw [List.findIdx?_eq_some_iff_getElem];refine ⟨hi,?_,fun j hj=>?_⟩
  . have:gF r i = r[i]:=by simp only [gF,List.getD,List.getElem?_eq_getElem hi,Option.getD_some]
    rw [← this];simpa using he
  . have:=h r[j] (by rw [List.mem_take_iff_getElem];exact ⟨j,by omega,rfl⟩);simpa using this
 simp only [portI,this]
theorem portI_none {r:List (Int × Int)} {u:Int} (h:∀ l∈r,l.1≠u):portI r u = -1:=by
 have:r.findIdx? (fun l=>decide (l.1 = u)) = none:=by
  rw [List.findIdx?_eq_none_iff];intro x hx;simpa using h x hx
 simp only [portI,this]
theorem portI_cases (r:List (Int × Int)) (u:Int):(portI r u = -1∧∀ l∈r,l.1≠u)∨∃ i,i < r.length∧portI r u = (i:Int)∧(gF r i).1 = u:=by
 unfold portI;cases h:r.findIdx? (fun l=>decide (l.1 = u)) with
 | none =>
   rw [List.findIdx?_eq_none_iff] at h;exact .inl ⟨rfl,fun l hl=>by simpa using h l hl⟩
 | some i =>
   rw [List.findIdx?_eq_some_iff_getElem] at h;obtain ⟨hi,h1,_⟩:=h;refine .inr ⟨i,hi,rfl,?_⟩;simp only [gF,List.getD,List.getElem?_eq_getElem hi,Option.getD_some];simpa using h1
theorem port_ok (g:G) (hs:g.Small) (v:Nat) (u:Int) (hv:v < g.ports.length):Ret Try.prog 29 [g.v,.int .i64 v,.int .i64 u] (.int .i64 (portI (gR g.ports v) u)):=by
 have hrl:=gR_len hs.rows v;refine ret_frz rfl ?_;refine fn_rule mixed Try.func29 rfl hc29 hr29 rfl ?_
 repeat' ((conv=>whnf);first | fail)
 all_goals (conv=>whnf)
 refine loop_r mixed [1,2,3] (fun i:Nat=>[(7,.int .i64 i)]) (fun m i=>m = (gR g.ports v).length - i∧i≤(gR g.ports v).length∧∀ l∈(gR g.ports v).take i,l.1≠u) (gR g.ports v).length 0 ⟨rfl,Nat.zero_le _,by simp⟩ ?_ ?_
 . exact weak_b (fun _ _=>[(0,some 0)])
 rintro m i ⟨hm,hi,hall⟩
 repeat' ((conv=>whnf);first | (refine Br.dec ?_ ?_ <;> intro _ <;> try omega) | (refine Ar.i64 (by omega) (by omega) ?_) | (refine Ix.nat (by omega) ?_))
 all_goals (conv=>whnf)
 . rw [portI_some (by omega) hall ‹_›];exact VLe.rfl
 . rename_i hne;refine ⟨(gR g.ports v).length - (i + 1),i + 1,by omega,⟨rfl,by omega,fun l hl=>?_⟩,?_⟩
   . rw [gF_take _ i (by omega)] at hl;rcases List.mem_append.1 hl with h | h
     . exact hall l h
     . rw [List.mem_singleton.1 h];exact hne
   . exact weak_b (fun _ _=>[(0,some 0)])
 . rw [List.take_of_length_le (by omega)] at hall;rw [portI_none hall];exact VLe.rfl
theorem okR_len {n v:Nat} {r:List (Int × Int)} (hv:v < n) (h:okR n v r = true):r.length < n:=by
 obtain ⟨h1,h2⟩:=okR_iff.1 h;have hnd:(v :: (r.map fun l=>l.1.toNat)).Nodup:=by
  refine List.nodup_cons.2 ⟨fun hm=>?_,?_⟩
  . obtain ⟨l,hl,e⟩:=List.mem_map.1 hm;have:=h1 l hl;omega
  . have:∀ (q:List (Int × Int)),(∀ l∈q,0≤l.1)→(q.map (·.1)).Nodup→(q.map fun l=>l.1.toNat).Nodup:=by
     intro q
     induction q with
     | nil=>intro _ _;simp
     | cons x q ih =>
       intro hq hn;simp only [List.map_cons,List.nodup_cons] at hn ⊢;refine ⟨fun hm=>?_,ih (fun l hl=>hq l (by simp [hl])) hn.2⟩;obtain ⟨l,hl,e⟩:=List.mem_map.1 hm;refine hn.1 (List.mem_map.2 ⟨l,hl,?_⟩);have a:=hq l (by simp [hl]);have b:=hq x (by simp);omega
    exact this r (fun l hl=>(h1 l hl).1) h2
 have:=idx_le hnd (n:=n) (fun i hi=>by
  rcases List.mem_cons.1 hi with e | e
  . omega
  . obtain ⟨l,hl,rfl⟩:=List.mem_map.1 e;have:=h1 l hl;omega)
 simp at this;omega
theorem sym_port {p:List (List (Int × Int))} (hr:∀ v,v < p.length→okR p.length v (gR p v) = true) {v:Nat} {l:Int × Int} (hv:v < p.length) (hl:l∈gR p v) :
 (symL p v l = true∧∃ i,i < (gR p l.1.toNat).length∧portI (gR p l.1.toNat) v = (i:Int)∧(gF (gR p l.1.toNat) i).2 = l.2) ∨
 (symL p v l = false∧(portI (gR p l.1.toNat) v = -1∨∃ i,i < (gR p l.1.toNat).length∧portI (gR p l.1.toNat) v = (i:Int)∧(gF (gR p l.1.toNat) i).2≠l.2)):=by
 have hb:=(okR_iff.1 (hr v hv)).1 l hl;have hto:l.1.toNat < p.length:=by omega
 have hnd:=(okR_iff.1 (hr _ hto)).2;rcases portI_cases (gR p l.1.toNat) v with ⟨h1,h2⟩ | ⟨i,h1,h2,h3⟩
 . right;refine ⟨?_,.inl h1⟩;rw [← Bool.not_eq_true,symL,decide_eq_true_eq];exact fun hm=>h2 _ hm rfl
 . by_cases hw:(gF (gR p l.1.toNat) i).2 = l.2
   . left;refine ⟨?_,i,h1,h2,hw⟩;rw [symL,decide_eq_true_eq];have:=gF_mem h1
     rwa [show gF (gR p l.1.toNat) i = ((v:Int),l.2) from Prod.ext h3 hw] at this
   . right;refine ⟨?_,.inr ⟨i,h1,h2,hw⟩⟩;rw [← Bool.not_eq_true,symL,decide_eq_true_eq];intro hm;have:=fst_uniq hnd hm (gF_mem h1) h3.symm;exact hw (by rw [← this])
theorem val_ids {g:G} (h:idsOk g.ids = false):VLe (V.bool false) (V.bool g.valid):=by
 rw [G.valid,h];simp;exact .rfl
theorem val_row {g:G} (v:Nat) (hv:v < g.ports.length) (h:okR g.ports.length v (gR g.ports v) = false):VLe (V.bool false) (V.bool g.valid):=by
 have:portsOk g.ports = false:=by
  rw [portsOk,Bool.and_eq_false_iff];left;rw [← Bool.not_eq_true,rowsOk_iff];intro hh;rw [hh v hv] at h;cases h
 rw [G.valid,this];simp;exact .rfl
theorem val_sym {g:G} (v:Nat) (hv:v < g.ports.length) (l:Int × Int) (hl:l∈gR g.ports v) (h:symL g.ports v l = false):VLe (V.bool false) (V.bool g.valid):=by
 have:portsOk g.ports = false:=by
  rw [portsOk,Bool.and_eq_false_iff];right;rw [← Bool.not_eq_true,symOk,decide_eq_true_eq];intro hh;rw [hh v hv l hl] at h;cases h
 rw [G.valid,this];simp;exact .rfl
set_option maxHeartbeats 4000000 in
theorem rvalid_ok (g:G) (hs:g.Small):Ret Try.prog 57 [g.v] (.bool g.valid):=by
 have s1:=hs.ids;have s2:=hs.ports;refine ret_frz rfl ?_;refine fn_rule mixed Try.func57 rfl hc57 hr57 rfl ?_;by_cases h:1≤g.ids.length∧g.ids.length≤24∧g.ports.length = g.ids.length
 . repeat' ((conv=>whnf);first | (refine Br.dec ?_ ?_ <;> intro _ <;> try omega) | (refine Br.bne ?_ ?_ <;> intro _ <;> try omega) | (refine (in_ok _ _ _ _ _).mono ?_;rintro _ _ _ ⟨rfl,rfl,rfl⟩))
   all_goals (conv=>whnf)
   refine loop_r mixed [1,3] (fun i:Nat=>[(4,.int .i64 i)]) (fun m v=>m = g.ports.length - v∧v≤g.ports.length∧idsOk (g.ids.take v) = true∧∀ u,u < v→okR g.ports.length u (gR g.ports u) = true) g.ports.length 0 ⟨rfl,Nat.zero_le _,rfl,fun u hu=>by omega⟩ ?_ ?_
   . exact weak_b (fun _ _=>[(0,some 0)])
   rintro m v ⟨hm,hv,hid,hrow⟩;have hrl:=gR_len hs.rows v;have hlk:v < g.ports.length→Ret Try.prog 73 [.fz (gR g.ports v).length 2 false (vF (gR g.ports v)),.int .i64 v,.int .i64 g.ports.length] (.bool (okR g.ports.length v (gR g.ports v))):=fun h=>links_ok _ v _ (by omega) (by omega) hrl;rw [idsOk_iff] at hid
   repeat' ((conv=>whnf);first | (refine Br.dec ?_ ?_ <;> intro _ <;> try omega) | (refine Ix.nat (by omega) ?_) | (refine (in_ok _ _ _ _ _).mono ?_;rintro _ _ _ ⟨rfl,rfl,rfl⟩) | (refine (hlk (by omega) _ _).mono ?_;rintro _ _ _ ⟨rfl,rfl,rfl⟩) | (refine Br.any (fun _=>?_) (fun _=>?_)))
   all_goals (conv=>whnf)
   . refine val_row v (by omega) ?_;rw [← Bool.not_eq_true];intro hh;have:=okR_len (by omega) hh;omega
   . refine loop_r mixed [1,3,4] (fun u:Nat=>[(5,.int .i64 u)]) (fun m u=>m = v - u∧u≤v∧gI g.ids v ∉ g.ids.take u) v 0 ⟨rfl,Nat.zero_le _,by simp⟩ ?_ ?_
     . exact weak_b (fun _ _=>[(0,some 0)])
     rintro m u ⟨hm,hu,hnin⟩
     repeat' ((conv=>whnf);first | (refine Br.dec ?_ ?_ <;> intro _ <;> try omega) | (refine Ar.i64 (by omega) (by omega) ?_) | (refine Ix.nat (by omega) ?_))
     all_goals (conv=>whnf)
     . rename_i he;refine val_ids ?_;rw [← Bool.not_eq_true,idsOk_iff];rintro ⟨_,hn⟩;have hn:=hn.sublist (List.take_sublist (v + 1) g.ids);rw [gI_take g.ids v (by omega),List.nodup_append] at hn;refine hn.2.2 (gI g.ids v) ?_ _ (by simp) rfl;rw [← he];have:=List.take_sublist_take_left (l:=g.ids) (show u + 1≤v by omega);exact this.subset (by rw [gI_take g.ids u (by omega)];simp)
     . rename_i he;refine ⟨v - (u + 1),u + 1,by omega,⟨rfl,by omega,?_⟩,?_⟩
       . rw [gI_take g.ids u (by omega),List.mem_append,not_or];exact ⟨hnin,by simp;exact fun e=>he e.symm⟩
       . exact weak_b (fun _ _=>[(0,some 0)])
     . have huv:u = v:=by omega
       subst huv;refine ⟨g.ports.length - (u + 1),u + 1,by omega,⟨rfl,by omega,?_,fun w hw=>?_⟩,?_⟩
       . rw [idsOk_iff,gI_take g.ids u (by omega)];refine ⟨fun a ha=>?_,List.nodup_append.2 ⟨hid.2,by simp,fun a ha b hb e=>hnin (by rw [List.mem_singleton.1 hb] at e;rw [← e];exact ha)⟩⟩;rcases List.mem_append.1 ha with h' | h'
         . exact hid.1 a h'
         . rw [List.mem_singleton.1 h'];assumption
       . by_cases e:w = u
         . subst e;assumption
         . exact hrow w (by omega)
       . exact weak_b (fun _ _=>[(0,some 0)])
   . exact val_row v (by omega) ‹_›
   . refine val_ids ?_;rw [← Bool.not_eq_true,idsOk_iff];rintro ⟨hh,_⟩;have:=hh (gI g.ids v) (gI_mem (by omega));contradiction
   . have hvn:v = g.ports.length:=by omega
     subst hvn;rw [List.take_of_length_le (by omega)] at hid;have hidk:idsOk g.ids = true:=(idsOk_iff _).2 hid;refine loop_r mixed [1,3] (fun i:Nat=>[(6,.int .i64 i)]) (fun m v=>m = g.ports.length - v∧v≤g.ports.length∧∀ u,u < v→∀ l∈gR g.ports u,symL g.ports u l = true) g.ports.length 0 ⟨rfl,Nat.zero_le _,fun u hu=>by omega⟩ ?_ ?_
     . exact weak_b (fun _ _=>[(0,some 0)])
     rintro m v ⟨hm,hv,hsym⟩;have hrl:=gR_len hs.rows v
     repeat' ((conv=>whnf);first | (refine Br.dec ?_ ?_ <;> intro _ <;> try omega))
     all_goals (conv=>whnf)
     . refine loop_r mixed [1,3,6] (fun i:Nat=>[(7,.int .i64 i)]) (fun m i=>m = (gR g.ports v).length - i∧i≤(gR g.ports v).length∧∀ l∈(gR g.ports v).take i,symL g.ports v l = true) (gR g.ports v).length 0 ⟨rfl,Nat.zero_le _,by simp⟩ ?_ ?_
       . exact weak_b (fun _ _=>[(0,some 0)])
       rintro m i ⟨hm,hi,hsl⟩;by_cases hlt:i < (gR g.ports v).length
       . have hvp:v < g.ports.length:=by omega
         have hb:=(okR_iff.1 (hrow v hvp)).1 _ (gF_mem hlt);have hp:=port_ok g hs (gF (gR g.ports v) i).1.toNat v (by omega);rw [show (((gF (gR g.ports v) i).1.toNat:Nat):Int) = (gF (gR g.ports v) i).1 by omega] at hp;have hrl2:=gR_len hs.rows (gF (gR g.ports v) i).1.toNat;rcases sym_port hrow hvp (gF_mem hlt) with ⟨hsy,k,hk,hpk,hw⟩ | ⟨hsy,hpk | ⟨k,hk,hpk,hw⟩⟩
         . rw [hpk] at hp
           repeat' ((conv=>whnf);first | (refine Br.ff ?_) | (refine Br.dec ?_ ?_ <;> intro _ <;> try omega) | (refine Br.bne ?_ ?_ <;> intro _ <;> try omega) | (refine Ar.i64 (by omega) (by omega) ?_) | (refine Ix.nat (by omega) ?_) | (refine Ix.int (by omega) (by omega) ?_) | (refine (hp _ _).mono ?_;rintro _ _ _ ⟨rfl,rfl,rfl⟩))
           all_goals (conv=>whnf)
           all_goals first | (exfalso;omega) | skip
           refine ⟨(gR g.ports v).length - (i + 1),i + 1,by omega,⟨rfl,by omega,fun l hl=>?_⟩,?_⟩
           . rw [gF_take _ i hlt] at hl;rcases List.mem_append.1 hl with h' | h'
             . exact hsl l h'
             . rw [List.mem_singleton.1 h'];exact hsy
           . exact weak_b (fun _ _=>[(0,some 0)])
         . rw [hpk] at hp
           repeat' ((conv=>whnf);first | (refine Br.tt ?_) | (refine Br.dec ?_ ?_ <;> intro _ <;> try omega) | (refine Ix.nat (by omega) ?_) | (refine (hp _ _).mono ?_;rintro _ _ _ ⟨rfl,rfl,rfl⟩))
           all_goals (conv=>whnf)
           all_goals first | exact val_sym v hvp _ (gF_mem hlt) hsy | (exfalso;omega)
         . rw [hpk] at hp
           repeat' ((conv=>whnf);first | (refine Br.ff ?_) | (refine Br.dec ?_ ?_ <;> intro _ <;> try omega) | (refine Br.bne ?_ ?_ <;> intro _ <;> try omega) | (refine Ix.nat (by omega) ?_) | (refine Ix.int (by omega) (by omega) ?_) | (refine (hp _ _).mono ?_;rintro _ _ _ ⟨rfl,rfl,rfl⟩))
           all_goals (conv=>whnf)
           all_goals first | exact val_sym v hvp _ (gF_mem hlt) hsy | (exfalso;omega)
       . repeat' ((conv=>whnf);first | (refine Br.dec ?_ ?_ <;> intro _ <;> try omega) | (refine Ar.i64 (by omega) (by omega) ?_) | (refine Ix.nat (by omega) ?_))
         all_goals (conv=>whnf)
         rw [List.take_of_length_le (by omega)] at hsl;refine ⟨g.ports.length - (v + 1),v + 1,by omega,⟨rfl,by omega,fun u hu l hl=>?_⟩,?_⟩
         . by_cases e:u = v
           . subst e;exact hsl l hl
           . exact hsym u (by omega) l hl
         . exact weak_b (fun _ _=>[(0,some 0)])
     . have hvn:v = g.ports.length:=by omega
       subst hvn;have h1:portsOk g.ports = true:=by
        rw [portsOk,Bool.and_eq_true];exact ⟨rowsOk_iff.2 hrow,by rw [symOk,decide_eq_true_eq];exact hsym⟩
       rw [G.valid,decide_eq_true h,hidk,h1];exact VLe.rfl
 . rw [G.valid,decide_eq_false h,Bool.false_and]
   repeat' ((conv=>whnf);first | (refine Br.dec ?_ ?_ <;> intro _ <;> try omega) | (refine Br.bne ?_ ?_ <;> intro _ <;> try omega) | (refine (in_ok _ _ _ _ _).mono ?_;rintro _ _ _ ⟨rfl,rfl,rfl⟩))
   all_goals (conv=>whnf)
   all_goals exact VLe.rfl
abbrev Cf:=List (List Int)
def gC (c:Cf) (i:Nat):List Int:=c.getD i []
def vC (c:Cf):Nat→Nat→V:=fun i _=>.fz (gC c i).length 1 false (vI (gC c i))
def cV (c:Cf):V:=.fz c.length 1 false (vC c)
structure CSmall (c:Cf):Prop where
 len:c.length≤9223372036854775807
 rows:∀ r∈c,r.length≤9223372036854775807
theorem gC_len {c:Cf} (h:CSmall c) (v:Nat):(gC c v).length≤9223372036854775807:=by
 simp only [gC,List.getD];cases hv:c[v]? with
 | none=>simp
 | some r=>exact h.rows r (List.mem_of_getElem? hv)
def conf (n m:Nat) (B:Nat→Nat→Int × Int) (c:Cf):Bool :=
 decide (c.length = n) && decide (∀ v,v < n→(gC c v).length = m∧∀ x,x < m→(B v x).1≤gI (gC c v) x∧gI (gC c v) x≤(B v x).2)
theorem conf_iff {n m:Nat} {B:Nat→Nat→Int × Int} {c:Cf}:conf n m B c = true↔c.length = n∧∀ v,v < n→(gC c v).length = m∧∀ x,x < m→(B v x).1≤gI (gC c v) x∧gI (gC c v) x≤(B v x).2:=by
 simp only [conf,Bool.and_eq_true,decide_eq_true_eq]
theorem conf_no {n m:Nat} {B:Nat→Nat→Int × Int} {c:Cf} (h:¬ (c.length = n∧∀ v,v < n→(gC c v).length = m∧∀ x,x < m→(B v x).1≤gI (gC c v) x∧gI (gC c v) x≤(B v x).2)):conf n m B c = false:=by
 rw [← Bool.not_eq_true,conf_iff];exact h
def bG (g:G) (gs:List Int) (v x:Nat):Int × Int:=if gI gs x = -1 then (-1,((gR g.ports v).length:Int) - 1) else (0,gI gs x)
set_option maxHeartbeats 4000000 in
theorem bconf_ok (g:G) (hs:g.Small) (hp:g.ports.length = g.ids.length) (c:Cf) (hc:CSmall c) (gs:List Int) (hg:gs.length≤1000) :
 Ret Try.prog 56 [g.v,cV c,.fz gs.length 1 false (vI gs)] (.bool (conf g.ids.length gs.length (bG g gs) c)):=by
 have s1:=hs.ids;have s2:=hc.len;refine ret_frz rfl ?_;refine fn_rule mixed Try.func56 rfl hc56 hr56 rfl ?_
 repeat' ((conv=>whnf);first | (refine Br.bne ?_ ?_ <;> intro _ <;> try omega))
 all_goals (conv=>whnf)
 . exact VLe.bool (conf_no (fun h=>by omega)).symm
 refine loop_r mixed [2,3,19,20] (fun i:Nat=>[(21,.int .i64 i)]) (fun m v=>m = c.length - v∧v≤c.length∧∀ u,u < v→(gC c u).length = gs.length∧∀ x,x < gs.length→(bG g gs u x).1≤gI (gC c u) x∧gI (gC c u) x≤(bG g gs u x).2) c.length 0 ⟨rfl,Nat.zero_le _,fun u hu=>by omega⟩ ?_ ?_
 . exact weak_b (fun _ _=>[(0,some 0)])
 rintro m v ⟨hm,hv,hall⟩;have hcl:=gC_len hc v;have hrl:=gR_len hs.rows v
 repeat' ((conv=>whnf);first | (refine Br.dec ?_ ?_ <;> intro _ <;> try omega) | (refine Br.bne ?_ ?_ <;> intro _ <;> try omega) | (refine Ix.nat (by omega) ?_))
 all_goals (conv=>whnf)
 . rename_i hne;exact VLe.bool (conf_no (fun h=>hne (by have:=(h.2 v (by omega)).1;omega))).symm
 . refine loop_r mixed [2,3,7,19,20,21,31,32] (fun i:Nat=>[(33,.int .i64 i)]) (fun m x=>m = gs.length - x∧x≤gs.length∧∀ y,y < x→(bG g gs v y).1≤gI (gC c v) y∧gI (gC c v) y≤(bG g gs v y).2) gs.length 0 ⟨rfl,Nat.zero_le _,fun u hu=>by omega⟩ ?_ ?_
   . exact weak_b (fun _ _=>[(0,some 0)])
   rintro m x ⟨hm,hx,hrow⟩;have hb:bG g gs v x = if gI gs x = -1 then (-1,((gR g.ports v).length:Int) - 1) else (0,gI gs x):=rfl
   repeat' ((conv=>whnf);first | (refine Br.dec ?_ ?_ <;> intro _ <;> try omega) | (refine Ar.i64 (by omega) (by omega) ?_) | (refine Ix.nat (by omega) ?_) | (refine And.intro rfl ?_))
   all_goals (conv=>whnf)
   all_goals try (exfalso;omega)
   all_goals first
    | (refine VLe.bool (conf_no (fun h=>?_)).symm;have:=(h.2 v (by omega)).2 x (by omega);rw [hb] at this;split at this <;> simp only at this <;> omega)
    | (refine ⟨gs.length - (x + 1),x + 1,by omega,⟨rfl,by omega,fun y hy=>?_⟩,?_⟩
       . by_cases e:y = x
         . subst e;rw [hb];split <;> simp only <;> omega
         . exact hrow y (by omega)
       . exact weak_b (fun _ _=>[(0,some 0)]))
    | (refine ⟨c.length - (v + 1),v + 1,by omega,⟨rfl,by omega,fun u hu=>?_⟩,?_⟩
       . by_cases e:u = v
         . subst e;exact ⟨by omega,fun y hy=>hrow y (by omega)⟩
         . exact hall u (by omega)
       . exact weak_b (fun _ _=>[(0,some 0)]))
 . exact VLe.bool (conf_iff.2 ⟨by omega,fun u hu=>hall u (by omega)⟩).symm
structure Vr where
 name:ByteArray
 kind:Int
 lo:Int
 hi:Int
 pn:Int
 pid:Int
instance:Inhabited Vr:=⟨⟨ByteArray.mk #[],0,0,0,0,0⟩⟩
def gV (l:List Vr) (i:Nat):Vr:=l.getD i default
def vV (l:List Vr):Nat→Nat→V:=fun i j=>match j with
 | 0=>.str (gV l i).name
 | 1=>.int .i64 (gV l i).kind
 | 2=>.int .i64 (gV l i).lo
 | 3=>.int .i64 (gV l i).hi
 | 4=>.int .i64 (gV l i).pn
 | _=>.int .i64 (gV l i).pid
def maxL:List Int→Int→Int
 | [],m=>m
 | a :: r,m=>maxL r (if a > m then a else m)
theorem maxL_snoc:∀ (l:List Int) (a m:Int),maxL (l ++ [a]) m = if a > maxL l m then a else maxL l m
 | [],a,m=>rfl
 | x :: r,a,m=>maxL_snoc r a _
theorem maxL_le:∀ (l:List Int) (m k:Int),m≤k→(∀ a∈l,a≤k)→maxL l m≤k
 | [],m,k,h,_=>h
 | a :: r,m,k,h,hl=>maxL_le r _ k (by have:=hl a (by simp);split <;> omega) (fun b hb=>hl b (by simp [hb]))
theorem maxL_ge:∀ (l:List Int) (m:Int),m≤maxL l m
 | [],m=>Int.le_refl _
 | a :: r,m=>Int.le_trans (by split <;> omega) (maxL_ge r _)
theorem top_ok (g:G) (hs:g.Small):Ret Try.prog 58 [g.v] (.int .i64 (maxL g.ids 0)):=by
 have s1:=hs.ids;refine ret_frz rfl ?_;refine fn_rule mixed Try.func58 rfl hc58 hr58 rfl ?_
 repeat' ((conv=>whnf);first | fail)
 all_goals (conv=>whnf)
 refine loop_r mixed [1] (fun i:Nat=>[(4,.int .i64 i),(3,.int .i64 (maxL (g.ids.take i) 0))]) (fun m i=>m = g.ids.length - i∧i≤g.ids.length) g.ids.length 0 ⟨rfl,Nat.zero_le _⟩ ?_ ?_
 . exact weak_b (fun _ _=>[(0,some 0)])
 rintro m i ⟨hm,hi⟩
 repeat' ((conv=>whnf);first | (refine Br.dec ?_ ?_ <;> intro _ <;> try omega) | (refine Ar.i64 (by omega) (by omega) ?_) | (refine Sv.mk _ rfl ?_) | (refine Ix.nat (by omega) ?_))
 all_goals (conv=>whnf)
 . refine ⟨g.ids.length - (i + 1),i + 1,by omega,⟨rfl,by omega⟩,?_⟩;simp only [gI_take g.ids i (by omega),maxL_snoc];exact weak_b (fun _ _=>[(0,some 0)])
 . rw [List.take_of_length_le (by omega)];exact VLe.rfl
def bV (g:G) (vs:List Vr) (v x:Nat):Int × Int :=
 if (gV vs x).kind = 2 then (0,1) else if (gV vs x).kind = 3 then (-1,((gR g.ports v).length:Int) - 1) else ((gV vs x).lo,(gV vs x).hi + (gV vs x).pn * g.ports.length + (gV vs x).pid * maxL g.ids 0)
structure VOk (vs:List Vr):Prop where
 len:vs.length≤1000
 b:∀ x,0≤(gV vs x).hi∧(gV vs x).hi≤1000∧0≤(gV vs x).pn∧(gV vs x).pn≤1000∧0≤(gV vs x).pid∧(gV vs x).pid≤1000
theorem val_facts {g:G} (h:g.valid = true):1≤g.ids.length∧g.ids.length≤24∧g.ports.length = g.ids.length∧(∀ a∈g.ids,0≤a∧a≤255)∧g.ids.Nodup∧(∀ v,v < g.ports.length→okR g.ports.length v (gR g.ports v) = true)∧∀ v,v < g.ports.length→∀ l∈gR g.ports v,((v:Int),l.2)∈gR g.ports l.1.toNat:=by
 simp only [G.valid,Bool.and_eq_true,decide_eq_true_eq,portsOk] at h;obtain ⟨⟨h1,h2,h3⟩,h4,h5,h6⟩:=h;have h4:=(idsOk_iff _).1 h4;exact ⟨h1,h2,h3,h4.1,h4.2,rowsOk_iff.1 h5,symOk_iff.1 h6⟩
set_option maxHeartbeats 4000000 in
theorem rconf_ok (g:G) (hs:g.Small) (c:Cf) (hc:CSmall c) (vs:List Vr) (hv:VOk vs) :
 Ret Try.prog 37 [g.v,cV c,.fz vs.length 6 false (vV vs)] (.bool (g.valid && conf g.ports.length vs.length (bV g vs) c)):=by
 have s1:=hs.ports;have s2:=hc.len;have hval:=rvalid_ok g hs;have htop:=top_ok g hs;have hvl:=hv.len;refine ret_frz rfl ?_;refine fn_rule mixed Try.func37 rfl hc37 hr37 rfl ?_;by_cases hg:g.valid = true
 . rw [hg] at hval ⊢;rw [Bool.true_and];obtain ⟨f1,f2,f3,f4,f5,f6,f7⟩:=val_facts hg;have ht1:=maxL_le g.ids 0 255 (by omega) (fun a ha=>(f4 a ha).2);have ht0:=maxL_ge g.ids 0;revert htop ht1 ht0;generalize hT:maxL g.ids 0 = T;intro htop ht1 ht0
   repeat' ((conv=>whnf);first | (refine Br.tt ?_) | (refine Br.bne ?_ ?_ <;> intro _ <;> try omega) | (refine (hval _ _).mono ?_;rintro _ _ _ ⟨rfl,rfl,rfl⟩))
   all_goals (conv=>whnf)
   . exact VLe.bool (conf_no (fun h=>by omega)).symm
   refine loop_r mixed [1,2,3,7] (fun i:Nat=>[(8,.int .i64 i)]) (fun m v=>m = g.ports.length - v∧v≤g.ports.length∧∀ u,u < v→(gC c u).length = vs.length∧∀ x,x < vs.length→(bV g vs u x).1≤gI (gC c u) x∧gI (gC c u) x≤(bV g vs u x).2) g.ports.length 0 ⟨rfl,Nat.zero_le _,fun u hu=>by omega⟩ ?_ ?_
   . exact weak_b (fun _ _=>[(0,some 0)])
   rintro m v ⟨hm,hvn,hall⟩;have hcl:=gC_len hc v;have hrl:=gR_len hs.rows v
   repeat' ((conv=>whnf);first | (refine Br.dec ?_ ?_ <;> intro _ <;> try omega) | (refine Br.bne ?_ ?_ <;> intro _ <;> try omega) | (refine Ix.nat (by omega) ?_))
   all_goals (conv=>whnf)
   . rename_i hne;exact VLe.bool (conf_no (fun h=>hne (by have:=(h.2 v (by omega)).1;omega))).symm
   . refine loop_r mixed [1,2,3,7,8] (fun i:Nat=>[(9,.int .i64 i)]) (fun m x=>m = vs.length - x∧x≤vs.length∧∀ y,y < x→(bV g vs v y).1≤gI (gC c v) y∧gI (gC c v) y≤(bV g vs v y).2) vs.length 0 ⟨rfl,Nat.zero_le _,fun u hu=>by omega⟩ ?_ ?_
     . exact weak_b (fun _ _=>[(0,some 0)])
     rintro m x ⟨hm,hx,hrow⟩;have hvb:=hv.b x;have hbx:bV g vs v x = if (gV vs x).kind = 2 then (0,1) else if (gV vs x).kind = 3 then (-1,((gR g.ports v).length:Int) - 1) else ((gV vs x).lo,(gV vs x).hi + (gV vs x).pn * g.ports.length + (gV vs x).pid * T):=by rw [← hT];rfl
     obtain ⟨P1,hP1⟩:∃ P1,(gV vs x).pn * (g.ports.length:Int) = P1:=⟨_,rfl⟩;obtain ⟨P2,hP2⟩:∃ P2,(gV vs x).pid * T = P2:=⟨_,rfl⟩;have hP1b:0≤P1∧P1≤24000:=by
      rw [← hP1];refine ⟨Int.mul_nonneg (by omega) (by omega),?_⟩;exact Int.le_trans (Int.mul_le_mul_of_nonneg_left (show (g.ports.length:Int)≤24 by omega) (by omega)) (by omega)
     have hP2b:0≤P2∧P2≤255000:=by
      rw [← hP2];refine ⟨Int.mul_nonneg (by omega) (by omega),?_⟩;exact Int.le_trans (Int.mul_le_mul_of_nonneg_left ht1 (by omega)) (by omega)
     rw [hP1,hP2] at hbx
     repeat' ((conv=>whnf);first | (refine Br.dec ?_ ?_ <;> intro _ <;> try omega) | (refine Ar.i64 (by omega) (by omega) ?_) | (refine Ix.nat (by omega) ?_) | (refine (htop _ _).mono ?_;rintro _ _ _ ⟨rfl,rfl,rfl⟩) | (refine (in_ok _ _ _ _ _).mono ?_;rintro _ _ _ ⟨rfl,rfl,rfl⟩) | (refine And.intro rfl ?_))
     all_goals (conv=>whnf)
     all_goals try (exfalso;omega)
     all_goals try (rename_i hh;rw [hP1,hP2] at hh)
     all_goals first
      | (refine VLe.bool (conf_no (fun h=>?_)).symm;have:=(h.2 v (by omega)).2 x (by omega);rw [hbx] at this;(repeat' split at this) <;> simp only at this <;> omega)
      | (refine ⟨vs.length - (x + 1),x + 1,by omega,⟨rfl,by omega,fun y hy=>?_⟩,?_⟩
         . by_cases e:y = x
           . subst e;rw [hbx];(repeat' split) <;> simp only <;> omega
           . exact hrow y (by omega)
         . exact weak_b (fun _ _=>[(0,some 0)]))
      | (refine ⟨g.ports.length - (v + 1),v + 1,by omega,⟨rfl,by omega,fun u hu=>?_⟩,?_⟩
         . by_cases e:u = v
           . subst e;exact ⟨by omega,fun y hy=>hrow y (by omega)⟩
           . exact hall u (by omega)
         . exact weak_b (fun _ _=>[(0,some 0)]))
   . exact VLe.bool (conf_iff.2 ⟨by omega,fun u hu=>hall u (by omega)⟩).symm
 . simp only [Bool.not_eq_true] at hg;rw [hg] at hval ⊢;rw [Bool.false_and]
   repeat' ((conv=>whnf);first | (refine Br.ff ?_) | (refine (hval _ _).mono ?_;rintro _ _ _ ⟨rfl,rfl,rfl⟩))
   all_goals (conv=>whnf)
   all_goals exact VLe.rfl
end Go.Proofs.Ytgajaabakpfbbaa
